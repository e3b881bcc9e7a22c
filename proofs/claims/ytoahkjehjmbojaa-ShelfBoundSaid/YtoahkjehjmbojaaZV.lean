/- Functions and their walks (printed by auto.py over the engine). -/
import Derived.Test.YtoahkjehjmbojaaProg
import Derived.Test.YtoahkjehjmbojaaZU
namespace Go.Proofs.Ytoahkjehjmbojaa
open Go Go.Eng
set_option linter.unusedSimpArgs false
set_option linter.unusedVariables false

theorem T.call40 : Callable Try.prog 40 := Callable.mk Try.func40 (by kernel_rfl) (by kernel_rfl)
theorem T.call58 : Callable Try.prog 58 := Callable.mk Try.func58 (by kernel_rfl) (by kernel_rfl)
theorem T.call60 : Callable Try.prog 60 := Callable.mk Try.func60 (by kernel_rfl) (by kernel_rfl)
theorem T.call62 : Callable Try.prog 62 := Callable.mk Try.func62 (by kernel_rfl) (by kernel_rfl)
theorem T.call63 : Callable Try.prog 63 := Callable.mk Try.func63 (by kernel_rfl) (by kernel_rfl)
theorem T.call64 : Callable Try.prog 64 := Callable.mk Try.func64 (by kernel_rfl) (by kernel_rfl)
theorem T.call65 : Callable Try.prog 65 := Callable.mk Try.func65 (by kernel_rfl) (by kernel_rfl)
theorem T.fld124_0 : fldOff Try.prog 124 0 = some 0 := by kernel_rfl
theorem T.fld124_1 : fldOff Try.prog 124 1 = some 1 := by kernel_rfl
theorem T.zero3 : zeroOf Try.prog 3 = some (.int .i64 0) := by kernel_rfl


mutual
def law_Bound.j1 : Nat → List Act → Int → Int → List Int → List (List UInt8) → Int → List Pair_int__string_ → Option Bool
  | 0, _, _, _, _, _, _, _ => none
  | k857 + 1, a1, t13, x71, l90, l95, x98, l101 => (law_Bound.l1 k857 a1 t13 l90 l95 x98 l101 (w64 (x71 + 1)))
def law_Bound.l4 : Nat → List Act → Int → Int → List Int → List (List UInt8) → (List Int) × Shelf_int__string_ → Int → Int → List Pair_int__string_ → Option Bool
  | 0, _, _, _, _, _, _, _, _, _ => none
  | k750 + 1, a1, t13, x71, l181, l186, t662, x741, x742, l745 => (if x741 < (l181.length : Int) then (Option.bind (idx l181 x741) fun x761 => (Option.bind (sha_Get k750 (⟨x742, l745⟩ : Shelf_int__string_) x761) fun t779 => (Option.bind (idx (t662.1) x741) fun x798 => (Option.bind (idx l181 x741) fun x812 => (if x798 = x812 then (Option.bind (idx l186 x741) fun x827 => (if t779.1 = x827 then (if t779.2.1 = true then (law_Bound.l4 k750 a1 t13 x71 l181 l186 t662 (w64 (x741 + 1)) t779.2.2.most t779.2.2.pairs) else (some false)) else (some false))) else (some false)))))) else (law_Bound.j1 k750 a1 t13 x71 l181 l186 x742 l745))
def law_Bound.j5 : Nat → List Act → Int → Int → List Int → List (List UInt8) → (List Int) × Shelf_int__string_ → Bool → Int → List Pair_int__string_ → Option Bool
  | 0, _, _, _, _, _, _, _, _, _ => none
  | k739 + 1, a1, t13, x71, l181, l186, t662, b684, x685, l688 => (if b684 = true then (some false) else (law_Bound.l4 k739 a1 t13 x71 l181 l186 t662 0 x685 l688))
def law_Bound.j3 : Nat → List Act → Int → Int → List Int → List (List UInt8) → Int → List Pair_int__string_ → Option Bool
  | 0, _, _, _, _, _, _, _ => none
  | k657 + 1, a1, t13, x71, l181, l186, x189, l192 => (Option.bind (sha_Keys k657 (⟨x189, l192⟩ : Shelf_int__string_)) fun t662 => (if ((t662.1).length : Int) = (l181.length : Int) then (Option.bind (sha_Len k657 t662.2) fun t700 => (if t700.1 = (l181.length : Int) then (law_Bound.j5 k657 a1 t13 x71 l181 l186 t662 (decide (t13 < ((t662.1).length : Int))) t700.2.most t700.2.pairs) else (law_Bound.j5 k657 a1 t13 x71 l181 l186 t662 true t700.2.most t700.2.pairs))) else (law_Bound.j5 k657 a1 t13 x71 l181 l186 t662 true t662.2.most t662.2.pairs)))
def law_Bound.j4 : Nat → List Act → Int → List Int → List (List UInt8) → Int → Int → Int × Shelf_int__string_ → Bool → Option Bool
  | 0, _, _, _, _, _, _, _, _ => none
  | k255 + 1, a1, t13, l56, l61, x71, x127, t218, b235 => (if x127 < (l56.length : Int) then (Option.bind (cut l56 0 x127) fun m257 => (Option.bind (cat ([] : List Int) m257) fun l260 => (Option.bind (cut l61 0 x127) fun m275 => (Option.bind (cat ([] : List (List UInt8)) m275) fun l278 => (Option.bind (cut l56 (w64 (x127 + 1)) (l56.length : Int)) fun m293 => (Option.bind (cat l260 m293) fun l296 => (Option.bind (cut l61 (w64 (x127 + 1)) (l61.length : Int)) fun m310 => (Option.bind (cat l278 m310) fun l313 => (law_Bound.j3 k255 a1 t13 x71 l296 l313 t218.2.most t218.2.pairs))))))))) else (law_Bound.j3 k255 a1 t13 x71 l56 l61 t218.2.most t218.2.pairs))
def law_Bound.l3 : Nat → List Act → Int → List Int → List (List UInt8) → Int → Int × Shelf_int__string_ → List Int → List (List UInt8) → Int → Option Bool
  | 0, _, _, _, _, _, _, _, _, _ => none
  | k375 + 1, a1, t13, l56, l61, x71, t345, l364, l369, x372 => (if x372 < (l56.length : Int) then (Option.bind (idx l56 x372) fun x392 => (Option.bind (idx a1 x71) fun x406 => (Option.bind (sh_pick k375 x406.N 16) fun t420 => (if t420 ≤ x392 then (Option.bind (idx l56 x372) fun x426 => (Option.bind (cat l364 ([x426] : List Int)) fun l447 => (Option.bind (idx l61 x372) fun x458 => (Option.bind (cat l369 ([x458] : List (List UInt8))) fun l479 => (law_Bound.l3 k375 a1 t13 l56 l61 x71 t345 l447 l479 (w64 (x372 + 1))))))) else (law_Bound.l3 k375 a1 t13 l56 l61 x71 t345 l364 l369 (w64 (x372 + 1))))))) else (if t345.1 = (w64 ((l56.length : Int) - (l364.length : Int))) then (law_Bound.j3 k375 a1 t13 x71 l364 l369 t345.2.most t345.2.pairs) else (some false)))
def law_Bound.j2 : Nat → List Act → Int → List Int → List (List UInt8) → Int → List Pair_int__string_ → Int → Int → Int → Option Bool
  | 0, _, _, _, _, _, _, _, _, _ => none
  | k178 + 1, a1, t13, l56, l61, x65, l68, x71, t122, x127 => (Option.bind (idx a1 x71) fun x199 => (if x199.Kind = 1 then (Option.bind (sha_Drop k178 (⟨x65, l68⟩ : Shelf_int__string_) t122) fun t218 => (if ((decide (x127 < (l56.length : Int))) == (decide (t218.1 = 0))) = true then (if x127 < (l56.length : Int) then (law_Bound.j4 k178 a1 t13 l56 l61 x71 x127 t218 false) else (if t218.1 = 141 then (law_Bound.j4 k178 a1 t13 l56 l61 x71 x127 t218 (!(decide (t218.1 = 141)))) else (some false))) else (some false))) else (if x199.Kind = 2 then (Option.bind (sha_Prune k178 (⟨x65, l68⟩ : Shelf_int__string_) a1 x71) fun t345 => (law_Bound.l3 k178 a1 t13 l56 l61 x71 t345 [] [] 0)) else (Option.bind (idx a1 x71) fun x516 => (Option.bind (sha_Put k178 (⟨x65, l68⟩ : Shelf_int__string_) t122 ([u8of x516.N, u8of x71] : List UInt8)) fun t542 => (if x127 < (l56.length : Int) then (Option.bind (cat ([] : List (List UInt8)) l61) fun l560 => (Option.bind (idx l560 x127) fun x575 => (Option.bind (upd l560 x127 ([u8of x516.N, u8of x71] : List UInt8)) fun l589 => (if t542.1 = 0 then (law_Bound.j3 k178 a1 t13 x71 l56 l589 t542.2.most t542.2.pairs) else (some false))))) else (if t13 ≤ (l56.length : Int) then (if t542.1 = 140 then (law_Bound.j1 k178 a1 t13 x71 l56 l61 t542.2.most t542.2.pairs) else (some false)) else (Option.bind (cat l56 ([t122] : List Int)) fun l621 => (Option.bind (cat l61 ([([u8of x516.N, u8of x71] : List UInt8)] : List (List UInt8))) fun l638 => (if t542.1 = 0 then (law_Bound.j3 k178 a1 t13 x71 l621 l638 t542.2.most t542.2.pairs) else (some false)))))))))))
def law_Bound.l2 : Nat → List Act → Int → List Int → List (List UInt8) → Int → List Pair_int__string_ → Int → Int → Int → Option Bool
  | 0, _, _, _, _, _, _, _, _, _ => none
  | k135 + 1, a1, t13, l56, l61, x65, l68, x71, t122, x132 => (if x132 < (l56.length : Int) then (Option.bind (idx l56 x132) fun x145 => (if x145 = t122 then (law_Bound.j2 k135 a1 t13 l56 l61 x65 l68 x71 t122 x132) else (law_Bound.l2 k135 a1 t13 l56 l61 x65 l68 x71 t122 (w64 (x132 + 1))))) else (law_Bound.j2 k135 a1 t13 l56 l61 x65 l68 x71 t122 x132))
def law_Bound.l1 : Nat → List Act → Int → List Int → List (List UInt8) → Int → List Pair_int__string_ → Int → Option Bool
  | 0, _, _, _, _, _, _, _ => none
  | k74 + 1, a1, t13, l56, l61, x65, l68, x71 => (if x71 < (a1.length : Int) then (Option.bind (idx a1 x71) fun x108 => (Option.bind (sh_pick k74 x108.K 16) fun t122 => (law_Bound.l2 k74 a1 t13 l56 l61 x65 l68 x71 t122 0))) else (some true))
end
def law_Bound (k : Nat) (a0 : Int) (a1 : List Act) : Option Bool := (if 2147483647 < (a1.length : Int) then (some true) else (Option.bind (sh_awake k) fun t8 => (Option.bind (sh_pick k a0 12) fun t13 => (Option.bind (sha_New k t13) fun t18 => (if t8 = true then (if (t18.1).isSome = true then (Option.bind (t18.1) fun x28 => (if t18.2 = 0 then (law_Bound.l1 k a1 t13 [] [] x28.most x28.pairs 0) else (some false))) else (some false)) else (some false))))))
set_option maxRecDepth 100000 in
set_option maxHeartbeats 1000000 in
theorem law_Bound_calls (k : Nat) (a0 : Int) (a1 : List Act) {A1 : Option Addr} {c1 : Nat} {F1 : Nat → Prop} {w : World} (hR1 : SlR Act.rp w F1 A1 c1 a1) (hF1 : ∀ b, F1 b → NK w [] b) {r_ : Bool} (h_ : law_Bound k a0 a1 = some r_) :
    Calls Try.prog 11 [.int .i64 a0, .slice A1 a1.length c1].toArray w fun e w' => e = .returned (.bool r_) ∧ St w (KS []) w' [] := by
  have hF := h_
  clear h_
  unfold law_Bound at hF
  have S := St.ofFalse (As := []) (St.init0 w)
  refine enter 265 [(0, .int .i64 a0), (1, .slice A1 a1.length c1)] Try.func11 rfl rfl rfl rfl ?_
  refine WCode.seq ?_
  refine WCode.region ?_
  obtain ⟨b1, w2, E3, S4, X5, L6⟩ := St.box S Try.prog 119 (.slice A1 a1.length c1)
  change St _ _ _ [[(b1, .cells #[.slice A1 a1.length c1] 119 (0, 0))]] at S4
  refine WOps.e (E3 rfl) rfl ?_
  refine WOps.p (G.assign rfl) rfl ?_
  refine WOps.nil ?_
  refine WEx.then_ ?_
  refine WCode.seq ?_
  refine WCode.seq ?_
  refine WCode.region ?_
  refine WOps.r (G.load1 T.one119 rfl (cell_blk (S4.blk 0 rfl) rfl)) rfl ?_
  refine WOps.p (G.len T.el119 rfl) rfl ?_
  refine WOps.p (G.gtr rfl rfl rfl) rfl ?_
  refine WOps.nil ?_
  refine WEx.then_ ?_
  rcases ite_some hF with ⟨h7, hF⟩ | ⟨h7, hF⟩
  ·
    refine WCode.cond_t (kb (b := decide (2147483647 < (a1.length : Int))) rfl (decide_eq_true h7)) ?_
    refine WCode.seq ?_
    refine WCode.region ?_
    refine WOps.p (G.assign rfl) rfl ?_
    refine WOps.nil ?_
    refine WEx.then_ ?_
    refine WCode.ret ?_
    refine WEx.then_ret ?_
    obtain rfl := some_eq hF
    refine WEx.ret1 rfl rfl ?_
    exact ⟨rfl, St.keep (As := []) S4⟩
  ·
    refine WCode.cond_f (kb (b := decide (2147483647 < (a1.length : Int))) rfl (decide_eq_false h7)) ?_
    refine WCode.skip ?_
    refine WEx.then_ ?_
    refine WCode.seq ?_
    refine WCode.region ?_
    obtain ⟨t8, hc9, hF⟩ := bind_some hF
    refine WOps.call T.call40 evs_nil rfl ?_
    refine (sh_awake_calls k hc9).mono ?_
    rintro _ w10 ⟨rfl, T11⟩
    have S12 := St.callN (As := []) S4 T11
    change St _ _ _ [[(b1, .cells #[.slice A1 a1.length c1] 119 (0, 0))]] at S12
    refine ⟨_, rfl, ?_⟩
    refine WOps.p (G.assign rfl) rfl ?_
    refine WOps.nil ?_
    refine WEx.then_ ?_
    refine WCode.seq ?_
    refine WCode.region ?_
    refine WOps.p (G.move rfl) rfl ?_
    obtain ⟨t13, hc14, hF⟩ := bind_some hF
    refine WOps.call T.call54 (evs_cons rfl (evs_cons rfl evs_nil)) rfl ?_
    refine (sh_pick_calls k a0 12 hc14).mono ?_
    rintro _ w15 ⟨rfl, T16⟩
    have S17 := St.callN (As := []) S12 T16
    change St _ _ _ [[(b1, .cells #[.slice A1 a1.length c1] 119 (0, 0))]] at S17
    refine ⟨_, rfl, ?_⟩
    refine WOps.p (G.assign rfl) rfl ?_
    refine WOps.nil ?_
    refine WEx.then_ ?_
    refine WCode.seq ?_
    refine WCode.region ?_
    refine WOps.p (G.move rfl) rfl ?_
    obtain ⟨t18, hc19, hF⟩ := bind_some hF
    refine WOps.call T.call58 (evs_cons rfl evs_nil) rfl ?_
    refine (sha_New_calls k t13 hc19).mono ?_
    rintro _ w20 ⟨v23, G24, rfl, hO25, T21⟩
    have S22 := St.callN (As := []) S17 T21
    change St _ _ _ [G24, [(b1, .cells #[.slice A1 a1.length c1] 119 (0, 0))]] at S22
    refine ⟨_, rfl, ?_⟩
    refine WOps.p (G.move rfl) rfl ?_
    refine WOps.p (G.extract rfl rfl) rfl ?_
    refine WOps.p (G.extract rfl rfl) rfl ?_
    refine WOps.p (G.assign rfl) rfl ?_
    refine WOps.p (G.assign rfl) rfl ?_
    refine WOps.nil ?_
    refine WEx.then_ ?_
    refine WCode.forget (l' := [(3, .pointer (some ⟨b1, 0, none⟩)), (5, .bool t8), (6, .int .i64 t13), (7, v23), (8, .int .i64 t18.2)]) ⟨rfl, rfl, rfl, rfl, rfl, trivial⟩ ?_
    refine WCode.seq ?_
    refine WCode.seq ?_
    refine WCode.region ?_
    refine WOps.p (G.move rfl) rfl ?_
    refine WOps.p (G.not rfl rfl) rfl ?_
    refine WOps.p (G.move rfl) rfl ?_
    rcases ite_some hF with ⟨h26, hF⟩ | ⟨h26, hF⟩
    ·
      refine WOps.on rfl (kbl (b := !t8) rfl (show (!t8) = false from by rw [h26]; rfl)) ?_
      refine WOps.p (G.move rfl) rfl ?_
      rcases ite_some hF with ⟨h27, hF⟩ | ⟨h27, hF⟩
      ·
        refine WOps.on rfl (kbl (b := !t8) rfl (show (!t8) = false from by rw [h26]; rfl)) ?_
        obtain ⟨x28, hc29, hF⟩ := bind_some hF
        have ho30 := hO25
        rw [hc29] at ho30
        obtain ⟨p31, hv32, hO33⟩ := ho30
        subst hv32
        obtain ⟨cs34, G35, ho36, hg37⟩ := hO33
        obtain ⟨A38, c39, G40, rfl, hO41, hq42⟩ := ho36
        have S43 : St _ _ _ [[(p31, .cells #[.int .i64 x28.most, .slice A38 x28.pairs.length c39] 183 (0, 0))], G40, [(b1, .cells #[.slice A1 a1.length c1] 119 (0, 0))]] := S22.objs (by rw [hg37, hq42]; simp)
        refine WOps.p (G.eqp_nil Try.underlying120 rfl rfl rfl) rfl ?_
        refine WOps.p (G.pick_f (kb (b := !t8) rfl (show (!t8) = false from by rw [h26]; rfl)) rfl) rfl ?_
        refine WOps.p (G.move rfl) rfl ?_
        refine WOps.on rfl rfl ?_
        refine WOps.p (G.move rfl) rfl ?_
        refine WOps.on rfl rfl ?_
        refine WOps.p (G.neq rfl rfl rfl) rfl ?_
        refine WOps.p (G.pick_f rfl rfl) rfl ?_
        refine WOps.nil ?_
        refine WEx.then_ ?_
        refine WCode.forget (l' := [(3, .pointer (some ⟨b1, 0, none⟩)), (6, .int .i64 t13), (7, .pointer (some ⟨p31, 0, none⟩)), (46, .bool (!(decide (t18.2 = 0))))]) ⟨rfl, rfl, rfl, rfl, trivial⟩ ?_
        rcases ite_some hF with ⟨h44, hF⟩ | ⟨h44, hF⟩
        ·
          refine WCode.cond_f (kb (b := !(decide (t18.2 = 0))) rfl (show (!(decide (t18.2 = 0))) = false from by rw [(decide_eq_true h44)]; rfl)) ?_
          refine WCode.skip ?_
          refine WEx.then_ ?_
          refine WCode.seq ?_
          refine WCode.region ?_
          refine WOps.p (G.assign rfl) rfl ?_
          refine WOps.nil ?_
          refine WEx.then_ ?_
          refine WCode.seq ?_
          refine WCode.region ?_
          refine WOps.p (G.assign rfl) rfl ?_
          refine WOps.nil ?_
          refine WEx.then_ ?_
          refine WCode.seq ?_
          refine WCode.seq ?_
          refine WCode.region ?_
          obtain ⟨b45, w46, E47, S48, X49, L50⟩ := St.var S43 (z := .int .i64 0) T.zero3
          change St _ _ _ [[(b45, .cells #[.int .i64 0] 3 (0, 0))], [(p31, .cells #[.int .i64 x28.most, .slice A38 x28.pairs.length c39] 183 (0, 0))], G40, [(b1, .cells #[.slice A1 a1.length c1] 119 (0, 0))]] at S48
          refine WOps.e E47 rfl ?_
          obtain ⟨w51, E52, S53⟩ := St.store (P := Try.prog) S48 0 3 (.int .i64 0) (off := 0) (cur' := #[.int .i64 0]) rfl T.size3_1 rfl rfl rfl
          change St _ _ _ [[(b45, .cells #[.int .i64 0] 3 (0, 0))], [(p31, .cells #[.int .i64 x28.most, .slice A38 x28.pairs.length c39] 183 (0, 0))], G40, [(b1, .cells #[.slice A1 a1.length c1] 119 (0, 0))]] at S53
          refine WOps.u (E52 rfl rfl) ?_
          refine WOps.nil ?_
          refine WEx.then_ ?_
          refine WCode.block ?_
          have S76 := S53.emp
          have S78 := S76.emp
          have S80 := S78.front 4 rfl
          change St _ _ _ [G40, ([] : Grp), ([] : Grp), [(b45, .cells #[.int .i64 0] 3 (0, 0))], [(p31, .cells #[.int .i64 x28.most, .slice A38 x28.pairs.length c39] 183 (0, 0))], [(b1, .cells #[.slice A1 a1.length c1] 119 (0, 0))]] at S80
          have S81 := S80.front 1 rfl
          change St _ _ _ [([] : Grp), G40, ([] : Grp), [(b45, .cells #[.int .i64 0] 3 (0, 0))], [(p31, .cells #[.int .i64 x28.most, .slice A38 x28.pairs.length c39] 183 (0, 0))], [(b1, .cells #[.slice A1 a1.length c1] 119 (0, 0))]] at S81
          have S82 := S81.front 2 rfl
          change St _ _ _ [([] : Grp), ([] : Grp), G40, [(b45, .cells #[.int .i64 0] 3 (0, 0))], [(p31, .cells #[.int .i64 x28.most, .slice A38 x28.pairs.length c39] 183 (0, 0))], [(b1, .cells #[.slice A1 a1.length c1] 119 (0, 0))]] at S82
          have S83 := S82.front 3 rfl
          change St _ _ _ [[(b45, .cells #[.int .i64 0] 3 (0, 0))], ([] : Grp), ([] : Grp), G40, [(p31, .cells #[.int .i64 x28.most, .slice A38 x28.pairs.length c39] 183 (0, 0))], [(b1, .cells #[.slice A1 a1.length c1] 119 (0, 0))]] at S83
          have S84 := S83.front 5 rfl
          change St _ _ _ [[(b1, .cells #[.slice A1 a1.length c1] 119 (0, 0))], [(b45, .cells #[.int .i64 0] 3 (0, 0))], ([] : Grp), ([] : Grp), G40, [(p31, .cells #[.int .i64 x28.most, .slice A38 x28.pairs.length c39] 183 (0, 0))]] at S84
          have S85 := S84.front 5 rfl
          change St _ _ _ [[(p31, .cells #[.int .i64 x28.most, .slice A38 x28.pairs.length c39] 183 (0, 0))], [(b1, .cells #[.slice A1 a1.length c1] 119 (0, 0))], [(b45, .cells #[.int .i64 0] 3 (0, 0))], ([] : Grp), ([] : Grp), G40] at S85
          refine WCode.forget (l' := [(3, .pointer (some ⟨b1, 0, none⟩)), (6, .int .i64 t13), (7, .pointer (some ⟨p31, 0, none⟩)), (9, .slice none 0 0), (10, .slice none 0 0), (11, .pointer (some ⟨b45, 0, none⟩))]) ⟨rfl, rfl, rfl, rfl, rfl, rfl, trivial⟩ ?_
          refine WCode.loop (fun n_ l_ w_ => ∃ A54 : Option Addr, ∃ c55 : Nat, ∃ l56 : List Int, ∃ G57 : Grp, ∃ A59 : Option Addr, ∃ c60 : Nat, ∃ l61 : List (List UInt8), ∃ G62 : Grp, ∃ b64 : Nat, ∃ x65 : Int, ∃ A66 : Option Addr, ∃ c67 : Nat, ∃ l68 : List Pair_int__string_, ∃ G69 : Grp, ∃ x71 : Int, l_ = [(3, .pointer (some ⟨b1, 0, none⟩)), (6, .int .i64 t13), (7, .pointer (some ⟨p31, 0, none⟩)), (9, .slice A54 l56.length c55), (10, .slice A59 l61.length c60), (11, .pointer (some ⟨b64, 0, none⟩))] ∧ law_Bound.l1 n_ a1 t13 l56 l61 x65 l68 x71 = some r_ ∧ (SlO 3 (Rp.int .i64) (.slice A54 l56.length c55) l56 G57) ∧ (SlO 9 Rp.str (.slice A59 l61.length c60) l61 G62) ∧ (SlO 187 Pair_int__string_.rp (.slice A66 l68.length c67) l68 G69) ∧ St w (KS []) w_ [[(p31, .cells #[.int .i64 x65, .slice A66 l68.length c67] 183 (0, 0))], [(b1, .cells #[.slice A1 a1.length c1] 119 (0, 0))], [(b64, .cells #[.int .i64 x71] 3 (0, 0))], G57, G62, G69]) k ⟨none, 0, [], ([] : Grp), none, 0, [], ([] : Grp), b45, x28.most, A38, c39, x28.pairs, G40, 0, rfl, hF, (SlO.nil 3 (Rp.int .i64)), (SlO.nil 9 Rp.str), hO41, S85⟩ ?_
          rintro n75 _ w72 ⟨A54, c55, l56, G57, A59, c60, l61, G62, b64, x65, A66, c67, l68, G69, x71, rfl, hF, hO58, hO63, hO70, S73⟩
          obtain _ | k74 := n75
          · exact nomatch (show (none : Option Bool) = some r_ from hF)
          rw [law_Bound.l1] at hF
          refine WCode.seq ?_
          refine WCode.seq ?_
          refine WCode.region ?_
          refine WOps.r (G.load1 T.one3 rfl (cell_blk (S73.blk 2 rfl) rfl)) rfl ?_
          refine WOps.r (G.load1 T.one119 rfl (cell_blk (S73.blk 1 rfl) rfl)) rfl ?_
          refine WOps.p (G.len T.el119 rfl) rfl ?_
          refine WOps.p (G.lss rfl rfl rfl) rfl ?_
          refine WOps.nil ?_
          refine WEx.then_ ?_
          rcases ite_some hF with ⟨h87, hF⟩ | ⟨h87, hF⟩
          ·
            refine WCode.cond_t (kb (b := decide (x71 < (a1.length : Int))) rfl (decide_eq_true h87)) ?_
            refine WCode.skip ?_
            refine WEx.then_ ?_
            refine WCode.cutseq (fun l_ w_ => ∃ q106 : Nat, ∃ A88 : Option Addr, ∃ c89 : Nat, ∃ l90 : List Int, ∃ G91 : Grp, ∃ A93 : Option Addr, ∃ c94 : Nat, ∃ l95 : List (List UInt8), ∃ G96 : Grp, ∃ x98 : Int, ∃ A99 : Option Addr, ∃ c100 : Nat, ∃ l101 : List Pair_int__string_, ∃ G102 : Grp, l_ = [(3, .pointer (some ⟨b1, 0, none⟩)), (6, .int .i64 t13), (7, .pointer (some ⟨p31, 0, none⟩)), (9, .slice A88 l90.length c89), (10, .slice A93 l95.length c94), (11, .pointer (some ⟨b64, 0, none⟩))] ∧ law_Bound.j1 q106 a1 t13 x71 l90 l95 x98 l101 = some r_ ∧ q106 ≤ k74 ∧ (SlO 3 (Rp.int .i64) (.slice A88 l90.length c89) l90 G91) ∧ (SlO 9 Rp.str (.slice A93 l95.length c94) l95 G96) ∧ (SlO 187 Pair_int__string_.rp (.slice A99 l101.length c100) l101 G102) ∧ St w (KS []) w_ [[(p31, .cells #[.int .i64 x98, .slice A99 l101.length c100] 183 (0, 0))], [(b1, .cells #[.slice A1 a1.length c1] 119 (0, 0))], [(b64, .cells #[.int .i64 x71] 3 (0, 0))], G91, G96, G102]) ?_ ?_
            ·
              refine WCode.block ?_
              refine WCode.seq ?_
              refine WCode.region ?_
              refine WOps.r (G.load1 T.one119 rfl (cell_blk (S73.blk 1 rfl) rfl)) rfl ?_
              refine WOps.r (G.load1 T.one3 rfl (cell_blk (S73.blk 2 rfl) rfl)) rfl ?_
              obtain ⟨x108, hc109, hF⟩ := bind_some hF
              obtain ⟨j110, ej111, hj112, hl113⟩ := idx_spec hc109
              obtain ⟨b114, o115, cs116, eA117, hf118, hc119, hr120⟩ := SlR.at_ (hR1.ext (S73.keepF hF1)) hj112
              have hq121 : cs116 = [.int .i64 x108.Kind, .int .i64 x108.K, .int .i64 x108.N] := hr120
              subst hq121
              change cellsAt _ _ (o115 + j110 * 3) [.int .i64 x108.Kind, .int .i64 x108.K, .int .i64 x108.N] at hc119
              refine WOps.p (G.idx T.el119 rfl eA117 rfl ej111 hl113) rfl ?_
              refine WOps.p (G.field T.fld124_1 rfl (show o115 + j110 * 3 + 1 = o115 + j110 * 3 + 1 from rfl)) rfl ?_
              refine WOps.r (G.load1 T.one3 rfl (cellsAt.at hc119 1 rfl)) rfl ?_
              obtain ⟨t122, hc123, hF⟩ := bind_some hF
              refine WOps.call T.call54 (evs_cons rfl (evs_cons rfl evs_nil)) rfl ?_
              refine (sh_pick_calls k74 x108.K 16 hc123).mono ?_
              rintro _ w124 ⟨rfl, T125⟩
              have S126 := St.callN (As := []) S73 T125
              change St _ _ _ [[(p31, .cells #[.int .i64 x65, .slice A66 l68.length c67] 183 (0, 0))], [(b1, .cells #[.slice A1 a1.length c1] 119 (0, 0))], [(b64, .cells #[.int .i64 x71] 3 (0, 0))], G57, G62, G69] at S126
              refine ⟨_, rfl, ?_⟩
              refine WOps.p (G.assign rfl) rfl ?_
              refine WOps.nil ?_
              refine WEx.then_ ?_
              refine WCode.forget (l' := [(3, .pointer (some ⟨b1, 0, none⟩)), (6, .int .i64 t13), (7, .pointer (some ⟨p31, 0, none⟩)), (9, .slice A54 l56.length c55), (10, .slice A59 l61.length c60), (11, .pointer (some ⟨b64, 0, none⟩)), (12, .int .i64 t122)]) ⟨rfl, rfl, rfl, rfl, rfl, rfl, rfl, trivial⟩ ?_
              refine WCode.seq ?_
              refine WCode.region ?_
              refine WOps.p (G.assign rfl) rfl ?_
              refine WOps.nil ?_
              refine WEx.then_ ?_
              refine WCode.cutseq (fun l_ w_ => ∃ q130 : Nat, ∃ x127 : Int, l_ = [(3, .pointer (some ⟨b1, 0, none⟩)), (6, .int .i64 t13), (7, .pointer (some ⟨p31, 0, none⟩)), (9, .slice A54 l56.length c55), (10, .slice A59 l61.length c60), (11, .pointer (some ⟨b64, 0, none⟩)), (12, .int .i64 t122), (13, .int .i64 x127)] ∧ law_Bound.j2 q130 a1 t13 l56 l61 x65 l68 x71 t122 x127 = some r_ ∧ q130 ≤ k74 ∧ St w (KS []) w_ [[(p31, .cells #[.int .i64 x65, .slice A66 l68.length c67] 183 (0, 0))], [(b1, .cells #[.slice A1 a1.length c1] 119 (0, 0))], [(b64, .cells #[.int .i64 x71] 3 (0, 0))], G57, G62, G69]) ?_ ?_
              ·
                refine WCode.block ?_
                have S137 := S126.front 5 rfl
                change St _ _ _ [G69, [(p31, .cells #[.int .i64 x65, .slice A66 l68.length c67] 183 (0, 0))], [(b1, .cells #[.slice A1 a1.length c1] 119 (0, 0))], [(b64, .cells #[.int .i64 x71] 3 (0, 0))], G57, G62] at S137
                have S138 := S137.front 5 rfl
                change St _ _ _ [G62, G69, [(p31, .cells #[.int .i64 x65, .slice A66 l68.length c67] 183 (0, 0))], [(b1, .cells #[.slice A1 a1.length c1] 119 (0, 0))], [(b64, .cells #[.int .i64 x71] 3 (0, 0))], G57] at S138
                have S139 := S138.front 5 rfl
                change St _ _ _ [G57, G62, G69, [(p31, .cells #[.int .i64 x65, .slice A66 l68.length c67] 183 (0, 0))], [(b1, .cells #[.slice A1 a1.length c1] 119 (0, 0))], [(b64, .cells #[.int .i64 x71] 3 (0, 0))]] at S139
                have S140 := S139.front 5 rfl
                change St _ _ _ [[(b64, .cells #[.int .i64 x71] 3 (0, 0))], G57, G62, G69, [(p31, .cells #[.int .i64 x65, .slice A66 l68.length c67] 183 (0, 0))], [(b1, .cells #[.slice A1 a1.length c1] 119 (0, 0))]] at S140
                have S141 := S140.front 5 rfl
                change St _ _ _ [[(b1, .cells #[.slice A1 a1.length c1] 119 (0, 0))], [(b64, .cells #[.int .i64 x71] 3 (0, 0))], G57, G62, G69, [(p31, .cells #[.int .i64 x65, .slice A66 l68.length c67] 183 (0, 0))]] at S141
                have S142 := S141.front 5 rfl
                change St _ _ _ [[(p31, .cells #[.int .i64 x65, .slice A66 l68.length c67] 183 (0, 0))], [(b1, .cells #[.slice A1 a1.length c1] 119 (0, 0))], [(b64, .cells #[.int .i64 x71] 3 (0, 0))], G57, G62, G69] at S142
                refine WCode.forget (l' := [(3, .pointer (some ⟨b1, 0, none⟩)), (6, .int .i64 t13), (7, .pointer (some ⟨p31, 0, none⟩)), (9, .slice A54 l56.length c55), (10, .slice A59 l61.length c60), (11, .pointer (some ⟨b64, 0, none⟩)), (12, .int .i64 t122), (13, .int .i64 0)]) ⟨rfl, rfl, rfl, rfl, rfl, rfl, rfl, rfl, trivial⟩ ?_
                refine WCode.loop (fun n_ l_ w_ => ∃ x132 : Int, l_ = [(3, .pointer (some ⟨b1, 0, none⟩)), (6, .int .i64 t13), (7, .pointer (some ⟨p31, 0, none⟩)), (9, .slice A54 l56.length c55), (10, .slice A59 l61.length c60), (11, .pointer (some ⟨b64, 0, none⟩)), (12, .int .i64 t122), (13, .int .i64 x132)] ∧ law_Bound.l2 n_ a1 t13 l56 l61 x65 l68 x71 t122 x132 = some r_ ∧ n_ ≤ k74 ∧ St w (KS []) w_ [[(p31, .cells #[.int .i64 x65, .slice A66 l68.length c67] 183 (0, 0))], [(b1, .cells #[.slice A1 a1.length c1] 119 (0, 0))], [(b64, .cells #[.int .i64 x71] 3 (0, 0))], G57, G62, G69]) k74 ⟨0, rfl, hF, Nat.le_refl _, S142⟩ ?_
                rintro n136 _ w133 ⟨x132, rfl, hF, hle143, S134⟩
                obtain _ | k135 := n136
                · exact nomatch (show (none : Option Bool) = some r_ from hF)
                rw [law_Bound.l2] at hF
                refine WCode.seq ?_
                refine WCode.seq ?_
                refine WCode.region ?_
                refine WOps.p (G.move rfl) rfl ?_
                refine WOps.p (G.move rfl) rfl ?_
                refine WOps.p (G.len T.el33 rfl) rfl ?_
                refine WOps.p (G.lss rfl rfl rfl) rfl ?_
                refine WOps.p (G.move rfl) rfl ?_
                rcases ite_some hF with ⟨h144, hF⟩ | ⟨h144, hF⟩
                ·
                  refine WOps.on rfl (kbl (b := decide (x132 < (l56.length : Int))) rfl (decide_eq_true h144)) ?_
                  refine WOps.p (G.move rfl) rfl ?_
                  refine WOps.on rfl (kbl (b := decide (x132 < (l56.length : Int))) rfl (decide_eq_true h144)) ?_
                  refine WOps.p (G.move rfl) rfl ?_
                  refine WOps.on rfl (kbl (b := decide (x132 < (l56.length : Int))) rfl (decide_eq_true h144)) ?_
                  obtain ⟨x145, hc146, hF⟩ := bind_some hF
                  obtain ⟨j147, ej148, hj149, hl150⟩ := idx_spec hc146
                  obtain ⟨b151, o152, cs153, eA154, hf155, hc156, hr157⟩ := SlR.at_ (hO58.rd (fun b o hb => S134.grp 3 rfl hb)) hj149
                  have hq158 : cs153 = [.int .i64 x145] := hr157
                  subst hq158
                  change cellsAt _ _ (o152 + j147 * 1) [.int .i64 x145] at hc156
                  refine WOps.p (G.idx T.el33 rfl eA154 rfl ej148 hl150) rfl ?_
                  refine WOps.on rfl (kbl (b := decide (x132 < (l56.length : Int))) rfl (decide_eq_true h144)) ?_
                  refine WOps.r (G.load1 T.one3 rfl (cellsAt.at0 hc156)) rfl ?_
                  refine WOps.on rfl (kbl (b := decide (x132 < (l56.length : Int))) rfl (decide_eq_true h144)) ?_
                  refine WOps.p (G.move rfl) rfl ?_
                  refine WOps.on rfl (kbl (b := decide (x132 < (l56.length : Int))) rfl (decide_eq_true h144)) ?_
                  refine WOps.p (G.neq rfl rfl rfl) rfl ?_
                  refine WOps.p (G.pick_t (kb (b := decide (x132 < (l56.length : Int))) rfl (decide_eq_true h144)) rfl) rfl ?_
                  refine WOps.nil ?_
                  refine WEx.then_ ?_
                  rcases ite_some hF with ⟨h159, hF⟩ | ⟨h159, hF⟩
                  ·
                    refine WCode.cond_f (kb (b := !(decide (x145 = t122))) rfl (show (!(decide (x145 = t122))) = false from by rw [(decide_eq_true h159)]; rfl)) ?_
                    refine WCode.exit ?_
                    refine WEx.then_exit ?_
                    refine WEx.then_exit ?_
                    refine WEx.in_exit ?_
                    have S160 := S134.front 5 rfl
                    change St _ _ _ [G69, [(p31, .cells #[.int .i64 x65, .slice A66 l68.length c67] 183 (0, 0))], [(b1, .cells #[.slice A1 a1.length c1] 119 (0, 0))], [(b64, .cells #[.int .i64 x71] 3 (0, 0))], G57, G62] at S160
                    have S161 := S160.front 5 rfl
                    change St _ _ _ [G62, G69, [(p31, .cells #[.int .i64 x65, .slice A66 l68.length c67] 183 (0, 0))], [(b1, .cells #[.slice A1 a1.length c1] 119 (0, 0))], [(b64, .cells #[.int .i64 x71] 3 (0, 0))], G57] at S161
                    have S162 := S161.front 5 rfl
                    change St _ _ _ [G57, G62, G69, [(p31, .cells #[.int .i64 x65, .slice A66 l68.length c67] 183 (0, 0))], [(b1, .cells #[.slice A1 a1.length c1] 119 (0, 0))], [(b64, .cells #[.int .i64 x71] 3 (0, 0))]] at S162
                    have S163 := S162.front 5 rfl
                    change St _ _ _ [[(b64, .cells #[.int .i64 x71] 3 (0, 0))], G57, G62, G69, [(p31, .cells #[.int .i64 x65, .slice A66 l68.length c67] 183 (0, 0))], [(b1, .cells #[.slice A1 a1.length c1] 119 (0, 0))]] at S163
                    have S164 := S163.front 5 rfl
                    change St _ _ _ [[(b1, .cells #[.slice A1 a1.length c1] 119 (0, 0))], [(b64, .cells #[.int .i64 x71] 3 (0, 0))], G57, G62, G69, [(p31, .cells #[.int .i64 x65, .slice A66 l68.length c67] 183 (0, 0))]] at S164
                    have S165 := S164.front 5 rfl
                    change St _ _ _ [[(p31, .cells #[.int .i64 x65, .slice A66 l68.length c67] 183 (0, 0))], [(b1, .cells #[.slice A1 a1.length c1] 119 (0, 0))], [(b64, .cells #[.int .i64 x71] 3 (0, 0))], G57, G62, G69] at S165
                    refine WEx.cutend _ ?_ ⟨k135, x132, rfl, hF, (by omega), S165⟩
                    exact ⟨rfl, rfl, rfl, rfl, rfl, rfl, rfl, rfl, trivial⟩
                  ·
                    refine WCode.cond_t (kb (b := !(decide (x145 = t122))) rfl (show (!(decide (x145 = t122))) = true from by rw [(decide_eq_false h159)]; rfl)) ?_
                    refine WCode.skip ?_
                    refine WEx.then_ ?_
                    refine WCode.block ?_
                    refine WCode.region ?_
                    refine WOps.p (G.move rfl) rfl ?_
                    refine WOps.p (G.add rfl rfl (r := (w64 (x132 + 1))) rfl) rfl ?_
                    refine WOps.p (G.assign rfl) rfl ?_
                    refine WOps.nil ?_
                    refine WEx.in_normal ?_
                    have S166 := S134.front 5 rfl
                    change St _ _ _ [G69, [(p31, .cells #[.int .i64 x65, .slice A66 l68.length c67] 183 (0, 0))], [(b1, .cells #[.slice A1 a1.length c1] 119 (0, 0))], [(b64, .cells #[.int .i64 x71] 3 (0, 0))], G57, G62] at S166
                    have S167 := S166.front 5 rfl
                    change St _ _ _ [G62, G69, [(p31, .cells #[.int .i64 x65, .slice A66 l68.length c67] 183 (0, 0))], [(b1, .cells #[.slice A1 a1.length c1] 119 (0, 0))], [(b64, .cells #[.int .i64 x71] 3 (0, 0))], G57] at S167
                    have S168 := S167.front 5 rfl
                    change St _ _ _ [G57, G62, G69, [(p31, .cells #[.int .i64 x65, .slice A66 l68.length c67] 183 (0, 0))], [(b1, .cells #[.slice A1 a1.length c1] 119 (0, 0))], [(b64, .cells #[.int .i64 x71] 3 (0, 0))]] at S168
                    have S169 := S168.front 5 rfl
                    change St _ _ _ [[(b64, .cells #[.int .i64 x71] 3 (0, 0))], G57, G62, G69, [(p31, .cells #[.int .i64 x65, .slice A66 l68.length c67] 183 (0, 0))], [(b1, .cells #[.slice A1 a1.length c1] 119 (0, 0))]] at S169
                    have S170 := S169.front 5 rfl
                    change St _ _ _ [[(b1, .cells #[.slice A1 a1.length c1] 119 (0, 0))], [(b64, .cells #[.int .i64 x71] 3 (0, 0))], G57, G62, G69, [(p31, .cells #[.int .i64 x65, .slice A66 l68.length c67] 183 (0, 0))]] at S170
                    have S171 := S170.front 5 rfl
                    change St _ _ _ [[(p31, .cells #[.int .i64 x65, .slice A66 l68.length c67] 183 (0, 0))], [(b1, .cells #[.slice A1 a1.length c1] 119 (0, 0))], [(b64, .cells #[.int .i64 x71] 3 (0, 0))], G57, G62, G69] at S171
                    refine WEx.again _ _ (by omega) ?_ ⟨w64 (x132 + 1), rfl, hF, (by omega), S171⟩
                    exact ⟨rfl, rfl, rfl, rfl, rfl, rfl, rfl, rfl, trivial⟩
                ·
                  refine WOps.off rfl (kbl (b := decide (x132 < (l56.length : Int))) rfl (decide_eq_false h144)) rfl rfl ?_
                  refine WOps.off rfl (kbl (b := decide (x132 < (l56.length : Int))) rfl (decide_eq_false h144)) rfl rfl ?_
                  refine WOps.off rfl (kbl (b := decide (x132 < (l56.length : Int))) rfl (decide_eq_false h144)) rfl rfl ?_
                  refine WOps.off rfl (kbl (b := decide (x132 < (l56.length : Int))) rfl (decide_eq_false h144)) rfl rfl ?_
                  refine WOps.off rfl (kbl (b := decide (x132 < (l56.length : Int))) rfl (decide_eq_false h144)) rfl rfl ?_
                  refine WOps.off rfl (kbl (b := decide (x132 < (l56.length : Int))) rfl (decide_eq_false h144)) rfl rfl ?_
                  refine WOps.p (G.pick_f (kb (b := decide (x132 < (l56.length : Int))) rfl (decide_eq_false h144)) rfl) rfl ?_
                  refine WOps.nil ?_
                  refine WEx.then_ ?_
                  refine WCode.cond_f rfl ?_
                  refine WCode.exit ?_
                  refine WEx.then_exit ?_
                  refine WEx.then_exit ?_
                  refine WEx.in_exit ?_
                  have S172 := S134.front 5 rfl
                  change St _ _ _ [G69, [(p31, .cells #[.int .i64 x65, .slice A66 l68.length c67] 183 (0, 0))], [(b1, .cells #[.slice A1 a1.length c1] 119 (0, 0))], [(b64, .cells #[.int .i64 x71] 3 (0, 0))], G57, G62] at S172
                  have S173 := S172.front 5 rfl
                  change St _ _ _ [G62, G69, [(p31, .cells #[.int .i64 x65, .slice A66 l68.length c67] 183 (0, 0))], [(b1, .cells #[.slice A1 a1.length c1] 119 (0, 0))], [(b64, .cells #[.int .i64 x71] 3 (0, 0))], G57] at S173
                  have S174 := S173.front 5 rfl
                  change St _ _ _ [G57, G62, G69, [(p31, .cells #[.int .i64 x65, .slice A66 l68.length c67] 183 (0, 0))], [(b1, .cells #[.slice A1 a1.length c1] 119 (0, 0))], [(b64, .cells #[.int .i64 x71] 3 (0, 0))]] at S174
                  have S175 := S174.front 5 rfl
                  change St _ _ _ [[(b64, .cells #[.int .i64 x71] 3 (0, 0))], G57, G62, G69, [(p31, .cells #[.int .i64 x65, .slice A66 l68.length c67] 183 (0, 0))], [(b1, .cells #[.slice A1 a1.length c1] 119 (0, 0))]] at S175
                  have S176 := S175.front 5 rfl
                  change St _ _ _ [[(b1, .cells #[.slice A1 a1.length c1] 119 (0, 0))], [(b64, .cells #[.int .i64 x71] 3 (0, 0))], G57, G62, G69, [(p31, .cells #[.int .i64 x65, .slice A66 l68.length c67] 183 (0, 0))]] at S176
                  have S177 := S176.front 5 rfl
                  change St _ _ _ [[(p31, .cells #[.int .i64 x65, .slice A66 l68.length c67] 183 (0, 0))], [(b1, .cells #[.slice A1 a1.length c1] 119 (0, 0))], [(b64, .cells #[.int .i64 x71] 3 (0, 0))], G57, G62, G69] at S177
                  refine WEx.cutend _ ?_ ⟨k135, x132, rfl, hF, (by omega), S177⟩
                  exact ⟨rfl, rfl, rfl, rfl, rfl, rfl, rfl, rfl, trivial⟩
              ·
                rintro _ w128 ⟨q130, x127, rfl, hF, hq131, S129⟩
                obtain _ | k178 := q130
                · exact nomatch (show (none : Option Bool) = some r_ from hF)
                rw [law_Bound.j2] at hF
                refine WCode.seq ?_
                refine WCode.region ?_
                refine WOps.p (G.move rfl) rfl ?_
                refine WOps.p (G.move rfl) rfl ?_
                refine WOps.p (G.len T.el33 rfl) rfl ?_
                refine WOps.p (G.lss rfl rfl rfl) rfl ?_
                refine WOps.p (G.assign rfl) rfl ?_
                refine WOps.nil ?_
                refine WEx.then_ ?_
                refine WCode.seq ?_
                refine WCode.region ?_
                refine WOps.p (G.assign rfl) rfl ?_
                refine WOps.nil ?_
                refine WEx.then_ ?_
                refine WCode.seq ?_
                refine WCode.region ?_
                refine WOps.p (G.assign rfl) rfl ?_
                refine WOps.nil ?_
                refine WEx.then_ ?_
                refine WCode.cutseq (fun l_ w_ => ∃ q197 : Nat, ∃ A179 : Option Addr, ∃ c180 : Nat, ∃ l181 : List Int, ∃ G182 : Grp, ∃ A184 : Option Addr, ∃ c185 : Nat, ∃ l186 : List (List UInt8), ∃ G187 : Grp, ∃ x189 : Int, ∃ A190 : Option Addr, ∃ c191 : Nat, ∃ l192 : List Pair_int__string_, ∃ G193 : Grp, l_ = [(3, .pointer (some ⟨b1, 0, none⟩)), (6, .int .i64 t13), (7, .pointer (some ⟨p31, 0, none⟩)), (9, .slice A179 l181.length c180), (10, .slice A184 l186.length c185), (11, .pointer (some ⟨b64, 0, none⟩))] ∧ law_Bound.j3 q197 a1 t13 x71 l181 l186 x189 l192 = some r_ ∧ q197 ≤ k178 ∧ (SlO 3 (Rp.int .i64) (.slice A179 l181.length c180) l181 G182) ∧ (SlO 9 Rp.str (.slice A184 l186.length c185) l186 G187) ∧ (SlO 187 Pair_int__string_.rp (.slice A190 l192.length c191) l192 G193) ∧ St w (KS []) w_ [[(p31, .cells #[.int .i64 x189, .slice A190 l192.length c191] 183 (0, 0))], [(b1, .cells #[.slice A1 a1.length c1] 119 (0, 0))], [(b64, .cells #[.int .i64 x71] 3 (0, 0))], G182, G187, G193]) ?_ ?_
                ·
                  refine WCode.seq ?_
                  refine WCode.region ?_
                  refine WOps.r (G.load1 T.one119 rfl (cell_blk (S129.blk 1 rfl) rfl)) rfl ?_
                  refine WOps.r (G.load1 T.one3 rfl (cell_blk (S129.blk 2 rfl) rfl)) rfl ?_
                  obtain ⟨x199, hc200, hF⟩ := bind_some hF
                  obtain ⟨j201, ej202, hj203, hl204⟩ := idx_spec hc200
                  obtain ⟨b205, o206, cs207, eA208, hf209, hc210, hr211⟩ := SlR.at_ (hR1.ext (S129.keepF hF1)) hj203
                  have hq212 : cs207 = [.int .i64 x199.Kind, .int .i64 x199.K, .int .i64 x199.N] := hr211
                  subst hq212
                  change cellsAt _ _ (o206 + j201 * 3) [.int .i64 x199.Kind, .int .i64 x199.K, .int .i64 x199.N] at hc210
                  refine WOps.p (G.idx T.el119 rfl eA208 rfl ej202 hl204) rfl ?_
                  refine WOps.p (G.field T.fld124_0 rfl (show o206 + j201 * 3 + 0 = o206 + j201 * 3 + 0 from rfl)) rfl ?_
                  refine WOps.r (G.load1 T.one3 rfl (cellsAt.at0 hc210)) rfl ?_
                  refine WOps.nil ?_
                  refine WEx.then_ ?_
                  refine WCode.block ?_
                  refine WCode.seq ?_
                  refine WCode.region ?_
                  refine WOps.p (G.eql rfl rfl rfl) rfl ?_
                  refine WOps.p (G.assign rfl) rfl ?_
                  refine WOps.nil ?_
                  refine WEx.then_ ?_
                  rcases ite_some hF with ⟨h213, hF⟩ | ⟨h213, hF⟩
                  ·
                    refine WCode.cond_t (kb (b := decide (x199.Kind = 1)) rfl (decide_eq_true h213)) ?_
                    refine WCode.seq ?_
                    refine WCode.region ?_
                    refine WOps.p (G.move rfl) rfl ?_
                    refine WOps.p (G.move rfl) rfl ?_
                    have S214 := S129.front 5 rfl
                    change St _ _ _ [G69, [(p31, .cells #[.int .i64 x65, .slice A66 l68.length c67] 183 (0, 0))], [(b1, .cells #[.slice A1 a1.length c1] 119 (0, 0))], [(b64, .cells #[.int .i64 x71] 3 (0, 0))], G57, G62] at S214
                    have S215 := S214.front 1 rfl
                    change St _ _ _ [[(p31, .cells #[.int .i64 x65, .slice A66 l68.length c67] 183 (0, 0))], G69, [(b1, .cells #[.slice A1 a1.length c1] 119 (0, 0))], [(b64, .cells #[.int .i64 x71] 3 (0, 0))], G57, G62] at S215
                    have hO216 : ObjO 183 Shelf_int__string_.rp p31 (⟨x65, l68⟩ : Shelf_int__string_) ([(p31, .cells #[.int .i64 x65, .slice A66 l68.length c67] 183 (0, 0))] ++ (G69)) := ⟨_, _, ⟨A66, c67, G69, rfl, hO70, rfl⟩, rfl⟩
                    have S217 : St _ _ _ [[(p31, .cells #[.int .i64 x65, .slice A66 l68.length c67] 183 (0, 0))] ++ (G69), [(b1, .cells #[.slice A1 a1.length c1] 119 (0, 0))], [(b64, .cells #[.int .i64 x71] 3 (0, 0))], G57, G62] := S215.objs (by simp)
                    obtain ⟨t218, hc219, hF⟩ := bind_some hF
                    refine WOps.call T.call59 (evs_cons rfl (evs_cons rfl evs_nil)) rfl ?_
                    refine (sha_Drop_calls k178 (⟨x65, l68⟩ : Shelf_int__string_) t122 hO216 hc219 (St.hpN (As := [[(p31, .cells #[.int .i64 x65, .slice A66 l68.length c67] 183 (0, 0))] ++ (G69)]) S217)).mono ?_
                    rintro _ w220 ⟨G223, rfl, hO224, T221⟩
                    have S222 := St.callN (As := [[(p31, .cells #[.int .i64 x65, .slice A66 l68.length c67] 183 (0, 0))] ++ (G69)]) S217 T221
                    change St _ _ _ [G223, [(b1, .cells #[.slice A1 a1.length c1] 119 (0, 0))], [(b64, .cells #[.int .i64 x71] 3 (0, 0))], G57, G62] at S222
                    refine ⟨_, rfl, ?_⟩
                    obtain ⟨cs225, G226, ho227, hg228⟩ := hO224
                    obtain ⟨A229, c230, G231, rfl, hO232, hq233⟩ := ho227
                    have S234 : St _ _ _ [[(p31, .cells #[.int .i64 t218.2.most, .slice A229 t218.2.pairs.length c230] 183 (0, 0))], G231, [(b1, .cells #[.slice A1 a1.length c1] 119 (0, 0))], [(b64, .cells #[.int .i64 x71] 3 (0, 0))], G57, G62] := S222.objs (by rw [hg228, hq233]; simp)
                    refine WOps.p (G.assign rfl) rfl ?_
                    refine WOps.nil ?_
                    refine WEx.then_ ?_
                    refine WCode.forget (l' := [(3, .pointer (some ⟨b1, 0, none⟩)), (6, .int .i64 t13), (7, .pointer (some ⟨p31, 0, none⟩)), (9, .slice A54 l56.length c55), (10, .slice A59 l61.length c60), (11, .pointer (some ⟨b64, 0, none⟩)), (13, .int .i64 x127), (14, .bool (decide (x127 < (l56.length : Int)))), (15, .slice none 0 0), (16, .slice none 0 0), (17, .int .i64 t218.1)]) ⟨rfl, rfl, rfl, rfl, rfl, rfl, rfl, rfl, rfl, rfl, rfl, trivial⟩ ?_
                    refine WCode.cutseq (fun l_ w_ => ∃ q238 : Nat, ∃ b235 : Bool, l_ = [(3, .pointer (some ⟨b1, 0, none⟩)), (6, .int .i64 t13), (7, .pointer (some ⟨p31, 0, none⟩)), (9, .slice A54 l56.length c55), (10, .slice A59 l61.length c60), (11, .pointer (some ⟨b64, 0, none⟩)), (13, .int .i64 x127), (14, .bool (decide (x127 < (l56.length : Int)))), (15, .slice none 0 0), (16, .slice none 0 0), (133, .bool (decide (x127 < (l56.length : Int)))), (134, .bool (!(decide (x127 < (l56.length : Int))))), (135, .bool (!(decide (x127 < (l56.length : Int))))), (138, .bool b235)] ∧ law_Bound.j4 q238 a1 t13 l56 l61 x71 x127 t218 b235 = some r_ ∧ q238 ≤ k178 ∧ St w (KS []) w_ [[(p31, .cells #[.int .i64 t218.2.most, .slice A229 t218.2.pairs.length c230] 183 (0, 0))], [(b1, .cells #[.slice A1 a1.length c1] 119 (0, 0))], [(b64, .cells #[.int .i64 x71] 3 (0, 0))], G57, G62, G231]) ?_ ?_
                    ·
                      refine WCode.seq ?_
                      refine WCode.region ?_
                      refine WOps.p (G.move rfl) rfl ?_
                      refine WOps.p (G.move rfl) rfl ?_
                      refine WOps.p (G.eql rfl rfl rfl) rfl ?_
                      refine WOps.p (G.neqb Try.underlying4 rfl rfl rfl) rfl ?_
                      refine WOps.p (G.move rfl) rfl ?_
                      rcases ite_some hF with ⟨h240, hF⟩ | ⟨h240, hF⟩
                      ·
                        refine WOps.on rfl (kbl (b := !((decide (x127 < (l56.length : Int))) == (decide (t218.1 = 0)))) rfl (show (!((decide (x127 < (l56.length : Int))) == (decide (t218.1 = 0)))) = false from by rw [h240]; rfl)) ?_
                        refine WOps.p (G.move rfl) rfl ?_
                        refine WOps.on rfl (kbl (b := !((decide (x127 < (l56.length : Int))) == (decide (t218.1 = 0)))) rfl (show (!((decide (x127 < (l56.length : Int))) == (decide (t218.1 = 0)))) = false from by rw [h240]; rfl)) ?_
                        refine WOps.p (G.not rfl rfl) rfl ?_
                        refine WOps.on rfl (kbl (b := !((decide (x127 < (l56.length : Int))) == (decide (t218.1 = 0)))) rfl (show (!((decide (x127 < (l56.length : Int))) == (decide (t218.1 = 0)))) = false from by rw [h240]; rfl)) ?_
                        refine WOps.p (G.move rfl) rfl ?_
                        rcases ite_some hF with ⟨h241, hF⟩ | ⟨h241, hF⟩
                        ·
                          refine WOps.off rfl (kbl (b := !(decide (x127 < (l56.length : Int)))) rfl (show (!(decide (x127 < (l56.length : Int)))) = false from by rw [(decide_eq_true h241)]; rfl)) rfl rfl ?_
                          refine WOps.off rfl (kbl (b := !(decide (x127 < (l56.length : Int)))) rfl (show (!(decide (x127 < (l56.length : Int)))) = false from by rw [(decide_eq_true h241)]; rfl)) rfl rfl ?_
                          refine WOps.on rfl (kbl (b := !((decide (x127 < (l56.length : Int))) == (decide (t218.1 = 0)))) rfl (show (!((decide (x127 < (l56.length : Int))) == (decide (t218.1 = 0)))) = false from by rw [h240]; rfl)) ?_
                          refine WOps.p (G.pick_f (kb (b := !(decide (x127 < (l56.length : Int)))) rfl (show (!(decide (x127 < (l56.length : Int)))) = false from by rw [(decide_eq_true h241)]; rfl)) rfl) rfl ?_
                          refine WOps.p (G.pick_f (kb (b := !((decide (x127 < (l56.length : Int))) == (decide (t218.1 = 0)))) rfl (show (!((decide (x127 < (l56.length : Int))) == (decide (t218.1 = 0)))) = false from by rw [h240]; rfl)) rfl) rfl ?_
                          refine WOps.nil ?_
                          refine WEx.then_ ?_
                          refine WCode.cond_f rfl ?_
                          refine WCode.skip ?_
                          have S242 := S234.front 1 rfl
                          change St _ _ _ [G231, [(p31, .cells #[.int .i64 t218.2.most, .slice A229 t218.2.pairs.length c230] 183 (0, 0))], [(b1, .cells #[.slice A1 a1.length c1] 119 (0, 0))], [(b64, .cells #[.int .i64 x71] 3 (0, 0))], G57, G62] at S242
                          have S243 := S242.front 5 rfl
                          change St _ _ _ [G62, G231, [(p31, .cells #[.int .i64 t218.2.most, .slice A229 t218.2.pairs.length c230] 183 (0, 0))], [(b1, .cells #[.slice A1 a1.length c1] 119 (0, 0))], [(b64, .cells #[.int .i64 x71] 3 (0, 0))], G57] at S243
                          have S244 := S243.front 5 rfl
                          change St _ _ _ [G57, G62, G231, [(p31, .cells #[.int .i64 t218.2.most, .slice A229 t218.2.pairs.length c230] 183 (0, 0))], [(b1, .cells #[.slice A1 a1.length c1] 119 (0, 0))], [(b64, .cells #[.int .i64 x71] 3 (0, 0))]] at S244
                          have S245 := S244.front 5 rfl
                          change St _ _ _ [[(b64, .cells #[.int .i64 x71] 3 (0, 0))], G57, G62, G231, [(p31, .cells #[.int .i64 t218.2.most, .slice A229 t218.2.pairs.length c230] 183 (0, 0))], [(b1, .cells #[.slice A1 a1.length c1] 119 (0, 0))]] at S245
                          have S246 := S245.front 5 rfl
                          change St _ _ _ [[(b1, .cells #[.slice A1 a1.length c1] 119 (0, 0))], [(b64, .cells #[.int .i64 x71] 3 (0, 0))], G57, G62, G231, [(p31, .cells #[.int .i64 t218.2.most, .slice A229 t218.2.pairs.length c230] 183 (0, 0))]] at S246
                          have S247 := S246.front 5 rfl
                          change St _ _ _ [[(p31, .cells #[.int .i64 t218.2.most, .slice A229 t218.2.pairs.length c230] 183 (0, 0))], [(b1, .cells #[.slice A1 a1.length c1] 119 (0, 0))], [(b64, .cells #[.int .i64 x71] 3 (0, 0))], G57, G62, G231] at S247
                          refine WEx.cutend _ ?_ ⟨k178, false, rfl, hF, (by omega), S247⟩
                          exact ⟨rfl, rfl, rfl, rfl, rfl, rfl, rfl, rfl, rfl, rfl, rfl, rfl, rfl, rfl, trivial⟩
                        ·
                          refine WOps.on rfl (kbl (b := !(decide (x127 < (l56.length : Int)))) rfl (show (!(decide (x127 < (l56.length : Int)))) = true from by rw [(decide_eq_false h241)]; rfl)) ?_
                          refine WOps.p (G.move rfl) rfl ?_
                          refine WOps.on rfl (kbl (b := !(decide (x127 < (l56.length : Int)))) rfl (show (!(decide (x127 < (l56.length : Int)))) = true from by rw [(decide_eq_false h241)]; rfl)) ?_
                          refine WOps.p (G.neq rfl rfl rfl) rfl ?_
                          refine WOps.on rfl (kbl (b := !((decide (x127 < (l56.length : Int))) == (decide (t218.1 = 0)))) rfl (show (!((decide (x127 < (l56.length : Int))) == (decide (t218.1 = 0)))) = false from by rw [h240]; rfl)) ?_
                          refine WOps.p (G.pick_t (kb (b := !(decide (x127 < (l56.length : Int)))) rfl (show (!(decide (x127 < (l56.length : Int)))) = true from by rw [(decide_eq_false h241)]; rfl)) rfl) rfl ?_
                          refine WOps.p (G.pick_f (kb (b := !((decide (x127 < (l56.length : Int))) == (decide (t218.1 = 0)))) rfl (show (!((decide (x127 < (l56.length : Int))) == (decide (t218.1 = 0)))) = false from by rw [h240]; rfl)) rfl) rfl ?_
                          refine WOps.nil ?_
                          refine WEx.then_ ?_
                          rcases ite_some hF with ⟨h248, hF⟩ | ⟨h248, hF⟩
                          ·
                            refine WCode.cond_f (kb (b := !(decide (t218.1 = 141))) rfl (show (!(decide (t218.1 = 141))) = false from by rw [(decide_eq_true h248)]; rfl)) ?_
                            refine WCode.skip ?_
                            have S249 := S234.front 1 rfl
                            change St _ _ _ [G231, [(p31, .cells #[.int .i64 t218.2.most, .slice A229 t218.2.pairs.length c230] 183 (0, 0))], [(b1, .cells #[.slice A1 a1.length c1] 119 (0, 0))], [(b64, .cells #[.int .i64 x71] 3 (0, 0))], G57, G62] at S249
                            have S250 := S249.front 5 rfl
                            change St _ _ _ [G62, G231, [(p31, .cells #[.int .i64 t218.2.most, .slice A229 t218.2.pairs.length c230] 183 (0, 0))], [(b1, .cells #[.slice A1 a1.length c1] 119 (0, 0))], [(b64, .cells #[.int .i64 x71] 3 (0, 0))], G57] at S250
                            have S251 := S250.front 5 rfl
                            change St _ _ _ [G57, G62, G231, [(p31, .cells #[.int .i64 t218.2.most, .slice A229 t218.2.pairs.length c230] 183 (0, 0))], [(b1, .cells #[.slice A1 a1.length c1] 119 (0, 0))], [(b64, .cells #[.int .i64 x71] 3 (0, 0))]] at S251
                            have S252 := S251.front 5 rfl
                            change St _ _ _ [[(b64, .cells #[.int .i64 x71] 3 (0, 0))], G57, G62, G231, [(p31, .cells #[.int .i64 t218.2.most, .slice A229 t218.2.pairs.length c230] 183 (0, 0))], [(b1, .cells #[.slice A1 a1.length c1] 119 (0, 0))]] at S252
                            have S253 := S252.front 5 rfl
                            change St _ _ _ [[(b1, .cells #[.slice A1 a1.length c1] 119 (0, 0))], [(b64, .cells #[.int .i64 x71] 3 (0, 0))], G57, G62, G231, [(p31, .cells #[.int .i64 t218.2.most, .slice A229 t218.2.pairs.length c230] 183 (0, 0))]] at S253
                            have S254 := S253.front 5 rfl
                            change St _ _ _ [[(p31, .cells #[.int .i64 t218.2.most, .slice A229 t218.2.pairs.length c230] 183 (0, 0))], [(b1, .cells #[.slice A1 a1.length c1] 119 (0, 0))], [(b64, .cells #[.int .i64 x71] 3 (0, 0))], G57, G62, G231] at S254
                            refine WEx.cutend _ ?_ ⟨k178, !(decide (t218.1 = 141)), rfl, hF, (by omega), S254⟩
                            exact ⟨rfl, rfl, rfl, rfl, rfl, rfl, rfl, rfl, rfl, rfl, rfl, rfl, rfl, rfl, trivial⟩
                          ·
                            refine WCode.cond_t (kb (b := !(decide (t218.1 = 141))) rfl (show (!(decide (t218.1 = 141))) = true from by rw [(decide_eq_false h248)]; rfl)) ?_
                            refine WCode.seq ?_
                            refine WCode.region ?_
                            refine WOps.p (G.assign rfl) rfl ?_
                            refine WOps.nil ?_
                            refine WEx.then_ ?_
                            refine WCode.forget (l' := [(4, .bool false)]) ⟨rfl, trivial⟩ ?_
                            refine WCode.ret ?_
                            refine WEx.then_ret ?_
                            refine WEx.in_ret ?_
                            refine WEx.then_ret ?_
                            refine WEx.in_ret ?_
                            refine WEx.then_ret ?_
                            refine WEx.then_ret ?_
                            refine WEx.in_ret ?_
                            refine WEx.then_ret ?_
                            obtain rfl := some_eq hF
                            refine WEx.ret1 rfl rfl ?_
                            exact ⟨rfl, St.keep (As := []) S234⟩
                      ·
                        refine WOps.off rfl (kbl (b := !((decide (x127 < (l56.length : Int))) == (decide (t218.1 = 0)))) rfl (show (!((decide (x127 < (l56.length : Int))) == (decide (t218.1 = 0)))) = true from by rw [(Bool.eq_false_iff.2 h240)]; rfl)) rfl rfl ?_
                        refine WOps.off rfl (kbl (b := !((decide (x127 < (l56.length : Int))) == (decide (t218.1 = 0)))) rfl (show (!((decide (x127 < (l56.length : Int))) == (decide (t218.1 = 0)))) = true from by rw [(Bool.eq_false_iff.2 h240)]; rfl)) rfl rfl ?_
                        refine WOps.off rfl (kbl (b := !((decide (x127 < (l56.length : Int))) == (decide (t218.1 = 0)))) rfl (show (!((decide (x127 < (l56.length : Int))) == (decide (t218.1 = 0)))) = true from by rw [(Bool.eq_false_iff.2 h240)]; rfl)) rfl rfl ?_
                        refine WOps.off rfl rfl rfl rfl ?_
                        refine WOps.off rfl rfl rfl rfl ?_
                        refine WOps.off rfl (kbl (b := !((decide (x127 < (l56.length : Int))) == (decide (t218.1 = 0)))) rfl (show (!((decide (x127 < (l56.length : Int))) == (decide (t218.1 = 0)))) = true from by rw [(Bool.eq_false_iff.2 h240)]; rfl)) rfl rfl ?_
                        refine WOps.p (G.pick_t (kb (b := !((decide (x127 < (l56.length : Int))) == (decide (t218.1 = 0)))) rfl (show (!((decide (x127 < (l56.length : Int))) == (decide (t218.1 = 0)))) = true from by rw [(Bool.eq_false_iff.2 h240)]; rfl)) rfl) rfl ?_
                        refine WOps.nil ?_
                        refine WEx.then_ ?_
                        refine WCode.cond_t rfl ?_
                        refine WCode.seq ?_
                        refine WCode.region ?_
                        refine WOps.p (G.assign rfl) rfl ?_
                        refine WOps.nil ?_
                        refine WEx.then_ ?_
                        refine WCode.forget (l' := [(4, .bool false)]) ⟨rfl, trivial⟩ ?_
                        refine WCode.ret ?_
                        refine WEx.then_ret ?_
                        refine WEx.in_ret ?_
                        refine WEx.then_ret ?_
                        refine WEx.in_ret ?_
                        refine WEx.then_ret ?_
                        refine WEx.then_ret ?_
                        refine WEx.in_ret ?_
                        refine WEx.then_ret ?_
                        obtain rfl := some_eq hF
                        refine WEx.ret1 rfl rfl ?_
                        exact ⟨rfl, St.keep (As := []) S234⟩
                    ·
                      rintro _ w236 ⟨q238, b235, rfl, hF, hq239, S237⟩
                      obtain _ | k255 := q238
                      · exact nomatch (show (none : Option Bool) = some r_ from hF)
                      rw [law_Bound.j4] at hF
                      refine WCode.seq ?_
                      refine WCode.region ?_
                      refine WOps.p (G.move rfl) rfl ?_
                      refine WOps.nil ?_
                      refine WEx.then_ ?_
                      rcases ite_some hF with ⟨h256, hF⟩ | ⟨h256, hF⟩
                      ·
                        refine WCode.cond_t (kb (b := decide (x127 < (l56.length : Int))) rfl (decide_eq_true h256)) ?_
                        refine WCode.seq ?_
                        refine WCode.region ?_
                        refine WOps.p (G.move rfl) rfl ?_
                        refine WOps.p (G.move rfl) rfl ?_
                        refine WOps.p (G.move rfl) rfl ?_
                        obtain ⟨m257, hc258, hF⟩ := bind_some hF
                        have hv259 := (SlO.toG hO58).cut_h hc258
                        refine WOps.p (G.cut_h T.el33 rfl rfl hc258 (hO58.rd (fun b o hb => S237.grp 3 rfl hb)).cap) rfl ?_
                        obtain ⟨l260, hc261, hF⟩ := bind_some hF
                        have S262 := S237.emp
                        obtain ⟨xs272, he273, hd274⟩ := SlR.Rd (hv259 _ (fun b o hb => S262.grp 4 rfl hb))
                        obtain ⟨A264, c265, G266, w267, E268, hO269, S270, hk271⟩ := St.appP (P := Try.prog) (r := (Rp.int .i64)) (M := m257) S262 T.elt33 rfl (SlO.nil 3 (Rp.int .i64)) hd274 (elems.flat plain_flat he273) rfl hc261
                        change St _ _ _ [G266, [(p31, .cells #[.int .i64 t218.2.most, .slice A229 t218.2.pairs.length c230] 183 (0, 0))], [(b1, .cells #[.slice A1 a1.length c1] 119 (0, 0))], [(b64, .cells #[.int .i64 x71] 3 (0, 0))], G57, G62, G231] at S270
                        refine WOps.e (E268 rfl rfl) rfl ?_
                        refine WOps.p (G.assign rfl) rfl ?_
                        refine WOps.nil ?_
                        refine WEx.then_ ?_
                        refine WCode.seq ?_
                        refine WCode.region ?_
                        refine WOps.p (G.move rfl) rfl ?_
                        refine WOps.p (G.move rfl) rfl ?_
                        refine WOps.p (G.move rfl) rfl ?_
                        obtain ⟨m275, hc276, hF⟩ := bind_some hF
                        have hv277 := (SlO.toG hO63).cut_h hc276
                        refine WOps.p (G.cut_h T.el77 rfl rfl hc276 (hO63.rd (fun b o hb => S270.grp 5 rfl hb)).cap) rfl ?_
                        obtain ⟨l278, hc279, hF⟩ := bind_some hF
                        have S280 := S270.emp
                        obtain ⟨xs290, he291, hd292⟩ := SlR.Rd (hv277 _ (fun b o hb => S280.grp 6 rfl hb))
                        obtain ⟨A282, c283, G284, w285, E286, hO287, S288, hk289⟩ := St.appP (P := Try.prog) (r := Rp.str) (M := m275) S280 T.elt77 rfl (SlO.nil 9 Rp.str) hd292 (elems.flat plain_flat he291) rfl hc279
                        change St _ _ _ [G284, G266, [(p31, .cells #[.int .i64 t218.2.most, .slice A229 t218.2.pairs.length c230] 183 (0, 0))], [(b1, .cells #[.slice A1 a1.length c1] 119 (0, 0))], [(b64, .cells #[.int .i64 x71] 3 (0, 0))], G57, G62, G231] at S288
                        refine WOps.e (E286 rfl rfl) rfl ?_
                        refine WOps.p (G.assign rfl) rfl ?_
                        refine WOps.nil ?_
                        refine WEx.then_ ?_
                        refine WCode.forget (l' := [(3, .pointer (some ⟨b1, 0, none⟩)), (6, .int .i64 t13), (7, .pointer (some ⟨p31, 0, none⟩)), (9, .slice A54 l56.length c55), (10, .slice A59 l61.length c60), (11, .pointer (some ⟨b64, 0, none⟩)), (13, .int .i64 x127), (15, .slice A264 l260.length c265), (16, .slice A282 l278.length c283), (133, .bool (decide (x127 < (l56.length : Int)))), (134, .bool (!(decide (x127 < (l56.length : Int))))), (135, .bool (!(decide (x127 < (l56.length : Int))))), (138, .bool b235)]) ⟨rfl, rfl, rfl, rfl, rfl, rfl, rfl, rfl, rfl, rfl, rfl, rfl, rfl, trivial⟩ ?_
                        refine WCode.seq ?_
                        refine WCode.region ?_
                        refine WOps.p (G.move rfl) rfl ?_
                        refine WOps.p (G.move rfl) rfl ?_
                        refine WOps.p (G.move rfl) rfl ?_
                        refine WOps.p (G.add rfl rfl (r := (w64 (x127 + 1))) rfl) rfl ?_
                        obtain ⟨m293, hc294, hF⟩ := bind_some hF
                        have hv295 := (SlO.toG hO58).cut_lh hc294
                        refine WOps.p (G.cut_l T.el33 rfl rfl hc294) rfl ?_
                        obtain ⟨l296, hc297, hF⟩ := bind_some hF
                        have S298 := S288.front 1 rfl
                        change St _ _ _ [G266, G284, [(p31, .cells #[.int .i64 t218.2.most, .slice A229 t218.2.pairs.length c230] 183 (0, 0))], [(b1, .cells #[.slice A1 a1.length c1] 119 (0, 0))], [(b64, .cells #[.int .i64 x71] 3 (0, 0))], G57, G62, G231] at S298
                        obtain ⟨xs307, he308, hd309⟩ := SlR.Rd (hv295 _ (fun b o hb => S298.grp 5 rfl hb))
                        obtain ⟨A299, c300, G301, w302, E303, hO304, S305, hk306⟩ := St.appP (P := Try.prog) (r := (Rp.int .i64)) (M := m293) S298 T.elt33 rfl hO269 hd309 (elems.flat plain_flat he308) rfl hc297
                        change St _ _ _ [G301, G284, [(p31, .cells #[.int .i64 t218.2.most, .slice A229 t218.2.pairs.length c230] 183 (0, 0))], [(b1, .cells #[.slice A1 a1.length c1] 119 (0, 0))], [(b64, .cells #[.int .i64 x71] 3 (0, 0))], G57, G62, G231] at S305
                        refine WOps.e (E303 rfl rfl) rfl ?_
                        refine WOps.p (G.assign rfl) rfl ?_
                        refine WOps.nil ?_
                        refine WEx.then_ ?_
                        refine WCode.region ?_
                        refine WOps.p (G.move rfl) rfl ?_
                        refine WOps.p (G.move rfl) rfl ?_
                        refine WOps.p (G.move rfl) rfl ?_
                        refine WOps.p (G.add rfl rfl (r := (w64 (x127 + 1))) rfl) rfl ?_
                        obtain ⟨m310, hc311, hF⟩ := bind_some hF
                        have hv312 := (SlO.toG hO63).cut_lh hc311
                        refine WOps.p (G.cut_l T.el77 rfl rfl hc311) rfl ?_
                        obtain ⟨l313, hc314, hF⟩ := bind_some hF
                        have S315 := S305.front 1 rfl
                        change St _ _ _ [G284, G301, [(p31, .cells #[.int .i64 t218.2.most, .slice A229 t218.2.pairs.length c230] 183 (0, 0))], [(b1, .cells #[.slice A1 a1.length c1] 119 (0, 0))], [(b64, .cells #[.int .i64 x71] 3 (0, 0))], G57, G62, G231] at S315
                        obtain ⟨xs324, he325, hd326⟩ := SlR.Rd (hv312 _ (fun b o hb => S315.grp 6 rfl hb))
                        obtain ⟨A316, c317, G318, w319, E320, hO321, S322, hk323⟩ := St.appP (P := Try.prog) (r := Rp.str) (M := m310) S315 T.elt77 rfl hO287 hd326 (elems.flat plain_flat he325) rfl hc314
                        change St _ _ _ [G318, G301, [(p31, .cells #[.int .i64 t218.2.most, .slice A229 t218.2.pairs.length c230] 183 (0, 0))], [(b1, .cells #[.slice A1 a1.length c1] 119 (0, 0))], [(b64, .cells #[.int .i64 x71] 3 (0, 0))], G57, G62, G231] at S322
                        refine WOps.e (E320 rfl rfl) rfl ?_
                        refine WOps.p (G.assign rfl) rfl ?_
                        refine WOps.nil ?_
                        refine WEx.in_normal ?_
                        have S327 := S322.front 7 rfl
                        change St _ _ _ [G231, G318, G301, [(p31, .cells #[.int .i64 t218.2.most, .slice A229 t218.2.pairs.length c230] 183 (0, 0))], [(b1, .cells #[.slice A1 a1.length c1] 119 (0, 0))], [(b64, .cells #[.int .i64 x71] 3 (0, 0))], G57, G62] at S327
                        have S328 := S327.front 1 rfl
                        change St _ _ _ [G318, G231, G301, [(p31, .cells #[.int .i64 t218.2.most, .slice A229 t218.2.pairs.length c230] 183 (0, 0))], [(b1, .cells #[.slice A1 a1.length c1] 119 (0, 0))], [(b64, .cells #[.int .i64 x71] 3 (0, 0))], G57, G62] at S328
                        have S329 := S328.front 2 rfl
                        change St _ _ _ [G301, G318, G231, [(p31, .cells #[.int .i64 t218.2.most, .slice A229 t218.2.pairs.length c230] 183 (0, 0))], [(b1, .cells #[.slice A1 a1.length c1] 119 (0, 0))], [(b64, .cells #[.int .i64 x71] 3 (0, 0))], G57, G62] at S329
                        have S330 := S329.front 5 rfl
                        change St _ _ _ [[(b64, .cells #[.int .i64 x71] 3 (0, 0))], G301, G318, G231, [(p31, .cells #[.int .i64 t218.2.most, .slice A229 t218.2.pairs.length c230] 183 (0, 0))], [(b1, .cells #[.slice A1 a1.length c1] 119 (0, 0))], G57, G62] at S330
                        have S331 := S330.front 5 rfl
                        change St _ _ _ [[(b1, .cells #[.slice A1 a1.length c1] 119 (0, 0))], [(b64, .cells #[.int .i64 x71] 3 (0, 0))], G301, G318, G231, [(p31, .cells #[.int .i64 t218.2.most, .slice A229 t218.2.pairs.length c230] 183 (0, 0))], G57, G62] at S331
                        have S332 := S331.front 5 rfl
                        change St _ _ _ [[(p31, .cells #[.int .i64 t218.2.most, .slice A229 t218.2.pairs.length c230] 183 (0, 0))], [(b1, .cells #[.slice A1 a1.length c1] 119 (0, 0))], [(b64, .cells #[.int .i64 x71] 3 (0, 0))], G301, G318, G231, G57, G62] at S332
                        have S333 := St.keep (As := [[(p31, .cells #[.int .i64 t218.2.most, .slice A229 t218.2.pairs.length c230] 183 (0, 0))], [(b1, .cells #[.slice A1 a1.length c1] 119 (0, 0))], [(b64, .cells #[.int .i64 x71] 3 (0, 0))], G301, G318, G231]) S332
                        refine WEx.cutend _ ?_ ⟨k255, A299, c300, l296, G301, A316, c317, l313, G318, t218.2.most, A229, c230, t218.2.pairs, G231, rfl, hF, (by omega), hO304, hO321, hO232, S333⟩
                        exact ⟨rfl, rfl, rfl, rfl, rfl, rfl, trivial⟩
                      ·
                        refine WCode.cond_f (kb (b := decide (x127 < (l56.length : Int))) rfl (decide_eq_false h256)) ?_
                        refine WCode.skip ?_
                        refine WEx.in_normal ?_
                        have S334 := S237.front 5 rfl
                        change St _ _ _ [G231, [(p31, .cells #[.int .i64 t218.2.most, .slice A229 t218.2.pairs.length c230] 183 (0, 0))], [(b1, .cells #[.slice A1 a1.length c1] 119 (0, 0))], [(b64, .cells #[.int .i64 x71] 3 (0, 0))], G57, G62] at S334
                        have S335 := S334.front 5 rfl
                        change St _ _ _ [G62, G231, [(p31, .cells #[.int .i64 t218.2.most, .slice A229 t218.2.pairs.length c230] 183 (0, 0))], [(b1, .cells #[.slice A1 a1.length c1] 119 (0, 0))], [(b64, .cells #[.int .i64 x71] 3 (0, 0))], G57] at S335
                        have S336 := S335.front 5 rfl
                        change St _ _ _ [G57, G62, G231, [(p31, .cells #[.int .i64 t218.2.most, .slice A229 t218.2.pairs.length c230] 183 (0, 0))], [(b1, .cells #[.slice A1 a1.length c1] 119 (0, 0))], [(b64, .cells #[.int .i64 x71] 3 (0, 0))]] at S336
                        have S337 := S336.front 5 rfl
                        change St _ _ _ [[(b64, .cells #[.int .i64 x71] 3 (0, 0))], G57, G62, G231, [(p31, .cells #[.int .i64 t218.2.most, .slice A229 t218.2.pairs.length c230] 183 (0, 0))], [(b1, .cells #[.slice A1 a1.length c1] 119 (0, 0))]] at S337
                        have S338 := S337.front 5 rfl
                        change St _ _ _ [[(b1, .cells #[.slice A1 a1.length c1] 119 (0, 0))], [(b64, .cells #[.int .i64 x71] 3 (0, 0))], G57, G62, G231, [(p31, .cells #[.int .i64 t218.2.most, .slice A229 t218.2.pairs.length c230] 183 (0, 0))]] at S338
                        have S339 := S338.front 5 rfl
                        change St _ _ _ [[(p31, .cells #[.int .i64 t218.2.most, .slice A229 t218.2.pairs.length c230] 183 (0, 0))], [(b1, .cells #[.slice A1 a1.length c1] 119 (0, 0))], [(b64, .cells #[.int .i64 x71] 3 (0, 0))], G57, G62, G231] at S339
                        refine WEx.cutend _ ?_ ⟨k255, A54, c55, l56, G57, A59, c60, l61, G62, t218.2.most, A229, c230, t218.2.pairs, G231, rfl, hF, (by omega), hO58, hO63, hO232, S339⟩
                        exact ⟨rfl, rfl, rfl, rfl, rfl, rfl, trivial⟩
                  ·
                    refine WCode.cond_f (kb (b := decide (x199.Kind = 1)) rfl (decide_eq_false h213)) ?_
                    refine WCode.seq ?_
                    refine WCode.region ?_
                    refine WOps.p (G.eql rfl rfl rfl) rfl ?_
                    refine WOps.p (G.assign rfl) rfl ?_
                    refine WOps.nil ?_
                    refine WEx.then_ ?_
                    refine WCode.forget (l' := [(3, .pointer (some ⟨b1, 0, none⟩)), (6, .int .i64 t13), (7, .pointer (some ⟨p31, 0, none⟩)), (9, .slice A54 l56.length c55), (10, .slice A59 l61.length c60), (11, .pointer (some ⟨b64, 0, none⟩)), (12, .int .i64 t122), (13, .int .i64 x127), (14, .bool (decide (x127 < (l56.length : Int)))), (15, .slice none 0 0), (16, .slice none 0 0), (163, .bool (decide (x199.Kind = 2)))]) ⟨rfl, rfl, rfl, rfl, rfl, rfl, rfl, rfl, rfl, rfl, rfl, rfl, trivial⟩ ?_
                    rcases ite_some hF with ⟨h340, hF⟩ | ⟨h340, hF⟩
                    ·
                      refine WCode.cond_t (kb (b := decide (x199.Kind = 2)) rfl (decide_eq_true h340)) ?_
                      refine WCode.seq ?_
                      refine WCode.region ?_
                      refine WOps.p (G.move rfl) rfl ?_
                      refine WOps.p (G.makeFunc (evs_cons rfl (evs_cons rfl evs_nil))) rfl ?_
                      have S341 := S129.front 5 rfl
                      change St _ _ _ [G69, [(p31, .cells #[.int .i64 x65, .slice A66 l68.length c67] 183 (0, 0))], [(b1, .cells #[.slice A1 a1.length c1] 119 (0, 0))], [(b64, .cells #[.int .i64 x71] 3 (0, 0))], G57, G62] at S341
                      have S342 := S341.front 1 rfl
                      change St _ _ _ [[(p31, .cells #[.int .i64 x65, .slice A66 l68.length c67] 183 (0, 0))], G69, [(b1, .cells #[.slice A1 a1.length c1] 119 (0, 0))], [(b64, .cells #[.int .i64 x71] 3 (0, 0))], G57, G62] at S342
                      have hO343 : ObjO 183 Shelf_int__string_.rp p31 (⟨x65, l68⟩ : Shelf_int__string_) ([(p31, .cells #[.int .i64 x65, .slice A66 l68.length c67] 183 (0, 0))] ++ (G69)) := ⟨_, _, ⟨A66, c67, G69, rfl, hO70, rfl⟩, rfl⟩
                      have S344 : St _ _ _ [[(p31, .cells #[.int .i64 x65, .slice A66 l68.length c67] 183 (0, 0))] ++ (G69), [(b1, .cells #[.slice A1 a1.length c1] 119 (0, 0))], [(b64, .cells #[.int .i64 x71] 3 (0, 0))], G57, G62] := S342.objs (by simp)
                      obtain ⟨t345, hc346, hF⟩ := bind_some hF
                      refine WOps.call T.call60 (evs_cons rfl (evs_cons rfl evs_nil)) rfl ?_
                      refine (sha_Prune_calls k178 (⟨x65, l68⟩ : Shelf_int__string_) a1 x71 hO343 (S344.blk 1 rfl) (St.outG (Bs := [[(p31, .cells #[.int .i64 x65, .slice A66 l68.length c67] 183 (0, 0))] ++ (G69)]) S344 0 rfl b1 (by simp [keys])).1 (hR1.ext (S344.keepF hF1)) (St.outF (Bs := [[(p31, .cells #[.int .i64 x65, .slice A66 l68.length c67] 183 (0, 0))] ++ (G69)]) S344 hF1) (S344.blk 2 rfl) (St.outG (Bs := [[(p31, .cells #[.int .i64 x65, .slice A66 l68.length c67] 183 (0, 0))] ++ (G69)]) S344 1 rfl b64 (by simp [keys])).1 hc346 (St.hpN (As := [[(p31, .cells #[.int .i64 x65, .slice A66 l68.length c67] 183 (0, 0))] ++ (G69)]) S344)).mono ?_
                      rintro _ w347 ⟨G350, rfl, hO351, T348⟩
                      have S349 := St.callN (As := [[(p31, .cells #[.int .i64 x65, .slice A66 l68.length c67] 183 (0, 0))] ++ (G69)]) S344 T348
                      change St _ _ _ [G350, [(b1, .cells #[.slice A1 a1.length c1] 119 (0, 0))], [(b64, .cells #[.int .i64 x71] 3 (0, 0))], G57, G62] at S349
                      refine ⟨_, rfl, ?_⟩
                      obtain ⟨cs352, G353, ho354, hg355⟩ := hO351
                      obtain ⟨A356, c357, G358, rfl, hO359, hq360⟩ := ho354
                      have S361 : St _ _ _ [[(p31, .cells #[.int .i64 t345.2.most, .slice A356 t345.2.pairs.length c357] 183 (0, 0))], G358, [(b1, .cells #[.slice A1 a1.length c1] 119 (0, 0))], [(b64, .cells #[.int .i64 x71] 3 (0, 0))], G57, G62] := S349.objs (by rw [hg355, hq360]; simp)
                      refine WOps.p (G.assign rfl) rfl ?_
                      refine WOps.nil ?_
                      refine WEx.then_ ?_
                      refine WCode.seq ?_
                      refine WCode.seq ?_
                      refine WCode.region ?_
                      refine WOps.p (G.assign rfl) rfl ?_
                      refine WOps.nil ?_
                      refine WEx.then_ ?_
                      refine WCode.block ?_
                      have S377 := S361.emp
                      have S379 := S377.emp
                      have S381 := S379.front 1 rfl
                      change St _ _ _ [([] : Grp), ([] : Grp), [(p31, .cells #[.int .i64 t345.2.most, .slice A356 t345.2.pairs.length c357] 183 (0, 0))], G358, [(b1, .cells #[.slice A1 a1.length c1] 119 (0, 0))], [(b64, .cells #[.int .i64 x71] 3 (0, 0))], G57, G62] at S381
                      have S382 := S381.front 3 rfl
                      change St _ _ _ [G358, ([] : Grp), ([] : Grp), [(p31, .cells #[.int .i64 t345.2.most, .slice A356 t345.2.pairs.length c357] 183 (0, 0))], [(b1, .cells #[.slice A1 a1.length c1] 119 (0, 0))], [(b64, .cells #[.int .i64 x71] 3 (0, 0))], G57, G62] at S382
                      have S383 := S382.front 7 rfl
                      change St _ _ _ [G62, G358, ([] : Grp), ([] : Grp), [(p31, .cells #[.int .i64 t345.2.most, .slice A356 t345.2.pairs.length c357] 183 (0, 0))], [(b1, .cells #[.slice A1 a1.length c1] 119 (0, 0))], [(b64, .cells #[.int .i64 x71] 3 (0, 0))], G57] at S383
                      have S384 := S383.front 7 rfl
                      change St _ _ _ [G57, G62, G358, ([] : Grp), ([] : Grp), [(p31, .cells #[.int .i64 t345.2.most, .slice A356 t345.2.pairs.length c357] 183 (0, 0))], [(b1, .cells #[.slice A1 a1.length c1] 119 (0, 0))], [(b64, .cells #[.int .i64 x71] 3 (0, 0))]] at S384
                      have S385 := S384.front 7 rfl
                      change St _ _ _ [[(b64, .cells #[.int .i64 x71] 3 (0, 0))], G57, G62, G358, ([] : Grp), ([] : Grp), [(p31, .cells #[.int .i64 t345.2.most, .slice A356 t345.2.pairs.length c357] 183 (0, 0))], [(b1, .cells #[.slice A1 a1.length c1] 119 (0, 0))]] at S385
                      have S386 := S385.front 7 rfl
                      change St _ _ _ [[(b1, .cells #[.slice A1 a1.length c1] 119 (0, 0))], [(b64, .cells #[.int .i64 x71] 3 (0, 0))], G57, G62, G358, ([] : Grp), ([] : Grp), [(p31, .cells #[.int .i64 t345.2.most, .slice A356 t345.2.pairs.length c357] 183 (0, 0))]] at S386
                      have S387 := S386.front 7 rfl
                      change St _ _ _ [[(p31, .cells #[.int .i64 t345.2.most, .slice A356 t345.2.pairs.length c357] 183 (0, 0))], [(b1, .cells #[.slice A1 a1.length c1] 119 (0, 0))], [(b64, .cells #[.int .i64 x71] 3 (0, 0))], G57, G62, G358, ([] : Grp), ([] : Grp)] at S387
                      refine WCode.forget (l' := [(3, .pointer (some ⟨b1, 0, none⟩)), (6, .int .i64 t13), (7, .pointer (some ⟨p31, 0, none⟩)), (9, .slice A54 l56.length c55), (10, .slice A59 l61.length c60), (11, .pointer (some ⟨b64, 0, none⟩)), (15, .slice none 0 0), (16, .slice none 0 0), (18, .int .i64 t345.1), (19, .int .i64 0)]) ⟨rfl, rfl, rfl, rfl, rfl, rfl, rfl, rfl, rfl, rfl, trivial⟩ ?_
                      refine WCode.loop (fun n_ l_ w_ => ∃ A362 : Option Addr, ∃ c363 : Nat, ∃ l364 : List Int, ∃ G365 : Grp, ∃ A367 : Option Addr, ∃ c368 : Nat, ∃ l369 : List (List UInt8), ∃ G370 : Grp, ∃ x372 : Int, l_ = [(3, .pointer (some ⟨b1, 0, none⟩)), (6, .int .i64 t13), (7, .pointer (some ⟨p31, 0, none⟩)), (9, .slice A54 l56.length c55), (10, .slice A59 l61.length c60), (11, .pointer (some ⟨b64, 0, none⟩)), (15, .slice A362 l364.length c363), (16, .slice A367 l369.length c368), (18, .int .i64 t345.1), (19, .int .i64 x372)] ∧ law_Bound.l3 n_ a1 t13 l56 l61 x71 t345 l364 l369 x372 = some r_ ∧ n_ ≤ k178 ∧ (SlO 3 (Rp.int .i64) (.slice A362 l364.length c363) l364 G365) ∧ (SlO 9 Rp.str (.slice A367 l369.length c368) l369 G370) ∧ St w (KS []) w_ [[(p31, .cells #[.int .i64 t345.2.most, .slice A356 t345.2.pairs.length c357] 183 (0, 0))], [(b1, .cells #[.slice A1 a1.length c1] 119 (0, 0))], [(b64, .cells #[.int .i64 x71] 3 (0, 0))], G57, G62, G358, G365, G370]) k178 ⟨none, 0, [], ([] : Grp), none, 0, [], ([] : Grp), 0, rfl, hF, Nat.le_refl _, (SlO.nil 3 (Rp.int .i64)), (SlO.nil 9 Rp.str), S387⟩ ?_
                      rintro n376 _ w373 ⟨A362, c363, l364, G365, A367, c368, l369, G370, x372, rfl, hF, hle388, hO366, hO371, S374⟩
                      obtain _ | k375 := n376
                      · exact nomatch (show (none : Option Bool) = some r_ from hF)
                      rw [law_Bound.l3] at hF
                      refine WCode.seq ?_
                      refine WCode.seq ?_
                      refine WCode.region ?_
                      refine WOps.p (G.move rfl) rfl ?_
                      refine WOps.p (G.move rfl) rfl ?_
                      refine WOps.p (G.len T.el33 rfl) rfl ?_
                      refine WOps.p (G.lss rfl rfl rfl) rfl ?_
                      refine WOps.nil ?_
                      refine WEx.then_ ?_
                      rcases ite_some hF with ⟨h389, hF⟩ | ⟨h389, hF⟩
                      ·
                        refine WCode.cond_t (kb (b := decide (x372 < (l56.length : Int))) rfl (decide_eq_true h389)) ?_
                        refine WCode.skip ?_
                        refine WEx.then_ ?_
                        refine WCode.seq ?_
                        refine WCode.block ?_
                        refine WCode.seq ?_
                        refine WCode.drawH (.one 0 0 (.one 1 0 (.one 2 0 (.one 3 1 (.one 4 1 (.one 5 1 (.one 6 0 (.one 7 0 (.one 8 1 (.one 9 2 (.one 10 0 .nil))))))))))) (fun W_ => SlR (Rp.int .i64) W_ (· ∈ keys G57) A54 c55 l56 ∧ cellsAt W_ b1 0 [.slice A1 a1.length c1] ∧ cellsAt W_ b64 0 [.int .i64 x71] ∧ SlR Act.rp W_ F1 A1 c1 a1 ∧ True) T.mixed (by kernel_rfl) (by intro _ _ d _ _ h; cases d <;> exact h) rfl rfl (by kernel_rfl) ?_ ?_
                        all_goals have S390 := S374.drew
                        all_goals generalize w373.drew = w391 at *
                        · exact ⟨(hO58.rd (fun b o hb => S390.grp 3 rfl hb)), cellsAt.of_blk (S390.blk 1 rfl) rfl, cellsAt.of_blk (S390.blk 2 rfl) rfl, (hR1.ext (S390.keepF hF1)), trivial⟩
                        refine WH.p rfl wants (G.move rfl) rfl ?_
                        refine WH.p rfl wants (G.move rfl) rfl ?_
                        obtain ⟨x392, hc393, hF⟩ := bind_some hF
                        obtain ⟨j394, ej395, hj396, hl397⟩ := idx_spec hc393
                        obtain ⟨b398, o399, cs400, eA401, hf402, hc403, hr404⟩ := SlR.at_ (hO58.rd (fun b o hb => S390.grp 3 rfl hb)) hj396
                        have hq405 : cs400 = [.int .i64 x392] := hr404
                        subst hq405
                        change cellsAt _ _ (o399 + j394 * 1) [.int .i64 x392] at hc403
                        refine WH.p rfl wants (G.idx T.el33 rfl eA401 rfl ej395 hl397) rfl ?_
                        refine WH.r rfl wants (fun _ h_ => G.load1 T.one3 rfl (cellsAt.at (SlR.cellsP h_.1 hj396 eA401) 0 rfl)) rfl ?_
                        refine WH.r rfl wants (fun _ h_ => G.load1 T.one119 rfl (cellsAt.at h_.2.1 0 rfl)) rfl ?_
                        refine WH.r rfl wants (fun _ h_ => G.load1 T.one3 rfl (cellsAt.at h_.2.2.1 0 rfl)) rfl ?_
                        obtain ⟨x406, hc407, hF⟩ := bind_some hF
                        obtain ⟨j408, ej409, hj410, hl411⟩ := idx_spec hc407
                        obtain ⟨b412, o413, cs414, eA415, hf416, hc417, hr418⟩ := SlR.at_ (hR1.ext (S390.keepF hF1)) hj410
                        have hq419 : cs414 = [.int .i64 x406.Kind, .int .i64 x406.K, .int .i64 x406.N] := hr418
                        subst hq419
                        change cellsAt _ _ (o413 + j408 * 3) [.int .i64 x406.Kind, .int .i64 x406.K, .int .i64 x406.N] at hc417
                        refine WH.p rfl wants (G.idx T.el119 rfl eA415 rfl ej409 hl411) rfl ?_
                        refine WH.p rfl wants (G.field T.fld124_2 rfl (show o413 + j408 * 3 + 2 = o413 + j408 * 3 + 2 from rfl)) rfl ?_
                        refine WH.r rfl wants (fun _ h_ => G.load1 T.one3 rfl (cellsAt.at (SlR.cellsP h_.2.2.2.1 hj410 eA415) 2 rfl)) rfl ?_
                        obtain ⟨t420, hc421, hF⟩ := bind_some hF
                        refine WH.call rfl wants T.call54 (evs_cons rfl (evs_cons rfl evs_nil)) rfl ?_
                        refine (sh_pick_calls k375 x406.N 16 hc421).mono ?_
                        rintro _ w422 ⟨rfl, T423⟩
                        have S424 := St.callN (As := []) S390 T423
                        change St _ _ _ [[(p31, .cells #[.int .i64 t345.2.most, .slice A356 t345.2.pairs.length c357] 183 (0, 0))], [(b1, .cells #[.slice A1 a1.length c1] 119 (0, 0))], [(b64, .cells #[.int .i64 x71] 3 (0, 0))], G57, G62, G358, G365, G370] at S424
                        refine ⟨_, rfl, ?_⟩
                        refine ⟨⟨(hO58.rd (fun b o hb => S424.grp 3 rfl hb)), cellsAt.of_blk (S424.blk 1 rfl) rfl, cellsAt.of_blk (S424.blk 2 rfl) rfl, (hR1.ext (S424.keepF hF1)), trivial⟩, ?_⟩
                        refine WH.p rfl wants (G.geq rfl rfl rfl) rfl ?_
                        refine WH.nil ?_
                        refine WEx.then_ ?_
                        refine WCode.forget (l' := [(3, .pointer (some ⟨b1, 0, none⟩)), (6, .int .i64 t13), (7, .pointer (some ⟨p31, 0, none⟩)), (9, .slice A54 l56.length c55), (10, .slice A59 l61.length c60), (11, .pointer (some ⟨b64, 0, none⟩)), (15, .slice A362 l364.length c363), (16, .slice A367 l369.length c368), (18, .int .i64 t345.1), (19, .int .i64 x372), (184, .bool (decide (t420 ≤ x392)))]) ⟨rfl, rfl, rfl, rfl, rfl, rfl, rfl, rfl, rfl, rfl, rfl, trivial⟩ ?_
                        rcases ite_some hF with ⟨h425, hF⟩ | ⟨h425, hF⟩
                        ·
                          refine WCode.cond_t (kb (b := decide (t420 ≤ x392)) rfl (decide_eq_true h425)) ?_
                          refine WCode.seq ?_
                          refine WCode.region ?_
                          refine WOps.p (G.move rfl) rfl ?_
                          refine WOps.p (G.move rfl) rfl ?_
                          refine WOps.p (G.move rfl) rfl ?_
                          obtain ⟨x426, hc427, hF⟩ := bind_some hF
                          obtain ⟨j428, ej429, hj430, hl431⟩ := idx_spec hc427
                          obtain ⟨b432, o433, cs434, eA435, hf436, hc437, hr438⟩ := SlR.at_ (hO58.rd (fun b o hb => S424.grp 3 rfl hb)) hj430
                          have hq439 : cs434 = [.int .i64 x426] := hr438
                          subst hq439
                          change cellsAt _ _ (o433 + j428 * 1) [.int .i64 x426] at hc437
                          refine WOps.p (G.idx T.el33 rfl eA435 rfl ej429 hl431) rfl ?_
                          refine WOps.r (G.load1 T.one3 rfl (cellsAt.at0 hc437)) rfl ?_
                          obtain ⟨b440, w441, E442, S443, X444, L445⟩ := St.lit S424 (P := Try.prog) (t := 33) (e := 3) (n := 1) (vs := [(0, .int .i64 x426)]) (cs := #[.int .i64 x426]) (by kernel_rfl)
                          have c446 := hc437.ext X444
                          change St _ _ _ [[(b440, .cells #[.int .i64 x426] 3 (0, 0))], [(p31, .cells #[.int .i64 t345.2.most, .slice A356 t345.2.pairs.length c357] 183 (0, 0))], [(b1, .cells #[.slice A1 a1.length c1] 119 (0, 0))], [(b64, .cells #[.int .i64 x71] 3 (0, 0))], G57, G62, G358, G365, G370] at S443
                          refine WOps.e (E442 (evp_cons rfl evp_nil)) rfl ?_
                          obtain ⟨l447, hc448, hF⟩ := bind_some hF
                          have S449 := S443.front 7 rfl
                          change St _ _ _ [G365, [(b440, .cells #[.int .i64 x426] 3 (0, 0))], [(p31, .cells #[.int .i64 t345.2.most, .slice A356 t345.2.pairs.length c357] 183 (0, 0))], [(b1, .cells #[.slice A1 a1.length c1] 119 (0, 0))], [(b64, .cells #[.int .i64 x71] 3 (0, 0))], G57, G62, G358, G370] at S449
                          obtain ⟨A450, c451, G452, w453, E454, hO455, S456, hk457⟩ := St.appP (P := Try.prog) (r := (Rp.int .i64)) (M := ([x426] : List Int)) S449 T.elt33 rfl hO366 (Rd.of_blk (S449.blk 1 rfl) (n := 1) (sz := 1) rfl) ⟨_, _, [], [], rfl, rfl, ⟨rfl, rfl⟩, ⟨rfl, rfl⟩⟩ rfl hc448
                          change St _ _ _ [G452, [(b440, .cells #[.int .i64 x426] 3 (0, 0))], [(p31, .cells #[.int .i64 t345.2.most, .slice A356 t345.2.pairs.length c357] 183 (0, 0))], [(b1, .cells #[.slice A1 a1.length c1] 119 (0, 0))], [(b64, .cells #[.int .i64 x71] 3 (0, 0))], G57, G62, G358, G370] at S456
                          refine WOps.e (E454 rfl rfl) rfl ?_
                          refine WOps.p (G.assign rfl) rfl ?_
                          refine WOps.nil ?_
                          refine WEx.then_ ?_
                          refine WCode.region ?_
                          refine WOps.p (G.move rfl) rfl ?_
                          refine WOps.p (G.move rfl) rfl ?_
                          refine WOps.p (G.move rfl) rfl ?_
                          obtain ⟨x458, hc459, hF⟩ := bind_some hF
                          obtain ⟨j460, ej461, hj462, hl463⟩ := idx_spec hc459
                          obtain ⟨b464, o465, cs466, eA467, hf468, hc469, hr470⟩ := SlR.at_ (hO63.rd (fun b o hb => S456.grp 6 rfl hb)) hj462
                          have hq471 : cs466 = [.string (bs x458)] := hr470
                          subst hq471
                          change cellsAt _ _ (o465 + j460 * 1) [.string (bs x458)] at hc469
                          refine WOps.p (G.idx T.el77 rfl eA467 rfl ej461 hl463) rfl ?_
                          refine WOps.r (G.load1 T.one9 rfl (cellsAt.at0 hc469)) rfl ?_
                          obtain ⟨b472, w473, E474, S475, X476, L477⟩ := St.lit S456 (P := Try.prog) (t := 77) (e := 9) (n := 1) (vs := [(0, .string (bs x458))]) (cs := #[.string (bs x458)]) (by kernel_rfl)
                          have c478 := hc469.ext X476
                          change St _ _ _ [[(b472, .cells #[.string (bs x458)] 9 (0, 0))], G452, [(b440, .cells #[.int .i64 x426] 3 (0, 0))], [(p31, .cells #[.int .i64 t345.2.most, .slice A356 t345.2.pairs.length c357] 183 (0, 0))], [(b1, .cells #[.slice A1 a1.length c1] 119 (0, 0))], [(b64, .cells #[.int .i64 x71] 3 (0, 0))], G57, G62, G358, G370] at S475
                          refine WOps.e (E474 (evp_cons rfl evp_nil)) rfl ?_
                          obtain ⟨l479, hc480, hF⟩ := bind_some hF
                          have S481 := S475.front 9 rfl
                          change St _ _ _ [G370, [(b472, .cells #[.string (bs x458)] 9 (0, 0))], G452, [(b440, .cells #[.int .i64 x426] 3 (0, 0))], [(p31, .cells #[.int .i64 t345.2.most, .slice A356 t345.2.pairs.length c357] 183 (0, 0))], [(b1, .cells #[.slice A1 a1.length c1] 119 (0, 0))], [(b64, .cells #[.int .i64 x71] 3 (0, 0))], G57, G62, G358] at S481
                          obtain ⟨A482, c483, G484, w485, E486, hO487, S488, hk489⟩ := St.appP (P := Try.prog) (r := Rp.str) (M := ([x458] : List (List UInt8))) S481 T.elt77 rfl hO371 (Rd.of_blk (S481.blk 1 rfl) (n := 1) (sz := 1) rfl) ⟨_, _, [], [], rfl, rfl, ⟨rfl, rfl⟩, ⟨rfl, rfl⟩⟩ rfl hc480
                          change St _ _ _ [G484, [(b472, .cells #[.string (bs x458)] 9 (0, 0))], G452, [(b440, .cells #[.int .i64 x426] 3 (0, 0))], [(p31, .cells #[.int .i64 t345.2.most, .slice A356 t345.2.pairs.length c357] 183 (0, 0))], [(b1, .cells #[.slice A1 a1.length c1] 119 (0, 0))], [(b64, .cells #[.int .i64 x71] 3 (0, 0))], G57, G62, G358] at S488
                          refine WOps.e (E486 rfl rfl) rfl ?_
                          refine WOps.p (G.assign rfl) rfl ?_
                          refine WOps.nil ?_
                          refine WEx.in_normal ?_
                          refine WEx.then_ ?_
                          refine WCode.forget (l' := [(3, .pointer (some ⟨b1, 0, none⟩)), (6, .int .i64 t13), (7, .pointer (some ⟨p31, 0, none⟩)), (9, .slice A54 l56.length c55), (10, .slice A59 l61.length c60), (11, .pointer (some ⟨b64, 0, none⟩)), (15, .slice A450 l447.length c451), (16, .slice A482 l479.length c483), (18, .int .i64 t345.1), (19, .int .i64 x372)]) ⟨rfl, rfl, rfl, rfl, rfl, rfl, rfl, rfl, rfl, rfl, trivial⟩ ?_
                          refine WCode.region ?_
                          refine WOps.p (G.move rfl) rfl ?_
                          refine WOps.p (G.add rfl rfl (r := (w64 (x372 + 1))) rfl) rfl ?_
                          refine WOps.p (G.assign rfl) rfl ?_
                          refine WOps.nil ?_
                          have S490 := S488.front 2 rfl
                          change St _ _ _ [G452, G484, [(b472, .cells #[.string (bs x458)] 9 (0, 0))], [(b440, .cells #[.int .i64 x426] 3 (0, 0))], [(p31, .cells #[.int .i64 t345.2.most, .slice A356 t345.2.pairs.length c357] 183 (0, 0))], [(b1, .cells #[.slice A1 a1.length c1] 119 (0, 0))], [(b64, .cells #[.int .i64 x71] 3 (0, 0))], G57, G62, G358] at S490
                          have S491 := S490.front 9 rfl
                          change St _ _ _ [G358, G452, G484, [(b472, .cells #[.string (bs x458)] 9 (0, 0))], [(b440, .cells #[.int .i64 x426] 3 (0, 0))], [(p31, .cells #[.int .i64 t345.2.most, .slice A356 t345.2.pairs.length c357] 183 (0, 0))], [(b1, .cells #[.slice A1 a1.length c1] 119 (0, 0))], [(b64, .cells #[.int .i64 x71] 3 (0, 0))], G57, G62] at S491
                          have S492 := S491.front 9 rfl
                          change St _ _ _ [G62, G358, G452, G484, [(b472, .cells #[.string (bs x458)] 9 (0, 0))], [(b440, .cells #[.int .i64 x426] 3 (0, 0))], [(p31, .cells #[.int .i64 t345.2.most, .slice A356 t345.2.pairs.length c357] 183 (0, 0))], [(b1, .cells #[.slice A1 a1.length c1] 119 (0, 0))], [(b64, .cells #[.int .i64 x71] 3 (0, 0))], G57] at S492
                          have S493 := S492.front 9 rfl
                          change St _ _ _ [G57, G62, G358, G452, G484, [(b472, .cells #[.string (bs x458)] 9 (0, 0))], [(b440, .cells #[.int .i64 x426] 3 (0, 0))], [(p31, .cells #[.int .i64 t345.2.most, .slice A356 t345.2.pairs.length c357] 183 (0, 0))], [(b1, .cells #[.slice A1 a1.length c1] 119 (0, 0))], [(b64, .cells #[.int .i64 x71] 3 (0, 0))]] at S493
                          have S494 := S493.front 9 rfl
                          change St _ _ _ [[(b64, .cells #[.int .i64 x71] 3 (0, 0))], G57, G62, G358, G452, G484, [(b472, .cells #[.string (bs x458)] 9 (0, 0))], [(b440, .cells #[.int .i64 x426] 3 (0, 0))], [(p31, .cells #[.int .i64 t345.2.most, .slice A356 t345.2.pairs.length c357] 183 (0, 0))], [(b1, .cells #[.slice A1 a1.length c1] 119 (0, 0))]] at S494
                          have S495 := S494.front 9 rfl
                          change St _ _ _ [[(b1, .cells #[.slice A1 a1.length c1] 119 (0, 0))], [(b64, .cells #[.int .i64 x71] 3 (0, 0))], G57, G62, G358, G452, G484, [(b472, .cells #[.string (bs x458)] 9 (0, 0))], [(b440, .cells #[.int .i64 x426] 3 (0, 0))], [(p31, .cells #[.int .i64 t345.2.most, .slice A356 t345.2.pairs.length c357] 183 (0, 0))]] at S495
                          have S496 := S495.front 9 rfl
                          change St _ _ _ [[(p31, .cells #[.int .i64 t345.2.most, .slice A356 t345.2.pairs.length c357] 183 (0, 0))], [(b1, .cells #[.slice A1 a1.length c1] 119 (0, 0))], [(b64, .cells #[.int .i64 x71] 3 (0, 0))], G57, G62, G358, G452, G484, [(b472, .cells #[.string (bs x458)] 9 (0, 0))], [(b440, .cells #[.int .i64 x426] 3 (0, 0))]] at S496
                          have S497 := St.keep (As := [[(p31, .cells #[.int .i64 t345.2.most, .slice A356 t345.2.pairs.length c357] 183 (0, 0))], [(b1, .cells #[.slice A1 a1.length c1] 119 (0, 0))], [(b64, .cells #[.int .i64 x71] 3 (0, 0))], G57, G62, G358, G452, G484]) S496
                          refine WEx.again _ _ (by omega) ?_ ⟨A450, c451, l447, G452, A482, c483, l479, G484, w64 (x372 + 1), rfl, hF, (by omega), hO455, hO487, S497⟩
                          exact ⟨rfl, rfl, rfl, rfl, rfl, rfl, rfl, rfl, rfl, rfl, trivial⟩
                        ·
                          refine WCode.cond_f (kb (b := decide (t420 ≤ x392)) rfl (decide_eq_false h425)) ?_
                          refine WCode.skip ?_
                          refine WEx.in_normal ?_
                          refine WEx.then_ ?_
                          refine WCode.region ?_
                          refine WOps.p (G.move rfl) rfl ?_
                          refine WOps.p (G.add rfl rfl (r := (w64 (x372 + 1))) rfl) rfl ?_
                          refine WOps.p (G.assign rfl) rfl ?_
                          refine WOps.nil ?_
                          have S498 := S424.front 7 rfl
                          change St _ _ _ [G370, [(p31, .cells #[.int .i64 t345.2.most, .slice A356 t345.2.pairs.length c357] 183 (0, 0))], [(b1, .cells #[.slice A1 a1.length c1] 119 (0, 0))], [(b64, .cells #[.int .i64 x71] 3 (0, 0))], G57, G62, G358, G365] at S498
                          have S499 := S498.front 7 rfl
                          change St _ _ _ [G365, G370, [(p31, .cells #[.int .i64 t345.2.most, .slice A356 t345.2.pairs.length c357] 183 (0, 0))], [(b1, .cells #[.slice A1 a1.length c1] 119 (0, 0))], [(b64, .cells #[.int .i64 x71] 3 (0, 0))], G57, G62, G358] at S499
                          have S500 := S499.front 7 rfl
                          change St _ _ _ [G358, G365, G370, [(p31, .cells #[.int .i64 t345.2.most, .slice A356 t345.2.pairs.length c357] 183 (0, 0))], [(b1, .cells #[.slice A1 a1.length c1] 119 (0, 0))], [(b64, .cells #[.int .i64 x71] 3 (0, 0))], G57, G62] at S500
                          have S501 := S500.front 7 rfl
                          change St _ _ _ [G62, G358, G365, G370, [(p31, .cells #[.int .i64 t345.2.most, .slice A356 t345.2.pairs.length c357] 183 (0, 0))], [(b1, .cells #[.slice A1 a1.length c1] 119 (0, 0))], [(b64, .cells #[.int .i64 x71] 3 (0, 0))], G57] at S501
                          have S502 := S501.front 7 rfl
                          change St _ _ _ [G57, G62, G358, G365, G370, [(p31, .cells #[.int .i64 t345.2.most, .slice A356 t345.2.pairs.length c357] 183 (0, 0))], [(b1, .cells #[.slice A1 a1.length c1] 119 (0, 0))], [(b64, .cells #[.int .i64 x71] 3 (0, 0))]] at S502
                          have S503 := S502.front 7 rfl
                          change St _ _ _ [[(b64, .cells #[.int .i64 x71] 3 (0, 0))], G57, G62, G358, G365, G370, [(p31, .cells #[.int .i64 t345.2.most, .slice A356 t345.2.pairs.length c357] 183 (0, 0))], [(b1, .cells #[.slice A1 a1.length c1] 119 (0, 0))]] at S503
                          have S504 := S503.front 7 rfl
                          change St _ _ _ [[(b1, .cells #[.slice A1 a1.length c1] 119 (0, 0))], [(b64, .cells #[.int .i64 x71] 3 (0, 0))], G57, G62, G358, G365, G370, [(p31, .cells #[.int .i64 t345.2.most, .slice A356 t345.2.pairs.length c357] 183 (0, 0))]] at S504
                          have S505 := S504.front 7 rfl
                          change St _ _ _ [[(p31, .cells #[.int .i64 t345.2.most, .slice A356 t345.2.pairs.length c357] 183 (0, 0))], [(b1, .cells #[.slice A1 a1.length c1] 119 (0, 0))], [(b64, .cells #[.int .i64 x71] 3 (0, 0))], G57, G62, G358, G365, G370] at S505
                          refine WEx.again _ _ (by omega) ?_ ⟨A362, c363, l364, G365, A367, c368, l369, G370, w64 (x372 + 1), rfl, hF, (by omega), hO366, hO371, S505⟩
                          exact ⟨rfl, rfl, rfl, rfl, rfl, rfl, rfl, rfl, rfl, rfl, trivial⟩
                      ·
                        refine WCode.cond_f (kb (b := decide (x372 < (l56.length : Int))) rfl (decide_eq_false h389)) ?_
                        refine WCode.exit ?_
                        refine WEx.then_exit ?_
                        refine WEx.then_exit ?_
                        refine WEx.in_exit ?_
                        refine WEx.then_ ?_
                        refine WCode.seq ?_
                        refine WCode.seq ?_
                        refine WCode.region ?_
                        refine WOps.p (G.move rfl) rfl ?_
                        refine WOps.p (G.move rfl) rfl ?_
                        refine WOps.p (G.len T.el33 rfl) rfl ?_
                        refine WOps.p (G.move rfl) rfl ?_
                        refine WOps.p (G.len T.el33 rfl) rfl ?_
                        refine WOps.p (G.sub rfl rfl (r := (w64 ((l56.length : Int) - (l364.length : Int)))) rfl) rfl ?_
                        refine WOps.p (G.neq rfl rfl rfl) rfl ?_
                        refine WOps.nil ?_
                        refine WEx.then_ ?_
                        refine WCode.forget (l' := [(3, .pointer (some ⟨b1, 0, none⟩)), (6, .int .i64 t13), (7, .pointer (some ⟨p31, 0, none⟩)), (11, .pointer (some ⟨b64, 0, none⟩)), (15, .slice A362 l364.length c363), (16, .slice A367 l369.length c368), (205, .bool (!(decide (t345.1 = (w64 ((l56.length : Int) - (l364.length : Int)))))))]) ⟨rfl, rfl, rfl, rfl, rfl, rfl, rfl, trivial⟩ ?_
                        rcases ite_some hF with ⟨h506, hF⟩ | ⟨h506, hF⟩
                        ·
                          refine WCode.cond_f (kb (b := !(decide (t345.1 = (w64 ((l56.length : Int) - (l364.length : Int)))))) rfl (show (!(decide (t345.1 = (w64 ((l56.length : Int) - (l364.length : Int)))))) = false from by rw [(decide_eq_true h506)]; rfl)) ?_
                          refine WCode.skip ?_
                          refine WEx.then_ ?_
                          refine WCode.seq ?_
                          refine WCode.region ?_
                          refine WOps.p (G.move rfl) rfl ?_
                          refine WOps.p (G.assign rfl) rfl ?_
                          refine WOps.nil ?_
                          refine WEx.then_ ?_
                          refine WCode.region ?_
                          refine WOps.p (G.move rfl) rfl ?_
                          refine WOps.p (G.assign rfl) rfl ?_
                          refine WOps.nil ?_
                          refine WEx.in_normal ?_
                          have S507 := S374.front 5 rfl
                          change St _ _ _ [G358, [(p31, .cells #[.int .i64 t345.2.most, .slice A356 t345.2.pairs.length c357] 183 (0, 0))], [(b1, .cells #[.slice A1 a1.length c1] 119 (0, 0))], [(b64, .cells #[.int .i64 x71] 3 (0, 0))], G57, G62, G365, G370] at S507
                          have S508 := S507.front 7 rfl
                          change St _ _ _ [G370, G358, [(p31, .cells #[.int .i64 t345.2.most, .slice A356 t345.2.pairs.length c357] 183 (0, 0))], [(b1, .cells #[.slice A1 a1.length c1] 119 (0, 0))], [(b64, .cells #[.int .i64 x71] 3 (0, 0))], G57, G62, G365] at S508
                          have S509 := S508.front 7 rfl
                          change St _ _ _ [G365, G370, G358, [(p31, .cells #[.int .i64 t345.2.most, .slice A356 t345.2.pairs.length c357] 183 (0, 0))], [(b1, .cells #[.slice A1 a1.length c1] 119 (0, 0))], [(b64, .cells #[.int .i64 x71] 3 (0, 0))], G57, G62] at S509
                          have S510 := S509.front 5 rfl
                          change St _ _ _ [[(b64, .cells #[.int .i64 x71] 3 (0, 0))], G365, G370, G358, [(p31, .cells #[.int .i64 t345.2.most, .slice A356 t345.2.pairs.length c357] 183 (0, 0))], [(b1, .cells #[.slice A1 a1.length c1] 119 (0, 0))], G57, G62] at S510
                          have S511 := S510.front 5 rfl
                          change St _ _ _ [[(b1, .cells #[.slice A1 a1.length c1] 119 (0, 0))], [(b64, .cells #[.int .i64 x71] 3 (0, 0))], G365, G370, G358, [(p31, .cells #[.int .i64 t345.2.most, .slice A356 t345.2.pairs.length c357] 183 (0, 0))], G57, G62] at S511
                          have S512 := S511.front 5 rfl
                          change St _ _ _ [[(p31, .cells #[.int .i64 t345.2.most, .slice A356 t345.2.pairs.length c357] 183 (0, 0))], [(b1, .cells #[.slice A1 a1.length c1] 119 (0, 0))], [(b64, .cells #[.int .i64 x71] 3 (0, 0))], G365, G370, G358, G57, G62] at S512
                          have S513 := St.keep (As := [[(p31, .cells #[.int .i64 t345.2.most, .slice A356 t345.2.pairs.length c357] 183 (0, 0))], [(b1, .cells #[.slice A1 a1.length c1] 119 (0, 0))], [(b64, .cells #[.int .i64 x71] 3 (0, 0))], G365, G370, G358]) S512
                          refine WEx.cutend _ ?_ ⟨k375, A362, c363, l364, G365, A367, c368, l369, G370, t345.2.most, A356, c357, t345.2.pairs, G358, rfl, hF, (by omega), hO366, hO371, hO359, S513⟩
                          exact ⟨rfl, rfl, rfl, rfl, rfl, rfl, trivial⟩
                        ·
                          refine WCode.cond_t (kb (b := !(decide (t345.1 = (w64 ((l56.length : Int) - (l364.length : Int)))))) rfl (show (!(decide (t345.1 = (w64 ((l56.length : Int) - (l364.length : Int)))))) = true from by rw [(decide_eq_false h506)]; rfl)) ?_
                          refine WCode.seq ?_
                          refine WCode.region ?_
                          refine WOps.p (G.assign rfl) rfl ?_
                          refine WOps.nil ?_
                          refine WEx.then_ ?_
                          refine WCode.ret ?_
                          refine WEx.then_ret ?_
                          refine WEx.in_ret ?_
                          refine WEx.then_ret ?_
                          refine WEx.in_ret ?_
                          refine WEx.then_ret ?_
                          refine WEx.then_ret ?_
                          refine WEx.in_ret ?_
                          refine WEx.then_ret ?_
                          obtain rfl := some_eq hF
                          refine WEx.ret1 rfl rfl ?_
                          exact ⟨rfl, St.keep (As := []) S374⟩
                    ·
                      refine WCode.cond_f (kb (b := decide (x199.Kind = 2)) rfl (decide_eq_false h340)) ?_
                      refine WCode.seq ?_
                      refine WCode.drawH (.one 0 1 (.one 1 1 (.one 2 0 (.one 3 0 (.one 4 1 (.one 5 0 (.one 6 1 (.one 7 0 (.one 8 2 (.one 9 2 (.one 10 0 .nil))))))))))) (fun W_ => cellsAt W_ b1 0 [.slice A1 a1.length c1] ∧ cellsAt W_ b64 0 [.int .i64 x71] ∧ SlR Act.rp W_ F1 A1 c1 a1 ∧ True) T.mixed (by kernel_rfl) (by intro _ _ d _ _ h; cases d <;> exact h) rfl rfl (by kernel_rfl) ?_ ?_
                      all_goals have S514 := S129.drew
                      all_goals generalize w128.drew = w515 at *
                      · exact ⟨cellsAt.of_blk (S514.blk 1 rfl) rfl, cellsAt.of_blk (S514.blk 2 rfl) rfl, (hR1.ext (S514.keepF hF1)), trivial⟩
                      refine WH.r rfl wants (fun _ h_ => G.load1 T.one119 rfl (cellsAt.at h_.1 0 rfl)) rfl ?_
                      refine WH.r rfl wants (fun _ h_ => G.load1 T.one3 rfl (cellsAt.at h_.2.1 0 rfl)) rfl ?_
                      obtain ⟨x516, hc517, hF⟩ := bind_some hF
                      obtain ⟨j518, ej519, hj520, hl521⟩ := idx_spec hc517
                      obtain ⟨b522, o523, cs524, eA525, hf526, hc527, hr528⟩ := SlR.at_ (hR1.ext (S514.keepF hF1)) hj520
                      have hq529 : cs524 = [.int .i64 x516.Kind, .int .i64 x516.K, .int .i64 x516.N] := hr528
                      subst hq529
                      change cellsAt _ _ (o523 + j518 * 3) [.int .i64 x516.Kind, .int .i64 x516.K, .int .i64 x516.N] at hc527
                      refine WH.p rfl wants (G.idx T.el119 rfl eA525 rfl ej519 hl521) rfl ?_
                      refine WH.p rfl wants (G.field T.fld124_2 rfl (show o523 + j518 * 3 + 2 = o523 + j518 * 3 + 2 from rfl)) rfl ?_
                      refine WH.r rfl wants (fun _ h_ => G.load1 T.one3 rfl (cellsAt.at (SlR.cellsP h_.2.2.1 hj520 eA525) 2 rfl)) rfl ?_
                      refine WH.p rfl wants (G.convi (by kernel_rfl) Try.underlying5 rfl (r := ((u8of x516.N).toNat : Int)) (u8of_wrap _)) rfl ?_
                      refine WH.r rfl wants (fun _ h_ => G.load1 T.one3 rfl (cellsAt.at h_.2.1 0 rfl)) rfl ?_
                      refine WH.p rfl wants (G.convi (by kernel_rfl) Try.underlying5 rfl (r := ((u8of x71).toNat : Int)) (u8of_wrap _)) rfl ?_
                      obtain ⟨b530, w531, E532, S533, X534, L535⟩ := St.lit S514 (P := Try.prog) (t := 126) (e := 5) (n := 2) (vs := [(0, .int .u8 ((u8of x516.N).toNat : Int)), (1, .int .u8 ((u8of x71).toNat : Int))]) (cs := #[.int .u8 ((u8of x516.N).toNat : Int), .int .u8 ((u8of x71).toNat : Int)]) (by kernel_rfl)
                      have c536 := hc527.ext X534
                      change St _ _ _ [[(b530, .cells #[.int .u8 ((u8of x516.N).toNat : Int), .int .u8 ((u8of x71).toNat : Int)] 5 (0, 0))], [(p31, .cells #[.int .i64 x65, .slice A66 l68.length c67] 183 (0, 0))], [(b1, .cells #[.slice A1 a1.length c1] 119 (0, 0))], [(b64, .cells #[.int .i64 x71] 3 (0, 0))], G57, G62, G69] at S533
                      refine WH.e rfl wants (E532 (evp_cons rfl (evp_cons rfl evp_nil))) rfl ⟨cellsAt.of_blk (S533.blk 2 rfl) rfl, cellsAt.of_blk (S533.blk 3 rfl) rfl, (hR1.ext (S533.keepF hF1)), trivial⟩ ?_
                      have hO537 : SlO 5 Rp.u8 (.slice (some ⟨b530, 0, none⟩) ([u8of x516.N, u8of x71] : List UInt8).length 2) ([u8of x516.N, u8of x71] : List UInt8) ([(b530, .cells #[.int .u8 ((u8of x516.N).toNat : Int), .int .u8 ((u8of x71).toNat : Int)] 5 (0, 0))] ++ []) := SlO.lit (GM := []) ⟨_, _, [], [], rfl, rfl, ⟨rfl, rfl⟩, ⟨_, _, [], [], rfl, rfl, ⟨rfl, rfl⟩, ⟨rfl, rfl⟩⟩⟩ rfl (Nat.le_of_ble_eq_true rfl) (Nat.le_of_ble_eq_true rfl)
                      rw [List.append_nil] at hO537
                      refine WH.e rfl wants (GR.e (G.strb Try.underlying126 Try.underlying5 Try.underlying9 rfl (hO537.rd (fun b o hb => S533.grp 0 rfl hb)))) rfl ⟨cellsAt.of_blk (S533.blk 2 rfl) rfl, cellsAt.of_blk (S533.blk 3 rfl) rfl, (hR1.ext (S533.keepF hF1)), trivial⟩ ?_
                      refine WH.p rfl wants (G.assign rfl) rfl ?_
                      refine WH.nil ?_
                      refine WEx.then_ ?_
                      refine WCode.forget (l' := [(3, .pointer (some ⟨b1, 0, none⟩)), (6, .int .i64 t13), (7, .pointer (some ⟨p31, 0, none⟩)), (9, .slice A54 l56.length c55), (10, .slice A59 l61.length c60), (11, .pointer (some ⟨b64, 0, none⟩)), (12, .int .i64 t122), (13, .int .i64 x127), (14, .bool (decide (x127 < (l56.length : Int)))), (16, .slice none 0 0), (20, .string (bs ([u8of x516.N, u8of x71] : List UInt8)))]) ⟨rfl, rfl, rfl, rfl, rfl, rfl, rfl, rfl, rfl, rfl, rfl, trivial⟩ ?_
                      refine WCode.seq ?_
                      refine WCode.region ?_
                      refine WOps.p (G.move rfl) rfl ?_
                      refine WOps.p (G.move rfl) rfl ?_
                      refine WOps.p (G.move rfl) rfl ?_
                      have S538 := S533.front 6 rfl
                      change St _ _ _ [G69, [(b530, .cells #[.int .u8 ((u8of x516.N).toNat : Int), .int .u8 ((u8of x71).toNat : Int)] 5 (0, 0))], [(p31, .cells #[.int .i64 x65, .slice A66 l68.length c67] 183 (0, 0))], [(b1, .cells #[.slice A1 a1.length c1] 119 (0, 0))], [(b64, .cells #[.int .i64 x71] 3 (0, 0))], G57, G62] at S538
                      have S539 := S538.front 2 rfl
                      change St _ _ _ [[(p31, .cells #[.int .i64 x65, .slice A66 l68.length c67] 183 (0, 0))], G69, [(b530, .cells #[.int .u8 ((u8of x516.N).toNat : Int), .int .u8 ((u8of x71).toNat : Int)] 5 (0, 0))], [(b1, .cells #[.slice A1 a1.length c1] 119 (0, 0))], [(b64, .cells #[.int .i64 x71] 3 (0, 0))], G57, G62] at S539
                      have hO540 : ObjO 183 Shelf_int__string_.rp p31 (⟨x65, l68⟩ : Shelf_int__string_) ([(p31, .cells #[.int .i64 x65, .slice A66 l68.length c67] 183 (0, 0))] ++ (G69)) := ⟨_, _, ⟨A66, c67, G69, rfl, hO70, rfl⟩, rfl⟩
                      have S541 : St _ _ _ [[(p31, .cells #[.int .i64 x65, .slice A66 l68.length c67] 183 (0, 0))] ++ (G69), [(b530, .cells #[.int .u8 ((u8of x516.N).toNat : Int), .int .u8 ((u8of x71).toNat : Int)] 5 (0, 0))], [(b1, .cells #[.slice A1 a1.length c1] 119 (0, 0))], [(b64, .cells #[.int .i64 x71] 3 (0, 0))], G57, G62] := S539.objs (by simp)
                      obtain ⟨t542, hc543, hF⟩ := bind_some hF
                      refine WOps.call T.call62 (evs_cons rfl (evs_cons rfl (evs_cons rfl evs_nil))) rfl ?_
                      refine (sha_Put_calls k178 (⟨x65, l68⟩ : Shelf_int__string_) t122 ([u8of x516.N, u8of x71] : List UInt8) hO540 hc543 (St.hpN (As := [[(p31, .cells #[.int .i64 x65, .slice A66 l68.length c67] 183 (0, 0))] ++ (G69)]) S541)).mono ?_
                      rintro _ w544 ⟨G547, rfl, hO548, T545⟩
                      have S546 := St.callN (As := [[(p31, .cells #[.int .i64 x65, .slice A66 l68.length c67] 183 (0, 0))] ++ (G69)]) S541 T545
                      change St _ _ _ [G547, [(b530, .cells #[.int .u8 ((u8of x516.N).toNat : Int), .int .u8 ((u8of x71).toNat : Int)] 5 (0, 0))], [(b1, .cells #[.slice A1 a1.length c1] 119 (0, 0))], [(b64, .cells #[.int .i64 x71] 3 (0, 0))], G57, G62] at S546
                      refine ⟨_, rfl, ?_⟩
                      obtain ⟨cs549, G550, ho551, hg552⟩ := hO548
                      obtain ⟨A553, c554, G555, rfl, hO556, hq557⟩ := ho551
                      have S558 : St _ _ _ [[(p31, .cells #[.int .i64 t542.2.most, .slice A553 t542.2.pairs.length c554] 183 (0, 0))], G555, [(b530, .cells #[.int .u8 ((u8of x516.N).toNat : Int), .int .u8 ((u8of x71).toNat : Int)] 5 (0, 0))], [(b1, .cells #[.slice A1 a1.length c1] 119 (0, 0))], [(b64, .cells #[.int .i64 x71] 3 (0, 0))], G57, G62] := S546.objs (by rw [hg552, hq557]; simp)
                      refine WOps.p (G.assign rfl) rfl ?_
                      refine WOps.nil ?_
                      refine WEx.then_ ?_
                      refine WCode.seq ?_
                      refine WCode.block ?_
                      refine WCode.seq ?_
                      refine WCode.region ?_
                      refine WOps.p (G.move rfl) rfl ?_
                      refine WOps.p (G.assign rfl) rfl ?_
                      refine WOps.nil ?_
                      refine WEx.then_ ?_
                      rcases ite_some hF with ⟨h559, hF⟩ | ⟨h559, hF⟩
                      ·
                        refine WCode.cond_t (kb (b := decide (x127 < (l56.length : Int))) rfl (decide_eq_true h559)) ?_
                        refine WCode.seq ?_
                        refine WCode.region ?_
                        refine WOps.p (G.move rfl) rfl ?_
                        refine WOps.p (G.move rfl) rfl ?_
                        obtain ⟨l560, hc561, hF⟩ := bind_some hF
                        have S562 := S558.emp
                        obtain ⟨xs572, he573, hd574⟩ := SlR.Rd (hO63.rd (fun b o hb => S562.grp 7 rfl hb))
                        obtain ⟨A564, c565, G566, w567, E568, hO569, S570, hk571⟩ := St.appP (P := Try.prog) (r := Rp.str) (M := l61) S562 T.elt77 rfl (SlO.nil 9 Rp.str) hd574 (elems.flat plain_flat he573) rfl hc561
                        change St _ _ _ [G566, [(p31, .cells #[.int .i64 t542.2.most, .slice A553 t542.2.pairs.length c554] 183 (0, 0))], G555, [(b530, .cells #[.int .u8 ((u8of x516.N).toNat : Int), .int .u8 ((u8of x71).toNat : Int)] 5 (0, 0))], [(b1, .cells #[.slice A1 a1.length c1] 119 (0, 0))], [(b64, .cells #[.int .i64 x71] 3 (0, 0))], G57, G62] at S570
                        refine WOps.e (E568 rfl rfl) rfl ?_
                        refine WOps.p (G.assign rfl) rfl ?_
                        refine WOps.nil ?_
                        refine WEx.then_ ?_
                        refine WCode.forget (l' := [(3, .pointer (some ⟨b1, 0, none⟩)), (6, .int .i64 t13), (7, .pointer (some ⟨p31, 0, none⟩)), (9, .slice A54 l56.length c55), (11, .pointer (some ⟨b64, 0, none⟩)), (13, .int .i64 x127), (16, .slice A564 l560.length c565), (20, .string (bs ([u8of x516.N, u8of x71] : List UInt8))), (21, .int .i64 t542.1)]) ⟨rfl, rfl, rfl, rfl, rfl, rfl, rfl, rfl, rfl, trivial⟩ ?_
                        refine WCode.seq ?_
                        refine WCode.region ?_
                        refine WOps.p (G.move rfl) rfl ?_
                        refine WOps.p (G.move rfl) rfl ?_
                        refine WOps.p (G.move rfl) rfl ?_
                        obtain ⟨x575, hc576, hF⟩ := bind_some hF
                        obtain ⟨j577, ej578, hj579, hl580⟩ := idx_spec hc576
                        obtain ⟨b581, o582, cs583, eA584, hf585, hc586, hr587⟩ := SlR.at_ (hO569.rd (fun b o hb => S570.grp 0 rfl hb)) hj579
                        have hq588 : cs583 = [.string (bs x575)] := hr587
                        subst hq588
                        change cellsAt _ _ (o582 + j577 * 1) [.string (bs x575)] at hc586
                        refine WOps.p (G.idx T.el77 rfl eA584 rfl ej578 hl580) rfl ?_
                        obtain ⟨l589, hc590, hF⟩ := bind_some hF
                        have e591 := upd_spec' hc590 ej578
                        obtain ⟨w592, G593, E594, hO595, S596⟩ := St.storeF (P := Try.prog) (T := 9) S570 hO569 T.size9_1 hj579 eA584 ([u8of x516.N, u8of x71] : List UInt8) (v := .string (bs ([u8of x516.N, u8of x71] : List UInt8))) [] [.string (bs x575)] [] rfl rfl rfl
                        rw [← e591] at hO595
                        have hl597 : (l560).length = l589.length := by rw [e591, List.length_set]
                        try rw [hl597] at S596
                        try rw [hl597]
                        change St _ _ _ [G593, [(p31, .cells #[.int .i64 t542.2.most, .slice A553 t542.2.pairs.length c554] 183 (0, 0))], G555, [(b530, .cells #[.int .u8 ((u8of x516.N).toNat : Int), .int .u8 ((u8of x71).toNat : Int)] 5 (0, 0))], [(b1, .cells #[.slice A1 a1.length c1] 119 (0, 0))], [(b64, .cells #[.int .i64 x71] 3 (0, 0))], G57, G62] at S596
                        refine WOps.u (E594 rfl rfl) ?_
                        refine WOps.nil ?_
                        refine WEx.then_ ?_
                        refine WCode.region ?_
                        refine WOps.p (G.move rfl) rfl ?_
                        refine WOps.p (G.assign rfl) rfl ?_
                        refine WOps.nil ?_
                        refine WEx.in_normal ?_
                        refine WEx.then_ ?_
                        refine WCode.seq ?_
                        refine WCode.region ?_
                        refine WOps.p (G.move rfl) rfl ?_
                        refine WOps.p (G.neq rfl rfl rfl) rfl ?_
                        refine WOps.nil ?_
                        refine WEx.then_ ?_
                        refine WCode.forget (l' := [(3, .pointer (some ⟨b1, 0, none⟩)), (6, .int .i64 t13), (7, .pointer (some ⟨p31, 0, none⟩)), (9, .slice A54 l56.length c55), (10, .slice A564 l589.length c565), (11, .pointer (some ⟨b64, 0, none⟩)), (122, .bool (!(decide (t542.1 = 0))))]) ⟨rfl, rfl, rfl, rfl, rfl, rfl, rfl, trivial⟩ ?_
                        rcases ite_some hF with ⟨h598, hF⟩ | ⟨h598, hF⟩
                        ·
                          refine WCode.cond_f (kb (b := !(decide (t542.1 = 0))) rfl (show (!(decide (t542.1 = 0))) = false from by rw [(decide_eq_true h598)]; rfl)) ?_
                          refine WCode.skip ?_
                          refine WEx.in_normal ?_
                          have S599 := S596.front 2 rfl
                          change St _ _ _ [G555, G593, [(p31, .cells #[.int .i64 t542.2.most, .slice A553 t542.2.pairs.length c554] 183 (0, 0))], [(b530, .cells #[.int .u8 ((u8of x516.N).toNat : Int), .int .u8 ((u8of x71).toNat : Int)] 5 (0, 0))], [(b1, .cells #[.slice A1 a1.length c1] 119 (0, 0))], [(b64, .cells #[.int .i64 x71] 3 (0, 0))], G57, G62] at S599
                          have S600 := S599.front 1 rfl
                          change St _ _ _ [G593, G555, [(p31, .cells #[.int .i64 t542.2.most, .slice A553 t542.2.pairs.length c554] 183 (0, 0))], [(b530, .cells #[.int .u8 ((u8of x516.N).toNat : Int), .int .u8 ((u8of x71).toNat : Int)] 5 (0, 0))], [(b1, .cells #[.slice A1 a1.length c1] 119 (0, 0))], [(b64, .cells #[.int .i64 x71] 3 (0, 0))], G57, G62] at S600
                          have S601 := S600.front 6 rfl
                          change St _ _ _ [G57, G593, G555, [(p31, .cells #[.int .i64 t542.2.most, .slice A553 t542.2.pairs.length c554] 183 (0, 0))], [(b530, .cells #[.int .u8 ((u8of x516.N).toNat : Int), .int .u8 ((u8of x71).toNat : Int)] 5 (0, 0))], [(b1, .cells #[.slice A1 a1.length c1] 119 (0, 0))], [(b64, .cells #[.int .i64 x71] 3 (0, 0))], G62] at S601
                          have S602 := S601.front 6 rfl
                          change St _ _ _ [[(b64, .cells #[.int .i64 x71] 3 (0, 0))], G57, G593, G555, [(p31, .cells #[.int .i64 t542.2.most, .slice A553 t542.2.pairs.length c554] 183 (0, 0))], [(b530, .cells #[.int .u8 ((u8of x516.N).toNat : Int), .int .u8 ((u8of x71).toNat : Int)] 5 (0, 0))], [(b1, .cells #[.slice A1 a1.length c1] 119 (0, 0))], G62] at S602
                          have S603 := S602.front 6 rfl
                          change St _ _ _ [[(b1, .cells #[.slice A1 a1.length c1] 119 (0, 0))], [(b64, .cells #[.int .i64 x71] 3 (0, 0))], G57, G593, G555, [(p31, .cells #[.int .i64 t542.2.most, .slice A553 t542.2.pairs.length c554] 183 (0, 0))], [(b530, .cells #[.int .u8 ((u8of x516.N).toNat : Int), .int .u8 ((u8of x71).toNat : Int)] 5 (0, 0))], G62] at S603
                          have S604 := S603.front 5 rfl
                          change St _ _ _ [[(p31, .cells #[.int .i64 t542.2.most, .slice A553 t542.2.pairs.length c554] 183 (0, 0))], [(b1, .cells #[.slice A1 a1.length c1] 119 (0, 0))], [(b64, .cells #[.int .i64 x71] 3 (0, 0))], G57, G593, G555, [(b530, .cells #[.int .u8 ((u8of x516.N).toNat : Int), .int .u8 ((u8of x71).toNat : Int)] 5 (0, 0))], G62] at S604
                          have S605 := St.keep (As := [[(p31, .cells #[.int .i64 t542.2.most, .slice A553 t542.2.pairs.length c554] 183 (0, 0))], [(b1, .cells #[.slice A1 a1.length c1] 119 (0, 0))], [(b64, .cells #[.int .i64 x71] 3 (0, 0))], G57, G593, G555]) S604
                          refine WEx.cutend _ ?_ ⟨k178, A54, c55, l56, G57, A564, c565, l589, G593, t542.2.most, A553, c554, t542.2.pairs, G555, rfl, hF, (by omega), hO58, hO595, hO556, S605⟩
                          exact ⟨rfl, rfl, rfl, rfl, rfl, rfl, trivial⟩
                        ·
                          refine WCode.cond_t (kb (b := !(decide (t542.1 = 0))) rfl (show (!(decide (t542.1 = 0))) = true from by rw [(decide_eq_false h598)]; rfl)) ?_
                          refine WCode.seq ?_
                          refine WCode.region ?_
                          refine WOps.p (G.assign rfl) rfl ?_
                          refine WOps.nil ?_
                          refine WEx.then_ ?_
                          refine WCode.ret ?_
                          refine WEx.in_ret ?_
                          refine WEx.then_ret ?_
                          refine WEx.in_ret ?_
                          refine WEx.then_ret ?_
                          refine WEx.then_ret ?_
                          refine WEx.in_ret ?_
                          refine WEx.then_ret ?_
                          obtain rfl := some_eq hF
                          refine WEx.ret1 rfl rfl ?_
                          exact ⟨rfl, St.keep (As := []) S596⟩
                      ·
                        refine WCode.cond_f (kb (b := decide (x127 < (l56.length : Int))) rfl (decide_eq_false h559)) ?_
                        refine WCode.seq ?_
                        refine WCode.region ?_
                        refine WOps.p (G.move rfl) rfl ?_
                        refine WOps.p (G.len T.el33 rfl) rfl ?_
                        refine WOps.p (G.move rfl) rfl ?_
                        refine WOps.p (G.geq rfl rfl rfl) rfl ?_
                        refine WOps.p (G.assign rfl) rfl ?_
                        refine WOps.nil ?_
                        refine WEx.then_ ?_
                        refine WCode.forget (l' := [(3, .pointer (some ⟨b1, 0, none⟩)), (6, .int .i64 t13), (7, .pointer (some ⟨p31, 0, none⟩)), (9, .slice A54 l56.length c55), (10, .slice A59 l61.length c60), (11, .pointer (some ⟨b64, 0, none⟩)), (12, .int .i64 t122), (20, .string (bs ([u8of x516.N, u8of x71] : List UInt8))), (21, .int .i64 t542.1), (114, .bool (decide (t13 ≤ (l56.length : Int))))]) ⟨rfl, rfl, rfl, rfl, rfl, rfl, rfl, rfl, rfl, rfl, trivial⟩ ?_
                        rcases ite_some hF with ⟨h606, hF⟩ | ⟨h606, hF⟩
                        ·
                          refine WCode.cond_t (kb (b := decide (t13 ≤ (l56.length : Int))) rfl (decide_eq_true h606)) ?_
                          refine WCode.seq ?_
                          refine WCode.seq ?_
                          refine WCode.region ?_
                          refine WOps.p (G.move rfl) rfl ?_
                          refine WOps.p (G.neq rfl rfl rfl) rfl ?_
                          refine WOps.nil ?_
                          refine WEx.then_ ?_
                          rcases ite_some hF with ⟨h607, hF⟩ | ⟨h607, hF⟩
                          ·
                            refine WCode.cond_f (kb (b := !(decide (t542.1 = 140))) rfl (show (!(decide (t542.1 = 140))) = false from by rw [(decide_eq_true h607)]; rfl)) ?_
                            refine WCode.skip ?_
                            refine WEx.then_ ?_
                            refine WCode.exit ?_
                            refine WEx.in_other rfl ?_
                            refine WEx.then_exit ?_
                            refine WEx.in_other rfl ?_
                            refine WEx.then_exit ?_
                            refine WEx.in_exit ?_
                            have S608 := S558.front 1 rfl
                            change St _ _ _ [G555, [(p31, .cells #[.int .i64 t542.2.most, .slice A553 t542.2.pairs.length c554] 183 (0, 0))], [(b530, .cells #[.int .u8 ((u8of x516.N).toNat : Int), .int .u8 ((u8of x71).toNat : Int)] 5 (0, 0))], [(b1, .cells #[.slice A1 a1.length c1] 119 (0, 0))], [(b64, .cells #[.int .i64 x71] 3 (0, 0))], G57, G62] at S608
                            have S609 := S608.front 6 rfl
                            change St _ _ _ [G62, G555, [(p31, .cells #[.int .i64 t542.2.most, .slice A553 t542.2.pairs.length c554] 183 (0, 0))], [(b530, .cells #[.int .u8 ((u8of x516.N).toNat : Int), .int .u8 ((u8of x71).toNat : Int)] 5 (0, 0))], [(b1, .cells #[.slice A1 a1.length c1] 119 (0, 0))], [(b64, .cells #[.int .i64 x71] 3 (0, 0))], G57] at S609
                            have S610 := S609.front 6 rfl
                            change St _ _ _ [G57, G62, G555, [(p31, .cells #[.int .i64 t542.2.most, .slice A553 t542.2.pairs.length c554] 183 (0, 0))], [(b530, .cells #[.int .u8 ((u8of x516.N).toNat : Int), .int .u8 ((u8of x71).toNat : Int)] 5 (0, 0))], [(b1, .cells #[.slice A1 a1.length c1] 119 (0, 0))], [(b64, .cells #[.int .i64 x71] 3 (0, 0))]] at S610
                            have S611 := S610.front 6 rfl
                            change St _ _ _ [[(b64, .cells #[.int .i64 x71] 3 (0, 0))], G57, G62, G555, [(p31, .cells #[.int .i64 t542.2.most, .slice A553 t542.2.pairs.length c554] 183 (0, 0))], [(b530, .cells #[.int .u8 ((u8of x516.N).toNat : Int), .int .u8 ((u8of x71).toNat : Int)] 5 (0, 0))], [(b1, .cells #[.slice A1 a1.length c1] 119 (0, 0))]] at S611
                            have S612 := S611.front 6 rfl
                            change St _ _ _ [[(b1, .cells #[.slice A1 a1.length c1] 119 (0, 0))], [(b64, .cells #[.int .i64 x71] 3 (0, 0))], G57, G62, G555, [(p31, .cells #[.int .i64 t542.2.most, .slice A553 t542.2.pairs.length c554] 183 (0, 0))], [(b530, .cells #[.int .u8 ((u8of x516.N).toNat : Int), .int .u8 ((u8of x71).toNat : Int)] 5 (0, 0))]] at S612
                            have S613 := S612.front 5 rfl
                            change St _ _ _ [[(p31, .cells #[.int .i64 t542.2.most, .slice A553 t542.2.pairs.length c554] 183 (0, 0))], [(b1, .cells #[.slice A1 a1.length c1] 119 (0, 0))], [(b64, .cells #[.int .i64 x71] 3 (0, 0))], G57, G62, G555, [(b530, .cells #[.int .u8 ((u8of x516.N).toNat : Int), .int .u8 ((u8of x71).toNat : Int)] 5 (0, 0))]] at S613
                            have S614 := St.keep (As := [[(p31, .cells #[.int .i64 t542.2.most, .slice A553 t542.2.pairs.length c554] 183 (0, 0))], [(b1, .cells #[.slice A1 a1.length c1] 119 (0, 0))], [(b64, .cells #[.int .i64 x71] 3 (0, 0))], G57, G62, G555]) S613
                            refine WEx.cutend _ ?_ ⟨k178, A54, c55, l56, G57, A59, c60, l61, G62, t542.2.most, A553, c554, t542.2.pairs, G555, rfl, hF, (by omega), hO58, hO63, hO556, S614⟩
                            exact ⟨rfl, rfl, rfl, rfl, rfl, rfl, trivial⟩
                          ·
                            refine WCode.cond_t (kb (b := !(decide (t542.1 = 140))) rfl (show (!(decide (t542.1 = 140))) = true from by rw [(decide_eq_false h607)]; rfl)) ?_
                            refine WCode.seq ?_
                            refine WCode.region ?_
                            refine WOps.p (G.assign rfl) rfl ?_
                            refine WOps.nil ?_
                            refine WEx.then_ ?_
                            refine WCode.forget (l' := [(4, .bool false)]) ⟨rfl, trivial⟩ ?_
                            refine WCode.ret ?_
                            refine WEx.then_ret ?_
                            refine WEx.in_ret ?_
                            refine WEx.then_ret ?_
                            refine WEx.in_ret ?_
                            refine WEx.then_ret ?_
                            refine WEx.in_ret ?_
                            refine WEx.then_ret ?_
                            refine WEx.then_ret ?_
                            refine WEx.in_ret ?_
                            refine WEx.then_ret ?_
                            obtain rfl := some_eq hF
                            refine WEx.ret1 rfl rfl ?_
                            exact ⟨rfl, St.keep (As := []) S558⟩
                        ·
                          refine WCode.cond_f (kb (b := decide (t13 ≤ (l56.length : Int))) rfl (decide_eq_false h606)) ?_
                          refine WCode.seq ?_
                          refine WCode.region ?_
                          refine WOps.p (G.move rfl) rfl ?_
                          refine WOps.p (G.move rfl) rfl ?_
                          obtain ⟨b615, w616, E617, S618, X619, L620⟩ := St.lit S558 (P := Try.prog) (t := 33) (e := 3) (n := 1) (vs := [(0, .int .i64 t122)]) (cs := #[.int .i64 t122]) (by kernel_rfl)
                          change St _ _ _ [[(b615, .cells #[.int .i64 t122] 3 (0, 0))], [(p31, .cells #[.int .i64 t542.2.most, .slice A553 t542.2.pairs.length c554] 183 (0, 0))], G555, [(b530, .cells #[.int .u8 ((u8of x516.N).toNat : Int), .int .u8 ((u8of x71).toNat : Int)] 5 (0, 0))], [(b1, .cells #[.slice A1 a1.length c1] 119 (0, 0))], [(b64, .cells #[.int .i64 x71] 3 (0, 0))], G57, G62] at S618
                          refine WOps.e (E617 (evp_cons rfl evp_nil)) rfl ?_
                          obtain ⟨l621, hc622, hF⟩ := bind_some hF
                          have S623 := S618.front 6 rfl
                          change St _ _ _ [G57, [(b615, .cells #[.int .i64 t122] 3 (0, 0))], [(p31, .cells #[.int .i64 t542.2.most, .slice A553 t542.2.pairs.length c554] 183 (0, 0))], G555, [(b530, .cells #[.int .u8 ((u8of x516.N).toNat : Int), .int .u8 ((u8of x71).toNat : Int)] 5 (0, 0))], [(b1, .cells #[.slice A1 a1.length c1] 119 (0, 0))], [(b64, .cells #[.int .i64 x71] 3 (0, 0))], G62] at S623
                          obtain ⟨A624, c625, G626, w627, E628, hO629, S630, hk631⟩ := St.appP (P := Try.prog) (r := (Rp.int .i64)) (M := ([t122] : List Int)) S623 T.elt33 rfl hO58 (Rd.of_blk (S623.blk 1 rfl) (n := 1) (sz := 1) rfl) ⟨_, _, [], [], rfl, rfl, ⟨rfl, rfl⟩, ⟨rfl, rfl⟩⟩ rfl hc622
                          change St _ _ _ [G626, [(b615, .cells #[.int .i64 t122] 3 (0, 0))], [(p31, .cells #[.int .i64 t542.2.most, .slice A553 t542.2.pairs.length c554] 183 (0, 0))], G555, [(b530, .cells #[.int .u8 ((u8of x516.N).toNat : Int), .int .u8 ((u8of x71).toNat : Int)] 5 (0, 0))], [(b1, .cells #[.slice A1 a1.length c1] 119 (0, 0))], [(b64, .cells #[.int .i64 x71] 3 (0, 0))], G62] at S630
                          refine WOps.e (E628 rfl rfl) rfl ?_
                          refine WOps.p (G.assign rfl) rfl ?_
                          refine WOps.nil ?_
                          refine WEx.then_ ?_
                          refine WCode.region ?_
                          refine WOps.p (G.move rfl) rfl ?_
                          refine WOps.p (G.move rfl) rfl ?_
                          obtain ⟨b632, w633, E634, S635, X636, L637⟩ := St.lit S630 (P := Try.prog) (t := 77) (e := 9) (n := 1) (vs := [(0, .string (bs ([u8of x516.N, u8of x71] : List UInt8)))]) (cs := #[.string (bs ([u8of x516.N, u8of x71] : List UInt8))]) (by kernel_rfl)
                          change St _ _ _ [[(b632, .cells #[.string (bs ([u8of x516.N, u8of x71] : List UInt8))] 9 (0, 0))], G626, [(b615, .cells #[.int .i64 t122] 3 (0, 0))], [(p31, .cells #[.int .i64 t542.2.most, .slice A553 t542.2.pairs.length c554] 183 (0, 0))], G555, [(b530, .cells #[.int .u8 ((u8of x516.N).toNat : Int), .int .u8 ((u8of x71).toNat : Int)] 5 (0, 0))], [(b1, .cells #[.slice A1 a1.length c1] 119 (0, 0))], [(b64, .cells #[.int .i64 x71] 3 (0, 0))], G62] at S635
                          refine WOps.e (E634 (evp_cons rfl evp_nil)) rfl ?_
                          obtain ⟨l638, hc639, hF⟩ := bind_some hF
                          have S640 := S635.front 8 rfl
                          change St _ _ _ [G62, [(b632, .cells #[.string (bs ([u8of x516.N, u8of x71] : List UInt8))] 9 (0, 0))], G626, [(b615, .cells #[.int .i64 t122] 3 (0, 0))], [(p31, .cells #[.int .i64 t542.2.most, .slice A553 t542.2.pairs.length c554] 183 (0, 0))], G555, [(b530, .cells #[.int .u8 ((u8of x516.N).toNat : Int), .int .u8 ((u8of x71).toNat : Int)] 5 (0, 0))], [(b1, .cells #[.slice A1 a1.length c1] 119 (0, 0))], [(b64, .cells #[.int .i64 x71] 3 (0, 0))]] at S640
                          obtain ⟨A641, c642, G643, w644, E645, hO646, S647, hk648⟩ := St.appP (P := Try.prog) (r := Rp.str) (M := ([([u8of x516.N, u8of x71] : List UInt8)] : List (List UInt8))) S640 T.elt77 rfl hO63 (Rd.of_blk (S640.blk 1 rfl) (n := 1) (sz := 1) rfl) ⟨_, _, [], [], rfl, rfl, ⟨rfl, rfl⟩, ⟨rfl, rfl⟩⟩ rfl hc639
                          change St _ _ _ [G643, [(b632, .cells #[.string (bs ([u8of x516.N, u8of x71] : List UInt8))] 9 (0, 0))], G626, [(b615, .cells #[.int .i64 t122] 3 (0, 0))], [(p31, .cells #[.int .i64 t542.2.most, .slice A553 t542.2.pairs.length c554] 183 (0, 0))], G555, [(b530, .cells #[.int .u8 ((u8of x516.N).toNat : Int), .int .u8 ((u8of x71).toNat : Int)] 5 (0, 0))], [(b1, .cells #[.slice A1 a1.length c1] 119 (0, 0))], [(b64, .cells #[.int .i64 x71] 3 (0, 0))]] at S647
                          refine WOps.e (E645 rfl rfl) rfl ?_
                          refine WOps.p (G.assign rfl) rfl ?_
                          refine WOps.nil ?_
                          refine WEx.in_normal ?_
                          refine WEx.then_ ?_
                          refine WCode.forget (l' := [(3, .pointer (some ⟨b1, 0, none⟩)), (6, .int .i64 t13), (7, .pointer (some ⟨p31, 0, none⟩)), (9, .slice A624 l621.length c625), (10, .slice A641 l638.length c642), (11, .pointer (some ⟨b64, 0, none⟩)), (21, .int .i64 t542.1)]) ⟨rfl, rfl, rfl, rfl, rfl, rfl, rfl, trivial⟩ ?_
                          refine WCode.seq ?_
                          refine WCode.region ?_
                          refine WOps.p (G.move rfl) rfl ?_
                          refine WOps.p (G.neq rfl rfl rfl) rfl ?_
                          refine WOps.nil ?_
                          refine WEx.then_ ?_
                          rcases ite_some hF with ⟨h649, hF⟩ | ⟨h649, hF⟩
                          ·
                            refine WCode.cond_f (kb (b := !(decide (t542.1 = 0))) rfl (show (!(decide (t542.1 = 0))) = false from by rw [(decide_eq_true h649)]; rfl)) ?_
                            refine WCode.skip ?_
                            refine WEx.in_normal ?_
                            have S650 := S647.front 5 rfl
                            change St _ _ _ [G555, G643, [(b632, .cells #[.string (bs ([u8of x516.N, u8of x71] : List UInt8))] 9 (0, 0))], G626, [(b615, .cells #[.int .i64 t122] 3 (0, 0))], [(p31, .cells #[.int .i64 t542.2.most, .slice A553 t542.2.pairs.length c554] 183 (0, 0))], [(b530, .cells #[.int .u8 ((u8of x516.N).toNat : Int), .int .u8 ((u8of x71).toNat : Int)] 5 (0, 0))], [(b1, .cells #[.slice A1 a1.length c1] 119 (0, 0))], [(b64, .cells #[.int .i64 x71] 3 (0, 0))]] at S650
                            have S651 := S650.front 1 rfl
                            change St _ _ _ [G643, G555, [(b632, .cells #[.string (bs ([u8of x516.N, u8of x71] : List UInt8))] 9 (0, 0))], G626, [(b615, .cells #[.int .i64 t122] 3 (0, 0))], [(p31, .cells #[.int .i64 t542.2.most, .slice A553 t542.2.pairs.length c554] 183 (0, 0))], [(b530, .cells #[.int .u8 ((u8of x516.N).toNat : Int), .int .u8 ((u8of x71).toNat : Int)] 5 (0, 0))], [(b1, .cells #[.slice A1 a1.length c1] 119 (0, 0))], [(b64, .cells #[.int .i64 x71] 3 (0, 0))]] at S651
                            have S652 := S651.front 3 rfl
                            change St _ _ _ [G626, G643, G555, [(b632, .cells #[.string (bs ([u8of x516.N, u8of x71] : List UInt8))] 9 (0, 0))], [(b615, .cells #[.int .i64 t122] 3 (0, 0))], [(p31, .cells #[.int .i64 t542.2.most, .slice A553 t542.2.pairs.length c554] 183 (0, 0))], [(b530, .cells #[.int .u8 ((u8of x516.N).toNat : Int), .int .u8 ((u8of x71).toNat : Int)] 5 (0, 0))], [(b1, .cells #[.slice A1 a1.length c1] 119 (0, 0))], [(b64, .cells #[.int .i64 x71] 3 (0, 0))]] at S652
                            have S653 := S652.front 8 rfl
                            change St _ _ _ [[(b64, .cells #[.int .i64 x71] 3 (0, 0))], G626, G643, G555, [(b632, .cells #[.string (bs ([u8of x516.N, u8of x71] : List UInt8))] 9 (0, 0))], [(b615, .cells #[.int .i64 t122] 3 (0, 0))], [(p31, .cells #[.int .i64 t542.2.most, .slice A553 t542.2.pairs.length c554] 183 (0, 0))], [(b530, .cells #[.int .u8 ((u8of x516.N).toNat : Int), .int .u8 ((u8of x71).toNat : Int)] 5 (0, 0))], [(b1, .cells #[.slice A1 a1.length c1] 119 (0, 0))]] at S653
                            have S654 := S653.front 8 rfl
                            change St _ _ _ [[(b1, .cells #[.slice A1 a1.length c1] 119 (0, 0))], [(b64, .cells #[.int .i64 x71] 3 (0, 0))], G626, G643, G555, [(b632, .cells #[.string (bs ([u8of x516.N, u8of x71] : List UInt8))] 9 (0, 0))], [(b615, .cells #[.int .i64 t122] 3 (0, 0))], [(p31, .cells #[.int .i64 t542.2.most, .slice A553 t542.2.pairs.length c554] 183 (0, 0))], [(b530, .cells #[.int .u8 ((u8of x516.N).toNat : Int), .int .u8 ((u8of x71).toNat : Int)] 5 (0, 0))]] at S654
                            have S655 := S654.front 7 rfl
                            change St _ _ _ [[(p31, .cells #[.int .i64 t542.2.most, .slice A553 t542.2.pairs.length c554] 183 (0, 0))], [(b1, .cells #[.slice A1 a1.length c1] 119 (0, 0))], [(b64, .cells #[.int .i64 x71] 3 (0, 0))], G626, G643, G555, [(b632, .cells #[.string (bs ([u8of x516.N, u8of x71] : List UInt8))] 9 (0, 0))], [(b615, .cells #[.int .i64 t122] 3 (0, 0))], [(b530, .cells #[.int .u8 ((u8of x516.N).toNat : Int), .int .u8 ((u8of x71).toNat : Int)] 5 (0, 0))]] at S655
                            have S656 := St.keep (As := [[(p31, .cells #[.int .i64 t542.2.most, .slice A553 t542.2.pairs.length c554] 183 (0, 0))], [(b1, .cells #[.slice A1 a1.length c1] 119 (0, 0))], [(b64, .cells #[.int .i64 x71] 3 (0, 0))], G626, G643, G555]) S655
                            refine WEx.cutend _ ?_ ⟨k178, A624, c625, l621, G626, A641, c642, l638, G643, t542.2.most, A553, c554, t542.2.pairs, G555, rfl, hF, (by omega), hO629, hO646, hO556, S656⟩
                            exact ⟨rfl, rfl, rfl, rfl, rfl, rfl, trivial⟩
                          ·
                            refine WCode.cond_t (kb (b := !(decide (t542.1 = 0))) rfl (show (!(decide (t542.1 = 0))) = true from by rw [(decide_eq_false h649)]; rfl)) ?_
                            refine WCode.seq ?_
                            refine WCode.region ?_
                            refine WOps.p (G.assign rfl) rfl ?_
                            refine WOps.nil ?_
                            refine WEx.then_ ?_
                            refine WCode.ret ?_
                            refine WEx.in_ret ?_
                            refine WEx.then_ret ?_
                            refine WEx.in_ret ?_
                            refine WEx.then_ret ?_
                            refine WEx.then_ret ?_
                            refine WEx.in_ret ?_
                            refine WEx.then_ret ?_
                            obtain rfl := some_eq hF
                            refine WEx.ret1 rfl rfl ?_
                            exact ⟨rfl, St.keep (As := []) S647⟩
                ·
                  rintro _ w195 ⟨q197, A179, c180, l181, G182, A184, c185, l186, G187, x189, A190, c191, l192, G193, rfl, hF, hq198, hO183, hO188, hO194, S196⟩
                  obtain _ | k657 := q197
                  · exact nomatch (show (none : Option Bool) = some r_ from hF)
                  rw [law_Bound.j3] at hF
                  refine WCode.seq ?_
                  refine WCode.region ?_
                  refine WOps.p (G.move rfl) rfl ?_
                  have S658 := S196.front 5 rfl
                  change St _ _ _ [G193, [(p31, .cells #[.int .i64 x189, .slice A190 l192.length c191] 183 (0, 0))], [(b1, .cells #[.slice A1 a1.length c1] 119 (0, 0))], [(b64, .cells #[.int .i64 x71] 3 (0, 0))], G182, G187] at S658
                  have S659 := S658.front 1 rfl
                  change St _ _ _ [[(p31, .cells #[.int .i64 x189, .slice A190 l192.length c191] 183 (0, 0))], G193, [(b1, .cells #[.slice A1 a1.length c1] 119 (0, 0))], [(b64, .cells #[.int .i64 x71] 3 (0, 0))], G182, G187] at S659
                  have hO660 : ObjO 183 Shelf_int__string_.rp p31 (⟨x189, l192⟩ : Shelf_int__string_) ([(p31, .cells #[.int .i64 x189, .slice A190 l192.length c191] 183 (0, 0))] ++ (G193)) := ⟨_, _, ⟨A190, c191, G193, rfl, hO194, rfl⟩, rfl⟩
                  have S661 : St _ _ _ [[(p31, .cells #[.int .i64 x189, .slice A190 l192.length c191] 183 (0, 0))] ++ (G193), [(b1, .cells #[.slice A1 a1.length c1] 119 (0, 0))], [(b64, .cells #[.int .i64 x71] 3 (0, 0))], G182, G187] := S659.objs (by simp)
                  obtain ⟨t662, hc663, hF⟩ := bind_some hF
                  refine WOps.call T.call63 (evs_cons rfl evs_nil) rfl ?_
                  refine (sha_Keys_calls k657 (⟨x189, l192⟩ : Shelf_int__string_) hO660 hc663 (St.hpN (As := [[(p31, .cells #[.int .i64 x189, .slice A190 l192.length c191] 183 (0, 0))] ++ (G193)]) S661)).mono ?_
                  rintro _ w664 ⟨A667, c668, G669, G671, rfl, hO670, hO672, T665⟩
                  have S666 := St.callN (As := [[(p31, .cells #[.int .i64 x189, .slice A190 l192.length c191] 183 (0, 0))] ++ (G193)]) S661 T665
                  change St _ _ _ [G669, G671, [(b1, .cells #[.slice A1 a1.length c1] 119 (0, 0))], [(b64, .cells #[.int .i64 x71] 3 (0, 0))], G182, G187] at S666
                  refine ⟨_, rfl, ?_⟩
                  have S673 := S666.front 1 rfl
                  change St _ _ _ [G671, G669, [(b1, .cells #[.slice A1 a1.length c1] 119 (0, 0))], [(b64, .cells #[.int .i64 x71] 3 (0, 0))], G182, G187] at S673
                  obtain ⟨cs674, G675, ho676, hg677⟩ := hO672
                  obtain ⟨A678, c679, G680, rfl, hO681, hq682⟩ := ho676
                  have S683 : St _ _ _ [[(p31, .cells #[.int .i64 t662.2.most, .slice A678 t662.2.pairs.length c679] 183 (0, 0))], G680, G669, [(b1, .cells #[.slice A1 a1.length c1] 119 (0, 0))], [(b64, .cells #[.int .i64 x71] 3 (0, 0))], G182, G187] := S673.objs (by rw [hg677, hq682]; simp)
                  refine WOps.p (G.assign rfl) rfl ?_
                  refine WOps.nil ?_
                  refine WEx.then_ ?_
                  refine WCode.seq ?_
                  refine WCode.cutseq (fun l_ w_ => ∃ q693 : Nat, ∃ b684 : Bool, ∃ x685 : Int, ∃ A686 : Option Addr, ∃ c687 : Nat, ∃ l688 : List Pair_int__string_, ∃ G689 : Grp, l_ = [(3, .pointer (some ⟨b1, 0, none⟩)), (6, .int .i64 t13), (7, .pointer (some ⟨p31, 0, none⟩)), (9, .slice A179 l181.length c180), (10, .slice A184 l186.length c185), (11, .pointer (some ⟨b64, 0, none⟩)), (22, .slice A667 (t662.1).length c668), (227, .bool b684)] ∧ law_Bound.j5 q693 a1 t13 x71 l181 l186 t662 b684 x685 l688 = some r_ ∧ q693 ≤ k657 ∧ (SlO 187 Pair_int__string_.rp (.slice A686 l688.length c687) l688 G689) ∧ St w (KS []) w_ [[(p31, .cells #[.int .i64 x685, .slice A686 l688.length c687] 183 (0, 0))], [(b1, .cells #[.slice A1 a1.length c1] 119 (0, 0))], [(b64, .cells #[.int .i64 x71] 3 (0, 0))], G182, G187, G669, G689]) ?_ ?_
                  ·
                    refine WCode.region ?_
                    refine WOps.p (G.move rfl) rfl ?_
                    refine WOps.p (G.len T.el33 rfl) rfl ?_
                    refine WOps.p (G.move rfl) rfl ?_
                    refine WOps.p (G.len T.el33 rfl) rfl ?_
                    refine WOps.p (G.neq rfl rfl rfl) rfl ?_
                    refine WOps.p (G.move rfl) rfl ?_
                    rcases ite_some hF with ⟨h695, hF⟩ | ⟨h695, hF⟩
                    ·
                      refine WOps.on rfl (kbl (b := !(decide (((t662.1).length : Int) = (l181.length : Int)))) rfl (show (!(decide (((t662.1).length : Int) = (l181.length : Int)))) = false from by rw [(decide_eq_true h695)]; rfl)) ?_
                      refine WOps.p (G.move rfl) rfl ?_
                      refine WOps.on rfl (kbl (b := !(decide (((t662.1).length : Int) = (l181.length : Int)))) rfl (show (!(decide (((t662.1).length : Int) = (l181.length : Int)))) = false from by rw [(decide_eq_true h695)]; rfl)) ?_
                      have S696 := S683.front 1 rfl
                      change St _ _ _ [G680, [(p31, .cells #[.int .i64 t662.2.most, .slice A678 t662.2.pairs.length c679] 183 (0, 0))], G669, [(b1, .cells #[.slice A1 a1.length c1] 119 (0, 0))], [(b64, .cells #[.int .i64 x71] 3 (0, 0))], G182, G187] at S696
                      have S697 := S696.front 1 rfl
                      change St _ _ _ [[(p31, .cells #[.int .i64 t662.2.most, .slice A678 t662.2.pairs.length c679] 183 (0, 0))], G680, G669, [(b1, .cells #[.slice A1 a1.length c1] 119 (0, 0))], [(b64, .cells #[.int .i64 x71] 3 (0, 0))], G182, G187] at S697
                      have hO698 : ObjO 183 Shelf_int__string_.rp p31 t662.2 ([(p31, .cells #[.int .i64 t662.2.most, .slice A678 t662.2.pairs.length c679] 183 (0, 0))] ++ (G680)) := ⟨_, _, ⟨A678, c679, G680, rfl, hO681, rfl⟩, rfl⟩
                      have S699 : St _ _ _ [[(p31, .cells #[.int .i64 t662.2.most, .slice A678 t662.2.pairs.length c679] 183 (0, 0))] ++ (G680), G669, [(b1, .cells #[.slice A1 a1.length c1] 119 (0, 0))], [(b64, .cells #[.int .i64 x71] 3 (0, 0))], G182, G187] := S697.objs (by simp)
                      obtain ⟨t700, hc701, hF⟩ := bind_some hF
                      refine WOps.call T.call64 (evs_cons rfl evs_nil) rfl ?_
                      refine (sha_Len_calls k657 t662.2 hO698 hc701 (St.hpN (As := [[(p31, .cells #[.int .i64 t662.2.most, .slice A678 t662.2.pairs.length c679] 183 (0, 0))] ++ (G680)]) S699)).mono ?_
                      rintro _ w702 ⟨G705, rfl, hO706, T703⟩
                      have S704 := St.callN (As := [[(p31, .cells #[.int .i64 t662.2.most, .slice A678 t662.2.pairs.length c679] 183 (0, 0))] ++ (G680)]) S699 T703
                      change St _ _ _ [G705, G669, [(b1, .cells #[.slice A1 a1.length c1] 119 (0, 0))], [(b64, .cells #[.int .i64 x71] 3 (0, 0))], G182, G187] at S704
                      refine ⟨_, rfl, ?_⟩
                      obtain ⟨cs707, G708, ho709, hg710⟩ := hO706
                      obtain ⟨A711, c712, G713, rfl, hO714, hq715⟩ := ho709
                      have S716 : St _ _ _ [[(p31, .cells #[.int .i64 t700.2.most, .slice A711 t700.2.pairs.length c712] 183 (0, 0))], G713, G669, [(b1, .cells #[.slice A1 a1.length c1] 119 (0, 0))], [(b64, .cells #[.int .i64 x71] 3 (0, 0))], G182, G187] := S704.objs (by rw [hg710, hq715]; simp)
                      refine WOps.on rfl (kbl (b := !(decide (((t662.1).length : Int) = (l181.length : Int)))) rfl (show (!(decide (((t662.1).length : Int) = (l181.length : Int)))) = false from by rw [(decide_eq_true h695)]; rfl)) ?_
                      refine WOps.p (G.move rfl) rfl ?_
                      refine WOps.on rfl (kbl (b := !(decide (((t662.1).length : Int) = (l181.length : Int)))) rfl (show (!(decide (((t662.1).length : Int) = (l181.length : Int)))) = false from by rw [(decide_eq_true h695)]; rfl)) ?_
                      refine WOps.p (G.len T.el33 rfl) rfl ?_
                      refine WOps.on rfl (kbl (b := !(decide (((t662.1).length : Int) = (l181.length : Int)))) rfl (show (!(decide (((t662.1).length : Int) = (l181.length : Int)))) = false from by rw [(decide_eq_true h695)]; rfl)) ?_
                      refine WOps.p (G.neq rfl rfl rfl) rfl ?_
                      refine WOps.p (G.pick_f (kb (b := !(decide (((t662.1).length : Int) = (l181.length : Int)))) rfl (show (!(decide (((t662.1).length : Int) = (l181.length : Int)))) = false from by rw [(decide_eq_true h695)]; rfl)) rfl) rfl ?_
                      refine WOps.p (G.move rfl) rfl ?_
                      rcases ite_some hF with ⟨h717, hF⟩ | ⟨h717, hF⟩
                      ·
                        refine WOps.on rfl (kbl (b := !(decide (t700.1 = (l181.length : Int)))) rfl (show (!(decide (t700.1 = (l181.length : Int)))) = false from by rw [(decide_eq_true h717)]; rfl)) ?_
                        refine WOps.p (G.move rfl) rfl ?_
                        refine WOps.on rfl (kbl (b := !(decide (t700.1 = (l181.length : Int)))) rfl (show (!(decide (t700.1 = (l181.length : Int)))) = false from by rw [(decide_eq_true h717)]; rfl)) ?_
                        refine WOps.p (G.len T.el33 rfl) rfl ?_
                        refine WOps.on rfl (kbl (b := !(decide (t700.1 = (l181.length : Int)))) rfl (show (!(decide (t700.1 = (l181.length : Int)))) = false from by rw [(decide_eq_true h717)]; rfl)) ?_
                        refine WOps.p (G.move rfl) rfl ?_
                        refine WOps.on rfl (kbl (b := !(decide (t700.1 = (l181.length : Int)))) rfl (show (!(decide (t700.1 = (l181.length : Int)))) = false from by rw [(decide_eq_true h717)]; rfl)) ?_
                        refine WOps.p (G.gtr rfl rfl rfl) rfl ?_
                        refine WOps.p (G.pick_f (kb (b := !(decide (t700.1 = (l181.length : Int)))) rfl (show (!(decide (t700.1 = (l181.length : Int)))) = false from by rw [(decide_eq_true h717)]; rfl)) rfl) rfl ?_
                        refine WOps.nil ?_
                        have S718 := S716.front 1 rfl
                        change St _ _ _ [G713, [(p31, .cells #[.int .i64 t700.2.most, .slice A711 t700.2.pairs.length c712] 183 (0, 0))], G669, [(b1, .cells #[.slice A1 a1.length c1] 119 (0, 0))], [(b64, .cells #[.int .i64 x71] 3 (0, 0))], G182, G187] at S718
                        have S719 := S718.front 2 rfl
                        change St _ _ _ [G669, G713, [(p31, .cells #[.int .i64 t700.2.most, .slice A711 t700.2.pairs.length c712] 183 (0, 0))], [(b1, .cells #[.slice A1 a1.length c1] 119 (0, 0))], [(b64, .cells #[.int .i64 x71] 3 (0, 0))], G182, G187] at S719
                        have S720 := S719.front 6 rfl
                        change St _ _ _ [G187, G669, G713, [(p31, .cells #[.int .i64 t700.2.most, .slice A711 t700.2.pairs.length c712] 183 (0, 0))], [(b1, .cells #[.slice A1 a1.length c1] 119 (0, 0))], [(b64, .cells #[.int .i64 x71] 3 (0, 0))], G182] at S720
                        have S721 := S720.front 6 rfl
                        change St _ _ _ [G182, G187, G669, G713, [(p31, .cells #[.int .i64 t700.2.most, .slice A711 t700.2.pairs.length c712] 183 (0, 0))], [(b1, .cells #[.slice A1 a1.length c1] 119 (0, 0))], [(b64, .cells #[.int .i64 x71] 3 (0, 0))]] at S721
                        have S722 := S721.front 6 rfl
                        change St _ _ _ [[(b64, .cells #[.int .i64 x71] 3 (0, 0))], G182, G187, G669, G713, [(p31, .cells #[.int .i64 t700.2.most, .slice A711 t700.2.pairs.length c712] 183 (0, 0))], [(b1, .cells #[.slice A1 a1.length c1] 119 (0, 0))]] at S722
                        have S723 := S722.front 6 rfl
                        change St _ _ _ [[(b1, .cells #[.slice A1 a1.length c1] 119 (0, 0))], [(b64, .cells #[.int .i64 x71] 3 (0, 0))], G182, G187, G669, G713, [(p31, .cells #[.int .i64 t700.2.most, .slice A711 t700.2.pairs.length c712] 183 (0, 0))]] at S723
                        have S724 := S723.front 6 rfl
                        change St _ _ _ [[(p31, .cells #[.int .i64 t700.2.most, .slice A711 t700.2.pairs.length c712] 183 (0, 0))], [(b1, .cells #[.slice A1 a1.length c1] 119 (0, 0))], [(b64, .cells #[.int .i64 x71] 3 (0, 0))], G182, G187, G669, G713] at S724
                        refine WEx.cutend _ ?_ ⟨k657, decide (t13 < ((t662.1).length : Int)), t700.2.most, A711, c712, t700.2.pairs, G713, rfl, hF, (by omega), hO714, S724⟩
                        exact ⟨rfl, rfl, rfl, rfl, rfl, rfl, rfl, rfl, trivial⟩
                      ·
                        refine WOps.off rfl (kbl (b := !(decide (t700.1 = (l181.length : Int)))) rfl (show (!(decide (t700.1 = (l181.length : Int)))) = true from by rw [(decide_eq_false h717)]; rfl)) rfl rfl ?_
                        refine WOps.off rfl (kbl (b := !(decide (t700.1 = (l181.length : Int)))) rfl (show (!(decide (t700.1 = (l181.length : Int)))) = true from by rw [(decide_eq_false h717)]; rfl)) rfl rfl ?_
                        refine WOps.off rfl (kbl (b := !(decide (t700.1 = (l181.length : Int)))) rfl (show (!(decide (t700.1 = (l181.length : Int)))) = true from by rw [(decide_eq_false h717)]; rfl)) rfl rfl ?_
                        refine WOps.off rfl (kbl (b := !(decide (t700.1 = (l181.length : Int)))) rfl (show (!(decide (t700.1 = (l181.length : Int)))) = true from by rw [(decide_eq_false h717)]; rfl)) rfl rfl ?_
                        refine WOps.p (G.pick_t (kb (b := !(decide (t700.1 = (l181.length : Int)))) rfl (show (!(decide (t700.1 = (l181.length : Int)))) = true from by rw [(decide_eq_false h717)]; rfl)) rfl) rfl ?_
                        refine WOps.nil ?_
                        have S725 := S716.front 1 rfl
                        change St _ _ _ [G713, [(p31, .cells #[.int .i64 t700.2.most, .slice A711 t700.2.pairs.length c712] 183 (0, 0))], G669, [(b1, .cells #[.slice A1 a1.length c1] 119 (0, 0))], [(b64, .cells #[.int .i64 x71] 3 (0, 0))], G182, G187] at S725
                        have S726 := S725.front 2 rfl
                        change St _ _ _ [G669, G713, [(p31, .cells #[.int .i64 t700.2.most, .slice A711 t700.2.pairs.length c712] 183 (0, 0))], [(b1, .cells #[.slice A1 a1.length c1] 119 (0, 0))], [(b64, .cells #[.int .i64 x71] 3 (0, 0))], G182, G187] at S726
                        have S727 := S726.front 6 rfl
                        change St _ _ _ [G187, G669, G713, [(p31, .cells #[.int .i64 t700.2.most, .slice A711 t700.2.pairs.length c712] 183 (0, 0))], [(b1, .cells #[.slice A1 a1.length c1] 119 (0, 0))], [(b64, .cells #[.int .i64 x71] 3 (0, 0))], G182] at S727
                        have S728 := S727.front 6 rfl
                        change St _ _ _ [G182, G187, G669, G713, [(p31, .cells #[.int .i64 t700.2.most, .slice A711 t700.2.pairs.length c712] 183 (0, 0))], [(b1, .cells #[.slice A1 a1.length c1] 119 (0, 0))], [(b64, .cells #[.int .i64 x71] 3 (0, 0))]] at S728
                        have S729 := S728.front 6 rfl
                        change St _ _ _ [[(b64, .cells #[.int .i64 x71] 3 (0, 0))], G182, G187, G669, G713, [(p31, .cells #[.int .i64 t700.2.most, .slice A711 t700.2.pairs.length c712] 183 (0, 0))], [(b1, .cells #[.slice A1 a1.length c1] 119 (0, 0))]] at S729
                        have S730 := S729.front 6 rfl
                        change St _ _ _ [[(b1, .cells #[.slice A1 a1.length c1] 119 (0, 0))], [(b64, .cells #[.int .i64 x71] 3 (0, 0))], G182, G187, G669, G713, [(p31, .cells #[.int .i64 t700.2.most, .slice A711 t700.2.pairs.length c712] 183 (0, 0))]] at S730
                        have S731 := S730.front 6 rfl
                        change St _ _ _ [[(p31, .cells #[.int .i64 t700.2.most, .slice A711 t700.2.pairs.length c712] 183 (0, 0))], [(b1, .cells #[.slice A1 a1.length c1] 119 (0, 0))], [(b64, .cells #[.int .i64 x71] 3 (0, 0))], G182, G187, G669, G713] at S731
                        refine WEx.cutend _ ?_ ⟨k657, true, t700.2.most, A711, c712, t700.2.pairs, G713, rfl, hF, (by omega), hO714, S731⟩
                        exact ⟨rfl, rfl, rfl, rfl, rfl, rfl, rfl, rfl, trivial⟩
                    ·
                      refine WOps.off rfl (kbl (b := !(decide (((t662.1).length : Int) = (l181.length : Int)))) rfl (show (!(decide (((t662.1).length : Int) = (l181.length : Int)))) = true from by rw [(decide_eq_false h695)]; rfl)) rfl rfl ?_
                      refine WOps.off rfl (kbl (b := !(decide (((t662.1).length : Int) = (l181.length : Int)))) rfl (show (!(decide (((t662.1).length : Int) = (l181.length : Int)))) = true from by rw [(decide_eq_false h695)]; rfl)) rfl rfl ?_
                      refine WOps.off rfl (kbl (b := !(decide (((t662.1).length : Int) = (l181.length : Int)))) rfl (show (!(decide (((t662.1).length : Int) = (l181.length : Int)))) = true from by rw [(decide_eq_false h695)]; rfl)) rfl rfl ?_
                      refine WOps.off rfl (kbl (b := !(decide (((t662.1).length : Int) = (l181.length : Int)))) rfl (show (!(decide (((t662.1).length : Int) = (l181.length : Int)))) = true from by rw [(decide_eq_false h695)]; rfl)) rfl rfl ?_
                      refine WOps.off rfl (kbl (b := !(decide (((t662.1).length : Int) = (l181.length : Int)))) rfl (show (!(decide (((t662.1).length : Int) = (l181.length : Int)))) = true from by rw [(decide_eq_false h695)]; rfl)) rfl rfl ?_
                      refine WOps.p (G.pick_t (kb (b := !(decide (((t662.1).length : Int) = (l181.length : Int)))) rfl (show (!(decide (((t662.1).length : Int) = (l181.length : Int)))) = true from by rw [(decide_eq_false h695)]; rfl)) rfl) rfl ?_
                      refine WOps.p (G.move rfl) rfl ?_
                      refine WOps.off rfl rfl rfl rfl ?_
                      refine WOps.off rfl rfl rfl rfl ?_
                      refine WOps.off rfl rfl rfl rfl ?_
                      refine WOps.off rfl rfl rfl rfl ?_
                      refine WOps.p (G.pick_t rfl rfl) rfl ?_
                      refine WOps.nil ?_
                      have S732 := S683.front 1 rfl
                      change St _ _ _ [G680, [(p31, .cells #[.int .i64 t662.2.most, .slice A678 t662.2.pairs.length c679] 183 (0, 0))], G669, [(b1, .cells #[.slice A1 a1.length c1] 119 (0, 0))], [(b64, .cells #[.int .i64 x71] 3 (0, 0))], G182, G187] at S732
                      have S733 := S732.front 2 rfl
                      change St _ _ _ [G669, G680, [(p31, .cells #[.int .i64 t662.2.most, .slice A678 t662.2.pairs.length c679] 183 (0, 0))], [(b1, .cells #[.slice A1 a1.length c1] 119 (0, 0))], [(b64, .cells #[.int .i64 x71] 3 (0, 0))], G182, G187] at S733
                      have S734 := S733.front 6 rfl
                      change St _ _ _ [G187, G669, G680, [(p31, .cells #[.int .i64 t662.2.most, .slice A678 t662.2.pairs.length c679] 183 (0, 0))], [(b1, .cells #[.slice A1 a1.length c1] 119 (0, 0))], [(b64, .cells #[.int .i64 x71] 3 (0, 0))], G182] at S734
                      have S735 := S734.front 6 rfl
                      change St _ _ _ [G182, G187, G669, G680, [(p31, .cells #[.int .i64 t662.2.most, .slice A678 t662.2.pairs.length c679] 183 (0, 0))], [(b1, .cells #[.slice A1 a1.length c1] 119 (0, 0))], [(b64, .cells #[.int .i64 x71] 3 (0, 0))]] at S735
                      have S736 := S735.front 6 rfl
                      change St _ _ _ [[(b64, .cells #[.int .i64 x71] 3 (0, 0))], G182, G187, G669, G680, [(p31, .cells #[.int .i64 t662.2.most, .slice A678 t662.2.pairs.length c679] 183 (0, 0))], [(b1, .cells #[.slice A1 a1.length c1] 119 (0, 0))]] at S736
                      have S737 := S736.front 6 rfl
                      change St _ _ _ [[(b1, .cells #[.slice A1 a1.length c1] 119 (0, 0))], [(b64, .cells #[.int .i64 x71] 3 (0, 0))], G182, G187, G669, G680, [(p31, .cells #[.int .i64 t662.2.most, .slice A678 t662.2.pairs.length c679] 183 (0, 0))]] at S737
                      have S738 := S737.front 6 rfl
                      change St _ _ _ [[(p31, .cells #[.int .i64 t662.2.most, .slice A678 t662.2.pairs.length c679] 183 (0, 0))], [(b1, .cells #[.slice A1 a1.length c1] 119 (0, 0))], [(b64, .cells #[.int .i64 x71] 3 (0, 0))], G182, G187, G669, G680] at S738
                      refine WEx.cutend _ ?_ ⟨k657, true, t662.2.most, A678, c679, t662.2.pairs, G680, rfl, hF, (by omega), hO681, S738⟩
                      exact ⟨rfl, rfl, rfl, rfl, rfl, rfl, rfl, rfl, trivial⟩
                  ·
                    rintro _ w691 ⟨q693, b684, x685, A686, c687, l688, G689, rfl, hF, hq694, hO690, S692⟩
                    obtain _ | k739 := q693
                    · exact nomatch (show (none : Option Bool) = some r_ from hF)
                    rw [law_Bound.j5] at hF
                    rcases ite_some hF with ⟨h740, hF⟩ | ⟨h740, hF⟩
                    ·
                      refine WCode.cond_t (kb (b := b684) rfl h740) ?_
                      refine WCode.seq ?_
                      refine WCode.region ?_
                      refine WOps.p (G.assign rfl) rfl ?_
                      refine WOps.nil ?_
                      refine WEx.then_ ?_
                      refine WCode.ret ?_
                      refine WEx.then_ret ?_
                      refine WEx.in_ret ?_
                      refine WEx.then_ret ?_
                      refine WEx.then_ret ?_
                      refine WEx.in_ret ?_
                      refine WEx.then_ret ?_
                      obtain rfl := some_eq hF
                      refine WEx.ret1 rfl rfl ?_
                      exact ⟨rfl, St.keep (As := []) S692⟩
                    ·
                      refine WCode.cond_f (kb (b := b684) rfl (Bool.eq_false_iff.2 h740)) ?_
                      refine WCode.skip ?_
                      refine WEx.then_ ?_
                      refine WCode.seq ?_
                      refine WCode.region ?_
                      refine WOps.p (G.assign rfl) rfl ?_
                      refine WOps.nil ?_
                      refine WEx.then_ ?_
                      refine WCode.block ?_
                      have S752 := S692.front 6 rfl
                      change St _ _ _ [G689, [(p31, .cells #[.int .i64 x685, .slice A686 l688.length c687] 183 (0, 0))], [(b1, .cells #[.slice A1 a1.length c1] 119 (0, 0))], [(b64, .cells #[.int .i64 x71] 3 (0, 0))], G182, G187, G669] at S752
                      have S753 := S752.front 6 rfl
                      change St _ _ _ [G669, G689, [(p31, .cells #[.int .i64 x685, .slice A686 l688.length c687] 183 (0, 0))], [(b1, .cells #[.slice A1 a1.length c1] 119 (0, 0))], [(b64, .cells #[.int .i64 x71] 3 (0, 0))], G182, G187] at S753
                      have S754 := S753.front 6 rfl
                      change St _ _ _ [G187, G669, G689, [(p31, .cells #[.int .i64 x685, .slice A686 l688.length c687] 183 (0, 0))], [(b1, .cells #[.slice A1 a1.length c1] 119 (0, 0))], [(b64, .cells #[.int .i64 x71] 3 (0, 0))], G182] at S754
                      have S755 := S754.front 6 rfl
                      change St _ _ _ [G182, G187, G669, G689, [(p31, .cells #[.int .i64 x685, .slice A686 l688.length c687] 183 (0, 0))], [(b1, .cells #[.slice A1 a1.length c1] 119 (0, 0))], [(b64, .cells #[.int .i64 x71] 3 (0, 0))]] at S755
                      have S756 := S755.front 6 rfl
                      change St _ _ _ [[(b64, .cells #[.int .i64 x71] 3 (0, 0))], G182, G187, G669, G689, [(p31, .cells #[.int .i64 x685, .slice A686 l688.length c687] 183 (0, 0))], [(b1, .cells #[.slice A1 a1.length c1] 119 (0, 0))]] at S756
                      have S757 := S756.front 6 rfl
                      change St _ _ _ [[(b1, .cells #[.slice A1 a1.length c1] 119 (0, 0))], [(b64, .cells #[.int .i64 x71] 3 (0, 0))], G182, G187, G669, G689, [(p31, .cells #[.int .i64 x685, .slice A686 l688.length c687] 183 (0, 0))]] at S757
                      have S758 := S757.front 6 rfl
                      change St _ _ _ [[(p31, .cells #[.int .i64 x685, .slice A686 l688.length c687] 183 (0, 0))], [(b1, .cells #[.slice A1 a1.length c1] 119 (0, 0))], [(b64, .cells #[.int .i64 x71] 3 (0, 0))], G182, G187, G669, G689] at S758
                      refine WCode.forget (l' := [(3, .pointer (some ⟨b1, 0, none⟩)), (6, .int .i64 t13), (7, .pointer (some ⟨p31, 0, none⟩)), (9, .slice A179 l181.length c180), (10, .slice A184 l186.length c185), (11, .pointer (some ⟨b64, 0, none⟩)), (22, .slice A667 (t662.1).length c668), (23, .int .i64 0)]) ⟨rfl, rfl, rfl, rfl, rfl, rfl, rfl, rfl, trivial⟩ ?_
                      refine WCode.loop (fun n_ l_ w_ => ∃ x741 : Int, ∃ x742 : Int, ∃ A743 : Option Addr, ∃ c744 : Nat, ∃ l745 : List Pair_int__string_, ∃ G746 : Grp, l_ = [(3, .pointer (some ⟨b1, 0, none⟩)), (6, .int .i64 t13), (7, .pointer (some ⟨p31, 0, none⟩)), (9, .slice A179 l181.length c180), (10, .slice A184 l186.length c185), (11, .pointer (some ⟨b64, 0, none⟩)), (22, .slice A667 (t662.1).length c668), (23, .int .i64 x741)] ∧ law_Bound.l4 n_ a1 t13 x71 l181 l186 t662 x741 x742 l745 = some r_ ∧ n_ ≤ k739 ∧ (SlO 187 Pair_int__string_.rp (.slice A743 l745.length c744) l745 G746) ∧ St w (KS []) w_ [[(p31, .cells #[.int .i64 x742, .slice A743 l745.length c744] 183 (0, 0))], [(b1, .cells #[.slice A1 a1.length c1] 119 (0, 0))], [(b64, .cells #[.int .i64 x71] 3 (0, 0))], G182, G187, G669, G746]) k739 ⟨0, x685, A686, c687, l688, G689, rfl, hF, Nat.le_refl _, hO690, S758⟩ ?_
                      rintro n751 _ w748 ⟨x741, x742, A743, c744, l745, G746, rfl, hF, hle759, hO747, S749⟩
                      obtain _ | k750 := n751
                      · exact nomatch (show (none : Option Bool) = some r_ from hF)
                      rw [law_Bound.l4] at hF
                      refine WCode.seq ?_
                      refine WCode.seq ?_
                      refine WCode.region ?_
                      refine WOps.p (G.move rfl) rfl ?_
                      refine WOps.p (G.move rfl) rfl ?_
                      refine WOps.p (G.len T.el33 rfl) rfl ?_
                      refine WOps.p (G.lss rfl rfl rfl) rfl ?_
                      refine WOps.nil ?_
                      refine WEx.then_ ?_
                      rcases ite_some hF with ⟨h760, hF⟩ | ⟨h760, hF⟩
                      ·
                        refine WCode.cond_t (kb (b := decide (x741 < (l181.length : Int))) rfl (decide_eq_true h760)) ?_
                        refine WCode.skip ?_
                        refine WEx.then_ ?_
                        refine WCode.seq ?_
                        refine WCode.block ?_
                        refine WCode.seq ?_
                        refine WCode.region ?_
                        refine WOps.p (G.move rfl) rfl ?_
                        refine WOps.p (G.move rfl) rfl ?_
                        refine WOps.p (G.move rfl) rfl ?_
                        obtain ⟨x761, hc762, hF⟩ := bind_some hF
                        obtain ⟨j763, ej764, hj765, hl766⟩ := idx_spec hc762
                        obtain ⟨b767, o768, cs769, eA770, hf771, hc772, hr773⟩ := SlR.at_ (hO183.rd (fun b o hb => S749.grp 3 rfl hb)) hj765
                        have hq774 : cs769 = [.int .i64 x761] := hr773
                        subst hq774
                        change cellsAt _ _ (o768 + j763 * 1) [.int .i64 x761] at hc772
                        refine WOps.p (G.idx T.el33 rfl eA770 rfl ej764 hl766) rfl ?_
                        refine WOps.r (G.load1 T.one3 rfl (cellsAt.at0 hc772)) rfl ?_
                        have S775 := S749.front 6 rfl
                        change St _ _ _ [G746, [(p31, .cells #[.int .i64 x742, .slice A743 l745.length c744] 183 (0, 0))], [(b1, .cells #[.slice A1 a1.length c1] 119 (0, 0))], [(b64, .cells #[.int .i64 x71] 3 (0, 0))], G182, G187, G669] at S775
                        have S776 := S775.front 1 rfl
                        change St _ _ _ [[(p31, .cells #[.int .i64 x742, .slice A743 l745.length c744] 183 (0, 0))], G746, [(b1, .cells #[.slice A1 a1.length c1] 119 (0, 0))], [(b64, .cells #[.int .i64 x71] 3 (0, 0))], G182, G187, G669] at S776
                        have hO777 : ObjO 183 Shelf_int__string_.rp p31 (⟨x742, l745⟩ : Shelf_int__string_) ([(p31, .cells #[.int .i64 x742, .slice A743 l745.length c744] 183 (0, 0))] ++ (G746)) := ⟨_, _, ⟨A743, c744, G746, rfl, hO747, rfl⟩, rfl⟩
                        have S778 : St _ _ _ [[(p31, .cells #[.int .i64 x742, .slice A743 l745.length c744] 183 (0, 0))] ++ (G746), [(b1, .cells #[.slice A1 a1.length c1] 119 (0, 0))], [(b64, .cells #[.int .i64 x71] 3 (0, 0))], G182, G187, G669] := S776.objs (by simp)
                        obtain ⟨t779, hc780, hF⟩ := bind_some hF
                        refine WOps.call T.call65 (evs_cons rfl (evs_cons rfl evs_nil)) rfl ?_
                        refine (sha_Get_calls k750 (⟨x742, l745⟩ : Shelf_int__string_) x761 hO777 hc780 (St.hpN (As := [[(p31, .cells #[.int .i64 x742, .slice A743 l745.length c744] 183 (0, 0))] ++ (G746)]) S778)).mono ?_
                        rintro _ w781 ⟨G784, rfl, hO785, T782⟩
                        have S783 := St.callN (As := [[(p31, .cells #[.int .i64 x742, .slice A743 l745.length c744] 183 (0, 0))] ++ (G746)]) S778 T782
                        change St _ _ _ [G784, [(b1, .cells #[.slice A1 a1.length c1] 119 (0, 0))], [(b64, .cells #[.int .i64 x71] 3 (0, 0))], G182, G187, G669] at S783
                        refine ⟨_, rfl, ?_⟩
                        obtain ⟨cs786, G787, ho788, hg789⟩ := hO785
                        obtain ⟨A790, c791, G792, rfl, hO793, hq794⟩ := ho788
                        have S795 : St _ _ _ [[(p31, .cells #[.int .i64 t779.2.2.most, .slice A790 t779.2.2.pairs.length c791] 183 (0, 0))], G792, [(b1, .cells #[.slice A1 a1.length c1] 119 (0, 0))], [(b64, .cells #[.int .i64 x71] 3 (0, 0))], G182, G187, G669] := S783.objs (by rw [hg789, hq794]; simp)
                        refine WOps.p (G.move rfl) rfl ?_
                        refine WOps.p (G.extract rfl rfl) rfl ?_
                        refine WOps.p (G.extract rfl rfl) rfl ?_
                        refine WOps.p (G.assign rfl) rfl ?_
                        refine WOps.p (G.assign rfl) rfl ?_
                        refine WOps.nil ?_
                        refine WEx.then_ ?_
                        refine WCode.forget (l' := [(3, .pointer (some ⟨b1, 0, none⟩)), (6, .int .i64 t13), (7, .pointer (some ⟨p31, 0, none⟩)), (9, .slice A179 l181.length c180), (10, .slice A184 l186.length c185), (11, .pointer (some ⟨b64, 0, none⟩)), (22, .slice A667 (t662.1).length c668), (23, .int .i64 x741), (24, .string (bs t779.1)), (25, .bool t779.2.1)]) ⟨rfl, rfl, rfl, rfl, rfl, rfl, rfl, rfl, rfl, rfl, trivial⟩ ?_
                        refine WCode.seq ?_
                        refine WCode.drawH (.one 0 0 (.one 1 0 (.one 2 0 (.one 4 0 (.one 5 0 (.one 6 0 (.one 3 1 (.one 7 1 (.one 8 0 (.one 9 0 (.one 10 0 (.one 11 0 (.one 12 0 (.one 13 0 (.one 14 1 (.one 15 0 (.one 16 0 (.one 17 0 (.one 18 0 (.one 19 0 (.one 20 0 .nil))))))))))))))))))))) (fun W_ => SlR (Rp.int .i64) W_ (· ∈ keys G669) A667 c668 (t662.1) ∧ SlR (Rp.int .i64) W_ (· ∈ keys G182) A179 c180 l181 ∧ SlR Rp.str W_ (· ∈ keys G187) A184 c185 l186 ∧ True) T.mixed (by kernel_rfl) (by intro _ _ d _ _ h; cases d <;> exact h) rfl rfl (by kernel_rfl) ?_ ?_
                        all_goals have S796 := S795.drew
                        all_goals generalize w781.drew = w797 at *
                        · exact ⟨(hO670.rd (fun b o hb => S796.grp 6 rfl hb)), (hO183.rd (fun b o hb => S796.grp 4 rfl hb)), (hO188.rd (fun b o hb => S796.grp 5 rfl hb)), trivial⟩
                        refine WH.p rfl wants (G.move rfl) rfl ?_
                        refine WH.p rfl wants (G.move rfl) rfl ?_
                        obtain ⟨x798, hc799, hF⟩ := bind_some hF
                        obtain ⟨j800, ej801, hj802, hl803⟩ := idx_spec hc799
                        obtain ⟨b804, o805, cs806, eA807, hf808, hc809, hr810⟩ := SlR.at_ (hO670.rd (fun b o hb => S796.grp 6 rfl hb)) hj802
                        have hq811 : cs806 = [.int .i64 x798] := hr810
                        subst hq811
                        change cellsAt _ _ (o805 + j800 * 1) [.int .i64 x798] at hc809
                        refine WH.p rfl wants (G.idx T.el33 rfl eA807 rfl ej801 hl803) rfl ?_
                        refine WH.p rfl wants (G.move rfl) rfl ?_
                        refine WH.p rfl wants (G.move rfl) rfl ?_
                        obtain ⟨x812, hc813, hF⟩ := bind_some hF
                        obtain ⟨j814, ej815, hj816, hl817⟩ := idx_spec hc813
                        obtain ⟨b818, o819, cs820, eA821, hf822, hc823, hr824⟩ := SlR.at_ (hO183.rd (fun b o hb => S796.grp 4 rfl hb)) hj816
                        have hq825 : cs820 = [.int .i64 x812] := hr824
                        subst hq825
                        change cellsAt _ _ (o819 + j814 * 1) [.int .i64 x812] at hc823
                        refine WH.p rfl wants (G.idx T.el33 rfl eA821 rfl ej815 hl817) rfl ?_
                        refine WH.r rfl wants (fun _ h_ => G.load1 T.one3 rfl (cellsAt.at (SlR.cellsP h_.1 hj802 eA807) 0 rfl)) rfl ?_
                        refine WH.r rfl wants (fun _ h_ => G.load1 T.one3 rfl (cellsAt.at (SlR.cellsP h_.2.1 hj816 eA821) 0 rfl)) rfl ?_
                        refine WH.p rfl wants (G.neq rfl rfl rfl) rfl ?_
                        refine WH.p rfl wants (G.move rfl) rfl ?_
                        rcases ite_some hF with ⟨h826, hF⟩ | ⟨h826, hF⟩
                        ·
                          refine WH.p rfl (wants_on rfl (kbl (b := !(decide (x798 = x812))) rfl (show (!(decide (x798 = x812))) = false from by rw [(decide_eq_true h826)]; rfl))) (G.move rfl) rfl ?_
                          refine WH.p rfl (wants_on rfl (kbl (b := !(decide (x798 = x812))) rfl (show (!(decide (x798 = x812))) = false from by rw [(decide_eq_true h826)]; rfl))) (G.move rfl) rfl ?_
                          refine WH.p rfl (wants_on rfl (kbl (b := !(decide (x798 = x812))) rfl (show (!(decide (x798 = x812))) = false from by rw [(decide_eq_true h826)]; rfl))) (G.move rfl) rfl ?_
                          obtain ⟨x827, hc828, hF⟩ := bind_some hF
                          obtain ⟨j829, ej830, hj831, hl832⟩ := idx_spec hc828
                          obtain ⟨b833, o834, cs835, eA836, hf837, hc838, hr839⟩ := SlR.at_ (hO188.rd (fun b o hb => S796.grp 5 rfl hb)) hj831
                          have hq840 : cs835 = [.string (bs x827)] := hr839
                          subst hq840
                          change cellsAt _ _ (o834 + j829 * 1) [.string (bs x827)] at hc838
                          refine WH.p rfl (wants_on rfl (kbl (b := !(decide (x798 = x812))) rfl (show (!(decide (x798 = x812))) = false from by rw [(decide_eq_true h826)]; rfl))) (G.idx T.el77 rfl eA836 rfl ej830 hl832) rfl ?_
                          refine WH.r rfl (wants_on rfl (kbl (b := !(decide (x798 = x812))) rfl (show (!(decide (x798 = x812))) = false from by rw [(decide_eq_true h826)]; rfl))) (fun _ h_ => G.load1 T.one9 rfl (cellsAt.at (SlR.cellsP h_.2.2.1 hj831 eA836) 0 rfl)) rfl ?_
                          refine WH.p rfl (wants_on rfl (kbl (b := !(decide (x798 = x812))) rfl (show (!(decide (x798 = x812))) = false from by rw [(decide_eq_true h826)]; rfl))) (G.neqlb' rfl rfl rfl) rfl ?_
                          refine WH.p rfl wants (G.pick_f (kb (b := !(decide (x798 = x812))) rfl (show (!(decide (x798 = x812))) = false from by rw [(decide_eq_true h826)]; rfl)) rfl) rfl ?_
                          refine WH.p rfl wants (G.move rfl) rfl ?_
                          rcases ite_some hF with ⟨h841, hF⟩ | ⟨h841, hF⟩
                          ·
                            refine WH.p rfl (wants_on rfl (kbl (b := !(decide (t779.1 = x827))) rfl (show (!(decide (t779.1 = x827))) = false from by rw [(decide_eq_true h841)]; rfl))) (G.move rfl) rfl ?_
                            refine WH.p rfl (wants_on rfl (kbl (b := !(decide (t779.1 = x827))) rfl (show (!(decide (t779.1 = x827))) = false from by rw [(decide_eq_true h841)]; rfl))) (G.not rfl rfl) rfl ?_
                            refine WH.p rfl wants (G.pick_f (kb (b := !(decide (t779.1 = x827))) rfl (show (!(decide (t779.1 = x827))) = false from by rw [(decide_eq_true h841)]; rfl)) rfl) rfl ?_
                            refine WH.nil ?_
                            refine WEx.then_ ?_
                            refine WCode.forget (l' := [(3, .pointer (some ⟨b1, 0, none⟩)), (6, .int .i64 t13), (7, .pointer (some ⟨p31, 0, none⟩)), (9, .slice A179 l181.length c180), (10, .slice A184 l186.length c185), (11, .pointer (some ⟨b64, 0, none⟩)), (22, .slice A667 (t662.1).length c668), (23, .int .i64 x741), (253, .string (bs t779.1)), (254, .slice A184 l186.length c185), (255, .int .i64 x741), (256, .pointer (some ⟨b833, o834 + j829 * 1, none⟩)), (257, .string (bs x827)), (258, .bool (!(decide (t779.1 = x827)))), (261, .bool t779.2.1), (262, .bool (!t779.2.1)), (263, .bool (!t779.2.1))]) ⟨rfl, rfl, rfl, rfl, rfl, rfl, rfl, rfl, rfl, rfl, rfl, rfl, rfl, rfl, rfl, rfl, rfl, trivial⟩ ?_
                            rcases ite_some hF with ⟨h842, hF⟩ | ⟨h842, hF⟩
                            ·
                              refine WCode.cond_f (kb (b := !t779.2.1) rfl (show (!t779.2.1) = false from by rw [h842]; rfl)) ?_
                              refine WCode.skip ?_
                              refine WEx.in_normal ?_
                              refine WEx.then_ ?_
                              refine WCode.region ?_
                              refine WOps.p (G.move rfl) rfl ?_
                              refine WOps.p (G.add rfl rfl (r := (w64 (x741 + 1))) rfl) rfl ?_
                              refine WOps.p (G.assign rfl) rfl ?_
                              refine WOps.nil ?_
                              have S843 := S796.front 1 rfl
                              change St _ _ _ [G792, [(p31, .cells #[.int .i64 t779.2.2.most, .slice A790 t779.2.2.pairs.length c791] 183 (0, 0))], [(b1, .cells #[.slice A1 a1.length c1] 119 (0, 0))], [(b64, .cells #[.int .i64 x71] 3 (0, 0))], G182, G187, G669] at S843
                              have S844 := S843.front 6 rfl
                              change St _ _ _ [G669, G792, [(p31, .cells #[.int .i64 t779.2.2.most, .slice A790 t779.2.2.pairs.length c791] 183 (0, 0))], [(b1, .cells #[.slice A1 a1.length c1] 119 (0, 0))], [(b64, .cells #[.int .i64 x71] 3 (0, 0))], G182, G187] at S844
                              have S845 := S844.front 6 rfl
                              change St _ _ _ [G187, G669, G792, [(p31, .cells #[.int .i64 t779.2.2.most, .slice A790 t779.2.2.pairs.length c791] 183 (0, 0))], [(b1, .cells #[.slice A1 a1.length c1] 119 (0, 0))], [(b64, .cells #[.int .i64 x71] 3 (0, 0))], G182] at S845
                              have S846 := S845.front 6 rfl
                              change St _ _ _ [G182, G187, G669, G792, [(p31, .cells #[.int .i64 t779.2.2.most, .slice A790 t779.2.2.pairs.length c791] 183 (0, 0))], [(b1, .cells #[.slice A1 a1.length c1] 119 (0, 0))], [(b64, .cells #[.int .i64 x71] 3 (0, 0))]] at S846
                              have S847 := S846.front 6 rfl
                              change St _ _ _ [[(b64, .cells #[.int .i64 x71] 3 (0, 0))], G182, G187, G669, G792, [(p31, .cells #[.int .i64 t779.2.2.most, .slice A790 t779.2.2.pairs.length c791] 183 (0, 0))], [(b1, .cells #[.slice A1 a1.length c1] 119 (0, 0))]] at S847
                              have S848 := S847.front 6 rfl
                              change St _ _ _ [[(b1, .cells #[.slice A1 a1.length c1] 119 (0, 0))], [(b64, .cells #[.int .i64 x71] 3 (0, 0))], G182, G187, G669, G792, [(p31, .cells #[.int .i64 t779.2.2.most, .slice A790 t779.2.2.pairs.length c791] 183 (0, 0))]] at S848
                              have S849 := S848.front 6 rfl
                              change St _ _ _ [[(p31, .cells #[.int .i64 t779.2.2.most, .slice A790 t779.2.2.pairs.length c791] 183 (0, 0))], [(b1, .cells #[.slice A1 a1.length c1] 119 (0, 0))], [(b64, .cells #[.int .i64 x71] 3 (0, 0))], G182, G187, G669, G792] at S849
                              refine WEx.again _ _ (by omega) ?_ ⟨w64 (x741 + 1), t779.2.2.most, A790, c791, t779.2.2.pairs, G792, rfl, hF, (by omega), hO793, S849⟩
                              exact ⟨rfl, rfl, rfl, rfl, rfl, rfl, rfl, rfl, trivial⟩
                            ·
                              refine WCode.cond_t (kb (b := !t779.2.1) rfl (show (!t779.2.1) = true from by rw [(Bool.eq_false_iff.2 h842)]; rfl)) ?_
                              refine WCode.seq ?_
                              refine WCode.region ?_
                              refine WOps.p (G.assign rfl) rfl ?_
                              refine WOps.nil ?_
                              refine WEx.then_ ?_
                              refine WCode.forget (l' := [(4, .bool false)]) ⟨rfl, trivial⟩ ?_
                              refine WCode.ret ?_
                              refine WEx.in_ret ?_
                              refine WEx.then_ret ?_
                              refine WEx.then_ret ?_
                              refine WEx.in_ret ?_
                              refine WEx.in_ret ?_
                              refine WEx.then_ret ?_
                              refine WEx.then_ret ?_
                              refine WEx.in_ret ?_
                              refine WEx.then_ret ?_
                              obtain rfl := some_eq hF
                              refine WEx.ret1 rfl rfl ?_
                              exact ⟨rfl, St.keep (As := []) S796⟩
                          ·
                            refine WH.off rfl rfl (kbl (b := !(decide (t779.1 = x827))) rfl (show (!(decide (t779.1 = x827))) = true from by rw [(decide_eq_false h841)]; rfl)) rfl rfl rfl ?_
                            refine WH.off rfl rfl (kbl (b := !(decide (t779.1 = x827))) rfl (show (!(decide (t779.1 = x827))) = true from by rw [(decide_eq_false h841)]; rfl)) rfl rfl rfl ?_
                            refine WH.p rfl wants (G.pick_t (kb (b := !(decide (t779.1 = x827))) rfl (show (!(decide (t779.1 = x827))) = true from by rw [(decide_eq_false h841)]; rfl)) rfl) rfl ?_
                            refine WH.nil ?_
                            refine WEx.then_ ?_
                            refine WCode.forget (l' := [(3, .pointer (some ⟨b1, 0, none⟩)), (6, .int .i64 t13), (7, .pointer (some ⟨p31, 0, none⟩)), (9, .slice A179 l181.length c180), (10, .slice A184 l186.length c185), (11, .pointer (some ⟨b64, 0, none⟩)), (22, .slice A667 (t662.1).length c668), (23, .int .i64 x741), (253, .string (bs t779.1)), (254, .slice A184 l186.length c185), (255, .int .i64 x741), (256, .pointer (some ⟨b833, o834 + j829 * 1, none⟩)), (257, .string (bs x827)), (258, .bool (!(decide (t779.1 = x827)))), (261, undef), (262, undef), (263, .bool true)]) ⟨rfl, rfl, rfl, rfl, rfl, rfl, rfl, rfl, rfl, rfl, rfl, rfl, rfl, rfl, rfl, rfl, rfl, trivial⟩ ?_
                            refine WCode.cond_t rfl ?_
                            refine WCode.seq ?_
                            refine WCode.region ?_
                            refine WOps.p (G.assign rfl) rfl ?_
                            refine WOps.nil ?_
                            refine WEx.then_ ?_
                            refine WCode.forget (l' := [(4, .bool false)]) ⟨rfl, trivial⟩ ?_
                            refine WCode.ret ?_
                            refine WEx.in_ret ?_
                            refine WEx.then_ret ?_
                            refine WEx.then_ret ?_
                            refine WEx.in_ret ?_
                            refine WEx.in_ret ?_
                            refine WEx.then_ret ?_
                            refine WEx.then_ret ?_
                            refine WEx.in_ret ?_
                            refine WEx.then_ret ?_
                            obtain rfl := some_eq hF
                            refine WEx.ret1 rfl rfl ?_
                            exact ⟨rfl, St.keep (As := []) S796⟩
                        ·
                          refine WH.off rfl rfl (kbl (b := !(decide (x798 = x812))) rfl (show (!(decide (x798 = x812))) = true from by rw [(decide_eq_false h826)]; rfl)) rfl rfl rfl ?_
                          refine WH.off rfl rfl (kbl (b := !(decide (x798 = x812))) rfl (show (!(decide (x798 = x812))) = true from by rw [(decide_eq_false h826)]; rfl)) rfl rfl rfl ?_
                          refine WH.off rfl rfl (kbl (b := !(decide (x798 = x812))) rfl (show (!(decide (x798 = x812))) = true from by rw [(decide_eq_false h826)]; rfl)) rfl rfl rfl ?_
                          refine WH.off rfl rfl (kbl (b := !(decide (x798 = x812))) rfl (show (!(decide (x798 = x812))) = true from by rw [(decide_eq_false h826)]; rfl)) rfl rfl rfl ?_
                          refine WH.off rfl rfl (kbl (b := !(decide (x798 = x812))) rfl (show (!(decide (x798 = x812))) = true from by rw [(decide_eq_false h826)]; rfl)) rfl rfl rfl ?_
                          refine WH.off rfl rfl (kbl (b := !(decide (x798 = x812))) rfl (show (!(decide (x798 = x812))) = true from by rw [(decide_eq_false h826)]; rfl)) rfl rfl rfl ?_
                          refine WH.p rfl wants (G.pick_t (kb (b := !(decide (x798 = x812))) rfl (show (!(decide (x798 = x812))) = true from by rw [(decide_eq_false h826)]; rfl)) rfl) rfl ?_
                          refine WH.p rfl wants (G.move rfl) rfl ?_
                          refine WH.off rfl rfl rfl rfl rfl rfl ?_
                          refine WH.off rfl rfl rfl rfl rfl rfl ?_
                          refine WH.p rfl wants (G.pick_t rfl rfl) rfl ?_
                          refine WH.nil ?_
                          refine WEx.then_ ?_
                          refine WCode.forget (l' := [(3, .pointer (some ⟨b1, 0, none⟩)), (6, .int .i64 t13), (7, .pointer (some ⟨p31, 0, none⟩)), (9, .slice A179 l181.length c180), (10, .slice A184 l186.length c185), (11, .pointer (some ⟨b64, 0, none⟩)), (22, .slice A667 (t662.1).length c668), (23, .int .i64 x741), (253, undef), (254, undef), (255, undef), (256, undef), (257, undef), (258, undef), (261, undef), (262, undef), (263, .bool true)]) ⟨rfl, rfl, rfl, rfl, rfl, rfl, rfl, rfl, rfl, rfl, rfl, rfl, rfl, rfl, rfl, rfl, rfl, trivial⟩ ?_
                          refine WCode.cond_t rfl ?_
                          refine WCode.seq ?_
                          refine WCode.region ?_
                          refine WOps.p (G.assign rfl) rfl ?_
                          refine WOps.nil ?_
                          refine WEx.then_ ?_
                          refine WCode.forget (l' := [(4, .bool false)]) ⟨rfl, trivial⟩ ?_
                          refine WCode.ret ?_
                          refine WEx.in_ret ?_
                          refine WEx.then_ret ?_
                          refine WEx.then_ret ?_
                          refine WEx.in_ret ?_
                          refine WEx.in_ret ?_
                          refine WEx.then_ret ?_
                          refine WEx.then_ret ?_
                          refine WEx.in_ret ?_
                          refine WEx.then_ret ?_
                          obtain rfl := some_eq hF
                          refine WEx.ret1 rfl rfl ?_
                          exact ⟨rfl, St.keep (As := []) S796⟩
                      ·
                        refine WCode.cond_f (kb (b := decide (x741 < (l181.length : Int))) rfl (decide_eq_false h760)) ?_
                        refine WCode.exit ?_
                        refine WEx.then_exit ?_
                        refine WEx.then_exit ?_
                        refine WEx.in_exit ?_
                        refine WEx.in_normal ?_
                        have S850 := S749.front 6 rfl
                        change St _ _ _ [G746, [(p31, .cells #[.int .i64 x742, .slice A743 l745.length c744] 183 (0, 0))], [(b1, .cells #[.slice A1 a1.length c1] 119 (0, 0))], [(b64, .cells #[.int .i64 x71] 3 (0, 0))], G182, G187, G669] at S850
                        have S851 := S850.front 5 rfl
                        change St _ _ _ [G187, G746, [(p31, .cells #[.int .i64 x742, .slice A743 l745.length c744] 183 (0, 0))], [(b1, .cells #[.slice A1 a1.length c1] 119 (0, 0))], [(b64, .cells #[.int .i64 x71] 3 (0, 0))], G182, G669] at S851
                        have S852 := S851.front 5 rfl
                        change St _ _ _ [G182, G187, G746, [(p31, .cells #[.int .i64 x742, .slice A743 l745.length c744] 183 (0, 0))], [(b1, .cells #[.slice A1 a1.length c1] 119 (0, 0))], [(b64, .cells #[.int .i64 x71] 3 (0, 0))], G669] at S852
                        have S853 := S852.front 5 rfl
                        change St _ _ _ [[(b64, .cells #[.int .i64 x71] 3 (0, 0))], G182, G187, G746, [(p31, .cells #[.int .i64 x742, .slice A743 l745.length c744] 183 (0, 0))], [(b1, .cells #[.slice A1 a1.length c1] 119 (0, 0))], G669] at S853
                        have S854 := S853.front 5 rfl
                        change St _ _ _ [[(b1, .cells #[.slice A1 a1.length c1] 119 (0, 0))], [(b64, .cells #[.int .i64 x71] 3 (0, 0))], G182, G187, G746, [(p31, .cells #[.int .i64 x742, .slice A743 l745.length c744] 183 (0, 0))], G669] at S854
                        have S855 := S854.front 5 rfl
                        change St _ _ _ [[(p31, .cells #[.int .i64 x742, .slice A743 l745.length c744] 183 (0, 0))], [(b1, .cells #[.slice A1 a1.length c1] 119 (0, 0))], [(b64, .cells #[.int .i64 x71] 3 (0, 0))], G182, G187, G746, G669] at S855
                        have S856 := St.keep (As := [[(p31, .cells #[.int .i64 x742, .slice A743 l745.length c744] 183 (0, 0))], [(b1, .cells #[.slice A1 a1.length c1] 119 (0, 0))], [(b64, .cells #[.int .i64 x71] 3 (0, 0))], G182, G187, G746]) S855
                        refine WEx.cutend _ ?_ ⟨k750, A179, c180, l181, G182, A184, c185, l186, G187, x742, A743, c744, l745, G746, rfl, hF, (by omega), hO183, hO188, hO747, S856⟩
                        exact ⟨rfl, rfl, rfl, rfl, rfl, rfl, trivial⟩
            ·
              rintro _ w104 ⟨q106, A88, c89, l90, G91, A93, c94, l95, G96, x98, A99, c100, l101, G102, rfl, hF, hq107, hO92, hO97, hO103, S105⟩
              obtain _ | k857 := q106
              · exact nomatch (show (none : Option Bool) = some r_ from hF)
              rw [law_Bound.j1] at hF
              refine WCode.seq ?_
              refine WCode.seq ?_
              refine WCode.region ?_
              refine WOps.r (G.load1 T.one3 rfl (cell_blk (S105.blk 2 rfl) rfl)) rfl ?_
              refine WOps.nil ?_
              refine WEx.then_ ?_
              refine WCode.region ?_
              obtain ⟨b858, w859, E860, S861, X862, L863⟩ := St.var S105 (z := .int .i64 0) T.zero3
              change St _ _ _ [[(b858, .cells #[.int .i64 0] 3 (0, 0))], [(p31, .cells #[.int .i64 x98, .slice A99 l101.length c100] 183 (0, 0))], [(b1, .cells #[.slice A1 a1.length c1] 119 (0, 0))], [(b64, .cells #[.int .i64 x71] 3 (0, 0))], G91, G96, G102] at S861
              refine WOps.e E860 rfl ?_
              obtain ⟨w864, E865, S866⟩ := St.store (P := Try.prog) S861 0 3 (.int .i64 x71) (off := 0) (cur' := #[.int .i64 x71]) rfl T.size3_1 rfl rfl rfl
              change St _ _ _ [[(b858, .cells #[.int .i64 x71] 3 (0, 0))], [(p31, .cells #[.int .i64 x98, .slice A99 l101.length c100] 183 (0, 0))], [(b1, .cells #[.slice A1 a1.length c1] 119 (0, 0))], [(b64, .cells #[.int .i64 x71] 3 (0, 0))], G91, G96, G102] at S866
              refine WOps.u (E865 rfl rfl) ?_
              refine WOps.nil ?_
              refine WEx.then_ ?_
              refine WCode.region ?_
              refine WOps.r (G.load1 T.one3 rfl (cell_blk (S866.blk 0 rfl) rfl)) rfl ?_
              refine WOps.p (G.add rfl rfl (r := (w64 (x71 + 1))) rfl) rfl ?_
              obtain ⟨w867, E868, S869⟩ := St.store (P := Try.prog) S866 0 3 (.int .i64 (w64 (x71 + 1))) (off := 0) (cur' := #[.int .i64 (w64 (x71 + 1))]) rfl T.size3_1 rfl rfl rfl
              change St _ _ _ [[(b858, .cells #[.int .i64 (w64 (x71 + 1))] 3 (0, 0))], [(p31, .cells #[.int .i64 x98, .slice A99 l101.length c100] 183 (0, 0))], [(b1, .cells #[.slice A1 a1.length c1] 119 (0, 0))], [(b64, .cells #[.int .i64 x71] 3 (0, 0))], G91, G96, G102] at S869
              refine WOps.u (E868 rfl rfl) ?_
              refine WOps.nil ?_
              have S870 := S869.front 6 rfl
              change St _ _ _ [G102, [(b858, .cells #[.int .i64 (w64 (x71 + 1))] 3 (0, 0))], [(p31, .cells #[.int .i64 x98, .slice A99 l101.length c100] 183 (0, 0))], [(b1, .cells #[.slice A1 a1.length c1] 119 (0, 0))], [(b64, .cells #[.int .i64 x71] 3 (0, 0))], G91, G96] at S870
              have S871 := S870.front 6 rfl
              change St _ _ _ [G96, G102, [(b858, .cells #[.int .i64 (w64 (x71 + 1))] 3 (0, 0))], [(p31, .cells #[.int .i64 x98, .slice A99 l101.length c100] 183 (0, 0))], [(b1, .cells #[.slice A1 a1.length c1] 119 (0, 0))], [(b64, .cells #[.int .i64 x71] 3 (0, 0))], G91] at S871
              have S872 := S871.front 6 rfl
              change St _ _ _ [G91, G96, G102, [(b858, .cells #[.int .i64 (w64 (x71 + 1))] 3 (0, 0))], [(p31, .cells #[.int .i64 x98, .slice A99 l101.length c100] 183 (0, 0))], [(b1, .cells #[.slice A1 a1.length c1] 119 (0, 0))], [(b64, .cells #[.int .i64 x71] 3 (0, 0))]] at S872
              have S873 := S872.front 3 rfl
              change St _ _ _ [[(b858, .cells #[.int .i64 (w64 (x71 + 1))] 3 (0, 0))], G91, G96, G102, [(p31, .cells #[.int .i64 x98, .slice A99 l101.length c100] 183 (0, 0))], [(b1, .cells #[.slice A1 a1.length c1] 119 (0, 0))], [(b64, .cells #[.int .i64 x71] 3 (0, 0))]] at S873
              have S874 := S873.front 5 rfl
              change St _ _ _ [[(b1, .cells #[.slice A1 a1.length c1] 119 (0, 0))], [(b858, .cells #[.int .i64 (w64 (x71 + 1))] 3 (0, 0))], G91, G96, G102, [(p31, .cells #[.int .i64 x98, .slice A99 l101.length c100] 183 (0, 0))], [(b64, .cells #[.int .i64 x71] 3 (0, 0))]] at S874
              have S875 := S874.front 5 rfl
              change St _ _ _ [[(p31, .cells #[.int .i64 x98, .slice A99 l101.length c100] 183 (0, 0))], [(b1, .cells #[.slice A1 a1.length c1] 119 (0, 0))], [(b858, .cells #[.int .i64 (w64 (x71 + 1))] 3 (0, 0))], G91, G96, G102, [(b64, .cells #[.int .i64 x71] 3 (0, 0))]] at S875
              have S876 := St.keep (As := [[(p31, .cells #[.int .i64 x98, .slice A99 l101.length c100] 183 (0, 0))], [(b1, .cells #[.slice A1 a1.length c1] 119 (0, 0))], [(b858, .cells #[.int .i64 (w64 (x71 + 1))] 3 (0, 0))], G91, G96, G102]) S875
              refine WEx.again _ _ (by omega) ?_ ⟨A88, c89, l90, G91, A93, c94, l95, G96, b858, x98, A99, c100, l101, G102, w64 (x71 + 1), rfl, hF, hO92, hO97, hO103, S876⟩
              exact ⟨rfl, rfl, rfl, rfl, rfl, rfl, trivial⟩
          ·
            refine WCode.cond_f (kb (b := decide (x71 < (a1.length : Int))) rfl (decide_eq_false h87)) ?_
            refine WCode.exit ?_
            refine WEx.then_exit ?_
            refine WEx.then_exit ?_
            refine WEx.in_exit ?_
            refine WEx.then_ ?_
            refine WCode.forget (l' := []) trivial ?_
            refine WCode.seq ?_
            refine WCode.region ?_
            refine WOps.p (G.assign rfl) rfl ?_
            refine WOps.nil ?_
            refine WEx.then_ ?_
            refine WCode.ret ?_
            obtain rfl := some_eq hF
            refine WEx.ret1 rfl rfl ?_
            exact ⟨rfl, St.keep (As := []) S73⟩
        ·
          refine WCode.cond_t (kb (b := !(decide (t18.2 = 0))) rfl (show (!(decide (t18.2 = 0))) = true from by rw [(decide_eq_false h44)]; rfl)) ?_
          refine WCode.seq ?_
          refine WCode.region ?_
          refine WOps.p (G.assign rfl) rfl ?_
          refine WOps.nil ?_
          refine WEx.then_ ?_
          refine WCode.ret ?_
          refine WEx.then_ret ?_
          obtain rfl := some_eq hF
          refine WEx.ret1 rfl rfl ?_
          exact ⟨rfl, St.keep (As := []) S43⟩
      ·
        refine WOps.on rfl (kbl (b := !t8) rfl (show (!t8) = false from by rw [h26]; rfl)) ?_
        have hn878 := Option.not_isSome_iff_eq_none.1 h27
        have ho877 := hO25
        rw [hn878] at ho877
        obtain ⟨hv879, hg880⟩ := ho877
        subst hv879
        have S881 : St _ _ _ [[(b1, .cells #[.slice A1 a1.length c1] 119 (0, 0))]] := S22.objs (by rw [hg880]; simp)
        refine WOps.p (G.eqp_nil Try.underlying120 rfl rfl rfl) rfl ?_
        refine WOps.p (G.pick_f (kb (b := !t8) rfl (show (!t8) = false from by rw [h26]; rfl)) rfl) rfl ?_
        refine WOps.p (G.move rfl) rfl ?_
        refine WOps.off rfl rfl rfl rfl ?_
        refine WOps.off rfl rfl rfl rfl ?_
        refine WOps.p (G.pick_t rfl rfl) rfl ?_
        refine WOps.nil ?_
        refine WEx.then_ ?_
        refine WCode.forget (l' := [(3, .pointer (some ⟨b1, 0, none⟩)), (6, .int .i64 t13), (7, .pointer none), (46, .bool true)]) ⟨rfl, rfl, rfl, rfl, trivial⟩ ?_
        refine WCode.cond_t rfl ?_
        refine WCode.seq ?_
        refine WCode.region ?_
        refine WOps.p (G.assign rfl) rfl ?_
        refine WOps.nil ?_
        refine WEx.then_ ?_
        refine WCode.ret ?_
        refine WEx.then_ret ?_
        obtain rfl := some_eq hF
        refine WEx.ret1 rfl rfl ?_
        exact ⟨rfl, St.keep (As := []) S881⟩
    ·
      refine WOps.off rfl (kbl (b := !t8) rfl (show (!t8) = true from by rw [(Bool.eq_false_iff.2 h26)]; rfl)) rfl rfl ?_
      refine WOps.off rfl (kbl (b := !t8) rfl (show (!t8) = true from by rw [(Bool.eq_false_iff.2 h26)]; rfl)) rfl rfl ?_
      refine WOps.p (G.pick_t (kb (b := !t8) rfl (show (!t8) = true from by rw [(Bool.eq_false_iff.2 h26)]; rfl)) rfl) rfl ?_
      refine WOps.p (G.move rfl) rfl ?_
      refine WOps.off rfl rfl rfl rfl ?_
      refine WOps.off rfl rfl rfl rfl ?_
      refine WOps.p (G.pick_t rfl rfl) rfl ?_
      refine WOps.nil ?_
      refine WEx.then_ ?_
      refine WCode.forget (l' := [(3, .pointer (some ⟨b1, 0, none⟩)), (6, .int .i64 t13), (7, v23), (46, .bool true)]) ⟨rfl, rfl, rfl, rfl, trivial⟩ ?_
      refine WCode.cond_t rfl ?_
      refine WCode.seq ?_
      refine WCode.region ?_
      refine WOps.p (G.assign rfl) rfl ?_
      refine WOps.nil ?_
      refine WEx.then_ ?_
      refine WCode.ret ?_
      refine WEx.then_ret ?_
      obtain rfl := some_eq hF
      refine WEx.ret1 rfl rfl ?_
      exact ⟨rfl, St.keep (As := []) S22⟩

end Go.Proofs.Ytoahkjehjmbojaa
