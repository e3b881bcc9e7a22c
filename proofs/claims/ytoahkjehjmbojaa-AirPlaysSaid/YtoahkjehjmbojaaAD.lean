/- Functions and their walks (printed by auto.py over the engine). -/
import Derived.Test.YtoahkjehjmbojaaProg
import Derived.Test.YtoahkjehjmbojaaAC
namespace Go.Proofs.Ytoahkjehjmbojaa
open Go Go.Eng
set_option linter.unusedSimpArgs false
set_option linter.unusedVariables false

theorem T.agg39_7 : isAggT Try.prog 39 7 = true := by kernel_rfl
theorem T.call12 : Callable Try.prog 12 := Callable.mk Try.func12 (by kernel_rfl) (by kernel_rfl)
theorem T.call13 : Callable Try.prog 13 := Callable.mk Try.func13 (by kernel_rfl) (by kernel_rfl)
theorem T.call15 : Callable Try.prog 15 := Callable.mk Try.func15 (by kernel_rfl) (by kernel_rfl)
theorem T.call17 : Callable Try.prog 17 := Callable.mk Try.func17 (by kernel_rfl) (by kernel_rfl)
theorem T.call18 : Callable Try.prog 18 := Callable.mk Try.func18 (by kernel_rfl) (by kernel_rfl)
theorem T.el27 : slEl Try.prog 27 = some 1 := by kernel_rfl
theorem T.el30 : slEl Try.prog 30 = some 1 := by kernel_rfl
theorem T.fld39_1 : fldOff Try.prog 39 1 = some 1 := by kernel_rfl
theorem T.one25 : isOneT Try.prog 25 = true := by kernel_rfl
theorem T.one28 : isOneT Try.prog 28 = true := by kernel_rfl
theorem T.size39_7 : sizeT Try.prog 39 = some 7 := by kernel_rfl
theorem T.zero39 : zeroOf Try.prog 39 = some (.agg #[.int .i64 0, .int .i64 0, .int .i64 0, .int .i64 0, .int .i64 0, .int .i64 0, .string (bs ([] : List UInt8))]) := by kernel_rfl



def law_Plays3.l3 : Nat → Int → List (List Packet) → List (List Packet) → List (List Packet) → List (List Packet) → List Int → List Packet → Int → List Packet → Int → List Packet → Int → List Packet → Int → Option Bool
  | 0, _, _, _, _, _, _, _, _, _, _, _, _, _, _ => none
  | k518 + 1, x466, l469, l474, l479, l484, l489, l494, x497, l500, x503, l506, x509, l512, x515 => (if x466 < 2 then (if x466 = 0 then (Option.bind (y_step k518 (⟨l469, l474, l479, l484, l489⟩ : BookA) (⟨l512, x515⟩ : Air) (⟨l500, x503⟩ : Air135) (⟨5, 0, 0, 0, (⟨0, 0, ([] : List UInt8)⟩ : Packet)⟩ : Op)) fun t534 => (if t534.1 = true then (law_Plays3.l3 k518 (w64 (x466 + 1)) t534.2.1.free t534.2.1.was t534.2.1.lists t534.2.1.grown t534.2.1.whose l494 x497 t534.2.2.2.L t534.2.2.2.Time l506 x509 t534.2.2.1.flying t534.2.2.1.time) else (some false))) else (if x466 = 1 then (Option.bind (y_step k518 (⟨l469, l474, l479, l484, l489⟩ : BookA) (⟨l506, x509⟩ : Air) (⟨l494, x497⟩ : Air135) (⟨5, 0, 0, 0, (⟨0, 0, ([] : List UInt8)⟩ : Packet)⟩ : Op)) fun t606 => (if t606.1 = true then (law_Plays3.l3 k518 (w64 (x466 + 1)) t606.2.1.free t606.2.1.was t606.2.1.lists t606.2.1.grown t606.2.1.whose t606.2.2.2.L t606.2.2.2.Time l500 x503 t606.2.2.1.flying t606.2.2.1.time l512 x515) else (some false))) else none)) else (if l479 = ([] : List (List Packet)) then (if l484 = ([] : List (List Packet)) then (if l489 = ([] : List Int) then (Option.bind (y_still k518 l469 l474) fun t675 => (some t675)) else none) else none) else none))
def law_Plays3.j2 (q162 : Nat) (l113 : List (List Packet)) (l118 : List (List Packet)) (l123 : List (List Packet)) (l128 : List (List Packet)) (l133 : List Int) (l138 : List Packet) (x141 : Int) (l144 : List Packet) (x147 : Int) (l150 : List Packet) (x153 : Int) (l156 : List Packet) (x159 : Int) : Option Bool := (law_Plays3.l3 q162 0 l113 l118 l123 l128 l133 l138 x141 l144 x147 l150 x153 l156 x159)
mutual
def law_Plays3.l2 : Nat → List Op → Int → Op → Int → Int → List (List Packet) → List (List Packet) → List (List Packet) → List (List Packet) → List Int → List Packet → Int → List Packet → Int → List Packet → Int → List Packet → Int → Option Bool
  | 0, _, _, _, _, _, _, _, _, _, _, _, _, _, _, _, _, _, _ => none
  | k309 + 1, a0, x164, x228, t252, x257, l260, l265, l270, l275, l280, l285, x288, l291, x294, l297, x300, l303, x306 => (Option.bind (ypick k309 x228.Many 1101) fun t312 => (if x257 ≤ t312 then (if t252 = 0 then (Option.bind (y_step k309 (⟨l260, l265, l270, l275, l280⟩ : BookA) (⟨l303, x306⟩ : Air) (⟨l291, x294⟩ : Air135) x228) fun t330 => (if t330.1 = true then (law_Plays3.l2 k309 a0 x164 x228 t252 (w64 (x257 + 1)) t330.2.1.free t330.2.1.was t330.2.1.lists t330.2.1.grown t330.2.1.whose l285 x288 t330.2.2.2.L t330.2.2.2.Time l297 x300 t330.2.2.1.flying t330.2.2.1.time) else (some false))) else (if t252 = 1 then (Option.bind (y_step k309 (⟨l260, l265, l270, l275, l280⟩ : BookA) (⟨l297, x300⟩ : Air) (⟨l285, x288⟩ : Air135) x228) fun t402 => (if t402.1 = true then (law_Plays3.l2 k309 a0 x164 x228 t252 (w64 (x257 + 1)) t402.2.1.free t402.2.1.was t402.2.1.lists t402.2.1.grown t402.2.1.whose t402.2.2.2.L t402.2.2.2.Time l291 x294 t402.2.2.1.flying t402.2.2.1.time l303 x306) else (some false))) else none)) else (law_Plays3.l1 k309 a0 (w64 (x164 + 1)) l260 l265 l270 l275 l280 l285 x288 l291 x294 l297 x300 l303 x306)))
def law_Plays3.l1 : Nat → List Op → Int → List (List Packet) → List (List Packet) → List (List Packet) → List (List Packet) → List Int → List Packet → Int → List Packet → Int → List Packet → Int → List Packet → Int → Option Bool
  | 0, _, _, _, _, _, _, _, _, _, _, _, _, _, _, _ => none
  | k216 + 1, a0, x164, l167, l172, l177, l182, l187, l192, x195, l198, x201, l204, x207, l210, x213 => (if x164 < (a0.length : Int) then (Option.bind (idx a0 x164) fun x228 => (Option.bind (ypick k216 x228.On 2) fun t252 => (law_Plays3.l2 k216 a0 x164 x228 t252 0 l167 l172 l177 l182 l187 l192 x195 l198 x201 l204 x207 l210 x213))) else (law_Plays3.j2 k216 l167 l172 l177 l182 l187 l192 x195 l198 x201 l204 x207 l210 x213))
end
def law_Plays3.j1 (q105 : Nat) (a0 : List Op) (t12 : Air) (t30 : Air) (t54 : Air135) (t72 : Air135) (b102 : Bool) : Option Bool := (if b102 = true then (some false) else (law_Plays3.l1 q105 a0 0 [] ([] : List (List Packet)) ([] : List (List Packet)) ([] : List (List Packet)) [] t72.L t72.Time t54.L t54.Time t30.flying t30.time t12.flying t12.time))
def law_Plays3 (k : Nat) (a0 : List Op) : Option Bool := (Option.bind (ysize k a0) fun t1 => (if 2147483647 < t1 then (some true) else (Option.bind (yawake k) fun t7 => (Option.bind (ya_New k) fun t12 => (Option.bind (ya_New k) fun t30 => (Option.bind (yr_New k) fun t54 => (Option.bind (yr_New k) fun t72 => (if t7 = true then (law_Plays3.j1 k a0 t12 t30 t54 t72 false) else (law_Plays3.j1 k a0 t12 t30 t54 t72 true)))))))))
set_option maxRecDepth 100000 in
set_option maxHeartbeats 1000000 in
theorem law_Plays3_calls (k : Nat) (a0 : List Op) {A0 : Option Addr} {c0 : Nat} {F0 : Nat → Prop} {w : World} (hR0 : SlR Op.rp w F0 A0 c0 a0) (hF0 : ∀ b, F0 b → NK w [] b) {r_ : Bool} (h_ : law_Plays3 k a0 = some r_) :
    Calls Try.prog 3 [.slice A0 a0.length c0].toArray w fun e w' => e = .returned (.bool r_) ∧ St w (KS []) w' [] := by
 have hF := h_
 clear h_
 unfold law_Plays3 at hF
 have S := St.ofFalse (As := []) (St.init0 w)
 refine enter 94 [(0, .slice A0 a0.length c0)] Try.func3 rfl rfl rfl rfl ?_
 refine WCode.seq ?_
 refine WCode.region ?_
 refine WOps.p (G.assign rfl) rfl ?_
 refine WOps.nil ?_
 refine WEx.then_ ?_
 refine WCode.seq ?_
 refine WCode.seq ?_
 refine WCode.region ?_
 refine WOps.p (G.move rfl) rfl ?_
 obtain ⟨t1, hc2, hF⟩ := bind_some hF
 refine WOps.call T.call12 (evs_cons rfl evs_nil) rfl ?_
 refine (ysize_calls k a0 (hR0.ext (S.keepF hF0)) (St.outF (Bs := []) S hF0) hc2).mono ?_
 rintro _ w3 ⟨rfl, T4⟩
 have S5 := St.callN (As := []) S T4
 change St _ _ _ [] at S5
 refine ⟨_, rfl, ?_⟩
 refine WOps.p (G.gtr rfl rfl rfl) rfl ?_
 refine WOps.nil ?_
 refine WEx.then_ ?_
 rcases ite_some hF with ⟨h6, hF⟩ | ⟨h6, hF⟩
 ·
  refine WCode.cond_t (kb (b := decide (2147483647 < t1)) rfl (decide_eq_true h6)) ?_
  refine WCode.seq ?_
  refine WCode.region ?_
  refine WOps.p (G.assign rfl) rfl ?_
  refine WOps.nil ?_
  refine WEx.then_ ?_
  refine WCode.ret ?_
  refine WEx.then_ret ?_
  obtain rfl := some_eq hF
  refine WEx.ret1 rfl rfl ?_
  exact ⟨rfl, St.keep (As := []) S5⟩
 ·
  refine WCode.cond_f (kb (b := decide (2147483647 < t1)) rfl (decide_eq_false h6)) ?_
  refine WCode.skip ?_
  refine WEx.then_ ?_
  refine WCode.seq ?_
  refine WCode.region ?_
  obtain ⟨t7, hc8, hF⟩ := bind_some hF
  refine WOps.call T.call13 evs_nil rfl ?_
  refine (yawake_calls k hc8).mono ?_
  rintro _ w9 ⟨rfl, T10⟩
  have S11 := St.callN (As := []) S5 T10
  change St _ _ _ [] at S11
  refine ⟨_, rfl, ?_⟩
  refine WOps.p (G.assign rfl) rfl ?_
  refine WOps.nil ?_
  refine WEx.then_ ?_
  refine WCode.seq ?_
  refine WCode.region ?_
  obtain ⟨t12, hc13, hF⟩ := bind_some hF
  refine WOps.call T.call14 evs_nil rfl ?_
  refine (ya_New_calls k hc13).mono ?_
  rintro _ w14 ⟨p17, G18, rfl, hO19, T15⟩
  have S16 := St.callN (As := []) S11 T15
  change St _ _ _ [G18] at S16
  refine ⟨_, rfl, ?_⟩
  obtain ⟨cs20, G21, ho22, hg23⟩ := hO19
  obtain ⟨A24, c25, G26, rfl, hO27, hq28⟩ := ho22
  have S29 : St _ _ _ [[(p17, .cells #[.slice A24 t12.flying.length c25, .int .i64 t12.time] 133 (0, 0))], G26] := S16.objs (by rw [hg23, hq28]; simp)
  obtain ⟨t30, hc31, hF⟩ := bind_some hF
  refine WOps.call T.call14 evs_nil rfl ?_
  refine (ya_New_calls k hc31).mono ?_
  rintro _ w32 ⟨p35, G36, rfl, hO37, T33⟩
  have S34 := St.callN (As := []) S29 T33
  change St _ _ _ [G36, [(p17, .cells #[.slice A24 t12.flying.length c25, .int .i64 t12.time] 133 (0, 0))], G26] at S34
  refine ⟨_, rfl, ?_⟩
  obtain ⟨cs38, G39, ho40, hg41⟩ := hO37
  obtain ⟨A42, c43, G44, rfl, hO45, hq46⟩ := ho40
  have S47 : St _ _ _ [[(p35, .cells #[.slice A42 t30.flying.length c43, .int .i64 t30.time] 133 (0, 0))], G44, [(p17, .cells #[.slice A24 t12.flying.length c25, .int .i64 t12.time] 133 (0, 0))], G26] := S34.objs (by rw [hg41, hq46]; simp)
  obtain ⟨b48, w49, E50, S51, X52, L53⟩ := St.lit S47 (P := Try.prog) (t := 27) (e := 25) (n := 2) (vs := [(0, .pointer (some ⟨p17, 0, none⟩)), (1, .pointer (some ⟨p35, 0, none⟩))]) (cs := #[.pointer (some ⟨p17, 0, none⟩), .pointer (some ⟨p35, 0, none⟩)]) (by kernel_rfl)
  change St _ _ _ [[(b48, .cells #[.pointer (some ⟨p17, 0, none⟩), .pointer (some ⟨p35, 0, none⟩)] 25 (0, 0))], [(p35, .cells #[.slice A42 t30.flying.length c43, .int .i64 t30.time] 133 (0, 0))], G44, [(p17, .cells #[.slice A24 t12.flying.length c25, .int .i64 t12.time] 133 (0, 0))], G26] at S51
  refine WOps.e (E50 (evp_cons rfl (evp_cons rfl evp_nil))) rfl ?_
  refine WOps.p (G.assign rfl) rfl ?_
  refine WOps.nil ?_
  refine WEx.then_ ?_
  refine WCode.seq ?_
  refine WCode.region ?_
  obtain ⟨t54, hc55, hF⟩ := bind_some hF
  refine WOps.call T.call15 evs_nil rfl ?_
  refine (yr_New_calls k hc55).mono ?_
  rintro _ w56 ⟨p59, G60, rfl, hO61, T57⟩
  have S58 := St.callN (As := []) S51 T57
  change St _ _ _ [G60, [(b48, .cells #[.pointer (some ⟨p17, 0, none⟩), .pointer (some ⟨p35, 0, none⟩)] 25 (0, 0))], [(p35, .cells #[.slice A42 t30.flying.length c43, .int .i64 t30.time] 133 (0, 0))], G44, [(p17, .cells #[.slice A24 t12.flying.length c25, .int .i64 t12.time] 133 (0, 0))], G26] at S58
  refine ⟨_, rfl, ?_⟩
  obtain ⟨cs62, G63, ho64, hg65⟩ := hO61
  obtain ⟨A66, c67, G68, rfl, hO69, hq70⟩ := ho64
  have S71 : St _ _ _ [[(p59, .cells #[.slice A66 t54.L.length c67, .int .i64 t54.Time] 135 (0, 0))], G68, [(b48, .cells #[.pointer (some ⟨p17, 0, none⟩), .pointer (some ⟨p35, 0, none⟩)] 25 (0, 0))], [(p35, .cells #[.slice A42 t30.flying.length c43, .int .i64 t30.time] 133 (0, 0))], G44, [(p17, .cells #[.slice A24 t12.flying.length c25, .int .i64 t12.time] 133 (0, 0))], G26] := S58.objs (by rw [hg65, hq70]; simp)
  obtain ⟨t72, hc73, hF⟩ := bind_some hF
  refine WOps.call T.call15 evs_nil rfl ?_
  refine (yr_New_calls k hc73).mono ?_
  rintro _ w74 ⟨p77, G78, rfl, hO79, T75⟩
  have S76 := St.callN (As := []) S71 T75
  change St _ _ _ [G78, [(p59, .cells #[.slice A66 t54.L.length c67, .int .i64 t54.Time] 135 (0, 0))], G68, [(b48, .cells #[.pointer (some ⟨p17, 0, none⟩), .pointer (some ⟨p35, 0, none⟩)] 25 (0, 0))], [(p35, .cells #[.slice A42 t30.flying.length c43, .int .i64 t30.time] 133 (0, 0))], G44, [(p17, .cells #[.slice A24 t12.flying.length c25, .int .i64 t12.time] 133 (0, 0))], G26] at S76
  refine ⟨_, rfl, ?_⟩
  obtain ⟨cs80, G81, ho82, hg83⟩ := hO79
  obtain ⟨A84, c85, G86, rfl, hO87, hq88⟩ := ho82
  have S89 : St _ _ _ [[(p77, .cells #[.slice A84 t72.L.length c85, .int .i64 t72.Time] 135 (0, 0))], G86, [(p59, .cells #[.slice A66 t54.L.length c67, .int .i64 t54.Time] 135 (0, 0))], G68, [(b48, .cells #[.pointer (some ⟨p17, 0, none⟩), .pointer (some ⟨p35, 0, none⟩)] 25 (0, 0))], [(p35, .cells #[.slice A42 t30.flying.length c43, .int .i64 t30.time] 133 (0, 0))], G44, [(p17, .cells #[.slice A24 t12.flying.length c25, .int .i64 t12.time] 133 (0, 0))], G26] := S76.objs (by rw [hg83, hq88]; simp)
  obtain ⟨b90, w91, E92, S93, X94, L95⟩ := St.lit S89 (P := Try.prog) (t := 30) (e := 28) (n := 2) (vs := [(0, .pointer (some ⟨p59, 0, none⟩)), (1, .pointer (some ⟨p77, 0, none⟩))]) (cs := #[.pointer (some ⟨p59, 0, none⟩), .pointer (some ⟨p77, 0, none⟩)]) (by kernel_rfl)
  change St _ _ _ [[(b90, .cells #[.pointer (some ⟨p59, 0, none⟩), .pointer (some ⟨p77, 0, none⟩)] 28 (0, 0))], [(p77, .cells #[.slice A84 t72.L.length c85, .int .i64 t72.Time] 135 (0, 0))], G86, [(p59, .cells #[.slice A66 t54.L.length c67, .int .i64 t54.Time] 135 (0, 0))], G68, [(b48, .cells #[.pointer (some ⟨p17, 0, none⟩), .pointer (some ⟨p35, 0, none⟩)] 25 (0, 0))], [(p35, .cells #[.slice A42 t30.flying.length c43, .int .i64 t30.time] 133 (0, 0))], G44, [(p17, .cells #[.slice A24 t12.flying.length c25, .int .i64 t12.time] 133 (0, 0))], G26] at S93
  refine WOps.e (E92 (evp_cons rfl (evp_cons rfl evp_nil))) rfl ?_
  refine WOps.p (G.assign rfl) rfl ?_
  refine WOps.nil ?_
  refine WEx.then_ ?_
  refine WCode.forget (l' := [(0, .slice A0 a0.length c0), (3, .bool t7), (4, .slice (some ⟨b48, 0, none⟩) ([0, 0] : List Int).length 2), (5, .slice (some ⟨b90, 0, none⟩) ([0, 0] : List Int).length 2)]) ⟨rfl, rfl, rfl, rfl, trivial⟩ ?_
  refine WCode.seq ?_
  refine WCode.region ?_
  refine WOps.p (G.build (cells := #[.slice none 0 0, .slice none 0 0, .slice none 0 0, .slice none 0 0, .slice none 0 0]) (evp_spec (evp_nil)) (by kernel_rfl)) rfl ?_
  obtain ⟨b96, w97, E98, S99, X100, L101⟩ := St.box S93 Try.prog 35 (.agg #[.slice none 0 0, .slice none 0 0, .slice none 0 0, .slice none 0 0, .slice none 0 0])
  change St _ _ _ [[(b96, .cells #[.slice none 0 0, .slice none 0 0, .slice none 0 0, .slice none 0 0, .slice none 0 0] 35 (0, 0))], [(b90, .cells #[.pointer (some ⟨p59, 0, none⟩), .pointer (some ⟨p77, 0, none⟩)] 28 (0, 0))], [(p77, .cells #[.slice A84 t72.L.length c85, .int .i64 t72.Time] 135 (0, 0))], G86, [(p59, .cells #[.slice A66 t54.L.length c67, .int .i64 t54.Time] 135 (0, 0))], G68, [(b48, .cells #[.pointer (some ⟨p17, 0, none⟩), .pointer (some ⟨p35, 0, none⟩)] 25 (0, 0))], [(p35, .cells #[.slice A42 t30.flying.length c43, .int .i64 t30.time] 133 (0, 0))], G44, [(p17, .cells #[.slice A24 t12.flying.length c25, .int .i64 t12.time] 133 (0, 0))], G26] at S99
  refine WOps.e (E98 rfl) rfl ?_
  refine WOps.p (G.assign rfl) rfl ?_
  refine WOps.nil ?_
  refine WEx.then_ ?_
  refine WCode.seq ?_
  refine WCode.cutseq (fun l_ w_ => ∃ q105 : Nat, ∃ b102 : Bool, l_ = [(0, .slice A0 a0.length c0), (4, .slice (some ⟨b48, 0, none⟩) ([0, 0] : List Int).length 2), (5, .slice (some ⟨b90, 0, none⟩) ([0, 0] : List Int).length 2), (6, .pointer (some ⟨b96, 0, none⟩)), (40, .bool b102)] ∧ law_Plays3.j1 q105 a0 t12 t30 t54 t72 b102 = some r_ ∧ St w (KS []) w_ [[(b96, .cells #[.slice none 0 0, .slice none 0 0, .slice none 0 0, .slice none 0 0, .slice none 0 0] 35 (0, 0))], [(b90, .cells #[.pointer (some ⟨p59, 0, none⟩), .pointer (some ⟨p77, 0, none⟩)] 28 (0, 0))], [(p77, .cells #[.slice A84 t72.L.length c85, .int .i64 t72.Time] 135 (0, 0))], [(p59, .cells #[.slice A66 t54.L.length c67, .int .i64 t54.Time] 135 (0, 0))], [(b48, .cells #[.pointer (some ⟨p17, 0, none⟩), .pointer (some ⟨p35, 0, none⟩)] 25 (0, 0))], [(p35, .cells #[.slice A42 t30.flying.length c43, .int .i64 t30.time] 133 (0, 0))], [(p17, .cells #[.slice A24 t12.flying.length c25, .int .i64 t12.time] 133 (0, 0))], G86, G68, G44, G26]) ?_ ?_
  ·
   refine WCode.region ?_
   refine WOps.p (G.move rfl) rfl ?_
   refine WOps.p (G.not rfl rfl) rfl ?_
   refine WOps.p (G.move rfl) rfl ?_
   rcases ite_some hF with ⟨h107, hF⟩ | ⟨h107, hF⟩
   ·
    refine WOps.on rfl (kbl (b := !t7) rfl (show (!t7) = false from by rw [h107]; rfl)) ?_
    refine WOps.p (G.move rfl) rfl ?_
    refine WOps.on rfl (kbl (b := !t7) rfl (show (!t7) = false from by rw [h107]; rfl)) ?_
    refine WOps.p (G.idx (o := 0) (j := 0) T.el27 rfl rfl rfl rfl (Nat.le_of_ble_eq_true rfl) : GP _ _ _ _ (.pointer (some ⟨b48, 0, none⟩))) rfl ?_
    refine WOps.on rfl (kbl (b := !t7) rfl (show (!t7) = false from by rw [h107]; rfl)) ?_
    refine WOps.r (G.load1 T.one25 rfl (cell_blk (S99.blk 6 rfl) rfl)) rfl ?_
    refine WOps.on rfl (kbl (b := !t7) rfl (show (!t7) = false from by rw [h107]; rfl)) ?_
    refine WOps.p (G.eqp_nil Try.underlying25 rfl rfl rfl) rfl ?_
    refine WOps.p (G.pick_f (kb (b := !t7) rfl (show (!t7) = false from by rw [h107]; rfl)) rfl) rfl ?_
    refine WOps.p (G.move rfl) rfl ?_
    refine WOps.on rfl rfl ?_
    refine WOps.p (G.move rfl) rfl ?_
    refine WOps.on rfl rfl ?_
    refine WOps.p (G.idx (o := 0) (j := 1) T.el27 rfl rfl rfl rfl (Nat.le_of_ble_eq_true rfl) : GP _ _ _ _ (.pointer (some ⟨b48, 1, none⟩))) rfl ?_
    refine WOps.on rfl rfl ?_
    refine WOps.r (G.load1 T.one25 rfl (cell_blk (S99.blk 6 rfl) rfl)) rfl ?_
    refine WOps.on rfl rfl ?_
    refine WOps.p (G.eqp_nil Try.underlying25 rfl rfl rfl) rfl ?_
    refine WOps.p (G.pick_f rfl rfl) rfl ?_
    refine WOps.nil ?_
    have S108 : St _ _ _ [[(b96, .cells #[.slice none 0 0, .slice none 0 0, .slice none 0 0, .slice none 0 0, .slice none 0 0] 35 (0, 0))], [(b90, .cells #[.pointer (some ⟨p59, 0, none⟩), .pointer (some ⟨p77, 0, none⟩)] 28 (0, 0))], [(p77, .cells #[.slice A84 t72.L.length c85, .int .i64 t72.Time] 135 (0, 0))], [(p59, .cells #[.slice A66 t54.L.length c67, .int .i64 t54.Time] 135 (0, 0))], [(b48, .cells #[.pointer (some ⟨p17, 0, none⟩), .pointer (some ⟨p35, 0, none⟩)] 25 (0, 0))], [(p35, .cells #[.slice A42 t30.flying.length c43, .int .i64 t30.time] 133 (0, 0))], [(p17, .cells #[.slice A24 t12.flying.length c25, .int .i64 t12.time] 133 (0, 0))], G86, G68, G44, G26] := St.reord S99 [0, 1, 2, 4, 6, 7, 9, 3, 5, 8, 10] 11 rfl (by decide) rfl
    refine WEx.cutend _ ?_ ⟨k, false, rfl, hF, S108⟩
    exact ⟨rfl, rfl, rfl, rfl, rfl, trivial⟩
   ·
    refine WOps.off rfl (kbl (b := !t7) rfl (show (!t7) = true from by rw [(Bool.eq_false_iff.2 h107)]; rfl)) rfl rfl ?_
    refine WOps.off rfl (kbl (b := !t7) rfl (show (!t7) = true from by rw [(Bool.eq_false_iff.2 h107)]; rfl)) rfl rfl ?_
    refine WOps.off rfl (kbl (b := !t7) rfl (show (!t7) = true from by rw [(Bool.eq_false_iff.2 h107)]; rfl)) rfl rfl ?_
    refine WOps.off rfl (kbl (b := !t7) rfl (show (!t7) = true from by rw [(Bool.eq_false_iff.2 h107)]; rfl)) rfl rfl ?_
    refine WOps.p (G.pick_t (kb (b := !t7) rfl (show (!t7) = true from by rw [(Bool.eq_false_iff.2 h107)]; rfl)) rfl) rfl ?_
    refine WOps.p (G.move rfl) rfl ?_
    refine WOps.off rfl rfl rfl rfl ?_
    refine WOps.off rfl rfl rfl rfl ?_
    refine WOps.off rfl rfl rfl rfl ?_
    refine WOps.off rfl rfl rfl rfl ?_
    refine WOps.p (G.pick_t rfl rfl) rfl ?_
    refine WOps.nil ?_
    have S109 : St _ _ _ [[(b96, .cells #[.slice none 0 0, .slice none 0 0, .slice none 0 0, .slice none 0 0, .slice none 0 0] 35 (0, 0))], [(b90, .cells #[.pointer (some ⟨p59, 0, none⟩), .pointer (some ⟨p77, 0, none⟩)] 28 (0, 0))], [(p77, .cells #[.slice A84 t72.L.length c85, .int .i64 t72.Time] 135 (0, 0))], [(p59, .cells #[.slice A66 t54.L.length c67, .int .i64 t54.Time] 135 (0, 0))], [(b48, .cells #[.pointer (some ⟨p17, 0, none⟩), .pointer (some ⟨p35, 0, none⟩)] 25 (0, 0))], [(p35, .cells #[.slice A42 t30.flying.length c43, .int .i64 t30.time] 133 (0, 0))], [(p17, .cells #[.slice A24 t12.flying.length c25, .int .i64 t12.time] 133 (0, 0))], G86, G68, G44, G26] := St.reord S99 [0, 1, 2, 4, 6, 7, 9, 3, 5, 8, 10] 11 rfl (by decide) rfl
    refine WEx.cutend _ ?_ ⟨k, true, rfl, hF, S109⟩
    exact ⟨rfl, rfl, rfl, rfl, rfl, trivial⟩
  ·
   rintro _ w103 ⟨q105, b102, rfl, hF, S104⟩
   unfold law_Plays3.j1 at hF
   rcases ite_some hF with ⟨h110, hF⟩ | ⟨h110, hF⟩
   ·
    refine WCode.cond_t (kb (b := b102) rfl h110) ?_
    refine WCode.seq ?_
    refine WCode.region ?_
    refine WOps.p (G.assign rfl) rfl ?_
    refine WOps.nil ?_
    refine WEx.then_ ?_
    refine WCode.ret ?_
    refine WEx.then_ret ?_
    obtain rfl := some_eq hF
    refine WEx.ret1 rfl rfl ?_
    exact ⟨rfl, St.keep (As := []) S104⟩
   ·
    refine WCode.cond_f (kb (b := b102) rfl (Bool.eq_false_iff.2 h110)) ?_
    refine WCode.skip ?_
    refine WEx.then_ ?_
    refine WCode.cutseq (fun l_ w_ => ∃ q162 : Nat, ∃ A111 : Option Addr, ∃ c112 : Nat, ∃ l113 : List (List Packet), ∃ G114 : Grp, ∃ A116 : Option Addr, ∃ c117 : Nat, ∃ l118 : List (List Packet), ∃ G119 : Grp, ∃ A121 : Option Addr, ∃ c122 : Nat, ∃ l123 : List (List Packet), ∃ G124 : Grp, ∃ A126 : Option Addr, ∃ c127 : Nat, ∃ l128 : List (List Packet), ∃ G129 : Grp, ∃ A131 : Option Addr, ∃ c132 : Nat, ∃ l133 : List Int, ∃ G134 : Grp, ∃ A136 : Option Addr, ∃ c137 : Nat, ∃ l138 : List Packet, ∃ G139 : Grp, ∃ x141 : Int, ∃ A142 : Option Addr, ∃ c143 : Nat, ∃ l144 : List Packet, ∃ G145 : Grp, ∃ x147 : Int, ∃ A148 : Option Addr, ∃ c149 : Nat, ∃ l150 : List Packet, ∃ G151 : Grp, ∃ x153 : Int, ∃ A154 : Option Addr, ∃ c155 : Nat, ∃ l156 : List Packet, ∃ G157 : Grp, ∃ x159 : Int, l_ = [(4, .slice (some ⟨b48, 0, none⟩) ([0, 0] : List Int).length 2), (5, .slice (some ⟨b90, 0, none⟩) ([0, 0] : List Int).length 2), (6, .pointer (some ⟨b96, 0, none⟩))] ∧ law_Plays3.j2 q162 l113 l118 l123 l128 l133 l138 x141 l144 x147 l150 x153 l156 x159 = some r_ ∧ (SlO 43 (Rp.slice 37 Packet.rp) (.slice A111 l113.length c112) l113 G114) ∧ (PoolO 43 37 Packet.rp A116 c117 l118 G119) ∧ (PoolO 43 37 Packet.rp A121 c122 l123 G124) ∧ (PoolO 43 37 Packet.rp A126 c127 l128 G129) ∧ (SlO 3 (Rp.int .i64) (.slice A131 l133.length c132) l133 G134) ∧ (SlO 37 Packet.rp (.slice A136 l138.length c137) l138 G139) ∧ (SlO 37 Packet.rp (.slice A142 l144.length c143) l144 G145) ∧ (SlO 37 Packet.rp (.slice A148 l150.length c149) l150 G151) ∧ (SlO 37 Packet.rp (.slice A154 l156.length c155) l156 G157) ∧ St w (KS []) w_ [[(b96, .cells #[.slice A111 l113.length c112, .slice A116 l118.length c117, .slice A121 l123.length c122, .slice A126 l128.length c127, .slice A131 l133.length c132] 35 (0, 0))], [(b90, .cells #[.pointer (some ⟨p59, 0, none⟩), .pointer (some ⟨p77, 0, none⟩)] 28 (0, 0))], [(p77, .cells #[.slice A136 l138.length c137, .int .i64 x141] 135 (0, 0))], [(p59, .cells #[.slice A142 l144.length c143, .int .i64 x147] 135 (0, 0))], [(b48, .cells #[.pointer (some ⟨p17, 0, none⟩), .pointer (some ⟨p35, 0, none⟩)] 25 (0, 0))], [(p35, .cells #[.slice A148 l150.length c149, .int .i64 x153] 133 (0, 0))], [(p17, .cells #[.slice A154 l156.length c155, .int .i64 x159] 133 (0, 0))], G114, G119, G124, G129, G134, G139, G145, G151, G157]) ?_ ?_
    ·
     refine WCode.seq ?_
     refine WCode.region ?_
     refine WOps.p (G.assign rfl) rfl ?_
     refine WOps.nil ?_
     refine WEx.then_ ?_
     refine WCode.block ?_
     have S218 := S104.emp
     have S220 := S218.emp
     have S221 := S220.emp
     have S222 := S221.emp
     have S223 := S222.emp
     have S225 : St _ _ _ [[(b96, .cells #[.slice none 0 0, .slice none 0 0, .slice none 0 0, .slice none 0 0, .slice none 0 0] 35 (0, 0))], [(b90, .cells #[.pointer (some ⟨p59, 0, none⟩), .pointer (some ⟨p77, 0, none⟩)] 28 (0, 0))], [(p77, .cells #[.slice A84 t72.L.length c85, .int .i64 t72.Time] 135 (0, 0))], [(p59, .cells #[.slice A66 t54.L.length c67, .int .i64 t54.Time] 135 (0, 0))], [(b48, .cells #[.pointer (some ⟨p17, 0, none⟩), .pointer (some ⟨p35, 0, none⟩)] 25 (0, 0))], [(p35, .cells #[.slice A42 t30.flying.length c43, .int .i64 t30.time] 133 (0, 0))], [(p17, .cells #[.slice A24 t12.flying.length c25, .int .i64 t12.time] 133 (0, 0))], ([] : Grp), ([] : Grp), ([] : Grp), ([] : Grp), ([] : Grp), G86, G68, G44, G26] := St.reord S223 [5, 6, 7, 8, 9, 10, 11, 4, 3, 2, 1, 0, 12, 13, 14, 15] 16 rfl (by decide) rfl
     refine WCode.forget (l' := [(0, .slice A0 a0.length c0), (4, .slice (some ⟨b48, 0, none⟩) ([0, 0] : List Int).length 2), (5, .slice (some ⟨b90, 0, none⟩) ([0, 0] : List Int).length 2), (6, .pointer (some ⟨b96, 0, none⟩)), (7, .int .i64 0)]) ⟨rfl, rfl, rfl, rfl, rfl, trivial⟩ ?_
     refine WCode.loop (fun n_ l_ w_ => ∃ x164 : Int, ∃ A165 : Option Addr, ∃ c166 : Nat, ∃ l167 : List (List Packet), ∃ G168 : Grp, ∃ A170 : Option Addr, ∃ c171 : Nat, ∃ l172 : List (List Packet), ∃ G173 : Grp, ∃ A175 : Option Addr, ∃ c176 : Nat, ∃ l177 : List (List Packet), ∃ G178 : Grp, ∃ A180 : Option Addr, ∃ c181 : Nat, ∃ l182 : List (List Packet), ∃ G183 : Grp, ∃ A185 : Option Addr, ∃ c186 : Nat, ∃ l187 : List Int, ∃ G188 : Grp, ∃ A190 : Option Addr, ∃ c191 : Nat, ∃ l192 : List Packet, ∃ G193 : Grp, ∃ x195 : Int, ∃ A196 : Option Addr, ∃ c197 : Nat, ∃ l198 : List Packet, ∃ G199 : Grp, ∃ x201 : Int, ∃ A202 : Option Addr, ∃ c203 : Nat, ∃ l204 : List Packet, ∃ G205 : Grp, ∃ x207 : Int, ∃ A208 : Option Addr, ∃ c209 : Nat, ∃ l210 : List Packet, ∃ G211 : Grp, ∃ x213 : Int, l_ = [(0, .slice A0 a0.length c0), (4, .slice (some ⟨b48, 0, none⟩) ([0, 0] : List Int).length 2), (5, .slice (some ⟨b90, 0, none⟩) ([0, 0] : List Int).length 2), (6, .pointer (some ⟨b96, 0, none⟩)), (7, .int .i64 x164)] ∧ law_Plays3.l1 n_ a0 x164 l167 l172 l177 l182 l187 l192 x195 l198 x201 l204 x207 l210 x213 = some r_ ∧ (SlO 43 (Rp.slice 37 Packet.rp) (.slice A165 l167.length c166) l167 G168) ∧ (PoolO 43 37 Packet.rp A170 c171 l172 G173) ∧ (PoolO 43 37 Packet.rp A175 c176 l177 G178) ∧ (PoolO 43 37 Packet.rp A180 c181 l182 G183) ∧ (SlO 3 (Rp.int .i64) (.slice A185 l187.length c186) l187 G188) ∧ (SlO 37 Packet.rp (.slice A190 l192.length c191) l192 G193) ∧ (SlO 37 Packet.rp (.slice A196 l198.length c197) l198 G199) ∧ (SlO 37 Packet.rp (.slice A202 l204.length c203) l204 G205) ∧ (SlO 37 Packet.rp (.slice A208 l210.length c209) l210 G211) ∧ St w (KS []) w_ [[(b96, .cells #[.slice A165 l167.length c166, .slice A170 l172.length c171, .slice A175 l177.length c176, .slice A180 l182.length c181, .slice A185 l187.length c186] 35 (0, 0))], [(b90, .cells #[.pointer (some ⟨p59, 0, none⟩), .pointer (some ⟨p77, 0, none⟩)] 28 (0, 0))], [(p77, .cells #[.slice A190 l192.length c191, .int .i64 x195] 135 (0, 0))], [(p59, .cells #[.slice A196 l198.length c197, .int .i64 x201] 135 (0, 0))], [(b48, .cells #[.pointer (some ⟨p17, 0, none⟩), .pointer (some ⟨p35, 0, none⟩)] 25 (0, 0))], [(p35, .cells #[.slice A202 l204.length c203, .int .i64 x207] 133 (0, 0))], [(p17, .cells #[.slice A208 l210.length c209, .int .i64 x213] 133 (0, 0))], G168, G173, G178, G183, G188, G193, G199, G205, G211]) q105 ⟨0, none, 0, [], ([] : Grp), none, 0, ([] : List (List Packet)), ([] : Grp), none, 0, ([] : List (List Packet)), ([] : Grp), none, 0, ([] : List (List Packet)), ([] : Grp), none, 0, [], ([] : Grp), A84, c85, t72.L, G86, t72.Time, A66, c67, t54.L, G68, t54.Time, A42, c43, t30.flying, G44, t30.time, A24, c25, t12.flying, G26, t12.time, rfl, hF, (SlO.nil 43 (Rp.slice 37 Packet.rp)), (PoolO.nil (e := 43) (e' := 37) (r := Packet.rp)), (PoolO.nil (e := 43) (e' := 37) (r := Packet.rp)), (PoolO.nil (e := 43) (e' := 37) (r := Packet.rp)), (SlO.nil 3 (Rp.int .i64)), hO87, hO69, hO45, hO27, S225⟩ ?_
     rintro n217 _ w214 ⟨x164, A165, c166, l167, G168, A170, c171, l172, G173, A175, c176, l177, G178, A180, c181, l182, G183, A185, c186, l187, G188, A190, c191, l192, G193, x195, A196, c197, l198, G199, x201, A202, c203, l204, G205, x207, A208, c209, l210, G211, x213, rfl, hF, hO169, hO174, hO179, hO184, hO189, hO194, hO200, hO206, hO212, S215⟩
     obtain _ | k216 := n217
     · exact nomatch (show (none : Option Bool) = some r_ from hF)
     rw [law_Plays3.l1] at hF
     refine WCode.seq ?_
     refine WCode.seq ?_
     refine WCode.region ?_
     refine WOps.p (G.move rfl) rfl ?_
     refine WOps.p (G.move rfl) rfl ?_
     refine WOps.p (G.len T.el22 rfl) rfl ?_
     refine WOps.p (G.lss rfl rfl rfl) rfl ?_
     refine WOps.nil ?_
     refine WEx.then_ ?_
     rcases ite_some hF with ⟨h227, hF⟩ | ⟨h227, hF⟩
     ·
      refine WCode.cond_t (kb (b := decide (x164 < (a0.length : Int))) rfl (decide_eq_true h227)) ?_
      refine WCode.skip ?_
      refine WEx.then_ ?_
      refine WCode.seq ?_
      refine WCode.block ?_
      refine WCode.seq ?_
      refine WCode.region ?_
      refine WOps.p (G.move rfl) rfl ?_
      refine WOps.p (G.move rfl) rfl ?_
      obtain ⟨x228, hc229, hF⟩ := bind_some hF
      obtain ⟨j230, ej231, hj232, hl233⟩ := idx_spec hc229
      obtain ⟨b234, o235, cs236, eA237, hf238, hc239, hr240⟩ := SlR.at_ (hR0.ext (S215.keepF hF0)) hj232
      have hq241 : cs236 = [.int .i64 x228.Kind, .int .i64 x228.On, .int .i64 x228.N, .int .i64 x228.Many, .int .i64 x228.P.From, .int .i64 x228.P.To, .string (bs x228.P.Data)] := hr240
      subst hq241
      change cellsAt _ _ (o235 + j230 * 7) [.int .i64 x228.Kind, .int .i64 x228.On, .int .i64 x228.N, .int .i64 x228.Many, .int .i64 x228.P.From, .int .i64 x228.P.To, .string (bs x228.P.Data)] at hc239
      refine WOps.p (G.idx T.el22 rfl eA237 rfl ej231 hl233) rfl ?_
      refine WOps.r (G.loada T.agg39_7 rfl (cs := [.int .i64 x228.Kind, .int .i64 x228.On, .int .i64 x228.N, .int .i64 x228.Many, .int .i64 x228.P.From, .int .i64 x228.P.To, .string (bs x228.P.Data)]) hc239) rfl ?_
      obtain ⟨b242, w243, E244, S245, X246, L247⟩ := St.var S215 (z := .agg #[.int .i64 0, .int .i64 0, .int .i64 0, .int .i64 0, .int .i64 0, .int .i64 0, .string (bs ([] : List UInt8))]) T.zero39
      have c248 := hc239.ext X246
      change St _ _ _ [[(b242, .cells #[.int .i64 0, .int .i64 0, .int .i64 0, .int .i64 0, .int .i64 0, .int .i64 0, .string (bs ([] : List UInt8))] 39 (0, 0))], [(b96, .cells #[.slice A165 l167.length c166, .slice A170 l172.length c171, .slice A175 l177.length c176, .slice A180 l182.length c181, .slice A185 l187.length c186] 35 (0, 0))], [(b90, .cells #[.pointer (some ⟨p59, 0, none⟩), .pointer (some ⟨p77, 0, none⟩)] 28 (0, 0))], [(p77, .cells #[.slice A190 l192.length c191, .int .i64 x195] 135 (0, 0))], [(p59, .cells #[.slice A196 l198.length c197, .int .i64 x201] 135 (0, 0))], [(b48, .cells #[.pointer (some ⟨p17, 0, none⟩), .pointer (some ⟨p35, 0, none⟩)] 25 (0, 0))], [(p35, .cells #[.slice A202 l204.length c203, .int .i64 x207] 133 (0, 0))], [(p17, .cells #[.slice A208 l210.length c209, .int .i64 x213] 133 (0, 0))], G168, G173, G178, G183, G188, G193, G199, G205, G211] at S245
      refine WOps.e E244 rfl ?_
      obtain ⟨w249, E250, S251⟩ := St.store (P := Try.prog) S245 0 39 (.agg #[.int .i64 x228.Kind, .int .i64 x228.On, .int .i64 x228.N, .int .i64 x228.Many, .int .i64 x228.P.From, .int .i64 x228.P.To, .string (bs x228.P.Data)]) (off := 0) (cur' := #[.int .i64 x228.Kind, .int .i64 x228.On, .int .i64 x228.N, .int .i64 x228.Many, .int .i64 x228.P.From, .int .i64 x228.P.To, .string (bs x228.P.Data)]) rfl T.size39_7 rfl rfl rfl
      change St _ _ _ [[(b242, .cells #[.int .i64 x228.Kind, .int .i64 x228.On, .int .i64 x228.N, .int .i64 x228.Many, .int .i64 x228.P.From, .int .i64 x228.P.To, .string (bs x228.P.Data)] 39 (0, 0))], [(b96, .cells #[.slice A165 l167.length c166, .slice A170 l172.length c171, .slice A175 l177.length c176, .slice A180 l182.length c181, .slice A185 l187.length c186] 35 (0, 0))], [(b90, .cells #[.pointer (some ⟨p59, 0, none⟩), .pointer (some ⟨p77, 0, none⟩)] 28 (0, 0))], [(p77, .cells #[.slice A190 l192.length c191, .int .i64 x195] 135 (0, 0))], [(p59, .cells #[.slice A196 l198.length c197, .int .i64 x201] 135 (0, 0))], [(b48, .cells #[.pointer (some ⟨p17, 0, none⟩), .pointer (some ⟨p35, 0, none⟩)] 25 (0, 0))], [(p35, .cells #[.slice A202 l204.length c203, .int .i64 x207] 133 (0, 0))], [(p17, .cells #[.slice A208 l210.length c209, .int .i64 x213] 133 (0, 0))], G168, G173, G178, G183, G188, G193, G199, G205, G211] at S251
      refine WOps.u (E250 rfl rfl) ?_
      refine WOps.nil ?_
      refine WEx.then_ ?_
      refine WCode.seq ?_
      refine WCode.region ?_
      refine WOps.p (G.field T.fld39_1 rfl (show 0 + 1 = 1 from rfl)) rfl ?_
      refine WOps.r (G.load1 T.one3 rfl (cell_blk (S251.blk 0 rfl) rfl)) rfl ?_
      obtain ⟨t252, hc253, hF⟩ := bind_some hF
      refine WOps.call T.call16 (evs_cons rfl (evs_cons rfl evs_nil)) rfl ?_
      refine (ypick_calls k216 x228.On 2 hc253).mono ?_
      rintro _ w254 ⟨rfl, T255⟩
      have S256 := St.callN (As := []) S251 T255
      change St _ _ _ [[(b242, .cells #[.int .i64 x228.Kind, .int .i64 x228.On, .int .i64 x228.N, .int .i64 x228.Many, .int .i64 x228.P.From, .int .i64 x228.P.To, .string (bs x228.P.Data)] 39 (0, 0))], [(b96, .cells #[.slice A165 l167.length c166, .slice A170 l172.length c171, .slice A175 l177.length c176, .slice A180 l182.length c181, .slice A185 l187.length c186] 35 (0, 0))], [(b90, .cells #[.pointer (some ⟨p59, 0, none⟩), .pointer (some ⟨p77, 0, none⟩)] 28 (0, 0))], [(p77, .cells #[.slice A190 l192.length c191, .int .i64 x195] 135 (0, 0))], [(p59, .cells #[.slice A196 l198.length c197, .int .i64 x201] 135 (0, 0))], [(b48, .cells #[.pointer (some ⟨p17, 0, none⟩), .pointer (some ⟨p35, 0, none⟩)] 25 (0, 0))], [(p35, .cells #[.slice A202 l204.length c203, .int .i64 x207] 133 (0, 0))], [(p17, .cells #[.slice A208 l210.length c209, .int .i64 x213] 133 (0, 0))], G168, G173, G178, G183, G188, G193, G199, G205, G211] at S256
      refine ⟨_, rfl, ?_⟩
      refine WOps.p (G.assign rfl) rfl ?_
      refine WOps.nil ?_
      refine WEx.then_ ?_
      refine WCode.forget (l' := [(0, .slice A0 a0.length c0), (4, .slice (some ⟨b48, 0, none⟩) ([0, 0] : List Int).length 2), (5, .slice (some ⟨b90, 0, none⟩) ([0, 0] : List Int).length 2), (6, .pointer (some ⟨b96, 0, none⟩)), (7, .int .i64 x164), (8, .pointer (some ⟨b242, 0, none⟩)), (9, .int .i64 t252)]) ⟨rfl, rfl, rfl, rfl, rfl, rfl, rfl, trivial⟩ ?_
      refine WCode.seq ?_
      refine WCode.region ?_
      refine WOps.p (G.assign rfl) rfl ?_
      refine WOps.nil ?_
      refine WEx.then_ ?_
      refine WCode.block ?_
      refine WCode.forget (l' := [(0, .slice A0 a0.length c0), (4, .slice (some ⟨b48, 0, none⟩) ([0, 0] : List Int).length 2), (5, .slice (some ⟨b90, 0, none⟩) ([0, 0] : List Int).length 2), (6, .pointer (some ⟨b96, 0, none⟩)), (7, .int .i64 x164), (8, .pointer (some ⟨b242, 0, none⟩)), (9, .int .i64 t252), (10, .int .i64 0)]) ⟨rfl, rfl, rfl, rfl, rfl, rfl, rfl, rfl, trivial⟩ ?_
      refine WCode.loop (fun n_ l_ w_ => ∃ x257 : Int, ∃ A258 : Option Addr, ∃ c259 : Nat, ∃ l260 : List (List Packet), ∃ G261 : Grp, ∃ A263 : Option Addr, ∃ c264 : Nat, ∃ l265 : List (List Packet), ∃ G266 : Grp, ∃ A268 : Option Addr, ∃ c269 : Nat, ∃ l270 : List (List Packet), ∃ G271 : Grp, ∃ A273 : Option Addr, ∃ c274 : Nat, ∃ l275 : List (List Packet), ∃ G276 : Grp, ∃ A278 : Option Addr, ∃ c279 : Nat, ∃ l280 : List Int, ∃ G281 : Grp, ∃ A283 : Option Addr, ∃ c284 : Nat, ∃ l285 : List Packet, ∃ G286 : Grp, ∃ x288 : Int, ∃ A289 : Option Addr, ∃ c290 : Nat, ∃ l291 : List Packet, ∃ G292 : Grp, ∃ x294 : Int, ∃ A295 : Option Addr, ∃ c296 : Nat, ∃ l297 : List Packet, ∃ G298 : Grp, ∃ x300 : Int, ∃ A301 : Option Addr, ∃ c302 : Nat, ∃ l303 : List Packet, ∃ G304 : Grp, ∃ x306 : Int, l_ = [(0, .slice A0 a0.length c0), (4, .slice (some ⟨b48, 0, none⟩) ([0, 0] : List Int).length 2), (5, .slice (some ⟨b90, 0, none⟩) ([0, 0] : List Int).length 2), (6, .pointer (some ⟨b96, 0, none⟩)), (7, .int .i64 x164), (8, .pointer (some ⟨b242, 0, none⟩)), (9, .int .i64 t252), (10, .int .i64 x257)] ∧ law_Plays3.l2 n_ a0 x164 x228 t252 x257 l260 l265 l270 l275 l280 l285 x288 l291 x294 l297 x300 l303 x306 = some r_ ∧ n_ ≤ k216 ∧ (SlO 43 (Rp.slice 37 Packet.rp) (.slice A258 l260.length c259) l260 G261) ∧ (PoolO 43 37 Packet.rp A263 c264 l265 G266) ∧ (PoolO 43 37 Packet.rp A268 c269 l270 G271) ∧ (PoolO 43 37 Packet.rp A273 c274 l275 G276) ∧ (SlO 3 (Rp.int .i64) (.slice A278 l280.length c279) l280 G281) ∧ (SlO 37 Packet.rp (.slice A283 l285.length c284) l285 G286) ∧ (SlO 37 Packet.rp (.slice A289 l291.length c290) l291 G292) ∧ (SlO 37 Packet.rp (.slice A295 l297.length c296) l297 G298) ∧ (SlO 37 Packet.rp (.slice A301 l303.length c302) l303 G304) ∧ St w (KS []) w_ [[(b242, .cells #[.int .i64 x228.Kind, .int .i64 x228.On, .int .i64 x228.N, .int .i64 x228.Many, .int .i64 x228.P.From, .int .i64 x228.P.To, .string (bs x228.P.Data)] 39 (0, 0))], [(b96, .cells #[.slice A258 l260.length c259, .slice A263 l265.length c264, .slice A268 l270.length c269, .slice A273 l275.length c274, .slice A278 l280.length c279] 35 (0, 0))], [(b90, .cells #[.pointer (some ⟨p59, 0, none⟩), .pointer (some ⟨p77, 0, none⟩)] 28 (0, 0))], [(p77, .cells #[.slice A283 l285.length c284, .int .i64 x288] 135 (0, 0))], [(p59, .cells #[.slice A289 l291.length c290, .int .i64 x294] 135 (0, 0))], [(b48, .cells #[.pointer (some ⟨p17, 0, none⟩), .pointer (some ⟨p35, 0, none⟩)] 25 (0, 0))], [(p35, .cells #[.slice A295 l297.length c296, .int .i64 x300] 133 (0, 0))], [(p17, .cells #[.slice A301 l303.length c302, .int .i64 x306] 133 (0, 0))], G261, G266, G271, G276, G281, G286, G292, G298, G304]) k216 ⟨0, A165, c166, l167, G168, A170, c171, l172, G173, A175, c176, l177, G178, A180, c181, l182, G183, A185, c186, l187, G188, A190, c191, l192, G193, x195, A196, c197, l198, G199, x201, A202, c203, l204, G205, x207, A208, c209, l210, G211, x213, rfl, hF, Nat.le_refl _, hO169, hO174, hO179, hO184, hO189, hO194, hO200, hO206, hO212, S256⟩ ?_
      rintro n310 _ w307 ⟨x257, A258, c259, l260, G261, A263, c264, l265, G266, A268, c269, l270, G271, A273, c274, l275, G276, A278, c279, l280, G281, A283, c284, l285, G286, x288, A289, c290, l291, G292, x294, A295, c296, l297, G298, x300, A301, c302, l303, G304, x306, rfl, hF, hle311, hO262, hO267, hO272, hO277, hO282, hO287, hO293, hO299, hO305, S308⟩
      obtain _ | k309 := n310
      · exact nomatch (show (none : Option Bool) = some r_ from hF)
      rw [law_Plays3.l2] at hF
      refine WCode.seq ?_
      refine WCode.seq ?_
      refine WCode.region ?_
      refine WOps.p (G.move rfl) rfl ?_
      refine WOps.p (G.field T.fld39_3 rfl (show 0 + 3 = 3 from rfl)) rfl ?_
      refine WOps.r (G.load1 T.one3 rfl (cell_blk (S308.blk 0 rfl) rfl)) rfl ?_
      obtain ⟨t312, hc313, hF⟩ := bind_some hF
      refine WOps.call T.call16 (evs_cons rfl (evs_cons rfl evs_nil)) rfl ?_
      refine (ypick_calls k309 x228.Many 1101 hc313).mono ?_
      rintro _ w314 ⟨rfl, T315⟩
      have S316 := St.callN (As := []) S308 T315
      change St _ _ _ [[(b242, .cells #[.int .i64 x228.Kind, .int .i64 x228.On, .int .i64 x228.N, .int .i64 x228.Many, .int .i64 x228.P.From, .int .i64 x228.P.To, .string (bs x228.P.Data)] 39 (0, 0))], [(b96, .cells #[.slice A258 l260.length c259, .slice A263 l265.length c264, .slice A268 l270.length c269, .slice A273 l275.length c274, .slice A278 l280.length c279] 35 (0, 0))], [(b90, .cells #[.pointer (some ⟨p59, 0, none⟩), .pointer (some ⟨p77, 0, none⟩)] 28 (0, 0))], [(p77, .cells #[.slice A283 l285.length c284, .int .i64 x288] 135 (0, 0))], [(p59, .cells #[.slice A289 l291.length c290, .int .i64 x294] 135 (0, 0))], [(b48, .cells #[.pointer (some ⟨p17, 0, none⟩), .pointer (some ⟨p35, 0, none⟩)] 25 (0, 0))], [(p35, .cells #[.slice A295 l297.length c296, .int .i64 x300] 133 (0, 0))], [(p17, .cells #[.slice A301 l303.length c302, .int .i64 x306] 133 (0, 0))], G261, G266, G271, G276, G281, G286, G292, G298, G304] at S316
      refine ⟨_, rfl, ?_⟩
      refine WOps.p (G.leq rfl rfl rfl) rfl ?_
      refine WOps.nil ?_
      refine WEx.then_ ?_
      rcases ite_some hF with ⟨h317, hF⟩ | ⟨h317, hF⟩
      ·
       refine WCode.cond_t (kb (b := decide (x257 ≤ t312)) rfl (decide_eq_true h317)) ?_
       refine WCode.skip ?_
       refine WEx.then_ ?_
       refine WCode.seq ?_
       refine WCode.block ?_
       refine WCode.seq ?_
       refine WCode.draw [⟨0, 0, []⟩, ⟨1, 0, []⟩, ⟨2, 0, []⟩, ⟨3, 0, []⟩, ⟨5, 0, []⟩, ⟨6, 0, []⟩, ⟨7, 0, []⟩, ⟨4, 1, [10, 11]⟩, ⟨8, 1, [10, 11]⟩, ⟨9, 1, [10, 11]⟩, ⟨10, 2, []⟩, ⟨11, 0, []⟩] T.mixed (by kernel_rfl) (by intro _ _ d _ _ h; cases d <;> exact h) rfl (by kernel_rfl) ?_
       have S318 := S316.drew
       generalize w314.drew = w319 at *
       refine WD.p rfl (G.move rfl) rfl ?_
       refine WD.p rfl (G.move rfl) rfl ?_
       refine WD.p rfl (G.move rfl) rfl ?_
       rcases ite_some hF with ⟨h320, hF⟩ | ⟨h320, hF⟩
       ·
        refine WD.p rfl (G.idx (o := 0) (j := 0) T.el27 rfl rfl rfl (show t252 = ((0 : Nat) : Int) from h320) (by decide) : GP _ _ _ _ (.pointer (some ⟨b48, 0, none⟩))) rfl ?_
        refine WD.p rfl (G.move rfl) rfl ?_
        refine WD.p rfl (G.move rfl) rfl ?_
        refine WD.p rfl (G.idx (o := 0) (j := 0) T.el30 rfl rfl rfl (show t252 = ((0 : Nat) : Int) from h320) (by decide) : GP _ _ _ _ (.pointer (some ⟨b90, 0, none⟩))) rfl ?_
        refine WD.r rfl (G.load1 T.one25 rfl (cell_blk (S318.blk 5 rfl) rfl)) rfl ?_
        refine WD.r rfl (G.load1 T.one28 rfl (cell_blk (S318.blk 2 rfl) rfl)) rfl ?_
        refine WD.r rfl (G.loada T.agg39_7 rfl (cs := [.int .i64 x228.Kind, .int .i64 x228.On, .int .i64 x228.N, .int .i64 x228.Many, .int .i64 x228.P.From, .int .i64 x228.P.To, .string (bs x228.P.Data)]) (cellsAt.of_blk (S318.blk 0 rfl) rfl)) rfl ?_
        have S321 : St _ _ _ [[(b96, .cells #[.slice A258 l260.length c259, .slice A263 l265.length c264, .slice A268 l270.length c269, .slice A273 l275.length c274, .slice A278 l280.length c279] 35 (0, 0))], G261, G266, G271, G276, G281, [(b242, .cells #[.int .i64 x228.Kind, .int .i64 x228.On, .int .i64 x228.N, .int .i64 x228.Many, .int .i64 x228.P.From, .int .i64 x228.P.To, .string (bs x228.P.Data)] 39 (0, 0))], [(b90, .cells #[.pointer (some ⟨p59, 0, none⟩), .pointer (some ⟨p77, 0, none⟩)] 28 (0, 0))], [(p77, .cells #[.slice A283 l285.length c284, .int .i64 x288] 135 (0, 0))], [(p59, .cells #[.slice A289 l291.length c290, .int .i64 x294] 135 (0, 0))], [(b48, .cells #[.pointer (some ⟨p17, 0, none⟩), .pointer (some ⟨p35, 0, none⟩)] 25 (0, 0))], [(p35, .cells #[.slice A295 l297.length c296, .int .i64 x300] 133 (0, 0))], [(p17, .cells #[.slice A301 l303.length c302, .int .i64 x306] 133 (0, 0))], G286, G292, G298, G304] := St.reord S318 [1, 8, 9, 10, 11, 12, 0, 2, 3, 4, 5, 6, 7, 13, 14, 15, 16] 17 rfl (by decide) rfl
        have hO322 : ObjO 35 BookA.rp b96 (⟨l260, l265, l270, l275, l280⟩ : BookA) ([(b96, .cells #[.slice A258 l260.length c259, .slice A263 l265.length c264, .slice A268 l270.length c269, .slice A273 l275.length c274, .slice A278 l280.length c279] 35 (0, 0))] ++ (G261 ++ (G266 ++ (G271 ++ (G276 ++ (G281)))))) := ⟨_, _, ⟨A258, c259, G261, A263, c264, G266, A268, c269, G271, A273, c274, G276, A278, c279, G281, rfl, hO262, hO267, hO272, hO277, hO282, rfl⟩, rfl⟩
        have S323 : St _ _ _ [[(b96, .cells #[.slice A258 l260.length c259, .slice A263 l265.length c264, .slice A268 l270.length c269, .slice A273 l275.length c274, .slice A278 l280.length c279] 35 (0, 0))] ++ (G261 ++ (G266 ++ (G271 ++ (G276 ++ (G281))))), [(b242, .cells #[.int .i64 x228.Kind, .int .i64 x228.On, .int .i64 x228.N, .int .i64 x228.Many, .int .i64 x228.P.From, .int .i64 x228.P.To, .string (bs x228.P.Data)] 39 (0, 0))], [(b90, .cells #[.pointer (some ⟨p59, 0, none⟩), .pointer (some ⟨p77, 0, none⟩)] 28 (0, 0))], [(p77, .cells #[.slice A283 l285.length c284, .int .i64 x288] 135 (0, 0))], [(p59, .cells #[.slice A289 l291.length c290, .int .i64 x294] 135 (0, 0))], [(b48, .cells #[.pointer (some ⟨p17, 0, none⟩), .pointer (some ⟨p35, 0, none⟩)] 25 (0, 0))], [(p35, .cells #[.slice A295 l297.length c296, .int .i64 x300] 133 (0, 0))], [(p17, .cells #[.slice A301 l303.length c302, .int .i64 x306] 133 (0, 0))], G286, G292, G298, G304] := S321.objs (by simp)
        have S324 := (S323.front 11 rfl).front 8 rfl
        change St _ _ _ [[(p17, .cells #[.slice A301 l303.length c302, .int .i64 x306] 133 (0, 0))], G304, [(b96, .cells #[.slice A258 l260.length c259, .slice A263 l265.length c264, .slice A268 l270.length c269, .slice A273 l275.length c274, .slice A278 l280.length c279] 35 (0, 0))] ++ (G261 ++ (G266 ++ (G271 ++ (G276 ++ (G281))))), [(b242, .cells #[.int .i64 x228.Kind, .int .i64 x228.On, .int .i64 x228.N, .int .i64 x228.Many, .int .i64 x228.P.From, .int .i64 x228.P.To, .string (bs x228.P.Data)] 39 (0, 0))], [(b90, .cells #[.pointer (some ⟨p59, 0, none⟩), .pointer (some ⟨p77, 0, none⟩)] 28 (0, 0))], [(p77, .cells #[.slice A283 l285.length c284, .int .i64 x288] 135 (0, 0))], [(p59, .cells #[.slice A289 l291.length c290, .int .i64 x294] 135 (0, 0))], [(b48, .cells #[.pointer (some ⟨p17, 0, none⟩), .pointer (some ⟨p35, 0, none⟩)] 25 (0, 0))], [(p35, .cells #[.slice A295 l297.length c296, .int .i64 x300] 133 (0, 0))], G286, G292, G298] at S324
        have hO325 : ObjO 133 Air.rp p17 (⟨l303, x306⟩ : Air) ([(p17, .cells #[.slice A301 l303.length c302, .int .i64 x306] 133 (0, 0))] ++ (G304)) := ⟨_, _, ⟨A301, c302, G304, rfl, hO305, rfl⟩, rfl⟩
        have S326 : St _ _ _ [[(p17, .cells #[.slice A301 l303.length c302, .int .i64 x306] 133 (0, 0))] ++ (G304), [(b96, .cells #[.slice A258 l260.length c259, .slice A263 l265.length c264, .slice A268 l270.length c269, .slice A273 l275.length c274, .slice A278 l280.length c279] 35 (0, 0))] ++ (G261 ++ (G266 ++ (G271 ++ (G276 ++ (G281))))), [(b242, .cells #[.int .i64 x228.Kind, .int .i64 x228.On, .int .i64 x228.N, .int .i64 x228.Many, .int .i64 x228.P.From, .int .i64 x228.P.To, .string (bs x228.P.Data)] 39 (0, 0))], [(b90, .cells #[.pointer (some ⟨p59, 0, none⟩), .pointer (some ⟨p77, 0, none⟩)] 28 (0, 0))], [(p77, .cells #[.slice A283 l285.length c284, .int .i64 x288] 135 (0, 0))], [(p59, .cells #[.slice A289 l291.length c290, .int .i64 x294] 135 (0, 0))], [(b48, .cells #[.pointer (some ⟨p17, 0, none⟩), .pointer (some ⟨p35, 0, none⟩)] 25 (0, 0))], [(p35, .cells #[.slice A295 l297.length c296, .int .i64 x300] 133 (0, 0))], G286, G292, G298] := S324.objs (by simp)
        have S327 := (S326.front 9 rfl).front 6 rfl
        change St _ _ _ [[(p59, .cells #[.slice A289 l291.length c290, .int .i64 x294] 135 (0, 0))], G292, [(p17, .cells #[.slice A301 l303.length c302, .int .i64 x306] 133 (0, 0))] ++ (G304), [(b96, .cells #[.slice A258 l260.length c259, .slice A263 l265.length c264, .slice A268 l270.length c269, .slice A273 l275.length c274, .slice A278 l280.length c279] 35 (0, 0))] ++ (G261 ++ (G266 ++ (G271 ++ (G276 ++ (G281))))), [(b242, .cells #[.int .i64 x228.Kind, .int .i64 x228.On, .int .i64 x228.N, .int .i64 x228.Many, .int .i64 x228.P.From, .int .i64 x228.P.To, .string (bs x228.P.Data)] 39 (0, 0))], [(b90, .cells #[.pointer (some ⟨p59, 0, none⟩), .pointer (some ⟨p77, 0, none⟩)] 28 (0, 0))], [(p77, .cells #[.slice A283 l285.length c284, .int .i64 x288] 135 (0, 0))], [(b48, .cells #[.pointer (some ⟨p17, 0, none⟩), .pointer (some ⟨p35, 0, none⟩)] 25 (0, 0))], [(p35, .cells #[.slice A295 l297.length c296, .int .i64 x300] 133 (0, 0))], G286, G298] at S327
        have hO328 : ObjO 135 Air135.rp p59 (⟨l291, x294⟩ : Air135) ([(p59, .cells #[.slice A289 l291.length c290, .int .i64 x294] 135 (0, 0))] ++ (G292)) := ⟨_, _, ⟨A289, c290, G292, rfl, hO293, rfl⟩, rfl⟩
        have S329 : St _ _ _ [[(p59, .cells #[.slice A289 l291.length c290, .int .i64 x294] 135 (0, 0))] ++ (G292), [(p17, .cells #[.slice A301 l303.length c302, .int .i64 x306] 133 (0, 0))] ++ (G304), [(b96, .cells #[.slice A258 l260.length c259, .slice A263 l265.length c264, .slice A268 l270.length c269, .slice A273 l275.length c274, .slice A278 l280.length c279] 35 (0, 0))] ++ (G261 ++ (G266 ++ (G271 ++ (G276 ++ (G281))))), [(b242, .cells #[.int .i64 x228.Kind, .int .i64 x228.On, .int .i64 x228.N, .int .i64 x228.Many, .int .i64 x228.P.From, .int .i64 x228.P.To, .string (bs x228.P.Data)] 39 (0, 0))], [(b90, .cells #[.pointer (some ⟨p59, 0, none⟩), .pointer (some ⟨p77, 0, none⟩)] 28 (0, 0))], [(p77, .cells #[.slice A283 l285.length c284, .int .i64 x288] 135 (0, 0))], [(b48, .cells #[.pointer (some ⟨p17, 0, none⟩), .pointer (some ⟨p35, 0, none⟩)] 25 (0, 0))], [(p35, .cells #[.slice A295 l297.length c296, .int .i64 x300] 133 (0, 0))], G286, G298] := S327.objs (by simp)
        obtain ⟨t330, hc331, hF⟩ := bind_some hF
        have S332 := (S329.front 1 rfl).front 2 rfl
        change St _ _ _ [[(b96, .cells #[.slice A258 l260.length c259, .slice A263 l265.length c264, .slice A268 l270.length c269, .slice A273 l275.length c274, .slice A278 l280.length c279] 35 (0, 0))] ++ (G261 ++ (G266 ++ (G271 ++ (G276 ++ (G281))))), [(p17, .cells #[.slice A301 l303.length c302, .int .i64 x306] 133 (0, 0))] ++ (G304), [(p59, .cells #[.slice A289 l291.length c290, .int .i64 x294] 135 (0, 0))] ++ (G292), [(b242, .cells #[.int .i64 x228.Kind, .int .i64 x228.On, .int .i64 x228.N, .int .i64 x228.Many, .int .i64 x228.P.From, .int .i64 x228.P.To, .string (bs x228.P.Data)] 39 (0, 0))], [(b90, .cells #[.pointer (some ⟨p59, 0, none⟩), .pointer (some ⟨p77, 0, none⟩)] 28 (0, 0))], [(p77, .cells #[.slice A283 l285.length c284, .int .i64 x288] 135 (0, 0))], [(b48, .cells #[.pointer (some ⟨p17, 0, none⟩), .pointer (some ⟨p35, 0, none⟩)] 25 (0, 0))], [(p35, .cells #[.slice A295 l297.length c296, .int .i64 x300] 133 (0, 0))], G286, G298] at S332
        refine WD.call rfl T.call17 (evs_cons rfl (evs_cons rfl (evs_cons rfl (evs_cons rfl evs_nil)))) rfl ?_
        refine (y_step_calls k309 (⟨l260, l265, l270, l275, l280⟩ : BookA) (⟨l303, x306⟩ : Air) (⟨l291, x294⟩ : Air135) x228 hO322 hO325 hO328 hc331 (St.hpN (As := [[(b96, .cells #[.slice A258 l260.length c259, .slice A263 l265.length c264, .slice A268 l270.length c269, .slice A273 l275.length c274, .slice A278 l280.length c279] 35 (0, 0))] ++ (G261 ++ (G266 ++ (G271 ++ (G276 ++ (G281))))), [(p17, .cells #[.slice A301 l303.length c302, .int .i64 x306] 133 (0, 0))] ++ (G304), [(p59, .cells #[.slice A289 l291.length c290, .int .i64 x294] 135 (0, 0))] ++ (G292)]) S332)).mono ?_
        rintro _ w333 ⟨G336, G338, G340, rfl, hO337, hO339, hO341, T334⟩
        have S335 := St.callN (As := [[(b96, .cells #[.slice A258 l260.length c259, .slice A263 l265.length c264, .slice A268 l270.length c269, .slice A273 l275.length c274, .slice A278 l280.length c279] 35 (0, 0))] ++ (G261 ++ (G266 ++ (G271 ++ (G276 ++ (G281))))), [(p17, .cells #[.slice A301 l303.length c302, .int .i64 x306] 133 (0, 0))] ++ (G304), [(p59, .cells #[.slice A289 l291.length c290, .int .i64 x294] 135 (0, 0))] ++ (G292)]) S332 T334
        change St _ _ _ [G336, G338, G340, [(b242, .cells #[.int .i64 x228.Kind, .int .i64 x228.On, .int .i64 x228.N, .int .i64 x228.Many, .int .i64 x228.P.From, .int .i64 x228.P.To, .string (bs x228.P.Data)] 39 (0, 0))], [(b90, .cells #[.pointer (some ⟨p59, 0, none⟩), .pointer (some ⟨p77, 0, none⟩)] 28 (0, 0))], [(p77, .cells #[.slice A283 l285.length c284, .int .i64 x288] 135 (0, 0))], [(b48, .cells #[.pointer (some ⟨p17, 0, none⟩), .pointer (some ⟨p35, 0, none⟩)] 25 (0, 0))], [(p35, .cells #[.slice A295 l297.length c296, .int .i64 x300] 133 (0, 0))], G286, G298] at S335
        refine ⟨_, rfl, ?_⟩
        obtain ⟨cs342, G343, ho344, hg345⟩ := hO337
        obtain ⟨A346, c347, G348, A350, c351, G352, A354, c355, G356, A358, c359, G360, A362, c363, G364, rfl, hO349, hO353, hO357, hO361, hO365, hq366⟩ := ho344
        have S367 : St _ _ _ [[(b96, .cells #[.slice A346 t330.2.1.free.length c347, .slice A350 t330.2.1.was.length c351, .slice A354 t330.2.1.lists.length c355, .slice A358 t330.2.1.grown.length c359, .slice A362 t330.2.1.whose.length c363] 35 (0, 0))], G348, G352, G356, G360, G364, G338, G340, [(b242, .cells #[.int .i64 x228.Kind, .int .i64 x228.On, .int .i64 x228.N, .int .i64 x228.Many, .int .i64 x228.P.From, .int .i64 x228.P.To, .string (bs x228.P.Data)] 39 (0, 0))], [(b90, .cells #[.pointer (some ⟨p59, 0, none⟩), .pointer (some ⟨p77, 0, none⟩)] 28 (0, 0))], [(p77, .cells #[.slice A283 l285.length c284, .int .i64 x288] 135 (0, 0))], [(b48, .cells #[.pointer (some ⟨p17, 0, none⟩), .pointer (some ⟨p35, 0, none⟩)] 25 (0, 0))], [(p35, .cells #[.slice A295 l297.length c296, .int .i64 x300] 133 (0, 0))], G286, G298] := S335.objs (by rw [hg345, hq366]; simp)
        have S368 := S367.front 6 rfl
        change St _ _ _ [G338, [(b96, .cells #[.slice A346 t330.2.1.free.length c347, .slice A350 t330.2.1.was.length c351, .slice A354 t330.2.1.lists.length c355, .slice A358 t330.2.1.grown.length c359, .slice A362 t330.2.1.whose.length c363] 35 (0, 0))], G348, G352, G356, G360, G364, G340, [(b242, .cells #[.int .i64 x228.Kind, .int .i64 x228.On, .int .i64 x228.N, .int .i64 x228.Many, .int .i64 x228.P.From, .int .i64 x228.P.To, .string (bs x228.P.Data)] 39 (0, 0))], [(b90, .cells #[.pointer (some ⟨p59, 0, none⟩), .pointer (some ⟨p77, 0, none⟩)] 28 (0, 0))], [(p77, .cells #[.slice A283 l285.length c284, .int .i64 x288] 135 (0, 0))], [(b48, .cells #[.pointer (some ⟨p17, 0, none⟩), .pointer (some ⟨p35, 0, none⟩)] 25 (0, 0))], [(p35, .cells #[.slice A295 l297.length c296, .int .i64 x300] 133 (0, 0))], G286, G298] at S368
        obtain ⟨cs369, G370, ho371, hg372⟩ := hO339
        obtain ⟨A373, c374, G375, rfl, hO376, hq377⟩ := ho371
        have S378 : St _ _ _ [[(p17, .cells #[.slice A373 t330.2.2.1.flying.length c374, .int .i64 t330.2.2.1.time] 133 (0, 0))], G375, [(b96, .cells #[.slice A346 t330.2.1.free.length c347, .slice A350 t330.2.1.was.length c351, .slice A354 t330.2.1.lists.length c355, .slice A358 t330.2.1.grown.length c359, .slice A362 t330.2.1.whose.length c363] 35 (0, 0))], G348, G352, G356, G360, G364, G340, [(b242, .cells #[.int .i64 x228.Kind, .int .i64 x228.On, .int .i64 x228.N, .int .i64 x228.Many, .int .i64 x228.P.From, .int .i64 x228.P.To, .string (bs x228.P.Data)] 39 (0, 0))], [(b90, .cells #[.pointer (some ⟨p59, 0, none⟩), .pointer (some ⟨p77, 0, none⟩)] 28 (0, 0))], [(p77, .cells #[.slice A283 l285.length c284, .int .i64 x288] 135 (0, 0))], [(b48, .cells #[.pointer (some ⟨p17, 0, none⟩), .pointer (some ⟨p35, 0, none⟩)] 25 (0, 0))], [(p35, .cells #[.slice A295 l297.length c296, .int .i64 x300] 133 (0, 0))], G286, G298] := S368.objs (by rw [hg372, hq377]; simp)
        have S379 := S378.front 8 rfl
        change St _ _ _ [G340, [(p17, .cells #[.slice A373 t330.2.2.1.flying.length c374, .int .i64 t330.2.2.1.time] 133 (0, 0))], G375, [(b96, .cells #[.slice A346 t330.2.1.free.length c347, .slice A350 t330.2.1.was.length c351, .slice A354 t330.2.1.lists.length c355, .slice A358 t330.2.1.grown.length c359, .slice A362 t330.2.1.whose.length c363] 35 (0, 0))], G348, G352, G356, G360, G364, [(b242, .cells #[.int .i64 x228.Kind, .int .i64 x228.On, .int .i64 x228.N, .int .i64 x228.Many, .int .i64 x228.P.From, .int .i64 x228.P.To, .string (bs x228.P.Data)] 39 (0, 0))], [(b90, .cells #[.pointer (some ⟨p59, 0, none⟩), .pointer (some ⟨p77, 0, none⟩)] 28 (0, 0))], [(p77, .cells #[.slice A283 l285.length c284, .int .i64 x288] 135 (0, 0))], [(b48, .cells #[.pointer (some ⟨p17, 0, none⟩), .pointer (some ⟨p35, 0, none⟩)] 25 (0, 0))], [(p35, .cells #[.slice A295 l297.length c296, .int .i64 x300] 133 (0, 0))], G286, G298] at S379
        obtain ⟨cs380, G381, ho382, hg383⟩ := hO341
        obtain ⟨A384, c385, G386, rfl, hO387, hq388⟩ := ho382
        have S389 : St _ _ _ [[(p59, .cells #[.slice A384 t330.2.2.2.L.length c385, .int .i64 t330.2.2.2.Time] 135 (0, 0))], G386, [(p17, .cells #[.slice A373 t330.2.2.1.flying.length c374, .int .i64 t330.2.2.1.time] 133 (0, 0))], G375, [(b96, .cells #[.slice A346 t330.2.1.free.length c347, .slice A350 t330.2.1.was.length c351, .slice A354 t330.2.1.lists.length c355, .slice A358 t330.2.1.grown.length c359, .slice A362 t330.2.1.whose.length c363] 35 (0, 0))], G348, G352, G356, G360, G364, [(b242, .cells #[.int .i64 x228.Kind, .int .i64 x228.On, .int .i64 x228.N, .int .i64 x228.Many, .int .i64 x228.P.From, .int .i64 x228.P.To, .string (bs x228.P.Data)] 39 (0, 0))], [(b90, .cells #[.pointer (some ⟨p59, 0, none⟩), .pointer (some ⟨p77, 0, none⟩)] 28 (0, 0))], [(p77, .cells #[.slice A283 l285.length c284, .int .i64 x288] 135 (0, 0))], [(b48, .cells #[.pointer (some ⟨p17, 0, none⟩), .pointer (some ⟨p35, 0, none⟩)] 25 (0, 0))], [(p35, .cells #[.slice A295 l297.length c296, .int .i64 x300] 133 (0, 0))], G286, G298] := S379.objs (by rw [hg383, hq388]; simp)
        refine WD.p rfl (G.assign rfl) rfl ?_
        refine WD.nil ?_
        refine WEx.then_ ?_
        refine WCode.forget (l' := [(0, .slice A0 a0.length c0), (4, .slice (some ⟨b48, 0, none⟩) ([0, 0] : List Int).length 2), (5, .slice (some ⟨b90, 0, none⟩) ([0, 0] : List Int).length 2), (6, .pointer (some ⟨b96, 0, none⟩)), (7, .int .i64 x164), (8, .pointer (some ⟨b242, 0, none⟩)), (9, .int .i64 t252), (10, .int .i64 x257), (11, .bool t330.1)]) ⟨rfl, rfl, rfl, rfl, rfl, rfl, rfl, rfl, rfl, trivial⟩ ?_
        refine WCode.seq ?_
        refine WCode.region ?_
        refine WOps.p (G.move rfl) rfl ?_
        refine WOps.p (G.not rfl rfl) rfl ?_
        refine WOps.nil ?_
        refine WEx.then_ ?_
        rcases ite_some hF with ⟨h390, hF⟩ | ⟨h390, hF⟩
        ·
         refine WCode.cond_f (kb (b := !t330.1) rfl (show (!t330.1) = false from by rw [h390]; rfl)) ?_
         refine WCode.skip ?_
         refine WEx.in_normal ?_
         refine WEx.then_ ?_
         refine WCode.region ?_
         refine WOps.p (G.move rfl) rfl ?_
         refine WOps.p (G.add rfl rfl (r := (w64 (x257 + 1))) rfl) rfl ?_
         refine WOps.p (G.assign rfl) rfl ?_
         refine WOps.nil ?_
         have S391 : St _ _ _ [[(b242, .cells #[.int .i64 x228.Kind, .int .i64 x228.On, .int .i64 x228.N, .int .i64 x228.Many, .int .i64 x228.P.From, .int .i64 x228.P.To, .string (bs x228.P.Data)] 39 (0, 0))], [(b96, .cells #[.slice A346 t330.2.1.free.length c347, .slice A350 t330.2.1.was.length c351, .slice A354 t330.2.1.lists.length c355, .slice A358 t330.2.1.grown.length c359, .slice A362 t330.2.1.whose.length c363] 35 (0, 0))], [(b90, .cells #[.pointer (some ⟨p59, 0, none⟩), .pointer (some ⟨p77, 0, none⟩)] 28 (0, 0))], [(p77, .cells #[.slice A283 l285.length c284, .int .i64 x288] 135 (0, 0))], [(p59, .cells #[.slice A384 t330.2.2.2.L.length c385, .int .i64 t330.2.2.2.Time] 135 (0, 0))], [(b48, .cells #[.pointer (some ⟨p17, 0, none⟩), .pointer (some ⟨p35, 0, none⟩)] 25 (0, 0))], [(p35, .cells #[.slice A295 l297.length c296, .int .i64 x300] 133 (0, 0))], [(p17, .cells #[.slice A373 t330.2.2.1.flying.length c374, .int .i64 t330.2.2.1.time] 133 (0, 0))], G348, G352, G356, G360, G364, G286, G386, G298, G375] := St.reord S389 [10, 4, 11, 12, 0, 13, 14, 2, 5, 6, 7, 8, 9, 15, 1, 16, 3] 17 rfl (by decide) rfl
         refine WEx.again _ _ (by omega) ?_ ⟨w64 (x257 + 1), A346, c347, t330.2.1.free, G348, A350, c351, t330.2.1.was, G352, A354, c355, t330.2.1.lists, G356, A358, c359, t330.2.1.grown, G360, A362, c363, t330.2.1.whose, G364, A283, c284, l285, G286, x288, A384, c385, t330.2.2.2.L, G386, t330.2.2.2.Time, A295, c296, l297, G298, x300, A373, c374, t330.2.2.1.flying, G375, t330.2.2.1.time, rfl, hF, (by omega), hO349, hO353, hO357, hO361, hO365, hO287, hO387, hO299, hO376, S391⟩
         exact ⟨rfl, rfl, rfl, rfl, rfl, rfl, rfl, rfl, trivial⟩
        ·
         refine WCode.cond_t (kb (b := !t330.1) rfl (show (!t330.1) = true from by rw [(Bool.eq_false_iff.2 h390)]; rfl)) ?_
         refine WCode.seq ?_
         refine WCode.region ?_
         refine WOps.p (G.assign rfl) rfl ?_
         refine WOps.nil ?_
         refine WEx.then_ ?_
         refine WCode.forget (l' := [(2, .bool false)]) ⟨rfl, trivial⟩ ?_
         refine WCode.ret ?_
         refine WEx.in_ret ?_
         refine WEx.then_ret ?_
         refine WEx.then_ret ?_
         refine WEx.in_ret ?_
         refine WEx.in_ret ?_
         refine WEx.then_ret ?_
         refine WEx.then_ret ?_
         refine WEx.in_ret ?_
         refine WEx.then_ret ?_
         obtain rfl := some_eq hF
         refine WEx.ret1 rfl rfl ?_
         exact ⟨rfl, St.keep (As := []) S389⟩
       ·
        rcases ite_some hF with ⟨h392, hF⟩ | ⟨h392, hF⟩
        ·
         refine WD.p rfl (G.idx (o := 0) (j := 1) T.el27 rfl rfl rfl (show t252 = ((1 : Nat) : Int) from h392) (by decide) : GP _ _ _ _ (.pointer (some ⟨b48, 1, none⟩))) rfl ?_
         refine WD.p rfl (G.move rfl) rfl ?_
         refine WD.p rfl (G.move rfl) rfl ?_
         refine WD.p rfl (G.idx (o := 0) (j := 1) T.el30 rfl rfl rfl (show t252 = ((1 : Nat) : Int) from h392) (by decide) : GP _ _ _ _ (.pointer (some ⟨b90, 1, none⟩))) rfl ?_
         refine WD.r rfl (G.load1 T.one25 rfl (cell_blk (S318.blk 5 rfl) rfl)) rfl ?_
         refine WD.r rfl (G.load1 T.one28 rfl (cell_blk (S318.blk 2 rfl) rfl)) rfl ?_
         refine WD.r rfl (G.loada T.agg39_7 rfl (cs := [.int .i64 x228.Kind, .int .i64 x228.On, .int .i64 x228.N, .int .i64 x228.Many, .int .i64 x228.P.From, .int .i64 x228.P.To, .string (bs x228.P.Data)]) (cellsAt.of_blk (S318.blk 0 rfl) rfl)) rfl ?_
         have S393 : St _ _ _ [[(b96, .cells #[.slice A258 l260.length c259, .slice A263 l265.length c264, .slice A268 l270.length c269, .slice A273 l275.length c274, .slice A278 l280.length c279] 35 (0, 0))], G261, G266, G271, G276, G281, [(b242, .cells #[.int .i64 x228.Kind, .int .i64 x228.On, .int .i64 x228.N, .int .i64 x228.Many, .int .i64 x228.P.From, .int .i64 x228.P.To, .string (bs x228.P.Data)] 39 (0, 0))], [(b90, .cells #[.pointer (some ⟨p59, 0, none⟩), .pointer (some ⟨p77, 0, none⟩)] 28 (0, 0))], [(p77, .cells #[.slice A283 l285.length c284, .int .i64 x288] 135 (0, 0))], [(p59, .cells #[.slice A289 l291.length c290, .int .i64 x294] 135 (0, 0))], [(b48, .cells #[.pointer (some ⟨p17, 0, none⟩), .pointer (some ⟨p35, 0, none⟩)] 25 (0, 0))], [(p35, .cells #[.slice A295 l297.length c296, .int .i64 x300] 133 (0, 0))], [(p17, .cells #[.slice A301 l303.length c302, .int .i64 x306] 133 (0, 0))], G286, G292, G298, G304] := St.reord S318 [1, 8, 9, 10, 11, 12, 0, 2, 3, 4, 5, 6, 7, 13, 14, 15, 16] 17 rfl (by decide) rfl
         have hO394 : ObjO 35 BookA.rp b96 (⟨l260, l265, l270, l275, l280⟩ : BookA) ([(b96, .cells #[.slice A258 l260.length c259, .slice A263 l265.length c264, .slice A268 l270.length c269, .slice A273 l275.length c274, .slice A278 l280.length c279] 35 (0, 0))] ++ (G261 ++ (G266 ++ (G271 ++ (G276 ++ (G281)))))) := ⟨_, _, ⟨A258, c259, G261, A263, c264, G266, A268, c269, G271, A273, c274, G276, A278, c279, G281, rfl, hO262, hO267, hO272, hO277, hO282, rfl⟩, rfl⟩
         have S395 : St _ _ _ [[(b96, .cells #[.slice A258 l260.length c259, .slice A263 l265.length c264, .slice A268 l270.length c269, .slice A273 l275.length c274, .slice A278 l280.length c279] 35 (0, 0))] ++ (G261 ++ (G266 ++ (G271 ++ (G276 ++ (G281))))), [(b242, .cells #[.int .i64 x228.Kind, .int .i64 x228.On, .int .i64 x228.N, .int .i64 x228.Many, .int .i64 x228.P.From, .int .i64 x228.P.To, .string (bs x228.P.Data)] 39 (0, 0))], [(b90, .cells #[.pointer (some ⟨p59, 0, none⟩), .pointer (some ⟨p77, 0, none⟩)] 28 (0, 0))], [(p77, .cells #[.slice A283 l285.length c284, .int .i64 x288] 135 (0, 0))], [(p59, .cells #[.slice A289 l291.length c290, .int .i64 x294] 135 (0, 0))], [(b48, .cells #[.pointer (some ⟨p17, 0, none⟩), .pointer (some ⟨p35, 0, none⟩)] 25 (0, 0))], [(p35, .cells #[.slice A295 l297.length c296, .int .i64 x300] 133 (0, 0))], [(p17, .cells #[.slice A301 l303.length c302, .int .i64 x306] 133 (0, 0))], G286, G292, G298, G304] := S393.objs (by simp)
         have S396 := (S395.front 10 rfl).front 7 rfl
         change St _ _ _ [[(p35, .cells #[.slice A295 l297.length c296, .int .i64 x300] 133 (0, 0))], G298, [(b96, .cells #[.slice A258 l260.length c259, .slice A263 l265.length c264, .slice A268 l270.length c269, .slice A273 l275.length c274, .slice A278 l280.length c279] 35 (0, 0))] ++ (G261 ++ (G266 ++ (G271 ++ (G276 ++ (G281))))), [(b242, .cells #[.int .i64 x228.Kind, .int .i64 x228.On, .int .i64 x228.N, .int .i64 x228.Many, .int .i64 x228.P.From, .int .i64 x228.P.To, .string (bs x228.P.Data)] 39 (0, 0))], [(b90, .cells #[.pointer (some ⟨p59, 0, none⟩), .pointer (some ⟨p77, 0, none⟩)] 28 (0, 0))], [(p77, .cells #[.slice A283 l285.length c284, .int .i64 x288] 135 (0, 0))], [(p59, .cells #[.slice A289 l291.length c290, .int .i64 x294] 135 (0, 0))], [(b48, .cells #[.pointer (some ⟨p17, 0, none⟩), .pointer (some ⟨p35, 0, none⟩)] 25 (0, 0))], [(p17, .cells #[.slice A301 l303.length c302, .int .i64 x306] 133 (0, 0))], G286, G292, G304] at S396
         have hO397 : ObjO 133 Air.rp p35 (⟨l297, x300⟩ : Air) ([(p35, .cells #[.slice A295 l297.length c296, .int .i64 x300] 133 (0, 0))] ++ (G298)) := ⟨_, _, ⟨A295, c296, G298, rfl, hO299, rfl⟩, rfl⟩
         have S398 : St _ _ _ [[(p35, .cells #[.slice A295 l297.length c296, .int .i64 x300] 133 (0, 0))] ++ (G298), [(b96, .cells #[.slice A258 l260.length c259, .slice A263 l265.length c264, .slice A268 l270.length c269, .slice A273 l275.length c274, .slice A278 l280.length c279] 35 (0, 0))] ++ (G261 ++ (G266 ++ (G271 ++ (G276 ++ (G281))))), [(b242, .cells #[.int .i64 x228.Kind, .int .i64 x228.On, .int .i64 x228.N, .int .i64 x228.Many, .int .i64 x228.P.From, .int .i64 x228.P.To, .string (bs x228.P.Data)] 39 (0, 0))], [(b90, .cells #[.pointer (some ⟨p59, 0, none⟩), .pointer (some ⟨p77, 0, none⟩)] 28 (0, 0))], [(p77, .cells #[.slice A283 l285.length c284, .int .i64 x288] 135 (0, 0))], [(p59, .cells #[.slice A289 l291.length c290, .int .i64 x294] 135 (0, 0))], [(b48, .cells #[.pointer (some ⟨p17, 0, none⟩), .pointer (some ⟨p35, 0, none⟩)] 25 (0, 0))], [(p17, .cells #[.slice A301 l303.length c302, .int .i64 x306] 133 (0, 0))], G286, G292, G304] := S396.objs (by simp)
         have S399 := (S398.front 8 rfl).front 5 rfl
         change St _ _ _ [[(p77, .cells #[.slice A283 l285.length c284, .int .i64 x288] 135 (0, 0))], G286, [(p35, .cells #[.slice A295 l297.length c296, .int .i64 x300] 133 (0, 0))] ++ (G298), [(b96, .cells #[.slice A258 l260.length c259, .slice A263 l265.length c264, .slice A268 l270.length c269, .slice A273 l275.length c274, .slice A278 l280.length c279] 35 (0, 0))] ++ (G261 ++ (G266 ++ (G271 ++ (G276 ++ (G281))))), [(b242, .cells #[.int .i64 x228.Kind, .int .i64 x228.On, .int .i64 x228.N, .int .i64 x228.Many, .int .i64 x228.P.From, .int .i64 x228.P.To, .string (bs x228.P.Data)] 39 (0, 0))], [(b90, .cells #[.pointer (some ⟨p59, 0, none⟩), .pointer (some ⟨p77, 0, none⟩)] 28 (0, 0))], [(p59, .cells #[.slice A289 l291.length c290, .int .i64 x294] 135 (0, 0))], [(b48, .cells #[.pointer (some ⟨p17, 0, none⟩), .pointer (some ⟨p35, 0, none⟩)] 25 (0, 0))], [(p17, .cells #[.slice A301 l303.length c302, .int .i64 x306] 133 (0, 0))], G292, G304] at S399
         have hO400 : ObjO 135 Air135.rp p77 (⟨l285, x288⟩ : Air135) ([(p77, .cells #[.slice A283 l285.length c284, .int .i64 x288] 135 (0, 0))] ++ (G286)) := ⟨_, _, ⟨A283, c284, G286, rfl, hO287, rfl⟩, rfl⟩
         have S401 : St _ _ _ [[(p77, .cells #[.slice A283 l285.length c284, .int .i64 x288] 135 (0, 0))] ++ (G286), [(p35, .cells #[.slice A295 l297.length c296, .int .i64 x300] 133 (0, 0))] ++ (G298), [(b96, .cells #[.slice A258 l260.length c259, .slice A263 l265.length c264, .slice A268 l270.length c269, .slice A273 l275.length c274, .slice A278 l280.length c279] 35 (0, 0))] ++ (G261 ++ (G266 ++ (G271 ++ (G276 ++ (G281))))), [(b242, .cells #[.int .i64 x228.Kind, .int .i64 x228.On, .int .i64 x228.N, .int .i64 x228.Many, .int .i64 x228.P.From, .int .i64 x228.P.To, .string (bs x228.P.Data)] 39 (0, 0))], [(b90, .cells #[.pointer (some ⟨p59, 0, none⟩), .pointer (some ⟨p77, 0, none⟩)] 28 (0, 0))], [(p59, .cells #[.slice A289 l291.length c290, .int .i64 x294] 135 (0, 0))], [(b48, .cells #[.pointer (some ⟨p17, 0, none⟩), .pointer (some ⟨p35, 0, none⟩)] 25 (0, 0))], [(p17, .cells #[.slice A301 l303.length c302, .int .i64 x306] 133 (0, 0))], G292, G304] := S399.objs (by simp)
         obtain ⟨t402, hc403, hF⟩ := bind_some hF
         have S404 := (S401.front 1 rfl).front 2 rfl
         change St _ _ _ [[(b96, .cells #[.slice A258 l260.length c259, .slice A263 l265.length c264, .slice A268 l270.length c269, .slice A273 l275.length c274, .slice A278 l280.length c279] 35 (0, 0))] ++ (G261 ++ (G266 ++ (G271 ++ (G276 ++ (G281))))), [(p35, .cells #[.slice A295 l297.length c296, .int .i64 x300] 133 (0, 0))] ++ (G298), [(p77, .cells #[.slice A283 l285.length c284, .int .i64 x288] 135 (0, 0))] ++ (G286), [(b242, .cells #[.int .i64 x228.Kind, .int .i64 x228.On, .int .i64 x228.N, .int .i64 x228.Many, .int .i64 x228.P.From, .int .i64 x228.P.To, .string (bs x228.P.Data)] 39 (0, 0))], [(b90, .cells #[.pointer (some ⟨p59, 0, none⟩), .pointer (some ⟨p77, 0, none⟩)] 28 (0, 0))], [(p59, .cells #[.slice A289 l291.length c290, .int .i64 x294] 135 (0, 0))], [(b48, .cells #[.pointer (some ⟨p17, 0, none⟩), .pointer (some ⟨p35, 0, none⟩)] 25 (0, 0))], [(p17, .cells #[.slice A301 l303.length c302, .int .i64 x306] 133 (0, 0))], G292, G304] at S404
         refine WD.call rfl T.call17 (evs_cons rfl (evs_cons rfl (evs_cons rfl (evs_cons rfl evs_nil)))) rfl ?_
         refine (y_step_calls k309 (⟨l260, l265, l270, l275, l280⟩ : BookA) (⟨l297, x300⟩ : Air) (⟨l285, x288⟩ : Air135) x228 hO394 hO397 hO400 hc403 (St.hpN (As := [[(b96, .cells #[.slice A258 l260.length c259, .slice A263 l265.length c264, .slice A268 l270.length c269, .slice A273 l275.length c274, .slice A278 l280.length c279] 35 (0, 0))] ++ (G261 ++ (G266 ++ (G271 ++ (G276 ++ (G281))))), [(p35, .cells #[.slice A295 l297.length c296, .int .i64 x300] 133 (0, 0))] ++ (G298), [(p77, .cells #[.slice A283 l285.length c284, .int .i64 x288] 135 (0, 0))] ++ (G286)]) S404)).mono ?_
         rintro _ w405 ⟨G408, G410, G412, rfl, hO409, hO411, hO413, T406⟩
         have S407 := St.callN (As := [[(b96, .cells #[.slice A258 l260.length c259, .slice A263 l265.length c264, .slice A268 l270.length c269, .slice A273 l275.length c274, .slice A278 l280.length c279] 35 (0, 0))] ++ (G261 ++ (G266 ++ (G271 ++ (G276 ++ (G281))))), [(p35, .cells #[.slice A295 l297.length c296, .int .i64 x300] 133 (0, 0))] ++ (G298), [(p77, .cells #[.slice A283 l285.length c284, .int .i64 x288] 135 (0, 0))] ++ (G286)]) S404 T406
         change St _ _ _ [G408, G410, G412, [(b242, .cells #[.int .i64 x228.Kind, .int .i64 x228.On, .int .i64 x228.N, .int .i64 x228.Many, .int .i64 x228.P.From, .int .i64 x228.P.To, .string (bs x228.P.Data)] 39 (0, 0))], [(b90, .cells #[.pointer (some ⟨p59, 0, none⟩), .pointer (some ⟨p77, 0, none⟩)] 28 (0, 0))], [(p59, .cells #[.slice A289 l291.length c290, .int .i64 x294] 135 (0, 0))], [(b48, .cells #[.pointer (some ⟨p17, 0, none⟩), .pointer (some ⟨p35, 0, none⟩)] 25 (0, 0))], [(p17, .cells #[.slice A301 l303.length c302, .int .i64 x306] 133 (0, 0))], G292, G304] at S407
         refine ⟨_, rfl, ?_⟩
         obtain ⟨cs414, G415, ho416, hg417⟩ := hO409
         obtain ⟨A418, c419, G420, A422, c423, G424, A426, c427, G428, A430, c431, G432, A434, c435, G436, rfl, hO421, hO425, hO429, hO433, hO437, hq438⟩ := ho416
         have S439 : St _ _ _ [[(b96, .cells #[.slice A418 t402.2.1.free.length c419, .slice A422 t402.2.1.was.length c423, .slice A426 t402.2.1.lists.length c427, .slice A430 t402.2.1.grown.length c431, .slice A434 t402.2.1.whose.length c435] 35 (0, 0))], G420, G424, G428, G432, G436, G410, G412, [(b242, .cells #[.int .i64 x228.Kind, .int .i64 x228.On, .int .i64 x228.N, .int .i64 x228.Many, .int .i64 x228.P.From, .int .i64 x228.P.To, .string (bs x228.P.Data)] 39 (0, 0))], [(b90, .cells #[.pointer (some ⟨p59, 0, none⟩), .pointer (some ⟨p77, 0, none⟩)] 28 (0, 0))], [(p59, .cells #[.slice A289 l291.length c290, .int .i64 x294] 135 (0, 0))], [(b48, .cells #[.pointer (some ⟨p17, 0, none⟩), .pointer (some ⟨p35, 0, none⟩)] 25 (0, 0))], [(p17, .cells #[.slice A301 l303.length c302, .int .i64 x306] 133 (0, 0))], G292, G304] := S407.objs (by rw [hg417, hq438]; simp)
         have S440 := S439.front 6 rfl
         change St _ _ _ [G410, [(b96, .cells #[.slice A418 t402.2.1.free.length c419, .slice A422 t402.2.1.was.length c423, .slice A426 t402.2.1.lists.length c427, .slice A430 t402.2.1.grown.length c431, .slice A434 t402.2.1.whose.length c435] 35 (0, 0))], G420, G424, G428, G432, G436, G412, [(b242, .cells #[.int .i64 x228.Kind, .int .i64 x228.On, .int .i64 x228.N, .int .i64 x228.Many, .int .i64 x228.P.From, .int .i64 x228.P.To, .string (bs x228.P.Data)] 39 (0, 0))], [(b90, .cells #[.pointer (some ⟨p59, 0, none⟩), .pointer (some ⟨p77, 0, none⟩)] 28 (0, 0))], [(p59, .cells #[.slice A289 l291.length c290, .int .i64 x294] 135 (0, 0))], [(b48, .cells #[.pointer (some ⟨p17, 0, none⟩), .pointer (some ⟨p35, 0, none⟩)] 25 (0, 0))], [(p17, .cells #[.slice A301 l303.length c302, .int .i64 x306] 133 (0, 0))], G292, G304] at S440
         obtain ⟨cs441, G442, ho443, hg444⟩ := hO411
         obtain ⟨A445, c446, G447, rfl, hO448, hq449⟩ := ho443
         have S450 : St _ _ _ [[(p35, .cells #[.slice A445 t402.2.2.1.flying.length c446, .int .i64 t402.2.2.1.time] 133 (0, 0))], G447, [(b96, .cells #[.slice A418 t402.2.1.free.length c419, .slice A422 t402.2.1.was.length c423, .slice A426 t402.2.1.lists.length c427, .slice A430 t402.2.1.grown.length c431, .slice A434 t402.2.1.whose.length c435] 35 (0, 0))], G420, G424, G428, G432, G436, G412, [(b242, .cells #[.int .i64 x228.Kind, .int .i64 x228.On, .int .i64 x228.N, .int .i64 x228.Many, .int .i64 x228.P.From, .int .i64 x228.P.To, .string (bs x228.P.Data)] 39 (0, 0))], [(b90, .cells #[.pointer (some ⟨p59, 0, none⟩), .pointer (some ⟨p77, 0, none⟩)] 28 (0, 0))], [(p59, .cells #[.slice A289 l291.length c290, .int .i64 x294] 135 (0, 0))], [(b48, .cells #[.pointer (some ⟨p17, 0, none⟩), .pointer (some ⟨p35, 0, none⟩)] 25 (0, 0))], [(p17, .cells #[.slice A301 l303.length c302, .int .i64 x306] 133 (0, 0))], G292, G304] := S440.objs (by rw [hg444, hq449]; simp)
         have S451 := S450.front 8 rfl
         change St _ _ _ [G412, [(p35, .cells #[.slice A445 t402.2.2.1.flying.length c446, .int .i64 t402.2.2.1.time] 133 (0, 0))], G447, [(b96, .cells #[.slice A418 t402.2.1.free.length c419, .slice A422 t402.2.1.was.length c423, .slice A426 t402.2.1.lists.length c427, .slice A430 t402.2.1.grown.length c431, .slice A434 t402.2.1.whose.length c435] 35 (0, 0))], G420, G424, G428, G432, G436, [(b242, .cells #[.int .i64 x228.Kind, .int .i64 x228.On, .int .i64 x228.N, .int .i64 x228.Many, .int .i64 x228.P.From, .int .i64 x228.P.To, .string (bs x228.P.Data)] 39 (0, 0))], [(b90, .cells #[.pointer (some ⟨p59, 0, none⟩), .pointer (some ⟨p77, 0, none⟩)] 28 (0, 0))], [(p59, .cells #[.slice A289 l291.length c290, .int .i64 x294] 135 (0, 0))], [(b48, .cells #[.pointer (some ⟨p17, 0, none⟩), .pointer (some ⟨p35, 0, none⟩)] 25 (0, 0))], [(p17, .cells #[.slice A301 l303.length c302, .int .i64 x306] 133 (0, 0))], G292, G304] at S451
         obtain ⟨cs452, G453, ho454, hg455⟩ := hO413
         obtain ⟨A456, c457, G458, rfl, hO459, hq460⟩ := ho454
         have S461 : St _ _ _ [[(p77, .cells #[.slice A456 t402.2.2.2.L.length c457, .int .i64 t402.2.2.2.Time] 135 (0, 0))], G458, [(p35, .cells #[.slice A445 t402.2.2.1.flying.length c446, .int .i64 t402.2.2.1.time] 133 (0, 0))], G447, [(b96, .cells #[.slice A418 t402.2.1.free.length c419, .slice A422 t402.2.1.was.length c423, .slice A426 t402.2.1.lists.length c427, .slice A430 t402.2.1.grown.length c431, .slice A434 t402.2.1.whose.length c435] 35 (0, 0))], G420, G424, G428, G432, G436, [(b242, .cells #[.int .i64 x228.Kind, .int .i64 x228.On, .int .i64 x228.N, .int .i64 x228.Many, .int .i64 x228.P.From, .int .i64 x228.P.To, .string (bs x228.P.Data)] 39 (0, 0))], [(b90, .cells #[.pointer (some ⟨p59, 0, none⟩), .pointer (some ⟨p77, 0, none⟩)] 28 (0, 0))], [(p59, .cells #[.slice A289 l291.length c290, .int .i64 x294] 135 (0, 0))], [(b48, .cells #[.pointer (some ⟨p17, 0, none⟩), .pointer (some ⟨p35, 0, none⟩)] 25 (0, 0))], [(p17, .cells #[.slice A301 l303.length c302, .int .i64 x306] 133 (0, 0))], G292, G304] := S451.objs (by rw [hg455, hq460]; simp)
         refine WD.p rfl (G.assign rfl) rfl ?_
         refine WD.nil ?_
         refine WEx.then_ ?_
         refine WCode.forget (l' := [(0, .slice A0 a0.length c0), (4, .slice (some ⟨b48, 0, none⟩) ([0, 0] : List Int).length 2), (5, .slice (some ⟨b90, 0, none⟩) ([0, 0] : List Int).length 2), (6, .pointer (some ⟨b96, 0, none⟩)), (7, .int .i64 x164), (8, .pointer (some ⟨b242, 0, none⟩)), (9, .int .i64 t252), (10, .int .i64 x257), (11, .bool t402.1)]) ⟨rfl, rfl, rfl, rfl, rfl, rfl, rfl, rfl, rfl, trivial⟩ ?_
         refine WCode.seq ?_
         refine WCode.region ?_
         refine WOps.p (G.move rfl) rfl ?_
         refine WOps.p (G.not rfl rfl) rfl ?_
         refine WOps.nil ?_
         refine WEx.then_ ?_
         rcases ite_some hF with ⟨h462, hF⟩ | ⟨h462, hF⟩
         ·
          refine WCode.cond_f (kb (b := !t402.1) rfl (show (!t402.1) = false from by rw [h462]; rfl)) ?_
          refine WCode.skip ?_
          refine WEx.in_normal ?_
          refine WEx.then_ ?_
          refine WCode.region ?_
          refine WOps.p (G.move rfl) rfl ?_
          refine WOps.p (G.add rfl rfl (r := (w64 (x257 + 1))) rfl) rfl ?_
          refine WOps.p (G.assign rfl) rfl ?_
          refine WOps.nil ?_
          have S463 : St _ _ _ [[(b242, .cells #[.int .i64 x228.Kind, .int .i64 x228.On, .int .i64 x228.N, .int .i64 x228.Many, .int .i64 x228.P.From, .int .i64 x228.P.To, .string (bs x228.P.Data)] 39 (0, 0))], [(b96, .cells #[.slice A418 t402.2.1.free.length c419, .slice A422 t402.2.1.was.length c423, .slice A426 t402.2.1.lists.length c427, .slice A430 t402.2.1.grown.length c431, .slice A434 t402.2.1.whose.length c435] 35 (0, 0))], [(b90, .cells #[.pointer (some ⟨p59, 0, none⟩), .pointer (some ⟨p77, 0, none⟩)] 28 (0, 0))], [(p77, .cells #[.slice A456 t402.2.2.2.L.length c457, .int .i64 t402.2.2.2.Time] 135 (0, 0))], [(p59, .cells #[.slice A289 l291.length c290, .int .i64 x294] 135 (0, 0))], [(b48, .cells #[.pointer (some ⟨p17, 0, none⟩), .pointer (some ⟨p35, 0, none⟩)] 25 (0, 0))], [(p35, .cells #[.slice A445 t402.2.2.1.flying.length c446, .int .i64 t402.2.2.1.time] 133 (0, 0))], [(p17, .cells #[.slice A301 l303.length c302, .int .i64 x306] 133 (0, 0))], G420, G424, G428, G432, G436, G458, G292, G447, G304] := St.reord S461 [10, 4, 11, 0, 12, 13, 2, 14, 5, 6, 7, 8, 9, 1, 15, 3, 16] 17 rfl (by decide) rfl
          refine WEx.again _ _ (by omega) ?_ ⟨w64 (x257 + 1), A418, c419, t402.2.1.free, G420, A422, c423, t402.2.1.was, G424, A426, c427, t402.2.1.lists, G428, A430, c431, t402.2.1.grown, G432, A434, c435, t402.2.1.whose, G436, A456, c457, t402.2.2.2.L, G458, t402.2.2.2.Time, A289, c290, l291, G292, x294, A445, c446, t402.2.2.1.flying, G447, t402.2.2.1.time, A301, c302, l303, G304, x306, rfl, hF, (by omega), hO421, hO425, hO429, hO433, hO437, hO459, hO293, hO448, hO305, S463⟩
          exact ⟨rfl, rfl, rfl, rfl, rfl, rfl, rfl, rfl, trivial⟩
         ·
          refine WCode.cond_t (kb (b := !t402.1) rfl (show (!t402.1) = true from by rw [(Bool.eq_false_iff.2 h462)]; rfl)) ?_
          refine WCode.seq ?_
          refine WCode.region ?_
          refine WOps.p (G.assign rfl) rfl ?_
          refine WOps.nil ?_
          refine WEx.then_ ?_
          refine WCode.forget (l' := [(2, .bool false)]) ⟨rfl, trivial⟩ ?_
          refine WCode.ret ?_
          refine WEx.in_ret ?_
          refine WEx.then_ret ?_
          refine WEx.then_ret ?_
          refine WEx.in_ret ?_
          refine WEx.in_ret ?_
          refine WEx.then_ret ?_
          refine WEx.then_ret ?_
          refine WEx.in_ret ?_
          refine WEx.then_ret ?_
          obtain rfl := some_eq hF
          refine WEx.ret1 rfl rfl ?_
          exact ⟨rfl, St.keep (As := []) S461⟩
        ·
         exact nomatch (show (none : Option Bool) = some r_ from hF)
      ·
       refine WCode.cond_f (kb (b := decide (x257 ≤ t312)) rfl (decide_eq_false h317)) ?_
       refine WCode.exit ?_
       refine WEx.then_exit ?_
       refine WEx.then_exit ?_
       refine WEx.in_exit ?_
       refine WEx.in_normal ?_
       refine WEx.then_ ?_
       refine WCode.region ?_
       refine WOps.p (G.move rfl) rfl ?_
       refine WOps.p (G.add rfl rfl (r := (w64 (x164 + 1))) rfl) rfl ?_
       refine WOps.p (G.assign rfl) rfl ?_
       refine WOps.nil ?_
       have S464 : St _ _ _ [[(b96, .cells #[.slice A258 l260.length c259, .slice A263 l265.length c264, .slice A268 l270.length c269, .slice A273 l275.length c274, .slice A278 l280.length c279] 35 (0, 0))], [(b90, .cells #[.pointer (some ⟨p59, 0, none⟩), .pointer (some ⟨p77, 0, none⟩)] 28 (0, 0))], [(p77, .cells #[.slice A283 l285.length c284, .int .i64 x288] 135 (0, 0))], [(p59, .cells #[.slice A289 l291.length c290, .int .i64 x294] 135 (0, 0))], [(b48, .cells #[.pointer (some ⟨p17, 0, none⟩), .pointer (some ⟨p35, 0, none⟩)] 25 (0, 0))], [(p35, .cells #[.slice A295 l297.length c296, .int .i64 x300] 133 (0, 0))], [(p17, .cells #[.slice A301 l303.length c302, .int .i64 x306] 133 (0, 0))], G261, G266, G271, G276, G281, G286, G292, G298, G304, [(b242, .cells #[.int .i64 x228.Kind, .int .i64 x228.On, .int .i64 x228.N, .int .i64 x228.Many, .int .i64 x228.P.From, .int .i64 x228.P.To, .string (bs x228.P.Data)] 39 (0, 0))]] := St.reord S316 [1, 2, 3, 4, 5, 6, 7, 8, 9, 10, 11, 12, 13, 14, 15, 16, 0] 17 rfl (by decide) rfl
       have S465 := St.keep (As := [[(b96, .cells #[.slice A258 l260.length c259, .slice A263 l265.length c264, .slice A268 l270.length c269, .slice A273 l275.length c274, .slice A278 l280.length c279] 35 (0, 0))], [(b90, .cells #[.pointer (some ⟨p59, 0, none⟩), .pointer (some ⟨p77, 0, none⟩)] 28 (0, 0))], [(p77, .cells #[.slice A283 l285.length c284, .int .i64 x288] 135 (0, 0))], [(p59, .cells #[.slice A289 l291.length c290, .int .i64 x294] 135 (0, 0))], [(b48, .cells #[.pointer (some ⟨p17, 0, none⟩), .pointer (some ⟨p35, 0, none⟩)] 25 (0, 0))], [(p35, .cells #[.slice A295 l297.length c296, .int .i64 x300] 133 (0, 0))], [(p17, .cells #[.slice A301 l303.length c302, .int .i64 x306] 133 (0, 0))], G261, G266, G271, G276, G281, G286, G292, G298, G304]) S464
       refine WEx.again _ _ (by omega) ?_ ⟨w64 (x164 + 1), A258, c259, l260, G261, A263, c264, l265, G266, A268, c269, l270, G271, A273, c274, l275, G276, A278, c279, l280, G281, A283, c284, l285, G286, x288, A289, c290, l291, G292, x294, A295, c296, l297, G298, x300, A301, c302, l303, G304, x306, rfl, hF, hO262, hO267, hO272, hO277, hO282, hO287, hO293, hO299, hO305, S465⟩
       exact ⟨rfl, rfl, rfl, rfl, rfl, trivial⟩
     ·
      refine WCode.cond_f (kb (b := decide (x164 < (a0.length : Int))) rfl (decide_eq_false h227)) ?_
      refine WCode.exit ?_
      refine WEx.then_exit ?_
      refine WEx.then_exit ?_
      refine WEx.in_exit ?_
      refine WEx.cutend _ ?_ ⟨k216, A165, c166, l167, G168, A170, c171, l172, G173, A175, c176, l177, G178, A180, c181, l182, G183, A185, c186, l187, G188, A190, c191, l192, G193, x195, A196, c197, l198, G199, x201, A202, c203, l204, G205, x207, A208, c209, l210, G211, x213, rfl, hF, hO169, hO174, hO179, hO184, hO189, hO194, hO200, hO206, hO212, S215⟩
      exact ⟨rfl, rfl, rfl, trivial⟩
    ·
     rintro _ w160 ⟨q162, A111, c112, l113, G114, A116, c117, l118, G119, A121, c122, l123, G124, A126, c127, l128, G129, A131, c132, l133, G134, A136, c137, l138, G139, x141, A142, c143, l144, G145, x147, A148, c149, l150, G151, x153, A154, c155, l156, G157, x159, rfl, hF, hO115, hO120, hO125, hO130, hO135, hO140, hO146, hO152, hO158, S161⟩
     unfold law_Plays3.j2 at hF
     refine WCode.seq ?_
     refine WCode.seq ?_
     refine WCode.region ?_
     refine WOps.p (G.assign rfl) rfl ?_
     refine WOps.nil ?_
     refine WEx.then_ ?_
     refine WCode.block ?_
     refine WCode.forget (l' := [(4, .slice (some ⟨b48, 0, none⟩) ([0, 0] : List Int).length 2), (5, .slice (some ⟨b90, 0, none⟩) ([0, 0] : List Int).length 2), (6, .pointer (some ⟨b96, 0, none⟩)), (12, .int .i64 0)]) ⟨rfl, rfl, rfl, rfl, trivial⟩ ?_
     refine WCode.loop (fun n_ l_ w_ => ∃ x466 : Int, ∃ A467 : Option Addr, ∃ c468 : Nat, ∃ l469 : List (List Packet), ∃ G470 : Grp, ∃ A472 : Option Addr, ∃ c473 : Nat, ∃ l474 : List (List Packet), ∃ G475 : Grp, ∃ A477 : Option Addr, ∃ c478 : Nat, ∃ l479 : List (List Packet), ∃ G480 : Grp, ∃ A482 : Option Addr, ∃ c483 : Nat, ∃ l484 : List (List Packet), ∃ G485 : Grp, ∃ A487 : Option Addr, ∃ c488 : Nat, ∃ l489 : List Int, ∃ G490 : Grp, ∃ A492 : Option Addr, ∃ c493 : Nat, ∃ l494 : List Packet, ∃ G495 : Grp, ∃ x497 : Int, ∃ A498 : Option Addr, ∃ c499 : Nat, ∃ l500 : List Packet, ∃ G501 : Grp, ∃ x503 : Int, ∃ A504 : Option Addr, ∃ c505 : Nat, ∃ l506 : List Packet, ∃ G507 : Grp, ∃ x509 : Int, ∃ A510 : Option Addr, ∃ c511 : Nat, ∃ l512 : List Packet, ∃ G513 : Grp, ∃ x515 : Int, l_ = [(4, .slice (some ⟨b48, 0, none⟩) ([0, 0] : List Int).length 2), (5, .slice (some ⟨b90, 0, none⟩) ([0, 0] : List Int).length 2), (6, .pointer (some ⟨b96, 0, none⟩)), (12, .int .i64 x466)] ∧ law_Plays3.l3 n_ x466 l469 l474 l479 l484 l489 l494 x497 l500 x503 l506 x509 l512 x515 = some r_ ∧ (SlO 43 (Rp.slice 37 Packet.rp) (.slice A467 l469.length c468) l469 G470) ∧ (PoolO 43 37 Packet.rp A472 c473 l474 G475) ∧ (PoolO 43 37 Packet.rp A477 c478 l479 G480) ∧ (PoolO 43 37 Packet.rp A482 c483 l484 G485) ∧ (SlO 3 (Rp.int .i64) (.slice A487 l489.length c488) l489 G490) ∧ (SlO 37 Packet.rp (.slice A492 l494.length c493) l494 G495) ∧ (SlO 37 Packet.rp (.slice A498 l500.length c499) l500 G501) ∧ (SlO 37 Packet.rp (.slice A504 l506.length c505) l506 G507) ∧ (SlO 37 Packet.rp (.slice A510 l512.length c511) l512 G513) ∧ St w (KS []) w_ [[(b96, .cells #[.slice A467 l469.length c468, .slice A472 l474.length c473, .slice A477 l479.length c478, .slice A482 l484.length c483, .slice A487 l489.length c488] 35 (0, 0))], [(b90, .cells #[.pointer (some ⟨p59, 0, none⟩), .pointer (some ⟨p77, 0, none⟩)] 28 (0, 0))], [(p77, .cells #[.slice A492 l494.length c493, .int .i64 x497] 135 (0, 0))], [(p59, .cells #[.slice A498 l500.length c499, .int .i64 x503] 135 (0, 0))], [(b48, .cells #[.pointer (some ⟨p17, 0, none⟩), .pointer (some ⟨p35, 0, none⟩)] 25 (0, 0))], [(p35, .cells #[.slice A504 l506.length c505, .int .i64 x509] 133 (0, 0))], [(p17, .cells #[.slice A510 l512.length c511, .int .i64 x515] 133 (0, 0))], G470, G475, G480, G485, G490, G495, G501, G507, G513]) q162 ⟨0, A111, c112, l113, G114, A116, c117, l118, G119, A121, c122, l123, G124, A126, c127, l128, G129, A131, c132, l133, G134, A136, c137, l138, G139, x141, A142, c143, l144, G145, x147, A148, c149, l150, G151, x153, A154, c155, l156, G157, x159, rfl, hF, hO115, hO120, hO125, hO130, hO135, hO140, hO146, hO152, hO158, S161⟩ ?_
     rintro n519 _ w516 ⟨x466, A467, c468, l469, G470, A472, c473, l474, G475, A477, c478, l479, G480, A482, c483, l484, G485, A487, c488, l489, G490, A492, c493, l494, G495, x497, A498, c499, l500, G501, x503, A504, c505, l506, G507, x509, A510, c511, l512, G513, x515, rfl, hF, hO471, hO476, hO481, hO486, hO491, hO496, hO502, hO508, hO514, S517⟩
     obtain _ | k518 := n519
     · exact nomatch (show (none : Option Bool) = some r_ from hF)
     rw [law_Plays3.l3] at hF
     refine WCode.seq ?_
     refine WCode.seq ?_
     refine WCode.region ?_
     refine WOps.p (G.move rfl) rfl ?_
     refine WOps.p (G.lss rfl rfl rfl) rfl ?_
     refine WOps.nil ?_
     refine WEx.then_ ?_
     rcases ite_some hF with ⟨h521, hF⟩ | ⟨h521, hF⟩
     ·
      refine WCode.cond_t (kb (b := decide (x466 < 2)) rfl (decide_eq_true h521)) ?_
      refine WCode.skip ?_
      refine WEx.then_ ?_
      refine WCode.seq ?_
      refine WCode.block ?_
      refine WCode.seq ?_
      refine WCode.draw [⟨0, 0, []⟩, ⟨1, 0, []⟩, ⟨2, 0, []⟩, ⟨3, 0, []⟩, ⟨5, 0, []⟩, ⟨6, 0, []⟩, ⟨7, 0, []⟩, ⟨9, 0, []⟩, ⟨4, 1, [10, 11]⟩, ⟨8, 1, [10, 11]⟩, ⟨10, 2, []⟩, ⟨11, 0, []⟩] T.mixed (by kernel_rfl) (by intro _ _ d _ _ h; cases d <;> exact h) rfl (by kernel_rfl) ?_
      have S522 := S517.drew
      generalize w516.drew = w523 at *
      refine WD.p rfl (G.move rfl) rfl ?_
      refine WD.p rfl (G.move rfl) rfl ?_
      refine WD.p rfl (G.move rfl) rfl ?_
      rcases ite_some hF with ⟨h524, hF⟩ | ⟨h524, hF⟩
      ·
       refine WD.p rfl (G.idx (o := 0) (j := 0) T.el27 rfl rfl rfl (show x466 = ((0 : Nat) : Int) from h524) (by decide) : GP _ _ _ _ (.pointer (some ⟨b48, 0, none⟩))) rfl ?_
       refine WD.p rfl (G.move rfl) rfl ?_
       refine WD.p rfl (G.move rfl) rfl ?_
       refine WD.p rfl (G.idx (o := 0) (j := 0) T.el30 rfl rfl rfl (show x466 = ((0 : Nat) : Int) from h524) (by decide) : GP _ _ _ _ (.pointer (some ⟨b90, 0, none⟩))) rfl ?_
       refine WD.p rfl (G.build (cells := #[.int .i64 5, .int .i64 0, .int .i64 0, .int .i64 0, .int .i64 0, .int .i64 0, .string (bs ([] : List UInt8))]) (evp_spec (evp_cons rfl evp_nil)) (by kernel_rfl)) rfl ?_
       refine WD.r rfl (G.load1 T.one25 rfl (cell_blk (S522.blk 4 rfl) rfl)) rfl ?_
       refine WD.r rfl (G.load1 T.one28 rfl (cell_blk (S522.blk 1 rfl) rfl)) rfl ?_
       have S525 : St _ _ _ [[(b96, .cells #[.slice A467 l469.length c468, .slice A472 l474.length c473, .slice A477 l479.length c478, .slice A482 l484.length c483, .slice A487 l489.length c488] 35 (0, 0))], G470, G475, G480, G485, G490, [(b90, .cells #[.pointer (some ⟨p59, 0, none⟩), .pointer (some ⟨p77, 0, none⟩)] 28 (0, 0))], [(p77, .cells #[.slice A492 l494.length c493, .int .i64 x497] 135 (0, 0))], [(p59, .cells #[.slice A498 l500.length c499, .int .i64 x503] 135 (0, 0))], [(b48, .cells #[.pointer (some ⟨p17, 0, none⟩), .pointer (some ⟨p35, 0, none⟩)] 25 (0, 0))], [(p35, .cells #[.slice A504 l506.length c505, .int .i64 x509] 133 (0, 0))], [(p17, .cells #[.slice A510 l512.length c511, .int .i64 x515] 133 (0, 0))], G495, G501, G507, G513] := St.reord S522 [0, 7, 8, 9, 10, 11, 1, 2, 3, 4, 5, 6, 12, 13, 14, 15] 16 rfl (by decide) rfl
       have hO526 : ObjO 35 BookA.rp b96 (⟨l469, l474, l479, l484, l489⟩ : BookA) ([(b96, .cells #[.slice A467 l469.length c468, .slice A472 l474.length c473, .slice A477 l479.length c478, .slice A482 l484.length c483, .slice A487 l489.length c488] 35 (0, 0))] ++ (G470 ++ (G475 ++ (G480 ++ (G485 ++ (G490)))))) := ⟨_, _, ⟨A467, c468, G470, A472, c473, G475, A477, c478, G480, A482, c483, G485, A487, c488, G490, rfl, hO471, hO476, hO481, hO486, hO491, rfl⟩, rfl⟩
       have S527 : St _ _ _ [[(b96, .cells #[.slice A467 l469.length c468, .slice A472 l474.length c473, .slice A477 l479.length c478, .slice A482 l484.length c483, .slice A487 l489.length c488] 35 (0, 0))] ++ (G470 ++ (G475 ++ (G480 ++ (G485 ++ (G490))))), [(b90, .cells #[.pointer (some ⟨p59, 0, none⟩), .pointer (some ⟨p77, 0, none⟩)] 28 (0, 0))], [(p77, .cells #[.slice A492 l494.length c493, .int .i64 x497] 135 (0, 0))], [(p59, .cells #[.slice A498 l500.length c499, .int .i64 x503] 135 (0, 0))], [(b48, .cells #[.pointer (some ⟨p17, 0, none⟩), .pointer (some ⟨p35, 0, none⟩)] 25 (0, 0))], [(p35, .cells #[.slice A504 l506.length c505, .int .i64 x509] 133 (0, 0))], [(p17, .cells #[.slice A510 l512.length c511, .int .i64 x515] 133 (0, 0))], G495, G501, G507, G513] := S525.objs (by simp)
       have S528 := (S527.front 10 rfl).front 7 rfl
       change St _ _ _ [[(p17, .cells #[.slice A510 l512.length c511, .int .i64 x515] 133 (0, 0))], G513, [(b96, .cells #[.slice A467 l469.length c468, .slice A472 l474.length c473, .slice A477 l479.length c478, .slice A482 l484.length c483, .slice A487 l489.length c488] 35 (0, 0))] ++ (G470 ++ (G475 ++ (G480 ++ (G485 ++ (G490))))), [(b90, .cells #[.pointer (some ⟨p59, 0, none⟩), .pointer (some ⟨p77, 0, none⟩)] 28 (0, 0))], [(p77, .cells #[.slice A492 l494.length c493, .int .i64 x497] 135 (0, 0))], [(p59, .cells #[.slice A498 l500.length c499, .int .i64 x503] 135 (0, 0))], [(b48, .cells #[.pointer (some ⟨p17, 0, none⟩), .pointer (some ⟨p35, 0, none⟩)] 25 (0, 0))], [(p35, .cells #[.slice A504 l506.length c505, .int .i64 x509] 133 (0, 0))], G495, G501, G507] at S528
       have hO529 : ObjO 133 Air.rp p17 (⟨l512, x515⟩ : Air) ([(p17, .cells #[.slice A510 l512.length c511, .int .i64 x515] 133 (0, 0))] ++ (G513)) := ⟨_, _, ⟨A510, c511, G513, rfl, hO514, rfl⟩, rfl⟩
       have S530 : St _ _ _ [[(p17, .cells #[.slice A510 l512.length c511, .int .i64 x515] 133 (0, 0))] ++ (G513), [(b96, .cells #[.slice A467 l469.length c468, .slice A472 l474.length c473, .slice A477 l479.length c478, .slice A482 l484.length c483, .slice A487 l489.length c488] 35 (0, 0))] ++ (G470 ++ (G475 ++ (G480 ++ (G485 ++ (G490))))), [(b90, .cells #[.pointer (some ⟨p59, 0, none⟩), .pointer (some ⟨p77, 0, none⟩)] 28 (0, 0))], [(p77, .cells #[.slice A492 l494.length c493, .int .i64 x497] 135 (0, 0))], [(p59, .cells #[.slice A498 l500.length c499, .int .i64 x503] 135 (0, 0))], [(b48, .cells #[.pointer (some ⟨p17, 0, none⟩), .pointer (some ⟨p35, 0, none⟩)] 25 (0, 0))], [(p35, .cells #[.slice A504 l506.length c505, .int .i64 x509] 133 (0, 0))], G495, G501, G507] := S528.objs (by simp)
       have S531 := (S530.front 8 rfl).front 5 rfl
       change St _ _ _ [[(p59, .cells #[.slice A498 l500.length c499, .int .i64 x503] 135 (0, 0))], G501, [(p17, .cells #[.slice A510 l512.length c511, .int .i64 x515] 133 (0, 0))] ++ (G513), [(b96, .cells #[.slice A467 l469.length c468, .slice A472 l474.length c473, .slice A477 l479.length c478, .slice A482 l484.length c483, .slice A487 l489.length c488] 35 (0, 0))] ++ (G470 ++ (G475 ++ (G480 ++ (G485 ++ (G490))))), [(b90, .cells #[.pointer (some ⟨p59, 0, none⟩), .pointer (some ⟨p77, 0, none⟩)] 28 (0, 0))], [(p77, .cells #[.slice A492 l494.length c493, .int .i64 x497] 135 (0, 0))], [(b48, .cells #[.pointer (some ⟨p17, 0, none⟩), .pointer (some ⟨p35, 0, none⟩)] 25 (0, 0))], [(p35, .cells #[.slice A504 l506.length c505, .int .i64 x509] 133 (0, 0))], G495, G507] at S531
       have hO532 : ObjO 135 Air135.rp p59 (⟨l500, x503⟩ : Air135) ([(p59, .cells #[.slice A498 l500.length c499, .int .i64 x503] 135 (0, 0))] ++ (G501)) := ⟨_, _, ⟨A498, c499, G501, rfl, hO502, rfl⟩, rfl⟩
       have S533 : St _ _ _ [[(p59, .cells #[.slice A498 l500.length c499, .int .i64 x503] 135 (0, 0))] ++ (G501), [(p17, .cells #[.slice A510 l512.length c511, .int .i64 x515] 133 (0, 0))] ++ (G513), [(b96, .cells #[.slice A467 l469.length c468, .slice A472 l474.length c473, .slice A477 l479.length c478, .slice A482 l484.length c483, .slice A487 l489.length c488] 35 (0, 0))] ++ (G470 ++ (G475 ++ (G480 ++ (G485 ++ (G490))))), [(b90, .cells #[.pointer (some ⟨p59, 0, none⟩), .pointer (some ⟨p77, 0, none⟩)] 28 (0, 0))], [(p77, .cells #[.slice A492 l494.length c493, .int .i64 x497] 135 (0, 0))], [(b48, .cells #[.pointer (some ⟨p17, 0, none⟩), .pointer (some ⟨p35, 0, none⟩)] 25 (0, 0))], [(p35, .cells #[.slice A504 l506.length c505, .int .i64 x509] 133 (0, 0))], G495, G507] := S531.objs (by simp)
       obtain ⟨t534, hc535, hF⟩ := bind_some hF
       have S536 := (S533.front 1 rfl).front 2 rfl
       change St _ _ _ [[(b96, .cells #[.slice A467 l469.length c468, .slice A472 l474.length c473, .slice A477 l479.length c478, .slice A482 l484.length c483, .slice A487 l489.length c488] 35 (0, 0))] ++ (G470 ++ (G475 ++ (G480 ++ (G485 ++ (G490))))), [(p17, .cells #[.slice A510 l512.length c511, .int .i64 x515] 133 (0, 0))] ++ (G513), [(p59, .cells #[.slice A498 l500.length c499, .int .i64 x503] 135 (0, 0))] ++ (G501), [(b90, .cells #[.pointer (some ⟨p59, 0, none⟩), .pointer (some ⟨p77, 0, none⟩)] 28 (0, 0))], [(p77, .cells #[.slice A492 l494.length c493, .int .i64 x497] 135 (0, 0))], [(b48, .cells #[.pointer (some ⟨p17, 0, none⟩), .pointer (some ⟨p35, 0, none⟩)] 25 (0, 0))], [(p35, .cells #[.slice A504 l506.length c505, .int .i64 x509] 133 (0, 0))], G495, G507] at S536
       refine WD.call rfl T.call17 (evs_cons rfl (evs_cons rfl (evs_cons rfl (evs_cons rfl evs_nil)))) rfl ?_
       refine (y_step_calls k518 (⟨l469, l474, l479, l484, l489⟩ : BookA) (⟨l512, x515⟩ : Air) (⟨l500, x503⟩ : Air135) (⟨5, 0, 0, 0, (⟨0, 0, ([] : List UInt8)⟩ : Packet)⟩ : Op) hO526 hO529 hO532 hc535 (St.hpN (As := [[(b96, .cells #[.slice A467 l469.length c468, .slice A472 l474.length c473, .slice A477 l479.length c478, .slice A482 l484.length c483, .slice A487 l489.length c488] 35 (0, 0))] ++ (G470 ++ (G475 ++ (G480 ++ (G485 ++ (G490))))), [(p17, .cells #[.slice A510 l512.length c511, .int .i64 x515] 133 (0, 0))] ++ (G513), [(p59, .cells #[.slice A498 l500.length c499, .int .i64 x503] 135 (0, 0))] ++ (G501)]) S536)).mono ?_
       rintro _ w537 ⟨G540, G542, G544, rfl, hO541, hO543, hO545, T538⟩
       have S539 := St.callN (As := [[(b96, .cells #[.slice A467 l469.length c468, .slice A472 l474.length c473, .slice A477 l479.length c478, .slice A482 l484.length c483, .slice A487 l489.length c488] 35 (0, 0))] ++ (G470 ++ (G475 ++ (G480 ++ (G485 ++ (G490))))), [(p17, .cells #[.slice A510 l512.length c511, .int .i64 x515] 133 (0, 0))] ++ (G513), [(p59, .cells #[.slice A498 l500.length c499, .int .i64 x503] 135 (0, 0))] ++ (G501)]) S536 T538
       change St _ _ _ [G540, G542, G544, [(b90, .cells #[.pointer (some ⟨p59, 0, none⟩), .pointer (some ⟨p77, 0, none⟩)] 28 (0, 0))], [(p77, .cells #[.slice A492 l494.length c493, .int .i64 x497] 135 (0, 0))], [(b48, .cells #[.pointer (some ⟨p17, 0, none⟩), .pointer (some ⟨p35, 0, none⟩)] 25 (0, 0))], [(p35, .cells #[.slice A504 l506.length c505, .int .i64 x509] 133 (0, 0))], G495, G507] at S539
       refine ⟨_, rfl, ?_⟩
       obtain ⟨cs546, G547, ho548, hg549⟩ := hO541
       obtain ⟨A550, c551, G552, A554, c555, G556, A558, c559, G560, A562, c563, G564, A566, c567, G568, rfl, hO553, hO557, hO561, hO565, hO569, hq570⟩ := ho548
       have S571 : St _ _ _ [[(b96, .cells #[.slice A550 t534.2.1.free.length c551, .slice A554 t534.2.1.was.length c555, .slice A558 t534.2.1.lists.length c559, .slice A562 t534.2.1.grown.length c563, .slice A566 t534.2.1.whose.length c567] 35 (0, 0))], G552, G556, G560, G564, G568, G542, G544, [(b90, .cells #[.pointer (some ⟨p59, 0, none⟩), .pointer (some ⟨p77, 0, none⟩)] 28 (0, 0))], [(p77, .cells #[.slice A492 l494.length c493, .int .i64 x497] 135 (0, 0))], [(b48, .cells #[.pointer (some ⟨p17, 0, none⟩), .pointer (some ⟨p35, 0, none⟩)] 25 (0, 0))], [(p35, .cells #[.slice A504 l506.length c505, .int .i64 x509] 133 (0, 0))], G495, G507] := S539.objs (by rw [hg549, hq570]; simp)
       have S572 := S571.front 6 rfl
       change St _ _ _ [G542, [(b96, .cells #[.slice A550 t534.2.1.free.length c551, .slice A554 t534.2.1.was.length c555, .slice A558 t534.2.1.lists.length c559, .slice A562 t534.2.1.grown.length c563, .slice A566 t534.2.1.whose.length c567] 35 (0, 0))], G552, G556, G560, G564, G568, G544, [(b90, .cells #[.pointer (some ⟨p59, 0, none⟩), .pointer (some ⟨p77, 0, none⟩)] 28 (0, 0))], [(p77, .cells #[.slice A492 l494.length c493, .int .i64 x497] 135 (0, 0))], [(b48, .cells #[.pointer (some ⟨p17, 0, none⟩), .pointer (some ⟨p35, 0, none⟩)] 25 (0, 0))], [(p35, .cells #[.slice A504 l506.length c505, .int .i64 x509] 133 (0, 0))], G495, G507] at S572
       obtain ⟨cs573, G574, ho575, hg576⟩ := hO543
       obtain ⟨A577, c578, G579, rfl, hO580, hq581⟩ := ho575
       have S582 : St _ _ _ [[(p17, .cells #[.slice A577 t534.2.2.1.flying.length c578, .int .i64 t534.2.2.1.time] 133 (0, 0))], G579, [(b96, .cells #[.slice A550 t534.2.1.free.length c551, .slice A554 t534.2.1.was.length c555, .slice A558 t534.2.1.lists.length c559, .slice A562 t534.2.1.grown.length c563, .slice A566 t534.2.1.whose.length c567] 35 (0, 0))], G552, G556, G560, G564, G568, G544, [(b90, .cells #[.pointer (some ⟨p59, 0, none⟩), .pointer (some ⟨p77, 0, none⟩)] 28 (0, 0))], [(p77, .cells #[.slice A492 l494.length c493, .int .i64 x497] 135 (0, 0))], [(b48, .cells #[.pointer (some ⟨p17, 0, none⟩), .pointer (some ⟨p35, 0, none⟩)] 25 (0, 0))], [(p35, .cells #[.slice A504 l506.length c505, .int .i64 x509] 133 (0, 0))], G495, G507] := S572.objs (by rw [hg576, hq581]; simp)
       have S583 := S582.front 8 rfl
       change St _ _ _ [G544, [(p17, .cells #[.slice A577 t534.2.2.1.flying.length c578, .int .i64 t534.2.2.1.time] 133 (0, 0))], G579, [(b96, .cells #[.slice A550 t534.2.1.free.length c551, .slice A554 t534.2.1.was.length c555, .slice A558 t534.2.1.lists.length c559, .slice A562 t534.2.1.grown.length c563, .slice A566 t534.2.1.whose.length c567] 35 (0, 0))], G552, G556, G560, G564, G568, [(b90, .cells #[.pointer (some ⟨p59, 0, none⟩), .pointer (some ⟨p77, 0, none⟩)] 28 (0, 0))], [(p77, .cells #[.slice A492 l494.length c493, .int .i64 x497] 135 (0, 0))], [(b48, .cells #[.pointer (some ⟨p17, 0, none⟩), .pointer (some ⟨p35, 0, none⟩)] 25 (0, 0))], [(p35, .cells #[.slice A504 l506.length c505, .int .i64 x509] 133 (0, 0))], G495, G507] at S583
       obtain ⟨cs584, G585, ho586, hg587⟩ := hO545
       obtain ⟨A588, c589, G590, rfl, hO591, hq592⟩ := ho586
       have S593 : St _ _ _ [[(p59, .cells #[.slice A588 t534.2.2.2.L.length c589, .int .i64 t534.2.2.2.Time] 135 (0, 0))], G590, [(p17, .cells #[.slice A577 t534.2.2.1.flying.length c578, .int .i64 t534.2.2.1.time] 133 (0, 0))], G579, [(b96, .cells #[.slice A550 t534.2.1.free.length c551, .slice A554 t534.2.1.was.length c555, .slice A558 t534.2.1.lists.length c559, .slice A562 t534.2.1.grown.length c563, .slice A566 t534.2.1.whose.length c567] 35 (0, 0))], G552, G556, G560, G564, G568, [(b90, .cells #[.pointer (some ⟨p59, 0, none⟩), .pointer (some ⟨p77, 0, none⟩)] 28 (0, 0))], [(p77, .cells #[.slice A492 l494.length c493, .int .i64 x497] 135 (0, 0))], [(b48, .cells #[.pointer (some ⟨p17, 0, none⟩), .pointer (some ⟨p35, 0, none⟩)] 25 (0, 0))], [(p35, .cells #[.slice A504 l506.length c505, .int .i64 x509] 133 (0, 0))], G495, G507] := S583.objs (by rw [hg587, hq592]; simp)
       refine WD.p rfl (G.assign rfl) rfl ?_
       refine WD.nil ?_
       refine WEx.then_ ?_
       refine WCode.forget (l' := [(4, .slice (some ⟨b48, 0, none⟩) ([0, 0] : List Int).length 2), (5, .slice (some ⟨b90, 0, none⟩) ([0, 0] : List Int).length 2), (6, .pointer (some ⟨b96, 0, none⟩)), (12, .int .i64 x466), (13, .bool t534.1)]) ⟨rfl, rfl, rfl, rfl, rfl, trivial⟩ ?_
       refine WCode.seq ?_
       refine WCode.region ?_
       refine WOps.p (G.move rfl) rfl ?_
       refine WOps.p (G.not rfl rfl) rfl ?_
       refine WOps.nil ?_
       refine WEx.then_ ?_
       rcases ite_some hF with ⟨h594, hF⟩ | ⟨h594, hF⟩
       ·
        refine WCode.cond_f (kb (b := !t534.1) rfl (show (!t534.1) = false from by rw [h594]; rfl)) ?_
        refine WCode.skip ?_
        refine WEx.in_normal ?_
        refine WEx.then_ ?_
        refine WCode.region ?_
        refine WOps.p (G.move rfl) rfl ?_
        refine WOps.p (G.add rfl rfl (r := (w64 (x466 + 1))) rfl) rfl ?_
        refine WOps.p (G.assign rfl) rfl ?_
        refine WOps.nil ?_
        have S595 : St _ _ _ [[(b96, .cells #[.slice A550 t534.2.1.free.length c551, .slice A554 t534.2.1.was.length c555, .slice A558 t534.2.1.lists.length c559, .slice A562 t534.2.1.grown.length c563, .slice A566 t534.2.1.whose.length c567] 35 (0, 0))], [(b90, .cells #[.pointer (some ⟨p59, 0, none⟩), .pointer (some ⟨p77, 0, none⟩)] 28 (0, 0))], [(p77, .cells #[.slice A492 l494.length c493, .int .i64 x497] 135 (0, 0))], [(p59, .cells #[.slice A588 t534.2.2.2.L.length c589, .int .i64 t534.2.2.2.Time] 135 (0, 0))], [(b48, .cells #[.pointer (some ⟨p17, 0, none⟩), .pointer (some ⟨p35, 0, none⟩)] 25 (0, 0))], [(p35, .cells #[.slice A504 l506.length c505, .int .i64 x509] 133 (0, 0))], [(p17, .cells #[.slice A577 t534.2.2.1.flying.length c578, .int .i64 t534.2.2.1.time] 133 (0, 0))], G552, G556, G560, G564, G568, G495, G590, G507, G579] := St.reord S593 [4, 10, 11, 0, 12, 13, 2, 5, 6, 7, 8, 9, 14, 1, 15, 3] 16 rfl (by decide) rfl
        refine WEx.again _ _ (by omega) ?_ ⟨w64 (x466 + 1), A550, c551, t534.2.1.free, G552, A554, c555, t534.2.1.was, G556, A558, c559, t534.2.1.lists, G560, A562, c563, t534.2.1.grown, G564, A566, c567, t534.2.1.whose, G568, A492, c493, l494, G495, x497, A588, c589, t534.2.2.2.L, G590, t534.2.2.2.Time, A504, c505, l506, G507, x509, A577, c578, t534.2.2.1.flying, G579, t534.2.2.1.time, rfl, hF, hO553, hO557, hO561, hO565, hO569, hO496, hO591, hO508, hO580, S595⟩
        exact ⟨rfl, rfl, rfl, rfl, trivial⟩
       ·
        refine WCode.cond_t (kb (b := !t534.1) rfl (show (!t534.1) = true from by rw [(Bool.eq_false_iff.2 h594)]; rfl)) ?_
        refine WCode.seq ?_
        refine WCode.region ?_
        refine WOps.p (G.assign rfl) rfl ?_
        refine WOps.nil ?_
        refine WEx.then_ ?_
        refine WCode.ret ?_
        refine WEx.in_ret ?_
        refine WEx.then_ret ?_
        refine WEx.then_ret ?_
        refine WEx.in_ret ?_
        refine WEx.then_ret ?_
        obtain rfl := some_eq hF
        refine WEx.ret1 rfl rfl ?_
        exact ⟨rfl, St.keep (As := []) S593⟩
      ·
       rcases ite_some hF with ⟨h596, hF⟩ | ⟨h596, hF⟩
       ·
        refine WD.p rfl (G.idx (o := 0) (j := 1) T.el27 rfl rfl rfl (show x466 = ((1 : Nat) : Int) from h596) (by decide) : GP _ _ _ _ (.pointer (some ⟨b48, 1, none⟩))) rfl ?_
        refine WD.p rfl (G.move rfl) rfl ?_
        refine WD.p rfl (G.move rfl) rfl ?_
        refine WD.p rfl (G.idx (o := 0) (j := 1) T.el30 rfl rfl rfl (show x466 = ((1 : Nat) : Int) from h596) (by decide) : GP _ _ _ _ (.pointer (some ⟨b90, 1, none⟩))) rfl ?_
        refine WD.p rfl (G.build (cells := #[.int .i64 5, .int .i64 0, .int .i64 0, .int .i64 0, .int .i64 0, .int .i64 0, .string (bs ([] : List UInt8))]) (evp_spec (evp_cons rfl evp_nil)) (by kernel_rfl)) rfl ?_
        refine WD.r rfl (G.load1 T.one25 rfl (cell_blk (S522.blk 4 rfl) rfl)) rfl ?_
        refine WD.r rfl (G.load1 T.one28 rfl (cell_blk (S522.blk 1 rfl) rfl)) rfl ?_
        have S597 : St _ _ _ [[(b96, .cells #[.slice A467 l469.length c468, .slice A472 l474.length c473, .slice A477 l479.length c478, .slice A482 l484.length c483, .slice A487 l489.length c488] 35 (0, 0))], G470, G475, G480, G485, G490, [(b90, .cells #[.pointer (some ⟨p59, 0, none⟩), .pointer (some ⟨p77, 0, none⟩)] 28 (0, 0))], [(p77, .cells #[.slice A492 l494.length c493, .int .i64 x497] 135 (0, 0))], [(p59, .cells #[.slice A498 l500.length c499, .int .i64 x503] 135 (0, 0))], [(b48, .cells #[.pointer (some ⟨p17, 0, none⟩), .pointer (some ⟨p35, 0, none⟩)] 25 (0, 0))], [(p35, .cells #[.slice A504 l506.length c505, .int .i64 x509] 133 (0, 0))], [(p17, .cells #[.slice A510 l512.length c511, .int .i64 x515] 133 (0, 0))], G495, G501, G507, G513] := St.reord S522 [0, 7, 8, 9, 10, 11, 1, 2, 3, 4, 5, 6, 12, 13, 14, 15] 16 rfl (by decide) rfl
        have hO598 : ObjO 35 BookA.rp b96 (⟨l469, l474, l479, l484, l489⟩ : BookA) ([(b96, .cells #[.slice A467 l469.length c468, .slice A472 l474.length c473, .slice A477 l479.length c478, .slice A482 l484.length c483, .slice A487 l489.length c488] 35 (0, 0))] ++ (G470 ++ (G475 ++ (G480 ++ (G485 ++ (G490)))))) := ⟨_, _, ⟨A467, c468, G470, A472, c473, G475, A477, c478, G480, A482, c483, G485, A487, c488, G490, rfl, hO471, hO476, hO481, hO486, hO491, rfl⟩, rfl⟩
        have S599 : St _ _ _ [[(b96, .cells #[.slice A467 l469.length c468, .slice A472 l474.length c473, .slice A477 l479.length c478, .slice A482 l484.length c483, .slice A487 l489.length c488] 35 (0, 0))] ++ (G470 ++ (G475 ++ (G480 ++ (G485 ++ (G490))))), [(b90, .cells #[.pointer (some ⟨p59, 0, none⟩), .pointer (some ⟨p77, 0, none⟩)] 28 (0, 0))], [(p77, .cells #[.slice A492 l494.length c493, .int .i64 x497] 135 (0, 0))], [(p59, .cells #[.slice A498 l500.length c499, .int .i64 x503] 135 (0, 0))], [(b48, .cells #[.pointer (some ⟨p17, 0, none⟩), .pointer (some ⟨p35, 0, none⟩)] 25 (0, 0))], [(p35, .cells #[.slice A504 l506.length c505, .int .i64 x509] 133 (0, 0))], [(p17, .cells #[.slice A510 l512.length c511, .int .i64 x515] 133 (0, 0))], G495, G501, G507, G513] := S597.objs (by simp)
        have S600 := (S599.front 9 rfl).front 6 rfl
        change St _ _ _ [[(p35, .cells #[.slice A504 l506.length c505, .int .i64 x509] 133 (0, 0))], G507, [(b96, .cells #[.slice A467 l469.length c468, .slice A472 l474.length c473, .slice A477 l479.length c478, .slice A482 l484.length c483, .slice A487 l489.length c488] 35 (0, 0))] ++ (G470 ++ (G475 ++ (G480 ++ (G485 ++ (G490))))), [(b90, .cells #[.pointer (some ⟨p59, 0, none⟩), .pointer (some ⟨p77, 0, none⟩)] 28 (0, 0))], [(p77, .cells #[.slice A492 l494.length c493, .int .i64 x497] 135 (0, 0))], [(p59, .cells #[.slice A498 l500.length c499, .int .i64 x503] 135 (0, 0))], [(b48, .cells #[.pointer (some ⟨p17, 0, none⟩), .pointer (some ⟨p35, 0, none⟩)] 25 (0, 0))], [(p17, .cells #[.slice A510 l512.length c511, .int .i64 x515] 133 (0, 0))], G495, G501, G513] at S600
        have hO601 : ObjO 133 Air.rp p35 (⟨l506, x509⟩ : Air) ([(p35, .cells #[.slice A504 l506.length c505, .int .i64 x509] 133 (0, 0))] ++ (G507)) := ⟨_, _, ⟨A504, c505, G507, rfl, hO508, rfl⟩, rfl⟩
        have S602 : St _ _ _ [[(p35, .cells #[.slice A504 l506.length c505, .int .i64 x509] 133 (0, 0))] ++ (G507), [(b96, .cells #[.slice A467 l469.length c468, .slice A472 l474.length c473, .slice A477 l479.length c478, .slice A482 l484.length c483, .slice A487 l489.length c488] 35 (0, 0))] ++ (G470 ++ (G475 ++ (G480 ++ (G485 ++ (G490))))), [(b90, .cells #[.pointer (some ⟨p59, 0, none⟩), .pointer (some ⟨p77, 0, none⟩)] 28 (0, 0))], [(p77, .cells #[.slice A492 l494.length c493, .int .i64 x497] 135 (0, 0))], [(p59, .cells #[.slice A498 l500.length c499, .int .i64 x503] 135 (0, 0))], [(b48, .cells #[.pointer (some ⟨p17, 0, none⟩), .pointer (some ⟨p35, 0, none⟩)] 25 (0, 0))], [(p17, .cells #[.slice A510 l512.length c511, .int .i64 x515] 133 (0, 0))], G495, G501, G513] := S600.objs (by simp)
        have S603 := (S602.front 7 rfl).front 4 rfl
        change St _ _ _ [[(p77, .cells #[.slice A492 l494.length c493, .int .i64 x497] 135 (0, 0))], G495, [(p35, .cells #[.slice A504 l506.length c505, .int .i64 x509] 133 (0, 0))] ++ (G507), [(b96, .cells #[.slice A467 l469.length c468, .slice A472 l474.length c473, .slice A477 l479.length c478, .slice A482 l484.length c483, .slice A487 l489.length c488] 35 (0, 0))] ++ (G470 ++ (G475 ++ (G480 ++ (G485 ++ (G490))))), [(b90, .cells #[.pointer (some ⟨p59, 0, none⟩), .pointer (some ⟨p77, 0, none⟩)] 28 (0, 0))], [(p59, .cells #[.slice A498 l500.length c499, .int .i64 x503] 135 (0, 0))], [(b48, .cells #[.pointer (some ⟨p17, 0, none⟩), .pointer (some ⟨p35, 0, none⟩)] 25 (0, 0))], [(p17, .cells #[.slice A510 l512.length c511, .int .i64 x515] 133 (0, 0))], G501, G513] at S603
        have hO604 : ObjO 135 Air135.rp p77 (⟨l494, x497⟩ : Air135) ([(p77, .cells #[.slice A492 l494.length c493, .int .i64 x497] 135 (0, 0))] ++ (G495)) := ⟨_, _, ⟨A492, c493, G495, rfl, hO496, rfl⟩, rfl⟩
        have S605 : St _ _ _ [[(p77, .cells #[.slice A492 l494.length c493, .int .i64 x497] 135 (0, 0))] ++ (G495), [(p35, .cells #[.slice A504 l506.length c505, .int .i64 x509] 133 (0, 0))] ++ (G507), [(b96, .cells #[.slice A467 l469.length c468, .slice A472 l474.length c473, .slice A477 l479.length c478, .slice A482 l484.length c483, .slice A487 l489.length c488] 35 (0, 0))] ++ (G470 ++ (G475 ++ (G480 ++ (G485 ++ (G490))))), [(b90, .cells #[.pointer (some ⟨p59, 0, none⟩), .pointer (some ⟨p77, 0, none⟩)] 28 (0, 0))], [(p59, .cells #[.slice A498 l500.length c499, .int .i64 x503] 135 (0, 0))], [(b48, .cells #[.pointer (some ⟨p17, 0, none⟩), .pointer (some ⟨p35, 0, none⟩)] 25 (0, 0))], [(p17, .cells #[.slice A510 l512.length c511, .int .i64 x515] 133 (0, 0))], G501, G513] := S603.objs (by simp)
        obtain ⟨t606, hc607, hF⟩ := bind_some hF
        have S608 := (S605.front 1 rfl).front 2 rfl
        change St _ _ _ [[(b96, .cells #[.slice A467 l469.length c468, .slice A472 l474.length c473, .slice A477 l479.length c478, .slice A482 l484.length c483, .slice A487 l489.length c488] 35 (0, 0))] ++ (G470 ++ (G475 ++ (G480 ++ (G485 ++ (G490))))), [(p35, .cells #[.slice A504 l506.length c505, .int .i64 x509] 133 (0, 0))] ++ (G507), [(p77, .cells #[.slice A492 l494.length c493, .int .i64 x497] 135 (0, 0))] ++ (G495), [(b90, .cells #[.pointer (some ⟨p59, 0, none⟩), .pointer (some ⟨p77, 0, none⟩)] 28 (0, 0))], [(p59, .cells #[.slice A498 l500.length c499, .int .i64 x503] 135 (0, 0))], [(b48, .cells #[.pointer (some ⟨p17, 0, none⟩), .pointer (some ⟨p35, 0, none⟩)] 25 (0, 0))], [(p17, .cells #[.slice A510 l512.length c511, .int .i64 x515] 133 (0, 0))], G501, G513] at S608
        refine WD.call rfl T.call17 (evs_cons rfl (evs_cons rfl (evs_cons rfl (evs_cons rfl evs_nil)))) rfl ?_
        refine (y_step_calls k518 (⟨l469, l474, l479, l484, l489⟩ : BookA) (⟨l506, x509⟩ : Air) (⟨l494, x497⟩ : Air135) (⟨5, 0, 0, 0, (⟨0, 0, ([] : List UInt8)⟩ : Packet)⟩ : Op) hO598 hO601 hO604 hc607 (St.hpN (As := [[(b96, .cells #[.slice A467 l469.length c468, .slice A472 l474.length c473, .slice A477 l479.length c478, .slice A482 l484.length c483, .slice A487 l489.length c488] 35 (0, 0))] ++ (G470 ++ (G475 ++ (G480 ++ (G485 ++ (G490))))), [(p35, .cells #[.slice A504 l506.length c505, .int .i64 x509] 133 (0, 0))] ++ (G507), [(p77, .cells #[.slice A492 l494.length c493, .int .i64 x497] 135 (0, 0))] ++ (G495)]) S608)).mono ?_
        rintro _ w609 ⟨G612, G614, G616, rfl, hO613, hO615, hO617, T610⟩
        have S611 := St.callN (As := [[(b96, .cells #[.slice A467 l469.length c468, .slice A472 l474.length c473, .slice A477 l479.length c478, .slice A482 l484.length c483, .slice A487 l489.length c488] 35 (0, 0))] ++ (G470 ++ (G475 ++ (G480 ++ (G485 ++ (G490))))), [(p35, .cells #[.slice A504 l506.length c505, .int .i64 x509] 133 (0, 0))] ++ (G507), [(p77, .cells #[.slice A492 l494.length c493, .int .i64 x497] 135 (0, 0))] ++ (G495)]) S608 T610
        change St _ _ _ [G612, G614, G616, [(b90, .cells #[.pointer (some ⟨p59, 0, none⟩), .pointer (some ⟨p77, 0, none⟩)] 28 (0, 0))], [(p59, .cells #[.slice A498 l500.length c499, .int .i64 x503] 135 (0, 0))], [(b48, .cells #[.pointer (some ⟨p17, 0, none⟩), .pointer (some ⟨p35, 0, none⟩)] 25 (0, 0))], [(p17, .cells #[.slice A510 l512.length c511, .int .i64 x515] 133 (0, 0))], G501, G513] at S611
        refine ⟨_, rfl, ?_⟩
        obtain ⟨cs618, G619, ho620, hg621⟩ := hO613
        obtain ⟨A622, c623, G624, A626, c627, G628, A630, c631, G632, A634, c635, G636, A638, c639, G640, rfl, hO625, hO629, hO633, hO637, hO641, hq642⟩ := ho620
        have S643 : St _ _ _ [[(b96, .cells #[.slice A622 t606.2.1.free.length c623, .slice A626 t606.2.1.was.length c627, .slice A630 t606.2.1.lists.length c631, .slice A634 t606.2.1.grown.length c635, .slice A638 t606.2.1.whose.length c639] 35 (0, 0))], G624, G628, G632, G636, G640, G614, G616, [(b90, .cells #[.pointer (some ⟨p59, 0, none⟩), .pointer (some ⟨p77, 0, none⟩)] 28 (0, 0))], [(p59, .cells #[.slice A498 l500.length c499, .int .i64 x503] 135 (0, 0))], [(b48, .cells #[.pointer (some ⟨p17, 0, none⟩), .pointer (some ⟨p35, 0, none⟩)] 25 (0, 0))], [(p17, .cells #[.slice A510 l512.length c511, .int .i64 x515] 133 (0, 0))], G501, G513] := S611.objs (by rw [hg621, hq642]; simp)
        have S644 := S643.front 6 rfl
        change St _ _ _ [G614, [(b96, .cells #[.slice A622 t606.2.1.free.length c623, .slice A626 t606.2.1.was.length c627, .slice A630 t606.2.1.lists.length c631, .slice A634 t606.2.1.grown.length c635, .slice A638 t606.2.1.whose.length c639] 35 (0, 0))], G624, G628, G632, G636, G640, G616, [(b90, .cells #[.pointer (some ⟨p59, 0, none⟩), .pointer (some ⟨p77, 0, none⟩)] 28 (0, 0))], [(p59, .cells #[.slice A498 l500.length c499, .int .i64 x503] 135 (0, 0))], [(b48, .cells #[.pointer (some ⟨p17, 0, none⟩), .pointer (some ⟨p35, 0, none⟩)] 25 (0, 0))], [(p17, .cells #[.slice A510 l512.length c511, .int .i64 x515] 133 (0, 0))], G501, G513] at S644
        obtain ⟨cs645, G646, ho647, hg648⟩ := hO615
        obtain ⟨A649, c650, G651, rfl, hO652, hq653⟩ := ho647
        have S654 : St _ _ _ [[(p35, .cells #[.slice A649 t606.2.2.1.flying.length c650, .int .i64 t606.2.2.1.time] 133 (0, 0))], G651, [(b96, .cells #[.slice A622 t606.2.1.free.length c623, .slice A626 t606.2.1.was.length c627, .slice A630 t606.2.1.lists.length c631, .slice A634 t606.2.1.grown.length c635, .slice A638 t606.2.1.whose.length c639] 35 (0, 0))], G624, G628, G632, G636, G640, G616, [(b90, .cells #[.pointer (some ⟨p59, 0, none⟩), .pointer (some ⟨p77, 0, none⟩)] 28 (0, 0))], [(p59, .cells #[.slice A498 l500.length c499, .int .i64 x503] 135 (0, 0))], [(b48, .cells #[.pointer (some ⟨p17, 0, none⟩), .pointer (some ⟨p35, 0, none⟩)] 25 (0, 0))], [(p17, .cells #[.slice A510 l512.length c511, .int .i64 x515] 133 (0, 0))], G501, G513] := S644.objs (by rw [hg648, hq653]; simp)
        have S655 := S654.front 8 rfl
        change St _ _ _ [G616, [(p35, .cells #[.slice A649 t606.2.2.1.flying.length c650, .int .i64 t606.2.2.1.time] 133 (0, 0))], G651, [(b96, .cells #[.slice A622 t606.2.1.free.length c623, .slice A626 t606.2.1.was.length c627, .slice A630 t606.2.1.lists.length c631, .slice A634 t606.2.1.grown.length c635, .slice A638 t606.2.1.whose.length c639] 35 (0, 0))], G624, G628, G632, G636, G640, [(b90, .cells #[.pointer (some ⟨p59, 0, none⟩), .pointer (some ⟨p77, 0, none⟩)] 28 (0, 0))], [(p59, .cells #[.slice A498 l500.length c499, .int .i64 x503] 135 (0, 0))], [(b48, .cells #[.pointer (some ⟨p17, 0, none⟩), .pointer (some ⟨p35, 0, none⟩)] 25 (0, 0))], [(p17, .cells #[.slice A510 l512.length c511, .int .i64 x515] 133 (0, 0))], G501, G513] at S655
        obtain ⟨cs656, G657, ho658, hg659⟩ := hO617
        obtain ⟨A660, c661, G662, rfl, hO663, hq664⟩ := ho658
        have S665 : St _ _ _ [[(p77, .cells #[.slice A660 t606.2.2.2.L.length c661, .int .i64 t606.2.2.2.Time] 135 (0, 0))], G662, [(p35, .cells #[.slice A649 t606.2.2.1.flying.length c650, .int .i64 t606.2.2.1.time] 133 (0, 0))], G651, [(b96, .cells #[.slice A622 t606.2.1.free.length c623, .slice A626 t606.2.1.was.length c627, .slice A630 t606.2.1.lists.length c631, .slice A634 t606.2.1.grown.length c635, .slice A638 t606.2.1.whose.length c639] 35 (0, 0))], G624, G628, G632, G636, G640, [(b90, .cells #[.pointer (some ⟨p59, 0, none⟩), .pointer (some ⟨p77, 0, none⟩)] 28 (0, 0))], [(p59, .cells #[.slice A498 l500.length c499, .int .i64 x503] 135 (0, 0))], [(b48, .cells #[.pointer (some ⟨p17, 0, none⟩), .pointer (some ⟨p35, 0, none⟩)] 25 (0, 0))], [(p17, .cells #[.slice A510 l512.length c511, .int .i64 x515] 133 (0, 0))], G501, G513] := S655.objs (by rw [hg659, hq664]; simp)
        refine WD.p rfl (G.assign rfl) rfl ?_
        refine WD.nil ?_
        refine WEx.then_ ?_
        refine WCode.forget (l' := [(4, .slice (some ⟨b48, 0, none⟩) ([0, 0] : List Int).length 2), (5, .slice (some ⟨b90, 0, none⟩) ([0, 0] : List Int).length 2), (6, .pointer (some ⟨b96, 0, none⟩)), (12, .int .i64 x466), (13, .bool t606.1)]) ⟨rfl, rfl, rfl, rfl, rfl, trivial⟩ ?_
        refine WCode.seq ?_
        refine WCode.region ?_
        refine WOps.p (G.move rfl) rfl ?_
        refine WOps.p (G.not rfl rfl) rfl ?_
        refine WOps.nil ?_
        refine WEx.then_ ?_
        rcases ite_some hF with ⟨h666, hF⟩ | ⟨h666, hF⟩
        ·
         refine WCode.cond_f (kb (b := !t606.1) rfl (show (!t606.1) = false from by rw [h666]; rfl)) ?_
         refine WCode.skip ?_
         refine WEx.in_normal ?_
         refine WEx.then_ ?_
         refine WCode.region ?_
         refine WOps.p (G.move rfl) rfl ?_
         refine WOps.p (G.add rfl rfl (r := (w64 (x466 + 1))) rfl) rfl ?_
         refine WOps.p (G.assign rfl) rfl ?_
         refine WOps.nil ?_
         have S667 : St _ _ _ [[(b96, .cells #[.slice A622 t606.2.1.free.length c623, .slice A626 t606.2.1.was.length c627, .slice A630 t606.2.1.lists.length c631, .slice A634 t606.2.1.grown.length c635, .slice A638 t606.2.1.whose.length c639] 35 (0, 0))], [(b90, .cells #[.pointer (some ⟨p59, 0, none⟩), .pointer (some ⟨p77, 0, none⟩)] 28 (0, 0))], [(p77, .cells #[.slice A660 t606.2.2.2.L.length c661, .int .i64 t606.2.2.2.Time] 135 (0, 0))], [(p59, .cells #[.slice A498 l500.length c499, .int .i64 x503] 135 (0, 0))], [(b48, .cells #[.pointer (some ⟨p17, 0, none⟩), .pointer (some ⟨p35, 0, none⟩)] 25 (0, 0))], [(p35, .cells #[.slice A649 t606.2.2.1.flying.length c650, .int .i64 t606.2.2.1.time] 133 (0, 0))], [(p17, .cells #[.slice A510 l512.length c511, .int .i64 x515] 133 (0, 0))], G624, G628, G632, G636, G640, G662, G501, G651, G513] := St.reord S665 [4, 10, 0, 11, 12, 2, 13, 5, 6, 7, 8, 9, 1, 14, 3, 15] 16 rfl (by decide) rfl
         refine WEx.again _ _ (by omega) ?_ ⟨w64 (x466 + 1), A622, c623, t606.2.1.free, G624, A626, c627, t606.2.1.was, G628, A630, c631, t606.2.1.lists, G632, A634, c635, t606.2.1.grown, G636, A638, c639, t606.2.1.whose, G640, A660, c661, t606.2.2.2.L, G662, t606.2.2.2.Time, A498, c499, l500, G501, x503, A649, c650, t606.2.2.1.flying, G651, t606.2.2.1.time, A510, c511, l512, G513, x515, rfl, hF, hO625, hO629, hO633, hO637, hO641, hO663, hO502, hO652, hO514, S667⟩
         exact ⟨rfl, rfl, rfl, rfl, trivial⟩
        ·
         refine WCode.cond_t (kb (b := !t606.1) rfl (show (!t606.1) = true from by rw [(Bool.eq_false_iff.2 h666)]; rfl)) ?_
         refine WCode.seq ?_
         refine WCode.region ?_
         refine WOps.p (G.assign rfl) rfl ?_
         refine WOps.nil ?_
         refine WEx.then_ ?_
         refine WCode.ret ?_
         refine WEx.in_ret ?_
         refine WEx.then_ret ?_
         refine WEx.then_ret ?_
         refine WEx.in_ret ?_
         refine WEx.then_ret ?_
         obtain rfl := some_eq hF
         refine WEx.ret1 rfl rfl ?_
         exact ⟨rfl, St.keep (As := []) S665⟩
       ·
        exact nomatch (show (none : Option Bool) = some r_ from hF)
     ·
      refine WCode.cond_f (kb (b := decide (x466 < 2)) rfl (decide_eq_false h521)) ?_
      refine WCode.exit ?_
      refine WEx.then_exit ?_
      refine WEx.then_exit ?_
      refine WEx.in_exit ?_
      refine WEx.then_ ?_
      refine WCode.seq ?_
      refine WCode.region ?_
      refine WOps.p (G.move rfl) rfl ?_
      have S668 : St _ _ _ [[(b96, .cells #[.slice A467 l469.length c468, .slice A472 l474.length c473, .slice A477 l479.length c478, .slice A482 l484.length c483, .slice A487 l489.length c488] 35 (0, 0))], G470, G475, G480, G485, G490, [(b90, .cells #[.pointer (some ⟨p59, 0, none⟩), .pointer (some ⟨p77, 0, none⟩)] 28 (0, 0))], [(p77, .cells #[.slice A492 l494.length c493, .int .i64 x497] 135 (0, 0))], [(p59, .cells #[.slice A498 l500.length c499, .int .i64 x503] 135 (0, 0))], [(b48, .cells #[.pointer (some ⟨p17, 0, none⟩), .pointer (some ⟨p35, 0, none⟩)] 25 (0, 0))], [(p35, .cells #[.slice A504 l506.length c505, .int .i64 x509] 133 (0, 0))], [(p17, .cells #[.slice A510 l512.length c511, .int .i64 x515] 133 (0, 0))], G495, G501, G507, G513] := St.reord S517 [0, 7, 8, 9, 10, 11, 1, 2, 3, 4, 5, 6, 12, 13, 14, 15] 16 rfl (by decide) rfl
      have hO669 : ObjO 35 BookA.rp b96 (⟨l469, l474, l479, l484, l489⟩ : BookA) ([(b96, .cells #[.slice A467 l469.length c468, .slice A472 l474.length c473, .slice A477 l479.length c478, .slice A482 l484.length c483, .slice A487 l489.length c488] 35 (0, 0))] ++ (G470 ++ (G475 ++ (G480 ++ (G485 ++ (G490)))))) := ⟨_, _, ⟨A467, c468, G470, A472, c473, G475, A477, c478, G480, A482, c483, G485, A487, c488, G490, rfl, hO471, hO476, hO481, hO486, hO491, rfl⟩, rfl⟩
      have S670 : St _ _ _ [[(b96, .cells #[.slice A467 l469.length c468, .slice A472 l474.length c473, .slice A477 l479.length c478, .slice A482 l484.length c483, .slice A487 l489.length c488] 35 (0, 0))] ++ (G470 ++ (G475 ++ (G480 ++ (G485 ++ (G490))))), [(b90, .cells #[.pointer (some ⟨p59, 0, none⟩), .pointer (some ⟨p77, 0, none⟩)] 28 (0, 0))], [(p77, .cells #[.slice A492 l494.length c493, .int .i64 x497] 135 (0, 0))], [(p59, .cells #[.slice A498 l500.length c499, .int .i64 x503] 135 (0, 0))], [(b48, .cells #[.pointer (some ⟨p17, 0, none⟩), .pointer (some ⟨p35, 0, none⟩)] 25 (0, 0))], [(p35, .cells #[.slice A504 l506.length c505, .int .i64 x509] 133 (0, 0))], [(p17, .cells #[.slice A510 l512.length c511, .int .i64 x515] 133 (0, 0))], G495, G501, G507, G513] := S668.objs (by simp)
      obtain ⟨h671, hF⟩ := guard_some hF
      obtain ⟨h672, hF⟩ := guard_some hF
      obtain ⟨h673, hF⟩ := guard_some hF
      have hO674 := ObjO.cast hO669 (show (⟨l469, l474, l479, l484, l489⟩ : BookA) = (⟨l469, l474, ([] : List (List Packet)), ([] : List (List Packet)), ([] : List Int)⟩ : BookA) by rw [h671, h672, h673])
      obtain ⟨t675, hc676, hF⟩ := bind_some hF
      refine WOps.call T.call18 (evs_cons rfl evs_nil) rfl ?_
      refine (y_still_calls k518 l469 l474 hO674 hc676 (St.hpN (As := [[(b96, .cells #[.slice A467 l469.length c468, .slice A472 l474.length c473, .slice A477 l479.length c478, .slice A482 l484.length c483, .slice A487 l489.length c488] 35 (0, 0))] ++ (G470 ++ (G475 ++ (G480 ++ (G485 ++ (G490)))))]) S670)).mono ?_
      rintro _ w677 ⟨rfl, T678⟩
      have S679 := St.callN (As := [[(b96, .cells #[.slice A467 l469.length c468, .slice A472 l474.length c473, .slice A477 l479.length c478, .slice A482 l484.length c483, .slice A487 l489.length c488] 35 (0, 0))] ++ (G470 ++ (G475 ++ (G480 ++ (G485 ++ (G490)))))]) S670 T678
      change St _ _ _ [[(b90, .cells #[.pointer (some ⟨p59, 0, none⟩), .pointer (some ⟨p77, 0, none⟩)] 28 (0, 0))], [(p77, .cells #[.slice A492 l494.length c493, .int .i64 x497] 135 (0, 0))], [(p59, .cells #[.slice A498 l500.length c499, .int .i64 x503] 135 (0, 0))], [(b48, .cells #[.pointer (some ⟨p17, 0, none⟩), .pointer (some ⟨p35, 0, none⟩)] 25 (0, 0))], [(p35, .cells #[.slice A504 l506.length c505, .int .i64 x509] 133 (0, 0))], [(p17, .cells #[.slice A510 l512.length c511, .int .i64 x515] 133 (0, 0))], G495, G501, G507, G513] at S679
      refine ⟨_, rfl, ?_⟩
      refine WOps.p (G.assign rfl) rfl ?_
      refine WOps.nil ?_
      refine WEx.then_ ?_
      refine WCode.seq ?_
      refine WCode.region ?_
      refine WOps.p (G.move rfl) rfl ?_
      refine WOps.p (G.assign rfl) rfl ?_
      refine WOps.nil ?_
      refine WEx.then_ ?_
      refine WCode.forget (l' := [(2, .bool t675)]) ⟨rfl, trivial⟩ ?_
      refine WCode.ret ?_
      obtain rfl := some_eq hF
      refine WEx.ret1 rfl rfl ?_
      exact ⟨rfl, St.keep (As := []) S679⟩

end Go.Proofs.Ytoahkjehjmbojaa
