/- Functions and their walks (printed by auto.py over the engine). -/
import Derived.Test.YtoahkjehjmbojaaProg
import Derived.Test.YtoahkjehjmbojaaZT
namespace Go.Proofs.Ytoahkjehjmbojaa
open Go Go.Eng
set_option linter.unusedSimpArgs false
set_option linter.unusedVariables false

theorem T.call105 : Callable Try.prog 105 := Callable.mk Try.func105 (by kernel_rfl) (by kernel_rfl)
theorem T.call54 : Callable Try.prog 54 := Callable.mk Try.func54 (by kernel_rfl) (by kernel_rfl)
theorem T.call59 : Callable Try.prog 59 := Callable.mk Try.func59 (by kernel_rfl) (by kernel_rfl)
theorem T.call61 : Callable Try.prog 61 := Callable.mk Try.func61 (by kernel_rfl) (by kernel_rfl)
theorem T.el119 : slEl Try.prog 119 = some 3 := by kernel_rfl
theorem T.el33 : slEl Try.prog 33 = some 1 := by kernel_rfl
theorem T.fld124_2 : fldOff Try.prog 124 2 = some 2 := by kernel_rfl
theorem T.one119 : isOneT Try.prog 119 = true := by kernel_rfl
structure Act where
  Kind : Int
  K : Int
  N : Int
  deriving DecidableEq
def Act.cs (x : Act) : List Value := [.int .i64 x.Kind, .int .i64 x.K, .int .i64 x.N]
def Act.rp : Rp Act := .plain Act.cs 3 (fun _ => rfl) (fun _ => rfl)

def sh_keep (k : Nat) (a0 : Int) (a1 : List UInt8) (bc0 : List Act) (bc1 : Int) : Option Bool := (Option.bind (idx bc0 bc1) fun x1 => (Option.bind (sh_pick k x1.N 16) fun t15 => (some (decide (t15 ≤ a0)))))
set_option maxRecDepth 100000 in
set_option maxHeartbeats 1000000 in
theorem sh_keep_calls (k : Nat) (a0 : Int) (a1 : List UInt8) {Abc0 : Option Addr} {cbc0 : Nat} {Fbc0 : Nat → Prop} (bc0 : List Act) {qc0 : Nat} (bc1 : Int) {qc1 : Nat} {w : World} (hBc0 : w.heap[qc0]? = some (.cells #[.slice Abc0 bc0.length cbc0] 119 (0, 0))) (hNc0 : qc0 ∉ keys ([] : List Grp).flatten) (hRbc0 : SlR Act.rp w Fbc0 Abc0 cbc0 bc0) (hFbc0 : ∀ b, Fbc0 b → NK w [] b) (hBc1 : w.heap[qc1]? = some (.cells #[.int .i64 bc1] 3 (0, 0))) (hNc1 : qc1 ∉ keys ([] : List Grp).flatten) {r_ : Bool} (h_ : sh_keep k a0 a1 bc0 bc1 = some r_) :
    Calls Try.prog 61 [.int .i64 a0, .string (bs a1), .pointer (some ⟨qc0, 0, none⟩), .pointer (some ⟨qc1, 0, none⟩)].toArray w fun e w' => e = .returned (.bool r_) ∧ St w (KS []) w' [] := by
  have hF := h_
  clear h_
  unfold sh_keep at hF
  have S := St.ofFalse (As := []) (St.init0 w)
  refine enter 15 [(0, .int .i64 a0), (1, .string (bs a1)), (2, .pointer (some ⟨qc0, 0, none⟩)), (3, .pointer (some ⟨qc1, 0, none⟩))] Try.func61 rfl rfl rfl rfl ?_
  refine WCode.seq ?_
  refine WCode.region ?_
  refine WOps.p (G.assign rfl) rfl ?_
  refine WOps.nil ?_
  refine WEx.then_ ?_
  refine WCode.seq ?_
  refine WCode.region ?_
  refine WOps.p (G.move rfl) rfl ?_
  refine WOps.r (G.load1 T.one119 rfl (cell_blk ((S.fr qc0 (lt_of_blk hBc0) hNc0).trans hBc0) rfl)) rfl ?_
  refine WOps.r (G.load1 T.one3 rfl (cell_blk ((S.fr qc1 (lt_of_blk hBc1) hNc1).trans hBc1) rfl)) rfl ?_
  obtain ⟨x1, hc2, hF⟩ := bind_some hF
  obtain ⟨j3, ej4, hj5, hl6⟩ := idx_spec hc2
  obtain ⟨b7, o8, cs9, eA10, hf11, hc12, hr13⟩ := SlR.at_ (hRbc0.ext (S.keepF hFbc0)) hj5
  have hq14 : cs9 = [.int .i64 x1.Kind, .int .i64 x1.K, .int .i64 x1.N] := hr13
  subst hq14
  change cellsAt _ _ (o8 + j3 * 3) [.int .i64 x1.Kind, .int .i64 x1.K, .int .i64 x1.N] at hc12
  refine WOps.p (G.idx T.el119 rfl eA10 rfl ej4 hl6) rfl ?_
  refine WOps.p (G.field T.fld124_2 rfl (show o8 + j3 * 3 + 2 = o8 + j3 * 3 + 2 from rfl)) rfl ?_
  refine WOps.r (G.load1 T.one3 rfl (cellsAt.at hc12 2 rfl)) rfl ?_
  obtain ⟨t15, hc16, hF⟩ := bind_some hF
  refine WOps.call T.call54 (evs_cons rfl (evs_cons rfl evs_nil)) rfl ?_
  refine (sh_pick_calls k x1.N 16 hc16).mono ?_
  rintro _ w17 ⟨rfl, T18⟩
  have S19 := St.callN (As := []) S T18
  change St _ _ _ [] at S19
  refine ⟨_, rfl, ?_⟩
  refine WOps.p (G.geq rfl rfl rfl) rfl ?_
  refine WOps.p (G.assign rfl) rfl ?_
  refine WOps.nil ?_
  refine WEx.then_ ?_
  refine WCode.forget (l' := [(6, .bool (decide (t15 ≤ a0)))]) ⟨rfl, trivial⟩ ?_
  refine WCode.ret ?_
  obtain rfl := some_eq hF
  refine WEx.ret1 rfl rfl ?_
  exact ⟨rfl, St.keep (As := []) S19⟩

def sha_Prune.l2 : Nat → List Act → Int → List Int → Int → Int → Int → List Pair_int__string_ → Option (Int × Shelf_int__string_)
  | 0, _, _, _, _, _, _, _ => none
  | k116 + 1, b1_0, b1_1, l13, x106, x107, x108, l111 => (if x107 < (l13.length : Int) then (Option.bind (idx l13 x107) fun x123 => (Option.bind (sha_Drop k116 (⟨x108, l111⟩ : Shelf_int__string_) x123) fun t141 => (if t141.1 = 0 then (sha_Prune.l2 k116 b1_0 b1_1 l13 (w64 (x106 + 1)) (w64 (x107 + 1)) t141.2.most t141.2.pairs) else (sha_Prune.l2 k116 b1_0 b1_1 l13 x106 (w64 (x107 + 1)) t141.2.most t141.2.pairs)))) else (some (x106, (⟨x108, l111⟩ : Shelf_int__string_))))
def sha_Prune.j1 (q18 : Nat) (a0 : Shelf_int__string_) (b1_0 : List Act) (b1_1 : Int) (l13 : List Int) : Option (Int × Shelf_int__string_) := (sha_Prune.l2 q18 b1_0 b1_1 l13 0 0 a0.most a0.pairs)
def sha_Prune.l1 : Nat → Shelf_int__string_ → List Act → Int → (List Pair_int__string_) → List Int → Int → Option (Int × Shelf_int__string_)
  | 0, _, _, _, _, _, _ => none
  | k37 + 1, a0, b1_0, b1_1, t20, l31, x34 => (if x34 < ((t20).length : Int) then (Option.bind (idx (t20) x34) fun x46 => (Option.bind (sh_keep k37 x46.key x46.value b1_0 b1_1) fun t70 => (if t70 = true then (sha_Prune.l1 k37 a0 b1_0 b1_1 t20 l31 (w64 (x34 + 1))) else (Option.bind (cat l31 ([x46.key] : List Int)) fun l87 => (sha_Prune.l1 k37 a0 b1_0 b1_1 t20 l87 (w64 (x34 + 1))))))) else (sha_Prune.j1 k37 a0 b1_0 b1_1 l31))
def sha_Prune (k : Nat) (a0 : Shelf_int__string_) (b1_0 : List Act) (b1_1 : Int) : Option (Int × Shelf_int__string_) := (Option.bind (sha_Clone k a0.pairs) fun t20 => (sha_Prune.l1 k a0 b1_0 b1_1 t20 [] 0))
set_option maxRecDepth 100000 in
set_option maxHeartbeats 1000000 in
theorem sha_Prune_calls (k : Nat) (a0 : Shelf_int__string_) {p0 : Nat} {G0 : Grp} {Ab1_0 : Option Addr} {cb1_0 : Nat} {Fb1_0 : Nat → Prop} (b1_0 : List Act) {q1_0 : Nat} (b1_1 : Int) {q1_1 : Nat} {w : World} (hO0 : ObjO 183 Shelf_int__string_.rp p0 a0 G0) (hB1_0 : w.heap[q1_0]? = some (.cells #[.slice Ab1_0 b1_0.length cb1_0] 119 (0, 0))) (hN1_0 : q1_0 ∉ keys ([G0] : List Grp).flatten) (hRb1_0 : SlR Act.rp w Fb1_0 Ab1_0 cb1_0 b1_0) (hFb1_0 : ∀ b, Fb1_0 b → NK w [G0] b) (hB1_1 : w.heap[q1_1]? = some (.cells #[.int .i64 b1_1] 3 (0, 0))) (hN1_1 : q1_1 ∉ keys ([G0] : List Grp).flatten) {r_ : Int × Shelf_int__string_} (h_ : sha_Prune k a0 b1_0 b1_1 = some r_) (hp_ : Hp w ([G0]).flatten) :
    Calls Try.prog 60 [.pointer (some ⟨p0, 0, none⟩), .func (.func 61) #[] #[.pointer (some ⟨q1_0, 0, none⟩), .pointer (some ⟨q1_1, 0, none⟩)]].toArray w fun e w' => ∃ Go0' : Grp, e = .returned (.int .i64 r_.1) ∧ ObjO 183 Shelf_int__string_.rp p0 (r_.2) Go0' ∧ St w (KS [G0]) w' [Go0'] := by
  have hF := h_
  clear h_
  unfold sha_Prune at hF
  have S := St.initK [G0] hp_
  obtain ⟨cs1, G2, ho3, hg4⟩ := hO0
  obtain ⟨A5, c6, G7, rfl, hO8, hq9⟩ := ho3
  have S10 : St _ _ _ [[(p0, .cells #[.int .i64 a0.most, .slice A5 a0.pairs.length c6] 183 (0, 0))], G7] := S.objs (by rw [hg4, hq9]; simp)
  refine enter 48 [(0, .pointer (some ⟨p0, 0, none⟩)), (1, .func (.func 61) #[] #[.pointer (some ⟨q1_0, 0, none⟩), .pointer (some ⟨q1_1, 0, none⟩)])] Try.func60 rfl rfl rfl rfl ?_
  refine WCode.seq ?_
  refine WCode.region ?_
  refine WOps.p (G.assign rfl) rfl ?_
  refine WOps.nil ?_
  refine WEx.then_ ?_
  refine WCode.seq ?_
  refine WCode.region ?_
  refine WOps.p (G.assign rfl) rfl ?_
  refine WOps.nil ?_
  refine WEx.then_ ?_
  refine WCode.cutseq (fun l_ w_ => ∃ q18 : Nat, ∃ A11 : Option Addr, ∃ c12 : Nat, ∃ l13 : List Int, ∃ G14 : Grp, l_ = [(0, .pointer (some ⟨p0, 0, none⟩)), (5, .slice A11 l13.length c12)] ∧ sha_Prune.j1 q18 a0 b1_0 b1_1 l13 = some r_ ∧ (SlO 3 (Rp.int .i64) (.slice A11 l13.length c12) l13 G14) ∧ St w (KS [G0]) w_ [[(p0, .cells #[.int .i64 a0.most, .slice A5 a0.pairs.length c6] 183 (0, 0))], G7, G14]) ?_ ?_
  ·
    refine WCode.seq ?_
    refine WCode.region ?_
    refine WOps.p (G.move rfl) rfl ?_
    refine WOps.p (G.nilp rfl) rfl ?_
    refine WOps.p (G.field T.fld183_1 rfl (show 0 + 1 = 1 from rfl)) rfl ?_
    refine WOps.r (G.load1 T.one181 rfl (cell_blk (S10.blk 0 rfl) rfl)) rfl ?_
    obtain ⟨t20, hc21, hF⟩ := bind_some hF
    refine WOps.call T.call105 (evs_cons rfl evs_nil) rfl ?_
    refine (sha_Clone_calls k a0.pairs (hO8.rd (fun b o hb => S10.grp 1 rfl hb)) (St.outG (Bs := []) S10 1 rfl) hc21).mono ?_
    rintro _ w22 ⟨A25, c26, G27, rfl, hO28, T23⟩
    have S24 := St.callN (As := []) S10 T23
    change St _ _ _ [G27, [(p0, .cells #[.int .i64 a0.most, .slice A5 a0.pairs.length c6] 183 (0, 0))], G7] at S24
    refine ⟨_, rfl, ?_⟩
    refine WOps.p (G.len T.el181 rfl) rfl ?_
    refine WOps.p (G.move rfl) rfl ?_
    refine WOps.nil ?_
    refine WEx.then_ ?_
    refine WCode.block ?_
    have S39 := S24.emp
    have S41 := S39.front 3 rfl
    change St _ _ _ [G7, ([] : Grp), G27, [(p0, .cells #[.int .i64 a0.most, .slice A5 a0.pairs.length c6] 183 (0, 0))]] at S41
    have S42 := S41.front 2 rfl
    change St _ _ _ [G27, G7, ([] : Grp), [(p0, .cells #[.int .i64 a0.most, .slice A5 a0.pairs.length c6] 183 (0, 0))]] at S42
    have S43 := S42.front 3 rfl
    change St _ _ _ [[(p0, .cells #[.int .i64 a0.most, .slice A5 a0.pairs.length c6] 183 (0, 0))], G27, G7, ([] : Grp)] at S43
    refine WCode.forget (l' := [(0, .pointer (some ⟨p0, 0, none⟩)), (1, .func (.func 61) #[] #[.pointer (some ⟨q1_0, 0, none⟩), .pointer (some ⟨q1_1, 0, none⟩)]), (5, .slice none 0 0), (15, .slice A25 (t20).length c26), (16, .int .i64 ((t20).length : Int)), (17, .int .i64 0)]) ⟨rfl, rfl, rfl, rfl, rfl, rfl, trivial⟩ ?_
    refine WCode.loop (fun n_ l_ w_ => ∃ A29 : Option Addr, ∃ c30 : Nat, ∃ l31 : List Int, ∃ G32 : Grp, ∃ x34 : Int, l_ = [(0, .pointer (some ⟨p0, 0, none⟩)), (1, .func (.func 61) #[] #[.pointer (some ⟨q1_0, 0, none⟩), .pointer (some ⟨q1_1, 0, none⟩)]), (5, .slice A29 l31.length c30), (15, .slice A25 (t20).length c26), (16, .int .i64 ((t20).length : Int)), (17, .int .i64 x34)] ∧ sha_Prune.l1 n_ a0 b1_0 b1_1 t20 l31 x34 = some r_ ∧ (SlO 3 (Rp.int .i64) (.slice A29 l31.length c30) l31 G32) ∧ St w (KS [G0]) w_ [[(p0, .cells #[.int .i64 a0.most, .slice A5 a0.pairs.length c6] 183 (0, 0))], G27, G7, G32]) k ⟨none, 0, [], ([] : Grp), 0, rfl, hF, (SlO.nil 3 (Rp.int .i64)), S43⟩ ?_
    rintro n38 _ w35 ⟨A29, c30, l31, G32, x34, rfl, hF, hO33, S36⟩
    obtain _ | k37 := n38
    · exact nomatch (show (none : Option (Int × Shelf_int__string_)) = some r_ from hF)
    rw [sha_Prune.l1] at hF
    refine WCode.seq ?_
    refine WCode.region ?_
    refine WOps.p (G.lss rfl rfl rfl) rfl ?_
    refine WOps.nil ?_
    refine WEx.then_ ?_
    refine WCode.seq ?_
    rcases ite_some hF with ⟨h45, hF⟩ | ⟨h45, hF⟩
    ·
      refine WCode.cond_t (kb (b := decide (x34 < ((t20).length : Int))) rfl (decide_eq_true h45)) ?_
      refine WCode.skip ?_
      refine WEx.then_ ?_
      refine WCode.seq ?_
      refine WCode.block ?_
      refine WCode.seq ?_
      refine WCode.region ?_
      obtain ⟨x46, hc47, hF⟩ := bind_some hF
      obtain ⟨j48, ej49, hj50, hl51⟩ := idx_spec hc47
      obtain ⟨b52, o53, cs54, eA55, hf56, hc57, hr58⟩ := SlR.at_ (hO28.rd (fun b o hb => S36.grp 1 rfl hb)) hj50
      have hq59 : cs54 = [.int .i64 x46.key, .string (bs x46.value)] := hr58
      subst hq59
      change cellsAt _ _ (o53 + j48 * 2) [.int .i64 x46.key, .string (bs x46.value)] at hc57
      refine WOps.p (G.idx T.el181 rfl eA55 rfl ej49 hl51) rfl ?_
      refine WOps.r (G.loada T.agg187_2 rfl (cs := [.int .i64 x46.key, .string (bs x46.value)]) hc57) rfl ?_
      obtain ⟨b60, w61, E62, S63, X64, L65⟩ := St.var S36 (z := .agg #[.int .i64 0, .string (bs ([] : List UInt8))]) T.zero187
      have c66 := hc57.ext X64
      change St _ _ _ [[(b60, .cells #[.int .i64 0, .string (bs ([] : List UInt8))] 187 (0, 0))], [(p0, .cells #[.int .i64 a0.most, .slice A5 a0.pairs.length c6] 183 (0, 0))], G27, G7, G32] at S63
      refine WOps.e E62 rfl ?_
      obtain ⟨w67, E68, S69⟩ := St.store (P := Try.prog) S63 0 187 (.agg #[.int .i64 x46.key, .string (bs x46.value)]) (off := 0) (cur' := #[.int .i64 x46.key, .string (bs x46.value)]) rfl T.size187_2 rfl rfl rfl
      change St _ _ _ [[(b60, .cells #[.int .i64 x46.key, .string (bs x46.value)] 187 (0, 0))], [(p0, .cells #[.int .i64 a0.most, .slice A5 a0.pairs.length c6] 183 (0, 0))], G27, G7, G32] at S69
      refine WOps.u (E68 rfl rfl) ?_
      refine WOps.nil ?_
      refine WEx.then_ ?_
      refine WCode.seq ?_
      refine WCode.region ?_
      refine WOps.p (G.move rfl) rfl ?_
      refine WOps.p (G.field T.fld187_0 rfl (show 0 + 0 = 0 from rfl)) rfl ?_
      refine WOps.r (G.load1 T.one3 rfl (cell_blk (S69.blk 0 rfl) rfl)) rfl ?_
      refine WOps.p (G.field T.fld187_1 rfl (show 0 + 1 = 1 from rfl)) rfl ?_
      refine WOps.r (G.load1 T.one9 rfl (cell_blk (S69.blk 0 rfl) rfl)) rfl ?_
      obtain ⟨t70, hc71, hF⟩ := bind_some hF
      refine WOps.callv T.call61 rfl (evs_cons rfl (evs_cons rfl evs_nil)) rfl ?_
      refine (sh_keep_calls k37 x46.key x46.value b1_0 b1_1 ((S69.fr q1_0 (lt_of_blk hB1_0) hN1_0).trans hB1_0) (by simp [keys]) (hRb1_0.ext (S69.keepF hFb1_0)) (St.outF (Bs := []) S69 hFb1_0) ((S69.fr q1_1 (lt_of_blk hB1_1) hN1_1).trans hB1_1) (by simp [keys]) hc71).mono ?_
      rintro _ w72 ⟨rfl, T73⟩
      have S74 := St.callN (As := []) S69 T73
      change St _ _ _ [[(b60, .cells #[.int .i64 x46.key, .string (bs x46.value)] 187 (0, 0))], [(p0, .cells #[.int .i64 a0.most, .slice A5 a0.pairs.length c6] 183 (0, 0))], G27, G7, G32] at S74
      refine ⟨_, rfl, ?_⟩
      refine WOps.p (G.not rfl rfl) rfl ?_
      refine WOps.nil ?_
      refine WEx.then_ ?_
      rcases ite_some hF with ⟨h75, hF⟩ | ⟨h75, hF⟩
      ·
        refine WCode.cond_f (kb (b := !t70) rfl (show (!t70) = false from by rw [h75]; rfl)) ?_
        refine WCode.skip ?_
        refine WEx.in_normal ?_
        refine WEx.then_ ?_
        refine WCode.forget (l' := [(0, .pointer (some ⟨p0, 0, none⟩)), (1, .func (.func 61) #[] #[.pointer (some ⟨q1_0, 0, none⟩), .pointer (some ⟨q1_1, 0, none⟩)]), (5, .slice A29 l31.length c30), (15, .slice A25 (t20).length c26), (16, .int .i64 ((t20).length : Int)), (17, .int .i64 x34)]) ⟨rfl, rfl, rfl, rfl, rfl, rfl, trivial⟩ ?_
        refine WCode.region ?_
        refine WOps.p (G.add rfl rfl (r := (w64 (x34 + 1))) rfl) rfl ?_
        refine WOps.p (G.move rfl) rfl ?_
        refine WOps.nil ?_
        have S76 := S74.front 4 rfl
        change St _ _ _ [G32, [(b60, .cells #[.int .i64 x46.key, .string (bs x46.value)] 187 (0, 0))], [(p0, .cells #[.int .i64 a0.most, .slice A5 a0.pairs.length c6] 183 (0, 0))], G27, G7] at S76
        have S77 := S76.front 4 rfl
        change St _ _ _ [G7, G32, [(b60, .cells #[.int .i64 x46.key, .string (bs x46.value)] 187 (0, 0))], [(p0, .cells #[.int .i64 a0.most, .slice A5 a0.pairs.length c6] 183 (0, 0))], G27] at S77
        have S78 := S77.front 4 rfl
        change St _ _ _ [G27, G7, G32, [(b60, .cells #[.int .i64 x46.key, .string (bs x46.value)] 187 (0, 0))], [(p0, .cells #[.int .i64 a0.most, .slice A5 a0.pairs.length c6] 183 (0, 0))]] at S78
        have S79 := S78.front 4 rfl
        change St _ _ _ [[(p0, .cells #[.int .i64 a0.most, .slice A5 a0.pairs.length c6] 183 (0, 0))], G27, G7, G32, [(b60, .cells #[.int .i64 x46.key, .string (bs x46.value)] 187 (0, 0))]] at S79
        have S80 := St.keep (As := [[(p0, .cells #[.int .i64 a0.most, .slice A5 a0.pairs.length c6] 183 (0, 0))], G27, G7, G32]) S79
        refine WEx.again _ _ (by omega) ?_ ⟨A29, c30, l31, G32, w64 (x34 + 1), rfl, hF, hO33, S80⟩
        exact ⟨rfl, rfl, rfl, rfl, rfl, rfl, trivial⟩
      ·
        refine WCode.cond_t (kb (b := !t70) rfl (show (!t70) = true from by rw [(Bool.eq_false_iff.2 h75)]; rfl)) ?_
        refine WCode.region ?_
        refine WOps.p (G.move rfl) rfl ?_
        refine WOps.p (G.field T.fld187_0 rfl (show 0 + 0 = 0 from rfl)) rfl ?_
        refine WOps.r (G.load1 T.one3 rfl (cell_blk (S74.blk 0 rfl) rfl)) rfl ?_
        obtain ⟨b81, w82, E83, S84, X85, L86⟩ := St.lit S74 (P := Try.prog) (t := 33) (e := 3) (n := 1) (vs := [(0, .int .i64 x46.key)]) (cs := #[.int .i64 x46.key]) (by kernel_rfl)
        change St _ _ _ [[(b81, .cells #[.int .i64 x46.key] 3 (0, 0))], [(b60, .cells #[.int .i64 x46.key, .string (bs x46.value)] 187 (0, 0))], [(p0, .cells #[.int .i64 a0.most, .slice A5 a0.pairs.length c6] 183 (0, 0))], G27, G7, G32] at S84
        refine WOps.e (E83 (evp_cons rfl evp_nil)) rfl ?_
        obtain ⟨l87, hc88, hF⟩ := bind_some hF
        have S89 := S84.front 5 rfl
        change St _ _ _ [G32, [(b81, .cells #[.int .i64 x46.key] 3 (0, 0))], [(b60, .cells #[.int .i64 x46.key, .string (bs x46.value)] 187 (0, 0))], [(p0, .cells #[.int .i64 a0.most, .slice A5 a0.pairs.length c6] 183 (0, 0))], G27, G7] at S89
        obtain ⟨A90, c91, G92, w93, E94, hO95, S96, hk97⟩ := St.appP (P := Try.prog) (r := (Rp.int .i64)) (M := ([x46.key] : List Int)) S89 T.elt33 rfl hO33 (Rd.of_blk (S89.blk 1 rfl) (n := 1) (sz := 1) rfl) ⟨_, _, [], [], rfl, rfl, ⟨rfl, rfl⟩, ⟨rfl, rfl⟩⟩ rfl hc88
        change St _ _ _ [G92, [(b81, .cells #[.int .i64 x46.key] 3 (0, 0))], [(b60, .cells #[.int .i64 x46.key, .string (bs x46.value)] 187 (0, 0))], [(p0, .cells #[.int .i64 a0.most, .slice A5 a0.pairs.length c6] 183 (0, 0))], G27, G7] at S96
        refine WOps.e (E94 rfl rfl) rfl ?_
        refine WOps.p (G.assign rfl) rfl ?_
        refine WOps.nil ?_
        refine WEx.in_normal ?_
        refine WEx.then_ ?_
        refine WCode.forget (l' := [(0, .pointer (some ⟨p0, 0, none⟩)), (1, .func (.func 61) #[] #[.pointer (some ⟨q1_0, 0, none⟩), .pointer (some ⟨q1_1, 0, none⟩)]), (5, .slice A90 l87.length c91), (15, .slice A25 (t20).length c26), (16, .int .i64 ((t20).length : Int)), (17, .int .i64 x34)]) ⟨rfl, rfl, rfl, rfl, rfl, rfl, trivial⟩ ?_
        refine WCode.region ?_
        refine WOps.p (G.add rfl rfl (r := (w64 (x34 + 1))) rfl) rfl ?_
        refine WOps.p (G.move rfl) rfl ?_
        refine WOps.nil ?_
        have S98 := S96.front 5 rfl
        change St _ _ _ [G7, G92, [(b81, .cells #[.int .i64 x46.key] 3 (0, 0))], [(b60, .cells #[.int .i64 x46.key, .string (bs x46.value)] 187 (0, 0))], [(p0, .cells #[.int .i64 a0.most, .slice A5 a0.pairs.length c6] 183 (0, 0))], G27] at S98
        have S99 := S98.front 5 rfl
        change St _ _ _ [G27, G7, G92, [(b81, .cells #[.int .i64 x46.key] 3 (0, 0))], [(b60, .cells #[.int .i64 x46.key, .string (bs x46.value)] 187 (0, 0))], [(p0, .cells #[.int .i64 a0.most, .slice A5 a0.pairs.length c6] 183 (0, 0))]] at S99
        have S100 := S99.front 5 rfl
        change St _ _ _ [[(p0, .cells #[.int .i64 a0.most, .slice A5 a0.pairs.length c6] 183 (0, 0))], G27, G7, G92, [(b81, .cells #[.int .i64 x46.key] 3 (0, 0))], [(b60, .cells #[.int .i64 x46.key, .string (bs x46.value)] 187 (0, 0))]] at S100
        have S101 := St.keep (As := [[(p0, .cells #[.int .i64 a0.most, .slice A5 a0.pairs.length c6] 183 (0, 0))], G27, G7, G92]) S100
        refine WEx.again _ _ (by omega) ?_ ⟨A90, c91, l87, G92, w64 (x34 + 1), rfl, hF, hO95, S101⟩
        exact ⟨rfl, rfl, rfl, rfl, rfl, rfl, trivial⟩
    ·
      refine WCode.cond_f (kb (b := decide (x34 < ((t20).length : Int))) rfl (decide_eq_false h45)) ?_
      refine WCode.exit ?_
      refine WEx.then_exit ?_
      refine WEx.then_exit ?_
      refine WEx.in_exit ?_
      have S102 := S36.front 3 rfl
      change St _ _ _ [G32, [(p0, .cells #[.int .i64 a0.most, .slice A5 a0.pairs.length c6] 183 (0, 0))], G27, G7] at S102
      have S103 := S102.front 3 rfl
      change St _ _ _ [G7, G32, [(p0, .cells #[.int .i64 a0.most, .slice A5 a0.pairs.length c6] 183 (0, 0))], G27] at S103
      have S104 := S103.front 2 rfl
      change St _ _ _ [[(p0, .cells #[.int .i64 a0.most, .slice A5 a0.pairs.length c6] 183 (0, 0))], G7, G32, G27] at S104
      have S105 := St.keep (As := [[(p0, .cells #[.int .i64 a0.most, .slice A5 a0.pairs.length c6] 183 (0, 0))], G7, G32]) S104
      refine WEx.cutend _ ?_ ⟨k37, A29, c30, l31, G32, rfl, hF, hO33, S105⟩
      exact ⟨rfl, rfl, trivial⟩
  ·
    rintro _ w16 ⟨q18, A11, c12, l13, G14, rfl, hF, hO15, S17⟩
    unfold sha_Prune.j1 at hF
    refine WCode.seq ?_
    refine WCode.region ?_
    refine WOps.p (G.assign rfl) rfl ?_
    refine WOps.nil ?_
    refine WEx.then_ ?_
    refine WCode.seq ?_
    refine WCode.seq ?_
    refine WCode.region ?_
    refine WOps.p (G.move rfl) rfl ?_
    refine WOps.p (G.len T.el33 rfl) rfl ?_
    refine WOps.p (G.move rfl) rfl ?_
    refine WOps.nil ?_
    refine WEx.then_ ?_
    refine WCode.block ?_
    have S118 := S17.front 1 rfl
    change St _ _ _ [G7, [(p0, .cells #[.int .i64 a0.most, .slice A5 a0.pairs.length c6] 183 (0, 0))], G14] at S118
    have S119 := S118.front 2 rfl
    change St _ _ _ [G14, G7, [(p0, .cells #[.int .i64 a0.most, .slice A5 a0.pairs.length c6] 183 (0, 0))]] at S119
    have S120 := S119.front 2 rfl
    change St _ _ _ [[(p0, .cells #[.int .i64 a0.most, .slice A5 a0.pairs.length c6] 183 (0, 0))], G14, G7] at S120
    refine WCode.forget (l' := [(0, .pointer (some ⟨p0, 0, none⟩)), (8, .int .i64 0), (34, .slice A11 l13.length c12), (35, .int .i64 (l13.length : Int)), (36, .int .i64 0)]) ⟨rfl, rfl, rfl, rfl, rfl, trivial⟩ ?_
    refine WCode.loop (fun n_ l_ w_ => ∃ x106 : Int, ∃ x107 : Int, ∃ x108 : Int, ∃ A109 : Option Addr, ∃ c110 : Nat, ∃ l111 : List Pair_int__string_, ∃ G112 : Grp, l_ = [(0, .pointer (some ⟨p0, 0, none⟩)), (8, .int .i64 x106), (34, .slice A11 l13.length c12), (35, .int .i64 (l13.length : Int)), (36, .int .i64 x107)] ∧ sha_Prune.l2 n_ b1_0 b1_1 l13 x106 x107 x108 l111 = some r_ ∧ (SlO 187 Pair_int__string_.rp (.slice A109 l111.length c110) l111 G112) ∧ St w (KS [G0]) w_ [[(p0, .cells #[.int .i64 x108, .slice A109 l111.length c110] 183 (0, 0))], G14, G112]) q18 ⟨0, 0, a0.most, A5, c6, a0.pairs, G7, rfl, hF, hO8, S120⟩ ?_
    rintro n117 _ w114 ⟨x106, x107, x108, A109, c110, l111, G112, rfl, hF, hO113, S115⟩
    obtain _ | k116 := n117
    · exact nomatch (show (none : Option (Int × Shelf_int__string_)) = some r_ from hF)
    rw [sha_Prune.l2] at hF
    refine WCode.seq ?_
    refine WCode.region ?_
    refine WOps.p (G.lss rfl rfl rfl) rfl ?_
    refine WOps.nil ?_
    refine WEx.then_ ?_
    refine WCode.seq ?_
    rcases ite_some hF with ⟨h122, hF⟩ | ⟨h122, hF⟩
    ·
      refine WCode.cond_t (kb (b := decide (x107 < (l13.length : Int))) rfl (decide_eq_true h122)) ?_
      refine WCode.skip ?_
      refine WEx.then_ ?_
      refine WCode.seq ?_
      refine WCode.block ?_
      refine WCode.seq ?_
      refine WCode.region ?_
      obtain ⟨x123, hc124, hF⟩ := bind_some hF
      obtain ⟨j125, ej126, hj127, hl128⟩ := idx_spec hc124
      obtain ⟨b129, o130, cs131, eA132, hf133, hc134, hr135⟩ := SlR.at_ (hO15.rd (fun b o hb => S115.grp 1 rfl hb)) hj127
      have hq136 : cs131 = [.int .i64 x123] := hr135
      subst hq136
      change cellsAt _ _ (o130 + j125 * 1) [.int .i64 x123] at hc134
      refine WOps.p (G.idx T.el33 rfl eA132 rfl ej126 hl128) rfl ?_
      refine WOps.r (G.load1 T.one3 rfl (cellsAt.at0 hc134)) rfl ?_
      refine WOps.p (G.assign rfl) rfl ?_
      refine WOps.nil ?_
      refine WEx.then_ ?_
      refine WCode.seq ?_
      refine WCode.region ?_
      refine WOps.p (G.move rfl) rfl ?_
      refine WOps.p (G.move rfl) rfl ?_
      have S137 := S115.front 2 rfl
      change St _ _ _ [G112, [(p0, .cells #[.int .i64 x108, .slice A109 l111.length c110] 183 (0, 0))], G14] at S137
      have S138 := S137.front 1 rfl
      change St _ _ _ [[(p0, .cells #[.int .i64 x108, .slice A109 l111.length c110] 183 (0, 0))], G112, G14] at S138
      have hO139 : ObjO 183 Shelf_int__string_.rp p0 (⟨x108, l111⟩ : Shelf_int__string_) ([(p0, .cells #[.int .i64 x108, .slice A109 l111.length c110] 183 (0, 0))] ++ (G112)) := ⟨_, _, ⟨A109, c110, G112, rfl, hO113, rfl⟩, rfl⟩
      have S140 : St _ _ _ [[(p0, .cells #[.int .i64 x108, .slice A109 l111.length c110] 183 (0, 0))] ++ (G112), G14] := S138.objs (by simp)
      obtain ⟨t141, hc142, hF⟩ := bind_some hF
      refine WOps.call T.call59 (evs_cons rfl (evs_cons rfl evs_nil)) rfl ?_
      refine (sha_Drop_calls k116 (⟨x108, l111⟩ : Shelf_int__string_) x123 hO139 hc142 (St.hpN (As := [[(p0, .cells #[.int .i64 x108, .slice A109 l111.length c110] 183 (0, 0))] ++ (G112)]) S140)).mono ?_
      rintro _ w143 ⟨G146, rfl, hO147, T144⟩
      have S145 := St.callN (As := [[(p0, .cells #[.int .i64 x108, .slice A109 l111.length c110] 183 (0, 0))] ++ (G112)]) S140 T144
      change St _ _ _ [G146, G14] at S145
      refine ⟨_, rfl, ?_⟩
      obtain ⟨cs148, G149, ho150, hg151⟩ := hO147
      obtain ⟨A152, c153, G154, rfl, hO155, hq156⟩ := ho150
      have S157 : St _ _ _ [[(p0, .cells #[.int .i64 t141.2.most, .slice A152 t141.2.pairs.length c153] 183 (0, 0))], G154, G14] := S145.objs (by rw [hg151, hq156]; simp)
      refine WOps.p (G.eql rfl rfl rfl) rfl ?_
      refine WOps.nil ?_
      refine WEx.then_ ?_
      rcases ite_some hF with ⟨h158, hF⟩ | ⟨h158, hF⟩
      ·
        refine WCode.cond_t (kb (b := decide (t141.1 = 0)) rfl (decide_eq_true h158)) ?_
        refine WCode.region ?_
        refine WOps.p (G.move rfl) rfl ?_
        refine WOps.p (G.add rfl rfl (r := (w64 (x106 + 1))) rfl) rfl ?_
        refine WOps.p (G.assign rfl) rfl ?_
        refine WOps.nil ?_
        refine WEx.in_normal ?_
        refine WEx.then_ ?_
        refine WCode.forget (l' := [(0, .pointer (some ⟨p0, 0, none⟩)), (8, .int .i64 (w64 (x106 + 1))), (34, .slice A11 l13.length c12), (35, .int .i64 (l13.length : Int)), (36, .int .i64 x107)]) ⟨rfl, rfl, rfl, rfl, rfl, trivial⟩ ?_
        refine WCode.region ?_
        refine WOps.p (G.add rfl rfl (r := (w64 (x107 + 1))) rfl) rfl ?_
        refine WOps.p (G.move rfl) rfl ?_
        refine WOps.nil ?_
        have S159 := S157.front 1 rfl
        change St _ _ _ [G154, [(p0, .cells #[.int .i64 t141.2.most, .slice A152 t141.2.pairs.length c153] 183 (0, 0))], G14] at S159
        have S160 := S159.front 2 rfl
        change St _ _ _ [G14, G154, [(p0, .cells #[.int .i64 t141.2.most, .slice A152 t141.2.pairs.length c153] 183 (0, 0))]] at S160
        have S161 := S160.front 2 rfl
        change St _ _ _ [[(p0, .cells #[.int .i64 t141.2.most, .slice A152 t141.2.pairs.length c153] 183 (0, 0))], G14, G154] at S161
        refine WEx.again _ _ (by omega) ?_ ⟨w64 (x106 + 1), w64 (x107 + 1), t141.2.most, A152, c153, t141.2.pairs, G154, rfl, hF, hO155, S161⟩
        exact ⟨rfl, rfl, rfl, rfl, rfl, trivial⟩
      ·
        refine WCode.cond_f (kb (b := decide (t141.1 = 0)) rfl (decide_eq_false h158)) ?_
        refine WCode.skip ?_
        refine WEx.in_normal ?_
        refine WEx.then_ ?_
        refine WCode.region ?_
        refine WOps.p (G.add rfl rfl (r := (w64 (x107 + 1))) rfl) rfl ?_
        refine WOps.p (G.move rfl) rfl ?_
        refine WOps.nil ?_
        have S162 := S157.front 1 rfl
        change St _ _ _ [G154, [(p0, .cells #[.int .i64 t141.2.most, .slice A152 t141.2.pairs.length c153] 183 (0, 0))], G14] at S162
        have S163 := S162.front 2 rfl
        change St _ _ _ [G14, G154, [(p0, .cells #[.int .i64 t141.2.most, .slice A152 t141.2.pairs.length c153] 183 (0, 0))]] at S163
        have S164 := S163.front 2 rfl
        change St _ _ _ [[(p0, .cells #[.int .i64 t141.2.most, .slice A152 t141.2.pairs.length c153] 183 (0, 0))], G14, G154] at S164
        refine WEx.again _ _ (by omega) ?_ ⟨x106, w64 (x107 + 1), t141.2.most, A152, c153, t141.2.pairs, G154, rfl, hF, hO155, S164⟩
        exact ⟨rfl, rfl, rfl, rfl, rfl, trivial⟩
    ·
      refine WCode.cond_f (kb (b := decide (x107 < (l13.length : Int))) rfl (decide_eq_false h122)) ?_
      refine WCode.exit ?_
      refine WEx.then_exit ?_
      refine WEx.then_exit ?_
      refine WEx.in_exit ?_
      refine WEx.then_ ?_
      refine WCode.seq ?_
      refine WCode.region ?_
      refine WOps.p (G.move rfl) rfl ?_
      refine WOps.p (G.assign rfl) rfl ?_
      refine WOps.nil ?_
      refine WEx.then_ ?_
      refine WCode.ret ?_
      obtain rfl := some_eq hF
      refine WEx.ret1 rfl rfl ?_
      have S165 := S115.front 2 rfl
      change St _ _ _ [G112, [(p0, .cells #[.int .i64 x108, .slice A109 l111.length c110] 183 (0, 0))], G14] at S165
      have S166 := S165.front 1 rfl
      change St _ _ _ [[(p0, .cells #[.int .i64 x108, .slice A109 l111.length c110] 183 (0, 0))], G112, G14] at S166
      have hO167 : ObjO 183 Shelf_int__string_.rp p0 (⟨x108, l111⟩ : Shelf_int__string_) ([(p0, .cells #[.int .i64 x108, .slice A109 l111.length c110] 183 (0, 0))] ++ (G112)) := ⟨_, _, ⟨A109, c110, G112, rfl, hO113, rfl⟩, rfl⟩
      have S168 : St _ _ _ [[(p0, .cells #[.int .i64 x108, .slice A109 l111.length c110] 183 (0, 0))] ++ (G112), G14] := S166.objs (by simp)
      exact ⟨[(p0, .cells #[.int .i64 x108, .slice A109 l111.length c110] 183 (0, 0))] ++ (G112), rfl, hO167, St.keep (As := [[(p0, .cells #[.int .i64 x108, .slice A109 l111.length c110] 183 (0, 0))] ++ (G112)]) S168⟩

end Go.Proofs.Ytoahkjehjmbojaa
