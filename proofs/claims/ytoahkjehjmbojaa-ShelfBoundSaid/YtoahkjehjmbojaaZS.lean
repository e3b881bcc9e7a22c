/- Functions and their walks (printed by auto.py over the engine). -/
import Derived.Test.YtoahkjehjmbojaaProg
import Derived.Test.YtoahkjehjmbojaaDel
namespace Go.Proofs.Ytoahkjehjmbojaa
open Go Go.Eng
set_option linter.unusedSimpArgs false
set_option linter.unusedVariables false
theorem T.mixed : Try.prog.follows .mixedOrders = true := by kernel_rfl
theorem T.agg187_2 : isAggT Try.prog 187 2 = true := by kernel_rfl
theorem T.call103 : Callable Try.prog 103 := Callable.mk Try.func103 (by kernel_rfl) (by kernel_rfl)
theorem T.call104 : Callable Try.prog 104 := Callable.mk Try.func104 (by kernel_rfl) (by kernel_rfl)
theorem T.call123 : Callable Try.prog 123 := Callable.mk Try.func123 (by kernel_rfl) (by kernel_rfl)
theorem T.call124 : Callable Try.prog 124 := Callable.mk Try.func124 (by kernel_rfl) (by kernel_rfl)
theorem T.el181 : slEl Try.prog 181 = some 2 := by kernel_rfl
theorem T.elt181 : Elt Try.prog 181 187 2 24 := elt_mk (z := .agg #[.int .i64 0, .string ⟨#[]⟩]) Try.underlying181 (by kernel_rfl) rfl
theorem T.elt33 : Elt Try.prog 33 3 1 8 := elt_mk (z := .int .i64 0) Try.underlying33 (by kernel_rfl) rfl
theorem T.fld183_0 : fldOff Try.prog 183 0 = some 0 := by kernel_rfl
theorem T.fld183_1 : fldOff Try.prog 183 1 = some 1 := by kernel_rfl
theorem T.fld187_0 : fldOff Try.prog 187 0 = some 0 := by kernel_rfl
theorem T.fld187_1 : fldOff Try.prog 187 1 = some 1 := by kernel_rfl
theorem T.one181 : isOneT Try.prog 181 = true := by kernel_rfl
theorem T.one3 : isOneT Try.prog 3 = true := by kernel_rfl
theorem T.one9 : isOneT Try.prog 9 = true := by kernel_rfl
theorem T.size181_1 : sizeT Try.prog 181 = some 1 := by kernel_rfl
theorem T.size187_2 : sizeT Try.prog 187 = some 2 := by kernel_rfl
theorem T.size9_1 : sizeT Try.prog 9 = some 1 := by kernel_rfl
theorem T.zero187 : zeroOf Try.prog 187 = some (.agg #[.int .i64 0, .string (bs ([] : List UInt8))]) := by kernel_rfl
structure Pair_int__string_ where
  key : Int
  value : List UInt8
  deriving DecidableEq
def Pair_int__string_.cs (x : Pair_int__string_) : List Value := [.int .i64 x.key, .string (bs x.value)]
def Pair_int__string_.rp : Rp Pair_int__string_ := .plain Pair_int__string_.cs 2 (fun _ => rfl) (fun _ => rfl)
structure Shelf_int__string_ where
  most : Int
  pairs : List Pair_int__string_
  deriving DecidableEq
def Shelf_int__string_.rp : Rp Shelf_int__string_ where
  sz := 2
  rd := fun w F x cs => ∃ A1 : Option Addr, ∃ c1 : Nat, cs = [.int .i64 x.most, .slice A1 (x.pairs).length c1] ∧ SlR Pair_int__string_.rp w F A1 c1 (x.pairs)
  own := fun x cs G => ∃ A1 : Option Addr, ∃ c1 : Nat, ∃ G1 : Grp, cs = [.int .i64 x.most, .slice A1 (x.pairs).length c1] ∧ SlO 187 Pair_int__string_.rp (.slice A1 (x.pairs).length c1) (x.pairs) G1 ∧ G = G1
  len := by rintro _ _ _ _ ⟨_, _, rfl, _⟩; rfl
  one := by rintro _ _ _ _ ⟨_, _, rfl, _⟩; exact one_of_all rfl
  lenO := by rintro _ _ _ ⟨_, _, _, rfl, _⟩; rfl
  oneO := by rintro _ _ _ ⟨_, _, _, rfl, _⟩; exact one_of_all rfl
  ext := by rintro _ _ _ _ _ ⟨A1, c1, rfl, h1⟩ hE; exact ⟨A1, c1, rfl, h1.ext hE⟩
  mono := by rintro _ _ _ _ _ ⟨A1, c1, rfl, h1⟩ hF; exact ⟨A1, c1, rfl, h1.mono hF⟩
  low := by
    rintro w x cs G ⟨A1, c1, G1, rfl, h1, hGe⟩ hG
    exact ⟨A1, c1, rfl, (h1.rd (fun b o hb => hG b o (by rw [hGe]; simp [hb]))).mono (fun b (hb : b ∈ keys G1) => show b ∈ keys G by rw [hGe]; simp [keys_append, hb])⟩

def sha_New (k : Nat) (a0 : Int) : Option ((Option Shelf_int__string_) × Int) := (if a0 < 0 then (some (none, 1)) else (if 1048576 < a0 then (some (none, 1)) else (some (some (⟨a0, []⟩ : Shelf_int__string_), 0))))
set_option maxRecDepth 100000 in
set_option maxHeartbeats 1000000 in
theorem sha_New_calls (k : Nat) (a0 : Int) {w : World} {r_ : (Option Shelf_int__string_) × Int} (h_ : sha_New k a0 = some r_) :
    Calls Try.prog 58 [.int .i64 a0].toArray w fun e w' => ∃ v0' : Value, ∃ G0' : Grp, e = .returned (.tuple #[v0', .int .i64 r_.2]) ∧ OptO 183 Shelf_int__string_.rp v0' (r_.1) G0' ∧ St w (KS []) w' [G0'] := by
  have hF := h_
  clear h_
  unfold sha_New at hF
  have S := St.ofFalse (As := []) (St.init0 w)
  refine enter 13 [(0, .int .i64 a0)] Try.func58 rfl rfl rfl rfl ?_
  refine WCode.seq ?_
  refine WCode.region ?_
  refine WOps.p (G.assign rfl) rfl ?_
  refine WOps.p (G.assign rfl) rfl ?_
  refine WOps.nil ?_
  refine WEx.then_ ?_
  refine WCode.seq ?_
  refine WCode.seq ?_
  refine WCode.region ?_
  refine WOps.p (G.move rfl) rfl ?_
  refine WOps.p (G.lss rfl rfl rfl) rfl ?_
  refine WOps.p (G.move rfl) rfl ?_
  rcases ite_some hF with ⟨h1, hF⟩ | ⟨h1, hF⟩
  ·
    refine WOps.off rfl (kbl (b := decide (a0 < 0)) rfl (decide_eq_true h1)) rfl rfl ?_
    refine WOps.off rfl (kbl (b := decide (a0 < 0)) rfl (decide_eq_true h1)) rfl rfl ?_
    refine WOps.p (G.pick_t (kb (b := decide (a0 < 0)) rfl (decide_eq_true h1)) rfl) rfl ?_
    refine WOps.nil ?_
    refine WEx.then_ ?_
    refine WCode.cond_t rfl ?_
    refine WCode.seq ?_
    refine WCode.region ?_
    refine WOps.p (G.assign rfl) rfl ?_
    refine WOps.p (G.assign rfl) rfl ?_
    refine WOps.nil ?_
    refine WEx.then_ ?_
    refine WCode.ret ?_
    refine WEx.then_ret ?_
    obtain rfl := some_eq hF
    refine WEx.ret2 rfl rfl rfl ?_
    have S2 := S.emp
    exact ⟨.pointer none, ([] : Grp), rfl, ⟨rfl, rfl⟩, St.keep (As := [([] : Grp)]) S2⟩
  ·
    refine WOps.on rfl (kbl (b := decide (a0 < 0)) rfl (decide_eq_false h1)) ?_
    refine WOps.p (G.move rfl) rfl ?_
    refine WOps.on rfl (kbl (b := decide (a0 < 0)) rfl (decide_eq_false h1)) ?_
    refine WOps.p (G.gtr rfl rfl rfl) rfl ?_
    refine WOps.p (G.pick_f (kb (b := decide (a0 < 0)) rfl (decide_eq_false h1)) rfl) rfl ?_
    refine WOps.nil ?_
    refine WEx.then_ ?_
    rcases ite_some hF with ⟨h3, hF⟩ | ⟨h3, hF⟩
    ·
      refine WCode.cond_t (kb (b := decide (1048576 < a0)) rfl (decide_eq_true h3)) ?_
      refine WCode.seq ?_
      refine WCode.region ?_
      refine WOps.p (G.assign rfl) rfl ?_
      refine WOps.p (G.assign rfl) rfl ?_
      refine WOps.nil ?_
      refine WEx.then_ ?_
      refine WCode.ret ?_
      refine WEx.then_ret ?_
      obtain rfl := some_eq hF
      refine WEx.ret2 rfl rfl rfl ?_
      have S4 := S.emp
      exact ⟨.pointer none, ([] : Grp), rfl, ⟨rfl, rfl⟩, St.keep (As := [([] : Grp)]) S4⟩
    ·
      refine WCode.cond_f (kb (b := decide (1048576 < a0)) rfl (decide_eq_false h3)) ?_
      refine WCode.skip ?_
      refine WEx.then_ ?_
      refine WCode.seq ?_
      refine WCode.region ?_
      refine WOps.p (G.move rfl) rfl ?_
      refine WOps.p (G.build (cells := #[.int .i64 a0, .slice none 0 0]) (evp_spec (evp_cons rfl evp_nil)) (by kernel_rfl)) rfl ?_
      obtain ⟨b5, w6, E7, S8, X9, L10⟩ := St.box S Try.prog 183 (.agg #[.int .i64 a0, .slice none 0 0])
      change St _ _ _ [[(b5, .cells #[.int .i64 a0, .slice none 0 0] 183 (0, 0))]] at S8
      refine WOps.e (E7 rfl) rfl ?_
      refine WOps.p (G.assign rfl) rfl ?_
      refine WOps.p (G.assign rfl) rfl ?_
      refine WOps.nil ?_
      refine WEx.then_ ?_
      refine WCode.forget (l' := [(2, .pointer (some ⟨b5, 0, none⟩)), (3, .int .i64 0)]) ⟨rfl, rfl, trivial⟩ ?_
      refine WCode.ret ?_
      obtain rfl := some_eq hF
      refine WEx.ret2 rfl rfl rfl ?_
      have S11 := S8.emp
      have S13 := S11.front 1 rfl
      change St _ _ _ [[(b5, .cells #[.int .i64 a0, .slice none 0 0] 183 (0, 0))], ([] : Grp)] at S13
      have hO14 : ObjO 183 Shelf_int__string_.rp b5 (⟨a0, []⟩ : Shelf_int__string_) ([(b5, .cells #[.int .i64 a0, .slice none 0 0] 183 (0, 0))] ++ (([] : Grp))) := ⟨_, _, ⟨none, 0, ([] : Grp), rfl, (SlO.nil 187 Pair_int__string_.rp), rfl⟩, rfl⟩
      have S15 : St _ _ _ [[(b5, .cells #[.int .i64 a0, .slice none 0 0] 183 (0, 0))] ++ (([] : Grp))] := S13.objs (by simp)
      exact ⟨(.pointer (some ⟨b5, 0, none⟩)), [(b5, .cells #[.int .i64 a0, .slice none 0 0] 183 (0, 0))] ++ (([] : Grp)), rfl, ⟨_, rfl, hO14⟩, St.keep (As := [[(b5, .cells #[.int .i64 a0, .slice none 0 0] 183 (0, 0))] ++ (([] : Grp))]) S15⟩

def sha_clo (k : Nat) (a0 : Pair_int__string_) (bc0 : Int) : Option Bool := (some (decide (a0.key = bc0)))
set_option maxRecDepth 100000 in
set_option maxHeartbeats 1000000 in
theorem sha_clo_calls (k : Nat) (a0 : Pair_int__string_) (bc0 : Int) {qc0 : Nat} {w : World} (hBc0 : w.heap[qc0]? = some (.cells #[.int .i64 bc0] 3 (0, 0))) (hNc0 : qc0 ∉ keys ([] : List Grp).flatten) {r_ : Bool} (h_ : sha_clo k a0 bc0 = some r_) :
    Calls Try.prog 124 [.agg #[.int .i64 a0.key, .string (bs a0.value)], .pointer (some ⟨qc0, 0, none⟩)].toArray w fun e w' => e = .returned (.bool r_) ∧ St w (KS []) w' [] := by
  have hF := h_
  clear h_
  unfold sha_clo at hF
  have S := St.ofFalse (As := []) (St.init0 w)
  refine enter 8 [(0, .agg #[.int .i64 a0.key, .string (bs a0.value)]), (1, .pointer (some ⟨qc0, 0, none⟩))] Try.func124 rfl rfl rfl rfl ?_
  refine WCode.seq ?_
  refine WCode.region ?_
  obtain ⟨b1, w2, E3, S4, X5, L6⟩ := St.box S Try.prog 187 (.agg #[.int .i64 a0.key, .string (bs a0.value)])
  change St _ _ _ [[(b1, .cells #[.int .i64 a0.key, .string (bs a0.value)] 187 (0, 0))]] at S4
  refine WOps.e (E3 rfl) rfl ?_
  refine WOps.p (G.assign rfl) rfl ?_
  refine WOps.nil ?_
  refine WEx.then_ ?_
  refine WCode.seq ?_
  refine WCode.region ?_
  refine WOps.p (G.field T.fld187_0 rfl (show 0 + 0 = 0 from rfl)) rfl ?_
  refine WOps.r (G.load1 T.one3 rfl (cell_blk (S4.blk 0 rfl) rfl)) rfl ?_
  refine WOps.r (G.load1 T.one3 rfl (cell_blk ((S4.fr qc0 (lt_of_blk hBc0) hNc0).trans hBc0) rfl)) rfl ?_
  refine WOps.p (G.eql rfl rfl rfl) rfl ?_
  refine WOps.p (G.assign rfl) rfl ?_
  refine WOps.nil ?_
  refine WEx.then_ ?_
  refine WCode.ret ?_
  obtain rfl := some_eq hF
  refine WEx.ret1 rfl rfl ?_
  exact ⟨rfl, St.keep (As := []) S4⟩

def sha_idx.l1 : Nat → List Pair_int__string_ → Int → Int → Option Int
  | 0, _, _, _ => none
  | k4 + 1, a0, b1_0, x1 => (if x1 < (a0.length : Int) then (Option.bind (idx a0 x1) fun x8 => (Option.bind (sha_clo k4 x8 b1_0) fun t22 => (if t22 = true then (some x1) else (sha_idx.l1 k4 a0 b1_0 (w64 (x1 + 1)))))) else (some (-1)))
def sha_idx (k : Nat) (a0 : List Pair_int__string_) (b1_0 : Int) : Option Int := (sha_idx.l1 k a0 b1_0 0)
set_option maxRecDepth 100000 in
set_option maxHeartbeats 1000000 in
theorem sha_idx_calls (k : Nat) (a0 : List Pair_int__string_) {A0 : Option Addr} {c0 : Nat} {F0 : Nat → Prop} (b1_0 : Int) {q1_0 : Nat} {w : World} (hR0 : SlR Pair_int__string_.rp w F0 A0 c0 a0) (hF0 : ∀ b, F0 b → NK w [] b) (hB1_0 : w.heap[q1_0]? = some (.cells #[.int .i64 b1_0] 3 (0, 0))) (hN1_0 : q1_0 ∉ keys ([] : List Grp).flatten) {r_ : Int} (h_ : sha_idx k a0 b1_0 = some r_) :
    Calls Try.prog 123 [.slice A0 a0.length c0, .func (.func 124) #[] #[.pointer (some ⟨q1_0, 0, none⟩)]].toArray w fun e w' => e = .returned (.int .i64 r_) ∧ St w (KS []) w' [] := by
  have hF := h_
  clear h_
  unfold sha_idx at hF
  have S := St.ofFalse (As := []) (St.init0 w)
  refine enter 19 [(0, .slice A0 a0.length c0), (1, .func (.func 124) #[] #[.pointer (some ⟨q1_0, 0, none⟩)])] Try.func123 rfl rfl rfl rfl ?_
  refine WCode.seq ?_
  refine WCode.region ?_
  refine WOps.p (G.assign rfl) rfl ?_
  refine WOps.nil ?_
  refine WEx.then_ ?_
  refine WCode.seq ?_
  refine WCode.seq ?_
  refine WCode.region ?_
  refine WOps.p (G.move rfl) rfl ?_
  refine WOps.p (G.len T.el181 rfl) rfl ?_
  refine WOps.p (G.move rfl) rfl ?_
  refine WOps.nil ?_
  refine WEx.then_ ?_
  refine WCode.block ?_
  refine WCode.forget (l' := [(0, .slice A0 a0.length c0), (1, .func (.func 124) #[] #[.pointer (some ⟨q1_0, 0, none⟩)]), (7, .int .i64 (a0.length : Int)), (8, .int .i64 0)]) ⟨rfl, rfl, rfl, rfl, trivial⟩ ?_
  refine WCode.loop (fun n_ l_ w_ => ∃ x1 : Int, l_ = [(0, .slice A0 a0.length c0), (1, .func (.func 124) #[] #[.pointer (some ⟨q1_0, 0, none⟩)]), (7, .int .i64 (a0.length : Int)), (8, .int .i64 x1)] ∧ sha_idx.l1 n_ a0 b1_0 x1 = some r_ ∧ St w (KS []) w_ []) k ⟨0, rfl, hF, S⟩ ?_
  rintro n5 _ w2 ⟨x1, rfl, hF, S3⟩
  obtain _ | k4 := n5
  · exact nomatch (show (none : Option Int) = some r_ from hF)
  rw [sha_idx.l1] at hF
  refine WCode.seq ?_
  refine WCode.region ?_
  refine WOps.p (G.lss rfl rfl rfl) rfl ?_
  refine WOps.nil ?_
  refine WEx.then_ ?_
  refine WCode.seq ?_
  rcases ite_some hF with ⟨h7, hF⟩ | ⟨h7, hF⟩
  ·
    refine WCode.cond_t (kb (b := decide (x1 < (a0.length : Int))) rfl (decide_eq_true h7)) ?_
    refine WCode.skip ?_
    refine WEx.then_ ?_
    refine WCode.seq ?_
    refine WCode.block ?_
    refine WCode.seq ?_
    refine WCode.region ?_
    refine WOps.p (G.move rfl) rfl ?_
    refine WOps.p (G.assign rfl) rfl ?_
    refine WOps.nil ?_
    refine WEx.then_ ?_
    refine WCode.seq ?_
    refine WCode.region ?_
    refine WOps.p (G.move rfl) rfl ?_
    refine WOps.p (G.move rfl) rfl ?_
    refine WOps.p (G.move rfl) rfl ?_
    obtain ⟨x8, hc9, hF⟩ := bind_some hF
    obtain ⟨j10, ej11, hj12, hl13⟩ := idx_spec hc9
    obtain ⟨b14, o15, cs16, eA17, hf18, hc19, hr20⟩ := SlR.at_ (hR0.ext (S3.keepF hF0)) hj12
    have hq21 : cs16 = [.int .i64 x8.key, .string (bs x8.value)] := hr20
    subst hq21
    change cellsAt _ _ (o15 + j10 * 2) [.int .i64 x8.key, .string (bs x8.value)] at hc19
    refine WOps.p (G.idx T.el181 rfl eA17 rfl ej11 hl13) rfl ?_
    refine WOps.r (G.loada T.agg187_2 rfl (cs := [.int .i64 x8.key, .string (bs x8.value)]) hc19) rfl ?_
    obtain ⟨t22, hc23, hF⟩ := bind_some hF
    refine WOps.callv T.call124 rfl (evs_cons rfl evs_nil) rfl ?_
    refine (sha_clo_calls k4 x8 b1_0 ((S3.fr q1_0 (lt_of_blk hB1_0) hN1_0).trans hB1_0) (by simp [keys]) hc23).mono ?_
    rintro _ w24 ⟨rfl, T25⟩
    have S26 := St.callN (As := []) S3 T25
    change St _ _ _ [] at S26
    refine ⟨_, rfl, ?_⟩
    refine WOps.nil ?_
    refine WEx.then_ ?_
    rcases ite_some hF with ⟨h27, hF⟩ | ⟨h27, hF⟩
    ·
      refine WCode.cond_t (kb (b := t22) rfl h27) ?_
      refine WCode.seq ?_
      refine WCode.region ?_
      refine WOps.p (G.move rfl) rfl ?_
      refine WOps.p (G.assign rfl) rfl ?_
      refine WOps.nil ?_
      refine WEx.then_ ?_
      refine WCode.forget (l' := [(4, .int .i64 x1)]) ⟨rfl, trivial⟩ ?_
      refine WCode.ret ?_
      refine WEx.in_ret ?_
      refine WEx.then_ret ?_
      refine WEx.then_ret ?_
      refine WEx.in_ret ?_
      refine WEx.then_ret ?_
      obtain rfl := some_eq hF
      refine WEx.ret1 rfl rfl ?_
      exact ⟨rfl, St.keep (As := []) S26⟩
    ·
      refine WCode.cond_f (kb (b := t22) rfl (Bool.eq_false_iff.2 h27)) ?_
      refine WCode.skip ?_
      refine WEx.in_normal ?_
      refine WEx.then_ ?_
      refine WCode.region ?_
      refine WOps.p (G.add rfl rfl (r := (w64 (x1 + 1))) rfl) rfl ?_
      refine WOps.p (G.move rfl) rfl ?_
      refine WOps.nil ?_
      refine WEx.again _ _ (by omega) ?_ ⟨w64 (x1 + 1), rfl, hF, S26⟩
      exact ⟨rfl, rfl, rfl, rfl, trivial⟩
  ·
    refine WCode.cond_f (kb (b := decide (x1 < (a0.length : Int))) rfl (decide_eq_false h7)) ?_
    refine WCode.exit ?_
    refine WEx.then_exit ?_
    refine WEx.then_exit ?_
    refine WEx.in_exit ?_
    refine WEx.then_ ?_
    refine WCode.seq ?_
    refine WCode.region ?_
    refine WOps.p (G.assign rfl) rfl ?_
    refine WOps.nil ?_
    refine WEx.then_ ?_
    refine WCode.ret ?_
    obtain rfl := some_eq hF
    refine WEx.ret1 rfl rfl ?_
    exact ⟨rfl, St.keep (As := []) S3⟩

def sha_place (k : Nat) (a0 : Shelf_int__string_) (a1 : Int) : Option (Int × Shelf_int__string_) := (Option.bind (sha_idx k a0.pairs a1) fun t17 => (some (t17, a0)))
set_option maxRecDepth 100000 in
set_option maxHeartbeats 1000000 in
theorem sha_place_calls (k : Nat) (a0 : Shelf_int__string_) {p0 : Nat} {G0 : Grp} (a1 : Int) {w : World} (hO0 : ObjO 183 Shelf_int__string_.rp p0 a0 G0) {r_ : Int × Shelf_int__string_} (h_ : sha_place k a0 a1 = some r_) (hp_ : Hp w ([G0]).flatten) :
    Calls Try.prog 103 [.pointer (some ⟨p0, 0, none⟩), .int .i64 a1].toArray w fun e w' => ∃ Go0' : Grp, e = .returned (.int .i64 r_.1) ∧ ObjO 183 Shelf_int__string_.rp p0 (r_.2) Go0' ∧ St w (KS [G0]) w' [Go0'] := by
  have hF := h_
  clear h_
  unfold sha_place at hF
  have S := St.initK [G0] hp_
  obtain ⟨cs1, G2, ho3, hg4⟩ := hO0
  obtain ⟨A5, c6, G7, rfl, hO8, hq9⟩ := ho3
  have S10 : St _ _ _ [[(p0, .cells #[.int .i64 a0.most, .slice A5 a0.pairs.length c6] 183 (0, 0))], G7] := S.objs (by rw [hg4, hq9]; simp)
  refine enter 11 [(0, .pointer (some ⟨p0, 0, none⟩)), (1, .int .i64 a1)] Try.func103 rfl rfl rfl rfl ?_
  refine WCode.seq ?_
  refine WCode.region ?_
  obtain ⟨b11, w12, E13, S14, X15, L16⟩ := St.box S10 Try.prog 3 (.int .i64 a1)
  change St _ _ _ [[(b11, .cells #[.int .i64 a1] 3 (0, 0))], [(p0, .cells #[.int .i64 a0.most, .slice A5 a0.pairs.length c6] 183 (0, 0))], G7] at S14
  refine WOps.e (E13 rfl) rfl ?_
  refine WOps.p (G.assign rfl) rfl ?_
  refine WOps.nil ?_
  refine WEx.then_ ?_
  refine WCode.seq ?_
  refine WCode.region ?_
  refine WOps.p (G.move rfl) rfl ?_
  refine WOps.p (G.nilp rfl) rfl ?_
  refine WOps.p (G.field T.fld183_1 rfl (show 0 + 1 = 1 from rfl)) rfl ?_
  refine WOps.r (G.load1 T.one181 rfl (cell_blk (S14.blk 1 rfl) rfl)) rfl ?_
  refine WOps.p (G.makeFunc (evs_cons rfl evs_nil)) rfl ?_
  obtain ⟨t17, hc18, hF⟩ := bind_some hF
  refine WOps.call T.call123 (evs_cons rfl (evs_cons rfl evs_nil)) rfl ?_
  refine (sha_idx_calls k a0.pairs a1 (hO8.rd (fun b o hb => S14.grp 2 rfl hb)) (St.outG (Bs := []) S14 2 rfl) (S14.blk 0 rfl) (by simp [keys]) hc18).mono ?_
  rintro _ w19 ⟨rfl, T20⟩
  have S21 := St.callN (As := []) S14 T20
  change St _ _ _ [[(b11, .cells #[.int .i64 a1] 3 (0, 0))], [(p0, .cells #[.int .i64 a0.most, .slice A5 a0.pairs.length c6] 183 (0, 0))], G7] at S21
  refine ⟨_, rfl, ?_⟩
  refine WOps.p (G.assign rfl) rfl ?_
  refine WOps.nil ?_
  refine WEx.then_ ?_
  refine WCode.ret ?_
  obtain rfl := some_eq hF
  refine WEx.ret1 rfl rfl ?_
  have S22 := S21.front 2 rfl
  change St _ _ _ [G7, [(b11, .cells #[.int .i64 a1] 3 (0, 0))], [(p0, .cells #[.int .i64 a0.most, .slice A5 a0.pairs.length c6] 183 (0, 0))]] at S22
  have S23 := S22.front 2 rfl
  change St _ _ _ [[(p0, .cells #[.int .i64 a0.most, .slice A5 a0.pairs.length c6] 183 (0, 0))], G7, [(b11, .cells #[.int .i64 a1] 3 (0, 0))]] at S23
  have hO24 : ObjO 183 Shelf_int__string_.rp p0 a0 ([(p0, .cells #[.int .i64 a0.most, .slice A5 a0.pairs.length c6] 183 (0, 0))] ++ (G7)) := ⟨_, _, ⟨A5, c6, G7, rfl, hO8, rfl⟩, rfl⟩
  have S25 : St _ _ _ [[(p0, .cells #[.int .i64 a0.most, .slice A5 a0.pairs.length c6] 183 (0, 0))] ++ (G7), [(b11, .cells #[.int .i64 a1] 3 (0, 0))]] := S23.objs (by simp)
  exact ⟨[(p0, .cells #[.int .i64 a0.most, .slice A5 a0.pairs.length c6] 183 (0, 0))] ++ (G7), rfl, hO24, St.keep (As := [[(p0, .cells #[.int .i64 a0.most, .slice A5 a0.pairs.length c6] 183 (0, 0))] ++ (G7)]) S25⟩

def sha_Len (k : Nat) (a0 : Shelf_int__string_) : Option (Int × Shelf_int__string_) := (some ((a0.pairs.length : Int), a0))
set_option maxRecDepth 100000 in
set_option maxHeartbeats 1000000 in
theorem sha_Len_calls (k : Nat) (a0 : Shelf_int__string_) {p0 : Nat} {G0 : Grp} {w : World} (hO0 : ObjO 183 Shelf_int__string_.rp p0 a0 G0) {r_ : Int × Shelf_int__string_} (h_ : sha_Len k a0 = some r_) (hp_ : Hp w ([G0]).flatten) :
    Calls Try.prog 64 [.pointer (some ⟨p0, 0, none⟩)].toArray w fun e w' => ∃ Go0' : Grp, e = .returned (.int .i64 r_.1) ∧ ObjO 183 Shelf_int__string_.rp p0 (r_.2) Go0' ∧ St w (KS [G0]) w' [Go0'] := by
  have hF := h_
  clear h_
  unfold sha_Len at hF
  have S := St.initK [G0] hp_
  obtain ⟨cs1, G2, ho3, hg4⟩ := hO0
  obtain ⟨A5, c6, G7, rfl, hO8, hq9⟩ := ho3
  have S10 : St _ _ _ [[(p0, .cells #[.int .i64 a0.most, .slice A5 a0.pairs.length c6] 183 (0, 0))], G7] := S.objs (by rw [hg4, hq9]; simp)
  refine enter 8 [(0, .pointer (some ⟨p0, 0, none⟩))] Try.func64 rfl rfl rfl rfl ?_
  refine WCode.seq ?_
  refine WCode.region ?_
  refine WOps.p (G.assign rfl) rfl ?_
  refine WOps.nil ?_
  refine WEx.then_ ?_
  refine WCode.seq ?_
  refine WCode.region ?_
  refine WOps.p (G.move rfl) rfl ?_
  refine WOps.p (G.nilp rfl) rfl ?_
  refine WOps.p (G.field T.fld183_1 rfl (show 0 + 1 = 1 from rfl)) rfl ?_
  refine WOps.r (G.load1 T.one181 rfl (cell_blk (S10.blk 0 rfl) rfl)) rfl ?_
  refine WOps.p (G.len T.el181 rfl) rfl ?_
  refine WOps.p (G.assign rfl) rfl ?_
  refine WOps.nil ?_
  refine WEx.then_ ?_
  refine WCode.ret ?_
  obtain rfl := some_eq hF
  refine WEx.ret1 rfl rfl ?_
  have S11 := S10.front 1 rfl
  change St _ _ _ [G7, [(p0, .cells #[.int .i64 a0.most, .slice A5 a0.pairs.length c6] 183 (0, 0))]] at S11
  have S12 := S11.front 1 rfl
  change St _ _ _ [[(p0, .cells #[.int .i64 a0.most, .slice A5 a0.pairs.length c6] 183 (0, 0))], G7] at S12
  have hO13 : ObjO 183 Shelf_int__string_.rp p0 a0 ([(p0, .cells #[.int .i64 a0.most, .slice A5 a0.pairs.length c6] 183 (0, 0))] ++ (G7)) := ⟨_, _, ⟨A5, c6, G7, rfl, hO8, rfl⟩, rfl⟩
  have S14 : St _ _ _ [[(p0, .cells #[.int .i64 a0.most, .slice A5 a0.pairs.length c6] 183 (0, 0))] ++ (G7)] := S12.objs (by simp)
  exact ⟨[(p0, .cells #[.int .i64 a0.most, .slice A5 a0.pairs.length c6] 183 (0, 0))] ++ (G7), rfl, hO13, St.keep (As := [[(p0, .cells #[.int .i64 a0.most, .slice A5 a0.pairs.length c6] 183 (0, 0))] ++ (G7)]) S14⟩

def sha_Get (k : Nat) (a0 : Shelf_int__string_) (a1 : Int) : Option ((List UInt8) × Bool × Shelf_int__string_) := (Option.bind (sha_place k a0 a1) fun t15 => (if 0 ≤ t15.1 then (Option.bind (idx t15.2.pairs t15.1) fun x33 => (some (x33.value, true, t15.2))) else (some (([] : List UInt8), false, t15.2))))
set_option maxRecDepth 100000 in
set_option maxHeartbeats 1000000 in
theorem sha_Get_calls (k : Nat) (a0 : Shelf_int__string_) {p0 : Nat} {G0 : Grp} (a1 : Int) {w : World} (hO0 : ObjO 183 Shelf_int__string_.rp p0 a0 G0) {r_ : (List UInt8) × Bool × Shelf_int__string_} (h_ : sha_Get k a0 a1 = some r_) (hp_ : Hp w ([G0]).flatten) :
    Calls Try.prog 65 [.pointer (some ⟨p0, 0, none⟩), .int .i64 a1].toArray w fun e w' => ∃ Go0' : Grp, e = .returned (.tuple #[.string (bs r_.1), .bool r_.2.1]) ∧ ObjO 183 Shelf_int__string_.rp p0 (r_.2.2) Go0' ∧ St w (KS [G0]) w' [Go0'] := by
  have hF := h_
  clear h_
  unfold sha_Get at hF
  have S := St.initK [G0] hp_
  obtain ⟨cs1, G2, ho3, hg4⟩ := hO0
  obtain ⟨A5, c6, G7, rfl, hO8, hq9⟩ := ho3
  have S10 : St _ _ _ [[(p0, .cells #[.int .i64 a0.most, .slice A5 a0.pairs.length c6] 183 (0, 0))], G7] := S.objs (by rw [hg4, hq9]; simp)
  refine enter 22 [(0, .pointer (some ⟨p0, 0, none⟩)), (1, .int .i64 a1)] Try.func65 rfl rfl rfl rfl ?_
  refine WCode.seq ?_
  refine WCode.region ?_
  refine WOps.p (G.assign rfl) rfl ?_
  refine WOps.p (G.assign rfl) rfl ?_
  refine WOps.nil ?_
  refine WEx.then_ ?_
  refine WCode.seq ?_
  refine WCode.seq ?_
  refine WCode.region ?_
  refine WOps.p (G.move rfl) rfl ?_
  refine WOps.p (G.move rfl) rfl ?_
  have S11 := S10.front 1 rfl
  change St _ _ _ [G7, [(p0, .cells #[.int .i64 a0.most, .slice A5 a0.pairs.length c6] 183 (0, 0))]] at S11
  have S12 := S11.front 1 rfl
  change St _ _ _ [[(p0, .cells #[.int .i64 a0.most, .slice A5 a0.pairs.length c6] 183 (0, 0))], G7] at S12
  have hO13 : ObjO 183 Shelf_int__string_.rp p0 a0 ([(p0, .cells #[.int .i64 a0.most, .slice A5 a0.pairs.length c6] 183 (0, 0))] ++ (G7)) := ⟨_, _, ⟨A5, c6, G7, rfl, hO8, rfl⟩, rfl⟩
  have S14 : St _ _ _ [[(p0, .cells #[.int .i64 a0.most, .slice A5 a0.pairs.length c6] 183 (0, 0))] ++ (G7)] := S12.objs (by simp)
  obtain ⟨t15, hc16, hF⟩ := bind_some hF
  refine WOps.call T.call103 (evs_cons rfl (evs_cons rfl evs_nil)) rfl ?_
  refine (sha_place_calls k a0 a1 hO13 hc16 (St.hpN (As := [[(p0, .cells #[.int .i64 a0.most, .slice A5 a0.pairs.length c6] 183 (0, 0))] ++ (G7)]) S14)).mono ?_
  rintro _ w17 ⟨G20, rfl, hO21, T18⟩
  have S19 := St.callN (As := [[(p0, .cells #[.int .i64 a0.most, .slice A5 a0.pairs.length c6] 183 (0, 0))] ++ (G7)]) S14 T18
  change St _ _ _ [G20] at S19
  refine ⟨_, rfl, ?_⟩
  obtain ⟨cs22, G23, ho24, hg25⟩ := hO21
  obtain ⟨A26, c27, G28, rfl, hO29, hq30⟩ := ho24
  have S31 : St _ _ _ [[(p0, .cells #[.int .i64 t15.2.most, .slice A26 t15.2.pairs.length c27] 183 (0, 0))], G28] := S19.objs (by rw [hg25, hq30]; simp)
  refine WOps.p (G.assign rfl) rfl ?_
  refine WOps.nil ?_
  refine WEx.then_ ?_
  refine WCode.seq ?_
  refine WCode.region ?_
  refine WOps.p (G.move rfl) rfl ?_
  refine WOps.p (G.geq rfl rfl rfl) rfl ?_
  refine WOps.nil ?_
  refine WEx.then_ ?_
  rcases ite_some hF with ⟨h32, hF⟩ | ⟨h32, hF⟩
  ·
    refine WCode.cond_t (kb (b := decide (0 ≤ t15.1)) rfl (decide_eq_true h32)) ?_
    refine WCode.seq ?_
    refine WCode.region ?_
    refine WOps.p (G.move rfl) rfl ?_
    refine WOps.p (G.nilp rfl) rfl ?_
    refine WOps.p (G.field T.fld183_1 rfl (show 0 + 1 = 1 from rfl)) rfl ?_
    refine WOps.r (G.load1 T.one181 rfl (cell_blk (S31.blk 0 rfl) rfl)) rfl ?_
    refine WOps.p (G.move rfl) rfl ?_
    obtain ⟨x33, hc34, hF⟩ := bind_some hF
    obtain ⟨j35, ej36, hj37, hl38⟩ := idx_spec hc34
    obtain ⟨b39, o40, cs41, eA42, hf43, hc44, hr45⟩ := SlR.at_ (hO29.rd (fun b o hb => S31.grp 1 rfl hb)) hj37
    have hq46 : cs41 = [.int .i64 x33.key, .string (bs x33.value)] := hr45
    subst hq46
    change cellsAt _ _ (o40 + j35 * 2) [.int .i64 x33.key, .string (bs x33.value)] at hc44
    refine WOps.p (G.idx T.el181 rfl eA42 rfl ej36 hl38) rfl ?_
    refine WOps.p (G.field T.fld187_1 rfl (show o40 + j35 * 2 + 1 = o40 + j35 * 2 + 1 from rfl)) rfl ?_
    refine WOps.r (G.load1 T.one9 rfl (cellsAt.at hc44 1 rfl)) rfl ?_
    refine WOps.p (G.assign rfl) rfl ?_
    refine WOps.p (G.assign rfl) rfl ?_
    refine WOps.nil ?_
    refine WEx.then_ ?_
    refine WCode.forget (l' := [(4, .string (bs x33.value)), (5, .bool true)]) ⟨rfl, rfl, trivial⟩ ?_
    refine WCode.ret ?_
    refine WEx.then_ret ?_
    obtain rfl := some_eq hF
    refine WEx.ret2 rfl rfl rfl ?_
    have S47 := S31.front 1 rfl
    change St _ _ _ [G28, [(p0, .cells #[.int .i64 t15.2.most, .slice A26 t15.2.pairs.length c27] 183 (0, 0))]] at S47
    have S48 := S47.front 1 rfl
    change St _ _ _ [[(p0, .cells #[.int .i64 t15.2.most, .slice A26 t15.2.pairs.length c27] 183 (0, 0))], G28] at S48
    have hO49 : ObjO 183 Shelf_int__string_.rp p0 t15.2 ([(p0, .cells #[.int .i64 t15.2.most, .slice A26 t15.2.pairs.length c27] 183 (0, 0))] ++ (G28)) := ⟨_, _, ⟨A26, c27, G28, rfl, hO29, rfl⟩, rfl⟩
    have S50 : St _ _ _ [[(p0, .cells #[.int .i64 t15.2.most, .slice A26 t15.2.pairs.length c27] 183 (0, 0))] ++ (G28)] := S48.objs (by simp)
    exact ⟨[(p0, .cells #[.int .i64 t15.2.most, .slice A26 t15.2.pairs.length c27] 183 (0, 0))] ++ (G28), rfl, hO49, St.keep (As := [[(p0, .cells #[.int .i64 t15.2.most, .slice A26 t15.2.pairs.length c27] 183 (0, 0))] ++ (G28)]) S50⟩
  ·
    refine WCode.cond_f (kb (b := decide (0 ≤ t15.1)) rfl (decide_eq_false h32)) ?_
    refine WCode.skip ?_
    refine WEx.then_ ?_
    refine WCode.forget (l' := []) trivial ?_
    refine WCode.seq ?_
    refine WCode.region ?_
    refine WOps.p (G.assign rfl) rfl ?_
    refine WOps.nil ?_
    refine WEx.then_ ?_
    refine WCode.seq ?_
    refine WCode.region ?_
    refine WOps.p (G.move rfl) rfl ?_
    refine WOps.p (G.assign rfl) rfl ?_
    refine WOps.p (G.assign rfl) rfl ?_
    refine WOps.nil ?_
    refine WEx.then_ ?_
    refine WCode.ret ?_
    obtain rfl := some_eq hF
    refine WEx.ret2 rfl rfl rfl ?_
    have S51 := S31.front 1 rfl
    change St _ _ _ [G28, [(p0, .cells #[.int .i64 t15.2.most, .slice A26 t15.2.pairs.length c27] 183 (0, 0))]] at S51
    have S52 := S51.front 1 rfl
    change St _ _ _ [[(p0, .cells #[.int .i64 t15.2.most, .slice A26 t15.2.pairs.length c27] 183 (0, 0))], G28] at S52
    have hO53 : ObjO 183 Shelf_int__string_.rp p0 t15.2 ([(p0, .cells #[.int .i64 t15.2.most, .slice A26 t15.2.pairs.length c27] 183 (0, 0))] ++ (G28)) := ⟨_, _, ⟨A26, c27, G28, rfl, hO29, rfl⟩, rfl⟩
    have S54 : St _ _ _ [[(p0, .cells #[.int .i64 t15.2.most, .slice A26 t15.2.pairs.length c27] 183 (0, 0))] ++ (G28)] := S52.objs (by simp)
    exact ⟨[(p0, .cells #[.int .i64 t15.2.most, .slice A26 t15.2.pairs.length c27] 183 (0, 0))] ++ (G28), rfl, hO53, St.keep (As := [[(p0, .cells #[.int .i64 t15.2.most, .slice A26 t15.2.pairs.length c27] 183 (0, 0))] ++ (G28)]) S54⟩

def sha_Put (k : Nat) (a0 : Shelf_int__string_) (a1 : Int) (a2 : List UInt8) : Option (Int × Shelf_int__string_) := (Option.bind (sha_place k a0 a1) fun t15 => (if 0 ≤ t15.1 then (Option.bind (idx t15.2.pairs t15.1) fun x33 => (Option.bind (upd t15.2.pairs t15.1 (⟨x33.key, a2⟩ : Pair_int__string_)) fun l47 => (some (0, (⟨t15.2.most, l47⟩ : Shelf_int__string_))))) else (if (t15.2.pairs.length : Int) = t15.2.most then (some (140, t15.2)) else (Option.bind (cat t15.2.pairs ([(⟨a1, a2⟩ : Pair_int__string_)] : List Pair_int__string_)) fun l73 => (some (0, (⟨t15.2.most, l73⟩ : Shelf_int__string_)))))))
set_option maxRecDepth 100000 in
set_option maxHeartbeats 1000000 in
theorem sha_Put_calls (k : Nat) (a0 : Shelf_int__string_) {p0 : Nat} {G0 : Grp} (a1 : Int) (a2 : List UInt8) {w : World} (hO0 : ObjO 183 Shelf_int__string_.rp p0 a0 G0) {r_ : Int × Shelf_int__string_} (h_ : sha_Put k a0 a1 a2 = some r_) (hp_ : Hp w ([G0]).flatten) :
    Calls Try.prog 62 [.pointer (some ⟨p0, 0, none⟩), .int .i64 a1, .string (bs a2)].toArray w fun e w' => ∃ Go0' : Grp, e = .returned (.int .i64 r_.1) ∧ ObjO 183 Shelf_int__string_.rp p0 (r_.2) Go0' ∧ St w (KS [G0]) w' [Go0'] := by
  have hF := h_
  clear h_
  unfold sha_Put at hF
  have S := St.initK [G0] hp_
  obtain ⟨cs1, G2, ho3, hg4⟩ := hO0
  obtain ⟨A5, c6, G7, rfl, hO8, hq9⟩ := ho3
  have S10 : St _ _ _ [[(p0, .cells #[.int .i64 a0.most, .slice A5 a0.pairs.length c6] 183 (0, 0))], G7] := S.objs (by rw [hg4, hq9]; simp)
  refine enter 43 [(0, .pointer (some ⟨p0, 0, none⟩)), (1, .int .i64 a1), (2, .string (bs a2))] Try.func62 rfl rfl rfl rfl ?_
  refine WCode.seq ?_
  refine WCode.region ?_
  refine WOps.p (G.assign rfl) rfl ?_
  refine WOps.nil ?_
  refine WEx.then_ ?_
  refine WCode.seq ?_
  refine WCode.seq ?_
  refine WCode.region ?_
  refine WOps.p (G.move rfl) rfl ?_
  refine WOps.p (G.move rfl) rfl ?_
  have S11 := S10.front 1 rfl
  change St _ _ _ [G7, [(p0, .cells #[.int .i64 a0.most, .slice A5 a0.pairs.length c6] 183 (0, 0))]] at S11
  have S12 := S11.front 1 rfl
  change St _ _ _ [[(p0, .cells #[.int .i64 a0.most, .slice A5 a0.pairs.length c6] 183 (0, 0))], G7] at S12
  have hO13 : ObjO 183 Shelf_int__string_.rp p0 a0 ([(p0, .cells #[.int .i64 a0.most, .slice A5 a0.pairs.length c6] 183 (0, 0))] ++ (G7)) := ⟨_, _, ⟨A5, c6, G7, rfl, hO8, rfl⟩, rfl⟩
  have S14 : St _ _ _ [[(p0, .cells #[.int .i64 a0.most, .slice A5 a0.pairs.length c6] 183 (0, 0))] ++ (G7)] := S12.objs (by simp)
  obtain ⟨t15, hc16, hF⟩ := bind_some hF
  refine WOps.call T.call103 (evs_cons rfl (evs_cons rfl evs_nil)) rfl ?_
  refine (sha_place_calls k a0 a1 hO13 hc16 (St.hpN (As := [[(p0, .cells #[.int .i64 a0.most, .slice A5 a0.pairs.length c6] 183 (0, 0))] ++ (G7)]) S14)).mono ?_
  rintro _ w17 ⟨G20, rfl, hO21, T18⟩
  have S19 := St.callN (As := [[(p0, .cells #[.int .i64 a0.most, .slice A5 a0.pairs.length c6] 183 (0, 0))] ++ (G7)]) S14 T18
  change St _ _ _ [G20] at S19
  refine ⟨_, rfl, ?_⟩
  obtain ⟨cs22, G23, ho24, hg25⟩ := hO21
  obtain ⟨A26, c27, G28, rfl, hO29, hq30⟩ := ho24
  have S31 : St _ _ _ [[(p0, .cells #[.int .i64 t15.2.most, .slice A26 t15.2.pairs.length c27] 183 (0, 0))], G28] := S19.objs (by rw [hg25, hq30]; simp)
  refine WOps.p (G.assign rfl) rfl ?_
  refine WOps.nil ?_
  refine WEx.then_ ?_
  refine WCode.seq ?_
  refine WCode.region ?_
  refine WOps.p (G.move rfl) rfl ?_
  refine WOps.p (G.geq rfl rfl rfl) rfl ?_
  refine WOps.nil ?_
  refine WEx.then_ ?_
  rcases ite_some hF with ⟨h32, hF⟩ | ⟨h32, hF⟩
  ·
    refine WCode.cond_t (kb (b := decide (0 ≤ t15.1)) rfl (decide_eq_true h32)) ?_
    refine WCode.seq ?_
    refine WCode.region ?_
    refine WOps.p (G.move rfl) rfl ?_
    refine WOps.p (G.nilp rfl) rfl ?_
    refine WOps.p (G.field T.fld183_1 rfl (show 0 + 1 = 1 from rfl)) rfl ?_
    refine WOps.r (G.load1 T.one181 rfl (cell_blk (S31.blk 0 rfl) rfl)) rfl ?_
    refine WOps.p (G.move rfl) rfl ?_
    refine WOps.p (G.move rfl) rfl ?_
    obtain ⟨x33, hc34, hF⟩ := bind_some hF
    obtain ⟨j35, ej36, hj37, hl38⟩ := idx_spec hc34
    obtain ⟨b39, o40, cs41, eA42, hf43, hc44, hr45⟩ := SlR.at_ (hO29.rd (fun b o hb => S31.grp 1 rfl hb)) hj37
    have hq46 : cs41 = [.int .i64 x33.key, .string (bs x33.value)] := hr45
    subst hq46
    change cellsAt _ _ (o40 + j35 * 2) [.int .i64 x33.key, .string (bs x33.value)] at hc44
    refine WOps.p (G.idx T.el181 rfl eA42 rfl ej36 hl38) rfl ?_
    refine WOps.p (G.field T.fld187_1 rfl (show o40 + j35 * 2 + 1 = o40 + j35 * 2 + 1 from rfl)) rfl ?_
    obtain ⟨l47, hc48, hF⟩ := bind_some hF
    have e49 := upd_spec' hc48 ej36
    have S50 := S31.front 1 rfl
    change St _ _ _ [G28, [(p0, .cells #[.int .i64 t15.2.most, .slice A26 t15.2.pairs.length c27] 183 (0, 0))]] at S50
    obtain ⟨w51, G52, E53, hO54, S55⟩ := St.storeF (P := Try.prog) (T := 9) S50 hO29 T.size9_1 hj37 eA42 (⟨x33.key, a2⟩ : Pair_int__string_) (v := .string (bs a2)) [.int .i64 x33.key] [.string (bs x33.value)] [] rfl rfl rfl
    rw [← e49] at hO54
    have hl56 : (t15.2.pairs).length = l47.length := by rw [e49, List.length_set]
    try rw [hl56] at S55
    try rw [hl56]
    change St _ _ _ [G52, [(p0, .cells #[.int .i64 t15.2.most, .slice A26 l47.length c27] 183 (0, 0))]] at S55
    refine WOps.u (E53 rfl rfl) ?_
    refine WOps.nil ?_
    refine WEx.then_ ?_
    refine WCode.forget (l' := []) trivial ?_
    refine WCode.seq ?_
    refine WCode.region ?_
    refine WOps.p (G.assign rfl) rfl ?_
    refine WOps.nil ?_
    refine WEx.then_ ?_
    refine WCode.ret ?_
    refine WEx.then_ret ?_
    obtain rfl := some_eq hF
    refine WEx.ret1 rfl rfl ?_
    have S57 := S55.front 1 rfl
    change St _ _ _ [[(p0, .cells #[.int .i64 t15.2.most, .slice A26 l47.length c27] 183 (0, 0))], G52] at S57
    have hO58 : ObjO 183 Shelf_int__string_.rp p0 (⟨t15.2.most, l47⟩ : Shelf_int__string_) ([(p0, .cells #[.int .i64 t15.2.most, .slice A26 l47.length c27] 183 (0, 0))] ++ (G52)) := ⟨_, _, ⟨A26, c27, G52, rfl, hO54, rfl⟩, rfl⟩
    have S59 : St _ _ _ [[(p0, .cells #[.int .i64 t15.2.most, .slice A26 l47.length c27] 183 (0, 0))] ++ (G52)] := S57.objs (by simp)
    exact ⟨[(p0, .cells #[.int .i64 t15.2.most, .slice A26 l47.length c27] 183 (0, 0))] ++ (G52), rfl, hO58, St.keep (As := [[(p0, .cells #[.int .i64 t15.2.most, .slice A26 l47.length c27] 183 (0, 0))] ++ (G52)]) S59⟩
  ·
    refine WCode.cond_f (kb (b := decide (0 ≤ t15.1)) rfl (decide_eq_false h32)) ?_
    refine WCode.skip ?_
    refine WEx.then_ ?_
    refine WCode.seq ?_
    refine WCode.seq ?_
    refine WCode.draw [⟨0, 0, []⟩, ⟨1, 0, []⟩, ⟨2, 0, []⟩, ⟨5, 0, []⟩, ⟨6, 0, []⟩, ⟨7, 0, []⟩, ⟨3, 1, [4, 9]⟩, ⟨4, 0, []⟩, ⟨8, 1, [9]⟩, ⟨9, 0, []⟩] T.mixed (by kernel_rfl) (by intro _ _ d _ _ h; cases d <;> exact h) rfl (by kernel_rfl) ?_
    have S60 := S31.drew
    generalize w17.drew = w61 at *
    refine WD.p rfl (G.move rfl) rfl ?_
    refine WD.p rfl (G.nilp rfl) rfl ?_
    refine WD.p rfl (G.field T.fld183_1 rfl (show 0 + 1 = 1 from rfl)) rfl ?_
    refine WD.p rfl (G.move rfl) rfl ?_
    refine WD.p rfl (G.nilp rfl) rfl ?_
    refine WD.p rfl (G.field T.fld183_0 rfl (show 0 + 0 = 0 from rfl)) rfl ?_
    refine WD.r rfl (G.load1 T.one181 rfl (cell_blk (S60.blk 0 rfl) rfl)) rfl ?_
    refine WD.p rfl (G.len T.el181 rfl) rfl ?_
    refine WD.r rfl (G.load1 T.one3 rfl (cell_blk (S60.blk 0 rfl) rfl)) rfl ?_
    refine WD.p rfl (G.eql rfl rfl rfl) rfl ?_
    refine WD.nil ?_
    refine WEx.then_ ?_
    refine WCode.forget (l' := [(0, .pointer (some ⟨p0, 0, none⟩)), (1, .int .i64 a1), (2, .string (bs a2)), (30, .bool (decide ((t15.2.pairs.length : Int) = t15.2.most)))]) ⟨rfl, rfl, rfl, rfl, trivial⟩ ?_
    rcases ite_some hF with ⟨h62, hF⟩ | ⟨h62, hF⟩
    ·
      refine WCode.cond_t (kb (b := decide ((t15.2.pairs.length : Int) = t15.2.most)) rfl (decide_eq_true h62)) ?_
      refine WCode.seq ?_
      refine WCode.region ?_
      refine WOps.p (G.assign rfl) rfl ?_
      refine WOps.nil ?_
      refine WEx.then_ ?_
      refine WCode.ret ?_
      refine WEx.then_ret ?_
      obtain rfl := some_eq hF
      refine WEx.ret1 rfl rfl ?_
      have S63 := S60.front 1 rfl
      change St _ _ _ [G28, [(p0, .cells #[.int .i64 t15.2.most, .slice A26 t15.2.pairs.length c27] 183 (0, 0))]] at S63
      have S64 := S63.front 1 rfl
      change St _ _ _ [[(p0, .cells #[.int .i64 t15.2.most, .slice A26 t15.2.pairs.length c27] 183 (0, 0))], G28] at S64
      have hO65 : ObjO 183 Shelf_int__string_.rp p0 t15.2 ([(p0, .cells #[.int .i64 t15.2.most, .slice A26 t15.2.pairs.length c27] 183 (0, 0))] ++ (G28)) := ⟨_, _, ⟨A26, c27, G28, rfl, hO29, rfl⟩, rfl⟩
      have S66 : St _ _ _ [[(p0, .cells #[.int .i64 t15.2.most, .slice A26 t15.2.pairs.length c27] 183 (0, 0))] ++ (G28)] := S64.objs (by simp)
      exact ⟨[(p0, .cells #[.int .i64 t15.2.most, .slice A26 t15.2.pairs.length c27] 183 (0, 0))] ++ (G28), rfl, hO65, St.keep (As := [[(p0, .cells #[.int .i64 t15.2.most, .slice A26 t15.2.pairs.length c27] 183 (0, 0))] ++ (G28)]) S66⟩
    ·
      refine WCode.cond_f (kb (b := decide ((t15.2.pairs.length : Int) = t15.2.most)) rfl (decide_eq_false h62)) ?_
      refine WCode.skip ?_
      refine WEx.then_ ?_
      refine WCode.seq ?_
      refine WCode.region ?_
      refine WOps.p (G.move rfl) rfl ?_
      refine WOps.p (G.move rfl) rfl ?_
      refine WOps.p (G.nilp rfl) rfl ?_
      refine WOps.p (G.field T.fld183_1 rfl (show 0 + 1 = 1 from rfl)) rfl ?_
      refine WOps.r (G.load1 T.one181 rfl (cell_blk (S60.blk 0 rfl) rfl)) rfl ?_
      refine WOps.p (G.move rfl) rfl ?_
      refine WOps.p (G.move rfl) rfl ?_
      refine WOps.p (G.build (cells := #[.int .i64 a1, .string (bs a2)]) (evp_spec (evp_cons rfl (evp_cons rfl evp_nil))) (by kernel_rfl)) rfl ?_
      obtain ⟨b67, w68, E69, S70, X71, L72⟩ := St.lit S60 (P := Try.prog) (t := 181) (e := 187) (n := 1) (vs := [(0, .agg #[.int .i64 a1, .string (bs a2)])]) (cs := #[.int .i64 a1, .string (bs a2)]) (by kernel_rfl)
      change St _ _ _ [[(b67, .cells #[.int .i64 a1, .string (bs a2)] 187 (0, 0))], [(p0, .cells #[.int .i64 t15.2.most, .slice A26 t15.2.pairs.length c27] 183 (0, 0))], G28] at S70
      refine WOps.e (E69 (evp_cons rfl evp_nil)) rfl ?_
      obtain ⟨l73, hc74, hF⟩ := bind_some hF
      have S75 := S70.front 2 rfl
      change St _ _ _ [G28, [(b67, .cells #[.int .i64 a1, .string (bs a2)] 187 (0, 0))], [(p0, .cells #[.int .i64 t15.2.most, .slice A26 t15.2.pairs.length c27] 183 (0, 0))]] at S75
      obtain ⟨A76, c77, G78, w79, E80, hO81, S82, hk83⟩ := St.appP (P := Try.prog) (r := Pair_int__string_.rp) (M := ([(⟨a1, a2⟩ : Pair_int__string_)] : List Pair_int__string_)) S75 T.elt181 rfl hO29 (Rd.of_blk (S75.blk 1 rfl) (n := 1) (sz := 2) rfl) ⟨_, _, [], [], rfl, rfl, ⟨rfl, rfl⟩, ⟨rfl, rfl⟩⟩ rfl hc74
      change St _ _ _ [G78, [(b67, .cells #[.int .i64 a1, .string (bs a2)] 187 (0, 0))], [(p0, .cells #[.int .i64 t15.2.most, .slice A26 t15.2.pairs.length c27] 183 (0, 0))]] at S82
      refine WOps.e (E80 rfl rfl) rfl ?_
      refine WOps.p (G.nilp rfl) rfl ?_
      refine WOps.p (G.field T.fld183_1 rfl (show 0 + 1 = 1 from rfl)) rfl ?_
      obtain ⟨w84, E85, S86⟩ := St.store (P := Try.prog) S82 2 181 (.slice A76 l73.length c77) (off := 1) (cur' := #[.int .i64 t15.2.most, .slice A76 l73.length c77]) rfl T.size181_1 rfl rfl rfl
      change St _ _ _ [G78, [(b67, .cells #[.int .i64 a1, .string (bs a2)] 187 (0, 0))], [(p0, .cells #[.int .i64 t15.2.most, .slice A76 l73.length c77] 183 (0, 0))]] at S86
      refine WOps.u (E85 rfl rfl) ?_
      refine WOps.nil ?_
      refine WEx.then_ ?_
      refine WCode.forget (l' := []) trivial ?_
      refine WCode.seq ?_
      refine WCode.region ?_
      refine WOps.p (G.assign rfl) rfl ?_
      refine WOps.nil ?_
      refine WEx.then_ ?_
      refine WCode.ret ?_
      obtain rfl := some_eq hF
      refine WEx.ret1 rfl rfl ?_
      have S87 := S86.front 2 rfl
      change St _ _ _ [[(p0, .cells #[.int .i64 t15.2.most, .slice A76 l73.length c77] 183 (0, 0))], G78, [(b67, .cells #[.int .i64 a1, .string (bs a2)] 187 (0, 0))]] at S87
      have hO88 : ObjO 183 Shelf_int__string_.rp p0 (⟨t15.2.most, l73⟩ : Shelf_int__string_) ([(p0, .cells #[.int .i64 t15.2.most, .slice A76 l73.length c77] 183 (0, 0))] ++ (G78)) := ⟨_, _, ⟨A76, c77, G78, rfl, hO81, rfl⟩, rfl⟩
      have S89 : St _ _ _ [[(p0, .cells #[.int .i64 t15.2.most, .slice A76 l73.length c77] 183 (0, 0))] ++ (G78), [(b67, .cells #[.int .i64 a1, .string (bs a2)] 187 (0, 0))]] := S87.objs (by simp)
      exact ⟨[(p0, .cells #[.int .i64 t15.2.most, .slice A76 l73.length c77] 183 (0, 0))] ++ (G78), rfl, hO88, St.keep (As := [[(p0, .cells #[.int .i64 t15.2.most, .slice A76 l73.length c77] 183 (0, 0))] ++ (G78)]) S89⟩

def sha_Keys.l1 : Nat → Shelf_int__string_ → List Int → Int → Option ((List Int) × Shelf_int__string_)
  | 0, _, _, _ => none
  | k28 + 1, a0, l22, x25 => (if x25 < (a0.pairs.length : Int) then (Option.bind (idx a0.pairs x25) fun x34 => (Option.bind (cat l22 ([x34.key] : List Int)) fun l64 => (sha_Keys.l1 k28 a0 l64 (w64 (x25 + 1))))) else (some (l22, a0)))
def sha_Keys (k : Nat) (a0 : Shelf_int__string_) : Option ((List Int) × Shelf_int__string_) := (if 0 ≤ (a0.pairs.length : Int) then (if (a0.pairs.length : Int) ≤ 68719476736 then (sha_Keys.l1 k a0 ([] : List Int) 0) else none) else none)
set_option maxRecDepth 100000 in
set_option maxHeartbeats 1000000 in
theorem sha_Keys_calls (k : Nat) (a0 : Shelf_int__string_) {p0 : Nat} {G0 : Grp} {w : World} (hO0 : ObjO 183 Shelf_int__string_.rp p0 a0 G0) {r_ : (List Int) × Shelf_int__string_} (h_ : sha_Keys k a0 = some r_) (hp_ : Hp w ([G0]).flatten) :
    Calls Try.prog 63 [.pointer (some ⟨p0, 0, none⟩)].toArray w fun e w' => ∃ A0' : Option Addr, ∃ c0' : Nat, ∃ G0' : Grp, ∃ Go0' : Grp, e = .returned (.slice A0' (r_.1).length c0') ∧ SlO 3 (Rp.int .i64) (.slice A0' (r_.1).length c0') (r_.1) G0' ∧ ObjO 183 Shelf_int__string_.rp p0 (r_.2) Go0' ∧ St w (KS [G0]) w' [G0', Go0'] := by
  have hF := h_
  clear h_
  unfold sha_Keys at hF
  have S := St.initK [G0] hp_
  obtain ⟨cs1, G2, ho3, hg4⟩ := hO0
  obtain ⟨A5, c6, G7, rfl, hO8, hq9⟩ := ho3
  have S10 : St _ _ _ [[(p0, .cells #[.int .i64 a0.most, .slice A5 a0.pairs.length c6] 183 (0, 0))], G7] := S.objs (by rw [hg4, hq9]; simp)
  refine enter 28 [(0, .pointer (some ⟨p0, 0, none⟩))] Try.func63 rfl rfl rfl rfl ?_
  refine WCode.seq ?_
  refine WCode.region ?_
  refine WOps.p (G.assign rfl) rfl ?_
  refine WOps.nil ?_
  refine WEx.then_ ?_
  refine WCode.seq ?_
  refine WCode.region ?_
  refine WOps.p (G.move rfl) rfl ?_
  refine WOps.p (G.nilp rfl) rfl ?_
  refine WOps.p (G.field T.fld183_1 rfl (show 0 + 1 = 1 from rfl)) rfl ?_
  refine WOps.r (G.load1 T.one181 rfl (cell_blk (S10.blk 0 rfl) rfl)) rfl ?_
  refine WOps.p (G.len T.el181 rfl) rfl ?_
  obtain ⟨h11, hF⟩ := guard_some hF
  obtain ⟨h12, hF⟩ := guard_some hF
  obtain ⟨A13, G14, w15, E16, hO17, S18, X19⟩ := St.make0 (P := Try.prog) (r := (Rp.int .i64)) S10 T.elt33 rfl h11 h12
  refine WOps.e (E16 rfl rfl) rfl ?_
  refine WOps.p (G.assign rfl) rfl ?_
  refine WOps.nil ?_
  refine WEx.then_ ?_
  refine WCode.seq ?_
  refine WCode.seq ?_
  refine WCode.region ?_
  refine WOps.p (G.move rfl) rfl ?_
  refine WOps.p (G.nilp rfl) rfl ?_
  refine WOps.p (G.field T.fld183_1 rfl (show 0 + 1 = 1 from rfl)) rfl ?_
  refine WOps.r (G.load1 T.one181 rfl (cell_blk (S18.blk 1 rfl) rfl)) rfl ?_
  refine WOps.p (G.len T.el181 rfl) rfl ?_
  refine WOps.p (G.move rfl) rfl ?_
  refine WOps.nil ?_
  refine WEx.then_ ?_
  refine WCode.forget (l' := [(3, .slice A13 ([] : List Int).length (((a0.pairs.length : Int)).toNat)), (15, .slice A5 a0.pairs.length c6), (16, .int .i64 (a0.pairs.length : Int)), (17, .int .i64 0)]) ⟨rfl, rfl, rfl, rfl, trivial⟩ ?_
  refine WCode.block ?_
  have S30 := S18.front 2 rfl
  change St _ _ _ [G7, G14, [(p0, .cells #[.int .i64 a0.most, .slice A5 a0.pairs.length c6] 183 (0, 0))]] at S30
  have S31 := S30.front 2 rfl
  change St _ _ _ [[(p0, .cells #[.int .i64 a0.most, .slice A5 a0.pairs.length c6] 183 (0, 0))], G7, G14] at S31
  refine WCode.forget (l' := [(3, .slice A13 ([] : List Int).length (((a0.pairs.length : Int)).toNat)), (15, .slice A5 a0.pairs.length c6), (16, .int .i64 (a0.pairs.length : Int)), (17, .int .i64 0)]) ⟨rfl, rfl, rfl, rfl, trivial⟩ ?_
  refine WCode.loop (fun n_ l_ w_ => ∃ A20 : Option Addr, ∃ c21 : Nat, ∃ l22 : List Int, ∃ G23 : Grp, ∃ x25 : Int, l_ = [(3, .slice A20 l22.length c21), (15, .slice A5 a0.pairs.length c6), (16, .int .i64 (a0.pairs.length : Int)), (17, .int .i64 x25)] ∧ sha_Keys.l1 n_ a0 l22 x25 = some r_ ∧ (SlO 3 (Rp.int .i64) (.slice A20 l22.length c21) l22 G23) ∧ St w (KS [G0]) w_ [[(p0, .cells #[.int .i64 a0.most, .slice A5 a0.pairs.length c6] 183 (0, 0))], G7, G23]) k ⟨A13, ((a0.pairs.length : Int)).toNat, ([] : List Int), G14, 0, rfl, hF, hO17, S31⟩ ?_
  rintro n29 _ w26 ⟨A20, c21, l22, G23, x25, rfl, hF, hO24, S27⟩
  obtain _ | k28 := n29
  · exact nomatch (show (none : Option ((List Int) × Shelf_int__string_)) = some r_ from hF)
  rw [sha_Keys.l1] at hF
  refine WCode.seq ?_
  refine WCode.region ?_
  refine WOps.p (G.lss rfl rfl rfl) rfl ?_
  refine WOps.nil ?_
  refine WEx.then_ ?_
  refine WCode.seq ?_
  rcases ite_some hF with ⟨h33, hF⟩ | ⟨h33, hF⟩
  ·
    refine WCode.cond_t (kb (b := decide (x25 < (a0.pairs.length : Int))) rfl (decide_eq_true h33)) ?_
    refine WCode.skip ?_
    refine WEx.then_ ?_
    refine WCode.seq ?_
    refine WCode.block ?_
    refine WCode.seq ?_
    refine WCode.region ?_
    obtain ⟨x34, hc35, hF⟩ := bind_some hF
    obtain ⟨j36, ej37, hj38, hl39⟩ := idx_spec hc35
    obtain ⟨b40, o41, cs42, eA43, hf44, hc45, hr46⟩ := SlR.at_ (hO8.rd (fun b o hb => S27.grp 1 rfl hb)) hj38
    have hq47 : cs42 = [.int .i64 x34.key, .string (bs x34.value)] := hr46
    subst hq47
    change cellsAt _ _ (o41 + j36 * 2) [.int .i64 x34.key, .string (bs x34.value)] at hc45
    refine WOps.p (G.idx T.el181 rfl eA43 rfl ej37 hl39) rfl ?_
    refine WOps.r (G.loada T.agg187_2 rfl (cs := [.int .i64 x34.key, .string (bs x34.value)]) hc45) rfl ?_
    obtain ⟨b48, w49, E50, S51, X52, L53⟩ := St.var S27 (z := .agg #[.int .i64 0, .string (bs ([] : List UInt8))]) T.zero187
    have c54 := hc45.ext X52
    change St _ _ _ [[(b48, .cells #[.int .i64 0, .string (bs ([] : List UInt8))] 187 (0, 0))], [(p0, .cells #[.int .i64 a0.most, .slice A5 a0.pairs.length c6] 183 (0, 0))], G7, G23] at S51
    refine WOps.e E50 rfl ?_
    obtain ⟨w55, E56, S57⟩ := St.store (P := Try.prog) S51 0 187 (.agg #[.int .i64 x34.key, .string (bs x34.value)]) (off := 0) (cur' := #[.int .i64 x34.key, .string (bs x34.value)]) rfl T.size187_2 rfl rfl rfl
    change St _ _ _ [[(b48, .cells #[.int .i64 x34.key, .string (bs x34.value)] 187 (0, 0))], [(p0, .cells #[.int .i64 a0.most, .slice A5 a0.pairs.length c6] 183 (0, 0))], G7, G23] at S57
    refine WOps.u (E56 rfl rfl) ?_
    refine WOps.nil ?_
    refine WEx.then_ ?_
    refine WCode.region ?_
    refine WOps.p (G.move rfl) rfl ?_
    refine WOps.p (G.field T.fld187_0 rfl (show 0 + 0 = 0 from rfl)) rfl ?_
    refine WOps.r (G.load1 T.one3 rfl (cell_blk (S57.blk 0 rfl) rfl)) rfl ?_
    obtain ⟨b58, w59, E60, S61, X62, L63⟩ := St.lit S57 (P := Try.prog) (t := 33) (e := 3) (n := 1) (vs := [(0, .int .i64 x34.key)]) (cs := #[.int .i64 x34.key]) (by kernel_rfl)
    change St _ _ _ [[(b58, .cells #[.int .i64 x34.key] 3 (0, 0))], [(b48, .cells #[.int .i64 x34.key, .string (bs x34.value)] 187 (0, 0))], [(p0, .cells #[.int .i64 a0.most, .slice A5 a0.pairs.length c6] 183 (0, 0))], G7, G23] at S61
    refine WOps.e (E60 (evp_cons rfl evp_nil)) rfl ?_
    obtain ⟨l64, hc65, hF⟩ := bind_some hF
    have S66 := S61.front 4 rfl
    change St _ _ _ [G23, [(b58, .cells #[.int .i64 x34.key] 3 (0, 0))], [(b48, .cells #[.int .i64 x34.key, .string (bs x34.value)] 187 (0, 0))], [(p0, .cells #[.int .i64 a0.most, .slice A5 a0.pairs.length c6] 183 (0, 0))], G7] at S66
    obtain ⟨A67, c68, G69, w70, E71, hO72, S73, hk74⟩ := St.appP (P := Try.prog) (r := (Rp.int .i64)) (M := ([x34.key] : List Int)) S66 T.elt33 rfl hO24 (Rd.of_blk (S66.blk 1 rfl) (n := 1) (sz := 1) rfl) ⟨_, _, [], [], rfl, rfl, ⟨rfl, rfl⟩, ⟨rfl, rfl⟩⟩ rfl hc65
    change St _ _ _ [G69, [(b58, .cells #[.int .i64 x34.key] 3 (0, 0))], [(b48, .cells #[.int .i64 x34.key, .string (bs x34.value)] 187 (0, 0))], [(p0, .cells #[.int .i64 a0.most, .slice A5 a0.pairs.length c6] 183 (0, 0))], G7] at S73
    refine WOps.e (E71 rfl rfl) rfl ?_
    refine WOps.p (G.assign rfl) rfl ?_
    refine WOps.nil ?_
    refine WEx.in_normal ?_
    refine WEx.then_ ?_
    refine WCode.region ?_
    refine WOps.p (G.add rfl rfl (r := (w64 (x25 + 1))) rfl) rfl ?_
    refine WOps.p (G.move rfl) rfl ?_
    refine WOps.nil ?_
    have S75 := S73.front 4 rfl
    change St _ _ _ [G7, G69, [(b58, .cells #[.int .i64 x34.key] 3 (0, 0))], [(b48, .cells #[.int .i64 x34.key, .string (bs x34.value)] 187 (0, 0))], [(p0, .cells #[.int .i64 a0.most, .slice A5 a0.pairs.length c6] 183 (0, 0))]] at S75
    have S76 := S75.front 4 rfl
    change St _ _ _ [[(p0, .cells #[.int .i64 a0.most, .slice A5 a0.pairs.length c6] 183 (0, 0))], G7, G69, [(b58, .cells #[.int .i64 x34.key] 3 (0, 0))], [(b48, .cells #[.int .i64 x34.key, .string (bs x34.value)] 187 (0, 0))]] at S76
    have S77 := St.keep (As := [[(p0, .cells #[.int .i64 a0.most, .slice A5 a0.pairs.length c6] 183 (0, 0))], G7, G69]) S76
    refine WEx.again _ _ (by omega) ?_ ⟨A67, c68, l64, G69, w64 (x25 + 1), rfl, hF, hO72, S77⟩
    exact ⟨rfl, rfl, rfl, rfl, trivial⟩
  ·
    refine WCode.cond_f (kb (b := decide (x25 < (a0.pairs.length : Int))) rfl (decide_eq_false h33)) ?_
    refine WCode.exit ?_
    refine WEx.then_exit ?_
    refine WEx.then_exit ?_
    refine WEx.in_exit ?_
    refine WEx.then_ ?_
    refine WCode.seq ?_
    refine WCode.region ?_
    refine WOps.p (G.move rfl) rfl ?_
    refine WOps.p (G.assign rfl) rfl ?_
    refine WOps.nil ?_
    refine WEx.then_ ?_
    refine WCode.ret ?_
    obtain rfl := some_eq hF
    refine WEx.ret1 rfl rfl ?_
    have S78 := S27.front 1 rfl
    change St _ _ _ [G7, [(p0, .cells #[.int .i64 a0.most, .slice A5 a0.pairs.length c6] 183 (0, 0))], G23] at S78
    have S79 := S78.front 1 rfl
    change St _ _ _ [[(p0, .cells #[.int .i64 a0.most, .slice A5 a0.pairs.length c6] 183 (0, 0))], G7, G23] at S79
    have hO80 : ObjO 183 Shelf_int__string_.rp p0 a0 ([(p0, .cells #[.int .i64 a0.most, .slice A5 a0.pairs.length c6] 183 (0, 0))] ++ (G7)) := ⟨_, _, ⟨A5, c6, G7, rfl, hO8, rfl⟩, rfl⟩
    have S81 : St _ _ _ [[(p0, .cells #[.int .i64 a0.most, .slice A5 a0.pairs.length c6] 183 (0, 0))] ++ (G7), G23] := S79.objs (by simp)
    have S82 := S81.front 1 rfl
    change St _ _ _ [G23, [(p0, .cells #[.int .i64 a0.most, .slice A5 a0.pairs.length c6] 183 (0, 0))] ++ (G7)] at S82
    exact ⟨A20, c21, G23, [(p0, .cells #[.int .i64 a0.most, .slice A5 a0.pairs.length c6] 183 (0, 0))] ++ (G7), rfl, hO24, hO80, St.keep (As := [G23, [(p0, .cells #[.int .i64 a0.most, .slice A5 a0.pairs.length c6] 183 (0, 0))] ++ (G7)]) S82⟩

def sha_del (k : Nat) (a0 : List Pair_int__string_) (a1 : Int) (a2 : Int) : Option (List Pair_int__string_) := (Option.bind (cut a0 a1 a2) fun m1 => (if a1 = a2 then (some a0) else (Option.bind (cut a0 0 a1) fun m6 => (Option.bind (cut a0 a2 (a0.length : Int)) fun m9 => (Option.bind (cat m6 m9) fun l12 => (if a1 ≤ a2 then (if (l12.length : Int) ≤ (a0.length : Int) then (some l12) else none) else none))))))
set_option maxRecDepth 100000 in
set_option maxHeartbeats 1000000 in
theorem sha_del_calls (k : Nat) (a0 : List Pair_int__string_) {A0 : Option Addr} {c0 : Nat} {G0 : Grp} (a1 : Int) (a2 : Int) {w : World} (hO0 : SlO 187 Pair_int__string_.rp (.slice A0 a0.length c0) a0 G0) {r_ : (List Pair_int__string_)} (h_ : sha_del k a0 a1 a2 = some r_) (hp_ : Hp w ([G0]).flatten) :
    Calls Try.prog 104 [.slice A0 a0.length c0, .int .i64 a1, .int .i64 a2].toArray w fun e w' => ∃ A0' : Option Addr, ∃ c0' : Nat, ∃ G0' : Grp, e = .returned (.slice A0' (r_).length c0') ∧ SlO 187 Pair_int__string_.rp (.slice A0' (r_).length c0') (r_) G0' ∧ St w (KS [G0]) w' [G0'] := by
  have hF := h_
  clear h_
  unfold sha_del at hF
  have S := St.initK [G0] hp_
  refine enter 33 [(0, .slice A0 a0.length c0), (1, .int .i64 a1), (2, .int .i64 a2)] Try.func104 rfl rfl rfl rfl ?_
  refine WCode.seq ?_
  refine WCode.region ?_
  refine WOps.p (G.assign rfl) rfl ?_
  refine WOps.nil ?_
  refine WEx.then_ ?_
  refine WCode.seq ?_
  refine WCode.region ?_
  refine WOps.p (G.move rfl) rfl ?_
  refine WOps.p (G.move rfl) rfl ?_
  refine WOps.p (G.move rfl) rfl ?_
  refine WOps.p (G.move rfl) rfl ?_
  refine WOps.p (G.len T.el181 rfl) rfl ?_
  obtain ⟨m1, hc2, hF⟩ := bind_some hF
  refine WOps.p (G.cut_lhm T.el181 rfl rfl rfl rfl hc2 (hO0.rd (fun b o hb => S.grp 0 rfl hb)).cap) rfl ?_
  refine WOps.nil ?_
  refine WEx.then_ ?_
  refine WCode.seq ?_
  refine WCode.seq ?_
  refine WCode.region ?_
  refine WOps.p (G.move rfl) rfl ?_
  refine WOps.p (G.move rfl) rfl ?_
  refine WOps.p (G.eql rfl rfl rfl) rfl ?_
  refine WOps.nil ?_
  refine WEx.then_ ?_
  rcases ite_some hF with ⟨h3, hF⟩ | ⟨h3, hF⟩
  ·
    refine WCode.cond_t (kb (b := decide (a1 = a2)) rfl (decide_eq_true h3)) ?_
    refine WCode.seq ?_
    refine WCode.region ?_
    refine WOps.p (G.move rfl) rfl ?_
    refine WOps.p (G.assign rfl) rfl ?_
    refine WOps.nil ?_
    refine WEx.then_ ?_
    refine WCode.forget (l' := [(6, .slice A0 a0.length c0)]) ⟨rfl, trivial⟩ ?_
    refine WCode.ret ?_
    refine WEx.then_ret ?_
    obtain rfl := some_eq hF
    refine WEx.ret1 rfl rfl ?_
    exact ⟨A0, c0, G0, rfl, hO0, St.keep (As := [G0]) S⟩
  ·
    refine WCode.cond_f (kb (b := decide (a1 = a2)) rfl (decide_eq_false h3)) ?_
    refine WCode.skip ?_
    refine WEx.then_ ?_
    refine WCode.forget (l' := [(0, .slice A0 a0.length c0), (1, .int .i64 a1), (2, .int .i64 a2)]) ⟨rfl, rfl, rfl, trivial⟩ ?_
    refine WCode.seq ?_
    refine WCode.region ?_
    refine WOps.p (G.move rfl) rfl ?_
    refine WOps.p (G.len T.el181 rfl) rfl ?_
    refine WOps.p (G.assign rfl) rfl ?_
    refine WOps.nil ?_
    refine WEx.then_ ?_
    refine WCode.seq ?_
    refine WCode.draw [⟨0, 0, []⟩, ⟨1, 0, []⟩, ⟨2, 0, []⟩, ⟨3, 0, []⟩, ⟨4, 0, []⟩, ⟨5, 0, []⟩, ⟨6, 2, []⟩, ⟨7, 0, []⟩] T.mixed (by kernel_rfl) (by intro _ _ d _ _ h; cases d <;> exact h) rfl (by kernel_rfl) ?_
    have S4 := S.drew
    generalize w.drew = w5 at *
    refine WD.p rfl (G.move rfl) rfl ?_
    refine WD.p rfl (G.move rfl) rfl ?_
    obtain ⟨m6, hc7, hF⟩ := bind_some hF
    have hv8 := (SlO.toG hO0).cut_h hc7
    refine WD.p rfl (G.cut_h T.el181 rfl rfl hc7 (hO0.rd (fun b o hb => S4.grp 0 rfl hb)).cap) rfl ?_
    refine WD.p rfl (G.move rfl) rfl ?_
    refine WD.p rfl (G.move rfl) rfl ?_
    obtain ⟨m9, hc10, hF⟩ := bind_some hF
    have hv11 := (SlO.toG hO0).cut_lh hc10
    refine WD.p rfl (G.cut_l T.el181 rfl rfl hc10) rfl ?_
    obtain ⟨l12, hc13, hF⟩ := bind_some hF
    obtain ⟨h14, hF⟩ := guard_some hF
    have hw15 : a0.length ≤ c0 := (hO0.rd (fun b o hb => S4.grp 0 rfl hb)).cap
    obtain ⟨G16, w17, E18, hO19, S20⟩ := St.delApp (P := Try.prog) S4 T.elt181 hO0 hc7 hc10 h14
    have el21 := (cat_spec hc13).2
    rw [← el21] at hO19
    change St _ _ _ [G16] at S20
    refine WD.e rfl (el21 ▸ E18 rfl rfl) rfl ?_
    refine WD.p rfl (G.assign rfl) rfl ?_
    refine WD.nil ?_
    refine WEx.then_ ?_
    refine WCode.forget (l' := [(0, .slice A0 l12.length c0), (7, .int .i64 (a0.length : Int))]) ⟨rfl, rfl, trivial⟩ ?_
    refine WCode.seq ?_
    refine WCode.region ?_
    refine WOps.p (G.move rfl) rfl ?_
    refine WOps.p (G.move rfl) rfl ?_
    refine WOps.p (G.len T.el181 rfl) rfl ?_
    refine WOps.p (G.move rfl) rfl ?_
    obtain ⟨h22, hF⟩ := guard_some hF
    have hj23 : (a0.length : Int) ≤ (c0 : Int) := by have := hw15; omega
    refine WOps.p (G.tail T.el181 rfl rfl rfl h22 hj23) rfl ?_
    obtain ⟨G24, w25, E26, hO27, S28⟩ := St.clearTail (P := Try.prog) (n := ((a0.length : Int) - l12.length).toNat) S20 T.elt181 (by kernel_rfl) hO19 (by omega)
    change St _ _ _ [G24] at S28
    refine WOps.val0 (E26 rfl) ?_
    refine WOps.nil ?_
    refine WEx.then_ ?_
    refine WCode.seq ?_
    refine WCode.region ?_
    refine WOps.p (G.move rfl) rfl ?_
    refine WOps.p (G.assign rfl) rfl ?_
    refine WOps.nil ?_
    refine WEx.then_ ?_
    refine WCode.ret ?_
    obtain rfl := some_eq hF
    refine WEx.ret1 rfl rfl ?_
    exact ⟨A0, c0, G24, rfl, hO27, St.keep (As := [G24]) S28⟩

def sha_Drop (k : Nat) (a0 : Shelf_int__string_) (a1 : Int) : Option (Int × Shelf_int__string_) := (Option.bind (sha_place k a0 a1) fun t15 => (if t15.1 < 0 then (some (141, t15.2)) else (Option.bind (sha_del k t15.2.pairs t15.1 (w64 (t15.1 + 1))) fun t37 => (some (0, (⟨t15.2.most, (t37)⟩ : Shelf_int__string_))))))
set_option maxRecDepth 100000 in
set_option maxHeartbeats 1000000 in
theorem sha_Drop_calls (k : Nat) (a0 : Shelf_int__string_) {p0 : Nat} {G0 : Grp} (a1 : Int) {w : World} (hO0 : ObjO 183 Shelf_int__string_.rp p0 a0 G0) {r_ : Int × Shelf_int__string_} (h_ : sha_Drop k a0 a1 = some r_) (hp_ : Hp w ([G0]).flatten) :
    Calls Try.prog 59 [.pointer (some ⟨p0, 0, none⟩), .int .i64 a1].toArray w fun e w' => ∃ Go0' : Grp, e = .returned (.int .i64 r_.1) ∧ ObjO 183 Shelf_int__string_.rp p0 (r_.2) Go0' ∧ St w (KS [G0]) w' [Go0'] := by
  have hF := h_
  clear h_
  unfold sha_Drop at hF
  have S := St.initK [G0] hp_
  obtain ⟨cs1, G2, ho3, hg4⟩ := hO0
  obtain ⟨A5, c6, G7, rfl, hO8, hq9⟩ := ho3
  have S10 : St _ _ _ [[(p0, .cells #[.int .i64 a0.most, .slice A5 a0.pairs.length c6] 183 (0, 0))], G7] := S.objs (by rw [hg4, hq9]; simp)
  refine enter 22 [(0, .pointer (some ⟨p0, 0, none⟩)), (1, .int .i64 a1)] Try.func59 rfl rfl rfl rfl ?_
  refine WCode.seq ?_
  refine WCode.region ?_
  refine WOps.p (G.assign rfl) rfl ?_
  refine WOps.nil ?_
  refine WEx.then_ ?_
  refine WCode.seq ?_
  refine WCode.region ?_
  refine WOps.p (G.move rfl) rfl ?_
  refine WOps.p (G.move rfl) rfl ?_
  have S11 := S10.front 1 rfl
  change St _ _ _ [G7, [(p0, .cells #[.int .i64 a0.most, .slice A5 a0.pairs.length c6] 183 (0, 0))]] at S11
  have S12 := S11.front 1 rfl
  change St _ _ _ [[(p0, .cells #[.int .i64 a0.most, .slice A5 a0.pairs.length c6] 183 (0, 0))], G7] at S12
  have hO13 : ObjO 183 Shelf_int__string_.rp p0 a0 ([(p0, .cells #[.int .i64 a0.most, .slice A5 a0.pairs.length c6] 183 (0, 0))] ++ (G7)) := ⟨_, _, ⟨A5, c6, G7, rfl, hO8, rfl⟩, rfl⟩
  have S14 : St _ _ _ [[(p0, .cells #[.int .i64 a0.most, .slice A5 a0.pairs.length c6] 183 (0, 0))] ++ (G7)] := S12.objs (by simp)
  obtain ⟨t15, hc16, hF⟩ := bind_some hF
  refine WOps.call T.call103 (evs_cons rfl (evs_cons rfl evs_nil)) rfl ?_
  refine (sha_place_calls k a0 a1 hO13 hc16 (St.hpN (As := [[(p0, .cells #[.int .i64 a0.most, .slice A5 a0.pairs.length c6] 183 (0, 0))] ++ (G7)]) S14)).mono ?_
  rintro _ w17 ⟨G20, rfl, hO21, T18⟩
  have S19 := St.callN (As := [[(p0, .cells #[.int .i64 a0.most, .slice A5 a0.pairs.length c6] 183 (0, 0))] ++ (G7)]) S14 T18
  change St _ _ _ [G20] at S19
  refine ⟨_, rfl, ?_⟩
  obtain ⟨cs22, G23, ho24, hg25⟩ := hO21
  obtain ⟨A26, c27, G28, rfl, hO29, hq30⟩ := ho24
  have S31 : St _ _ _ [[(p0, .cells #[.int .i64 t15.2.most, .slice A26 t15.2.pairs.length c27] 183 (0, 0))], G28] := S19.objs (by rw [hg25, hq30]; simp)
  refine WOps.p (G.assign rfl) rfl ?_
  refine WOps.nil ?_
  refine WEx.then_ ?_
  refine WCode.seq ?_
  refine WCode.seq ?_
  refine WCode.region ?_
  refine WOps.p (G.move rfl) rfl ?_
  refine WOps.p (G.lss rfl rfl rfl) rfl ?_
  refine WOps.nil ?_
  refine WEx.then_ ?_
  rcases ite_some hF with ⟨h32, hF⟩ | ⟨h32, hF⟩
  ·
    refine WCode.cond_t (kb (b := decide (t15.1 < 0)) rfl (decide_eq_true h32)) ?_
    refine WCode.seq ?_
    refine WCode.region ?_
    refine WOps.p (G.assign rfl) rfl ?_
    refine WOps.nil ?_
    refine WEx.then_ ?_
    refine WCode.ret ?_
    refine WEx.then_ret ?_
    obtain rfl := some_eq hF
    refine WEx.ret1 rfl rfl ?_
    have S33 := S31.front 1 rfl
    change St _ _ _ [G28, [(p0, .cells #[.int .i64 t15.2.most, .slice A26 t15.2.pairs.length c27] 183 (0, 0))]] at S33
    have S34 := S33.front 1 rfl
    change St _ _ _ [[(p0, .cells #[.int .i64 t15.2.most, .slice A26 t15.2.pairs.length c27] 183 (0, 0))], G28] at S34
    have hO35 : ObjO 183 Shelf_int__string_.rp p0 t15.2 ([(p0, .cells #[.int .i64 t15.2.most, .slice A26 t15.2.pairs.length c27] 183 (0, 0))] ++ (G28)) := ⟨_, _, ⟨A26, c27, G28, rfl, hO29, rfl⟩, rfl⟩
    have S36 : St _ _ _ [[(p0, .cells #[.int .i64 t15.2.most, .slice A26 t15.2.pairs.length c27] 183 (0, 0))] ++ (G28)] := S34.objs (by simp)
    exact ⟨[(p0, .cells #[.int .i64 t15.2.most, .slice A26 t15.2.pairs.length c27] 183 (0, 0))] ++ (G28), rfl, hO35, St.keep (As := [[(p0, .cells #[.int .i64 t15.2.most, .slice A26 t15.2.pairs.length c27] 183 (0, 0))] ++ (G28)]) S36⟩
  ·
    refine WCode.cond_f (kb (b := decide (t15.1 < 0)) rfl (decide_eq_false h32)) ?_
    refine WCode.skip ?_
    refine WEx.then_ ?_
    refine WCode.seq ?_
    refine WCode.region ?_
    refine WOps.p (G.move rfl) rfl ?_
    refine WOps.p (G.move rfl) rfl ?_
    refine WOps.p (G.nilp rfl) rfl ?_
    refine WOps.p (G.field T.fld183_1 rfl (show 0 + 1 = 1 from rfl)) rfl ?_
    refine WOps.r (G.load1 T.one181 rfl (cell_blk (S31.blk 0 rfl) rfl)) rfl ?_
    refine WOps.p (G.move rfl) rfl ?_
    refine WOps.p (G.move rfl) rfl ?_
    refine WOps.p (G.add rfl rfl (r := (w64 (t15.1 + 1))) rfl) rfl ?_
    obtain ⟨t37, hc38, hF⟩ := bind_some hF
    have S39 := S31.front 1 rfl
    change St _ _ _ [G28, [(p0, .cells #[.int .i64 t15.2.most, .slice A26 t15.2.pairs.length c27] 183 (0, 0))]] at S39
    refine WOps.call T.call104 (evs_cons rfl (evs_cons rfl (evs_cons rfl evs_nil))) rfl ?_
    refine (sha_del_calls k t15.2.pairs t15.1 (w64 (t15.1 + 1)) hO29 hc38 (St.hpN (As := [G28]) S39)).mono ?_
    rintro _ w40 ⟨A43, c44, G45, rfl, hO46, T41⟩
    have S42 := St.callN (As := [G28]) S39 T41
    change St _ _ _ [G45, [(p0, .cells #[.int .i64 t15.2.most, .slice A26 t15.2.pairs.length c27] 183 (0, 0))]] at S42
    refine ⟨_, rfl, ?_⟩
    refine WOps.p (G.nilp rfl) rfl ?_
    refine WOps.p (G.field T.fld183_1 rfl (show 0 + 1 = 1 from rfl)) rfl ?_
    obtain ⟨w47, E48, S49⟩ := St.store (P := Try.prog) S42 1 181 (.slice A43 (t37).length c44) (off := 1) (cur' := #[.int .i64 t15.2.most, .slice A43 (t37).length c44]) rfl T.size181_1 rfl rfl rfl
    change St _ _ _ [G45, [(p0, .cells #[.int .i64 t15.2.most, .slice A43 (t37).length c44] 183 (0, 0))]] at S49
    refine WOps.u (E48 rfl rfl) ?_
    refine WOps.nil ?_
    refine WEx.then_ ?_
    refine WCode.forget (l' := []) trivial ?_
    refine WCode.seq ?_
    refine WCode.region ?_
    refine WOps.p (G.assign rfl) rfl ?_
    refine WOps.nil ?_
    refine WEx.then_ ?_
    refine WCode.ret ?_
    obtain rfl := some_eq hF
    refine WEx.ret1 rfl rfl ?_
    have S50 := S49.front 1 rfl
    change St _ _ _ [[(p0, .cells #[.int .i64 t15.2.most, .slice A43 (t37).length c44] 183 (0, 0))], G45] at S50
    have hO51 : ObjO 183 Shelf_int__string_.rp p0 (⟨t15.2.most, (t37)⟩ : Shelf_int__string_) ([(p0, .cells #[.int .i64 t15.2.most, .slice A43 (t37).length c44] 183 (0, 0))] ++ (G45)) := ⟨_, _, ⟨A43, c44, G45, rfl, hO46, rfl⟩, rfl⟩
    have S52 : St _ _ _ [[(p0, .cells #[.int .i64 t15.2.most, .slice A43 (t37).length c44] 183 (0, 0))] ++ (G45)] := S50.objs (by simp)
    exact ⟨[(p0, .cells #[.int .i64 t15.2.most, .slice A43 (t37).length c44] 183 (0, 0))] ++ (G45), rfl, hO51, St.keep (As := [[(p0, .cells #[.int .i64 t15.2.most, .slice A43 (t37).length c44] 183 (0, 0))] ++ (G45)]) S52⟩

def sha_Clone (k : Nat) (a0 : List Pair_int__string_) : Option (List Pair_int__string_) := (Option.bind (cat ([] : List Pair_int__string_) a0) fun l11 => (some l11))
set_option maxRecDepth 100000 in
set_option maxHeartbeats 1000000 in
theorem sha_Clone_calls (k : Nat) (a0 : List Pair_int__string_) {A0 : Option Addr} {c0 : Nat} {F0 : Nat → Prop} {w : World} (hR0 : SlR Pair_int__string_.rp w F0 A0 c0 a0) (hF0 : ∀ b, F0 b → NK w [] b) {r_ : (List Pair_int__string_)} (h_ : sha_Clone k a0 = some r_) :
    Calls Try.prog 105 [.slice A0 a0.length c0].toArray w fun e w' => ∃ A0' : Option Addr, ∃ c0' : Nat, ∃ G0' : Grp, e = .returned (.slice A0' (r_).length c0') ∧ SlO 187 Pair_int__string_.rp (.slice A0' (r_).length c0') (r_) G0' ∧ St w (KS []) w' [G0'] := by
  have hF := h_
  clear h_
  unfold sha_Clone at hF
  have S := St.ofFalse (As := []) (St.init0 w)
  refine enter 8 [(0, .slice A0 a0.length c0)] Try.func105 rfl rfl rfl rfl ?_
  refine WCode.seq ?_
  refine WCode.region ?_
  refine WOps.p (G.assign rfl) rfl ?_
  refine WOps.nil ?_
  refine WEx.then_ ?_
  refine WCode.seq ?_
  refine WCode.seq ?_
  refine WCode.region ?_
  refine WOps.p (G.move rfl) rfl ?_
  by_cases hA1 : A0 = none
  ·
    have hL2 := SlR.none_nil (hR0.ext (S.keepF hF0)) hA1
    have hF : (some []) = some r_ := by simpa [cat, hL2] using hF
    refine WOps.p (G.eq_nil Try.underlying181 rfl rfl (decide_eq_true hA1)) rfl ?_
    refine WOps.nil ?_
    refine WEx.then_ ?_
    refine WCode.cond_t rfl ?_
    refine WCode.seq ?_
    refine WCode.region ?_
    refine WOps.p (G.assign rfl) rfl ?_
    refine WOps.nil ?_
    refine WEx.then_ ?_
    refine WCode.ret ?_
    refine WEx.then_ret ?_
    obtain rfl := some_eq hF
    refine WEx.ret1 rfl rfl ?_
    have S3 := S.emp
    exact ⟨none, 0, ([] : Grp), rfl, (SlO.nil 187 Pair_int__string_.rp), St.keep (As := [([] : Grp)]) S3⟩
  ·
    refine WOps.p (G.eq_nil Try.underlying181 rfl rfl (decide_eq_false hA1)) rfl ?_
    refine WOps.nil ?_
    refine WEx.then_ ?_
    refine WCode.cond_f rfl ?_
    refine WCode.skip ?_
    refine WEx.then_ ?_
    refine WCode.seq ?_
    refine WCode.region ?_
    obtain ⟨b5, w6, E7, S8, X9, L10⟩ := St.lit S (P := Try.prog) (t := 181) (e := 187) (n := 0) (vs := []) (cs := #[]) (by kernel_rfl)
    change St _ _ _ [[(b5, .cells #[] 187 (0, 0))]] at S8
    refine WOps.e (E7 evp_nil) rfl ?_
    refine WOps.p (G.move rfl) rfl ?_
    obtain ⟨l11, hc12, hF⟩ := bind_some hF
    have S13 := S8.emp
    obtain ⟨xs22, he23, hd24⟩ := SlR.Rd (hR0.ext (S13.keepF hF0))
    obtain ⟨A14, c15, G16, w17, E18, hO19, S20, hk21⟩ := St.appP (P := Try.prog) (r := Pair_int__string_.rp) (M := a0) S13 T.elt181 rfl (SlO.zero 187 Pair_int__string_.rp (some ⟨b5, 0, none⟩)) hd24 (elems.flat plain_flat he23) rfl hc12
    change St _ _ _ [G16, [(b5, .cells #[] 187 (0, 0))]] at S20
    refine WOps.e (E18 rfl rfl) rfl ?_
    refine WOps.p (G.assign rfl) rfl ?_
    refine WOps.nil ?_
    refine WEx.then_ ?_
    refine WCode.ret ?_
    obtain rfl := some_eq hF
    refine WEx.ret1 rfl rfl ?_
    exact ⟨A14, c15, G16, rfl, hO19, St.keep (As := [G16]) S20⟩

end Go.Proofs.Ytoahkjehjmbojaa
