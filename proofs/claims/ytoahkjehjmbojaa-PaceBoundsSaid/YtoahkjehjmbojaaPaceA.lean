/- Walks (printed by gen.py over the engine). -/
import Derived.Test.YtoahkjehjmbojaaProg
import Derived.Test.YtoahkjehjmbojaaEng
namespace Go.Proofs.Ytoahkjehjmbojaa
open Go Go.Eng
set_option linter.unusedSimpArgs false
set_option linter.unusedVariables false
theorem T.agg53_3 : isAggT Try.prog 53 3 = true := by kernel_rfl
theorem T.call27 : Callable Try.prog 27 := Callable.mk Try.func27 (by kernel_rfl) (by kernel_rfl)
theorem T.call28 : Callable Try.prog 28 := Callable.mk Try.func28 (by kernel_rfl) (by kernel_rfl)
theorem T.call31 : Callable Try.prog 31 := Callable.mk Try.func31 (by kernel_rfl) (by kernel_rfl)
theorem T.call32 : Callable Try.prog 32 := Callable.mk Try.func32 (by kernel_rfl) (by kernel_rfl)
theorem T.fld53_0 : fldOff Try.prog 53 0 = some 0 := by kernel_rfl
theorem T.fld53_1 : fldOff Try.prog 53 1 = some 1 := by kernel_rfl
theorem T.fld53_2 : fldOff Try.prog 53 2 = some 2 := by kernel_rfl
theorem T.one3 : isOneT Try.prog 3 = true := by kernel_rfl
theorem T.mixed : Try.prog.follows .mixedOrders = true := by kernel_rfl
def i64 (x : Int) : Prop := -9223372036854775808 ≤ x ∧ x ≤ 9223372036854775807

/-! ### Paces: what their calls come to -/
def RightP (b c t : Int) : Prop := 1 ≤ b ∧ b ≤ c ∧ c ≤ 1048576 ∧ 1 ≤ t ∧ t ≤ 32
instance (b c t : Int) : Decidable (RightP b c t) := inferInstanceAs (Decidable (_ ∧ _))
/-- The k-th wait. -/
def wz (b c : Int) (k : Nat) : Int := if b * 2 ^ k ≤ c then b * 2 ^ k else c
theorem pow_pos' (k : Nat) : (1 : Int) ≤ 2 ^ k := by
  induction k with
  | zero => decide
  | succ k ih => rw [Int.pow_succ]; omega
theorem wz_zero {b c t : Int} (h : RightP b c t) : wz b c 0 = b := by
  unfold wz; have h1 := h.2.1; simp; omega
theorem wz_in {b c t : Int} (h : RightP b c t) (k : Nat) : 1 ≤ wz b c k ∧ b ≤ wz b c k ∧ wz b c k ≤ c ∧ c ≤ 1048576 := by
  obtain ⟨h1, h2, h3, _, _⟩ := h
  have hp := pow_pos' k
  have hm : b * 1 ≤ b * 2 ^ k := Int.mul_le_mul_of_nonneg_left hp (by omega)
  unfold wz
  split <;> omega
theorem wz_succ {b c t : Int} (h : RightP b c t) {k : Nat} : (if c < 2 * wz b c k then c else 2 * wz b c k) = wz b c (k + 1) := by
  obtain ⟨h1, h2, h3, _, _⟩ := h
  have e : b * 2 ^ (k + 1) = 2 * (b * 2 ^ k) := by rw [Int.pow_succ, ← Int.mul_assoc, Int.mul_comm]
  unfold wz
  rw [e]
  generalize b * 2 ^ k = q
  split <;> split <;> (try split) <;> omega
theorem wz_big {b c t : Int} (h : RightP b c t) {k : Nat} (hk : 20 ≤ k) : wz b c k = c := by
  obtain ⟨h1, h2, h3, _, _⟩ := h
  obtain ⟨j, rfl⟩ : ∃ j, k = 20 + j := ⟨k - 20, by omega⟩
  have hp := pow_pos' j
  have e : b * 2 ^ (20 + j) = b * (1048576 * 2 ^ j) := by rw [Int.pow_add]; rfl
  have hm : b * 1048576 ≤ b * (1048576 * 2 ^ j) := Int.mul_le_mul_of_nonneg_left (by omega) (by omega)
  unfold wz
  rw [e]
  split <;> omega
theorem wz_end {b c t n : Int} (h : RightP b c t) {i : Nat} (hi : i ≤ 20 ∧ ((i : Int) ≤ n ∨ i = 0)) (h0 : (if 20 < n then 20 else n) ≤ (i : Int)) : wz b c n.toNat = wz b c i := by
  split at h0
  · rw [wz_big h (show 20 ≤ n.toNat by omega), wz_big h (show 20 ≤ i by omega)]
  · rw [show n.toNat = i by omega]
theorem pow_next {b : Int} {i : Nat} : b * 2 ^ (i + 1) = 2 * (b * 2 ^ i) := by rw [Int.pow_succ, ← Int.mul_assoc, Int.mul_comm]
theorem ref_end1 {b c : Int} {i : Nat} : (if c < b * 2 ^ i then c else b * 2 ^ i) = wz b c i := by
  unfold wz; split <;> split <;> omega
theorem ref_end2 {b c t : Int} (h : RightP b c t) {i k : Nat} (h0 : c ≤ b * 2 ^ i) (hk : i ≤ k) : wz b c i = wz b c k := by
  obtain ⟨j, rfl⟩ : ∃ j, k = i + j := ⟨k - i, by omega⟩
  have hp := pow_pos' j
  have hb : 0 ≤ b * 2 ^ i := by have := h.1; have := h.2.1; omega
  have e : b * 2 ^ (i + j) = (b * 2 ^ i) * 2 ^ j := by rw [Int.pow_add, Int.mul_assoc]
  have hm : (b * 2 ^ i) * 1 ≤ (b * 2 ^ i) * 2 ^ j := Int.mul_le_mul_of_nonneg_left hp hb
  unfold wz
  rw [e]
  split <;> split <;> omega
def sumW (b c : Int) : Nat → Int
  | 0 => 0
  | k + 1 => sumW b c k + wz b c k
theorem sumW_in {b c t : Int} (h : RightP b c t) (k : Nat) : k * b ≤ sumW b c k ∧ sumW b c k ≤ k * c ∧ 0 ≤ sumW b c k ∧ sumW b c k ≤ k * 1048576 := by
  induction k with
  | zero => simp [sumW]
  | succ k ih =>
    have := wz_in h k
    have e1 : ((k + 1 : Nat) : Int) * b = k * b + b := by rw [Int.natCast_add, Int.add_mul]; simp
    have e2 : ((k + 1 : Nat) : Int) * c = k * c + c := by rw [Int.natCast_add, Int.add_mul]; simp
    rw [e1, e2]
    simp only [sumW]
    omega

set_option maxRecDepth 100000 in
set_option maxHeartbeats 1000000 in
theorem pace_Right {w : World} (b c t : Int) (hb : i64 b) (hc : i64 c) (ht : i64 t) :
    Calls Try.prog 27 [.agg #[.int .i64 b, .int .i64 c, .int .i64 t]].toArray w fun e w' => e = .returned (.bool (decide (RightP b c t))) ∧ St w (fun _ => False) w' [] := by
  have cs : (b < 1) ∨ (1 ≤ b ∧ c < b) ∨ (1 ≤ b ∧ b ≤ c ∧ 1048576 < c) ∨ (1 ≤ b ∧ b ≤ c ∧ c ≤ 1048576 ∧ t < 1) ∨ (1 ≤ b ∧ b ≤ c ∧ c ≤ 1048576 ∧ 32 < t) ∨ (1 ≤ b ∧ b ≤ c ∧ c ≤ 1048576 ∧ 1 ≤ t ∧ t ≤ 32) := by omega
  rcases cs with h | h | h | h | h | h
  · have S := St.init0 w
    refine enter 28 [(0, .agg #[.int .i64 b, .int .i64 c, .int .i64 t])] Try.func27 rfl rfl rfl rfl ?_
    refine WCode.seq ?_
    refine WCode.region ?_
    obtain ⟨b1, w2, E3, S4, X5, L6⟩ := St.box S Try.prog 53 (.agg #[.int .i64 b, .int .i64 c, .int .i64 t])
    change St _ _ _ [[(b1, .cells #[.int .i64 b, .int .i64 c, .int .i64 t] 53 (0, 0))]] at S4
    refine WOps.e (E3 rfl) rfl ?_
    refine WOps.p (G.assign rfl) rfl ?_
    refine WOps.nil ?_
    refine WEx.forget (l' := [(1, .pointer (some ⟨b1, 0, none⟩)), (2, .bool false)]) ⟨rfl, rfl, trivial⟩ ?_
    refine WEx.then_ ?_
    refine WCode.seq ?_
    refine WCode.region ?_
    refine WOps.p (G.field T.fld53_0 rfl (show 0 + 0 = 0 from rfl)) rfl ?_
    refine WOps.r (G.load1 T.one3 rfl (cell_blk (S4.blk 0 rfl) rfl)) rfl ?_
    refine WOps.p (G.geq rfl rfl (b := false) (decide_eq_false (by omega))) rfl ?_
    refine WOps.p (G.move rfl) rfl ?_
    refine WOps.off rfl rfl rfl rfl ?_
    refine WOps.off rfl rfl rfl rfl ?_
    refine WOps.off rfl rfl rfl rfl ?_
    refine WOps.off rfl rfl rfl rfl ?_
    refine WOps.off rfl rfl rfl rfl ?_
    refine WOps.p (G.pick_f rfl rfl) rfl ?_
    refine WOps.p (G.move rfl) rfl ?_
    refine WOps.off rfl rfl rfl rfl ?_
    refine WOps.off rfl rfl rfl rfl ?_
    refine WOps.off rfl rfl rfl rfl ?_
    refine WOps.p (G.pick_f rfl rfl) rfl ?_
    refine WOps.p (G.move rfl) rfl ?_
    refine WOps.off rfl rfl rfl rfl ?_
    refine WOps.off rfl rfl rfl rfl ?_
    refine WOps.off rfl rfl rfl rfl ?_
    refine WOps.p (G.pick_f rfl rfl) rfl ?_
    refine WOps.p (G.move rfl) rfl ?_
    refine WOps.off rfl rfl rfl rfl ?_
    refine WOps.off rfl rfl rfl rfl ?_
    refine WOps.off rfl rfl rfl rfl ?_
    refine WOps.p (G.pick_f rfl rfl) rfl ?_
    refine WOps.p (G.assign rfl) rfl ?_
    refine WOps.nil ?_
    refine WEx.forget (l' := [(2, .bool false)]) ⟨rfl, trivial⟩ ?_
    refine WEx.then_ ?_
    refine WCode.ret ?_
    refine WEx.ret1 rfl rfl ?_
    exact ⟨by rw [decide_eq_false (show ¬ RightP b c t by unfold RightP; omega)], St.keep (As := []) S4⟩
  · have S := St.init0 w
    refine enter 28 [(0, .agg #[.int .i64 b, .int .i64 c, .int .i64 t])] Try.func27 rfl rfl rfl rfl ?_
    refine WCode.seq ?_
    refine WCode.region ?_
    obtain ⟨b1, w2, E3, S4, X5, L6⟩ := St.box S Try.prog 53 (.agg #[.int .i64 b, .int .i64 c, .int .i64 t])
    change St _ _ _ [[(b1, .cells #[.int .i64 b, .int .i64 c, .int .i64 t] 53 (0, 0))]] at S4
    refine WOps.e (E3 rfl) rfl ?_
    refine WOps.p (G.assign rfl) rfl ?_
    refine WOps.nil ?_
    refine WEx.forget (l' := [(1, .pointer (some ⟨b1, 0, none⟩)), (2, .bool false)]) ⟨rfl, rfl, trivial⟩ ?_
    refine WEx.then_ ?_
    refine WCode.seq ?_
    refine WCode.region ?_
    refine WOps.p (G.field T.fld53_0 rfl (show 0 + 0 = 0 from rfl)) rfl ?_
    refine WOps.r (G.load1 T.one3 rfl (cell_blk (S4.blk 0 rfl) rfl)) rfl ?_
    refine WOps.p (G.geq rfl rfl (b := true) (decide_eq_true (by omega))) rfl ?_
    refine WOps.p (G.move rfl) rfl ?_
    refine WOps.on rfl rfl ?_
    refine WOps.p (G.field T.fld53_0 rfl (show 0 + 0 = 0 from rfl)) rfl ?_
    refine WOps.on rfl rfl ?_
    refine WOps.r (G.load1 T.one3 rfl (cell_blk (S4.blk 0 rfl) rfl)) rfl ?_
    refine WOps.on rfl rfl ?_
    refine WOps.p (G.field T.fld53_1 rfl (show 0 + 1 = 1 from rfl)) rfl ?_
    refine WOps.on rfl rfl ?_
    refine WOps.r (G.load1 T.one3 rfl (cell_blk (S4.blk 0 rfl) rfl)) rfl ?_
    refine WOps.on rfl rfl ?_
    refine WOps.p (G.leq rfl rfl (b := false) (decide_eq_false (by omega))) rfl ?_
    refine WOps.p (G.pick_t rfl rfl) rfl ?_
    refine WOps.p (G.move rfl) rfl ?_
    refine WOps.off rfl rfl rfl rfl ?_
    refine WOps.off rfl rfl rfl rfl ?_
    refine WOps.off rfl rfl rfl rfl ?_
    refine WOps.p (G.pick_f rfl rfl) rfl ?_
    refine WOps.p (G.move rfl) rfl ?_
    refine WOps.off rfl rfl rfl rfl ?_
    refine WOps.off rfl rfl rfl rfl ?_
    refine WOps.off rfl rfl rfl rfl ?_
    refine WOps.p (G.pick_f rfl rfl) rfl ?_
    refine WOps.p (G.move rfl) rfl ?_
    refine WOps.off rfl rfl rfl rfl ?_
    refine WOps.off rfl rfl rfl rfl ?_
    refine WOps.off rfl rfl rfl rfl ?_
    refine WOps.p (G.pick_f rfl rfl) rfl ?_
    refine WOps.p (G.assign rfl) rfl ?_
    refine WOps.nil ?_
    refine WEx.forget (l' := [(2, .bool false)]) ⟨rfl, trivial⟩ ?_
    refine WEx.then_ ?_
    refine WCode.ret ?_
    refine WEx.ret1 rfl rfl ?_
    exact ⟨by rw [decide_eq_false (show ¬ RightP b c t by unfold RightP; omega)], St.keep (As := []) S4⟩
  · have S := St.init0 w
    refine enter 28 [(0, .agg #[.int .i64 b, .int .i64 c, .int .i64 t])] Try.func27 rfl rfl rfl rfl ?_
    refine WCode.seq ?_
    refine WCode.region ?_
    obtain ⟨b1, w2, E3, S4, X5, L6⟩ := St.box S Try.prog 53 (.agg #[.int .i64 b, .int .i64 c, .int .i64 t])
    change St _ _ _ [[(b1, .cells #[.int .i64 b, .int .i64 c, .int .i64 t] 53 (0, 0))]] at S4
    refine WOps.e (E3 rfl) rfl ?_
    refine WOps.p (G.assign rfl) rfl ?_
    refine WOps.nil ?_
    refine WEx.forget (l' := [(1, .pointer (some ⟨b1, 0, none⟩)), (2, .bool false)]) ⟨rfl, rfl, trivial⟩ ?_
    refine WEx.then_ ?_
    refine WCode.seq ?_
    refine WCode.region ?_
    refine WOps.p (G.field T.fld53_0 rfl (show 0 + 0 = 0 from rfl)) rfl ?_
    refine WOps.r (G.load1 T.one3 rfl (cell_blk (S4.blk 0 rfl) rfl)) rfl ?_
    refine WOps.p (G.geq rfl rfl (b := true) (decide_eq_true (by omega))) rfl ?_
    refine WOps.p (G.move rfl) rfl ?_
    refine WOps.on rfl rfl ?_
    refine WOps.p (G.field T.fld53_0 rfl (show 0 + 0 = 0 from rfl)) rfl ?_
    refine WOps.on rfl rfl ?_
    refine WOps.r (G.load1 T.one3 rfl (cell_blk (S4.blk 0 rfl) rfl)) rfl ?_
    refine WOps.on rfl rfl ?_
    refine WOps.p (G.field T.fld53_1 rfl (show 0 + 1 = 1 from rfl)) rfl ?_
    refine WOps.on rfl rfl ?_
    refine WOps.r (G.load1 T.one3 rfl (cell_blk (S4.blk 0 rfl) rfl)) rfl ?_
    refine WOps.on rfl rfl ?_
    refine WOps.p (G.leq rfl rfl (b := true) (decide_eq_true (by omega))) rfl ?_
    refine WOps.p (G.pick_t rfl rfl) rfl ?_
    refine WOps.p (G.move rfl) rfl ?_
    refine WOps.on rfl rfl ?_
    refine WOps.p (G.field T.fld53_1 rfl (show 0 + 1 = 1 from rfl)) rfl ?_
    refine WOps.on rfl rfl ?_
    refine WOps.r (G.load1 T.one3 rfl (cell_blk (S4.blk 0 rfl) rfl)) rfl ?_
    refine WOps.on rfl rfl ?_
    refine WOps.p (G.leq rfl rfl (b := false) (decide_eq_false (by omega))) rfl ?_
    refine WOps.p (G.pick_t rfl rfl) rfl ?_
    refine WOps.p (G.move rfl) rfl ?_
    refine WOps.off rfl rfl rfl rfl ?_
    refine WOps.off rfl rfl rfl rfl ?_
    refine WOps.off rfl rfl rfl rfl ?_
    refine WOps.p (G.pick_f rfl rfl) rfl ?_
    refine WOps.p (G.move rfl) rfl ?_
    refine WOps.off rfl rfl rfl rfl ?_
    refine WOps.off rfl rfl rfl rfl ?_
    refine WOps.off rfl rfl rfl rfl ?_
    refine WOps.p (G.pick_f rfl rfl) rfl ?_
    refine WOps.p (G.assign rfl) rfl ?_
    refine WOps.nil ?_
    refine WEx.forget (l' := [(2, .bool false)]) ⟨rfl, trivial⟩ ?_
    refine WEx.then_ ?_
    refine WCode.ret ?_
    refine WEx.ret1 rfl rfl ?_
    exact ⟨by rw [decide_eq_false (show ¬ RightP b c t by unfold RightP; omega)], St.keep (As := []) S4⟩
  · have S := St.init0 w
    refine enter 28 [(0, .agg #[.int .i64 b, .int .i64 c, .int .i64 t])] Try.func27 rfl rfl rfl rfl ?_
    refine WCode.seq ?_
    refine WCode.region ?_
    obtain ⟨b1, w2, E3, S4, X5, L6⟩ := St.box S Try.prog 53 (.agg #[.int .i64 b, .int .i64 c, .int .i64 t])
    change St _ _ _ [[(b1, .cells #[.int .i64 b, .int .i64 c, .int .i64 t] 53 (0, 0))]] at S4
    refine WOps.e (E3 rfl) rfl ?_
    refine WOps.p (G.assign rfl) rfl ?_
    refine WOps.nil ?_
    refine WEx.forget (l' := [(1, .pointer (some ⟨b1, 0, none⟩)), (2, .bool false)]) ⟨rfl, rfl, trivial⟩ ?_
    refine WEx.then_ ?_
    refine WCode.seq ?_
    refine WCode.region ?_
    refine WOps.p (G.field T.fld53_0 rfl (show 0 + 0 = 0 from rfl)) rfl ?_
    refine WOps.r (G.load1 T.one3 rfl (cell_blk (S4.blk 0 rfl) rfl)) rfl ?_
    refine WOps.p (G.geq rfl rfl (b := true) (decide_eq_true (by omega))) rfl ?_
    refine WOps.p (G.move rfl) rfl ?_
    refine WOps.on rfl rfl ?_
    refine WOps.p (G.field T.fld53_0 rfl (show 0 + 0 = 0 from rfl)) rfl ?_
    refine WOps.on rfl rfl ?_
    refine WOps.r (G.load1 T.one3 rfl (cell_blk (S4.blk 0 rfl) rfl)) rfl ?_
    refine WOps.on rfl rfl ?_
    refine WOps.p (G.field T.fld53_1 rfl (show 0 + 1 = 1 from rfl)) rfl ?_
    refine WOps.on rfl rfl ?_
    refine WOps.r (G.load1 T.one3 rfl (cell_blk (S4.blk 0 rfl) rfl)) rfl ?_
    refine WOps.on rfl rfl ?_
    refine WOps.p (G.leq rfl rfl (b := true) (decide_eq_true (by omega))) rfl ?_
    refine WOps.p (G.pick_t rfl rfl) rfl ?_
    refine WOps.p (G.move rfl) rfl ?_
    refine WOps.on rfl rfl ?_
    refine WOps.p (G.field T.fld53_1 rfl (show 0 + 1 = 1 from rfl)) rfl ?_
    refine WOps.on rfl rfl ?_
    refine WOps.r (G.load1 T.one3 rfl (cell_blk (S4.blk 0 rfl) rfl)) rfl ?_
    refine WOps.on rfl rfl ?_
    refine WOps.p (G.leq rfl rfl (b := true) (decide_eq_true (by omega))) rfl ?_
    refine WOps.p (G.pick_t rfl rfl) rfl ?_
    refine WOps.p (G.move rfl) rfl ?_
    refine WOps.on rfl rfl ?_
    refine WOps.p (G.field T.fld53_2 rfl (show 0 + 2 = 2 from rfl)) rfl ?_
    refine WOps.on rfl rfl ?_
    refine WOps.r (G.load1 T.one3 rfl (cell_blk (S4.blk 0 rfl) rfl)) rfl ?_
    refine WOps.on rfl rfl ?_
    refine WOps.p (G.geq rfl rfl (b := false) (decide_eq_false (by omega))) rfl ?_
    refine WOps.p (G.pick_t rfl rfl) rfl ?_
    refine WOps.p (G.move rfl) rfl ?_
    refine WOps.off rfl rfl rfl rfl ?_
    refine WOps.off rfl rfl rfl rfl ?_
    refine WOps.off rfl rfl rfl rfl ?_
    refine WOps.p (G.pick_f rfl rfl) rfl ?_
    refine WOps.p (G.assign rfl) rfl ?_
    refine WOps.nil ?_
    refine WEx.forget (l' := [(2, .bool false)]) ⟨rfl, trivial⟩ ?_
    refine WEx.then_ ?_
    refine WCode.ret ?_
    refine WEx.ret1 rfl rfl ?_
    exact ⟨by rw [decide_eq_false (show ¬ RightP b c t by unfold RightP; omega)], St.keep (As := []) S4⟩
  · have S := St.init0 w
    refine enter 28 [(0, .agg #[.int .i64 b, .int .i64 c, .int .i64 t])] Try.func27 rfl rfl rfl rfl ?_
    refine WCode.seq ?_
    refine WCode.region ?_
    obtain ⟨b1, w2, E3, S4, X5, L6⟩ := St.box S Try.prog 53 (.agg #[.int .i64 b, .int .i64 c, .int .i64 t])
    change St _ _ _ [[(b1, .cells #[.int .i64 b, .int .i64 c, .int .i64 t] 53 (0, 0))]] at S4
    refine WOps.e (E3 rfl) rfl ?_
    refine WOps.p (G.assign rfl) rfl ?_
    refine WOps.nil ?_
    refine WEx.forget (l' := [(1, .pointer (some ⟨b1, 0, none⟩)), (2, .bool false)]) ⟨rfl, rfl, trivial⟩ ?_
    refine WEx.then_ ?_
    refine WCode.seq ?_
    refine WCode.region ?_
    refine WOps.p (G.field T.fld53_0 rfl (show 0 + 0 = 0 from rfl)) rfl ?_
    refine WOps.r (G.load1 T.one3 rfl (cell_blk (S4.blk 0 rfl) rfl)) rfl ?_
    refine WOps.p (G.geq rfl rfl (b := true) (decide_eq_true (by omega))) rfl ?_
    refine WOps.p (G.move rfl) rfl ?_
    refine WOps.on rfl rfl ?_
    refine WOps.p (G.field T.fld53_0 rfl (show 0 + 0 = 0 from rfl)) rfl ?_
    refine WOps.on rfl rfl ?_
    refine WOps.r (G.load1 T.one3 rfl (cell_blk (S4.blk 0 rfl) rfl)) rfl ?_
    refine WOps.on rfl rfl ?_
    refine WOps.p (G.field T.fld53_1 rfl (show 0 + 1 = 1 from rfl)) rfl ?_
    refine WOps.on rfl rfl ?_
    refine WOps.r (G.load1 T.one3 rfl (cell_blk (S4.blk 0 rfl) rfl)) rfl ?_
    refine WOps.on rfl rfl ?_
    refine WOps.p (G.leq rfl rfl (b := true) (decide_eq_true (by omega))) rfl ?_
    refine WOps.p (G.pick_t rfl rfl) rfl ?_
    refine WOps.p (G.move rfl) rfl ?_
    refine WOps.on rfl rfl ?_
    refine WOps.p (G.field T.fld53_1 rfl (show 0 + 1 = 1 from rfl)) rfl ?_
    refine WOps.on rfl rfl ?_
    refine WOps.r (G.load1 T.one3 rfl (cell_blk (S4.blk 0 rfl) rfl)) rfl ?_
    refine WOps.on rfl rfl ?_
    refine WOps.p (G.leq rfl rfl (b := true) (decide_eq_true (by omega))) rfl ?_
    refine WOps.p (G.pick_t rfl rfl) rfl ?_
    refine WOps.p (G.move rfl) rfl ?_
    refine WOps.on rfl rfl ?_
    refine WOps.p (G.field T.fld53_2 rfl (show 0 + 2 = 2 from rfl)) rfl ?_
    refine WOps.on rfl rfl ?_
    refine WOps.r (G.load1 T.one3 rfl (cell_blk (S4.blk 0 rfl) rfl)) rfl ?_
    refine WOps.on rfl rfl ?_
    refine WOps.p (G.geq rfl rfl (b := true) (decide_eq_true (by omega))) rfl ?_
    refine WOps.p (G.pick_t rfl rfl) rfl ?_
    refine WOps.p (G.move rfl) rfl ?_
    refine WOps.on rfl rfl ?_
    refine WOps.p (G.field T.fld53_2 rfl (show 0 + 2 = 2 from rfl)) rfl ?_
    refine WOps.on rfl rfl ?_
    refine WOps.r (G.load1 T.one3 rfl (cell_blk (S4.blk 0 rfl) rfl)) rfl ?_
    refine WOps.on rfl rfl ?_
    refine WOps.p (G.leq rfl rfl (b := false) (decide_eq_false (by omega))) rfl ?_
    refine WOps.p (G.pick_t rfl rfl) rfl ?_
    refine WOps.p (G.assign rfl) rfl ?_
    refine WOps.nil ?_
    refine WEx.forget (l' := [(2, .bool false)]) ⟨rfl, trivial⟩ ?_
    refine WEx.then_ ?_
    refine WCode.ret ?_
    refine WEx.ret1 rfl rfl ?_
    exact ⟨by rw [decide_eq_false (show ¬ RightP b c t by unfold RightP; omega)], St.keep (As := []) S4⟩
  · have S := St.init0 w
    refine enter 28 [(0, .agg #[.int .i64 b, .int .i64 c, .int .i64 t])] Try.func27 rfl rfl rfl rfl ?_
    refine WCode.seq ?_
    refine WCode.region ?_
    obtain ⟨b1, w2, E3, S4, X5, L6⟩ := St.box S Try.prog 53 (.agg #[.int .i64 b, .int .i64 c, .int .i64 t])
    change St _ _ _ [[(b1, .cells #[.int .i64 b, .int .i64 c, .int .i64 t] 53 (0, 0))]] at S4
    refine WOps.e (E3 rfl) rfl ?_
    refine WOps.p (G.assign rfl) rfl ?_
    refine WOps.nil ?_
    refine WEx.forget (l' := [(1, .pointer (some ⟨b1, 0, none⟩)), (2, .bool false)]) ⟨rfl, rfl, trivial⟩ ?_
    refine WEx.then_ ?_
    refine WCode.seq ?_
    refine WCode.region ?_
    refine WOps.p (G.field T.fld53_0 rfl (show 0 + 0 = 0 from rfl)) rfl ?_
    refine WOps.r (G.load1 T.one3 rfl (cell_blk (S4.blk 0 rfl) rfl)) rfl ?_
    refine WOps.p (G.geq rfl rfl (b := true) (decide_eq_true (by omega))) rfl ?_
    refine WOps.p (G.move rfl) rfl ?_
    refine WOps.on rfl rfl ?_
    refine WOps.p (G.field T.fld53_0 rfl (show 0 + 0 = 0 from rfl)) rfl ?_
    refine WOps.on rfl rfl ?_
    refine WOps.r (G.load1 T.one3 rfl (cell_blk (S4.blk 0 rfl) rfl)) rfl ?_
    refine WOps.on rfl rfl ?_
    refine WOps.p (G.field T.fld53_1 rfl (show 0 + 1 = 1 from rfl)) rfl ?_
    refine WOps.on rfl rfl ?_
    refine WOps.r (G.load1 T.one3 rfl (cell_blk (S4.blk 0 rfl) rfl)) rfl ?_
    refine WOps.on rfl rfl ?_
    refine WOps.p (G.leq rfl rfl (b := true) (decide_eq_true (by omega))) rfl ?_
    refine WOps.p (G.pick_t rfl rfl) rfl ?_
    refine WOps.p (G.move rfl) rfl ?_
    refine WOps.on rfl rfl ?_
    refine WOps.p (G.field T.fld53_1 rfl (show 0 + 1 = 1 from rfl)) rfl ?_
    refine WOps.on rfl rfl ?_
    refine WOps.r (G.load1 T.one3 rfl (cell_blk (S4.blk 0 rfl) rfl)) rfl ?_
    refine WOps.on rfl rfl ?_
    refine WOps.p (G.leq rfl rfl (b := true) (decide_eq_true (by omega))) rfl ?_
    refine WOps.p (G.pick_t rfl rfl) rfl ?_
    refine WOps.p (G.move rfl) rfl ?_
    refine WOps.on rfl rfl ?_
    refine WOps.p (G.field T.fld53_2 rfl (show 0 + 2 = 2 from rfl)) rfl ?_
    refine WOps.on rfl rfl ?_
    refine WOps.r (G.load1 T.one3 rfl (cell_blk (S4.blk 0 rfl) rfl)) rfl ?_
    refine WOps.on rfl rfl ?_
    refine WOps.p (G.geq rfl rfl (b := true) (decide_eq_true (by omega))) rfl ?_
    refine WOps.p (G.pick_t rfl rfl) rfl ?_
    refine WOps.p (G.move rfl) rfl ?_
    refine WOps.on rfl rfl ?_
    refine WOps.p (G.field T.fld53_2 rfl (show 0 + 2 = 2 from rfl)) rfl ?_
    refine WOps.on rfl rfl ?_
    refine WOps.r (G.load1 T.one3 rfl (cell_blk (S4.blk 0 rfl) rfl)) rfl ?_
    refine WOps.on rfl rfl ?_
    refine WOps.p (G.leq rfl rfl (b := true) (decide_eq_true (by omega))) rfl ?_
    refine WOps.p (G.pick_t rfl rfl) rfl ?_
    refine WOps.p (G.assign rfl) rfl ?_
    refine WOps.nil ?_
    refine WEx.forget (l' := [(2, .bool true)]) ⟨rfl, trivial⟩ ?_
    refine WEx.then_ ?_
    refine WCode.ret ?_
    refine WEx.ret1 rfl rfl ?_
    exact ⟨by rw [decide_eq_true (show RightP b c t by unfold RightP; omega)], St.keep (As := []) S4⟩

set_option maxRecDepth 100000 in
set_option maxHeartbeats 1000000 in
theorem ref_Right {w : World} (b c t : Int) (hb : i64 b) (hc : i64 c) (ht : i64 t) :
    Calls Try.prog 28 [.agg #[.int .i64 b, .int .i64 c, .int .i64 t]].toArray w fun e w' => e = .returned (.bool (decide (RightP b c t))) ∧ St w (fun _ => False) w' [] := by
  have cs : (b < 1) ∨ (1 ≤ b ∧ 1048576 < b) ∨ (1 ≤ b ∧ b ≤ 1048576 ∧ c < b) ∨ (1 ≤ b ∧ b ≤ 1048576 ∧ b ≤ c ∧ 1048576 < c) ∨ (1 ≤ b ∧ b ≤ c ∧ c ≤ 1048576 ∧ t < 1) ∨ (1 ≤ b ∧ b ≤ c ∧ c ≤ 1048576 ∧ 32 < t) ∨ (1 ≤ b ∧ b ≤ c ∧ c ≤ 1048576 ∧ 1 ≤ t ∧ t ≤ 32) := by omega
  rcases cs with h | h | h | h | h | h | h
  · have S := St.init0 w
    refine enter 33 [(0, .agg #[.int .i64 b, .int .i64 c, .int .i64 t])] Try.func28 rfl rfl rfl rfl ?_
    refine WCode.seq ?_
    refine WCode.region ?_
    obtain ⟨b1, w2, E3, S4, X5, L6⟩ := St.box S Try.prog 53 (.agg #[.int .i64 b, .int .i64 c, .int .i64 t])
    change St _ _ _ [[(b1, .cells #[.int .i64 b, .int .i64 c, .int .i64 t] 53 (0, 0))]] at S4
    refine WOps.e (E3 rfl) rfl ?_
    refine WOps.p (G.assign rfl) rfl ?_
    refine WOps.nil ?_
    refine WEx.forget (l' := [(1, .pointer (some ⟨b1, 0, none⟩)), (2, .bool false)]) ⟨rfl, rfl, trivial⟩ ?_
    refine WEx.then_ ?_
    refine WCode.seq ?_
    refine WCode.region ?_
    refine WOps.p (G.field T.fld53_0 rfl (show 0 + 0 = 0 from rfl)) rfl ?_
    refine WOps.r (G.load1 T.one3 rfl (cell_blk (S4.blk 0 rfl) rfl)) rfl ?_
    refine WOps.p (G.geq rfl rfl (b := false) (decide_eq_false (by omega))) rfl ?_
    refine WOps.p (G.move rfl) rfl ?_
    refine WOps.off rfl rfl rfl rfl ?_
    refine WOps.off rfl rfl rfl rfl ?_
    refine WOps.off rfl rfl rfl rfl ?_
    refine WOps.p (G.pick_f rfl rfl) rfl ?_
    refine WOps.p (G.move rfl) rfl ?_
    refine WOps.off rfl rfl rfl rfl ?_
    refine WOps.off rfl rfl rfl rfl ?_
    refine WOps.off rfl rfl rfl rfl ?_
    refine WOps.off rfl rfl rfl rfl ?_
    refine WOps.off rfl rfl rfl rfl ?_
    refine WOps.p (G.pick_f rfl rfl) rfl ?_
    refine WOps.p (G.move rfl) rfl ?_
    refine WOps.off rfl rfl rfl rfl ?_
    refine WOps.off rfl rfl rfl rfl ?_
    refine WOps.off rfl rfl rfl rfl ?_
    refine WOps.p (G.pick_f rfl rfl) rfl ?_
    refine WOps.p (G.move rfl) rfl ?_
    refine WOps.off rfl rfl rfl rfl ?_
    refine WOps.off rfl rfl rfl rfl ?_
    refine WOps.off rfl rfl rfl rfl ?_
    refine WOps.p (G.pick_f rfl rfl) rfl ?_
    refine WOps.p (G.move rfl) rfl ?_
    refine WOps.off rfl rfl rfl rfl ?_
    refine WOps.off rfl rfl rfl rfl ?_
    refine WOps.off rfl rfl rfl rfl ?_
    refine WOps.p (G.pick_f rfl rfl) rfl ?_
    refine WOps.p (G.assign rfl) rfl ?_
    refine WOps.nil ?_
    refine WEx.forget (l' := [(2, .bool false)]) ⟨rfl, trivial⟩ ?_
    refine WEx.then_ ?_
    refine WCode.ret ?_
    refine WEx.ret1 rfl rfl ?_
    exact ⟨by rw [decide_eq_false (show ¬ RightP b c t by unfold RightP; omega)], St.keep (As := []) S4⟩
  · have S := St.init0 w
    refine enter 33 [(0, .agg #[.int .i64 b, .int .i64 c, .int .i64 t])] Try.func28 rfl rfl rfl rfl ?_
    refine WCode.seq ?_
    refine WCode.region ?_
    obtain ⟨b1, w2, E3, S4, X5, L6⟩ := St.box S Try.prog 53 (.agg #[.int .i64 b, .int .i64 c, .int .i64 t])
    change St _ _ _ [[(b1, .cells #[.int .i64 b, .int .i64 c, .int .i64 t] 53 (0, 0))]] at S4
    refine WOps.e (E3 rfl) rfl ?_
    refine WOps.p (G.assign rfl) rfl ?_
    refine WOps.nil ?_
    refine WEx.forget (l' := [(1, .pointer (some ⟨b1, 0, none⟩)), (2, .bool false)]) ⟨rfl, rfl, trivial⟩ ?_
    refine WEx.then_ ?_
    refine WCode.seq ?_
    refine WCode.region ?_
    refine WOps.p (G.field T.fld53_0 rfl (show 0 + 0 = 0 from rfl)) rfl ?_
    refine WOps.r (G.load1 T.one3 rfl (cell_blk (S4.blk 0 rfl) rfl)) rfl ?_
    refine WOps.p (G.geq rfl rfl (b := true) (decide_eq_true (by omega))) rfl ?_
    refine WOps.p (G.move rfl) rfl ?_
    refine WOps.on rfl rfl ?_
    refine WOps.p (G.field T.fld53_0 rfl (show 0 + 0 = 0 from rfl)) rfl ?_
    refine WOps.on rfl rfl ?_
    refine WOps.r (G.load1 T.one3 rfl (cell_blk (S4.blk 0 rfl) rfl)) rfl ?_
    refine WOps.on rfl rfl ?_
    refine WOps.p (G.leq rfl rfl (b := false) (decide_eq_false (by omega))) rfl ?_
    refine WOps.p (G.pick_t rfl rfl) rfl ?_
    refine WOps.p (G.move rfl) rfl ?_
    refine WOps.off rfl rfl rfl rfl ?_
    refine WOps.off rfl rfl rfl rfl ?_
    refine WOps.off rfl rfl rfl rfl ?_
    refine WOps.off rfl rfl rfl rfl ?_
    refine WOps.off rfl rfl rfl rfl ?_
    refine WOps.p (G.pick_f rfl rfl) rfl ?_
    refine WOps.p (G.move rfl) rfl ?_
    refine WOps.off rfl rfl rfl rfl ?_
    refine WOps.off rfl rfl rfl rfl ?_
    refine WOps.off rfl rfl rfl rfl ?_
    refine WOps.p (G.pick_f rfl rfl) rfl ?_
    refine WOps.p (G.move rfl) rfl ?_
    refine WOps.off rfl rfl rfl rfl ?_
    refine WOps.off rfl rfl rfl rfl ?_
    refine WOps.off rfl rfl rfl rfl ?_
    refine WOps.p (G.pick_f rfl rfl) rfl ?_
    refine WOps.p (G.move rfl) rfl ?_
    refine WOps.off rfl rfl rfl rfl ?_
    refine WOps.off rfl rfl rfl rfl ?_
    refine WOps.off rfl rfl rfl rfl ?_
    refine WOps.p (G.pick_f rfl rfl) rfl ?_
    refine WOps.p (G.assign rfl) rfl ?_
    refine WOps.nil ?_
    refine WEx.forget (l' := [(2, .bool false)]) ⟨rfl, trivial⟩ ?_
    refine WEx.then_ ?_
    refine WCode.ret ?_
    refine WEx.ret1 rfl rfl ?_
    exact ⟨by rw [decide_eq_false (show ¬ RightP b c t by unfold RightP; omega)], St.keep (As := []) S4⟩
  · have S := St.init0 w
    refine enter 33 [(0, .agg #[.int .i64 b, .int .i64 c, .int .i64 t])] Try.func28 rfl rfl rfl rfl ?_
    refine WCode.seq ?_
    refine WCode.region ?_
    obtain ⟨b1, w2, E3, S4, X5, L6⟩ := St.box S Try.prog 53 (.agg #[.int .i64 b, .int .i64 c, .int .i64 t])
    change St _ _ _ [[(b1, .cells #[.int .i64 b, .int .i64 c, .int .i64 t] 53 (0, 0))]] at S4
    refine WOps.e (E3 rfl) rfl ?_
    refine WOps.p (G.assign rfl) rfl ?_
    refine WOps.nil ?_
    refine WEx.forget (l' := [(1, .pointer (some ⟨b1, 0, none⟩)), (2, .bool false)]) ⟨rfl, rfl, trivial⟩ ?_
    refine WEx.then_ ?_
    refine WCode.seq ?_
    refine WCode.region ?_
    refine WOps.p (G.field T.fld53_0 rfl (show 0 + 0 = 0 from rfl)) rfl ?_
    refine WOps.r (G.load1 T.one3 rfl (cell_blk (S4.blk 0 rfl) rfl)) rfl ?_
    refine WOps.p (G.geq rfl rfl (b := true) (decide_eq_true (by omega))) rfl ?_
    refine WOps.p (G.move rfl) rfl ?_
    refine WOps.on rfl rfl ?_
    refine WOps.p (G.field T.fld53_0 rfl (show 0 + 0 = 0 from rfl)) rfl ?_
    refine WOps.on rfl rfl ?_
    refine WOps.r (G.load1 T.one3 rfl (cell_blk (S4.blk 0 rfl) rfl)) rfl ?_
    refine WOps.on rfl rfl ?_
    refine WOps.p (G.leq rfl rfl (b := true) (decide_eq_true (by omega))) rfl ?_
    refine WOps.p (G.pick_t rfl rfl) rfl ?_
    refine WOps.p (G.move rfl) rfl ?_
    refine WOps.on rfl rfl ?_
    refine WOps.p (G.field T.fld53_1 rfl (show 0 + 1 = 1 from rfl)) rfl ?_
    refine WOps.on rfl rfl ?_
    refine WOps.r (G.load1 T.one3 rfl (cell_blk (S4.blk 0 rfl) rfl)) rfl ?_
    refine WOps.on rfl rfl ?_
    refine WOps.p (G.field T.fld53_0 rfl (show 0 + 0 = 0 from rfl)) rfl ?_
    refine WOps.on rfl rfl ?_
    refine WOps.r (G.load1 T.one3 rfl (cell_blk (S4.blk 0 rfl) rfl)) rfl ?_
    refine WOps.on rfl rfl ?_
    refine WOps.p (G.geq rfl rfl (b := false) (decide_eq_false (by omega))) rfl ?_
    refine WOps.p (G.pick_t rfl rfl) rfl ?_
    refine WOps.p (G.move rfl) rfl ?_
    refine WOps.off rfl rfl rfl rfl ?_
    refine WOps.off rfl rfl rfl rfl ?_
    refine WOps.off rfl rfl rfl rfl ?_
    refine WOps.p (G.pick_f rfl rfl) rfl ?_
    refine WOps.p (G.move rfl) rfl ?_
    refine WOps.off rfl rfl rfl rfl ?_
    refine WOps.off rfl rfl rfl rfl ?_
    refine WOps.off rfl rfl rfl rfl ?_
    refine WOps.p (G.pick_f rfl rfl) rfl ?_
    refine WOps.p (G.move rfl) rfl ?_
    refine WOps.off rfl rfl rfl rfl ?_
    refine WOps.off rfl rfl rfl rfl ?_
    refine WOps.off rfl rfl rfl rfl ?_
    refine WOps.p (G.pick_f rfl rfl) rfl ?_
    refine WOps.p (G.assign rfl) rfl ?_
    refine WOps.nil ?_
    refine WEx.forget (l' := [(2, .bool false)]) ⟨rfl, trivial⟩ ?_
    refine WEx.then_ ?_
    refine WCode.ret ?_
    refine WEx.ret1 rfl rfl ?_
    exact ⟨by rw [decide_eq_false (show ¬ RightP b c t by unfold RightP; omega)], St.keep (As := []) S4⟩
  · have S := St.init0 w
    refine enter 33 [(0, .agg #[.int .i64 b, .int .i64 c, .int .i64 t])] Try.func28 rfl rfl rfl rfl ?_
    refine WCode.seq ?_
    refine WCode.region ?_
    obtain ⟨b1, w2, E3, S4, X5, L6⟩ := St.box S Try.prog 53 (.agg #[.int .i64 b, .int .i64 c, .int .i64 t])
    change St _ _ _ [[(b1, .cells #[.int .i64 b, .int .i64 c, .int .i64 t] 53 (0, 0))]] at S4
    refine WOps.e (E3 rfl) rfl ?_
    refine WOps.p (G.assign rfl) rfl ?_
    refine WOps.nil ?_
    refine WEx.forget (l' := [(1, .pointer (some ⟨b1, 0, none⟩)), (2, .bool false)]) ⟨rfl, rfl, trivial⟩ ?_
    refine WEx.then_ ?_
    refine WCode.seq ?_
    refine WCode.region ?_
    refine WOps.p (G.field T.fld53_0 rfl (show 0 + 0 = 0 from rfl)) rfl ?_
    refine WOps.r (G.load1 T.one3 rfl (cell_blk (S4.blk 0 rfl) rfl)) rfl ?_
    refine WOps.p (G.geq rfl rfl (b := true) (decide_eq_true (by omega))) rfl ?_
    refine WOps.p (G.move rfl) rfl ?_
    refine WOps.on rfl rfl ?_
    refine WOps.p (G.field T.fld53_0 rfl (show 0 + 0 = 0 from rfl)) rfl ?_
    refine WOps.on rfl rfl ?_
    refine WOps.r (G.load1 T.one3 rfl (cell_blk (S4.blk 0 rfl) rfl)) rfl ?_
    refine WOps.on rfl rfl ?_
    refine WOps.p (G.leq rfl rfl (b := true) (decide_eq_true (by omega))) rfl ?_
    refine WOps.p (G.pick_t rfl rfl) rfl ?_
    refine WOps.p (G.move rfl) rfl ?_
    refine WOps.on rfl rfl ?_
    refine WOps.p (G.field T.fld53_1 rfl (show 0 + 1 = 1 from rfl)) rfl ?_
    refine WOps.on rfl rfl ?_
    refine WOps.r (G.load1 T.one3 rfl (cell_blk (S4.blk 0 rfl) rfl)) rfl ?_
    refine WOps.on rfl rfl ?_
    refine WOps.p (G.field T.fld53_0 rfl (show 0 + 0 = 0 from rfl)) rfl ?_
    refine WOps.on rfl rfl ?_
    refine WOps.r (G.load1 T.one3 rfl (cell_blk (S4.blk 0 rfl) rfl)) rfl ?_
    refine WOps.on rfl rfl ?_
    refine WOps.p (G.geq rfl rfl (b := true) (decide_eq_true (by omega))) rfl ?_
    refine WOps.p (G.pick_t rfl rfl) rfl ?_
    refine WOps.p (G.move rfl) rfl ?_
    refine WOps.on rfl rfl ?_
    refine WOps.p (G.field T.fld53_1 rfl (show 0 + 1 = 1 from rfl)) rfl ?_
    refine WOps.on rfl rfl ?_
    refine WOps.r (G.load1 T.one3 rfl (cell_blk (S4.blk 0 rfl) rfl)) rfl ?_
    refine WOps.on rfl rfl ?_
    refine WOps.p (G.leq rfl rfl (b := false) (decide_eq_false (by omega))) rfl ?_
    refine WOps.p (G.pick_t rfl rfl) rfl ?_
    refine WOps.p (G.move rfl) rfl ?_
    refine WOps.off rfl rfl rfl rfl ?_
    refine WOps.off rfl rfl rfl rfl ?_
    refine WOps.off rfl rfl rfl rfl ?_
    refine WOps.p (G.pick_f rfl rfl) rfl ?_
    refine WOps.p (G.move rfl) rfl ?_
    refine WOps.off rfl rfl rfl rfl ?_
    refine WOps.off rfl rfl rfl rfl ?_
    refine WOps.off rfl rfl rfl rfl ?_
    refine WOps.p (G.pick_f rfl rfl) rfl ?_
    refine WOps.p (G.assign rfl) rfl ?_
    refine WOps.nil ?_
    refine WEx.forget (l' := [(2, .bool false)]) ⟨rfl, trivial⟩ ?_
    refine WEx.then_ ?_
    refine WCode.ret ?_
    refine WEx.ret1 rfl rfl ?_
    exact ⟨by rw [decide_eq_false (show ¬ RightP b c t by unfold RightP; omega)], St.keep (As := []) S4⟩
  · have S := St.init0 w
    refine enter 33 [(0, .agg #[.int .i64 b, .int .i64 c, .int .i64 t])] Try.func28 rfl rfl rfl rfl ?_
    refine WCode.seq ?_
    refine WCode.region ?_
    obtain ⟨b1, w2, E3, S4, X5, L6⟩ := St.box S Try.prog 53 (.agg #[.int .i64 b, .int .i64 c, .int .i64 t])
    change St _ _ _ [[(b1, .cells #[.int .i64 b, .int .i64 c, .int .i64 t] 53 (0, 0))]] at S4
    refine WOps.e (E3 rfl) rfl ?_
    refine WOps.p (G.assign rfl) rfl ?_
    refine WOps.nil ?_
    refine WEx.forget (l' := [(1, .pointer (some ⟨b1, 0, none⟩)), (2, .bool false)]) ⟨rfl, rfl, trivial⟩ ?_
    refine WEx.then_ ?_
    refine WCode.seq ?_
    refine WCode.region ?_
    refine WOps.p (G.field T.fld53_0 rfl (show 0 + 0 = 0 from rfl)) rfl ?_
    refine WOps.r (G.load1 T.one3 rfl (cell_blk (S4.blk 0 rfl) rfl)) rfl ?_
    refine WOps.p (G.geq rfl rfl (b := true) (decide_eq_true (by omega))) rfl ?_
    refine WOps.p (G.move rfl) rfl ?_
    refine WOps.on rfl rfl ?_
    refine WOps.p (G.field T.fld53_0 rfl (show 0 + 0 = 0 from rfl)) rfl ?_
    refine WOps.on rfl rfl ?_
    refine WOps.r (G.load1 T.one3 rfl (cell_blk (S4.blk 0 rfl) rfl)) rfl ?_
    refine WOps.on rfl rfl ?_
    refine WOps.p (G.leq rfl rfl (b := true) (decide_eq_true (by omega))) rfl ?_
    refine WOps.p (G.pick_t rfl rfl) rfl ?_
    refine WOps.p (G.move rfl) rfl ?_
    refine WOps.on rfl rfl ?_
    refine WOps.p (G.field T.fld53_1 rfl (show 0 + 1 = 1 from rfl)) rfl ?_
    refine WOps.on rfl rfl ?_
    refine WOps.r (G.load1 T.one3 rfl (cell_blk (S4.blk 0 rfl) rfl)) rfl ?_
    refine WOps.on rfl rfl ?_
    refine WOps.p (G.field T.fld53_0 rfl (show 0 + 0 = 0 from rfl)) rfl ?_
    refine WOps.on rfl rfl ?_
    refine WOps.r (G.load1 T.one3 rfl (cell_blk (S4.blk 0 rfl) rfl)) rfl ?_
    refine WOps.on rfl rfl ?_
    refine WOps.p (G.geq rfl rfl (b := true) (decide_eq_true (by omega))) rfl ?_
    refine WOps.p (G.pick_t rfl rfl) rfl ?_
    refine WOps.p (G.move rfl) rfl ?_
    refine WOps.on rfl rfl ?_
    refine WOps.p (G.field T.fld53_1 rfl (show 0 + 1 = 1 from rfl)) rfl ?_
    refine WOps.on rfl rfl ?_
    refine WOps.r (G.load1 T.one3 rfl (cell_blk (S4.blk 0 rfl) rfl)) rfl ?_
    refine WOps.on rfl rfl ?_
    refine WOps.p (G.leq rfl rfl (b := true) (decide_eq_true (by omega))) rfl ?_
    refine WOps.p (G.pick_t rfl rfl) rfl ?_
    refine WOps.p (G.move rfl) rfl ?_
    refine WOps.on rfl rfl ?_
    refine WOps.p (G.field T.fld53_2 rfl (show 0 + 2 = 2 from rfl)) rfl ?_
    refine WOps.on rfl rfl ?_
    refine WOps.r (G.load1 T.one3 rfl (cell_blk (S4.blk 0 rfl) rfl)) rfl ?_
    refine WOps.on rfl rfl ?_
    refine WOps.p (G.geq rfl rfl (b := false) (decide_eq_false (by omega))) rfl ?_
    refine WOps.p (G.pick_t rfl rfl) rfl ?_
    refine WOps.p (G.move rfl) rfl ?_
    refine WOps.off rfl rfl rfl rfl ?_
    refine WOps.off rfl rfl rfl rfl ?_
    refine WOps.off rfl rfl rfl rfl ?_
    refine WOps.p (G.pick_f rfl rfl) rfl ?_
    refine WOps.p (G.assign rfl) rfl ?_
    refine WOps.nil ?_
    refine WEx.forget (l' := [(2, .bool false)]) ⟨rfl, trivial⟩ ?_
    refine WEx.then_ ?_
    refine WCode.ret ?_
    refine WEx.ret1 rfl rfl ?_
    exact ⟨by rw [decide_eq_false (show ¬ RightP b c t by unfold RightP; omega)], St.keep (As := []) S4⟩
  · have S := St.init0 w
    refine enter 33 [(0, .agg #[.int .i64 b, .int .i64 c, .int .i64 t])] Try.func28 rfl rfl rfl rfl ?_
    refine WCode.seq ?_
    refine WCode.region ?_
    obtain ⟨b1, w2, E3, S4, X5, L6⟩ := St.box S Try.prog 53 (.agg #[.int .i64 b, .int .i64 c, .int .i64 t])
    change St _ _ _ [[(b1, .cells #[.int .i64 b, .int .i64 c, .int .i64 t] 53 (0, 0))]] at S4
    refine WOps.e (E3 rfl) rfl ?_
    refine WOps.p (G.assign rfl) rfl ?_
    refine WOps.nil ?_
    refine WEx.forget (l' := [(1, .pointer (some ⟨b1, 0, none⟩)), (2, .bool false)]) ⟨rfl, rfl, trivial⟩ ?_
    refine WEx.then_ ?_
    refine WCode.seq ?_
    refine WCode.region ?_
    refine WOps.p (G.field T.fld53_0 rfl (show 0 + 0 = 0 from rfl)) rfl ?_
    refine WOps.r (G.load1 T.one3 rfl (cell_blk (S4.blk 0 rfl) rfl)) rfl ?_
    refine WOps.p (G.geq rfl rfl (b := true) (decide_eq_true (by omega))) rfl ?_
    refine WOps.p (G.move rfl) rfl ?_
    refine WOps.on rfl rfl ?_
    refine WOps.p (G.field T.fld53_0 rfl (show 0 + 0 = 0 from rfl)) rfl ?_
    refine WOps.on rfl rfl ?_
    refine WOps.r (G.load1 T.one3 rfl (cell_blk (S4.blk 0 rfl) rfl)) rfl ?_
    refine WOps.on rfl rfl ?_
    refine WOps.p (G.leq rfl rfl (b := true) (decide_eq_true (by omega))) rfl ?_
    refine WOps.p (G.pick_t rfl rfl) rfl ?_
    refine WOps.p (G.move rfl) rfl ?_
    refine WOps.on rfl rfl ?_
    refine WOps.p (G.field T.fld53_1 rfl (show 0 + 1 = 1 from rfl)) rfl ?_
    refine WOps.on rfl rfl ?_
    refine WOps.r (G.load1 T.one3 rfl (cell_blk (S4.blk 0 rfl) rfl)) rfl ?_
    refine WOps.on rfl rfl ?_
    refine WOps.p (G.field T.fld53_0 rfl (show 0 + 0 = 0 from rfl)) rfl ?_
    refine WOps.on rfl rfl ?_
    refine WOps.r (G.load1 T.one3 rfl (cell_blk (S4.blk 0 rfl) rfl)) rfl ?_
    refine WOps.on rfl rfl ?_
    refine WOps.p (G.geq rfl rfl (b := true) (decide_eq_true (by omega))) rfl ?_
    refine WOps.p (G.pick_t rfl rfl) rfl ?_
    refine WOps.p (G.move rfl) rfl ?_
    refine WOps.on rfl rfl ?_
    refine WOps.p (G.field T.fld53_1 rfl (show 0 + 1 = 1 from rfl)) rfl ?_
    refine WOps.on rfl rfl ?_
    refine WOps.r (G.load1 T.one3 rfl (cell_blk (S4.blk 0 rfl) rfl)) rfl ?_
    refine WOps.on rfl rfl ?_
    refine WOps.p (G.leq rfl rfl (b := true) (decide_eq_true (by omega))) rfl ?_
    refine WOps.p (G.pick_t rfl rfl) rfl ?_
    refine WOps.p (G.move rfl) rfl ?_
    refine WOps.on rfl rfl ?_
    refine WOps.p (G.field T.fld53_2 rfl (show 0 + 2 = 2 from rfl)) rfl ?_
    refine WOps.on rfl rfl ?_
    refine WOps.r (G.load1 T.one3 rfl (cell_blk (S4.blk 0 rfl) rfl)) rfl ?_
    refine WOps.on rfl rfl ?_
    refine WOps.p (G.geq rfl rfl (b := true) (decide_eq_true (by omega))) rfl ?_
    refine WOps.p (G.pick_t rfl rfl) rfl ?_
    refine WOps.p (G.move rfl) rfl ?_
    refine WOps.on rfl rfl ?_
    refine WOps.p (G.field T.fld53_2 rfl (show 0 + 2 = 2 from rfl)) rfl ?_
    refine WOps.on rfl rfl ?_
    refine WOps.r (G.load1 T.one3 rfl (cell_blk (S4.blk 0 rfl) rfl)) rfl ?_
    refine WOps.on rfl rfl ?_
    refine WOps.p (G.leq rfl rfl (b := false) (decide_eq_false (by omega))) rfl ?_
    refine WOps.p (G.pick_t rfl rfl) rfl ?_
    refine WOps.p (G.assign rfl) rfl ?_
    refine WOps.nil ?_
    refine WEx.forget (l' := [(2, .bool false)]) ⟨rfl, trivial⟩ ?_
    refine WEx.then_ ?_
    refine WCode.ret ?_
    refine WEx.ret1 rfl rfl ?_
    exact ⟨by rw [decide_eq_false (show ¬ RightP b c t by unfold RightP; omega)], St.keep (As := []) S4⟩
  · have S := St.init0 w
    refine enter 33 [(0, .agg #[.int .i64 b, .int .i64 c, .int .i64 t])] Try.func28 rfl rfl rfl rfl ?_
    refine WCode.seq ?_
    refine WCode.region ?_
    obtain ⟨b1, w2, E3, S4, X5, L6⟩ := St.box S Try.prog 53 (.agg #[.int .i64 b, .int .i64 c, .int .i64 t])
    change St _ _ _ [[(b1, .cells #[.int .i64 b, .int .i64 c, .int .i64 t] 53 (0, 0))]] at S4
    refine WOps.e (E3 rfl) rfl ?_
    refine WOps.p (G.assign rfl) rfl ?_
    refine WOps.nil ?_
    refine WEx.forget (l' := [(1, .pointer (some ⟨b1, 0, none⟩)), (2, .bool false)]) ⟨rfl, rfl, trivial⟩ ?_
    refine WEx.then_ ?_
    refine WCode.seq ?_
    refine WCode.region ?_
    refine WOps.p (G.field T.fld53_0 rfl (show 0 + 0 = 0 from rfl)) rfl ?_
    refine WOps.r (G.load1 T.one3 rfl (cell_blk (S4.blk 0 rfl) rfl)) rfl ?_
    refine WOps.p (G.geq rfl rfl (b := true) (decide_eq_true (by omega))) rfl ?_
    refine WOps.p (G.move rfl) rfl ?_
    refine WOps.on rfl rfl ?_
    refine WOps.p (G.field T.fld53_0 rfl (show 0 + 0 = 0 from rfl)) rfl ?_
    refine WOps.on rfl rfl ?_
    refine WOps.r (G.load1 T.one3 rfl (cell_blk (S4.blk 0 rfl) rfl)) rfl ?_
    refine WOps.on rfl rfl ?_
    refine WOps.p (G.leq rfl rfl (b := true) (decide_eq_true (by omega))) rfl ?_
    refine WOps.p (G.pick_t rfl rfl) rfl ?_
    refine WOps.p (G.move rfl) rfl ?_
    refine WOps.on rfl rfl ?_
    refine WOps.p (G.field T.fld53_1 rfl (show 0 + 1 = 1 from rfl)) rfl ?_
    refine WOps.on rfl rfl ?_
    refine WOps.r (G.load1 T.one3 rfl (cell_blk (S4.blk 0 rfl) rfl)) rfl ?_
    refine WOps.on rfl rfl ?_
    refine WOps.p (G.field T.fld53_0 rfl (show 0 + 0 = 0 from rfl)) rfl ?_
    refine WOps.on rfl rfl ?_
    refine WOps.r (G.load1 T.one3 rfl (cell_blk (S4.blk 0 rfl) rfl)) rfl ?_
    refine WOps.on rfl rfl ?_
    refine WOps.p (G.geq rfl rfl (b := true) (decide_eq_true (by omega))) rfl ?_
    refine WOps.p (G.pick_t rfl rfl) rfl ?_
    refine WOps.p (G.move rfl) rfl ?_
    refine WOps.on rfl rfl ?_
    refine WOps.p (G.field T.fld53_1 rfl (show 0 + 1 = 1 from rfl)) rfl ?_
    refine WOps.on rfl rfl ?_
    refine WOps.r (G.load1 T.one3 rfl (cell_blk (S4.blk 0 rfl) rfl)) rfl ?_
    refine WOps.on rfl rfl ?_
    refine WOps.p (G.leq rfl rfl (b := true) (decide_eq_true (by omega))) rfl ?_
    refine WOps.p (G.pick_t rfl rfl) rfl ?_
    refine WOps.p (G.move rfl) rfl ?_
    refine WOps.on rfl rfl ?_
    refine WOps.p (G.field T.fld53_2 rfl (show 0 + 2 = 2 from rfl)) rfl ?_
    refine WOps.on rfl rfl ?_
    refine WOps.r (G.load1 T.one3 rfl (cell_blk (S4.blk 0 rfl) rfl)) rfl ?_
    refine WOps.on rfl rfl ?_
    refine WOps.p (G.geq rfl rfl (b := true) (decide_eq_true (by omega))) rfl ?_
    refine WOps.p (G.pick_t rfl rfl) rfl ?_
    refine WOps.p (G.move rfl) rfl ?_
    refine WOps.on rfl rfl ?_
    refine WOps.p (G.field T.fld53_2 rfl (show 0 + 2 = 2 from rfl)) rfl ?_
    refine WOps.on rfl rfl ?_
    refine WOps.r (G.load1 T.one3 rfl (cell_blk (S4.blk 0 rfl) rfl)) rfl ?_
    refine WOps.on rfl rfl ?_
    refine WOps.p (G.leq rfl rfl (b := true) (decide_eq_true (by omega))) rfl ?_
    refine WOps.p (G.pick_t rfl rfl) rfl ?_
    refine WOps.p (G.assign rfl) rfl ?_
    refine WOps.nil ?_
    refine WEx.forget (l' := [(2, .bool true)]) ⟨rfl, trivial⟩ ?_
    refine WEx.then_ ?_
    refine WCode.ret ?_
    refine WEx.ret1 rfl rfl ?_
    exact ⟨by rw [decide_eq_true (show RightP b c t by unfold RightP; omega)], St.keep (As := []) S4⟩

set_option maxRecDepth 100000 in
set_option maxHeartbeats 1000000 in
theorem pace_Wait {w : World} (b c t : Int) (hb : i64 b) (hc : i64 c) (ht : i64 t) (n : Int) (hn : i64 n) :
    Calls Try.prog 31 [.agg #[.int .i64 b, .int .i64 c, .int .i64 t], .int .i64 n].toArray w fun e w' => e = .returned (.int .i64 (if RightP b c t then wz b c n.toNat else 0)) ∧ St w (fun _ => False) w' [] := by
  have cs : (¬ RightP b c t) ∨ (RightP b c t) := (Decidable.em _).symm
  rcases cs with h | h
  · have S := St.init0 w
    refine enter 22 [(0, .agg #[.int .i64 b, .int .i64 c, .int .i64 t]), (1, .int .i64 n)] Try.func31 rfl rfl rfl rfl ?_
    refine WCode.seq ?_
    refine WCode.region ?_
    obtain ⟨b1, w2, E3, S4, X5, L6⟩ := St.box S Try.prog 53 (.agg #[.int .i64 b, .int .i64 c, .int .i64 t])
    change St _ _ _ [[(b1, .cells #[.int .i64 b, .int .i64 c, .int .i64 t] 53 (0, 0))]] at S4
    refine WOps.e (E3 rfl) rfl ?_
    refine WOps.p (G.assign rfl) rfl ?_
    refine WOps.nil ?_
    refine WEx.forget (l' := [(1, .int .i64 n), (2, .pointer (some ⟨b1, 0, none⟩)), (4, .int .i64 0)]) ⟨rfl, rfl, rfl, trivial⟩ ?_
    refine WEx.then_ ?_
    refine WCode.seq ?_
    refine WCode.seq ?_
    refine WCode.region ?_
    refine WOps.r (G.loada T.agg53_3 rfl (cs := [.int .i64 b, .int .i64 c, .int .i64 t]) (cellsAt.of_blk (S4.blk 0 rfl) rfl)) rfl ?_
    refine WOps.call T.call27 (evs_cons rfl evs_nil) rfl ?_
    refine (pace_Right b c t hb hc ht).mono ?_
    rintro _ w8 ⟨rfl, T7⟩
    have S9 := S4.call0 T7
    have X10 := T7.ext0
    change St _ _ _ [[(b1, .cells #[.int .i64 b, .int .i64 c, .int .i64 t] 53 (0, 0))]] at S9
    rw [decide_eq_false h]
    refine ⟨_, rfl, ?_⟩
    refine WOps.p (G.not rfl rfl) rfl ?_
    refine WOps.nil ?_
    refine WEx.forget (l' := [(1, .int .i64 n), (2, .pointer (some ⟨b1, 0, none⟩)), (4, .int .i64 0), (8, .bool true)]) ⟨rfl, rfl, rfl, rfl, trivial⟩ ?_
    refine WEx.then_ ?_
    refine WCode.cond_t rfl ?_
    refine WCode.seq ?_
    refine WCode.region ?_
    refine WOps.p (G.assign rfl) rfl ?_
    refine WOps.nil ?_
    refine WEx.forget (l' := [(1, .int .i64 n), (2, .pointer (some ⟨b1, 0, none⟩)), (4, .int .i64 0)]) ⟨rfl, rfl, rfl, trivial⟩ ?_
    refine WEx.then_ ?_
    refine WCode.ret ?_
    refine WEx.then_ret ?_
    refine WEx.ret1 rfl rfl ?_
    exact ⟨by rw [if_neg h], St.keep (As := []) S9⟩
  · have S := St.init0 w
    refine enter 22 [(0, .agg #[.int .i64 b, .int .i64 c, .int .i64 t]), (1, .int .i64 n)] Try.func31 rfl rfl rfl rfl ?_
    refine WCode.seq ?_
    refine WCode.region ?_
    obtain ⟨b1, w2, E3, S4, X5, L6⟩ := St.box S Try.prog 53 (.agg #[.int .i64 b, .int .i64 c, .int .i64 t])
    change St _ _ _ [[(b1, .cells #[.int .i64 b, .int .i64 c, .int .i64 t] 53 (0, 0))]] at S4
    refine WOps.e (E3 rfl) rfl ?_
    refine WOps.p (G.assign rfl) rfl ?_
    refine WOps.nil ?_
    refine WEx.forget (l' := [(1, .int .i64 n), (2, .pointer (some ⟨b1, 0, none⟩)), (4, .int .i64 0)]) ⟨rfl, rfl, rfl, trivial⟩ ?_
    refine WEx.then_ ?_
    refine WCode.seq ?_
    refine WCode.seq ?_
    refine WCode.region ?_
    refine WOps.r (G.loada T.agg53_3 rfl (cs := [.int .i64 b, .int .i64 c, .int .i64 t]) (cellsAt.of_blk (S4.blk 0 rfl) rfl)) rfl ?_
    refine WOps.call T.call27 (evs_cons rfl evs_nil) rfl ?_
    have hR := h
    refine (pace_Right b c t hb hc ht).mono ?_
    rintro _ w8 ⟨rfl, T7⟩
    have S9 := S4.call0 T7
    have X10 := T7.ext0
    change St _ _ _ [[(b1, .cells #[.int .i64 b, .int .i64 c, .int .i64 t] 53 (0, 0))]] at S9
    rw [decide_eq_true h]
    refine ⟨_, rfl, ?_⟩
    refine WOps.p (G.not rfl rfl) rfl ?_
    refine WOps.nil ?_
    refine WEx.forget (l' := [(1, .int .i64 n), (2, .pointer (some ⟨b1, 0, none⟩)), (4, .int .i64 0), (8, .bool false)]) ⟨rfl, rfl, rfl, rfl, trivial⟩ ?_
    refine WEx.then_ ?_
    refine WCode.cond_f rfl ?_
    refine WCode.skip ?_
    refine WEx.then_ ?_
    refine WCode.forget (l' := [(1, .int .i64 n), (2, .pointer (some ⟨b1, 0, none⟩)), (4, .int .i64 0)]) ⟨rfl, rfl, rfl, trivial⟩ ?_
    refine WCode.seq ?_
    refine WCode.region ?_
    refine WOps.p (G.field T.fld53_0 rfl (show 0 + 0 = 0 from rfl)) rfl ?_
    refine WOps.r (G.load1 T.one3 rfl (cell_blk (S9.blk 0 rfl) rfl)) rfl ?_
    refine WOps.p (G.assign rfl) rfl ?_
    refine WOps.nil ?_
    refine WEx.forget (l' := [(1, .int .i64 n), (2, .pointer (some ⟨b1, 0, none⟩)), (4, .int .i64 0), (5, .int .i64 b)]) ⟨rfl, rfl, rfl, rfl, trivial⟩ ?_
    refine WEx.then_ ?_
    refine WCode.seq ?_
    refine WCode.seq ?_
    refine WCode.region ?_
    refine WOps.p (G.move rfl) rfl ?_
    refine WOps.p (G.min rfl rfl (show _ = (if 20 < n then 20 else n) from rfl)) rfl ?_
    refine WOps.p (G.move rfl) rfl ?_
    refine WOps.nil ?_
    refine WEx.forget (l' := [(2, .pointer (some ⟨b1, 0, none⟩)), (4, .int .i64 0), (5, .int .i64 b), (12, .int .i64 (if 20 < n then 20 else n)), (13, .int .i64 0)]) ⟨rfl, rfl, rfl, rfl, rfl, trivial⟩ ?_
    refine WEx.then_ ?_
    refine WCode.block ?_
    refine WCode.forget (l' := [(2, .pointer (some ⟨b1, 0, none⟩)), (4, .int .i64 0), (5, .int .i64 (wz b c 0)), (12, .int .i64 (if 20 < n then 20 else n)), (13, .int .i64 0)]) ⟨rfl, rfl, (show some (Value.int .i64 b) = _ from by rw [wz_zero hR]), rfl, rfl, trivial⟩ ?_
    refine WCode.loop (fun n_ l_ w' => ∃ i : Nat, l_ = [(2, .pointer (some ⟨b1, 0, none⟩)), (4, .int .i64 0), (5, .int .i64 (wz b c i)), (12, .int .i64 (if 20 < n then 20 else n)), (13, .int .i64 (i : Nat))] ∧ n_ = 20 - i ∧ (i ≤ 20 ∧ ((i : Int) ≤ n ∨ i = 0)) ∧ St w (fun _ => False) w' [[(b1, .cells #[.int .i64 b, .int .i64 c, .int .i64 t] 53 (0, 0))]]) _ ⟨0, rfl, rfl, ⟨by omega, .inr rfl⟩, S9⟩ ?_
    rintro _ _ w11 ⟨i, rfl, rfl, hi, S12⟩
    have hm : (if 20 < n then 20 else n) ≤ n ∧ (if 20 < n then 20 else n) ≤ 20 := by split <;> omega
    have cs_ : ((if 20 < n then 20 else n) ≤ i) ∨ ((i : Int) < (if 20 < n then 20 else n)) := by omega
    rcases cs_ with h0 | h0
    ·
      refine WCode.seq ?_
      refine WCode.region ?_
      refine WOps.p (G.lss rfl rfl (b := false) (decide_eq_false (by omega))) rfl ?_
      refine WOps.nil ?_
      refine WEx.then_ ?_
      refine WCode.seq ?_
      refine WCode.cond_f rfl ?_
      refine WCode.exit ?_
      refine WEx.then_exit ?_
      refine WEx.then_exit ?_
      refine WEx.in_exit ?_
      refine WEx.then_ ?_
      refine WCode.forget (l' := [(4, .int .i64 0), (5, .int .i64 (wz b c i))]) ⟨rfl, rfl, trivial⟩ ?_
      refine WCode.seq ?_
      refine WCode.region ?_
      refine WOps.p (G.move rfl) rfl ?_
      refine WOps.p (G.assign rfl) rfl ?_
      refine WOps.nil ?_
      refine WEx.forget (l' := [(4, .int .i64 (wz b c i))]) ⟨rfl, trivial⟩ ?_
      refine WEx.then_ ?_
      refine WCode.ret ?_
      refine WEx.ret1 rfl rfl ?_
      exact ⟨by rw [if_pos hR, wz_end hR hi h0], St.keep (As := []) S12⟩
    ·
      refine WCode.seq ?_
      refine WCode.region ?_
      refine WOps.p (G.lss rfl rfl (b := true) (decide_eq_true (by omega))) rfl ?_
      refine WOps.nil ?_
      refine WEx.then_ ?_
      refine WCode.seq ?_
      refine WCode.cond_t rfl ?_
      refine WCode.skip ?_
      refine WEx.then_ ?_
      refine WCode.seq ?_
      refine WCode.block ?_
      refine WCode.region ?_
      refine WOps.p (G.move rfl) rfl ?_
      refine WOps.p (G.mul rfl rfl (show IntKind.i64.wrap (2 * (wz b c i)) = (2 * wz b c i) from (by have := wz_in hR i; exact IntWalk.i64_in _ (by omega)))) rfl ?_
      refine WOps.p (G.field T.fld53_1 rfl (show 0 + 1 = 1 from rfl)) rfl ?_
      refine WOps.r (G.load1 T.one3 rfl (cell_blk (S12.blk 0 rfl) rfl)) rfl ?_
      refine WOps.p (G.min rfl rfl (show _ = (if c < 2 * wz b c i then c else 2 * wz b c i) from rfl)) rfl ?_
      refine WOps.p (G.assign rfl) rfl ?_
      refine WOps.nil ?_
      refine WEx.in_normal ?_
      refine WEx.then_ ?_
      refine WCode.region ?_
      refine WOps.p (G.add rfl rfl (show IntKind.i64.wrap ((i : Nat) + 1) = ((i : Nat) + 1) from IntWalk.i64_in _ (by omega))) rfl ?_
      refine WOps.p (G.move rfl) rfl ?_
      refine WOps.nil ?_
      refine WEx.again _ _ ?_ ?_ ⟨i + 1, rfl, rfl, (by omega), S12⟩
      · omega
      · exact ⟨rfl, rfl, (show some (Value.int .i64 (if c < 2 * wz b c i then c else 2 * wz b c i)) = _ from by rw [wz_succ hR]), rfl, rfl, trivial⟩

set_option maxRecDepth 100000 in
set_option maxHeartbeats 1000000 in
theorem ref_Wait {w : World} (b c t : Int) (hb : i64 b) (hc : i64 c) (ht : i64 t) (n : Int) (hn : i64 n) :
    Calls Try.prog 32 [.agg #[.int .i64 b, .int .i64 c, .int .i64 t], .int .i64 n].toArray w fun e w' => e = .returned (.int .i64 (if RightP b c t then wz b c n.toNat else 0)) ∧ St w (fun _ => False) w' [] := by
  have cs : (¬ RightP b c t) ∨ (RightP b c t) := (Decidable.em _).symm
  rcases cs with h | h
  · have S := St.init0 w
    refine enter 31 [(0, .agg #[.int .i64 b, .int .i64 c, .int .i64 t]), (1, .int .i64 n)] Try.func32 rfl rfl rfl rfl ?_
    refine WCode.seq ?_
    refine WCode.region ?_
    obtain ⟨b1, w2, E3, S4, X5, L6⟩ := St.box S Try.prog 53 (.agg #[.int .i64 b, .int .i64 c, .int .i64 t])
    change St _ _ _ [[(b1, .cells #[.int .i64 b, .int .i64 c, .int .i64 t] 53 (0, 0))]] at S4
    refine WOps.e (E3 rfl) rfl ?_
    refine WOps.p (G.assign rfl) rfl ?_
    refine WOps.nil ?_
    refine WEx.forget (l' := [(1, .int .i64 n), (2, .pointer (some ⟨b1, 0, none⟩)), (4, .int .i64 0)]) ⟨rfl, rfl, rfl, trivial⟩ ?_
    refine WEx.then_ ?_
    refine WCode.seq ?_
    refine WCode.region ?_
    refine WOps.r (G.loada T.agg53_3 rfl (cs := [.int .i64 b, .int .i64 c, .int .i64 t]) (cellsAt.of_blk (S4.blk 0 rfl) rfl)) rfl ?_
    refine WOps.call T.call28 (evs_cons rfl evs_nil) rfl ?_
    refine (ref_Right b c t hb hc ht).mono ?_
    rintro _ w8 ⟨rfl, T7⟩
    have S9 := S4.call0 T7
    have X10 := T7.ext0
    change St _ _ _ [[(b1, .cells #[.int .i64 b, .int .i64 c, .int .i64 t] 53 (0, 0))]] at S9
    rw [decide_eq_false h]
    refine ⟨_, rfl, ?_⟩
    refine WOps.p (G.assign rfl) rfl ?_
    refine WOps.nil ?_
    refine WEx.forget (l' := [(1, .int .i64 n), (2, .pointer (some ⟨b1, 0, none⟩)), (4, .int .i64 0), (5, .bool false)]) ⟨rfl, rfl, rfl, rfl, trivial⟩ ?_
    refine WEx.then_ ?_
    refine WCode.seq ?_
    refine WCode.seq ?_
    refine WCode.region ?_
    refine WOps.p (G.move rfl) rfl ?_
    refine WOps.p (G.not rfl rfl) rfl ?_
    refine WOps.nil ?_
    refine WEx.forget (l' := [(1, .int .i64 n), (2, .pointer (some ⟨b1, 0, none⟩)), (4, .int .i64 0), (11, .bool true)]) ⟨rfl, rfl, rfl, rfl, trivial⟩ ?_
    refine WEx.then_ ?_
    refine WCode.cond_t rfl ?_
    refine WCode.seq ?_
    refine WCode.region ?_
    refine WOps.p (G.assign rfl) rfl ?_
    refine WOps.nil ?_
    refine WEx.forget (l' := [(1, .int .i64 n), (2, .pointer (some ⟨b1, 0, none⟩)), (4, .int .i64 0)]) ⟨rfl, rfl, rfl, trivial⟩ ?_
    refine WEx.then_ ?_
    refine WCode.ret ?_
    refine WEx.then_ret ?_
    refine WEx.ret1 rfl rfl ?_
    exact ⟨by rw [if_neg h], St.keep (As := []) S9⟩
  · have S := St.init0 w
    refine enter 31 [(0, .agg #[.int .i64 b, .int .i64 c, .int .i64 t]), (1, .int .i64 n)] Try.func32 rfl rfl rfl rfl ?_
    refine WCode.seq ?_
    refine WCode.region ?_
    obtain ⟨b1, w2, E3, S4, X5, L6⟩ := St.box S Try.prog 53 (.agg #[.int .i64 b, .int .i64 c, .int .i64 t])
    change St _ _ _ [[(b1, .cells #[.int .i64 b, .int .i64 c, .int .i64 t] 53 (0, 0))]] at S4
    refine WOps.e (E3 rfl) rfl ?_
    refine WOps.p (G.assign rfl) rfl ?_
    refine WOps.nil ?_
    refine WEx.forget (l' := [(1, .int .i64 n), (2, .pointer (some ⟨b1, 0, none⟩)), (4, .int .i64 0)]) ⟨rfl, rfl, rfl, trivial⟩ ?_
    refine WEx.then_ ?_
    refine WCode.seq ?_
    refine WCode.region ?_
    refine WOps.r (G.loada T.agg53_3 rfl (cs := [.int .i64 b, .int .i64 c, .int .i64 t]) (cellsAt.of_blk (S4.blk 0 rfl) rfl)) rfl ?_
    refine WOps.call T.call28 (evs_cons rfl evs_nil) rfl ?_
    have hR := h
    refine (ref_Right b c t hb hc ht).mono ?_
    rintro _ w8 ⟨rfl, T7⟩
    have S9 := S4.call0 T7
    have X10 := T7.ext0
    change St _ _ _ [[(b1, .cells #[.int .i64 b, .int .i64 c, .int .i64 t] 53 (0, 0))]] at S9
    rw [decide_eq_true h]
    refine ⟨_, rfl, ?_⟩
    refine WOps.p (G.assign rfl) rfl ?_
    refine WOps.nil ?_
    refine WEx.forget (l' := [(1, .int .i64 n), (2, .pointer (some ⟨b1, 0, none⟩)), (4, .int .i64 0), (5, .bool true)]) ⟨rfl, rfl, rfl, rfl, trivial⟩ ?_
    refine WEx.then_ ?_
    refine WCode.seq ?_
    refine WCode.seq ?_
    refine WCode.region ?_
    refine WOps.p (G.move rfl) rfl ?_
    refine WOps.p (G.not rfl rfl) rfl ?_
    refine WOps.nil ?_
    refine WEx.forget (l' := [(1, .int .i64 n), (2, .pointer (some ⟨b1, 0, none⟩)), (4, .int .i64 0), (11, .bool false)]) ⟨rfl, rfl, rfl, rfl, trivial⟩ ?_
    refine WEx.then_ ?_
    refine WCode.cond_f rfl ?_
    refine WCode.skip ?_
    refine WEx.then_ ?_
    refine WCode.forget (l' := [(1, .int .i64 n), (2, .pointer (some ⟨b1, 0, none⟩)), (4, .int .i64 0)]) ⟨rfl, rfl, rfl, trivial⟩ ?_
    refine WCode.seq ?_
    refine WCode.region ?_
    refine WOps.p (G.field T.fld53_0 rfl (show 0 + 0 = 0 from rfl)) rfl ?_
    refine WOps.r (G.load1 T.one3 rfl (cell_blk (S9.blk 0 rfl) rfl)) rfl ?_
    refine WOps.p (G.assign rfl) rfl ?_
    refine WOps.nil ?_
    refine WEx.forget (l' := [(1, .int .i64 n), (2, .pointer (some ⟨b1, 0, none⟩)), (4, .int .i64 0), (6, .int .i64 b)]) ⟨rfl, rfl, rfl, rfl, trivial⟩ ?_
    refine WEx.then_ ?_
    refine WCode.seq ?_
    refine WCode.seq ?_
    refine WCode.region ?_
    refine WOps.p (G.assign rfl) rfl ?_
    refine WOps.nil ?_
    refine WEx.then_ ?_
    refine WCode.block ?_
    refine WCode.forget (l' := [(1, .int .i64 n), (2, .pointer (some ⟨b1, 0, none⟩)), (4, .int .i64 0), (6, .int .i64 (b * 2 ^ 0)), (7, .int .i64 0)]) ⟨rfl, rfl, rfl, (show some (Value.int .i64 b) = _ from by rw [Int.pow_zero, Int.mul_one]), rfl, trivial⟩ ?_
    refine WCode.loop (fun n_ l_ w' => ∃ i : Nat, l_ = [(1, .int .i64 n), (2, .pointer (some ⟨b1, 0, none⟩)), (4, .int .i64 0), (6, .int .i64 (b * 2 ^ i)), (7, .int .i64 (i : Nat))] ∧ n_ = (2097153 - b * 2 ^ i).toNat ∧ ((i : Int) ≤ n ∨ i = 0) ∧ (1 ≤ b * 2 ^ i ∧ b * 2 ^ i ≤ 2097152) ∧ St w (fun _ => False) w' [[(b1, .cells #[.int .i64 b, .int .i64 c, .int .i64 t] 53 (0, 0))]]) _ ⟨0, rfl, rfl, (.inr rfl), (by have h1 := hR.1; have h2 := hR.2.1; have h3 := hR.2.2.1; simp; omega), S9⟩ ?_
    rintro _ _ w11 ⟨i, rfl, rfl, hi, hw, S12⟩
    have cs_ : (n ≤ (i : Int)) ∨ ((i : Int) < n ∧ c ≤ b * 2 ^ i) ∨ ((i : Int) < n ∧ b * 2 ^ i < c) := by omega
    rcases cs_ with h | h | h
    ·
      refine WCode.seq ?_
      refine WCode.seq ?_
      refine WCode.region ?_
      refine WOps.p (G.move rfl) rfl ?_
      refine WOps.p (G.move rfl) rfl ?_
      refine WOps.p (G.lss rfl rfl (b := false) (decide_eq_false (by omega))) rfl ?_
      refine WOps.p (G.move rfl) rfl ?_
      refine WOps.off rfl rfl rfl rfl ?_
      refine WOps.off rfl rfl rfl rfl ?_
      refine WOps.off rfl rfl rfl rfl ?_
      refine WOps.off rfl rfl rfl rfl ?_
      refine WOps.p (G.pick_f rfl rfl) rfl ?_
      refine WOps.nil ?_
      refine WEx.then_ ?_
      refine WCode.cond_f rfl ?_
      refine WCode.exit ?_
      refine WEx.then_exit ?_
      refine WEx.then_exit ?_
      refine WEx.in_exit ?_
      refine WEx.then_ ?_
      refine WCode.forget (l' := [(2, .pointer (some ⟨b1, 0, none⟩)), (4, .int .i64 0), (6, .int .i64 (b * 2 ^ i))]) ⟨rfl, rfl, rfl, trivial⟩ ?_
      refine WCode.seq ?_
      refine WCode.region ?_
      refine WOps.p (G.move rfl) rfl ?_
      refine WOps.p (G.field T.fld53_1 rfl (show 0 + 1 = 1 from rfl)) rfl ?_
      refine WOps.r (G.load1 T.one3 rfl (cell_blk (S12.blk 0 rfl) rfl)) rfl ?_
      refine WOps.p (G.min rfl rfl (show _ = (if c < b * 2 ^ i then c else b * 2 ^ i) from rfl)) rfl ?_
      refine WOps.p (G.assign rfl) rfl ?_
      refine WOps.nil ?_
      refine WEx.forget (l' := [(4, .int .i64 (if c < b * 2 ^ i then c else b * 2 ^ i))]) ⟨rfl, trivial⟩ ?_
      refine WEx.then_ ?_
      refine WCode.ret ?_
      refine WEx.ret1 rfl rfl ?_
      exact ⟨by rw [if_pos hR, show n.toNat = i by omega, ref_end1], St.keep (As := []) S12⟩
    ·
      refine WCode.seq ?_
      refine WCode.seq ?_
      refine WCode.region ?_
      refine WOps.p (G.move rfl) rfl ?_
      refine WOps.p (G.move rfl) rfl ?_
      refine WOps.p (G.lss rfl rfl (b := true) (decide_eq_true (by omega))) rfl ?_
      refine WOps.p (G.move rfl) rfl ?_
      refine WOps.on rfl rfl ?_
      refine WOps.p (G.move rfl) rfl ?_
      refine WOps.on rfl rfl ?_
      refine WOps.p (G.field T.fld53_1 rfl (show 0 + 1 = 1 from rfl)) rfl ?_
      refine WOps.on rfl rfl ?_
      refine WOps.r (G.load1 T.one3 rfl (cell_blk (S12.blk 0 rfl) rfl)) rfl ?_
      refine WOps.on rfl rfl ?_
      refine WOps.p (G.lss rfl rfl (b := false) (decide_eq_false (by omega))) rfl ?_
      refine WOps.p (G.pick_t rfl rfl) rfl ?_
      refine WOps.nil ?_
      refine WEx.then_ ?_
      refine WCode.cond_f rfl ?_
      refine WCode.exit ?_
      refine WEx.then_exit ?_
      refine WEx.then_exit ?_
      refine WEx.in_exit ?_
      refine WEx.then_ ?_
      refine WCode.forget (l' := [(2, .pointer (some ⟨b1, 0, none⟩)), (4, .int .i64 0), (6, .int .i64 (b * 2 ^ i))]) ⟨rfl, rfl, rfl, trivial⟩ ?_
      refine WCode.seq ?_
      refine WCode.region ?_
      refine WOps.p (G.move rfl) rfl ?_
      refine WOps.p (G.field T.fld53_1 rfl (show 0 + 1 = 1 from rfl)) rfl ?_
      refine WOps.r (G.load1 T.one3 rfl (cell_blk (S12.blk 0 rfl) rfl)) rfl ?_
      refine WOps.p (G.min rfl rfl (show _ = (if c < b * 2 ^ i then c else b * 2 ^ i) from rfl)) rfl ?_
      refine WOps.p (G.assign rfl) rfl ?_
      refine WOps.nil ?_
      refine WEx.forget (l' := [(4, .int .i64 (if c < b * 2 ^ i then c else b * 2 ^ i))]) ⟨rfl, trivial⟩ ?_
      refine WEx.then_ ?_
      refine WCode.ret ?_
      refine WEx.ret1 rfl rfl ?_
      exact ⟨by rw [if_pos hR, ref_end1, ref_end2 hR h.2 (show i ≤ n.toNat by omega)], St.keep (As := []) S12⟩
    ·
      refine WCode.seq ?_
      refine WCode.seq ?_
      refine WCode.region ?_
      refine WOps.p (G.move rfl) rfl ?_
      refine WOps.p (G.move rfl) rfl ?_
      refine WOps.p (G.lss rfl rfl (b := true) (decide_eq_true (by omega))) rfl ?_
      refine WOps.p (G.move rfl) rfl ?_
      refine WOps.on rfl rfl ?_
      refine WOps.p (G.move rfl) rfl ?_
      refine WOps.on rfl rfl ?_
      refine WOps.p (G.field T.fld53_1 rfl (show 0 + 1 = 1 from rfl)) rfl ?_
      refine WOps.on rfl rfl ?_
      refine WOps.r (G.load1 T.one3 rfl (cell_blk (S12.blk 0 rfl) rfl)) rfl ?_
      refine WOps.on rfl rfl ?_
      refine WOps.p (G.lss rfl rfl (b := true) (decide_eq_true (by omega))) rfl ?_
      refine WOps.p (G.pick_t rfl rfl) rfl ?_
      refine WOps.nil ?_
      refine WEx.then_ ?_
      refine WCode.cond_t rfl ?_
      refine WCode.skip ?_
      refine WEx.then_ ?_
      refine WCode.seq ?_
      refine WCode.block ?_
      refine WCode.region ?_
      refine WOps.p (G.move rfl) rfl ?_
      refine WOps.p (G.mul rfl rfl (show IntKind.i64.wrap (2 * (b * 2 ^ i)) = (2 * (b * 2 ^ i)) from (IntWalk.i64_in _ (by omega)))) rfl ?_
      refine WOps.p (G.assign rfl) rfl ?_
      refine WOps.nil ?_
      refine WEx.in_normal ?_
      refine WEx.then_ ?_
      refine WCode.region ?_
      refine WOps.p (G.move rfl) rfl ?_
      refine WOps.p (G.add rfl rfl (show IntKind.i64.wrap ((i : Nat) + 1) = ((i : Int) + 1) from (IntWalk.i64_in _ (by unfold i64 at hn; omega)))) rfl ?_
      refine WOps.p (G.assign rfl) rfl ?_
      refine WOps.nil ?_
      refine WEx.again _ _ ?_ ?_ ⟨i + 1, rfl, rfl, (by omega), (by rw [pow_next]; have h3 := hR.2.2.1; omega), S12⟩
      · rw [pow_next]; omega
      · exact ⟨rfl, rfl, rfl, (show some (Value.int .i64 (2 * (b * 2 ^ i))) = _ from by rw [pow_next]), rfl, trivial⟩

set_option maxRecDepth 100000 in
set_option maxHeartbeats 1000000 in
theorem pace_Total {w : World} (b c t : Int) (hb : i64 b) (hc : i64 c) (ht : i64 t) :
    Calls Try.prog 29 [.agg #[.int .i64 b, .int .i64 c, .int .i64 t]].toArray w fun e w' => e = .returned (.int .i64 (if RightP b c t then sumW b c t.toNat else 0)) ∧ St w (fun _ => False) w' [] := by
  have cs : (¬ RightP b c t) ∨ (RightP b c t) := (Decidable.em _).symm
  rcases cs with h | h
  · have S := St.init0 w
    refine enter 20 [(0, .agg #[.int .i64 b, .int .i64 c, .int .i64 t])] Try.func29 rfl rfl rfl rfl ?_
    refine WCode.seq ?_
    refine WCode.region ?_
    obtain ⟨b1, w2, E3, S4, X5, L6⟩ := St.box S Try.prog 53 (.agg #[.int .i64 b, .int .i64 c, .int .i64 t])
    change St _ _ _ [[(b1, .cells #[.int .i64 b, .int .i64 c, .int .i64 t] 53 (0, 0))]] at S4
    refine WOps.e (E3 rfl) rfl ?_
    refine WOps.p (G.assign rfl) rfl ?_
    refine WOps.nil ?_
    refine WEx.forget (l' := [(1, .pointer (some ⟨b1, 0, none⟩)), (2, .int .i64 0)]) ⟨rfl, rfl, trivial⟩ ?_
    refine WEx.then_ ?_
    refine WCode.seq ?_
    refine WCode.seq ?_
    refine WCode.region ?_
    refine WOps.r (G.loada T.agg53_3 rfl (cs := [.int .i64 b, .int .i64 c, .int .i64 t]) (cellsAt.of_blk (S4.blk 0 rfl) rfl)) rfl ?_
    refine WOps.call T.call27 (evs_cons rfl evs_nil) rfl ?_
    refine (pace_Right b c t hb hc ht).mono ?_
    rintro _ w8 ⟨rfl, T7⟩
    have S9 := S4.call0 T7
    have X10 := T7.ext0
    change St _ _ _ [[(b1, .cells #[.int .i64 b, .int .i64 c, .int .i64 t] 53 (0, 0))]] at S9
    rw [decide_eq_false h]
    refine ⟨_, rfl, ?_⟩
    refine WOps.p (G.not rfl rfl) rfl ?_
    refine WOps.nil ?_
    refine WEx.forget (l' := [(1, .pointer (some ⟨b1, 0, none⟩)), (2, .int .i64 0), (7, .bool true)]) ⟨rfl, rfl, rfl, trivial⟩ ?_
    refine WEx.then_ ?_
    refine WCode.cond_t rfl ?_
    refine WCode.seq ?_
    refine WCode.region ?_
    refine WOps.p (G.assign rfl) rfl ?_
    refine WOps.nil ?_
    refine WEx.forget (l' := [(1, .pointer (some ⟨b1, 0, none⟩)), (2, .int .i64 0)]) ⟨rfl, rfl, trivial⟩ ?_
    refine WEx.then_ ?_
    refine WCode.ret ?_
    refine WEx.then_ret ?_
    refine WEx.ret1 rfl rfl ?_
    exact ⟨by rw [if_neg h], St.keep (As := []) S9⟩
  · have S := St.init0 w
    refine enter 20 [(0, .agg #[.int .i64 b, .int .i64 c, .int .i64 t])] Try.func29 rfl rfl rfl rfl ?_
    refine WCode.seq ?_
    refine WCode.region ?_
    obtain ⟨b1, w2, E3, S4, X5, L6⟩ := St.box S Try.prog 53 (.agg #[.int .i64 b, .int .i64 c, .int .i64 t])
    change St _ _ _ [[(b1, .cells #[.int .i64 b, .int .i64 c, .int .i64 t] 53 (0, 0))]] at S4
    refine WOps.e (E3 rfl) rfl ?_
    refine WOps.p (G.assign rfl) rfl ?_
    refine WOps.nil ?_
    refine WEx.forget (l' := [(1, .pointer (some ⟨b1, 0, none⟩)), (2, .int .i64 0)]) ⟨rfl, rfl, trivial⟩ ?_
    refine WEx.then_ ?_
    refine WCode.seq ?_
    refine WCode.seq ?_
    refine WCode.region ?_
    refine WOps.r (G.loada T.agg53_3 rfl (cs := [.int .i64 b, .int .i64 c, .int .i64 t]) (cellsAt.of_blk (S4.blk 0 rfl) rfl)) rfl ?_
    refine WOps.call T.call27 (evs_cons rfl evs_nil) rfl ?_
    have hR := h
    refine (pace_Right b c t hb hc ht).mono ?_
    rintro _ w8 ⟨rfl, T7⟩
    have S9 := S4.call0 T7
    have X10 := T7.ext0
    change St _ _ _ [[(b1, .cells #[.int .i64 b, .int .i64 c, .int .i64 t] 53 (0, 0))]] at S9
    rw [decide_eq_true h]
    refine ⟨_, rfl, ?_⟩
    refine WOps.p (G.not rfl rfl) rfl ?_
    refine WOps.nil ?_
    refine WEx.forget (l' := [(1, .pointer (some ⟨b1, 0, none⟩)), (2, .int .i64 0), (7, .bool false)]) ⟨rfl, rfl, rfl, trivial⟩ ?_
    refine WEx.then_ ?_
    refine WCode.cond_f rfl ?_
    refine WCode.skip ?_
    refine WEx.then_ ?_
    refine WCode.forget (l' := [(1, .pointer (some ⟨b1, 0, none⟩)), (2, .int .i64 0)]) ⟨rfl, rfl, trivial⟩ ?_
    refine WCode.seq ?_
    refine WCode.region ?_
    refine WOps.p (G.assign rfl) rfl ?_
    refine WOps.nil ?_
    refine WEx.then_ ?_
    refine WCode.seq ?_
    refine WCode.seq ?_
    refine WCode.region ?_
    refine WOps.p (G.field T.fld53_2 rfl (show 0 + 2 = 2 from rfl)) rfl ?_
    refine WOps.r (G.load1 T.one3 rfl (cell_blk (S9.blk 0 rfl) rfl)) rfl ?_
    refine WOps.p (G.move rfl) rfl ?_
    refine WOps.nil ?_
    refine WEx.forget (l' := [(1, .pointer (some ⟨b1, 0, none⟩)), (2, .int .i64 0), (3, .int .i64 0), (9, .int .i64 t), (10, .int .i64 0)]) ⟨rfl, rfl, rfl, rfl, rfl, trivial⟩ ?_
    refine WEx.then_ ?_
    refine WCode.block ?_
    refine WCode.forget (l' := [(1, .pointer (some ⟨b1, 0, none⟩)), (2, .int .i64 0), (3, .int .i64 0), (9, .int .i64 t), (10, .int .i64 0)]) ⟨rfl, rfl, rfl, rfl, rfl, trivial⟩ ?_
    refine WCode.loop (fun n_ l_ w' => ∃ i : Nat, l_ = [(1, .pointer (some ⟨b1, 0, none⟩)), (2, .int .i64 0), (3, .int .i64 (sumW b c i)), (9, .int .i64 t), (10, .int .i64 (i : Nat))] ∧ n_ = 32 - i ∧ ((i : Int) ≤ t) ∧ St w (fun _ => False) w' [[(b1, .cells #[.int .i64 b, .int .i64 c, .int .i64 t] 53 (0, 0))]]) _ ⟨0, rfl, rfl, (by have := hR.2.2.2.1; omega), S9⟩ ?_
    rintro _ _ w11 ⟨i, rfl, rfl, hi, S12⟩
    have cs_ : (t ≤ (i : Int)) ∨ ((i : Int) < t) := by omega
    rcases cs_ with h | h
    ·
      refine WCode.seq ?_
      refine WCode.region ?_
      refine WOps.p (G.lss rfl rfl (b := false) (decide_eq_false (by omega))) rfl ?_
      refine WOps.nil ?_
      refine WEx.then_ ?_
      refine WCode.seq ?_
      refine WCode.cond_f rfl ?_
      refine WCode.exit ?_
      refine WEx.then_exit ?_
      refine WEx.then_exit ?_
      refine WEx.in_exit ?_
      refine WEx.then_ ?_
      refine WCode.forget (l' := [(2, .int .i64 0), (3, .int .i64 (sumW b c i))]) ⟨rfl, rfl, trivial⟩ ?_
      refine WCode.seq ?_
      refine WCode.region ?_
      refine WOps.p (G.move rfl) rfl ?_
      refine WOps.p (G.assign rfl) rfl ?_
      refine WOps.nil ?_
      refine WEx.forget (l' := [(2, .int .i64 (sumW b c i))]) ⟨rfl, trivial⟩ ?_
      refine WEx.then_ ?_
      refine WCode.ret ?_
      refine WEx.ret1 rfl rfl ?_
      exact ⟨by rw [if_pos hR, show t.toNat = i by omega], St.keep (As := []) S12⟩
    ·
      have hs := sumW_in hR i
      have hw := wz_in hR i
      have ht32 := hR.2.2.2.2
      refine WCode.seq ?_
      refine WCode.region ?_
      refine WOps.p (G.lss rfl rfl (b := true) (decide_eq_true (by omega))) rfl ?_
      refine WOps.nil ?_
      refine WEx.then_ ?_
      refine WCode.seq ?_
      refine WCode.cond_t rfl ?_
      refine WCode.skip ?_
      refine WEx.then_ ?_
      refine WCode.seq ?_
      refine WCode.block ?_
      refine WCode.seq ?_
      refine WCode.region ?_
      refine WOps.p (G.move rfl) rfl ?_
      refine WOps.p (G.assign rfl) rfl ?_
      refine WOps.nil ?_
      refine WEx.then_ ?_
      refine WCode.region ?_
      refine WOps.p (G.move rfl) rfl ?_
      refine WOps.r (G.loada T.agg53_3 rfl (cs := [.int .i64 b, .int .i64 c, .int .i64 t]) (cellsAt.of_blk (S12.blk 0 rfl) rfl)) rfl ?_
      refine WOps.p (G.move rfl) rfl ?_
      refine WOps.call T.call31 (evs_cons rfl (evs_cons rfl evs_nil)) rfl ?_
      refine (pace_Wait b c t hb hc ht (i : Int) (by unfold i64 at *; omega)).mono ?_
      rintro _ w14 ⟨rfl, T13⟩
      have S15 := S12.call0 T13
      have X16 := T13.ext0
      change St _ _ _ [[(b1, .cells #[.int .i64 b, .int .i64 c, .int .i64 t] 53 (0, 0))]] at S15
      rw [if_pos hR, Int.toNat_natCast]
      refine ⟨_, rfl, ?_⟩
      refine WOps.p (G.add rfl rfl (show IntKind.i64.wrap ((sumW b c i) + (wz b c i)) = (sumW b c i + wz b c i) from (IntWalk.i64_in _ (by omega)))) rfl ?_
      refine WOps.p (G.assign rfl) rfl ?_
      refine WOps.nil ?_
      refine WEx.in_normal ?_
      refine WEx.then_ ?_
      refine WCode.region ?_
      refine WOps.p (G.add rfl rfl (show IntKind.i64.wrap ((i : Nat) + 1) = ((i : Nat) + 1) from IntWalk.i64_in _ (by omega))) rfl ?_
      refine WOps.p (G.move rfl) rfl ?_
      refine WOps.nil ?_
      refine WEx.again _ _ ?_ ?_ ⟨i + 1, rfl, rfl, (by omega), S15⟩
      · have := hR.2.2.2.2; omega
      · exact ⟨rfl, rfl, rfl, rfl, rfl, trivial⟩

set_option maxRecDepth 100000 in
set_option maxHeartbeats 1000000 in
theorem ref_Total {w : World} (b c t : Int) (hb : i64 b) (hc : i64 c) (ht : i64 t) :
    Calls Try.prog 30 [.agg #[.int .i64 b, .int .i64 c, .int .i64 t]].toArray w fun e w' => e = .returned (.int .i64 (if RightP b c t then sumW b c t.toNat else 0)) ∧ St w (fun _ => False) w' [] := by
  have cs : (¬ RightP b c t) ∨ (RightP b c t) := (Decidable.em _).symm
  rcases cs with hR | hR
  · have S := St.init0 w
    refine enter 21 [(0, .agg #[.int .i64 b, .int .i64 c, .int .i64 t])] Try.func30 rfl rfl rfl rfl ?_
    refine WCode.seq ?_
    refine WCode.region ?_
    obtain ⟨b1, w2, E3, S4, X5, L6⟩ := St.box S Try.prog 53 (.agg #[.int .i64 b, .int .i64 c, .int .i64 t])
    change St _ _ _ [[(b1, .cells #[.int .i64 b, .int .i64 c, .int .i64 t] 53 (0, 0))]] at S4
    refine WOps.e (E3 rfl) rfl ?_
    refine WOps.p (G.assign rfl) rfl ?_
    refine WOps.nil ?_
    refine WEx.forget (l' := [(1, .pointer (some ⟨b1, 0, none⟩)), (2, .int .i64 0)]) ⟨rfl, rfl, trivial⟩ ?_
    refine WEx.then_ ?_
    refine WCode.seq ?_
    refine WCode.region ?_
    refine WOps.p (G.assign rfl) rfl ?_
    refine WOps.nil ?_
    refine WEx.then_ ?_
    refine WCode.seq ?_
    refine WCode.seq ?_
    refine WCode.region ?_
    refine WOps.p (G.assign rfl) rfl ?_
    refine WOps.nil ?_
    refine WEx.then_ ?_
    refine WCode.block ?_
    refine WCode.forget (l' := [(1, .pointer (some ⟨b1, 0, none⟩)), (2, .int .i64 0), (3, .int .i64 0), (4, .int .i64 0)]) ⟨rfl, rfl, rfl, rfl, trivial⟩ ?_
    refine WCode.loop (fun n_ l_ w' => ∃ i : Nat, l_ = [(1, .pointer (some ⟨b1, 0, none⟩)), (2, .int .i64 0), (3, .int .i64 0), (4, .int .i64 (i : Nat))] ∧ n_ = 32 - i ∧ (i ≤ 32 ∧ ((i : Int) ≤ t ∨ i = 0)) ∧ St w (fun _ => False) w' [[(b1, .cells #[.int .i64 b, .int .i64 c, .int .i64 t] 53 (0, 0))]]) _ ⟨0, rfl, rfl, ⟨by omega, .inr rfl⟩, S4⟩ ?_
    rintro _ _ w7 ⟨i, rfl, rfl, hi, S8⟩
    have cs_ : (t ≤ (i : Int)) ∨ ((i : Int) < t ∧ 32 ≤ i) ∨ ((i : Int) < t ∧ i < 32) := by omega
    rcases cs_ with h | h | h
    ·
      refine WCode.seq ?_
      refine WCode.seq ?_
      refine WCode.region ?_
      refine WOps.p (G.move rfl) rfl ?_
      refine WOps.p (G.field T.fld53_2 rfl (show 0 + 2 = 2 from rfl)) rfl ?_
      refine WOps.r (G.load1 T.one3 rfl (cell_blk (S8.blk 0 rfl) rfl)) rfl ?_
      refine WOps.p (G.lss rfl rfl (b := false) (decide_eq_false (by omega))) rfl ?_
      refine WOps.p (G.move rfl) rfl ?_
      refine WOps.off rfl rfl rfl rfl ?_
      refine WOps.off rfl rfl rfl rfl ?_
      refine WOps.p (G.pick_f rfl rfl) rfl ?_
      refine WOps.nil ?_
      refine WEx.then_ ?_
      refine WCode.cond_f rfl ?_
      refine WCode.exit ?_
      refine WEx.then_exit ?_
      refine WEx.then_exit ?_
      refine WEx.in_exit ?_
      refine WEx.then_ ?_
      refine WCode.forget (l' := [(2, .int .i64 0), (3, .int .i64 0)]) ⟨rfl, rfl, trivial⟩ ?_
      refine WCode.seq ?_
      refine WCode.region ?_
      refine WOps.p (G.move rfl) rfl ?_
      refine WOps.p (G.assign rfl) rfl ?_
      refine WOps.nil ?_
      refine WEx.forget (l' := [(2, .int .i64 0)]) ⟨rfl, trivial⟩ ?_
      refine WEx.then_ ?_
      refine WCode.ret ?_
      refine WEx.ret1 rfl rfl ?_
      exact ⟨by rw [if_neg hR], St.keep (As := []) S8⟩
    ·
      refine WCode.seq ?_
      refine WCode.seq ?_
      refine WCode.region ?_
      refine WOps.p (G.move rfl) rfl ?_
      refine WOps.p (G.field T.fld53_2 rfl (show 0 + 2 = 2 from rfl)) rfl ?_
      refine WOps.r (G.load1 T.one3 rfl (cell_blk (S8.blk 0 rfl) rfl)) rfl ?_
      refine WOps.p (G.lss rfl rfl (b := true) (decide_eq_true (by omega))) rfl ?_
      refine WOps.p (G.move rfl) rfl ?_
      refine WOps.on rfl rfl ?_
      refine WOps.p (G.move rfl) rfl ?_
      refine WOps.on rfl rfl ?_
      refine WOps.p (G.lss rfl rfl (b := false) (decide_eq_false (by omega))) rfl ?_
      refine WOps.p (G.pick_t rfl rfl) rfl ?_
      refine WOps.nil ?_
      refine WEx.then_ ?_
      refine WCode.cond_f rfl ?_
      refine WCode.exit ?_
      refine WEx.then_exit ?_
      refine WEx.then_exit ?_
      refine WEx.in_exit ?_
      refine WEx.then_ ?_
      refine WCode.forget (l' := [(2, .int .i64 0), (3, .int .i64 0)]) ⟨rfl, rfl, trivial⟩ ?_
      refine WCode.seq ?_
      refine WCode.region ?_
      refine WOps.p (G.move rfl) rfl ?_
      refine WOps.p (G.assign rfl) rfl ?_
      refine WOps.nil ?_
      refine WEx.forget (l' := [(2, .int .i64 0)]) ⟨rfl, trivial⟩ ?_
      refine WEx.then_ ?_
      refine WCode.ret ?_
      refine WEx.ret1 rfl rfl ?_
      exact ⟨by rw [if_neg hR], St.keep (As := []) S8⟩
    ·
      refine WCode.seq ?_
      refine WCode.seq ?_
      refine WCode.region ?_
      refine WOps.p (G.move rfl) rfl ?_
      refine WOps.p (G.field T.fld53_2 rfl (show 0 + 2 = 2 from rfl)) rfl ?_
      refine WOps.r (G.load1 T.one3 rfl (cell_blk (S8.blk 0 rfl) rfl)) rfl ?_
      refine WOps.p (G.lss rfl rfl (b := true) (decide_eq_true (by omega))) rfl ?_
      refine WOps.p (G.move rfl) rfl ?_
      refine WOps.on rfl rfl ?_
      refine WOps.p (G.move rfl) rfl ?_
      refine WOps.on rfl rfl ?_
      refine WOps.p (G.lss rfl rfl (b := true) (decide_eq_true (by omega))) rfl ?_
      refine WOps.p (G.pick_t rfl rfl) rfl ?_
      refine WOps.nil ?_
      refine WEx.then_ ?_
      refine WCode.cond_t rfl ?_
      refine WCode.skip ?_
      refine WEx.then_ ?_
      refine WCode.seq ?_
      refine WCode.block ?_
      refine WCode.region ?_
      refine WOps.p (G.move rfl) rfl ?_
      refine WOps.r (G.loada T.agg53_3 rfl (cs := [.int .i64 b, .int .i64 c, .int .i64 t]) (cellsAt.of_blk (S8.blk 0 rfl) rfl)) rfl ?_
      refine WOps.p (G.move rfl) rfl ?_
      refine WOps.call T.call32 (evs_cons rfl (evs_cons rfl evs_nil)) rfl ?_
      refine (ref_Wait b c t hb hc ht (i : Int) (by unfold i64 at *; omega)).mono ?_
      rintro _ w10 ⟨rfl, T9⟩
      have S11 := S8.call0 T9
      have X12 := T9.ext0
      change St _ _ _ [[(b1, .cells #[.int .i64 b, .int .i64 c, .int .i64 t] 53 (0, 0))]] at S11
      rw [if_neg hR]
      refine ⟨_, rfl, ?_⟩
      refine WOps.p (G.add rfl rfl (show IntKind.i64.wrap (0 + 0) = 0 from (by decide))) rfl ?_
      refine WOps.p (G.assign rfl) rfl ?_
      refine WOps.nil ?_
      refine WEx.in_normal ?_
      refine WEx.then_ ?_
      refine WCode.region ?_
      refine WOps.p (G.move rfl) rfl ?_
      refine WOps.p (G.add rfl rfl (show IntKind.i64.wrap ((i : Nat) + 1) = ((i : Nat) + 1) from IntWalk.i64_in _ (by omega))) rfl ?_
      refine WOps.p (G.assign rfl) rfl ?_
      refine WOps.nil ?_
      refine WEx.again _ _ ?_ ?_ ⟨i + 1, rfl, rfl, (by omega), S11⟩
      · omega
      · exact ⟨rfl, rfl, rfl, rfl, trivial⟩
  · have S := St.init0 w
    refine enter 21 [(0, .agg #[.int .i64 b, .int .i64 c, .int .i64 t])] Try.func30 rfl rfl rfl rfl ?_
    refine WCode.seq ?_
    refine WCode.region ?_
    obtain ⟨b1, w2, E3, S4, X5, L6⟩ := St.box S Try.prog 53 (.agg #[.int .i64 b, .int .i64 c, .int .i64 t])
    change St _ _ _ [[(b1, .cells #[.int .i64 b, .int .i64 c, .int .i64 t] 53 (0, 0))]] at S4
    refine WOps.e (E3 rfl) rfl ?_
    refine WOps.p (G.assign rfl) rfl ?_
    refine WOps.nil ?_
    refine WEx.forget (l' := [(1, .pointer (some ⟨b1, 0, none⟩)), (2, .int .i64 0)]) ⟨rfl, rfl, trivial⟩ ?_
    refine WEx.then_ ?_
    refine WCode.seq ?_
    refine WCode.region ?_
    refine WOps.p (G.assign rfl) rfl ?_
    refine WOps.nil ?_
    refine WEx.then_ ?_
    refine WCode.seq ?_
    refine WCode.seq ?_
    refine WCode.region ?_
    refine WOps.p (G.assign rfl) rfl ?_
    refine WOps.nil ?_
    refine WEx.then_ ?_
    refine WCode.block ?_
    refine WCode.forget (l' := [(1, .pointer (some ⟨b1, 0, none⟩)), (2, .int .i64 0), (3, .int .i64 0), (4, .int .i64 0)]) ⟨rfl, rfl, rfl, rfl, trivial⟩ ?_
    refine WCode.loop (fun n_ l_ w' => ∃ i : Nat, l_ = [(1, .pointer (some ⟨b1, 0, none⟩)), (2, .int .i64 0), (3, .int .i64 (sumW b c i)), (4, .int .i64 (i : Nat))] ∧ n_ = 32 - i ∧ (i ≤ 32 ∧ ((i : Int) ≤ t ∨ i = 0)) ∧ St w (fun _ => False) w' [[(b1, .cells #[.int .i64 b, .int .i64 c, .int .i64 t] 53 (0, 0))]]) _ ⟨0, rfl, rfl, ⟨by omega, .inr rfl⟩, S4⟩ ?_
    rintro _ _ w7 ⟨i, rfl, rfl, hi, S8⟩
    have cs_ : (t ≤ (i : Int)) ∨ ((i : Int) < t ∧ 32 ≤ i) ∨ ((i : Int) < t ∧ i < 32) := by omega
    rcases cs_ with h | h | h
    ·
      refine WCode.seq ?_
      refine WCode.seq ?_
      refine WCode.region ?_
      refine WOps.p (G.move rfl) rfl ?_
      refine WOps.p (G.field T.fld53_2 rfl (show 0 + 2 = 2 from rfl)) rfl ?_
      refine WOps.r (G.load1 T.one3 rfl (cell_blk (S8.blk 0 rfl) rfl)) rfl ?_
      refine WOps.p (G.lss rfl rfl (b := false) (decide_eq_false (by omega))) rfl ?_
      refine WOps.p (G.move rfl) rfl ?_
      refine WOps.off rfl rfl rfl rfl ?_
      refine WOps.off rfl rfl rfl rfl ?_
      refine WOps.p (G.pick_f rfl rfl) rfl ?_
      refine WOps.nil ?_
      refine WEx.then_ ?_
      refine WCode.cond_f rfl ?_
      refine WCode.exit ?_
      refine WEx.then_exit ?_
      refine WEx.then_exit ?_
      refine WEx.in_exit ?_
      refine WEx.then_ ?_
      refine WCode.forget (l' := [(2, .int .i64 0), (3, .int .i64 (sumW b c i))]) ⟨rfl, rfl, trivial⟩ ?_
      refine WCode.seq ?_
      refine WCode.region ?_
      refine WOps.p (G.move rfl) rfl ?_
      refine WOps.p (G.assign rfl) rfl ?_
      refine WOps.nil ?_
      refine WEx.forget (l' := [(2, .int .i64 (sumW b c i))]) ⟨rfl, trivial⟩ ?_
      refine WEx.then_ ?_
      refine WCode.ret ?_
      refine WEx.ret1 rfl rfl ?_
      exact ⟨by rw [if_pos hR, show t.toNat = i by have := hR.2.2.2.1; omega], St.keep (As := []) S8⟩
    ·
      refine WCode.seq ?_
      refine WCode.seq ?_
      refine WCode.region ?_
      refine WOps.p (G.move rfl) rfl ?_
      refine WOps.p (G.field T.fld53_2 rfl (show 0 + 2 = 2 from rfl)) rfl ?_
      refine WOps.r (G.load1 T.one3 rfl (cell_blk (S8.blk 0 rfl) rfl)) rfl ?_
      refine WOps.p (G.lss rfl rfl (b := true) (decide_eq_true (by omega))) rfl ?_
      refine WOps.p (G.move rfl) rfl ?_
      refine WOps.on rfl rfl ?_
      refine WOps.p (G.move rfl) rfl ?_
      refine WOps.on rfl rfl ?_
      refine WOps.p (G.lss rfl rfl (b := false) (decide_eq_false (by omega))) rfl ?_
      refine WOps.p (G.pick_t rfl rfl) rfl ?_
      refine WOps.nil ?_
      refine WEx.then_ ?_
      refine WCode.cond_f rfl ?_
      refine WCode.exit ?_
      refine WEx.then_exit ?_
      refine WEx.then_exit ?_
      refine WEx.in_exit ?_
      refine WEx.then_ ?_
      refine WCode.forget (l' := [(2, .int .i64 0), (3, .int .i64 (sumW b c i))]) ⟨rfl, rfl, trivial⟩ ?_
      refine WCode.seq ?_
      refine WCode.region ?_
      refine WOps.p (G.move rfl) rfl ?_
      refine WOps.p (G.assign rfl) rfl ?_
      refine WOps.nil ?_
      refine WEx.forget (l' := [(2, .int .i64 (sumW b c i))]) ⟨rfl, trivial⟩ ?_
      refine WEx.then_ ?_
      refine WCode.ret ?_
      refine WEx.ret1 rfl rfl ?_
      exact ⟨by rw [if_pos hR, show t.toNat = i by have := hR.2.2.2.2; omega], St.keep (As := []) S8⟩
    ·
      have hs := sumW_in hR i
      have hw := wz_in hR i
      refine WCode.seq ?_
      refine WCode.seq ?_
      refine WCode.region ?_
      refine WOps.p (G.move rfl) rfl ?_
      refine WOps.p (G.field T.fld53_2 rfl (show 0 + 2 = 2 from rfl)) rfl ?_
      refine WOps.r (G.load1 T.one3 rfl (cell_blk (S8.blk 0 rfl) rfl)) rfl ?_
      refine WOps.p (G.lss rfl rfl (b := true) (decide_eq_true (by omega))) rfl ?_
      refine WOps.p (G.move rfl) rfl ?_
      refine WOps.on rfl rfl ?_
      refine WOps.p (G.move rfl) rfl ?_
      refine WOps.on rfl rfl ?_
      refine WOps.p (G.lss rfl rfl (b := true) (decide_eq_true (by omega))) rfl ?_
      refine WOps.p (G.pick_t rfl rfl) rfl ?_
      refine WOps.nil ?_
      refine WEx.then_ ?_
      refine WCode.cond_t rfl ?_
      refine WCode.skip ?_
      refine WEx.then_ ?_
      refine WCode.seq ?_
      refine WCode.block ?_
      refine WCode.region ?_
      refine WOps.p (G.move rfl) rfl ?_
      refine WOps.r (G.loada T.agg53_3 rfl (cs := [.int .i64 b, .int .i64 c, .int .i64 t]) (cellsAt.of_blk (S8.blk 0 rfl) rfl)) rfl ?_
      refine WOps.p (G.move rfl) rfl ?_
      refine WOps.call T.call32 (evs_cons rfl (evs_cons rfl evs_nil)) rfl ?_
      refine (ref_Wait b c t hb hc ht (i : Int) (by unfold i64 at *; omega)).mono ?_
      rintro _ w10 ⟨rfl, T9⟩
      have S11 := S8.call0 T9
      have X12 := T9.ext0
      change St _ _ _ [[(b1, .cells #[.int .i64 b, .int .i64 c, .int .i64 t] 53 (0, 0))]] at S11
      rw [if_pos hR, Int.toNat_natCast]
      refine ⟨_, rfl, ?_⟩
      refine WOps.p (G.add rfl rfl (show IntKind.i64.wrap ((sumW b c i) + (wz b c i)) = (sumW b c i + wz b c i) from (IntWalk.i64_in _ (by omega)))) rfl ?_
      refine WOps.p (G.assign rfl) rfl ?_
      refine WOps.nil ?_
      refine WEx.in_normal ?_
      refine WEx.then_ ?_
      refine WCode.region ?_
      refine WOps.p (G.move rfl) rfl ?_
      refine WOps.p (G.add rfl rfl (show IntKind.i64.wrap ((i : Nat) + 1) = ((i : Nat) + 1) from IntWalk.i64_in _ (by omega))) rfl ?_
      refine WOps.p (G.assign rfl) rfl ?_
      refine WOps.nil ?_
      refine WEx.again _ _ ?_ ?_ ⟨i + 1, rfl, rfl, (by omega), S11⟩
      · omega
      · exact ⟨rfl, rfl, rfl, rfl, trivial⟩

end Go.Proofs.Ytoahkjehjmbojaa
