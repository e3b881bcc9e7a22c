/- Whole numbers as singles, compared; what a meter's numbers keep to. -/
import Derived.Test.YtoahkjehjmbojaaEng
set_option linter.unusedVariables false
namespace Go.Eng.F32
open Ieee Go

/-! ### what a law asks -/
/-- The single of a whole number; its half. -/
theorem fi_ex : ∃ f : Nat → Nat, ∀ n, f n = rung (n * 2 ^ 213) := ⟨_, fun _ => rfl⟩
noncomputable def fi (n : Nat) : Nat := Classical.choose fi_ex n
theorem fi_def (n : Nat) : fi n = rung (n * 2 ^ 213) := Classical.choose_spec fi_ex n
theorem hf_ex : ∃ f : Nat → Nat, ∀ n, f n = rung (rv (fi n) * 2 ^ 63) := ⟨_, fun _ => rfl⟩
noncomputable def hf (n : Nat) : Nat := Classical.choose hf_ex n
theorem hf_def (n : Nat) : hf n = rung (rv (fi n) * 2 ^ 63) := Classical.choose_spec hf_ex n
theorem fi_eq {n : Nat} (h : n ≤ 1048576) : floatOfInt .f32 (n : Int) = fi n := by rw [fi_def]; exact (f_int n h).1
theorem fi_rv {n : Nat} (h : n ≤ 1048576) : rv (fi n) = n * 2 ^ 149 := by rw [fi_def]; exact (f_int n h).2.1
theorem fi_le {n : Nat} (h : n ≤ 1048576) : fi n ≤ 1233125376 := by rw [fi_def]; exact (f_int n h).2.2
theorem fi_lt {n : Nat} (h : n ≤ 1048576) : fi n < 2139095040 := Nat.lt_of_le_of_lt (fi_le h) (by decide)
theorem fi_mono {n k : Nat} (h : n ≤ k) : fi n ≤ fi k := by rw [fi_def, fi_def]; exact rung_mono (Nat.mul_le_mul_right _ h)
theorem hf_le (n : Nat) : hf n ≤ fi n := by rw [hf_def]; exact rung_le (Nat.mul_le_mul_left _ (Nat.pow_le_pow_right (by decide) (by decide)))
theorem hf_eq {n : Nat} (h : n ≤ 1048576) : floatBits .quo .f32 (fi n) 1073741824 = some (hf n) := by rw [hf_def]; exact div2 (fi_lt h)
theorem lss_no {a b : Nat} (ha : a < 2139095040) (hb : b < 2139095040) (h : b ≤ a) : (FloatKind.f32.format.order a b == some .lt) = false := by
  show (single.order a b == some .lt) = false
  rw [order_w ha hb]
  rcases Nat.eq_or_lt_of_le h with h3 | h3
  · rw [h3, cmpn_eq]; rfl
  · rw [cmpn_gt h3]; rfl
theorem gtr_no {a b : Nat} (ha : a < 2139095040) (hb : b < 2139095040) (h : a ≤ b) : (FloatKind.f32.format.order a b == some .gt) = false := by
  show (single.order a b == some .gt) = false
  rw [order_w ha hb]
  rcases Nat.eq_or_lt_of_le h with h3 | h3
  · rw [h3, cmpn_eq]; rfl
  · rw [cmpn_lt h3]; rfl
theorem run_fmax {P : Program} (w : World) (ts : Array TypeId) (t : TypeId) {a b : Nat} (ha : a < 2139095040) (hb : b < 2139095040) : (Builtin.max_ ts t #[.float .f32 a, .float .f32 b]).run P w = .ok (.float .f32 (max a b)) w := by
  have ho : FloatKind.f32.format.order a b = some (compare a b) := order_w ha hb
  rcases Nat.lt_trichotomy a b with h | h | h
  · rw [cmpn_lt h] at ho
    simp [Builtin.max_, Builtin.max2, ho, Nat.max_eq_right (Nat.le_of_lt h)]
  · subst h
    rw [cmpn_eq] at ho
    simp [Builtin.max_, Builtin.max2, ho]
  · rw [cmpn_gt h] at ho
    simp [Builtin.max_, Builtin.max2, ho, Nat.max_eq_left (Nat.le_of_lt h)]
theorem G.fmax {P : Program} {N : Nat} {l : Fr} {dst : Option Tmp} {ty : TypeId} {pos : String} {aft : Array Edge} {g : Option (Nat × Bool)} {t u : TypeId} {x y : Operand} {a b : Nat} (hx : ev l x = some (.float .f32 a)) (hy : ev l y = some (.float .f32 b)) (ha : a < 2139095040) (hb : b < 2139095040) :
    GP P N l ⟨dst, .call { callee := .builtin .max, args := #[x, y], argTypes := #[t, u] }, ty, pos, aft, g⟩ (.float .f32 (max a b)) := fun w c hc => by
  unfold execOp; simp [resolve, invoke, builtin, hc.ev hx, hc.ev hy, run_fmax w _ _ ha hb]

/-- What a meter's numbers keep to. -/
structure BOk (m s least most first : Nat) : Prop where
  lm : least ≤ most
  mo : most ≤ 1048576
  f : first ≤ 1048576
  lo : fi least ≤ m
  hi : m ≤ fi most
  s : s ≤ max (hf first) (fi (most - least))
end Go.Eng.F32
