/- ShelfTypes answers true. -/
import Derived.Test.YtoahkjehjmbojaaTD
import Derived.Test.YtoahkjehjmbojaaOpen3
set_option linter.unusedVariables false
set_option linter.unusedSimpArgs false
namespace Go.Proofs.Ytoahkjehjmbojaa
open Go Go.Eng
theorem t_awake : sh_awake 50 = some true := by kernel_rfl
theorem st_New3 : st_New 50 3 = some (some ⟨3, []⟩, 0) := rfl
theorem sp_New3 : sp_New 50 3 = some (some ⟨3, []⟩, 0) := rfl
theorem se_New0 : se_New 50 0 = some (some ⟨0, []⟩, 0) := rfl
theorem w64_01 : w64 (0 + 1) = 1 := by decide
theorem w64_11 : w64 (1 + 1) = 2 := by decide
section
variable {p q : Two____string_160} {K : Two}
theorem st_yes {k : Nat} {L : List Two____string_160} {x : Int} (h0 : x < (L.length : Int)) (h1 : idx L x = some p) (h : p.key = K) : st_idx.l1 (k + 1) L K x = some x := by
  show (if x < (L.length : Int) then _ else _) = _
  rw [if_pos h0, h1, Option.bind_some, show st_clo k p K = some (decide (p.key = K)) from rfl, decide_eq_true h]
  rfl
theorem st_no {k : Nat} {L : List Two____string_160} {x : Int} (h0 : x < (L.length : Int)) (h1 : idx L x = some p) (h : ¬ p.key = K) : st_idx.l1 (k + 1) L K x = st_idx.l1 k L K (w64 (x + 1)) := by
  show (if x < (L.length : Int) then _ else _) = _
  rw [if_pos h0, h1, Option.bind_some, show st_clo k p K = some (decide (p.key = K)) from rfl, decide_eq_false h]
  rfl
theorem st_end {k : Nat} {L : List Two____string_160} {x : Int} (h0 : ¬ x < (L.length : Int)) : st_idx.l1 (k + 1) L K x = some (-1) := by
  show (if x < (L.length : Int) then _ else _) = _
  rw [if_neg h0]
theorem st_idx_1 (h : p.key = K) {L : List Two____string_160} : st_idx 50 (p :: L) K = some 0 := st_yes (by simp only [List.length_cons]; omega) rfl h
theorem st_idx_0 (h : ¬ p.key = K) : st_idx 50 [p] K = some (-1) := by
  show st_idx.l1 (49 + 1) [p] K 0 = _
  rw [st_no (by simp) rfl h, w64_01]
  exact st_end (by simp)
theorem st_idx_2 (h : ¬ p.key = K) (hq : q.key = K) {L : List Two____string_160} : st_idx 50 (p :: q :: L) K = some 1 := by
  show st_idx.l1 (49 + 1) (p :: q :: L) K 0 = _
  rw [st_no (by simp only [List.length_cons]; omega) rfl h, w64_01]
  exact st_yes (by simp only [List.length_cons]; omega) rfl hq
end
section
variable {p q : Pair_string___int_} {K : List UInt8}
theorem sp_yes {k : Nat} {L : List Pair_string___int_} {x : Int} (h0 : x < (L.length : Int)) (h1 : idx L x = some p) (h : p.key = K) : sp_idx.l1 (k + 1) L K x = some x := by
  show (if x < (L.length : Int) then _ else _) = _
  rw [if_pos h0, h1, Option.bind_some, show sp_clo k p K = some (decide (p.key = K)) from rfl, decide_eq_true h]
  rfl
theorem sp_no {k : Nat} {L : List Pair_string___int_} {x : Int} (h0 : x < (L.length : Int)) (h1 : idx L x = some p) (h : ¬ p.key = K) : sp_idx.l1 (k + 1) L K x = sp_idx.l1 k L K (w64 (x + 1)) := by
  show (if x < (L.length : Int) then _ else _) = _
  rw [if_pos h0, h1, Option.bind_some, show sp_clo k p K = some (decide (p.key = K)) from rfl, decide_eq_false h]
  rfl
theorem sp_end {k : Nat} {L : List Pair_string___int_} {x : Int} (h0 : ¬ x < (L.length : Int)) : sp_idx.l1 (k + 1) L K x = some (-1) := by
  show (if x < (L.length : Int) then _ else _) = _
  rw [if_neg h0]
theorem sp_idx_1 (h : p.key = K) {L : List Pair_string___int_} : sp_idx 50 (p :: L) K = some 0 := sp_yes (by simp only [List.length_cons]; omega) rfl h
theorem sp_idx_0 (h : ¬ p.key = K) : sp_idx 50 [p] K = some (-1) := by
  show sp_idx.l1 (49 + 1) [p] K 0 = _
  rw [sp_no (by simp) rfl h, w64_01]
  exact sp_end (by simp)
end
theorem types_true (a0 : Int) (a1 : List UInt8) (ha : a1.length ≤ 2147483647) : law_Types 50 a0 a1 = some true := by
  unfold law_Types
  rw [if_neg (by omega), t_awake]
  simp only [Option.bind_some, st_New3, sp_New3, se_New0, if_true, Option.isSome_some]
  refine allB_true fun b => ?_
  have hne : ¬ ((⟨(⟨((u8of a0).toNat : Int), 7⟩ : S74), decide (0 < a0)⟩ : Two) = (⟨(⟨0, 0⟩ : S74), false⟩ : Two)) := by simp
  have hns : ¬ a1 = a1 ++ [120] := by simp
  generalize (⟨(⟨((u8of a0).toNat : Int), 7⟩ : S74), decide (0 < a0)⟩ : Two) = K at *
  generalize (⟨(⟨0, 0⟩ : S74), false⟩ : Two) = Z at *
  generalize hv : ((some ⟨b, 0, none⟩, 1, 1) : Hs) = v
  have hv1 : v.2.1 = 1 := by rw [← hv]
  have hm1 : ¬ (0 : Int) ≤ -1 := by decide
  have p1 : st_Put 50 ⟨3, []⟩ K v = some (0, ⟨3, [⟨K, v⟩]⟩) := rfl
  have p2 : st_Put 50 ⟨3, [⟨K, v⟩]⟩ Z (none, 0, 0) = some (0, ⟨3, [⟨K, v⟩, ⟨Z, (none, 0, 0)⟩]⟩) := by
    simp only [st_Put, st_place, st_idx_0 (p := ⟨K, v⟩) hne, Option.bind_some, if_neg hm1]
    rfl
  have p3 : st_Get 50 ⟨3, [⟨K, v⟩, ⟨Z, (none, 0, 0)⟩]⟩ K = some (v, true) := by
    simp only [st_Get, st_place, st_idx_1 (p := ⟨K, v⟩) rfl, Option.bind_some]
    rfl
  have p4 : st_Get 50 ⟨3, [⟨K, v⟩, ⟨Z, (none, 0, 0)⟩]⟩ Z = some ((none, 0, 0), true) := by
    simp only [st_Get, st_place, st_idx_2 (p := ⟨K, v⟩) (q := ⟨Z, (none, 0, 0)⟩) hne rfl, Option.bind_some]
    rfl
  simp only [p1, p2, p3, p4, Option.bind_some]
  refine allB_true fun b2 => ?_
  generalize hw : (some (⟨b2, 0, none⟩ : Addr)) = w
  have q1 : sp_Put 50 ⟨3, []⟩ a1 w = some (0, ⟨3, [⟨a1, w⟩]⟩) := rfl
  have q2 : sp_Get 50 ⟨3, [⟨a1, w⟩]⟩ a1 = some (w, true) := by
    simp only [sp_Get, sp_place, sp_idx_1 (p := ⟨a1, w⟩) rfl, Option.bind_some]
    rfl
  have q3 : sp_Get 50 ⟨3, [⟨a1, w⟩]⟩ (a1 ++ [120]) = some (none, false) := by
    simp only [sp_Get, sp_place, sp_idx_0 (p := ⟨a1, w⟩) hns, Option.bind_some]
    rfl
  have hc : cat a1 ([120] : List UInt8) = some (a1 ++ [120]) := cat_at (by simp; omega)
  have r1 : se_Put 50 ⟨0, []⟩ true ⟨⟩ = some (140, ⟨0, []⟩) := rfl
  have r2 : se_Get 50 ⟨0, []⟩ true = some (⟨⟩, false) := rfl
  have r3 : st_Len 50 ⟨3, [⟨K, v⟩, ⟨Z, (none, 0, 0)⟩]⟩ = some 2 := rfl
  simp only [q1, q2, hc, q3, r1, r2, r3, Option.bind_some, hv1, hw, hv]
  rfl
theorem types_all (a0 : Int) (a1 : List UInt8) : law_Types 50 a0 a1 = some true := by
  by_cases h : a1.length ≤ 2147483647
  · exact types_true a0 a1 h
  · unfold law_Types
    rw [if_pos (by omega)]
end Go.Proofs.Ytoahkjehjmbojaa
