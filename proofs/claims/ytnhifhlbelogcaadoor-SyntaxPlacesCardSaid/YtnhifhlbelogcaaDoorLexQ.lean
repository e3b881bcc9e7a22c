/- The scanners' plain functions: words, names, one step. -/
import Derived.Test.YtnhifhlbelogcaaDoorLexP
set_option linter.unusedVariables false
namespace Go.Proofs.YtnhifhlbelogcaaDoor
open Go Go.Eng
/-! ### words -/
def allWords : List UInt8 := [98, 111, 111, 108, 32, 99, 97, 115, 101, 32, 99, 111, 110, 115, 116, 32, 100, 101, 102, 97, 117, 108, 116, 32, 100, 111, 117, 98, 108, 101, 32, 101, 110, 117, 109, 32, 102, 108, 111, 97, 116, 32, 104, 121, 112, 101, 114, 32, 105, 110, 116, 32, 111, 112, 97, 113, 117, 101, 32, 112, 114, 111, 103, 114, 97, 109, 32, 113, 117, 97, 100, 114, 117, 112, 108, 101, 32, 115, 116, 114, 105, 110, 103, 32, 115, 116, 114, 117, 99, 116, 32, 115, 119, 105, 116, 99, 104, 32, 116, 121, 112, 101, 100, 101, 102, 32, 117, 110, 105, 111, 110, 32, 117, 110, 115, 105, 103, 110, 101, 100, 32, 118, 101, 114, 115, 105, 111, 110, 32, 118, 111, 105, 100]
def wordsL : List (List UInt8) := Lib.fields allWords
def isWord (s : List UInt8) : Bool := decide (s ∈ wordsL)
theorem gv_Fields_ (k : Nat) : gv_Fields k allWords = some wordsL := by
  unfold gv_Fields
  rw [if_pos ⟨by decide +kernel, by decide +kernel⟩]
  rfl
theorem slContains_ (L : List (List UInt8)) (s : List UInt8) (hL : L.length ≤ 1000000) : Ev (fun k => slContains k L s) (decide (s ∈ L)) := by
  have key : ∀ (d j : Nat), L.length - j = d → j ≤ L.length → ∃ r, Ev (fun k => slIndex.l1 k L s (j : Int)) r ∧ (0 ≤ r ↔ s ∈ L.drop j) := by
    intro d
    induction d with
    | zero =>
      intro j hd hj
      obtain rfl : j = L.length := by omega
      refine ⟨-1, Ev.step (g := fun k => slIndex.l1 (k + 1) L s (L.length : Int)) ?_ (fun _ => rfl), by simp⟩
      simp only [slIndex.l1]
      exact Ev.neg (by omega) Ev.ret
    | succ d ih =>
      intro j hd hj
      have hlt : j < L.length := by omega
      obtain ⟨r, hr, hi⟩ := ih (j + 1) (by omega) hlt
      have hdr : L.drop j = L[j] :: L.drop (j + 1) := List.drop_eq_getElem_cons hlt
      by_cases e : s = L[j]
      · refine ⟨j, Ev.step (g := fun k => slIndex.l1 (k + 1) L s (j : Int)) ?_ (fun _ => rfl), ?_⟩
        · simp only [slIndex.l1]
          refine Ev.pos (by omega) ?_
          refine Ev.bindc (idx_at rfl hlt) ?_
          exact Ev.pos e Ev.ret
        · exact ⟨fun _ => by rw [hdr, e]; exact List.mem_cons_self, fun _ => by omega⟩
      · refine ⟨r, Ev.step (g := fun k => slIndex.l1 (k + 1) L s (j : Int)) ?_ (fun _ => rfl), ?_⟩
        · simp only [slIndex.l1]
          refine Ev.pos (by omega) ?_
          refine Ev.bindc (idx_at rfl hlt) ?_
          refine Ev.neg e ?_
          rw [w64_succ (by omega)]
          exact hr
        · rw [hdr, List.mem_cons, hi]; exact ⟨.inr, fun h => h.resolve_left e⟩
  obtain ⟨r, hr, hi⟩ := key L.length 0 rfl (Nat.zero_le _)
  unfold slContains slIndex
  refine Ev.bind hr ?_
  exact Ev.ret.cast (by rw [Bool.eq_iff_iff]; simp [hi])
theorem lx_IsWord_ (s : List UInt8) : Ev (fun k => lx_IsWord k s) (isWord s) := by
  unfold lx_IsWord
  refine Ev.bind (Ev.all fun k => gv_Fields_ k) ?_
  exact Ev.bind (slContains_ wordsL s (by decide +kernel)) Ev.ret

theorem big_max {n : Nat} (h : n ≤ 140737488355328) : n ≤ maxLen := by simp only [maxLen]; omega
/-! ### names -/
end Go.Proofs.YtnhifhlbelogcaaDoor
