/- What the bound on bulk gives. -/
import Derived.Test.YtpdpfiaediadgaaRows
import Derived.Test.YtpdpfiaediadgaaData
set_option linter.unusedVariables false
namespace Go.Proofs.Ytpdpfiaediadgaa
open Go Go.Eng
section
variable {H : Type} {α : Type}
theorem bulk_one (d : DataW H) : 1 ≤ Rows.uptoBulk d := by
  cases d with
  | lit l => cases l <;> simp [Rows.uptoBulk]
  | nil => simp [Rows.uptoBulk]
  | ptr d => simp [Rows.uptoBulk]
  | slice elems spare => simp [Rows.uptoBulk]
  | agg parts => simp [Rows.uptoBulk]
  | iface t d => simp [Rows.uptoBulk]
  | map entries => simp [Rows.uptoBulk]
  | held h => simp [Rows.uptoBulk]
theorem bulk_part {d : DataW H} {l : List (DataW H)} (h : d ∈ l) : Rows.uptoBulk d ≤ Rows.uptoBulkAll l := by
  induction l with
  | nil => cases h
  | cons x r ih =>
    simp only [Rows.uptoBulkAll]
    rcases List.mem_cons.1 h with e | e
    · subst e; omega
    · have := ih e; omega
theorem bulk_len (l : List (DataW H)) : l.length ≤ Rows.uptoBulkAll l := by
  induction l with
  | nil => simp [Rows.uptoBulkAll]
  | cons x r ih => have := bulk_one x; simp only [Rows.uptoBulkAll, List.length_cons]; omega
/-- What is counted of each element, all of them together. -/
theorem bulk_sum {l : List (DataW H)} {L : List α} {f : α → Nat} (hl : l.length = L.length) (h : ∀ (i : Nat) x y, L[i]? = some x → l[i]? = some y → f x ≤ Rows.uptoBulk y) : (L.map f).sum ≤ Rows.uptoBulkAll l := by
  induction L generalizing l with
  | nil => simp
  | cons x L ih =>
    cases l with
    | nil => simp at hl
    | cons y l =>
      have h1 := h 0 x y rfl rfl
      have h2 := ih (l := l) (by simpa using hl) fun i a b ha hb => h (i + 1) a b (by simpa using ha) (by simpa using hb)
      simp only [List.map_cons, List.sum_cons, Rows.uptoBulkAll]
      omega
theorem listD_bulk {OK : α → DataW H → Prop} {L : List α} {d : DataW H} (h : ListD OK L d) {f : α → Nat} (hf : ∀ x y, OK x y → f x ≤ Rows.uptoBulk y) : (L.map f).sum ≤ Rows.uptoBulk d ∧ L.length ≤ Rows.uptoBulk d := by
  rcases h with ⟨rfl, _⟩ | ⟨els, sp, rfl, hl, hk⟩
  · simp
  · have h1 := bulk_sum (f := f) hl fun i x y a b => hf x y (hk i x y a b)
    have h2 := bulk_len els
    simp only [Rows.uptoBulk]
    omega
theorem bulk_bound {l : List (DataW H)} (hk : Rows.uptoSmall H l = true) : Rows.uptoBulkAll l ≤ 1048576 := of_decide_eq_true hk
end
end Go.Proofs.Ytpdpfiaediadgaa
