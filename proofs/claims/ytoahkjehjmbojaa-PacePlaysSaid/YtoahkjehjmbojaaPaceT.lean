/- Steps of a play that are handed in. -/
import Derived.Test.YtoahkjehjmbojaaPaceE
import Derived.Test.YtoahkjehjmbojaaPaceO
namespace Go.Proofs.Ytoahkjehjmbojaa
open Go Go.Eng Go.RowKit Go.WideShapes Go.ChangeShapes Go.Deep
set_option linter.unusedVariables false
section
variable {H : Type} {enc : TypeId × Value → H} {w : World} {base : Nat} {spare : Nat → Bool} {held : Bool}
theorem len2 {α : Type} : ∀ {l : List α}, l.length = 2 → ∃ a b, l = [a, b]
  | [a, b], _ => ⟨a, b, rfl⟩
theorem k4 : Try.prog.cellsOf 4 = 1 := by kernel_rfl
theorem k67 : Try.prog.cellsOf 67 = 2 := by kernel_rfl
theorem tk_of_trod {n : Nat} {cs : List Value} {y : DataW H × List MemPlace} (h : DataW.trod enc Try.prog w base spare held n 67 cs = some y) : ∃ x : Tk, i64 x.n ∧ cs = x.cs := by
  obtain ⟨xs, n', _, _, hl, hxl, hf⟩ := DataW.trod_struct Try.underlying67 h
  rw [k67] at hl
  obtain ⟨c0, c1, rfl⟩ := len2 hl
  obtain ⟨y0, y1, rfl⟩ := len2 hxl
  have f0 := fld hf 0 4 0 1 rfl k4 rfl
  have f1 := fld hf 1 3 1 1 rfl k3 rfl
  obtain ⟨a0, e0, _⟩ := DataW.trod_bool Try.underlying4 f0
  obtain ⟨a1, e1, _, w1⟩ := DataW.trod_int Try.underlying3 f1
  cases e0; cases e1
  exact ⟨⟨a0, a1⟩, wf_i64 w1, rfl⟩
end
end Go.Proofs.Ytoahkjehjmbojaa
