/- A script that is handed in. -/
import Derived.Test.YtoahkjehjmbojaaAirF
import Derived.Test.YtoahkjehjmbojaaRow
namespace Go.Proofs.Ytoahkjehjmbojaa
open Go Go.Eng Go.RowKit Go.WideShapes Go.ChangeShapes Go.Deep
set_option linter.unusedVariables false
section
variable {H : Type} {enc : TypeId × Value → H} {w : World} {base : Nat} {spare : Nat → Bool} {held : Bool}
theorem len3 {α : Type} : ∀ {l : List α}, l.length = 3 → ∃ a b c, l = [a, b, c]
  | [a, b, c], _ => ⟨a, b, c, rfl⟩
theorem len5 {α : Type} : ∀ {l : List α}, l.length = 5 → ∃ a b c d e, l = [a, b, c, d, e]
  | [a, b, c, d, e], _ => ⟨a, b, c, d, e, rfl⟩
theorem len7 {α : Type} : ∀ {l : List α}, l.length = 7 → ∃ a b c d e f g, l = [a, b, c, d, e, f, g]
  | [a, b, c, d, e, f, g], _ => ⟨a, b, c, d, e, f, g, rfl⟩
theorem wf_i64 {n : Int} (h : (Lit.int .i64 n).wf = true) : i64 n := by
  simp only [Lit.wf, Bool.and_eq_true, decide_eq_true_eq] at h
  unfold i64
  have h1 : IntKind.i64.min = -9223372036854775808 := rfl
  have h2 : IntKind.i64.max = 9223372036854775807 := rfl
  rw [h1, h2] at h
  exact h
theorem k3 : Try.prog.cellsOf 3 = 1 := by kernel_rfl
theorem k9 : Try.prog.cellsOf 9 = 1 := by kernel_rfl
theorem k37 : Try.prog.cellsOf 37 = 3 := by kernel_rfl
theorem k39 : Try.prog.cellsOf 39 = 7 := by kernel_rfl
theorem fld {fs : Array Field} {m : Nat} {cs : List Value} {xs : List (DataW H × List MemPlace)} (hf : ∀ (i : Nat) (f : Field), fs[i]? = some f → DataW.trod enc Try.prog w base spare held m f.type ((cs.drop f.offset).take (Try.prog.cellsOf f.type)) = xs[i]?)
    (i t o k : Nat) (h1 : (fs[i]?).map (fun f => (f.type, f.offset)) = some (t, o)) (hk : Try.prog.cellsOf t = k) {x : DataW H × List MemPlace} (hx : xs[i]? = some x) : DataW.trod enc Try.prog w base spare held m t ((cs.drop o).take k) = some x := by
  cases hi : fs[i]? with
  | none => rw [hi] at h1; cases h1
  | some f =>
    rw [hi] at h1
    simp only [Option.map_some, Option.some.injEq, Prod.mk.injEq] at h1
    have := hf i f hi
    rw [h1.1, h1.2, hk, hx] at this
    exact this
theorem pk_of_trod {n : Nat} {cs : List Value} {y : DataW H × List MemPlace} (h : DataW.trod enc Try.prog w base spare held n 37 cs = some y) : ∃ x : Pk, (i64 x.f ∧ i64 x.t ∧ x.d.size ≤ maxLen) ∧ cs = x.cs := by
  obtain ⟨xs, n', _, _, hl, hxl, hf⟩ := DataW.trod_struct Try.underlying37 h
  rw [k37] at hl
  obtain ⟨c0, c1, c2, rfl⟩ := len3 hl
  obtain ⟨y0, y1, y2, rfl⟩ := len3 hxl
  have f0 := fld hf 0 3 0 1 rfl k3 rfl
  have f1 := fld hf 1 3 1 1 rfl k3 rfl
  have f2 := fld hf 2 9 2 1 rfl k9 rfl
  obtain ⟨a0, e0, _, w0⟩ := DataW.trod_int Try.underlying3 f0
  obtain ⟨a1, e1, _, w1⟩ := DataW.trod_int Try.underlying3 f1
  obtain ⟨a2, e2, _, w2⟩ := DataW.trod_string Try.underlying9 f2
  cases e0; cases e1; cases e2
  exact ⟨⟨a0, a1, a2⟩, ⟨wf_i64 w0, wf_i64 w1, w2⟩, rfl⟩
theorem stp_of_trod {n : Nat} {cs : List Value} {y : DataW H × List MemPlace} (h : DataW.trod enc Try.prog w base spare held n 39 cs = some y) : ∃ o : Stp, o.Ok ∧ cs = o.cs := by
  obtain ⟨xs, n', _, _, hl, hxl, hf⟩ := DataW.trod_struct Try.underlying39 h
  rw [k39] at hl
  obtain ⟨c0, c1, c2, c3, c4, c5, c6, rfl⟩ := len7 hl
  obtain ⟨y0, y1, y2, y3, y4, rfl⟩ := len5 hxl
  have f0 := fld hf 0 3 0 1 rfl k3 rfl
  have f1 := fld hf 1 3 1 1 rfl k3 rfl
  have f2 := fld hf 2 3 2 1 rfl k3 rfl
  have f3 := fld hf 3 3 3 1 rfl k3 rfl
  have f4 := fld hf 4 37 4 3 rfl k37 rfl
  obtain ⟨a0, e0, _, w0⟩ := DataW.trod_int Try.underlying3 f0
  obtain ⟨a1, e1, _, w1⟩ := DataW.trod_int Try.underlying3 f1
  obtain ⟨a2, e2, _, w2⟩ := DataW.trod_int Try.underlying3 f2
  obtain ⟨a3, e3, _, w3⟩ := DataW.trod_int Try.underlying3 f3
  obtain ⟨x, ⟨h1, h2, h3⟩, e4⟩ := pk_of_trod f4
  cases e0; cases e1; cases e2; cases e3
  obtain ⟨xf, xt, xd⟩ := x
  cases e4
  exact ⟨⟨a0, a1, a2, a3, xf, xt, xd⟩, ⟨wf_i64 w0, wf_i64 w1, wf_i64 w2, wf_i64 w3, h1, h2, Nat.le_trans h3 (by decide)⟩, rfl⟩
end
theorem own : ownKnob Try.prog.godebug = none := by kernel_rfl
theorem laid : laidOutB Try.prog = true := by kernel_rfl
end Go.Proofs.Ytoahkjehjmbojaa
