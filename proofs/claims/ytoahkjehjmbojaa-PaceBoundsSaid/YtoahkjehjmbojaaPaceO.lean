/- Paces and lists of numbers that are handed in. -/
import Derived.Test.YtoahkjehjmbojaaPaceD
import Derived.Test.YtoahkjehjmbojaaRow
namespace Go.Proofs.Ytoahkjehjmbojaa
open Go Go.Eng Go.RowKit Go.WideShapes Go.ChangeShapes Go.Deep
set_option linter.unusedVariables false
section
variable {H : Type} {enc : TypeId × Value → H} {w : World} {base : Nat} {spare : Nat → Bool} {held : Bool}
theorem len3 {α : Type} : ∀ {l : List α}, l.length = 3 → ∃ a b c, l = [a, b, c]
  | [a, b, c], _ => ⟨a, b, c, rfl⟩
theorem wf_i64 {n : Int} (h : (Lit.int .i64 n).wf = true) : i64 n := by
  simp only [Lit.wf, Bool.and_eq_true, decide_eq_true_eq] at h
  unfold i64
  have h1 : IntKind.i64.min = -9223372036854775808 := rfl
  have h2 : IntKind.i64.max = 9223372036854775807 := rfl
  rw [h1, h2] at h
  exact h
theorem k3 : Try.prog.cellsOf 3 = 1 := by kernel_rfl
theorem fld {fs : Array Field} {m : Nat} {cs : List Value} {xs : List (DataW H × List MemPlace)} (hf : ∀ (i : Nat) (f : Field), fs[i]? = some f → DataW.trod enc Try.prog w base spare held m f.type ((cs.drop f.offset).take (Try.prog.cellsOf f.type)) = xs[i]?)
    (i t o k : Nat) (h1 : (fs[i]?).map (fun f => (f.type, f.offset)) = some (t, o)) (hk : Try.prog.cellsOf t = k) {x : DataW H × List MemPlace} (hx : xs[i]? = some x) : DataW.trod enc Try.prog w base spare held m t ((cs.drop o).take k) = some x := by
  cases hi : fs[i]? with
  | none => rw [hi] at h1; cases h1
  | some f =>
    rw [hi] at h1
    simp only [Option.map_some, Option.some.injEq, Prod.mk.injEq] at h1
    have := hf i f hi
    rw [h1.1, h1.2, hk, hx] at this
    exact this
theorem num_of_trod {n : Nat} {cs : List Value} {y : DataW H × List MemPlace} (h : DataW.trod enc Try.prog w base spare held n 3 cs = some y) : ∃ z : Int, i64 z ∧ cs = Num.cs z := by
  obtain ⟨a0, e0, _, w0⟩ := DataW.trod_int Try.underlying3 h
  exact ⟨a0, wf_i64 w0, e0⟩
theorem k53 : Try.prog.cellsOf 53 = 3 := by kernel_rfl
set_option maxRecDepth 100000 in
theorem open_pace {r : Reach} {b0 : Nat} {v : Value} {d : DataW H} {ps : List MemPlace} (hval : Value.okWide Try.prog w r b0 53 v) (hd : DataW.Trod enc Try.prog w base spare held 53 v d ps) :
    ∃ b c t : Int, v = .agg #[.int .i64 b, .int .i64 c, .int .i64 t] ∧ i64 b ∧ i64 c ∧ i64 t := by
  obtain ⟨cs, rfl, hsz⟩ := okWide_struct Try.underlying53 hval
  obtain ⟨fuel, hf⟩ := hd
  obtain ⟨xs, n', _, _, hl, hxl, hg⟩ := DataW.trod_struct Try.underlying53 hf
  rw [k53] at hl
  obtain ⟨c0, c1, c2, e⟩ := len3 hl
  obtain ⟨y0, y1, y2, rfl⟩ := len3 hxl
  rw [e] at hg
  have f0 := fld hg 0 3 0 1 rfl k3 rfl
  have f1 := fld hg 1 3 1 1 rfl k3 rfl
  have f2 := fld hg 2 3 2 1 rfl k3 rfl
  obtain ⟨a0, e0, _, w0⟩ := DataW.trod_int Try.underlying3 f0
  obtain ⟨a1, e1, _, w1⟩ := DataW.trod_int Try.underlying3 f1
  obtain ⟨a2, e2, _, w2⟩ := DataW.trod_int Try.underlying3 f2
  cases e0; cases e1; cases e2
  refine ⟨a0, a1, a2, ?_, wf_i64 w0, wf_i64 w1, wf_i64 w2⟩
  simp only [Value.cells] at e
  rw [← Array.toArray_toList (xs := cs), e]
end
theorem own : ownKnob Try.prog.godebug = none := by kernel_rfl
theorem laid : laidOutB Try.prog = true := by kernel_rfl
end Go.Proofs.Ytoahkjehjmbojaa
