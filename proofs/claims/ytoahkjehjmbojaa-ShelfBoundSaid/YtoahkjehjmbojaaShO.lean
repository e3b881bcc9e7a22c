/- Scripts of ShelfBound that are handed in. -/
import Derived.Test.YtoahkjehjmbojaaZW
import Derived.Test.YtoahkjehjmbojaaOpen
set_option linter.unusedVariables false
namespace Go.Proofs.Ytoahkjehjmbojaa
open Go Go.Eng Go.RowKit Go.WideShapes Go.ChangeShapes Go.Deep
section
variable {H : Type} {enc : TypeId × Value → H} {w : World}
theorem len3' {α : Type} : ∀ {l : List α}, l.length = 3 → ∃ a b c, l = [a, b, c]
  | [a, b, c], _ => ⟨a, b, c, rfl⟩
theorem k124 : Try.prog.cellsOf 124 = 3 := by kernel_rfl
set_option maxRecDepth 100000 in
theorem act_of_trod {n : Nat} {cs : List Value} {y : DataW H × List MemPlace} (h : DataW.trod enc Try.prog w 0 (fun _ => true) true n 124 cs = some y) :
    ∃ x : Act, True ∧ Act.rp.rd w (Old w) x cs := by
  obtain ⟨xs, n', _, _, hl, hxl, hg⟩ := DataW.trod_struct Try.underlying124 h
  rw [k124] at hl
  obtain ⟨c0, c1, c2, rfl⟩ := len3' hl
  obtain ⟨y0, y1, y2, rfl⟩ := len3' hxl
  have f0 := fld hg 0 3 0 1 rfl (by kernel_rfl) rfl
  have f1 := fld hg 1 3 1 1 rfl (by kernel_rfl) rfl
  have f2 := fld hg 2 3 2 1 rfl (by kernel_rfl) rfl
  obtain ⟨a0, _, e0⟩ := int_trod Try.underlying3 f0
  obtain ⟨a1, _, e1⟩ := int_trod Try.underlying3 f1
  obtain ⟨a2, _, e2⟩ := int_trod Try.underlying3 f2
  cases e0; cases e1; cases e2
  exact ⟨⟨a0, a1, a2⟩, trivial, rfl⟩
set_option maxRecDepth 100000 in
theorem open_acts {q : Go.Reach} {b0 : Nat} {v : Value} {d : DataW H} {ps : List MemPlace} (hval : Value.okWide Try.prog w q b0 119 v) (hd : DataW.Trod enc Try.prog w 0 (fun _ => true) true 119 v d ps) :
    ∃ (A : Option Addr) (cap : Nat) (L : List Act), v = .slice A L.length cap ∧ SlR Act.rp w (Old w) A cap L ∧ ∀ x ∈ L, True :=
  slr_Trod Try.underlying119 Act.rp (by kernel_rfl) (by decide) (fun _ => True) (fun n cs y h => act_of_trod h) hval hd
set_option maxRecDepth 100000 in
theorem open_int {q : Go.Reach} {b0 : Nat} {v : Value} {d : DataW H} {ps : List MemPlace} (hval : Value.okWide Try.prog w q b0 3 v) (hd : DataW.Trod enc Try.prog w 0 (fun _ => true) true 3 v d ps) : ∃ z : Int, In64 z ∧ v = .int .i64 z := by
  obtain ⟨fuel, hf⟩ := hd
  obtain ⟨z, hz, e⟩ := int_trod Try.underlying3 hf
  obtain ⟨z', rfl⟩ := okWide_int Try.underlying3 hval
  simp [Value.cells] at e
  subst e
  exact ⟨_, hz, rfl⟩
end
theorem law_bound {w : World} {z : Int} {L : List Act} {A : Option Addr} {c : Nat} (hR : SlR Act.rp w (Old w) A c L) (hz : In64 z) :
    Calls Try.prog 11 [.int .i64 z, .slice A L.length c].toArray w fun e w' => e = .returned (.bool true) ∧ St w (fun _ => False) w' [] := by
  obtain ⟨k, hk⟩ := bound_true z L hz
  exact (law_Bound_calls k z L hR Old.nk hk).mono (fun _ _ h => ⟨h.1, h.2.toFalse⟩)
theorem own : ownKnob Try.prog.godebug = none := by kernel_rfl
theorem laid : laidOutB Try.prog = true := by kernel_rfl
end Go.Proofs.Ytoahkjehjmbojaa
