/- What ShelfTypes is handed. -/
import Derived.Test.YtoahkjehjmbojaaTE
set_option linter.unusedVariables false
namespace Go.Proofs.Ytoahkjehjmbojaa
open Go Go.Eng Go.RowKit Go.WideShapes Go.ChangeShapes Go.Deep
section
variable {H : Type} {enc : TypeId × Value → H} {w : World} {P : Program} {t : TypeId}
theorem open_i64 (ht : P.underlying t = some (.int .i64)) {q : Go.Reach} {b0 : Nat} {v : Value} {d : DataW H} {ps : List MemPlace} (hval : Value.okWide P w q b0 t v) (hd : DataW.Trod enc P w 0 (fun _ => true) true t v d ps) : ∃ x : Int, v = .int .i64 x ∧ In64 x := by
  obtain ⟨a, rfl, _, _, wf⟩ := open_int ht hval hd
  exact ⟨a, rfl, wf_In64 wf⟩
theorem open_text (ht : P.underlying t = some .string) {q : Go.Reach} {b0 : Nat} {v : Value} {d : DataW H} {ps : List MemPlace} (hval : Value.okWide P w q b0 t v) (hd : DataW.Trod enc P w 0 (fun _ => true) true t v d ps) : ∃ s : List UInt8, v = .string (bs s) := by
  obtain ⟨s, rfl⟩ := okWide_string ht hval
  obtain ⟨l, rfl⟩ := bs_ex s
  exact ⟨l, rfl⟩
end
theorem law_types {w : World} {x0 : Int} {s : List UInt8} : Calls Try.prog 9 [.int .i64 x0, .string (bs s)].toArray w fun e w' => e = .returned (.bool true) ∧ St w (fun _ => False) w' [] :=
  (law_Types_calls 50 x0 s (types_all x0 s)).mono (fun _ _ h => ⟨h.1, h.2.toFalse⟩)
theorem own : ownKnob Try.prog.godebug = none := by kernel_rfl
theorem laid : laidOutB Try.prog = true := by kernel_rfl
end Go.Proofs.Ytoahkjehjmbojaa
