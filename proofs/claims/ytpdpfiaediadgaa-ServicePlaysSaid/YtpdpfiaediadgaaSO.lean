/- Arguments of the services' laws that are handed in. -/
import Derived.Test.YtpdpfiaediadgaaSX
import Derived.Test.YtpdpfiaediadgaaOpen3
set_option linter.unusedVariables false
namespace Go.Proofs.Ytpdpfiaediadgaa
open Go Go.Eng Go.RowKit Go.WideShapes Go.ChangeShapes Go.Deep
section
variable {H : Type} {enc : TypeId × Value → H} {w : World}
set_option maxRecDepth 100000 in
theorem open_int {q : Go.Reach} {b0 : Nat} {v : Value} {d : DataW H} {ps : List MemPlace} (hval : Value.okWide Try.prog w q b0 3 v) (hd : DataW.Trod enc Try.prog w 0 (fun _ => true) true 3 v d ps) : ∃ z : Int, In64 z ∧ v = .int .i64 z := by
  obtain ⟨fuel, hf⟩ := hd
  obtain ⟨z, hz, e⟩ := int_trod Try.underlying3 hf
  obtain ⟨z', rfl⟩ := okWide_int Try.underlying3 hval
  simp [Value.cells] at e
  subst e
  exact ⟨_, hz, rfl⟩
set_option maxRecDepth 100000 in
theorem open_ints {q : Go.Reach} {b0 : Nat} {v : Value} {d : DataW H} {ps : List MemPlace} (hval : Value.okWide Try.prog w q b0 49 v) (hd : DataW.Trod enc Try.prog w 0 (fun _ => true) true 49 v d ps) :
    ∃ (A : Option Addr) (cap : Nat) (L : List Int), v = .slice A L.length cap ∧ SlR (Rp.int .i64) w (Old w) A cap L ∧ ∀ x ∈ L, In64 x :=
  slr_Trod Try.underlying49 (Rp.int .i64) (by kernel_rfl) (by decide) In64 (fun n cs y h => by obtain ⟨z, hz, e⟩ := int_trod Try.underlying3 h; exact ⟨z, hz, e⟩) hval hd
end
theorem slr_len {α : Type} {r : Rp α} {w : World} {F : Nat → Prop} {A : Option Addr} {c : Nat} {L : List α} (h : SlR r w F A c L) : L.length ≤ big := Nat.le_trans h.cap h.max
theorem law_finds {w : World} {a0 a2 a3 : Int} {L : List Int} {A : Option Addr} {c : Nat} (hR : SlR (Rp.int .i64) w (Old w) A c L) (h0 : In64 a0) (h1 : ∀ x ∈ L, In64 x) :
    Calls Try.prog 8 [.int .i64 a0, .slice A L.length c, .int .i64 a2, .int .i64 a3].toArray w fun e w' => e = .returned (.bool true) ∧ St w (fun _ => False) w' [] := by
  obtain ⟨k, hk⟩ := finds_true a0 L a2 a3 h0 h1 (slr_len hR)
  exact (law_Finds_calls k a0 L a2 a3 hR Old.nk hk).mono (fun _ _ h => ⟨h.1, h.2.toFalse⟩)
theorem own : ownKnob Try.prog.godebug = none := by kernel_rfl
theorem laid : laidOutB Try.prog = true := by kernel_rfl
end Go.Proofs.Ytpdpfiaediadgaa
