/- How a lexer's row begins: what its list of variables gives, a world for the witness. -/
import Derived.Test.YtpdpfiaediadgaaDoorCards
import Derived.Test.YtpdpfiaediadgaaDoorTie
import Derived.Test.YtpdpfiaediadgaaDoorLexG
import Derived.Test.YtpdpfiaediadgaaDoorRow
import Derived.WalkKit
import Derived.ProofKit
import Derived.OpenShut
import Derived.ChangeMaps5
import Derived.Deep.DeepHandedRow
import Derived.Deep.DeepWitnessRowRef
import Derived.Lib.LaidTab
import Derived.Lib.LaidU8
namespace Go.Proofs.YtpdpfiaediadgaaDoor
open Go Go.Eng Go.ChangeShapes Go.WideShapes Go.ChangeAt Go.RowKit
theorem own : ownKnob Tryd.prog.godebug = none := by kernel_rfl
theorem laidOut : laidOutB Tryd.prog = true := by kernel_rfl
theorem gAType : (Tryd.prog.globals[0]?).map (·.type) = some 59 := by kernel_rfl
theorem cells5 : Tryd.prog.cellsOf 5 = 1 := by kernel_rfl
theorem cells59 : Tryd.prog.cellsOf 59 = 256 := by kernel_rfl
theorem tabData_eq : (Rows.laid_strings_asciiSpace : DataW Unit) = Lib.tabData .u8 Lib.asciiSpaceTab := by kernel_rfl
def FGl : Nat → Prop := fun b => b = 0 ∨ b = 2
theorem globs {W : World} (hL : laidMet Tryd.prog Rows.lexNamesRow.laid W) (hsh : W.ShapedOpen Tryd.prog) : Glob FGl W ∧ ∀ b, FGl b → NK W [] b := by
  have h0 : Lib.TabIs Tryd.prog W "strings.asciiSpace" .u8 Lib.asciiSpaceTab := by
    obtain ⟨g, t, cs, fuel, p, h1, h2, h3, h4⟩ := Lib.laidMet.reads hL (.tail _ (.head _))
    obtain rfl := Option.some.inj (gA.symm.trans h1)
    obtain rfl := Option.some.inj (gAType.symm.trans h2)
    rw [tabData_eq] at h4
    unfold Lib.TabIs
    rw [h3, ← Lib.cells_of_tab Tryd.underlying59 Tryd.underlying5 cells5 cells59 h4]
  have h2 : ∃ m, W.cell? ⟨2, 0, none⟩ = some (.int .i64 m) := Tryd.laysM143.s1_3 W hsh
  refine ⟨⟨.inl rfl, .inr rfl, h2, h0⟩, ?_⟩
  have c0 := h0.cell gA 0 (by rw [Lib.asciiSpaceTab_length]; decide)
  have lt : ∀ {b o : Nat} {v : Value}, W.cell? ⟨b, o, none⟩ = some v → b < W.heap.size := by
    intro b o v h
    rcases Nat.lt_or_ge b W.heap.size with hl | hl
    · exact hl
    · unfold World.cell? at h
      simp [Array.getElem?_eq_none hl] at h
  obtain ⟨m, hm⟩ := h2
  rintro b (rfl | rfl)
  · exact ⟨by simp [keys], lt c0⟩
  · exact ⟨by simp [keys], lt hm⟩

/-- A WORLD FOR THE WITNESS. -/
noncomputable def laidWorld (os : Os) : World :=
  let N := (World.settled Tryd.prog os).heap.size
  let w0 := World.holding Tryd.prog os ⟨#[
    .cells #[.int .u16 9, .int .u16 13, .int .u16 1, .int .u16 32, .int .u16 133, .int .u16 101, .int .u16 160, .int .u16 5760, .int .u16 5600, .int .u16 8192, .int .u16 8202, .int .u16 1, .int .u16 8232, .int .u16 8233, .int .u16 1, .int .u16 8239, .int .u16 8287, .int .u16 48, .int .u16 12288, .int .u16 12288, .int .u16 1] 82,
    .cells #[.slice (some ⟨N, 0, none⟩) 7 7, .slice none 0 0, .int .i64 2] 79], #[], []⟩
  let put (h : Array Obj) (g : Nat) (cs : Array Value) : Array Obj := h.modify g fun
    | .cells _ t frozen => .cells cs t frozen
    | o => o
  let h1 := put w0.heap 0 (Lib.asciiSpaceTab.map fun z => Value.int .u8 z).toArray
  let h2 := put h1 1 #[.pointer (some ⟨N + 1, 0, none⟩)]
  { w0 with heap := h2 }
end Go.Proofs.YtpdpfiaediadgaaDoor
