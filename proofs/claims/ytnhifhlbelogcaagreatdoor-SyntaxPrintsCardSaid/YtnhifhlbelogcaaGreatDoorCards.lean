/-
  DERIVED. GIVEN WITH THE SEED: THE CARDS: each row of YtnhifhlbelogcaaGreatDoorRows.lean that lists a variable, with what it lists TIED to the program's text (the seventh form; the later family's looks); each row that meets fmt, with fmt's text TOLD by the authors' own Lean function (tested against real Go, not proved from fmt's source: count such statements apart). THE CARD IS WHAT COUNTS. Prove the row's statement (the work); the ties are given (YtnhifhlbelogcaaGreatDoorTie.lean); close each card by the builder's one call (the guide's Derived/Test/ToyasCard.lean, 'card_holds'). Laid BY PROGRAM, IN A SANDBOX (cutbox-door.mjs). By AI agents, Wed Nov 11 2026. No macro, syntax, notation, axiom, sorry.
-/
import Derived.Test.YtnhifhlbelogcaaGreatDoorRows
import GoSem.ClaimSeven
namespace Go.Proofs.YtnhifhlbelogcaaGreatDoor
namespace Rows

/-- THE TIED CARD OF 'callboxlaw04.SyntaxParses'. -/
def syntaxParsesCard : Claim7 := { stood := { row := syntaxParsesRow, standIns := [], harness := (true, "114e0e9e6d33ca1d5345ed0565e532c3a69861f592345b04d19c7512021b0dc9"), looks := true }, kinds := [], alts := [], laidByText := true, laidKinds := [.data, .data, .data, .listed, .data], laidTests := true, laidLooks := .later }
def SyntaxParsesCardSaid : Prop := Claim7.holds Tryz.pinned (.plain (OpenSpec.ofChange syntaxParsesSpec)) syntaxParsesCard

/-- THE TIED CARD OF 'callboxlaw04.SyntaxNear'. -/
def syntaxNearCard : Claim7 := { stood := { row := syntaxNearRow, standIns := [], harness := (true, "114e0e9e6d33ca1d5345ed0565e532c3a69861f592345b04d19c7512021b0dc9"), looks := true }, kinds := [], alts := [], laidByText := true, laidKinds := [.data, .data, .data, .listed, .data], laidTests := true, laidLooks := .later }
def SyntaxNearCardSaid : Prop := Claim7.holds Tryz.pinned (.plain (OpenSpec.ofChange syntaxNearSpec)) syntaxNearCard

/-- THE TIED CARD OF 'callboxlaw04.SyntaxPrints'. -/
def syntaxPrintsCard : Claim7 := { stood := { row := syntaxPrintsRow, standIns := [], harness := (true, "114e0e9e6d33ca1d5345ed0565e532c3a69861f592345b04d19c7512021b0dc9"), looks := true }, kinds := [], alts := [], laidByText := true, laidKinds := [.data, .data, .data, .listed, .data], laidTests := true, laidLooks := .later }
def SyntaxPrintsCardSaid : Prop := Claim7.holds Tryz.pinned (.plain (OpenSpec.ofChange syntaxPrintsSpec)) syntaxPrintsCard

/-- THE SECOND FORM's CARD OF 'callboxlaw04.SyntaxParses'. -/
def syntaxParsesUptoCard : Claim7 := { stood := { row := syntaxParsesUptoRow, standIns := [], harness := (true, "114e0e9e6d33ca1d5345ed0565e532c3a69861f592345b04d19c7512021b0dc9"), looks := true }, kinds := [], alts := [], laidByText := true, laidKinds := [.data, .data, .data, .listed, .data], laidTests := true, laidLooks := .later }
def SyntaxParsesUptoCardSaid : Prop := Claim7.holds Tryz.pinned (.plain (OpenSpec.upto syntaxParsesSpec)) syntaxParsesUptoCard

/-- THE SECOND FORM's CARD OF 'callboxlaw04.SyntaxNear'. -/
def syntaxNearUptoCard : Claim7 := { stood := { row := syntaxNearUptoRow, standIns := [], harness := (true, "114e0e9e6d33ca1d5345ed0565e532c3a69861f592345b04d19c7512021b0dc9"), looks := true }, kinds := [], alts := [], laidByText := true, laidKinds := [.data, .data, .data, .listed, .data], laidTests := true, laidLooks := .later }
def SyntaxNearUptoCardSaid : Prop := Claim7.holds Tryz.pinned (.plain (OpenSpec.upto syntaxNearSpec)) syntaxNearUptoCard

/-- THE SECOND FORM's CARD OF 'callboxlaw04.SyntaxPrints'. -/
def syntaxPrintsUptoCard : Claim7 := { stood := { row := syntaxPrintsUptoRow, standIns := [], harness := (true, "114e0e9e6d33ca1d5345ed0565e532c3a69861f592345b04d19c7512021b0dc9"), looks := true }, kinds := [], alts := [], laidByText := true, laidKinds := [.data, .data, .data, .listed, .data], laidTests := true, laidLooks := .later }
def SyntaxPrintsUptoCardSaid : Prop := Claim7.holds Tryz.pinned (.plain (OpenSpec.upto syntaxPrintsSpec)) syntaxPrintsUptoCard
end Rows
end Go.Proofs.YtnhifhlbelogcaaGreatDoor
