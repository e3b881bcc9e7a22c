/-
  DERIVED. GIVEN WITH THE SEED: THE CARDS: each row of YtnhifhlbelogcaaDoorRows.lean that lists a variable, with what it lists TIED to the program's text (the seventh form; the later family's looks); each row that meets fmt, with fmt's text TOLD by the authors' own Lean function (tested against real Go, not proved from fmt's source: count such statements apart). THE CARD IS WHAT COUNTS. Prove the row's statement (the work); the ties are given (YtnhifhlbelogcaaDoorTie.lean); close each card by the builder's one call (the guide's Derived/Test/ToyasCard.lean, 'card_holds'). Laid BY PROGRAM, IN A SANDBOX (cutbox-door.mjs). By AI agents, Wed Nov 11 2026. No macro, syntax, notation, axiom, sorry.
-/
import Derived.Test.YtnhifhlbelogcaaDoorRows
import GoSem.ClaimSeven
namespace Go.Proofs.YtnhifhlbelogcaaDoor
namespace Rows

/-- THE TIED CARD OF 'callboxlaw04.SyntaxBack'. -/
def syntaxBackCard : Claim7 := { stood := { row := syntaxBackRow, standIns := [], harness := (true, "32f1e5f9a5c016bf16f03923fb443da50bcc8e800634718c99669fba6a40664f"), looks := true }, kinds := [], alts := [], laidByText := true, laidKinds := [.data, .data, .data, .listed, .data], laidTests := true, laidLooks := .later }
def SyntaxBackCardSaid : Prop := Claim7.holds Tryd.pinned (.plain (OpenSpec.ofChange syntaxBackSpec)) syntaxBackCard

/-- THE TIED CARD OF 'callboxlaw04.SyntaxPlaces'. -/
def syntaxPlacesCard : Claim7 := { stood := { row := syntaxPlacesRow, standIns := [], harness := (true, "32f1e5f9a5c016bf16f03923fb443da50bcc8e800634718c99669fba6a40664f"), looks := true }, kinds := [], alts := [], laidByText := true, laidKinds := [.data, .data, .data, .listed, .data], laidTests := true, laidLooks := .later }
def SyntaxPlacesCardSaid : Prop := Claim7.holds Tryd.pinned (.plain (OpenSpec.ofChange syntaxPlacesSpec)) syntaxPlacesCard

/-- THE SECOND FORM's CARD OF 'callboxlaw04.SyntaxBack'. -/
def syntaxBackUptoCard : Claim7 := { stood := { row := syntaxBackUptoRow, standIns := [], harness := (true, "32f1e5f9a5c016bf16f03923fb443da50bcc8e800634718c99669fba6a40664f"), looks := true }, kinds := [], alts := [], laidByText := true, laidKinds := [.data, .data, .data, .listed, .data], laidTests := true, laidLooks := .later }
def SyntaxBackUptoCardSaid : Prop := Claim7.holds Tryd.pinned (.plain (OpenSpec.upto syntaxBackSpec)) syntaxBackUptoCard

/-- THE SECOND FORM's CARD OF 'callboxlaw04.SyntaxPlaces'. -/
def syntaxPlacesUptoCard : Claim7 := { stood := { row := syntaxPlacesUptoRow, standIns := [], harness := (true, "32f1e5f9a5c016bf16f03923fb443da50bcc8e800634718c99669fba6a40664f"), looks := true }, kinds := [], alts := [], laidByText := true, laidKinds := [.data, .data, .data, .listed, .data], laidTests := true, laidLooks := .later }
def SyntaxPlacesUptoCardSaid : Prop := Claim7.holds Tryd.pinned (.plain (OpenSpec.upto syntaxPlacesSpec)) syntaxPlacesUptoCard
end Rows
end Go.Proofs.YtnhifhlbelogcaaDoor
