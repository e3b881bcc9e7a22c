/-
  No cell of these rows narrows 'for every input' (looked for: loops, veiled, ifaces, maps, wideKeys, modest, calm, conditions, laid).
  DERIVED. THE GIVEN ROWS OF THIS SEAT. 9 by the template 'for every input the law returns true; each argument reads behind the call as it read before'; 0 by the template 'total and deterministic' (their statements: YtoahkjehjmbojaaTotals.lean).
  GIVEN WITH THE SEED: the statements are not yours to turn. If you find one false, say at which input.
  Laid BY PROGRAM, IN A SANDBOX (cutbox-rows.mjs): the forced cells as the released guide's own fill.sh prints them over the translation 175821a9ea2e66f1… (all of the seat's roots in one cut). By AI agents, Wed Nov 11 2026. No macro, syntax, notation, axiom, sorry.
-/
import Derived.Test.YtoahkjehjmbojaaChecked
import GoSem.Claim
import GoSem.ClaimJoined
import GoSem.ClaimMapViews
import Derived.JoinedTies
import Derived.KernelRfl
namespace Go.Proofs.Ytoahkjehjmbojaa
/- THE CELL 'sum', in the pinned program and in every row, IS THE sha256 OF THE DUMP (.gsa) THAT YtoahkjehjmbojaaProg.lean LOADS. Nothing in Lean hashes anything: it is a label: what it is worth is what the hold of that sum in a sandbox is worth. -/
noncomputable def Try.pinned : Pinned := { name := "ytoahkjehjmbojaa", sum := "175821a9ea2e66f1b5cf4b27fef0e55629623f93c44801bf5d070e9f65557ece", checked := Try.checked }
namespace Rows
def none {H : Type} : Left H := { results := [], args := [] }

/-- 'callboxlaw13.AirPlays': WHATEVER THE INPUT: true; the input reads as it did. -/
def airPlaysSpec : ChangeSpec := { name := "airPlays", fn := fun _ => fun
  | [d] => { results := [.lit (.bool true)], args := [d] }
  | _ => none }
def airPlaysRow : OpenClaim := { program := "ytoahkjehjmbojaa", sum := "175821a9ea2e66f1b5cf4b27fef0e55629623f93c44801bf5d070e9f65557ece", func := "callbox/callboxlaw13.AirPlays", spec := "airPlays", apart := false }
def AirPlaysSaid : Prop := airPlaysRow.holds Try.pinned (OpenSpec.ofChange airPlaysSpec)

/-- ITS FALSE NEIGHBOUR: 'it returns false'. Refute it at one input. -/
def airPlaysWrong : ChangeSpec := { name := "airPlays", fn := fun _ => fun
  | [d] => { results := [.lit (.bool false)], args := [d] }
  | _ => none }
def AirPlaysWrongFalsely : Prop := airPlaysRow.holds Try.pinned (OpenSpec.ofChange airPlaysWrong)

/-- 'callboxlaw13.AirCounts': WHATEVER THE INPUT: true; the input reads as it did. -/
def airCountsSpec : ChangeSpec := { name := "airCounts", fn := fun _ => fun
  | [d] => { results := [.lit (.bool true)], args := [d] }
  | _ => none }
def airCountsRow : OpenClaim := { program := "ytoahkjehjmbojaa", sum := "175821a9ea2e66f1b5cf4b27fef0e55629623f93c44801bf5d070e9f65557ece", func := "callbox/callboxlaw13.AirCounts", spec := "airCounts", apart := false }
def AirCountsSaid : Prop := airCountsRow.holds Try.pinned (OpenSpec.ofChange airCountsSpec)

/-- ITS FALSE NEIGHBOUR: 'it returns false'. Refute it at one input. -/
def airCountsWrong : ChangeSpec := { name := "airCounts", fn := fun _ => fun
  | [d] => { results := [.lit (.bool false)], args := [d] }
  | _ => none }
def AirCountsWrongFalsely : Prop := airCountsRow.holds Try.pinned (OpenSpec.ofChange airCountsWrong)

/-- 'callboxlaw16.PaceWaits': WHATEVER THE INPUT: true; the input reads as it did. -/
def paceWaitsSpec : ChangeSpec := { name := "paceWaits", fn := fun _ => fun
  | [d1, d2] => { results := [.lit (.bool true)], args := [d1, d2] }
  | _ => none }
def paceWaitsRow : OpenClaim := { program := "ytoahkjehjmbojaa", sum := "175821a9ea2e66f1b5cf4b27fef0e55629623f93c44801bf5d070e9f65557ece", func := "callbox/callboxlaw16.PaceWaits", spec := "paceWaits", apart := false }
def PaceWaitsSaid : Prop := paceWaitsRow.holds Try.pinned (OpenSpec.ofChange paceWaitsSpec)

/-- ITS FALSE NEIGHBOUR: 'it returns false'. Refute it at one input. -/
def paceWaitsWrong : ChangeSpec := { name := "paceWaits", fn := fun _ => fun
  | [d1, d2] => { results := [.lit (.bool false)], args := [d1, d2] }
  | _ => none }
def PaceWaitsWrongFalsely : Prop := paceWaitsRow.holds Try.pinned (OpenSpec.ofChange paceWaitsWrong)

/-- 'callboxlaw16.PacePlays': WHATEVER THE INPUT: true; the input reads as it did. -/
def pacePlaysSpec : ChangeSpec := { name := "pacePlays", fn := fun _ => fun
  | [d] => { results := [.lit (.bool true)], args := [d] }
  | _ => none }
def pacePlaysRow : OpenClaim := { program := "ytoahkjehjmbojaa", sum := "175821a9ea2e66f1b5cf4b27fef0e55629623f93c44801bf5d070e9f65557ece", func := "callbox/callboxlaw16.PacePlays", spec := "pacePlays", apart := false }
def PacePlaysSaid : Prop := pacePlaysRow.holds Try.pinned (OpenSpec.ofChange pacePlaysSpec)

/-- ITS FALSE NEIGHBOUR: 'it returns false'. Refute it at one input. -/
def pacePlaysWrong : ChangeSpec := { name := "pacePlays", fn := fun _ => fun
  | [d] => { results := [.lit (.bool false)], args := [d] }
  | _ => none }
def PacePlaysWrongFalsely : Prop := pacePlaysRow.holds Try.pinned (OpenSpec.ofChange pacePlaysWrong)

/-- 'callboxlaw16.PaceDoubles': WHATEVER THE INPUT: true; the input reads as it did. -/
def paceDoublesSpec : ChangeSpec := { name := "paceDoubles", fn := fun _ => fun
  | [d] => { results := [.lit (.bool true)], args := [d] }
  | _ => none }
def paceDoublesRow : OpenClaim := { program := "ytoahkjehjmbojaa", sum := "175821a9ea2e66f1b5cf4b27fef0e55629623f93c44801bf5d070e9f65557ece", func := "callbox/callboxlaw16.PaceDoubles", spec := "paceDoubles", apart := false }
def PaceDoublesSaid : Prop := paceDoublesRow.holds Try.pinned (OpenSpec.ofChange paceDoublesSpec)

/-- ITS FALSE NEIGHBOUR: 'it returns false'. Refute it at one input. -/
def paceDoublesWrong : ChangeSpec := { name := "paceDoubles", fn := fun _ => fun
  | [d] => { results := [.lit (.bool false)], args := [d] }
  | _ => none }
def PaceDoublesWrongFalsely : Prop := paceDoublesRow.holds Try.pinned (OpenSpec.ofChange paceDoublesWrong)

/-- 'callboxlaw16.PaceBounds': WHATEVER THE INPUT: true; the input reads as it did. -/
def paceBoundsSpec : ChangeSpec := { name := "paceBounds", fn := fun _ => fun
  | [d] => { results := [.lit (.bool true)], args := [d] }
  | _ => none }
def paceBoundsRow : OpenClaim := { program := "ytoahkjehjmbojaa", sum := "175821a9ea2e66f1b5cf4b27fef0e55629623f93c44801bf5d070e9f65557ece", func := "callbox/callboxlaw16.PaceBounds", spec := "paceBounds", apart := false }
def PaceBoundsSaid : Prop := paceBoundsRow.holds Try.pinned (OpenSpec.ofChange paceBoundsSpec)

/-- ITS FALSE NEIGHBOUR: 'it returns false'. Refute it at one input. -/
def paceBoundsWrong : ChangeSpec := { name := "paceBounds", fn := fun _ => fun
  | [d] => { results := [.lit (.bool false)], args := [d] }
  | _ => none }
def PaceBoundsWrongFalsely : Prop := paceBoundsRow.holds Try.pinned (OpenSpec.ofChange paceBoundsWrong)

/-- 'callboxlaw14.ShelfTypes': WHATEVER THE INPUT: true; the input reads as it did. -/
def shelfTypesSpec : ChangeSpec := { name := "shelfTypes", fn := fun _ => fun
  | [d1, d2] => { results := [.lit (.bool true)], args := [d1, d2] }
  | _ => none }
def shelfTypesRow : OpenClaim := { program := "ytoahkjehjmbojaa", sum := "175821a9ea2e66f1b5cf4b27fef0e55629623f93c44801bf5d070e9f65557ece", func := "callbox/callboxlaw14.ShelfTypes", spec := "shelfTypes", unfollowed := true, recurses := true, apart := false }
def ShelfTypesSaid : Prop := shelfTypesRow.holds Try.pinned (OpenSpec.ofChange shelfTypesSpec)

/-- ITS FALSE NEIGHBOUR: 'it returns false'. Refute it at one input. -/
def shelfTypesWrong : ChangeSpec := { name := "shelfTypes", fn := fun _ => fun
  | [d1, d2] => { results := [.lit (.bool false)], args := [d1, d2] }
  | _ => none }
def ShelfTypesWrongFalsely : Prop := shelfTypesRow.holds Try.pinned (OpenSpec.ofChange shelfTypesWrong)

/-- 'callboxlaw14.ShelfPlays': WHATEVER THE INPUT: true; the input reads as it did. -/
def shelfPlaysSpec : ChangeSpec := { name := "shelfPlays", fn := fun _ => fun
  | [d1, d2, d3] => { results := [.lit (.bool true)], args := [d1, d2, d3] }
  | _ => none }
def shelfPlaysRow : OpenClaim := { program := "ytoahkjehjmbojaa", sum := "175821a9ea2e66f1b5cf4b27fef0e55629623f93c44801bf5d070e9f65557ece", func := "callbox/callboxlaw14.ShelfPlays", spec := "shelfPlays", unfollowed := true, recurses := true, apart := false }
def ShelfPlaysSaid : Prop := shelfPlaysRow.holds Try.pinned (OpenSpec.ofChange shelfPlaysSpec)

/-- ITS FALSE NEIGHBOUR: 'it returns false'. Refute it at one input. -/
def shelfPlaysWrong : ChangeSpec := { name := "shelfPlays", fn := fun _ => fun
  | [d1, d2, d3] => { results := [.lit (.bool false)], args := [d1, d2, d3] }
  | _ => none }
def ShelfPlaysWrongFalsely : Prop := shelfPlaysRow.holds Try.pinned (OpenSpec.ofChange shelfPlaysWrong)

/-- 'callboxlaw14.ShelfBound': WHATEVER THE INPUT: true; the input reads as it did. -/
def shelfBoundSpec : ChangeSpec := { name := "shelfBound", fn := fun _ => fun
  | [d1, d2] => { results := [.lit (.bool true)], args := [d1, d2] }
  | _ => none }
def shelfBoundRow : OpenClaim := { program := "ytoahkjehjmbojaa", sum := "175821a9ea2e66f1b5cf4b27fef0e55629623f93c44801bf5d070e9f65557ece", func := "callbox/callboxlaw14.ShelfBound", spec := "shelfBound", unfollowed := true, recurses := true, apart := false }
def ShelfBoundSaid : Prop := shelfBoundRow.holds Try.pinned (OpenSpec.ofChange shelfBoundSpec)

/-- ITS FALSE NEIGHBOUR: 'it returns false'. Refute it at one input. -/
def shelfBoundWrong : ChangeSpec := { name := "shelfBound", fn := fun _ => fun
  | [d1, d2] => { results := [.lit (.bool false)], args := [d1, d2] }
  | _ => none }
def ShelfBoundWrongFalsely : Prop := shelfBoundRow.holds Try.pinned (OpenSpec.ofChange shelfBoundWrong)

/- THE SECOND FORM. 'bulk': how many values and letters a reading holds, each counted each time it is reached (what is shared counts as often as it is met; a slice's spare places count too). A statement '..UptoSaid' is the law's where the arguments, and the package variables that the reading takes, are together of bulk at most 1048576: NARROWER than '..Said'. Prove '..Said' where nothing that the law and all that it calls make is longer than what came in: it says more and counts as full. Else prove '..UptoSaid'. A law counts once. -/
mutual
def uptoBulk {H : Type} : DataW H → Nat
  | .lit (.string bytes) => bytes.length + 1
  | .lit _ => 1
  | .nil => 1
  | .ptr d => uptoBulk d + 1
  | .slice elems spare => uptoBulkAll elems + uptoBulkAll spare + 1
  | .agg parts => uptoBulkAll parts + 1
  | .iface _ d => uptoBulk d + 1
  | .map entries => uptoBulkEntries entries + 1
  | .held _ => 1
def uptoBulkAll {H : Type} : List (DataW H) → Nat
  | [] => 0
  | d :: r => uptoBulk d + uptoBulkAll r
def uptoBulkEntries {H : Type} : List (Lit × DataW H) → Nat
  | [] => 0
  | x :: r => uptoBulkEntry x + uptoBulkEntries r
def uptoBulkEntry {H : Type} : Lit × DataW H → Nat
  | (.string bytes, d) => bytes.length + uptoBulk d + 1
  | (_, d) => uptoBulk d + 1
 end
def uptoSmall : (H : Type) → List (DataW H) → Bool := fun _ ds => decide (uptoBulkAll ds ≤ 1048576)
def OpenSpec.upto (s : _root_.Go.ChangeSpec) : _root_.Go.OpenSpec := { _root_.Go.OpenSpec.ofChange s with cond := some uptoSmall }

/-- 'callboxlaw13.AirPlays', WHERE WHAT IT READS IS OF BULK AT MOST 1048576: true; the input reads as it did. -/
def airPlaysUptoRow : OpenClaim := { program := "ytoahkjehjmbojaa", sum := "175821a9ea2e66f1b5cf4b27fef0e55629623f93c44801bf5d070e9f65557ece", func := "callbox/callboxlaw13.AirPlays", spec := "airPlays", apart := false, narrowed := true }
def AirPlaysUptoSaid : Prop := airPlaysUptoRow.holds Try.pinned (OpenSpec.upto airPlaysSpec)

/-- 'callboxlaw13.AirCounts', WHERE WHAT IT READS IS OF BULK AT MOST 1048576: true; the input reads as it did. -/
def airCountsUptoRow : OpenClaim := { program := "ytoahkjehjmbojaa", sum := "175821a9ea2e66f1b5cf4b27fef0e55629623f93c44801bf5d070e9f65557ece", func := "callbox/callboxlaw13.AirCounts", spec := "airCounts", apart := false, narrowed := true }
def AirCountsUptoSaid : Prop := airCountsUptoRow.holds Try.pinned (OpenSpec.upto airCountsSpec)

/-- 'callboxlaw16.PaceWaits', WHERE WHAT IT READS IS OF BULK AT MOST 1048576: true; the input reads as it did. -/
def paceWaitsUptoRow : OpenClaim := { program := "ytoahkjehjmbojaa", sum := "175821a9ea2e66f1b5cf4b27fef0e55629623f93c44801bf5d070e9f65557ece", func := "callbox/callboxlaw16.PaceWaits", spec := "paceWaits", apart := false, narrowed := true }
def PaceWaitsUptoSaid : Prop := paceWaitsUptoRow.holds Try.pinned (OpenSpec.upto paceWaitsSpec)

/-- 'callboxlaw16.PacePlays', WHERE WHAT IT READS IS OF BULK AT MOST 1048576: true; the input reads as it did. -/
def pacePlaysUptoRow : OpenClaim := { program := "ytoahkjehjmbojaa", sum := "175821a9ea2e66f1b5cf4b27fef0e55629623f93c44801bf5d070e9f65557ece", func := "callbox/callboxlaw16.PacePlays", spec := "pacePlays", apart := false, narrowed := true }
def PacePlaysUptoSaid : Prop := pacePlaysUptoRow.holds Try.pinned (OpenSpec.upto pacePlaysSpec)

/-- 'callboxlaw16.PaceDoubles', WHERE WHAT IT READS IS OF BULK AT MOST 1048576: true; the input reads as it did. -/
def paceDoublesUptoRow : OpenClaim := { program := "ytoahkjehjmbojaa", sum := "175821a9ea2e66f1b5cf4b27fef0e55629623f93c44801bf5d070e9f65557ece", func := "callbox/callboxlaw16.PaceDoubles", spec := "paceDoubles", apart := false, narrowed := true }
def PaceDoublesUptoSaid : Prop := paceDoublesUptoRow.holds Try.pinned (OpenSpec.upto paceDoublesSpec)

/-- 'callboxlaw16.PaceBounds', WHERE WHAT IT READS IS OF BULK AT MOST 1048576: true; the input reads as it did. -/
def paceBoundsUptoRow : OpenClaim := { program := "ytoahkjehjmbojaa", sum := "175821a9ea2e66f1b5cf4b27fef0e55629623f93c44801bf5d070e9f65557ece", func := "callbox/callboxlaw16.PaceBounds", spec := "paceBounds", apart := false, narrowed := true }
def PaceBoundsUptoSaid : Prop := paceBoundsUptoRow.holds Try.pinned (OpenSpec.upto paceBoundsSpec)

/-- 'callboxlaw14.ShelfTypes', WHERE WHAT IT READS IS OF BULK AT MOST 1048576: true; the input reads as it did. -/
def shelfTypesUptoRow : OpenClaim := { program := "ytoahkjehjmbojaa", sum := "175821a9ea2e66f1b5cf4b27fef0e55629623f93c44801bf5d070e9f65557ece", func := "callbox/callboxlaw14.ShelfTypes", spec := "shelfTypes", unfollowed := true, recurses := true, apart := false, narrowed := true }
def ShelfTypesUptoSaid : Prop := shelfTypesUptoRow.holds Try.pinned (OpenSpec.upto shelfTypesSpec)

/-- 'callboxlaw14.ShelfPlays', WHERE WHAT IT READS IS OF BULK AT MOST 1048576: true; the input reads as it did. -/
def shelfPlaysUptoRow : OpenClaim := { program := "ytoahkjehjmbojaa", sum := "175821a9ea2e66f1b5cf4b27fef0e55629623f93c44801bf5d070e9f65557ece", func := "callbox/callboxlaw14.ShelfPlays", spec := "shelfPlays", unfollowed := true, recurses := true, apart := false, narrowed := true }
def ShelfPlaysUptoSaid : Prop := shelfPlaysUptoRow.holds Try.pinned (OpenSpec.upto shelfPlaysSpec)

/-- 'callboxlaw14.ShelfBound', WHERE WHAT IT READS IS OF BULK AT MOST 1048576: true; the input reads as it did. -/
def shelfBoundUptoRow : OpenClaim := { program := "ytoahkjehjmbojaa", sum := "175821a9ea2e66f1b5cf4b27fef0e55629623f93c44801bf5d070e9f65557ece", func := "callbox/callboxlaw14.ShelfBound", spec := "shelfBound", unfollowed := true, recurses := true, apart := false, narrowed := true }
def ShelfBoundUptoSaid : Prop := shelfBoundUptoRow.holds Try.pinned (OpenSpec.upto shelfBoundSpec)

end Rows
end Go.Proofs.Ytoahkjehjmbojaa
