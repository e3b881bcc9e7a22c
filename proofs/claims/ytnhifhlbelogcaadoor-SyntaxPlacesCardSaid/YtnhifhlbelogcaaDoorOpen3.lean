/- A slice that is handed in, opened as what is read: its elements may lead on. -/
import Derived.Test.YtnhifhlbelogcaaDoorRow3
set_option linter.unusedVariables false
namespace Go.Eng
open Go Go.RowKit Go.WideShapes Go.ChangeShapes Go.Deep
section
variable {H : Type} {enc : TypeId × Value → H} {P : Program} {α : Type} {r : Rp α} {w : World} {F : Nat → Prop}
end
end Go.Eng
