/- A slice that is handed in, opened as what is read: its elements may lead on. -/
import Derived.Test.YtnhifhlbelogcaaGreatDoorYRow3
set_option linter.unusedVariables false
namespace Go.Eng
open Go Go.RowKit Go.WideShapes Go.ChangeShapes Go.Deep
section
variable {H:Type} {enc:TypeId×Value→H} {P:Program} {α:Type} {r:Rp α} {w:World} {F:Nat→Prop}
def In64 (n:Int):Prop:=-9223372036854775808≤n∧n≤9223372036854775807
theorem wf_In64 {n:Int} (h:(Lit.int .i64 n).wf=true):In64 n:=by
 simp only [Lit.wf,Bool.and_eq_true,decide_eq_true_eq] at h;have q:IntKind.i64.min = -9223372036854775808:=rfl;have h2:IntKind.i64.max=9223372036854775807:=rfl;rw [q,h2] at h;exact h
end
end Go.Eng
