import Derived.Test.YtnhifhlbelogcaaGreatDoorYPO
namespace Go.Proofs.YtnhifhlbelogcaaGreatDoor
open Go Go.Eng
set_option maxRecDepth 1000000 in
theorem sy_awake_k (k:Nat):sy_awake (k+60)=some true:=by kernel_rfl
end Go.Proofs.YtnhifhlbelogcaaGreatDoor
