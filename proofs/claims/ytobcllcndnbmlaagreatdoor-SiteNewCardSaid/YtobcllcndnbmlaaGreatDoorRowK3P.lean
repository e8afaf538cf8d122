/- closed facts: the looks, and that no argument wants a stand-in -/
import Derived.Test.YtobcllcndnbmlaaGreatDoorCards
import Derived.WalkKit
import Derived.ProofKit
import Derived.OpenShut
import Derived.Deep.DeepHandedRow
import Derived.Lib.LaidTab
import Derived.SevenTiedAt
import Derived.Test.YtobcllcndnbmlaaGreatDoorM19
set_option linter.all false
open Go Go.Abs Go.Proofs Go.Proofs.YtobcllcndnbmlaaGreatDoor Go.ChangeShapes Go.WideShapes Go.ChangeAt Go.RowKit
set_option maxRecDepth 100000
namespace Go.Proofs.YtobcllcndnbmlaaGreatDoor.q3
open Go.Rd
theorem lk : Tryz.prog.looks [] = true := by kernel_rfl
theorem nm : Tryz.prog.funcNamed "clusterlocks/clusterlockslaw38.SiteNew" = some 3 := by kernel_rfl
theorem ps : Tryz.f3.params = #[22, 3, 3, 23] := by kernel_rfl
theorem w22 : Tryz.prog.wantsStandIn 22 = false := by kernel_rfl
theorem w23 : Tryz.prog.wantsStandIn 23 = false := by kernel_rfl
theorem w3 : Tryz.prog.wantsStandIn 3 = false := by kernel_rfl
end Go.Proofs.YtobcllcndnbmlaaGreatDoor.q3
