/- what the listed variables hold is what the program lays -/
import Derived.Test.YtabbhaeabcdonaaGreatDoorCards
import Derived.WalkKit
import Derived.ProofKit
import Derived.OpenShut
import Derived.Deep.DeepHandedRow
import Derived.Lib.LaidTab
import Derived.SevenTiedAt
import Derived.Test.YtabbhaeabcdonaaGreatDoorM19
import Derived.Test.YtabbhaeabcdonaaGreatDoorM23
set_option linter.all false
open Go Go.Abs Go.Proofs Go.Proofs.YtabbhaeabcdonaaGreatDoor Go.ChangeShapes Go.WideShapes Go.ChangeAt Go.RowKit
set_option maxRecDepth 100000
namespace Go.Proofs.YtabbhaeabcdonaaGreatDoor.q3
open Go.Rd
theorem laidIs : Rows.machineNewRow.laid = laidT := by kernel_rfl
theorem noUnsafe : Tryz.pinned.checked.prog.headLifts.contains "ownunsafe" = false := by kernel_rfl
theorem rowTie : Rows.machineNewRow.laidByTextAt .later Tryz.pinned [.data, .data, .data] true :=
  OpenClaim.laidByTextAt_later rfl rfl (laidIs ▸ tieT) noUnsafe
end Go.Proofs.YtabbhaeabcdonaaGreatDoor.q3
