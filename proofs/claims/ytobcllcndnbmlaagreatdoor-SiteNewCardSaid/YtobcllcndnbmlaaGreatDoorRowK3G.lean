/- two closed facts: which main package, and that no goroutine is started -/
import Derived.Test.YtobcllcndnbmlaaGreatDoorCards
import Derived.WalkKit
import Derived.ProofKit
import Derived.OpenShut
import Derived.Deep.DeepHandedRow
import Derived.Lib.LaidTab
import Derived.SevenTiedAt
import Derived.Test.YtobcllcndnbmlaaGreatDoorM19
set_option linter.all false
open Go Go.Abs Go.Proofs Go.Proofs.YtobcllcndnbmlaaGreatDoor Go.ChangeShapes Go.WideShapes Go.ChangeAt Go.RowKit
set_option maxRecDepth 100000
namespace Go.Proofs.YtobcllcndnbmlaaGreatDoor.q3
open Go.Rd
theorem cb : Tryz.pinned.checked.prog.mainIs = some ((true, "35216baec01589464366ac527381fe841dc69a16ede6a11ddaa80639d4b48a80").fst, (true, "35216baec01589464366ac527381fe841dc69a16ede6a11ddaa80639d4b48a80").snd.toList) := by
  show Tryz.prog.mainIs = _
  kernel_rfl
theorem cc : false = Rows.siteNewRow.goesBy Tryz.pinned.checked.prog := (goesN _ _).symm
end Go.Proofs.YtobcllcndnbmlaaGreatDoor.q3
