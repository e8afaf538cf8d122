/- a closed fact of the row: by which parts of the program it goes -/
import Derived.Test.YteliegkcmjimoaaGreatDoorCards
import Derived.Test.YteliegkcmjimoaaGreatDoorTie
import Derived.WalkKit
import Derived.ProofKit
import Derived.OpenShut
import Derived.Deep.DeepHandedRow
import Derived.Lib.LaidTab
set_option linter.all false
open Go Go.Proofs Go.Proofs.YteliegkcmjimoaaGreatDoor Go.ChangeShapes Go.WideShapes Go.ChangeAt Go.RowKit
set_option maxRecDepth 100000
namespace Go.Proofs.YteliegkcmjimoaaGreatDoor.q6
theorem cc : false = Rows.victimLeastRow.goesBy Tryz.pinned.checked.prog := by kernel_rfl
end Go.Proofs.YteliegkcmjimoaaGreatDoor.q6
