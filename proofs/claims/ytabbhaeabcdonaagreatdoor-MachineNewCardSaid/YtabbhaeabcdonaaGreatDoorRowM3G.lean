/- two closed facts: which main package, and that no goroutine is started -/
import Derived.Test.YtabbhaeabcdonaaGreatDoorCards
import Derived.WalkKit
import Derived.ProofKit
import Derived.OpenShut
import Derived.Deep.DeepHandedRow
import Derived.Lib.LaidTab
import Derived.SevenTiedAt
import Derived.Test.YtabbhaeabcdonaaGreatDoorM19
set_option linter.all false
open Go Go.Abs Go.Proofs Go.Proofs.YtabbhaeabcdonaaGreatDoor Go.ChangeShapes Go.WideShapes Go.ChangeAt Go.RowKit
set_option maxRecDepth 100000
namespace Go.Proofs.YtabbhaeabcdonaaGreatDoor.q3
open Go.Rd
theorem cb : Tryz.pinned.checked.prog.mainIs = some ((true, "494c2b00986ce290d04972184036011659b3168180438db52b1b090265dcabe1").fst, (true, "494c2b00986ce290d04972184036011659b3168180438db52b1b090265dcabe1").snd.toList) := by
  show Tryz.prog.mainIs = _
  kernel_rfl
theorem cc : false = Rows.machineNewRow.goesBy Tryz.pinned.checked.prog := (goesN _ _).symm
end Go.Proofs.YtabbhaeabcdonaaGreatDoor.q3
