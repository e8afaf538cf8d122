/- a closed fact of the program: which main package it has -/
import Derived.Test.YteliegkcmjimoaaGreatDoorCards
import Derived.Test.YteliegkcmjimoaaGreatDoorTie
import Derived.WalkKit
import Derived.ProofKit
import Derived.OpenShut
import Derived.Deep.DeepHandedRow
import Derived.Lib.LaidTab
set_option linter.all false
open Go Go.Proofs Go.Proofs.YteliegkcmjimoaaGreatDoor Go.ChangeShapes Go.WideShapes Go.ChangeAt Go.RowKit
set_option maxRecDepth 100000
namespace Go.Proofs.YteliegkcmjimoaaGreatDoor.g0
theorem cb : Tryz.pinned.checked.prog.mainIs = some ((true, "c42fcbd4ef037d163fe80c8edd20d77346b46506266d1fff00f525cea601ee8f").fst, (true, "c42fcbd4ef037d163fe80c8edd20d77346b46506266d1fff00f525cea601ee8f").snd.toList) := by kernel_rfl
end Go.Proofs.YteliegkcmjimoaaGreatDoor.g0
