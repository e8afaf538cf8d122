/- a closed fact of the program: which main package it has -/
import Derived.Test.YthachdiockkofaaGreatDoorCards
import Derived.Test.YthachdiockkofaaGreatDoorTie
import Derived.WalkKit
import Derived.ProofKit
import Derived.OpenShut
import Derived.Deep.DeepHandedRow
import Derived.Lib.LaidTab
set_option linter.all false
open Go Go.Proofs Go.Proofs.YthachdiockkofaaGreatDoor Go.ChangeShapes Go.WideShapes Go.ChangeAt Go.RowKit
set_option maxRecDepth 100000
namespace Go.Proofs.YthachdiockkofaaGreatDoor.g0
theorem cb : Tryz.pinned.checked.prog.mainIs = some ((true, "c10f7ded20ea682f332d5b488369e16007c396ca04265c35ee547bd890fdc7fc").fst, (true, "c10f7ded20ea682f332d5b488369e16007c396ca04265c35ee547bd890fdc7fc").snd.toList) := by kernel_rfl
end Go.Proofs.YthachdiockkofaaGreatDoor.g0
