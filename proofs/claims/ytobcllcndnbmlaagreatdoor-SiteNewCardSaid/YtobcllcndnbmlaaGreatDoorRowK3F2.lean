/- closed facts of the row, part 2 -/
import Derived.Test.YtobcllcndnbmlaaGreatDoorCards
import Derived.WalkKit
import Derived.ProofKit
import Derived.OpenShut
import Derived.Deep.DeepHandedRow
import Derived.Lib.LaidTab
import Derived.SevenTiedAt
import Derived.Test.YtobcllcndnbmlaaGreatDoorM19
import Derived.Test.YtobcllcndnbmlaaGreatDoorM20
import Derived.Test.YtobcllcndnbmlaaGreatDoorRowK3F1
set_option linter.all false
open Go Go.Abs Go.Proofs Go.Proofs.YtobcllcndnbmlaaGreatDoor Go.ChangeShapes Go.WideShapes Go.ChangeAt Go.RowKit
set_option maxRecDepth 100000
namespace Go.Proofs.YtobcllcndnbmlaaGreatDoor.q3
open Go.Rd
theorem k17 : J (fun P f fn s c => (c.wideKeys == (fn.params.toList ++ s.plain.varTypes P ++ fn.resultTypes.toList).any (P.wideKeysFrom ·))) = true := by kernel_rfl
theorem k18 : J (fun P f fn s c => s.vars.all (P.varReadable ·)) = true := by kernel_rfl
theorem k19 : J (fun P f fn s c => fn.resultTypes.all (fun t => P.readableRec t && decide (t < P.types.size))) = true := by kernel_rfl
theorem k20 : J (fun P f fn s c => (c.ifacesOut == fn.resultTypes.toList.any (P.ifacesRec ·))) = true := by kernel_rfl
theorem k21 : J (fun P f fn s c => (c.loopsOut == fn.resultTypes.toList.any (P.loopsFrom ·))) = true := by kernel_rfl
theorem k22 : J (fun P f fn s c => (c.plainKeys == P.plainKeys)) = true := by kernel_rfl
theorem k23 : J (fun P f fn s c => c.shortTexts.isNone) = true := by kernel_rfl
theorem k24 : J (fun P f fn s c => P.stopsHeard) = true := by kernel_rfl
end Go.Proofs.YtobcllcndnbmlaaGreatDoor.q3
