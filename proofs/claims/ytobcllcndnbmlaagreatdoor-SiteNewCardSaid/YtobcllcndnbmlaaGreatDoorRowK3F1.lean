/- closed facts of the row, part 1 -/
import Derived.Test.YtobcllcndnbmlaaGreatDoorCards
import Derived.WalkKit
import Derived.ProofKit
import Derived.OpenShut
import Derived.Deep.DeepHandedRow
import Derived.Lib.LaidTab
import Derived.SevenTiedAt
import Derived.Test.YtobcllcndnbmlaaGreatDoorM19
import Derived.Test.YtobcllcndnbmlaaGreatDoorM20
import Derived.Test.YtobcllcndnbmlaaGreatDoorRowK3F0
set_option linter.all false
open Go Go.Abs Go.Proofs Go.Proofs.YtobcllcndnbmlaaGreatDoor Go.ChangeShapes Go.WideShapes Go.ChangeAt Go.RowKit
set_option maxRecDepth 100000
namespace Go.Proofs.YtobcllcndnbmlaaGreatDoor.q3
open Go.Rd
theorem k09 : J (fun P f fn s c => (c.inPlace == P.inPlace f)) = true := by
  show (Rows.siteNewRow.inPlace == Tryz.prog.inPlace 3) = true
  rw [inPl]
  kernel_rfl
theorem k10 : J (fun P f fn s c => (c.unfollowed == P.unfollowed f)) = true := by
  show (Rows.siteNewRow.unfollowed == Tryz.prog.unfollowed 3) = true
  rw [unf]
  kernel_rfl
theorem k11 : J (fun P f fn s c => (c.recurses == P.recurses f)) = true := by
  show (Rows.siteNewRow.recurses == Tryz.prog.recurses 3) = true
  rw [recu]
  kernel_rfl
theorem k12 : J (fun P f fn s c => (c.named == P.varsNamed f)) = true := by
  show (Rows.siteNewRow.named == Tryz.prog.varsNamed 3) = true
  rw [varsN]
  kernel_rfl
theorem k13 : J (fun P f fn s c => (c.maps == (fn.params.toList ++ s.plain.varTypes P).any (P.mapsRec ·))) = true := by kernel_rfl
theorem k14 : J (fun P f fn s c => (c.ifaces == (fn.params.toList ++ s.plain.varTypes P).any (P.ifacesRec ·))) = true := by kernel_rfl
theorem k15 : J (fun P f fn s c => (c.mapsOut == P.mapsAmong fn.resultTypes.toList)) = true := by kernel_rfl
theorem k16 : J (fun P f fn s c => (c.loops == (fn.params.toList ++ s.plain.varTypes P).any (P.loopsFrom ·))) = true := by kernel_rfl
end Go.Proofs.YtobcllcndnbmlaaGreatDoor.q3
