/- closed facts of the row, part 3 -/
import Derived.Test.YtobcllcndnbmlaaGreatDoorCards
import Derived.WalkKit
import Derived.ProofKit
import Derived.OpenShut
import Derived.Deep.DeepHandedRow
import Derived.Lib.LaidTab
import Derived.SevenTiedAt
import Derived.Test.YtobcllcndnbmlaaGreatDoorM19
import Derived.Test.YtobcllcndnbmlaaGreatDoorM20
import Derived.Test.YtobcllcndnbmlaaGreatDoorRowK3F2
set_option linter.all false
open Go Go.Abs Go.Proofs Go.Proofs.YtobcllcndnbmlaaGreatDoor Go.ChangeShapes Go.WideShapes Go.ChangeAt Go.RowKit
set_option maxRecDepth 100000
namespace Go.Proofs.YtobcllcndnbmlaaGreatDoor.q3
open Go.Rd
theorem k25 : J (fun P f fn s c => P.mayEnter) = true := by kernel_rfl
theorem k26 : J (fun P f fn s c => (c.lifted == P.liftsFinal)) = true := by kernel_rfl
theorem k27 : J (fun P f fn s c => (P.make == some c.make)) = true := by kernel_rfl
theorem k28 : J (fun P f fn s c => (c.kinds == (if c.domain.isEmpty then [] else fn.params.toList.map fun t => match P.underlying t with | some (.int k) => some k | _ => none))) = true := by kernel_rfl
theorem k29 : J (fun P f fn s c => (c.pinned == c.pinnedBy)) = true := by kernel_rfl
theorem k30 : J (fun P f fn s c => (c.veiled == (fn.params.toList ++ s.plain.varTypes P ++ fn.resultTypes.toList).any (P.veiledRec ·))) = true := by kernel_rfl
theorem k31 : J (fun P f fn s c => c.veiledFits P fn.params.toList (fn.params.toList ++ s.plain.varTypes P ++ fn.resultTypes.toList)) = true := by kernel_rfl
theorem andI {a b : Bool} (ha : a = true) (hb : b = true) : (a && b) = true := by rw [ha, hb]; rfl
theorem closed : joinedFacts Tryz.prog 3 Tryz.f3 Rows.siteNewSpec Rows.siteNewRow = true := by
  unfold joinedFacts
  exact andI (andI (andI (andI (andI (andI (andI (andI (andI (andI (andI (andI (andI (andI (andI (andI (andI (andI (andI (andI (andI (andI (andI (andI (andI (andI (andI (andI (andI (andI (andI k00 k01) k02) k03) k04) k05) k06) k07) k08) k09) k10) k11) k12) k13) k14) k15) k16) k17) k18) k19) k20) k21) k22) k23) k24) k25) k26) k27) k28) k29) k30) k31
end Go.Proofs.YtobcllcndnbmlaaGreatDoor.q3
