/- closed facts of the row, part 0 -/
import Derived.Test.YtobcllcndnbmlaaGreatDoorCards
import Derived.WalkKit
import Derived.ProofKit
import Derived.OpenShut
import Derived.Deep.DeepHandedRow
import Derived.Lib.LaidTab
import Derived.SevenTiedAt
import Derived.Test.YtobcllcndnbmlaaGreatDoorM19
import Derived.Test.YtobcllcndnbmlaaGreatDoorM20
set_option linter.all false
open Go Go.Abs Go.Proofs Go.Proofs.YtobcllcndnbmlaaGreatDoor Go.ChangeShapes Go.WideShapes Go.ChangeAt Go.RowKit
set_option maxRecDepth 100000
namespace Go.Proofs.YtobcllcndnbmlaaGreatDoor.q3
open Go.Rd
noncomputable abbrev J (X : Program → FuncId → Func → ChangeSpec → OpenClaim → Bool) : Bool := X Tryz.prog 3 Tryz.f3 Rows.siteNewSpec Rows.siteNewRow
theorem k00 : (fun (P : Program) (f : FuncId) (fn : Func) (s : ChangeSpec) (c : OpenClaim) => (c.wf (OpenSpec.ofChange s) : Bool)) Tryz.prog 3 Tryz.f3 Rows.siteNewSpec Rows.siteNewRow = true := by kernel_rfl
theorem k01 : J (fun P f fn s c => laidOutB P) = true := laidOut
theorem k02 : J (fun P f fn s c => mapsRowed P) = true := by kernel_rfl
theorem k03 : J (fun P f fn s c => fn.params.all (P.readableRec ·)) = true := by kernel_rfl
theorem k04 : J (fun P f fn s c => namedTie P c.named s.vars) = true := by kernel_rfl
theorem k05 : J (fun P f fn s c => (c.stops == [])) = true := by kernel_rfl
theorem k06 : J (fun P f fn s c => (P.stops == [])) = true := by kernel_rfl
theorem k07 : J (fun P f fn s c => (c.knobs == [])) = true := by kernel_rfl
theorem k08 : J (fun P f fn s c => (P.stopKnobs == [])) = true := by kernel_rfl
end Go.Proofs.YtobcllcndnbmlaaGreatDoor.q3
