/- part 25 of the proof -/
import Derived.Test.YtobcllcndnbmlaaGreatDoorM21
import Derived.Test.YtobcllcndnbmlaaGreatDoorM22
set_option linter.all false
open Go Go.Abs Go.Proofs
set_option maxRecDepth 100000
namespace Go.Rd
theorem r_h2 (os : Os) (tape : Tape) : (DataW.laidRun Tryz.prog (varsWorld Tryz.prog 40 872 os tape).memory 8 (laidT.map (·.1))).map (fun x => decide x.2.Nodup && laidRowsB Tryz.prog (varsWorld Tryz.prog 40 872 os tape).memory x.2) = some true := by kernel_rfl
end Go.Rd
