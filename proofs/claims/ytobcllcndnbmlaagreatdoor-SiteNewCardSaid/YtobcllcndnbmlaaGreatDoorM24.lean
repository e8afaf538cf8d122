/- part 24 of the proof -/
import Derived.Test.YtobcllcndnbmlaaGreatDoorM21
import Derived.Test.YtobcllcndnbmlaaGreatDoorM22
set_option linter.all false
open Go Go.Abs Go.Proofs
set_option maxRecDepth 100000
namespace Go.Rd
theorem r_h1 (os : Os) (tape : Tape) : (DataW.laidRun Tryz.prog (varsWorld Tryz.prog 40 872 os tape).memory 8 (laidT.map (·.1))).map (·.1) = some laidT := by kernel_rfl
end Go.Rd
