/- part 42 of the proof -/
import Derived.Test.YteliegkcmjimoaaGreatDoorW41
set_option linter.all false
open Go Go.Abs Go.Proofs
set_option maxRecDepth 100000
namespace Go.Rd
set_option maxHeartbeats 8000000
end Go.Rd
