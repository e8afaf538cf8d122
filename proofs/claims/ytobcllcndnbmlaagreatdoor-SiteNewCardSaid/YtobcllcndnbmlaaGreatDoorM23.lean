/- part 23 of the proof -/
import Derived.Test.YtobcllcndnbmlaaGreatDoorM21
import Derived.Test.YtobcllcndnbmlaaGreatDoorM22
set_option linter.all false
open Go Go.Abs Go.Proofs
set_option maxRecDepth 100000
namespace Go.Rd
theorem r_hd (os : Os) (tape : Tape) : varsDone Tryz.prog 40 872 os tape = true := by kernel_rfl
end Go.Rd
