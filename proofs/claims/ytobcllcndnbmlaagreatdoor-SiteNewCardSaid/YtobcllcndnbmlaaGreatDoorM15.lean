/- part 15 of the proof -/
import Derived.Test.YtobcllcndnbmlaaGreatDoorM14
set_option linter.all false
open Go Go.Abs Go.Proofs
set_option maxRecDepth 100000
namespace Go.Rd
theorem f4_ok : FnOK C0 4 [] [] (B true) [] := closed rfl (by kernel_rfl)
end Go.Rd
