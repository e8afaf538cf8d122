/- part 21 of the proof -/
import Derived.LaidByTextLater
import Derived.LaidOnce
import Derived.Test.YtobcllcndnbmlaaGreatDoorM17
set_option linter.all false
open Go Go.Abs Go.Proofs
set_option maxRecDepth 100000
namespace Go.Rd
theorem t_hw : Tryz.prog.worded (varsWordLater true) = true := by kernel_rfl
theorem t_hw' : Tryz.prog.worded (varsWordLater !true) = false := by kernel_rfl
theorem t_hroot : Tryz.prog.worded rootWordLater = true := by kernel_rfl
theorem t_hg : (Tryz.prog.funcNamed "gosem.cut.vars").isSome = true := by kernel_rfl
end Go.Rd
