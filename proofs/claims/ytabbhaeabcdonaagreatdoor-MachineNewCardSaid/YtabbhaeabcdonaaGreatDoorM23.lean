/- part 23 of the proof -/
import Derived.Test.YtabbhaeabcdonaaGreatDoorM21
import Derived.Test.YtabbhaeabcdonaaGreatDoorM22
set_option linter.all false
open Go Go.Abs Go.Proofs
set_option maxRecDepth 100000
namespace Go.Rd
theorem t_hrun (os : Os) (tape : Tape) : doorLeaves Tryz.prog 40 8 65 laidT os tape = some (laidT.filter fun x => x.2.handleName?.isNone, (funcsListed laidT).map (·.2.funcsOut)) := by kernel_rfl
theorem tieT : Tryz.prog.laidByTextLater laidT [.data, .data, .data] true :=
  Program.laidByTextLater_by_one 40 8 65 t_hw t_hw' t_hroot t_hk t_hg t_hn t_hrun
end Go.Rd
