/- part 26 of the proof -/
import Derived.Test.YtobcllcndnbmlaaGreatDoorM21
import Derived.Test.YtobcllcndnbmlaaGreatDoorM23
import Derived.Test.YtobcllcndnbmlaaGreatDoorM24
import Derived.Test.YtobcllcndnbmlaaGreatDoorM25
set_option linter.all false
open Go Go.Abs Go.Proofs
set_option maxRecDepth 100000
namespace Go.Rd
theorem t_hg2 : Tryz.prog.funcNamed "gosem.cut.vars" = some 872 := by kernel_rfl
theorem tieT : Tryz.prog.laidByTextLater laidT [.data, .data, .data] true :=
  Program.laidByTextLater_of_run 872 40 8 t_hw t_hw' t_hroot t_hk t_hg2 t_hn r_hd r_h1 r_h2
end Go.Rd
