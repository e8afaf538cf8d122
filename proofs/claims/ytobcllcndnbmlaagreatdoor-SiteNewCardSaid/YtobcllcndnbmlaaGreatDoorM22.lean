/- part 22 of the proof -/
import Derived.LaidByTextLater
import Derived.LaidOnce
import Derived.Test.YtobcllcndnbmlaaGreatDoorM17
set_option linter.all false
open Go Go.Abs Go.Proofs
set_option maxRecDepth 100000
namespace Go.Rd
def laidT : List (String × DataW Unit) := [("clusterlocks/mode.together", tabD rows), ("math/bits.deBruijn64tab", dbD), ("clusterlocks/message.fields", fldD)]
theorem t_hk : laidT.map (fun x => Tryz.prog.kindOfLater x.1) = [LaidKind.data, LaidKind.data, LaidKind.data].map some := by kernel_rfl
theorem t_hn : varsNamedLaterB Tryz.prog 872 laidT = true := by kernel_rfl
end Go.Rd
