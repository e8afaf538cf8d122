/- part 19 of the proof -/
import Derived.Test.YtobcllcndnbmlaaGreatDoorM17
import Derived.Test.YtobcllcndnbmlaaGreatDoorM18
set_option linter.all false
open Go Go.Abs Go.Proofs
set_option maxRecDepth 100000
namespace Go.Rd
theorem inPl : Tryz.prog.inPlace 3 = ["internal/bytealg.abigen_runtime_cmpstring", "slices.overlaps[clusterlocks/api.Option]", "slices.overlaps[clusterlocks/api.Need]"] := by
  unfold Program.inPlace
  rw [Go.CloP.cl]
  kernel_rfl
theorem unf : Tryz.prog.unfollowed 3 = true := by
  unfold Program.unfollowed
  rw [Go.CloP.cl]
  kernel_rfl
theorem recu : Tryz.prog.recurses 3 = true := by
  unfold Program.recurses
  rw [unf]
  rfl
theorem varsN : Tryz.prog.varsNamed 3 = ["clusterlocks/message.fields", "clusterlocks/mode.together", "math/bits.deBruijn64tab"] := by
  rw [Go.Clo.vars_eq Go.CloP.all Go.CloP.hn Go.CloP.hU, Go.CloP.cl]
  kernel_rfl
theorem globC {W : World} {rest : List (String × DataW Unit)} (h : laidMet Tryz.prog (("clusterlocks/mode.together", tabD rows) :: ("math/bits.deBruijn64tab", dbD) :: ("clusterlocks/message.fields", fldD) :: rest) W) : Glob C0 (gh0 W) W := by
  obtain ⟨ps, ⟨g, t, cs, fuel, p, q, hg, ht, hvar, hd, ⟨_, _, _, _, _, _, _, _, _, _, ⟨g3, t3, cs3, fuel3, p3, q3, hg3, ht3, hvar3, hd3, _, _⟩, _⟩, _⟩, _⟩ := h
  obtain rfl : g = 2 := Option.some.inj (hg.symm.trans (show Tryz.prog.globalNamed "clusterlocks/mode.together" = some 2 by kernel_rfl))
  obtain rfl : t = 737 := Option.some.inj (ht.symm.trans (show (Tryz.prog.globals[2]?).map (·.type) = some 737 by kernel_rfl))
  obtain rfl : g3 = 0 := Option.some.inj (hg3.symm.trans (show Tryz.prog.globalNamed "clusterlocks/message.fields" = some 0 by kernel_rfl))
  obtain rfl : t3 = 231 := Option.some.inj (ht3.symm.trans (show (Tryz.prog.globals[0]?).map (·.type) = some 231 by kernel_rfl))
  exact glob_two (holds_tog hvar hd) (holds_fld hvar3 hd3)
theorem goesN (s : Start) (f : String) : Tryz.prog.goesAt s f = false := Go.Clo.none_goesAt Go.CloP.all Go.CloP.hg s f
end Go.Rd
