/- part 20 of the proof -/
import Derived.Test.YtobcllcndnbmlaaGreatDoorM19
set_option linter.all false
open Go Go.Abs Go.Proofs
set_option maxRecDepth 100000
namespace Go.Rd
theorem ts0 : ((List.range' 0 150).all (rowFine Tryz.prog)) = true := by kernel_rfl
theorem ts1 : ((List.range' 150 150).all (rowFine Tryz.prog)) = true := by kernel_rfl
theorem ts2 : ((List.range' 300 150).all (rowFine Tryz.prog)) = true := by kernel_rfl
theorem ts3 : ((List.range' 450 150).all (rowFine Tryz.prog)) = true := by kernel_rfl
theorem ts4 : ((List.range' 600 (Tryz.prog.types.size - 600)).all (rowFine Tryz.prog)) = true := by kernel_rfl
theorem tsn : List.range Tryz.prog.types.size = List.range' 0 150 ++ (List.range' 150 150 ++ (List.range' 300 150 ++ (List.range' 450 150 ++ List.range' 600 (Tryz.prog.types.size - 600)))) := by kernel_rfl
theorem tsg : (Tryz.prog.globals.all (fun g => decide (g.type < Tryz.prog.types.size))) = true := by kernel_rfl
theorem tsf : (Tryz.prog.funcs.all (fun f => f.params.all fun t => decide (t < Tryz.prog.types.size))) = true := by kernel_rfl
theorem laidOut : laidOutB Tryz.prog = true := by
  unfold laidOutB
  rw [tsg, tsf, tsn]
  simp only [List.all_append, ts0, ts1, ts2, ts3, ts4, Bool.and_true]
end Go.Rd
