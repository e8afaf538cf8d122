/- part 16 of the proof -/
import Derived.Test.YtabbhaeabcdonaaGreatDoorM14
import Derived.Test.YtabbhaeabcdonaaGreatDoorM15
set_option linter.all false
open Go Go.Abs Go.Proofs
set_option maxRecDepth 100000
namespace Go.Rd
theorem f3_ok (l : List Res) (n : Int) : FnOK C0 3 [ressV l, I n] [] (B true) [] := by
 refine FnOK.lens Tryz.f3 fun hlen => ?_
 simp only [lensL, lens, List.length_map, and_true, true_and] at hlen
 by_cases h20 : 20 < l.length
 ·have := f4_ok
  refine FnOK.go Tryz.f3 ?_
  unfold Tryz.f3
  simp (disch := omega) only [go_sem, List.length_map, eq_true (show 20 < (l.length : Int) by omega), decide_true]
  refine call1 f4_ok ?_
  simp (disch := omega) only [go_sem]
  refine ret1 _ ?_
  simp (disch := omega) only [go_sem]
 have a1 := f5_ok l n (by omega)
 have a2 := f6_ok l n (by omega)
 by_cases h : machOK l n = true
 ·have h' := h
  simp only [machOK, Bool.and_eq_true, decide_eq_true_eq] at h'
  obtain ⟨k, rfl⟩ : ∃ k : Nat, n = k := ⟨n.toNat, by omega⟩
  have a3 := f7_ok l k (catOK_len h'.1.1.1) (by omega)
  have e : AV.tup [machV l k, I (machE l k)] = .tup [.agg [ressV l, .sl .no 37 (sitesL l k k), .sl .no 1 (List.replicate (k * k) [nilS])], I 0] := by
   simp [machV, machE, h, machC]
  rw [e] at a1 a2
  unfold machC at a3
  refine FnOK.go Tryz.f3 ?_
  unfold Tryz.f3
  simp (disch := omega) only [go_sem, List.length_map, eq_false (show ¬ 20 < (l.length : Int) by omega), decide_false]
  refine call1 a1 ?_
  simp (disch := omega) only [go_sem]
  refine call1 a2 ?_
  simp (disch := omega) only [go_sem]
  refine call1 f4_ok ?_
  simp (disch := omega) only [go_sem]
  refine call1 a3 ?_
  simp (disch := omega) only [go_sem]
  refine ret1 _ ?_
  simp (disch := omega) only [go_sem]
 ·have e : AV.tup [machV l n, I (machE l n)] = .tup [.agg [nilS, nilS, nilS], I 1] := by simp [machV, machE, h]
  rw [e] at a1 a2
  refine FnOK.go Tryz.f3 ?_
  unfold Tryz.f3
  simp (disch := omega) only [go_sem, List.length_map, eq_false (show ¬ 20 < (l.length : Int) by omega), decide_false]
  refine call1 a1 ?_
  simp (disch := omega) only [go_sem]
  refine call1 a2 ?_
  simp (disch := omega) only [go_sem]
  refine call1 f4_ok ?_
  simp (disch := omega) only [go_sem]
  refine call1 f7_z ?_
  simp (disch := omega) only [go_sem]
  refine ret1 _ ?_
  simp (disch := omega) only [go_sem]
end Go.Rd
