import Derived.Test.YtfnniffkgoimeaaCh11
set_option linter.all false
open Go Go.Abs Go.Proofs
set_option maxRecDepth 100000
namespace Go.Ch
@[reducible] def ints (l : List Int) : AV := .sl .no 1 (l.map fun n => [.v (.int .i64 n)])
theorem t37 : isSliceT Try.prog 37 = true := by kernel_rfl
theorem e37 : elemOfSlice Try.prog 37 = some (3, 1) := by kernel_rfl
theorem s3 : szOf Try.prog 3 = some 1 := by kernel_rfl
theorem a3 : aggOf Try.prog 3 = some false := by kernel_rfl
theorem s37 : szOf Try.prog 37 = some 1 := by kernel_rfl
theorem a37 : aggOf Try.prog 37 = some false := by kernel_rfl
theorem o49_1 : offOf Try.prog 49 1 = some 1 := by kernel_rfl
theorem o49_0 : offOf Try.prog 49 0 = some 0 := by kernel_rfl
theorem f35_ok (n m : Int) (h : 1 ≤ m) (h2 : m ≤ 1000000000) (hn : -9223372036854775808 ≤ n) (hn2 : n ≤ 9223372036854775807) : FnOK C0 35 [.v (.int .i64 n), .v (.int .i64 m)] [] (.v (.int .i64 (n % m))) [] := by
  refine FnOK.intro (fn := Try.f35) (c := Try.f35.body.getD .skip) (by kernel_rfl) (by kernel_rfl) (by kernel_rfl) (by kernel_rfl) (by simp [Try.f35]) (by simp [names]) ?_
  unfold Try.f35
  have e1 : ¬ m < 1 := by omega
  have e2 : ¬ m = 0 := by omega
  simp (disch := omega) only [go_sem, if_pos, e1, e2]
  have d1 := Int.tmod_add_mul_tdiv n m
  have d2 := Int.emod_add_mul_ediv n m
  have d3 := Int.emod_nonneg n (b := m) (by omega)
  have d4 := Int.emod_lt_of_pos n (b := m) (by omega)
  refine ⟨fun h3 => ?_, fun h3 => ?_⟩
  · simp at h3
    have hneg : n < 0 := by
      rcases (by omega : n < 0 ∨ 0 ≤ n) with h | h
      · exact h
      · have := Int.tmod_nonneg m h; omega
    have d6 : -m < n.tmod m := by
      have := Int.lt_tmod_of_pos n (b := m) (by omega)
      omega
    have key : n.tmod m + m = n % m := by
      have e := Int.add_emod_right (n.tmod m) m
      rw [← Int.emod_eq_of_lt (a := n.tmod m + m) (b := m) (by omega) (by omega)]
      rw [Int.add_emod_right]
      conv => rhs; rw [← d1]
      rw [Int.add_mul_emod_self_left]
    rw [wrap64 _ (by omega) (by omega), key]
    refine ret_mk ⟨[], [], []⟩ _ rfl ⟨rfl, rfl⟩ (by simp) ?_ trivial
    simp (disch := omega) only [go_sem, if_pos]
  · simp at h3
    have d6 : n.tmod m < m := Int.tmod_lt_of_pos n (by omega)
    have key : n.tmod m = n % m := by
      rw [← Int.emod_eq_of_lt (a := n.tmod m) (b := m) (by omega) (by omega)]
      conv => rhs; rw [← d1]
      rw [Int.add_mul_emod_self_left]
    rw [key]
    refine ret_mk ⟨[], [], []⟩ _ rfl ⟨rfl, rfl⟩ (by simp) ?_ trivial
    simp (disch := omega) only [go_sem, if_pos]
theorem f33_ok (l : List Int) (a : Int) : FnOK C0 33 [.ptr 63 0] [(63, [ints l, .v (.int .i64 a)])] (.v (.bool (decide (a < l.length)))) [(63, [ints l, .v (.int .i64 a)])] := by
  refine FnOK.intro (fn := Try.f33) (c := Try.f33.body.getD .skip) (by kernel_rfl) (by kernel_rfl) (by kernel_rfl) (by kernel_rfl) (by simp [Try.f33]) (by simp [names]) ?_
  unfold Try.f33
  refine draw_mk 9 [([], [0]), ([0], [3]), ([0, 1], [4]), ([0, 1, 2], [5]), ([], [0]), ([4], [7]), ([4, 5], [8]), ([4, 5, 6], [9]), ([4, 5, 6, 7], [10]), ([0, 1, 2, 3, 4, 5, 6, 7, 8], []), ([0, 1, 2, 3, 4, 5, 6, 7, 8, 9], [])] fol (by kernel_rfl) ?_
  simp (disch := omega) only [go_sem, if_pos, t37, s3, a3, s37, a37, o49_1, o49_0]
  refine ret_mk ⟨[], [(63, 63)], []⟩ _ rfl ⟨rfl, rfl⟩ (by simp [lk]) ?_ ?_
  · simp (disch := omega) only [go_sem, if_pos]
  · simp (disch := omega) only [go_sem, if_pos]
theorem f34_ok (l : List Int) (hl : l.length ≤ 1000000) (hw : ∀ x ∈ l, (Lit.int .i64 x).wf = true) (a : Nat) (h : a ≤ l.length) (m : Int) (h1 : 1 ≤ m) (h2 : m ≤ 1000000000) :
    FnOK C0 34 [.ptr 63 0, .v (.int .i64 m)] [(63, [ints l, .v (.int .i64 a)])] (.v (.int .i64 ((l.getD a 0) % m))) [(63, [ints l, .v (.int .i64 (min (a + 1) l.length))])] := by
  refine FnOK.intro (fn := Try.f34) (c := Try.f34.body.getD .skip) (by kernel_rfl) (by kernel_rfl) (by kernel_rfl) (by kernel_rfl) (by simp [Try.f34]) (by simp [names]) ?_
  unfold Try.f34
  refine draw_mk 9 [([], [0]), ([0], [5]), ([0, 1], [6]), ([0, 1, 2], [7]), ([], [0]), ([4], [9]), ([4, 5], [10]), ([4, 5, 6], [11]), ([4, 5, 6, 7], [12]), ([0, 1, 2, 3, 4, 5, 6, 7, 8], [])] fol (by kernel_rfl) ?_
  simp (disch := omega) only [go_sem, if_pos, t37, s3, a3, s37, a37, o49_1, o49_0]
  refine ⟨fun h => ?_, fun h => ?_⟩
  · simp at h
    refine ret_mk ⟨[], [(63, 63)], []⟩ _ rfl ⟨rfl, rfl⟩ (by simp [lk]) ?_ ?_
    · simp (disch := omega) only [go_sem, if_pos]
      refine .int ?_
      have hn : l[a]? = none := List.getElem?_eq_none (by omega)
      simp [List.getD, hn]
    · simp (disch := omega) only [go_sem, if_pos]
      exact .int (by omega)
  simp at h
  obtain ⟨x, hx⟩ : ∃ x, l[a]? = some x := ⟨_, List.getElem?_eq_getElem h⟩
  have hxw := hw x (List.mem_of_getElem? hx)
  simp [Lit.wf, IntKind.min, IntKind.max, IntKind.signed, IntKind.bits] at hxw
  have hxd : l.getD a 0 = x := by simp [List.getD, hx]
  have e1 : ((a : Int) + 1 - 1) = (a : Int) := by omega
  have e2 : IntKind.i64.wrap (a : Int) = a := wrap64 _ (by omega) (by omega)
  simp (disch := omega) only [go_sem, if_pos, s3, a3, wrap64, o49_1]
  refine draw_mk 12 [([], [0]), ([0], [22]), ([0, 1], [23]), ([0, 1, 2], [24]), ([], [0]), ([4], [26]), ([4, 5], [27]), ([4, 5, 6], [28]), ([4, 5, 6, 7], [29]), ([0, 1, 2, 3, 4, 5, 6, 7, 8], [25, 30]), ([0, 1, 2, 3, 4, 5, 6, 7, 8, 9], [31]), ([], [1]), ([0, 1, 2, 3, 4, 5, 6, 7, 8, 9, 10, 11], []), ([0, 1, 2, 3, 4, 5, 6, 7, 8, 9, 10, 11, 12], [])] fol (by kernel_rfl) ?_
  simp (disch := omega) only [go_sem, if_pos, t37, s3, a3, s37, a37, o49_1, o49_0, e1, e2, e37, List.getElem?_map, hx]
  refine callB_mk ⟨⟨[], [], []⟩, [], []⟩ (f35_ok x m h1 h2 hxw.1 hxw.2) (by simp (disch := omega) only [go_sem, if_pos]) (by decide) trivial (.inl rfl) ?_
  simp (disch := omega) only [go_sem, if_pos]
  refine ret_mk ⟨[], [(63, 63)], []⟩ _ rfl ⟨rfl, rfl⟩ (by simp [lk]) ?_ ?_
  · simp (disch := omega) only [go_sem, if_pos, hxd]
  · simp (disch := omega) only [go_sem, if_pos]
    exact .int (by omega)
theorem f23_ok (l : List Int) : FnOK C0 23 [ints l] [] (.v (.bool (decide (l.length ≤ 400)))) [] := by
  refine FnOK.intro (fn := Try.f23) (c := Try.f23.body.getD .skip) (by kernel_rfl) (by kernel_rfl) (by kernel_rfl) (by kernel_rfl) (by simp [Try.f23]) (by simp [names]) ?_
  unfold Try.f23
  simp (disch := omega) only [go_sem, if_pos, t37]
  refine ret_mk ⟨[], [], []⟩ _ rfl ⟨rfl, rfl⟩ (by simp) ?_ trivial
  simp (disch := omega) only [go_sem, if_pos]
  refine .eq ?_
  congr 2
  simp
  omega
end Go.Ch
