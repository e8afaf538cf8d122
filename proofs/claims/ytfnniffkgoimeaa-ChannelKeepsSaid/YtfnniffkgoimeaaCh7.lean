import Derived.Test.YtfnniffkgoimeaaCh6
set_option linter.all false
open Go Go.Abs Go.Proofs
set_option maxRecDepth 100000
namespace Go.Ch
theorem f17_ok (l : List Bs) (k : Int) : FnOK C0 17 [ms l, .v (.int .i64 k)] [] (.tup [bt (delB l k), ms (delL l k), .v (.int .i64 (chk l k))]) [] := by
  refine FnOK.intro (fn := Try.f17) (c := Try.f17.body.getD .skip) (by kernel_rfl) (by kernel_rfl) (by kernel_rfl) (by kernel_rfl) (by simp [Try.f17]) (by simp [names]) ?_
  unfold Try.f17
  simp (disch := omega) only [go_sem, if_pos, t22]
  refine call_pure (f32_ok l k) (by simp (disch := omega) only [go_sem, if_pos]) rfl ?_
  simp (disch := omega) only [go_sem, if_pos, t22]
  refine ⟨fun h => ?_, fun h => ?_⟩
  · refine ret_mk ⟨[], [], []⟩ _ rfl ⟨rfl, rfl⟩ (by simp) ?_ trivial
    simp at h
    simp only [delB, delL, h]
    simp (disch := omega) only [go_sem, if_pos]
    exact .tup (.cons (.nilNo (by omega)) (.cons (.nilNo (by omega)) (.cons .rfl .nil)))
  have h0 : chk l k = 0 := by simpa using h
  obtain ⟨hv, n, rfl, hn⟩ := chk_zero h0
  have hl := valid_len hv
  have hm := valid_mem hv
  have ha := at_nat l n hn
  refine callB_mk ⟨⟨[], [], []⟩, [(0, 1088)], []⟩ (f12_ok l (by omega) (fun b hb => by have := hm b hb; omega)) (by simp (disch := omega) only [go_sem, if_pos]) (by decide) trivial (.inl rfl) ?_
  simp (disch := omega) only [go_sem, if_pos, t22, r22, e22, s25, a25, List.getElem?_map, ha]
  refine drawA_imp (st' := ⟨[(9, bt (at_ l n)), (8, ms l), (1, .v (.int .i64 n))], []⟩) (Imp.ren ⟨[], [], [1088]⟩ ⟨rfl, rfl⟩ (by simp) (by simp (disch := omega) only [go_sem, if_pos]) (by simp (disch := omega) only [go_sem, if_pos])) ?_
  have e1 : (n : Int) + 1 = ((n + 1 : Nat) : Int) := by omega
  refine draw_mk 10 [([], [9]), ([], [8]), ([], [1]), ([], [1]), ([1, 2, 3], [23, 24, 25]), ([], [8]), ([], [1]), ([6], [28]), ([5, 6, 7], [27, 29]), ([1, 2, 3, 4, 5, 6, 7, 8], [26, 30]), ([0, 1, 2, 3, 4, 5, 6, 7, 8, 9], []), ([0, 1, 2, 3, 4, 5, 6, 7, 8, 9, 10], []), ([0, 1, 2, 3, 4, 5, 6, 7, 8, 9, 10, 11], [])] fol (by kernel_rfl) ?_
  simp (disch := omega) only [go_sem, if_pos, t22, r22, e22, s25, a25, wrap64, e1]
  refine ret_mk ⟨[], [], []⟩ _ rfl ⟨rfl, rfl⟩ (by simp) ?_ trivial
  simp only [delB, delL, h0]
  simp (disch := omega) only [go_sem, if_pos]
  refine .tup (.cons .rfl (.cons (.sl ?_) (.cons .rfl .nil)))
  simp [without]
  rw [List.take_of_length_le (by simp)]

theorem f19_ok (l : List Bs) (k : Int) : FnOK C0 19 [ms l, .v (.int .i64 k)] [] (.tup [ms (delL l k), .v (.int .i64 (chk l k))]) [] := by
  refine FnOK.intro (fn := Try.f19) (c := Try.f19.body.getD .skip) (by kernel_rfl) (by kernel_rfl) (by kernel_rfl) (by kernel_rfl) (by simp [Try.f19]) (by simp [names]) ?_
  unfold Try.f19
  simp (disch := omega) only [go_sem, if_pos]
  refine call_pure (f17_ok l k) (by simp (disch := omega) only [go_sem, if_pos]) rfl ?_
  simp (disch := omega) only [go_sem, if_pos]
  refine ret_mk ⟨[], [], []⟩ _ rfl ⟨rfl, rfl⟩ (by simp) ?_ trivial
  simp (disch := omega) only [go_sem, if_pos]

theorem f20_ok (l : List Bs) (k : Int) : FnOK C0 20 [ms l, .v (.int .i64 k)] [] (.tup [.sl (.own 0 0) 1 (es (dblL l k)), .v (.int .i64 (dblE l k))]) [] := by
  refine FnOK.intro (fn := Try.f20) (c := Try.f20.body.getD .skip) (by kernel_rfl) (by kernel_rfl) (by kernel_rfl) (by kernel_rfl) (by simp [Try.f20]) (by simp [names]) ?_
  unfold Try.f20
  simp (disch := omega) only [go_sem, if_pos, t22]
  refine call_pure (f32_ok l k) (by simp (disch := omega) only [go_sem, if_pos]) rfl ?_
  simp (disch := omega) only [go_sem, if_pos, t22]
  refine ⟨fun h => ?_, fun h => ?_⟩
  · refine ret_mk ⟨[], [], []⟩ _ rfl ⟨rfl, rfl⟩ (by simp) ?_ trivial
    simp at h
    simp only [dblL, dblE, h]
    simp (disch := omega) only [go_sem, if_pos]
    exact .tup (.cons (.nilOwn (by omega)) (.cons .rfl .nil))
  have h0 : chk l k = 0 := by simpa using h
  obtain ⟨hv, n, rfl, hn⟩ := chk_zero h0
  have ha := at_nat l n hn
  have hok : okP (at_ l n) = true := by
    simp [valid] at hv
    exact hv.2 _ (at_mem l n hn)
  simp (disch := omega) only [go_sem, if_pos, t22, e22, s25, a25, List.getElem?_map, ha]
  refine callB_mk ⟨⟨[], [], []⟩, [(0, 1152)], []⟩ (f16_ok l (at_ l n)) (by simp (disch := omega) only [go_sem, if_pos]) (by decide) trivial (.inl rfl) ?_
  simp (disch := omega) only [go_sem, if_pos]
  refine ret_mk ⟨[(1152, 0)], [], []⟩ _ rfl ⟨rfl, rfl⟩ (by simp) ?_ trivial
  have e1 : dblL l n = sendL l (at_ l n) := by
    simp [dblL, sendL, h0, hv, hok]
  have e2 : dblE l n = sendE l (at_ l n) := by
    simp [dblE, sendE, h0, hv, hok]
  simp (disch := omega) only [go_sem, if_pos, e1, e2]
