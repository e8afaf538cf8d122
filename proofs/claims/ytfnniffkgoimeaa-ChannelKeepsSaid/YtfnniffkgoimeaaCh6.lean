import Derived.Test.YtfnniffkgoimeaaCh5
set_option linter.all false
open Go Go.Abs Go.Proofs
set_option maxRecDepth 100000
namespace Go.Ch
theorem spot_neg (pos : Int) (s : Nat) (h : 1 ≤ s) (hn : pos.tmod s < 0) : pos.tmod s + s = (spot pos s : Int) := by
  have h1 := tmod_lo pos s (by omega)
  have h2 := (spot_spec pos s h).1
  rw [← h2]
  exact (Int.tmod_eq_of_lt (a := pos.tmod s + s) (by omega) (by omega)).symm
theorem spot_pos (pos : Int) (s : Nat) (h : 1 ≤ s) (hn : 0 ≤ pos.tmod s) : pos.tmod s = (spot pos s : Int) := by
  have h1 := tmod_hi pos s (by omega)
  have h2 := (spot_spec pos s h).1
  rw [← h2, Int.tmod_eq_emod_of_nonneg (a := pos.tmod s + s) (by omega), Int.add_emod_right, Int.emod_eq_of_lt hn h1]
theorem f21_ok (l : List Bs) (k pos x : Int) : FnOK C0 21 [ms l, .v (.int .i64 k), .v (.int .i64 pos), .v (.int .i64 x)] [] (.tup [.hnd .dsl 0 0 0 0 1 ((spoilL l k pos x).map bytesAV), .v (.int .i64 (chk l k))]) [] := by
  refine FnOK.intro (fn := Try.f21) (c := Try.f21.body.getD .skip) (by kernel_rfl) (by kernel_rfl) (by kernel_rfl) (by kernel_rfl) (by simp [Try.f21]) (by simp [names]) ?_
  unfold Try.f21
  simp (disch := omega) only [go_sem, if_pos, t22]
  refine call_pure (f32_ok l k) (by simp (disch := omega) only [go_sem, if_pos]) rfl ?_
  simp (disch := omega) only [go_sem, if_pos, t22]
  refine ⟨fun h => ?_, fun h => ?_⟩
  · refine ret_mk ⟨[], [], []⟩ _ rfl ⟨rfl, rfl⟩ (by simp) ?_ trivial
    simp at h
    simp only [spoilL, h]
    simp (disch := omega) only [go_sem, if_pos]
    exact .tup (.cons (.nilDsl (by omega)) (.cons .rfl .nil))
  have h0 : chk l k = 0 := by simpa using h
  obtain ⟨hv, n, rfl, hn⟩ := chk_zero h0
  have hl := valid_len hv
  have hm := valid_mem hv
  have ha := at_nat l n hn
  have hmem := at_mem l n hn
  have hp := valid_pos hv _ hmem
  have hm1 := hm _ hmem
  refine callB_mk ⟨⟨[], [], []⟩, [(0, 1280)], []⟩ (f12_dp l (by omega) (fun b hb => by have := hm b hb; omega)) (by simp (disch := omega) only [go_sem, if_pos]) (by decide) trivial (.inl rfl) ?_
  simp (disch := omega) only [go_sem, if_pos, t22, r22, e22, s25, a25, z25, List.getElem?_map, ha, t25, lb]
  have hz : ¬ (((at_ l n).length : Int) = 0) := by omega
  have hlo := tmod_lo pos (at_ l n).length (by omega)
  have hhi := tmod_hi pos (at_ l n).length (by omega)
  obtain ⟨hs1, hs2⟩ := spot_spec pos (at_ l n).length hp
  have hby := bytes_at _ _ hs2
  simp (disch := omega) only [go_sem, if_pos, hz]
  refine ⟨fun hneg => ?_, fun hpos => ?_⟩
  · simp at hneg
    have hq := spot_neg pos (at_ l n).length hp hneg
    simp (disch := omega) only [go_sem, if_pos, t22, r22, e22, s25, a25, z25, List.getElem?_map, ha, t25, lb, e25, hz, wrap64, hq, hby, s5, a5, i3, i5, low_spec, bits_xor8]
    refine ret_mk ⟨[(1280, 0)], [], []⟩ _ rfl ⟨rfl, rfl⟩ (by simp) ?_ trivial
    simp (disch := omega) only [go_sem, if_pos, spoil_set l n hn pos x _ rfl]
    simp only [spoilL, h0]
    simp (disch := omega) only [go_sem, if_pos]
  · simp at hpos
    have hq := spot_pos pos (at_ l n).length hp hpos
    simp (disch := omega) only [go_sem, if_pos, t22, r22, e22, s25, a25, z25, List.getElem?_map, ha, t25, lb, e25, hz, wrap64, hq, hby, s5, a5, i3, i5, low_spec, bits_xor8]
    refine ret_mk ⟨[(1280, 0)], [], []⟩ _ rfl ⟨rfl, rfl⟩ (by simp) ?_ trivial
    simp (disch := omega) only [go_sem, if_pos, spoil_set l n hn pos x _ rfl]
    simp only [spoilL, h0]
    simp (disch := omega) only [go_sem, if_pos]
