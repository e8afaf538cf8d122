import Derived.Test.YtfnniffkgoimeaaCh2
set_option linter.all false
open Go Go.Abs Go.Proofs
set_option maxRecDepth 100000
namespace Go.Ch
theorem chk_zero {l : List Bs} {k : Int} (h : chk l k = 0) : valid l = true ∧ ∃ n : Nat, k = n ∧ n < l.length := by
  unfold chk at h
  split at h
  · rename_i hv
    split at h
    · cases h
    · rename_i hk
      exact ⟨hv, k.toNat, by omega, by omega⟩
  · cases h
theorem at_nat (l : List Bs) (n : Nat) (h : n < l.length) : l[n]? = some (at_ l n) := by
  simp [at_, List.getD, h]
theorem at_mem (l : List Bs) (n : Nat) (h : n < l.length) : at_ l n ∈ l := List.mem_of_getElem? (at_nat l n h)
def delB (l : List Bs) (k : Int) : Bs := if chk l k = 0 then at_ l k else []
def delL (l : List Bs) (k : Int) : List Bs := if chk l k = 0 then without l k.toNat else []
def dblE (l : List Bs) (k : Int) : Int := if chk l k = 0 then (if 8 ≤ l.length then 20 else 0) else chk l k
def dblL (l : List Bs) (k : Int) : List Bs := if chk l k = 0 ∧ l.length < 8 then l ++ [at_ l k] else []

theorem f29_ok (l : List Bs) (h : l.length ≤ 1000) (hb : ∀ b ∈ l, b.length ≤ 10000) (k : Nat) (hk : k < l.length) :
    FnOK C0 29 [ms l, .v (.int .i64 k)] [] (.sl (.own 0 0) 1 (es (without l k))) [] := by
  refine FnOK.intro (fn := Try.f29) (c := Try.f29.body.getD .skip) (by kernel_rfl) (by kernel_rfl) (by kernel_rfl) (by kernel_rfl) (by simp [Try.f29]) (by simp [names]) ?_
  unfold Try.f29
  simp (disch := omega) only [go_sem, if_pos, t22, r22, e22]
  refine draw_mk 9 [([], [0]), ([], [1]), ([], [1]), ([0, 1, 2], [5, 6, 7]), ([0, 1, 2, 3], [8]), ([], [0]), ([], [1]), ([6], [11]), ([5, 6, 7], [10, 12]), ([0, 1, 2, 3, 4, 5, 6, 7, 8], []), ([0, 1, 2, 3, 4, 5, 6, 7, 8, 9], []), ([0, 1, 2, 3, 4, 5, 6, 7, 8, 9, 10], [])] fol (by kernel_rfl) ?_
  simp (disch := omega) only [go_sem, if_pos, t22, r22, e22, wrap64]
  refine freeCall_mk ⟨⟨[], [], []⟩, [(0, 576)], []⟩ (f26_ok (l.take k) (by simp; omega) (fun b hm => by have := hb b (List.mem_of_mem_take hm); omega)) ?_ (by decide) rfl trivial (.inl rfl) ?_
  · simp (disch := omega) only [go_sem, if_pos, ← List.map_take]
  simp (disch := omega) only [go_sem, if_pos, t22, r22, e22, wrap64]
  have e1 : (k : Int) + 1 = ((k + 1 : Nat) : Int) := by omega
  simp (disch := omega) only [go_sem, if_pos, e1, t22, r22, e22, wrap64]
  refine callB_mk ⟨⟨[], [], []⟩, [(0, 896)], []⟩ (f26_ok (l.drop (k + 1)) (by simp; omega) (fun b hm => by have := hb b (List.mem_of_mem_drop hm); omega)) ?_ (by decide) trivial (.inl rfl) ?_
  · simp (disch := omega) only [go_sem, if_pos, ← List.map_drop]
    exact .sl (List.take_of_length_le (by simp))
  simp (disch := omega) only [go_sem, if_pos, t22, r22, e22, wrap64]
  refine ret_mk ⟨[(960, 0)], [], []⟩ _ rfl ⟨rfl, rfl⟩ (by simp) ?_ trivial
  simp (disch := omega) only [go_sem, if_pos]
  exact .sl (by simp [without])

theorem f10_ok (l : List Bs) (k : Int) : FnOK C0 10 [ms l, .v (.int .i64 k)] [] (.tup [.sl (.own 0 0) 1 (bytesAV (delB l k)), .sl (.own 1 0) 1 (es (delL l k)), .v (.int .i64 (chk l k))]) [] := by
  refine FnOK.intro (fn := Try.f10) (c := Try.f10.body.getD .skip) (by kernel_rfl) (by kernel_rfl) (by kernel_rfl) (by kernel_rfl) (by simp [Try.f10]) (by simp [names]) ?_
  unfold Try.f10
  simp (disch := omega) only [go_sem, if_pos, t22]
  refine call_pure (f28_ok l k) (by simp (disch := omega) only [go_sem, if_pos]) rfl ?_
  simp (disch := omega) only [go_sem, if_pos, t22]
  refine ⟨fun h => ?_, fun h => ?_⟩
  · refine ret_mk ⟨[], [], []⟩ _ rfl ⟨rfl, rfl⟩ (by simp) ?_ trivial
    simp at h
    simp only [delB, delL, h]
    simp (disch := omega) only [go_sem, if_pos]
    exact .tup (.cons (.nilOwn (by omega)) (.cons (.nilOwn (by omega)) (.cons .rfl .nil)))
  have h0 : chk l k = 0 := by simpa using h
  obtain ⟨hv, n, rfl, hn⟩ := chk_zero h0
  have hl := valid_len hv
  have hm := valid_mem hv
  have ha := at_nat l n hn
  simp (disch := omega) only [go_sem, if_pos, t22, e22, s25, a25, List.getElem?_map, ha]
  refine callB_mk ⟨⟨[], [], []⟩, [(0, 1152)], []⟩ (f27_ok (at_ l n) (by have := hm _ (at_mem l n hn); omega)) (by simp (disch := omega) only [go_sem, if_pos]) (by decide) trivial (.inl rfl) ?_
  simp (disch := omega) only [go_sem, if_pos, t22, e22, s25, a25]
  refine callB_mk ⟨⟨[], [], []⟩, [(0, 1344)], []⟩ (f29_ok l (by omega) (fun b hb => by have := hm b hb; omega) n hn) (by simp (disch := omega) only [go_sem, if_pos]) (by decide) trivial (.inl rfl) ?_
  simp (disch := omega) only [go_sem, if_pos]
  refine ret_mk ⟨[(1152, 0), (1344, 1)], [], []⟩ _ rfl ⟨rfl, rfl⟩ (by simp) ?_ trivial
  simp only [delB, delL, h0]
  simp (disch := omega) only [go_sem, if_pos]

theorem f18_ok (l : List Bs) (k : Int) : FnOK C0 18 [ms l, .v (.int .i64 k)] [] (.tup [.sl (.own 0 0) 1 (es (delL l k)), .v (.int .i64 (chk l k))]) [] := by
  refine FnOK.intro (fn := Try.f18) (c := Try.f18.body.getD .skip) (by kernel_rfl) (by kernel_rfl) (by kernel_rfl) (by kernel_rfl) (by simp [Try.f18]) (by simp [names]) ?_
  unfold Try.f18
  simp (disch := omega) only [go_sem, if_pos, t22]
  refine call_pure (f28_ok l k) (by simp (disch := omega) only [go_sem, if_pos]) rfl ?_
  simp (disch := omega) only [go_sem, if_pos, t22]
  refine ⟨fun h => ?_, fun h => ?_⟩
  · refine ret_mk ⟨[], [], []⟩ _ rfl ⟨rfl, rfl⟩ (by simp) ?_ trivial
    simp at h
    simp only [delL, h]
    simp (disch := omega) only [go_sem, if_pos]
    exact .tup (.cons (.nilOwn (by omega)) (.cons .rfl .nil))
  have h0 : chk l k = 0 := by simpa using h
  obtain ⟨hv, n, rfl, hn⟩ := chk_zero h0
  have hl := valid_len hv
  have hm := valid_mem hv
  refine callB_mk ⟨⟨[], [], []⟩, [(0, 960)], []⟩ (f29_ok l (by omega) (fun b hb => by have := hm b hb; omega) n hn) (by simp (disch := omega) only [go_sem, if_pos]) (by decide) trivial (.inl rfl) ?_
  simp (disch := omega) only [go_sem, if_pos]
  refine ret_mk ⟨[(960, 0)], [], []⟩ _ rfl ⟨rfl, rfl⟩ (by simp) ?_ trivial
  simp only [delL, h0]
  simp (disch := omega) only [go_sem, if_pos]

theorem f14_ok (l : List Bs) (k : Int) : FnOK C0 14 [ms l, .v (.int .i64 k)] [] (.tup [.sl (.own 0 0) 1 (es (dblL l k)), .v (.int .i64 (dblE l k))]) [] := by
  refine FnOK.intro (fn := Try.f14) (c := Try.f14.body.getD .skip) (by kernel_rfl) (by kernel_rfl) (by kernel_rfl) (by kernel_rfl) (by simp [Try.f14]) (by simp [names]) ?_
  unfold Try.f14
  simp (disch := omega) only [go_sem, if_pos, t22]
  refine call_pure (f28_ok l k) (by simp (disch := omega) only [go_sem, if_pos]) rfl ?_
  simp (disch := omega) only [go_sem, if_pos, t22]
  refine ⟨fun h => ?_, fun h => ?_⟩
  · refine ret_mk ⟨[], [], []⟩ _ rfl ⟨rfl, rfl⟩ (by simp) ?_ trivial
    simp at h
    simp only [dblL, dblE, h]
    simp (disch := omega) only [go_sem, if_pos]
    exact .tup (.cons (.nilOwn (by omega)) (.cons .rfl .nil))
  have h0 : chk l k = 0 := by simpa using h
  obtain ⟨hv, n, rfl, hn⟩ := chk_zero h0
  have hl := valid_len hv
  have hm := valid_mem hv
  have ha := at_nat l n hn
  refine ⟨fun h2 => ?_, fun h2 => ?_⟩
  · refine ret_mk ⟨[], [], []⟩ _ rfl ⟨rfl, rfl⟩ (by simp) ?_ trivial
    simp at h2
    have e1 : 8 ≤ l.length := by omega
    have e2 : ¬ l.length < 8 := by omega
    simp only [dblL, dblE, h0, e1, e2]
    simp (disch := omega) only [go_sem, if_pos]
    exact .tup (.cons (.nilOwn (by omega)) (.cons .rfl .nil))
  simp at h2
  have e1 : ¬ 8 ≤ l.length := by omega
  have e2 : l.length < 8 := by omega
  refine draw_mk 6 [([], [0]), ([0], [16]), ([], [0]), ([], [1]), ([2, 3], [18, 19]), ([2, 3, 4], [20]), ([0, 1, 2, 3, 4, 5], []), ([0, 1, 2, 3, 4, 5, 6], []), ([0, 1, 2, 3, 4, 5, 6, 7], []), ([0, 1, 2, 3, 4, 5, 6, 7, 8], []), ([0, 1, 2, 3, 4, 5, 6, 7, 8, 9], [])] fol (by kernel_rfl) ?_
  simp (disch := omega) only [go_sem, if_pos, t22, r22, e22, wrap64]
  refine freeCall_mk ⟨⟨[], [], []⟩, [(0, 1088)], []⟩ (f26_ok l (by omega) (fun b hb => by have := hm b hb; omega)) (by simp (disch := omega) only [go_sem, if_pos]) (by decide) rfl trivial (.inl rfl) ?_
  simp (disch := omega) only [go_sem, if_pos, t22, e22, s25, a25, List.getElem?_map, ha]
  refine callB_mk ⟨⟨[], [], []⟩, [(0, 1408)], []⟩ (f27_ok (at_ l n) (by have := hm _ (at_mem l n hn); omega)) (by simp (disch := omega) only [go_sem, if_pos]) (by decide) trivial (.inl rfl) ?_
  simp (disch := omega) only [go_sem, if_pos, t22, r22, e22, s25, a25, z25]
  refine ret_mk ⟨[(1536, 0)], [], []⟩ _ rfl ⟨rfl, rfl⟩ (by simp) ?_ trivial
  simp only [dblL, dblE, h0, e1, e2]
  simp (disch := omega) only [go_sem, if_pos]
  exact .eq (by simp)
