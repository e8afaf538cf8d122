import Derived.Test.YtfnniffkgoimeaaCh8
set_option linter.all false
open Go Go.Abs Go.Proofs
set_option maxRecDepth 100000
namespace Go.Ch
theorem send_zero {q : List Bs} {p : Bs} (h : sendE q p = 0) : sendL q p = q ++ [p] ∧ valid (q ++ [p]) = true := by
  unfold sendE at h
  split at h
  · rename_i hv
    split at h
    · rename_i hp
      split at h
      · cases h
      · rename_i hl
        have hl' : q.length < 8 := by omega
        refine ⟨by simp [sendL, hv, hp, hl'], ?_⟩
        simp [valid] at hv ⊢
        exact ⟨by omega, hv.2, hp⟩
    · cases h
  · cases h
theorem valid_drop {q : List Bs} (h : valid q = true) (i : Nat) : valid (q.drop i) = true := by
  simp [valid] at h ⊢
  exact ⟨by omega, fun b hb => h.2 b (List.mem_of_mem_drop hb)⟩

theorem f3_ok (l : List Bs) : FnOK C0 3 [ms l] [] (.v (.bool true)) [] := by
  refine FnOK.intro (fn := Try.f3) (c := Try.f3.body.getD .skip) (by kernel_rfl) (by kernel_rfl) (by kernel_rfl) (by kernel_rfl) (by simp [Try.f3]) (by simp [names]) ?_
  unfold Try.f3
  by_cases hbig : 8 < l.length
  · have e1 : ((8 : Int) < (l.length : Int)) = True := by simp; omega
    simp (disch := omega) only [go_sem, if_pos, t22, e1]
    refine call_pure f8_ok (by simp (disch := omega) only [go_sem, if_pos]) rfl ?_
    simp (disch := omega) only [go_sem, if_pos]
    refine ret_mk ⟨[], [], []⟩ _ rfl ⟨rfl, rfl⟩ (by simp) ?_ trivial
    simp (disch := omega) only [go_sem, if_pos]
  have e1 : ((8 : Int) < (l.length : Int)) = False := by simp; omega
  simp (disch := omega) only [go_sem, if_pos, t22, e1]
  refine call_pure (f7_ok l) (by simp (disch := omega) only [go_sem, if_pos]) rfl ?_
  simp (disch := omega) only [go_sem, if_pos, t22]
  refine ⟨fun h => ?_, fun h => ?_⟩
  · refine call_pure f8_ok (by simp (disch := omega) only [go_sem, if_pos]) rfl ?_
    simp (disch := omega) only [go_sem, if_pos]
    refine ret_mk ⟨[], [], []⟩ _ rfl ⟨rfl, rfl⟩ (by simp) ?_ trivial
    simp (disch := omega) only [go_sem, if_pos]
  refine loop_intro (α := Nat × List Bs) (fun s => ⟨[(25, .v (.int .i64 s.1)), (24, .v (.int .i64 l.length)), (23, ms l), (3, ms s.2), (4, .sl (.own 2624 0) 1 (es s.2))], []⟩) (fun s => s.1 ≤ l.length ∧ valid s.2 = true) (fun s => l.length - s.1) (0, []) (by simp [valid]) ?_ ?_
  · refine Imp.weak ?_ ?_
    · simp (disch := omega) only [go_sem, if_pos]
      exact .nilNo (by omega)
    · simp (disch := omega) only [go_sem, if_pos]
  rintro ⟨i, q⟩ ⟨hi, hv⟩ J hJ
  replace hi : i ≤ l.length := hi
  replace hv : valid q = true := hv
  simp (disch := omega) only [go_sem, if_pos, t22, e22]
  refine ⟨fun hlt => ?_, fun hge => ?_⟩
  · simp at hlt
    obtain ⟨b, hb⟩ : ∃ b, l[i]? = some b := ⟨_, List.getElem?_eq_getElem hlt⟩
    simp (disch := omega) only [go_sem, if_pos, t22, e22, s25, a25, List.getElem?_map, hb]
    refine call_pure (f9_ro q b) (by simp (disch := omega) only [go_sem, if_pos]) rfl ?_
    have hl : q.length ≤ 8 := valid_len hv
    simp (disch := omega) only [go_sem, if_pos, t22, r22, e22, z25, wrap64]
    refine ⟨fun h0 => ?_, fun h0 => ?_⟩
    · simp at h0
      obtain ⟨h1, h2⟩ := send_zero h0
      refine hJ _ (i + 1, q ++ [b]) ⟨by simp; omega, h2⟩ (by simp; omega) (Imp.weak ?_ ?_)
      · simp (disch := omega) only [go_sem, if_pos, h1]
        exact ⟨.int (by omega), .eq (by simp)⟩
      · simp (disch := omega) only [go_sem, if_pos]
    · refine hJ _ (i + 1, q) ⟨by simp; omega, hv⟩ (by simp; omega) (Imp.weak ?_ ?_)
      · simp (disch := omega) only [go_sem, if_pos]
        exact .int (by omega)
      · simp (disch := omega) only [go_sem, if_pos]
  have hl : q.length ≤ 8 := valid_len hv
  refine loop_intro (α := Nat) (fun j => ⟨[(45, .v (.int .i64 j)), (44, .v (.int .i64 q.length)), (43, ms q), (3, ms (q.drop j))], []⟩) (fun j => j ≤ q.length) (fun j => q.length - j) 0 (by omega) ?_ ?_
  · refine Imp.ren ⟨[], [], [2624]⟩ ⟨rfl, rfl⟩ (by simp) ?_ ?_
    · simp (disch := omega) only [go_sem, if_pos]
    · simp (disch := omega) only [go_sem, if_pos]
  intro j hj J2 hJ2
  simp (disch := omega) only [go_sem, if_pos, t22, e22]
  refine ⟨fun hlt => ?_, fun hge2 => ?_⟩
  · simp at hlt
    obtain ⟨b, hb⟩ : ∃ b, q[j]? = some b := ⟨_, List.getElem?_eq_getElem hlt⟩
    simp (disch := omega) only [go_sem, if_pos, t22, e22, s25, a25, List.getElem?_map, hb]
    refine call_pure (f10_ro (q.drop j) 0) (by simp (disch := omega) only [go_sem, if_pos]) rfl ?_
    have hd : 0 < (q.drop j).length := by simp; omega
    have h0 : chk (q.drop j) 0 = 0 := by
      simp only [chk, valid_drop hv j, if_true]
      rw [if_neg (by omega)]
    have h1 : delB (q.drop j) 0 = b := by
      have := at_nat (q.drop j) 0 hd
      simp [delB, h0]
      rw [List.getElem?_drop] at this
      simp [hb] at this
      simpa using this.symm
    have h2 : delL (q.drop j) 0 = q.drop (j + 1) := by
      simp [delL, h0, without]
    simp (disch := omega) only [go_sem, if_pos, h0, h1, h2, b25, st9, unbytes_bytes, ba_toList, wrap64]
    refine hJ2 _ (j + 1) (by omega) (by omega) (Imp.weak ?_ ?_)
    · simp (disch := omega) only [go_sem, if_pos]
      exact .int (by omega)
    · simp (disch := omega) only [go_sem, if_pos]
  · simp at hge2
    refine call_pure f8_ok (by simp (disch := omega) only [go_sem, if_pos]) rfl ?_
    have hn : q.drop j = [] := List.drop_eq_nil_of_le (by omega)
    simp (disch := omega) only [go_sem, if_pos, hn, t22]
    refine ret_mk ⟨[], [], []⟩ _ rfl ⟨rfl, rfl⟩ (by simp) ?_ trivial
    simp (disch := omega) only [go_sem, if_pos]
