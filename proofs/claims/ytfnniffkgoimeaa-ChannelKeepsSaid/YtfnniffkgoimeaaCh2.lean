import Derived.Test.YtfnniffkgoimeaaCh1
set_option linter.all false
open Go Go.Abs Go.Proofs
set_option maxRecDepth 100000
namespace Go.Ch
/-- the check of a place: 0 good, 1 no such place, 2 no channel -/
def chk (l : List Bs) (k : Int) : Int := if valid l then (if k < 0 ∨ (l.length : Int) ≤ k then 1 else 0) else 2
def sendE (l : List Bs) (p : Bs) : Int := if valid l then (if okP p then (if 8 ≤ l.length then 20 else 0) else 1) else 2
def sendL (l : List Bs) (p : Bs) : List Bs := if valid l && okP p && decide (l.length < 8) then l ++ [p] else []
def at_ (l : List Bs) (k : Int) : Bs := l.getD k.toNat []
def without (l : List Bs) (k : Nat) : List Bs := l.take k ++ l.drop (k + 1)

theorem f11_ok (l : List Bs) : FnOK C0 11 [ms l] [] (.v (.bool (valid l))) [] := by
  refine FnOK.intro (fn := Try.f11) (c := Try.f11.body.getD .skip) (by kernel_rfl) (by kernel_rfl) (by kernel_rfl) (by kernel_rfl) (by simp [Try.f11]) (by simp [names]) ?_
  unfold Try.f11
  simp (disch := omega) only [go_sem, if_pos, t22]
  refine ⟨fun h => ?_, fun h => ?_⟩
  · refine ret_mk ⟨[], [], []⟩ _ rfl ⟨rfl, rfl⟩ (by simp) ?_ trivial
    simp (disch := omega) only [go_sem, if_pos]
    refine .eq ?_
    simp at h
    simp [valid]
    omega
  simp at h
  refine loop_intro (α := Nat) (fun i => ⟨[(10, .v (.int .i64 i)), (9, .v (.int .i64 l.length)), (8, ms l)], []⟩) (fun i => i ≤ l.length ∧ (l.take i).all okP = true) (fun i => l.length - i) 0 (by simp) ?_ ?_
  · refine Imp.weak ?_ ?_
    · simp (disch := omega) only [go_sem, if_pos]
    · simp (disch := omega) only [go_sem, if_pos]
  intro i hi J hJ
  simp (disch := omega) only [go_sem, if_pos, t22, e22]
  refine ⟨fun hlt => ?_, fun hge => ?_⟩
  · simp at hlt
    obtain ⟨b, hb⟩ : ∃ b, l[i]? = some b := ⟨_, List.getElem?_eq_getElem hlt⟩
    simp (disch := omega) only [go_sem, if_pos, t22, e22, s25, a25, List.getElem?_map, hb]
    refine call_pure (f30_ok b) (by simp (disch := omega) only [go_sem, if_pos]) rfl ?_
    simp (disch := omega) only [go_sem, if_pos, wrap64]
    refine ⟨fun h => ?_, fun h => ?_⟩
    · refine ret_mk ⟨[], [], []⟩ _ rfl ⟨rfl, rfl⟩ (by simp) ?_ trivial
      simp (disch := omega) only [go_sem, if_pos]
      refine .eq ?_
      have hm := List.mem_of_getElem? hb
      simp at h
      have : l.all okP = false := by
        rw [List.all_eq_false]; exact ⟨b, hm, by simp [h]⟩
      simp [valid, this]
    · refine hJ _ (i + 1) ⟨by omega, ?_⟩ (by omega) (Imp.weak ?_ ?_)
      · simp at h
        rw [List.take_add_one, hb]
        simp [h, hi.2]
      · simp (disch := omega) only [go_sem, if_pos]
        exact .int (by omega)
      · simp (disch := omega) only [go_sem, if_pos]
  · simp at hge
    refine ret_mk ⟨[], [], []⟩ _ rfl ⟨rfl, rfl⟩ (by simp) ?_ trivial
    simp (disch := omega) only [go_sem, if_pos]
    refine .eq ?_
    have h2 := hi.2
    rw [List.take_of_length_le (by omega)] at h2
    simp [valid, h2]
    omega


theorem f28_ok (l : List Bs) (k : Int) : FnOK C0 28 [ms l, .v (.int .i64 k)] [] (.v (.int .i64 (chk l k))) [] := by
  refine FnOK.intro (fn := Try.f28) (c := Try.f28.body.getD .skip) (by kernel_rfl) (by kernel_rfl) (by kernel_rfl) (by kernel_rfl) (by simp [Try.f28]) (by simp [names]) ?_
  unfold Try.f28
  simp (disch := omega) only [go_sem, if_pos, t22]
  refine call_pure (f22_ok l) (by simp (disch := omega) only [go_sem, if_pos]) rfl ?_
  simp (disch := omega) only [go_sem, if_pos, t22]
  refine ⟨fun h => ?_, fun h => ?_⟩
  · refine ret_mk ⟨[], [], []⟩ _ rfl ⟨rfl, rfl⟩ (by simp) ?_ trivial
    simp (disch := omega) only [go_sem, if_pos]
    refine .int ?_
    simp at h
    simp [chk, h]
  simp at h
  refine ⟨fun h1 => ?_, fun h1 => ?_⟩
  · refine ⟨fun h2 => ?_, fun h2 => ?_⟩
    · refine ret_mk ⟨[], [], []⟩ _ rfl ⟨rfl, rfl⟩ (by simp) ?_ trivial
      simp (disch := omega) only [go_sem, if_pos]
      refine .int ?_
      simp at h1 h2
      simp [chk, h, h2]
    · refine ret_mk ⟨[], [], []⟩ _ rfl ⟨rfl, rfl⟩ (by simp) ?_ trivial
      simp (disch := omega) only [go_sem, if_pos]
      refine .int ?_
      simp at h1 h2
      simp only [chk, h, if_true]
      rw [if_neg (by omega)]
  · refine ret_mk ⟨[], [], []⟩ _ rfl ⟨rfl, rfl⟩ (by simp) ?_ trivial
    simp (disch := omega) only [go_sem, if_pos]
    refine .int ?_
    simp at h1
    simp [chk, h, h1]

theorem f32_ok (l : List Bs) (k : Int) : FnOK C0 32 [ms l, .v (.int .i64 k)] [] (.v (.int .i64 (chk l k))) [] := by
  refine FnOK.intro (fn := Try.f32) (c := Try.f32.body.getD .skip) (by kernel_rfl) (by kernel_rfl) (by kernel_rfl) (by kernel_rfl) (by simp [Try.f32]) (by simp [names]) ?_
  unfold Try.f32
  simp (disch := omega) only [go_sem, if_pos, t22]
  refine call_pure (f11_ok l) (by simp (disch := omega) only [go_sem, if_pos]) rfl ?_
  simp (disch := omega) only [go_sem, if_pos, t22]
  refine ⟨fun h => ?_, fun h => ?_⟩
  · refine ret_mk ⟨[], [], []⟩ _ rfl ⟨rfl, rfl⟩ (by simp) ?_ trivial
    simp (disch := omega) only [go_sem, if_pos]
    refine .int ?_
    simp at h
    simp [chk, h]
  simp at h
  refine ⟨fun h1 => ?_, fun h1 => ?_⟩
  · refine ⟨fun h2 => ?_, fun h2 => ?_⟩
    · refine ret_mk ⟨[], [], []⟩ _ rfl ⟨rfl, rfl⟩ (by simp) ?_ trivial
      simp (disch := omega) only [go_sem, if_pos]
      refine .int ?_
      simp at h1 h2
      simp [chk, h, h2]
    · refine ret_mk ⟨[], [], []⟩ _ rfl ⟨rfl, rfl⟩ (by simp) ?_ trivial
      simp (disch := omega) only [go_sem, if_pos]
      refine .int ?_
      simp at h1 h2
      simp only [chk, h, if_true]
      rw [if_neg (by omega)]
  · refine ret_mk ⟨[], [], []⟩ _ rfl ⟨rfl, rfl⟩ (by simp) ?_ trivial
    simp (disch := omega) only [go_sem, if_pos]
    refine .int ?_
    simp at h1
    simp [chk, h, h1]

theorem f9_ok (l : List Bs) (p : Bs) : FnOK C0 9 [ms l, bt p] [] (.tup [.sl (.own 0 0) 1 (es (sendL l p)), .v (.int .i64 (sendE l p))]) [] := by
  refine FnOK.intro (fn := Try.f9) (c := Try.f9.body.getD .skip) (by kernel_rfl) (by kernel_rfl) (by kernel_rfl) (by kernel_rfl) (by simp [Try.f9]) (by simp [names]) ?_
  unfold Try.f9
  simp (disch := omega) only [go_sem, if_pos, t22]
  refine call_pure (f22_ok l) (by simp (disch := omega) only [go_sem, if_pos]) rfl ?_
  simp (disch := omega) only [go_sem, if_pos, t22]
  refine ⟨fun h => ?_, fun h => ?_⟩
  · refine ret_mk ⟨[], [], []⟩ _ rfl ⟨rfl, rfl⟩ (by simp) ?_ trivial
    simp at h
    simp only [sendL, sendE, h]
    simp (disch := omega) only [go_sem, if_pos]
    exact .tup (.cons (.nilOwn (by omega)) (.cons .rfl .nil))
  simp at h
  refine call_pure (f25_ok p) (by simp (disch := omega) only [go_sem, if_pos]) rfl ?_
  simp (disch := omega) only [go_sem, if_pos, t22]
  refine ⟨fun h1 => ?_, fun h1 => ?_⟩
  · refine ret_mk ⟨[], [], []⟩ _ rfl ⟨rfl, rfl⟩ (by simp) ?_ trivial
    simp at h1
    simp only [sendL, sendE, h, h1]
    simp (disch := omega) only [go_sem, if_pos]
    exact .tup (.cons (.nilOwn (by omega)) (.cons .rfl .nil))
  simp at h1
  have hl := valid_len h
  refine ⟨fun h2 => ?_, fun h2 => ?_⟩
  · refine ret_mk ⟨[], [], []⟩ _ rfl ⟨rfl, rfl⟩ (by simp) ?_ trivial
    simp at h2
    have e1 : 8 ≤ l.length := by omega
    have e2 : ¬ l.length < 8 := by omega
    simp only [sendL, sendE, h, h1, e1, e2]
    simp (disch := omega) only [go_sem, if_pos]
    exact .tup (.cons (.nilOwn (by omega)) (.cons .rfl .nil))
  simp at h2
  have e1 : ¬ 8 ≤ l.length := by omega
  have e2 : l.length < 8 := by omega
  have hp : p.length ≤ 8192 := by simp [okP] at h1; exact h1.2
  refine callB_mk ⟨⟨[], [], []⟩, [(0, 1216)], []⟩ (f26_ok l (by omega) (fun b hb => by have := valid_mem h b hb; omega)) (by simp (disch := omega) only [go_sem, if_pos]) (by decide) trivial (.inl rfl) ?_
  simp (disch := omega) only [go_sem, if_pos, t22, t25, r25, lb, r22, z25]
  refine callB_mk ⟨⟨[], [], []⟩, [(0, 1344)], []⟩ (f27_ok p (by omega)) (by simp (disch := omega) only [go_sem, if_pos]) (by decide) trivial (.inl rfl) ?_
  simp (disch := omega) only [go_sem, if_pos, t22, t25, r25, lb, r22, z25]
  refine ret_mk ⟨[(1472, 0)], [], []⟩ _ rfl ⟨rfl, rfl⟩ (by simp) ?_ trivial
  simp only [sendL, sendE, h, h1, e1, e2]
  simp (disch := omega) only [go_sem, if_pos]
  refine .eq ?_
  simp

theorem f16_ok (l : List Bs) (p : Bs) : FnOK C0 16 [ms l, bt p] [] (.tup [.sl (.own 0 0) 1 (es (sendL l p)), .v (.int .i64 (sendE l p))]) [] := by
  refine FnOK.intro (fn := Try.f16) (c := Try.f16.body.getD .skip) (by kernel_rfl) (by kernel_rfl) (by kernel_rfl) (by kernel_rfl) (by simp [Try.f16]) (by simp [names]) ?_
  unfold Try.f16
  simp (disch := omega) only [go_sem, if_pos, t22]
  refine call_pure (f11_ok l) (by simp (disch := omega) only [go_sem, if_pos]) rfl ?_
  simp (disch := omega) only [go_sem, if_pos, t22]
  refine ⟨fun h => ?_, fun h => ?_⟩
  · refine ret_mk ⟨[], [], []⟩ _ rfl ⟨rfl, rfl⟩ (by simp) ?_ trivial
    simp at h
    simp only [sendL, sendE, h]
    simp (disch := omega) only [go_sem, if_pos]
    exact .tup (.cons (.nilOwn (by omega)) (.cons .rfl .nil))
  simp at h
  refine call_pure (f30_ok p) (by simp (disch := omega) only [go_sem, if_pos]) rfl ?_
  simp (disch := omega) only [go_sem, if_pos, t22]
  refine ⟨fun h1 => ?_, fun h1 => ?_⟩
  · refine ret_mk ⟨[], [], []⟩ _ rfl ⟨rfl, rfl⟩ (by simp) ?_ trivial
    simp at h1
    simp only [sendL, sendE, h, h1]
    simp (disch := omega) only [go_sem, if_pos]
    exact .tup (.cons (.nilOwn (by omega)) (.cons .rfl .nil))
  simp at h1
  have hl := valid_len h
  refine ⟨fun h2 => ?_, fun h2 => ?_⟩
  · refine ret_mk ⟨[], [], []⟩ _ rfl ⟨rfl, rfl⟩ (by simp) ?_ trivial
    simp at h2
    have e1 : 8 ≤ l.length := by omega
    have e2 : ¬ l.length < 8 := by omega
    simp only [sendL, sendE, h, h1, e1, e2]
    simp (disch := omega) only [go_sem, if_pos]
    exact .tup (.cons (.nilOwn (by omega)) (.cons .rfl .nil))
  simp at h2
  have e1 : ¬ 8 ≤ l.length := by omega
  have e2 : l.length < 8 := by omega
  have hp : p.length ≤ 8192 := by simp [okP] at h1; exact h1.2
  refine callB_mk ⟨⟨[], [], []⟩, [(0, 1216)], []⟩ (f12_ok l (by omega) (fun b hb => by have := valid_mem h b hb; omega)) (by simp (disch := omega) only [go_sem, if_pos]) (by decide) trivial (.inl rfl) ?_
  simp (disch := omega) only [go_sem, if_pos, t22, t25, r25, lb, r22, z25]
  refine ret_mk ⟨[(1472, 0)], [], []⟩ _ rfl ⟨rfl, rfl⟩ (by simp) ?_ trivial
  simp only [sendL, sendE, h, h1, e1, e2]
  simp (disch := omega) only [go_sem, if_pos]
  refine .eq ?_
  simp
