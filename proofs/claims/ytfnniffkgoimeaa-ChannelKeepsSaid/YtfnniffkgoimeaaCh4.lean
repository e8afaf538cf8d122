import Derived.Test.YtfnniffkgoimeaaCh3
set_option linter.all false
open Go Go.Abs Go.Proofs
set_option maxRecDepth 100000
namespace Go.Ch
theorem ba_loop (bs : ByteArray) : ∀ (n i : Nat) (r : List UInt8), bs.size - i = n → ByteArray.toList.loop bs i r = r.reverse ++ bs.data.toList.drop i := by
  intro n
  induction n with
  | zero =>
    intro i r h
    rw [ByteArray.toList.loop]
    have hs : bs.size = bs.data.size := rfl
    rw [if_neg (by omega), List.drop_eq_nil_of_le (by simp; omega)]
    simp
  | succ n ih =>
    intro i r h
    rw [ByteArray.toList.loop]
    have hs : bs.size = bs.data.size := rfl
    rw [if_pos (by omega), ih (i + 1) _ (by omega)]
    rw [List.drop_eq_getElem_cons (l := bs.data.toList) (i := i) (by simp; omega)]
    have : bs.get! i = bs.data.toList[i]'(by simp; omega) := by
      show bs.data[i]! = _
      rw [getElem!_pos bs.data i (by omega)]
      simp
    simp [this]
theorem ba_toList (l : List UInt8) : (⟨l.toArray⟩ : ByteArray).toList = l := by
  unfold ByteArray.toList
  rw [ba_loop _ _ 0 [] rfl]
  simp
theorem unbytes_bytes (b : List UInt8) : unbytes (bytesAV b) = some b := by
  induction b with
  | nil => rfl
  | cons x b ih =>
    simp only [bytesAV, List.map_cons, unbytes] at ih ⊢
    rw [ih]
    simp

def same (l m : List Bs) : Bool := decide (l.length = m.length) && (l == m)

theorem f31_ok (a b : Bs) : FnOK C0 31 [bt a, bt b] [] (.v (.bool (a == b))) [] := by
  refine FnOK.intro (fn := Try.f31) (c := Try.f31.body.getD .skip) (by kernel_rfl) (by kernel_rfl) (by kernel_rfl) (by kernel_rfl) (by simp [Try.f31]) (by simp [names]) ?_
  unfold Try.f31
  simp (disch := omega) only [go_sem, if_pos, b25, st9, unbytes_bytes, ba_toList]
  refine ret_mk ⟨[], [], []⟩ _ rfl ⟨rfl, rfl⟩ (by simp) ?_ trivial
  simp (disch := omega) only [go_sem, if_pos]

theorem f15_ok (l m : List Bs) (hl : l.length ≤ 1000000) : FnOK C0 15 [ms l, ms m] [] (.v (.bool (l == m))) [] := by
  refine FnOK.intro (fn := Try.f15) (c := Try.f15.body.getD .skip) (by kernel_rfl) (by kernel_rfl) (by kernel_rfl) (by kernel_rfl) (by simp [Try.f15]) (by simp [names]) ?_
  unfold Try.f15
  simp (disch := omega) only [go_sem, if_pos, t22]
  refine ⟨fun h => ?_, fun h => ?_⟩
  · refine ret_mk ⟨[], [], []⟩ _ rfl ⟨rfl, rfl⟩ (by simp) ?_ trivial
    simp (disch := omega) only [go_sem, if_pos]
    refine .eq ?_
    simp at h
    have : l ≠ m := fun e => by subst e; exact h rfl
    simp [this]
  simp at h
  have hlen : l.length = m.length := by omega
  refine loop_intro (α := Nat) (fun i => ⟨[(5, .v (.int .i64 i)), (0, ms l), (1, ms m)], []⟩) (fun i => i ≤ l.length ∧ l.take i = m.take i) (fun i => l.length - i) 0 (by simp) ?_ ?_
  · refine Imp.weak ?_ ?_
    · simp (disch := omega) only [go_sem, if_pos]
    · simp (disch := omega) only [go_sem, if_pos]
  intro i hi J hJ
  simp (disch := omega) only [go_sem, if_pos, t22, e22]
  refine ⟨fun hlt => ?_, fun hge => ?_⟩
  · simp at hlt
    obtain ⟨b, hb⟩ : ∃ b, l[i]? = some b := ⟨_, List.getElem?_eq_getElem hlt⟩
    obtain ⟨c, hc⟩ : ∃ c, m[i]? = some c := ⟨_, List.getElem?_eq_getElem (by omega)⟩
    refine draw_mk 8 [([], [0]), ([], [5]), ([0, 1], [17, 18]), ([0, 1, 2], [19]), ([], [1]), ([], [5]), ([4, 5], [21, 22]), ([4, 5, 6], [23]), ([0, 1, 2, 3, 4, 5, 6, 7], []), ([0, 1, 2, 3, 4, 5, 6, 7, 8], [])] fol (by kernel_rfl) ?_
    simp (disch := omega) only [go_sem, if_pos, t22, e22, s25, a25, List.getElem?_map, hb, hc]
    refine call_pure (f31_ok b c) (by simp (disch := omega) only [go_sem, if_pos]) rfl ?_
    simp (disch := omega) only [go_sem, if_pos, wrap64]
    refine ⟨fun hd => ?_, fun hd => ?_⟩
    · refine ret_mk ⟨[], [], []⟩ _ rfl ⟨rfl, rfl⟩ (by simp) ?_ trivial
      simp (disch := omega) only [go_sem, if_pos]
      refine .eq ?_
      simp at hd
      have : l ≠ m := fun e => by rw [e, hc] at hb; injection hb with hb; exact hd hb.symm
      simp [this]
    · refine hJ _ (i + 1) ⟨by omega, ?_⟩ (by omega) (Imp.weak ?_ ?_)
      · simp at hd
        rw [List.take_add_one, List.take_add_one, hb, hc, hd, hi.2]
      · simp (disch := omega) only [go_sem, if_pos]
        exact .int (by omega)
      · simp (disch := omega) only [go_sem, if_pos]
  · simp at hge
    refine ret_mk ⟨[], [], []⟩ _ rfl ⟨rfl, rfl⟩ (by simp) ?_ trivial
    simp (disch := omega) only [go_sem, if_pos]
    refine .eq ?_
    have h2 := hi.2
    rw [List.take_of_length_le (by omega), List.take_of_length_le (by omega)] at h2
    simp [h2]
