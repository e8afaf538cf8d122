import Derived.Test.YtfnniffkgoimeaaA26
import Derived.Test.YtfnniffkgoimeaaProg
set_option linter.all false
open Go Go.Abs Go.Proofs
set_option maxRecDepth 100000
namespace Go.Ch
noncomputable abbrev C0 : Ctx := ⟨Try.prog, fun _ => none⟩
theorem fol : Try.prog.follows .mixedOrders = true := by kernel_rfl
theorem e25 : elemOfSlice Try.prog 25 = some (5, 1) := by kernel_rfl
theorem r25 : rowInf Try.prog 25 = some (5, 1, 1) := by kernel_rfl
theorem t25 : isSliceT Try.prog 25 = true := by kernel_rfl
theorem s25 : szOf Try.prog 25 = some 1 := by kernel_rfl
theorem a25 : aggOf Try.prog 25 = some false := by kernel_rfl
theorem z25 : zeroOf Try.prog 25 = some [.slice none 0 0] := by kernel_rfl
theorem e22 : elemOfSlice Try.prog 22 = some (25, 1) := by kernel_rfl
theorem r22 : rowInf Try.prog 22 = some (25, 1, 24) := by kernel_rfl
theorem t22 : isSliceT Try.prog 22 = true := by kernel_rfl
theorem b25 : isBytesT Try.prog 25 = true := by kernel_rfl
theorem st9 : strT Try.prog 9 = true := by kernel_rfl
theorem st25 : strT Try.prog 25 = false := by kernel_rfl
theorem b9 : isBytesT Try.prog 9 = false := by kernel_rfl

abbrev Bs := List UInt8
@[reducible] def bt (b : Bs) : AV := .sl .no 1 (bytesAV b)
@[reducible] def es (l : List Bs) : List (List AV) := l.map fun b => [.sl .no 1 (bytesAV b)]
@[reducible] def ms (l : List Bs) : AV := .sl .no 1 (es l)
theorem lb (b : Bs) : (bytesAV b).length = b.length := by simp [bytesAV]
def okP (b : Bs) : Bool := decide (1 ≤ b.length) && decide (b.length ≤ 8192)
def valid (l : List Bs) : Bool := decide (l.length ≤ 8) && l.all okP
def shortB (l : List Bs) : Bool := decide (l.length ≤ 12) && l.all (fun b => decide (b.length ≤ 10000))
theorem valid_len {l : List Bs} (h : valid l = true) : l.length ≤ 8 := by simp [valid] at h; exact h.1
theorem valid_mem {l : List Bs} (h : valid l = true) : ∀ b ∈ l, b.length ≤ 8192 := by
  simp [valid, okP] at h
  intro b hb
  exact (h.2 b hb).2

theorem f25_ok (b : Bs) : FnOK C0 25 [bt b] [] (.v (.bool (okP b))) [] := by
  refine FnOK.intro (fn := Try.f25) (c := Try.f25.body.getD .skip) (by kernel_rfl) (by kernel_rfl) (by kernel_rfl) (by kernel_rfl) (by simp [Try.f25]) (by simp [names]) ?_
  unfold Try.f25
  simp (disch := omega) only [go_sem, if_pos, t25, lb]
  refine ⟨fun h => ?_, fun h => ?_⟩
  · refine ret_mk ⟨[], [], []⟩ _ rfl ⟨rfl, rfl⟩ (by simp) ?_ trivial
    simp (disch := omega) only [go_sem, if_pos]
    refine .eq ?_
    simp at h
    have e1 : 1 ≤ b.length := by omega
    simp [okP, e1]
    omega
  · refine ret_mk ⟨[], [], []⟩ _ rfl ⟨rfl, rfl⟩ (by simp) ?_ trivial
    simp (disch := omega) only [go_sem, if_pos]
    refine .eq ?_
    simp at h
    have e1 : ¬ 1 ≤ b.length := by omega
    simp [okP, e1]

theorem f30_ok (b : Bs) : FnOK C0 30 [bt b] [] (.v (.bool (okP b))) [] := by
  refine FnOK.intro (fn := Try.f30) (c := Try.f30.body.getD .skip) (by kernel_rfl) (by kernel_rfl) (by kernel_rfl) (by kernel_rfl) (by simp [Try.f30]) (by simp [names]) ?_
  unfold Try.f30
  simp (disch := omega) only [go_sem, if_pos, t25, lb]
  refine ⟨fun h => ?_, fun h => ?_⟩
  · refine ret_mk ⟨[], [], []⟩ _ rfl ⟨rfl, rfl⟩ (by simp) ?_ trivial
    simp (disch := omega) only [go_sem, if_pos]
    refine .eq ?_
    simp at h
    have e1 : 1 ≤ b.length := by omega
    simp [okP, e1]
    omega
  · refine ret_mk ⟨[], [], []⟩ _ rfl ⟨rfl, rfl⟩ (by simp) ?_ trivial
    simp (disch := omega) only [go_sem, if_pos]
    refine .eq ?_
    simp at h
    have e1 : ¬ 1 ≤ b.length := by omega
    simp [okP, e1]

theorem f22_ok (l : List Bs) : FnOK C0 22 [ms l] [] (.v (.bool (valid l))) [] := by
  refine FnOK.intro (fn := Try.f22) (c := Try.f22.body.getD .skip) (by kernel_rfl) (by kernel_rfl) (by kernel_rfl) (by kernel_rfl) (by simp [Try.f22]) (by simp [names]) ?_
  unfold Try.f22
  simp (disch := omega) only [go_sem, if_pos, t22]
  refine ⟨fun h => ?_, fun h => ?_⟩
  · refine ret_mk ⟨[], [], []⟩ _ rfl ⟨rfl, rfl⟩ (by simp) ?_ trivial
    simp (disch := omega) only [go_sem, if_pos]
    refine .eq ?_
    simp at h
    simp [valid]
    omega
  simp at h
  refine loop_intro (α := Nat) (fun i => ⟨[(10, .v (.int .i64 i)), (9, .v (.int .i64 l.length)), (8, ms l)], []⟩) (fun i => i ≤ l.length ∧ (l.take i).all okP = true) (fun i => l.length - i) 0 (by simp) ?_ ?_
  · refine Imp.weak ?_ ?_
    · simp (disch := omega) only [go_sem, if_pos]
    · simp (disch := omega) only [go_sem, if_pos]
  intro i hi J hJ
  simp (disch := omega) only [go_sem, if_pos, t22, e22]
  refine ⟨fun hlt => ?_, fun hge => ?_⟩
  · simp at hlt
    obtain ⟨b, hb⟩ : ∃ b, l[i]? = some b := ⟨_, List.getElem?_eq_getElem hlt⟩
    simp (disch := omega) only [go_sem, if_pos, t22, e22, s25, a25, List.getElem?_map, hb]
    refine call_pure (f25_ok b) (by simp (disch := omega) only [go_sem, if_pos]) rfl ?_
    simp (disch := omega) only [go_sem, if_pos, wrap64]
    refine ⟨fun h => ?_, fun h => ?_⟩
    · refine ret_mk ⟨[], [], []⟩ _ rfl ⟨rfl, rfl⟩ (by simp) ?_ trivial
      simp (disch := omega) only [go_sem, if_pos]
      refine .eq ?_
      have hm := List.mem_of_getElem? hb
      simp at h
      have : l.all okP = false := by
        rw [List.all_eq_false]; exact ⟨b, hm, by simp [h]⟩
      simp [valid, this]
    · refine hJ _ (i + 1) ⟨by omega, ?_⟩ (by omega) (Imp.weak ?_ ?_)
      · simp at h
        rw [List.take_add_one, hb]
        simp [h, hi.2]
      · simp (disch := omega) only [go_sem, if_pos]
        exact .int (by omega)
      · simp (disch := omega) only [go_sem, if_pos]
  · simp at hge
    refine ret_mk ⟨[], [], []⟩ _ rfl ⟨rfl, rfl⟩ (by simp) ?_ trivial
    simp (disch := omega) only [go_sem, if_pos]
    refine .eq ?_
    have h2 := hi.2
    rw [List.take_of_length_le (by omega)] at h2
    simp [valid, h2]
    omega

theorem f7_ok (l : List Bs) : FnOK C0 7 [ms l] [] (.v (.bool (shortB l))) [] := by
  refine FnOK.intro (fn := Try.f7) (c := Try.f7.body.getD .skip) (by kernel_rfl) (by kernel_rfl) (by kernel_rfl) (by kernel_rfl) (by simp [Try.f7]) (by simp [names]) ?_
  unfold Try.f7
  simp (disch := omega) only [go_sem, if_pos, t22]
  refine ⟨fun h => ?_, fun h => ?_⟩
  · refine ret_mk ⟨[], [], []⟩ _ rfl ⟨rfl, rfl⟩ (by simp) ?_ trivial
    simp (disch := omega) only [go_sem, if_pos]
    refine .eq ?_
    simp at h
    simp [shortB]
    omega
  simp at h
  refine loop_intro (α := Nat) (fun i => ⟨[(10, .v (.int .i64 i)), (9, .v (.int .i64 l.length)), (8, ms l)], []⟩) (fun i => i ≤ l.length ∧ (l.take i).all (fun b => decide (b.length ≤ 10000)) = true) (fun i => l.length - i) 0 (by simp) ?_ ?_
  · refine Imp.weak ?_ ?_
    · simp (disch := omega) only [go_sem, if_pos]
    · simp (disch := omega) only [go_sem, if_pos]
  intro i hi J hJ
  simp (disch := omega) only [go_sem, if_pos, t22, e22]
  refine ⟨fun hlt => ?_, fun hge => ?_⟩
  · simp at hlt
    obtain ⟨b, hb⟩ : ∃ b, l[i]? = some b := ⟨_, List.getElem?_eq_getElem hlt⟩
    simp (disch := omega) only [go_sem, if_pos, t22, e22, s25, a25, List.getElem?_map, hb, t25, lb, wrap64]
    refine ⟨fun h => ?_, fun h => ?_⟩
    · refine ret_mk ⟨[], [], []⟩ _ rfl ⟨rfl, rfl⟩ (by simp) ?_ trivial
      simp (disch := omega) only [go_sem, if_pos]
      refine .eq ?_
      have hm := List.mem_of_getElem? hb
      simp at h
      have : l.all (fun b => decide (b.length ≤ 10000)) = false := by
        rw [List.all_eq_false]; exact ⟨b, hm, by simp; omega⟩
      simp [shortB, this]
    · refine hJ _ (i + 1) ⟨by omega, ?_⟩ (by omega) (Imp.weak ?_ ?_)
      · simp at h
        rw [List.take_add_one, hb]
        have e1 : b.length ≤ 10000 := by omega
        have h2 := hi.2
        simp [e1] at h2 ⊢
        exact h2
      · simp (disch := omega) only [go_sem, if_pos]
        exact .int (by omega)
      · simp (disch := omega) only [go_sem, if_pos]
  · simp at hge
    refine ret_mk ⟨[], [], []⟩ _ rfl ⟨rfl, rfl⟩ (by simp) ?_ trivial
    simp (disch := omega) only [go_sem, if_pos]
    refine .eq ?_
    have h2 := hi.2
    rw [List.take_of_length_le (by omega)] at h2
    simp only [shortB, h2, Bool.and_true]
    simp
    omega

theorem f27_ok (b : Bs) (h : b.length ≤ 4294967296) : FnOK C0 27 [bt b] [] (.sl (.own 0 0) 1 (bytesAV b)) [] := by
  refine FnOK.intro (fn := Try.f27) (c := Try.f27.body.getD .skip) (by kernel_rfl) (by kernel_rfl) (by kernel_rfl) (by kernel_rfl) (by simp [Try.f27]) (by simp [names]) ?_
  unfold Try.f27
  simp (disch := omega) only [go_sem, if_pos, t25, r25, e25, lb]
  refine ret_mk ⟨[(576, 0)], [], []⟩ _ rfl ⟨rfl, rfl⟩ (by simp) ?_ trivial
  simp (disch := omega) only [go_sem, if_pos]
  exact .sl (List.take_of_length_le (by rw [lb]; exact Nat.le_refl _))

theorem f26_ok (l : List Bs) (h : l.length ≤ 100000) (hb : ∀ b ∈ l, b.length ≤ 100000) : FnOK C0 26 [ms l] [] (.sl (.own 0 0) 1 (es l)) [] := by
  refine FnOK.intro (fn := Try.f26) (c := Try.f26.body.getD .skip) (by kernel_rfl) (by kernel_rfl) (by kernel_rfl) (by kernel_rfl) (by simp [Try.f26]) (by simp [names]) ?_
  unfold Try.f26
  simp (disch := omega) only [go_sem, if_pos, t22, r22, e22]
  refine loop_intro (α := Nat) (fun i => ⟨[(8, .v (.int .i64 i)), (7, .v (.int .i64 l.length)), (6, ms l), (3, .sl (.own 1024 0) 1 (es (l.take i)))], []⟩) (fun i => i ≤ l.length) (fun i => l.length - i) 0 (by omega) ?_ ?_
  · refine Imp.weak ?_ ?_
    · simp (disch := omega) only [go_sem, if_pos]
    · simp (disch := omega) only [go_sem, if_pos]
  intro i hi J hJ
  simp (disch := omega) only [go_sem, if_pos, t22, r22, e22]
  refine ⟨fun hlt => ?_, fun hge => ?_⟩
  · simp at hlt
    obtain ⟨b, hbi⟩ : ∃ b, l[i]? = some b := ⟨_, List.getElem?_eq_getElem hlt⟩
    have hm := hb b (List.mem_of_getElem? hbi)
    simp (disch := omega) only [go_sem, if_pos, t22, r22, e22, s25, a25, List.getElem?_map, hbi, t25, r25, lb, z25, wrap64]
    refine callB_mk ⟨⟨[], [], []⟩, [(0, 896)], []⟩ (f27_ok b (by omega)) (by simp (disch := omega) only [go_sem, if_pos]) (by decide) trivial (.inl rfl) ?_
    simp (disch := omega) only [go_sem, if_pos, t22, r22, e22, s25, a25, z25, wrap64]
    refine hJ _ (i + 1) (by omega) (by omega) (Imp.weak ?_ ?_)
    · simp (disch := omega) only [go_sem, if_pos]
      refine ⟨.int (by omega), .eq ?_⟩
      simp [List.take_add_one, hbi]
    · simp (disch := omega) only [go_sem, if_pos]
  · have : i = l.length := by simp at hge; omega
    subst this
    refine ret_mk ⟨[(1024, 0)], [], []⟩ _ rfl ⟨rfl, rfl⟩ (by simp) ?_ trivial
    simp (disch := omega) only [go_sem, if_pos]

theorem f26_dp (l : List Bs) (h : l.length ≤ 100000) (hb : ∀ b ∈ l, b.length ≤ 100000) : FnOK C0 26 [ms l] [] (.hnd .dsl 0 0 0 0 1 (l.map bytesAV)) [] := by
  refine FnOK.mk' [15, 16] (fn := Try.f26) (c := Try.f26.body.getD .skip) (by kernel_rfl) (by kernel_rfl) (by kernel_rfl) (by kernel_rfl) (by simp [Try.f26]) (by simp [names]) ?_
  unfold Try.f26
  simp (disch := omega) only [go_sem, if_pos, t22, r22, e22]
  refine loop_intro (α := Nat) (fun i => ⟨[(8, .v (.int .i64 i)), (7, .v (.int .i64 l.length)), (6, ms l), (3, .hnd .dsl 1024 0 0 0 1 ((l.take i).map bytesAV))], []⟩) (fun i => i ≤ l.length) (fun i => l.length - i) 0 (by omega) ?_ ?_
  · refine Imp.weak ?_ ?_
    · simp (disch := omega) only [go_sem, if_pos]
    · simp (disch := omega) only [go_sem, if_pos]
  intro i hi J hJ
  simp (disch := omega) only [go_sem, if_pos, t22, r22, e22]
  refine ⟨fun hlt => ?_, fun hge => ?_⟩
  · simp at hlt
    obtain ⟨b, hbi⟩ : ∃ b, l[i]? = some b := ⟨_, List.getElem?_eq_getElem hlt⟩
    have hm := hb b (List.mem_of_getElem? hbi)
    simp (disch := omega) only [go_sem, if_pos, t22, r22, e22, s25, a25, List.getElem?_map, hbi, t25, r25, lb, z25, wrap64]
    refine callB_mk ⟨⟨[], [], []⟩, [(0, 896)], []⟩ (f27_ok b (by omega)) (by simp (disch := omega) only [go_sem, if_pos]) (by decide) trivial (.inl rfl) ?_
    simp (disch := omega) only [go_sem, if_pos, t22, r22, e22, s25, a25, z25, wrap64]
    refine hJ _ (i + 1) (by omega) (by omega) (Imp.weak ?_ ?_)
    · simp (disch := omega) only [go_sem, if_pos]
      refine ⟨.int (by omega), .eq ?_⟩
      simp [List.take_add_one, hbi]
    · simp (disch := omega) only [go_sem, if_pos]
  · have : i = l.length := by simp at hge; omega
    subst this
    refine ret_mk ⟨[(1024, 0)], [], []⟩ _ rfl ⟨rfl, rfl⟩ (by simp) ?_ trivial
    simp (disch := omega) only [go_sem, if_pos]

theorem f12_ok (l : List Bs) (h : l.length ≤ 100000) (hb : ∀ b ∈ l, b.length ≤ 100000) : FnOK C0 12 [ms l] [] (.sl (.own 0 0) 1 (es l)) [] := by
  refine FnOK.intro (fn := Try.f12) (c := Try.f12.body.getD .skip) (by kernel_rfl) (by kernel_rfl) (by kernel_rfl) (by kernel_rfl) (by simp [Try.f12]) (by simp [names]) ?_
  unfold Try.f12
  simp (disch := omega) only [go_sem, if_pos, t22, r22, e22]
  refine loop_intro (α := Nat) (fun i => ⟨[(8, .v (.int .i64 i)), (7, .v (.int .i64 l.length)), (6, ms l), (3, .sl (.own 1024 0) 1 (es (l.take i)))], []⟩) (fun i => i ≤ l.length) (fun i => l.length - i) 0 (by omega) ?_ ?_
  · refine Imp.weak ?_ ?_
    · simp (disch := omega) only [go_sem, if_pos]
    · simp (disch := omega) only [go_sem, if_pos]
  intro i hi J hJ
  simp (disch := omega) only [go_sem, if_pos, t22, r22, e22]
  refine ⟨fun hlt => ?_, fun hge => ?_⟩
  · simp at hlt
    obtain ⟨b, hbi⟩ : ∃ b, l[i]? = some b := ⟨_, List.getElem?_eq_getElem hlt⟩
    have hm := hb b (List.mem_of_getElem? hbi)
    simp (disch := omega) only [go_sem, if_pos, t22, r22, e22, s25, a25, List.getElem?_map, hbi, t25, r25, lb, z25, wrap64]
    refine hJ _ (i + 1) (by omega) (by omega) (Imp.weak ?_ ?_)
    · simp (disch := omega) only [go_sem, if_pos]
      refine ⟨.int (by omega), .eq ?_⟩
      simp [List.take_add_one, hbi]
    · simp (disch := omega) only [go_sem, if_pos]
  · have : i = l.length := by simp at hge; omega
    subst this
    refine ret_mk ⟨[(1024, 0)], [], []⟩ _ rfl ⟨rfl, rfl⟩ (by simp) ?_ trivial
    simp (disch := omega) only [go_sem, if_pos]

theorem f12_dp (l : List Bs) (h : l.length ≤ 100000) (hb : ∀ b ∈ l, b.length ≤ 100000) : FnOK C0 12 [ms l] [] (.hnd .dsl 0 0 0 0 1 (l.map bytesAV)) [] := by
  refine FnOK.mk' [15, 16] (fn := Try.f12) (c := Try.f12.body.getD .skip) (by kernel_rfl) (by kernel_rfl) (by kernel_rfl) (by kernel_rfl) (by simp [Try.f12]) (by simp [names]) ?_
  unfold Try.f12
  simp (disch := omega) only [go_sem, if_pos, t22, r22, e22]
  refine loop_intro (α := Nat) (fun i => ⟨[(8, .v (.int .i64 i)), (7, .v (.int .i64 l.length)), (6, ms l), (3, .hnd .dsl 1024 0 0 0 1 ((l.take i).map bytesAV))], []⟩) (fun i => i ≤ l.length) (fun i => l.length - i) 0 (by omega) ?_ ?_
  · refine Imp.weak ?_ ?_
    · simp (disch := omega) only [go_sem, if_pos]
    · simp (disch := omega) only [go_sem, if_pos]
  intro i hi J hJ
  simp (disch := omega) only [go_sem, if_pos, t22, r22, e22]
  refine ⟨fun hlt => ?_, fun hge => ?_⟩
  · simp at hlt
    obtain ⟨b, hbi⟩ : ∃ b, l[i]? = some b := ⟨_, List.getElem?_eq_getElem hlt⟩
    have hm := hb b (List.mem_of_getElem? hbi)
    simp (disch := omega) only [go_sem, if_pos, t22, r22, e22, s25, a25, List.getElem?_map, hbi, t25, r25, lb, z25, wrap64]
    refine hJ _ (i + 1) (by omega) (by omega) (Imp.weak ?_ ?_)
    · simp (disch := omega) only [go_sem, if_pos]
      refine ⟨.int (by omega), .eq ?_⟩
      simp [List.take_add_one, hbi]
    · simp (disch := omega) only [go_sem, if_pos]
  · have : i = l.length := by simp at hge; omega
    subst this
    refine ret_mk ⟨[(1024, 0)], [], []⟩ _ rfl ⟨rfl, rfl⟩ (by simp) ?_ trivial
    simp (disch := omega) only [go_sem, if_pos]
