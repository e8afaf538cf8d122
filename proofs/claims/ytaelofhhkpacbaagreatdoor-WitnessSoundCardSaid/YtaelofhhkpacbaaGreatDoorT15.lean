/- part 15 of the proof -/
import Derived.Test.YtaelofhhkpacbaaGreatDoorT14
set_option linter.all false
open Go Go.Abs Go.Proofs
set_option maxRecDepth 100000
namespace Go.Rd
def seenOf (l : List Amt) : List Bool := (List.range 6).map fun k : Nat => decide (k ≠ 0) && l.any fun a => a.mode == ((k : Nat) : Int)
theorem seenOf_nil : seenOf [] = no6 := rfl
theorem seenOf_len (l : List Amt) : (seenOf l).length = 6 := by simp [seenOf]
theorem seenOf_get (l : List Amt) (k : Nat) (hk : k < 6) : (seenOf l).getD k false = (decide (k ≠ 0) && l.any fun a => a.mode == (k : Int)) := by
  simp [seenOf, List.getD, hk]
theorem seenOf_snoc0 (l : List Amt) (a : Amt) (h : a.mode = 0) : seenOf (l ++ [a]) = seenOf l := by
  unfold seenOf
  refine List.map_congr_left fun k hk => ?_
  simp only [List.any_append, List.any_cons, List.any_nil, h]
  by_cases hk0 : k = 0
  · simp [hk0]
  · have : ((0 : Int) == (k : Int)) = false := by simp; omega
    simp [this]
theorem seenOf_snoc (l : List Amt) (a : Amt) (h : modeOK a.mode = true) : seenOf (l ++ [a]) = (seenOf l).set a.mode.toNat true := by
  have hm := mode_cases h
  refine List.ext_getElem (by simp [seenOf]) fun k h1 h2 => ?_
  have hk : k < 6 := by simpa [seenOf] using h1
  simp only [seenOf, List.getElem_map, List.getElem_range, List.any_append, List.any_cons, List.any_nil, List.getElem_set]
  by_cases hx : a.mode.toNat = k
  · have e : (a.mode == (k : Int)) = true := by simp; omega
    rw [if_pos hx, e]
    have : decide (k ≠ 0) = true := by simp; omega
    simp [this]
  · have e : (a.mode == (k : Int)) = false := by simp; omega
    rw [if_neg hx, e]
    simp
theorem seenOK_of {l : List Amt} {m : Int} (h : ∀ a ∈ l, a.mode ≠ 0 → compatM m a.mode = true) : seenOK (seenOf l) m = true := by
  unfold seenOK
  rw [List.all_eq_true]
  intro k hk
  have hk6 : k < 6 := by simpa using hk
  rw [seenOf_get l k hk6]
  by_cases hk0 : k = 0
  · simp [hk0]
  cases ha : l.any fun a => a.mode == (k : Int)
  · simp
  · obtain ⟨a, hm, he⟩ := List.any_eq_true.1 ha
    have he' : a.mode = k := by simpa using he
    have := h a hm (by omega)
    rw [he', compatM_comm] at this
    simp [this]
theorem seenOK_bad {l : List Amt} {m : Int} {a : Amt} (hm : a ∈ l) (h0 : modeOK a.mode = true) (h : compatM m a.mode = false) : seenOK (seenOf l) m = false := by
  have hc := mode_cases h0
  unfold seenOK
  rw [List.all_eq_false]
  refine ⟨a.mode.toNat, by simp; omega, ?_⟩
  rw [seenOf_get l _ (by omega)]
  have e1 : decide (a.mode.toNat ≠ 0) = true := by simp; omega
  have e2 : ((a.mode.toNat : Nat) : Int) = a.mode := by omega
  have e3 : (l.any fun b => b.mode == ((a.mode.toNat : Nat) : Int)) = true := by
    rw [List.any_eq_true]
    exact ⟨a, hm, by simp [e2]⟩
  rw [e1, e3, e2, compatM_comm, h]
  decide
theorem permits_lock {r : Res} {a : Amt} (hk : r.kind = 1) (h : r.permits a = true) : a.units = 0 ∧ (a.mode = 0 ∨ modeOK a.mode = true) ∧ a.zero = decide (a.mode = 0) := by
  simp only [Res.permits, Bool.and_eq_true, Bool.or_eq_true, Res.fits, hk, if_true] at h
  obtain ⟨h1, h2 | h2⟩ := h
  · have hz := h2
    simp [Amt.zero] at h2
    exact ⟨h2.2, .inl h2.1, by rw [hz]; simp [h2.1]⟩
  · obtain ⟨_, h3, h4⟩ := h2
    have := mode_cases h3
    simp at h4
    exact ⟨h4, .inr h3, by simp [Amt.zero, h4]; rfl⟩
theorem permits_pool {r : Res} {a : Amt} (hk : r.kind = 2) (h : r.permits a = true) : 0 ≤ a.units ∧ a.units ≤ 8 ∧ a.mode = 0 := by
  have h' := permits_amt h
  simp only [Res.permits, Bool.and_eq_true, Bool.or_eq_true, Res.fits, hk] at h
  obtain ⟨h1, h2 | h2⟩ := h
  · simp [Amt.zero] at h2
    omega
  · simp at h2
    omega
theorem shaped_kind {r : Res} (h : r.shaped = true) : (r.kind = 1 ∧ r.units = 1) ∨ r.kind = 2 := by
  simp only [Res.shaped] at h
  split at h
  · simp at h; exact .inl ⟨by assumption, h⟩
  · split at h
    · exact .inr (by assumption)
    · cases h
theorem compatL_snoc (r : Res) (b : Amt) (l : List Amt) (s : Int) (seen : List Bool) : compatL r (b :: l) s seen = (r.permits b && !decide (r.units < s + b.units) && (if b.mode = 0 then compatL r l (s + b.units) seen else seenOK seen b.mode && compatL r l (s + b.units) (seen.set b.mode.toNat true))) := rfl
theorem f113_ok (r : Res) (l : List Amt) (hl : l.length ≤ 1000000) : FnOK C0 113 [.agg r.c, amtsV l] [] (B (r.compat l)) [] := by
  refine FnOK.intro (fn := Tryz.f113) (c := Tryz.f113.body.getD .skip) (by kernel_rfl) (by kernel_rfl) (by kernel_rfl) (by kernel_rfl) (by simp [Tryz.f113]) (by simp [names]) ?_
  unfold Tryz.f113
  simp (disch := omega) only [go_sem]
  refine call_pure (f154_ok r) (by simp (disch := omega) only [go_sem]) rfl ?_
  cases hs : r.shaped
  · have e : r.compat l = false := by simp [Res.compat, hs]
    simp (disch := omega) only [go_sem, Bool.not_false, e]
    refine ret_mk ⟨[], [], []⟩ _ (by (try simp (disch := omega) only [go_sem, resVs, resV]) <;> rfl) ⟨rfl, rfl⟩ (by simp) ?_ trivial
    simp (disch := omega) only [go_sem]
  obtain ⟨hu1, hu2⟩ := shaped_units hs
  have hkind := shaped_kind hs
  have hcomp : r.compat l = compatL r l 0 no6 := by simp [Res.compat, hs]
  simp (disch := omega) only [go_sem, Bool.not_true]
  refine loop_intro (α := Nat × Int) (fun q => ⟨[(6, I q.1), (1, amtsV l), (5, I q.2), (2, .ptr 128 0)], [(128, r.c)]⟩)
    (fun q => q.1 ≤ l.length ∧ (r.kind = 1 → q.2 = 0) ∧ 0 ≤ q.2 ∧ q.2 ≤ 8 ∧ (∀ a ∈ l.take q.1, r.permits a = true) ∧ compatL r (l.drop q.1) q.2 (seenOf (l.take q.1)) = compatL r l 0 no6) (fun q => l.length - q.1) (0, 0) ⟨by simp, by simp, by simp, by simp, by simp, by simp [seenOf_nil]⟩ ?_ ?_
  · refine Imp.weak ?_ ?_
    · simp (disch := omega) only [go_sem]
    · simp (disch := omega) only [go_sem]
  rintro ⟨i, sum⟩ ⟨hi, hk1, hs0, hs8, hperm, hc⟩ J hJ
  replace hi : i ≤ l.length := hi
  replace hk1 : r.kind = 1 → sum = 0 := hk1
  replace hs0 : 0 ≤ sum := hs0
  replace hs8 : sum ≤ 8 := hs8
  replace hperm : ∀ a ∈ l.take i, r.permits a = true := hperm
  replace hc : compatL r (l.drop i) sum (seenOf (l.take i)) = compatL r l 0 no6 := hc
  simp (disch := omega) only [go_sem]
  refine And.intro (fun hlt => ?_) (fun hge => ?_)
  · have hlt' : i < l.length := by simp at hlt; omega
    obtain ⟨b, hb⟩ : ∃ b, l[i]? = some b := ⟨_, List.getElem?_eq_getElem hlt'⟩
    have hd : l.drop i = b :: l.drop (i + 1) := by
      rw [List.drop_eq_getElem_cons hlt']
      rw [List.getElem?_eq_getElem hlt'] at hb
      injection hb with hb
      rw [hb]
    have ht : l.take (i + 1) = l.take i ++ [b] := by rw [List.take_add_one, hb]; rfl
    rw [hd] at hc
    simp only [compatL] at hc
    refine draw_mk 5 [([], [2]), ([], [1]), ([], [6]), ([1, 2], [18, 19]), ([1, 2, 3], [20]), ([0, 1, 2, 3, 4], []), ([0, 1, 2, 3, 4, 5], [])] fol (by kernel_rfl) ?_
    simp (disch := omega) only [go_sem, List.getElem?_map, hb]
    refine call_pure (f157_ok r b) (by simp (disch := omega) only [go_sem]) rfl ?_
    cases hp : r.permits b
    · have e : r.compat l = false := by rw [hcomp, ← hc, hp]; rfl
      simp (disch := omega) only [go_sem, Bool.not_false, e]
      refine ret_mk ⟨[], [], []⟩ _ (by (try simp (disch := omega) only [go_sem, resVs, resV]) <;> rfl) ⟨rfl, rfl⟩ (by simp) ?_ trivial
      simp (disch := omega) only [go_sem]
    obtain ⟨hb0, hb8, hbm⟩ := permits_amt hp
    have hperm' : ∀ a ∈ l.take (i + 1), r.permits a = true := fun a ha => by
      rw [ht] at ha
      rcases List.mem_append.1 ha with h | h
      · exact hperm a h
      · simp at h; rw [h]; exact hp
    rw [hp] at hc
    by_cases hk2 : r.kind = 2
    · have e2 : (r.kind == 2) = true := by simp [hk2]
      obtain ⟨_, _, hm⟩ := permits_pool hk2 hp
      by_cases hgt : r.units < sum + b.units
      · have e : r.compat l = false := by rw [hcomp, ← hc]; simp [hgt]
        simp (disch := omega) only [go_sem, Bool.not_true, e2, List.getElem?_map, hb, hgt, e]
        refine ret_mk ⟨[], [], []⟩ _ (by (try simp (disch := omega) only [go_sem, resVs, resV]) <;> rfl) ⟨rfl, rfl⟩ (by simp) ?_ trivial
        simp (disch := omega) only [go_sem]
      simp (disch := omega) only [go_sem, Bool.not_true, e2, List.getElem?_map, hb, hgt, decide_false]
      refine hJ _ (i + 1, sum + b.units) ⟨by simp; omega, by simp; omega, by simp; omega, by simp; omega, hperm', ?_⟩ (by simp; omega) (Imp.weak (by simp (disch := omega) only [go_sem]) (by simp (disch := omega) only [go_sem]))
      simp only [ht]
      rw [seenOf_snoc0 _ _ hm]
      simpa [hgt, hm] using hc
    have hk1' : r.kind = 1 := by rcases hkind with h | h; exact h.1; exact absurd h hk2
    have hru : r.units = 1 := by rcases hkind with h | h; exact h.2; exact absurd h hk2
    have e2 : (r.kind == 2) = false := by simp [hk2]
    have hsum := hk1 hk1'
    subst hsum
    obtain ⟨hbu, hbmm, hbz⟩ := permits_lock hk1' hp
    have hgt : ¬ r.units < 0 + b.units := by omega
    have hcs : (if b.mode = 0 then compatL r (l.drop (i + 1)) 0 (seenOf (l.take i)) else seenOK (seenOf (l.take i)) b.mode && compatL r (l.drop (i + 1)) 0 ((seenOf (l.take i)).set b.mode.toNat true)) = compatL r l 0 no6 := by
      rw [hbu] at hc hgt
      simp only [Int.add_zero] at hc hgt
      rw [decide_eq_false hgt] at hc
      exact hc
    simp (disch := omega) only [go_sem, Bool.not_true, e2]
    refine loop_intro (α := Nat) (fun k => ⟨[(7, I k), (6, I i), (1, amtsV l), (5, I 0), (2, .ptr 128 0)], [(128, r.c)]⟩)
      (fun k => k ≤ i ∧ (b.mode = 0 ∨ ∀ a ∈ l.take k, a.mode ≠ 0 → compatM b.mode a.mode = true)) (fun k => i - k) 0 ⟨by omega, .inr (by simp)⟩ ?_ ?_
    · refine Imp.weak ?_ ?_
      · simp (disch := omega) only [go_sem]
      · simp (disch := omega) only [go_sem]
    rintro k ⟨hk, hka⟩ J2 hJ2
    simp (disch := omega) only [go_sem]
    refine And.intro (fun hlt3 => ?_) (fun hge3 => ?_)
    · have hki : k < i := by simp at hlt3; omega
      obtain ⟨a, ha⟩ : ∃ a, l[k]? = some a := ⟨_, List.getElem?_eq_getElem (by omega)⟩
      have hak : l.take (k + 1) = l.take k ++ [a] := by rw [List.take_add_one, ha]; rfl
      have ham : a ∈ l.take i := by
        rw [List.mem_take_iff_getElem]
        exact ⟨k, by omega, by rw [List.getElem?_eq_getElem (by omega)] at ha; injection ha⟩
      obtain ⟨hau, hamm, haz⟩ := permits_lock hk1' (hperm a ham)
      refine draw_mk 25 [([], [1]), ([], [6]), ([0, 1], [43, 44]), ([0, 1, 2], [45]), ([0, 1, 2, 3], [46]), ([0, 1, 2, 3, 4], [47]), ([0, 1, 2, 3, 4, 5], [48]), ([0, 1, 2, 3, 4, 5, 6], [1, 49]), ([0, 1, 2, 3, 4, 5, 6], [7, 49]), ([0, 1, 2, 3, 4, 5, 6, 7, 8], [50, 51, 49]), ([0, 1, 2, 3, 4, 5, 6, 7, 8, 9], [52, 49]), ([0, 1, 2, 3, 4, 5, 6, 7, 8, 9, 10], [53, 49]), ([0, 1, 2, 3, 4, 5, 6, 7, 8, 9, 10, 11], [54, 49]), ([0, 1, 2, 3, 4, 5, 6, 7, 8, 9, 10, 11, 12], [49, 55]), ([0, 1, 2, 3, 4, 5, 6, 7, 8, 9, 10, 11, 12, 13], [56]), ([0, 1, 2, 3, 4, 5, 6, 7, 8, 9, 10, 11, 12, 13, 14], [1, 57]), ([0, 1, 2, 3, 4, 5, 6, 7, 8, 9, 10, 11, 12, 13, 14], [6, 57]), ([0, 1, 2, 3, 4, 5, 6, 7, 8, 9, 10, 11, 12, 13, 14, 15, 16], [58, 59, 57]), ([0, 1, 2, 3, 4, 5, 6, 7, 8, 9, 10, 11, 12, 13, 14, 15, 16, 17], [60, 57]), ([0, 1, 2, 3, 4, 5, 6, 7, 8, 9, 10, 11, 12, 13, 14, 15, 16, 17, 18], [61, 57]), ([0, 1, 2, 3, 4, 5, 6, 7, 8, 9, 10, 11, 12, 13, 14], [1, 57]), ([0, 1, 2, 3, 4, 5, 6, 7, 8, 9, 10, 11, 12, 13, 14], [7, 57]), ([0, 1, 2, 3, 4, 5, 6, 7, 8, 9, 10, 11, 12, 13, 14, 20, 21], [63, 64, 57]), ([0, 1, 2, 3, 4, 5, 6, 7, 8, 9, 10, 11, 12, 13, 14, 20, 21, 22], [65, 57]), ([0, 1, 2, 3, 4, 5, 6, 7, 8, 9, 10, 11, 12, 13, 14, 20, 21, 22, 23], [66, 57]), ([0, 1, 2, 3, 4, 5, 6, 7, 8, 9, 10, 11, 12, 13, 14, 15, 16, 17, 18, 19, 20, 21, 22, 23, 24], []), ([0, 1, 2, 3, 4, 5, 6, 7, 8, 9, 10, 11, 12, 13, 14, 15, 16, 17, 18, 19, 20, 21, 22, 23, 24, 25], []), ([0, 1, 2, 3, 4, 5, 6, 7, 8, 9, 10, 11, 12, 13, 14, 15, 16, 17, 18, 19, 20, 21, 22, 23, 24, 25, 26], [])] fol (by kernel_rfl) ?_
      simp (disch := omega) only [go_sem, List.getElem?_map, hb, ha]
      refine freeCall_mk ⟨⟨[], [], []⟩, [], []⟩ (f137_ok b) (by simp (disch := omega) only [go_sem]) rfl rfl trivial (.inl rfl) ?_
      rw [hbz]
      by_cases hbm0 : b.mode = 0
      · simp (disch := omega) only [go_sem, hbm0, decide_true, Bool.not_true]
        refine hJ2 _ (k + 1) ⟨by omega, .inl hbm0⟩ (by omega) (Imp.weak (by simp (disch := omega) only [go_sem]) (by simp (disch := omega) only [go_sem]))
      simp (disch := omega) only [go_sem, hbm0, decide_false, Bool.not_false, List.getElem?_map, ha, hb]
      refine freeCall_mk ⟨⟨[], [], []⟩, [], []⟩ (f137_ok a) (by simp (disch := omega) only [go_sem]) rfl rfl trivial (.inl rfl) ?_
      rw [haz]
      by_cases ham0 : a.mode = 0
      · simp (disch := omega) only [go_sem, ham0, decide_true, Bool.not_true]
        refine hJ2 _ (k + 1) ⟨by omega, ?_⟩ (by omega) (Imp.weak (by simp (disch := omega) only [go_sem]) (by simp (disch := omega) only [go_sem]))
        rcases hka with h | h
        · exact .inl h
        · refine .inr fun x hx hx0 => ?_
          rw [hak] at hx
          rcases List.mem_append.1 hx with h' | h'
          · exact h x h' hx0
          · simp at h'; rw [h'] at hx0; exact absurd ham0 hx0
      simp (disch := omega) only [go_sem, ham0, decide_false, Bool.not_false, List.getElem?_map, hb, ha]
      refine call_pure (f158_ok b.mode a.mode) (by simp (disch := omega) only [go_sem]) rfl ?_
      have hamo : modeOK a.mode = true := by rcases hamm with h | h; exact absurd h ham0; exact h
      cases hcm : compatM b.mode a.mode
      · have e : r.compat l = false := by
          rw [hcomp, ← hcs, if_neg hbm0, seenOK_bad ham hamo hcm]; rfl
        simp (disch := omega) only [go_sem, Bool.not_false, e]
        refine ret_mk ⟨[], [], []⟩ _ (by (try simp (disch := omega) only [go_sem, resVs, resV]) <;> rfl) ⟨rfl, rfl⟩ (by simp) ?_ trivial
        simp (disch := omega) only [go_sem]
      · simp (disch := omega) only [go_sem, Bool.not_true]
        refine hJ2 _ (k + 1) ⟨by omega, ?_⟩ (by omega) (Imp.weak (by simp (disch := omega) only [go_sem]) (by simp (disch := omega) only [go_sem]))
        rcases hka with h | h
        · exact .inl h
        · refine .inr fun x hx hx0 => ?_
          rw [hak] at hx
          rcases List.mem_append.1 hx with h' | h'
          · exact h x h' hx0
          · simp at h'; rw [h']; exact hcm
    · have hki : k = i := by simp at hge3; omega
      subst hki
      refine hJ _ (k + 1, 0) ⟨by simp; omega, by simp, by simp, by simp, hperm', ?_⟩ (by simp; omega) (Imp.weak (by simp (disch := omega) only [go_sem]) (by simp (disch := omega) only [go_sem]))
      simp only [ht]
      by_cases hbm0 : b.mode = 0
      · rw [seenOf_snoc0 _ _ hbm0]
        rwa [if_pos hbm0] at hcs
      · have hbo : modeOK b.mode = true := by rcases hbmm with h | h; exact absurd h hbm0; exact h
        rw [seenOf_snoc _ _ hbo]
        rw [if_neg hbm0] at hcs
        have hso : seenOK (seenOf (l.take k)) b.mode = true := seenOK_of (by rcases hka with h | h; exact absurd h hbm0; exact h)
        rwa [hso, Bool.true_and] at hcs
  · have hil : i = l.length := by simp at hge; omega
    subst hil
    rw [List.drop_length] at hc
    have e : r.compat l = true := by rw [hcomp, ← hc]; rfl
    simp (disch := omega) only [go_sem, e]
    refine ret_mk ⟨[], [], []⟩ _ (by (try simp (disch := omega) only [go_sem, resVs, resV]) <;> rfl) ⟨rfl, rfl⟩ (by simp) ?_ trivial
    simp (disch := omega) only [go_sem]
end Go.Rd
open Go Go.Abs Go.Proofs
set_option maxRecDepth 100000
namespace Go.Rd
theorem f205_ok (r : Res) (a b : Amt) : FnOK C0 205 [.agg r.c, .agg a.c, .agg b.c] [] (B (r.covers a b)) [] := by
  refine FnOK.intro (fn := Tryz.f205) (c := Tryz.f205.body.getD .skip) (by kernel_rfl) (by kernel_rfl) (by kernel_rfl) (by kernel_rfl) (by simp [Tryz.f205]) (by simp [names]) ?_
  unfold Tryz.f205
  simp (disch := omega) only [go_sem]
  repeat' (first
    | (with_reducible refine And.intro (fun h => ?_) (fun h => ?_))
    | ((with_reducible show callB _ _ 157 _ _ _); refine call_pure (f157_ok r a) ?_ rfl ?_; (focus (simp (disch := omega) only [go_sem]; done)); try simp (disch := omega) only [go_sem])
    | ((with_reducible show callB _ _ 157 _ _ _); refine call_pure (f157_ok r b) ?_ rfl ?_; (focus (simp (disch := omega) only [go_sem]; done)); try simp (disch := omega) only [go_sem])
    | ((with_reducible show callB _ _ 137 _ _ _); refine call_pure (f137_ok a) ?_ rfl ?_; (focus (simp (disch := omega) only [go_sem]; done)); try simp (disch := omega) only [go_sem])
    | ((with_reducible show callB _ _ 137 _ _ _); refine call_pure (f137_ok b) ?_ rfl ?_; (focus (simp (disch := omega) only [go_sem]; done)); try simp (disch := omega) only [go_sem])
    | ((with_reducible show callB _ _ 225 _ _ _); refine call_pure (f225_ok a.mode b.mode) ?_ rfl ?_; (focus (simp (disch := omega) only [go_sem]; done)); try simp (disch := omega) only [go_sem]))
  all_goals (refine ret_mk ⟨[], [], []⟩ _ (by (try simp (disch := omega) only [go_sem, resVs, resV]) <;> rfl) ⟨rfl, rfl⟩ (by simp) ?_ trivial)
  all_goals (try simp (disch := omega) only [go_sem])
  all_goals (first | refine wb ?_ | refine wi ?_ | refine .eq ?_)
  all_goals (first | (simp_all [Res.covers] <;> omega) | (refine Bool.eq_iff_iff.2 ?_; simp_all [Res.covers] <;> omega))
def convPos (q : Queue) (i : Nat) (w : Wait) : Bool := decide (findW q.convs w.proc = (i : Int)) && !(getH q.holds w.proc).zero && q.res.fits w.amt && q.res.covers w.amt (getH q.holds w.proc) && !decide (w.amt = getH q.holds w.proc) && w.prio == 0 && w.passed == 0
def convsOK (q : Queue) : Bool := decide (q.convs.length ≤ 8) && allAt (convPos q) q.convs
def waitPos (q : Queue) (w : Wait) : Bool := q.res.fits w.amt && (getH q.holds w.proc).zero
def waitsOK (q : Queue) : Bool := lineOK q.waits && decide (q.holds.length + q.waits.length ≤ 8) && q.waits.all (waitPos q)
def resOK (r : Res) : Bool := nameOK r.name && r.shaped && between r.home 0 3
def sound (q : Queue) : Bool := resOK q.res && holdsOK q.res q.holds && convsOK q && waitsOK q && decide (0 ≤ q.gen) && decide (q.gen ≤ 1073741824)
theorem f200_ok (q : Queue) (h1 : q.holds.length ≤ 1000000) : FnOK C0 200 [.agg q.c] [] (B (convsOK q)) [] := by
  refine FnOK.intro (fn := Tryz.f200) (c := Tryz.f200.body.getD .skip) (by kernel_rfl) (by kernel_rfl) (by kernel_rfl) (by kernel_rfl) (by simp [Tryz.f200]) (by simp [names]) ?_
  unfold Tryz.f200
  by_cases h8 : 8 < q.convs.length
  · have e1 : (8 < (q.convs.length : Int)) = True := by simp; omega
    simp (disch := omega) only [go_sem, e1]
    refine ret_mk ⟨[], [], []⟩ _ (by (try simp (disch := omega) only [go_sem, resVs, resV]) <;> rfl) ⟨rfl, rfl⟩ (by simp) ?_ trivial
    simp (disch := omega) only [go_sem]
    exact .eq (by simp [convsOK]; omega)
  have e1 : (8 < (q.convs.length : Int)) = False := by simp; omega
  simp (disch := omega) only [go_sem, e1, decide_false]
  refine loop_intro (α := Nat) (fun i => ⟨[(13, I i), (12, I q.convs.length), (11, waitsV q.convs), (1, .ptr 64 0)], [(64, q.c)]⟩) (fun i => i ≤ (q.convs).length ∧ allAt (convPos q) (q.convs.take i) = true) (fun i => (q.convs).length - i) 0 ⟨by omega, rfl⟩ ?_ ?_
  · refine Imp.weak ?_ ?_
    all_goals (try simp (disch := omega) only [go_sem])
    all_goals (try (repeat' (with_reducible apply And.intro)))
    all_goals (first | exact .nilOwn (by omega) | exact .nilNo (by omega) | exact .sl (by simp []) | exact .int (by simp []) | exact .eq (by simp []))
  rintro i ⟨hi, hP⟩ J hJ
  simp (disch := omega) only [go_sem]
  refine And.intro (fun hlt => ?_) (fun hge => ?_)
  rotate_left
  have hil : i = (q.convs).length := by simp at hge; omega
  rotate_left
  obtain ⟨b, hb⟩ : ∃ b, (q.convs)[i]? = some b := ⟨_, List.getElem?_eq_getElem (by simp at hlt; omega)⟩
  have hbm := List.mem_of_getElem? hb
  simp (disch := omega) only [go_sem, List.getElem?_map, hb]
  · have bad : convPos q i b = false → convsOK q = false := fun h => by simp [convsOK, allAt_false hb h]
    repeat' (first
      | (with_reducible refine And.intro (fun h => ?_) (fun h => ?_))
      | ((with_reducible show callB _ _ 219 _ _ _); refine call_pure (f219_ok q b.proc h1) ?_ rfl ?_; (focus (simp (disch := omega) only [go_sem]; done)); try simp (disch := omega) only [go_sem])
      | ((with_reducible show freeCallB _ _ 219 _ _ _ _ _ _ _); refine freeCall_mk ⟨⟨[], [], []⟩, [], []⟩ (f219_ok q b.proc h1) ?_ rfl rfl trivial (.inl rfl) ?_; (focus (simp (disch := omega) only [go_sem]; done)); try simp (disch := omega) only [go_sem])
      | ((with_reducible show callB _ _ 220 _ _ _); refine call_pure (f220_ok q.convs b.proc (by omega)) ?_ rfl ?_; (focus (simp (disch := omega) only [go_sem]; done)); try simp (disch := omega) only [go_sem])
      | ((with_reducible show freeCallB _ _ 220 _ _ _ _ _ _ _); refine freeCall_mk ⟨⟨[], [], []⟩, [], []⟩ (f220_ok q.convs b.proc (by omega)) ?_ rfl rfl trivial (.inl rfl) ?_; (focus (simp (disch := omega) only [go_sem]; done)); try simp (disch := omega) only [go_sem])
      | ((with_reducible show callB _ _ 212 _ _ _); refine call_pure (f212_ok (getH q.holds b.proc)) ?_ rfl ?_; (focus (simp (disch := omega) only [go_sem]; done)); try simp (disch := omega) only [go_sem])
      | ((with_reducible show freeCallB _ _ 212 _ _ _ _ _ _ _); refine freeCall_mk ⟨⟨[], [], []⟩, [], []⟩ (f212_ok (getH q.holds b.proc)) ?_ rfl rfl trivial (.inl rfl) ?_; (focus (simp (disch := omega) only [go_sem]; done)); try simp (disch := omega) only [go_sem])
      | ((with_reducible show callB _ _ 195 _ _ _); refine call_pure (f195_ok q.res b.amt) ?_ rfl ?_; (focus (simp (disch := omega) only [go_sem]; done)); try simp (disch := omega) only [go_sem])
      | ((with_reducible show freeCallB _ _ 195 _ _ _ _ _ _ _); refine freeCall_mk ⟨⟨[], [], []⟩, [], []⟩ (f195_ok q.res b.amt) ?_ rfl rfl trivial (.inl rfl) ?_; (focus (simp (disch := omega) only [go_sem]; done)); try simp (disch := omega) only [go_sem])
      | ((with_reducible show callB _ _ 221 _ _ _); refine call_pure (f221_ok q.res b.amt (getH q.holds b.proc)) ?_ rfl ?_; (focus (simp (disch := omega) only [go_sem]; done)); try simp (disch := omega) only [go_sem])
      | ((with_reducible show freeCallB _ _ 221 _ _ _ _ _ _ _); refine freeCall_mk ⟨⟨[], [], []⟩, [], []⟩ (f221_ok q.res b.amt (getH q.holds b.proc)) ?_ rfl rfl trivial (.inl rfl) ?_; (focus (simp (disch := omega) only [go_sem]; done)); try simp (disch := omega) only [go_sem]))
    all_goals (first | (refine hJ _ (i + 1) ⟨by simp at hlt; omega, by rw [allAt_take hb, hP]; simp_all [convPos]⟩ (by simp at hlt; omega) (Imp.weak (by simp (disch := omega) only [go_sem]) (by simp (disch := omega) only [go_sem])); done) | (refine ret_mk ⟨[], [], []⟩ _ (by (try simp (disch := omega) only [go_sem, resVs, resV]) <;> rfl) ⟨rfl, rfl⟩ (by simp) ?_ trivial; simp (disch := omega) only [go_sem]; refine wb ?_; (rw [bad (by simp_all [convPos])])))
  · subst hil
    rw [List.take_length] at hP
    have e : convsOK q = true := by simp [convsOK, hP]; omega
    simp (disch := omega) only [go_sem, e]
    refine ret_mk ⟨[], [], []⟩ _ (by (try simp (disch := omega) only [go_sem, resVs, resV]) <;> rfl) ⟨rfl, rfl⟩ (by simp) ?_ trivial
    simp (disch := omega) only [go_sem]
theorem f201_ok (q : Queue) (h1 : q.holds.length ≤ 1000000) (h2 : q.waits.length ≤ 1000000) : FnOK C0 201 [.agg q.c] [] (B (waitsOK q)) [] := by
  refine FnOK.intro (fn := Tryz.f201) (c := Tryz.f201.body.getD .skip) (by kernel_rfl) (by kernel_rfl) (by kernel_rfl) (by kernel_rfl) (by simp [Tryz.f201]) (by simp [names]) ?_
  unfold Tryz.f201
  simp (disch := omega) only [go_sem]
  refine call_pure (f222_ok q.waits) (by simp (disch := omega) only [go_sem]) rfl ?_
  cases hl : lineOK q.waits
  · simp (disch := omega) only [go_sem, Bool.not_false]
    refine ret_mk ⟨[], [], []⟩ _ (by (try simp (disch := omega) only [go_sem, resVs, resV]) <;> rfl) ⟨rfl, rfl⟩ (by simp) ?_ trivial
    simp (disch := omega) only [go_sem]
    exact wb (by simp [waitsOK, hl])
  by_cases h8 : 8 < q.holds.length + q.waits.length
  · have e1 : (8 < (q.holds.length : Int) + q.waits.length) = True := by simp; omega
    simp (disch := omega) only [go_sem, e1, Bool.not_true]
    refine ret_mk ⟨[], [], []⟩ _ (by (try simp (disch := omega) only [go_sem, resVs, resV]) <;> rfl) ⟨rfl, rfl⟩ (by simp) ?_ trivial
    simp (disch := omega) only [go_sem]
    exact wb (by simp [waitsOK]; omega)
  have e1 : (8 < (q.holds.length : Int) + q.waits.length) = False := by simp; omega
  simp (disch := omega) only [go_sem, e1, decide_false, Bool.not_true]
  refine loop_intro (α := Nat) (fun i => ⟨[(22, I i), (21, I q.waits.length), (20, waitsV q.waits), (1, .ptr 64 0)], [(64, q.c)]⟩) (fun i => i ≤ (q.waits).length ∧ (q.waits.take i).all (waitPos q) = true) (fun i => (q.waits).length - i) 0 ⟨by omega, rfl⟩ ?_ ?_
  · refine Imp.weak ?_ ?_
    all_goals (try simp (disch := omega) only [go_sem])
    all_goals (try (repeat' (with_reducible apply And.intro)))
    all_goals (first | exact .nilOwn (by omega) | exact .nilNo (by omega) | exact .sl (by simp []) | exact .int (by simp []) | exact .eq (by simp []))
  rintro i ⟨hi, hP⟩ J hJ
  simp (disch := omega) only [go_sem]
  refine And.intro (fun hlt => ?_) (fun hge => ?_)
  rotate_left
  have hil : i = (q.waits).length := by simp at hge; omega
  rotate_left
  obtain ⟨b, hb⟩ : ∃ b, (q.waits)[i]? = some b := ⟨_, List.getElem?_eq_getElem (by simp at hlt; omega)⟩
  have hbm := List.mem_of_getElem? hb
  simp (disch := omega) only [go_sem, List.getElem?_map, hb]
  · have bad : waitPos q b = false → waitsOK q = false := fun h => by simp only [waitsOK, all_false hbm h, Bool.and_false]
    repeat' (first
      | (with_reducible refine And.intro (fun h => ?_) (fun h => ?_))
      | ((with_reducible show callB _ _ 195 _ _ _); refine call_pure (f195_ok q.res b.amt) ?_ rfl ?_; (focus (simp (disch := omega) only [go_sem]; done)); try simp (disch := omega) only [go_sem])
      | ((with_reducible show freeCallB _ _ 195 _ _ _ _ _ _ _); refine freeCall_mk ⟨⟨[], [], []⟩, [], []⟩ (f195_ok q.res b.amt) ?_ rfl rfl trivial (.inl rfl) ?_; (focus (simp (disch := omega) only [go_sem]; done)); try simp (disch := omega) only [go_sem])
      | ((with_reducible show callB _ _ 219 _ _ _); refine call_pure (f219_ok q b.proc h1) ?_ rfl ?_; (focus (simp (disch := omega) only [go_sem]; done)); try simp (disch := omega) only [go_sem])
      | ((with_reducible show freeCallB _ _ 219 _ _ _ _ _ _ _); refine freeCall_mk ⟨⟨[], [], []⟩, [], []⟩ (f219_ok q b.proc h1) ?_ rfl rfl trivial (.inl rfl) ?_; (focus (simp (disch := omega) only [go_sem]; done)); try simp (disch := omega) only [go_sem])
      | ((with_reducible show callB _ _ 212 _ _ _); refine call_pure (f212_ok (getH q.holds b.proc)) ?_ rfl ?_; (focus (simp (disch := omega) only [go_sem]; done)); try simp (disch := omega) only [go_sem])
      | ((with_reducible show freeCallB _ _ 212 _ _ _ _ _ _ _); refine freeCall_mk ⟨⟨[], [], []⟩, [], []⟩ (f212_ok (getH q.holds b.proc)) ?_ rfl rfl trivial (.inl rfl) ?_; (focus (simp (disch := omega) only [go_sem]; done)); try simp (disch := omega) only [go_sem]))
    all_goals (first | (refine hJ _ (i + 1) ⟨by simp at hlt; omega, by rw [all_take hb, hP]; simp_all [waitPos]⟩ (by simp at hlt; omega) (Imp.weak (by simp (disch := omega) only [go_sem]) (by simp (disch := omega) only [go_sem])); done) | (refine ret_mk ⟨[], [], []⟩ _ (by (try simp (disch := omega) only [go_sem, resVs, resV]) <;> rfl) ⟨rfl, rfl⟩ (by simp) ?_ trivial; simp (disch := omega) only [go_sem]; refine wb ?_; (rw [bad (by simp_all [waitPos])])))
  · subst hil
    rw [List.take_length] at hP
    have e : waitsOK q = true := by simp only [waitsOK, hl, hP]; simp; omega
    simp (disch := omega) only [go_sem, e]
    refine ret_mk ⟨[], [], []⟩ _ (by (try simp (disch := omega) only [go_sem, resVs, resV]) <;> rfl) ⟨rfl, rfl⟩ (by simp) ?_ trivial
    simp (disch := omega) only [go_sem]
theorem f161_ok (q : Queue) (h1 : q.holds.length ≤ 1000000) (h2 : q.waits.length ≤ 1000000) : FnOK C0 161 [.agg q.c] [] (B (sound q)) [] := by
  refine FnOK.intro (fn := Tryz.f161) (c := Tryz.f161.body.getD .skip) (by kernel_rfl) (by kernel_rfl) (by kernel_rfl) (by kernel_rfl) (by simp [Tryz.f161]) (by simp [names]) ?_
  unfold Tryz.f161
  simp (disch := omega) only [go_sem]
  repeat' (first
    | (with_reducible refine And.intro (fun h => ?_) (fun h => ?_))
    | ((with_reducible show callB _ _ 199 _ _ _); refine call_pure (f199_ok q.res) ?_ rfl ?_; (focus (simp (disch := omega) only [go_sem]; done)); try simp (disch := omega) only [go_sem])
    | ((with_reducible show freeCallB _ _ 199 _ _ _ _ _ _ _); refine freeCall_mk ⟨⟨[], [], []⟩, [], []⟩ (f199_ok q.res) ?_ rfl rfl trivial (.inl rfl) ?_; (focus (simp (disch := omega) only [go_sem]; done)); try simp (disch := omega) only [go_sem])
    | ((with_reducible show callB _ _ 194 _ _ _); refine call_pure (f194_ok q.res q.holds) ?_ rfl ?_; (focus (simp (disch := omega) only [go_sem]; done)); try simp (disch := omega) only [go_sem])
    | ((with_reducible show freeCallB _ _ 194 _ _ _ _ _ _ _); refine freeCall_mk ⟨⟨[], [], []⟩, [], []⟩ (f194_ok q.res q.holds) ?_ rfl rfl trivial (.inl rfl) ?_; (focus (simp (disch := omega) only [go_sem]; done)); try simp (disch := omega) only [go_sem])
    | ((with_reducible show callB _ _ 200 _ _ _); refine call_pure (f200_ok q h1) ?_ rfl ?_; (focus (simp (disch := omega) only [go_sem]; done)); try simp (disch := omega) only [go_sem])
    | ((with_reducible show freeCallB _ _ 200 _ _ _ _ _ _ _); refine freeCall_mk ⟨⟨[], [], []⟩, [], []⟩ (f200_ok q h1) ?_ rfl rfl trivial (.inl rfl) ?_; (focus (simp (disch := omega) only [go_sem]; done)); try simp (disch := omega) only [go_sem])
    | ((with_reducible show callB _ _ 201 _ _ _); refine call_pure (f201_ok q h1 h2) ?_ rfl ?_; (focus (simp (disch := omega) only [go_sem]; done)); try simp (disch := omega) only [go_sem])
    | ((with_reducible show freeCallB _ _ 201 _ _ _ _ _ _ _); refine freeCall_mk ⟨⟨[], [], []⟩, [], []⟩ (f201_ok q h1 h2) ?_ rfl rfl trivial (.inl rfl) ?_; (focus (simp (disch := omega) only [go_sem]; done)); try simp (disch := omega) only [go_sem]))
  all_goals (refine ret_mk ⟨[], [], []⟩ _ (by (try simp (disch := omega) only [go_sem, resVs, resV]) <;> rfl) ⟨rfl, rfl⟩ (by simp) ?_ trivial)
  all_goals (try simp (disch := omega) only [go_sem])
  all_goals (refine wb ?_)
  all_goals (simp_all [sound, resOK] <;> omega)
theorem f110_ok (r : Res) (l : List Hold) (hl : l.length ≤ 1000000) : FnOK C0 110 [.agg r.c, holdsV l] [] (B (holdsOK r l)) [] := by
  refine FnOK.intro (fn := Tryz.f110) (c := Tryz.f110.body.getD .skip) (by kernel_rfl) (by kernel_rfl) (by kernel_rfl) (by kernel_rfl) (by simp [Tryz.f110]) (by simp [names]) ?_
  unfold Tryz.f110
  simp (disch := omega) only [go_sem]
  refine call_pure (f154_ok r) (by simp (disch := omega) only [go_sem]) rfl ?_
  cases hs : r.shaped
  · have e : holdsOK r l = false := by simp [holdsOK, hs]
    simp (disch := omega) only [go_sem, Bool.not_false, e]
    refine ret_mk ⟨[], [], []⟩ _ (by (try simp (disch := omega) only [go_sem, resVs, resV]) <;> rfl) ⟨rfl, rfl⟩ (by simp) ?_ trivial
    simp (disch := omega) only [go_sem]
  by_cases h8 : 8 < l.length
  · have e1 : (8 < (l.length : Int)) = True := by simp; omega
    have e : holdsOK r l = false := by simp [holdsOK]; omega
    simp (disch := omega) only [go_sem, Bool.not_true, e1, e]
    refine ret_mk ⟨[], [], []⟩ _ (by (try simp (disch := omega) only [go_sem, resVs, resV]) <;> rfl) ⟨rfl, rfl⟩ (by simp) ?_ trivial
    simp (disch := omega) only [go_sem]
  have e1 : (8 < (l.length : Int)) = False := by simp; omega
  simp (disch := omega) only [go_sem, Bool.not_true, e1, decide_false]
  refine loop_intro (α := Nat) (fun i => ⟨[(5, I i), (1, holdsV l), (2, .ptr 128 0)], [(128, r.c)]⟩) (fun i => i ≤ (l).length ∧ allAt (holdPos r l) (l.take i) = true) (fun i => (l).length - i) 0 ⟨by omega, rfl⟩ ?_ ?_
  · refine Imp.weak ?_ ?_
    all_goals (try simp (disch := omega) only [go_sem])
    all_goals (try (repeat' (with_reducible apply And.intro)))
    all_goals (first | exact .nilOwn (by omega) | exact .nilNo (by omega) | exact .sl (by simp []) | exact .int (by simp []) | exact .eq (by simp []))
  rintro i ⟨hi, hP⟩ J hJ
  simp (disch := omega) only [go_sem]
  refine And.intro (fun hlt => ?_) (fun hge => ?_)
  rotate_left
  have hil : i = (l).length := by simp at hge; omega
  rotate_left
  obtain ⟨b, hb⟩ : ∃ b, (l)[i]? = some b := ⟨_, List.getElem?_eq_getElem (by simp at hlt; omega)⟩
  have hbm := List.mem_of_getElem? hb
  have hlt2 : i < (l).length := by simp at hlt; omega
  refine draw_mk 32 [([], [1]), ([], [5]), ([0, 1], [20, 21]), ([0, 1, 2], [22]), ([0, 1, 2, 3], [23]), ([0, 1, 2, 3, 4], [24]), ([0, 1, 2, 3, 4, 5], [25]), ([0, 1, 2, 3, 4, 5, 6], [26]), ([0, 1, 2, 3, 4, 5, 6, 7], [2, 27]), ([0, 1, 2, 3, 4, 5, 6, 7], [1, 27]), ([0, 1, 2, 3, 4, 5, 6, 7], [5, 27]), ([0, 1, 2, 3, 4, 5, 6, 7, 9, 10], [29, 30, 27]), ([0, 1, 2, 3, 4, 5, 6, 7, 9, 10, 11], [31, 27]), ([0, 1, 2, 3, 4, 5, 6, 7, 9, 10, 11, 12], [32, 27]), ([0, 1, 2, 3, 4, 5, 6, 7, 8, 9, 10, 11, 12, 13], [28, 33, 27]), ([0, 1, 2, 3, 4, 5, 6, 7, 8, 9, 10, 11, 12, 13, 14], [34, 27]), ([0, 1, 2, 3, 4, 5, 6, 7, 8, 9, 10, 11, 12, 13, 14, 15], [27, 35]), ([0, 1, 2, 3, 4, 5, 6, 7, 8, 9, 10, 11, 12, 13, 14, 15, 16], [36]), ([0, 1, 2, 3, 4, 5, 6, 7, 8, 9, 10, 11, 12, 13, 14, 15, 16, 17], [5, 37]), ([0, 1, 2, 3, 4, 5, 6, 7, 8, 9, 10, 11, 12, 13, 14, 15, 16, 17, 18], [38, 37]), ([0, 1, 2, 3, 4, 5, 6, 7, 8, 9, 10, 11, 12, 13, 14, 15, 16, 17, 18, 19], [39, 37]), ([0, 1, 2, 3, 4, 5, 6, 7, 8, 9, 10, 11, 12, 13, 14, 15, 16, 17, 18, 19, 20], [1, 40]), ([0, 1, 2, 3, 4, 5, 6, 7, 8, 9, 10, 11, 12, 13, 14, 15, 16, 17, 18, 19, 20], [5, 40]), ([0, 1, 2, 3, 4, 5, 6, 7, 8, 9, 10, 11, 12, 13, 14, 15, 16, 17, 18, 19, 20, 22], [42, 40]), ([0, 1, 2, 3, 4, 5, 6, 7, 8, 9, 10, 11, 12, 13, 14, 15, 16, 17, 18, 19, 20, 21, 22, 23], [41, 43, 40]), ([0, 1, 2, 3, 4, 5, 6, 7, 8, 9, 10, 11, 12, 13, 14, 15, 16, 17, 18, 19, 20, 21, 22, 23, 24], [44, 40]), ([0, 1, 2, 3, 4, 5, 6, 7, 8, 9, 10, 11, 12, 13, 14, 15, 16, 17, 18, 19, 20, 21, 22, 23, 24, 25], [45, 40]), ([0, 1, 2, 3, 4, 5, 6, 7, 8, 9, 10, 11, 12, 13, 14, 15, 16, 17, 18, 19, 20], [1, 40]), ([0, 1, 2, 3, 4, 5, 6, 7, 8, 9, 10, 11, 12, 13, 14, 15, 16, 17, 18, 19, 20], [5, 40]), ([0, 1, 2, 3, 4, 5, 6, 7, 8, 9, 10, 11, 12, 13, 14, 15, 16, 17, 18, 19, 20, 27, 28], [47, 48, 40]), ([0, 1, 2, 3, 4, 5, 6, 7, 8, 9, 10, 11, 12, 13, 14, 15, 16, 17, 18, 19, 20, 27, 28, 29], [49, 40]), ([0, 1, 2, 3, 4, 5, 6, 7, 8, 9, 10, 11, 12, 13, 14, 15, 16, 17, 18, 19, 20, 27, 28, 29, 30], [50, 40]), ([0, 1, 2, 3, 4, 5, 6, 7, 8, 9, 10, 11, 12, 13, 14, 15, 16, 17, 18, 19, 20, 21, 22, 23, 24, 25, 26, 27, 28, 29, 30, 31], []), ([0, 1, 2, 3, 4, 5, 6, 7, 8, 9, 10, 11, 12, 13, 14, 15, 16, 17, 18, 19, 20, 21, 22, 23, 24, 25, 26, 27, 28, 29, 30, 31, 32], []), ([0, 1, 2, 3, 4, 5, 6, 7, 8, 9, 10, 11, 12, 13, 14, 15, 16, 17, 18, 19, 20, 21, 22, 23, 24, 25, 26, 27, 28, 29, 30, 31, 32, 33], []), ([0, 1, 2, 3, 4, 5, 6, 7, 8, 9, 10, 11, 12, 13, 14, 15, 16, 17, 18, 19, 20, 21, 22, 23, 24, 25, 26, 27, 28, 29, 30, 31, 32, 33, 34], [])] fol (by kernel_rfl) ?_
  simp (disch := omega) only [go_sem, List.getElem?_map, hb]
  · have bad : holdPos r l i b = false → holdsOK r l = false := fun h => by simp [holdsOK, allAt_false hb h]
    refine freeCall_mk ⟨⟨[], [], []⟩, [], []⟩ (f77_ok b.proc) (by simp (disch := omega) only [go_sem]) rfl rfl trivial (.inl rfl) ?_
    cases hp : b.proc.ok
    · simp (disch := omega) only [go_sem, Bool.not_false, bad (by simp [holdPos, hp])]
      refine ret_mk ⟨[], [], []⟩ _ (by (try simp (disch := omega) only [go_sem, resVs, resV]) <;> rfl) ⟨rfl, rfl⟩ (by simp) ?_ trivial
      simp (disch := omega) only [go_sem]
    simp (disch := omega) only [go_sem, Bool.not_true, List.getElem?_map, hb]
    refine freeCall_mk ⟨⟨[], [], []⟩, [], []⟩ (f111_ok r b.amt) (by simp (disch := omega) only [go_sem]) rfl rfl trivial (.inl rfl) ?_
    cases hf : r.fits b.amt
    · simp (disch := omega) only [go_sem, Bool.not_false, bad (by simp [holdPos, hf])]
      refine ret_mk ⟨[], [], []⟩ _ (by (try simp (disch := omega) only [go_sem, resVs, resV]) <;> rfl) ⟨rfl, rfl⟩ (by simp) ?_ trivial
      simp (disch := omega) only [go_sem]
    by_cases hi0 : i = 0
    · have e0 : (0 < (i : Int)) = False := by simp; omega
      simp (disch := omega) only [go_sem, Bool.not_true, e0, decide_false]
      refine hJ _ (i + 1) ⟨by simp at hlt; omega, (by rw [allAt_take hb, hP]; simp only [holdPos, hp, hf, hi0]; rfl)⟩ (by simp at hlt; omega) (Imp.weak (by simp (disch := omega) only [go_sem]) (by simp (disch := omega) only [go_sem]))
    · have hi1 : (0 < (i : Int)) = True := by simp; omega
      have hi2 : ((i : Int) - 1) = ((i - 1 : Nat) : Int) := by omega
      obtain ⟨a, ha⟩ : ∃ a, l[i - 1]? = some a := ⟨_, List.getElem?_eq_getElem (by simp at hlt; omega)⟩
      have had : l.getD (i - 1) h0 = a := by simp [List.getD, ha]
      simp (disch := omega) only [go_sem, Bool.not_true, hi1, hi2, List.getElem?_map, ha, hb]
      refine call_pure (f79_ok a.proc b.proc) (by simp (disch := omega) only [go_sem]) rfl ?_
      simp (disch := omega) only [go_sem]
      by_cases hc : 0 ≤ cmpP a.proc b.proc
      · have e : holdsOK r l = false := bad (by simp only [holdPos, had]; simp [hi0]; omega)
        simp (disch := omega) only [go_sem, hc, e]
        refine ret_mk ⟨[], [], []⟩ _ (by (try simp (disch := omega) only [go_sem, resVs, resV]) <;> rfl) ⟨rfl, rfl⟩ (by simp) ?_ trivial
        simp (disch := omega) only [go_sem]
      · simp (disch := omega) only [go_sem, hc, decide_false]
        refine hJ _ (i + 1) ⟨by simp at hlt; omega, (by rw [allAt_take hb, hP]; simp only [holdPos, hp, hf, had]; simp; omega)⟩ (by simp at hlt; omega) (Imp.weak (by simp (disch := omega) only [go_sem]) (by simp (disch := omega) only [go_sem]))
  · subst hil
    rw [List.take_length] at hP
    have ee : holdsOK r l = r.compat (l.map (·.amt)) := by simp [holdsOK, hs, hP]; omega
    refine draw_mk 3 [([], [2]), ([], [1]), ([1], [57]), ([0, 1, 2], []), ([0, 1, 2, 3], [])] fol (by kernel_rfl) ?_
    simp (disch := omega) only [go_sem]
    refine freeCall_mk ⟨⟨[], [], []⟩, [], []⟩ (f155_ok l hl) (by simp (disch := omega) only [go_sem]) rfl rfl trivial (.inl rfl) ?_
    simp (disch := omega) only [go_sem]
    refine call_pure (f113_ok r (l.map (·.amt)) (by simp; omega)) (by simp (disch := omega) only [go_sem]; exact .eq (by simp)) rfl ?_
    simp (disch := omega) only [go_sem]
    refine ret_mk ⟨[], [], []⟩ _ (by (try simp (disch := omega) only [go_sem, resVs, resV]) <;> rfl) ⟨rfl, rfl⟩ (by simp) ?_ trivial
    simp (disch := omega) only [go_sem]
    exact wb ee.symm
theorem f167_ok (q : Queue) (h1 : q.holds.length ≤ 1000000) (h2 : q.waits.length ≤ 1000000) : FnOK C0 167 [.agg q.c] [] (B (sound q)) [] := by
  refine FnOK.intro (fn := Tryz.f167) (c := Tryz.f167.body.getD .skip) (by kernel_rfl) (by kernel_rfl) (by kernel_rfl) (by kernel_rfl) (by simp [Tryz.f167]) (by simp [names]) ?_
  unfold Tryz.f167
  by_cases hgo : resOK q.res = true ∧ holdsOK q.res q.holds = true ∧ q.convs.length ≤ 8 ∧ lineOK q.waits = true ∧ q.holds.length + q.waits.length ≤ 8 ∧ 0 ≤ q.gen ∧ q.gen ≤ 1073741824
  rotate_left
  · simp (disch := omega) only [go_sem]
    repeat' (first
      | (with_reducible refine And.intro (fun h => ?_) (fun h => ?_))
      | ((with_reducible show callB _ _ 203 _ _ _); refine call_pure (f203_ok q.res) ?_ rfl ?_; (focus (simp (disch := omega) only [go_sem]; done)); try simp (disch := omega) only [go_sem])
      | ((with_reducible show freeCallB _ _ 203 _ _ _ _ _ _ _); refine freeCall_mk ⟨⟨[], [], []⟩, [], []⟩ (f203_ok q.res) ?_ rfl rfl trivial (.inl rfl) ?_; (focus (simp (disch := omega) only [go_sem]; done)); try simp (disch := omega) only [go_sem])
      | ((with_reducible show callB _ _ 110 _ _ _); refine call_pure (f110_ok q.res q.holds h1) ?_ rfl ?_; (focus (simp (disch := omega) only [go_sem]; done)); try simp (disch := omega) only [go_sem])
      | ((with_reducible show freeCallB _ _ 110 _ _ _ _ _ _ _); refine freeCall_mk ⟨⟨[], [], []⟩, [], []⟩ (f110_ok q.res q.holds h1) ?_ rfl rfl trivial (.inl rfl) ?_; (focus (simp (disch := omega) only [go_sem]; done)); try simp (disch := omega) only [go_sem])
      | ((with_reducible show callB _ _ 204 _ _ _); refine call_pure (f204_ok q.waits h2) ?_ rfl ?_; (focus (simp (disch := omega) only [go_sem]; done)); try simp (disch := omega) only [go_sem])
      | ((with_reducible show freeCallB _ _ 204 _ _ _ _ _ _ _); refine freeCall_mk ⟨⟨[], [], []⟩, [], []⟩ (f204_ok q.waits h2) ?_ rfl rfl trivial (.inl rfl) ?_; (focus (simp (disch := omega) only [go_sem]; done)); try simp (disch := omega) only [go_sem]))
    all_goals first
      | (refine ret_mk ⟨[], [], []⟩ _ (by (try simp (disch := omega) only [go_sem, resVs, resV]) <;> rfl) ⟨rfl, rfl⟩ (by simp) ?_ trivial
         simp (disch := omega) only [go_sem]
         refine wb ?_
         first | (simp_all [sound, resOK, convsOK, waitsOK]; done) | (simp_all [sound, resOK, convsOK, waitsOK]; omega))
      | (exfalso; refine hgo ?_; simp_all [resOK]; omega)
  obtain ⟨g1, g2, g3, g4, g5, g6, g7⟩ := hgo
  have d1 : (8 < (q.convs.length : Int)) = False := by simp; omega
  have d2 : (8 < (q.holds.length : Int) + q.waits.length) = False := by simp; omega
  have d3 : (q.gen < 0) = False := by simp; omega
  have d4 : (1073741824 < q.gen) = False := by simp; omega
  simp (disch := omega) only [go_sem]
  refine call_pure (f203_ok q.res) (by simp (disch := omega) only [go_sem]) rfl ?_
  have g1' : (nameOK q.res.name && q.res.shaped && between q.res.home 0 3) = true := g1
  rw [g1']
  simp (disch := omega) only [go_sem, Bool.not_true]
  refine call_pure (f110_ok q.res q.holds h1) (by simp (disch := omega) only [go_sem]) rfl ?_
  rw [g2]
  simp (disch := omega) only [go_sem, Bool.not_true, d1, decide_false]
  refine call_pure (f204_ok q.waits h2) (by simp (disch := omega) only [go_sem]) rfl ?_
  rw [g4]
  simp (disch := omega) only [go_sem, Bool.not_true, d2, d3, d4, decide_false]
  refine loop_intro (α := Nat) (fun i => ⟨[(4, I i), (1, .ptr 64 0), (3, .ptr 192 0)], [(64, q.c), (192, q.res.c)]⟩) (fun i => i ≤ (q.convs).length ∧ allAt (convPos q) (q.convs.take i) = true) (fun i => (q.convs).length - i) 0 ⟨by omega, rfl⟩ ?_ ?_
  · refine Imp.weak ?_ ?_
    all_goals (try simp (disch := omega) only [go_sem])
    all_goals (try (repeat' (with_reducible apply And.intro)))
    all_goals (first | exact .nilOwn (by omega) | exact .nilNo (by omega) | exact .sl (by simp []) | exact .int (by simp []) | exact .eq (by simp []))
  rintro i ⟨hi, hP⟩ J hJ
  simp (disch := omega) only [go_sem]
  refine And.intro (fun hlt => ?_) (fun hge => ?_)
  rotate_left
  have hil : i = (q.convs).length := by simp at hge; omega
  rotate_left
  obtain ⟨b, hb⟩ : ∃ b, (q.convs)[i]? = some b := ⟨_, List.getElem?_eq_getElem (by simp at hlt; omega)⟩
  have hbm := List.mem_of_getElem? hb
  have hlt2 : i < (q.convs).length := by simp at hlt; omega
  simp (disch := omega) only [go_sem, List.getElem?_map, hb]
  · have bad : convPos q i b = false → sound q = false := fun h => by simp [sound, convsOK, allAt_false hb h]
    repeat' (first
      | (with_reducible refine And.intro (fun h => ?_) (fun h => ?_))
      | ((with_reducible show callB _ _ 173 _ _ _); refine call_pure (f173_ok q.holds b.proc h1) ?_ rfl ?_; (focus (simp (disch := omega) only [go_sem]; done)); try simp (disch := omega) only [go_sem])
      | ((with_reducible show freeCallB _ _ 173 _ _ _ _ _ _ _); refine freeCall_mk ⟨⟨[], [], []⟩, [], []⟩ (f173_ok q.holds b.proc h1) ?_ rfl rfl trivial (.inl rfl) ?_; (focus (simp (disch := omega) only [go_sem]; done)); try simp (disch := omega) only [go_sem])
      | ((with_reducible show callB _ _ 137 _ _ _); refine call_pure (f137_ok (getH q.holds b.proc)) ?_ rfl ?_; (focus (simp (disch := omega) only [go_sem]; done)); try simp (disch := omega) only [go_sem])
      | ((with_reducible show freeCallB _ _ 137 _ _ _ _ _ _ _); refine freeCall_mk ⟨⟨[], [], []⟩, [], []⟩ (f137_ok (getH q.holds b.proc)) ?_ rfl rfl trivial (.inl rfl) ?_; (focus (simp (disch := omega) only [go_sem]; done)); try simp (disch := omega) only [go_sem])
      | ((with_reducible show callB _ _ 111 _ _ _); refine call_pure (f111_ok q.res b.amt) ?_ rfl ?_; (focus (simp (disch := omega) only [go_sem]; done)); try simp (disch := omega) only [go_sem])
      | ((with_reducible show freeCallB _ _ 111 _ _ _ _ _ _ _); refine freeCall_mk ⟨⟨[], [], []⟩, [], []⟩ (f111_ok q.res b.amt) ?_ rfl rfl trivial (.inl rfl) ?_; (focus (simp (disch := omega) only [go_sem]; done)); try simp (disch := omega) only [go_sem])
      | ((with_reducible show callB _ _ 205 _ _ _); refine call_pure (f205_ok q.res b.amt (getH q.holds b.proc)) ?_ rfl ?_; (focus (simp (disch := omega) only [go_sem]; done)); try simp (disch := omega) only [go_sem])
      | ((with_reducible show freeCallB _ _ 205 _ _ _ _ _ _ _); refine freeCall_mk ⟨⟨[], [], []⟩, [], []⟩ (f205_ok q.res b.amt (getH q.holds b.proc)) ?_ rfl rfl trivial (.inl rfl) ?_; (focus (simp (disch := omega) only [go_sem]; done)); try simp (disch := omega) only [go_sem])
      | ((with_reducible show callB _ _ 63 _ _ _); refine call_pure (f63_ok q.convs b.proc (by omega)) ?_ rfl ?_; (focus (simp (disch := omega) only [go_sem]; done)); try simp (disch := omega) only [go_sem])
      | ((with_reducible show freeCallB _ _ 63 _ _ _ _ _ _ _); refine freeCall_mk ⟨⟨[], [], []⟩, [], []⟩ (f63_ok q.convs b.proc (by omega)) ?_ rfl rfl trivial (.inl rfl) ?_; (focus (simp (disch := omega) only [go_sem]; done)); try simp (disch := omega) only [go_sem]))
    all_goals (first | (refine hJ _ (i + 1) ⟨by simp at hlt; omega, by rw [allAt_take hb, hP]; simp_all [convPos]⟩ (by simp at hlt; omega) (Imp.weak (by simp (disch := omega) only [go_sem]) (by simp (disch := omega) only [go_sem])); done) | (refine ret_mk ⟨[], [], []⟩ _ (by (try simp (disch := omega) only [go_sem, resVs, resV]) <;> rfl) ⟨rfl, rfl⟩ (by simp) ?_ trivial; simp (disch := omega) only [go_sem]; refine wb ?_; (rw [bad (by simp_all [convPos])])))
  subst hil
  rw [List.take_length] at hP
  have hconvs : convsOK q = true := by simp [convsOK, hP]; omega
  clear hJ
  refine loop_intro (α := Nat) (fun i => ⟨[(7, I i), (1, .ptr 64 0), (3, .ptr 192 0)], [(64, q.c), (192, q.res.c)]⟩) (fun i => i ≤ (q.waits).length ∧ (q.waits.take i).all (waitPos q) = true) (fun i => (q.waits).length - i) 0 ⟨by omega, rfl⟩ ?_ ?_
  · refine Imp.weak ?_ ?_
    all_goals (try simp (disch := omega) only [go_sem])
    all_goals (try (repeat' (with_reducible apply And.intro)))
    all_goals (first | exact .nilOwn (by omega) | exact .nilNo (by omega) | exact .sl (by simp []) | exact .int (by simp []) | exact .eq (by simp []))
  rintro i ⟨hi, hP⟩ J hJ
  simp (disch := omega) only [go_sem]
  refine And.intro (fun hlt => ?_) (fun hge => ?_)
  rotate_left
  have hil : i = (q.waits).length := by simp at hge; omega
  rotate_left
  obtain ⟨b, hb⟩ : ∃ b, (q.waits)[i]? = some b := ⟨_, List.getElem?_eq_getElem (by simp at hlt; omega)⟩
  have hbm := List.mem_of_getElem? hb
  have hlt2 : i < (q.waits).length := by simp at hlt; omega
  refine draw_mk 18 [([], [3]), ([], [1]), ([1], [119]), ([], [7]), ([1, 2, 3], [120, 121]), ([1, 2, 3, 4], [122]), ([1, 2, 3, 4, 5], [123]), ([0, 1, 2, 3, 4, 5, 6], [118, 124]), ([0, 1, 2, 3, 4, 5, 6, 7], [125]), ([0, 1, 2, 3, 4, 5, 6, 7, 8], [126]), ([0, 1, 2, 3, 4, 5, 6, 7, 8, 9], [1, 127]), ([0, 1, 2, 3, 4, 5, 6, 7, 8, 9, 10], [128, 127]), ([0, 1, 2, 3, 4, 5, 6, 7, 8, 9], [1, 127]), ([0, 1, 2, 3, 4, 5, 6, 7, 8, 9, 12], [130, 127]), ([0, 1, 2, 3, 4, 5, 6, 7, 8, 9], [7, 127]), ([0, 1, 2, 3, 4, 5, 6, 7, 8, 9, 12, 13, 14], [131, 132, 127]), ([0, 1, 2, 3, 4, 5, 6, 7, 8, 9, 12, 13, 14, 15], [133, 127]), ([0, 1, 2, 3, 4, 5, 6, 7, 8, 9, 12, 13, 14, 15, 16], [134, 127]), ([0, 1, 2, 3, 4, 5, 6, 7, 8, 9, 10, 11, 12, 13, 14, 15, 16, 17], []), ([0, 1, 2, 3, 4, 5, 6, 7, 8, 9, 10, 11, 12, 13, 14, 15, 16, 17, 18], []), ([0, 1, 2, 3, 4, 5, 6, 7, 8, 9, 10, 11, 12, 13, 14, 15, 16, 17, 18, 19], []), ([0, 1, 2, 3, 4, 5, 6, 7, 8, 9, 10, 11, 12, 13, 14, 15, 16, 17, 18, 19, 20], [])] fol (by kernel_rfl) ?_
  simp (disch := omega) only [go_sem, List.getElem?_map, hb]
  · have bad : waitPos q b = false → sound q = false := fun h => by simp only [sound, waitsOK, all_false hbm h, Bool.and_false, Bool.false_and]
    repeat' (first
      | (with_reducible refine And.intro (fun h => ?_) (fun h => ?_))
      | ((with_reducible show callB _ _ 111 _ _ _); refine call_pure (f111_ok q.res b.amt) ?_ rfl ?_; (focus (simp (disch := omega) only [go_sem]; done)); try simp (disch := omega) only [go_sem, List.getElem?_map, hb])
      | ((with_reducible show freeCallB _ _ 111 _ _ _ _ _ _ _); refine freeCall_mk ⟨⟨[], [], []⟩, [], []⟩ (f111_ok q.res b.amt) ?_ rfl rfl trivial (.inl rfl) ?_; (focus (simp (disch := omega) only [go_sem]; done)); try simp (disch := omega) only [go_sem, List.getElem?_map, hb])
      | ((with_reducible show callB _ _ 173 _ _ _); refine call_pure (f173_ok q.holds b.proc h1) ?_ rfl ?_; (focus (simp (disch := omega) only [go_sem]; done)); try simp (disch := omega) only [go_sem, List.getElem?_map, hb])
      | ((with_reducible show freeCallB _ _ 173 _ _ _ _ _ _ _); refine freeCall_mk ⟨⟨[], [], []⟩, [], []⟩ (f173_ok q.holds b.proc h1) ?_ rfl rfl trivial (.inl rfl) ?_; (focus (simp (disch := omega) only [go_sem]; done)); try simp (disch := omega) only [go_sem, List.getElem?_map, hb])
      | ((with_reducible show callB _ _ 137 _ _ _); refine call_pure (f137_ok (getH q.holds b.proc)) ?_ rfl ?_; (focus (simp (disch := omega) only [go_sem]; done)); try simp (disch := omega) only [go_sem, List.getElem?_map, hb])
      | ((with_reducible show freeCallB _ _ 137 _ _ _ _ _ _ _); refine freeCall_mk ⟨⟨[], [], []⟩, [], []⟩ (f137_ok (getH q.holds b.proc)) ?_ rfl rfl trivial (.inl rfl) ?_; (focus (simp (disch := omega) only [go_sem]; done)); try simp (disch := omega) only [go_sem, List.getElem?_map, hb]))
    all_goals (first | (refine hJ _ (i + 1) ⟨by simp at hlt; omega, by rw [all_take hb, hP]; simp_all [waitPos]⟩ (by simp at hlt; omega) (Imp.weak (by simp (disch := omega) only [go_sem]) (by simp (disch := omega) only [go_sem])); done) | (refine ret_mk ⟨[], [], []⟩ _ (by (try simp (disch := omega) only [go_sem, resVs, resV]) <;> rfl) ⟨rfl, rfl⟩ (by simp) ?_ trivial; simp (disch := omega) only [go_sem]; refine wb ?_; (rw [bad (by simp_all [waitPos])])))
  · subst hil
    rw [List.take_length] at hP
    refine ret_mk ⟨[], [], []⟩ _ (by (try simp (disch := omega) only [go_sem, resVs, resV]) <;> rfl) ⟨rfl, rfl⟩ (by simp) ?_ trivial
    simp (disch := omega) only [go_sem]
    exact wb (by simp only [sound, waitsOK, hconvs, hP, g1, g2, g4]; simp; omega)
end Go.Rd
