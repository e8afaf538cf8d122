/- Regions that draw their order: every order. -/
import Derived.Test.YtfnniffkgoimeaaA23
set_option linter.all false
namespace Go.Abs
section
variable {X : Env} {A : A0} {N : Nat} {g : Gh} {st0 : St} {a : Act} {w : World} {ops : Array Oper} {k : Nat} {tab : List (List Nat × List Nat)} {res : Nat → Res} {D : Nat → Bool}

theorem R.le' {st st' : St} {C : Ctx} (h : R C A N g st a w) (h1 : ∀ t x, lk t st'.tmps = some x → lk t st.tmps = some x) (h2 : ∀ s cs, lk s st'.objs = some cs → lk s st.objs = some cs) : R C A N g st' a w :=
  ⟨h.size, h.defs, fun t x hx => h.tm t x (h1 t x hx), fun s cs hs => h.ob s cs (h2 s cs hs), h.fr⟩

theorem lk_restr {st : St} {t : Nat} {x : AV} : ∀ {ts : List Nat}, lk t (restr st ts) = some x → t ∈ ts ∧ lk t st.tmps = some x
  | [], h => by cases h
  | u :: ts, h => by
    simp only [restr] at h
    split at h
    · rename_i y hy
      simp only [lk] at h
      split at h
      · rename_i hut; subst hut; exact ⟨by simp, by rw [hy]; exact h⟩
      · obtain ⟨h1, h2⟩ := lk_restr h; exact ⟨by simp [h1], h2⟩
    · obtain ⟨h1, h2⟩ := lk_restr h; exact ⟨by simp [h1], h2⟩

theorem isIn_iff {d : Option Nat} {l : List Nat} : isIn d l = true ↔ ∃ t, d = some t ∧ t ∈ l := by
  cases d <;> simp [isIn]

/-- who writes what operation 'i' reads has run iff he comes before 'i' -/
theorem reads_settled (hr : RegOK ops k tab) (hc : Closed ops D) {i : Nat} (hi : i < k) (hnd : D i = false) (hp : ∀ p ∈ predT tab i, D p = true) {t : Nat} (ht : t ∈ readT tab i) (j : Nat) (hj : j < k) (hd : dstT ops j = some t) (hji : j ≠ i) : D j = decide (j < i) := by
  have hk := hr.le
  rcases Nat.lt_or_gt_of_ne hji with hlt | hgt
  · rcases hr.apart i j hi hlt with h | h
    · simp [hp j h, hlt]
    · simp only [clash, Bool.or_eq_false_iff] at h
      have := h.1.2
      rw [isIn_iff.2 ⟨t, hd, ht⟩] at this; cases this
  · have hni : ¬ j < i := by omega
    simp only [hni, decide_false]
    rcases hr.apart j i hj hgt with h | h
    · cases hD : D j with
      | false => rfl
      | true => have := hc.pred hr j (by omega) hD i h; rw [hnd] at this; cases this
    · simp only [clash, Bool.or_eq_false_iff] at h
      have := h.2
      rw [isIn_iff.2 ⟨t, hd, ht⟩] at this; cases this

theorem reads_canon (hr : RegOK ops k tab) (hc : Closed ops D) {i : Nat} (hi : i < k) (hnd : D i = false) (hp : ∀ p ∈ predT tab i, D p = true) {t : Nat} (ht : t ∈ readT tab i) (hself : dstT ops i ≠ some t ∨ True) :
    lk t (tmD (dstT ops) res D st0.tmps k) = lk t (tmD (dstT ops) res (fun _ => true) st0.tmps i) := by
  have h1 : lk t (tmD (dstT ops) res D st0.tmps k) = lk t (tmD (dstT ops) res (fun j => decide (j < i)) st0.tmps k) := lk_tmD k fun j hj hd => by
    by_cases hji : j = i
    · subst hji; simp [hnd]
    · exact reads_settled hr hc hi hnd hp ht j hj hd hji
  rw [h1, tmD_cut (i := i) k (by omega) (fun j h1 _ => by simp; omega)]
  rw [tmD_congr (res := res) (res' := res) (D := fun j => decide (j < i)) (D' := fun _ => true) i fun j hj => ⟨rfl, by simp [hj]⟩]

/-- objects of the start are still there -/
theorem objs_base (hv : Valid X ops tab st0 res k) {s : Nat} {cs : List AV} (hs : lk s st0.objs = some cs) : ∀ n, n ≤ k → lk s (obD res D st0.objs n) = some cs
  | 0, _ => hs
  | n + 1, hn => by
    have ih := objs_base hv hs n (by omega)
    simp only [obD]
    split
    · rw [lk_append]
      have hf := (hv.fix n (by omega)).2
      obtain ⟨hb, _⟩ := fixO_of_obD n hf
      have hno : s ∉ (res n).T := fun h => by
        have := fixO_names hb s h
        rw [this] at hs; cases hs
      have : lk s (res n).upd = none := lk_none fun h => hno (hv.nam n (by omega) s h)
      rw [this]; simpa using ih
    · exact ih

theorem restr_le (hr : RegOK ops k tab) (hv : Valid X ops tab st0 res k) (hc : Closed ops D) {i : Nat} (hi : i < k) (hnd : D i = false) (hp : ∀ p ∈ predT tab i, D p = true) (hR : R X.C A N g (stD ops res st0 D k) a w) :
    R X.C A N g ⟨restr (canon ops res st0 i) (readT tab i), st0.objs⟩ a w := by
  refine hR.le' (fun t x hx => ?_) fun s cs hs => objs_base hv hs k (Nat.le_refl _)
  obtain ⟨h1, h2⟩ := lk_restr hx
  simp only [stD]
  rw [reads_canon hr hc hi hnd hp h1 (.inr trivial)]
  exact h2

/-- the operation's killing touches nothing that is known -/
theorem fix_stD (hr : RegOK ops k tab) (hv : Valid X ops tab st0 res k) (hdst : ∀ j, j < k → (dstT ops j).isSome = true) (hc : Closed ops D) {i : Nat} (hi : i < k) (hnd : D i = false) :
    fixT (res i).S (res i).T (stD ops res st0 D k).tmps ∧ fixO (res i).S (res i).T (stD ops res st0 D k).objs := by
  have hk := hr.le
  obtain ⟨h1, h2⟩ := hv.fix i hi
  obtain ⟨b1, b2⟩ := fixT_of_tmD i h1
  obtain ⟨c1, c2⟩ := fixO_of_obD i h2
  have key : ∀ j, j < k → D j = true → (res j).x.kill (res i).S (res i).T = (res j).x ∧ fixO (res i).S (res i).T (res j).upd := fun j hj hD => by
    rcases Nat.lt_trichotomy j i with h | h | h
    · exact ⟨b2 j h (hdst j hj), c2 j h⟩
    · subst h; rw [hnd] at hD; cases hD
    · rcases hv.away i j h hj with h' | h'
      · have := hc.pred hr j (by omega) hD i h'; rw [hnd] at this; cases this
      · exact h'
  exact ⟨fixT_tmD k b1 fun j hj hD => (key j hj hD).1, fixO_obD k c1 fun j hj hD => (key j hj hD).2⟩

theorem disj_upd (hr : RegOK ops k tab) (hv : Valid X ops tab st0 res k) (hdst : ∀ j, j < k → (dstT ops j).isSome = true) (hc : Closed ops D) {i : Nat} (hi : i < k) (hnd : D i = false) {s : Nat} {c : List AV} (hs : lk s (res i).upd = some c) :
    ∀ j, j ≠ i → j < k → D j = true → lk s (res j).upd = none := fun j hji hj hD => by
  have hk := hr.le
  have hT : s ∈ (res i).T := hv.nam i hi s (lk_some_names hs)
  have : fixO (res i).S (res i).T (res j).upd := by
    rcases Nat.lt_trichotomy j i with h | h | h
    · exact (fixO_of_obD i (hv.fix i hi).2).2 j h
    · exact (hji h).elim
    · rcases hv.away i j h hj with h' | h'
      · have := hc.pred hr j (by omega) hD i h'; rw [hnd] at this; cases this
      · exact h'.2
  exact fixO_names this s hT

/-- one operation more -/
theorem step_stD (hr : RegOK ops k tab) (hv : Valid X ops tab st0 res k) (hdst : ∀ j, j < k → (dstT ops j).isSome = true) (hc : Closed ops D) {i d : Nat} (hi : i < k) (hnd : D i = false) (hp : ∀ p ∈ predT tab i, D p = true) (hd : dstT ops i = some d)
    (hR : R X.C A N g ⟨(d, (res i).x) :: (stD ops res st0 D k).tmps, (res i).upd ++ (stD ops res st0 D k).objs⟩ a w) : R X.C A N g (stD ops res st0 (addD i D) k) a w := by
  have hk := hr.le
  refine hR.le' (fun t x hx => ?_) fun s cs hs => ?_
  · simp only [stD] at hx ⊢
    by_cases hdt : d = t
    · subst hdt
      rw [lk_tmD_add_self hd k hi fun j h1 h2 h3 h4 => ?_] at hx
      · simpa [lk] using hx
      · rcases hr.apart j i h2 h1 with h | h
        · have := hc.pred hr j (by omega) h3 i h; rw [hnd] at this; cases this
        · simp [clash, hd, h4] at h
    · simp only [lk, hdt, if_false]
      rw [← hx]
      exact lk_tmD k fun j hj hdj => by
        have : j ≠ i := fun e => by subst e; rw [hd] at hdj; injection hdj with e; exact hdt e
        simp [addD, this]
  · simp only [stD] at hs ⊢
    rw [lk_obD_add hnd k hi fun c hcs => disj_upd hr hv hdst hc hi hnd hcs] at hs
    rw [lk_append]; exact hs

theorem closed_add (hc : Closed ops D) {i : Nat} (hd : ∀ e ∈ edgesOf ops i, D e = true) : Closed ops (addD i D) := fun j hj hD e he => by
  simp only [addD] at hD ⊢
  split
  · rfl
  · by_cases hji : j = i
    · subst hji; exact hd e he
    · simp only [hji, if_false] at hD
      exact hc j hj hD e he
end
end Go.Abs
