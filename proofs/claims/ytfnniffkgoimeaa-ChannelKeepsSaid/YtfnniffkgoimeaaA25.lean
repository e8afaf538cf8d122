/- Regions that draw their order: the rule. -/
import Derived.Test.YtfnniffkgoimeaaA24
import Derived.Still
set_option linter.all false
namespace Go.Abs
section
variable {X : Env} {A : A0} {N : Nat} {g : Gh} {st0 : St} {a : Act} {w : World} {ops : Array Oper} {k : Nat} {tab : List (List Nat × List Nat)} {res : Nat → Res} {D : Nat → Bool}

def dOf (listed : Array Bool) (i : Nat) : Bool := listed.getD i false

theorem ready_iff {listed : Array Bool} (hs : listed.size = ops.size) {i : Nat} : i ∈ Region.ready .any ops listed ↔ i < ops.size ∧ dOf listed i = false ∧ ∀ e ∈ edgesOf ops i, dOf listed e = true := by
  rw [mem_ready]
  constructor
  · rintro ⟨h1, o, ho, h2⟩
    have hi : i < ops.size := by
      rcases Nat.lt_or_ge i ops.size with h | h
      · exact h
      · rw [Array.getElem?_eq_none h] at ho; cases ho
    refine ⟨hi, ?_, fun e he => ?_⟩
    · simpa [dOf, Array.getD, hs, hi] using h1
    · simp only [edgesOf, ho, List.mem_filterMap] at he
      obtain ⟨ed, hed, he⟩ := he
      split at he
      · rename_i hb
        injection he with he
        subst he
        exact h2 ed (by simpa using hed) hb
      · cases he
  · rintro ⟨hi, h1, h2⟩
    refine ⟨?_, ops[i], Array.getElem?_eq_getElem hi, fun e he hb => ?_⟩
    · simpa [dOf, Array.getD, hs, hi] using h1
    · refine h2 e.on ?_
      simp only [edgesOf, Array.getElem?_eq_getElem hi, List.mem_filterMap]
      exact ⟨e, by simpa using he, by simp [hb]⟩

theorem dOf_set {listed : Array Bool} {i : Nat} (hi : i < listed.size) : dOf (listed.setIfInBounds i true) = addD i (dOf listed) := by
  funext j
  simp only [dOf, addD, Array.getD_eq_getD_getElem?, Array.getElem?_setIfInBounds]
  by_cases hij : i = j
  · subst hij; simp [hi]
  · have : j ≠ i := fun e => hij e.symm
    simp [hij, this]

def unl (listed : Array Bool) : Nat := listed.toList.count false

theorem unl_set {listed : Array Bool} {i : Nat} (hi : i < listed.size) (hd : dOf listed i = false) : unl (listed.setIfInBounds i true) + 1 = unl listed := by
  have hl : i < listed.toList.length := by simpa using hi
  have hv : listed.toList[i] = false := by simpa [dOf, Array.getD, hi] using hd
  unfold unl
  rw [Array.toList_setIfInBounds, List.count_set hl, hv]
  have : 0 < listed.toList.count false := List.count_pos_iff.2 (by rw [← hv]; exact List.getElem_mem hl)
  have h1 : (true == false) = false := rfl
  rw [h1]
  simp only [beq_self_eq_true, if_true, Bool.false_eq_true, if_false]
  omega

theorem unl_zero {listed : Array Bool} (h : unl listed = 0) {i : Nat} (hi : i < listed.size) : dOf listed i = true := by
  cases hd : dOf listed i with
  | true => rfl
  | false => have := unl_set hi hd; omega

theorem explore_seq (hr : RegOK ops k tab) {Q : Exit → Act → World → Prop} : ∀ (fuel i : Nat) (listed : Array Bool) (a : Act) (w : World), listed.size = ops.size → unl listed ≤ fuel → k ≤ i → i ≤ ops.size → (∀ j, j < ops.size → dOf listed j = decide (j < i)) →
    wpList X.C.P ops Q (ops.toList.drop i) a w → wpAny X.C.P .any ops Q fuel listed a w := by
  intro fuel
  induction fuel with
  | zero =>
    intro i listed a w hs hu hk hi hd h
    have hin : i = ops.size := by
      rcases Nat.lt_or_ge i ops.size with hlt | hge
      · have := unl_zero (by omega) (by omega : i < listed.size); rw [hd i hlt] at this; simp at this
      · omega
    subst hin
    rw [List.drop_eq_nil_of_le (by simp)] at h
    refine ⟨?_, h⟩
    cases hrd : Region.ready .any ops listed with
    | nil => rfl
    | cons j l =>
      have hj : j ∈ Region.ready .any ops listed := by rw [hrd]; simp
      have := (ready_iff hs).1 hj
      rw [hd j this.1] at this; simp at this; omega
  | succ fuel ih =>
    intro i listed a w hs hu hk hi hd h
    have honly : ∀ j ∈ Region.ready .any ops listed, j = i := fun j hj => by
      obtain ⟨h1, h2, h3⟩ := (ready_iff hs).1 hj
      rw [hd j h1] at h2
      have hge : i ≤ j := by simpa using h2
      rcases Nat.lt_or_ge i j with hlt | hle
      · have hp := pred_of_edges hr (D := dOf listed) (fun q hq hD e he => by
          rw [hd q hq] at hD
          have := hr.edge q hq e he
          rw [hd e (by omega)]; simp at hD ⊢; omega) h1 h3 i (hr.tail j h1 (by omega) i hlt)
        rw [hd i (by omega)] at hp; simp at hp
      · omega
    constructor
    · intro h0
      rcases Nat.lt_or_ge i ops.size with hlt | hge
      · have : i ∈ Region.ready .any ops listed := (ready_iff hs).2 ⟨hlt, by rw [hd i hlt]; simp, fun e he => by
          have := hr.edge i hlt e he
          rw [hd e (by omega)]; simp; omega⟩
        rw [h0] at this; cases this
      · have hin : i = ops.size := by omega
        subst hin
        rw [List.drop_eq_nil_of_le (by simp)] at h
        exact h
    · intro j hj
      have hji := honly j hj
      subst hji
      obtain ⟨hlt, hnd, _⟩ := (ready_iff hs).1 hj
      have hget : ops[j]? = some ops[j] := Array.getElem?_eq_getElem hlt
      rw [List.drop_eq_getElem_cons (by simpa using hlt)] at h
      have hw : wpOp X.C.P ops Q j (wpList X.C.P ops Q (ops.toList.drop (j + 1))) a w := by
        unfold wpOp
        simp only [hget]
        simpa [wpList] using h
      refine wpOp_mono (fun a' w' h' => ih (j + 1) _ a' w' (by simp [hs]) (by have := unl_set (by omega : j < listed.size) hnd; omega) (by omega) (by omega) (fun q hq => ?_) h') hw
      rw [dOf_set (by omega)]
      simp only [addD]
      split
      · rename_i e; subst e; simp
      · rename_i e; rw [hd q hq]; congr 1; simp; omega

theorem free_step (hA : A.ext = X.ext) (hX : ∀ s ∈ X.ext, s % 64 = 63) (hN : ∀ o ∈ ops, ∀ d, o.dst = some d → d < N) (hr : RegOK ops k tab) (hv : Valid X ops tab st0 res k) (hdst : ∀ j, j < k → (dstT ops j).isSome = true) (hc : Closed ops D) {i : Nat} (hi : i < k) (hnd : D i = false) (hp : ∀ p ∈ predT tab i, D p = true)
    (hR : R X.C A N g (stD ops res st0 D k) a w) {K : Act → World → Prop} {Q : Exit → Act → World → Prop} (hK : ∀ g' a' w', R X.C A N g' (stD ops res st0 (addD i D) k) a' w' → K a' w') : wpOp X.C.P ops Q i K a w := by
  obtain ⟨o, ho, hsome, hop⟩ := hv.op i hi
  obtain ⟨d, hd⟩ := Option.isSome_iff_exists.1 hsome
  have hdt : dstT ops i = some d := by simp [dstT, ho, hd]
  have hRr := restr_le hr hv hc hi hnd hp hR
  have hdN : ∀ d', o.dst = some d' → d' < N := hN o (Array.mem_of_getElem? ho)
  unfold wpOp
  simp only [ho]
  rcases hop with ⟨hg, hG⟩ | ⟨⟨j, b, b', hg, hne, hb⟩, hres⟩
  · have hw : Region.wanted o (yielded ops a.tmps) = true := by
      rcases hg with hg | ⟨j, b, hg, hb⟩
      · simp [Region.wanted, hg]
      · simp [Region.wanted, hg, guard_spec hRr hb]
    simp only [hw, if_true]
    refine .inl (hG A N g a w hRr K Q fun u g' w' hgr hx hu => ?_)
    have hext : ∀ s, s ∈ A.ext → s ∉ (res i).T := fun s hs hT => by
      have h7 := hX s (hA ▸ hs)
      have h8 := List.all_eq_true.1 (hv.ext i hi) s hT
      simp [h7] at h8
    have h1 := (hR.app hgr hext hu).put hdN hx
    obtain ⟨f1, f2⟩ := fix_stD hr hv hdst hc hi hnd
    refine hK g' _ w' (step_stD hr hv hdst hc hi hnd hp hdt ?_)
    have e : (St.put o.dst (res i).x (St.app (res i).S (res i).T (res i).T (res i).upd (stD ops res st0 D k))) = ⟨(d, (res i).x) :: (stD ops res st0 D k).tmps, (res i).upd ++ (stD ops res st0 D k).objs⟩ := by
      simp only [hd, St.put, St.app]
      rw [f1, f2]
    rw [← e]
    exact h1
  · have hw : Region.wanted o (yielded ops a.tmps) = false := by simp [Region.wanted, hg, guard_spec hRr hb, hne]
    simp only [hw, Bool.false_eq_true, if_false]
    refine hK g _ w (step_stD hr hv hdst hc hi hnd hp hdt ?_)
    have h1 := hR.put (x := .undef) (u := undef) hdN (by simp [VR])
    rw [hres]
    rw [hd] at h1 ⊢
    exact h1

theorem explore (hA : A.ext = X.ext) (hX : ∀ s ∈ X.ext, s % 64 = 63) (hN : ∀ o ∈ ops, ∀ d, o.dst = some d → d < N) (hr : RegOK ops k tab) (hv : Valid X ops tab st0 res k) (hdst : ∀ j, j < k → (dstT ops j).isSome = true) {Q : Exit → Act → World → Prop}
    (htail : ∀ g a w, R X.C A N g (canon ops res st0 k) a w → wpList X.C.P ops Q (ops.toList.drop k) a w) : ∀ (fuel : Nat) (listed : Array Bool) (g : Gh) (a : Act) (w : World), listed.size = ops.size → unl listed ≤ fuel → Closed ops (dOf listed) → (∀ j, j < ops.size → dOf listed j = true → j < k) →
    R X.C A N g (stD ops res st0 (dOf listed) k) a w → wpAny X.C.P .any ops Q fuel listed a w := by
  have hk := hr.le
  have full : ∀ (fuel : Nat) (listed : Array Bool) (g : Gh) (a : Act) (w : World), listed.size = ops.size → unl listed ≤ fuel → (∀ j, j < ops.size → dOf listed j = true → j < k) → (∀ j, j < k → dOf listed j = true) → R X.C A N g (stD ops res st0 (dOf listed) k) a w → wpAny X.C.P .any ops Q fuel listed a w := by
    intro fuel listed g a w hs hu hlt hall hR
    have e : stD ops res st0 (dOf listed) k = canon ops res st0 k := by
      simp only [stD, canon]
      rw [tmD_congr (res := res) (res' := res) (D := dOf listed) (D' := fun _ => true) k fun j hj => ⟨rfl, hall j hj⟩, obD_congr (res := res) (res' := res) (D := dOf listed) (D' := fun _ => true) k fun j hj => ⟨rfl, hall j hj⟩]
    rw [e] at hR
    refine explore_seq hr fuel k listed a w hs hu (Nat.le_refl _) hk (fun j hj => ?_) (htail g a w hR)
    cases hd : dOf listed j with
    | true => simp [hlt j hj hd]
    | false =>
      have : ¬ j < k := fun h => by rw [hall j h] at hd; cases hd
      simp [this]
  intro fuel
  induction fuel with
  | zero =>
    intro listed g a w hs hu hc hlt hR
    exact full 0 listed g a w hs hu hlt (fun j hj => unl_zero (by omega) (by omega)) hR
  | succ fuel ih =>
    intro listed g a w hs hu hc hlt hR
    by_cases hall : ∀ j, j < k → dOf listed j = true
    · exact full _ listed g a w hs hu hlt hall hR
    · have step : ∀ i ∈ Region.ready .any ops listed, wpOp X.C.P ops Q i (wpAny X.C.P .any ops Q fuel (listed.setIfInBounds i true)) a w := fun i hi => by
        obtain ⟨h1, h2, h3⟩ := (ready_iff hs).1 hi
        have hp := pred_of_edges hr hc h1 h3
        have hik : i < k := by
          rcases Nat.lt_or_ge i k with h | h
          · exact h
          · exact (hall fun j hj => hp j (hr.tail i h1 h j (by omega))).elim
        refine free_step hA hX hN hr hv hdst hc hik h2 hp hR fun g' a' w' hR' => ?_
        rw [← dOf_set (by omega)] at hR'
        refine ih _ g' a' w' (by simp [hs]) (by have := unl_set (by omega : i < listed.size) h2; omega) (by rw [dOf_set (by omega)]; exact closed_add hc h3) (fun j hj hD => ?_) hR'
        rw [dOf_set (by omega)] at hD
        simp only [addD] at hD
        split at hD
        · rename_i e; omega
        · exact hlt j hj hD
      refine ⟨fun h0 => ?_, step⟩
      have hex : ∃ j, j < k ∧ dOf listed j = false := by
        apply Classical.byContradiction
        intro hno
        refine hall fun j hj => ?_
        cases hd : dOf listed j with
        | true => rfl
        | false => exact (hno ⟨j, hj, hd⟩).elim
      have least : ∀ n j, j < k → dOf listed j = false → j ≤ n → ∃ i, i < k ∧ i ∈ Region.ready .any ops listed := by
        intro n
        induction n with
        | zero =>
          intro j hj hd hjn
          have : j = 0 := by omega
          subst this
          exact ⟨0, hj, (ready_iff hs).2 ⟨by omega, hd, fun e he => by have := hr.edge 0 (by omega) e he; omega⟩⟩
        | succ n ihn =>
          intro j hj hd hjn
          by_cases hed : ∀ e ∈ edgesOf ops j, dOf listed e = true
          · exact ⟨j, hj, (ready_iff hs).2 ⟨by omega, hd, hed⟩⟩
          · have : ∃ e, e ∈ edgesOf ops j ∧ dOf listed e = false := by
              apply Classical.byContradiction
              intro hno
              refine hed fun e he => ?_
              cases hde : dOf listed e with
              | true => rfl
              | false => exact (hno ⟨e, he, hde⟩).elim
            obtain ⟨e, he, hde⟩ := this
            have := hr.edge j (by omega) e he
            exact ihn e (by omega) hde (by omega)
      obtain ⟨j, hj, hd⟩ := hex
      obtain ⟨i, _, hi⟩ := least k j hj hd (by omega)
      rw [h0] at hi; cases hi
end

/-- the rule: the table lists, for each operation, those that surely come before it, and the temporaries that it may read -/
theorem draw_intro {X : Env} {ops : Array Oper} {K : St → Prop} {st : St} (k : Nat) (tab : List (List Nat × List Nat)) (hm : X.C.P.follows .mixedOrders = true) (hok : regOK ops k tab = true)
    (h : freeA X ops st.objs (ops.toList.take k) tab 0 [] (opsA X ops (ops.toList.drop k) K) st) : drawA X ops K st := by
  intro A N g a w hA hN hX hR id Q hQ
  have hr := regOK.spec hok
  have hk := hr.le
  have hlen : (ops.toList.take k).length = k := by simp; omega
  obtain ⟨res, hv, hK⟩ := freeA_sound (X := X) (st0 := st) (ops := ops) (tab := tab) (ops.toList.take k) tab 0 [] (fun _ => ⟨.undef, [], [], []⟩) (fun j o hj => by
    rw [List.getElem?_take] at hj
    split at hj
    · simpa using hj
    · cases hj) (fun j q hj => by simpa using hj) ⟨fun i hi => by omega, fun i hi => by omega, fun i hi => by omega, fun i hi => by omega, fun i j _ hj => by omega⟩ (fun i hi => by omega) h
  rw [hlen, Nat.zero_add] at hv hK
  have hdst : ∀ j, j < k → (dstT ops j).isSome = true := fun j hj => by
    obtain ⟨o, ho, hd, _⟩ := hv.op j hj
    simpa [dstT, ho] using hd
  refine wp_region_any hm (explore hA hX hN hr hv hdst (fun g' a' w' hR' => ?_) ops.size (Array.replicate ops.size false) g a _ (by simp) (by simp [unl]) ?_ ?_ ?_)
  · exact opsA_sound hA hX (N := N) (K := K) (Q := Q) hQ (ops.toList.drop k) g' _ a' w' (fun o ho => by
      have hmem : o ∈ ops := by simpa using List.mem_of_mem_drop ho
      unfold opOK
      cases hd : o.dst with
      | none => rfl
      | some d => simp; exact hN o hmem d hd) hK hR'
  · intro i hi hD; simp [dOf, Array.getD, hi] at hD
  · intro j hj hD; simp [dOf, Array.getD, hj] at hD
  · have e : stD ops res st (dOf (Array.replicate ops.size false)) k = st := by
      have hf : ∀ j, j < k → dOf (Array.replicate ops.size false) j = false := fun j hj => by
        have : j < ops.size := by omega
        simp [dOf, Array.getD, this]
      have h1 : tmD (dstT ops) res (dOf (Array.replicate ops.size false)) st.tmps k = st.tmps := by
        rw [tmD_cut (i := 0) k (by omega) fun j _ hj => hf j hj]; rfl
      have h2 : ∀ n, n ≤ k → obD res (dOf (Array.replicate ops.size false)) st.objs n = st.objs := fun n => by
        induction n with
        | zero => intro _; rfl
        | succ n ih => intro hn; simp only [obD, hf n (by omega), Bool.false_eq_true, if_false]; exact ih (by omega)
      simp only [stD, h1, h2 k (Nat.le_refl _)]
    rw [e]
    exact hR.drew
end Go.Abs
