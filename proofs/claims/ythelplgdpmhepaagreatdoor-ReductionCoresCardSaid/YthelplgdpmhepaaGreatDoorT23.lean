/- part 23 of the proof -/
import Derived.Test.YthelplgdpmhepaaGreatDoorT22
set_option linter.all false
open Go Go.Abs Go.Proofs
set_option maxRecDepth 100000
namespace Go.Rd
theorem sizeL_ge {lv : Int} (h1 : 0 ≤ lv) (h4 : lv ≤ 4) : ∀ (l : List Expr) (n m : Int), n ≤ 24 → n ≤ (sizeL l lv n m).1
  | [], n, m, _ => by simp [sizeL]
  | e :: l, n, m, hn => by
    have b := sizeE_bd _ e (Nat.lt_succ_self _) (lv + 1) (by omega) (by omega)
    simp only [sizeL]
    split
    · simp only; omega
    · have := sizeL_ge h1 h4 l (n + (sizeE e (lv + 1)).1) (max m (sizeE e (lv + 1)).2) (by omega)
      have := b.1
      omega
def msC (e : Expr) (lv : Int) : Prop := ∀ n : Int, 0 ≤ n → n ≤ 24 → ((meas e lv n).1 ≠ 0 → sizeE e lv = ((meas e lv n).2 - n, (meas e lv n).1)) ∧ ((meas e lv n).1 = 0 → 24 < n + (sizeE e lv).1)
theorem measL_size {lv : Int} (h1 : 1 ≤ lv) (h4 : lv ≤ 4) : ∀ (l : List Expr) (n0 n m : Int), (∀ e ∈ l, msC e (lv + 1)) → 1 ≤ n → 0 ≤ n0 → n0 + n ≤ 24 → 0 ≤ m →
    ((measL l lv (n0 + n) m).1 ≠ 0 → sizeL l lv n m = ((measL l lv (n0 + n) m).2 - n0, (measL l lv (n0 + n) m).1)) ∧ ((measL l lv (n0 + n) m).1 = 0 → 24 < n0 + (sizeL l lv n m).1)
  | [], n0, n, m, _, _, _, _, hm => by
    simp only [measL, sizeL]
    exact ⟨fun _ => by rw [show n0 + n - n0 = n by omega], fun h => by omega⟩
  | e :: l, n0, n, m, hk, a1, a2, a3, hm => by
    obtain ⟨k1, k2⟩ := hk e (by simp) (n0 + n) (by omega) a3
    have b := meas_bd _ e (Nat.lt_succ_self _) (lv + 1) (n0 + n) (by omega) (by omega) (by omega) a3
    simp only [measL, sizeL]
    by_cases hz : (meas e (lv + 1) (n0 + n)).1 = 0
    · have h24 := k2 hz
      rw [if_pos hz]
      refine ⟨fun h => absurd rfl h, fun _ => ?_⟩
      split
      · simp only; omega
      · have := sizeL_ge (by omega) h4 l (n + (sizeE e (lv + 1)).1) (max m (sizeE e (lv + 1)).2) (by omega)
        omega
    · have hs := k1 hz
      have hb := b.2.2.2.2 hz
      have hb0 := b.1
      have hge := meas_ge _ e (Nat.lt_succ_self _) (lv + 1) (n0 + n)
      rw [if_neg hz, hs]
      simp only
      have e1 : n + ((meas e (lv + 1) (n0 + n)).2 - (n0 + n)) = (meas e (lv + 1) (n0 + n)).2 - n0 := by omega
      rw [e1, if_neg (by omega)]
      have ih := measL_size h1 h4 l n0 ((meas e (lv + 1) (n0 + n)).2 - n0) (max m (meas e (lv + 1) (n0 + n)).1) (fun e' he => hk e' (by simp [he])) (by omega) a2 (by omega) (by omega)
      have e2 : n0 + ((meas e (lv + 1) (n0 + n)).2 - n0) = (meas e (lv + 1) (n0 + n)).2 := by omega
      rw [e2] at ih
      exact ih
theorem meas_size : ∀ (N : Nat) (e : Expr), SizeOf.sizeOf e < N → ∀ lv : Int, 1 ≤ lv → lv ≤ 5 → msC e lv
  | 0, _, h, _, _, _ => by omega
  | N + 1, e, h, lv, h1, h5 => by
    intro n hn0 hn
    have sb := sizeE_bd _ e (Nat.lt_succ_self _) lv h1 h5
    rw [meas_def]
    by_cases hc : 4 < lv ∨ 24 < n + 1
    · rw [if_pos hc]
      refine ⟨fun h => absurd rfl h, fun _ => ?_⟩
      by_cases h4 : 4 < lv
      · rw [sizeE_def, if_pos (.inl h4)]; simp only; omega
      · have := sb.1; omega
    · rw [if_neg hc]
      have hL := measL_size h1 (by omega) e.kids n 1 0 (fun e' he => meas_size N e' (by have := kid_lt he; omega) _ (by omega) (by omega)) (by omega) hn0 (by omega) (by omega)
      by_cases h24 : 24 < e.kids.length
      · rw [sizeE_def, if_pos (.inr h24)]
        refine ⟨fun h => ?_, fun _ => by simp only; omega⟩
        have := measL_nz e.kids (n + 1) 0 h (by omega) (by omega) fun e' _ n' k1 k2 k3 => ⟨meas_ge _ e' (Nat.lt_succ_self _) _ _, (meas_bd _ e' (Nat.lt_succ_self _) (lv + 1) n' (by omega) (by omega) k1 k2).2.2.2.2 k3⟩
        omega
      · rw [sizeE_def, if_neg (by omega)]
        exact hL
theorem nodes_depth (e : Expr) : nodesE e = 0 ↔ depth e = 0 := by
  have h := meas_size _ e (Nat.lt_succ_self _) 1 (by omega) (by omega) 0 (by omega) (by omega)
  have b := meas_bd _ e (Nat.lt_succ_self _) 1 0 (by omega) (by omega) (by omega) (by omega)
  have sb := (sizeE_bd _ e (Nat.lt_succ_self _) 1 (by omega) (by omega)).1
  unfold nodesE depth
  by_cases hz : (meas e 1 0).1 = 0
  · have := h.2 hz
    rw [if_pos (by omega)]
    simp [hz]
  · have h1 := h.1 hz
    have h2 := b.2.2.2.2 hz
    have h3 : (sizeE e 1).1 = (meas e 1 0).2 := by rw [h1]; simp
    rw [if_neg (by omega)]
    constructor
    · intro h; omega
    · intro h; exact absurd h hz
theorem sizeL_cnt {lv : Int} : ∀ (l : List Expr) (n m : Int), (∀ e ∈ l, (sizeE e (lv + 1)).1 ≤ 24 → (cnt e : Int) = (sizeE e (lv + 1)).1) → 1 ≤ lv → lv ≤ 4 → 0 ≤ n → n ≤ 24 → (sizeL l lv n m).1 ≤ 24 → n + (cntL l : Int) = (sizeL l lv n m).1
  | [], n, m, _, _, _, _, _, _ => by simp [sizeL, cntL]
  | e :: l, n, m, hk, h1, h4, hn, hn2, h => by
    have b := sizeE_bd _ e (Nat.lt_succ_self _) (lv + 1) (by omega) (by omega)
    simp only [sizeL, cntL] at h ⊢
    split at h
    · simp at h
    · rename_i hlt
      rw [if_neg hlt]
      have b1 := b.1
      have := hk e (by simp) (by omega)
      have ih := sizeL_cnt l _ _ (fun e' he => hk e' (by simp [he])) h1 h4 (by omega) (by omega) h
      rw [← ih]
      omega
theorem sizeE_cnt : ∀ (N : Nat) (e : Expr), SizeOf.sizeOf e < N → ∀ lv : Int, 1 ≤ lv → lv ≤ 5 → (sizeE e lv).1 ≤ 24 → (cnt e : Int) = (sizeE e lv).1
  | 0, _, h, _, _, _, _ => by omega
  | N + 1, e, h, lv, h1, h5, hs => by
    rw [sizeE_def] at hs ⊢
    split at hs
    · simp at hs
    · rename_i hc
      rw [if_neg hc, cnt_def]
      have := sizeL_cnt e.kids 1 0 (fun e' he hs' => sizeE_cnt N e' (by have := kid_lt he; omega) _ (by omega) (by omega) hs') h1 (by omega) (by omega) (by omega) hs
      rw [← this]
      omega
theorem nodes_cnt {e : Expr} (h : nodesE e ≠ 0) : cnt e ≤ 24 := by
  unfold nodesE at h
  by_cases h24 : 24 < (sizeE e 1).1
  · simp [h24] at h
  · have := sizeE_cnt _ e (Nat.lt_succ_self _) 1 (by omega) (by omega) (by omega)
    omega
def goodA (l : List Atom) : Prop := l.length ≤ 8 ∧ l.Pairwise fun a b => a.name ≠ b.name
theorem good_prefix {l m : List Atom} (h : l <+: m) (hg : goodA m) : goodA l := ⟨Nat.le_trans h.length_le hg.1, hg.2.sublist h.sublist⟩
theorem atomE_prefix (l : List Atom) (a : Atom) : l <+: atomE l a := by
  unfold atomE
  split
  · exact List.prefix_refl l
  · exact List.prefix_append l [a]
theorem addL_prefix : ∀ (es : List Expr) (l : List Atom), (∀ e ∈ es, ∀ l, (addE e l).2 = true → l <+: (addE e l).1) → (addL es l).2 = true → l <+: (addL es l).1
  | [], l, _, _ => by simp [addL]
  | e :: es, l, hk, h => by
    simp only [addL] at h ⊢
    split at h
    · rename_i ht
      rw [if_pos ht]
      exact List.IsPrefix.trans (hk e (by simp) l ht) (addL_prefix es _ (fun e' he => hk e' (by simp [he])) h)
    · simp at h
theorem addE_prefix : ∀ (N : Nat) (e : Expr), SizeOf.sizeOf e < N → ∀ l, (addE e l).2 = true → l <+: (addE e l).1
  | 0, _, h, _, _ => by omega
  | N + 1, e, h, l, ht => by
    rw [addE_def] at ht ⊢
    split at ht
    · rename_i h0
      rw [if_pos h0]
      split at ht
      · rename_i h1
        rw [if_pos h1]
        exact atomE_prefix _ _
      · simp at ht
    · rename_i h0
      rw [if_neg h0]
      split at ht
      · simp at ht
      · rename_i h1
        rw [if_neg h1]
        exact addL_prefix _ _ (fun e' he l' => addE_prefix N e' (by have := kid_lt he; omega) l') ht
def paC (e : Expr) : Prop := ∀ l, goodA l → ((prop e l).1 = true → addE e l = ((prop e l).2, true) ∧ goodA (prop e l).2) ∧ ((prop e l).1 = false → (addE e l).2 = true → ¬ goodA (addE e l).1)
theorem propL_add : ∀ (es : List Expr), (∀ e ∈ es, paC e) → ∀ l, goodA l → ((propL es l).1 = true → addL es l = ((propL es l).2, true) ∧ goodA (propL es l).2) ∧ ((propL es l).1 = false → (addL es l).2 = true → ¬ goodA (addL es l).1)
  | [], _, l, hg => by simp [propL, addL, hg]
  | e :: es, hk, l, hg => by
    obtain ⟨k1, k2⟩ := hk e (by simp) l hg
    simp only [propL, addL]
    cases hp : (prop e l).1
    · simp only [Bool.false_eq_true, if_false, false_implies, true_and, true_implies]
      cases ha : (addE e l).2
      · simp
      · intro ht hgo
        simp only [if_true] at ht hgo
        have h1 := k2 hp ha
        exact h1 (good_prefix (addL_prefix es _ (fun e' he l' => addE_prefix _ e' (Nat.lt_succ_self _) l') ht) hgo)
    · obtain ⟨h1, h2⟩ := k1 hp
      rw [h1]
      simp only [if_true]
      exact propL_add es (fun e' he => hk e' (by simp [he])) _ h2
theorem pair_eq {l : List Atom} (h : l.Pairwise fun a b => a.name ≠ b.name) {a b : Atom} (ha : a ∈ l) (hb : b ∈ l) (hn : a.name = b.name) : a = b := by
  induction l with
  | nil => simp at ha
  | cons x l ih =>
    rw [List.pairwise_cons] at h
    rcases List.mem_cons.1 ha with e1 | ha
    · rcases List.mem_cons.1 hb with e2 | hb
      · rw [e1, e2]
      · exact absurd hn (e1 ▸ h.1 b hb)
    · rcases List.mem_cons.1 hb with e2 | hb
      · exact absurd hn.symm (e2 ▸ h.1 a ha)
      · exact ih h.2 ha hb
theorem prop_add : ∀ (N : Nat) (e : Expr), SizeOf.sizeOf e < N → paC e
  | 0, _, h => by omega
  | N + 1, e, h => by
    intro l hg
    rw [prop_def, addE_def]
    by_cases h0 : e.kids.length = 0
    · rw [if_pos h0, if_pos h0]
      by_cases h1 : e.k = 0 ∧ atomOK e.atom = true
      · rw [if_pos h1, if_pos h1]
        simp only
        unfold noteE
        cases hf : l.find? (hit e.atom) with
        | some b =>
          have hb := List.mem_of_find?_eq_some hf
          have hh := List.find?_some hf
          by_cases hab : e.atom = b
          · have : atomE l e.atom = l := by unfold atomE; rw [if_pos (hab ▸ hb)]
            rw [this]
            simp [hab, hg]
          · simp [hab]
            have hname : e.atom.name = b.name := by
              unfold hit at hh
              simpa [hab] using hh
            intro hgo
            have hb' : b ∈ atomE l e.atom := (atomE_prefix l e.atom).subset hb
            have ha' : e.atom ∈ atomE l e.atom := by unfold atomE; split <;> simp_all
            exact hab (pair_eq hgo.2 ha' hb' hname)
        | none =>
          have hno : ∀ x ∈ l, e.atom ≠ x ∧ e.atom.name ≠ x.name := by
            intro x hx
            rw [List.find?_eq_none] at hf
            have := hf x hx
            unfold hit at this
            simpa using this
          have hm : e.atom ∉ l := fun hx => (hno _ hx).1 rfl
          have hE : atomE l e.atom = l ++ [e.atom] := by unfold atomE; rw [if_neg hm]
          rw [hE]
          by_cases h8 : l.length = 8
          · simp [h8]
            intro hgo
            have := hgo.1
            simp at this
            omega
          · simp [h8]
            refine ⟨by have := hg.1; simp; omega, ?_⟩
            rw [List.pairwise_append]
            refine ⟨hg.2, by simp, fun a ha b hb => ?_⟩
            rw [List.mem_singleton.1 hb]
            exact fun hx => (hno a ha).2 hx.symm
      · rw [if_neg h1, if_neg h1]
        simp
    · rw [if_neg h0, if_neg h0]
      by_cases h1 : e.k < 1 ∨ (e.kids.length : Int) < e.k ∨ e.atom ≠ a0
      · rw [if_pos h1, if_pos h1]
        simp
      · rw [if_neg h1, if_neg h1]
        exact propL_add e.kids (fun e' he => prop_add N e' (by have := kid_lt he; omega)) l hg
theorem ref_ok {e : Expr} (h : exprOK e = true) : nodesE e ≠ 0 ∧ addE e [] = (atomsE e, true) ∧ goodA (atomsE e) := by
  have hp := exprOK_prop h
  have hk := (prop_add _ e (Nat.lt_succ_self _) [] ⟨by simp, by simp⟩).1 hp
  have hc := prop_col _ e (Nat.lt_succ_self _) [] hp
  have ha : atomsE e = (prop e []).2 := by unfold atomsE; rw [if_pos h, hc]
  rw [ha]
  refine ⟨?_, hk⟩
  rw [Ne, nodes_depth]
  simp [exprOK] at h
  exact h.1
theorem ref_bad {e : Expr} (h : exprOK e = false) (hn : nodesE e ≠ 0) (ha : (addE e []).2 = true) : ¬ goodA (addE e []).1 := by
  have hk := (prop_add _ e (Nat.lt_succ_self _) [] ⟨by simp, by simp⟩).2
  rw [Ne, nodes_depth] at hn
  refine hk ?_ ha
  simp [exprOK, hn] at h
  exact h
end Go.Rd
open Go Go.Abs Go.Proofs
set_option maxRecDepth 100000
namespace Go.Rd
theorem f116_ok (e : Expr) : FnOK C0 116 [.agg e.c] [] (.tup [atomsV (atomsE e), B (exprOK e)]) [] := by
  refine FnOK.intro (fn := Tryz.f116) (c := Tryz.f116.body.getD .skip) (by kernel_rfl) (by kernel_rfl) (by kernel_rfl) (by kernel_rfl) (by simp [Tryz.f116]) (by simp [names]) ?_
  unfold Tryz.f116
  simp (disch := omega) only [go_sem]
  refine call_pure (f185_ok e) (by simp (disch := omega) only [go_sem]) rfl ?_
  have bad : exprOK e = false → atomsE e = [] := fun h => by simp [atomsE, h]
  by_cases hn : nodesE e = 0
  · have e0 : (nodesE e == 0) = true := by simp [hn]
    have hx : exprOK e = false := by simp [exprOK, (nodes_depth e).1 hn]
    simp (disch := omega) only [go_sem, e0, hx, bad hx]
    refine ret_mk ⟨[], [], []⟩ _ (by (try simp (disch := omega) only [go_sem, resVs, resV]) <;> rfl) ⟨rfl, rfl⟩ (by simp) ?_ trivial
    simp (disch := omega) only [go_sem]
    refine .tup (WeakArgs.weakL ?_)
    simp (disch := omega) only [go_sem]
    repeat' (with_reducible apply And.intro)
    all_goals (first | exact .nilNo (by omega) | exact .agg (WeakArgs.weakL (by simp (disch := omega) only [go_sem])))
  have e0 : (nodesE e == 0) = false := by simp [hn]
  have hc := nodes_cnt hn
  have hl := addE_len _ e (Nat.lt_succ_self _) []
  have hcall := f186_ok _ e (Nat.lt_succ_self _) [] (by simp; omega)
  have hok := @ref_ok e
  have hbad := @ref_bad e
  simp (disch := omega) only [go_sem, e0]
  generalize addE e [] = x at hl hcall hok hbad
  obtain ⟨m, ok⟩ := x
  cases ok
  · have hx : exprOK e = false := by
      cases h : exprOK e
      · rfl
      · have := (hok h).2.1; simp at this
    refine callB_mk ⟨⟨[], [], []⟩, [(1, 832)], []⟩ (show FnOK C0 186 [atomsO 0 [], .agg e.c] [] (.tup [.undef, B false]) [] from hcall) (by simp (disch := omega) only [go_sem, List.map_nil]; exact .nilOwn (by omega)) rfl (by simp (disch := omega) only [go_sem]) (.inl rfl) ?_
    simp (disch := omega) only [go_sem, hx, bad hx]
    refine ret_mk ⟨[], [], []⟩ _ (by (try simp (disch := omega) only [go_sem, resVs, resV]) <;> rfl) ⟨rfl, rfl⟩ (by simp) ?_ trivial
    simp (disch := omega) only [go_sem]
    refine .tup (WeakArgs.weakL ?_)
    simp (disch := omega) only [go_sem]
    repeat' (with_reducible apply And.intro)
    all_goals (first | exact .nilNo (by omega) | exact .agg (WeakArgs.weakL (by simp (disch := omega) only [go_sem])))
  simp only [List.length_nil] at hl
  refine callB_mk ⟨⟨[], [], []⟩, [(1, 832)], []⟩ (show FnOK C0 186 [atomsO 0 [], .agg e.c] [] (.tup [atomsO 1 m, B true]) [] from hcall) (by simp (disch := omega) only [go_sem, List.map_nil]; exact .nilOwn (by omega)) rfl (by simp (disch := omega) only [go_sem]) (.inl rfl) ?_
  have hb2 : exprOK e = false → ¬ goodA m := fun h => hbad h hn rfl
  have hng : ¬ goodA m → exprOK e = false := fun h => by
    cases hx : exprOK e
    · rfl
    · have h2 := hok hx
      have : m = atomsE e := by have := h2.2.1; simp at this; exact this
      exact absurd (this ▸ h2.2.2) h
  by_cases h8 : 8 < m.length
  · have d8 : (8 < (m.length : Int)) = True := by simp; omega
    have hx : exprOK e = false := hng fun h => by have := h.1; omega
    simp (disch := omega) only [go_sem, d8, hx, bad hx]
    refine ret_mk ⟨[], [], []⟩ _ (by (try simp (disch := omega) only [go_sem, resVs, resV]) <;> rfl) ⟨rfl, rfl⟩ (by simp) ?_ trivial
    simp (disch := omega) only [go_sem]
    refine .tup (WeakArgs.weakL ?_)
    simp (disch := omega) only [go_sem]
    repeat' (with_reducible apply And.intro)
    all_goals (first | exact .nilNo (by omega) | exact .agg (WeakArgs.weakL (by simp (disch := omega) only [go_sem])))
  have d8 : (8 < (m.length : Int)) = False := by simp; omega
  simp (disch := omega) only [go_sem, d8, decide_false]
  refine loop_intro (α := Nat) (fun i => ⟨[(6, I i), (4, atomsO 832 m)], []⟩) (fun i => i ≤ m.length ∧ (m.take i).Pairwise fun a b => a.name ≠ b.name) (fun i => m.length - i) 0 ⟨by omega, by simp⟩ ?_ ?_
  · refine Imp.weak ?_ ?_
    · simp (disch := omega) only [go_sem]
    · simp (disch := omega) only [go_sem]
  rintro i ⟨hi, hP⟩ J hJ
  simp (disch := omega) only [go_sem]
  refine And.intro (fun hlt => ?_) (fun hge => ?_)
  rotate_left
  · have hil : i = m.length := by simp at hge; omega
    subst hil
    rw [List.take_length] at hP
    have hg : goodA m := ⟨by omega, hP⟩
    have hx : exprOK e = true := by
      cases h : exprOK e
      · exact absurd hg (hb2 h)
      · rfl
    have hm : m = atomsE e := by have := (hok hx).2.1; simp at this; exact this
    simp (disch := omega) only [go_sem, hx, ← hm]
    refine ret_mk ⟨[], [], [832]⟩ _ (by (try simp (disch := omega) only [go_sem, resVs, resV]) <;> rfl) ⟨rfl, rfl⟩ (by simp) ?_ trivial
    simp (disch := omega) only [go_sem, hm]
  obtain ⟨b, hb⟩ : ∃ b, m[i]? = some b := ⟨_, List.getElem?_eq_getElem (by simp at hlt; omega)⟩
  have hlt2 : i < m.length := by simp at hlt; omega
  refine loop_intro (α := Nat) (fun j => ⟨[(7, I j), (6, I i), (4, atomsO 832 m)], []⟩) (fun j => j ≤ i ∧ ∀ x ∈ m.take j, x.name ≠ b.name) (fun j => i - j) 0 ⟨by omega, by simp⟩ ?_ ?_
  · refine Imp.weak ?_ ?_
    · simp (disch := omega) only [go_sem]
    · simp (disch := omega) only [go_sem]
  rintro j ⟨hj, hQ⟩ K hK
  simp (disch := omega) only [go_sem]
  refine And.intro (fun hlt' => ?_) (fun hge' => ?_)
  rotate_left
  · have hji : j = i := by simp at hge'; omega
    subst hji
    refine hJ _ (j + 1) ⟨by omega, ?_⟩ (by omega) (Imp.weak ?_ ?_)
    · rw [List.take_add_one, hb, List.pairwise_append]
      exact ⟨hP, by simp, fun a ha c hc => by simp at hc; rw [hc]; exact hQ a ha⟩
    · simp (disch := omega) only [go_sem]
    · simp (disch := omega) only [go_sem]
  · have hjl : j < i := by simp at hlt'; omega
    obtain ⟨c, hc'⟩ : ∃ c, m[j]? = some c := ⟨_, List.getElem?_eq_getElem (by omega)⟩
    refine draw_mk 10 [([], [4]), ([], [6]), ([0, 1], [34, 35]), ([0, 1, 2], [36]), ([0, 1, 2, 3], [37]), ([], [4]), ([], [7]), ([5, 6], [39, 40]), ([5, 6, 7], [41]), ([5, 6, 7, 8], [42]), ([0, 1, 2, 3, 4, 5, 6, 7, 8, 9], [])] fol (by kernel_rfl) ?_
    simp (disch := omega) only [go_sem, List.getElem?_map, hb, hc']
    by_cases hne : b.name = c.name
    · have e9 : (b.name == c.name) = true := by simp [hne]
      have hx : exprOK e = false := hng fun h => by
        have := List.pairwise_iff_getElem.1 h.2 j i (by omega) hlt2 hjl
        rw [List.getElem?_eq_getElem (by omega)] at hb hc'
        simp at hb hc'
        rw [hb, hc'] at this
        exact this hne.symm
      simp (disch := omega) only [go_sem, e9, hx, bad hx]
      refine ret_mk ⟨[], [], []⟩ _ (by (try simp (disch := omega) only [go_sem, resVs, resV]) <;> rfl) ⟨rfl, rfl⟩ (by simp) ?_ trivial
      simp (disch := omega) only [go_sem]
      refine .tup (WeakArgs.weakL ?_)
      simp (disch := omega) only [go_sem]
      repeat' (with_reducible apply And.intro)
      all_goals (first | exact .nilNo (by omega) | exact .agg (WeakArgs.weakL (by simp (disch := omega) only [go_sem])))
    · have e9 : (b.name == c.name) = false := by simp [hne]
      simp (disch := omega) only [go_sem, e9]
      refine hK _ (j + 1) ⟨by omega, ?_⟩ (by omega) (Imp.weak (by simp (disch := omega) only [go_sem]) (by simp (disch := omega) only [go_sem]))
      intro x hx
      rw [List.take_add_one, hc'] at hx
      simp only [Option.toList, List.mem_append, List.mem_singleton] at hx
      rcases hx with hx | hx
      · exact hQ x hx
      · rw [hx]; exact fun h => hne h.symm
theorem f76_ok (e : Expr) : FnOK C0 76 [.agg e.c] [] (B (exprOK e)) [] := by
  refine FnOK.intro (fn := Tryz.f76) (c := Tryz.f76.body.getD .skip) (by kernel_rfl) (by kernel_rfl) (by kernel_rfl) (by kernel_rfl) (by simp [Tryz.f76]) (by simp [names]) ?_
  unfold Tryz.f76
  simp (disch := omega) only [go_sem]
  refine call_pure (f116_ok e) (by simp (disch := omega) only [go_sem]) rfl ?_
  simp (disch := omega) only [go_sem]
  refine ret_mk ⟨[], [], []⟩ _ (by (try simp (disch := omega) only [go_sem, resVs, resV]) <;> rfl) ⟨rfl, rfl⟩ (by simp) ?_ trivial
  simp (disch := omega) only [go_sem]
theorem f139_ok (e : Expr) : FnOK C0 139 [.agg e.c] [] (atomsV (atomsE e)) [] := by
  refine FnOK.intro (fn := Tryz.f139) (c := Tryz.f139.body.getD .skip) (by kernel_rfl) (by kernel_rfl) (by kernel_rfl) (by kernel_rfl) (by simp [Tryz.f139]) (by simp [names]) ?_
  unfold Tryz.f139
  simp (disch := omega) only [go_sem]
  refine call_pure (f116_ok e) (by simp (disch := omega) only [go_sem]) rfl ?_
  simp (disch := omega) only [go_sem]
  refine ret_mk ⟨[], [], []⟩ _ (by (try simp (disch := omega) only [go_sem, resVs, resV]) <;> rfl) ⟨rfl, rfl⟩ (by simp) ?_ trivial
  simp (disch := omega) only [go_sem]
end Go.Rd
open Go Go.Abs Go.Proofs
set_option maxRecDepth 100000
namespace Go.Rd
theorem f64_own (l : List Proc) (hl : l.length ≤ 1000000) : FnOK C0 64 [procsV l] [] (procsO 0 (sortU l)) [] := by
  refine FnOK.intro (fn := Tryz.f64) (c := Tryz.f64.body.getD .skip) (by kernel_rfl) (by kernel_rfl) (by kernel_rfl) (by kernel_rfl) (by simp [Tryz.f64]) (by simp [names]) ?_
  unfold Tryz.f64
  simp (disch := omega) only [go_sem]
  refine loop_intro (α := Nat × List Proc) (fun x => ⟨[(4, I x.1), (3, .sl (.own 1728 0) 3 (x.2.map Proc.c)), (0, procsV l)], []⟩) (fun x => x.1 ≤ l.length ∧ x.2.length ≤ x.1 ∧ ascP x.2 ∧ ∀ p, p ∈ x.2 ↔ p ∈ l.take x.1) (fun x => l.length - x.1) (0, []) ⟨by simp, by simp, by simp [ascP], by simp⟩ ?_ ?_
  · refine Imp.weak ?_ ?_
    · simp (disch := omega) only [go_sem, List.map_nil]
    · simp (disch := omega) only [go_sem]
  rintro ⟨i, out⟩ ⟨hi, hol, hasc, hmem⟩ J hJ
  replace hi : i ≤ l.length := hi
  replace hol : out.length ≤ i := hol
  replace hasc : ascP out := hasc
  replace hmem : ∀ p, p ∈ out ↔ p ∈ l.take i := hmem
  simp (disch := omega) only [go_sem]
  refine And.intro (fun hlt => ?_) (fun hge => ?_)
  · have hlt' : i < l.length := by simp at hlt; omega
    obtain ⟨p, hp⟩ : ∃ p, l[i]? = some p := ⟨_, List.getElem?_eq_getElem hlt'⟩
    have ht := take_get hp
    simp (disch := omega) only [go_sem, List.getElem?_map, hp]
    refine call_lent [1728] (f18_ok out p (by omega)) (by simp (disch := omega) only [go_sem]) rfl trivial ?_
    cases hh : hasP out p
    rotate_left
    · have hin : p ∈ out := by simpa [hasP] using hh
      simp (disch := omega) only [go_sem]
      refine hJ _ (i + 1, out) ⟨by simp; omega, by simp; omega, hasc, fun x => ?_⟩ (by simp; omega) (Imp.weak (by simp (disch := omega) only [go_sem]) (by simp (disch := omega) only [go_sem]))
      rw [ht, List.mem_append, ← hmem x]
      simp only [List.mem_singleton]
      exact ⟨.inl, fun h => h.elim id fun e => by rw [e]; exact hin⟩
    have hnin : p ∉ out := by simpa [hasP] using hh
    have hbd : out.length + 1 ≤ 4294967296 := by omega
    simp (disch := omega) only [go_sem, List.getElem?_map, hp]
    refine loop_intro (α := Nat) (fun k => ⟨[(5, I k), (4, I i), (3, .sl (.own 1728 0) 3 ((midP out k p).map Proc.c)), (0, procsV l)], []⟩) (fun k => k ≤ out.length ∧ ∀ x ∈ out.drop k, cmpP p x < 0) (fun k => k) out.length ⟨by omega, by simp⟩ ?_ ?_
    · refine Imp.weak ?_ ?_
      · simp (disch := omega) only [go_sem]
        exact .sl (by simp [midP, Proc.c])
      · simp (disch := omega) only [go_sem]
    rintro k ⟨hk, hgt⟩ J2 hJ2
    have stop : (∀ x ∈ out.take k, cmpP x p < 0) → ∀ st', Imp ⟨C0, [], []⟩ st' ⟨[(4, I (i + 1 : Nat)), (3, .sl (.own 1728 0) 3 ((midP out k p).map Proc.c)), (0, procsV l)], []⟩ → J st' := fun hlt2 st' him => by
      refine hJ st' (i + 1, midP out k p) ⟨by simp; omega, by simp [midP_len out k p hk]; omega, ?_, fun x => ?_⟩ (by simp; omega) him
      · have h0 := hasc
        unfold ascP at h0 ⊢
        rw [← List.take_append_drop k out] at h0
        rw [List.pairwise_append] at h0
        show (midP out k p).Pairwise _
        unfold midP
        rw [List.pairwise_append]
        refine ⟨h0.1, List.pairwise_cons.2 ⟨hgt, h0.2.1⟩, fun a ha b hb => ?_⟩
        rcases List.mem_cons.1 hb with e | e
        · rw [e]; exact hlt2 a ha
        · exact h0.2.2 a ha b e
      · show x ∈ midP out k p ↔ x ∈ l.take (i + 1)
        rw [midP_mem, ht, List.mem_append, ← hmem x]
        simp
    refine draw_mk 12 [([], [5]), ([0], [28]), ([0, 1], [29]), ([0, 1, 2], [3, 30]), ([0, 1, 2], [5, 30]), ([0, 1, 2, 4], [32, 30]), ([0, 1, 2, 3, 4, 5], [31, 33, 30]), ([0, 1, 2, 3, 4, 5, 6], [34, 30]), ([0, 1, 2], [3, 30]), ([0, 1, 2], [5, 30]), ([0, 1, 2, 8, 9], [36, 37, 30]), ([0, 1, 2, 8, 9, 10], [38, 30]), ([0, 1, 2, 3, 4, 5, 6, 7, 8, 9, 10, 11], []), ([0, 1, 2, 3, 4, 5, 6, 7, 8, 9, 10, 11, 12], []), ([0, 1, 2, 3, 4, 5, 6, 7, 8, 9, 10, 11, 12, 13], [])] fol (by kernel_rfl) ?_
    cases k with
    | zero =>
      have e0 : (0 < ((0 : Nat) : Int)) = False := by simp
      simp (disch := omega) only [go_sem, e0, decide_false]
      exact stop (by simp) _ (Imp.weak (by simp (disch := omega) only [go_sem]) (by simp (disch := omega) only [go_sem]))
    | succ k =>
      have e0 : (0 < (((k + 1 : Nat)) : Int)) = True := eq_true (by omega)
      have e1 : (0 < (k : Int) + 1) = True := eq_true (by omega)
      have e2 : ((k : Int) + 1 - 1) = (k : Int) := by omega
      obtain ⟨x, hx⟩ : ∃ x, out[k]? = some x := ⟨_, List.getElem?_eq_getElem (by omega)⟩
      have g1 := midP_get out (k + 1) p hk
      have g2 := midP_prev out k p hk
      rw [hx] at g2
      have hml := midP_len out (k + 1) p hk
      have z1 : k < (midP out (k + 1) p).length := by omega
      have z2 : k + 1 < (midP out (k + 1) p).length := by omega
      simp (disch := omega) only [go_sem, e0, e1, e2, List.getElem?_map, g1, g2, List.length_map, hml]
      refine call_pure (f77_ok x p) (by simp (disch := omega) only [go_sem]) rfl ?_
      simp (disch := omega) only [go_sem]
      by_cases hc : 0 < cmpP x p
      · have e3 : (0 < cmpP x p) = True := eq_true hc
        have e4 : (k = k + 1) = False := eq_false (by omega)
        simp (disch := omega) only [go_sem, e2, e3, List.getElem?_map, g1, g2, List.length_map, hml, List.length_set, List.getElem?_set, e4]
        refine hJ2 _ k ⟨by omega, fun y hy => ?_⟩ (by omega) (Imp.weak ?_ (by simp (disch := omega) only [go_sem]))
        · rw [List.drop_eq_getElem_cons (by omega), get_eq hx] at hy
          rcases List.mem_cons.1 hy with e | e
          · subst e; have := cmpP_swap y p; omega
          · exact hgt y e
        · simp (disch := omega) only [go_sem]
          refine .sl ?_
          rw [← midP_swap hx, List.map_set, List.map_set]
          rfl
      · have e3 : (0 < cmpP x p) = False := eq_false hc
        simp (disch := omega) only [go_sem, e3, decide_false]
        refine stop (fun y hy => ?_) _ (Imp.weak (by simp (disch := omega) only [go_sem]) (by simp (disch := omega) only [go_sem]))
        have hxm : x ∈ out := List.mem_of_getElem? hx
        have hxp : cmpP x p < 0 := by
          have : cmpP x p ≠ 0 := fun e => hnin (by rw [← cmpP_eq e]; exact hxm)
          omega
        rw [take_get hx] at hy
        rcases List.mem_append.1 hy with e | e
        · have h0 := hasc
          unfold ascP at h0
          rw [← List.take_append_drop k out, List.pairwise_append] at h0
          have hd : out.drop k = x :: out.drop (k + 1) := by rw [List.drop_eq_getElem_cons (by omega), get_eq hx]
          exact cmpP_trans (h0.2.2 y e x (by rw [hd]; simp)) hxp
        · rw [List.mem_singleton.1 e]; exact hxp
  · have hil : i = l.length := by simp at hge; omega
    subst hil
    rw [List.take_length] at hmem
    have e : out = sortU l := asc_ext hasc (asc_sortU l) fun x => by rw [hmem, mem_sortU]
    refine ret_mk ⟨[(1728, 0)], [], []⟩ _ (by (try simp (disch := omega) only [go_sem, resVs, resV]) <;> rfl) ⟨rfl, rfl⟩ (by simp) ?_ trivial
    simp (disch := omega) only [go_sem, e]
theorem f63_ok (l : List Queue) (h1 : l.length ≤ 100) (h2 : ∀ q ∈ l, allQ q ≤ 100) : FnOK C0 63 [queuesV l] [] (procsO 0 (procsQs l)) [] := by
  refine FnOK.intro (fn := Tryz.f63) (c := Tryz.f63.body.getD .skip) (by kernel_rfl) (by kernel_rfl) (by kernel_rfl) (by kernel_rfl) (by simp [Tryz.f63]) (by simp [names]) ?_
  unfold Tryz.f63
  simp (disch := omega) only [go_sem]
  refine loop_intro (α := Nat) (fun i => ⟨[(4, I i), (0, queuesV l), (3, .sl (.own 1088 0) 3 (((l.take i).flatMap procsQ).map Proc.c))], []⟩) (fun i => i ≤ (l).length ∧ True) (fun i => (l).length - i) 0 ⟨by omega, trivial⟩ ?_ ?_
  · refine Imp.weak ?_ ?_
    all_goals (try simp (disch := omega) only [go_sem])
    all_goals (try (repeat' (with_reducible apply And.intro)))
    all_goals (first | exact .nilOwn (by omega) | exact .nilNo (by omega) | exact .sl (by simp []) | exact .int (by simp []) | exact .eq (by simp []))
  rintro i ⟨hi, hP⟩ J hJ
  simp (disch := omega) only [go_sem]
  refine And.intro (fun hlt => ?_) (fun hge => ?_)
  rotate_left
  have hil : i = (l).length := by simp at hge; omega
  rotate_left
  obtain ⟨b, hb⟩ : ∃ b, (l)[i]? = some b := ⟨_, List.getElem?_eq_getElem (by simp at hlt; omega)⟩
  have hbm := List.mem_of_getElem? hb
  have hlt2 : i < (l).length := by simp at hlt; omega
  simp (disch := omega) only [go_sem, List.getElem?_map, hb]
  · have hfl := flat_len (l := l.take i) fun q hq => h2 q (List.mem_of_mem_take hq)
    have hq := procsQ_len b
    have hb2 := h2 b hbm
    have hbd : ((l.take i).flatMap procsQ).length + (procsQ b).length ≤ 4294967296 := by simp only [List.length_take] at hfl; omega
    refine call_pure (f104_ok b (by omega)) (by simp (disch := omega) only [go_sem]) rfl ?_
    simp (disch := omega) only [go_sem]
    refine hJ _ (i + 1) ⟨by simp at hlt; omega, trivial⟩ (by simp at hlt; omega) (Imp.weak ?_ ?_)
    all_goals (try simp (disch := omega) only [go_sem])
    all_goals (try (repeat' (with_reducible apply And.intro)))
    all_goals (first | exact .nilOwn (by omega) | exact .nilNo (by omega) | exact .sl (by simp [List.take_add_one, hb]) | exact .int (by simp [List.take_add_one, hb]) | exact .eq (by simp [List.take_add_one, hb]))

  · subst hil
    have hfl := flat_len h2
    refine callB_fz [1088] ⟨⟨[], [], []⟩, [(0, 1216)], []⟩ (f64_own (l.flatMap procsQ) (by omega)) (by simp (disch := omega) only [go_sem, List.take_length]) rfl trivial (.inl rfl) ?_
    simp (disch := omega) only [go_sem]
    refine ret_mk ⟨[(1216, 0)], [], []⟩ _ (by (try simp (disch := omega) only [go_sem, resVs, resV]) <;> rfl) ⟨rfl, rfl⟩ (by simp) ?_ trivial
    simp (disch := omega) only [go_sem, procsQs]
theorem f33_ok (s : WS) (h : Few s) : FnOK C0 33 [.agg s.c] [] (procsV (procsS s)) [] := by
  have hq := procsQs_len h.aq
  have h1 := h.nq
  have h2 := h.nn
  have hbd : (procsQs s.queues).length ≤ 4294967296 := by omega
  refine FnOK.intro (fn := Tryz.f33) (c := Tryz.f33.body.getD .skip) (by kernel_rfl) (by kernel_rfl) (by kernel_rfl) (by kernel_rfl) (by simp [Tryz.f33]) (by simp [names]) ?_
  unfold Tryz.f33
  simp (disch := omega) only [go_sem]
  refine callB_mk ⟨⟨[], [], []⟩, [(0, 448)], []⟩ (f63_ok s.queues h.nq h.aq) (by simp (disch := omega) only [go_sem]) rfl trivial (.inl rfl) ?_
  simp (disch := omega) only [go_sem]
  refine loop_intro (α := Nat) (fun i => ⟨[(4, I i), (1, .ptr 64 0), (3, .sl (.own 1472 0) 3 ((procsQs s.queues ++ procsN (s.needs.take i)).map Proc.c))], [(64, s.c)]⟩) (fun i => i ≤ (s.needs).length ∧ True) (fun i => (s.needs).length - i) 0 ⟨by omega, trivial⟩ ?_ ?_
  · refine Imp.ren ⟨[(448, 1472)], [(64, 64)], []⟩ ⟨rfl, rfl⟩ (by simp [lk]) ?_ ?_
    all_goals (try simp (disch := omega) only [go_sem])
    all_goals (try (repeat' (with_reducible apply And.intro)))
    all_goals (first | exact .nilOwn (by omega) | exact .nilNo (by omega) | exact .sl (by simp [procsN]) | exact .int (by simp [procsN]) | exact .eq (by simp [procsN]))
  rintro i ⟨hi, hP⟩ J hJ
  simp (disch := omega) only [go_sem]
  refine And.intro (fun hlt => ?_) (fun hge => ?_)
  rotate_left
  have hil : i = (s.needs).length := by simp at hge; omega
  rotate_left
  obtain ⟨b, hb⟩ : ∃ b, (s.needs)[i]? = some b := ⟨_, List.getElem?_eq_getElem (by simp at hlt; omega)⟩
  have hbm := List.mem_of_getElem? hb
  have hlt2 : i < (s.needs).length := by simp at hlt; omega
  simp (disch := omega) only [go_sem, List.getElem?_map, hb]
  · have hbd2 : (procsQs s.queues).length + (procsN (s.needs.take i)).length + 1 ≤ 4294967296 := by simp [procsN]; omega
    simp (disch := omega) only [go_sem, procsN]
    refine hJ _ (i + 1) ⟨by simp at hlt; omega, trivial⟩ (by simp at hlt; omega) (Imp.weak ?_ ?_)
    all_goals (try simp (disch := omega) only [go_sem])
    all_goals (try (repeat' (with_reducible apply And.intro)))
    all_goals (first | exact .nilOwn (by omega) | exact .nilNo (by omega) | exact .sl (by simp [procsN, List.take_add_one, hb, Proc.c]) | exact .int (by simp [procsN, List.take_add_one, hb, Proc.c]) | exact .eq (by simp [procsN, List.take_add_one, hb, Proc.c]))

  · subst hil
    refine call_frz [1472] (f64_ok (procsQs s.queues ++ procsN s.needs) (by simp [procsN]; omega)) (by simp (disch := omega) only [go_sem, List.take_length]) rfl ?_
    simp (disch := omega) only [go_sem]
    refine ret_mk ⟨[], [], []⟩ _ (by (try simp (disch := omega) only [go_sem, resVs, resV]) <;> rfl) ⟨rfl, rfl⟩ (by simp) ?_ trivial
    simp (disch := omega) only [go_sem, procsS]
theorem f129_ok (l : List Queue) (name : Bs) (hl : l.length ≤ 1000000) : FnOK C0 129 [queuesV l, .v (.string (str name))] [] (I (match l.findIdx? (fun q => q.res.name == name) with | some i => i | none => -1)) [] := by
  refine FnOK.intro (fn := Tryz.f129) (c := Tryz.f129.body.getD .skip) (by kernel_rfl) (by kernel_rfl) (by kernel_rfl) (by kernel_rfl) (by simp [Tryz.f129]) (by simp [names]) ?_
  unfold Tryz.f129
  simp (disch := omega) only [go_sem]
  refine loop_intro (α := Nat) (fun i => ⟨[(5, I i), (0, queuesV l), (1, .v (.string (str name)))], []⟩) (fun i => i ≤ (l).length ∧ (l.take i).find? (fun q => q.res.name == name) = none) (fun i => (l).length - i) 0 ⟨by omega, rfl⟩ ?_ ?_
  · refine Imp.weak ?_ ?_
    all_goals (try simp (disch := omega) only [go_sem])
    all_goals (try (repeat' (with_reducible apply And.intro)))
    all_goals (first | exact .nilOwn (by omega) | exact .nilNo (by omega) | exact .sl (by simp []) | exact .int (by simp []) | exact .eq (by simp []))
  rintro i ⟨hi, hP⟩ J hJ
  simp (disch := omega) only [go_sem]
  refine And.intro (fun hlt => ?_) (fun hge => ?_)
  rotate_left
  have hil : i = (l).length := by simp at hge; omega
  rotate_left
  obtain ⟨b, hb⟩ : ∃ b, (l)[i]? = some b := ⟨_, List.getElem?_eq_getElem (by simp at hlt; omega)⟩
  have hbm := List.mem_of_getElem? hb
  have hlt2 : i < (l).length := by simp at hlt; omega
  simp (disch := omega) only [go_sem, List.getElem?_map, hb]
  · refine And.intro (fun h => ?_) (fun h => ?_)
    · have e := idx_take hP b hb (by simpa using h)
      simp (disch := omega) only [go_sem, e]
      refine ret_mk ⟨[], [], []⟩ _ (by (try simp (disch := omega) only [go_sem, resVs, resV]) <;> rfl) ⟨rfl, rfl⟩ (by simp) ?_ trivial
      simp (disch := omega) only [go_sem]
    · refine hJ _ (i + 1) ⟨by simp at hlt; omega, (by rw [find_take hP hb]; simp at h; simp [h])⟩ (by simp at hlt; omega) (Imp.weak (by simp (disch := omega) only [go_sem]) (by simp (disch := omega) only [go_sem]))
  · subst hil
    rw [List.take_length] at hP
    have e : l.findIdx? (fun q => q.res.name == name) = none := by
      rw [List.findIdx?_eq_none_iff]
      rw [List.find?_eq_none] at hP
      intro x hx
      simpa using hP x hx
    simp (disch := omega) only [go_sem, e]
    refine ret_mk ⟨[], [], []⟩ _ (by (try simp (disch := omega) only [go_sem, resVs, resV]) <;> rfl) ⟨rfl, rfl⟩ (by simp) ?_ trivial
    simp (disch := omega) only [go_sem]
def waitsF (l : List Queue) (p : Proc) (name : Bs) : Bool := match l.find? (fun q => q.res.name == name) with
  | some q => (wantQ q p).isSome
  | none => false
theorem f106_ok (s : WS) (p : Proc) (h : Few s) : FnOK C0 106 [.agg s.c, .agg p.c] [] (.tup [.agg ((s.needs.find? fun n => decide (n.proc = p)).getD n0).c, B (s.needs.find? fun n => decide (n.proc = p)).isSome]) [] := by
  have hn := h.nn
  refine FnOK.intro (fn := Tryz.f106) (c := Tryz.f106.body.getD .skip) (by kernel_rfl) (by kernel_rfl) (by kernel_rfl) (by kernel_rfl) (by simp [Tryz.f106]) (by simp [names]) ?_
  unfold Tryz.f106
  simp (disch := omega) only [go_sem]
  refine loop_intro (α := Nat) (fun i => ⟨[(6, I i), (2, .ptr 128 0), (3, .ptr 192 0), (4, .ptr 256 0)], [(128, s.c), (192, p.c), (256, n0.c)]⟩) (fun i => i ≤ (s.needs).length ∧ (s.needs.take i).find? (fun n => decide (n.proc = p)) = none) (fun i => (s.needs).length - i) 0 ⟨by omega, rfl⟩ ?_ ?_
  · refine Imp.weak ?_ ?_
    all_goals (try simp (disch := omega) only [go_sem, n0, Expr.c_def, Expr.k, Expr.atom, Expr.kids, a0, p0])
    all_goals (try (repeat' (with_reducible apply And.intro)))
    all_goals (first | exact .nilOwn (by omega) | exact .nilNo (by omega) | exact .sl (by simp [n0]) | exact .int (by simp [n0]) | exact .eq (by simp [n0]))
  rintro i ⟨hi, hP⟩ J hJ
  simp (disch := omega) only [go_sem]
  refine And.intro (fun hlt => ?_) (fun hge => ?_)
  rotate_left
  have hil : i = (s.needs).length := by simp at hge; omega
  rotate_left
  obtain ⟨b, hb⟩ : ∃ b, (s.needs)[i]? = some b := ⟨_, List.getElem?_eq_getElem (by simp at hlt; omega)⟩
  have hbm := List.mem_of_getElem? hb
  have hlt2 : i < (s.needs).length := by simp at hlt; omega
  refine draw_mk 7 [([], [2]), ([0], [14]), ([], [6]), ([0, 1, 2], [15, 16]), ([0, 1, 2, 3], [17]), ([0, 1, 2, 3, 4], [18]), ([], [3]), ([0, 1, 2, 3, 4, 5, 6], [])] fol (by kernel_rfl) ?_
  simp (disch := omega) only [go_sem, List.getElem?_map, hb]
  · refine And.intro (fun h => ?_) (fun h => ?_)
    · have e : (s.needs.find? fun n => decide (n.proc = p)) = some b := find_at hP hb (by simpa using h)
      simp (disch := omega) only [go_sem, e, List.getElem?_map, hb, Option.isSome_some, Option.getD_some]
      refine ret_mk ⟨[], [], []⟩ _ (by (try simp (disch := omega) only [go_sem, resVs, resV]) <;> rfl) ⟨rfl, rfl⟩ (by simp) ?_ trivial
      simp (disch := omega) only [go_sem]
    · refine hJ _ (i + 1) ⟨by simp at hlt; omega, (by rw [find_take hP hb]; simp at h; simp [h])⟩ (by simp at hlt; omega) (Imp.weak (by simp (disch := omega) only [go_sem]) (by simp (disch := omega) only [go_sem]))
  · subst hil
    rw [List.take_length] at hP
    simp (disch := omega) only [go_sem, hP, Option.isSome_none, Option.getD_none, n0, Expr.k, Expr.atom, Expr.kids, a0, p0]
    refine ret_mk ⟨[], [], []⟩ _ (by (try simp (disch := omega) only [go_sem, resVs, resV]) <;> rfl) ⟨rfl, rfl⟩ (by simp) ?_ trivial
    simp (disch := omega) only [go_sem]
    refine .tup (WeakArgs.weakL ?_)
    simp (disch := omega) only [go_sem]
    repeat' (with_reducible apply And.intro)
    all_goals (first | exact .nilNo (by omega) | exact .agg (WeakArgs.weakL (by simp (disch := omega) only [go_sem])))
end Go.Rd
