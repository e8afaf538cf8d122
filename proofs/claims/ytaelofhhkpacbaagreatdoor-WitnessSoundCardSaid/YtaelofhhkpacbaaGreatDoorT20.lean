/- part 20 of the proof -/
import Derived.Test.YtaelofhhkpacbaaGreatDoorT19
set_option linter.all false
open Go Go.Abs Go.Proofs
set_option maxRecDepth 100000
namespace Go.Rd
def midP (l : List Proc) (k : Nat) (p : Proc) : List Proc := l.take k ++ p :: l.drop k
theorem midP_len (l : List Proc) (k : Nat) (p : Proc) (h : k ≤ l.length) : (midP l k p).length = l.length + 1 := by simp [midP]; omega
theorem midP_get (l : List Proc) (k : Nat) (p : Proc) (h : k ≤ l.length) : (midP l k p)[k]? = some p := by
  unfold midP
  rw [List.getElem?_append_right (by simp; omega)]
  simp [Nat.min_eq_left h]
theorem midP_prev (l : List Proc) (k : Nat) (p : Proc) (h : k + 1 ≤ l.length) : (midP l (k + 1) p)[k]? = l[k]? := by
  unfold midP
  rw [List.getElem?_append_left (by simp; omega), List.getElem?_take, if_pos (by omega)]
theorem midP_swap {l : List Proc} {k : Nat} {p x : Proc} (hx : l[k]? = some x) : ((midP l (k + 1) p).set k p).set (k + 1) x = midP l k p := by
  have hk := lt_of_get hx
  have hd : l.drop k = x :: l.drop (k + 1) := by rw [List.drop_eq_getElem_cons hk, get_eq hx]
  have ht : l.take (k + 1) = l.take k ++ [x] := take_get hx
  unfold midP
  rw [ht, hd]
  have hl : (l.take k).length = k := by simp; omega
  rw [List.append_assoc, List.set_append_right _ _ (by omega), hl, Nat.sub_self]
  rw [List.set_append_right _ _ (by omega), hl]
  simp
theorem midP_mem (l : List Proc) (k : Nat) (p x : Proc) : x ∈ midP l k p ↔ x ∈ l ∨ x = p := by
  unfold midP
  conv => rhs; rw [← List.take_append_drop k l]
  simp only [List.mem_append, List.mem_cons]
  constructor
  · rintro (h | h | h)
    · exact .inl (.inl h)
    · exact .inr h
    · exact .inl (.inr h)
  · rintro ((h | h) | h)
    · exact .inl h
    · exact .inr (.inr h)
    · exact .inr (.inl h)
theorem f61_ok (l : List Proc) (hl : l.length ≤ 1000000) : FnOK C0 61 [procsV l] [] (procsV (sortU l)) [] := by
  refine FnOK.intro (fn := Tryz.f61) (c := Tryz.f61.body.getD .skip) (by kernel_rfl) (by kernel_rfl) (by kernel_rfl) (by kernel_rfl) (by simp [Tryz.f61]) (by simp [names]) ?_
  unfold Tryz.f61
  simp (disch := omega) only [go_sem]
  refine loop_intro (α := Nat × List Proc) (fun x => ⟨[(4, I x.1), (3, .sl (.own 1728 0) 3 (x.2.map Proc.c)), (0, procsV l)], []⟩) (fun x => x.1 ≤ l.length ∧ x.2.length ≤ x.1 ∧ ascP x.2 ∧ ∀ p, p ∈ x.2 ↔ p ∈ l.take x.1) (fun x => l.length - x.1) (0, []) ⟨by simp, by simp, by simp [ascP], by simp⟩ ?_ ?_
  · refine Imp.weak ?_ ?_
    · simp (disch := omega) only [go_sem, List.map_nil]
    · simp (disch := omega) only [go_sem]
  rintro ⟨i, out⟩ ⟨hi, hol, hasc, hmem⟩ J hJ
  replace hi : i ≤ l.length := hi
  replace hol : out.length ≤ i := hol
  replace hasc : ascP out := hasc
  replace hmem : ∀ p, p ∈ out ↔ p ∈ l.take i := hmem
  simp (disch := omega) only [go_sem]
  refine And.intro (fun hlt => ?_) (fun hge => ?_)
  · have hlt' : i < l.length := by simp at hlt; omega
    obtain ⟨p, hp⟩ : ∃ p, l[i]? = some p := ⟨_, List.getElem?_eq_getElem hlt'⟩
    have ht := take_get hp
    simp (disch := omega) only [go_sem, List.getElem?_map, hp]
    refine call_lent [1728] (f19_ok out p (by omega)) (by simp (disch := omega) only [go_sem]) rfl trivial ?_
    cases hh : hasP out p
    rotate_left
    · have hin : p ∈ out := by simpa [hasP] using hh
      simp (disch := omega) only [go_sem]
      refine hJ _ (i + 1, out) ⟨by simp; omega, by simp; omega, hasc, fun x => ?_⟩ (by simp; omega) (Imp.weak (by simp (disch := omega) only [go_sem]) (by simp (disch := omega) only [go_sem]))
      rw [ht, List.mem_append, ← hmem x]
      simp only [List.mem_singleton]
      exact ⟨.inl, fun h => h.elim id fun e => by rw [e]; exact hin⟩
    have hnin : p ∉ out := by simpa [hasP] using hh
    have hbd : out.length + 1 ≤ 4294967296 := by omega
    simp (disch := omega) only [go_sem, List.getElem?_map, hp]
    refine loop_intro (α := Nat) (fun k => ⟨[(5, I k), (4, I i), (3, .sl (.own 1728 0) 3 ((midP out k p).map Proc.c)), (0, procsV l)], []⟩) (fun k => k ≤ out.length ∧ ∀ x ∈ out.drop k, cmpP p x < 0) (fun k => k) out.length ⟨by omega, by simp⟩ ?_ ?_
    · refine Imp.weak ?_ ?_
      · simp (disch := omega) only [go_sem]
        exact .sl (by simp [midP, Proc.c])
      · simp (disch := omega) only [go_sem]
    rintro k ⟨hk, hgt⟩ J2 hJ2
    have stop : (∀ x ∈ out.take k, cmpP x p < 0) → ∀ st', Imp ⟨C0, [], []⟩ st' ⟨[(4, I (i + 1 : Nat)), (3, .sl (.own 1728 0) 3 ((midP out k p).map Proc.c)), (0, procsV l)], []⟩ → J st' := fun hlt2 st' him => by
      refine hJ st' (i + 1, midP out k p) ⟨by simp; omega, by simp [midP_len out k p hk]; omega, ?_, fun x => ?_⟩ (by simp; omega) him
      · have h0 := hasc
        unfold ascP at h0 ⊢
        rw [← List.take_append_drop k out] at h0
        rw [List.pairwise_append] at h0
        show (midP out k p).Pairwise _
        unfold midP
        rw [List.pairwise_append]
        refine ⟨h0.1, List.pairwise_cons.2 ⟨hgt, h0.2.1⟩, fun a ha b hb => ?_⟩
        rcases List.mem_cons.1 hb with e | e
        · rw [e]; exact hlt2 a ha
        · exact h0.2.2 a ha b e
      · show x ∈ midP out k p ↔ x ∈ l.take (i + 1)
        rw [midP_mem, ht, List.mem_append, ← hmem x]
        simp
    refine draw_mk 12 [([], [5]), ([0], [28]), ([0, 1], [29]), ([0, 1, 2], [3, 30]), ([0, 1, 2], [5, 30]), ([0, 1, 2, 4], [32, 30]), ([0, 1, 2, 3, 4, 5], [31, 33, 30]), ([0, 1, 2, 3, 4, 5, 6], [34, 30]), ([0, 1, 2], [3, 30]), ([0, 1, 2], [5, 30]), ([0, 1, 2, 8, 9], [36, 37, 30]), ([0, 1, 2, 8, 9, 10], [38, 30]), ([0, 1, 2, 3, 4, 5, 6, 7, 8, 9, 10, 11], []), ([0, 1, 2, 3, 4, 5, 6, 7, 8, 9, 10, 11, 12], []), ([0, 1, 2, 3, 4, 5, 6, 7, 8, 9, 10, 11, 12, 13], [])] fol (by kernel_rfl) ?_
    cases k with
    | zero =>
      have e0 : (0 < ((0 : Nat) : Int)) = False := by simp
      simp (disch := omega) only [go_sem, e0, decide_false]
      exact stop (by simp) _ (Imp.weak (by simp (disch := omega) only [go_sem]) (by simp (disch := omega) only [go_sem]))
    | succ k =>
      have e0 : (0 < (((k + 1 : Nat)) : Int)) = True := eq_true (by omega)
      have e1 : (0 < (k : Int) + 1) = True := eq_true (by omega)
      have e2 : ((k : Int) + 1 - 1) = (k : Int) := by omega
      obtain ⟨x, hx⟩ : ∃ x, out[k]? = some x := ⟨_, List.getElem?_eq_getElem (by omega)⟩
      have g1 := midP_get out (k + 1) p hk
      have g2 := midP_prev out k p hk
      rw [hx] at g2
      have hml := midP_len out (k + 1) p hk
      have z1 : k < (midP out (k + 1) p).length := by omega
      have z2 : k + 1 < (midP out (k + 1) p).length := by omega
      simp (disch := omega) only [go_sem, e0, e1, e2, List.getElem?_map, g1, g2, List.length_map, hml]
      refine call_pure (f79_ok x p) (by simp (disch := omega) only [go_sem]) rfl ?_
      simp (disch := omega) only [go_sem]
      by_cases hc : 0 < cmpP x p
      · have e3 : (0 < cmpP x p) = True := eq_true hc
        have e4 : (k = k + 1) = False := eq_false (by omega)
        simp (disch := omega) only [go_sem, e2, e3, List.getElem?_map, g1, g2, List.length_map, hml, List.length_set, List.getElem?_set, e4]
        refine hJ2 _ k ⟨by omega, fun y hy => ?_⟩ (by omega) (Imp.weak ?_ (by simp (disch := omega) only [go_sem]))
        · rw [List.drop_eq_getElem_cons (by omega), get_eq hx] at hy
          rcases List.mem_cons.1 hy with e | e
          · subst e; have := cmpP_swap y p; omega
          · exact hgt y e
        · simp (disch := omega) only [go_sem]
          refine .sl ?_
          rw [← midP_swap hx, List.map_set, List.map_set]
          rfl
      · have e3 : (0 < cmpP x p) = False := eq_false hc
        simp (disch := omega) only [go_sem, e3, decide_false]
        refine stop (fun y hy => ?_) _ (Imp.weak (by simp (disch := omega) only [go_sem]) (by simp (disch := omega) only [go_sem]))
        have hxm : x ∈ out := List.mem_of_getElem? hx
        have hxp : cmpP x p < 0 := by
          have : cmpP x p ≠ 0 := fun e => hnin (by rw [← cmpP_eq e]; exact hxm)
          omega
        rw [take_get hx] at hy
        rcases List.mem_append.1 hy with e | e
        · have h0 := hasc
          unfold ascP at h0
          rw [← List.take_append_drop k out, List.pairwise_append] at h0
          have hd : out.drop k = x :: out.drop (k + 1) := by rw [List.drop_eq_getElem_cons (by omega), get_eq hx]
          exact cmpP_trans (h0.2.2 y e x (by rw [hd]; simp)) hxp
        · rw [List.mem_singleton.1 e]; exact hxp
  · have hil : i = l.length := by simp at hge; omega
    subst hil
    rw [List.take_length] at hmem
    have e : out = sortU l := asc_ext hasc (asc_sortU l) fun x => by rw [hmem, mem_sortU]
    refine ret_mk ⟨[], [], [1728]⟩ _ (by (try simp (disch := omega) only [go_sem, resVs, resV]) <;> rfl) ⟨rfl, rfl⟩ (by simp) ?_ trivial
    simp (disch := omega) only [go_sem, e]
theorem f153_ok (l : List Hold) (hl : l.length ≤ 1000000) : FnOK C0 153 [holdsV l] [] (procsO 0 (procsH l)) [] := by
  refine FnOK.intro (fn := Tryz.f153) (c := Tryz.f153.body.getD .skip) (by kernel_rfl) (by kernel_rfl) (by kernel_rfl) (by kernel_rfl) (by simp [Tryz.f153]) (by simp [names]) ?_
  unfold Tryz.f153
  simp (disch := omega) only [go_sem]
  refine loop_intro (α := Nat) (fun i => ⟨[(4, I i), (0, holdsV l), (3, .sl (.own 1152 0) 3 ((procsH (l.take i)).map Proc.c))], []⟩) (fun i => i ≤ (l).length ∧ True) (fun i => (l).length - i) 0 ⟨by omega, trivial⟩ ?_ ?_
  · refine Imp.weak ?_ ?_
    all_goals (try simp (disch := omega) only [go_sem])
    all_goals (try (repeat' (with_reducible apply And.intro)))
    all_goals (first | exact .nilOwn (by omega) | exact .nilNo (by omega) | exact .sl (by simp []) | exact .int (by simp []) | exact .eq (by simp []))
  rintro i ⟨hi, hP⟩ J hJ
  simp (disch := omega) only [go_sem]
  refine And.intro (fun hlt => ?_) (fun hge => ?_)
  rotate_left
  have hil : i = (l).length := by simp at hge; omega
  rotate_left
  obtain ⟨b, hb⟩ : ∃ b, (l)[i]? = some b := ⟨_, List.getElem?_eq_getElem (by simp at hlt; omega)⟩
  have hbm := List.mem_of_getElem? hb
  have hlt2 : i < (l).length := by simp at hlt; omega
  simp (disch := omega) only [go_sem, List.getElem?_map, hb]
  · have hbd : (procsH (l.take i)).length + 1 ≤ 4294967296 := by simp [procsH]; omega
    simp (disch := omega) only [go_sem, procsH]
    refine hJ _ (i + 1) ⟨by simp at hlt; omega, trivial⟩ (by simp at hlt; omega) (Imp.weak ?_ ?_)
    all_goals (try simp (disch := omega) only [go_sem])
    all_goals (try (repeat' (with_reducible apply And.intro)))
    all_goals (first | exact .nilOwn (by omega) | exact .nilNo (by omega) | exact .sl (by simp [procsH, List.take_add_one, hb, Proc.c]) | exact .int (by simp [procsH, List.take_add_one, hb, Proc.c]) | exact .eq (by simp [procsH, List.take_add_one, hb, Proc.c]))

  · subst hil
    refine ret_mk ⟨[(1152, 0)], [], []⟩ _ rfl ⟨rfl, rfl⟩ (by simp [lk]) ?_ trivial
    simp (disch := omega) only [go_sem, List.take_length]
theorem f64_ok (q : Queue) (h : q.convs.length + q.waits.length ≤ 1000000) : FnOK C0 64 [.agg q.c] [] (procsV (procsW (q.convs ++ q.waits))) [] := by
  refine FnOK.intro (fn := Tryz.f64) (c := Tryz.f64.body.getD .skip) (by kernel_rfl) (by kernel_rfl) (by kernel_rfl) (by kernel_rfl) (by simp [Tryz.f64]) (by simp [names]) ?_
  unfold Tryz.f64
  simp (disch := omega) only [go_sem]
  refine loop_intro (α := Nat) (fun i => ⟨[(4, I i), (1, .ptr 64 0), (3, .sl (.own 1344 0) 3 ((procsW (q.convs.take i)).map Proc.c))], [(64, q.c)]⟩) (fun i => i ≤ (q.convs).length ∧ True) (fun i => (q.convs).length - i) 0 ⟨by omega, trivial⟩ ?_ ?_
  · refine Imp.weak ?_ ?_
    all_goals (try simp (disch := omega) only [go_sem])
    all_goals (try (repeat' (with_reducible apply And.intro)))
    all_goals (first | exact .nilOwn (by omega) | exact .nilNo (by omega) | exact .sl (by simp []) | exact .int (by simp []) | exact .eq (by simp []))
  rintro i ⟨hi, hP⟩ J hJ
  simp (disch := omega) only [go_sem]
  refine And.intro (fun hlt => ?_) (fun hge => ?_)
  rotate_left
  have hil : i = (q.convs).length := by simp at hge; omega
  rotate_left
  obtain ⟨b, hb⟩ : ∃ b, (q.convs)[i]? = some b := ⟨_, List.getElem?_eq_getElem (by simp at hlt; omega)⟩
  have hbm := List.mem_of_getElem? hb
  have hlt2 : i < (q.convs).length := by simp at hlt; omega
  simp (disch := omega) only [go_sem, List.getElem?_map, hb]
  · have hbd : (procsW (q.convs.take i)).length + 1 ≤ 4294967296 := by simp [procsW]; omega
    simp (disch := omega) only [go_sem, procsW]
    refine hJ _ (i + 1) ⟨by simp at hlt; omega, trivial⟩ (by simp at hlt; omega) (Imp.weak ?_ ?_)
    all_goals (try simp (disch := omega) only [go_sem])
    all_goals (try (repeat' (with_reducible apply And.intro)))
    all_goals (first | exact .nilOwn (by omega) | exact .nilNo (by omega) | exact .sl (by simp [procsW, List.take_add_one, hb, Proc.c]) | exact .int (by simp [procsW, List.take_add_one, hb, Proc.c]) | exact .eq (by simp [procsW, List.take_add_one, hb, Proc.c]))

  subst hil
  rw [List.take_length]
  clear hJ
  refine loop_intro (α := Nat) (fun i => ⟨[(5, I i), (1, .ptr 64 0), (3, .sl (.own 2368 0) 3 ((procsW (q.convs ++ q.waits.take i)).map Proc.c))], [(64, q.c)]⟩) (fun i => i ≤ (q.waits).length ∧ True) (fun i => (q.waits).length - i) 0 ⟨by omega, trivial⟩ ?_ ?_
  · refine Imp.ren ⟨[(1344, 2368)], [(64, 64)], []⟩ ⟨rfl, rfl⟩ (by simp [lk]) ?_ ?_
    all_goals (try simp (disch := omega) only [go_sem])
    all_goals (try (repeat' (with_reducible apply And.intro)))
    all_goals (first | exact .nilOwn (by omega) | exact .nilNo (by omega) | exact .sl (by simp []) | exact .int (by simp []) | exact .eq (by simp []))
  rintro i ⟨hi, hP⟩ J hJ
  simp (disch := omega) only [go_sem]
  refine And.intro (fun hlt => ?_) (fun hge => ?_)
  rotate_left
  have hil : i = (q.waits).length := by simp at hge; omega
  rotate_left
  obtain ⟨b, hb⟩ : ∃ b, (q.waits)[i]? = some b := ⟨_, List.getElem?_eq_getElem (by simp at hlt; omega)⟩
  have hbm := List.mem_of_getElem? hb
  have hlt2 : i < (q.waits).length := by simp at hlt; omega
  simp (disch := omega) only [go_sem, List.getElem?_map, hb]
  · have hbd : (procsW (q.convs ++ q.waits.take i)).length + 1 ≤ 4294967296 := by simp [procsW]; omega
    simp (disch := omega) only [go_sem, procsW]
    refine hJ _ (i + 1) ⟨by simp at hlt; omega, trivial⟩ (by simp at hlt; omega) (Imp.weak ?_ ?_)
    all_goals (try simp (disch := omega) only [go_sem])
    all_goals (try (repeat' (with_reducible apply And.intro)))
    all_goals (first | exact .nilOwn (by omega) | exact .nilNo (by omega) | exact .sl (by simp [procsW, List.take_add_one, hb, Proc.c]) | exact .int (by simp [procsW, List.take_add_one, hb, Proc.c]) | exact .eq (by simp [procsW, List.take_add_one, hb, Proc.c]))

  · subst hil
    refine ret_mk ⟨[], [], [2368]⟩ _ (by (try simp (disch := omega) only [go_sem, resVs, resV]) <;> rfl) ⟨rfl, rfl⟩ (by simp) ?_ trivial
    simp (disch := omega) only [go_sem, List.take_length]
theorem f107_ok (q : Queue) (h : allQ q ≤ 1000000) : FnOK C0 107 [.agg q.c] [] (procsV (procsQ q)) [] := by
  have h1 : q.holds.length ≤ 1000000 := by unfold allQ at h; omega
  have h2 : q.convs.length + q.waits.length ≤ 1000000 := by unfold allQ sizeQ at h; omega
  have h3 : (procsH q.holds).length + (procsW (q.convs ++ q.waits)).length ≤ 1000000 := by simp [procsH, procsW]; unfold allQ sizeQ at h; omega
  have h4 : (procsH q.holds).length + (procsW (q.convs ++ q.waits)).length ≤ 4294967296 := by omega
  refine FnOK.intro (fn := Tryz.f107) (c := Tryz.f107.body.getD .skip) (by kernel_rfl) (by kernel_rfl) (by kernel_rfl) (by kernel_rfl) (by simp [Tryz.f107]) (by simp [names]) ?_
  unfold Tryz.f107
  simp (disch := omega) only [go_sem]
  refine draw_mk 4 [([], [1]), ([0], [3]), ([0, 1], [4]), ([], [1]), ([0, 1, 2, 3], []), ([0, 1, 2, 3, 4], []), ([0, 1, 2, 3, 4, 5], []), ([0, 1, 2, 3, 4, 5, 6], [])] fol (by kernel_rfl) ?_
  simp (disch := omega) only [go_sem]
  refine freeCall_mk ⟨⟨[], [], []⟩, [(0, 320)], []⟩ (f153_ok q.holds h1) (by simp (disch := omega) only [go_sem]) rfl rfl trivial (.inl rfl) ?_
  simp (disch := omega) only [go_sem]
  first | ((with_reducible show callB _ _ _ _ _ _); refine call_pure (f64_ok q h2) (by simp (disch := omega) only [go_sem]) rfl ?_) | ((with_reducible show freeCallB _ _ _ _ _ _ _ _ _ _); refine freeCall_mk ⟨⟨[], [], []⟩, [], []⟩ (f64_ok q h2) (by simp (disch := omega) only [go_sem]) rfl rfl trivial (.inl rfl) ?_)
  simp (disch := omega) only [go_sem]
  refine call_frz [512] (f61_ok (procsH q.holds ++ procsW (q.convs ++ q.waits)) (by simpa using h3)) (by simp (disch := omega) only [go_sem]; exact .sl (by simp)) rfl ?_
  simp (disch := omega) only [go_sem]
  refine ret_mk ⟨[], [], []⟩ _ (by (try simp (disch := omega) only [go_sem, resVs, resV]) <;> rfl) ⟨rfl, rfl⟩ (by simp) ?_ trivial
  simp (disch := omega) only [go_sem, procsQ]
theorem f138_ok (q : Queue) (p : Proc) (h : q.holds.length ≤ 1000000) : FnOK C0 138 [.agg q.c, .agg p.c] [] (.agg (getH q.holds p).c) [] := by
  refine FnOK.intro (fn := Tryz.f138) (c := Tryz.f138.body.getD .skip) (by kernel_rfl) (by kernel_rfl) (by kernel_rfl) (by kernel_rfl) (by simp [Tryz.f138]) (by simp [names]) ?_
  unfold Tryz.f138
  simp (disch := omega) only [go_sem]
  refine call_pure (f173_ok q.holds p h) (by simp (disch := omega) only [go_sem]) rfl ?_
  simp (disch := omega) only [go_sem]
  refine ret_mk ⟨[], [], []⟩ _ (by (try simp (disch := omega) only [go_sem, resVs, resV]) <;> rfl) ⟨rfl, rfl⟩ (by simp) ?_ trivial
  simp (disch := omega) only [go_sem]
theorem findW_wanted {l : List Wait} {p : Proc} : (findW l p < 0 ∧ l.find? (fun w => decide (w.proc = p)) = none) ∨ ∃ (i : Nat) (w : Wait), findW l p = i ∧ l[i]? = some w ∧ l.find? (fun w => decide (w.proc = p)) = some w := by
  unfold findW
  cases h : l.findIdx? (fun w => decide (w.proc = p)) with
  | none =>
    left
    refine ⟨by simp, ?_⟩
    rw [List.findIdx?_eq_none_iff] at h
    rw [List.find?_eq_none]
    intro x hx
    simpa using h x hx
  | some i =>
    right
    obtain ⟨h1, h2, h3⟩ := (List.findIdx?_eq_some_iff_getElem.1 h)
    refine ⟨i, l[i], rfl, List.getElem?_eq_getElem h1, ?_⟩
    rw [List.find?_eq_some_iff_getElem]
    exact ⟨h2, i, h1, rfl, fun j hj => by simpa using h3 j hj⟩
theorem f31_ok (q : Queue) (p : Proc) (h1 : q.convs.length ≤ 1000000) (h2 : q.waits.length ≤ 1000000) : FnOK C0 31 [.agg q.c, .agg p.c] [] (.tup [.agg ((wantQ q p).getD ⟨0, 0⟩).c, B (wantQ q p).isSome]) [] := by
  refine FnOK.intro (fn := Tryz.f31) (c := Tryz.f31.body.getD .skip) (by kernel_rfl) (by kernel_rfl) (by kernel_rfl) (by kernel_rfl) (by simp [Tryz.f31]) (by simp [names]) ?_
  unfold Tryz.f31
  simp (disch := omega) only [go_sem]
  refine call_pure (f63_ok q.convs p h1) (by simp (disch := omega) only [go_sem]) rfl ?_
  rcases findW_wanted (l := q.convs) (p := p) with ⟨a, b⟩ | ⟨i, w, a, b, c⟩
  · have e1 : (0 ≤ findW q.convs p) = False := eq_false (by omega)
    simp (disch := omega) only [go_sem, e1, decide_false]
    refine call_pure (f63_ok q.waits p h2) (by simp (disch := omega) only [go_sem]) rfl ?_
    rcases findW_wanted (l := q.waits) (p := p) with ⟨a', b'⟩ | ⟨i, w, a', b', c'⟩
    · have e2 : (0 ≤ findW q.waits p) = False := eq_false (by omega)
      have e : wantQ q p = none := by simp [wantQ, List.find?_append, b, b']
      simp (disch := omega) only [go_sem, e2, e, Option.isSome_none, decide_false]
      refine ret_mk ⟨[], [], []⟩ _ (by (try simp (disch := omega) only [go_sem, resVs, resV]) <;> rfl) ⟨rfl, rfl⟩ (by simp) ?_ trivial
      simp (disch := omega) only [go_sem]
    · have e : wantQ q p = some w.amt := by simp [wantQ, List.find?_append, b, c']
      simp (disch := omega) only [go_sem, a', e, Option.isSome_some, List.getElem?_map, b']
      refine ret_mk ⟨[], [], []⟩ _ (by (try simp (disch := omega) only [go_sem, resVs, resV]) <;> rfl) ⟨rfl, rfl⟩ (by simp) ?_ trivial
      simp (disch := omega) only [go_sem]
  · have e : wantQ q p = some w.amt := by simp [wantQ, List.find?_append, c]
    simp (disch := omega) only [go_sem, a, e, Option.isSome_some, List.getElem?_map, b]
    refine ret_mk ⟨[], [], []⟩ _ (by (try simp (disch := omega) only [go_sem, resVs, resV]) <;> rfl) ⟨rfl, rfl⟩ (by simp) ?_ trivial
    simp (disch := omega) only [go_sem]
def hasQ (q : Queue) (p : Proc) : Bool := (wantQ q p).isSome || !(getH q.holds p).zero
theorem f89_ok (q : Queue) (p : Proc) (h : allQ q ≤ 1000000) : FnOK C0 89 [.agg q.c, .agg p.c] [] (B (hasQ q p)) [] := by
  have h1 : q.holds.length ≤ 1000000 := by unfold allQ at h; omega
  have h2 : q.convs.length ≤ 1000000 := by unfold allQ sizeQ at h; omega
  have h3 : q.waits.length ≤ 1000000 := by unfold allQ sizeQ at h; omega
  refine FnOK.intro (fn := Tryz.f89) (c := Tryz.f89.body.getD .skip) (by kernel_rfl) (by kernel_rfl) (by kernel_rfl) (by kernel_rfl) (by simp [Tryz.f89]) (by simp [names]) ?_
  unfold Tryz.f89
  simp (disch := omega) only [go_sem]
  refine call_pure (f31_ok q p h2 h3) (by simp (disch := omega) only [go_sem]) rfl ?_
  cases hw : (wantQ q p).isSome
  · simp (disch := omega) only [go_sem, hw]
    refine call_pure (f138_ok q p h1) (by simp (disch := omega) only [go_sem]) rfl ?_
    simp (disch := omega) only [go_sem]
    refine call_pure (f137_ok (getH q.holds p)) (by simp (disch := omega) only [go_sem]) rfl ?_
    simp (disch := omega) only [go_sem]
    refine ret_mk ⟨[], [], []⟩ _ (by (try simp (disch := omega) only [go_sem, resVs, resV]) <;> rfl) ⟨rfl, rfl⟩ (by simp) ?_ trivial
    simp (disch := omega) only [go_sem]
    exact wb (by simp [hasQ, hw])
  · simp (disch := omega) only [go_sem, hw]
    refine ret_mk ⟨[], [], []⟩ _ (by (try simp (disch := omega) only [go_sem, resVs, resV]) <;> rfl) ⟨rfl, rfl⟩ (by simp) ?_ trivial
    simp (disch := omega) only [go_sem]
    exact wb (by simp [hasQ, hw])
theorem f136_ok (q : Queue) (h1 : q.holds.length ≤ 1000000) (h2 : q.convs.length ≤ 1000000) (h3 : q.waits.length ≤ 1000000) : FnOK C0 136 [.agg q.c] [] (.agg q.c) [] := by
  refine FnOK.intro (fn := Tryz.f136) (c := Tryz.f136.body.getD .skip) (by kernel_rfl) (by kernel_rfl) (by kernel_rfl) (by kernel_rfl) (by simp [Tryz.f136]) (by simp [names]) ?_
  unfold Tryz.f136
  simp (disch := omega) only [go_sem]
  refine ret_mk ⟨[], [], [384, 704, 1024]⟩ _ (by (try simp (disch := omega) only [go_sem, resVs, resV]) <;> rfl) ⟨rfl, rfl⟩ (by simp) ?_ trivial
  simp (disch := omega) only [go_sem, holdsV]
end Go.Rd
open Go Go.Abs Go.Proofs
set_option maxRecDepth 100000
namespace Go.Rd
theorem f175_ok (n : Int) : FnOK C0 175 [I n] [] (I (nextG n)) [] := by
  refine FnOK.intro (fn := Tryz.f175) (c := Tryz.f175.body.getD .skip) (by kernel_rfl) (by kernel_rfl) (by kernel_rfl) (by kernel_rfl) (by simp [Tryz.f175]) (by simp [names]) ?_
  unfold Tryz.f175
  simp (disch := omega) only [go_sem]
  repeat' (with_reducible refine And.intro (fun h => ?_) (fun h => ?_))
  all_goals (refine ret_mk ⟨[], [], []⟩ _ (by (try simp (disch := omega) only [go_sem, resVs, resV]) <;> rfl) ⟨rfl, rfl⟩ (by simp) ?_ trivial)
  all_goals (try simp (disch := omega) only [go_sem])
  all_goals (first | (simp_all [nextG]; done) | exact wi (by simp_all [nextG, IntKind.wrap, IntKind.signed, IntKind.bits] <;> omega))
theorem f140_ok (l : List Wait) (p : Proc) (hl : l.length ≤ 1000000) : FnOK C0 140 [waitsV l, .agg p.c] [] (.tup [waitsV (dropW l p), B (decide ((dropW l p).length < l.length))]) [] := by
  refine FnOK.intro (fn := Tryz.f140) (c := Tryz.f140.body.getD .skip) (by kernel_rfl) (by kernel_rfl) (by kernel_rfl) (by kernel_rfl) (by simp [Tryz.f140]) (by simp [names]) ?_
  unfold Tryz.f140
  simp (disch := omega) only [go_sem]
  have hd : ∀ i, (dropW (l.take i) p).length ≤ l.length := fun i => Nat.le_trans (dropW_length _ _) (by simp; omega)
  refine loop_intro (α := Nat) (fun i => ⟨[(7, I i), (0, waitsV l), (3, .ptr 192 0), (6, .sl (.own 1728 0) 7 ((dropW (l.take i) p).map Wait.c))], [(192, p.c)]⟩) (fun i => i ≤ (l).length ∧ True) (fun i => (l).length - i) 0 ⟨by omega, trivial⟩ ?_ ?_
  · refine Imp.weak ?_ ?_
    all_goals (try simp (disch := omega) only [go_sem])
    all_goals (try (repeat' (with_reducible apply And.intro)))
    all_goals (first | exact .nilOwn (by omega) | exact .nilNo (by omega) | exact .sl (by simp []) | exact .int (by simp []) | exact .eq (by simp []))
  rintro i ⟨hi, hP⟩ J hJ
  simp (disch := omega) only [go_sem]
  refine And.intro (fun hlt => ?_) (fun hge => ?_)
  rotate_left
  have hil : i = (l).length := by simp at hge; omega
  rotate_left
  obtain ⟨b, hb⟩ : ∃ b, (l)[i]? = some b := ⟨_, List.getElem?_eq_getElem (by simp at hlt; omega)⟩
  have hbm := List.mem_of_getElem? hb
  have hlt2 : i < (l).length := by simp at hlt; omega
  refine draw_mk 6 [([], [0]), ([], [7]), ([0, 1], [14, 15]), ([0, 1, 2], [16]), ([0, 1, 2, 3], [17]), ([], [3]), ([0, 1, 2, 3, 4, 5], [])] fol (by kernel_rfl) ?_
  simp (disch := omega) only [go_sem, List.getElem?_map, hb]
  · have hdi := hd i
    by_cases hb' : b.proc = p
    · simp (disch := omega) only [go_sem, hb', decide_false]
      refine hJ _ (i + 1) ⟨by simp at hlt; omega, trivial⟩ (by simp at hlt; omega) (Imp.weak ?_ ?_)
      all_goals (try simp (disch := omega) only [go_sem])
      all_goals (try (repeat' (with_reducible apply And.intro)))
      all_goals (first | exact .nilOwn (by omega) | exact .nilNo (by omega) | exact .sl (by simp [dropW, List.take_add_one, hb, hb']) | exact .int (by simp [dropW, List.take_add_one, hb, hb']) | exact .eq (by simp [dropW, List.take_add_one, hb, hb']))

    · simp (disch := omega) only [go_sem, hb', decide_true, List.getElem?_map, hb]
      refine hJ _ (i + 1) ⟨by simp at hlt; omega, trivial⟩ (by simp at hlt; omega) (Imp.weak ?_ ?_)
      all_goals (try simp (disch := omega) only [go_sem])
      all_goals (try (repeat' (with_reducible apply And.intro)))
      all_goals (first | exact .nilOwn (by omega) | exact .nilNo (by omega) | exact .sl (by simp [dropW, List.take_add_one, hb, hb', Wait.c]) | exact .int (by simp [dropW, List.take_add_one, hb, hb', Wait.c]) | exact .eq (by simp [dropW, List.take_add_one, hb, hb', Wait.c]))

  · subst hil
    have hdi := hd l.length
    rw [List.take_length] at hdi ⊢
    have e : decide (((dropW l p).length : Int) < l.length) = decide ((dropW l p).length < l.length) := by simp
    refine ret_mk ⟨[], [], [1728]⟩ _ (by (try simp (disch := omega) only [go_sem, resVs, resV]) <;> rfl) ⟨rfl, rfl⟩ (by simp [lk]) ?_ trivial
    simp (disch := omega) only [go_sem, e]
def doneI (l : List Hold) (p : Proc) (a : Amt) : Bool := a.zero || (dropH l p).any (after' p)
def outI (l : List Hold) (p : Proc) (a : Amt) : List Hold := if doneI l p a then setH l p a else dropH l p
theorem dropH_snoc_eq {l : List Hold} {p : Proc} {b : Hold} (h : b.proc = p) : dropH (l ++ [b]) p = dropH l p := by simp [dropH, h]
theorem dropH_snoc_ne {l : List Hold} {p : Proc} {b : Hold} (h : b.proc ≠ p) : dropH (l ++ [b]) p = dropH l p ++ [b] := by simp [dropH, h]
theorem outI_eq {l : List Hold} {p : Proc} {a : Amt} {b : Hold} (h : b.proc = p) : outI (l ++ [b]) p a = outI l p a ∧ doneI (l ++ [b]) p a = doneI l p a := by
  simp [outI, doneI, setH, dropH_snoc_eq h]
theorem placeN_any {k : List Hold} {p : Proc} (b : Hold) (h : k.any (after' p) = true) : placeN (k ++ [b]) p = placeN k p := by
  unfold placeN
  rw [List.findIdx?_append]
  cases hf : k.findIdx? (after' p) with
  | some i => simp
  | none =>
    rw [List.findIdx?_eq_none_iff] at hf
    obtain ⟨x, hx, hy⟩ := List.any_eq_true.1 h
    rw [hf x hx] at hy; simp at hy
theorem find_none {k : List Hold} {p : Proc} (h : k.any (after' p) = false) : k.findIdx? (after' p) = none := by
  rw [List.findIdx?_eq_none_iff]
  intro x hx
  rw [List.any_eq_false] at h
  simpa using h x hx
theorem outI_done {l : List Hold} {p : Proc} {a : Amt} {b : Hold} (h : b.proc ≠ p) (hd : doneI l p a = true) : outI (l ++ [b]) p a = outI l p a ++ [b] ∧ doneI (l ++ [b]) p a = true := by
  have h2 : doneI (l ++ [b]) p a = true := by
    unfold doneI at hd ⊢
    rw [dropH_snoc_ne h, List.any_append]
    revert hd
    cases a.zero <;> simp <;> (try intro x hx h; exact .inl ⟨x, hx, h⟩)
  refine ⟨?_, h2⟩
  unfold outI
  rw [h2, hd]
  simp only [if_true]
  unfold setH
  rw [dropH_snoc_ne h]
  cases hz : a.zero
  · have ha : (dropH l p).any (after' p) = true := by simpa [doneI, hz] using hd
    simp only [Bool.false_eq_true, if_false]
    have := placeN_le (dropH l p) p
    rw [placeN_any b ha, List.take_append_of_le_length this, List.drop_append_of_le_length this]
    simp
  · simp
theorem outI_put {l : List Hold} {p : Proc} {a : Amt} {b : Hold} (h : b.proc ≠ p) (hd : doneI l p a = false) (hb : 0 < cmpP b.proc p) : outI (l ++ [b]) p a = outI l p a ++ [⟨p, a⟩, b] ∧ doneI (l ++ [b]) p a = true := by
  have ha : a.zero = false ∧ (dropH l p).any (after' p) = false := by unfold doneI at hd; simpa using hd
  have hb' : after' p b = true := by simpa [after'] using hb
  have h2 : doneI (l ++ [b]) p a = true := by
    unfold doneI
    rw [dropH_snoc_ne h, List.any_append]
    simp [hb']
  refine ⟨?_, h2⟩
  unfold outI
  rw [h2, hd]
  simp only [if_true, Bool.false_eq_true, if_false]
  unfold setH
  rw [dropH_snoc_ne h, ha.1]
  have e : placeN (dropH l p ++ [b]) p = (dropH l p).length := by
    unfold placeN
    rw [List.findIdx?_append, find_none ha.2]
    simp [hb']
  rw [e]
  simp
theorem outI_no {l : List Hold} {p : Proc} {a : Amt} {b : Hold} (h : b.proc ≠ p) (hd : doneI l p a = false) (hb : ¬ 0 < cmpP b.proc p) : outI (l ++ [b]) p a = outI l p a ++ [b] ∧ doneI (l ++ [b]) p a = false := by
  have ha : a.zero = false ∧ (dropH l p).any (after' p) = false := by unfold doneI at hd; simpa using hd
  have hb' : after' p b = false := by simpa [after'] using hb
  have h2 : doneI (l ++ [b]) p a = false := by
    unfold doneI
    rw [dropH_snoc_ne h, List.any_append]
    simp [hb', ha.1, ha.2]
  refine ⟨?_, h2⟩
  unfold outI
  rw [h2, hd]
  simp only [Bool.false_eq_true, if_false]
  exact dropH_snoc_ne h
theorem outI_end {l : List Hold} {p : Proc} {a : Amt} : setH l p a = if doneI l p a then outI l p a else outI l p a ++ [⟨p, a⟩] := by
  unfold outI
  cases hd : doneI l p a
  · have ha : a.zero = false ∧ (dropH l p).any (after' p) = false := by unfold doneI at hd; simpa using hd
    have e : placeN (dropH l p) p = (dropH l p).length := by
      unfold placeN
      rw [find_none ha.2]
      rfl
    simp [setH, ha.1, e]
  · simp
theorem outI_len (l : List Hold) (p : Proc) (a : Amt) : (outI l p a).length ≤ l.length + 1 := by
  have h1 : (dropH l p).length ≤ l.length := List.length_filter_le _ _
  have := setH_length l p a
  unfold outI
  split <;> omega
theorem outI_nil (p : Proc) (a : Amt) : outI [] p a = [] ∧ doneI [] p a = a.zero := by
  have h : doneI [] p a = a.zero := by simp [doneI, dropH]
  refine ⟨?_, h⟩
  unfold outI
  rw [h]
  cases hz : a.zero <;> simp [setH, dropH, hz]
theorem f139_ok (l : List Hold) (p : Proc) (a : Amt) (hl : l.length ≤ 1000000) : FnOK C0 139 [holdsV l, .agg p.c, .agg a.c] [] (holdsV (setH l p a)) [] := by
  refine FnOK.intro (fn := Tryz.f139) (c := Tryz.f139.body.getD .skip) (by kernel_rfl) (by kernel_rfl) (by kernel_rfl) (by kernel_rfl) (by simp [Tryz.f139]) (by simp [names]) ?_
  unfold Tryz.f139
  simp (disch := omega) only [go_sem]
  refine call_pure (f137_ok a) (by simp (disch := omega) only [go_sem]) rfl ?_
  simp (disch := omega) only [go_sem]
  have hd : ∀ i, (outI (l.take i) p a).length ≤ l.length + 1 := fun i => by have := outI_len (l.take i) p a; simp at this; omega
  refine loop_intro (α := Nat) (fun i => ⟨[(9, I i), (0, holdsV l), (4, .ptr 256 0), (5, .ptr 320 0), (8, B (doneI (l.take i) p a)), (7, .sl (.own 3136 0) 5 ((outI (l.take i) p a).map Hold.c))], [(256, p.c), (320, a.c)]⟩) (fun i => i ≤ (l).length ∧ True) (fun i => (l).length - i) 0 ⟨by omega, trivial⟩ ?_ ?_
  · refine Imp.weak ?_ ?_
    all_goals (try simp (disch := omega) only [go_sem, List.take_zero, (outI_nil p a).1, (outI_nil p a).2, List.map_nil])
    all_goals (try (repeat' (with_reducible apply And.intro)))
    all_goals (first | exact .nilOwn (by omega) | exact .nilNo (by omega) | exact .sl (by simp [doneI]) | exact .int (by simp [doneI]) | exact .eq (by simp [doneI]))
  rintro i ⟨hi, hP⟩ J hJ
  simp (disch := omega) only [go_sem]
  refine And.intro (fun hlt => ?_) (fun hge => ?_)
  rotate_left
  have hil : i = (l).length := by simp at hge; omega
  rotate_left
  obtain ⟨b, hb⟩ : ∃ b, (l)[i]? = some b := ⟨_, List.getElem?_eq_getElem (by simp at hlt; omega)⟩
  have hbm := List.mem_of_getElem? hb
  have hlt2 : i < (l).length := by simp at hlt; omega
  refine draw_mk 6 [([], [0]), ([], [9]), ([0, 1], [18, 19]), ([0, 1, 2], [20]), ([0, 1, 2, 3], [21]), ([], [4]), ([0, 1, 2, 3, 4, 5], [])] fol (by kernel_rfl) ?_
  simp (disch := omega) only [go_sem, List.getElem?_map, hb]
  · have hdi := hd i
    by_cases hb' : b.proc = p
    · obtain ⟨e1, e2⟩ := outI_eq (l := l.take i) (a := a) hb'
      simp (disch := omega) only [go_sem, hb', decide_true]
      refine hJ _ (i + 1) ⟨by simp at hlt; omega, trivial⟩ (by simp at hlt; omega) (Imp.weak ?_ ?_)
      all_goals (try simp (disch := omega) only [go_sem])
      all_goals (try (repeat' (with_reducible apply And.intro)))
      all_goals (first | exact .nilOwn (by omega) | exact .nilNo (by omega) | exact .sl (by simp [List.take_add_one, hb, e1, e2]) | exact .int (by simp [List.take_add_one, hb, e1, e2]) | exact .eq (by simp [List.take_add_one, hb, e1, e2]))

    · simp (disch := omega) only [go_sem, hb', decide_false]
      refine draw_mk 9 [([], [8]), ([0], [25]), ([0, 1], [26]), ([0, 1, 2], [0, 27]), ([0, 1, 2], [9, 27]), ([0, 1, 2, 3, 4], [28, 29, 27]), ([0, 1, 2, 3, 4, 5], [30, 27]), ([0, 1, 2, 3, 4, 5, 6], [31, 27]), ([0, 1, 2], [4, 27]), ([0, 1, 2, 3, 4, 5, 6, 7, 8], []), ([0, 1, 2, 3, 4, 5, 6, 7, 8, 9], []), ([0, 1, 2, 3, 4, 5, 6, 7, 8, 9, 10], [])] fol (by kernel_rfl) ?_
      simp (disch := omega) only [go_sem]
      cases hdo : doneI (l.take i) p a
      · simp (disch := omega) only [go_sem, List.getElem?_map, hb]
        first | ((with_reducible show callB _ _ _ _ _ _); refine call_pure (f79_ok b.proc p) (by simp (disch := omega) only [go_sem]) rfl ?_) | ((with_reducible show freeCallB _ _ _ _ _ _ _ _ _ _); refine freeCall_mk ⟨⟨[], [], []⟩, [], []⟩ (f79_ok b.proc p) (by simp (disch := omega) only [go_sem]) rfl rfl trivial (.inl rfl) ?_)
        simp (disch := omega) only [go_sem]
        by_cases hc : 0 < cmpP b.proc p
        · obtain ⟨e1, e2⟩ := outI_put (a := a) hb' hdo hc
          simp (disch := omega) only [go_sem, hc, decide_true, List.getElem?_map, hb]
          refine hJ _ (i + 1) ⟨by simp at hlt; omega, trivial⟩ (by simp at hlt; omega) (Imp.weak ?_ ?_)
          all_goals (try simp (disch := omega) only [go_sem])
          all_goals (try (repeat' (with_reducible apply And.intro)))
          all_goals (first | exact .nilOwn (by omega) | exact .nilNo (by omega) | exact .sl (by simp [List.take_add_one, hb, e1, e2, Hold.c]) | exact .int (by simp [List.take_add_one, hb, e1, e2, Hold.c]) | exact .eq (by simp [List.take_add_one, hb, e1, e2, Hold.c]))

        · obtain ⟨e1, e2⟩ := outI_no (a := a) hb' hdo hc
          simp (disch := omega) only [go_sem, hc, decide_false, List.getElem?_map, hb]
          refine hJ _ (i + 1) ⟨by simp at hlt; omega, trivial⟩ (by simp at hlt; omega) (Imp.weak ?_ ?_)
          all_goals (try simp (disch := omega) only [go_sem])
          all_goals (try (repeat' (with_reducible apply And.intro)))
          all_goals (first | exact .nilOwn (by omega) | exact .nilNo (by omega) | exact .sl (by simp [List.take_add_one, hb, e1, e2, Hold.c]) | exact .int (by simp [List.take_add_one, hb, e1, e2, Hold.c]) | exact .eq (by simp [List.take_add_one, hb, e1, e2, Hold.c]))

      · obtain ⟨e1, e2⟩ := outI_done (a := a) hb' hdo
        simp (disch := omega) only [go_sem, List.getElem?_map, hb]
        refine hJ _ (i + 1) ⟨by simp at hlt; omega, trivial⟩ (by simp at hlt; omega) (Imp.weak ?_ ?_)
        all_goals (try simp (disch := omega) only [go_sem])
        all_goals (try (repeat' (with_reducible apply And.intro)))
        all_goals (first | exact .nilOwn (by omega) | exact .nilNo (by omega) | exact .sl (by simp [List.take_add_one, hb, e1, e2, Hold.c]) | exact .int (by simp [List.take_add_one, hb, e1, e2, Hold.c]) | exact .eq (by simp [List.take_add_one, hb, e1, e2, Hold.c]))

  · subst hil
    have hdi := hd l.length
    have he := outI_end (l := l) (p := p) (a := a)
    rw [List.take_length] at hdi ⊢
    cases hdo : doneI l p a
    · rw [hdo] at he
      simp only [Bool.false_eq_true, if_false] at he
      simp (disch := omega) only [go_sem]
      refine ret_mk ⟨[], [], [3648]⟩ _ (by (try simp (disch := omega) only [go_sem, resVs, resV]) <;> rfl) ⟨rfl, rfl⟩ (by simp) ?_ trivial
      simp (disch := omega) only [go_sem, he]
      exact .sl (by simp [Hold.c])
    · rw [hdo] at he
      simp only [if_true] at he
      simp (disch := omega) only [go_sem]
      refine ret_mk ⟨[], [], [3136]⟩ _ (by (try simp (disch := omega) only [go_sem, resVs, resV]) <;> rfl) ⟨rfl, rfl⟩ (by simp) ?_ trivial
      simp (disch := omega) only [go_sem, he]
theorem f206_ok (q : Queue) : FnOK C0 206 [.agg q.c] [] (.tup [.agg ((headQ q).getD w0).c, B (headQ q).isSome]) [] := by
  refine FnOK.intro (fn := Tryz.f206) (c := Tryz.f206.body.getD .skip) (by kernel_rfl) (by kernel_rfl) (by kernel_rfl) (by kernel_rfl) (by simp [Tryz.f206]) (by simp [names]) ?_
  unfold Tryz.f206
  match hq : q.convs, hw : q.waits with
  | w :: l, _ =>
    have e : headQ q = some w := by simp [headQ, hq]
    have e1 : (0 < (l.length : Int) + 1) = True := by simp
    simp (disch := omega) only [go_sem, hq, e, e1, Option.isSome_some]
    refine ret_mk ⟨[], [], []⟩ _ (by (try simp (disch := omega) only [go_sem, resVs, resV]) <;> rfl) ⟨rfl, rfl⟩ (by simp) ?_ trivial
    simp (disch := omega) only [go_sem]
  | [], w :: l =>
    have e : headQ q = some w := by simp [headQ, hq, hw]
    have e1 : (0 < (l.length : Int) + 1) = True := by simp
    simp (disch := omega) only [go_sem, hq, hw, e, e1, Option.isSome_some]
    refine ret_mk ⟨[], [], []⟩ _ (by (try simp (disch := omega) only [go_sem, resVs, resV]) <;> rfl) ⟨rfl, rfl⟩ (by simp) ?_ trivial
    simp (disch := omega) only [go_sem]
  | [], [] =>
    have e : headQ q = none := by simp [headQ, hq, hw]
    simp (disch := omega) only [go_sem, hq, hw, e, Option.isSome_none, w0]
    refine ret_mk ⟨[], [], []⟩ _ (by (try simp (disch := omega) only [go_sem, resVs, resV]) <;> rfl) ⟨rfl, rfl⟩ (by simp) ?_ trivial
    simp (disch := omega) only [go_sem]
theorem f112_ok (r : Res) (l : List Hold) (p : Proc) (a : Amt) (hl : l.length ≤ 1000000) : FnOK C0 112 [.agg r.c, holdsV l, .agg p.c, .agg a.c] [] (B (roomH r l p a)) [] := by
  have h2 : (setH l p a).length ≤ 1000000 ∨ l.length = 1000000 := by have := setH_length l p a; omega
  refine FnOK.intro (fn := Tryz.f112) (c := Tryz.f112.body.getD .skip) (by kernel_rfl) (by kernel_rfl) (by kernel_rfl) (by kernel_rfl) (by simp [Tryz.f112]) (by simp [names]) ?_
  unfold Tryz.f112
  simp (disch := omega) only [go_sem]
  refine draw_mk 18 [([], [4]), ([], [1]), ([0, 1], [9, 10]), ([0, 1, 2], [11]), ([0, 1, 2, 3], [6, 12]), ([0, 1, 2, 3, 4], [13, 12]), ([0, 1, 2, 3, 4, 5], [12, 14]), ([0, 1, 2, 3, 4, 5, 6], [15]), ([0, 1, 2, 3, 4, 5, 6, 7], [4, 16]), ([0, 1, 2, 3, 4, 5, 6, 7], [7, 16]), ([0, 1, 2, 3, 4, 5, 6, 7, 8, 9], [17, 18, 16]), ([0, 1, 2, 3, 4, 5, 6, 7, 8, 9, 10], [16, 19]), ([0, 1, 2, 3, 4, 5, 6, 7, 8, 9, 10, 11], [20]), ([0, 1, 2, 3, 4, 5, 6, 7, 8, 9, 10, 11, 12], [4, 21]), ([0, 1, 2, 3, 4, 5, 6, 7, 8, 9, 10, 11, 12], [1, 21]), ([0, 1, 2, 3, 4, 5, 6, 7, 8, 9, 10, 11, 12], [6, 21]), ([0, 1, 2, 3, 4, 5, 6, 7, 8, 9, 10, 11, 12], [7, 21]), ([0, 1, 2, 3, 4, 5, 6, 7, 8, 9, 10, 11, 12, 14, 15, 16], [23, 24, 25, 21]), ([0, 1, 2, 3, 4, 5, 6, 7, 8, 9, 10, 11, 12, 13, 14, 15, 16, 17], []), ([0, 1, 2, 3, 4, 5, 6, 7, 8, 9, 10, 11, 12, 13, 14, 15, 16, 17, 18], []), ([0, 1, 2, 3, 4, 5, 6, 7, 8, 9, 10, 11, 12, 13, 14, 15, 16, 17, 18, 19], [])] fol (by kernel_rfl) ?_
  simp (disch := omega) only [go_sem]
  first | ((with_reducible show callB _ _ _ _ _ _); refine call_pure (f110_ok r l hl) (by simp (disch := omega) only [go_sem]) rfl ?_) | ((with_reducible show freeCallB _ _ _ _ _ _ _ _ _ _); refine freeCall_mk ⟨⟨[], [], []⟩, [], []⟩ (f110_ok r l hl) (by simp (disch := omega) only [go_sem]) rfl rfl trivial (.inl rfl) ?_)
  cases h1 : holdsOK r l
  · simp (disch := omega) only [go_sem]
    refine ret_mk ⟨[], [], []⟩ _ (by (try simp (disch := omega) only [go_sem, resVs, resV]) <;> rfl) ⟨rfl, rfl⟩ (by simp) ?_ trivial
    simp (disch := omega) only [go_sem]
    exact wb (by simp [roomH, h1])
  have h8 : l.length ≤ 8 := by simp [holdsOK] at h1; omega
  have h9 : (setH l p a).length ≤ 1000000 := by omega
  simp (disch := omega) only [go_sem]
  repeat' (first
    | (with_reducible refine And.intro (fun h => ?_) (fun h => ?_))
    | ((with_reducible show callB _ _ 77 _ _ _); refine call_pure (f77_ok p) ?_ rfl ?_; (focus (simp (disch := omega) only [go_sem]; done)); try simp (disch := omega) only [go_sem])
    | ((with_reducible show freeCallB _ _ 77 _ _ _ _ _ _ _); refine freeCall_mk ⟨⟨[], [], []⟩, [], []⟩ (f77_ok p) ?_ rfl rfl trivial (.inl rfl) ?_; (focus (simp (disch := omega) only [go_sem]; done)); try simp (disch := omega) only [go_sem])
    | ((with_reducible show callB _ _ 111 _ _ _); refine call_pure (f111_ok r a) ?_ rfl ?_; (focus (simp (disch := omega) only [go_sem]; done)); try simp (disch := omega) only [go_sem])
    | ((with_reducible show freeCallB _ _ 111 _ _ _ _ _ _ _); refine freeCall_mk ⟨⟨[], [], []⟩, [], []⟩ (f111_ok r a) ?_ rfl rfl trivial (.inl rfl) ?_; (focus (simp (disch := omega) only [go_sem]; done)); try simp (disch := omega) only [go_sem])
    | ((with_reducible show callB _ _ 139 _ _ _); refine call_pure (f139_ok l p a hl) ?_ rfl ?_; (focus (simp (disch := omega) only [go_sem]; done)); try simp (disch := omega) only [go_sem])
    | ((with_reducible show freeCallB _ _ 139 _ _ _ _ _ _ _); refine freeCall_mk ⟨⟨[], [], []⟩, [], []⟩ (f139_ok l p a hl) ?_ rfl rfl trivial (.inl rfl) ?_; (focus (simp (disch := omega) only [go_sem]; done)); try simp (disch := omega) only [go_sem])
    | ((with_reducible show callB _ _ 110 _ _ _); refine call_pure (f110_ok r (setH l p a) h9) ?_ rfl ?_; (focus (simp (disch := omega) only [go_sem]; done)); try simp (disch := omega) only [go_sem])
    | ((with_reducible show freeCallB _ _ 110 _ _ _ _ _ _ _); refine freeCall_mk ⟨⟨[], [], []⟩, [], []⟩ (f110_ok r (setH l p a) h9) ?_ rfl rfl trivial (.inl rfl) ?_; (focus (simp (disch := omega) only [go_sem]; done)); try simp (disch := omega) only [go_sem]))
  all_goals (refine ret_mk ⟨[], [], []⟩ _ (by (try simp (disch := omega) only [go_sem, resVs, resV]) <;> rfl) ⟨rfl, rfl⟩ (by simp) ?_ trivial)
  all_goals (try simp (disch := omega) only [go_sem])
  all_goals (refine wb ?_)
  all_goals (simp_all [roomH])
end Go.Rd
open Go Go.Abs Go.Proofs
set_option maxRecDepth 100000
namespace Go.Rd
theorem f168_ok (q : Queue) (h1 : q.holds.length ≤ 1000000) (h2 : q.waits.length ≤ 1000000) : FnOK C0 168 [.agg q.c] [] (B (valid q)) [] := by
  refine FnOK.intro (fn := Tryz.f168) (c := Tryz.f168.body.getD .skip) (by kernel_rfl) (by kernel_rfl) (by kernel_rfl) (by kernel_rfl) (by simp [Tryz.f168]) (by simp [names]) ?_
  unfold Tryz.f168
  simp (disch := omega) only [go_sem]
  refine call_pure (f167_ok q h1 h2) (by simp (disch := omega) only [go_sem]) rfl ?_
  cases hs : sound q
  · simp (disch := omega) only [go_sem]
    refine ret_mk ⟨[], [], []⟩ _ (by (try simp (disch := omega) only [go_sem, resVs, resV]) <;> rfl) ⟨rfl, rfl⟩ (by simp) ?_ trivial
    simp (disch := omega) only [go_sem]
    exact wb (by simp [valid, hs])
  simp (disch := omega) only [go_sem]
  refine call_pure (f206_ok q) (by simp (disch := omega) only [go_sem]) rfl ?_
  cases hh : headQ q with
  | none =>
    simp (disch := omega) only [go_sem, Option.isSome_none]
    refine ret_mk ⟨[], [], []⟩ _ (by (try simp (disch := omega) only [go_sem, resVs, resV]) <;> rfl) ⟨rfl, rfl⟩ (by simp) ?_ trivial
    simp (disch := omega) only [go_sem]
    exact wb (by simp [valid, hs, hh])
  | some w =>
    simp (disch := omega) only [go_sem, Option.isSome_some]
    refine call_pure (f112_ok q.res q.holds w.proc w.amt h1) (by simp (disch := omega) only [go_sem]) rfl ?_
    simp (disch := omega) only [go_sem]
    refine ret_mk ⟨[], [], []⟩ _ (by (try simp (disch := omega) only [go_sem, resVs, resV]) <;> rfl) ⟨rfl, rfl⟩ (by simp) ?_ trivial
    simp (disch := omega) only [go_sem]
    exact wb (by simp [valid, hs, hh])
theorem f127_ok (q : Queue) (h1 : q.holds.length ≤ 1000000) (h2 : q.waits.length ≤ 1000000) : FnOK C0 127 [.agg q.c] [] (B (valid q)) [] := by
  refine FnOK.intro (fn := Tryz.f127) (c := Tryz.f127.body.getD .skip) (by kernel_rfl) (by kernel_rfl) (by kernel_rfl) (by kernel_rfl) (by simp [Tryz.f127]) (by simp [names]) ?_
  unfold Tryz.f127
  simp (disch := omega) only [go_sem]
  refine call_pure (f167_ok q h1 h2) (by simp (disch := omega) only [go_sem]) rfl ?_
  cases hs : sound q
  · simp (disch := omega) only [go_sem]
    refine ret_mk ⟨[], [], []⟩ _ (by (try simp (disch := omega) only [go_sem, resVs, resV]) <;> rfl) ⟨rfl, rfl⟩ (by simp) ?_ trivial
    simp (disch := omega) only [go_sem]
    exact wb (by simp [valid, hs])
  simp (disch := omega) only [go_sem]
  refine call_pure (f168_ok q h1 h2) (by simp (disch := omega) only [go_sem]) rfl ?_
  simp (disch := omega) only [go_sem]
  refine ret_mk ⟨[], [], []⟩ _ (by (try simp (disch := omega) only [go_sem, resVs, resV]) <;> rfl) ⟨rfl, rfl⟩ (by simp) ?_ trivial
  simp (disch := omega) only [go_sem]
theorem sound_len {q : Queue} (h : Sound q) : allQ q ≤ 16 := by
  have h' := (sound_iff q).2 h
  simp only [sound, convsOK, waitsOK, Bool.and_eq_true, decide_eq_true_eq] at h'
  unfold allQ sizeQ
  omega
def advR (q : Queue) : Queue × List Hold := if sound q then advQ q else (q0, [])
theorem f174_ok (q : Queue) (h1 : q.holds.length ≤ 1000000) (h2 : q.convs.length ≤ 1000000) (h3 : q.waits.length ≤ 1000000) : FnOK C0 174 [.agg q.c] [] (.tup [.agg (advR q).1.c, holdsV (advR q).2]) [] := by
  refine FnOK.intro (fn := Tryz.f174) (c := Tryz.f174.body.getD .skip) (by kernel_rfl) (by kernel_rfl) (by kernel_rfl) (by kernel_rfl) (by simp [Tryz.f174]) (by simp [names]) ?_
  unfold Tryz.f174
  simp (disch := omega) only [go_sem]
  refine call_pure (f167_ok q h1 h3) (by simp (disch := omega) only [go_sem]) rfl ?_
  cases hs : sound q
  · have e : advR q = (q0, []) := by simp [advR, hs]
    simp (disch := omega) only [go_sem, e, q0]
    refine ret_mk ⟨[], [], []⟩ _ (by (try simp (disch := omega) only [go_sem, resVs, resV]) <;> rfl) ⟨rfl, rfl⟩ (by simp) ?_ trivial
    simp (disch := omega) only [go_sem]
    refine .tup (WeakArgs.weakL ?_)
    simp (disch := omega) only [go_sem]
    repeat' (with_reducible apply And.intro)
    all_goals (first | exact .nilNo (by omega) | exact .agg (WeakArgs.weakL (by simp (disch := omega) only [go_sem])))
  have e : advR q = advQ q := by simp [advR, hs]
  rw [e]
  simp (disch := omega) only [go_sem]
  refine call_pure (f136_ok q h1 h2 h3) (by simp (disch := omega) only [go_sem]) rfl ?_
  simp (disch := omega) only [go_sem]
  refine loop_intro (α := Queue × List Hold) (fun x => ⟨[(1, .ptr 64 0), (2, .ptr 128 0), (4, .sl (.own 3072 0) 5 (x.2.map Hold.c))], [(64, x.1.c), (128, q0.c)]⟩) (fun x => x.2.length + sizeQ x.1 = sizeQ q ∧ Sound x.1 ∧ (advQ x.1).1 = (advQ q).1 ∧ x.2 ++ (advQ x.1).2 = (advQ q).2) (fun x => sizeQ x.1) (q, []) ⟨by simp, (sound_iff q).1 hs, rfl, rfl⟩ ?_ ?_
  · refine Imp.weak ?_ ?_
    · simp (disch := omega) only [go_sem]
    · simp (disch := omega) only [go_sem, q0]
  rintro ⟨s, hs⟩ ⟨i1, i2, i3, i4⟩ J hJ
  replace i1 : hs.length + sizeQ s = sizeQ q := i1
  replace i2 : Sound s := i2
  replace i3 : (advQ s).1 = (advQ q).1 := i3
  replace i4 : hs ++ (advQ s).2 = (advQ q).2 := i4
  rw [advQ_def s] at i3 i4
  have hsl := sound_len i2
  have hlen : s.holds.length ≤ 1000000 ∧ s.waits.length ≤ 1000000 ∧ s.convs.length ≤ 1000000 := by unfold allQ sizeQ at hsl; omega
  simp (disch := omega) only [go_sem]
  refine call_pure (f168_ok s hlen.1 hlen.2.1) (by simp (disch := omega) only [go_sem]) rfl ?_
  have hvd : valid s = (match headQ s with | some w => !roomH s.res s.holds w.proc w.amt | none => true) := by
    have := (sound_iff s).2 i2
    unfold valid
    cases headQ s <;> simp [this]
  have fin : ∀ (P : Prop), True := fun _ => trivial
  cases hh : headQ s with
  | none =>
    simp only [hh] at i3 i4 hvd
    simp (disch := omega) only [go_sem, hvd]
    refine ret_mk ⟨[], [], [3072]⟩ _ (by (try simp (disch := omega) only [go_sem, resVs, resV]) <;> rfl) ⟨rfl, rfl⟩ (by simp [lk]) ?_ trivial
    simp (disch := omega) only [go_sem, ← i3, ← i4, List.append_nil]
  | some w =>
    simp only [hh] at i3 i4 hvd
    have hsz := head_size hh
    cases hr : roomH s.res s.holds w.proc w.amt
    · simp only [hr, Bool.false_eq_true, if_false, Bool.not_false] at i3 i4 hvd
      simp (disch := omega) only [go_sem, hvd]
      refine ret_mk ⟨[], [], [3072]⟩ _ (by (try simp (disch := omega) only [go_sem, resVs, resV]) <;> rfl) ⟨rfl, rfl⟩ (by simp [lk]) ?_ trivial
      simp (disch := omega) only [go_sem, ← i3, ← i4, List.append_nil]
    simp only [hr, if_true, Bool.not_true] at i3 i4 hvd
    have step : ∀ st', Imp ⟨C0, [], []⟩ st' ⟨[(1, .ptr 64 0), (2, .ptr 128 0), (4, .sl (.own 3072 0) 5 ((hs ++ [Hold.mk w.proc w.amt]).map Hold.c))], [(64, (popQ s w).c), (128, q0.c)]⟩ → J st' := fun st' h =>
      hJ st' (popQ s w, hs ++ [Hold.mk w.proc w.amt]) ⟨by simp; omega, sound_pop i2 hh hr, i3, by rw [← i4]; simp⟩ (by simp; omega) h
    have hbound : hs.length + 1 ≤ 4294967296 := by unfold sizeQ at i1; omega
    simp (disch := omega) only [go_sem, hvd]
    refine call_pure (f206_ok s) (by simp (disch := omega) only [go_sem]) rfl ?_
    cases hc : s.convs with
    | cons a l =>
      have hp : popQ s w = { s with holds := setH s.holds w.proc w.amt, convs := l } := by unfold popQ; simp only [hc]
      rw [hp] at step
      have z1 : (0 < (l.length : Int) + 1) = True := eq_true (by omega)
      have z2 : (l.map Wait.c).take (l.length + 1 - 1) = l.map Wait.c := List.take_of_length_le (by simp)
      simp (disch := omega) only [go_sem, hc, hh, z1, z2]
      refine call_pure (f139_ok s.holds w.proc w.amt hlen.1) (by simp (disch := omega) only [go_sem]) rfl ?_
      simp (disch := omega) only [go_sem, hc, hh, z1, z2]
      refine step _ (Imp.weak ?_ ?_)
      · simp (disch := omega) only [go_sem]
        exact .sl (by simp [Hold.c])
      · simp (disch := omega) only [go_sem, z2]
    | nil =>
      have hp : popQ s w = { s with holds := setH s.holds w.proc w.amt, waits := s.waits.drop 1 } := by unfold popQ; simp only [hc]
      rw [hp] at step
      have hw : 1 ≤ s.waits.length := by unfold sizeQ at hsz; rw [hc] at hsz; simp at hsz; omega
      have z2 : ((s.waits.map Wait.c).drop 1).take (s.waits.length - 1) = (s.waits.drop 1).map Wait.c := by rw [← List.map_drop]; exact List.take_of_length_le (by simp)
      simp (disch := omega) only [go_sem, hc, hh, z2]
      refine call_pure (f139_ok s.holds w.proc w.amt hlen.1) (by simp (disch := omega) only [go_sem]) rfl ?_
      simp (disch := omega) only [go_sem, hc, hh, z2]
      refine step _ (Imp.weak ?_ ?_)
      · simp (disch := omega) only [go_sem]
        exact .sl (by simp [Hold.c])
      · simp (disch := omega) only [go_sem, hc, z2, List.map_nil]


theorem f141_ok (q : Queue) (hs : Sound q) (h1 : q.holds.length ≤ 1000000) (h2 : q.convs.length ≤ 1000000) (h3 : q.waits.length ≤ 1000000) : FnOK C0 141 [.agg q.c] [] (.tup [.agg (endQ q).c, holdsV (advQ q).2, I 0]) [] := by
  refine FnOK.intro (fn := Tryz.f141) (c := Tryz.f141.body.getD .skip) (by kernel_rfl) (by kernel_rfl) (by kernel_rfl) (by kernel_rfl) (by simp [Tryz.f141]) (by simp [names]) ?_
  unfold Tryz.f141
  simp (disch := omega) only [go_sem]
  refine call_pure (f174_ok q h1 h2 h3) (by simp (disch := omega) only [go_sem]) rfl ?_
  have e : advR q = advQ q := by simp [advR, (sound_iff q).2 hs]
  have eg : (advQ q).1.gen = q.gen := (adv_res q).2
  rw [e]
  simp (disch := omega) only [go_sem]
  refine call_pure (f175_ok q.gen) (by simp (disch := omega) only [go_sem]) rfl ?_
  simp (disch := omega) only [go_sem]
  refine ret_mk ⟨[], [], []⟩ _ (by (try simp (disch := omega) only [go_sem, resVs, resV]) <;> rfl) ⟨rfl, rfl⟩ (by simp) ?_ trivial
  simp (disch := omega) only [go_sem]
  simp (disch := omega) only [go_sem, endQ, eg]
theorem has_q {q : Queue} (h : valid q = true) (p : Proc) : hasQ q p = hasP (procsQ q) p := by
  have hs := ((valid_iff q).1 h).1
  have hz : ∀ x ∈ q.holds, x.amt.zero = false := fun x hx => by
    have hs' := (sound_iff q).2 hs
    simp only [sound, Bool.and_eq_true] at hs'
    have := (holdsOK_iff q.res q.holds).1 (by simp_all)
    exact fits_nz (this.2.2.1 x hx).2
  have e1 : hasP (procsQ q) p = true ↔ inQ q p := by rw [← mem_procsQ]; simp [hasP]
  have e2 : hasQ q p = true ↔ inQ q p := by
    unfold hasQ inQ wantQ
    rw [Bool.or_eq_true, Option.isSome_map, List.find?_isSome]
    constructor
    · rintro (⟨w, hw, h2⟩ | h2)
      · have h3 : w.proc = p := by simpa using h2
        rcases List.mem_append.1 hw with h | h
        · exact .inr (.inl ⟨w, h, h3⟩)
        · exact .inr (.inr ⟨w, h, h3⟩)
      · exact .inl (getH_some (by simpa using h2))
    · rintro (⟨x, hx, h2⟩ | ⟨w, hw, h2⟩ | ⟨w, hw, h2⟩)
      · right
        unfold getH
        cases hf : q.holds.find? (fun h => decide (h.proc = p)) with
        | none => rw [List.find?_eq_none] at hf; exact absurd h2 (by simpa using hf x hx)
        | some y => simp [hz y (List.mem_of_find?_eq_some hf)]
      · exact .inl ⟨w, List.mem_append.2 (.inl hw), by simp [h2]⟩
      · exact .inl ⟨w, List.mem_append.2 (.inr hw), by simp [h2]⟩
  exact Bool.eq_iff_iff.2 (e2.trans e1.symm)
theorem f90_ok (q : Queue) (p : Proc) (h : allQ q ≤ 100) : FnOK C0 90 [.agg q.c, .agg p.c] [] (.tup [.agg (remQ q p).1.c, holdsV (remQ q p).2.1, I (remQ q p).2.2]) [] := by
  obtain ⟨h1, h2, h3⟩ := allQ_parts h
  refine FnOK.intro (fn := Tryz.f90) (c := Tryz.f90.body.getD .skip) (by kernel_rfl) (by kernel_rfl) (by kernel_rfl) (by kernel_rfl) (by simp [Tryz.f90]) (by simp [names]) ?_
  unfold Tryz.f90
  simp (disch := omega) only [go_sem]
  refine call_pure (f127_ok q h1 h3) (by simp (disch := omega) only [go_sem]) rfl ?_
  cases hv : valid q
  · have e : remQ q p = (q0, [], 2) := by simp [remQ, hv]
    simp (disch := omega) only [go_sem, Bool.not_false, e, q0]
    refine ret_mk ⟨[], [], []⟩ _ (by (try simp (disch := omega) only [go_sem, resVs, resV]) <;> rfl) ⟨rfl, rfl⟩ (by simp) ?_ trivial
    simp (disch := omega) only [go_sem]
    refine .tup (WeakArgs.weakL ?_)
    simp (disch := omega) only [go_sem]
    repeat' (with_reducible apply And.intro)
    all_goals (first | exact .nilNo (by omega) | exact .agg (WeakArgs.weakL (by simp (disch := omega) only [go_sem])))
  simp (disch := omega) only [go_sem]
  refine call_pure (f89_ok q p (by omega)) (by simp (disch := omega) only [go_sem]) rfl ?_
  rw [has_q hv p]
  cases hp : hasP (procsQ q) p
  · have e : remQ q p = (q0, [], 10) := by simp [remQ, hv, hp]
    simp (disch := omega) only [go_sem, Bool.not_false, e, q0]
    refine ret_mk ⟨[], [], []⟩ _ (by (try simp (disch := omega) only [go_sem, resVs, resV]) <;> rfl) ⟨rfl, rfl⟩ (by simp) ?_ trivial
    simp (disch := omega) only [go_sem]
    refine .tup (WeakArgs.weakL ?_)
    simp (disch := omega) only [go_sem]
    repeat' (with_reducible apply And.intro)
    all_goals (first | exact .nilNo (by omega) | exact .agg (WeakArgs.weakL (by simp (disch := omega) only [go_sem])))
  have e : remQ q p = (endQ (cutQ q p), (advQ (cutQ q p)).2, 0) := by simp [remQ, hv, hp]
  rw [e]
  simp (disch := omega) only [go_sem]
  refine call_pure (f136_ok q h1 h2 h3) (by simp (disch := omega) only [go_sem]) rfl ?_
  simp (disch := omega) only [go_sem]
  refine call_pure (f139_ok q.holds p ⟨0, 0⟩ h1) (by simp (disch := omega) only [go_sem]) rfl ?_
  simp (disch := omega) only [go_sem]
  refine call_pure (f140_ok q.convs p h2) (by simp (disch := omega) only [go_sem]) rfl ?_
  simp (disch := omega) only [go_sem]
  refine call_pure (f140_ok q.waits p h3) (by simp (disch := omega) only [go_sem]) rfl ?_
  simp (disch := omega) only [go_sem]
  have ha := cut_all q p
  obtain ⟨g1, g2, g3⟩ := allQ_parts (q := cutQ q p) (by omega)
  refine call_pure (f141_ok (cutQ q p) (sound_cut ((valid_iff q).1 hv).1 p) g1 g2 g3) (by simp (disch := omega) only [go_sem, cutQ]) rfl ?_
  simp (disch := omega) only [go_sem]
  refine ret_mk ⟨[], [], []⟩ _ (by (try simp (disch := omega) only [go_sem, resVs, resV]) <;> rfl) ⟨rfl, rfl⟩ (by simp) ?_ trivial
  simp (disch := omega) only [go_sem]
end Go.Rd
