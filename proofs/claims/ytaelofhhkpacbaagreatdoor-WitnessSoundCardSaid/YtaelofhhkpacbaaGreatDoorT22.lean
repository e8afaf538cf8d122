/- part 22 of the proof -/
import Derived.Test.YtaelofhhkpacbaaGreatDoorT21
set_option linter.all false
open Go Go.Abs Go.Proofs
set_option maxRecDepth 100000
namespace Go.Rd
theorem f61_own (l : List Proc) (hl : l.length ≤ 1000000) : FnOK C0 61 [procsV l] [] (procsO 0 (sortU l)) [] := by
  refine FnOK.intro (fn := Tryz.f61) (c := Tryz.f61.body.getD .skip) (by kernel_rfl) (by kernel_rfl) (by kernel_rfl) (by kernel_rfl) (by simp [Tryz.f61]) (by simp [names]) ?_
  unfold Tryz.f61
  simp (disch := omega) only [go_sem]
  refine loop_intro (α := Nat × List Proc) (fun x => ⟨[(4, I x.1), (3, .sl (.own 1728 0) 3 (x.2.map Proc.c)), (0, procsV l)], []⟩) (fun x => x.1 ≤ l.length ∧ x.2.length ≤ x.1 ∧ ascP x.2 ∧ ∀ p, p ∈ x.2 ↔ p ∈ l.take x.1) (fun x => l.length - x.1) (0, []) ⟨by simp, by simp, by simp [ascP], by simp⟩ ?_ ?_
  · refine Imp.weak ?_ ?_
    · simp (disch := omega) only [go_sem, List.map_nil]
    · simp (disch := omega) only [go_sem]
  rintro ⟨i, out⟩ ⟨hi, hol, hasc, hmem⟩ J hJ
  replace hi : i ≤ l.length := hi
  replace hol : out.length ≤ i := hol
  replace hasc : ascP out := hasc
  replace hmem : ∀ p, p ∈ out ↔ p ∈ l.take i := hmem
  simp (disch := omega) only [go_sem]
  refine And.intro (fun hlt => ?_) (fun hge => ?_)
  · have hlt' : i < l.length := by simp at hlt; omega
    obtain ⟨p, hp⟩ : ∃ p, l[i]? = some p := ⟨_, List.getElem?_eq_getElem hlt'⟩
    have ht := take_get hp
    simp (disch := omega) only [go_sem, List.getElem?_map, hp]
    refine call_lent [1728] (f19_ok out p (by omega)) (by simp (disch := omega) only [go_sem]) rfl trivial ?_
    cases hh : hasP out p
    rotate_left
    · have hin : p ∈ out := by simpa [hasP] using hh
      simp (disch := omega) only [go_sem]
      refine hJ _ (i + 1, out) ⟨by simp; omega, by simp; omega, hasc, fun x => ?_⟩ (by simp; omega) (Imp.weak (by simp (disch := omega) only [go_sem]) (by simp (disch := omega) only [go_sem]))
      rw [ht, List.mem_append, ← hmem x]
      simp only [List.mem_singleton]
      exact ⟨.inl, fun h => h.elim id fun e => by rw [e]; exact hin⟩
    have hnin : p ∉ out := by simpa [hasP] using hh
    have hbd : out.length + 1 ≤ 4294967296 := by omega
    simp (disch := omega) only [go_sem, List.getElem?_map, hp]
    refine loop_intro (α := Nat) (fun k => ⟨[(5, I k), (4, I i), (3, .sl (.own 1728 0) 3 ((midP out k p).map Proc.c)), (0, procsV l)], []⟩) (fun k => k ≤ out.length ∧ ∀ x ∈ out.drop k, cmpP p x < 0) (fun k => k) out.length ⟨by omega, by simp⟩ ?_ ?_
    · refine Imp.weak ?_ ?_
      · simp (disch := omega) only [go_sem]
        exact .sl (by simp [midP, Proc.c])
      · simp (disch := omega) only [go_sem]
    rintro k ⟨hk, hgt⟩ J2 hJ2
    have stop : (∀ x ∈ out.take k, cmpP x p < 0) → ∀ st', Imp ⟨C0, [], []⟩ st' ⟨[(4, I (i + 1 : Nat)), (3, .sl (.own 1728 0) 3 ((midP out k p).map Proc.c)), (0, procsV l)], []⟩ → J st' := fun hlt2 st' him => by
      refine hJ st' (i + 1, midP out k p) ⟨by simp; omega, by simp [midP_len out k p hk]; omega, ?_, fun x => ?_⟩ (by simp; omega) him
      · have h0 := hasc
        unfold ascP at h0 ⊢
        rw [← List.take_append_drop k out] at h0
        rw [List.pairwise_append] at h0
        show (midP out k p).Pairwise _
        unfold midP
        rw [List.pairwise_append]
        refine ⟨h0.1, List.pairwise_cons.2 ⟨hgt, h0.2.1⟩, fun a ha b hb => ?_⟩
        rcases List.mem_cons.1 hb with e | e
        · rw [e]; exact hlt2 a ha
        · exact h0.2.2 a ha b e
      · show x ∈ midP out k p ↔ x ∈ l.take (i + 1)
        rw [midP_mem, ht, List.mem_append, ← hmem x]
        simp
    refine draw_mk 12 [([], [5]), ([0], [28]), ([0, 1], [29]), ([0, 1, 2], [3, 30]), ([0, 1, 2], [5, 30]), ([0, 1, 2, 4], [32, 30]), ([0, 1, 2, 3, 4, 5], [31, 33, 30]), ([0, 1, 2, 3, 4, 5, 6], [34, 30]), ([0, 1, 2], [3, 30]), ([0, 1, 2], [5, 30]), ([0, 1, 2, 8, 9], [36, 37, 30]), ([0, 1, 2, 8, 9, 10], [38, 30]), ([0, 1, 2, 3, 4, 5, 6, 7, 8, 9, 10, 11], []), ([0, 1, 2, 3, 4, 5, 6, 7, 8, 9, 10, 11, 12], []), ([0, 1, 2, 3, 4, 5, 6, 7, 8, 9, 10, 11, 12, 13], [])] fol (by kernel_rfl) ?_
    cases k with
    | zero =>
      have e0 : (0 < ((0 : Nat) : Int)) = False := by simp
      simp (disch := omega) only [go_sem, e0, decide_false]
      exact stop (by simp) _ (Imp.weak (by simp (disch := omega) only [go_sem]) (by simp (disch := omega) only [go_sem]))
    | succ k =>
      have e0 : (0 < (((k + 1 : Nat)) : Int)) = True := eq_true (by omega)
      have e1 : (0 < (k : Int) + 1) = True := eq_true (by omega)
      have e2 : ((k : Int) + 1 - 1) = (k : Int) := by omega
      obtain ⟨x, hx⟩ : ∃ x, out[k]? = some x := ⟨_, List.getElem?_eq_getElem (by omega)⟩
      have g1 := midP_get out (k + 1) p hk
      have g2 := midP_prev out k p hk
      rw [hx] at g2
      have hml := midP_len out (k + 1) p hk
      have z1 : k < (midP out (k + 1) p).length := by omega
      have z2 : k + 1 < (midP out (k + 1) p).length := by omega
      simp (disch := omega) only [go_sem, e0, e1, e2, List.getElem?_map, g1, g2, List.length_map, hml]
      refine call_pure (f79_ok x p) (by simp (disch := omega) only [go_sem]) rfl ?_
      simp (disch := omega) only [go_sem]
      by_cases hc : 0 < cmpP x p
      · have e3 : (0 < cmpP x p) = True := eq_true hc
        have e4 : (k = k + 1) = False := eq_false (by omega)
        simp (disch := omega) only [go_sem, e2, e3, List.getElem?_map, g1, g2, List.length_map, hml, List.length_set, List.getElem?_set, e4]
        refine hJ2 _ k ⟨by omega, fun y hy => ?_⟩ (by omega) (Imp.weak ?_ (by simp (disch := omega) only [go_sem]))
        · rw [List.drop_eq_getElem_cons (by omega), get_eq hx] at hy
          rcases List.mem_cons.1 hy with e | e
          · subst e; have := cmpP_swap y p; omega
          · exact hgt y e
        · simp (disch := omega) only [go_sem]
          refine .sl ?_
          rw [← midP_swap hx, List.map_set, List.map_set]
          rfl
      · have e3 : (0 < cmpP x p) = False := eq_false hc
        simp (disch := omega) only [go_sem, e3, decide_false]
        refine stop (fun y hy => ?_) _ (Imp.weak (by simp (disch := omega) only [go_sem]) (by simp (disch := omega) only [go_sem]))
        have hxm : x ∈ out := List.mem_of_getElem? hx
        have hxp : cmpP x p < 0 := by
          have : cmpP x p ≠ 0 := fun e => hnin (by rw [← cmpP_eq e]; exact hxm)
          omega
        rw [take_get hx] at hy
        rcases List.mem_append.1 hy with e | e
        · have h0 := hasc
          unfold ascP at h0
          rw [← List.take_append_drop k out, List.pairwise_append] at h0
          have hd : out.drop k = x :: out.drop (k + 1) := by rw [List.drop_eq_getElem_cons (by omega), get_eq hx]
          exact cmpP_trans (h0.2.2 y e x (by rw [hd]; simp)) hxp
        · rw [List.mem_singleton.1 e]; exact hxp
  · have hil : i = l.length := by simp at hge; omega
    subst hil
    rw [List.take_length] at hmem
    have e : out = sortU l := asc_ext hasc (asc_sortU l) fun x => by rw [hmem, mem_sortU]
    refine ret_mk ⟨[(1728, 0)], [], []⟩ _ (by (try simp (disch := omega) only [go_sem, resVs, resV]) <;> rfl) ⟨rfl, rfl⟩ (by simp) ?_ trivial
    simp (disch := omega) only [go_sem, e]
theorem f60_ok (l : List Queue) (h1 : l.length ≤ 100) (h2 : ∀ q ∈ l, allQ q ≤ 100) : FnOK C0 60 [queuesV l] [] (procsO 0 (procsQs l)) [] := by
  refine FnOK.intro (fn := Tryz.f60) (c := Tryz.f60.body.getD .skip) (by kernel_rfl) (by kernel_rfl) (by kernel_rfl) (by kernel_rfl) (by simp [Tryz.f60]) (by simp [names]) ?_
  unfold Tryz.f60
  simp (disch := omega) only [go_sem]
  refine loop_intro (α := Nat) (fun i => ⟨[(4, I i), (0, queuesV l), (3, .sl (.own 1088 0) 3 (((l.take i).flatMap procsQ).map Proc.c))], []⟩) (fun i => i ≤ (l).length ∧ True) (fun i => (l).length - i) 0 ⟨by omega, trivial⟩ ?_ ?_
  · refine Imp.weak ?_ ?_
    all_goals (try simp (disch := omega) only [go_sem])
    all_goals (try (repeat' (with_reducible apply And.intro)))
    all_goals (first | exact .nilOwn (by omega) | exact .nilNo (by omega) | exact .sl (by simp []) | exact .int (by simp []) | exact .eq (by simp []))
  rintro i ⟨hi, hP⟩ J hJ
  simp (disch := omega) only [go_sem]
  refine And.intro (fun hlt => ?_) (fun hge => ?_)
  rotate_left
  have hil : i = (l).length := by simp at hge; omega
  rotate_left
  obtain ⟨b, hb⟩ : ∃ b, (l)[i]? = some b := ⟨_, List.getElem?_eq_getElem (by simp at hlt; omega)⟩
  have hbm := List.mem_of_getElem? hb
  have hlt2 : i < (l).length := by simp at hlt; omega
  simp (disch := omega) only [go_sem, List.getElem?_map, hb]
  · have hfl := flat_len (l := l.take i) fun q hq => h2 q (List.mem_of_mem_take hq)
    have hq := procsQ_len b
    have hb2 := h2 b hbm
    have hbd : ((l.take i).flatMap procsQ).length + (procsQ b).length ≤ 4294967296 := by simp only [List.length_take] at hfl; omega
    refine call_pure (f107_ok b (by omega)) (by simp (disch := omega) only [go_sem]) rfl ?_
    simp (disch := omega) only [go_sem]
    refine hJ _ (i + 1) ⟨by simp at hlt; omega, trivial⟩ (by simp at hlt; omega) (Imp.weak ?_ ?_)
    all_goals (try simp (disch := omega) only [go_sem])
    all_goals (try (repeat' (with_reducible apply And.intro)))
    all_goals (first | exact .nilOwn (by omega) | exact .nilNo (by omega) | exact .sl (by simp [List.take_add_one, hb]) | exact .int (by simp [List.take_add_one, hb]) | exact .eq (by simp [List.take_add_one, hb]))

  · subst hil
    have hfl := flat_len h2
    refine callB_fz [1088] ⟨⟨[], [], []⟩, [(0, 1216)], []⟩ (f61_own (l.flatMap procsQ) (by omega)) (by simp (disch := omega) only [go_sem, List.take_length]) rfl trivial (.inl rfl) ?_
    simp (disch := omega) only [go_sem]
    refine ret_mk ⟨[(1216, 0)], [], []⟩ _ (by (try simp (disch := omega) only [go_sem, resVs, resV]) <;> rfl) ⟨rfl, rfl⟩ (by simp) ?_ trivial
    simp (disch := omega) only [go_sem, procsQs]
theorem f29_ok (s : WS) (h : Few s) : FnOK C0 29 [.agg s.c] [] (procsV (procsS s)) [] := by
  have hq := procsQs_len h.aq
  have h1 := h.nq
  have h2 := h.nn
  have hbd : (procsQs s.queues).length ≤ 4294967296 := by omega
  refine FnOK.intro (fn := Tryz.f29) (c := Tryz.f29.body.getD .skip) (by kernel_rfl) (by kernel_rfl) (by kernel_rfl) (by kernel_rfl) (by simp [Tryz.f29]) (by simp [names]) ?_
  unfold Tryz.f29
  simp (disch := omega) only [go_sem]
  refine callB_mk ⟨⟨[], [], []⟩, [(0, 448)], []⟩ (f60_ok s.queues h.nq h.aq) (by simp (disch := omega) only [go_sem]) rfl trivial (.inl rfl) ?_
  simp (disch := omega) only [go_sem]
  refine loop_intro (α := Nat) (fun i => ⟨[(4, I i), (1, .ptr 64 0), (3, .sl (.own 1472 0) 3 ((procsQs s.queues ++ procsN (s.needs.take i)).map Proc.c))], [(64, s.c)]⟩) (fun i => i ≤ (s.needs).length ∧ True) (fun i => (s.needs).length - i) 0 ⟨by omega, trivial⟩ ?_ ?_
  · refine Imp.ren ⟨[(448, 1472)], [(64, 64)], []⟩ ⟨rfl, rfl⟩ (by simp [lk]) ?_ ?_
    all_goals (try simp (disch := omega) only [go_sem])
    all_goals (try (repeat' (with_reducible apply And.intro)))
    all_goals (first | exact .nilOwn (by omega) | exact .nilNo (by omega) | exact .sl (by simp [procsN]) | exact .int (by simp [procsN]) | exact .eq (by simp [procsN]))
  rintro i ⟨hi, hP⟩ J hJ
  simp (disch := omega) only [go_sem]
  refine And.intro (fun hlt => ?_) (fun hge => ?_)
  rotate_left
  have hil : i = (s.needs).length := by simp at hge; omega
  rotate_left
  obtain ⟨b, hb⟩ : ∃ b, (s.needs)[i]? = some b := ⟨_, List.getElem?_eq_getElem (by simp at hlt; omega)⟩
  have hbm := List.mem_of_getElem? hb
  have hlt2 : i < (s.needs).length := by simp at hlt; omega
  simp (disch := omega) only [go_sem, List.getElem?_map, hb]
  · have hbd2 : (procsQs s.queues).length + (procsN (s.needs.take i)).length + 1 ≤ 4294967296 := by simp [procsN]; omega
    simp (disch := omega) only [go_sem, procsN]
    refine hJ _ (i + 1) ⟨by simp at hlt; omega, trivial⟩ (by simp at hlt; omega) (Imp.weak ?_ ?_)
    all_goals (try simp (disch := omega) only [go_sem])
    all_goals (try (repeat' (with_reducible apply And.intro)))
    all_goals (first | exact .nilOwn (by omega) | exact .nilNo (by omega) | exact .sl (by simp [procsN, List.take_add_one, hb, Proc.c]) | exact .int (by simp [procsN, List.take_add_one, hb, Proc.c]) | exact .eq (by simp [procsN, List.take_add_one, hb, Proc.c]))

  · subst hil
    refine call_frz [1472] (f61_ok (procsQs s.queues ++ procsN s.needs) (by simp [procsN]; omega)) (by simp (disch := omega) only [go_sem, List.take_length]) rfl ?_
    simp (disch := omega) only [go_sem]
    refine ret_mk ⟨[], [], []⟩ _ (by (try simp (disch := omega) only [go_sem, resVs, resV]) <;> rfl) ⟨rfl, rfl⟩ (by simp) ?_ trivial
    simp (disch := omega) only [go_sem, procsS]
theorem f81_ok (l : List Queue) (name : Bs) (hl : l.length ≤ 1000000) : FnOK C0 81 [queuesV l, .v (.string (str name))] [] (I (match l.findIdx? (fun q => q.res.name == name) with | some i => i | none => -1)) [] := by
  refine FnOK.intro (fn := Tryz.f81) (c := Tryz.f81.body.getD .skip) (by kernel_rfl) (by kernel_rfl) (by kernel_rfl) (by kernel_rfl) (by simp [Tryz.f81]) (by simp [names]) ?_
  unfold Tryz.f81
  simp (disch := omega) only [go_sem]
  refine loop_intro (α := Nat) (fun i => ⟨[(5, I i), (0, queuesV l), (1, .v (.string (str name)))], []⟩) (fun i => i ≤ (l).length ∧ (l.take i).find? (fun q => q.res.name == name) = none) (fun i => (l).length - i) 0 ⟨by omega, rfl⟩ ?_ ?_
  · refine Imp.weak ?_ ?_
    all_goals (try simp (disch := omega) only [go_sem])
    all_goals (try (repeat' (with_reducible apply And.intro)))
    all_goals (first | exact .nilOwn (by omega) | exact .nilNo (by omega) | exact .sl (by simp []) | exact .int (by simp []) | exact .eq (by simp []))
  rintro i ⟨hi, hP⟩ J hJ
  simp (disch := omega) only [go_sem]
  refine And.intro (fun hlt => ?_) (fun hge => ?_)
  rotate_left
  have hil : i = (l).length := by simp at hge; omega
  rotate_left
  obtain ⟨b, hb⟩ : ∃ b, (l)[i]? = some b := ⟨_, List.getElem?_eq_getElem (by simp at hlt; omega)⟩
  have hbm := List.mem_of_getElem? hb
  have hlt2 : i < (l).length := by simp at hlt; omega
  simp (disch := omega) only [go_sem, List.getElem?_map, hb]
  · refine And.intro (fun h => ?_) (fun h => ?_)
    · have e := idx_take hP b hb (by simpa using h)
      simp (disch := omega) only [go_sem, e]
      refine ret_mk ⟨[], [], []⟩ _ (by (try simp (disch := omega) only [go_sem, resVs, resV]) <;> rfl) ⟨rfl, rfl⟩ (by simp) ?_ trivial
      simp (disch := omega) only [go_sem]
    · refine hJ _ (i + 1) ⟨by simp at hlt; omega, (by rw [find_take hP hb]; simp at h; simp [h])⟩ (by simp at hlt; omega) (Imp.weak (by simp (disch := omega) only [go_sem]) (by simp (disch := omega) only [go_sem]))
  · subst hil
    rw [List.take_length] at hP
    have e : l.findIdx? (fun q => q.res.name == name) = none := by
      rw [List.findIdx?_eq_none_iff]
      rw [List.find?_eq_none] at hP
      intro x hx
      simpa using hP x hx
    simp (disch := omega) only [go_sem, e]
    refine ret_mk ⟨[], [], []⟩ _ (by (try simp (disch := omega) only [go_sem, resVs, resV]) <;> rfl) ⟨rfl, rfl⟩ (by simp) ?_ trivial
    simp (disch := omega) only [go_sem]
def waitsF (l : List Queue) (p : Proc) (name : Bs) : Bool := match l.find? (fun q => q.res.name == name) with
  | some q => (wantQ q p).isSome
  | none => false
theorem f43_ok (s : WS) (p : Proc) (h : Few s) : FnOK C0 43 [.agg s.c, .agg p.c] [] (.tup [.agg ((s.needs.find? fun n => decide (n.proc = p)).getD n0).c, B (s.needs.find? fun n => decide (n.proc = p)).isSome]) [] := by
  have hn := h.nn
  refine FnOK.intro (fn := Tryz.f43) (c := Tryz.f43.body.getD .skip) (by kernel_rfl) (by kernel_rfl) (by kernel_rfl) (by kernel_rfl) (by simp [Tryz.f43]) (by simp [names]) ?_
  unfold Tryz.f43
  simp (disch := omega) only [go_sem]
  refine loop_intro (α := Nat) (fun i => ⟨[(6, I i), (2, .ptr 128 0), (3, .ptr 192 0), (4, .ptr 256 0)], [(128, s.c), (192, p.c), (256, n0.c)]⟩) (fun i => i ≤ (s.needs).length ∧ (s.needs.take i).find? (fun n => decide (n.proc = p)) = none) (fun i => (s.needs).length - i) 0 ⟨by omega, rfl⟩ ?_ ?_
  · refine Imp.weak ?_ ?_
    all_goals (try simp (disch := omega) only [go_sem, n0, Expr.c_def, Expr.k, Expr.atom, Expr.kids, a0, p0])
    all_goals (try (repeat' (with_reducible apply And.intro)))
    all_goals (first | exact .nilOwn (by omega) | exact .nilNo (by omega) | exact .sl (by simp [n0]) | exact .int (by simp [n0]) | exact .eq (by simp [n0]))
  rintro i ⟨hi, hP⟩ J hJ
  simp (disch := omega) only [go_sem]
  refine And.intro (fun hlt => ?_) (fun hge => ?_)
  rotate_left
  have hil : i = (s.needs).length := by simp at hge; omega
  rotate_left
  obtain ⟨b, hb⟩ : ∃ b, (s.needs)[i]? = some b := ⟨_, List.getElem?_eq_getElem (by simp at hlt; omega)⟩
  have hbm := List.mem_of_getElem? hb
  have hlt2 : i < (s.needs).length := by simp at hlt; omega
  refine draw_mk 7 [([], [2]), ([0], [14]), ([], [6]), ([0, 1, 2], [15, 16]), ([0, 1, 2, 3], [17]), ([0, 1, 2, 3, 4], [18]), ([], [3]), ([0, 1, 2, 3, 4, 5, 6], [])] fol (by kernel_rfl) ?_
  simp (disch := omega) only [go_sem, List.getElem?_map, hb]
  · refine And.intro (fun h => ?_) (fun h => ?_)
    · have e : (s.needs.find? fun n => decide (n.proc = p)) = some b := find_at hP hb (by simpa using h)
      simp (disch := omega) only [go_sem, e, List.getElem?_map, hb, Option.isSome_some, Option.getD_some]
      refine ret_mk ⟨[], [], []⟩ _ (by (try simp (disch := omega) only [go_sem, resVs, resV]) <;> rfl) ⟨rfl, rfl⟩ (by simp) ?_ trivial
      simp (disch := omega) only [go_sem]
    · refine hJ _ (i + 1) ⟨by simp at hlt; omega, (by rw [find_take hP hb]; simp at h; simp [h])⟩ (by simp at hlt; omega) (Imp.weak (by simp (disch := omega) only [go_sem]) (by simp (disch := omega) only [go_sem]))
  · subst hil
    rw [List.take_length] at hP
    simp (disch := omega) only [go_sem, hP, Option.isSome_none, Option.getD_none, n0, Expr.k, Expr.atom, Expr.kids, a0, p0]
    refine ret_mk ⟨[], [], []⟩ _ (by (try simp (disch := omega) only [go_sem, resVs, resV]) <;> rfl) ⟨rfl, rfl⟩ (by simp) ?_ trivial
    simp (disch := omega) only [go_sem]
    refine .tup (WeakArgs.weakL ?_)
    simp (disch := omega) only [go_sem]
    repeat' (with_reducible apply And.intro)
    all_goals (first | exact .nilNo (by omega) | exact .agg (WeakArgs.weakL (by simp (disch := omega) only [go_sem])))
end Go.Rd
open Go Go.Abs Go.Proofs
set_option maxRecDepth 100000
namespace Go.Rd
theorem f76_ok (l : List Queue) (ha : ∀ q ∈ l, allQ q ≤ 100) : FnOK C0 76 [queuesV l] [] (B (queuesOK l)) [] := by
  refine FnOK.intro (fn := Tryz.f76) (c := Tryz.f76.body.getD .skip) (by kernel_rfl) (by kernel_rfl) (by kernel_rfl) (by kernel_rfl) (by simp [Tryz.f76]) (by simp [names]) ?_
  unfold Tryz.f76
  by_cases hq : 8 < l.length
  · have e1 : (8 < (l.length : Int)) = True := eq_true (by omega)
    have e : queuesOK l = false := by simp [queuesOK]; omega
    simp (disch := omega) only [go_sem, e1]
    refine ret_mk ⟨[], [], []⟩ _ (by (try simp (disch := omega) only [go_sem, resVs, resV]) <;> rfl) ⟨rfl, rfl⟩ (by simp) ?_ trivial
    simp (disch := omega) only [go_sem]
    exact wb (by simp [e])
  have e1 : (8 < (l.length : Int)) = False := eq_false (by omega)
  simp (disch := omega) only [go_sem, e1, decide_false]
  refine loop_intro (α := Nat) (fun i => ⟨[(3, I i), (0, queuesV l)], []⟩) (fun i => i ≤ (l).length ∧ allAt (queuePos l) (l.take i) = true) (fun i => (l).length - i) 0 ⟨by omega, rfl⟩ ?_ ?_
  · refine Imp.weak ?_ ?_
    all_goals (try simp (disch := omega) only [go_sem])
    all_goals (try (repeat' (with_reducible apply And.intro)))
    all_goals (first | exact .nilOwn (by omega) | exact .nilNo (by omega) | exact .sl (by simp []) | exact .int (by simp []) | exact .eq (by simp []))
  rintro i ⟨hi, hP⟩ J hJ
  simp (disch := omega) only [go_sem]
  refine And.intro (fun hlt => ?_) (fun hge => ?_)
  rotate_left
  have hil : i = (l).length := by simp at hge; omega
  rotate_left
  obtain ⟨b, hb⟩ : ∃ b, (l)[i]? = some b := ⟨_, List.getElem?_eq_getElem (by simp at hlt; omega)⟩
  have hbm := List.mem_of_getElem? hb
  have hlt2 : i < (l).length := by simp at hlt; omega
  refine draw_mk 23 [([], [0]), ([], [3]), ([0, 1], [13, 14]), ([0, 1, 2], [15]), ([0, 1, 2, 3], [16]), ([0, 1, 2, 3, 4], [17]), ([0, 1, 2, 3, 4, 5], [18]), ([0, 1, 2, 3, 4, 5, 6], [3, 19]), ([0, 1, 2, 3, 4, 5, 6, 7], [20, 19]), ([0, 1, 2, 3, 4, 5, 6, 7, 8], [21, 19]), ([0, 1, 2, 3, 4, 5, 6, 7, 8, 9], [0, 22]), ([0, 1, 2, 3, 4, 5, 6, 7, 8, 9], [3, 22]), ([0, 1, 2, 3, 4, 5, 6, 7, 8, 9, 11], [24, 22]), ([0, 1, 2, 3, 4, 5, 6, 7, 8, 9, 10, 11, 12], [23, 25, 22]), ([0, 1, 2, 3, 4, 5, 6, 7, 8, 9, 10, 11, 12, 13], [26, 22]), ([0, 1, 2, 3, 4, 5, 6, 7, 8, 9, 10, 11, 12, 13, 14], [27, 22]), ([0, 1, 2, 3, 4, 5, 6, 7, 8, 9, 10, 11, 12, 13, 14, 15], [28, 22]), ([0, 1, 2, 3, 4, 5, 6, 7, 8, 9], [0, 22]), ([0, 1, 2, 3, 4, 5, 6, 7, 8, 9], [3, 22]), ([0, 1, 2, 3, 4, 5, 6, 7, 8, 9, 17, 18], [30, 31, 22]), ([0, 1, 2, 3, 4, 5, 6, 7, 8, 9, 17, 18, 19], [32, 22]), ([0, 1, 2, 3, 4, 5, 6, 7, 8, 9, 17, 18, 19, 20], [33, 22]), ([0, 1, 2, 3, 4, 5, 6, 7, 8, 9, 17, 18, 19, 20, 21], [34, 22]), ([0, 1, 2, 3, 4, 5, 6, 7, 8, 9, 10, 11, 12, 13, 14, 15, 16, 17, 18, 19, 20, 21, 22], []), ([0, 1, 2, 3, 4, 5, 6, 7, 8, 9, 10, 11, 12, 13, 14, 15, 16, 17, 18, 19, 20, 21, 22, 23], []), ([0, 1, 2, 3, 4, 5, 6, 7, 8, 9, 10, 11, 12, 13, 14, 15, 16, 17, 18, 19, 20, 21, 22, 23, 24], [])] fol (by kernel_rfl) ?_
  simp (disch := omega) only [go_sem, List.getElem?_map, hb]
  · have hab := allQ_parts (ha b hbm)
    have bad : queuePos l i b = false → queuesOK l = false := fun h => by simp only [queuesOK, allAt_false hb h, Bool.and_false]
    have good : queuePos l i b = true → allAt (queuePos l) (l.take (i + 1)) = true := fun h => by rw [allAt_take hb, hP, h]; rfl
    first | ((with_reducible show callB _ _ _ _ _ _); refine call_pure (f127_ok b hab.1 hab.2.2) (by simp (disch := omega) only [go_sem]) rfl ?_) | ((with_reducible show freeCallB _ _ _ _ _ _ _ _ _ _); refine freeCall_mk ⟨⟨[], [], []⟩, [], []⟩ (f127_ok b hab.1 hab.2.2) (by simp (disch := omega) only [go_sem]) rfl rfl trivial (.inl rfl) ?_)
    cases hv : valid b
    · simp (disch := omega) only [go_sem]
      refine ret_mk ⟨[], [], []⟩ _ (by (try simp (disch := omega) only [go_sem, resVs, resV]) <;> rfl) ⟨rfl, rfl⟩ (by simp) ?_ trivial
      simp (disch := omega) only [go_sem]
      exact wb (by rw [bad (by simp [queuePos, hv])])
    by_cases hi0 : i = 0
    · subst hi0
      simp (disch := omega) only [go_sem]
      refine hJ _ 1 ⟨by simp at hlt; omega, good (by simp [queuePos, hv])⟩ (by simp at hlt; omega) (Imp.weak (by simp (disch := omega) only [go_sem]) (by simp (disch := omega) only [go_sem]))
    · have hi1 : (0 < (i : Int)) = True := eq_true (by omega)
      have hi2 : ((i : Int) - 1) = ((i - 1 : Nat) : Int) := by omega
      obtain ⟨a, ha'⟩ : ∃ a, l[i - 1]? = some a := ⟨_, List.getElem?_eq_getElem (by simp at hlt; omega)⟩
      have had : l.getD (i - 1) q0 = a := by simp [List.getD, ha']
      simp (disch := omega) only [go_sem, hi1, hi2, List.getElem?_map, ha', hb]
      refine And.intro (fun hh => ?_) (fun hh => ?_)
      · refine ret_mk ⟨[], [], []⟩ _ (by (try simp (disch := omega) only [go_sem, resVs, resV]) <;> rfl) ⟨rfl, rfl⟩ (by simp) ?_ trivial
        simp (disch := omega) only [go_sem]
        exact wb (by rw [bad (by simp only [queuePos, had, hv]; simp [hi0]; simpa [lessB] using hh)])
      · refine hJ _ (i + 1) ⟨by simp at hlt; omega, good (by simp only [queuePos, had, hv]; simp [hi0]; simpa [lessB] using hh)⟩ (by simp at hlt; omega) (Imp.weak (by simp (disch := omega) only [go_sem]) (by simp (disch := omega) only [go_sem]))
  subst hil
  rw [List.take_length] at hP
  have hqs : queuesOK l = true := by simp [queuesOK, hP]; omega
  refine ret_mk ⟨[], [], []⟩ _ (by (try simp (disch := omega) only [go_sem, resVs, resV]) <;> rfl) ⟨rfl, rfl⟩ (by simp) ?_ trivial
  simp (disch := omega) only [go_sem]
  exact wb (by rw [hqs])
theorem f41_ok (s : WS) (h : Few s) : FnOK C0 41 [.agg s.c] [] (B (validS s)) [] := by
  refine FnOK.intro (fn := Tryz.f41) (c := Tryz.f41.body.getD .skip) (by kernel_rfl) (by kernel_rfl) (by kernel_rfl) (by kernel_rfl) (by simp [Tryz.f41]) (by simp [names]) ?_
  unfold Tryz.f41
  simp (disch := omega) only [go_sem]
  refine call_pure (f76_ok s.queues h.aq) (by simp (disch := omega) only [go_sem]) rfl ?_
  cases hqs : queuesOK s.queues
  · simp (disch := omega) only [go_sem]
    refine ret_mk ⟨[], [], []⟩ _ (by (try simp (disch := omega) only [go_sem, resVs, resV]) <;> rfl) ⟨rfl, rfl⟩ (by simp) ?_ trivial
    simp (disch := omega) only [go_sem]
    exact wb (by simp [validS, hqs])
  by_cases hn : 8 < s.needs.length
  · have e2 : (8 < (s.needs.length : Int)) = True := eq_true (by omega)
    have e : validS s = false := by simp [validS, needsOK]; omega
    simp (disch := omega) only [go_sem, e2, decide_true]
    refine ret_mk ⟨[], [], []⟩ _ (by (try simp (disch := omega) only [go_sem, resVs, resV]) <;> rfl) ⟨rfl, rfl⟩ (by simp) ?_ trivial
    simp (disch := omega) only [go_sem]
    exact wb (by simp [e])
  have e2 : (8 < (s.needs.length : Int)) = False := eq_false (by omega)
  simp (disch := omega) only [go_sem, e2, decide_false]
  refine loop_intro (α := Nat) (fun i => ⟨[(3, I i), (1, .ptr 64 0)], [(64, s.c)]⟩) (fun i => i ≤ (s.needs).length ∧ allAt (needPos s.needs) (s.needs.take i) = true) (fun i => (s.needs).length - i) 0 ⟨by omega, rfl⟩ ?_ ?_
  · refine Imp.weak ?_ ?_
    all_goals (try simp (disch := omega) only [go_sem])
    all_goals (try (repeat' (with_reducible apply And.intro)))
    all_goals (first | exact .nilOwn (by omega) | exact .nilNo (by omega) | exact .sl (by simp []) | exact .int (by simp []) | exact .eq (by simp []))
  rintro i ⟨hi, hP⟩ J hJ
  simp (disch := omega) only [go_sem]
  refine And.intro (fun hlt => ?_) (fun hge => ?_)
  rotate_left
  have hil : i = (s.needs).length := by simp at hge; omega
  rotate_left
  obtain ⟨b, hb⟩ : ∃ b, (s.needs)[i]? = some b := ⟨_, List.getElem?_eq_getElem (by simp at hlt; omega)⟩
  have hbm := List.mem_of_getElem? hb
  have hlt2 : i < (s.needs).length := by simp at hlt; omega
  simp (disch := omega) only [go_sem, List.getElem?_map, hb]
  · have bad : needPos s.needs i b = false → validS s = false := fun h => by simp only [validS, needsOK, allAt_false hb h, Bool.and_false, Bool.false_and]
    have good : needPos s.needs i b = true → allAt (needPos s.needs) (s.needs.take (i + 1)) = true := fun h => by rw [allAt_take hb, hP, h]; rfl
    refine draw_mk 33 [([], [4]), ([0], [27]), ([0, 1], [28]), ([0, 1, 2], [29]), ([0, 1, 2, 3], [30]), ([0, 1, 2, 3, 4], [4, 31]), ([0, 1, 2, 3, 4, 5], [32, 31]), ([0, 1, 2, 3, 4, 5, 6], [33, 31]), ([0, 1, 2, 3, 4, 5, 6, 7], [34, 31]), ([0, 1, 2, 3, 4, 5, 6, 7, 8], [31, 35]), ([0, 1, 2, 3, 4, 5, 6, 7, 8, 9], [36]), ([0, 1, 2, 3, 4, 5, 6, 7, 8, 9, 10], [4, 37]), ([0, 1, 2, 3, 4, 5, 6, 7, 8, 9, 10, 11], [38, 37]), ([0, 1, 2, 3, 4, 5, 6, 7, 8, 9, 10, 11, 12], [39, 37]), ([0, 1, 2, 3, 4, 5, 6, 7, 8, 9, 10, 11, 12, 13], [37, 40]), ([0, 1, 2, 3, 4, 5, 6, 7, 8, 9, 10, 11, 12, 13, 14], [41]), ([0, 1, 2, 3, 4, 5, 6, 7, 8, 9, 10, 11, 12, 13, 14, 15], [4, 42]), ([0, 1, 2, 3, 4, 5, 6, 7, 8, 9, 10, 11, 12, 13, 14, 15, 16], [43, 42]), ([0, 1, 2, 3, 4, 5, 6, 7, 8, 9, 10, 11, 12, 13, 14, 15, 16, 17], [44, 42]), ([0, 1, 2, 3, 4, 5, 6, 7, 8, 9, 10, 11, 12, 13, 14, 15, 16, 17, 18], [42, 45]), ([0, 1, 2, 3, 4, 5, 6, 7, 8, 9, 10, 11, 12, 13, 14, 15, 16, 17, 18, 19], [46]), ([0, 1, 2, 3, 4, 5, 6, 7, 8, 9, 10, 11, 12, 13, 14, 15, 16, 17, 18, 19, 20], [3, 47]), ([0, 1, 2, 3, 4, 5, 6, 7, 8, 9, 10, 11, 12, 13, 14, 15, 16, 17, 18, 19, 20, 21], [48, 47]), ([0, 1, 2, 3, 4, 5, 6, 7, 8, 9, 10, 11, 12, 13, 14, 15, 16, 17, 18, 19, 20, 21, 22], [49, 47]), ([0, 1, 2, 3, 4, 5, 6, 7, 8, 9, 10, 11, 12, 13, 14, 15, 16, 17, 18, 19, 20, 21, 22, 23], [1, 50]), ([0, 1, 2, 3, 4, 5, 6, 7, 8, 9, 10, 11, 12, 13, 14, 15, 16, 17, 18, 19, 20, 21, 22, 23, 24], [51, 50]), ([0, 1, 2, 3, 4, 5, 6, 7, 8, 9, 10, 11, 12, 13, 14, 15, 16, 17, 18, 19, 20, 21, 22, 23], [3, 50]), ([0, 1, 2, 3, 4, 5, 6, 7, 8, 9, 10, 11, 12, 13, 14, 15, 16, 17, 18, 19, 20, 21, 22, 23, 26], [53, 50]), ([0, 1, 2, 3, 4, 5, 6, 7, 8, 9, 10, 11, 12, 13, 14, 15, 16, 17, 18, 19, 20, 21, 22, 23, 24, 25, 26, 27], [52, 54, 50]), ([0, 1, 2, 3, 4, 5, 6, 7, 8, 9, 10, 11, 12, 13, 14, 15, 16, 17, 18, 19, 20, 21, 22, 23, 24, 25, 26, 27, 28], [55, 50]), ([0, 1, 2, 3, 4, 5, 6, 7, 8, 9, 10, 11, 12, 13, 14, 15, 16, 17, 18, 19, 20, 21, 22, 23, 24, 25, 26, 27, 28, 29], [56, 50]), ([0, 1, 2, 3, 4, 5, 6, 7, 8, 9, 10, 11, 12, 13, 14, 15, 16, 17, 18, 19, 20, 21, 22, 23], [4, 50]), ([0, 1, 2, 3, 4, 5, 6, 7, 8, 9, 10, 11, 12, 13, 14, 15, 16, 17, 18, 19, 20, 21, 22, 23, 31], [58, 50]), ([0, 1, 2, 3, 4, 5, 6, 7, 8, 9, 10, 11, 12, 13, 14, 15, 16, 17, 18, 19, 20, 21, 22, 23, 24, 25, 26, 27, 28, 29, 30, 31, 32], []), ([0, 1, 2, 3, 4, 5, 6, 7, 8, 9, 10, 11, 12, 13, 14, 15, 16, 17, 18, 19, 20, 21, 22, 23, 24, 25, 26, 27, 28, 29, 30, 31, 32, 33], []), ([0, 1, 2, 3, 4, 5, 6, 7, 8, 9, 10, 11, 12, 13, 14, 15, 16, 17, 18, 19, 20, 21, 22, 23, 24, 25, 26, 27, 28, 29, 30, 31, 32, 33, 34], []), ([0, 1, 2, 3, 4, 5, 6, 7, 8, 9, 10, 11, 12, 13, 14, 15, 16, 17, 18, 19, 20, 21, 22, 23, 24, 25, 26, 27, 28, 29, 30, 31, 32, 33, 34, 35], [])] fol (by kernel_rfl) ?_
    simp (disch := omega) only [go_sem]
    first | ((with_reducible show callB _ _ _ _ _ _); refine call_pure (f77_ok b.proc) (by simp (disch := omega) only [go_sem]) rfl ?_) | ((with_reducible show freeCallB _ _ _ _ _ _ _ _ _ _); refine freeCall_mk ⟨⟨[], [], []⟩, [], []⟩ (f77_ok b.proc) (by simp (disch := omega) only [go_sem]) rfl rfl trivial (.inl rfl) ?_)
    cases hp : b.proc.ok
    · simp (disch := omega) only [go_sem]
      refine ret_mk ⟨[], [], []⟩ _ (by (try simp (disch := omega) only [go_sem, resVs, resV]) <;> rfl) ⟨rfl, rfl⟩ (by simp) ?_ trivial
      simp (disch := omega) only [go_sem]
      exact wb (by rw [bad (by simp [needPos, hp])])
    simp (disch := omega) only [go_sem]
    first
      | ((with_reducible show callB _ _ _ _ _ _); refine call_pure (f78_ok b.expr) (by simp (disch := omega) only [go_sem, Expr.c_def]) rfl ?_)
      | ((with_reducible show freeCallB _ _ _ _ _ _ _ _ _ _); refine freeCall_mk ⟨⟨[], [], []⟩, [], []⟩ (f78_ok b.expr) (by simp (disch := omega) only [go_sem, Expr.c_def]) rfl rfl trivial (.inl rfl) ?_)
    cases he : exprOK b.expr
    · simp (disch := omega) only [go_sem]
      refine ret_mk ⟨[], [], []⟩ _ (by (try simp (disch := omega) only [go_sem, resVs, resV]) <;> rfl) ⟨rfl, rfl⟩ (by simp) ?_ trivial
      simp (disch := omega) only [go_sem]
      exact wb (by rw [bad (by simp [needPos, he])])
    by_cases hg1 : b.gen < 0
    · have k1 : (b.gen < 0) = True := eq_true hg1
      simp (disch := omega) only [go_sem, k1]
      refine ret_mk ⟨[], [], []⟩ _ (by (try simp (disch := omega) only [go_sem, resVs, resV]) <;> rfl) ⟨rfl, rfl⟩ (by simp) ?_ trivial
      simp (disch := omega) only [go_sem]
      exact wb (by rw [bad (by simp [needPos]; omega)])
    have k1 : (b.gen < 0) = False := eq_false hg1
    by_cases hg2 : 1073741824 < b.gen
    · have k2 : (1073741824 < b.gen) = True := eq_true hg2
      simp (disch := omega) only [go_sem, k1, k2, decide_false]
      refine ret_mk ⟨[], [], []⟩ _ (by (try simp (disch := omega) only [go_sem, resVs, resV]) <;> rfl) ⟨rfl, rfl⟩ (by simp) ?_ trivial
      simp (disch := omega) only [go_sem]
      exact wb (by rw [bad (by simp [needPos]; omega)])
    have k2 : (1073741824 < b.gen) = False := eq_false hg2
    have g1 : decide (0 ≤ b.gen) = true := by simp; omega
    have g2 : decide (b.gen ≤ 1073741824) = true := by simp; omega
    by_cases hi0 : i = 0
    · subst hi0
      simp (disch := omega) only [go_sem, k1, k2, decide_false]
      refine hJ _ 1 ⟨by simp at hlt; omega, good (by simp only [needPos, hp, g1, g2, he]; rfl)⟩ (by simp at hlt; omega) (Imp.weak (by simp (disch := omega) only [go_sem]) (by simp (disch := omega) only [go_sem]))
    · have hi1 : (0 < (i : Int)) = True := eq_true (by omega)
      have hi2 : ((i : Int) - 1) = ((i - 1 : Nat) : Int) := by omega
      obtain ⟨a, ha'⟩ : ∃ a, s.needs[i - 1]? = some a := ⟨_, List.getElem?_eq_getElem (by simp at hlt; omega)⟩
      have had : s.needs.getD (i - 1) n0 = a := by simp [List.getD, ha']
      simp (disch := omega) only [go_sem, k1, k2, decide_false, hi1, hi2, List.getElem?_map, ha', hb]
      first | ((with_reducible show callB _ _ _ _ _ _); refine call_pure (f79_ok a.proc b.proc) (by simp (disch := omega) only [go_sem]) rfl ?_) | ((with_reducible show freeCallB _ _ _ _ _ _ _ _ _ _); refine freeCall_mk ⟨⟨[], [], []⟩, [], []⟩ (f79_ok a.proc b.proc) (by simp (disch := omega) only [go_sem]) rfl rfl trivial (.inl rfl) ?_)
      simp (disch := omega) only [go_sem]
      by_cases hc : 0 ≤ cmpP a.proc b.proc
      · simp (disch := omega) only [go_sem, hc]
        refine ret_mk ⟨[], [], []⟩ _ (by (try simp (disch := omega) only [go_sem, resVs, resV]) <;> rfl) ⟨rfl, rfl⟩ (by simp) ?_ trivial
        simp (disch := omega) only [go_sem]
        exact wb (by rw [bad (by simp only [needPos, had]; simp [hi0]; omega)])
      · simp (disch := omega) only [go_sem, hc, decide_false]
        refine hJ _ (i + 1) ⟨by simp at hlt; omega, good (by simp only [needPos, had, hp, g1, g2, he]; simp; omega)⟩ (by simp at hlt; omega) (Imp.weak (by simp (disch := omega) only [go_sem]) (by simp (disch := omega) only [go_sem]))
  · subst hil
    rw [List.take_length] at hP
    have hns : needsOK s.needs = true := by simp [needsOK, hP]; omega
    refine call_pure (f29_ok s h) (by simp (disch := omega) only [go_sem]) rfl ?_
    simp (disch := omega) only [go_sem]
    refine ret_mk ⟨[], [], []⟩ _ (by (try simp (disch := omega) only [go_sem, resVs, resV]) <;> rfl) ⟨rfl, rfl⟩ (by simp) ?_ trivial
    simp (disch := omega) only [go_sem]
    exact wb (by simp only [validS, hqs, hns]; simp; omega)
theorem propL_mem : ∀ (es : List Expr) (l : List Atom), (propL es l).1 = true → ∀ e ∈ es, ∃ l', (prop e l').1 = true
  | [], _, _, _, he => by simp at he
  | e :: es, l, h, e', he => by
    simp only [propL] at h
    split at h
    · rename_i h1
      rcases List.mem_cons.1 he with rfl | he
      · exact ⟨l, h1⟩
      · exact propL_mem es _ h e' he
    · simp at h
theorem f83_ok (l : List Atom) (set : List Bool) (hl : l.length ≤ 1000000) : ∀ (N : Nat) (e : Expr), SizeOf.sizeOf e < N → ∀ la, (prop e la).1 = true →
    FnOK C0 83 [.agg e.c, atomsV l, bitsV set] [] (B (evalE (hasA l set) e)) []
  | 0, _, h, _, _ => by omega
  | N + 1, e, h, la, hp => by
    refine FnOK.assume (fn := Tryz.f83) (c := Tryz.f83.body.getD .skip) (by kernel_rfl) (by kernel_rfl) (by kernel_rfl) fun hlen => ?_
    simp only [lensL, lens, Expr.c_def, List.length_map, List.length_map, and_true, true_and] at hlen
    rw [prop_def] at hp
    refine FnOK.intro (fn := Tryz.f83) (c := Tryz.f83.body.getD .skip) (by kernel_rfl) (by kernel_rfl) (by kernel_rfl) (by kernel_rfl) (by simp [Tryz.f83]) (by simp [names]) ?_
    unfold Tryz.f83
    by_cases hk : e.kids.length = 0
    · rw [if_pos hk] at hp
      have h0 : e.k = 0 := by
        by_cases h0 : e.k = 0
        · exact h0
        · rw [if_neg (by simp [h0])] at hp; simp at hp
      have e1 : (e.k == 0) = true := by simp [h0]
      have ev : evalE (hasA l set) e = hasA l set e.atom := by rw [evalE_def, if_pos hk]
      rw [ev]
      simp (disch := omega) only [go_sem, e1]
      refine loop_intro (α := Nat) (fun i => ⟨[(7, I i), (1, atomsV l), (2, bitsV set), (3, .ptr 192 0)], [(192, e.c)]⟩) (fun i => i ≤ (l).length ∧ (l.take i).find? (fun x => decide (x = e.atom)) = none) (fun i => (l).length - i) 0 ⟨by omega, rfl⟩ ?_ ?_
      · refine Imp.weak ?_ ?_
        all_goals (try simp (disch := omega) only [go_sem])
        all_goals (try (repeat' (with_reducible apply And.intro)))
        all_goals (first | exact .nilOwn (by omega) | exact .nilNo (by omega) | exact .sl (by simp []) | exact .int (by simp []) | exact .eq (by simp []))
      rintro i ⟨hi, hP⟩ J hJ
      simp (disch := omega) only [go_sem]
      refine And.intro (fun hlt => ?_) (fun hge => ?_)
      rotate_left
      have hil : i = (l).length := by simp at hge; omega
      rotate_left
      obtain ⟨b, hb⟩ : ∃ b, (l)[i]? = some b := ⟨_, List.getElem?_eq_getElem (by simp at hlt; omega)⟩
      have hbm := List.mem_of_getElem? hb
      have hlt2 : i < (l).length := by simp at hlt; omega
      refine draw_mk 6 [([], [1]), ([], [7]), ([0, 1], [19, 20]), ([0, 1, 2], [21]), ([], [3]), ([4], [23]), ([0, 1, 2, 3, 4, 5], [])] fol (by kernel_rfl) ?_
      simp (disch := omega) only [go_sem, List.getElem?_map, hb]
      · refine And.intro (fun hh => ?_) (fun hh => ?_)
        · have hi2 : l.findIdx? (fun x => decide (x = e.atom)) = some i := idx_take hP b hb (by simpa using hh)
          by_cases hs : i < set.length
          · have e3 : ((i : Int) < set.length) = True := eq_true (by omega)
            have e4 : set[i]? = some (set.getD i false) := by rw [List.getElem?_eq_getElem hs]; simp [List.getD, hs]
            have e2 : hasA l set e.atom = set.getD i false := by simp [hasA, hi2]
            simp (disch := omega) only [go_sem, e3, List.getElem?_map, e4]
            refine ret_mk ⟨[], [], []⟩ _ (by (try simp (disch := omega) only [go_sem, resVs, resV]) <;> rfl) ⟨rfl, rfl⟩ (by simp) ?_ trivial
            simp (disch := omega) only [go_sem]
            exact wb (by rw [e2])
          · have e3 : ((i : Int) < set.length) = False := eq_false (by omega)
            have e2 : hasA l set e.atom = false := by simp [hasA, hi2, List.getD, hs]
            simp (disch := omega) only [go_sem, e3, decide_false]
            refine ret_mk ⟨[], [], []⟩ _ (by (try simp (disch := omega) only [go_sem, resVs, resV]) <;> rfl) ⟨rfl, rfl⟩ (by simp) ?_ trivial
            simp (disch := omega) only [go_sem]
            exact wb (by simp [e2])
        · refine hJ _ (i + 1) ⟨by simp at hlt; omega, (by rw [find_take hP hb]; simp at hh; simp [hh])⟩ (by simp at hlt; omega) (Imp.weak (by simp (disch := omega) only [go_sem]) (by simp (disch := omega) only [go_sem]))
      · subst hil
        rw [List.take_length] at hP
        have hi2 : l.findIdx? (fun x => decide (x = e.atom)) = none := by
          rw [List.findIdx?_eq_none_iff]
          rw [List.find?_eq_none] at hP
          intro x hx
          simpa using hP x hx
        have e2 : hasA l set e.atom = false := by simp [hasA, hi2]
        refine ret_mk ⟨[], [], []⟩ _ (by (try simp (disch := omega) only [go_sem, resVs, resV]) <;> rfl) ⟨rfl, rfl⟩ (by simp) ?_ trivial
        simp (disch := omega) only [go_sem]
        exact wb (by rw [e2])
    · rw [if_neg hk] at hp
      have hb : ¬ (e.k < 1 ∨ (e.kids.length : Int) < e.k ∨ e.atom ≠ a0) := by
        intro hb; rw [if_pos hb] at hp; simp at hp
      rw [if_neg hb] at hp
      have hkid := propL_mem _ _ hp
      have e1 : (e.k == 0) = false := by simp; omega
      have ev : evalE (hasA l set) e = decide (e.k ≤ countE (hasA l set) e.kids) := by rw [evalE_def, if_neg hk]
      have hbd := countE_bd (hasA l set)
      rw [ev]
      simp (disch := omega) only [go_sem, e1]
      refine loop_intro (α := Nat) (fun i => ⟨[(9, I i), (8, I (countE (hasA l set) (e.kids.take i))), (1, atomsV l), (2, bitsV set), (3, .ptr 192 0)], [(192, e.c)]⟩) (fun i => i ≤ (e.kids).length ∧ True) (fun i => (e.kids).length - i) 0 ⟨by omega, trivial⟩ ?_ ?_
      · refine Imp.weak ?_ ?_
        all_goals (try simp (disch := omega) only [go_sem])
        all_goals (try (repeat' (with_reducible apply And.intro)))
        all_goals (first | exact .nilOwn (by omega) | exact .nilNo (by omega) | exact .sl (by simp [countE]) | exact .int (by simp [countE]) | exact .eq (by simp [countE]))
      rintro i ⟨hi, hP⟩ J hJ
      simp (disch := omega) only [go_sem]
      refine And.intro (fun hlt => ?_) (fun hge => ?_)
      rotate_left
      have hil : i = (e.kids).length := by simp at hge; omega
      rotate_left
      obtain ⟨b, hb⟩ : ∃ b, (e.kids)[i]? = some b := ⟨_, List.getElem?_eq_getElem (by simp at hlt; omega)⟩
      have hbm := List.mem_of_getElem? hb
      have hlt2 : i < (e.kids).length := by simp at hlt; omega
      simp (disch := omega) only [go_sem, List.getElem?_map, hb]
      · obtain ⟨la', hla⟩ := hkid b hbm
        have hsz := kid_lt hbm
        have hct := countE_take (hasA l set) e.kids i b hb
        have hb1 := hbd (e.kids.take i)
        simp only [List.length_take] at hb1
        refine call_pure (f83_ok l set hl N b (by omega) la' hla) (by simp (disch := omega) only [go_sem]) rfl ?_
        cases hev : evalE (hasA l set) b
        · rw [hev] at hct
          simp (disch := omega) only [go_sem]
          refine hJ _ (i + 1) ⟨by simp at hlt; omega, trivial⟩ (by simp at hlt; omega) (Imp.weak ?_ (by simp (disch := omega) only [go_sem]))
          simp (disch := omega) only [go_sem, hct]
          exact .int (by simp)
        · rw [hev] at hct
          simp (disch := omega) only [go_sem]
          refine hJ _ (i + 1) ⟨by simp at hlt; omega, trivial⟩ (by simp at hlt; omega) (Imp.weak ?_ (by simp (disch := omega) only [go_sem]))
          simp (disch := omega) only [go_sem, hct]
      · subst hil
        simp (disch := omega) only [go_sem, List.take_length]
        refine ret_mk ⟨[], [], []⟩ _ (by (try simp (disch := omega) only [go_sem, resVs, resV]) <;> rfl) ⟨rfl, rfl⟩ (by simp) ?_ trivial
        simp (disch := omega) only [go_sem]
theorem propL_ne : ∀ (es : List Expr) (l : List Atom), (∀ e ∈ es, ∀ l, (prop e l).1 = true → (prop e l).2 ≠ []) → (propL es l).1 = true → es ≠ [] ∨ l ≠ [] → (propL es l).2 ≠ []
  | [], l, _, _, h => by simpa [propL] using h
  | e :: es, l, hk, hp, _ => by
    simp only [propL] at hp ⊢
    split at hp
    · rename_i h1
      rw [if_pos h1]
      exact propL_ne es _ (fun e' he => hk e' (by simp [he])) hp (.inr (hk e (by simp) l h1))
    · simp at hp
theorem prop_ne : ∀ (N : Nat) (e : Expr), SizeOf.sizeOf e < N → ∀ l, (prop e l).1 = true → (prop e l).2 ≠ []
  | 0, _, h, _, _ => by omega
  | N + 1, e, h, l, hp => by
    rw [prop_def] at hp ⊢
    by_cases h0 : e.kids.length = 0
    · rw [if_pos h0] at hp ⊢
      by_cases h1 : e.k = 0 ∧ atomOK e.atom = true
      · rw [if_pos h1] at hp ⊢
        simp only at hp ⊢
        rw [note_ok hp]
        unfold atomE
        split
        · rename_i hm; exact fun h => by rw [h] at hm; simp at hm
        · simp
      · rw [if_neg h1] at hp; simp at hp
    · rw [if_neg h0] at hp ⊢
      split at hp
      · simp at hp
      · rename_i h1
        rw [if_neg h1]
        exact propL_ne _ _ (fun e' he l' => prop_ne N e' (by have := kid_lt he; omega) l') hp (.inl fun h => h0 (by rw [h]; rfl))
theorem f108_ok (e : Expr) (set : List Bool) (he : exprOK e = true) : FnOK C0 108 [.agg e.c, bitsV set] [] (B (holdsE e set)) [] := by
  have hl := atomsE_len e
  have hne : (atomsE e).length ≠ 0 := by
    have hp := exprOK_prop he
    have h1 := prop_ne _ e (Nat.lt_succ_self _) [] hp
    have hc := prop_col _ e (Nat.lt_succ_self _) [] hp
    have ha : atomsE e = (prop e []).2 := by unfold atomsE; rw [if_pos he, hc]
    rw [ha]
    simpa using h1
  refine FnOK.intro (fn := Tryz.f108) (c := Tryz.f108.body.getD .skip) (by kernel_rfl) (by kernel_rfl) (by kernel_rfl) (by kernel_rfl) (by simp [Tryz.f108]) (by simp [names]) ?_
  unfold Tryz.f108
  simp (disch := omega) only [go_sem]
  refine call_pure (f82_ok e) (by simp (disch := omega) only [go_sem]) rfl ?_
  simp (disch := omega) only [go_sem, he]
  refine call_pure (f83_ok (atomsE e) set (by omega) _ e (Nat.lt_succ_self _) [] (exprOK_prop he)) (by simp (disch := omega) only [go_sem]) rfl ?_
  simp (disch := omega) only [go_sem]
  refine ret_mk ⟨[], [], []⟩ _ (by (try simp (disch := omega) only [go_sem, resVs, resV]) <;> rfl) ⟨rfl, rfl⟩ (by simp) ?_ trivial
  simp (disch := omega) only [go_sem]
  exact wb (by simp [holdsE, hne])
end Go.Rd
open Go Go.Abs Go.Proofs
set_option maxRecDepth 100000
namespace Go.Rd
set_option maxHeartbeats 4000000 in
theorem f80_ok (s : WS) (p : Proc) (name : Bs) (h : Few s) : FnOK C0 80 [.agg s.c, .agg p.c, .v (.string (str name))] [] (B (waitsF s.queues p name)) [] := by
  have hn := h.nq
  refine FnOK.intro (fn := Tryz.f80) (c := Tryz.f80.body.getD .skip) (by kernel_rfl) (by kernel_rfl) (by kernel_rfl) (by kernel_rfl) (by simp [Tryz.f80]) (by simp [names]) ?_
  unfold Tryz.f80
  simp (disch := omega) only [go_sem]
  refine call_pure (f81_ok s.queues name (by omega)) (by simp (disch := omega) only [go_sem]) rfl ?_
  cases hf : s.queues.findIdx? (fun q => q.res.name == name) with
  | none =>
    have e : waitsF s.queues p name = false := by
      unfold waitsF
      have : s.queues.find? (fun q => q.res.name == name) = none := by
        rw [List.findIdx?_eq_none_iff] at hf
        rw [List.find?_eq_none]
        intro x hx
        simpa using hf x hx
      rw [this]
    simp (disch := omega) only [go_sem, e]
    refine ret_mk ⟨[], [], []⟩ _ (by (try simp (disch := omega) only [go_sem, resVs, resV]) <;> rfl) ⟨rfl, rfl⟩ (by simp) ?_ trivial
    simp (disch := omega) only [go_sem]
  | some i =>
    obtain ⟨k1, k2, k3⟩ := List.findIdx?_eq_some_iff_getElem.1 hf
    have hb : s.queues[i]? = some s.queues[i] := List.getElem?_eq_getElem k1
    have hm := List.getElem_mem k1
    have ef : s.queues.find? (fun q => q.res.name == name) = some s.queues[i] := by
      rw [List.find?_eq_some_iff_getElem]
      exact ⟨k2, i, k1, rfl, fun j hj => by simpa using k3 j hj⟩
    generalize s.queues[i] = b at hb hm ef k2
    have ha := allQ_parts (h.aq b hm)
    have e : waitsF s.queues p name = (wantQ b p).isSome := by unfold waitsF; rw [ef]
    have d0 : ((i : Int) < 0) = False := eq_false (by omega)
    simp (disch := omega) only [go_sem, d0, decide_false]
    rw [e]
    refine draw_all (let o0 : OT := .done; let o1 : OT := .pick [(12, o0)]; let o2 : OT := .pick [(11, o1)]; let o3 : OT := .pick [(10, o2)]; let o4 : OT := .pick [(9, o1)]; let o5 : OT := .pick [(9, o2), (11, o4)]; let o6 : OT := .pick [(9, o3), (10, o5)]; let o7 : OT := .pick [(8, o2)]; let o8 : OT := .pick [(8, o3), (10, o7)]; let o9 : OT := .pick [(8, o5), (9, o7)]; let o10 : OT := .pick [(8, o6), (9, o8), (10, o9)]; let o11 : OT := .pick [(7, o9)]; let o12 : OT := .pick [(7, o10), (10, o11)]; let o13 : OT := .pick [(6, o11)]; let o14 : OT := .pick [(6, o12), (10, o13)]; let o15 : OT := .pick [(5, o13)]; let o16 : OT := .pick [(5, o14), (10, o15)]; let o17 : OT := .pick [(4, o13)]; let o18 : OT := .pick [(4, o14), (10, o17)]; let o19 : OT := .pick [(4, o15), (5, o17)]; let o20 : OT := .pick [(4, o16), (5, o18), (10, o19)]; let o21 : OT := .pick [(3, o17)]; let o22 : OT := .pick [(3, o18), (10, o21)]; let o23 : OT := .pick [(3, o19), (5, o21)]; let o24 : OT := .pick [(3, o20), (5, o22), (10, o23)]; let o25 : OT := .pick [(2, o21)]; let o26 : OT := .pick [(2, o22), (10, o25)]; let o27 : OT := .pick [(2, o23), (5, o25)]; let o28 : OT := .pick [(2, o24), (5, o26), (10, o27)]; let o29 : OT := .pick [(1, o21)]; let o30 : OT := .pick [(1, o22), (10, o29)]; let o31 : OT := .pick [(1, o23), (5, o29)]; let o32 : OT := .pick [(1, o24), (5, o30), (10, o31)]; let o33 : OT := .pick [(1, o25), (2, o29)]; let o34 : OT := .pick [(1, o26), (2, o30), (10, o33)]; let o35 : OT := .pick [(1, o27), (2, o31), (5, o33)]; let o36 : OT := .pick [(1, o28), (2, o32), (5, o34), (10, o35)]; let o37 : OT := .pick [(0, o29)]; let o38 : OT := .pick [(0, o30), (10, o37)]; let o39 : OT := .pick [(0, o31), (5, o37)]; let o40 : OT := .pick [(0, o32), (5, o38), (10, o39)]; let o41 : OT := .pick [(0, o33), (2, o37)]; let o42 : OT := .pick [(0, o34), (2, o38), (10, o41)]; let o43 : OT := .pick [(0, o35), (2, o39), (5, o41)]; let o44 : OT := .pick [(0, o36), (2, o40), (5, o42), (10, o43)]; o44) fol (by kernel_rfl) ?_
    simp (disch := omega) only [go_sem, List.getElem?_map, hb]
    repeat' (first | (with_reducible refine And.intro ?_ ?_) | (refine call_pure (f31_ok b p ha.2.1 ha.2.2) (by simp (disch := omega) only [go_sem]) rfl ?_; (try simp (disch := omega) only [go_sem])))
    all_goals (refine ret_mk ⟨[], [], []⟩ _ (by (try simp (disch := omega) only [go_sem, resVs, resV]) <;> rfl) ⟨rfl, rfl⟩ (by simp) ?_ trivial)
    all_goals simp (disch := omega) only [go_sem]
end Go.Rd
open Go Go.Abs Go.Proofs
set_option maxRecDepth 100000
namespace Go.Rd
theorem bytesLess_irrefl : ∀ x : Bs, Op.bytesLess x x = false
  | [] => rfl
  | a :: x => by
    simp only [Op.bytesLess, bytesLess_irrefl x, Bool.and_false, Bool.or_false]
    simp
theorem bytesLess_trans : ∀ x y z : Bs, Op.bytesLess x y = true → Op.bytesLess y z = true → Op.bytesLess x z = true
  | _, _, [], _, h => by cases ‹Bs› <;> simp [Op.bytesLess] at h
  | [], _, _ :: _, _, _ => rfl
  | a :: x, [], c :: z, h, _ => by simp [Op.bytesLess] at h
  | a :: x, b :: y, c :: z, h1, h2 => by
    simp only [Op.bytesLess, Bool.or_eq_true, Bool.and_eq_true, decide_eq_true_eq, beq_iff_eq] at h1 h2 ⊢
    rcases h1 with h1 | ⟨rfl, h1⟩
    · rcases h2 with h2 | ⟨rfl, h2⟩
      · exact .inl (UInt8.lt_trans h1 h2)
      · exact .inl h1
    · rcases h2 with h2 | ⟨rfl, h2⟩
      · exact .inl h2
      · exact .inr ⟨rfl, bytesLess_trans x y z h1 h2⟩
/-- consecutive less: pairwise less -/
theorem pair_of_step {α : Type} {r : α → α → Prop} (ht : ∀ a b c, r a b → r b c → r a c) : ∀ (l : List α), (∀ i a b, l[i]? = some a → l[i + 1]? = some b → r a b) → l.Pairwise r
  | [], _ => .nil
  | a :: l, h => by
    have ih := pair_of_step ht l fun i x y hx hy => h (i + 1) x y (by simpa using hx) (by simpa using hy)
    refine List.pairwise_cons.2 ⟨?_, ih⟩
    cases l with
    | nil => simp
    | cons b l =>
      have hab := h 0 a b rfl rfl
      intro c hc
      rcases List.mem_cons.1 hc with rfl | hc
      · exact hab
      · exact ht a b c hab ((List.pairwise_cons.1 ih).1 c hc)
theorem step_of_pair {α : Type} {r : α → α → Prop} {l : List α} (h : l.Pairwise r) {i : Nat} {a b : α} (ha : l[i]? = some a) (hb : l[i + 1]? = some b) : r a b := by
  have h1 := lt_of_get ha
  have h2 := lt_of_get hb
  have := List.pairwise_iff_getElem.1 h i (i + 1) h1 h2 (by omega)
  rwa [get_eq ha, get_eq hb] at this
theorem queuesOK_iff (l : List Queue) : queuesOK l = true ↔ l.length ≤ 8 ∧ (∀ q ∈ l, valid q = true) ∧ l.Pairwise fun a b => lessB a.res.name b.res.name = true := by
  unfold queuesOK
  rw [Bool.and_eq_true, decide_eq_true_eq, allAt_iff]
  refine and_congr Iff.rfl ⟨fun h => ⟨fun q hq => ?_, pair_of_step (r := fun a b : Queue => lessB a.res.name b.res.name = true) (fun a b c => bytesLess_trans _ _ _) l fun i a b ha hb => ?_⟩, fun ⟨h1, h2⟩ i b hb => ?_⟩
  · obtain ⟨i, hi⟩ := List.mem_iff_getElem?.1 hq
    have := h i q hi
    simp only [queuePos, Bool.and_eq_true] at this
    exact this.1
  · have := h (i + 1) b hb
    simp only [queuePos, Bool.and_eq_true] at this
    have h2 := this.2
    simpa [List.getD, ha] using h2
  · simp only [queuePos, Bool.and_eq_true]
    refine ⟨h1 b (List.mem_of_getElem? hb), ?_⟩
    cases i with
    | zero => simp
    | succ i =>
      obtain ⟨a, ha⟩ : ∃ a, l[i]? = some a := ⟨_, List.getElem?_eq_getElem (by have := lt_of_get hb; omega)⟩
      have := step_of_pair h2 ha hb
      simpa [List.getD, ha] using this
theorem needsOK_iff (l : List Need) : needsOK l = true ↔ l.length ≤ 8 ∧ (∀ n ∈ l, n.proc.ok = true ∧ 0 ≤ n.gen ∧ n.gen ≤ 1073741824 ∧ exprOK n.expr = true) ∧ l.Pairwise fun a b => cmpP a.proc b.proc < 0 := by
  unfold needsOK
  rw [Bool.and_eq_true, decide_eq_true_eq, allAt_iff]
  refine and_congr Iff.rfl ⟨fun h => ⟨fun q hq => ?_, pair_of_step (r := fun a b : Need => cmpP a.proc b.proc < 0) (fun a b c => cmpP_trans) l fun i a b ha hb => ?_⟩, fun ⟨h1, h2⟩ i b hb => ?_⟩
  · obtain ⟨i, hi⟩ := List.mem_iff_getElem?.1 hq
    have := h i q hi
    simp only [needPos, Bool.and_eq_true, decide_eq_true_eq] at this
    exact ⟨this.1.1.1.1, this.1.1.1.2, this.1.1.2, this.1.2⟩
  · have := h (i + 1) b hb
    simp only [needPos, Bool.and_eq_true] at this
    have h2 := this.2
    simpa [List.getD, ha] using h2
  · have h3 := h1 b (List.mem_of_getElem? hb)
    simp only [needPos, Bool.and_eq_true, decide_eq_true_eq]
    refine ⟨⟨⟨⟨h3.1, h3.2.1⟩, h3.2.2.1⟩, h3.2.2.2⟩, ?_⟩
    cases i with
    | zero => simp
    | succ i =>
      obtain ⟨a, ha⟩ : ∃ a, l[i]? = some a := ⟨_, List.getElem?_eq_getElem (by have := lt_of_get hb; omega)⟩
      have := step_of_pair h2 ha hb
      simpa [List.getD, ha] using this
theorem validS_iff (s : WS) : validS s = true ↔ queuesOK s.queues = true ∧ needsOK s.needs = true ∧ (procsS s).length ≤ 8 := by
  simp only [validS, Bool.and_eq_true, decide_eq_true_eq, and_assoc]
theorem validS_rem {s : WS} (h : validS s = true) (p : Proc) : validS (remS s p) = true := by
  have hg := validS_good h
  obtain ⟨h1, h2, h3⟩ := (validS_iff s).1 h
  obtain ⟨a1, a2, a3⟩ := (queuesOK_iff _).1 h1
  obtain ⟨b1, b2, b3⟩ := (needsOK_iff _).1 h2
  refine (validS_iff _).2 ⟨(queuesOK_iff _).2 ⟨?_, ?_, ?_⟩, (needsOK_iff _).2 ⟨?_, ?_, ?_⟩, ?_⟩
  · simpa [remS] using a1
  · exact good_rem hg p
  · simp only [remS, List.pairwise_map, remQ1_res]
    exact a3
  · exact Nat.le_trans (List.length_filter_le _ _) b1
  · exact fun n hn => b2 n (List.mem_filter.1 hn).1
  · exact b3.filter _
  · rw [procs_rem hg]
    exact Nat.le_trans (List.length_filter_le _ _) h3
theorem validS_res {s : WS} (h : validS s = true) (l : List Proc) : validS (resS s l) = true := res_ind (P := fun x => validS x = true) (fun _ p h => validS_rem h p) l h
theorem waits_acc (p : Proc) (name : Bs) : ∀ (l : List Queue), (l.Pairwise fun a b => a.res.name ≠ b.res.name) → ∀ w : Bool, l.foldl (fun w q => if q.res.name == name then (wantQ q p).isSome else w) w = match l.find? (fun q => q.res.name == name) with
    | some q => (wantQ q p).isSome
    | none => w
  | [], _, w => rfl
  | q :: l, h, w => by
    rw [List.pairwise_cons] at h
    rw [List.foldl_cons, waits_acc p name l h.2, List.find?_cons]
    cases hq : (q.res.name == name)
    · simp
    · have hn : l.find? (fun q => q.res.name == name) = none := by
        rw [List.find?_eq_none]
        intro x hx
        have := h.1 x hx
        simp at hq ⊢
        rw [← hq]; exact fun h => this h.symm
      rw [hn]
      simp
theorem waits_uniq (l : List Queue) (h : l.Pairwise fun a b => a.res.name ≠ b.res.name) (p : Proc) (name : Bs) : waitsIn l p name = waitsF l p name := waits_acc p name l h false
theorem valid_waits {s : WS} (h : validS s = true) (p : Proc) (name : Bs) : waitsIn s.queues p name = waitsF s.queues p name := by
  obtain ⟨h1, -, -⟩ := (validS_iff s).1 h
  obtain ⟨-, -, a3⟩ := (queuesOK_iff _).1 h1
  refine waits_uniq _ (a3.imp fun {a b} hab he => ?_) p name
  unfold lessB at hab
  rw [he, bytesLess_irrefl] at hab
  simp at hab
end Go.Rd
