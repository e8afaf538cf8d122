/- the last parts of the proof -/
import Derived.Test.YtaelofhhkpacbaaGreatDoorQ26
set_option linter.all false
open Go Go.Abs Go.Proofs
set_option maxRecDepth 100000
namespace Go.Rd
theorem ret1 {X : Env} {rs : List ResultVar} {y : AV} {st : St} (xs : List AV) (h4 : WeakV ((pack xs).ren ⟨[], [], []⟩) y) (h1 : resVs X.C st rs = some xs := by (try simp (disch := omega) only [go_sem, resVs, resV]) <;> rfl) (he : X.ext = [] := by rfl) : retA X rs y [] .ret st := ret0 xs h1 he h4
theorem f159_eq (l m : List Hold) (hl : l.length ≤ 1000000) : FnOK C0 159 [holdsV l, holdsV m] [] (B (decide (l = m))) [] := by
 refine FnOK.intro (fn := Tryz.f159) (c := Tryz.f159.body.getD .skip) (by kernel_rfl) (by kernel_rfl) (by kernel_rfl) (by kernel_rfl) (by simp [Tryz.f159]) (by simp [names]) ?_
 unfold Tryz.f159
 by_cases hn : l.length = m.length
 rotate_left
 ·have e1 : ((l.length : Int) != m.length) = true := by simp only [bne_iff_ne, ne_eq]; omega
  have e2 : l ≠ m := fun h => hn (by rw [h])
  simp (disch := omega) only [go_sem, e1]
  refine ret1 _ ?_
  simp (disch := omega) only [go_sem]
  exact wb (by simp [e2])
 have e1 : ((l.length : Int) != m.length) = false := by simp [hn]
 simp (disch := omega) only [go_sem, e1]
 refine loop_intro (α := Nat) (fun i => ⟨[(5, I i), (0, holdsV l), (1, holdsV m)], []⟩) (fun i => i ≤ (l).length ∧ l.take i = m.take i) (fun i => (l).length - i) 0 ⟨by omega, rfl⟩ ?_ ?_
 ·refine Imp.weak ?_ ?_
  all_goals (try simp (disch := omega) only [go_sem])
  all_goals (try (repeat' (with_reducible apply And.intro)))
  all_goals (first | exact .nilOwn (by omega) | exact .nilNo (by omega) | exact .sl (by simp []) | exact .int (by simp []) | exact .eq (by simp []))
 rintro i ⟨hi, hP⟩ J hJ
 simp (disch := omega) only [go_sem]
 refine And.intro (fun hlt => ?_) (fun hge => ?_)
 rotate_left
 have hil : i = (l).length := by simp at hge; omega
 rotate_left
 obtain ⟨b, hb⟩ : ∃ b, (l)[i]? = some b := ⟨_, List.getElem?_eq_getElem (by simp at hlt; omega)⟩
 have hbm := List.mem_of_getElem? hb
 have hlt2 : i < (l).length := by simp at hlt; omega
 refine draw_mk 8 [([], [0]), ([], [5]), ([0, 1], [17, 18]), ([0, 1, 2], [19]), ([], [1]), ([], [5]), ([4, 5], [21, 22]), ([4, 5, 6], [23]), ([0, 1, 2, 3, 4, 5, 6, 7], [])] fol (by kernel_rfl) ?_
 simp (disch := omega) only [go_sem, hb]
 ·obtain ⟨c, hc⟩ : ∃ c, m[i]? = some c := ⟨_, List.getElem?_eq_getElem (by omega)⟩
  simp (disch := omega) only [go_sem, hb, hc]
  by_cases hbc : b = c
  ·simp (disch := omega) only [go_sem, hbc, decide_true]
   refine hJ _ (i + 1) ⟨by simp at hlt; omega, (by rw [List.take_add_one, List.take_add_one, hb, hc, hP, hbc])⟩ (by simp at hlt; omega) (Imp.weak (by simp (disch := omega) only [go_sem]) (by simp (disch := omega) only [go_sem]))
  ·simp (disch := omega) only [go_sem, hbc, decide_false]
   refine ret1 _ ?_
   simp (disch := omega) only [go_sem]
   refine wb ?_
   have : l ≠ m := fun h => hbc (by rw [h, hc] at hb; simpa using hb.symm)
   simp [this]
 ·subst hil
  rw [List.take_length, hn, List.take_length] at hP
  refine ret1 _ ?_
  simp (disch := omega) only [go_sem]
  exact wb (by simp [hP])
theorem f160_eq (l m : List Wait) (hl : l.length ≤ 1000000) : FnOK C0 160 [waitsV l, waitsV m] [] (B (decide (l = m))) [] := by
 refine FnOK.intro (fn := Tryz.f160) (c := Tryz.f160.body.getD .skip) (by kernel_rfl) (by kernel_rfl) (by kernel_rfl) (by kernel_rfl) (by simp [Tryz.f160]) (by simp [names]) ?_
 unfold Tryz.f160
 by_cases hn : l.length = m.length
 rotate_left
 ·have e1 : ((l.length : Int) != m.length) = true := by simp only [bne_iff_ne, ne_eq]; omega
  have e2 : l ≠ m := fun h => hn (by rw [h])
  simp (disch := omega) only [go_sem, e1]
  refine ret1 _ ?_
  simp (disch := omega) only [go_sem]
  exact wb (by simp [e2])
 have e1 : ((l.length : Int) != m.length) = false := by simp [hn]
 simp (disch := omega) only [go_sem, e1]
 refine loop_intro (α := Nat) (fun i => ⟨[(5, I i), (0, waitsV l), (1, waitsV m)], []⟩) (fun i => i ≤ (l).length ∧ l.take i = m.take i) (fun i => (l).length - i) 0 ⟨by omega, rfl⟩ ?_ ?_
 ·refine Imp.weak ?_ ?_
  all_goals (try simp (disch := omega) only [go_sem])
  all_goals (try (repeat' (with_reducible apply And.intro)))
  all_goals (first | exact .nilOwn (by omega) | exact .nilNo (by omega) | exact .sl (by simp []) | exact .int (by simp []) | exact .eq (by simp []))
 rintro i ⟨hi, hP⟩ J hJ
 simp (disch := omega) only [go_sem]
 refine And.intro (fun hlt => ?_) (fun hge => ?_)
 rotate_left
 have hil : i = (l).length := by simp at hge; omega
 rotate_left
 obtain ⟨b, hb⟩ : ∃ b, (l)[i]? = some b := ⟨_, List.getElem?_eq_getElem (by simp at hlt; omega)⟩
 have hbm := List.mem_of_getElem? hb
 have hlt2 : i < (l).length := by simp at hlt; omega
 refine draw_mk 8 [([], [0]), ([], [5]), ([0, 1], [17, 18]), ([0, 1, 2], [19]), ([], [1]), ([], [5]), ([4, 5], [21, 22]), ([4, 5, 6], [23]), ([0, 1, 2, 3, 4, 5, 6, 7], [])] fol (by kernel_rfl) ?_
 simp (disch := omega) only [go_sem, hb]
 ·obtain ⟨c, hc⟩ : ∃ c, m[i]? = some c := ⟨_, List.getElem?_eq_getElem (by omega)⟩
  simp (disch := omega) only [go_sem, hb, hc]
  by_cases hbc : b = c
  ·simp (disch := omega) only [go_sem, hbc, decide_true]
   refine hJ _ (i + 1) ⟨by simp at hlt; omega, (by rw [List.take_add_one, List.take_add_one, hb, hc, hP, hbc])⟩ (by simp at hlt; omega) (Imp.weak (by simp (disch := omega) only [go_sem]) (by simp (disch := omega) only [go_sem]))
  ·simp (disch := omega) only [go_sem, hbc, decide_false]
   refine ret1 _ ?_
   simp (disch := omega) only [go_sem]
   refine wb ?_
   have : l ≠ m := fun h => hbc (by rw [h, hc] at hb; simpa using hb.symm)
   simp [this]
 ·subst hil
  rw [List.take_length, hn, List.take_length] at hP
  refine ret1 _ ?_
  simp (disch := omega) only [go_sem]
  exact wb (by simp [hP])
theorem f114_eq (a b : Queue) (ha : allQ a ≤ 100) : FnOK C0 114 [.agg a.c, .agg b.c] [] (B (decide (a = b))) [] := by
 obtain ⟨a1, a2, a3⟩ := allQ_parts ha
 refine FnOK.intro (fn := Tryz.f114) (c := Tryz.f114.body.getD .skip) (by kernel_rfl) (by kernel_rfl) (by kernel_rfl) (by kernel_rfl) (by simp [Tryz.f114]) (by simp [names]) ?_
 unfold Tryz.f114
 simp (disch := omega) only [go_sem]
 by_cases h1 : a.res = b.res
 rotate_left
 ·have h0 : a ≠ b := fun h => h1 (by rw [h])
  simp (disch := omega) only [go_sem, h1, decide_false]
  refine ret1 _ ?_
  simp (disch := omega) only [go_sem]
  exact wb (by simp [h0])
 simp (disch := omega) only [go_sem, h1, decide_true]
 by_cases h2 : a.gen = b.gen
 rotate_left
 ·have h0 : a ≠ b := fun h => h2 (by rw [h])
  have e : (a.gen == b.gen) = false := by simp [h2]
  simp (disch := omega) only [go_sem, e]
  refine ret1 _ ?_
  simp (disch := omega) only [go_sem]
  exact wb (by simp [h0])
 have e2 : (a.gen == b.gen) = true := by simp [h2]
 simp (disch := omega) only [go_sem, e2]
 refine call_pure (f159_eq a.holds b.holds a1) (by simp (disch := omega) only [go_sem]) rfl ?_
 by_cases h3 : a.holds = b.holds
 rotate_left
 ·have h0 : a ≠ b := fun h => h3 (by rw [h])
  simp (disch := omega) only [go_sem, h3, decide_false]
  refine ret1 _ ?_
  simp (disch := omega) only [go_sem]
  exact wb (by simp [h0])
 simp (disch := omega) only [go_sem, h3, decide_true]
 refine call_pure (f160_eq a.convs b.convs a2) (by simp (disch := omega) only [go_sem]) rfl ?_
 by_cases h4 : a.convs = b.convs
 rotate_left
 ·have h0 : a ≠ b := fun h => h4 (by rw [h])
  simp (disch := omega) only [go_sem, h4, decide_false]
  refine ret1 _ ?_
  simp (disch := omega) only [go_sem]
  exact wb (by simp [h0])
 simp (disch := omega) only [go_sem, h4, decide_true]
 refine call_pure (f160_eq a.waits b.waits a3) (by simp (disch := omega) only [go_sem]) rfl ?_
 simp (disch := omega) only [go_sem]
 refine ret1 _ ?_
 simp (disch := omega) only [go_sem]
 obtain ⟨x1, x2, x3, x4, x5⟩ := a
 obtain ⟨y1, y2, y3, y4, y5⟩ := b
 simp only at h1 h2 h3 h4
 subst h1 h2 h3 h4
 exact wb (by simp)
theorem f66_eq (l m : List Queue) (hl : l.length ≤ 1000000) (ha : ∀ q ∈ l, allQ q ≤ 100) : FnOK C0 66 [queuesV l, queuesV m] [] (B (decide (l = m))) [] := by
 refine FnOK.intro (fn := Tryz.f66) (c := Tryz.f66.body.getD .skip) (by kernel_rfl) (by kernel_rfl) (by kernel_rfl) (by kernel_rfl) (by simp [Tryz.f66]) (by simp [names]) ?_
 unfold Tryz.f66
 by_cases hn : l.length = m.length
 rotate_left
 ·have e1 : ((l.length : Int) != m.length) = true := by simp only [bne_iff_ne, ne_eq]; omega
  have e2 : l ≠ m := fun h => hn (by rw [h])
  simp (disch := omega) only [go_sem, e1]
  refine ret1 _ ?_
  simp (disch := omega) only [go_sem]
  exact wb (by simp [e2])
 have e1 : ((l.length : Int) != m.length) = false := by simp [hn]
 simp (disch := omega) only [go_sem, e1]
 refine loop_intro (α := Nat) (fun i => ⟨[(5, I i), (0, queuesV l), (1, queuesV m)], []⟩) (fun i => i ≤ (l).length ∧ l.take i = m.take i) (fun i => (l).length - i) 0 ⟨by omega, rfl⟩ ?_ ?_
 ·refine Imp.weak ?_ ?_
  all_goals (try simp (disch := omega) only [go_sem])
  all_goals (try (repeat' (with_reducible apply And.intro)))
  all_goals (first | exact .nilOwn (by omega) | exact .nilNo (by omega) | exact .sl (by simp []) | exact .int (by simp []) | exact .eq (by simp []))
 rintro i ⟨hi, hP⟩ J hJ
 simp (disch := omega) only [go_sem]
 refine And.intro (fun hlt => ?_) (fun hge => ?_)
 rotate_left
 have hil : i = (l).length := by simp at hge; omega
 rotate_left
 obtain ⟨b, hb⟩ : ∃ b, (l)[i]? = some b := ⟨_, List.getElem?_eq_getElem (by simp at hlt; omega)⟩
 have hbm := List.mem_of_getElem? hb
 have hlt2 : i < (l).length := by simp at hlt; omega
 refine draw_mk 8 [([], [0]), ([], [5]), ([0, 1], [17, 18]), ([0, 1, 2], [19]), ([], [1]), ([], [5]), ([4, 5], [21, 22]), ([4, 5, 6], [23]), ([0, 1, 2, 3, 4, 5, 6, 7], []), ([0, 1, 2, 3, 4, 5, 6, 7, 8], [])] fol (by kernel_rfl) ?_
 simp (disch := omega) only [go_sem, hb]
 ·obtain ⟨c, hc⟩ : ∃ c, m[i]? = some c := ⟨_, List.getElem?_eq_getElem (by omega)⟩
  simp (disch := omega) only [go_sem, hb, hc]
  first | (refine call_pure (f114_eq b c (ha b hbm)) (by simp (disch := omega) only [go_sem]) rfl ?_) | (refine freeCall_mk ⟨⟨[], [], []⟩, [], []⟩ (f114_eq b c (ha b hbm)) (by simp (disch := omega) only [go_sem]) rfl rfl trivial (.inl rfl) ?_)
  by_cases hbc : b = c
  ·simp (disch := omega) only [go_sem, hbc, decide_true]
   refine hJ _ (i + 1) ⟨by simp at hlt; omega, (by rw [List.take_add_one, List.take_add_one, hb, hc, hP, hbc])⟩ (by simp at hlt; omega) (Imp.weak (by simp (disch := omega) only [go_sem]) (by simp (disch := omega) only [go_sem]))
  ·simp (disch := omega) only [go_sem, hbc, decide_false]
   refine ret1 _ ?_
   simp (disch := omega) only [go_sem]
   refine wb ?_
   have : l ≠ m := fun h => hbc (by rw [h, hc] at hb; simpa using hb.symm)
   simp [this]
 ·subst hil
  rw [List.take_length, hn, List.take_length] at hP
  refine ret1 _ ?_
  simp (disch := omega) only [go_sem]
  exact wb (by simp [hP])
theorem f115_eq : ∀ (N : Nat) (e : Expr), SizeOf.sizeOf e < N → ∀ f : Expr, FnOK C0 115 [.agg e.c, .agg f.c] [] (B (eqE e f)) []
 | 0, _, h, _ => by omega
 | N + 1, e, h, f => by
  refine FnOK.assume (fn := Tryz.f115) (c := Tryz.f115.body.getD .skip) (by kernel_rfl) (by kernel_rfl) (by kernel_rfl) fun hlen => ?_
  simp only [lensL, lens, Expr.c_def, List.length_map, and_true, true_and] at hlen
  refine FnOK.intro (fn := Tryz.f115) (c := Tryz.f115.body.getD .skip) (by kernel_rfl) (by kernel_rfl) (by kernel_rfl) (by kernel_rfl) (by simp [Tryz.f115]) (by simp [names]) ?_
  unfold Tryz.f115
  simp (disch := omega) only [go_sem]
  by_cases h1 : e.k = f.k
  rotate_left
  ·have e1 : (e.k != f.k) = true := by simp [h1]
   simp (disch := omega) only [go_sem, e1]
   refine ret1 _ ?_
   simp (disch := omega) only [go_sem]
   exact wb (by simp [eqE_def, h1])
  have e1 : (e.k != f.k) = false := by simp [h1]
  simp (disch := omega) only [go_sem, e1]
  by_cases h2 : e.atom = f.atom
  rotate_left
  ·simp (disch := omega) only [go_sem, h2, decide_false, Bool.not_false]
   refine ret1 _ ?_
   simp (disch := omega) only [go_sem]
   exact wb (by simp [eqE_def, h2])
  have e2 : decide (e.atom = f.atom) = true := decide_eq_true h2
  simp (disch := omega) only [go_sem, e2, Bool.not_true]
  by_cases hn : e.kids.length = f.kids.length
  rotate_left
  ·have e3 : ((e.kids.length : Int) != f.kids.length) = true := by simp only [bne_iff_ne, ne_eq]; omega
   have e2 : eqAll eqE e.kids f.kids = false := Bool.eq_false_iff.2 fun h => hn (eqAll_len h)
   simp (disch := omega) only [go_sem, e3]
   refine ret1 _ ?_
   simp (disch := omega) only [go_sem]
   exact wb (by simp [eqE_def, e2])
  have e3 : ((e.kids.length : Int) != f.kids.length) = false := by simp [hn]
  simp (disch := omega) only [go_sem, e3]
  refine loop_intro (α := Nat) (fun i => ⟨[(5, I i), (2, .ptr 128 0), (3, .ptr 192 0)], [(128, e.c), (192, f.c)]⟩) (fun i => i ≤ (e.kids).length ∧ eqAll eqE (e.kids.take i) (f.kids.take i) = true) (fun i => (e.kids).length - i) 0 ⟨by omega, rfl⟩ ?_ ?_
  ·refine Imp.weak ?_ ?_
   all_goals (try simp (disch := omega) only [go_sem])
   all_goals (try (repeat' (with_reducible apply And.intro)))
   all_goals (first | exact .nilOwn (by omega) | exact .nilNo (by omega) | exact .sl (by simp []) | exact .int (by simp []) | exact .eq (by simp []))
  rintro i ⟨hi, hP⟩ J hJ
  simp (disch := omega) only [go_sem]
  refine And.intro (fun hlt => ?_) (fun hge => ?_)
  rotate_left
  have hil : i = (e.kids).length := by simp at hge; omega
  rotate_left
  obtain ⟨b, hb⟩ : ∃ b, (e.kids)[i]? = some b := ⟨_, List.getElem?_eq_getElem (by simp at hlt; omega)⟩
  have hbm := List.mem_of_getElem? hb
  have hlt2 : i < (e.kids).length := by simp at hlt; omega
  refine draw_mk 10 [([], [2]), ([0], [34]), ([], [5]), ([0, 1, 2], [35, 36]), ([0, 1, 2, 3], [37]), ([], [3]), ([5], [39]), ([], [5]), ([5, 6, 7], [40, 41]), ([5, 6, 7, 8], [42]), ([0, 1, 2, 3, 4, 5, 6, 7, 8, 9], []), ([0, 1, 2, 3, 4, 5, 6, 7, 8, 9, 10], [])] fol (by kernel_rfl) ?_
  simp (disch := omega) only [go_sem, hb]
  ·have hsz := kid_lt hbm
   obtain ⟨c, hc⟩ : ∃ c, f.kids[i]? = some c := ⟨_, List.getElem?_eq_getElem (by omega)⟩
   obtain ⟨k1, k2⟩ := eqAll_at (f := eqE) hn hb hc hP
   simp (disch := omega) only [go_sem, hb, hc]
   first
    | (refine call_pure (f115_eq N b (by omega) c) (by simp (disch := omega) only [go_sem, Expr.c_def]) rfl ?_)
    | (refine freeCall_mk ⟨⟨[], [], []⟩, [], []⟩ (f115_eq N b (by omega) c) (by simp (disch := omega) only [go_sem, Expr.c_def]) rfl rfl trivial (.inl rfl) ?_)
   cases hbc : eqE b c
   ·simp (disch := omega) only [go_sem]
    refine ret1 _ ?_
    simp (disch := omega) only [go_sem]
    exact wb (by simp [eqE_def, k2 hbc])
   ·simp (disch := omega) only [go_sem]
    refine hJ _ (i + 1) ⟨by simp at hlt; omega, (k1.trans hbc)⟩ (by simp at hlt; omega) (Imp.weak (by simp (disch := omega) only [go_sem]) (by simp (disch := omega) only [go_sem]))
  ·subst hil
   rw [List.take_length, hn, List.take_length] at hP
   refine ret1 _ ?_
   simp (disch := omega) only [go_sem]
   exact wb (by simp [eqE_def, h1, h2, hP])
theorem f67_eq (a b : Need) : FnOK C0 67 [.agg a.c, .agg b.c] [] (B (eqN a b)) [] := by
 refine FnOK.intro (fn := Tryz.f67) (c := Tryz.f67.body.getD .skip) (by kernel_rfl) (by kernel_rfl) (by kernel_rfl) (by kernel_rfl) (by simp [Tryz.f67]) (by simp [names]) ?_
 unfold Tryz.f67
 simp (disch := omega) only [go_sem]
 by_cases h1 : a.proc = b.proc
 rotate_left
 ·simp (disch := omega) only [go_sem, h1, decide_false]
  refine ret1 _ ?_
  simp (disch := omega) only [go_sem]
  exact wb (by simp [eqN, h1])
 simp (disch := omega) only [go_sem, h1, decide_true]
 by_cases h2 : a.gen = b.gen
 rotate_left
 ·have e1 : (a.gen == b.gen) = false := by simp [h2]
  simp (disch := omega) only [go_sem, e1]
  refine ret1 _ ?_
  simp (disch := omega) only [go_sem]
  exact wb (by simp [eqN, h2])
 have e1 : (a.gen == b.gen) = true := by simp [h2]
 simp (disch := omega) only [go_sem, e1]
 refine call_pure (f115_eq _ a.expr (Nat.lt_succ_self _) b.expr) (by simp (disch := omega) only [go_sem, Expr.c_def]) rfl ?_
 simp (disch := omega) only [go_sem]
 refine ret1 _ ?_
 simp (disch := omega) only [go_sem]
 exact wb (by simp [eqN, h1, h2])
theorem f33_eq (a d : WS) (h : Few a) : FnOK C0 33 [.agg a.c, .agg d.c] [] (B (decide (a.queues = d.queues) && eqAll eqN a.needs d.needs)) [] := by
 have a1 := h.nq
 have a2 := h.nn
 refine FnOK.intro (fn := Tryz.f33) (c := Tryz.f33.body.getD .skip) (by kernel_rfl) (by kernel_rfl) (by kernel_rfl) (by kernel_rfl) (by simp [Tryz.f33]) (by simp [names]) ?_
 unfold Tryz.f33
 simp (disch := omega) only [go_sem]
 refine call_pure (f66_eq a.queues d.queues (by omega) h.aq) (by simp (disch := omega) only [go_sem]) rfl ?_
 by_cases h1 : a.queues = d.queues
 rotate_left
 ·simp (disch := omega) only [go_sem, h1, decide_false, Bool.not_false]
  refine ret1 _ ?_
  simp (disch := omega) only [go_sem]
  try exact wb (by simp [h1])
 have d1 : decide (a.queues = d.queues) = true := decide_eq_true h1
 simp (disch := omega) only [go_sem, d1, Bool.not_true]
 by_cases hn : a.needs.length = d.needs.length
 rotate_left
 ·have e3 : ((a.needs.length : Int) != d.needs.length) = true := by simp only [bne_iff_ne, ne_eq]; omega
  have e2 : eqAll eqN a.needs d.needs = false := Bool.eq_false_iff.2 fun h => hn (eqAll_len h)
  simp (disch := omega) only [go_sem, e3]
  refine ret1 _ ?_
  simp (disch := omega) only [go_sem]
  exact wb (by simp [e2])
 have e3 : ((a.needs.length : Int) != d.needs.length) = false := by simp [hn]
 simp (disch := omega) only [go_sem, e3]
 refine loop_intro (α := Nat) (fun i => ⟨[(5, I i), (2, .ptr 128 0), (3, .ptr 192 0)], [(128, a.c), (192, d.c)]⟩) (fun i => i ≤ (a.needs).length ∧ eqAll eqN (a.needs.take i) (d.needs.take i) = true) (fun i => (a.needs).length - i) 0 ⟨by omega, rfl⟩ ?_ ?_
 ·refine Imp.weak ?_ ?_
  all_goals (try simp (disch := omega) only [go_sem])
  all_goals (try (repeat' (with_reducible apply And.intro)))
  all_goals (first | exact .nilOwn (by omega) | exact .nilNo (by omega) | exact .sl (by simp []) | exact .int (by simp []) | exact .eq (by simp []))
 rintro i ⟨hi, hP⟩ J hJ
 simp (disch := omega) only [go_sem]
 refine And.intro (fun hlt => ?_) (fun hge => ?_)
 rotate_left
 have hil : i = (a.needs).length := by simp at hge; omega
 rotate_left
 obtain ⟨b, hb⟩ : ∃ b, (a.needs)[i]? = some b := ⟨_, List.getElem?_eq_getElem (by simp at hlt; omega)⟩
 have hbm := List.mem_of_getElem? hb
 have hlt2 : i < (a.needs).length := by simp at hlt; omega
 refine draw_mk 10 [([], [2]), ([0], [28]), ([], [5]), ([0, 1, 2], [29, 30]), ([0, 1, 2, 3], [31]), ([], [3]), ([5], [33]), ([], [5]), ([5, 6, 7], [34, 35]), ([5, 6, 7, 8], [36]), ([0, 1, 2, 3, 4, 5, 6, 7, 8, 9], []), ([0, 1, 2, 3, 4, 5, 6, 7, 8, 9, 10], [])] fol (by kernel_rfl) ?_
 simp (disch := omega) only [go_sem, hb]
 ·obtain ⟨c, hc⟩ : ∃ c, d.needs[i]? = some c := ⟨_, List.getElem?_eq_getElem (by omega)⟩
  obtain ⟨k1, k2⟩ := eqAll_at (f := eqN) hn hb hc hP
  simp (disch := omega) only [go_sem, hb, hc]
  first | (refine call_pure (f67_eq b c) (by simp (disch := omega) only [go_sem]) rfl ?_) | (refine freeCall_mk ⟨⟨[], [], []⟩, [], []⟩ (f67_eq b c) (by simp (disch := omega) only [go_sem]) rfl rfl trivial (.inl rfl) ?_)
  cases hbc : eqN b c
  ·simp (disch := omega) only [go_sem]
   refine ret1 _ ?_
   simp (disch := omega) only [go_sem]
   exact wb (by simp [k2 hbc])
  ·simp (disch := omega) only [go_sem]
   refine hJ _ (i + 1) ⟨by simp at hlt; omega, (k1.trans hbc)⟩ (by simp at hlt; omega) (Imp.weak (by simp (disch := omega) only [go_sem]) (by simp (disch := omega) only [go_sem]))
 ·subst hil
  rw [List.take_length, hn, List.take_length] at hP
  refine ret1 _ ?_
  simp (disch := omega) only [go_sem]
  exact wb (by simp [h1, hP])
theorem f136_own (q : Queue) (h1 : q.holds.length ≤ 1000000) (h2 : q.convs.length ≤ 1000000) (h3 : q.waits.length ≤ 1000000) : FnOK C0 136 [.agg q.c] [] (.agg [.v (.string (str q.res.name)), .v (.int .i64 q.res.kind), .v (.int .i64 q.res.units), .v (.int .i64 q.res.home), holdsV q.holds, waitsV q.convs, .sl (.own 0 0) 7 (q.waits.map Wait.c), .v (.int .i64 q.gen)]) [] := by
 refine FnOK.intro (fn := Tryz.f136) (c := Tryz.f136.body.getD .skip) (by kernel_rfl) (by kernel_rfl) (by kernel_rfl) (by kernel_rfl) (by simp [Tryz.f136]) (by simp [names]) ?_
 unfold Tryz.f136
 simp (disch := omega) only [go_sem]
 refine ret_mk ⟨[(1024, 0)], [], [384, 704]⟩ _ (by (try simp (disch := omega) only [go_sem, resVs, resV]) <;> rfl) ⟨rfl, rfl⟩ (by simp) ?_ trivial
 simp (disch := omega) only [go_sem, holdsV]
def plainQ (q : Queue) : Queue := { q with gen := 0, waits := q.waits.map plainW }
def mixW (l : List Wait) (i : Nat) : List Wait := (l.take i).map plainW ++ l.drop i
theorem mixW_len (l : List Wait) (i : Nat) : (mixW l i).length = l.length := by simp [mixW]; omega
theorem mixW_get {l : List Wait} {i : Nat} (h : i ≤ l.length) : (mixW l i)[i]? = l[i]? := by
 unfold mixW
 rw [List.getElem?_append_right (by simp; omega)]
 simp [Nat.min_eq_left h]
theorem mixW_set {l : List Wait} {i : Nat} {b : Wait} (hb : l[i]? = some b) : (mixW l i).set i (plainW b) = mixW l (i + 1) := by
 have hlt : i < l.length := (List.getElem?_eq_some_iff.1 hb).1
 unfold mixW
 have hl : ((l.take i).map plainW).length = i := by simp; omega
 rw [List.set_append_right _ _ (by omega), hl, Nat.sub_self, List.take_add_one, hb]
 simp only [Option.toList_some, List.map_append, List.map_cons, List.map_nil, List.append_assoc, List.singleton_append]
 rw [List.drop_eq_getElem_cons hlt]
 rfl
theorem f88_ok (q : Queue) (h : allQ q ≤ 100) : FnOK C0 88 [.agg q.c] [] (.agg (plainQ q).c) [] := by
 obtain ⟨h1, h2, h3⟩ := allQ_parts h
 refine FnOK.intro (fn := Tryz.f88) (c := Tryz.f88.body.getD .skip) (by kernel_rfl) (by kernel_rfl) (by kernel_rfl) (by kernel_rfl) (by simp [Tryz.f88]) (by simp [names]) ?_
 unfold Tryz.f88
 simp (disch := omega) only [go_sem]
 refine callB_mk ⟨⟨[], [], []⟩, [(0, 320)], []⟩ (f136_own q h1 h2 h3) (by simp (disch := omega) only [go_sem]) rfl trivial (.inl rfl) ?_
 simp (disch := omega) only [go_sem]
 refine loop_intro (α := Nat) (fun i => ⟨[(3, I i), (1, .ptr 64 0), (2, .ptr 128 0)], [(64, [.v (.string (str q.res.name)), .v (.int .i64 q.res.kind), .v (.int .i64 q.res.units), .v (.int .i64 q.res.home), holdsV q.holds, waitsV q.convs, .sl (.own 320 0) 7 ((mixW q.waits i).map Wait.c), .v (.int .i64 0)]), (128, (⟨⟨[], 0, 0, 0⟩, [], [], [], 0⟩ : Queue).c)]⟩) (fun i => i ≤ q.waits.length) (fun i => q.waits.length - i) 0 (by omega) ?_ ?_
 ·refine Imp.weak ?_ ?_
  ·simp (disch := omega) only [go_sem]
  ·simp (disch := omega) only [go_sem]
   exact .sl (by simp [mixW])
 rintro i hi J hJ
 have hml := mixW_len q.waits i
 simp (disch := omega) only [go_sem, List.length_map, hml]
 refine And.intro (fun hlt => ?_) (fun hge => ?_)
 ·obtain ⟨b, hb⟩ : ∃ b, q.waits[i]? = some b := ⟨_, List.getElem?_eq_getElem (by simp at hlt; omega)⟩
  have hlt2 : i < q.waits.length := by simp at hlt; omega
  have hg := mixW_get hi
  rw [hb] at hg
  have hs := mixW_set hb
  simp (disch := omega) only [go_sem, List.length_map, hml, hg]
  refine hJ _ (i + 1) (by omega) (by omega) (Imp.weak (by simp (disch := omega) only [go_sem]) ?_)
  simp (disch := omega) only [go_sem]
  exact .sl (by rw [← hs, List.map_set]; simp [plainW, Wait.c])
 ·have hil : i = q.waits.length := by simp at hge; omega
  subst hil
  have e : mixW q.waits q.waits.length = q.waits.map plainW := by simp [mixW]
  simp (disch := omega) only [go_sem, e]
  refine ret_mk ⟨[], [], [320]⟩ _ (by (try simp (disch := omega) only [go_sem, resVs, resV]) <;> rfl) ⟨rfl, rfl⟩ (by simp) ?_ trivial
  simp (disch := omega) only [go_sem]
  exact .eq (by simp [plainQ, Queue.c])
theorem allQ_plain (q : Queue) : allQ (plainQ q) = allQ q := by simp [allQ, sizeQ, plainQ]
def alikeR (a b : WS) : Bool := decide (a.queues.map plainQ = b.queues.map plainQ) && eqAll eqN a.needs b.needs
theorem eqAll_map {α β : Type} [DecidableEq β] {f : α → α → Bool} {g : α → β} (h : ∀ a b, f a b = decide (g a = g b)) : ∀ l m : List α, eqAll f l m = decide (l.map g = m.map g)
 | [], [] => by simp [eqAll]
 | [], _ :: _ => by simp [eqAll]
 | _ :: _, [] => by simp [eqAll]
 | a :: l, b :: m => by
  simp only [eqAll, List.map_cons, eqAll_map h l m, h]
  refine Bool.eq_iff_iff.2 ?_
  simp
theorem alikeQ_plain (a b : Queue) : alikeQ a b = decide (plainQ a = plainQ b) := by
 have := eqAll_map (f := fun a b => decide (plainW a = plainW b)) (g := plainW) (fun _ _ => rfl) a.waits b.waits
 unfold alikeQ
 rw [this]
 obtain ⟨x1, x2, x3, x4, x5⟩ := a
 obtain ⟨y1, y2, y3, y4, y5⟩ := b
 refine Bool.eq_iff_iff.2 ?_
 simp [plainQ, and_assoc]
theorem alike_eq (a b : WS) : alikeR a b = alikeS a b := by
 unfold alikeR alikeS
 rw [eqAll_map alikeQ_plain]
set_option maxHeartbeats 2000000 in
theorem f48_ok (a d : WS) (ha : Few a) (hd : Few d) : FnOK C0 48 [.agg a.c, .agg d.c] [] (B (alikeS a d)) [] := by
 have a1 := ha.nq
 have a2 := ha.nn
 have d1 := hd.nq
 rw [← alike_eq]
 refine FnOK.intro (fn := Tryz.f48) (c := Tryz.f48.body.getD .skip) (by kernel_rfl) (by kernel_rfl) (by kernel_rfl) (by kernel_rfl) (by simp [Tryz.f48]) (by simp [names]) ?_
 unfold Tryz.f48
 simp (disch := omega) only [go_sem]
 refine draw_dag 1023 [(0, [(0, 1), (3, 8), (6, 64), (7, 128)]), (1, [(1, 3), (3, 9), (6, 65), (7, 129)]), (8, [(0, 9), (4, 24), (6, 72), (7, 136)]), (64, [(0, 65), (3, 72), (7, 192)]), (128, [(0, 129), (3, 136), (6, 192)]), (3, [(2, 7), (3, 11), (6, 67), (7, 131)]), (9, [(1, 11), (4, 25), (6, 73), (7, 137)]), (65, [(1, 67), (3, 73), (7, 193)]), (129, [(1, 131), (3, 137), (6, 193)]), (24, [(0, 25), (5, 56), (6, 88), (7, 152)]), (72, [(0, 73), (4, 88), (7, 200)]), (136, [(0, 137), (4, 152), (6, 200)]), (192, [(0, 193), (3, 200)]), (7, [(3, 15), (6, 71), (7, 135)]), (11, [(2, 15), (4, 27), (6, 75), (7, 139)]), (67, [(2, 71), (3, 75), (7, 195)]), (131, [(2, 135), (3, 139), (6, 195)]), (25, [(1, 27), (5, 57), (6, 89), (7, 153)]), (73, [(1, 75), (4, 89), (7, 201)]), (137, [(1, 139), (4, 153), (6, 201)]), (193, [(1, 195), (3, 201)]), (56, [(0, 57), (6, 120), (7, 184)]), (88, [(0, 89), (5, 120), (7, 216)]), (152, [(0, 153), (5, 184), (6, 216)]), (200, [(0, 201), (4, 216)]), (15, [(4, 31), (6, 79), (7, 143)]), (71, [(3, 79), (7, 199)]), (135, [(3, 143), (6, 199)]), (27, [(2, 31), (5, 59), (6, 91), (7, 155)]), (75, [(2, 79), (4, 91), (7, 203)]), (139, [(2, 143), (4, 155), (6, 203)]), (195, [(2, 199), (3, 203)]), (57, [(1, 59), (6, 121), (7, 185)]), (89, [(1, 91), (5, 121), (7, 217)]), (153, [(1, 155), (5, 185), (6, 217)]), (201, [(1, 203), (4, 217)]), (120, [(0, 121), (7, 248)]), (184, [(0, 185), (6, 248)]), (216, [(0, 217), (5, 248)]), (31, [(5, 63), (6, 95), (7, 159)]), (79, [(4, 95), (7, 207)]), (143, [(4, 159), (6, 207)]), (199, [(3, 207), (8, 455)]), (59, [(2, 63), (6, 123), (7, 187)]), (91, [(2, 95), (5, 123), (7, 219)]), (155, [(2, 159), (5, 187), (6, 219)]), (203, [(2, 207), (4, 219)]), (121, [(1, 123), (7, 249)]), (185, [(1, 187), (6, 249)]), (217, [(1, 219), (5, 249)]), (248, [(0, 249)]), (63, [(6, 127), (7, 191)]), (95, [(5, 127), (7, 223)]), (159, [(5, 191), (6, 223)]), (207, [(4, 223), (8, 463)]), (455, [(3, 463)]), (123, [(2, 127), (7, 251)]), (187, [(2, 191), (6, 251)]), (219, [(2, 223), (5, 251)]), (249, [(1, 251)]), (127, [(7, 255)]), (191, [(6, 255)]), (223, [(5, 255), (8, 479)]), (463, [(4, 479)]), (251, [(2, 255)]), (255, [(8, 511)]), (479, [(5, 511)]), (511, [(9, 1023)]), (1023, [])] (fun m => ⟨sel m [(1, 9, .ptr 128 1), (2, 10, needsV a.needs), (4, 11, .agg [.v (.slice none 0 0), needsV a.needs]), (8, 12, .ptr 192 1), (16, 13, needsV d.needs), (32, 14, .agg [.v (.slice none 0 0), needsV d.needs]), (64, 5, .ptr 320 0), (128, 6, .ptr 384 0)] ++ [(2, .ptr 128 0), (3, .ptr 192 0)], ((if m / 64 % 2 = 1 then [(320, (if m / 256 % 2 = 1 then [.v (.slice none 0 0), needsV a.needs] else [.v (.slice none 0 0), .v (.slice none 0 0)]))] else []) ++ ((if m / 128 % 2 = 1 then [(384, (if m / 512 % 2 = 1 then [.v (.slice none 0 0), needsV d.needs] else [.v (.slice none 0 0), .v (.slice none 0 0)]))] else []) ++ [(128, a.c), (192, d.c)]))⟩) fol (by kernel_rfl) ?_ ?_ ?_
 ·exact Imp.weak (by simp (disch := omega) only [go_sem]) (by simp (disch := omega) only [go_sem, List.nil_append])
 ·simp only [dagP_cons, dagE_cons, dagP_nil, dagE_nil, and_true]
  repeat' (with_reducible refine And.intro ?_ ?_)
  all_goals simp (disch := omega) only [go_sem, List.nil_append, List.cons_append]
  all_goals exact Imp.weak (by simp (disch := omega) only [go_sem]) (by simp (disch := omega) only [go_sem, List.nil_append, List.cons_append])
 simp (disch := omega) only [go_sem, List.nil_append, List.cons_append]
 refine loop_intro (α := Nat) (fun i => ⟨[(7, I i), (2, .ptr 128 0), (3, .ptr 192 0), (5, .ptr 320 0), (6, .ptr 384 0)], [(128, a.c), (192, d.c), (320, [.sl (.own 1984 0) 8 (((a.queues.take i).map plainQ).map Queue.c), needsV a.needs]), (384, [.v (.slice none 0 0), needsV d.needs])]⟩) (fun i => i ≤ (a.queues).length ∧ True) (fun i => (a.queues).length - i) 0 ⟨by omega, trivial⟩ ?_ ?_
 ·refine Imp.weak ?_ ?_
  all_goals (try simp (disch := omega) only [go_sem])
  all_goals (try (repeat' (with_reducible apply And.intro)))
  all_goals (first | exact .nilOwn (by omega) | exact .nilNo (by omega) | exact .sl (by simp []) | exact .int (by simp []) | exact .eq (by simp []))
 rintro i ⟨hi, hP⟩ J hJ
 simp (disch := omega) only [go_sem]
 refine And.intro (fun hlt => ?_) (fun hge => ?_)
 rotate_left
 have hil : i = (a.queues).length := by simp at hge; omega
 rotate_left
 obtain ⟨b, hb⟩ : ∃ b, (a.queues)[i]? = some b := ⟨_, List.getElem?_eq_getElem (by simp at hlt; omega)⟩
 have hbm := List.mem_of_getElem? hb
 have hlt2 : i < (a.queues).length := by simp at hlt; omega
 refine draw_mk 9 [([], [5]), ([0], [22]), ([], [2]), ([2], [24]), ([], [7]), ([2, 3, 4], [25, 26]), ([2, 3, 4, 5], [27]), ([2, 3, 4, 5, 6], [28]), ([2, 3, 4, 5, 6, 7], [29]), ([0, 1, 2, 3, 4, 5, 6, 7, 8], []), ([0, 1, 2, 3, 4, 5, 6, 7, 8, 9], []), ([0, 1, 2, 3, 4, 5, 6, 7, 8, 9, 10], [])] fol (by kernel_rfl) ?_
 simp (disch := omega) only [go_sem, hb]
 ·have hbd : min i a.queues.length + 1 ≤ 4294967296 := by omega
  first | (refine call_pure (f88_ok b (ha.aq b hbm)) (by simp (disch := omega) only [go_sem]) rfl ?_) | (refine freeCall_mk ⟨⟨[], [], []⟩, [], []⟩ (f88_ok b (ha.aq b hbm)) (by simp (disch := omega) only [go_sem]) rfl rfl trivial (.inl rfl) ?_)
  simp (disch := omega) only [go_sem, hb, List.length_map, List.length_take]
  refine hJ _ (i + 1) ⟨by omega, trivial⟩ (by omega) (Imp.weak (by simp (disch := omega) only [go_sem]) ?_)
  simp (disch := omega) only [go_sem]
  exact .sl (by simp [List.take_add_one, hb, Queue.c])
 subst hil
 clear hJ
 refine loop_intro (α := Nat) (fun i => ⟨[(8, I i), (2, .ptr 128 0), (3, .ptr 192 0), (5, .ptr 320 0), (6, .ptr 384 0)], [(128, a.c), (192, d.c), (320, [.sl (.own 1984 0) 8 ((a.queues.map plainQ).map Queue.c), needsV a.needs]), (384, [.sl (.own 3136 0) 8 (((d.queues.take i).map plainQ).map Queue.c), needsV d.needs])]⟩) (fun i => i ≤ (d.queues).length ∧ True) (fun i => (d.queues).length - i) 0 ⟨by omega, trivial⟩ ?_ ?_
 ·refine Imp.weak ?_ ?_
  all_goals (try simp (disch := omega) only [go_sem])
  all_goals (try (repeat' (with_reducible apply And.intro)))
  all_goals (first | exact .nilOwn (by omega) | exact .nilNo (by omega) | exact .sl (by simp []) | exact .int (by simp []) | exact .eq (by simp []))
 rintro i ⟨hi, hP⟩ J hJ
 simp (disch := omega) only [go_sem]
 refine And.intro (fun hlt => ?_) (fun hge => ?_)
 rotate_left
 have hil : i = (d.queues).length := by simp at hge; omega
 rotate_left
 obtain ⟨b, hb⟩ : ∃ b, (d.queues)[i]? = some b := ⟨_, List.getElem?_eq_getElem (by simp at hlt; omega)⟩
 have hbm := List.mem_of_getElem? hb
 have hlt2 : i < (d.queues).length := by simp at hlt; omega
 refine draw_mk 9 [([], [6]), ([0], [40]), ([], [3]), ([2], [42]), ([], [8]), ([2, 3, 4], [43, 44]), ([2, 3, 4, 5], [45]), ([2, 3, 4, 5, 6], [46]), ([2, 3, 4, 5, 6, 7], [47]), ([0, 1, 2, 3, 4, 5, 6, 7, 8], []), ([0, 1, 2, 3, 4, 5, 6, 7, 8, 9], []), ([0, 1, 2, 3, 4, 5, 6, 7, 8, 9, 10], [])] fol (by kernel_rfl) ?_
 simp (disch := omega) only [go_sem, hb]
 ·have hbd : min i d.queues.length + 1 ≤ 4294967296 := by omega
  first | (refine call_pure (f88_ok b (hd.aq b hbm)) (by simp (disch := omega) only [go_sem]) rfl ?_) | (refine freeCall_mk ⟨⟨[], [], []⟩, [], []⟩ (f88_ok b (hd.aq b hbm)) (by simp (disch := omega) only [go_sem]) rfl rfl trivial (.inl rfl) ?_)
  simp (disch := omega) only [go_sem, hb, List.length_map, List.length_take]
  refine hJ _ (i + 1) ⟨by omega, trivial⟩ (by omega) (Imp.weak (by simp (disch := omega) only [go_sem]) ?_)
  simp (disch := omega) only [go_sem]
  exact .sl (by simp [List.take_add_one, hb, Queue.c])
 subst hil
 have hfa : Few ⟨a.queues.map plainQ, a.needs⟩ := ⟨by simpa using a1, a2, fun q hq => by
  obtain ⟨q0, h1, rfl⟩ := List.mem_map.1 hq
  rw [allQ_plain]
  exact ha.aq q0 h1⟩
 refine call_lent [1984, 3136] (f33_eq ⟨a.queues.map plainQ, a.needs⟩ ⟨d.queues.map plainQ, d.needs⟩ hfa) ?_ rfl trivial ?_
 ·simp (disch := omega) only [go_sem, List.take_length]
  exact ⟨.eq (by simp), .eq (by simp)⟩
 simp (disch := omega) only [go_sem]
 refine ret1 _ ?_
 simp (disch := omega) only [go_sem]
 exact wb rfl
theorem f16_ok (w : Wit) (s : WS) (hw : Few w.state) (h : Few s) (hm : w.members.length ≤ 1000000) : FnOK C0 16 [.agg w.c, .agg s.c] [] (B (agreesS w s)) [] := by
 refine FnOK.intro (fn := Tryz.f16) (c := Tryz.f16.body.getD .skip) (by kernel_rfl) (by kernel_rfl) (by kernel_rfl) (by kernel_rfl) (by simp [Tryz.f16]) (by simp [names]) ?_
 unfold Tryz.f16
 simp (disch := omega) only [go_sem]
 refine call_pure (f28_ok s w.members h hm) (by simp (disch := omega) only [go_sem]) rfl ?_
 have hf := few_Restrict h w.members
 unfold agreesS
 generalize RestrictS s w.members = r at hf
 by_cases h0 : r.2 = 0
 ·have e : (r.2 == 0) = true := by simp [h0]
  simp (disch := omega) only [go_sem, e]
  refine call_pure (f48_ok r.1 w.state hf hw) (by simp (disch := omega) only [go_sem]) rfl ?_
  simp (disch := omega) only [go_sem]
  refine ret1 _ ?_
  simp (disch := omega) only [go_sem]
  exact wb (by simp [h0])
 ·have e : (r.2 == 0) = false := by simp [h0]
  simp (disch := omega) only [go_sem, e]
  refine ret1 _ ?_
  simp (disch := omega) only [go_sem]
  exact wb (by simp [h0])
end Go.Rd
