/- part 24 of the proof -/
import Derived.Test.YtaelofhhkpacbaaGreatDoorT23
set_option linter.all false
open Go Go.Abs Go.Proofs
set_option maxRecDepth 100000
namespace Go.Rd
@[go_sem] theorem holdEq (p q : Hold) : (p.proc.site == q.proc.site && (p.proc.inc == q.proc.inc && (p.proc.num == q.proc.num && decide (p.amt = q.amt)))) = decide (p = q) := by
  obtain ⟨⟨a, b, c⟩, ⟨d, e⟩⟩ := p
  obtain ⟨⟨a', b', c'⟩, ⟨d', e'⟩⟩ := q
  refine Bool.eq_iff_iff.2 ?_
  simp [and_assoc]
@[go_sem] theorem waitEq (p q : Wait) : (p.proc.site == q.proc.site && (p.proc.inc == q.proc.inc && (p.proc.num == q.proc.num && (p.amt.mode == q.amt.mode && (p.amt.units == q.amt.units && (p.prio == q.prio && p.passed == q.passed)))))) = decide (p = q) := by
  obtain ⟨⟨a, b, c⟩, ⟨d, e⟩, f, g⟩ := p
  obtain ⟨⟨a', b', c'⟩, ⟨d', e'⟩, f', g'⟩ := q
  refine Bool.eq_iff_iff.2 ?_
  simp [and_assoc]
@[go_sem] theorem resEq (p q : Res) : (p.name == q.name && (p.kind == q.kind && (p.units == q.units && p.home == q.home))) = decide (p = q) := by
  obtain ⟨a, b, c, d⟩ := p
  obtain ⟨a', b', c', d'⟩ := q
  refine Bool.eq_iff_iff.2 ?_
  simp
def plainW (w : Wait) : Wait := { w with passed := 0 }
@[go_sem] theorem plainWEq (p q : Wait) : (p.proc.site == q.proc.site && (p.proc.inc == q.proc.inc && (p.proc.num == q.proc.num && (p.amt.mode == q.amt.mode && (p.amt.units == q.amt.units && p.prio == q.prio))))) = decide (plainW p = plainW q) := by
  obtain ⟨⟨a, b, c⟩, ⟨d, e⟩, f, g⟩ := p
  obtain ⟨⟨a', b', c'⟩, ⟨d', e'⟩, f', g'⟩ := q
  refine Bool.eq_iff_iff.2 ?_
  simp [and_assoc, plainW]
theorem f131_ok (l m : List Hold) (hl : l.length ≤ 1000000) (hm : m.length ≤ 1000000) : FnOK C0 131 [holdsV l, holdsV m] [] (B (decide (l = m))) [] := by
  refine FnOK.intro (fn := Tryz.f131) (c := Tryz.f131.body.getD .skip) (by kernel_rfl) (by kernel_rfl) (by kernel_rfl) (by kernel_rfl) (by simp [Tryz.f131]) (by simp [names]) ?_
  unfold Tryz.f131
  by_cases hn : l.length = m.length
  rotate_left
  · have e1 : ((l.length : Int) != m.length) = true := by simp only [bne_iff_ne, ne_eq]; omega
    have e2 : l ≠ m := fun h => hn (by rw [h])
    simp (disch := omega) only [go_sem, e1]
    refine ret_mk ⟨[], [], []⟩ _ (by (try simp (disch := omega) only [go_sem, resVs, resV]) <;> rfl) ⟨rfl, rfl⟩ (by simp) ?_ trivial
    simp (disch := omega) only [go_sem]
    exact wb (by simp [e2])
  have e1 : ((l.length : Int) != m.length) = false := by simp [hn]
  simp (disch := omega) only [go_sem, e1]
  refine loop_intro (α := Nat) (fun i => ⟨[(13, I i), (12, I l.length), (0, holdsV l), (1, holdsV m)], []⟩) (fun i => i ≤ (l).length ∧ l.take i = m.take i) (fun i => (l).length - i) 0 ⟨by omega, rfl⟩ ?_ ?_
  · refine Imp.weak ?_ ?_
    all_goals (try simp (disch := omega) only [go_sem])
    all_goals (try (repeat' (with_reducible apply And.intro)))
    all_goals (first | exact .nilOwn (by omega) | exact .nilNo (by omega) | exact .sl (by simp []) | exact .int (by simp []) | exact .eq (by simp []))
  rintro i ⟨hi, hP⟩ J hJ
  simp (disch := omega) only [go_sem]
  refine And.intro (fun hlt => ?_) (fun hge => ?_)
  rotate_left
  have hil : i = (l).length := by simp at hge; omega
  rotate_left
  obtain ⟨b, hb⟩ : ∃ b, (l)[i]? = some b := ⟨_, List.getElem?_eq_getElem (by simp at hlt; omega)⟩
  have hbm := List.mem_of_getElem? hb
  have hlt2 : i < (l).length := by simp at hlt; omega
  refine draw_mk 8 [([], [0]), ([], [5]), ([0, 1], [16, 17]), ([0, 1, 2], [18]), ([], [1]), ([], [5]), ([4, 5], [20, 21]), ([4, 5, 6], [22]), ([0, 1, 2, 3, 4, 5, 6, 7], [])] fol (by kernel_rfl) ?_
  simp (disch := omega) only [go_sem, List.getElem?_map, hb]
  · obtain ⟨c, hc⟩ : ∃ c, m[i]? = some c := ⟨_, List.getElem?_eq_getElem (by omega)⟩
    simp (disch := omega) only [go_sem, List.getElem?_map, hb, hc]
    by_cases hbc : b = c
    · simp (disch := omega) only [go_sem, hbc, decide_true]
      refine hJ _ (i + 1) ⟨by simp at hlt; omega, (by rw [List.take_add_one, List.take_add_one, hb, hc, hP, hbc])⟩ (by simp at hlt; omega) (Imp.weak (by simp (disch := omega) only [go_sem]) (by simp (disch := omega) only [go_sem]))
    · simp (disch := omega) only [go_sem, hbc, decide_false]
      refine ret_mk ⟨[], [], []⟩ _ (by (try simp (disch := omega) only [go_sem, resVs, resV]) <;> rfl) ⟨rfl, rfl⟩ (by simp) ?_ trivial
      simp (disch := omega) only [go_sem]
      refine wb ?_
      have : l ≠ m := fun h => hbc (by rw [h, hc] at hb; simpa using hb.symm)
      simp [this]
  · subst hil
    rw [List.take_length, hn, List.take_length] at hP
    refine ret_mk ⟨[], [], []⟩ _ (by (try simp (disch := omega) only [go_sem, resVs, resV]) <;> rfl) ⟨rfl, rfl⟩ (by simp) ?_ trivial
    simp (disch := omega) only [go_sem]
    exact wb (by simp [hP])
theorem f132_ok (l m : List Wait) (hl : l.length ≤ 1000000) (hm : m.length ≤ 1000000) : FnOK C0 132 [waitsV l, waitsV m] [] (B (decide (l = m))) [] := by
  refine FnOK.intro (fn := Tryz.f132) (c := Tryz.f132.body.getD .skip) (by kernel_rfl) (by kernel_rfl) (by kernel_rfl) (by kernel_rfl) (by simp [Tryz.f132]) (by simp [names]) ?_
  unfold Tryz.f132
  by_cases hn : l.length = m.length
  rotate_left
  · have e1 : ((l.length : Int) != m.length) = true := by simp only [bne_iff_ne, ne_eq]; omega
    have e2 : l ≠ m := fun h => hn (by rw [h])
    simp (disch := omega) only [go_sem, e1]
    refine ret_mk ⟨[], [], []⟩ _ (by (try simp (disch := omega) only [go_sem, resVs, resV]) <;> rfl) ⟨rfl, rfl⟩ (by simp) ?_ trivial
    simp (disch := omega) only [go_sem]
    exact wb (by simp [e2])
  have e1 : ((l.length : Int) != m.length) = false := by simp [hn]
  simp (disch := omega) only [go_sem, e1]
  refine loop_intro (α := Nat) (fun i => ⟨[(13, I i), (12, I l.length), (0, waitsV l), (1, waitsV m)], []⟩) (fun i => i ≤ (l).length ∧ l.take i = m.take i) (fun i => (l).length - i) 0 ⟨by omega, rfl⟩ ?_ ?_
  · refine Imp.weak ?_ ?_
    all_goals (try simp (disch := omega) only [go_sem])
    all_goals (try (repeat' (with_reducible apply And.intro)))
    all_goals (first | exact .nilOwn (by omega) | exact .nilNo (by omega) | exact .sl (by simp []) | exact .int (by simp []) | exact .eq (by simp []))
  rintro i ⟨hi, hP⟩ J hJ
  simp (disch := omega) only [go_sem]
  refine And.intro (fun hlt => ?_) (fun hge => ?_)
  rotate_left
  have hil : i = (l).length := by simp at hge; omega
  rotate_left
  obtain ⟨b, hb⟩ : ∃ b, (l)[i]? = some b := ⟨_, List.getElem?_eq_getElem (by simp at hlt; omega)⟩
  have hbm := List.mem_of_getElem? hb
  have hlt2 : i < (l).length := by simp at hlt; omega
  refine draw_mk 8 [([], [0]), ([], [5]), ([0, 1], [16, 17]), ([0, 1, 2], [18]), ([], [1]), ([], [5]), ([4, 5], [20, 21]), ([4, 5, 6], [22]), ([0, 1, 2, 3, 4, 5, 6, 7], [])] fol (by kernel_rfl) ?_
  simp (disch := omega) only [go_sem, List.getElem?_map, hb]
  · obtain ⟨c, hc⟩ : ∃ c, m[i]? = some c := ⟨_, List.getElem?_eq_getElem (by omega)⟩
    simp (disch := omega) only [go_sem, List.getElem?_map, hb, hc]
    by_cases hbc : b = c
    · simp (disch := omega) only [go_sem, hbc, decide_true]
      refine hJ _ (i + 1) ⟨by simp at hlt; omega, (by rw [List.take_add_one, List.take_add_one, hb, hc, hP, hbc])⟩ (by simp at hlt; omega) (Imp.weak (by simp (disch := omega) only [go_sem]) (by simp (disch := omega) only [go_sem]))
    · simp (disch := omega) only [go_sem, hbc, decide_false]
      refine ret_mk ⟨[], [], []⟩ _ (by (try simp (disch := omega) only [go_sem, resVs, resV]) <;> rfl) ⟨rfl, rfl⟩ (by simp) ?_ trivial
      simp (disch := omega) only [go_sem]
      refine wb ?_
      have : l ≠ m := fun h => hbc (by rw [h, hc] at hb; simpa using hb.symm)
      simp [this]
  · subst hil
    rw [List.take_length, hn, List.take_length] at hP
    refine ret_mk ⟨[], [], []⟩ _ (by (try simp (disch := omega) only [go_sem, resVs, resV]) <;> rfl) ⟨rfl, rfl⟩ (by simp) ?_ trivial
    simp (disch := omega) only [go_sem]
    exact wb (by simp [hP])
theorem f134_ok (a b : Wait) : FnOK C0 134 [.agg a.c, .agg b.c] [] (B (decide (plainW a = plainW b))) [] := by
  refine FnOK.intro (fn := Tryz.f134) (c := Tryz.f134.body.getD .skip) (by kernel_rfl) (by kernel_rfl) (by kernel_rfl) (by kernel_rfl) (by simp [Tryz.f134]) (by simp [names]) ?_
  unfold Tryz.f134
  simp (disch := omega) only [go_sem]
  refine ret_mk ⟨[], [], []⟩ _ (by (try simp (disch := omega) only [go_sem, resVs, resV]) <;> rfl) ⟨rfl, rfl⟩ (by simp) ?_ trivial
  simp (disch := omega) only [go_sem]
def eqAll {α : Type} (f : α → α → Bool) : List α → List α → Bool
  | [], [] => true
  | a :: l, b :: m => f a b && eqAll f l m
  | _, _ => false
theorem eqAll_len {α : Type} {f : α → α → Bool} : ∀ {l m : List α}, eqAll f l m = true → l.length = m.length
  | [], [], _ => rfl
  | [], _ :: _, h => by simp [eqAll] at h
  | _ :: _, [], h => by simp [eqAll] at h
  | a :: l, b :: m, h => by
    simp only [eqAll, Bool.and_eq_true] at h
    simp [eqAll_len h.2]
theorem eqAll_at {α : Type} {f : α → α → Bool} : ∀ {l m : List α} {i : Nat} {a b : α}, l.length = m.length → l[i]? = some a → m[i]? = some b → eqAll f (l.take i) (m.take i) = true → eqAll f (l.take (i + 1)) (m.take (i + 1)) = f a b ∧ (f a b = false → eqAll f l m = false)
  | [], _, i, a, b, _, ha, _, _ => by simp at ha
  | x :: l, [], i, a, b, hl, _, _, _ => by simp at hl
  | x :: l, y :: m, 0, a, b, hl, ha, hb, _ => by
    simp only [List.getElem?_cons_zero, Option.some.injEq] at ha hb
    subst ha; subst hb
    refine ⟨by simp [eqAll], fun h => by simp [eqAll, h]⟩
  | x :: l, y :: m, i + 1, a, b, hl, ha, hb, h => by
    simp only [List.getElem?_cons_succ] at ha hb
    simp only [List.take_succ_cons, eqAll, Bool.and_eq_true] at h ⊢
    obtain ⟨k1, k2⟩ := eqAll_at (by simpa using hl) ha hb h.2
    exact ⟨by rw [h.1, k1]; rfl, fun h3 => by rw [k2 h3]; simp⟩
theorem f133_ok (l m : List Wait) (hl : l.length ≤ 1000000) (hm : m.length ≤ 1000000) : FnOK C0 133 [waitsV l, waitsV m, .fn 134 []] [] (B (eqAll (fun a b => decide (plainW a = plainW b)) l m)) [] := by
  refine FnOK.intro (fn := Tryz.f133) (c := Tryz.f133.body.getD .skip) (by kernel_rfl) (by kernel_rfl) (by kernel_rfl) (by kernel_rfl) (by simp [Tryz.f133]) (by simp [names]) ?_
  unfold Tryz.f133
  by_cases hn : l.length = m.length
  rotate_left
  · have e1 : ((l.length : Int) != m.length) = true := by simp only [bne_iff_ne, ne_eq]; omega
    have e2 : eqAll (fun a b => decide (plainW a = plainW b)) l m = false := Bool.eq_false_iff.2 fun h => hn (eqAll_len h)
    simp (disch := omega) only [go_sem, e1]
    refine ret_mk ⟨[], [], []⟩ _ (by (try simp (disch := omega) only [go_sem, resVs, resV]) <;> rfl) ⟨rfl, rfl⟩ (by simp) ?_ trivial
    simp (disch := omega) only [go_sem]
    exact wb e2.symm
  have e1 : ((l.length : Int) != m.length) = false := by simp [hn]
  simp (disch := omega) only [go_sem, e1]
  refine loop_intro (α := Nat) (fun i => ⟨[(17, I i), (16, I l.length), (15, waitsV l), (1, waitsV m), (2, .fn 134 [])], []⟩) (fun i => i ≤ (l).length ∧ eqAll (fun a b => decide (plainW a = plainW b)) (l.take i) (m.take i) = true) (fun i => (l).length - i) 0 ⟨by omega, rfl⟩ ?_ ?_
  · refine Imp.weak ?_ ?_
    all_goals (try simp (disch := omega) only [go_sem])
    all_goals (try (repeat' (with_reducible apply And.intro)))
    all_goals (first | exact .nilOwn (by omega) | exact .nilNo (by omega) | exact .sl (by simp []) | exact .int (by simp []) | exact .eq (by simp []))
  rintro i ⟨hi, hP⟩ J hJ
  simp (disch := omega) only [go_sem]
  refine And.intro (fun hlt => ?_) (fun hge => ?_)
  rotate_left
  have hil : i = (l).length := by simp at hge; omega
  rotate_left
  obtain ⟨b, hb⟩ : ∃ b, (l)[i]? = some b := ⟨_, List.getElem?_eq_getElem (by simp at hlt; omega)⟩
  have hbm := List.mem_of_getElem? hb
  simp (disch := omega) only [go_sem, List.getElem?_map, hb]
  · obtain ⟨c, hc⟩ : ∃ c, m[i]? = some c := ⟨_, List.getElem?_eq_getElem (by simp at hlt; omega)⟩
    obtain ⟨k1, k2⟩ := eqAll_at (f := fun a b => decide (plainW a = plainW b)) hn hb hc hP
    simp (disch := omega) only [go_sem, List.getElem?_map, hc]
    refine call_pure (f134_ok b c) (by simp (disch := omega) only [go_sem]) rfl ?_
    cases hbc : decide (plainW b = plainW c)
    · simp (disch := omega) only [go_sem]
      refine ret_mk ⟨[], [], []⟩ _ (by (try simp (disch := omega) only [go_sem, resVs, resV]) <;> rfl) ⟨rfl, rfl⟩ (by simp) ?_ trivial
      simp (disch := omega) only [go_sem]
      exact wb (k2 hbc).symm
    · simp (disch := omega) only [go_sem]
      refine hJ _ (i + 1) ⟨by simp at hlt; omega, (k1.trans hbc)⟩ (by simp at hlt; omega) (Imp.weak (by simp (disch := omega) only [go_sem]) (by simp (disch := omega) only [go_sem]))
  · subst hil
    rw [List.take_length, hn, List.take_length] at hP
    refine ret_mk ⟨[], [], []⟩ _ (by (try simp (disch := omega) only [go_sem, resVs, resV]) <;> rfl) ⟨rfl, rfl⟩ (by simp) ?_ trivial
    simp (disch := omega) only [go_sem]
    exact wb hP.symm
def alikeQ (a b : Queue) : Bool := decide (a.res = b.res) && decide (a.holds = b.holds) && decide (a.convs = b.convs) && eqAll (fun a b => decide (plainW a = plainW b)) a.waits b.waits
theorem f85_ok (a b : Queue) (ha : allQ a ≤ 100) (hb : allQ b ≤ 100) : FnOK C0 85 [.agg a.c, .agg b.c] [] (B (alikeQ a b)) [] := by
  obtain ⟨a1, a2, a3⟩ := allQ_parts ha
  obtain ⟨b1, b2, b3⟩ := allQ_parts hb
  refine FnOK.intro (fn := Tryz.f85) (c := Tryz.f85.body.getD .skip) (by kernel_rfl) (by kernel_rfl) (by kernel_rfl) (by kernel_rfl) (by simp [Tryz.f85]) (by simp [names]) ?_
  unfold Tryz.f85
  simp (disch := omega) only [go_sem]
  by_cases h1 : a.res = b.res
  rotate_left
  · simp (disch := omega) only [go_sem, h1, decide_false]
    refine ret_mk ⟨[], [], []⟩ _ (by (try simp (disch := omega) only [go_sem, resVs, resV]) <;> rfl) ⟨rfl, rfl⟩ (by simp) ?_ trivial
    simp (disch := omega) only [go_sem]
    exact wb (by simp [alikeQ, h1])
  simp (disch := omega) only [go_sem, h1, decide_true]
  refine call_pure (f131_ok a.holds b.holds a1 b1) (by simp (disch := omega) only [go_sem]) rfl ?_
  cases h2 : decide (a.holds = b.holds)
  · simp (disch := omega) only [go_sem]
    refine ret_mk ⟨[], [], []⟩ _ (by (try simp (disch := omega) only [go_sem, resVs, resV]) <;> rfl) ⟨rfl, rfl⟩ (by simp) ?_ trivial
    simp (disch := omega) only [go_sem]
    exact wb (by simp only [alikeQ, h2, Bool.and_false, Bool.false_and])
  simp (disch := omega) only [go_sem]
  refine call_pure (f132_ok a.convs b.convs a2 b2) (by simp (disch := omega) only [go_sem]) rfl ?_
  cases h3 : decide (a.convs = b.convs)
  · simp (disch := omega) only [go_sem]
    refine ret_mk ⟨[], [], []⟩ _ (by (try simp (disch := omega) only [go_sem, resVs, resV]) <;> rfl) ⟨rfl, rfl⟩ (by simp) ?_ trivial
    simp (disch := omega) only [go_sem]
    exact wb (by simp only [alikeQ, h3, Bool.and_false, Bool.false_and])
  simp (disch := omega) only [go_sem]
  refine call_pure (f133_ok a.waits b.waits a3 b3) (by simp (disch := omega) only [go_sem]) rfl ?_
  simp (disch := omega) only [go_sem]
  refine ret_mk ⟨[], [], []⟩ _ (by (try simp (disch := omega) only [go_sem, resVs, resV]) <;> rfl) ⟨rfl, rfl⟩ (by simp) ?_ trivial
  simp (disch := omega) only [go_sem]
  exact wb (by simp only [alikeQ, h1, h2, h3, decide_true, Bool.true_and])
theorem f84_ok (l m : List Queue) (hl : l.length ≤ 1000000) (hm : m.length ≤ 1000000) (al : ∀ q ∈ l, allQ q ≤ 100) (am : ∀ q ∈ m, allQ q ≤ 100) : FnOK C0 84 [queuesV l, queuesV m, .fn 85 []] [] (B (eqAll alikeQ l m)) [] := by
  refine FnOK.intro (fn := Tryz.f84) (c := Tryz.f84.body.getD .skip) (by kernel_rfl) (by kernel_rfl) (by kernel_rfl) (by kernel_rfl) (by simp [Tryz.f84]) (by simp [names]) ?_
  unfold Tryz.f84
  by_cases hn : l.length = m.length
  rotate_left
  · have e1 : ((l.length : Int) != m.length) = true := by simp only [bne_iff_ne, ne_eq]; omega
    have e2 : eqAll alikeQ l m = false := Bool.eq_false_iff.2 fun h => hn (eqAll_len h)
    simp (disch := omega) only [go_sem, e1]
    refine ret_mk ⟨[], [], []⟩ _ (by (try simp (disch := omega) only [go_sem, resVs, resV]) <;> rfl) ⟨rfl, rfl⟩ (by simp) ?_ trivial
    simp (disch := omega) only [go_sem]
    exact wb e2.symm
  have e1 : ((l.length : Int) != m.length) = false := by simp [hn]
  simp (disch := omega) only [go_sem, e1]
  refine loop_intro (α := Nat) (fun i => ⟨[(17, I i), (16, I l.length), (15, queuesV l), (1, queuesV m), (2, .fn 85 [])], []⟩) (fun i => i ≤ (l).length ∧ eqAll alikeQ (l.take i) (m.take i) = true) (fun i => (l).length - i) 0 ⟨by omega, rfl⟩ ?_ ?_
  · refine Imp.weak ?_ ?_
    all_goals (try simp (disch := omega) only [go_sem])
    all_goals (try (repeat' (with_reducible apply And.intro)))
    all_goals (first | exact .nilOwn (by omega) | exact .nilNo (by omega) | exact .sl (by simp []) | exact .int (by simp []) | exact .eq (by simp []))
  rintro i ⟨hi, hP⟩ J hJ
  simp (disch := omega) only [go_sem]
  refine And.intro (fun hlt => ?_) (fun hge => ?_)
  rotate_left
  have hil : i = (l).length := by simp at hge; omega
  rotate_left
  obtain ⟨b, hb⟩ : ∃ b, (l)[i]? = some b := ⟨_, List.getElem?_eq_getElem (by simp at hlt; omega)⟩
  have hbm := List.mem_of_getElem? hb
  simp (disch := omega) only [go_sem, List.getElem?_map, hb]
  · obtain ⟨c, hc⟩ : ∃ c, m[i]? = some c := ⟨_, List.getElem?_eq_getElem (by simp at hlt; omega)⟩
    obtain ⟨k1, k2⟩ := eqAll_at (f := alikeQ) hn hb hc hP
    simp (disch := omega) only [go_sem, List.getElem?_map, hc]
    refine call_pure (f85_ok b c (al b hbm) (am c (List.mem_of_getElem? hc))) (by simp (disch := omega) only [go_sem]) rfl ?_
    cases hbc : alikeQ b c
    · simp (disch := omega) only [go_sem]
      refine ret_mk ⟨[], [], []⟩ _ (by (try simp (disch := omega) only [go_sem, resVs, resV]) <;> rfl) ⟨rfl, rfl⟩ (by simp) ?_ trivial
      simp (disch := omega) only [go_sem]
      exact wb (k2 hbc).symm
    · simp (disch := omega) only [go_sem]
      refine hJ _ (i + 1) ⟨by simp at hlt; omega, (k1.trans hbc)⟩ (by simp at hlt; omega) (Imp.weak (by simp (disch := omega) only [go_sem]) (by simp (disch := omega) only [go_sem]))
  · subst hil
    rw [List.take_length, hn, List.take_length] at hP
    refine ret_mk ⟨[], [], []⟩ _ (by (try simp (disch := omega) only [go_sem, resVs, resV]) <;> rfl) ⟨rfl, rfl⟩ (by simp) ?_ trivial
    simp (disch := omega) only [go_sem]
    exact wb hP.symm
end Go.Rd
open Go Go.Abs Go.Proofs
set_option maxRecDepth 100000
namespace Go.Rd
def eqE : Expr → Expr → Bool
  | .mk k a l, f => decide (k = f.k) && decide (a = f.atom) && go l f.kids
where go : List Expr → List Expr → Bool
  | [], [] => true
  | e :: l, f :: m => eqE e f && go l m
  | _, _ => false
theorem eqE_go : ∀ l m, eqE.go l m = eqAll eqE l m
  | [], [] => by simp [eqE.go, eqAll]
  | [], _ :: _ => by simp [eqE.go, eqAll]
  | _ :: _, [] => by simp [eqE.go, eqAll]
  | e :: l, f :: m => by simp [eqE.go, eqAll, eqE_go l m]
theorem eqE_def (e f : Expr) : eqE e f = (decide (e.k = f.k) && decide (e.atom = f.atom) && eqAll eqE e.kids f.kids) := by
  cases e with
  | mk k a l => rw [eqE, eqE_go]; rfl
theorem f172_ok (l m : List Expr) (hf : ∀ e ∈ l, ∀ f, FnOK C0 135 [.agg e.c, .agg f.c] [] (B (eqE e f)) []) : FnOK C0 172 [exprsV l, exprsV m, .fn 135 []] [] (B (eqAll eqE l m)) [] := by
  refine FnOK.assume (fn := Tryz.f172) (c := Tryz.f172.body.getD .skip) (by kernel_rfl) (by kernel_rfl) (by kernel_rfl) fun hlen => ?_
  simp only [lensL, lens, List.length_map, and_true, true_and] at hlen
  refine FnOK.intro (fn := Tryz.f172) (c := Tryz.f172.body.getD .skip) (by kernel_rfl) (by kernel_rfl) (by kernel_rfl) (by kernel_rfl) (by simp [Tryz.f172]) (by simp [names]) ?_
  unfold Tryz.f172
  by_cases hn : l.length = m.length
  rotate_left
  · have e1 : ((l.length : Int) != m.length) = true := by simp only [bne_iff_ne, ne_eq]; omega
    have e2 : eqAll eqE l m = false := Bool.eq_false_iff.2 fun h => hn (eqAll_len h)
    simp (disch := omega) only [go_sem, e1]
    refine ret_mk ⟨[], [], []⟩ _ (by (try simp (disch := omega) only [go_sem, resVs, resV]) <;> rfl) ⟨rfl, rfl⟩ (by simp) ?_ trivial
    simp (disch := omega) only [go_sem]
    exact wb e2.symm
  have e1 : ((l.length : Int) != m.length) = false := by simp [hn]
  simp (disch := omega) only [go_sem, e1]
  refine loop_intro (α := Nat) (fun i => ⟨[(17, I i), (16, I l.length), (15, exprsV l), (1, exprsV m), (2, .fn 135 [])], []⟩) (fun i => i ≤ (l).length ∧ eqAll eqE (l.take i) (m.take i) = true) (fun i => (l).length - i) 0 ⟨by omega, rfl⟩ ?_ ?_
  · refine Imp.weak ?_ ?_
    all_goals (try simp (disch := omega) only [go_sem])
    all_goals (try (repeat' (with_reducible apply And.intro)))
    all_goals (first | exact .nilOwn (by omega) | exact .nilNo (by omega) | exact .sl (by simp []) | exact .int (by simp []) | exact .eq (by simp []))
  rintro i ⟨hi, hP⟩ J hJ
  simp (disch := omega) only [go_sem]
  refine And.intro (fun hlt => ?_) (fun hge => ?_)
  rotate_left
  have hil : i = (l).length := by simp at hge; omega
  rotate_left
  obtain ⟨b, hb⟩ : ∃ b, (l)[i]? = some b := ⟨_, List.getElem?_eq_getElem (by simp at hlt; omega)⟩
  have hbm := List.mem_of_getElem? hb
  simp (disch := omega) only [go_sem, List.getElem?_map, hb]
  · obtain ⟨c, hc⟩ : ∃ c, m[i]? = some c := ⟨_, List.getElem?_eq_getElem (by simp at hlt; omega)⟩
    obtain ⟨k1, k2⟩ := eqAll_at (f := eqE) hn hb hc hP
    have hlt2 : i < l.length := by simp at hlt; omega
    simp (disch := omega) only [go_sem, List.getElem?_map, hc]
    refine call_pure (hf b hbm c) (by simp (disch := omega) only [go_sem, Expr.c_def]) rfl ?_
    cases hbc : eqE b c
    · simp (disch := omega) only [go_sem]
      refine ret_mk ⟨[], [], []⟩ _ (by (try simp (disch := omega) only [go_sem, resVs, resV]) <;> rfl) ⟨rfl, rfl⟩ (by simp) ?_ trivial
      simp (disch := omega) only [go_sem]
      exact wb (k2 hbc).symm
    · simp (disch := omega) only [go_sem]
      refine hJ _ (i + 1) ⟨by simp at hlt; omega, (k1.trans hbc)⟩ (by simp at hlt; omega) (Imp.weak (by simp (disch := omega) only [go_sem]) (by simp (disch := omega) only [go_sem]))
  · subst hil
    rw [List.take_length, hn, List.take_length] at hP
    refine ret_mk ⟨[], [], []⟩ _ (by (try simp (disch := omega) only [go_sem, resVs, resV]) <;> rfl) ⟨rfl, rfl⟩ (by simp) ?_ trivial
    simp (disch := omega) only [go_sem]
    exact wb hP.symm
theorem f135_ok : ∀ (N : Nat) (e : Expr), SizeOf.sizeOf e < N → ∀ f : Expr, FnOK C0 135 [.agg e.c, .agg f.c] [] (B (eqE e f)) []
  | 0, _, h, _ => by omega
  | N + 1, e, h, f => by
    refine FnOK.intro (fn := Tryz.f135) (c := Tryz.f135.body.getD .skip) (by kernel_rfl) (by kernel_rfl) (by kernel_rfl) (by kernel_rfl) (by simp [Tryz.f135]) (by simp [names]) ?_
    unfold Tryz.f135
    simp (disch := omega) only [go_sem]
    by_cases h1 : e.k = f.k
    rotate_left
    · have e1 : (e.k == f.k) = false := by simp [h1]
      simp (disch := omega) only [go_sem, e1]
      refine ret_mk ⟨[], [], []⟩ _ (by (try simp (disch := omega) only [go_sem, resVs, resV]) <;> rfl) ⟨rfl, rfl⟩ (by simp) ?_ trivial
      simp (disch := omega) only [go_sem]
      exact wb (by simp [eqE_def, h1])
    have e1 : (e.k == f.k) = true := by simp [h1]
    simp (disch := omega) only [go_sem, e1]
    by_cases h2 : e.atom = f.atom
    rotate_left
    · simp (disch := omega) only [go_sem, h2, decide_false]
      refine ret_mk ⟨[], [], []⟩ _ (by (try simp (disch := omega) only [go_sem, resVs, resV]) <;> rfl) ⟨rfl, rfl⟩ (by simp) ?_ trivial
      simp (disch := omega) only [go_sem]
      exact wb (by simp [eqE_def, h2])
    simp (disch := omega) only [go_sem, h2, decide_true]
    refine call_pure (f172_ok e.kids f.kids fun x hx y => f135_ok N x (by have := kid_lt hx; omega) y) (by simp (disch := omega) only [go_sem]) rfl ?_
    simp (disch := omega) only [go_sem]
    refine ret_mk ⟨[], [], []⟩ _ (by (try simp (disch := omega) only [go_sem, resVs, resV]) <;> rfl) ⟨rfl, rfl⟩ (by simp) ?_ trivial
    simp (disch := omega) only [go_sem]
    exact wb (by simp [eqE_def, h1, h2])
def eqN (a b : Need) : Bool := decide (a.proc = b.proc) && decide (a.gen = b.gen) && eqE a.expr b.expr
theorem f87_ok (a b : Need) : FnOK C0 87 [.agg a.c, .agg b.c] [] (B (eqN a b)) [] := by
  refine FnOK.intro (fn := Tryz.f87) (c := Tryz.f87.body.getD .skip) (by kernel_rfl) (by kernel_rfl) (by kernel_rfl) (by kernel_rfl) (by simp [Tryz.f87]) (by simp [names]) ?_
  unfold Tryz.f87
  simp (disch := omega) only [go_sem]
  by_cases h1 : a.proc = b.proc
  rotate_left
  · simp (disch := omega) only [go_sem, h1, decide_false]
    refine ret_mk ⟨[], [], []⟩ _ (by (try simp (disch := omega) only [go_sem, resVs, resV]) <;> rfl) ⟨rfl, rfl⟩ (by simp) ?_ trivial
    simp (disch := omega) only [go_sem]
    exact wb (by simp [eqN, h1])
  simp (disch := omega) only [go_sem, h1, decide_true]
  by_cases h2 : a.gen = b.gen
  rotate_left
  · have e1 : (a.gen == b.gen) = false := by simp [h2]
    simp (disch := omega) only [go_sem, e1]
    refine ret_mk ⟨[], [], []⟩ _ (by (try simp (disch := omega) only [go_sem, resVs, resV]) <;> rfl) ⟨rfl, rfl⟩ (by simp) ?_ trivial
    simp (disch := omega) only [go_sem]
    exact wb (by simp [eqN, h2])
  have e1 : (a.gen == b.gen) = true := by simp [h2]
  simp (disch := omega) only [go_sem, e1]
  refine call_pure (f135_ok _ a.expr (Nat.lt_succ_self _) b.expr) (by simp (disch := omega) only [go_sem, Expr.c_def]) rfl ?_
  simp (disch := omega) only [go_sem]
  refine ret_mk ⟨[], [], []⟩ _ (by (try simp (disch := omega) only [go_sem, resVs, resV]) <;> rfl) ⟨rfl, rfl⟩ (by simp) ?_ trivial
  simp (disch := omega) only [go_sem]
  exact wb (by simp [eqN, h1, h2])
theorem f86_ok (l m : List Need) (hl : l.length ≤ 1000000) : FnOK C0 86 [needsV l, needsV m, .fn 87 []] [] (B (eqAll eqN l m)) [] := by
  refine FnOK.intro (fn := Tryz.f86) (c := Tryz.f86.body.getD .skip) (by kernel_rfl) (by kernel_rfl) (by kernel_rfl) (by kernel_rfl) (by simp [Tryz.f86]) (by simp [names]) ?_
  unfold Tryz.f86
  by_cases hn : l.length = m.length
  rotate_left
  · have e1 : ((l.length : Int) != m.length) = true := by simp only [bne_iff_ne, ne_eq]; omega
    have e2 : eqAll eqN l m = false := Bool.eq_false_iff.2 fun h => hn (eqAll_len h)
    simp (disch := omega) only [go_sem, e1]
    refine ret_mk ⟨[], [], []⟩ _ (by (try simp (disch := omega) only [go_sem, resVs, resV]) <;> rfl) ⟨rfl, rfl⟩ (by simp) ?_ trivial
    simp (disch := omega) only [go_sem]
    exact wb e2.symm
  have e1 : ((l.length : Int) != m.length) = false := by simp [hn]
  simp (disch := omega) only [go_sem, e1]
  refine loop_intro (α := Nat) (fun i => ⟨[(17, I i), (16, I l.length), (15, needsV l), (1, needsV m), (2, .fn 87 [])], []⟩) (fun i => i ≤ (l).length ∧ eqAll eqN (l.take i) (m.take i) = true) (fun i => (l).length - i) 0 ⟨by omega, rfl⟩ ?_ ?_
  · refine Imp.weak ?_ ?_
    all_goals (try simp (disch := omega) only [go_sem])
    all_goals (try (repeat' (with_reducible apply And.intro)))
    all_goals (first | exact .nilOwn (by omega) | exact .nilNo (by omega) | exact .sl (by simp []) | exact .int (by simp []) | exact .eq (by simp []))
  rintro i ⟨hi, hP⟩ J hJ
  simp (disch := omega) only [go_sem]
  refine And.intro (fun hlt => ?_) (fun hge => ?_)
  rotate_left
  have hil : i = (l).length := by simp at hge; omega
  rotate_left
  obtain ⟨b, hb⟩ : ∃ b, (l)[i]? = some b := ⟨_, List.getElem?_eq_getElem (by simp at hlt; omega)⟩
  have hbm := List.mem_of_getElem? hb
  simp (disch := omega) only [go_sem, List.getElem?_map, hb]
  · obtain ⟨c, hc⟩ : ∃ c, m[i]? = some c := ⟨_, List.getElem?_eq_getElem (by simp at hlt; omega)⟩
    obtain ⟨k1, k2⟩ := eqAll_at (f := eqN) hn hb hc hP
    simp (disch := omega) only [go_sem, List.getElem?_map, hc]
    refine call_pure (f87_ok b c) (by simp (disch := omega) only [go_sem]) rfl ?_
    cases hbc : eqN b c
    · simp (disch := omega) only [go_sem]
      refine ret_mk ⟨[], [], []⟩ _ (by (try simp (disch := omega) only [go_sem, resVs, resV]) <;> rfl) ⟨rfl, rfl⟩ (by simp) ?_ trivial
      simp (disch := omega) only [go_sem]
      exact wb (k2 hbc).symm
    · simp (disch := omega) only [go_sem]
      refine hJ _ (i + 1) ⟨by simp at hlt; omega, (k1.trans hbc)⟩ (by simp at hlt; omega) (Imp.weak (by simp (disch := omega) only [go_sem]) (by simp (disch := omega) only [go_sem]))
  · subst hil
    rw [List.take_length, hn, List.take_length] at hP
    refine ret_mk ⟨[], [], []⟩ _ (by (try simp (disch := omega) only [go_sem, resVs, resV]) <;> rfl) ⟨rfl, rfl⟩ (by simp) ?_ trivial
    simp (disch := omega) only [go_sem]
    exact wb hP.symm
def alikeS (a b : WS) : Bool := eqAll alikeQ a.queues b.queues && eqAll eqN a.needs b.needs
theorem f47_ok (a b : WS) (ha : Few a) (hb : Few b) : FnOK C0 47 [.agg a.c, .agg b.c] [] (B (alikeS a b)) [] := by
  have a1 := ha.nq
  have a2 := ha.nn
  have b1 := hb.nq
  refine FnOK.intro (fn := Tryz.f47) (c := Tryz.f47.body.getD .skip) (by kernel_rfl) (by kernel_rfl) (by kernel_rfl) (by kernel_rfl) (by simp [Tryz.f47]) (by simp [names]) ?_
  unfold Tryz.f47
  simp (disch := omega) only [go_sem]
  refine call_pure (f84_ok a.queues b.queues (by omega) (by omega) ha.aq hb.aq) (by simp (disch := omega) only [go_sem]) rfl ?_
  cases h1 : eqAll alikeQ a.queues b.queues
  · simp (disch := omega) only [go_sem]
    refine ret_mk ⟨[], [], []⟩ _ (by (try simp (disch := omega) only [go_sem, resVs, resV]) <;> rfl) ⟨rfl, rfl⟩ (by simp) ?_ trivial
    simp (disch := omega) only [go_sem]
    exact wb (by simp [alikeS, h1])
  simp (disch := omega) only [go_sem]
  refine call_pure (f86_ok a.needs b.needs (by omega)) (by simp (disch := omega) only [go_sem]) rfl ?_
  simp (disch := omega) only [go_sem]
  refine ret_mk ⟨[], [], []⟩ _ (by (try simp (disch := omega) only [go_sem, resVs, resV]) <;> rfl) ⟨rfl, rfl⟩ (by simp) ?_ trivial
  simp (disch := omega) only [go_sem]
  exact wb (by simp [alikeS, h1])
end Go.Rd
open Go Go.Abs Go.Proofs
set_option maxRecDepth 100000
namespace Go.Rd
theorem f123_ok : ∀ (N : Nat) (e : Expr), SizeOf.sizeOf e < N → kidsB N e → FnOK C0 123 [.agg e.c] [] (.agg e.c) []
  | 0, _, h, _ => by omega
  | N + 1, e, h, hk => by
    have hk1 := hk.1
    refine FnOK.assume (fn := Tryz.f123) (c := Tryz.f123.body.getD .skip) (by kernel_rfl) (by kernel_rfl) (by kernel_rfl) fun hlen => ?_
    simp only [lensL, lens, Expr.c_def, List.length_map, and_true, true_and] at hlen
    refine FnOK.intro (fn := Tryz.f123) (c := Tryz.f123.body.getD .skip) (by kernel_rfl) (by kernel_rfl) (by kernel_rfl) (by kernel_rfl) (by simp [Tryz.f123]) (by simp [names]) ?_
    unfold Tryz.f123
    simp (disch := omega) only [go_sem]
    refine loop_intro (α := Nat) (fun i => ⟨[(9, I i), (8, I e.kids.length), (7, exprsV e.kids), (1, .ptr 64 0), (2, .ptr 128 0), (3, .sl (.own 1088 0) 5 ((e.kids.take i).map Expr.c))], [(64, e.c), (128, (Expr.mk 0 a0 []).c)]⟩) (fun i => i ≤ (e.kids).length ∧ True) (fun i => (e.kids).length - i) 0 ⟨by omega, trivial⟩ ?_ ?_
    · refine Imp.weak ?_ ?_
      all_goals (try simp (disch := omega) only [go_sem])
      all_goals (try (repeat' (with_reducible apply And.intro)))
      all_goals (first | exact .nilOwn (by omega) | exact .nilNo (by omega) | exact .sl (by simp [a0, Expr.c_def, Expr.k, Expr.atom, Expr.kids]) | exact .int (by simp [a0, Expr.c_def, Expr.k, Expr.atom, Expr.kids]) | exact .eq (by simp [a0, Expr.c_def, Expr.k, Expr.atom, Expr.kids]))
    rintro i ⟨hi, hP⟩ J hJ
    simp (disch := omega) only [go_sem]
    refine And.intro (fun hlt => ?_) (fun hge => ?_)
    rotate_left
    have hil : i = (e.kids).length := by simp at hge; omega
    rotate_left
    obtain ⟨b, hb⟩ : ∃ b, (e.kids)[i]? = some b := ⟨_, List.getElem?_eq_getElem (by simp at hlt; omega)⟩
    have hbm := List.mem_of_getElem? hb
    simp (disch := omega) only [go_sem, List.getElem?_map, hb]
    · have hsz := kid_lt hbm
      have hlt' : i < e.kids.length := by simp at hlt; omega
      have hbd : min i e.kids.length + 1 ≤ 4294967296 := by omega
      refine call_pure (f123_ok N b (by omega) (hk.2 b hbm)) (by simp (disch := omega) only [go_sem]) rfl ?_
      simp (disch := omega) only [go_sem, List.length_map, List.length_take]
      refine hJ _ (i + 1) ⟨by omega, trivial⟩ (by omega) (Imp.weak ?_ ?_)
      · simp (disch := omega) only [go_sem]
        exact .sl (by simp [List.take_add_one, hb, Expr.c_def])
      · simp (disch := omega) only [go_sem, Expr.c_def]
    · subst hil
      simp (disch := omega) only [go_sem, List.take_length]
      refine ret_mk ⟨[], [], [1088]⟩ _ (by (try simp (disch := omega) only [go_sem, resVs, resV]) <;> rfl) ⟨rfl, rfl⟩ (by simp) ?_ trivial
      simp (disch := omega) only [go_sem, Expr.c_def]
theorem f73_ok (n : Need) (hx : exprOK n.expr = true) : FnOK C0 73 [.agg n.c] [] (.agg n.c) [] := by
  refine FnOK.intro (fn := Tryz.f73) (c := Tryz.f73.body.getD .skip) (by kernel_rfl) (by kernel_rfl) (by kernel_rfl) (by kernel_rfl) (by simp [Tryz.f73]) (by simp [names]) ?_
  unfold Tryz.f73
  simp (disch := omega) only [go_sem]
  refine call_pure (f123_ok _ n.expr (Nat.lt_succ_self _) (exprOK_kids hx _)) (by simp (disch := omega) only [go_sem, Expr.c_def]) rfl ?_
  simp (disch := omega) only [go_sem, Expr.c_def]
  refine ret_mk ⟨[], [], []⟩ _ (by (try simp (disch := omega) only [go_sem, resVs, resV]) <;> rfl) ⟨rfl, rfl⟩ (by simp) ?_ trivial
  simp (disch := omega) only [go_sem, Expr.c_def]
theorem f122_ok (n : Need) (p : Proc) : FnOK C0 122 [.agg n.c, .ptr 63 0] [(63, p.c)] (B (decide (n.proc = p))) [(63, p.c)] := by
  refine FnOK.intro (fn := Tryz.f122) (c := Tryz.f122.body.getD .skip) (by kernel_rfl) (by kernel_rfl) (by kernel_rfl) (by kernel_rfl) (by simp [Tryz.f122]) (by simp [names]) ?_
  unfold Tryz.f122
  simp (disch := omega) only [go_sem]
  refine call_pure (f71_ok n.proc p) (by simp (disch := omega) only [go_sem]) rfl ?_
  simp (disch := omega) only [go_sem]
  refine ret_mk ⟨[], [(63, 63)], []⟩ _ (by (try simp (disch := omega) only [go_sem, resVs, resV]) <;> rfl) ⟨rfl, rfl⟩ (by simp [lk]) ?_ ?_
  · simp (disch := omega) only [go_sem]
  · simp (disch := omega) only [go_sem]
theorem idx_none {α : Type} {f : α → Bool} {l : List α} (h : l.find? f = none) : l.findIdx? f = none := by
  rw [List.findIdx?_eq_none_iff]
  intro x hx
  simpa using List.find?_eq_none.1 h x hx
def needAt (l : List Need) (p : Proc) : Int := match l.findIdx? (fun n => decide (n.proc = p)) with
  | some i => i
  | none => -1
theorem f121_ok (l : List Need) (p : Proc) (hl : l.length ≤ 1000000) : FnOK C0 121 [needsV l, .fn 122 [.ptr 63 0]] [(63, p.c)] (I (needAt l p)) [(63, p.c)] := by
  refine FnOK.intro (fn := Tryz.f121) (c := Tryz.f121.body.getD .skip) (by kernel_rfl) (by kernel_rfl) (by kernel_rfl) (by kernel_rfl) (by simp [Tryz.f121]) (by simp [names]) ?_
  unfold Tryz.f121
  simp (disch := omega) only [go_sem]
  refine loop_intro (α := Nat) (fun i => ⟨[(8, I i), (7, I l.length), (0, needsV l), (1, .fn 122 [.ptr 63 0])], [(63, p.c)]⟩) (fun i => i ≤ l.length ∧ (l.take i).find? (fun n => decide (n.proc = p)) = none) (fun i => l.length - i) 0 ⟨by omega, rfl⟩ ?_ ?_
  · refine Imp.weak ?_ ?_
    · simp (disch := omega) only [go_sem]
    · simp (disch := omega) only [go_sem]
  rintro i ⟨hi, hP⟩ J hJ
  simp (disch := omega) only [go_sem]
  refine And.intro (fun hlt => ?_) (fun hge => ?_)
  rotate_left
  · have hil : i = l.length := by simp at hge; omega
    subst hil
    rw [List.take_length] at hP
    refine ret_mk ⟨[], [(63, 63)], []⟩ _ (by (try simp (disch := omega) only [go_sem, resVs, resV]) <;> rfl) ⟨rfl, rfl⟩ (by simp [lk]) ?_ ?_
    · simp (disch := omega) only [go_sem]
      exact wi (by rw [needAt, idx_none hP])
    · simp (disch := omega) only [go_sem]
  obtain ⟨b, hb⟩ : ∃ b, l[i]? = some b := ⟨_, List.getElem?_eq_getElem (by simp at hlt; omega)⟩
  simp (disch := omega) only [go_sem, List.getElem?_map, hb]
  refine callB_mk ⟨⟨[], [(63, 63)], []⟩, [], []⟩ (f122_ok b p) (by simp (disch := omega) only [go_sem]) rfl (by simp (disch := omega) only [go_sem]) (.inl rfl) ?_
  simp (disch := omega) only [go_sem]
  refine And.intro (fun h => ?_) (fun h => ?_)
  · refine ret_mk ⟨[], [(63, 63)], []⟩ _ (by (try simp (disch := omega) only [go_sem, resVs, resV]) <;> rfl) ⟨rfl, rfl⟩ (by simp [lk]) ?_ ?_
    · simp (disch := omega) only [go_sem]
      exact wi (by unfold needAt; rw [idx_take hP b hb h])
    · simp (disch := omega) only [go_sem]
  · refine hJ _ (i + 1) ⟨by simp at hlt; omega, by rw [find_take hP hb]; simp [h]⟩ (by simp at hlt; omega) (Imp.weak (by simp (disch := omega) only [go_sem]) (by simp (disch := omega) only [go_sem]))
theorem f72_ok (l : List Need) (p : Proc) (hl : l.length ≤ 1000000) : FnOK C0 72 [needsV l, .agg p.c] [] (I (needAt l p)) [] := by
  refine FnOK.intro (fn := Tryz.f72) (c := Tryz.f72.body.getD .skip) (by kernel_rfl) (by kernel_rfl) (by kernel_rfl) (by kernel_rfl) (by simp [Tryz.f72]) (by simp [names]) ?_
  unfold Tryz.f72
  simp (disch := omega) only [go_sem]
  refine callB_mk ⟨⟨[], [(192, 63)], []⟩, [], []⟩ (f121_ok l p hl) (by simp (disch := omega) only [go_sem]) rfl (by simp (disch := omega) only [go_sem]) (.inl rfl) ?_
  simp (disch := omega) only [go_sem]
  refine ret_mk ⟨[], [], []⟩ _ (by (try simp (disch := omega) only [go_sem, resVs, resV]) <;> rfl) ⟨rfl, rfl⟩ (by simp) ?_ trivial
  simp (disch := omega) only [go_sem]
def needQ (s : WS) (p : Proc) : Option Need := s.needs.find? fun n => decide (n.proc = p)
theorem f38_ok (s : WS) (p : Proc) (h : Few s) (hx : ∀ n ∈ s.needs, exprOK n.expr = true) : FnOK C0 38 [.agg s.c, .agg p.c] [] (.tup [.agg ((needQ s p).getD n0).c, B (needQ s p).isSome]) [] := by
  have h1 := h.nn
  refine FnOK.intro (fn := Tryz.f38) (c := Tryz.f38.body.getD .skip) (by kernel_rfl) (by kernel_rfl) (by kernel_rfl) (by kernel_rfl) (by simp [Tryz.f38]) (by simp [names]) ?_
  unfold Tryz.f38
  simp (disch := omega) only [go_sem]
  refine call_pure (f72_ok s.needs p (by omega)) (by simp (disch := omega) only [go_sem]) rfl ?_
  cases hf : s.needs.findIdx? (fun n => decide (n.proc = p)) with
  | none =>
    have e0 : needAt s.needs p = -1 := by rw [needAt, hf]
    have e1 : needQ s p = none := by
      unfold needQ
      rw [List.find?_eq_none]
      intro x hx
      simpa using List.findIdx?_eq_none_iff.1 hf x hx
    have em : (0 ≤ (-1 : Int)) = False := by simp
    simp (disch := omega) only [go_sem, e0, e1, em, decide_false, n0, p0, a0]
    refine ret_mk ⟨[], [], []⟩ _ (by (try simp (disch := omega) only [go_sem, resVs, resV]) <;> rfl) ⟨rfl, rfl⟩ (by simp) ?_ trivial
    simp (disch := omega) only [go_sem, Expr.k, Expr.atom, Expr.kids]
    refine .tup (WeakArgs.weakL ?_)
    simp (disch := omega) only [go_sem]
    repeat' (with_reducible apply And.intro)
    all_goals (first | exact .nilNo (by omega) | exact .agg (WeakArgs.weakL (by simp (disch := omega) only [go_sem])))
  | some i =>
    obtain ⟨k1, k2, k3⟩ := List.findIdx?_eq_some_iff_getElem.1 hf
    have hb : s.needs[i]? = some s.needs[i] := List.getElem?_eq_getElem k1
    have hm := List.getElem_mem k1
    have e0 : needAt s.needs p = i := by rw [needAt, hf]
    have e1 : needQ s p = some s.needs[i] := by
      unfold needQ
      rw [List.find?_eq_some_iff_getElem]
      exact ⟨k2, i, k1, rfl, fun j hj => by simpa using k3 j hj⟩
    generalize s.needs[i] = b at hb hm e1 k2
    have em : (0 ≤ (i : Int)) = True := eq_true (by omega)
    simp (disch := omega) only [go_sem, e0, e1, em, decide_true, List.getElem?_map, hb]
    refine call_pure (f73_ok b (hx b hm)) (by simp (disch := omega) only [go_sem, Expr.c_def]) rfl ?_
    simp (disch := omega) only [go_sem]
    refine ret_mk ⟨[], [], []⟩ _ (by (try simp (disch := omega) only [go_sem, resVs, resV]) <;> rfl) ⟨rfl, rfl⟩ (by simp) ?_ trivial
    simp (disch := omega) only [go_sem]
def deadB (n : Nat) (dead : List Bool) : List Bool := (List.range n).map fun i => !(dead.getD i false)
def hopeE (e : Expr) (dead : List Bool) : Bool := !decide ((atomsE e).length = 0) && !evalE (hasA (atomsE e) (deadB (atomsE e).length dead)) e
theorem deadB_next {n i : Nat} {dead : List Bool} (h : i < n) : (((deadB n dead).take i).map fun b => [B b]) ++ [[B (!(dead.getD i false))]] = ((deadB n dead).take (i + 1)).map fun b => [B b] := by
  have : (deadB n dead)[i]? = some (!(dead.getD i false)) := by simp [deadB, h]
  rw [List.take_add_one, this]
  simp
theorem set_rep' {α : Type} (a : List α) (z v : α) (k : Nat) : (a ++ List.replicate (k + 1) z).set a.length v = (a ++ [v]) ++ List.replicate k z := by
  rw [List.set_append_right _ _ (Nat.le_refl _), Nat.sub_self]
  simp [List.replicate_succ]
theorem f40_ok (e : Expr) (dead : List Bool) : FnOK C0 40 [.agg e.c, bitsV dead] [] (B (hopeE e dead)) [] := by
  have hl := atomsE_len e
  refine FnOK.assume (fn := Tryz.f40) (c := Tryz.f40.body.getD .skip) (by kernel_rfl) (by kernel_rfl) (by kernel_rfl) fun hlen => ?_
  simp only [lensL, lens, Expr.c_def, List.length_map, and_true, true_and] at hlen
  refine FnOK.intro (fn := Tryz.f40) (c := Tryz.f40.body.getD .skip) (by kernel_rfl) (by kernel_rfl) (by kernel_rfl) (by kernel_rfl) (by simp [Tryz.f40]) (by simp [names]) ?_
  unfold Tryz.f40
  simp (disch := omega) only [go_sem]
  refine call_pure (f39_ok e) (by simp (disch := omega) only [go_sem, Expr.c_def]) rfl ?_
  by_cases h0 : (atomsE e).length = 0
  · have e1 : (((atomsE e).length : Int) == 0) = true := by simp [h0]
    simp (disch := omega) only [go_sem, e1]
    refine ret_mk ⟨[], [], []⟩ _ (by (try simp (disch := omega) only [go_sem, resVs, resV]) <;> rfl) ⟨rfl, rfl⟩ (by simp) ?_ trivial
    simp (disch := omega) only [go_sem]
    exact wb (by simp [hopeE, h0])
  have e1 : (((atomsE e).length : Int) == 0) = false := by simp [h0]
  simp (disch := omega) only [go_sem, e1]
  have hdl : (deadB (atomsE e).length dead).length = (atomsE e).length := by simp [deadB]
  refine loop_intro (α := Nat) (fun i => ⟨[(18, I i), (17, I (atomsE e).length), (1, bitsV dead), (2, .ptr 128 0), (5, atomsV (atomsE e)), (6, .sl (.own 960 0) 1 (((deadB (atomsE e).length dead).take i).map (fun b => [B b]) ++ List.replicate ((atomsE e).length - i) [B false]))], [(128, e.c)]⟩) (fun i => i ≤ ((atomsE e)).length ∧ True) (fun i => ((atomsE e)).length - i) 0 ⟨by omega, trivial⟩ ?_ ?_
  · refine Imp.weak ?_ ?_
    all_goals (try simp (disch := omega) only [go_sem])
    all_goals (try (repeat' (with_reducible apply And.intro)))
    all_goals (first | exact .nilOwn (by omega) | exact .nilNo (by omega) | exact .sl (by simp []) | exact .int (by simp []) | exact .eq (by simp []))
  rintro i ⟨hi, hP⟩ J hJ
  simp (disch := omega) only [go_sem]
  refine And.intro (fun hlt => ?_) (fun hge => ?_)
  rotate_left
  have hil : i = ((atomsE e)).length := by simp at hge; omega
  rotate_left
  obtain ⟨b, hb⟩ : ∃ b, ((atomsE e))[i]? = some b := ⟨_, List.getElem?_eq_getElem (by simp at hlt; omega)⟩
  have hbm := List.mem_of_getElem? hb
  have hlt2 : i < ((atomsE e)).length := by simp at hlt; omega
  simp (disch := omega) only [go_sem, List.getElem?_map, hb]
  · have hlen : min i (atomsE e).length + ((atomsE e).length - i) = (atomsE e).length := by omega
    have hget : (((deadB (atomsE e).length dead).take i).map (fun b => [B b]) ++ List.replicate ((atomsE e).length - i) [B false])[i]? = some [B false] := by
      rw [List.getElem?_append_right (by simp; omega), List.getElem?_replicate]
      simp; omega
    have nxt : ((((deadB (atomsE e).length dead).take i).map (fun b => [B b]) ++ List.replicate ((atomsE e).length - i) [B false])).set i [B (!(dead.getD i false))] = ((deadB (atomsE e).length dead).take (i + 1)).map (fun b => [B b]) ++ List.replicate ((atomsE e).length - (i + 1)) [B false] := by
      have e2 := set_rep' (((deadB (atomsE e).length dead).take i).map fun b => [B b]) [B false] [B (!(dead.getD i false))] ((atomsE e).length - (i + 1))
      simp only [List.length_map, List.length_take, hdl, Nat.min_eq_left (show i ≤ (atomsE e).length by omega)] at e2
      rw [show (atomsE e).length - i = ((atomsE e).length - (i + 1)) + 1 by omega, e2, deadB_next hlt2]
    by_cases hd : dead.length ≤ i
    · have e3 : decide ((dead.length : Int) ≤ i) = true := decide_eq_true (by omega)
      have e4 : dead.getD i false = false := by simp [List.getD, List.getElem?_eq_none hd]
      rw [e4] at nxt
      simp (disch := omega) only [go_sem, e3, hget, List.length_append, List.length_replicate, List.length_map, List.length_take, hdl, hlen]
      refine hJ _ (i + 1) ⟨by omega, trivial⟩ (by omega) (Imp.weak ?_ (by simp (disch := omega) only [go_sem]))
      simp (disch := omega) only [go_sem]
      exact .sl nxt
    · have e3 : decide ((dead.length : Int) ≤ i) = false := decide_eq_false (by omega)
      obtain ⟨d, hdd⟩ : ∃ d, dead[i]? = some d := ⟨_, List.getElem?_eq_getElem (by omega)⟩
      have e4 : dead.getD i false = d := by simp [List.getD, hdd]
      rw [e4] at nxt
      have hd2 : i < dead.length := by omega
      simp (disch := omega) only [go_sem, e3, hget, hdd, List.getElem?_map, List.length_append, List.length_replicate, List.length_map, List.length_take, hdl, hlen]
      refine hJ _ (i + 1) ⟨by omega, trivial⟩ (by omega) (Imp.weak ?_ (by simp (disch := omega) only [go_sem]))
      simp (disch := omega) only [go_sem]
      exact .sl nxt
  · subst hil
    have e3 : (List.take (atomsE e).length (deadB (atomsE e).length dead)) = deadB (atomsE e).length dead := List.take_of_length_le (by omega)
    simp (disch := omega) only [go_sem, Nat.sub_self, List.replicate_zero, List.append_nil, e3]
    refine call_lent [960] (f75_ok e (atomsE e) (deadB (atomsE e).length dead) (by omega)) (by simp (disch := omega) only [go_sem, Expr.c_def]) rfl trivial ?_
    simp (disch := omega) only [go_sem]
    refine ret_mk ⟨[], [], []⟩ _ (by (try simp (disch := omega) only [go_sem, resVs, resV]) <;> rfl) ⟨rfl, rfl⟩ (by simp) ?_ trivial
    simp (disch := omega) only [go_sem]
    exact wb (by simp [hopeE, h0])
end Go.Rd
