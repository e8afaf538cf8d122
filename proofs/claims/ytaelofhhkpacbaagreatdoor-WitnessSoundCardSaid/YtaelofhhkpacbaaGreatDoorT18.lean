/- part 18 of the proof -/
import Derived.Test.YtaelofhhkpacbaaGreatDoorT17
set_option linter.all false
open Go Go.Abs Go.Proofs
set_option maxRecDepth 100000
namespace Go.Rd
@[reducible] def bitsV (l : List Bool) : AV := .sl .no 1 (l.map fun b => [B b])
def hasA (l : List Atom) (set : List Bool) (a : Atom) : Bool := match l.findIdx? (fun x => decide (x = a)) with
  | some i => set.getD i false
  | none => false
@[reducible] def choiceA (l : List Atom) (set : List Bool) : AV := .agg [atomsV l, bitsV set]
theorem f125_ok (l : List Atom) (set : List Bool) (a : Atom) (hl : l.length ≤ 1000000) : FnOK C0 125 [choiceA l set, .agg a.c] [] (B (hasA l set a)) [] := by
  refine FnOK.intro (fn := Tryz.f125) (c := Tryz.f125.body.getD .skip) (by kernel_rfl) (by kernel_rfl) (by kernel_rfl) (by kernel_rfl) (by simp [Tryz.f125]) (by simp [names]) ?_
  unfold Tryz.f125
  simp (disch := omega) only [go_sem]
  refine call_pure (f166_ok l a hl) (by simp (disch := omega) only [go_sem]) rfl ?_
  cases hi : l.findIdx? (fun x => decide (x = a)) with
  | none =>
    have e1 : atomIdx l a = -1 := by simp [atomIdx, hi]
    have e2 : hasA l set a = false := by simp [hasA, hi]
    simp (disch := omega) only [go_sem, e1]
    refine ret_mk ⟨[], [], []⟩ _ (by (try simp (disch := omega) only [go_sem, resVs, resV]) <;> rfl) ⟨rfl, rfl⟩ (by simp) ?_ trivial
    simp (disch := omega) only [go_sem]
    exact wb (by simp [e2])
  | some i =>
    have e1 : atomIdx l a = i := by simp [atomIdx, hi]
    by_cases h : i < set.length
    · have e3 : ((i : Int) < set.length) = True := eq_true (by omega)
      have e4 : set[i]? = some (set.getD i false) := by rw [List.getElem?_eq_getElem h]; simp [List.getD, h]
      have e2 : hasA l set a = set.getD i false := by simp [hasA, hi]
      simp (disch := omega) only [go_sem, e1, e3, List.getElem?_map, e4]
      refine ret_mk ⟨[], [], []⟩ _ (by (try simp (disch := omega) only [go_sem, resVs, resV]) <;> rfl) ⟨rfl, rfl⟩ (by simp) ?_ trivial
      simp (disch := omega) only [go_sem]
      exact wb (by rw [e2])
    · have e3 : ((i : Int) < set.length) = False := eq_false (by omega)
      have e2 : hasA l set a = false := by simp [hasA, hi, List.getD, h]
      simp (disch := omega) only [go_sem, e1, e3, decide_false]
      refine ret_mk ⟨[], [], []⟩ _ (by (try simp (disch := omega) only [go_sem, resVs, resV]) <;> rfl) ⟨rfl, rfl⟩ (by simp) ?_ trivial
      simp (disch := omega) only [go_sem]
      exact wb (by simp [e2])
mutual
def evalE (has : Atom → Bool) : Expr → Bool
  | .mk k a kids => if kids.length = 0 then has a else decide (k ≤ countE has kids)
def countE (has : Atom → Bool) : List Expr → Int
  | [] => 0
  | e :: es => (if evalE has e = true then 1 else 0) + countE has es
end
theorem evalE_def (has : Atom → Bool) (e : Expr) : evalE has e = if e.kids.length = 0 then has e.atom else decide (e.k ≤ countE has e.kids) := by
  cases e; simp only [evalE]; rfl
theorem countE_take (has : Atom → Bool) : ∀ (l : List Expr) (i : Nat) (b : Expr), l[i]? = some b → countE has (l.take (i + 1)) = countE has (l.take i) + (if evalE has b = true then 1 else 0)
  | [], i, b, h => by simp at h
  | e :: l, 0, b, h => by simp at h; subst h; simp [countE]
  | e :: l, i + 1, b, h => by
    have := countE_take has l i b (by simpa using h)
    simp only [List.take_succ_cons, countE]
    rw [this]; omega
theorem countE_bd (has : Atom → Bool) : ∀ l : List Expr, 0 ≤ countE has l ∧ countE has l ≤ l.length
  | [] => by simp [countE]
  | e :: l => by
    have := countE_bd has l
    simp only [countE, List.length_cons]
    split <;> omega
theorem f126_ok (l : List Atom) (set : List Bool) (hl : l.length ≤ 1000000) : ∀ (N : Nat) (e : Expr), SizeOf.sizeOf e < N →
    FnOK C0 126 [.agg e.c, .mv 125 [choiceA l set]] [] (B (evalE (hasA l set) e)) []
  | 0, _, h => by omega
  | N + 1, e, h => by
    refine FnOK.assume (fn := Tryz.f126) (c := Tryz.f126.body.getD .skip) (by kernel_rfl) (by kernel_rfl) (by kernel_rfl) fun hlen => ?_
    simp only [lensL, lens, Expr.c_def, List.length_map, and_true, true_and] at hlen
    refine FnOK.intro (fn := Tryz.f126) (c := Tryz.f126.body.getD .skip) (by kernel_rfl) (by kernel_rfl) (by kernel_rfl) (by kernel_rfl) (by simp [Tryz.f126]) (by simp [names]) ?_
    unfold Tryz.f126
    by_cases hk : e.kids.length = 0
    · have e1 : ((e.kids.length : Int) == 0) = true := by simp [hk]
      have ee : evalE (hasA l set) e = hasA l set e.atom := by rw [evalE_def, if_pos hk]
      simp (disch := omega) only [go_sem, e1, ee]
      refine call_pure (f125_ok l set e.atom hl) (by simp (disch := omega) only [go_sem]) rfl ?_
      simp (disch := omega) only [go_sem]
      refine ret_mk ⟨[], [], []⟩ _ (by (try simp (disch := omega) only [go_sem, resVs, resV]) <;> rfl) ⟨rfl, rfl⟩ (by simp) ?_ trivial
      simp (disch := omega) only [go_sem]
    have e1 : ((e.kids.length : Int) == 0) = false := by simp only [beq_eq_false_iff_ne, ne_eq]; omega
    have ee : evalE (hasA l set) e = decide (e.k ≤ countE (hasA l set) e.kids) := by rw [evalE_def, if_neg hk]
    simp (disch := omega) only [go_sem, e1, ee]
    refine loop_intro (α := Nat) (fun i => ⟨[(19, I i), (18, I e.kids.length), (17, exprsV e.kids), (1, .mv 125 [choiceA l set]), (2, .ptr 128 0), (5, I (countE (hasA l set) (e.kids.take i)))], [(128, e.c)]⟩) (fun i => i ≤ (e.kids).length ∧ True) (fun i => (e.kids).length - i) 0 ⟨by omega, trivial⟩ ?_ ?_
    · refine Imp.weak ?_ ?_
      all_goals (try simp (disch := omega) only [go_sem])
      all_goals (try (repeat' (with_reducible apply And.intro)))
      all_goals (first | exact .nilOwn (by omega) | exact .nilNo (by omega) | exact .sl (by simp [countE]) | exact .int (by simp [countE]) | exact .eq (by simp [countE]))
    rintro i ⟨hi, hP⟩ J hJ
    simp (disch := omega) only [go_sem]
    refine And.intro (fun hlt => ?_) (fun hge => ?_)
    rotate_left
    have hil : i = (e.kids).length := by simp at hge; omega
    rotate_left
    obtain ⟨b, hb⟩ : ∃ b, (e.kids)[i]? = some b := ⟨_, List.getElem?_eq_getElem (by simp at hlt; omega)⟩
    have hbm := List.mem_of_getElem? hb
    simp (disch := omega) only [go_sem, List.getElem?_map, hb]
    · have hsz := kid_lt hbm
      have hct := countE_take (hasA l set) e.kids i b hb
      have hbd := countE_bd (hasA l set) (e.kids.take i)
      have hlt' : i < e.kids.length := by simp at hlt; omega
      have hml : (e.kids.take i).length ≤ i := by simp; omega
      refine call_pure (f126_ok l set hl N b (by omega)) (by simp (disch := omega) only [go_sem]) rfl ?_
      simp (disch := omega) only [go_sem]
      refine And.intro (fun hh => ?_) (fun hh => ?_)
      · rw [if_pos hh] at hct
        refine hJ _ (i + 1) ⟨by omega, trivial⟩ (by omega) (Imp.weak ?_ ?_)
        · simp (disch := omega) only [go_sem]
          exact .int hct.symm
        · simp (disch := omega) only [go_sem, Expr.c_def]
      · rw [if_neg (by simp [hh])] at hct
        refine hJ _ (i + 1) ⟨by omega, trivial⟩ (by omega) (Imp.weak ?_ ?_)
        · simp (disch := omega) only [go_sem]
          exact .int (by omega)
        · simp (disch := omega) only [go_sem, Expr.c_def]
    · subst hil
      simp (disch := omega) only [go_sem, List.take_length]
      refine ret_mk ⟨[], [], []⟩ _ (by (try simp (disch := omega) only [go_sem, resVs, resV]) <;> rfl) ⟨rfl, rfl⟩ (by simp) ?_ trivial
      simp (disch := omega) only [go_sem]
def holdsE (e : Expr) (set : List Bool) : Bool := !decide ((atomsE e).length = 0) && evalE (hasA (atomsE e) set) e
theorem f75_ok (e : Expr) (l : List Atom) (set : List Bool) (hl : l.length ≤ 1000000) : FnOK C0 75 [.agg e.c, atomsV l, bitsV set] [] (B (evalE (hasA l set) e)) [] := by
  refine FnOK.intro (fn := Tryz.f75) (c := Tryz.f75.body.getD .skip) (by kernel_rfl) (by kernel_rfl) (by kernel_rfl) (by kernel_rfl) (by simp [Tryz.f75]) (by simp [names]) ?_
  unfold Tryz.f75
  simp (disch := omega) only [go_sem]
  refine call_pure (f126_ok l set hl _ e (Nat.lt_succ_self _)) (by simp (disch := omega) only [go_sem]) rfl ?_
  simp (disch := omega) only [go_sem]
  refine ret_mk ⟨[], [], []⟩ _ (by (try simp (disch := omega) only [go_sem, resVs, resV]) <;> rfl) ⟨rfl, rfl⟩ (by simp) ?_ trivial
  simp (disch := omega) only [go_sem]
theorem f147_ok (e : Expr) (set : List Bool) : FnOK C0 147 [.agg e.c, bitsV set] [] (B (holdsE e set)) [] := by
  have hl := atomsE_len e
  refine FnOK.intro (fn := Tryz.f147) (c := Tryz.f147.body.getD .skip) (by kernel_rfl) (by kernel_rfl) (by kernel_rfl) (by kernel_rfl) (by simp [Tryz.f147]) (by simp [names]) ?_
  unfold Tryz.f147
  simp (disch := omega) only [go_sem]
  refine call_pure (f39_ok e) (by simp (disch := omega) only [go_sem]) rfl ?_
  by_cases h0 : (atomsE e).length = 0
  · have e1 : (0 < ((atomsE e).length : Int)) = False := eq_false (by omega)
    simp (disch := omega) only [go_sem, e1, decide_false]
    refine ret_mk ⟨[], [], []⟩ _ (by (try simp (disch := omega) only [go_sem, resVs, resV]) <;> rfl) ⟨rfl, rfl⟩ (by simp) ?_ trivial
    simp (disch := omega) only [go_sem]
    exact wb (by simp [holdsE, h0])
  · have e1 : (0 < ((atomsE e).length : Int)) = True := eq_true (by omega)
    simp (disch := omega) only [go_sem, e1, decide_true]
    refine call_pure (f75_ok e (atomsE e) set (by omega)) (by simp (disch := omega) only [go_sem]) rfl ?_
    simp (disch := omega) only [go_sem]
    refine ret_mk ⟨[], [], []⟩ _ (by (try simp (disch := omega) only [go_sem, resVs, resV]) <;> rfl) ⟨rfl, rfl⟩ (by simp) ?_ trivial
    simp (disch := omega) only [go_sem]
    exact wb (by simp [holdsE, h0])
def waitsIn (l : List Queue) (p : Proc) (name : Bs) : Bool := l.foldl (fun w q => if q.res.name == name then (wantQ q p).isSome else w) false
theorem waitsIn_take {l : List Queue} {i : Nat} {b : Queue} (p : Proc) (name : Bs) (hb : l[i]? = some b) : waitsIn (l.take (i + 1)) p name = if b.res.name == name then (wantQ b p).isSome else waitsIn (l.take i) p name := by
  unfold waitsIn
  rw [List.take_add_one, hb, Option.toList_some, List.foldl_append]
  rfl
def grantedS (s : WS) (n : Need) : List Bool := (atomsE n.expr).map fun a => !waitsIn s.queues n.proc a.name
theorem f148_ok (s : WS) (n : Need) (h : Few s) : FnOK C0 148 [.agg s.c, .agg n.c] [] (bitsV (grantedS s n)) [] := by
  have hl := atomsE_len n.expr
  have hn1 := h.nq
  refine FnOK.intro (fn := Tryz.f148) (c := Tryz.f148.body.getD .skip) (by kernel_rfl) (by kernel_rfl) (by kernel_rfl) (by kernel_rfl) (by simp [Tryz.f148]) (by simp [names]) ?_
  unfold Tryz.f148
  simp (disch := omega) only [go_sem]
  refine call_pure (f39_ok n.expr) (by simp (disch := omega) only [go_sem]) rfl ?_
  simp (disch := omega) only [go_sem]
  refine loop_intro (α := Nat) (fun i => ⟨[(15, I i), (14, I (atomsE n.expr).length), (13, atomsV (atomsE n.expr)), (2, .ptr 128 0), (3, .ptr 192 0), (5, .sl (.own 2816 0) 1 (((atomsE n.expr).take i).map fun a => [B (!waitsIn s.queues n.proc a.name)]))], [(128, s.c), (192, n.c)]⟩) (fun i => i ≤ ((atomsE n.expr)).length ∧ True) (fun i => ((atomsE n.expr)).length - i) 0 ⟨by omega, trivial⟩ ?_ ?_
  · refine Imp.weak ?_ ?_
    all_goals (try simp (disch := omega) only [go_sem])
    all_goals (try (repeat' (with_reducible apply And.intro)))
    all_goals (first | exact .nilOwn (by omega) | exact .nilNo (by omega) | exact .sl (by simp []) | exact .int (by simp []) | exact .eq (by simp []))
  rintro i ⟨hi, hP⟩ J hJ
  simp (disch := omega) only [go_sem]
  refine And.intro (fun hlt => ?_) (fun hge => ?_)
  rotate_left
  have hil : i = ((atomsE n.expr)).length := by simp at hge; omega
  rotate_left
  obtain ⟨b, hb⟩ : ∃ b, ((atomsE n.expr))[i]? = some b := ⟨_, List.getElem?_eq_getElem (by simp at hlt; omega)⟩
  have hbm := List.mem_of_getElem? hb
  simp (disch := omega) only [go_sem, List.getElem?_map, hb]
  · have step : ∀ st', Imp ⟨C0, [], []⟩ st' ⟨[(15, I (i + 1 : Nat)), (14, I (atomsE n.expr).length), (13, atomsV (atomsE n.expr)), (2, .ptr 128 0), (3, .ptr 192 0), (5, .sl (.own 2816 0) 1 (((atomsE n.expr).take i).map (fun a => [B (!waitsIn s.queues n.proc a.name)]) ++ [[B (!waitsIn s.queues n.proc b.name)]]))], [(128, s.c), (192, n.c)]⟩ → J st' := fun st' h => by
      refine hJ st' (i + 1) ⟨by simp at hlt; omega, trivial⟩ (by simp at hlt; omega) ?_
      have e : ((atomsE n.expr).take (i + 1)).map (fun a => [B (!waitsIn s.queues n.proc a.name)]) = ((atomsE n.expr).take i).map (fun a => [B (!waitsIn s.queues n.proc a.name)]) ++ [[B (!waitsIn s.queues n.proc b.name)]] := by
        rw [List.take_add_one, hb]; simp
      rw [e]; exact h
    have hbd : min i (atomsE n.expr).length + 1 ≤ 4294967296 := by omega
    refine loop_intro (α := Nat) (fun j => ⟨[(22, I j), (21, I s.queues.length), (20, queuesV s.queues), (8, B (waitsIn (s.queues.take j) n.proc b.name)), (7, .ptr 448 0), (15, I i), (14, I (atomsE n.expr).length), (13, atomsV (atomsE n.expr)), (2, .ptr 128 0), (3, .ptr 192 0), (5, .sl (.own 2816 0) 1 (((atomsE n.expr).take i).map fun a => [B (!waitsIn s.queues n.proc a.name)]))], [(448, b.c), (128, s.c), (192, n.c)]⟩) (fun j => j ≤ s.queues.length) (fun j => s.queues.length - j) 0 (by omega) ?_ ?_
    · refine Imp.weak ?_ ?_
      · simp (disch := omega) only [go_sem, List.take_zero]
        exact .eq rfl
      · simp (disch := omega) only [go_sem]
    rintro j hj J2 hJ2
    simp (disch := omega) only [go_sem]
    refine And.intro (fun hlt2 => ?_) (fun hge2 => ?_)
    · obtain ⟨q, hq⟩ : ∃ q, s.queues[j]? = some q := ⟨_, List.getElem?_eq_getElem (by simp at hlt2; omega)⟩
      have hqm := List.mem_of_getElem? hq
      have hqa := h.aq q hqm
      have hq2 : q.convs.length + q.waits.length ≤ 1000000 := by unfold allQ sizeQ at hqa; omega
      have hw := waitsIn_take n.proc b.name hq
      simp (disch := omega) only [go_sem, List.getElem?_map, hq]
      refine And.intro (fun hh => ?_) (fun hh => ?_)
      · refine call_pure (f103_ok q n.proc hq2) (by simp (disch := omega) only [go_sem]) rfl ?_
        simp (disch := omega) only [go_sem]
        rw [if_pos hh] at hw
        refine hJ2 _ (j + 1) (by simp at hlt2; omega) (by simp at hlt2; omega) (Imp.weak ?_ (by simp (disch := omega) only [go_sem]))
        rw [hw]
        simp (disch := omega) only [go_sem]
      · rw [if_neg (by simp [hh])] at hw
        refine hJ2 _ (j + 1) (by simp at hlt2; omega) (by simp at hlt2; omega) (Imp.weak ?_ (by simp (disch := omega) only [go_sem]))
        rw [hw]
        simp (disch := omega) only [go_sem]
    · have hjl : j = s.queues.length := by simp at hge2; omega
      subst hjl
      clear hJ2
      simp (disch := omega) only [go_sem, List.take_length, List.length_map, List.length_take]
      exact step _ (Imp.weak (by simp (disch := omega) only [go_sem]) (by simp (disch := omega) only [go_sem]))
  · subst hil
    refine ret_mk ⟨[], [], [2816]⟩ _ (by (try simp (disch := omega) only [go_sem, resVs, resV]) <;> rfl) ⟨rfl, rfl⟩ (by simp) ?_ trivial
    simp (disch := omega) only [go_sem, List.take_length]
    exact .sl (by simp [grantedS])
end Go.Rd
open Go Go.Abs Go.Proofs
set_option maxRecDepth 100000
namespace Go.Rd
theorem allAt_iff {α : Type} {f : Nat → α → Bool} {l : List α} : allAt f l = true ↔ ∀ i b, l[i]? = some b → f i b = true := by
  unfold allAt
  rw [List.all_eq_true]
  constructor
  · intro h i b hb
    exact h (b, i) (by rw [List.mk_mem_zipIdx_iff_getElem?]; exact hb)
  · rintro h ⟨b, i⟩ hm
    rw [List.mk_mem_zipIdx_iff_getElem?] at hm
    exact h i b hm
theorem lt_of_get {α : Type} {l : List α} {i : Nat} {b : α} (h : l[i]? = some b) : i < l.length := by
  rcases Nat.lt_or_ge i l.length with h' | h'
  · exact h'
  · rw [List.getElem?_eq_none h'] at h; cases h
theorem get_eq {α : Type} {l : List α} {i : Nat} {b : α} (h : l[i]? = some b) : l[i]'(lt_of_get h) = b := by
  rw [List.getElem?_eq_getElem (lt_of_get h)] at h
  exact Option.some.inj h
def uniqW (l : List Wait) : Prop := l.Pairwise fun a b => a.proc ≠ b.proc
theorem uniq_iff (l : List Wait) : (∀ (i : Nat) (w : Wait), l[i]? = some w → findW l w.proc = (i : Int)) ↔ uniqW l := by
  unfold uniqW
  rw [List.pairwise_iff_getElem]
  constructor
  · intro h i j hi hj hij he
    have h1 := h i l[i] (List.getElem?_eq_getElem hi)
    have h2 := h j l[j] (List.getElem?_eq_getElem hj)
    rw [he, h2] at h1
    omega
  · intro h i w hw
    have hi := lt_of_get hw
    have hwe := get_eq hw
    have : l.findIdx? (fun x => decide (x.proc = w.proc)) = some i := by
      rw [List.findIdx?_eq_some_iff_getElem]
      refine ⟨hi, by simp [hwe], fun j hj => ?_⟩
      have := h j i (by omega) hi hj
      rw [hwe] at this
      simpa using this
    simp [findW, this]
def ascH (l : List Hold) : Prop := l.Pairwise fun a b => cmpP a.proc b.proc < 0
theorem asc_iff (l : List Hold) : (∀ i h, l[i]? = some h → (decide (i = 0) || decide (cmpP (l.getD (i - 1) h0).proc h.proc < 0)) = true) ↔ ascH l := by
  unfold ascH
  rw [List.pairwise_iff_getElem]
  constructor
  · intro h
    have step : ∀ i (hi : i + 1 < l.length), cmpP l[i].proc l[i + 1].proc < 0 := fun i hi => by
      have := h (i + 1) l[i + 1] (List.getElem?_eq_getElem hi)
      simp only [Nat.add_sub_cancel, Bool.or_eq_true, decide_eq_true_eq] at this
      rcases this with h' | h'
      · omega
      · simpa [List.getD, List.getElem?_eq_getElem (show i < l.length by omega)] using h'
    have far : ∀ d i (hi : i + d + 1 < l.length), cmpP l[i].proc l[i + d + 1].proc < 0 := by
      intro d
      induction d with
      | zero => intro i hi; exact step i hi
      | succ d ih =>
        intro i hi
        have h1 := ih i (by omega)
        have h2 := step (i + d + 1) (by omega)
        exact cmpP_trans h1 h2
    intro i j hi hj hij
    obtain ⟨d, rfl⟩ : ∃ d, j = i + d + 1 := ⟨j - i - 1, by omega⟩
    exact far d i hj
  · intro h i b hb
    cases i with
    | zero => simp
    | succ i =>
      have hi := lt_of_get hb
      have hbe := get_eq hb
      have := h i (i + 1) (by omega) hi (by omega)
      rw [hbe] at this
      simp [List.getD, List.getElem?_eq_getElem (show i < l.length by omega), this]
theorem holdsOK_iff (r : Res) (l : List Hold) : holdsOK r l = true ↔ r.shaped = true ∧ l.length ≤ 8 ∧ (∀ h ∈ l, h.proc.ok = true ∧ r.fits h.amt = true) ∧ ascH l ∧ r.compat (l.map (·.amt)) = true := by
  unfold holdsOK
  simp only [Bool.and_eq_true, decide_eq_true_eq, allAt_iff, holdPos]
  rw [← asc_iff]
  constructor
  · rintro ⟨⟨⟨h1, h2⟩, h3⟩, h4⟩
    refine ⟨h1, h2, fun h hm => ?_, fun i h hi => (h3 i h hi).2, h4⟩
    obtain ⟨i, hi, he⟩ := List.getElem_of_mem hm
    have := h3 i h (by rw [List.getElem?_eq_getElem hi, he])
    exact this.1
  · rintro ⟨h1, h2, h3, h4, h5⟩
    exact ⟨⟨⟨h1, h2⟩, fun i h hi => ⟨h3 h (List.mem_of_getElem? hi), h4 i h hi⟩⟩, h5⟩
theorem convsOK_iff (q : Queue) : convsOK q = true ↔ q.convs.length ≤ 8 ∧ uniqW q.convs ∧ ∀ w ∈ q.convs, (getH q.holds w.proc).zero = false ∧ q.res.fits w.amt = true ∧ q.res.covers w.amt (getH q.holds w.proc) = true ∧ w.amt ≠ getH q.holds w.proc ∧ w.prio = 0 ∧ w.passed = 0 := by
  unfold convsOK
  simp only [Bool.and_eq_true, decide_eq_true_eq, allAt_iff, convPos]
  rw [← uniq_iff]
  constructor
  · rintro ⟨h1, h2⟩
    refine ⟨h1, fun i w hi => (h2 i w hi).1.1.1.1.1.1, fun w hm => ?_⟩
    obtain ⟨i, hi, he⟩ := List.getElem_of_mem hm
    have := h2 i w (by rw [List.getElem?_eq_getElem hi, he])
    simp at this
    obtain ⟨⟨⟨⟨⟨⟨_, a⟩, b⟩, c⟩, d⟩, e⟩, f⟩ := this
    exact ⟨by simpa using a, b, c, d, e, f⟩
  · rintro ⟨h1, h2, h3⟩
    refine ⟨h1, fun i w hi => ?_⟩
    obtain ⟨a, b, c, d, e, f⟩ := h3 w (List.mem_of_getElem? hi)
    exact ⟨⟨⟨⟨⟨⟨h2 i w hi, by simp [a]⟩, b⟩, c⟩, by simpa using d⟩, by simpa using e⟩, by simpa using f⟩
theorem lineOK_iff (l : List Wait) : lineOK l = true ↔ l.length ≤ 8 ∧ uniqW l ∧ ∀ w ∈ l, w.ok = true := by
  unfold lineOK
  simp only [Bool.and_eq_true, decide_eq_true_eq, allAt_iff, linePos]
  rw [← uniq_iff]
  constructor
  · rintro ⟨h1, h2⟩
    refine ⟨h1, fun i w hi => (h2 i w hi).2, fun w hm => ?_⟩
    obtain ⟨i, hi, he⟩ := List.getElem_of_mem hm
    exact (h2 i w (by rw [List.getElem?_eq_getElem hi, he])).1
  · rintro ⟨h1, h2, h3⟩
    exact ⟨h1, fun i w hi => ⟨h3 w (List.mem_of_getElem? hi), h2 i w hi⟩⟩
theorem waitsOK_iff (q : Queue) : waitsOK q = true ↔ lineOK q.waits = true ∧ q.holds.length + q.waits.length ≤ 8 ∧ ∀ w ∈ q.waits, q.res.fits w.amt = true ∧ (getH q.holds w.proc).zero = true := by
  unfold waitsOK
  simp only [Bool.and_eq_true, decide_eq_true_eq, List.all_eq_true, waitPos, and_assoc]
structure Sound (q : Queue) : Prop where
  res : resOK q.res = true
  holds : holdsOK q.res q.holds = true
  convs : convsOK q = true
  waits : waitsOK q = true
  gen : 0 ≤ q.gen ∧ q.gen ≤ 1073741824
theorem sound_iff (q : Queue) : sound q = true ↔ Sound q := by
  unfold sound
  simp only [Bool.and_eq_true, decide_eq_true_eq]
  exact ⟨fun ⟨⟨⟨⟨⟨a, b⟩, c⟩, d⟩, e⟩, f⟩ => ⟨a, b, c, d, e, f⟩, fun h => ⟨⟨⟨⟨⟨h.res, h.holds⟩, h.convs⟩, h.waits⟩, h.gen.1⟩, h.gen.2⟩⟩
/-- what a process holds, once another's part is changed -/
theorem find_filter {α : Type} {f g : α → Bool} (h : ∀ x, f x = true → g x = true) : ∀ l : List α, (l.filter g).find? f = l.find? f
  | [] => rfl
  | x :: l => by
    simp only [List.filter_cons, List.find?_cons]
    cases hf : f x
    · cases g x
      · simpa using find_filter h l
      · simp only [if_true, List.find?_cons, hf]; exact find_filter h l
    · simp [h x hf, hf]
theorem getH_drop {l : List Hold} {p p' : Proc} (h : p' ≠ p) : getH (dropH l p) p' = getH l p' := by
  unfold getH dropH
  rw [find_filter]
  intro x hx
  simp at hx ⊢
  rw [hx]; exact h
theorem getH_set {l : List Hold} {p p' : Proc} {a : Amt} (h : p' ≠ p) : getH (setH l p a) p' = getH l p' := by
  rw [← getH_drop (l := l) h]
  unfold setH
  split
  · rfl
  · unfold getH
    generalize placeN (dropH l p) p = k
    conv => rhs; rw [← List.take_append_drop k (dropH l p)]
    rw [List.find?_append, List.find?_append, List.find?_cons]
    have : decide (p = p') = false := by simpa using Ne.symm h
    simp [this]
theorem dropH_has {l : List Hold} {p : Proc} (h : (getH l p).zero = false) : (dropH l p).length + 1 ≤ l.length := by
  unfold getH at h
  cases hf : l.find? (fun h => decide (h.proc = p)) with
  | none => rw [hf] at h; simp [Amt.zero] at h
  | some x =>
    have hm := List.mem_of_find?_eq_some hf
    have hx := List.find?_some hf
    unfold dropH
    have : (l.filter fun h => decide (h.proc ≠ p)).length < l.length := by
      rw [List.length_filter_lt_length_iff_exists]
      exact ⟨x, hm, by simpa using hx⟩
    omega
theorem set_len {l : List Hold} {p : Proc} {a : Amt} : (setH l p a).length ≤ (dropH l p).length + 1 := by
  have h2 := placeN_le (dropH l p) p
  unfold setH
  split
  · omega
  · simp; omega
theorem fits_nz {r : Res} {a : Amt} (h : r.fits a = true) : a.zero = false := by
  simp only [Res.fits, Bool.and_eq_true] at h
  obtain ⟨h1, h2⟩ := h
  split at h2
  · simp [modeOK, between] at h2
    simp [Amt.zero]
    omega
  · simp [between] at h2
    simp [Amt.zero]
    omega
theorem mem_dropH {l : List Hold} {p : Proc} {h : Hold} : h ∈ dropH l p ↔ h ∈ l ∧ h.proc ≠ p := by simp [dropH]
theorem mem_setH {l : List Hold} {p : Proc} {a : Amt} (ha : a.zero = false) {h : Hold} : h ∈ setH l p a ↔ (h ∈ l ∧ h.proc ≠ p) ∨ h = ⟨p, a⟩ := by
  unfold setH
  rw [ha]
  simp only [Bool.false_eq_true, if_false, List.mem_append, List.mem_cons]
  rw [← mem_dropH]
  conv => rhs; rw [← List.take_append_drop (placeN (dropH l p) p) (dropH l p), List.mem_append]
  constructor
  · rintro (h | h | h)
    · exact .inl (.inl h)
    · exact .inr h
    · exact .inl (.inr h)
  · rintro ((h | h) | h)
    · exact .inl h
    · exact .inr (.inr h)
    · exact .inr (.inl h)
end Go.Rd
open Go Go.Abs Go.Proofs
set_option maxRecDepth 100000
namespace Go.Rd
theorem seenOK_mono {s s' : List Bool} {m : Int} (h : ∀ k, s'.getD k false = true → s.getD k false = true) (hs : seenOK s m = true) : seenOK s' m = true := by
  unfold seenOK at *
  rw [List.all_eq_true] at *
  intro k hk
  have := hs k hk
  cases h1 : s'.getD k false
  · rfl
  · rw [h k h1] at this
    simpa using this
theorem getD_set (s : List Bool) (i k : Nat) : (s.set i true).getD k false = (if i = k ∧ i < s.length then true else s.getD k false) := by
  simp only [List.getD_eq_getElem?_getD, List.getElem?_set]
  by_cases h : i = k
  · subst h
    by_cases h2 : i < s.length
    · simp [h2]
    · simp [h2]
  · simp [h]
theorem compatL_mono {r : Res} {l' l : List Amt} (hsub : l'.Sublist l) : ∀ {s s' : Int} {seen seen' : List Bool}, s' ≤ s → seen'.length = seen.length → (∀ k, seen'.getD k false = true → seen.getD k false = true) → compatL r l s seen = true → compatL r l' s' seen' = true := by
  induction hsub with
  | slnil => intros; rfl
  | cons a hsub ih =>
    intro s s' seen seen' hs hlen hk h
    simp only [compatL, Bool.and_eq_true] at h
    obtain ⟨⟨h1, h2⟩, h3⟩ := h
    have hu := permits_amt h1
    split at h3
    · exact ih (by omega) hlen hk h3
    · rw [Bool.and_eq_true] at h3
      refine ih (by omega) (by simpa using hlen) (fun k hk' => ?_) h3.2
      rw [getD_set]
      split
      · rfl
      · exact hk k hk'
  | cons_cons a hsub ih =>
    intro s s' seen seen' hs hlen hk h
    simp only [compatL, Bool.and_eq_true, Bool.not_eq_true', decide_eq_false_iff_not] at h ⊢
    obtain ⟨⟨h1, h2⟩, h3⟩ := h
    refine ⟨⟨h1, by omega⟩, ?_⟩
    split at h3
    · rename_i hm
      rw [if_pos hm]
      exact ih (by omega) hlen hk h3
    · rename_i hm
      rw [if_neg hm]
      rw [Bool.and_eq_true] at h3 ⊢
      refine ⟨seenOK_mono hk h3.1, ih (by omega) (by simpa using hlen) (fun k hk' => ?_) h3.2⟩
      rw [getD_set] at hk' ⊢
      split at hk'
      · rename_i hc
        rw [if_pos ⟨hc.1, by omega⟩]
      · split
        · rfl
        · exact hk k hk'
theorem compat_sub {r : Res} {l' l : List Amt} (hsub : l'.Sublist l) (h : r.compat l = true) : r.compat l' = true := by
  simp only [Res.compat, Bool.and_eq_true] at *
  exact ⟨h.1, compatL_mono hsub (Int.le_refl _) rfl (fun _ h => h) h.2⟩
theorem holdsOK_sub {r : Res} {l' l : List Hold} (hsub : l'.Sublist l) (h : holdsOK r l = true) : holdsOK r l' = true := by
  rw [holdsOK_iff] at *
  obtain ⟨h1, h2, h3, h4, h5⟩ := h
  exact ⟨h1, Nat.le_trans hsub.length_le h2, fun x hx => h3 x (hsub.subset hx), h4.sublist hsub, compat_sub (hsub.map _) h5⟩
theorem setH_zero (l : List Hold) (p : Proc) : setH l p ⟨0, 0⟩ = dropH l p := by simp [setH, Amt.zero]
theorem sound_cut {q : Queue} (h : Sound q) (p : Proc) : Sound (cutQ q p) := by
  have hd : (dropH q.holds p).length ≤ q.holds.length := List.length_filter_le _ _
  have hw := dropW_length q.waits p
  have hc := dropW_length q.convs p
  refine ⟨h.res, ?_, ?_, ?_, h.gen⟩
  · simp only [cutQ, setH_zero]
    exact holdsOK_sub List.filter_sublist h.holds
  · have := (convsOK_iff q).1 h.convs
    rw [convsOK_iff]
    simp only [cutQ, setH_zero]
    refine ⟨by omega, this.2.1.sublist List.filter_sublist, fun w hw => ?_⟩
    simp only [dropW, List.mem_filter, decide_eq_true_eq] at hw
    rw [getH_drop hw.2]
    exact this.2.2 w hw.1
  · have := (waitsOK_iff q).1 h.waits
    rw [waitsOK_iff]
    obtain ⟨a, b, c⟩ := this
    rw [lineOK_iff] at a
    simp only [cutQ, setH_zero, lineOK_iff]
    refine ⟨⟨by omega, a.2.1.sublist List.filter_sublist, fun w hw => ?_⟩, by omega, fun w hw => ?_⟩
    · simp only [dropW, List.mem_filter] at hw
      exact a.2.2 w hw.1
    · simp only [dropW, List.mem_filter, decide_eq_true_eq] at hw
      rw [getH_drop hw.2]
      exact c w hw.1
theorem room_spec {q : Queue} {w : Wait} (h : roomH q.res q.holds w.proc w.amt = true) : q.res.fits w.amt = true ∧ w.proc.ok = true ∧ holdsOK q.res (setH q.holds w.proc w.amt) = true := by
  simp only [roomH, Bool.and_eq_true] at h
  exact ⟨h.1.2, h.1.1.2, h.2⟩
theorem sound_pop {q : Queue} {w : Wait} (h : Sound q) (hh : headQ q = some w) (hr : roomH q.res q.holds w.proc w.amt = true) : Sound (popQ q w) := by
  obtain ⟨r1, r2, r3⟩ := room_spec hr
  have hcv := (convsOK_iff q).1 h.convs
  have hwt := (waitsOK_iff q).1 h.waits
  obtain ⟨a, b, c⟩ := hwt
  rw [lineOK_iff] at a
  cases hc : q.convs with
  | cons w' l =>
    have hw' : w' = w := by simp [headQ, hc] at hh; exact hh
    subst hw'
    have hp : popQ q w' = { q with holds := setH q.holds w'.proc w'.amt, convs := l } := by unfold popQ; simp only [hc]
    rw [hp]
    have hu := hcv.2.1
    rw [hc] at hu
    have hu' := List.pairwise_cons.1 hu
    have hheld := (hcv.2.2 w' (by rw [hc]; simp)).1
    refine ⟨h.res, r3, ?_, ?_, h.gen⟩
    · rw [convsOK_iff]
      have := hcv.1
      rw [hc] at this
      simp only [List.length_cons] at this
      refine ⟨by simp; omega, hu'.2, fun x hx => ?_⟩
      have hne : x.proc ≠ w'.proc := fun e => hu'.1 x hx e.symm
      simp only [getH_set hne]
      exact hcv.2.2 x (by rw [hc]; simp [hx])
    · rw [waitsOK_iff]
      simp only [lineOK_iff]
      refine ⟨a, ?_, fun x hx => ?_⟩
      · have h1 := dropH_has hheld
        have h2 := set_len (l := q.holds) (p := w'.proc) (a := w'.amt)
        omega
      · have hx' := c x hx
        have hne : x.proc ≠ w'.proc := fun e => by rw [e, hheld] at hx'; exact absurd hx'.2 (by simp)
        rw [getH_set hne]
        exact hx'
  | nil =>
    cases hw : q.waits with
    | nil => simp [headQ, hc, hw] at hh
    | cons w' l =>
      have hw' : w' = w := by simp [headQ, hc, hw] at hh; exact hh
      subst hw'
      have hp : popQ q w' = { q with holds := setH q.holds w'.proc w'.amt, waits := l } := by unfold popQ; simp only [hc, hw]; rfl
      rw [hp]
      rw [hw] at a b
      have hu' := List.pairwise_cons.1 a.2.1
      simp only [List.length_cons] at a b
      refine ⟨h.res, r3, ?_, ?_, h.gen⟩
      · rw [convsOK_iff]
        simp [hc, uniqW]
      · rw [waitsOK_iff]
        simp only [lineOK_iff]
        refine ⟨⟨by omega, hu'.2, fun x hx => a.2.2 x (by simp [hx])⟩, ?_, fun x hx => ?_⟩
        · have h2 := set_len (l := q.holds) (p := w'.proc) (a := w'.amt)
          have h3 : (dropH q.holds w'.proc).length ≤ q.holds.length := List.length_filter_le _ _
          omega
        · have hne : x.proc ≠ w'.proc := fun e => hu'.1 x hx e.symm
          rw [getH_set hne]
          exact c x (by rw [hw]; simp [hx])
/-- a queue whose head cannot be granted -/
def settledQ (q : Queue) : Prop := ∀ w, headQ q = some w → roomH q.res q.holds w.proc w.amt = false
theorem valid_iff (q : Queue) : valid q = true ↔ Sound q ∧ settledQ q := by
  unfold valid settledQ
  rw [Bool.and_eq_true, sound_iff]
  cases h : headQ q <;> simp
theorem popQ_res (q : Queue) (w : Wait) : (popQ q w).res = q.res ∧ (popQ q w).gen = q.gen := by unfold popQ; split <;> exact ⟨rfl, rfl⟩
theorem adv_ind {P : Queue → Prop} (hP : ∀ q w, P q → headQ q = some w → roomH q.res q.holds w.proc w.amt = true → P (popQ q w)) : ∀ (n : Nat) (q : Queue), sizeQ q = n → P q → P (advQ q).1 ∧ settledQ (advQ q).1
  | n, q, hn, hq => by
    rw [advQ_def]
    cases hh : headQ q with
    | none => exact ⟨hq, fun w hw => by simp [hh] at hw⟩
    | some w =>
      simp only
      cases hr : roomH q.res q.holds w.proc w.amt
      · exact ⟨hq, fun w' hw' => by simp [hh] at hw'; subst hw'; exact hr⟩
      · have hs := head_size hh
        exact adv_ind hP (sizeQ (popQ q w)) (popQ q w) rfl (hP q w hq hh hr)
termination_by n q hn => sizeQ q
decreasing_by simp_wf; have := head_size hh; omega
theorem sound_adv {q : Queue} (h : Sound q) : Sound (advQ q).1 ∧ settledQ (advQ q).1 := adv_ind (fun _ _ h hh hr => sound_pop h hh hr) _ q rfl h
theorem adv_res (q : Queue) : (advQ q).1.res = q.res ∧ (advQ q).1.gen = q.gen := (adv_ind (P := fun x => x.res = q.res ∧ x.gen = q.gen) (fun x w h _ _ => by rw [(popQ_res x w).1, (popQ_res x w).2]; exact h) _ q rfl ⟨rfl, rfl⟩).1
theorem adv_all (q : Queue) : allQ (advQ q).1 ≤ allQ q := (adv_ind (P := fun x => allQ x ≤ allQ q) (fun x w h hh _ => Nat.le_trans (allQ_pop hh) h) _ q rfl (Nat.le_refl _)).1
theorem headQ_gen (q : Queue) (g : Int) : headQ { q with gen := g } = headQ q := rfl
theorem valid_gen {q : Queue} (h : Sound q ∧ settledQ q) {g : Int} (hg : 0 ≤ g ∧ g ≤ 1073741824) : Sound { q with gen := g } ∧ settledQ { q with gen := g } := by
  refine ⟨⟨h.1.res, h.1.holds, ?_, ?_, hg⟩, fun w hw => h.2 w hw⟩
  · rw [convsOK_iff]; exact (convsOK_iff q).1 h.1.convs
  · rw [waitsOK_iff]; exact (waitsOK_iff q).1 h.1.waits
theorem valid_rem {q : Queue} (h : valid q = true) (p : Proc) : valid (remQ1 q p) = true := by
  unfold remQ1
  split
  · rw [valid_iff] at h ⊢
    have h1 := sound_adv (sound_cut h.1 p)
    exact valid_gen h1 h.1.gen
  · exact h
theorem remQ1_res (q : Queue) (p : Proc) : (remQ1 q p).res = q.res := by
  unfold remQ1
  split
  · exact (adv_res (cutQ q p)).1
  · rfl
theorem cut_all (q : Queue) (p : Proc) : allQ (cutQ q p) ≤ allQ q := by
  have hd : (dropH q.holds p).length ≤ q.holds.length := List.length_filter_le _ _
  have hw := dropW_length q.waits p
  have hc := dropW_length q.convs p
  unfold allQ sizeQ
  simp only [cutQ, setH_zero]
  omega
theorem remQ1_all (q : Queue) (p : Proc) : allQ (remQ1 q p) ≤ allQ q := by
  unfold remQ1
  split
  · exact Nat.le_trans (adv_all (cutQ q p)) (cut_all q p)
  · exact Nat.le_refl _
end Go.Rd
open Go Go.Abs Go.Proofs
set_option maxRecDepth 100000
namespace Go.Rd
/-- the processes of a queue -/
def inQ (q : Queue) (x : Proc) : Prop := (∃ h ∈ q.holds, h.proc = x) ∨ (∃ w ∈ q.convs, w.proc = x) ∨ (∃ w ∈ q.waits, w.proc = x)
theorem mem_procsQ (q : Queue) (x : Proc) : x ∈ procsQ q ↔ inQ q x := by
  unfold procsQ inQ
  rw [mem_sortU]
  simp [procsH, procsW, or_and_right, exists_or]
theorem getH_some {l : List Hold} {p : Proc} (h : (getH l p).zero = false) : ∃ x ∈ l, x.proc = p := by
  unfold getH at h
  cases hf : l.find? (fun h => decide (h.proc = p)) with
  | none => rw [hf] at h; simp [Amt.zero] at h
  | some x => exact ⟨x, List.mem_of_find?_eq_some hf, by simpa using List.find?_some hf⟩
theorem in_pop {q : Queue} {w : Wait} (hh : headQ q = some w) (hr : roomH q.res q.holds w.proc w.amt = true) (x : Proc) : inQ (popQ q w) x ↔ inQ q x := by
  have hz := fits_nz (room_spec hr).1
  have hset : (∃ h ∈ setH q.holds w.proc w.amt, h.proc = x) ↔ ((∃ h ∈ q.holds, h.proc = x) ∨ x = w.proc) := by
    simp only [mem_setH hz]
    constructor
    · rintro ⟨h, (⟨h1, h2⟩ | h1), h3⟩
      · exact .inl ⟨h, h1, h3⟩
      · subst h1; exact .inr h3.symm
    · rintro (⟨h, h1, h2⟩ | h1)
      · by_cases e : h.proc = w.proc
        · exact ⟨⟨w.proc, w.amt⟩, .inr rfl, by rw [← e, h2]⟩
        · exact ⟨h, .inl ⟨h1, e⟩, h2⟩
      · exact ⟨⟨w.proc, w.amt⟩, .inr rfl, h1.symm⟩
  unfold inQ
  cases hc : q.convs with
  | cons w' l =>
    have hw' : w' = w := by simp [headQ, hc] at hh; exact hh
    subst hw'
    have hp : popQ q w' = { q with holds := setH q.holds w'.proc w'.amt, convs := l } := by unfold popQ; simp only [hc]
    rw [hp]
    simp only [hset, List.mem_cons, exists_eq_or_imp, or_and_right, exists_or]
    constructor
    · rintro ((h | h) | h | h)
      · exact .inl h
      · exact .inr (.inl (.inl ⟨w', rfl, h.symm⟩))
      · exact .inr (.inl (.inr h))
      · exact .inr (.inr h)
    · rintro (h | (h | h) | h)
      · exact .inl (.inl h)
      · obtain ⟨_, rfl, h⟩ := h; exact .inl (.inr h.symm)
      · exact .inr (.inl h)
      · exact .inr (.inr h)
  | nil =>
    cases hw : q.waits with
    | nil => simp [headQ, hc, hw] at hh
    | cons w' l =>
      have hw' : w' = w := by simp [headQ, hc, hw] at hh; exact hh
      subst hw'
      have hp : popQ q w' = { q with holds := setH q.holds w'.proc w'.amt, waits := l } := by unfold popQ; simp only [hc, hw]; rfl
      rw [hp]
      simp only [hset, hc, List.mem_cons, exists_eq_or_imp, or_and_right, exists_or, List.not_mem_nil, false_and, exists_false, false_or]
      constructor
      · rintro ((h | h) | h)
        · exact .inl h
        · exact .inr (.inl ⟨w', rfl, h.symm⟩)
        · exact .inr (.inr h)
      · rintro (h | h | h)
        · exact .inl (.inl h)
        · obtain ⟨_, rfl, h⟩ := h; exact .inl (.inr h.symm)
        · exact .inr h
theorem in_adv (q : Queue) (x : Proc) : inQ (advQ q).1 x ↔ inQ q x :=
  (adv_ind (P := fun y => inQ y x ↔ inQ q x) (fun y w h hh hr => (in_pop hh hr x).trans h) _ q rfl Iff.rfl).1
theorem in_cut (q : Queue) (p x : Proc) : inQ (cutQ q p) x ↔ inQ q x ∧ x ≠ p := by
  unfold inQ
  simp only [cutQ, setH_zero, mem_dropH, dropW, List.mem_filter, decide_eq_true_eq]
  constructor
  · rintro (⟨h, ⟨h1, h2⟩, h3⟩ | ⟨h, ⟨h1, h2⟩, h3⟩ | ⟨h, ⟨h1, h2⟩, h3⟩)
    · exact ⟨.inl ⟨h, h1, h3⟩, by rw [← h3]; exact h2⟩
    · exact ⟨.inr (.inl ⟨h, h1, h3⟩), by rw [← h3]; exact h2⟩
    · exact ⟨.inr (.inr ⟨h, h1, h3⟩), by rw [← h3]; exact h2⟩
  · rintro ⟨⟨h, h1, h3⟩ | ⟨h, h1, h3⟩ | ⟨h, h1, h3⟩, hne⟩
    · exact .inl ⟨h, ⟨h1, by rw [h3]; exact hne⟩, h3⟩
    · exact .inr (.inl ⟨h, ⟨h1, by rw [h3]; exact hne⟩, h3⟩)
    · exact .inr (.inr ⟨h, ⟨h1, by rw [h3]; exact hne⟩, h3⟩)
theorem in_rem {q : Queue} (hv : valid q = true) (p x : Proc) : x ∈ procsQ (remQ1 q p) ↔ x ∈ procsQ q ∧ x ≠ p := by
  by_cases hp : hasP (procsQ q) p = true
  · have e : remQ1 q p = { endQ (cutQ q p) with gen := q.gen } := by simp [remQ1, hv, hp]
    rw [mem_procsQ, mem_procsQ, e, ← in_cut]
    exact in_adv (cutQ q p) x
  · have e : remQ1 q p = q := by simp [remQ1, hp]
    rw [e]
    have : p ∉ procsQ q := by simpa [hasP] using hp
    exact ⟨fun h => ⟨h, fun e => this (e ▸ h)⟩, And.left⟩
/-- all queues valid -/
def GoodS (s : WS) : Prop := ∀ q ∈ s.queues, valid q = true
theorem mem_procsS (s : WS) (x : Proc) : x ∈ procsS s ↔ (∃ q ∈ s.queues, x ∈ procsQ q) ∨ ∃ n ∈ s.needs, n.proc = x := by
  unfold procsS procsQs procsN
  rw [mem_sortU, List.mem_append, mem_sortU, List.mem_flatMap, List.mem_map]
theorem mem_rem {s : WS} (h : GoodS s) (p x : Proc) : x ∈ procsS (remS s p) ↔ x ∈ procsS s ∧ x ≠ p := by
  rw [mem_procsS, mem_procsS]
  simp only [remS, remN, List.mem_map, List.mem_filter, decide_eq_true_eq]
  constructor
  · rintro (⟨q', ⟨q, hq, rfl⟩, hx⟩ | ⟨n, ⟨hn, hne⟩, rfl⟩)
    · rw [in_rem (h q hq)] at hx
      exact ⟨.inl ⟨q, hq, hx.1⟩, hx.2⟩
    · exact ⟨.inr ⟨n, hn, rfl⟩, hne⟩
  · rintro ⟨⟨q, hq, hx⟩ | ⟨n, hn, rfl⟩, hne⟩
    · exact .inl ⟨_, ⟨q, hq, rfl⟩, (in_rem (h q hq) p x).2 ⟨hx, hne⟩⟩
    · exact .inr ⟨n, ⟨hn, hne⟩, rfl⟩
theorem good_rem {s : WS} (h : GoodS s) (p : Proc) : GoodS (remS s p) := by
  intro q' hq'
  simp only [remS, List.mem_map] at hq'
  obtain ⟨q, hq, rfl⟩ := hq'
  exact valid_rem (h q hq) p
theorem few_rem {s : WS} (h : Few s) (p : Proc) : Few (remS s p) := by
  refine ⟨by simpa [remS] using h.nq, Nat.le_trans (List.length_filter_le _ _) h.nn, fun q' hq' => ?_⟩
  simp only [remS, List.mem_map] at hq'
  obtain ⟨q, hq, rfl⟩ := hq'
  exact Nat.le_trans (remQ1_all q p) (h.aq q hq)
theorem procs_rem {s : WS} (h : GoodS s) (p : Proc) : procsS (remS s p) = (procsS s).filter fun x => decide (x ≠ p) := by
  refine asc_ext (asc_sortU _) ?_ fun x => ?_
  · exact List.Pairwise.sublist List.filter_sublist (asc_sortU _)
  · rw [mem_rem h]; simp
theorem procs_dec {s : WS} (h : GoodS s) {p : Proc} (hp : p ∈ procsS s) : (procsS (remS s p)).length < (procsS s).length := by
  rw [procs_rem h, List.length_filter_lt_length_iff_exists]
  exact ⟨p, hp, by simp⟩
end Go.Rd
