/- part 19 of the proof -/
import Derived.Test.YtaelofhhkpacbaaGreatDoorT18
set_option linter.all false
open Go Go.Abs Go.Proofs
set_option maxRecDepth 100000
namespace Go.Rd
theorem FnOK.empty {C : Ctx} {f n : Nat} {xs : List AV} {o o' : List (Nat × List AV)} {y : AV} (h : ∀ a cap, FnOK C f (.v (.slice a 0 cap) :: xs) o y o') : FnOK C f (.sl .no n [] :: xs) o y o' := by
  refine ⟨(h none 0).1, fun g w us hg hv ho => ?_⟩
  match us, hv with
  | u :: us, hv =>
    simp only [VRs, VR, PR] at hv
    obtain ⟨⟨_, a, cap, hu, _⟩, hv2⟩ := hv
    refine (h a cap).2 g w (u :: us) hg ?_ ho
    simp only [VRs, VR]
    exact ⟨by simpa using hu, hv2⟩
  | [], hv => simp [VRs] at hv
theorem f92_ok (l : List Hold) (hl : l.length ≤ 1000000) : FnOK C0 92 [holdsV l] [] (holdsV l) [] := by
  cases l with
  | nil =>
    refine FnOK.empty fun a cap => ?_
    refine FnOK.intro (fn := Tryz.f92) (c := Tryz.f92.body.getD .skip) (by kernel_rfl) (by kernel_rfl) (by kernel_rfl) (by kernel_rfl) (by simp [Tryz.f92]) (by simp [names]) ?_
    unfold Tryz.f92
    simp (disch := omega) only [go_sem]
    repeat' (with_reducible refine And.intro (fun h => ?_) (fun h => ?_))
    · refine ret_mk ⟨[], [], []⟩ _ (by (try simp (disch := omega) only [go_sem, resVs, resV]) <;> rfl) ⟨rfl, rfl⟩ (by simp) ?_ trivial
      simp (disch := omega) only [go_sem]
    · refine ret_mk ⟨[], [], [448]⟩ _ (by (try simp (disch := omega) only [go_sem, resVs, resV]) <;> rfl) ⟨rfl, rfl⟩ (by simp) ?_ trivial
      simp (disch := omega) only [go_sem, holdsV]
  | cons x l =>
    refine FnOK.intro (fn := Tryz.f92) (c := Tryz.f92.body.getD .skip) (by kernel_rfl) (by kernel_rfl) (by kernel_rfl) (by kernel_rfl) (by simp [Tryz.f92]) (by simp [names]) ?_
    unfold Tryz.f92
    have hb : l.length + 1 ≤ 4294967296 := by simp at hl; omega
    simp (disch := omega) only [go_sem, holdsV]
    refine ret_mk ⟨[], [], [448]⟩ _ (by (try simp (disch := omega) only [go_sem, resVs, resV]) <;> rfl) ⟨rfl, rfl⟩ (by simp) ?_ trivial
    simp (disch := omega) only [go_sem, holdsV]
theorem f93_ok (l : List Wait) (hl : l.length ≤ 1000000) : FnOK C0 93 [waitsV l] [] (waitsV l) [] := by
  cases l with
  | nil =>
    refine FnOK.empty fun a cap => ?_
    refine FnOK.intro (fn := Tryz.f93) (c := Tryz.f93.body.getD .skip) (by kernel_rfl) (by kernel_rfl) (by kernel_rfl) (by kernel_rfl) (by simp [Tryz.f93]) (by simp [names]) ?_
    unfold Tryz.f93
    simp (disch := omega) only [go_sem]
    repeat' (with_reducible refine And.intro (fun h => ?_) (fun h => ?_))
    · refine ret_mk ⟨[], [], []⟩ _ (by (try simp (disch := omega) only [go_sem, resVs, resV]) <;> rfl) ⟨rfl, rfl⟩ (by simp) ?_ trivial
      simp (disch := omega) only [go_sem]
    · refine ret_mk ⟨[], [], [448]⟩ _ (by (try simp (disch := omega) only [go_sem, resVs, resV]) <;> rfl) ⟨rfl, rfl⟩ (by simp) ?_ trivial
      simp (disch := omega) only [go_sem, waitsV]
  | cons x l =>
    refine FnOK.intro (fn := Tryz.f93) (c := Tryz.f93.body.getD .skip) (by kernel_rfl) (by kernel_rfl) (by kernel_rfl) (by kernel_rfl) (by simp [Tryz.f93]) (by simp [names]) ?_
    unfold Tryz.f93
    have hb : l.length + 1 ≤ 4294967296 := by simp at hl; omega
    simp (disch := omega) only [go_sem, waitsV]
    refine ret_mk ⟨[], [], [448]⟩ _ (by (try simp (disch := omega) only [go_sem, resVs, resV]) <;> rfl) ⟨rfl, rfl⟩ (by simp) ?_ trivial
    simp (disch := omega) only [go_sem, waitsV]
def dropP (l : List Proc) (p : Proc) : List Proc := l.filter fun x => decide (x ≠ p)
def isFreeS (s : WS) (p : Proc) : Bool := match s.needs.find? (fun n => decide (n.proc = p)) with
  | some n => holdsE n.expr (grantedS s n)
  | none => true
theorem f99_ok (s : WS) (p : Proc) (h : Few s) : FnOK C0 99 [.agg s.c, .agg p.c] [] (B (isFreeS s p)) [] := by
  have hn := h.nn
  refine FnOK.intro (fn := Tryz.f99) (c := Tryz.f99.body.getD .skip) (by kernel_rfl) (by kernel_rfl) (by kernel_rfl) (by kernel_rfl) (by simp [Tryz.f99]) (by simp [names]) ?_
  unfold Tryz.f99
  simp (disch := omega) only [go_sem]
  refine loop_intro (α := Nat) (fun i => ⟨[(10, I i), (9, I s.needs.length), (8, needsV s.needs), (2, .ptr 128 0), (3, .ptr 192 0)], [(128, s.c), (192, p.c)]⟩) (fun i => i ≤ (s.needs).length ∧ (s.needs.take i).find? (fun n => decide (n.proc = p)) = none) (fun i => (s.needs).length - i) 0 ⟨by omega, rfl⟩ ?_ ?_
  · refine Imp.weak ?_ ?_
    all_goals (try simp (disch := omega) only [go_sem])
    all_goals (try (repeat' (with_reducible apply And.intro)))
    all_goals (first | exact .nilOwn (by omega) | exact .nilNo (by omega) | exact .sl (by simp []) | exact .int (by simp []) | exact .eq (by simp []))
  rintro i ⟨hi, hP⟩ J hJ
  simp (disch := omega) only [go_sem]
  refine And.intro (fun hlt => ?_) (fun hge => ?_)
  rotate_left
  have hil : i = (s.needs).length := by simp at hge; omega
  rotate_left
  obtain ⟨b, hb⟩ : ∃ b, (s.needs)[i]? = some b := ⟨_, List.getElem?_eq_getElem (by simp at hlt; omega)⟩
  have hbm := List.mem_of_getElem? hb
  simp (disch := omega) only [go_sem, List.getElem?_map, hb]
  · refine call_pure (f71_ok b.proc p) (by simp (disch := omega) only [go_sem]) rfl ?_
    simp (disch := omega) only [go_sem]
    refine And.intro (fun hh => ?_) (fun hh => ?_)
    · have e : isFreeS s p = holdsE b.expr (grantedS s b) := by unfold isFreeS; rw [find_at hP hb (by simpa using hh)]
      refine draw_mk 5 [([], [6]), ([0], [19]), ([], [2]), ([], [6]), ([2, 3], [21, 22]), ([0, 1, 2, 3, 4], []), ([0, 1, 2, 3, 4, 5], [])] fol (by kernel_rfl) ?_
      simp (disch := omega) only [go_sem]
      refine freeCall_mk ⟨⟨[], [], []⟩, [], []⟩ (f148_ok s b h) (by simp (disch := omega) only [go_sem]) rfl rfl trivial (.inl rfl) ?_
      simp (disch := omega) only [go_sem]
      refine call_pure (f147_ok b.expr (grantedS s b)) (by simp (disch := omega) only [go_sem, Expr.c_def]) rfl ?_
      simp (disch := omega) only [go_sem, e]
      refine ret_mk ⟨[], [], []⟩ _ (by (try simp (disch := omega) only [go_sem, resVs, resV]) <;> rfl) ⟨rfl, rfl⟩ (by simp) ?_ trivial
      simp (disch := omega) only [go_sem]
    · refine hJ _ (i + 1) ⟨by simp at hlt; omega, (by rw [find_take hP hb]; simp at hh; simp [hh])⟩ (by simp at hlt; omega) (Imp.weak (by simp (disch := omega) only [go_sem]) (by simp (disch := omega) only [go_sem]))
  · subst hil
    rw [List.take_length] at hP
    have e : isFreeS s p = true := by unfold isFreeS; rw [hP]
    simp (disch := omega) only [go_sem, e]
    refine ret_mk ⟨[], [], []⟩ _ (by (try simp (disch := omega) only [go_sem, resVs, resV]) <;> rfl) ⟨rfl, rfl⟩ (by simp) ?_ trivial
    simp (disch := omega) only [go_sem]
def freeS (s : WS) : List Proc := (procsS s).filter fun p => isFreeS s p
theorem procsS_len {s : WS} (h : Few s) : (procsS s).length ≤ 20000 := by
  have h1 := compP_len (procsQs s.queues ++ procsN s.needs)
  have h2 := procsQs_len h.aq
  have h3 := h.nq
  have h4 := h.nn
  unfold procsS
  simp only [List.length_append, procsN, List.length_map] at h1
  unfold procsN
  omega
theorem f56_ok (s : WS) (h : Few s) : FnOK C0 56 [.agg s.c] [] (procsV (freeS s)) [] := by
  have hl := procsS_len h
  refine FnOK.intro (fn := Tryz.f56) (c := Tryz.f56.body.getD .skip) (by kernel_rfl) (by kernel_rfl) (by kernel_rfl) (by kernel_rfl) (by simp [Tryz.f56]) (by simp [names]) ?_
  unfold Tryz.f56
  simp (disch := omega) only [go_sem]
  refine call_pure (f25_ok s h) (by simp (disch := omega) only [go_sem]) rfl ?_
  simp (disch := omega) only [go_sem]
  refine loop_intro (α := Nat) (fun i => ⟨[(9, I i), (8, I (procsS s).length), (7, procsV (procsS s)), (1, .ptr 64 0), (3, .sl (.own 1216 0) 3 ((((procsS s).take i).filter fun p => isFreeS s p).map Proc.c))], [(64, s.c)]⟩) (fun i => i ≤ ((procsS s)).length ∧ True) (fun i => ((procsS s)).length - i) 0 ⟨by omega, trivial⟩ ?_ ?_
  · refine Imp.weak ?_ ?_
    all_goals (try simp (disch := omega) only [go_sem])
    all_goals (try (repeat' (with_reducible apply And.intro)))
    all_goals (first | exact .nilOwn (by omega) | exact .nilNo (by omega) | exact .sl (by simp []) | exact .int (by simp []) | exact .eq (by simp []))
  rintro i ⟨hi, hP⟩ J hJ
  simp (disch := omega) only [go_sem]
  refine And.intro (fun hlt => ?_) (fun hge => ?_)
  rotate_left
  have hil : i = ((procsS s)).length := by simp at hge; omega
  rotate_left
  obtain ⟨b, hb⟩ : ∃ b, ((procsS s))[i]? = some b := ⟨_, List.getElem?_eq_getElem (by simp at hlt; omega)⟩
  have hbm := List.mem_of_getElem? hb
  simp (disch := omega) only [go_sem, List.getElem?_map, hb]
  · have hbd : (((procsS s).take i).filter fun p => isFreeS s p).length + 1 ≤ 4294967296 := by
      have : (((procsS s).take i).filter fun p => isFreeS s p).length ≤ ((procsS s).take i).length := List.length_filter_le _ _
      rw [List.length_take] at this; omega
    refine call_pure (f99_ok s b h) (by simp (disch := omega) only [go_sem]) rfl ?_
    simp (disch := omega) only [go_sem]
    refine And.intro (fun hh => ?_) (fun hh => ?_)
    · refine hJ _ (i + 1) ⟨by simp at hlt; omega, trivial⟩ (by simp at hlt; omega) (Imp.weak ?_ (by simp (disch := omega) only [go_sem]))
      simp (disch := omega) only [go_sem]
      exact .sl (by simp [List.take_add_one, hb, hh, Proc.c])
    · refine hJ _ (i + 1) ⟨by simp at hlt; omega, trivial⟩ (by simp at hlt; omega) (Imp.weak ?_ (by simp (disch := omega) only [go_sem]))
      simp (disch := omega) only [go_sem]
      exact .sl (by simp [List.take_add_one, hb, hh])
  · subst hil
    simp (disch := omega) only [go_sem, List.take_length]
    refine ret_mk ⟨[], [], [1216]⟩ _ (by (try simp (disch := omega) only [go_sem, resVs, resV]) <;> rfl) ⟨rfl, rfl⟩ (by simp) ?_ trivial
    simp (disch := omega) only [go_sem, freeS]
def resS (s : WS) (l : List Proc) : WS := (procsS s).foldl (fun x p => if hasP l p then x else remS x p) s
theorem f53_ok (s : WS) (l : List Proc) (h : Few s) (hl : l.length ≤ 1000000) : FnOK C0 53 [.agg s.c, procsV l] [] (.agg (resS s l).c) [] := by
  have hpl := procsS_len h
  refine FnOK.intro (fn := Tryz.f53) (c := Tryz.f53.body.getD .skip) (by kernel_rfl) (by kernel_rfl) (by kernel_rfl) (by kernel_rfl) (by simp [Tryz.f53]) (by simp [names]) ?_
  unfold Tryz.f53
  simp (disch := omega) only [go_sem]
  refine call_pure (f25_ok s h) (by simp (disch := omega) only [go_sem]) rfl ?_
  simp (disch := omega) only [go_sem]
  refine loop_intro (α := Nat) (fun i => ⟨[(10, I i), (9, I (procsS s).length), (8, procsV (procsS s)), (2, .ptr 128 0), (1, procsV l), (4, .ptr 256 0)], [(128, (((procsS s).take i).foldl (fun x p => if hasP l p then x else remS x p) s).c), (256, wsz)]⟩) (fun i => i ≤ ((procsS s)).length ∧ Few (((procsS s).take i).foldl (fun x p => if hasP l p then x else remS x p) s)) (fun i => ((procsS s)).length - i) 0 ⟨by omega, h⟩ ?_ ?_
  · refine Imp.weak ?_ ?_
    all_goals (try simp (disch := omega) only [go_sem])
    all_goals (try (repeat' (with_reducible apply And.intro)))
    all_goals (first | exact .nilOwn (by omega) | exact .nilNo (by omega) | exact .sl (by simp []) | exact .int (by simp []) | exact .eq (by simp []))
  rintro i ⟨hi, hP⟩ J hJ
  simp (disch := omega) only [go_sem]
  refine And.intro (fun hlt => ?_) (fun hge => ?_)
  rotate_left
  have hil : i = ((procsS s)).length := by simp at hge; omega
  rotate_left
  obtain ⟨b, hb⟩ : ∃ b, ((procsS s))[i]? = some b := ⟨_, List.getElem?_eq_getElem (by simp at hlt; omega)⟩
  have hbm := List.mem_of_getElem? hb
  simp (disch := omega) only [go_sem, List.getElem?_map, hb]
  · have e : ((procsS s).take (i + 1)).foldl (fun x p => if hasP l p then x else remS x p) s = if hasP l b then ((procsS s).take i).foldl (fun x p => if hasP l p then x else remS x p) s else remS (((procsS s).take i).foldl (fun x p => if hasP l p then x else remS x p) s) b := by
      rw [List.take_add_one, hb, Option.toList_some, List.foldl_append]; rfl
    generalize ((procsS s).take i).foldl (fun x p => if hasP l p then x else remS x p) s = t at hP e
    refine call_pure (f95_ok l b hl) (by simp (disch := omega) only [go_sem]) rfl ?_
    cases hh : hasP l b
    · rw [if_neg (by simp [hh])] at e
      simp (disch := omega) only [go_sem, Bool.not_false]
      refine call_pure (f91_ok t b hP) (by simp (disch := omega) only [go_sem]) rfl ?_
      simp (disch := omega) only [go_sem]
      refine hJ _ (i + 1) ⟨by simp at hlt; omega, by rw [e]; exact few_rem hP b⟩ (by simp at hlt; omega) (Imp.weak (by simp (disch := omega) only [go_sem]) ?_)
      rw [e]; simp (disch := omega) only [go_sem]
    · rw [if_pos hh] at e
      simp (disch := omega) only [go_sem, Bool.not_true]
      refine hJ _ (i + 1) ⟨by simp at hlt; omega, by rw [e]; exact hP⟩ (by simp at hlt; omega) (Imp.weak (by simp (disch := omega) only [go_sem]) ?_)
      rw [e]; simp (disch := omega) only [go_sem]
  · subst hil
    rw [List.take_length] at hP ⊢
    refine ret_mk ⟨[], [], []⟩ _ (by (try simp (disch := omega) only [go_sem, resVs, resV]) <;> rfl) ⟨rfl, rfl⟩ (by simp) ?_ trivial
    simp (disch := omega) only [go_sem, resS]
theorem isFree_mem {s : WS} {p : Proc} (h : p ∈ freeS s) : p ∈ procsS s := (List.mem_filter.1 h).1
def redN : Nat → WS → List Proc × List Proc
  | 0, s => ([], procsS s)
  | n + 1, s => match freeS s with
    | [] => ([], procsS s)
    | p :: _ => (p :: (redN n (remS s p)).1, (redN n (remS s p)).2)
def redS (s : WS) : List Proc × List Proc := redN (procsS s).length s
theorem redN_eq : ∀ (n m : Nat) (s : WS), GoodS s → (procsS s).length ≤ n → (procsS s).length ≤ m → redN n s = redN m s
  | 0, 0, _, _, _, _ => rfl
  | 0, m + 1, s, _, h, _ => by
    have e : freeS s = [] := by unfold freeS; rw [List.eq_nil_of_length_eq_zero (by omega : (procsS s).length = 0)]; rfl
    simp [redN, e]
  | n + 1, 0, s, _, _, h => by
    have e : freeS s = [] := by unfold freeS; rw [List.eq_nil_of_length_eq_zero (by omega : (procsS s).length = 0)]; rfl
    simp [redN, e]
  | n + 1, m + 1, s, hg, h1, h2 => by
    simp only [redN]
    cases hf : freeS s with
    | nil => rfl
    | cons p l =>
      have hd := procs_dec hg (isFree_mem (p := p) (by rw [hf]; simp))
      simp only
      rw [redN_eq n m (remS s p) (good_rem hg p) (by omega) (by omega)]
theorem redS_def {s : WS} (hg : GoodS s) : redS s = match freeS s with
    | [] => ([], procsS s)
    | p :: _ => (p :: (redS (remS s p)).1, (redS (remS s p)).2) := by
  unfold redS
  cases hf : freeS s with
  | nil =>
    cases (procsS s).length <;> simp [redN, hf]
  | cons p l =>
    have hd := procs_dec hg (isFree_mem (p := p) (by rw [hf]; simp))
    rw [redN_eq _ ((procsS (remS s p)).length + 1) s hg (Nat.le_refl _) (by
      have := procs_rem hg p
      have hm := isFree_mem (p := p) (s := s) (by rw [hf]; simp)
      have hnd := asc_nodup (asc_sortU (procsQs s.queues ++ procsN s.needs))
      rw [this]
      have : (procsS s).filter (fun x => decide (x ≠ p)) = (procsS s).erase p := by
        have hnd' : (procsS s).Nodup := hnd
        rw [List.Nodup.erase_eq_filter hnd']
        refine List.filter_congr fun x _ => ?_
        by_cases hx : x = p <;> simp [hx]
      rw [this, List.length_erase_of_mem hm]
      omega)]
    simp only [redN, hf]
theorem f51_ok (s : WS) (h : Few s) (hg : GoodS s) : FnOK C0 51 [.agg s.c] [] (.tup [procsV (redS s).1, procsV (redS s).2]) [] := by
  refine FnOK.intro (fn := Tryz.f51) (c := Tryz.f51.body.getD .skip) (by kernel_rfl) (by kernel_rfl) (by kernel_rfl) (by kernel_rfl) (by simp [Tryz.f51]) (by simp [names]) ?_
  unfold Tryz.f51
  simp (disch := omega) only [go_sem]
  refine call_pure (f56_ok s h) (by simp (disch := omega) only [go_sem]) rfl ?_
  simp (disch := omega) only [go_sem]
  refine loop_intro (α := WS × List Proc) (fun x => ⟨[(5, procsV (freeS x.1)), (4, .sl (.own 1472 0) 3 (x.2.map Proc.c)), (1, .ptr 64 0)], [(64, x.1.c)]⟩) (fun x => Few x.1 ∧ GoodS x.1 ∧ x.2.length + (procsS x.1).length ≤ 1000000 ∧ x.2 ++ (redS x.1).1 = (redS s).1 ∧ (redS x.1).2 = (redS s).2) (fun x => (procsS x.1).length) (s, []) ⟨h, hg, by have := procsS_len h; simp; omega, rfl, rfl⟩ ?_ ?_
  · exact Imp.weak (by simp (disch := omega) only [go_sem]) (by simp (disch := omega) only [go_sem])
  rintro ⟨t, gs⟩ ⟨i1, i2, i3, i4, i5⟩ J hJ
  replace i1 : Few t := i1
  replace i2 : GoodS t := i2
  replace i3 : gs.length + (procsS t).length ≤ 1000000 := i3
  replace i4 : gs ++ (redS t).1 = (redS s).1 := i4
  replace i5 : (redS t).2 = (redS s).2 := i5
  rw [redS_def i2] at i4 i5
  cases hf : freeS t with
  | nil =>
    rw [hf] at i4 i5
    have e0 : (0 < ((0 : Nat) : Int)) = False := by simp
    simp (disch := omega) only [go_sem, hf, List.map_nil, List.length_nil, e0, decide_false]
    refine call_pure (f25_ok t i1) (by simp (disch := omega) only [go_sem]) rfl ?_
    simp (disch := omega) only [go_sem]
    refine ret_mk ⟨[], [], [1472]⟩ _ (by (try simp (disch := omega) only [go_sem, resVs, resV]) <;> rfl) ⟨rfl, rfl⟩ (by simp) ?_ trivial
    simp (disch := omega) only [go_sem]
    simp only [List.append_nil] at i4 i5
    exact .eq (by rw [← i4, ← i5])
  | cons p l =>
    simp only [hf] at i4 i5
    have hm : p ∈ procsS t := isFree_mem (by rw [hf]; simp)
    have hd := procs_dec i2 hm
    have e0 : (0 < (l.length : Int) + 1) = True := eq_true (by omega)
    have hbd : gs.length + 1 ≤ 4294967296 := by omega
    simp (disch := omega) only [go_sem, hf, procsV, e0]
    refine draw_mk 4 [([], [1]), ([], [5]), ([1], [14]), ([1, 2], [15]), ([0, 1, 2, 3], []), ([0, 1, 2, 3, 4], [])] fol (by kernel_rfl) ?_
    simp (disch := omega) only [go_sem]
    first | ((with_reducible show callB _ _ _ _ _ _); refine call_pure (f91_ok t p i1) (by simp (disch := omega) only [go_sem]) rfl ?_) | ((with_reducible show freeCallB _ _ _ _ _ _ _ _ _ _); refine freeCall_mk ⟨⟨[], [], []⟩, [], []⟩ (f91_ok t p i1) (by simp (disch := omega) only [go_sem]) rfl rfl trivial (.inl rfl) ?_)
    simp (disch := omega) only [go_sem]
    have hfew := few_rem i1 p
    refine call_pure (f56_ok (remS t p) hfew) (by simp (disch := omega) only [go_sem]) rfl ?_
    simp (disch := omega) only [go_sem]
    refine hJ _ (remS t p, gs ++ [p]) ⟨hfew, good_rem i2 p, by simp; omega, by rw [← i4]; simp, i5⟩ hd (Imp.weak ?_ ?_)
    · simp (disch := omega) only [go_sem]
      exact .sl (by simp [Proc.c])
    · simp (disch := omega) only [go_sem]
def kidsB : Nat → Expr → Prop
  | 0, _ => True
  | N + 1, e => e.kids.length ≤ 24 ∧ ∀ k ∈ e.kids, kidsB N k
theorem measL_ge {lv : Int} : ∀ (l : List Expr) (n d : Int), (∀ e ∈ l, ∀ n, n + 1 ≤ (meas e (lv + 1) n).2) → n ≤ (measL l lv n d).2
  | [], n, d, _ => by simp [measL]
  | e :: l, n, d, h => by
    have h1 := h e (by simp) n
    simp only [measL]
    split
    · simp only; omega
    · have := measL_ge l (meas e (lv + 1) n).2 (max d (meas e (lv + 1) n).1) fun e' he => h e' (by simp [he])
      omega
theorem meas_ge : ∀ (N : Nat) (e : Expr), SizeOf.sizeOf e < N → ∀ lv n : Int, n + 1 ≤ (meas e lv n).2
  | 0, _, h, _, _ => by omega
  | N + 1, e, h, lv, n => by
    rw [meas_def]
    split
    · simp
    · exact measL_ge _ _ _ fun e' he n' => meas_ge N e' (by have := kid_lt he; omega) _ _
theorem measL_nz {lv : Int} : ∀ (l : List Expr) (n d : Int), (measL l lv n d).1 ≠ 0 → 0 ≤ n → n ≤ 24 → (∀ e ∈ l, ∀ n, 0 ≤ n → n ≤ 24 → (meas e (lv + 1) n).1 ≠ 0 → n + 1 ≤ (meas e (lv + 1) n).2 ∧ (meas e (lv + 1) n).2 ≤ 24) →
    n + l.length ≤ 24 ∧ ∀ e ∈ l, ∃ n, 0 ≤ n ∧ n ≤ 24 ∧ (meas e (lv + 1) n).1 ≠ 0
  | [], n, d, _, h0, h1, _ => by simp; omega
  | e :: l, n, d, h, h0, h1, hk => by
    simp only [measL] at h
    split at h
    · simp at h
    · rename_i hne
      have he := hk e (by simp) n h0 h1 hne
      have := measL_nz l _ _ h (by omega) he.2 fun e' he' => hk e' (by simp [he'])
      refine ⟨by simp only [List.length_cons]; omega, fun e' he' => ?_⟩
      rcases List.mem_cons.1 he' with rfl | he'
      · exact ⟨n, h0, h1, hne⟩
      · exact this.2 e' he'
theorem meas_kids : ∀ (N : Nat) (e : Expr) (lv n : Int), 1 ≤ lv → lv ≤ 5 → 0 ≤ n → n ≤ 24 → (meas e lv n).1 ≠ 0 → kidsB N e
  | 0, _, _, _, _, _, _, _, _ => trivial
  | N + 1, e, lv, n, h1, h2, h3, h4, h => by
    rw [meas_def] at h
    split at h
    · simp at h
    · rename_i hc
      have := measL_nz e.kids (n + 1) 0 h (by omega) (by omega) fun e' _ n' k1 k2 k3 => ⟨meas_ge _ e' (Nat.lt_succ_self _) _ _, (meas_bd _ e' (Nat.lt_succ_self _) (lv + 1) n' (by omega) (by omega) k1 k2).2.2.2.2 k3⟩
      refine ⟨by omega, fun k hk => ?_⟩
      obtain ⟨n', k1, k2, k3⟩ := this.2 k hk
      exact meas_kids N k (lv + 1) n' (by omega) (by omega) k1 k2 k3
theorem exprOK_kids {e : Expr} (h : exprOK e = true) (N : Nat) : kidsB N e := by
  simp only [exprOK, Bool.and_eq_true, Bool.not_eq_true', beq_eq_false_iff_ne] at h
  exact meas_kids N e 1 0 (by omega) (by omega) (by omega) (by omega) h.1
theorem f94_ok : ∀ (N : Nat) (e : Expr), SizeOf.sizeOf e < N → kidsB N e → FnOK C0 94 [.agg e.c] [] (.agg e.c) []
  | 0, _, h, _ => by omega
  | N + 1, e, h, hk => by
    have hk1 := hk.1
    refine FnOK.assume (fn := Tryz.f94) (c := Tryz.f94.body.getD .skip) (by kernel_rfl) (by kernel_rfl) (by kernel_rfl) fun hlen => ?_
    simp only [lensL, lens, Expr.c_def, List.length_map, and_true, true_and] at hlen
    refine FnOK.intro (fn := Tryz.f94) (c := Tryz.f94.body.getD .skip) (by kernel_rfl) (by kernel_rfl) (by kernel_rfl) (by kernel_rfl) (by simp [Tryz.f94]) (by simp [names]) ?_
    unfold Tryz.f94
    simp (disch := omega) only [go_sem]
    refine loop_intro (α := Nat) (fun i => ⟨[(9, I i), (8, I e.kids.length), (7, exprsV e.kids), (1, .ptr 64 0), (2, .ptr 128 0), (3, .sl (.own 1088 0) 5 ((e.kids.take i).map Expr.c))], [(64, e.c), (128, (Expr.mk 0 a0 []).c)]⟩) (fun i => i ≤ (e.kids).length ∧ True) (fun i => (e.kids).length - i) 0 ⟨by omega, trivial⟩ ?_ ?_
    · refine Imp.weak ?_ ?_
      all_goals (try simp (disch := omega) only [go_sem])
      all_goals (try (repeat' (with_reducible apply And.intro)))
      all_goals (first | exact .nilOwn (by omega) | exact .nilNo (by omega) | exact .sl (by simp [a0, Expr.c_def, Expr.k, Expr.atom, Expr.kids]) | exact .int (by simp [a0, Expr.c_def, Expr.k, Expr.atom, Expr.kids]) | exact .eq (by simp [a0, Expr.c_def, Expr.k, Expr.atom, Expr.kids]))
    rintro i ⟨hi, hP⟩ J hJ
    simp (disch := omega) only [go_sem]
    refine And.intro (fun hlt => ?_) (fun hge => ?_)
    rotate_left
    have hil : i = (e.kids).length := by simp at hge; omega
    rotate_left
    obtain ⟨b, hb⟩ : ∃ b, (e.kids)[i]? = some b := ⟨_, List.getElem?_eq_getElem (by simp at hlt; omega)⟩
    have hbm := List.mem_of_getElem? hb
    simp (disch := omega) only [go_sem, List.getElem?_map, hb]
    · have hsz := kid_lt hbm
      have hlt' : i < e.kids.length := by simp at hlt; omega
      have hbd : min i e.kids.length + 1 ≤ 4294967296 := by omega
      refine call_pure (f94_ok N b (by omega) (hk.2 b hbm)) (by simp (disch := omega) only [go_sem]) rfl ?_
      simp (disch := omega) only [go_sem, List.length_map, List.length_take]
      refine hJ _ (i + 1) ⟨by omega, trivial⟩ (by omega) (Imp.weak ?_ ?_)
      · simp (disch := omega) only [go_sem]
        exact .sl (by simp [List.take_add_one, hb, Expr.c_def])
      · simp (disch := omega) only [go_sem, Expr.c_def]
    · subst hil
      simp (disch := omega) only [go_sem, List.take_length]
      refine ret_mk ⟨[], [], [1088]⟩ _ (by (try simp (disch := omega) only [go_sem, resVs, resV]) <;> rfl) ⟨rfl, rfl⟩ (by simp) ?_ trivial
      simp (disch := omega) only [go_sem, Expr.c_def]
end Go.Rd
open Go Go.Abs Go.Proofs
set_option maxRecDepth 100000
namespace Go.Rd
def lessB (a b : Bs) : Bool := Op.bytesLess a b
def n0 : Need := ⟨p0, .mk 0 a0 [], 0⟩
def queuePos (l : List Queue) (i : Nat) (q : Queue) : Bool := valid q && (decide (i = 0) || lessB (l.getD (i - 1) q0).res.name q.res.name)
def needPos (l : List Need) (i : Nat) (n : Need) : Bool := n.proc.ok && decide (0 ≤ n.gen) && decide (n.gen ≤ 1073741824) && exprOK n.expr && (decide (i = 0) || decide (cmpP (l.getD (i - 1) n0).proc n.proc < 0))
def queuesOK (l : List Queue) : Bool := decide (l.length ≤ 8) && allAt (queuePos l) l
def needsOK (l : List Need) : Bool := decide (l.length ≤ 8) && allAt (needPos l) l
def validS (s : WS) : Bool := queuesOK s.queues && needsOK s.needs && decide ((procsS s).length ≤ 8)
theorem allQ_parts {q : Queue} (h : allQ q ≤ 100) : q.holds.length ≤ 1000000 ∧ q.convs.length ≤ 1000000 ∧ q.waits.length ≤ 1000000 := by
  unfold allQ sizeQ at h
  omega
theorem f35_ok (s : WS) (h : Few s) : FnOK C0 35 [.agg s.c] [] (B (validS s)) [] := by
  refine FnOK.intro (fn := Tryz.f35) (c := Tryz.f35.body.getD .skip) (by kernel_rfl) (by kernel_rfl) (by kernel_rfl) (by kernel_rfl) (by simp [Tryz.f35]) (by simp [names]) ?_
  unfold Tryz.f35
  by_cases hq : 8 < s.queues.length
  · have e1 : (8 < (s.queues.length : Int)) = True := eq_true (by omega)
    have e : validS s = false := by simp [validS, queuesOK]; omega
    simp (disch := omega) only [go_sem, e1]
    refine ret_mk ⟨[], [], []⟩ _ (by (try simp (disch := omega) only [go_sem, resVs, resV]) <;> rfl) ⟨rfl, rfl⟩ (by simp) ?_ trivial
    simp (disch := omega) only [go_sem]
    exact wb (by simp [e])
  have e1 : (8 < (s.queues.length : Int)) = False := eq_false (by omega)
  by_cases hn : 8 < s.needs.length
  · have e2 : (8 < (s.needs.length : Int)) = True := eq_true (by omega)
    have e : validS s = false := by simp [validS, needsOK]; omega
    simp (disch := omega) only [go_sem, e1, e2, decide_false, decide_true]
    refine ret_mk ⟨[], [], []⟩ _ (by (try simp (disch := omega) only [go_sem, resVs, resV]) <;> rfl) ⟨rfl, rfl⟩ (by simp) ?_ trivial
    simp (disch := omega) only [go_sem]
    exact wb (by simp [e])
  have e2 : (8 < (s.needs.length : Int)) = False := eq_false (by omega)
  simp (disch := omega) only [go_sem, e1, e2, decide_false]
  refine loop_intro (α := Nat) (fun i => ⟨[(20, I i), (19, I s.queues.length), (18, queuesV s.queues), (1, .ptr 64 0)], [(64, s.c)]⟩) (fun i => i ≤ (s.queues).length ∧ allAt (queuePos s.queues) (s.queues.take i) = true) (fun i => (s.queues).length - i) 0 ⟨by omega, rfl⟩ ?_ ?_
  · refine Imp.weak ?_ ?_
    all_goals (try simp (disch := omega) only [go_sem])
    all_goals (try (repeat' (with_reducible apply And.intro)))
    all_goals (first | exact .nilOwn (by omega) | exact .nilNo (by omega) | exact .sl (by simp []) | exact .int (by simp []) | exact .eq (by simp []))
  rintro i ⟨hi, hP⟩ J hJ
  simp (disch := omega) only [go_sem]
  refine And.intro (fun hlt => ?_) (fun hge => ?_)
  rotate_left
  have hil : i = (s.queues).length := by simp at hge; omega
  rotate_left
  obtain ⟨b, hb⟩ : ∃ b, (s.queues)[i]? = some b := ⟨_, List.getElem?_eq_getElem (by simp at hlt; omega)⟩
  have hbm := List.mem_of_getElem? hb
  simp (disch := omega) only [go_sem, List.getElem?_map, hb]
  · have ha := allQ_parts (h.aq b hbm)
    have bad : queuePos s.queues i b = false → validS s = false := fun h => by simp only [validS, queuesOK, allAt_false hb h, Bool.and_false, Bool.false_and]
    have good : queuePos s.queues i b = true → allAt (queuePos s.queues) (s.queues.take (i + 1)) = true := fun h => by rw [allAt_take hb, hP, h]; rfl
    refine draw_mk 18 [([], [4]), ([0], [25]), ([0, 1], [26]), ([0, 1, 2], [27]), ([0, 1, 2, 3], [3, 28]), ([0, 1, 2, 3, 4], [29, 28]), ([0, 1, 2, 3, 4, 5], [30, 28]), ([0, 1, 2, 3, 4, 5, 6], [1, 31]), ([0, 1, 2, 3, 4, 5, 6, 7], [32, 31]), ([0, 1, 2, 3, 4, 5, 6], [3, 31]), ([0, 1, 2, 3, 4, 5, 6, 9], [34, 31]), ([0, 1, 2, 3, 4, 5, 6, 7, 8, 9, 10], [33, 35, 31]), ([0, 1, 2, 3, 4, 5, 6, 7, 8, 9, 10, 11], [36, 31]), ([0, 1, 2, 3, 4, 5, 6, 7, 8, 9, 10, 11, 12], [37, 31]), ([0, 1, 2, 3, 4, 5, 6, 7, 8, 9, 10, 11, 12, 13], [38, 31]), ([0, 1, 2, 3, 4, 5, 6], [4, 31]), ([0, 1, 2, 3, 4, 5, 6, 15], [40, 31]), ([0, 1, 2, 3, 4, 5, 6, 15, 16], [41, 31]), ([0, 1, 2, 3, 4, 5, 6, 7, 8, 9, 10, 11, 12, 13, 14, 15, 16, 17], []), ([0, 1, 2, 3, 4, 5, 6, 7, 8, 9, 10, 11, 12, 13, 14, 15, 16, 17, 18], []), ([0, 1, 2, 3, 4, 5, 6, 7, 8, 9, 10, 11, 12, 13, 14, 15, 16, 17, 18, 19], [])] fol (by kernel_rfl) ?_
    simp (disch := omega) only [go_sem]
    first | ((with_reducible show callB _ _ _ _ _ _); refine call_pure (f68_ok b ha.1 ha.2.2) (by simp (disch := omega) only [go_sem]) rfl ?_) | ((with_reducible show freeCallB _ _ _ _ _ _ _ _ _ _); refine freeCall_mk ⟨⟨[], [], []⟩, [], []⟩ (f68_ok b ha.1 ha.2.2) (by simp (disch := omega) only [go_sem]) rfl rfl trivial (.inl rfl) ?_)
    cases hv : valid b
    · simp (disch := omega) only [go_sem]
      refine ret_mk ⟨[], [], []⟩ _ (by (try simp (disch := omega) only [go_sem, resVs, resV]) <;> rfl) ⟨rfl, rfl⟩ (by simp) ?_ trivial
      simp (disch := omega) only [go_sem]
      exact wb (by rw [bad (by simp [queuePos, hv])])
    by_cases hi0 : i = 0
    · subst hi0
      simp (disch := omega) only [go_sem]
      refine hJ _ 1 ⟨by simp at hlt; omega, good (by simp [queuePos, hv])⟩ (by simp at hlt; omega) (Imp.weak (by simp (disch := omega) only [go_sem]) (by simp (disch := omega) only [go_sem]))
    · have hi1 : (0 < (i : Int)) = True := eq_true (by omega)
      have hi2 : ((i : Int) - 1) = ((i - 1 : Nat) : Int) := by omega
      obtain ⟨a, ha'⟩ : ∃ a, s.queues[i - 1]? = some a := ⟨_, List.getElem?_eq_getElem (by simp at hlt; omega)⟩
      have had : s.queues.getD (i - 1) q0 = a := by simp [List.getD, ha']
      simp (disch := omega) only [go_sem, hi1, hi2, List.getElem?_map, ha']
      refine And.intro (fun hh => ?_) (fun hh => ?_)
      · refine ret_mk ⟨[], [], []⟩ _ (by (try simp (disch := omega) only [go_sem, resVs, resV]) <;> rfl) ⟨rfl, rfl⟩ (by simp) ?_ trivial
        simp (disch := omega) only [go_sem]
        exact wb (by rw [bad (by simp only [queuePos, had, hv]; simp [hi0]; simpa [lessB] using hh)])
      · refine hJ _ (i + 1) ⟨by simp at hlt; omega, good (by simp only [queuePos, had, hv]; simp [hi0]; simpa [lessB] using hh)⟩ (by simp at hlt; omega) (Imp.weak (by simp (disch := omega) only [go_sem]) (by simp (disch := omega) only [go_sem]))
  subst hil
  rw [List.take_length] at hP
  have hqs : queuesOK s.queues = true := by simp [queuesOK, hP]; omega
  clear hJ
  refine loop_intro (α := Nat) (fun i => ⟨[(50, I i), (49, I s.needs.length), (48, needsV s.needs), (1, .ptr 64 0)], [(64, s.c)]⟩) (fun i => i ≤ (s.needs).length ∧ allAt (needPos s.needs) (s.needs.take i) = true) (fun i => (s.needs).length - i) 0 ⟨by omega, rfl⟩ ?_ ?_
  · refine Imp.weak ?_ ?_
    all_goals (try simp (disch := omega) only [go_sem])
    all_goals (try (repeat' (with_reducible apply And.intro)))
    all_goals (first | exact .nilOwn (by omega) | exact .nilNo (by omega) | exact .sl (by simp []) | exact .int (by simp []) | exact .eq (by simp []))
  rintro i ⟨hi, hP⟩ J hJ
  simp (disch := omega) only [go_sem]
  refine And.intro (fun hlt => ?_) (fun hge => ?_)
  rotate_left
  have hil : i = (s.needs).length := by simp at hge; omega
  rotate_left
  obtain ⟨b, hb⟩ : ∃ b, (s.needs)[i]? = some b := ⟨_, List.getElem?_eq_getElem (by simp at hlt; omega)⟩
  have hbm := List.mem_of_getElem? hb
  simp (disch := omega) only [go_sem, List.getElem?_map, hb]
  · have bad : needPos s.needs i b = false → validS s = false := fun h => by simp only [validS, needsOK, allAt_false hb h, Bool.and_false, Bool.false_and]
    have good : needPos s.needs i b = true → allAt (needPos s.needs) (s.needs.take (i + 1)) = true := fun h => by rw [allAt_take hb, hP, h]; rfl
    refine call_pure (f69_ok b.proc) (by simp (disch := omega) only [go_sem]) rfl ?_
    cases hp : b.proc.ok
    · simp (disch := omega) only [go_sem]
      refine ret_mk ⟨[], [], []⟩ _ (by (try simp (disch := omega) only [go_sem, resVs, resV]) <;> rfl) ⟨rfl, rfl⟩ (by simp) ?_ trivial
      simp (disch := omega) only [go_sem]
      exact wb (by rw [bad (by simp [needPos, hp])])
    by_cases hg1 : b.gen < 0
    · have k1 : (b.gen < 0) = True := eq_true hg1
      simp (disch := omega) only [go_sem, k1]
      refine ret_mk ⟨[], [], []⟩ _ (by (try simp (disch := omega) only [go_sem, resVs, resV]) <;> rfl) ⟨rfl, rfl⟩ (by simp) ?_ trivial
      simp (disch := omega) only [go_sem]
      exact wb (by rw [bad (by simp [needPos]; omega)])
    have k1 : (b.gen < 0) = False := eq_false hg1
    by_cases hg2 : 1073741824 < b.gen
    · have k2 : (1073741824 < b.gen) = True := eq_true hg2
      simp (disch := omega) only [go_sem, k1, k2, decide_false]
      refine ret_mk ⟨[], [], []⟩ _ (by (try simp (disch := omega) only [go_sem, resVs, resV]) <;> rfl) ⟨rfl, rfl⟩ (by simp) ?_ trivial
      simp (disch := omega) only [go_sem]
      exact wb (by rw [bad (by simp [needPos]; omega)])
    have k2 : (1073741824 < b.gen) = False := eq_false hg2
    have g1 : decide (0 ≤ b.gen) = true := by simp; omega
    have g2 : decide (b.gen ≤ 1073741824) = true := by simp; omega
    simp (disch := omega) only [go_sem, k1, k2, decide_false]
    refine call_pure (f70_ok b.expr) (by simp (disch := omega) only [go_sem, Expr.c_def]) rfl ?_
    cases he : exprOK b.expr
    · simp (disch := omega) only [go_sem]
      refine ret_mk ⟨[], [], []⟩ _ (by (try simp (disch := omega) only [go_sem, resVs, resV]) <;> rfl) ⟨rfl, rfl⟩ (by simp) ?_ trivial
      simp (disch := omega) only [go_sem]
      exact wb (by rw [bad (by simp [needPos, he])])
    simp (disch := omega) only [go_sem]
    refine draw_mk 12 [([], [5]), ([0], [75]), ([0, 1], [76]), ([0, 1, 2], [1, 77]), ([0, 1, 2, 3], [78, 77]), ([0, 1, 2], [5, 77]), ([0, 1, 2, 5], [80, 77]), ([0, 1, 2, 3, 4, 5, 6], [79, 81, 77]), ([0, 1, 2, 3, 4, 5, 6, 7], [82, 77]), ([0, 1, 2, 3, 4, 5, 6, 7, 8], [83, 77]), ([0, 1, 2], [6, 77]), ([0, 1, 2, 10], [85, 77]), ([0, 1, 2, 3, 4, 5, 6, 7, 8, 9, 10, 11], []), ([0, 1, 2, 3, 4, 5, 6, 7, 8, 9, 10, 11, 12], []), ([0, 1, 2, 3, 4, 5, 6, 7, 8, 9, 10, 11, 12, 13], [])] fol (by kernel_rfl) ?_
    by_cases hi0 : i = 0
    · subst hi0
      simp (disch := omega) only [go_sem]
      refine hJ _ 1 ⟨by simp at hlt; omega, good (by simp only [needPos, hp, g1, g2, he]; rfl)⟩ (by simp at hlt; omega) (Imp.weak (by simp (disch := omega) only [go_sem]) (by simp (disch := omega) only [go_sem]))
    · have hi1 : (0 < (i : Int)) = True := eq_true (by omega)
      have hi2 : ((i : Int) - 1) = ((i - 1 : Nat) : Int) := by omega
      obtain ⟨a, ha'⟩ : ∃ a, s.needs[i - 1]? = some a := ⟨_, List.getElem?_eq_getElem (by simp at hlt; omega)⟩
      have had : s.needs.getD (i - 1) n0 = a := by simp [List.getD, ha']
      simp (disch := omega) only [go_sem, hi1, hi2, List.getElem?_map, ha']
      first | ((with_reducible show callB _ _ _ _ _ _); refine call_pure (f71_ok a.proc b.proc) (by simp (disch := omega) only [go_sem]) rfl ?_) | ((with_reducible show freeCallB _ _ _ _ _ _ _ _ _ _); refine freeCall_mk ⟨⟨[], [], []⟩, [], []⟩ (f71_ok a.proc b.proc) (by simp (disch := omega) only [go_sem]) rfl rfl trivial (.inl rfl) ?_)
      simp (disch := omega) only [go_sem]
      by_cases hc : 0 ≤ cmpP a.proc b.proc
      · simp (disch := omega) only [go_sem, hc]
        refine ret_mk ⟨[], [], []⟩ _ (by (try simp (disch := omega) only [go_sem, resVs, resV]) <;> rfl) ⟨rfl, rfl⟩ (by simp) ?_ trivial
        simp (disch := omega) only [go_sem]
        exact wb (by rw [bad (by simp only [needPos, had]; simp [hi0]; omega)])
      · simp (disch := omega) only [go_sem, hc, decide_false]
        refine hJ _ (i + 1) ⟨by simp at hlt; omega, good (by simp only [needPos, had, hp, g1, g2, he]; simp; omega)⟩ (by simp at hlt; omega) (Imp.weak (by simp (disch := omega) only [go_sem]) (by simp (disch := omega) only [go_sem]))
  · subst hil
    rw [List.take_length] at hP
    have hns : needsOK s.needs = true := by simp [needsOK, hP]; omega
    refine call_pure (f25_ok s h) (by simp (disch := omega) only [go_sem]) rfl ?_
    simp (disch := omega) only [go_sem]
    refine ret_mk ⟨[], [], []⟩ _ (by (try simp (disch := omega) only [go_sem, resVs, resV]) <;> rfl) ⟨rfl, rfl⟩ (by simp) ?_ trivial
    simp (disch := omega) only [go_sem]
    exact wb (by simp only [validS, hqs, hns]; simp; omega)
end Go.Rd
open Go Go.Abs Go.Proofs
set_option maxRecDepth 100000
namespace Go.Rd
theorem validS_good {s : WS} (h : validS s = true) : GoodS s := by
  simp only [validS, queuesOK, Bool.and_eq_true, allAt_iff] at h
  intro q hq
  obtain ⟨i, hi, he⟩ := List.getElem_of_mem hq
  have := h.1.1.2 i q (by rw [List.getElem?_eq_getElem hi, he])
  simp only [queuePos, Bool.and_eq_true] at this
  exact this.1
def ExprsOK (s : WS) : Prop := ∀ n ∈ s.needs, exprOK n.expr = true
theorem validS_exprs {s : WS} (h : validS s = true) : ExprsOK s := by
  simp only [validS, needsOK, Bool.and_eq_true, allAt_iff] at h
  intro q hq
  obtain ⟨i, hi, he⟩ := List.getElem_of_mem hq
  have := h.1.2.2 i q (by rw [List.getElem?_eq_getElem hi, he])
  simp only [needPos, Bool.and_eq_true] at this
  exact this.1.2
theorem exprs_rem {s : WS} (h : ExprsOK s) (p : Proc) : ExprsOK (remS s p) := fun n hn => h n (List.mem_filter.1 hn).1
theorem res_ind {P : WS → Prop} (hP : ∀ s p, P s → P (remS s p)) {s : WS} (l : List Proc) (h : P s) : P (resS s l) := by
  unfold resS
  have : ∀ (ps : List Proc) (x : WS), P x → P (ps.foldl (fun x p => if hasP l p then x else remS x p) x) := by
    intro ps
    induction ps with
    | nil => intro x hx; exact hx
    | cons p ps ih =>
      intro x hx
      simp only [List.foldl_cons]
      split
      · exact ih x hx
      · exact ih _ (hP x p hx)
  exact this _ _ h
theorem few_res {s : WS} (h : Few s) (l : List Proc) : Few (resS s l) := res_ind (P := Few) (fun _ p h => few_rem h p) l h
theorem good_res {s : WS} (h : GoodS s) (l : List Proc) : GoodS (resS s l) := res_ind (P := GoodS) (fun _ p h => good_rem h p) l h
theorem exprs_res {s : WS} (h : ExprsOK s) (l : List Proc) : ExprsOK (resS s l) := res_ind (P := ExprsOK) (fun _ p h => exprs_rem h p) l h
theorem f52_ok (s : WS) (h : Few s) (he : ExprsOK s) : FnOK C0 52 [.agg s.c] [] (.agg s.c) [] := by
  have hn1 := h.nq
  have hn2 := h.nn
  refine FnOK.intro (fn := Tryz.f52) (c := Tryz.f52.body.getD .skip) (by kernel_rfl) (by kernel_rfl) (by kernel_rfl) (by kernel_rfl) (by simp [Tryz.f52]) (by simp [names]) ?_
  unfold Tryz.f52
  simp (disch := omega) only [go_sem]
  refine loop_intro (α := Nat) (fun i => ⟨[(11, I i), (10, I s.queues.length), (9, queuesV s.queues), (1, .ptr 64 0), (2, .ptr 128 0), (3, .ptr 192 0)], [(64, s.c), (128, wsz), (192, [.sl (.own 1984 0) 8 ((s.queues.take i).map Queue.c), .v (.slice none 0 0)])]⟩) (fun i => i ≤ (s.queues).length ∧ True) (fun i => (s.queues).length - i) 0 ⟨by omega, trivial⟩ ?_ ?_
  · refine Imp.weak ?_ ?_
    all_goals (try simp (disch := omega) only [go_sem])
    all_goals (try (repeat' (with_reducible apply And.intro)))
    all_goals (first | exact .nilOwn (by omega) | exact .nilNo (by omega) | exact .sl (by simp []) | exact .int (by simp []) | exact .eq (by simp []))
  rintro i ⟨hi, hP⟩ J hJ
  simp (disch := omega) only [go_sem]
  refine And.intro (fun hlt => ?_) (fun hge => ?_)
  rotate_left
  have hil : i = (s.queues).length := by simp at hge; omega
  rotate_left
  obtain ⟨b, hb⟩ : ∃ b, (s.queues)[i]? = some b := ⟨_, List.getElem?_eq_getElem (by simp at hlt; omega)⟩
  have hbm := List.mem_of_getElem? hb
  simp (disch := omega) only [go_sem, List.getElem?_map, hb]
  · have ha := allQ_parts (h.aq b hbm)
    have hbd : min i s.queues.length + 1 ≤ 4294967296 := by omega
    refine draw_mk 10 [([], [5]), ([0], [15]), ([0, 1], [16]), ([], [5]), ([3], [18]), ([0, 1, 2, 3, 4], [19]), ([], [5]), ([6], [21]), ([0, 1, 2, 3, 4, 5, 6, 7], [22]), ([0, 1, 2, 3, 4, 6, 7], [5]), ([0, 1, 2, 3, 4, 5, 6, 7, 8, 9], []), ([0, 1, 2, 3, 4, 5, 6, 7, 8, 9, 10], []), ([0, 1, 2, 3, 4, 5, 6, 7, 8, 9, 10, 11], []), ([0, 1, 2, 3, 4, 5, 6, 7, 8, 9, 10, 11, 12], []), ([0, 1, 2, 3, 4, 5, 6, 7, 8, 9, 10, 11, 12, 13], [])] fol (by kernel_rfl) ?_
    simp (disch := omega) only [go_sem]
    first | ((with_reducible show callB _ _ _ _ _ _); refine call_pure (f92_ok b.holds ha.1) (by simp (disch := omega) only [go_sem]) rfl ?_) | ((with_reducible show freeCallB _ _ _ _ _ _ _ _ _ _); refine freeCall_mk ⟨⟨[], [], []⟩, [], []⟩ (f92_ok b.holds ha.1) (by simp (disch := omega) only [go_sem]) rfl rfl trivial (.inl rfl) ?_)
    simp (disch := omega) only [go_sem]
    first | ((with_reducible show callB _ _ _ _ _ _); refine call_pure (f93_ok b.convs ha.2.1) (by simp (disch := omega) only [go_sem]) rfl ?_) | ((with_reducible show freeCallB _ _ _ _ _ _ _ _ _ _); refine freeCall_mk ⟨⟨[], [], []⟩, [], []⟩ (f93_ok b.convs ha.2.1) (by simp (disch := omega) only [go_sem]) rfl rfl trivial (.inl rfl) ?_)
    simp (disch := omega) only [go_sem]
    first | ((with_reducible show callB _ _ _ _ _ _); refine call_pure (f93_ok b.waits ha.2.2) (by simp (disch := omega) only [go_sem]) rfl ?_) | ((with_reducible show freeCallB _ _ _ _ _ _ _ _ _ _); refine freeCall_mk ⟨⟨[], [], []⟩, [], []⟩ (f93_ok b.waits ha.2.2) (by simp (disch := omega) only [go_sem]) rfl rfl trivial (.inl rfl) ?_)
    simp (disch := omega) only [go_sem, List.length_map, List.length_take]
    refine hJ _ (i + 1) ⟨by simp at hlt; omega, trivial⟩ (by simp at hlt; omega) (Imp.weak (by simp (disch := omega) only [go_sem]) ?_)
    simp (disch := omega) only [go_sem]
    exact .sl (by simp [List.take_add_one, hb, Queue.c])
  subst hil
  rw [List.take_length]
  clear hJ
  refine loop_intro (α := Nat) (fun i => ⟨[(37, I i), (36, I s.needs.length), (35, needsV s.needs), (1, .ptr 64 0), (2, .ptr 128 0), (3, .ptr 192 0)], [(64, s.c), (128, wsz), (192, [.sl (.own 1984 0) 8 (s.queues.map Queue.c), .sl (.own 3136 0) 9 ((s.needs.take i).map Need.c)])]⟩) (fun i => i ≤ (s.needs).length ∧ True) (fun i => (s.needs).length - i) 0 ⟨by omega, trivial⟩ ?_ ?_
  · refine Imp.weak ?_ ?_
    all_goals (try simp (disch := omega) only [go_sem])
    all_goals (try (repeat' (with_reducible apply And.intro)))
    all_goals (first | exact .nilOwn (by omega) | exact .nilNo (by omega) | exact .sl (by simp []) | exact .int (by simp []) | exact .eq (by simp []))
  rintro i ⟨hi, hP⟩ J hJ
  simp (disch := omega) only [go_sem]
  refine And.intro (fun hlt => ?_) (fun hge => ?_)
  rotate_left
  have hil : i = (s.needs).length := by simp at hge; omega
  rotate_left
  obtain ⟨b, hb⟩ : ∃ b, (s.needs)[i]? = some b := ⟨_, List.getElem?_eq_getElem (by simp at hlt; omega)⟩
  have hbm := List.mem_of_getElem? hb
  simp (disch := omega) only [go_sem, List.getElem?_map, hb]
  · have hbd : min i s.needs.length + 1 ≤ 4294967296 := by omega
    refine call_pure (f94_ok _ b.expr (Nat.lt_succ_self _) (exprOK_kids (he b hbm) _)) (by simp (disch := omega) only [go_sem, Expr.c_def]) rfl ?_
    simp (disch := omega) only [go_sem, Expr.c_def, List.length_map, List.length_take]
    refine hJ _ (i + 1) ⟨by simp at hlt; omega, trivial⟩ (by simp at hlt; omega) (Imp.weak (by simp (disch := omega) only [go_sem]) ?_)
    simp (disch := omega) only [go_sem]
    exact .sl (by simp [List.take_add_one, hb, Need.c])
  · subst hil
    simp (disch := omega) only [go_sem, List.take_length]
    refine ret_mk ⟨[], [], [1984, 3136]⟩ _ (by (try simp (disch := omega) only [go_sem, resVs, resV]) <;> rfl) ⟨rfl, rfl⟩ (by simp) ?_ trivial
    simp (disch := omega) only [go_sem]
def wsE : WS := ⟨[], []⟩
def FreeS (s : WS) : List Proc := if validS s then freeS s else []
theorem f26_ok (s : WS) (h : Few s) : FnOK C0 26 [.agg s.c] [] (procsV (FreeS s)) [] := by
  refine FnOK.intro (fn := Tryz.f26) (c := Tryz.f26.body.getD .skip) (by kernel_rfl) (by kernel_rfl) (by kernel_rfl) (by kernel_rfl) (by simp [Tryz.f26]) (by simp [names]) ?_
  unfold Tryz.f26
  simp (disch := omega) only [go_sem]
  refine call_pure (f35_ok s h) (by simp (disch := omega) only [go_sem]) rfl ?_
  cases hv : validS s
  · simp (disch := omega) only [go_sem]
    refine ret_mk ⟨[], [], []⟩ _ (by (try simp (disch := omega) only [go_sem, resVs, resV]) <;> rfl) ⟨rfl, rfl⟩ (by simp) ?_ trivial
    simp (disch := omega) only [go_sem, FreeS]
    simp only [FreeS, hv]
    exact .nilNo (by omega)
  · simp (disch := omega) only [go_sem]
    refine call_pure (f56_ok s h) (by simp (disch := omega) only [go_sem]) rfl ?_
    simp (disch := omega) only [go_sem]
    refine ret_mk ⟨[], [], []⟩ _ (by (try simp (disch := omega) only [go_sem, resVs, resV]) <;> rfl) ⟨rfl, rfl⟩ (by simp) ?_ trivial
    simp (disch := omega) only [go_sem, FreeS, hv]
def ReduceS (s : WS) : List Proc × List Proc := if validS s then redS s else ([], [])
theorem f23_ok (s : WS) (h : Few s) : FnOK C0 23 [.agg s.c] [] (.tup [procsV (ReduceS s).1, procsV (ReduceS s).2]) [] := by
  refine FnOK.intro (fn := Tryz.f23) (c := Tryz.f23.body.getD .skip) (by kernel_rfl) (by kernel_rfl) (by kernel_rfl) (by kernel_rfl) (by simp [Tryz.f23]) (by simp [names]) ?_
  unfold Tryz.f23
  simp (disch := omega) only [go_sem]
  refine call_pure (f35_ok s h) (by simp (disch := omega) only [go_sem]) rfl ?_
  cases hv : validS s
  · have e : ReduceS s = ([], []) := by simp [ReduceS, hv]
    simp (disch := omega) only [go_sem, e]
    refine ret_mk ⟨[], [], []⟩ _ (by (try simp (disch := omega) only [go_sem, resVs, resV]) <;> rfl) ⟨rfl, rfl⟩ (by simp) ?_ trivial
    simp (disch := omega) only [go_sem]
    refine .tup (WeakArgs.weakL ?_)
    simp (disch := omega) only [go_sem]
    repeat' (with_reducible apply And.intro)
    all_goals (first | exact .nilNo (by omega) | exact .agg (WeakArgs.weakL (by simp (disch := omega) only [go_sem])))
  · have e : ReduceS s = redS s := by simp [ReduceS, hv]
    simp (disch := omega) only [go_sem, e]
    refine call_pure (f51_ok s h (validS_good hv)) (by simp (disch := omega) only [go_sem]) rfl ?_
    simp (disch := omega) only [go_sem]
    refine ret_mk ⟨[], [], []⟩ _ (by (try simp (disch := omega) only [go_sem, resVs, resV]) <;> rfl) ⟨rfl, rfl⟩ (by simp) ?_ trivial
    simp (disch := omega) only [go_sem]
theorem redN_len : ∀ (n : Nat) (s : WS), (redN n s).2.length ≤ (procsS s).length ∨ True := fun _ _ => .inr trivial
theorem red_len {s : WS} (h : Few s) (hg : GoodS s) : (redS s).2.length ≤ 20000 := by
  have key : ∀ (n : Nat) (s : WS), Few s → (redN n s).2.length ≤ 20000 := by
    intro n
    induction n with
    | zero => intro s h; exact procsS_len h
    | succ n ih =>
      intro s h
      simp only [redN]
      split
      · exact procsS_len h
      · exact ih _ (few_rem h _)
  exact key _ s h
theorem Reduce_len {s : WS} (h : Few s) : (ReduceS s).2.length ≤ 20000 := by
  unfold ReduceS
  split
  · rename_i hv; exact red_len h (validS_good hv)
  · simp
def DeadS (s : WS) (p : Proc) : Bool := hasP (ReduceS s).2 p
def RemoveS (s : WS) (p : Proc) : WS × Int := if validS s then (if hasP (procsS s) p then (remS s p, 0) else (wsE, 10)) else (wsE, 2)
def RestrictS (s : WS) (l : List Proc) : WS × Int := if validS s then (resS s l, 0) else (wsE, 2)
theorem f24_ok (s : WS) (l : List Proc) (h : Few s) (hl : l.length ≤ 1000000) : FnOK C0 24 [.agg s.c, procsV l] [] (.tup [.agg (RestrictS s l).1.c, I (RestrictS s l).2]) [] := by
  refine FnOK.intro (fn := Tryz.f24) (c := Tryz.f24.body.getD .skip) (by kernel_rfl) (by kernel_rfl) (by kernel_rfl) (by kernel_rfl) (by simp [Tryz.f24]) (by simp [names]) ?_
  unfold Tryz.f24
  simp (disch := omega) only [go_sem]
  refine call_pure (f35_ok s h) (by simp (disch := omega) only [go_sem]) rfl ?_
  cases hv : validS s
  · have e : RestrictS s l = (wsE, 2) := by simp [RestrictS, hv]
    simp (disch := omega) only [go_sem, e, wsE]
    refine ret_mk ⟨[], [], []⟩ _ (by (try simp (disch := omega) only [go_sem, resVs, resV]) <;> rfl) ⟨rfl, rfl⟩ (by simp) ?_ trivial
    simp (disch := omega) only [go_sem]
    refine .tup (WeakArgs.weakL ?_)
    simp (disch := omega) only [go_sem]
    repeat' (with_reducible apply And.intro)
    all_goals (first | exact .nilNo (by omega) | exact .agg (WeakArgs.weakL (by simp (disch := omega) only [go_sem])))
  · have e : RestrictS s l = (resS s l, 0) := by simp [RestrictS, hv]
    simp (disch := omega) only [go_sem, e]
    refine call_pure (f53_ok s l h hl) (by simp (disch := omega) only [go_sem]) rfl ?_
    simp (disch := omega) only [go_sem]
    refine call_pure (f52_ok (resS s l) (few_res h l) (exprs_res (validS_exprs hv) l)) (by simp (disch := omega) only [go_sem]) rfl ?_
    simp (disch := omega) only [go_sem]
    refine ret_mk ⟨[], [], []⟩ _ (by (try simp (disch := omega) only [go_sem, resVs, resV]) <;> rfl) ⟨rfl, rfl⟩ (by simp) ?_ trivial
    simp (disch := omega) only [go_sem]
def coreStep (s : WS) (p : Proc) (set : List Proc) (q : Proc) : List Proc := if q = p ∨ hasP set q = false then set else if hasP (redS (resS s (dropP set q))).2 p then (redS (resS s (dropP set q))).2 else set
def CoreS (s : WS) (p : Proc) : List Proc × Int := if validS s then (if hasP (redS s).2 p then ((redS s).2.foldl (coreStep s p) (redS s).2, 0) else ([], 14)) else ([], 2)
end Go.Rd
