/- part 21 of the proof -/
import Derived.Test.YthelplgdpmhepaaGreatDoorT20
set_option linter.all false
open Go Go.Abs Go.Proofs
set_option maxRecDepth 100000
namespace Go.Rd
theorem validS_good {s : WS} (h : validS s = true) : GoodS s := by
  simp only [validS, queuesOK, Bool.and_eq_true, allAt_iff] at h
  intro q hq
  obtain ⟨i, hi, he⟩ := List.getElem_of_mem hq
  have := h.1.1.2 i q (by rw [List.getElem?_eq_getElem hi, he])
  simp only [queuePos, Bool.and_eq_true] at this
  exact this.1
def ExprsOK (s : WS) : Prop := ∀ n ∈ s.needs, exprOK n.expr = true
theorem validS_exprs {s : WS} (h : validS s = true) : ExprsOK s := by
  simp only [validS, needsOK, Bool.and_eq_true, allAt_iff] at h
  intro q hq
  obtain ⟨i, hi, he⟩ := List.getElem_of_mem hq
  have := h.1.2.2 i q (by rw [List.getElem?_eq_getElem hi, he])
  simp only [needPos, Bool.and_eq_true] at this
  exact this.1.2
theorem exprs_rem {s : WS} (h : ExprsOK s) (p : Proc) : ExprsOK (remS s p) := fun n hn => h n (List.mem_filter.1 hn).1
theorem res_ind {P : WS → Prop} (hP : ∀ s p, P s → P (remS s p)) {s : WS} (l : List Proc) (h : P s) : P (resS s l) := by
  unfold resS
  have : ∀ (ps : List Proc) (x : WS), P x → P (ps.foldl (fun x p => if hasP l p then x else remS x p) x) := by
    intro ps
    induction ps with
    | nil => intro x hx; exact hx
    | cons p ps ih =>
      intro x hx
      simp only [List.foldl_cons]
      split
      · exact ih x hx
      · exact ih _ (hP x p hx)
  exact this _ _ h
theorem few_res {s : WS} (h : Few s) (l : List Proc) : Few (resS s l) := res_ind (P := Few) (fun _ p h => few_rem h p) l h
theorem good_res {s : WS} (h : GoodS s) (l : List Proc) : GoodS (resS s l) := res_ind (P := GoodS) (fun _ p h => good_rem h p) l h
theorem exprs_res {s : WS} (h : ExprsOK s) (l : List Proc) : ExprsOK (resS s l) := res_ind (P := ExprsOK) (fun _ p h => exprs_rem h p) l h
theorem f60_ok (s : WS) (h : Few s) (he : ExprsOK s) : FnOK C0 60 [.agg s.c] [] (.agg s.c) [] := by
  have hn1 := h.nq
  have hn2 := h.nn
  refine FnOK.intro (fn := Tryz.f60) (c := Tryz.f60.body.getD .skip) (by kernel_rfl) (by kernel_rfl) (by kernel_rfl) (by kernel_rfl) (by simp [Tryz.f60]) (by simp [names]) ?_
  unfold Tryz.f60
  simp (disch := omega) only [go_sem]
  refine loop_intro (α := Nat) (fun i => ⟨[(11, I i), (10, I s.queues.length), (9, queuesV s.queues), (1, .ptr 64 0), (2, .ptr 128 0), (3, .ptr 192 0)], [(64, s.c), (128, wsz), (192, [.sl (.own 1984 0) 8 ((s.queues.take i).map Queue.c), .v (.slice none 0 0)])]⟩) (fun i => i ≤ (s.queues).length ∧ True) (fun i => (s.queues).length - i) 0 ⟨by omega, trivial⟩ ?_ ?_
  · refine Imp.weak ?_ ?_
    all_goals (try simp (disch := omega) only [go_sem])
    all_goals (try (repeat' (with_reducible apply And.intro)))
    all_goals (first | exact .nilOwn (by omega) | exact .nilNo (by omega) | exact .sl (by simp []) | exact .int (by simp []) | exact .eq (by simp []))
  rintro i ⟨hi, hP⟩ J hJ
  simp (disch := omega) only [go_sem]
  refine And.intro (fun hlt => ?_) (fun hge => ?_)
  rotate_left
  have hil : i = (s.queues).length := by simp at hge; omega
  rotate_left
  obtain ⟨b, hb⟩ : ∃ b, (s.queues)[i]? = some b := ⟨_, List.getElem?_eq_getElem (by simp at hlt; omega)⟩
  have hbm := List.mem_of_getElem? hb
  simp (disch := omega) only [go_sem, List.getElem?_map, hb]
  · have ha := allQ_parts (h.aq b hbm)
    have hbd : min i s.queues.length + 1 ≤ 4294967296 := by omega
    refine draw_mk 10 [([], [5]), ([0], [15]), ([0, 1], [16]), ([], [5]), ([3], [18]), ([0, 1, 2, 3, 4], [19]), ([], [5]), ([6], [21]), ([0, 1, 2, 3, 4, 5, 6, 7], [22]), ([0, 1, 2, 3, 4, 6, 7], [5]), ([0, 1, 2, 3, 4, 5, 6, 7, 8, 9], []), ([0, 1, 2, 3, 4, 5, 6, 7, 8, 9, 10], []), ([0, 1, 2, 3, 4, 5, 6, 7, 8, 9, 10, 11], []), ([0, 1, 2, 3, 4, 5, 6, 7, 8, 9, 10, 11, 12], []), ([0, 1, 2, 3, 4, 5, 6, 7, 8, 9, 10, 11, 12, 13], [])] fol (by kernel_rfl) ?_
    simp (disch := omega) only [go_sem]
    first | ((with_reducible show callB _ _ _ _ _ _); refine call_pure (f97_ok b.holds ha.1) (by simp (disch := omega) only [go_sem]) rfl ?_) | ((with_reducible show freeCallB _ _ _ _ _ _ _ _ _ _); refine freeCall_mk ⟨⟨[], [], []⟩, [], []⟩ (f97_ok b.holds ha.1) (by simp (disch := omega) only [go_sem]) rfl rfl trivial (.inl rfl) ?_)
    simp (disch := omega) only [go_sem]
    first | ((with_reducible show callB _ _ _ _ _ _); refine call_pure (f98_ok b.convs ha.2.1) (by simp (disch := omega) only [go_sem]) rfl ?_) | ((with_reducible show freeCallB _ _ _ _ _ _ _ _ _ _); refine freeCall_mk ⟨⟨[], [], []⟩, [], []⟩ (f98_ok b.convs ha.2.1) (by simp (disch := omega) only [go_sem]) rfl rfl trivial (.inl rfl) ?_)
    simp (disch := omega) only [go_sem]
    first | ((with_reducible show callB _ _ _ _ _ _); refine call_pure (f98_ok b.waits ha.2.2) (by simp (disch := omega) only [go_sem]) rfl ?_) | ((with_reducible show freeCallB _ _ _ _ _ _ _ _ _ _); refine freeCall_mk ⟨⟨[], [], []⟩, [], []⟩ (f98_ok b.waits ha.2.2) (by simp (disch := omega) only [go_sem]) rfl rfl trivial (.inl rfl) ?_)
    simp (disch := omega) only [go_sem, List.length_map, List.length_take]
    refine hJ _ (i + 1) ⟨by simp at hlt; omega, trivial⟩ (by simp at hlt; omega) (Imp.weak (by simp (disch := omega) only [go_sem]) ?_)
    simp (disch := omega) only [go_sem]
    exact .sl (by simp [List.take_add_one, hb, Queue.c])
  subst hil
  rw [List.take_length]
  clear hJ
  refine loop_intro (α := Nat) (fun i => ⟨[(37, I i), (36, I s.needs.length), (35, needsV s.needs), (1, .ptr 64 0), (2, .ptr 128 0), (3, .ptr 192 0)], [(64, s.c), (128, wsz), (192, [.sl (.own 1984 0) 8 (s.queues.map Queue.c), .sl (.own 3136 0) 9 ((s.needs.take i).map Need.c)])]⟩) (fun i => i ≤ (s.needs).length ∧ True) (fun i => (s.needs).length - i) 0 ⟨by omega, trivial⟩ ?_ ?_
  · refine Imp.weak ?_ ?_
    all_goals (try simp (disch := omega) only [go_sem])
    all_goals (try (repeat' (with_reducible apply And.intro)))
    all_goals (first | exact .nilOwn (by omega) | exact .nilNo (by omega) | exact .sl (by simp []) | exact .int (by simp []) | exact .eq (by simp []))
  rintro i ⟨hi, hP⟩ J hJ
  simp (disch := omega) only [go_sem]
  refine And.intro (fun hlt => ?_) (fun hge => ?_)
  rotate_left
  have hil : i = (s.needs).length := by simp at hge; omega
  rotate_left
  obtain ⟨b, hb⟩ : ∃ b, (s.needs)[i]? = some b := ⟨_, List.getElem?_eq_getElem (by simp at hlt; omega)⟩
  have hbm := List.mem_of_getElem? hb
  simp (disch := omega) only [go_sem, List.getElem?_map, hb]
  · have hbd : min i s.needs.length + 1 ≤ 4294967296 := by omega
    refine call_pure (f99_ok _ b.expr (Nat.lt_succ_self _) (exprOK_kids (he b hbm) _)) (by simp (disch := omega) only [go_sem, Expr.c_def]) rfl ?_
    simp (disch := omega) only [go_sem, Expr.c_def, List.length_map, List.length_take]
    refine hJ _ (i + 1) ⟨by simp at hlt; omega, trivial⟩ (by simp at hlt; omega) (Imp.weak (by simp (disch := omega) only [go_sem]) ?_)
    simp (disch := omega) only [go_sem]
    exact .sl (by simp [List.take_add_one, hb, Need.c])
  · subst hil
    simp (disch := omega) only [go_sem, List.take_length]
    refine ret_mk ⟨[], [], [1984, 3136]⟩ _ (by (try simp (disch := omega) only [go_sem, resVs, resV]) <;> rfl) ⟨rfl, rfl⟩ (by simp) ?_ trivial
    simp (disch := omega) only [go_sem]
def wsE : WS := ⟨[], []⟩
def FreeS (s : WS) : List Proc := if validS s then freeS s else []
theorem f36_ok (s : WS) (h : Few s) : FnOK C0 36 [.agg s.c] [] (procsV (FreeS s)) [] := by
  refine FnOK.intro (fn := Tryz.f36) (c := Tryz.f36.body.getD .skip) (by kernel_rfl) (by kernel_rfl) (by kernel_rfl) (by kernel_rfl) (by simp [Tryz.f36]) (by simp [names]) ?_
  unfold Tryz.f36
  simp (disch := omega) only [go_sem]
  refine call_pure (f41_ok s h) (by simp (disch := omega) only [go_sem]) rfl ?_
  cases hv : validS s
  · simp (disch := omega) only [go_sem]
    refine ret_mk ⟨[], [], []⟩ _ (by (try simp (disch := omega) only [go_sem, resVs, resV]) <;> rfl) ⟨rfl, rfl⟩ (by simp) ?_ trivial
    simp (disch := omega) only [go_sem, FreeS]
    simp only [FreeS, hv]
    exact .nilNo (by omega)
  · simp (disch := omega) only [go_sem]
    refine call_pure (f65_ok s h) (by simp (disch := omega) only [go_sem]) rfl ?_
    simp (disch := omega) only [go_sem]
    refine ret_mk ⟨[], [], []⟩ _ (by (try simp (disch := omega) only [go_sem, resVs, resV]) <;> rfl) ⟨rfl, rfl⟩ (by simp) ?_ trivial
    simp (disch := omega) only [go_sem, FreeS, hv]
def ReduceS (s : WS) : List Proc × List Proc := if validS s then redS s else ([], [])
theorem f14_ok (s : WS) (h : Few s) : FnOK C0 14 [.agg s.c] [] (.tup [procsV (ReduceS s).1, procsV (ReduceS s).2]) [] := by
  refine FnOK.intro (fn := Tryz.f14) (c := Tryz.f14.body.getD .skip) (by kernel_rfl) (by kernel_rfl) (by kernel_rfl) (by kernel_rfl) (by simp [Tryz.f14]) (by simp [names]) ?_
  unfold Tryz.f14
  simp (disch := omega) only [go_sem]
  refine call_pure (f41_ok s h) (by simp (disch := omega) only [go_sem]) rfl ?_
  cases hv : validS s
  · have e : ReduceS s = ([], []) := by simp [ReduceS, hv]
    simp (disch := omega) only [go_sem, e]
    refine ret_mk ⟨[], [], []⟩ _ (by (try simp (disch := omega) only [go_sem, resVs, resV]) <;> rfl) ⟨rfl, rfl⟩ (by simp) ?_ trivial
    simp (disch := omega) only [go_sem]
    refine .tup (WeakArgs.weakL ?_)
    simp (disch := omega) only [go_sem]
    repeat' (with_reducible apply And.intro)
    all_goals (first | exact .nilNo (by omega) | exact .agg (WeakArgs.weakL (by simp (disch := omega) only [go_sem])))
  · have e : ReduceS s = redS s := by simp [ReduceS, hv]
    simp (disch := omega) only [go_sem, e]
    refine call_pure (f42_ok s h (validS_good hv)) (by simp (disch := omega) only [go_sem]) rfl ?_
    simp (disch := omega) only [go_sem]
    refine ret_mk ⟨[], [], []⟩ _ (by (try simp (disch := omega) only [go_sem, resVs, resV]) <;> rfl) ⟨rfl, rfl⟩ (by simp) ?_ trivial
    simp (disch := omega) only [go_sem]
theorem redN_len : ∀ (n : Nat) (s : WS), (redN n s).2.length ≤ (procsS s).length ∨ True := fun _ _ => .inr trivial
theorem red_len {s : WS} (h : Few s) (hg : GoodS s) : (redS s).2.length ≤ 20000 := by
  have key : ∀ (n : Nat) (s : WS), Few s → (redN n s).2.length ≤ 20000 := by
    intro n
    induction n with
    | zero => intro s h; exact procsS_len h
    | succ n ih =>
      intro s h
      simp only [redN]
      split
      · exact procsS_len h
      · exact ih _ (few_rem h _)
  exact key _ s h
theorem Reduce_len {s : WS} (h : Few s) : (ReduceS s).2.length ≤ 20000 := by
  unfold ReduceS
  split
  · rename_i hv; exact red_len h (validS_good hv)
  · simp
def DeadS (s : WS) (p : Proc) : Bool := hasP (ReduceS s).2 p
theorem f17_ok (s : WS) (p : Proc) (h : Few s) : FnOK C0 17 [.agg s.c, .agg p.c] [] (B (DeadS s p)) [] := by
  have hl := Reduce_len h
  refine FnOK.intro (fn := Tryz.f17) (c := Tryz.f17.body.getD .skip) (by kernel_rfl) (by kernel_rfl) (by kernel_rfl) (by kernel_rfl) (by simp [Tryz.f17]) (by simp [names]) ?_
  unfold Tryz.f17
  simp (disch := omega) only [go_sem]
  refine call_pure (f14_ok s h) (by simp (disch := omega) only [go_sem]) rfl ?_
  simp (disch := omega) only [go_sem]
  refine call_pure (f45_ok (ReduceS s).2 p (by omega)) (by simp (disch := omega) only [go_sem]) rfl ?_
  simp (disch := omega) only [go_sem]
  refine ret_mk ⟨[], [], []⟩ _ (by (try simp (disch := omega) only [go_sem, resVs, resV]) <;> rfl) ⟨rfl, rfl⟩ (by simp) ?_ trivial
  simp (disch := omega) only [go_sem]
  exact wb rfl
def RemoveS (s : WS) (p : Proc) : WS × Int := if validS s then (if hasP (procsS s) p then (remS s p, 0) else (wsE, 10)) else (wsE, 2)
theorem f32_ok (s : WS) (p : Proc) (h : Few s) : FnOK C0 32 [.agg s.c, .agg p.c] [] (.tup [.agg (RemoveS s p).1.c, I (RemoveS s p).2]) [] := by
  have hl := procsS_len h
  refine FnOK.intro (fn := Tryz.f32) (c := Tryz.f32.body.getD .skip) (by kernel_rfl) (by kernel_rfl) (by kernel_rfl) (by kernel_rfl) (by simp [Tryz.f32]) (by simp [names]) ?_
  unfold Tryz.f32
  simp (disch := omega) only [go_sem]
  refine call_pure (f41_ok s h) (by simp (disch := omega) only [go_sem]) rfl ?_
  cases hv : validS s
  · have e : RemoveS s p = (wsE, 2) := by simp [RemoveS, hv]
    simp (disch := omega) only [go_sem, e, wsE]
    refine ret_mk ⟨[], [], []⟩ _ (by (try simp (disch := omega) only [go_sem, resVs, resV]) <;> rfl) ⟨rfl, rfl⟩ (by simp) ?_ trivial
    simp (disch := omega) only [go_sem]
    refine .tup (WeakArgs.weakL ?_)
    simp (disch := omega) only [go_sem]
    repeat' (with_reducible apply And.intro)
    all_goals (first | exact .nilNo (by omega) | exact .agg (WeakArgs.weakL (by simp (disch := omega) only [go_sem])))
  simp (disch := omega) only [go_sem]
  refine draw_mk 3 [([], [2]), ([0], [10]), ([], [3]), ([0, 1, 2], []), ([0, 1, 2, 3], [])] fol (by kernel_rfl) ?_
  simp (disch := omega) only [go_sem]
  first | ((with_reducible show callB _ _ _ _ _ _); refine call_pure (f61_ok s h) (by simp (disch := omega) only [go_sem]) rfl ?_) | ((with_reducible show freeCallB _ _ _ _ _ _ _ _ _ _); refine freeCall_mk ⟨⟨[], [], []⟩, [], []⟩ (f61_ok s h) (by simp (disch := omega) only [go_sem]) rfl rfl trivial (.inl rfl) ?_)
  simp (disch := omega) only [go_sem]
  first | ((with_reducible show callB _ _ _ _ _ _); refine call_pure (f45_ok (procsS s) p (by omega)) (by simp (disch := omega) only [go_sem]) rfl ?_) | ((with_reducible show freeCallB _ _ _ _ _ _ _ _ _ _); refine freeCall_mk ⟨⟨[], [], []⟩, [], []⟩ (f45_ok (procsS s) p (by omega)) (by simp (disch := omega) only [go_sem]) rfl rfl trivial (.inl rfl) ?_)
  cases hp : hasP (procsS s) p
  · have e : RemoveS s p = (wsE, 10) := by simp [RemoveS, hv, hp]
    simp (disch := omega) only [go_sem, e, wsE]
    refine ret_mk ⟨[], [], []⟩ _ (by (try simp (disch := omega) only [go_sem, resVs, resV]) <;> rfl) ⟨rfl, rfl⟩ (by simp) ?_ trivial
    simp (disch := omega) only [go_sem]
    refine .tup (WeakArgs.weakL ?_)
    simp (disch := omega) only [go_sem]
    repeat' (with_reducible apply And.intro)
    all_goals (first | exact .nilNo (by omega) | exact .agg (WeakArgs.weakL (by simp (disch := omega) only [go_sem])))
  · have e : RemoveS s p = (remS s p, 0) := by simp [RemoveS, hv, hp]
    simp (disch := omega) only [go_sem, e]
    refine call_pure (f62_ok s p h) (by simp (disch := omega) only [go_sem]) rfl ?_
    simp (disch := omega) only [go_sem]
    refine call_pure (f60_ok (remS s p) (few_rem h p) (exprs_rem (validS_exprs hv) p)) (by simp (disch := omega) only [go_sem]) rfl ?_
    simp (disch := omega) only [go_sem]
    refine ret_mk ⟨[], [], []⟩ _ (by (try simp (disch := omega) only [go_sem, resVs, resV]) <;> rfl) ⟨rfl, rfl⟩ (by simp) ?_ trivial
    simp (disch := omega) only [go_sem]
def RestrictS (s : WS) (l : List Proc) : WS × Int := if validS s then (resS s l, 0) else (wsE, 2)
theorem f31_ok (s : WS) (l : List Proc) (h : Few s) (hl : l.length ≤ 1000000) : FnOK C0 31 [.agg s.c, procsV l] [] (.tup [.agg (RestrictS s l).1.c, I (RestrictS s l).2]) [] := by
  refine FnOK.intro (fn := Tryz.f31) (c := Tryz.f31.body.getD .skip) (by kernel_rfl) (by kernel_rfl) (by kernel_rfl) (by kernel_rfl) (by simp [Tryz.f31]) (by simp [names]) ?_
  unfold Tryz.f31
  simp (disch := omega) only [go_sem]
  refine call_pure (f41_ok s h) (by simp (disch := omega) only [go_sem]) rfl ?_
  cases hv : validS s
  · have e : RestrictS s l = (wsE, 2) := by simp [RestrictS, hv]
    simp (disch := omega) only [go_sem, e, wsE]
    refine ret_mk ⟨[], [], []⟩ _ (by (try simp (disch := omega) only [go_sem, resVs, resV]) <;> rfl) ⟨rfl, rfl⟩ (by simp) ?_ trivial
    simp (disch := omega) only [go_sem]
    refine .tup (WeakArgs.weakL ?_)
    simp (disch := omega) only [go_sem]
    repeat' (with_reducible apply And.intro)
    all_goals (first | exact .nilNo (by omega) | exact .agg (WeakArgs.weakL (by simp (disch := omega) only [go_sem])))
  · have e : RestrictS s l = (resS s l, 0) := by simp [RestrictS, hv]
    simp (disch := omega) only [go_sem, e]
    refine call_pure (f48_ok s l h hl) (by simp (disch := omega) only [go_sem]) rfl ?_
    simp (disch := omega) only [go_sem]
    refine call_pure (f60_ok (resS s l) (few_res h l) (exprs_res (validS_exprs hv) l)) (by simp (disch := omega) only [go_sem]) rfl ?_
    simp (disch := omega) only [go_sem]
    refine ret_mk ⟨[], [], []⟩ _ (by (try simp (disch := omega) only [go_sem, resVs, resV]) <;> rfl) ⟨rfl, rfl⟩ (by simp) ?_ trivial
    simp (disch := omega) only [go_sem]
def coreStep (s : WS) (p : Proc) (set : List Proc) (q : Proc) : List Proc := if q = p ∨ hasP set q = false then set else if hasP (redS (resS s (dropP set q))).2 p then (redS (resS s (dropP set q))).2 else set
def CoreS (s : WS) (p : Proc) : List Proc × Int := if validS s then (if hasP (redS s).2 p then ((redS s).2.foldl (coreStep s p) (redS s).2, 0) else ([], 14)) else ([], 2)
theorem f19_ok (s : WS) (p : Proc) (h : Few s) : FnOK C0 19 [.agg s.c, .agg p.c] [] (.tup [procsV (CoreS s p).1, I (CoreS s p).2]) [] := by
  refine FnOK.intro (fn := Tryz.f19) (c := Tryz.f19.body.getD .skip) (by kernel_rfl) (by kernel_rfl) (by kernel_rfl) (by kernel_rfl) (by simp [Tryz.f19]) (by simp [names]) ?_
  unfold Tryz.f19
  simp (disch := omega) only [go_sem]
  refine call_pure (f41_ok s h) (by simp (disch := omega) only [go_sem]) rfl ?_
  cases hv : validS s
  · have e : CoreS s p = ([], 2) := by simp [CoreS, hv]
    simp (disch := omega) only [go_sem, e]
    refine ret_mk ⟨[], [], []⟩ _ (by (try simp (disch := omega) only [go_sem, resVs, resV]) <;> rfl) ⟨rfl, rfl⟩ (by simp) ?_ trivial
    simp (disch := omega) only [go_sem]
    refine .tup (WeakArgs.weakL ?_)
    simp (disch := omega) only [go_sem]
    repeat' (with_reducible apply And.intro)
    all_goals (first | exact .nilNo (by omega) | exact .agg (WeakArgs.weakL (by simp (disch := omega) only [go_sem])))
  have hg := validS_good hv
  have hrl := red_len h hg
  simp (disch := omega) only [go_sem]
  refine call_pure (f42_ok s h hg) (by simp (disch := omega) only [go_sem]) rfl ?_
  simp (disch := omega) only [go_sem]
  refine call_pure (f45_ok (redS s).2 p (by omega)) (by simp (disch := omega) only [go_sem]) rfl ?_
  cases hp : hasP (redS s).2 p
  · have e : CoreS s p = ([], 14) := by simp [CoreS, hv, hp]
    simp (disch := omega) only [go_sem, e]
    refine ret_mk ⟨[], [], []⟩ _ (by (try simp (disch := omega) only [go_sem, resVs, resV]) <;> rfl) ⟨rfl, rfl⟩ (by simp) ?_ trivial
    simp (disch := omega) only [go_sem]
    refine .tup (WeakArgs.weakL ?_)
    simp (disch := omega) only [go_sem]
    repeat' (with_reducible apply And.intro)
    all_goals (first | exact .nilNo (by omega) | exact .agg (WeakArgs.weakL (by simp (disch := omega) only [go_sem])))
  have e : CoreS s p = ((redS s).2.foldl (coreStep s p) (redS s).2, 0) := by simp [CoreS, hv, hp]
  simp (disch := omega) only [go_sem, e]
  refine call_pure (f46_ok (redS s).2 (by omega)) (by simp (disch := omega) only [go_sem]) rfl ?_
  generalize (redS s).2 = all at hrl ⊢
  simp (disch := omega) only [go_sem]
  refine loop_intro (α := Nat) (fun i => ⟨[(29, I i), (28, I all.length), (7, procsV all), (8, procsV ((all.take i).foldl (coreStep s p) all)), (2, .ptr 128 0), (3, .ptr 192 0)], [(128, s.c), (192, p.c)]⟩) (fun i => i ≤ (all).length ∧ ((all.take i).foldl (coreStep s p) all).length ≤ 20000) (fun i => (all).length - i) 0 ⟨by omega, hrl⟩ ?_ ?_
  · refine Imp.weak ?_ ?_
    all_goals (try simp (disch := omega) only [go_sem])
    all_goals (try (repeat' (with_reducible apply And.intro)))
    all_goals (first | exact .nilOwn (by omega) | exact .nilNo (by omega) | exact .sl (by simp []) | exact .int (by simp []) | exact .eq (by simp []))
  rintro i ⟨hi, hP⟩ J hJ
  simp (disch := omega) only [go_sem]
  refine And.intro (fun hlt => ?_) (fun hge => ?_)
  rotate_left
  have hil : i = (all).length := by simp at hge; omega
  rotate_left
  obtain ⟨b, hb⟩ : ∃ b, (all)[i]? = some b := ⟨_, List.getElem?_eq_getElem (by simp at hlt; omega)⟩
  have hbm := List.mem_of_getElem? hb
  simp (disch := omega) only [go_sem, List.getElem?_map, hb]
  · have e1 : (all.take (i + 1)).foldl (coreStep s p) all = coreStep s p ((all.take i).foldl (coreStep s p) all) b := by
      rw [List.take_add_one, hb, Option.toList_some, List.foldl_append]; rfl
    generalize (all.take i).foldl (coreStep s p) all = set at hP e1
    have step : ∀ set', coreStep s p set b = set' → set'.length ≤ 20000 → ∀ st', Imp ⟨C0, [], []⟩ st' ⟨[(29, I (i + 1 : Nat)), (28, I all.length), (7, procsV all), (8, procsV set'), (2, .ptr 128 0), (3, .ptr 192 0)], [(128, s.c), (192, p.c)]⟩ → J st' := fun set' h1 h2 st' h3 => by
      refine hJ st' (i + 1) ⟨by simp at hlt; omega, by rw [e1, h1]; exact h2⟩ (by simp at hlt; omega) ?_
      rw [e1, h1]; exact h3
    clear hJ
    refine call_pure (f47_ok b p) (by simp (disch := omega) only [go_sem]) rfl ?_
    simp (disch := omega) only [go_sem]
    refine And.intro (fun hh => ?_) (fun hh => ?_)
    rotate_left
    · have hbp : b = p := by simpa using hh
      exact step set (by simp [coreStep, hbp]) hP _ (Imp.weak (by simp (disch := omega) only [go_sem]) (by simp (disch := omega) only [go_sem]))
    have hbp : ¬ b = p := by simpa using hh
    refine call_pure (f45_ok set b (by omega)) (by simp (disch := omega) only [go_sem]) rfl ?_
    cases hs : hasP set b
    · simp (disch := omega) only [go_sem]
      exact step set (by simp [coreStep, hs]) hP _ (Imp.weak (by simp (disch := omega) only [go_sem]) (by simp (disch := omega) only [go_sem]))
    simp (disch := omega) only [go_sem]
    refine draw_mk 10 [([], [2]), ([], [8]), ([], [10]), ([1, 2], [48, 49]), ([0, 1, 2, 3], [47, 50]), ([0, 1, 2, 3, 4], [51]), ([0, 1, 2, 3, 4, 5], [52]), ([0, 1, 2, 3, 4, 5, 6], [46]), ([0, 1, 2, 3, 4, 5, 6], [46]), ([0, 1, 2, 3, 4, 5, 6, 7], [53]), ([0, 1, 2, 3, 4, 5, 6, 7, 8, 9], [])] fol (by kernel_rfl) ?_
    simp (disch := omega) only [go_sem]
    have hdl : (dropP set b).length ≤ set.length := List.length_filter_le _ _
    have hf := few_res h (dropP set b)
    have hg2 := good_res hg (dropP set b)
    have hrl2 := red_len hf hg2
    first | ((with_reducible show callB _ _ _ _ _ _); refine call_pure (f49_ok set b (by omega)) (by simp (disch := omega) only [go_sem]) rfl ?_) | ((with_reducible show freeCallB _ _ _ _ _ _ _ _ _ _); refine freeCall_mk ⟨⟨[], [], []⟩, [], []⟩ (f49_ok set b (by omega)) (by simp (disch := omega) only [go_sem]) rfl rfl trivial (.inl rfl) ?_)
    simp (disch := omega) only [go_sem]
    first | ((with_reducible show callB _ _ _ _ _ _); refine call_pure (f48_ok s (dropP set b) h (by omega)) (by simp (disch := omega) only [go_sem]) rfl ?_) | ((with_reducible show freeCallB _ _ _ _ _ _ _ _ _ _); refine freeCall_mk ⟨⟨[], [], []⟩, [], []⟩ (f48_ok s (dropP set b) h (by omega)) (by simp (disch := omega) only [go_sem]) rfl rfl trivial (.inl rfl) ?_)
    simp (disch := omega) only [go_sem]
    first | ((with_reducible show callB _ _ _ _ _ _); refine call_pure (f42_ok (resS s (dropP set b)) hf hg2) (by simp (disch := omega) only [go_sem]) rfl ?_) | ((with_reducible show freeCallB _ _ _ _ _ _ _ _ _ _); refine freeCall_mk ⟨⟨[], [], []⟩, [], []⟩ (f42_ok (resS s (dropP set b)) hf hg2) (by simp (disch := omega) only [go_sem]) rfl rfl trivial (.inl rfl) ?_)
    simp (disch := omega) only [go_sem]
    refine call_pure (f45_ok (redS (resS s (dropP set b))).2 p (by omega)) (by simp (disch := omega) only [go_sem]) rfl ?_
    cases hq : hasP (redS (resS s (dropP set b))).2 p
    · simp (disch := omega) only [go_sem]
      exact step set (by simp [coreStep, hs, hbp, hq]) hP _ (Imp.weak (by simp (disch := omega) only [go_sem]) (by simp (disch := omega) only [go_sem]))
    · simp (disch := omega) only [go_sem]
      exact step (redS (resS s (dropP set b))).2 (by simp [coreStep, hs, hbp, hq]) hrl2 _ (Imp.weak (by simp (disch := omega) only [go_sem]) (by simp (disch := omega) only [go_sem]))
  · subst hil
    simp (disch := omega) only [go_sem, List.take_length]
    refine ret_mk ⟨[], [], []⟩ _ (by (try simp (disch := omega) only [go_sem, resVs, resV]) <;> rfl) ⟨rfl, rfl⟩ (by simp) ?_ trivial
    simp (disch := omega) only [go_sem]
end Go.Rd
open Go Go.Abs Go.Proofs
set_option maxRecDepth 100000
namespace Go.Rd
def midP (l : List Proc) (k : Nat) (p : Proc) : List Proc := l.take k ++ p :: l.drop k
theorem midP_len (l : List Proc) (k : Nat) (p : Proc) (h : k ≤ l.length) : (midP l k p).length = l.length + 1 := by simp [midP]; omega
theorem midP_get (l : List Proc) (k : Nat) (p : Proc) (h : k ≤ l.length) : (midP l k p)[k]? = some p := by
  unfold midP
  rw [List.getElem?_append_right (by simp; omega)]
  simp [Nat.min_eq_left h]
theorem midP_prev (l : List Proc) (k : Nat) (p : Proc) (h : k + 1 ≤ l.length) : (midP l (k + 1) p)[k]? = l[k]? := by
  unfold midP
  rw [List.getElem?_append_left (by simp; omega), List.getElem?_take, if_pos (by omega)]
theorem midP_swap {l : List Proc} {k : Nat} {p x : Proc} (hx : l[k]? = some x) : ((midP l (k + 1) p).set k p).set (k + 1) x = midP l k p := by
  have hk := lt_of_get hx
  have hd : l.drop k = x :: l.drop (k + 1) := by rw [List.drop_eq_getElem_cons hk, get_eq hx]
  have ht : l.take (k + 1) = l.take k ++ [x] := take_get hx
  unfold midP
  rw [ht, hd]
  have hl : (l.take k).length = k := by simp; omega
  rw [List.append_assoc, List.set_append_right _ _ (by omega), hl, Nat.sub_self]
  rw [List.set_append_right _ _ (by omega), hl]
  simp
theorem midP_mem (l : List Proc) (k : Nat) (p x : Proc) : x ∈ midP l k p ↔ x ∈ l ∨ x = p := by
  unfold midP
  conv => rhs; rw [← List.take_append_drop k l]
  simp only [List.mem_append, List.mem_cons]
  constructor
  · rintro (h | h | h)
    · exact .inl (.inl h)
    · exact .inr h
    · exact .inl (.inr h)
  · rintro ((h | h) | h)
    · exact .inl h
    · exact .inr (.inr h)
    · exact .inr (.inl h)
theorem f64_ok (l : List Proc) (hl : l.length ≤ 1000000) : FnOK C0 64 [procsV l] [] (procsV (sortU l)) [] := by
  refine FnOK.intro (fn := Tryz.f64) (c := Tryz.f64.body.getD .skip) (by kernel_rfl) (by kernel_rfl) (by kernel_rfl) (by kernel_rfl) (by simp [Tryz.f64]) (by simp [names]) ?_
  unfold Tryz.f64
  simp (disch := omega) only [go_sem]
  refine loop_intro (α := Nat × List Proc) (fun x => ⟨[(4, I x.1), (3, .sl (.own 1728 0) 3 (x.2.map Proc.c)), (0, procsV l)], []⟩) (fun x => x.1 ≤ l.length ∧ x.2.length ≤ x.1 ∧ ascP x.2 ∧ ∀ p, p ∈ x.2 ↔ p ∈ l.take x.1) (fun x => l.length - x.1) (0, []) ⟨by simp, by simp, by simp [ascP], by simp⟩ ?_ ?_
  · refine Imp.weak ?_ ?_
    · simp (disch := omega) only [go_sem, List.map_nil]
    · simp (disch := omega) only [go_sem]
  rintro ⟨i, out⟩ ⟨hi, hol, hasc, hmem⟩ J hJ
  replace hi : i ≤ l.length := hi
  replace hol : out.length ≤ i := hol
  replace hasc : ascP out := hasc
  replace hmem : ∀ p, p ∈ out ↔ p ∈ l.take i := hmem
  simp (disch := omega) only [go_sem]
  refine And.intro (fun hlt => ?_) (fun hge => ?_)
  · have hlt' : i < l.length := by simp at hlt; omega
    obtain ⟨p, hp⟩ : ∃ p, l[i]? = some p := ⟨_, List.getElem?_eq_getElem hlt'⟩
    have ht := take_get hp
    simp (disch := omega) only [go_sem, List.getElem?_map, hp]
    refine call_lent [1728] (f18_ok out p (by omega)) (by simp (disch := omega) only [go_sem]) rfl trivial ?_
    cases hh : hasP out p
    rotate_left
    · have hin : p ∈ out := by simpa [hasP] using hh
      simp (disch := omega) only [go_sem]
      refine hJ _ (i + 1, out) ⟨by simp; omega, by simp; omega, hasc, fun x => ?_⟩ (by simp; omega) (Imp.weak (by simp (disch := omega) only [go_sem]) (by simp (disch := omega) only [go_sem]))
      rw [ht, List.mem_append, ← hmem x]
      simp only [List.mem_singleton]
      exact ⟨.inl, fun h => h.elim id fun e => by rw [e]; exact hin⟩
    have hnin : p ∉ out := by simpa [hasP] using hh
    have hbd : out.length + 1 ≤ 4294967296 := by omega
    simp (disch := omega) only [go_sem, List.getElem?_map, hp]
    refine loop_intro (α := Nat) (fun k => ⟨[(5, I k), (4, I i), (3, .sl (.own 1728 0) 3 ((midP out k p).map Proc.c)), (0, procsV l)], []⟩) (fun k => k ≤ out.length ∧ ∀ x ∈ out.drop k, cmpP p x < 0) (fun k => k) out.length ⟨by omega, by simp⟩ ?_ ?_
    · refine Imp.weak ?_ ?_
      · simp (disch := omega) only [go_sem]
        exact .sl (by simp [midP, Proc.c])
      · simp (disch := omega) only [go_sem]
    rintro k ⟨hk, hgt⟩ J2 hJ2
    have stop : (∀ x ∈ out.take k, cmpP x p < 0) → ∀ st', Imp ⟨C0, [], []⟩ st' ⟨[(4, I (i + 1 : Nat)), (3, .sl (.own 1728 0) 3 ((midP out k p).map Proc.c)), (0, procsV l)], []⟩ → J st' := fun hlt2 st' him => by
      refine hJ st' (i + 1, midP out k p) ⟨by simp; omega, by simp [midP_len out k p hk]; omega, ?_, fun x => ?_⟩ (by simp; omega) him
      · have h0 := hasc
        unfold ascP at h0 ⊢
        rw [← List.take_append_drop k out] at h0
        rw [List.pairwise_append] at h0
        show (midP out k p).Pairwise _
        unfold midP
        rw [List.pairwise_append]
        refine ⟨h0.1, List.pairwise_cons.2 ⟨hgt, h0.2.1⟩, fun a ha b hb => ?_⟩
        rcases List.mem_cons.1 hb with e | e
        · rw [e]; exact hlt2 a ha
        · exact h0.2.2 a ha b e
      · show x ∈ midP out k p ↔ x ∈ l.take (i + 1)
        rw [midP_mem, ht, List.mem_append, ← hmem x]
        simp
    refine draw_mk 12 [([], [5]), ([0], [28]), ([0, 1], [29]), ([0, 1, 2], [3, 30]), ([0, 1, 2], [5, 30]), ([0, 1, 2, 4], [32, 30]), ([0, 1, 2, 3, 4, 5], [31, 33, 30]), ([0, 1, 2, 3, 4, 5, 6], [34, 30]), ([0, 1, 2], [3, 30]), ([0, 1, 2], [5, 30]), ([0, 1, 2, 8, 9], [36, 37, 30]), ([0, 1, 2, 8, 9, 10], [38, 30]), ([0, 1, 2, 3, 4, 5, 6, 7, 8, 9, 10, 11], []), ([0, 1, 2, 3, 4, 5, 6, 7, 8, 9, 10, 11, 12], []), ([0, 1, 2, 3, 4, 5, 6, 7, 8, 9, 10, 11, 12, 13], [])] fol (by kernel_rfl) ?_
    cases k with
    | zero =>
      have e0 : (0 < ((0 : Nat) : Int)) = False := by simp
      simp (disch := omega) only [go_sem, e0, decide_false]
      exact stop (by simp) _ (Imp.weak (by simp (disch := omega) only [go_sem]) (by simp (disch := omega) only [go_sem]))
    | succ k =>
      have e0 : (0 < (((k + 1 : Nat)) : Int)) = True := eq_true (by omega)
      have e1 : (0 < (k : Int) + 1) = True := eq_true (by omega)
      have e2 : ((k : Int) + 1 - 1) = (k : Int) := by omega
      obtain ⟨x, hx⟩ : ∃ x, out[k]? = some x := ⟨_, List.getElem?_eq_getElem (by omega)⟩
      have g1 := midP_get out (k + 1) p hk
      have g2 := midP_prev out k p hk
      rw [hx] at g2
      have hml := midP_len out (k + 1) p hk
      have z1 : k < (midP out (k + 1) p).length := by omega
      have z2 : k + 1 < (midP out (k + 1) p).length := by omega
      simp (disch := omega) only [go_sem, e0, e1, e2, List.getElem?_map, g1, g2, List.length_map, hml]
      refine call_pure (f77_ok x p) (by simp (disch := omega) only [go_sem]) rfl ?_
      simp (disch := omega) only [go_sem]
      by_cases hc : 0 < cmpP x p
      · have e3 : (0 < cmpP x p) = True := eq_true hc
        have e4 : (k = k + 1) = False := eq_false (by omega)
        simp (disch := omega) only [go_sem, e2, e3, List.getElem?_map, g1, g2, List.length_map, hml, List.length_set, List.getElem?_set, e4]
        refine hJ2 _ k ⟨by omega, fun y hy => ?_⟩ (by omega) (Imp.weak ?_ (by simp (disch := omega) only [go_sem]))
        · rw [List.drop_eq_getElem_cons (by omega), get_eq hx] at hy
          rcases List.mem_cons.1 hy with e | e
          · subst e; have := cmpP_swap y p; omega
          · exact hgt y e
        · simp (disch := omega) only [go_sem]
          refine .sl ?_
          rw [← midP_swap hx, List.map_set, List.map_set]
          rfl
      · have e3 : (0 < cmpP x p) = False := eq_false hc
        simp (disch := omega) only [go_sem, e3, decide_false]
        refine stop (fun y hy => ?_) _ (Imp.weak (by simp (disch := omega) only [go_sem]) (by simp (disch := omega) only [go_sem]))
        have hxm : x ∈ out := List.mem_of_getElem? hx
        have hxp : cmpP x p < 0 := by
          have : cmpP x p ≠ 0 := fun e => hnin (by rw [← cmpP_eq e]; exact hxm)
          omega
        rw [take_get hx] at hy
        rcases List.mem_append.1 hy with e | e
        · have h0 := hasc
          unfold ascP at h0
          rw [← List.take_append_drop k out, List.pairwise_append] at h0
          have hd : out.drop k = x :: out.drop (k + 1) := by rw [List.drop_eq_getElem_cons (by omega), get_eq hx]
          exact cmpP_trans (h0.2.2 y e x (by rw [hd]; simp)) hxp
        · rw [List.mem_singleton.1 e]; exact hxp
  · have hil : i = l.length := by simp at hge; omega
    subst hil
    rw [List.take_length] at hmem
    have e : out = sortU l := asc_ext hasc (asc_sortU l) fun x => by rw [hmem, mem_sortU]
    refine ret_mk ⟨[], [], [1728]⟩ _ (by (try simp (disch := omega) only [go_sem, resVs, resV]) <;> rfl) ⟨rfl, rfl⟩ (by simp) ?_ trivial
    simp (disch := omega) only [go_sem, e]
theorem f169_ok (l : List Hold) (hl : l.length ≤ 1000000) : FnOK C0 169 [holdsV l] [] (procsO 0 (procsH l)) [] := by
  refine FnOK.intro (fn := Tryz.f169) (c := Tryz.f169.body.getD .skip) (by kernel_rfl) (by kernel_rfl) (by kernel_rfl) (by kernel_rfl) (by simp [Tryz.f169]) (by simp [names]) ?_
  unfold Tryz.f169
  simp (disch := omega) only [go_sem]
  refine loop_intro (α := Nat) (fun i => ⟨[(4, I i), (0, holdsV l), (3, .sl (.own 1152 0) 3 ((procsH (l.take i)).map Proc.c))], []⟩) (fun i => i ≤ (l).length ∧ True) (fun i => (l).length - i) 0 ⟨by omega, trivial⟩ ?_ ?_
  · refine Imp.weak ?_ ?_
    all_goals (try simp (disch := omega) only [go_sem])
    all_goals (try (repeat' (with_reducible apply And.intro)))
    all_goals (first | exact .nilOwn (by omega) | exact .nilNo (by omega) | exact .sl (by simp []) | exact .int (by simp []) | exact .eq (by simp []))
  rintro i ⟨hi, hP⟩ J hJ
  simp (disch := omega) only [go_sem]
  refine And.intro (fun hlt => ?_) (fun hge => ?_)
  rotate_left
  have hil : i = (l).length := by simp at hge; omega
  rotate_left
  obtain ⟨b, hb⟩ : ∃ b, (l)[i]? = some b := ⟨_, List.getElem?_eq_getElem (by simp at hlt; omega)⟩
  have hbm := List.mem_of_getElem? hb
  have hlt2 : i < (l).length := by simp at hlt; omega
  simp (disch := omega) only [go_sem, List.getElem?_map, hb]
  · have hbd : (procsH (l.take i)).length + 1 ≤ 4294967296 := by simp [procsH]; omega
    simp (disch := omega) only [go_sem, procsH]
    refine hJ _ (i + 1) ⟨by simp at hlt; omega, trivial⟩ (by simp at hlt; omega) (Imp.weak ?_ ?_)
    all_goals (try simp (disch := omega) only [go_sem])
    all_goals (try (repeat' (with_reducible apply And.intro)))
    all_goals (first | exact .nilOwn (by omega) | exact .nilNo (by omega) | exact .sl (by simp [procsH, List.take_add_one, hb, Proc.c]) | exact .int (by simp [procsH, List.take_add_one, hb, Proc.c]) | exact .eq (by simp [procsH, List.take_add_one, hb, Proc.c]))

  · subst hil
    refine ret_mk ⟨[(1152, 0)], [], []⟩ _ rfl ⟨rfl, rfl⟩ (by simp [lk]) ?_ trivial
    simp (disch := omega) only [go_sem, List.take_length]
theorem f170_ok (q : Queue) (h : q.convs.length + q.waits.length ≤ 1000000) : FnOK C0 170 [.agg q.c] [] (procsV (procsW (q.convs ++ q.waits))) [] := by
  refine FnOK.intro (fn := Tryz.f170) (c := Tryz.f170.body.getD .skip) (by kernel_rfl) (by kernel_rfl) (by kernel_rfl) (by kernel_rfl) (by simp [Tryz.f170]) (by simp [names]) ?_
  unfold Tryz.f170
  simp (disch := omega) only [go_sem]
  refine loop_intro (α := Nat) (fun i => ⟨[(4, I i), (1, .ptr 64 0), (3, .sl (.own 1344 0) 3 ((procsW (q.convs.take i)).map Proc.c))], [(64, q.c)]⟩) (fun i => i ≤ (q.convs).length ∧ True) (fun i => (q.convs).length - i) 0 ⟨by omega, trivial⟩ ?_ ?_
  · refine Imp.weak ?_ ?_
    all_goals (try simp (disch := omega) only [go_sem])
    all_goals (try (repeat' (with_reducible apply And.intro)))
    all_goals (first | exact .nilOwn (by omega) | exact .nilNo (by omega) | exact .sl (by simp []) | exact .int (by simp []) | exact .eq (by simp []))
  rintro i ⟨hi, hP⟩ J hJ
  simp (disch := omega) only [go_sem]
  refine And.intro (fun hlt => ?_) (fun hge => ?_)
  rotate_left
  have hil : i = (q.convs).length := by simp at hge; omega
  rotate_left
  obtain ⟨b, hb⟩ : ∃ b, (q.convs)[i]? = some b := ⟨_, List.getElem?_eq_getElem (by simp at hlt; omega)⟩
  have hbm := List.mem_of_getElem? hb
  have hlt2 : i < (q.convs).length := by simp at hlt; omega
  simp (disch := omega) only [go_sem, List.getElem?_map, hb]
  · have hbd : (procsW (q.convs.take i)).length + 1 ≤ 4294967296 := by simp [procsW]; omega
    simp (disch := omega) only [go_sem, procsW]
    refine hJ _ (i + 1) ⟨by simp at hlt; omega, trivial⟩ (by simp at hlt; omega) (Imp.weak ?_ ?_)
    all_goals (try simp (disch := omega) only [go_sem])
    all_goals (try (repeat' (with_reducible apply And.intro)))
    all_goals (first | exact .nilOwn (by omega) | exact .nilNo (by omega) | exact .sl (by simp [procsW, List.take_add_one, hb, Proc.c]) | exact .int (by simp [procsW, List.take_add_one, hb, Proc.c]) | exact .eq (by simp [procsW, List.take_add_one, hb, Proc.c]))

  subst hil
  rw [List.take_length]
  clear hJ
  refine loop_intro (α := Nat) (fun i => ⟨[(5, I i), (1, .ptr 64 0), (3, .sl (.own 2368 0) 3 ((procsW (q.convs ++ q.waits.take i)).map Proc.c))], [(64, q.c)]⟩) (fun i => i ≤ (q.waits).length ∧ True) (fun i => (q.waits).length - i) 0 ⟨by omega, trivial⟩ ?_ ?_
  · refine Imp.ren ⟨[(1344, 2368)], [(64, 64)], []⟩ ⟨rfl, rfl⟩ (by simp [lk]) ?_ ?_
    all_goals (try simp (disch := omega) only [go_sem])
    all_goals (try (repeat' (with_reducible apply And.intro)))
    all_goals (first | exact .nilOwn (by omega) | exact .nilNo (by omega) | exact .sl (by simp []) | exact .int (by simp []) | exact .eq (by simp []))
  rintro i ⟨hi, hP⟩ J hJ
  simp (disch := omega) only [go_sem]
  refine And.intro (fun hlt => ?_) (fun hge => ?_)
  rotate_left
  have hil : i = (q.waits).length := by simp at hge; omega
  rotate_left
  obtain ⟨b, hb⟩ : ∃ b, (q.waits)[i]? = some b := ⟨_, List.getElem?_eq_getElem (by simp at hlt; omega)⟩
  have hbm := List.mem_of_getElem? hb
  have hlt2 : i < (q.waits).length := by simp at hlt; omega
  simp (disch := omega) only [go_sem, List.getElem?_map, hb]
  · have hbd : (procsW (q.convs ++ q.waits.take i)).length + 1 ≤ 4294967296 := by simp [procsW]; omega
    simp (disch := omega) only [go_sem, procsW]
    refine hJ _ (i + 1) ⟨by simp at hlt; omega, trivial⟩ (by simp at hlt; omega) (Imp.weak ?_ ?_)
    all_goals (try simp (disch := omega) only [go_sem])
    all_goals (try (repeat' (with_reducible apply And.intro)))
    all_goals (first | exact .nilOwn (by omega) | exact .nilNo (by omega) | exact .sl (by simp [procsW, List.take_add_one, hb, Proc.c]) | exact .int (by simp [procsW, List.take_add_one, hb, Proc.c]) | exact .eq (by simp [procsW, List.take_add_one, hb, Proc.c]))

  · subst hil
    refine ret_mk ⟨[], [], [2368]⟩ _ (by (try simp (disch := omega) only [go_sem, resVs, resV]) <;> rfl) ⟨rfl, rfl⟩ (by simp) ?_ trivial
    simp (disch := omega) only [go_sem, List.take_length]
theorem f104_ok (q : Queue) (h : allQ q ≤ 1000000) : FnOK C0 104 [.agg q.c] [] (procsV (procsQ q)) [] := by
  have h1 : q.holds.length ≤ 1000000 := by unfold allQ at h; omega
  have h2 : q.convs.length + q.waits.length ≤ 1000000 := by unfold allQ sizeQ at h; omega
  have h3 : (procsH q.holds).length + (procsW (q.convs ++ q.waits)).length ≤ 1000000 := by simp [procsH, procsW]; unfold allQ sizeQ at h; omega
  have h4 : (procsH q.holds).length + (procsW (q.convs ++ q.waits)).length ≤ 4294967296 := by omega
  refine FnOK.intro (fn := Tryz.f104) (c := Tryz.f104.body.getD .skip) (by kernel_rfl) (by kernel_rfl) (by kernel_rfl) (by kernel_rfl) (by simp [Tryz.f104]) (by simp [names]) ?_
  unfold Tryz.f104
  simp (disch := omega) only [go_sem]
  refine draw_mk 4 [([], [1]), ([0], [3]), ([0, 1], [4]), ([], [1]), ([0, 1, 2, 3], []), ([0, 1, 2, 3, 4], []), ([0, 1, 2, 3, 4, 5], []), ([0, 1, 2, 3, 4, 5, 6], [])] fol (by kernel_rfl) ?_
  simp (disch := omega) only [go_sem]
  refine freeCall_mk ⟨⟨[], [], []⟩, [(0, 320)], []⟩ (f169_ok q.holds h1) (by simp (disch := omega) only [go_sem]) rfl rfl trivial (.inl rfl) ?_
  simp (disch := omega) only [go_sem]
  first | ((with_reducible show callB _ _ _ _ _ _); refine call_pure (f170_ok q h2) (by simp (disch := omega) only [go_sem]) rfl ?_) | ((with_reducible show freeCallB _ _ _ _ _ _ _ _ _ _); refine freeCall_mk ⟨⟨[], [], []⟩, [], []⟩ (f170_ok q h2) (by simp (disch := omega) only [go_sem]) rfl rfl trivial (.inl rfl) ?_)
  simp (disch := omega) only [go_sem]
  refine call_frz [512] (f64_ok (procsH q.holds ++ procsW (q.convs ++ q.waits)) (by simpa using h3)) (by simp (disch := omega) only [go_sem]; exact .sl (by simp)) rfl ?_
  simp (disch := omega) only [go_sem]
  refine ret_mk ⟨[], [], []⟩ _ (by (try simp (disch := omega) only [go_sem, resVs, resV]) <;> rfl) ⟨rfl, rfl⟩ (by simp) ?_ trivial
  simp (disch := omega) only [go_sem, procsQ]
theorem f120_ok (q : Queue) (p : Proc) (h : q.holds.length ≤ 1000000) : FnOK C0 120 [.agg q.c, .agg p.c] [] (.agg (getH q.holds p).c) [] := by
  refine FnOK.intro (fn := Tryz.f120) (c := Tryz.f120.body.getD .skip) (by kernel_rfl) (by kernel_rfl) (by kernel_rfl) (by kernel_rfl) (by simp [Tryz.f120]) (by simp [names]) ?_
  unfold Tryz.f120
  simp (disch := omega) only [go_sem]
  refine call_pure (f188_ok q.holds p h) (by simp (disch := omega) only [go_sem]) rfl ?_
  simp (disch := omega) only [go_sem]
  refine ret_mk ⟨[], [], []⟩ _ (by (try simp (disch := omega) only [go_sem, resVs, resV]) <;> rfl) ⟨rfl, rfl⟩ (by simp) ?_ trivial
  simp (disch := omega) only [go_sem]
theorem findW_wanted {l : List Wait} {p : Proc} : (findW l p < 0 ∧ l.find? (fun w => decide (w.proc = p)) = none) ∨ ∃ (i : Nat) (w : Wait), findW l p = i ∧ l[i]? = some w ∧ l.find? (fun w => decide (w.proc = p)) = some w := by
  unfold findW
  cases h : l.findIdx? (fun w => decide (w.proc = p)) with
  | none =>
    left
    refine ⟨by simp, ?_⟩
    rw [List.findIdx?_eq_none_iff] at h
    rw [List.find?_eq_none]
    intro x hx
    simpa using h x hx
  | some i =>
    right
    obtain ⟨h1, h2, h3⟩ := (List.findIdx?_eq_some_iff_getElem.1 h)
    refine ⟨i, l[i], rfl, List.getElem?_eq_getElem h1, ?_⟩
    rw [List.find?_eq_some_iff_getElem]
    exact ⟨h2, i, h1, rfl, fun j hj => by simpa using h3 j hj⟩
theorem f118_ok (q : Queue) (p : Proc) (h1 : q.convs.length ≤ 1000000) (h2 : q.waits.length ≤ 1000000) : FnOK C0 118 [.agg q.c, .agg p.c] [] (.tup [.agg ((wantQ q p).getD ⟨0, 0⟩).c, B (wantQ q p).isSome]) [] := by
  refine FnOK.intro (fn := Tryz.f118) (c := Tryz.f118.body.getD .skip) (by kernel_rfl) (by kernel_rfl) (by kernel_rfl) (by kernel_rfl) (by simp [Tryz.f118]) (by simp [names]) ?_
  unfold Tryz.f118
  simp (disch := omega) only [go_sem]
  refine call_pure (f187_ok q.convs p h1) (by simp (disch := omega) only [go_sem]) rfl ?_
  rcases findW_wanted (l := q.convs) (p := p) with ⟨a, b⟩ | ⟨i, w, a, b, c⟩
  · have e1 : (0 ≤ findW q.convs p) = False := eq_false (by omega)
    simp (disch := omega) only [go_sem, e1, decide_false]
    refine call_pure (f187_ok q.waits p h2) (by simp (disch := omega) only [go_sem]) rfl ?_
    rcases findW_wanted (l := q.waits) (p := p) with ⟨a', b'⟩ | ⟨i, w, a', b', c'⟩
    · have e2 : (0 ≤ findW q.waits p) = False := eq_false (by omega)
      have e : wantQ q p = none := by simp [wantQ, List.find?_append, b, b']
      simp (disch := omega) only [go_sem, e2, e, Option.isSome_none, decide_false]
      refine ret_mk ⟨[], [], []⟩ _ (by (try simp (disch := omega) only [go_sem, resVs, resV]) <;> rfl) ⟨rfl, rfl⟩ (by simp) ?_ trivial
      simp (disch := omega) only [go_sem]
    · have e : wantQ q p = some w.amt := by simp [wantQ, List.find?_append, b, c']
      simp (disch := omega) only [go_sem, a', e, Option.isSome_some, List.getElem?_map, b']
      refine ret_mk ⟨[], [], []⟩ _ (by (try simp (disch := omega) only [go_sem, resVs, resV]) <;> rfl) ⟨rfl, rfl⟩ (by simp) ?_ trivial
      simp (disch := omega) only [go_sem]
  · have e : wantQ q p = some w.amt := by simp [wantQ, List.find?_append, c]
    simp (disch := omega) only [go_sem, a, e, Option.isSome_some, List.getElem?_map, b]
    refine ret_mk ⟨[], [], []⟩ _ (by (try simp (disch := omega) only [go_sem, resVs, resV]) <;> rfl) ⟨rfl, rfl⟩ (by simp) ?_ trivial
    simp (disch := omega) only [go_sem]
def hasQ (q : Queue) (p : Proc) : Bool := (wantQ q p).isSome || !(getH q.holds p).zero
theorem f78_ok (q : Queue) (p : Proc) (h : allQ q ≤ 1000000) : FnOK C0 78 [.agg q.c, .agg p.c] [] (B (hasQ q p)) [] := by
  have h1 : q.holds.length ≤ 1000000 := by unfold allQ at h; omega
  have h2 : q.convs.length ≤ 1000000 := by unfold allQ sizeQ at h; omega
  have h3 : q.waits.length ≤ 1000000 := by unfold allQ sizeQ at h; omega
  refine FnOK.intro (fn := Tryz.f78) (c := Tryz.f78.body.getD .skip) (by kernel_rfl) (by kernel_rfl) (by kernel_rfl) (by kernel_rfl) (by simp [Tryz.f78]) (by simp [names]) ?_
  unfold Tryz.f78
  simp (disch := omega) only [go_sem]
  refine call_pure (f118_ok q p h2 h3) (by simp (disch := omega) only [go_sem]) rfl ?_
  cases hw : (wantQ q p).isSome
  · simp (disch := omega) only [go_sem, hw]
    refine call_pure (f120_ok q p h1) (by simp (disch := omega) only [go_sem]) rfl ?_
    simp (disch := omega) only [go_sem]
    refine call_pure (f119_ok (getH q.holds p)) (by simp (disch := omega) only [go_sem]) rfl ?_
    simp (disch := omega) only [go_sem]
    refine ret_mk ⟨[], [], []⟩ _ (by (try simp (disch := omega) only [go_sem, resVs, resV]) <;> rfl) ⟨rfl, rfl⟩ (by simp) ?_ trivial
    simp (disch := omega) only [go_sem]
    exact wb (by simp [hasQ, hw])
  · simp (disch := omega) only [go_sem, hw]
    refine ret_mk ⟨[], [], []⟩ _ (by (try simp (disch := omega) only [go_sem, resVs, resV]) <;> rfl) ⟨rfl, rfl⟩ (by simp) ?_ trivial
    simp (disch := omega) only [go_sem]
    exact wb (by simp [hasQ, hw])
theorem f121_ok (q : Queue) (h1 : q.holds.length ≤ 1000000) (h2 : q.convs.length ≤ 1000000) (h3 : q.waits.length ≤ 1000000) : FnOK C0 121 [.agg q.c] [] (.agg q.c) [] := by
  refine FnOK.intro (fn := Tryz.f121) (c := Tryz.f121.body.getD .skip) (by kernel_rfl) (by kernel_rfl) (by kernel_rfl) (by kernel_rfl) (by simp [Tryz.f121]) (by simp [names]) ?_
  unfold Tryz.f121
  simp (disch := omega) only [go_sem]
  refine ret_mk ⟨[], [], [384, 704, 1024]⟩ _ (by (try simp (disch := omega) only [go_sem, resVs, resV]) <;> rfl) ⟨rfl, rfl⟩ (by simp) ?_ trivial
  simp (disch := omega) only [go_sem, holdsV]
end Go.Rd
