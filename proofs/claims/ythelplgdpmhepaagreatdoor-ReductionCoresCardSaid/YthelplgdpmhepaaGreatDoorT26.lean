/- part 26 of the proof -/
import Derived.Test.YthelplgdpmhepaaGreatDoorT11
import Derived.Test.YthelplgdpmhepaaGreatDoorT14
import Derived.Test.YthelplgdpmhepaaGreatDoorT25
set_option linter.all false
open Go Go.Abs Go.Proofs
set_option maxRecDepth 100000
namespace Go.Rd
theorem cross_small : Few crossS ∧ Few crossT := ⟨small_few (by kernel_rfl), small_few (by kernel_rfl)⟩
theorem cross_red : ReduceS crossS = ([], [procK 0, procK 1]) := by kernel_rfl
theorem cross_core : CoreS crossS (procK 0) = ([procK 0, procK 1], 0) := by kernel_rfl
theorem cross_redT : ReduceS crossT = ([procK 1, procK 0], []) := by kernel_rfl
theorem cross_freeT : FreeS crossT = [procK 1] := by kernel_rfl
theorem cross_dead : DeadS crossS (procK 1) = true := by kernel_rfl
theorem f13_ok : FnOK C0 13 [] [] (B true) [] := by
  obtain ⟨hs, ht⟩ := cross_small
  refine FnOK.intro (fn := Tryz.f13) (c := Tryz.f13.body.getD .skip) (by kernel_rfl) (by kernel_rfl) (by kernel_rfl) (by kernel_rfl) (by simp [Tryz.f13]) (by simp [names]) ?_
  unfold Tryz.f13
  simp (disch := omega) only [go_sem]
  refine call_pure f40_ok (by simp (disch := omega) only [go_sem]) rfl ?_
  simp (disch := omega) only [go_sem]
  refine call_pure (f14_ok crossS hs) (by simp (disch := omega) only [go_sem]) rfl ?_
  simp (disch := omega) only [go_sem, cross_red]
  refine draw_mk 7 [([], [1]), ([], []), ([0, 1], [15, 16]), ([0, 1, 2], [17]), ([0, 1, 2, 3], [14]), ([0, 1, 2, 3], [14]), ([0, 1, 2, 3, 4], [18]), ([0, 1, 2, 3, 4, 5, 6], [])] fol (by kernel_rfl) ?_
  simp (disch := omega) only [go_sem]
  first | ((with_reducible show callB _ _ _ _ _ _); refine call_pure (f24_ok 0) (by simp (disch := omega) only [go_sem]) rfl ?_) | ((with_reducible show freeCallB _ _ _ _ _ _ _ _ _ _); refine freeCall_mk ⟨⟨[], [], []⟩, [], []⟩ (f24_ok 0) (by simp (disch := omega) only [go_sem]) rfl rfl trivial (.inl rfl) ?_)
  simp (disch := omega) only [go_sem]
  first | ((with_reducible show callB _ _ _ _ _ _); refine call_pure (f19_ok crossS (procK 0) hs) (by simp (disch := omega) only [go_sem]) rfl ?_) | ((with_reducible show freeCallB _ _ _ _ _ _ _ _ _ _); refine freeCall_mk ⟨⟨[], [], []⟩, [], []⟩ (f19_ok crossS (procK 0) hs) (by simp (disch := omega) only [go_sem]) rfl rfl trivial (.inl rfl) ?_)
  simp (disch := omega) only [go_sem, cross_core]
  have hn : crossS.needs = [needN (procK 0) [98], needN (procK 1) [97]] := rfl
  have hnt : crossT.needs = [needN (procK 0) [98]] := rfl
  have hq : crossT.queues = crossS.queues := rfl
  simp (disch := omega) only [go_sem, hn, needsV, List.map_cons, List.map_nil]
  refine call_pure (f14_ok crossT ht) (by simp (disch := omega) only [go_sem, hnt, hq, needsV, List.map_cons, List.map_nil]) rfl ?_
  simp (disch := omega) only [go_sem, cross_redT]
  refine draw_mk 27 [([], [2]), ([0], [29]), ([0, 1], [30]), ([0, 1, 2], [31]), ([0, 1, 2, 3], [3, 32]), ([0, 1, 2, 3, 4], [33, 32]), ([0, 1, 2, 3, 4, 5], [34, 32]), ([0, 1, 2, 3, 4, 5, 6], [32, 35]), ([0, 1, 2, 3, 4, 5, 6, 7], [36]), ([0, 1, 2, 3, 4, 5, 6, 7, 8], [5, 37]), ([0, 1, 2, 3, 4, 5, 6, 7, 8, 9], [38, 37]), ([0, 1, 2, 3, 4, 5, 6, 7, 8, 9, 10], [37, 39]), ([0, 1, 2, 3, 4, 5, 6, 7, 8, 9, 10, 11], [40]), ([0, 1, 2, 3, 4, 5, 6, 7, 8, 9, 10, 11, 12], [4, 41]), ([0, 1, 2, 3, 4, 5, 6, 7, 8, 9, 10, 11, 12, 13], [42, 41]), ([0, 1, 2, 3, 4, 5, 6, 7, 8, 9, 10, 11, 12, 13, 14], [43, 41]), ([0, 1, 2, 3, 4, 5, 6, 7, 8, 9, 10, 11, 12, 13, 14, 15], [41, 44]), ([0, 1, 2, 3, 4, 5, 6, 7, 8, 9, 10, 11, 12, 13, 14, 15, 16], [45]), ([0, 1, 2, 3, 4, 5, 6, 7, 8, 9, 10, 11, 12, 13, 14, 15, 16, 17], [6, 46]), ([0, 1, 2, 3, 4, 5, 6, 7, 8, 9, 10, 11, 12, 13, 14, 15, 16, 17, 18], [47, 46]), ([0, 1, 2, 3, 4, 5, 6, 7, 8, 9, 10, 11, 12, 13, 14, 15, 16, 17, 18, 19], [48, 46]), ([0, 1, 2, 3, 4, 5, 6, 7, 8, 9, 10, 11, 12, 13, 14, 15, 16, 17, 18, 19, 20], [46, 49]), ([0, 1, 2, 3, 4, 5, 6, 7, 8, 9, 10, 11, 12, 13, 14, 15, 16, 17, 18, 19, 20, 21], [50]), ([0, 1, 2, 3, 4, 5, 6, 7, 8, 9, 10, 11, 12, 13, 14, 15, 16, 17, 18, 19, 20, 21, 22], [6, 51]), ([0, 1, 2, 3, 4, 5, 6, 7, 8, 9, 10, 11, 12, 13, 14, 15, 16, 17, 18, 19, 20, 21, 22, 23], [52, 51]), ([0, 1, 2, 3, 4, 5, 6, 7, 8, 9, 10, 11, 12, 13, 14, 15, 16, 17, 18, 19, 20, 21, 22, 23, 24], [53, 51]), ([0, 1, 2, 3, 4, 5, 6, 7, 8, 9, 10, 11, 12, 13, 14, 15, 16, 17, 18, 19, 20, 21, 22], [51]), ([0, 1, 2, 3, 4, 5, 6, 7, 8, 9, 10, 11, 12, 13, 14, 15, 16, 17, 18, 19, 20, 21, 22, 23, 24, 25, 26], []), ([0, 1, 2, 3, 4, 5, 6, 7, 8, 9, 10, 11, 12, 13, 14, 15, 16, 17, 18, 19, 20, 21, 22, 23, 24, 25, 26, 27], []), ([0, 1, 2, 3, 4, 5, 6, 7, 8, 9, 10, 11, 12, 13, 14, 15, 16, 17, 18, 19, 20, 21, 22, 23, 24, 25, 26, 27, 28], []), ([0, 1, 2, 3, 4, 5, 6, 7, 8, 9, 10, 11, 12, 13, 14, 15, 16, 17, 18, 19, 20, 21, 22, 23, 24, 25, 26, 27, 28, 29], []), ([0, 1, 2, 3, 4, 5, 6, 7, 8, 9, 10, 11, 12, 13, 14, 15, 16, 17, 18, 19, 20, 21, 22, 23, 24, 25, 26, 27, 28, 29, 30], []), ([0, 1, 2, 3, 4, 5, 6, 7, 8, 9, 10, 11, 12, 13, 14, 15, 16, 17, 18, 19, 20, 21, 22, 23, 24, 25, 26, 27, 28, 29, 30, 31], []), ([0, 1, 2, 3, 4, 5, 6, 7, 8, 9, 10, 11, 12, 13, 14, 15, 16, 17, 18, 19, 20, 21, 22, 23, 24, 25, 26, 27, 28, 29, 30, 31, 32], []), ([0, 1, 2, 3, 4, 5, 6, 7, 8, 9, 10, 11, 12, 13, 14, 15, 16, 17, 18, 19, 20, 21, 22, 23, 24, 25, 26, 27, 28, 29, 30, 31, 32, 33], []), ([0, 1, 2, 3, 4, 5, 6, 7, 8, 9, 10, 11, 12, 13, 14, 15, 16, 17, 18, 19, 20, 21, 22, 23, 24, 25, 26, 27, 28, 29, 30, 31, 32, 33, 34], []), ([0, 1, 2, 3, 4, 5, 6, 7, 8, 9, 10, 11, 12, 13, 14, 15, 16, 17, 18, 19, 20, 21, 22, 23, 24, 25, 26, 27, 28, 29, 30, 31, 32, 33, 34, 35], []), ([0, 1, 2, 3, 4, 5, 6, 7, 8, 9, 10, 11, 12, 13, 14, 15, 16, 17, 18, 19, 20, 21, 22, 23, 24, 25, 26, 27, 28, 29, 30, 31, 32, 33, 34, 35, 36], []), ([0, 1, 2, 3, 4, 5, 6, 7, 8, 9, 10, 11, 12, 13, 14, 15, 16, 17, 18, 19, 20, 21, 22, 23, 24, 25, 26, 27, 28, 29, 30, 31, 32, 33, 34, 35, 36, 37], []), ([0, 1, 2, 3, 4, 5, 6, 7, 8, 9, 10, 11, 12, 13, 14, 15, 16, 17, 18, 19, 20, 21, 22, 23, 24, 25, 26, 27, 28, 29, 30, 31, 32, 33, 34, 35, 36, 37, 38], []), ([0, 1, 2, 3, 4, 5, 6, 7, 8, 9, 10, 11, 12, 13, 14, 15, 16, 17, 18, 19, 20, 21, 22, 23, 24, 25, 26, 27, 28, 29, 30, 31, 32, 33, 34, 35, 36, 37, 38, 39], []), ([0, 1, 2, 3, 4, 5, 6, 7, 8, 9, 10, 11, 12, 13, 14, 15, 16, 17, 18, 19, 20, 21, 22, 23, 24, 25, 26, 27, 28, 29, 30, 31, 32, 33, 34, 35, 36, 37, 38, 39, 40], []), ([0, 1, 2, 3, 4, 5, 6, 7, 8, 9, 10, 11, 12, 13, 14, 15, 16, 17, 18, 19, 20, 21, 22, 23, 24, 25, 26, 27, 28, 29, 30, 31, 32, 33, 34, 35, 36, 37, 38, 39, 40, 41], []), ([0, 1, 2, 3, 4, 5, 6, 7, 8, 9, 10, 11, 12, 13, 14, 15, 16, 17, 18, 19, 20, 21, 22, 23, 24, 25, 26, 27, 28, 29, 30, 31, 32, 33, 34, 35, 36, 37, 38, 39, 40, 41, 42], []), ([0, 1, 2, 3, 4, 5, 6, 7, 8, 9, 10, 11, 12, 13, 14, 15, 16, 17, 18, 19, 20, 21, 22, 23, 24, 25, 26, 27, 28, 29, 30, 31, 32, 33, 34, 35, 36, 37, 38, 39, 40, 41, 42, 43], []), ([0, 1, 2, 3, 4, 5, 6, 7, 8, 9, 10, 11, 12, 13, 14, 15, 16, 17, 18, 19, 20, 21, 22, 23, 24, 25, 26, 27, 28, 29, 30, 31, 32, 33, 34, 35, 36, 37, 38, 39, 40, 41, 42, 43, 44], [])] fol (by kernel_rfl) ?_
  simp (disch := omega) only [go_sem]
  first | ((with_reducible show callB _ _ _ _ _ _); refine call_pure (f24_ok 1) (by simp (disch := omega) only [go_sem]) rfl ?_) | ((with_reducible show freeCallB _ _ _ _ _ _ _ _ _ _); refine freeCall_mk ⟨⟨[], [], []⟩, [], []⟩ (f24_ok 1) (by simp (disch := omega) only [go_sem]) rfl rfl trivial (.inl rfl) ?_)
  simp (disch := omega) only [go_sem, beq_self_eq_true, Bool.and_self]
  first
    | ((with_reducible show callB _ _ _ _ _ _); refine call_pure (f36_ok crossT ht) (by simp (disch := omega) only [go_sem, hnt, hq, needsV, List.map_cons, List.map_nil]) rfl ?_)
    | ((with_reducible show freeCallB _ _ _ _ _ _ _ _ _ _); refine freeCall_mk ⟨⟨[], [], []⟩, [], []⟩ (f36_ok crossT ht) (by simp (disch := omega) only [go_sem, hnt, hq, needsV, List.map_cons, List.map_nil]) rfl rfl trivial (.inl rfl) ?_)
  simp (disch := omega) only [go_sem, cross_freeT, List.map_cons, List.map_nil]
  first | ((with_reducible show callB _ _ _ _ _ _); refine call_pure f40_ok (by simp (disch := omega) only [go_sem]) rfl ?_) | ((with_reducible show freeCallB _ _ _ _ _ _ _ _ _ _); refine freeCall_mk ⟨⟨[], [], []⟩, [], []⟩ f40_ok (by simp (disch := omega) only [go_sem]) rfl rfl trivial (.inl rfl) ?_)
  simp (disch := omega) only [go_sem]
  first | ((with_reducible show callB _ _ _ _ _ _); refine call_pure (f24_ok 1) (by simp (disch := omega) only [go_sem]) rfl ?_) | ((with_reducible show freeCallB _ _ _ _ _ _ _ _ _ _); refine freeCall_mk ⟨⟨[], [], []⟩, [], []⟩ (f24_ok 1) (by simp (disch := omega) only [go_sem]) rfl rfl trivial (.inl rfl) ?_)
  simp (disch := omega) only [go_sem]
  first | ((with_reducible show callB _ _ _ _ _ _); refine call_pure (f17_ok crossS (procK 1) hs) (by simp (disch := omega) only [go_sem]) rfl ?_) | ((with_reducible show freeCallB _ _ _ _ _ _ _ _ _ _); refine freeCall_mk ⟨⟨[], [], []⟩, [], []⟩ (f17_ok crossS (procK 1) hs) (by simp (disch := omega) only [go_sem]) rfl rfl trivial (.inl rfl) ?_)
  simp (disch := omega) only [go_sem, cross_dead]
  refine ret_mk ⟨[], [], []⟩ _ (by (try simp (disch := omega) only [go_sem, resVs, resV]) <;> rfl) ⟨rfl, rfl⟩ (by simp) ?_ trivial
  simp (disch := omega) only [go_sem]
theorem f3_ok (s : WS) (p : Proc) : FnOK C0 3 [.agg s.c, .agg p.c] [] (B true) [] := by
  refine FnOK.intro (fn := Tryz.f3) (c := Tryz.f3.body.getD .skip) (by kernel_rfl) (by kernel_rfl) (by kernel_rfl) (by kernel_rfl) (by simp [Tryz.f3]) (by simp [names]) ?_
  unfold Tryz.f3
  simp (disch := omega) only [go_sem]
  refine call_pure (f12_ok s) (by simp (disch := omega) only [go_sem]) rfl ?_
  cases hs : smallS s
  · simp (disch := omega) only [go_sem]
    refine call_pure f13_ok (by simp (disch := omega) only [go_sem]) rfl ?_
    simp (disch := omega) only [go_sem]
    refine ret_mk ⟨[], [], []⟩ _ (by (try simp (disch := omega) only [go_sem, resVs, resV]) <;> rfl) ⟨rfl, rfl⟩ (by simp) ?_ trivial
    simp (disch := omega) only [go_sem]
  have h := small_few hs
  have hl := Reduce_len h
  have hl1 : (ReduceS s).1.length ≤ 20000 := by
    unfold ReduceS
    split
    · rename_i hv
      have key : ∀ (n : Nat) (s : WS), (redN n s).1.length ≤ n := by
        intro n
        induction n with
        | zero => intro s; simp [redN]
        | succ n ih =>
          intro s
          simp only [redN]
          split
          · simp
          · rename_i p l _
            have := ih (remS s p)
            simp only [List.length_cons]
            omega
      exact Nat.le_trans (key _ s) (procsS_len h)
    · simp
  simp (disch := omega) only [go_sem]
  refine call_pure (f14_ok s h) (by simp (disch := omega) only [go_sem]) rfl ?_
  simp (disch := omega) only [go_sem]
  refine call_pure (f15_ok s h) (by simp (disch := omega) only [go_sem]) rfl ?_
  simp (disch := omega) only [go_sem]
  refine draw_mk 17 [([], []), ([0], [23]), ([0, 1], [5, 24]), ([0, 1], [7, 24]), ([0, 1, 2, 3], [25, 26, 24]), ([0, 1, 2, 3, 4], [24, 27]), ([0, 1, 2, 3, 4, 5], [28]), ([0, 1, 2, 3, 4, 5, 6], [6, 29]), ([0, 1, 2, 3, 4, 5, 6], [8, 29]), ([0, 1, 2, 3, 4, 5, 6, 7, 8], [30, 31, 29]), ([0, 1, 2, 3, 4, 5, 6, 7, 8, 9], [29, 32]), ([0, 1, 2, 3, 4, 5, 6, 7, 8, 9, 10], [33]), ([0, 1, 2, 3, 4, 5, 6, 7, 8, 9, 10, 11], [2, 34]), ([0, 1, 2, 3, 4, 5, 6, 7, 8, 9, 10, 11], [3, 34]), ([0, 1, 2, 3, 4, 5, 6, 7, 8, 9, 10, 11, 12, 13], [35, 36, 34]), ([0, 1, 2, 3, 4, 5, 6, 7, 8, 9, 10, 11], [8, 34]), ([0, 1, 2, 3, 4, 5, 6, 7, 8, 9, 10, 11], [3, 34]), ([0, 1, 2, 3, 4, 5, 6, 7, 8, 9, 10, 11, 12, 13, 14, 15, 16], []), ([0, 1, 2, 3, 4, 5, 6, 7, 8, 9, 10, 11, 12, 13, 14, 15, 16, 17], []), ([0, 1, 2, 3, 4, 5, 6, 7, 8, 9, 10, 11, 12, 13, 14, 15, 16, 17, 18], []), ([0, 1, 2, 3, 4, 5, 6, 7, 8, 9, 10, 11, 12, 13, 14, 15, 16, 17, 18, 19], [])] fol (by kernel_rfl) ?_
  simp (disch := omega) only [go_sem]
  first | ((with_reducible show callB _ _ _ _ _ _); refine call_pure f13_ok (by simp (disch := omega) only [go_sem]) rfl ?_) | ((with_reducible show freeCallB _ _ _ _ _ _ _ _ _ _); refine freeCall_mk ⟨⟨[], [], []⟩, [], []⟩ f13_ok (by simp (disch := omega) only [go_sem]) rfl rfl trivial (.inl rfl) ?_)
  simp (disch := omega) only [go_sem]
  first | ((with_reducible show callB _ _ _ _ _ _); refine call_pure (f16_ok (ReduceS s).1 (ReduceS s).1 (by omega) (by omega)) (by simp (disch := omega) only [go_sem]) rfl ?_) | ((with_reducible show freeCallB _ _ _ _ _ _ _ _ _ _); refine freeCall_mk ⟨⟨[], [], []⟩, [], []⟩ (f16_ok (ReduceS s).1 (ReduceS s).1 (by omega) (by omega)) (by simp (disch := omega) only [go_sem]) rfl rfl trivial (.inl rfl) ?_)
  simp (disch := omega) only [go_sem, decide_true]
  first | ((with_reducible show callB _ _ _ _ _ _); refine call_pure (f16_ok (ReduceS s).2 (ReduceS s).2 (by omega) (by omega)) (by simp (disch := omega) only [go_sem]) rfl ?_) | ((with_reducible show freeCallB _ _ _ _ _ _ _ _ _ _); refine freeCall_mk ⟨⟨[], [], []⟩, [], []⟩ (f16_ok (ReduceS s).2 (ReduceS s).2 (by omega) (by omega)) (by simp (disch := omega) only [go_sem]) rfl rfl trivial (.inl rfl) ?_)
  simp (disch := omega) only [go_sem, decide_true]
  first | ((with_reducible show callB _ _ _ _ _ _); refine call_pure (f17_ok s p h) (by simp (disch := omega) only [go_sem]) rfl ?_) | ((with_reducible show freeCallB _ _ _ _ _ _ _ _ _ _); refine freeCall_mk ⟨⟨[], [], []⟩, [], []⟩ (f17_ok s p h) (by simp (disch := omega) only [go_sem]) rfl rfl trivial (.inl rfl) ?_)
  simp (disch := omega) only [go_sem]
  first | ((with_reducible show callB _ _ _ _ _ _); refine call_pure (f18_ok (ReduceS s).2 p (by omega)) (by simp (disch := omega) only [go_sem]) rfl ?_) | ((with_reducible show freeCallB _ _ _ _ _ _ _ _ _ _); refine freeCall_mk ⟨⟨[], [], []⟩, [], []⟩ (f18_ok (ReduceS s).2 p (by omega)) (by simp (disch := omega) only [go_sem]) rfl rfl trivial (.inl rfl) ?_)
  simp (disch := omega) only [go_sem, DeadS, beq_self_eq_true]
  refine ret_mk ⟨[], [], []⟩ _ (by (try simp (disch := omega) only [go_sem, resVs, resV]) <;> rfl) ⟨rfl, rfl⟩ (by simp) ?_ trivial
  simp (disch := omega) only [go_sem]
theorem core_len {s : WS} (h : Few s) (p : Proc) : (CoreS s p).1.length ≤ 20000 := by
  unfold CoreS
  split
  · rename_i hv
    have hg := validS_good hv
    split
    · have key : ∀ (l set : List Proc), set.length ≤ 20000 → (l.foldl (coreStep s p) set).length ≤ 20000 := by
        intro l
        induction l with
        | nil => intro set h; exact h
        | cons q l ih =>
          intro set hset
          rw [List.foldl_cons]
          refine ih _ ?_
          unfold coreStep
          split
          · exact hset
          · split
            · exact red_len (few_res h _) (good_res hg _)
            · exact hset
      exact key _ _ (red_len h hg)
    · simp
  · simp
theorem f4_ok (s : WS) (p : Proc) : FnOK C0 4 [.agg s.c, .agg p.c] [] (B true) [] := by
  refine FnOK.intro (fn := Tryz.f4) (c := Tryz.f4.body.getD .skip) (by kernel_rfl) (by kernel_rfl) (by kernel_rfl) (by kernel_rfl) (by simp [Tryz.f4]) (by simp [names]) ?_
  unfold Tryz.f4
  simp (disch := omega) only [go_sem]
  refine call_pure (f12_ok s) (by simp (disch := omega) only [go_sem]) rfl ?_
  cases hs : smallS s
  · simp (disch := omega) only [go_sem]
    refine call_pure f13_ok (by simp (disch := omega) only [go_sem]) rfl ?_
    simp (disch := omega) only [go_sem]
    refine ret_mk ⟨[], [], []⟩ _ (by (try simp (disch := omega) only [go_sem, resVs, resV]) <;> rfl) ⟨rfl, rfl⟩ (by simp) ?_ trivial
    simp (disch := omega) only [go_sem]
  have h := small_few hs
  have hl := core_len h p
  simp (disch := omega) only [go_sem]
  refine call_pure (f19_ok s p h) (by simp (disch := omega) only [go_sem]) rfl ?_
  simp (disch := omega) only [go_sem]
  refine call_pure (f20_ok s p h) (by simp (disch := omega) only [go_sem]) rfl ?_
  simp (disch := omega) only [go_sem, beq_self_eq_true]
  first | ((with_reducible show callB _ _ _ _ _ _); refine call_pure f13_ok (by simp (disch := omega) only [go_sem]) rfl ?_) | ((with_reducible show freeCallB _ _ _ _ _ _ _ _ _ _); refine freeCall_mk ⟨⟨[], [], []⟩, [], []⟩ f13_ok (by simp (disch := omega) only [go_sem]) rfl rfl trivial (.inl rfl) ?_)
  simp (disch := omega) only [go_sem, beq_self_eq_true]
  first | ((with_reducible show callB _ _ _ _ _ _); refine call_pure (f16_ok (CoreS s p).1 (CoreS s p).1 (by omega) (by omega)) (by simp (disch := omega) only [go_sem]) rfl ?_) | ((with_reducible show freeCallB _ _ _ _ _ _ _ _ _ _); refine freeCall_mk ⟨⟨[], [], []⟩, [], []⟩ (f16_ok (CoreS s p).1 (CoreS s p).1 (by omega) (by omega)) (by simp (disch := omega) only [go_sem]) rfl rfl trivial (.inl rfl) ?_)
  simp (disch := omega) only [go_sem, decide_true]
  refine ret_mk ⟨[], [], []⟩ _ (by (try simp (disch := omega) only [go_sem, resVs, resV]) <;> rfl) ⟨rfl, rfl⟩ (by simp) ?_ trivial
  simp (disch := omega) only [go_sem]
theorem FreeS_len {s : WS} (h : Few s) : (FreeS s).length ≤ 20000 := by
  unfold FreeS
  split
  · exact Nat.le_trans (List.length_filter_le _ _) (procsS_len h)
  · simp
theorem Few_wsE : Few wsE := ⟨by simp [wsE], by simp [wsE], by simp [wsE]⟩
theorem few_Remove {s : WS} (h : Few s) (p : Proc) : Few (RemoveS s p).1 := by
  unfold RemoveS
  split
  · split
    · exact few_rem h p
    · exact Few_wsE
  · exact Few_wsE
theorem few_Restrict {s : WS} (h : Few s) (l : List Proc) : Few (RestrictS s l).1 := by
  unfold RestrictS
  split
  · exact few_res h l
  · exact Few_wsE
theorem f10_ok (s : WS) (p : Proc) (l : List Proc) : FnOK C0 10 [.agg s.c, .agg p.c, procsV l] [] (B true) [] := by
  refine FnOK.assume (fn := Tryz.f10) (c := Tryz.f10.body.getD .skip) (by kernel_rfl) (by kernel_rfl) (by kernel_rfl) fun hlen => ?_
  simp only [lensL, lens, WS.c, List.length_map, and_true, true_and] at hlen
  refine FnOK.intro (fn := Tryz.f10) (c := Tryz.f10.body.getD .skip) (by kernel_rfl) (by kernel_rfl) (by kernel_rfl) (by kernel_rfl) (by simp [Tryz.f10]) (by simp [names]) ?_
  unfold Tryz.f10
  simp (disch := omega) only [go_sem]
  refine call_pure (f12_ok s) (by simp (disch := omega) only [go_sem]) rfl ?_
  cases hs : smallS s
  · simp (disch := omega) only [go_sem]
    refine call_pure f13_ok (by simp (disch := omega) only [go_sem]) rfl ?_
    simp (disch := omega) only [go_sem]
    refine ret_mk ⟨[], [], []⟩ _ (by (try simp (disch := omega) only [go_sem, resVs, resV]) <;> rfl) ⟨rfl, rfl⟩ (by simp) ?_ trivial
    simp (disch := omega) only [go_sem]
  have h := small_few hs
  by_cases h20 : 20 < l.length
  · have e20 : (20 < (l.length : Int)) = True := eq_true (by omega)
    simp (disch := omega) only [go_sem, e20]
    refine call_pure f13_ok (by simp (disch := omega) only [go_sem]) rfl ?_
    simp (disch := omega) only [go_sem]
    refine ret_mk ⟨[], [], []⟩ _ (by (try simp (disch := omega) only [go_sem, resVs, resV]) <;> rfl) ⟨rfl, rfl⟩ (by simp) ?_ trivial
    simp (disch := omega) only [go_sem]
  have e20 : (20 < (l.length : Int)) = False := eq_false (by omega)
  have hfl := FreeS_len h
  simp (disch := omega) only [go_sem, e20, decide_false]
  refine call_pure (f32_ok s p h) (by simp (disch := omega) only [go_sem]) rfl ?_
  simp (disch := omega) only [go_sem]
  refine call_pure (f34_ok s p h) (by simp (disch := omega) only [go_sem]) rfl ?_
  simp (disch := omega) only [go_sem]
  refine call_pure (f31_ok s l h (by omega)) (by simp (disch := omega) only [go_sem]) rfl ?_
  simp (disch := omega) only [go_sem]
  refine call_pure (f35_ok s l h (by omega)) (by simp (disch := omega) only [go_sem]) rfl ?_
  simp (disch := omega) only [go_sem]
  refine draw_mk 26 [([], []), ([0], [48]), ([0, 1], [3, 49]), ([0, 1, 2], [50, 49]), ([0, 1], [3, 49]), ([0, 1, 2, 3, 4], [52, 49]), ([0, 1, 2, 3, 4, 5], [51, 53, 49]), ([0, 1, 2, 3, 4, 5, 6], [49, 54]), ([0, 1, 2, 3, 4, 5, 6, 7], [55]), ([0, 1, 2, 3, 4, 5, 6, 7, 8], [8, 56]), ([0, 1, 2, 3, 4, 5, 6, 7, 8], [10, 56]), ([0, 1, 2, 3, 4, 5, 6, 7, 8, 9, 10], [57, 58, 56]), ([0, 1, 2, 3, 4, 5, 6, 7, 8, 9, 10, 11], [56, 59]), ([0, 1, 2, 3, 4, 5, 6, 7, 8, 9, 10, 11, 12], [60]), ([0, 1, 2, 3, 4, 5, 6, 7, 8, 9, 10, 11, 12, 13], [7, 61]), ([0, 1, 2, 3, 4, 5, 6, 7, 8, 9, 10, 11, 12, 13], [9, 61]), ([0, 1, 2, 3, 4, 5, 6, 7, 8, 9, 10, 11, 12, 13, 14, 15], [62, 63, 61]), ([0, 1, 2, 3, 4, 5, 6, 7, 8, 9, 10, 11, 12, 13, 14, 15, 16], [61, 64]), ([0, 1, 2, 3, 4, 5, 6, 7, 8, 9, 10, 11, 12, 13, 14, 15, 16, 17], [65]), ([0, 1, 2, 3, 4, 5, 6, 7, 8, 9, 10, 11, 12, 13, 14, 15, 16, 17, 18], [12, 66]), ([0, 1, 2, 3, 4, 5, 6, 7, 8, 9, 10, 11, 12, 13, 14, 15, 16, 17, 18], [14, 66]), ([0, 1, 2, 3, 4, 5, 6, 7, 8, 9, 10, 11, 12, 13, 14, 15, 16, 17, 18, 19, 20], [67, 68, 66]), ([0, 1, 2, 3, 4, 5, 6, 7, 8, 9, 10, 11, 12, 13, 14, 15, 16, 17, 18, 19, 20, 21], [66, 69]), ([0, 1, 2, 3, 4, 5, 6, 7, 8, 9, 10, 11, 12, 13, 14, 15, 16, 17, 18, 19, 20, 21, 22], [70]), ([0, 1, 2, 3, 4, 5, 6, 7, 8, 9, 10, 11, 12, 13, 14, 15, 16, 17, 18, 19, 20, 21, 22, 23], [11, 71]), ([0, 1, 2, 3, 4, 5, 6, 7, 8, 9, 10, 11, 12, 13, 14, 15, 16, 17, 18, 19, 20, 21, 22, 23], [13, 71]), ([0, 1, 2, 3, 4, 5, 6, 7, 8, 9, 10, 11, 12, 13, 14, 15, 16, 17, 18, 19, 20, 21, 22, 23, 24, 25], []), ([0, 1, 2, 3, 4, 5, 6, 7, 8, 9, 10, 11, 12, 13, 14, 15, 16, 17, 18, 19, 20, 21, 22, 23, 24, 25, 26], []), ([0, 1, 2, 3, 4, 5, 6, 7, 8, 9, 10, 11, 12, 13, 14, 15, 16, 17, 18, 19, 20, 21, 22, 23, 24, 25, 26, 27], [])] fol (by kernel_rfl) ?_
  simp (disch := omega) only [go_sem]
  first | ((with_reducible show callB _ _ _ _ _ _); refine call_pure f13_ok (by simp (disch := omega) only [go_sem]) rfl ?_) | ((with_reducible show freeCallB _ _ _ _ _ _ _ _ _ _); refine freeCall_mk ⟨⟨[], [], []⟩, [], []⟩ f13_ok (by simp (disch := omega) only [go_sem]) rfl rfl trivial (.inl rfl) ?_)
  simp (disch := omega) only [go_sem]
  first | ((with_reducible show callB _ _ _ _ _ _); refine call_pure (f36_ok s h) (by simp (disch := omega) only [go_sem]) rfl ?_) | ((with_reducible show freeCallB _ _ _ _ _ _ _ _ _ _); refine freeCall_mk ⟨⟨[], [], []⟩, [], []⟩ (f36_ok s h) (by simp (disch := omega) only [go_sem]) rfl rfl trivial (.inl rfl) ?_)
  simp (disch := omega) only [go_sem]
  first | ((with_reducible show callB _ _ _ _ _ _); refine call_pure (f37_ok s h) (by simp (disch := omega) only [go_sem]) rfl ?_) | ((with_reducible show freeCallB _ _ _ _ _ _ _ _ _ _); refine freeCall_mk ⟨⟨[], [], []⟩, [], []⟩ (f37_ok s h) (by simp (disch := omega) only [go_sem]) rfl rfl trivial (.inl rfl) ?_)
  simp (disch := omega) only [go_sem]
  first | ((with_reducible show callB _ _ _ _ _ _); refine call_pure (f16_ok (FreeS s) (FreeS s) (by omega) (by omega)) (by simp (disch := omega) only [go_sem]) rfl ?_) | ((with_reducible show freeCallB _ _ _ _ _ _ _ _ _ _); refine freeCall_mk ⟨⟨[], [], []⟩, [], []⟩ (f16_ok (FreeS s) (FreeS s) (by omega) (by omega)) (by simp (disch := omega) only [go_sem]) rfl rfl trivial (.inl rfl) ?_)
  simp (disch := omega) only [go_sem, decide_true, beq_self_eq_true]
  first | ((with_reducible show callB _ _ _ _ _ _); refine call_pure (f38_ok (RemoveS s p).1 (few_Remove h p)) (by simp (disch := omega) only [go_sem]) rfl ?_) | ((with_reducible show freeCallB _ _ _ _ _ _ _ _ _ _); refine freeCall_mk ⟨⟨[], [], []⟩, [], []⟩ (f38_ok (RemoveS s p).1 (few_Remove h p)) (by simp (disch := omega) only [go_sem]) rfl rfl trivial (.inl rfl) ?_)
  simp (disch := omega) only [go_sem, beq_self_eq_true]
  first | ((with_reducible show callB _ _ _ _ _ _); refine call_pure (f38_ok (RestrictS s l).1 (few_Restrict h l)) (by simp (disch := omega) only [go_sem]) rfl ?_) | ((with_reducible show freeCallB _ _ _ _ _ _ _ _ _ _); refine freeCall_mk ⟨⟨[], [], []⟩, [], []⟩ (f38_ok (RestrictS s l).1 (few_Restrict h l)) (by simp (disch := omega) only [go_sem]) rfl rfl trivial (.inl rfl) ?_)
  simp (disch := omega) only [go_sem]
  refine ret_mk ⟨[], [], []⟩ _ (by (try simp (disch := omega) only [go_sem, resVs, resV]) <;> rfl) ⟨rfl, rfl⟩ (by simp) ?_ trivial
  simp (disch := omega) only [go_sem]
end Go.Rd
/- The bridge for structs, recursive types and laid variables. -/
namespace Go.Abs
open Go Go.ChangeShapes Go.WideShapes Go.RowKit

/-- what a value of type t that was handed in reads as, up to a depth -/
def CodN (P : Program) (N : Nat) (t : TypeId) {α : Type} (e : α → List AV) : Prop :=
  ∀ (H : Type) (enc : TypeId × Value → H) (w : World) (fuel : Nat) (cs : List Value) (x : DataW H × List MemPlace), fuel ≤ N → DataW.trod enc P w 0 (fun _ => true) true fuel t cs = some x →
    ∃ a, PRl (fun b => b < w.heap.size) w (e a) cs
/-- the fields of a struct, from the cell b on -/
def CodF (P : Program) (N b : Nat) (fs : List Field) {α : Type} (e : α → List AV) : Prop :=
  ∀ (H : Type) (enc : TypeId × Value → H) (w : World) (n : Nat) (cs : List Value) (ys : List (DataW H × List MemPlace)), n ≤ N → cs.length = b + (fs.map fun f => P.cellsOf f.type).sum → ys.length = fs.length →
    (∀ (i : Nat) (f : Field), fs[i]? = some f → DataW.trod enc P w 0 (fun _ => true) true n f.type ((cs.drop f.offset).take (P.cellsOf f.type)) = ys[i]?) →
    ∃ a, PRl (fun b => b < w.heap.size) w (e a) (cs.drop b)

variable {P : Program} {t : TypeId}

theorem CodN.mono {N M : Nat} {α : Type} {e : α → List AV} (h : CodN P N t e) (hm : M ≤ N) : CodN P M t e := fun H enc w fuel cs x hf hx => h H enc w fuel cs x (Nat.le_trans hf hm) hx
theorem Cod.toN {α : Type} {e : α → List AV} {m : α → Nat} {Q : α → Prop} (h : Cod P t e m Q) (N : Nat) : CodN P N t e := fun H enc w fuel cs x _ hx => by
  obtain ⟨a, _, _, h3⟩ := h H enc w fuel cs x hx
  exact ⟨a, h3⟩
theorem CodN.toCod {α : Type} {e : α → List AV} (h : ∀ N, CodN P N t e) : Cod P t e (fun _ => 0) (fun _ => True) := fun H enc w fuel cs x hx => by
  obtain ⟨a, h3⟩ := h fuel H enc w fuel cs x (Nat.le_refl _) hx
  exact ⟨a, trivial, Nat.zero_le _, h3⟩
theorem CodN.map {N : Nat} {α β : Type} {e : α → List AV} {e' : β → List AV} (h : CodN P N t e) (hf : ∀ a, ∃ b, e' b = e a) : CodN P N t e' := fun H enc w fuel cs x hn hx => by
  obtain ⟨a, q⟩ := h H enc w fuel cs x hn hx
  obtain ⟨b, hb⟩ := hf a
  exact ⟨b, hb ▸ q⟩
theorem codn_zero {α : Type} {e : α → List AV} : CodN P 0 t e := fun H enc w fuel cs x hn hx => by
  obtain rfl : fuel = 0 := by omega
  simp [DataW.trod] at hx

theorem codn_slice {N : Nat} {el : TypeId} {α : Type} {e : α → List AV} {n : Nat} (he : CodN P N el e) (ht : P.underlying t = some (.slice el)) (hc : P.cellsOf el = n) (hn : 0 < n) :
    CodN P (N + 1) t (fun xs : List α => [.sl .no n (xs.map e)]) := by
  intro H enc w fuel cs x hf h
  rcases DataW.trod_slice ht h with ⟨rfl, rfl⟩ | ⟨a, len, cap, elems, rest, k, rfl, rfl, rfl, _, hl, hm, hlen, hel, _, _⟩
  · refine ⟨[], ?_, trivial⟩
    simp only [List.map_nil, PR]
    exact ⟨by simp, none, 0, rfl, by simp, by simp, by simp, hn, Or.inl trivial⟩
  · subst hlen
    obtain ⟨xs, hxl, hxs⟩ := pick (α := α) (q := fun _ _ => True) (R := fun i x y => ∃ cs, w.cells? 0 (a.add (i * n)) n = some cs ∧ PRl (fun b => b < w.heap.size) w (e x) cs) elems.length elems rfl (by
      intro i y hy
      have hi : i < elems.length := by
        rcases Nat.lt_or_ge i elems.length with h | h
        · exact h
        · rw [List.getElem?_eq_none h] at hy; cases hy
      have := hel i hi
      rw [hy, hc, Option.bind_eq_some_iff] at this
      obtain ⟨cs, h1, h2⟩ := this
      obtain ⟨x, q3⟩ := he H enc w k cs y (by omega) h2
      exact ⟨x, cs, h1, q3⟩)
    have hget : ∀ i x, xs[i]? = some x → ∃ y, elems[i]? = some y := fun i x hx => by
      have : i < elems.length := by
        rcases Nat.lt_or_ge i xs.length with h | h
        · omega
        · rw [List.getElem?_eq_none h] at hx; cases hx
      exact ⟨_, List.getElem?_eq_getElem this⟩
    refine ⟨xs, ?_, trivial⟩
    simp only [PR]
    refine ⟨by simp, some a, cap, by simp [hxl], by simp [hxl, hl], hm, by simp, hn, ?_⟩
    cases xs with
    | nil => exact Or.inl rfl
    | cons x xs =>
      refine Or.inr ⟨a, rfl, ?_, pre_of_elems fun i x hx => ?_⟩
      · obtain ⟨y, hy⟩ := hget 0 x rfl
        obtain ⟨cs, h1, _⟩ := hxs 0 x y rfl hy
        obtain ⟨_, hl, hcell⟩ := World.cells?_some h1
        have h0 := hcell 0 hn
        cases cs with
        | nil => simp at hl; omega
        | cons c cs => exact (show (a.add (0 * n + 0)).block = a.block by simp [Addr.add]) ▸ lt_of_cell (by rw [addr_add] at h0; simpa using h0)
      · obtain ⟨y, hy⟩ := hget i x hx
        obtain ⟨cs, h1, h2⟩ := hxs i x y hx hy
        exact ⟨cs, by simpa using h1, h2⟩

theorem codf_nil {N b : Nat} : CodF P N b [] (fun _ : Unit => []) := by
  intro H enc w n cs ys _ hl _ _
  have : cs.drop b = [] := List.drop_eq_nil_of_le (by simpa using Nat.le_of_eq hl)
  rw [this]
  exact ⟨(), trivial⟩
theorem codf_cons {N b : Nat} {f : Field} {fs : List Field} {α β : Type} {e : α → List AV} {e' : β → List AV} (h : CodN P N f.type e) (hb : f.offset = b) (hs : CodF P N (b + P.cellsOf f.type) fs e') :
    CodF P N b (f :: fs) (fun x : α × β => e x.1 ++ e' x.2) := by
  intro H enc w n cs ys hn hl hy hfs
  cases ys with
  | nil => simp at hy
  | cons y ys =>
    have h0 := hfs 0 f rfl
    rw [hb] at h0
    obtain ⟨a, ha⟩ := h H enc w n _ y hn h0
    obtain ⟨c, hc⟩ := hs H enc w n cs ys hn (by simp only [List.map_cons, List.sum_cons] at hl; omega) (by simpa using hy) fun i g hg => by simpa using hfs (i + 1) g (by simpa using hg)
    refine ⟨(a, c), ?_⟩
    have := PRl.append ha hc
    have e : (cs.drop b).take (P.cellsOf f.type) ++ cs.drop (b + P.cellsOf f.type) = cs.drop b := by
      rw [← List.drop_drop, List.take_append_drop]
    rw [e] at this
    exact this
theorem codn_struct {N : Nat} {fs : Array Field} {α : Type} {e : α → List AV} (ht : P.underlying t = some (.struct fs)) (hc : P.cellsOf t = (fs.toList.map fun f => P.cellsOf f.type).sum) (h : CodF P N 0 fs.toList e) : CodN P (N + 1) t e := by
  intro H enc w fuel cs x hf hx
  obtain ⟨xs, n, rfl, rfl, hl, hlen, hfs⟩ := DataW.trod_struct ht hx
  obtain ⟨a, ha⟩ := h H enc w n cs xs (by omega) (by rw [hl, hc]; simp) (by simpa using hlen) fun i f hfi => hfs i f (by simpa using hfi)
  exact ⟨a, by simpa using ha⟩

/-- a struct's fields: type and place -/
def flds (P : Program) (t : TypeId) : Option (List (TypeId × Nat)) := match P.underlying t with
  | some (.struct fs) => some (fs.toList.map fun f => (f.type, f.offset))
  | _ => none
def CodG (P : Program) (N b : Nat) (l : List (TypeId × Nat)) {α : Type} (e : α → List AV) : Prop := ∀ fs : List Field, (fs.map fun f => (f.type, f.offset)) = l → CodF P N b fs e
theorem codg_nil {N b : Nat} : CodG P N b [] (fun _ : Unit => []) := fun fs h => by
  obtain rfl : fs = [] := by simpa using h
  exact codf_nil
theorem codg_cons {N b sz : Nat} {ty : TypeId} {l : List (TypeId × Nat)} {α β : Type} {e : α → List AV} {e' : β → List AV} (h : CodN P N ty e) (hz : P.cellsOf ty = sz) (hs : CodG P N (b + sz) l e') :
    CodG P N b ((ty, b) :: l) (fun x : α × β => e x.1 ++ e' x.2) := fun fs hfs => by
  cases fs with
  | nil => simp at hfs
  | cons f fs =>
    simp only [List.map_cons, List.cons.injEq, Prod.mk.injEq] at hfs
    obtain ⟨⟨h1, h2⟩, h3⟩ := hfs
    subst h1
    exact codf_cons h h2 (by rw [hz]; exact hs fs h3)
theorem codn_g {N : Nat} {l : List (TypeId × Nat)} {α : Type} {e : α → List AV} (ht : flds P t = some l) (hc : P.cellsOf t = (l.map fun x => P.cellsOf x.1).sum) (h : CodG P N 0 l e) : CodN P (N + 1) t e := by
  unfold flds at ht
  split at ht
  · rename_i fs hu
    simp only [Option.some.injEq] at ht
    refine codn_struct hu ?_ (h fs.toList ht)
    rw [hc, ← ht, List.map_map]
    rfl
  · cases ht
theorem arg_g {l : List (TypeId × Nat)} {α : Type} {e : α → List AV} (he : ∀ N, CodN P N t e) (ht : flds P t = some l) : Arg P t (fun a : α => .agg (e a)) (fun _ => 0) (fun _ => True) := by
  intro H enc w base v d ps hv hd
  unfold flds at ht
  split at ht
  · rename_i fs hu
    obtain ⟨us, rfl, _⟩ := okWide_struct hu hv
    obtain ⟨fuel, hf⟩ := hd
    obtain ⟨a, hp⟩ := he fuel H enc w fuel _ _ (Nat.le_refl _) hf
    refine ⟨a, trivial, Nat.zero_le _, us, rfl, ?_⟩
    have hp' : PRl (isRo (gh0 w)) w (e a) us.toList := by
      rw [isRo_gh0]
      exact hp
    exact hp'.VRs
  · cases ht

/-- an argument of a struct type -/
theorem arg_struct {fs : Array Field} {α : Type} {e : α → List AV} (he : ∀ N, CodN P N t e) (ht : P.underlying t = some (.struct fs)) : Arg P t (fun a : α => .agg (e a)) (fun _ => 0) (fun _ => True) := by
  intro H enc w base v d ps hv hd
  obtain ⟨us, rfl, _⟩ := okWide_struct ht hv
  obtain ⟨fuel, hf⟩ := hd
  obtain ⟨a, hp⟩ := he fuel H enc w fuel _ _ (Nat.le_refl _) hf
  refine ⟨a, trivial, Nat.zero_le _, us, rfl, ?_⟩
  have hp' : PRl (isRo (gh0 w)) w (e a) us.toList := by
    rw [isRo_gh0]
    exact hp
  exact hp'.VRs

theorem chunks {α : Type} (m : Nat) : ∀ (rows : List (List α)) (cs : List α), cs.length = rows.length * m → (∀ i r, rows[i]? = some r → (cs.drop (i * m)).take m = r) → cs = rows.flatten
  | [], cs, hl, _ => List.eq_nil_of_length_eq_zero (by simpa using hl)
  | r :: rows, cs, hl, h => by
    have h0 := h 0 r rfl
    have := chunks m rows (cs.drop m) (by simp only [List.length_cons, Nat.add_mul] at hl; rw [List.length_drop, hl]; omega) fun i r' hr => by
      have := h (i + 1) r' (by simpa using hr)
      rw [List.drop_drop]
      rwa [show m + i * m = (i + 1) * m by rw [Nat.add_mul]; omega]
    simp only [Nat.zero_mul, List.drop_zero] at h0
    rw [List.flatten_cons, ← this, ← h0, List.take_append_drop]
theorem arr_read {H : Type} {enc : TypeId × Value → H} {w : World} {fuel n : Nat} {sp : Nat → Bool} {held : Bool} {base : Nat} {e : TypeId} {cs : List Value} {ds : List (DataW H)} {p : List MemPlace} {f : List (List Value)}
    (ht : P.underlying t = some (.array n e)) (hct : P.cellsOf t = n * P.cellsOf e) (h : DataW.trod enc P w base sp held fuel t cs = some (.agg ds, p)) (hl : ds.length = f.length)
    (hf : ∀ (i : Nat) (d : DataW H) (c : List Value), ds[i]? = some d → f[i]? = some c → ∀ fuel cs' p', DataW.trod enc P w base sp held fuel e cs' = some (d, p') → cs' = c) : cs = f.flatten := by
  obtain ⟨xs, m, _, hx, hcl, hxl, hel⟩ := DataW.trod_array ht h
  have hx1 : ds = xs.map (·.1) := by
    have := congrArg Prod.fst hx
    simpa using this
  have hn : f.length = n := by rw [← hl, hx1]; simpa using hxl
  refine chunks _ f cs (by rw [hcl, hct, hn]) fun i c hc => ?_
  have hi : i < f.length := by
    rcases Nat.lt_or_ge i f.length with h | h
    · exact h
    · rw [List.getElem?_eq_none h] at hc; cases hc
  have hxi : xs[i]? = some xs[i] := List.getElem?_eq_getElem (by omega)
  have h1 := hel i (by omega)
  rw [hxi] at h1
  refine hf i xs[i].1 c ?_ hc m _ xs[i].2 h1
  rw [hx1, List.getElem?_map, hxi]
  rfl
theorem bool_cells {H : Type} {enc : TypeId × Value → H} {w : World} {fuel : Nat} {sp : Nat → Bool} {held : Bool} {base : Nat} {cs : List Value} {b : Bool} {p : List MemPlace} (ht : P.underlying t = some .bool)
    (h : DataW.trod enc P w base sp held fuel t cs = some (.lit (.bool b), p)) : cs = [.bool b] := by
  obtain ⟨n, rfl, h2⟩ := DataW.trod_bool ht h
  simp at h2
  rw [h2.1]
def rowD {H : Type} (r : List Bool) : DataW H := .agg (r.map fun b => .lit (.bool b))
def tabD {H : Type} (rows : List (List Bool)) : DataW H := .agg (rows.map rowD)
theorem tab_cells {H : Type} {enc : TypeId × Value → H} {w : World} {fuel n m : Nat} {sp : Nat → Bool} {held : Bool} {base : Nat} {e b : TypeId} {cs : List Value} {rows : List (List Bool)} {p : List MemPlace}
    (ht : P.underlying t = some (.array n e)) (he : P.underlying e = some (.array m b)) (hb : P.underlying b = some .bool) (h1 : P.cellsOf b = 1) (h2 : P.cellsOf e = m) (h3 : P.cellsOf t = n * m)
    (h : DataW.trod enc P w base sp held fuel t cs = some (tabD rows, p)) : cs = rows.flatten.map Value.bool := by
  have key : ∀ r : List Bool, ∀ fuel cs' p', DataW.trod enc P w base sp held fuel e cs' = some (rowD r, p') → cs' = r.map Value.bool := fun r fuel cs' p' h' => by
    have := arr_read (f := r.map fun b => [Value.bool b]) he (by rw [h1, h2, Nat.mul_one]) h' (by simp) fun i d c hd hc fuel cs' p' hx => by
      rw [List.getElem?_map] at hd hc
      cases hr : r[i]? with
      | none => rw [hr] at hd; cases hd
      | some v =>
        rw [hr] at hd hc
        simp at hd hc
        subst hd; subst hc
        exact bool_cells hb hx
    rw [this]
    clear h'  this
    induction r with
    | nil => rfl
    | cons x r ih => simp only [List.map_cons, List.flatten_cons, List.singleton_append, ih]
  have := arr_read (f := rows.map fun r => r.map Value.bool) ht (by rw [h2, h3]) h (by simp) fun i d c hd hc fuel cs' p' hx => by
    rw [List.getElem?_map] at hd hc
    cases hr : rows[i]? with
    | none => rw [hr] at hd; cases hd
    | some v =>
      rw [hr] at hd hc
      simp at hd hc
      subst hd; subst hc
      exact key v _ _ _ hx
  rw [this, List.map_flatten]
/-- the one variable that a law reads: a table of booleans -/
theorem glob_tab {C : Ctx} {name : String} {g n m : Nat} {e b : TypeId} {rows : List (List Bool)} {rest : List (String × DataW Unit)} {W : World} (hC : ∀ i cs, C.G i = some cs → i = g ∧ cs = (rows.flatten.map fun b => AV.v (.bool b))) (hpos : 0 < rows.flatten.length)
    (hg : C.P.globalNamed name = some g) (hty : (C.P.globals[g]?).map (·.type) = some t)
    (ht : C.P.underlying t = some (.array n e)) (he : C.P.underlying e = some (.array m b)) (hb : C.P.underlying b = some .bool) (h1 : C.P.cellsOf b = 1) (h2 : C.P.cellsOf e = m) (h3 : C.P.cellsOf t = n * m)
    (h : laidMet C.P ((name, tabD rows) :: rest) W) : Glob C (gh0 W) W := by
  obtain ⟨ps, ⟨g', t', cs, fuel, p, q, hg', ht', hvar, hd, _, _⟩, _⟩ := h
  obtain rfl := Option.some.inj (hg.symm.trans hg')
  obtain rfl := Option.some.inj (hty.symm.trans ht')
  have hcs := tab_cells ht he hb h1 h2 h3 hd
  have hcell := World.var?_cell hg hvar
  intro i xs hi
  obtain ⟨rfl, rfl⟩ := hC i xs hi
  have hlen : cs.toList.length = rows.flatten.length := by rw [hcs, List.length_map]
  have hsz : cs.size = rows.flatten.length := by rw [← hlen, Array.length_toList]
  refine ⟨by rw [List.length_map]; exact hpos, ?_, prc_of_l (us := cs.toList) ?_ ?_⟩
  · have h0 := hcell 0
    have : ∃ v, cs[0]? = some v := ⟨cs[0]'(by omega), Array.getElem?_eq_getElem _⟩
    obtain ⟨v, hv⟩ := this
    rw [hv] at h0
    rw [isRo_gh0]
    exact lt_of_cell h0
  · rw [hcs]
    generalize rows.flatten = l
    induction l with
    | nil => simp [PRl]
    | cons x l ih => exact ⟨⟨rfl, rfl⟩, ih⟩
  · intro k hk
    have := hcell k
    rw [Array.getElem?_toList, Nat.zero_add]
    rw [← this, add_lit, Nat.zero_add]

/-- FROM A CONTRACT TO THE ROW's LAST STEP: the variables that it reads are known -/
theorem law_true_G {C : Ctx} {f : Nat} {fn : Func} {s : ChangeSpec} (hs : s.vars = []) {apart fresh handsOn again : Bool} {α : Type} {e : α → List AV} {m : α → Nat} {Q : α → Prop} {tb : TypeId} {ts : List TypeId}
    (hp : fn.params.toList = ts) (ha : Args C.P ts e m Q) (hl : laidOutB C.P = true) (hr : (ts.all fun t => C.P.readableRec t && decide (t < C.P.types.size)) = true) (hres : fn.resultTypes = #[tb]) (htb : C.P.underlying tb = some .bool)
    {H : Type} (enc : TypeId × Value → H) (W : World) (hG : Glob C (gh0 W) W) (base : Nat) (args : Array Value) (ds gs : List (DataW H)) (before : List MemPlace)
    (hval : ∀ (j : Nat) t v, fn.params[j]? = some t → args[j]? = some v → Value.okWide C.P W .any base t v)
    (hW : DataW.Whole enc C.P fn.params.toList s.vars apart W args.toList ds gs before)
    (hfn : ∀ ds : List (DataW H), ds.length = ts.length → (s.fn H ds).results = [.lit (.bool true)] ∧ (s.fn H ds).args = ds ∧ (s.fn H ds).vars = [])
    (hok : ∀ a, Q a → m a ≤ wgtL ds → FnOK C f (e a) [] (.v (.bool true)) []) :
    Calls C.P f args W fun r W' => ∃ v, r = .returned v ∧ s.post enc C.P fn apart fresh handsOn again W args v W' := by
  replace hr : ∀ t ∈ ts, C.P.readableRec t = true ∧ t < C.P.types.size := by simpa using hr
  have hW' := hW
  obtain ⟨p, q, hA, hV, rfl, hfz, hnd⟩ := hW
  rw [hs] at hV
  obtain ⟨rfl, rfl⟩ := trodVars_none hV
  rw [hp] at hA
  obtain ⟨a, q1, q2, q3⟩ := ha H enc W base args.toList ds p (fun j t v hj hv => hval j t v (by rw [← Array.getElem?_toList, hp]; exact hj) (by simpa using hv)) hA
  have hlen : ∀ {ts : List TypeId} {vs : List Value} {ds : List (DataW H)} {ps : List MemPlace}, DataW.TrodAll enc C.P W 0 (fun _ => true) true ts vs ds ps → ds.length = ts.length := by
    intro ts
    induction ts with
    | nil => intro vs ds ps h; obtain ⟨_, rfl, _⟩ := trodAll_nil h; rfl
    | cons t ts ih =>
      intro vs ds ps h
      obtain ⟨v, vs, d, ds, p, q, rfl, rfl, rfl, h1, h2⟩ := trodAll_cons h
      simp [ih h2]
  obtain ⟨hf1, hf2, hf3⟩ := hfn ds (hlen hA)
  have key := (hok a q1 q2).2 (gh0 W) W args.toList hG q3 (fun s cs h => by cases h)
  rw [show args.toList.toArray = args by simp] at key
  refine key.mono fun r W' ⟨u, g', hr1, hF, hy, _⟩ => ?_
  subst hr1
  simp only [VR] at hy
  subst hy
  have hb : Below W.heap.size W W' := ⟨hF.os, hF.tape.1, hF.output, hF.size, fun k hk => (hF.keep k hk (Or.inl (by show (gh0 W).own k = .ro; simp [gh0, hk]))).1⟩
  have hlt : ∀ x ∈ p ++ ([] : List MemPlace), x.block < W.heap.size := fun x hx => hW'.lt x hx
  refine ⟨_, rfl, below_post (pa := p) (pv := []) hW' (fun b sp hd => ?_) (fun sp hsp => ?_) (fun _ _ => ?_) rfl hb (ok_one hres rfl (okWide_bool_mk htb _))⟩
  · simp only [List.append_nil, hf1]
    rw [hres]
    exact trodAll_mk1 (shut_bool htb _)
  · simp only [List.append_nil, hf2]
    rw [hp]
    exact trodAll_stays hl hr hA (fun x hx => hb.same (hlt x (by simpa using hx))) (fun x hx => hsp x (by simpa using hx))
  · simp only [List.append_nil, hf3]
    rw [hs]
    rfl
end Go.Abs
open Go Go.Abs Go.Proofs
set_option maxRecDepth 100000
namespace Go.Rd
theorem s3 : Tryz.prog.cellsOf 3 = 1 := by kernel_rfl
theorem s9 : Tryz.prog.cellsOf 9 = 1 := by kernel_rfl
theorem s22 : Tryz.prog.cellsOf 22 = 1 := by kernel_rfl
theorem s23 : Tryz.prog.cellsOf 23 = 1 := by kernel_rfl
theorem s59 : Tryz.prog.cellsOf 59 = 1 := by kernel_rfl
theorem s89 : Tryz.prog.cellsOf 89 = 1 := by kernel_rfl
theorem s90 : Tryz.prog.cellsOf 90 = 1 := by kernel_rfl
theorem s27 : Tryz.prog.cellsOf 27 = 3 := by kernel_rfl
theorem s56 : Tryz.prog.cellsOf 56 = 2 := by kernel_rfl
theorem s58 : Tryz.prog.cellsOf 58 = 3 := by kernel_rfl
theorem s61 : Tryz.prog.cellsOf 61 = 5 := by kernel_rfl
theorem s88 : Tryz.prog.cellsOf 88 = 4 := by kernel_rfl
theorem s92 : Tryz.prog.cellsOf 92 = 8 := by kernel_rfl
theorem s100 : Tryz.prog.cellsOf 100 = 9 := by kernel_rfl
theorem s147 : Tryz.prog.cellsOf 147 = 5 := by kernel_rfl
theorem s150 : Tryz.prog.cellsOf 150 = 7 := by kernel_rfl
theorem s25 : Tryz.prog.cellsOf 25 = 2 := by kernel_rfl
theorem c3 (N : Nat) : CodN Tryz.prog N 3 (fun n : Int => [I n]) := (cod_int (k := .i64) (by kernel_rfl)).toN N
theorem c9 (N : Nat) : CodN Tryz.prog N 9 (fun s : Bs => [.v (.string (str s))]) := ((cod_string (by kernel_rfl)).toN N).map fun s => ⟨s.toList, by
  have : str s.toList = s := by
    have h : s = str s.data.toList := rfl
    rw [h, str_toList]
  rw [this]⟩
theorem c27 (N : Nat) : CodN Tryz.prog N 27 Proc.c := (CodN.mono (codn_g (l := [(3, 0), (3, 1), (3, 2)]) (by kernel_rfl) (by simp only [List.map_cons, List.map_nil, List.sum_cons, List.sum_nil, s27, s3]; rfl) (codg_cons (c3 N) s3 (codg_cons (c3 N) s3 (codg_cons (c3 N) s3 codg_nil)))) (Nat.le_succ N)).map fun (a, b, c, _) => ⟨⟨a, b, c⟩, rfl⟩
theorem c56 (N : Nat) : CodN Tryz.prog N 56 Amt.c := (CodN.mono (codn_g (l := [(3, 0), (3, 1)]) (by kernel_rfl) (by simp only [List.map_cons, List.map_nil, List.sum_cons, List.sum_nil, s56, s3]; rfl) (codg_cons (c3 N) s3 (codg_cons (c3 N) s3 codg_nil))) (Nat.le_succ N)).map fun (a, b, _) => ⟨⟨a, b⟩, rfl⟩
theorem c147 (N : Nat) : CodN Tryz.prog N 147 Hold.c := (CodN.mono (codn_g (l := [(27, 0), (56, 3)]) (by kernel_rfl) (by simp only [List.map_cons, List.map_nil, List.sum_cons, List.sum_nil, s147, s27, s56]; rfl) (codg_cons (c27 N) s27 (codg_cons (c56 N) s56 codg_nil))) (Nat.le_succ N)).map fun (a, b, _) => ⟨⟨a, b⟩, rfl⟩
theorem c150 (N : Nat) : CodN Tryz.prog N 150 Wait.c := (CodN.mono (codn_g (l := [(27, 0), (56, 3), (3, 5), (3, 6)]) (by kernel_rfl) (by simp only [List.map_cons, List.map_nil, List.sum_cons, List.sum_nil, s150, s27, s56, s3]; rfl) (codg_cons (c27 N) s27 (codg_cons (c56 N) s56 (codg_cons (c3 N) s3 (codg_cons (c3 N) s3 codg_nil))))) (Nat.le_succ N)).map fun (a, b, c, d, _) => ⟨⟨a, b, c, d⟩, rfl⟩
theorem c88 (N : Nat) : CodN Tryz.prog N 88 Res.c := (CodN.mono (codn_g (l := [(9, 0), (3, 1), (3, 2), (3, 3)]) (by kernel_rfl) (by simp only [List.map_cons, List.map_nil, List.sum_cons, List.sum_nil, s88, s9, s3]; rfl) (codg_cons (c9 N) s9 (codg_cons (c3 N) s3 (codg_cons (c3 N) s3 (codg_cons (c3 N) s3 codg_nil))))) (Nat.le_succ N)).map fun (a, b, c, d, _) => ⟨⟨a, b, c, d⟩, rfl⟩
theorem c89 (N : Nat) : CodN Tryz.prog N 89 (fun l : List Hold => [holdsV l]) := CodN.mono (codn_slice (c147 N) (by kernel_rfl) s147 (by omega)) (Nat.le_succ N)
theorem c90 (N : Nat) : CodN Tryz.prog N 90 (fun l : List Wait => [waitsV l]) := CodN.mono (codn_slice (c150 N) (by kernel_rfl) s150 (by omega)) (Nat.le_succ N)
theorem c92 (N : Nat) : CodN Tryz.prog N 92 Queue.c := (CodN.mono (codn_g (l := [(88, 0), (89, 4), (90, 5), (90, 6), (3, 7)]) (by kernel_rfl) (by simp only [List.map_cons, List.map_nil, List.sum_cons, List.sum_nil, s92, s88, s89, s90, s3]; rfl) (codg_cons (c88 N) s88 (codg_cons (c89 N) s89 (codg_cons (c90 N) s90 (codg_cons (c90 N) s90 (codg_cons (c3 N) s3 codg_nil)))))) (Nat.le_succ N)).map fun (a, b, c, d, e, _) => ⟨⟨a, b, c, d, e⟩, rfl⟩
theorem c58 (N : Nat) : CodN Tryz.prog N 58 Atom.c := (CodN.mono (codn_g (l := [(9, 0), (56, 1)]) (by kernel_rfl) (by simp only [List.map_cons, List.map_nil, List.sum_cons, List.sum_nil, s58, s9, s56]; rfl) (codg_cons (c9 N) s9 (codg_cons (c56 N) s56 codg_nil))) (Nat.le_succ N)).map fun (a, b, _) => ⟨⟨a, b⟩, rfl⟩
theorem c61 : ∀ N : Nat, CodN Tryz.prog N 61 Expr.c
  | 0 => codn_zero
  | N + 1 => (codn_g (l := [(3, 0), (58, 1), (59, 4)]) (by kernel_rfl) (by simp only [List.map_cons, List.map_nil, List.sum_cons, List.sum_nil, s61, s3, s58, s59]; rfl) (codg_cons (c3 N) s3 (codg_cons (c58 N) s58 (codg_cons (CodN.mono (codn_slice (c61 N) (by kernel_rfl) s61 (by omega)) (Nat.le_succ N)) s59 codg_nil)))).map fun (a, b, c, _) => ⟨.mk a b c, by rw [Expr.c_def]; rfl⟩
theorem c100 (N : Nat) : CodN Tryz.prog N 100 Need.c := (CodN.mono (codn_g (l := [(27, 0), (61, 3), (3, 8)]) (by kernel_rfl) (by simp only [List.map_cons, List.map_nil, List.sum_cons, List.sum_nil, s100, s27, s61, s3]; rfl) (codg_cons (c27 N) s27 (codg_cons (c61 N) s61 (codg_cons (c3 N) s3 codg_nil)))) (Nat.le_succ N)).map fun (a, b, c, _) => ⟨⟨a, b, c⟩, by simp only [Need.c, Expr.c_def]; rfl⟩
theorem c22 (N : Nat) : CodN Tryz.prog N 22 (fun l : List Queue => [queuesV l]) := CodN.mono (codn_slice (c92 N) (by kernel_rfl) s92 (by omega)) (Nat.le_succ N)
theorem c23 (N : Nat) : CodN Tryz.prog N 23 (fun l : List Need => [needsV l]) := CodN.mono (codn_slice (c100 N) (by kernel_rfl) s100 (by omega)) (Nat.le_succ N)
theorem c25 (N : Nat) : CodN Tryz.prog N 25 WS.c := (CodN.mono (codn_g (l := [(22, 0), (23, 1)]) (by kernel_rfl) (by simp only [List.map_cons, List.map_nil, List.sum_cons, List.sum_nil, s25, s22, s23]; rfl) (codg_cons (c22 N) s22 (codg_cons (c23 N) s23 codg_nil))) (Nat.le_succ N)).map fun (a, b, _) => ⟨⟨a, b⟩, rfl⟩
theorem arg25 : Arg Tryz.prog 25 (fun s : WS => .agg s.c) (fun _ => 0) (fun _ => True) := arg_g (l := [(22, 0), (23, 1)]) c25 (by kernel_rfl)
theorem arg27 : Arg Tryz.prog 27 (fun p : Proc => .agg p.c) (fun _ => 0) (fun _ => True) := arg_g (l := [(3, 0), (3, 1), (3, 2)]) c27 (by kernel_rfl)
theorem arg30 : Arg Tryz.prog 30 (fun l : List Proc => procsV l) (fun _ => 0) (fun _ => True) := (arg_slice (CodN.toCod c27) (n := 3) (by kernel_rfl) s27 (by omega)).map fun a _ => ⟨a, trivial, by simp, rfl⟩
def rows : List (List Bool) := [[true, true, true, true, false], [true, true, false, false, false], [true, false, true, false, false], [true, false, false, false, false], [false, false, false, false, false]]
theorem rows_flat : rows.flatten = togL := rfl
theorem globC {W : World} {rest : List (String × DataW Unit)} (h : laidMet Tryz.prog (("clusterlocks/mode.together", tabD rows) :: rest) W) : Glob C0 (gh0 W) W :=
  glob_tab (C := C0) (g := 0) (n := 5) (m := 5) (e := 301) (b := 4) (t := 302) (fun i cs hi => by
    simp only at hi
    split at hi
    · rename_i h0
      simp only [Option.some.injEq] at hi
      exact ⟨h0, by rw [← hi, rows_flat]; rfl⟩
    · cases hi) (by decide) (by kernel_rfl) (by kernel_rfl) (by kernel_rfl) (by kernel_rfl) (by kernel_rfl) (by kernel_rfl) (by kernel_rfl) (by kernel_rfl) h
end Go.Rd
