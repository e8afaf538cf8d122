/- part 23 of the proof -/
import Derived.Test.YtaelofhhkpacbaaGreatDoorT19
import Derived.Test.YtaelofhhkpacbaaGreatDoorT22
set_option linter.all false
open Go Go.Abs Go.Proofs
set_option maxRecDepth 100000
namespace Go.Rd
def needF (s : WS) (p : Proc) : Option Need := s.needs.find? fun n => decide (n.proc = p)
theorem set_rep {α : Type} (a : List α) (z v : α) (k : Nat) : (a ++ List.replicate (k + 1) z).set a.length v = (a ++ [v]) ++ List.replicate k z := by
  rw [List.set_append_right _ _ (Nat.le_refl _)]
  simp [List.replicate_succ]
theorem f109_ok (s : WS) (p : Proc) (h : Few s) (hv : validS s = true) (n : Need) (hf : (s.needs.find? fun n => decide (n.proc = p)) = some n) : FnOK C0 109 [.agg s.c, .agg p.c] [] (bitsV (grantedS s n)) [] := by
  have hl := atomsE_len n.expr
  have hp : n.proc = p := by have := List.find?_some hf; simpa using this
  have hg : grantedS s n = (atomsE n.expr).map fun a => !waitsF s.queues p a.name := by
    unfold grantedS
    rw [hp]
    exact List.map_congr_left fun a _ => by rw [valid_waits hv]
  rw [hg]
  refine FnOK.intro (fn := Tryz.f109) (c := Tryz.f109.body.getD .skip) (by kernel_rfl) (by kernel_rfl) (by kernel_rfl) (by kernel_rfl) (by simp [Tryz.f109]) (by simp [names]) ?_
  unfold Tryz.f109
  simp (disch := omega) only [go_sem]
  refine call_pure (f43_ok s p h) (by simp (disch := omega) only [go_sem]) rfl ?_
  simp (disch := omega) only [go_sem, hf, Option.isSome_some, Option.getD_some]
  refine call_pure (f41_ok s h) (by simp (disch := omega) only [go_sem]) rfl ?_
  simp (disch := omega) only [go_sem, hv]
  refine call_pure (f44_ok n.expr) (by simp (disch := omega) only [go_sem, Expr.c_def]) rfl ?_
  simp (disch := omega) only [go_sem]
  generalize atomsE n.expr = A at hl
  refine loop_intro (α := Nat) (fun i => ⟨[(9, I i), (7, atomsV A), (2, .ptr 128 0), (3, .ptr 192 0), (8, .sl (.own 1792 0) 1 (((A.take i).map fun a => [B (!waitsF s.queues p a.name)]) ++ List.replicate (A.length - i) [B false]))], [(128, s.c), (192, p.c)]⟩) (fun i => i ≤ (A).length ∧ True) (fun i => (A).length - i) 0 ⟨by omega, trivial⟩ ?_ ?_
  · refine Imp.weak ?_ ?_
    all_goals (try simp (disch := omega) only [go_sem])
    all_goals (try (repeat' (with_reducible apply And.intro)))
    all_goals (first | exact .nilOwn (by omega) | exact .nilNo (by omega) | exact .sl (by simp []) | exact .int (by simp []) | exact .eq (by simp []))
  rintro i ⟨hi, hP⟩ J hJ
  simp (disch := omega) only [go_sem]
  refine And.intro (fun hlt => ?_) (fun hge => ?_)
  rotate_left
  have hil : i = (A).length := by simp at hge; omega
  rotate_left
  obtain ⟨b, hb⟩ : ∃ b, (A)[i]? = some b := ⟨_, List.getElem?_eq_getElem (by simp at hlt; omega)⟩
  have hbm := List.mem_of_getElem? hb
  have hlt2 : i < (A).length := by simp at hlt; omega
  refine draw_mk 11 [([], [8]), ([], [9]), ([], [2]), ([], [3]), ([], [7]), ([], [9]), ([4, 5], [39, 40]), ([4, 5, 6], [41]), ([4, 5, 6, 7], [42]), ([2, 3, 4, 5, 6, 7, 8], [37, 38, 43]), ([2, 3, 4, 5, 6, 7, 8, 9], [44]), ([0, 1, 2, 3, 4, 5, 6, 7, 8, 9, 10], []), ([0, 1, 2, 3, 4, 5, 6, 7, 8, 9, 10, 11], [])] fol (by kernel_rfl) ?_
  simp (disch := omega) only [go_sem, List.getElem?_map, hb]
  · have hlen : min i A.length + (A.length - i) = A.length := by omega
    first | ((with_reducible show callB _ _ _ _ _ _); refine call_pure (f80_ok s p b.name h) (by simp (disch := omega) only [go_sem]) rfl ?_) | ((with_reducible show freeCallB _ _ _ _ _ _ _ _ _ _); refine freeCall_mk ⟨⟨[], [], []⟩, [], []⟩ (f80_ok s p b.name h) (by simp (disch := omega) only [go_sem]) rfl rfl trivial (.inl rfl) ?_)
    have hget : (((A.take i).map fun a => [B (!waitsF s.queues p a.name)]) ++ List.replicate (A.length - i) [B false])[i]? = some [B false] := by
      rw [List.getElem?_append_right (by simp; omega), List.getElem?_replicate]
      simp; omega
    simp (disch := omega) only [go_sem, hget, List.length_append, List.length_replicate, List.length_map, List.length_take, hlen]
    refine hJ _ (i + 1) ⟨by simp at hlt; omega, trivial⟩ (by simp at hlt; omega) (Imp.weak ?_ ?_)
    rotate_left
    · simp (disch := omega) only [go_sem]
    simp (disch := omega) only [go_sem]
    refine .sl ?_
    have e1 : A.length - i = (A.length - (i + 1)) + 1 := by omega
    have e2 := set_rep ((A.take i).map fun a => [B (!waitsF s.queues p a.name)]) [B false] [B (!waitsF s.queues p b.name)] (A.length - (i + 1))
    simp only [List.length_map, List.length_take, Nat.min_eq_left hi] at e2
    rw [e1, e2, List.take_add_one, hb]
    simp
  · subst hil
    refine ret_mk ⟨[], [], [1792]⟩ _ (by (try simp (disch := omega) only [go_sem, resVs, resV]) <;> rfl) ⟨rfl, rfl⟩ (by simp) ?_ trivial
    simp (disch := omega) only [go_sem, List.take_length, Nat.sub_self, List.replicate_zero, List.append_nil]
    exact .sl (by simp)
theorem f62_ok (s : WS) (p : Proc) (h : Few s) (hv : validS s = true) : FnOK C0 62 [.agg s.c, .agg p.c] [] (B (isFreeS s p)) [] := by
  refine FnOK.intro (fn := Tryz.f62) (c := Tryz.f62.body.getD .skip) (by kernel_rfl) (by kernel_rfl) (by kernel_rfl) (by kernel_rfl) (by simp [Tryz.f62]) (by simp [names]) ?_
  unfold Tryz.f62
  simp (disch := omega) only [go_sem]
  refine call_pure (f43_ok s p h) (by simp (disch := omega) only [go_sem]) rfl ?_
  cases hf : s.needs.find? fun n => decide (n.proc = p) with
  | none =>
    have e : isFreeS s p = true := by unfold isFreeS; rw [hf]
    simp (disch := omega) only [go_sem, Option.isSome_none, e]
    refine draw_mk 8 [([], [6]), ([0], [13]), ([0, 1], [14]), ([0, 1, 2], [5, 15]), ([0, 1, 2, 3], [16, 15]), ([0, 1, 2], [2, 15]), ([0, 1, 2], [3, 15]), ([0, 1, 2, 5, 6], [18, 19, 15]), ([0, 1, 2, 3, 4, 5, 6, 7], []), ([0, 1, 2, 3, 4, 5, 6, 7, 8], []), ([0, 1, 2, 3, 4, 5, 6, 7, 8, 9], [])] fol (by kernel_rfl) ?_
    simp (disch := omega) only [go_sem]
    refine ret_mk ⟨[], [], []⟩ _ (by (try simp (disch := omega) only [go_sem, resVs, resV]) <;> rfl) ⟨rfl, rfl⟩ (by simp) ?_ trivial
    simp (disch := omega) only [go_sem]
  | some n =>
    have hm := List.mem_of_find?_eq_some hf
    have he : exprOK n.expr = true := validS_exprs hv n hm
    have e : isFreeS s p = holdsE n.expr (grantedS s n) := by unfold isFreeS; rw [hf]
    simp (disch := omega) only [go_sem, Option.isSome_some, e, Option.getD_some]
    refine draw_mk 8 [([], [6]), ([0], [13]), ([0, 1], [14]), ([0, 1, 2], [5, 15]), ([0, 1, 2, 3], [16, 15]), ([0, 1, 2], [2, 15]), ([0, 1, 2], [3, 15]), ([0, 1, 2, 5, 6], [18, 19, 15]), ([0, 1, 2, 3, 4, 5, 6, 7], []), ([0, 1, 2, 3, 4, 5, 6, 7, 8], []), ([0, 1, 2, 3, 4, 5, 6, 7, 8, 9], [])] fol (by kernel_rfl) ?_
    simp (disch := omega) only [go_sem]
    first | ((with_reducible show callB _ _ _ _ _ _); refine call_pure (f109_ok s p h hv n hf) (by simp (disch := omega) only [go_sem]) rfl ?_) | ((with_reducible show freeCallB _ _ _ _ _ _ _ _ _ _); refine freeCall_mk ⟨⟨[], [], []⟩, [], []⟩ (f109_ok s p h hv n hf) (by simp (disch := omega) only [go_sem]) rfl rfl trivial (.inl rfl) ?_)
    simp (disch := omega) only [go_sem]
    first
      | ((with_reducible show callB _ _ _ _ _ _); refine call_pure (f108_ok n.expr (grantedS s n) he) (by simp (disch := omega) only [go_sem, Expr.c_def]) rfl ?_)
      | ((with_reducible show freeCallB _ _ _ _ _ _ _ _ _ _); refine freeCall_mk ⟨⟨[], [], []⟩, [], []⟩ (f108_ok n.expr (grantedS s n) he) (by simp (disch := omega) only [go_sem, Expr.c_def]) rfl rfl trivial (.inl rfl) ?_)
    simp (disch := omega) only [go_sem]
    refine ret_mk ⟨[], [], []⟩ _ (by (try simp (disch := omega) only [go_sem, resVs, resV]) <;> rfl) ⟨rfl, rfl⟩ (by simp) ?_ trivial
    simp (disch := omega) only [go_sem]
theorem f30_ok (s : WS) (h : Few s) : FnOK C0 30 [.agg s.c] [] (procsV (FreeS s)) [] := by
  have hl := procsS_len h
  refine FnOK.intro (fn := Tryz.f30) (c := Tryz.f30.body.getD .skip) (by kernel_rfl) (by kernel_rfl) (by kernel_rfl) (by kernel_rfl) (by simp [Tryz.f30]) (by simp [names]) ?_
  unfold Tryz.f30
  simp (disch := omega) only [go_sem]
  refine call_pure (f41_ok s h) (by simp (disch := omega) only [go_sem]) rfl ?_
  cases hv : validS s
  · have e : FreeS s = [] := by simp [FreeS, hv]
    simp (disch := omega) only [go_sem, e]
    refine ret_mk ⟨[], [], []⟩ _ (by (try simp (disch := omega) only [go_sem, resVs, resV]) <;> rfl) ⟨rfl, rfl⟩ (by simp) ?_ trivial
    simp (disch := omega) only [go_sem]
  have e : FreeS s = freeS s := by simp [FreeS, hv]
  rw [e]
  simp (disch := omega) only [go_sem]
  refine call_pure (f29_ok s h) (by simp (disch := omega) only [go_sem]) rfl ?_
  simp (disch := omega) only [go_sem]
  refine loop_intro (α := Nat) (fun i => ⟨[(5, I i), (4, procsV (procsS s)), (1, .ptr 64 0), (3, .sl (.own 1856 0) 3 ((((procsS s).take i).filter fun p => isFreeS s p).map Proc.c))], [(64, s.c)]⟩) (fun i => i ≤ ((procsS s)).length ∧ True) (fun i => ((procsS s)).length - i) 0 ⟨by omega, trivial⟩ ?_ ?_
  · refine Imp.weak ?_ ?_
    all_goals (try simp (disch := omega) only [go_sem])
    all_goals (try (repeat' (with_reducible apply And.intro)))
    all_goals (first | exact .nilOwn (by omega) | exact .nilNo (by omega) | exact .sl (by simp []) | exact .int (by simp []) | exact .eq (by simp []))
  rintro i ⟨hi, hP⟩ J hJ
  simp (disch := omega) only [go_sem]
  refine And.intro (fun hlt => ?_) (fun hge => ?_)
  rotate_left
  have hil : i = ((procsS s)).length := by simp at hge; omega
  rotate_left
  obtain ⟨b, hb⟩ : ∃ b, ((procsS s))[i]? = some b := ⟨_, List.getElem?_eq_getElem (by simp at hlt; omega)⟩
  have hbm := List.mem_of_getElem? hb
  have hlt2 : i < ((procsS s)).length := by simp at hlt; omega
  refine draw_mk 5 [([], [1]), ([], [4]), ([], [5]), ([1, 2], [18, 19]), ([1, 2, 3], [20]), ([0, 1, 2, 3, 4], [])] fol (by kernel_rfl) ?_
  simp (disch := omega) only [go_sem, List.getElem?_map, hb]
  · have hbd : (((procsS s).take i).filter fun p => isFreeS s p).length + 1 ≤ 4294967296 := by
      have : (((procsS s).take i).filter fun p => isFreeS s p).length ≤ ((procsS s).take i).length := List.length_filter_le _ _
      rw [List.length_take] at this; omega
    first | ((with_reducible show callB _ _ _ _ _ _); refine call_pure (f62_ok s b h hv) (by simp (disch := omega) only [go_sem]) rfl ?_) | ((with_reducible show freeCallB _ _ _ _ _ _ _ _ _ _); refine freeCall_mk ⟨⟨[], [], []⟩, [], []⟩ (f62_ok s b h hv) (by simp (disch := omega) only [go_sem]) rfl rfl trivial (.inl rfl) ?_)
    cases hh : isFreeS s b
    · simp (disch := omega) only [go_sem]
      refine hJ _ (i + 1) ⟨by simp at hlt; omega, trivial⟩ (by simp at hlt; omega) (Imp.weak ?_ ?_)
      all_goals (try simp (disch := omega) only [go_sem])
      all_goals (try (repeat' (with_reducible apply And.intro)))
      all_goals (first | exact .nilOwn (by omega) | exact .nilNo (by omega) | exact .sl (by simp [List.take_add_one, hb, hh, Proc.c]) | exact .int (by simp [List.take_add_one, hb, hh, Proc.c]) | exact .eq (by simp [List.take_add_one, hb, hh, Proc.c]))

    · simp (disch := omega) only [go_sem, List.getElem?_map, hb]
      refine hJ _ (i + 1) ⟨by simp at hlt; omega, trivial⟩ (by simp at hlt; omega) (Imp.weak ?_ ?_)
      all_goals (try simp (disch := omega) only [go_sem])
      all_goals (try (repeat' (with_reducible apply And.intro)))
      all_goals (first | exact .nilOwn (by omega) | exact .nilNo (by omega) | exact .sl (by simp [List.take_add_one, hb, hh, Proc.c]) | exact .int (by simp [List.take_add_one, hb, hh, Proc.c]) | exact .eq (by simp [List.take_add_one, hb, hh, Proc.c]))

  · subst hil
    simp (disch := omega) only [go_sem, List.take_length]
    refine ret_mk ⟨[], [], [1856]⟩ _ (by (try simp (disch := omega) only [go_sem, resVs, resV]) <;> rfl) ⟨rfl, rfl⟩ (by simp) ?_ trivial
    simp (disch := omega) only [go_sem, freeS]
end Go.Rd
open Go Go.Abs Go.Proofs
set_option maxRecDepth 100000
namespace Go.Rd
@[reducible] def nilA : AV := .v (.slice none 0 0)
set_option maxHeartbeats 4000000 in
theorem f49_ok (s : WS) (p : Proc) (h : Few s) (hg : GoodS s) : FnOK C0 49 [.agg s.c, .agg p.c] [] (.agg (remS s p).c) [] := by
  have hn1 := h.nq
  have hn2 := h.nn
  refine FnOK.intro (fn := Tryz.f49) (c := Tryz.f49.body.getD .skip) (by kernel_rfl) (by kernel_rfl) (by kernel_rfl) (by kernel_rfl) (by simp [Tryz.f49]) (by simp [names]) ?_
  unfold Tryz.f49
  simp (disch := omega) only [go_sem]
  refine loop_intro (α := Nat) (fun i => ⟨[(6, I i), (2, .ptr 128 0), (3, .ptr 192 0), (5, .ptr 320 0), (4, .ptr 256 0)], [(128, s.c), (192, p.c), (256, [nilA, nilA]), (320, [.sl (.own 2688 0) 8 (((s.queues.take i).map fun q => remQ1 q p).map Queue.c), nilA])]⟩) (fun i => i ≤ (s.queues).length ∧ True) (fun i => (s.queues).length - i) 0 ⟨by omega, trivial⟩ ?_ ?_
  · refine Imp.weak ?_ ?_
    all_goals (try simp (disch := omega) only [go_sem])
    all_goals (try (repeat' (with_reducible apply And.intro)))
    all_goals (first | exact .nilOwn (by omega) | exact .nilNo (by omega) | exact .sl (by simp []) | exact .int (by simp []) | exact .eq (by simp []))
  rintro i ⟨hi, hP⟩ J hJ
  simp (disch := omega) only [go_sem]
  refine And.intro (fun hlt => ?_) (fun hge => ?_)
  rotate_left
  have hil : i = (s.queues).length := by simp at hge; omega
  rotate_left
  obtain ⟨b, hb⟩ : ∃ b, (s.queues)[i]? = some b := ⟨_, List.getElem?_eq_getElem (by simp at hlt; omega)⟩
  have hbm := List.mem_of_getElem? hb
  have hlt2 : i < (s.queues).length := by simp at hlt; omega
  simp (disch := omega) only [go_sem, List.getElem?_map, hb]
  · have ha := h.aq b hbm
    have hvb := hg b hbm
    have hbd : i + 1 ≤ 4294967296 := by simp at hlt; omega
    have hbd' : min i s.queues.length + 1 ≤ 4294967296 := by omega
    have fin : ∀ q, remQ1 b p = q → ∀ st', Imp ⟨C0, [], []⟩ st' ⟨[(6, I (i + 1 : Nat)), (2, .ptr 128 0), (3, .ptr 192 0), (5, .ptr 320 0), (4, .ptr 256 0)], [(128, s.c), (192, p.c), (256, [nilA, nilA]), (320, [.sl (.own 2688 0) 8 (((s.queues.take i).map fun q => remQ1 q p).map Queue.c ++ [q.c]), nilA])]⟩ → J st' := fun q hq st' h => by
      refine hJ st' (i + 1) ⟨by simp at hlt; omega, trivial⟩ (by simp at hlt; omega) ?_
      have e : ((s.queues.take (i + 1)).map fun q => remQ1 q p).map Queue.c = ((s.queues.take i).map fun q => remQ1 q p).map Queue.c ++ [q.c] := by
        rw [List.take_add_one, hb]; simp [hq]
      rw [e]; exact h
    clear hJ
    refine call_pure (f89_ok b p (by omega)) (by simp (disch := omega) only [go_sem]) rfl ?_
    rw [has_q hvb p]
    cases hp : hasP (procsQ b) p
    · simp (disch := omega) only [go_sem, List.length_map, List.length_take]
      refine fin b (by simp [remQ1, hp]) _ (Imp.weak (by simp (disch := omega) only [go_sem]) ?_)
      simp (disch := omega) only [go_sem]
    simp (disch := omega) only [go_sem]
    refine call_pure (f90_ok b p ha) (by simp (disch := omega) only [go_sem]) rfl ?_
    have e : remQ b p = (endQ (cutQ b p), (advQ (cutQ b p)).2, 0) := by simp [remQ, hvb, hp]
    simp (disch := omega) only [go_sem, e, List.length_map, List.length_take]
    refine fin { endQ (cutQ b p) with gen := b.gen } (by simp [remQ1, hvb, hp]) _ (Imp.weak (by simp (disch := omega) only [go_sem]) ?_)
    simp (disch := omega) only [go_sem]
  subst hil
  rw [List.take_length]
  clear hJ
  refine loop_intro (α := Nat) (fun i => ⟨[(11, I i), (2, .ptr 128 0), (3, .ptr 192 0), (5, .ptr 320 0), (4, .ptr 256 0)], [(128, s.c), (192, p.c), (256, [nilA, nilA]), (320, [.sl (.own 2688 0) 8 ((s.queues.map fun q => remQ1 q p).map Queue.c), .sl (.own 4288 0) 9 ((remN (s.needs.take i) p).map Need.c)])]⟩) (fun i => i ≤ (s.needs).length ∧ True) (fun i => (s.needs).length - i) 0 ⟨by omega, trivial⟩ ?_ ?_
  · refine Imp.weak ?_ ?_
    all_goals (try simp (disch := omega) only [go_sem])
    all_goals (try (repeat' (with_reducible apply And.intro)))
    all_goals (first | exact .nilOwn (by omega) | exact .nilNo (by omega) | exact .sl (by simp []) | exact .int (by simp []) | exact .eq (by simp []))
  rintro i ⟨hi, hP⟩ J hJ
  simp (disch := omega) only [go_sem]
  refine And.intro (fun hlt => ?_) (fun hge => ?_)
  rotate_left
  have hil : i = (s.needs).length := by simp at hge; omega
  rotate_left
  obtain ⟨b, hb⟩ : ∃ b, (s.needs)[i]? = some b := ⟨_, List.getElem?_eq_getElem (by simp at hlt; omega)⟩
  have hbm := List.mem_of_getElem? hb
  have hlt2 : i < (s.needs).length := by simp at hlt; omega
  refine draw_mk 7 [([], [2]), ([0], [51]), ([], [11]), ([0, 1, 2], [52, 53]), ([0, 1, 2, 3], [54]), ([0, 1, 2, 3, 4], [55]), ([], [3]), ([0, 1, 2, 3, 4, 5, 6], [])] fol (by kernel_rfl) ?_
  simp (disch := omega) only [go_sem, List.getElem?_map, hb]
  · have hbd : (remN (s.needs.take i) p).length + 1 ≤ 4294967296 := by
      have : (remN (s.needs.take i) p).length ≤ (s.needs.take i).length := List.length_filter_le _ _
      rw [List.length_take] at this; omega
    have e1 : remN (s.needs.take (i + 1)) p = if b.proc = p then remN (s.needs.take i) p else remN (s.needs.take i) p ++ [b] := by
      simp only [remN, List.take_add_one, hb, Option.toList_some, List.filter_append, List.filter_cons, List.filter_nil]
      by_cases h : b.proc = p <;> simp [h]
    by_cases hne : b.proc = p
    · rw [if_pos hne] at e1
      simp (disch := omega) only [go_sem, hne, decide_true]
      refine hJ _ (i + 1) ⟨by simp at hlt; omega, trivial⟩ (by simp at hlt; omega) (Imp.weak (by simp (disch := omega) only [go_sem]) ?_)
      rw [e1]
      simp (disch := omega) only [go_sem]
    · rw [if_neg hne] at e1
      simp (disch := omega) only [go_sem, hne, decide_false]
      refine draw_all (let o0 : OT := .done; let o1 : OT := .pick [(10, o0)]; let o2 : OT := .pick [(9, o1)]; let o3 : OT := .pick [(8, o2)]; let o4 : OT := .pick [(7, o3)]; let o5 : OT := .pick [(6, o4)]; let o6 : OT := .pick [(5, o5)]; let o7 : OT := .pick [(4, o6)]; let o8 : OT := .pick [(3, o6)]; let o9 : OT := .pick [(3, o7), (4, o8)]; let o10 : OT := .pick [(2, o8)]; let o11 : OT := .pick [(2, o9), (4, o10)]; let o12 : OT := .pick [(1, o3)]; let o13 : OT := .pick [(1, o4), (7, o12)]; let o14 : OT := .pick [(1, o5), (6, o13)]; let o15 : OT := .pick [(1, o6), (5, o14)]; let o16 : OT := .pick [(1, o7), (4, o15)]; let o17 : OT := .pick [(1, o8), (3, o15)]; let o18 : OT := .pick [(1, o9), (3, o16), (4, o17)]; let o19 : OT := .pick [(1, o10), (2, o17)]; let o20 : OT := .pick [(1, o11), (2, o18), (4, o19)]; let o21 : OT := .pick [(0, o12)]; let o22 : OT := .pick [(0, o13), (7, o21)]; let o23 : OT := .pick [(0, o14), (6, o22)]; let o24 : OT := .pick [(0, o15), (5, o23)]; let o25 : OT := .pick [(0, o16), (4, o24)]; let o26 : OT := .pick [(0, o17), (3, o24)]; let o27 : OT := .pick [(0, o18), (3, o25), (4, o26)]; let o28 : OT := .pick [(0, o19), (2, o26)]; let o29 : OT := .pick [(0, o20), (2, o27), (4, o28)]; o29) fol (by kernel_rfl) ?_
      simp (disch := omega) only [go_sem, List.getElem?_map, hb]
      have step : ∀ st', Imp ⟨C0, [], []⟩ st' ⟨[(11, I (i + 1 : Nat)), (2, .ptr 128 0), (3, .ptr 192 0), (5, .ptr 320 0), (4, .ptr 256 0)], [(128, s.c), (192, p.c), (256, [nilA, nilA]), (320, [.sl (.own 2688 0) 8 ((s.queues.map fun q => remQ1 q p).map Queue.c), .sl (.own 4288 0) 9 ((remN (s.needs.take i) p).map Need.c ++ [b.c])])]⟩ → J st' := fun st' h => by
        refine hJ st' (i + 1) ⟨by simp at hlt; omega, trivial⟩ (by simp at hlt; omega) ?_
        rw [e1, List.map_append]
        exact h
      clear hJ
      repeat' (with_reducible refine And.intro ?_ ?_)
      all_goals (refine step _ (Imp.weak ?_ ?_))
      all_goals (simp (disch := omega) only [go_sem])
  · subst hil
    simp (disch := omega) only [go_sem, List.take_length]
    refine ret_mk ⟨[], [], [2688, 4288]⟩ _ (by (try simp (disch := omega) only [go_sem, resVs, resV]) <;> rfl) ⟨rfl, rfl⟩ (by simp) ?_ trivial
    simp (disch := omega) only [go_sem, remS]
    exact .eq (by simp)
theorem FreeS_valid {s : WS} (hv : validS s = true) : FreeS s = freeS s := by simp [FreeS, hv]
theorem ReduceS_valid {s : WS} (hv : validS s = true) : ReduceS s = redS s := by simp [ReduceS, hv]
theorem f17_ok (s : WS) (h : Few s) : FnOK C0 17 [.agg s.c] [] (.tup [procsV (ReduceS s).1, procsV (ReduceS s).2]) [] := by
  refine FnOK.intro (fn := Tryz.f17) (c := Tryz.f17.body.getD .skip) (by kernel_rfl) (by kernel_rfl) (by kernel_rfl) (by kernel_rfl) (by simp [Tryz.f17]) (by simp [names]) ?_
  unfold Tryz.f17
  simp (disch := omega) only [go_sem]
  refine call_pure (f41_ok s h) (by simp (disch := omega) only [go_sem]) rfl ?_
  cases hv : validS s
  · have e : ReduceS s = ([], []) := by simp [ReduceS, hv]
    simp (disch := omega) only [go_sem, e]
    refine ret_mk ⟨[], [], []⟩ _ (by (try simp (disch := omega) only [go_sem, resVs, resV]) <;> rfl) ⟨rfl, rfl⟩ (by simp) ?_ trivial
    simp (disch := omega) only [go_sem]
    refine .tup (WeakArgs.weakL ?_)
    simp (disch := omega) only [go_sem]
    repeat' (with_reducible apply And.intro)
    all_goals (first | exact .nilNo (by omega) | exact .agg (WeakArgs.weakL (by simp (disch := omega) only [go_sem])))
  rw [ReduceS_valid hv]
  simp (disch := omega) only [go_sem]
  refine call_pure (f30_ok s h) (by simp (disch := omega) only [go_sem]) rfl ?_
  rw [FreeS_valid hv]
  simp (disch := omega) only [go_sem]
  refine loop_intro (α := WS × List Proc) (fun x => ⟨[(5, procsV (freeS x.1)), (4, .sl (.own 1344 0) 3 (x.2.map Proc.c)), (1, .ptr 64 0)], [(64, x.1.c)]⟩) (fun x => Few x.1 ∧ validS x.1 = true ∧ x.2.length + (procsS x.1).length ≤ 1000000 ∧ x.2 ++ (redS x.1).1 = (redS s).1 ∧ (redS x.1).2 = (redS s).2) (fun x => (procsS x.1).length) (s, []) ⟨h, hv, by have := procsS_len h; simp; omega, rfl, rfl⟩ ?_ ?_
  · exact Imp.weak (by simp (disch := omega) only [go_sem]) (by simp (disch := omega) only [go_sem])
  rintro ⟨t, gs⟩ ⟨i1, i2, i3, i4, i5⟩ J hJ
  replace i1 : Few t := i1
  replace i2 : validS t = true := i2
  replace i3 : gs.length + (procsS t).length ≤ 1000000 := i3
  replace i4 : gs ++ (redS t).1 = (redS s).1 := i4
  replace i5 : (redS t).2 = (redS s).2 := i5
  have ig := validS_good i2
  rw [redS_def ig] at i4 i5
  cases hf : freeS t with
  | nil =>
    rw [hf] at i4 i5
    have e0 : (0 < ((0 : Nat) : Int)) = False := by simp
    simp (disch := omega) only [go_sem, hf, List.map_nil, List.length_nil, e0, decide_false]
    refine call_pure (f29_ok t i1) (by simp (disch := omega) only [go_sem]) rfl ?_
    simp (disch := omega) only [go_sem]
    refine ret_mk ⟨[], [], [1344]⟩ _ (by (try simp (disch := omega) only [go_sem, resVs, resV]) <;> rfl) ⟨rfl, rfl⟩ (by simp) ?_ trivial
    simp (disch := omega) only [go_sem]
    simp only [List.append_nil] at i4 i5
    exact .eq (by rw [← i4, ← i5])
  | cons p l =>
    simp only [hf] at i4 i5
    have hm : p ∈ procsS t := isFree_mem (by rw [hf]; simp)
    have hd := procs_dec ig hm
    have e0 : (0 < (l.length : Int) + 1) = True := eq_true (by omega)
    have hbd : gs.length + 1 ≤ 4294967296 := by omega
    simp (disch := omega) only [go_sem, hf, procsV, e0]
    refine draw_mk 4 [([], [1]), ([], [5]), ([1], [23]), ([1, 2], [24]), ([0, 1, 2, 3], []), ([0, 1, 2, 3, 4], [])] fol (by kernel_rfl) ?_
    simp (disch := omega) only [go_sem]
    first | ((with_reducible show callB _ _ _ _ _ _); refine call_pure (f49_ok t p i1 ig) (by simp (disch := omega) only [go_sem]) rfl ?_) | ((with_reducible show freeCallB _ _ _ _ _ _ _ _ _ _); refine freeCall_mk ⟨⟨[], [], []⟩, [], []⟩ (f49_ok t p i1 ig) (by simp (disch := omega) only [go_sem]) rfl rfl trivial (.inl rfl) ?_)
    simp (disch := omega) only [go_sem]
    have hfew := few_rem i1 p
    have hval := validS_rem i2 p
    refine call_pure (f30_ok (remS t p) hfew) (by simp (disch := omega) only [go_sem]) rfl ?_
    rw [FreeS_valid hval]
    simp (disch := omega) only [go_sem]
    refine hJ _ (remS t p, gs ++ [p]) ⟨hfew, hval, by simp; omega, by rw [← i4]; simp, i5⟩ hd (Imp.weak ?_ ?_)
    · simp (disch := omega) only [go_sem]
      exact .sl (by simp [Proc.c])
    · simp (disch := omega) only [go_sem]
theorem f28_ok (s : WS) (l : List Proc) (h : Few s) (hl : l.length ≤ 1000000) : FnOK C0 28 [.agg s.c, procsV l] [] (.tup [.agg (RestrictS s l).1.c, I (RestrictS s l).2]) [] := by
  have hpl := procsS_len h
  refine FnOK.intro (fn := Tryz.f28) (c := Tryz.f28.body.getD .skip) (by kernel_rfl) (by kernel_rfl) (by kernel_rfl) (by kernel_rfl) (by simp [Tryz.f28]) (by simp [names]) ?_
  unfold Tryz.f28
  simp (disch := omega) only [go_sem]
  refine call_pure (f41_ok s h) (by simp (disch := omega) only [go_sem]) rfl ?_
  cases hv : validS s
  · have e : RestrictS s l = (wsE, 2) := by simp [RestrictS, hv]
    simp (disch := omega) only [go_sem, e, wsE]
    refine ret_mk ⟨[], [], []⟩ _ (by (try simp (disch := omega) only [go_sem, resVs, resV]) <;> rfl) ⟨rfl, rfl⟩ (by simp) ?_ trivial
    simp (disch := omega) only [go_sem]
    refine .tup (WeakArgs.weakL ?_)
    simp (disch := omega) only [go_sem]
    repeat' (with_reducible apply And.intro)
    all_goals (first | exact .nilNo (by omega) | exact .agg (WeakArgs.weakL (by simp (disch := omega) only [go_sem])))
  have e : RestrictS s l = (resS s l, 0) := by simp [RestrictS, hv]
  rw [e]
  simp (disch := omega) only [go_sem]
  refine call_pure (f29_ok s h) (by simp (disch := omega) only [go_sem]) rfl ?_
  simp (disch := omega) only [go_sem]
  refine loop_intro (α := Nat) (fun i => ⟨[(7, I i), (6, procsV (procsS s)), (2, .ptr 128 0), (1, procsV l), (4, .ptr 256 0)], [(128, (((procsS s).take i).foldl (fun x p => if hasP l p then x else remS x p) s).c), (256, [nilA, nilA])]⟩) (fun i => i ≤ ((procsS s)).length ∧ Few (((procsS s).take i).foldl (fun x p => if hasP l p then x else remS x p) s) ∧ GoodS (((procsS s).take i).foldl (fun x p => if hasP l p then x else remS x p) s)) (fun i => ((procsS s)).length - i) 0 ⟨by omega, ⟨h, validS_good hv⟩⟩ ?_ ?_
  · refine Imp.weak ?_ ?_
    all_goals (try simp (disch := omega) only [go_sem])
    all_goals (try (repeat' (with_reducible apply And.intro)))
    all_goals (first | exact .nilOwn (by omega) | exact .nilNo (by omega) | exact .sl (by simp []) | exact .int (by simp []) | exact .eq (by simp []))
  rintro i ⟨hi, hP⟩ J hJ
  simp (disch := omega) only [go_sem]
  refine And.intro (fun hlt => ?_) (fun hge => ?_)
  rotate_left
  have hil : i = ((procsS s)).length := by simp at hge; omega
  rotate_left
  obtain ⟨b, hb⟩ : ∃ b, ((procsS s))[i]? = some b := ⟨_, List.getElem?_eq_getElem (by simp at hlt; omega)⟩
  have hbm := List.mem_of_getElem? hb
  have hlt2 : i < ((procsS s)).length := by simp at hlt; omega
  simp (disch := omega) only [go_sem, List.getElem?_map, hb]
  · have e : ((procsS s).take (i + 1)).foldl (fun x p => if hasP l p then x else remS x p) s = if hasP l b then ((procsS s).take i).foldl (fun x p => if hasP l p then x else remS x p) s else remS (((procsS s).take i).foldl (fun x p => if hasP l p then x else remS x p) s) b := by
      rw [List.take_add_one, hb, Option.toList_some, List.foldl_append]; rfl
    generalize ((procsS s).take i).foldl (fun x p => if hasP l p then x else remS x p) s = t at hP e
    refine call_pure (f19_ok l b hl) (by simp (disch := omega) only [go_sem]) rfl ?_
    cases hh : hasP l b
    · rw [if_neg (by simp [hh])] at e
      simp (disch := omega) only [go_sem, Bool.not_false]
      refine draw_mk 5 [([], [2]), ([], [6]), ([], [7]), ([1, 2], [28, 29]), ([1, 2, 3], [30]), ([0, 1, 2, 3, 4], []), ([0, 1, 2, 3, 4, 5], [])] fol (by kernel_rfl) ?_
      simp (disch := omega) only [go_sem, List.getElem?_map, hb]
      first | ((with_reducible show callB _ _ _ _ _ _); refine call_pure (f49_ok t b hP.1 hP.2) (by simp (disch := omega) only [go_sem]) rfl ?_) | ((with_reducible show freeCallB _ _ _ _ _ _ _ _ _ _); refine freeCall_mk ⟨⟨[], [], []⟩, [], []⟩ (f49_ok t b hP.1 hP.2) (by simp (disch := omega) only [go_sem]) rfl rfl trivial (.inl rfl) ?_)
      simp (disch := omega) only [go_sem]
      refine hJ _ (i + 1) ⟨by simp at hlt; omega, by rw [e]; exact ⟨few_rem hP.1 b, good_rem hP.2 b⟩⟩ (by simp at hlt; omega) (Imp.weak (by simp (disch := omega) only [go_sem]) ?_)
      rw [e]; simp (disch := omega) only [go_sem]
    · rw [if_pos hh] at e
      simp (disch := omega) only [go_sem, Bool.not_true]
      refine hJ _ (i + 1) ⟨by simp at hlt; omega, by rw [e]; exact hP⟩ (by simp at hlt; omega) (Imp.weak (by simp (disch := omega) only [go_sem]) ?_)
      rw [e]; simp (disch := omega) only [go_sem]
  · subst hil
    rw [List.take_length] at hP ⊢
    refine ret_mk ⟨[], [], []⟩ _ (by (try simp (disch := omega) only [go_sem, resVs, resV]) <;> rfl) ⟨rfl, rfl⟩ (by simp) ?_ trivial
    simp (disch := omega) only [go_sem]
    simp (disch := omega) only [go_sem, resS]
end Go.Rd
open Go Go.Abs Go.Proofs
set_option maxRecDepth 100000
namespace Go.Rd
theorem f18_ok (l m : List Proc) (hl : l.length ≤ 1000000) (hm : m.length ≤ 1000000) : FnOK C0 18 [procsV l, procsV m] [] (B (decide (l = m))) [] := by
  refine FnOK.intro (fn := Tryz.f18) (c := Tryz.f18.body.getD .skip) (by kernel_rfl) (by kernel_rfl) (by kernel_rfl) (by kernel_rfl) (by simp [Tryz.f18]) (by simp [names]) ?_
  unfold Tryz.f18
  by_cases hn : l.length = m.length
  rotate_left
  · have e1 : ((l.length : Int) != m.length) = true := by simp only [bne_iff_ne, ne_eq]; omega
    have e2 : l ≠ m := fun h => hn (by rw [h])
    simp (disch := omega) only [go_sem, e1]
    refine ret_mk ⟨[], [], []⟩ _ (by (try simp (disch := omega) only [go_sem, resVs, resV]) <;> rfl) ⟨rfl, rfl⟩ (by simp) ?_ trivial
    simp (disch := omega) only [go_sem]
    exact wb (by simp [e2])
  have e1 : ((l.length : Int) != m.length) = false := by simp [hn]
  simp (disch := omega) only [go_sem, e1]
  refine loop_intro (α := Nat) (fun i => ⟨[(5, I i), (0, procsV l), (1, procsV m)], []⟩) (fun i => i ≤ (l).length ∧ l.take i = m.take i) (fun i => (l).length - i) 0 ⟨by omega, rfl⟩ ?_ ?_
  · refine Imp.weak ?_ ?_
    all_goals (try simp (disch := omega) only [go_sem])
    all_goals (try (repeat' (with_reducible apply And.intro)))
    all_goals (first | exact .nilOwn (by omega) | exact .nilNo (by omega) | exact .sl (by simp []) | exact .int (by simp []) | exact .eq (by simp []))
  rintro i ⟨hi, hP⟩ J hJ
  simp (disch := omega) only [go_sem]
  refine And.intro (fun hlt => ?_) (fun hge => ?_)
  rotate_left
  have hil : i = (l).length := by simp at hge; omega
  rotate_left
  obtain ⟨b, hb⟩ : ∃ b, (l)[i]? = some b := ⟨_, List.getElem?_eq_getElem (by simp at hlt; omega)⟩
  have hbm := List.mem_of_getElem? hb
  have hlt2 : i < (l).length := by simp at hlt; omega
  refine draw_mk 8 [([], [0]), ([], [5]), ([0, 1], [17, 18]), ([0, 1, 2], [19]), ([], [1]), ([], [5]), ([4, 5], [21, 22]), ([4, 5, 6], [23]), ([0, 1, 2, 3, 4, 5, 6, 7], [])] fol (by kernel_rfl) ?_
  simp (disch := omega) only [go_sem, List.getElem?_map, hb]
  · obtain ⟨c, hc⟩ : ∃ c, m[i]? = some c := ⟨_, List.getElem?_eq_getElem (by omega)⟩
    simp (disch := omega) only [go_sem, List.getElem?_map, hb, hc]
    by_cases hbc : b = c
    · simp (disch := omega) only [go_sem, hbc, decide_true]
      refine hJ _ (i + 1) ⟨by simp at hlt; omega, (by rw [List.take_add_one, List.take_add_one, hb, hc, hP, hbc])⟩ (by simp at hlt; omega) (Imp.weak (by simp (disch := omega) only [go_sem]) (by simp (disch := omega) only [go_sem]))
    · simp (disch := omega) only [go_sem, hbc, decide_false]
      refine ret_mk ⟨[], [], []⟩ _ (by (try simp (disch := omega) only [go_sem, resVs, resV]) <;> rfl) ⟨rfl, rfl⟩ (by simp) ?_ trivial
      simp (disch := omega) only [go_sem]
      refine wb ?_
      have : l ≠ m := fun h => hbc (by rw [h, hc] at hb; simpa using hb.symm)
      simp [this]
  · subst hil
    rw [List.take_length, hn, List.take_length] at hP
    refine ret_mk ⟨[], [], []⟩ _ (by (try simp (disch := omega) only [go_sem, resVs, resV]) <;> rfl) ⟨rfl, rfl⟩ (by simp) ?_ trivial
    simp (disch := omega) only [go_sem]
    exact wb (by simp [hP])
end Go.Rd
open Go Go.Abs Go.Proofs
set_option maxRecDepth 100000
namespace Go.Rd
theorem f159_ok (l : List Hold) (hl : l.length ≤ 1000000) : FnOK C0 159 [holdsV l, holdsV l] [] (B true) [] := by
  refine FnOK.intro (fn := Tryz.f159) (c := Tryz.f159.body.getD .skip) (by kernel_rfl) (by kernel_rfl) (by kernel_rfl) (by kernel_rfl) (by simp [Tryz.f159]) (by simp [names]) ?_
  unfold Tryz.f159
  simp (disch := omega) only [go_sem, bne_self_eq_false]
  refine loop_intro (α := Nat) (fun i => ⟨[(5, I i), (0, holdsV l), (1, holdsV l)], []⟩) (fun i => i ≤ (l).length ∧ True) (fun i => (l).length - i) 0 ⟨by omega, trivial⟩ ?_ ?_
  · refine Imp.weak ?_ ?_
    all_goals (try simp (disch := omega) only [go_sem])
    all_goals (try (repeat' (with_reducible apply And.intro)))
    all_goals (first | exact .nilOwn (by omega) | exact .nilNo (by omega) | exact .sl (by simp []) | exact .int (by simp []) | exact .eq (by simp []))
  rintro i ⟨hi, hP⟩ J hJ
  simp (disch := omega) only [go_sem]
  refine And.intro (fun hlt => ?_) (fun hge => ?_)
  rotate_left
  have hil : i = (l).length := by simp at hge; omega
  rotate_left
  obtain ⟨b, hb⟩ : ∃ b, (l)[i]? = some b := ⟨_, List.getElem?_eq_getElem (by simp at hlt; omega)⟩
  have hbm := List.mem_of_getElem? hb
  have hlt2 : i < (l).length := by simp at hlt; omega
  refine draw_mk 8 [([], [0]), ([], [5]), ([0, 1], [17, 18]), ([0, 1, 2], [19]), ([], [1]), ([], [5]), ([4, 5], [21, 22]), ([4, 5, 6], [23]), ([0, 1, 2, 3, 4, 5, 6, 7], [])] fol (by kernel_rfl) ?_
  simp (disch := omega) only [go_sem, List.getElem?_map, hb]
  · refine hJ _ (i + 1) ⟨by simp at hlt; omega, trivial⟩ (by simp at hlt; omega) (Imp.weak (by simp (disch := omega) only [go_sem]) (by simp (disch := omega) only [go_sem]))
  · subst hil
    refine ret_mk ⟨[], [], []⟩ _ (by (try simp (disch := omega) only [go_sem, resVs, resV]) <;> rfl) ⟨rfl, rfl⟩ (by simp) ?_ trivial
    simp (disch := omega) only [go_sem]
theorem f160_ok (l : List Wait) (hl : l.length ≤ 1000000) : FnOK C0 160 [waitsV l, waitsV l] [] (B true) [] := by
  refine FnOK.intro (fn := Tryz.f160) (c := Tryz.f160.body.getD .skip) (by kernel_rfl) (by kernel_rfl) (by kernel_rfl) (by kernel_rfl) (by simp [Tryz.f160]) (by simp [names]) ?_
  unfold Tryz.f160
  simp (disch := omega) only [go_sem, bne_self_eq_false]
  refine loop_intro (α := Nat) (fun i => ⟨[(5, I i), (0, waitsV l), (1, waitsV l)], []⟩) (fun i => i ≤ (l).length ∧ True) (fun i => (l).length - i) 0 ⟨by omega, trivial⟩ ?_ ?_
  · refine Imp.weak ?_ ?_
    all_goals (try simp (disch := omega) only [go_sem])
    all_goals (try (repeat' (with_reducible apply And.intro)))
    all_goals (first | exact .nilOwn (by omega) | exact .nilNo (by omega) | exact .sl (by simp []) | exact .int (by simp []) | exact .eq (by simp []))
  rintro i ⟨hi, hP⟩ J hJ
  simp (disch := omega) only [go_sem]
  refine And.intro (fun hlt => ?_) (fun hge => ?_)
  rotate_left
  have hil : i = (l).length := by simp at hge; omega
  rotate_left
  obtain ⟨b, hb⟩ : ∃ b, (l)[i]? = some b := ⟨_, List.getElem?_eq_getElem (by simp at hlt; omega)⟩
  have hbm := List.mem_of_getElem? hb
  have hlt2 : i < (l).length := by simp at hlt; omega
  refine draw_mk 8 [([], [0]), ([], [5]), ([0, 1], [17, 18]), ([0, 1, 2], [19]), ([], [1]), ([], [5]), ([4, 5], [21, 22]), ([4, 5, 6], [23]), ([0, 1, 2, 3, 4, 5, 6, 7], [])] fol (by kernel_rfl) ?_
  simp (disch := omega) only [go_sem, List.getElem?_map, hb]
  · refine hJ _ (i + 1) ⟨by simp at hlt; omega, trivial⟩ (by simp at hlt; omega) (Imp.weak (by simp (disch := omega) only [go_sem]) (by simp (disch := omega) only [go_sem]))
  · subst hil
    refine ret_mk ⟨[], [], []⟩ _ (by (try simp (disch := omega) only [go_sem, resVs, resV]) <;> rfl) ⟨rfl, rfl⟩ (by simp) ?_ trivial
    simp (disch := omega) only [go_sem]
theorem f114_ok (q : Queue) (h1 : q.holds.length ≤ 1000000) (h2 : q.convs.length ≤ 1000000) (h3 : q.waits.length ≤ 1000000) : FnOK C0 114 [.agg q.c, .agg q.c] [] (B true) [] := by
  refine FnOK.intro (fn := Tryz.f114) (c := Tryz.f114.body.getD .skip) (by kernel_rfl) (by kernel_rfl) (by kernel_rfl) (by kernel_rfl) (by simp [Tryz.f114]) (by simp [names]) ?_
  unfold Tryz.f114
  simp (disch := omega) only [go_sem, beq_self_eq_true, Bool.and_self]
  first | ((with_reducible show callB _ _ _ _ _ _); refine call_pure (f159_ok q.holds h1) (by simp (disch := omega) only [go_sem]) rfl ?_) | ((with_reducible show freeCallB _ _ _ _ _ _ _ _ _ _); refine freeCall_mk ⟨⟨[], [], []⟩, [], []⟩ (f159_ok q.holds h1) (by simp (disch := omega) only [go_sem]) rfl rfl trivial (.inl rfl) ?_)
  simp (disch := omega) only [go_sem]
  first | ((with_reducible show callB _ _ _ _ _ _); refine call_pure (f160_ok q.convs h2) (by simp (disch := omega) only [go_sem]) rfl ?_) | ((with_reducible show freeCallB _ _ _ _ _ _ _ _ _ _); refine freeCall_mk ⟨⟨[], [], []⟩, [], []⟩ (f160_ok q.convs h2) (by simp (disch := omega) only [go_sem]) rfl rfl trivial (.inl rfl) ?_)
  simp (disch := omega) only [go_sem]
  first | ((with_reducible show callB _ _ _ _ _ _); refine call_pure (f160_ok q.waits h3) (by simp (disch := omega) only [go_sem]) rfl ?_) | ((with_reducible show freeCallB _ _ _ _ _ _ _ _ _ _); refine freeCall_mk ⟨⟨[], [], []⟩, [], []⟩ (f160_ok q.waits h3) (by simp (disch := omega) only [go_sem]) rfl rfl trivial (.inl rfl) ?_)
  simp (disch := omega) only [go_sem]
  refine ret_mk ⟨[], [], []⟩ _ (by (try simp (disch := omega) only [go_sem, resVs, resV]) <;> rfl) ⟨rfl, rfl⟩ (by simp) ?_ trivial
  simp (disch := omega) only [go_sem]
theorem f66_ok (l : List Queue) (hl : l.length ≤ 1000000) (ha : ∀ q ∈ l, allQ q ≤ 100) : FnOK C0 66 [queuesV l, queuesV l] [] (B true) [] := by
  refine FnOK.intro (fn := Tryz.f66) (c := Tryz.f66.body.getD .skip) (by kernel_rfl) (by kernel_rfl) (by kernel_rfl) (by kernel_rfl) (by simp [Tryz.f66]) (by simp [names]) ?_
  unfold Tryz.f66
  simp (disch := omega) only [go_sem, bne_self_eq_false]
  refine loop_intro (α := Nat) (fun i => ⟨[(5, I i), (0, queuesV l), (1, queuesV l)], []⟩) (fun i => i ≤ (l).length ∧ True) (fun i => (l).length - i) 0 ⟨by omega, trivial⟩ ?_ ?_
  · refine Imp.weak ?_ ?_
    all_goals (try simp (disch := omega) only [go_sem])
    all_goals (try (repeat' (with_reducible apply And.intro)))
    all_goals (first | exact .nilOwn (by omega) | exact .nilNo (by omega) | exact .sl (by simp []) | exact .int (by simp []) | exact .eq (by simp []))
  rintro i ⟨hi, hP⟩ J hJ
  simp (disch := omega) only [go_sem]
  refine And.intro (fun hlt => ?_) (fun hge => ?_)
  rotate_left
  have hil : i = (l).length := by simp at hge; omega
  rotate_left
  obtain ⟨b, hb⟩ : ∃ b, (l)[i]? = some b := ⟨_, List.getElem?_eq_getElem (by simp at hlt; omega)⟩
  have hbm := List.mem_of_getElem? hb
  have hlt2 : i < (l).length := by simp at hlt; omega
  refine draw_mk 8 [([], [0]), ([], [5]), ([0, 1], [17, 18]), ([0, 1, 2], [19]), ([], [1]), ([], [5]), ([4, 5], [21, 22]), ([4, 5, 6], [23]), ([0, 1, 2, 3, 4, 5, 6, 7], []), ([0, 1, 2, 3, 4, 5, 6, 7, 8], [])] fol (by kernel_rfl) ?_
  simp (disch := omega) only [go_sem, List.getElem?_map, hb]
  · obtain ⟨h1, h2, h3⟩ := allQ_parts (ha b hbm)
    first | ((with_reducible show callB _ _ _ _ _ _); refine call_pure (f114_ok b h1 h2 h3) (by simp (disch := omega) only [go_sem]) rfl ?_) | ((with_reducible show freeCallB _ _ _ _ _ _ _ _ _ _); refine freeCall_mk ⟨⟨[], [], []⟩, [], []⟩ (f114_ok b h1 h2 h3) (by simp (disch := omega) only [go_sem]) rfl rfl trivial (.inl rfl) ?_)
    simp (disch := omega) only [go_sem]
    refine hJ _ (i + 1) ⟨by simp at hlt; omega, trivial⟩ (by simp at hlt; omega) (Imp.weak (by simp (disch := omega) only [go_sem]) (by simp (disch := omega) only [go_sem]))
  · subst hil
    refine ret_mk ⟨[], [], []⟩ _ (by (try simp (disch := omega) only [go_sem, resVs, resV]) <;> rfl) ⟨rfl, rfl⟩ (by simp) ?_ trivial
    simp (disch := omega) only [go_sem]
theorem f115_ok : ∀ (N : Nat) (e : Expr), SizeOf.sizeOf e < N → FnOK C0 115 [.agg e.c, .agg e.c] [] (B true) []
  | 0, _, h => by omega
  | N + 1, e, h => by
    refine FnOK.assume (fn := Tryz.f115) (c := Tryz.f115.body.getD .skip) (by kernel_rfl) (by kernel_rfl) (by kernel_rfl) fun hlen => ?_
    simp only [lensL, lens, Expr.c_def, List.length_map, and_true, true_and] at hlen
    refine FnOK.intro (fn := Tryz.f115) (c := Tryz.f115.body.getD .skip) (by kernel_rfl) (by kernel_rfl) (by kernel_rfl) (by kernel_rfl) (by simp [Tryz.f115]) (by simp [names]) ?_
    unfold Tryz.f115
    simp (disch := omega) only [go_sem, bne_self_eq_false, beq_self_eq_true, Bool.and_self, Bool.not_true]
    refine loop_intro (α := Nat) (fun i => ⟨[(5, I i), (2, .ptr 128 0), (3, .ptr 192 0)], [(128, e.c), (192, e.c)]⟩) (fun i => i ≤ (e.kids).length ∧ True) (fun i => (e.kids).length - i) 0 ⟨by omega, trivial⟩ ?_ ?_
    · refine Imp.weak ?_ ?_
      all_goals (try simp (disch := omega) only [go_sem])
      all_goals (try (repeat' (with_reducible apply And.intro)))
      all_goals (first | exact .nilOwn (by omega) | exact .nilNo (by omega) | exact .sl (by simp []) | exact .int (by simp []) | exact .eq (by simp []))
    rintro i ⟨hi, hP⟩ J hJ
    simp (disch := omega) only [go_sem]
    refine And.intro (fun hlt => ?_) (fun hge => ?_)
    rotate_left
    have hil : i = (e.kids).length := by simp at hge; omega
    rotate_left
    obtain ⟨b, hb⟩ : ∃ b, (e.kids)[i]? = some b := ⟨_, List.getElem?_eq_getElem (by simp at hlt; omega)⟩
    have hbm := List.mem_of_getElem? hb
    have hlt2 : i < (e.kids).length := by simp at hlt; omega
    refine draw_mk 10 [([], [2]), ([0], [34]), ([], [5]), ([0, 1, 2], [35, 36]), ([0, 1, 2, 3], [37]), ([], [3]), ([5], [39]), ([], [5]), ([5, 6, 7], [40, 41]), ([5, 6, 7, 8], [42]), ([0, 1, 2, 3, 4, 5, 6, 7, 8, 9], []), ([0, 1, 2, 3, 4, 5, 6, 7, 8, 9, 10], [])] fol (by kernel_rfl) ?_
    simp (disch := omega) only [go_sem, List.getElem?_map, hb]
    · have hsz := kid_lt hbm
      first | ((with_reducible show callB _ _ _ _ _ _); refine call_pure (f115_ok N b (by omega)) (by simp (disch := omega) only [go_sem]) rfl ?_) | ((with_reducible show freeCallB _ _ _ _ _ _ _ _ _ _); refine freeCall_mk ⟨⟨[], [], []⟩, [], []⟩ (f115_ok N b (by omega)) (by simp (disch := omega) only [go_sem]) rfl rfl trivial (.inl rfl) ?_)
      simp (disch := omega) only [go_sem]
      refine hJ _ (i + 1) ⟨by simp at hlt; omega, trivial⟩ (by simp at hlt; omega) (Imp.weak (by simp (disch := omega) only [go_sem]) (by simp (disch := omega) only [go_sem]))
    · subst hil
      refine ret_mk ⟨[], [], []⟩ _ (by (try simp (disch := omega) only [go_sem, resVs, resV]) <;> rfl) ⟨rfl, rfl⟩ (by simp) ?_ trivial
      simp (disch := omega) only [go_sem]
theorem f67_ok (n : Need) : FnOK C0 67 [.agg n.c, .agg n.c] [] (B true) [] := by
  refine FnOK.intro (fn := Tryz.f67) (c := Tryz.f67.body.getD .skip) (by kernel_rfl) (by kernel_rfl) (by kernel_rfl) (by kernel_rfl) (by simp [Tryz.f67]) (by simp [names]) ?_
  unfold Tryz.f67
  simp (disch := omega) only [go_sem, beq_self_eq_true, Bool.and_self]
  refine call_pure (f115_ok _ n.expr (Nat.lt_succ_self _)) (by simp (disch := omega) only [go_sem, Expr.c_def]) rfl ?_
  simp (disch := omega) only [go_sem]
  refine ret_mk ⟨[], [], []⟩ _ (by (try simp (disch := omega) only [go_sem, resVs, resV]) <;> rfl) ⟨rfl, rfl⟩ (by simp) ?_ trivial
  simp (disch := omega) only [go_sem]
theorem f33_ok (s : WS) (h : Few s) : FnOK C0 33 [.agg s.c, .agg s.c] [] (B true) [] := by
  have h1 := h.nq
  have h2 := h.nn
  refine FnOK.intro (fn := Tryz.f33) (c := Tryz.f33.body.getD .skip) (by kernel_rfl) (by kernel_rfl) (by kernel_rfl) (by kernel_rfl) (by simp [Tryz.f33]) (by simp [names]) ?_
  unfold Tryz.f33
  simp (disch := omega) only [go_sem]
  refine call_pure (f66_ok s.queues (by omega) h.aq) (by simp (disch := omega) only [go_sem]) rfl ?_
  simp (disch := omega) only [go_sem, bne_self_eq_false]
  refine loop_intro (α := Nat) (fun i => ⟨[(5, I i), (2, .ptr 128 0), (3, .ptr 192 0)], [(128, s.c), (192, s.c)]⟩) (fun i => i ≤ (s.needs).length ∧ True) (fun i => (s.needs).length - i) 0 ⟨by omega, trivial⟩ ?_ ?_
  · refine Imp.weak ?_ ?_
    all_goals (try simp (disch := omega) only [go_sem])
    all_goals (try (repeat' (with_reducible apply And.intro)))
    all_goals (first | exact .nilOwn (by omega) | exact .nilNo (by omega) | exact .sl (by simp []) | exact .int (by simp []) | exact .eq (by simp []))
  rintro i ⟨hi, hP⟩ J hJ
  simp (disch := omega) only [go_sem]
  refine And.intro (fun hlt => ?_) (fun hge => ?_)
  rotate_left
  have hil : i = (s.needs).length := by simp at hge; omega
  rotate_left
  obtain ⟨b, hb⟩ : ∃ b, (s.needs)[i]? = some b := ⟨_, List.getElem?_eq_getElem (by simp at hlt; omega)⟩
  have hbm := List.mem_of_getElem? hb
  have hlt2 : i < (s.needs).length := by simp at hlt; omega
  refine draw_mk 10 [([], [2]), ([0], [28]), ([], [5]), ([0, 1, 2], [29, 30]), ([0, 1, 2, 3], [31]), ([], [3]), ([5], [33]), ([], [5]), ([5, 6, 7], [34, 35]), ([5, 6, 7, 8], [36]), ([0, 1, 2, 3, 4, 5, 6, 7, 8, 9], []), ([0, 1, 2, 3, 4, 5, 6, 7, 8, 9, 10], [])] fol (by kernel_rfl) ?_
  simp (disch := omega) only [go_sem, List.getElem?_map, hb]
  · first | ((with_reducible show callB _ _ _ _ _ _); refine call_pure (f67_ok b) (by simp (disch := omega) only [go_sem]) rfl ?_) | ((with_reducible show freeCallB _ _ _ _ _ _ _ _ _ _); refine freeCall_mk ⟨⟨[], [], []⟩, [], []⟩ (f67_ok b) (by simp (disch := omega) only [go_sem]) rfl rfl trivial (.inl rfl) ?_)
    simp (disch := omega) only [go_sem]
    refine hJ _ (i + 1) ⟨by simp at hlt; omega, trivial⟩ (by simp at hlt; omega) (Imp.weak (by simp (disch := omega) only [go_sem]) (by simp (disch := omega) only [go_sem]))
  · subst hil
    refine ret_mk ⟨[], [], []⟩ _ (by (try simp (disch := omega) only [go_sem, resVs, resV]) <;> rfl) ⟨rfl, rfl⟩ (by simp) ?_ trivial
    simp (disch := omega) only [go_sem]
def smallQ (q : Queue) : Bool := decide (q.holds.length ≤ 12) && decide (q.convs.length ≤ 12) && decide (q.waits.length ≤ 12)
def smallS (s : WS) : Bool := decide (s.queues.length ≤ 12) && decide (s.needs.length ≤ 12) && s.queues.all smallQ
theorem small_few {s : WS} (h : smallS s = true) : Few s := by
  simp only [smallS, smallQ, Bool.and_eq_true, decide_eq_true_eq, List.all_eq_true] at h
  refine ⟨by omega, by omega, fun q hq => ?_⟩
  have := h.2 q hq
  unfold allQ sizeQ
  omega
theorem f6_ok (s : WS) : FnOK C0 6 [.agg s.c] [] (B (smallS s)) [] := by
  refine FnOK.assume (fn := Tryz.f6) (c := Tryz.f6.body.getD .skip) (by kernel_rfl) (by kernel_rfl) (by kernel_rfl) fun hlen => ?_
  simp only [lensL, lens, WS.c, List.length_map, and_true, true_and] at hlen
  refine FnOK.intro (fn := Tryz.f6) (c := Tryz.f6.body.getD .skip) (by kernel_rfl) (by kernel_rfl) (by kernel_rfl) (by kernel_rfl) (by simp [Tryz.f6]) (by simp [names]) ?_
  unfold Tryz.f6
  by_cases h1 : 12 < s.queues.length
  · have e1 : (12 < (s.queues.length : Int)) = True := eq_true (by omega)
    have e : smallS s = false := by simp [smallS]; omega
    simp (disch := omega) only [go_sem, e1]
    refine ret_mk ⟨[], [], []⟩ _ (by (try simp (disch := omega) only [go_sem, resVs, resV]) <;> rfl) ⟨rfl, rfl⟩ (by simp) ?_ trivial
    simp (disch := omega) only [go_sem]
    exact wb (by rw [e])
  have e1 : (12 < (s.queues.length : Int)) = False := eq_false (by omega)
  by_cases h2 : 12 < s.needs.length
  · have e2 : (12 < (s.needs.length : Int)) = True := eq_true (by omega)
    have e : smallS s = false := by simp [smallS]; omega
    simp (disch := omega) only [go_sem, e1, e2, decide_false, decide_true]
    refine ret_mk ⟨[], [], []⟩ _ (by (try simp (disch := omega) only [go_sem, resVs, resV]) <;> rfl) ⟨rfl, rfl⟩ (by simp) ?_ trivial
    simp (disch := omega) only [go_sem]
    exact wb (by rw [e])
  have e2 : (12 < (s.needs.length : Int)) = False := eq_false (by omega)
  simp (disch := omega) only [go_sem, e1, e2, decide_false]
  refine loop_intro (α := Nat) (fun i => ⟨[(3, I i), (1, .ptr 64 0)], [(64, s.c)]⟩) (fun i => i ≤ (s.queues).length ∧ (s.queues.take i).all smallQ = true) (fun i => (s.queues).length - i) 0 ⟨by omega, rfl⟩ ?_ ?_
  · refine Imp.weak ?_ ?_
    all_goals (try simp (disch := omega) only [go_sem])
    all_goals (try (repeat' (with_reducible apply And.intro)))
    all_goals (first | exact .nilOwn (by omega) | exact .nilNo (by omega) | exact .sl (by simp []) | exact .int (by simp []) | exact .eq (by simp []))
  rintro i ⟨hi, hP⟩ J hJ
  simp (disch := omega) only [go_sem]
  refine And.intro (fun hlt => ?_) (fun hge => ?_)
  rotate_left
  have hil : i = (s.queues).length := by simp at hge; omega
  rotate_left
  obtain ⟨b, hb⟩ : ∃ b, (s.queues)[i]? = some b := ⟨_, List.getElem?_eq_getElem (by simp at hlt; omega)⟩
  have hbm := List.mem_of_getElem? hb
  have hlt2 : i < (s.queues).length := by simp at hlt; omega
  simp (disch := omega) only [go_sem, List.getElem?_map, hb]
  · have bad : smallQ b = false → smallS s = false := fun h => by simp only [smallS, all_false hbm h, Bool.and_false]
    by_cases k1 : 12 < b.holds.length
    · have d1 : (12 < (b.holds.length : Int)) = True := eq_true (by omega)
      simp (disch := omega) only [go_sem, d1, decide_true]
      refine ret_mk ⟨[], [], []⟩ _ (by (try simp (disch := omega) only [go_sem, resVs, resV]) <;> rfl) ⟨rfl, rfl⟩ (by simp) ?_ trivial
      simp (disch := omega) only [go_sem]
      exact wb (by rw [bad (by simp [smallQ]; omega)])
    have d1 : (12 < (b.holds.length : Int)) = False := eq_false (by omega)
    by_cases k2 : 12 < b.convs.length
    · have d2 : (12 < (b.convs.length : Int)) = True := eq_true (by omega)
      simp (disch := omega) only [go_sem, d1, d2, decide_false, decide_true, List.getElem?_map, hb]
      refine ret_mk ⟨[], [], []⟩ _ (by (try simp (disch := omega) only [go_sem, resVs, resV]) <;> rfl) ⟨rfl, rfl⟩ (by simp) ?_ trivial
      simp (disch := omega) only [go_sem]
      exact wb (by rw [bad (by simp [smallQ]; omega)])
    have d2 : (12 < (b.convs.length : Int)) = False := eq_false (by omega)
    by_cases k3 : 12 < b.waits.length
    · have d3 : (12 < (b.waits.length : Int)) = True := eq_true (by omega)
      simp (disch := omega) only [go_sem, d1, d2, d3, decide_false, decide_true, List.getElem?_map, hb]
      refine ret_mk ⟨[], [], []⟩ _ (by (try simp (disch := omega) only [go_sem, resVs, resV]) <;> rfl) ⟨rfl, rfl⟩ (by simp) ?_ trivial
      simp (disch := omega) only [go_sem]
      exact wb (by rw [bad (by simp [smallQ]; omega)])
    have d3 : (12 < (b.waits.length : Int)) = False := eq_false (by omega)
    have hs : smallQ b = true := by simp [smallQ]; omega
    simp (disch := omega) only [go_sem, d1, d2, d3, decide_false, List.getElem?_map, hb]
    refine hJ _ (i + 1) ⟨by simp at hlt; omega, (by rw [all_take hb, hP, hs]; rfl)⟩ (by simp at hlt; omega) (Imp.weak (by simp (disch := omega) only [go_sem]) (by simp (disch := omega) only [go_sem]))
  · subst hil
    rw [List.take_length] at hP
    refine ret_mk ⟨[], [], []⟩ _ (by (try simp (disch := omega) only [go_sem, resVs, resV]) <;> rfl) ⟨rfl, rfl⟩ (by simp) ?_ trivial
    simp (disch := omega) only [go_sem]
    exact wb (by simp only [smallS, hP]; simp; omega)
def pA : Proc := ⟨0, 1, 1⟩
def pB : Proc := ⟨1, 1, 1⟩
def modF (n m : Int) : Int := if m < 1 then 0 else if n.tmod m < 0 then n.tmod m + m else n.tmod m
theorem modF_8 (n : Int) : 0 ≤ modF n 8 ∧ modF n 8 < 8 := by
  have h1 := Int.tmod_lt_of_pos n (show (0 : Int) < 8 by decide)
  have h2 : -8 < n.tmod 8 := by
    rw [Int.tmod_eq_emod]
    split <;> omega
  unfold modF
  rw [if_neg (by decide)]
  split <;> omega
theorem f50_8 (n : Int) : FnOK C0 50 [I n, I 8] [] (I (modF n 8)) [] := by
  have z : ((8 : Int) = 0) = False := by simp
  have z2 : ((8 : Int) < 1) = False := by simp
  have h1 := Int.tmod_lt_of_pos n (show (0 : Int) < 8 by decide)
  have h2 : -8 < n.tmod 8 := by
    rw [Int.tmod_eq_emod]
    split <;> omega
  refine FnOK.intro (fn := Tryz.f50) (c := Tryz.f50.body.getD .skip) (by kernel_rfl) (by kernel_rfl) (by kernel_rfl) (by kernel_rfl) (by simp [Tryz.f50]) (by simp [names]) ?_
  unfold Tryz.f50
  by_cases h : n.tmod 8 < 0
  · have e : modF n 8 = n.tmod 8 + 8 := by simp [modF, h]
    have z3 : (n.tmod 8 < 0) = True := eq_true h
    simp (disch := omega) only [go_sem, z, z2, if_false, decide_false, z3, e]
    refine ret_mk ⟨[], [], []⟩ _ (by (try simp (disch := omega) only [go_sem, resVs, resV]) <;> rfl) ⟨rfl, rfl⟩ (by simp) ?_ trivial
    simp (disch := omega) only [go_sem]
  · have e : modF n 8 = n.tmod 8 := by simp [modF, h]
    have z3 : (n.tmod 8 < 0) = False := eq_false h
    simp (disch := omega) only [go_sem, z, z2, if_false, decide_false, z3, e]
    refine ret_mk ⟨[], [], []⟩ _ (by (try simp (disch := omega) only [go_sem, resVs, resV]) <;> rfl) ⟨rfl, rfl⟩ (by simp) ?_ trivial
    simp (disch := omega) only [go_sem]
def procK (n : Int) : Proc := ⟨(modF n 8).tmod 4, 1, 1 + (modF n 8).tdiv 4⟩
theorem f20_ok (n : Int) : FnOK C0 20 [I n] [] (.agg (procK n).c) [] := by
  have z : ((4 : Int) = 0) = False := by simp
  have hm := modF_8 n
  have hd : 0 ≤ (modF n 8).tdiv 4 ∧ (modF n 8).tdiv 4 ≤ 2 := by
    rw [Int.tdiv_eq_ediv_of_nonneg hm.1]; omega
  refine FnOK.intro (fn := Tryz.f20) (c := Tryz.f20.body.getD .skip) (by kernel_rfl) (by kernel_rfl) (by kernel_rfl) (by kernel_rfl) (by simp [Tryz.f20]) (by simp [names]) ?_
  unfold Tryz.f20
  simp (disch := omega) only [go_sem]
  refine call_pure (f50_8 n) (by simp (disch := omega) only [go_sem]) rfl ?_
  simp (disch := omega) only [go_sem, z, if_false]
  refine ret_mk ⟨[], [], []⟩ _ (by (try simp (disch := omega) only [go_sem, resVs, resV]) <;> rfl) ⟨rfl, rfl⟩ (by simp) ?_ trivial
  simp (disch := omega) only [go_sem]
  simp (disch := omega) only [go_sem, procK]
def wA : Amt := ⟨5, 0⟩
def lockQ (name : Bs) (p q : Proc) : Queue := ⟨⟨name, 1, 1, 0⟩, [⟨p, wA⟩], [], [⟨q, wA, 0, 0⟩], 0⟩
theorem f21_ok (name : Bs) (p q : Proc) : FnOK C0 21 [.v (.string (str name)), .agg p.c, .agg q.c] [] (.agg (lockQ name p q).c) [] := by
  refine FnOK.intro (fn := Tryz.f21) (c := Tryz.f21.body.getD .skip) (by kernel_rfl) (by kernel_rfl) (by kernel_rfl) (by kernel_rfl) (by simp [Tryz.f21]) (by simp [names]) ?_
  unfold Tryz.f21
  simp (disch := omega) only [go_sem]
  refine ret_mk ⟨[], [], [896, 1152]⟩ _ (by (try simp (disch := omega) only [go_sem, resVs, resV]) <;> rfl) ⟨rfl, rfl⟩ (by simp) ?_ trivial
  simp (disch := omega) only [go_sem, lockQ, wA]
  exact .agg (WeakArgs.weakL (by simp (disch := omega) only [go_sem, lockQ, wA, holdsV, waitsV, List.map_cons, List.map_nil]))
def needN (p : Proc) (name : Bs) : Need := ⟨p, .mk 0 ⟨name, wA⟩ [], 0⟩
theorem f22_ok (p : Proc) (name : Bs) : FnOK C0 22 [.agg p.c, .v (.string (str name))] [] (.agg (needN p name).c) [] := by
  refine FnOK.intro (fn := Tryz.f22) (c := Tryz.f22.body.getD .skip) (by kernel_rfl) (by kernel_rfl) (by kernel_rfl) (by kernel_rfl) (by simp [Tryz.f22]) (by simp [names]) ?_
  unfold Tryz.f22
  simp (disch := omega) only [go_sem]
  refine ret_mk ⟨[], [], []⟩ _ (by (try simp (disch := omega) only [go_sem, resVs, resV]) <;> rfl) ⟨rfl, rfl⟩ (by simp) ?_ trivial
  simp (disch := omega) only [go_sem, needN, wA]
  exact .agg (WeakArgs.weakL (by simp (disch := omega) only [go_sem, needN, wA, Expr.k, Expr.atom, Expr.kids, List.map_nil]))
def crossS : WS := ⟨[lockQ [97] (procK 0) (procK 1), lockQ [98] (procK 1) (procK 0)], [needN (procK 0) [98], needN (procK 1) [97]]⟩
theorem str_a : (⟨#[97]⟩ : ByteArray) = str [97] := rfl
theorem p0_eq : procK 0 = ⟨0, 1, 1⟩ := rfl
theorem p1_eq : procK 1 = ⟨1, 1, 1⟩ := rfl
def crossT : WS := ⟨crossS.queues, crossS.needs.take 1⟩
set_option maxRecDepth 100000 in
theorem cross_valid : validS crossS = true := by kernel_rfl
end Go.Rd
open Go Go.Abs Go.Proofs
set_option maxRecDepth 100000
namespace Go.Rd
theorem f36_ok (l m : List Proc) (hl : l.length ≤ 1000000) : FnOK C0 36 [procsV l, procsV m] [] (B (decide (l = m))) [] := by
  refine FnOK.intro (fn := Tryz.f36) (c := Tryz.f36.body.getD .skip) (by kernel_rfl) (by kernel_rfl) (by kernel_rfl) (by kernel_rfl) (by simp [Tryz.f36]) (by simp [names]) ?_
  unfold Tryz.f36
  by_cases hn : l.length = m.length
  rotate_left
  · have e1 : ((l.length : Int) != m.length) = true := by simp only [bne_iff_ne, ne_eq]; omega
    have e2 : l ≠ m := fun h => hn (by rw [h])
    simp (disch := omega) only [go_sem, e1]
    refine ret_mk ⟨[], [], []⟩ _ (by (try simp (disch := omega) only [go_sem, resVs, resV]) <;> rfl) ⟨rfl, rfl⟩ (by simp) ?_ trivial
    simp (disch := omega) only [go_sem]
    exact wb (by simp [e2])
  have e1 : ((l.length : Int) != m.length) = false := by simp [hn]
  simp (disch := omega) only [go_sem, e1]
  refine loop_intro (α := Nat) (fun i => ⟨[(13, I i), (12, I l.length), (0, procsV l), (1, procsV m)], []⟩) (fun i => i ≤ (l).length ∧ l.take i = m.take i) (fun i => (l).length - i) 0 ⟨by omega, rfl⟩ ?_ ?_
  · refine Imp.weak ?_ ?_
    all_goals (try simp (disch := omega) only [go_sem])
    all_goals (try (repeat' (with_reducible apply And.intro)))
    all_goals (first | exact .nilOwn (by omega) | exact .nilNo (by omega) | exact .sl (by simp []) | exact .int (by simp []) | exact .eq (by simp []))
  rintro i ⟨hi, hP⟩ J hJ
  simp (disch := omega) only [go_sem]
  refine And.intro (fun hlt => ?_) (fun hge => ?_)
  rotate_left
  have hil : i = (l).length := by simp at hge; omega
  rotate_left
  obtain ⟨b, hb⟩ : ∃ b, (l)[i]? = some b := ⟨_, List.getElem?_eq_getElem (by simp at hlt; omega)⟩
  have hbm := List.mem_of_getElem? hb
  have hlt2 : i < (l).length := by simp at hlt; omega
  refine draw_mk 8 [([], [0]), ([], [5]), ([0, 1], [16, 17]), ([0, 1, 2], [18]), ([], [1]), ([], [5]), ([4, 5], [20, 21]), ([4, 5, 6], [22]), ([0, 1, 2, 3, 4, 5, 6, 7], [])] fol (by kernel_rfl) ?_
  simp (disch := omega) only [go_sem, List.getElem?_map, hb]
  · obtain ⟨c, hc⟩ : ∃ c, m[i]? = some c := ⟨_, List.getElem?_eq_getElem (by omega)⟩
    simp (disch := omega) only [go_sem, List.getElem?_map, hb, hc]
    by_cases hbc : b = c
    · simp (disch := omega) only [go_sem, hbc, decide_true]
      refine hJ _ (i + 1) ⟨by simp at hlt; omega, (by rw [List.take_add_one, List.take_add_one, hb, hc, hP, hbc])⟩ (by simp at hlt; omega) (Imp.weak (by simp (disch := omega) only [go_sem]) (by simp (disch := omega) only [go_sem]))
    · simp (disch := omega) only [go_sem, hbc, decide_false]
      refine ret_mk ⟨[], [], []⟩ _ (by (try simp (disch := omega) only [go_sem, resVs, resV]) <;> rfl) ⟨rfl, rfl⟩ (by simp) ?_ trivial
      simp (disch := omega) only [go_sem]
      refine wb ?_
      have : l ≠ m := fun h => hbc (by rw [h, hc] at hb; simpa using hb.symm)
      simp [this]
  · subst hil
    rw [List.take_length, hn, List.take_length] at hP
    refine ret_mk ⟨[], [], []⟩ _ (by (try simp (disch := omega) only [go_sem, resVs, resV]) <;> rfl) ⟨rfl, rfl⟩ (by simp) ?_ trivial
    simp (disch := omega) only [go_sem]
    exact wb (by simp [hP])
end Go.Rd
