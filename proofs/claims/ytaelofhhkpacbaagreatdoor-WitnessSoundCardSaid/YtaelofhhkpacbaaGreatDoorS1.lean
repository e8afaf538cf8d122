/- the last parts of the proof -/
import Derived.Test.YtaelofhhkpacbaaGreatDoorS0
set_option linter.all false
open Go Go.Abs Go.Proofs
set_option maxRecDepth 100000
namespace Go.Rd
def isPl (p : Proc) (name : Bs) (c : Cause) : Bool := decide (c.proc = p) && c.name == name
def findC (cs : List Cause) (p : Proc) (name : Bs) : Int := match cs.findIdx? (isPl p name) with
 | some i => i
 | none => -1
theorem f45_ok (cs : List Cause) (p : Proc) (name : Bs) (hl : cs.length ≤ 1000000) : FnOK C0 45 [causesV cs, .agg p.c, .v (.string (str name))] [] (I (findC cs p name)) [] := by
 refine FnOK.intro (fn := Tryz.f45) (c := Tryz.f45.body.getD .skip) (by kernel_rfl) (by kernel_rfl) (by kernel_rfl) (by kernel_rfl) (by simp [Tryz.f45]) (by simp [names]) ?_
 unfold Tryz.f45
 simp (disch := omega) only [go_sem]
 refine loop_intro (α := Nat) (fun i => ⟨[(7, I i), (0, causesV cs), (2, .v (.string (str name))), (4, .ptr 256 0)], [(256, p.c)]⟩) (fun i => i ≤ (cs).length ∧ (cs.take i).find? (isPl p name) = none) (fun i => (cs).length - i) 0 ⟨by omega, rfl⟩ ?_ ?_
 ·refine Imp.weak ?_ ?_
  all_goals (try simp (disch := omega) only [go_sem])
  all_goals (try (repeat' (with_reducible apply And.intro)))
  all_goals (first | exact .nilOwn (by omega) | exact .nilNo (by omega) | exact .sl (by simp []) | exact .int (by simp []) | exact .eq (by simp []))
 rintro i ⟨hi, hP⟩ J hJ
 simp (disch := omega) only [go_sem]
 refine And.intro (fun hlt => ?_) (fun hge => ?_)
 rotate_left
 have hil : i = (cs).length := by simp at hge; omega
 rotate_left
 obtain ⟨b, hb⟩ : ∃ b, (cs)[i]? = some b := ⟨_, List.getElem?_eq_getElem (by simp at hlt; omega)⟩
 have hbm := List.mem_of_getElem? hb
 have hlt2 : i < (cs).length := by simp at hlt; omega
 refine draw_mk 14 [([], [0]), ([], [7]), ([0, 1], [14, 15]), ([0, 1, 2], [16]), ([0, 1, 2, 3], [17]), ([], [4]), ([0, 1, 2, 3, 4, 5], [18, 19]), ([0, 1, 2, 3, 4, 5, 6], [20]), ([0, 1, 2, 3, 4, 5, 6, 7], [0, 21]), ([0, 1, 2, 3, 4, 5, 6, 7], [7, 21]), ([0, 1, 2, 3, 4, 5, 6, 7, 8, 9], [22, 23, 21]), ([0, 1, 2, 3, 4, 5, 6, 7, 8, 9, 10], [24, 21]), ([0, 1, 2, 3, 4, 5, 6, 7, 8, 9, 10, 11], [25, 21]), ([0, 1, 2, 3, 4, 5, 6, 7], [2, 21]), ([0, 1, 2, 3, 4, 5, 6, 7, 8, 9, 10, 11, 12, 13], []), ([0, 1, 2, 3, 4, 5, 6, 7, 8, 9, 10, 11, 12, 13, 14], [])] fol (by kernel_rfl) ?_
 simp (disch := omega) only [go_sem, List.getElem?_map, hb]
 ·cases hp : decide (b.proc = p)
  ·have hq : isPl p name b = false := by simp only [isPl, hp, Bool.false_and]
   simp (disch := omega) only [go_sem, hp, List.getElem?_map, hb]
   refine hJ _ (i + 1) ⟨by simp at hlt; omega, (by rw [find_take hP hb]; simp [hq])⟩ (by simp at hlt; omega) (Imp.weak (by simp (disch := omega) only [go_sem]) (by simp (disch := omega) only [go_sem]))
  ·cases hn : (b.name == name)
   ·have hq : isPl p name b = false := by simp only [isPl, hn, Bool.and_false]
    simp (disch := omega) only [go_sem, hp, hn, List.getElem?_map, hb]
    refine hJ _ (i + 1) ⟨by simp at hlt; omega, (by rw [find_take hP hb]; simp [hq])⟩ (by simp at hlt; omega) (Imp.weak (by simp (disch := omega) only [go_sem]) (by simp (disch := omega) only [go_sem]))
   ·have hq : isPl p name b = true := by simp only [isPl, hp, hn, Bool.and_self]
    have e : findC cs p name = i := by unfold findC; rw [idx_take hP b hb hq]
    simp (disch := omega) only [go_sem, hp, hn, List.getElem?_map, hb]
    refine ret1 _ ?_
    simp (disch := omega) only [go_sem]
    exact wi e.symm
 ·subst hil
  rw [List.take_length] at hP
  have e : findC cs p name = -1 := by unfold findC; rw [idx_none hP]
  refine ret1 _ ?_
  simp (disch := omega) only [go_sem]
  exact wi e.symm
theorem atoms_ne {e : Expr} (he : exprOK e = true) : (atomsE e).length ≠ 0 := by
 have hp := exprOK_prop he
 have h1 := prop_ne _ e (Nat.lt_succ_self _) [] hp
 have hc := prop_col _ e (Nat.lt_succ_self _) [] hp
 have ha : atomsE e = (prop e []).2 := by unfold atomsE; rw [if_pos he, hc]
 rw [ha]
 simpa using h1
theorem f46_ok (e : Expr) (dead : List Bool) : FnOK C0 46 [.agg e.c, bitsV dead] [] (B (hopeE e dead)) [] := by
 have hl := atomsE_len e
 refine FnOK.assume (fn := Tryz.f46) (c := Tryz.f46.body.getD .skip) (by kernel_rfl) (by kernel_rfl) (by kernel_rfl) fun hlen => ?_
 simp only [lensL, lens, Expr.c_def, List.length_map, and_true, true_and] at hlen
 refine FnOK.intro (fn := Tryz.f46) (c := Tryz.f46.body.getD .skip) (by kernel_rfl) (by kernel_rfl) (by kernel_rfl) (by kernel_rfl) (by simp [Tryz.f46]) (by simp [names]) ?_
 unfold Tryz.f46
 simp (disch := omega) only [go_sem]
 refine call_pure (f82_ok e) (by simp (disch := omega) only [go_sem, Expr.c_def]) rfl ?_
 cases he : exprOK e
 ·have e0 : hopeE e dead = false := by simp [hopeE, atomsE, he]
  simp (disch := omega) only [go_sem, e0]
  refine ret1 _ ?_
  simp (disch := omega) only [go_sem]
 have h0 := atoms_ne he
 have hdl : (deadB (atomsE e).length dead).length = (atomsE e).length := by simp [deadB]
 simp (disch := omega) only [go_sem]
 refine loop_intro (α := Nat) (fun i => ⟨[(8, I i), (1, bitsV dead), (2, .ptr 128 0), (5, atomsV (atomsE e)), (7, .sl (.own 1152 0) 1 (((deadB (atomsE e).length dead).take i).map (fun b => [B b]) ++ List.replicate ((atomsE e).length - i) [B false]))], [(128, e.c)]⟩) (fun i => i ≤ ((atomsE e)).length ∧ True) (fun i => ((atomsE e)).length - i) 0 ⟨by omega, trivial⟩ ?_ ?_
 ·refine Imp.weak ?_ ?_
  all_goals (try simp (disch := omega) only [go_sem])
  all_goals (try (repeat' (with_reducible apply And.intro)))
  all_goals (first | exact .nilOwn (by omega) | exact .nilNo (by omega) | exact .sl (by simp []) | exact .int (by simp []) | exact .eq (by simp []))
 rintro i ⟨hi, hP⟩ J hJ
 simp (disch := omega) only [go_sem]
 refine And.intro (fun hlt => ?_) (fun hge => ?_)
 rotate_left
 have hil : i = ((atomsE e)).length := by simp at hge; omega
 rotate_left
 obtain ⟨b, hb⟩ : ∃ b, ((atomsE e))[i]? = some b := ⟨_, List.getElem?_eq_getElem (by simp at hlt; omega)⟩
 have hbm := List.mem_of_getElem? hb
 have hlt2 : i < ((atomsE e)).length := by simp at hlt; omega
 ·have hlen : min i (atomsE e).length + ((atomsE e).length - i) = (atomsE e).length := by omega
  have hget : (((deadB (atomsE e).length dead).take i).map (fun b => [B b]) ++ List.replicate ((atomsE e).length - i) [B false])[i]? = some [B false] := by
   rw [List.getElem?_append_right (by simp; omega), List.getElem?_replicate]
   simp; omega
  have nxt : ((((deadB (atomsE e).length dead).take i).map (fun b => [B b]) ++ List.replicate ((atomsE e).length - i) [B false])).set i [B (!(dead.getD i false))] = ((deadB (atomsE e).length dead).take (i + 1)).map (fun b => [B b]) ++ List.replicate ((atomsE e).length - (i + 1)) [B false] := by
   have e2 := set_rep' (((deadB (atomsE e).length dead).take i).map fun b => [B b]) [B false] [B (!(dead.getD i false))] ((atomsE e).length - (i + 1))
   simp only [List.length_map, List.length_take, hdl, Nat.min_eq_left (show i ≤ (atomsE e).length by omega)] at e2
   rw [show (atomsE e).length - i = ((atomsE e).length - (i + 1)) + 1 by omega, e2, deadB_next hlt2]
  by_cases hd : dead.length ≤ i
  ·have e3 : decide ((dead.length : Int) ≤ i) = true := decide_eq_true (by omega)
   have e4 : dead.getD i false = false := by simp [List.getD, List.getElem?_eq_none hd]
   rw [e4] at nxt
   simp (disch := omega) only [go_sem, e3, hget, List.length_append, List.length_replicate, List.length_map, List.length_take, hdl, hlen]
   refine hJ _ (i + 1) ⟨by omega, trivial⟩ (by omega) (Imp.weak ?_ (by simp (disch := omega) only [go_sem]))
   simp (disch := omega) only [go_sem]
   exact .sl nxt
  ·have e3 : decide ((dead.length : Int) ≤ i) = false := decide_eq_false (by omega)
   obtain ⟨d, hdd⟩ : ∃ d, dead[i]? = some d := ⟨_, List.getElem?_eq_getElem (by omega)⟩
   have e4 : dead.getD i false = d := by simp [List.getD, hdd]
   rw [e4] at nxt
   have hd2 : i < dead.length := by omega
   simp (disch := omega) only [go_sem, e3, hget, hdd, List.getElem?_map, List.length_append, List.length_replicate, List.length_map, List.length_take, hdl, hlen]
   refine hJ _ (i + 1) ⟨by omega, trivial⟩ (by omega) (Imp.weak ?_ (by simp (disch := omega) only [go_sem]))
   simp (disch := omega) only [go_sem]
   exact .sl nxt
 ·subst hil
  have e3 : (List.take (atomsE e).length (deadB (atomsE e).length dead)) = deadB (atomsE e).length dead := List.take_of_length_le (by omega)
  try simp (disch := omega) only [go_sem, Nat.sub_self, List.replicate_zero, List.append_nil, e3]
  refine call_lent [1152] (f83_ok (atomsE e) (deadB (atomsE e).length dead) (by omega) _ e (Nat.lt_succ_self _) [] (exprOK_prop he)) ?_ rfl trivial ?_
  ·simp (disch := omega) only [go_sem, Expr.c_def, Nat.sub_self, List.replicate_zero, List.append_nil, e3]
  simp (disch := omega) only [go_sem]
  refine ret1 _ ?_
  simp (disch := omega) only [go_sem]
  exact wb (by simp [hopeE, h0])
def soundC (w : Wit) (i : Nat) (c : Cause) : Bool :=
 hasP w.members c.proc && waitsF w.state.queues c.proc c.name && decide (findC w.causes c.proc c.name = i) &&
  (match w.state.queues.find? (fun q => q.res.name == c.name) with
  | some q => decide (c = (causeQ q c.proc).getD cz)
  | none => false) && (!decide (c.why = 2) || decide (0 ≤ findC w.causes (c.members.headD ⟨0, 0, 0⟩) c.name))
theorem cause_two {q : Queue} {p : Proc} {d : Cause} (h : causeQ q p = some d) (hw : d.why = 2) : ∃ x, d.members = [x] := by
 cases hk : (ordQ q).findIdx? (fun x => decide (x = p)) with
 | none => simp [causeQ, hk] at h
 | some k =>
  cases k with
  | zero =>
   simp [causeQ, hk] at h
   subst h
   simp at hw
  | succ k =>
   simp [causeQ, hk] at h
   subst h
   exact ⟨_, rfl⟩
theorem want_cause {q : Queue} {p : Proc} : (wantQ q p).isSome = (causeQ q p).isSome := by
 have h1 : (wantQ q p).isSome = (q.convs ++ q.waits).any fun w => decide (w.proc = p) := by
  unfold wantQ
  rw [Option.isSome_map]
  refine Bool.eq_iff_iff.2 ?_
  rw [List.find?_isSome, List.any_eq_true]
 have h2 : (causeQ q p).isSome = ((ordQ q).findIdx? (fun x => decide (x = p))).isSome := by
  unfold causeQ
  split <;> rename_i h <;> simp [h]
 rw [h1, h2, List.findIdx?_isSome, ordQ, procsW, List.any_map]
 rfl
theorem f18_two (l m : List Proc) (hm : m.length ≤ 1000000) : FnOK C0 18 [procsV l, procsV m] [] (B (decide (l = m))) [] := by
 refine FnOK.intro (fn := Tryz.f18) (c := Tryz.f18.body.getD .skip) (by kernel_rfl) (by kernel_rfl) (by kernel_rfl) (by kernel_rfl) (by simp [Tryz.f18]) (by simp [names]) ?_
 unfold Tryz.f18
 by_cases hn : l.length = m.length
 rotate_left
 ·have e1 : ((l.length : Int) != m.length) = true := by simp only [bne_iff_ne, ne_eq]; omega
  have e2 : l ≠ m := fun h => hn (by rw [h])
  simp (disch := omega) only [go_sem, e1]
  refine ret1 _ ?_
  simp (disch := omega) only [go_sem]
  exact wb (by simp [e2])
 have e1 : ((l.length : Int) != m.length) = false := by simp [hn]
 simp (disch := omega) only [go_sem, e1]
 refine loop_intro (α := Nat) (fun i => ⟨[(5, I i), (0, procsV l), (1, procsV m)], []⟩) (fun i => i ≤ (l).length ∧ l.take i = m.take i) (fun i => (l).length - i) 0 ⟨by omega, rfl⟩ ?_ ?_
 ·refine Imp.weak ?_ ?_
  all_goals (try simp (disch := omega) only [go_sem])
  all_goals (try (repeat' (with_reducible apply And.intro)))
  all_goals (first | exact .nilOwn (by omega) | exact .nilNo (by omega) | exact .sl (by simp []) | exact .int (by simp []) | exact .eq (by simp []))
 rintro i ⟨hi, hP⟩ J hJ
 simp (disch := omega) only [go_sem]
 refine And.intro (fun hlt => ?_) (fun hge => ?_)
 rotate_left
 have hil : i = (l).length := by simp at hge; omega
 rotate_left
 obtain ⟨b, hb⟩ : ∃ b, (l)[i]? = some b := ⟨_, List.getElem?_eq_getElem (by simp at hlt; omega)⟩
 have hbm := List.mem_of_getElem? hb
 have hlt2 : i < (l).length := by simp at hlt; omega
 refine draw_mk 8 [([], [0]), ([], [5]), ([0, 1], [17, 18]), ([0, 1, 2], [19]), ([], [1]), ([], [5]), ([4, 5], [21, 22]), ([4, 5, 6], [23]), ([0, 1, 2, 3, 4, 5, 6, 7], [])] fol (by kernel_rfl) ?_
 simp (disch := omega) only [go_sem, List.getElem?_map, hb]
 ·obtain ⟨c, hc⟩ : ∃ c, m[i]? = some c := ⟨_, List.getElem?_eq_getElem (by omega)⟩
  simp (disch := omega) only [go_sem, List.getElem?_map, hb, hc]
  by_cases hbc : b = c
  ·simp (disch := omega) only [go_sem, hbc, decide_true]
   refine hJ _ (i + 1) ⟨by simp at hlt; omega, (by rw [List.take_add_one, List.take_add_one, hb, hc, hP, hbc])⟩ (by simp at hlt; omega) (Imp.weak (by simp (disch := omega) only [go_sem]) (by simp (disch := omega) only [go_sem]))
  ·simp (disch := omega) only [go_sem, hbc, decide_false]
   refine ret1 _ ?_
   simp (disch := omega) only [go_sem]
   refine wb ?_
   have : l ≠ m := fun h => hbc (by rw [h, hc] at hb; simpa using hb.symm)
   simp [this]
 ·subst hil
  rw [List.take_length, hn, List.take_length] at hP
  refine ret1 _ ?_
  simp (disch := omega) only [go_sem]
  exact wb (by simp [hP])
theorem f34_two (a b : Cause) (hm : b.members.length ≤ 1000000) : FnOK C0 34 [.agg a.c, .agg b.c] [] (B (decide (a = b))) [] := by
 refine FnOK.intro (fn := Tryz.f34) (c := Tryz.f34.body.getD .skip) (by kernel_rfl) (by kernel_rfl) (by kernel_rfl) (by kernel_rfl) (by simp [Tryz.f34]) (by simp [names]) ?_
 unfold Tryz.f34
 simp (disch := omega) only [go_sem]
 by_cases h1 : a.proc = b.proc
 rotate_left
 ·have h0 : a ≠ b := fun h => h1 (by rw [h])
  simp (disch := omega) only [go_sem, h1, decide_false]
  refine ret1 _ ?_
  simp (disch := omega) only [go_sem]
  exact wb (by simp [h0])
 simp (disch := omega) only [go_sem, h1, decide_true]
 by_cases h2 : a.name = b.name
 rotate_left
 ·have h0 : a ≠ b := fun h => h2 (by rw [h])
  have e : (a.name == b.name) = false := by simp [h2]
  simp (disch := omega) only [go_sem, e]
  refine ret1 _ ?_
  simp (disch := omega) only [go_sem]
  exact wb (by simp [h0])
 have e2 : (a.name == b.name) = true := by simp [h2]
 simp (disch := omega) only [go_sem, e2]
 by_cases h3 : a.why = b.why
 rotate_left
 ·have h0 : a ≠ b := fun h => h3 (by rw [h])
  have e : (a.why == b.why) = false := by simp [h3]
  simp (disch := omega) only [go_sem, e]
  refine ret1 _ ?_
  simp (disch := omega) only [go_sem]
  exact wb (by simp [h0])
 have e3 : (a.why == b.why) = true := by simp [h3]
 simp (disch := omega) only [go_sem, e3]
 refine call_pure (f18_two a.members b.members hm) (by simp (disch := omega) only [go_sem]) rfl ?_
 simp (disch := omega) only [go_sem]
 refine ret1 _ ?_
 simp (disch := omega) only [go_sem]
 obtain ⟨a1, a2, a3, a4⟩ := a
 obtain ⟨b1, b2, b3, b4⟩ := b
 simp only at h1 h2 h3
 subst h1 h2 h3
 exact wb (by simp)
theorem f42_ok (w : Wit) (i : Nat) (c : Cause) (hc : w.causes[i]? = some c) (hw : Few w.state) (hm : w.members.length ≤ 1000000) (hcl : w.causes.length ≤ 1000000) : FnOK C0 42 [.agg w.c, I i] [] (B (soundC w i c)) [] := by
 have hil : i < w.causes.length := (List.getElem?_eq_some_iff.1 hc).1
 have hq := hw.nq
 refine FnOK.intro (fn := Tryz.f42) (c := Tryz.f42.body.getD .skip) (by kernel_rfl) (by kernel_rfl) (by kernel_rfl) (by kernel_rfl) (by simp [Tryz.f42]) (by simp [names]) ?_
 unfold Tryz.f42
 simp (disch := omega) only [go_sem, List.getElem?_map, hc]
 refine call_pure (f19_ok w.members c.proc hm) (by simp (disch := omega) only [go_sem]) rfl ?_
 cases h1 : hasP w.members c.proc
 ·simp (disch := omega) only [go_sem]
  refine ret1 _ ?_
  simp (disch := omega) only [go_sem]
  exact wb (by simp [soundC, h1])
 simp (disch := omega) only [go_sem]
 refine call_pure (f80_ok w.state c.proc c.name hw) (by simp (disch := omega) only [go_sem]) rfl ?_
 cases h2 : waitsF w.state.queues c.proc c.name
 ·simp (disch := omega) only [go_sem]
  refine ret1 _ ?_
  simp (disch := omega) only [go_sem]
  exact wb (by simp [soundC, h2])
 simp (disch := omega) only [go_sem]
 refine call_pure (f45_ok w.causes c.proc c.name hcl) (by simp (disch := omega) only [go_sem]) rfl ?_
 by_cases h3 : findC w.causes c.proc c.name = i
 rotate_left
 ·have e : (findC w.causes c.proc c.name != (i : Int)) = true := by simp [h3]
  simp (disch := omega) only [go_sem, e]
  refine ret1 _ ?_
  simp (disch := omega) only [go_sem]
  exact wb (by simp [soundC, h3])
 have e : (findC w.causes c.proc c.name != (i : Int)) = false := by simp [h3]
 simp (disch := omega) only [go_sem, e]
 cases hfi : w.state.queues.findIdx? (fun q => q.res.name == c.name) with
 | none =>
  have hn : w.state.queues.find? (fun q => q.res.name == c.name) = none := by
   rw [List.find?_eq_none]
   intro x hx
   simpa using List.findIdx?_eq_none_iff.1 hfi x hx
  unfold waitsF at h2
  rw [hn] at h2
  cases h2
 | some k =>
  obtain ⟨k1, k2, k3⟩ := List.findIdx?_eq_some_iff_getElem.1 hfi
  have hb : w.state.queues[k]? = some w.state.queues[k] := List.getElem?_eq_getElem k1
  have hqm := List.getElem_mem k1
  have ef : w.state.queues.find? (fun q => q.res.name == c.name) = some w.state.queues[k] := by
   rw [List.find?_eq_some_iff_getElem]
   exact ⟨k2, k, k1, rfl, fun j hj => by simpa using k3 j hj⟩
  generalize w.state.queues[k] = q at hb hqm ef k2
  have h2' := h2
  unfold waitsF at h2'
  rw [ef] at h2'
  have hqs : (causeQ q c.proc).isSome = true := by rw [← want_cause]; exact h2'
  have hdm := causeQ_len (hw.aq q hqm) c.proc
  obtain ⟨d, hd⟩ := Option.isSome_iff_exists.1 hqs
  have hgd : (causeQ q c.proc).getD cz = d := by rw [hd]; rfl
  rw [hgd] at hdm
  refine draw_mk 12 [([], [2]), ([0], [39]), ([0, 1], [40]), ([], [2]), ([3], [42]), ([3, 4], [43]), ([], [5]), ([6], [45]), ([3, 4, 5, 6, 7], [44, 46]), ([0, 1, 2, 3, 4, 5, 6, 7, 8], [41, 47]), ([0, 1, 2, 3, 4, 5, 6, 7, 8, 9], [48]), ([], []), ([0, 1, 2, 3, 4, 5, 6, 7, 8, 9, 10, 11], [])] fol (by kernel_rfl) ?_
  simp (disch := omega) only [go_sem, List.getElem?_map, hc]
  first | (refine call_pure (f81_ok w.state.queues c.name (by omega)) (by simp (disch := omega) only [go_sem]) rfl ?_) | (refine freeCall_mk ⟨⟨[], [], []⟩, [], []⟩ (f81_ok w.state.queues c.name (by omega)) (by simp (disch := omega) only [go_sem]) rfl rfl trivial (.inl rfl) ?_)
  simp (disch := omega) only [go_sem, hfi, List.getElem?_map, hb]
  refine draw_mk 5 [([], [5]), ([], [6]), ([], [5]), ([2], [52]), ([1, 2, 3], [51, 53]), ([0, 1, 2, 3, 4], []), ([0, 1, 2, 3, 4, 5], [])] fol (by kernel_rfl) ?_
  simp (disch := omega) only [go_sem]
  first | (refine call_pure (f32_ok q c.proc (hw.aq q hqm) hqs) (by simp (disch := omega) only [go_sem]) rfl ?_) | (refine freeCall_mk ⟨⟨[], [], []⟩, [], []⟩ (f32_ok q c.proc (hw.aq q hqm) hqs) (by simp (disch := omega) only [go_sem]) rfl rfl trivial (.inl rfl) ?_)
  simp (disch := omega) only [go_sem, hgd]
  first | (refine call_pure (f34_two c d hdm) (by simp (disch := omega) only [go_sem]) rfl ?_) | (refine freeCall_mk ⟨⟨[], [], []⟩, [], []⟩ (f34_two c d hdm) (by simp (disch := omega) only [go_sem]) rfl rfl trivial (.inl rfl) ?_)
  cases h4 : decide (c = d)
  ·simp (disch := omega) only [go_sem]
   refine ret1 _ ?_
   simp (disch := omega) only [go_sem]
   exact wb (by simp only [soundC, ef, hgd, h4, Bool.and_false, Bool.false_and])
  have hcd : c = d := by simpa using h4
  simp (disch := omega) only [go_sem]
  refine draw_mk 12 [([], [5]), ([0], [57]), ([0, 1], [58]), ([0, 1, 2], [59]), ([0, 1, 2, 3], [2, 60]), ([0, 1, 2, 3, 4], [61, 60]), ([0, 1, 2, 3], [5, 60]), ([0, 1, 2, 3, 6], [63, 60]), ([0, 1, 2, 3, 6, 7], [64, 60]), ([0, 1, 2, 3, 6, 7, 8], [65, 60]), ([0, 1, 2, 3], [5, 60]), ([0, 1, 2, 3, 10], [67, 60]), ([0, 1, 2, 3, 4, 5, 6, 7, 8, 9, 10, 11], []), ([0, 1, 2, 3, 4, 5, 6, 7, 8, 9, 10, 11, 12], []), ([0, 1, 2, 3, 4, 5, 6, 7, 8, 9, 10, 11, 12, 13], []), ([0, 1, 2, 3, 4, 5, 6, 7, 8, 9, 10, 11, 12, 13, 14], [])] fol (by kernel_rfl) ?_
  by_cases hwy : c.why = 2
  rotate_left
  ·have e5 : (c.why != 2) = true := by simp [hwy]
   have e6 : decide (c.why = 2) = false := by simp [hwy]
   simp (disch := omega) only [go_sem, e5]
   refine ret1 _ ?_
   simp (disch := omega) only [go_sem]
   exact wb (by simp only [soundC, ef, hgd, h1, h2, h3, h4, e6]; simp)
  ·obtain ⟨x, hx⟩ := cause_two hd (by rw [← hcd]; exact hwy)
   rw [← hcd] at hx
   have e5 : (c.why != 2) = false := by simp [hwy]
   have e6 : decide (c.why = 2) = true := by simp [hwy]
   have hx0 : c.members[0]? = some x := by rw [hx]; rfl
   have hxl : 0 < c.members.length := by rw [hx]; simp
   have hhd : c.members.headD ⟨0, 0, 0⟩ = x := by rw [hx]; rfl
   simp (disch := omega) only [go_sem, e5, List.getElem?_map, hx0]
   first | (refine call_pure (f45_ok w.causes x c.name hcl) (by simp (disch := omega) only [go_sem]) rfl ?_) | (refine freeCall_mk ⟨⟨[], [], []⟩, [], []⟩ (f45_ok w.causes x c.name hcl) (by simp (disch := omega) only [go_sem]) rfl rfl trivial (.inl rfl) ?_)
   simp (disch := omega) only [go_sem, List.getElem?_map, hx0]
   refine ret1 _ ?_
   simp (disch := omega) only [go_sem]
   exact wb (by simp only [soundC, ef, hgd, h1, h2, h3, h4, e6, hhd]; simp)
theorem findC_nonneg (cs : List Cause) (p : Proc) (name : Bs) : decide (0 ≤ findC cs p name) = decide ((p, name) ∈ cs.map place) := by
 refine decide_eq_decide.2 ?_
 have hp : ∀ c : Cause, isPl p name c = true ↔ place c = (p, name) := fun c => by simp [isPl, place]
 unfold findC
 cases h : cs.findIdx? (isPl p name) with
 | none =>
  simp only [List.mem_map, not_exists, not_and, iff_false, show ¬ (0 ≤ (-1 : Int)) by omega, false_iff]
  intro c hc h2
  have := List.findIdx?_eq_none_iff.1 h c hc
  rw [(hp c).2 h2] at this
  cases this
 | some i =>
  obtain ⟨k1, k2, _⟩ := List.findIdx?_eq_some_iff_getElem.1 h
  refine ⟨fun _ => List.mem_map.2 ⟨cs[i], List.getElem_mem k1, (hp _).1 k2⟩, fun _ => by simp⟩
theorem findC_at {cs : List Cause} {i : Nat} {c : Cause} (hc : cs[i]? = some c) : decide (findC cs c.proc c.name = i) = !decide (place c ∈ (cs.take i).map place) := by
 have hp : ∀ d : Cause, isPl c.proc c.name d = true ↔ place d = place c := fun d => by simp [isPl, place]
 have hi : i < cs.length := (List.getElem?_eq_some_iff.1 hc).1
 rw [← decide_not]
 refine decide_eq_decide.2 ?_
 have hfin : cs.findIdx? (isPl c.proc c.name) = some i ↔ place c ∉ (cs.take i).map place := by
  rw [List.findIdx?_eq_some_iff_getElem]
  have hce : cs[i] = c := by rw [List.getElem?_eq_getElem hi] at hc; exact Option.some.inj hc
  constructor
  ·rintro ⟨h1, h2, h3⟩ hm
   obtain ⟨d, hd, he⟩ := List.mem_map.1 hm
   obtain ⟨j, hj, rfl⟩ := List.mem_take_iff_getElem.1 hd
   have := h3 j (by omega)
   rw [(hp _).2 he] at this
   exact this rfl
  ·intro hm
   refine ⟨hi, by rw [hce]; exact (hp c).2 rfl, fun j hj => ?_⟩
   intro h
   exact hm (List.mem_map.2 ⟨cs[j], List.mem_take_iff_getElem.2 ⟨j, by omega, rfl⟩, (hp _).1 h⟩)
 unfold findC
 cases h : cs.findIdx? (isPl c.proc c.name) with
 | none =>
  rw [h] at hfin
  simp only [reduceCtorEq, false_iff] at hfin
  simp only [hfin, iff_false]
  omega
 | some j =>
  rw [h] at hfin
  simp only [Option.some.injEq] at hfin
  rw [← hfin]
  show ((j : Int) = i ↔ j = i)
  omega
theorem l1_iff (s : WS) : ∀ (cs : List Cause) (seen : List Pl), l1 s seen cs = true ↔ ∀ i c, cs[i]? = some c → place c ∉ seen ++ (cs.take i).map place ∧ rightS s c = true
 | [], seen => by simp [l1]
 | c :: cs, seen => by
  simp only [l1, Bool.and_eq_true, Bool.not_eq_true', decide_eq_false_iff_not, l1_iff s cs]
  constructor
  ·rintro ⟨⟨h1, h2⟩, h3⟩ i d hd
   cases i with
   | zero => simp at hd; subst hd; simpa using ⟨h1, h2⟩
   | succ i =>
    have := h3 i d (by simpa using hd)
    simpa [List.append_assoc] using this
  ·intro h
   refine ⟨by simpa using h 0 c rfl, fun i d hd => ?_⟩
   have := h (i + 1) d (by simpa using hd)
   simpa [List.append_assoc] using this
theorem causeQ_self {q : Queue} {p : Proc} {d : Cause} (h : causeQ q p = some d) : d.proc = p ∧ d.name = q.res.name := by
 cases hk : (ordQ q).findIdx? (fun x => decide (x = p)) with
 | none => simp [causeQ, hk] at h
 | some k => cases k <;> (simp [causeQ, hk] at h; subst h; exact ⟨rfl, rfl⟩)
theorem right_iff (s : WS) (c : Cause) : rightS s c = (waitsF s.queues c.proc c.name && (match s.queues.find? (fun q => q.res.name == c.name) with
  | some q => decide (c = (causeQ q c.proc).getD cz)
  | none => false)) := by
 unfold rightS waitsF
 cases hf : s.queues.find? (fun q => q.res.name == c.name) with
 | none => simp
 | some q =>
  have hn := List.find?_some hf
  simp only [beq_iff_eq] at hn
  simp only
  rw [want_cause]
  cases hd : causeQ q c.proc with
  | none => simp
  | some d =>
   obtain ⟨e1, e2⟩ := causeQ_self hd
   simp only [Option.isSome_some, Option.getD_some, Bool.true_and]
   obtain ⟨c1, c2, c3, c4⟩ := c
   obtain ⟨d1, d2, d3, d4⟩ := d
   simp only at e1 e2 hn
   subst e1 e2 hn
   refine Bool.eq_iff_iff.2 ?_
   simp only [Bool.and_eq_true, decide_eq_true_eq, Cause.mk.injEq, true_and]
   constructor
   ·rintro ⟨h1, h2⟩; exact ⟨h1.symm, h2.symm⟩
   ·rintro ⟨h1, h2⟩; exact ⟨h1.symm, h2.symm⟩
theorem waits_mem {s : WS} {p : Proc} {name : Bs} (h : waitsF s.queues p name = true) : p ∈ procsS s := by
 unfold waitsF at h
 cases hf : s.queues.find? (fun q => q.res.name == name) with
 | none => rw [hf] at h; cases h
 | some q =>
  rw [hf] at h
  have hq := List.mem_of_find?_eq_some hf
  simp only [wantQ, Option.isSome_map] at h
  obtain ⟨w, hw, he⟩ := List.find?_isSome.1 h
  rw [mem_procsS]
  refine .inl ⟨q, hq, ?_⟩
  rw [mem_procsQ]
  simp only [decide_eq_true_eq] at he
  rcases List.mem_append.1 hw with hw | hw
  ·exact .inr (.inl ⟨w, hw, he⟩)
  ·exact .inr (.inr ⟨w, hw, he⟩)
theorem soundC_iff {w : Wit} (hmem : w.members = procsS w.state) {i : Nat} {c : Cause} (hc : w.causes[i]? = some c) :
  soundC w i c = (rightS w.state c && !decide (place c ∈ (w.causes.take i).map place) && (!decide (c.why = 2) || decide ((c.members.headD ⟨0, 0, 0⟩, c.name) ∈ w.causes.map place))) := by
 unfold soundC
 rw [right_iff, findC_at hc, findC_nonneg]
 cases h2 : waitsF w.state.queues c.proc c.name
 ·simp
 ·have h1 : hasP w.members c.proc = true := by
   rw [hmem]
   simpa [hasP] using waits_mem h2
  rw [h1]
  refine Bool.eq_iff_iff.2 ?_
  simp only [Bool.true_and, Bool.and_eq_true]
  constructor
  ·rintro ⟨⟨h3, h4⟩, h5⟩; exact ⟨⟨h4, h3⟩, h5⟩
  ·rintro ⟨⟨h4, h3⟩, h5⟩; exact ⟨⟨h3, h4⟩, h5⟩
theorem sound_bad {w : Wit} (hv : validS w.state = true) (hmem : w.members = procsS w.state) {i : Nat} {c : Cause} (hc : w.causes[i]? = some c) (hs : soundC w i c = false) : checkS w = 17 := by
 unfold checkS
 rw [if_pos ⟨hv, hmem⟩, if_neg]
 rintro ⟨h1, h2, _⟩
 have h3 := (l1_iff w.state w.causes []).1 h1 i c hc
 have hm : c ∈ w.causes := List.mem_of_getElem? hc
 have h4 := List.all_eq_true.1 h2 c hm
 rw [soundC_iff hmem hc, h3.2] at hs
 have h5 : decide (place c ∈ (w.causes.take i).map place) = false := by simpa using h3.1
 rw [h5] at hs
 simp only [Bool.not_false, Bool.true_and] at hs
 cases hw : decide (c.why = 2)
 ·rw [hw] at hs; simp at hs
 ·rw [hw] at hs h4
  simp only [Bool.not_true, Bool.false_or, Bool.true_and, Bool.not_not] at hs h4
  rw [hs] at h4
  cases h4
theorem sound_all {w : Wit} (hmem : w.members = procsS w.state) (h : ∀ i c, w.causes[i]? = some c → soundC w i c = true) : l1 w.state [] w.causes = true ∧ l2 (w.causes.map place) w.causes = true := by
 constructor
 ·refine (l1_iff _ _ _).2 fun i c hc => ?_
  have := h i c hc
  rw [soundC_iff hmem hc] at this
  simp only [Bool.and_eq_true, Bool.not_eq_true', decide_eq_false_iff_not] at this
  exact ⟨by simpa using this.1.2, this.1.1⟩
 ·refine List.all_eq_true.2 fun c hm => ?_
  obtain ⟨i, hi, rfl⟩ := List.getElem_of_mem hm
  have := h i _ (List.getElem?_eq_getElem hi)
  rw [soundC_iff hmem (List.getElem?_eq_getElem hi)] at this
  simp only [Bool.and_eq_true] at this
  have h2 := this.2
  cases hw : decide ((w.causes[i]).why = 2)
  ·simp
  ·rw [hw] at h2
   simp only [Bool.not_true, Bool.false_or] at h2
   rw [h2]
   simp
theorem f43_q (s : WS) (p : Proc) (h : Few s) : FnOK C0 43 [.agg s.c, .agg p.c] [] (.tup [.agg ((needQ s p).getD n0).c, B (needQ s p).isSome]) [] := f43_ok s p h
theorem need_proc {s : WS} {p : Proc} {n : Need} (h : needQ s p = some n) : n.proc = p := by simpa using List.find?_some h
set_option maxHeartbeats 4000000 in
theorem f14_ok (w : Wit) (hw : Few w.state) (hml : w.members.length ≤ 1000000) (hcl : w.causes.length ≤ 1000000) : FnOK C0 14 [.agg w.c] [] (I (checkS w)) [] := by
 have hpl := procsS_len hw
 refine FnOK.intro (fn := Tryz.f14) (c := Tryz.f14.body.getD .skip) (by kernel_rfl) (by kernel_rfl) (by kernel_rfl) (by kernel_rfl) (by simp [Tryz.f14]) (by simp [names]) ?_
 unfold Tryz.f14
 simp (disch := omega) only [go_sem]
 refine draw_mk 10 [([], [1]), ([0], [10]), ([0, 1], [11]), ([0, 1, 2], [12]), ([0, 1, 2, 3], [13]), ([0, 1, 2, 3, 4], [1, 14]), ([0, 1, 2, 3, 4, 5], [15, 14]), ([0, 1, 2, 3, 4], [1, 14]), ([0, 1, 2, 3, 4, 7], [17, 14]), ([0, 1, 2, 3, 4, 7, 8], [18, 14]), ([0, 1, 2, 3, 4, 5, 6, 7, 8, 9], []), ([0, 1, 2, 3, 4, 5, 6, 7, 8, 9, 10], []), ([0, 1, 2, 3, 4, 5, 6, 7, 8, 9, 10, 11], [])] fol (by kernel_rfl) ?_
 simp (disch := omega) only [go_sem]
 first | (refine call_pure (f41_ok w.state hw) (by simp (disch := omega) only [go_sem]) rfl ?_) | (refine freeCall_mk ⟨⟨[], [], []⟩, [], []⟩ (f41_ok w.state hw) (by simp (disch := omega) only [go_sem]) rfl rfl trivial (.inl rfl) ?_)
 cases hv : validS w.state
 ·have e : checkS w = 2 := by simp [checkS, hv]
  simp (disch := omega) only [go_sem, e]
  refine ret1 _ ?_
  simp (disch := omega) only [go_sem]
 simp (disch := omega) only [go_sem]
 first | (refine call_pure (f29_ok w.state hw) (by simp (disch := omega) only [go_sem]) rfl ?_) | (refine freeCall_mk ⟨⟨[], [], []⟩, [], []⟩ (f29_ok w.state hw) (by simp (disch := omega) only [go_sem]) rfl rfl trivial (.inl rfl) ?_)
 simp (disch := omega) only [go_sem]
 first | (refine call_pure (f18_two w.members (procsS w.state) (by omega)) (by simp (disch := omega) only [go_sem]) rfl ?_) | (refine freeCall_mk ⟨⟨[], [], []⟩, [], []⟩ (f18_two w.members (procsS w.state) (by omega)) (by simp (disch := omega) only [go_sem]) rfl rfl trivial (.inl rfl) ?_)
 by_cases hmem : w.members = procsS w.state
 rotate_left
 ·have e : checkS w = 2 := by simp [checkS, hmem]
  have d : decide (w.members = procsS w.state) = false := decide_eq_false hmem
  simp (disch := omega) only [go_sem, e, d]
  refine ret1 _ ?_
  simp (disch := omega) only [go_sem]
 have d : decide (w.members = procsS w.state) = true := decide_eq_true hmem
 simp (disch := omega) only [go_sem, d]
 refine loop_intro (α := Nat) (fun i => ⟨[(3, I i), (1, .ptr 64 0)], [(64, w.c)]⟩) (fun i => i ≤ (w.causes).length ∧ (∀ j c, j < i → w.causes[j]? = some c → soundC w j c = true)) (fun i => (w.causes).length - i) 0 ⟨by omega, (fun j c hj => by omega)⟩ ?_ ?_
 ·refine Imp.weak ?_ ?_
  all_goals (try simp (disch := omega) only [go_sem])
  all_goals (try (repeat' (with_reducible apply And.intro)))
  all_goals (first | exact .nilOwn (by omega) | exact .nilNo (by omega) | exact .sl (by simp []) | exact .int (by simp []) | exact .eq (by simp []))
 rintro i ⟨hi, hP⟩ J hJ
 simp (disch := omega) only [go_sem]
 refine And.intro (fun hlt => ?_) (fun hge => ?_)
 rotate_left
 have hil : i = (w.causes).length := by simp at hge; omega
 rotate_left
 obtain ⟨b, hb⟩ : ∃ b, (w.causes)[i]? = some b := ⟨_, List.getElem?_eq_getElem (by simp at hlt; omega)⟩
 have hbm := List.mem_of_getElem? hb
 have hlt2 : i < (w.causes).length := by simp at hlt; omega
 ·refine call_pure (f42_ok w i b hb hw hml hcl) (by simp (disch := omega) only [go_sem]) rfl ?_
  cases hs : soundC w i b
  ·have e : checkS w = 17 := sound_bad hv hmem hb hs
   simp (disch := omega) only [go_sem, e]
   refine ret1 _ ?_
   simp (disch := omega) only [go_sem]
  ·simp (disch := omega) only [go_sem]
   have hnx : ∀ j c, j < i + 1 → w.causes[j]? = some c → soundC w j c = true := fun j c hj hjc => by
    rcases Nat.lt_or_eq_of_le (Nat.lt_succ_iff.1 hj) with h | h
    ·exact hP j c h hjc
    ·subst h
     rw [hb] at hjc
     injection hjc with hjc
     subst hjc
     exact hs
   refine hJ _ (i + 1) ⟨by simp at hlt; omega, hnx⟩ (by simp at hlt; omega) (Imp.weak (by simp (disch := omega) only [go_sem]) (by simp (disch := omega) only [go_sem]))
 subst hil
 have hall : ∀ j c, w.causes[j]? = some c → soundC w j c = true := fun j c hjc => hP j c (List.getElem?_eq_some_iff.1 hjc).1 hjc
 obtain ⟨g1, g2⟩ := sound_all hmem hall
 have ev3 : checkS w = if w.members.all (hopeP w.state (w.causes.map place)) = true then 0 else 17 := by
  unfold checkS
  rw [if_pos ⟨hv, hmem⟩]
  simp only [g1, g2, true_and]
 clear hJ hP hi hge
 refine loop_intro (α := Nat) (fun i => ⟨[(4, I i), (1, .ptr 64 0)], [(64, w.c)]⟩) (fun i => i ≤ (w.members).length ∧ (w.members.take i).all (hopeP w.state (w.causes.map place)) = true) (fun i => (w.members).length - i) 0 ⟨by omega, rfl⟩ ?_ ?_
 ·refine Imp.weak ?_ ?_
  all_goals (try simp (disch := omega) only [go_sem])
  all_goals (try (repeat' (with_reducible apply And.intro)))
  all_goals (first | exact .nilOwn (by omega) | exact .nilNo (by omega) | exact .sl (by simp []) | exact .int (by simp []) | exact .eq (by simp []))
 rintro i ⟨hi, hP⟩ J hJ
 simp (disch := omega) only [go_sem]
 refine And.intro (fun hlt => ?_) (fun hge => ?_)
 rotate_left
 have hil : i = (w.members).length := by simp at hge; omega
 rotate_left
 obtain ⟨b, hb⟩ : ∃ b, (w.members)[i]? = some b := ⟨_, List.getElem?_eq_getElem (by simp at hlt; omega)⟩
 have hbm := List.mem_of_getElem? hb
 have hlt2 : i < (w.members).length := by simp at hlt; omega
 ·have hx0 : True := trivial
  refine draw_dag 16383 [(0, [(0, 1), (2, 4), (4, 16), (11, 2048)]), (1, [(1, 3), (2, 5), (4, 17), (11, 2049)]), (4, [(0, 5), (3, 12), (4, 20), (11, 2052)]), (16, [(0, 17), (2, 20), (11, 2064)]), (2048, [(0, 2049), (2, 2052), (4, 2064)]), (3, [(2, 7), (4, 19), (11, 2051)]), (5, [(1, 7), (3, 13), (4, 21), (11, 2053)]), (17, [(1, 19), (2, 21), (11, 2065)]), (2049, [(1, 2051), (2, 2053), (4, 2065)]), (12, [(0, 13), (4, 28), (11, 2060)]), (20, [(0, 21), (3, 28), (11, 2068)]), (2052, [(0, 2053), (3, 2060), (4, 2068)]), (2064, [(0, 2065), (2, 2068)]), (7, [(3, 15), (4, 23), (11, 2055)]), (19, [(2, 23), (11, 2067)]), (2051, [(2, 2055), (4, 2067)]), (13, [(1, 15), (4, 29), (11, 2061)]), (21, [(1, 23), (3, 29), (11, 2069)]), (2053, [(1, 2055), (3, 2061), (4, 2069)]), (2065, [(1, 2067), (2, 2069)]), (28, [(0, 29), (5, 60), (11, 2076)]), (2060, [(0, 2061), (4, 2076)]), (2068, [(0, 2069), (3, 2076)]), (15, [(4, 31), (11, 2063)]), (23, [(3, 31), (11, 2071)]), (2055, [(3, 2063), (4, 2071)]), (2067, [(2, 2071)]), (29, [(1, 31), (5, 61), (11, 2077)]), (2061, [(1, 2063), (4, 2077)]), (2069, [(1, 2071), (3, 2077)]), (60, [(0, 61), (6, 124), (11, 2108)]), (2076, [(0, 2077), (5, 2108)]), (31, [(5, 63), (11, 2079)]), (2063, [(4, 2079)]), (2071, [(3, 2079)]), (61, [(1, 63), (6, 125), (11, 2109)]), (2077, [(1, 2079), (5, 2109)]), (124, [(0, 125), (11, 2172)]), (2108, [(0, 2109), (6, 2172)]), (63, [(6, 127), (11, 2111)]), (2079, [(5, 2111)]), (125, [(1, 127), (11, 2173)]), (2109, [(1, 2111), (6, 2173)]), (2172, [(0, 2173)]), (127, [(7, 255), (11, 2175)]), (2111, [(6, 2175)]), (2173, [(1, 2175)]), (255, [(8, 511), (11, 2303)]), (2175, [(7, 2303)]), (511, [(9, 1023), (10, 1535), (11, 2559)]), (2303, [(8, 2559)]), (1023, [(10, 2047), (11, 3071)]), (1535, [(9, 2047), (11, 3583)]), (2559, [(9, 3071), (10, 3583)]), (2047, [(11, 4095)]), (3071, [(10, 4095), (12, 7167)]), (3583, [(9, 4095)]), (4095, [(12, 8191)]), (7167, [(10, 8191)]), (8191, [(13, 16383)]), (16383, [])] (fun m => ⟨sel m [(1, 42, .ptr 64 0), (2, 43, .agg w.state.c), (4, 44, .ptr 64 2), (8, 45, procsV w.members), (16, 46, I i), (32, 47, .ep .no i b.c 0), (64, 48, .agg b.c), (128, 49, .tup [.agg ((needQ w.state b).getD n0).c, B (needQ w.state b).isSome]), (256, 41, .tup [.agg ((needQ w.state b).getD n0).c, B (needQ w.state b).isSome]), (512, 50, .agg ((needQ w.state b).getD n0).c), (1024, 51, B (needQ w.state b).isSome), (2048, 5, .ptr 320 0), (8192, 6, B (needQ w.state b).isSome)] ++ [(4, I i), (1, .ptr 64 0)], ((if m / 2048 % 2 = 1 then [(320, (if m / 4096 % 2 = 1 then ((needQ w.state b).getD n0).c else [I 0, I 0, I 0, I 0, .v (.string (str [])), I 0, I 0, .sl .no 5 [], I 0]))] else []) ++ [(64, w.c)])⟩) fol (by kernel_rfl) ?_ ?_ ?_
  ·exact Imp.weak (by simp (disch := omega) only [go_sem]) (by simp (disch := omega) only [go_sem, List.nil_append])
  ·simp only [dagP_cons, dagE_cons, dagP_nil, dagE_nil, and_true]
   repeat' (with_reducible refine And.intro ?_ ?_)
   all_goals simp (disch := omega) only [go_sem, List.getElem?_map, hb, List.nil_append]
   all_goals (first | exact Imp.weak (by simp (disch := omega) only [go_sem]) (by simp (disch := omega) only [go_sem, List.nil_append, List.cons_append]) | (refine call_pure (f43_q w.state b hw) (by simp (disch := omega) only [go_sem]) rfl ?_; simp (disch := omega) only [go_sem]; exact Imp.weak (by simp (disch := omega) only [go_sem]) (by simp (disch := omega) only [go_sem, List.nil_append, List.cons_append])))
  ·cases hn : needQ w.state b with
   | none =>
    have e : checkS w = 17 := by
     rw [ev3, if_neg]
     rw [all_bad hbm (by rw [hopeP, hn])]
     simp
    simp (disch := omega) only [go_sem, Option.isSome_none, e]
    refine ret1 _ ?_
    simp (disch := omega) only [go_sem]
   | some n =>
    have hnp := need_proc hn
    have hl := atomsE_len n.expr
    have hop : hopeP w.state (w.causes.map place) b = hopeE n.expr ((atomsE n.expr).map fun a => decide ((b, a.name) ∈ w.causes.map place)) := by rw [hopeP, hn]
    simp (disch := omega) only [go_sem, Option.isSome_some, Option.getD_some, List.cons_append, List.nil_append]
    refine call_pure (f44_ok n.expr) (by simp (disch := omega) only [go_sem, Expr.c_def]) rfl ?_
    generalize hA : atomsE n.expr = A at hl hop
    obtain ⟨o, rfl⟩ : ∃ o, o = i := ⟨i, rfl⟩
    have hJo := hJ
    have hbo := hb
    have hPo := hP
    have hlo : o < w.members.length := hlt2
    clear hJ hb hP hlt hlt2 hx0
    obtain ⟨p, rfl⟩ : ∃ p, p = b := ⟨b, rfl⟩
    simp (disch := omega) only [go_sem]
    refine loop_intro (α := Nat) (fun i => ⟨[(9, I i), (7, atomsV A), (8, .sl (.own 3776 0) 1 (((A.take i).map fun a => [B (decide (0 ≤ findC w.causes p a.name))]) ++ List.replicate (A.length - i) [B false])), (4, I o), (5, .ptr 320 0), (1, .ptr 64 0)], [(64, w.c), (320, n.c)]⟩) (fun i => i ≤ (A).length ∧ True) (fun i => (A).length - i) 0 ⟨by omega, trivial⟩ ?_ ?_
    ·refine Imp.weak ?_ ?_
     all_goals (try simp (disch := omega) only [go_sem])
     all_goals (try (repeat' (with_reducible apply And.intro)))
     all_goals (first | exact .nilOwn (by omega) | exact .nilNo (by omega) | exact .sl (by simp []) | exact .int (by simp []) | exact .eq (by simp []))
    rintro i ⟨hi, hP⟩ J hJ
    simp (disch := omega) only [go_sem]
    refine And.intro (fun hlt => ?_) (fun hge => ?_)
    rotate_left
    have hil : i = (A).length := by simp at hge; omega
    rotate_left
    obtain ⟨b, hb⟩ : ∃ b, (A)[i]? = some b := ⟨_, List.getElem?_eq_getElem (by simp at hlt; omega)⟩
    have hbm := List.mem_of_getElem? hb
    have hlt2 : i < (A).length := by simp at hlt; omega
    ·have hlen : min i A.length + (A.length - i) = A.length := by omega
     have hget : (((A.take i).map fun a => [B (decide (0 ≤ findC w.causes p a.name))]) ++ List.replicate (A.length - i) [B false])[i]? = some [B false] := by
      rw [List.getElem?_append_right (by simp; omega), List.getElem?_replicate]
      simp; omega
     have nxt : (((A.take i).map fun a => [B (decide (0 ≤ findC w.causes p a.name))]) ++ List.replicate (A.length - i) [B false]).set i [B (decide (0 ≤ findC w.causes p b.name))] = ((A.take (i + 1)).map fun a => [B (decide (0 ≤ findC w.causes p a.name))]) ++ List.replicate (A.length - (i + 1)) [B false] := by
      have e2 := set_rep' ((A.take i).map fun a => [B (decide (0 ≤ findC w.causes p a.name))]) [B false] [B (decide (0 ≤ findC w.causes p b.name))] (A.length - (i + 1))
      simp only [List.length_map, List.length_take, Nat.min_eq_left (show i ≤ A.length by omega)] at e2
      rw [show A.length - i = (A.length - (i + 1)) + 1 by omega, e2, List.take_add_one, hb]
      simp
     refine draw_mk 13 [([], [8]), ([], [9]), ([], [1]), ([2], [68]), ([], [5]), ([4], [70]), ([], [7]), ([], [9]), ([6, 7], [72, 73]), ([6, 7, 8], [74]), ([6, 7, 8, 9], [75]), ([2, 3, 4, 5, 6, 7, 8, 9, 10], [69, 71, 76]), ([2, 3, 4, 5, 6, 7, 8, 9, 10, 11], [77]), ([0, 1, 2, 3, 4, 5, 6, 7, 8, 9, 10, 11, 12], []), ([0, 1, 2, 3, 4, 5, 6, 7, 8, 9, 10, 11, 12, 13], [])] fol (by kernel_rfl) ?_
     simp (disch := omega) only [go_sem, List.getElem?_map, hb, hget]
     refine freeCall_mk ⟨⟨[], [], []⟩, [], []⟩ (f45_ok w.causes p b.name hcl) (by simp (disch := omega) only [go_sem, hnp]) rfl rfl trivial (.inl rfl) ?_
     simp (disch := omega) only [go_sem, List.getElem?_map, hb, hget, List.length_append, List.length_replicate, List.length_map, List.length_take, hlen]
     refine hJ _ (i + 1) ⟨by omega, trivial⟩ (by omega) (Imp.weak ?_ (by simp (disch := omega) only [go_sem]))
     simp (disch := omega) only [go_sem]
     exact .sl nxt
    ·subst hil
     clear hJ
     refine call_lent [3776] (f46_ok n.expr (A.map fun a => decide (0 ≤ findC w.causes p a.name))) ?_ rfl trivial ?_
     ·simp (disch := omega) only [go_sem, List.take_length, Nat.sub_self, List.replicate_zero, List.append_nil, Expr.c_def]
      exact .sl (by simp)
     have he : (A.map fun a => decide (0 ≤ findC w.causes p a.name)) = A.map fun a => decide ((p, a.name) ∈ w.causes.map place) := List.map_congr_left fun a _ => findC_nonneg w.causes p a.name
     rw [he]
     cases hh : hopeE n.expr (A.map fun a => decide ((p, a.name) ∈ w.causes.map place))
     ·have e : checkS w = 17 := by
       rw [ev3, if_neg]
       rw [all_bad hbm (hop.trans hh)]
       simp
      simp (disch := omega) only [go_sem, e]
      refine ret1 _ ?_
      simp (disch := omega) only [go_sem]
     ·simp (disch := omega) only [go_sem]
      refine hJo _ (o + 1) ⟨by omega, all_next hbo hPo (hop.trans hh)⟩ (by omega) (Imp.weak (by simp (disch := omega) only [go_sem]) (by simp (disch := omega) only [go_sem]))
 ·subst hil
  rw [List.take_length] at hP
  have e : checkS w = 0 := by rw [ev3, if_pos hP]
  simp (disch := omega) only [go_sem, e]
  refine ret1 _ ?_
  simp (disch := omega) only [go_sem]
theorem check_ok {w : Wit} (h : checkS w = 0) : validS w.state = true ∧ w.members = procsS w.state ∧ l1 w.state [] w.causes = true ∧ w.members.all (hopeP w.state (w.causes.map place)) = true := by
 unfold checkS at h
 split at h
 ·next h1 =>
  split at h
  ·next h2 => exact ⟨h1.1, h1.2, h2.1, h2.2.2⟩
  ·cases h
 ·cases h
theorem deadB_at {n : Nat} {d : List Bool} {k : Nat} (hk : k < n) (h : d.getD k false = false) : (deadB n d).getD k false = true := by
 simp only [deadB, List.getD_eq_getElem?_getD, List.getElem?_map, List.getElem?_range hk] at h ⊢
 simp [h]
theorem hope_stuck {s : WS} {cs : List Cause} (hv : validS s = true) (hl : l1 s [] cs = true) {p : Proc} (hp : hopeP s (cs.map place) p = true) : isFreeS s p = false := by
 unfold hopeP at hp
 cases hn : needQ s p with
 | none => rw [hn] at hp; cases hp
 | some n =>
  rw [hn] at hp
  simp only [hopeE, Bool.and_eq_true, Bool.not_eq_true'] at hp
  have hpn := need_proc hn
  unfold isFreeS
  rw [show s.needs.find? (fun n => decide (n.proc = p)) = some n from hn]
  simp only
  cases hh : holdsE n.expr (grantedS s n)
  ·rfl
  ·simp only [holdsE, Bool.and_eq_true] at hh
   have := evalE_mono (hasA_mono (t := deadB (atomsE n.expr).length ((atomsE n.expr).map fun a => decide ((p, a.name) ∈ cs.map place))) fun k hk => ?_) _ hh.2
   ·rw [this] at hp; exact absurd hp.2 (by simp)
   ·have hkl : k < (atomsE n.expr).length := by
     rcases Nat.lt_or_ge k (atomsE n.expr).length with h | h
     ·exact h
     ·rw [List.getD_eq_getElem?_getD, List.getElem?_eq_none (by simpa [grantedS] using h)] at hk; cases hk
    refine deadB_at hkl ?_
    rw [grantedS] at hk
    simp only [List.getD_eq_getElem?_getD, List.getElem?_map, List.getElem?_eq_getElem hkl, Option.map_some, Option.getD_some, Bool.not_eq_true'] at hk ⊢
    refine decide_eq_false fun hm => ?_
    obtain ⟨c, hc, he⟩ := List.mem_map.1 hm
    have hr := l1_right hl c hc
    rw [right_iff, Bool.and_eq_true] at hr
    have h1 : c.proc = p ∧ c.name = ((atomsE n.expr)[k]).name := by simpa [place] using he
    rw [← valid_waits hv, h1.1, h1.2] at hr
    rw [hpn] at hk
    rw [hk] at hr
    exact absurd hr.1 (by simp)
mutual
theorem eqE_eq : ∀ e f : Expr, eqE e f = true → e = f
 | .mk k a l, .mk k' a' l', h => by
  rw [eqE_def] at h
  simp only [Bool.and_eq_true, Expr.k, Expr.atom, Expr.kids] at h
  obtain ⟨⟨h1, h2⟩, h3⟩ := h
  rw [of_decide_eq_true h1, of_decide_eq_true h2, eqEs_eq l l' h3]
theorem eqEs_eq : ∀ l m : List Expr, eqAll eqE l m = true → l = m
 | [], [], _ => rfl
 | [], _ :: _, h => by simp [eqAll] at h
 | _ :: _, [], h => by simp [eqAll] at h
 | e :: l, f :: m, h => by
  simp only [eqAll, Bool.and_eq_true] at h
  rw [eqE_eq e f h.1, eqEs_eq l m h.2]
end
theorem eqN_all : ∀ l m : List Need, eqAll eqN l m = true → l = m
 | [], [], _ => rfl
 | [], _ :: _, h => by simp [eqAll] at h
 | _ :: _, [], h => by simp [eqAll] at h
 | ⟨p, e, g⟩ :: l, ⟨p', e', g'⟩ :: m, h => by
  simp only [eqAll, eqN, Bool.and_eq_true, decide_eq_true_eq] at h
  obtain ⟨⟨⟨h1, h2⟩, h3⟩, h4⟩ := h
  rw [h1, h2, eqE_eq e e' h3, eqN_all l m h4]
theorem plain_procs (q : Queue) : procsQ (plainQ q) = procsQ q := by
 unfold procsQ plainQ procsW
 simp only [List.map_append, List.map_map]
 rfl
theorem plain_want (q : Queue) (p : Proc) : (wantQ (plainQ q) p).isSome = (wantQ q p).isSome := by
 refine Bool.eq_iff_iff.2 ?_
 rw [want_mem, want_mem]
 simp only [plainQ, List.mem_append, List.mem_map]
 constructor
 ·rintro ⟨w, hw | ⟨v, hv, rfl⟩, rfl⟩
  ·exact ⟨w, .inl hw, rfl⟩
  ·exact ⟨v, .inr hv, rfl⟩
 ·rintro ⟨w, hw | hw, rfl⟩
  ·exact ⟨w, .inl hw, rfl⟩
  ·exact ⟨plainW w, .inr ⟨w, hw, rfl⟩, rfl⟩
theorem plain_waits (p : Proc) (name : Bs) (l : List Queue) : waitsIn (l.map plainQ) p name = waitsIn l p name := by
 unfold waitsIn
 rw [List.foldl_map]
 congr 1
 funext w q
 rw [plain_want]
 rfl
theorem plain_flat (l : List Queue) : (l.map plainQ).flatMap procsQ = l.flatMap procsQ := by
 rw [List.flatMap_map]
 congr 1
 funext q
 exact plain_procs q
theorem alike_spec {a b : WS} (h : alikeS a b = true) : procsS a = procsS b ∧ ∀ p, isFreeS a p = isFreeS b p := by
 simp only [alikeS, Bool.and_eq_true] at h
 have h2 := eqN_all _ _ h.2
 have h1 : a.queues.map plainQ = b.queues.map plainQ := by
  have := h.1
  rw [eqAll_map (g := plainQ) alikeQ_plain] at this
  exact of_decide_eq_true this
 constructor
 ·unfold procsS procsQs
  rw [h2, ← plain_flat a.queues, h1, plain_flat]
 ·intro p
  unfold isFreeS grantedS
  rw [h2]
  cases b.needs.find? (fun n => decide (n.proc = p)) with
  | none => rfl
  | some n =>
   simp only
   congr 2
   funext x
   rw [← plain_waits, h1, plain_waits]
theorem valid_goodS {s : WS} (h : validS s = true) : GoodS s := by
 intro q hq
 simp only [validS, queuesOK, Bool.and_eq_true] at h
 obtain ⟨i, hi, rfl⟩ := List.getElem_of_mem hq
 have := allAt_iff.1 h.1.1.2 i _ (List.getElem?_eq_getElem hi)
 simp only [queuePos, Bool.and_eq_true] at this
 exact this.1
theorem stuck_free {s : WS} (h : ∀ p ∈ procsS s, isFreeS s p = false) : freeS s = [] := by
 unfold freeS
 rw [List.filter_eq_nil_iff]
 intro p hp
 rw [h p hp]
 simp
theorem check_dead {w : Wit} (h : checkS w = 0) : freeS w.state = [] ∧ (ReduceS w.state).2 = w.members := by
 obtain ⟨h1, h2, h3, h4⟩ := check_ok h
 have hf : freeS w.state = [] := stuck_free fun p hp => hope_stuck h1 h3 (List.all_eq_true.1 h4 p (h2 ▸ hp))
 refine ⟨hf, ?_⟩
 unfold ReduceS
 rw [if_pos h1, h2]
 exact dead_nil (valid_goodS h1) hf
theorem agrees_dead {w : Wit} {s : WS} (h : checkS w = 0) (ha : agreesS w s = true) : ∀ p ∈ w.members, p ∈ (ReduceS s).2 := by
 simp only [agreesS, Bool.and_eq_true, decide_eq_true_eq] at ha
 unfold RestrictS at ha
 split at ha
 ·next hv =>
  obtain ⟨e1, e2⟩ := alike_spec ha.2
  have hg := valid_goodS hv
  intro p hp
  unfold ReduceS
  rw [if_pos hv]
  refine dead_resS hg w.members p ?_
  obtain ⟨h1, h2, h3, h4⟩ := check_ok h
  have hf : freeS (resS s w.members) = [] := stuck_free fun p hp => by
   rw [e2]
   exact hope_stuck h1 h3 (List.all_eq_true.1 h4 p (by rw [h2, ← e1]; exact hp))
  rw [dead_nil (good_resS hg _) hf, e1, ← h2]
  exact hp
 ·exact absurd ha.1 (by simp)
end Go.Rd
