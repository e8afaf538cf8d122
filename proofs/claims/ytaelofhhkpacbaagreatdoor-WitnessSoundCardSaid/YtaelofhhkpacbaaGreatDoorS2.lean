/- the last parts of the proof -/
import Derived.Test.YtaelofhhkpacbaaGreatDoorS0
import Derived.Test.YtaelofhhkpacbaaGreatDoorS1
import Derived.Test.YtaelofhhkpacbaaGreatDoorT11
import Derived.Test.YtaelofhhkpacbaaGreatDoorT13
set_option linter.all false
open Go Go.Abs Go.Proofs
set_option maxRecDepth 100000
namespace Go.Rd
theorem causes_mem {l : List Queue} {ms : List Proc} (hl : ∀ q ∈ l, allQ q ≤ 100) : ∀ c ∈ causesS l ms, c.members.length ≤ 1000000 := by
 intro c hc
 simp only [causesS, causesQ, List.mem_flatMap, List.mem_filterMap] at hc
 obtain ⟨p, _, q, hq, h⟩ := hc
 have := causeQ_len (hl q hq) p
 rw [h] at this
 exact this
theorem ofS_facts {s : WS} (l : List Proc) (h : Few s) : Few (ofS s l).1.state ∧ (ofS s l).1.members.length ≤ 1000000 ∧ (ofS s l).1.causes.length ≤ 10000000 ∧ ∀ c ∈ (ofS s l).1.causes, c.members.length ≤ 1000000 := by
 have hf := few_Restrict h l
 have e : Few wE.state ∧ wE.members.length ≤ 1000000 ∧ wE.causes.length ≤ 10000000 ∧ ∀ c ∈ wE.causes, c.members.length ≤ 1000000 := ⟨⟨by simp [wE, wsE], by simp [wE, wsE], by simp [wE, wsE]⟩, by simp [wE], by simp [wE], by simp [wE]⟩
 unfold ofS
 split
 ·split
  ·exact e
  ·have h1 := procsS_len hf
   have h2 := causesS_len (RestrictS s l).1.queues (procsS (RestrictS s l).1)
   have h3 : (procsS (RestrictS s l).1).length * (RestrictS s l).1.queues.length ≤ 20000 * 100 := Nat.mul_le_mul h1 hf.nq
   exact ⟨hf, Nat.le_trans h1 (by omega), Nat.le_trans h2 (by omega), causes_mem hf.aq⟩
 ·exact e
theorem crossW_small : Few crossS := small_few (by kernel_rfl)
theorem bw1 : (buildS crossS).2 = 0 := by kernel_rfl
theorem bw2 : (buildS crossS).1.causes.length = 2 := by kernel_rfl
theorem bw3 : (buildS crossS).1.members.length = 2 := by kernel_rfl
theorem bw4 : checkS (buildS crossS).1 = 0 := by kernel_rfl
theorem bw5 : agreesS (buildS crossS).1 crossS = true := by kernel_rfl
theorem bw6 : ((buildS crossS).1.causes[0]?).map (·.why) = some 1 := by kernel_rfl
theorem bw7 : checkS ⟨(buildS crossS).1.state, (buildS crossS).1.members, (buildS crossS).1.causes.take 1⟩ = 17 := by kernel_rfl
theorem bw8 : (ReduceS crossS).2.length = 2 := by kernel_rfl
set_option maxHeartbeats 1000000 in
theorem f7_ok : FnOK C0 7 [] [] (B true) [] := by
 obtain ⟨fw1, fw2, fw3, fw4⟩ := ofS_facts (ReduceS crossS).2 crossW_small
 have b1 := bw1
 have b2 := bw2
 have b3 := bw3
 have b4 := bw4
 have b5 := bw5
 have b6 := bw6
 have b7 := bw7
 have hb : ofS crossS (ReduceS crossS).2 = buildS crossS := rfl
 rw [hb] at fw1 fw2 fw3 fw4
 refine FnOK.intro (fn := Tryz.f7) (c := Tryz.f7.body.getD .skip) (by kernel_rfl) (by kernel_rfl) (by kernel_rfl) (by kernel_rfl) (by simp [Tryz.f7]) (by simp [names]) ?_
 unfold Tryz.f7
 simp (disch := omega) only [go_sem]
 refine call_pure (f20_ok 0) (by simp (disch := omega) only [go_sem]) rfl ?_
 simp (disch := omega) only [go_sem]
 refine call_pure (f20_ok 1) (by simp (disch := omega) only [go_sem]) rfl ?_
 simp (disch := omega) only [go_sem]
 refine drawA_to ⟨[(3, .ptr 192 0)], [(192, crossS.c)]⟩ ?_ ?_
 rotate_left
 ·refine draw_mk 14 [([], [1]), ([], [2]), ([0, 1], [8, 9]), ([], [2]), ([], [1]), ([0, 1, 2, 3, 4], [11, 12]), ([0, 1, 2, 3, 4, 5], [10, 13]), ([], [1]), ([0, 1, 2, 3, 4, 5, 7], [15]), ([], [2]), ([0, 1, 2, 3, 4, 5, 7, 8, 9], [17]), ([0, 1, 2, 3, 4, 5, 7, 8, 9, 10], [16, 18]), ([0, 1, 2, 3, 4, 5, 6, 7, 8, 9, 10, 11], [14, 19]), ([], []), ([0, 1, 2, 3, 4, 5, 6, 7, 8, 9, 10, 11, 12, 13], [])] fol (by kernel_rfl) ?_
  simp (disch := omega) only [go_sem]
  refine freeCall_mk ⟨⟨[], [], []⟩, [], []⟩ (f21_ok [97] (procK 0) (procK 1)) (by simp (disch := omega) only [go_sem]; exact .eq rfl) rfl rfl trivial (.inl rfl) ?_
  simp (disch := omega) only [go_sem]
  refine freeCall_mk ⟨⟨[], [], []⟩, [], []⟩ (f21_ok [98] (procK 1) (procK 0)) (by simp (disch := omega) only [go_sem]; exact .eq rfl) rfl rfl trivial (.inl rfl) ?_
  simp (disch := omega) only [go_sem, lockQ, wA, holdsV, waitsV, List.map_cons, List.map_nil]
  refine freeCall_mk ⟨⟨[], [], []⟩, [], []⟩ (f22_ok (procK 0) [98]) (by simp (disch := omega) only [go_sem]; exact .eq rfl) rfl rfl trivial (.inl rfl) ?_
  simp (disch := omega) only [go_sem]
  first
   | (refine call_pure (f22_ok (procK 1) [97]) (by simp (disch := omega) only [go_sem]; exact .eq rfl) rfl ?_)
   | (refine freeCall_mk ⟨⟨[], [], []⟩, [], []⟩ (f22_ok (procK 1) [97]) (by simp (disch := omega) only [go_sem]; exact .eq rfl) rfl rfl trivial (.inl rfl) ?_)
  simp (disch := omega) only [go_sem, needN, wA, Expr.k, Expr.atom, Expr.kids, exprsV, List.map_nil]
  exact Imp.weak (by simp (disch := omega) only [go_sem]) (by simp (disch := omega) only [go_sem, crossS, lockQ, needN, wA, Expr.k, Expr.atom, Expr.kids, queuesV, needsV, holdsV, waitsV, exprsV, List.map_cons, List.map_nil])
 have hq : crossS.queues = [lockQ [97] (procK 0) (procK 1), lockQ [98] (procK 1) (procK 0)] := rfl
 simp (disch := omega) only [go_sem]
 refine call_pure (f8_ok crossS crossW_small (by rw [bw8]; omega)) (by simp (disch := omega) only [go_sem]) rfl ?_
 generalize buildS crossS = w at b1 b2 b3 b4 b5 b6 b7 fw1 fw2 fw3 fw4
 obtain ⟨W, en⟩ := w
 simp only at b1 b2 b3 b4 b5 b6 b7 fw1 fw2 fw3 fw4
 subst b1
 have e2 : ((W.causes.length : Int) != 2) = false := by simp [b2]
 have e3 : ((W.members.length : Int) != 2) = false := by simp [b3]
 obtain ⟨c, hc⟩ : ∃ c, W.causes[0]? = some c := ⟨_, List.getElem?_eq_getElem (by omega)⟩
 have hcw : c.why = 1 := by simpa [hc] using b6
 have e4 : (c.why != 1) = false := by simp [hcw]
 have hl0 : 0 < W.causes.length := by omega
 have z0 : ((0 : Int) != 0) = false := by simp
 simp (disch := omega) only [go_sem, z0, e2, e3]
 refine call_pure (f13_ok W fw1 fw2 (by omega)) (by simp (disch := omega) only [go_sem]) rfl ?_
 simp (disch := omega) only [go_sem, b4, z0]
 refine call_pure (f15_ok W crossS fw1 crossW_small fw2) (by simp (disch := omega) only [go_sem]) rfl ?_
 simp (disch := omega) only [go_sem, b5, List.getElem?_map, hc, e4]
 refine call_pure (f13_ok ⟨W.state, W.members, W.causes.take 1⟩ fw1 fw2 (by simp; omega)) ?_ rfl ?_
 ·simp (disch := omega) only [go_sem]
  exact .eq (by simp [Wit.c, List.map_take])
 simp (disch := omega) only [go_sem, b7]
 refine ret1 _ ?_
 simp (disch := omega) only [go_sem]
theorem reduce_len {s : WS} (h : Few s) : (ReduceS s).2.length ≤ 1000000 := by
 unfold ReduceS
 split
 ·next hv => exact Nat.le_trans (red_len h (valid_goodS hv)) (by omega)
 ·simp
theorem f5_ok (w : Wit) (s : WS) : FnOK C0 5 [.agg w.c, .agg s.c] [] (B true) [] := by
 refine FnOK.intro (fn := Tryz.f5) (c := Tryz.f5.body.getD .skip) (by kernel_rfl) (by kernel_rfl) (by kernel_rfl) (by kernel_rfl) (by simp [Tryz.f5]) (by simp [names]) ?_
 unfold Tryz.f5
 simp (disch := omega) only [go_sem]
 refine call_pure (f6_ok w.state) (by simp (disch := omega) only [go_sem]) rfl ?_
 cases h1 : smallS w.state
 ·simp (disch := omega) only [go_sem]
  refine call_pure f7_ok (by simp (disch := omega) only [go_sem]) rfl ?_
  simp (disch := omega) only [go_sem]
  refine ret1 _ ?_
  simp (disch := omega) only [go_sem]
 simp (disch := omega) only [go_sem]
 refine call_pure (f6_ok s) (by simp (disch := omega) only [go_sem]) rfl ?_
 cases h2 : smallS s
 ·simp (disch := omega) only [go_sem]
  refine call_pure f7_ok (by simp (disch := omega) only [go_sem]) rfl ?_
  simp (disch := omega) only [go_sem]
  refine ret1 _ ?_
  simp (disch := omega) only [go_sem]
 have f1 := small_few h1
 have f2 := small_few h2
 by_cases h3 : 20 < w.members.length
 ·have e : decide (20 < (w.members.length : Int)) = true := decide_eq_true (by omega)
  simp (disch := omega) only [go_sem, e]
  refine call_pure f7_ok (by simp (disch := omega) only [go_sem]) rfl ?_
  simp (disch := omega) only [go_sem]
  refine ret1 _ ?_
  simp (disch := omega) only [go_sem]
 have e3 : decide (20 < (w.members.length : Int)) = false := decide_eq_false (by omega)
 by_cases h4 : 60 < w.causes.length
 ·have e : decide (60 < (w.causes.length : Int)) = true := decide_eq_true (by omega)
  simp (disch := omega) only [go_sem, e3, e]
  refine call_pure f7_ok (by simp (disch := omega) only [go_sem]) rfl ?_
  simp (disch := omega) only [go_sem]
  refine ret1 _ ?_
  simp (disch := omega) only [go_sem]
 have e4 : decide (60 < (w.causes.length : Int)) = false := decide_eq_false (by omega)
 simp (disch := omega) only [go_sem, e3, e4]
 refine call_pure (f13_ok w f1 (by omega) (by omega)) (by simp (disch := omega) only [go_sem]) rfl ?_
 by_cases hc : checkS w = 0
 rotate_left
 ·have e : (checkS w != 0) = true := by simp [hc]
  simp (disch := omega) only [go_sem, e]
  refine call_pure f7_ok (by simp (disch := omega) only [go_sem]) rfl ?_
  simp (disch := omega) only [go_sem]
  refine call_pure (f14_ok w f1 (by omega) (by omega)) (by simp (disch := omega) only [go_sem]) rfl ?_
  simp (disch := omega) only [go_sem, e]
  refine ret1 _ ?_
  simp (disch := omega) only [go_sem]
 have e : (checkS w != 0) = false := by simp [hc]
 simp (disch := omega) only [go_sem, e]
 refine call_pure (f17_ok w.state f1) (by simp (disch := omega) only [go_sem]) rfl ?_
 simp (disch := omega) only [go_sem]
 first | (refine call_pure (f18_two (ReduceS w.state).2 w.members (by omega)) (by simp (disch := omega) only [go_sem]) rfl ?_) | (refine freeCall_mk ⟨⟨[], [], []⟩, [], []⟩ (f18_two (ReduceS w.state).2 w.members (by omega)) (by simp (disch := omega) only [go_sem]) rfl rfl trivial (.inl rfl) ?_)
 have d : decide ((ReduceS w.state).2 = w.members) = true := decide_eq_true (check_dead hc).2
 simp (disch := omega) only [go_sem, d]
 first | (refine call_pure (f15_ok w s f1 f2 (by omega)) (by simp (disch := omega) only [go_sem]) rfl ?_) | (refine freeCall_mk ⟨⟨[], [], []⟩, [], []⟩ (f15_ok w s f1 f2 (by omega)) (by simp (disch := omega) only [go_sem]) rfl rfl trivial (.inl rfl) ?_)
 cases ha : agreesS w s
 ·simp (disch := omega) only [go_sem]
  refine call_pure f7_ok (by simp (disch := omega) only [go_sem]) rfl ?_
  simp (disch := omega) only [go_sem]
  refine ret1 _ ?_
  simp (disch := omega) only [go_sem]
 simp (disch := omega) only [go_sem]
 refine call_pure (f17_ok s f2) (by simp (disch := omega) only [go_sem]) rfl ?_
 simp (disch := omega) only [go_sem]
 have hlen : (ReduceS s).2.length ≤ 1000000 := reduce_len f2
 refine loop_intro (α := Nat) (fun i => ⟨[(9, I i), (8, procsV (ReduceS s).2), (2, .ptr 128 0)], [(128, w.c)]⟩) (fun i => i ≤ (w.members).length ∧ True) (fun i => (w.members).length - i) 0 ⟨by omega, trivial⟩ ?_ ?_
 ·refine Imp.weak ?_ ?_
  all_goals (try simp (disch := omega) only [go_sem])
  all_goals (try (repeat' (with_reducible apply And.intro)))
  all_goals (first | exact .nilOwn (by omega) | exact .nilNo (by omega) | exact .sl (by simp []) | exact .int (by simp []) | exact .eq (by simp []))
 rintro i ⟨hi, hP⟩ J hJ
 simp (disch := omega) only [go_sem]
 refine And.intro (fun hlt => ?_) (fun hge => ?_)
 rotate_left
 have hil : i = (w.members).length := by simp at hge; omega
 rotate_left
 obtain ⟨b, hb⟩ : ∃ b, (w.members)[i]? = some b := ⟨_, List.getElem?_eq_getElem (by simp at hlt; omega)⟩
 have hbm := List.mem_of_getElem? hb
 have hlt2 : i < (w.members).length := by simp at hlt; omega
 simp (disch := omega) only [go_sem, List.getElem?_map, hb]
 ·first | (refine call_pure (f19_ok (ReduceS s).2 b hlen) (by simp (disch := omega) only [go_sem]) rfl ?_) | (refine freeCall_mk ⟨⟨[], [], []⟩, [], []⟩ (f19_ok (ReduceS s).2 b hlen) (by simp (disch := omega) only [go_sem]) rfl rfl trivial (.inl rfl) ?_)
  have hh : hasP (ReduceS s).2 b = true := decide_eq_true (agrees_dead hc ha b hbm)
  simp (disch := omega) only [go_sem, hh]
  refine hJ _ (i + 1) ⟨by simp at hlt; omega, trivial⟩ (by simp at hlt; omega) (Imp.weak (by simp (disch := omega) only [go_sem]) (by simp (disch := omega) only [go_sem]))
 refine call_pure f7_ok (by simp (disch := omega) only [go_sem]) rfl ?_
 simp (disch := omega) only [go_sem]
 refine ret1 _ ?_
 simp (disch := omega) only [go_sem]
end Go.Rd
namespace Go.Abs
open Go Go.ChangeShapes Go.WideShapes Go.RowKit

def CodN (P : Program) (N : Nat) (t : TypeId) {α : Type} (e : α → List AV) : Prop :=
 ∀ (H : Type) (enc : TypeId × Value → H) (w : World) (fuel : Nat) (cs : List Value) (x : DataW H × List MemPlace), fuel ≤ N → DataW.trod enc P w 0 (fun _ => true) true fuel t cs = some x →
  ∃ a, PRl (fun b => b < w.heap.size) w (e a) cs
def CodF (P : Program) (N b : Nat) (fs : List Field) {α : Type} (e : α → List AV) : Prop :=
 ∀ (H : Type) (enc : TypeId × Value → H) (w : World) (n : Nat) (cs : List Value) (ys : List (DataW H × List MemPlace)), n ≤ N → cs.length = b + (fs.map fun f => P.cellsOf f.type).sum → ys.length = fs.length →
  (∀ (i : Nat) (f : Field), fs[i]? = some f → DataW.trod enc P w 0 (fun _ => true) true n f.type ((cs.drop f.offset).take (P.cellsOf f.type)) = ys[i]?) →
  ∃ a, PRl (fun b => b < w.heap.size) w (e a) (cs.drop b)

variable {P : Program} {t : TypeId}

theorem CodN.mono {N M : Nat} {α : Type} {e : α → List AV} (h : CodN P N t e) (hm : M ≤ N) : CodN P M t e := fun H enc w fuel cs x hf hx => h H enc w fuel cs x (Nat.le_trans hf hm) hx
theorem Cod.toN {α : Type} {e : α → List AV} {m : α → Nat} {Q : α → Prop} (h : Cod P t e m Q) (N : Nat) : CodN P N t e := fun H enc w fuel cs x _ hx => by
 obtain ⟨a, _, _, h3⟩ := h H enc w fuel cs x hx
 exact ⟨a, h3⟩
theorem CodN.map {N : Nat} {α β : Type} {e : α → List AV} {e' : β → List AV} (h : CodN P N t e) (hf : ∀ a, ∃ b, e' b = e a) : CodN P N t e' := fun H enc w fuel cs x hn hx => by
 obtain ⟨a, q⟩ := h H enc w fuel cs x hn hx
 obtain ⟨b, hb⟩ := hf a
 exact ⟨b, hb ▸ q⟩
theorem codn_zero {α : Type} {e : α → List AV} : CodN P 0 t e := fun H enc w fuel cs x hn hx => by
 obtain rfl : fuel = 0 := by omega
 simp [DataW.trod] at hx

theorem codn_slice {N : Nat} {el : TypeId} {α : Type} {e : α → List AV} {n : Nat} (he : CodN P N el e) (ht : P.underlying t = some (.slice el)) (hc : P.cellsOf el = n) (hn : 0 < n) :
  CodN P (N + 1) t (fun xs : List α => [.sl .no n (xs.map e)]) := by
 intro H enc w fuel cs x hf h
 rcases DataW.trod_slice ht h with ⟨rfl, rfl⟩ | ⟨a, len, cap, elems, rest, k, rfl, rfl, rfl, _, hl, hm, hlen, hel, _, _⟩
 ·refine ⟨[], ?_, trivial⟩
  simp only [List.map_nil, PR]
  exact ⟨by simp, none, 0, rfl, by simp, by simp, by simp, hn, Or.inl trivial⟩
 ·subst hlen
  obtain ⟨xs, hxl, hxs⟩ := pick (α := α) (q := fun _ _ => True) (R := fun i x y => ∃ cs, w.cells? 0 (a.add (i * n)) n = some cs ∧ PRl (fun b => b < w.heap.size) w (e x) cs) elems.length elems rfl (by
   intro i y hy
   have hi : i < elems.length := by
    rcases Nat.lt_or_ge i elems.length with h | h
    ·exact h
    ·rw [List.getElem?_eq_none h] at hy; cases hy
   have := hel i hi
   rw [hy, hc, Option.bind_eq_some_iff] at this
   obtain ⟨cs, h1, h2⟩ := this
   obtain ⟨x, q3⟩ := he H enc w k cs y (by omega) h2
   exact ⟨x, cs, h1, q3⟩)
  have hget : ∀ i x, xs[i]? = some x → ∃ y, elems[i]? = some y := fun i x hx => by
   have : i < elems.length := by
    rcases Nat.lt_or_ge i xs.length with h | h
    ·omega
    ·rw [List.getElem?_eq_none h] at hx; cases hx
   exact ⟨_, List.getElem?_eq_getElem this⟩
  refine ⟨xs, ?_, trivial⟩
  simp only [PR]
  refine ⟨by simp, some a, cap, by simp [hxl], by simp [hxl, hl], hm, by simp, hn, ?_⟩
  cases xs with
  | nil => exact Or.inl rfl
  | cons x xs =>
   refine Or.inr ⟨a, rfl, ?_, pre_of_elems fun i x hx => ?_⟩
   ·obtain ⟨y, hy⟩ := hget 0 x rfl
    obtain ⟨cs, h1, _⟩ := hxs 0 x y rfl hy
    obtain ⟨_, hl, hcell⟩ := World.cells?_some h1
    have h0 := hcell 0 hn
    cases cs with
    | nil => simp at hl; omega
    | cons c cs => exact (show (a.add (0 * n + 0)).block = a.block by simp [Addr.add]) ▸ lt_of_cell (by rw [addr_add] at h0; simpa using h0)
   ·obtain ⟨y, hy⟩ := hget i x hx
    obtain ⟨cs, h1, h2⟩ := hxs i x y hx hy
    exact ⟨cs, by simpa using h1, h2⟩

theorem codf_nil {N b : Nat} : CodF P N b [] (fun _ : Unit => []) := by
 intro H enc w n cs ys _ hl _ _
 have : cs.drop b = [] := List.drop_eq_nil_of_le (by simpa using Nat.le_of_eq hl)
 rw [this]
 exact ⟨(), trivial⟩
theorem codf_cons {N b : Nat} {f : Field} {fs : List Field} {α β : Type} {e : α → List AV} {e' : β → List AV} (h : CodN P N f.type e) (hb : f.offset = b) (hs : CodF P N (b + P.cellsOf f.type) fs e') :
  CodF P N b (f :: fs) (fun x : α × β => e x.1 ++ e' x.2) := by
 intro H enc w n cs ys hn hl hy hfs
 cases ys with
 | nil => simp at hy
 | cons y ys =>
  have h0 := hfs 0 f rfl
  rw [hb] at h0
  obtain ⟨a, ha⟩ := h H enc w n _ y hn h0
  obtain ⟨c, hc⟩ := hs H enc w n cs ys hn (by simp only [List.map_cons, List.sum_cons] at hl; omega) (by simpa using hy) fun i g hg => by simpa using hfs (i + 1) g (by simpa using hg)
  refine ⟨(a, c), ?_⟩
  have := PRl.append ha hc
  have e : (cs.drop b).take (P.cellsOf f.type) ++ cs.drop (b + P.cellsOf f.type) = cs.drop b := by
   rw [← List.drop_drop, List.take_append_drop]
  rw [e] at this
  exact this
theorem codn_struct {N : Nat} {fs : Array Field} {α : Type} {e : α → List AV} (ht : P.underlying t = some (.struct fs)) (hc : P.cellsOf t = (fs.toList.map fun f => P.cellsOf f.type).sum) (h : CodF P N 0 fs.toList e) : CodN P (N + 1) t e := by
 intro H enc w fuel cs x hf hx
 obtain ⟨xs, n, rfl, rfl, hl, hlen, hfs⟩ := DataW.trod_struct ht hx
 obtain ⟨a, ha⟩ := h H enc w n cs xs (by omega) (by rw [hl, hc]; simp) (by simpa using hlen) fun i f hfi => hfs i f (by simpa using hfi)
 exact ⟨a, by simpa using ha⟩

def flds (P : Program) (t : TypeId) : Option (List (TypeId × Nat)) := match P.underlying t with
 | some (.struct fs) => some (fs.toList.map fun f => (f.type, f.offset))
 | _ => none
def CodG (P : Program) (N b : Nat) (l : List (TypeId × Nat)) {α : Type} (e : α → List AV) : Prop := ∀ fs : List Field, (fs.map fun f => (f.type, f.offset)) = l → CodF P N b fs e
theorem codg_nil {N b : Nat} : CodG P N b [] (fun _ : Unit => []) := fun fs h => by
 obtain rfl : fs = [] := by simpa using h
 exact codf_nil
theorem codg_cons {N b sz : Nat} {ty : TypeId} {l : List (TypeId × Nat)} {α β : Type} {e : α → List AV} {e' : β → List AV} (h : CodN P N ty e) (hz : P.cellsOf ty = sz) (hs : CodG P N (b + sz) l e') :
  CodG P N b ((ty, b) :: l) (fun x : α × β => e x.1 ++ e' x.2) := fun fs hfs => by
 cases fs with
 | nil => simp at hfs
 | cons f fs =>
  simp only [List.map_cons, List.cons.injEq, Prod.mk.injEq] at hfs
  obtain ⟨⟨h1, h2⟩, h3⟩ := hfs
  subst h1
  exact codf_cons h h2 (by rw [hz]; exact hs fs h3)
theorem codn_g {N : Nat} {l : List (TypeId × Nat)} {α : Type} {e : α → List AV} (ht : flds P t = some l) (hc : P.cellsOf t = (l.map fun x => P.cellsOf x.1).sum) (h : CodG P N 0 l e) : CodN P (N + 1) t e := by
 unfold flds at ht
 split at ht
 ·rename_i fs hu
  simp only [Option.some.injEq] at ht
  refine codn_struct hu ?_ (h fs.toList ht)
  rw [hc, ← ht, List.map_map]
  rfl
 ·cases ht
theorem arg_g {l : List (TypeId × Nat)} {α : Type} {e : α → List AV} (he : ∀ N, CodN P N t e) (ht : flds P t = some l) : Arg P t (fun a : α => .agg (e a)) (fun _ => 0) (fun _ => True) := by
 intro H enc w base v d ps hv hd
 unfold flds at ht
 split at ht
 ·rename_i fs hu
  obtain ⟨us, rfl, _⟩ := okWide_struct hu hv
  obtain ⟨fuel, hf⟩ := hd
  obtain ⟨a, hp⟩ := he fuel H enc w fuel _ _ (Nat.le_refl _) hf
  refine ⟨a, trivial, Nat.zero_le _, us, rfl, ?_⟩
  have hp' : PRl (isRo (gh0 w)) w (e a) us.toList := by
   rw [isRo_gh0]
   exact hp
  exact hp'.VRs
 ·cases ht

theorem chunks {α : Type} (m : Nat) : ∀ (rows : List (List α)) (cs : List α), cs.length = rows.length * m → (∀ i r, rows[i]? = some r → (cs.drop (i * m)).take m = r) → cs = rows.flatten
 | [], cs, hl, _ => List.eq_nil_of_length_eq_zero (by simpa using hl)
 | r :: rows, cs, hl, h => by
  have h0 := h 0 r rfl
  have := chunks m rows (cs.drop m) (by simp only [List.length_cons, Nat.add_mul] at hl; rw [List.length_drop, hl]; omega) fun i r' hr => by
   have := h (i + 1) r' (by simpa using hr)
   rw [List.drop_drop]
   rwa [show m + i * m = (i + 1) * m by rw [Nat.add_mul]; omega]
  simp only [Nat.zero_mul, List.drop_zero] at h0
  rw [List.flatten_cons, ← this, ← h0, List.take_append_drop]
theorem arr_read {H : Type} {enc : TypeId × Value → H} {w : World} {fuel n : Nat} {sp : Nat → Bool} {held : Bool} {base : Nat} {e : TypeId} {cs : List Value} {ds : List (DataW H)} {p : List MemPlace} {f : List (List Value)}
  (ht : P.underlying t = some (.array n e)) (hct : P.cellsOf t = n * P.cellsOf e) (h : DataW.trod enc P w base sp held fuel t cs = some (.agg ds, p)) (hl : ds.length = f.length)
  (hf : ∀ (i : Nat) (d : DataW H) (c : List Value), ds[i]? = some d → f[i]? = some c → ∀ fuel cs' p', DataW.trod enc P w base sp held fuel e cs' = some (d, p') → cs' = c) : cs = f.flatten := by
 obtain ⟨xs, m, _, hx, hcl, hxl, hel⟩ := DataW.trod_array ht h
 have hx1 : ds = xs.map (·.1) := by
  have := congrArg Prod.fst hx
  simpa using this
 have hn : f.length = n := by rw [← hl, hx1]; simpa using hxl
 refine chunks _ f cs (by rw [hcl, hct, hn]) fun i c hc => ?_
 have hi : i < f.length := by
  rcases Nat.lt_or_ge i f.length with h | h
  ·exact h
  ·rw [List.getElem?_eq_none h] at hc; cases hc
 have hxi : xs[i]? = some xs[i] := List.getElem?_eq_getElem (by omega)
 have h1 := hel i (by omega)
 rw [hxi] at h1
 refine hf i xs[i].1 c ?_ hc m _ xs[i].2 h1
 rw [hx1, List.getElem?_map, hxi]
 rfl
theorem bool_cells {H : Type} {enc : TypeId × Value → H} {w : World} {fuel : Nat} {sp : Nat → Bool} {held : Bool} {base : Nat} {cs : List Value} {b : Bool} {p : List MemPlace} (ht : P.underlying t = some .bool)
  (h : DataW.trod enc P w base sp held fuel t cs = some (.lit (.bool b), p)) : cs = [.bool b] := by
 obtain ⟨n, rfl, h2⟩ := DataW.trod_bool ht h
 simp at h2
 rw [h2.1]
def rowD {H : Type} (r : List Bool) : DataW H := .agg (r.map fun b => .lit (.bool b))
def tabD {H : Type} (rows : List (List Bool)) : DataW H := .agg (rows.map rowD)
theorem tab_cells {H : Type} {enc : TypeId × Value → H} {w : World} {fuel n m : Nat} {sp : Nat → Bool} {held : Bool} {base : Nat} {e b : TypeId} {cs : List Value} {rows : List (List Bool)} {p : List MemPlace}
  (ht : P.underlying t = some (.array n e)) (he : P.underlying e = some (.array m b)) (hb : P.underlying b = some .bool) (h1 : P.cellsOf b = 1) (h2 : P.cellsOf e = m) (h3 : P.cellsOf t = n * m)
  (h : DataW.trod enc P w base sp held fuel t cs = some (tabD rows, p)) : cs = rows.flatten.map Value.bool := by
 have key : ∀ r : List Bool, ∀ fuel cs' p', DataW.trod enc P w base sp held fuel e cs' = some (rowD r, p') → cs' = r.map Value.bool := fun r fuel cs' p' h' => by
  have := arr_read (f := r.map fun b => [Value.bool b]) he (by rw [h1, h2, Nat.mul_one]) h' (by simp) fun i d c hd hc fuel cs' p' hx => by
   rw [List.getElem?_map] at hd hc
   cases hr : r[i]? with
   | none => rw [hr] at hd; cases hd
   | some v =>
    rw [hr] at hd hc
    simp at hd hc
    subst hd; subst hc
    exact bool_cells hb hx
  rw [this]
  clear h'  this
  induction r with
  | nil => rfl
  | cons x r ih => simp only [List.map_cons, List.flatten_cons, List.singleton_append, ih]
 have := arr_read (f := rows.map fun r => r.map Value.bool) ht (by rw [h2, h3]) h (by simp) fun i d c hd hc fuel cs' p' hx => by
  rw [List.getElem?_map] at hd hc
  cases hr : rows[i]? with
  | none => rw [hr] at hd; cases hd
  | some v =>
   rw [hr] at hd hc
   simp at hd hc
   subst hd; subst hc
   exact key v _ _ _ hx
 rw [this, List.map_flatten]
theorem glob_tab {C : Ctx} {name : String} {g n m : Nat} {e b : TypeId} {rows : List (List Bool)} {rest : List (String × DataW Unit)} {W : World} (hC : ∀ i cs, C.G i = some cs → i = g ∧ cs = (rows.flatten.map fun b => AV.v (.bool b))) (hpos : 0 < rows.flatten.length)
  (hg : C.P.globalNamed name = some g) (hty : (C.P.globals[g]?).map (·.type) = some t)
  (ht : C.P.underlying t = some (.array n e)) (he : C.P.underlying e = some (.array m b)) (hb : C.P.underlying b = some .bool) (h1 : C.P.cellsOf b = 1) (h2 : C.P.cellsOf e = m) (h3 : C.P.cellsOf t = n * m)
  (h : laidMet C.P ((name, tabD rows) :: rest) W) : Glob C (gh0 W) W := by
 obtain ⟨ps, ⟨g', t', cs, fuel, p, q, hg', ht', hvar, hd, _, _⟩, _⟩ := h
 obtain rfl := Option.some.inj (hg.symm.trans hg')
 obtain rfl := Option.some.inj (hty.symm.trans ht')
 have hcs := tab_cells ht he hb h1 h2 h3 hd
 have hcell := World.var?_cell hg hvar
 intro i xs hi
 obtain ⟨rfl, rfl⟩ := hC i xs hi
 have hlen : cs.toList.length = rows.flatten.length := by rw [hcs, List.length_map]
 have hsz : cs.size = rows.flatten.length := by rw [← hlen, Array.length_toList]
 refine ⟨by rw [List.length_map]; exact hpos, ?_, prc_of_l (us := cs.toList) ?_ ?_⟩
 ·have h0 := hcell 0
  have : ∃ v, cs[0]? = some v := ⟨cs[0]'(by omega), Array.getElem?_eq_getElem _⟩
  obtain ⟨v, hv⟩ := this
  rw [hv] at h0
  rw [isRo_gh0]
  exact lt_of_cell h0
 ·rw [hcs]
  generalize rows.flatten = l
  induction l with
  | nil => simp [PRl]
  | cons x l ih => exact ⟨⟨rfl, rfl⟩, ih⟩
 ·intro k hk
  have := hcell k
  rw [Array.getElem?_toList, Nat.zero_add]
  rw [← this, add_lit, Nat.zero_add]

theorem law_true_G {C : Ctx} {f : Nat} {fn : Func} {s : ChangeSpec} (hs : s.vars = []) {apart fresh handsOn again : Bool} {α : Type} {e : α → List AV} {m : α → Nat} {Q : α → Prop} {tb : TypeId} {ts : List TypeId}
  (hp : fn.params.toList = ts) (ha : Args C.P ts e m Q) (hl : laidOutB C.P = true) (hr : (ts.all fun t => C.P.readableRec t && decide (t < C.P.types.size)) = true) (hres : fn.resultTypes = #[tb]) (htb : C.P.underlying tb = some .bool)
  {H : Type} (enc : TypeId × Value → H) (W : World) (hG : Glob C (gh0 W) W) (base : Nat) (args : Array Value) (ds gs : List (DataW H)) (before : List MemPlace)
  (hval : ∀ (j : Nat) t v, fn.params[j]? = some t → args[j]? = some v → Value.okWide C.P W .any base t v)
  (hW : DataW.Whole enc C.P fn.params.toList s.vars apart W args.toList ds gs before)
  (hfn : ∀ ds : List (DataW H), ds.length = ts.length → (s.fn H ds).results = [.lit (.bool true)] ∧ (s.fn H ds).args = ds ∧ (s.fn H ds).vars = [])
  (hok : ∀ a, Q a → m a ≤ wgtL ds → FnOK C f (e a) [] (.v (.bool true)) []) :
  Calls C.P f args W fun r W' => ∃ v, r = .returned v ∧ s.post enc C.P fn apart fresh handsOn again W args v W' := by
 replace hr : ∀ t ∈ ts, C.P.readableRec t = true ∧ t < C.P.types.size := by simpa using hr
 have hW' := hW
 obtain ⟨p, q, hA, hV, rfl, hfz, hnd⟩ := hW
 rw [hs] at hV
 obtain ⟨rfl, rfl⟩ := trodVars_none hV
 rw [hp] at hA
 obtain ⟨a, q1, q2, q3⟩ := ha H enc W base args.toList ds p (fun j t v hj hv => hval j t v (by rw [← Array.getElem?_toList, hp]; exact hj) (by simpa using hv)) hA
 have hlen : ∀ {ts : List TypeId} {vs : List Value} {ds : List (DataW H)} {ps : List MemPlace}, DataW.TrodAll enc C.P W 0 (fun _ => true) true ts vs ds ps → ds.length = ts.length := by
  intro ts
  induction ts with
  | nil => intro vs ds ps h; obtain ⟨_, rfl, _⟩ := trodAll_nil h; rfl
  | cons t ts ih =>
   intro vs ds ps h
   obtain ⟨v, vs, d, ds, p, q, rfl, rfl, rfl, h1, h2⟩ := trodAll_cons h
   simp [ih h2]
 obtain ⟨hf1, hf2, hf3⟩ := hfn ds (hlen hA)
 have key := (hok a q1 q2).2 (gh0 W) W args.toList hG q3 (fun s cs h => by cases h)
 rw [show args.toList.toArray = args by simp] at key
 refine key.mono fun r W' ⟨u, g', hr1, hF, hy, _⟩ => ?_
 subst hr1
 simp only [VR] at hy
 subst hy
 have hb : Below W.heap.size W W' := ⟨hF.os, hF.tape.1, hF.output, hF.size, fun k hk => (hF.keep k hk (Or.inl (by show (gh0 W).own k = .ro; simp [gh0, hk]))).1⟩
 have hlt : ∀ x ∈ p ++ ([] : List MemPlace), x.block < W.heap.size := fun x hx => hW'.lt x hx
 refine ⟨_, rfl, below_post (pa := p) (pv := []) hW' (fun b sp hd => ?_) (fun sp hsp => ?_) (fun _ _ => ?_) rfl hb (ok_one hres rfl (okWide_bool_mk htb _))⟩
 ·simp only [List.append_nil, hf1]
  rw [hres]
  exact trodAll_mk1 (shut_bool htb _)
 ·simp only [List.append_nil, hf2]
  rw [hp]
  exact trodAll_stays hl hr hA (fun x hx => hb.same (hlt x (by simpa using hx))) (fun x hx => hsp x (by simpa using hx))
 ·simp only [List.append_nil, hf3]
  rw [hs]
  rfl
end Go.Abs
open Go Go.Abs Go.Proofs
set_option maxRecDepth 100000
namespace Go.Rd
theorem s3 : Tryz.prog.cellsOf 3 = 1 := by kernel_rfl
theorem s9 : Tryz.prog.cellsOf 9 = 1 := by kernel_rfl
theorem s22 : Tryz.prog.cellsOf 22 = 1 := by kernel_rfl
theorem s23 : Tryz.prog.cellsOf 23 = 1 := by kernel_rfl
theorem s58 : Tryz.prog.cellsOf 58 = 1 := by kernel_rfl
theorem s48 : Tryz.prog.cellsOf 48 = 1 := by kernel_rfl
theorem s49 : Tryz.prog.cellsOf 49 = 1 := by kernel_rfl
theorem s45 : Tryz.prog.cellsOf 45 = 3 := by kernel_rfl
theorem s55 : Tryz.prog.cellsOf 55 = 2 := by kernel_rfl
theorem s57 : Tryz.prog.cellsOf 57 = 3 := by kernel_rfl
theorem s60 : Tryz.prog.cellsOf 60 = 5 := by kernel_rfl
theorem s47 : Tryz.prog.cellsOf 47 = 4 := by kernel_rfl
theorem s51 : Tryz.prog.cellsOf 51 = 8 := by kernel_rfl
theorem s62 : Tryz.prog.cellsOf 62 = 9 := by kernel_rfl
theorem s91 : Tryz.prog.cellsOf 91 = 5 := by kernel_rfl
theorem s93 : Tryz.prog.cellsOf 93 = 7 := by kernel_rfl
theorem s25 : Tryz.prog.cellsOf 25 = 2 := by kernel_rfl
theorem c3 (N : Nat) : CodN Tryz.prog N 3 (fun n : Int => [I n]) := (cod_int (k := .i64) (by kernel_rfl)).toN N
theorem c9 (N : Nat) : CodN Tryz.prog N 9 (fun s : Bs => [.v (.string (str s))]) := ((cod_string (by kernel_rfl)).toN N).map fun s => ⟨s.toList, by
 have : str s.toList = s := by
  have h : s = str s.data.toList := rfl
  rw [h, str_toList]
 rw [this]⟩
theorem c45 (N : Nat) : CodN Tryz.prog N 45 Proc.c := (CodN.mono (codn_g (l := [(3, 0), (3, 1), (3, 2)]) (by kernel_rfl) (by simp only [List.map_cons, List.map_nil, List.sum_cons, List.sum_nil, s45, s3]; rfl) (codg_cons (c3 N) s3 (codg_cons (c3 N) s3 (codg_cons (c3 N) s3 codg_nil)))) (Nat.le_succ N)).map fun (a, b, c, _) => ⟨⟨a, b, c⟩, rfl⟩
theorem c55 (N : Nat) : CodN Tryz.prog N 55 Amt.c := (CodN.mono (codn_g (l := [(3, 0), (3, 1)]) (by kernel_rfl) (by simp only [List.map_cons, List.map_nil, List.sum_cons, List.sum_nil, s55, s3]; rfl) (codg_cons (c3 N) s3 (codg_cons (c3 N) s3 codg_nil))) (Nat.le_succ N)).map fun (a, b, _) => ⟨⟨a, b⟩, rfl⟩
theorem c91 (N : Nat) : CodN Tryz.prog N 91 Hold.c := (CodN.mono (codn_g (l := [(45, 0), (55, 3)]) (by kernel_rfl) (by simp only [List.map_cons, List.map_nil, List.sum_cons, List.sum_nil, s91, s45, s55]; rfl) (codg_cons (c45 N) s45 (codg_cons (c55 N) s55 codg_nil))) (Nat.le_succ N)).map fun (a, b, _) => ⟨⟨a, b⟩, rfl⟩
theorem c93 (N : Nat) : CodN Tryz.prog N 93 Wait.c := (CodN.mono (codn_g (l := [(45, 0), (55, 3), (3, 5), (3, 6)]) (by kernel_rfl) (by simp only [List.map_cons, List.map_nil, List.sum_cons, List.sum_nil, s93, s45, s55, s3]; rfl) (codg_cons (c45 N) s45 (codg_cons (c55 N) s55 (codg_cons (c3 N) s3 (codg_cons (c3 N) s3 codg_nil))))) (Nat.le_succ N)).map fun (a, b, c, d, _) => ⟨⟨a, b, c, d⟩, rfl⟩
theorem c47 (N : Nat) : CodN Tryz.prog N 47 Res.c := (CodN.mono (codn_g (l := [(9, 0), (3, 1), (3, 2), (3, 3)]) (by kernel_rfl) (by simp only [List.map_cons, List.map_nil, List.sum_cons, List.sum_nil, s47, s9, s3]; rfl) (codg_cons (c9 N) s9 (codg_cons (c3 N) s3 (codg_cons (c3 N) s3 (codg_cons (c3 N) s3 codg_nil))))) (Nat.le_succ N)).map fun (a, b, c, d, _) => ⟨⟨a, b, c, d⟩, rfl⟩
theorem c48 (N : Nat) : CodN Tryz.prog N 48 (fun l : List Hold => [holdsV l]) := CodN.mono (codn_slice (c91 N) (by kernel_rfl) s91 (by omega)) (Nat.le_succ N)
theorem c49 (N : Nat) : CodN Tryz.prog N 49 (fun l : List Wait => [waitsV l]) := CodN.mono (codn_slice (c93 N) (by kernel_rfl) s93 (by omega)) (Nat.le_succ N)
theorem c51 (N : Nat) : CodN Tryz.prog N 51 Queue.c := (CodN.mono (codn_g (l := [(47, 0), (48, 4), (49, 5), (49, 6), (3, 7)]) (by kernel_rfl) (by simp only [List.map_cons, List.map_nil, List.sum_cons, List.sum_nil, s51, s47, s48, s49, s3]; rfl) (codg_cons (c47 N) s47 (codg_cons (c48 N) s48 (codg_cons (c49 N) s49 (codg_cons (c49 N) s49 (codg_cons (c3 N) s3 codg_nil)))))) (Nat.le_succ N)).map fun (a, b, c, d, e, _) => ⟨⟨a, b, c, d, e⟩, rfl⟩
theorem c57 (N : Nat) : CodN Tryz.prog N 57 Atom.c := (CodN.mono (codn_g (l := [(9, 0), (55, 1)]) (by kernel_rfl) (by simp only [List.map_cons, List.map_nil, List.sum_cons, List.sum_nil, s57, s9, s55]; rfl) (codg_cons (c9 N) s9 (codg_cons (c55 N) s55 codg_nil))) (Nat.le_succ N)).map fun (a, b, _) => ⟨⟨a, b⟩, rfl⟩
theorem c60 : ∀ N : Nat, CodN Tryz.prog N 60 Expr.c
 | 0 => codn_zero
 | N + 1 => (codn_g (l := [(3, 0), (57, 1), (58, 4)]) (by kernel_rfl) (by simp only [List.map_cons, List.map_nil, List.sum_cons, List.sum_nil, s60, s3, s57, s58]; rfl) (codg_cons (c3 N) s3 (codg_cons (c57 N) s57 (codg_cons (CodN.mono (codn_slice (c60 N) (by kernel_rfl) s60 (by omega)) (Nat.le_succ N)) s58 codg_nil)))).map fun (a, b, c, _) => ⟨.mk a b c, by rw [Expr.c_def]; rfl⟩
theorem c62 (N : Nat) : CodN Tryz.prog N 62 Need.c := (CodN.mono (codn_g (l := [(45, 0), (60, 3), (3, 8)]) (by kernel_rfl) (by simp only [List.map_cons, List.map_nil, List.sum_cons, List.sum_nil, s62, s45, s60, s3]; rfl) (codg_cons (c45 N) s45 (codg_cons (c60 N) s60 (codg_cons (c3 N) s3 codg_nil)))) (Nat.le_succ N)).map fun (a, b, c, _) => ⟨⟨a, b, c⟩, by simp only [Need.c, Expr.c_def]; rfl⟩
theorem c22 (N : Nat) : CodN Tryz.prog N 22 (fun l : List Queue => [queuesV l]) := CodN.mono (codn_slice (c51 N) (by kernel_rfl) s51 (by omega)) (Nat.le_succ N)
theorem c23 (N : Nat) : CodN Tryz.prog N 23 (fun l : List Need => [needsV l]) := CodN.mono (codn_slice (c62 N) (by kernel_rfl) s62 (by omega)) (Nat.le_succ N)
theorem c25 (N : Nat) : CodN Tryz.prog N 25 WS.c := (CodN.mono (codn_g (l := [(22, 0), (23, 1)]) (by kernel_rfl) (by simp only [List.map_cons, List.map_nil, List.sum_cons, List.sum_nil, s25, s22, s23]; rfl) (codg_cons (c22 N) s22 (codg_cons (c23 N) s23 codg_nil))) (Nat.le_succ N)).map fun (a, b, _) => ⟨⟨a, b⟩, rfl⟩
theorem arg25 : Arg Tryz.prog 25 (fun s : WS => .agg s.c) (fun _ => 0) (fun _ => True) := arg_g (l := [(22, 0), (23, 1)]) c25 (by kernel_rfl)
def rows : List (List Bool) := [[true, true, true, true, false], [true, true, false, false, false], [true, false, true, false, false], [true, false, false, false, false], [false, false, false, false, false]]
theorem rows_flat : rows.flatten = togL := rfl
theorem globC {W : World} {rest : List (String × DataW Unit)} (h : laidMet Tryz.prog (("clusterlocks/mode.together", tabD rows) :: rest) W) : Glob C0 (gh0 W) W :=
 glob_tab (C := C0) (g := 0) (n := 5) (m := 5) (e := 217) (b := 4) (t := 218) (fun i cs hi => by
  simp only at hi
  split at hi
  ·rename_i h0
   simp only [Option.some.injEq] at hi
   exact ⟨h0, by rw [← hi, rows_flat]; rfl⟩
  ·cases hi) (by decide) (by kernel_rfl) (by kernel_rfl) (by kernel_rfl) (by kernel_rfl) (by kernel_rfl) (by kernel_rfl) (by kernel_rfl) (by kernel_rfl) h
theorem s26 : Tryz.prog.cellsOf 26 = 1 := by kernel_rfl
theorem s29 : Tryz.prog.cellsOf 29 = 1 := by kernel_rfl
theorem s25' : Tryz.prog.cellsOf 25 = 2 := by kernel_rfl
theorem s65 : Tryz.prog.cellsOf 65 = 6 := by kernel_rfl
theorem s31 : Tryz.prog.cellsOf 31 = 4 := by kernel_rfl
theorem c26 (N : Nat) : CodN Tryz.prog N 26 (fun l : List Proc => [procsV l]) := CodN.mono (codn_slice (c45 N) (by kernel_rfl) s45 (by omega)) (Nat.le_succ N)
theorem c65 (N : Nat) : CodN Tryz.prog N 65 Cause.c := (CodN.mono (codn_g (l := [(45, 0), (9, 3), (3, 4), (26, 5)]) (by kernel_rfl) (by simp only [List.map_cons, List.map_nil, List.sum_cons, List.sum_nil, s65, s45, s9, s3, s26]; rfl) (codg_cons (c45 N) s45 (codg_cons (c9 N) s9 (codg_cons (c3 N) s3 (codg_cons (c26 N) s26 codg_nil))))) (Nat.le_succ N)).map fun (a, b, c, d, _) => ⟨⟨a, b, c, d⟩, rfl⟩
theorem c29 (N : Nat) : CodN Tryz.prog N 29 (fun l : List Cause => [causesV l]) := CodN.mono (codn_slice (c65 N) (by kernel_rfl) s65 (by omega)) (Nat.le_succ N)
theorem c31 (N : Nat) : CodN Tryz.prog N 31 Wit.c := (CodN.mono (codn_g (l := [(25, 0), (26, 2), (29, 3)]) (by kernel_rfl) (by simp only [List.map_cons, List.map_nil, List.sum_cons, List.sum_nil, s31, s25', s26, s29]; rfl) (codg_cons (c25 N) s25' (codg_cons (c26 N) s26 (codg_cons (c29 N) s29 codg_nil)))) (Nat.le_succ N)).map fun (a, b, c, _) => ⟨⟨a, b, c⟩, rfl⟩
theorem arg31 : Arg Tryz.prog 31 (fun w : Wit => .agg w.c) (fun _ => 0) (fun _ => True) := arg_g (l := [(25, 0), (26, 2), (29, 3)]) c31 (by kernel_rfl)
end Go.Rd
