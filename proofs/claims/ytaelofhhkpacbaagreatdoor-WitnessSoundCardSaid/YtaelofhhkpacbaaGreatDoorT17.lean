/- part 17 of the proof -/
import Derived.Test.YtaelofhhkpacbaaGreatDoorT16
set_option linter.all false
open Go Go.Abs Go.Proofs
set_option maxRecDepth 100000
namespace Go.Rd
theorem compP_snoc : ∀ (l : List Proc) (a b : Proc), compP (l ++ [a] ++ [b]) = if a = b then compP (l ++ [a]) else compP (l ++ [a]) ++ [b]
  | [], a, b => by
    by_cases h : a = b <;> simp [compP, h]
  | [x], a, b => by
    have := compP_snoc [] a b
    simp only [List.nil_append, List.cons_append] at this ⊢
    simp only [compP] at this ⊢
    by_cases h : a = b <;> by_cases h' : x = a <;> simp [h, h'] at this ⊢ <;> (try simp [compP]) <;> simp_all
  | x :: y :: l, a, b => by
    have := compP_snoc (y :: l) a b
    simp only [List.cons_append] at this ⊢
    simp only [compP]
    by_cases h : x = y
    · simp only [h, if_true]; exact this
    · simp only [h, if_false]
      rw [this]
      by_cases h' : a = b <;> simp [h']
theorem compP_length : ∀ l : List Proc, (compP l).length ≤ l.length
  | [] => by simp [compP]
  | [a] => by simp [compP]
  | a :: b :: l => by
    have := compP_length (b :: l)
    simp only [compP]
    split
    · simp at this ⊢; omega
    · simp at this ⊢; omega
theorem take_get {l : List Proc} {i : Nat} {b : Proc} (hb : l[i]? = some b) : l.take (i + 1) = l.take i ++ [b] := by rw [List.take_add_one, hb]; rfl
/-- one more element, behind one that is there -/
theorem compP_step {l : List Proc} {i : Nat} {a b : Proc} (ha : l[i]? = some a) (hb : l[i + 1]? = some b) : compP (l.take (i + 2)) = if a = b then compP (l.take (i + 1)) else compP (l.take (i + 1)) ++ [b] := by
  rw [take_get hb, take_get ha, compP_snoc]
@[reducible] def procsO (r : Nat) (l : List Proc) : AV := .sl (.own r 0) 3 (l.map Proc.c)
theorem over_take (k : Nat) (cs es : List (List AV)) : (over 0 k cs es).take k = es.take k := by
  refine List.ext_getElem? fun i => ?_
  rw [List.getElem?_take, List.getElem?_take]
  split
  · rename_i h
    have hn : ¬ (k ≤ i) := by omega
    simp only [over, List.getElem?_mapIdx, Nat.zero_add, hn, if_false]
    cases es[i]? <;> rfl
  · rfl
theorem get_drop {α : Type} {l cur : List α} {d i : Nat} (h : cur.drop d = l.drop d) (hi : d ≤ i) : cur[i]? = l[i]? := by
  have := congrArg (fun x => x[i - d]?) h
  simp only [List.getElem?_drop] at this
  rwa [show d + (i - d) = i by omega] at this
theorem f98_ok (l : List Proc) (hl : l.length ≤ 1000000) : FnOK C0 98 [procsO 0 l] [] (procsO 1 (compP l)) [] := by
  refine FnOK.intro (fn := Tryz.f98) (c := Tryz.f98.body.getD .skip) (by kernel_rfl) (by kernel_rfl) (by kernel_rfl) (by kernel_rfl) (by simp [Tryz.f98]) (by simp [names]) ?_
  unfold Tryz.f98
  by_cases h2 : l.length < 2
  · have e1 : ((l.length : Int) < 2) = True := eq_true (by omega)
    have e : compP l = l := by
      match l, h2 with
      | [], _ => rfl
      | [a], _ => rfl
      | a :: b :: l, h => simp at h; omega
    simp (disch := omega) only [go_sem, e1]
    refine ret_mk ⟨[(0, 1)], [], []⟩ _ rfl ⟨rfl, rfl⟩ (by simp [lk]) ?_ trivial
    simp (disch := omega) only [go_sem, e]
  have e1 : ((l.length : Int) < 2) = False := eq_false (by omega)
  simp (disch := omega) only [go_sem, e1, decide_false]
  refine loop_intro (α := Nat) (fun i => ⟨[(3, I (i + 1 : Nat)), (0, procsO 0 l)], []⟩) (fun i => i + 1 ≤ l.length ∧ compP (l.take (i + 1)) = l.take (i + 1)) (fun i => l.length - i) 0 ⟨by omega, by
    match l, h2 with
    | a :: b :: l, _ => rfl
    | [a], h => exact absurd (by simp) h
    | [], h => exact absurd (by simp) h⟩ ?_ ?_
  · exact Imp.weak (by simp (disch := omega) only [go_sem]) (by simp (disch := omega) only [go_sem])
  rintro i ⟨hi, hc⟩ J hJ
  by_cases hlt : i + 1 < l.length
  · have z1 : (((i + 1 : Nat) : Int) < l.length) = True := eq_true (by omega)
    obtain ⟨a, ha⟩ : ∃ a, l[i]? = some a := ⟨_, List.getElem?_eq_getElem (by omega)⟩
    obtain ⟨b, hb⟩ : ∃ b, l[i + 1]? = some b := ⟨_, List.getElem?_eq_getElem (by omega)⟩
    have z2 : ((i : Int) + 1 < l.length) = True := eq_true (by omega)
    have z3 : ((i : Int) + 1 - 1) = (i : Int) := by omega
    have z4 : ((i : Int) + 1) = ((i + 1 : Nat) : Int) := rfl
    simp (disch := omega) only [go_sem, z1, z2]
    refine draw_mk 9 [([], [0]), ([], [3]), ([0, 1], [16, 17]), ([0, 1, 2], [18]), ([], [0]), ([], [3]), ([5], [21]), ([4, 5, 6], [20, 22]), ([4, 5, 6, 7], [23]), ([0, 1, 2, 3, 4, 5, 6, 7, 8], [])] fol (by kernel_rfl) ?_
    simp (disch := omega) only [go_sem, z3, List.getElem?_map, ha, hb]
    refine And.intro (fun h => ?_) (fun h => ?_)
    rotate_left
    · have hne : a ≠ b := fun e => by simp [e] at h
      refine hJ _ (i + 1) ⟨by omega, ?_⟩ (by omega) (Imp.weak (by simp (disch := omega) only [go_sem]) (by simp (disch := omega) only [go_sem]))
      rw [compP_step ha hb, if_neg hne, hc, ← take_get hb]
    have hab : a = b := by simp at h; exact h.symm
    have hcc : compP (l.take (i + 1 + 1)) = l.take (i + 1) := by rw [compP_step ha hb, if_pos hab, hc]
    clear hJ h hb z1 z2 z3 z4 ha hab hc
    generalize hm : i + 1 = m at hlt hcc
    refine loop_intro (α := List Proc × Nat × Nat) (fun x => ⟨[(5, I x.2.2), (3, I x.2.1), (4, .sl (.own 0 m) 3 ((x.1.drop m).map Proc.c)), (0, procsO 0 x.1)], []⟩)
      (fun x => x.1.length = l.length ∧ 1 ≤ x.2.2 ∧ m + x.2.2 ≤ l.length ∧ m ≤ x.2.1 ∧ x.2.1 + 1 ≤ m + x.2.2 ∧ x.1.take x.2.1 = compP (l.take (m + x.2.2)) ∧ x.1.drop (m + x.2.2 - 1) = l.drop (m + x.2.2 - 1)) (fun x => l.length - m - x.2.2) (l, m, 1) ⟨rfl, by simp, by simp; omega, by simp, by simp, by simp [hcc], rfl⟩ ?_ ?_
    · refine Imp.weak ?_ (by simp (disch := omega) only [go_sem])
      simp (disch := omega) only [go_sem, hm]
      refine ⟨.int (by omega), .sl ?_⟩
      rw [List.map_drop]; exact List.take_of_length_le (by simp)
    rintro ⟨cur, k, j⟩ ⟨i1, i2, i3, i4, i5, i6, i7⟩ J hJ
    replace i1 : cur.length = l.length := i1
    replace i2 : 1 ≤ j := i2
    replace i3 : m + j ≤ l.length := i3
    replace i4 : m ≤ k := i4
    replace i5 : k + 1 ≤ m + j := i5
    replace i6 : cur.take k = compP (l.take (m + j)) := i6
    replace i7 : cur.drop (m + j - 1) = l.drop (m + j - 1) := i7
    obtain ⟨j, rfl⟩ : ∃ j', j = j' + 1 := ⟨j - 1, by omega⟩
    by_cases hj : m + (j + 1) < l.length
    · have y1 : ((j : Int) + 1 < ((l.length - m : Nat) : Int)) = True := eq_true (by omega)
      obtain ⟨x, hx⟩ : ∃ x, l[m + (j + 1)]? = some x := ⟨_, List.getElem?_eq_getElem hj⟩
      obtain ⟨y, hy⟩ : ∃ y, l[m + j]? = some y := ⟨_, List.getElem?_eq_getElem (by omega)⟩
      have cx : cur[m + (j + 1)]? = some x := by rw [get_drop i7 (by omega), hx]
      have cy : cur[m + j]? = some y := by rw [get_drop i7 (by omega), hy]
      have hst := compP_step hy hx
      have y3 : ((j : Int) + 1 - 1) = (j : Int) := by omega
      obtain ⟨z, hz⟩ : ∃ z, cur[k]? = some z := ⟨_, List.getElem?_eq_getElem (by omega)⟩
      have y4 : (m ≤ k) = True := eq_true i4
      simp (disch := omega) only [go_sem, List.length_drop, i1, y1]
      refine draw_mk 9 [([], [4]), ([], [5]), ([0, 1], [35, 36]), ([0, 1, 2], [37]), ([], [4]), ([], [5]), ([5], [40]), ([4, 5, 6], [39, 41]), ([4, 5, 6, 7], [42]), ([0, 1, 2, 3, 4, 5, 6, 7, 8], [])] fol (by kernel_rfl) ?_
      simp (disch := omega) only [go_sem, y3, y4, List.getElem?_map, List.getElem?_drop, cx, cy, hz, List.length_drop, i1]
      refine And.intro (fun h => ?_) (fun h => ?_)
      · have hne : y ≠ x := fun e => by simp [e] at h
        rw [if_neg hne] at hst
        refine hJ _ (cur.set k x, k + 1, j + 1 + 1) ⟨by simp [i1], by simp, by simp; omega, by simp; omega, by simp; omega, ?_, ?_⟩ (by simp; omega) (Imp.weak ?_ (by simp (disch := omega) only [go_sem]))
        · rw [show m + (j + 1 + 1) = m + j + 2 by omega, hst, show m + j + 1 = m + (j + 1) by omega, ← i6]
          rw [List.take_add_one, List.getElem?_set_self (by omega), List.take_set_of_le (by omega)]
          rfl
        · rw [show m + (j + 1 + 1) - 1 = m + (j + 1) by omega, List.drop_set_of_lt (by omega)]
          have := congrArg (List.drop 1) i7
          rw [List.drop_drop, List.drop_drop, show m + (j + 1) - 1 + 1 = m + (j + 1) by omega] at this
          exact this
        · simp (disch := omega) only [go_sem]
          have hs1 : (cur.set k x).drop m = (cur.drop m).set (k - m) x := by rw [List.drop_set, if_neg (by omega)]
          refine ⟨.sl ?_, .sl ?_⟩
          · rw [hs1, List.map_set]; rfl
          · rw [List.map_set]; rfl
      · have hne : y = x := by simp at h; exact h.symm
        rw [if_pos hne] at hst
        refine hJ _ (cur, k, j + 1 + 1) ⟨i1, by simp, by simp; omega, i4, by simp; omega, ?_, ?_⟩ (by simp; omega) (Imp.weak (by simp (disch := omega) only [go_sem]) (by simp (disch := omega) only [go_sem]))
        · rw [show m + (j + 1 + 1) = m + j + 2 by omega, hst, show m + j + 1 = m + (j + 1) by omega, ← i6]
        · rw [show m + (j + 1 + 1) - 1 = m + (j + 1) by omega]
          have := congrArg (List.drop 1) i7
          rw [List.drop_drop, List.drop_drop, show m + (j + 1) - 1 + 1 = m + (j + 1) by omega] at this
          exact this
    · have y1 : ((j : Int) + 1 < ((l.length - m : Nat) : Int)) = False := eq_false (by omega)
      have hmj : m + (j + 1) = l.length := by omega
      rw [hmj, List.take_length] at i6
      have hkl : k ≤ l.length := by omega
      have y4 : (k ≤ l.length) = True := eq_true hkl
      have y5 : (over 0 k (List.replicate (l.length - k) [.v (.int .i64 0), .v (.int .i64 0), .v (.int .i64 0)]) (cur.map Proc.c)).take k = (compP l).map Proc.c := by rw [over_take, ← List.map_take, i6]
      clear hJ
      simp (disch := omega) only [go_sem, List.length_drop, i1, y1, decide_false, y4, Nat.sub_zero, over_length, List.length_take, Nat.min_self]
      refine ret_mk ⟨[(0, 1)], [], []⟩ _ rfl ⟨rfl, rfl⟩ (by simp [lk]) ?_ trivial
      simp (disch := omega) only [go_sem, y5]
  · have hil : i + 1 = l.length := by omega
    have z1 : ((i : Int) + 1 < l.length) = False := eq_false (by omega)
    rw [hil, List.take_length] at hc
    simp (disch := omega) only [go_sem, z1, decide_false]
    refine ret_mk ⟨[(0, 1)], [], []⟩ _ rfl ⟨rfl, rfl⟩ (by simp [lk]) ?_ trivial
    simp (disch := omega) only [go_sem, hc]
theorem over_all {cs es : List (List AV)} (h : cs.length = es.length) : over 0 0 cs es = cs := by
  refine List.ext_getElem? fun i => ?_
  simp only [over, List.getElem?_mapIdx, Nat.zero_add, Nat.zero_le, if_true, Nat.sub_zero]
  by_cases hi : i < es.length
  · rw [List.getElem?_eq_getElem hi, List.getElem?_eq_getElem (by omega)]
    simp
  · rw [List.getElem?_eq_none (l := es) (by omega), List.getElem?_eq_none (l := cs) (by omega)]
    rfl
def ascP (l : List Proc) : Prop := l.Pairwise fun a b => cmpP a b < 0
theorem mem_compP (x : Proc) : ∀ l : List Proc, x ∈ compP l ↔ x ∈ l
  | [] => by simp [compP]
  | [a] => by simp [compP]
  | a :: b :: l => by
    have := mem_compP x (b :: l)
    simp only [compP]
    split
    · rename_i h
      subst h
      rw [this]; simp
    · simp only [List.mem_cons] at this ⊢
      rw [this]
theorem asc_comp : ∀ l : List Proc, (l.Pairwise fun a b => cmpP a b ≤ 0) → ascP (compP l)
  | [], _ => by simp [compP, ascP]
  | [a], _ => by simp [compP, ascP]
  | a :: b :: l, h => by
    have hp := List.pairwise_cons.1 h
    have ih := asc_comp (b :: l) hp.2
    simp only [compP]
    split
    · exact ih
    · rename_i hne
      refine List.pairwise_cons.2 ⟨fun x hx => ?_, ih⟩
      rw [mem_compP] at hx
      have h1 := hp.1 x hx
      have h2 := hp.1 b (by simp)
      have hb : cmpP b x ≤ 0 := by
        rcases List.mem_cons.1 hx with e | e
        · subst e; rw [cmpP_self]; omega
        · exact (List.pairwise_cons.1 hp.2).1 x e
      have hab : cmpP a b < 0 := by
        rcases Int.lt_or_eq_of_le h2 with h | h
        · exact h
        · exact absurd (cmpP_eq h) hne
      rcases Int.lt_or_eq_of_le hb with h | h
      · exact cmpP_trans hab h
      · rw [← cmpP_eq h]; exact hab
theorem mem_sortL (x : Proc) (l : List Proc) : x ∈ sortL l ↔ x ∈ l := by
  unfold sortL
  exact List.mem_mergeSort
theorem sortL_pair (l : List Proc) : (sortL l).Pairwise fun a b => cmpP a b ≤ 0 := by
  have := List.pairwise_mergeSort (le := fun x y => !(Go.Proofs.ltOf cmpP) y x) (fun a b c h1 h2 => by
      rw [cmpP_lt] at *
      simp only [Bool.not_eq_true', decide_eq_false_iff_not] at *
      intro h
      have e1 := cmpP_swap a b
      have e2 := cmpP_swap b c
      by_cases h3 : cmpP a b = 0
      · rw [cmpP_eq h3] at h; exact h2 h
      · exact h2 (cmpP_trans h (by omega))) (fun a b => by
      rw [cmpP_lt, cmpP_lt]
      have := cmpP_swap a b
      simp only [Bool.or_eq_true, Bool.not_eq_true', decide_eq_false_iff_not]
      omega) l
  refine List.Pairwise.imp (fun {a b} h => ?_) this
  rw [cmpP_lt] at h
  have := cmpP_swap a b
  simp only [Bool.not_eq_true', decide_eq_false_iff_not] at h
  omega
theorem asc_ext : ∀ {l m : List Proc}, ascP l → ascP m → (∀ x, x ∈ l ↔ x ∈ m) → l = m
  | [], [], _, _, _ => rfl
  | [], b :: m, _, _, h => by have := (h b).2 (by simp); cases this
  | a :: l, [], _, _, h => by have := (h a).1 (by simp); cases this
  | a :: l, b :: m, hl, hm, h => by
    have h1 := List.pairwise_cons.1 hl
    have h2 := List.pairwise_cons.1 hm
    have hab : a = b := by
      have ha := (h a).1 (by simp)
      have hb := (h b).2 (by simp)
      rcases List.mem_cons.1 ha with e | e
      · exact e
      · rcases List.mem_cons.1 hb with e' | e'
        · exact e'.symm
        · have k1 := h2.1 a e
          have k2 := h1.1 b e'
          have := cmpP_swap a b
          omega
    subst hab
    have : l = m := asc_ext h1.2 h2.2 fun x => by
      have hx := h x
      simp only [List.mem_cons] at hx
      constructor
      · intro hm'
        rcases hx.1 (.inr hm') with e | e
        · subst e; have := h1.1 x hm'; rw [cmpP_self] at this; omega
        · exact e
      · intro hm'
        rcases hx.2 (.inr hm') with e | e
        · subst e; have := h2.1 x hm'; rw [cmpP_self] at this; omega
        · exact e
    rw [this]
theorem asc_nodup {l : List Proc} (h : ascP l) : l.Nodup := by
  refine List.Pairwise.imp (fun {a b} h e => ?_) h
  subst e; rw [cmpP_self] at h; omega
def insP (p : Proc) : List Proc → List Proc
  | [] => [p]
  | x :: l => if cmpP p x < 0 then p :: x :: l else if p = x then x :: l else x :: insP p l
def insU : List Proc → List Proc
  | [] => []
  | p :: l => insP p (insU l)
theorem mem_insP (p x : Proc) : ∀ l : List Proc, x ∈ insP p l ↔ x = p ∨ x ∈ l
  | [] => by simp [insP]
  | y :: l => by
    have := mem_insP p x l
    simp only [insP]
    split
    · simp
    · split
      · rename_i h; subst h; simp
      · simp only [List.mem_cons, this]
        constructor
        · rintro (h | h | h)
          · exact .inr (.inl h)
          · exact .inl h
          · exact .inr (.inr h)
        · rintro (h | h | h)
          · exact .inr (.inl h)
          · exact .inl h
          · exact .inr (.inr h)
theorem asc_insP (p : Proc) : ∀ l : List Proc, ascP l → ascP (insP p l)
  | [], _ => by simp [insP, ascP]
  | y :: l, h => by
    have hp := List.pairwise_cons.1 h
    simp only [insP]
    split
    · rename_i hlt
      refine List.pairwise_cons.2 ⟨fun x hx => ?_, h⟩
      rcases List.mem_cons.1 hx with e | e
      · rw [e]; exact hlt
      · exact cmpP_trans hlt (hp.1 x e)
    · split
      · exact h
      · rename_i h1 h2
        refine List.pairwise_cons.2 ⟨fun x hx => ?_, asc_insP p l hp.2⟩
        rcases (mem_insP p x l).1 hx with e | e
        · subst e
          have h3 := cmpP_swap x y
          have h4 : cmpP x y ≠ 0 := fun e => h2 (cmpP_eq e)
          omega
        · exact hp.1 x e
theorem mem_insU (x : Proc) : ∀ l : List Proc, x ∈ insU l ↔ x ∈ l
  | [] => by simp [insU]
  | y :: l => by simp only [insU, mem_insP, mem_insU x l, List.mem_cons]
theorem asc_insU : ∀ l : List Proc, ascP (insU l)
  | [] => by simp [insU, ascP]
  | y :: l => asc_insP y _ (asc_insU l)
theorem compP_sort (l : List Proc) : compP (sortL l) = insU l := asc_ext (asc_comp _ (sortL_pair l)) (asc_insU l) fun x => by rw [mem_compP, mem_sortL, mem_insU]
/-- the processes of a list in ascending order, each once -/
def sortU (l : List Proc) : List Proc := insU l
theorem mem_sortU (x : Proc) (l : List Proc) : x ∈ sortU l ↔ x ∈ l := mem_insU x l
theorem asc_sortU (l : List Proc) : ascP (sortU l) := asc_insU l
theorem sortL_length (l : List Proc) : (sortL l).length = l.length := by simp [sortL]
theorem f55_ok (l : List Proc) (hl : l.length ≤ 1000000) : FnOK C0 55 [procsV l] [] (procsV (sortU l)) [] := by
  refine FnOK.intro (fn := Tryz.f55) (c := Tryz.f55.body.getD .skip) (by kernel_rfl) (by kernel_rfl) (by kernel_rfl) (by kernel_rfl) (by simp [Tryz.f55]) (by simp [names]) ?_
  unfold Tryz.f55
  have hb : l.length ≤ 4294967296 := by omega
  simp (disch := omega) only [go_sem]
  refine callR_mk (f97_row l hl) rfl ?_
  have ho : over 0 0 ((sortL l).map Proc.c) (l.map Proc.c) = (sortL l).map Proc.c := over_all (by simp [sortL_length])
  simp (disch := omega) only [go_sem, ho]
  refine callB_mk ⟨⟨[(320, 0)], [], []⟩, [(1, 576)], []⟩ (f98_ok (sortL l) (by rw [sortL_length]; exact hl)) (by simp (disch := omega) only [go_sem]) rfl trivial (.inl rfl) ?_
  simp (disch := omega) only [go_sem]
  refine ret_mk ⟨[], [], [576]⟩ _ (by (try simp (disch := omega) only [go_sem, resVs, resV]) <;> rfl) ⟨rfl, rfl⟩ (by simp) ?_ trivial
  simp (disch := omega) only [go_sem, sortU, compP_sort]
theorem f58_ok (l : List Proc) (p : Proc) (hl : l.length ≤ 1000000) : FnOK C0 58 [procsV l, .agg p.c] [] (I (match l.findIdx? (fun x => decide (x = p)) with | some i => i | none => -1)) [] := by
  refine FnOK.intro (fn := Tryz.f58) (c := Tryz.f58.body.getD .skip) (by kernel_rfl) (by kernel_rfl) (by kernel_rfl) (by kernel_rfl) (by simp [Tryz.f58]) (by simp [names]) ?_
  unfold Tryz.f58
  simp (disch := omega) only [go_sem]
  refine loop_intro (α := Nat) (fun i => ⟨[(8, I i), (7, I l.length), (0, procsV l), (3, .ptr 192 0)], [(192, p.c)]⟩) (fun i => i ≤ (l).length ∧ (l.take i).find? (fun x => decide (x = p)) = none) (fun i => (l).length - i) 0 ⟨by omega, rfl⟩ ?_ ?_
  · refine Imp.weak ?_ ?_
    all_goals (try simp (disch := omega) only [go_sem])
    all_goals (try (repeat' (with_reducible apply And.intro)))
    all_goals (first | exact .nilOwn (by omega) | exact .nilNo (by omega) | exact .sl (by simp []) | exact .int (by simp []) | exact .eq (by simp []))
  rintro i ⟨hi, hP⟩ J hJ
  simp (disch := omega) only [go_sem]
  refine And.intro (fun hlt => ?_) (fun hge => ?_)
  rotate_left
  have hil : i = (l).length := by simp at hge; omega
  rotate_left
  obtain ⟨b, hb⟩ : ∃ b, (l)[i]? = some b := ⟨_, List.getElem?_eq_getElem (by simp at hlt; omega)⟩
  have hbm := List.mem_of_getElem? hb
  have hlt2 : i < (l).length := by simp at hlt; omega
  refine draw_mk 5 [([], [3]), ([], [0]), ([], [5]), ([1, 2], [12, 13]), ([1, 2, 3], [14]), ([0, 1, 2, 3, 4], [])] fol (by kernel_rfl) ?_
  simp (disch := omega) only [go_sem, List.getElem?_map, hb]
  · refine And.intro (fun h => ?_) (fun h => ?_)
    · have e : l.findIdx? (fun x => decide (x = p)) = some i := idx_take hP b hb (by simp at h; simp [h])
      simp (disch := omega) only [go_sem, e]
      refine ret_mk ⟨[], [], []⟩ _ (by (try simp (disch := omega) only [go_sem, resVs, resV]) <;> rfl) ⟨rfl, rfl⟩ (by simp) ?_ trivial
      simp (disch := omega) only [go_sem]
    · refine hJ _ (i + 1) ⟨by simp at hlt; omega, (by rw [find_take hP hb]; simp at h; simp [Ne.symm h])⟩ (by simp at hlt; omega) (Imp.weak (by simp (disch := omega) only [go_sem]) (by simp (disch := omega) only [go_sem]))
  · subst hil
    rw [List.take_length] at hP
    have e : l.findIdx? (fun x => decide (x = p)) = none := by
      rw [List.findIdx?_eq_none_iff]
      rw [List.find?_eq_none] at hP
      intro x hx
      simpa using hP x hx
    simp (disch := omega) only [go_sem, e]
    refine ret_mk ⟨[], [], []⟩ _ (by (try simp (disch := omega) only [go_sem, resVs, resV]) <;> rfl) ⟨rfl, rfl⟩ (by simp) ?_ trivial
    simp (disch := omega) only [go_sem]
theorem f143_ok (l : List Proc) (p : Proc) (hl : l.length ≤ 1000000) : FnOK C0 143 [procsV l, .agg p.c] [] (B (hasP l p)) [] := by
  refine FnOK.intro (fn := Tryz.f143) (c := Tryz.f143.body.getD .skip) (by kernel_rfl) (by kernel_rfl) (by kernel_rfl) (by kernel_rfl) (by simp [Tryz.f143]) (by simp [names]) ?_
  unfold Tryz.f143
  simp (disch := omega) only [go_sem]
  refine call_pure (f58_ok l p hl) (by simp (disch := omega) only [go_sem]) rfl ?_
  simp (disch := omega) only [go_sem]
  refine ret_mk ⟨[], [], []⟩ _ rfl ⟨rfl, rfl⟩ (by simp) ?_ trivial
  refine wb ?_
  unfold hasP
  cases h : l.findIdx? (fun x => decide (x = p)) with
  | none =>
    rw [List.findIdx?_eq_none_iff] at h
    have : p ∉ l := fun hp => by simpa using h p hp
    simp [this]
  | some i =>
    have := (List.findIdx?_eq_some_iff_getElem.1 h)
    obtain ⟨h1, h2, _⟩ := this
    have hm : p ∈ l := by simp at h2; rw [← h2]; exact List.getElem_mem h1
    simp [hm]
theorem f95_ok (l : List Proc) (p : Proc) (hl : l.length ≤ 1000000) : FnOK C0 95 [procsV l, .agg p.c] [] (B (hasP l p)) [] := by
  refine FnOK.intro (fn := Tryz.f95) (c := Tryz.f95.body.getD .skip) (by kernel_rfl) (by kernel_rfl) (by kernel_rfl) (by kernel_rfl) (by simp [Tryz.f95]) (by simp [names]) ?_
  unfold Tryz.f95
  simp (disch := omega) only [go_sem]
  refine call_pure (f143_ok l p hl) (by simp (disch := omega) only [go_sem]) rfl ?_
  simp (disch := omega) only [go_sem]
  refine ret_mk ⟨[], [], []⟩ _ (by (try simp (disch := omega) only [go_sem, resVs, resV]) <;> rfl) ⟨rfl, rfl⟩ (by simp) ?_ trivial
  simp (disch := omega) only [go_sem]
theorem f144_own (l : List Hold) (hl : l.length ≤ 1000000) : FnOK C0 144 [holdsV l] [] (procsO 0 (procsH l)) [] := by
  refine FnOK.intro (fn := Tryz.f144) (c := Tryz.f144.body.getD .skip) (by kernel_rfl) (by kernel_rfl) (by kernel_rfl) (by kernel_rfl) (by simp [Tryz.f144]) (by simp [names]) ?_
  unfold Tryz.f144
  simp (disch := omega) only [go_sem]
  refine loop_intro (α := Nat) (fun i => ⟨[(8, I i), (7, I l.length), (6, holdsV l), (3, .sl (.own 1024 0) 3 ((procsH (l.take i)).map Proc.c))], []⟩) (fun i => i ≤ (l).length ∧ True) (fun i => (l).length - i) 0 ⟨by omega, trivial⟩ ?_ ?_
  · refine Imp.weak ?_ ?_
    all_goals (try simp (disch := omega) only [go_sem])
    all_goals (try (repeat' (with_reducible apply And.intro)))
    all_goals (first | exact .nilOwn (by omega) | exact .nilNo (by omega) | exact .sl (by simp []) | exact .int (by simp []) | exact .eq (by simp []))
  rintro i ⟨hi, hP⟩ J hJ
  simp (disch := omega) only [go_sem]
  refine And.intro (fun hlt => ?_) (fun hge => ?_)
  rotate_left
  have hil : i = (l).length := by simp at hge; omega
  rotate_left
  obtain ⟨b, hb⟩ : ∃ b, (l)[i]? = some b := ⟨_, List.getElem?_eq_getElem (by simp at hlt; omega)⟩
  have hbm := List.mem_of_getElem? hb
  simp (disch := omega) only [go_sem, List.getElem?_map, hb]
  · simp (disch := omega) only [go_sem, procsH]
    refine hJ _ (i + 1) ⟨by simp at hlt; omega, trivial⟩ (by simp at hlt; omega) (Imp.weak ?_ ?_)
    all_goals (try simp (disch := omega) only [go_sem])
    all_goals (try (repeat' (with_reducible apply And.intro)))
    all_goals (first | exact .nilOwn (by omega) | exact .nilNo (by omega) | exact .sl (by simp [procsH, List.take_add_one, hb, Proc.c]) | exact .int (by simp [procsH, List.take_add_one, hb, Proc.c]) | exact .eq (by simp [procsH, List.take_add_one, hb, Proc.c]))

  · subst hil
    refine ret_mk ⟨[(1024, 0)], [], []⟩ _ rfl ⟨rfl, rfl⟩ (by simp [lk]) ?_ trivial
    simp (disch := omega) only [go_sem, List.take_length]
def procsQ (q : Queue) : List Proc := sortU (procsH q.holds ++ procsW (q.convs ++ q.waits))
theorem f96_ok (q : Queue) (h : allQ q ≤ 1000000) : FnOK C0 96 [.agg q.c] [] (procsV (procsQ q)) [] := by
  have h1 : q.holds.length ≤ 1000000 := by unfold allQ at h; omega
  have h2 : q.convs.length + q.waits.length ≤ 1000000 := by unfold allQ sizeQ at h; omega
  have h3 : (procsH q.holds).length + (procsW (q.convs ++ q.waits)).length ≤ 1000000 := by simp [procsH, procsW]; unfold allQ sizeQ at h; omega
  have h4 : (procsH q.holds).length + (procsW (q.convs ++ q.waits)).length ≤ 4294967296 := by omega
  refine FnOK.intro (fn := Tryz.f96) (c := Tryz.f96.body.getD .skip) (by kernel_rfl) (by kernel_rfl) (by kernel_rfl) (by kernel_rfl) (by simp [Tryz.f96]) (by simp [names]) ?_
  unfold Tryz.f96
  simp (disch := omega) only [go_sem]
  refine draw_mk 4 [([], [1]), ([0], [3]), ([0, 1], [4]), ([], [1]), ([0, 1, 2, 3], []), ([0, 1, 2, 3, 4], []), ([0, 1, 2, 3, 4, 5], []), ([0, 1, 2, 3, 4, 5, 6], [])] fol (by kernel_rfl) ?_
  simp (disch := omega) only [go_sem]
  refine freeCall_mk ⟨⟨[], [], []⟩, [(0, 320)], []⟩ (f144_own q.holds h1) (by simp (disch := omega) only [go_sem]) rfl rfl trivial (.inl rfl) ?_
  simp (disch := omega) only [go_sem]
  refine call_pure (f57_ok q h2) (by simp (disch := omega) only [go_sem]) rfl ?_
  simp (disch := omega) only [go_sem]
  refine call_frz [512] (f55_ok (procsH q.holds ++ procsW (q.convs ++ q.waits)) (by simpa using h3)) (by simp (disch := omega) only [go_sem]; exact .sl (by simp)) rfl ?_
  simp (disch := omega) only [go_sem]
  refine ret_mk ⟨[], [], []⟩ _ (by (try simp (disch := omega) only [go_sem, resVs, resV]) <;> rfl) ⟨rfl, rfl⟩ (by simp) ?_ trivial
  simp (disch := omega) only [go_sem, procsQ]
end Go.Rd
open Go Go.Abs Go.Proofs
set_option maxRecDepth 100000
namespace Go.Rd
def q0 : Queue := ⟨⟨[], 0, 0, 0⟩, [], [], [], 0⟩
def remQ (q : Queue) (p : Proc) : Queue × List Hold × Int := if valid q then (if hasP (procsQ q) p then (endQ (cutQ q p), (advQ (cutQ q p)).2, 0) else (q0, [], 10)) else (q0, [], 2)
theorem compP_len (l : List Proc) : (sortU l).length ≤ l.length := by
  have := compP_length (sortL l)
  rw [sortL_length, compP_sort] at this
  exact this
theorem procsQ_len (q : Queue) : (procsQ q).length ≤ allQ q := by
  have := compP_len (procsH q.holds ++ procsW (q.convs ++ q.waits))
  unfold procsQ allQ sizeQ
  simp [procsH, procsW] at this ⊢
  omega
theorem f142_ok (q : Queue) (p : Proc) (h : allQ q + 1 ≤ 1000000) : FnOK C0 142 [.agg q.c, .agg p.c] [] (.tup [.agg (remQ q p).1.c, holdsV (remQ q p).2.1, I (remQ q p).2.2]) [] := by
  have h1 : q.holds.length ≤ 1000000 := by unfold allQ at h; omega
  have h2 : q.convs.length ≤ 1000000 := by unfold allQ sizeQ at h; omega
  have h3 : q.waits.length ≤ 1000000 := by unfold allQ sizeQ at h; omega
  refine FnOK.intro (fn := Tryz.f142) (c := Tryz.f142.body.getD .skip) (by kernel_rfl) (by kernel_rfl) (by kernel_rfl) (by kernel_rfl) (by simp [Tryz.f142]) (by simp [names]) ?_
  unfold Tryz.f142
  simp (disch := omega) only [go_sem]
  refine call_pure (f68_ok q h1 h3) (by simp (disch := omega) only [go_sem]) rfl ?_
  cases hv : valid q
  · have e : remQ q p = (q0, [], 2) := by simp [remQ, hv]
    simp (disch := omega) only [go_sem, Bool.not_false, e, q0]
    refine ret_mk ⟨[], [], []⟩ _ (by (try simp (disch := omega) only [go_sem, resVs, resV]) <;> rfl) ⟨rfl, rfl⟩ (by simp) ?_ trivial
    simp (disch := omega) only [go_sem]
    refine .tup (WeakArgs.weakL ?_)
    simp (disch := omega) only [go_sem]
    repeat' (with_reducible apply And.intro)
    all_goals (first | exact .nilNo (by omega) | exact .agg (WeakArgs.weakL (by simp (disch := omega) only [go_sem])))
  simp (disch := omega) only [go_sem, Bool.not_true]
  refine draw_mk 3 [([], [2]), ([0], [12]), ([], [3]), ([0, 1, 2], []), ([0, 1, 2, 3], [])] fol (by kernel_rfl) ?_
  simp (disch := omega) only [go_sem]
  refine freeCall_mk ⟨⟨[], [], []⟩, [], []⟩ (f96_ok q (by omega)) (by simp (disch := omega) only [go_sem]) rfl rfl trivial (.inl rfl) ?_
  simp (disch := omega) only [go_sem]
  refine call_pure (f95_ok (procsQ q) p (by have := procsQ_len q; omega)) (by simp (disch := omega) only [go_sem]) rfl ?_
  simp (disch := omega) only [go_sem]
  refine And.intro (fun hh => ?_) (fun hh => ?_)
  · have hh' : hasP (procsQ q) p = false := by simpa using hh
    have e : remQ q p = (q0, [], 10) := by simp [remQ, hv, hh']
    simp (disch := omega) only [go_sem, e, q0]
    refine ret_mk ⟨[], [], []⟩ _ (by (try simp (disch := omega) only [go_sem, resVs, resV]) <;> rfl) ⟨rfl, rfl⟩ (by simp) ?_ trivial
    simp (disch := omega) only [go_sem]
    refine .tup (WeakArgs.weakL ?_)
    simp (disch := omega) only [go_sem]
    repeat' (with_reducible apply And.intro)
    all_goals (first | exact .nilNo (by omega) | exact .agg (WeakArgs.weakL (by simp (disch := omega) only [go_sem])))
  have hh' : hasP (procsQ q) p = true := by simpa using hh
  have e : remQ q p = (endQ (cutQ q p), (advQ (cutQ q p)).2, 0) := by simp [remQ, hv, hh']
  simp (disch := omega) only [go_sem, e]
  refine call_pure (f176_ok q h1 h2 h3) (by simp (disch := omega) only [go_sem]) rfl ?_
  simp (disch := omega) only [go_sem]
  refine callB_mk ⟨⟨[], [(448, 63), (192, 127)], []⟩, [], []⟩ (f177_ok q p h) (by simp (disch := omega) only [go_sem]) rfl (by simp (disch := omega) only [go_sem]) (.inl rfl) ?_
  simp (disch := omega) only [go_sem]
  refine ret_mk ⟨[], [], []⟩ _ (by (try simp (disch := omega) only [go_sem, resVs, resV]) <;> rfl) ⟨rfl, rfl⟩ (by simp) ?_ trivial
  simp (disch := omega) only [go_sem]
end Go.Rd
open Go Go.Abs Go.Proofs
set_option maxRecDepth 100000
namespace Go.Rd
structure Few (s : WS) : Prop where
  nq : s.queues.length ≤ 100
  nn : s.needs.length ≤ 100
  aq : ∀ q ∈ s.queues, allQ q ≤ 100
def procsQs (l : List Queue) : List Proc := sortU (l.flatMap procsQ)
def procsN (l : List Need) : List Proc := l.map (·.proc)
def procsS (s : WS) : List Proc := sortU (procsQs s.queues ++ procsN s.needs)
theorem flat_len {l : List Queue} (h : ∀ q ∈ l, allQ q ≤ 100) : (l.flatMap procsQ).length ≤ l.length * 100 := by
  induction l with
  | nil => simp
  | cons q l ih =>
    have h1 := procsQ_len q
    have h2 := h q (by simp)
    have h3 := ih fun q' hq => h q' (by simp [hq])
    simp only [List.flatMap_cons, List.length_append, List.length_cons]
    omega
theorem f54_ok (l : List Queue) (h1 : l.length ≤ 100) (h2 : ∀ q ∈ l, allQ q ≤ 100) : FnOK C0 54 [queuesV l] [] (procsV (procsQs l)) [] := by
  refine FnOK.intro (fn := Tryz.f54) (c := Tryz.f54.body.getD .skip) (by kernel_rfl) (by kernel_rfl) (by kernel_rfl) (by kernel_rfl) (by simp [Tryz.f54]) (by simp [names]) ?_
  unfold Tryz.f54
  simp (disch := omega) only [go_sem]
  refine loop_intro (α := Nat) (fun i => ⟨[(8, I i), (7, I l.length), (6, queuesV l), (3, .sl (.own 960 0) 3 (((l.take i).flatMap procsQ).map Proc.c))], []⟩) (fun i => i ≤ (l).length ∧ True) (fun i => (l).length - i) 0 ⟨by omega, trivial⟩ ?_ ?_
  · refine Imp.weak ?_ ?_
    all_goals (try simp (disch := omega) only [go_sem])
    all_goals (try (repeat' (with_reducible apply And.intro)))
    all_goals (first | exact .nilOwn (by omega) | exact .nilNo (by omega) | exact .sl (by simp []) | exact .int (by simp []) | exact .eq (by simp []))
  rintro i ⟨hi, hP⟩ J hJ
  simp (disch := omega) only [go_sem]
  refine And.intro (fun hlt => ?_) (fun hge => ?_)
  rotate_left
  have hil : i = (l).length := by simp at hge; omega
  rotate_left
  obtain ⟨b, hb⟩ : ∃ b, (l)[i]? = some b := ⟨_, List.getElem?_eq_getElem (by simp at hlt; omega)⟩
  have hbm := List.mem_of_getElem? hb
  simp (disch := omega) only [go_sem, List.getElem?_map, hb]
  · have hfl := flat_len (l := l.take i) fun q hq => h2 q (List.mem_of_mem_take hq)
    have hq := procsQ_len b
    have hb2 := h2 b hbm
    have hbd : ((l.take i).flatMap procsQ).length + (procsQ b).length ≤ 4294967296 := by simp only [List.length_take] at hfl; omega
    refine call_pure (f96_ok b (by omega)) (by simp (disch := omega) only [go_sem]) rfl ?_
    simp (disch := omega) only [go_sem]
    refine hJ _ (i + 1) ⟨by simp at hlt; omega, trivial⟩ (by simp at hlt; omega) (Imp.weak ?_ ?_)
    all_goals (try simp (disch := omega) only [go_sem])
    all_goals (try (repeat' (with_reducible apply And.intro)))
    all_goals (first | exact .nilOwn (by omega) | exact .nilNo (by omega) | exact .sl (by simp [List.take_add_one, hb]) | exact .int (by simp [List.take_add_one, hb]) | exact .eq (by simp [List.take_add_one, hb]))

  · subst hil
    have hfl := flat_len h2
    refine call_frz [960] (f55_ok (l.flatMap procsQ) (by omega)) (by simp (disch := omega) only [go_sem, List.take_length]) rfl ?_
    simp (disch := omega) only [go_sem]
    refine ret_mk ⟨[], [], []⟩ _ (by (try simp (disch := omega) only [go_sem, resVs, resV]) <;> rfl) ⟨rfl, rfl⟩ (by simp) ?_ trivial
    simp (disch := omega) only [go_sem, procsQs]
theorem procsQs_len {l : List Queue} (h : ∀ q ∈ l, allQ q ≤ 100) : (procsQs l).length ≤ l.length * 100 := Nat.le_trans (compP_len _) (flat_len h)
theorem f25_ok (s : WS) (h : Few s) : FnOK C0 25 [.agg s.c] [] (procsV (procsS s)) [] := by
  have hq := procsQs_len h.aq
  have h1 := h.nq
  have h2 := h.nn
  have hbd : (procsQs s.queues).length ≤ 4294967296 := by omega
  refine FnOK.intro (fn := Tryz.f25) (c := Tryz.f25.body.getD .skip) (by kernel_rfl) (by kernel_rfl) (by kernel_rfl) (by kernel_rfl) (by simp [Tryz.f25]) (by simp [names]) ?_
  unfold Tryz.f25
  simp (disch := omega) only [go_sem]
  refine call_pure (f54_ok s.queues h.nq h.aq) (by simp (disch := omega) only [go_sem]) rfl ?_
  simp (disch := omega) only [go_sem]
  refine loop_intro (α := Nat) (fun i => ⟨[(13, I i), (12, I s.needs.length), (11, needsV s.needs), (3, .sl (.own 1344 0) 3 ((procsQs s.queues ++ procsN (s.needs.take i)).map Proc.c))], []⟩) (fun i => i ≤ (s.needs).length ∧ True) (fun i => (s.needs).length - i) 0 ⟨by omega, trivial⟩ ?_ ?_
  · refine Imp.ren ⟨[(576, 1344)], [], []⟩ ⟨rfl, rfl⟩ (by simp [lk]) ?_ ?_
    all_goals (try simp (disch := omega) only [go_sem])
    all_goals (try (repeat' (with_reducible apply And.intro)))
    all_goals (first | exact .nilOwn (by omega) | exact .nilNo (by omega) | exact .sl (by simp [procsN]) | exact .int (by simp [procsN]) | exact .eq (by simp [procsN]))
  rintro i ⟨hi, hP⟩ J hJ
  simp (disch := omega) only [go_sem]
  refine And.intro (fun hlt => ?_) (fun hge => ?_)
  rotate_left
  have hil : i = (s.needs).length := by simp at hge; omega
  rotate_left
  obtain ⟨b, hb⟩ : ∃ b, (s.needs)[i]? = some b := ⟨_, List.getElem?_eq_getElem (by simp at hlt; omega)⟩
  have hbm := List.mem_of_getElem? hb
  simp (disch := omega) only [go_sem, List.getElem?_map, hb]
  · have hbd2 : (procsQs s.queues).length + (procsN (s.needs.take i)).length + 1 ≤ 4294967296 := by simp [procsN]; omega
    simp (disch := omega) only [go_sem, procsN]
    refine hJ _ (i + 1) ⟨by simp at hlt; omega, trivial⟩ (by simp at hlt; omega) (Imp.weak ?_ ?_)
    all_goals (try simp (disch := omega) only [go_sem])
    all_goals (try (repeat' (with_reducible apply And.intro)))
    all_goals (first | exact .nilOwn (by omega) | exact .nilNo (by omega) | exact .sl (by simp [procsN, List.take_add_one, hb, Proc.c]) | exact .int (by simp [procsN, List.take_add_one, hb, Proc.c]) | exact .eq (by simp [procsN, List.take_add_one, hb, Proc.c]))

  · subst hil
    refine call_frz [1344] (f55_ok (procsQs s.queues ++ procsN s.needs) (by simp [procsN]; omega)) (by simp (disch := omega) only [go_sem, List.take_length]) rfl ?_
    simp (disch := omega) only [go_sem]
    refine ret_mk ⟨[], [], []⟩ _ (by (try simp (disch := omega) only [go_sem, resVs, resV]) <;> rfl) ⟨rfl, rfl⟩ (by simp) ?_ trivial
    simp (disch := omega) only [go_sem, procsS]
def remQ1 (q : Queue) (p : Proc) : Queue := if valid q && hasP (procsQ q) p then { endQ (cutQ q p) with gen := q.gen } else q
def remN (l : List Need) (p : Proc) : List Need := l.filter fun n => decide (n.proc ≠ p)
def remS (s : WS) (p : Proc) : WS := ⟨s.queues.map fun q => remQ1 q p, remN s.needs p⟩
@[reducible] def wsz : List AV := [.sl .no 8 [], .sl .no 9 []]
@[go_sem] theorem cmpP_ne (p q : Proc) : (cmpP p q != 0) = !decide (p = q) := by
  by_cases h : p = q
  · subst h; simp [cmpP_self]
  · have : cmpP p q ≠ 0 := fun e => h (cmpP_eq e)
    simp [h, this]
@[go_sem] theorem cmpP_eqb (p q : Proc) : (cmpP p q == 0) = decide (p = q) := by
  by_cases h : p = q
  · subst h; simp [cmpP_self]
  · have : cmpP p q ≠ 0 := fun e => h (cmpP_eq e)
    simp [h, this]
theorem f91_ok (s : WS) (p : Proc) (h : Few s) : FnOK C0 91 [.agg s.c, .agg p.c] [] (.agg (remS s p).c) [] := by
  have hn1 := h.nq
  have hn2 := h.nn
  refine FnOK.intro (fn := Tryz.f91) (c := Tryz.f91.body.getD .skip) (by kernel_rfl) (by kernel_rfl) (by kernel_rfl) (by kernel_rfl) (by simp [Tryz.f91]) (by simp [names]) ?_
  unfold Tryz.f91
  simp (disch := omega) only [go_sem]
  refine loop_intro (α := Nat) (fun i => ⟨[(17, I i), (16, I s.queues.length), (15, queuesV s.queues), (2, .ptr 128 0), (3, .ptr 192 0), (5, .ptr 320 0), (4, .ptr 256 0)], [(128, s.c), (192, p.c), (256, wsz), (320, [.sl (.own 2752 0) 8 (((s.queues.take i).map fun q => remQ1 q p).map Queue.c), .v (.slice none 0 0)])]⟩) (fun i => i ≤ (s.queues).length ∧ True) (fun i => (s.queues).length - i) 0 ⟨by omega, trivial⟩ ?_ ?_
  · refine Imp.weak ?_ ?_
    all_goals (try simp (disch := omega) only [go_sem])
    all_goals (try (repeat' (with_reducible apply And.intro)))
    all_goals (first | exact .nilOwn (by omega) | exact .nilNo (by omega) | exact .sl (by simp []) | exact .int (by simp []) | exact .eq (by simp []))
  rintro i ⟨hi, hP⟩ J hJ
  simp (disch := omega) only [go_sem]
  refine And.intro (fun hlt => ?_) (fun hge => ?_)
  rotate_left
  have hil : i = (s.queues).length := by simp at hge; omega
  rotate_left
  obtain ⟨b, hb⟩ : ∃ b, (s.queues)[i]? = some b := ⟨_, List.getElem?_eq_getElem (by simp at hlt; omega)⟩
  have hbm := List.mem_of_getElem? hb
  simp (disch := omega) only [go_sem, List.getElem?_map, hb]
  · have ha := h.aq b hbm
    have hbd : i + 1 ≤ 4294967296 := by simp at hlt; omega
    have hbd' : min i s.queues.length + 1 ≤ 4294967296 := by omega
    have fin : ∀ q, remQ1 b p = q → ∀ st', Imp ⟨C0, [], []⟩ st' ⟨[(17, I (i + 1 : Nat)), (16, I s.queues.length), (15, queuesV s.queues), (2, .ptr 128 0), (3, .ptr 192 0), (5, .ptr 320 0), (4, .ptr 256 0)], [(128, s.c), (192, p.c), (256, wsz), (320, [.sl (.own 2752 0) 8 (((s.queues.take i).map fun q => remQ1 q p).map Queue.c ++ [q.c]), .v (.slice none 0 0)])]⟩ → J st' := fun q hq st' h => by
      refine hJ st' (i + 1) ⟨by simp at hlt; omega, trivial⟩ (by simp at hlt; omega) ?_
      have e : ((s.queues.take (i + 1)).map fun q => remQ1 q p).map Queue.c = ((s.queues.take i).map fun q => remQ1 q p).map Queue.c ++ [q.c] := by
        rw [List.take_add_one, hb]; simp [hq]
      rw [e]; exact h
    clear hJ
    refine draw_mk 3 [([], [7]), ([0], [21]), ([], [3]), ([0, 1, 2], [])] fol (by kernel_rfl) ?_
    simp (disch := omega) only [go_sem]
    refine freeCall_mk ⟨⟨[], [], []⟩, [], []⟩ (f96_ok b (by omega)) (by simp (disch := omega) only [go_sem]) rfl rfl trivial (.inl rfl) ?_
    simp (disch := omega) only [go_sem]
    refine call_pure (f95_ok (procsQ b) p (by have := procsQ_len b; omega)) (by simp (disch := omega) only [go_sem]) rfl ?_
    cases hp : hasP (procsQ b) p
    · simp (disch := omega) only [go_sem, List.length_map, List.length_take]
      refine fin b (by simp [remQ1, hp]) _ (Imp.weak (by simp (disch := omega) only [go_sem]) ?_)
      simp (disch := omega) only [go_sem]
    simp (disch := omega) only [go_sem]
    refine call_pure (f142_ok b p (by omega)) (by simp (disch := omega) only [go_sem]) rfl ?_
    cases hv : valid b
    · have e : remQ b p = (q0, [], 2) := by simp [remQ, hv]
      simp (disch := omega) only [go_sem, e, List.length_map, List.length_take]
      refine fin b (by simp [remQ1, hv]) _ (Imp.weak (by simp (disch := omega) only [go_sem]) ?_)
      simp (disch := omega) only [go_sem]
    · have e : remQ b p = (endQ (cutQ b p), (advQ (cutQ b p)).2, 0) := by simp [remQ, hv, hp]
      simp (disch := omega) only [go_sem, e, List.length_map, List.length_take]
      refine fin { endQ (cutQ b p) with gen := b.gen } (by simp [remQ1, hv, hp]) _ (Imp.weak (by simp (disch := omega) only [go_sem]) ?_)
      simp (disch := omega) only [go_sem]
  subst hil
  rw [List.take_length]
  clear hJ
  refine loop_intro (α := Nat) (fun i => ⟨[(49, I i), (48, I s.needs.length), (47, needsV s.needs), (3, .ptr 192 0), (5, .ptr 320 0), (4, .ptr 256 0)], [(192, p.c), (256, wsz), (320, [.sl (.own 2752 0) 8 ((s.queues.map fun q => remQ1 q p).map Queue.c), .sl (.own 3968 0) 9 ((remN (s.needs.take i) p).map Need.c)])]⟩) (fun i => i ≤ (s.needs).length ∧ True) (fun i => (s.needs).length - i) 0 ⟨by omega, trivial⟩ ?_ ?_
  · refine Imp.weak ?_ ?_
    all_goals (try simp (disch := omega) only [go_sem])
    all_goals (try (repeat' (with_reducible apply And.intro)))
    all_goals (first | exact .nilOwn (by omega) | exact .nilNo (by omega) | exact .sl (by simp []) | exact .int (by simp []) | exact .eq (by simp []))
  rintro i ⟨hi, hP⟩ J hJ
  simp (disch := omega) only [go_sem]
  refine And.intro (fun hlt => ?_) (fun hge => ?_)
  rotate_left
  have hil : i = (s.needs).length := by simp at hge; omega
  rotate_left
  obtain ⟨b, hb⟩ : ∃ b, (s.needs)[i]? = some b := ⟨_, List.getElem?_eq_getElem (by simp at hlt; omega)⟩
  have hbm := List.mem_of_getElem? hb
  simp (disch := omega) only [go_sem, List.getElem?_map, hb]
  · have hbd : (remN (s.needs.take i) p).length + 1 ≤ 4294967296 := by
      have : (remN (s.needs.take i) p).length ≤ (s.needs.take i).length := List.length_filter_le _ _
      rw [List.length_take] at this; omega
    refine call_pure (f71_ok b.proc p) (by simp (disch := omega) only [go_sem]) rfl ?_
    simp (disch := omega) only [go_sem]
    have e1 : remN (s.needs.take (i + 1)) p = if b.proc = p then remN (s.needs.take i) p else remN (s.needs.take i) p ++ [b] := by
      simp only [remN, List.take_add_one, hb, Option.toList_some, List.filter_append, List.filter_cons, List.filter_nil]
      by_cases h : b.proc = p <;> simp [h]
    refine And.intro (fun hh => ?_) (fun hh => ?_)
    · have hne : ¬ b.proc = p := by simpa using hh
      rw [if_neg hne] at e1
      refine hJ _ (i + 1) ⟨by simp at hlt; omega, trivial⟩ (by simp at hlt; omega) (Imp.weak (by simp (disch := omega) only [go_sem]) ?_)
      rw [e1]
      simp (disch := omega) only [go_sem]
      exact .sl (by simp [Need.c])
    · have hne : b.proc = p := by simpa using hh
      rw [if_pos hne] at e1
      refine hJ _ (i + 1) ⟨by simp at hlt; omega, trivial⟩ (by simp at hlt; omega) (Imp.weak (by simp (disch := omega) only [go_sem]) ?_)
      rw [e1]
      simp (disch := omega) only [go_sem]
  · subst hil
    simp (disch := omega) only [go_sem, List.take_length]
    refine ret_mk ⟨[], [], [2752, 3968]⟩ _ (by (try simp (disch := omega) only [go_sem, resVs, resV]) <;> rfl) ⟨rfl, rfl⟩ (by simp) ?_ trivial
    simp (disch := omega) only [go_sem, remS]
    exact .eq (by simp)
/-- formula -/
def atomE (l : List Atom) (a : Atom) : List Atom := if a ∈ l then l else l ++ [a]
mutual
def colE : List Atom → Expr → List Atom
  | l, .mk _ a kids => if kids.length = 0 then atomE l a else colL l kids
def colL : List Atom → List Expr → List Atom
  | l, [] => l
  | l, e :: es => colL (colE l e) es
end
theorem colE_def (l : List Atom) (e : Expr) : colE l e = if e.kids.length = 0 then atomE l e.atom else colL l e.kids := by
  cases e; simp only [colE]; rfl
def atomsE (e : Expr) : List Atom := if exprOK e then colE [] e else []
def atomIdx (l : List Atom) (a : Atom) : Int := match l.findIdx? (fun x => decide (x = a)) with | some i => i | none => -1
theorem f166_ok (l : List Atom) (p : Atom) (hl : l.length ≤ 1000000) : FnOK C0 166 [atomsV l, .agg p.c] [] (I (atomIdx l p)) [] := by
  refine FnOK.intro (fn := Tryz.f166) (c := Tryz.f166.body.getD .skip) (by kernel_rfl) (by kernel_rfl) (by kernel_rfl) (by kernel_rfl) (by simp [Tryz.f166]) (by simp [names]) ?_
  unfold Tryz.f166
  simp (disch := omega) only [go_sem]
  refine loop_intro (α := Nat) (fun i => ⟨[(8, I i), (7, I l.length), (0, atomsV l), (3, .ptr 192 0)], [(192, p.c)]⟩) (fun i => i ≤ (l).length ∧ (l.take i).find? (fun x => decide (x = p)) = none) (fun i => (l).length - i) 0 ⟨by omega, rfl⟩ ?_ ?_
  · refine Imp.weak ?_ ?_
    all_goals (try simp (disch := omega) only [go_sem])
    all_goals (try (repeat' (with_reducible apply And.intro)))
    all_goals (first | exact .nilOwn (by omega) | exact .nilNo (by omega) | exact .sl (by simp []) | exact .int (by simp []) | exact .eq (by simp []))
  rintro i ⟨hi, hP⟩ J hJ
  simp (disch := omega) only [go_sem]
  refine And.intro (fun hlt => ?_) (fun hge => ?_)
  rotate_left
  have hil : i = (l).length := by simp at hge; omega
  rotate_left
  obtain ⟨b, hb⟩ : ∃ b, (l)[i]? = some b := ⟨_, List.getElem?_eq_getElem (by simp at hlt; omega)⟩
  have hbm := List.mem_of_getElem? hb
  have hlt2 : i < (l).length := by simp at hlt; omega
  refine draw_mk 5 [([], [3]), ([], [0]), ([], [5]), ([1, 2], [12, 13]), ([1, 2, 3], [14]), ([0, 1, 2, 3, 4], [])] fol (by kernel_rfl) ?_
  simp (disch := omega) only [go_sem, List.getElem?_map, hb]
  · refine And.intro (fun h => ?_) (fun h => ?_)
    · have e : atomIdx l p = i := by unfold atomIdx; rw [idx_take hP b hb (by simp at h; simp [h])]
      simp (disch := omega) only [go_sem, e]
      refine ret_mk ⟨[], [], []⟩ _ (by (try simp (disch := omega) only [go_sem, resVs, resV]) <;> rfl) ⟨rfl, rfl⟩ (by simp) ?_ trivial
      simp (disch := omega) only [go_sem]
    · refine hJ _ (i + 1) ⟨by simp at hlt; omega, (by rw [find_take hP hb]; simp at h; simp [Ne.symm h])⟩ (by simp at hlt; omega) (Imp.weak (by simp (disch := omega) only [go_sem]) (by simp (disch := omega) only [go_sem]))
  · subst hil
    rw [List.take_length] at hP
    have e : atomIdx l p = -1 := by
      unfold atomIdx
      have : l.findIdx? (fun x => decide (x = p)) = none := by
        rw [List.findIdx?_eq_none_iff]
        rw [List.find?_eq_none] at hP
        intro x hx
        simpa using hP x hx
      rw [this]
    simp (disch := omega) only [go_sem, e]
    refine ret_mk ⟨[], [], []⟩ _ (by (try simp (disch := omega) only [go_sem, resVs, resV]) <;> rfl) ⟨rfl, rfl⟩ (by simp) ?_ trivial
    simp (disch := omega) only [go_sem]
theorem atomIdx_mem (l : List Atom) (p : Atom) : decide (0 ≤ atomIdx l p) = decide (p ∈ l) := by
  unfold atomIdx
  cases h : l.findIdx? (fun x => decide (x = p)) with
  | none =>
    rw [List.findIdx?_eq_none_iff] at h
    have : p ∉ l := fun hp => by simpa using h p hp
    simp [this]
  | some i =>
    obtain ⟨h1, h2, _⟩ := (List.findIdx?_eq_some_iff_getElem.1 h)
    have hm : p ∈ l := by simp at h2; rw [← h2]; exact List.getElem_mem h1
    simp [hm]
theorem f124_ok (l : List Atom) (p : Atom) (hl : l.length ≤ 1000000) : FnOK C0 124 [atomsV l, .agg p.c] [] (B (decide (p ∈ l))) [] := by
  refine FnOK.intro (fn := Tryz.f124) (c := Tryz.f124.body.getD .skip) (by kernel_rfl) (by kernel_rfl) (by kernel_rfl) (by kernel_rfl) (by simp [Tryz.f124]) (by simp [names]) ?_
  unfold Tryz.f124
  simp (disch := omega) only [go_sem]
  refine call_pure (f166_ok l p hl) (by simp (disch := omega) only [go_sem]) rfl ?_
  have := atomIdx_mem l p
  simp (disch := omega) only [go_sem, this]
  refine ret_mk ⟨[], [], []⟩ _ (by (try simp (disch := omega) only [go_sem, resVs, resV]) <;> rfl) ⟨rfl, rfl⟩ (by simp) ?_ trivial
  simp (disch := omega) only [go_sem]
end Go.Rd
open Go Go.Abs Go.Proofs
set_option maxRecDepth 100000
namespace Go.Rd
theorem note_ok {l : List Atom} {a : Atom} (h : ((noteE l a).1 == 0) = true) : (noteE l a).2 = atomE l a := by
  unfold noteE at h ⊢
  cases hf : l.find? (hit a) with
  | some b =>
    rw [hf] at h
    simp only at h ⊢
    by_cases e : a = b
    · subst e
      simp [atomE, List.mem_of_find?_eq_some hf]
    · simp [e] at h
  | none =>
    rw [hf] at h
    simp only at h ⊢
    by_cases h8 : l.length = 8
    · simp [h8] at h
    · have : a ∉ l := fun hm => by
        rw [List.find?_eq_none] at hf
        have := hf a hm
        simp [hit] at this
      simp [h8, atomE, this]
theorem propL_col : ∀ (es : List Expr) (l : List Atom), (∀ e ∈ es, ∀ l, (prop e l).1 = true → colE l e = (prop e l).2) → (propL es l).1 = true → colL l es = (propL es l).2
  | [], l, _, _ => by simp [colL, propL]
  | e :: es, l, hk, h => by
    simp only [propL] at h ⊢
    split at h
    · rename_i h1
      rw [if_pos h1]
      simp only [colL]
      rw [hk e (by simp) l h1]
      exact propL_col es _ (fun e' he => hk e' (by simp [he])) h
    · cases h
theorem prop_col : ∀ (N : Nat) (e : Expr), SizeOf.sizeOf e < N → ∀ l : List Atom, (prop e l).1 = true → colE l e = (prop e l).2
  | 0, _, h, _, _ => by omega
  | N + 1, e, h, l, hp => by
    rw [prop_def] at hp ⊢
    rw [colE_def]
    split at hp
    · rename_i hk
      rw [if_pos hk, if_pos hk]
      split at hp
      · rename_i h1
        rw [if_pos h1]
        exact (note_ok hp).symm
      · cases hp
    · rename_i hk
      rw [if_neg hk, if_neg hk]
      split at hp
      · cases hp
      · rename_i h1
        rw [if_neg h1]
        exact propL_col _ _ (fun e' he l' hl' => prop_col N e' (by have := kid_lt he; omega) l' hl') hp
theorem f74_ok : ∀ (N : Nat) (e : Expr), SizeOf.sizeOf e < N → ∀ l : List Atom, l.length ≤ 8 → (prop e l).1 = true →
    FnOK C0 74 [atomsO 0 l, .agg e.c] [] (atomsO 1 (prop e l).2) []
  | 0, _, h, _, _, _ => by omega
  | N + 1, e, h, l, hl, hpr => by
    refine FnOK.assume (fn := Tryz.f74) (c := Tryz.f74.body.getD .skip) (by kernel_rfl) (by kernel_rfl) (by kernel_rfl) fun hlen => ?_
    simp only [lensL, lens, Expr.c_def, List.length_map, and_true, true_and] at hlen
    have hp0 := hpr
    rw [prop_def] at hpr
    refine FnOK.intro (fn := Tryz.f74) (c := Tryz.f74.body.getD .skip) (by kernel_rfl) (by kernel_rfl) (by kernel_rfl) (by kernel_rfl) (by simp [Tryz.f74]) (by simp [names]) ?_
    unfold Tryz.f74
    by_cases hk : e.kids.length = 0
    · have e1 : ((e.kids.length : Int) == 0) = true := by simp [hk]
      rw [if_pos hk] at hpr
      have hc := prop_col (N + 1) e h l hp0
      rw [colE_def, if_pos hk] at hc
      simp (disch := omega) only [go_sem, e1]
      refine call_lent [0] (f124_ok l e.atom (by omega)) (by simp (disch := omega) only [go_sem]) rfl trivial ?_
      by_cases hm : e.atom ∈ l
      · have e2 : (decide (e.atom ∈ l)) = true := by simp [hm]
        have e3 : (prop e l).2 = l := by rw [← hc]; simp [atomE, hm]
        simp (disch := omega) only [go_sem, e2, e3]
        refine ret_mk ⟨[(0, 1)], [], []⟩ _ rfl ⟨rfl, rfl⟩ (by simp [lk]) ?_ trivial
        simp (disch := omega) only [go_sem]
      · have e2 : (decide (e.atom ∈ l)) = false := by simp [hm]
        have e3 : (prop e l).2 = l ++ [e.atom] := by rw [← hc]; simp [atomE, hm]
        simp (disch := omega) only [go_sem, e2, e3]
        refine ret_mk ⟨[(1280, 1)], [], []⟩ _ rfl ⟨rfl, rfl⟩ (by simp [lk]) ?_ trivial
        simp (disch := omega) only [go_sem]
        exact .sl (by simp [Atom.c])
    have e1 : ((e.kids.length : Int) == 0) = false := by simp only [beq_eq_false_iff_ne, ne_eq]; omega
    rw [if_neg hk] at hpr
    split at hpr
    · cases hpr
    rename_i hbad
    have ep : prop e l = propL e.kids l := by rw [prop_def, if_neg hk, if_neg hbad]
    simp (disch := omega) only [go_sem, e1, ep]
    refine loop_intro (α := Nat × List Atom) (fun q => ⟨[(24, I q.1), (23, I e.kids.length), (22, exprsV e.kids), (0, atomsO 1920 q.2)], []⟩)
      (fun q => q.1 ≤ e.kids.length ∧ q.2.length ≤ 8 ∧ (propL (e.kids.drop q.1) q.2).1 = true ∧ propL (e.kids.drop q.1) q.2 = propL e.kids l) (fun q => e.kids.length - q.1) (0, l) ⟨by simp, hl, by simpa using hpr, by simp⟩ ?_ ?_
    · refine Imp.ren ⟨[(0, 1920)], [], []⟩ ⟨rfl, rfl⟩ (by simp [lk]) ?_ ?_
      · simp (disch := omega) only [go_sem]
      · simp (disch := omega) only [go_sem]
    rintro ⟨i, m⟩ ⟨hi, hm, hb1, hr⟩ J hJ
    replace hi : i ≤ e.kids.length := hi
    replace hm : m.length ≤ 8 := hm
    replace hb1 : (propL (e.kids.drop i) m).1 = true := hb1
    replace hr : propL (e.kids.drop i) m = propL e.kids l := hr
    simp (disch := omega) only [go_sem]
    refine And.intro (fun hlt => ?_) (fun hge => ?_)
    · have hlt' : i < e.kids.length := by simp at hlt; omega
      have hb : e.kids[i]? = some e.kids[i] := List.getElem?_eq_getElem hlt'
      have hsz := kid_lt (List.getElem_mem hlt')
      have hdr : e.kids.drop i = e.kids[i] :: e.kids.drop (i + 1) := List.drop_eq_getElem_cons hlt'
      generalize e.kids[i] = b at hb hsz hdr
      rw [hdr] at hr hb1
      simp only [propL] at hr hb1
      have hx1 : (prop b m).1 = true := by
        split at hb1
        · assumption
        · cases hb1
      rw [if_pos hx1] at hr hb1
      simp (disch := omega) only [go_sem, List.getElem?_map, hb]
      refine callB_mk ⟨⟨[(1920, 0)], [], []⟩, [(1, 1921)], []⟩ (f74_ok N b (by omega) m hm hx1) (by simp (disch := omega) only [go_sem]) rfl (by simp (disch := omega) only [go_sem]) (.inl rfl) ?_
      have hx := prop_bd N b (by omega) m hm
      simp (disch := omega) only [go_sem]
      refine hJ _ (i + 1, (prop b m).2) ⟨by simp; omega, hx, hb1, hr⟩ (by simp; omega) (Imp.ren ⟨[(1921, 1920)], [], []⟩ ⟨rfl, rfl⟩ (by simp [lk]) ?_ ?_)
      · simp (disch := omega) only [go_sem]
      · simp (disch := omega) only [go_sem]
    · have hil : i = e.kids.length := by simp at hge; omega
      subst hil
      rw [List.drop_length] at hr
      simp only [propL] at hr
      simp (disch := omega) only [go_sem, ← hr]
      refine ret_mk ⟨[(1920, 1)], [], []⟩ _ rfl ⟨rfl, rfl⟩ (by simp [lk]) ?_ trivial
      simp (disch := omega) only [go_sem]
theorem exprOK_prop {e : Expr} (h : exprOK e = true) : (prop e []).1 = true := by
  simp only [exprOK, Bool.and_eq_true] at h
  exact h.2
theorem atomsE_len (e : Expr) : (atomsE e).length ≤ 8 := by
  unfold atomsE
  split
  · rename_i h
    rw [prop_col _ e (Nat.lt_succ_self _) [] (exprOK_prop h)]
    exact prop_bd _ e (Nat.lt_succ_self _) [] (by simp)
  · simp
theorem f39_ok (e : Expr) : FnOK C0 39 [.agg e.c] [] (atomsV (atomsE e)) [] := by
  refine FnOK.intro (fn := Tryz.f39) (c := Tryz.f39.body.getD .skip) (by kernel_rfl) (by kernel_rfl) (by kernel_rfl) (by kernel_rfl) (by simp [Tryz.f39]) (by simp [names]) ?_
  unfold Tryz.f39
  simp (disch := omega) only [go_sem]
  refine call_pure (f70_ok e) (by simp (disch := omega) only [go_sem]) rfl ?_
  cases h : exprOK e
  · have e1 : atomsE e = [] := by simp [atomsE, h]
    simp (disch := omega) only [go_sem, e1]
    refine ret_mk ⟨[], [], []⟩ _ rfl ⟨rfl, rfl⟩ (by simp [lk]) ?_ trivial
    exact .nilNo (by omega)
  · have hp := exprOK_prop h
    have e1 : atomsE e = (prop e []).2 := by
      simp only [atomsE, h, if_true]
      exact prop_col _ e (Nat.lt_succ_self _) [] hp
    simp (disch := omega) only [go_sem, e1]
    refine callB_mk ⟨⟨[], [], []⟩, [(1, 448)], []⟩ (f74_ok _ e (Nat.lt_succ_self _) [] (by simp) hp) (by simp (disch := omega) only [go_sem, atomsO, List.map_nil]) rfl (by simp (disch := omega) only [go_sem]) (.inl rfl) ?_
    simp (disch := omega) only [go_sem]
    refine ret_mk ⟨[], [], [448]⟩ _ (by (try simp (disch := omega) only [go_sem, resVs, resV]) <;> rfl) ⟨rfl, rfl⟩ (by simp) ?_ trivial
    simp (disch := omega) only [go_sem, atomsO]
end Go.Rd
