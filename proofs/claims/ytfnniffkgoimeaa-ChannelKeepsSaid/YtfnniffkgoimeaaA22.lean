/- Regions that draw their order: one evaluation serves every order. -/
import Derived.Test.YtfnniffkgoimeaaA21
set_option linter.all false
namespace Go.Abs

structure Res where
  x : AV
  S : List Nat
  T : List Nat
  upd : List (Nat × List AV)

def tmD (dst : Nat → Option Nat) (res : Nat → Res) (D : Nat → Bool) (base : List (Nat × AV)) : Nat → List (Nat × AV)
  | 0 => base
  | j + 1 => match D j, dst j with
    | true, some d => (d, (res j).x) :: tmD dst res D base j
    | _, _ => tmD dst res D base j
def obD (res : Nat → Res) (D : Nat → Bool) (base : List (Nat × List AV)) : Nat → List (Nat × List AV)
  | 0 => base
  | j + 1 => if D j then (res j).upd ++ obD res D base j else obD res D base j

def edgesOf (ops : Array Oper) (i : Nat) : List Nat := match ops[i]? with
  | some o => o.after.toList.filterMap fun e => if Region.binds .any e then some e.on else none
  | none => []
def predT (tab : List (List Nat × List Nat)) (i : Nat) : List Nat := (tab.getD i ([], [])).1
def readT (tab : List (List Nat × List Nat)) (i : Nat) : List Nat := (tab.getD i ([], [])).2
def dstT (ops : Array Oper) (i : Nat) : Option Nat := (ops[i]?).bind (·.dst)
def isIn (d : Option Nat) (l : List Nat) : Bool := match d with
  | some t => l.contains t
  | none => false
def clash (ops : Array Oper) (tab : List (List Nat × List Nat)) (i j : Nat) : Bool :=
  (match dstT ops i, dstT ops j with
  | some d, some e => d == e
  | _, _ => false) || isIn (dstT ops j) (readT tab i) || isIn (dstT ops i) (readT tab j)

def regOK (ops : Array Oper) (k : Nat) (tab : List (List Nat × List Nat)) : Bool :=
  decide (k ≤ ops.size) && (List.range ops.size).all (fun i => (edgesOf ops i).all (fun e => decide (e < i)) &&
    (predT tab i).all (fun p => (edgesOf ops i).any fun e => p == e || (predT tab e).contains p) &&
    (decide (i < k) || (List.range i).all fun j => (predT tab i).contains j)) &&
  (List.range k).all fun i => (List.range i).all fun j => (predT tab i).contains j || !(clash ops tab i j)

structure RegOK (ops : Array Oper) (k : Nat) (tab : List (List Nat × List Nat)) : Prop where
  le : k ≤ ops.size
  edge : ∀ i, i < ops.size → ∀ e ∈ edgesOf ops i, e < i
  pred : ∀ i, i < ops.size → ∀ p ∈ predT tab i, ∃ e ∈ edgesOf ops i, p = e ∨ p ∈ predT tab e
  tail : ∀ i, i < ops.size → k ≤ i → ∀ j, j < i → j ∈ predT tab i
  apart : ∀ i j, i < k → j < i → j ∈ predT tab i ∨ clash ops tab i j = false

theorem regOK.spec {ops : Array Oper} {k : Nat} {tab : List (List Nat × List Nat)} (h : regOK ops k tab = true) : RegOK ops k tab := by
  simp only [regOK, Bool.and_eq_true, decide_eq_true_eq, List.all_eq_true, List.mem_range, Bool.or_eq_true, List.any_eq_true, List.contains_iff_mem, beq_iff_eq, Bool.not_eq_true'] at h
  obtain ⟨⟨h1, h2⟩, h3⟩ := h
  exact ⟨h1, fun i hi => (h2 i hi).1.1, fun i hi => (h2 i hi).1.2, fun i hi hk j hj => ((h2 i hi).2.resolve_left (by omega)) j hj, fun i j hi hj => h3 i hi j hj⟩

/-- a set of operations done: closed under what they wait for -/
def Closed (ops : Array Oper) (D : Nat → Bool) : Prop := ∀ i, i < ops.size → D i = true → ∀ e ∈ edgesOf ops i, D e = true

section
variable {ops : Array Oper} {k : Nat} {tab : List (List Nat × List Nat)} {D : Nat → Bool}

theorem Closed.pred (hr : RegOK ops k tab) (hc : Closed ops D) : ∀ i, i < ops.size → D i = true → ∀ p ∈ predT tab i, D p = true := by
  intro i
  induction i using Nat.strongRecOn with
  | _ i ih =>
    intro hi hd p hp
    obtain ⟨e, he, h | h⟩ := hr.pred i hi p hp
    · subst h; exact hc i hi hd _ he
    · have hlt := hr.edge i hi e he
      exact ih e hlt (by omega) (hc i hi hd e he) p h

theorem pred_of_edges (hr : RegOK ops k tab) (hc : Closed ops D) {i : Nat} (hi : i < ops.size) (hd : ∀ e ∈ edgesOf ops i, D e = true) : ∀ p ∈ predT tab i, D p = true := by
  intro p hp
  obtain ⟨e, he, h | h⟩ := hr.pred i hi p hp
  · subst h; exact hd _ he
  · exact hc.pred hr e (by have := hr.edge i hi e he; omega) (hd e he) p h

variable {dst : Nat → Option Nat} {res res' : Nat → Res} {base : List (Nat × AV)} {obase : List (Nat × List AV)}

theorem tmD_congr {D D' : Nat → Bool} : ∀ n, (∀ j, j < n → res j = res' j ∧ D j = D' j) → tmD dst res D base n = tmD dst res' D' base n
  | 0, _ => rfl
  | n + 1, h => by
    simp only [tmD, (h n (by omega)).1, (h n (by omega)).2]
    rw [tmD_congr n fun j hj => h j (by omega)]
theorem obD_congr {D D' : Nat → Bool} : ∀ n, (∀ j, j < n → res j = res' j ∧ D j = D' j) → obD res D obase n = obD res' D' obase n
  | 0, _ => rfl
  | n + 1, h => by
    simp only [obD, (h n (by omega)).1, (h n (by omega)).2]
    rw [obD_congr n fun j hj => h j (by omega)]

/-- what one reads of a temporary depends only on its writers -/
theorem lk_tmD {D D' : Nat → Bool} {t : Nat} : ∀ n, (∀ j, j < n → dst j = some t → D j = D' j) → lk t (tmD dst res D base n) = lk t (tmD dst res D' base n)
  | 0, _ => rfl
  | n + 1, h => by
    have ih := lk_tmD (D := D) (D' := D') (t := t) n fun j hj => h j (by omega)
    cases hd : dst n with
    | none => cases h1 : D n <;> cases h2 : D' n <;> simp only [tmD, hd, h1, h2] <;> exact ih
    | some d =>
      by_cases hdt : d = t
      · have := h n (by omega) (by rw [hd, hdt])
        cases h1 : D n <;> rw [h1] at this <;> simp only [tmD, hd, h1, ← this]
        · exact ih
        · simp [lk, hdt]
      · cases h1 : D n <;> cases h2 : D' n <;> simp only [tmD, hd, h1, h2, lk, hdt, if_false] <;> exact ih

theorem tmD_cut {i : Nat} : ∀ n, i ≤ n → (∀ j, i ≤ j → j < n → D j = false) → tmD dst res D base n = tmD dst res D base i
  | 0, h, _ => by have : i = 0 := by omega
                  rw [this]
  | n + 1, h, hd => by
    by_cases hi : i = n + 1
    · rw [hi]
    · have := hd n (by omega) (by omega)
      simp only [tmD, this]
      exact tmD_cut n (by omega) fun j h1 h2 => hd j h1 (by omega)

def addD (i : Nat) (D : Nat → Bool) (j : Nat) : Bool := if j = i then true else D j

theorem lk_tmD_add_self {i t : Nat} (hdi : dst i = some t) : ∀ n, i < n → (∀ j, i < j → j < n → D j = true → dst j ≠ some t) → lk t (tmD dst res (addD i D) base n) = some (res i).x
  | 0, h, _ => by omega
  | n + 1, h, hno => by
    by_cases hin : i = n
    · subst hin
      simp [tmD, addD, hdi, lk]
    · have ih := lk_tmD_add_self hdi n (by omega) fun j h1 h2 => hno j h1 (by omega)
      have hn : addD i D n = D n := by simp [addD, Ne.symm hin]
      simp only [tmD, hn]
      cases h1 : D n with
      | false => simpa using ih
      | true =>
        have := hno n (by omega) (by omega) h1
        cases hd : dst n with
        | none => simpa using ih
        | some d =>
          have hdt : d ≠ t := fun e => this (by rw [hd, e])
          simp only [lk, hdt, if_false]; exact ih

theorem lk_obD_add {i s : Nat} (hi : D i = false) : ∀ n, i < n → (∀ c, lk s (res i).upd = some c → ∀ j, j ≠ i → j < n → D j = true → lk s (res j).upd = none) →
    lk s (obD res (addD i D) obase n) = (lk s (res i).upd).or (lk s (obD res D obase n))
  | 0, h, _ => by omega
  | n + 1, h, hno => by
    by_cases hin : i = n
    · subst hin
      have h1 : obD res (addD i D) obase i = obD res D obase i := obD_congr i fun j hj => ⟨rfl, by simp [addD, Nat.ne_of_lt hj]⟩
      simp only [obD, addD, if_true, hi, Bool.false_eq_true, if_false, lk_append]
      rw [← h1]
    · have ih := lk_obD_add (s := s) hi n (by omega) fun c hc j h1 h2 => hno c hc j h1 (by omega)
      have hn : addD i D n = D n := by simp [addD, Ne.symm hin]
      simp only [obD, hn]
      cases h1 : D n with
      | false => simpa using ih
      | true =>
        simp only [if_true, lk_append, ih]
        cases hs : lk s (res i).upd with
        | none => simp
        | some c =>
          have := hno c hs n (Ne.symm hin) (by omega) h1
          simp [this]

def fixT (S T : List Nat) (l : List (Nat × AV)) : Prop := killT S T l = l
def fixO (S T : List Nat) (l : List (Nat × List AV)) : Prop := killO S T (dropO T l) = l

theorem fixT_cons {S T : List Nat} {p : Nat × AV} {l : List (Nat × AV)} : fixT S T (p :: l) ↔ p.2.kill S T = p.2 ∧ fixT S T l := by
  obtain ⟨k, x⟩ := p
  simp only [fixT, killT, List.cons.injEq, Prod.mk.injEq, true_and]
theorem killO_len (S T : List Nat) : ∀ l : List (Nat × List AV), (killO S T (dropO T l)).length ≤ l.length
  | [] => by simp [dropO, killO]
  | (k, x) :: l => by
    have := killO_len S T l
    simp only [dropO]
    split
    · simp; omega
    · rename_i hk
      simp [killO, hk]; omega
theorem fixO_cons {S T : List Nat} {p : Nat × List AV} {l : List (Nat × List AV)} : fixO S T (p :: l) ↔ p.1 ∉ T ∧ killL S T p.2 = p.2 ∧ fixO S T l := by
  obtain ⟨k, x⟩ := p
  simp only [fixO, dropO]
  by_cases hk : k ∈ T
  · simp only [hk, if_true, not_true_eq_false, false_and, iff_false]
    intro h
    have := killO_len S T l
    rw [h] at this
    simp at this
    omega
  · simp [hk, killO]
theorem fixO_append {S T : List Nat} {l m : List (Nat × List AV)} : fixO S T (l ++ m) ↔ fixO S T l ∧ fixO S T m := by
  induction l with
  | nil => simp [fixO, dropO, killO]
  | cons p l ih =>
    simp only [List.cons_append, fixO_cons, ih]
    constructor
    · rintro ⟨h1, h2, h3, h4⟩; exact ⟨⟨h1, h2, h3⟩, h4⟩
    · rintro ⟨⟨h1, h2, h3⟩, h4⟩; exact ⟨h1, h2, h3, h4⟩
theorem fixO_names {S T : List Nat} : ∀ {l : List (Nat × List AV)}, fixO S T l → ∀ s ∈ T, lk s l = none
  | [], _, _, _ => rfl
  | (k, x) :: l, h, s, hs => by
    obtain ⟨h1, _, h3⟩ := fixO_cons.1 h
    have : k ≠ s := fun e => h1 (by rw [e]; exact hs)
    simp only [lk, this, if_false]
    exact fixO_names h3 s hs

theorem fixT_tmD {S T : List Nat} : ∀ n, fixT S T base → (∀ j, j < n → D j = true → (res j).x.kill S T = (res j).x) → fixT S T (tmD dst res D base n)
  | 0, h, _ => h
  | n + 1, h, hj => by
    have ih := fixT_tmD n h fun j h1 => hj j (by omega)
    cases h1 : D n with
    | false => simpa [tmD, h1] using ih
    | true =>
      cases hd : dst n with
      | none => simpa [tmD, h1, hd] using ih
      | some d => simp only [tmD, h1, hd]; exact fixT_cons.2 ⟨hj n (by omega) h1, ih⟩
theorem fixO_obD {S T : List Nat} : ∀ n, fixO S T obase → (∀ j, j < n → D j = true → fixO S T (res j).upd) → fixO S T (obD res D obase n)
  | 0, h, _ => h
  | n + 1, h, hj => by
    have ih := fixO_obD n h fun j h1 => hj j (by omega)
    cases h1 : D n with
    | false => simpa [obD, h1] using ih
    | true => simp only [obD, h1, if_true]; exact fixO_append.2 ⟨hj n (by omega) h1, ih⟩
theorem fixT_of_tmD {S T : List Nat} : ∀ n, fixT S T (tmD dst res (fun _ => true) base n) → fixT S T base ∧ ∀ j, j < n → (dst j).isSome = true → (res j).x.kill S T = (res j).x
  | 0, h => ⟨h, fun j hj => by omega⟩
  | n + 1, h => by
    cases hd : dst n with
    | none =>
      simp only [tmD, hd] at h
      obtain ⟨h1, h2⟩ := fixT_of_tmD n h
      exact ⟨h1, fun j hj hs => if e : j = n then by subst e; simp [hd] at hs else h2 j (by omega) hs⟩
    | some d =>
      simp only [tmD, hd] at h
      obtain ⟨h0, h'⟩ := fixT_cons.1 h
      obtain ⟨h1, h2⟩ := fixT_of_tmD n h'
      exact ⟨h1, fun j hj hs => if e : j = n then by subst e; exact h0 else h2 j (by omega) hs⟩
theorem fixO_of_obD {S T : List Nat} : ∀ n, fixO S T (obD res (fun _ => true) obase n) → fixO S T obase ∧ ∀ j, j < n → fixO S T (res j).upd
  | 0, h => ⟨h, fun j hj => by omega⟩
  | n + 1, h => by
    simp only [obD, if_true] at h
    obtain ⟨h0, h'⟩ := fixO_append.1 h
    obtain ⟨h1, h2⟩ := fixO_of_obD n h'
    exact ⟨h1, fun j hj => if e : j = n then by subst e; exact h0 else h2 j (by omega)⟩
end
end Go.Abs
