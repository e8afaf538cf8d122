/- The evaluator's state and how it stands to a frame and a world. -/
import Derived.Test.YtfnniffkgoimeaaA1
set_option linter.all false
namespace Go.Abs

structure Ctx where
  P : Program
  G : Nat → Option (List AV)

structure St where
  tmps : List (Nat × AV)
  objs : List (Nat × List AV)

def lk {α : Type} (k : Nat) : List (Nat × α) → Option α
  | [] => none
  | (j, x) :: l => if j = k then some x else lk k l

def killT (S T : List Nat) : List (Nat × AV) → List (Nat × AV)
  | [] => []
  | (k, x) :: l => (k, x.kill S T) :: killT S T l
def killO (S T : List Nat) : List (Nat × List AV) → List (Nat × List AV)
  | [] => []
  | (k, x) :: l => if k ∈ T then killO S T l else (k, killL S T x) :: killO S T l
def St.kill (S T : List Nat) (st : St) : St := ⟨killT S T st.tmps, killO S T st.objs⟩

def St.put (d : Option Nat) (x : AV) (st : St) : St :=
  match d with
  | some k => ⟨(k, x) :: st.tmps, st.objs⟩
  | none => st

def ev (C : Ctx) (st : St) : Operand → AV
  | .tmp t => (lk t st.tmps).getD .undef
  | .const v => .v v
  | .func f => .fn f []
  | .global i => match C.G i with
    | some cs => .ep .no 0 cs 0
    | none => .undef

/-- what the activation found: the world and the ghost at its start, the boxes and rows that came in -/
structure A0 where
  w : World
  g : Gh
  ext : List Nat

def A0.fixed (A : A0) (b : Nat) : Prop := A.g.own b = .ro ∨ A.g.own b = .other

structure Fr (C : Ctx) (A : A0) (g : Gh) (w : World) : Prop where
  os : w.os = A.w.os
  tape : w.tape = A.w.tape
  output : w.output = A.w.output
  size : A.w.heap.size ≤ w.heap.size
  keep : ∀ b, b < A.w.heap.size → A.fixed b → w.heap[b]? = A.w.heap[b]? ∧ g.own b = A.g.own b
  box : ∀ s, s ∈ A.ext → g.box s = A.g.box s
  glob : ∀ i cs, C.G i = some cs → 0 < cs.length ∧ isRo g i ∧ PRc (isRo g) w cs ⟨i, 0, none⟩ 0

def ObjAt (g : Gh) (w : World) (s : Nat) (cs : List AV) : Prop :=
  g.own (g.box s) = .box s ∧ ∃ cur T, w.heap[g.box s]? = some (.cells cur T (0, 0)) ∧ VRs g w cs cur.toList

structure R (C : Ctx) (A : A0) (N : Nat) (g : Gh) (st : St) (a : Act) (w : World) : Prop where
  size : a.tmps.size = N
  defs : a.defers = []
  tm : ∀ k x, lk k st.tmps = some x → ∃ u, a.tmps[k]? = some u ∧ VR g w x u
  ob : ∀ s cs, lk s st.objs = some cs → ObjAt g w s cs
  fr : Fr C A g w

theorem lk_killT (S T : List Nat) (k : Nat) : ∀ l : List (Nat × AV), lk k (killT S T l) = (lk k l).map (·.kill S T)
  | [] => rfl
  | (j, x) :: l => by
    simp only [killT, lk]
    split
    · rfl
    · exact lk_killT S T k l
theorem lk_killO (S T : List Nat) (k : Nat) : ∀ l : List (Nat × List AV), lk k (killO S T l) = if k ∈ T then none else (lk k l).map (killL S T)
  | [] => by simp [killO, lk]
  | (j, x) :: l => by
    simp only [killO]
    by_cases hj : j ∈ T
    · simp only [hj, if_true]
      rw [lk_killO S T k l]
      by_cases hk : k ∈ T
      · simp [hk]
      · have : j ≠ k := fun e => hk (e ▸ hj)
        simp [hk, lk, this]
    · simp only [hj, if_false, lk]
      by_cases hjk : j = k
      · subst hjk; simp [hj]
      · simp only [hjk, if_false]
        exact lk_killO S T k l

section
variable {C : Ctx} {A : A0} {N : Nat} {g g' : Gh} {st : St} {a : Act} {w w' : World}

theorem VRs.length : ∀ {cs : List AV} {us : List Value}, VRs g w cs us → cs.length = us.length
  | [], [], _ => rfl
  | [], _ :: _, h => by simp [VRs] at h
  | _ :: _, [], h => by simp [VRs] at h
  | c :: cs, u :: us, h => by
    simp only [VRs] at h
    simp [VRs.length h.2]

/-- the frame over a step -/
theorem Fr.step (h : Fr C A g w) {S T : List Nat} (hl : Lasts S T g w g' w') (hos : w'.os = w.os) (htape : w'.tape = w.tape) (hout : w'.output = w.output) (hsz : w.heap.size ≤ w'.heap.size)
    (hother : ∀ b, b < w.heap.size → g.own b = .other → g'.own b = .other ∧ w'.heap[b]? = w.heap[b]?) (hext : ∀ s, s ∈ A.ext → s ∉ T) : Fr C A g' w' where
  os := hos.trans h.os
  tape := htape.trans h.tape
  output := hout.trans h.output
  size := Nat.le_trans h.size hsz
  keep := fun b hb hf => by
    have hk := h.keep b hb hf
    have hlt : b < w.heap.size := Nat.lt_of_lt_of_le hb h.size
    rcases hf with hf | hf
    · have := hl.ro b hlt (hk.2.trans hf)
      exact ⟨this.2.trans hk.1, this.1.trans hf.symm⟩
    · have := hother b hlt (hk.2.trans hf)
      exact ⟨this.2.trans hk.1, this.1.trans hf.symm⟩
  box := fun s hs => (hl.boxes s (hext s hs)).trans (h.box s hs)
  glob := fun i cs hi => by
    obtain ⟨h1, h2, h3⟩ := h.glob i cs hi
    match cs, h1, h3 with
    | c :: cs, h1, h3 =>
      have h3' := h3
      simp only [PRc] at h3'
      obtain ⟨⟨u, hu, _⟩, _⟩ := h3'
      have hlt := lt_of_cell hu
      rw [add_block] at hlt
      exact ⟨h1, (hl.ro i hlt h2).1, PRc.mono hl.ro' _ ⟨i, 0, none⟩ 0 h2 h3⟩

theorem R.lasts (h : R C A N g st a w) {S T : List Nat} (hl : Lasts S T g w g' w') (hfr : Fr C A g' w')
    (hbox : ∀ s cs, lk s st.objs = some cs → s ∉ T → g'.own (g.box s) = .box s ∧ w'.heap[g.box s]? = w.heap[g.box s]?) : R C A N g' (st.kill S T) a w' where
  size := h.size
  defs := h.defs
  tm := fun k x hx => by
    simp only [St.kill, lk_killT] at hx
    obtain ⟨y, hy, rfl⟩ := Option.map_eq_some_iff.1 hx
    obtain ⟨u, hu, hv⟩ := h.tm k y hy
    exact ⟨u, hu, VR.lasts hl y u hv⟩
  ob := fun s cs hs => by
    simp only [St.kill, lk_killO] at hs
    by_cases hT : s ∈ T
    · simp [hT] at hs
    · simp only [hT, if_false] at hs
      obtain ⟨y, hy, rfl⟩ := Option.map_eq_some_iff.1 hs
      obtain ⟨h1, cur, T', h2, h3⟩ := h.ob s y hy
      obtain ⟨k1, k2⟩ := hbox s y hy hT
      rw [← hl.boxes s hT] at k1 k2 h2
      refine ⟨k1, cur, T', ?_, VRs.lasts hl _ _ h3⟩
      rw [k2]
      exact h2
  fr := hfr

theorem R.put (h : R C A N g st a w) {d : Option Nat} (hd : ∀ k, d = some k → k < N) {x : AV} {u : Value} (hx : VR g w x u) : R C A N g (st.put d x) (a.put d u) w := by
  cases d with
  | none => exact h
  | some k =>
    have hk := hd k rfl
    refine ⟨by simp [Act.put, h.size], by simp [Act.put, h.defs], fun j y hy => ?_, h.ob, h.fr⟩
    simp only [St.put, lk] at hy
    by_cases hjk : k = j
    · subst hjk
      simp only [if_true, Option.some.injEq] at hy
      subst hy
      refine ⟨u, ?_, hx⟩
      simp [Act.put, h.size, hk]
    · simp only [hjk, if_false] at hy
      obtain ⟨v, hv, hr⟩ := h.tm j y hy
      exact ⟨v, by simp [Act.put, Array.getElem?_setIfInBounds_ne hjk, hv], hr⟩

theorem R.ev (h : R C A N g st a w) (x : Operand) : VR g w (ev C st x) (a.eval x) := by
  cases x with
  | tmp t =>
    simp only [Abs.ev]
    cases ht : lk t st.tmps with
    | none => simp [VR]
    | some y =>
      obtain ⟨u, hu, hv⟩ := h.tm t y ht
      have : a.eval (.tmp t) = u := by simp [Act.eval, hu]
      rw [this]; exact hv
  | const v => simp [Abs.ev, VR, Act.eval]
  | func f => exact ⟨#[], rfl, by simp [VRs]⟩
  | global i =>
    simp only [Abs.ev]
    cases hi : C.G i with
    | none => simp [VR]
    | some cs =>
      obtain ⟨h1, h2, h3⟩ := h.fr.glob i cs hi
      exact ⟨⟨i, 0, none⟩, rfl, h1, h2, h3⟩
end

/-- what can lie in memory that is never written again; the rows that are let go for it -/
def pureA : AV → Option AV
  | .undef => some .undef
  | .v x => some (.v x)
  | .sl (.own r 0) n es => some (.sl .no n es)
  | .sl .no n es => some (.sl .no n es)
  | .sl .full n es => some (.sl .full n es)
  | _ => none
def pureL : List AV → Option (List AV)
  | [] => some []
  | c :: cs => match pureA c, pureL cs with
    | some x, some xs => some (x :: xs)
    | _, _ => none
def rowsOf : List AV → List Nat
  | [] => []
  | .sl (.own r 0) _ _ :: cs => r :: rowsOf cs
  | _ :: cs => rowsOf cs

/-- a deep row's handle, once the row is read-only -/
def frozen (k : HK) (m : Nat) (bss : List (List (List AV))) : AV := match k, bss with
  | .dsl, bss => .sl .no 1 (bss.map fun b => [.sl .no m b])
  | .isl, [b] => .sl .no m b
  | _, _ => .undef

mutual
/-- the rows S are read-only from now on -/
def AV.freeze (S : List Nat) : AV → AV
  | .undef => .undef
  | .v x => .v x
  | .agg cs => .agg (freezeL S cs)
  | .tup cs => .tup (freezeL S cs)
  | .sl (.own r lo) n es => if r ∈ S then .sl .no n es else .sl (.own r lo) n es
  | .sl .no n es => .sl .no n es
  | .sl .full n es => .sl .full n es
  | .ptr s off => .ptr s off
  | .ep (.own r lo) i cells off => if r ∈ S then .undef else .ep (.own r lo) i cells off
  | .ep .no i cells off => .ep .no i cells off
  | .ep .full i cells off => .ep .full i cells off
  | .fn f caps => .fn f (freezeL S caps)
  | .ifc t x => .ifc t (x.freeze S)
  | .hnd k r i j off m bss => if r ∈ S then frozen k m bss else .hnd k r i j off m bss
def freezeL (S : List Nat) : List AV → List AV
  | [] => []
  | c :: cs => c.freeze S :: freezeL S cs
end

def Gh.freeze (S : List Nat) (g : Gh) : Gh :=
  { g with own := fun b => match g.own b with
    | .row r => if r ∈ S then .ro else .row r
    | .inn r i => if r ∈ S then .ro else .inn r i
    | o => o }

section
variable {C : Ctx} {A : A0} {N : Nat} {g g' : Gh} {st : St} {a : Act} {w w' : World} {S : List Nat}

theorem freeze_ro (b : Nat) (h : g.own b = .ro) : (g.freeze S).own b = .ro := by simp [Gh.freeze, h]
theorem freeze_row (b r : Nat) (h : g.own b = .row r) (hr : r ∈ S) : (g.freeze S).own b = .ro := by simp [Gh.freeze, h, hr]
theorem freeze_row' (b r : Nat) (h : g.own b = .row r) (hr : r ∉ S) : (g.freeze S).own b = .row r := by simp [Gh.freeze, h, hr]
theorem freeze_box (b s : Nat) (h : g.own b = .box s) : (g.freeze S).own b = .box s := by simp [Gh.freeze, h]
theorem freeze_other (b : Nat) (h : g.own b = .other) : (g.freeze S).own b = .other := by simp [Gh.freeze, h]

theorem roFreeze : ∀ b, b < w.heap.size → isRo g b → isRo (g.freeze S) b ∧ w.heap[b]? = w.heap[b]? := fun b _ h => ⟨freeze_ro b h, rfl⟩

theorem freeze_inn (b r i : Nat) (h : g.own b = .inn r i) (hr : r ∈ S) : (g.freeze S).own b = .ro := by simp [Gh.freeze, h, hr]
theorem freeze_inn' (b r i : Nat) (h : g.own b = .inn r i) (hr : r ∉ S) : (g.freeze S).own b = .inn r i := by simp [Gh.freeze, h, hr]

theorem cell_of_cells {w : World} {b : Nat} {cur : Array Value} {T : TypeId} {fz : Nat × Nat} (h : w.heap[b]? = some (.cells cur T fz)) (q : Nat) : w.cell? ((⟨b, 0, none⟩ : Addr).add q) = cur[q]? := by
  rw [Addr.add_lit]; simp [World.cell?, h]

theorem PRe_inner {ro : Nat → Prop} {m : Nat} {ad : Addr} : ∀ (bss : List (List (List AV))) (k : Nat), (∀ q b, bss[q]? = some b → ∃ v, w.cell? (ad.add (k + q)) = some v ∧ PR ro w (.sl .no m b) v) → PRe ro w (bss.map fun b => [.sl .no m b]) ad 1 k
  | [], _, _ => by simp [PRe]
  | b :: bss, k, h => by
    simp only [List.map_cons, PRe, PRc, List.length_cons, List.length_nil, Nat.mul_one, Nat.zero_add, and_true, true_and]
    refine ⟨?_, PRe_inner bss (k + 1) fun q b' hq => ?_⟩
    · obtain ⟨v, h1, h2⟩ := h 0 b rfl
      exact ⟨v, by simpa using h1, h2⟩
    · have := h (q + 1) b' (by simpa using hq)
      rwa [show k + (q + 1) = k + 1 + q by omega] at this

theorem InnAt.pr (hro : ∀ b, b < w.heap.size → isRo g b → isRo g' b ∧ w.heap[b]? = w.heap[b]?) {r i m : Nat} (hm : 0 < m) (ho : g.own (g.inn r i) = .inn r i → g'.own (g.inn r i) = .ro) {b : List (List AV)} {u : Value} (h : InnAt g w r i m b u) : PR (isRo g') w (.sl .no m b) u := by
  simp only [PR]
  refine ⟨(fun _ _ h => by cases h), ?_⟩
  rcases h with ⟨rfl, a, cap, h1, h2⟩ | ⟨cap, cur, T, h1, h2, h3, h4, h5, h6, h7⟩
  · exact ⟨a, cap, h1, Nat.zero_le _, h2, (by intro h; cases h), hm, .inl rfl⟩
  · exact ⟨some ⟨g.inn r i, 0, none⟩, cap, h1, h2, h3, (by intro h; cases h), hm, .inr ⟨⟨g.inn r i, 0, none⟩, rfl, ho h4, PRe.mono_at hro b _ m 0 rfl h7⟩⟩

theorem HndAt.frozen (hro : ∀ b, b < w.heap.size → isRo g b → isRo g' b ∧ w.heap[b]? = w.heap[b]?) {k : HK} {r i j off m : Nat} {bss : List (List (List AV))} {u : Value} (hr : g.own (g.row r) = .row r → g'.own (g.row r) = .ro)
    (ho : ∀ i, g.own (g.inn r i) = .inn r i → g'.own (g.inn r i) = .ro) (h : HndAt g w k r i j off m bss u) : VR g' w (Abs.frozen k m bss) u := by
  obtain ⟨hm, h⟩ := h
  cases k with
  | dsl =>
    simp only [Abs.frozen, VR, PR]
    refine ⟨(fun _ _ h => by cases h), ?_⟩
    rcases h with ⟨h1, rfl⟩ | ⟨cap, cur, T, h1, h2, h3, h4, h5, h6, h7⟩
    · exact ⟨none, 0, by simpa using h1, by simp, by simp [maxLen], (by intro h; cases h), by omega, .inl rfl⟩
    · refine ⟨some ⟨g.row r, 0, none⟩, cap, by rw [List.length_map]; exact h1, by rw [List.length_map]; exact h2, h3, (by intro h; cases h), by omega, .inr ⟨⟨g.row r, 0, none⟩, rfl, hr h4, PRe_inner bss 0 fun q b hq => ?_⟩⟩
      obtain ⟨v, hv, hi⟩ := h7 q b hq
      exact ⟨v, by rw [Nat.zero_add, cell_of_cells h5]; exact hv, hi.pr hro hm (ho q)⟩
  | dp => simp only [Abs.frozen, VR]
  | isl =>
    obtain ⟨b, rfl, hi⟩ := h
    simp only [Abs.frozen, VR]
    exact hi.pr hro hm (ho i)
  | iep => simp only [Abs.frozen, VR]

mutual
theorem VR.freeze : ∀ (x : AV) (u : Value), VR g w x u → VR (g.freeze S) w (x.freeze S) u
  | .undef, _, _ => by simp [AV.freeze, VR]
  | .v x, u, hu => by simpa [AV.freeze, VR] using hu
  | .agg cs, u, hu => by
    simp only [AV.freeze, VR] at hu ⊢
    obtain ⟨us, h1, h2⟩ := hu
    exact ⟨us, h1, VRs.freeze cs us.toList h2⟩
  | .tup cs, u, hu => by
    simp only [AV.freeze, VR] at hu ⊢
    obtain ⟨us, h1, h2⟩ := hu
    exact ⟨us, h1, VRs.freeze cs us.toList h2⟩
  | .sl (.own r lo) n es, u, hu => by
    simp only [AV.freeze]
    split
    · rename_i hr
      simp only [VR, OwnSl, PR] at hu ⊢
      refine ⟨(fun _ _ h => by cases h), ?_⟩
      rcases hu.2 with ⟨h1, h2⟩ | ⟨_, h2, a', cap, h3, h4⟩ | ⟨cap, cur, T', h1, h2, h3, h5, h6, h7, h8⟩
      · subst h2; exact ⟨_, 0, h1, by simp, by simp [maxLen], (by intro h; cases h), hu.1, .inl rfl⟩
      · subst h2; exact ⟨_, cap, h3, by simp, h4, (by intro h; cases h), hu.1, .inl rfl⟩
      · refine ⟨_, cap, h1, h2, by omega, (by intro h; cases h), hu.1, .inr ⟨_, rfl, freeze_row _ r h5 hr, ?_⟩⟩
        exact PRe.mono_at roFreeze es _ n 0 rfl h8
    · rename_i hr
      simp only [VR, OwnSl] at hu ⊢
      refine ⟨hu.1, ?_⟩
      rcases hu.2 with hu | hu | ⟨cap, cur, T', h1, h2, h3, h5, h6, h7, h8⟩
      · exact .inl hu
      · exact .inr (.inl hu)
      · exact .inr (.inr ⟨cap, cur, T', h1, h2, h3, freeze_row' _ r h5 hr, h6, h7, PRe.mono_at roFreeze es _ n 0 rfl h8⟩)
  | .sl .no n es, u, hu => by
    simp only [AV.freeze, VR] at hu ⊢
    exact PR.mono roFreeze _ u hu
  | .sl .full n es, u, hu => by
    simp only [AV.freeze, VR] at hu ⊢
    exact PR.mono roFreeze _ u hu
  | .ptr s off, u, hu => by simpa [AV.freeze, VR, Gh.freeze] using hu
  | .ep (.own r lo) i cells off, u, hu => by
    simp only [AV.freeze]
    split
    · simp [VR]
    · rename_i hr
      simp only [VR, EpAt] at hu ⊢
      obtain ⟨cur, T', h1, h2, h3, h4, h5⟩ := hu
      exact ⟨cur, T', h1, freeze_row' _ r h2 hr, h3, h4, PRc.mono_at roFreeze cells _ 0 rfl h5⟩
  | .ep .no i cells off, u, hu => by
    simp only [AV.freeze, VR, EpAt] at hu ⊢
    obtain ⟨ad, h1, h0, h2, h3⟩ := hu
    exact ⟨ad, h1, h0, freeze_ro _ h2, PRc.mono roFreeze _ ad 0 h2 h3⟩
  | .ep .full i cells off, u, hu => by
    simp only [AV.freeze, VR, EpAt] at hu ⊢
    obtain ⟨ad, h1, h0, h2, h3⟩ := hu
    exact ⟨ad, h1, h0, freeze_ro _ h2, PRc.mono roFreeze _ ad 0 h2 h3⟩
  | .fn f caps, u, hu => by
    simp only [AV.freeze, VR] at hu ⊢
    obtain ⟨us, h1, h2⟩ := hu
    exact ⟨us, h1, VRs.freeze caps us.toList h2⟩
  | .ifc t x, u, hu => by
    simp only [AV.freeze, VR] at hu ⊢
    obtain ⟨y, h1, h2⟩ := hu
    exact ⟨y, h1, VR.freeze x y h2⟩
  | .hnd k r i j off m bss, u, hu => by
    simp only [AV.freeze]
    split
    · rename_i hr
      simp only [VR] at hu
      exact hu.frozen roFreeze (fun h => freeze_row _ r h hr) (fun i h => freeze_inn _ r i h hr)
    · rename_i hr
      simp only [VR] at hu ⊢
      exact hu.map ⟨roFreeze, rfl, fun _ => rfl, fun _ h => ⟨freeze_row' _ r h hr, rfl⟩, fun i _ h => ⟨freeze_inn' _ r i h hr, rfl⟩⟩
theorem VRs.freeze : ∀ (cs : List AV) (us : List Value), VRs g w cs us → VRs (g.freeze S) w (freezeL S cs) us
  | [], [], _ => by simp [freezeL, VRs]
  | [], _ :: _, hu => by simp [VRs] at hu
  | _ :: _, [], hu => by simp [VRs] at hu
  | c :: cs, u :: us, hu => by
    simp only [freezeL, VRs] at hu ⊢
    exact ⟨VR.freeze c u hu.1, VRs.freeze cs us hu.2⟩
end
end
end Go.Abs
