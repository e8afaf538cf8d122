/- Knowledge that lasts while memory grows; renaming of boxes and rows. -/
import Derived.Test.YtfnniffkgoimeaaA13
set_option linter.all false
namespace Go.Abs

/-- what a step may do: forget the rows S, place the boxes T anew, write the boxes U -/
structure Grow (S T U : List Nat) (g : Gh) (w : World) (g' : Gh) (w' : World) : Prop extends Lasts S T g w g' w' where
  os : w'.os = w.os
  tape : w'.tape = w.tape
  output : w'.output = w.output
  size : w.heap.size ≤ w'.heap.size
  other : ∀ b, b < w.heap.size → g.own b = .other → g'.own b = .other ∧ w'.heap[b]? = w.heap[b]?
  kept : ∀ s, s ∉ U → s ∉ T → g.own (g.box s) = .box s → g.box s < w.heap.size → g'.own (g.box s) = .box s ∧ w'.heap[g.box s]? = w.heap[g.box s]?

def dropO (U : List Nat) : List (Nat × List AV) → List (Nat × List AV)
  | [] => []
  | (k, x) :: l => if k ∈ U then dropO U l else (k, x) :: dropO U l

theorem lk_dropO (U : List Nat) (k : Nat) : ∀ l : List (Nat × List AV), lk k (dropO U l) = if k ∈ U then none else lk k l
  | [] => by simp [dropO, lk]
  | (j, x) :: l => by
    simp only [dropO]
    split
    · rename_i hj
      rw [lk_dropO U k l]
      simp only [lk]
      by_cases hjk : j = k
      · subst hjk; simp [hj]
      · simp [hjk]
    · rename_i hj
      simp only [lk]
      by_cases hjk : j = k
      · subst hjk; simp [hj]
      · simp only [hjk, if_false]; exact lk_dropO U k l

section
variable {C : Ctx} {A : A0} {N : Nat} {g g' : Gh} {st st' : St} {a : Act} {w w' : World}

/-- st' knows no more than st -/
def Le (st' st : St) : Prop := (∀ k x, lk k st'.tmps = some x → x = .undef ∨ lk k st.tmps = some x) ∧ (∀ s cs, lk s st'.objs = some cs → lk s st.objs = some cs)

theorem R.at_undef (h : R C A N g st a w) {k : Nat} (hk : k < N) : ∃ u, a.tmps[k]? = some u :=
  ⟨_, Array.getElem?_eq_getElem (by rw [h.size]; exact hk)⟩

theorem R.le (h : R C A N g st a w) (hle : Le st' st) (hb : ∀ k x, lk k st'.tmps = some x → k < N) : R C A N g st' a w where
  size := h.size
  defs := h.defs
  tm := fun k x hx => by
    rcases hle.1 k x hx with rfl | h'
    · obtain ⟨u, hu⟩ := h.at_undef (hb k _ hx)
      exact ⟨u, hu, by simp [VR]⟩
    · exact h.tm k x h'
  ob := fun s cs hs => h.ob s cs (hle.2 s cs hs)
  fr := h.fr

theorem R.grow (h : R C A N g st a w) {S T U : List Nat} (hg : Grow S T U g w g' w') (hext : ∀ s, s ∈ A.ext → s ∉ T) : R C A N g' (St.kill S T ⟨st.tmps, dropO U st.objs⟩) a w' := by
  have h1 : R C A N g ⟨st.tmps, dropO U st.objs⟩ a w := ⟨h.size, h.defs, h.tm, fun s cs hs => by
    rw [lk_dropO] at hs
    split at hs
    · cases hs
    · exact h.ob s cs hs, h.fr⟩
  refine h1.lasts hg.toLasts (h.fr.step hg.toLasts hg.os hg.tape hg.output hg.size hg.other hext) fun s cs hs hT => ?_
  simp only [lk_dropO] at hs
  split at hs
  · cases hs
  · rename_i hU
    have ho := h.ob s cs hs
    exact hg.kept s hU hT ho.1 ho.lt

end

abbrev Ren := List (Nat × Nat)
def inv (l : Ren) : Ren := l.map fun p => (p.2, p.1)
def okRen (l : Ren) : Bool := l.all fun p => lk p.1 l == some p.2 && lk p.2 (inv l) == some p.1

theorem lk_mem {α : Type} {k : Nat} {x : α} : ∀ {l : List (Nat × α)}, lk k l = some x → (k, x) ∈ l
  | (j, y) :: l, h => by
    simp only [lk] at h
    split at h
    · rename_i hj; injection h with h; subst h; subst hj; simp
    · exact List.mem_cons_of_mem _ (lk_mem h)

theorem okRen.fwd {l : Ren} (h : okRen l = true) {r r' : Nat} (hr : lk r l = some r') : lk r' (inv l) = some r := by
  have := List.all_eq_true.1 h _ (lk_mem hr)
  simp at this
  exact this.2
theorem okRen.bwd {l : Ren} (h : okRen l = true) {r r' : Nat} (hr : lk r' (inv l) = some r) : lk r l = some r' := by
  have hm := lk_mem hr
  simp only [inv, List.mem_map, Prod.mk.injEq, Prod.exists] at hm
  obtain ⟨a, b, hab, rfl, rfl⟩ := hm
  have := List.all_eq_true.1 h _ hab
  simp at this
  exact this.1

/-- the renaming of rows, that of boxes, the rows that are lent -/
structure Rn where
  l : Ren
  m : Ren
  bs : List Nat

mutual
def AV.ren (ρ : Rn) : AV → AV
  | .undef => .undef
  | .v x => .v x
  | .agg cs => .agg (renL ρ cs)
  | .tup cs => .tup (renL ρ cs)
  | .sl (.own r lo) n es => match lk r ρ.l with
    | some r' => .sl (.own r' lo) n es
    | none => if r ∈ ρ.bs then .sl .no n es else .undef
  | .sl .no n es => .sl .no n es
  | .sl .full n es => .sl .full n es
  | .ptr s off => match lk s ρ.m with
    | some s' => .ptr s' off
    | none => .undef
  | .ep (.own r lo) i cells off => match lk r ρ.l with
    | some r' => .ep (.own r' lo) i cells off
    | none => .undef
  | .ep .no i cells off => .ep .no i cells off
  | .ep .full i cells off => .ep .full i cells off
  | .fn f caps => .fn f (renL ρ caps)
  | .ifc t x => .ifc t (x.ren ρ)
  | .hnd k r i j off m bss => match lk r ρ.l with
    | some r' => .hnd k r' i j off m bss
    | none => if r ∈ ρ.bs then frozen k m bss else .undef
def renL (ρ : Rn) : List AV → List AV
  | [] => []
  | c :: cs => c.ren ρ :: renL ρ cs
end

def Gh.ren (ρ : Rn) (g base : Gh) : Gh where
  own b := match g.own b with
    | .ro => .ro
    | .other => .other
    | .row r => match lk r ρ.l with
      | some r' => .row r'
      | none => if r ∈ ρ.bs then .ro else .other
    | .box s => match lk s ρ.m with
      | some s' => .box s'
      | none => .other
    | .inn r i => match lk r ρ.l with
      | some r' => .inn r' i
      | none => if r ∈ ρ.bs then .ro else .other
  row r' := match lk r' (inv ρ.l) with
    | some r => g.row r
    | none => base.row r'
  box s' := match lk s' (inv ρ.m) with
    | some s => g.box s
    | none => base.box s'
  inn r' i := match lk r' (inv ρ.l) with
    | some r => g.inn r i
    | none => base.inn r' i

structure Rn.OK (ρ : Rn) : Prop where
  l : okRen ρ.l = true
  m : okRen ρ.m = true

section
variable {ρ : Rn} {base g g' : Gh} {w : World}

theorem ren_ro {b : Nat} (h : g.own b = .ro) : (Gh.ren ρ g base).own b = .ro := by simp [Gh.ren, h]
theorem ren_other {b : Nat} (h : g.own b = .other) : (Gh.ren ρ g base).own b = .other := by simp [Gh.ren, h]
theorem ren_row {b r r' : Nat} (h : g.own b = .row r) (hr : lk r ρ.l = some r') : (Gh.ren ρ g base).own b = .row r' := by simp [Gh.ren, h, hr]
theorem ren_box {b s s' : Nat} (h : g.own b = .box s) (hr : lk s ρ.m = some s') : (Gh.ren ρ g base).own b = .box s' := by simp [Gh.ren, h, hr]
theorem ren_lent {b r : Nat} (h : g.own b = .row r) (hr : lk r ρ.l = none) (hb : r ∈ ρ.bs) : (Gh.ren ρ g base).own b = .ro := by simp [Gh.ren, h, hr, hb]
theorem renRow (ho : ρ.OK) {r r' : Nat} (hr : lk r ρ.l = some r') : (Gh.ren ρ g base).row r' = g.row r := by simp [Gh.ren, okRen.fwd ho.l hr]
theorem renBox (ho : ρ.OK) {s s' : Nat} (hr : lk s ρ.m = some s') : (Gh.ren ρ g base).box s' = g.box s := by simp [Gh.ren, okRen.fwd ho.m hr]

theorem ren_inn {b r r' i : Nat} (h : g.own b = .inn r i) (hr : lk r ρ.l = some r') : (Gh.ren ρ g base).own b = .inn r' i := by simp [Gh.ren, h, hr]
theorem ren_lentI {b r i : Nat} (h : g.own b = .inn r i) (hr : lk r ρ.l = none) (hb : r ∈ ρ.bs) : (Gh.ren ρ g base).own b = .ro := by simp [Gh.ren, h, hr, hb]
theorem renInn (ho : ρ.OK) {r r' : Nat} (hr : lk r ρ.l = some r') (i : Nat) : (Gh.ren ρ g base).inn r' i = g.inn r i := by simp [Gh.ren, okRen.fwd ho.l hr]

theorem roRen : ∀ b, b < w.heap.size → isRo g b → isRo (Gh.ren ρ g base) b ∧ w.heap[b]? = w.heap[b]? := fun b _ h => ⟨ren_ro h, rfl⟩

mutual
theorem VR.ren (ho : ρ.OK) : ∀ (x : AV) (u : Value), VR g w x u → VR (Gh.ren ρ g base) w (x.ren ρ) u
  | .undef, _, _ => by simp [AV.ren, VR]
  | .v x, u, hu => by simpa [AV.ren, VR] using hu
  | .agg cs, u, hu => by
    simp only [AV.ren, VR] at hu ⊢
    obtain ⟨us, h1, h2⟩ := hu
    exact ⟨us, h1, VRs.ren ho cs us.toList h2⟩
  | .tup cs, u, hu => by
    simp only [AV.ren, VR] at hu ⊢
    obtain ⟨us, h1, h2⟩ := hu
    exact ⟨us, h1, VRs.ren ho cs us.toList h2⟩
  | .sl (.own r lo) n es, u, hu => by
    simp only [AV.ren]
    split
    · rename_i r' hr
      simp only [VR, OwnSl] at hu ⊢
      refine ⟨hu.1, ?_⟩
      rcases hu.2 with hu | hu | ⟨cap, cur, T', h1, h2, h3, h5, h6, h7, h8⟩
      · exact .inl hu
      · exact .inr (.inl hu)
      · rw [renRow ho hr]
        exact .inr (.inr ⟨cap, cur, T', h1, h2, h3, ren_row h5 hr, h6, h7, PRe.mono_at roRen es _ n 0 rfl h8⟩)
    · rename_i hr
      split
      · rename_i hb
        simp only [VR, OwnSl, PR] at hu ⊢
        refine ⟨(fun _ _ h => by cases h), ?_⟩
        rcases hu.2 with ⟨h1, h2⟩ | ⟨_, h2, a', cap, h3, h4⟩ | ⟨cap, cur, T', h1, h2, h3, h5, h6, h7, h8⟩
        · subst h2; exact ⟨_, 0, h1, by simp, by simp [maxLen], (by intro h; cases h), hu.1, .inl rfl⟩
        · subst h2; exact ⟨_, cap, h3, by simp, h4, (by intro h; cases h), hu.1, .inl rfl⟩
        · exact ⟨_, cap, h1, h2, by omega, (by intro h; cases h), hu.1, .inr ⟨_, rfl, ren_lent h5 hr hb, PRe.mono_at roRen es _ n 0 rfl h8⟩⟩
      · simp [VR]
  | .sl .no n es, u, hu => by
    simp only [AV.ren, VR] at hu ⊢
    exact PR.mono roRen _ u hu
  | .sl .full n es, u, hu => by
    simp only [AV.ren, VR] at hu ⊢
    exact PR.mono roRen _ u hu
  | .ptr s off, u, hu => by
    simp only [AV.ren]
    split
    · rename_i s' hs
      simp only [VR] at hu ⊢
      rw [renBox ho hs]; exact hu
    · simp [VR]
  | .ep (.own r lo) i cells off, u, hu => by
    simp only [AV.ren]
    split
    · rename_i r' hr
      simp only [VR, EpAt] at hu ⊢
      obtain ⟨cur, T', h1, h2, h3, h4, h5⟩ := hu
      rw [renRow ho hr]
      exact ⟨cur, T', h1, ren_row h2 hr, h3, h4, PRc.mono_at roRen cells _ 0 rfl h5⟩
    · simp [VR]
  | .ep .no i cells off, u, hu => by
    simp only [AV.ren, VR, EpAt] at hu ⊢
    obtain ⟨ad, h1, h0, h2, h3⟩ := hu
    exact ⟨ad, h1, h0, ren_ro h2, PRc.mono roRen _ ad 0 h2 h3⟩
  | .ep .full i cells off, u, hu => by
    simp only [AV.ren, VR, EpAt] at hu ⊢
    obtain ⟨ad, h1, h0, h2, h3⟩ := hu
    exact ⟨ad, h1, h0, ren_ro h2, PRc.mono roRen _ ad 0 h2 h3⟩
  | .fn f caps, u, hu => by
    simp only [AV.ren, VR] at hu ⊢
    obtain ⟨us, h1, h2⟩ := hu
    exact ⟨us, h1, VRs.ren ho caps us.toList h2⟩
  | .ifc t x, u, hu => by
    simp only [AV.ren, VR] at hu ⊢
    obtain ⟨y, h1, h2⟩ := hu
    exact ⟨y, h1, VR.ren ho x y h2⟩
  | .hnd k r i j off m bss, u, hu => by
    simp only [AV.ren]
    split
    · rename_i r' hr
      simp only [VR] at hu ⊢
      exact hu.map ⟨roRen, renRow ho hr, renInn ho hr, fun _ h => ⟨ren_row h hr, rfl⟩, fun i _ h => ⟨ren_inn h hr, rfl⟩⟩
    · rename_i hr
      split
      · rename_i hb
        simp only [VR] at hu
        exact hu.frozen roRen (fun h => ren_lent h hr hb) (fun i h => ren_lentI h hr hb)
      · simp [VR]
theorem VRs.ren (ho : ρ.OK) : ∀ (cs : List AV) (us : List Value), VRs g w cs us → VRs (Gh.ren ρ g base) w (renL ρ cs) us
  | [], [], _ => by simp [renL, VRs]
  | [], _ :: _, hu => by simp [VRs] at hu
  | _ :: _, [], hu => by simp [VRs] at hu
  | c :: cs, u :: us, hu => by
    simp only [renL, VRs] at hu ⊢
    exact ⟨VR.ren ho c u hu.1, VRs.ren ho cs us hu.2⟩
end

theorem ObjAt.ren (ho : ρ.OK) {s s' : Nat} {cs : List AV} (hs : lk s ρ.m = some s') (h : ObjAt g w s cs) : ObjAt (Gh.ren ρ g base) w s' (renL ρ cs) := by
  obtain ⟨h1, cur, T, h2, h3⟩ := h
  refine ⟨?_, cur, T, ?_, VRs.ren ho _ _ h3⟩
  · rw [renBox ho hs]; exact ren_box h1 hs
  · rw [renBox ho hs]; exact h2
end

/-- no memory that may be lent is seen through it -/
def Flat1 (c : AV) : Prop := (∃ x, c = .v x) ∨ c = .undef
mutual
def Flat : AV → Prop
  | .undef => True
  | .v _ => True
  | .agg cs => FlatL cs
  | .tup cs => FlatL cs
  | .sl (.own _ _) _ es => ∀ e ∈ es, ∀ c ∈ e, Flat1 c
  | .sl _ _ es => es = []
  | .ptr _ _ => True
  | .ep _ _ _ _ => False
  | .fn _ cs => FlatL cs
  | .ifc _ x => Flat x
  | .hnd _ _ _ _ _ _ _ => False
def FlatL : List AV → Prop
  | [] => True
  | c :: cs => Flat c ∧ FlatL cs
end

section
variable {g g' : Gh} {w : World} {ro ro' : Nat → Prop}
theorem PRc.flat : ∀ (cs : List AV) (ad : Addr) (j : Nat), (∀ c ∈ cs, Flat1 c) → PRc ro w cs ad j → PRc ro' w cs ad j
  | [], _, _, _, _ => by simp [PRc]
  | c :: cs, ad, j, hf, h => by
    simp only [PRc] at h ⊢
    obtain ⟨⟨u, h1, h2⟩, h3⟩ := h
    refine ⟨⟨u, h1, ?_⟩, PRc.flat cs ad _ (fun c' hc => hf c' (by simp [hc])) h3⟩
    rcases hf c (by simp) with ⟨x, rfl⟩ | rfl <;> simpa [PR] using h2
theorem PRe.flat : ∀ (es : List (List AV)) (ad : Addr) (n i : Nat), (∀ e ∈ es, ∀ c ∈ e, Flat1 c) → PRe ro w es ad n i → PRe ro' w es ad n i
  | [], _, _, _, _, _ => by simp [PRe]
  | e :: es, ad, n, i, hf, h => by
    simp only [PRe] at h ⊢
    exact ⟨h.1, PRc.flat e ad _ (hf e (by simp)) h.2.1, PRe.flat es ad n _ (fun e' he => hf e' (by simp [he])) h.2.2⟩

structure Names (g g' : Gh) : Prop where
  row : ∀ b q, g.own b = .row q → g'.own b = .row q
  box : ∀ b s, g.own b = .box s → g'.own b = .box s
  rows : ∀ q, g'.row q = g.row q
  boxes : ∀ s, g'.box s = g.box s

mutual
theorem VR.flat (hn : Names g g') : ∀ (x : AV) (u : Value), Flat x → VR g w x u → VR g' w x u
  | .undef, _, _, _ => by simp [VR]
  | .v x, u, _, hu => by simpa [VR] using hu
  | .agg cs, u, hf, hu => by
    simp only [Flat, VR] at hf hu ⊢
    obtain ⟨us, h1, h2⟩ := hu
    exact ⟨us, h1, VRs.flat hn cs us.toList hf h2⟩
  | .tup cs, u, hf, hu => by
    simp only [Flat, VR] at hf hu ⊢
    obtain ⟨us, h1, h2⟩ := hu
    exact ⟨us, h1, VRs.flat hn cs us.toList hf h2⟩
  | .sl (.own r lo) n es, u, hf, hu => by
    simp only [Flat, VR, OwnSl] at hf hu ⊢
    refine ⟨hu.1, ?_⟩
    rcases hu.2 with hu | hu | ⟨cap, cur, T', h1, h2, h3, h5, h6, h7, h8⟩
    · exact .inl hu
    · exact .inr (.inl hu)
    · rw [hn.rows r]
      exact .inr (.inr ⟨cap, cur, T', h1, h2, h3, hn.row _ _ h5, h6, h7, PRe.flat es _ n 0 hf h8⟩)
  | .sl .no n es, u, hf, hu => by
    simp only [Flat, VR, PR] at hf hu ⊢
    subst hf
    obtain ⟨h1, a, cap, h2, h3, h4, h5, h6, _⟩ := hu
    exact ⟨h1, a, cap, h2, h3, h4, h5, h6, .inl rfl⟩
  | .sl .full n es, u, hf, hu => by
    simp only [Flat, VR, PR] at hf hu ⊢
    subst hf
    obtain ⟨h1, a, cap, h2, h3, h4, h5, h6, _⟩ := hu
    exact ⟨h1, a, cap, h2, h3, h4, h5, h6, .inl rfl⟩
  | .ptr s off, u, _, hu => by
    simp only [VR] at hu ⊢
    rw [hn.boxes s]; exact hu
  | .ep t i cells off, u, hf, _ => by simp [Flat] at hf
  | .fn f caps, u, hf, hu => by
    simp only [Flat, VR] at hf hu ⊢
    obtain ⟨us, h1, h2⟩ := hu
    exact ⟨us, h1, VRs.flat hn caps us.toList hf h2⟩
  | .ifc t x, u, hf, hu => by
    simp only [Flat, VR] at hf hu ⊢
    obtain ⟨y, h1, h2⟩ := hu
    exact ⟨y, h1, VR.flat hn x y hf h2⟩
  | .hnd k r i j off m bss, u, hf, _ => by simp [Flat] at hf
theorem VRs.flat (hn : Names g g') : ∀ (cs : List AV) (us : List Value), FlatL cs → VRs g w cs us → VRs g' w cs us
  | [], [], _, _ => by simp [VRs]
  | [], _ :: _, _, hu => by simp [VRs] at hu
  | _ :: _, [], _, hu => by simp [VRs] at hu
  | c :: cs, u :: us, hf, hu => by
    simp only [FlatL, VRs] at hf hu ⊢
    exact ⟨VR.flat hn c u hf.1 hu.1, VRs.flat hn cs us hf.2 hu.2⟩
end
end
end Go.Abs
