/- What a function does, and what a call of it does. -/
import Derived.Test.YtfnniffkgoimeaaA14
set_option linter.all false
namespace Go.Abs

def names {α : Type} (o : List (Nat × α)) : List Nat := o.map (·.1)

def Glob (C : Ctx) (g : Gh) (w : World) : Prop := ∀ i cs, C.G i = some cs → 0 < cs.length ∧ isRo g i ∧ PRc (isRo g) w cs ⟨i, 0, none⟩ 0

/-- 'f', given arguments 'xs' and boxes 'o', hands back 'y' and boxes 'o'' -/
def FnOK (C : Ctx) (f : Nat) (xs : List AV) (o : List (Nat × List AV)) (y : AV) (o' : List (Nat × List AV)) : Prop :=
  (∃ fn c, C.P.funcs[f]? = some fn ∧ (fn.name == "runtime.NumGoroutine") = false ∧ fn.body = some c) ∧
  ∀ g w us, Glob C g w → VRs g w xs us → (∀ s cs, lk s o = some cs → ObjAt g w s cs) →
    Calls C.P f us.toArray w fun e w' => ∃ u g', e = .returned u ∧ Fr C ⟨w, g, names o⟩ g' w' ∧ VR g' w' y u ∧ ∀ s cs, lk s o' = some cs → ObjAt g' w' s cs

def rngs (l : Ren) : List Nat := l.map (·.2)

theorem lk_none {α : Type} {k : Nat} : ∀ {l : List (Nat × α)}, k ∉ names l → lk k l = none
  | [], _ => rfl
  | (j, x) :: l, h => by
    simp only [names, List.map_cons, List.mem_cons, not_or] at h
    simp only [lk, Ne.symm h.1, if_false]
    exact lk_none h.2
theorem lk_some_names {α : Type} {k : Nat} {x : α} {l : List (Nat × α)} (h : lk k l = some x) : k ∈ names l := by
  have := lk_mem h
  simp only [names, List.mem_map]
  exact ⟨_, this, rfl⟩
theorem names_inv (l : Ren) : names (inv l) = rngs l := by simp [names, inv, rngs, List.map_map, Function.comp_def]
theorem names_lk {α : Type} {k : Nat} : ∀ {l : List (Nat × α)}, k ∈ names l → ∃ x, lk k l = some x
  | (j, x) :: l, h => by
    simp only [lk]
    split
    · exact ⟨_, rfl⟩
    · rename_i hj
      simp only [names, List.map_cons, List.mem_cons] at h
      rcases h with h | h
      · exact (hj h.symm).elim
      · exact names_lk h

def renO (ρ : Rn) (o : List (Nat × List AV)) : List (Nat × List AV) :=
  o.filterMap fun p => (lk p.1 ρ.m).map fun s => (s, renL ρ p.2)

theorem lk_renO {ρ : Rn} (ho : ρ.OK) {s' : Nat} {cs : List AV} : ∀ {o : List (Nat × List AV)}, lk s' (renO ρ o) = some cs → ∃ s cs0, lk s ρ.m = some s' ∧ lk s o = some cs0 ∧ cs = renL ρ cs0
  | [], h => by simp [renO, lk] at h
  | (k, c) :: o, h => by
    simp only [renO, List.filterMap_cons] at h
    cases hk : lk k ρ.m with
    | none =>
      simp only [hk, Option.map_none] at h
      obtain ⟨s, cs0, h1, h2, h3⟩ := lk_renO ho (o := o) h
      refine ⟨s, cs0, h1, ?_, h3⟩
      have : k ≠ s := fun e => by subst e; rw [hk] at h1; cases h1
      simp [lk, this, h2]
    | some k' =>
      simp only [hk, Option.map_some, lk] at h
      split at h
      · rename_i he
        injection h with h
        exact ⟨k, c, by rw [hk, he], by simp [lk], h.symm⟩
      · rename_i he
        obtain ⟨s, cs0, h1, h2, h3⟩ := lk_renO ho (o := o) h
        refine ⟨s, cs0, h1, ?_, h3⟩
        have : k ≠ s := fun e => by subst e; rw [hk] at h1; injection h1 with h1; exact he h1
        simp [lk, this, h2]

/-- what a call knows: the renaming on the way in, the fresh rows and boxes on the way out (callee's name, caller's name) -/
structure Way where
  ρ : Rn
  fl : Ren
  fm : Ren

def Way.back (v : Way) : Rn := ⟨inv v.ρ.l ++ v.fl, inv v.ρ.m ++ v.fm, []⟩

structure Way.OK (v : Way) (o : List (Nat × List AV)) : Prop where
  into : v.ρ.OK
  back : v.back.OK
  ext : ∀ s', s' ∈ rngs v.ρ.m → s' ∈ names o

section
variable {C : Ctx} {A : A0} {N : Nat} {g g1 : Gh} {st : St} {a : Act} {w w1 : World} {v : Way} {o o' : List (Nat × List AV)} {xs : List AV} {y : AV}

theorem inv_inv (l : Ren) : inv (inv l) = l := by simp [inv, List.map_map, Function.comp_def]
theorem lk_append {α : Type} {k : Nat} {m : List (Nat × α)} : ∀ {l : List (Nat × α)}, lk k (l ++ m) = (lk k l).or (lk k m)
  | [] => by simp [lk]
  | (j, x) :: l => by
    simp only [List.cons_append, lk]
    split
    · simp
    · exact lk_append

/-- the caller's ghost after the call -/
def after (v : Way) (g : Gh) (w : World) (g1 : Gh) : Gh where
  own b := if b < w.heap.size then match g.own b with
      | .ro => .ro
      | .other => .other
      | .row r => if (lk r v.ρ.l).isSome then (g1.ren v.back g).own b else .row r
      | .box s => if (lk s v.ρ.m).isSome then (g1.ren v.back g).own b else .box s
      | .inn r i => if (lk r v.ρ.l).isSome then (g1.ren v.back g).own b else .inn r i
    else (g1.ren v.back g).own b
  row := (g1.ren v.back g).row
  box := (g1.ren v.back g).box
  inn := (g1.ren v.back g).inn

/-- callee's ghost at the start -/
def entry (v : Way) (g : Gh) : Gh := g.ren v.ρ g

theorem back_l {v : Way} {r r' : Nat} (h : lk r v.ρ.l = some r') (ho : v.ρ.OK) : lk r' v.back.l = some r := by
  simp [Way.back, lk_append, okRen.fwd ho.l h]
theorem back_m {v : Way} {r r' : Nat} (h : lk r v.ρ.m = some r') (ho : v.ρ.OK) : lk r' v.back.m = some r := by
  simp [Way.back, lk_append, okRen.fwd ho.m h]

/-- what was fixed for the callee keeps its owner -/
theorem fixed_of (hfr : Fr C ⟨w, entry v g, names o⟩ g1 w1) {b : Nat} (hb : b < w.heap.size) :
    (g.own b = .ro → w1.heap[b]? = w.heap[b]? ∧ g1.own b = .ro) ∧ (g.own b = .other → w1.heap[b]? = w.heap[b]? ∧ g1.own b = .other) ∧
    (∀ r, g.own b = .row r → lk r v.ρ.l = none → w1.heap[b]? = w.heap[b]? ∧ g1.own b = (if r ∈ v.ρ.bs then .ro else .other)) ∧
    (∀ s, g.own b = .box s → lk s v.ρ.m = none → w1.heap[b]? = w.heap[b]? ∧ g1.own b = .other) ∧
    (∀ r i, g.own b = .inn r i → lk r v.ρ.l = none → w1.heap[b]? = w.heap[b]? ∧ g1.own b = (if r ∈ v.ρ.bs then .ro else .other)) := by
  have hk := hfr.keep b hb
  refine ⟨fun h => ?_, fun h => ?_, fun r h hr => ?_, fun s h hs => ?_, fun r i h hr => ?_⟩
  · have e : (entry v g).own b = .ro := ren_ro h
    have := hk (.inl e)
    exact ⟨this.1, this.2.trans e⟩
  · have e : (entry v g).own b = .other := ren_other h
    have := hk (.inr e)
    exact ⟨this.1, this.2.trans e⟩
  · have e : (entry v g).own b = (if r ∈ v.ρ.bs then .ro else .other) := by simp [entry, Gh.ren, h, hr]
    have hf : A0.fixed ⟨w, entry v g, names o⟩ b := by
      unfold A0.fixed
      simp only
      rw [e]
      split
      · exact .inl rfl
      · exact .inr rfl
    have := hk hf
    exact ⟨this.1, this.2.trans e⟩
  · have e : (entry v g).own b = .other := by simp [entry, Gh.ren, h, hs]
    have := hk (.inr e)
    exact ⟨this.1, this.2.trans e⟩
  · have e : (entry v g).own b = (if r ∈ v.ρ.bs then .ro else .other) := by simp [entry, Gh.ren, h, hr]
    have hf : A0.fixed ⟨w, entry v g, names o⟩ b := by
      unfold A0.fixed
      simp only
      rw [e]
      split
      · exact .inl rfl
      · exact .inr rfl
    have := hk hf
    exact ⟨this.1, this.2.trans e⟩

/-- the caller's ghost names what the callee's, renamed, names -/
theorem after_row (hfr : Fr C ⟨w, entry v g, names o⟩ g1 w1) {b q : Nat} (h : (g1.ren v.back g).own b = .row q) : (after v g w g1).own b = .row q := by
  unfold after
  simp only
  split
  · rename_i hb
    obtain ⟨f1, f2, f3, f4, f5⟩ := fixed_of hfr hb
    cases hg : g.own b with
    | ro => rw [ren_ro (f1 hg).2] at h; cases h
    | other => rw [ren_other (f2 hg).2] at h; cases h
    | row r =>
      simp only
      cases hr : lk r v.ρ.l with
      | none =>
        have := (f3 r hg hr).2
        split at this
        · rw [ren_ro this] at h; cases h
        · rw [ren_other this] at h; cases h
      | some r' => simpa using h
    | box s =>
      simp only
      cases hs : lk s v.ρ.m with
      | none => rw [ren_other (f4 s hg hs).2] at h; cases h
      | some r' => simpa using h
    | inn r i =>
      simp only
      cases hr : lk r v.ρ.l with
      | none =>
        have := (f5 r i hg hr).2
        split at this
        · rw [ren_ro this] at h; cases h
        · rw [ren_other this] at h; cases h
      | some r' => simpa using h
  · exact h
theorem after_inn (hfr : Fr C ⟨w, entry v g, names o⟩ g1 w1) {b q n : Nat} (h : (g1.ren v.back g).own b = .inn q n) : (after v g w g1).own b = .inn q n := by
  unfold after
  simp only
  split
  · rename_i hb
    obtain ⟨f1, f2, f3, f4, f5⟩ := fixed_of hfr hb
    cases hg : g.own b with
    | ro => rw [ren_ro (f1 hg).2] at h; cases h
    | other => rw [ren_other (f2 hg).2] at h; cases h
    | row r =>
      simp only
      cases hr : lk r v.ρ.l with
      | none =>
        have := (f3 r hg hr).2
        split at this
        · rw [ren_ro this] at h; cases h
        · rw [ren_other this] at h; cases h
      | some r' => simpa using h
    | box s =>
      simp only
      cases hs : lk s v.ρ.m with
      | none => rw [ren_other (f4 s hg hs).2] at h; cases h
      | some r' => simpa using h
    | inn r i =>
      simp only
      cases hr : lk r v.ρ.l with
      | none =>
        have := (f5 r i hg hr).2
        split at this
        · rw [ren_ro this] at h; cases h
        · rw [ren_other this] at h; cases h
      | some r' => simpa using h
  · exact h
theorem after_box (hfr : Fr C ⟨w, entry v g, names o⟩ g1 w1) {b q : Nat} (h : (g1.ren v.back g).own b = .box q) : (after v g w g1).own b = .box q := by
  unfold after
  simp only
  split
  · rename_i hb
    obtain ⟨f1, f2, f3, f4, f5⟩ := fixed_of hfr hb
    cases hg : g.own b with
    | ro => rw [ren_ro (f1 hg).2] at h; cases h
    | other => rw [ren_other (f2 hg).2] at h; cases h
    | row r =>
      simp only
      cases hr : lk r v.ρ.l with
      | none =>
        have := (f3 r hg hr).2
        split at this
        · rw [ren_ro this] at h; cases h
        · rw [ren_other this] at h; cases h
      | some r' => simpa using h
    | box s =>
      simp only
      cases hs : lk s v.ρ.m with
      | none => rw [ren_other (f4 s hg hs).2] at h; cases h
      | some r' => simpa using h
    | inn r i =>
      simp only
      cases hr : lk r v.ρ.l with
      | none =>
        have := (f5 r i hg hr).2
        split at this
        · rw [ren_ro this] at h; cases h
        · rw [ren_other this] at h; cases h
      | some r' => simpa using h
  · exact h

theorem after_names (hfr : Fr C ⟨w, entry v g, names o⟩ g1 w1) : Names (g1.ren v.back g) (after v g w g1) :=
  ⟨fun _ _ h => after_row hfr h, fun _ _ h => after_box hfr h, fun _ => rfl, fun _ => rfl⟩

theorem after_ro (hfr : Fr C ⟨w, entry v g, names o⟩ g1 w1) (hbs : v.ρ.bs = []) {b : Nat} (h : (g1.ren v.back g).own b = .ro) : (after v g w g1).own b = .ro := by
  have h1 : g1.own b = .ro := by
    unfold Gh.ren at h
    simp only at h
    split at h
    · assumption
    · cases h
    · split at h
      · cases h
      · simp [Way.back] at h
    · split at h <;> cases h
    · split at h
      · cases h
      · simp [Way.back] at h
  unfold after
  simp only
  split
  · rename_i hb
    obtain ⟨f1, f2, f3, f4, f5⟩ := fixed_of hfr hb
    cases hg : g.own b with
    | ro => rfl
    | other => rw [(f2 hg).2] at h1; cases h1
    | row r =>
      simp only
      cases hr : lk r v.ρ.l with
      | none => have := (f3 r hg hr).2; simp [hbs] at this; rw [this] at h1; cases h1
      | some r' => simpa using h
    | box s =>
      simp only
      cases hs : lk s v.ρ.m with
      | none => rw [(f4 s hg hs).2] at h1; cases h1
      | some r' => simpa using h
    | inn r i =>
      simp only
      cases hr : lk r v.ρ.l with
      | none => have := (f5 r i hg hr).2; simp [hbs] at this; rw [this] at h1; cases h1
      | some r' => simpa using h
  · exact h

theorem lk_inv_append_none {l m : Ren} {q : Nat} (h : q ∉ rngs (l ++ m)) : lk q (inv (l ++ m)) = none := lk_none (by rwa [names_inv])

theorem after_grow (hv : v.OK o) (hfr : Fr C ⟨w, entry v g, names o⟩ g1 w1) : Grow (rngs v.back.l) (rngs v.fm) (rngs v.back.m) g w (after v g w g1) w1 where
  ro := fun b hb h => by
    obtain ⟨f1, _, _, _, _⟩ := fixed_of hfr hb
    refine ⟨by simp [after, hb, h], (f1 h).1⟩
  row := fun b q hb hq h => by
    obtain ⟨_, _, f3, _, _⟩ := fixed_of hfr hb
    have hn : lk q v.ρ.l = none := by
      cases hl : lk q v.ρ.l with
      | none => rfl
      | some q' =>
        have := okRen.bwd (l := inv v.ρ.l) (r := q') (r' := q) (by
          have := hv.into.l
          unfold okRen at this ⊢
          rw [inv_inv]
          simp only [List.all_eq_true, Bool.and_eq_true] at this ⊢
          intro p hp
          simp only [inv, List.mem_map] at hp
          obtain ⟨p0, hp0, rfl⟩ := hp
          exact ⟨(this p0 hp0).2, (this p0 hp0).1⟩) (by rw [inv_inv]; exact hl)
        exact (hq (by
          simp only [Way.back, rngs, List.map_append, List.mem_append, List.mem_map]
          exact .inl ⟨_, lk_mem this, rfl⟩)).elim
    exact ⟨by simp [after, hb, h, hn], (f3 q h hn).1⟩
  rows := fun q hq => by
    simp only [after, Gh.ren]
    have : lk q (inv v.back.l) = none := lk_none (by rw [names_inv]; exact hq)
    rw [this]
  boxes := fun s hs => by
    simp only [after, Gh.ren]
    cases hl : lk s (inv v.back.m) with
    | none => rfl
    | some s' =>
      simp only
      have h1 := okRen.bwd hv.back.m hl
      simp only [Way.back, lk_append] at h1
      cases h2 : lk s' (inv v.ρ.m) with
      | none =>
        rw [h2] at h1
        simp only [Option.none_or] at h1
        exact (hs (by simp only [rngs, List.mem_map]; exact ⟨_, lk_mem h1, rfl⟩)).elim
      | some s0 =>
        rw [h2] at h1
        simp only [Option.some_or, Option.some.injEq] at h1
        subst h1
        have h3 := okRen.bwd hv.into.m h2
        have he : s' ∈ names o := hv.ext s' (by simp only [rngs, List.mem_map]; exact ⟨_, lk_mem h3, rfl⟩)
        rw [hfr.box s' he]
        exact renBox hv.into h3
  inn := fun b q i hb hq h => by
    obtain ⟨_, _, _, _, f5⟩ := fixed_of hfr hb
    have hn : lk q v.ρ.l = none := by
      cases hl : lk q v.ρ.l with
      | none => rfl
      | some q' =>
        have := okRen.bwd (l := inv v.ρ.l) (r := q') (r' := q) (by
          have := hv.into.l
          unfold okRen at this ⊢
          rw [inv_inv]
          simp only [List.all_eq_true, Bool.and_eq_true] at this ⊢
          intro p hp
          simp only [inv, List.mem_map] at hp
          obtain ⟨p0, hp0, rfl⟩ := hp
          exact ⟨(this p0 hp0).2, (this p0 hp0).1⟩) (by rw [inv_inv]; exact hl)
        exact (hq (by
          simp only [Way.back, rngs, List.map_append, List.mem_append, List.mem_map]
          exact .inl ⟨_, lk_mem this, rfl⟩)).elim
    exact ⟨by simp [after, hb, h, hn], (f5 q i h hn).1⟩
  inns := fun q i hq => by
    simp only [after, Gh.ren]
    have : lk q (inv v.back.l) = none := lk_none (by rw [names_inv]; exact hq)
    rw [this]
  os := hfr.os
  tape := hfr.tape
  output := hfr.output
  size := hfr.size
  other := fun b hb h => by
    obtain ⟨_, f2, _, _, _⟩ := fixed_of hfr hb
    exact ⟨by simp [after, hb, h], (f2 h).1⟩
  kept := fun s hU _ h hb => by
    obtain ⟨_, _, _, f4, _⟩ := fixed_of hfr hb
    have hn : lk s v.ρ.m = none := by
      cases hl : lk s v.ρ.m with
      | none => rfl
      | some q' =>
        have := okRen.fwd hv.into.m hl
        exact (hU (by
          simp only [Way.back, rngs, List.map_append, List.mem_append, List.mem_map]
          exact .inl ⟨_, lk_mem this, rfl⟩)).elim
    exact ⟨by simp [after, hb, h, hn], (f4 s h hn).1⟩

/-- a result, as the caller sees it -/
theorem after_VR (hv : v.OK o) (hfr : Fr C ⟨w, entry v g, names o⟩ g1 w1) {x : AV} {u : Value} (hx : VR g1 w1 x u) (hf : v.ρ.bs = [] ∨ Flat (x.ren v.back)) : VR (after v g w g1) w1 (x.ren v.back) u := by
  have h1 : VR (g1.ren v.back g) w1 (x.ren v.back) u := VR.ren hv.back x u hx
  rcases hf with hbs | hf
  · have hl : Lasts [] [] (g1.ren v.back g) w1 (after v g w g1) w1 := ⟨fun b _ h => ⟨after_ro hfr hbs h, rfl⟩, fun b q _ _ h => ⟨after_row hfr h, rfl⟩, fun _ _ => rfl, fun _ _ => rfl, fun b q i _ _ h => ⟨after_inn hfr h, rfl⟩, fun _ _ _ => rfl⟩
    have := VR.lasts hl _ _ h1
    rwa [kill_nil] at this
  · exact VR.flat (after_names hfr) _ _ hf h1
theorem after_VRs (hv : v.OK o) (hfr : Fr C ⟨w, entry v g, names o⟩ g1 w1) {x : List AV} {u : List Value} (hx : VRs g1 w1 x u) (hf : v.ρ.bs = [] ∨ FlatL (renL v.back x)) : VRs (after v g w g1) w1 (renL v.back x) u := by
  have h1 : VRs (g1.ren v.back g) w1 (renL v.back x) u := VRs.ren hv.back x u hx
  rcases hf with hbs | hf
  · have hl : Lasts [] [] (g1.ren v.back g) w1 (after v g w g1) w1 := ⟨fun b _ h => ⟨after_ro hfr hbs h, rfl⟩, fun b q _ _ h => ⟨after_row hfr h, rfl⟩, fun _ _ => rfl, fun _ _ => rfl, fun b q i _ _ h => ⟨after_inn hfr h, rfl⟩, fun _ _ _ => rfl⟩
    have := VRs.lasts hl _ _ h1
    rwa [killL_nil] at this
  · exact VRs.flat (after_names hfr) _ _ hf h1
end
end Go.Abs
