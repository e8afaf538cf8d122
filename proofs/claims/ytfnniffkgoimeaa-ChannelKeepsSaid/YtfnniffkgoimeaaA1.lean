/- Values as trees, their reading in a world's memory, and how readings last while memory grows. -/
import Derived.WalkKit
set_option linter.all false
namespace Go.Abs

inductive Tag where
  | no
  | full
  | own (r lo : Nat)

/-- handles on a slice of slices, all of it the call's own: the slice, a pointer to one of its cells, one of its slices, a pointer to an element of that -/
inductive HK where
  | dsl
  | dp
  | isl
  | iep

inductive AV where
  | undef
  | v (x : Value)
  | agg (cs : List AV)
  | tup (cs : List AV)
  | sl (t : Tag) (n : Nat) (es : List (List AV))
  | ptr (s off : Nat)
  | ep (t : Tag) (i : Nat) (cells : List AV) (off : Nat)
  | fn (f : Nat) (caps : List AV)
  | ifc (t : TypeId) (x : AV)
  | hnd (k : HK) (r i j off m : Nat) (bss : List (List (List AV)))

inductive Own where
  | other
  | ro
  | box (s : Nat)
  | row (r : Nat)
  | inn (r i : Nat)

structure Gh where
  own : Nat → Own
  box : Nat → Nat
  row : Nat → Nat
  inn : Nat → Nat → Nat

mutual
/-- pure data: what lies in memory that nobody writes -/
def PR (ro : Nat → Prop) (w : World) : AV → Value → Prop
  | .undef, u => u.oneCell' = true
  | .v x, u => u = x ∧ x.oneCell' = true
  | .sl t n es, u => (∀ r lo, t ≠ .own r lo) ∧ ∃ a cap, u = .slice a es.length cap ∧ es.length ≤ cap ∧ cap ≤ maxLen ∧ (t = .full → cap = es.length) ∧ 0 < n ∧
      (es = [] ∨ ∃ ad, a = some ad ∧ ro ad.block ∧ PRe ro w es ad n 0)
  | _, _ => False
def PRe (ro : Nat → Prop) (w : World) : List (List AV) → Addr → Nat → Nat → Prop
  | [], _, _, _ => True
  | e :: es, ad, n, i => e.length = n ∧ PRc ro w e ad (i * n) ∧ PRe ro w es ad n (i + 1)
def PRc (ro : Nat → Prop) (w : World) : List AV → Addr → Nat → Prop
  | [], _, _ => True
  | c :: cs, ad, j => (∃ u, w.cell? (ad.add j) = some u ∧ PR ro w c u) ∧ PRc ro w cs ad (j + 1)
end

def isRo (g : Gh) (b : Nat) : Prop := g.own b = .ro

/-- a slice of the call's own -/
def OwnSl (g : Gh) (w : World) (r lo n : Nat) (es : List (List AV)) (u : Value) : Prop :=
  0 < n ∧ ((u = .slice none 0 0 ∧ es = []) ∨ (0 < lo ∧ es = [] ∧ ∃ a cap, u = .slice a 0 cap ∧ cap ≤ maxLen) ∨
  ∃ cap cur T, u = .slice (some ⟨g.row r, lo * n, none⟩) es.length cap ∧ es.length ≤ cap ∧ lo + cap ≤ maxLen ∧ g.own (g.row r) = .row r ∧
    w.heap[g.row r]? = some (.cells cur T (0, 0)) ∧ cur.size = (lo + cap) * n ∧ PRe (isRo g) w es ⟨g.row r, lo * n, none⟩ n 0)

def EpAt (g : Gh) (w : World) (t : Tag) (i : Nat) (cells : List AV) (off : Nat) (u : Value) : Prop :=
  match t with
  | .own r _ => ∃ cur T, u = .pointer (some ⟨g.row r, i * cells.length + off, none⟩) ∧ g.own (g.row r) = .row r ∧
      w.heap[g.row r]? = some (.cells cur T (0, 0)) ∧ (i + 1) * cells.length ≤ cur.size ∧ PRc (isRo g) w cells ⟨g.row r, i * cells.length, none⟩ 0
  | _ => ∃ ad : Addr, u = .pointer (some (ad.add off)) ∧ 0 < cells.length ∧ isRo g ad.block ∧ PRc (isRo g) w cells ad 0

/-- the i-th of the slices of a deep row -/
def InnAt (g : Gh) (w : World) (r i m : Nat) (b : List (List AV)) (u : Value) : Prop :=
  (b = [] ∧ ∃ a cap, u = .slice a 0 cap ∧ cap ≤ maxLen) ∨
  ∃ cap cur T, u = .slice (some ⟨g.inn r i, 0, none⟩) b.length cap ∧ b.length ≤ cap ∧ cap ≤ maxLen ∧ g.own (g.inn r i) = .inn r i ∧ w.heap[g.inn r i]? = some (.cells cur T (0, 0)) ∧ cur.size = cap * m ∧
    PRe (isRo g) w b ⟨g.inn r i, 0, none⟩ m 0

def HndAt (g : Gh) (w : World) (k : HK) (r i j off m : Nat) (bss : List (List (List AV))) (u : Value) : Prop :=
  0 < m ∧ match k with
  | .dsl => (u = .slice none 0 0 ∧ bss = []) ∨ ∃ cap cur T, u = .slice (some ⟨g.row r, 0, none⟩) bss.length cap ∧ bss.length ≤ cap ∧ cap ≤ maxLen ∧ g.own (g.row r) = .row r ∧ w.heap[g.row r]? = some (.cells cur T (0, 0)) ∧ cur.size = cap ∧
      ∀ q b, bss[q]? = some b → ∃ v, cur[q]? = some v ∧ InnAt g w r q m b v
  | .dp => ∃ b, bss = [b] ∧ ∃ cur T v, u = .pointer (some ⟨g.row r, i, none⟩) ∧ g.own (g.row r) = .row r ∧ w.heap[g.row r]? = some (.cells cur T (0, 0)) ∧ cur[i]? = some v ∧ InnAt g w r i m b v
  | .isl => ∃ b, bss = [b] ∧ InnAt g w r i m b u
  | .iep => ∃ c, bss = [[c]] ∧ c.length = m ∧ ∃ cur T, u = .pointer (some ⟨g.inn r i, j * m + off, none⟩) ∧ g.own (g.inn r i) = .inn r i ∧ w.heap[g.inn r i]? = some (.cells cur T (0, 0)) ∧ (j + 1) * m ≤ cur.size ∧
      PRc (isRo g) w c ⟨g.inn r i, j * m, none⟩ 0

mutual
def VR (g : Gh) (w : World) : AV → Value → Prop
  | .undef, _ => True
  | .v x, u => u = x
  | .agg cs, u => ∃ us, u = .agg us ∧ VRs g w cs us.toList
  | .tup cs, u => ∃ us, u = .tuple us ∧ VRs g w cs us.toList
  | .sl (.own r lo) n es, u => OwnSl g w r lo n es u
  | .sl t n es, u => PR (isRo g) w (.sl t n es) u
  | .ptr s off, u => u = .pointer (some ⟨g.box s, off, none⟩)
  | .ep t i cells off, u => EpAt g w t i cells off u
  | .fn f caps, u => ∃ us, u = .func (.func f) #[] us ∧ VRs g w caps us.toList
  | .ifc t x, u => ∃ y, u = .iface t y ∧ VR g w x y
  | .hnd k r i j off m bss, u => HndAt g w k r i j off m bss u
def VRs (g : Gh) (w : World) : List AV → List Value → Prop
  | [], [] => True
  | c :: cs, u :: us => VR g w c u ∧ VRs g w cs us
  | _, _ => False
end

mutual
/-- the handles on the rows S and on the boxes T are forgotten -/
def AV.kill (S T : List Nat) : AV → AV
  | .undef => .undef
  | .v x => .v x
  | .agg cs => .agg (killL S T cs)
  | .tup cs => .tup (killL S T cs)
  | .sl (.own r lo) n es => if r ∈ S then .undef else .sl (.own r lo) n es
  | .sl .no n es => .sl .no n es
  | .sl .full n es => .sl .full n es
  | .ptr s off => if s ∈ T then .undef else .ptr s off
  | .ep (.own r lo) i cells off => if r ∈ S then .undef else .ep (.own r lo) i cells off
  | .ep .no i cells off => .ep .no i cells off
  | .ep .full i cells off => .ep .full i cells off
  | .fn f caps => .fn f (killL S T caps)
  | .ifc t x => .ifc t (x.kill S T)
  | .hnd k r i j off m bss => if r ∈ S then .undef else .hnd k r i j off m bss
def killL (S T : List Nat) : List AV → List AV
  | [] => []
  | c :: cs => c.kill S T :: killL S T cs
end

theorem isRo_def (g : Gh) (b : Nat) : isRo g b = (g.own b = .ro) := rfl

section mono
variable {ro ro' : Nat → Prop} {w w' : World}

theorem lt_of_heap {w : World} {b : Nat} {o : Obj} (h : w.heap[b]? = some o) : b < w.heap.size := by
  rcases Nat.lt_or_ge b w.heap.size with hlt | hge
  · exact hlt
  · rw [Array.getElem?_eq_none hge] at h; cases h

theorem add_block (a : Addr) (n : Nat) : (a.add n).block = a.block := by unfold Addr.add; split <;> rfl

theorem lt_of_cell {w : World} {a : Addr} {u : Value} (h : w.cell? a = some u) : a.block < w.heap.size := World.block_lt_of_cell? w a h

mutual
theorem PR.mono (h : ∀ b, b < w.heap.size → ro b → ro' b ∧ w'.heap[b]? = w.heap[b]?) : ∀ (x : AV) (u : Value), PR ro w x u → PR ro' w' x u
  | .undef, _, hu => by simpa [PR] using hu
  | .v x, u, hu => by simpa [PR] using hu
  | .sl t n es, u, hu => by
    simp only [PR] at hu ⊢
    obtain ⟨h0, a, cap, h1, h2, h3, h4, h5, h6⟩ := hu
    refine ⟨h0, a, cap, h1, h2, h3, h4, h5, ?_⟩
    rcases h6 with h6 | ⟨ad, h6, h7, h8⟩
    · exact .inl h6
    · match es, h8 with
      | [], _ => exact .inl rfl
      | e :: es, h8 =>
        have := PRe.mono h (e :: es) ad n 0 h7 h8
        refine .inr ⟨ad, h6, ?_, this⟩
        match e, n, h5, h8 with
        | [], n, h5, h8 =>
          simp only [PRe, List.length_nil] at h8
          omega
        | c :: cs, n, _, h8 =>
          simp only [PRe, PRc] at h8
          obtain ⟨_, ⟨⟨u, hu, _⟩, _⟩, _⟩ := h8
          have hlt := lt_of_cell hu
          rw [add_block] at hlt
          exact (h _ hlt h7).1
  | .agg _, _, hu => by simp [PR] at hu
  | .tup _, _, hu => by simp [PR] at hu
  | .ptr _ _, _, hu => by simp [PR] at hu
  | .ep _ _ _ _, _, hu => by simp [PR] at hu
  | .fn _ _, _, hu => by simp [PR] at hu
  | .ifc _ _, _, hu => by simp [PR] at hu
theorem PRe.mono (h : ∀ b, b < w.heap.size → ro b → ro' b ∧ w'.heap[b]? = w.heap[b]?) : ∀ (es : List (List AV)) (ad : Addr) (n i : Nat), ro ad.block → PRe ro w es ad n i → PRe ro' w' es ad n i
  | [], _, _, _, _, _ => by simp [PRe]
  | e :: es, ad, n, i, hr, hu => by
    simp only [PRe] at hu ⊢
    exact ⟨hu.1, PRc.mono h e ad _ hr hu.2.1, PRe.mono h es ad n _ hr hu.2.2⟩
theorem PRc.mono (h : ∀ b, b < w.heap.size → ro b → ro' b ∧ w'.heap[b]? = w.heap[b]?) : ∀ (cs : List AV) (ad : Addr) (j : Nat), ro ad.block → PRc ro w cs ad j → PRc ro' w' cs ad j
  | [], _, _, _, _ => by simp [PRc]
  | c :: cs, ad, j, hr, hu => by
    simp only [PRc] at hu ⊢
    obtain ⟨⟨u, h1, h2⟩, h3⟩ := hu
    refine ⟨⟨u, ?_, PR.mono h c u h2⟩, PRc.mono h cs ad _ hr h3⟩
    have hlt := lt_of_cell h1
    rw [World.cell?_of_block (w := w) (by rw [add_block] at hlt ⊢; exact (h _ hlt hr).2)]
    exact h1
end

/-- the same, for cells in a block that is no read-only one, but that has not changed -/
theorem PRc.mono_at (h : ∀ b, b < w.heap.size → ro b → ro' b ∧ w'.heap[b]? = w.heap[b]?) : ∀ (cs : List AV) (ad : Addr) (j : Nat), w'.heap[ad.block]? = w.heap[ad.block]? → PRc ro w cs ad j → PRc ro' w' cs ad j
  | [], _, _, _, _ => by simp [PRc]
  | c :: cs, ad, j, hr, hu => by
    simp only [PRc] at hu ⊢
    obtain ⟨⟨u, h1, h2⟩, h3⟩ := hu
    refine ⟨⟨u, ?_, PR.mono h c u h2⟩, PRc.mono_at h cs ad _ hr h3⟩
    rw [World.cell?_of_block (w := w) (by rw [add_block]; exact hr)]
    exact h1
theorem PRe.mono_at (h : ∀ b, b < w.heap.size → ro b → ro' b ∧ w'.heap[b]? = w.heap[b]?) : ∀ (es : List (List AV)) (ad : Addr) (n i : Nat), w'.heap[ad.block]? = w.heap[ad.block]? → PRe ro w es ad n i → PRe ro' w' es ad n i
  | [], _, _, _, _, _ => by simp [PRe]
  | e :: es, ad, n, i, hr, hu => by
    simp only [PRe] at hu ⊢
    exact ⟨hu.1, PRc.mono_at h e ad _ hr hu.2.1, PRe.mono_at h es ad n _ hr hu.2.2⟩
end mono

/-- what a step may do to memory, so that all readings but those by the killed handles last -/
structure Lasts (S T : List Nat) (g : Gh) (w : World) (g' : Gh) (w' : World) : Prop where
  ro : ∀ b, b < w.heap.size → g.own b = .ro → g'.own b = .ro ∧ w'.heap[b]? = w.heap[b]?
  row : ∀ b q, b < w.heap.size → q ∉ S → g.own b = .row q → g'.own b = .row q ∧ w'.heap[b]? = w.heap[b]?
  rows : ∀ q, q ∉ S → g'.row q = g.row q
  boxes : ∀ s, s ∉ T → g'.box s = g.box s
  inn : ∀ b q i, b < w.heap.size → q ∉ S → g.own b = .inn q i → g'.own b = .inn q i ∧ w'.heap[b]? = w.heap[b]?
  inns : ∀ q i, q ∉ S → g'.inn q i = g.inn q i

theorem Lasts.ro' {S T : List Nat} {g g' : Gh} {w w' : World} (h : Lasts S T g w g' w') : ∀ b, b < w.heap.size → isRo g b → isRo g' b ∧ w'.heap[b]? = w.heap[b]? := h.ro

/-- a deep row's handles, where the row bears another name or the world has grown -/
structure HndMap (g : Gh) (w : World) (r : Nat) (g' : Gh) (w' : World) (r' : Nat) : Prop where
  ro : ∀ b, b < w.heap.size → isRo g b → isRo g' b ∧ w'.heap[b]? = w.heap[b]?
  row : g'.row r' = g.row r
  inn : ∀ i, g'.inn r' i = g.inn r i
  own : g.row r < w.heap.size → g.own (g.row r) = .row r → g'.own (g.row r) = .row r' ∧ w'.heap[g.row r]? = w.heap[g.row r]?
  owns : ∀ i, g.inn r i < w.heap.size → g.own (g.inn r i) = .inn r i → g'.own (g.inn r i) = .inn r' i ∧ w'.heap[g.inn r i]? = w.heap[g.inn r i]?

theorem InnAt.map {g g' : Gh} {w w' : World} {r r' : Nat} (h : HndMap g w r g' w' r') {i m : Nat} {b : List (List AV)} {u : Value} (hu : InnAt g w r i m b u) : InnAt g' w' r' i m b u := by
  rcases hu with hu | ⟨cap, cur, T, h1, h2, h3, h4, h5, h6, h7⟩
  · exact .inl hu
  · obtain ⟨k1, k2⟩ := h.owns i (lt_of_heap h5) h4
    refine .inr ⟨cap, cur, T, ?_, h2, h3, ?_, ?_, h6, ?_⟩
    · rw [h.inn]; exact h1
    · rw [h.inn]; exact k1
    · rw [h.inn, k2]; exact h5
    · rw [h.inn]; exact PRe.mono_at h.ro b _ m 0 k2 h7

theorem HndAt.map {g g' : Gh} {w w' : World} {r r' : Nat} (h : HndMap g w r g' w' r') {k : HK} {i j off m : Nat} {bss : List (List (List AV))} {u : Value} (hu : HndAt g w k r i j off m bss u) : HndAt g' w' k r' i j off m bss u := by
  obtain ⟨hm, hu⟩ := hu
  refine ⟨hm, ?_⟩
  cases k with
  | dsl =>
    rcases hu with hu | ⟨cap, cur, T, h1, h2, h3, h4, h5, h6, h7⟩
    · exact .inl hu
    · obtain ⟨k1, k2⟩ := h.own (lt_of_heap h5) h4
      refine .inr ⟨cap, cur, T, ?_, h2, h3, ?_, ?_, h6, fun q b hq => ?_⟩
      · rw [h.row]; exact h1
      · rw [h.row]; exact k1
      · rw [h.row, k2]; exact h5
      · obtain ⟨v, hv, hi⟩ := h7 q b hq
        exact ⟨v, hv, hi.map h⟩
  | dp =>
    obtain ⟨b, hb, cur, T, v, h1, h4, h5, h6, h7⟩ := hu
    obtain ⟨k1, k2⟩ := h.own (lt_of_heap h5) h4
    refine ⟨b, hb, cur, T, v, ?_, ?_, ?_, h6, h7.map h⟩
    · rw [h.row]; exact h1
    · rw [h.row]; exact k1
    · rw [h.row, k2]; exact h5
  | isl =>
    obtain ⟨b, hb, hi⟩ := hu
    exact ⟨b, hb, hi.map h⟩
  | iep =>
    obtain ⟨c, hc, hl, cur, T, h1, h4, h5, h6, h7⟩ := hu
    obtain ⟨k1, k2⟩ := h.owns i (lt_of_heap h5) h4
    refine ⟨c, hc, hl, cur, T, ?_, ?_, ?_, h6, ?_⟩
    · rw [h.inn]; exact h1
    · rw [h.inn]; exact k1
    · rw [h.inn, k2]; exact h5
    · rw [h.inn]; exact PRc.mono_at h.ro c _ 0 k2 h7

theorem Lasts.hnd {S T : List Nat} {g g' : Gh} {w w' : World} (h : Lasts S T g w g' w') {r : Nat} (hr : r ∉ S) : HndMap g w r g' w' r where
  ro := h.ro
  row := h.rows r hr
  inn := fun i => h.inns r i hr
  own := fun hlt ho => h.row _ r hlt hr ho
  owns := fun i hlt ho => h.inn _ r i hlt hr ho

mutual
theorem VR.lasts {S T : List Nat} {g g' : Gh} {w w' : World} (h : Lasts S T g w g' w') : ∀ (x : AV) (u : Value), VR g w x u → VR g' w' (x.kill S T) u
  | .undef, _, _ => by simp [AV.kill, VR]
  | .v x, u, hu => by simpa [AV.kill, VR] using hu
  | .agg cs, u, hu => by
    simp only [AV.kill, VR] at hu ⊢
    obtain ⟨us, h1, h2⟩ := hu
    exact ⟨us, h1, VRs.lasts h cs us.toList h2⟩
  | .tup cs, u, hu => by
    simp only [AV.kill, VR] at hu ⊢
    obtain ⟨us, h1, h2⟩ := hu
    exact ⟨us, h1, VRs.lasts h cs us.toList h2⟩
  | .sl (.own r lo) n es, u, hu => by
    simp only [AV.kill]
    split
    · simp [VR]
    · rename_i hr
      simp only [VR, OwnSl] at hu ⊢
      refine ⟨hu.1, ?_⟩
      rcases hu.2 with hu | hu | ⟨cap, cur, T', h1, h2, h3, h5, h6, h7, h8⟩
      · exact .inl hu
      · exact .inr (.inl hu)
      · have hlt := lt_of_heap h6
        obtain ⟨k1, k2⟩ := h.row _ r hlt hr h5
        have hrow := h.rows r hr
        refine .inr (.inr ⟨cap, cur, T', ?_, h2, h3, ?_, ?_, h7, ?_⟩)
        · rw [hrow]; exact h1
        · rw [hrow]; exact k1
        · rw [hrow, k2]; exact h6
        · rw [hrow]; exact PRe.mono_at h.ro' es _ n 0 k2 h8
  | .sl .no n es, u, hu => by
    simp only [AV.kill, VR] at hu ⊢
    exact PR.mono h.ro' _ u hu
  | .sl .full n es, u, hu => by
    simp only [AV.kill, VR] at hu ⊢
    exact PR.mono h.ro' _ u hu
  | .ptr s off, u, hu => by
    simp only [AV.kill]
    split
    · simp [VR]
    · rename_i hs
      simp only [VR] at hu ⊢
      rw [h.boxes s hs]; exact hu
  | .ep (.own r lo) i cells off, u, hu => by
    simp only [AV.kill]
    split
    · simp [VR]
    · rename_i hr
      simp only [VR, EpAt] at hu ⊢
      obtain ⟨cur, T', h1, h2, h3, h4, h5⟩ := hu
      have hlt := lt_of_heap h3
      obtain ⟨k1, k2⟩ := h.row _ r hlt hr h2
      have hrow := h.rows r hr
      refine ⟨cur, T', ?_, ?_, ?_, h4, ?_⟩
      · rw [hrow]; exact h1
      · rw [hrow]; exact k1
      · rw [hrow, k2]; exact h3
      · rw [hrow]; exact PRc.mono_at h.ro' cells _ 0 k2 h5
  | .ep .no i cells off, u, hu => by
    simp only [AV.kill, VR, EpAt] at hu ⊢
    obtain ⟨ad, h1, h0, h2, h3⟩ := hu
    match cells, h0, h3 with
    | c :: cs, h0, h3 =>
      have h3' := h3
      simp only [PRc] at h3'
      obtain ⟨⟨u', hu', _⟩, _⟩ := h3'
      have hlt := lt_of_cell hu'
      rw [add_block] at hlt
      exact ⟨ad, h1, h0, (h.ro _ hlt h2).1, PRc.mono h.ro' _ ad 0 h2 h3⟩
  | .ep .full i cells off, u, hu => by
    simp only [AV.kill, VR, EpAt] at hu ⊢
    obtain ⟨ad, h1, h0, h2, h3⟩ := hu
    match cells, h0, h3 with
    | c :: cs, h0, h3 =>
      have h3' := h3
      simp only [PRc] at h3'
      obtain ⟨⟨u', hu', _⟩, _⟩ := h3'
      have hlt := lt_of_cell hu'
      rw [add_block] at hlt
      exact ⟨ad, h1, h0, (h.ro _ hlt h2).1, PRc.mono h.ro' _ ad 0 h2 h3⟩
  | .fn f caps, u, hu => by
    simp only [AV.kill, VR] at hu ⊢
    obtain ⟨us, h1, h2⟩ := hu
    exact ⟨us, h1, VRs.lasts h caps us.toList h2⟩
  | .ifc t x, u, hu => by
    simp only [AV.kill, VR] at hu ⊢
    obtain ⟨y, h1, h2⟩ := hu
    exact ⟨y, h1, VR.lasts h x y h2⟩
  | .hnd k r i j off m bss, u, hu => by
    simp only [AV.kill]
    split
    · simp [VR]
    · rename_i hr
      simp only [VR] at hu ⊢
      exact hu.map (h.hnd hr)
theorem VRs.lasts {S T : List Nat} {g g' : Gh} {w w' : World} (h : Lasts S T g w g' w') : ∀ (cs : List AV) (us : List Value), VRs g w cs us → VRs g' w' (killL S T cs) us
  | [], [], _ => by simp [killL, VRs]
  | [], _ :: _, hu => by simp [VRs] at hu
  | _ :: _, [], hu => by simp [VRs] at hu
  | c :: cs, u :: us, hu => by
    simp only [killL, VRs] at hu ⊢
    exact ⟨VR.lasts h c u hu.1, VRs.lasts h cs us hu.2⟩
end
end Go.Abs
