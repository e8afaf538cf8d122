/- part 0 of the proof -/
import Derived.WalkKit
import Derived.Laws.CopyOwn
import Derived.WalkLawsBesides
set_option linter.all false
namespace Go.Abs
inductive Tag where
  | no
  | full
  | own (r lo : Nat)
inductive AV where
  | undef
  | v (x : Value)
  | agg (cs : List AV)
  | tup (cs : List AV)
  | sl (t : Tag) (n : Nat) (es : List (List AV))
  | ptr (s off : Nat)
  | ep (t : Tag) (i : Nat) (cells : List AV) (off : Nat)
  | fn (f : Nat) (caps : List AV)
  | mv (f : Nat) (first : List AV)
  | ifc (t : TypeId) (x : AV)
  | mem (b : Bool) (xs : List AV)
  | mp (s : Nat)
inductive Own where
  | other
  | ro
  | box (s : Nat)
  | row (r : Nat)
def isMap (s : Nat) : Bool := s % 64 == 62 || s % 64 == 31
structure Gh where
  own : Nat → Own
  box : Nat → Nat
  row : Nat → Nat
mutual
def PR (ro : Nat → Prop) (w : World) : AV → Value → Prop
  | .undef, u => u.oneCell' = true
  | .v x, u => u = x ∧ x.oneCell' = true
  | .sl t n es, u => (∀ r lo, t ≠ .own r lo) ∧ ∃ a cap, u = .slice a es.length cap ∧ es.length ≤ cap ∧ cap ≤ maxLen ∧ (t = .full → cap = es.length) ∧ 0 < n ∧
      (es = [] ∨ ∃ ad, a = some ad ∧ ro ad.block ∧ PRe ro w es ad n 0)
  | .fn f caps, u => caps = [] ∧ u = .func (.func f) #[] #[]
  | _, _ => False
def PRe (ro : Nat → Prop) (w : World) : List (List AV) → Addr → Nat → Nat → Prop
  | [], _, _, _ => True
  | e :: es, ad, n, i => e.length = n ∧ PRc ro w e ad (i * n) ∧ PRe ro w es ad n (i + 1)
def PRc (ro : Nat → Prop) (w : World) : List AV → Addr → Nat → Prop
  | [], _, _ => True
  | c :: cs, ad, j => (∃ u, w.cell? (ad.add j) = some u ∧ PR ro w c u) ∧ PRc ro w cs ad (j + 1)
end
def isRo (g : Gh) (b : Nat) : Prop := g.own b = .ro
def OwnSl (g : Gh) (w : World) (r lo n : Nat) (es : List (List AV)) (u : Value) : Prop :=
  0 < n ∧ ((u = .slice none 0 0 ∧ es = []) ∨ (0 < lo ∧ es = [] ∧ ∃ a cap, u = .slice a 0 cap ∧ cap ≤ maxLen) ∨
  ∃ cap cur T, u = .slice (some ⟨g.row r, lo * n, none⟩) es.length cap ∧ es.length ≤ cap ∧ lo + cap ≤ maxLen ∧ g.own (g.row r) = .row r ∧
    w.heap[g.row r]? = some (.cells cur T (0, 0)) ∧ (lo + cap) * n ≤ cur.size ∧ PRe (isRo g) w es ⟨g.row r, lo * n, none⟩ n 0)
def EpAt (g : Gh) (w : World) (t : Tag) (i : Nat) (cells : List AV) (off : Nat) (u : Value) : Prop :=
  match t with
  | .own r _ => ∃ cur T, u = .pointer (some ⟨g.row r, i * cells.length + off, none⟩) ∧ g.own (g.row r) = .row r ∧
      w.heap[g.row r]? = some (.cells cur T (0, 0)) ∧ (i + 1) * cells.length ≤ cur.size ∧ PRc (isRo g) w cells ⟨g.row r, i * cells.length, none⟩ 0
  | _ => ∃ ad : Addr, u = .pointer (some (ad.add off)) ∧ 0 < cells.length ∧ isRo g ad.block ∧ PRc (isRo g) w cells ad 0
def CellsAt (w : World) (ad : Addr) (vs : List Value) : Prop := vs ≠ [] ∧ ∀ i, i < vs.length → w.cell? (ad.add i) = vs[i]?
def MemU (b : Bool) (ad : Addr) (n : Nat) (u : Value) : Prop := match b with
  | true => ∃ cap, u = .slice (some ad) n cap ∧ n ≤ cap ∧ cap ≤ maxLen
  | false => u = .pointer (some ad)
mutual
def VR (g : Gh) (w : World) : AV → Value → Prop
  | .undef, _ => True
  | .v x, u => u = x
  | .agg cs, u => ∃ us, u = .agg us ∧ VRs g w cs us.toList
  | .tup cs, u => ∃ us, u = .tuple us ∧ VRs g w cs us.toList
  | .sl (.own r lo) n es, u => OwnSl g w r lo n es u
  | .sl t n es, u => PR (isRo g) w (.sl t n es) u
  | .ptr s off, u => isMap s = false ∧ u = .pointer (some ⟨g.box s, off, none⟩)
  | .ep t i cells off, u => EpAt g w t i cells off u
  | .fn f caps, u => ∃ us, u = .func (.func f) #[] us ∧ VRs g w caps us.toList
  | .mv f caps, u => ∃ us, u = .func (.func f) us #[] ∧ VRs g w caps us.toList
  | .mp s, u => isMap s = true ∧ u = .map (some (g.box s))
  | .ifc t x, u => ∃ y, u = .iface t y ∧ VR g w x y
  | .mem b xs, u => ∃ ad vs, isRo g ad.block ∧ CellsAt w ad vs ∧ VRs g w xs vs ∧ MemU b ad vs.length u
def VRs (g : Gh) (w : World) : List AV → List Value → Prop
  | [], [] => True
  | c :: cs, u :: us => VR g w c u ∧ VRs g w cs us
  | _, _ => False
end
mutual
def AV.mapH (f : AV → AV) : AV → AV
  | .undef => .undef
  | .v x => .v x
  | .agg cs => .agg (mapHL f cs)
  | .tup cs => .tup (mapHL f cs)
  | .sl (.own r lo) n es => f (.sl (.own r lo) n es)
  | .sl .no n es => .sl .no n es
  | .sl .full n es => .sl .full n es
  | .ptr s off => f (.ptr s off)
  | .ep (.own r lo) i cells off => f (.ep (.own r lo) i cells off)
  | .ep .no i cells off => .ep .no i cells off
  | .ep .full i cells off => .ep .full i cells off
  | .fn q caps => .fn q (mapHL f caps)
  | .mv q caps => .mv q (mapHL f caps)
  | .mp s => f (.mp s)
  | .ifc t x => .ifc t (x.mapH f)
  | .mem b xs => .mem b (mapHL f xs)
def mapHL (f : AV → AV) : List AV → List AV
  | [] => []
  | c :: cs => c.mapH f :: mapHL f cs
end
def AV.killH (S T : List Nat) : AV → AV
  | .sl (.own r lo) n es => if r ∈ S then .undef else .sl (.own r lo) n es
  | .ptr s off => if s ∈ T then .undef else .ptr s off
  | .ep (.own r lo) i cells off => if r ∈ S then .undef else .ep (.own r lo) i cells off
  | .mp s => if s ∈ T then .undef else .mp s
  | x => x
def AV.kill (S T : List Nat) (x : AV) : AV := x.mapH (AV.killH S T)
def killL (S T : List Nat) (cs : List AV) : List AV := mapHL (AV.killH S T) cs
theorem isRo_def (g : Gh) (b : Nat) : isRo g b = (g.own b = .ro) := rfl
section mono
variable {ro ro' : Nat → Prop} {w w' : World}
theorem lt_of_heap {w : World} {b : Nat} {o : Obj} (h : w.heap[b]? = some o) : b < w.heap.size := by
  rcases Nat.lt_or_ge b w.heap.size with hlt | hge
  · exact hlt
  · rw [Array.getElem?_eq_none hge] at h; cases h
theorem add_block (a : Addr) (n : Nat) : (a.add n).block = a.block := by unfold Addr.add; split <;> rfl
theorem lt_of_cell {w : World} {a : Addr} {u : Value} (h : w.cell? a = some u) : a.block < w.heap.size := World.block_lt_of_cell? w a h
theorem CellsAt.move {P Q : Nat → Prop} {w w' : World} {ad : Addr} {vs : List Value} (hc : CellsAt w ad vs) (h : ∀ b, b < w.heap.size → P b → Q b ∧ w'.heap[b]? = w.heap[b]?) (h1 : P ad.block) : Q ad.block ∧ CellsAt w' ad vs := by
  have h0 : w.cell? (ad.add 0) = vs[0]? := hc.2 0 (List.length_pos_iff.2 hc.1)
  obtain ⟨v, hv⟩ : ∃ v, vs[0]? = some v := ⟨_, List.getElem?_eq_getElem (List.length_pos_iff.2 hc.1)⟩
  rw [hv] at h0
  have hlt : ad.block < w.heap.size := by
    have := lt_of_cell h0
    simpa [Addr.add] using this
  obtain ⟨q, hh⟩ := h _ hlt h1
  refine ⟨q, hc.1, fun i hi => ?_⟩
  rw [← hc.2 i hi]
  have hb : (ad.add i).block = ad.block := by simp only [Addr.add]; split <;> rfl
  simp only [World.cell?, hb, hh]
mutual
theorem PR.mono (h : ∀ b, b < w.heap.size → ro b → ro' b ∧ w'.heap[b]? = w.heap[b]?) : ∀ (x : AV) (u : Value), PR ro w x u → PR ro' w' x u
  | .undef, _, hu => by simpa [PR] using hu
  | .v x, u, hu => by simpa [PR] using hu
  | .sl t n es, u, hu => by
    simp only [PR] at hu ⊢
    obtain ⟨h0, a, cap, h1, h2, h3, h4, h5, h6⟩ := hu
    refine ⟨h0, a, cap, h1, h2, h3, h4, h5, ?_⟩
    rcases h6 with h6 | ⟨ad, h6, h7, h8⟩
    · exact .inl h6
    · match es, h8 with
      | [], _ => exact .inl rfl
      | e :: es, h8 =>
        have := PRe.mono h (e :: es) ad n 0 h7 h8
        refine .inr ⟨ad, h6, ?_, this⟩
        match e, n, h5, h8 with
        | [], n, h5, h8 =>
          simp only [PRe, List.length_nil] at h8
          omega
        | c :: cs, n, _, h8 =>
          simp only [PRe, PRc] at h8
          obtain ⟨_, ⟨⟨u, hu, _⟩, _⟩, _⟩ := h8
          have hlt := lt_of_cell hu
          rw [add_block] at hlt
          exact (h _ hlt h7).1
  | .agg _, _, hu => by simp [PR] at hu
  | .tup _, _, hu => by simp [PR] at hu
  | .ptr _ _, _, hu => by simp [PR] at hu
  | .ep _ _ _ _, _, hu => by simp [PR] at hu
  | .fn _ _, _, hu => by simpa only [PR] using hu
  | .mv _ _, _, hu => by simp [PR] at hu
  | .mp _, _, hu => by simp [PR] at hu
  | .ifc _ _, _, hu => by simp [PR] at hu
  | .mem _ _, _, hu => by simp [PR] at hu
theorem PRe.mono (h : ∀ b, b < w.heap.size → ro b → ro' b ∧ w'.heap[b]? = w.heap[b]?) : ∀ (es : List (List AV)) (ad : Addr) (n i : Nat), ro ad.block → PRe ro w es ad n i → PRe ro' w' es ad n i
  | [], _, _, _, _, _ => by simp [PRe]
  | e :: es, ad, n, i, hr, hu => by
    simp only [PRe] at hu ⊢
    exact ⟨hu.1, PRc.mono h e ad _ hr hu.2.1, PRe.mono h es ad n _ hr hu.2.2⟩
theorem PRc.mono (h : ∀ b, b < w.heap.size → ro b → ro' b ∧ w'.heap[b]? = w.heap[b]?) : ∀ (cs : List AV) (ad : Addr) (j : Nat), ro ad.block → PRc ro w cs ad j → PRc ro' w' cs ad j
  | [], _, _, _, _ => by simp [PRc]
  | c :: cs, ad, j, hr, hu => by
    simp only [PRc] at hu ⊢
    obtain ⟨⟨u, h1, h2⟩, h3⟩ := hu
    refine ⟨⟨u, ?_, PR.mono h c u h2⟩, PRc.mono h cs ad _ hr h3⟩
    have hlt := lt_of_cell h1
    rw [World.cell?_of_block (w := w) (by rw [add_block] at hlt ⊢; exact (h _ hlt hr).2)]
    exact h1
end
theorem PRc.mono_at (h : ∀ b, b < w.heap.size → ro b → ro' b ∧ w'.heap[b]? = w.heap[b]?) : ∀ (cs : List AV) (ad : Addr) (j : Nat), w'.heap[ad.block]? = w.heap[ad.block]? → PRc ro w cs ad j → PRc ro' w' cs ad j
  | [], _, _, _, _ => by simp [PRc]
  | c :: cs, ad, j, hr, hu => by
    simp only [PRc] at hu ⊢
    obtain ⟨⟨u, h1, h2⟩, h3⟩ := hu
    refine ⟨⟨u, ?_, PR.mono h c u h2⟩, PRc.mono_at h cs ad _ hr h3⟩
    rw [World.cell?_of_block (w := w) (by rw [add_block]; exact hr)]
    exact h1
theorem PRe.mono_at (h : ∀ b, b < w.heap.size → ro b → ro' b ∧ w'.heap[b]? = w.heap[b]?) : ∀ (es : List (List AV)) (ad : Addr) (n i : Nat), w'.heap[ad.block]? = w.heap[ad.block]? → PRe ro w es ad n i → PRe ro' w' es ad n i
  | [], _, _, _, _, _ => by simp [PRe]
  | e :: es, ad, n, i, hr, hu => by
    simp only [PRe] at hu ⊢
    exact ⟨hu.1, PRc.mono_at h e ad _ hr hu.2.1, PRe.mono_at h es ad n _ hr hu.2.2⟩
end mono
structure Lasts (S T : List Nat) (g : Gh) (w : World) (g' : Gh) (w' : World) : Prop where
  ro : ∀ b, b < w.heap.size → g.own b = .ro → g'.own b = .ro ∧ w'.heap[b]? = w.heap[b]?
  row : ∀ b q, b < w.heap.size → q ∉ S → g.own b = .row q → g'.own b = .row q ∧ w'.heap[b]? = w.heap[b]?
  rows : ∀ q, q ∉ S → g'.row q = g.row q
  boxes : ∀ s, s ∉ T → g'.box s = g.box s
theorem Lasts.ro' {S T : List Nat} {g g' : Gh} {w w' : World} (h : Lasts S T g w g' w') : ∀ b, b < w.heap.size → isRo g b → isRo g' b ∧ w'.heap[b]? = w.heap[b]? := h.ro
theorem EpAt.mono {g g' : Gh} {w w' : World} (h : ∀ b, b < w.heap.size → isRo g b → isRo g' b ∧ w'.heap[b]? = w.heap[b]?) {t : Tag} {i : Nat} {cells : List AV} {off : Nat} {u : Value} (hu : EpAt g w t i cells off u) (ht : ∀ r lo, t ≠ .own r lo) : EpAt g' w' t i cells off u := by
  have key : (∃ ad : Addr, u = .pointer (some (ad.add off)) ∧ 0 < cells.length ∧ isRo g ad.block ∧ PRc (isRo g) w cells ad 0) → ∃ ad : Addr, u = .pointer (some (ad.add off)) ∧ 0 < cells.length ∧ isRo g' ad.block ∧ PRc (isRo g') w' cells ad 0 := by
    intro ⟨ad, h1, h0, h2, h3⟩
    match cells, h0, h3 with
    | c :: cs, h0, h3 =>
      have h3' := h3
      simp only [PRc] at h3'
      obtain ⟨⟨u', hu', _⟩, _⟩ := h3'
      have hlt := lt_of_cell hu'
      rw [add_block] at hlt
      exact ⟨ad, h1, h0, (h _ hlt h2).1, PRc.mono h _ ad 0 h2 h3⟩
  match t, ht with
  | .own r lo, ht => exact absurd rfl (ht r lo)
  | .no, _ => exact key hu
  | .full, _ => exact key hu
mutual
theorem VR.mapH {g g' : Gh} {w w' : World} {f : AV → AV} (hro : ∀ b, b < w.heap.size → isRo g b → isRo g' b ∧ w'.heap[b]? = w.heap[b]?) (h1 : ∀ r lo n es u, OwnSl g w r lo n es u → VR g' w' (f (.sl (.own r lo) n es)) u)
    (h2 : ∀ s off u, VR g w (.ptr s off) u → VR g' w' (f (.ptr s off)) u) (h3 : ∀ r lo i cells off u, EpAt g w (.own r lo) i cells off u → VR g' w' (f (.ep (.own r lo) i cells off)) u) (h4 : ∀ s u, VR g w (.mp s) u → VR g' w' (f (.mp s)) u) :
    ∀ (x : AV) (u : Value), VR g w x u → VR g' w' (x.mapH f) u
  | .undef, _, _ => by simp [AV.mapH, VR]
  | .v x, u, hu => by simpa [AV.mapH, VR] using hu
  | .agg cs, u, hu => by
    simp only [AV.mapH, VR] at hu ⊢
    obtain ⟨us, k1, k2⟩ := hu
    exact ⟨us, k1, VRs.mapH hro h1 h2 h3 h4 cs us.toList k2⟩
  | .tup cs, u, hu => by
    simp only [AV.mapH, VR] at hu ⊢
    obtain ⟨us, k1, k2⟩ := hu
    exact ⟨us, k1, VRs.mapH hro h1 h2 h3 h4 cs us.toList k2⟩
  | .sl (.own r lo) n es, u, hu => by
    simp only [AV.mapH, VR] at hu ⊢
    exact h1 _ _ _ _ _ hu
  | .sl .no n es, u, hu => by
    simp only [AV.mapH, VR] at hu ⊢
    exact PR.mono hro _ u hu
  | .sl .full n es, u, hu => by
    simp only [AV.mapH, VR] at hu ⊢
    exact PR.mono hro _ u hu
  | .ptr s off, u, hu => by
    simp only [AV.mapH]
    exact h2 _ _ _ hu
  | .mp s, u, hu => by
    simp only [AV.mapH]
    exact h4 _ _ hu
  | .ep (.own r lo) i cells off, u, hu => by
    simp only [AV.mapH, VR] at hu ⊢
    exact h3 _ _ _ _ _ _ hu
  | .ep .no i cells off, u, hu => by
    simp only [AV.mapH, VR] at hu ⊢
    exact EpAt.mono hro hu (fun _ _ => Tag.noConfusion)
  | .ep .full i cells off, u, hu => by
    simp only [AV.mapH, VR] at hu ⊢
    exact EpAt.mono hro hu (fun _ _ => Tag.noConfusion)
  | .fn q caps, u, hu => by
    simp only [AV.mapH, VR] at hu ⊢
    obtain ⟨us, k1, k2⟩ := hu
    exact ⟨us, k1, VRs.mapH hro h1 h2 h3 h4 caps us.toList k2⟩
  | .mv q caps, u, hu => by
    simp only [AV.mapH, VR] at hu ⊢
    obtain ⟨us, k1, k2⟩ := hu
    exact ⟨us, k1, VRs.mapH hro h1 h2 h3 h4 caps us.toList k2⟩
  | .ifc t x, u, hu => by
    simp only [AV.mapH, VR] at hu ⊢
    obtain ⟨y, k1, k2⟩ := hu
    exact ⟨y, k1, VR.mapH hro h1 h2 h3 h4 x y k2⟩
  | .mem b xs, u, hu => by
    simp only [AV.mapH, VR] at hu ⊢
    obtain ⟨ad, vs, k1, k2, k3, k4⟩ := hu
    obtain ⟨k5, k6⟩ := k2.move hro k1
    exact ⟨ad, vs, k5, k6, VRs.mapH hro h1 h2 h3 h4 xs vs k3, k4⟩
theorem VRs.mapH {g g' : Gh} {w w' : World} {f : AV → AV} (hro : ∀ b, b < w.heap.size → isRo g b → isRo g' b ∧ w'.heap[b]? = w.heap[b]?) (h1 : ∀ r lo n es u, OwnSl g w r lo n es u → VR g' w' (f (.sl (.own r lo) n es)) u)
    (h2 : ∀ s off u, VR g w (.ptr s off) u → VR g' w' (f (.ptr s off)) u) (h3 : ∀ r lo i cells off u, EpAt g w (.own r lo) i cells off u → VR g' w' (f (.ep (.own r lo) i cells off)) u) (h4 : ∀ s u, VR g w (.mp s) u → VR g' w' (f (.mp s)) u) :
    ∀ (cs : List AV) (us : List Value), VRs g w cs us → VRs g' w' (mapHL f cs) us
  | [], [], _ => by simp [mapHL, VRs]
  | [], _ :: _, hu => by simp [VRs] at hu
  | _ :: _, [], hu => by simp [VRs] at hu
  | c :: cs, u :: us, hu => by
    simp only [mapHL, VRs] at hu ⊢
    exact ⟨VR.mapH hro h1 h2 h3 h4 c u hu.1, VRs.mapH hro h1 h2 h3 h4 cs us hu.2⟩
end
mutual
theorem mapH_id {f : AV → AV} (h1 : ∀ r lo n es, f (.sl (.own r lo) n es) = .sl (.own r lo) n es) (h2 : ∀ s off, f (.ptr s off) = .ptr s off) (h3 : ∀ r lo i cells off, f (.ep (.own r lo) i cells off) = .ep (.own r lo) i cells off) (h4 : ∀ s, f (.mp s) = .mp s) : ∀ x : AV, x.mapH f = x
  | .undef => rfl
  | .v _ => rfl
  | .agg cs => by simp only [AV.mapH, mapHL_id h1 h2 h3 h4 cs]
  | .tup cs => by simp only [AV.mapH, mapHL_id h1 h2 h3 h4 cs]
  | .sl (.own r lo) n es => h1 r lo n es
  | .sl .no _ _ => rfl
  | .sl .full _ _ => rfl
  | .ptr s off => h2 s off
  | .ep (.own r lo) i cells off => h3 r lo i cells off
  | .ep .no _ _ _ => rfl
  | .ep .full _ _ _ => rfl
  | .fn _ caps => by simp only [AV.mapH, mapHL_id h1 h2 h3 h4 caps]
  | .mv _ caps => by simp only [AV.mapH, mapHL_id h1 h2 h3 h4 caps]
  | .mp s => h4 s
  | .ifc _ x => by simp only [AV.mapH, mapH_id h1 h2 h3 h4 x]
  | .mem _ xs => by simp only [AV.mapH, mapHL_id h1 h2 h3 h4 xs]
theorem mapHL_id {f : AV → AV} (h1 : ∀ r lo n es, f (.sl (.own r lo) n es) = .sl (.own r lo) n es) (h2 : ∀ s off, f (.ptr s off) = .ptr s off) (h3 : ∀ r lo i cells off, f (.ep (.own r lo) i cells off) = .ep (.own r lo) i cells off) (h4 : ∀ s, f (.mp s) = .mp s) : ∀ xs : List AV, mapHL f xs = xs
  | [] => rfl
  | x :: xs => by simp only [mapHL, mapH_id h1 h2 h3 h4 x, mapHL_id h1 h2 h3 h4 xs]
end
theorem mapHL_map (f : AV → AV) : ∀ cs : List AV, mapHL f cs = cs.map (AV.mapH f)
  | [] => rfl
  | c :: cs => by simp only [mapHL, mapHL_map f cs, List.map_cons]
section
variable {S T : List Nat} {g g' : Gh} {w w' : World} {r r' lo n i off : Nat} {es : List (List AV)} {cells : List AV} {u : Value}
theorem OwnSl.map (hro : ∀ b, b < w.heap.size → isRo g b → isRo g' b ∧ w'.heap[b]? = w.heap[b]?) (hr : g'.row r' = g.row r) (ho : g.row r < w.heap.size → g.own (g.row r) = .row r → g'.own (g.row r) = .row r' ∧ w'.heap[g.row r]? = w.heap[g.row r]?) (hu : OwnSl g w r lo n es u) : OwnSl g' w' r' lo n es u := by
  refine ⟨hu.1, ?_⟩
  rcases hu.2 with hu | hu | ⟨cap, cur, T', h1, h2, h3, h5, h6, h7, h8⟩
  · exact .inl hu
  · exact .inr (.inl hu)
  · obtain ⟨k1, k2⟩ := ho (lt_of_heap h6) h5
    rw [← hr] at h1 h5 h6 h8 k1 k2
    exact .inr (.inr ⟨cap, cur, T', h1, h2, h3, k1, k2.trans h6, h7, PRe.mono_at hro es _ n 0 k2 h8⟩)
theorem EpAt.map (hro : ∀ b, b < w.heap.size → isRo g b → isRo g' b ∧ w'.heap[b]? = w.heap[b]?) (hr : g'.row r' = g.row r) (ho : g.row r < w.heap.size → g.own (g.row r) = .row r → g'.own (g.row r) = .row r' ∧ w'.heap[g.row r]? = w.heap[g.row r]?) (hu : EpAt g w (.own r lo) i cells off u) : EpAt g' w' (.own r' lo) i cells off u := by
  obtain ⟨cur, T', h1, h2, h3, h4, h5⟩ := hu
  obtain ⟨k1, k2⟩ := ho (lt_of_heap h3) h2
  rw [← hr] at h1 h2 h3 h5 k1 k2
  exact ⟨cur, T', h1, k1, k2.trans h3, h4, PRc.mono_at hro cells _ 0 k2 h5⟩
theorem OwnSl.ro (hro : ∀ b, b < w.heap.size → isRo g b → isRo g' b ∧ w.heap[b]? = w.heap[b]?) (ho : g.own (g.row r) = .row r → g'.own (g.row r) = .ro) (hu : OwnSl g w r lo n es u) : VR g' w (.sl .no n es) u := by
  simp only [VR, PR]
  refine ⟨(fun _ _ h => by cases h), ?_⟩
  rcases hu.2 with ⟨h1, h2⟩ | ⟨_, h2, a', cap, h3, h4⟩ | ⟨cap, cur, T', h1, h2, h3, h5, h6, h7, h8⟩
  · subst h2; exact ⟨_, 0, h1, by simp, by simp [maxLen], (by intro h; cases h), hu.1, .inl rfl⟩
  · subst h2; exact ⟨_, cap, h3, by simp, h4, (by intro h; cases h), hu.1, .inl rfl⟩
  · exact ⟨_, cap, h1, h2, by omega, (by intro h; cases h), hu.1, .inr ⟨_, rfl, ho h5, PRe.mono_at hro es _ n 0 rfl h8⟩⟩
theorem Lasts.sl (h : Lasts S T g w g' w') (r lo n : Nat) (es : List (List AV)) (u : Value) (hu : OwnSl g w r lo n es u) : VR g' w' (AV.killH S T (.sl (.own r lo) n es)) u := by
  simp only [AV.killH]
  split
  · simp [VR]
  · rename_i hr
    exact hu.map h.ro' (h.rows r hr) (fun hb => h.row _ r hb hr)
theorem Lasts.ep (h : Lasts S T g w g' w') (r lo i : Nat) (cells : List AV) (off : Nat) (u : Value) (hu : EpAt g w (.own r lo) i cells off u) : VR g' w' (AV.killH S T (.ep (.own r lo) i cells off)) u := by
  simp only [AV.killH]
  split
  · simp [VR]
  · rename_i hr
    exact hu.map h.ro' (h.rows r hr) (fun hb => h.row _ r hb hr)
theorem Lasts.ptr (h : Lasts S T g w g' w') (s off : Nat) (u : Value) (hu : VR g w (.ptr s off) u) : VR g' w' (AV.killH S T (.ptr s off)) u := by
  simp only [AV.killH]
  split
  · simp [VR]
  · rename_i hs
    simp only [VR] at hu ⊢
    rw [h.boxes s hs]; exact hu
theorem Lasts.mp (h : Lasts S T g w g' w') (s : Nat) (u : Value) (hu : VR g w (.mp s) u) : VR g' w' (AV.killH S T (.mp s)) u := by
  simp only [AV.killH]
  split
  · simp [VR]
  · rename_i hs
    simp only [VR] at hu ⊢
    rw [h.boxes s hs]; exact hu
theorem VR.lasts (h : Lasts S T g w g' w') : ∀ (x : AV) (u : Value), VR g w x u → VR g' w' (x.kill S T) u := VR.mapH h.ro' h.sl h.ptr h.ep h.mp
theorem VRs.lasts (h : Lasts S T g w g' w') : ∀ (cs : List AV) (us : List Value), VRs g w cs us → VRs g' w' (killL S T cs) us := VRs.mapH h.ro' h.sl h.ptr h.ep h.mp
end
end Go.Abs
namespace Go.Abs
structure Ctx where
  P : Program
  G : Nat → Option (List AV)
structure St where
  tmps : List (Nat × AV)
  objs : List (Nat × List AV)
def lk {α : Type} (k : Nat) : List (Nat × α) → Option α
  | [] => none
  | (j, x) :: l => if j = k then some x else lk k l
def killT (S T : List Nat) : List (Nat × AV) → List (Nat × AV)
  | [] => []
  | (k, x) :: l => (k, x.kill S T) :: killT S T l
def killO (S T : List Nat) : List (Nat × List AV) → List (Nat × List AV)
  | [] => []
  | (k, x) :: l => if k ∈ T then killO S T l else (k, killL S T x) :: killO S T l
def St.kill (S T : List Nat) (st : St) : St := ⟨killT S T st.tmps, killO S T st.objs⟩
def St.put (d : Option Nat) (x : AV) (st : St) : St :=
  match d with
  | some k => ⟨(k, x) :: st.tmps, st.objs⟩
  | none => st
def ev (C : Ctx) (st : St) : Operand → AV
  | .tmp t => (lk t st.tmps).getD .undef
  | .const v => .v v
  | .func f => .fn f []
  | .global i => match C.G i with
    | some cs => .ep .no 0 cs 0
    | none => .undef
structure A0 where
  w : World
  g : Gh
  ext : List Nat
  d : List Deferred
def A0.fixed (A : A0) (b : Nat) : Prop := A.g.own b = .ro ∨ A.g.own b = .other
def SameTape (w w' : World) : Prop := w'.tape = w.tape ∧ w.drawn ≤ w'.drawn
structure Fr (C : Ctx) (A : A0) (g : Gh) (w : World) : Prop where
  os : w.os = A.w.os
  tape : SameTape A.w w
  output : w.output = A.w.output
  size : A.w.heap.size ≤ w.heap.size
  keep : ∀ b, b < A.w.heap.size → A.fixed b → w.heap[b]? = A.w.heap[b]? ∧ g.own b = A.g.own b
  box : ∀ s, s ∈ A.ext → g.box s = A.g.box s
  glob : ∀ i cs, C.G i = some cs → 0 < cs.length ∧ isRo g i ∧ PRc (isRo g) w cs ⟨i, 0, none⟩ 0
theorem Fr.anyD {C : Ctx} {w : World} {g : Gh} {e : List Nat} {d d' : List Deferred} {g' : Gh} {w' : World} (h : Fr C ⟨w, g, e, d⟩ g' w') : Fr C ⟨w, g, e, d'⟩ g' w' := ⟨h.1, h.2, h.3, h.4, h.5, h.6, h.7⟩
def flatE : List MapEntry → List Value
  | [] => []
  | e :: es => e.key :: e.val :: flatE es
def ObjAt (g : Gh) (w : World) (s : Nat) (cs : List AV) : Prop :=
  g.own (g.box s) = .box s ∧ ((isMap s = false ∧ ∃ cur T, w.heap[g.box s]? = some (.cells cur T (0, 0)) ∧ VRs g w cs cur.toList) ∨
    (isMap s = true ∧ ∃ es clk, w.heap[g.box s]? = some (.map es clk) ∧ VRs g w cs (flatE es.toList)))
theorem ObjAt.lift {g g' : Gh} {w w' : World} {s s' : Nat} {cs cs' : List AV} (h : ObjAt g w s cs) (hk : isMap s' = isMap s) (ho : g'.own (g'.box s') = .box s') (hh : w'.heap[g'.box s']? = w.heap[g.box s]?)
    (hv : ∀ us, VRs g w cs us → VRs g' w' cs' us) : ObjAt g' w' s' cs' := by
  obtain ⟨_, ⟨h1, cur, T, h2, h3⟩ | ⟨h1, es, clk, h2, h3⟩⟩ := h
  · exact ⟨ho, .inl ⟨hk.trans h1, cur, T, hh.trans h2, hv _ h3⟩⟩
  · exact ⟨ho, .inr ⟨hk.trans h1, es, clk, hh.trans h2, hv _ h3⟩⟩
theorem ObjAt.cells {g : Gh} {w : World} {s : Nat} {cs : List AV} (h : ObjAt g w s cs) (hk : isMap s = false) : ∃ cur T, w.heap[g.box s]? = some (.cells cur T (0, 0)) ∧ VRs g w cs cur.toList := by
  obtain ⟨_, ⟨_, h⟩ | ⟨h1, _⟩⟩ := h
  · exact h
  · rw [hk] at h1; cases h1
structure R (C : Ctx) (A : A0) (N : Nat) (g : Gh) (st : St) (a : Act) (w : World) : Prop where
  size : a.tmps.size = N
  defs : a.defers = A.d
  tm : ∀ k x, lk k st.tmps = some x → ∃ u, a.tmps[k]? = some u ∧ VR g w x u
  ob : ∀ s cs, lk s st.objs = some cs → ObjAt g w s cs
  fr : Fr C A g w
theorem lk_killT (S T : List Nat) (k : Nat) : ∀ l : List (Nat × AV), lk k (killT S T l) = (lk k l).map (·.kill S T)
  | [] => rfl
  | (j, x) :: l => by
    simp only [killT, lk]
    split
    · rfl
    · exact lk_killT S T k l
theorem lk_killO (S T : List Nat) (k : Nat) : ∀ l : List (Nat × List AV), lk k (killO S T l) = if k ∈ T then none else (lk k l).map (killL S T)
  | [] => by simp [killO, lk]
  | (j, x) :: l => by
    simp only [killO]
    by_cases hj : j ∈ T
    · simp only [hj, if_true]
      rw [lk_killO S T k l]
      by_cases hk : k ∈ T
      · simp [hk]
      · have : j ≠ k := fun e => hk (e ▸ hj)
        simp [hk, lk, this]
    · simp only [hj, if_false, lk]
      by_cases hjk : j = k
      · subst hjk; simp [hj]
      · simp only [hjk, if_false]
        exact lk_killO S T k l
section
variable {C : Ctx} {A : A0} {N : Nat} {g g' : Gh} {st : St} {a : Act} {w w' : World}
theorem VRs.length : ∀ {cs : List AV} {us : List Value}, VRs g w cs us → cs.length = us.length
  | [], [], _ => rfl
  | [], _ :: _, h => by simp [VRs] at h
  | _ :: _, [], h => by simp [VRs] at h
  | c :: cs, u :: us, h => by
    simp only [VRs] at h
    simp [VRs.length h.2]
theorem Fr.step (h : Fr C A g w) {S T : List Nat} (hl : Lasts S T g w g' w') (hos : w'.os = w.os) (htape : SameTape w w') (hout : w'.output = w.output) (hsz : w.heap.size ≤ w'.heap.size)
    (hother : ∀ b, b < w.heap.size → g.own b = .other → g'.own b = .other ∧ w'.heap[b]? = w.heap[b]?) (hext : ∀ s, s ∈ A.ext → s ∉ T) : Fr C A g' w' where
  os := hos.trans h.os
  tape := ⟨htape.1.trans h.tape.1, Nat.le_trans h.tape.2 htape.2⟩
  output := hout.trans h.output
  size := Nat.le_trans h.size hsz
  keep := fun b hb hf => by
    have hk := h.keep b hb hf
    have hlt : b < w.heap.size := Nat.lt_of_lt_of_le hb h.size
    rcases hf with hf | hf
    · have := hl.ro b hlt (hk.2.trans hf)
      exact ⟨this.2.trans hk.1, this.1.trans hf.symm⟩
    · have := hother b hlt (hk.2.trans hf)
      exact ⟨this.2.trans hk.1, this.1.trans hf.symm⟩
  box := fun s hs => (hl.boxes s (hext s hs)).trans (h.box s hs)
  glob := fun i cs hi => by
    obtain ⟨h1, h2, h3⟩ := h.glob i cs hi
    match cs, h1, h3 with
    | c :: cs, h1, h3 =>
      have h3' := h3
      simp only [PRc] at h3'
      obtain ⟨⟨u, hu, _⟩, _⟩ := h3'
      have hlt := lt_of_cell hu
      rw [add_block] at hlt
      exact ⟨h1, (hl.ro i hlt h2).1, PRc.mono hl.ro' _ ⟨i, 0, none⟩ 0 h2 h3⟩
theorem R.lasts (h : R C A N g st a w) {S T : List Nat} (hl : Lasts S T g w g' w') (hfr : Fr C A g' w')
    (hbox : ∀ s cs, lk s st.objs = some cs → s ∉ T → g'.own (g.box s) = .box s ∧ w'.heap[g.box s]? = w.heap[g.box s]?) : R C A N g' (st.kill S T) a w' where
  size := h.size
  defs := h.defs
  tm := fun k x hx => by
    simp only [St.kill, lk_killT] at hx
    obtain ⟨y, hy, rfl⟩ := Option.map_eq_some_iff.1 hx
    obtain ⟨u, hu, hv⟩ := h.tm k y hy
    exact ⟨u, hu, VR.lasts hl y u hv⟩
  ob := fun s cs hs => by
    simp only [St.kill, lk_killO] at hs
    by_cases hT : s ∈ T
    · simp [hT] at hs
    · simp only [hT, if_false] at hs
      obtain ⟨y, hy, rfl⟩ := Option.map_eq_some_iff.1 hs
      obtain ⟨k1, k2⟩ := hbox s y hy hT
      exact (h.ob s y hy).lift rfl (by rw [hl.boxes s hT]; exact k1) (by rw [hl.boxes s hT]; exact k2) (fun us hu => VRs.lasts hl _ _ hu)
  fr := hfr
theorem R.put (h : R C A N g st a w) {d : Option Nat} (hd : ∀ k, d = some k → k < N) {x : AV} {u : Value} (hx : VR g w x u) : R C A N g (st.put d x) (a.put d u) w := by
  cases d with
  | none => exact h
  | some k =>
    have hk := hd k rfl
    refine ⟨by simp [Act.put, h.size], by simp [Act.put, h.defs], fun j y hy => ?_, h.ob, h.fr⟩
    simp only [St.put, lk] at hy
    by_cases hjk : k = j
    · subst hjk
      simp only [if_true, Option.some.injEq] at hy
      subst hy
      refine ⟨u, ?_, hx⟩
      simp [Act.put, h.size, hk]
    · simp only [hjk, if_false] at hy
      obtain ⟨v, hv, hr⟩ := h.tm j y hy
      exact ⟨v, by simp [Act.put, Array.getElem?_setIfInBounds_ne hjk, hv], hr⟩
theorem R.ev (h : R C A N g st a w) (x : Operand) : VR g w (ev C st x) (a.eval x) := by
  cases x with
  | tmp t =>
    simp only [Abs.ev]
    cases ht : lk t st.tmps with
    | none => simp [VR]
    | some y =>
      obtain ⟨u, hu, hv⟩ := h.tm t y ht
      have : a.eval (.tmp t) = u := by simp [Act.eval, hu]
      rw [this]; exact hv
  | const v => simp [Abs.ev, VR, Act.eval]
  | func f => exact ⟨#[], rfl, by simp [VRs]⟩
  | global i =>
    simp only [Abs.ev]
    cases hi : C.G i with
    | none => simp [VR]
    | some cs =>
      obtain ⟨h1, h2, h3⟩ := h.fr.glob i cs hi
      exact ⟨⟨i, 0, none⟩, rfl, h1, h2, h3⟩
end
def pureA : AV → Option AV
  | .undef => some .undef
  | .v x => some (.v x)
  | .sl (.own r 0) n es => some (.sl .no n es)
  | .sl .no n es => some (.sl .no n es)
  | .sl .full n es => some (.sl .full n es)
  | .fn f [] => some (.fn f [])
  | _ => none
def pureL : List AV → Option (List AV)
  | [] => some []
  | c :: cs => match pureA c, pureL cs with
    | some x, some xs => some (x :: xs)
    | _, _ => none
def rowsOf : List AV → List Nat
  | [] => []
  | .sl (.own r 0) _ _ :: cs => r :: rowsOf cs
  | _ :: cs => rowsOf cs
def AV.freezeH (S : List Nat) : AV → AV
  | .sl (.own r lo) n es => if r ∈ S then .sl .no n es else .sl (.own r lo) n es
  | .ptr s off => .ptr s off
  | .ep (.own r lo) i cells off => if r ∈ S then .undef else .ep (.own r lo) i cells off
  | .mp s => .mp s
  | x => x
def AV.freeze (S : List Nat) (x : AV) : AV := x.mapH (AV.freezeH S)
def freezeL (S : List Nat) (cs : List AV) : List AV := mapHL (AV.freezeH S) cs
def Gh.freeze (S : List Nat) (g : Gh) : Gh :=
  { g with own := fun b => match g.own b with
    | .row r => if r ∈ S then .ro else .row r
    | o => o }
section
variable {C : Ctx} {A : A0} {N : Nat} {g g' : Gh} {st : St} {a : Act} {w w' : World} {S : List Nat}
theorem freeze_ro (b : Nat) (h : g.own b = .ro) : (g.freeze S).own b = .ro := by simp [Gh.freeze, h]
theorem freeze_row (b r : Nat) (h : g.own b = .row r) (hr : r ∈ S) : (g.freeze S).own b = .ro := by simp [Gh.freeze, h, hr]
theorem freeze_row' (b r : Nat) (h : g.own b = .row r) (hr : r ∉ S) : (g.freeze S).own b = .row r := by simp [Gh.freeze, h, hr]
theorem freeze_box (b s : Nat) (h : g.own b = .box s) : (g.freeze S).own b = .box s := by simp [Gh.freeze, h]
theorem freeze_other (b : Nat) (h : g.own b = .other) : (g.freeze S).own b = .other := by simp [Gh.freeze, h]
theorem roFreeze : ∀ b, b < w.heap.size → isRo g b → isRo (g.freeze S) b ∧ w.heap[b]? = w.heap[b]? := fun b _ h => ⟨freeze_ro b h, rfl⟩
theorem cell_of_cells {w : World} {b : Nat} {cur : Array Value} {T : TypeId} {fz : Nat × Nat} (h : w.heap[b]? = some (.cells cur T fz)) (q : Nat) : w.cell? ((⟨b, 0, none⟩ : Addr).add q) = cur[q]? := by
  rw [Addr.add_lit]; simp [World.cell?, h]
theorem freeze_sl (r lo n : Nat) (es : List (List AV)) (u : Value) (hu : OwnSl g w r lo n es u) : VR (g.freeze S) w (AV.freezeH S (.sl (.own r lo) n es)) u := by
  simp only [AV.freezeH]
  split
  · rename_i hr
    exact hu.ro roFreeze fun h => freeze_row _ r h hr
  · rename_i hr
    exact hu.map roFreeze rfl fun _ h => ⟨freeze_row' _ r h hr, rfl⟩
theorem freeze_ep (r lo i : Nat) (cells : List AV) (off : Nat) (u : Value) (hu : EpAt g w (.own r lo) i cells off u) : VR (g.freeze S) w (AV.freezeH S (.ep (.own r lo) i cells off)) u := by
  simp only [AV.freezeH]
  split
  · simp [VR]
  · rename_i hr
    exact hu.map roFreeze rfl fun _ h => ⟨freeze_row' _ r h hr, rfl⟩
theorem VR.freeze : ∀ (x : AV) (u : Value), VR g w x u → VR (g.freeze S) w (x.freeze S) u :=
  VR.mapH roFreeze freeze_sl (fun _ _ _ hu => by simpa [AV.freezeH, VR, Gh.freeze] using hu) freeze_ep (fun _ _ hu => by simpa [AV.freezeH, VR, Gh.freeze] using hu)
theorem VRs.freeze : ∀ (cs : List AV) (us : List Value), VRs g w cs us → VRs (g.freeze S) w (freezeL S cs) us :=
  VRs.mapH roFreeze freeze_sl (fun _ _ _ hu => by simpa [AV.freezeH, VR, Gh.freeze] using hu) freeze_ep (fun _ _ hu => by simpa [AV.freezeH, VR, Gh.freeze] using hu)
end
end Go.Abs
namespace Go.Abs
def PRl (ro : Nat → Prop) (w : World) : List AV → List Value → Prop
  | [], [] => True
  | c :: cs, u :: us => PR ro w c u ∧ PRl ro w cs us
  | _, _ => False
section
variable {ro ro' : Nat → Prop} {w w' : World}
theorem PRl.length : ∀ {cs : List AV} {us : List Value}, PRl ro w cs us → cs.length = us.length
  | [], [], _ => rfl
  | [], _ :: _, h => by simp [PRl] at h
  | _ :: _, [], h => by simp [PRl] at h
  | c :: cs, u :: us, h => by
    simp only [PRl] at h
    simp [PRl.length h.2]
theorem PRl.mono (h : ∀ b, b < w.heap.size → ro b → ro' b ∧ w'.heap[b]? = w.heap[b]?) : ∀ {cs : List AV} {us : List Value}, PRl ro w cs us → PRl ro' w' cs us
  | [], [], _ => by simp [PRl]
  | [], _ :: _, hu => by simp [PRl] at hu
  | _ :: _, [], hu => by simp [PRl] at hu
  | c :: cs, u :: us, hu => by
    simp only [PRl] at hu ⊢
    exact ⟨PR.mono h _ _ hu.1, PRl.mono h hu.2⟩
theorem PRl.append : ∀ {cs ds : List AV} {us vs : List Value}, PRl ro w cs us → PRl ro w ds vs → PRl ro w (cs ++ ds) (us ++ vs)
  | [], _, [], _, _, h => by simpa using h
  | [], _, _ :: _, _, hu, _ => by simp [PRl] at hu
  | _ :: _, _, [], _, hu, _ => by simp [PRl] at hu
  | c :: cs, ds, u :: us, vs, hu, h => by
    simp only [List.cons_append, PRl] at hu ⊢
    exact ⟨hu.1, PRl.append hu.2 h⟩
theorem PRl.get : ∀ {cs : List AV} {us : List Value}, PRl ro w cs us → ∀ (i : Nat) (c : AV), cs[i]? = some c → ∃ u, us[i]? = some u ∧ PR ro w c u
  | [], _, _, i, c, h => by simp at h
  | _ :: _, [], hu, _, _, _ => by simp [PRl] at hu
  | c :: cs, u :: us, hu, 0, d, h => by
    simp only [PRl] at hu
    simp at h; subst h
    exact ⟨u, by simp, hu.1⟩
  | c :: cs, u :: us, hu, i + 1, d, h => by
    simp only [PRl] at hu
    simp at h
    obtain ⟨v, h1, h2⟩ := PRl.get hu.2 i d h
    exact ⟨v, by simpa using h1, h2⟩
theorem PRl.take : ∀ {cs : List AV} {us : List Value} (n : Nat), PRl ro w cs us → PRl ro w (cs.take n) (us.take n)
  | _, _, 0, _ => by simp [PRl]
  | [], [], n + 1, _ => by simp [PRl]
  | [], _ :: _, _ + 1, hu => by simp [PRl] at hu
  | _ :: _, [], _ + 1, hu => by simp [PRl] at hu
  | c :: cs, u :: us, n + 1, hu => by
    simp only [List.take_succ_cons, PRl] at hu ⊢
    exact ⟨hu.1, PRl.take n hu.2⟩
theorem PRl.drop : ∀ {cs : List AV} {us : List Value} (n : Nat), PRl ro w cs us → PRl ro w (cs.drop n) (us.drop n)
  | _, _, 0, h => by simpa using h
  | [], [], n + 1, _ => by simp [PRl]
  | [], _ :: _, _ + 1, hu => by simp [PRl] at hu
  | _ :: _, [], _ + 1, hu => by simp [PRl] at hu
  | c :: cs, u :: us, n + 1, hu => by
    simp only [List.drop_succ_cons, PRl] at hu ⊢
    exact PRl.drop n hu.2
theorem VRs.take {g : Gh} : ∀ {cs : List AV} {us : List Value} (n : Nat), VRs g w cs us → VRs g w (cs.take n) (us.take n)
  | _, _, 0, _ => by simp [VRs]
  | [], [], n + 1, _ => by simp [VRs]
  | [], _ :: _, _ + 1, hu => by simp [VRs] at hu
  | _ :: _, [], _ + 1, hu => by simp [VRs] at hu
  | c :: cs, u :: us, n + 1, hu => by
    simp only [List.take_succ_cons, VRs] at hu ⊢
    exact ⟨hu.1, VRs.take n hu.2⟩
theorem VRs.drop {g : Gh} : ∀ {cs : List AV} {us : List Value} (n : Nat), VRs g w cs us → VRs g w (cs.drop n) (us.drop n)
  | _, _, 0, h => by simpa using h
  | [], [], n + 1, _ => by simp [VRs]
  | [], _ :: _, _ + 1, hu => by simp [VRs] at hu
  | _ :: _, [], _ + 1, hu => by simp [VRs] at hu
  | c :: cs, u :: us, n + 1, hu => by
    simp only [List.drop_succ_cons, VRs] at hu ⊢
    exact VRs.drop n hu.2
theorem VRs.append {g : Gh} : ∀ {cs ds : List AV} {us vs : List Value}, VRs g w cs us → VRs g w ds vs → VRs g w (cs ++ ds) (us ++ vs)
  | [], _, [], _, _, h => by simpa using h
  | [], _, _ :: _, _, hu, _ => by simp [VRs] at hu
  | _ :: _, _, [], _, hu, _ => by simp [VRs] at hu
  | c :: cs, ds, u :: us, vs, hu, h => by
    simp only [List.cons_append, VRs] at hu ⊢
    exact ⟨hu.1, VRs.append hu.2 h⟩
theorem VRs.get {g : Gh} : ∀ {cs : List AV} {us : List Value}, VRs g w cs us → ∀ (i : Nat) (c : AV), cs[i]? = some c → ∃ u, us[i]? = some u ∧ VR g w c u
  | [], _, _, i, c, h => by simp at h
  | _ :: _, [], hu, _, _, _ => by simp [VRs] at hu
  | c :: cs, u :: us, hu, 0, d, h => by
    simp only [VRs] at hu
    simp at h; subst h
    exact ⟨u, by simp, hu.1⟩
  | c :: cs, u :: us, hu, i + 1, d, h => by
    simp only [VRs] at hu
    simp at h
    obtain ⟨v, h1, h2⟩ := VRs.get hu.2 i d h
    exact ⟨v, by simpa using h1, h2⟩
theorem PR.VR {g : Gh} : ∀ (x : AV) (u : Value), PR (isRo g) w x u → VR g w x u
  | .undef, _, _ => by simp [Abs.VR]
  | .v x, u, h => by simp only [PR] at h; simp only [Abs.VR]; exact h.1
  | .sl (.own r lo) n es, u, h => by simp [PR] at h
  | .sl .no n es, u, h => by simpa [Abs.VR] using h
  | .sl .full n es, u, h => by simpa [Abs.VR] using h
  | .agg _, _, hu => by simp [PR] at hu
  | .tup _, _, hu => by simp [PR] at hu
  | .ptr _ _, _, hu => by simp [PR] at hu
  | .ep _ _ _ _, _, hu => by simp [PR] at hu
  | .fn _ _, _, hu => by simp only [PR] at hu; obtain ⟨rfl, rfl⟩ := hu; simp only [Abs.VR]; exact ⟨#[], rfl, by simp [Abs.VRs]⟩
  | .mv _ _, _, hu => by simp [PR] at hu
  | .mp _, _, hu => by simp [PR] at hu
  | .ifc _ _, _, hu => by simp [PR] at hu
  | .mem _ _, _, hu => by simp [PR] at hu
theorem PR.one {x : AV} {u : Value} (h : PR ro w x u) : u.oneCell' = true := by
  cases x with
  | undef => simpa [PR] using h
  | v x => simp only [PR] at h; rw [h.1]; exact h.2
  | sl t n es => simp only [PR] at h; obtain ⟨_, _, _, rfl, _⟩ := h; rfl
  | fn f caps => simp only [PR] at h; obtain ⟨rfl, rfl⟩ := h; rfl
  | _ => simp [PR] at h
theorem PRl.one : ∀ {cs : List AV} {us : List Value}, PRl ro w cs us → ∀ u ∈ us, u.oneCell' = true
  | [], [], _, u, hu => by simp at hu
  | [], _ :: _, hu, _, _ => by simp [PRl] at hu
  | _ :: _, [], hu, _, _ => by simp [PRl] at hu
  | c :: cs, v :: us, h, u, hu => by
    simp only [PRl] at h
    rcases List.mem_cons.1 hu with rfl | hu
    · exact PR.one h.1
    · exact PRl.one h.2 u hu
theorem PRl.VRs {g : Gh} : ∀ {cs : List AV} {us : List Value}, PRl (isRo g) w cs us → VRs g w cs us
  | [], [], _ => by simp [Abs.VRs]
  | [], _ :: _, hu => by simp [PRl] at hu
  | _ :: _, [], hu => by simp [PRl] at hu
  | c :: cs, u :: us, hu => by
    simp only [PRl, Abs.VRs] at hu ⊢
    exact ⟨PR.VR _ _ hu.1, PRl.VRs hu.2⟩
theorem add_add (a : Addr) (i j : Nat) : (a.add i).add j = a.add (i + j) := by
  unfold Addr.add
  by_cases hi : i = 0 <;> by_cases hj : j = 0 <;> simp [hi, hj, Nat.add_assoc]
theorem add_lit (b o n : Nat) : Addr.add ⟨b, o, none⟩ n = ⟨b, o + n, none⟩ := Addr.add_lit b o n
theorem PRc.list : ∀ (cs : List AV) (ad : Addr) (j : Nat), PRc ro w cs ad j → ∃ us : List Value, PRl ro w cs us ∧ ∀ i v, us[i]? = some v → w.cell? (ad.add (j + i)) = some v
  | [], ad, j, _ => ⟨[], by simp [PRl], by simp⟩
  | c :: cs, ad, j, h => by
    simp only [PRc] at h
    obtain ⟨⟨u, h1, h2⟩, h3⟩ := h
    obtain ⟨us, h4, h5⟩ := PRc.list cs ad (j + 1) h3
    refine ⟨u :: us, by simp only [PRl]; exact ⟨h2, h4⟩, fun i v hv => ?_⟩
    cases i with
    | zero => simp at hv; subst hv; simpa using h1
    | succ i =>
      simp at hv
      have := h5 i v hv
      rwa [Nat.add_assoc, Nat.add_comm 1 i] at this
theorem PRc.of_list : ∀ (cs : List AV) (us : List Value) (ad : Addr) (j : Nat), PRl ro w cs us → (∀ i v, us[i]? = some v → w.cell? (ad.add (j + i)) = some v) → PRc ro w cs ad j
  | [], _, _, _, _, _ => by simp [PRc]
  | _ :: _, [], _, _, h, _ => by simp [PRl] at h
  | c :: cs, u :: us, ad, j, h, hc => by
    simp only [PRl] at h
    simp only [PRc]
    refine ⟨⟨u, by simpa using hc 0 u (by simp), h.1⟩, PRc.of_list cs us ad (j + 1) h.2 fun i v hv => ?_⟩
    have := hc (i + 1) v (by simpa using hv)
    rwa [Nat.add_assoc, Nat.add_comm 1 i]
theorem PRe.list : ∀ (es : List (List AV)) (ad : Addr) (n i : Nat), PRe ro w es ad n i → ∃ us : List Value, PRl ro w es.flatten us ∧ us.length = es.length * n ∧ ∀ j v, us[j]? = some v → w.cell? (ad.add (i * n + j)) = some v
  | [], ad, n, i, _ => ⟨[], by simp [PRl], by simp, by simp⟩
  | e :: es, ad, n, i, h => by
    simp only [PRe] at h
    obtain ⟨hl, h1, h2⟩ := h
    obtain ⟨us, h3, h4⟩ := PRc.list e ad (i * n) h1
    obtain ⟨vs, h5, h6, h7⟩ := PRe.list es ad n (i + 1) h2
    have hul : us.length = n := by rw [← PRl.length h3, hl]
    refine ⟨us ++ vs, by simpa using PRl.append h3 h5, by simp [hul, h6, Nat.add_mul, Nat.add_comm], fun j v hv => ?_⟩
    rw [List.getElem?_append] at hv
    split at hv
    · exact h4 j v hv
    · have := h7 _ v hv
      rw [show (i + 1) * n + (j - us.length) = i * n + j from by rw [Nat.add_mul, Nat.one_mul]; omega] at this
      exact this
theorem PRe.of_list : ∀ (es : List (List AV)) (us : List Value) (ad : Addr) (n i : Nat), (∀ e ∈ es, e.length = n) → PRl ro w es.flatten us → (∀ j v, us[j]? = some v → w.cell? (ad.add (i * n + j)) = some v) → PRe ro w es ad n i
  | [], _, _, _, _, _, _, _ => by simp [PRe]
  | e :: es, us, ad, n, i, hl, h, hc => by
    have hel : e.length = n := hl e (by simp)
    simp only [PRe]
    simp only [List.flatten_cons] at h
    have hlen := PRl.length h
    rw [List.length_append] at hlen
    have h1 : PRl ro w e (us.take n) := by
      have := PRl.take n h
      rwa [← hel, List.take_left, hel] at this
    have h2 : PRl ro w es.flatten (us.drop n) := by
      have := PRl.drop n h
      rwa [← hel, List.drop_left, hel] at this
    refine ⟨hel, PRc.of_list e _ ad (i * n) h1 fun j v hv => ?_, PRe.of_list es _ ad n (i + 1) (fun e he => hl e (by simp [he])) h2 fun j v hv => ?_⟩
    · rw [List.getElem?_take] at hv
      split at hv
      · exact hc j v hv
      · cases hv
    · rw [List.getElem?_drop] at hv
      have := hc _ v hv
      rwa [show i * n + (n + j) = (i + 1) * n + j from by rw [Nat.add_mul, Nat.one_mul]; omega] at this
theorem PRe.lens : ∀ {es : List (List AV)} {ad : Addr} {n i : Nat}, PRe ro w es ad n i → ∀ e ∈ es, e.length = n
  | [], _, _, _, _, e, he => by simp at he
  | e :: es, ad, n, i, h, d, hd => by
    simp only [PRe] at h
    rcases List.mem_cons.1 hd with rfl | hd
    · exact h.1
    · exact PRe.lens h.2.2 d hd
theorem PRe.at_ : ∀ (es : List (List AV)) (ad : Addr) (n i : Nat), PRe ro w es ad n i → ∀ (k : Nat) (e : List AV), es[k]? = some e → e.length = n ∧ PRc ro w e ad ((i + k) * n)
  | [], _, _, _, _, k, e, h => by simp at h
  | e :: es, ad, n, i, h, 0, d, hd => by
    simp only [PRe] at h
    simp at hd; subst hd
    exact ⟨h.1, by simpa using h.2.1⟩
  | e :: es, ad, n, i, h, k + 1, d, hd => by
    simp only [PRe] at h
    simp at hd
    have := PRe.at_ es ad n (i + 1) h.2.2 k d hd
    rwa [show i + 1 + k = i + (k + 1) from by omega] at this
theorem PRc.shift (cs : List AV) (ad : Addr) (k j : Nat) : PRc ro w cs ad (k + j) → PRc ro w cs (ad.add k) j := by
  intro h
  obtain ⟨us, h1, h2⟩ := PRc.list cs ad (k + j) h
  exact PRc.of_list cs us _ j h1 fun i v hv => by rw [add_add]; have := h2 i v hv; rwa [Nat.add_assoc] at this
end
def St.mapH (f : AV → AV) (st : St) : St := ⟨st.tmps.map (fun p => (p.1, p.2.mapH f)), st.objs.map (fun p => (p.1, mapHL f p.2))⟩
def St.freeze (S : List Nat) (st : St) : St := st.mapH (AV.freezeH S)
theorem lk_map {α β : Type} (f : α → β) (k : Nat) : ∀ l : List (Nat × α), lk k (l.map fun p => (p.1, f p.2)) = (lk k l).map f
  | [] => rfl
  | (j, x) :: l => by
    simp only [List.map_cons, lk]
    split
    · rfl
    · exact lk_map f k l
section
variable {C : Ctx} {A : A0} {N : Nat} {g g' : Gh} {st : St} {a : Act} {w w' : World}
theorem Fr.freeze (h : Fr C A g w) (S : List Nat) : Fr C A (g.freeze S) w where
  os := h.os
  tape := h.tape
  output := h.output
  size := h.size
  keep := fun b hb hf => by
    obtain ⟨h1, h2⟩ := h.keep b hb hf
    refine ⟨h1, ?_⟩
    rcases hf with hf | hf
    · rw [hf] at h2 ⊢; exact freeze_ro b h2
    · rw [hf] at h2 ⊢; exact freeze_other b h2
  box := h.box
  glob := fun i cs hi => by
    obtain ⟨h1, h2, h3⟩ := h.glob i cs hi
    exact ⟨h1, freeze_ro i h2, PRc.mono roFreeze _ _ 0 h2 h3⟩
theorem R.mapH {f : AV → AV} (h : R C A N g st a w) (hv : ∀ x u, VR g w x u → VR g' w' (x.mapH f) u) (hvs : ∀ cs us, VRs g w cs us → VRs g' w' (mapHL f cs) us)
    (hb : ∀ s, g.own (g.box s) = .box s → g'.box s = g.box s ∧ g'.own (g.box s) = .box s ∧ w'.heap[g.box s]? = w.heap[g.box s]?) (hfr : Fr C A g' w') : R C A N g' (st.mapH f) a w' where
  size := h.size
  defs := h.defs
  tm := fun k x hx => by
    simp only [St.mapH, lk_map] at hx
    obtain ⟨y, hy, rfl⟩ := Option.map_eq_some_iff.1 hx
    obtain ⟨u, hu, h1⟩ := h.tm k y hy
    exact ⟨u, hu, hv y u h1⟩
  ob := fun s cs hs => by
    simp only [St.mapH, lk_map] at hs
    obtain ⟨y, hy, rfl⟩ := Option.map_eq_some_iff.1 hs
    obtain ⟨h1, h2, h3⟩ := hb s (h.ob s y hy).1
    exact (h.ob s y hy).lift rfl (by rw [h1]; exact h2) (by rw [h1]; exact h3) (fun us hu => hvs _ _ hu)
  fr := hfr
theorem R.freeze (h : R C A N g st a w) (S : List Nat) : R C A N (g.freeze S) (st.freeze S) a w :=
  h.mapH VR.freeze VRs.freeze (fun s hs => ⟨rfl, freeze_box _ s hs, rfl⟩) (h.fr.freeze S)
def Gh.newBox (g : Gh) (b s : Nat) : Gh := { own := fun x => if x = b then .box s else g.own x, box := fun x => if x = s then b else g.box x, row := g.row }
def Gh.newRow (g : Gh) (b r : Nat) : Gh := { own := fun x => if x = b then .row r else g.own x, box := g.box, row := fun x => if x = r then b else g.row x }
theorem alloc_old (w : World) (o : Obj) (b : Nat) (h : b < w.heap.size) : (w.alloc o).heap[b]? = w.heap[b]? := by
  show (w.heap.push o)[b]? = _
  rw [Array.getElem?_push, if_neg (by omega)]
theorem lasts_newBox (g : Gh) (w : World) (o : Obj) (s : Nat) : Lasts [] [s] g w (g.newBox w.heap.size s) (w.alloc o) where
  ro := fun b hb h => ⟨by simp [Gh.newBox, Nat.ne_of_lt hb, h], alloc_old w o b hb⟩
  row := fun b q hb _ h => ⟨by simp [Gh.newBox, Nat.ne_of_lt hb, h], alloc_old w o b hb⟩
  rows := fun _ _ => rfl
  boxes := fun q hq => by simp at hq; simp [Gh.newBox, hq]
theorem lasts_newRow (g : Gh) (w : World) (o : Obj) (r : Nat) (S : List Nat) (hr : r ∈ S) : Lasts S [] g w (g.newRow w.heap.size r) (w.alloc o) where
  ro := fun b hb h => ⟨by simp [Gh.newRow, Nat.ne_of_lt hb, h], alloc_old w o b hb⟩
  row := fun b q hb _ h => ⟨by simp [Gh.newRow, Nat.ne_of_lt hb, h], alloc_old w o b hb⟩
  rows := fun q hq => by
    have : q ≠ r := fun e => hq (e ▸ hr)
    simp [Gh.newRow, this]
  boxes := fun _ _ => rfl
theorem ObjAt.lt {s : Nat} {cs : List AV} (h : ObjAt g w s cs) : g.box s < w.heap.size := by
  obtain ⟨_, ⟨_, cur, T, h2, _⟩ | ⟨_, es, clk, h2, _⟩⟩ := h
  · exact lt_of_heap h2
  · exact lt_of_heap h2
theorem R.newBox (h : R C A N g st a w) (s : Nat) (hmp : isMap s = false) (hs : s ∉ A.ext) (cur : Array Value) (T : TypeId) (cs : List AV) (hv : VRs g w cs cur.toList) :
    R C A N (g.newBox w.heap.size s) ⟨(st.kill [] [s]).tmps, (s, killL [] [s] cs) :: (st.kill [] [s]).objs⟩ a (w.alloc (.cells cur T)) := by
  have hl := lasts_newBox g w (.cells cur T) s
  have hfr : Fr C A (g.newBox w.heap.size s) (w.alloc (.cells cur T)) := h.fr.step hl rfl ⟨rfl, by first | exact Nat.le_refl _ | exact Nat.le_succ _⟩ rfl (by simp) (fun b hb ho => ⟨by simp [Gh.newBox, Nat.ne_of_lt hb, ho], alloc_old w _ b hb⟩) (fun q hq he => hs (by simpa [List.mem_singleton.1 he] using hq))
  have h1 := h.lasts hl hfr (fun q cs' hq hne => by
    have ho := h.ob q cs' hq
    exact ⟨by simp [Gh.newBox, Nat.ne_of_lt ho.lt, ho.1], alloc_old w _ _ ho.lt⟩)
  refine ⟨h1.size, h1.defs, h1.tm, fun q cs' hq => ?_, h1.fr⟩
  simp only [lk] at hq
  by_cases hsq : s = q
  · subst hsq
    simp only [if_true, Option.some.injEq] at hq
    subst hq
    refine ⟨by simp [Gh.newBox], .inl ⟨hmp, cur, T, ?_, VRs.lasts hl _ _ hv⟩⟩
    simp only [Gh.newBox, if_true]
    exact heap_alloc_new w _
  · simp only [hsq, if_false] at hq
    exact h1.ob q cs' hq
theorem R.newRow (h : R C A N g st a w) (r : Nat) (S : List Nat) (hr : r ∈ S) (cur : Array Value) (T : TypeId) (n cap : Nat) (es : List (List AV)) (us : List Value) (hn : 0 < n)
    (hl : ∀ e ∈ es, e.length = n) (hv : PRl (isRo g) w es.flatten us) (hc : cur.size = cap * n) (hcap : es.length ≤ cap) (hm : cap ≤ maxLen) (hus : ∀ (j : Nat) (v : Value), us[j]? = some v → cur[j]? = some v) :
    ∃ g', R C A N g' (st.kill S []) a (w.alloc (.cells cur T)) ∧ VR g' (w.alloc (.cells cur T)) (.sl (.own r 0) n es) (.slice (some ⟨w.heap.size, 0, none⟩) es.length cap) := by
  have hl' := lasts_newRow g w (.cells cur T) r S hr
  refine ⟨g.newRow w.heap.size r, ?_, ?_⟩
  · refine h.lasts hl' ?_ ?_
    · exact h.fr.step hl' rfl ⟨rfl, by first | exact Nat.le_refl _ | exact Nat.le_succ _⟩ rfl (by simp) (fun b hb ho => ⟨by simp [Gh.newRow, Nat.ne_of_lt hb, ho], alloc_old w _ b hb⟩) (fun q _ he => by cases he)
    · intro q cs' hq _
      have ho := h.ob q cs' hq
      exact ⟨by simp [Gh.newRow, Nat.ne_of_lt ho.lt, ho.1], alloc_old w _ _ ho.lt⟩
  · simp only [VR, OwnSl]
    refine ⟨hn, .inr (.inr ⟨cap, cur, T, by simp [Gh.newRow], hcap, by omega, by simp [Gh.newRow], ?_, by have := Nat.le_of_eq hc.symm; simpa using this, ?_⟩)⟩
    · simp only [Gh.newRow, if_true]; exact heap_alloc_new w _
    · refine PRe.of_list es us _ n 0 hl (PRl.mono hl'.ro' hv) fun j v hv => ?_
      simp only [Gh.newRow, if_true, Nat.zero_mul, Nat.zero_add, add_lit]
      rw [cell_of_row _ _ _ _ _ _ (heap_alloc_new w _)]
      exact hus j v hv
end
end Go.Abs
namespace Go.Abs
def szOf (P : Program) (t : TypeId) : Option Nat := (P.info? t).map (·.size)
def aggOf (P : Program) (t : TypeId) : Option Bool := (P.underlying t).map fun
  | .struct _ | .array _ _ => true
  | _ => false
def AV.cells : AV → List AV
  | .agg cs => cs
  | x => [x]
def okCell : AV → Bool
  | .v x => x.oneCell'
  | .sl _ _ _ | .ptr _ _ | .ep _ _ _ _ | .fn _ _ | .mv _ _ | .ifc _ _ | .mp _ => true
  | _ => false
def okCells : List AV → Bool
  | [] => true
  | c :: cs => okCell c && okCells cs
def Does (P : Program) (o : Oper) (a : Act) (w : World) (u : Value) (w' : World) : Prop :=
  (execOp a.eval o).run P w = .ok (.value u) w' ∨ ((execOp a.eval o).run P w = .ok .skip w' ∧ u = undef)
theorem Does.wp {P : Program} {o : Oper} {a : Act} {w w' : World} {u : Value} {K : Act → World → Prop} {Q : Exit → Act → World → Prop} (h : Does P o a w u w') (hk : K (a.put o.dst u) w') : o.wp P a w K Q := by
  unfold Oper.wp
  rcases h with h | ⟨h, rfl⟩ <;> rw [h] <;> exact hk
theorem does_pure {P : Program} {o : Oper} {a : Act} {w w' : World} {u : Value} {s : Sem Value} (ho : execOp a.eval o = (do pure (.value (← s)))) (h : s.run P w = .ok u w') : Does P o a w u w' := by
  refine .inl ?_
  rw [ho]
  simp [h]
section
variable {P : Program} {w : World}
theorem run_typeInfo {t : TypeId} {i : TypeInfo} (h : P.info? t = some i) : (typeInfo t).run P w = .ok i w := by simp [typeInfo, h]
theorem run_sizeOf {t : TypeId} {n : Nat} (h : szOf P t = some n) : (sizeOf t).run P w = .ok n w := by
  unfold szOf at h
  obtain ⟨i, hi, rfl⟩ := Option.map_eq_some_iff.1 h
  simp [sizeOf, run_typeInfo hi]
theorem run_isAgg {t : TypeId} {b : Bool} (h : aggOf P t = some b) : (isAgg t).run P w = .ok b w := by
  unfold aggOf at h
  obtain ⟨d, hd, rfl⟩ := Option.map_eq_some_iff.1 h
  unfold isAgg
  rw [Sem.run_bind, run_underlying hd]
  cases d <;> simp
theorem run_loadVar_agg {t : TypeId} {n : Nat} {a : Addr} {us : List Value} (h1 : aggOf P t = some true) (h2 : szOf P t = some n) (hl : us.length = n) (hc : ∀ i v, us[i]? = some v → w.cell? (a.add i) = some v) :
    (loadVar t a).run P w = .ok (.agg us.toArray) w := by
  unfold loadVar
  subst hl
  simp only [Sem.run_bind, run_isAgg h1, Result.andThen_ok, if_true, run_sizeOf h2, run_loadCells_list w a us hc, Sem.run_pure]
theorem run_loadVar_one {t : TypeId} {a : Addr} {u : Value} (h1 : aggOf P t = some false) (hc : w.cell? a = some u) : (loadVar t a).run P w = .ok u w := by
  unfold loadVar
  simp only [Sem.run_bind, run_isAgg h1, Result.andThen_ok]
  simp [hc]
end
def mkA (agg : Bool) : List AV → Option AV
  | cs => if agg then some (.agg cs) else match cs with
    | [c] => some c
    | _ => none
def loadA (agg : Bool) (n : Nat) (objs : List (Nat × List AV)) : AV → Option AV
  | .ptr s off => match lk s objs with
    | some cs => if off + n ≤ cs.length then mkA agg ((cs.drop off).take n) else none
    | none => none
  | .ep _ _ cs off => if off + n ≤ cs.length then mkA agg ((cs.drop off).take n) else none
  | .mem false [x] => if n = 1 then mkA agg [x] else none
  | _ => none
section
variable {C : Ctx} {A : A0} {N : Nat} {g g' : Gh} {st : St} {a : Act} {w w' : World}
theorem load_cells {P : Program} {t : TypeId} {agg : Bool} {n : Nat} {ad : Addr} {cs : List AV} {us : List Value} {x : AV} (h1 : aggOf P t = some agg) (h2 : szOf P t = some n) (hv : VRs g w cs us) (hl : cs.length = n)
    (hc : ∀ i v, us[i]? = some v → w.cell? (ad.add i) = some v) (hx : mkA agg cs = some x) : ∃ u, (loadVar t ad).run P w = .ok u w ∧ VR g w x u := by
  have hul : us.length = n := by rw [← VRs.length hv, hl]
  cases agg with
  | true =>
    simp only [mkA, if_true, Option.some.injEq] at hx
    subst hx
    exact ⟨_, run_loadVar_agg h1 h2 hul hc, us.toArray, rfl, by simpa using hv⟩
  | false =>
    simp only [mkA, Bool.false_eq_true, if_false] at hx
    match cs, us, hv, hx with
    | [c], [u], hv, hx =>
      simp at hx; subst hx
      simp only [VRs] at hv
      have h0 := hc 0 u (by simp)
      simp only [Addr.add_zero'] at h0
      exact ⟨u, run_loadVar_one h1 h0, hv.1⟩
    | [_], [], hv, _ => simp [VRs] at hv
    | [_], _ :: _ :: _, hv, _ => simp [VRs] at hv
theorem epCells {t : Tag} {i : Nat} {cs : List AV} {off : Nat} {u : Value} (h : EpAt g w t i cs off u) :
    ∃ (ad : Addr) (us : List Value), u = .pointer (some ad) ∧ VRs g w (cs.drop off) us ∧ ∀ j v, us[j]? = some v → w.cell? (ad.add j) = some v := by
  cases t with
  | own r lo =>
    simp only [EpAt] at h
    obtain ⟨cur, T, h1, h2, h3, h4, h5⟩ := h
    obtain ⟨us, k1, k2⟩ := PRc.list cs _ 0 h5
    refine ⟨_, us.drop off, h1, PRl.VRs (PRl.drop off k1), fun j v hv => ?_⟩
    rw [List.getElem?_drop] at hv
    have := k2 _ v hv
    rw [add_lit] at this ⊢
    rw [show i * cs.length + off + j = i * cs.length + (0 + (off + j)) from by omega]
    exact this
  | no =>
    simp only [EpAt] at h
    obtain ⟨ad, h1, h0, h2, h3⟩ := h
    obtain ⟨us, k1, k2⟩ := PRc.list cs _ 0 h3
    refine ⟨_, us.drop off, h1, PRl.VRs (PRl.drop off k1), fun j v hv => ?_⟩
    rw [List.getElem?_drop] at hv
    have := k2 _ v hv
    rw [add_add]
    simpa using this
  | full =>
    simp only [EpAt] at h
    obtain ⟨ad, h1, h0, h2, h3⟩ := h
    obtain ⟨us, k1, k2⟩ := PRc.list cs _ 0 h3
    refine ⟨_, us.drop off, h1, PRl.VRs (PRl.drop off k1), fun j v hv => ?_⟩
    rw [List.getElem?_drop] at hv
    have := k2 _ v hv
    rw [add_add]
    simpa using this
theorem boxCells {s : Nat} {cs : List AV} (h : ObjAt g w s cs) (hmp : isMap s = false) (off : Nat) : ∃ us : List Value, VRs g w (cs.drop off) us ∧ ∀ j v, us[j]? = some v → w.cell? ((⟨g.box s, off, none⟩ : Addr).add j) = some v := by
  obtain ⟨cur, T, h2, h3⟩ := h.cells hmp
  refine ⟨cur.toList.drop off, VRs.drop off h3, fun j v hv => ?_⟩
  rw [List.getElem?_drop] at hv
  rw [add_lit, cell_of_row _ _ _ _ _ _ h2]
  simpa using hv
theorem load_sound {P : Program} (hR : R C A N g st a w) {t : TypeId} {agg : Bool} {n : Nat} (h1 : aggOf P t = some agg) (h2 : szOf P t = some n) {x : AV} {p : AV} {up : Value} (hp : VR g w p up)
    (hx : loadA agg n st.objs p = some x) : ∃ u, (Instr.loadAt t up).run P w = .ok u w ∧ VR g w x u := by
  unfold loadA at hx
  split at hx
  · rename_i s off
    split at hx
    · rename_i cs hs
      split at hx
      · rename_i hle
        simp only [VR] at hp
        obtain ⟨hmp, rfl⟩ := hp
        obtain ⟨us, k1, k2⟩ := boxCells (hR.ob s cs hs) hmp off
        have := load_cells h1 h2 (VRs.take n k1) (by simp; omega) (ad := ⟨g.box s, off, none⟩) (fun i v hv => by
          rw [List.getElem?_take] at hv
          split at hv
          · exact k2 i v hv
          · cases hv) hx
        simpa [Instr.loadAt, Instr.sureAddr] using this
      · cases hx
    · cases hx
  · rename_i t' i cs off
    split at hx
    · rename_i hle
      simp only [VR] at hp
      obtain ⟨ad, us, rfl, k1, k2⟩ := epCells hp
      have := load_cells h1 h2 (VRs.take n k1) (by simp; omega) (ad := ad) (fun i v hv => by
          rw [List.getElem?_take] at hv
          split at hv
          · exact k2 i v hv
          · cases hv) hx
      simpa [Instr.loadAt, Instr.sureAddr] using this
    · cases hx
  · rename_i y
    split at hx
    · rename_i hn1
      subst hn1
      simp only [VR, MemU] at hp
      obtain ⟨ad, vs, _, hc, hv, rfl⟩ := hp
      have := load_cells h1 h2 hv rfl (ad := ad) (fun q v' hv' => by
        have hq : q < vs.length := by
          rcases Nat.lt_or_ge q vs.length with h | h
          · exact h
          · rw [List.getElem?_eq_none h] at hv'; cases hv'
        rw [hc.2 q hq]; exact hv') hx
      simpa [Instr.loadAt, Instr.sureAddr] using this
    · cases hx
  · cases hx
theorem loadA_ptr {agg : Bool} {n : Nat} {objs : List (Nat × List AV)} {x z : AV} {u : Value} (hv : VR g w x u) (h : loadA agg n objs x = some z) : ∃ ad, u = .pointer (some ad) := by
  unfold loadA at h
  split at h
  · simp only [VR] at hv; exact ⟨_, hv.2⟩
  · simp only [VR] at hv
    obtain ⟨_, _, hv, _⟩ := epCells hv; exact ⟨_, hv⟩
  · simp only [VR, MemU] at hv
    obtain ⟨_, _, _, _, _, hv⟩ := hv; exact ⟨_, hv⟩
  · cases h
end
end Go.Abs
namespace Go.Abs
def offOf (P : Program) (s : TypeId) (f : Nat) : Option Nat :=
  match P.underlying s with
  | some (.struct fs) => match fs[f]? with
    | some fd => match szOf P fd.type with
      | some (_ + 1) => some fd.offset
      | _ => none
    | none => none
  | _ => none
def fieldA (off : Nat) : AV → Option AV
  | .ptr s o => some (.ptr s (o + off))
  | .ep t i cs o => some (.ep t i cs (o + off))
  | _ => none
def elemOfSlice (P : Program) (t : TypeId) : Option (TypeId × Nat) :=
  match P.underlying t with
  | some (.slice e) => (szOf P e).map fun n => (e, n)
  | _ => none
def elemOfArray (P : Program) (t : TypeId) : Option (Nat × Nat) :=
  match P.underlying t with
  | some (.array len e) => (szOf P e).map fun n => (len, n)
  | _ => none
def indexS (n : Nat) (i : Int) : AV → Option AV
  | .sl (.own r lo) m es => if m = n ∧ 0 ≤ i then match es[i.toNat]? with
    | some c => some (.ep (.own r 0) (lo + i.toNat) c 0)
    | none => none
    else none
  | .sl t m es => if m = n ∧ 0 ≤ i then match es[i.toNat]? with
    | some c => some (.ep .no i.toNat c 0)
    | none => none
    else none
  | .mem true xs => if n = 1 ∧ 0 ≤ i then match xs[i.toNat]? with
    | some c => some (.mem false [c])
    | none => none
    else none
  | _ => none
def indexR (len n : Nat) (i : Int) : AV → Option AV
  | .ptr s o => if 0 ≤ i ∧ i < len then some (.ptr s (o + i.toNat * n)) else none
  | .ep t j cs o => if 0 ≤ i ∧ i < len then some (.ep t j cs (o + i.toNat * n)) else none
  | _ => none
section
variable {C : Ctx} {A : A0} {N : Nat} {g g' : Gh} {st : St} {a : Act} {w w' : World} {P : Program}
theorem ep_add {t : Tag} {i : Nat} {cs : List AV} {o k : Nat} {u : Value} (h : EpAt g w t i cs o u) : ∃ ad : Addr, u = .pointer (some ad) ∧ EpAt g w t i cs (o + k) (.pointer (some (ad.add k))) := by
  cases t with
  | own r lo =>
    simp only [EpAt] at h ⊢
    obtain ⟨cur, T, h1, h2⟩ := h
    refine ⟨_, h1, cur, T, ?_, h2⟩
    rw [add_lit, Nat.add_assoc]
  | no =>
    simp only [EpAt] at h ⊢
    obtain ⟨ad, h1, h2⟩ := h
    exact ⟨_, h1, ad, by rw [add_add], h2⟩
  | full =>
    simp only [EpAt] at h ⊢
    obtain ⟨ad, h1, h2⟩ := h
    exact ⟨_, h1, ad, by rw [add_add], h2⟩
theorem field_sound {s f off : Nat} (ho : offOf P s f = some off) {p x : AV} {up : Value} (hp : VR g w p up) (hx : fieldA off p = some x) : ∃ u, (Instr.fieldAt s up f).run P w = .ok u w ∧ VR g w x u := by
  unfold offOf at ho
  split at ho
  · rename_i fs hs
    split at ho
    · rename_i fd hf
      split at ho
      · rename_i k hk
        simp at ho; subst ho
        have run : ∀ ad : Addr, (Instr.fieldAt s (.pointer (some ad)) f).run P w = .ok (.pointer (some (ad.add fd.offset))) w := fun ad => by
          simp [Instr.fieldAt, run_underlying hs, hf, Instr.sureAddr, fieldPlace, run_sizeOf hk]
        unfold fieldA at hx
        split at hx
        · simp at hx; subst hx
          simp only [VR] at hp; obtain ⟨hmp, rfl⟩ := hp
          refine ⟨_, run _, ?_⟩
          simp only [VR, add_lit, hmp, and_self]
        · simp at hx; subst hx
          simp only [VR] at hp
          obtain ⟨ad, rfl, h2⟩ := ep_add (k := fd.offset) hp
          exact ⟨_, run _, h2⟩
        · cases hx
      · cases ho
    · cases ho
  · cases ho
theorem indexS_sound {t : TypeId} {e : TypeId} {n : Nat} (ht : elemOfSlice P t = some (e, n)) {k : IntKind} {i : Int} {p x : AV} {up : Value} (hp : VR g w p up) (hx : indexS n i p = some x) :
    ∃ u, (Instr.indexAt t up (.int k i)).run P w = .ok u w ∧ VR g w x u := by
  unfold elemOfSlice at ht
  split at ht
  · rename_i e' hs
    obtain ⟨n', hn, he⟩ := Option.map_eq_some_iff.1 ht
    simp only [Prod.mk.injEq] at he
    obtain ⟨rfl, rfl⟩ := he
    have run : ∀ (ad : Addr) (len cap : Nat), 0 ≤ i → i < len → (Instr.indexAt t (.slice (some ad) len cap) (.int k i)).run P w = .ok (.pointer (some (ad.add (i.toNat * n')))) w := fun ad len cap h0 h1 => by
      simp [Instr.indexAt, asIntOf, run_underlying hs, h0, h1, run_sizeOf hn]
    unfold indexS at hx
    split at hx
    · rename_i r lo m es
      split at hx
      · rename_i hc
        obtain ⟨rfl, h0⟩ := hc
        split at hx
        · rename_i c hc
          simp at hx; subst hx
          have hlt : i.toNat < es.length := by
            rcases Nat.lt_or_ge i.toNat es.length with h | h
            · exact h
            · rw [List.getElem?_eq_none h] at hc; cases hc
          simp only [VR, OwnSl] at hp
          obtain ⟨hm, ⟨_, h2⟩ | ⟨_, h2, _⟩ | ⟨cap, cur, T, h1, h2, h3, h5, h6, h7, h8⟩⟩ := hp
          · subst h2; simp at hlt
          · subst h2; simp at hlt
          · subst h1
            refine ⟨_, run _ _ _ h0 (by omega), ?_⟩
            obtain ⟨hcl, hcp⟩ := PRe.at_ es _ m 0 h8 _ _ hc
            simp only [VR, EpAt]
            refine ⟨cur, T, ?_, h5, h6, ?_, ?_⟩
            · rw [add_lit, hcl, Nat.add_mul]; simp
            · rw [hcl]
              exact Nat.le_trans (Nat.mul_le_mul_right _ (by omega)) h7
            · have := PRc.shift c ⟨g.row r, lo * m, none⟩ ((0 + i.toNat) * m) 0 hcp
              rw [add_lit] at this
              rwa [hcl, Nat.add_mul, show lo * m + i.toNat * m = lo * m + (0 + i.toNat) * m from by simp]
        · cases hx
      · cases hx
    · rename_i t' m es hno
      split at hx
      · rename_i hc
        obtain ⟨rfl, h0⟩ := hc
        split at hx
        · rename_i c hc
          simp at hx; subst hx
          have hlt : i.toNat < es.length := by
            rcases Nat.lt_or_ge i.toNat es.length with h | h
            · exact h
            · rw [List.getElem?_eq_none h] at hc; cases hc
          have hp' : PR (isRo g) w (.sl t' m es) up := by
            cases t' with
            | own r lo => exact absurd rfl (hno r lo)
            | no => simpa [VR] using hp
            | full => simpa [VR] using hp
          simp only [PR] at hp'
          obtain ⟨_, ad', cap, h1, h2, h3, h4, h5, h6 | ⟨ad, h6, h7, h8⟩⟩ := hp'
          · subst h6; simp at hlt
          · subst h6; subst h1
            refine ⟨_, run _ _ _ h0 (by omega), ?_⟩
            obtain ⟨hcl, hcp⟩ := PRe.at_ es _ m 0 h8 _ _ hc
            simp only [VR, EpAt]
            refine ⟨ad.add (i.toNat * m), by rw [Addr.add_zero'], by omega, by rw [add_block]; exact h7, ?_⟩
            exact PRc.shift c ad (i.toNat * m) 0 (by simpa using hcp)
        · cases hx
      · cases hx
    · rename_i xs
      split at hx
      · rename_i hc
        obtain ⟨rfl, h0⟩ := hc
        split at hx
        · rename_i c hc
          simp at hx; subst hx
          simp only [VR, MemU] at hp
          obtain ⟨ad, vs, q1, q2, q3, cap, rfl, q4, q5⟩ := hp
          obtain ⟨v, e1, e2⟩ := VRs.get q3 _ _ hc
          have hlt : i.toNat < vs.length := by
            rcases Nat.lt_or_ge i.toNat vs.length with h | h
            · exact h
            · rw [List.getElem?_eq_none h] at e1; cases e1
          refine ⟨_, run _ _ _ h0 (by omega), ?_⟩
          simp only [VR, MemU, Nat.mul_one]
          refine ⟨ad.add i.toNat, [v], by rw [add_block]; exact q1, ⟨by simp, fun k hk => ?_⟩, by simp only [VRs]; exact ⟨e2, trivial⟩, rfl⟩
          have hk0 : k = 0 := by simp at hk; omega
          subst hk0
          rw [Addr.add_zero', q2.2 _ hlt, e1]; rfl
        · cases hx
      · cases hx
    · cases hx
  · cases ht
theorem indexR_sound {t : TypeId} {len n : Nat} (ht : elemOfArray P t = some (len, n)) {k : IntKind} {i : Int} {p x : AV} {up : Value} (hp : VR g w p up) (hx : indexR len n i p = some x) :
    ∃ u, (Instr.indexAt t up (.int k i)).run P w = .ok u w ∧ VR g w x u := by
  unfold elemOfArray at ht
  split at ht
  · rename_i len' e' hs
    obtain ⟨n', hn, he⟩ := Option.map_eq_some_iff.1 ht
    simp only [Prod.mk.injEq] at he
    obtain ⟨rfl, rfl⟩ := he
    have run : ∀ (ad : Addr), 0 ≤ i → i < len' → (Instr.indexAt t (.pointer (some ad)) (.int k i)).run P w = .ok (.pointer (some (ad.add (i.toNat * n')))) w := fun ad h0 h1 => by
      simp [Instr.indexAt, asIntOf, run_underlying hs, Instr.sureAddr, h0, h1, run_sizeOf hn]
    unfold indexR at hx
    split at hx
    · split at hx
      · rename_i hc
        simp at hx; subst hx
        simp only [VR] at hp; obtain ⟨hmp, rfl⟩ := hp
        refine ⟨_, run _ hc.1 hc.2, ?_⟩
        simp only [VR, add_lit, hmp, and_self]
      · cases hx
    · split at hx
      · rename_i hc
        simp at hx; subst hx
        simp only [VR] at hp
        obtain ⟨ad, rfl, h2⟩ := ep_add (k := i.toNat * n') hp
        exact ⟨_, run _ hc.1 hc.2, h2⟩
      · cases hx
    · cases hx
  · cases ht
theorem okCell_one {c : AV} {u : Value} (h : okCell c = true) (hv : VR g w c u) : u.oneCell' = true := by
  cases c with
  | v x => simp only [VR] at hv; subst hv; exact h
  | sl t n es =>
    cases t with
    | own r lo =>
      simp only [VR, OwnSl] at hv
      obtain ⟨_, ⟨rfl, _⟩ | ⟨_, _, _, _, rfl, _⟩ | ⟨_, _, _, rfl, _⟩⟩ := hv <;> rfl
    | no => simp only [VR, PR] at hv; obtain ⟨_, _, _, rfl, _⟩ := hv; rfl
    | full => simp only [VR, PR] at hv; obtain ⟨_, _, _, rfl, _⟩ := hv; rfl
  | ptr s o => simp only [VR] at hv; obtain ⟨_, rfl⟩ := hv; rfl
  | mp s => simp only [VR] at hv; obtain ⟨_, rfl⟩ := hv; rfl
  | ep t i cs o =>
    simp only [VR] at hv
    obtain ⟨ad, _, rfl, _⟩ := epCells hv
    rfl
  | fn f caps => simp only [VR] at hv; obtain ⟨_, rfl, _⟩ := hv; rfl
  | mv f caps => simp only [VR] at hv; obtain ⟨_, rfl, _⟩ := hv; rfl
  | ifc t x => simp only [VR] at hv; obtain ⟨_, rfl, _⟩ := hv; rfl
  | undef => simp [okCell] at h
  | agg cs => simp [okCell] at h
  | tup cs => simp [okCell] at h
  | mem b xs => simp [okCell] at h
theorem okCells_one : ∀ {cs : List AV} {us : List Value}, okCells cs = true → VRs g w cs us → ∀ u ∈ us, u.oneCell' = true
  | [], [], _, _, u, hu => by simp at hu
  | [], _ :: _, _, h, _, _ => by simp [VRs] at h
  | _ :: _, [], _, h, _, _ => by simp [VRs] at h
  | c :: cs, v :: us, ho, h, u, hu => by
    simp only [okCells, Bool.and_eq_true] at ho
    simp only [VRs] at h
    rcases List.mem_cons.1 hu with rfl | hu
    · exact okCell_one ho.1 h.1
    · exact okCells_one ho.2 h.2 u hu
theorem cells_of_one {u : Value} (h : u.oneCell' = true) : u.cells = #[u] := by cases u <;> simp_all [Value.cells, Value.oneCell']
theorem VR.cells {x : AV} {u : Value} (hv : VR g w x u) (ho : okCells x.cells = true) : VRs g w x.cells u.cells.toList := by
  by_cases hx : ∃ cs, x = .agg cs
  · obtain ⟨cs, rfl⟩ := hx
    simp only [VR] at hv
    obtain ⟨us, rfl, h⟩ := hv
    simpa [AV.cells, Value.cells] using h
  · have hc : x.cells = [x] := by
      cases x with
      | agg cs => exact absurd ⟨cs, rfl⟩ hx
      | _ => rfl
    rw [hc] at ho ⊢
    simp only [okCells, Bool.and_true] at ho
    rw [cells_of_one (okCell_one ho hv)]
    simp [VRs, hv]
theorem kill_nil (x : AV) : x.kill [] [] = x := mapH_id (by simp [AV.killH]) (by simp [AV.killH]) (by simp [AV.killH]) (by simp [AV.killH]) x
theorem killL_nil (xs : List AV) : killL [] [] xs = xs := mapHL_id (by simp [AV.killH]) (by simp [AV.killH]) (by simp [AV.killH]) (by simp [AV.killH]) xs
theorem killT_nil : ∀ l, killT [] [] l = l
  | [] => rfl
  | (k, x) :: l => by simp [killT, kill_nil, killT_nil l]
theorem killO_nil : ∀ l, killO [] [] l = l
  | [] => rfl
  | (k, x) :: l => by simp [killO, killL_nil, killO_nil l]
theorem stKill_nil (st : St) : st.kill [] [] = st := by simp [St.kill, killT_nil, killO_nil]
end
def upd {α : Type} (k : Nat) (x : α) : List (Nat × α) → List (Nat × α)
  | [] => []
  | (j, y) :: l => if j = k then (j, x) :: l else (j, y) :: upd k x l
theorem lk_upd {α : Type} (k : Nat) (x : α) (j : Nat) : ∀ l : List (Nat × α), lk j (upd k x l) = if j = k then (lk j l).map (fun _ => x) else lk j l
  | [] => by simp [upd, lk]
  | (i, y) :: l => by
    simp only [upd]
    by_cases hik : i = k
    · subst hik
      by_cases hij : i = j
      · subst hij; simp [lk]
      · simp only [if_true, lk, hij, if_false]
        have : j ≠ i := fun e => hij e.symm
        simp [this]
    · simp only [hik, if_false, lk]
      by_cases hij : i = j
      · subst hij; simp [hik]
      · simp only [hij, if_false]
        exact lk_upd k x j l
def cut (L : List AV) (off : Nat) (cs : List AV) : List AV := L.take off ++ cs ++ L.drop (off + cs.length)
section
variable {C : Ctx} {A : A0} {N : Nat} {g g' : Gh} {st : St} {a : Act} {w w' : World} {P : Program}
theorem setRow_other' (w : World) (b k : Nat) (cs : Array Value) (h : k ≠ b) : (w.setRow b cs).heap[k]? = w.heap[k]? := setRow_other w b k cs h
theorem lasts_setRow_box {b s : Nat} (h : g.own b = .box s) (cs : Array Value) : Lasts [] [] g w g (w.setRow b cs) where
  ro := fun k hk ho => ⟨ho, setRow_other w b k cs (fun e => by subst e; rw [h] at ho; cases ho)⟩
  row := fun k q hk _ ho => ⟨ho, setRow_other w b k cs (fun e => by subst e; rw [h] at ho; cases ho)⟩
  rows := fun _ _ => rfl
  boxes := fun _ _ => rfl
theorem run_storeVar {t : TypeId} {n : Nat} {b o : Nat} {T : TypeId} {cur : Array Value} {v : Value} (h2 : szOf P t = some n) (hn : v.cells.size = n) (hg : w.heap[b]? = some (.cells cur T (0, 0)))
    (hle : o + n ≤ cur.size) (h1 : ∀ u ∈ v.cells.toList, u.oneCell' = true) :
    (storeVar t ⟨b, o, none⟩ v).run P w = .ok () (w.setRow b (cur.toList.take o ++ v.cells.toList ++ cur.toList.drop (o + n)).toArray) := by
  unfold storeVar
  simp only [Sem.run_bind, run_sizeOf h2, Result.andThen_ok, ne_eq, hn, not_true, if_false]
  have := run_storeCells_at P b o T v.cells.toList 0 cur w hg (by rw [Array.length_toList, hn]; omega) h1
  simpa [hn] using this
theorem R.storeBox (h : R C A N g st a w) {t : TypeId} {n : Nat} (h2 : szOf P t = some n) {s off : Nat} (hmp : isMap s = false) {cs : List AV} (hs : lk s st.objs = some cs) {x : AV} {u : Value} (hx : VR g w x u) (ho : okCells x.cells = true)
    (hn : x.cells.length = n) (hle : off + n ≤ cs.length) :
    ∃ w', (Instr.storeAt t (.pointer (some ⟨g.box s, off, none⟩)) u).run P w = .ok () w' ∧ R C A N g ⟨st.tmps, upd s (cut cs off x.cells) st.objs⟩ a w' := by
  have hown := (h.ob s cs hs).1
  obtain ⟨cur, T, hh, hv⟩ := (h.ob s cs hs).cells hmp
  have hxc := VR.cells hx ho
  have hul : u.cells.size = n := by rw [← hn, VRs.length hxc]; simp
  have hcl : cs.length = cur.size := by rw [VRs.length hv]; simp
  have hrun := run_storeVar (P := P) (w := w) (o := off) h2 hul hh (by omega) (okCells_one ho hxc)
  generalize hnew : (cur.toList.take off ++ u.cells.toList ++ cur.toList.drop (off + n)).toArray = new at hrun
  refine ⟨w.setRow (g.box s) new, by simpa [Instr.storeAt, Instr.sureAddr] using hrun, ?_⟩
  have hl := lasts_setRow_box (w := w) hown new
  have hfr : Fr C A g (w.setRow (g.box s) new) := h.fr.step hl rfl ⟨rfl, by first | exact Nat.le_refl _ | exact Nat.le_succ _⟩ rfl (by simp) (fun b hb hb' => ⟨hb', setRow_other w _ b _ (fun e => by subst e; rw [hown] at hb'; cases hb')⟩) (fun _ _ he => by cases he)
  refine ⟨h.size, h.defs, fun k y hy => ?_, fun q cs' hq => ?_, hfr⟩
  · obtain ⟨v, h1, h2⟩ := h.tm k y hy
    exact ⟨v, h1, by have := VR.lasts hl y v h2; rwa [kill_nil] at this⟩
  · simp only [lk_upd] at hq
    by_cases hqs : q = s
    · subst hqs
      simp only [if_true, hs, Option.map_some, Option.some.injEq] at hq
      subst hq
      refine ⟨hown, .inl ⟨hmp, new, T, setRow_heap w _ cur new T _ hh, ?_⟩⟩
      have lift : ∀ {ds : List AV} {vs : List Value}, VRs g w ds vs → VRs g (w.setRow (g.box q) new) ds vs := fun hd => by have := VRs.lasts hl _ _ hd; rwa [killL_nil] at this
      unfold cut
      have e : new.toList = cur.toList.take off ++ u.cells.toList ++ cur.toList.drop (off + n) := by rw [← hnew]
      rw [hn, e]
      exact VRs.append (VRs.append (lift (VRs.take off hv)) (lift hxc)) (lift (VRs.drop (off + n) hv))
    · simp only [hqs, if_false] at hq
      have h1 := (h.ob q cs' hq).1
      refine (h.ob q cs' hq).lift rfl h1 (setRow_other w _ _ _ (fun e => by rw [e, hown] at h1; injection h1 with h1; exact hqs h1.symm)) (fun us h4 => by have := VRs.lasts hl _ _ h4; rwa [killL_nil] at this)
end
end Go.Abs
namespace Go.Abs
def rowInf (P : Program) (t : TypeId) : Option (TypeId × Nat × Nat) :=
  match P.underlying t with
  | some (.slice e) => match P.info? e with
    | some i => match i.zero with
      | some z => if z.cells.size = i.size ∧ 0 < i.size ∧ i.bytes ≤ 32768 then some (e, i.size, i.bytes) else none
      | none => none
    | none => none
  | _ => none
theorem rowInf_spec {P : Program} {t e n b : Nat} (h : rowInf P t = some (e, n, b)) : P.underlying t = some (.slice e) ∧ ∃ i z, P.info? e = some i ∧ i.zero = some z ∧ z.cells.size = n ∧ i.size = n ∧ i.bytes = b ∧ 0 < n ∧ b ≤ 32768 := by
  unfold rowInf at h
  split at h
  · rename_i e' he
    split at h
    · rename_i i hi
      split at h
      · rename_i z hz
        split at h
        · rename_i hc
          simp only [Option.some.injEq, Prod.mk.injEq] at h
          obtain ⟨rfl, rfl, rfl⟩ := h
          exact ⟨he, i, z, hi, hz, hc.1, rfl, rfl, hc.2.1, hc.2.2⟩
        · cases h
      · cases h
    · cases h
  · cases h
def isSliceT (P : Program) (t : TypeId) : Bool := match P.underlying t with
  | some (.slice _) => true
  | _ => false
section
variable {P : Program} {w : World}
theorem run_firstCells' {size n : Nat} {x : Value} {news : List Value} (hl : news.length = n * size) (hx : (∃ a c, x = .slice (some a) n c ∧ ∀ (j : Nat) (v : Value), news[j]? = some v → w.cell? (a.add j) = some v) ∨ (n = 0 ∧ ∃ c, x = .slice none 0 c)) :
    (Builtin.firstCells size n x).run P w = .ok news.toArray w := by
  rcases hx with ⟨a, c, rfl, h⟩ | ⟨rfl, c, rfl⟩
  · exact run_firstCells_some (P := P) w size n a n c news hl h
  · have : news = [] := List.eq_nil_of_length_eq_zero (by simpa using hl)
    subst this
    simp [Builtin.firstCells]
def SrcAt (w : World) (size m : Nat) (x : Value) (news : List Value) : Prop :=
  news.length = m * size ∧ ((∃ a c, x = .slice (some a) m c ∧ ∀ (j : Nat) (v : Value), news[j]? = some v → w.cell? (a.add j) = some v) ∨ (m = 0 ∧ ∃ c, x = .slice none 0 c))
theorem run_append_new {t t2 ty e : TypeId} {i : TypeInfo} {z : Value} (ht : P.underlying t = some (.slice e)) (ht2 : isSliceT P t2 = true) (hi : P.info? e = some i) (hz : i.zero = some z)
    {base : Option Addr} {sLen sCap : Nat} {olds : List Value} (ho : SrcAt w i.size sLen (.slice base sLen sCap) olds) {x : Value} {m : Nat} {news : List Value} (hx : SrcAt w i.size m x news)
    (hg : sCap < sLen + m) (hle : sLen ≤ sCap) (hb : (sLen + m) * i.bytes ≤ 140737488355328) (h63 : sLen + m ≤ 9223372036854775807) :
    (Builtin.append_ #[t, t2] ty #[.slice base sLen sCap, x]).run P w =
      .ok (.slice (some ⟨w.heap.size, 0, none⟩) (sLen + m) (grownCap w (sLen + m) sCap e))
        (w.drew.alloc (.cells (olds.toArray ++ news.toArray ++ Builtin.zeroCells z.cells (grownCap w (sLen + m) sCap e - (sLen + m))) e)) := by
  have hn : ¬ (sLen + m ≤ sCap) := by omega
  have h63' : ¬ (9223372036854775807 < ((sLen : Int) + (m : Int))) := by omega
  have hfit := growslice_fits (need := sLen + m) (old := sCap) hg hb
  have h48' : ¬ (281474976710656 < Builtin.nextslicecap (sLen + m) sCap * i.bytes) := by omega
  have hf : (Builtin.firstCells i.size m x).run P w.drew = .ok news.toArray w.drew := run_firstCells' hx.1 (by
    rcases hx.2 with ⟨a, c, h1, h2⟩ | h
    · exact .inl ⟨a, c, h1, by simpa using h2⟩
    · exact .inr h)
  have hfo : (Builtin.firstCells i.size sLen (.slice base sLen sCap)).run P w.drew = .ok olds.toArray w.drew := run_firstCells' ho.1 (by
    rcases ho.2 with ⟨a, c, h1, h2⟩ | h
    · exact .inl ⟨a, c, h1, by simpa using h2⟩
    · exact .inr h)
  have hlen : (Builtin.lenOf x).run P w = .ok m w := by
    rcases hx.2 with ⟨a, c, rfl, _⟩ | ⟨rfl, c, rfl⟩ <;> simp [Builtin.lenOf]
  unfold isSliceT at ht2
  split at ht2
  · rename_i e2 he2
    simp [Builtin.append_, run_underlying ht, run_underlying he2, sizeOf, typeInfo, zeroValue, hi, hz, hlen, hn, h63', h48', Question.forced, hf, hfo, newRow, grownCap]
    congr 2
    apply Array.ext'
    simp [List.append_assoc]
  · cases ht2
theorem run_append_same {t t2 ty e : TypeId} {i : TypeInfo} (ht : P.underlying t = some (.slice e)) (ht2 : isSliceT P t2 = true) (hi : P.info? e = some i)
    {base : Option Addr} {sLen sCap : Nat} {x : Value} (hx : SrcAt w i.size 0 x []) (hle : sLen ≤ sCap) :
    (Builtin.append_ #[t, t2] ty #[.slice base sLen sCap, x]).run P w = .ok (.slice base sLen sCap) w := by
  have hf : (Builtin.firstCells i.size 0 x).run P w = .ok #[] w := run_firstCells' (news := []) hx.1 hx.2
  have hlen : (Builtin.lenOf x).run P w = .ok 0 w := by
    rcases hx.2 with ⟨a, c, rfl, _⟩ | ⟨_, c, rfl⟩ <;> simp [Builtin.lenOf]
  unfold isSliceT at ht2
  split at ht2
  · rename_i e2 he2
    cases base <;> simp [Builtin.append_, run_underlying ht, run_underlying he2, sizeOf, typeInfo, hi, hlen, hle, hf, storeCells]
  · cases ht2
theorem run_append_room' {t t2 ty e : TypeId} {i : TypeInfo} (ht : P.underlying t = some (.slice e)) (ht2 : isSliceT P t2 = true) (hi : P.info? e = some i)
    {b sLen sCap : Nat} {T : TypeId} {cur : Array Value} (hb : w.heap[b]? = some (.cells cur T (0, 0))) {x : Value} {m : Nat} {news : List Value} (hx : SrcAt w i.size m x news)
    (h1 : ∀ u ∈ news, u.oneCell' = true) (hroom : sLen + m ≤ sCap) (hfit : sLen * i.size + news.length ≤ cur.size) :
    (Builtin.append_ #[t, t2] ty #[.slice (some ⟨b, 0, none⟩) sLen sCap, x]).run P w =
      .ok (.slice (some ⟨b, 0, none⟩) (sLen + m) sCap) (w.setRow b (cur.toList.take (sLen * i.size) ++ news ++ cur.toList.drop (sLen * i.size + news.length)).toArray) := by
  have hf : (Builtin.firstCells i.size m x).run P w = .ok news.toArray w := run_firstCells' hx.1 hx.2
  have hlen : (Builtin.lenOf x).run P w = .ok m w := by
    rcases hx.2 with ⟨a, c, rfl, _⟩ | ⟨rfl, c, rfl⟩ <;> simp [Builtin.lenOf]
  have hst := run_storeCells_at P b (sLen * i.size) T news 0 cur w hb (by simpa using hfit) h1
  simp only [Nat.add_zero] at hst
  unfold isSliceT at ht2
  split at ht2
  · rename_i e2 he2
    simp [Builtin.append_, run_underlying ht, run_underlying he2, sizeOf, typeInfo, hi, hlen, hroom, hf, add_lit, hst]
  · cases ht2
end
section
variable {C : Ctx} {A : A0} {N : Nat} {g g' : Gh} {st : St} {a : Act} {w w' : World} {P : Program}
def elems (n : Nat) : AV → Option (List (List AV))
  | .v (.slice _ 0 _) => some []
  | .sl _ m es => if m = n then some es else none
  | _ => none
theorem elems_src {n : Nat} {x : AV} {es : List (List AV)} {u : Value} (hn : 0 < n) (h : elems n x = some es) (hv : VR g w x u) :
    ∃ us : List Value, SrcAt w n es.length u us ∧ PRl (isRo g) w es.flatten us ∧ (∀ e ∈ es, e.length = n) := by
  unfold elems at h
  split at h
  · rename_i a0 c0
    simp at h; subst h
    simp only [VR] at hv; subst hv
    refine ⟨[], ⟨by simp, ?_⟩, by simp [PRl], by simp⟩
    cases a0 with
    | none => exact .inr ⟨rfl, c0, rfl⟩
    | some a' => exact .inl ⟨a', c0, rfl, by simp⟩
  · rename_i t m es'
    split at h
    · rename_i hm
      simp at h; subst h; subst hm
      by_cases ho : ∃ r lo, t = .own r lo
      · obtain ⟨r, lo, rfl⟩ := ho
        simp only [VR, OwnSl] at hv
        obtain ⟨_, ⟨rfl, rfl⟩ | ⟨_, rfl, a', cap, rfl, _⟩ | ⟨cap, cur, T, rfl, h2, h3, h5, h6, h7, h8⟩⟩ := hv
        · exact ⟨[], ⟨by simp, .inr ⟨rfl, 0, rfl⟩⟩, by simp [PRl], by simp⟩
        · refine ⟨[], ⟨by simp, ?_⟩, by simp [PRl], by simp⟩
          cases a' with
          | none => exact .inr ⟨rfl, cap, rfl⟩
          | some a' => exact .inl ⟨a', cap, rfl, by simp⟩
        · obtain ⟨us, k1, k2, k3⟩ := PRe.list es' _ m 0 h8
          exact ⟨us, ⟨k2, .inl ⟨_, cap, rfl, fun j v hj => by simpa using k3 j v hj⟩⟩, k1, PRe.lens h8⟩
      · have hp : PR (isRo g) w (.sl t m es') u := by
          cases t with
          | own r lo => exact absurd ⟨r, lo, rfl⟩ ho
          | no => simpa [VR] using hv
          | full => simpa [VR] using hv
        simp only [PR] at hp
        obtain ⟨_, a', cap, rfl, h2, h3, h4, h5, rfl | ⟨ad, rfl, h7, h8⟩⟩ := hp
        · refine ⟨[], ⟨by simp, ?_⟩, by simp [PRl], by simp⟩
          cases a' with
          | none => exact .inr ⟨rfl, cap, rfl⟩
          | some a' => exact .inl ⟨a', cap, rfl, by simp⟩
        · obtain ⟨us, k1, k2, k3⟩ := PRe.list es' _ m 0 h8
          exact ⟨us, ⟨k2, .inl ⟨_, cap, rfl, fun j v hj => by simpa using k3 j v hj⟩⟩, k1, PRe.lens h8⟩
    · cases h
  · cases h
end
def appendA (k n : Nat) (st : St) (x y : AV) : Option (AV × St) :=
  match elems n x, elems n y with
  | some es, some fs => if es.length + fs.length ≤ 4294967296 then match x with
    | .v (.slice none 0 0) => some (.sl (.own k 0) n (es ++ fs), st.kill [k] [])
    | .sl (.own r 0) _ _ => some (.sl (.own k 0) n (es ++ fs), st.kill [r, k] [])
    | _ => none
    else none
  | _, _ => none
section
variable {C : Ctx} {A : A0} {N : Nat} {g g' : Gh} {st : St} {a : Act} {w w' : World} {P : Program}
theorem lasts_refl (g : Gh) (w : World) (S T : List Nat) : Lasts S T g w g w := ⟨fun _ _ h => ⟨h, rfl⟩, fun _ _ _ _ h => ⟨h, rfl⟩, fun _ _ => rfl, fun _ _ => rfl⟩
theorem lasts_drew (g : Gh) (w : World) (S T : List Nat) : Lasts S T g w g w.drew := ⟨fun _ _ h => ⟨h, rfl⟩, fun _ _ _ _ h => ⟨h, rfl⟩, fun _ _ => rfl, fun _ _ => rfl⟩
theorem R.drew (h : R C A N g st a w) : R C A N g st a w.drew := by
  have hl := lasts_drew g w [] []
  have := h.lasts hl (h.fr.step hl rfl ⟨rfl, by first | exact Nat.le_refl _ | exact Nat.le_succ _⟩ rfl (Nat.le_refl _) (fun b _ ho => ⟨ho, rfl⟩) (fun _ _ he => by cases he)) (fun s cs hs _ => ⟨(h.ob s cs hs).1, rfl⟩)
  rwa [stKill_nil] at this
theorem R.kill (h : R C A N g st a w) (S T : List Nat) (hT : ∀ s ∈ A.ext, s ∉ T) : R C A N g (st.kill S T) a w := by
  have hl := lasts_refl g w S T
  exact h.lasts hl (h.fr.step hl rfl ⟨rfl, by first | exact Nat.le_refl _ | exact Nat.le_succ _⟩ rfl (Nat.le_refl _) (fun b _ ho => ⟨ho, rfl⟩) hT) (fun s cs hs _ => ⟨(h.ob s cs hs).1, rfl⟩)
theorem VR_drew {x : AV} {u : Value} (h : VR g w x u) : VR g w.drew x u := by
  have := VR.lasts (lasts_drew g w [] []) x u h
  rwa [kill_nil] at this
theorem PRl_drew {cs : List AV} {us : List Value} (h : PRl (isRo g) w cs us) : PRl (isRo g) w.drew cs us := PRl.mono (w := w) (w' := w.drew) (fun _ _ h => ⟨h, rfl⟩) h
theorem R.appendNew (h : R C A N g st a w) {k n : Nat} {S : List Nat} (hk : k ∈ S) {e : TypeId} {z : Value} (hzs : z.cells.size = n) (hn : 0 < n) {es fs : List (List AV)} {us vs : List Value}
    (h1 : PRl (isRo g) w es.flatten us) (h2 : PRl (isRo g) w fs.flatten vs) (hl1 : ∀ e ∈ es, e.length = n) (hl2 : ∀ e ∈ fs, e.length = n) (hu : us.length = es.length * n) (hv : vs.length = fs.length * n)
    {cap : Nat} (hcap : es.length + fs.length ≤ cap) (hm : cap ≤ maxLen) :
    ∃ g', R C A N g' (st.kill S []) a (w.drew.alloc (.cells (us.toArray ++ vs.toArray ++ Builtin.zeroCells z.cells (cap - (es.length + fs.length))) e)) ∧
      VR g' (w.drew.alloc (.cells (us.toArray ++ vs.toArray ++ Builtin.zeroCells z.cells (cap - (es.length + fs.length))) e)) (.sl (.own k 0) n (es ++ fs)) (.slice (some ⟨w.heap.size, 0, none⟩) (es.length + fs.length) cap) := by
  have := h.drew.newRow k S hk (us.toArray ++ vs.toArray ++ Builtin.zeroCells z.cells (cap - (es.length + fs.length))) e n cap (es ++ fs) (us ++ vs) hn
    (fun e he => (List.mem_append.1 he).elim (hl1 e) (hl2 e))
    (by rw [List.flatten_append]; exact PRl.append (PRl_drew h1) (PRl_drew h2))
    (by
      simp only [Array.size_append, List.size_toArray, size_zeroCells, hzs, hu, hv]
      rw [← Nat.add_mul, ← Nat.add_mul]
      congr 1; omega)
    (by simpa using hcap) hm
    (fun j v hj => by
      have hj' : j < (us ++ vs).length := by
        rcases Nat.lt_or_ge j (us ++ vs).length with h | h
        · exact h
        · rw [List.getElem?_eq_none h] at hj; cases hj
      rw [Array.getElem?_append_left (by simpa using hj')]
      simpa using hj)
  obtain ⟨g', k1, k2⟩ := this
  refine ⟨g', k1, ?_⟩
  rw [List.length_append] at k2
  exact k2
theorem append_sound (hR : R C A N g st a w) {t t2 ty e n b k : Nat} (ht : rowInf P t = some (e, n, b)) (ht2 : isSliceT P t2 = true) {x y z : AV} {ux uy : Value} (hx : VR g w x ux) (hy : VR g w y uy) {st' : St}
    (ha : appendA k n st x y = some (z, st')) : ∃ u w' g', (Builtin.append_ #[t, t2] ty #[ux, uy]).run P w = .ok u w' ∧ R C A N g' st' a w' ∧ VR g' w' z u := by
  obtain ⟨hu, i, zv, hi, hz, hzs, hsz, hby, hn, hb⟩ := rowInf_spec ht
  subst hsz
  unfold appendA at ha
  split at ha
  · rename_i es fs hes hfs
    split at ha
    · rename_i hlen
      obtain ⟨vs, sy, py, ly⟩ := elems_src hn hfs hy
      obtain ⟨us, sx, px, lx⟩ := elems_src hn hes hx
      have hbytes : (es.length + fs.length) * i.bytes ≤ 140737488355328 := by
        have : (es.length + fs.length) * i.bytes ≤ 4294967296 * 32768 := Nat.mul_le_mul hlen (by omega)
        omega
      have hcapm : ∀ old, grownCap w (es.length + fs.length) old e ≤ maxLen := fun old => grownCap_le_maxLen w _ old e (by simp only [maxLen]; omega)
      have hcapge : ∀ old, es.length + fs.length ≤ grownCap w (es.length + fs.length) old e := fun old => grownCap_ge w _ old e
      split at ha
      ·
        simp only [Option.some.injEq, Prod.mk.injEq] at ha
        obtain ⟨rfl, rfl⟩ := ha
        have hnil : es = [] := by
          simp only [elems, Option.some.injEq] at hes
          exact hes.symm
        subst hnil
        simp only [VR] at hx
        subst hx
        by_cases hm : fs.length = 0
        · have hf : fs = [] := List.eq_nil_of_length_eq_zero hm
          subst hf
          have hv0 : vs = [] := List.eq_nil_of_length_eq_zero (by simpa using sy.1)
          subst hv0
          exact ⟨_, _, g, run_append_same hu ht2 hi sy (Nat.le_refl 0), hR.kill [k] [] (fun _ _ h => by cases h), by simp only [VR, OwnSl, List.append_nil]; exact ⟨hn, .inl ⟨trivial, trivial⟩⟩⟩
        · have hrun := run_append_new (ty := ty) hu ht2 hi hz (base := none) (sLen := 0) (sCap := 0) (olds := []) ⟨by simp, .inr ⟨rfl, 0, rfl⟩⟩ sy (by omega) (Nat.le_refl 0) (by simpa using hbytes) (by simp at hlen; omega)
          obtain ⟨g', k1, k2⟩ := hR.appendNew (k := k) (S := [k]) (by simp) (e := e) hzs hn (es := []) (us := []) (by simp [PRl]) py (by simp) ly (by simp) sy.1 (hcapge 0) (hcapm 0)
          simp only [List.length_nil, Nat.zero_add] at hrun k1 k2
          exact ⟨_, _, g', hrun, k1, k2⟩
      · rename_i r m es'
        simp only [Option.some.injEq, Prod.mk.injEq] at ha
        obtain ⟨rfl, rfl⟩ := ha
        have hes' : m = i.size ∧ es' = es := by
          simp only [elems] at hes
          split at hes
          · rename_i hm; simp at hes; exact ⟨hm, hes⟩
          · cases hes
        obtain ⟨rfl, rfl⟩ := hes'
        simp only [VR, OwnSl] at hx
        obtain ⟨_, ⟨rfl, rfl⟩ | ⟨h0, _⟩ | ⟨cap, cur, T, rfl, h2, h3, h5, h6, h7, h8⟩⟩ := hx
        · by_cases hm : fs.length = 0
          · have hf : fs = [] := List.eq_nil_of_length_eq_zero hm
            subst hf
            have hv0 : vs = [] := List.eq_nil_of_length_eq_zero (by simpa using sy.1)
            subst hv0
            exact ⟨_, _, g, run_append_same hu ht2 hi sy (Nat.le_refl 0), hR.kill [r, k] [] (fun _ _ h => by cases h), by simp only [VR, OwnSl, List.append_nil]; exact ⟨hn, .inl ⟨trivial, trivial⟩⟩⟩
          · have hrun := run_append_new (ty := ty) hu ht2 hi hz (base := none) (sLen := 0) (sCap := 0) (olds := []) ⟨by simp, .inr ⟨rfl, 0, rfl⟩⟩ sy (by omega) (Nat.le_refl 0) (by simpa using hbytes) (by simp at hlen; omega)
            obtain ⟨g', k1, k2⟩ := hR.appendNew (k := k) (S := [r, k]) (by simp) (e := e) hzs hn (es := []) (us := []) (by simp [PRl]) py (by simp) ly (by simp) sy.1 (hcapge 0) (hcapm 0)
            simp only [List.length_nil, Nat.zero_add] at hrun k1 k2
            exact ⟨_, _, g', hrun, k1, k2⟩
        · omega
        · simp only [Nat.zero_mul, Nat.zero_add] at h7 h8 sx ⊢
          by_cases hroom : es'.length + fs.length ≤ cap
          ·
            have hfit : es'.length * i.size + vs.length ≤ cur.size := by
              rw [sy.1, ← Nat.add_mul]; exact Nat.le_trans (Nat.mul_le_mul_right _ hroom) h7
            have hrun := run_append_room' (ty := ty) hu ht2 hi h6 sy (PRl.one py) hroom hfit
            generalize hnew : (cur.toList.take (es'.length * i.size) ++ vs ++ cur.toList.drop (es'.length * i.size + vs.length)).toArray = new at hrun
            have hnb : ∀ b', b' ≠ g.row r → (w.setRow (g.row r) new).heap[b']? = w.heap[b']? := fun b' hb' => setRow_other w _ b' new hb'
            have hl : Lasts [r, k] [] g w (g.newRow (g.row r) k) (w.setRow (g.row r) new) := by
              refine ⟨fun b' _ ho => ?_, fun b' q _ hq ho => ?_, fun q hq => ?_, fun _ _ => rfl⟩
              · have hne : b' ≠ g.row r := fun e => by rw [e, h5] at ho; cases ho
                exact ⟨by simp [Gh.newRow, hne, ho], hnb b' hne⟩
              · have hne : b' ≠ g.row r := fun e => by rw [e, h5] at ho; injection ho with ho; exact hq (by simp [ho])
                exact ⟨by simp [Gh.newRow, hne, ho], hnb b' hne⟩
              · have : q ≠ k := fun e => hq (by simp [e])
                simp [Gh.newRow, this]
            refine ⟨_, _, g.newRow (g.row r) k, hrun, ?_, ?_⟩
            · refine hR.lasts hl (hR.fr.step hl rfl ⟨rfl, by first | exact Nat.le_refl _ | exact Nat.le_succ _⟩ rfl (by simp) (fun b' _ ho => ?_) (fun _ _ h => by cases h)) (fun s cs hs _ => ?_)
              · have hne : b' ≠ g.row r := fun e => by rw [e, h5] at ho; cases ho
                exact ⟨by simp [Gh.newRow, hne, ho], hnb b' hne⟩
              · have ho := (hR.ob s cs hs).1
                have hne : g.box s ≠ g.row r := fun e => by rw [e, h5] at ho; cases ho
                exact ⟨by simp [Gh.newRow, hne, ho], hnb _ hne⟩
            · simp only [VR, OwnSl]
              have hrow : (g.newRow (g.row r) k).row k = g.row r := by simp [Gh.newRow]
              refine ⟨hn, .inr (.inr ⟨cap, new, T, ?_, ?_, by omega, ?_, ?_, ?_, ?_⟩)⟩
              · rw [hrow]; simp
              · simpa using hroom
              · rw [hrow]; simp [Gh.newRow]
              · rw [hrow]; exact setRow_heap w _ cur new T _ h6
              · rw [← hnew]
                simp only [List.size_toArray, List.length_append, List.length_take, List.length_drop, Array.length_toList]
                rw [Nat.zero_add, Nat.min_eq_left (by omega)]
                omega
              · rw [hrow]
                refine PRe.of_list (es' ++ fs) (us ++ vs) _ _ 0 (fun e he => (List.mem_append.1 he).elim (lx e) (ly e)) ?_ ?_
                · rw [List.flatten_append]; exact PRl.append (PRl.mono hl.ro' px) (PRl.mono hl.ro' py)
                · intro j v hj
                  simp only [Nat.zero_mul, Nat.zero_add, add_lit]
                  rw [cell_of_row _ _ _ _ _ _ (setRow_heap w _ cur new T _ h6), ← hnew]
                  have hux : us.length = es'.length * i.size := sx.1
                  have htake : cur.toList.take (es'.length * i.size) = us := by
                    apply List.ext_getElem?
                    intro q
                    rw [List.getElem?_take]
                    by_cases hq : q < es'.length * i.size
                    · rw [if_pos hq]
                      have hq' : us[q]? = some (us[q]'(by omega)) := List.getElem?_eq_getElem (by omega)
                      rcases sx.2 with ⟨a', c', he, hcell⟩ | ⟨h0, _⟩
                      · injection he with he1 he2 he3
                        simp only [Option.some.injEq] at he1
                        have := hcell q _ hq'
                        rw [← he1, add_lit, cell_of_row _ _ _ _ _ _ h6] at this
                        rw [hq']
                        simpa using this
                      · rw [h0] at hq; simp at hq
                    · rw [if_neg hq, List.getElem?_eq_none (by omega)]
                  rw [htake]
                  have hj' : j < (us ++ vs).length := by
                    rcases Nat.lt_or_ge j (us ++ vs).length with h | h
                    · exact h
                    · rw [List.getElem?_eq_none h] at hj; cases hj
                  simp only [List.getElem?_toArray]
                  rw [List.getElem?_append_left hj']
                  exact hj
          · have hrun := run_append_new (ty := ty) hu ht2 hi hz (base := some ⟨g.row r, 0, none⟩) (sLen := es'.length) (sCap := cap) (olds := us) sx sy (by omega) h2 hbytes (by omega)
            obtain ⟨g', k1, k2⟩ := hR.appendNew (k := k) (S := [r, k]) (by simp) (e := e) hzs hn px py lx ly sx.1 sy.1 (hcapge cap) (hcapm cap)
            exact ⟨_, _, g', hrun, k1, k2⟩
      · cases ha
    · cases ha
  · cases ha
end
end Go.Abs
