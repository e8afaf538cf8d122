/- part 3 of the proof -/
import Derived.Test.YtaelofhhkpacbaaGreatDoorT02
set_option linter.all false
/- A store into an element of a row of the call's own; struct literals. -/
namespace Go.Abs

mutual
def AV.setRow (r idx : Nat) (c : List AV) : AV → AV
  | .undef => .undef
  | .v x => .v x
  | .agg cs => .agg (setRowL r idx c cs)
  | .tup cs => .tup (setRowL r idx c cs)
  | .sl (.own q lo) m es => if q = r then (if m = c.length then .sl (.own q lo) m (if lo ≤ idx then es.set (idx - lo) c else es) else .undef) else .sl (.own q lo) m es
  | .sl .no n es => .sl .no n es
  | .sl .full n es => .sl .full n es
  | .ptr s off => .ptr s off
  | .ep (.own q l) i d off => if q = r then (if d.length = c.length then .ep (.own q l) i (if i = idx then c else d) off else .undef) else .ep (.own q l) i d off
  | .ep .no i cells off => .ep .no i cells off
  | .ep .full i cells off => .ep .full i cells off
  | .fn f caps => .fn f (setRowL r idx c caps)
  | .mv f caps => .mv f (setRowL r idx c caps)
  | .mp o => .mp o
  | .ifc t x => .ifc t (x.setRow r idx c)
  | .hnd k q i j off m bss => if q = r then .undef else .hnd k q i j off m bss
  | .mem b xs => .mem b (setRowL r idx c xs)
def setRowL (r idx : Nat) (c : List AV) : List AV → List AV
  | [] => []
  | x :: xs => x.setRow r idx c :: setRowL r idx c xs
end

def St.setRow (r idx : Nat) (c : List AV) (st : St) : St := ⟨st.tmps.map (fun p => (p.1, p.2.setRow r idx c)), st.objs.map (fun p => (p.1, setRowL r idx c p.2))⟩

section
variable {ro ro' : Nat → Prop} {w w' : World}
theorem PRc.move (h : ∀ b, b < w.heap.size → ro b → ro' b ∧ w'.heap[b]? = w.heap[b]?) : ∀ (cs : List AV) (ad : Addr) (j : Nat), (∀ k, k < cs.length → w'.cell? (ad.add (j + k)) = w.cell? (ad.add (j + k))) → PRc ro w cs ad j → PRc ro' w' cs ad j
  | [], _, _, _, _ => by simp [PRc]
  | c :: cs, ad, j, hs, hu => by
    simp only [PRc] at hu ⊢
    obtain ⟨⟨u, h1, h2⟩, h3⟩ := hu
    refine ⟨⟨u, by rw [← h1]; simpa using hs 0 (by simp), PR.mono h c u h2⟩, PRc.move h cs ad (j + 1) (fun k hk => ?_) h3⟩
    have := hs (k + 1) (by simpa using hk)
    rwa [show j + (k + 1) = j + 1 + k from by omega] at this
theorem PRe.of_at : ∀ (es : List (List AV)) (ad : Addr) (n i : Nat), (∀ (k : Nat) (e : List AV), es[k]? = some e → e.length = n ∧ PRc ro w e ad ((i + k) * n)) → PRe ro w es ad n i
  | [], _, _, _, _ => by simp [PRe]
  | e :: es, ad, n, i, h => by
    simp only [PRe]
    have h0 := h 0 e (by simp)
    refine ⟨h0.1, by simpa using h0.2, PRe.of_at es ad n (i + 1) fun k e' he => ?_⟩
    have := h (k + 1) e' (by simpa using he)
    rwa [show i + (k + 1) = i + 1 + k from by omega] at this
end

/-- what a store into element idx of row r has done -/
structure Stored (g : Gh) (w : World) (r idx : Nat) (c : List AV) (cur new : Array Value) (T : TypeId) : Prop where
  own : g.own (g.row r) = .row r
  heap : w.heap[g.row r]? = some (.cells cur T (0, 0))
  size : new.size = cur.size
  same : ∀ p, p < idx * c.length ∨ (idx + 1) * c.length ≤ p → new[p]? = cur[p]?
  cell : PRc (isRo g) (w.setRow (g.row r) new) c ⟨g.row r, idx * c.length, none⟩ 0

section
variable {C : Ctx} {A : A0} {N : Nat} {g g' : Gh} {st : St} {a : Act} {w w' : World} {P : Program}
variable {r idx : Nat} {c : List AV} {cur new : Array Value} {T : TypeId}

theorem Stored.ro (h : Stored g w r idx c cur new T) : ∀ b, b < w.heap.size → isRo g b → isRo g b ∧ (w.setRow (g.row r) new).heap[b]? = w.heap[b]? := fun b _ ho =>
  ⟨ho, setRow_other w _ b new (fun e => by subst e; have := h.own; rw [ho] at this; cases this)⟩
theorem Stored.other (h : Stored g w r idx c cur new T) {b q : Nat} (hq : q ≠ r) (ho : g.own b = .row q) : (w.setRow (g.row r) new).heap[b]? = w.heap[b]? :=
  setRow_other w _ b new (fun e => by subst e; have := h.own; rw [ho] at this; injection this with this; exact hq this)
theorem Stored.heap' (h : Stored g w r idx c cur new T) : (w.setRow (g.row r) new).heap[g.row r]? = some (.cells new T (0, 0)) := setRow_heap w _ cur new T _ h.heap

theorem Stored.elem (h : Stored g w r idx c cur new T) {i n : Nat} {e : List AV} (hn : n = c.length) (he : e.length = n) (hi : i ≠ idx) (hp : PRc (isRo g) w e ⟨g.row r, i * n, none⟩ 0) :
    PRc (isRo g) (w.setRow (g.row r) new) e ⟨g.row r, i * n, none⟩ 0 := by
  refine PRc.move h.ro e _ 0 (fun k hk => ?_) hp
  rw [add_lit, cell_of_row _ _ _ _ _ _ h.heap', cell_of_row _ _ _ _ _ _ h.heap]
  refine h.same _ ?_
  subst hn
  rw [he] at hk
  rcases Nat.lt_or_gt_of_ne hi with hlt | hgt
  · left
    have : (i + 1) * c.length ≤ idx * c.length := Nat.mul_le_mul_right _ hlt
    rw [Nat.add_mul] at this
    omega
  · right
    have : (idx + 1) * c.length ≤ i * c.length := Nat.mul_le_mul_right _ hgt
    omega

mutual
theorem VR.setRow (h : Stored g w r idx c cur new T) : ∀ (x : AV) (u : Value), VR g w x u → VR g (w.setRow (g.row r) new) (x.setRow r idx c) u
  | .undef, _, _ => by simp [AV.setRow, VR]
  | .v x, u, hu => by simpa [AV.setRow, VR] using hu
  | .agg cs, u, hu => by
    simp only [AV.setRow, VR] at hu ⊢
    obtain ⟨us, h1, h2⟩ := hu
    exact ⟨us, h1, VRs.setRow h cs us.toList h2⟩
  | .tup cs, u, hu => by
    simp only [AV.setRow, VR] at hu ⊢
    obtain ⟨us, h1, h2⟩ := hu
    exact ⟨us, h1, VRs.setRow h cs us.toList h2⟩
  | .sl (.own q lo) m es, u, hu => by
    simp only [AV.setRow]
    by_cases hq : q = r
    · subst hq
      simp only [if_true]
      split
      · rename_i hm
        subst hm
        simp only [VR, OwnSl] at hu ⊢
        refine ⟨hu.1, ?_⟩
        rcases hu.2 with ⟨rfl, rfl⟩ | ⟨h0, rfl, hu'⟩ | ⟨cap, cur', T', h1, h2, h3, h5, h6, h7, h8⟩
        · exact .inl ⟨rfl, by split <;> simp⟩
        · exact .inr (.inl ⟨h0, by split <;> simp, hu'⟩)
        · have hh := h.heap
          rw [h6] at hh
          injection hh with hh
          injection hh with hh1 hh2
          subst hh1
          have hlen : (if lo ≤ idx then es.set (idx - lo) c else es).length = es.length := by split <;> simp
          refine .inr (.inr ⟨cap, new, T, by rw [hlen]; exact h1, by rw [hlen]; exact h2, h3, h5, h.heap', by rw [h.size]; exact h7, ?_⟩)
          refine PRe.of_at _ _ _ 0 fun k e he => ?_
          have hcase : (lo ≤ idx ∧ k = idx - lo ∧ e = c) ∨ (es[k]? = some e ∧ lo + k ≠ idx) := by
            split at he
            · rename_i hle
              rw [List.getElem?_set] at he
              split at he
              · rename_i hk
                split at he
                · simp at he; exact .inl ⟨hle, hk.symm, he.symm⟩
                · cases he
              · rename_i hk; exact .inr ⟨he, by omega⟩
            · rename_i hle; exact .inr ⟨he, by omega⟩
          rcases hcase with ⟨hle, rfl, rfl⟩ | ⟨he, hne⟩
          · refine ⟨rfl, ?_⟩
            have := h.cell
            obtain ⟨us, k1, k2⟩ := PRc.list _ _ _ this
            refine PRc.of_list _ us _ _ k1 fun j v hv => ?_
            have := k2 j v hv
            rw [add_lit] at this ⊢
            rw [show lo * e.length + ((0 + (idx - lo)) * e.length + j) = idx * e.length + (0 + j) from by
              rw [← Nat.add_assoc, ← Nat.add_mul]; rw [show lo + (0 + (idx - lo)) = idx from by omega]; omega]
            exact this
          · obtain ⟨e1, e2⟩ := PRe.at_ es _ _ 0 h8 k e he
            refine ⟨e1, ?_⟩
            have e3 := PRc.shift e ⟨g.row q, lo * c.length, none⟩ ((0 + k) * c.length) 0 (by simpa using e2)
            rw [add_lit, ← Nat.add_mul, show lo + (0 + k) = lo + k from by omega] at e3
            have e4 := h.elem (i := lo + k) rfl e1 hne e3
            obtain ⟨us, k1, k2⟩ := PRc.list _ _ _ e4
            refine PRc.of_list _ us _ _ k1 fun j v hv => ?_
            have := k2 j v hv
            rw [add_lit] at this ⊢
            rw [show lo * c.length + ((0 + k) * c.length + j) = (lo + k) * c.length + (0 + j) from by
              rw [← Nat.add_assoc, ← Nat.add_mul]; simp]
            exact this
      · simp [VR]
    · simp only [hq, if_false]
      simp only [VR, OwnSl] at hu ⊢
      refine ⟨hu.1, ?_⟩
      rcases hu.2 with hu | hu | ⟨cap, cur', T', h1, h2, h3, h5, h6, h7, h8⟩
      · exact .inl hu
      · exact .inr (.inl hu)
      · have ho := h.other hq h5
        exact .inr (.inr ⟨cap, cur', T', h1, h2, h3, h5, by rw [ho]; exact h6, h7, PRe.mono_at h.ro es _ m 0 ho h8⟩)
  | .sl .no n es, u, hu => by
    simp only [AV.setRow, VR] at hu ⊢
    exact PR.mono h.ro _ u hu
  | .sl .full n es, u, hu => by
    simp only [AV.setRow, VR] at hu ⊢
    exact PR.mono h.ro _ u hu
  | .ptr s off, u, hu => by simpa [AV.setRow, VR] using hu
  | .mp s, u, hu => by simpa [AV.setRow, VR] using hu
  | .ep (.own q l) i d off, u, hu => by
    simp only [AV.setRow]
    by_cases hq : q = r
    · subst hq
      simp only [if_true]
      split
      · rename_i hd
        simp only [VR, EpAt] at hu ⊢
        obtain ⟨cur', T', h1, h2, h3, h4, h5⟩ := hu
        have hh := h.heap
        rw [h3] at hh
        injection hh with hh
        injection hh with hh1 hh2
        subst hh1
        have hlen : (if i = idx then c else d).length = d.length := by split <;> simp_all
        refine ⟨new, T, by rw [hlen]; exact h1, h2, h.heap', by rw [hlen, h.size]; exact h4, ?_⟩
        rw [hlen]
        by_cases hi : i = idx
        · subst hi
          simp only [if_true]
          rw [hd]; exact h.cell
        · simp only [hi, if_false]
          exact h.elem hd rfl hi h5
      · simp [VR]
    · simp only [hq, if_false]
      simp only [VR, EpAt] at hu ⊢
      obtain ⟨cur', T', h1, h2, h3, h4, h5⟩ := hu
      have ho := h.other hq h2
      exact ⟨cur', T', h1, h2, by rw [ho]; exact h3, h4, PRc.mono_at h.ro d _ 0 ho h5⟩
  | .ep .no i cells off, u, hu => by
    simp only [AV.setRow, VR, EpAt] at hu ⊢
    obtain ⟨ad, h1, h0, h2, h3⟩ := hu
    exact ⟨ad, h1, h0, h2, PRc.mono h.ro _ ad 0 h2 h3⟩
  | .ep .full i cells off, u, hu => by
    simp only [AV.setRow, VR, EpAt] at hu ⊢
    obtain ⟨ad, h1, h0, h2, h3⟩ := hu
    exact ⟨ad, h1, h0, h2, PRc.mono h.ro _ ad 0 h2 h3⟩
  | .fn f caps, u, hu => by
    simp only [AV.setRow, VR] at hu ⊢
    obtain ⟨us, h1, h2⟩ := hu
    exact ⟨us, h1, VRs.setRow h caps us.toList h2⟩
  | .mv f caps, u, hu => by
    simp only [AV.setRow, VR] at hu ⊢
    obtain ⟨us, h1, h2⟩ := hu
    exact ⟨us, h1, VRs.setRow h caps us.toList h2⟩
  | .ifc t x, u, hu => by
    simp only [AV.setRow, VR] at hu ⊢
    obtain ⟨y, h1, h2⟩ := hu
    exact ⟨y, h1, VR.setRow h x y h2⟩
  | .hnd k q i j off m bss, u, hu => by
    simp only [AV.setRow]
    by_cases hq : q = r
    · simp [hq, VR]
    · simp only [hq, if_false]
      simp only [VR] at hu ⊢
      exact hu.map ⟨h.ro, rfl, fun _ => rfl, fun _ ho => ⟨ho, h.other hq ho⟩, fun i _ ho => ⟨ho, setRow_other w _ _ new (fun e => by have := h.own; rw [← e, ho] at this; cases this)⟩⟩
  | .mem b xs, u, hu => by
    simp only [AV.setRow, VR] at hu ⊢
    obtain ⟨ad, vs, h1, h2, h3, h4⟩ := hu
    obtain ⟨k1, k2⟩ := h2.move h.ro h1
    exact ⟨ad, vs, k1, k2, VRs.setRow h xs vs h3, h4⟩
theorem VRs.setRow (h : Stored g w r idx c cur new T) : ∀ (cs : List AV) (us : List Value), VRs g w cs us → VRs g (w.setRow (g.row r) new) (setRowL r idx c cs) us
  | [], [], _ => by simp [setRowL, VRs]
  | [], _ :: _, hu => by simp [VRs] at hu
  | _ :: _, [], hu => by simp [VRs] at hu
  | x :: cs, u :: us, hu => by
    simp only [setRowL, VRs] at hu ⊢
    exact ⟨VR.setRow h x u hu.1, VRs.setRow h cs us hu.2⟩
end

theorem R.setRow (hR : R C A N g st a w) (h : Stored g w r idx c cur new T) : R C A N g (st.setRow r idx c) a (w.setRow (g.row r) new) where
  size := hR.size
  defs := hR.defs
  tm := fun k x hx => by
    simp only [St.setRow, lk_map] at hx
    obtain ⟨y, hy, rfl⟩ := Option.map_eq_some_iff.1 hx
    obtain ⟨u, hu, hv⟩ := hR.tm k y hy
    exact ⟨u, hu, VR.setRow h y u hv⟩
  ob := fun s cs hs => by
    simp only [St.setRow, lk_map] at hs
    obtain ⟨y, hy, rfl⟩ := Option.map_eq_some_iff.1 hs
    have h1 := (hR.ob s y hy).1
    exact (hR.ob s y hy).lift rfl h1 (setRow_other w _ _ new (fun e => by have := h.own; rw [← e, h1] at this; cases this)) (fun us hu => VRs.setRow h _ _ hu)
  fr := by
    have hl : Lasts [r] [] g w g (w.setRow (g.row r) new) := ⟨fun b hb ho => ⟨ho, (h.ro b hb ho).2⟩, fun b q hb hq ho => ⟨ho, h.other (by simpa using hq) ho⟩, fun _ _ => rfl, fun _ _ => rfl, fun b q i _ _ ho => ⟨ho, setRow_other w _ b new (fun e => by subst e; have := h.own; rw [ho] at this; cases this)⟩, fun _ _ _ => rfl⟩
    exact hR.fr.step hl rfl ⟨rfl, by first | exact Nat.le_refl _ | exact Nat.le_succ _⟩ rfl (by simp) (fun b _ ho => ⟨ho, setRow_other w _ b new (fun e => by subst e; have := h.own; rw [ho] at this; cases this)⟩) (fun _ _ he => by cases he)

end

theorem PRc.unshift {ro : Nat → Prop} {w : World} {cs : List AV} {b o : Nat} (h : PRc ro w cs ⟨b, o, none⟩ 0) : PRc ro w cs ⟨b, 0, none⟩ o := by
  obtain ⟨us, k1, k2⟩ := PRc.list cs _ 0 h
  refine PRc.of_list cs us _ _ k1 fun j v hv => ?_
  have := k2 j v hv
  rw [add_lit] at this ⊢
  rw [show 0 + (o + j) = o + (0 + j) from by omega]
  exact this

/-- a deep row's handle after a store into element j of its i-th slice -/
def Hset (k : HK) (i' j' : Nat) (bss : List (List (List AV))) (i j : Nat) (c : List AV) : List (List (List AV)) := match k with
  | .dsl => bss.set i ((bss.getD i []).set j c)
  | .dp => if i' = i then bss.map (·.set j c) else bss
  | .isl => if i' = i then bss.map (·.set j c) else bss
  | .iep => if i' = i ∧ j' = j then [[c]] else bss
mutual
def AV.setInn (r i j : Nat) (c : List AV) : AV → AV
  | .undef => .undef
  | .v x => .v x
  | .agg cs => .agg (setInnL r i j c cs)
  | .tup cs => .tup (setInnL r i j c cs)
  | .sl t m es => .sl t m es
  | .ptr s off => .ptr s off
  | .ep t k d off => .ep t k d off
  | .fn f caps => .fn f (setInnL r i j c caps)
  | .mv f caps => .mv f (setInnL r i j c caps)
  | .mp o => .mp o
  | .ifc t x => .ifc t (x.setInn r i j c)
  | .hnd k q i' j' off m bss => if q = r then (if m = c.length then .hnd k q i' j' off m (Hset k i' j' bss i j c) else .undef) else .hnd k q i' j' off m bss
  | .mem b xs => .mem b (setInnL r i j c xs)
def setInnL (r i j : Nat) (c : List AV) : List AV → List AV
  | [] => []
  | x :: xs => x.setInn r i j c :: setInnL r i j c xs
end
def St.setInn (r i j : Nat) (c : List AV) (st : St) : St := ⟨st.tmps.map (fun p => (p.1, p.2.setInn r i j c)), st.objs.map (fun p => (p.1, setInnL r i j c p.2))⟩

structure StoredI (g : Gh) (w : World) (r i j : Nat) (c : List AV) (cur new : Array Value) (T : TypeId) : Prop where
  own : g.own (g.inn r i) = .inn r i
  heap : w.heap[g.inn r i]? = some (.cells cur T (0, 0))
  size : new.size = cur.size
  same : ∀ p, p < j * c.length ∨ (j + 1) * c.length ≤ p → new[p]? = cur[p]?
  cell : PRc (isRo g) (w.setRow (g.inn r i) new) c ⟨g.inn r i, j * c.length, none⟩ 0

section
variable {C : Ctx} {A : A0} {N : Nat} {g g' : Gh} {st : St} {a : Act} {w w' : World} {P : Program}
variable {r i j : Nat} {c : List AV} {cur new : Array Value} {T : TypeId}

theorem StoredI.ne (h : StoredI g w r i j c cur new T) {b : Nat} (ho : g.own b ≠ .inn r i) : (w.setRow (g.inn r i) new).heap[b]? = w.heap[b]? :=
  setRow_other w _ b new (fun e => ho (by rw [e]; exact h.own))
theorem StoredI.ro (h : StoredI g w r i j c cur new T) : ∀ b, b < w.heap.size → isRo g b → isRo g b ∧ (w.setRow (g.inn r i) new).heap[b]? = w.heap[b]? := fun b _ ho =>
  ⟨ho, h.ne (by rw [show g.own b = .ro from ho]; intro e; cases e)⟩
theorem StoredI.heap' (h : StoredI g w r i j c cur new T) : (w.setRow (g.inn r i) new).heap[g.inn r i]? = some (.cells new T (0, 0)) := setRow_heap w _ cur new T _ h.heap

theorem StoredI.elem (h : StoredI g w r i j c cur new T) {k n : Nat} {e : List AV} (hn : n = c.length) (he : e.length = n) (hk : k ≠ j) (hp : PRc (isRo g) w e ⟨g.inn r i, k * n, none⟩ 0) :
    PRc (isRo g) (w.setRow (g.inn r i) new) e ⟨g.inn r i, k * n, none⟩ 0 := by
  refine PRc.move h.ro e _ 0 (fun q hq => ?_) hp
  rw [add_lit, cell_of_row _ _ _ _ _ _ h.heap', cell_of_row _ _ _ _ _ _ h.heap]
  refine h.same _ ?_
  subst hn
  rw [he] at hq
  rcases Nat.lt_or_gt_of_ne hk with hlt | hgt
  · left
    have : (k + 1) * c.length ≤ j * c.length := Nat.mul_le_mul_right _ hlt
    rw [Nat.add_mul] at this
    omega
  · right
    have : (j + 1) * c.length ≤ k * c.length := Nat.mul_le_mul_right _ hgt
    omega

theorem StoredI.inn (h : StoredI g w r i j c cur new T) {q m : Nat} {b : List (List AV)} {u : Value} (hm : m = c.length) (hu : InnAt g w r q m b u) : InnAt g (w.setRow (g.inn r i) new) r q m (if q = i then b.set j c else b) u := by
  rcases hu with ⟨rfl, hu⟩ | ⟨cap, cur', T', h1, h2, h3, h4, h5, h6, h7⟩
  · exact .inl ⟨by split <;> simp, hu⟩
  · by_cases hq : q = i
    · subst hq
      simp only [if_true]
      subst hm
      have hh := h.heap
      rw [h5] at hh
      injection hh with hh
      injection hh with hh1 hh2
      subst hh1
      refine .inr ⟨cap, new, T, by rw [List.length_set]; exact h1, by rw [List.length_set]; exact h2, h3, h4, h.heap', by rw [h.size]; exact h6, ?_⟩
      refine PRe.of_at _ _ _ 0 fun k e he => ?_
      rw [List.getElem?_set] at he
      split at he
      · rename_i hk
        split at he
        · simp at he; subst he; subst hk
          refine ⟨rfl, ?_⟩
          have := PRc.unshift h.cell
          simpa using this
        · cases he
      · rename_i hk
        obtain ⟨e1, e2⟩ := PRe.at_ b _ _ 0 h7 k e he
        refine ⟨e1, ?_⟩
        have e3 := PRc.shift e ⟨g.inn r q, 0, none⟩ ((0 + k) * c.length) 0 (by simpa using e2)
        rw [add_lit, Nat.zero_add, Nat.zero_add] at e3
        have e4 := h.elem rfl e1 (Ne.symm hk) e3
        have := PRc.unshift e4
        simpa using this
    · simp only [hq, if_false]
      have ho := h.ne (b := g.inn r q) (by rw [h4]; intro e; injection e with _ e; exact hq e)
      exact .inr ⟨cap, cur', T', h1, h2, h3, h4, by rw [ho]; exact h5, h6, PRe.mono_at h.ro b _ m 0 ho h7⟩

theorem StoredI.hnd (h : StoredI g w r i j c cur new T) {k : HK} {i' j' off m : Nat} {bss : List (List (List AV))} {u : Value} (hm : m = c.length) (hu : HndAt g w k r i' j' off m bss u) : HndAt g (w.setRow (g.inn r i) new) k r i' j' off m (Hset k i' j' bss i j c) u := by
  obtain ⟨h0, hu⟩ := hu
  refine ⟨h0, ?_⟩
  cases k with
  | dsl =>
    rcases hu with ⟨h1, rfl⟩ | ⟨cap, cur', T', h1, h2, h3, h4, h5, h6, h7⟩
    · exact .inl ⟨h1, by simp [Hset]⟩
    · have ho := h.ne (b := g.row r) (by rw [h4]; intro e; cases e)
      have hl : (Hset .dsl i' j' bss i j c).length = bss.length := by simp [Hset]
      refine .inr ⟨cap, cur', T', by rw [hl]; exact h1, by rw [hl]; exact h2, h3, h4, by rw [ho]; exact h5, h6, fun q b hq => ?_⟩
      simp only [Hset] at hq
      rw [List.getElem?_set] at hq
      split at hq
      · rename_i hiq
        subst hiq
        split at hq
        · rename_i hlt
          simp at hq; subst hq
          obtain ⟨v, hv, hi⟩ := h7 i bss[i] (List.getElem?_eq_getElem hlt)
          have := h.inn hm hi
          simp only [if_true] at this
          exact ⟨v, hv, by simpa [List.getElem?_eq_getElem hlt] using this⟩
        · cases hq
      · rename_i hiq
        obtain ⟨v, hv, hi⟩ := h7 q b hq
        have := h.inn hm hi
        rw [if_neg (Ne.symm hiq)] at this
        exact ⟨v, hv, this⟩
  | dp =>
    obtain ⟨b, rfl, cur', T', v, h1, h4, h5, h6, h7⟩ := hu
    have ho := h.ne (b := g.row r) (by rw [h4]; intro e; cases e)
    refine ⟨if i' = i then b.set j c else b, by simp only [Hset]; split <;> simp, cur', T', v, h1, h4, by rw [ho]; exact h5, h6, h.inn hm h7⟩
  | isl =>
    obtain ⟨b, rfl, hi⟩ := hu
    exact ⟨if i' = i then b.set j c else b, by simp only [Hset]; split <;> simp, h.inn hm hi⟩
  | iep =>
    obtain ⟨d, rfl, hl, cur', T', h1, h4, h5, h6, h7⟩ := hu
    by_cases hi : i' = i
    · subst hi
      have hh := h.heap
      rw [h5] at hh
      injection hh with hh
      injection hh with hh1 hh2
      subst hh1
      by_cases hj : j' = j
      · subst hj
        refine ⟨c, by simp [Hset], hm.symm, new, T, h1, h4, h.heap', by rw [h.size]; exact h6, ?_⟩
        rw [hm]; exact h.cell
      · refine ⟨d, by simp [Hset, hj], hl, new, T, h1, h4, h.heap', by rw [h.size]; exact h6, ?_⟩
        exact h.elem hm hl hj h7
    · have ho := h.ne (b := g.inn r i') (by rw [h4]; intro e; injection e with _ e; exact hi e)
      exact ⟨d, by simp [Hset, hi], hl, cur', T', h1, h4, by rw [ho]; exact h5, h6, PRc.mono_at h.ro d _ 0 ho h7⟩

theorem StoredI.map (h : StoredI g w r i j c cur new T) {q : Nat} (hq : q ≠ r) : HndMap g w q g (w.setRow (g.inn r i) new) q :=
  ⟨h.ro, rfl, fun _ => rfl, fun _ ho => ⟨ho, h.ne (by rw [ho]; intro e; cases e)⟩, fun k _ ho => ⟨ho, h.ne (by rw [ho]; intro e; injection e with e _; exact hq e)⟩⟩

theorem StoredI.lasts (h : StoredI g w r i j c cur new T) : Lasts [r] [] g w g (w.setRow (g.inn r i) new) :=
  ⟨h.ro, fun b q _ _ ho => ⟨ho, h.ne (by rw [ho]; intro e; cases e)⟩, fun _ _ => rfl, fun _ _ => rfl, fun b q k _ hq ho => ⟨ho, h.ne (by rw [ho]; intro e; injection e with e _; exact hq (by simp [e]))⟩, fun _ _ _ => rfl⟩

mutual
theorem VR.setInn (h : StoredI g w r i j c cur new T) : ∀ (x : AV) (u : Value), VR g w x u → VR g (w.setRow (g.inn r i) new) (x.setInn r i j c) u
  | .undef, _, _ => by simp [AV.setInn, VR]
  | .v x, u, hu => by simpa [AV.setInn, VR] using hu
  | .agg cs, u, hu => by
    simp only [AV.setInn, VR] at hu ⊢
    obtain ⟨us, h1, h2⟩ := hu
    exact ⟨us, h1, VRs.setInn h cs us.toList h2⟩
  | .tup cs, u, hu => by
    simp only [AV.setInn, VR] at hu ⊢
    obtain ⟨us, h1, h2⟩ := hu
    exact ⟨us, h1, VRs.setInn h cs us.toList h2⟩
  | .sl (.own q lo) m es, u, hu => by
    simp only [AV.setInn, VR, OwnSl] at hu ⊢
    refine ⟨hu.1, ?_⟩
    rcases hu.2 with hu | hu | ⟨cap, cur', T', h1, h2, h3, h5, h6, h7, h8⟩
    · exact .inl hu
    · exact .inr (.inl hu)
    · have ho := h.ne (b := g.row q) (by rw [h5]; intro e; cases e)
      exact .inr (.inr ⟨cap, cur', T', h1, h2, h3, h5, by rw [ho]; exact h6, h7, PRe.mono_at h.ro es _ m 0 ho h8⟩)
  | .sl .no m es, u, hu => by
    simp only [AV.setInn, VR] at hu ⊢
    exact PR.mono h.ro _ u hu
  | .sl .full m es, u, hu => by
    simp only [AV.setInn, VR] at hu ⊢
    exact PR.mono h.ro _ u hu
  | .ptr s off, u, hu => by simpa [AV.setInn, VR] using hu
  | .mp s, u, hu => by simpa [AV.setInn, VR] using hu
  | .ep (.own q l) k d off, u, hu => by
    simp only [AV.setInn, VR, EpAt] at hu ⊢
    obtain ⟨cur', T', h1, h2, h3, h4, h5⟩ := hu
    have ho := h.ne (b := g.row q) (by rw [h2]; intro e; cases e)
    exact ⟨cur', T', h1, h2, by rw [ho]; exact h3, h4, PRc.mono_at h.ro d _ 0 ho h5⟩
  | .ep .no k d off, u, hu => by
    simp only [AV.setInn, VR, EpAt] at hu ⊢
    obtain ⟨ad, h1, h0, h2, h3⟩ := hu
    exact ⟨ad, h1, h0, h2, PRc.mono h.ro _ ad 0 h2 h3⟩
  | .ep .full k d off, u, hu => by
    simp only [AV.setInn, VR, EpAt] at hu ⊢
    obtain ⟨ad, h1, h0, h2, h3⟩ := hu
    exact ⟨ad, h1, h0, h2, PRc.mono h.ro _ ad 0 h2 h3⟩
  | .fn f caps, u, hu => by
    simp only [AV.setInn, VR] at hu ⊢
    obtain ⟨us, h1, h2⟩ := hu
    exact ⟨us, h1, VRs.setInn h caps us.toList h2⟩
  | .mv f caps, u, hu => by
    simp only [AV.setInn, VR] at hu ⊢
    obtain ⟨us, h1, h2⟩ := hu
    exact ⟨us, h1, VRs.setInn h caps us.toList h2⟩
  | .ifc t x, u, hu => by
    simp only [AV.setInn, VR] at hu ⊢
    obtain ⟨y, h1, h2⟩ := hu
    exact ⟨y, h1, VR.setInn h x y h2⟩
  | .hnd k q i' j' off m bss, u, hu => by
    simp only [AV.setInn]
    split
    · rename_i hq
      subst hq
      split
      · rename_i hm
        simp only [VR] at hu ⊢
        exact h.hnd hm hu
      · simp [VR]
    · rename_i hq
      simp only [VR] at hu ⊢
      exact hu.map (h.map hq)
  | .mem b xs, u, hu => by
    simp only [AV.setInn, VR] at hu ⊢
    obtain ⟨ad, vs, h1, h2, h3, h4⟩ := hu
    obtain ⟨k1, k2⟩ := h2.move h.ro h1
    exact ⟨ad, vs, k1, k2, VRs.setInn h xs vs h3, h4⟩
theorem VRs.setInn (h : StoredI g w r i j c cur new T) : ∀ (cs : List AV) (us : List Value), VRs g w cs us → VRs g (w.setRow (g.inn r i) new) (setInnL r i j c cs) us
  | [], [], _ => by simp [setInnL, VRs]
  | [], _ :: _, hu => by simp [VRs] at hu
  | _ :: _, [], hu => by simp [VRs] at hu
  | x :: cs, u :: us, hu => by
    simp only [setInnL, VRs] at hu ⊢
    exact ⟨VR.setInn h x u hu.1, VRs.setInn h cs us hu.2⟩
end

theorem R.setInn (hR : R C A N g st a w) (h : StoredI g w r i j c cur new T) : R C A N g (st.setInn r i j c) a (w.setRow (g.inn r i) new) where
  size := hR.size
  defs := hR.defs
  tm := fun k x hx => by
    simp only [St.setInn, lk_map] at hx
    obtain ⟨y, hy, rfl⟩ := Option.map_eq_some_iff.1 hx
    obtain ⟨u, hu, hv⟩ := hR.tm k y hy
    exact ⟨u, hu, VR.setInn h y u hv⟩
  ob := fun s cs hs => by
    simp only [St.setInn, lk_map] at hs
    obtain ⟨y, hy, rfl⟩ := Option.map_eq_some_iff.1 hs
    have h1 := (hR.ob s y hy).1
    exact (hR.ob s y hy).lift rfl h1 (h.ne (by rw [h1]; intro e; cases e)) (fun us hu => VRs.setInn h _ _ hu)
  fr := hR.fr.step h.lasts rfl ⟨rfl, by first | exact Nat.le_refl _ | exact Nat.le_succ _⟩ rfl (by simp) (fun b _ ho => ⟨ho, h.ne (by rw [ho]; intro e; cases e)⟩) (fun _ _ he => by cases he)
end

section
variable {C : Ctx} {A : A0} {N : Nat} {g g' : Gh} {st : St} {a : Act} {w w' : World} {P : Program}
variable {r idx : Nat} {c : List AV} {cur new : Array Value} {T : TypeId}

def plainL : List AV → Bool
  | [] => true
  | .v _ :: cs => plainL cs
  | _ => false

/-- a store: into a box, or into an element of a row of the call's own -/
def storeA (n : Nat) (st : St) (p x : AV) : Option St :=
  match p with
  | .ptr s off => match lk s st.objs with
    | some cs => if okCells x.cells = true ∧ x.cells.length = n ∧ off + n ≤ cs.length then some ⟨st.tmps, upd s (cut cs off x.cells) st.objs⟩ else none
    | none => none
  | .ep (.own r _) i cells off => match pureL x.cells with
    | some ps => if okCells x.cells = true ∧ ps.length = n ∧ x.cells.length = n ∧ off + n ≤ cells.length ∧ r ∉ rowsOf x.cells then some ((st.freeze (rowsOf x.cells)).setRow r i (cut cells off ps)) else none
    | none => none
  | .hnd .iep r i j off _ [[c]] => if plainL x.cells = true ∧ okCells x.cells = true ∧ x.cells.length = n ∧ off + n ≤ c.length then some (st.setInn r i j (cut c off x.cells)) else none
  | _ => none

theorem PRl_plain {ro : Nat → Prop} : ∀ {cs : List AV} {us : List Value}, plainL cs = true → okCells cs = true → VRs g w cs us → PRl ro w cs us
  | [], [], _, _, _ => by simp [PRl]
  | [], _ :: _, _, _, h => by simp [VRs] at h
  | _ :: _, [], _, _, h => by simp [VRs] at h
  | x :: cs, u :: us, hp, ho, h => by
    simp only [okCells, Bool.and_eq_true] at ho
    simp only [VRs] at h
    cases x with
    | v y =>
      simp only [plainL] at hp
      simp only [PRl, PR]
      have h1 := h.1
      simp only [VR] at h1
      exact ⟨⟨h1, ho.1⟩, PRl_plain hp ho.2 h.2⟩
    | _ => simp [plainL] at hp

theorem store_sound (hR : R C A N g st a w) {t n : Nat} (h2 : szOf P t = some n) {p x : AV} {up ux : Value} (hp : VR g w p up) (hx : VR g w x ux) {st' : St} (hs : storeA n st p x = some st') :
    ∃ w' g', (Instr.storeAt t up ux).run P w = .ok () w' ∧ R C A N g' st' a w' := by
  unfold storeA at hs
  split at hs
  · rename_i s off
    split at hs
    · rename_i cs hcs
      split at hs
      · rename_i hc
        simp only [Option.some.injEq] at hs
        subst hs
        simp only [VR] at hp
        obtain ⟨hmp, rfl⟩ := hp
        obtain ⟨w', h1, h2⟩ := hR.storeBox h2 hmp hcs hx hc.1 hc.2.1 hc.2.2
        exact ⟨w', g, h1, h2⟩
      · cases hs
    · cases hs
  · rename_i r l i cells off
    split at hs
    · rename_i ps hps
      split at hs
      · rename_i hc
        obtain ⟨hok, hpl, hxl, hle, hrn⟩ := hc
        simp only [Option.some.injEq] at hs
        subst hs
        have hxc := VR.cells hx hok
        have hR' := hR.freeze (rowsOf x.cells)
        have hpr := pure_PRl (S := rowsOf x.cells) hxc hps (fun r hr => hr) hok
        have hp' := VR.freeze (S := rowsOf x.cells) _ _ hp
        simp only [AV.freeze, hrn, if_false, VR, EpAt] at hp'
        obtain ⟨cur, T, rfl, k2, k3, k4, k5⟩ := hp'
        have hul : ux.cells.size = n := by rw [← hxl, VRs.length hxc]; simp
        have hnlen : cells.length * i + cells.length ≤ cur.size := by rw [Nat.mul_comm]; simpa [Nat.add_mul] using k4
        have hrow : (Gh.freeze (rowsOf x.cells) g).row r = g.row r := rfl
        rw [hrow] at k2 k3 k5
        have hrun := run_storeVar (P := P) (w := w) (o := i * cells.length + off) h2 hul k3 (by rw [Nat.mul_comm]; omega) (okCells_one hok hxc)
        generalize hnew : (cur.toList.take (i * cells.length + off) ++ ux.cells.toList ++ cur.toList.drop (i * cells.length + off + n)).toArray = new at hrun
        have hcutl : (cut cells off ps).length = cells.length := by simp [cut, hpl]; omega
        have hget : ∀ p, new[p]? = if p < i * cells.length + off then cur[p]? else if p < i * cells.length + off + n then ux.cells[p - (i * cells.length + off)]? else cur[p]? := by
          intro p
          have hmul : i * cells.length + cells.length ≤ cur.size := by rw [Nat.mul_comm]; exact hnlen
          rw [← hnew]
          simp only [List.getElem?_toArray]
          rw [List.append_assoc, List.getElem?_append]
          simp only [List.length_take, Array.length_toList]
          rw [Nat.min_eq_left (by omega)]
          split
          · rename_i hlt; rw [List.getElem?_take, if_pos hlt]; simp
          · rename_i hge
            rw [List.getElem?_append]
            simp only [Array.length_toList, hul]
            by_cases hlt : p < i * cells.length + off + n
            · rw [if_pos (by omega), if_pos hlt]; simp
            · rw [if_neg (by omega), if_neg hlt, List.getElem?_drop]
              simp only [Array.getElem?_toList]
              congr 1; omega
        have hst : Stored (Gh.freeze (rowsOf x.cells) g) w r i (cut cells off ps) cur new T := by
          refine ⟨k2, k3, ?_, ?_, ?_⟩
          · rw [← hnew]
            have hmul : i * cells.length + cells.length ≤ cur.size := by rw [Nat.mul_comm]; exact hnlen
            simp only [List.size_toArray, List.length_append, List.length_take, List.length_drop, Array.length_toList, hul]
            omega
          · intro q hq
            rw [hcutl, Nat.add_mul] at hq
            rw [hget]
            rcases hq with hq | hq
            · rw [if_pos (by omega)]
            · rw [if_neg (by omega), if_neg (by omega)]
          · have hro : ∀ b, b < w.heap.size → isRo (Gh.freeze (rowsOf x.cells) g) b → isRo (Gh.freeze (rowsOf x.cells) g) b ∧ (w.setRow (g.row r) new).heap[b]? = w.heap[b]? := fun b _ ho =>
              ⟨ho, setRow_other w _ b new (fun e => by rw [e] at ho; rw [ho] at k2; cases k2)⟩
            rw [hcutl, hrow]
            obtain ⟨us, m1, m2⟩ := PRc.list _ _ _ k5
            have hus : us.length = cells.length := (PRl.length m1).symm
            refine PRc.of_list _ (us.take off ++ ux.cells.toList ++ us.drop (off + n)) _ 0 ?_ ?_
            · unfold cut
              rw [hpl]
              exact PRl.append (PRl.append (PRl.mono hro (PRl.take off m1)) (PRl.mono hro hpr)) (PRl.mono hro (PRl.drop _ m1))
            · intro j v hv
              rw [add_lit, cell_of_row _ _ _ _ _ _ (setRow_heap w _ cur new T _ k3), hget]
              rw [List.append_assoc, List.getElem?_append] at hv
              simp only [List.length_take, hus] at hv
              rw [Nat.min_eq_left (by omega)] at hv
              have hcell : ∀ j v, us[j]? = some v → cur[i * cells.length + j]? = some v := fun j v hv => by
                have := m2 j v hv
                rw [add_lit, cell_of_row _ _ _ _ _ _ k3] at this
                simpa using this
              split at hv
              · rename_i hlt
                rw [List.getElem?_take, if_pos hlt] at hv
                rw [if_pos (by omega)]
                have := hcell j v hv
                simpa using this
              · rename_i hge
                rw [List.getElem?_append] at hv
                simp only [Array.length_toList, hul] at hv
                split at hv
                · rename_i hlt
                  rw [if_neg (by omega), if_pos (by omega)]
                  rw [show i * cells.length + (0 + j) - (i * cells.length + off) = j - off from by omega]
                  simpa using hv
                · rename_i hge2
                  rw [List.getElem?_drop] at hv
                  rw [if_neg (by omega), if_neg (by omega)]
                  have := hcell _ v hv
                  rw [show i * cells.length + (0 + j) = i * cells.length + (off + n + (j - off - n)) from by omega]
                  exact this
        exact ⟨_, _, by simpa [Instr.storeAt, Instr.sureAddr, Gh.freeze] using hrun, hR'.setRow hst⟩
      · cases hs
    · cases hs
  · rename_i r i j off m cells
    split at hs
    · rename_i hc
      obtain ⟨hpl, hok, hxl, hle⟩ := hc
      simp only [Option.some.injEq] at hs
      subst hs
      have hxc := VR.cells hx hok
      have hpr := PRl_plain (ro := isRo g) hpl hok hxc
      simp only [VR] at hp
      obtain ⟨hm, d, hd, hdl, cur, T, rfl, k2, k3, k4, k5⟩ := hp
      simp only [List.cons.injEq, and_true] at hd
      subst hd
      subst hdl
      have hul : ux.cells.size = n := by rw [← hxl, VRs.length hxc]; simp
      have hnlen : cells.length * j + cells.length ≤ cur.size := by rw [Nat.mul_comm]; simpa [Nat.add_mul] using k4
      have hrun := run_storeVar (P := P) (w := w) (o := j * cells.length + off) h2 hul k3 (by rw [Nat.mul_comm]; omega) (okCells_one hok hxc)
      generalize hnew : (cur.toList.take (j * cells.length + off) ++ ux.cells.toList ++ cur.toList.drop (j * cells.length + off + n)).toArray = new at hrun
      have hcutl : (cut cells off x.cells).length = cells.length := by simp [cut, hxl]; omega
      have hmul : j * cells.length + cells.length ≤ cur.size := by rw [Nat.mul_comm]; exact hnlen
      have hget : ∀ p, new[p]? = if p < j * cells.length + off then cur[p]? else if p < j * cells.length + off + n then ux.cells[p - (j * cells.length + off)]? else cur[p]? := by
        intro p
        rw [← hnew]
        simp only [List.getElem?_toArray]
        rw [List.append_assoc, List.getElem?_append]
        simp only [List.length_take, Array.length_toList]
        rw [Nat.min_eq_left (by omega)]
        split
        · rename_i hlt; rw [List.getElem?_take, if_pos hlt]; simp
        · rename_i hge
          rw [List.getElem?_append]
          simp only [Array.length_toList, hul]
          by_cases hlt : p < j * cells.length + off + n
          · rw [if_pos (by omega), if_pos hlt]; simp
          · rw [if_neg (by omega), if_neg hlt, List.getElem?_drop]
            simp only [Array.getElem?_toList]
            congr 1; omega
      have hst : StoredI g w r i j (cut cells off x.cells) cur new T := by
        refine ⟨k2, k3, ?_, ?_, ?_⟩
        · rw [← hnew]
          simp only [List.size_toArray, List.length_append, List.length_take, List.length_drop, Array.length_toList, hul]
          omega
        · intro q hq
          rw [hcutl, Nat.add_mul] at hq
          rw [hget]
          rcases hq with hq | hq
          · rw [if_pos (by omega)]
          · rw [if_neg (by omega), if_neg (by omega)]
        · have hro : ∀ b, b < w.heap.size → isRo g b → isRo g b ∧ (w.setRow (g.inn r i) new).heap[b]? = w.heap[b]? := fun b _ ho =>
            ⟨ho, setRow_other w _ b new (fun e => by rw [e] at ho; rw [ho] at k2; cases k2)⟩
          rw [hcutl]
          obtain ⟨us, m1, m2⟩ := PRc.list _ _ _ k5
          have hus : us.length = cells.length := (PRl.length m1).symm
          refine PRc.of_list _ (us.take off ++ ux.cells.toList ++ us.drop (off + n)) _ 0 ?_ ?_
          · unfold cut
            rw [hxl]
            exact PRl.append (PRl.append (PRl.mono hro (PRl.take off m1)) (PRl.mono hro hpr)) (PRl.mono hro (PRl.drop _ m1))
          · intro p v hv
            rw [add_lit, cell_of_row _ _ _ _ _ _ (setRow_heap w _ cur new T _ k3), hget]
            rw [List.append_assoc, List.getElem?_append] at hv
            simp only [List.length_take, hus] at hv
            rw [Nat.min_eq_left (by omega)] at hv
            have hcell : ∀ p v, us[p]? = some v → cur[j * cells.length + p]? = some v := fun p v hv => by
              have := m2 p v hv
              rw [add_lit, cell_of_row _ _ _ _ _ _ k3] at this
              simpa using this
            split at hv
            · rename_i hlt
              rw [List.getElem?_take, if_pos hlt] at hv
              rw [if_pos (by omega)]
              have := hcell p v hv
              simpa using this
            · rename_i hge
              rw [List.getElem?_append] at hv
              simp only [Array.length_toList, hul] at hv
              split at hv
              · rename_i hlt
                rw [if_neg (by omega), if_pos (by omega)]
                rw [show j * cells.length + (0 + p) - (j * cells.length + off) = p - off from by omega]
                simpa using hv
              · rename_i hge2
                rw [List.getElem?_drop] at hv
                rw [if_neg (by omega), if_neg (by omega)]
                have := hcell _ v hv
                rw [show j * cells.length + (0 + p) = j * cells.length + (off + n + (p - off - n)) from by omega]
                exact this
      exact ⟨_, _, by simpa [Instr.storeAt, Instr.sureAddr] using hrun, hR.setInn hst⟩
    · cases hs
  · cases hs
end
end Go.Abs
/- Many elements of a row of the call's own written at once: copy, clear. -/
namespace Go.Abs

/-- the elements from 'lo' on, once those from 'idx' on are 'cs' -/
def over (lo idx : Nat) (cs es : List (List AV)) : List (List AV) := es.mapIdx fun i e => if idx ≤ lo + i then (cs[lo + i - idx]?).getD e else e

theorem over_length (lo idx : Nat) (cs es : List (List AV)) : (over lo idx cs es).length = es.length := by simp [over]

mutual
def AV.setRun (r n idx : Nat) (cs : List (List AV)) : AV → AV
  | .undef => .undef
  | .v x => .v x
  | .agg xs => .agg (setRunL r n idx cs xs)
  | .tup xs => .tup (setRunL r n idx cs xs)
  | .sl (.own q lo) m es => if q = r then (if m = n then .sl (.own q lo) m (over lo idx cs es) else .undef) else .sl (.own q lo) m es
  | .sl .no n es => .sl .no n es
  | .sl .full n es => .sl .full n es
  | .ptr s off => .ptr s off
  | .ep (.own q l) i d off => if q = r then .undef else .ep (.own q l) i d off
  | .ep .no i cells off => .ep .no i cells off
  | .ep .full i cells off => .ep .full i cells off
  | .fn f caps => .fn f (setRunL r n idx cs caps)
  | .mv f caps => .mv f (setRunL r n idx cs caps)
  | .mp o => .mp o
  | .ifc t x => .ifc t (x.setRun r n idx cs)
  | .hnd k q i j off m bss => if q = r then .undef else .hnd k q i j off m bss
  | .mem b xs => .mem b (setRunL r n idx cs xs)
def setRunL (r n idx : Nat) (cs : List (List AV)) : List AV → List AV
  | [] => []
  | x :: xs => x.setRun r n idx cs :: setRunL r n idx cs xs
end
def setRunT (r n idx : Nat) (cs : List (List AV)) : List (Nat × AV) → List (Nat × AV)
  | [] => []
  | (k, x) :: l => (k, x.setRun r n idx cs) :: setRunT r n idx cs l
def setRunO (r n idx : Nat) (cs : List (List AV)) : List (Nat × List AV) → List (Nat × List AV)
  | [] => []
  | (k, x) :: l => (k, setRunL r n idx cs x) :: setRunO r n idx cs l
def St.setRun (r n idx : Nat) (cs : List (List AV)) (st : St) : St := ⟨setRunT r n idx cs st.tmps, setRunO r n idx cs st.objs⟩

theorem lk_setRunT (r n idx : Nat) (cs : List (List AV)) (k : Nat) : ∀ l : List (Nat × AV), lk k (setRunT r n idx cs l) = (lk k l).map (·.setRun r n idx cs)
  | [] => rfl
  | (j, x) :: l => by
    simp only [setRunT, lk]
    split
    · rfl
    · exact lk_setRunT r n idx cs k l
theorem lk_setRunO (r n idx : Nat) (cs : List (List AV)) (k : Nat) : ∀ l : List (Nat × List AV), lk k (setRunO r n idx cs l) = (lk k l).map (setRunL r n idx cs)
  | [] => rfl
  | (j, x) :: l => by
    simp only [setRunO, lk]
    split
    · rfl
    · exact lk_setRunO r n idx cs k l

/-- what a store of the elements cs from idx on has done -/
structure Ran (g : Gh) (w : World) (r n idx : Nat) (cs : List (List AV)) (cur new : Array Value) (T : TypeId) : Prop where
  own : g.own (g.row r) = .row r
  heap : w.heap[g.row r]? = some (.cells cur T (0, 0))
  size : new.size = cur.size
  same : ∀ p, p < idx * n ∨ (idx + cs.length) * n ≤ p → new[p]? = cur[p]?
  cell : PRe (isRo g) (w.setRow (g.row r) new) cs ⟨g.row r, idx * n, none⟩ n 0

section
variable {C : Ctx} {A : A0} {N : Nat} {g g' : Gh} {st : St} {a : Act} {w w' : World} {P : Program}
variable {r n idx : Nat} {c : List (List AV)} {cur new : Array Value} {T : TypeId}

theorem Ran.ro (h : Ran g w r n idx c cur new T) : ∀ b, b < w.heap.size → isRo g b → isRo g b ∧ (w.setRow (g.row r) new).heap[b]? = w.heap[b]? := fun b _ ho =>
  ⟨ho, setRow_other w _ b new (fun e => by subst e; have := h.own; rw [ho] at this; cases this)⟩
theorem Ran.other (h : Ran g w r n idx c cur new T) {b q : Nat} (hq : q ≠ r) (ho : g.own b = .row q) : (w.setRow (g.row r) new).heap[b]? = w.heap[b]? :=
  setRow_other w _ b new (fun e => by subst e; have := h.own; rw [ho] at this; injection this with this; exact hq this)
theorem Ran.heap' (h : Ran g w r n idx c cur new T) : (w.setRow (g.row r) new).heap[g.row r]? = some (.cells new T (0, 0)) := setRow_heap w _ cur new T _ h.heap

theorem Ran.elem (h : Ran g w r n idx c cur new T) {i : Nat} {e : List AV} (he : e.length = n) (hi : i < idx ∨ idx + c.length ≤ i) (hp : PRc (isRo g) w e ⟨g.row r, i * n, none⟩ 0) :
    PRc (isRo g) (w.setRow (g.row r) new) e ⟨g.row r, i * n, none⟩ 0 := by
  refine PRc.move h.ro e _ 0 (fun k hk => ?_) hp
  rw [add_lit, cell_of_row _ _ _ _ _ _ h.heap', cell_of_row _ _ _ _ _ _ h.heap]
  refine h.same _ ?_
  rw [he] at hk
  rcases hi with hlt | hgt
  · left
    have : (i + 1) * n ≤ idx * n := Nat.mul_le_mul_right _ hlt
    rw [Nat.add_mul] at this
    omega
  · right
    have : (idx + c.length) * n ≤ i * n := Nat.mul_le_mul_right _ hgt
    omega

theorem over_get {lo idx : Nat} {cs es : List (List AV)} {k : Nat} {e : List AV} (h : (over lo idx cs es)[k]? = some e) :
    (idx ≤ lo + k ∧ lo + k < idx + cs.length ∧ cs[lo + k - idx]? = some e) ∨ (es[k]? = some e ∧ (lo + k < idx ∨ idx + cs.length ≤ lo + k)) := by
  simp only [over, List.getElem?_mapIdx] at h
  obtain ⟨e0, h0, h1⟩ := Option.map_eq_some_iff.1 h
  split at h1
  · rename_i hle
    cases hc : cs[lo + k - idx]? with
    | none =>
      rw [hc] at h1
      simp only [Option.getD_none] at h1
      subst h1
      rw [List.getElem?_eq_none_iff] at hc
      exact .inr ⟨h0, .inr (by omega)⟩
    | some e1 =>
      rw [hc] at h1
      simp only [Option.getD_some] at h1
      subst h1
      have : lo + k - idx < cs.length := by
        rcases Nat.lt_or_ge (lo + k - idx) cs.length with h | h
        · exact h
        · rw [List.getElem?_eq_none h] at hc; cases hc
      exact .inl ⟨hle, by omega, rfl⟩
  · rename_i hle
    subst h1
    exact .inr ⟨h0, .inl (by omega)⟩

mutual
theorem VR.setRun (h : Ran g w r n idx c cur new T) : ∀ (x : AV) (u : Value), VR g w x u → VR g (w.setRow (g.row r) new) (x.setRun r n idx c) u
  | .undef, _, _ => by simp [AV.setRun, VR]
  | .v x, u, hu => by simpa [AV.setRun, VR] using hu
  | .agg cs, u, hu => by
    simp only [AV.setRun, VR] at hu ⊢
    obtain ⟨us, h1, h2⟩ := hu
    exact ⟨us, h1, VRs.setRun h cs us.toList h2⟩
  | .tup cs, u, hu => by
    simp only [AV.setRun, VR] at hu ⊢
    obtain ⟨us, h1, h2⟩ := hu
    exact ⟨us, h1, VRs.setRun h cs us.toList h2⟩
  | .sl (.own q lo) m es, u, hu => by
    simp only [AV.setRun]
    by_cases hq : q = r
    · subst hq
      simp only [if_true]
      split
      · rename_i hm
        subst hm
        simp only [VR, OwnSl] at hu ⊢
        refine ⟨hu.1, ?_⟩
        rcases hu.2 with ⟨rfl, rfl⟩ | ⟨h0, rfl, hu'⟩ | ⟨cap, cur', T', h1, h2, h3, h5, h6, h7, h8⟩
        · exact .inl ⟨rfl, by simp [over]⟩
        · exact .inr (.inl ⟨h0, by simp [over], hu'⟩)
        · have hh := h.heap
          rw [h6] at hh
          injection hh with hh
          injection hh with hh1 hh2
          subst hh1
          have hlen := over_length lo idx c es
          refine .inr (.inr ⟨cap, new, T, by rw [hlen]; exact h1, by rw [hlen]; exact h2, h3, h5, h.heap', by rw [h.size]; exact h7, ?_⟩)
          refine PRe.of_at _ _ _ 0 fun k e he => ?_
          rcases over_get he with ⟨hle, hlt, he⟩ | ⟨he, hne⟩
          · obtain ⟨e1, e2⟩ := PRe.at_ c _ _ 0 h.cell _ e he
            refine ⟨e1, ?_⟩
            obtain ⟨us, k1, k2⟩ := PRc.list _ _ _ e2
            refine PRc.of_list _ us _ _ k1 fun j v hv => ?_
            have := k2 j v hv
            rw [add_lit] at this ⊢
            rw [show lo * m + ((0 + k) * m + j) = idx * m + ((0 + (lo + k - idx)) * m + j) from by
              have e1 : lo * m + (0 + k) * m = (lo + (0 + k)) * m := (Nat.add_mul _ _ _).symm
              have e2 : idx * m + (0 + (lo + k - idx)) * m = (idx + (0 + (lo + k - idx))) * m := (Nat.add_mul _ _ _).symm
              have e3 : lo + (0 + k) = idx + (0 + (lo + k - idx)) := by omega
              rw [e3] at e1
              omega]
            exact this
          · obtain ⟨e1, e2⟩ := PRe.at_ es _ _ 0 h8 k e he
            refine ⟨e1, ?_⟩
            have e3 := PRc.shift e ⟨g.row q, lo * m, none⟩ ((0 + k) * m) 0 (by simpa using e2)
            rw [add_lit, ← Nat.add_mul, show lo + (0 + k) = lo + k from by omega] at e3
            have e4 := h.elem (i := lo + k) e1 hne e3
            obtain ⟨us, k1, k2⟩ := PRc.list _ _ _ e4
            refine PRc.of_list _ us _ _ k1 fun j v hv => ?_
            have := k2 j v hv
            rw [add_lit] at this ⊢
            rw [show lo * m + ((0 + k) * m + j) = (lo + k) * m + (0 + j) from by
              rw [← Nat.add_assoc, ← Nat.add_mul]; simp]
            exact this
      · simp [VR]
    · simp only [hq, if_false]
      simp only [VR, OwnSl] at hu ⊢
      refine ⟨hu.1, ?_⟩
      rcases hu.2 with hu | hu | ⟨cap, cur', T', h1, h2, h3, h5, h6, h7, h8⟩
      · exact .inl hu
      · exact .inr (.inl hu)
      · have ho := h.other hq h5
        exact .inr (.inr ⟨cap, cur', T', h1, h2, h3, h5, by rw [ho]; exact h6, h7, PRe.mono_at h.ro es _ m 0 ho h8⟩)
  | .sl .no n es, u, hu => by
    simp only [AV.setRun, VR] at hu ⊢
    exact PR.mono h.ro _ u hu
  | .sl .full n es, u, hu => by
    simp only [AV.setRun, VR] at hu ⊢
    exact PR.mono h.ro _ u hu
  | .ptr s off, u, hu => by simpa [AV.setRun, VR] using hu
  | .mp s, u, hu => by simpa [AV.setRun, VR] using hu
  | .ep (.own q l) i d off, u, hu => by
    simp only [AV.setRun]
    by_cases hq : q = r
    · simp [hq, VR]
    · simp only [hq, if_false]
      simp only [VR, EpAt] at hu ⊢
      obtain ⟨cur', T', h1, h2, h3, h4, h5⟩ := hu
      have ho := h.other hq h2
      exact ⟨cur', T', h1, h2, by rw [ho]; exact h3, h4, PRc.mono_at h.ro d _ 0 ho h5⟩
  | .ep .no i cells off, u, hu => by
    simp only [AV.setRun, VR, EpAt] at hu ⊢
    obtain ⟨ad, h1, h0, h2, h3⟩ := hu
    exact ⟨ad, h1, h0, h2, PRc.mono h.ro _ ad 0 h2 h3⟩
  | .ep .full i cells off, u, hu => by
    simp only [AV.setRun, VR, EpAt] at hu ⊢
    obtain ⟨ad, h1, h0, h2, h3⟩ := hu
    exact ⟨ad, h1, h0, h2, PRc.mono h.ro _ ad 0 h2 h3⟩
  | .fn f caps, u, hu => by
    simp only [AV.setRun, VR] at hu ⊢
    obtain ⟨us, h1, h2⟩ := hu
    exact ⟨us, h1, VRs.setRun h caps us.toList h2⟩
  | .mv f caps, u, hu => by
    simp only [AV.setRun, VR] at hu ⊢
    obtain ⟨us, h1, h2⟩ := hu
    exact ⟨us, h1, VRs.setRun h caps us.toList h2⟩
  | .ifc t x, u, hu => by
    simp only [AV.setRun, VR] at hu ⊢
    obtain ⟨y, h1, h2⟩ := hu
    exact ⟨y, h1, VR.setRun h x y h2⟩
  | .hnd k q i j off m bss, u, hu => by
    simp only [AV.setRun]
    by_cases hq : q = r
    · simp [hq, VR]
    · simp only [hq, if_false]
      simp only [VR] at hu ⊢
      exact hu.map ⟨h.ro, rfl, fun _ => rfl, fun _ ho => ⟨ho, h.other hq ho⟩, fun i _ ho => ⟨ho, setRow_other w _ _ new (fun e => by have := h.own; rw [← e, ho] at this; cases this)⟩⟩
  | .mem b xs, u, hu => by
    simp only [AV.setRun, VR] at hu ⊢
    obtain ⟨ad, vs, h1, h2, h3, h4⟩ := hu
    obtain ⟨k1, k2⟩ := h2.move h.ro h1
    exact ⟨ad, vs, k1, k2, VRs.setRun h xs vs h3, h4⟩
theorem VRs.setRun (h : Ran g w r n idx c cur new T) : ∀ (cs : List AV) (us : List Value), VRs g w cs us → VRs g (w.setRow (g.row r) new) (setRunL r n idx c cs) us
  | [], [], _ => by simp [setRunL, VRs]
  | [], _ :: _, hu => by simp [VRs] at hu
  | _ :: _, [], hu => by simp [VRs] at hu
  | x :: cs, u :: us, hu => by
    simp only [setRunL, VRs] at hu ⊢
    exact ⟨VR.setRun h x u hu.1, VRs.setRun h cs us hu.2⟩
end

theorem R.setRun (hR : R C A N g st a w) (h : Ran g w r n idx c cur new T) : R C A N g (st.setRun r n idx c) a (w.setRow (g.row r) new) where
  size := hR.size
  defs := hR.defs
  tm := fun k x hx => by
    simp only [St.setRun, lk_setRunT] at hx
    obtain ⟨y, hy, rfl⟩ := Option.map_eq_some_iff.1 hx
    obtain ⟨u, hu, hv⟩ := hR.tm k y hy
    exact ⟨u, hu, VR.setRun h y u hv⟩
  ob := fun s cs hs => by
    simp only [St.setRun, lk_setRunO] at hs
    obtain ⟨y, hy, rfl⟩ := Option.map_eq_some_iff.1 hs
    have h1 := (hR.ob s y hy).1
    exact (hR.ob s y hy).lift rfl h1 (setRow_other w _ _ new (fun e => by have := h.own; rw [← e, h1] at this; cases this)) (fun us hu => VRs.setRun h _ _ hu)
  fr := by
    have hl : Lasts [r] [] g w g (w.setRow (g.row r) new) := ⟨fun b hb ho => ⟨ho, (h.ro b hb ho).2⟩, fun b q hb hq ho => ⟨ho, h.other (by simpa using hq) ho⟩, fun _ _ => rfl, fun _ _ => rfl, fun b q i _ _ ho => ⟨ho, setRow_other w _ b new (fun e => by subst e; have := h.own; rw [ho] at this; cases this)⟩, fun _ _ _ => rfl⟩
    exact hR.fr.step hl rfl ⟨rfl, by first | exact Nat.le_refl _ | exact Nat.le_succ _⟩ rfl (by simp) (fun b _ ho => ⟨ho, setRow_other w _ b new (fun e => by subst e; have := h.own; rw [ho] at this; cases this)⟩) (fun _ _ he => by cases he)

/-- new cells, laid from element idx of a row on, whose cells they fit -/
theorem Ran.of_cells (ho : g.own (g.row r) = .row r) (hh : w.heap[g.row r]? = some (.cells cur T (0, 0))) {us : List Value} (hl : ∀ e ∈ c, e.length = n) (hu : us.length = c.length * n) (hfit : idx * n + us.length ≤ cur.size)
    (hp : PRl (isRo g) w c.flatten us) : Ran g w r n idx c cur (cur.toList.take (idx * n) ++ us ++ cur.toList.drop (idx * n + us.length)).toArray T := by
  generalize hnew : (cur.toList.take (idx * n) ++ us ++ cur.toList.drop (idx * n + us.length)).toArray = new
  have hcl : cur.toList.length = cur.size := by simp
  have hsz : new.size = cur.size := by
    rw [← hnew]
    simp only [List.size_toArray, List.length_append, List.length_take, List.length_drop, Array.length_toList]
    omega
  have hget : ∀ j v, us[j]? = some v → new[idx * n + j]? = some v := fun j v hj => by
    have hj' : j < us.length := by
      rcases Nat.lt_or_ge j us.length with h | h
      · exact h
      · rw [List.getElem?_eq_none h] at hj; cases hj
    rw [← hnew]
    rw [List.getElem?_toArray, List.append_assoc, List.getElem?_append_right (by simp; omega), List.length_take, Array.length_toList, Nat.min_eq_left (by omega), List.getElem?_append_left (by omega)]
    rw [show idx * n + j - idx * n = j from by omega]; exact hj
  refine ⟨ho, hh, hsz, fun p hp' => ?_, ?_⟩
  · rw [← hnew, List.getElem?_toArray, ← Array.getElem?_toList]
    rcases hp' with h | h
    · rw [List.append_assoc, List.getElem?_append_left (by simp only [List.length_take, Array.length_toList]; omega), List.getElem?_take, if_pos h]
    · rw [Nat.add_mul, ← hu] at h
      rw [List.append_assoc, List.getElem?_append_right (by simp only [List.length_take, Array.length_toList]; omega), List.length_take, Array.length_toList, Nat.min_eq_left (by omega), List.getElem?_append_right (by omega), List.getElem?_drop]
      congr 1
      simp only [List.size_toArray]
      omega
  · refine PRe.of_list c us _ _ 0 hl (PRl.mono (w := w) (fun b hb ho' => ⟨ho', setRow_other w _ b new (fun e => by subst e; rw [isRo_def, ho] at ho'; cases ho')⟩) hp) fun j v hj => ?_
    simp only [Nat.zero_mul, Nat.zero_add, add_lit]
    rw [cell_of_row _ _ _ _ _ _ (setRow_heap w _ cur new T _ hh)]
    exact hget j v hj
end
end Go.Abs
