/- Deep rows: made by a literal and by append. -/
import Derived.Test.YtfnniffkgoimeaaA13
set_option linter.all false
namespace Go.Abs
section
variable {C : Ctx} {A : A0} {N : Nat} {g g' : Gh} {st : St} {a : Act} {w w' : World} {P : Program}

def Gh.deep (g : Gh) (B k r r2 n : Nat) : Gh where
  own b := if b = B then .row k else match g.own b with
    | .inn q i => if q = r2 then .inn k (n + i) else if q = r then .inn k i else .inn q i
    | o => o
  box := g.box
  row q := if q = k then B else g.row q
  inn q i := if q = k then (if i < n then g.inn r i else g.inn r2 (i - n)) else g.inn q i

theorem deep_fin (hR : R C A N g st a w) {r r2 k B cap m : Nat} {T : TypeId} {cur' : Array Value} {bss bss2 : List (List (List AV))} {S : List Nat} (hm : 0 < m) (hr : r ∈ S) (hr2 : r2 ∈ S) (hk : k ∈ S) (hne : bss = [] ∨ r ≠ r2)
    (hB : B = w.heap.size ∨ g.own B = .row r) (hos : w'.os = w.os) (htape : w'.tape = w.tape) (hout : w'.output = w.output) (hsz : w.heap.size ≤ w'.heap.size) (hold : ∀ b, b < w.heap.size → b ≠ B → w'.heap[b]? = w.heap[b]?)
    (hheap : w'.heap[B]? = some (.cells cur' T (0, 0))) (hcs : cur'.size = cap) (hlen : bss.length + bss2.length ≤ cap) (hcap : cap ≤ maxLen)
    (h1 : ∀ q b, bss[q]? = some b → ∃ v, cur'[q]? = some v ∧ InnAt g w r q m b v) (h2 : ∀ q b, bss2[q]? = some b → ∃ v, cur'[bss.length + q]? = some v ∧ InnAt g w r2 q m b v) :
    ∃ g', R C A N g' (st.kill S []) a w' ∧ HndAt g' w' .dsl k 0 0 0 m (bss ++ bss2) (.slice (some ⟨B, 0, none⟩) (bss ++ bss2).length cap) := by
  let g' := g.deep B k r r2 bss.length
  have neB : ∀ b, b < w.heap.size → g.own b ≠ .row r → b ≠ B := fun b hb ho e => by
    subst e
    rcases hB with hB | hB
    · omega
    · exact ho hB
  have hro : ∀ b, b < w.heap.size → isRo g b → isRo g' b ∧ w'.heap[b]? = w.heap[b]? := fun b hb ho => by
    have ho' : g.own b = .ro := ho
    have hne := neB b hb (by rw [ho']; intro e; cases e)
    exact ⟨by simp [g', Gh.deep, isRo, hne, ho'], hold b hb hne⟩
  have hl : Lasts S [] g w g' w' := by
    refine ⟨hro, fun b q hb hq ho => ?_, fun q hq => ?_, fun _ _ => rfl, fun b q i hb hq ho => ?_, fun q i hq => ?_⟩
    · have hne := neB b hb (by rw [ho]; intro e; injection e with e; exact hq (e ▸ hr))
      exact ⟨by simp [g', Gh.deep, hne, ho], hold b hb hne⟩
    · have : q ≠ k := fun e => hq (e ▸ hk)
      simp [g', Gh.deep, this]
    · have hne := neB b hb (by rw [ho]; intro e; cases e)
      have n1 : q ≠ r2 := fun e => hq (e ▸ hr2)
      have n2 : q ≠ r := fun e => hq (e ▸ hr)
      exact ⟨by simp [g', Gh.deep, hne, ho, n1, n2], hold b hb hne⟩
    · have : q ≠ k := fun e => hq (e ▸ hk)
      simp [g', Gh.deep, this]
  refine ⟨g', hR.lasts hl (hR.fr.step hl hos htape hout hsz (fun b hb ho => ?_) (fun _ _ h => by cases h)) (fun s cs hs _ => ?_), hm, .inr ⟨cap, cur', T, ?_, ?_, hcap, ?_, ?_, hcs, fun q b hq => ?_⟩⟩
  · have hne := neB b hb (by rw [ho]; intro e; cases e)
    exact ⟨by simp [g', Gh.deep, hne, ho], hold b hb hne⟩
  · have hob := hR.ob s cs hs
    have hne := neB _ hob.lt (by rw [hob.1]; intro e; cases e)
    exact ⟨by simp [g', Gh.deep, hne, hob.1], hold _ hob.lt hne⟩
  · simp [g', Gh.deep]
  · simpa using hlen
  · simp [g', Gh.deep]
  · have : g'.row k = B := by simp [g', Gh.deep]
    rw [this]; exact hheap
  · have inn : ∀ (r0 q0 : Nat) (b : List (List AV)) (v : Value), InnAt g w r0 q0 m b v → g'.inn k q = g.inn r0 q0 → (∀ _ : Nat, g.own (g.inn r0 q0) = .inn r0 q0 → g.inn r0 q0 ≠ B → g'.own (g.inn r0 q0) = .inn k q) → InnAt g' w' k q m b v := by
      intro r0 q0 b v hi he ho
      rcases hi with hi | ⟨cap', cur1, T1, e1, e2, e3, e4, e5, e6, e7⟩
      · exact .inl hi
      · have hlt := lt_of_heap e5
        have hneB := neB _ hlt (by rw [e4]; intro e; cases e)
        have hh := hold _ hlt hneB
        refine .inr ⟨cap', cur1, T1, by rw [he]; exact e1, e2, e3, by rw [he]; exact ho 0 e4 hneB, by rw [he, hh]; exact e5, e6, ?_⟩
        rw [he]
        exact PRe.mono_at hro b _ m 0 hh e7
    rw [List.getElem?_append] at hq
    split at hq
    · rename_i hlt
      obtain ⟨v, hv, hi⟩ := h1 q b hq
      refine ⟨v, hv, inn r q b v hi (by simp [g', Gh.deep, hlt]) fun _ ho hnB => ?_⟩
      have : r ≠ r2 := hne.resolve_left (fun e => by rw [e] at hlt; simp at hlt)
      simp [g', Gh.deep, hnB, ho, this]
    · rename_i hge
      obtain ⟨v, hv, hi⟩ := h2 (q - bss.length) b hq
      rw [show bss.length + (q - bss.length) = q from by omega] at hv
      refine ⟨v, hv, inn r2 (q - bss.length) b v hi (by simp [g', Gh.deep, hge]) fun _ ho hnB => ?_⟩
      simp [g', Gh.deep, hnB, ho]
      omega

/-- append on deep rows: the name of the new row -/
def appendD (k : Nat) (st : St) (x y : AV) : Option (AV × St) := match y with
  | .hnd .dsl r2 _ _ _ m bss2 => match x with
    | .v (.slice none 0 0) => if bss2.length ≤ 4294967296 then some (.hnd .dsl k 0 0 0 m bss2, st.kill [r2, k] []) else none
    | .hnd .dsl r _ _ _ m' bss => if m' = m ∧ r ≠ r2 ∧ bss.length + bss2.length ≤ 4294967296 then some (.hnd .dsl k 0 0 0 m (bss ++ bss2), st.kill [r, r2, k] []) else none
    | _ => none
  | _ => none

/-- a literal of one slice of the call's own -/
def litD (k : Nat) (st : St) (len : Nat) (parts : List (Nat × AV)) : Option (AV × St) := match len, parts with
  | 1, [(0, .sl (.own q 0) m b)] => some (.hnd .dsl k 0 0 0 m [b], (st.kill [q] []).kill [q, k] [])
  | _, _ => none

/-- what a deep slice is in memory -/
theorem dsl_src {r i j off m : Nat} {bss : List (List (List AV))} {u : Value} (h : HndAt g w .dsl r i j off m bss u) :
    0 < m ∧ ∃ vs : List Value, SrcAt w 1 bss.length u vs ∧ (∀ v ∈ vs, v.oneCell' = true) ∧ ∀ q b, bss[q]? = some b → ∃ v, vs[q]? = some v ∧ InnAt g w r q m b v := by
  obtain ⟨hm, ⟨rfl, rfl⟩ | ⟨cap, cur, T, rfl, h2, h3, h4, h5, h6, h7⟩⟩ := h
  · exact ⟨hm, [], ⟨by simp, .inr ⟨rfl, 0, rfl⟩⟩, by simp, fun q b hq => by simp at hq⟩
  · refine ⟨hm, cur.toList.take bss.length, ⟨by simp; omega, .inl ⟨_, cap, rfl, fun j v hj => ?_⟩⟩, fun v hv => ?_, fun q b hq => ?_⟩
    · rw [List.getElem?_take] at hj
      split at hj
      · rw [cell_of_cells h5]; simpa using hj
      · cases hj
    · obtain ⟨q, hq⟩ := List.getElem?_of_mem hv
      rw [List.getElem?_take] at hq
      split at hq
      · rename_i hlt
        obtain ⟨v', hv', hi⟩ := h7 q bss[q] (List.getElem?_eq_getElem hlt)
        simp only [Array.getElem?_toList] at hq
        rw [hv'] at hq
        injection hq with hq
        subst hq
        rcases hi with ⟨_, _, _, rfl, _⟩ | ⟨_, _, _, rfl, _⟩ <;> rfl
      · cases hq
    · obtain ⟨v, hv, hi⟩ := h7 q b hq
      have hlt : q < bss.length := by
        rcases Nat.lt_or_ge q bss.length with h | h
        · exact h
        · rw [List.getElem?_eq_none h] at hq; cases hq
      exact ⟨v, by rw [List.getElem?_take, if_pos hlt]; simpa using hv, hi⟩

theorem appendD_sound (hR : R C A N g st a w) {t t2 ty e b k : Nat} (ht : rowInf P t = some (e, 1, b)) (ht2 : isSliceT P t2 = true) {x y z : AV} {ux uy : Value} (hx : VR g w x ux) (hy : VR g w y uy) {st' : St}
    (ha : appendD k st x y = some (z, st')) : ∃ u w' g', (Builtin.append_ #[t, t2] ty #[ux, uy]).run P w = .ok u w' ∧ R C A N g' st' a w' ∧ VR g' w' z u := by
  obtain ⟨hu, i, zv, hi, hz, hzs, hsz, hby, hn, hb⟩ := rowInf_spec ht
  unfold appendD at ha
  split at ha
  · rename_i r2 _ _ _ m bss2
    simp only [VR] at hy
    obtain ⟨hm, vs, sy, ov, iv⟩ := dsl_src hy
    rw [← hsz] at sy
    have key : ∀ (r sLen sCap : Nat) (base : Option Addr) (us : List Value) (bss : List (List (List AV))), sLen = bss.length → sLen ≤ sCap → us.length = sLen → ux = .slice base sLen sCap → SrcAt w i.size sLen ux us → (∀ q b, bss[q]? = some b → ∃ v, us[q]? = some v ∧ InnAt g w r q m b v) → (bss = [] ∨ r ≠ r2) →
        bss.length + bss2.length ≤ 4294967296 → (∀ S : List Nat, r ∈ S → r2 ∈ S → k ∈ S → ∃ u w' g', (Builtin.append_ #[t, t2] ty #[ux, uy]).run P w = .ok u w' ∧ R C A N g' (st.kill S []) a w' ∧ VR g' w' (.hnd .dsl k 0 0 0 m (bss ++ bss2)) u) ∨ (sLen + bss2.length ≤ sCap) := by
      intro r sLen sCap base us bss hsl hle hul hux sx ix hne hbig
      by_cases hroom : sLen + bss2.length ≤ sCap
      · exact .inr hroom
      · left
        intro S hr hr2 hk
        subst hsl
        have hbytes : (bss.length + bss2.length) * i.bytes ≤ 140737488355328 := by
          have : (bss.length + bss2.length) * i.bytes ≤ 4294967296 * 32768 := Nat.mul_le_mul hbig (by omega)
          omega
        have hrun := run_append_new (ty := ty) hu ht2 hi hz (hux ▸ sx) sy (by omega) hle hbytes (by omega)
        rw [← hux] at hrun
        have hvl : vs.length = bss2.length := by rw [sy.1, hsz]; simp
        have hgc := grownCap_ge w (bss.length + bss2.length) sCap e
        have hA : ∀ q b, bss[q]? = some b → ∃ v, (us.toArray ++ vs.toArray ++ Builtin.zeroCells zv.cells (grownCap w (bss.length + bss2.length) sCap e - (bss.length + bss2.length)))[q]? = some v ∧ InnAt g w r q m b v := fun q b hq => by
          obtain ⟨v, hv, hi'⟩ := ix q b hq
          have hlt : q < us.length := by
            rcases Nat.lt_or_ge q us.length with h | h
            · exact h
            · rw [List.getElem?_eq_none h] at hv; cases hv
          refine ⟨v, ?_, hi'⟩
          rw [Array.getElem?_append_left (by simp; omega), Array.getElem?_append_left (by simpa using hlt)]
          simpa using hv
        have hB : ∀ q b, bss2[q]? = some b → ∃ v, (us.toArray ++ vs.toArray ++ Builtin.zeroCells zv.cells (grownCap w (bss.length + bss2.length) sCap e - (bss.length + bss2.length)))[bss.length + q]? = some v ∧ InnAt g w r2 q m b v := fun q b hq => by
          obtain ⟨v, hv, hi'⟩ := iv q b hq
          have hlt : q < vs.length := by
            rcases Nat.lt_or_ge q vs.length with h | h
            · exact h
            · rw [List.getElem?_eq_none h] at hv; cases hv
          refine ⟨v, ?_, hi'⟩
          rw [Array.getElem?_append_left (by simp; omega), Array.getElem?_append_right (by simp; omega)]
          simp only [List.size_toArray, hul, Nat.add_sub_cancel_left, List.getElem?_toArray]
          exact hv
        obtain ⟨g', k1, k2⟩ := deep_fin hR (w' := w.drew.alloc (.cells (us.toArray ++ vs.toArray ++ Builtin.zeroCells zv.cells (grownCap w (bss.length + bss2.length) sCap e - (bss.length + bss2.length))) e)) (B := w.heap.size) (S := S) (cap := grownCap w (bss.length + bss2.length) sCap e) hm hr hr2 hk hne (.inl rfl) rfl rfl rfl (by simp) (fun b hb _ => alloc_old _ _ b hb) (heap_alloc_new _ _)
          (by
            have hzc : zv.cells.size = 1 := by omega
            simp [Builtin.zeroCells, hul, hvl, hzc]; omega) (by omega) (grownCap_le_maxLen w _ sCap e (by simp only [maxLen]; omega)) hA hB
        refine ⟨_, _, g', hrun, k1, ?_⟩
        simp only [VR]
        rw [List.length_append] at k2
        exact k2
    split at ha
    · split at ha
      · rename_i hbig
        simp only [Option.some.injEq, Prod.mk.injEq] at ha
        obtain ⟨rfl, rfl⟩ := ha
        simp only [VR] at hx
        subst hx
        rcases key r2 0 0 none [] [] rfl (Nat.le_refl _) rfl rfl ⟨by simp, .inr ⟨rfl, 0, rfl⟩⟩ (fun q b hq => by simp at hq) (.inl rfl) (by simpa using hbig) with h | h
        · have := h [r2, k] (by simp) (by simp) (by simp)
          simpa using this
        · have hb0 : bss2 = [] := List.eq_nil_of_length_eq_zero (by omega)
          subst hb0
          have hv0 : vs = [] := List.eq_nil_of_length_eq_zero (by rw [sy.1]; simp)
          subst hv0
          exact ⟨_, _, g, run_append_same hu ht2 hi sy (Nat.le_refl 0), hR.kill [r2, k] [] (fun _ _ h => by cases h), by simp only [VR]; exact ⟨hm, .inl ⟨rfl, rfl⟩⟩⟩
      · cases ha
    · rename_i r _ _ _ m' bss
      split at ha
      · rename_i hc
        obtain ⟨rfl, hrr, hbig⟩ := hc
        simp only [Option.some.injEq, Prod.mk.injEq] at ha
        obtain ⟨rfl, rfl⟩ := ha
        simp only [VR] at hx
        obtain ⟨_, us, sx, ou, iu⟩ := dsl_src hx
        rw [← hsz] at sx
        have hul : us.length = bss.length := by rw [sx.1, hsz]; simp
        obtain ⟨_, ⟨rfl, rfl⟩ | ⟨cap, cur, T, rfl, h2, h3, h4, h5, h6, h7⟩⟩ := hx
        · rcases key r 0 0 none [] [] rfl (Nat.le_refl _) rfl rfl ⟨by simp, .inr ⟨rfl, 0, rfl⟩⟩ (fun q b hq => by simp at hq) (.inl rfl) hbig with h | h
          · exact h [r, r2, k] (by simp) (by simp) (by simp)
          · have hb0 : bss2 = [] := List.eq_nil_of_length_eq_zero (by omega)
            subst hb0
            have hv0 : vs = [] := List.eq_nil_of_length_eq_zero (by rw [sy.1]; simp)
            subst hv0
            exact ⟨_, _, g, run_append_same hu ht2 hi sy (Nat.le_refl 0), hR.kill [r, r2, k] [] (fun _ _ h => by cases h), by simp only [VR]; exact ⟨hm, .inl ⟨rfl, rfl⟩⟩⟩
        · rcases key r bss.length cap (some ⟨g.row r, 0, none⟩) us bss rfl h2 hul rfl sx iu (.inr hrr) hbig with h | hroom
          · exact h [r, r2, k] (by simp) (by simp) (by simp)
          · -- in place
            have hvl : vs.length = bss2.length := by rw [sy.1, hsz]; simp
            have hrun := run_append_room' (ty := ty) hu ht2 hi h5 sy ov hroom (by rw [hvl, hsz, h6]; omega)
            rw [hsz, Nat.mul_one] at hrun
            generalize hnew : (cur.toList.take bss.length ++ vs ++ cur.toList.drop (bss.length + vs.length)).toArray = new at hrun
            have hget : ∀ p, new[p]? = if p < bss.length then cur[p]? else if p < bss.length + vs.length then vs[p - bss.length]? else cur[p]? := by
              intro p
              rw [← hnew]
              simp only [List.getElem?_toArray]
              rw [List.append_assoc, List.getElem?_append]
              simp only [List.length_take, Array.length_toList]
              rw [Nat.min_eq_left (by omega)]
              split
              · rename_i hlt; rw [List.getElem?_take, if_pos hlt]; simp
              · rename_i hge
                rw [List.getElem?_append]
                by_cases hlt : p < bss.length + vs.length
                · rw [if_pos (by omega), if_pos hlt]
                · rw [if_neg (by omega), if_neg hlt, List.getElem?_drop]
                  simp only [Array.getElem?_toList]
                  congr 1; omega
            have hA : ∀ q b, bss[q]? = some b → ∃ v, new[q]? = some v ∧ InnAt g w r q m' b v := fun q b hq => by
              obtain ⟨v, hv, hi'⟩ := h7 q b hq
              have hlt : q < bss.length := by
                rcases Nat.lt_or_ge q bss.length with h | h
                · exact h
                · rw [List.getElem?_eq_none h] at hq; cases hq
              exact ⟨v, by rw [hget, if_pos hlt]; exact hv, hi'⟩
            have hB : ∀ q b, bss2[q]? = some b → ∃ v, new[bss.length + q]? = some v ∧ InnAt g w r2 q m' b v := fun q b hq => by
              obtain ⟨v, hv, hi'⟩ := iv q b hq
              have hlt : q < vs.length := by
                rcases Nat.lt_or_ge q vs.length with h | h
                · exact h
                · rw [List.getElem?_eq_none h] at hv; cases hv
              refine ⟨v, ?_, hi'⟩
              rw [hget, if_neg (by omega), if_pos (by omega), Nat.add_sub_cancel_left]
              exact hv
            obtain ⟨g', k1, k2⟩ := deep_fin hR (w' := w.setRow (g.row r) new) (B := g.row r) (S := [r, r2, k]) (cap := cap) (bss := bss) (bss2 := bss2) (k := k) hm (by simp) (by simp) (by simp) (.inr hrr) (.inr h4) rfl rfl rfl (by simp) (fun b _ hne => setRow_other w _ b new hne) (setRow_heap w _ cur new T _ h5)
              (by
                rw [← hnew]
                simp only [List.size_toArray, List.length_append, List.length_take, List.length_drop, Array.length_toList]
                omega) hroom h3 hA hB
            refine ⟨_, _, g', hrun, k1, ?_⟩
            simp only [VR]
            rw [List.length_append] at k2
            exact k2
      · cases ha
    · cases ha
  · cases ha

/-- a row of the call's own, as the one slice of a deep row -/
theorem R.toInn (hR : R C A N g st a w) {q m : Nat} {b : List (List AV)} {v : Value} (hv : VR g w (.sl (.own q 0) m b) v) :
    ∃ g', R C A N g' (st.kill [q] []) a w ∧ 0 < m ∧ InnAt g' w q 0 m b v ∧ v.oneCell' = true := by
  simp only [VR, OwnSl] at hv
  obtain ⟨hm, hv⟩ := hv
  let g' : Gh := { g with own := fun x => match g.own x with | .row p => if p = q ∧ x = g.row q then .inn q 0 else .row p | o => o, inn := fun p i => if p = q then g.row q else g.inn p i }
  have hro : ∀ x, x < w.heap.size → isRo g x → isRo g' x ∧ w.heap[x]? = w.heap[x]? := fun x _ ho => by
    have ho' : g.own x = .ro := ho
    exact ⟨by simp [g', isRo, ho'], rfl⟩
  have hl : Lasts [q] [] g w g' w := by
    refine ⟨hro, fun x p _ hp ho => ⟨?_, rfl⟩, fun _ _ => rfl, fun _ _ => rfl, fun x p i _ _ ho => ⟨by simp [g', ho], rfl⟩, fun p i hp => ?_⟩
    · have : p ≠ q := by simpa using hp
      simp [g', ho, this]
    · have : p ≠ q := by simpa using hp
      simp [g', this]
  refine ⟨g', hR.lasts hl (hR.fr.step hl rfl rfl rfl (Nat.le_refl _) (fun x _ ho => ⟨by simp [g', ho], rfl⟩) (fun _ _ h => by cases h)) (fun s cs hs _ => ?_), hm, ?_, ?_⟩
  · have ho := (hR.ob s cs hs).1
    exact ⟨by simp [g', ho], rfl⟩
  · rcases hv with ⟨rfl, rfl⟩ | ⟨h0, _⟩ | ⟨cap, cur, T, rfl, h2, h3, h5, h6, h7, h8⟩
    · exact .inl ⟨rfl, none, 0, rfl, by simp [maxLen]⟩
    · omega
    · have hi : g'.inn q 0 = g.row q := by simp [g']
      refine .inr ⟨cap, cur, T, by rw [hi]; simp, h2, by omega, ?_, by rw [hi]; exact h6, by rw [h7, Nat.zero_add], ?_⟩
      · rw [hi]; simp [g', h5]
      · rw [hi]
        have := PRe.mono_at hro b _ m 0 rfl h8
        simpa using this
  · rcases hv with ⟨rfl, _⟩ | ⟨h0, _⟩ | ⟨cap, cur, T, rfl, _⟩
    · rfl
    · omega
    · rfl

theorem litD_sound (hR : R C A N g st a w) {t e b k len : Nat} {zs : List Value} (ht : rowInf P t = some (e, 1, b)) (hzs : zeroOf P e = some zs) {parts : List (Nat × AV)} {pv : List (Nat × Value)}
    (hp1 : parts.map (·.1) = pv.map (·.1)) (hp2 : VRs g w (parts.map (·.2)) (pv.map (·.2))) {z : AV} {st' : St} (ha : litD k st len parts = some (z, st')) :
    ∃ u w' g', (Instr.buildSlice t len pv.toArray).run P w = .ok u w' ∧ R C A N g' st' a w' ∧ VR g' w' z u := by
  obtain ⟨hu, i, zv, hi, hz, hzsz, hsz, hby, hn, hb⟩ := rowInf_spec ht
  unfold litD at ha
  split at ha
  · rename_i q m bs
    simp only [Option.some.injEq, Prod.mk.injEq] at ha
    obtain ⟨rfl, rfl⟩ := ha
    match pv, hp1, hp2 with
    | [(p0, v)], hp1, hp2 =>
      simp only [List.map_cons, List.map_nil, List.cons.injEq, and_true] at hp1
      subst hp1
      simp only [List.map_cons, List.map_nil, VRs, and_true] at hp2
      obtain ⟨g1, hR1, hm, hin, hone⟩ := hR.toInn hp2
      have hvc : v.cells = #[v] := by
        cases v <;> simp_all [Value.cells, Value.oneCell']
      have hzc : zv.cells.size = 1 := by omega
      have hfill : Instr.fill (fun i => some (i, 1)) ((Array.range 1).map (zv.cells[· % zv.cells.size]!)) [(0, v)] = some #[v] := by
        have hr1 : Array.range 1 = #[0] := rfl
        simp [Instr.fill, hvc, hr1]
      obtain ⟨g', k1, k2⟩ := deep_fin hR1 (w' := w.alloc (.cells #[v] e)) (r := q) (r2 := q) (k := k) (B := w.heap.size) (cap := 1) (bss := []) (bss2 := [bs]) (S := [q, k]) (cur' := #[v]) (T := e) hm (by simp) (by simp) (by simp) (.inl rfl) (.inl rfl) rfl rfl rfl (by simp) (fun x hx _ => alloc_old _ _ x hx) (heap_alloc_new _ _) (by simp) (by simp) (by simp [maxLen]) (fun q' b' hq' => by simp at hq')
        (fun q' b' hq' => by
          match q', hq' with
          | 0, hq' => simp at hq'; subst hq'; exact ⟨v, by simp, hin⟩
          | q' + 1, hq' => simp at hq')
      refine ⟨.slice (some ⟨w.heap.size, 0, none⟩) 1 1, _, g', ?_, k1, by simp only [VR]; simpa using k2⟩
      simp [Instr.buildSlice, run_underlying hu, sizeOf, typeInfo, hi, hsz, zeroValue, hz, hfill, newRow]
    | [], hp1, _ => simp at hp1
    | _ :: _ :: _, hp1, _ => simp at hp1
  · cases ha
end
end Go.Abs
