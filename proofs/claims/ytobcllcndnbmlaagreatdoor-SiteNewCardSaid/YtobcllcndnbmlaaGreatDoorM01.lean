/- part 1 of the proof -/
import Derived.Test.YtobcllcndnbmlaaGreatDoorM00
set_option linter.all false
namespace Go.Abs
def zeroOf (P : Program) (t : TypeId) : Option (List Value) := ((P.info? t).bind (·.zero)).map (·.cells.toList)
def vals (zs : List Value) : List AV := zs.map .v
def fillA (place : Nat → Option (Nat × Nat)) (L : List AV) : List (Nat × AV) → Option (List AV)
  | [] => some L
  | (i, x) :: rest => match place i with
    | none => none
    | some (off, size) => if okCells x.cells = true ∧ x.cells.length = size ∧ off + size ≤ L.length then fillA place (cut L off x.cells) rest else none
def chunk (n : Nat) : Nat → List AV → List (List AV)
  | 0, _ => []
  | k + 1, L => L.take n :: chunk n k (L.drop n)
theorem chunk_len (n : Nat) : ∀ (k : Nat) (L : List AV), L.length = k * n → (chunk n k L).length = k ∧ (∀ e ∈ chunk n k L, e.length = n) ∧ (chunk n k L).flatten = L
  | 0, L, h => by
    have : L = [] := List.eq_nil_of_length_eq_zero (by simpa using h)
    subst this; simp [chunk]
  | k + 1, L, h => by
    have hn : n ≤ L.length := by rw [h, Nat.add_mul]; omega
    obtain ⟨h1, h2, h3⟩ := chunk_len n k (L.drop n) (by simp [h, Nat.add_mul])
    refine ⟨by simp [chunk, h1], fun e he => ?_, by simp [chunk, h3]⟩
    simp only [chunk] at he
    rcases List.mem_cons.1 he with rfl | he
    · simp; omega
    · exact h2 e he
section
variable {C : Ctx} {A : A0} {N : Nat} {g g' : Gh} {st : St} {a : Act} {w w' : World} {P : Program}
theorem VRs_vals (zs : List Value) : VRs g w (vals zs) zs := by
  induction zs with
  | nil => simp [vals, VRs]
  | cons z zs ih => simp only [vals, List.map_cons, VRs]; exact ⟨by simp [VR], ih⟩
theorem foldl_set (v : List Value) : ∀ (k off : Nat) (arr : Array Value), off + k + v.length ≤ arr.size →
    ((v.zipIdx k).foldl (fun cs (p : Value × Nat) => cs.setIfInBounds (off + p.2) p.1) arr).toList = arr.toList.take (off + k) ++ v ++ arr.toList.drop (off + k + v.length) := by
  induction v with
  | nil => intro k off arr _; simp
  | cons x v ih =>
    intro k off arr h
    simp only [List.length_cons] at h
    simp only [List.zipIdx_cons, List.foldl_cons]
    rw [ih (k + 1) off _ (by simp; omega)]
    simp only [Array.toList_setIfInBounds, List.length_cons]
    have hlt : off + k < arr.toList.length := by simp; omega
    rw [show off + (k + 1) = (off + k) + 1 from by omega]
    rw [List.take_succ_eq_append_getElem (by simpa using hlt)]
    simp only [List.getElem_set_self, List.take_set_of_le (Nat.le_refl _), List.append_assoc, List.cons_append]
    rw [List.drop_set_of_lt (by omega), show off + k + 1 + v.length = off + k + (v.length + 1) from by omega]
    rfl
theorem foldl_zip (v : Array Value) (off : Nat) (arr : Array Value) (h : off + v.size ≤ arr.size) :
    (v.zipIdx.foldl (fun cs (p : Value × Nat) => cs.setIfInBounds (off + p.2) p.1) arr).toList = arr.toList.take off ++ v.toList ++ arr.toList.drop (off + v.size) := by
  have := foldl_set v.toList 0 off arr (by simpa using h)
  simp only [Nat.add_zero, Array.length_toList] at this
  rw [← this, ← Array.foldl_toList]
  simp
theorem fill_sound (place : Nat → Option (Nat × Nat)) : ∀ (parts : List (Nat × AV)) (pv : List (Nat × Value)) (L : List AV) (cur : Array Value) (L' : List AV),
    parts.map (·.1) = pv.map (·.1) → VRs g w (parts.map (·.2)) (pv.map (·.2)) → VRs g w L cur.toList → fillA place L parts = some L' → ∃ cur', Instr.fill place cur pv = some cur' ∧ VRs g w L' cur'.toList
  | [], [], L, cur, L', _, _, hL, h => by
    simp only [fillA, Option.some.injEq] at h
    subst h
    exact ⟨cur, by simp [Instr.fill], hL⟩
  | [], _ :: _, _, _, _, h, _, _, _ => by simp at h
  | _ :: _, [], _, _, _, h, _, _, _ => by simp at h
  | (i, x) :: parts, (j, v) :: pv, L, cur, L', hi, hp, hL, h => by
    simp only [List.map_cons, List.cons.injEq] at hi
    obtain ⟨rfl, hi⟩ := hi
    simp only [List.map_cons, VRs] at hp
    simp only [fillA] at h
    split at h
    · cases h
    · rename_i off size hpl
      split at h
      · rename_i hc
        obtain ⟨ho, hs, hle⟩ := hc
        have hx := VR.cells hp.1 ho
        have hvs : v.cells.size = size := by rw [← hs, VRs.length hx]; simp
        have hcl : L.length = cur.size := by rw [VRs.length hL]; simp
        have hnot : ¬ (v.cells.size ≠ size ∨ off + v.cells.size > cur.size) := by omega
        have key := foldl_zip v.cells off cur (by omega)
        have := fill_sound place parts pv (cut L off x.cells) (v.cells.zipIdx.foldl (fun cs (p : Value × Nat) => cs.setIfInBounds (off + p.2) p.1) cur) L' hi hp.2 (by
          rw [key]
          unfold cut
          rw [hs, ← hvs]
          exact VRs.append (VRs.append (VRs.take off hL) hx) (VRs.drop _ hL)) h
        obtain ⟨cur', h1, h2⟩ := this
        refine ⟨cur', ?_, h2⟩
        have hnot' : (decide (v.cells.size ≠ size) || decide (off + v.cells.size > cur.size)) = false := by
          simp only [Bool.or_eq_false_iff, decide_eq_false_iff_not]; exact not_or.1 hnot
        simp only [Instr.fill, hpl, hnot', Bool.false_eq_true, if_false]
        exact h1
      · cases h
theorem pure_PR {S : List Nat} : ∀ {c p : AV} {u : Value}, VR g w c u → pureA c = some p → (∀ r ∈ rowsOf [c], r ∈ S) → okCell c = true → PR (isRo (g.freeze S)) w p u
  | .undef, _, _, _, _, _, ho => by simp [okCell] at ho
  | .v x, p, u, hv, hp, _, ho => by
    simp only [pureA, Option.some.injEq] at hp
    subst hp
    simp only [VR] at hv
    simp only [PR]
    exact ⟨hv, ho⟩
  | .sl (.own r 0) n es, p, u, hv, hp, hs, _ => by
    simp only [pureA, Option.some.injEq] at hp
    subst hp
    have := VR.freeze (S := S) _ u hv
    have hr : r ∈ S := hs r (by simp [rowsOf])
    simp only [AV.freeze, AV.mapH, AV.freezeH, hr, if_true] at this
    simpa [VR] using this
  | .sl (.own r (lo + 1)) n es, p, u, hv, hp, hs, _ => by simp [pureA] at hp
  | .sl .no n es, p, u, hv, hp, hs, _ => by
    simp only [pureA, Option.some.injEq] at hp
    subst hp
    have := VR.freeze (S := S) _ u hv
    simpa [VR, AV.freeze, AV.mapH, AV.freezeH] using this
  | .sl .full n es, p, u, hv, hp, hs, _ => by
    simp only [pureA, Option.some.injEq] at hp
    subst hp
    have := VR.freeze (S := S) _ u hv
    simpa [VR, AV.freeze, AV.mapH, AV.freezeH] using this
  | .agg _, _, _, _, hp, _, _ => by simp [pureA] at hp
  | .tup _, _, _, _, hp, _, _ => by simp [pureA] at hp
  | .ptr _ _, _, _, _, hp, _, _ => by simp [pureA] at hp
  | .ep _ _ _ _, _, _, _, hp, _, _ => by simp [pureA] at hp
  | .fn f [], p, u, hv, hp, hs, _ => by
    simp only [pureA, Option.some.injEq] at hp
    subst hp
    simp only [VR] at hv
    obtain ⟨us, rfl, h⟩ := hv
    match h' : us.toList, h with
    | [], _ => simp only [PR]; exact ⟨trivial, by rw [show us = #[] by simpa using h']⟩
    | _ :: _, h => simp [VRs] at h
  | .fn _ (_ :: _), _, _, _, hp, _, _ => by simp [pureA] at hp
  | .mv _ _, _, _, _, hp, _, _ => by simp [pureA] at hp
  | .mp _, _, _, _, hp, _, _ => by simp [pureA] at hp
  | .ifc _ _, _, _, _, hp, _, _ => by simp [pureA] at hp
  | .mem _ _, _, _, _, hp, _, _ => by simp [pureA] at hp
theorem rowsOf_cons (c : AV) (cs : List AV) (r : Nat) : r ∈ rowsOf (c :: cs) ↔ r ∈ rowsOf [c] ∨ r ∈ rowsOf cs := by
  cases c with
  | sl t n es =>
    cases t with
    | own q lo => cases lo <;> simp [rowsOf]
    | _ => simp [rowsOf]
  | _ => simp [rowsOf]
theorem pure_PRl {S : List Nat} : ∀ {cs ps : List AV} {us : List Value}, VRs g w cs us → pureL cs = some ps → (∀ r ∈ rowsOf cs, r ∈ S) → okCells cs = true → PRl (isRo (g.freeze S)) w ps us
  | [], _, [], _, hp, _, _ => by simp [pureL] at hp; subst hp; simp [PRl]
  | [], _, _ :: _, h, _, _, _ => by simp [VRs] at h
  | _ :: _, _, [], h, _, _, _ => by simp [VRs] at h
  | c :: cs, ps, u :: us, h, hp, hs, ho => by
    simp only [VRs] at h
    simp only [okCells, Bool.and_eq_true] at ho
    simp only [pureL] at hp
    split at hp
    · rename_i x xs hx hxs
      simp only [Option.some.injEq] at hp
      subst hp
      simp only [PRl]
      exact ⟨pure_PR h.1 hx (fun r hr => hs r ((rowsOf_cons c cs r).2 (.inl hr))) ho.1, pure_PRl h.2 hxs (fun r hr => hs r ((rowsOf_cons c cs r).2 (.inr hr))) ho.2⟩
    · cases hp
end
def makeA (k n : Nat) (zs : List Value) (st : St) (l c : Int) : Option (AV × St) :=
  if 0 ≤ l ∧ l ≤ c ∧ c ≤ 4294967296 ∧ okCells (vals zs) = true then some (.sl (.own k 0) n (List.replicate l.toNat (vals zs)), st.kill [k] []) else none
def litA (k n len : Nat) (zs : List Value) (st : St) (parts : List (Nat × AV)) : Option (AV × St) :=
  match fillA (fun i => some (i * n, n)) (List.replicate len (vals zs)).flatten parts with
  | some L => match pureL L with
    | some ps => if okCells L = true ∧ ps.length = len * n ∧ len * n ≤ 16777216 then some (.sl (.own k 0) n (chunk n len ps), (st.freeze (rowsOf L)).kill [k] []) else none
    | none => if n = 1 ∧ 0 < len ∧ L.length = len ∧ len ≤ 16777216 then some (.mem true L, st) else none
  | none => none
section
variable {C : Ctx} {A : A0} {N : Nat} {g g' : Gh} {st : St} {a : Act} {w w' : World} {P : Program}
theorem zeroOf_spec {t : TypeId} {zs : List Value} {i : TypeInfo} {z : Value} (h : zeroOf P t = some zs) (hi : P.info? t = some i) (hz : i.zero = some z) : zs = z.cells.toList := by
  simp [zeroOf, hi, hz] at h
  exact h.symm
theorem flatten_replicate_get (zs : List Value) : ∀ (l j : Nat) (v : Value), (List.replicate l zs).flatten[j]? = some v → zs[j % zs.length]? = some v ∧ j < l * zs.length
  | 0, j, v, h => by simp at h
  | l + 1, j, v, h => by
    rw [List.replicate_succ, List.flatten_cons, List.getElem?_append] at h
    split at h
    · rename_i hj
      rw [Nat.mod_eq_of_lt hj]
      exact ⟨h, by rw [Nat.add_mul]; omega⟩
    · rename_i hj
      obtain ⟨h1, h2⟩ := flatten_replicate_get zs l _ v h
      refine ⟨?_, by rw [Nat.add_mul]; omega⟩
      rwa [Nat.mod_eq_sub_mod (by omega)]
theorem PRl_vals {ro : Nat → Prop} : ∀ (zs : List Value), okCells (vals zs) = true → PRl ro w (vals zs) zs
  | [], _ => by simp [vals, PRl]
  | z :: zs, h => by
    simp only [vals, List.map_cons, okCells, Bool.and_eq_true, okCell] at h
    simp only [vals, List.map_cons, PRl, PR]
    exact ⟨⟨trivial, h.1⟩, PRl_vals zs h.2⟩
theorem PRl_replicate {ro : Nat → Prop} {cs : List AV} {us : List Value} (h : PRl ro w cs us) : ∀ l : Nat, PRl ro w (List.replicate l cs).flatten (List.replicate l us).flatten
  | 0 => by simp [PRl]
  | l + 1 => by
    rw [List.replicate_succ, List.replicate_succ, List.flatten_cons, List.flatten_cons]
    exact PRl.append h (PRl_replicate h l)
theorem make_sound (hR : R C A N g st a w) {t e n b k : Nat} {zs : List Value} (ht : rowInf P t = some (e, n, b)) (hzs : zeroOf P e = some zs) {kl kc : IntKind} {l c : Int} {z : AV} {st' : St} (ha : makeA k n zs st l c = some (z, st')) :
    ∃ u w' g', (Instr.makeSlice t (.int kl l) (.int kc c)).run P w = .ok u w' ∧ R C A N g' st' a w' ∧ VR g' w' z u := by
  obtain ⟨hu, i, zv, hi, hz, hzsz, hsz, hby, hn, hb⟩ := rowInf_spec ht
  have hzz := zeroOf_spec hzs hi hz
  unfold makeA at ha
  split at ha
  · rename_i hc
    obtain ⟨h0, hlc, hmax, hok⟩ := hc
    simp only [Option.some.injEq, Prod.mk.injEq] at ha
    obtain ⟨rfl, rfl⟩ := ha
    have hbytes : (i.bytes : Int) * c ≤ 281474976710656 := by
      have : (i.bytes : Int) * c ≤ 32768 * 4294967296 := Int.mul_le_mul (by omega) hmax (by omega) (by omega)
      omega
    have hrun := run_make (P := P) w t e i zv hu hi hz kl kc l c h0 hlc hbytes (by omega)
    have hzl : zs.length = n := by rw [hzz]; simpa using hzsz
    obtain ⟨g', k1, k2⟩ := hR.newRow k [k] (by simp) (madeCells zv.cells (c.toNat * i.size)) e n c.toNat (List.replicate l.toNat (vals zs)) (List.replicate l.toNat zs).flatten hn
      (fun e' he => by rw [List.eq_of_mem_replicate he]; simp [vals, hzl])
      (PRl_replicate (PRl_vals zs hok) _)
      (by rw [size_madeCells, hsz]) (by simp; omega) (by simp only [maxLen]; omega)
      (fun j v hj => by
        obtain ⟨h1, h2⟩ := flatten_replicate_get zs _ _ _ hj
        have hjlt : j < c.toNat * i.size := by
          rw [hzl] at h2
          rw [hsz]
          exact Nat.lt_of_lt_of_le h2 (Nat.mul_le_mul_right _ (by omega))
        simp only [madeCells]
        rw [Array.getElem?_map, Array.getElem?_range, if_pos hjlt]
        simp only [Option.map_some]
        rw [hzz] at h1
        simp only [Array.length_toList, Array.getElem?_toList] at h1
        rw [getElem!_def, h1])
    refine ⟨_, _, g', hrun, k1, ?_⟩
    simpa using k2
  · cases ha
theorem R.newRoL (h : R C A N g st a w) (hos : w'.os = w.os) (htape : SameTape w w') (hout : w'.output = w.output) (hsz : w'.heap.size = w.heap.size + 1) (hold : ∀ b, b < w.heap.size → w'.heap[b]? = w.heap[b]?) :
    ∃ g', R C A N g' st a w' ∧ isRo g' w.heap.size ∧ (∀ b, b < w.heap.size → g'.own b = g.own b) ∧ Lasts [] [] g w g' w' := by
  let g' : Gh := { g with own := fun x => if x = w.heap.size then .ro else g.own x }
  have hl : Lasts [] [] g w g' w' := ⟨fun b hb ho => ⟨by simp [g', Nat.ne_of_lt hb, ho], hold b hb⟩, fun b q hb _ ho => ⟨by simp [g', Nat.ne_of_lt hb, ho], hold b hb⟩, fun _ _ => rfl, fun _ _ => rfl⟩
  refine ⟨g', ?_, by simp [g', isRo], fun b hb => by simp [g', Nat.ne_of_lt hb], hl⟩
  have := h.lasts hl (h.fr.step hl hos htape hout (by omega) (fun b hb ho => ⟨by simp [g', Nat.ne_of_lt hb, ho], hold b hb⟩) (fun _ _ he => by cases he)) (fun s cs hs _ => by
    have ho := h.ob s cs hs
    exact ⟨by simp [g', Nat.ne_of_lt ho.lt, ho.1], hold _ ho.lt⟩)
  rwa [stKill_nil] at this
theorem R.newRo (h : R C A N g st a w) (hos : w'.os = w.os) (htape : SameTape w w') (hout : w'.output = w.output) (hsz : w'.heap.size = w.heap.size + 1) (hold : ∀ b, b < w.heap.size → w'.heap[b]? = w.heap[b]?) :
    ∃ g', R C A N g' st a w' ∧ isRo g' w.heap.size ∧ (∀ b, b < w.heap.size → g'.own b = g.own b) := by
  obtain ⟨g', h1, h2, h3, _⟩ := h.newRoL hos htape hout hsz hold
  exact ⟨g', h1, h2, h3⟩
theorem lit_sound (hR : R C A N g st a w) {t e n b k len : Nat} {zs : List Value} (ht : rowInf P t = some (e, n, b)) (hzs : zeroOf P e = some zs) {parts : List (Nat × AV)} {pv : List (Nat × Value)}
    (hp1 : parts.map (·.1) = pv.map (·.1)) (hp2 : VRs g w (parts.map (·.2)) (pv.map (·.2))) {z : AV} {st' : St} (ha : litA k n len zs st parts = some (z, st')) :
    ∃ u w' g', (Instr.buildSlice t len pv.toArray).run P w = .ok u w' ∧ R C A N g' st' a w' ∧ VR g' w' z u := by
  obtain ⟨hu, i, zv, hi, hz, hzsz, hsz, hby, hn, hb⟩ := rowInf_spec ht
  have hzz := zeroOf_spec hzs hi hz
  have hzl : zs.length = n := by rw [hzz]; simpa using hzsz
  unfold litA at ha
  split at ha
  · rename_i L hL
    have hz0 : VRs g w (List.replicate len (vals zs)).flatten (List.replicate len zs).flatten := by
      have : ∀ m : Nat, VRs g w (List.replicate m (vals zs)).flatten (List.replicate m zs).flatten := by
        intro m
        induction m with
        | zero => simp [VRs]
        | succ m ih => rw [List.replicate_succ, List.replicate_succ, List.flatten_cons, List.flatten_cons]; exact VRs.append (VRs_vals zs) ih
      exact this len
    have harr : ((Array.range (len * n)).map (zv.cells[· % zv.cells.size]!)).toList = (List.replicate len zs).flatten := by
      apply List.ext_getElem?
      intro j
      cases hj : (List.replicate len zs).flatten[j]? with
      | none =>
        have : len * n ≤ j := by
          have := List.getElem?_eq_none_iff.1 hj
          simpa [List.length_flatten, hzl, Nat.mul_comm] using this
        simp; omega
      | some v =>
        obtain ⟨h1, h2⟩ := flatten_replicate_get zs _ _ _ hj
        rw [hzl] at h2
        simp only [Array.getElem?_toList, Array.getElem?_map, Array.getElem?_range, if_pos h2, Option.map_some]
        rw [hzz] at h1
        simp only [Array.length_toList, Array.getElem?_toList] at h1
        rw [getElem!_def, h1]
    obtain ⟨cur, hf, hcur⟩ := fill_sound (fun i => some (i * n, n)) parts pv _ ((Array.range (len * n)).map (zv.cells[· % zv.cells.size]!)) L hp1 hp2 (by rw [harr]; exact hz0) hL
    split at ha
    · rename_i ps hps
      split at ha
      · rename_i hc
        obtain ⟨hok, hpl, hbig⟩ := hc
        simp only [Option.some.injEq, Prod.mk.injEq] at ha
        obtain ⟨rfl, rfl⟩ := ha
        have hLl : L.length = len * n := by
          rw [← hpl]
          have : ∀ (cs ps : List AV), pureL cs = some ps → ps.length = cs.length := by
            intro cs
            induction cs with
            | nil => intro ps h; simp [pureL] at h; simp [← h]
            | cons c cs ih =>
              intro ps h
              simp only [pureL] at h
              split at h
              · rename_i x xs hx hxs
                simp at h; subst h; simp [ih xs hxs]
              · cases h
          exact (this L ps hps).symm
        obtain ⟨c1, c2, c3⟩ := chunk_len n len ps hpl
        have hpr := pure_PRl (S := rowsOf L) hcur hps (fun r hr => hr) hok
        obtain ⟨g', k1, k2⟩ := (hR.freeze (rowsOf L)).newRow k [k] (by simp) cur e n len (chunk n len ps) cur.toList hn c2 (by rw [c3]; exact hpr)
          (by have := VRs.length hcur; simp at this; omega) (by omega) (by simp only [maxLen]; have := Nat.le_mul_of_pos_right len hn; omega)
          (fun j v hj => by simpa using hj)
        refine ⟨_, _, g', ?_, k1, k2⟩
        have hnb : ¬ (len * n > 2 ^ 24) := by omega
        have hf' : Instr.fill (fun i => some (i * n, n)) (if len * n = 0 then #[] else (Array.range (len * n)).map (zv.cells[· % zv.cells.size]!)) pv = some cur := by
          by_cases h0 : len * n = 0
          · rw [h0] at hf ⊢; simpa [Array.range_zero'] using hf
          · simpa [h0] using hf
        rw [c1]
        by_cases h0 : len * n = 0
        · simp only [h0, if_true] at hf'
          simp [Instr.buildSlice, run_underlying hu, sizeOf, typeInfo, hi, hsz, h0, Array.range_zero', hf', newRow]
        · simp only [h0, if_false] at hf'
          simp [Instr.buildSlice, run_underlying hu, sizeOf, typeInfo, hi, hsz, h0, zeroValue, hz, hf', newRow]
          exact hbig
      · cases ha
    · split at ha
      · rename_i hc
        obtain ⟨rfl, hpos, hLl, hbig⟩ := hc
        simp only [Option.some.injEq, Prod.mk.injEq] at ha
        obtain ⟨rfl, rfl⟩ := ha
        have hcl : cur.size = len := by have := VRs.length hcur; simp at this; omega
        obtain ⟨g', k1, k2, _, hl⟩ := hR.newRoL (w' := w.alloc (.cells cur e)) rfl ⟨rfl, Nat.le_refl _⟩ rfl (by simp) (fun b hb => alloc_old w _ b hb)
        refine ⟨.slice (some ⟨w.heap.size, 0, none⟩) len len, w.alloc (.cells cur e), g', ?_, k1, ?_⟩
        · have hnb : ¬ (len > 2 ^ 24) := by omega
          have h0 : ¬ (len = 0) := by omega
          simp only [Nat.mul_one] at hf
          simp [Instr.buildSlice, run_underlying hu, sizeOf, typeInfo, hi, hsz, h0, zeroValue, hz, hf, newRow]
          exact hbig
        · have hv := VRs.lasts hl _ _ hcur
          rw [killL_nil] at hv
          simp only [VR, MemU]
          refine ⟨⟨w.heap.size, 0, none⟩, cur.toList, k2, ⟨fun he => ?_, fun i hi => ?_⟩, hv, len, by simp [hcl], by simp [hcl], by simp only [maxLen]; omega⟩
          · have h9 : cur.toList.length = 0 := by rw [he]; rfl
            rw [Array.length_toList] at h9
            omega
          · rw [add_lit, cell_of_row _ _ _ _ _ _ (heap_alloc_new w _)]
            simp
      · cases ha
  · cases ha
end
end Go.Abs
namespace Go.Abs
def natOf : AV → Option Nat
  | .v (.int _ i) => if 0 ≤ i then some i.toNat else none
  | _ => none
def sliceA (n : Nat) (full : Bool) (l h : Nat) (st : St) : AV → Option (AV × St)
  | .sl (.own r lo) m es => if m = n ∧ l ≤ h ∧ h ≤ es.length then
      if full then (if lo = 0 then some (.sl .full n ((es.drop l).take (h - l)), st.freeze [r]) else none)
      else some (.sl (.own r (lo + l)) n ((es.drop l).take (h - l)), st)
    else none
  | .sl t m es => if m = n ∧ l ≤ h ∧ h ≤ es.length then some (.sl (if full then .full else .no) n ((es.drop l).take (h - l)), st) else none
  | .v (.slice none 0 0) => if l = 0 ∧ h = 0 then some (.v (.slice none 0 0), st) else none
  | _ => none
section
variable {C : Ctx} {A : A0} {N : Nat} {g g' : Gh} {st : St} {a : Act} {w w' : World} {P : Program}
theorem PRe.sub {ro : Nat → Prop} : ∀ (es : List (List AV)) (ad : Addr) (n i : Nat), PRe ro w es ad n i → ∀ l k : Nat, PRe ro w ((es.drop l).take k) ad n (i + l)
  | [], _, _, _, _, l, k => by simp [PRe]
  | e :: es, ad, n, i, h, 0, 0 => by simp [PRe]
  | e :: es, ad, n, i, h, 0, k + 1 => by
    simp only [PRe] at h
    simp only [List.drop_zero, List.take_succ_cons, PRe]
    exact ⟨h.1, h.2.1, by simpa using PRe.sub es ad n (i + 1) h.2.2 0 k⟩
  | e :: es, ad, n, i, h, l + 1, k => by
    simp only [PRe] at h
    have := PRe.sub es ad n (i + 1) h.2.2 l k
    rw [show i + 1 + l = i + (l + 1) from by omega] at this
    simpa using this
theorem PRe.shift {ro : Nat → Prop} : ∀ (es : List (List AV)) (ad : Addr) (n l i : Nat), PRe ro w es ad n (l + i) → PRe ro w es (ad.add (l * n)) n i
  | [], _, _, _, _, _ => by simp [PRe]
  | e :: es, ad, n, l, i, h => by
    simp only [PRe] at h ⊢
    exact ⟨h.1, PRc.shift e ad (l * n) (i * n) (by rw [← Nat.add_mul]; exact h.2.1), PRe.shift es ad n l (i + 1) (by rw [← Nat.add_assoc]; exact h.2.2)⟩
theorem run_slice {t e : TypeId} {size : Nat} (ht : P.underlying t = some (.slice e)) (hs : szOf P e = some size) {a : Option Addr} {len cap l h : Nat} {lo hi mx : Option Value} {kl kh km : IntKind}
    (hlo : lo = none ∧ l = 0 ∨ lo = some (.int kl l)) (hhi : hi = none ∧ h = len ∨ hi = some (.int kh h)) (full : Bool) (hmx : mx = if full then some (.int km h) else none) (hfh : full = true → hi = some (.int kh h))
    (h1 : l ≤ h) (h2 : h ≤ len) (h3 : len ≤ cap) :
    (Instr.slice t (.slice a len cap) lo hi mx).run P w = .ok (.slice (if (if full then h else cap) = l then a else a.map (·.add (l * size))) (h - l) ((if full then h else cap) - l)) w := by
  have b1 : ∀ (k : IntKind) (c : BoundsCode), (Instr.sliceBound (.int k h) cap c).run P w = .ok h w := fun k c => by
    have := run_sliceBound (P := P) (w := w) k h cap c (by omega) (by omega); simpa using this
  have b2 : ∀ (k : IntKind) (c : BoundsCode), (Instr.sliceBound (.int k h) h c).run P w = .ok h w := fun k c => by
    have := run_sliceBound (P := P) (w := w) k h h c (by omega) (by omega); simpa using this
  have b3 : ∀ (k : IntKind) (c : BoundsCode), (Instr.sliceBound (.int k l) h c).run P w = .ok l w := fun k c => by
    have := run_sliceBound (P := P) (w := w) k l h c (by omega) (by omega); simpa using this
  have b4 : ∀ (k : IntKind) (c : BoundsCode), l ≤ len → (Instr.sliceBound (.int k l) len c).run P w = .ok l w := fun k c hh => by
    have := run_sliceBound (P := P) (w := w) k l len c (by omega) (by omega); simpa using this
  cases full with
  | true =>
    have hh := hfh rfl
    subst hh
    simp only [if_true] at hmx
    subst hmx
    rcases hlo with ⟨rfl, rfl⟩ | rfl
    · simp [Instr.slice, run_underlying ht, Instr.sliceBounds, b1, b2, run_sizeOf hs]
    · simp [Instr.slice, run_underlying ht, Instr.sliceBounds, b1, b2, b3, run_sizeOf hs]
  | false =>
    simp only [Bool.false_eq_true, if_false] at hmx
    subst hmx
    rcases hlo with ⟨rfl, rfl⟩ | rfl <;> rcases hhi with ⟨rfl, rfl⟩ | rfl
    · simp [Instr.slice, run_underlying ht, Instr.sliceBounds, run_sizeOf hs]
    · simp [Instr.slice, run_underlying ht, Instr.sliceBounds, b1, run_sizeOf hs]
    · simp [Instr.slice, run_underlying ht, Instr.sliceBounds, b4 _ _ h1, run_sizeOf hs]
    · simp [Instr.slice, run_underlying ht, Instr.sliceBounds, b1, b3, run_sizeOf hs]
theorem slice_sound (hR : R C A N g st a w) {t e : TypeId} {n : Nat} (ht : elemOfSlice P t = some (e, n)) {x z : AV} {ux : Value} (hx : VR g w x ux) {l h len : Nat} {lo hi mx : Option Value} {kl kh km : IntKind} {full : Bool}
    (hlen : ∀ es, elems n x = some es → es.length = len)
    (hlo : lo = none ∧ l = 0 ∨ lo = some (.int kl l)) (hhi : hi = none ∧ h = len ∨ hi = some (.int kh h)) (hmx : mx = if full then some (.int km h) else none) (hfh : full = true → hi = some (.int kh h)) {st' : St}
    (ha : sliceA n full l h st x = some (z, st')) : ∃ u g', (Instr.slice t ux lo hi mx).run P w = .ok u w ∧ R C A N g' st' a w ∧ VR g' w z u ∧ (((∀ r lo m es, x ≠ .sl (.own r lo) m es) ∨ full = false) → g' = g) := by
  have hts : P.underlying t = some (.slice e) ∧ szOf P e = some n := by
    unfold elemOfSlice at ht
    split at ht
    · rename_i e' he
      obtain ⟨n', hn', hh⟩ := Option.map_eq_some_iff.1 ht
      simp only [Prod.mk.injEq] at hh
      obtain ⟨rfl, rfl⟩ := hh
      exact ⟨he, hn'⟩
    · cases ht
  obtain ⟨ht1, ht2⟩ := hts
  unfold sliceA at ha
  split at ha
  · rename_i r lo' m es
    split at ha
    · rename_i hc
      obtain ⟨rfl, h1, h2⟩ := hc
      have hl : es.length = len := hlen es (by simp [elems])
      subst hl
      simp only [VR, OwnSl] at hx
      obtain ⟨hn, hx⟩ := hx
      have hlen' : ((es.drop l).take (h - l)).length = h - l := by simp; omega
      split at ha
      · rename_i hf
        subst hf
        split at ha
        · rename_i h0
          subst h0
          simp only [Option.some.injEq, Prod.mk.injEq] at ha
          obtain ⟨rfl, rfl⟩ := ha
          rcases hx with ⟨rfl, rfl⟩ | ⟨h0, _⟩ | ⟨cap, cur, T, rfl, k2, k3, k5, k6, k7, k8⟩
          · simp only [List.length_nil] at h2
            have h0 : h = 0 := by omega
            subst h0
            have hl0 : l = 0 := by omega
            subst hl0
            have hrun := run_slice (w := w) ht1 ht2 (a := none) (len := 0) (cap := 0) hlo hhi true hmx hfh (Nat.le_refl 0) (Nat.le_refl 0) (Nat.le_refl 0)
            refine ⟨_, _, hrun, hR.freeze [r], ?_, fun h => by rcases h with h | h; exact absurd rfl (h _ _ _ _); cases h⟩
            simp only [VR, PR]
            exact ⟨(fun _ _ h => by cases h), none, 0, by simp, by simp, by simp [maxLen], (fun _ => by simp), hn, .inl (by simp)⟩
          · omega
          · have hrun := run_slice (w := w) ht1 ht2 hlo hhi true hmx hfh h1 h2 k2 (a := some ⟨g.row r, 0 * m, none⟩)
            refine ⟨_, _, hrun, hR.freeze [r], ?_, fun h => by rcases h with h | h; exact absurd rfl (h _ _ _ _); cases h⟩
            simp only [VR, PR, if_true]
            refine ⟨(fun _ _ h => by cases h), _, _, by rw [hlen'], by omega, by omega, (fun _ => by omega), hn, ?_⟩
            by_cases hlh : h = l
            · exact .inl (by rw [hlh]; simp)
            · refine .inr ⟨_, by rw [if_neg hlh]; rfl, (by show (Gh.freeze [r] g).own ((⟨g.row r, 0 * m, none⟩ : Addr).add (l * m)).block = .ro; rw [add_block]; exact freeze_row _ r k5 (by simp)), ?_⟩
              have := PRe.sub es _ m 0 (PRe.mono_at (roFreeze (S := [r])) es _ m 0 rfl k8) l (h - l)
              rw [Nat.zero_add] at this
              exact PRe.shift _ _ m l 0 (by simpa using this)
        · cases ha
      · rename_i hf
        have hf' : full = false := by simpa using hf
        subst hf'
        simp only [Option.some.injEq, Prod.mk.injEq] at ha
        obtain ⟨rfl, rfl⟩ := ha
        rcases hx with ⟨rfl, rfl⟩ | ⟨h0, rfl, a', cap, rfl, hcap⟩ | ⟨cap, cur, T, rfl, k2, k3, k5, k6, k7, k8⟩
        · simp only [List.length_nil] at h2
          have h0 : h = 0 := by omega
          subst h0
          have hl0 : l = 0 := by omega
          subst hl0
          have hrun := run_slice (w := w) ht1 ht2 (a := none) (len := 0) (cap := 0) hlo hhi false hmx hfh (Nat.le_refl 0) (Nat.le_refl 0) (Nat.le_refl 0)
          refine ⟨_, _, hrun, hR, ?_, fun _ => rfl⟩
          simp only [VR, OwnSl]
          exact ⟨hn, .inl ⟨by simp, by simp⟩⟩
        · simp only [List.length_nil] at h2
          have h0' : h = 0 := by omega
          subst h0'
          have hl0 : l = 0 := by omega
          subst hl0
          have hrun := run_slice (w := w) ht1 ht2 (a := a') (len := 0) (cap := cap) hlo hhi false hmx hfh (Nat.le_refl 0) (Nat.le_refl 0) (Nat.zero_le _)
          refine ⟨_, _, hrun, hR, ?_, fun _ => rfl⟩
          simp only [VR, OwnSl]
          exact ⟨hn, .inr (.inl ⟨by omega, by simp, _, _, rfl, by simp; omega⟩)⟩
        · have hrun := run_slice (w := w) ht1 ht2 hlo hhi false hmx hfh h1 h2 k2 (a := some ⟨g.row r, lo' * m, none⟩)
          refine ⟨_, _, hrun, hR, ?_, fun _ => rfl⟩
          simp only [VR, OwnSl]
          refine ⟨hn, ?_⟩
          have hsub := PRe.sub es _ m 0 k8 l (h - l)
          rw [Nat.zero_add] at hsub
          have hsh := PRe.shift _ _ m l 0 (by simpa using hsub)
          rw [add_lit, ← Nat.add_mul] at hsh
          by_cases hcl : cap = l
          · have hl0 : h = l := by omega
            by_cases hz : lo' + l = 0
            · have e1 : lo' = 0 := by omega
              have e2 : l = 0 := by omega
              subst e1; subst e2
              refine .inr (.inr ⟨cap - 0, cur, T, ?_, by rw [hlen']; omega, by omega, k5, k6, by simpa using k7, hsh⟩)
              simp only [Bool.false_eq_true, if_false, hcl, if_true]
              rw [hlen']
            · refine .inr (.inl ⟨by omega, by rw [hl0]; simp, _, _, by rw [hl0, Nat.sub_self], by simp; omega⟩)
          · refine .inr (.inr ⟨cap - l, cur, T, ?_, by rw [hlen']; omega, by omega, k5, k6, by rw [show lo' + l + (cap - l) = lo' + cap from by omega]; exact k7, hsh⟩)
            rw [hlen']
            simp [hcl, add_lit, Nat.add_mul]
    · cases ha
  · rename_i t' m es hno
    split at ha
    · rename_i hc
      obtain ⟨rfl, h1, h2⟩ := hc
      simp only [Option.some.injEq, Prod.mk.injEq] at ha
      obtain ⟨rfl, rfl⟩ := ha
      have hl : es.length = len := hlen es (by simp [elems])
      subst hl
      have hlen' : ((es.drop l).take (h - l)).length = h - l := by simp; omega
      have hp : PR (isRo g) w (.sl t' m es) ux := by
        cases t' with
        | own r lo => exact absurd rfl (hno r lo)
        | no => simpa [VR] using hx
        | full => simpa [VR] using hx
      simp only [PR] at hp
      obtain ⟨_, a', cap, rfl, k2, k3, k4, k5, k6⟩ := hp
      have hrun := run_slice (w := w) ht1 ht2 hlo hhi full hmx hfh h1 h2 k2 (a := a')
      refine ⟨_, _, hrun, hR, ?_, fun _ => rfl⟩
      have hres : PR (isRo g) w (.sl (if full = true then .full else .no) m ((es.drop l).take (h - l))) (.slice (if (if full = true then h else cap) = l then a' else a'.map (·.add (l * m))) (h - l) ((if full = true then h else cap) - l)) := by
        simp only [PR]
        refine ⟨?_, _, _, by rw [hlen'], by split <;> omega, by split <;> omega, ?_, k5, ?_⟩
        · intro r lo
          cases full <;> simp
        · intro hf
          cases full
          · simp at hf
          · simp; omega
        by_cases hlh : h = l
        · exact .inl (by rw [hlh]; simp)
        · rcases k6 with rfl | ⟨ad, rfl, k7, k8⟩
          · exact .inl (by simp)
          · refine .inr ⟨ad.add (l * m), ?_, by rw [add_block]; exact k7, ?_⟩
            · rw [if_neg (by split <;> omega)]; rfl
            · have := PRe.sub es _ m 0 k8 l (h - l)
              rw [Nat.zero_add] at this
              exact PRe.shift _ _ m l 0 (by simpa using this)
      cases full with
      | true => simpa [VR] using hres
      | false => simpa [VR] using hres
    · cases ha
  · split at ha
    · rename_i hc
      obtain ⟨rfl, rfl⟩ := hc
      simp only [Option.some.injEq, Prod.mk.injEq] at ha
      obtain ⟨rfl, rfl⟩ := ha
      have hl : ([] : List (List AV)).length = len := hlen [] (by simp [elems])
      simp at hl
      subst hl
      simp only [VR] at hx
      subst hx
      have hrun := run_slice (w := w) ht1 ht2 (a := none) (len := 0) (cap := 0) hlo hhi full hmx hfh (Nat.le_refl 0) (Nat.le_refl 0) (Nat.le_refl 0)
      refine ⟨_, _, hrun, hR, ?_, fun _ => rfl⟩
      simp [VR]
    · cases ha
  · cases ha
end
end Go.Abs
namespace Go.Abs
section
variable {ro ro' : Nat → Prop} {w w' : World}
theorem PRc.move (h : ∀ b, b < w.heap.size → ro b → ro' b ∧ w'.heap[b]? = w.heap[b]?) : ∀ (cs : List AV) (ad : Addr) (j : Nat), (∀ k, k < cs.length → w'.cell? (ad.add (j + k)) = w.cell? (ad.add (j + k))) → PRc ro w cs ad j → PRc ro' w' cs ad j
  | [], _, _, _, _ => by simp [PRc]
  | c :: cs, ad, j, hs, hu => by
    simp only [PRc] at hu ⊢
    obtain ⟨⟨u, h1, h2⟩, h3⟩ := hu
    refine ⟨⟨u, by rw [← h1]; simpa using hs 0 (by simp), PR.mono h c u h2⟩, PRc.move h cs ad (j + 1) (fun k hk => ?_) h3⟩
    have := hs (k + 1) (by simpa using hk)
    rwa [show j + (k + 1) = j + 1 + k from by omega] at this
theorem PRe.of_at : ∀ (es : List (List AV)) (ad : Addr) (n i : Nat), (∀ (k : Nat) (e : List AV), es[k]? = some e → e.length = n ∧ PRc ro w e ad ((i + k) * n)) → PRe ro w es ad n i
  | [], _, _, _, _ => by simp [PRe]
  | e :: es, ad, n, i, h => by
    simp only [PRe]
    have h0 := h 0 e (by simp)
    refine ⟨h0.1, by simpa using h0.2, PRe.of_at es ad n (i + 1) fun k e' he => ?_⟩
    have := h (k + 1) e' (by simpa using he)
    rwa [show i + (k + 1) = i + 1 + k from by omega] at this
end
def over (lo idx : Nat) (cs es : List (List AV)) : List (List AV) := es.mapIdx fun i e => if idx ≤ lo + i then (cs[lo + i - idx]?).getD e else e
theorem over_length (lo idx : Nat) (cs es : List (List AV)) : (over lo idx cs es).length = es.length := by simp [over]
def AV.setRunH (r n idx : Nat) (cs : List (List AV)) : AV → AV
  | .sl (.own q lo) m es => if q = r then (if m = n then .sl (.own q lo) m (over lo idx cs es) else .undef) else .sl (.own q lo) m es
  | .ptr s off => .ptr s off
  | .ep (.own q l) i d off => if q = r then (if d.length = n then .ep (.own q l) i (if idx ≤ i then (cs[i - idx]?).getD d else d) off else .undef) else .ep (.own q l) i d off
  | .mp s => .mp s
  | x => x
def St.setRun (r n idx : Nat) (cs : List (List AV)) (st : St) : St := st.mapH (AV.setRunH r n idx cs)
def AV.setRowH (r idx : Nat) (c : List AV) : AV → AV
  | .sl (.own q lo) m es => if q = r then (if m = c.length then .sl (.own q lo) m (if lo ≤ idx then es.set (idx - lo) c else es) else .undef) else .sl (.own q lo) m es
  | .ptr s off => .ptr s off
  | .ep (.own q l) i d off => if q = r then (if d.length = c.length then .ep (.own q l) i (if i = idx then c else d) off else .undef) else .ep (.own q l) i d off
  | .mp s => .mp s
  | x => x
def St.setRow (r idx : Nat) (c : List AV) (st : St) : St := st.mapH (AV.setRowH r idx c)
theorem over_one (lo idx : Nat) (c : List AV) (es : List (List AV)) : over lo idx [c] es = if lo ≤ idx then es.set (idx - lo) c else es := by
  refine List.ext_getElem? fun i => ?_
  simp only [over, List.getElem?_mapIdx]
  grind
theorem setRow_run (r idx : Nat) (c : List AV) : AV.setRowH r idx c = AV.setRunH r c.length idx [c] := by
  funext x
  cases x with
  | sl t n es => cases t <;> simp [AV.setRowH, AV.setRunH, over_one]
  | ep t i d off =>
    cases t
    · rfl
    · rfl
    · simp only [AV.setRowH, AV.setRunH]
      grind
  | _ => rfl
structure Ran (g : Gh) (w : World) (r n idx : Nat) (cs : List (List AV)) (cur new : Array Value) (T : TypeId) : Prop where
  own : g.own (g.row r) = .row r
  heap : w.heap[g.row r]? = some (.cells cur T (0, 0))
  size : new.size = cur.size
  same : ∀ p, p < idx * n ∨ (idx + cs.length) * n ≤ p → new[p]? = cur[p]?
  cell : PRe (isRo g) (w.setRow (g.row r) new) cs ⟨g.row r, idx * n, none⟩ n 0
section
variable {C : Ctx} {A : A0} {N : Nat} {g g' : Gh} {st : St} {a : Act} {w w' : World} {P : Program}
variable {r n idx : Nat} {c : List (List AV)} {cur new : Array Value} {T : TypeId}
theorem Ran.ro (h : Ran g w r n idx c cur new T) : ∀ b, b < w.heap.size → isRo g b → isRo g b ∧ (w.setRow (g.row r) new).heap[b]? = w.heap[b]? := fun b _ ho =>
  ⟨ho, setRow_other w _ b new (fun e => by subst e; have := h.own; rw [ho] at this; cases this)⟩
theorem Ran.other (h : Ran g w r n idx c cur new T) {b q : Nat} (hq : q ≠ r) (ho : g.own b = .row q) : (w.setRow (g.row r) new).heap[b]? = w.heap[b]? :=
  setRow_other w _ b new (fun e => by subst e; have := h.own; rw [ho] at this; injection this with this; exact hq this)
theorem Ran.heap' (h : Ran g w r n idx c cur new T) : (w.setRow (g.row r) new).heap[g.row r]? = some (.cells new T (0, 0)) := setRow_heap w _ cur new T _ h.heap
theorem Ran.elem (h : Ran g w r n idx c cur new T) {i : Nat} {e : List AV} (he : e.length = n) (hi : i < idx ∨ idx + c.length ≤ i) (hp : PRc (isRo g) w e ⟨g.row r, i * n, none⟩ 0) :
    PRc (isRo g) (w.setRow (g.row r) new) e ⟨g.row r, i * n, none⟩ 0 := by
  refine PRc.move h.ro e _ 0 (fun k hk => ?_) hp
  rw [add_lit, cell_of_row _ _ _ _ _ _ h.heap', cell_of_row _ _ _ _ _ _ h.heap]
  refine h.same _ ?_
  rw [he] at hk
  rcases hi with hlt | hgt
  · left
    have : (i + 1) * n ≤ idx * n := Nat.mul_le_mul_right _ hlt
    rw [Nat.add_mul] at this
    omega
  · right
    have : (idx + c.length) * n ≤ i * n := Nat.mul_le_mul_right _ hgt
    omega
theorem over_get {lo idx : Nat} {cs es : List (List AV)} {k : Nat} {e : List AV} (h : (over lo idx cs es)[k]? = some e) :
    (idx ≤ lo + k ∧ lo + k < idx + cs.length ∧ cs[lo + k - idx]? = some e) ∨ (es[k]? = some e ∧ (lo + k < idx ∨ idx + cs.length ≤ lo + k)) := by
  simp only [over, List.getElem?_mapIdx] at h
  obtain ⟨e0, h0, h1⟩ := Option.map_eq_some_iff.1 h
  split at h1
  · rename_i hle
    cases hc : cs[lo + k - idx]? with
    | none =>
      rw [hc] at h1
      simp only [Option.getD_none] at h1
      subst h1
      rw [List.getElem?_eq_none_iff] at hc
      exact .inr ⟨h0, .inr (by omega)⟩
    | some e1 =>
      rw [hc] at h1
      simp only [Option.getD_some] at h1
      subst h1
      have : lo + k - idx < cs.length := by
        rcases Nat.lt_or_ge (lo + k - idx) cs.length with h | h
        · exact h
        · rw [List.getElem?_eq_none h] at hc; cases hc
      exact .inl ⟨hle, by omega, rfl⟩
  · rename_i hle
    subst h1
    exact .inr ⟨h0, .inl (by omega)⟩
theorem Ran.sl (h : Ran g w r n idx c cur new T) (q lo m : Nat) (es : List (List AV)) (u : Value) (hu : OwnSl g w q lo m es u) : VR g (w.setRow (g.row r) new) (AV.setRunH r n idx c (.sl (.own q lo) m es)) u := by
  simp only [AV.setRunH]
  by_cases hq : q = r
  · subst hq
    simp only [if_true]
    split
    · rename_i hm
      subst hm
      simp only [VR, OwnSl] at hu ⊢
      refine ⟨hu.1, ?_⟩
      rcases hu.2 with ⟨rfl, rfl⟩ | ⟨h0, rfl, hu'⟩ | ⟨cap, cur', T', h1, h2, h3, h5, h6, h7, h8⟩
      · exact .inl ⟨rfl, by simp [over]⟩
      · exact .inr (.inl ⟨h0, by simp [over], hu'⟩)
      · have hh := h.heap
        rw [h6] at hh
        injection hh with hh
        injection hh with hh1 hh2
        subst hh1
        have hlen := over_length lo idx c es
        refine .inr (.inr ⟨cap, new, T, by rw [hlen]; exact h1, by rw [hlen]; exact h2, h3, h5, h.heap', by rw [h.size]; exact h7, ?_⟩)
        refine PRe.of_at _ _ _ 0 fun k e he => ?_
        rcases over_get he with ⟨hle, hlt, he⟩ | ⟨he, hne⟩
        · obtain ⟨e1, e2⟩ := PRe.at_ c _ _ 0 h.cell _ e he
          refine ⟨e1, ?_⟩
          obtain ⟨us, k1, k2⟩ := PRc.list _ _ _ e2
          refine PRc.of_list _ us _ _ k1 fun j v hv => ?_
          have := k2 j v hv
          rw [add_lit] at this ⊢
          rw [show lo * m + ((0 + k) * m + j) = idx * m + ((0 + (lo + k - idx)) * m + j) from by
            have e1 : lo * m + (0 + k) * m = (lo + (0 + k)) * m := (Nat.add_mul _ _ _).symm
            have e2 : idx * m + (0 + (lo + k - idx)) * m = (idx + (0 + (lo + k - idx))) * m := (Nat.add_mul _ _ _).symm
            have e3 : lo + (0 + k) = idx + (0 + (lo + k - idx)) := by omega
            rw [e3] at e1
            omega]
          exact this
        · obtain ⟨e1, e2⟩ := PRe.at_ es _ _ 0 h8 k e he
          refine ⟨e1, ?_⟩
          have e3 := PRc.shift e ⟨g.row q, lo * m, none⟩ ((0 + k) * m) 0 (by simpa using e2)
          rw [add_lit, ← Nat.add_mul, show lo + (0 + k) = lo + k from by omega] at e3
          have e4 := h.elem (i := lo + k) e1 hne e3
          obtain ⟨us, k1, k2⟩ := PRc.list _ _ _ e4
          refine PRc.of_list _ us _ _ k1 fun j v hv => ?_
          have := k2 j v hv
          rw [add_lit] at this ⊢
          rw [show lo * m + ((0 + k) * m + j) = (lo + k) * m + (0 + j) from by
            rw [← Nat.add_assoc, ← Nat.add_mul]; simp]
          exact this
    · simp [VR]
  · simp only [hq, if_false]
    exact hu.map h.ro rfl fun _ ho => ⟨ho, h.other hq ho⟩
theorem Ran.ep (h : Ran g w r n idx c cur new T) (q l i : Nat) (d : List AV) (off : Nat) (u : Value) (hu : EpAt g w (.own q l) i d off u) : VR g (w.setRow (g.row r) new) (AV.setRunH r n idx c (.ep (.own q l) i d off)) u := by
  simp only [AV.setRunH]
  by_cases hq : q = r
  · subst hq
    simp only [if_true]
    split
    · rename_i hd
      subst hd
      simp only [VR, EpAt] at hu ⊢
      obtain ⟨cur', T', h1, h2, h3, h4, h5⟩ := hu
      have hh := h.heap
      rw [h3] at hh
      injection hh with hh
      injection hh with hh1 hh2
      subst hh1
      obtain ⟨e, he⟩ : ∃ e, e = (if idx ≤ i then (c[i - idx]?).getD d else d) := ⟨_, rfl⟩
      have hcase : (idx ≤ i ∧ c[i - idx]? = some e) ∨ (e = d ∧ (i < idx ∨ idx + c.length ≤ i)) := by
        split at he
        · cases hc : c[i - idx]? with
          | none => rw [hc] at he; rw [List.getElem?_eq_none_iff] at hc; exact .inr ⟨he, .inr (by omega)⟩
          | some y => rw [hc] at he; exact .inl ⟨by assumption, by rw [he]; rfl⟩
        · exact .inr ⟨he, .inl (by omega)⟩
      rw [← he]
      rcases hcase with ⟨hle, hc⟩ | ⟨rfl, hi⟩
      · obtain ⟨e1, e2⟩ := PRe.at_ c _ _ 0 h.cell _ e hc
        refine ⟨new, T, by rw [e1]; exact h1, h2, h.heap', by rw [e1, h.size]; exact h4, ?_⟩
        rw [e1]
        obtain ⟨us, k1, k2⟩ := PRc.list _ _ _ e2
        refine PRc.of_list _ us _ _ k1 fun j v hv => ?_
        have := k2 j v hv
        rw [add_lit] at this ⊢
        have e3 : idx * d.length + (0 + (i - idx)) * d.length = i * d.length := by rw [← Nat.add_mul]; congr 1; omega
        rw [show i * d.length + (0 + j) = idx * d.length + ((0 + (i - idx)) * d.length + j) from by omega]
        exact this
      · exact ⟨new, T, h1, h2, h.heap', by rw [h.size]; exact h4, h.elem rfl hi h5⟩
    · simp [VR]
  · simp only [hq, if_false]
    exact hu.map h.ro rfl fun _ ho => ⟨ho, h.other hq ho⟩
theorem Ran.VR (h : Ran g w r n idx c cur new T) : ∀ (x : AV) (u : Value), VR g w x u → Abs.VR g (w.setRow (g.row r) new) (x.mapH (AV.setRunH r n idx c)) u :=
  VR.mapH h.ro h.sl (fun _ _ _ hu => by simpa [AV.setRunH, Abs.VR] using hu) h.ep (fun _ _ hu => by simpa [AV.setRunH, Abs.VR] using hu)
theorem Ran.VRs (h : Ran g w r n idx c cur new T) : ∀ (xs : List AV) (us : List Value), VRs g w xs us → Abs.VRs g (w.setRow (g.row r) new) (mapHL (AV.setRunH r n idx c) xs) us :=
  Abs.VRs.mapH h.ro h.sl (fun _ _ _ hu => by simpa [AV.setRunH, Abs.VR] using hu) h.ep (fun _ _ hu => by simpa [AV.setRunH, Abs.VR] using hu)
theorem R.setRun (hR : R C A N g st a w) (h : Ran g w r n idx c cur new T) : R C A N g (st.setRun r n idx c) a (w.setRow (g.row r) new) := by
  have hl : Lasts [r] [] g w g (w.setRow (g.row r) new) := ⟨fun b hb ho => ⟨ho, (h.ro b hb ho).2⟩, fun b q hb hq ho => ⟨ho, h.other (by simpa using hq) ho⟩, fun _ _ => rfl, fun _ _ => rfl⟩
  refine hR.mapH h.VR h.VRs (fun s hs => ⟨rfl, hs, setRow_other w _ _ new (fun e => by have := h.own; rw [← e, hs] at this; cases this)⟩) ?_
  exact hR.fr.step hl rfl ⟨rfl, by first | exact Nat.le_refl _ | exact Nat.le_succ _⟩ rfl (by simp) (fun b _ ho => ⟨ho, setRow_other w _ b new (fun e => by subst e; have := h.own; rw [ho] at this; cases this)⟩) (fun _ _ he => by cases he)
theorem R.setRow {c : List AV} (hR : R C A N g st a w) (h : Ran g w r c.length idx [c] cur new T) : R C A N g (st.setRow r idx c) a (w.setRow (g.row r) new) := by
  unfold St.setRow
  rw [setRow_run]
  exact hR.setRun h
theorem Ran.of_cells (ho : g.own (g.row r) = .row r) (hh : w.heap[g.row r]? = some (.cells cur T (0, 0))) {us : List Value} (hl : ∀ e ∈ c, e.length = n) (hu : us.length = c.length * n) (hfit : idx * n + us.length ≤ cur.size)
    (hp : PRl (isRo g) w c.flatten us) : Ran g w r n idx c cur (cur.toList.take (idx * n) ++ us ++ cur.toList.drop (idx * n + us.length)).toArray T := by
  generalize hnew : (cur.toList.take (idx * n) ++ us ++ cur.toList.drop (idx * n + us.length)).toArray = new
  have hcl : cur.toList.length = cur.size := by simp
  have hsz : new.size = cur.size := by
    rw [← hnew]
    simp only [List.size_toArray, List.length_append, List.length_take, List.length_drop, Array.length_toList]
    omega
  have hget : ∀ j v, us[j]? = some v → new[idx * n + j]? = some v := fun j v hj => by
    have hj' : j < us.length := by
      rcases Nat.lt_or_ge j us.length with h | h
      · exact h
      · rw [List.getElem?_eq_none h] at hj; cases hj
    rw [← hnew]
    rw [List.getElem?_toArray, List.append_assoc, List.getElem?_append_right (by simp; omega), List.length_take, Array.length_toList, Nat.min_eq_left (by omega), List.getElem?_append_left (by omega)]
    rw [show idx * n + j - idx * n = j from by omega]; exact hj
  refine ⟨ho, hh, hsz, fun p hp' => ?_, ?_⟩
  · rw [← hnew, List.getElem?_toArray, ← Array.getElem?_toList]
    rcases hp' with h | h
    · rw [List.append_assoc, List.getElem?_append_left (by simp only [List.length_take, Array.length_toList]; omega), List.getElem?_take, if_pos h]
    · rw [Nat.add_mul, ← hu] at h
      rw [List.append_assoc, List.getElem?_append_right (by simp only [List.length_take, Array.length_toList]; omega), List.length_take, Array.length_toList, Nat.min_eq_left (by omega), List.getElem?_append_right (by omega), List.getElem?_drop]
      congr 1
      simp only [List.size_toArray]
      omega
  · refine PRe.of_list c us _ _ 0 hl (PRl.mono (w := w) (fun b hb ho' => ⟨ho', setRow_other w _ b new (fun e => by subst e; rw [isRo_def, ho] at ho'; cases ho')⟩) hp) fun j v hj => ?_
    simp only [Nat.zero_mul, Nat.zero_add, add_lit]
    rw [cell_of_row _ _ _ _ _ _ (setRow_heap w _ cur new T _ hh)]
    exact hget j v hj
end
section
variable {C : Ctx} {A : A0} {N : Nat} {g g' : Gh} {st : St} {a : Act} {w w' : World} {P : Program}
variable {r idx : Nat} {c : List AV} {cur new : Array Value} {T : TypeId}
def storeA (n : Nat) (st : St) (p x : AV) : Option St :=
  match p with
  | .ptr s off => match lk s st.objs with
    | some cs => if okCells x.cells = true ∧ x.cells.length = n ∧ off + n ≤ cs.length then some ⟨st.tmps, upd s (cut cs off x.cells) st.objs⟩ else none
    | none => none
  | .ep (.own r _) i cells off => match pureL x.cells with
    | some ps => if okCells x.cells = true ∧ ps.length = n ∧ x.cells.length = n ∧ off + n ≤ cells.length ∧ r ∉ rowsOf x.cells then some ((st.freeze (rowsOf x.cells)).setRow r i (cut cells off ps)) else none
    | none => none
  | _ => none
theorem store_sound (hR : R C A N g st a w) {t n : Nat} (h2 : szOf P t = some n) {p x : AV} {up ux : Value} (hp : VR g w p up) (hx : VR g w x ux) {st' : St} (hs : storeA n st p x = some st') :
    ∃ w' g', (Instr.storeAt t up ux).run P w = .ok () w' ∧ R C A N g' st' a w' := by
  unfold storeA at hs
  split at hs
  · rename_i s off
    split at hs
    · rename_i cs hcs
      split at hs
      · rename_i hc
        simp only [Option.some.injEq] at hs
        subst hs
        simp only [VR] at hp
        obtain ⟨hmp, rfl⟩ := hp
        obtain ⟨w', h1, h2⟩ := hR.storeBox h2 hmp hcs hx hc.1 hc.2.1 hc.2.2
        exact ⟨w', g, h1, h2⟩
      · cases hs
    · cases hs
  · rename_i r l i cells off
    split at hs
    · rename_i ps hps
      split at hs
      · rename_i hc
        obtain ⟨hok, hpl, hxl, hle, hrn⟩ := hc
        simp only [Option.some.injEq] at hs
        subst hs
        have hxc := VR.cells hx hok
        have hR' := hR.freeze (rowsOf x.cells)
        have hpr := pure_PRl (S := rowsOf x.cells) hxc hps (fun r hr => hr) hok
        have hp' := VR.freeze (S := rowsOf x.cells) _ _ hp
        simp only [AV.freeze, AV.mapH, AV.freezeH, hrn, if_false, VR, EpAt] at hp'
        obtain ⟨cur, T, rfl, k2, k3, k4, k5⟩ := hp'
        have hul : ux.cells.size = n := by rw [← hxl, VRs.length hxc]; simp
        have hnlen : cells.length * i + cells.length ≤ cur.size := by rw [Nat.mul_comm]; simpa [Nat.add_mul] using k4
        have hrow : (Gh.freeze (rowsOf x.cells) g).row r = g.row r := rfl
        rw [hrow] at k2 k3 k5
        have hrun := run_storeVar (P := P) (w := w) (o := i * cells.length + off) h2 hul k3 (by rw [Nat.mul_comm]; omega) (okCells_one hok hxc)
        generalize hnew : (cur.toList.take (i * cells.length + off) ++ ux.cells.toList ++ cur.toList.drop (i * cells.length + off + n)).toArray = new at hrun
        have hcutl : (cut cells off ps).length = cells.length := by simp [cut, hpl]; omega
        have hget : ∀ p, new[p]? = if p < i * cells.length + off then cur[p]? else if p < i * cells.length + off + n then ux.cells[p - (i * cells.length + off)]? else cur[p]? := by
          intro p
          have hmul : i * cells.length + cells.length ≤ cur.size := by rw [Nat.mul_comm]; exact hnlen
          rw [← hnew]
          simp only [List.getElem?_toArray]
          rw [List.append_assoc, List.getElem?_append]
          simp only [List.length_take, Array.length_toList]
          rw [Nat.min_eq_left (by omega)]
          split
          · rename_i hlt; rw [List.getElem?_take, if_pos hlt]; simp
          · rename_i hge
            rw [List.getElem?_append]
            simp only [Array.length_toList, hul]
            by_cases hlt : p < i * cells.length + off + n
            · rw [if_pos (by omega), if_pos hlt]; simp
            · rw [if_neg (by omega), if_neg hlt, List.getElem?_drop]
              simp only [Array.getElem?_toList]
              congr 1; omega
        have hst : Ran (Gh.freeze (rowsOf x.cells) g) w r (cut cells off ps).length i [cut cells off ps] cur new T := by
          refine ⟨k2, k3, ?_, ?_, ?_⟩
          · rw [← hnew]
            have hmul : i * cells.length + cells.length ≤ cur.size := by rw [Nat.mul_comm]; exact hnlen
            simp only [List.size_toArray, List.length_append, List.length_take, List.length_drop, Array.length_toList, hul]
            omega
          · intro q hq
            simp only [List.length_cons, List.length_nil, hcutl, Nat.add_mul] at hq
            rw [hget]
            rcases hq with hq | hq
            · rw [if_pos (by omega)]
            · rw [if_neg (by omega), if_neg (by omega)]
          · have hro : ∀ b, b < w.heap.size → isRo (Gh.freeze (rowsOf x.cells) g) b → isRo (Gh.freeze (rowsOf x.cells) g) b ∧ (w.setRow (g.row r) new).heap[b]? = w.heap[b]? := fun b _ ho =>
              ⟨ho, setRow_other w _ b new (fun e => by rw [e] at ho; rw [ho] at k2; cases k2)⟩
            simp only [PRe, Nat.zero_mul, and_true, true_and]
            rw [hcutl, hrow]
            obtain ⟨us, m1, m2⟩ := PRc.list _ _ _ k5
            have hus : us.length = cells.length := (PRl.length m1).symm
            refine PRc.of_list _ (us.take off ++ ux.cells.toList ++ us.drop (off + n)) _ 0 ?_ ?_
            · unfold cut
              rw [hpl]
              exact PRl.append (PRl.append (PRl.mono hro (PRl.take off m1)) (PRl.mono hro hpr)) (PRl.mono hro (PRl.drop _ m1))
            · intro j v hv
              rw [add_lit, cell_of_row _ _ _ _ _ _ (setRow_heap w _ cur new T _ k3), hget]
              rw [List.append_assoc, List.getElem?_append] at hv
              simp only [List.length_take, hus] at hv
              rw [Nat.min_eq_left (by omega)] at hv
              have hcell : ∀ j v, us[j]? = some v → cur[i * cells.length + j]? = some v := fun j v hv => by
                have := m2 j v hv
                rw [add_lit, cell_of_row _ _ _ _ _ _ k3] at this
                simpa using this
              split at hv
              · rename_i hlt
                rw [List.getElem?_take, if_pos hlt] at hv
                rw [if_pos (by omega)]
                have := hcell j v hv
                simpa using this
              · rename_i hge
                rw [List.getElem?_append] at hv
                simp only [Array.length_toList, hul] at hv
                split at hv
                · rename_i hlt
                  rw [if_neg (by omega), if_pos (by omega)]
                  rw [show i * cells.length + (0 + j) - (i * cells.length + off) = j - off from by omega]
                  simpa using hv
                · rename_i hge2
                  rw [List.getElem?_drop] at hv
                  rw [if_neg (by omega), if_neg (by omega)]
                  have := hcell _ v hv
                  rw [show i * cells.length + (0 + j) = i * cells.length + (off + n + (j - off - n)) from by omega]
                  exact this
        exact ⟨_, _, by simpa [Instr.storeAt, Instr.sureAddr, Gh.freeze] using hrun, hR'.setRow hst⟩
      · cases hs
    · cases hs
  · cases hs
end
end Go.Abs
namespace Go.Abs
def intBin (op : BinOp) (k : IntKind) (a b : Int) : Option Value :=
  match op with
  | .add => some (.int k (k.wrap (a + b)))
  | .sub => some (.int k (k.wrap (a - b)))
  | .mul => some (.int k (k.wrap (a * b)))
  | .quo => if b = 0 then none else some (.int k (k.wrap (a.tdiv b)))
  | .rem => if b = 0 then none else some (.int k (a.tmod b))
  | .and => some (.int k (bits .and k a b))
  | .or => some (.int k (bits .or k a b))
  | .xor => some (.int k (bits .xor k a b))
  | .andNot => some (.int k (bits .andNot k a b))
  | .eql => some (.bool (a == b))
  | .neq => some (.bool (a != b))
  | .lss => some (.bool (decide (a < b)))
  | .leq => some (.bool (decide (a ≤ b)))
  | .gtr => some (.bool (decide (b < a)))
  | .geq => some (.bool (decide (b ≤ a)))
  | _ => none
def shiftBin (op : BinOp) (k : IntKind) (a b : Int) : Option Value :=
  match op with
  | .shl => if b < 0 then none else some (.int k (k.wrap (a * 2 ^ (min b.toNat k.bits))))
  | .shr => if b < 0 then none else some (.int k (a.fdiv (2 ^ (min b.toNat k.bits))))
  | _ => none
def strBin (op : BinOp) (a b : ByteArray) : Option Value :=
  match op with
  | .add => if a.size + b.size ≤ 9223372036854775807 then some (.string (a ++ b)) else none
  | .eql => some (.bool (a.toList == b.toList))
  | .neq => some (.bool !(a.toList == b.toList))
  | .lss => some (.bool (Op.bytesLess a.toList b.toList))
  | .leq => some (.bool (Op.bytesLess a.toList b.toList || a.toList == b.toList))
  | .gtr => some (.bool !(Op.bytesLess a.toList b.toList || a.toList == b.toList))
  | .geq => some (.bool !(Op.bytesLess a.toList b.toList))
  | _ => none
def eqVals : List Nat → List Value → List Value → Option Bool
  | [], [], [] => some true
  | 1 :: ks, .int k a :: xs, .int k' b :: ys => if k = k' then (eqVals ks xs ys).map fun r => (a == b) && r else none
  | 2 :: ks, .string a :: xs, .string b :: ys => (eqVals ks xs ys).map fun r => (a.toList == b.toList) && r
  | 0 :: ks, .bool a :: xs, .bool b :: ys => (eqVals ks xs ys).map fun r => (a == b) && r
  | _, _, _ => none
def valsOf : List AV → Option (List Value)
  | [] => some []
  | .v x :: cs => (valsOf cs).map (x :: ·)
  | _ => none
def plainFieldsW (P : Program) (f : TypeId → Option (List Nat)) : List Field → Nat → Option (List Nat)
  | [], _ => some []
  | x :: fs, off => if x.name = "_" ∨ x.offset ≠ off then none else match f x.type with
    | some ks => if szOf P x.type = some ks.length then (plainFieldsW P f fs (off + ks.length)).map (ks ++ ·) else none
    | none => none
def plainEq (P : Program) : Nat → TypeId → Option (List Nat)
  | 0, _ => none
  | d + 1, t => match P.underlying t with
    | some .bool => some [0]
    | some (.int _) => some [1]
    | some .string => some [2]
    | some (.struct fs) => if P.stoodInHeld t then none else plainFieldsW P (plainEq P d) fs.toList 0
    | _ => none
def plainFields (P : Program) (d : Nat) : List Field → Nat → Option (List Nat) := plainFieldsW P (plainEq P d)
def structEq (P : Program) (t : TypeId) : Option (List Nat) := if aggOf P t == some true && !(P.eqGuardType P.depth t) then plainEq P 20 t else none
def boolT (P : Program) (t : TypeId) : Bool := match P.underlying t with
  | some .bool => true
  | _ => false
def binA (P : Program) (op : BinOp) (t : TypeId) : AV → AV → Option AV
  | .v (.int k a), .v (.int k' b) => match op with
    | .shl => (shiftBin .shl k a b).map .v
    | .shr => (shiftBin .shr k a b).map .v
    | op => if k = k' then (intBin op k a b).map .v else none
  | .v (.string a), .v (.string b) => (strBin op a b).map .v
  | .v (.bool a), .v (.bool b) => if boolT P t then match op with
    | .eql => some (.v (.bool (a == b)))
    | .neq => some (.v (.bool (!(a == b))))
    | _ => none
    else none
  | .agg xs, .agg ys => match structEq P t, valsOf xs, valsOf ys with
    | some ks, some us, some vs => match op with
      | .eql => (eqVals ks us vs).map fun b => .v (.bool b)
      | .neq => (eqVals ks us vs).map fun b => .v (.bool (!b))
      | _ => none
    | _, _, _ => none
  | .v (.slice a _ _), .v (.slice none 0 0) => if isSliceT P t then match op with
    | .eql => some (.v (.bool a.isNone))
    | .neq => some (.v (.bool (!a.isNone)))
    | _ => none
    else none
  | .sl _ _ (_ :: _), .v (.slice none 0 0) => if isSliceT P t then match op with
    | .eql => some (.v (.bool false))
    | .neq => some (.v (.bool true))
    | _ => none
    else none
  | _, _ => none
def unA (op : UnOp) : AV → Option AV
  | .v (.bool b) => match op with
    | .not => some (.v (.bool (!b)))
    | _ => none
  | .v (.int k n) => match op with
    | .neg => some (.v (.int k (k.wrap (0 - n))))
    | .xor => some (.v (.int k (bits .xor k (if k.signed then -1 else k.max) n)))
    | _ => none
  | _ => none
section
variable {g : Gh} {w : World} {P : Program}
theorem intBin_sound {op : BinOp} {t : TypeId} {k : IntKind} {a b : Int} {v : Value} (h : intBin op k a b = some v) : (binOp op t (.int k a) (.int k b)).run P w = .ok v w := by
  cases op <;> simp only [intBin, reduceCtorEq] at h
  all_goals first
    | (split at h
       · cases h
       · rename_i hb
         simp only [Option.some.injEq] at h
         subst h
         simp [binOp, Op.intDiv, hb]
         done)
    | (simp only [Option.some.injEq] at h
       subst h
       simp [binOp, Op.intArith, Op.intCmp, Op.intBits, bits]
       done)
theorem shift_sound {op : BinOp} {t : TypeId} {k k' : IntKind} {a b : Int} {v : Value} (h : shiftBin op k a b = some v) : (binOp op t (.int k a) (.int k' b)).run P w = .ok v w := by
  unfold shiftBin at h
  split at h
  · split at h
    · cases h
    · rename_i hb
      simp only [Option.some.injEq] at h; subst h
      simp [binOp, Op.shift, hb]
  · split at h
    · cases h
    · rename_i hb
      simp only [Option.some.injEq] at h; subst h
      simp [binOp, Op.shift, hb]
  · cases h
theorem str_sound {op : BinOp} {t : TypeId} {a b : ByteArray} {v : Value} (h : strBin op a b = some v) : (binOp op t (.string a) (.string b)).run P w = .ok v w := by
  unfold strBin at h
  split at h
  · split at h
    · rename_i hb
      simp only [Option.some.injEq] at h; subst h
      have hb' : ¬ (9223372036854775807 < (a.size : Int) + (b.size : Int)) := by omega
      simp [binOp, Op.stringOp, hb']
    · cases h
  all_goals first
    | (simp only [Option.some.injEq] at h; subst h; simp [binOp, Op.stringOp]; done)
    | cases h
theorem eqVals_len : ∀ {ks : List Nat} {xs ys : List Value} {r : Bool}, eqVals ks xs ys = some r → xs.length = ks.length ∧ ys.length = ks.length := by
  intro ks xs ys
  induction ks, xs, ys using eqVals.induct with
  | case1 => simp
  | case2 ks k a xs b ys ih =>
    intro r h
    simp only [eqVals, if_true] at h
    obtain ⟨r0, h0, _⟩ := Option.map_eq_some_iff.1 h
    have := ih h0
    simp [this]
  | case3 ks k a xs k' b ys hk => intro r h; simp [eqVals, hk] at h
  | case4 ks a xs b ys ih =>
    intro r h
    simp only [eqVals] at h
    obtain ⟨r0, h0, _⟩ := Option.map_eq_some_iff.1 h
    have := ih h0
    simp [this]
  | case5 ks a xs b ys ih =>
    intro r h
    simp only [eqVals] at h
    obtain ⟨r0, h0, _⟩ := Option.map_eq_some_iff.1 h
    have := ih h0
    simp [this]
  | case6 ks xs ys h1 h2 h3 h4 =>
    intro r h
    rw [eqVals.eq_5 _ _ _ h1 h2 h3 h4] at h
    cases h
theorem eqVals_append : ∀ {ks ks' : List Nat} {xs ys xs' ys' : List Value} {r : Bool}, xs.length = ks.length → ys.length = ks.length → eqVals (ks ++ ks') (xs ++ xs') (ys ++ ys') = some r →
    ∃ r1 r2, eqVals ks xs ys = some r1 ∧ eqVals ks' xs' ys' = some r2 ∧ r = (r1 && r2)
  | [], ks', [], [], xs', ys', r, _, _, h => ⟨true, r, rfl, h, rfl⟩
  | [], _, _ :: _, _, _, _, _, h, _, _ => by simp at h
  | [], _, [], _ :: _, _, _, _, _, h, _ => by simp at h
  | _ :: _, _, [], _, _, _, _, h, _, _ => by simp at h
  | _ :: _, _, _ :: _, [], _, _, _, _, h, _ => by simp at h
  | k0 :: ks, ks', x :: xs, y :: ys, xs', ys', r, hl, hl', h => by
    simp only [List.length_cons, Nat.add_right_cancel_iff] at hl hl'
    simp only [List.cons_append] at h
    unfold eqVals at h
    split at h
    · rename_i h1 h2 h3; simp at h1
    · rename_i ks0 k a xs0 k' b ys0 h1 h2 h3
      simp only [List.cons.injEq] at h1 h2 h3
      obtain ⟨rfl, rfl⟩ := h1
      obtain ⟨rfl, rfl⟩ := h2
      obtain ⟨rfl, rfl⟩ := h3
      split at h
      · rename_i hk
        obtain ⟨r0, h0, rfl⟩ := Option.map_eq_some_iff.1 h
        obtain ⟨r1, r2, e1, e2, rfl⟩ := eqVals_append hl hl' h0
        exact ⟨(a == b) && r1, r2, by simp [eqVals, hk, e1], e2, by rw [Bool.and_assoc]⟩
      · cases h
    · rename_i ks0 a xs0 b ys0 h1 h2 h3
      simp only [List.cons.injEq] at h1 h2 h3
      obtain ⟨rfl, rfl⟩ := h1
      obtain ⟨rfl, rfl⟩ := h2
      obtain ⟨rfl, rfl⟩ := h3
      obtain ⟨r0, h0, rfl⟩ := Option.map_eq_some_iff.1 h
      obtain ⟨r1, r2, e1, e2, rfl⟩ := eqVals_append hl hl' h0
      exact ⟨(a.toList == b.toList) && r1, r2, by simp [eqVals, e1], e2, by rw [Bool.and_assoc]⟩
    · rename_i ks0 a xs0 b ys0 h1 h2 h3
      simp only [List.cons.injEq] at h1 h2 h3
      obtain ⟨rfl, rfl⟩ := h1
      obtain ⟨rfl, rfl⟩ := h2
      obtain ⟨rfl, rfl⟩ := h3
      obtain ⟨r0, h0, rfl⟩ := Option.map_eq_some_iff.1 h
      obtain ⟨r1, r2, e1, e2, rfl⟩ := eqVals_append hl hl' h0
      exact ⟨(a == b) && r1, r2, by simp [eqVals, e1], e2, by rw [Bool.and_assoc]⟩
    · cases h
def valOf (agg : Bool) (us : List Value) : Value := if agg then .agg us.toArray else us.headD undef
theorem run_part {t : TypeId} {agg : Bool} {n off : Nat} {us : List Value} (h1 : aggOf P t = some agg) (h2 : szOf P t = some n) (hn : agg = false → n = 1) (hl : off + n ≤ us.length) :
    (part t us.toArray off).run P w = .ok (valOf agg ((us.drop off).take n)) w := by
  unfold part
  rw [Sem.run_bind, run_isAgg h1]
  cases agg with
  | true =>
    simp only [Result.andThen_ok, if_true, Sem.run_bind, run_sizeOf h2, Sem.run_pure, valOf]
    congr 2
    apply Array.ext'
    simp [List.drop_take, Nat.add_sub_cancel_left]
  | false =>
    have := hn rfl
    subst this
    have hlt : off < us.length := by omega
    simp only [Result.andThen_ok, Bool.false_eq_true, if_false, List.getElem?_toArray, List.getElem?_eq_getElem hlt, Sem.run_pure, valOf]
    congr 1
    rw [List.drop_eq_getElem_cons hlt]
    rfl
theorem plain_one {d t : Nat} {ks : List Nat} (h : plainEq P d t = some ks) : ∃ agg, aggOf P t = some agg ∧ (agg = false → ks.length = 1) := by
  cases d with
  | zero => simp [plainEq] at h
  | succ d =>
    simp only [plainEq] at h
    split at h <;> rename_i hu <;> simp only [aggOf, hu, Option.map_some]
    · simp at h; subst h; exact ⟨false, rfl, fun _ => rfl⟩
    · simp at h; subst h; exact ⟨false, rfl, fun _ => rfl⟩
    · simp at h; subst h; exact ⟨false, rfl, fun _ => rfl⟩
    · exact ⟨true, rfl, fun h => by cases h⟩
    · cases h
theorem eqFields_sound {d D : Nat} (ih : ∀ (t : Nat) (ks : List Nat) (agg : Bool) (us vs : List Value) (r : Bool), plainEq P d t = some ks → aggOf P t = some agg → eqVals ks us vs = some r → (Op.equalIn D t (valOf agg us) (valOf agg vs)).run P w = .ok r w) :
    ∀ (fs : List Field) (off : Nat) (ks : List Nat), plainFields P d fs off = some ks → ∀ (us vs : List Value) (r : Bool), off ≤ us.length → off ≤ vs.length → eqVals ks (us.drop off) (vs.drop off) = some r → (Op.eqFields D us.toArray vs.toArray fs).run P w = .ok r w
  | [], off, ks, h, us, vs, r, hu, hv, hr => by
    simp only [plainFields, plainFieldsW, Option.some.injEq] at h
    subst h
    have hl := eqVals_len hr
    have e1 : us.drop off = [] := List.eq_nil_of_length_eq_zero (by simpa using hl.1)
    have e2 : vs.drop off = [] := List.eq_nil_of_length_eq_zero (by simpa using hl.2)
    rw [e1, e2] at hr
    simp only [eqVals, Option.some.injEq] at hr
    subst hr
    simp [Op.eqFields]
  | f :: fs, off, ks, h, us, vs, r, hu, hv, hr => by
    simp only [plainFields, plainFieldsW] at h
    split at h
    · cases h
    · rename_i hc
      have hc1 : f.name ≠ "_" := fun e => hc (.inl e)
      have hc2 : f.offset = off := Classical.byContradiction fun e => hc (.inr e)
      split at h
      · rename_i k1 hn
        split at h
        · rename_i hs
          obtain ⟨k2, hk2, rfl⟩ := Option.map_eq_some_iff.1 h
          obtain ⟨agg, hagg, hone⟩ := plain_one hn
          have hl := eqVals_len hr
          simp only [List.length_drop, List.length_append] at hl
          have e1 : us.drop off = (us.drop off).take k1.length ++ us.drop (off + k1.length) := by rw [← List.drop_drop, List.take_append_drop]
          have e2 : vs.drop off = (vs.drop off).take k1.length ++ vs.drop (off + k1.length) := by rw [← List.drop_drop, List.take_append_drop]
          rw [e1, e2] at hr
          obtain ⟨r1, r2, m1, m2, rfl⟩ := eqVals_append (by simp; omega) (by simp; omega) hr
          have p1 := run_part (w := w) (us := us) (off := off) hagg hs hone (by omega)
          have p2 := run_part (w := w) (us := vs) (off := off) hagg hs hone (by omega)
          have q := ih f.type k1 agg _ _ r1 hn hagg m1
          have rest := eqFields_sound ih fs (off + k1.length) k2 hk2 us vs r2 (by omega) (by omega) m2
          simp only [Op.eqFields, ne_eq, hc1, not_false_eq_true, if_true, hc2, Sem.run_bind, p1, p2, q, Result.andThen_ok]
          cases r1
          · simp
          · simp [rest]
        · cases h
      · cases h
theorem eq_bool {us vs : List Value} {r : Bool} (h : eqVals [0] us vs = some r) : ∃ a b, us = [.bool a] ∧ vs = [.bool b] ∧ r = (a == b) := by
  have hl := eqVals_len h
  match us, vs, hl, h with
  | [u], [v], _, h =>
    unfold eqVals at h
    split at h <;> simp_all [eqVals]
theorem eq_int {us vs : List Value} {r : Bool} (h : eqVals [1] us vs = some r) : ∃ k a b, us = [.int k a] ∧ vs = [.int k b] ∧ r = (a == b) := by
  have hl := eqVals_len h
  match us, vs, hl, h with
  | [u], [v], _, h =>
    unfold eqVals at h
    split at h <;> simp_all [eqVals]
    exact ⟨_, _, ⟨rfl, rfl⟩, _, ⟨rfl, rfl⟩, h.2.symm⟩
theorem eq_string {us vs : List Value} {r : Bool} (h : eqVals [2] us vs = some r) : ∃ a b, us = [.string a] ∧ vs = [.string b] ∧ r = (a.toList == b.toList) := by
  have hl := eqVals_len h
  match us, vs, hl, h with
  | [u], [v], _, h =>
    unfold eqVals at h
    split at h <;> simp_all [eqVals]
theorem equalIn_plain : ∀ (d D t : Nat) (ks : List Nat) (agg : Bool) (us vs : List Value) (r : Bool), d ≤ D → plainEq P d t = some ks → aggOf P t = some agg → eqVals ks us vs = some r → (Op.equalIn D t (valOf agg us) (valOf agg vs)).run P w = .ok r w
  | 0, _, _, _, _, _, _, _, _, h, _, _ => by simp [plainEq] at h
  | d + 1, 0, _, _, _, _, _, _, hd, _, _, _ => by omega
  | d + 1, D + 1, t, ks, agg, us, vs, r, hd, h, ha, hr => by
    simp only [plainEq] at h
    split at h <;> rename_i hd' <;> simp only [aggOf, hd', Option.map_some, Option.some.injEq] at ha
    · subst ha; simp at h; subst h
      obtain ⟨a, b, rfl, rfl, rfl⟩ := eq_bool hr
      simp [valOf, Op.equalIn, run_underlying hd']
    · subst ha; simp at h; subst h
      obtain ⟨k, a, b, rfl, rfl, rfl⟩ := eq_int hr
      simp [valOf, Op.equalIn, run_underlying hd']
    · subst ha; simp at h; subst h
      obtain ⟨a, b, rfl, rfl, rfl⟩ := eq_string hr
      simp [valOf, Op.equalIn, run_underlying hd', beq_toListBytes]
    · rename_i fs
      subst ha
      split at h
      · cases h
      · rename_i hs
        have hfs : P.fieldsOf t = fs := by simp only [Program.fieldsOf, hd']
        have hfo : P.underlying t = some (.struct (P.fieldsOf t)) := by rw [hfs]; exact hd'
        simp only [valOf, if_true]
        rw [run_equalIn_struct w D t _ _ hfo (by simpa using hs), hfs]
        exact eqFields_sound (fun t ks agg us vs r k1 k2 k3 => equalIn_plain d D t ks agg us vs r (by omega) k1 k2 k3) _ 0 ks h us vs r (Nat.zero_le _) (Nat.zero_le _) (by simpa using hr)
    · cases h
theorem valsOf_VRs : ∀ {cs : List AV} {xs us : List Value}, valsOf cs = some xs → VRs g w cs us → us = xs
  | [], xs, [], h, _ => by simp [valsOf] at h; exact h.symm
  | [], _, _ :: _, _, h => by simp [VRs] at h
  | .v x :: cs, xs, [], _, h => by simp [VRs] at h
  | .v x :: cs, xs, u :: us, h, hv => by
    simp only [valsOf] at h
    obtain ⟨ys, h1, rfl⟩ := Option.map_eq_some_iff.1 h
    simp only [VRs, VR] at hv
    rw [hv.1, valsOf_VRs h1 hv.2]
  | .undef :: _, _, _, h, _ => by simp [valsOf] at h
  | .agg _ :: _, _, _, h, _ => by simp [valsOf] at h
  | .tup _ :: _, _, _, h, _ => by simp [valsOf] at h
  | .sl _ _ _ :: _, _, _, h, _ => by simp [valsOf] at h
  | .ptr _ _ :: _, _, _, h, _ => by simp [valsOf] at h
  | .ep _ _ _ _ :: _, _, _, h, _ => by simp [valsOf] at h
  | .fn _ _ :: _, _, _, h, _ => by simp [valsOf] at h
  | .mv _ _ :: _, _, _, h, _ => by simp [valsOf] at h
  | .mp _ :: _, _, _, h, _ => by simp [valsOf] at h
  | .ifc _ _ :: _, _, _, h, _ => by simp [valsOf] at h
  | .mem _ _ :: _, _, _, h, _ => by simp [valsOf] at h
theorem run_equalIn_nil (w : World) (D t : Nat) {e : Nat} (he : P.underlying t = some (.slice e)) (a : Option Addr) (n c : Nat) : (Op.equalIn (D + 1) t (.slice a n c) (.slice none 0 0)).run P w = .ok a.isNone w := by
  cases a <;> simp [Op.equalIn, run_underlying he]
theorem bin_sound {op : BinOp} {t : TypeId} {p q : Operand} {x y z : AV} {ux uy : Value} (hx : VR g w x ux) (hy : VR g w y uy) (h : binA P op t x y = some z) :
    ∃ u, (do eqGuard op t p q ux uy; binOp op t ux uy : Sem Value).run P w = .ok u w ∧ VR g w z u := by
  unfold binA at h
  split at h
  · rename_i k a k' b
    simp only [VR] at hx hy
    subst hx; subst hy
    have hg : eqGuard op t p q (.int k a) (.int k' b) = pure () := by cases op <;> rfl
    rw [hg]
    simp only [Sem.run_bind, Sem.run_pure, Result.andThen_ok]
    split at h
    · obtain ⟨v, h1, rfl⟩ := Option.map_eq_some_iff.1 h
      exact ⟨v, shift_sound h1, by simp [VR]⟩
    · obtain ⟨v, h1, rfl⟩ := Option.map_eq_some_iff.1 h
      exact ⟨v, shift_sound h1, by simp [VR]⟩
    · split at h
      · rename_i hk
        subst hk
        obtain ⟨v, h1, rfl⟩ := Option.map_eq_some_iff.1 h
        exact ⟨v, intBin_sound h1, by simp [VR]⟩
      · cases h
  · rename_i a b
    simp only [VR] at hx hy
    subst hx; subst hy
    have hg : eqGuard op t p q (.string a) (.string b) = pure () := by cases op <;> rfl
    rw [hg]
    simp only [Sem.run_bind, Sem.run_pure, Result.andThen_ok]
    obtain ⟨v, h1, rfl⟩ := Option.map_eq_some_iff.1 h
    exact ⟨v, str_sound h1, by simp [VR]⟩
  · rename_i a b
    simp only [VR] at hx hy
    subst hx; subst hy
    have hg : eqGuard op t p q (.bool a) (.bool b) = pure () := by cases op <;> rfl
    rw [hg]
    simp only [Sem.run_bind, Sem.run_pure, Result.andThen_ok]
    split at h
    · rename_i ht
      have hu : P.underlying t = some .bool := by
        unfold boolT at ht
        split at ht
        · assumption
        · cases ht
      split at h
      · simp only [Option.some.injEq] at h; subst h
        refine ⟨.bool (a == b), ?_, by simp [VR]⟩
        have e : binOp .eql t (.bool a) (.bool b) = (do pure (.bool (← Op.equal t (.bool a) (.bool b)))) := rfl
        rw [e, Sem.run_bind]
        simp only [Op.equal, Op.maxDepth, run_equalIn_bool' w 9999 t a b hu, Result.andThen_ok, Sem.run_pure]
      · simp only [Option.some.injEq] at h; subst h
        refine ⟨.bool (!(a == b)), ?_, by simp [VR]⟩
        have e : binOp .neq t (.bool a) (.bool b) = (do pure (.bool (!(← Op.equal t (.bool a) (.bool b))))) := rfl
        rw [e, Sem.run_bind]
        simp only [Op.equal, Op.maxDepth, run_equalIn_bool' w 9999 t a b hu, Result.andThen_ok, Sem.run_pure]
      · cases h
    · cases h
  · rename_i xs ys
    simp only [VR] at hx hy
    obtain ⟨us, rfl, hx⟩ := hx
    obtain ⟨vs, rfl, hy⟩ := hy
    split at h
    · rename_i ks us' vs' hks hus hvs
      have e1 := valsOf_VRs hus hx
      have e2 := valsOf_VRs hvs hy
      unfold structEq at hks
      split at hks
      · rename_i hc
        simp only [Bool.and_eq_true, beq_iff_eq, Bool.not_eq_true'] at hc
        have hg := run_eqGuard_agg (P := P) w op t p q us vs hc.2
        rw [Sem.run_bind, hg]
        simp only [Result.andThen_ok]
        have key : ∀ r, eqVals ks us' vs' = some r → (Op.equalIn 10000 t (.agg us) (.agg vs)).run P w = .ok r w := fun r hr => by
          have := equalIn_plain (w := w) 20 10000 t ks true us' vs' r (by omega) hks hc.1 hr
          simp only [valOf, if_true] at this
          rw [← e1, ← e2] at this
          exact this
        split at h
        · obtain ⟨r, hr, rfl⟩ := Option.map_eq_some_iff.1 h
          refine ⟨.bool r, ?_, by simp [VR]⟩
          rw [run_eql_struct, key r hr]; rfl
        · obtain ⟨r, hr, rfl⟩ := Option.map_eq_some_iff.1 h
          refine ⟨.bool (!r), ?_, by simp [VR]⟩
          rw [run_neq_struct, key r hr]; rfl
        · cases h
      · cases hks
    · cases h
  · rename_i a n c
    simp only [VR] at hx hy
    subst hx; subst hy
    have hg : eqGuard op t p q (.slice a n c) (.slice none 0 0) = pure () := by cases op <;> rfl
    rw [hg]
    simp only [Sem.run_bind, Sem.run_pure, Result.andThen_ok]
    split at h
    · rename_i hs
      unfold isSliceT at hs
      split at hs
      · rename_i e he
        have key : (Op.equal t (.slice a n c) (.slice none 0 0)).run P w = .ok a.isNone w := by
          simp only [Op.equal, Op.maxDepth, run_equalIn_nil w 9999 t he]
        split at h
        · simp only [Option.some.injEq] at h; subst h
          refine ⟨.bool a.isNone, ?_, by simp [VR]⟩
          have e : binOp .eql t (.slice a n c) (.slice none 0 0) = (do pure (.bool (← Op.equal t (.slice a n c) (.slice none 0 0)))) := rfl
          rw [e, Sem.run_bind, key]; rfl
        · simp only [Option.some.injEq] at h; subst h
          refine ⟨.bool (!a.isNone), ?_, by simp [VR]⟩
          have e : binOp .neq t (.slice a n c) (.slice none 0 0) = (do pure (.bool (!(← Op.equal t (.slice a n c) (.slice none 0 0))))) := rfl
          rw [e, Sem.run_bind, key]; rfl
        · cases h
      · cases hs
    · cases h
  · rename_i tg m e0 es
    have hux : ∃ ad k c, ux = .slice (some ad) k c := by
      by_cases ho : ∃ r lo, tg = .own r lo
      · obtain ⟨r, lo, rfl⟩ := ho
        simp only [VR, OwnSl] at hx
        obtain ⟨_, ⟨_, h⟩ | ⟨_, h, _⟩ | ⟨cap, cur, T, rfl, _⟩⟩ := hx
        · cases h
        · cases h
        · exact ⟨_, _, _, rfl⟩
      · have hp : PR (isRo g) w (.sl tg m (e0 :: es)) ux := by
          cases tg with
          | own r lo => exact absurd ⟨r, lo, rfl⟩ ho
          | no => simpa [VR] using hx
          | full => simpa [VR] using hx
        simp only [PR] at hp
        obtain ⟨_, a', cap, rfl, h2, h3, h4, h5, h | ⟨ad, rfl, _⟩⟩ := hp
        · cases h
        · exact ⟨_, _, _, rfl⟩
    obtain ⟨ad, n, c, rfl⟩ := hux
    simp only [VR] at hy
    subst hy
    have hg : eqGuard op t p q (.slice (some ad) n c) (.slice none 0 0) = pure () := by cases op <;> rfl
    rw [hg]
    simp only [Sem.run_bind, Sem.run_pure, Result.andThen_ok]
    split at h
    · rename_i hs
      unfold isSliceT at hs
      split at hs
      · rename_i e he
        have key : (Op.equal t (.slice (some ad) n c) (.slice none 0 0)).run P w = .ok false w := by
          simp only [Op.equal, Op.maxDepth, run_equalIn_nil w 9999 t he, Option.isNone_some]
        split at h
        · simp only [Option.some.injEq] at h; subst h
          refine ⟨.bool false, ?_, by simp [VR]⟩
          have e : binOp .eql t (.slice (some ad) n c) (.slice none 0 0) = (do pure (.bool (← Op.equal t (.slice (some ad) n c) (.slice none 0 0)))) := rfl
          rw [e, Sem.run_bind, key]; rfl
        · simp only [Option.some.injEq] at h; subst h
          refine ⟨.bool true, ?_, by simp [VR]⟩
          have e : binOp .neq t (.slice (some ad) n c) (.slice none 0 0) = (do pure (.bool (!(← Op.equal t (.slice (some ad) n c) (.slice none 0 0))))) := rfl
          rw [e, Sem.run_bind, key]; rfl
        · cases h
      · cases hs
    · cases h
  · cases h
theorem un_sound {op : UnOp} {x z : AV} {ux : Value} (hx : VR g w x ux) (h : unA op x = some z) : ∃ u, (Op.unary op ux).run P w = .ok u w ∧ VR g w z u := by
  unfold unA at h
  split at h
  · simp only [VR] at hx; subst hx
    split at h
    · simp only [Option.some.injEq] at h; subst h
      exact ⟨_, by simp [Op.unary]; rfl, by simp [VR]⟩
    · cases h
  · simp only [VR] at hx; subst hx
    split at h
    · simp only [Option.some.injEq] at h; subst h
      exact ⟨_, by simp [Op.unary, Op.intArith]; rfl, by simp [VR]⟩
    · simp only [Option.some.injEq] at h; subst h
      exact ⟨_, by simp [Op.unary, Op.intBits, bits]; rfl, by simp [VR, bits]⟩
    · cases h
  · cases h
end
end Go.Abs
namespace Go.Abs
def copyA (P : Program) (t : TypeId) (st : St) (x y : AV) : Option (AV × St) := match rowInf P t with
  | some (_, n, _) => match elems n y with
    | some fs => match x with
      | .sl (.own r lo) m es => if m = n then some (.v (.int .i64 (min fs.length es.length : Nat)), st.setRun r n lo (fs.take es.length)) else none
      | .v (.slice none 0 0) => some (.v (.int .i64 0), st)
      | _ => none
    | none => none
  | none => none
def clearA (P : Program) (t : TypeId) (st : St) (x : AV) : Option (AV × St) := match rowInf P t with
  | some (e, n, _) => match zeroOf P e with
    | some zs => if okCells (vals zs) = true then match x with
      | .sl (.own r lo) m es => if m = n then some (.tup [], st.setRun r n lo (List.replicate es.length (vals zs))) else none
      | .v (.slice none 0 0) => some (.tup [], st)
      | _ => none
      else none
    | none => none
  | none => none
def capA (P : Program) (t : TypeId) : AV → Option AV
  | .v (.slice _ _ c) => if isSliceT P t = true then some (.v (.int .i64 c)) else none
  | _ => none
def isI64 (P : Program) (t : TypeId) : Bool := match P.underlying t with
  | some (.int .i64) => true
  | _ => false
theorem isI64_spec {P : Program} {t : TypeId} (h : isI64 P t = true) : P.underlying t = some (.int .i64) := by
  unfold isI64 at h; split at h <;> simp_all
def appendNA (P : Program) (k n : Nat) (t2 : TypeId) (zs : List Value) (st : St) (x y : AV) : Option (AV × St) := match x, y with
  | .v (.slice none 0 0), .v (.int .i64 m) => if 0 ≤ m ∧ m ≤ 4294967296 ∧ okCells (vals zs) = true ∧ isI64 P t2 = true then some (.sl (.own k 0) n (List.replicate m.toNat (vals zs)), st.kill [k] []) else none
  | _, _ => none
section
variable {C : Ctx} {A : A0} {N : Nat} {g g' : Gh} {st : St} {a : Act} {w w' : World} {P : Program}
theorem over_nil (lo idx : Nat) (es : List (List AV)) : over lo idx [] es = es := by
  refine List.ext_getElem? fun i => ?_
  simp only [over, List.getElem?_mapIdx, List.getElem?_nil, Option.getD_none]
  cases es[i]? <;> simp
theorem R.setRun0 (hR : R C A N g st a w) (r n idx : Nat) : R C A N g (st.setRun r n idx []) a w := by
  have h1 : ∀ q lo m es u, OwnSl g w q lo m es u → VR g w (AV.setRunH r n idx [] (.sl (.own q lo) m es)) u := fun q lo m es u hu => by
    simp only [AV.setRunH, over_nil]
    split
    · split
      · simpa only [VR] using hu
      · simp [VR]
    · simpa only [VR] using hu
  have h3 : ∀ q l i d off u, EpAt g w (.own q l) i d off u → VR g w (AV.setRunH r n idx [] (.ep (.own q l) i d off)) u := fun q l i d off u hu => by
    simp only [AV.setRunH, List.getElem?_nil, Option.getD_none, ite_self]
    split
    · split
      · simpa only [VR] using hu
      · simp [VR]
    · simpa only [VR] using hu
  have hro : ∀ b, b < w.heap.size → isRo g b → isRo g b ∧ w.heap[b]? = w.heap[b]? := fun _ _ h => ⟨h, rfl⟩
  exact hR.mapH (VR.mapH hro h1 (fun _ _ _ hu => hu) h3 (fun _ _ hu => hu)) (VRs.mapH hro h1 (fun _ _ _ hu => hu) h3 (fun _ _ hu => hu)) (fun _ h => ⟨rfl, h, rfl⟩) hR.fr
theorem flatten_take {n : Nat} : ∀ (fs : List (List AV)) (k : Nat), (∀ e ∈ fs, e.length = n) → (fs.take k).flatten = fs.flatten.take ((fs.take k).length * n)
  | [], k, _ => by simp
  | e :: fs, 0, _ => by simp
  | e :: fs, k + 1, h => by
    have he := h e (by simp)
    have ih := flatten_take fs k (fun e' h' => h e' (by simp [h']))
    rw [List.take_succ_cons, List.flatten_cons, List.flatten_cons, List.length_cons, ih]
    rw [Nat.add_mul, Nat.one_mul, ← he, Nat.add_comm, List.take_length_add_append]
theorem copy_sound (hR : R C A N g st a w) {t ty : Nat} {ts : Array TypeId} {x y z : AV} {ux uy : Value} (hts : ts[0]? = some t) (hx : VR g w x ux) (hy : VR g w y uy) {st' : St} (ha : copyA P t st x y = some (z, st')) :
    ∃ u w' g', (Builtin.copy_ ts ty #[ux, uy]).run P w = .ok u w' ∧ R C A N g' st' a w' ∧ VR g' w' z u := by
  unfold copyA at ha
  split at ha
  · rename_i e n b ht
    obtain ⟨hu, i, zv, hi, hz, hzs, hsz, hby, hn, hb⟩ := rowInf_spec ht
    subst hsz
    split at ha
    · rename_i fs hfs
      obtain ⟨us, su, pu, lu⟩ := elems_src hn hfs hy
      have hlenOf : (Builtin.lenOf uy).run P w = .ok fs.length w := by
        rcases su.2 with ⟨a', c, rfl, _⟩ | ⟨h0, c, rfl⟩
        · simp [Builtin.lenOf]
        · simp [Builtin.lenOf, h0]
      have hfc : ∀ k, k ≤ fs.length → (Builtin.firstCells i.size k uy).run P w = .ok (us.take (k * i.size)).toArray w := fun k hk => by
        rcases su.2 with ⟨a', c, rfl, hc⟩ | ⟨h0, c, rfl⟩
        · refine run_firstCells_some (P := P) w i.size k a' _ c _ ?_ fun j v hj => hc j v ?_
          · rw [List.length_take, su.1, Nat.min_eq_left (Nat.mul_le_mul_right _ hk)]
          · rw [List.getElem?_take] at hj
            split at hj
            · exact hj
            · cases hj
        · have : us = [] := List.eq_nil_of_length_eq_zero (by rw [su.1, h0]; simp)
          subst this
          simp [Builtin.firstCells]
      have hmin : Nat.min fs.length = fun k => min fs.length k := rfl
      split at ha
      · rename_i r lo m es
        split at ha
        · rename_i hm
          subst hm
          simp only [Option.some.injEq, Prod.mk.injEq] at ha
          obtain ⟨rfl, rfl⟩ := ha
          have hfc' := hfc (min fs.length es.length) (Nat.min_le_left _ _)
          simp only [VR, OwnSl] at hx
          obtain ⟨_, ⟨rfl, rfl⟩ | ⟨_, rfl, a', cap, rfl, _⟩ | ⟨cap, cur, T, rfl, h2, h3, h5, h6, h7, h8⟩⟩ := hx
          · refine ⟨.int .i64 ((min fs.length ([] : List (List AV)).length : Nat) : Int), w, g, ?_, hR.setRun0 _ _ _, by simp only [VR]⟩
            simp only [List.length_nil, Nat.min_zero, Nat.zero_mul, List.take_zero] at hfc'
            simp [Builtin.copy_, hts, run_underlying hu, hlenOf, run_sizeOf, sizeOf, typeInfo, hi, hmin, hfc', goInt]
          · refine ⟨.int .i64 ((min fs.length ([] : List (List AV)).length : Nat) : Int), w, g, ?_, hR.setRun0 _ _ _, by simp only [VR]⟩
            simp only [List.length_nil, Nat.min_zero, Nat.zero_mul, List.take_zero] at hfc'
            cases a' <;> simp [Builtin.copy_, hts, run_underlying hu, hlenOf, run_sizeOf, sizeOf, typeInfo, hi, hmin, hfc', goInt, storeCells]
          · have hl : (us.take (min fs.length es.length * i.size)).length = min fs.length es.length * i.size := by
              rw [List.length_take, su.1, Nat.min_eq_left (Nat.mul_le_mul_right _ (Nat.min_le_left _ _))]
            have htl : (fs.take es.length).length = min fs.length es.length := by rw [List.length_take, Nat.min_comm]
            have hfit : lo * i.size + min fs.length es.length * i.size ≤ cur.size := by
              rw [← Nat.add_mul]
              exact Nat.le_trans (Nat.mul_le_mul_right _ (by have := Nat.min_le_right fs.length es.length; omega)) h7
            have hpl : PRl (isRo g) w (fs.take es.length).flatten (us.take (min fs.length es.length * i.size)) := by
              rw [flatten_take fs _ lu, htl]
              exact PRl.take _ pu
            have hst := run_storeCells_at P (g.row r) (lo * i.size) T (us.take (min fs.length es.length * i.size)) 0 cur w h6 (by rw [hl]; simpa using hfit) (PRl.one hpl)
            have hran := Ran.of_cells (n := i.size) (idx := lo) (c := fs.take es.length) h5 h6 (us := us.take (min fs.length es.length * i.size)) (fun e he => lu e (List.mem_of_mem_take he)) (by rw [hl, htl]) (by rw [hl]; exact hfit) hpl
            simp only [Nat.add_zero] at hst
            refine ⟨.int .i64 ((min fs.length es.length : Nat) : Int), _, g, ?_, hR.setRun hran, by simp only [VR]⟩
            simp [Builtin.copy_, hts, run_underlying hu, hlenOf, sizeOf, typeInfo, hi, hmin, hfc', goInt, hst]
        · cases ha
      · simp only [Option.some.injEq, Prod.mk.injEq] at ha
        obtain ⟨rfl, rfl⟩ := ha
        simp only [VR] at hx
        subst hx
        have hfc' := hfc 0 (Nat.zero_le _)
        refine ⟨.int .i64 0, w, g, ?_, hR, by simp only [VR]⟩
        simp only [Nat.zero_mul, List.take_zero] at hfc'
        simp [Builtin.copy_, hts, run_underlying hu, hlenOf, sizeOf, typeInfo, hi, hmin, hfc', goInt]
      · cases ha
    · cases ha
  · cases ha
theorem zeroCells_toList (z : Value) (n : Nat) (h : 0 < z.cells.size) : (Builtin.zeroCells z.cells n).toList = (List.replicate n z.cells.toList).flatten := by
  apply List.ext_getElem?
  intro j
  cases hj : (List.replicate n z.cells.toList).flatten[j]? with
  | none =>
    have := List.getElem?_eq_none_iff.1 hj
    simp [List.length_flatten, Builtin.zeroCells] at this ⊢
    rw [Nat.mul_comm]
    simpa [Nat.mul_comm] using this
  | some v =>
    obtain ⟨h1, h2⟩ := flatten_replicate_get _ _ _ _ hj
    simp only [Array.length_toList, Array.getElem?_toList] at h1 h2
    simp only [Builtin.zeroCells, Array.getElem?_toList, Array.getElem?_map, Array.getElem?_range, if_pos h2, Option.map_some]
    rw [getElem!_def, h1]
theorem run_clear {t ty e : Nat} {i : TypeInfo} {zv : Value} (hu : P.underlying t = some (.slice e)) (hi : P.info? e = some i) (hz : i.zero = some zv) {ts : Array TypeId} (hts : ts[0]? = some t) {ad : Addr} {n cap : Nat} (hn : 0 < n)
    (hst : (storeCells ad (Builtin.zeroCells zv.cells n).toList).run P w = .ok () w') : (Builtin.clear_ ts ty #[.slice (some ad) n cap]).run P w = .ok (.tuple #[]) w' := by
  obtain ⟨q, rfl⟩ : ∃ q, n = q + 1 := ⟨n - 1, by omega⟩
  simp [Builtin.clear_, hts, run_underlying hu, zeroValue, typeInfo, hi, hz, hst]
theorem clear_sound (hR : R C A N g st a w) {t ty : Nat} {ts : Array TypeId} {x z : AV} {ux : Value} (hts : ts[0]? = some t) (hx : VR g w x ux) {st' : St} (ha : clearA P t st x = some (z, st')) :
    ∃ u w' g', (Builtin.clear_ ts ty #[ux]).run P w = .ok u w' ∧ R C A N g' st' a w' ∧ VR g' w' z u := by
  unfold clearA at ha
  split at ha
  · rename_i e n b ht
    obtain ⟨hu, i, zv, hi, hz, hzs, hsz, hby, hn, hb⟩ := rowInf_spec ht
    subst hsz
    have hunit : ∀ g w, VR g w (.tup []) (.tuple #[]) := fun g w => by simp only [VR]; exact ⟨#[], rfl, by simp [VRs]⟩
    split at ha
    · rename_i zs hzo
      have hzz := zeroOf_spec hzo hi hz
      split at ha
      · rename_i hok
        split at ha
        · rename_i r lo m es
          split at ha
          · rename_i hm
            subst hm
            simp only [Option.some.injEq, Prod.mk.injEq] at ha
            obtain ⟨rfl, rfl⟩ := ha
            simp only [VR, OwnSl] at hx
            obtain ⟨_, ⟨rfl, rfl⟩ | ⟨_, rfl, a', cap, rfl, _⟩ | ⟨cap, cur, T, rfl, h2, h3, h5, h6, h7, h8⟩⟩ := hx
            · refine ⟨_, w, g, ?_, hR.setRun0 _ _ _, hunit _ _⟩
              simp [Builtin.clear_, hts, run_underlying hu]
            · refine ⟨_, w, g, ?_, hR.setRun0 _ _ _, hunit _ _⟩
              cases a' <;> simp [Builtin.clear_, hts, run_underlying hu]
            · by_cases h0 : es.length = 0
              · have : es = [] := List.eq_nil_of_length_eq_zero h0
                subst this
                refine ⟨_, w, g, ?_, hR.setRun0 _ _ _, hunit _ _⟩
                simp [Builtin.clear_, hts, run_underlying hu]
              have hzl : zs.length = i.size := by rw [hzz]; simpa using hzs
              have hl : ((List.replicate es.length zs).flatten).length = es.length * i.size := by simp [List.length_flatten, hzl]
              have hpl : PRl (isRo g) w (List.replicate es.length (vals zs)).flatten (List.replicate es.length zs).flatten := PRl_replicate (PRl_vals zs hok) _
              have hfit : lo * i.size + es.length * i.size ≤ cur.size := by
                rw [← Nat.add_mul]
                exact Nat.le_trans (Nat.mul_le_mul_right _ (by omega)) h7
              have hst := run_storeCells_at P (g.row r) (lo * i.size) T (List.replicate es.length zs).flatten 0 cur w h6 (by rw [hl]; simpa using hfit) (PRl.one hpl)
              have hran := Ran.of_cells (n := i.size) (idx := lo) (c := List.replicate es.length (vals zs)) h5 h6 (us := (List.replicate es.length zs).flatten) (fun e he => by rw [List.eq_of_mem_replicate he]; simp [vals, hzl]) (by rw [hl]; simp) (by rw [hl]; exact hfit) hpl
              simp only [Nat.add_zero] at hst
              have hzc := zeroCells_toList zv es.length (by rw [hzs]; exact hn)
              rw [← hzz] at hzc
              rw [← hzc] at hst
              refine ⟨_, _, g, run_clear hu hi hz hts (by omega) hst, ?_, hunit _ _⟩
              rw [hzc]
              exact hR.setRun hran
          · cases ha
        · simp only [Option.some.injEq, Prod.mk.injEq] at ha
          obtain ⟨rfl, rfl⟩ := ha
          simp only [VR] at hx
          subst hx
          exact ⟨_, w, g, by simp [Builtin.clear_, hts, run_underlying hu], hR, hunit _ _⟩
        · cases ha
      · cases ha
    · cases ha
  · cases ha
theorem cap_sound {t ty : Nat} {ts : Array TypeId} {x z : AV} {ux : Value} (hts : ts[0]? = some t) (hx : VR g w x ux) (ha : capA P t x = some z) :
    ∃ u, (Builtin.cap_ ts ty #[ux]).run P w = .ok u w ∧ VR g w z u := by
  unfold capA at ha
  split at ha
  · split at ha
    · rename_i hs
      simp only [Option.some.injEq] at ha
      subst ha
      simp only [VR] at hx
      subst hx
      unfold isSliceT at hs
      split at hs
      · rename_i e he
        exact ⟨_, by simp [Builtin.cap_, hts, run_underlying he, goInt]; rfl, by simp [VR]⟩
      · cases hs
    · cases ha
  · cases ha
theorem appendN_sound (hR : R C A N g st a w) {t t2 ty e n b k : Nat} {zs : List Value} (ht : rowInf P t = some (e, n, b)) (hzo : zeroOf P e = some zs) {x y z : AV} {ux uy : Value} (hx : VR g w x ux) (hy : VR g w y uy) {st' : St}
    (ha : appendNA P k n t2 zs st x y = some (z, st')) : ∃ u w' g', (Builtin.append_ #[t, t2] ty #[ux, uy]).run P w = .ok u w' ∧ R C A N g' st' a w' ∧ VR g' w' z u := by
  obtain ⟨hu, i, zv, hi, hz, hzs, hsz, hby, hn, hb⟩ := rowInf_spec ht
  subst hsz
  have hzz := zeroOf_spec hzo hi hz
  unfold appendNA at ha
  split at ha
  · rename_i m
    split at ha
    · rename_i hc
      obtain ⟨h0, hmax, hok, ht2⟩ := hc
      replace ht2 := isI64_spec ht2
      simp only [Option.some.injEq, Prod.mk.injEq] at ha
      obtain ⟨rfl, rfl⟩ := ha
      simp only [VR] at hx hy
      subst hx; subst hy
      have hw : IntKind.i64.wrap m = m := by simp [IntKind.wrap, IntKind.signed, IntKind.bits]; omega
      have hbytes : m * (i.bytes : Int) ≤ 4294967296 * 32768 := Int.mul_le_mul hmax (by omega) (by omega) (by omega)
      by_cases hm0 : m = 0
      · subst hm0
        refine ⟨.slice none 0 0, w, g, ?_, hR.kill [k] [] (fun _ _ h => by cases h), ?_⟩
        · simp [Builtin.append_, run_underlying hu, run_underlying ht2, sizeOf, typeInfo, hi, asInt, asIntOf, hw]
        · simp only [VR, OwnSl, Int.toNat_zero, List.replicate_zero]
          exact ⟨hn, .inl ⟨trivial, trivial⟩⟩
      · have hzl : zs.length = i.size := by rw [hzz]; simpa using hzs
        have hcapge : m.toNat ≤ grownCap w m.toNat 0 e := grownCap_ge w _ 0 e
        have hcapm : grownCap w m.toNat 0 e ≤ maxLen := grownCap_le_maxLen w _ 0 e (by simp only [maxLen]; omega)
        have hzc := zeroCells_toList zv m.toNat (by rw [hzs]; exact hn)
        rw [← hzz] at hzc
        obtain ⟨g', k1, k2⟩ := hR.drew.newRow k [k] (by simp) (Builtin.zeroCells zv.cells m.toNat ++ Builtin.zeroCells zv.cells (grownCap w m.toNat 0 e - m.toNat)) e i.size (grownCap w m.toNat 0 e) (List.replicate m.toNat (vals zs)) (List.replicate m.toNat zs).flatten hn
          (fun e' he => by rw [List.eq_of_mem_replicate he]; simp [vals, hzl])
          (PRl_replicate (PRl_vals zs hok) _)
          (by simp only [Array.size_append, size_zeroCells, hzs]; rw [← Nat.add_mul]; congr 1; omega) (by simpa using hcapge) hcapm
          (fun j v hj => by
            have hj' : j < (List.replicate m.toNat zs).flatten.length := by
              rcases Nat.lt_or_ge j (List.replicate m.toNat zs).flatten.length with h | h
              · exact h
              · rw [List.getElem?_eq_none h] at hj; cases hj
            rw [← hzc] at hj hj'
            rw [Array.getElem?_append_left (by simpa using hj')]
            simpa using hj)
        rw [List.length_replicate] at k2
        refine ⟨_, _, g', ?_, k1, k2⟩
        have hneg : ¬ m < 0 := by omega
        have hbig : ¬ (281474976710656 < m * (i.bytes : Int)) := by omega
        have hnz : ¬ (m.toNat * i.size = 0) := by
          intro h
          rcases Nat.mul_eq_zero.1 h with h | h <;> omega
        have hle : ¬ (m.toNat ≤ 0) := by omega
        have h63 : ¬ (9223372036854775807 < (m.toNat : Int)) := by omega
        have hns : Builtin.nextslicecap m.toNat 0 = m.toNat := by simp [Builtin.nextslicecap]; omega
        have hbig2 : ¬ (281474976710656 < m.toNat * i.bytes) := by
          have : m.toNat * i.bytes ≤ 4294967296 * 32768 := Nat.mul_le_mul (by omega) (by omega)
          omega
        have hm1 : ¬ (m.toNat = 0) := by omega
        have hs0 : ¬ (i.size = 0) := by omega
        have hle' : ¬ (m ≤ 0) := by omega
        have hmx : max m 0 = m := by omega
        have h63' : ¬ (9223372036854775807 < m) := by omega
        simp [Builtin.append_, run_underlying hu, run_underlying ht2, sizeOf, typeInfo, zeroValue, hi, hz, asInt, asIntOf, hw, hneg, hbig, hle', hmx, h63', hnz, hm1, hs0, hle, h63, hns, hbig2, Question.forced, newRow, grownCap, Builtin.firstCells]
    · cases ha
  · cases ha
end
end Go.Abs
