/- part 2 of the proof -/
import Derived.Test.YtaelofhhkpacbaaGreatDoorT01
set_option linter.all false
/- Literals, make, slicing, stores into rows. -/
namespace Go.Abs

/-- the cells of a zero value -/
def zeroOf (P : Program) (t : TypeId) : Option (List Value) := ((P.info? t).bind (·.zero)).map (·.cells.toList)

def vals (zs : List Value) : List AV := zs.map .v

/-- a value made of parts at their places -/
def fillA (place : Nat → Option (Nat × Nat)) (L : List AV) : List (Nat × AV) → Option (List AV)
  | [] => some L
  | (i, x) :: rest => match place i with
    | none => none
    | some (off, size) => if okCells x.cells = true ∧ x.cells.length = size ∧ off + size ≤ L.length then fillA place (cut L off x.cells) rest else none

def chunk (n : Nat) : Nat → List AV → List (List AV)
  | 0, _ => []
  | k + 1, L => L.take n :: chunk n k (L.drop n)

theorem chunk_len (n : Nat) : ∀ (k : Nat) (L : List AV), L.length = k * n → (chunk n k L).length = k ∧ (∀ e ∈ chunk n k L, e.length = n) ∧ (chunk n k L).flatten = L
  | 0, L, h => by
    have : L = [] := List.eq_nil_of_length_eq_zero (by simpa using h)
    subst this; simp [chunk]
  | k + 1, L, h => by
    have hn : n ≤ L.length := by rw [h, Nat.add_mul]; omega
    obtain ⟨h1, h2, h3⟩ := chunk_len n k (L.drop n) (by simp [h, Nat.add_mul])
    refine ⟨by simp [chunk, h1], fun e he => ?_, by simp [chunk, h3]⟩
    simp only [chunk] at he
    rcases List.mem_cons.1 he with rfl | he
    · simp; omega
    · exact h2 e he

section
variable {C : Ctx} {A : A0} {N : Nat} {g g' : Gh} {st : St} {a : Act} {w w' : World} {P : Program}

theorem VRs_vals (zs : List Value) : VRs g w (vals zs) zs := by
  induction zs with
  | nil => simp [vals, VRs]
  | cons z zs ih => simp only [vals, List.map_cons, VRs]; exact ⟨by simp [VR], ih⟩

theorem foldl_set (v : List Value) : ∀ (k off : Nat) (arr : Array Value), off + k + v.length ≤ arr.size →
    ((v.zipIdx k).foldl (fun cs (p : Value × Nat) => cs.setIfInBounds (off + p.2) p.1) arr).toList = arr.toList.take (off + k) ++ v ++ arr.toList.drop (off + k + v.length) := by
  induction v with
  | nil => intro k off arr _; simp
  | cons x v ih =>
    intro k off arr h
    simp only [List.length_cons] at h
    simp only [List.zipIdx_cons, List.foldl_cons]
    rw [ih (k + 1) off _ (by simp; omega)]
    simp only [Array.toList_setIfInBounds, List.length_cons]
    have hlt : off + k < arr.toList.length := by simp; omega
    rw [show off + (k + 1) = (off + k) + 1 from by omega]
    rw [List.take_succ_eq_append_getElem (by simpa using hlt)]
    simp only [List.getElem_set_self, List.take_set_of_le (Nat.le_refl _), List.append_assoc, List.cons_append]
    rw [List.drop_set_of_lt (by omega), show off + k + 1 + v.length = off + k + (v.length + 1) from by omega]
    rfl

theorem foldl_zip (v : Array Value) (off : Nat) (arr : Array Value) (h : off + v.size ≤ arr.size) :
    (v.zipIdx.foldl (fun cs (p : Value × Nat) => cs.setIfInBounds (off + p.2) p.1) arr).toList = arr.toList.take off ++ v.toList ++ arr.toList.drop (off + v.size) := by
  have := foldl_set v.toList 0 off arr (by simpa using h)
  simp only [Nat.add_zero, Array.length_toList] at this
  rw [← this, ← Array.foldl_toList]
  simp

theorem fill_sound (place : Nat → Option (Nat × Nat)) : ∀ (parts : List (Nat × AV)) (pv : List (Nat × Value)) (L : List AV) (cur : Array Value) (L' : List AV),
    parts.map (·.1) = pv.map (·.1) → VRs g w (parts.map (·.2)) (pv.map (·.2)) → VRs g w L cur.toList → fillA place L parts = some L' → ∃ cur', Instr.fill place cur pv = some cur' ∧ VRs g w L' cur'.toList
  | [], [], L, cur, L', _, _, hL, h => by
    simp only [fillA, Option.some.injEq] at h
    subst h
    exact ⟨cur, by simp [Instr.fill], hL⟩
  | [], _ :: _, _, _, _, h, _, _, _ => by simp at h
  | _ :: _, [], _, _, _, h, _, _, _ => by simp at h
  | (i, x) :: parts, (j, v) :: pv, L, cur, L', hi, hp, hL, h => by
    simp only [List.map_cons, List.cons.injEq] at hi
    obtain ⟨rfl, hi⟩ := hi
    simp only [List.map_cons, VRs] at hp
    simp only [fillA] at h
    split at h
    · cases h
    · rename_i off size hpl
      split at h
      · rename_i hc
        obtain ⟨ho, hs, hle⟩ := hc
        have hx := VR.cells hp.1 ho
        have hvs : v.cells.size = size := by rw [← hs, VRs.length hx]; simp
        have hcl : L.length = cur.size := by rw [VRs.length hL]; simp
        have hnot : ¬ (v.cells.size ≠ size ∨ off + v.cells.size > cur.size) := by omega
        have key := foldl_zip v.cells off cur (by omega)
        have := fill_sound place parts pv (cut L off x.cells) (v.cells.zipIdx.foldl (fun cs (p : Value × Nat) => cs.setIfInBounds (off + p.2) p.1) cur) L' hi hp.2 (by
          rw [key]
          unfold cut
          rw [hs, ← hvs]
          exact VRs.append (VRs.append (VRs.take off hL) hx) (VRs.drop _ hL)) h
        obtain ⟨cur', h1, h2⟩ := this
        refine ⟨cur', ?_, h2⟩
        have hnot' : (decide (v.cells.size ≠ size) || decide (off + v.cells.size > cur.size)) = false := by
          simp only [Bool.or_eq_false_iff, decide_eq_false_iff_not]; exact not_or.1 hnot
        simp only [Instr.fill, hpl, hnot', Bool.false_eq_true, if_false]
        exact h1
      · cases h

theorem pure_PR {S : List Nat} : ∀ {c p : AV} {u : Value}, VR g w c u → pureA c = some p → (∀ r ∈ rowsOf [c], r ∈ S) → okCell c = true → PR (isRo (g.freeze S)) w p u
  | .undef, _, _, _, _, _, ho => by simp [okCell] at ho
  | .v x, p, u, hv, hp, _, ho => by
    simp only [pureA, Option.some.injEq] at hp
    subst hp
    simp only [VR] at hv
    simp only [PR]
    exact ⟨hv, ho⟩
  | .sl (.own r 0) n es, p, u, hv, hp, hs, _ => by
    simp only [pureA, Option.some.injEq] at hp
    subst hp
    have := VR.freeze (S := S) _ u hv
    have hr : r ∈ S := hs r (by simp [rowsOf])
    simp only [AV.freeze, hr, if_true] at this
    simpa [VR] using this
  | .sl (.own r (lo + 1)) n es, p, u, hv, hp, hs, _ => by simp [pureA] at hp
  | .sl .no n es, p, u, hv, hp, hs, _ => by
    simp only [pureA, Option.some.injEq] at hp
    subst hp
    have := VR.freeze (S := S) _ u hv
    simpa [VR, AV.freeze] using this
  | .sl .full n es, p, u, hv, hp, hs, _ => by
    simp only [pureA, Option.some.injEq] at hp
    subst hp
    have := VR.freeze (S := S) _ u hv
    simpa [VR, AV.freeze] using this
  | .agg _, _, _, _, hp, _, _ => by simp [pureA] at hp
  | .tup _, _, _, _, hp, _, _ => by simp [pureA] at hp
  | .ptr _ _, _, _, _, hp, _, _ => by simp [pureA] at hp
  | .ep _ _ _ _, _, _, _, hp, _, _ => by simp [pureA] at hp
  | .fn f [], p, u, hv, hp, hs, _ => by
    simp only [pureA, Option.some.injEq] at hp
    subst hp
    simp only [VR] at hv
    obtain ⟨us, rfl, h⟩ := hv
    match h' : us.toList, h with
    | [], _ => simp only [PR]; exact ⟨trivial, by rw [show us = #[] by simpa using h']⟩
    | _ :: _, h => simp [VRs] at h
  | .fn _ (_ :: _), _, _, _, hp, _, _ => by simp [pureA] at hp
  | .mv _ _, _, _, _, hp, _, _ => by simp [pureA] at hp
  | .mp _, _, _, _, hp, _, _ => by simp [pureA] at hp
  | .ifc _ _, _, _, _, hp, _, _ => by simp [pureA] at hp
  | .mem _ _, _, _, _, hp, _, _ => by simp [pureA] at hp

theorem rowsOf_cons (c : AV) (cs : List AV) (r : Nat) : r ∈ rowsOf (c :: cs) ↔ r ∈ rowsOf [c] ∨ r ∈ rowsOf cs := by
  cases c with
  | sl t n es =>
    cases t with
    | own q lo => cases lo <;> simp [rowsOf]
    | _ => simp [rowsOf]
  | _ => simp [rowsOf]

theorem pure_PRl {S : List Nat} : ∀ {cs ps : List AV} {us : List Value}, VRs g w cs us → pureL cs = some ps → (∀ r ∈ rowsOf cs, r ∈ S) → okCells cs = true → PRl (isRo (g.freeze S)) w ps us
  | [], _, [], _, hp, _, _ => by simp [pureL] at hp; subst hp; simp [PRl]
  | [], _, _ :: _, h, _, _, _ => by simp [VRs] at h
  | _ :: _, _, [], h, _, _, _ => by simp [VRs] at h
  | c :: cs, ps, u :: us, h, hp, hs, ho => by
    simp only [VRs] at h
    simp only [okCells, Bool.and_eq_true] at ho
    simp only [pureL] at hp
    split at hp
    · rename_i x xs hx hxs
      simp only [Option.some.injEq] at hp
      subst hp
      simp only [PRl]
      exact ⟨pure_PR h.1 hx (fun r hr => hs r ((rowsOf_cons c cs r).2 (.inl hr))) ho.1, pure_PRl h.2 hxs (fun r hr => hs r ((rowsOf_cons c cs r).2 (.inr hr))) ho.2⟩
    · cases hp

end

/-- make -/
def makeA (k n : Nat) (zs : List Value) (st : St) (l c : Int) : Option (AV × St) :=
  if 0 ≤ l ∧ l ≤ c ∧ c ≤ 4294967296 ∧ okCells (vals zs) = true then some (.sl (.own k 0) n (List.replicate l.toNat (vals zs)), st.kill [k] []) else none

/-- a slice literal -/
def litA (k n len : Nat) (zs : List Value) (st : St) (parts : List (Nat × AV)) : Option (AV × St) :=
  match fillA (fun i => some (i * n, n)) (List.replicate len (vals zs)).flatten parts with
  | some L => match pureL L with
    | some ps => if okCells L = true ∧ ps.length = len * n ∧ len * n ≤ 16777216 then some (.sl (.own k 0) n (chunk n len ps), (st.freeze (rowsOf L)).kill [k] []) else none
    | none => if n = 1 ∧ 0 < len ∧ L.length = len ∧ len ≤ 16777216 then some (.mem true L, st) else none
  | none => none

section
variable {C : Ctx} {A : A0} {N : Nat} {g g' : Gh} {st : St} {a : Act} {w w' : World} {P : Program}

theorem zeroOf_spec {t : TypeId} {zs : List Value} {i : TypeInfo} {z : Value} (h : zeroOf P t = some zs) (hi : P.info? t = some i) (hz : i.zero = some z) : zs = z.cells.toList := by
  simp [zeroOf, hi, hz] at h
  exact h.symm

theorem flatten_replicate_get (zs : List Value) : ∀ (l j : Nat) (v : Value), (List.replicate l zs).flatten[j]? = some v → zs[j % zs.length]? = some v ∧ j < l * zs.length
  | 0, j, v, h => by simp at h
  | l + 1, j, v, h => by
    rw [List.replicate_succ, List.flatten_cons, List.getElem?_append] at h
    split at h
    · rename_i hj
      rw [Nat.mod_eq_of_lt hj]
      exact ⟨h, by rw [Nat.add_mul]; omega⟩
    · rename_i hj
      obtain ⟨h1, h2⟩ := flatten_replicate_get zs l _ v h
      refine ⟨?_, by rw [Nat.add_mul]; omega⟩
      rwa [Nat.mod_eq_sub_mod (by omega)]

theorem PRl_vals {ro : Nat → Prop} : ∀ (zs : List Value), okCells (vals zs) = true → PRl ro w (vals zs) zs
  | [], _ => by simp [vals, PRl]
  | z :: zs, h => by
    simp only [vals, List.map_cons, okCells, Bool.and_eq_true, okCell] at h
    simp only [vals, List.map_cons, PRl, PR]
    exact ⟨⟨trivial, h.1⟩, PRl_vals zs h.2⟩
theorem PRl_replicate {ro : Nat → Prop} {cs : List AV} {us : List Value} (h : PRl ro w cs us) : ∀ l : Nat, PRl ro w (List.replicate l cs).flatten (List.replicate l us).flatten
  | 0 => by simp [PRl]
  | l + 1 => by
    rw [List.replicate_succ, List.replicate_succ, List.flatten_cons, List.flatten_cons]
    exact PRl.append h (PRl_replicate h l)

theorem make_sound (hR : R C A N g st a w) {t e n b k : Nat} {zs : List Value} (ht : rowInf P t = some (e, n, b)) (hzs : zeroOf P e = some zs) {kl kc : IntKind} {l c : Int} {z : AV} {st' : St} (ha : makeA k n zs st l c = some (z, st')) :
    ∃ u w' g', (Instr.makeSlice t (.int kl l) (.int kc c)).run P w = .ok u w' ∧ R C A N g' st' a w' ∧ VR g' w' z u := by
  obtain ⟨hu, i, zv, hi, hz, hzsz, hsz, hby, hn, hb⟩ := rowInf_spec ht
  have hzz := zeroOf_spec hzs hi hz
  unfold makeA at ha
  split at ha
  · rename_i hc
    obtain ⟨h0, hlc, hmax, hok⟩ := hc
    simp only [Option.some.injEq, Prod.mk.injEq] at ha
    obtain ⟨rfl, rfl⟩ := ha
    have hbytes : (i.bytes : Int) * c ≤ 281474976710656 := by
      have : (i.bytes : Int) * c ≤ 32768 * 4294967296 := Int.mul_le_mul (by omega) hmax (by omega) (by omega)
      omega
    have hrun := run_make (P := P) w t e i zv hu hi hz kl kc l c h0 hlc hbytes (by omega)
    have hzl : zs.length = n := by rw [hzz]; simpa using hzsz
    obtain ⟨g', k1, k2⟩ := hR.newRow k [k] (by simp) (madeCells zv.cells (c.toNat * i.size)) e n c.toNat (List.replicate l.toNat (vals zs)) (List.replicate l.toNat zs).flatten hn
      (fun e' he => by rw [List.eq_of_mem_replicate he]; simp [vals, hzl])
      (PRl_replicate (PRl_vals zs hok) _)
      (by rw [size_madeCells, hsz]) (by simp; omega) (by simp only [maxLen]; omega)
      (fun j v hj => by
        obtain ⟨h1, h2⟩ := flatten_replicate_get zs _ _ _ hj
        have hjlt : j < c.toNat * i.size := by
          rw [hzl] at h2
          rw [hsz]
          exact Nat.lt_of_lt_of_le h2 (Nat.mul_le_mul_right _ (by omega))
        simp only [madeCells]
        rw [Array.getElem?_map, Array.getElem?_range, if_pos hjlt]
        simp only [Option.map_some]
        rw [hzz] at h1
        simp only [Array.length_toList, Array.getElem?_toList] at h1
        rw [getElem!_def, h1])
    refine ⟨_, _, g', hrun, k1, ?_⟩
    simpa using k2
  · cases ha

/-- new memory that nobody will write -/
theorem R.newRoL (h : R C A N g st a w) (hos : w'.os = w.os) (htape : SameTape w w') (hout : w'.output = w.output) (hsz : w'.heap.size = w.heap.size + 1) (hold : ∀ b, b < w.heap.size → w'.heap[b]? = w.heap[b]?) :
    ∃ g', R C A N g' st a w' ∧ isRo g' w.heap.size ∧ (∀ b, b < w.heap.size → g'.own b = g.own b) ∧ Lasts [] [] g w g' w' := by
  let g' : Gh := { g with own := fun x => if x = w.heap.size then .ro else g.own x }
  have hl : Lasts [] [] g w g' w' := ⟨fun b hb ho => ⟨by simp [g', Nat.ne_of_lt hb, ho], hold b hb⟩, fun b q hb _ ho => ⟨by simp [g', Nat.ne_of_lt hb, ho], hold b hb⟩, fun _ _ => rfl, fun _ _ => rfl, fun b q i hb _ ho => ⟨by simp [g', Nat.ne_of_lt hb, ho], hold b hb⟩, fun _ _ _ => rfl⟩
  refine ⟨g', ?_, by simp [g', isRo], fun b hb => by simp [g', Nat.ne_of_lt hb], hl⟩
  have := h.lasts hl (h.fr.step hl hos htape hout (by omega) (fun b hb ho => ⟨by simp [g', Nat.ne_of_lt hb, ho], hold b hb⟩) (fun _ _ he => by cases he)) (fun s cs hs _ => by
    have ho := h.ob s cs hs
    exact ⟨by simp [g', Nat.ne_of_lt ho.lt, ho.1], hold _ ho.lt⟩)
  rwa [stKill_nil] at this
theorem R.newRo (h : R C A N g st a w) (hos : w'.os = w.os) (htape : SameTape w w') (hout : w'.output = w.output) (hsz : w'.heap.size = w.heap.size + 1) (hold : ∀ b, b < w.heap.size → w'.heap[b]? = w.heap[b]?) :
    ∃ g', R C A N g' st a w' ∧ isRo g' w.heap.size ∧ (∀ b, b < w.heap.size → g'.own b = g.own b) := by
  obtain ⟨g', h1, h2, h3, _⟩ := h.newRoL hos htape hout hsz hold
  exact ⟨g', h1, h2, h3⟩

theorem lit_sound (hR : R C A N g st a w) {t e n b k len : Nat} {zs : List Value} (ht : rowInf P t = some (e, n, b)) (hzs : zeroOf P e = some zs) {parts : List (Nat × AV)} {pv : List (Nat × Value)}
    (hp1 : parts.map (·.1) = pv.map (·.1)) (hp2 : VRs g w (parts.map (·.2)) (pv.map (·.2))) {z : AV} {st' : St} (ha : litA k n len zs st parts = some (z, st')) :
    ∃ u w' g', (Instr.buildSlice t len pv.toArray).run P w = .ok u w' ∧ R C A N g' st' a w' ∧ VR g' w' z u := by
  obtain ⟨hu, i, zv, hi, hz, hzsz, hsz, hby, hn, hb⟩ := rowInf_spec ht
  have hzz := zeroOf_spec hzs hi hz
  have hzl : zs.length = n := by rw [hzz]; simpa using hzsz
  unfold litA at ha
  split at ha
  · rename_i L hL
    have hz0 : VRs g w (List.replicate len (vals zs)).flatten (List.replicate len zs).flatten := by
      have : ∀ m : Nat, VRs g w (List.replicate m (vals zs)).flatten (List.replicate m zs).flatten := by
        intro m
        induction m with
        | zero => simp [VRs]
        | succ m ih => rw [List.replicate_succ, List.replicate_succ, List.flatten_cons, List.flatten_cons]; exact VRs.append (VRs_vals zs) ih
      exact this len
    have harr : ((Array.range (len * n)).map (zv.cells[· % zv.cells.size]!)).toList = (List.replicate len zs).flatten := by
      apply List.ext_getElem?
      intro j
      cases hj : (List.replicate len zs).flatten[j]? with
      | none =>
        have : len * n ≤ j := by
          have := List.getElem?_eq_none_iff.1 hj
          simpa [List.length_flatten, hzl, Nat.mul_comm] using this
        simp; omega
      | some v =>
        obtain ⟨h1, h2⟩ := flatten_replicate_get zs _ _ _ hj
        rw [hzl] at h2
        simp only [Array.getElem?_toList, Array.getElem?_map, Array.getElem?_range, if_pos h2, Option.map_some]
        rw [hzz] at h1
        simp only [Array.length_toList, Array.getElem?_toList] at h1
        rw [getElem!_def, h1]
    obtain ⟨cur, hf, hcur⟩ := fill_sound (fun i => some (i * n, n)) parts pv _ ((Array.range (len * n)).map (zv.cells[· % zv.cells.size]!)) L hp1 hp2 (by rw [harr]; exact hz0) hL
    split at ha
    · rename_i ps hps
      split at ha
      · rename_i hc
        obtain ⟨hok, hpl, hbig⟩ := hc
        simp only [Option.some.injEq, Prod.mk.injEq] at ha
        obtain ⟨rfl, rfl⟩ := ha
        have hLl : L.length = len * n := by
          rw [← hpl]
          have : ∀ (cs ps : List AV), pureL cs = some ps → ps.length = cs.length := by
            intro cs
            induction cs with
            | nil => intro ps h; simp [pureL] at h; simp [← h]
            | cons c cs ih =>
              intro ps h
              simp only [pureL] at h
              split at h
              · rename_i x xs hx hxs
                simp at h; subst h; simp [ih xs hxs]
              · cases h
          exact (this L ps hps).symm
        obtain ⟨c1, c2, c3⟩ := chunk_len n len ps hpl
        have hpr := pure_PRl (S := rowsOf L) hcur hps (fun r hr => hr) hok
        obtain ⟨g', k1, k2⟩ := (hR.freeze (rowsOf L)).newRow k [k] (by simp) cur e n len (chunk n len ps) cur.toList hn c2 (by rw [c3]; exact hpr)
          (by have := VRs.length hcur; simp at this; omega) (by omega) (by simp only [maxLen]; have := Nat.le_mul_of_pos_right len hn; omega)
          (fun j v hj => by simpa using hj)
        refine ⟨_, _, g', ?_, k1, k2⟩
        have hnb : ¬ (len * n > 2 ^ 24) := by omega
        have hf' : Instr.fill (fun i => some (i * n, n)) (if len * n = 0 then #[] else (Array.range (len * n)).map (zv.cells[· % zv.cells.size]!)) pv = some cur := by
          by_cases h0 : len * n = 0
          · rw [h0] at hf ⊢; simpa [Array.range_zero'] using hf
          · simpa [h0] using hf
        rw [c1]
        by_cases h0 : len * n = 0
        · simp only [h0, if_true] at hf'
          simp [Instr.buildSlice, run_underlying hu, sizeOf, typeInfo, hi, hsz, h0, Array.range_zero', hf', newRow]
        · simp only [h0, if_false] at hf'
          simp [Instr.buildSlice, run_underlying hu, sizeOf, typeInfo, hi, hsz, h0, zeroValue, hz, hf', newRow]
          exact hbig
      · cases ha
    · split at ha
      · rename_i hc
        obtain ⟨rfl, hpos, hLl, hbig⟩ := hc
        simp only [Option.some.injEq, Prod.mk.injEq] at ha
        obtain ⟨rfl, rfl⟩ := ha
        have hcl : cur.size = len := by have := VRs.length hcur; simp at this; omega
        obtain ⟨g', k1, k2, _, hl⟩ := hR.newRoL (w' := w.alloc (.cells cur e)) rfl ⟨rfl, Nat.le_refl _⟩ rfl (by simp) (fun b hb => alloc_old w _ b hb)
        refine ⟨.slice (some ⟨w.heap.size, 0, none⟩) len len, w.alloc (.cells cur e), g', ?_, k1, ?_⟩
        · have hnb : ¬ (len > 2 ^ 24) := by omega
          have h0 : ¬ (len = 0) := by omega
          simp only [Nat.mul_one] at hf
          simp [Instr.buildSlice, run_underlying hu, sizeOf, typeInfo, hi, hsz, h0, zeroValue, hz, hf, newRow]
          exact hbig
        · have hv := VRs.lasts hl _ _ hcur
          rw [killL_nil] at hv
          simp only [VR, MemU]
          refine ⟨⟨w.heap.size, 0, none⟩, cur.toList, k2, ⟨fun he => ?_, fun i hi => ?_⟩, hv, len, by simp [hcl], by simp [hcl], by simp only [maxLen]; omega⟩
          · have h9 : cur.toList.length = 0 := by rw [he]; rfl
            rw [Array.length_toList] at h9
            omega
          · rw [add_lit, cell_of_row _ _ _ _ _ _ (heap_alloc_new w _)]
            simp
      · cases ha
  · cases ha
end
end Go.Abs
/- Slicing, stores into rows, struct literals. -/
namespace Go.Abs

def natOf : AV → Option Nat
  | .v (.int _ i) => if 0 ≤ i then some i.toNat else none
  | _ => none

/-- x[l:h] or, where 'full', x[l:h:h] -/
def sliceA (n : Nat) (full : Bool) (l h : Nat) (st : St) : AV → Option (AV × St)
  | .sl (.own r lo) m es => if m = n ∧ l ≤ h ∧ h ≤ es.length then
      if full then (if lo = 0 then some (.sl .full n ((es.drop l).take (h - l)), st.freeze [r]) else none)
      else some (.sl (.own r (lo + l)) n ((es.drop l).take (h - l)), st)
    else none
  | .sl t m es => if m = n ∧ l ≤ h ∧ h ≤ es.length then some (.sl (if full then .full else .no) n ((es.drop l).take (h - l)), st) else none
  | .v (.slice none 0 0) => if l = 0 ∧ h = 0 then some (.v (.slice none 0 0), st) else none
  | _ => none

section
variable {C : Ctx} {A : A0} {N : Nat} {g g' : Gh} {st : St} {a : Act} {w w' : World} {P : Program}

theorem PRe.sub {ro : Nat → Prop} : ∀ (es : List (List AV)) (ad : Addr) (n i : Nat), PRe ro w es ad n i → ∀ l k : Nat, PRe ro w ((es.drop l).take k) ad n (i + l)
  | [], _, _, _, _, l, k => by simp [PRe]
  | e :: es, ad, n, i, h, 0, 0 => by simp [PRe]
  | e :: es, ad, n, i, h, 0, k + 1 => by
    simp only [PRe] at h
    simp only [List.drop_zero, List.take_succ_cons, PRe]
    exact ⟨h.1, h.2.1, by simpa using PRe.sub es ad n (i + 1) h.2.2 0 k⟩
  | e :: es, ad, n, i, h, l + 1, k => by
    simp only [PRe] at h
    have := PRe.sub es ad n (i + 1) h.2.2 l k
    rw [show i + 1 + l = i + (l + 1) from by omega] at this
    simpa using this
theorem PRe.shift {ro : Nat → Prop} : ∀ (es : List (List AV)) (ad : Addr) (n l i : Nat), PRe ro w es ad n (l + i) → PRe ro w es (ad.add (l * n)) n i
  | [], _, _, _, _, _ => by simp [PRe]
  | e :: es, ad, n, l, i, h => by
    simp only [PRe] at h ⊢
    exact ⟨h.1, PRc.shift e ad (l * n) (i * n) (by rw [← Nat.add_mul]; exact h.2.1), PRe.shift es ad n l (i + 1) (by rw [← Nat.add_assoc]; exact h.2.2)⟩

theorem run_slice {t e : TypeId} {size : Nat} (ht : P.underlying t = some (.slice e)) (hs : szOf P e = some size) {a : Option Addr} {len cap l h : Nat} {lo hi mx : Option Value} {kl kh km : IntKind}
    (hlo : lo = none ∧ l = 0 ∨ lo = some (.int kl l)) (hhi : hi = none ∧ h = len ∨ hi = some (.int kh h)) (full : Bool) (hmx : mx = if full then some (.int km h) else none) (hfh : full = true → hi = some (.int kh h))
    (h1 : l ≤ h) (h2 : h ≤ len) (h3 : len ≤ cap) :
    (Instr.slice t (.slice a len cap) lo hi mx).run P w = .ok (.slice (if (if full then h else cap) = l then a else a.map (·.add (l * size))) (h - l) ((if full then h else cap) - l)) w := by
  have b1 : ∀ (k : IntKind) (c : BoundsCode), (Instr.sliceBound (.int k h) cap c).run P w = .ok h w := fun k c => by
    have := run_sliceBound (P := P) (w := w) k h cap c (by omega) (by omega); simpa using this
  have b2 : ∀ (k : IntKind) (c : BoundsCode), (Instr.sliceBound (.int k h) h c).run P w = .ok h w := fun k c => by
    have := run_sliceBound (P := P) (w := w) k h h c (by omega) (by omega); simpa using this
  have b3 : ∀ (k : IntKind) (c : BoundsCode), (Instr.sliceBound (.int k l) h c).run P w = .ok l w := fun k c => by
    have := run_sliceBound (P := P) (w := w) k l h c (by omega) (by omega); simpa using this
  have b4 : ∀ (k : IntKind) (c : BoundsCode), l ≤ len → (Instr.sliceBound (.int k l) len c).run P w = .ok l w := fun k c hh => by
    have := run_sliceBound (P := P) (w := w) k l len c (by omega) (by omega); simpa using this
  cases full with
  | true =>
    have hh := hfh rfl
    subst hh
    simp only [if_true] at hmx
    subst hmx
    rcases hlo with ⟨rfl, rfl⟩ | rfl
    · simp [Instr.slice, run_underlying ht, Instr.sliceBounds, b1, b2, run_sizeOf hs]
    · simp [Instr.slice, run_underlying ht, Instr.sliceBounds, b1, b2, b3, run_sizeOf hs]
  | false =>
    simp only [Bool.false_eq_true, if_false] at hmx
    subst hmx
    rcases hlo with ⟨rfl, rfl⟩ | rfl <;> rcases hhi with ⟨rfl, rfl⟩ | rfl
    · simp [Instr.slice, run_underlying ht, Instr.sliceBounds, run_sizeOf hs]
    · simp [Instr.slice, run_underlying ht, Instr.sliceBounds, b1, run_sizeOf hs]
    · simp [Instr.slice, run_underlying ht, Instr.sliceBounds, b4 _ _ h1, run_sizeOf hs]
    · simp [Instr.slice, run_underlying ht, Instr.sliceBounds, b1, b3, run_sizeOf hs]

theorem slice_sound (hR : R C A N g st a w) {t e : TypeId} {n : Nat} (ht : elemOfSlice P t = some (e, n)) {x z : AV} {ux : Value} (hx : VR g w x ux) {l h len : Nat} {lo hi mx : Option Value} {kl kh km : IntKind} {full : Bool}
    (hlen : ∀ es, elems n x = some es → es.length = len)
    (hlo : lo = none ∧ l = 0 ∨ lo = some (.int kl l)) (hhi : hi = none ∧ h = len ∨ hi = some (.int kh h)) (hmx : mx = if full then some (.int km h) else none) (hfh : full = true → hi = some (.int kh h)) {st' : St}
    (ha : sliceA n full l h st x = some (z, st')) : ∃ u g', (Instr.slice t ux lo hi mx).run P w = .ok u w ∧ R C A N g' st' a w ∧ VR g' w z u ∧ (((∀ r lo m es, x ≠ .sl (.own r lo) m es) ∨ full = false) → g' = g) := by
  have hts : P.underlying t = some (.slice e) ∧ szOf P e = some n := by
    unfold elemOfSlice at ht
    split at ht
    · rename_i e' he
      obtain ⟨n', hn', hh⟩ := Option.map_eq_some_iff.1 ht
      simp only [Prod.mk.injEq] at hh
      obtain ⟨rfl, rfl⟩ := hh
      exact ⟨he, hn'⟩
    · cases ht
  obtain ⟨ht1, ht2⟩ := hts
  unfold sliceA at ha
  split at ha
  · rename_i r lo' m es
    split at ha
    · rename_i hc
      obtain ⟨rfl, h1, h2⟩ := hc
      have hl : es.length = len := hlen es (by simp [elems])
      subst hl
      simp only [VR, OwnSl] at hx
      obtain ⟨hn, hx⟩ := hx
      have hlen' : ((es.drop l).take (h - l)).length = h - l := by simp; omega
      split at ha
      · rename_i hf
        subst hf
        split at ha
        · rename_i h0
          subst h0
          simp only [Option.some.injEq, Prod.mk.injEq] at ha
          obtain ⟨rfl, rfl⟩ := ha
          rcases hx with ⟨rfl, rfl⟩ | ⟨h0, _⟩ | ⟨cap, cur, T, rfl, k2, k3, k5, k6, k7, k8⟩
          · simp only [List.length_nil] at h2
            have h0 : h = 0 := by omega
            subst h0
            have hl0 : l = 0 := by omega
            subst hl0
            have hrun := run_slice (w := w) ht1 ht2 (a := none) (len := 0) (cap := 0) hlo hhi true hmx hfh (Nat.le_refl 0) (Nat.le_refl 0) (Nat.le_refl 0)
            refine ⟨_, _, hrun, hR.freeze [r], ?_, fun h => by rcases h with h | h; exact absurd rfl (h _ _ _ _); cases h⟩
            simp only [VR, PR]
            exact ⟨(fun _ _ h => by cases h), none, 0, by simp, by simp, by simp [maxLen], (fun _ => by simp), hn, .inl (by simp)⟩
          · omega
          · have hrun := run_slice (w := w) ht1 ht2 hlo hhi true hmx hfh h1 h2 k2 (a := some ⟨g.row r, 0 * m, none⟩)
            refine ⟨_, _, hrun, hR.freeze [r], ?_, fun h => by rcases h with h | h; exact absurd rfl (h _ _ _ _); cases h⟩
            simp only [VR, PR, if_true]
            refine ⟨(fun _ _ h => by cases h), _, _, by rw [hlen'], by omega, by omega, (fun _ => by omega), hn, ?_⟩
            by_cases hlh : h = l
            · exact .inl (by rw [hlh]; simp)
            · refine .inr ⟨_, by rw [if_neg hlh]; rfl, (by show (Gh.freeze [r] g).own ((⟨g.row r, 0 * m, none⟩ : Addr).add (l * m)).block = .ro; rw [add_block]; exact freeze_row _ r k5 (by simp)), ?_⟩
              have := PRe.sub es _ m 0 (PRe.mono_at (roFreeze (S := [r])) es _ m 0 rfl k8) l (h - l)
              rw [Nat.zero_add] at this
              exact PRe.shift _ _ m l 0 (by simpa using this)
        · cases ha
      · rename_i hf
        have hf' : full = false := by simpa using hf
        subst hf'
        simp only [Option.some.injEq, Prod.mk.injEq] at ha
        obtain ⟨rfl, rfl⟩ := ha
        rcases hx with ⟨rfl, rfl⟩ | ⟨h0, rfl, a', cap, rfl, hcap⟩ | ⟨cap, cur, T, rfl, k2, k3, k5, k6, k7, k8⟩
        · simp only [List.length_nil] at h2
          have h0 : h = 0 := by omega
          subst h0
          have hl0 : l = 0 := by omega
          subst hl0
          have hrun := run_slice (w := w) ht1 ht2 (a := none) (len := 0) (cap := 0) hlo hhi false hmx hfh (Nat.le_refl 0) (Nat.le_refl 0) (Nat.le_refl 0)
          refine ⟨_, _, hrun, hR, ?_, fun _ => rfl⟩
          simp only [VR, OwnSl]
          exact ⟨hn, .inl ⟨by simp, by simp⟩⟩
        · simp only [List.length_nil] at h2
          have h0' : h = 0 := by omega
          subst h0'
          have hl0 : l = 0 := by omega
          subst hl0
          have hrun := run_slice (w := w) ht1 ht2 (a := a') (len := 0) (cap := cap) hlo hhi false hmx hfh (Nat.le_refl 0) (Nat.le_refl 0) (Nat.zero_le _)
          refine ⟨_, _, hrun, hR, ?_, fun _ => rfl⟩
          simp only [VR, OwnSl]
          exact ⟨hn, .inr (.inl ⟨by omega, by simp, _, _, rfl, by simp; omega⟩)⟩
        · have hrun := run_slice (w := w) ht1 ht2 hlo hhi false hmx hfh h1 h2 k2 (a := some ⟨g.row r, lo' * m, none⟩)
          refine ⟨_, _, hrun, hR, ?_, fun _ => rfl⟩
          simp only [VR, OwnSl]
          refine ⟨hn, ?_⟩
          have hsub := PRe.sub es _ m 0 k8 l (h - l)
          rw [Nat.zero_add] at hsub
          have hsh := PRe.shift _ _ m l 0 (by simpa using hsub)
          rw [add_lit, ← Nat.add_mul] at hsh
          by_cases hcl : cap = l
          · have hl0 : h = l := by omega
            by_cases hz : lo' + l = 0
            · have e1 : lo' = 0 := by omega
              have e2 : l = 0 := by omega
              subst e1; subst e2
              refine .inr (.inr ⟨cap - 0, cur, T, ?_, by rw [hlen']; omega, by omega, k5, k6, by rw [k7]; congr 1, hsh⟩)
              simp only [Bool.false_eq_true, if_false, hcl, if_true]
              rw [hlen']
            · refine .inr (.inl ⟨by omega, by rw [hl0]; simp, _, _, by rw [hl0, Nat.sub_self], by simp; omega⟩)
          · refine .inr (.inr ⟨cap - l, cur, T, ?_, by rw [hlen']; omega, by omega, k5, k6, by rw [k7]; congr 1; omega, hsh⟩)
            rw [hlen']
            simp [hcl, add_lit, Nat.add_mul]
    · cases ha
  · rename_i t' m es hno
    split at ha
    · rename_i hc
      obtain ⟨rfl, h1, h2⟩ := hc
      simp only [Option.some.injEq, Prod.mk.injEq] at ha
      obtain ⟨rfl, rfl⟩ := ha
      have hl : es.length = len := hlen es (by simp [elems])
      subst hl
      have hlen' : ((es.drop l).take (h - l)).length = h - l := by simp; omega
      have hp : PR (isRo g) w (.sl t' m es) ux := by
        cases t' with
        | own r lo => exact absurd rfl (hno r lo)
        | no => simpa [VR] using hx
        | full => simpa [VR] using hx
      simp only [PR] at hp
      obtain ⟨_, a', cap, rfl, k2, k3, k4, k5, k6⟩ := hp
      have hrun := run_slice (w := w) ht1 ht2 hlo hhi full hmx hfh h1 h2 k2 (a := a')
      refine ⟨_, _, hrun, hR, ?_, fun _ => rfl⟩
      have hres : PR (isRo g) w (.sl (if full = true then .full else .no) m ((es.drop l).take (h - l))) (.slice (if (if full = true then h else cap) = l then a' else a'.map (·.add (l * m))) (h - l) ((if full = true then h else cap) - l)) := by
        simp only [PR]
        refine ⟨?_, _, _, by rw [hlen'], by split <;> omega, by split <;> omega, ?_, k5, ?_⟩
        · intro r lo
          cases full <;> simp
        · intro hf
          cases full
          · simp at hf
          · simp; omega
        by_cases hlh : h = l
        · exact .inl (by rw [hlh]; simp)
        · rcases k6 with rfl | ⟨ad, rfl, k7, k8⟩
          · exact .inl (by simp)
          · refine .inr ⟨ad.add (l * m), ?_, by rw [add_block]; exact k7, ?_⟩
            · rw [if_neg (by split <;> omega)]; rfl
            · have := PRe.sub es _ m 0 k8 l (h - l)
              rw [Nat.zero_add] at this
              exact PRe.shift _ _ m l 0 (by simpa using this)
      cases full with
      | true => simpa [VR] using hres
      | false => simpa [VR] using hres
    · cases ha
  · split at ha
    · rename_i hc
      obtain ⟨rfl, rfl⟩ := hc
      simp only [Option.some.injEq, Prod.mk.injEq] at ha
      obtain ⟨rfl, rfl⟩ := ha
      have hl : ([] : List (List AV)).length = len := hlen [] (by simp [elems])
      simp at hl
      subst hl
      simp only [VR] at hx
      subst hx
      have hrun := run_slice (w := w) ht1 ht2 (a := none) (len := 0) (cap := 0) hlo hhi full hmx hfh (Nat.le_refl 0) (Nat.le_refl 0) (Nat.le_refl 0)
      refine ⟨_, _, hrun, hR, ?_, fun _ => rfl⟩
      simp [VR]
    · cases ha
  · cases ha
end
end Go.Abs
