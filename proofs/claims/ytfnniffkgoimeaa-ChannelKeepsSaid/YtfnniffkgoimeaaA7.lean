/- Literals, make, slicing, stores into rows. -/
import Derived.Test.YtfnniffkgoimeaaA6
set_option linter.all false
namespace Go.Abs

/-- the cells of a zero value -/
def zeroOf (P : Program) (t : TypeId) : Option (List Value) := ((P.info? t).bind (·.zero)).map (·.cells.toList)

def vals (zs : List Value) : List AV := zs.map .v

/-- a value made of parts at their places -/
def fillA (place : Nat → Option (Nat × Nat)) (L : List AV) : List (Nat × AV) → Option (List AV)
  | [] => some L
  | (i, x) :: rest => match place i with
    | none => none
    | some (off, size) => if okCells x.cells = true ∧ x.cells.length = size ∧ off + size ≤ L.length then fillA place (cut L off x.cells) rest else none

def chunk (n : Nat) : Nat → List AV → List (List AV)
  | 0, _ => []
  | k + 1, L => L.take n :: chunk n k (L.drop n)

theorem chunk_len (n : Nat) : ∀ (k : Nat) (L : List AV), L.length = k * n → (chunk n k L).length = k ∧ (∀ e ∈ chunk n k L, e.length = n) ∧ (chunk n k L).flatten = L
  | 0, L, h => by
    have : L = [] := List.eq_nil_of_length_eq_zero (by simpa using h)
    subst this; simp [chunk]
  | k + 1, L, h => by
    have hn : n ≤ L.length := by rw [h, Nat.add_mul]; omega
    obtain ⟨h1, h2, h3⟩ := chunk_len n k (L.drop n) (by simp [h, Nat.add_mul])
    refine ⟨by simp [chunk, h1], fun e he => ?_, by simp [chunk, h3]⟩
    simp only [chunk] at he
    rcases List.mem_cons.1 he with rfl | he
    · simp; omega
    · exact h2 e he

section
variable {C : Ctx} {A : A0} {N : Nat} {g g' : Gh} {st : St} {a : Act} {w w' : World} {P : Program}

theorem VRs_vals (zs : List Value) : VRs g w (vals zs) zs := by
  induction zs with
  | nil => simp [vals, VRs]
  | cons z zs ih => simp only [vals, List.map_cons, VRs]; exact ⟨by simp [VR], ih⟩

theorem foldl_set (v : List Value) : ∀ (k off : Nat) (arr : Array Value), off + k + v.length ≤ arr.size →
    ((v.zipIdx k).foldl (fun cs (p : Value × Nat) => cs.setIfInBounds (off + p.2) p.1) arr).toList = arr.toList.take (off + k) ++ v ++ arr.toList.drop (off + k + v.length) := by
  induction v with
  | nil => intro k off arr _; simp
  | cons x v ih =>
    intro k off arr h
    simp only [List.length_cons] at h
    simp only [List.zipIdx_cons, List.foldl_cons]
    rw [ih (k + 1) off _ (by simp; omega)]
    simp only [Array.toList_setIfInBounds, List.length_cons]
    have hlt : off + k < arr.toList.length := by simp; omega
    rw [show off + (k + 1) = (off + k) + 1 from by omega]
    rw [List.take_succ_eq_append_getElem (by simpa using hlt)]
    simp only [List.getElem_set_self, List.take_set_of_le (Nat.le_refl _), List.append_assoc, List.cons_append]
    rw [List.drop_set_of_lt (by omega), show off + k + 1 + v.length = off + k + (v.length + 1) from by omega]
    rfl

theorem foldl_zip (v : Array Value) (off : Nat) (arr : Array Value) (h : off + v.size ≤ arr.size) :
    (v.zipIdx.foldl (fun cs (p : Value × Nat) => cs.setIfInBounds (off + p.2) p.1) arr).toList = arr.toList.take off ++ v.toList ++ arr.toList.drop (off + v.size) := by
  have := foldl_set v.toList 0 off arr (by simpa using h)
  simp only [Nat.add_zero, Array.length_toList] at this
  rw [← this, ← Array.foldl_toList]
  simp

theorem fill_sound (place : Nat → Option (Nat × Nat)) : ∀ (parts : List (Nat × AV)) (pv : List (Nat × Value)) (L : List AV) (cur : Array Value) (L' : List AV),
    parts.map (·.1) = pv.map (·.1) → VRs g w (parts.map (·.2)) (pv.map (·.2)) → VRs g w L cur.toList → fillA place L parts = some L' → ∃ cur', Instr.fill place cur pv = some cur' ∧ VRs g w L' cur'.toList
  | [], [], L, cur, L', _, _, hL, h => by
    simp only [fillA, Option.some.injEq] at h
    subst h
    exact ⟨cur, by simp [Instr.fill], hL⟩
  | [], _ :: _, _, _, _, h, _, _, _ => by simp at h
  | _ :: _, [], _, _, _, h, _, _, _ => by simp at h
  | (i, x) :: parts, (j, v) :: pv, L, cur, L', hi, hp, hL, h => by
    simp only [List.map_cons, List.cons.injEq] at hi
    obtain ⟨rfl, hi⟩ := hi
    simp only [List.map_cons, VRs] at hp
    simp only [fillA] at h
    split at h
    · cases h
    · rename_i off size hpl
      split at h
      · rename_i hc
        obtain ⟨ho, hs, hle⟩ := hc
        have hx := VR.cells hp.1 ho
        have hvs : v.cells.size = size := by rw [← hs, VRs.length hx]; simp
        have hcl : L.length = cur.size := by rw [VRs.length hL]; simp
        have hnot : ¬ (v.cells.size ≠ size ∨ off + v.cells.size > cur.size) := by omega
        have key := foldl_zip v.cells off cur (by omega)
        have := fill_sound place parts pv (cut L off x.cells) (v.cells.zipIdx.foldl (fun cs (p : Value × Nat) => cs.setIfInBounds (off + p.2) p.1) cur) L' hi hp.2 (by
          rw [key]
          unfold cut
          rw [hs, ← hvs]
          exact VRs.append (VRs.append (VRs.take off hL) hx) (VRs.drop _ hL)) h
        obtain ⟨cur', h1, h2⟩ := this
        refine ⟨cur', ?_, h2⟩
        have hnot' : (decide (v.cells.size ≠ size) || decide (off + v.cells.size > cur.size)) = false := by
          simp only [Bool.or_eq_false_iff, decide_eq_false_iff_not]; exact not_or.1 hnot
        simp only [Instr.fill, hpl, hnot', Bool.false_eq_true, if_false]
        exact h1
      · cases h

theorem pure_PR {S : List Nat} : ∀ {c p : AV} {u : Value}, VR g w c u → pureA c = some p → (∀ r ∈ rowsOf [c], r ∈ S) → okCell c = true → PR (isRo (g.freeze S)) w p u
  | .undef, _, _, _, _, _, ho => by simp [okCell] at ho
  | .v x, p, u, hv, hp, _, ho => by
    simp only [pureA, Option.some.injEq] at hp
    subst hp
    simp only [VR] at hv
    simp only [PR]
    exact ⟨hv, ho⟩
  | .sl (.own r 0) n es, p, u, hv, hp, hs, _ => by
    simp only [pureA, Option.some.injEq] at hp
    subst hp
    have := VR.freeze (S := S) _ u hv
    have hr : r ∈ S := hs r (by simp [rowsOf])
    simp only [AV.freeze, hr, if_true] at this
    simpa [VR] using this
  | .sl (.own r (lo + 1)) n es, p, u, hv, hp, hs, _ => by simp [pureA] at hp
  | .sl .no n es, p, u, hv, hp, hs, _ => by
    simp only [pureA, Option.some.injEq] at hp
    subst hp
    have := VR.freeze (S := S) _ u hv
    simpa [VR, AV.freeze] using this
  | .sl .full n es, p, u, hv, hp, hs, _ => by
    simp only [pureA, Option.some.injEq] at hp
    subst hp
    have := VR.freeze (S := S) _ u hv
    simpa [VR, AV.freeze] using this
  | .agg _, _, _, _, hp, _, _ => by simp [pureA] at hp
  | .tup _, _, _, _, hp, _, _ => by simp [pureA] at hp
  | .ptr _ _, _, _, _, hp, _, _ => by simp [pureA] at hp
  | .ep _ _ _ _, _, _, _, hp, _, _ => by simp [pureA] at hp
  | .fn _ _, _, _, _, hp, _, _ => by simp [pureA] at hp
  | .ifc _ _, _, _, _, hp, _, _ => by simp [pureA] at hp

theorem rowsOf_cons (c : AV) (cs : List AV) (r : Nat) : r ∈ rowsOf (c :: cs) ↔ r ∈ rowsOf [c] ∨ r ∈ rowsOf cs := by
  cases c with
  | sl t n es =>
    cases t with
    | own q lo => cases lo <;> simp [rowsOf]
    | _ => simp [rowsOf]
  | _ => simp [rowsOf]

theorem pure_PRl {S : List Nat} : ∀ {cs ps : List AV} {us : List Value}, VRs g w cs us → pureL cs = some ps → (∀ r ∈ rowsOf cs, r ∈ S) → okCells cs = true → PRl (isRo (g.freeze S)) w ps us
  | [], _, [], _, hp, _, _ => by simp [pureL] at hp; subst hp; simp [PRl]
  | [], _, _ :: _, h, _, _, _ => by simp [VRs] at h
  | _ :: _, _, [], h, _, _, _ => by simp [VRs] at h
  | c :: cs, ps, u :: us, h, hp, hs, ho => by
    simp only [VRs] at h
    simp only [okCells, Bool.and_eq_true] at ho
    simp only [pureL] at hp
    split at hp
    · rename_i x xs hx hxs
      simp only [Option.some.injEq] at hp
      subst hp
      simp only [PRl]
      exact ⟨pure_PR h.1 hx (fun r hr => hs r ((rowsOf_cons c cs r).2 (.inl hr))) ho.1, pure_PRl h.2 hxs (fun r hr => hs r ((rowsOf_cons c cs r).2 (.inr hr))) ho.2⟩
    · cases hp

end

/-- make -/
def makeA (k n : Nat) (zs : List Value) (st : St) (l c : Int) : Option (AV × St) :=
  if 0 ≤ l ∧ l ≤ c ∧ c ≤ 4294967296 ∧ okCells (vals zs) = true then some (.sl (.own k 0) n (List.replicate l.toNat (vals zs)), st.kill [k] []) else none

/-- a slice literal -/
def litA (k n len : Nat) (zs : List Value) (st : St) (parts : List (Nat × AV)) : Option (AV × St) :=
  match fillA (fun i => some (i * n, n)) (List.replicate len (vals zs)).flatten parts with
  | some L => match pureL L with
    | some ps => if okCells L = true ∧ ps.length = len * n ∧ len * n ≤ 16777216 then some (.sl (.own k 0) n (chunk n len ps), (st.freeze (rowsOf L)).kill [k] []) else none
    | none => none
  | none => none

section
variable {C : Ctx} {A : A0} {N : Nat} {g g' : Gh} {st : St} {a : Act} {w w' : World} {P : Program}

theorem zeroOf_spec {t : TypeId} {zs : List Value} {i : TypeInfo} {z : Value} (h : zeroOf P t = some zs) (hi : P.info? t = some i) (hz : i.zero = some z) : zs = z.cells.toList := by
  simp [zeroOf, hi, hz] at h
  exact h.symm

theorem flatten_replicate_get (zs : List Value) : ∀ (l j : Nat) (v : Value), (List.replicate l zs).flatten[j]? = some v → zs[j % zs.length]? = some v ∧ j < l * zs.length
  | 0, j, v, h => by simp at h
  | l + 1, j, v, h => by
    rw [List.replicate_succ, List.flatten_cons, List.getElem?_append] at h
    split at h
    · rename_i hj
      rw [Nat.mod_eq_of_lt hj]
      exact ⟨h, by rw [Nat.add_mul]; omega⟩
    · rename_i hj
      obtain ⟨h1, h2⟩ := flatten_replicate_get zs l _ v h
      refine ⟨?_, by rw [Nat.add_mul]; omega⟩
      rwa [Nat.mod_eq_sub_mod (by omega)]

theorem PRl_vals {ro : Nat → Prop} : ∀ (zs : List Value), okCells (vals zs) = true → PRl ro w (vals zs) zs
  | [], _ => by simp [vals, PRl]
  | z :: zs, h => by
    simp only [vals, List.map_cons, okCells, Bool.and_eq_true, okCell] at h
    simp only [vals, List.map_cons, PRl, PR]
    exact ⟨⟨trivial, h.1⟩, PRl_vals zs h.2⟩
theorem PRl_replicate {ro : Nat → Prop} {cs : List AV} {us : List Value} (h : PRl ro w cs us) : ∀ l : Nat, PRl ro w (List.replicate l cs).flatten (List.replicate l us).flatten
  | 0 => by simp [PRl]
  | l + 1 => by
    rw [List.replicate_succ, List.replicate_succ, List.flatten_cons, List.flatten_cons]
    exact PRl.append h (PRl_replicate h l)

theorem make_sound (hR : R C A N g st a w) {t e n b k : Nat} {zs : List Value} (ht : rowInf P t = some (e, n, b)) (hzs : zeroOf P e = some zs) {kl kc : IntKind} {l c : Int} {z : AV} {st' : St} (ha : makeA k n zs st l c = some (z, st')) :
    ∃ u w' g', (Instr.makeSlice t (.int kl l) (.int kc c)).run P w = .ok u w' ∧ R C A N g' st' a w' ∧ VR g' w' z u := by
  obtain ⟨hu, i, zv, hi, hz, hzsz, hsz, hby, hn, hb⟩ := rowInf_spec ht
  have hzz := zeroOf_spec hzs hi hz
  unfold makeA at ha
  split at ha
  · rename_i hc
    obtain ⟨h0, hlc, hmax, hok⟩ := hc
    simp only [Option.some.injEq, Prod.mk.injEq] at ha
    obtain ⟨rfl, rfl⟩ := ha
    have hbytes : (i.bytes : Int) * c ≤ 281474976710656 := by
      have : (i.bytes : Int) * c ≤ 32768 * 4294967296 := Int.mul_le_mul (by omega) hmax (by omega) (by omega)
      omega
    have hrun := run_make (P := P) w t e i zv hu hi hz kl kc l c h0 hlc hbytes (by omega)
    have hzl : zs.length = n := by rw [hzz]; simpa using hzsz
    obtain ⟨g', k1, k2⟩ := hR.newRow k [k] (by simp) (madeCells zv.cells (c.toNat * i.size)) e n c.toNat (List.replicate l.toNat (vals zs)) (List.replicate l.toNat zs).flatten hn
      (fun e' he => by rw [List.eq_of_mem_replicate he]; simp [vals, hzl])
      (PRl_replicate (PRl_vals zs hok) _)
      (by rw [size_madeCells, hsz]) (by simp; omega) (by simp only [maxLen]; omega)
      (fun j v hj => by
        obtain ⟨h1, h2⟩ := flatten_replicate_get zs _ _ _ hj
        have hjlt : j < c.toNat * i.size := by
          rw [hzl] at h2
          rw [hsz]
          exact Nat.lt_of_lt_of_le h2 (Nat.mul_le_mul_right _ (by omega))
        simp only [madeCells]
        rw [Array.getElem?_map, Array.getElem?_range, if_pos hjlt]
        simp only [Option.map_some]
        rw [hzz] at h1
        simp only [Array.length_toList, Array.getElem?_toList] at h1
        rw [getElem!_def, h1])
    refine ⟨_, _, g', hrun, k1, ?_⟩
    simpa using k2
  · cases ha

theorem lit_sound (hR : R C A N g st a w) {t e n b k len : Nat} {zs : List Value} (ht : rowInf P t = some (e, n, b)) (hzs : zeroOf P e = some zs) {parts : List (Nat × AV)} {pv : List (Nat × Value)}
    (hp1 : parts.map (·.1) = pv.map (·.1)) (hp2 : VRs g w (parts.map (·.2)) (pv.map (·.2))) {z : AV} {st' : St} (ha : litA k n len zs st parts = some (z, st')) :
    ∃ u w' g', (Instr.buildSlice t len pv.toArray).run P w = .ok u w' ∧ R C A N g' st' a w' ∧ VR g' w' z u := by
  obtain ⟨hu, i, zv, hi, hz, hzsz, hsz, hby, hn, hb⟩ := rowInf_spec ht
  have hzz := zeroOf_spec hzs hi hz
  have hzl : zs.length = n := by rw [hzz]; simpa using hzsz
  unfold litA at ha
  split at ha
  · rename_i L hL
    split at ha
    · rename_i ps hps
      split at ha
      · rename_i hc
        obtain ⟨hok, hpl, hbig⟩ := hc
        simp only [Option.some.injEq, Prod.mk.injEq] at ha
        obtain ⟨rfl, rfl⟩ := ha
        have hz0 : VRs g w (List.replicate len (vals zs)).flatten (List.replicate len zs).flatten := by
          have : ∀ m : Nat, VRs g w (List.replicate m (vals zs)).flatten (List.replicate m zs).flatten := by
            intro m
            induction m with
            | zero => simp [VRs]
            | succ m ih => rw [List.replicate_succ, List.replicate_succ, List.flatten_cons, List.flatten_cons]; exact VRs.append (VRs_vals zs) ih
          exact this len
        have harr : ((Array.range (len * n)).map (zv.cells[· % zv.cells.size]!)).toList = (List.replicate len zs).flatten := by
          apply List.ext_getElem?
          intro j
          cases hj : (List.replicate len zs).flatten[j]? with
          | none =>
            have : len * n ≤ j := by
              have := List.getElem?_eq_none_iff.1 hj
              simpa [List.length_flatten, hzl, Nat.mul_comm] using this
            simp; omega
          | some v =>
            obtain ⟨h1, h2⟩ := flatten_replicate_get zs _ _ _ hj
            rw [hzl] at h2
            simp only [Array.getElem?_toList, Array.getElem?_map, Array.getElem?_range, if_pos h2, Option.map_some]
            rw [hzz] at h1
            simp only [Array.length_toList, Array.getElem?_toList] at h1
            rw [getElem!_def, h1]
        obtain ⟨cur, hf, hcur⟩ := fill_sound (fun i => some (i * n, n)) parts pv _ ((Array.range (len * n)).map (zv.cells[· % zv.cells.size]!)) L hp1 hp2 (by rw [harr]; exact hz0) hL
        have hLl : L.length = len * n := by
          rw [← hpl]
          have : ∀ (cs ps : List AV), pureL cs = some ps → ps.length = cs.length := by
            intro cs
            induction cs with
            | nil => intro ps h; simp [pureL] at h; simp [← h]
            | cons c cs ih =>
              intro ps h
              simp only [pureL] at h
              split at h
              · rename_i x xs hx hxs
                simp at h; subst h; simp [ih xs hxs]
              · cases h
          exact (this L ps hps).symm
        obtain ⟨c1, c2, c3⟩ := chunk_len n len ps hpl
        have hpr := pure_PRl (S := rowsOf L) hcur hps (fun r hr => hr) hok
        obtain ⟨g', k1, k2⟩ := (hR.freeze (rowsOf L)).newRow k [k] (by simp) cur e n len (chunk n len ps) cur.toList hn c2 (by rw [c3]; exact hpr)
          (by have := VRs.length hcur; simp at this; omega) (by omega) (by simp only [maxLen]; have := Nat.le_mul_of_pos_right len hn; omega)
          (fun j v hj => by simpa using hj)
        refine ⟨_, _, g', ?_, k1, k2⟩
        have hnb : ¬ (len * n > 2 ^ 24) := by omega
        have hf' : Instr.fill (fun i => some (i * n, n)) (if len * n = 0 then #[] else (Array.range (len * n)).map (zv.cells[· % zv.cells.size]!)) pv = some cur := by
          by_cases h0 : len * n = 0
          · rw [h0] at hf ⊢; simpa [Array.range_zero'] using hf
          · simpa [h0] using hf
        rw [c1]
        by_cases h0 : len * n = 0
        · simp only [h0, if_true] at hf'
          simp [Instr.buildSlice, run_underlying hu, sizeOf, typeInfo, hi, hsz, h0, Array.range_zero', hf', newRow]
        · simp only [h0, if_false] at hf'
          simp [Instr.buildSlice, run_underlying hu, sizeOf, typeInfo, hi, hsz, h0, zeroValue, hz, hf', newRow]
          exact hbig
      · cases ha
    · cases ha
  · cases ha
end
end Go.Abs
