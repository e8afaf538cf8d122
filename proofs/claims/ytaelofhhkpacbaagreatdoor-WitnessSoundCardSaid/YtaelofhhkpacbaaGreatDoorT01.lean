/- part 1 of the proof -/
import Derived.Laws.CopyOwn
import Derived.WalkLawsBesides
import Derived.Test.YtaelofhhkpacbaaGreatDoorT00
set_option linter.all false
/- The steps, kind by kind: what the evaluator makes of an operation, and that the model does the same. -/
namespace Go.Abs

def szOf (P : Program) (t : TypeId) : Option Nat := (P.info? t).map (·.size)
def aggOf (P : Program) (t : TypeId) : Option Bool := (P.underlying t).map fun
  | .struct _ | .array _ _ => true
  | _ => false

def AV.cells : AV → List AV
  | .agg cs => cs
  | x => [x]

/-- may it be stored in one cell -/
def okCell : AV → Bool
  | .v x => x.oneCell'
  | .sl _ _ _ | .ptr _ _ | .ep _ _ _ _ | .fn _ _ | .mv _ _ | .ifc _ _ | .mp _ => true
  | _ => false
def okCells : List AV → Bool
  | [] => true
  | c :: cs => okCell c && okCells cs

def Does (P : Program) (o : Oper) (a : Act) (w : World) (u : Value) (w' : World) : Prop :=
  (execOp a.eval o).run P w = .ok (.value u) w' ∨ ((execOp a.eval o).run P w = .ok .skip w' ∧ u = undef)

theorem Does.wp {P : Program} {o : Oper} {a : Act} {w w' : World} {u : Value} {K : Act → World → Prop} {Q : Exit → Act → World → Prop} (h : Does P o a w u w') (hk : K (a.put o.dst u) w') : o.wp P a w K Q := by
  unfold Oper.wp
  rcases h with h | ⟨h, rfl⟩ <;> rw [h] <;> exact hk

theorem does_pure {P : Program} {o : Oper} {a : Act} {w w' : World} {u : Value} {s : Sem Value} (ho : execOp a.eval o = (do pure (.value (← s)))) (h : s.run P w = .ok u w') : Does P o a w u w' := by
  refine .inl ?_
  rw [ho]
  simp [h]

section
variable {P : Program} {w : World}
theorem run_typeInfo {t : TypeId} {i : TypeInfo} (h : P.info? t = some i) : (typeInfo t).run P w = .ok i w := by simp [typeInfo, h]
theorem run_sizeOf {t : TypeId} {n : Nat} (h : szOf P t = some n) : (sizeOf t).run P w = .ok n w := by
  unfold szOf at h
  obtain ⟨i, hi, rfl⟩ := Option.map_eq_some_iff.1 h
  simp [sizeOf, run_typeInfo hi]
theorem run_isAgg {t : TypeId} {b : Bool} (h : aggOf P t = some b) : (isAgg t).run P w = .ok b w := by
  unfold aggOf at h
  obtain ⟨d, hd, rfl⟩ := Option.map_eq_some_iff.1 h
  unfold isAgg
  rw [Sem.run_bind, run_underlying hd]
  cases d <;> simp
theorem run_loadVar_agg {t : TypeId} {n : Nat} {a : Addr} {us : List Value} (h1 : aggOf P t = some true) (h2 : szOf P t = some n) (hl : us.length = n) (hc : ∀ i v, us[i]? = some v → w.cell? (a.add i) = some v) :
    (loadVar t a).run P w = .ok (.agg us.toArray) w := by
  unfold loadVar
  subst hl
  simp only [Sem.run_bind, run_isAgg h1, Result.andThen_ok, if_true, run_sizeOf h2, run_loadCells_list w a us hc, Sem.run_pure]
theorem run_loadVar_one {t : TypeId} {a : Addr} {u : Value} (h1 : aggOf P t = some false) (hc : w.cell? a = some u) : (loadVar t a).run P w = .ok u w := by
  unfold loadVar
  simp only [Sem.run_bind, run_isAgg h1, Result.andThen_ok]
  simp [hc]
end

/-- the cells of a variable as a value -/
def mkA (agg : Bool) : List AV → Option AV
  | cs => if agg then some (.agg cs) else match cs with
    | [c] => some c
    | _ => none

def loadA (agg : Bool) (n : Nat) (objs : List (Nat × List AV)) : AV → Option AV
  | .ptr s off => match lk s objs with
    | some cs => if off + n ≤ cs.length then mkA agg ((cs.drop off).take n) else none
    | none => none
  | .ep _ _ cs off => if off + n ≤ cs.length then mkA agg ((cs.drop off).take n) else none
  | .hnd .dp r i _ _ m bss => if n = 1 then mkA agg [.hnd .isl r i 0 0 m bss] else none
  | .hnd .iep _ _ _ off _ [[c]] => if off + n ≤ c.length then mkA agg ((c.drop off).take n) else none
  | .mem false [x] => if n = 1 then mkA agg [x] else none
  | _ => none

section
variable {C : Ctx} {A : A0} {N : Nat} {g g' : Gh} {st : St} {a : Act} {w w' : World}

/-- a variable that reads as cells, loaded -/
theorem load_cells {P : Program} {t : TypeId} {agg : Bool} {n : Nat} {ad : Addr} {cs : List AV} {us : List Value} {x : AV} (h1 : aggOf P t = some agg) (h2 : szOf P t = some n) (hv : VRs g w cs us) (hl : cs.length = n)
    (hc : ∀ i v, us[i]? = some v → w.cell? (ad.add i) = some v) (hx : mkA agg cs = some x) : ∃ u, (loadVar t ad).run P w = .ok u w ∧ VR g w x u := by
  have hul : us.length = n := by rw [← VRs.length hv, hl]
  cases agg with
  | true =>
    simp only [mkA, if_true, Option.some.injEq] at hx
    subst hx
    exact ⟨_, run_loadVar_agg h1 h2 hul hc, us.toArray, rfl, by simpa using hv⟩
  | false =>
    simp only [mkA, Bool.false_eq_true, if_false] at hx
    match cs, us, hv, hx with
    | [c], [u], hv, hx =>
      simp at hx; subst hx
      simp only [VRs] at hv
      have h0 := hc 0 u (by simp)
      simp only [Addr.add_zero'] at h0
      exact ⟨u, run_loadVar_one h1 h0, hv.1⟩
    | [_], [], hv, _ => simp [VRs] at hv
    | [_], _ :: _ :: _, hv, _ => simp [VRs] at hv

theorem epCells {t : Tag} {i : Nat} {cs : List AV} {off : Nat} {u : Value} (h : EpAt g w t i cs off u) :
    ∃ (ad : Addr) (us : List Value), u = .pointer (some ad) ∧ VRs g w (cs.drop off) us ∧ ∀ j v, us[j]? = some v → w.cell? (ad.add j) = some v := by
  cases t with
  | own r lo =>
    simp only [EpAt] at h
    obtain ⟨cur, T, h1, h2, h3, h4, h5⟩ := h
    obtain ⟨us, k1, k2⟩ := PRc.list cs _ 0 h5
    refine ⟨_, us.drop off, h1, PRl.VRs (PRl.drop off k1), fun j v hv => ?_⟩
    rw [List.getElem?_drop] at hv
    have := k2 _ v hv
    rw [add_lit] at this ⊢
    rw [show i * cs.length + off + j = i * cs.length + (0 + (off + j)) from by omega]
    exact this
  | no =>
    simp only [EpAt] at h
    obtain ⟨ad, h1, h0, h2, h3⟩ := h
    obtain ⟨us, k1, k2⟩ := PRc.list cs _ 0 h3
    refine ⟨_, us.drop off, h1, PRl.VRs (PRl.drop off k1), fun j v hv => ?_⟩
    rw [List.getElem?_drop] at hv
    have := k2 _ v hv
    rw [add_add]
    simpa using this
  | full =>
    simp only [EpAt] at h
    obtain ⟨ad, h1, h0, h2, h3⟩ := h
    obtain ⟨us, k1, k2⟩ := PRc.list cs _ 0 h3
    refine ⟨_, us.drop off, h1, PRl.VRs (PRl.drop off k1), fun j v hv => ?_⟩
    rw [List.getElem?_drop] at hv
    have := k2 _ v hv
    rw [add_add]
    simpa using this

theorem boxCells {s : Nat} {cs : List AV} (h : ObjAt g w s cs) (hmp : isMap s = false) (off : Nat) : ∃ us : List Value, VRs g w (cs.drop off) us ∧ ∀ j v, us[j]? = some v → w.cell? ((⟨g.box s, off, none⟩ : Addr).add j) = some v := by
  obtain ⟨cur, T, h2, h3⟩ := h.cells hmp
  refine ⟨cur.toList.drop off, VRs.drop off h3, fun j v hv => ?_⟩
  rw [List.getElem?_drop] at hv
  rw [add_lit, cell_of_row _ _ _ _ _ _ h2]
  simpa using hv

theorem load_sound {P : Program} (hR : R C A N g st a w) {t : TypeId} {agg : Bool} {n : Nat} (h1 : aggOf P t = some agg) (h2 : szOf P t = some n) {x : AV} {p : AV} {up : Value} (hp : VR g w p up)
    (hx : loadA agg n st.objs p = some x) : ∃ u, (Instr.loadAt t up).run P w = .ok u w ∧ VR g w x u := by
  unfold loadA at hx
  split at hx
  · rename_i s off
    split at hx
    · rename_i cs hs
      split at hx
      · rename_i hle
        simp only [VR] at hp
        obtain ⟨hmp, rfl⟩ := hp
        obtain ⟨us, k1, k2⟩ := boxCells (hR.ob s cs hs) hmp off
        have := load_cells h1 h2 (VRs.take n k1) (by simp; omega) (ad := ⟨g.box s, off, none⟩) (fun i v hv => by
          rw [List.getElem?_take] at hv
          split at hv
          · exact k2 i v hv
          · cases hv) hx
        simpa [Instr.loadAt, Instr.sureAddr] using this
      · cases hx
    · cases hx
  · rename_i t' i cs off
    split at hx
    · rename_i hle
      simp only [VR] at hp
      obtain ⟨ad, us, rfl, k1, k2⟩ := epCells hp
      have := load_cells h1 h2 (VRs.take n k1) (by simp; omega) (ad := ad) (fun i v hv => by
          rw [List.getElem?_take] at hv
          split at hv
          · exact k2 i v hv
          · cases hv) hx
      simpa [Instr.loadAt, Instr.sureAddr] using this
    · cases hx
  · rename_i r i j off m bss
    split at hx
    · rename_i hn1
      subst hn1
      simp only [VR] at hp
      obtain ⟨hm, b, rfl, cur, T, v, rfl, k4, k5, k6, k7⟩ := hp
      have hv : VRs g w [.hnd .isl r i 0 0 m [b]] [v] := by
        simp only [VRs, VR]
        exact ⟨⟨hm, b, rfl, k7⟩, trivial⟩
      have := load_cells h1 h2 hv rfl (ad := ⟨g.row r, i, none⟩) (fun q v' hv' => by
        match q, hv' with
        | 0, hv' =>
          simp at hv'; subst hv'
          rw [add_lit, cell_of_row _ _ _ _ _ _ k5]
          exact k6
        | q + 1, hv' => simp at hv') hx
      simpa [Instr.loadAt, Instr.sureAddr] using this
    · cases hx
  · rename_i r i j off m c
    split at hx
    · rename_i hle
      simp only [VR] at hp
      obtain ⟨hm, c', hc, hcl, cur, T, rfl, k4, k5, k6, k7⟩ := hp
      simp only [List.cons.injEq, and_true] at hc
      subst hc
      obtain ⟨us, e1, e2⟩ := PRc.list c _ 0 k7
      have := load_cells h1 h2 (VRs.take n (PRl.VRs (PRl.drop off e1))) (by simp; omega) (ad := ⟨g.inn r i, j * m + off, none⟩) (fun q v' hv' => by
        rw [List.getElem?_take] at hv'
        split at hv'
        · rw [List.getElem?_drop] at hv'
          have := e2 _ v' hv'
          rw [add_lit] at this ⊢
          rw [show j * m + off + q = j * m + (0 + (off + q)) from by omega]
          exact this
        · cases hv') hx
      simpa [Instr.loadAt, Instr.sureAddr] using this
    · cases hx
  · rename_i y
    split at hx
    · rename_i hn1
      subst hn1
      simp only [VR, MemU] at hp
      obtain ⟨ad, vs, _, hc, hv, rfl⟩ := hp
      have := load_cells h1 h2 hv rfl (ad := ad) (fun q v' hv' => by
        have hq : q < vs.length := by
          rcases Nat.lt_or_ge q vs.length with h | h
          · exact h
          · rw [List.getElem?_eq_none h] at hv'; cases hv'
        rw [hc.2 q hq]; exact hv') hx
      simpa [Instr.loadAt, Instr.sureAddr] using this
    · cases hx
  · cases hx
end
end Go.Abs
/- Addresses, boxes, stores. -/
namespace Go.Abs

def offOf (P : Program) (s : TypeId) (f : Nat) : Option Nat :=
  match P.underlying s with
  | some (.struct fs) => match fs[f]? with
    | some fd => match szOf P fd.type with
      | some (_ + 1) => some fd.offset
      | _ => none
    | none => none
  | _ => none

def fieldA (off : Nat) : AV → Option AV
  | .ptr s o => some (.ptr s (o + off))
  | .ep t i cs o => some (.ep t i cs (o + off))
  | _ => none

def elemOfSlice (P : Program) (t : TypeId) : Option (TypeId × Nat) :=
  match P.underlying t with
  | some (.slice e) => (szOf P e).map fun n => (e, n)
  | _ => none
def elemOfArray (P : Program) (t : TypeId) : Option (Nat × Nat) :=
  match P.underlying t with
  | some (.array len e) => (szOf P e).map fun n => (len, n)
  | _ => none

/-- the address of an element of a slice -/
def indexS (n : Nat) (i : Int) : AV → Option AV
  | .sl (.own r lo) m es => if m = n ∧ 0 ≤ i then match es[i.toNat]? with
    | some c => some (.ep (.own r 0) (lo + i.toNat) c 0)
    | none => none
    else none
  | .sl t m es => if m = n ∧ 0 ≤ i then match es[i.toNat]? with
    | some c => some (.ep .no i.toNat c 0)
    | none => none
    else none
  | .hnd .dsl r _ _ _ m bss => if n = 1 ∧ 0 ≤ i then match bss[i.toNat]? with
    | some b => some (.hnd .dp r i.toNat 0 0 m [b])
    | none => none
    else none
  | .hnd .isl r q _ _ m [b] => if m = n ∧ 0 ≤ i then match b[i.toNat]? with
    | some c => some (.hnd .iep r q i.toNat 0 m [[c]])
    | none => none
    else none
  | .mem true xs => if n = 1 ∧ 0 ≤ i then match xs[i.toNat]? with
    | some c => some (.mem false [c])
    | none => none
    else none
  | _ => none
def indexR (len n : Nat) (i : Int) : AV → Option AV
  | .ptr s o => if 0 ≤ i ∧ i < len then some (.ptr s (o + i.toNat * n)) else none
  | .ep t j cs o => if 0 ≤ i ∧ i < len then some (.ep t j cs (o + i.toNat * n)) else none
  | _ => none

section
variable {C : Ctx} {A : A0} {N : Nat} {g g' : Gh} {st : St} {a : Act} {w w' : World} {P : Program}

theorem ep_add {t : Tag} {i : Nat} {cs : List AV} {o k : Nat} {u : Value} (h : EpAt g w t i cs o u) : ∃ ad : Addr, u = .pointer (some ad) ∧ EpAt g w t i cs (o + k) (.pointer (some (ad.add k))) := by
  cases t with
  | own r lo =>
    simp only [EpAt] at h ⊢
    obtain ⟨cur, T, h1, h2⟩ := h
    refine ⟨_, h1, cur, T, ?_, h2⟩
    rw [add_lit, Nat.add_assoc]
  | no =>
    simp only [EpAt] at h ⊢
    obtain ⟨ad, h1, h2⟩ := h
    exact ⟨_, h1, ad, by rw [add_add], h2⟩
  | full =>
    simp only [EpAt] at h ⊢
    obtain ⟨ad, h1, h2⟩ := h
    exact ⟨_, h1, ad, by rw [add_add], h2⟩

theorem field_sound {s f off : Nat} (ho : offOf P s f = some off) {p x : AV} {up : Value} (hp : VR g w p up) (hx : fieldA off p = some x) : ∃ u, (Instr.fieldAt s up f).run P w = .ok u w ∧ VR g w x u := by
  unfold offOf at ho
  split at ho
  · rename_i fs hs
    split at ho
    · rename_i fd hf
      split at ho
      · rename_i k hk
        simp at ho; subst ho
        have run : ∀ ad : Addr, (Instr.fieldAt s (.pointer (some ad)) f).run P w = .ok (.pointer (some (ad.add fd.offset))) w := fun ad => by
          simp [Instr.fieldAt, run_underlying hs, hf, Instr.sureAddr, fieldPlace, run_sizeOf hk]
        unfold fieldA at hx
        split at hx
        · simp at hx; subst hx
          simp only [VR] at hp; obtain ⟨hmp, rfl⟩ := hp
          refine ⟨_, run _, ?_⟩
          simp only [VR, add_lit, hmp, and_self]
        · simp at hx; subst hx
          simp only [VR] at hp
          obtain ⟨ad, rfl, h2⟩ := ep_add (k := fd.offset) hp
          exact ⟨_, run _, h2⟩
        · cases hx
      · cases ho
    · cases ho
  · cases ho

theorem indexS_sound {t : TypeId} {e : TypeId} {n : Nat} (ht : elemOfSlice P t = some (e, n)) {k : IntKind} {i : Int} {p x : AV} {up : Value} (hp : VR g w p up) (hx : indexS n i p = some x) :
    ∃ u, (Instr.indexAt t up (.int k i)).run P w = .ok u w ∧ VR g w x u := by
  unfold elemOfSlice at ht
  split at ht
  · rename_i e' hs
    obtain ⟨n', hn, he⟩ := Option.map_eq_some_iff.1 ht
    simp only [Prod.mk.injEq] at he
    obtain ⟨rfl, rfl⟩ := he
    have run : ∀ (ad : Addr) (len cap : Nat), 0 ≤ i → i < len → (Instr.indexAt t (.slice (some ad) len cap) (.int k i)).run P w = .ok (.pointer (some (ad.add (i.toNat * n')))) w := fun ad len cap h0 h1 => by
      simp [Instr.indexAt, asIntOf, run_underlying hs, h0, h1, run_sizeOf hn]
    unfold indexS at hx
    split at hx
    · rename_i r lo m es
      split at hx
      · rename_i hc
        obtain ⟨rfl, h0⟩ := hc
        split at hx
        · rename_i c hc
          simp at hx; subst hx
          have hlt : i.toNat < es.length := by
            rcases Nat.lt_or_ge i.toNat es.length with h | h
            · exact h
            · rw [List.getElem?_eq_none h] at hc; cases hc
          simp only [VR, OwnSl] at hp
          obtain ⟨hm, ⟨_, h2⟩ | ⟨_, h2, _⟩ | ⟨cap, cur, T, h1, h2, h3, h5, h6, h7, h8⟩⟩ := hp
          · subst h2; simp at hlt
          · subst h2; simp at hlt
          · subst h1
            refine ⟨_, run _ _ _ h0 (by omega), ?_⟩
            obtain ⟨hcl, hcp⟩ := PRe.at_ es _ m 0 h8 _ _ hc
            simp only [VR, EpAt]
            refine ⟨cur, T, ?_, h5, h6, ?_, ?_⟩
            · rw [add_lit, hcl, Nat.add_mul]; simp
            · rw [hcl, h7]
              exact Nat.mul_le_mul_right _ (by omega)
            · have := PRc.shift c ⟨g.row r, lo * m, none⟩ ((0 + i.toNat) * m) 0 hcp
              rw [add_lit] at this
              rwa [hcl, Nat.add_mul, show lo * m + i.toNat * m = lo * m + (0 + i.toNat) * m from by simp]
        · cases hx
      · cases hx
    · rename_i t' m es hno
      split at hx
      · rename_i hc
        obtain ⟨rfl, h0⟩ := hc
        split at hx
        · rename_i c hc
          simp at hx; subst hx
          have hlt : i.toNat < es.length := by
            rcases Nat.lt_or_ge i.toNat es.length with h | h
            · exact h
            · rw [List.getElem?_eq_none h] at hc; cases hc
          have hp' : PR (isRo g) w (.sl t' m es) up := by
            cases t' with
            | own r lo => exact absurd rfl (hno r lo)
            | no => simpa [VR] using hp
            | full => simpa [VR] using hp
          simp only [PR] at hp'
          obtain ⟨_, ad', cap, h1, h2, h3, h4, h5, h6 | ⟨ad, h6, h7, h8⟩⟩ := hp'
          · subst h6; simp at hlt
          · subst h6; subst h1
            refine ⟨_, run _ _ _ h0 (by omega), ?_⟩
            obtain ⟨hcl, hcp⟩ := PRe.at_ es _ m 0 h8 _ _ hc
            simp only [VR, EpAt]
            refine ⟨ad.add (i.toNat * m), by rw [Addr.add_zero'], by omega, by rw [add_block]; exact h7, ?_⟩
            exact PRc.shift c ad (i.toNat * m) 0 (by simpa using hcp)
        · cases hx
      · cases hx
    · rename_i r _ _ _ m bss
      split at hx
      · rename_i hc
        obtain ⟨rfl, h0⟩ := hc
        split at hx
        · rename_i b hb
          simp at hx; subst hx
          have hlt : i.toNat < bss.length := by
            rcases Nat.lt_or_ge i.toNat bss.length with h | h
            · exact h
            · rw [List.getElem?_eq_none h] at hb; cases hb
          simp only [VR] at hp
          obtain ⟨hm, ⟨_, h2⟩ | ⟨cap, cur, T, h1, h2, h3, h5, h6, h7, h8⟩⟩ := hp
          · subst h2; simp at hlt
          · subst h1
            refine ⟨_, run _ _ _ h0 (by omega), ?_⟩
            obtain ⟨v, hv, hi⟩ := h8 _ _ hb
            simp only [VR]
            exact ⟨hm, b, rfl, cur, T, v, by rw [add_lit]; simp, h5, h6, hv, hi⟩
        · cases hx
      · cases hx
    · rename_i r q _ _ m b
      split at hx
      · rename_i hc
        obtain ⟨rfl, h0⟩ := hc
        split at hx
        · rename_i c hc
          simp at hx; subst hx
          have hlt : i.toNat < b.length := by
            rcases Nat.lt_or_ge i.toNat b.length with h | h
            · exact h
            · rw [List.getElem?_eq_none h] at hc; cases hc
          simp only [VR] at hp
          obtain ⟨hm, b', hbb, hi⟩ := hp
          simp only [List.cons.injEq, and_true] at hbb
          subst hbb
          rcases hi with ⟨h2, _⟩ | ⟨cap, cur, T, h1, h2, h3, h5, h6, h7, h8⟩
          · subst h2; simp at hlt
          · subst h1
            refine ⟨_, run _ _ _ h0 (by omega), ?_⟩
            obtain ⟨hcl, hcp⟩ := PRe.at_ b _ m 0 h8 _ _ hc
            simp only [VR]
            refine ⟨hm, c, rfl, hcl, cur, T, by rw [add_lit]; simp, h5, h6, ?_, ?_⟩
            · rw [h7]; exact Nat.mul_le_mul_right _ (by omega)
            · have := PRc.shift c ⟨g.inn r q, 0, none⟩ ((0 + i.toNat) * m) 0 hcp
              rw [add_lit] at this
              simpa using this
        · cases hx
      · cases hx
    · rename_i xs
      split at hx
      · rename_i hc
        obtain ⟨rfl, h0⟩ := hc
        split at hx
        · rename_i c hc
          simp at hx; subst hx
          simp only [VR, MemU] at hp
          obtain ⟨ad, vs, q1, q2, q3, cap, rfl, q4, q5⟩ := hp
          obtain ⟨v, e1, e2⟩ := VRs.get q3 _ _ hc
          have hlt : i.toNat < vs.length := by
            rcases Nat.lt_or_ge i.toNat vs.length with h | h
            · exact h
            · rw [List.getElem?_eq_none h] at e1; cases e1
          refine ⟨_, run _ _ _ h0 (by omega), ?_⟩
          simp only [VR, MemU, Nat.mul_one]
          refine ⟨ad.add i.toNat, [v], by rw [add_block]; exact q1, ⟨by simp, fun k hk => ?_⟩, by simp only [VRs]; exact ⟨e2, trivial⟩, rfl⟩
          have hk0 : k = 0 := by simp at hk; omega
          subst hk0
          rw [Addr.add_zero', q2.2 _ hlt, e1]; rfl
        · cases hx
      · cases hx
    · cases hx
  · cases ht

theorem indexR_sound {t : TypeId} {len n : Nat} (ht : elemOfArray P t = some (len, n)) {k : IntKind} {i : Int} {p x : AV} {up : Value} (hp : VR g w p up) (hx : indexR len n i p = some x) :
    ∃ u, (Instr.indexAt t up (.int k i)).run P w = .ok u w ∧ VR g w x u := by
  unfold elemOfArray at ht
  split at ht
  · rename_i len' e' hs
    obtain ⟨n', hn, he⟩ := Option.map_eq_some_iff.1 ht
    simp only [Prod.mk.injEq] at he
    obtain ⟨rfl, rfl⟩ := he
    have run : ∀ (ad : Addr), 0 ≤ i → i < len' → (Instr.indexAt t (.pointer (some ad)) (.int k i)).run P w = .ok (.pointer (some (ad.add (i.toNat * n')))) w := fun ad h0 h1 => by
      simp [Instr.indexAt, asIntOf, run_underlying hs, Instr.sureAddr, h0, h1, run_sizeOf hn]
    unfold indexR at hx
    split at hx
    · split at hx
      · rename_i hc
        simp at hx; subst hx
        simp only [VR] at hp; obtain ⟨hmp, rfl⟩ := hp
        refine ⟨_, run _ hc.1 hc.2, ?_⟩
        simp only [VR, add_lit, hmp, and_self]
      · cases hx
    · split at hx
      · rename_i hc
        simp at hx; subst hx
        simp only [VR] at hp
        obtain ⟨ad, rfl, h2⟩ := ep_add (k := i.toNat * n') hp
        exact ⟨_, run _ hc.1 hc.2, h2⟩
      · cases hx
    · cases hx
  · cases ht

theorem okCell_one {c : AV} {u : Value} (h : okCell c = true) (hv : VR g w c u) : u.oneCell' = true := by
  cases c with
  | v x => simp only [VR] at hv; subst hv; exact h
  | sl t n es =>
    cases t with
    | own r lo =>
      simp only [VR, OwnSl] at hv
      obtain ⟨_, ⟨rfl, _⟩ | ⟨_, _, _, _, rfl, _⟩ | ⟨_, _, _, rfl, _⟩⟩ := hv <;> rfl
    | no => simp only [VR, PR] at hv; obtain ⟨_, _, _, rfl, _⟩ := hv; rfl
    | full => simp only [VR, PR] at hv; obtain ⟨_, _, _, rfl, _⟩ := hv; rfl
  | ptr s o => simp only [VR] at hv; obtain ⟨_, rfl⟩ := hv; rfl
  | mp s => simp only [VR] at hv; obtain ⟨_, rfl⟩ := hv; rfl
  | ep t i cs o =>
    simp only [VR] at hv
    obtain ⟨ad, _, rfl, _⟩ := epCells hv
    rfl
  | fn f caps => simp only [VR] at hv; obtain ⟨_, rfl, _⟩ := hv; rfl
  | mv f caps => simp only [VR] at hv; obtain ⟨_, rfl, _⟩ := hv; rfl
  | ifc t x => simp only [VR] at hv; obtain ⟨_, rfl, _⟩ := hv; rfl
  | hnd k r i j off m bss =>
    simp only [VR] at hv
    obtain ⟨_, hv⟩ := hv
    cases k with
    | dsl => rcases hv with ⟨rfl, _⟩ | ⟨_, _, _, rfl, _⟩ <;> rfl
    | dp => obtain ⟨_, _, _, _, _, rfl, _⟩ := hv; rfl
    | isl => obtain ⟨_, _, hi⟩ := hv; rcases hi with ⟨_, _, _, rfl, _⟩ | ⟨_, _, _, rfl, _⟩ <;> rfl
    | iep => obtain ⟨_, _, _, _, _, rfl, _⟩ := hv; rfl
  | undef => simp [okCell] at h
  | agg cs => simp [okCell] at h
  | tup cs => simp [okCell] at h
  | mem b xs => simp [okCell] at h
theorem okCells_one : ∀ {cs : List AV} {us : List Value}, okCells cs = true → VRs g w cs us → ∀ u ∈ us, u.oneCell' = true
  | [], [], _, _, u, hu => by simp at hu
  | [], _ :: _, _, h, _, _ => by simp [VRs] at h
  | _ :: _, [], _, h, _, _ => by simp [VRs] at h
  | c :: cs, v :: us, ho, h, u, hu => by
    simp only [okCells, Bool.and_eq_true] at ho
    simp only [VRs] at h
    rcases List.mem_cons.1 hu with rfl | hu
    · exact okCell_one ho.1 h.1
    · exact okCells_one ho.2 h.2 u hu

theorem cells_of_one {u : Value} (h : u.oneCell' = true) : u.cells = #[u] := by cases u <;> simp_all [Value.cells, Value.oneCell']

/-- the cells of a value that may be stored -/
theorem VR.cells {x : AV} {u : Value} (hv : VR g w x u) (ho : okCells x.cells = true) : VRs g w x.cells u.cells.toList := by
  by_cases hx : ∃ cs, x = .agg cs
  · obtain ⟨cs, rfl⟩ := hx
    simp only [VR] at hv
    obtain ⟨us, rfl, h⟩ := hv
    simpa [AV.cells, Value.cells] using h
  · have hc : x.cells = [x] := by
      cases x with
      | agg cs => exact absurd ⟨cs, rfl⟩ hx
      | _ => rfl
    rw [hc] at ho ⊢
    simp only [okCells, Bool.and_true] at ho
    rw [cells_of_one (okCell_one ho hv)]
    simp [VRs, hv]

mutual
theorem kill_nil : ∀ x : AV, x.kill [] [] = x
  | .undef => by simp [AV.kill]
  | .v x => by simp [AV.kill]
  | .agg cs => by simp [AV.kill, killL_nil cs]
  | .tup cs => by simp [AV.kill, killL_nil cs]
  | .sl (.own r lo) n es => by simp [AV.kill]
  | .sl .no n es => by simp [AV.kill]
  | .sl .full n es => by simp [AV.kill]
  | .ptr s off => by simp [AV.kill]
  | .ep (.own r lo) i cells off => by simp [AV.kill]
  | .ep .no i cells off => by simp [AV.kill]
  | .ep .full i cells off => by simp [AV.kill]
  | .fn f caps => by simp [AV.kill, killL_nil caps]
  | .mv f caps => by simp [AV.kill, killL_nil caps]
  | .mp s => by simp [AV.kill]
  | .ifc t x => by simp [AV.kill, kill_nil x]
  | .hnd k r i j off m bss => by simp [AV.kill]
  | .mem b xs => by simp [AV.kill, killL_nil xs]
theorem killL_nil : ∀ cs : List AV, killL [] [] cs = cs
  | [] => by simp [killL]
  | c :: cs => by simp [killL, kill_nil c, killL_nil cs]
end
theorem killT_nil : ∀ l, killT [] [] l = l
  | [] => rfl
  | (k, x) :: l => by simp [killT, kill_nil, killT_nil l]
theorem killO_nil : ∀ l, killO [] [] l = l
  | [] => rfl
  | (k, x) :: l => by simp [killO, killL_nil, killO_nil l]
theorem stKill_nil (st : St) : st.kill [] [] = st := by simp [St.kill, killT_nil, killO_nil]
end

def upd {α : Type} (k : Nat) (x : α) : List (Nat × α) → List (Nat × α)
  | [] => []
  | (j, y) :: l => if j = k then (j, x) :: l else (j, y) :: upd k x l
theorem lk_upd {α : Type} (k : Nat) (x : α) (j : Nat) : ∀ l : List (Nat × α), lk j (upd k x l) = if j = k then (lk j l).map (fun _ => x) else lk j l
  | [] => by simp [upd, lk]
  | (i, y) :: l => by
    simp only [upd]
    by_cases hik : i = k
    · subst hik
      by_cases hij : i = j
      · subst hij; simp [lk]
      · simp only [if_true, lk, hij, if_false]
        have : j ≠ i := fun e => hij e.symm
        simp [this]
    · simp only [hik, if_false, lk]
      by_cases hij : i = j
      · subst hij; simp [hik]
      · simp only [hij, if_false]
        exact lk_upd k x j l

def cut (L : List AV) (off : Nat) (cs : List AV) : List AV := L.take off ++ cs ++ L.drop (off + cs.length)

section
variable {C : Ctx} {A : A0} {N : Nat} {g g' : Gh} {st : St} {a : Act} {w w' : World} {P : Program}

theorem setRow_other' (w : World) (b k : Nat) (cs : Array Value) (h : k ≠ b) : (w.setRow b cs).heap[k]? = w.heap[k]? := setRow_other w b k cs h

theorem lasts_setRow_box {b s : Nat} (h : g.own b = .box s) (cs : Array Value) : Lasts [] [] g w g (w.setRow b cs) where
  ro := fun k hk ho => ⟨ho, setRow_other w b k cs (fun e => by subst e; rw [h] at ho; cases ho)⟩
  row := fun k q hk _ ho => ⟨ho, setRow_other w b k cs (fun e => by subst e; rw [h] at ho; cases ho)⟩
  rows := fun _ _ => rfl
  boxes := fun _ _ => rfl
  inn := fun k q i hk _ ho => ⟨ho, setRow_other w b k cs (fun e => by subst e; rw [h] at ho; cases ho)⟩
  inns := fun _ _ _ => rfl

theorem run_storeVar {t : TypeId} {n : Nat} {b o : Nat} {T : TypeId} {cur : Array Value} {v : Value} (h2 : szOf P t = some n) (hn : v.cells.size = n) (hg : w.heap[b]? = some (.cells cur T (0, 0)))
    (hle : o + n ≤ cur.size) (h1 : ∀ u ∈ v.cells.toList, u.oneCell' = true) :
    (storeVar t ⟨b, o, none⟩ v).run P w = .ok () (w.setRow b (cur.toList.take o ++ v.cells.toList ++ cur.toList.drop (o + n)).toArray) := by
  unfold storeVar
  simp only [Sem.run_bind, run_sizeOf h2, Result.andThen_ok, ne_eq, hn, not_true, if_false]
  have := run_storeCells_at P b o T v.cells.toList 0 cur w hg (by rw [Array.length_toList, hn]; omega) h1
  simpa [hn] using this

/-- a store into a box -/
theorem R.storeBox (h : R C A N g st a w) {t : TypeId} {n : Nat} (h2 : szOf P t = some n) {s off : Nat} (hmp : isMap s = false) {cs : List AV} (hs : lk s st.objs = some cs) {x : AV} {u : Value} (hx : VR g w x u) (ho : okCells x.cells = true)
    (hn : x.cells.length = n) (hle : off + n ≤ cs.length) :
    ∃ w', (Instr.storeAt t (.pointer (some ⟨g.box s, off, none⟩)) u).run P w = .ok () w' ∧ R C A N g ⟨st.tmps, upd s (cut cs off x.cells) st.objs⟩ a w' := by
  have hown := (h.ob s cs hs).1
  obtain ⟨cur, T, hh, hv⟩ := (h.ob s cs hs).cells hmp
  have hxc := VR.cells hx ho
  have hul : u.cells.size = n := by rw [← hn, VRs.length hxc]; simp
  have hcl : cs.length = cur.size := by rw [VRs.length hv]; simp
  have hrun := run_storeVar (P := P) (w := w) (o := off) h2 hul hh (by omega) (okCells_one ho hxc)
  generalize hnew : (cur.toList.take off ++ u.cells.toList ++ cur.toList.drop (off + n)).toArray = new at hrun
  refine ⟨w.setRow (g.box s) new, by simpa [Instr.storeAt, Instr.sureAddr] using hrun, ?_⟩
  have hl := lasts_setRow_box (w := w) hown new
  have hfr : Fr C A g (w.setRow (g.box s) new) := h.fr.step hl rfl ⟨rfl, by first | exact Nat.le_refl _ | exact Nat.le_succ _⟩ rfl (by simp) (fun b hb hb' => ⟨hb', setRow_other w _ b _ (fun e => by subst e; rw [hown] at hb'; cases hb')⟩) (fun _ _ he => by cases he)
  refine ⟨h.size, h.defs, fun k y hy => ?_, fun q cs' hq => ?_, hfr⟩
  · obtain ⟨v, h1, h2⟩ := h.tm k y hy
    exact ⟨v, h1, by have := VR.lasts hl y v h2; rwa [kill_nil] at this⟩
  · simp only [lk_upd] at hq
    by_cases hqs : q = s
    · subst hqs
      simp only [if_true, hs, Option.map_some, Option.some.injEq] at hq
      subst hq
      refine ⟨hown, .inl ⟨hmp, new, T, setRow_heap w _ cur new T _ hh, ?_⟩⟩
      have lift : ∀ {ds : List AV} {vs : List Value}, VRs g w ds vs → VRs g (w.setRow (g.box q) new) ds vs := fun hd => by have := VRs.lasts hl _ _ hd; rwa [killL_nil] at this
      unfold cut
      have e : new.toList = cur.toList.take off ++ u.cells.toList ++ cur.toList.drop (off + n) := by rw [← hnew]
      rw [hn, e]
      exact VRs.append (VRs.append (lift (VRs.take off hv)) (lift hxc)) (lift (VRs.drop (off + n) hv))
    · simp only [hqs, if_false] at hq
      have h1 := (h.ob q cs' hq).1
      refine (h.ob q cs' hq).lift rfl h1 (setRow_other w _ _ _ (fun e => by rw [e, hown] at h1; injection h1 with h1; exact hqs h1.symm)) (fun us h4 => by have := VRs.lasts hl _ _ h4; rwa [killL_nil] at this)
end
end Go.Abs
/- Rows: literals, make, append. -/
namespace Go.Abs

/-- a slice type's element: its type, its cells, its bytes; its zero value is known and fits -/
def rowInf (P : Program) (t : TypeId) : Option (TypeId × Nat × Nat) :=
  match P.underlying t with
  | some (.slice e) => match P.info? e with
    | some i => match i.zero with
      | some z => if z.cells.size = i.size ∧ 0 < i.size ∧ i.bytes ≤ 32768 then some (e, i.size, i.bytes) else none
      | none => none
    | none => none
  | _ => none

theorem rowInf_spec {P : Program} {t e n b : Nat} (h : rowInf P t = some (e, n, b)) : P.underlying t = some (.slice e) ∧ ∃ i z, P.info? e = some i ∧ i.zero = some z ∧ z.cells.size = n ∧ i.size = n ∧ i.bytes = b ∧ 0 < n ∧ b ≤ 32768 := by
  unfold rowInf at h
  split at h
  · rename_i e' he
    split at h
    · rename_i i hi
      split at h
      · rename_i z hz
        split at h
        · rename_i hc
          simp only [Option.some.injEq, Prod.mk.injEq] at h
          obtain ⟨rfl, rfl, rfl⟩ := h
          exact ⟨he, i, z, hi, hz, hc.1, rfl, rfl, hc.2.1, hc.2.2⟩
        · cases h
      · cases h
    · cases h
  · cases h

def isSliceT (P : Program) (t : TypeId) : Bool := match P.underlying t with
  | some (.slice _) => true
  | _ => false

section
variable {P : Program} {w : World}

theorem run_firstCells' {size n : Nat} {x : Value} {news : List Value} (hl : news.length = n * size) (hx : (∃ a c, x = .slice (some a) n c ∧ ∀ (j : Nat) (v : Value), news[j]? = some v → w.cell? (a.add j) = some v) ∨ (n = 0 ∧ ∃ c, x = .slice none 0 c)) :
    (Builtin.firstCells size n x).run P w = .ok news.toArray w := by
  rcases hx with ⟨a, c, rfl, h⟩ | ⟨rfl, c, rfl⟩
  · exact run_firstCells_some (P := P) w size n a n c news hl h
  · have : news = [] := List.eq_nil_of_length_eq_zero (by simpa using hl)
    subst this
    simp [Builtin.firstCells]

/-- the elements of a slice value, in memory -/
def SrcAt (w : World) (size m : Nat) (x : Value) (news : List Value) : Prop :=
  news.length = m * size ∧ ((∃ a c, x = .slice (some a) m c ∧ ∀ (j : Nat) (v : Value), news[j]? = some v → w.cell? (a.add j) = some v) ∨ (m = 0 ∧ ∃ c, x = .slice none 0 c))

theorem run_append_new {t t2 ty e : TypeId} {i : TypeInfo} {z : Value} (ht : P.underlying t = some (.slice e)) (ht2 : isSliceT P t2 = true) (hi : P.info? e = some i) (hz : i.zero = some z)
    {base : Option Addr} {sLen sCap : Nat} {olds : List Value} (ho : SrcAt w i.size sLen (.slice base sLen sCap) olds) {x : Value} {m : Nat} {news : List Value} (hx : SrcAt w i.size m x news)
    (hg : sCap < sLen + m) (hle : sLen ≤ sCap) (hb : (sLen + m) * i.bytes ≤ 140737488355328) (h63 : sLen + m ≤ 9223372036854775807) :
    (Builtin.append_ #[t, t2] ty #[.slice base sLen sCap, x]).run P w =
      .ok (.slice (some ⟨w.heap.size, 0, none⟩) (sLen + m) (grownCap w (sLen + m) sCap e))
        (w.drew.alloc (.cells (olds.toArray ++ news.toArray ++ Builtin.zeroCells z.cells (grownCap w (sLen + m) sCap e - (sLen + m))) e)) := by
  have hn : ¬ (sLen + m ≤ sCap) := by omega
  have h63' : ¬ (9223372036854775807 < ((sLen : Int) + (m : Int))) := by omega
  have hfit := growslice_fits (need := sLen + m) (old := sCap) hg hb
  have h48' : ¬ (281474976710656 < Builtin.nextslicecap (sLen + m) sCap * i.bytes) := by omega
  have hf : (Builtin.firstCells i.size m x).run P w.drew = .ok news.toArray w.drew := run_firstCells' hx.1 (by
    rcases hx.2 with ⟨a, c, h1, h2⟩ | h
    · exact .inl ⟨a, c, h1, by simpa using h2⟩
    · exact .inr h)
  have hfo : (Builtin.firstCells i.size sLen (.slice base sLen sCap)).run P w.drew = .ok olds.toArray w.drew := run_firstCells' ho.1 (by
    rcases ho.2 with ⟨a, c, h1, h2⟩ | h
    · exact .inl ⟨a, c, h1, by simpa using h2⟩
    · exact .inr h)
  have hlen : (Builtin.lenOf x).run P w = .ok m w := by
    rcases hx.2 with ⟨a, c, rfl, _⟩ | ⟨rfl, c, rfl⟩ <;> simp [Builtin.lenOf]
  unfold isSliceT at ht2
  split at ht2
  · rename_i e2 he2
    simp [Builtin.append_, run_underlying ht, run_underlying he2, sizeOf, typeInfo, zeroValue, hi, hz, hlen, hn, h63', h48', Question.forced, hf, hfo, newRow, grownCap]
    congr 2
    apply Array.ext'
    simp [List.append_assoc]
  · cases ht2

theorem run_append_same {t t2 ty e : TypeId} {i : TypeInfo} (ht : P.underlying t = some (.slice e)) (ht2 : isSliceT P t2 = true) (hi : P.info? e = some i)
    {base : Option Addr} {sLen sCap : Nat} {x : Value} (hx : SrcAt w i.size 0 x []) (hle : sLen ≤ sCap) :
    (Builtin.append_ #[t, t2] ty #[.slice base sLen sCap, x]).run P w = .ok (.slice base sLen sCap) w := by
  have hf : (Builtin.firstCells i.size 0 x).run P w = .ok #[] w := run_firstCells' (news := []) hx.1 hx.2
  have hlen : (Builtin.lenOf x).run P w = .ok 0 w := by
    rcases hx.2 with ⟨a, c, rfl, _⟩ | ⟨_, c, rfl⟩ <;> simp [Builtin.lenOf]
  unfold isSliceT at ht2
  split at ht2
  · rename_i e2 he2
    cases base <;> simp [Builtin.append_, run_underlying ht, run_underlying he2, sizeOf, typeInfo, hi, hlen, hle, hf, storeCells]
  · cases ht2

theorem run_append_room' {t t2 ty e : TypeId} {i : TypeInfo} (ht : P.underlying t = some (.slice e)) (ht2 : isSliceT P t2 = true) (hi : P.info? e = some i)
    {b sLen sCap : Nat} {T : TypeId} {cur : Array Value} (hb : w.heap[b]? = some (.cells cur T (0, 0))) {x : Value} {m : Nat} {news : List Value} (hx : SrcAt w i.size m x news)
    (h1 : ∀ u ∈ news, u.oneCell' = true) (hroom : sLen + m ≤ sCap) (hfit : sLen * i.size + news.length ≤ cur.size) :
    (Builtin.append_ #[t, t2] ty #[.slice (some ⟨b, 0, none⟩) sLen sCap, x]).run P w =
      .ok (.slice (some ⟨b, 0, none⟩) (sLen + m) sCap) (w.setRow b (cur.toList.take (sLen * i.size) ++ news ++ cur.toList.drop (sLen * i.size + news.length)).toArray) := by
  have hf : (Builtin.firstCells i.size m x).run P w = .ok news.toArray w := run_firstCells' hx.1 hx.2
  have hlen : (Builtin.lenOf x).run P w = .ok m w := by
    rcases hx.2 with ⟨a, c, rfl, _⟩ | ⟨rfl, c, rfl⟩ <;> simp [Builtin.lenOf]
  have hst := run_storeCells_at P b (sLen * i.size) T news 0 cur w hb (by simpa using hfit) h1
  simp only [Nat.add_zero] at hst
  unfold isSliceT at ht2
  split at ht2
  · rename_i e2 he2
    simp [Builtin.append_, run_underlying ht, run_underlying he2, sizeOf, typeInfo, hi, hlen, hroom, hf, add_lit, hst]
  · cases ht2
end

section
variable {C : Ctx} {A : A0} {N : Nat} {g g' : Gh} {st : St} {a : Act} {w w' : World} {P : Program}

/-- the elements that a slice value reads as, if it is one of n cells an element -/
def elems (n : Nat) : AV → Option (List (List AV))
  | .v (.slice _ 0 _) => some []
  | .sl _ m es => if m = n then some es else none
  | _ => none

theorem elems_src {n : Nat} {x : AV} {es : List (List AV)} {u : Value} (hn : 0 < n) (h : elems n x = some es) (hv : VR g w x u) :
    ∃ us : List Value, SrcAt w n es.length u us ∧ PRl (isRo g) w es.flatten us ∧ (∀ e ∈ es, e.length = n) := by
  unfold elems at h
  split at h
  · rename_i a0 c0
    simp at h; subst h
    simp only [VR] at hv; subst hv
    refine ⟨[], ⟨by simp, ?_⟩, by simp [PRl], by simp⟩
    cases a0 with
    | none => exact .inr ⟨rfl, c0, rfl⟩
    | some a' => exact .inl ⟨a', c0, rfl, by simp⟩
  · rename_i t m es'
    split at h
    · rename_i hm
      simp at h; subst h; subst hm
      by_cases ho : ∃ r lo, t = .own r lo
      · obtain ⟨r, lo, rfl⟩ := ho
        simp only [VR, OwnSl] at hv
        obtain ⟨_, ⟨rfl, rfl⟩ | ⟨_, rfl, a', cap, rfl, _⟩ | ⟨cap, cur, T, rfl, h2, h3, h5, h6, h7, h8⟩⟩ := hv
        · exact ⟨[], ⟨by simp, .inr ⟨rfl, 0, rfl⟩⟩, by simp [PRl], by simp⟩
        · refine ⟨[], ⟨by simp, ?_⟩, by simp [PRl], by simp⟩
          cases a' with
          | none => exact .inr ⟨rfl, cap, rfl⟩
          | some a' => exact .inl ⟨a', cap, rfl, by simp⟩
        · obtain ⟨us, k1, k2, k3⟩ := PRe.list es' _ m 0 h8
          exact ⟨us, ⟨k2, .inl ⟨_, cap, rfl, fun j v hj => by simpa using k3 j v hj⟩⟩, k1, PRe.lens h8⟩
      · have hp : PR (isRo g) w (.sl t m es') u := by
          cases t with
          | own r lo => exact absurd ⟨r, lo, rfl⟩ ho
          | no => simpa [VR] using hv
          | full => simpa [VR] using hv
        simp only [PR] at hp
        obtain ⟨_, a', cap, rfl, h2, h3, h4, h5, rfl | ⟨ad, rfl, h7, h8⟩⟩ := hp
        · refine ⟨[], ⟨by simp, ?_⟩, by simp [PRl], by simp⟩
          cases a' with
          | none => exact .inr ⟨rfl, cap, rfl⟩
          | some a' => exact .inl ⟨a', cap, rfl, by simp⟩
        · obtain ⟨us, k1, k2, k3⟩ := PRe.list es' _ m 0 h8
          exact ⟨us, ⟨k2, .inl ⟨_, cap, rfl, fun j v hj => by simpa using k3 j v hj⟩⟩, k1, PRe.lens h8⟩
    · cases h
  · cases h
end

/-- append: the name of the new row, the cells of an element -/
def appendA (k n : Nat) (st : St) (x y : AV) : Option (AV × St) :=
  match elems n x, elems n y with
  | some es, some fs => if es.length + fs.length ≤ 4294967296 then match x with
    | .v (.slice none 0 0) => some (.sl (.own k 0) n (es ++ fs), st.kill [k] [])
    | .sl (.own r 0) _ _ => some (.sl (.own k 0) n (es ++ fs), st.kill [r, k] [])
    | _ => none
    else none
  | _, _ => none

section
variable {C : Ctx} {A : A0} {N : Nat} {g g' : Gh} {st : St} {a : Act} {w w' : World} {P : Program}

theorem lasts_refl (g : Gh) (w : World) (S T : List Nat) : Lasts S T g w g w := ⟨fun _ _ h => ⟨h, rfl⟩, fun _ _ _ _ h => ⟨h, rfl⟩, fun _ _ => rfl, fun _ _ => rfl, fun _ _ _ _ _ h => ⟨h, rfl⟩, fun _ _ _ => rfl⟩
theorem lasts_drew (g : Gh) (w : World) (S T : List Nat) : Lasts S T g w g w.drew := ⟨fun _ _ h => ⟨h, rfl⟩, fun _ _ _ _ h => ⟨h, rfl⟩, fun _ _ => rfl, fun _ _ => rfl, fun _ _ _ _ _ h => ⟨h, rfl⟩, fun _ _ _ => rfl⟩

theorem R.drew (h : R C A N g st a w) : R C A N g st a w.drew := by
  have hl := lasts_drew g w [] []
  have := h.lasts hl (h.fr.step hl rfl ⟨rfl, by first | exact Nat.le_refl _ | exact Nat.le_succ _⟩ rfl (Nat.le_refl _) (fun b _ ho => ⟨ho, rfl⟩) (fun _ _ he => by cases he)) (fun s cs hs _ => ⟨(h.ob s cs hs).1, rfl⟩)
  rwa [stKill_nil] at this
theorem R.kill (h : R C A N g st a w) (S T : List Nat) (hT : ∀ s ∈ A.ext, s ∉ T) : R C A N g (st.kill S T) a w := by
  have hl := lasts_refl g w S T
  exact h.lasts hl (h.fr.step hl rfl ⟨rfl, by first | exact Nat.le_refl _ | exact Nat.le_succ _⟩ rfl (Nat.le_refl _) (fun b _ ho => ⟨ho, rfl⟩) hT) (fun s cs hs _ => ⟨(h.ob s cs hs).1, rfl⟩)

theorem VR_drew {x : AV} {u : Value} (h : VR g w x u) : VR g w.drew x u := by
  have := VR.lasts (lasts_drew g w [] []) x u h
  rwa [kill_nil] at this

theorem PRl_drew {cs : List AV} {us : List Value} (h : PRl (isRo g) w cs us) : PRl (isRo g) w.drew cs us := PRl.mono (w := w) (w' := w.drew) (fun _ _ h => ⟨h, rfl⟩) h

/-- the new array that append makes -/
theorem R.appendNew (h : R C A N g st a w) {k n : Nat} {S : List Nat} (hk : k ∈ S) {e : TypeId} {z : Value} (hzs : z.cells.size = n) (hn : 0 < n) {es fs : List (List AV)} {us vs : List Value}
    (h1 : PRl (isRo g) w es.flatten us) (h2 : PRl (isRo g) w fs.flatten vs) (hl1 : ∀ e ∈ es, e.length = n) (hl2 : ∀ e ∈ fs, e.length = n) (hu : us.length = es.length * n) (hv : vs.length = fs.length * n)
    {cap : Nat} (hcap : es.length + fs.length ≤ cap) (hm : cap ≤ maxLen) :
    ∃ g', R C A N g' (st.kill S []) a (w.drew.alloc (.cells (us.toArray ++ vs.toArray ++ Builtin.zeroCells z.cells (cap - (es.length + fs.length))) e)) ∧
      VR g' (w.drew.alloc (.cells (us.toArray ++ vs.toArray ++ Builtin.zeroCells z.cells (cap - (es.length + fs.length))) e)) (.sl (.own k 0) n (es ++ fs)) (.slice (some ⟨w.heap.size, 0, none⟩) (es.length + fs.length) cap) := by
  have := h.drew.newRow k S hk (us.toArray ++ vs.toArray ++ Builtin.zeroCells z.cells (cap - (es.length + fs.length))) e n cap (es ++ fs) (us ++ vs) hn
    (fun e he => (List.mem_append.1 he).elim (hl1 e) (hl2 e))
    (by rw [List.flatten_append]; exact PRl.append (PRl_drew h1) (PRl_drew h2))
    (by
      simp only [Array.size_append, List.size_toArray, size_zeroCells, hzs, hu, hv]
      rw [← Nat.add_mul, ← Nat.add_mul]
      congr 1; omega)
    (by simpa using hcap) hm
    (fun j v hj => by
      have hj' : j < (us ++ vs).length := by
        rcases Nat.lt_or_ge j (us ++ vs).length with h | h
        · exact h
        · rw [List.getElem?_eq_none h] at hj; cases hj
      rw [Array.getElem?_append_left (by simpa using hj')]
      simpa using hj)
  obtain ⟨g', k1, k2⟩ := this
  refine ⟨g', k1, ?_⟩
  rw [List.length_append] at k2
  exact k2

theorem append_sound (hR : R C A N g st a w) {t t2 ty e n b k : Nat} (ht : rowInf P t = some (e, n, b)) (ht2 : isSliceT P t2 = true) {x y z : AV} {ux uy : Value} (hx : VR g w x ux) (hy : VR g w y uy) {st' : St}
    (ha : appendA k n st x y = some (z, st')) : ∃ u w' g', (Builtin.append_ #[t, t2] ty #[ux, uy]).run P w = .ok u w' ∧ R C A N g' st' a w' ∧ VR g' w' z u := by
  obtain ⟨hu, i, zv, hi, hz, hzs, hsz, hby, hn, hb⟩ := rowInf_spec ht
  subst hsz
  unfold appendA at ha
  split at ha
  · rename_i es fs hes hfs
    split at ha
    · rename_i hlen
      obtain ⟨vs, sy, py, ly⟩ := elems_src hn hfs hy
      obtain ⟨us, sx, px, lx⟩ := elems_src hn hes hx
      have hbytes : (es.length + fs.length) * i.bytes ≤ 140737488355328 := by
        have : (es.length + fs.length) * i.bytes ≤ 4294967296 * 32768 := Nat.mul_le_mul hlen (by omega)
        omega
      have hcapm : ∀ old, grownCap w (es.length + fs.length) old e ≤ maxLen := fun old => grownCap_le_maxLen w _ old e (by simp only [maxLen]; omega)
      have hcapge : ∀ old, es.length + fs.length ≤ grownCap w (es.length + fs.length) old e := fun old => grownCap_ge w _ old e
      split at ha
      · -- nil
        simp only [Option.some.injEq, Prod.mk.injEq] at ha
        obtain ⟨rfl, rfl⟩ := ha
        have hnil : es = [] := by
          simp only [elems, Option.some.injEq] at hes
          exact hes.symm
        subst hnil
        simp only [VR] at hx
        subst hx
        by_cases hm : fs.length = 0
        · have hf : fs = [] := List.eq_nil_of_length_eq_zero hm
          subst hf
          have hv0 : vs = [] := List.eq_nil_of_length_eq_zero (by simpa using sy.1)
          subst hv0
          exact ⟨_, _, g, run_append_same hu ht2 hi sy (Nat.le_refl 0), hR.kill [k] [] (fun _ _ h => by cases h), by simp only [VR, OwnSl, List.append_nil]; exact ⟨hn, .inl ⟨trivial, trivial⟩⟩⟩
        · have hrun := run_append_new (ty := ty) hu ht2 hi hz (base := none) (sLen := 0) (sCap := 0) (olds := []) ⟨by simp, .inr ⟨rfl, 0, rfl⟩⟩ sy (by omega) (Nat.le_refl 0) (by simpa using hbytes) (by simp at hlen; omega)
          obtain ⟨g', k1, k2⟩ := hR.appendNew (k := k) (S := [k]) (by simp) (e := e) hzs hn (es := []) (us := []) (by simp [PRl]) py (by simp) ly (by simp) sy.1 (hcapge 0) (hcapm 0)
          simp only [List.length_nil, Nat.zero_add] at hrun k1 k2
          exact ⟨_, _, g', hrun, k1, k2⟩
      · rename_i r m es'
        simp only [Option.some.injEq, Prod.mk.injEq] at ha
        obtain ⟨rfl, rfl⟩ := ha
        have hes' : m = i.size ∧ es' = es := by
          simp only [elems] at hes
          split at hes
          · rename_i hm; simp at hes; exact ⟨hm, hes⟩
          · cases hes
        obtain ⟨rfl, rfl⟩ := hes'
        simp only [VR, OwnSl] at hx
        obtain ⟨_, ⟨rfl, rfl⟩ | ⟨h0, _⟩ | ⟨cap, cur, T, rfl, h2, h3, h5, h6, h7, h8⟩⟩ := hx
        · by_cases hm : fs.length = 0
          · have hf : fs = [] := List.eq_nil_of_length_eq_zero hm
            subst hf
            have hv0 : vs = [] := List.eq_nil_of_length_eq_zero (by simpa using sy.1)
            subst hv0
            exact ⟨_, _, g, run_append_same hu ht2 hi sy (Nat.le_refl 0), hR.kill [r, k] [] (fun _ _ h => by cases h), by simp only [VR, OwnSl, List.append_nil]; exact ⟨hn, .inl ⟨trivial, trivial⟩⟩⟩
          · have hrun := run_append_new (ty := ty) hu ht2 hi hz (base := none) (sLen := 0) (sCap := 0) (olds := []) ⟨by simp, .inr ⟨rfl, 0, rfl⟩⟩ sy (by omega) (Nat.le_refl 0) (by simpa using hbytes) (by simp at hlen; omega)
            obtain ⟨g', k1, k2⟩ := hR.appendNew (k := k) (S := [r, k]) (by simp) (e := e) hzs hn (es := []) (us := []) (by simp [PRl]) py (by simp) ly (by simp) sy.1 (hcapge 0) (hcapm 0)
            simp only [List.length_nil, Nat.zero_add] at hrun k1 k2
            exact ⟨_, _, g', hrun, k1, k2⟩
        · omega
        · simp only [Nat.zero_mul, Nat.zero_add] at h7 h8 sx ⊢
          by_cases hroom : es'.length + fs.length ≤ cap
          · -- in place
            have hfit : es'.length * i.size + vs.length ≤ cur.size := by
              rw [sy.1, h7, ← Nat.add_mul]; exact Nat.mul_le_mul_right _ hroom
            have hrun := run_append_room' (ty := ty) hu ht2 hi h6 sy (PRl.one py) hroom hfit
            generalize hnew : (cur.toList.take (es'.length * i.size) ++ vs ++ cur.toList.drop (es'.length * i.size + vs.length)).toArray = new at hrun
            have hnb : ∀ b', b' ≠ g.row r → (w.setRow (g.row r) new).heap[b']? = w.heap[b']? := fun b' hb' => setRow_other w _ b' new hb'
            have hl : Lasts [r, k] [] g w (g.newRow (g.row r) k) (w.setRow (g.row r) new) := by
              refine ⟨fun b' _ ho => ?_, fun b' q _ hq ho => ?_, fun q hq => ?_, fun _ _ => rfl, fun b' q i _ hq ho => ?_, fun _ _ _ => rfl⟩
              · have hne : b' ≠ g.row r := fun e => by rw [e, h5] at ho; cases ho
                exact ⟨by simp [Gh.newRow, hne, ho], hnb b' hne⟩
              · have hne : b' ≠ g.row r := fun e => by rw [e, h5] at ho; injection ho with ho; exact hq (by simp [ho])
                exact ⟨by simp [Gh.newRow, hne, ho], hnb b' hne⟩
              · have : q ≠ k := fun e => hq (by simp [e])
                simp [Gh.newRow, this]
              · have hne : b' ≠ g.row r := fun e => by rw [e, h5] at ho; cases ho
                exact ⟨by simp [Gh.newRow, hne, ho], hnb b' hne⟩
            refine ⟨_, _, g.newRow (g.row r) k, hrun, ?_, ?_⟩
            · refine hR.lasts hl (hR.fr.step hl rfl ⟨rfl, by first | exact Nat.le_refl _ | exact Nat.le_succ _⟩ rfl (by simp) (fun b' _ ho => ?_) (fun _ _ h => by cases h)) (fun s cs hs _ => ?_)
              · have hne : b' ≠ g.row r := fun e => by rw [e, h5] at ho; cases ho
                exact ⟨by simp [Gh.newRow, hne, ho], hnb b' hne⟩
              · have ho := (hR.ob s cs hs).1
                have hne : g.box s ≠ g.row r := fun e => by rw [e, h5] at ho; cases ho
                exact ⟨by simp [Gh.newRow, hne, ho], hnb _ hne⟩
            · simp only [VR, OwnSl]
              have hrow : (g.newRow (g.row r) k).row k = g.row r := by simp [Gh.newRow]
              refine ⟨hn, .inr (.inr ⟨cap, new, T, ?_, ?_, by omega, ?_, ?_, ?_, ?_⟩)⟩
              · rw [hrow]; simp
              · simpa using hroom
              · rw [hrow]; simp [Gh.newRow]
              · rw [hrow]; exact setRow_heap w _ cur new T _ h6
              · rw [← hnew]
                simp only [List.size_toArray, List.length_append, List.length_take, List.length_drop, Array.length_toList]
                rw [Nat.zero_add, ← h7, Nat.min_eq_left (by omega)]
                omega
              · rw [hrow]
                refine PRe.of_list (es' ++ fs) (us ++ vs) _ _ 0 (fun e he => (List.mem_append.1 he).elim (lx e) (ly e)) ?_ ?_
                · rw [List.flatten_append]; exact PRl.append (PRl.mono hl.ro' px) (PRl.mono hl.ro' py)
                · intro j v hj
                  simp only [Nat.zero_mul, Nat.zero_add, add_lit]
                  rw [cell_of_row _ _ _ _ _ _ (setRow_heap w _ cur new T _ h6), ← hnew]
                  have hux : us.length = es'.length * i.size := sx.1
                  have htake : cur.toList.take (es'.length * i.size) = us := by
                    apply List.ext_getElem?
                    intro q
                    rw [List.getElem?_take]
                    by_cases hq : q < es'.length * i.size
                    · rw [if_pos hq]
                      have hq' : us[q]? = some (us[q]'(by omega)) := List.getElem?_eq_getElem (by omega)
                      rcases sx.2 with ⟨a', c', he, hcell⟩ | ⟨h0, _⟩
                      · injection he with he1 he2 he3
                        simp only [Option.some.injEq] at he1
                        have := hcell q _ hq'
                        rw [← he1, add_lit, cell_of_row _ _ _ _ _ _ h6] at this
                        rw [hq']
                        simpa using this
                      · rw [h0] at hq; simp at hq
                    · rw [if_neg hq, List.getElem?_eq_none (by omega)]
                  rw [htake]
                  have hj' : j < (us ++ vs).length := by
                    rcases Nat.lt_or_ge j (us ++ vs).length with h | h
                    · exact h
                    · rw [List.getElem?_eq_none h] at hj; cases hj
                  simp only [List.getElem?_toArray]
                  rw [List.getElem?_append_left hj']
                  exact hj
          · have hrun := run_append_new (ty := ty) hu ht2 hi hz (base := some ⟨g.row r, 0, none⟩) (sLen := es'.length) (sCap := cap) (olds := us) sx sy (by omega) h2 hbytes (by omega)
            obtain ⟨g', k1, k2⟩ := hR.appendNew (k := k) (S := [r, k]) (by simp) (e := e) hzs hn px py lx ly sx.1 sy.1 (hcapge cap) (hcapm cap)
            exact ⟨_, _, g', hrun, k1, k2⟩
      · cases ha
    · cases ha
  · cases ha
end
end Go.Abs
