/- The steps, kind by kind: what the evaluator makes of an operation, and that the model does the same. -/
import Derived.Test.YtfnniffkgoimeaaA3
import Derived.Laws.CopyOwn
import Derived.WalkLawsBesides
set_option linter.all false
namespace Go.Abs

def szOf (P : Program) (t : TypeId) : Option Nat := (P.info? t).map (·.size)
def aggOf (P : Program) (t : TypeId) : Option Bool := (P.underlying t).map fun
  | .struct _ | .array _ _ => true
  | _ => false

def AV.cells : AV → List AV
  | .agg cs => cs
  | x => [x]

/-- may it be stored in one cell -/
def okCell : AV → Bool
  | .v x => x.oneCell'
  | .sl _ _ _ | .ptr _ _ | .ep _ _ _ _ | .fn _ _ | .ifc _ _ => true
  | _ => false
def okCells : List AV → Bool
  | [] => true
  | c :: cs => okCell c && okCells cs

def Does (P : Program) (o : Oper) (a : Act) (w : World) (u : Value) (w' : World) : Prop :=
  (execOp a.eval o).run P w = .ok (.value u) w' ∨ ((execOp a.eval o).run P w = .ok .skip w' ∧ u = undef)

theorem Does.wp {P : Program} {o : Oper} {a : Act} {w w' : World} {u : Value} {K : Act → World → Prop} {Q : Exit → Act → World → Prop} (h : Does P o a w u w') (hk : K (a.put o.dst u) w') : o.wp P a w K Q := by
  unfold Oper.wp
  rcases h with h | ⟨h, rfl⟩ <;> rw [h] <;> exact hk

theorem does_pure {P : Program} {o : Oper} {a : Act} {w w' : World} {u : Value} {s : Sem Value} (ho : execOp a.eval o = (do pure (.value (← s)))) (h : s.run P w = .ok u w') : Does P o a w u w' := by
  refine .inl ?_
  rw [ho]
  simp [h]

section
variable {P : Program} {w : World}
theorem run_typeInfo {t : TypeId} {i : TypeInfo} (h : P.info? t = some i) : (typeInfo t).run P w = .ok i w := by simp [typeInfo, h]
theorem run_sizeOf {t : TypeId} {n : Nat} (h : szOf P t = some n) : (sizeOf t).run P w = .ok n w := by
  unfold szOf at h
  obtain ⟨i, hi, rfl⟩ := Option.map_eq_some_iff.1 h
  simp [sizeOf, run_typeInfo hi]
theorem run_isAgg {t : TypeId} {b : Bool} (h : aggOf P t = some b) : (isAgg t).run P w = .ok b w := by
  unfold aggOf at h
  obtain ⟨d, hd, rfl⟩ := Option.map_eq_some_iff.1 h
  unfold isAgg
  rw [Sem.run_bind, run_underlying hd]
  cases d <;> simp
theorem run_loadVar_agg {t : TypeId} {n : Nat} {a : Addr} {us : List Value} (h1 : aggOf P t = some true) (h2 : szOf P t = some n) (hl : us.length = n) (hc : ∀ i v, us[i]? = some v → w.cell? (a.add i) = some v) :
    (loadVar t a).run P w = .ok (.agg us.toArray) w := by
  unfold loadVar
  subst hl
  simp only [Sem.run_bind, run_isAgg h1, Result.andThen_ok, if_true, run_sizeOf h2, run_loadCells_list w a us hc, Sem.run_pure]
theorem run_loadVar_one {t : TypeId} {a : Addr} {u : Value} (h1 : aggOf P t = some false) (hc : w.cell? a = some u) : (loadVar t a).run P w = .ok u w := by
  unfold loadVar
  simp only [Sem.run_bind, run_isAgg h1, Result.andThen_ok]
  simp [hc]
end

/-- the cells of a variable as a value -/
def mkA (agg : Bool) : List AV → Option AV
  | cs => if agg then some (.agg cs) else match cs with
    | [c] => some c
    | _ => none

def loadA (agg : Bool) (n : Nat) (objs : List (Nat × List AV)) : AV → Option AV
  | .ptr s off => match lk s objs with
    | some cs => if off + n ≤ cs.length then mkA agg ((cs.drop off).take n) else none
    | none => none
  | .ep _ _ cs off => if off + n ≤ cs.length then mkA agg ((cs.drop off).take n) else none
  | .hnd .dp r i _ _ m bss => if n = 1 then mkA agg [.hnd .isl r i 0 0 m bss] else none
  | .hnd .iep _ _ _ off _ [[c]] => if off + n ≤ c.length then mkA agg ((c.drop off).take n) else none
  | _ => none

section
variable {C : Ctx} {A : A0} {N : Nat} {g g' : Gh} {st : St} {a : Act} {w w' : World}

/-- a variable that reads as cells, loaded -/
theorem load_cells {P : Program} {t : TypeId} {agg : Bool} {n : Nat} {ad : Addr} {cs : List AV} {us : List Value} {x : AV} (h1 : aggOf P t = some agg) (h2 : szOf P t = some n) (hv : VRs g w cs us) (hl : cs.length = n)
    (hc : ∀ i v, us[i]? = some v → w.cell? (ad.add i) = some v) (hx : mkA agg cs = some x) : ∃ u, (loadVar t ad).run P w = .ok u w ∧ VR g w x u := by
  have hul : us.length = n := by rw [← VRs.length hv, hl]
  cases agg with
  | true =>
    simp only [mkA, if_true, Option.some.injEq] at hx
    subst hx
    exact ⟨_, run_loadVar_agg h1 h2 hul hc, us.toArray, rfl, by simpa using hv⟩
  | false =>
    simp only [mkA, Bool.false_eq_true, if_false] at hx
    match cs, us, hv, hx with
    | [c], [u], hv, hx =>
      simp at hx; subst hx
      simp only [VRs] at hv
      have h0 := hc 0 u (by simp)
      simp only [Addr.add_zero'] at h0
      exact ⟨u, run_loadVar_one h1 h0, hv.1⟩
    | [_], [], hv, _ => simp [VRs] at hv
    | [_], _ :: _ :: _, hv, _ => simp [VRs] at hv

theorem epCells {t : Tag} {i : Nat} {cs : List AV} {off : Nat} {u : Value} (h : EpAt g w t i cs off u) :
    ∃ (ad : Addr) (us : List Value), u = .pointer (some ad) ∧ VRs g w (cs.drop off) us ∧ ∀ j v, us[j]? = some v → w.cell? (ad.add j) = some v := by
  cases t with
  | own r lo =>
    simp only [EpAt] at h
    obtain ⟨cur, T, h1, h2, h3, h4, h5⟩ := h
    obtain ⟨us, k1, k2⟩ := PRc.list cs _ 0 h5
    refine ⟨_, us.drop off, h1, PRl.VRs (PRl.drop off k1), fun j v hv => ?_⟩
    rw [List.getElem?_drop] at hv
    have := k2 _ v hv
    rw [add_lit] at this ⊢
    rw [show i * cs.length + off + j = i * cs.length + (0 + (off + j)) from by omega]
    exact this
  | no =>
    simp only [EpAt] at h
    obtain ⟨ad, h1, h0, h2, h3⟩ := h
    obtain ⟨us, k1, k2⟩ := PRc.list cs _ 0 h3
    refine ⟨_, us.drop off, h1, PRl.VRs (PRl.drop off k1), fun j v hv => ?_⟩
    rw [List.getElem?_drop] at hv
    have := k2 _ v hv
    rw [add_add]
    simpa using this
  | full =>
    simp only [EpAt] at h
    obtain ⟨ad, h1, h0, h2, h3⟩ := h
    obtain ⟨us, k1, k2⟩ := PRc.list cs _ 0 h3
    refine ⟨_, us.drop off, h1, PRl.VRs (PRl.drop off k1), fun j v hv => ?_⟩
    rw [List.getElem?_drop] at hv
    have := k2 _ v hv
    rw [add_add]
    simpa using this

theorem boxCells {s : Nat} {cs : List AV} (h : ObjAt g w s cs) (off : Nat) : ∃ us : List Value, VRs g w (cs.drop off) us ∧ ∀ j v, us[j]? = some v → w.cell? ((⟨g.box s, off, none⟩ : Addr).add j) = some v := by
  obtain ⟨_, cur, T, h2, h3⟩ := h
  refine ⟨cur.toList.drop off, VRs.drop off h3, fun j v hv => ?_⟩
  rw [List.getElem?_drop] at hv
  rw [add_lit, cell_of_row _ _ _ _ _ _ h2]
  simpa using hv

theorem load_sound {P : Program} (hR : R C A N g st a w) {t : TypeId} {agg : Bool} {n : Nat} (h1 : aggOf P t = some agg) (h2 : szOf P t = some n) {x : AV} {p : AV} {up : Value} (hp : VR g w p up)
    (hx : loadA agg n st.objs p = some x) : ∃ u, (Instr.loadAt t up).run P w = .ok u w ∧ VR g w x u := by
  unfold loadA at hx
  split at hx
  · rename_i s off
    split at hx
    · rename_i cs hs
      split at hx
      · rename_i hle
        simp only [VR] at hp
        subst hp
        obtain ⟨us, k1, k2⟩ := boxCells (hR.ob s cs hs) off
        have := load_cells h1 h2 (VRs.take n k1) (by simp; omega) (ad := ⟨g.box s, off, none⟩) (fun i v hv => by
          rw [List.getElem?_take] at hv
          split at hv
          · exact k2 i v hv
          · cases hv) hx
        simpa [Instr.loadAt, Instr.sureAddr] using this
      · cases hx
    · cases hx
  · rename_i t' i cs off
    split at hx
    · rename_i hle
      simp only [VR] at hp
      obtain ⟨ad, us, rfl, k1, k2⟩ := epCells hp
      have := load_cells h1 h2 (VRs.take n k1) (by simp; omega) (ad := ad) (fun i v hv => by
          rw [List.getElem?_take] at hv
          split at hv
          · exact k2 i v hv
          · cases hv) hx
      simpa [Instr.loadAt, Instr.sureAddr] using this
    · cases hx
  · rename_i r i j off m bss
    split at hx
    · rename_i hn1
      subst hn1
      simp only [VR] at hp
      obtain ⟨hm, b, rfl, cur, T, v, rfl, k4, k5, k6, k7⟩ := hp
      have hv : VRs g w [.hnd .isl r i 0 0 m [b]] [v] := by
        simp only [VRs, VR]
        exact ⟨⟨hm, b, rfl, k7⟩, trivial⟩
      have := load_cells h1 h2 hv rfl (ad := ⟨g.row r, i, none⟩) (fun q v' hv' => by
        match q, hv' with
        | 0, hv' =>
          simp at hv'; subst hv'
          rw [add_lit, cell_of_row _ _ _ _ _ _ k5]
          exact k6
        | q + 1, hv' => simp at hv') hx
      simpa [Instr.loadAt, Instr.sureAddr] using this
    · cases hx
  · rename_i r i j off m c
    split at hx
    · rename_i hle
      simp only [VR] at hp
      obtain ⟨hm, c', hc, hcl, cur, T, rfl, k4, k5, k6, k7⟩ := hp
      simp only [List.cons.injEq, and_true] at hc
      subst hc
      obtain ⟨us, e1, e2⟩ := PRc.list c _ 0 k7
      have := load_cells h1 h2 (VRs.take n (PRl.VRs (PRl.drop off e1))) (by simp; omega) (ad := ⟨g.inn r i, j * m + off, none⟩) (fun q v' hv' => by
        rw [List.getElem?_take] at hv'
        split at hv'
        · rw [List.getElem?_drop] at hv'
          have := e2 _ v' hv'
          rw [add_lit] at this ⊢
          rw [show j * m + off + q = j * m + (0 + (off + q)) from by omega]
          exact this
        · cases hv') hx
      simpa [Instr.loadAt, Instr.sureAddr] using this
    · cases hx
  · cases hx
end
end Go.Abs
