/- part 5 of the proof -/
import Derived.WideKeyRuns
import Derived.Lib.ConvBytes
import Derived.Test.YtaelofhhkpacbaaGreatDoorT04
set_option linter.all false
/- Maps that are the call's own, whose keys are compared cell by cell. -/
namespace Go.Abs

/-- whether a key is a struct, and the kinds of its cells -/
def keyT (P : Program) (t : TypeId) : Option (Bool × List Nat) := match aggOf P t, plainEq P 20 t with
  | some agg, some ks => some (agg, ks)
  | _, _ => none
def mapT (P : Program) (t : TypeId) : Option (TypeId × Bool × List Nat × TypeId) := match P.underlying t with
  | some (.map k e) => (keyT P k).map fun p => (k, p.1, p.2, e)
  | _ => none
def zeroV (P : Program) (t : TypeId) : Option Value := (P.info? t).bind (·.zero)
/-- the value of a key that is not there -/
def zeroM (P : Program) (t : TypeId) : Option AV := (zeroV P t).bind fun z => if z.oneCell' = true then some (.v z) else match z with
  | .agg cs => some (.agg (vals cs.toList))
  | _ => none

def keyVals (agg : Bool) : AV → Option (List Value)
  | .agg cs => if agg then valsOf cs else none
  | .v x => if agg then none else some [x]
  | _ => none
/-- the entry of a key: its place and its value -/
def findM (agg : Bool) (ks : List Nat) (us : List Value) : List AV → Option (Option (Nat × AV))
  | [] => some none
  | [_] => none
  | k :: v :: l => match keyVals agg k with
    | some us' => match eqVals ks us us' with
      | some true => some (some (0, v))
      | some false => (findM agg ks us l).map fun r => r.map fun p => (p.1 + 1, p.2)
      | none => none
    | none => none
def lookupA (P : Program) (t : TypeId) (cs : List AV) (k : AV) : Option AV := match mapT P t with
  | some (_, agg, ks, e) => match keyVals agg k with
    | some us => if (eqVals ks us us).isSome then match findM agg ks us cs with
      | some (some (_, v)) => some v
      | some none => zeroM P e
      | none => none
      else none
    | none => none
  | none => none
/-- a new entry (a key that is there already is not handled) -/
def insertA (P : Program) (t : TypeId) (cs : List AV) (k v : AV) : Option (List AV) := match mapT P t with
  | some (_, agg, ks, _) => match keyVals agg k with
    | some us => if (eqVals ks us us).isSome then match findM agg ks us cs with
      | some none => some (cs ++ [k, v])
      | _ => none
      else none
    | none => none
  | none => none

section
variable {C : Ctx} {A : A0} {N : Nat} {g g' : Gh} {st : St} {a : Act} {w w' : World} {P : Program}

theorem keyVals_spec {agg : Bool} {k : AV} {us : List Value} {u : Value} (h : keyVals agg k = some us) (hv : VR g w k u) : u = valOf agg us := by
  unfold keyVals at h
  split at h
  · split at h
    · rename_i cs ha
      subst ha
      simp only [VR] at hv
      obtain ⟨vs, rfl, h2⟩ := hv
      have := valsOf_VRs h h2
      simp [valOf, ← this]
    · cases h
  · split at h
    · cases h
    · rename_i x ha
      simp only [Option.some.injEq] at h
      subst h
      simp only [VR] at hv
      subst hv
      simp [valOf, Bool.eq_false_iff.2 ha]
  · cases h

theorem checkFields {d D : Nat} {em : Bool} (ih : ∀ (t : Nat) (ks : List Nat) (agg : Bool) (us : List Value) (r : Bool), plainEq P d t = some ks → aggOf P t = some agg → eqVals ks us us = some r → (Instr.checkKey em D t (valOf agg us)).run P w = .ok () w) :
    ∀ (fs : List Field) (off : Nat) (ks : List Nat), plainFields P d fs off = some ks → ∀ (us : List Value) (r : Bool), off ≤ us.length → eqVals ks (us.drop off) (us.drop off) = some r →
      (forIn fs PUnit.unit (fun f _ => do
        if f.name ≠ "_" then do
          Instr.checkKey em D f.type (← part f.type us.toArray f.offset)
          pure (ForInStep.yield PUnit.unit)
        else pure (ForInStep.yield PUnit.unit)) : Sem PUnit).run P w = .ok () w
  | [], off, ks, h, us, r, hu, hr => by simp
  | f :: fs, off, ks, h, us, r, hu, hr => by
    simp only [plainFields, plainFieldsW] at h
    split at h
    · cases h
    · rename_i hc
      have hc1 : f.name ≠ "_" := fun e => hc (.inl e)
      have hc2 : f.offset = off := Classical.byContradiction fun e => hc (.inr e)
      split at h
      · rename_i k1 hn
        split at h
        · rename_i hs
          obtain ⟨k2, hk2, rfl⟩ := Option.map_eq_some_iff.1 h
          obtain ⟨agg, hagg, hone⟩ := plain_one hn
          have hl := eqVals_len hr
          simp only [List.length_drop, List.length_append] at hl
          have e1 : us.drop off = (us.drop off).take k1.length ++ us.drop (off + k1.length) := by rw [← List.drop_drop, List.take_append_drop]
          rw [e1] at hr
          obtain ⟨r1, r2, m1, m2, rfl⟩ := eqVals_append (by simp; omega) (by simp; omega) hr
          have p1 := run_part (w := w) (us := us) (off := off) hagg hs hone (by omega)
          have q := ih f.type k1 agg _ r1 hn hagg m1
          have rest := checkFields ih fs (off + k1.length) k2 hk2 us r2 (by omega) m2
          simp only [List.forIn_cons, ne_eq, hc1, not_false_eq_true, if_true, hc2, Sem.run_bind, p1, q, Result.andThen_ok, Sem.run_pure]
          exact rest
        · cases h
      · cases h

theorem checkKey_plain (em : Bool) : ∀ (d D t : Nat) (ks : List Nat) (agg : Bool) (us : List Value) (r : Bool), d ≤ D → plainEq P d t = some ks → aggOf P t = some agg → eqVals ks us us = some r → (Instr.checkKey em D t (valOf agg us)).run P w = .ok () w
  | 0, _, _, _, _, _, _, _, h, _, _ => by simp [plainEq] at h
  | d + 1, 0, _, _, _, _, _, hd, _, _, _ => by omega
  | d + 1, D + 1, t, ks, agg, us, r, hd, h, ha, hr => by
    simp only [plainEq] at h
    split at h <;> rename_i hd' <;> simp only [aggOf, hd', Option.map_some, Option.some.injEq] at ha
    · subst ha; simp at h; subst h
      obtain ⟨a, b, rfl, _, rfl⟩ := eq_bool hr
      simp [valOf, Instr.checkKey, run_underlying hd']
    · subst ha; simp at h; subst h
      obtain ⟨k, a, b, rfl, _, rfl⟩ := eq_int hr
      simp [valOf, Instr.checkKey, run_underlying hd']
    · subst ha; simp at h; subst h
      obtain ⟨a, b, rfl, _, rfl⟩ := eq_string hr
      simp [valOf, Instr.checkKey, run_underlying hd']
    · rename_i fs
      subst ha
      split at h
      · cases h
      · simp only [valOf, if_true, Instr.checkKey, Sem.run_bind, run_underlying hd', Result.andThen_ok]
        rw [← Array.forIn_toList]
        have := checkFields (em := em) (fun t ks agg us r k1 k2 k3 => checkKey_plain em d D t ks agg us r (by omega) k1 k2 k3) fs.toList 0 ks h us r (Nat.zero_le _) (by simpa using hr)
        simp at this ⊢
        rw [this]
        rfl
    · cases h

theorem keyT_spec {t : TypeId} {agg : Bool} {ks : List Nat} (h : keyT P t = some (agg, ks)) : aggOf P t = some agg ∧ plainEq P 20 t = some ks := by
  unfold keyT at h
  split at h
  · rename_i h1 h2
    simp only [Option.some.injEq, Prod.mk.injEq] at h
    obtain ⟨rfl, rfl⟩ := h
    exact ⟨h1, h2⟩
  · cases h
theorem mapT_spec {t k e : TypeId} {agg : Bool} {ks : List Nat} (h : mapT P t = some (k, agg, ks, e)) : P.underlying t = some (.map k e) ∧ keyT P k = some (agg, ks) := by
  unfold mapT at h
  split at h
  · rename_i k' e' hu
    obtain ⟨⟨a', ks'⟩, h1, h2⟩ := Option.map_eq_some_iff.1 h
    simp only [Prod.mk.injEq] at h2
    obtain ⟨rfl, rfl, rfl, rfl⟩ := h2
    exact ⟨hu, h1⟩
  · cases h
theorem zeroM_sound {e : TypeId} {x : AV} (h : zeroM P e = some x) : ∃ z, (zeroValue e).run P w = .ok z w ∧ VR g w x z := by
  unfold zeroM at h
  obtain ⟨z, h1, h2⟩ := Option.bind_eq_some_iff.1 h
  unfold zeroV at h1
  obtain ⟨i, hi, hz⟩ := Option.bind_eq_some_iff.1 h1
  refine ⟨z, by simp [zeroValue, run_typeInfo hi, hz], ?_⟩
  split at h2
  · simp only [Option.some.injEq] at h2
    subst h2
    simp [VR]
  · split at h2
    · simp only [Option.some.injEq] at h2
      subst h2
      simp only [VR]
      exact ⟨_, rfl, VRs_vals _⟩
    · cases h2

theorem run_equal {kt : TypeId} {agg : Bool} {ks : List Nat} {us vs : List Value} {r : Bool} (hk : keyT P kt = some (agg, ks)) (h : eqVals ks us vs = some r) : (Op.equal kt (valOf agg us) (valOf agg vs)).run P w = .ok r w := by
  obtain ⟨h1, h2⟩ := keyT_spec hk
  exact equalIn_plain 20 10000 kt ks agg us vs r (by omega) h2 h1 h

theorem findM_sound {kt : TypeId} {agg : Bool} {ks : List Nat} {us : List Value} (hk : keyT P kt = some (agg, ks)) : ∀ (cs : List AV) (es : List MapEntry) (i : Nat) (r : Option (Nat × AV)), findM agg ks us cs = some r → VRs g w cs (flatE es) →
    (r = none → (Instr.findAsking kt (valOf agg us) es i).run P w = .ok none w) ∧
    (∀ j v, r = some (j, v) → ∃ e, es[j]? = some e ∧ (Instr.findAsking kt (valOf agg us) es i).run P w = .ok (some (i + j, e.val)) w ∧ VR g w v e.val)
  | [], [], i, r, h, _ => by
    simp only [findM, Option.some.injEq] at h
    subst h
    exact ⟨fun _ => by simp [Instr.findAsking], fun _ _ h => by cases h⟩
  | [], _ :: _, _, _, _, hv => by simp [flatE, VRs] at hv
  | [_], _, _, _, h, _ => by simp [findM] at h
  | _ :: _ :: _, [], _, _, _, hv => by simp [flatE, VRs] at hv
  | k :: v :: l, e :: es, i, r, h, hv => by
    simp only [flatE, VRs] at hv
    obtain ⟨hv1, hv2, hv3⟩ := hv
    simp only [findM] at h
    split at h
    · rename_i us' hus
      have hkey := keyVals_spec hus hv1
      split at h
      · rename_i he
        simp only [Option.some.injEq] at h
        subst h
        have q := run_equal (w := w) hk he
        refine ⟨fun h => (by cases h), fun j v' hj => ?_⟩
        simp only [Option.some.injEq, Prod.mk.injEq] at hj
        obtain ⟨rfl, rfl⟩ := hj
        exact ⟨e, rfl, by simp [Instr.findAsking, hkey, q], hv2⟩
      · rename_i he
        have q := run_equal (w := w) hk he
        obtain ⟨r0, h0, rfl⟩ := Option.map_eq_some_iff.1 h
        obtain ⟨k1, k2⟩ := findM_sound hk l es (i + 1) r0 h0 hv3
        have step : (Instr.findAsking kt (valOf agg us) (e :: es) i).run P w = (Instr.findAsking kt (valOf agg us) es (i + 1)).run P w := by simp [Instr.findAsking, hkey, q]
        refine ⟨fun hn => ?_, fun j v' hj => ?_⟩
        · rw [step]; exact k1 (by cases r0 <;> simp_all)
        · cases r0 with
          | none => simp at hj
          | some p =>
            simp only [Option.map_some, Option.some.injEq, Prod.mk.injEq] at hj
            obtain ⟨rfl, rfl⟩ := hj
            obtain ⟨e', m1, m2, m3⟩ := k2 p.1 p.2 rfl
            exact ⟨e', by simpa using m1, by rw [step, m2]; congr 3; omega, m3⟩
      · cases h
    · cases h

theorem scal {kt : TypeId} {agg : Bool} {ks : List Nat} {us : List Value} (hk : keyT P kt = some (agg, ks)) {d : TypeDesc} (hd : P.underlying kt = some d) (hs : ∀ us' b, eqVals ks us us' = some b → Instr.sameNow d (valOf agg us) (valOf agg us') = some b) :
    ∀ (cs : List AV) (es : List MapEntry) (i : Nat) (r : Option (Nat × AV)), findM agg ks us cs = some r → VRs g w cs (flatE es) → ∃ q, Instr.findNow d (valOf agg us) es i = some q ∧ (Instr.findAsking kt (valOf agg us) es i).run P w = .ok q w
  | [], [], i, r, h, _ => ⟨none, rfl, by simp [Instr.findAsking]⟩
  | [], _ :: _, _, _, _, hv => by simp [flatE, VRs] at hv
  | [_], _, _, _, h, _ => by simp [findM] at h
  | _ :: _ :: _, [], _, _, _, hv => by simp [flatE, VRs] at hv
  | k :: v :: l, e :: es, i, r, h, hv => by
    simp only [flatE, VRs] at hv
    obtain ⟨hv1, hv2, hv3⟩ := hv
    simp only [findM] at h
    split at h
    · rename_i us' hus
      have hkey := keyVals_spec hus hv1
      split at h
      · rename_i he
        have q := run_equal (w := w) hk he
        exact ⟨some (i, e.val), by simp [Instr.findNow, hkey, hs us' true he], by simp [Instr.findAsking, hkey, q]⟩
      · rename_i he
        have q := run_equal (w := w) hk he
        obtain ⟨r1, h1, rfl⟩ := Option.map_eq_some_iff.1 h
        obtain ⟨q', m1, m2⟩ := scal hk hd hs l es (i + 1) r1 h1 hv3
        exact ⟨q', by simp [Instr.findNow, hkey, hs us' false he, m1], by simp [Instr.findAsking, hkey, q, m2]⟩
      · cases h
    · cases h
/-- the look-up of a key is the asking one -/
theorem run_findKey {kt : TypeId} {agg : Bool} {ks : List Nat} {us : List Value} (hk : keyT P kt = some (agg, ks)) (hu : (eqVals ks us us).isSome) : ∀ (cs : List AV) (es : List MapEntry) (r : Option (Nat × AV)), findM agg ks us cs = some r → VRs g w cs (flatE es) →
    (Instr.findKey kt (valOf agg us) es).run P w = (Instr.findAsking kt (valOf agg us) es).run P w := by
  intro cs es r hr hv
  obtain ⟨h1, h2⟩ := keyT_spec hk
  simp only [plainEq] at h2
  obtain ⟨r0, hu⟩ := Option.isSome_iff_exists.1 hu
  have now : ∀ (d : TypeDesc), P.underlying kt = some d → (∀ (cs : List AV) (es : List MapEntry) (i : Nat) (r : Option (Nat × AV)), findM agg ks us cs = some r → VRs g w cs (flatE es) → ∃ q, Instr.findNow d (valOf agg us) es i = some q ∧ (Instr.findAsking kt (valOf agg us) es i).run P w = .ok q w) →
      (Instr.findKey kt (valOf agg us) es).run P w = (Instr.findAsking kt (valOf agg us) es).run P w := fun d hd h => by
    obtain ⟨q, q1, q2⟩ := h cs es 0 r hr hv
    rw [q2]
    simp [Instr.findKey, run_underlying hd, q1]
  split at h2 <;> rename_i hd <;> simp only [aggOf, hd, Option.map_some, Option.some.injEq] at h1
  · subst h1; simp at h2; subst h2
    refine now _ hd (scal hk hd fun us' b hb => ?_)
    obtain ⟨x, y, rfl, rfl, rfl⟩ := eq_bool hb
    simp [valOf, Instr.sameNow]
  · subst h1; simp at h2; subst h2
    refine now _ hd (scal hk hd fun us' b hb => ?_)
    obtain ⟨k, x, y, rfl, rfl, rfl⟩ := eq_int hb
    simp [valOf, Instr.sameNow]
  · subst h1; simp at h2; subst h2
    refine now _ hd (scal hk hd fun us' b hb => ?_)
    obtain ⟨x, y, rfl, rfl, rfl⟩ := eq_string hb
    simp [valOf, Instr.sameNow, beq_toListBytes]
  · exact Go.run_findKey_eq w (by simp [hd]) _ _
  · cases h2

theorem lookup_sound {t : TypeId} {cs : List AV} {k x : AV} {uk : Value} {b : Nat} {es : Array MapEntry} {clk : Nat} (h : lookupA P t cs k = some x) (hk : VR g w k uk) (hb : w.heap[b]? = some (.map es clk)) (hv : VRs g w cs (flatE es.toList)) :
    ∃ u, (Instr.lookup t (.map (some b)) uk false).run P w = .ok u w ∧ VR g w x u := by
  unfold lookupA at h
  split at h
  · rename_i kt agg ks e hm
    obtain ⟨h1, h2⟩ := mapT_spec hm
    split at h
    · rename_i us hus
      split at h
      · rename_i hself
        obtain rfl := keyVals_spec hus hk
        obtain ⟨r0, hr0⟩ := Option.isSome_iff_exists.1 hself
        have hck := checkKey_plain (P := P) (w := w) es.isEmpty 20 10000 kt ks agg us r0 (by omega) (keyT_spec h2).2 (keyT_spec h2).1 hr0
        split at h
        · rename_i j v hf
          simp only [Option.some.injEq] at h
          subst h
          obtain ⟨e', m1, m2, m3⟩ := (findM_sound h2 cs es.toList 0 _ hf hv).2 j v rfl
          have hfk := run_findKey h2 hself cs es.toList _ hf hv
          rw [m2] at hfk
          exact ⟨e'.val, by simp [Instr.lookup, run_underlying h1, MapKept.run_getObj_map hb, hck, hfk], m3⟩
        · rename_i hf
          have m := (findM_sound h2 cs es.toList 0 _ hf hv).1 rfl
          have hfk := run_findKey h2 hself cs es.toList _ hf hv
          rw [m] at hfk
          obtain ⟨z, z1, z2⟩ := zeroM_sound (g := g) (w := w) h
          exact ⟨z, by simp [Instr.lookup, run_underlying h1, MapKept.run_getObj_map hb, hck, hfk, z1], z2⟩
        · cases h
      · cases h
    · cases h
  · cases h

theorem flatE_append : ∀ (l m : List MapEntry), flatE (l ++ m) = flatE l ++ flatE m
  | [], m => rfl
  | e :: l, m => by simp [flatE, flatE_append l m]

theorem insert_sound {t : TypeId} {cs cs' : List AV} {k v : AV} {uk uv : Value} {b : Nat} {es : Array MapEntry} {clk : Nat} (h : insertA P t cs k v = some cs') (hk : VR g w k uk) (hb : w.heap[b]? = some (.map es clk)) (hv : VRs g w cs (flatE es.toList)) :
    (Instr.mapUpdate t (.map (some b)) uk uv).run P w = .ok () { w with heap := w.heap.setIfInBounds b (.map (es.push { key := uk, val := uv, born := clk }) (clk + 1)) } ∧ cs' = cs ++ [k, v] := by
  unfold insertA at h
  split at h
  · rename_i kt agg ks e hm
    obtain ⟨h1, h2⟩ := mapT_spec hm
    split at h
    · rename_i us hus
      split at h
      · rename_i hself
        obtain rfl := keyVals_spec hus hk
        obtain ⟨r0, hr0⟩ := Option.isSome_iff_exists.1 hself
        have hck := checkKey_plain (P := P) (w := w) false 20 10000 kt ks agg us r0 (by omega) (keyT_spec h2).2 (keyT_spec h2).1 hr0
        split at h
        · rename_i hf
          simp only [Option.some.injEq] at h
          have m := (findM_sound h2 cs es.toList 0 _ hf hv).1 rfl
          have hfk := run_findKey h2 hself cs es.toList _ hf hv
          rw [m] at hfk
          exact ⟨by simp [Instr.mapUpdate, run_underlying h1, MapKept.run_getObj_map hb, hck, hfk, MapKept.run_setObj_map _ hb], h.symm⟩
        · cases h
      · cases h
    · cases h
  · cases h

/-- a new map -/
theorem R.newMap (h : R C A N g st a w) (s : Nat) (hmp : isMap s = true) (hs : s ∉ A.ext) :
    R C A N (g.newBox w.heap.size s) ⟨(st.kill [] [s]).tmps, (s, []) :: (st.kill [] [s]).objs⟩ a (w.alloc (.map #[] 0)) := by
  have hl := lasts_newBox g w (.map #[] 0) s
  have hfr : Fr C A (g.newBox w.heap.size s) (w.alloc (.map #[] 0)) := h.fr.step hl rfl ⟨rfl, by first | exact Nat.le_refl _ | exact Nat.le_succ _⟩ rfl (by simp) (fun b hb ho => ⟨by simp [Gh.newBox, Nat.ne_of_lt hb, ho], alloc_old w _ b hb⟩) (fun q hq he => hs (by simpa [List.mem_singleton.1 he] using hq))
  have h1 := h.lasts hl hfr (fun q cs' hq hne => by
    have ho := h.ob q cs' hq
    exact ⟨by simp [Gh.newBox, Nat.ne_of_lt ho.lt, ho.1], alloc_old w _ _ ho.lt⟩)
  refine ⟨h1.size, h1.defs, h1.tm, fun q cs' hq => ?_, h1.fr⟩
  simp only [lk] at hq
  by_cases hsq : s = q
  · subst hsq
    simp only [if_true, Option.some.injEq] at hq
    subst hq
    refine ⟨by simp [Gh.newBox], .inr ⟨hmp, #[], 0, ?_, by simp [flatE, VRs]⟩⟩
    simp only [Gh.newBox, if_true]
    exact heap_alloc_new w _
  · simp only [hsq, if_false] at hq
    exact h1.ob q cs' hq

/-- a map is written -/
theorem R.setMap (h : R C A N g st a w) {s : Nat} (hmp : isMap s = true) {cs : List AV} (hs : lk s st.objs = some cs) {es : Array MapEntry} {clk clk' : Nat} (hb : w.heap[g.box s]? = some (.map es clk)) {e : MapEntry} {k v : AV} (hk : VR g w k e.key) (hv : VR g w v e.val) (hcs : VRs g w cs (flatE es.toList)) :
    R C A N g ⟨st.tmps, upd s (cs ++ [k, v]) st.objs⟩ a { w with heap := w.heap.setIfInBounds (g.box s) (.map (es.push e) clk') } := by
  have hown := (h.ob s cs hs).1
  obtain ⟨hnew, hold⟩ := MapKept.heap_set (o' := .map (es.push e) clk') hb
  generalize hw' : ({ w with heap := w.heap.setIfInBounds (g.box s) (.map (es.push e) clk') } : World) = w'
  have hh : w'.heap = w.heap.setIfInBounds (g.box s) (.map (es.push e) clk') := by rw [← hw']
  rw [← hh] at hnew hold
  have hl : Lasts [] [] g w g w' := ⟨fun q hq ho => ⟨ho, hold q (fun e => by subst e; rw [hown] at ho; cases ho)⟩, fun q r hq _ ho => ⟨ho, hold q (fun e => by subst e; rw [hown] at ho; cases ho)⟩, fun _ _ => rfl, fun _ _ => rfl, fun q r i hq _ ho => ⟨ho, hold q (fun e => by subst e; rw [hown] at ho; cases ho)⟩, fun _ _ _ => rfl⟩
  have hfr : Fr C A g w' := h.fr.step hl (by rw [← hw']) ⟨by rw [← hw'], by rw [← hw']; exact Nat.le_refl _⟩ (by rw [← hw']) (by rw [hh]; simp) (fun q hq ho => ⟨ho, hold q (fun e => by subst e; rw [hown] at ho; cases ho)⟩) (fun _ _ he => by cases he)
  have lift : ∀ {ds : List AV} {vs : List Value}, VRs g w ds vs → VRs g w' ds vs := fun hd => by have := VRs.lasts hl _ _ hd; rwa [killL_nil] at this
  refine ⟨h.size, h.defs, fun j y hy => ?_, fun q cs' hq => ?_, hfr⟩
  · obtain ⟨u, h1, h2⟩ := h.tm j y hy
    exact ⟨u, h1, by have := VR.lasts hl y u h2; rwa [kill_nil] at this⟩
  · simp only [lk_upd] at hq
    by_cases hqs : q = s
    · subst hqs
      simp only [if_true, hs, Option.map_some, Option.some.injEq] at hq
      subst hq
      refine ⟨hown, .inr ⟨hmp, _, _, hnew, ?_⟩⟩
      rw [Array.toList_push, flatE_append]
      exact VRs.append (lift hcs) (lift (by simp [flatE, VRs, hk, hv]))
    · simp only [hqs, if_false] at hq
      have h1 := (h.ob q cs' hq).1
      exact (h.ob q cs' hq).lift rfl h1 (hold _ (fun e => by rw [e, hown] at h1; injection h1 with h1; exact hqs h1.symm)) (fun us h4 => lift h4)
theorem ObjAt.map {s : Nat} {cs : List AV} (h : ObjAt g w s cs) (hk : isMap s = true) : ∃ es clk, w.heap[g.box s]? = some (.map es clk) ∧ VRs g w cs (flatE es.toList) := by
  obtain ⟨_, ⟨h1, _⟩ | ⟨_, h⟩⟩ := h
  · rw [hk] at h1; cases h1
  · exact h
end
end Go.Abs
/- All steps but calls, in one function; that the model makes them too. -/
namespace Go.Abs

def strT (P : Program) (t : TypeId) : Bool := match P.underlying t with
  | some .string => true
  | _ => false
def intT (P : Program) (t : TypeId) : Option IntKind := match P.underlying t with
  | some (.int k) => some k
  | _ => none

def lenA : AV → Option AV
  | .sl _ _ es => some (.v (.int .i64 es.length))
  | .v (.slice none 0 0) => some (.v (.int .i64 0))
  | .v (.string s) => some (.v (.int .i64 s.size))
  | .hnd .dsl _ _ _ _ _ bss => some (.v (.int .i64 bss.length))
  | .hnd .isl _ _ _ _ _ [b] => some (.v (.int .i64 b.length))
  | .mem true xs => some (.v (.int .i64 xs.length))
  | _ => none

def lenOk (P : Program) (t : TypeId) : AV → Bool
  | .v (.string _) => strT P t
  | _ => isSliceT P t

def pickA : AV → AV → AV → Option AV
  | .v (.bool p), .v (.bool x), .v (.bool y) => some (.v (.bool (bif p then x else y)))
  | .v (.bool true), x, _ => some x
  | .v (.bool false), _, y => some y
  | _, _, _ => none

def nilA : AV → Option AV
  | .ptr s o => some (.ptr s o)
  | .ep t i cs o => some (.ep t i cs o)
  | .fn f cs => some (.fn f cs)
  | _ => none

def bytesAV (l : List UInt8) : List (List AV) := l.map fun b => [.v (.int .u8 b.toNat)]
/-- the bytes of a slice of bytes -/
def unbytes : List (List AV) → Option (List UInt8)
  | [] => some []
  | [.v (.int .u8 n)] :: es => (unbytes es).map (UInt8.ofNat n.toNat :: ·)
  | _ => none

def isBytesT (P : Program) (t : TypeId) : Bool := match P.underlying t with
  | some (.slice e) => match P.underlying e, szOf P e with
    | some (.int .u8), some 1 => true
    | _, _ => false
  | _ => false
def convA (P : Program) (src dst : TypeId) (st : St) (x : AV) : Option (AV × St) :=
  match x with
  | .v (.int _ n) => match intT P src, intT P dst with
    | some _, some k => some (.v (.int k (k.wrap n)), st)
    | _, _ => none
  | .v (.string s) => if strT P src ∧ strT P dst then some (.v (.string s), st) else if strT P src ∧ isBytesT P dst ∧ s.size ≤ 4294967296 then some (.sl .no 1 (bytesAV s.data.toList), st) else none
  | .v (.slice none 0 0) => if isBytesT P src ∧ strT P dst then some (.v (.string ⟨#[]⟩), st) else none
  | .sl t n es => if n = 1 then
      if isBytesT P src ∧ strT P dst then (unbytes es).map fun l => (.v (.string ⟨l.toArray⟩), st)
      else match t, es with
        | .own r 0, e :: es => if src = dst ∧ isBytesT P src then some (.sl .no 1 (e :: es), st.kill [r] []) else none
        | _, _ => none
    else none
  | _ => none

/-- the places of a struct's parts -/
def placeOf (P : Program) (t : TypeId) (i : Nat) : Option (Nat × Nat) :=
  match P.underlying t with
  | some (.struct fs) => match fs[i]? with
    | some f => (szOf P f.type).map fun n => (f.offset, n)
    | none => none
  | some (.array _ e) => (szOf P e).map fun n => (i * n, n)
  | _ => none

def sized (P : Program) (t : TypeId) : Bool := match P.underlying t with
  | some (.struct fs) => fs.toList.all fun f => (szOf P f.type).isSome
  | some (.array _ e) => (szOf P e).isSome
  | _ => false

def fieldV (P : Program) (t : TypeId) (i : Nat) : AV → Option AV
  | .agg cs => match P.underlying t with
    | some (.struct fs) => match fs[i]? with
      | some f => match aggOf P f.type, szOf P f.type with
        | some agg, some n => if f.offset + n ≤ cs.length then mkA agg ((cs.drop f.offset).take n) else none
        | _, _ => none
      | none => none
    | _ => none
  | _ => none

/-- what an array's elements are: how many, of how many cells, several cells -/
def elemInf (P : Program) (t : TypeId) : Option (Nat × Nat × Bool) := match P.underlying t with
  | some (.array len e) => match szOf P e, aggOf P e with
    | some n, some b => some (len, n, b)
    | _, _ => none
  | _ => none
def idxV (P : Program) (t : TypeId) (k : AV) : AV → Option AV
  | .agg cs => match k, elemInf P t with
    | .v (.int _ k), some (len, n, b) => if 0 ≤ k ∧ k < len ∧ k.toNat * n + n ≤ cs.length then mkA b ((cs.drop (k.toNat * n)).take n) else none
    | _, _ => none
  | .v (.string s) => match k with
    | .v (.int _ k) => if strT P t = true ∧ 0 ≤ k then (s[k.toNat]?).map fun c => .v (.int .u8 c.toNat) else none
    | _ => none
  | _ => none

def concreteT (P : Program) (t : TypeId) : Bool := P.concrete t

def litBound (C : Ctx) (st : St) : Option Operand → Option (Option Nat)
  | none => some none
  | some o => (natOf (ev C st o)).map some

def parts (C : Ctx) (st : St) (ps : Array (Nat × Operand)) : List (Nat × AV) := ps.toList.map fun p => (p.1, ev C st p.2)

/-- the box or row that an operation makes bears the name of its slot -/
def nm (d : Nat) : Nat := d * 64
theorem nm_cells (d : Nat) : isMap (nm d) = false := by simp [isMap, nm]
/-- the map made at d -/
def nmM (d : Nat) : Nat := d * 64 + 62
theorem nm_map (d : Nat) : isMap (nmM d) = true := by simp [isMap, nmM]

def strLen : AV → Option Nat
  | .v (.string s) => some s.size
  | _ => none

def sliceOp (C : Ctx) (st : St) (t : TypeId) (x : AV) (lo hi mx : Option Operand) : Option (AV × St) :=
  match litBound C st lo, litBound C st hi, litBound C st mx with
  | some l, some h, some m => match elemOfSlice C.P t with
    | some (_, n) => match elems n x with
      | some es => match h, m with
        | some h, some m => if m = h then sliceA n true (l.getD 0) h st x else none
        | some h, none => sliceA n false (l.getD 0) h st x
        | none, none => sliceA n false (l.getD 0) es.length st x
        | none, some _ => none
      | none => none
    | none => match x, m with
      | .v (.string s), none => if strT C.P t ∧ l.getD 0 ≤ h.getD s.size ∧ h.getD s.size ≤ s.size then some (.v (.string (s.extract (l.getD 0) (h.getD s.size))), st) else none
      | _, _ => none
  | _, _, _ => none

def builtinV (C : Ctx) (dst : Option Nat) (b : Builtin) (xs : List Operand) (ts : List TypeId) (st : St) : Option (AV × St) :=
  match b with
  | .len => match xs, ts with
    | [x], [t] => if lenOk C.P t (ev C st x) = true then (lenA (ev C st x)).map (·, st) else none
    | _, _ => none
  | .append => match dst, xs, ts with
    | some d, [x, y], [t, t2] => match rowInf C.P t with
      | some (e, n, _) => if isSliceT C.P t2 = true then appendA (nm d) n st (ev C st x) (ev C st y) else match zeroOf C.P e with
        | some zs => appendNA C.P (nm d) n t2 zs st (ev C st x) (ev C st y)
        | none => none
      | none => none
    | _, _, _ => none
  | .copy => match xs, ts with
    | [x, y], t :: _ => copyA C.P t st (ev C st x) (ev C st y)
    | _, _ => none
  | .clear => match xs, ts with
    | [x], [t] => clearA C.P t st (ev C st x)
    | _, _ => none
  | .cap => match xs, ts with
    | [x], [t] => (capA C.P t (ev C st x)).map (·, st)
    | _, _ => none
  | .max => match xs with
    | [x, y] => match ev C st x, ev C st y with
      | .v (.int k a), .v (.int _ b) => some (.v (.int k (if b > a then b else a)), st)
      | _, _ => none
    | _ => none
  | .min => match xs with
    | [x, y] => match ev C st x, ev C st y with
      | .v (.int k a), .v (.int _ b) => some (.v (.int k (if b < a then b else a)), st)
      | _, _ => none
    | _ => none
  | _ => none

def lookupV (P : Program) (t : TypeId) (objs : List (Nat × List AV)) (m k : AV) : Option AV := match m with
  | .mp s => (lk s objs).bind fun cs => lookupA P t cs k
  | _ => none
def insertV (P : Program) (t : TypeId) (objs : List (Nat × List AV)) (m k v : AV) : Option (List (Nat × List AV)) := match m with
  | .mp s => (lk s objs).bind fun cs => (insertA P t cs k v).map fun cs' => upd s cs' objs
  | _ => none
def stepV (C : Ctx) (o : Oper) (st : St) : Option (AV × St) :=
  match o.op with
  | .move x => some (ev C st x, st)
  | .assign x => some (ev C st x, st)
  | .pick c a b => (pickA (ev C st c) (ev C st a) (ev C st b)).map (·, st)
  | .alloc t => match o.dst, zeroOf C.P t with
    | some d, some zs => some (.ptr (nm d) 0, ⟨(st.kill [] [nm d]).tmps, (nm d, vals zs) :: (st.kill [] [nm d]).objs⟩)
    | _, _ => none
  | .box _ x => match o.dst with
    | some d => if okCells (ev C st x).cells = true then some (.ptr (nm d) 0, ⟨(st.kill [] [nm d]).tmps, (nm d, killL [] [nm d] (ev C st x).cells) :: (st.kill [] [nm d]).objs⟩) else none
    | none => none
  | .load t a => match aggOf C.P t, szOf C.P t with
    | some agg, some n => (loadA agg n st.objs (ev C st a)).map (·, st)
    | _, _ => none
  | .store t a x => match o.dst, szOf C.P t with
    | none, some n => (storeA n st (ev C st a) (ev C st x)).map (.undef, ·)
    | _, _ => none
  | .fieldAddr t x i => match offOf C.P t i with
    | some off => (fieldA off (ev C st x)).map (·, st)
    | none => none
  | .indexAddr t x i => match ev C st i with
    | .v (.int _ k) => match elemOfSlice C.P t with
      | some (_, n) => (indexS n k (ev C st x)).map (·, st)
      | none => match elemOfArray C.P t with
        | some (len, n) => (indexR len n k (ev C st x)).map (·, st)
        | none => none
    | _ => none
  | .nilCheck x => (nilA (ev C st x)).map (·, st)
  | .binOp op t x y _ => (binA C.P op t (ev C st x) (ev C st y)).map (·, st)
  | .unOp op _ x => (unA op (ev C st x)).map (·, st)
  | .convert src dst x => convA C.P src dst st (ev C st x)
  | .extract x i => match ev C st x with
    | .tup cs => (cs[i]?).map (·, st)
    | _ => none
  | .field t x i => (fieldV C.P t i (ev C st x)).map (·, st)
  | .index t x i => (idxV C.P t (ev C st i) (ev C st x)).map (·, st)
  | .build t ps => match zeroOf C.P t, aggOf C.P t with
    | some zs, some true => if sized C.P t = true then (fillA (placeOf C.P t) (vals zs) (parts C st ps)).map (.agg ·, st) else none
    | _, _ => none
  | .buildSlice t len ps => match o.dst, rowInf C.P t with
    | some d, some (e, n, _) => match zeroOf C.P e with
      | some zs => litA (nm d) n len zs st (parts C st ps)
      | none => none
    | _, _ => none
  | .makeSlice t l c => match o.dst, rowInf C.P t, ev C st l, ev C st c with
    | some d, some (e, n, _), .v (.int _ l), .v (.int _ c) => match zeroOf C.P e with
      | some zs => makeA (nm d) n zs st l c
      | none => none
    | _, _, _, _ => none
  | .slice t x lo hi mx => sliceOp C st t (ev C st x) lo hi mx
  | .makeFunc fn first caps => match fn, first.toList, caps.toList with
    | .func f, [], cs => some (.fn f (cs.map (ev C st)), st)
    | .func f, x :: xs, [] => some (.mv f ((x :: xs).map (ev C st)), st)
    | _, _, _ => none
  | .makeInterface t x => if C.P.concrete t then some (.ifc t (ev C st x), st) else none
  | .call c => match c.callee with
    | .builtin b => builtinV C o.dst b c.args.toList c.argTypes.toList st
    | _ => none
  | .makeMap _ rv => match o.dst, rv with
    | some d, none => some (.mp (nmM d), ⟨(st.kill [] [nmM d]).tmps, (nmM d, []) :: (st.kill [] [nmM d]).objs⟩)
    | _, _ => none
  | .lookup t m k ok => match ok with
    | false => (lookupV C.P t st.objs (ev C st m) (ev C st k)).map (·, st)
    | true => none
  | .mapUpdate t m k v => match o.dst with
    | none => (insertV C.P t st.objs (ev C st m) (ev C st k) (ev C st v)).map fun os => (.undef, ⟨st.tmps, os⟩)
    | some _ => none
  | _ => none

section
variable {C : Ctx} {A : A0} {N : Nat} {g g' : Gh} {st : St} {a : Act} {w w' : World} {P : Program}

theorem strT_spec {t : TypeId} (h : strT P t = true) : P.underlying t = some .string := by
  unfold strT at h; split at h <;> simp_all
theorem intT_spec {t : TypeId} {k : IntKind} (h : intT P t = some k) : P.underlying t = some (.int k) := by
  unfold intT at h; split at h <;> simp_all
theorem isSliceT_spec {t : TypeId} (h : isSliceT P t = true) : ∃ e, P.underlying t = some (.slice e) := by
  unfold isSliceT at h; split at h <;> simp_all
theorem isBytesT_spec {t : TypeId} (h : isBytesT P t = true) : ∃ e, P.underlying t = some (.slice e) ∧ P.underlying e = some (.int .u8) ∧ szOf P e = some 1 := by
  unfold isBytesT at h
  split at h
  · rename_i e he
    split at h
    · rename_i h1 h2; exact ⟨e, he, h1, h2⟩
    · cases h
  · cases h

theorem pick_sound {x y z r : AV} {ux uy uz : Value} (hx : VR g w x ux) (hy : VR g w y uy) (hz : VR g w z uz) (h : pickA x y z = some r) :
    ∃ u, (do pure (.value (if ← asBool ux then uy else uz)) : Sem Next).run P w = .ok (.value u) w ∧ VR g w r u := by
  unfold pickA at h
  split at h
  · rename_i p b c
    simp only [VR] at hx hy hz; subst hx; subst hy; subst hz
    simp at h; subst h
    refine ⟨_, by simp [asBool]; rfl, ?_⟩
    cases p <;> simp [VR]
  · simp only [VR] at hx; subst hx
    simp at h; subst h
    exact ⟨uy, by simp [asBool], hy⟩
  · simp only [VR] at hx; subst hx
    simp at h; subst h
    exact ⟨uz, by simp [asBool], hz⟩
  · cases h

theorem len_sound {t ty : TypeId} {x r : AV} {ux : Value} (ht : isSliceT P t = true ∨ strT P t = true) (hx : VR g w x ux) (h : lenA x = some r)
    (hk : (∃ s, x = .v (.string s)) → strT P t = true) (hk' : (¬ ∃ s, x = .v (.string s)) → isSliceT P t = true) : ∃ u, (Builtin.len_ #[t] ty #[ux]).run P w = .ok u w ∧ VR g w r u := by
  unfold lenA at h
  split at h
  · rename_i t' n es
    simp at h; subst h
    obtain ⟨e, he⟩ := isSliceT_spec (hk' (by rintro ⟨s, hs⟩; cases hs))
    have : ∃ a cap, ux = .slice a es.length cap := by
      cases t' with
      | own r lo =>
        simp only [VR, OwnSl] at hx
        obtain ⟨_, ⟨rfl, rfl⟩ | ⟨_, rfl, a, cap, rfl, _⟩ | ⟨cap, _, _, rfl, _⟩⟩ := hx
        · exact ⟨none, 0, rfl⟩
        · exact ⟨a, cap, rfl⟩
        · exact ⟨_, cap, rfl⟩
      | no => simp only [VR, PR] at hx; obtain ⟨_, a, cap, rfl, _⟩ := hx; exact ⟨a, cap, rfl⟩
      | full => simp only [VR, PR] at hx; obtain ⟨_, a, cap, rfl, _⟩ := hx; exact ⟨a, cap, rfl⟩
    obtain ⟨a, cap, rfl⟩ := this
    exact ⟨_, by simp [Builtin.len_, run_underlying he, goInt]; rfl, by simp [VR]⟩
  · simp at h; subst h
    simp only [VR] at hx; subst hx
    obtain ⟨e, he⟩ := isSliceT_spec (hk' (by rintro ⟨s, hs⟩; cases hs))
    exact ⟨_, by simp [Builtin.len_, run_underlying he, goInt]; rfl, by simp [VR]⟩
  · simp at h; subst h
    simp only [VR] at hx; subst hx
    have he := strT_spec (hk ⟨_, rfl⟩)
    exact ⟨_, by simp [Builtin.len_, run_underlying he, goInt]; rfl, by simp [VR]⟩
  · rename_i r _ _ _ m bss
    simp at h; subst h
    obtain ⟨e, he⟩ := isSliceT_spec (hk' (by rintro ⟨s, hs⟩; cases hs))
    simp only [VR] at hx
    obtain ⟨hm, ⟨rfl, rfl⟩ | ⟨cap, cur, T, rfl, _⟩⟩ := hx
    · exact ⟨_, by simp [Builtin.len_, run_underlying he, goInt]; rfl, by simp [VR]⟩
    · exact ⟨_, by simp [Builtin.len_, run_underlying he, goInt]; rfl, by simp [VR]⟩
  · rename_i r _ _ _ m b
    simp at h; subst h
    obtain ⟨e, he⟩ := isSliceT_spec (hk' (by rintro ⟨s, hs⟩; cases hs))
    simp only [VR] at hx
    obtain ⟨hm, b', hbb, hi⟩ := hx
    simp only [List.cons.injEq, and_true] at hbb
    subst hbb
    rcases hi with ⟨rfl, a, cap, rfl, _⟩ | ⟨cap, cur, T, rfl, _⟩
    · exact ⟨_, by simp [Builtin.len_, run_underlying he, goInt]; rfl, by simp [VR]⟩
    · exact ⟨_, by simp [Builtin.len_, run_underlying he, goInt]; rfl, by simp [VR]⟩
  · rename_i xs
    simp at h; subst h
    obtain ⟨e, he⟩ := isSliceT_spec (hk' (by rintro ⟨s, hs⟩; cases hs))
    simp only [VR, MemU] at hx
    obtain ⟨ad, vs, _, _, hv, cap, rfl, _, _⟩ := hx
    have hl := VRs.length hv
    exact ⟨_, by simp [Builtin.len_, run_underlying he, goInt]; rfl, by simp [VR, hl]⟩
  · cases h

theorem PRl_bytesAV {ro : Nat → Prop} : ∀ l : List UInt8, PRl ro w (bytesAV l).flatten (l.map fun b => Value.int .u8 b.toNat)
  | [] => by simp [bytesAV, PRl]
  | b :: l => by
    have := PRl_bytesAV (ro := ro) l
    simp only [bytesAV, List.map_cons, List.flatten_cons, List.cons_append, List.nil_append, PRl, PR] at this ⊢
    exact ⟨⟨trivial, rfl⟩, this⟩

theorem unbytes_vals {ro : Nat → Prop} : ∀ {es : List (List AV)} {us : List Value} {l : List UInt8}, unbytes es = some l → PRl ro w es.flatten us → ∃ ns : List Int, us = ns.map (Value.int .u8) ∧ l = ns.map (fun n => UInt8.ofNat n.toNat)
  | [], [], l, h, _ => by simp [unbytes] at h; subst h; exact ⟨[], rfl, rfl⟩
  | [], _ :: _, _, _, hp => by simp [PRl] at hp
  | e :: es, us, l, h, hp => by
    unfold unbytes at h
    split at h
    · rename_i heq; cases heq
    · rename_i n es' heq
      injection heq with h1 h2
      subst h1; subst h2
      obtain ⟨l', hl', rfl⟩ := Option.map_eq_some_iff.1 h
      simp only [List.flatten_cons, List.cons_append, List.nil_append] at hp
      match us, hp with
      | u :: us, hp =>
        simp only [PRl, PR] at hp
        obtain ⟨ns, rfl, rfl⟩ := unbytes_vals hl' hp.2
        exact ⟨n :: ns, by simp [hp.1.1], by simp⟩
      | [], hp => simp [PRl] at hp
    · cases h

theorem foldl_push (ns : List Int) : ∀ acc : ByteArray, (ns.foldl (fun r n => r.push (UInt8.ofNat n.toNat)) acc) = ⟨acc.data ++ (ns.map (fun n => UInt8.ofNat n.toNat)).toArray⟩ := by
  induction ns with
  | nil => intro acc; cases acc; simp
  | cons n ns ih =>
    intro acc
    rw [List.foldl_cons, ih]
    simp [ByteArray.push]

theorem conv_sound (hR : R C A N g st a w) {src dst : TypeId} {x r : AV} {ux : Value} (hx : VR g w x ux) {st' : St} (h : convA P src dst st x = some (r, st')) :
    ∃ u w' g', (convert src dst ux).run P w = .ok u w' ∧ R C A N g' st' a w' ∧ VR g' w' r u := by
  unfold convA at h
  split at h
  · -- an integer
    simp only [VR] at hx; subst hx
    split at h
    · rename_i k1 k2 h1 h2
      simp at h; obtain ⟨rfl, rfl⟩ := h
      refine ⟨.int k2 (k2.wrap _), w, g, ?_, hR, by simp only [VR]; rfl⟩
      simp [convert, run_underlying (intT_spec h1), run_underlying (intT_spec h2), Conv.intToInt]
    · cases h
  · simp only [VR] at hx; subst hx
    rename_i s
    split at h
    · rename_i hc
      simp at h; obtain ⟨rfl, rfl⟩ := h
      exact ⟨_, w, g, by simp [convert, run_underlying (strT_spec hc.1), run_underlying (strT_spec hc.2)]; rfl, hR, by simp [VR]⟩
    · split at h
      · rename_i hc
        simp at h; obtain ⟨rfl, rfl⟩ := h
        obtain ⟨e, h1, h2, h3⟩ := isBytesT_spec hc.2.1
        have hrun := Lib.run_convert_string_bytes (P := P) w src dst e s (strT_spec hc.1) h1 h2
        obtain ⟨g', k1, k2, k3⟩ := hR.newRo (w' := Lib.bytesWorld w e s) (by simp [Lib.bytesWorld, World.freeze]; rfl) ⟨by simp [Lib.bytesWorld, World.freeze], by simp only [Lib.bytesWorld, World.freeze]; exact Nat.le_succ _⟩ (by simp [Lib.bytesWorld, World.freeze]; rfl) (Lib.bytesWorld_size w e s) (fun b hb => Lib.bytesWorld_at_old w e s b hb)
        refine ⟨_, _, g', hrun, k1, ?_⟩
        have hsl : (bytesAV s.data.toList).length = s.size := by simp [bytesAV]
        simp only [VR, PR]
        refine ⟨(fun _ _ h => by cases h), _, _, by rw [hsl], by rw [hsl]; exact grownCap_ge w s.size 0 e, grownCap_le_maxLen w s.size 0 e (by simp only [maxLen]; omega), (fun h => by cases h), by omega, ?_⟩
        refine .inr ⟨_, rfl, k2, PRe.of_list _ _ _ 1 0 (fun e' he' => by simp only [bytesAV, List.mem_map] at he'; obtain ⟨_, _, rfl⟩ := he'; rfl) (PRl_bytesAV _) fun j v hj => ?_⟩
        have hj' : j < s.size := by
          rcases Nat.lt_or_ge j s.size with h | h
          · exact h
          · rw [List.getElem?_eq_none (by simpa using h)] at hj; cases hj
        simp only [Nat.zero_mul, Nat.zero_add, add_lit]
        rw [Lib.bytesWorld_cell w e s j hj', ← hj, List.getElem?_map]
        have hjl : j < s.data.toList.length := by simpa using hj'
        simp [List.getD, List.getElem?_eq_getElem hjl]
      · cases h
  · simp only [VR] at hx; subst hx
    split at h
    · rename_i hc
      simp at h; obtain ⟨rfl, rfl⟩ := h
      obtain ⟨e, h1, h2, h3⟩ := isBytesT_spec hc.1
      exact ⟨.string .empty, w, g, by simp [convert, run_underlying h1, run_underlying h2, run_underlying (strT_spec hc.2), Conv.bytesToString], hR, by simp [VR]; rfl⟩
    · cases h
  · rename_i t n es
    split at h
    · rename_i hn
      subst hn
      split at h
      · rename_i hc
        obtain ⟨l, hl, he⟩ := Option.map_eq_some_iff.1 h
        simp only [Prod.mk.injEq] at he
        obtain ⟨rfl, rfl⟩ := he
        obtain ⟨e, h1, h2, h3⟩ := isBytesT_spec hc.1
        obtain ⟨us, hs, hp, _⟩ := elems_src (n := 1) (es := es) (by omega) (by simp [elems]) hx
        obtain ⟨ns, rfl, rfl⟩ := unbytes_vals hl hp
        obtain ⟨hlen, hsrc⟩ := hs
        refine ⟨.string ⟨(ns.map (fun n => UInt8.ofNat n.toNat)).toArray⟩, w, g, ?_, hR, by simp only [VR]⟩
        rcases hsrc with ⟨ad, c, rfl, hcell⟩ | ⟨h0, c, rfl⟩
        · rw [run_convert_bytes_string w src dst e _ _ _ h1 h2 (strT_spec hc.2)]
          have hlc : (loadCells ad es.length).run P w = .ok (ns.map (Value.int .u8)).toArray w := by
            have := run_loadCells_list (P := P) w ad (ns.map (Value.int .u8)) hcell
            rwa [hlen, Nat.mul_one] at this
          rw [run_bytesToString w ad es.length c ns hlc, foldl_push]
          simp [ByteArray.empty, ByteArray.emptyWithCapacity]
          try rfl
        · have : ns = [] := by
            have : ns.length = 0 := by simpa [h0] using hlen
            exact List.eq_nil_of_length_eq_zero this
          subst this
          simp [convert, run_underlying h1, run_underlying h2, run_underlying (strT_spec hc.2), Conv.bytesToString]
          rfl
      · split at h
        · rename_i t0 es0 r0 e0 es1
          split at h
          · rename_i hc
            simp at h; obtain ⟨rfl, rfl⟩ := h
            obtain ⟨rfl, hc⟩ := hc
            obtain ⟨e, h1, h2, h3⟩ := isBytesT_spec hc
            simp only [VR, OwnSl] at hx
            obtain ⟨_, ⟨_, h0⟩ | ⟨_, h0, _⟩ | ⟨cap, cur, T, rfl, k2, k3, k5, k6, k7, k8⟩⟩ := hx
            · cases h0
            · cases h0
            · have hsh : w.shape? (g.row r0) = some (T, cur.size) := by simp [World.shape?, k6]
              have hrun : (convert src src (.slice (some ⟨g.row r0, 0 * 1, none⟩) (e0 :: es1).length cap)).run P w = .ok (.slice (some ⟨g.row r0, 0 * 1, none⟩) (e0 :: es1).length cap) (w.freeze ⟨g.row r0, cur.size, none⟩ 1) := by
                simp [convert, run_underlying h1, run_underlying h2, markStringish, hsh]
              have hother : ∀ b, b ≠ g.row r0 → (w.freeze ⟨g.row r0, cur.size, none⟩ 1).heap[b]? = w.heap[b]? := fun b hb => by
                simp [World.freeze, Array.getElem?_modify, Ne.symm hb]
              have hself : (w.freeze ⟨g.row r0, cur.size, none⟩ 1).heap[g.row r0]? = some (.cells cur T (cur.size, cur.size + 1)) := by
                simp [World.freeze, Array.getElem?_modify, k6]
              let g' : Gh := { g with own := fun x => if x = g.row r0 then .ro else g.own x }
              have hl : Lasts [r0] [] g w g' (w.freeze ⟨g.row r0, cur.size, none⟩ 1) := by
                refine ⟨fun b _ ho => ?_, fun b q _ hq ho => ?_, fun _ _ => rfl, fun _ _ => rfl, fun b q i _ _ ho => ?_, fun _ _ _ => rfl⟩
                · have hne : b ≠ g.row r0 := fun e => by rw [e, k5] at ho; cases ho
                  exact ⟨by simp [g', hne, ho], hother b hne⟩
                · have hne : b ≠ g.row r0 := fun e => by rw [e, k5] at ho; injection ho with ho; exact hq (by simp [ho])
                  exact ⟨by simp [g', hne, ho], hother b hne⟩
                · have hne : b ≠ g.row r0 := fun e => by rw [e, k5] at ho; cases ho
                  exact ⟨by simp [g', hne, ho], hother b hne⟩
              refine ⟨_, _, g', hrun, ?_, ?_⟩
              · refine hR.lasts hl (hR.fr.step hl (by simp [World.freeze]) ⟨by simp [World.freeze], by simp [World.freeze]⟩ (by simp [World.freeze]) (by simp [World.freeze]) (fun b _ ho => ?_) (fun _ _ h => by cases h)) (fun s cs hs _ => ?_)
                · have hne : b ≠ g.row r0 := fun e => by rw [e, k5] at ho; cases ho
                  exact ⟨by simp [g', hne, ho], hother b hne⟩
                · have ho := (hR.ob s cs hs).1
                  have hne : g.box s ≠ g.row r0 := fun e => by rw [e, k5] at ho; cases ho
                  exact ⟨by simp [g', hne, ho], hother _ hne⟩
              · simp only [VR, PR]
                obtain ⟨us, m1, m2, m3⟩ := PRe.list _ _ _ _ k8
                refine ⟨(fun _ _ h => by cases h), _, _, rfl, k2, by omega, (fun h => by cases h), by omega, .inr ⟨_, rfl, by simp [g', isRo], ?_⟩⟩
                refine PRe.of_list _ us _ 1 0 (PRe.lens k8) (PRl.mono hl.ro' m1) fun j v hj => ?_
                have := m3 j v hj
                simp only [add_lit] at this ⊢
                rw [cell_of_row _ _ _ _ _ _ k6] at this
                rw [cell_of_row _ _ _ _ _ _ hself]
                exact this
          · cases h
        · cases h
    · cases h
  · cases h
end
end Go.Abs
