/- part 2 of the proof -/
import Derived.WideKeyRuns
import Derived.Lib.ConvBytes
import Derived.Test.YtobcllcndnbmlaaGreatDoorM01
set_option linter.all false
namespace Go.Abs
def keyT (P : Program) (t : TypeId) : Option (Bool × List Nat) := match aggOf P t, plainEq P 20 t with
  | some agg, some ks => some (agg, ks)
  | _, _ => none
def mapT (P : Program) (t : TypeId) : Option (TypeId × Bool × List Nat × TypeId) := match P.underlying t with
  | some (.map k e) => (keyT P k).map fun p => (k, p.1, p.2, e)
  | _ => none
def zeroV (P : Program) (t : TypeId) : Option Value := (P.info? t).bind (·.zero)
def zeroM (P : Program) (t : TypeId) : Option AV := (zeroV P t).bind fun z => if z.oneCell' = true then some (.v z) else match z with
  | .agg cs => some (.agg (vals cs.toList))
  | _ => none
def keyVals (agg : Bool) : AV → Option (List Value)
  | .agg cs => if agg then valsOf cs else none
  | .v x => if agg then none else some [x]
  | _ => none
def findM (agg : Bool) (ks : List Nat) (us : List Value) : List AV → Option (Option (Nat × AV))
  | [] => some none
  | [_] => none
  | k :: v :: l => match keyVals agg k with
    | some us' => match eqVals ks us us' with
      | some true => some (some (0, v))
      | some false => (findM agg ks us l).map fun r => r.map fun p => (p.1 + 1, p.2)
      | none => none
    | none => none
def lookupA (P : Program) (t : TypeId) (cs : List AV) (k : AV) : Option AV := match mapT P t with
  | some (_, agg, ks, e) => match keyVals agg k with
    | some us => if (eqVals ks us us).isSome then match findM agg ks us cs with
      | some (some (_, v)) => some v
      | some none => zeroM P e
      | none => none
      else none
    | none => none
  | none => none
def lookupOkA (P : Program) (t : TypeId) (cs : List AV) (k : AV) : Option AV := match mapT P t with
  | some (_, agg, ks, e) => match keyVals agg k with
    | some us => if (eqVals ks us us).isSome then match findM agg ks us cs with
      | some (some (_, v)) => some (.tup [v, .v (.bool true)])
      | some none => (zeroM P e).map fun z => .tup [z, .v (.bool false)]
      | none => none
      else none
    | none => none
  | none => none
def insertA (P : Program) (t : TypeId) (cs : List AV) (k v : AV) : Option (List AV) := match mapT P t with
  | some (_, agg, ks, _) => match keyVals agg k with
    | some us => if (eqVals ks us us).isSome then match findM agg ks us cs with
      | some none => some (cs ++ [k, v])
      | _ => none
      else none
    | none => none
  | none => none
section
variable {C : Ctx} {A : A0} {N : Nat} {g g' : Gh} {st : St} {a : Act} {w w' : World} {P : Program}
theorem keyVals_spec {agg : Bool} {k : AV} {us : List Value} {u : Value} (h : keyVals agg k = some us) (hv : VR g w k u) : u = valOf agg us := by
  unfold keyVals at h
  split at h
  · split at h
    · rename_i cs ha
      subst ha
      simp only [VR] at hv
      obtain ⟨vs, rfl, h2⟩ := hv
      have := valsOf_VRs h h2
      simp [valOf, ← this]
    · cases h
  · split at h
    · cases h
    · rename_i x ha
      simp only [Option.some.injEq] at h
      subst h
      simp only [VR] at hv
      subst hv
      simp [valOf, Bool.eq_false_iff.2 ha]
  · cases h
theorem checkFields {d D : Nat} {em : Bool} (ih : ∀ (t : Nat) (ks : List Nat) (agg : Bool) (us : List Value) (r : Bool), plainEq P d t = some ks → aggOf P t = some agg → eqVals ks us us = some r → (Instr.checkKey em D t (valOf agg us)).run P w = .ok () w) :
    ∀ (fs : List Field) (off : Nat) (ks : List Nat), plainFields P d fs off = some ks → ∀ (us : List Value) (r : Bool), off ≤ us.length → eqVals ks (us.drop off) (us.drop off) = some r →
      (forIn fs PUnit.unit (fun f _ => do
        if f.name ≠ "_" then do
          Instr.checkKey em D f.type (← part f.type us.toArray f.offset)
          pure (ForInStep.yield PUnit.unit)
        else pure (ForInStep.yield PUnit.unit)) : Sem PUnit).run P w = .ok () w
  | [], off, ks, h, us, r, hu, hr => by simp
  | f :: fs, off, ks, h, us, r, hu, hr => by
    simp only [plainFields, plainFieldsW] at h
    split at h
    · cases h
    · rename_i hc
      have hc1 : f.name ≠ "_" := fun e => hc (.inl e)
      have hc2 : f.offset = off := Classical.byContradiction fun e => hc (.inr e)
      split at h
      · rename_i k1 hn
        split at h
        · rename_i hs
          obtain ⟨k2, hk2, rfl⟩ := Option.map_eq_some_iff.1 h
          obtain ⟨agg, hagg, hone⟩ := plain_one hn
          have hl := eqVals_len hr
          simp only [List.length_drop, List.length_append] at hl
          have e1 : us.drop off = (us.drop off).take k1.length ++ us.drop (off + k1.length) := by rw [← List.drop_drop, List.take_append_drop]
          rw [e1] at hr
          obtain ⟨r1, r2, m1, m2, rfl⟩ := eqVals_append (by simp; omega) (by simp; omega) hr
          have p1 := run_part (w := w) (us := us) (off := off) hagg hs hone (by omega)
          have q := ih f.type k1 agg _ r1 hn hagg m1
          have rest := checkFields ih fs (off + k1.length) k2 hk2 us r2 (by omega) m2
          simp only [List.forIn_cons, ne_eq, hc1, not_false_eq_true, if_true, hc2, Sem.run_bind, p1, q, Result.andThen_ok, Sem.run_pure]
          exact rest
        · cases h
      · cases h
theorem checkKey_plain (em : Bool) : ∀ (d D t : Nat) (ks : List Nat) (agg : Bool) (us : List Value) (r : Bool), d ≤ D → plainEq P d t = some ks → aggOf P t = some agg → eqVals ks us us = some r → (Instr.checkKey em D t (valOf agg us)).run P w = .ok () w
  | 0, _, _, _, _, _, _, _, h, _, _ => by simp [plainEq] at h
  | d + 1, 0, _, _, _, _, _, hd, _, _, _ => by omega
  | d + 1, D + 1, t, ks, agg, us, r, hd, h, ha, hr => by
    simp only [plainEq] at h
    split at h <;> rename_i hd' <;> simp only [aggOf, hd', Option.map_some, Option.some.injEq] at ha
    · subst ha; simp at h; subst h
      obtain ⟨a, b, rfl, _, rfl⟩ := eq_bool hr
      simp [valOf, Instr.checkKey, run_underlying hd']
    · subst ha; simp at h; subst h
      obtain ⟨k, a, b, rfl, _, rfl⟩ := eq_int hr
      simp [valOf, Instr.checkKey, run_underlying hd']
    · subst ha; simp at h; subst h
      obtain ⟨a, b, rfl, _, rfl⟩ := eq_string hr
      simp [valOf, Instr.checkKey, run_underlying hd']
    · rename_i fs
      subst ha
      split at h
      · cases h
      · simp only [valOf, if_true, Instr.checkKey, Sem.run_bind, run_underlying hd', Result.andThen_ok]
        rw [← Array.forIn_toList]
        have := checkFields (em := em) (fun t ks agg us r k1 k2 k3 => checkKey_plain em d D t ks agg us r (by omega) k1 k2 k3) fs.toList 0 ks h us r (Nat.zero_le _) (by simpa using hr)
        simp at this ⊢
        rw [this]
        rfl
    · cases h
theorem keyT_spec {t : TypeId} {agg : Bool} {ks : List Nat} (h : keyT P t = some (agg, ks)) : aggOf P t = some agg ∧ plainEq P 20 t = some ks := by
  unfold keyT at h
  split at h
  · rename_i h1 h2
    simp only [Option.some.injEq, Prod.mk.injEq] at h
    obtain ⟨rfl, rfl⟩ := h
    exact ⟨h1, h2⟩
  · cases h
theorem mapT_spec {t k e : TypeId} {agg : Bool} {ks : List Nat} (h : mapT P t = some (k, agg, ks, e)) : P.underlying t = some (.map k e) ∧ keyT P k = some (agg, ks) := by
  unfold mapT at h
  split at h
  · rename_i k' e' hu
    obtain ⟨⟨a', ks'⟩, h1, h2⟩ := Option.map_eq_some_iff.1 h
    simp only [Prod.mk.injEq] at h2
    obtain ⟨rfl, rfl, rfl, rfl⟩ := h2
    exact ⟨hu, h1⟩
  · cases h
theorem zeroM_sound {e : TypeId} {x : AV} (h : zeroM P e = some x) : ∃ z, (zeroValue e).run P w = .ok z w ∧ VR g w x z := by
  unfold zeroM at h
  obtain ⟨z, h1, h2⟩ := Option.bind_eq_some_iff.1 h
  unfold zeroV at h1
  obtain ⟨i, hi, hz⟩ := Option.bind_eq_some_iff.1 h1
  refine ⟨z, by simp [zeroValue, run_typeInfo hi, hz], ?_⟩
  split at h2
  · simp only [Option.some.injEq] at h2
    subst h2
    simp [VR]
  · split at h2
    · simp only [Option.some.injEq] at h2
      subst h2
      simp only [VR]
      exact ⟨_, rfl, VRs_vals _⟩
    · cases h2
theorem run_equal {kt : TypeId} {agg : Bool} {ks : List Nat} {us vs : List Value} {r : Bool} (hk : keyT P kt = some (agg, ks)) (h : eqVals ks us vs = some r) : (Op.equal kt (valOf agg us) (valOf agg vs)).run P w = .ok r w := by
  obtain ⟨h1, h2⟩ := keyT_spec hk
  exact equalIn_plain 20 10000 kt ks agg us vs r (by omega) h2 h1 h
theorem findM_sound {kt : TypeId} {agg : Bool} {ks : List Nat} {us : List Value} (hk : keyT P kt = some (agg, ks)) : ∀ (cs : List AV) (es : List MapEntry) (i : Nat) (r : Option (Nat × AV)), findM agg ks us cs = some r → VRs g w cs (flatE es) →
    (r = none → (Instr.findAsking kt (valOf agg us) es i).run P w = .ok none w) ∧
    (∀ j v, r = some (j, v) → ∃ e, es[j]? = some e ∧ (Instr.findAsking kt (valOf agg us) es i).run P w = .ok (some (i + j, e.val)) w ∧ VR g w v e.val)
  | [], [], i, r, h, _ => by
    simp only [findM, Option.some.injEq] at h
    subst h
    exact ⟨fun _ => by simp [Instr.findAsking], fun _ _ h => by cases h⟩
  | [], _ :: _, _, _, _, hv => by simp [flatE, VRs] at hv
  | [_], _, _, _, h, _ => by simp [findM] at h
  | _ :: _ :: _, [], _, _, _, hv => by simp [flatE, VRs] at hv
  | k :: v :: l, e :: es, i, r, h, hv => by
    simp only [flatE, VRs] at hv
    obtain ⟨hv1, hv2, hv3⟩ := hv
    simp only [findM] at h
    split at h
    · rename_i us' hus
      have hkey := keyVals_spec hus hv1
      split at h
      · rename_i he
        simp only [Option.some.injEq] at h
        subst h
        have q := run_equal (w := w) hk he
        refine ⟨fun h => (by cases h), fun j v' hj => ?_⟩
        simp only [Option.some.injEq, Prod.mk.injEq] at hj
        obtain ⟨rfl, rfl⟩ := hj
        exact ⟨e, rfl, by simp [Instr.findAsking, hkey, q], hv2⟩
      · rename_i he
        have q := run_equal (w := w) hk he
        obtain ⟨r0, h0, rfl⟩ := Option.map_eq_some_iff.1 h
        obtain ⟨k1, k2⟩ := findM_sound hk l es (i + 1) r0 h0 hv3
        have step : (Instr.findAsking kt (valOf agg us) (e :: es) i).run P w = (Instr.findAsking kt (valOf agg us) es (i + 1)).run P w := by simp [Instr.findAsking, hkey, q]
        refine ⟨fun hn => ?_, fun j v' hj => ?_⟩
        · rw [step]; exact k1 (by cases r0 <;> simp_all)
        · cases r0 with
          | none => simp at hj
          | some p =>
            simp only [Option.map_some, Option.some.injEq, Prod.mk.injEq] at hj
            obtain ⟨rfl, rfl⟩ := hj
            obtain ⟨e', m1, m2, m3⟩ := k2 p.1 p.2 rfl
            exact ⟨e', by simpa using m1, by rw [step, m2]; congr 3; omega, m3⟩
      · cases h
    · cases h
theorem scal {kt : TypeId} {agg : Bool} {ks : List Nat} {us : List Value} (hk : keyT P kt = some (agg, ks)) {d : TypeDesc} (hd : P.underlying kt = some d) (hs : ∀ us' b, eqVals ks us us' = some b → Instr.sameNow d (valOf agg us) (valOf agg us') = some b) :
    ∀ (cs : List AV) (es : List MapEntry) (i : Nat) (r : Option (Nat × AV)), findM agg ks us cs = some r → VRs g w cs (flatE es) → ∃ q, Instr.findNow d (valOf agg us) es i = some q ∧ (Instr.findAsking kt (valOf agg us) es i).run P w = .ok q w
  | [], [], i, r, h, _ => ⟨none, rfl, by simp [Instr.findAsking]⟩
  | [], _ :: _, _, _, _, hv => by simp [flatE, VRs] at hv
  | [_], _, _, _, h, _ => by simp [findM] at h
  | _ :: _ :: _, [], _, _, _, hv => by simp [flatE, VRs] at hv
  | k :: v :: l, e :: es, i, r, h, hv => by
    simp only [flatE, VRs] at hv
    obtain ⟨hv1, hv2, hv3⟩ := hv
    simp only [findM] at h
    split at h
    · rename_i us' hus
      have hkey := keyVals_spec hus hv1
      split at h
      · rename_i he
        have q := run_equal (w := w) hk he
        exact ⟨some (i, e.val), by simp [Instr.findNow, hkey, hs us' true he], by simp [Instr.findAsking, hkey, q]⟩
      · rename_i he
        have q := run_equal (w := w) hk he
        obtain ⟨r1, h1, rfl⟩ := Option.map_eq_some_iff.1 h
        obtain ⟨q', m1, m2⟩ := scal hk hd hs l es (i + 1) r1 h1 hv3
        exact ⟨q', by simp [Instr.findNow, hkey, hs us' false he, m1], by simp [Instr.findAsking, hkey, q, m2]⟩
      · cases h
    · cases h
theorem run_findKey {kt : TypeId} {agg : Bool} {ks : List Nat} {us : List Value} (hk : keyT P kt = some (agg, ks)) (hu : (eqVals ks us us).isSome) : ∀ (cs : List AV) (es : List MapEntry) (r : Option (Nat × AV)), findM agg ks us cs = some r → VRs g w cs (flatE es) →
    (Instr.findKey kt (valOf agg us) es).run P w = (Instr.findAsking kt (valOf agg us) es).run P w := by
  intro cs es r hr hv
  obtain ⟨h1, h2⟩ := keyT_spec hk
  simp only [plainEq] at h2
  obtain ⟨r0, hu⟩ := Option.isSome_iff_exists.1 hu
  have now : ∀ (d : TypeDesc), P.underlying kt = some d → (∀ (cs : List AV) (es : List MapEntry) (i : Nat) (r : Option (Nat × AV)), findM agg ks us cs = some r → VRs g w cs (flatE es) → ∃ q, Instr.findNow d (valOf agg us) es i = some q ∧ (Instr.findAsking kt (valOf agg us) es i).run P w = .ok q w) →
      (Instr.findKey kt (valOf agg us) es).run P w = (Instr.findAsking kt (valOf agg us) es).run P w := fun d hd h => by
    obtain ⟨q, q1, q2⟩ := h cs es 0 r hr hv
    rw [q2]
    simp [Instr.findKey, run_underlying hd, q1]
  split at h2 <;> rename_i hd <;> simp only [aggOf, hd, Option.map_some, Option.some.injEq] at h1
  · subst h1; simp at h2; subst h2
    refine now _ hd (scal hk hd fun us' b hb => ?_)
    obtain ⟨x, y, rfl, rfl, rfl⟩ := eq_bool hb
    simp [valOf, Instr.sameNow]
  · subst h1; simp at h2; subst h2
    refine now _ hd (scal hk hd fun us' b hb => ?_)
    obtain ⟨k, x, y, rfl, rfl, rfl⟩ := eq_int hb
    simp [valOf, Instr.sameNow]
  · subst h1; simp at h2; subst h2
    refine now _ hd (scal hk hd fun us' b hb => ?_)
    obtain ⟨x, y, rfl, rfl, rfl⟩ := eq_string hb
    simp [valOf, Instr.sameNow, beq_toListBytes]
  · exact Go.run_findKey_eq w (by simp [hd]) _ _
  · cases h2
theorem lookup_sound {t : TypeId} {cs : List AV} {k x : AV} {uk : Value} {b : Nat} {es : Array MapEntry} {clk : Nat} (h : lookupA P t cs k = some x) (hk : VR g w k uk) (hb : w.heap[b]? = some (.map es clk)) (hv : VRs g w cs (flatE es.toList)) :
    ∃ u, (Instr.lookup t (.map (some b)) uk false).run P w = .ok u w ∧ VR g w x u := by
  unfold lookupA at h
  split at h
  · rename_i kt agg ks e hm
    obtain ⟨h1, h2⟩ := mapT_spec hm
    split at h
    · rename_i us hus
      split at h
      · rename_i hself
        obtain rfl := keyVals_spec hus hk
        obtain ⟨r0, hr0⟩ := Option.isSome_iff_exists.1 hself
        have hck := checkKey_plain (P := P) (w := w) es.isEmpty 20 10000 kt ks agg us r0 (by omega) (keyT_spec h2).2 (keyT_spec h2).1 hr0
        split at h
        · rename_i j v hf
          simp only [Option.some.injEq] at h
          subst h
          obtain ⟨e', m1, m2, m3⟩ := (findM_sound h2 cs es.toList 0 _ hf hv).2 j v rfl
          have hfk := run_findKey h2 hself cs es.toList _ hf hv
          rw [m2] at hfk
          exact ⟨e'.val, by simp [Instr.lookup, run_underlying h1, MapKept.run_getObj_map hb, hck, hfk], m3⟩
        · rename_i hf
          have m := (findM_sound h2 cs es.toList 0 _ hf hv).1 rfl
          have hfk := run_findKey h2 hself cs es.toList _ hf hv
          rw [m] at hfk
          obtain ⟨z, z1, z2⟩ := zeroM_sound (g := g) (w := w) h
          exact ⟨z, by simp [Instr.lookup, run_underlying h1, MapKept.run_getObj_map hb, hck, hfk, z1], z2⟩
        · cases h
      · cases h
    · cases h
  · cases h
theorem lookupOk_sound {t : TypeId} {cs : List AV} {k x : AV} {uk : Value} {b : Nat} {es : Array MapEntry} {clk : Nat} (h : lookupOkA P t cs k = some x) (hk : VR g w k uk) (hb : w.heap[b]? = some (.map es clk)) (hv : VRs g w cs (flatE es.toList)) :
    ∃ u, (Instr.lookup t (.map (some b)) uk true).run P w = .ok u w ∧ VR g w x u := by
  unfold lookupOkA at h
  split at h
  · rename_i kt agg ks e hm
    obtain ⟨h1, h2⟩ := mapT_spec hm
    split at h
    · rename_i us hus
      split at h
      · rename_i hself
        obtain rfl := keyVals_spec hus hk
        obtain ⟨r0, hr0⟩ := Option.isSome_iff_exists.1 hself
        have hck := checkKey_plain (P := P) (w := w) es.isEmpty 20 10000 kt ks agg us r0 (by omega) (keyT_spec h2).2 (keyT_spec h2).1 hr0
        split at h
        · rename_i j v hf
          simp only [Option.some.injEq] at h
          subst h
          obtain ⟨e', m1, m2, m3⟩ := (findM_sound h2 cs es.toList 0 _ hf hv).2 j v rfl
          have hfk := run_findKey h2 hself cs es.toList _ hf hv
          rw [m2] at hfk
          exact ⟨.tuple #[e'.val, .bool true], by simp [Instr.lookup, run_underlying h1, MapKept.run_getObj_map hb, hck, hfk], by simp only [VR]; exact ⟨_, rfl, by simp [VRs, VR, m3]⟩⟩
        · rename_i hf
          have m := (findM_sound h2 cs es.toList 0 _ hf hv).1 rfl
          have hfk := run_findKey h2 hself cs es.toList _ hf hv
          rw [m] at hfk
          obtain ⟨z0, hz0, rfl⟩ := Option.map_eq_some_iff.1 h
          obtain ⟨z, z1, z2⟩ := zeroM_sound (g := g) (w := w) hz0
          exact ⟨.tuple #[z, .bool false], by simp [Instr.lookup, run_underlying h1, MapKept.run_getObj_map hb, hck, hfk, z1], by simp only [VR]; exact ⟨_, rfl, by simp [VRs, VR, z2]⟩⟩
        · cases h
      · cases h
    · cases h
  · cases h
theorem flatE_append : ∀ (l m : List MapEntry), flatE (l ++ m) = flatE l ++ flatE m
  | [], m => rfl
  | e :: l, m => by simp [flatE, flatE_append l m]
theorem insert_sound {t : TypeId} {cs cs' : List AV} {k v : AV} {uk uv : Value} {b : Nat} {es : Array MapEntry} {clk : Nat} (h : insertA P t cs k v = some cs') (hk : VR g w k uk) (hb : w.heap[b]? = some (.map es clk)) (hv : VRs g w cs (flatE es.toList)) :
    (Instr.mapUpdate t (.map (some b)) uk uv).run P w = .ok () { w with heap := w.heap.setIfInBounds b (.map (es.push { key := uk, val := uv, born := clk }) (clk + 1)) } ∧ cs' = cs ++ [k, v] := by
  unfold insertA at h
  split at h
  · rename_i kt agg ks e hm
    obtain ⟨h1, h2⟩ := mapT_spec hm
    split at h
    · rename_i us hus
      split at h
      · rename_i hself
        obtain rfl := keyVals_spec hus hk
        obtain ⟨r0, hr0⟩ := Option.isSome_iff_exists.1 hself
        have hck := checkKey_plain (P := P) (w := w) false 20 10000 kt ks agg us r0 (by omega) (keyT_spec h2).2 (keyT_spec h2).1 hr0
        split at h
        · rename_i hf
          simp only [Option.some.injEq] at h
          have m := (findM_sound h2 cs es.toList 0 _ hf hv).1 rfl
          have hfk := run_findKey h2 hself cs es.toList _ hf hv
          rw [m] at hfk
          exact ⟨by simp [Instr.mapUpdate, run_underlying h1, MapKept.run_getObj_map hb, hck, hfk, MapKept.run_setObj_map _ hb], h.symm⟩
        · cases h
      · cases h
    · cases h
  · cases h
theorem R.newMap (h : R C A N g st a w) (s : Nat) (hmp : isMap s = true) (hs : s ∉ A.ext) :
    R C A N (g.newBox w.heap.size s) ⟨(st.kill [] [s]).tmps, (s, []) :: (st.kill [] [s]).objs⟩ a (w.alloc (.map #[] 0)) := by
  have hl := lasts_newBox g w (.map #[] 0) s
  have hfr : Fr C A (g.newBox w.heap.size s) (w.alloc (.map #[] 0)) := h.fr.step hl rfl ⟨rfl, by first | exact Nat.le_refl _ | exact Nat.le_succ _⟩ rfl (by simp) (fun b hb ho => ⟨by simp [Gh.newBox, Nat.ne_of_lt hb, ho], alloc_old w _ b hb⟩) (fun q hq he => hs (by simpa [List.mem_singleton.1 he] using hq))
  have h1 := h.lasts hl hfr (fun q cs' hq hne => by
    have ho := h.ob q cs' hq
    exact ⟨by simp [Gh.newBox, Nat.ne_of_lt ho.lt, ho.1], alloc_old w _ _ ho.lt⟩)
  refine ⟨h1.size, h1.defs, h1.tm, fun q cs' hq => ?_, h1.fr⟩
  simp only [lk] at hq
  by_cases hsq : s = q
  · subst hsq
    simp only [if_true, Option.some.injEq] at hq
    subst hq
    refine ⟨by simp [Gh.newBox], .inr ⟨hmp, #[], 0, ?_, by simp [flatE, VRs]⟩⟩
    simp only [Gh.newBox, if_true]
    exact heap_alloc_new w _
  · simp only [hsq, if_false] at hq
    exact h1.ob q cs' hq
theorem R.setMap (h : R C A N g st a w) {s : Nat} (hmp : isMap s = true) {cs : List AV} (hs : lk s st.objs = some cs) {es : Array MapEntry} {clk clk' : Nat} (hb : w.heap[g.box s]? = some (.map es clk)) {e : MapEntry} {k v : AV} (hk : VR g w k e.key) (hv : VR g w v e.val) (hcs : VRs g w cs (flatE es.toList)) :
    R C A N g ⟨st.tmps, upd s (cs ++ [k, v]) st.objs⟩ a { w with heap := w.heap.setIfInBounds (g.box s) (.map (es.push e) clk') } := by
  have hown := (h.ob s cs hs).1
  obtain ⟨hnew, hold⟩ := MapKept.heap_set (o' := .map (es.push e) clk') hb
  generalize hw' : ({ w with heap := w.heap.setIfInBounds (g.box s) (.map (es.push e) clk') } : World) = w'
  have hh : w'.heap = w.heap.setIfInBounds (g.box s) (.map (es.push e) clk') := by rw [← hw']
  rw [← hh] at hnew hold
  have hl : Lasts [] [] g w g w' := ⟨fun q hq ho => ⟨ho, hold q (fun e => by subst e; rw [hown] at ho; cases ho)⟩, fun q r hq _ ho => ⟨ho, hold q (fun e => by subst e; rw [hown] at ho; cases ho)⟩, fun _ _ => rfl, fun _ _ => rfl⟩
  have hfr : Fr C A g w' := h.fr.step hl (by rw [← hw']) ⟨by rw [← hw'], by rw [← hw']; exact Nat.le_refl _⟩ (by rw [← hw']) (by rw [hh]; simp) (fun q hq ho => ⟨ho, hold q (fun e => by subst e; rw [hown] at ho; cases ho)⟩) (fun _ _ he => by cases he)
  have lift : ∀ {ds : List AV} {vs : List Value}, VRs g w ds vs → VRs g w' ds vs := fun hd => by have := VRs.lasts hl _ _ hd; rwa [killL_nil] at this
  refine ⟨h.size, h.defs, fun j y hy => ?_, fun q cs' hq => ?_, hfr⟩
  · obtain ⟨u, h1, h2⟩ := h.tm j y hy
    exact ⟨u, h1, by have := VR.lasts hl y u h2; rwa [kill_nil] at this⟩
  · simp only [lk_upd] at hq
    by_cases hqs : q = s
    · subst hqs
      simp only [if_true, hs, Option.map_some, Option.some.injEq] at hq
      subst hq
      refine ⟨hown, .inr ⟨hmp, _, _, hnew, ?_⟩⟩
      rw [Array.toList_push, flatE_append]
      exact VRs.append (lift hcs) (lift (by simp [flatE, VRs, hk, hv]))
    · simp only [hqs, if_false] at hq
      have h1 := (h.ob q cs' hq).1
      exact (h.ob q cs' hq).lift rfl h1 (hold _ (fun e => by rw [e, hown] at h1; injection h1 with h1; exact hqs h1.symm)) (fun us h4 => lift h4)
theorem ObjAt.map {s : Nat} {cs : List AV} (h : ObjAt g w s cs) (hk : isMap s = true) : ∃ es clk, w.heap[g.box s]? = some (.map es clk) ∧ VRs g w cs (flatE es.toList) := by
  obtain ⟨_, ⟨h1, _⟩ | ⟨_, h⟩⟩ := h
  · rw [hk] at h1; cases h1
  · exact h
end
end Go.Abs
namespace Go.Abs
def strT (P : Program) (t : TypeId) : Bool := match P.underlying t with
  | some .string => true
  | _ => false
def intT (P : Program) (t : TypeId) : Option IntKind := match P.underlying t with
  | some (.int k) => some k
  | _ => none
def lenA : AV → Option AV
  | .sl _ _ es => some (.v (.int .i64 es.length))
  | .v (.slice none 0 0) => some (.v (.int .i64 0))
  | .v (.string s) => some (.v (.int .i64 s.size))
  | .mem true xs => some (.v (.int .i64 xs.length))
  | _ => none
def lenOk (P : Program) (t : TypeId) : AV → Bool
  | .v (.string _) => strT P t
  | _ => isSliceT P t
def pickA : AV → AV → AV → Option AV
  | .v (.bool p), .v (.bool x), .v (.bool y) => some (.v (.bool (bif p then x else y)))
  | .v (.bool true), x, _ => some x
  | .v (.bool false), _, y => some y
  | _, _, _ => none
def nilA : AV → Option AV
  | .ptr s o => some (.ptr s o)
  | .ep t i cs o => some (.ep t i cs o)
  | .fn f cs => some (.fn f cs)
  | _ => none
def convP (P : Program) (src dst : TypeId) : AV → Option AV
  | .v (.int _ n) => match intT P src, intT P dst with
    | some _, some k => some (.v (.int k (k.wrap n)))
    | _, _ => none
  | _ => none
def placeOf (P : Program) (t : TypeId) (i : Nat) : Option (Nat × Nat) :=
  match P.underlying t with
  | some (.struct fs) => match fs[i]? with
    | some f => (szOf P f.type).map fun n => (f.offset, n)
    | none => none
  | some (.array _ e) => (szOf P e).map fun n => (i * n, n)
  | _ => none
def sized (P : Program) (t : TypeId) : Bool := match P.underlying t with
  | some (.struct fs) => fs.toList.all fun f => (szOf P f.type).isSome
  | some (.array _ e) => (szOf P e).isSome
  | _ => false
def fieldV (P : Program) (t : TypeId) (i : Nat) : AV → Option AV
  | .agg cs => match P.underlying t with
    | some (.struct fs) => match fs[i]? with
      | some f => match aggOf P f.type, szOf P f.type with
        | some agg, some n => if f.offset + n ≤ cs.length then mkA agg ((cs.drop f.offset).take n) else none
        | _, _ => none
      | none => none
    | _ => none
  | _ => none
def elemInf (P : Program) (t : TypeId) : Option (Nat × Nat × Bool) := match P.underlying t with
  | some (.array len e) => match szOf P e, aggOf P e with
    | some n, some b => some (len, n, b)
    | _, _ => none
  | _ => none
def idxV (P : Program) (t : TypeId) (k : AV) : AV → Option AV
  | .agg cs => match k, elemInf P t with
    | .v (.int _ k), some (len, n, b) => if 0 ≤ k ∧ k < len ∧ k.toNat * n + n ≤ cs.length then mkA b ((cs.drop (k.toNat * n)).take n) else none
    | _, _ => none
  | .v (.string s) => match k with
    | .v (.int _ k) => if strT P t = true ∧ 0 ≤ k then (s[k.toNat]?).map fun c => .v (.int .u8 c.toNat) else none
    | _ => none
  | _ => none
def concreteT (P : Program) (t : TypeId) : Bool := P.concrete t
def litBound (C : Ctx) (st : St) : Option Operand → Option (Option Nat)
  | none => some none
  | some o => (natOf (ev C st o)).map some
def parts (C : Ctx) (st : St) (ps : Array (Nat × Operand)) : List (Nat × AV) := ps.toList.map fun p => (p.1, ev C st p.2)
def nm (d : Nat) : Nat := d * 64
theorem nm_cells (d : Nat) : isMap (nm d) = false := by simp [isMap, nm]
def nmM (d : Nat) : Nat := d * 64 + 62
theorem nm_map (d : Nat) : isMap (nmM d) = true := by simp [isMap, nmM]
def strLen : AV → Option Nat
  | .v (.string s) => some s.size
  | _ => none
def sliceOp (C : Ctx) (st : St) (t : TypeId) (x : AV) (lo hi mx : Option Operand) : Option (AV × St) :=
  match litBound C st lo, litBound C st hi, litBound C st mx with
  | some l, some h, some m => match elemOfSlice C.P t with
    | some (_, n) => match elems n x with
      | some es => match h, m with
        | some h, some m => if m = h then sliceA n true (l.getD 0) h st x else none
        | some h, none => sliceA n false (l.getD 0) h st x
        | none, none => sliceA n false (l.getD 0) es.length st x
        | none, some _ => none
      | none => none
    | none => match x, m with
      | .v (.string s), none => if strT C.P t ∧ l.getD 0 ≤ h.getD s.size ∧ h.getD s.size ≤ s.size then some (.v (.string (s.extract (l.getD 0) (h.getD s.size))), st) else none
      | _, _ => none
  | _, _, _ => none
def builtinV (C : Ctx) (dst : Option Nat) (b : Builtin) (xs : List Operand) (ts : List TypeId) (st : St) : Option (AV × St) :=
  match b with
  | .len => match xs, ts with
    | [x], [t] => if lenOk C.P t (ev C st x) = true then (lenA (ev C st x)).map (·, st) else none
    | _, _ => none
  | .append => match dst, xs, ts with
    | some d, [x, y], [t, t2] => match rowInf C.P t with
      | some (e, n, _) => if isSliceT C.P t2 = true then appendA (nm d) n st (ev C st x) (ev C st y) else match zeroOf C.P e with
        | some zs => appendNA C.P (nm d) n t2 zs st (ev C st x) (ev C st y)
        | none => none
      | none => none
    | _, _, _ => none
  | .copy => match xs, ts with
    | [x, y], t :: _ => copyA C.P t st (ev C st x) (ev C st y)
    | _, _ => none
  | .clear => match xs, ts with
    | [x], [t] => clearA C.P t st (ev C st x)
    | _, _ => none
  | .cap => match xs, ts with
    | [x], [t] => (capA C.P t (ev C st x)).map (·, st)
    | _, _ => none
  | .max => match xs with
    | [x, y] => match ev C st x, ev C st y with
      | .v (.int k a), .v (.int _ b) => some (.v (.int k (if b > a then b else a)), st)
      | _, _ => none
    | _ => none
  | .min => match xs with
    | [x, y] => match ev C st x, ev C st y with
      | .v (.int k a), .v (.int _ b) => some (.v (.int k (if b < a then b else a)), st)
      | _, _ => none
    | _ => none
  | _ => none
def lookupV (P : Program) (t : TypeId) (objs : List (Nat × List AV)) (m k : AV) : Option AV := match m with
  | .mp s => (lk s objs).bind fun cs => lookupA P t cs k
  | _ => none
def lookupOkV (P : Program) (t : TypeId) (objs : List (Nat × List AV)) (m k : AV) : Option AV := match m with
  | .mp s => (lk s objs).bind fun cs => lookupOkA P t cs k
  | _ => none
def assertA (P : Program) (t : TypeId) (ok : Bool) : AV → Option AV
  | .ifc t' y => if P.concrete t = true ∧ t' = t then some (if ok = true then .tup [y, .v (.bool true)] else y) else none
  | _ => none
def insertV (P : Program) (t : TypeId) (objs : List (Nat × List AV)) (m k v : AV) : Option (List (Nat × List AV)) := match m with
  | .mp s => (lk s objs).bind fun cs => (insertA P t cs k v).map fun cs' => upd s cs' objs
  | _ => none
def stepV (C : Ctx) (o : Oper) (st : St) : Option (AV × St) :=
  match o.op with
  | .move x => some (ev C st x, st)
  | .assign x => some (ev C st x, st)
  | .pick c a b => (pickA (ev C st c) (ev C st a) (ev C st b)).map (·, st)
  | .alloc t => match o.dst, zeroOf C.P t with
    | some d, some zs => some (.ptr (nm d) 0, ⟨(st.kill [] [nm d]).tmps, (nm d, vals zs) :: (st.kill [] [nm d]).objs⟩)
    | _, _ => none
  | .box _ x => match o.dst with
    | some d => if okCells (ev C st x).cells = true then some (.ptr (nm d) 0, ⟨(st.kill [] [nm d]).tmps, (nm d, killL [] [nm d] (ev C st x).cells) :: (st.kill [] [nm d]).objs⟩) else none
    | none => none
  | .load t a => match aggOf C.P t, szOf C.P t with
    | some agg, some n => (loadA agg n st.objs (ev C st a)).map (·, st)
    | _, _ => none
  | .store t a x => match o.dst, szOf C.P t with
    | none, some n => (storeA n st (ev C st a) (ev C st x)).map (.undef, ·)
    | _, _ => none
  | .fieldAddr t x i => match offOf C.P t i with
    | some off => (fieldA off (ev C st x)).map (·, st)
    | none => none
  | .indexAddr t x i => match ev C st i with
    | .v (.int _ k) => match elemOfSlice C.P t with
      | some (_, n) => (indexS n k (ev C st x)).map (·, st)
      | none => match elemOfArray C.P t with
        | some (len, n) => (indexR len n k (ev C st x)).map (·, st)
        | none => none
    | _ => none
  | .nilCheck x => (nilA (ev C st x)).map (·, st)
  | .binOp op t x y _ => (binA C.P op t (ev C st x) (ev C st y)).map (·, st)
  | .unOp op _ x => (unA op (ev C st x)).map (·, st)
  | .convert src dst x => (convP C.P src dst (ev C st x)).map (·, st)
  | .extract x i => match ev C st x with
    | .tup cs => (cs[i]?).map (·, st)
    | _ => none
  | .field t x i => (fieldV C.P t i (ev C st x)).map (·, st)
  | .index t x i => (idxV C.P t (ev C st i) (ev C st x)).map (·, st)
  | .build t ps => match zeroOf C.P t, aggOf C.P t with
    | some zs, some true => if sized C.P t = true then (fillA (placeOf C.P t) (vals zs) (parts C st ps)).map (.agg ·, st) else none
    | _, _ => none
  | .buildSlice t len ps => match o.dst, rowInf C.P t with
    | some d, some (e, n, _) => match zeroOf C.P e with
      | some zs => litA (nm d) n len zs st (parts C st ps)
      | none => none
    | _, _ => none
  | .makeSlice t l c => match o.dst, rowInf C.P t, ev C st l, ev C st c with
    | some d, some (e, n, _), .v (.int _ l), .v (.int _ c) => match zeroOf C.P e with
      | some zs => makeA (nm d) n zs st l c
      | none => none
    | _, _, _, _ => none
  | .slice t x lo hi mx => sliceOp C st t (ev C st x) lo hi mx
  | .makeFunc fn first caps => match fn, first.toList, caps.toList with
    | .func f, [], cs => some (.fn f (cs.map (ev C st)), st)
    | .func f, x :: xs, [] => some (.mv f ((x :: xs).map (ev C st)), st)
    | _, _, _ => none
  | .makeInterface t x => if C.P.concrete t then some (.ifc t (ev C st x), st) else none
  | .call c => match c.callee with
    | .builtin b => builtinV C o.dst b c.args.toList c.argTypes.toList st
    | _ => none
  | .makeMap _ rv => match o.dst, rv with
    | some d, none => some (.mp (nmM d), ⟨(st.kill [] [nmM d]).tmps, (nmM d, []) :: (st.kill [] [nmM d]).objs⟩)
    | _, _ => none
  | .lookup t m k ok => match ok with
    | false => (lookupV C.P t st.objs (ev C st m) (ev C st k)).map (·, st)
    | true => (lookupOkV C.P t st.objs (ev C st m) (ev C st k)).map (·, st)
  | .typeAssert x _ t ok => (assertA C.P t ok (ev C st x)).map (·, st)
  | .mapUpdate t m k v => match o.dst with
    | none => (insertV C.P t st.objs (ev C st m) (ev C st k) (ev C st v)).map fun os => (.undef, ⟨st.tmps, os⟩)
    | some _ => none
  | _ => none
section
variable {C : Ctx} {A : A0} {N : Nat} {g g' : Gh} {st : St} {a : Act} {w w' : World} {P : Program}
theorem strT_spec {t : TypeId} (h : strT P t = true) : P.underlying t = some .string := by
  unfold strT at h; split at h <;> simp_all
theorem intT_spec {t : TypeId} {k : IntKind} (h : intT P t = some k) : P.underlying t = some (.int k) := by
  unfold intT at h; split at h <;> simp_all
theorem isSliceT_spec {t : TypeId} (h : isSliceT P t = true) : ∃ e, P.underlying t = some (.slice e) := by
  unfold isSliceT at h; split at h <;> simp_all
theorem pick_sound {x y z r : AV} {ux uy uz : Value} (hx : VR g w x ux) (hy : VR g w y uy) (hz : VR g w z uz) (h : pickA x y z = some r) :
    ∃ u, (do pure (.value (if ← asBool ux then uy else uz)) : Sem Next).run P w = .ok (.value u) w ∧ VR g w r u := by
  unfold pickA at h
  split at h
  · rename_i p b c
    simp only [VR] at hx hy hz; subst hx; subst hy; subst hz
    simp at h; subst h
    refine ⟨_, by simp [asBool]; rfl, ?_⟩
    cases p <;> simp [VR]
  · simp only [VR] at hx; subst hx
    simp at h; subst h
    exact ⟨uy, by simp [asBool], hy⟩
  · simp only [VR] at hx; subst hx
    simp at h; subst h
    exact ⟨uz, by simp [asBool], hz⟩
  · cases h
theorem len_sound {t ty : TypeId} {x r : AV} {ux : Value} (ht : isSliceT P t = true ∨ strT P t = true) (hx : VR g w x ux) (h : lenA x = some r)
    (hk : (∃ s, x = .v (.string s)) → strT P t = true) (hk' : (¬ ∃ s, x = .v (.string s)) → isSliceT P t = true) : ∃ u, (Builtin.len_ #[t] ty #[ux]).run P w = .ok u w ∧ VR g w r u := by
  unfold lenA at h
  split at h
  · rename_i t' n es
    simp at h; subst h
    obtain ⟨e, he⟩ := isSliceT_spec (hk' (by rintro ⟨s, hs⟩; cases hs))
    have : ∃ a cap, ux = .slice a es.length cap := by
      cases t' with
      | own r lo =>
        simp only [VR, OwnSl] at hx
        obtain ⟨_, ⟨rfl, rfl⟩ | ⟨_, rfl, a, cap, rfl, _⟩ | ⟨cap, _, _, rfl, _⟩⟩ := hx
        · exact ⟨none, 0, rfl⟩
        · exact ⟨a, cap, rfl⟩
        · exact ⟨_, cap, rfl⟩
      | no => simp only [VR, PR] at hx; obtain ⟨_, a, cap, rfl, _⟩ := hx; exact ⟨a, cap, rfl⟩
      | full => simp only [VR, PR] at hx; obtain ⟨_, a, cap, rfl, _⟩ := hx; exact ⟨a, cap, rfl⟩
    obtain ⟨a, cap, rfl⟩ := this
    exact ⟨_, by simp [Builtin.len_, run_underlying he, goInt]; rfl, by simp [VR]⟩
  · simp at h; subst h
    simp only [VR] at hx; subst hx
    obtain ⟨e, he⟩ := isSliceT_spec (hk' (by rintro ⟨s, hs⟩; cases hs))
    exact ⟨_, by simp [Builtin.len_, run_underlying he, goInt]; rfl, by simp [VR]⟩
  · simp at h; subst h
    simp only [VR] at hx; subst hx
    have he := strT_spec (hk ⟨_, rfl⟩)
    exact ⟨_, by simp [Builtin.len_, run_underlying he, goInt]; rfl, by simp [VR]⟩
  · rename_i xs
    simp at h; subst h
    obtain ⟨e, he⟩ := isSliceT_spec (hk' (by rintro ⟨s, hs⟩; cases hs))
    simp only [VR, MemU] at hx
    obtain ⟨ad, vs, _, _, hv, cap, rfl, _, _⟩ := hx
    have hl := VRs.length hv
    exact ⟨_, by simp [Builtin.len_, run_underlying he, goInt]; rfl, by simp [VR, hl]⟩
  · cases h
theorem convP_sound {src dst : TypeId} {x r : AV} {ux : Value} (hx : VR g w x ux) (h : convP P src dst x = some r) : ∃ u, (convert src dst ux).run P w = .ok u w ∧ VR g w r u := by
  unfold convP at h
  split at h
  · simp only [VR] at hx; subst hx
    split at h
    · rename_i k1 k2 h1 h2
      simp at h; subst h
      refine ⟨.int k2 (k2.wrap _), ?_, by simp only [VR]; rfl⟩
      simp [convert, run_underlying (intT_spec h1), run_underlying (intT_spec h2), Conv.intToInt]
    · cases h
  · cases h
end
end Go.Abs
namespace Go.Abs
section
variable {C : Ctx} {A : A0} {N : Nat} {g g' : Gh} {st : St} {a : Act} {w w' : World}
theorem map_run {s : Sem Value} {P : Program} {u : Value} {w w' : World} (h : s.run P w = .ok u w') : (do pure (.value (← s)) : Sem Next).run P w = .ok (.value u) w' := by simp [h]
theorem newVar_run {P : Program} {t : TypeId} {v : Value} {w : World} : (newVar t v).run P w = .ok ⟨w.heap.size, 0, none⟩ (w.alloc (.cells v.cells t)) := by simp [newVar, newRow]
theorem VRs_map_ev (hR : R C A N g st a w) (l : List Operand) : VRs g w (l.map (ev C st)) (l.map a.eval) := by
  induction l with
  | nil => simp [VRs]
  | cons x l ih => simp only [List.map_cons, VRs]; exact ⟨hR.ev x, ih⟩
theorem natOf_spec {x : AV} {n : Nat} {u : Value} (h : natOf x = some n) (hx : VR g w x u) : ∃ k, u = .int k n := by
  unfold natOf at h
  split at h
  · rename_i k i
    split at h
    · rename_i h0
      simp at h; subst h
      simp only [VR] at hx; subst hx
      exact ⟨k, by rw [Int.toNat_of_nonneg h0]⟩
    · cases h
  · cases h
theorem bound_spec (hR : R C A N g st a w) {o : Option Operand} {b : Option Nat} (h : litBound C st o = some b) : (o.map a.eval = none ∧ b = none) ∨ (∃ n k, b = some n ∧ o.map a.eval = some (.int k n)) := by
  unfold litBound at h
  split at h
  · simp at h; subst h; exact .inl ⟨rfl, rfl⟩
  · rename_i x
    obtain ⟨n, hn, rfl⟩ := Option.map_eq_some_iff.1 h
    obtain ⟨k, hk⟩ := natOf_spec hn (hR.ev x)
    exact .inr ⟨n, k, rfl, by simp [hk]⟩
theorem sliceAt_slice {P : Program} {t e : TypeId} {x : Value} {lo hi mx : Option Value} (h : P.underlying t = some (.slice e)) : (Instr.sliceAt t x lo hi mx).run P w = (Instr.slice t x lo hi mx).run P w := by
  simp [Instr.sliceAt, run_underlying h]
theorem sliceAt_string {P : Program} {t : TypeId} {x : Value} {lo hi mx : Option Value} (h : P.underlying t = some .string) : (Instr.sliceAt t x lo hi mx).run P w = (Instr.slice t x lo hi mx).run P w := by
  simp [Instr.sliceAt, run_underlying h]
theorem elemOfSlice_spec {P : Program} {t e n : Nat} (h : elemOfSlice P t = some (e, n)) : P.underlying t = some (.slice e) ∧ szOf P e = some n := by
  unfold elemOfSlice at h
  split at h
  · rename_i e' he
    obtain ⟨n', hn', hh⟩ := Option.map_eq_some_iff.1 h
    simp only [Prod.mk.injEq] at hh
    obtain ⟨rfl, rfl⟩ := hh
    exact ⟨he, hn'⟩
  · cases h
theorem sliceOp_sound (hR : R C A N g st a w) {t : TypeId} {x : Operand} {lo hi mx : Option Operand} {z : AV} {st' : St} (h : sliceOp C st t (ev C st x) lo hi mx = some (z, st')) :
    ∃ u w' g', (Instr.sliceAt t (a.eval x) (lo.map a.eval) (hi.map a.eval) (mx.map a.eval)).run C.P w = .ok u w' ∧ R C A N g' st' a w' ∧ VR g' w' z u ∧ (((∀ r lo m es, ev C st x ≠ .sl (.own r lo) m es) ∨ mx = none) → g' = g ∧ w' = w) := by
  unfold sliceOp at h
  split at h
  · rename_i l hh m hl hhh hm
    have bl := bound_spec hR hl
    have bh := bound_spec hR hhh
    have bm := bound_spec hR hm
    split at h
    · rename_i e n hen
      obtain ⟨ht1, ht2⟩ := elemOfSlice_spec hen
      rw [sliceAt_slice ht1]
      split at h
      · rename_i es hes
        have hlen : ∀ es', elems n (ev C st x) = some es' → es'.length = es.length := fun es' h' => by rw [hes] at h'; simp at h'; rw [h']
        have hlo : ∃ kl, (lo.map a.eval = none ∧ l.getD 0 = 0) ∨ lo.map a.eval = some (.int kl (l.getD 0 : Nat)) := by
          rcases bl with ⟨h1, rfl⟩ | ⟨n', k, rfl, h1⟩
          · exact ⟨.i64, .inl ⟨h1, rfl⟩⟩
          · exact ⟨k, .inr h1⟩
        obtain ⟨kl, hlo⟩ := hlo
        split at h
        · rename_i h0 m0
          split at h
          · rename_i hmh
            subst hmh
            rcases bh with ⟨_, hc⟩ | ⟨n', kh, hc, h2⟩
            · cases hc
            · injection hc with hc; subst hc
              rcases bm with ⟨_, hc⟩ | ⟨n'', km, hc, h3⟩
              · cases hc
              · injection hc with hc; subst hc
                obtain ⟨u, g', k1, k2, k3, k4⟩ := slice_sound (full := true) (mx := mx.map a.eval) hR hen (hR.ev x) hlen hlo (.inr h2) (by simp only [if_true]; exact h3) (fun _ => h2) h
                exact ⟨u, w, g', k1, k2, k3, fun hp => ⟨k4 (hp.imp id fun hm => by subst hm; simp at h3), rfl⟩⟩
          · cases h
        · rename_i h0
          rcases bh with ⟨_, hc⟩ | ⟨n', kh, hc, h2⟩
          · cases hc
          · injection hc with hc; subst hc
            rcases bm with ⟨h3, _⟩ | ⟨_, _, hc, _⟩
            · obtain ⟨u, g', k1, k2, k3, k4⟩ := slice_sound (full := false) (mx := mx.map a.eval) (km := .i64) hR hen (hR.ev x) hlen hlo (.inr h2) (by rw [h3]; rfl) (fun h => by cases h) h
              exact ⟨u, w, g', k1, k2, k3, fun _ => ⟨k4 (.inr rfl), rfl⟩⟩
            · cases hc
        · rcases bh with ⟨h2, _⟩ | ⟨_, _, hc, _⟩
          · rcases bm with ⟨h3, _⟩ | ⟨_, _, hc, _⟩
            · obtain ⟨u, g', k1, k2, k3, k4⟩ := slice_sound (full := false) (mx := mx.map a.eval) (kh := .i64) (km := .i64) hR hen (hR.ev x) hlen hlo (.inl ⟨h2, rfl⟩) (by rw [h3]; rfl) (fun h => by cases h) h
              exact ⟨u, w, g', k1, k2, k3, fun _ => ⟨k4 (.inr rfl), rfl⟩⟩
            · cases hc
          · cases hc
        · cases h
      · cases h
    · split at h
      · rename_i s hxs
        split at h
        · rename_i hc
          simp at h; obtain ⟨rfl, rfl⟩ := h
          obtain ⟨hs, h1, h2⟩ := hc
          have hst := strT_spec hs
          rw [sliceAt_string hst]
          have hxv := hR.ev x
          rw [hxs] at hxv
          simp only [VR] at hxv
          rw [hxv]
          have e3 : mx.map a.eval = none := by
            rcases bm with ⟨h3, _⟩ | ⟨_, _, hc, _⟩
            · exact h3
            · cases hc
          rw [e3]
          refine ⟨.string (s.extract (l.getD 0) (hh.getD s.size)), w, g, ?_, hR, by simp only [VR], fun _ => ⟨rfl, rfl⟩⟩
          rcases bl with ⟨e1, rfl⟩ | ⟨n1, k1, rfl, e1⟩ <;> rcases bh with ⟨e2, rfl⟩ | ⟨n2, k2, rfl, e2⟩ <;> rw [e1, e2] <;> simp only [Option.getD_none, Option.getD_some] at h1 h2 ⊢
          · simp [Instr.slice, run_underlying hst, Instr.sliceBounds]
          · have b := run_sliceBound (P := C.P) (w := w) k2 n2 s.size .sliceAlen (by omega) (by omega)
            simp [Instr.slice, run_underlying hst, Instr.sliceBounds, b]
          · have b := run_sliceBound (P := C.P) (w := w) k1 n1 s.size .sliceB (by omega) (by omega)
            simp [Instr.slice, run_underlying hst, Instr.sliceBounds, b]
          · have b := run_sliceBound (P := C.P) (w := w) k2 n2 s.size .sliceAlen (by omega) (by omega)
            have b' := run_sliceBound (P := C.P) (w := w) k1 n1 n2 .sliceB (by omega) (by omega)
            simp only [Int.toNat_natCast] at b b'
            simp [Instr.slice, run_underlying hst, Instr.sliceBounds, b, b']
        · cases h
      · cases h
  · cases h
theorem mapM_places {P : Program} (fs : List Field) (h : ∀ f ∈ fs, (szOf P f.type).isSome) : (fs.mapM fun f => (do pure (f.offset, ← sizeOf f.type) : Sem (Nat × Nat))).run P w = .ok (fs.map fun f => (f.offset, (szOf P f.type).getD 0)) w := by
  induction fs with
  | nil => simp
  | cons f fs ih =>
    have hf := h f (by simp)
    obtain ⟨n, hn⟩ := Option.isSome_iff_exists.1 hf
    rw [List.mapM_cons]
    simp only [Sem.run_bind, run_sizeOf hn, Result.andThen_ok, Sem.run_pure, ih (fun f' hf' => h f' (by simp [hf'])), List.map_cons, hn, Option.getD_some]
theorem fill_congr (p q : Nat → Option (Nat × Nat)) : ∀ (l : List (Nat × Value)) (cs : Array Value), (∀ x ∈ l, p x.1 = q x.1) → Instr.fill p cs l = Instr.fill q cs l
  | [], _, _ => rfl
  | (i, v) :: l, cs, h => by
    have h0 := h (i, v) (by simp)
    simp only at h0
    simp only [Instr.fill, h0]
    split
    · rfl
    · split
      · rfl
      · exact fill_congr p q l _ fun x hx => h x (by simp [hx])
theorem build_sound {P : Program} {t : TypeId} {zs : List Value} (hz : zeroOf P t = some zs) (hag : aggOf P t = some true) (hsz : sized P t = true) {ps : List (Nat × AV)} {pv : List (Nat × Value)}
    (h1 : ps.map (·.1) = pv.map (·.1)) (h2 : VRs g w (ps.map (·.2)) (pv.map (·.2))) {L : List AV} (hf : fillA (placeOf P t) (vals zs) ps = some L) :
    ∃ u, (Instr.build t pv.toArray).run P w = .ok u w ∧ VR g w (.agg L) u := by
  have hzz : ∃ i z, P.info? t = some i ∧ i.zero = some z ∧ zs = z.cells.toList := by
    unfold zeroOf at hz
    obtain ⟨z, hz1, hz2⟩ := Option.map_eq_some_iff.1 hz
    obtain ⟨i, hi, hiz⟩ := Option.bind_eq_some_iff.1 hz1
    exact ⟨i, z, hi, hiz, hz2.symm⟩
  obtain ⟨i, z, hi, hiz, rfl⟩ := hzz
  obtain ⟨cur, k1, k2⟩ := fill_sound (placeOf P t) ps pv (vals z.cells.toList) z.cells L h1 h2 (VRs_vals _) hf
  refine ⟨.agg cur, ?_, cur, rfl, k2⟩
  unfold sized at hsz
  split at hsz
  · rename_i fs hu
    have hall : ∀ f ∈ fs.toList, (szOf P f.type).isSome := fun f hf => List.all_eq_true.1 hsz f hf
    have hmm : (fs.mapM fun f => (do pure (f.offset, ← sizeOf f.type) : Sem (Nat × Nat))).run P w = .ok (fs.toList.map fun f => (f.offset, (szOf P f.type).getD 0)).toArray w := by
      have e := Array.mapM_eq_mapM_toList (m := Sem) (xs := fs) (f := fun f => (do pure (f.offset, ← sizeOf f.type) : Sem (Nat × Nat)))
      rw [e]
      simp only [Sem.run_map, mapM_places _ hall, Result.andThen_ok]
    have hp : ∀ i, ((fs.toList.map fun f => (f.offset, (szOf P f.type).getD 0)).toArray)[i]? = placeOf P t i := fun i => by
      simp only [placeOf, hu, List.getElem?_toArray, List.getElem?_map, Array.getElem?_toList]
      cases hfi : fs[i]? with
      | none => rfl
      | some f =>
        have hm : f ∈ fs.toList := by
          rw [← Array.getElem?_toList] at hfi
          exact List.mem_of_getElem? hfi
        obtain ⟨n, hn⟩ := Option.isSome_iff_exists.1 (hall f hm)
        simp [hn]
    have hf2 := fill_congr (fun i => ((fs.toList.map fun f => (f.offset, (szOf P f.type).getD 0)).toArray)[i]?) (placeOf P t) pv z.cells (fun x _ => hp x.1)
    rw [k1] at hf2
    unfold Instr.build
    simp only [Sem.run_bind, zeroValue, run_typeInfo hi, Result.andThen_ok, hiz, Sem.run_pure, run_underlying hu, hmm, hf2]
  · rename_i n e hu
    obtain ⟨m, hm⟩ := Option.isSome_iff_exists.1 hsz
    have hp : ∀ i, (some (i * m, m) : Option (Nat × Nat)) = placeOf P t i := fun i => by simp [placeOf, hu, hm]
    have hf2 := fill_congr (fun i => some (i * m, m)) (placeOf P t) pv z.cells (fun x _ => hp x.1)
    rw [k1] at hf2
    unfold Instr.build
    simp only [Sem.run_bind, zeroValue, run_typeInfo hi, Result.andThen_ok, hiz, Sem.run_pure, run_underlying hu, run_sizeOf hm, hf2]
  · cases hsz
theorem fieldV_sound {P : Program} {t : TypeId} {i : Nat} {x z : AV} {ux : Value} (hx : VR g w x ux) (h : fieldV P t i x = some z) : ∃ u, (Instr.field t ux i).run P w = .ok u w ∧ VR g w z u := by
  unfold fieldV at h
  split at h
  · rename_i cs
    simp only [VR] at hx
    obtain ⟨us, rfl, hv⟩ := hx
    split at h
    · rename_i fs hu
      split at h
      · rename_i f hf
        split at h
        · rename_i agg n h1 h2
          split at h
          · rename_i hle
            have hlen : cs.length = us.toList.length := VRs.length hv
            have hsub := VRs.take n (VRs.drop f.offset hv)
            have hl : ((cs.drop f.offset).take n).length = n := by simp; omega
            unfold Instr.field
            simp only [Sem.run_bind, run_underlying hu, Result.andThen_ok, hf, asAgg, Sem.run_pure, part, run_isAgg h1]
            cases agg with
            | true =>
              simp only [mkA, if_true, Option.some.injEq] at h
              subst h
              simp only [if_true, Sem.run_bind, run_sizeOf h2, Result.andThen_ok, Sem.run_pure]
              refine ⟨_, rfl, _, rfl, ?_⟩
              simpa [List.drop_take, Nat.add_sub_cancel_left] using hsub
            | false =>
              simp only [mkA, Bool.false_eq_true, if_false] at h
              split at h
              · rename_i c hc
                simp at h; subst h
                rw [hc] at hsub
                match hus : (us.toList.drop f.offset).take n, hsub with
                | [u], hsub =>
                  simp only [VRs] at hsub
                  have h0 : us[f.offset]? = some u := by
                    have : ((us.toList.drop f.offset).take n)[0]? = some u := by rw [hus]; rfl
                    rw [List.getElem?_take] at this
                    split at this
                    · rw [List.getElem?_drop] at this; simpa using this
                    · cases this
                  simp only [Bool.false_eq_true, if_false, h0, Sem.run_pure]
                  exact ⟨u, rfl, hsub.1⟩
                | [], hsub => simp [VRs] at hsub
                | _ :: _ :: _, hsub => simp [VRs] at hsub
              · cases h
          · cases h
        · cases h
      · cases h
    · cases h
  · cases h
theorem idxV_sound {P : Program} {t : TypeId} {k x z : AV} {uk ux : Value} (hk : VR g w k uk) (hx : VR g w x ux) (h : idxV P t k x = some z) : ∃ u, (Instr.index t ux uk).run P w = .ok u w ∧ VR g w z u := by
  unfold idxV at h
  split at h
  · rename_i cs
    simp only [VR] at hx
    obtain ⟨us, rfl, hv⟩ := hx
    split at h
    · rename_i kk ki len n b he
      simp only [VR] at hk
      subst hk
      split at h
      · rename_i hle
        obtain ⟨h0, h1, h2⟩ := hle
        unfold elemInf at he
        split at he
        · rename_i len' e hu
          split at he
          · rename_i n' b' hn hb
            simp only [Option.some.injEq, Prod.mk.injEq] at he
            obtain ⟨rfl, rfl, rfl⟩ := he
            have hlen : cs.length = us.toList.length := VRs.length hv
            have hsub := VRs.take n' (VRs.drop (ki.toNat * n') hv)
            unfold Instr.index
            simp only [asIntOf, Sem.run_bind, Sem.run_pure, Result.andThen_ok, run_underlying hu, h0, h1, and_self, if_true, run_sizeOf hn, part, run_isAgg hb]
            cases b' with
            | true =>
              simp only [mkA, if_true, Option.some.injEq] at h
              subst h
              simp only [if_true, Sem.run_bind, run_sizeOf hn, Result.andThen_ok, Sem.run_pure]
              refine ⟨_, rfl, _, rfl, ?_⟩
              simpa [List.drop_take, Nat.add_sub_cancel_left] using hsub
            | false =>
              simp only [mkA, Bool.false_eq_true, if_false] at h
              split at h
              · rename_i c hc
                simp at h; subst h
                rw [hc] at hsub
                match hus : (us.toList.drop (ki.toNat * n')).take n', hsub with
                | [u], hsub =>
                  simp only [VRs] at hsub
                  have h0 : us[ki.toNat * n']? = some u := by
                    have : ((us.toList.drop (ki.toNat * n')).take n')[0]? = some u := by rw [hus]; rfl
                    rw [List.getElem?_take] at this
                    split at this
                    · rw [List.getElem?_drop] at this; simpa using this
                    · cases this
                  simp only [Bool.false_eq_true, if_false, h0, Sem.run_pure]
                  exact ⟨u, rfl, hsub.1⟩
                | [], hsub => simp [VRs] at hsub
                | _ :: _ :: _, hsub => simp [VRs] at hsub
              · cases h
          · cases he
        · cases he
      · cases h
    · cases h
  · rename_i s
    split at h
    · rename_i kk ki
      simp only [VR] at hk hx
      subst hk; subst hx
      split at h
      · rename_i hc
        obtain ⟨hs, h0⟩ := hc
        obtain ⟨b, hb, rfl⟩ := Option.map_eq_some_iff.1 h
        unfold Instr.index
        simp only [asIntOf, Sem.run_bind, Sem.run_pure, Result.andThen_ok, run_underlying (strT_spec hs), h0, if_true, hb]
        exact ⟨_, rfl, by simp [VR]⟩
      · cases h
    · cases h
  · cases h
end
end Go.Abs
namespace Go.Abs
section
variable {C : Ctx} {A : A0} {N : Nat} {g g' : Gh} {st st' : St} {a : Act} {w w' : World}
def Steps (C : Ctx) (A : A0) (N : Nat) (o : Oper) (a : Act) (w : World) (x : AV) (st' : St) : Prop :=
  ∃ u w' g', Does C.P o a w u w' ∧ R C A N g' st' a w' ∧ VR g' w' x u
theorem Steps.pure (hR : R C A N g st a w) {o : Oper} {x : AV} {s : Sem Value} (ho : execOp a.eval o = (do Pure.pure (Next.value (← s)))) (h : ∃ u, s.run C.P w = .ok u w ∧ VR g w x u) : Steps C A N o a w x st := by
  obtain ⟨u, h1, h2⟩ := h
  exact ⟨u, w, g, does_pure ho h1, hR, h2⟩
theorem Steps.of {o : Oper} {x : AV} {s : Sem Value} (ho : execOp a.eval o = (do Pure.pure (Next.value (← s)))) (h : ∃ u w' g', s.run C.P w = .ok u w' ∧ R C A N g' st' a w' ∧ VR g' w' x u) : Steps C A N o a w x st' := by
  obtain ⟨u, w', g', h1, h2, h3⟩ := h
  exact ⟨u, w', g', does_pure ho h1, h2, h3⟩
theorem map_pair {α : Type} {m : Option α} {f : α → AV} {st st' : St} {x : AV} (h : (m.map fun y => (f y, st)) = some (x, st')) : ∃ y, m = some y ∧ f y = x ∧ st' = st := by
  cases m with
  | none => cases h
  | some y => simp at h; exact ⟨y, rfl, h.1, h.2.symm⟩
theorem nil_sound {x r : AV} {ux : Value} (hx : VR g w x ux) (h : nilA x = some r) {o : Oper} {y : Operand} (ho : o.op = .nilCheck y) (hy : a.eval y = ux) : (execOp a.eval o).run C.P w = .ok (.value ux) w ∧ VR g w r ux := by
  unfold nilA at h
  split at h
  · simp at h; subst h
    refine ⟨?_, hx⟩
    simp only [VR] at hx
    obtain ⟨_, rfl⟩ := hx
    simp [execOp, ho, hy]
  · simp at h; subst h
    refine ⟨?_, hx⟩
    have : ∃ ad, ux = .pointer (some ad) := by
      simp only [VR] at hx
      unfold EpAt at hx
      split at hx
      · obtain ⟨_, _, hx, _⟩ := hx; exact ⟨_, hx⟩
      · obtain ⟨_, hx, _⟩ := hx; exact ⟨_, hx⟩
    obtain ⟨ad, rfl⟩ := this
    simp [execOp, ho, hy]
  · simp at h; subst h
    refine ⟨?_, hx⟩
    simp only [VR] at hx
    obtain ⟨us, hx, _⟩ := hx
    subst hx
    simp [execOp, ho, hy]
  · cases h
theorem map_parts (a : Act) (ps : Array (Nat × Operand)) (f : Nat × Operand → Nat × Value) (h : ∀ i x, f (i, x) = (i, a.eval x)) : ps.map f = (ps.toList.map fun p => (p.1, a.eval p.2)).toArray := by
  have : f = fun p => (p.1, a.eval p.2) := funext fun ⟨i, x⟩ => h i x
  subst this
  cases ps; simp
theorem exec_build (ρ : Act) {o : Oper} {t : TypeId} {ps : Array (Nat × Operand)} (ho : o.op = .build t ps) : execOp ρ.eval o = (do Pure.pure (Next.value (← Instr.build t (ps.toList.map fun p => (p.1, ρ.eval p.2)).toArray))) := by
  unfold execOp
  rw [ho]
  dsimp only
  rw [map_parts ρ ps _ (fun _ _ => rfl)]
theorem exec_buildSlice (ρ : Act) {o : Oper} {t : TypeId} {len : Nat} {ps : Array (Nat × Operand)} (ho : o.op = .buildSlice t len ps) : execOp ρ.eval o = (do Pure.pure (Next.value (← Instr.buildSlice t len (ps.toList.map fun p => (p.1, ρ.eval p.2)).toArray))) := by
  unfold execOp
  rw [ho]
  dsimp only
  rw [map_parts ρ ps _ (fun _ _ => rfl)]
theorem VRs_parts (hR : R C A N g st a w) (ps : Array (Nat × Operand)) : VRs g w ((parts C st ps).map (·.2)) ((ps.toList.map fun p => (p.1, a.eval p.2)).map (·.2)) := by
  have := VRs_map_ev hR (ps.toList.map (·.2))
  simpa [parts, List.map_map, Function.comp_def] using this
theorem killL_vals' (S T : List Nat) : ∀ zs : List Value, killL S T (vals zs) = vals zs
  | [] => rfl
  | z :: zs => by
    have := killL_vals' S T zs
    simp only [vals, List.map_cons, killL, mapHL, AV.mapH] at this ⊢
    rw [this]
theorem exec_builtin (ρ : Act) {o : Oper} {b : Builtin} {xs : Array Operand} {ts : Array TypeId} (ho : o.op = .call { callee := .builtin b, args := xs, argTypes := ts }) : ∃ consts, execOp ρ.eval o = builtin b ts o.type consts (xs.map ρ.eval) := by
  refine ⟨xs.map fun | .const _ => true | _ => false, ?_⟩
  unfold execOp
  rw [ho]
  rfl
theorem len_sound' {t ty : TypeId} {x r : AV} {ux : Value} {P : Program} (ht : lenOk P t x = true) (hx : VR g w x ux) (h : lenA x = some r) : ∃ u, (Builtin.len_ #[t] ty #[ux]).run P w = .ok u w ∧ VR g w r u := by
  by_cases hs : ∃ s, x = .v (.string s)
  · have : strT P t = true := by obtain ⟨s, rfl⟩ := hs; exact ht
    exact len_sound (.inr this) hx h (fun _ => this) (fun hn => (hn hs).elim)
  · have : isSliceT P t = true := by
      unfold lenOk at ht
      split at ht
      · exact (hs ⟨_, rfl⟩).elim
      · exact ht
    exact len_sound (.inl this) hx h (fun h => (hs h).elim) (fun _ => this)
theorem arr1 {α : Type} {a : Array α} {x : α} (h : a.toList = [x]) : a = #[x] := by cases a; simp_all
theorem arr2 {α : Type} {a : Array α} {x y : α} (h : a.toList = [x, y]) : a = #[x, y] := by cases a; simp_all
theorem builtinV_sound (hR : R C A N g st a w) {o : Oper} {b : Builtin} {xs : Array Operand} {ts : Array TypeId} {consts : Array Bool} (he : execOp a.eval o = builtin b ts o.type consts (xs.map a.eval)) {x : AV}
    (h : builtinV C o.dst b xs.toList ts.toList st = some (x, st')) : Steps C A N o a w x st' := by
  unfold builtinV at h
  split at h
  · split at h
    · rename_i y t hy ht
      split at h
      · rename_i hok
        obtain ⟨r, h1, rfl, rfl⟩ := map_pair h
        refine .pure hR he ?_
        rw [arr1 hy, arr1 ht]
        simp only [List.map_toArray, List.map_cons, List.map_nil]
        exact len_sound' hok (hR.ev y) h1
      · cases h
    · cases h
  · split at h
    · rename_i d y z t t2 hd hy ht
      split at h
      · rename_i e n b hr
        split at h
        · rename_i hs
          refine .of he ?_
          rw [arr2 hy, arr2 ht]
          simp only [List.map_toArray, List.map_cons, List.map_nil]
          exact append_sound hR hr hs (hR.ev y) (hR.ev z) h
        · split at h
          · rename_i zs hzs
            refine .of he ?_
            rw [arr2 hy, arr2 ht]
            simp only [List.map_toArray, List.map_cons, List.map_nil]
            exact appendN_sound hR hr hzs (hR.ev y) (hR.ev z) h
          · cases h
      · cases h
    · cases h
  · split at h
    · rename_i y z t tl hy ht
      refine .of he ?_
      rw [arr2 hy]
      simp only [List.map_toArray, List.map_cons, List.map_nil]
      exact copy_sound hR (by rw [← Array.getElem?_toList, ht]; rfl) (hR.ev y) (hR.ev z) h
    · cases h
  · split at h
    · rename_i y t hy ht
      refine .of he ?_
      rw [arr1 hy, arr1 ht]
      simp only [List.map_toArray, List.map_cons, List.map_nil]
      exact clear_sound hR rfl (hR.ev y) h
    · cases h
  · split at h
    · rename_i y t hy ht
      obtain ⟨r, h1, rfl, rfl⟩ := map_pair h
      refine .pure hR he ?_
      rw [arr1 hy, arr1 ht]
      simp only [List.map_toArray, List.map_cons, List.map_nil]
      exact cap_sound rfl (hR.ev y) h1
    · cases h
  · split at h
    · rename_i y z hy
      split at h
      · rename_i k p k' q hp hq
        have h' := Option.some.inj h
        obtain ⟨rfl, rfl⟩ := Prod.mk.inj h'
        have e1 := hR.ev y; have e2 := hR.ev z
        rw [hp] at e1; rw [hq] at e2
        simp only [VR] at e1 e2
        refine .pure hR he ⟨_, ?_, by simp only [VR]; rfl⟩
        rw [arr2 hy]
        simp [Builtin.max_, Builtin.max2, e1, e2]
      · cases h
    · cases h
  · split at h
    · rename_i y z hy
      split at h
      · rename_i k p k' q hp hq
        have h' := Option.some.inj h
        obtain ⟨rfl, rfl⟩ := Prod.mk.inj h'
        have e1 := hR.ev y; have e2 := hR.ev z
        rw [hp] at e1; rw [hq] at e2
        simp only [VR] at e1 e2
        refine .pure hR he ⟨_, ?_, by simp only [VR]; rfl⟩
        rw [arr2 hy]
        simp [Builtin.min_, Builtin.min2, e1, e2]
      · cases h
    · cases h
  · cases h
theorem concrete_under {P : Program} {t : TypeId} (h : P.concrete t = true) : ∃ u, P.underlying t = some u ∧ ∀ ms, u ≠ .interface ms := by
  unfold Program.concrete at h
  cases hd : P.underlying t with
  | none => simp [hd] at h
  | some d => exact ⟨d, rfl, fun ms e => by subst e; simp [hd] at h⟩
theorem assert_sound {P : Program} {x y : AV} {u : Value} {xt t : TypeId} {ok : Bool} (hx : VR g w x u) (h : assertA P t ok x = some y) : ∃ v, (Instr.typeAssert u xt t ok).run P w = .ok v w ∧ VR g w y v := by
  unfold assertA at h
  split at h
  · rename_i t' z
    split at h
    · rename_i hc
      obtain ⟨hc, rfl⟩ := hc
      have h' := Option.some.inj h
      subst h'
      simp only [VR] at hx
      obtain ⟨v, rfl, hv⟩ := hx
      obtain ⟨ut, hu, hn⟩ := concrete_under hc
      cases ok with
      | false => exact ⟨v, by cases ut <;> simp [Instr.typeAssert, run_underlying hu] <;> exact absurd rfl (hn _), by simpa using hv⟩
      | true => exact ⟨.tuple #[v, .bool true], by cases ut <;> simp [Instr.typeAssert, run_underlying hu] <;> exact absurd rfl (hn _), by simp only [if_true, VR]; exact ⟨_, rfl, by simp [VRs, VR, hv]⟩⟩
    · cases h
  · cases h
theorem stepV_sound (hR : R C A N g st a w) {o : Oper} (hext : ∀ d, o.dst = some d → nm d ∉ A.ext ∧ nmM d ∉ A.ext) {x : AV} (h : stepV C o st = some (x, st')) : Steps C A N o a w x st' := by
  obtain ⟨dst, op, ty, after, x2, x3⟩ := o
  simp only at hext
  cases op <;> simp only [stepV] at h
  case makeMap t rv =>
    split at h
    · rename_i d
      have h' := Option.some.inj h
      obtain ⟨rfl, rfl⟩ := Prod.mk.inj h'
      have hb := hR.newMap (nmM d) (nm_map d) (hext d rfl).2
      refine .of (s := Instr.makeMap t none) rfl ⟨.map (some w.heap.size), _, _, ?_, hb, ?_⟩
      · simp [Instr.makeMap, newObj]; rfl
      · simp [VR, Gh.newBox, nm_map]
    · cases h
  case lookup t m k ok =>
    split at h
    · obtain ⟨r, h1, rfl, rfl⟩ := map_pair h
      unfold lookupV at h1
      split at h1
      · rename_i s hm
        obtain ⟨cs, h2, h3⟩ := Option.bind_eq_some_iff.1 h1
        have e1 := hR.ev m
        rw [hm] at e1
        simp only [VR] at e1
        obtain ⟨m1, m2⟩ := e1
        obtain ⟨es, clk, k1, k2⟩ := (hR.ob s cs h2).map m1
        obtain ⟨u, j1, j2⟩ := lookup_sound h3 (hR.ev k) k1 k2
        exact .pure hR (s := Instr.lookup t (a.eval m) (a.eval k) false) rfl ⟨u, by rw [m2]; exact j1, j2⟩
      · cases h1
    · obtain ⟨r, h1, rfl, rfl⟩ := map_pair h
      unfold lookupOkV at h1
      split at h1
      · rename_i s hm
        obtain ⟨cs, h2, h3⟩ := Option.bind_eq_some_iff.1 h1
        have e1 := hR.ev m
        rw [hm] at e1
        simp only [VR] at e1
        obtain ⟨m1, m2⟩ := e1
        obtain ⟨es, clk, k1, k2⟩ := (hR.ob s cs h2).map m1
        obtain ⟨u, j1, j2⟩ := lookupOk_sound h3 (hR.ev k) k1 k2
        exact .pure hR (s := Instr.lookup t (a.eval m) (a.eval k) true) rfl ⟨u, by rw [m2]; exact j1, j2⟩
      · cases h1
  case typeAssert y xt t ok =>
    obtain ⟨r, h1, rfl, rfl⟩ := map_pair h
    obtain ⟨u, j1, j2⟩ := assert_sound (P := C.P) (xt := xt) (hR.ev y) h1
    exact .pure hR (s := Instr.typeAssert (a.eval y) xt t ok) rfl ⟨u, j1, j2⟩
  case mapUpdate t m k v =>
    split at h
    · obtain ⟨r, h1, h4⟩ := Option.map_eq_some_iff.1 h
      obtain ⟨rfl, rfl⟩ := Prod.mk.inj h4
      unfold insertV at h1
      split at h1
      · rename_i s hm
        obtain ⟨cs, h2, h3⟩ := Option.bind_eq_some_iff.1 h1
        obtain ⟨cs', h5, rfl⟩ := Option.map_eq_some_iff.1 h3
        have e1 := hR.ev m
        rw [hm] at e1
        simp only [VR] at e1
        obtain ⟨m1, m2⟩ := e1
        obtain ⟨es, clk, k1, k2⟩ := (hR.ob s cs h2).map m1
        obtain ⟨j1, rfl⟩ := insert_sound (uv := a.eval v) h5 (hR.ev k) k1 k2
        exact ⟨undef, _, g, .inr ⟨by simp only [execOp, m2, Sem.run_bind, j1]; rfl, rfl⟩, hR.setMap m1 h2 k1 (e := ⟨a.eval k, a.eval v, clk⟩) (hR.ev k) (hR.ev v) k2, by simp [VR]⟩
      · cases h1
    · cases h
  case move y => simp at h; obtain ⟨rfl, rfl⟩ := h; exact ⟨_, w, g, .inl rfl, hR, hR.ev y⟩
  case assign y => simp at h; obtain ⟨rfl, rfl⟩ := h; exact ⟨_, w, g, .inl rfl, hR, hR.ev y⟩
  case pick c y z =>
    obtain ⟨r, h1, rfl, rfl⟩ := map_pair h
    obtain ⟨u, k1, k2⟩ := pick_sound (P := C.P) (hR.ev c) (hR.ev y) (hR.ev z) h1
    exact ⟨u, w, g, .inl k1, hR, k2⟩
  case alloc t =>
    split at h
    · rename_i d zs hz
      have h' := Option.some.inj h
      obtain ⟨rfl, rfl⟩ := Prod.mk.inj h'
      have hzz : ∃ z, (zeroValue t).run C.P w = .ok z w ∧ zs = z.cells.toList := by
        unfold zeroOf at hz
        obtain ⟨z, hz1, hz2⟩ := Option.map_eq_some_iff.1 hz
        obtain ⟨i, hi, hiz⟩ := Option.bind_eq_some_iff.1 hz1
        exact ⟨z, by simp [zeroValue, run_typeInfo hi, hiz], hz2.symm⟩
      obtain ⟨z, hz1, rfl⟩ := hzz
      have hk : killL [] [nm d] (vals z.cells.toList) = vals z.cells.toList := killL_vals' [] [nm d] _
      have hb := hR.newBox (nm d) (nm_cells d) (hext d rfl).1 z.cells t (vals z.cells.toList) (VRs_vals _)
      rw [hk] at hb
      refine .of (s := Instr.alloc t true (.tuple #[])) rfl ⟨.pointer (some ⟨w.heap.size, 0, none⟩), _, _, ?_, hb, ?_⟩
      · simp [Instr.alloc, hz1, newVar_run]
      · simp [VR, Gh.newBox, nm_cells]
    · cases h
  case box t y =>
    split at h
    · rename_i d
      split at h
      · rename_i hok
        have h' := Option.some.inj h
        obtain ⟨rfl, rfl⟩ := Prod.mk.inj h'
        have hb := hR.newBox (nm d) (nm_cells d) (hext d rfl).1 (a.eval y).cells t (ev C st y).cells (VR.cells (hR.ev y) hok)
        refine .of (s := Instr.box t (a.eval y)) rfl ⟨.pointer (some ⟨w.heap.size, 0, none⟩), _, _, ?_, hb, ?_⟩
        · simp [Instr.box, newVar_run]
        · simp [VR, Gh.newBox, nm_cells]
      · cases h
    · cases h
  case load t p =>
    split at h
    · rename_i agg n h1 h2
      obtain ⟨r, h3, rfl, rfl⟩ := map_pair h
      exact .pure hR rfl (load_sound hR h1 h2 (hR.ev p) h3)
    · cases h
  case store t p y =>
    split at h
    · rename_i n hd h2
      obtain ⟨r, h3, h4⟩ := Option.map_eq_some_iff.1 h
      simp at h4; obtain ⟨rfl, rfl⟩ := h4
      obtain ⟨w', g', k1, k2⟩ := store_sound hR h2 (hR.ev p) (hR.ev y) h3
      exact ⟨undef, w', g', .inr ⟨by simp [execOp, k1], rfl⟩, k2, by simp [VR]⟩
    · cases h
  case fieldAddr t p i =>
    split at h
    · rename_i off h1
      obtain ⟨r, h3, rfl, rfl⟩ := map_pair h
      exact .pure hR rfl (field_sound h1 (hR.ev p) h3)
    · cases h
  case indexAddr t p i =>
    split at h
    · rename_i k ki hi
      have hiv := hR.ev i
      rw [hi] at hiv
      simp only [VR] at hiv
      split at h
      · rename_i e n he
        obtain ⟨r, h3, rfl, rfl⟩ := map_pair h
        exact .pure hR rfl (by rw [hiv]; exact indexS_sound he (hR.ev p) h3)
      · split at h
        · rename_i len n he
          obtain ⟨r, h3, rfl, rfl⟩ := map_pair h
          exact .pure hR rfl (by rw [hiv]; exact indexR_sound he (hR.ev p) h3)
        · cases h
    · cases h
  case nilCheck y =>
    obtain ⟨r, h1, rfl, rfl⟩ := map_pair h
    have := nil_sound (C := C) (a := a) (hR.ev y) h1 (o := ⟨dst, .nilCheck y, ty, after, x2, x3⟩) rfl rfl
    exact ⟨_, w, g, .inl this.1, hR, this.2⟩
  case binOp op t y z _ =>
    obtain ⟨r, h1, rfl, rfl⟩ := map_pair h
    exact .pure hR rfl (bin_sound (hR.ev y) (hR.ev z) h1)
  case unOp op t y =>
    obtain ⟨r, h1, rfl, rfl⟩ := map_pair h
    exact .pure hR rfl (un_sound (hR.ev y) h1)
  case convert s d y =>
    obtain ⟨r, h1, rfl, rfl⟩ := map_pair h
    exact .pure hR rfl (convP_sound (hR.ev y) h1)
  case extract y i =>
    split at h
    · rename_i cs hc
      obtain ⟨r, h1, rfl, rfl⟩ := map_pair h
      have hy := hR.ev y
      rw [hc] at hy
      simp only [VR] at hy
      obtain ⟨us, hu, hv⟩ := hy
      obtain ⟨u, h2, h3⟩ := VRs.get hv i _ h1
      refine .pure hR (s := Instr.extract (a.eval y) i) rfl ⟨u, ?_, h3⟩
      rw [hu]
      have : us[i]? = some u := by simpa using h2
      simp [Instr.extract, this]
    · cases h
  case field t y i =>
    obtain ⟨r, h1, rfl, rfl⟩ := map_pair h
    exact .pure hR rfl (fieldV_sound (hR.ev y) h1)
  case index t y i =>
    obtain ⟨r, h1, rfl, rfl⟩ := map_pair h
    exact .pure hR rfl (idxV_sound (hR.ev i) (hR.ev y) h1)
  case build t ps =>
    split at h
    · rename_i zs hz ha
      split at h
      · rename_i hs
        obtain ⟨r, h1, rfl, rfl⟩ := map_pair h
        exact .pure hR (exec_build a rfl) (build_sound hz ha hs (by simp [parts]) (VRs_parts hR ps) h1)
      · cases h
    · cases h
  case buildSlice t len ps =>
    split at h
    · rename_i d e n b hd hr
      split at h
      · rename_i zs hz
        exact .of (exec_buildSlice a rfl) (lit_sound hR hr hz (by simp [parts]) (VRs_parts hR ps) h)
      · cases h
    · cases h
  case makeSlice t l c =>
    split at h
    · rename_i d e n b kl lv kc cv hd hr hl hc
      split at h
      · rename_i zs hz
        have h1 := hR.ev l
        have h2 := hR.ev c
        rw [hl] at h1; rw [hc] at h2
        simp only [VR] at h1 h2
        refine .of (s := Instr.makeSlice t (a.eval l) (a.eval c)) rfl ?_
        rw [h1, h2]
        exact make_sound hR hr hz h
      · cases h
    · cases h
  case slice t y lo hi mx =>
    obtain ⟨u, w', g', k1, k2, k3, _⟩ := sliceOp_sound hR h
    exact .of rfl ⟨u, w', g', k1, k2, k3⟩
  case makeFunc fn first caps =>
    split at h
    · rename_i f hf
      have h' := Option.some.inj h
      obtain ⟨rfl, rfl⟩ := Prod.mk.inj h'
      refine .pure hR (s := Instr.makeFunc (.func f) (first.map a.eval) (caps.map a.eval)) rfl ⟨_, rfl, ?_⟩
      have hf0 : first = #[] := by
        cases first; simp_all
      subst hf0
      simp only [VR]
      refine ⟨_, by simp; rfl, ?_⟩
      have := VRs_map_ev hR caps.toList
      simpa using this
    · rename_i f y ys hf hc
      have h' := Option.some.inj h
      obtain ⟨rfl, rfl⟩ := Prod.mk.inj h'
      refine .pure hR (s := Instr.makeFunc (.func f) (first.map a.eval) (caps.map a.eval)) rfl ⟨_, rfl, ?_⟩
      have hf0 : caps = #[] := by
        cases caps; simp_all
      subst hf0
      simp only [VR]
      refine ⟨_, by simp; rfl, ?_⟩
      have := VRs_map_ev hR first.toList
      rw [hf] at this
      simpa [hf] using this
    · cases h
  case makeInterface t y =>
    split at h
    · rename_i hc
      have h' := Option.some.inj h
      obtain ⟨rfl, rfl⟩ := Prod.mk.inj h'
      refine .pure hR rfl ⟨_, run_makeInterface w t _ hc, ?_⟩
      simp only [VR]
      exact ⟨_, rfl, hR.ev y⟩
    · cases h
  case call c =>
    split at h
    · rename_i b hb
      obtain ⟨callee, args, argTypes⟩ := c
      simp only at hb; subst hb
      obtain ⟨consts, he⟩ := exec_builtin a (o := ⟨dst, .call { callee := .builtin b, args, argTypes }, ty, after, x2, x3⟩) rfl
      exact builtinV_sound hR he h
    · cases h
  all_goals (cases h)
end
end Go.Abs
namespace Go.Abs
structure Grow (S T U : List Nat) (g : Gh) (w : World) (g' : Gh) (w' : World) : Prop extends Lasts S T g w g' w' where
  os : w'.os = w.os
  tape : SameTape w w'
  output : w'.output = w.output
  size : w.heap.size ≤ w'.heap.size
  other : ∀ b, b < w.heap.size → g.own b = .other → g'.own b = .other ∧ w'.heap[b]? = w.heap[b]?
  kept : ∀ s, s ∉ U → s ∉ T → g.own (g.box s) = .box s → g.box s < w.heap.size → g'.own (g.box s) = .box s ∧ w'.heap[g.box s]? = w.heap[g.box s]?
def dropO (U : List Nat) : List (Nat × List AV) → List (Nat × List AV)
  | [] => []
  | (k, x) :: l => if k ∈ U then dropO U l else (k, x) :: dropO U l
theorem lk_dropO (U : List Nat) (k : Nat) : ∀ l : List (Nat × List AV), lk k (dropO U l) = if k ∈ U then none else lk k l
  | [] => by simp [dropO, lk]
  | (j, x) :: l => by
    simp only [dropO]
    split
    · rename_i hj
      rw [lk_dropO U k l]
      simp only [lk]
      by_cases hjk : j = k
      · subst hjk; simp [hj]
      · simp [hjk]
    · rename_i hj
      simp only [lk]
      by_cases hjk : j = k
      · subst hjk; simp [hj]
      · simp only [hjk, if_false]; exact lk_dropO U k l
section
variable {C : Ctx} {A : A0} {N : Nat} {g g' : Gh} {st st' : St} {a : Act} {w w' : World}
def Le (st' st : St) : Prop := (∀ k x, lk k st'.tmps = some x → x = .undef ∨ lk k st.tmps = some x) ∧ (∀ s cs, lk s st'.objs = some cs → lk s st.objs = some cs)
theorem R.at_undef (h : R C A N g st a w) {k : Nat} (hk : k < N) : ∃ u, a.tmps[k]? = some u :=
  ⟨_, Array.getElem?_eq_getElem (by rw [h.size]; exact hk)⟩
theorem R.le (h : R C A N g st a w) (hle : Le st' st) (hb : ∀ k x, lk k st'.tmps = some x → k < N) : R C A N g st' a w where
  size := h.size
  defs := h.defs
  tm := fun k x hx => by
    rcases hle.1 k x hx with rfl | h'
    · obtain ⟨u, hu⟩ := h.at_undef (hb k _ hx)
      exact ⟨u, hu, by simp [VR]⟩
    · exact h.tm k x h'
  ob := fun s cs hs => h.ob s cs (hle.2 s cs hs)
  fr := h.fr
theorem R.grow (h : R C A N g st a w) {S T U : List Nat} (hg : Grow S T U g w g' w') (hext : ∀ s, s ∈ A.ext → s ∉ T) : R C A N g' (St.kill S T ⟨st.tmps, dropO U st.objs⟩) a w' := by
  have h1 : R C A N g ⟨st.tmps, dropO U st.objs⟩ a w := ⟨h.size, h.defs, h.tm, fun s cs hs => by
    rw [lk_dropO] at hs
    split at hs
    · cases hs
    · exact h.ob s cs hs, h.fr⟩
  refine h1.lasts hg.toLasts (h.fr.step hg.toLasts hg.os hg.tape hg.output hg.size hg.other hext) fun s cs hs hT => ?_
  simp only [lk_dropO] at hs
  split at hs
  · cases hs
  · rename_i hU
    have ho := h.ob s cs hs
    exact hg.kept s hU hT ho.1 ho.lt
end
abbrev Ren := List (Nat × Nat)
def inv (l : Ren) : Ren := l.map fun p => (p.2, p.1)
def okRen (l : Ren) : Bool := l.all fun p => lk p.1 l == some p.2 && lk p.2 (inv l) == some p.1 && isMap p.2 == isMap p.1
theorem lk_mem {α : Type} {k : Nat} {x : α} : ∀ {l : List (Nat × α)}, lk k l = some x → (k, x) ∈ l
  | (j, y) :: l, h => by
    simp only [lk] at h
    split at h
    · rename_i hj; injection h with h; subst h; subst hj; simp
    · exact List.mem_cons_of_mem _ (lk_mem h)
theorem okRen.fwd {l : Ren} (h : okRen l = true) {r r' : Nat} (hr : lk r l = some r') : lk r' (inv l) = some r := by
  have := List.all_eq_true.1 h _ (lk_mem hr)
  simp at this
  exact this.1.2
theorem okRen.kind {l : Ren} (h : okRen l = true) {r r' : Nat} (hr : lk r l = some r') : isMap r' = isMap r := by
  have := List.all_eq_true.1 h _ (lk_mem hr)
  simp at this
  exact this.2
theorem okRen.bwd {l : Ren} (h : okRen l = true) {r r' : Nat} (hr : lk r' (inv l) = some r) : lk r l = some r' := by
  have hm := lk_mem hr
  simp only [inv, List.mem_map, Prod.mk.injEq, Prod.exists] at hm
  obtain ⟨a, b, hab, rfl, rfl⟩ := hm
  have := List.all_eq_true.1 h _ hab
  simp at this
  exact this.1.1
structure Rn where
  l : Ren
  m : Ren
  bs : List Nat
def AV.renH (ρ : Rn) : AV → AV
  | .sl (.own r lo) n es => match lk r ρ.l with
    | some r' => .sl (.own r' lo) n es
    | none => if r ∈ ρ.bs then .sl .no n es else .undef
  | .ptr s off => match lk s ρ.m with
    | some s' => .ptr s' off
    | none => .undef
  | .ep (.own r lo) i cells off => match lk r ρ.l with
    | some r' => .ep (.own r' lo) i cells off
    | none => .undef
  | .mp s => match lk s ρ.m with
    | some s' => .mp s'
    | none => .undef
  | x => x
def AV.ren (ρ : Rn) (x : AV) : AV := x.mapH (AV.renH ρ)
def renL (ρ : Rn) (cs : List AV) : List AV := mapHL (AV.renH ρ) cs
def Gh.ren (ρ : Rn) (g base : Gh) : Gh where
  own b := match g.own b with
    | .ro => .ro
    | .other => .other
    | .row r => match lk r ρ.l with
      | some r' => .row r'
      | none => if r ∈ ρ.bs then .ro else .other
    | .box s => match lk s ρ.m with
      | some s' => .box s'
      | none => .other
  row r' := match lk r' (inv ρ.l) with
    | some r => g.row r
    | none => base.row r'
  box s' := match lk s' (inv ρ.m) with
    | some s => g.box s
    | none => base.box s'
structure Rn.OK (ρ : Rn) : Prop where
  l : okRen ρ.l = true
  m : okRen ρ.m = true
section
variable {ρ : Rn} {base g g' : Gh} {w : World}
theorem ren_ro {b : Nat} (h : g.own b = .ro) : (Gh.ren ρ g base).own b = .ro := by simp [Gh.ren, h]
theorem ren_other {b : Nat} (h : g.own b = .other) : (Gh.ren ρ g base).own b = .other := by simp [Gh.ren, h]
theorem ren_row {b r r' : Nat} (h : g.own b = .row r) (hr : lk r ρ.l = some r') : (Gh.ren ρ g base).own b = .row r' := by simp [Gh.ren, h, hr]
theorem ren_box {b s s' : Nat} (h : g.own b = .box s) (hr : lk s ρ.m = some s') : (Gh.ren ρ g base).own b = .box s' := by simp [Gh.ren, h, hr]
theorem ren_lent {b r : Nat} (h : g.own b = .row r) (hr : lk r ρ.l = none) (hb : r ∈ ρ.bs) : (Gh.ren ρ g base).own b = .ro := by simp [Gh.ren, h, hr, hb]
theorem renRow (ho : ρ.OK) {r r' : Nat} (hr : lk r ρ.l = some r') : (Gh.ren ρ g base).row r' = g.row r := by simp [Gh.ren, okRen.fwd ho.l hr]
theorem renBox (ho : ρ.OK) {s s' : Nat} (hr : lk s ρ.m = some s') : (Gh.ren ρ g base).box s' = g.box s := by simp [Gh.ren, okRen.fwd ho.m hr]
theorem roRen : ∀ b, b < w.heap.size → isRo g b → isRo (Gh.ren ρ g base) b ∧ w.heap[b]? = w.heap[b]? := fun b _ h => ⟨ren_ro h, rfl⟩
theorem ren_sl (ho : ρ.OK) (r lo n : Nat) (es : List (List AV)) (u : Value) (hu : OwnSl g w r lo n es u) : VR (Gh.ren ρ g base) w (AV.renH ρ (.sl (.own r lo) n es)) u := by
  simp only [AV.renH]
  split
  · rename_i r' hr
    exact hu.map roRen (renRow ho hr) fun _ h => ⟨ren_row h hr, rfl⟩
  · rename_i hr
    split
    · rename_i hb
      exact hu.ro roRen fun h => ren_lent h hr hb
    · simp [VR]
theorem ren_ep (ho : ρ.OK) (r lo i : Nat) (cells : List AV) (off : Nat) (u : Value) (hu : EpAt g w (.own r lo) i cells off u) : VR (Gh.ren ρ g base) w (AV.renH ρ (.ep (.own r lo) i cells off)) u := by
  simp only [AV.renH]
  split
  · rename_i r' hr
    exact hu.map roRen (renRow ho hr) fun _ h => ⟨ren_row h hr, rfl⟩
  · simp [VR]
theorem ren_ptr (ho : ρ.OK) (s off : Nat) (u : Value) (hu : VR g w (.ptr s off) u) : VR (Gh.ren ρ g base) w (AV.renH ρ (.ptr s off)) u := by
  simp only [AV.renH]
  split
  · rename_i s' hs
    simp only [VR] at hu ⊢
    rw [renBox ho hs, okRen.kind ho.m hs]; exact hu
  · simp [VR]
theorem ren_mp (ho : ρ.OK) (s : Nat) (u : Value) (hu : VR g w (.mp s) u) : VR (Gh.ren ρ g base) w (AV.renH ρ (.mp s)) u := by
  simp only [AV.renH]
  split
  · rename_i s' hs
    simp only [VR] at hu ⊢
    rw [renBox ho hs, okRen.kind ho.m hs]; exact hu
  · simp [VR]
theorem VR.ren (ho : ρ.OK) : ∀ (x : AV) (u : Value), VR g w x u → VR (Gh.ren ρ g base) w (x.ren ρ) u := VR.mapH roRen (ren_sl ho) (ren_ptr ho) (ren_ep ho) (ren_mp ho)
theorem VRs.ren (ho : ρ.OK) : ∀ (cs : List AV) (us : List Value), VRs g w cs us → VRs (Gh.ren ρ g base) w (renL ρ cs) us := VRs.mapH roRen (ren_sl ho) (ren_ptr ho) (ren_ep ho) (ren_mp ho)
theorem ObjAt.ren (ho : ρ.OK) {s s' : Nat} {cs : List AV} (hs : lk s ρ.m = some s') (h : ObjAt g w s cs) : ObjAt (Gh.ren ρ g base) w s' (renL ρ cs) := by
  exact h.lift (okRen.kind ho.m hs) (by rw [renBox ho hs]; exact ren_box h.1 hs) (by rw [renBox ho hs]) (fun us hu => VRs.ren ho _ _ hu)
end
def Flat1 (c : AV) : Prop := (∃ x, c = .v x) ∨ c = .undef
mutual
def Flat : AV → Prop
  | .undef => True
  | .v _ => True
  | .agg cs => FlatL cs
  | .tup cs => FlatL cs
  | .sl (.own _ _) _ es => ∀ e ∈ es, ∀ c ∈ e, Flat1 c
  | .sl _ _ es => es = []
  | .ptr _ _ => True
  | .ep _ _ _ _ => False
  | .fn _ cs => FlatL cs
  | .mv _ cs => FlatL cs
  | .mp _ => False
  | .ifc _ x => Flat x
  | .mem _ _ => False
def FlatL : List AV → Prop
  | [] => True
  | c :: cs => Flat c ∧ FlatL cs
end
section
variable {g g' : Gh} {w : World} {ro ro' : Nat → Prop}
theorem PRc.flat : ∀ (cs : List AV) (ad : Addr) (j : Nat), (∀ c ∈ cs, Flat1 c) → PRc ro w cs ad j → PRc ro' w cs ad j
  | [], _, _, _, _ => by simp [PRc]
  | c :: cs, ad, j, hf, h => by
    simp only [PRc] at h ⊢
    obtain ⟨⟨u, h1, h2⟩, h3⟩ := h
    refine ⟨⟨u, h1, ?_⟩, PRc.flat cs ad _ (fun c' hc => hf c' (by simp [hc])) h3⟩
    rcases hf c (by simp) with ⟨x, rfl⟩ | rfl <;> simpa [PR] using h2
theorem PRe.flat : ∀ (es : List (List AV)) (ad : Addr) (n i : Nat), (∀ e ∈ es, ∀ c ∈ e, Flat1 c) → PRe ro w es ad n i → PRe ro' w es ad n i
  | [], _, _, _, _, _ => by simp [PRe]
  | e :: es, ad, n, i, hf, h => by
    simp only [PRe] at h ⊢
    exact ⟨h.1, PRc.flat e ad _ (hf e (by simp)) h.2.1, PRe.flat es ad n _ (fun e' he => hf e' (by simp [he])) h.2.2⟩
structure Names (g g' : Gh) : Prop where
  row : ∀ b q, g.own b = .row q → g'.own b = .row q
  box : ∀ b s, g.own b = .box s → g'.own b = .box s
  rows : ∀ q, g'.row q = g.row q
  boxes : ∀ s, g'.box s = g.box s
mutual
theorem VR.flat (hn : Names g g') : ∀ (x : AV) (u : Value), Flat x → VR g w x u → VR g' w x u
  | .undef, _, _, _ => by simp [VR]
  | .v x, u, _, hu => by simpa [VR] using hu
  | .agg cs, u, hf, hu => by
    simp only [Flat, VR] at hf hu ⊢
    obtain ⟨us, h1, h2⟩ := hu
    exact ⟨us, h1, VRs.flat hn cs us.toList hf h2⟩
  | .tup cs, u, hf, hu => by
    simp only [Flat, VR] at hf hu ⊢
    obtain ⟨us, h1, h2⟩ := hu
    exact ⟨us, h1, VRs.flat hn cs us.toList hf h2⟩
  | .sl (.own r lo) n es, u, hf, hu => by
    simp only [Flat, VR, OwnSl] at hf hu ⊢
    refine ⟨hu.1, ?_⟩
    rcases hu.2 with hu | hu | ⟨cap, cur, T', h1, h2, h3, h5, h6, h7, h8⟩
    · exact .inl hu
    · exact .inr (.inl hu)
    · rw [hn.rows r]
      exact .inr (.inr ⟨cap, cur, T', h1, h2, h3, hn.row _ _ h5, h6, h7, PRe.flat es _ n 0 hf h8⟩)
  | .sl .no n es, u, hf, hu => by
    simp only [Flat, VR, PR] at hf hu ⊢
    subst hf
    obtain ⟨h1, a, cap, h2, h3, h4, h5, h6, _⟩ := hu
    exact ⟨h1, a, cap, h2, h3, h4, h5, h6, .inl rfl⟩
  | .sl .full n es, u, hf, hu => by
    simp only [Flat, VR, PR] at hf hu ⊢
    subst hf
    obtain ⟨h1, a, cap, h2, h3, h4, h5, h6, _⟩ := hu
    exact ⟨h1, a, cap, h2, h3, h4, h5, h6, .inl rfl⟩
  | .ptr s off, u, _, hu => by
    simp only [VR] at hu ⊢
    rw [hn.boxes s]; exact hu
  | .mp _, u, hf, _ => by simp [Flat] at hf
  | .ep t i cells off, u, hf, _ => by simp [Flat] at hf
  | .fn f caps, u, hf, hu => by
    simp only [Flat, VR] at hf hu ⊢
    obtain ⟨us, h1, h2⟩ := hu
    exact ⟨us, h1, VRs.flat hn caps us.toList hf h2⟩
  | .mv f caps, u, hf, hu => by
    simp only [Flat, VR] at hf hu ⊢
    obtain ⟨us, h1, h2⟩ := hu
    exact ⟨us, h1, VRs.flat hn caps us.toList hf h2⟩
  | .ifc t x, u, hf, hu => by
    simp only [Flat, VR] at hf hu ⊢
    obtain ⟨y, h1, h2⟩ := hu
    exact ⟨y, h1, VR.flat hn x y hf h2⟩
  | .mem b xs, u, hf, _ => by simp [Flat] at hf
theorem VRs.flat (hn : Names g g') : ∀ (cs : List AV) (us : List Value), FlatL cs → VRs g w cs us → VRs g' w cs us
  | [], [], _, _ => by simp [VRs]
  | [], _ :: _, _, hu => by simp [VRs] at hu
  | _ :: _, [], _, hu => by simp [VRs] at hu
  | c :: cs, u :: us, hf, hu => by
    simp only [FlatL, VRs] at hf hu ⊢
    exact ⟨VR.flat hn c u hf.1 hu.1, VRs.flat hn cs us hf.2 hu.2⟩
end
end
end Go.Abs
namespace Go.Abs
def names {α : Type} (o : List (Nat × α)) : List Nat := o.map (·.1)
def Glob (C : Ctx) (g : Gh) (w : World) : Prop := ∀ i cs, C.G i = some cs → 0 < cs.length ∧ isRo g i ∧ PRc (isRo g) w cs ⟨i, 0, none⟩ 0
def FnOK (C : Ctx) (f : Nat) (xs : List AV) (o : List (Nat × List AV)) (y : AV) (o' : List (Nat × List AV)) : Prop :=
  (∃ fn c, C.P.funcs[f]? = some fn ∧ (fn.name == "runtime.NumGoroutine") = false ∧ fn.body = some c) ∧
  ∀ g w us, Glob C g w → VRs g w xs us → (∀ s cs, lk s o = some cs → ObjAt g w s cs) →
    Calls C.P f us.toArray w fun e w' => ∃ u g', e = .returned u ∧ Fr C ⟨w, g, names o, []⟩ g' w' ∧ VR g' w' y u ∧ ∀ s cs, lk s o' = some cs → ObjAt g' w' s cs
def FnP (C : Ctx) (f : Nat) (xs : List AV) (o : List (Nat × List AV)) (S : AV → List (Nat × List AV) → Prop) : Prop :=
  (∃ fn c, C.P.funcs[f]? = some fn ∧ (fn.name == "runtime.NumGoroutine") = false ∧ fn.body = some c) ∧
  ∀ g w us, Glob C g w → VRs g w xs us → (∀ s cs, lk s o = some cs → ObjAt g w s cs) →
    Calls C.P f us.toArray w fun e w' => ∃ y o', S y o' ∧ ∃ u g', e = .returned u ∧ Fr C ⟨w, g, names o, []⟩ g' w' ∧ VR g' w' y u ∧ ∀ s cs, lk s o' = some cs → ObjAt g' w' s cs
theorem FnOK.toP {C : Ctx} {f : Nat} {xs : List AV} {o o' : List (Nat × List AV)} {y : AV} (h : FnOK C f xs o y o') : FnP C f xs o fun y2 o2 => y2 = y ∧ o2 = o' :=
  ⟨h.1, fun g w us hg hv ho => Calls.mono (h.2 g w us hg hv ho) fun _ _ hq => ⟨y, o', ⟨rfl, rfl⟩, hq⟩⟩
theorem FnP.toOK {C : Ctx} {f : Nat} {xs : List AV} {o o' : List (Nat × List AV)} {y : AV} (h : FnP C f xs o fun y2 o2 => y2 = y ∧ o2 = o') : FnOK C f xs o y o' :=
  ⟨h.1, fun g w us hg hv ho => Calls.mono (h.2 g w us hg hv ho) fun _ _ ⟨y2, o2, ⟨h1, h2⟩, hq⟩ => by subst h1; subst h2; exact hq⟩
theorem FnP.mono {C : Ctx} {f : Nat} {xs : List AV} {o : List (Nat × List AV)} {S S' : AV → List (Nat × List AV) → Prop} (h : FnP C f xs o S) (hs : ∀ y o', S y o' → S' y o') : FnP C f xs o S' :=
  ⟨h.1, fun g w us hg hv ho => Calls.mono (h.2 g w us hg hv ho) fun _ _ ⟨y, o', hS, hq⟩ => ⟨y, o', hs y o' hS, hq⟩⟩
structure Quiet (w w' : World) : Prop where
  os : w'.os = w.os
  tape : SameTape w w'
  output : w'.output = w.output
  size : w.heap.size ≤ w'.heap.size
  old : ∀ b, b < w.heap.size → w'.heap[b]? = w.heap[b]?
def FnRow (C : Ctx) (f n : Nat) (es : List (List AV)) (ys : List AV) (es' : List (List AV)) : Prop :=
  (∃ fn c, C.P.funcs[f]? = some fn ∧ (fn.name == "runtime.NumGoroutine") = false ∧ fn.body = some c) ∧
  ∀ g w r u us, Glob C g w → OwnSl g w r 0 n es u → VRs g w ys us →
    Calls C.P f (u :: us).toArray w fun e w' => e = .returned (.tuple #[]) ∧ ((es' = [] ∧ Quiet w w') ∨ ∃ cur new T, Ran g w r n 0 es' cur new T ∧ Quiet (w.setRow (g.row r) new) w')
def rngs (l : Ren) : List Nat := l.map (·.2)
theorem lk_none {α : Type} {k : Nat} : ∀ {l : List (Nat × α)}, k ∉ names l → lk k l = none
  | [], _ => rfl
  | (j, x) :: l, h => by
    simp only [names, List.map_cons, List.mem_cons, not_or] at h
    simp only [lk, Ne.symm h.1, if_false]
    exact lk_none h.2
theorem lk_some_names {α : Type} {k : Nat} {x : α} {l : List (Nat × α)} (h : lk k l = some x) : k ∈ names l := by
  have := lk_mem h
  simp only [names, List.mem_map]
  exact ⟨_, this, rfl⟩
theorem names_inv (l : Ren) : names (inv l) = rngs l := by simp [names, inv, rngs, List.map_map, Function.comp_def]
theorem names_lk {α : Type} {k : Nat} : ∀ {l : List (Nat × α)}, k ∈ names l → ∃ x, lk k l = some x
  | (j, x) :: l, h => by
    simp only [lk]
    split
    · exact ⟨_, rfl⟩
    · rename_i hj
      simp only [names, List.map_cons, List.mem_cons] at h
      rcases h with h | h
      · exact (hj h.symm).elim
      · exact names_lk h
def renO (ρ : Rn) (o : List (Nat × List AV)) : List (Nat × List AV) :=
  o.filterMap fun p => (lk p.1 ρ.m).map fun s => (s, renL ρ p.2)
theorem lk_renO {ρ : Rn} (ho : ρ.OK) {s' : Nat} {cs : List AV} : ∀ {o : List (Nat × List AV)}, lk s' (renO ρ o) = some cs → ∃ s cs0, lk s ρ.m = some s' ∧ lk s o = some cs0 ∧ cs = renL ρ cs0
  | [], h => by simp [renO, lk] at h
  | (k, c) :: o, h => by
    simp only [renO, List.filterMap_cons] at h
    cases hk : lk k ρ.m with
    | none =>
      simp only [hk, Option.map_none] at h
      obtain ⟨s, cs0, h1, h2, h3⟩ := lk_renO ho (o := o) h
      refine ⟨s, cs0, h1, ?_, h3⟩
      have : k ≠ s := fun e => by subst e; rw [hk] at h1; cases h1
      simp [lk, this, h2]
    | some k' =>
      simp only [hk, Option.map_some, lk] at h
      split at h
      · rename_i he
        injection h with h
        exact ⟨k, c, by rw [hk, he], by simp [lk], h.symm⟩
      · rename_i he
        obtain ⟨s, cs0, h1, h2, h3⟩ := lk_renO ho (o := o) h
        refine ⟨s, cs0, h1, ?_, h3⟩
        have : k ≠ s := fun e => by subst e; rw [hk] at h1; injection h1 with h1; exact he h1
        simp [lk, this, h2]
structure Way where
  ρ : Rn
  fl : Ren
  fm : Ren
def Way.back (v : Way) : Rn := ⟨inv v.ρ.l ++ v.fl, inv v.ρ.m ++ v.fm, []⟩
structure Way.OK (v : Way) (o : List (Nat × List AV)) : Prop where
  into : v.ρ.OK
  back : v.back.OK
  ext : ∀ s', s' ∈ rngs v.ρ.m → s' ∈ names o
section
variable {C : Ctx} {A : A0} {N : Nat} {g g1 : Gh} {st : St} {a : Act} {w w1 : World} {v : Way} {o o' : List (Nat × List AV)} {xs : List AV} {y : AV}
theorem inv_inv (l : Ren) : inv (inv l) = l := by simp [inv, List.map_map, Function.comp_def]
theorem lk_append {α : Type} {k : Nat} {m : List (Nat × α)} : ∀ {l : List (Nat × α)}, lk k (l ++ m) = (lk k l).or (lk k m)
  | [] => by simp [lk]
  | (j, x) :: l => by
    simp only [List.cons_append, lk]
    split
    · simp
    · exact lk_append
def after (v : Way) (g : Gh) (w : World) (g1 : Gh) : Gh where
  own b := if b < w.heap.size then match g.own b with
      | .ro => .ro
      | .other => .other
      | .row r => if (lk r v.ρ.l).isSome then (g1.ren v.back g).own b else .row r
      | .box s => if (lk s v.ρ.m).isSome then (g1.ren v.back g).own b else .box s
    else (g1.ren v.back g).own b
  row := (g1.ren v.back g).row
  box := (g1.ren v.back g).box
def entry (v : Way) (g : Gh) : Gh := g.ren v.ρ g
theorem back_l {v : Way} {r r' : Nat} (h : lk r v.ρ.l = some r') (ho : v.ρ.OK) : lk r' v.back.l = some r := by
  simp [Way.back, lk_append, okRen.fwd ho.l h]
theorem back_m {v : Way} {r r' : Nat} (h : lk r v.ρ.m = some r') (ho : v.ρ.OK) : lk r' v.back.m = some r := by
  simp [Way.back, lk_append, okRen.fwd ho.m h]
theorem fixed_of (hfr : Fr C ⟨w, entry v g, names o, []⟩ g1 w1) {b : Nat} (hb : b < w.heap.size) :
    (g.own b = .ro → w1.heap[b]? = w.heap[b]? ∧ g1.own b = .ro) ∧ (g.own b = .other → w1.heap[b]? = w.heap[b]? ∧ g1.own b = .other) ∧
    (∀ r, g.own b = .row r → lk r v.ρ.l = none → w1.heap[b]? = w.heap[b]? ∧ g1.own b = (if r ∈ v.ρ.bs then .ro else .other)) ∧
    (∀ s, g.own b = .box s → lk s v.ρ.m = none → w1.heap[b]? = w.heap[b]? ∧ g1.own b = .other) := by
  have hk := hfr.keep b hb
  refine ⟨fun h => ?_, fun h => ?_, fun r h hr => ?_, fun s h hs => ?_⟩
  · have e : (entry v g).own b = .ro := ren_ro h
    have := hk (.inl e)
    exact ⟨this.1, this.2.trans e⟩
  · have e : (entry v g).own b = .other := ren_other h
    have := hk (.inr e)
    exact ⟨this.1, this.2.trans e⟩
  · have e : (entry v g).own b = (if r ∈ v.ρ.bs then .ro else .other) := by simp [entry, Gh.ren, h, hr]
    have hf : A0.fixed ⟨w, entry v g, names o, []⟩ b := by
      unfold A0.fixed
      simp only
      rw [e]
      split
      · exact .inl rfl
      · exact .inr rfl
    have := hk hf
    exact ⟨this.1, this.2.trans e⟩
  · have e : (entry v g).own b = .other := by simp [entry, Gh.ren, h, hs]
    have := hk (.inr e)
    exact ⟨this.1, this.2.trans e⟩
theorem after_row (hfr : Fr C ⟨w, entry v g, names o, []⟩ g1 w1) {b q : Nat} (h : (g1.ren v.back g).own b = .row q) : (after v g w g1).own b = .row q := by
  unfold after
  simp only
  split
  · rename_i hb
    obtain ⟨f1, f2, f3, f4⟩ := fixed_of hfr hb
    cases hg : g.own b with
    | ro => rw [ren_ro (f1 hg).2] at h; cases h
    | other => rw [ren_other (f2 hg).2] at h; cases h
    | row r =>
      simp only
      cases hr : lk r v.ρ.l with
      | none =>
        have := (f3 r hg hr).2
        split at this
        · rw [ren_ro this] at h; cases h
        · rw [ren_other this] at h; cases h
      | some r' => simpa using h
    | box s =>
      simp only
      cases hs : lk s v.ρ.m with
      | none => rw [ren_other (f4 s hg hs).2] at h; cases h
      | some r' => simpa using h
  · exact h
theorem after_box (hfr : Fr C ⟨w, entry v g, names o, []⟩ g1 w1) {b q : Nat} (h : (g1.ren v.back g).own b = .box q) : (after v g w g1).own b = .box q := by
  unfold after
  simp only
  split
  · rename_i hb
    obtain ⟨f1, f2, f3, f4⟩ := fixed_of hfr hb
    cases hg : g.own b with
    | ro => rw [ren_ro (f1 hg).2] at h; cases h
    | other => rw [ren_other (f2 hg).2] at h; cases h
    | row r =>
      simp only
      cases hr : lk r v.ρ.l with
      | none =>
        have := (f3 r hg hr).2
        split at this
        · rw [ren_ro this] at h; cases h
        · rw [ren_other this] at h; cases h
      | some r' => simpa using h
    | box s =>
      simp only
      cases hs : lk s v.ρ.m with
      | none => rw [ren_other (f4 s hg hs).2] at h; cases h
      | some r' => simpa using h
  · exact h
theorem after_names (hfr : Fr C ⟨w, entry v g, names o, []⟩ g1 w1) : Names (g1.ren v.back g) (after v g w g1) :=
  ⟨fun _ _ h => after_row hfr h, fun _ _ h => after_box hfr h, fun _ => rfl, fun _ => rfl⟩
theorem after_ro (hfr : Fr C ⟨w, entry v g, names o, []⟩ g1 w1) (hbs : v.ρ.bs = []) {b : Nat} (h : (g1.ren v.back g).own b = .ro) : (after v g w g1).own b = .ro := by
  have h1 : g1.own b = .ro := by
    unfold Gh.ren at h
    simp only at h
    split at h
    · assumption
    · cases h
    · split at h
      · cases h
      · simp [Way.back] at h
    · split at h <;> cases h
  unfold after
  simp only
  split
  · rename_i hb
    obtain ⟨f1, f2, f3, f4⟩ := fixed_of hfr hb
    cases hg : g.own b with
    | ro => rfl
    | other => rw [(f2 hg).2] at h1; cases h1
    | row r =>
      simp only
      cases hr : lk r v.ρ.l with
      | none => have := (f3 r hg hr).2; simp [hbs] at this; rw [this] at h1; cases h1
      | some r' => simpa using h
    | box s =>
      simp only
      cases hs : lk s v.ρ.m with
      | none => rw [(f4 s hg hs).2] at h1; cases h1
      | some r' => simpa using h
  · exact h
theorem lk_inv_append_none {l m : Ren} {q : Nat} (h : q ∉ rngs (l ++ m)) : lk q (inv (l ++ m)) = none := lk_none (by rwa [names_inv])
theorem after_grow (hv : v.OK o) (hfr : Fr C ⟨w, entry v g, names o, []⟩ g1 w1) : Grow (rngs v.back.l) (rngs v.fm) (rngs v.back.m) g w (after v g w g1) w1 where
  ro := fun b hb h => by
    obtain ⟨f1, _, _, _⟩ := fixed_of hfr hb
    refine ⟨by simp [after, hb, h], (f1 h).1⟩
  row := fun b q hb hq h => by
    obtain ⟨_, _, f3, _⟩ := fixed_of hfr hb
    have hn : lk q v.ρ.l = none := by
      cases hl : lk q v.ρ.l with
      | none => rfl
      | some q' =>
        have := okRen.bwd (l := inv v.ρ.l) (r := q') (r' := q) (by
          have := hv.into.l
          unfold okRen at this ⊢
          rw [inv_inv]
          simp only [List.all_eq_true, Bool.and_eq_true] at this ⊢
          intro p hp
          simp only [inv, List.mem_map] at hp
          obtain ⟨p0, hp0, rfl⟩ := hp
          exact ⟨⟨(this p0 hp0).1.2, (this p0 hp0).1.1⟩, by have h2 := (this p0 hp0).2; simp only [beq_iff_eq] at h2 ⊢; exact h2.symm⟩) (by rw [inv_inv]; exact hl)
        exact (hq (by
          simp only [Way.back, rngs, List.map_append, List.mem_append, List.mem_map]
          exact .inl ⟨_, lk_mem this, rfl⟩)).elim
    exact ⟨by simp [after, hb, h, hn], (f3 q h hn).1⟩
  rows := fun q hq => by
    simp only [after, Gh.ren]
    have : lk q (inv v.back.l) = none := lk_none (by rw [names_inv]; exact hq)
    rw [this]
  boxes := fun s hs => by
    simp only [after, Gh.ren]
    cases hl : lk s (inv v.back.m) with
    | none => rfl
    | some s' =>
      simp only
      have h1 := okRen.bwd hv.back.m hl
      simp only [Way.back, lk_append] at h1
      cases h2 : lk s' (inv v.ρ.m) with
      | none =>
        rw [h2] at h1
        simp only [Option.none_or] at h1
        exact (hs (by simp only [rngs, List.mem_map]; exact ⟨_, lk_mem h1, rfl⟩)).elim
      | some s0 =>
        rw [h2] at h1
        simp only [Option.some_or, Option.some.injEq] at h1
        subst h1
        have h3 := okRen.bwd hv.into.m h2
        have he : s' ∈ names o := hv.ext s' (by simp only [rngs, List.mem_map]; exact ⟨_, lk_mem h3, rfl⟩)
        rw [hfr.box s' he]
        exact renBox hv.into h3
  os := hfr.os
  tape := hfr.tape
  output := hfr.output
  size := hfr.size
  other := fun b hb h => by
    obtain ⟨_, f2, _, _⟩ := fixed_of hfr hb
    exact ⟨by simp [after, hb, h], (f2 h).1⟩
  kept := fun s hU _ h hb => by
    obtain ⟨_, _, _, f4⟩ := fixed_of hfr hb
    have hn : lk s v.ρ.m = none := by
      cases hl : lk s v.ρ.m with
      | none => rfl
      | some q' =>
        have := okRen.fwd hv.into.m hl
        exact (hU (by
          simp only [Way.back, rngs, List.map_append, List.mem_append, List.mem_map]
          exact .inl ⟨_, lk_mem this, rfl⟩)).elim
    exact ⟨by simp [after, hb, h, hn], (f4 s h hn).1⟩
theorem after_VR (hv : v.OK o) (hfr : Fr C ⟨w, entry v g, names o, []⟩ g1 w1) {x : AV} {u : Value} (hx : VR g1 w1 x u) (hf : v.ρ.bs = [] ∨ Flat (x.ren v.back)) : VR (after v g w g1) w1 (x.ren v.back) u := by
  have h1 : VR (g1.ren v.back g) w1 (x.ren v.back) u := VR.ren hv.back x u hx
  rcases hf with hbs | hf
  · have hl : Lasts [] [] (g1.ren v.back g) w1 (after v g w g1) w1 := ⟨fun b _ h => ⟨after_ro hfr hbs h, rfl⟩, fun b q _ _ h => ⟨after_row hfr h, rfl⟩, fun _ _ => rfl, fun _ _ => rfl⟩
    have := VR.lasts hl _ _ h1
    rwa [kill_nil] at this
  · exact VR.flat (after_names hfr) _ _ hf h1
theorem after_VRs (hv : v.OK o) (hfr : Fr C ⟨w, entry v g, names o, []⟩ g1 w1) {x : List AV} {u : List Value} (hx : VRs g1 w1 x u) (hf : v.ρ.bs = [] ∨ FlatL (renL v.back x)) : VRs (after v g w g1) w1 (renL v.back x) u := by
  have h1 : VRs (g1.ren v.back g) w1 (renL v.back x) u := VRs.ren hv.back x u hx
  rcases hf with hbs | hf
  · have hl : Lasts [] [] (g1.ren v.back g) w1 (after v g w g1) w1 := ⟨fun b _ h => ⟨after_ro hfr hbs h, rfl⟩, fun b q _ _ h => ⟨after_row hfr h, rfl⟩, fun _ _ => rfl, fun _ _ => rfl⟩
    have := VRs.lasts hl _ _ h1
    rwa [killL_nil] at this
  · exact VRs.flat (after_names hfr) _ _ hf h1
end
end Go.Abs
