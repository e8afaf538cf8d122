/- part 6 of the proof -/
import Derived.Test.YtaelofhhkpacbaaGreatDoorT05
set_option linter.all false
/- Every step but a call is the model's. -/
namespace Go.Abs
section
variable {C : Ctx} {A : A0} {N : Nat} {g g' : Gh} {st : St} {a : Act} {w w' : World}

theorem map_run {s : Sem Value} {P : Program} {u : Value} {w w' : World} (h : s.run P w = .ok u w') : (do pure (.value (← s)) : Sem Next).run P w = .ok (.value u) w' := by simp [h]

theorem newVar_run {P : Program} {t : TypeId} {v : Value} {w : World} : (newVar t v).run P w = .ok ⟨w.heap.size, 0, none⟩ (w.alloc (.cells v.cells t)) := by simp [newVar, newRow]

theorem VRs_map_ev (hR : R C A N g st a w) (l : List Operand) : VRs g w (l.map (ev C st)) (l.map a.eval) := by
  induction l with
  | nil => simp [VRs]
  | cons x l ih => simp only [List.map_cons, VRs]; exact ⟨hR.ev x, ih⟩

theorem natOf_spec {x : AV} {n : Nat} {u : Value} (h : natOf x = some n) (hx : VR g w x u) : ∃ k, u = .int k n := by
  unfold natOf at h
  split at h
  · rename_i k i
    split at h
    · rename_i h0
      simp at h; subst h
      simp only [VR] at hx; subst hx
      exact ⟨k, by rw [Int.toNat_of_nonneg h0]⟩
    · cases h
  · cases h

theorem bound_spec (hR : R C A N g st a w) {o : Option Operand} {b : Option Nat} (h : litBound C st o = some b) : (o.map a.eval = none ∧ b = none) ∨ (∃ n k, b = some n ∧ o.map a.eval = some (.int k n)) := by
  unfold litBound at h
  split at h
  · simp at h; subst h; exact .inl ⟨rfl, rfl⟩
  · rename_i x
    obtain ⟨n, hn, rfl⟩ := Option.map_eq_some_iff.1 h
    obtain ⟨k, hk⟩ := natOf_spec hn (hR.ev x)
    exact .inr ⟨n, k, rfl, by simp [hk]⟩

theorem sliceAt_slice {P : Program} {t e : TypeId} {x : Value} {lo hi mx : Option Value} (h : P.underlying t = some (.slice e)) : (Instr.sliceAt t x lo hi mx).run P w = (Instr.slice t x lo hi mx).run P w := by
  simp [Instr.sliceAt, run_underlying h]
theorem sliceAt_string {P : Program} {t : TypeId} {x : Value} {lo hi mx : Option Value} (h : P.underlying t = some .string) : (Instr.sliceAt t x lo hi mx).run P w = (Instr.slice t x lo hi mx).run P w := by
  simp [Instr.sliceAt, run_underlying h]

theorem elemOfSlice_spec {P : Program} {t e n : Nat} (h : elemOfSlice P t = some (e, n)) : P.underlying t = some (.slice e) ∧ szOf P e = some n := by
  unfold elemOfSlice at h
  split at h
  · rename_i e' he
    obtain ⟨n', hn', hh⟩ := Option.map_eq_some_iff.1 h
    simp only [Prod.mk.injEq] at hh
    obtain ⟨rfl, rfl⟩ := hh
    exact ⟨he, hn'⟩
  · cases h

theorem sliceOp_sound (hR : R C A N g st a w) {t : TypeId} {x : Operand} {lo hi mx : Option Operand} {z : AV} {st' : St} (h : sliceOp C st t (ev C st x) lo hi mx = some (z, st')) :
    ∃ u w' g', (Instr.sliceAt t (a.eval x) (lo.map a.eval) (hi.map a.eval) (mx.map a.eval)).run C.P w = .ok u w' ∧ R C A N g' st' a w' ∧ VR g' w' z u ∧ (((∀ r lo m es, ev C st x ≠ .sl (.own r lo) m es) ∨ mx = none) → g' = g ∧ w' = w) := by
  unfold sliceOp at h
  split at h
  · rename_i l hh m hl hhh hm
    have bl := bound_spec hR hl
    have bh := bound_spec hR hhh
    have bm := bound_spec hR hm
    split at h
    · rename_i e n hen
      obtain ⟨ht1, ht2⟩ := elemOfSlice_spec hen
      rw [sliceAt_slice ht1]
      split at h
      · rename_i es hes
        have hlen : ∀ es', elems n (ev C st x) = some es' → es'.length = es.length := fun es' h' => by rw [hes] at h'; simp at h'; rw [h']
        have hlo : ∃ kl, (lo.map a.eval = none ∧ l.getD 0 = 0) ∨ lo.map a.eval = some (.int kl (l.getD 0 : Nat)) := by
          rcases bl with ⟨h1, rfl⟩ | ⟨n', k, rfl, h1⟩
          · exact ⟨.i64, .inl ⟨h1, rfl⟩⟩
          · exact ⟨k, .inr h1⟩
        obtain ⟨kl, hlo⟩ := hlo
        split at h
        · rename_i h0 m0
          split at h
          · rename_i hmh
            subst hmh
            rcases bh with ⟨_, hc⟩ | ⟨n', kh, hc, h2⟩
            · cases hc
            · injection hc with hc; subst hc
              rcases bm with ⟨_, hc⟩ | ⟨n'', km, hc, h3⟩
              · cases hc
              · injection hc with hc; subst hc
                obtain ⟨u, g', k1, k2, k3, k4⟩ := slice_sound (full := true) (mx := mx.map a.eval) hR hen (hR.ev x) hlen hlo (.inr h2) (by simp only [if_true]; exact h3) (fun _ => h2) h
                exact ⟨u, w, g', k1, k2, k3, fun hp => ⟨k4 (hp.imp id fun hm => by subst hm; simp at h3), rfl⟩⟩
          · cases h
        · rename_i h0
          rcases bh with ⟨_, hc⟩ | ⟨n', kh, hc, h2⟩
          · cases hc
          · injection hc with hc; subst hc
            rcases bm with ⟨h3, _⟩ | ⟨_, _, hc, _⟩
            · obtain ⟨u, g', k1, k2, k3, k4⟩ := slice_sound (full := false) (mx := mx.map a.eval) (km := .i64) hR hen (hR.ev x) hlen hlo (.inr h2) (by rw [h3]; rfl) (fun h => by cases h) h
              exact ⟨u, w, g', k1, k2, k3, fun _ => ⟨k4 (.inr rfl), rfl⟩⟩
            · cases hc
        · rcases bh with ⟨h2, _⟩ | ⟨_, _, hc, _⟩
          · rcases bm with ⟨h3, _⟩ | ⟨_, _, hc, _⟩
            · obtain ⟨u, g', k1, k2, k3, k4⟩ := slice_sound (full := false) (mx := mx.map a.eval) (kh := .i64) (km := .i64) hR hen (hR.ev x) hlen hlo (.inl ⟨h2, rfl⟩) (by rw [h3]; rfl) (fun h => by cases h) h
              exact ⟨u, w, g', k1, k2, k3, fun _ => ⟨k4 (.inr rfl), rfl⟩⟩
            · cases hc
          · cases hc
        · cases h
      · cases h
    · split at h
      · rename_i s hxs
        split at h
        · rename_i hc
          simp at h; obtain ⟨rfl, rfl⟩ := h
          obtain ⟨hs, h1, h2⟩ := hc
          have hst := strT_spec hs
          rw [sliceAt_string hst]
          have hxv := hR.ev x
          rw [hxs] at hxv
          simp only [VR] at hxv
          rw [hxv]
          have e3 : mx.map a.eval = none := by
            rcases bm with ⟨h3, _⟩ | ⟨_, _, hc, _⟩
            · exact h3
            · cases hc
          rw [e3]
          refine ⟨.string (s.extract (l.getD 0) (hh.getD s.size)), w, g, ?_, hR, by simp only [VR], fun _ => ⟨rfl, rfl⟩⟩
          rcases bl with ⟨e1, rfl⟩ | ⟨n1, k1, rfl, e1⟩ <;> rcases bh with ⟨e2, rfl⟩ | ⟨n2, k2, rfl, e2⟩ <;> rw [e1, e2] <;> simp only [Option.getD_none, Option.getD_some] at h1 h2 ⊢
          · simp [Instr.slice, run_underlying hst, Instr.sliceBounds]
          · have b := run_sliceBound (P := C.P) (w := w) k2 n2 s.size .sliceAlen (by omega) (by omega)
            simp [Instr.slice, run_underlying hst, Instr.sliceBounds, b]
          · have b := run_sliceBound (P := C.P) (w := w) k1 n1 s.size .sliceB (by omega) (by omega)
            simp [Instr.slice, run_underlying hst, Instr.sliceBounds, b]
          · have b := run_sliceBound (P := C.P) (w := w) k2 n2 s.size .sliceAlen (by omega) (by omega)
            have b' := run_sliceBound (P := C.P) (w := w) k1 n1 n2 .sliceB (by omega) (by omega)
            simp only [Int.toNat_natCast] at b b'
            simp [Instr.slice, run_underlying hst, Instr.sliceBounds, b, b']
        · cases h
      · cases h
  · cases h

theorem mapM_places {P : Program} (fs : List Field) (h : ∀ f ∈ fs, (szOf P f.type).isSome) : (fs.mapM fun f => (do pure (f.offset, ← sizeOf f.type) : Sem (Nat × Nat))).run P w = .ok (fs.map fun f => (f.offset, (szOf P f.type).getD 0)) w := by
  induction fs with
  | nil => simp
  | cons f fs ih =>
    have hf := h f (by simp)
    obtain ⟨n, hn⟩ := Option.isSome_iff_exists.1 hf
    rw [List.mapM_cons]
    simp only [Sem.run_bind, run_sizeOf hn, Result.andThen_ok, Sem.run_pure, ih (fun f' hf' => h f' (by simp [hf'])), List.map_cons, hn, Option.getD_some]

theorem fill_congr (p q : Nat → Option (Nat × Nat)) : ∀ (l : List (Nat × Value)) (cs : Array Value), (∀ x ∈ l, p x.1 = q x.1) → Instr.fill p cs l = Instr.fill q cs l
  | [], _, _ => rfl
  | (i, v) :: l, cs, h => by
    have h0 := h (i, v) (by simp)
    simp only at h0
    simp only [Instr.fill, h0]
    split
    · rfl
    · split
      · rfl
      · exact fill_congr p q l _ fun x hx => h x (by simp [hx])

theorem build_sound {P : Program} {t : TypeId} {zs : List Value} (hz : zeroOf P t = some zs) (hag : aggOf P t = some true) (hsz : sized P t = true) {ps : List (Nat × AV)} {pv : List (Nat × Value)}
    (h1 : ps.map (·.1) = pv.map (·.1)) (h2 : VRs g w (ps.map (·.2)) (pv.map (·.2))) {L : List AV} (hf : fillA (placeOf P t) (vals zs) ps = some L) :
    ∃ u, (Instr.build t pv.toArray).run P w = .ok u w ∧ VR g w (.agg L) u := by
  have hzz : ∃ i z, P.info? t = some i ∧ i.zero = some z ∧ zs = z.cells.toList := by
    unfold zeroOf at hz
    obtain ⟨z, hz1, hz2⟩ := Option.map_eq_some_iff.1 hz
    obtain ⟨i, hi, hiz⟩ := Option.bind_eq_some_iff.1 hz1
    exact ⟨i, z, hi, hiz, hz2.symm⟩
  obtain ⟨i, z, hi, hiz, rfl⟩ := hzz
  obtain ⟨cur, k1, k2⟩ := fill_sound (placeOf P t) ps pv (vals z.cells.toList) z.cells L h1 h2 (VRs_vals _) hf
  refine ⟨.agg cur, ?_, cur, rfl, k2⟩
  unfold sized at hsz
  split at hsz
  · rename_i fs hu
    have hall : ∀ f ∈ fs.toList, (szOf P f.type).isSome := fun f hf => List.all_eq_true.1 hsz f hf
    have hmm : (fs.mapM fun f => (do pure (f.offset, ← sizeOf f.type) : Sem (Nat × Nat))).run P w = .ok (fs.toList.map fun f => (f.offset, (szOf P f.type).getD 0)).toArray w := by
      have e := Array.mapM_eq_mapM_toList (m := Sem) (xs := fs) (f := fun f => (do pure (f.offset, ← sizeOf f.type) : Sem (Nat × Nat)))
      rw [e]
      simp only [Sem.run_map, mapM_places _ hall, Result.andThen_ok]
    have hp : ∀ i, ((fs.toList.map fun f => (f.offset, (szOf P f.type).getD 0)).toArray)[i]? = placeOf P t i := fun i => by
      simp only [placeOf, hu, List.getElem?_toArray, List.getElem?_map, Array.getElem?_toList]
      cases hfi : fs[i]? with
      | none => rfl
      | some f =>
        have hm : f ∈ fs.toList := by
          rw [← Array.getElem?_toList] at hfi
          exact List.mem_of_getElem? hfi
        obtain ⟨n, hn⟩ := Option.isSome_iff_exists.1 (hall f hm)
        simp [hn]
    have hf2 := fill_congr (fun i => ((fs.toList.map fun f => (f.offset, (szOf P f.type).getD 0)).toArray)[i]?) (placeOf P t) pv z.cells (fun x _ => hp x.1)
    rw [k1] at hf2
    unfold Instr.build
    simp only [Sem.run_bind, zeroValue, run_typeInfo hi, Result.andThen_ok, hiz, Sem.run_pure, run_underlying hu, hmm, hf2]
  · rename_i n e hu
    obtain ⟨m, hm⟩ := Option.isSome_iff_exists.1 hsz
    have hp : ∀ i, (some (i * m, m) : Option (Nat × Nat)) = placeOf P t i := fun i => by simp [placeOf, hu, hm]
    have hf2 := fill_congr (fun i => some (i * m, m)) (placeOf P t) pv z.cells (fun x _ => hp x.1)
    rw [k1] at hf2
    unfold Instr.build
    simp only [Sem.run_bind, zeroValue, run_typeInfo hi, Result.andThen_ok, hiz, Sem.run_pure, run_underlying hu, run_sizeOf hm, hf2]
  · cases hsz

theorem fieldV_sound {P : Program} {t : TypeId} {i : Nat} {x z : AV} {ux : Value} (hx : VR g w x ux) (h : fieldV P t i x = some z) : ∃ u, (Instr.field t ux i).run P w = .ok u w ∧ VR g w z u := by
  unfold fieldV at h
  split at h
  · rename_i cs
    simp only [VR] at hx
    obtain ⟨us, rfl, hv⟩ := hx
    split at h
    · rename_i fs hu
      split at h
      · rename_i f hf
        split at h
        · rename_i agg n h1 h2
          split at h
          · rename_i hle
            have hlen : cs.length = us.toList.length := VRs.length hv
            have hsub := VRs.take n (VRs.drop f.offset hv)
            have hl : ((cs.drop f.offset).take n).length = n := by simp; omega
            unfold Instr.field
            simp only [Sem.run_bind, run_underlying hu, Result.andThen_ok, hf, asAgg, Sem.run_pure, part, run_isAgg h1]
            cases agg with
            | true =>
              simp only [mkA, if_true, Option.some.injEq] at h
              subst h
              simp only [if_true, Sem.run_bind, run_sizeOf h2, Result.andThen_ok, Sem.run_pure]
              refine ⟨_, rfl, _, rfl, ?_⟩
              simpa [List.drop_take, Nat.add_sub_cancel_left] using hsub
            | false =>
              simp only [mkA, Bool.false_eq_true, if_false] at h
              split at h
              · rename_i c hc
                simp at h; subst h
                rw [hc] at hsub
                match hus : (us.toList.drop f.offset).take n, hsub with
                | [u], hsub =>
                  simp only [VRs] at hsub
                  have h0 : us[f.offset]? = some u := by
                    have : ((us.toList.drop f.offset).take n)[0]? = some u := by rw [hus]; rfl
                    rw [List.getElem?_take] at this
                    split at this
                    · rw [List.getElem?_drop] at this; simpa using this
                    · cases this
                  simp only [Bool.false_eq_true, if_false, h0, Sem.run_pure]
                  exact ⟨u, rfl, hsub.1⟩
                | [], hsub => simp [VRs] at hsub
                | _ :: _ :: _, hsub => simp [VRs] at hsub
              · cases h
          · cases h
        · cases h
      · cases h
    · cases h
  · cases h

theorem idxV_sound {P : Program} {t : TypeId} {k x z : AV} {uk ux : Value} (hk : VR g w k uk) (hx : VR g w x ux) (h : idxV P t k x = some z) : ∃ u, (Instr.index t ux uk).run P w = .ok u w ∧ VR g w z u := by
  unfold idxV at h
  split at h
  · rename_i cs
    simp only [VR] at hx
    obtain ⟨us, rfl, hv⟩ := hx
    split at h
    · rename_i kk ki len n b he
      simp only [VR] at hk
      subst hk
      split at h
      · rename_i hle
        obtain ⟨h0, h1, h2⟩ := hle
        unfold elemInf at he
        split at he
        · rename_i len' e hu
          split at he
          · rename_i n' b' hn hb
            simp only [Option.some.injEq, Prod.mk.injEq] at he
            obtain ⟨rfl, rfl, rfl⟩ := he
            have hlen : cs.length = us.toList.length := VRs.length hv
            have hsub := VRs.take n' (VRs.drop (ki.toNat * n') hv)
            unfold Instr.index
            simp only [asIntOf, Sem.run_bind, Sem.run_pure, Result.andThen_ok, run_underlying hu, h0, h1, and_self, if_true, run_sizeOf hn, part, run_isAgg hb]
            cases b' with
            | true =>
              simp only [mkA, if_true, Option.some.injEq] at h
              subst h
              simp only [if_true, Sem.run_bind, run_sizeOf hn, Result.andThen_ok, Sem.run_pure]
              refine ⟨_, rfl, _, rfl, ?_⟩
              simpa [List.drop_take, Nat.add_sub_cancel_left] using hsub
            | false =>
              simp only [mkA, Bool.false_eq_true, if_false] at h
              split at h
              · rename_i c hc
                simp at h; subst h
                rw [hc] at hsub
                match hus : (us.toList.drop (ki.toNat * n')).take n', hsub with
                | [u], hsub =>
                  simp only [VRs] at hsub
                  have h0 : us[ki.toNat * n']? = some u := by
                    have : ((us.toList.drop (ki.toNat * n')).take n')[0]? = some u := by rw [hus]; rfl
                    rw [List.getElem?_take] at this
                    split at this
                    · rw [List.getElem?_drop] at this; simpa using this
                    · cases this
                  simp only [Bool.false_eq_true, if_false, h0, Sem.run_pure]
                  exact ⟨u, rfl, hsub.1⟩
                | [], hsub => simp [VRs] at hsub
                | _ :: _ :: _, hsub => simp [VRs] at hsub
              · cases h
          · cases he
        · cases he
      · cases h
    · cases h
  · rename_i s
    split at h
    · rename_i kk ki
      simp only [VR] at hk hx
      subst hk; subst hx
      split at h
      · rename_i hc
        obtain ⟨hs, h0⟩ := hc
        obtain ⟨b, hb, rfl⟩ := Option.map_eq_some_iff.1 h
        unfold Instr.index
        simp only [asIntOf, Sem.run_bind, Sem.run_pure, Result.andThen_ok, run_underlying (strT_spec hs), h0, if_true, hb]
        exact ⟨_, rfl, by simp [VR]⟩
      · cases h
    · cases h
  · cases h
end
end Go.Abs
/- Every step but a call is the model's: all together. -/
namespace Go.Abs
section
variable {C : Ctx} {A : A0} {N : Nat} {g g' : Gh} {st st' : St} {a : Act} {w w' : World}

def Steps (C : Ctx) (A : A0) (N : Nat) (o : Oper) (a : Act) (w : World) (x : AV) (st' : St) : Prop :=
  ∃ u w' g', Does C.P o a w u w' ∧ R C A N g' st' a w' ∧ VR g' w' x u

theorem Steps.pure (hR : R C A N g st a w) {o : Oper} {x : AV} {s : Sem Value} (ho : execOp a.eval o = (do Pure.pure (Next.value (← s)))) (h : ∃ u, s.run C.P w = .ok u w ∧ VR g w x u) : Steps C A N o a w x st := by
  obtain ⟨u, h1, h2⟩ := h
  exact ⟨u, w, g, does_pure ho h1, hR, h2⟩
theorem Steps.of {o : Oper} {x : AV} {s : Sem Value} (ho : execOp a.eval o = (do Pure.pure (Next.value (← s)))) (h : ∃ u w' g', s.run C.P w = .ok u w' ∧ R C A N g' st' a w' ∧ VR g' w' x u) : Steps C A N o a w x st' := by
  obtain ⟨u, w', g', h1, h2, h3⟩ := h
  exact ⟨u, w', g', does_pure ho h1, h2, h3⟩
theorem map_pair {α : Type} {m : Option α} {f : α → AV} {st st' : St} {x : AV} (h : (m.map fun y => (f y, st)) = some (x, st')) : ∃ y, m = some y ∧ f y = x ∧ st' = st := by
  cases m with
  | none => cases h
  | some y => simp at h; exact ⟨y, rfl, h.1, h.2.symm⟩

theorem nil_sound {x r : AV} {ux : Value} (hx : VR g w x ux) (h : nilA x = some r) {o : Oper} {y : Operand} (ho : o.op = .nilCheck y) (hy : a.eval y = ux) : (execOp a.eval o).run C.P w = .ok (.value ux) w ∧ VR g w r ux := by
  unfold nilA at h
  split at h
  · simp at h; subst h
    refine ⟨?_, hx⟩
    simp only [VR] at hx
    obtain ⟨_, rfl⟩ := hx
    simp [execOp, ho, hy]
  · simp at h; subst h
    refine ⟨?_, hx⟩
    have : ∃ ad, ux = .pointer (some ad) := by
      simp only [VR] at hx
      unfold EpAt at hx
      split at hx
      · obtain ⟨_, _, hx, _⟩ := hx; exact ⟨_, hx⟩
      · obtain ⟨_, hx, _⟩ := hx; exact ⟨_, hx⟩
    obtain ⟨ad, rfl⟩ := this
    simp [execOp, ho, hy]
  · simp at h; subst h
    refine ⟨?_, hx⟩
    simp only [VR] at hx
    obtain ⟨us, hx, _⟩ := hx
    subst hx
    simp [execOp, ho, hy]
  · cases h

theorem map_parts (a : Act) (ps : Array (Nat × Operand)) (f : Nat × Operand → Nat × Value) (h : ∀ i x, f (i, x) = (i, a.eval x)) : ps.map f = (ps.toList.map fun p => (p.1, a.eval p.2)).toArray := by
  have : f = fun p => (p.1, a.eval p.2) := funext fun ⟨i, x⟩ => h i x
  subst this
  cases ps; simp
theorem exec_build (ρ : Act) {o : Oper} {t : TypeId} {ps : Array (Nat × Operand)} (ho : o.op = .build t ps) : execOp ρ.eval o = (do Pure.pure (Next.value (← Instr.build t (ps.toList.map fun p => (p.1, ρ.eval p.2)).toArray))) := by
  unfold execOp
  rw [ho]
  dsimp only
  rw [map_parts ρ ps _ (fun _ _ => rfl)]
theorem exec_buildSlice (ρ : Act) {o : Oper} {t : TypeId} {len : Nat} {ps : Array (Nat × Operand)} (ho : o.op = .buildSlice t len ps) : execOp ρ.eval o = (do Pure.pure (Next.value (← Instr.buildSlice t len (ps.toList.map fun p => (p.1, ρ.eval p.2)).toArray))) := by
  unfold execOp
  rw [ho]
  dsimp only
  rw [map_parts ρ ps _ (fun _ _ => rfl)]
theorem VRs_parts (hR : R C A N g st a w) (ps : Array (Nat × Operand)) : VRs g w ((parts C st ps).map (·.2)) ((ps.toList.map fun p => (p.1, a.eval p.2)).map (·.2)) := by
  have := VRs_map_ev hR (ps.toList.map (·.2))
  simpa [parts, List.map_map, Function.comp_def] using this

theorem killL_vals' (S T : List Nat) : ∀ zs : List Value, killL S T (vals zs) = vals zs
  | [] => rfl
  | z :: zs => by
    have := killL_vals' S T zs
    simp only [vals, List.map_cons, killL, AV.kill] at this ⊢
    rw [this]
theorem exec_builtin (ρ : Act) {o : Oper} {b : Builtin} {xs : Array Operand} {ts : Array TypeId} (ho : o.op = .call { callee := .builtin b, args := xs, argTypes := ts }) : ∃ consts, execOp ρ.eval o = builtin b ts o.type consts (xs.map ρ.eval) := by
  refine ⟨xs.map fun | .const _ => true | _ => false, ?_⟩
  unfold execOp
  rw [ho]
  rfl

theorem len_sound' {t ty : TypeId} {x r : AV} {ux : Value} {P : Program} (ht : lenOk P t x = true) (hx : VR g w x ux) (h : lenA x = some r) : ∃ u, (Builtin.len_ #[t] ty #[ux]).run P w = .ok u w ∧ VR g w r u := by
  by_cases hs : ∃ s, x = .v (.string s)
  · have : strT P t = true := by obtain ⟨s, rfl⟩ := hs; exact ht
    exact len_sound (.inr this) hx h (fun _ => this) (fun hn => (hn hs).elim)
  · have : isSliceT P t = true := by
      unfold lenOk at ht
      split at ht
      · exact (hs ⟨_, rfl⟩).elim
      · exact ht
    exact len_sound (.inl this) hx h (fun h => (hs h).elim) (fun _ => this)

theorem arr1 {α : Type} {a : Array α} {x : α} (h : a.toList = [x]) : a = #[x] := by cases a; simp_all
theorem arr2 {α : Type} {a : Array α} {x y : α} (h : a.toList = [x, y]) : a = #[x, y] := by cases a; simp_all

theorem builtinV_sound (hR : R C A N g st a w) {o : Oper} {b : Builtin} {xs : Array Operand} {ts : Array TypeId} {consts : Array Bool} (he : execOp a.eval o = builtin b ts o.type consts (xs.map a.eval)) {x : AV}
    (h : builtinV C o.dst b xs.toList ts.toList st = some (x, st')) : Steps C A N o a w x st' := by
  unfold builtinV at h
  split at h
  · split at h
    · rename_i y t hy ht
      split at h
      · rename_i hok
        obtain ⟨r, h1, rfl, rfl⟩ := map_pair h
        refine .pure hR he ?_
        rw [arr1 hy, arr1 ht]
        simp only [List.map_toArray, List.map_cons, List.map_nil]
        exact len_sound' hok (hR.ev y) h1
      · cases h
    · cases h
  · split at h
    · rename_i d y z t t2 hd hy ht
      split at h
      · rename_i e n b hr
        split at h
        · rename_i hs
          refine .of he ?_
          rw [arr2 hy, arr2 ht]
          simp only [List.map_toArray, List.map_cons, List.map_nil]
          exact append_sound hR hr hs (hR.ev y) (hR.ev z) h
        · split at h
          · rename_i zs hzs
            refine .of he ?_
            rw [arr2 hy, arr2 ht]
            simp only [List.map_toArray, List.map_cons, List.map_nil]
            exact appendN_sound hR hr hzs (hR.ev y) (hR.ev z) h
          · cases h
      · cases h
    · cases h
  · split at h
    · rename_i y z t tl hy ht
      refine .of he ?_
      rw [arr2 hy]
      simp only [List.map_toArray, List.map_cons, List.map_nil]
      exact copy_sound hR (by rw [← Array.getElem?_toList, ht]; rfl) (hR.ev y) (hR.ev z) h
    · cases h
  · split at h
    · rename_i y t hy ht
      refine .of he ?_
      rw [arr1 hy, arr1 ht]
      simp only [List.map_toArray, List.map_cons, List.map_nil]
      exact clear_sound hR rfl (hR.ev y) h
    · cases h
  · split at h
    · rename_i y t hy ht
      obtain ⟨r, h1, rfl, rfl⟩ := map_pair h
      refine .pure hR he ?_
      rw [arr1 hy, arr1 ht]
      simp only [List.map_toArray, List.map_cons, List.map_nil]
      exact cap_sound rfl (hR.ev y) h1
    · cases h
  · split at h
    · rename_i y z hy
      split at h
      · rename_i k p k' q hp hq
        have h' := Option.some.inj h
        obtain ⟨rfl, rfl⟩ := Prod.mk.inj h'
        have e1 := hR.ev y; have e2 := hR.ev z
        rw [hp] at e1; rw [hq] at e2
        simp only [VR] at e1 e2
        refine .pure hR he ⟨_, ?_, by simp only [VR]; rfl⟩
        rw [arr2 hy]
        simp [Builtin.max_, Builtin.max2, e1, e2]
      · cases h
    · cases h
  · split at h
    · rename_i y z hy
      split at h
      · rename_i k p k' q hp hq
        have h' := Option.some.inj h
        obtain ⟨rfl, rfl⟩ := Prod.mk.inj h'
        have e1 := hR.ev y; have e2 := hR.ev z
        rw [hp] at e1; rw [hq] at e2
        simp only [VR] at e1 e2
        refine .pure hR he ⟨_, ?_, by simp only [VR]; rfl⟩
        rw [arr2 hy]
        simp [Builtin.min_, Builtin.min2, e1, e2]
      · cases h
    · cases h
  · cases h

theorem stepV_sound (hR : R C A N g st a w) {o : Oper} (hext : ∀ d, o.dst = some d → nm d ∉ A.ext ∧ nmM d ∉ A.ext) {x : AV} (h : stepV C o st = some (x, st')) : Steps C A N o a w x st' := by
  obtain ⟨dst, op, ty, after, x2, x3⟩ := o
  simp only at hext
  cases op <;> simp only [stepV] at h
  case makeMap t rv =>
    split at h
    · rename_i d
      have h' := Option.some.inj h
      obtain ⟨rfl, rfl⟩ := Prod.mk.inj h'
      have hb := hR.newMap (nmM d) (nm_map d) (hext d rfl).2
      refine .of (s := Instr.makeMap t none) rfl ⟨.map (some w.heap.size), _, _, ?_, hb, ?_⟩
      · simp [Instr.makeMap, newObj]; rfl
      · simp [VR, Gh.newBox, nm_map]
    · cases h
  case lookup t m k ok =>
    split at h
    · obtain ⟨r, h1, rfl, rfl⟩ := map_pair h
      unfold lookupV at h1
      split at h1
      · rename_i s hm
        obtain ⟨cs, h2, h3⟩ := Option.bind_eq_some_iff.1 h1
        have e1 := hR.ev m
        rw [hm] at e1
        simp only [VR] at e1
        obtain ⟨m1, m2⟩ := e1
        obtain ⟨es, clk, k1, k2⟩ := (hR.ob s cs h2).map m1
        obtain ⟨u, j1, j2⟩ := lookup_sound h3 (hR.ev k) k1 k2
        exact .pure hR (s := Instr.lookup t (a.eval m) (a.eval k) false) rfl ⟨u, by rw [m2]; exact j1, j2⟩
      · cases h1
    · cases h
  case mapUpdate t m k v =>
    split at h
    · obtain ⟨r, h1, h4⟩ := Option.map_eq_some_iff.1 h
      obtain ⟨rfl, rfl⟩ := Prod.mk.inj h4
      unfold insertV at h1
      split at h1
      · rename_i s hm
        obtain ⟨cs, h2, h3⟩ := Option.bind_eq_some_iff.1 h1
        obtain ⟨cs', h5, rfl⟩ := Option.map_eq_some_iff.1 h3
        have e1 := hR.ev m
        rw [hm] at e1
        simp only [VR] at e1
        obtain ⟨m1, m2⟩ := e1
        obtain ⟨es, clk, k1, k2⟩ := (hR.ob s cs h2).map m1
        obtain ⟨j1, rfl⟩ := insert_sound (uv := a.eval v) h5 (hR.ev k) k1 k2
        exact ⟨undef, _, g, .inr ⟨by simp only [execOp, m2, Sem.run_bind, j1]; rfl, rfl⟩, hR.setMap m1 h2 k1 (e := ⟨a.eval k, a.eval v, clk⟩) (hR.ev k) (hR.ev v) k2, by simp [VR]⟩
      · cases h1
    · cases h
  case move y => simp at h; obtain ⟨rfl, rfl⟩ := h; exact ⟨_, w, g, .inl rfl, hR, hR.ev y⟩
  case assign y => simp at h; obtain ⟨rfl, rfl⟩ := h; exact ⟨_, w, g, .inl rfl, hR, hR.ev y⟩
  case pick c y z =>
    obtain ⟨r, h1, rfl, rfl⟩ := map_pair h
    obtain ⟨u, k1, k2⟩ := pick_sound (P := C.P) (hR.ev c) (hR.ev y) (hR.ev z) h1
    exact ⟨u, w, g, .inl k1, hR, k2⟩
  case alloc t =>
    split at h
    · rename_i d zs hz
      have h' := Option.some.inj h
      obtain ⟨rfl, rfl⟩ := Prod.mk.inj h'
      have hzz : ∃ z, (zeroValue t).run C.P w = .ok z w ∧ zs = z.cells.toList := by
        unfold zeroOf at hz
        obtain ⟨z, hz1, hz2⟩ := Option.map_eq_some_iff.1 hz
        obtain ⟨i, hi, hiz⟩ := Option.bind_eq_some_iff.1 hz1
        exact ⟨z, by simp [zeroValue, run_typeInfo hi, hiz], hz2.symm⟩
      obtain ⟨z, hz1, rfl⟩ := hzz
      have hk : killL [] [nm d] (vals z.cells.toList) = vals z.cells.toList := killL_vals' [] [nm d] _
      have hb := hR.newBox (nm d) (nm_cells d) (hext d rfl).1 z.cells t (vals z.cells.toList) (VRs_vals _)
      rw [hk] at hb
      refine .of (s := Instr.alloc t true (.tuple #[])) rfl ⟨.pointer (some ⟨w.heap.size, 0, none⟩), _, _, ?_, hb, ?_⟩
      · simp [Instr.alloc, hz1, newVar_run]
      · simp [VR, Gh.newBox, nm_cells]
    · cases h
  case box t y =>
    split at h
    · rename_i d
      split at h
      · rename_i hok
        have h' := Option.some.inj h
        obtain ⟨rfl, rfl⟩ := Prod.mk.inj h'
        have hb := hR.newBox (nm d) (nm_cells d) (hext d rfl).1 (a.eval y).cells t (ev C st y).cells (VR.cells (hR.ev y) hok)
        refine .of (s := Instr.box t (a.eval y)) rfl ⟨.pointer (some ⟨w.heap.size, 0, none⟩), _, _, ?_, hb, ?_⟩
        · simp [Instr.box, newVar_run]
        · simp [VR, Gh.newBox, nm_cells]
      · cases h
    · cases h
  case load t p =>
    split at h
    · rename_i agg n h1 h2
      obtain ⟨r, h3, rfl, rfl⟩ := map_pair h
      exact .pure hR rfl (load_sound hR h1 h2 (hR.ev p) h3)
    · cases h
  case store t p y =>
    split at h
    · rename_i n hd h2
      obtain ⟨r, h3, h4⟩ := Option.map_eq_some_iff.1 h
      simp at h4; obtain ⟨rfl, rfl⟩ := h4
      obtain ⟨w', g', k1, k2⟩ := store_sound hR h2 (hR.ev p) (hR.ev y) h3
      exact ⟨undef, w', g', .inr ⟨by simp [execOp, k1], rfl⟩, k2, by simp [VR]⟩
    · cases h
  case fieldAddr t p i =>
    split at h
    · rename_i off h1
      obtain ⟨r, h3, rfl, rfl⟩ := map_pair h
      exact .pure hR rfl (field_sound h1 (hR.ev p) h3)
    · cases h
  case indexAddr t p i =>
    split at h
    · rename_i k ki hi
      have hiv := hR.ev i
      rw [hi] at hiv
      simp only [VR] at hiv
      split at h
      · rename_i e n he
        obtain ⟨r, h3, rfl, rfl⟩ := map_pair h
        exact .pure hR rfl (by rw [hiv]; exact indexS_sound he (hR.ev p) h3)
      · split at h
        · rename_i len n he
          obtain ⟨r, h3, rfl, rfl⟩ := map_pair h
          exact .pure hR rfl (by rw [hiv]; exact indexR_sound he (hR.ev p) h3)
        · cases h
    · cases h
  case nilCheck y =>
    obtain ⟨r, h1, rfl, rfl⟩ := map_pair h
    have := nil_sound (C := C) (a := a) (hR.ev y) h1 (o := ⟨dst, .nilCheck y, ty, after, x2, x3⟩) rfl rfl
    exact ⟨_, w, g, .inl this.1, hR, this.2⟩
  case binOp op t y z _ =>
    obtain ⟨r, h1, rfl, rfl⟩ := map_pair h
    exact .pure hR rfl (bin_sound (hR.ev y) (hR.ev z) h1)
  case unOp op t y =>
    obtain ⟨r, h1, rfl, rfl⟩ := map_pair h
    exact .pure hR rfl (un_sound (hR.ev y) h1)
  case convert s d y => exact .of rfl (conv_sound hR (hR.ev y) h)
  case extract y i =>
    split at h
    · rename_i cs hc
      obtain ⟨r, h1, rfl, rfl⟩ := map_pair h
      have hy := hR.ev y
      rw [hc] at hy
      simp only [VR] at hy
      obtain ⟨us, hu, hv⟩ := hy
      obtain ⟨u, h2, h3⟩ := VRs.get hv i _ h1
      refine .pure hR (s := Instr.extract (a.eval y) i) rfl ⟨u, ?_, h3⟩
      rw [hu]
      have : us[i]? = some u := by simpa using h2
      simp [Instr.extract, this]
    · cases h
  case field t y i =>
    obtain ⟨r, h1, rfl, rfl⟩ := map_pair h
    exact .pure hR rfl (fieldV_sound (hR.ev y) h1)
  case index t y i =>
    obtain ⟨r, h1, rfl, rfl⟩ := map_pair h
    exact .pure hR rfl (idxV_sound (hR.ev i) (hR.ev y) h1)
  case build t ps =>
    split at h
    · rename_i zs hz ha
      split at h
      · rename_i hs
        obtain ⟨r, h1, rfl, rfl⟩ := map_pair h
        exact .pure hR (exec_build a rfl) (build_sound hz ha hs (by simp [parts]) (VRs_parts hR ps) h1)
      · cases h
    · cases h
  case buildSlice t len ps =>
    split at h
    · rename_i d e n b hd hr
      split at h
      · rename_i zs hz
        exact .of (exec_buildSlice a rfl) (lit_sound hR hr hz (by simp [parts]) (VRs_parts hR ps) h)
      · cases h
    · cases h
  case makeSlice t l c =>
    split at h
    · rename_i d e n b kl lv kc cv hd hr hl hc
      split at h
      · rename_i zs hz
        have h1 := hR.ev l
        have h2 := hR.ev c
        rw [hl] at h1; rw [hc] at h2
        simp only [VR] at h1 h2
        refine .of (s := Instr.makeSlice t (a.eval l) (a.eval c)) rfl ?_
        rw [h1, h2]
        exact make_sound hR hr hz h
      · cases h
    · cases h
  case slice t y lo hi mx =>
    obtain ⟨u, w', g', k1, k2, k3, _⟩ := sliceOp_sound hR h
    exact .of rfl ⟨u, w', g', k1, k2, k3⟩
  case makeFunc fn first caps =>
    split at h
    · rename_i f hf
      have h' := Option.some.inj h
      obtain ⟨rfl, rfl⟩ := Prod.mk.inj h'
      refine .pure hR (s := Instr.makeFunc (.func f) (first.map a.eval) (caps.map a.eval)) rfl ⟨_, rfl, ?_⟩
      have hf0 : first = #[] := by
        cases first; simp_all
      subst hf0
      simp only [VR]
      refine ⟨_, by simp; rfl, ?_⟩
      have := VRs_map_ev hR caps.toList
      simpa using this
    · rename_i f y ys hf hc
      have h' := Option.some.inj h
      obtain ⟨rfl, rfl⟩ := Prod.mk.inj h'
      refine .pure hR (s := Instr.makeFunc (.func f) (first.map a.eval) (caps.map a.eval)) rfl ⟨_, rfl, ?_⟩
      have hf0 : caps = #[] := by
        cases caps; simp_all
      subst hf0
      simp only [VR]
      refine ⟨_, by simp; rfl, ?_⟩
      have := VRs_map_ev hR first.toList
      rw [hf] at this
      simpa [hf] using this
    · cases h
  case makeInterface t y =>
    split at h
    · rename_i hc
      have h' := Option.some.inj h
      obtain ⟨rfl, rfl⟩ := Prod.mk.inj h'
      refine .pure hR rfl ⟨_, run_makeInterface w t _ hc, ?_⟩
      simp only [VR]
      exact ⟨_, rfl, hR.ev y⟩
    · cases h
  case call c =>
    split at h
    · rename_i b hb
      obtain ⟨callee, args, argTypes⟩ := c
      simp only at hb; subst hb
      obtain ⟨consts, he⟩ := exec_builtin a (o := ⟨dst, .call { callee := .builtin b, args, argTypes }, ty, after, x2, x3⟩) rfl
      exact builtinV_sound hR he h
    · cases h
  all_goals (cases h)
end
end Go.Abs
/- Knowledge that lasts while memory grows; renaming of boxes and rows. -/
namespace Go.Abs

/-- what a step may do: forget the rows S, place the boxes T anew, write the boxes U -/
structure Grow (S T U : List Nat) (g : Gh) (w : World) (g' : Gh) (w' : World) : Prop extends Lasts S T g w g' w' where
  os : w'.os = w.os
  tape : SameTape w w'
  output : w'.output = w.output
  size : w.heap.size ≤ w'.heap.size
  other : ∀ b, b < w.heap.size → g.own b = .other → g'.own b = .other ∧ w'.heap[b]? = w.heap[b]?
  kept : ∀ s, s ∉ U → s ∉ T → g.own (g.box s) = .box s → g.box s < w.heap.size → g'.own (g.box s) = .box s ∧ w'.heap[g.box s]? = w.heap[g.box s]?

def dropO (U : List Nat) : List (Nat × List AV) → List (Nat × List AV)
  | [] => []
  | (k, x) :: l => if k ∈ U then dropO U l else (k, x) :: dropO U l

theorem lk_dropO (U : List Nat) (k : Nat) : ∀ l : List (Nat × List AV), lk k (dropO U l) = if k ∈ U then none else lk k l
  | [] => by simp [dropO, lk]
  | (j, x) :: l => by
    simp only [dropO]
    split
    · rename_i hj
      rw [lk_dropO U k l]
      simp only [lk]
      by_cases hjk : j = k
      · subst hjk; simp [hj]
      · simp [hjk]
    · rename_i hj
      simp only [lk]
      by_cases hjk : j = k
      · subst hjk; simp [hj]
      · simp only [hjk, if_false]; exact lk_dropO U k l

section
variable {C : Ctx} {A : A0} {N : Nat} {g g' : Gh} {st st' : St} {a : Act} {w w' : World}

/-- st' knows no more than st -/
def Le (st' st : St) : Prop := (∀ k x, lk k st'.tmps = some x → x = .undef ∨ lk k st.tmps = some x) ∧ (∀ s cs, lk s st'.objs = some cs → lk s st.objs = some cs)

theorem R.at_undef (h : R C A N g st a w) {k : Nat} (hk : k < N) : ∃ u, a.tmps[k]? = some u :=
  ⟨_, Array.getElem?_eq_getElem (by rw [h.size]; exact hk)⟩

theorem R.le (h : R C A N g st a w) (hle : Le st' st) (hb : ∀ k x, lk k st'.tmps = some x → k < N) : R C A N g st' a w where
  size := h.size
  defs := h.defs
  tm := fun k x hx => by
    rcases hle.1 k x hx with rfl | h'
    · obtain ⟨u, hu⟩ := h.at_undef (hb k _ hx)
      exact ⟨u, hu, by simp [VR]⟩
    · exact h.tm k x h'
  ob := fun s cs hs => h.ob s cs (hle.2 s cs hs)
  fr := h.fr

theorem R.grow (h : R C A N g st a w) {S T U : List Nat} (hg : Grow S T U g w g' w') (hext : ∀ s, s ∈ A.ext → s ∉ T) : R C A N g' (St.kill S T ⟨st.tmps, dropO U st.objs⟩) a w' := by
  have h1 : R C A N g ⟨st.tmps, dropO U st.objs⟩ a w := ⟨h.size, h.defs, h.tm, fun s cs hs => by
    rw [lk_dropO] at hs
    split at hs
    · cases hs
    · exact h.ob s cs hs, h.fr⟩
  refine h1.lasts hg.toLasts (h.fr.step hg.toLasts hg.os hg.tape hg.output hg.size hg.other hext) fun s cs hs hT => ?_
  simp only [lk_dropO] at hs
  split at hs
  · cases hs
  · rename_i hU
    have ho := h.ob s cs hs
    exact hg.kept s hU hT ho.1 ho.lt

end

abbrev Ren := List (Nat × Nat)
def inv (l : Ren) : Ren := l.map fun p => (p.2, p.1)
def okRen (l : Ren) : Bool := l.all fun p => lk p.1 l == some p.2 && lk p.2 (inv l) == some p.1 && isMap p.2 == isMap p.1

theorem lk_mem {α : Type} {k : Nat} {x : α} : ∀ {l : List (Nat × α)}, lk k l = some x → (k, x) ∈ l
  | (j, y) :: l, h => by
    simp only [lk] at h
    split at h
    · rename_i hj; injection h with h; subst h; subst hj; simp
    · exact List.mem_cons_of_mem _ (lk_mem h)

theorem okRen.fwd {l : Ren} (h : okRen l = true) {r r' : Nat} (hr : lk r l = some r') : lk r' (inv l) = some r := by
  have := List.all_eq_true.1 h _ (lk_mem hr)
  simp at this
  exact this.1.2
theorem okRen.kind {l : Ren} (h : okRen l = true) {r r' : Nat} (hr : lk r l = some r') : isMap r' = isMap r := by
  have := List.all_eq_true.1 h _ (lk_mem hr)
  simp at this
  exact this.2
theorem okRen.bwd {l : Ren} (h : okRen l = true) {r r' : Nat} (hr : lk r' (inv l) = some r) : lk r l = some r' := by
  have hm := lk_mem hr
  simp only [inv, List.mem_map, Prod.mk.injEq, Prod.exists] at hm
  obtain ⟨a, b, hab, rfl, rfl⟩ := hm
  have := List.all_eq_true.1 h _ hab
  simp at this
  exact this.1.1

/-- the renaming of rows, that of boxes, the rows that are lent -/
structure Rn where
  l : Ren
  m : Ren
  bs : List Nat

mutual
def AV.ren (ρ : Rn) : AV → AV
  | .undef => .undef
  | .v x => .v x
  | .agg cs => .agg (renL ρ cs)
  | .tup cs => .tup (renL ρ cs)
  | .sl (.own r lo) n es => match lk r ρ.l with
    | some r' => .sl (.own r' lo) n es
    | none => if r ∈ ρ.bs then .sl .no n es else .undef
  | .sl .no n es => .sl .no n es
  | .sl .full n es => .sl .full n es
  | .ptr s off => match lk s ρ.m with
    | some s' => .ptr s' off
    | none => .undef
  | .ep (.own r lo) i cells off => match lk r ρ.l with
    | some r' => .ep (.own r' lo) i cells off
    | none => .undef
  | .ep .no i cells off => .ep .no i cells off
  | .ep .full i cells off => .ep .full i cells off
  | .fn f caps => .fn f (renL ρ caps)
  | .mv f caps => .mv f (renL ρ caps)
  | .mp s => match lk s ρ.m with
    | some s' => .mp s'
    | none => .undef
  | .ifc t x => .ifc t (x.ren ρ)
  | .hnd k r i j off m bss => match lk r ρ.l with
    | some r' => .hnd k r' i j off m bss
    | none => if r ∈ ρ.bs then frozen k m bss else .undef
  | .mem b xs => .mem b (renL ρ xs)
def renL (ρ : Rn) : List AV → List AV
  | [] => []
  | c :: cs => c.ren ρ :: renL ρ cs
end

def Gh.ren (ρ : Rn) (g base : Gh) : Gh where
  own b := match g.own b with
    | .ro => .ro
    | .other => .other
    | .row r => match lk r ρ.l with
      | some r' => .row r'
      | none => if r ∈ ρ.bs then .ro else .other
    | .box s => match lk s ρ.m with
      | some s' => .box s'
      | none => .other
    | .inn r i => match lk r ρ.l with
      | some r' => .inn r' i
      | none => if r ∈ ρ.bs then .ro else .other
  row r' := match lk r' (inv ρ.l) with
    | some r => g.row r
    | none => base.row r'
  box s' := match lk s' (inv ρ.m) with
    | some s => g.box s
    | none => base.box s'
  inn r' i := match lk r' (inv ρ.l) with
    | some r => g.inn r i
    | none => base.inn r' i

structure Rn.OK (ρ : Rn) : Prop where
  l : okRen ρ.l = true
  m : okRen ρ.m = true

section
variable {ρ : Rn} {base g g' : Gh} {w : World}

theorem ren_ro {b : Nat} (h : g.own b = .ro) : (Gh.ren ρ g base).own b = .ro := by simp [Gh.ren, h]
theorem ren_other {b : Nat} (h : g.own b = .other) : (Gh.ren ρ g base).own b = .other := by simp [Gh.ren, h]
theorem ren_row {b r r' : Nat} (h : g.own b = .row r) (hr : lk r ρ.l = some r') : (Gh.ren ρ g base).own b = .row r' := by simp [Gh.ren, h, hr]
theorem ren_box {b s s' : Nat} (h : g.own b = .box s) (hr : lk s ρ.m = some s') : (Gh.ren ρ g base).own b = .box s' := by simp [Gh.ren, h, hr]
theorem ren_lent {b r : Nat} (h : g.own b = .row r) (hr : lk r ρ.l = none) (hb : r ∈ ρ.bs) : (Gh.ren ρ g base).own b = .ro := by simp [Gh.ren, h, hr, hb]
theorem renRow (ho : ρ.OK) {r r' : Nat} (hr : lk r ρ.l = some r') : (Gh.ren ρ g base).row r' = g.row r := by simp [Gh.ren, okRen.fwd ho.l hr]
theorem renBox (ho : ρ.OK) {s s' : Nat} (hr : lk s ρ.m = some s') : (Gh.ren ρ g base).box s' = g.box s := by simp [Gh.ren, okRen.fwd ho.m hr]

theorem ren_inn {b r r' i : Nat} (h : g.own b = .inn r i) (hr : lk r ρ.l = some r') : (Gh.ren ρ g base).own b = .inn r' i := by simp [Gh.ren, h, hr]
theorem ren_lentI {b r i : Nat} (h : g.own b = .inn r i) (hr : lk r ρ.l = none) (hb : r ∈ ρ.bs) : (Gh.ren ρ g base).own b = .ro := by simp [Gh.ren, h, hr, hb]
theorem renInn (ho : ρ.OK) {r r' : Nat} (hr : lk r ρ.l = some r') (i : Nat) : (Gh.ren ρ g base).inn r' i = g.inn r i := by simp [Gh.ren, okRen.fwd ho.l hr]

theorem roRen : ∀ b, b < w.heap.size → isRo g b → isRo (Gh.ren ρ g base) b ∧ w.heap[b]? = w.heap[b]? := fun b _ h => ⟨ren_ro h, rfl⟩

mutual
theorem VR.ren (ho : ρ.OK) : ∀ (x : AV) (u : Value), VR g w x u → VR (Gh.ren ρ g base) w (x.ren ρ) u
  | .undef, _, _ => by simp [AV.ren, VR]
  | .v x, u, hu => by simpa [AV.ren, VR] using hu
  | .agg cs, u, hu => by
    simp only [AV.ren, VR] at hu ⊢
    obtain ⟨us, h1, h2⟩ := hu
    exact ⟨us, h1, VRs.ren ho cs us.toList h2⟩
  | .tup cs, u, hu => by
    simp only [AV.ren, VR] at hu ⊢
    obtain ⟨us, h1, h2⟩ := hu
    exact ⟨us, h1, VRs.ren ho cs us.toList h2⟩
  | .sl (.own r lo) n es, u, hu => by
    simp only [AV.ren]
    split
    · rename_i r' hr
      simp only [VR, OwnSl] at hu ⊢
      refine ⟨hu.1, ?_⟩
      rcases hu.2 with hu | hu | ⟨cap, cur, T', h1, h2, h3, h5, h6, h7, h8⟩
      · exact .inl hu
      · exact .inr (.inl hu)
      · rw [renRow ho hr]
        exact .inr (.inr ⟨cap, cur, T', h1, h2, h3, ren_row h5 hr, h6, h7, PRe.mono_at roRen es _ n 0 rfl h8⟩)
    · rename_i hr
      split
      · rename_i hb
        simp only [VR, OwnSl, PR] at hu ⊢
        refine ⟨(fun _ _ h => by cases h), ?_⟩
        rcases hu.2 with ⟨h1, h2⟩ | ⟨_, h2, a', cap, h3, h4⟩ | ⟨cap, cur, T', h1, h2, h3, h5, h6, h7, h8⟩
        · subst h2; exact ⟨_, 0, h1, by simp, by simp [maxLen], (by intro h; cases h), hu.1, .inl rfl⟩
        · subst h2; exact ⟨_, cap, h3, by simp, h4, (by intro h; cases h), hu.1, .inl rfl⟩
        · exact ⟨_, cap, h1, h2, by omega, (by intro h; cases h), hu.1, .inr ⟨_, rfl, ren_lent h5 hr hb, PRe.mono_at roRen es _ n 0 rfl h8⟩⟩
      · simp [VR]
  | .sl .no n es, u, hu => by
    simp only [AV.ren, VR] at hu ⊢
    exact PR.mono roRen _ u hu
  | .sl .full n es, u, hu => by
    simp only [AV.ren, VR] at hu ⊢
    exact PR.mono roRen _ u hu
  | .ptr s off, u, hu => by
    simp only [AV.ren]
    split
    · rename_i s' hs
      simp only [VR] at hu ⊢
      rw [renBox ho hs, okRen.kind ho.m hs]; exact hu
    · simp [VR]
  | .mp s, u, hu => by
    simp only [AV.ren]
    split
    · rename_i s' hs
      simp only [VR] at hu ⊢
      rw [renBox ho hs, okRen.kind ho.m hs]; exact hu
    · simp [VR]
  | .ep (.own r lo) i cells off, u, hu => by
    simp only [AV.ren]
    split
    · rename_i r' hr
      simp only [VR, EpAt] at hu ⊢
      obtain ⟨cur, T', h1, h2, h3, h4, h5⟩ := hu
      rw [renRow ho hr]
      exact ⟨cur, T', h1, ren_row h2 hr, h3, h4, PRc.mono_at roRen cells _ 0 rfl h5⟩
    · simp [VR]
  | .ep .no i cells off, u, hu => by
    simp only [AV.ren, VR, EpAt] at hu ⊢
    obtain ⟨ad, h1, h0, h2, h3⟩ := hu
    exact ⟨ad, h1, h0, ren_ro h2, PRc.mono roRen _ ad 0 h2 h3⟩
  | .ep .full i cells off, u, hu => by
    simp only [AV.ren, VR, EpAt] at hu ⊢
    obtain ⟨ad, h1, h0, h2, h3⟩ := hu
    exact ⟨ad, h1, h0, ren_ro h2, PRc.mono roRen _ ad 0 h2 h3⟩
  | .fn f caps, u, hu => by
    simp only [AV.ren, VR] at hu ⊢
    obtain ⟨us, h1, h2⟩ := hu
    exact ⟨us, h1, VRs.ren ho caps us.toList h2⟩
  | .mv f caps, u, hu => by
    simp only [AV.ren, VR] at hu ⊢
    obtain ⟨us, h1, h2⟩ := hu
    exact ⟨us, h1, VRs.ren ho caps us.toList h2⟩
  | .ifc t x, u, hu => by
    simp only [AV.ren, VR] at hu ⊢
    obtain ⟨y, h1, h2⟩ := hu
    exact ⟨y, h1, VR.ren ho x y h2⟩
  | .hnd k r i j off m bss, u, hu => by
    simp only [AV.ren]
    split
    · rename_i r' hr
      simp only [VR] at hu ⊢
      exact hu.map ⟨roRen, renRow ho hr, renInn ho hr, fun _ h => ⟨ren_row h hr, rfl⟩, fun i _ h => ⟨ren_inn h hr, rfl⟩⟩
    · rename_i hr
      split
      · rename_i hb
        simp only [VR] at hu
        exact hu.frozen roRen (fun h => ren_lent h hr hb) (fun i h => ren_lentI h hr hb)
      · simp [VR]
  | .mem b xs, u, hu => by
    simp only [AV.ren, VR] at hu ⊢
    obtain ⟨ad, vs, h1, h2, h3, h4⟩ := hu
    exact ⟨ad, vs, ren_ro h1, h2, VRs.ren ho xs vs h3, h4⟩
theorem VRs.ren (ho : ρ.OK) : ∀ (cs : List AV) (us : List Value), VRs g w cs us → VRs (Gh.ren ρ g base) w (renL ρ cs) us
  | [], [], _ => by simp [renL, VRs]
  | [], _ :: _, hu => by simp [VRs] at hu
  | _ :: _, [], hu => by simp [VRs] at hu
  | c :: cs, u :: us, hu => by
    simp only [renL, VRs] at hu ⊢
    exact ⟨VR.ren ho c u hu.1, VRs.ren ho cs us hu.2⟩
end

theorem ObjAt.ren (ho : ρ.OK) {s s' : Nat} {cs : List AV} (hs : lk s ρ.m = some s') (h : ObjAt g w s cs) : ObjAt (Gh.ren ρ g base) w s' (renL ρ cs) := by
  exact h.lift (okRen.kind ho.m hs) (by rw [renBox ho hs]; exact ren_box h.1 hs) (by rw [renBox ho hs]) (fun us hu => VRs.ren ho _ _ hu)
end

/-- no memory that may be lent is seen through it -/
def Flat1 (c : AV) : Prop := (∃ x, c = .v x) ∨ c = .undef
mutual
def Flat : AV → Prop
  | .undef => True
  | .v _ => True
  | .agg cs => FlatL cs
  | .tup cs => FlatL cs
  | .sl (.own _ _) _ es => ∀ e ∈ es, ∀ c ∈ e, Flat1 c
  | .sl _ _ es => es = []
  | .ptr _ _ => True
  | .ep _ _ _ _ => False
  | .fn _ cs => FlatL cs
  | .mv _ cs => FlatL cs
  | .mp _ => False
  | .ifc _ x => Flat x
  | .hnd _ _ _ _ _ _ _ => False
  | .mem _ _ => False
def FlatL : List AV → Prop
  | [] => True
  | c :: cs => Flat c ∧ FlatL cs
end

section
variable {g g' : Gh} {w : World} {ro ro' : Nat → Prop}
theorem PRc.flat : ∀ (cs : List AV) (ad : Addr) (j : Nat), (∀ c ∈ cs, Flat1 c) → PRc ro w cs ad j → PRc ro' w cs ad j
  | [], _, _, _, _ => by simp [PRc]
  | c :: cs, ad, j, hf, h => by
    simp only [PRc] at h ⊢
    obtain ⟨⟨u, h1, h2⟩, h3⟩ := h
    refine ⟨⟨u, h1, ?_⟩, PRc.flat cs ad _ (fun c' hc => hf c' (by simp [hc])) h3⟩
    rcases hf c (by simp) with ⟨x, rfl⟩ | rfl <;> simpa [PR] using h2
theorem PRe.flat : ∀ (es : List (List AV)) (ad : Addr) (n i : Nat), (∀ e ∈ es, ∀ c ∈ e, Flat1 c) → PRe ro w es ad n i → PRe ro' w es ad n i
  | [], _, _, _, _, _ => by simp [PRe]
  | e :: es, ad, n, i, hf, h => by
    simp only [PRe] at h ⊢
    exact ⟨h.1, PRc.flat e ad _ (hf e (by simp)) h.2.1, PRe.flat es ad n _ (fun e' he => hf e' (by simp [he])) h.2.2⟩

structure Names (g g' : Gh) : Prop where
  row : ∀ b q, g.own b = .row q → g'.own b = .row q
  box : ∀ b s, g.own b = .box s → g'.own b = .box s
  rows : ∀ q, g'.row q = g.row q
  boxes : ∀ s, g'.box s = g.box s

mutual
theorem VR.flat (hn : Names g g') : ∀ (x : AV) (u : Value), Flat x → VR g w x u → VR g' w x u
  | .undef, _, _, _ => by simp [VR]
  | .v x, u, _, hu => by simpa [VR] using hu
  | .agg cs, u, hf, hu => by
    simp only [Flat, VR] at hf hu ⊢
    obtain ⟨us, h1, h2⟩ := hu
    exact ⟨us, h1, VRs.flat hn cs us.toList hf h2⟩
  | .tup cs, u, hf, hu => by
    simp only [Flat, VR] at hf hu ⊢
    obtain ⟨us, h1, h2⟩ := hu
    exact ⟨us, h1, VRs.flat hn cs us.toList hf h2⟩
  | .sl (.own r lo) n es, u, hf, hu => by
    simp only [Flat, VR, OwnSl] at hf hu ⊢
    refine ⟨hu.1, ?_⟩
    rcases hu.2 with hu | hu | ⟨cap, cur, T', h1, h2, h3, h5, h6, h7, h8⟩
    · exact .inl hu
    · exact .inr (.inl hu)
    · rw [hn.rows r]
      exact .inr (.inr ⟨cap, cur, T', h1, h2, h3, hn.row _ _ h5, h6, h7, PRe.flat es _ n 0 hf h8⟩)
  | .sl .no n es, u, hf, hu => by
    simp only [Flat, VR, PR] at hf hu ⊢
    subst hf
    obtain ⟨h1, a, cap, h2, h3, h4, h5, h6, _⟩ := hu
    exact ⟨h1, a, cap, h2, h3, h4, h5, h6, .inl rfl⟩
  | .sl .full n es, u, hf, hu => by
    simp only [Flat, VR, PR] at hf hu ⊢
    subst hf
    obtain ⟨h1, a, cap, h2, h3, h4, h5, h6, _⟩ := hu
    exact ⟨h1, a, cap, h2, h3, h4, h5, h6, .inl rfl⟩
  | .ptr s off, u, _, hu => by
    simp only [VR] at hu ⊢
    rw [hn.boxes s]; exact hu
  | .mp _, u, hf, _ => by simp [Flat] at hf
  | .ep t i cells off, u, hf, _ => by simp [Flat] at hf
  | .fn f caps, u, hf, hu => by
    simp only [Flat, VR] at hf hu ⊢
    obtain ⟨us, h1, h2⟩ := hu
    exact ⟨us, h1, VRs.flat hn caps us.toList hf h2⟩
  | .mv f caps, u, hf, hu => by
    simp only [Flat, VR] at hf hu ⊢
    obtain ⟨us, h1, h2⟩ := hu
    exact ⟨us, h1, VRs.flat hn caps us.toList hf h2⟩
  | .ifc t x, u, hf, hu => by
    simp only [Flat, VR] at hf hu ⊢
    obtain ⟨y, h1, h2⟩ := hu
    exact ⟨y, h1, VR.flat hn x y hf h2⟩
  | .hnd k r i j off m bss, u, hf, _ => by simp [Flat] at hf
  | .mem b xs, u, hf, _ => by simp [Flat] at hf
theorem VRs.flat (hn : Names g g') : ∀ (cs : List AV) (us : List Value), FlatL cs → VRs g w cs us → VRs g' w cs us
  | [], [], _, _ => by simp [VRs]
  | [], _ :: _, _, hu => by simp [VRs] at hu
  | _ :: _, [], _, hu => by simp [VRs] at hu
  | c :: cs, u :: us, hf, hu => by
    simp only [FlatL, VRs] at hf hu ⊢
    exact ⟨VR.flat hn c u hf.1 hu.1, VRs.flat hn cs us hf.2 hu.2⟩
end
end
end Go.Abs
