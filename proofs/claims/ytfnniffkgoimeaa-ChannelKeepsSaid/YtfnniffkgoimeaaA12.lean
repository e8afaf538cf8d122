/- Every step but a call is the model's. -/
import Derived.Test.YtfnniffkgoimeaaA11
set_option linter.all false
namespace Go.Abs
section
variable {C : Ctx} {A : A0} {N : Nat} {g g' : Gh} {st : St} {a : Act} {w w' : World}

theorem map_run {s : Sem Value} {P : Program} {u : Value} {w w' : World} (h : s.run P w = .ok u w') : (do pure (.value (← s)) : Sem Next).run P w = .ok (.value u) w' := by simp [h]

theorem newVar_run {P : Program} {t : TypeId} {v : Value} {w : World} : (newVar t v).run P w = .ok ⟨w.heap.size, 0, none⟩ (w.alloc (.cells v.cells t)) := by simp [newVar, newRow]

theorem VRs_map_ev (hR : R C A N g st a w) (l : List Operand) : VRs g w (l.map (ev C st)) (l.map a.eval) := by
  induction l with
  | nil => simp [VRs]
  | cons x l ih => simp only [List.map_cons, VRs]; exact ⟨hR.ev x, ih⟩

theorem natOf_spec {x : AV} {n : Nat} {u : Value} (h : natOf x = some n) (hx : VR g w x u) : ∃ k, u = .int k n := by
  unfold natOf at h
  split at h
  · rename_i k i
    split at h
    · rename_i h0
      simp at h; subst h
      simp only [VR] at hx; subst hx
      exact ⟨k, by rw [Int.toNat_of_nonneg h0]⟩
    · cases h
  · cases h

theorem bound_spec (hR : R C A N g st a w) {o : Option Operand} {b : Option Nat} (h : litBound C st o = some b) : (o.map a.eval = none ∧ b = none) ∨ (∃ n k, b = some n ∧ o.map a.eval = some (.int k n)) := by
  unfold litBound at h
  split at h
  · simp at h; subst h; exact .inl ⟨rfl, rfl⟩
  · rename_i x
    obtain ⟨n, hn, rfl⟩ := Option.map_eq_some_iff.1 h
    obtain ⟨k, hk⟩ := natOf_spec hn (hR.ev x)
    exact .inr ⟨n, k, rfl, by simp [hk]⟩

theorem sliceAt_slice {P : Program} {t e : TypeId} {x : Value} {lo hi mx : Option Value} (h : P.underlying t = some (.slice e)) : (Instr.sliceAt t x lo hi mx).run P w = (Instr.slice t x lo hi mx).run P w := by
  simp [Instr.sliceAt, run_underlying h]
theorem sliceAt_string {P : Program} {t : TypeId} {x : Value} {lo hi mx : Option Value} (h : P.underlying t = some .string) : (Instr.sliceAt t x lo hi mx).run P w = (Instr.slice t x lo hi mx).run P w := by
  simp [Instr.sliceAt, run_underlying h]

theorem elemOfSlice_spec {P : Program} {t e n : Nat} (h : elemOfSlice P t = some (e, n)) : P.underlying t = some (.slice e) ∧ szOf P e = some n := by
  unfold elemOfSlice at h
  split at h
  · rename_i e' he
    obtain ⟨n', hn', hh⟩ := Option.map_eq_some_iff.1 h
    simp only [Prod.mk.injEq] at hh
    obtain ⟨rfl, rfl⟩ := hh
    exact ⟨he, hn'⟩
  · cases h

theorem sliceOp_sound (hR : R C A N g st a w) {t : TypeId} {x : Operand} {lo hi mx : Option Operand} {z : AV} {st' : St} (h : sliceOp C st t (ev C st x) lo hi mx = some (z, st')) :
    ∃ u w' g', (Instr.sliceAt t (a.eval x) (lo.map a.eval) (hi.map a.eval) (mx.map a.eval)).run C.P w = .ok u w' ∧ R C A N g' st' a w' ∧ VR g' w' z u ∧ (((∀ r lo m es, ev C st x ≠ .sl (.own r lo) m es) ∨ mx = none) → g' = g ∧ w' = w) := by
  unfold sliceOp at h
  split at h
  · rename_i l hh m hl hhh hm
    have bl := bound_spec hR hl
    have bh := bound_spec hR hhh
    have bm := bound_spec hR hm
    split at h
    · rename_i e n hen
      obtain ⟨ht1, ht2⟩ := elemOfSlice_spec hen
      rw [sliceAt_slice ht1]
      split at h
      · rename_i es hes
        have hlen : ∀ es', elems n (ev C st x) = some es' → es'.length = es.length := fun es' h' => by rw [hes] at h'; simp at h'; rw [h']
        have hlo : ∃ kl, (lo.map a.eval = none ∧ l.getD 0 = 0) ∨ lo.map a.eval = some (.int kl (l.getD 0 : Nat)) := by
          rcases bl with ⟨h1, rfl⟩ | ⟨n', k, rfl, h1⟩
          · exact ⟨.i64, .inl ⟨h1, rfl⟩⟩
          · exact ⟨k, .inr h1⟩
        obtain ⟨kl, hlo⟩ := hlo
        split at h
        · rename_i h0 m0
          split at h
          · rename_i hmh
            subst hmh
            rcases bh with ⟨_, hc⟩ | ⟨n', kh, hc, h2⟩
            · cases hc
            · injection hc with hc; subst hc
              rcases bm with ⟨_, hc⟩ | ⟨n'', km, hc, h3⟩
              · cases hc
              · injection hc with hc; subst hc
                obtain ⟨u, g', k1, k2, k3, k4⟩ := slice_sound (full := true) (mx := mx.map a.eval) hR hen (hR.ev x) hlen hlo (.inr h2) (by simp only [if_true]; exact h3) (fun _ => h2) h
                exact ⟨u, w, g', k1, k2, k3, fun hp => ⟨k4 (hp.imp id fun hm => by subst hm; simp at h3), rfl⟩⟩
          · cases h
        · rename_i h0
          rcases bh with ⟨_, hc⟩ | ⟨n', kh, hc, h2⟩
          · cases hc
          · injection hc with hc; subst hc
            rcases bm with ⟨h3, _⟩ | ⟨_, _, hc, _⟩
            · obtain ⟨u, g', k1, k2, k3, k4⟩ := slice_sound (full := false) (mx := mx.map a.eval) (km := .i64) hR hen (hR.ev x) hlen hlo (.inr h2) (by rw [h3]; rfl) (fun h => by cases h) h
              exact ⟨u, w, g', k1, k2, k3, fun _ => ⟨k4 (.inr rfl), rfl⟩⟩
            · cases hc
        · rcases bh with ⟨h2, _⟩ | ⟨_, _, hc, _⟩
          · rcases bm with ⟨h3, _⟩ | ⟨_, _, hc, _⟩
            · obtain ⟨u, g', k1, k2, k3, k4⟩ := slice_sound (full := false) (mx := mx.map a.eval) (kh := .i64) (km := .i64) hR hen (hR.ev x) hlen hlo (.inl ⟨h2, rfl⟩) (by rw [h3]; rfl) (fun h => by cases h) h
              exact ⟨u, w, g', k1, k2, k3, fun _ => ⟨k4 (.inr rfl), rfl⟩⟩
            · cases hc
          · cases hc
        · cases h
      · cases h
    · split at h
      · rename_i s hxs
        split at h
        · rename_i hc
          simp at h; obtain ⟨rfl, rfl⟩ := h
          obtain ⟨hs, h1, h2⟩ := hc
          have hst := strT_spec hs
          rw [sliceAt_string hst]
          have hxv := hR.ev x
          rw [hxs] at hxv
          simp only [VR] at hxv
          rw [hxv]
          have e3 : mx.map a.eval = none := by
            rcases bm with ⟨h3, _⟩ | ⟨_, _, hc, _⟩
            · exact h3
            · cases hc
          rw [e3]
          refine ⟨.string (s.extract (l.getD 0) (hh.getD s.size)), w, g, ?_, hR, by simp only [VR], fun _ => ⟨rfl, rfl⟩⟩
          rcases bl with ⟨e1, rfl⟩ | ⟨n1, k1, rfl, e1⟩ <;> rcases bh with ⟨e2, rfl⟩ | ⟨n2, k2, rfl, e2⟩ <;> rw [e1, e2] <;> simp only [Option.getD_none, Option.getD_some] at h1 h2 ⊢
          · simp [Instr.slice, run_underlying hst, Instr.sliceBounds]
          · have b := run_sliceBound (P := C.P) (w := w) k2 n2 s.size .sliceAlen (by omega) (by omega)
            simp [Instr.slice, run_underlying hst, Instr.sliceBounds, b]
          · have b := run_sliceBound (P := C.P) (w := w) k1 n1 s.size .sliceB (by omega) (by omega)
            simp [Instr.slice, run_underlying hst, Instr.sliceBounds, b]
          · have b := run_sliceBound (P := C.P) (w := w) k2 n2 s.size .sliceAlen (by omega) (by omega)
            have b' := run_sliceBound (P := C.P) (w := w) k1 n1 n2 .sliceB (by omega) (by omega)
            simp only [Int.toNat_natCast] at b b'
            simp [Instr.slice, run_underlying hst, Instr.sliceBounds, b, b']
        · cases h
      · cases h
  · cases h

theorem mapM_places {P : Program} (fs : List Field) (h : ∀ f ∈ fs, (szOf P f.type).isSome) : (fs.mapM fun f => (do pure (f.offset, ← sizeOf f.type) : Sem (Nat × Nat))).run P w = .ok (fs.map fun f => (f.offset, (szOf P f.type).getD 0)) w := by
  induction fs with
  | nil => simp
  | cons f fs ih =>
    have hf := h f (by simp)
    obtain ⟨n, hn⟩ := Option.isSome_iff_exists.1 hf
    rw [List.mapM_cons]
    simp only [Sem.run_bind, run_sizeOf hn, Result.andThen_ok, Sem.run_pure, ih (fun f' hf' => h f' (by simp [hf'])), List.map_cons, hn, Option.getD_some]

theorem fill_congr (p q : Nat → Option (Nat × Nat)) : ∀ (l : List (Nat × Value)) (cs : Array Value), (∀ x ∈ l, p x.1 = q x.1) → Instr.fill p cs l = Instr.fill q cs l
  | [], _, _ => rfl
  | (i, v) :: l, cs, h => by
    have h0 := h (i, v) (by simp)
    simp only at h0
    simp only [Instr.fill, h0]
    split
    · rfl
    · split
      · rfl
      · exact fill_congr p q l _ fun x hx => h x (by simp [hx])

theorem build_sound {P : Program} {t : TypeId} {zs : List Value} (hz : zeroOf P t = some zs) (hag : aggOf P t = some true) (hsz : sized P t = true) {ps : List (Nat × AV)} {pv : List (Nat × Value)}
    (h1 : ps.map (·.1) = pv.map (·.1)) (h2 : VRs g w (ps.map (·.2)) (pv.map (·.2))) {L : List AV} (hf : fillA (placeOf P t) (vals zs) ps = some L) :
    ∃ u, (Instr.build t pv.toArray).run P w = .ok u w ∧ VR g w (.agg L) u := by
  have hzz : ∃ i z, P.info? t = some i ∧ i.zero = some z ∧ zs = z.cells.toList := by
    unfold zeroOf at hz
    obtain ⟨z, hz1, hz2⟩ := Option.map_eq_some_iff.1 hz
    obtain ⟨i, hi, hiz⟩ := Option.bind_eq_some_iff.1 hz1
    exact ⟨i, z, hi, hiz, hz2.symm⟩
  obtain ⟨i, z, hi, hiz, rfl⟩ := hzz
  obtain ⟨cur, k1, k2⟩ := fill_sound (placeOf P t) ps pv (vals z.cells.toList) z.cells L h1 h2 (VRs_vals _) hf
  refine ⟨.agg cur, ?_, cur, rfl, k2⟩
  unfold sized at hsz
  split at hsz
  · rename_i fs hu
    have hall : ∀ f ∈ fs.toList, (szOf P f.type).isSome := fun f hf => List.all_eq_true.1 hsz f hf
    have hmm : (fs.mapM fun f => (do pure (f.offset, ← sizeOf f.type) : Sem (Nat × Nat))).run P w = .ok (fs.toList.map fun f => (f.offset, (szOf P f.type).getD 0)).toArray w := by
      have e := Array.mapM_eq_mapM_toList (m := Sem) (xs := fs) (f := fun f => (do pure (f.offset, ← sizeOf f.type) : Sem (Nat × Nat)))
      rw [e]
      simp only [Sem.run_map, mapM_places _ hall, Result.andThen_ok]
    have hp : ∀ i, ((fs.toList.map fun f => (f.offset, (szOf P f.type).getD 0)).toArray)[i]? = placeOf P t i := fun i => by
      simp only [placeOf, hu, List.getElem?_toArray, List.getElem?_map, Array.getElem?_toList]
      cases hfi : fs[i]? with
      | none => rfl
      | some f =>
        have hm : f ∈ fs.toList := by
          rw [← Array.getElem?_toList] at hfi
          exact List.mem_of_getElem? hfi
        obtain ⟨n, hn⟩ := Option.isSome_iff_exists.1 (hall f hm)
        simp [hn]
    have hf2 := fill_congr (fun i => ((fs.toList.map fun f => (f.offset, (szOf P f.type).getD 0)).toArray)[i]?) (placeOf P t) pv z.cells (fun x _ => hp x.1)
    rw [k1] at hf2
    unfold Instr.build
    simp only [Sem.run_bind, zeroValue, run_typeInfo hi, Result.andThen_ok, hiz, Sem.run_pure, run_underlying hu, hmm, hf2]
  · rename_i n e hu
    obtain ⟨m, hm⟩ := Option.isSome_iff_exists.1 hsz
    have hp : ∀ i, (some (i * m, m) : Option (Nat × Nat)) = placeOf P t i := fun i => by simp [placeOf, hu, hm]
    have hf2 := fill_congr (fun i => some (i * m, m)) (placeOf P t) pv z.cells (fun x _ => hp x.1)
    rw [k1] at hf2
    unfold Instr.build
    simp only [Sem.run_bind, zeroValue, run_typeInfo hi, Result.andThen_ok, hiz, Sem.run_pure, run_underlying hu, run_sizeOf hm, hf2]
  · cases hsz

theorem fieldV_sound {P : Program} {t : TypeId} {i : Nat} {x z : AV} {ux : Value} (hx : VR g w x ux) (h : fieldV P t i x = some z) : ∃ u, (Instr.field t ux i).run P w = .ok u w ∧ VR g w z u := by
  unfold fieldV at h
  split at h
  · rename_i cs
    simp only [VR] at hx
    obtain ⟨us, rfl, hv⟩ := hx
    split at h
    · rename_i fs hu
      split at h
      · rename_i f hf
        split at h
        · rename_i agg n h1 h2
          split at h
          · rename_i hle
            have hlen : cs.length = us.toList.length := VRs.length hv
            have hsub := VRs.take n (VRs.drop f.offset hv)
            have hl : ((cs.drop f.offset).take n).length = n := by simp; omega
            unfold Instr.field
            simp only [Sem.run_bind, run_underlying hu, Result.andThen_ok, hf, asAgg, Sem.run_pure, part, run_isAgg h1]
            cases agg with
            | true =>
              simp only [mkA, if_true, Option.some.injEq] at h
              subst h
              simp only [if_true, Sem.run_bind, run_sizeOf h2, Result.andThen_ok, Sem.run_pure]
              refine ⟨_, rfl, _, rfl, ?_⟩
              simpa [List.drop_take, Nat.add_sub_cancel_left] using hsub
            | false =>
              simp only [mkA, Bool.false_eq_true, if_false] at h
              split at h
              · rename_i c hc
                simp at h; subst h
                rw [hc] at hsub
                match hus : (us.toList.drop f.offset).take n, hsub with
                | [u], hsub =>
                  simp only [VRs] at hsub
                  have h0 : us[f.offset]? = some u := by
                    have : ((us.toList.drop f.offset).take n)[0]? = some u := by rw [hus]; rfl
                    rw [List.getElem?_take] at this
                    split at this
                    · rw [List.getElem?_drop] at this; simpa using this
                    · cases this
                  simp only [Bool.false_eq_true, if_false, h0, Sem.run_pure]
                  exact ⟨u, rfl, hsub.1⟩
                | [], hsub => simp [VRs] at hsub
                | _ :: _ :: _, hsub => simp [VRs] at hsub
              · cases h
          · cases h
        · cases h
      · cases h
    · cases h
  · cases h
end
end Go.Abs
