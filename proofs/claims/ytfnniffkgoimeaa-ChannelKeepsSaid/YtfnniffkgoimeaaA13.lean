/- Every step but a call is the model's: all together. -/
import Derived.Test.YtfnniffkgoimeaaA12
set_option linter.all false
namespace Go.Abs
section
variable {C : Ctx} {A : A0} {N : Nat} {g g' : Gh} {st st' : St} {a : Act} {w w' : World}

def Steps (C : Ctx) (A : A0) (N : Nat) (o : Oper) (a : Act) (w : World) (x : AV) (st' : St) : Prop :=
  ∃ u w' g', Does C.P o a w u w' ∧ R C A N g' st' a w' ∧ VR g' w' x u

theorem Steps.pure (hR : R C A N g st a w) {o : Oper} {x : AV} {s : Sem Value} (ho : execOp a.eval o = (do Pure.pure (Next.value (← s)))) (h : ∃ u, s.run C.P w = .ok u w ∧ VR g w x u) : Steps C A N o a w x st := by
  obtain ⟨u, h1, h2⟩ := h
  exact ⟨u, w, g, does_pure ho h1, hR, h2⟩
theorem Steps.of {o : Oper} {x : AV} {s : Sem Value} (ho : execOp a.eval o = (do Pure.pure (Next.value (← s)))) (h : ∃ u w' g', s.run C.P w = .ok u w' ∧ R C A N g' st' a w' ∧ VR g' w' x u) : Steps C A N o a w x st' := by
  obtain ⟨u, w', g', h1, h2, h3⟩ := h
  exact ⟨u, w', g', does_pure ho h1, h2, h3⟩
theorem map_pair {α : Type} {m : Option α} {f : α → AV} {st st' : St} {x : AV} (h : (m.map fun y => (f y, st)) = some (x, st')) : ∃ y, m = some y ∧ f y = x ∧ st' = st := by
  cases m with
  | none => cases h
  | some y => simp at h; exact ⟨y, rfl, h.1, h.2.symm⟩

theorem nil_sound {x r : AV} {ux : Value} (hx : VR g w x ux) (h : nilA x = some r) {o : Oper} {y : Operand} (ho : o.op = .nilCheck y) (hy : a.eval y = ux) : (execOp a.eval o).run C.P w = .ok (.value ux) w ∧ VR g w r ux := by
  unfold nilA at h
  split at h
  · simp at h; subst h
    refine ⟨?_, hx⟩
    simp only [VR] at hx
    subst hx
    simp [execOp, ho, hy]
  · simp at h; subst h
    refine ⟨?_, hx⟩
    have : ∃ ad, ux = .pointer (some ad) := by
      simp only [VR] at hx
      unfold EpAt at hx
      split at hx
      · obtain ⟨_, _, hx, _⟩ := hx; exact ⟨_, hx⟩
      · obtain ⟨_, hx, _⟩ := hx; exact ⟨_, hx⟩
    obtain ⟨ad, rfl⟩ := this
    simp [execOp, ho, hy]
  · simp at h; subst h
    refine ⟨?_, hx⟩
    simp only [VR] at hx
    obtain ⟨us, hx, _⟩ := hx
    subst hx
    simp [execOp, ho, hy]
  · cases h

theorem map_parts (a : Act) (ps : Array (Nat × Operand)) (f : Nat × Operand → Nat × Value) (h : ∀ i x, f (i, x) = (i, a.eval x)) : ps.map f = (ps.toList.map fun p => (p.1, a.eval p.2)).toArray := by
  have : f = fun p => (p.1, a.eval p.2) := funext fun ⟨i, x⟩ => h i x
  subst this
  cases ps; simp
theorem exec_build (ρ : Act) {o : Oper} {t : TypeId} {ps : Array (Nat × Operand)} (ho : o.op = .build t ps) : execOp ρ.eval o = (do Pure.pure (Next.value (← Instr.build t (ps.toList.map fun p => (p.1, ρ.eval p.2)).toArray))) := by
  unfold execOp
  rw [ho]
  dsimp only
  rw [map_parts ρ ps _ (fun _ _ => rfl)]
theorem exec_buildSlice (ρ : Act) {o : Oper} {t : TypeId} {len : Nat} {ps : Array (Nat × Operand)} (ho : o.op = .buildSlice t len ps) : execOp ρ.eval o = (do Pure.pure (Next.value (← Instr.buildSlice t len (ps.toList.map fun p => (p.1, ρ.eval p.2)).toArray))) := by
  unfold execOp
  rw [ho]
  dsimp only
  rw [map_parts ρ ps _ (fun _ _ => rfl)]
theorem VRs_parts (hR : R C A N g st a w) (ps : Array (Nat × Operand)) : VRs g w ((parts C st ps).map (·.2)) ((ps.toList.map fun p => (p.1, a.eval p.2)).map (·.2)) := by
  have := VRs_map_ev hR (ps.toList.map (·.2))
  simpa [parts, List.map_map, Function.comp_def] using this

theorem killL_vals' (S T : List Nat) : ∀ zs : List Value, killL S T (vals zs) = vals zs
  | [] => rfl
  | z :: zs => by
    have := killL_vals' S T zs
    simp only [vals, List.map_cons, killL, AV.kill] at this ⊢
    rw [this]
theorem exec_builtin (ρ : Act) {o : Oper} {b : Builtin} {xs : Array Operand} {ts : Array TypeId} (ho : o.op = .call { callee := .builtin b, args := xs, argTypes := ts }) : ∃ consts, execOp ρ.eval o = builtin b ts o.type consts (xs.map ρ.eval) := by
  refine ⟨xs.map fun | .const _ => true | _ => false, ?_⟩
  unfold execOp
  rw [ho]
  rfl

theorem len_sound' {t ty : TypeId} {x r : AV} {ux : Value} {P : Program} (ht : lenOk P t x = true) (hx : VR g w x ux) (h : lenA x = some r) : ∃ u, (Builtin.len_ #[t] ty #[ux]).run P w = .ok u w ∧ VR g w r u := by
  by_cases hs : ∃ s, x = .v (.string s)
  · have : strT P t = true := by obtain ⟨s, rfl⟩ := hs; exact ht
    exact len_sound (.inr this) hx h (fun _ => this) (fun hn => (hn hs).elim)
  · have : isSliceT P t = true := by
      unfold lenOk at ht
      split at ht
      · exact (hs ⟨_, rfl⟩).elim
      · exact ht
    exact len_sound (.inl this) hx h (fun h => (hs h).elim) (fun _ => this)

theorem arr1 {α : Type} {a : Array α} {x : α} (h : a.toList = [x]) : a = #[x] := by cases a; simp_all
theorem arr2 {α : Type} {a : Array α} {x y : α} (h : a.toList = [x, y]) : a = #[x, y] := by cases a; simp_all

theorem builtinV_sound (hR : R C A N g st a w) {o : Oper} {b : Builtin} {xs : Array Operand} {ts : Array TypeId} {consts : Array Bool} (he : execOp a.eval o = builtin b ts o.type consts (xs.map a.eval)) {x : AV}
    (h : builtinV C o.dst b xs.toList ts.toList st = some (x, st')) : Steps C A N o a w x st' := by
  unfold builtinV at h
  split at h
  · split at h
    · rename_i y t hy ht
      split at h
      · rename_i hok
        obtain ⟨r, h1, rfl, rfl⟩ := map_pair h
        refine .pure hR he ?_
        rw [arr1 hy, arr1 ht]
        simp only [List.map_toArray, List.map_cons, List.map_nil]
        exact len_sound' hok (hR.ev y) h1
      · cases h
    · cases h
  · split at h
    · rename_i d y z t t2 hd hy ht
      split at h
      · rename_i e n b hr
        split at h
        · rename_i hs
          refine .of he ?_
          rw [arr2 hy, arr2 ht]
          simp only [List.map_toArray, List.map_cons, List.map_nil]
          exact append_sound hR hr hs (hR.ev y) (hR.ev z) h
        · cases h
      · cases h
    · cases h
  · split at h
    · rename_i y z hy
      split at h
      · rename_i k p k' q hp hq
        have h' := Option.some.inj h
        obtain ⟨rfl, rfl⟩ := Prod.mk.inj h'
        have e1 := hR.ev y; have e2 := hR.ev z
        rw [hp] at e1; rw [hq] at e2
        simp only [VR] at e1 e2
        refine .pure hR he ⟨_, ?_, by simp only [VR]; rfl⟩
        rw [arr2 hy]
        simp [Builtin.max_, Builtin.max2, e1, e2]
      · cases h
    · cases h
  · split at h
    · rename_i y z hy
      split at h
      · rename_i k p k' q hp hq
        have h' := Option.some.inj h
        obtain ⟨rfl, rfl⟩ := Prod.mk.inj h'
        have e1 := hR.ev y; have e2 := hR.ev z
        rw [hp] at e1; rw [hq] at e2
        simp only [VR] at e1 e2
        refine .pure hR he ⟨_, ?_, by simp only [VR]; rfl⟩
        rw [arr2 hy]
        simp [Builtin.min_, Builtin.min2, e1, e2]
      · cases h
    · cases h
  · cases h

theorem stepV_sound (hR : R C A N g st a w) {o : Oper} (hext : ∀ d, o.dst = some d → nm d ∉ A.ext) {x : AV} (h : stepV C o st = some (x, st')) : Steps C A N o a w x st' := by
  obtain ⟨dst, op, ty, after, x2, x3⟩ := o
  simp only at hext
  cases op <;> simp only [stepV] at h
  case move y => simp at h; obtain ⟨rfl, rfl⟩ := h; exact ⟨_, w, g, .inl rfl, hR, hR.ev y⟩
  case assign y => simp at h; obtain ⟨rfl, rfl⟩ := h; exact ⟨_, w, g, .inl rfl, hR, hR.ev y⟩
  case pick c y z =>
    obtain ⟨r, h1, rfl, rfl⟩ := map_pair h
    obtain ⟨u, k1, k2⟩ := pick_sound (P := C.P) (hR.ev c) (hR.ev y) (hR.ev z) h1
    exact ⟨u, w, g, .inl k1, hR, k2⟩
  case alloc t =>
    split at h
    · rename_i d zs hz
      have h' := Option.some.inj h
      obtain ⟨rfl, rfl⟩ := Prod.mk.inj h'
      have hzz : ∃ z, (zeroValue t).run C.P w = .ok z w ∧ zs = z.cells.toList := by
        unfold zeroOf at hz
        obtain ⟨z, hz1, hz2⟩ := Option.map_eq_some_iff.1 hz
        obtain ⟨i, hi, hiz⟩ := Option.bind_eq_some_iff.1 hz1
        exact ⟨z, by simp [zeroValue, run_typeInfo hi, hiz], hz2.symm⟩
      obtain ⟨z, hz1, rfl⟩ := hzz
      have hk : killL [] [nm d] (vals z.cells.toList) = vals z.cells.toList := killL_vals' [] [nm d] _
      have hb := hR.newBox (nm d) (hext d rfl) z.cells t (vals z.cells.toList) (VRs_vals _)
      rw [hk] at hb
      refine .of (s := Instr.alloc t true (.tuple #[])) rfl ⟨.pointer (some ⟨w.heap.size, 0, none⟩), _, _, ?_, hb, ?_⟩
      · simp [Instr.alloc, hz1, newVar_run]
      · simp [VR, Gh.newBox]
    · cases h
  case box t y =>
    split at h
    · rename_i d
      split at h
      · rename_i hok
        have h' := Option.some.inj h
        obtain ⟨rfl, rfl⟩ := Prod.mk.inj h'
        have hb := hR.newBox (nm d) (hext d rfl) (a.eval y).cells t (ev C st y).cells (VR.cells (hR.ev y) hok)
        refine .of (s := Instr.box t (a.eval y)) rfl ⟨.pointer (some ⟨w.heap.size, 0, none⟩), _, _, ?_, hb, ?_⟩
        · simp [Instr.box, newVar_run]
        · simp [VR, Gh.newBox]
      · cases h
    · cases h
  case load t p =>
    split at h
    · rename_i agg n h1 h2
      obtain ⟨r, h3, rfl, rfl⟩ := map_pair h
      exact .pure hR rfl (load_sound hR h1 h2 (hR.ev p) h3)
    · cases h
  case store t p y =>
    split at h
    · rename_i n hd h2
      obtain ⟨r, h3, h4⟩ := Option.map_eq_some_iff.1 h
      simp at h4; obtain ⟨rfl, rfl⟩ := h4
      obtain ⟨w', g', k1, k2⟩ := store_sound hR h2 (hR.ev p) (hR.ev y) h3
      exact ⟨undef, w', g', .inr ⟨by simp [execOp, k1], rfl⟩, k2, by simp [VR]⟩
    · cases h
  case fieldAddr t p i =>
    split at h
    · rename_i off h1
      obtain ⟨r, h3, rfl, rfl⟩ := map_pair h
      exact .pure hR rfl (field_sound h1 (hR.ev p) h3)
    · cases h
  case indexAddr t p i =>
    split at h
    · rename_i k ki hi
      have hiv := hR.ev i
      rw [hi] at hiv
      simp only [VR] at hiv
      split at h
      · rename_i e n he
        obtain ⟨r, h3, rfl, rfl⟩ := map_pair h
        exact .pure hR rfl (by rw [hiv]; exact indexS_sound he (hR.ev p) h3)
      · split at h
        · rename_i len n he
          obtain ⟨r, h3, rfl, rfl⟩ := map_pair h
          exact .pure hR rfl (by rw [hiv]; exact indexR_sound he (hR.ev p) h3)
        · cases h
    · cases h
  case nilCheck y =>
    obtain ⟨r, h1, rfl, rfl⟩ := map_pair h
    have := nil_sound (C := C) (a := a) (hR.ev y) h1 (o := ⟨dst, .nilCheck y, ty, after, x2, x3⟩) rfl rfl
    exact ⟨_, w, g, .inl this.1, hR, this.2⟩
  case binOp op t y z _ =>
    obtain ⟨r, h1, rfl, rfl⟩ := map_pair h
    exact .pure hR rfl (bin_sound (hR.ev y) (hR.ev z) h1)
  case unOp op t y =>
    obtain ⟨r, h1, rfl, rfl⟩ := map_pair h
    exact .pure hR rfl (un_sound (hR.ev y) h1)
  case convert s d y => exact .of rfl (conv_sound hR (hR.ev y) h)
  case extract y i =>
    split at h
    · rename_i cs hc
      obtain ⟨r, h1, rfl, rfl⟩ := map_pair h
      have hy := hR.ev y
      rw [hc] at hy
      simp only [VR] at hy
      obtain ⟨us, hu, hv⟩ := hy
      obtain ⟨u, h2, h3⟩ := VRs.get hv i _ h1
      refine .pure hR (s := Instr.extract (a.eval y) i) rfl ⟨u, ?_, h3⟩
      rw [hu]
      have : us[i]? = some u := by simpa using h2
      simp [Instr.extract, this]
    · cases h
  case field t y i =>
    obtain ⟨r, h1, rfl, rfl⟩ := map_pair h
    exact .pure hR rfl (fieldV_sound (hR.ev y) h1)
  case build t ps =>
    split at h
    · rename_i zs hz ha
      split at h
      · rename_i hs
        obtain ⟨r, h1, rfl, rfl⟩ := map_pair h
        exact .pure hR (exec_build a rfl) (build_sound hz ha hs (by simp [parts]) (VRs_parts hR ps) h1)
      · cases h
    · cases h
  case buildSlice t len ps =>
    split at h
    · rename_i d e n b hd hr
      split at h
      · rename_i zs hz
        exact .of (exec_buildSlice a rfl) (lit_sound hR hr hz (by simp [parts]) (VRs_parts hR ps) h)
      · cases h
    · cases h
  case makeSlice t l c =>
    split at h
    · rename_i d e n b kl lv kc cv hd hr hl hc
      split at h
      · rename_i zs hz
        have h1 := hR.ev l
        have h2 := hR.ev c
        rw [hl] at h1; rw [hc] at h2
        simp only [VR] at h1 h2
        refine .of (s := Instr.makeSlice t (a.eval l) (a.eval c)) rfl ?_
        rw [h1, h2]
        exact make_sound hR hr hz h
      · cases h
    · cases h
  case slice t y lo hi mx =>
    obtain ⟨u, w', g', k1, k2, k3, _⟩ := sliceOp_sound hR h
    exact .of rfl ⟨u, w', g', k1, k2, k3⟩
  case makeFunc fn first caps =>
    split at h
    · rename_i f hf
      have h' := Option.some.inj h
      obtain ⟨rfl, rfl⟩ := Prod.mk.inj h'
      refine .pure hR (s := Instr.makeFunc (.func f) (first.map a.eval) (caps.map a.eval)) rfl ⟨_, rfl, ?_⟩
      have hf0 : first = #[] := by
        cases first; simp_all
      subst hf0
      simp only [VR]
      refine ⟨_, by simp; rfl, ?_⟩
      have := VRs_map_ev hR caps.toList
      simpa using this
    · cases h
  case makeInterface t y =>
    split at h
    · rename_i hc
      have h' := Option.some.inj h
      obtain ⟨rfl, rfl⟩ := Prod.mk.inj h'
      refine .pure hR rfl ⟨_, run_makeInterface w t _ hc, ?_⟩
      simp only [VR]
      exact ⟨_, rfl, hR.ev y⟩
    · cases h
  case call c =>
    split at h
    · rename_i b hb
      obtain ⟨callee, args, argTypes⟩ := c
      simp only at hb; subst hb
      obtain ⟨consts, he⟩ := exec_builtin a (o := ⟨dst, .call { callee := .builtin b, args, argTypes }, ty, after, x2, x3⟩) rfl
      exact builtinV_sound hR he h
    · cases h
  all_goals (cases h)
end
end Go.Abs
