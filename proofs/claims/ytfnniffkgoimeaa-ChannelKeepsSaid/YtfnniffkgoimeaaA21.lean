/- Operations that leave memory alone. -/
import Derived.Test.YtfnniffkgoimeaaA20
set_option linter.all false
namespace Go.Abs

def convP (P : Program) (src dst : TypeId) : AV → Option AV
  | .v (.int _ n) => match intT P src, intT P dst with
    | some _, some k => some (.v (.int k (k.wrap n)))
    | _, _ => none
  | .v (.string s) => if strT P src ∧ strT P dst then some (.v (.string s)) else none
  | .v (.slice none 0 0) => if isBytesT P src ∧ strT P dst then some (.v (.string ⟨#[]⟩)) else none
  | .sl _ n es => if n = 1 ∧ isBytesT P src ∧ strT P dst then (unbytes es).map fun l => .v (.string ⟨l.toArray⟩) else none
  | _ => none

def isOwnSl : AV → Bool
  | .sl (.own _ _) _ _ => true
  | _ => false

def funcV : Fn → List Operand → Option Nat
  | .func f, [] => some f
  | _, _ => none

def builtinP (C : Ctx) (b : Builtin) (xs : List Operand) (ts : List TypeId) (st : St) : Option AV :=
  match b with
  | .len => match xs, ts with
    | [x], [t] => if lenOk C.P t (ev C st x) = true then lenA (ev C st x) else none
    | _, _ => none
  | .max => match xs with
    | [x, y] => maxA (ev C st x) (ev C st y)
    | _ => none
  | .min => match xs with
    | [x, y] => minA (ev C st x) (ev C st y)
    | _ => none
  | _ => none

def pureV (C : Ctx) (o : Oper) (st : St) : Option AV :=
  match o.op with
  | .move x => some (ev C st x)
  | .assign x => some (ev C st x)
  | .pick c a b => pickA (ev C st c) (ev C st a) (ev C st b)
  | .load t a => loadV C t (ev C st a) st.objs
  | .fieldAddr t x i => match offOf C.P t i with
    | some off => fieldA off (ev C st x)
    | none => none
  | .indexAddr t x i => indexV C t (ev C st x) (ev C st i)
  | .nilCheck x => nilA (ev C st x)
  | .binOp op t x y _ => binA C.P op t (ev C st x) (ev C st y)
  | .unOp op _ x => unA op (ev C st x)
  | .convert src dst x => convP C.P src dst (ev C st x)
  | .extract x i => extractA i (ev C st x)
  | .field t x i => fieldV C.P t i (ev C st x)
  | .build t ps => buildV C t (partsL C st ps.toList)
  | .slice t x lo hi mx => if isOwnSl (ev C st x) && mx.isSome then none else (sliceOp C st t (ev C st x) lo hi mx).map (·.1)
  | .makeFunc fn first caps => (funcV fn first.toList).map fun f => .fn f (evs C st caps.toList)
  | .makeInterface t x => if C.P.concrete t then some (.ifc t (ev C st x)) else none
  | .call c => match c.callee with
    | .builtin b => builtinP C b c.args.toList c.argTypes.toList st
    | _ => none
  | _ => none

section
variable {C : Ctx} {A : A0} {N : Nat} {g g' : Gh} {st st' : St} {a : Act} {w w' : World} {P : Program}

theorem convP_sound {src dst : TypeId} {x r : AV} {ux : Value} (hx : VR g w x ux) (h : convP P src dst x = some r) : ∃ u, (convert src dst ux).run P w = .ok u w ∧ VR g w r u := by
  unfold convP at h
  split at h
  · simp only [VR] at hx; subst hx
    split at h
    · rename_i k1 k2 h1 h2
      simp at h; subst h
      refine ⟨.int k2 (k2.wrap _), ?_, by simp only [VR]; rfl⟩
      simp [convert, run_underlying (intT_spec h1), run_underlying (intT_spec h2), Conv.intToInt]
    · cases h
  · simp only [VR] at hx; subst hx
    split at h
    · rename_i hc
      simp at h; subst h
      exact ⟨_, by simp [convert, run_underlying (strT_spec hc.1), run_underlying (strT_spec hc.2)]; rfl, by simp [VR]⟩
    · cases h
  · simp only [VR] at hx; subst hx
    split at h
    · rename_i hc
      simp at h; subst h
      obtain ⟨e, h1, h2, h3⟩ := isBytesT_spec hc.1
      exact ⟨.string .empty, by simp [convert, run_underlying h1, run_underlying h2, run_underlying (strT_spec hc.2), Conv.bytesToString], by simp [VR]; rfl⟩
    · cases h
  · rename_i t n es
    split at h
    · rename_i hc
      obtain ⟨rfl, hc⟩ := hc
      obtain ⟨l, hl, rfl⟩ := Option.map_eq_some_iff.1 h
      obtain ⟨e, h1, h2, h3⟩ := isBytesT_spec hc.1
      obtain ⟨us, hs, hp, _⟩ := elems_src (n := 1) (es := es) (by omega) (by simp [elems]) hx
      obtain ⟨ns, rfl, rfl⟩ := unbytes_vals hl hp
      obtain ⟨hlen, hsrc⟩ := hs
      refine ⟨.string ⟨(ns.map (fun n => UInt8.ofNat n.toNat)).toArray⟩, ?_, by simp only [VR]⟩
      rcases hsrc with ⟨ad, c, rfl, hcell⟩ | ⟨h0, c, rfl⟩
      · rw [run_convert_bytes_string w src dst e _ _ _ h1 h2 (strT_spec hc.2)]
        have hlc : (loadCells ad es.length).run P w = .ok (ns.map (Value.int .u8)).toArray w := by
          have := run_loadCells_list (P := P) w ad (ns.map (Value.int .u8)) hcell
          rwa [hlen, Nat.mul_one] at this
        rw [run_bytesToString w ad es.length c ns hlc, foldl_push]
        simp [ByteArray.empty, ByteArray.emptyWithCapacity]
        try rfl
      · have : ns = [] := by
          have : ns.length = 0 := by simpa [h0] using hlen
          exact List.eq_nil_of_length_eq_zero this
        subst this
        simp [convert, run_underlying h1, run_underlying h2, run_underlying (strT_spec hc.2), Conv.bytesToString]
        rfl
    · cases h
  · cases h

/-- an operation that leaves memory alone -/
def PureOK (C : Ctx) (o : Oper) (a : Act) (g : Gh) (w : World) (x : AV) : Prop := ∃ u, Does C.P o a w u w ∧ VR g w x u

theorem PureOK.of {o : Oper} {x : AV} {s : Sem Value} (ho : execOp a.eval o = (do Pure.pure (Next.value (← s)))) (h : ∃ u, s.run C.P w = .ok u w ∧ VR g w x u) : PureOK C o a g w x := by
  obtain ⟨u, h1, h2⟩ := h
  exact ⟨u, does_pure ho h1, h2⟩

theorem maxA_sound {x y r : AV} {ux uy : Value} {ts : Array TypeId} {ty : TypeId} (hx : VR g w x ux) (hy : VR g w y uy) (h : maxA x y = some r) : ∃ u, (Builtin.max_ ts ty #[ux, uy]).run P w = .ok u w ∧ VR g w r u := by
  unfold maxA at h
  split at h
  · simp only [VR] at hx hy; subst hx; subst hy
    have h' := Option.some.inj h; subst h'
    exact ⟨_, by simp [Builtin.max_, Builtin.max2]; rfl, by simp only [VR]⟩
  · cases h
theorem minA_sound {x y r : AV} {ux uy : Value} {ts : Array TypeId} {ty : TypeId} (hx : VR g w x ux) (hy : VR g w y uy) (h : minA x y = some r) : ∃ u, (Builtin.min_ ts ty #[ux, uy]).run P w = .ok u w ∧ VR g w r u := by
  unfold minA at h
  split at h
  · simp only [VR] at hx hy; subst hx; subst hy
    have h' := Option.some.inj h; subst h'
    exact ⟨_, by simp [Builtin.min_, Builtin.min2]; rfl, by simp only [VR]⟩
  · cases h

theorem builtinP_sound (hR : R C A N g st a w) {o : Oper} {b : Builtin} {xs : Array Operand} {ts : Array TypeId} {consts : Array Bool} (he : execOp a.eval o = builtin b ts o.type consts (xs.map a.eval)) {x : AV}
    (h : builtinP C b xs.toList ts.toList st = some x) : PureOK C o a g w x := by
  unfold builtinP at h
  split at h
  · split at h
    · rename_i y t hy ht
      split at h
      · rename_i hok
        refine .of he ?_
        rw [arr1 hy, arr1 ht]
        simp only [List.map_toArray, List.map_cons, List.map_nil]
        exact len_sound' hok (hR.ev y) h
      · cases h
    · cases h
  · split at h
    · rename_i y z hy
      refine .of he ?_
      rw [arr2 hy]
      simp only [List.map_toArray, List.map_cons, List.map_nil]
      exact maxA_sound (hR.ev y) (hR.ev z) h
    · cases h
  · split at h
    · rename_i y z hy
      refine .of he ?_
      rw [arr2 hy]
      simp only [List.map_toArray, List.map_cons, List.map_nil]
      exact minA_sound (hR.ev y) (hR.ev z) h
    · cases h
  · cases h

theorem pureV_sound (hR : R C A N g st a w) {o : Oper} {x : AV} (h : pureV C o st = some x) : PureOK C o a g w x := by
  obtain ⟨dst, op, ty, after, x2, x3⟩ := o
  cases op <;> simp only [pureV] at h
  case move y => simp at h; subst h; exact ⟨_, .inl rfl, hR.ev y⟩
  case assign y => simp at h; subst h; exact ⟨_, .inl rfl, hR.ev y⟩
  case pick c y z =>
    obtain ⟨u, k1, k2⟩ := pick_sound (P := C.P) (hR.ev c) (hR.ev y) (hR.ev z) h
    exact ⟨u, .inl k1, k2⟩
  case load t p =>
    unfold loadV at h
    split at h
    · rename_i agg n h1 h2
      exact .of rfl (load_sound hR h1 h2 (hR.ev p) h)
    · cases h
  case fieldAddr t p i =>
    split at h
    · rename_i off h1
      exact .of rfl (field_sound h1 (hR.ev p) h)
    · cases h
  case indexAddr t p i =>
    unfold indexV at h
    split at h
    · rename_i k ki hi
      have hiv := hR.ev i
      rw [hi] at hiv
      simp only [VR] at hiv
      split at h
      · rename_i e n he
        exact .of rfl (by rw [hiv]; exact indexS_sound he (hR.ev p) h)
      · split at h
        · rename_i len n he
          exact .of rfl (by rw [hiv]; exact indexR_sound he (hR.ev p) h)
        · cases h
    · cases h
  case nilCheck y =>
    have := nil_sound (C := C) (a := a) (hR.ev y) h (o := ⟨dst, .nilCheck y, ty, after, x2, x3⟩) rfl rfl
    exact ⟨_, .inl this.1, this.2⟩
  case binOp op t y z _ => exact .of rfl (bin_sound (hR.ev y) (hR.ev z) h)
  case unOp op t y => exact .of rfl (un_sound (hR.ev y) h)
  case convert s d y => exact .of rfl (convP_sound (hR.ev y) h)
  case extract y i =>
    unfold extractA at h
    split at h
    · rename_i cs hc
      have hy := hR.ev y
      rw [hc] at hy
      simp only [VR] at hy
      obtain ⟨us, hu, hv⟩ := hy
      obtain ⟨u, h2, h3⟩ := VRs.get hv i _ h
      refine .of (s := Instr.extract (a.eval y) i) rfl ⟨u, ?_, h3⟩
      rw [hu]
      have : us[i]? = some u := by simpa using h2
      simp [Instr.extract, this]
    · cases h
  case field t y i => exact .of rfl (fieldV_sound (hR.ev y) h)
  case build t ps =>
    unfold buildV at h
    rw [← partsL_eq] at h
    split at h
    · rename_i zs hz ha
      split at h
      · rename_i hs
        obtain ⟨r, h1, rfl⟩ := Option.map_eq_some_iff.1 h
        exact .of (exec_build a rfl) (build_sound hz ha hs (by simp [parts]) (VRs_parts hR ps) h1)
      · cases h
    · cases h
  case slice t y lo hi mx =>
    split at h
    · cases h
    · rename_i hc
      obtain ⟨p, h1, rfl⟩ := Option.map_eq_some_iff.1 h
      obtain ⟨z, st'⟩ := p
      obtain ⟨u, w', g', k1, k2, k3, k4⟩ := sliceOp_sound hR h1
      have hp : (∀ r lo m es, ev C st y ≠ .sl (.own r lo) m es) ∨ mx = none := by
        simp only [Bool.and_eq_true, not_and, Bool.not_eq_true] at hc
        cases hm : mx with
        | none => exact .inr rfl
        | some m =>
          left
          intro r lo m' es he
          have := hc (by rw [he]; rfl)
          rw [hm] at this
          simp at this
      obtain ⟨rfl, rfl⟩ := k4 hp
      exact .of rfl ⟨u, k1, k3⟩
  case makeFunc fn first caps =>
    obtain ⟨f, hf, rfl⟩ := Option.map_eq_some_iff.1 h
    unfold funcV at hf
    split at hf
    · rename_i f' hf'
      simp at hf; subst hf
      refine .of (s := Instr.makeFunc (.func f') (first.map a.eval) (caps.map a.eval)) rfl ⟨_, rfl, ?_⟩
      have hf0 : first = #[] := by
        cases first; simp_all
      subst hf0
      simp only [VR]
      refine ⟨_, by simp; rfl, ?_⟩
      have := VRs_map_ev hR caps.toList
      rw [evs_map]
      simpa using this
    · cases hf
  case makeInterface t y =>
    split at h
    · rename_i hc
      have h' := Option.some.inj h; subst h'
      refine .of rfl ⟨_, run_makeInterface w t _ hc, ?_⟩
      simp only [VR]
      exact ⟨_, rfl, hR.ev y⟩
    · cases h
  case call c =>
    split at h
    · rename_i b hb
      obtain ⟨callee, args, argTypes⟩ := c
      simp only at hb; subst hb
      obtain ⟨consts, he⟩ := exec_builtin a (o := ⟨dst, .call { callee := .builtin b, args, argTypes }, ty, after, x2, x3⟩) rfl
      exact builtinP_sound hR he h
    · cases h
  all_goals (cases h)

theorem Grow.refl (g : Gh) (w : World) : Grow [] [] [] g w g w where
  toLasts := lasts_refl g w [] []
  os := rfl
  tape := rfl
  output := rfl
  size := Nat.le_refl _
  other := fun _ _ h => ⟨h, rfl⟩
  kept := fun _ _ _ h _ => ⟨h, rfl⟩

theorem pureG {o : Oper} {x : AV} (h : pureV C o st = some x) : OpG C o st x [] [] [] [] := by
  intro A N g a w hR K Q hk
  obtain ⟨u, h1, h2⟩ := pureV_sound hR h
  exact h1.wp (hk u g w (Grow.refl g w) h2 (fun s cs hs => by cases hs))

theorem allocG {o : Oper} {t d : Nat} {zs : List Value} (ho : o.op = .alloc t) (hd : o.dst = some d) (hz : zeroOf C.P t = some zs) : OpG C o st (.ptr (nm d) 0) [] [nm d] [nm d] [(nm d, vals zs)] := by
  intro A N g a w hR K Q hk
  have hzz : ∃ z, (zeroValue t).run C.P w = .ok z w ∧ zs = z.cells.toList := by
    unfold zeroOf at hz
    obtain ⟨z, hz1, hz2⟩ := Option.map_eq_some_iff.1 hz
    obtain ⟨i, hi, hiz⟩ := Option.bind_eq_some_iff.1 hz1
    exact ⟨z, by simp [zeroValue, run_typeInfo hi, hiz], hz2.symm⟩
  obtain ⟨z, hz1, rfl⟩ := hzz
  obtain ⟨dst, op, ty, after, x2, x3⟩ := o
  simp only at ho hd
  subst ho; subst hd
  have hdoes : Does C.P ⟨some d, .alloc t, ty, after, x2, x3⟩ a w (.pointer (some ⟨w.heap.size, 0, none⟩)) (w.alloc (.cells z.cells t)) :=
    does_pure (s := Instr.alloc t true (.tuple #[])) rfl (by simp [Instr.alloc, hz1, newVar_run])
  have hl := lasts_newBox g w (.cells z.cells t) (nm d)
  refine hdoes.wp (hk _ (g.newBox w.heap.size (nm d)) _ ?_ ?_ fun s cs hs => ?_)
  · exact { toLasts := hl, os := rfl, tape := rfl, output := rfl, size := by simp, other := fun b hb ho => ⟨by simp [Gh.newBox, Nat.ne_of_lt hb, ho], alloc_old w _ b hb⟩, kept := fun s _ _ ho hb => ⟨by simp [Gh.newBox, Nat.ne_of_lt hb, ho], alloc_old w _ _ hb⟩ }
  · simp [VR, Gh.newBox]
  · simp only [lk] at hs
    split at hs
    · rename_i he
      injection hs with hs; subst hs; subst he
      refine ⟨by simp [Gh.newBox], z.cells, t, ?_, VRs_vals _⟩
      have : (g.newBox w.heap.size (nm d)).box (nm d) = w.heap.size := by simp [Gh.newBox]
      rw [this]
      exact heap_alloc_new w _
    · cases hs
end
end Go.Abs
