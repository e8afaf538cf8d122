/- part 4 of the proof -/
import Derived.Still
import Derived.Test.YtobcllcndnbmlaaGreatDoorM03
set_option linter.all false
namespace Go.Abs
def funcV : Fn → List Operand → Option Nat
  | .func f, [] => some f
  | _, _ => none
def builtinP (C : Ctx) (b : Builtin) (xs : List Operand) (ts : List TypeId) (st : St) : Option AV :=
  match b with
  | .len => match xs, ts with
    | [x], [t] => if lenOk C.P t (ev C st x) = true then lenA (ev C st x) else none
    | _, _ => none
  | .max => match xs with
    | [x, y] => maxA (ev C st x) (ev C st y)
    | _ => none
  | .min => match xs with
    | [x, y] => minA (ev C st x) (ev C st y)
    | _ => none
  | _ => none
def pureV (C : Ctx) (o : Oper) (st : St) : Option AV :=
  match o.op with
  | .move x => some (ev C st x)
  | .assign x => some (ev C st x)
  | .pick c a b => pickA (ev C st c) (ev C st a) (ev C st b)
  | .load t a => loadV C t (ev C st a) st.objs
  | .fieldAddr t x i => match offOf C.P t i with
    | some off => fieldA off (ev C st x)
    | none => none
  | .indexAddr t x i => indexV C t (ev C st x) (ev C st i)
  | .nilCheck x => nilA (ev C st x)
  | .binOp op t x y _ => binA C.P op t (ev C st x) (ev C st y)
  | .unOp op _ x => unA op (ev C st x)
  | .convert src dst x => convP C.P src dst (ev C st x)
  | .extract x i => extractA i (ev C st x)
  | .field t x i => fieldV C.P t i (ev C st x)
  | .index t x i => idxV C.P t (ev C st i) (ev C st x)
  | .build t ps => buildV C t (partsL C st ps.toList)
  | .slice t x lo hi mx => if isOwnSl (ev C st x) && mx.isSome then (cutA C st t (ev C st x) lo hi mx).map (·.1) else (sliceOp C st t (ev C st x) lo hi mx).map (·.1)
  | .makeFunc fn first caps => (funcV fn first.toList).map fun f => .fn f (evs C st caps.toList)
  | .makeInterface t x => if C.P.concrete t then some (.ifc t (ev C st x)) else none
  | .typeAssert x _ t ok => assertA C.P t ok (ev C st x)
  | .call c => match c.callee with
    | .builtin b => builtinP C b c.args.toList c.argTypes.toList st
    | _ => none
  | _ => none
section
variable {C : Ctx} {A : A0} {N : Nat} {g g' : Gh} {st st' : St} {a : Act} {w w' : World} {P : Program}
def PureOK (C : Ctx) (o : Oper) (a : Act) (g : Gh) (w : World) (x : AV) : Prop := ∃ u, Does C.P o a w u w ∧ VR g w x u
theorem PureOK.of {o : Oper} {x : AV} {s : Sem Value} (ho : execOp a.eval o = (do Pure.pure (Next.value (← s)))) (h : ∃ u, s.run C.P w = .ok u w ∧ VR g w x u) : PureOK C o a g w x := by
  obtain ⟨u, h1, h2⟩ := h
  exact ⟨u, does_pure ho h1, h2⟩
theorem maxA_sound {x y r : AV} {ux uy : Value} {ts : Array TypeId} {ty : TypeId} (hx : VR g w x ux) (hy : VR g w y uy) (h : maxA x y = some r) : ∃ u, (Builtin.max_ ts ty #[ux, uy]).run P w = .ok u w ∧ VR g w r u := by
  unfold maxA at h
  split at h
  · simp only [VR] at hx hy; subst hx; subst hy
    have h' := Option.some.inj h; subst h'
    exact ⟨_, by simp [Builtin.max_, Builtin.max2]; rfl, by simp only [VR]⟩
  · cases h
theorem minA_sound {x y r : AV} {ux uy : Value} {ts : Array TypeId} {ty : TypeId} (hx : VR g w x ux) (hy : VR g w y uy) (h : minA x y = some r) : ∃ u, (Builtin.min_ ts ty #[ux, uy]).run P w = .ok u w ∧ VR g w r u := by
  unfold minA at h
  split at h
  · simp only [VR] at hx hy; subst hx; subst hy
    have h' := Option.some.inj h; subst h'
    exact ⟨_, by simp [Builtin.min_, Builtin.min2]; rfl, by simp only [VR]⟩
  · cases h
theorem builtinP_sound (hR : R C A N g st a w) {o : Oper} {b : Builtin} {xs : Array Operand} {ts : Array TypeId} {consts : Array Bool} (he : execOp a.eval o = builtin b ts o.type consts (xs.map a.eval)) {x : AV}
    (h : builtinP C b xs.toList ts.toList st = some x) : PureOK C o a g w x := by
  unfold builtinP at h
  split at h
  · split at h
    · rename_i y t hy ht
      split at h
      · rename_i hok
        refine .of he ?_
        rw [arr1 hy, arr1 ht]
        simp only [List.map_toArray, List.map_cons, List.map_nil]
        exact len_sound' hok (hR.ev y) h
      · cases h
    · cases h
  · split at h
    · rename_i y z hy
      refine .of he ?_
      rw [arr2 hy]
      simp only [List.map_toArray, List.map_cons, List.map_nil]
      exact maxA_sound (hR.ev y) (hR.ev z) h
    · cases h
  · split at h
    · rename_i y z hy
      refine .of he ?_
      rw [arr2 hy]
      simp only [List.map_toArray, List.map_cons, List.map_nil]
      exact minA_sound (hR.ev y) (hR.ev z) h
    · cases h
  · cases h
theorem pureV_sound (hR : R C A N g st a w) {o : Oper} {x : AV} (h : pureV C o st = some x) : PureOK C o a g w x := by
  obtain ⟨dst, op, ty, after, x2, x3⟩ := o
  cases op <;> simp only [pureV] at h
  case move y => simp at h; subst h; exact ⟨_, .inl rfl, hR.ev y⟩
  case assign y => simp at h; subst h; exact ⟨_, .inl rfl, hR.ev y⟩
  case pick c y z =>
    obtain ⟨u, k1, k2⟩ := pick_sound (P := C.P) (hR.ev c) (hR.ev y) (hR.ev z) h
    exact ⟨u, .inl k1, k2⟩
  case load t p =>
    unfold loadV at h
    split at h
    · rename_i agg n h1 h2
      exact .of rfl (load_sound hR h1 h2 (hR.ev p) h)
    · cases h
  case fieldAddr t p i =>
    split at h
    · rename_i off h1
      exact .of rfl (field_sound h1 (hR.ev p) h)
    · cases h
  case indexAddr t p i =>
    unfold indexV at h
    split at h
    · rename_i k ki hi
      have hiv := hR.ev i
      rw [hi] at hiv
      simp only [VR] at hiv
      split at h
      · rename_i e n he
        exact .of rfl (by rw [hiv]; exact indexS_sound he (hR.ev p) h)
      · split at h
        · rename_i len n he
          exact .of rfl (by rw [hiv]; exact indexR_sound he (hR.ev p) h)
        · cases h
    · cases h
  case nilCheck y =>
    have := nil_sound (C := C) (a := a) (hR.ev y) h (o := ⟨dst, .nilCheck y, ty, after, x2, x3⟩) rfl rfl
    exact ⟨_, .inl this.1, this.2⟩
  case binOp op t y z _ => exact .of rfl (bin_sound (hR.ev y) (hR.ev z) h)
  case unOp op t y => exact .of rfl (un_sound (hR.ev y) h)
  case convert s d y => exact .of rfl (convP_sound (hR.ev y) h)
  case extract y i =>
    unfold extractA at h
    split at h
    · rename_i cs hc
      have hy := hR.ev y
      rw [hc] at hy
      simp only [VR] at hy
      obtain ⟨us, hu, hv⟩ := hy
      obtain ⟨u, h2, h3⟩ := VRs.get hv i _ h
      refine .of (s := Instr.extract (a.eval y) i) rfl ⟨u, ?_, h3⟩
      rw [hu]
      have : us[i]? = some u := by simpa using h2
      simp [Instr.extract, this]
    · cases h
  case field t y i => exact .of rfl (fieldV_sound (hR.ev y) h)
  case index t y i => exact .of rfl (idxV_sound (hR.ev i) (hR.ev y) h)
  case build t ps =>
    unfold buildV at h
    rw [← partsL_eq] at h
    split at h
    · rename_i zs hz ha
      split at h
      · rename_i hs
        obtain ⟨r, h1, rfl⟩ := Option.map_eq_some_iff.1 h
        exact .of (exec_build a rfl) (build_sound hz ha hs (by simp [parts]) (VRs_parts hR ps) h1)
      · cases h
    · cases h
  case slice t y lo hi mx =>
    split at h
    · obtain ⟨p, h1, rfl⟩ := Option.map_eq_some_iff.1 h
      obtain ⟨z, st'⟩ := p
      obtain ⟨_, u, k1, k3⟩ := cutA_pure hR h1
      exact .of rfl ⟨u, k1, k3⟩
    · rename_i hc
      obtain ⟨p, h1, rfl⟩ := Option.map_eq_some_iff.1 h
      obtain ⟨z, st'⟩ := p
      obtain ⟨u, w', g', k1, k2, k3, k4⟩ := sliceOp_sound hR h1
      have hp : (∀ r lo m es, ev C st y ≠ .sl (.own r lo) m es) ∨ mx = none := by
        simp only [Bool.and_eq_true, not_and, Bool.not_eq_true] at hc
        cases hm : mx with
        | none => exact .inr rfl
        | some m =>
          left
          intro r lo m' es he
          have := hc (by rw [he]; rfl)
          rw [hm] at this
          simp at this
      obtain ⟨rfl, rfl⟩ := k4 hp
      exact .of rfl ⟨u, k1, k3⟩
  case makeFunc fn first caps =>
    obtain ⟨f, hf, rfl⟩ := Option.map_eq_some_iff.1 h
    unfold funcV at hf
    split at hf
    · rename_i f' hf'
      simp at hf; subst hf
      refine .of (s := Instr.makeFunc (.func f') (first.map a.eval) (caps.map a.eval)) rfl ⟨_, rfl, ?_⟩
      have hf0 : first = #[] := by
        cases first; simp_all
      subst hf0
      simp only [VR]
      refine ⟨_, by simp; rfl, ?_⟩
      have := VRs_map_ev hR caps.toList
      rw [evs_map]
      simpa using this
    · cases hf
  case typeAssert y xt t ok =>
    obtain ⟨u, j1, j2⟩ := assert_sound (P := C.P) (xt := xt) (hR.ev y) h
    exact .of (s := Instr.typeAssert (a.eval y) xt t ok) rfl ⟨u, j1, j2⟩
  case makeInterface t y =>
    split at h
    · rename_i hc
      have h' := Option.some.inj h; subst h'
      refine .of rfl ⟨_, run_makeInterface w t _ hc, ?_⟩
      simp only [VR]
      exact ⟨_, rfl, hR.ev y⟩
    · cases h
  case call c =>
    split at h
    · rename_i b hb
      obtain ⟨callee, args, argTypes⟩ := c
      simp only at hb; subst hb
      obtain ⟨consts, he⟩ := exec_builtin a (o := ⟨dst, .call { callee := .builtin b, args, argTypes }, ty, after, x2, x3⟩) rfl
      exact builtinP_sound hR he h
    · cases h
  all_goals (cases h)
theorem Grow.refl (g : Gh) (w : World) : Grow [] [] [] g w g w where
  toLasts := lasts_refl g w [] []
  os := rfl
  tape := ⟨rfl, by first | exact Nat.le_refl _ | exact Nat.le_succ _⟩
  output := rfl
  size := Nat.le_refl _
  other := fun _ _ h => ⟨h, rfl⟩
  kept := fun _ _ _ h _ => ⟨h, rfl⟩
theorem pureG {o : Oper} {x : AV} (h : pureV C o st = some x) : OpG C o st x [] [] [] [] := by
  intro A N g a w hR K Q hk
  obtain ⟨u, h1, h2⟩ := pureV_sound hR h
  exact h1.wp (hk u g w (Grow.refl g w) h2 (fun s cs hs => by cases hs))
theorem allocG {o : Oper} {t d : Nat} {zs : List Value} (ho : o.op = .alloc t) (hd : o.dst = some d) (hz : zeroOf C.P t = some zs) : OpG C o st (.ptr (nm d) 0) [] [nm d] [nm d] [(nm d, vals zs)] := by
  intro A N g a w hR K Q hk
  have hzz : ∃ z, (zeroValue t).run C.P w = .ok z w ∧ zs = z.cells.toList := by
    unfold zeroOf at hz
    obtain ⟨z, hz1, hz2⟩ := Option.map_eq_some_iff.1 hz
    obtain ⟨i, hi, hiz⟩ := Option.bind_eq_some_iff.1 hz1
    exact ⟨z, by simp [zeroValue, run_typeInfo hi, hiz], hz2.symm⟩
  obtain ⟨z, hz1, rfl⟩ := hzz
  obtain ⟨dst, op, ty, after, x2, x3⟩ := o
  simp only at ho hd
  subst ho; subst hd
  have hdoes : Does C.P ⟨some d, .alloc t, ty, after, x2, x3⟩ a w (.pointer (some ⟨w.heap.size, 0, none⟩)) (w.alloc (.cells z.cells t)) :=
    does_pure (s := Instr.alloc t true (.tuple #[])) rfl (by simp [Instr.alloc, hz1, newVar_run])
  have hl := lasts_newBox g w (.cells z.cells t) (nm d)
  refine hdoes.wp (hk _ (g.newBox w.heap.size (nm d)) _ ?_ ?_ fun s cs hs => ?_)
  · exact { toLasts := hl, os := rfl, tape := ⟨rfl, by first | exact Nat.le_refl _ | exact Nat.le_succ _⟩, output := rfl, size := by simp, other := fun b hb ho => ⟨by simp [Gh.newBox, Nat.ne_of_lt hb, ho], alloc_old w _ b hb⟩, kept := fun s _ _ ho hb => ⟨by simp [Gh.newBox, Nat.ne_of_lt hb, ho], alloc_old w _ _ hb⟩ }
  · simp [VR, Gh.newBox, nm_cells]
  · simp only [lk] at hs
    split at hs
    · rename_i he
      injection hs with hs; subst hs; subst he
      refine ⟨by simp [Gh.newBox], .inl ⟨nm_cells d, z.cells, t, ?_, VRs_vals _⟩⟩
      have : (g.newBox w.heap.size (nm d)).box (nm d) = w.heap.size := by simp [Gh.newBox]
      rw [this]
      exact heap_alloc_new w _
    · cases hs
end
end Go.Abs
namespace Go.Abs
structure Res where
  x : AV
  S : List Nat
  T : List Nat
  upd : List (Nat × List AV)
def tmD (dst : Nat → Option Nat) (res : Nat → Res) (D : Nat → Bool) (base : List (Nat × AV)) : Nat → List (Nat × AV)
  | 0 => base
  | j + 1 => match D j, dst j with
    | true, some d => (d, (res j).x) :: tmD dst res D base j
    | _, _ => tmD dst res D base j
def obD (res : Nat → Res) (D : Nat → Bool) (base : List (Nat × List AV)) : Nat → List (Nat × List AV)
  | 0 => base
  | j + 1 => if D j then (res j).upd ++ obD res D base j else obD res D base j
def edgesOf (ops : Array Oper) (i : Nat) : List Nat := match ops[i]? with
  | some o => o.after.toList.filterMap fun e => if Region.binds .any e then some e.on else none
  | none => []
def predT (tab : List (List Nat × List Nat)) (i : Nat) : List Nat := (tab.getD i ([], [])).1
def readT (tab : List (List Nat × List Nat)) (i : Nat) : List Nat := (tab.getD i ([], [])).2
def dstT (ops : Array Oper) (i : Nat) : Option Nat := (ops[i]?).bind (·.dst)
def isIn (d : Option Nat) (l : List Nat) : Bool := match d with
  | some t => l.contains t
  | none => false
def clash (ops : Array Oper) (tab : List (List Nat × List Nat)) (i j : Nat) : Bool :=
  (match dstT ops i, dstT ops j with
  | some d, some e => d == e
  | _, _ => false) || isIn (dstT ops j) (readT tab i) || isIn (dstT ops i) (readT tab j)
def regOK (ops : Array Oper) (k : Nat) (tab : List (List Nat × List Nat)) : Bool :=
  decide (k ≤ ops.size) && (List.range ops.size).all (fun i => (edgesOf ops i).all (fun e => decide (e < i)) &&
    (predT tab i).all (fun p => (edgesOf ops i).any fun e => p == e || (predT tab e).contains p) &&
    (decide (i < k) || (List.range i).all fun j => (predT tab i).contains j)) &&
  (List.range k).all fun i => (List.range i).all fun j => (predT tab i).contains j || !(clash ops tab i j)
structure RegOK (ops : Array Oper) (k : Nat) (tab : List (List Nat × List Nat)) : Prop where
  le : k ≤ ops.size
  edge : ∀ i, i < ops.size → ∀ e ∈ edgesOf ops i, e < i
  pred : ∀ i, i < ops.size → ∀ p ∈ predT tab i, ∃ e ∈ edgesOf ops i, p = e ∨ p ∈ predT tab e
  tail : ∀ i, i < ops.size → k ≤ i → ∀ j, j < i → j ∈ predT tab i
  apart : ∀ i j, i < k → j < i → j ∈ predT tab i ∨ clash ops tab i j = false
theorem regOK.spec {ops : Array Oper} {k : Nat} {tab : List (List Nat × List Nat)} (h : regOK ops k tab = true) : RegOK ops k tab := by
  simp only [regOK, Bool.and_eq_true, decide_eq_true_eq, List.all_eq_true, List.mem_range, Bool.or_eq_true, List.any_eq_true, List.contains_iff_mem, beq_iff_eq, Bool.not_eq_true'] at h
  obtain ⟨⟨h1, h2⟩, h3⟩ := h
  exact ⟨h1, fun i hi => (h2 i hi).1.1, fun i hi => (h2 i hi).1.2, fun i hi hk j hj => ((h2 i hi).2.resolve_left (by omega)) j hj, fun i j hi hj => h3 i hi j hj⟩
def Closed (ops : Array Oper) (D : Nat → Bool) : Prop := ∀ i, i < ops.size → D i = true → ∀ e ∈ edgesOf ops i, D e = true
section
variable {ops : Array Oper} {k : Nat} {tab : List (List Nat × List Nat)} {D : Nat → Bool}
theorem Closed.pred (hr : RegOK ops k tab) (hc : Closed ops D) : ∀ i, i < ops.size → D i = true → ∀ p ∈ predT tab i, D p = true := by
  intro i
  induction i using Nat.strongRecOn with
  | _ i ih =>
    intro hi hd p hp
    obtain ⟨e, he, h | h⟩ := hr.pred i hi p hp
    · subst h; exact hc i hi hd _ he
    · have hlt := hr.edge i hi e he
      exact ih e hlt (by omega) (hc i hi hd e he) p h
theorem pred_of_edges (hr : RegOK ops k tab) (hc : Closed ops D) {i : Nat} (hi : i < ops.size) (hd : ∀ e ∈ edgesOf ops i, D e = true) : ∀ p ∈ predT tab i, D p = true := by
  intro p hp
  obtain ⟨e, he, h | h⟩ := hr.pred i hi p hp
  · subst h; exact hd _ he
  · exact hc.pred hr e (by have := hr.edge i hi e he; omega) (hd e he) p h
variable {dst : Nat → Option Nat} {res res' : Nat → Res} {base : List (Nat × AV)} {obase : List (Nat × List AV)}
theorem tmD_congr {D D' : Nat → Bool} : ∀ n, (∀ j, j < n → res j = res' j ∧ D j = D' j) → tmD dst res D base n = tmD dst res' D' base n
  | 0, _ => rfl
  | n + 1, h => by
    simp only [tmD, (h n (by omega)).1, (h n (by omega)).2]
    rw [tmD_congr n fun j hj => h j (by omega)]
theorem obD_congr {D D' : Nat → Bool} : ∀ n, (∀ j, j < n → res j = res' j ∧ D j = D' j) → obD res D obase n = obD res' D' obase n
  | 0, _ => rfl
  | n + 1, h => by
    simp only [obD, (h n (by omega)).1, (h n (by omega)).2]
    rw [obD_congr n fun j hj => h j (by omega)]
theorem lk_tmD {D D' : Nat → Bool} {t : Nat} : ∀ n, (∀ j, j < n → dst j = some t → D j = D' j) → lk t (tmD dst res D base n) = lk t (tmD dst res D' base n)
  | 0, _ => rfl
  | n + 1, h => by
    have ih := lk_tmD (D := D) (D' := D') (t := t) n fun j hj => h j (by omega)
    cases hd : dst n with
    | none => cases h1 : D n <;> cases h2 : D' n <;> simp only [tmD, hd, h1, h2] <;> exact ih
    | some d =>
      by_cases hdt : d = t
      · have := h n (by omega) (by rw [hd, hdt])
        cases h1 : D n <;> rw [h1] at this <;> simp only [tmD, hd, h1, ← this]
        · exact ih
        · simp [lk, hdt]
      · cases h1 : D n <;> cases h2 : D' n <;> simp only [tmD, hd, h1, h2, lk, hdt, if_false] <;> exact ih
theorem tmD_cut {i : Nat} : ∀ n, i ≤ n → (∀ j, i ≤ j → j < n → D j = false) → tmD dst res D base n = tmD dst res D base i
  | 0, h, _ => by have : i = 0 := by omega
                  rw [this]
  | n + 1, h, hd => by
    by_cases hi : i = n + 1
    · rw [hi]
    · have := hd n (by omega) (by omega)
      simp only [tmD, this]
      exact tmD_cut n (by omega) fun j h1 h2 => hd j h1 (by omega)
def addD (i : Nat) (D : Nat → Bool) (j : Nat) : Bool := if j = i then true else D j
theorem lk_tmD_add_self {i t : Nat} (hdi : dst i = some t) : ∀ n, i < n → (∀ j, i < j → j < n → D j = true → dst j ≠ some t) → lk t (tmD dst res (addD i D) base n) = some (res i).x
  | 0, h, _ => by omega
  | n + 1, h, hno => by
    by_cases hin : i = n
    · subst hin
      simp [tmD, addD, hdi, lk]
    · have ih := lk_tmD_add_self hdi n (by omega) fun j h1 h2 => hno j h1 (by omega)
      have hn : addD i D n = D n := by simp [addD, Ne.symm hin]
      simp only [tmD, hn]
      cases h1 : D n with
      | false => simpa using ih
      | true =>
        have := hno n (by omega) (by omega) h1
        cases hd : dst n with
        | none => simpa using ih
        | some d =>
          have hdt : d ≠ t := fun e => this (by rw [hd, e])
          simp only [lk, hdt, if_false]; exact ih
theorem lk_obD_add {i s : Nat} (hi : D i = false) : ∀ n, i < n → (∀ c, lk s (res i).upd = some c → ∀ j, j ≠ i → j < n → D j = true → lk s (res j).upd = none) →
    lk s (obD res (addD i D) obase n) = (lk s (res i).upd).or (lk s (obD res D obase n))
  | 0, h, _ => by omega
  | n + 1, h, hno => by
    by_cases hin : i = n
    · subst hin
      have h1 : obD res (addD i D) obase i = obD res D obase i := obD_congr i fun j hj => ⟨rfl, by simp [addD, Nat.ne_of_lt hj]⟩
      simp only [obD, addD, if_true, hi, Bool.false_eq_true, if_false, lk_append]
      rw [← h1]
    · have ih := lk_obD_add (s := s) hi n (by omega) fun c hc j h1 h2 => hno c hc j h1 (by omega)
      have hn : addD i D n = D n := by simp [addD, Ne.symm hin]
      simp only [obD, hn]
      cases h1 : D n with
      | false => simpa using ih
      | true =>
        simp only [if_true, lk_append, ih]
        cases hs : lk s (res i).upd with
        | none => simp
        | some c =>
          have := hno c hs n (Ne.symm hin) (by omega) h1
          simp [this]
def fixT (S T : List Nat) (l : List (Nat × AV)) : Prop := killT S T l = l
def fixO (S T : List Nat) (l : List (Nat × List AV)) : Prop := killO S T (dropO T l) = l
theorem fixT_cons {S T : List Nat} {p : Nat × AV} {l : List (Nat × AV)} : fixT S T (p :: l) ↔ p.2.kill S T = p.2 ∧ fixT S T l := by
  obtain ⟨k, x⟩ := p
  simp only [fixT, killT, List.cons.injEq, Prod.mk.injEq, true_and]
theorem killO_len (S T : List Nat) : ∀ l : List (Nat × List AV), (killO S T (dropO T l)).length ≤ l.length
  | [] => by simp [dropO, killO]
  | (k, x) :: l => by
    have := killO_len S T l
    simp only [dropO]
    split
    · simp; omega
    · rename_i hk
      simp [killO, hk]; omega
theorem fixO_cons {S T : List Nat} {p : Nat × List AV} {l : List (Nat × List AV)} : fixO S T (p :: l) ↔ p.1 ∉ T ∧ killL S T p.2 = p.2 ∧ fixO S T l := by
  obtain ⟨k, x⟩ := p
  simp only [fixO, dropO]
  by_cases hk : k ∈ T
  · simp only [hk, if_true, not_true_eq_false, false_and, iff_false]
    intro h
    have := killO_len S T l
    rw [h] at this
    simp at this
    omega
  · simp [hk, killO]
theorem fixO_append {S T : List Nat} {l m : List (Nat × List AV)} : fixO S T (l ++ m) ↔ fixO S T l ∧ fixO S T m := by
  induction l with
  | nil => simp [fixO, dropO, killO]
  | cons p l ih =>
    simp only [List.cons_append, fixO_cons, ih]
    constructor
    · rintro ⟨h1, h2, h3, h4⟩; exact ⟨⟨h1, h2, h3⟩, h4⟩
    · rintro ⟨⟨h1, h2, h3⟩, h4⟩; exact ⟨h1, h2, h3, h4⟩
theorem fixO_names {S T : List Nat} : ∀ {l : List (Nat × List AV)}, fixO S T l → ∀ s ∈ T, lk s l = none
  | [], _, _, _ => rfl
  | (k, x) :: l, h, s, hs => by
    obtain ⟨h1, _, h3⟩ := fixO_cons.1 h
    have : k ≠ s := fun e => h1 (by rw [e]; exact hs)
    simp only [lk, this, if_false]
    exact fixO_names h3 s hs
theorem fixT_tmD {S T : List Nat} : ∀ n, fixT S T base → (∀ j, j < n → D j = true → (res j).x.kill S T = (res j).x) → fixT S T (tmD dst res D base n)
  | 0, h, _ => h
  | n + 1, h, hj => by
    have ih := fixT_tmD n h fun j h1 => hj j (by omega)
    cases h1 : D n with
    | false => simpa [tmD, h1] using ih
    | true =>
      cases hd : dst n with
      | none => simpa [tmD, h1, hd] using ih
      | some d => simp only [tmD, h1, hd]; exact fixT_cons.2 ⟨hj n (by omega) h1, ih⟩
theorem fixO_obD {S T : List Nat} : ∀ n, fixO S T obase → (∀ j, j < n → D j = true → fixO S T (res j).upd) → fixO S T (obD res D obase n)
  | 0, h, _ => h
  | n + 1, h, hj => by
    have ih := fixO_obD n h fun j h1 => hj j (by omega)
    cases h1 : D n with
    | false => simpa [obD, h1] using ih
    | true => simp only [obD, h1, if_true]; exact fixO_append.2 ⟨hj n (by omega) h1, ih⟩
theorem fixT_of_tmD {S T : List Nat} : ∀ n, fixT S T (tmD dst res (fun _ => true) base n) → fixT S T base ∧ ∀ j, j < n → (dst j).isSome = true → (res j).x.kill S T = (res j).x
  | 0, h => ⟨h, fun j hj => by omega⟩
  | n + 1, h => by
    cases hd : dst n with
    | none =>
      simp only [tmD, hd] at h
      obtain ⟨h1, h2⟩ := fixT_of_tmD n h
      exact ⟨h1, fun j hj hs => if e : j = n then by subst e; simp [hd] at hs else h2 j (by omega) hs⟩
    | some d =>
      simp only [tmD, hd] at h
      obtain ⟨h0, h'⟩ := fixT_cons.1 h
      obtain ⟨h1, h2⟩ := fixT_of_tmD n h'
      exact ⟨h1, fun j hj hs => if e : j = n then by subst e; exact h0 else h2 j (by omega) hs⟩
theorem fixO_of_obD {S T : List Nat} : ∀ n, fixO S T (obD res (fun _ => true) obase n) → fixO S T obase ∧ ∀ j, j < n → fixO S T (res j).upd
  | 0, h => ⟨h, fun j hj => by omega⟩
  | n + 1, h => by
    simp only [obD, if_true] at h
    obtain ⟨h0, h'⟩ := fixO_append.1 h
    obtain ⟨h1, h2⟩ := fixO_of_obD n h'
    exact ⟨h1, fun j hj => if e : j = n then by subst e; exact h0 else h2 j (by omega)⟩
end
end Go.Abs
namespace Go.Abs
def restr (st : St) : List Nat → List (Nat × AV)
  | [] => []
  | t :: ts => match lk t st.tmps with
    | some x => (t, x) :: restr st ts
    | none => restr st ts
def away (cr : List (Nat × List Nat × List Nat)) (p : List Nat) (r : Res) : Prop := match cr with
  | [] => True
  | (i, S, T) :: l => (i ∈ p ∨ (r.x.kill S T = r.x ∧ fixO S T r.upd)) ∧ away l p r
def crOf (i : Nat) (r : Res) (cr : List (Nat × List Nat × List Nat)) : List (Nat × List Nat × List Nat) := match r.S, r.T with
  | [], [] => cr
  | S, T => (i, S, T) :: cr
def freeOp (X : Env) (o : Oper) (r st : St) (p : List Nat) (cr : List (Nat × List Nat × List Nat)) (K : Res → Prop) : Prop :=
  ∃ e : Res, OpG X.C o r e.x e.S e.T e.T e.upd ∧ (e.T.all fun s => s % 32 != 31) = true ∧ (∀ s ∈ names e.upd, s ∈ e.T) ∧ fixT e.S e.T st.tmps ∧ fixO e.S e.T st.objs ∧ away cr p e ∧ K e
def offG (b : Bool) (y : Option AV) : Prop := (∃ b', y = some (.v (.bool b')) ∧ b' ≠ b) ∨ y = some (.tup [])
def freeA (X : Env) (all : Array Oper) (objs : List (Nat × List AV)) : List Oper → List (List Nat × List Nat) → Nat → List (Nat × List Nat × List Nat) → (St → Prop) → St → Prop
  | [], _, _, _, K, st => K st
  | _ :: _, [], _, _, _, _ => False
  | o :: os, (p, ts) :: tab, i, cr, K, st =>
    let run := fun st : St => freeOp X o ⟨restr st ts, objs⟩ st p cr fun e => o.dst.isSome = true ∧ freeA X all objs os tab (i + 1) (crOf i e cr) K ⟨(St.put o.dst e.x st).tmps, e.upd ++ st.objs⟩
    match o.guard with
    | none => run st
    | some (j, b) => match guardOf all j ⟨restr st ts, objs⟩ with
      | some (.v (.bool b')) => splitA b' b (run (st.learn (gdst all j) b)) (o.dst.isSome = true ∧ away cr p ⟨.tup [], [], [], []⟩ ∧ freeA X all objs os tab (i + 1) cr K ((st.learn (gdst all j) (!b)).put o.dst (.tup [])))
      | some (.tup []) => o.dst.isSome = true ∧ away cr p ⟨.tup [], [], [], []⟩ ∧ freeA X all objs os tab (i + 1) cr K (st.put o.dst (.tup []))
      | _ => False
theorem lk_restr0 {st : St} {t : Nat} {x : AV} : ∀ {ts : List Nat}, lk t (restr st ts) = some x → lk t st.tmps = some x
  | [], h => by cases h
  | u :: ts, h => by
    simp only [restr] at h
    split at h
    · rename_i y hy
      simp only [lk] at h
      split at h
      · rename_i hut; subst hut; rw [hy]; exact h
      · exact lk_restr0 h
    · exact lk_restr0 h
theorem learn_restr {all : Array Oper} {j : Nat} {st : St} {ts : List Nat} {objs : List (Nat × List AV)} {b : Bool} (h : guardOf all j ⟨restr st ts, objs⟩ = some (.v (.bool b))) : st.learn (gdst all j) b = st := by
  apply learn_same
  unfold guardOf at h ⊢
  obtain ⟨d, h1, h2⟩ := Option.bind_eq_some_iff.1 h
  rw [h1]
  exact lk_restr0 h2
section
variable {X : Env} {A : A0} {N : Nat} {g : Gh} {st0 : St} {a : Act} {w : World} {ops : Array Oper} {k : Nat} {tab : List (List Nat × List Nat)}
def canon (ops : Array Oper) (res : Nat → Res) (st0 : St) (n : Nat) : St := ⟨tmD (dstT ops) res (fun _ => true) st0.tmps n, obD res (fun _ => true) st0.objs n⟩
def stD (ops : Array Oper) (res : Nat → Res) (st0 : St) (D : Nat → Bool) (n : Nat) : St := ⟨tmD (dstT ops) res D st0.tmps n, obD res D st0.objs n⟩
structure Valid (X : Env) (ops : Array Oper) (tab : List (List Nat × List Nat)) (st0 : St) (res : Nat → Res) (n : Nat) : Prop where
  op : ∀ i, i < n → ∃ o, ops[i]? = some o ∧ o.dst.isSome = true ∧
    (((o.guard = none ∨ ∃ j b, o.guard = some (j, b) ∧ guardOf ops j ⟨restr (canon ops res st0 i) (readT tab i), st0.objs⟩ = some (.v (.bool b))) ∧
      OpG X.C o ⟨restr (canon ops res st0 i) (readT tab i), st0.objs⟩ (res i).x (res i).S (res i).T (res i).T (res i).upd) ∨
    ((∃ j b, o.guard = some (j, b) ∧ offG b (guardOf ops j ⟨restr (canon ops res st0 i) (readT tab i), st0.objs⟩)) ∧ res i = ⟨.tup [], [], [], []⟩))
  ext : ∀ i, i < n → ((res i).T.all fun s => s % 32 != 31) = true
  nam : ∀ i, i < n → ∀ s ∈ names (res i).upd, s ∈ (res i).T
  fix : ∀ i, i < n → fixT (res i).S (res i).T (canon ops res st0 i).tmps ∧ fixO (res i).S (res i).T (canon ops res st0 i).objs
  away : ∀ i j, i < j → j < n → i ∈ predT tab j ∨ ((res j).x.kill (res i).S (res i).T = (res j).x ∧ fixO (res i).S (res i).T (res j).upd)
def setRes (res : Nat → Res) (n : Nat) (e : Res) (i : Nat) : Res := if i = n then e else res i
theorem canon_congr {res res' : Nat → Res} {n : Nat} (h : ∀ j, j < n → res j = res' j) : canon ops res st0 n = canon ops res' st0 n := by
  simp only [canon]
  rw [tmD_congr n fun j hj => ⟨h j hj, rfl⟩, obD_congr n fun j hj => ⟨h j hj, rfl⟩]
theorem fixT_nil (l : List (Nat × AV)) : fixT [] [] l := killT_nil l
theorem fixO_nil (l : List (Nat × List AV)) : fixO [] [] l := by simp [fixO, dropO_nil, killO_nil]
theorem Valid.snoc {res : Nat → Res} {n : Nat} (hv : Valid X ops tab st0 res n) (e : Res) {o : Oper} (ho : ops[n]? = some o) (hd : o.dst.isSome = true)
    (h1 : ((o.guard = none ∨ ∃ j b, o.guard = some (j, b) ∧ guardOf ops j ⟨restr (canon ops res st0 n) (readT tab n), st0.objs⟩ = some (.v (.bool b))) ∧
      OpG X.C o ⟨restr (canon ops res st0 n) (readT tab n), st0.objs⟩ e.x e.S e.T e.T e.upd) ∨
    ((∃ j b, o.guard = some (j, b) ∧ offG b (guardOf ops j ⟨restr (canon ops res st0 n) (readT tab n), st0.objs⟩)) ∧ e = ⟨.tup [], [], [], []⟩))
    (h2 : (e.T.all fun s => s % 32 != 31) = true) (h3 : ∀ s ∈ names e.upd, s ∈ e.T) (h4 : fixT e.S e.T (canon ops res st0 n).tmps ∧ fixO e.S e.T (canon ops res st0 n).objs)
    (h5 : ∀ i, i < n → i ∈ predT tab n ∨ (e.x.kill (res i).S (res i).T = e.x ∧ fixO (res i).S (res i).T e.upd)) : Valid X ops tab st0 (setRes res n e) (n + 1) := by
  have hlt : ∀ j, j < n → setRes res n e j = res j := fun j hj => by simp [setRes, Nat.ne_of_lt hj]
  have heq : setRes res n e n = e := by simp [setRes]
  have hcan : ∀ i, i ≤ n → canon ops (setRes res n e) st0 i = canon ops res st0 i := fun i hi => canon_congr fun j hj => hlt j (by omega)
  refine ⟨fun i hi => ?_, fun i hi => ?_, fun i hi => ?_, fun i hi => ?_, fun i j hij hj => ?_⟩
  · rw [hcan i (by omega)]
    by_cases hin : i = n
    · subst hin; rw [heq]; exact ⟨o, ho, hd, h1⟩
    · rw [hlt i (by omega)]; exact hv.op i (by omega)
  · by_cases hin : i = n
    · subst hin; rw [heq]; exact h2
    · rw [hlt i (by omega)]; exact hv.ext i (by omega)
  · by_cases hin : i = n
    · subst hin; rw [heq]; exact h3
    · rw [hlt i (by omega)]; exact hv.nam i (by omega)
  · rw [hcan i (by omega)]
    by_cases hin : i = n
    · subst hin; rw [heq]; exact h4
    · rw [hlt i (by omega)]; exact hv.fix i (by omega)
  · rw [hlt i (by omega)]
    by_cases hin : j = n
    · subst hin; rw [heq]; exact h5 i (by omega)
    · rw [hlt j (by omega)]; exact hv.away i j hij (by omega)
def CrOK (res : Nat → Res) (n : Nat) (cr : List (Nat × List Nat × List Nat)) : Prop := ∀ i, i < n → ((res i).S = [] ∧ (res i).T = []) ∨ (i, (res i).S, (res i).T) ∈ cr
theorem away_mem {p : List Nat} {r : Res} : ∀ {cr : List (Nat × List Nat × List Nat)}, away cr p r → ∀ {i : Nat} {S T : List Nat}, (i, S, T) ∈ cr → i ∈ p ∨ (r.x.kill S T = r.x ∧ fixO S T r.upd)
  | (j, S', T') :: l, h, i, S, T, hm => by
    obtain ⟨h1, h2⟩ := h
    rcases List.mem_cons.1 hm with e | hm
    · simp only [Prod.mk.injEq] at e
      obtain ⟨rfl, rfl, rfl⟩ := e
      exact h1
    · exact away_mem h2 hm
theorem CrOK.away {res : Nat → Res} {n : Nat} {cr : List (Nat × List Nat × List Nat)} (h : CrOK res n cr) {p : List Nat} {r : Res} (ha : Abs.away cr p r) : ∀ i, i < n → i ∈ p ∨ (r.x.kill (res i).S (res i).T = r.x ∧ fixO (res i).S (res i).T r.upd) := by
  intro i hi
  rcases h i hi with ⟨h1, h2⟩ | hm
  · rw [h1, h2]; exact .inr ⟨kill_nil _, fixO_nil _⟩
  · exact away_mem ha hm
theorem CrOK.snoc {res : Nat → Res} {n : Nat} {cr : List (Nat × List Nat × List Nat)} (h : CrOK res n cr) (e : Res) : CrOK (setRes res n e) (n + 1) (crOf n e cr) := by
  have hsub : ∀ q ∈ cr, q ∈ crOf n e cr := fun q hq => by
    unfold crOf
    split
    · exact hq
    · exact List.mem_cons_of_mem _ hq
  intro i hi
  by_cases hin : i = n
  · subst hin
    simp only [setRes, if_true]
    unfold crOf
    split
    · rename_i h1 h2; exact .inl ⟨h1, h2⟩
    · exact .inr (by simp)
  · simp only [setRes, hin, if_false]
    exact (h i (by omega)).imp id (hsub _)
theorem canon_succ {res : Nat → Res} {n : Nat} {e : Res} {o : Oper} (ho : ops[n]? = some o) (hd : o.dst.isSome = true) :
    canon ops (setRes res n e) st0 (n + 1) = ⟨(St.put o.dst e.x (canon ops res st0 n)).tmps, e.upd ++ (canon ops res st0 n).objs⟩ := by
  have hlt : ∀ j, j < n → setRes res n e j = res j := fun j hj => by simp [setRes, Nat.ne_of_lt hj]
  obtain ⟨d, hd'⟩ := Option.isSome_iff_exists.1 hd
  have hdt : dstT ops n = some d := by simp [dstT, ho, hd']
  simp only [canon, tmD, obD, hdt, if_true]
  rw [tmD_congr (res := setRes res n e) (res' := res) n fun j hj => ⟨hlt j hj, rfl⟩, obD_congr (res := setRes res n e) (res' := res) n fun j hj => ⟨hlt j hj, rfl⟩]
  simp [setRes, hd', St.put]
theorem freeA_sound {K : St → Prop} : ∀ (os : List Oper) (tb : List (List Nat × List Nat)) (n : Nat) (cr : List (Nat × List Nat × List Nat)) (res : Nat → Res), (∀ j o, os[j]? = some o → ops[n + j]? = some o) → (∀ j q, tb[j]? = some q → tab[n + j]? = some q) →
    Valid X ops tab st0 res n → CrOK res n cr → freeA X ops st0.objs os tb n cr K (canon ops res st0 n) → ∃ res', Valid X ops tab st0 res' (n + os.length) ∧ K (canon ops res' st0 (n + os.length))
  | [], tb, n, cr, res, _, _, hv, _, h => ⟨res, hv, by simp only [freeA] at h; simpa using h⟩
  | _ :: _, [], _, _, _, _, _, _, _, h => by simp [freeA] at h
  | o :: os, (p, ts) :: tb, n, cr, res, ho, ht, hv, hc, h => by
    have ho0 : ops[n]? = some o := ho 0 o rfl
    have ht0 : tab[n]? = some (p, ts) := ht 0 (p, ts) rfl
    have hp : predT tab n = p := by simp [predT, List.getD, ht0]
    have hr : readT tab n = ts := by simp [readT, List.getD, ht0]
    have hos : ∀ j o', os[j]? = some o' → ops[n + 1 + j]? = some o' := fun j o' hj => by
      have := ho (j + 1) o' (by simpa using hj)
      rwa [show n + (j + 1) = n + 1 + j by omega] at this
    have htb : ∀ j q, tb[j]? = some q → tab[n + 1 + j]? = some q := fun j q hj => by
      have := ht (j + 1) q (by simpa using hj)
      rwa [show n + (j + 1) = n + 1 + j by omega] at this
    have hlen : n + (o :: os).length = n + 1 + os.length := by simp; omega
    rw [hlen]
    have fin : ∀ e : Res, Valid X ops tab st0 (setRes res n e) (n + 1) → CrOK (setRes res n e) (n + 1) (crOf n e cr) → o.dst.isSome = true → freeA X ops st0.objs os tb (n + 1) (crOf n e cr) K ⟨(St.put o.dst e.x (canon ops res st0 n)).tmps, e.upd ++ (canon ops res st0 n).objs⟩ →
        ∃ res', Valid X ops tab st0 res' (n + 1 + os.length) ∧ K (canon ops res' st0 (n + 1 + os.length)) := fun e hv' hc' hd hf =>
      freeA_sound os tb (n + 1) _ _ hos htb hv' hc' (by rw [canon_succ ho0 hd]; exact hf)
    have runs : (o.guard = none ∨ ∃ j b, o.guard = some (j, b) ∧ guardOf ops j ⟨restr (canon ops res st0 n) (readT tab n), st0.objs⟩ = some (.v (.bool b))) →
        (freeOp X o ⟨restr (canon ops res st0 n) ts, st0.objs⟩ (canon ops res st0 n) p cr fun e => o.dst.isSome = true ∧ freeA X ops st0.objs os tb (n + 1) (crOf n e cr) K ⟨(St.put o.dst e.x (canon ops res st0 n)).tmps, e.upd ++ (canon ops res st0 n).objs⟩) →
        ∃ res', Valid X ops tab st0 res' (n + 1 + os.length) ∧ K (canon ops res' st0 (n + 1 + os.length)) := fun hg ⟨e, h1, h2, h3, h4, h5, h6, hd, hf⟩ =>
      fin e (hv.snoc e ho0 hd (.inl ⟨hg, by rw [hr]; exact h1⟩) h2 h3 ⟨h4, h5⟩ (by rw [hp]; exact hc.away h6)) (hc.snoc e) hd hf
    simp only [freeA] at h
    split at h
    · rename_i hg
      exact runs (.inl hg) h
    · rename_i j b hg
      split at h
      · rename_i b' hb
        by_cases he : b' = b
        · subst he
          have h1 := h.1 rfl
          rw [learn_restr hb] at h1
          exact runs (.inr ⟨j, b', hg, by rw [hr]; exact hb⟩) h1
        · obtain ⟨hd, ha, hf⟩ := h.2 he
          have hbb : (!b) = b' := by cases b <;> cases b' <;> first | rfl | exact absurd rfl he
          rw [hbb, learn_restr hb] at hf
          have := hc.snoc (⟨.tup [], [], [], []⟩ : Res)
          refine fin ⟨.tup [], [], [], []⟩ (hv.snoc _ ho0 hd (.inr ⟨⟨j, b, hg, .inl ⟨b', by rw [hr]; exact hb, he⟩⟩, rfl⟩) rfl (fun s hs => by cases hs) ⟨fixT_nil _, fixO_nil _⟩ (by rw [hp]; exact hc.away ha)) this hd ?_
          simp only [crOf, List.nil_append]
          have e : ∀ s : St, (St.put o.dst (AV.tup []) s) = ⟨(St.put o.dst (AV.tup []) s).tmps, s.objs⟩ := fun s => by cases o.dst <;> rfl
          rw [← e]
          exact hf
      · rename_i hb
        obtain ⟨hd, ha, hf⟩ := h
        have := hc.snoc (⟨.tup [], [], [], []⟩ : Res)
        refine fin ⟨.tup [], [], [], []⟩ (hv.snoc _ ho0 hd (.inr ⟨⟨j, b, hg, .inr (by rw [hr]; exact hb)⟩, rfl⟩) rfl (fun s hs => by cases hs) ⟨fixT_nil _, fixO_nil _⟩ (by rw [hp]; exact hc.away ha)) this hd ?_
        simp only [crOf, List.nil_append]
        have e : ∀ s : St, (St.put o.dst (AV.tup []) s) = ⟨(St.put o.dst (AV.tup []) s).tmps, s.objs⟩ := fun s => by cases o.dst <;> rfl
        rw [← e]
        exact hf
      · cases h
end
end Go.Abs
namespace Go.Abs
section
variable {X : Env} {A : A0} {N : Nat} {g : Gh} {st0 : St} {a : Act} {w : World} {ops : Array Oper} {k : Nat} {tab : List (List Nat × List Nat)} {res : Nat → Res} {D : Nat → Bool}
theorem R.le' {st st' : St} {C : Ctx} (h : R C A N g st a w) (h1 : ∀ t x, lk t st'.tmps = some x → lk t st.tmps = some x) (h2 : ∀ s cs, lk s st'.objs = some cs → lk s st.objs = some cs) : R C A N g st' a w :=
  ⟨h.size, h.defs, fun t x hx => h.tm t x (h1 t x hx), fun s cs hs => h.ob s cs (h2 s cs hs), h.fr⟩
theorem lk_restr {st : St} {t : Nat} {x : AV} : ∀ {ts : List Nat}, lk t (restr st ts) = some x → t ∈ ts ∧ lk t st.tmps = some x
  | [], h => by cases h
  | u :: ts, h => by
    simp only [restr] at h
    split at h
    · rename_i y hy
      simp only [lk] at h
      split at h
      · rename_i hut; subst hut; exact ⟨by simp, by rw [hy]; exact h⟩
      · obtain ⟨h1, h2⟩ := lk_restr h; exact ⟨by simp [h1], h2⟩
    · obtain ⟨h1, h2⟩ := lk_restr h; exact ⟨by simp [h1], h2⟩
theorem isIn_iff {d : Option Nat} {l : List Nat} : isIn d l = true ↔ ∃ t, d = some t ∧ t ∈ l := by
  cases d <;> simp [isIn]
theorem reads_settled (hr : RegOK ops k tab) (hc : Closed ops D) {i : Nat} (hi : i < k) (hnd : D i = false) (hp : ∀ p ∈ predT tab i, D p = true) {t : Nat} (ht : t ∈ readT tab i) (j : Nat) (hj : j < k) (hd : dstT ops j = some t) (hji : j ≠ i) : D j = decide (j < i) := by
  have hk := hr.le
  rcases Nat.lt_or_gt_of_ne hji with hlt | hgt
  · rcases hr.apart i j hi hlt with h | h
    · simp [hp j h, hlt]
    · simp only [clash, Bool.or_eq_false_iff] at h
      have := h.1.2
      rw [isIn_iff.2 ⟨t, hd, ht⟩] at this; cases this
  · have hni : ¬ j < i := by omega
    simp only [hni, decide_false]
    rcases hr.apart j i hj hgt with h | h
    · cases hD : D j with
      | false => rfl
      | true => have := hc.pred hr j (by omega) hD i h; rw [hnd] at this; cases this
    · simp only [clash, Bool.or_eq_false_iff] at h
      have := h.2
      rw [isIn_iff.2 ⟨t, hd, ht⟩] at this; cases this
theorem reads_canon (hr : RegOK ops k tab) (hc : Closed ops D) {i : Nat} (hi : i < k) (hnd : D i = false) (hp : ∀ p ∈ predT tab i, D p = true) {t : Nat} (ht : t ∈ readT tab i) (hself : dstT ops i ≠ some t ∨ True) :
    lk t (tmD (dstT ops) res D st0.tmps k) = lk t (tmD (dstT ops) res (fun _ => true) st0.tmps i) := by
  have h1 : lk t (tmD (dstT ops) res D st0.tmps k) = lk t (tmD (dstT ops) res (fun j => decide (j < i)) st0.tmps k) := lk_tmD k fun j hj hd => by
    by_cases hji : j = i
    · subst hji; simp [hnd]
    · exact reads_settled hr hc hi hnd hp ht j hj hd hji
  rw [h1, tmD_cut (i := i) k (by omega) (fun j h1 _ => by simp; omega)]
  rw [tmD_congr (res := res) (res' := res) (D := fun j => decide (j < i)) (D' := fun _ => true) i fun j hj => ⟨rfl, by simp [hj]⟩]
theorem objs_base (hv : Valid X ops tab st0 res k) {s : Nat} {cs : List AV} (hs : lk s st0.objs = some cs) : ∀ n, n ≤ k → lk s (obD res D st0.objs n) = some cs
  | 0, _ => hs
  | n + 1, hn => by
    have ih := objs_base hv hs n (by omega)
    simp only [obD]
    split
    · rw [lk_append]
      have hf := (hv.fix n (by omega)).2
      obtain ⟨hb, _⟩ := fixO_of_obD n hf
      have hno : s ∉ (res n).T := fun h => by
        have := fixO_names hb s h
        rw [this] at hs; cases hs
      have : lk s (res n).upd = none := lk_none fun h => hno (hv.nam n (by omega) s h)
      rw [this]; simpa using ih
    · exact ih
theorem restr_le (hr : RegOK ops k tab) (hv : Valid X ops tab st0 res k) (hc : Closed ops D) {i : Nat} (hi : i < k) (hnd : D i = false) (hp : ∀ p ∈ predT tab i, D p = true) (hR : R X.C A N g (stD ops res st0 D k) a w) :
    R X.C A N g ⟨restr (canon ops res st0 i) (readT tab i), st0.objs⟩ a w := by
  refine hR.le' (fun t x hx => ?_) fun s cs hs => objs_base hv hs k (Nat.le_refl _)
  obtain ⟨h1, h2⟩ := lk_restr hx
  simp only [stD]
  rw [reads_canon hr hc hi hnd hp h1 (.inr trivial)]
  exact h2
theorem fix_stD (hr : RegOK ops k tab) (hv : Valid X ops tab st0 res k) (hdst : ∀ j, j < k → (dstT ops j).isSome = true) (hc : Closed ops D) {i : Nat} (hi : i < k) (hnd : D i = false) :
    fixT (res i).S (res i).T (stD ops res st0 D k).tmps ∧ fixO (res i).S (res i).T (stD ops res st0 D k).objs := by
  have hk := hr.le
  obtain ⟨h1, h2⟩ := hv.fix i hi
  obtain ⟨b1, b2⟩ := fixT_of_tmD i h1
  obtain ⟨c1, c2⟩ := fixO_of_obD i h2
  have key : ∀ j, j < k → D j = true → (res j).x.kill (res i).S (res i).T = (res j).x ∧ fixO (res i).S (res i).T (res j).upd := fun j hj hD => by
    rcases Nat.lt_trichotomy j i with h | h | h
    · exact ⟨b2 j h (hdst j hj), c2 j h⟩
    · subst h; rw [hnd] at hD; cases hD
    · rcases hv.away i j h hj with h' | h'
      · have := hc.pred hr j (by omega) hD i h'; rw [hnd] at this; cases this
      · exact h'
  exact ⟨fixT_tmD k b1 fun j hj hD => (key j hj hD).1, fixO_obD k c1 fun j hj hD => (key j hj hD).2⟩
theorem disj_upd (hr : RegOK ops k tab) (hv : Valid X ops tab st0 res k) (hdst : ∀ j, j < k → (dstT ops j).isSome = true) (hc : Closed ops D) {i : Nat} (hi : i < k) (hnd : D i = false) {s : Nat} {c : List AV} (hs : lk s (res i).upd = some c) :
    ∀ j, j ≠ i → j < k → D j = true → lk s (res j).upd = none := fun j hji hj hD => by
  have hk := hr.le
  have hT : s ∈ (res i).T := hv.nam i hi s (lk_some_names hs)
  have : fixO (res i).S (res i).T (res j).upd := by
    rcases Nat.lt_trichotomy j i with h | h | h
    · exact (fixO_of_obD i (hv.fix i hi).2).2 j h
    · exact (hji h).elim
    · rcases hv.away i j h hj with h' | h'
      · have := hc.pred hr j (by omega) hD i h'; rw [hnd] at this; cases this
      · exact h'.2
  exact fixO_names this s hT
theorem step_stD (hr : RegOK ops k tab) (hv : Valid X ops tab st0 res k) (hdst : ∀ j, j < k → (dstT ops j).isSome = true) (hc : Closed ops D) {i d : Nat} (hi : i < k) (hnd : D i = false) (hp : ∀ p ∈ predT tab i, D p = true) (hd : dstT ops i = some d)
    (hR : R X.C A N g ⟨(d, (res i).x) :: (stD ops res st0 D k).tmps, (res i).upd ++ (stD ops res st0 D k).objs⟩ a w) : R X.C A N g (stD ops res st0 (addD i D) k) a w := by
  have hk := hr.le
  refine hR.le' (fun t x hx => ?_) fun s cs hs => ?_
  · simp only [stD] at hx ⊢
    by_cases hdt : d = t
    · subst hdt
      rw [lk_tmD_add_self hd k hi fun j h1 h2 h3 h4 => ?_] at hx
      · simpa [lk] using hx
      · rcases hr.apart j i h2 h1 with h | h
        · have := hc.pred hr j (by omega) h3 i h; rw [hnd] at this; cases this
        · simp [clash, hd, h4] at h
    · simp only [lk, hdt, if_false]
      rw [← hx]
      exact lk_tmD k fun j hj hdj => by
        have : j ≠ i := fun e => by subst e; rw [hd] at hdj; injection hdj with e; exact hdt e
        simp [addD, this]
  · simp only [stD] at hs ⊢
    rw [lk_obD_add hnd k hi fun c hcs => disj_upd hr hv hdst hc hi hnd hcs] at hs
    rw [lk_append]; exact hs
theorem closed_add (hc : Closed ops D) {i : Nat} (hd : ∀ e ∈ edgesOf ops i, D e = true) : Closed ops (addD i D) := fun j hj hD e he => by
  simp only [addD] at hD ⊢
  split
  · rfl
  · by_cases hji : j = i
    · subst hji; exact hd e he
    · simp only [hji, if_false] at hD
      exact hc j hj hD e he
end
end Go.Abs
namespace Go.Abs
section
variable {X : Env} {A : A0} {N : Nat} {g : Gh} {st0 : St} {a : Act} {w : World} {ops : Array Oper} {k : Nat} {tab : List (List Nat × List Nat)} {res : Nat → Res} {D : Nat → Bool}
def dOf (listed : Array Bool) (i : Nat) : Bool := listed.getD i false
theorem ready_iff {listed : Array Bool} (hs : listed.size = ops.size) {i : Nat} : i ∈ Region.ready .any ops listed ↔ i < ops.size ∧ dOf listed i = false ∧ ∀ e ∈ edgesOf ops i, dOf listed e = true := by
  rw [mem_ready]
  constructor
  · rintro ⟨h1, o, ho, h2⟩
    have hi : i < ops.size := by
      rcases Nat.lt_or_ge i ops.size with h | h
      · exact h
      · rw [Array.getElem?_eq_none h] at ho; cases ho
    refine ⟨hi, ?_, fun e he => ?_⟩
    · simpa [dOf, Array.getD, hs, hi] using h1
    · simp only [edgesOf, ho, List.mem_filterMap] at he
      obtain ⟨ed, hed, he⟩ := he
      split at he
      · rename_i hb
        injection he with he
        subst he
        exact h2 ed (by simpa using hed) hb
      · cases he
  · rintro ⟨hi, h1, h2⟩
    refine ⟨?_, ops[i], Array.getElem?_eq_getElem hi, fun e he hb => ?_⟩
    · simpa [dOf, Array.getD, hs, hi] using h1
    · refine h2 e.on ?_
      simp only [edgesOf, Array.getElem?_eq_getElem hi, List.mem_filterMap]
      exact ⟨e, by simpa using he, by simp [hb]⟩
theorem dOf_set {listed : Array Bool} {i : Nat} (hi : i < listed.size) : dOf (listed.setIfInBounds i true) = addD i (dOf listed) := by
  funext j
  simp only [dOf, addD, Array.getD_eq_getD_getElem?, Array.getElem?_setIfInBounds]
  by_cases hij : i = j
  · subst hij; simp [hi]
  · have : j ≠ i := fun e => hij e.symm
    simp [hij, this]
def unl (listed : Array Bool) : Nat := listed.toList.count false
theorem unl_set {listed : Array Bool} {i : Nat} (hi : i < listed.size) (hd : dOf listed i = false) : unl (listed.setIfInBounds i true) + 1 = unl listed := by
  have hl : i < listed.toList.length := by simpa using hi
  have hv : listed.toList[i] = false := by simpa [dOf, Array.getD, hi] using hd
  unfold unl
  rw [Array.toList_setIfInBounds, List.count_set hl, hv]
  have : 0 < listed.toList.count false := List.count_pos_iff.2 (by rw [← hv]; exact List.getElem_mem hl)
  have h1 : (true == false) = false := rfl
  rw [h1]
  simp only [beq_self_eq_true, if_true, Bool.false_eq_true, if_false]
  omega
theorem unl_zero {listed : Array Bool} (h : unl listed = 0) {i : Nat} (hi : i < listed.size) : dOf listed i = true := by
  cases hd : dOf listed i with
  | true => rfl
  | false => have := unl_set hi hd; omega
theorem explore_seq (hr : RegOK ops k tab) {Q : Exit → Act → World → Prop} : ∀ (fuel i : Nat) (listed : Array Bool) (a : Act) (w : World), listed.size = ops.size → unl listed ≤ fuel → k ≤ i → i ≤ ops.size → (∀ j, j < ops.size → dOf listed j = decide (j < i)) →
    wpList X.C.P ops Q (ops.toList.drop i) a w → wpAny X.C.P .any ops Q fuel listed a w := by
  intro fuel
  induction fuel with
  | zero =>
    intro i listed a w hs hu hk hi hd h
    have hin : i = ops.size := by
      rcases Nat.lt_or_ge i ops.size with hlt | hge
      · have := unl_zero (by omega) (by omega : i < listed.size); rw [hd i hlt] at this; simp at this
      · omega
    subst hin
    rw [List.drop_eq_nil_of_le (by simp)] at h
    refine ⟨?_, h⟩
    cases hrd : Region.ready .any ops listed with
    | nil => rfl
    | cons j l =>
      have hj : j ∈ Region.ready .any ops listed := by rw [hrd]; simp
      have := (ready_iff hs).1 hj
      rw [hd j this.1] at this; simp at this; omega
  | succ fuel ih =>
    intro i listed a w hs hu hk hi hd h
    have honly : ∀ j ∈ Region.ready .any ops listed, j = i := fun j hj => by
      obtain ⟨h1, h2, h3⟩ := (ready_iff hs).1 hj
      rw [hd j h1] at h2
      have hge : i ≤ j := by simpa using h2
      rcases Nat.lt_or_ge i j with hlt | hle
      · have hp := pred_of_edges hr (D := dOf listed) (fun q hq hD e he => by
          rw [hd q hq] at hD
          have := hr.edge q hq e he
          rw [hd e (by omega)]; simp at hD ⊢; omega) h1 h3 i (hr.tail j h1 (by omega) i hlt)
        rw [hd i (by omega)] at hp; simp at hp
      · omega
    constructor
    · intro h0
      rcases Nat.lt_or_ge i ops.size with hlt | hge
      · have : i ∈ Region.ready .any ops listed := (ready_iff hs).2 ⟨hlt, by rw [hd i hlt]; simp, fun e he => by
          have := hr.edge i hlt e he
          rw [hd e (by omega)]; simp; omega⟩
        rw [h0] at this; cases this
      · have hin : i = ops.size := by omega
        subst hin
        rw [List.drop_eq_nil_of_le (by simp)] at h
        exact h
    · intro j hj
      have hji := honly j hj
      subst hji
      obtain ⟨hlt, hnd, _⟩ := (ready_iff hs).1 hj
      have hget : ops[j]? = some ops[j] := Array.getElem?_eq_getElem hlt
      rw [List.drop_eq_getElem_cons (by simpa using hlt)] at h
      have hw : wpOp X.C.P ops Q j (wpList X.C.P ops Q (ops.toList.drop (j + 1))) a w := by
        unfold wpOp
        simp only [hget]
        simpa [wpList] using h
      refine wpOp_mono (fun a' w' h' => ih (j + 1) _ a' w' (by simp [hs]) (by have := unl_set (by omega : j < listed.size) hnd; omega) (by omega) (by omega) (fun q hq => ?_) h') hw
      rw [dOf_set (by omega)]
      simp only [addD]
      split
      · rename_i e; subst e; simp
      · rename_i e; rw [hd q hq]; congr 1; simp; omega
theorem free_step (hA : A.ext = X.ext) (hX : ∀ s ∈ X.ext, s % 32 = 31) (hN : ∀ o ∈ ops, ∀ d, o.dst = some d → d < N) (hr : RegOK ops k tab) (hv : Valid X ops tab st0 res k) (hdst : ∀ j, j < k → (dstT ops j).isSome = true) (hc : Closed ops D) {i : Nat} (hi : i < k) (hnd : D i = false) (hp : ∀ p ∈ predT tab i, D p = true)
    (hR : R X.C A N g (stD ops res st0 D k) a w) {K : Act → World → Prop} {Q : Exit → Act → World → Prop} (hK : ∀ g' a' w', R X.C A N g' (stD ops res st0 (addD i D) k) a' w' → K a' w') : wpOp X.C.P ops Q i K a w := by
  obtain ⟨o, ho, hsome, hop⟩ := hv.op i hi
  obtain ⟨d, hd⟩ := Option.isSome_iff_exists.1 hsome
  have hdt : dstT ops i = some d := by simp [dstT, ho, hd]
  have hRr := restr_le hr hv hc hi hnd hp hR
  have hdN : ∀ d', o.dst = some d' → d' < N := hN o (Array.mem_of_getElem? ho)
  unfold wpOp
  simp only [ho]
  rcases hop with ⟨hg, hG⟩ | ⟨⟨j, b, hg, hoff⟩, hres⟩
  · have hw : Region.wanted o (yielded ops a.tmps) = true := by
      rcases hg with hg | ⟨j, b, hg, hb⟩
      · simp [Region.wanted, hg]
      · simp [Region.wanted, hg, guard_spec hRr hb]
    simp only [hw, if_true]
    refine .inl (hG A N g a w hRr K Q fun u g' w' hgr hx hu => ?_)
    have hext : ∀ s, s ∈ A.ext → s ∉ (res i).T := fun s hs hT => by
      have h7 := hX s (hA ▸ hs)
      have h8 := List.all_eq_true.1 (hv.ext i hi) s hT
      simp [h7] at h8
    have h1 := (hR.app hgr hext hu).put hdN hx
    obtain ⟨f1, f2⟩ := fix_stD hr hv hdst hc hi hnd
    refine hK g' _ w' (step_stD hr hv hdst hc hi hnd hp hdt ?_)
    have e : (St.put o.dst (res i).x (St.app (res i).S (res i).T (res i).T (res i).upd (stD ops res st0 D k))) = ⟨(d, (res i).x) :: (stD ops res st0 D k).tmps, (res i).upd ++ (stD ops res st0 D k).objs⟩ := by
      simp only [hd, St.put, St.app]
      rw [f1, f2]
    rw [← e]
    exact h1
  · have hw : Region.wanted o (yielded ops a.tmps) = false := by
      rcases hoff with ⟨b', hb, hne⟩ | hb
      · simp [Region.wanted, hg, guard_spec hRr hb, hne]
      · simp [Region.wanted, hg, guard_off hRr hb]
    simp only [hw, Bool.false_eq_true, if_false]
    refine hK g _ w (step_stD hr hv hdst hc hi hnd hp hdt ?_)
    have h1 := hR.put (x := .tup []) (u := undef) hdN VR_off
    rw [hres]
    rw [hd] at h1 ⊢
    exact h1
theorem explore (hA : A.ext = X.ext) (hX : ∀ s ∈ X.ext, s % 32 = 31) (hN : ∀ o ∈ ops, ∀ d, o.dst = some d → d < N) (hr : RegOK ops k tab) (hv : Valid X ops tab st0 res k) (hdst : ∀ j, j < k → (dstT ops j).isSome = true) {Q : Exit → Act → World → Prop}
    (htail : ∀ g a w, R X.C A N g (canon ops res st0 k) a w → wpList X.C.P ops Q (ops.toList.drop k) a w) : ∀ (fuel : Nat) (listed : Array Bool) (g : Gh) (a : Act) (w : World), listed.size = ops.size → unl listed ≤ fuel → Closed ops (dOf listed) → (∀ j, j < ops.size → dOf listed j = true → j < k) →
    R X.C A N g (stD ops res st0 (dOf listed) k) a w → wpAny X.C.P .any ops Q fuel listed a w := by
  have hk := hr.le
  have full : ∀ (fuel : Nat) (listed : Array Bool) (g : Gh) (a : Act) (w : World), listed.size = ops.size → unl listed ≤ fuel → (∀ j, j < ops.size → dOf listed j = true → j < k) → (∀ j, j < k → dOf listed j = true) → R X.C A N g (stD ops res st0 (dOf listed) k) a w → wpAny X.C.P .any ops Q fuel listed a w := by
    intro fuel listed g a w hs hu hlt hall hR
    have e : stD ops res st0 (dOf listed) k = canon ops res st0 k := by
      simp only [stD, canon]
      rw [tmD_congr (res := res) (res' := res) (D := dOf listed) (D' := fun _ => true) k fun j hj => ⟨rfl, hall j hj⟩, obD_congr (res := res) (res' := res) (D := dOf listed) (D' := fun _ => true) k fun j hj => ⟨rfl, hall j hj⟩]
    rw [e] at hR
    refine explore_seq hr fuel k listed a w hs hu (Nat.le_refl _) hk (fun j hj => ?_) (htail g a w hR)
    cases hd : dOf listed j with
    | true => simp [hlt j hj hd]
    | false =>
      have : ¬ j < k := fun h => by rw [hall j h] at hd; cases hd
      simp [this]
  intro fuel
  induction fuel with
  | zero =>
    intro listed g a w hs hu hc hlt hR
    exact full 0 listed g a w hs hu hlt (fun j hj => unl_zero (by omega) (by omega)) hR
  | succ fuel ih =>
    intro listed g a w hs hu hc hlt hR
    by_cases hall : ∀ j, j < k → dOf listed j = true
    · exact full _ listed g a w hs hu hlt hall hR
    · have step : ∀ i ∈ Region.ready .any ops listed, wpOp X.C.P ops Q i (wpAny X.C.P .any ops Q fuel (listed.setIfInBounds i true)) a w := fun i hi => by
        obtain ⟨h1, h2, h3⟩ := (ready_iff hs).1 hi
        have hp := pred_of_edges hr hc h1 h3
        have hik : i < k := by
          rcases Nat.lt_or_ge i k with h | h
          · exact h
          · exact (hall fun j hj => hp j (hr.tail i h1 h j (by omega))).elim
        refine free_step hA hX hN hr hv hdst hc hik h2 hp hR fun g' a' w' hR' => ?_
        rw [← dOf_set (by omega)] at hR'
        refine ih _ g' a' w' (by simp [hs]) (by have := unl_set (by omega : i < listed.size) h2; omega) (by rw [dOf_set (by omega)]; exact closed_add hc h3) (fun j hj hD => ?_) hR'
        rw [dOf_set (by omega)] at hD
        simp only [addD] at hD
        split at hD
        · rename_i e; omega
        · exact hlt j hj hD
      refine ⟨fun h0 => ?_, step⟩
      have hex : ∃ j, j < k ∧ dOf listed j = false := by
        apply Classical.byContradiction
        intro hno
        refine hall fun j hj => ?_
        cases hd : dOf listed j with
        | true => rfl
        | false => exact (hno ⟨j, hj, hd⟩).elim
      have least : ∀ n j, j < k → dOf listed j = false → j ≤ n → ∃ i, i < k ∧ i ∈ Region.ready .any ops listed := by
        intro n
        induction n with
        | zero =>
          intro j hj hd hjn
          have : j = 0 := by omega
          subst this
          exact ⟨0, hj, (ready_iff hs).2 ⟨by omega, hd, fun e he => by have := hr.edge 0 (by omega) e he; omega⟩⟩
        | succ n ihn =>
          intro j hj hd hjn
          by_cases hed : ∀ e ∈ edgesOf ops j, dOf listed e = true
          · exact ⟨j, hj, (ready_iff hs).2 ⟨by omega, hd, hed⟩⟩
          · have : ∃ e, e ∈ edgesOf ops j ∧ dOf listed e = false := by
              apply Classical.byContradiction
              intro hno
              refine hed fun e he => ?_
              cases hde : dOf listed e with
              | true => rfl
              | false => exact (hno ⟨e, he, hde⟩).elim
            obtain ⟨e, he, hde⟩ := this
            have := hr.edge j (by omega) e he
            exact ihn e (by omega) hde (by omega)
      obtain ⟨j, hj, hd⟩ := hex
      obtain ⟨i, _, hi⟩ := least k j hj hd (by omega)
      rw [h0] at hi; cases hi
end
theorem draw_intro {X : Env} {ops : Array Oper} {K : St → Prop} {st : St} (k : Nat) (tab : List (List Nat × List Nat)) (hm : X.C.P.follows .mixedOrders = true) (hok : regOK ops k tab = true)
    (h : freeA X ops st.objs (ops.toList.take k) tab 0 [] (opsA X ops (ops.toList.drop k) K) st) : drawA X ops K st := by
  intro A N g a w hA hN hX hR id Q hQ
  have hr := regOK.spec hok
  have hk := hr.le
  have hlen : (ops.toList.take k).length = k := by simp; omega
  obtain ⟨res, hv, hK⟩ := freeA_sound (X := X) (st0 := st) (ops := ops) (tab := tab) (ops.toList.take k) tab 0 [] (fun _ => ⟨.undef, [], [], []⟩) (fun j o hj => by
    rw [List.getElem?_take] at hj
    split at hj
    · simpa using hj
    · cases hj) (fun j q hj => by simpa using hj) ⟨fun i hi => by omega, fun i hi => by omega, fun i hi => by omega, fun i hi => by omega, fun i j _ hj => by omega⟩ (fun i hi => by omega) h
  rw [hlen, Nat.zero_add] at hv hK
  have hdst : ∀ j, j < k → (dstT ops j).isSome = true := fun j hj => by
    obtain ⟨o, ho, hd, _⟩ := hv.op j hj
    simpa [dstT, ho] using hd
  refine wp_region_any hm (explore hA hX hN hr hv hdst (fun g' a' w' hR' => ?_) ops.size (Array.replicate ops.size false) g a _ (by simp) (by simp [unl]) ?_ ?_ ?_)
  · exact opsA_sound hA hX (N := N) (K := K) (Q := Q) hQ (ops.toList.drop k) g' _ a' w' (fun o ho => by
      have hmem : o ∈ ops := by simpa using List.mem_of_mem_drop ho
      unfold opOK
      cases hd : o.dst with
      | none => rfl
      | some d => simp; exact hN o hmem d hd) hK hR'
  · intro i hi hD; simp [dOf, Array.getD, hi] at hD
  · intro j hj hD; simp [dOf, Array.getD, hj] at hD
  · have e : stD ops res st (dOf (Array.replicate ops.size false)) k = st := by
      have hf : ∀ j, j < k → dOf (Array.replicate ops.size false) j = false := fun j hj => by
        have : j < ops.size := by omega
        simp [dOf, Array.getD, this]
      have h1 : tmD (dstT ops) res (dOf (Array.replicate ops.size false)) st.tmps k = st.tmps := by
        rw [tmD_cut (i := 0) k (by omega) fun j _ hj => hf j hj]; rfl
      have h2 : ∀ n, n ≤ k → obD res (dOf (Array.replicate ops.size false)) st.objs n = st.objs := fun n => by
        induction n with
        | zero => intro _; rfl
        | succ n ih => intro hn; simp only [obD, hf n (by omega), Bool.false_eq_true, if_false]; exact ih (by omega)
      simp only [stD, h1, h2 k (Nat.le_refl _)]
    rw [e]
    exact hR.drew
end Go.Abs
namespace Go.Abs
theorem drawA_imp {X : Env} {ops : Array Oper} {K : St → Prop} {st st' : St} (h : Imp X st st') (hd : drawA X ops K st') : drawA X ops K st := fun A N g a w hA hN hX hR id Q hQ => by
  obtain ⟨g', hR'⟩ := h A N g a w hA hR
  exact hd A N g' a w hA hN hX hR' id Q hQ
def appFull (P : Program) (t t2 : TypeId) (x y : AV) : Option AV := match x, rowInf P t with
  | .sl .full m es, some (_, n, _) => match elems n y with
    | some fs => if m = n ∧ isSliceT P t2 = true ∧ es.length + fs.length ≤ 4294967296 then some (.sl .no n (es ++ fs)) else none
    | none => none
  | _, _ => none
section
variable {C : Ctx} {A : A0} {N : Nat} {g g' : Gh} {st : St} {a : Act} {w w' : World} {P : Program}
theorem grow_ro (g : Gh) (w : World) (o : Obj) : Grow [] [] [] g w { g with own := fun x => if x = w.heap.size then .ro else g.own x } (w.drew.alloc o) where
  ro := fun b hb h => ⟨by simp [Nat.ne_of_lt hb, h], alloc_old w.drew o b hb⟩
  row := fun b q hb _ h => ⟨by simp [Nat.ne_of_lt hb, h], alloc_old w.drew o b hb⟩
  rows := fun _ _ => rfl
  boxes := fun _ _ => rfl
  os := rfl
  tape := ⟨rfl, by first | exact Nat.le_refl _ | exact Nat.le_succ _⟩
  output := rfl
  size := by simp
  other := fun b hb h => ⟨by simp [Nat.ne_of_lt hb, h], alloc_old w.drew o b hb⟩
  kept := fun s _ _ h hb => ⟨by simp [Nat.ne_of_lt hb, h], alloc_old w.drew o _ hb⟩
theorem appFullG {o : Oper} {x y : Operand} {t t2 : TypeId} {z : AV} (ho : o.op = .call { callee := .builtin .append, args := #[x, y], argTypes := #[t, t2] }) (h : appFull C.P t t2 (ev C st x) (ev C st y) = some z) : OpG C o st z [] [] [] [] := by
  intro A N g a w hR K Q hk
  unfold appFull at h
  split at h
  · rename_i m es e n b hx hr
    split at h
    · rename_i fs hfs
      split at h
      · rename_i hc
        obtain ⟨rfl, ht2, hbig⟩ := hc
        simp only [Option.some.injEq] at h
        subst h
        obtain ⟨hu, i, zv, hi, hz, hzs, hsz, hby, hn, hb⟩ := rowInf_spec hr
        subst hsz
        obtain ⟨consts, he⟩ := exec_builtin a ho
        have hxv := hR.ev x
        rw [hx] at hxv
        obtain ⟨vs, sy, py, ly⟩ := elems_src hn hfs (hR.ev y)
        obtain ⟨us, sx, px, lx⟩ := elems_src (n := i.size) (es := es) hn (by simp [elems]) hxv
        have hp := hxv
        simp only [VR, PR] at hp
        obtain ⟨_, ad, cap, hu2, k2, k3, k4, k5, k6⟩ := hp
        have hcap := k4 trivial
        subst hcap
        have hdoes : ∀ u w', (Builtin.append_ #[t, t2] o.type #[a.eval x, a.eval y]).run C.P w = .ok u w' → Does C.P o a w u w' := fun u w' hrun => does_pure he (by simpa using hrun)
        by_cases hm : fs.length = 0
        · have hf : fs = [] := List.eq_nil_of_length_eq_zero hm
          subst hf
          have hv0 : vs = [] := List.eq_nil_of_length_eq_zero (by simpa using sy.1)
          subst hv0
          rw [hu2] at hdoes
          refine (hdoes _ _ (run_append_same hu ht2 hi sy k2)).wp (hk _ g w (Grow.refl g w) ?_ (fun s cs hs => by cases hs))
          rw [List.append_nil, ← hu2]
          exact WeakV.full _ _ _ hxv
        · have hbytes : (es.length + fs.length) * i.bytes ≤ 140737488355328 := by
            have : (es.length + fs.length) * i.bytes ≤ 4294967296 * 32768 := Nat.mul_le_mul hbig (by omega)
            omega
          have hrun := run_append_new (ty := o.type) hu ht2 hi hz (base := ad) (sLen := es.length) (sCap := es.length) (olds := us) (hu2 ▸ sx) sy (by omega) (Nat.le_refl _) hbytes (by omega)
          rw [hu2] at hdoes
          have hgr := grow_ro g w (.cells (us.toArray ++ vs.toArray ++ Builtin.zeroCells zv.cells (grownCap w (es.length + fs.length) es.length e - (es.length + fs.length))) e)
          refine (hdoes _ _ hrun).wp (hk _ _ _ hgr ?_ (fun s cs hs => by cases hs))
          simp only [VR, PR]
          refine ⟨(fun _ _ h => by cases h), some ⟨w.heap.size, 0, none⟩, grownCap w (es.length + fs.length) es.length e, by simp, by simpa using grownCap_ge w (es.length + fs.length) es.length e, grownCap_le_maxLen w _ _ e (by simp only [maxLen]; omega), (fun h => by cases h), k5, .inr ⟨⟨w.heap.size, 0, none⟩, rfl, by simp [isRo], ?_⟩⟩
          refine PRe.of_list (es ++ fs) (us ++ vs) _ _ 0 (fun e' he' => (List.mem_append.1 he').elim (lx e') (ly e')) ?_ ?_
          · rw [List.flatten_append]; exact PRl.append (PRl.mono hgr.ro' px) (PRl.mono hgr.ro' py)
          · intro j v hj
            simp only [Nat.zero_mul, Nat.zero_add, add_lit]
            have hh : (w.drew.alloc (.cells (us.toArray ++ vs.toArray ++ Builtin.zeroCells zv.cells (grownCap w (es.length + fs.length) es.length e - (es.length + fs.length))) e)).heap[w.heap.size]? = some (.cells (us.toArray ++ vs.toArray ++ Builtin.zeroCells zv.cells (grownCap w (es.length + fs.length) es.length e - (es.length + fs.length))) e) := heap_alloc_new w.drew _
            rw [cell_of_row _ _ _ _ _ _ hh]
            have hj' : j < (us ++ vs).length := by
              rcases Nat.lt_or_ge j (us ++ vs).length with h | h
              · exact h
              · rw [List.getElem?_eq_none h] at hj; cases hj
            rw [Array.getElem?_append_left (by simpa using hj')]
            simpa using hj
      · cases h
    · cases h
  · cases h
def litFull (n len : Nat) (zs : List Value) (parts : List (Nat × AV)) : Option AV :=
  match fillA (fun i => some (i * n, n)) (List.replicate len (vals zs)).flatten parts with
  | some L => match pureL L with
    | some ps => if okCells L = true ∧ ps.length = len * n ∧ len * n ≤ 16777216 ∧ rowsOf L = [] then some (.sl .full n (chunk n len ps)) else none
    | none => none
  | none => none
def litF (P : Program) (t : TypeId) (len : Nat) (parts : List (Nat × AV)) : Option AV := match rowInf P t with
  | some (e, n, _) => match zeroOf P e with
    | some zs => litFull n len zs parts
    | none => none
  | none => none
theorem gh_freeze_nil (g : Gh) : g.freeze [] = g := by
  cases g
  simp only [Gh.freeze, List.not_mem_nil, if_false, Gh.mk.injEq, and_true]
  funext b
  split <;> simp_all
theorem litFullG {o : Oper} {t : TypeId} {len : Nat} {ps : Array (Nat × Operand)} {z : AV} (ho : o.op = .buildSlice t len ps) (h : litF C.P t len (parts C st ps) = some z) : OpG C o st z [] [] [] [] := by
  intro A N g a w hR K Q hk
  unfold litF at h
  split at h
  · rename_i e n b ht
    split at h
    · rename_i zs hzs
      obtain ⟨hu, i, zv, hi, hz, hzsz, hsz, hby, hn, hb⟩ := rowInf_spec ht
      have hzz := zeroOf_spec hzs hi hz
      have hzl : zs.length = n := by rw [hzz]; simpa using hzsz
      have hp2 := VRs_parts hR ps
      have hp1 : (parts C st ps).map (·.1) = (ps.toList.map fun p => (p.1, a.eval p.2)).map (·.1) := by simp [parts]
      have hex := exec_buildSlice a ho
      generalize parts C st ps = pa at h hp1 hp2
      generalize (ps.toList.map fun p => (p.1, a.eval p.2)) = pv at hp1 hp2 hex
      unfold litFull at h
      split at h
      · rename_i L hL
        have hz0 : VRs g w (List.replicate len (vals zs)).flatten (List.replicate len zs).flatten := by
          have : ∀ m : Nat, VRs g w (List.replicate m (vals zs)).flatten (List.replicate m zs).flatten := by
            intro m
            induction m with
            | zero => simp [VRs]
            | succ m ih => rw [List.replicate_succ, List.replicate_succ, List.flatten_cons, List.flatten_cons]; exact VRs.append (VRs_vals zs) ih
          exact this len
        have harr : ((Array.range (len * n)).map (zv.cells[· % zv.cells.size]!)).toList = (List.replicate len zs).flatten := by
          apply List.ext_getElem?
          intro j
          cases hj : (List.replicate len zs).flatten[j]? with
          | none =>
            have : len * n ≤ j := by
              have := List.getElem?_eq_none_iff.1 hj
              simpa [List.length_flatten, hzl, Nat.mul_comm] using this
            simp; omega
          | some v =>
            obtain ⟨h1, h2⟩ := flatten_replicate_get zs _ _ _ hj
            rw [hzl] at h2
            simp only [Array.getElem?_toList, Array.getElem?_map, Array.getElem?_range, if_pos h2, Option.map_some]
            rw [hzz] at h1
            simp only [Array.length_toList, Array.getElem?_toList] at h1
            rw [getElem!_def, h1]
        obtain ⟨cur, hf, hcur⟩ := fill_sound (fun i => some (i * n, n)) pa pv _ ((Array.range (len * n)).map (zv.cells[· % zv.cells.size]!)) L hp1 hp2 (by rw [harr]; exact hz0) hL
        split at h
        · rename_i qs hps
          split at h
          · rename_i hc
            obtain ⟨hok, hpl, hbig, hrows⟩ := hc
            simp only [Option.some.injEq] at h
            subst h
            obtain ⟨c1, c2, c3⟩ := chunk_len n len qs hpl
            have hpr := pure_PRl (S := []) hcur hps (fun r hr => by rw [hrows] at hr; exact hr) hok
            rw [gh_freeze_nil] at hpr
            have hf' : Instr.fill (fun i => some (i * n, n)) (if len * n = 0 then #[] else (Array.range (len * n)).map (zv.cells[· % zv.cells.size]!)) pv = some cur := by
              by_cases h0 : len * n = 0
              · rw [h0] at hf ⊢; simpa [Array.range_zero'] using hf
              · simpa [h0] using hf
            have hrun : (Instr.buildSlice t len pv.toArray).run C.P w = .ok (.slice (some ⟨w.heap.size, 0, none⟩) len len) (w.alloc (.cells cur e)) := by
              by_cases h0 : len * n = 0
              · simp only [h0, if_true] at hf'
                simp [Instr.buildSlice, run_underlying hu, sizeOf, typeInfo, hi, hsz, h0, Array.range_zero', hf', newRow]
              · simp only [h0, if_false] at hf'
                simp [Instr.buildSlice, run_underlying hu, sizeOf, typeInfo, hi, hsz, h0, zeroValue, hz, hf', newRow]
                exact hbig
            have hgr : Grow [] [] [] g w { g with own := fun x => if x = w.heap.size then .ro else g.own x } (w.alloc (.cells cur e)) :=
              { ro := fun b hb h => ⟨by simp [Nat.ne_of_lt hb, h], alloc_old w _ b hb⟩
                row := fun b q hb _ h => ⟨by simp [Nat.ne_of_lt hb, h], alloc_old w _ b hb⟩
                rows := fun _ _ => rfl
                boxes := fun _ _ => rfl
                os := rfl
                tape := ⟨rfl, by first | exact Nat.le_refl _ | exact Nat.le_succ _⟩
                output := rfl
                size := by simp
                other := fun b hb h => ⟨by simp [Nat.ne_of_lt hb, h], alloc_old w _ b hb⟩
                kept := fun s _ _ h hb => ⟨by simp [Nat.ne_of_lt hb, h], alloc_old w _ _ hb⟩ }
            refine (does_pure hex hrun).wp (hk _ _ _ hgr ?_ (fun s cs hs => by cases hs))
            simp only [VR, PR, c1]
            refine ⟨(fun _ _ h => by cases h), some ⟨w.heap.size, 0, none⟩, len, rfl, Nat.le_refl _, by simp only [maxLen]; have := Nat.le_mul_of_pos_right len hn; omega, (fun _ => rfl), hn, .inr ⟨⟨w.heap.size, 0, none⟩, rfl, by simp [isRo], ?_⟩⟩
            refine PRe.of_list _ cur.toList _ _ 0 c2 (by rw [c3]; exact PRl.mono hgr.ro' hpr) ?_
            intro j v hj
            simp only [Nat.zero_mul, Nat.zero_add, add_lit]
            have hh : (w.alloc (.cells cur e)).heap[w.heap.size]? = some (.cells cur e) := heap_alloc_new w _
            rw [cell_of_row _ _ _ _ _ _ hh]
            simpa using hj
          · cases h
        · cases h
      · cases h
    · cases h
  · cases h
end
end Go.Abs
