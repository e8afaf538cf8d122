/- part 3 of the proof -/
import Derived.Deep.LoopGhost
import Derived.Scope
import Derived.Test.YtobcllcndnbmlaaGreatDoorM02
set_option linter.all false
namespace Go.Abs
def OpG (C : Ctx) (o : Oper) (r : St) (x : AV) (S T U : List Nat) (upd : List (Nat × List AV)) : Prop :=
  ∀ A N g a w, R C A N g r a w → ∀ K Q, (∀ u g' w', Grow S T U g w g' w' → VR g' w' x u → (∀ s cs, lk s upd = some cs → ObjAt g' w' s cs) → K (a.put o.dst u) w') → o.wp C.P a w K Q
def St.app (S T U : List Nat) (upd : List (Nat × List AV)) (st : St) : St := ⟨killT S T st.tmps, upd ++ killO S T (dropO U st.objs)⟩
section
variable {C : Ctx} {A : A0} {N : Nat} {g g' : Gh} {st : St} {a : Act} {w w' : World}
theorem R.glob (h : R C A N g st a w) : Glob C g w := fun i cs hi => h.fr.glob i cs hi
theorem R.app (h : R C A N g st a w) {S T U : List Nat} {upd : List (Nat × List AV)} (hg : Grow S T U g w g' w') (hext : ∀ s, s ∈ A.ext → s ∉ T) (hu : ∀ s cs, lk s upd = some cs → ObjAt g' w' s cs) :
    R C A N g' (st.app S T U upd) a w' := by
  have h1 := h.grow hg hext
  refine ⟨h1.size, h1.defs, h1.tm, fun s cs hs => ?_, h1.fr⟩
  simp only [St.app, lk_append] at hs
  cases hl : lk s upd with
  | none => rw [hl] at hs; exact h1.ob s cs (by simpa [St.kill] using hs)
  | some c => rw [hl] at hs; simp at hs; subst hs; exact hu s c hl
theorem OpG.wp {o : Oper} {x : AV} {S T U : List Nat} {upd : List (Nat × List AV)} (ho : OpG C o st x S T U upd) (h : R C A N g st a w) (hext : ∀ s, s ∈ A.ext → s ∉ T) (hd : ∀ k, o.dst = some k → k < N)
    {K : Act → World → Prop} {Q : Exit → Act → World → Prop} (hk : ∀ g' a' w', R C A N g' ((st.app S T U upd).put o.dst x) a' w' → K a' w') : o.wp C.P a w K Q :=
  ho A N g a w h K Q fun u g' w' hg hx hu => hk g' _ w' ((h.app hg hext hu).put hd hx)
theorem Steps.wp {o : Oper} {x : AV} {st' : St} (hs : Steps C A N o a w x st') (hd : ∀ k, o.dst = some k → k < N)
    {K : Act → World → Prop} {Q : Exit → Act → World → Prop} (hk : ∀ g' a' w', R C A N g' (st'.put o.dst x) a' w' → K a' w') : o.wp C.P a w K Q := by
  obtain ⟨u, w', g', h1, h2, h3⟩ := hs
  exact h1.wp (hk g' _ w' (h2.put hd h3))
theorem run_enter {P : Program} {f : FuncId} {fn : Func} {c : Code} (hf : P.funcs[f]? = some fn) (hname : (fn.name == "runtime.NumGoroutine") = false) (hb : fn.body = some c) (args : Array Value) (w : World) : (callFunc f args).run P w = .ok (.enter f args) w := by
  have h1 : ¬ fn.name = "runtime.NumGoroutine" := by simpa using hname
  simp [callFunc, hf, h1, hb]
theorem exec_call (ρ : Act) {P : Program} {o : Oper} {c : Call} {f : Operand} {fid : FuncId} {us : Array Value} (ho : o.op = .call c) (hc : c.callee = .value f) (hf : ρ.eval f = .func (.func fid) #[] us) (w : World) :
    (execOp ρ.eval o).run P w = (callFunc fid (c.args.map ρ.eval ++ us)).run P w := by
  unfold execOp
  rw [ho]
  simp [resolve, hc, hf, Deferred.ofValue, invoke]
theorem exec_call' (ρ : Act) {P : Program} {o : Oper} {c : Call} {f : Operand} {fid : FuncId} {fs us : Array Value} (ho : o.op = .call c) (hc : c.callee = .value f) (hf : ρ.eval f = .func (.func fid) fs us) (w : World) :
    (execOp ρ.eval o).run P w = (callFunc fid (fs ++ c.args.map ρ.eval ++ us)).run P w := by
  unfold execOp
  rw [ho]
  simp [resolve, hc, hf, Deferred.ofValue, invoke]
def FnVal (x : AV) (fid : Nat) (first caps : List AV) : Prop := (x = .fn fid caps ∧ first = []) ∨ (x = .mv fid first ∧ caps = [])
theorem FnVal.read {x : AV} {fid : Nat} {first caps : List AV} {u : Value} (h : FnVal x fid first caps) (hv : VR g w x u) : ∃ fs us, u = .func (.func fid) fs us ∧ VRs g w first fs.toList ∧ VRs g w caps us.toList := by
  rcases h with ⟨rfl, rfl⟩ | ⟨rfl, rfl⟩
  · simp only [VR] at hv
    obtain ⟨us, rfl, h⟩ := hv
    exact ⟨#[], us, rfl, by simp [VRs], h⟩
  · simp only [VR] at hv
    obtain ⟨us, rfl, h⟩ := hv
    exact ⟨us, #[], rfl, h, by simp [VRs]⟩
def Has (v : Way) (st : St) (ob : List (Nat × List AV)) : Prop := ∀ s' cs, lk s' ob = some cs → lk s' (renO v.ρ st.objs) = some cs
def FlatO : List (Nat × List AV) → Prop
  | [] => True
  | p :: l => FlatL p.2 ∧ FlatO l
theorem FlatO.lk : ∀ {l : List (Nat × List AV)} {s : Nat} {cs : List AV}, FlatO l → lk s l = some cs → FlatL cs
  | (j, c) :: l, s, cs, hf, h => by
    simp only [Abs.lk] at h
    split at h
    · injection h with h; subst h; exact hf.1
    · exact FlatO.lk hf.2 h
def CallsF (C : Ctx) (o : Oper) (a : Act) (g : Gh) (w : World) (fid : Nat) (xs : List AV) : Prop := ∃ us : List Value, VRs g w xs us ∧ (execOp a.eval o).run C.P w = (callFunc fid us.toArray).run C.P w
theorem CallsF.val {o : Oper} {c : Call} {f : Operand} {fid : Nat} {first caps : List AV} (ho : o.op = .call c) (hc : c.callee = .value f) (hf : FnVal (ev C st f) fid first caps) (h : R C A N g st a w) : CallsF C o a g w fid (first ++ c.args.toList.map (ev C st) ++ caps) := by
  obtain ⟨fs, us, hus, hfs, hvs⟩ := hf.read (h.ev f)
  refine ⟨fs.toList ++ (c.args.toList.map a.eval) ++ us.toList, VRs.append (VRs.append hfs (VRs_map_ev h _)) hvs, ?_⟩
  rw [exec_call' a ho hc hus w]
  congr 2
  rw [← Array.toList_inj]; simp
theorem callP {o : Oper} {fid : Nat} {xs : List AV} (hcf : CallsF C o a g w fid xs) {v : Way} {ob : List (Nat × List AV)} {S : AV → List (Nat × List AV) → Prop} (hv : v.OK ob)
    (hok : FnP C fid (renL v.ρ xs) ob S) (hob : Has v st ob) (hfl : ∀ y ob', S y ob' → v.ρ.bs = [] ∨ (Flat (y.ren v.back) ∧ FlatO (renO v.back ob'))) (h : R C A N g st a w)
    (hext : ∀ s, s ∈ A.ext → s ∉ rngs v.fm) (hd : ∀ k, o.dst = some k → k < N) {K : Act → World → Prop} {Q : Exit → Act → World → Prop}
    (hk : ∀ y ob' g' a' w', S y ob' → R C A N g' ((st.app (rngs v.back.l) (rngs v.fm) (rngs v.back.m) (renO v.back ob')).put o.dst (y.ren v.back)) a' w' → K a' w') : o.wp C.P a w K Q := by
  obtain ⟨⟨fn, cd, hfn, hname, hb⟩, hcall⟩ := hok
  obtain ⟨us, hargs, hex⟩ := hcf
  unfold Oper.wp
  rw [hex, run_enter hfn hname hb, Oper.upon_enter]
  have hargs' := VRs.ren (ρ := v.ρ) (base := g) hv.into _ _ hargs
  have hgl : Glob C (entry v g) w := fun i cs hi => by
    obtain ⟨h1, h2, h3⟩ := h.glob i cs hi
    exact ⟨h1, ren_ro h2, PRc.mono roRen _ ⟨i, 0, none⟩ 0 h2 h3⟩
  have hc1 := hcall (entry v g) w _ hgl hargs' fun s' cs hs => by
    obtain ⟨s, cs0, h1, h2, rfl⟩ := lk_renO hv.into (hob s' cs hs)
    exact ObjAt.ren hv.into h1 (h.ob s cs0 h2)
  refine Calls.mono hc1 fun e w' he => ?_
  obtain ⟨y, ob', hS, u, g1, rfl, hfr, hy, hob'⟩ := he
  have hfl := hfl y ob' hS
  refine hk y ob' (after v g w g1) _ w' hS ((h.app (after_grow hv hfr) hext fun s cs hs => ?_).put hd (after_VR hv hfr hy (hfl.imp id And.left)))
  obtain ⟨s', cs0, h1, h2, rfl⟩ := lk_renO hv.back hs
  have hk1 := hob' s' cs0 h2
  have hren : ObjAt (g1.ren v.back g) w' s (renL v.back cs0) := ObjAt.ren hv.back h1 hk1
  have hbx : g1.box s' = (g1.ren v.back g).box s := (renBox hv.back h1).symm
  exact hk1.lift (okRen.kind hv.back.m h1) (after_box hfr hren.1) (by show w'.heap[(g1.ren v.back g).box s]? = _; rw [← hbx]) (fun us h => after_VRs hv hfr h (hfl.imp id fun h => FlatO.lk h.2 hs))
theorem R.quiet (h : R C A N g st a w) (hq : Quiet w w') : R C A N g st a w' := by
  have hl : Lasts [] [] g w g w' := ⟨fun b hb ho => ⟨ho, hq.old b hb⟩, fun b _ hb _ ho => ⟨ho, hq.old b hb⟩, fun _ _ => rfl, fun _ _ => rfl⟩
  have := h.lasts hl (h.fr.step hl hq.os hq.tape hq.output hq.size (fun b hb ho => ⟨ho, hq.old b hb⟩) (fun _ _ he => by cases he)) (fun s cs hs _ => ⟨(h.ob s cs hs).1, hq.old _ (h.ob s cs hs).lt⟩)
  rwa [stKill_nil] at this
theorem callR {o : Oper} {fid r n : Nat} {ys : List AV} {es es' : List (List AV)} (hcf : CallsF C o a g w fid (.sl (.own r 0) n es :: ys))
    (hok : FnRow C fid n es ys es') (h : R C A N g st a w) (hd : ∀ k, o.dst = some k → k < N) {K : Act → World → Prop} {Q : Exit → Act → World → Prop}
    (hk : ∀ g' a' w', R C A N g' ((st.setRun r n 0 es').put o.dst (.tup [])) a' w' → K a' w') : o.wp C.P a w K Q := by
  obtain ⟨⟨fn, cd, hfn, hname, hb⟩, hcall⟩ := hok
  obtain ⟨vs, hargs, hex⟩ := hcf
  unfold Oper.wp
  rw [hex, run_enter hfn hname hb, Oper.upon_enter]
  match vs, hargs with
  | u :: vs, hargs =>
    simp only [VRs, VR] at hargs
    refine Calls.mono (hcall g w r u vs h.glob hargs.1 hargs.2) fun e w' he => ?_
    obtain ⟨rfl, hq⟩ := he
    have hunit : VR g w' (.tup []) (.tuple #[]) := by simp only [VR]; exact ⟨#[], rfl, by simp [VRs]⟩
    rcases hq with ⟨rfl, hq⟩ | ⟨cur, new, T, hran, hq⟩
    · exact hk g _ w' (((h.setRun0 r n 0).quiet hq).put hd hunit)
    · exact hk g _ w' (((h.setRun hran).quiet hq).put hd hunit)
  | [], hargs => simp [VRs] at hargs
theorem callG {o : Oper} {c : Call} {f : Operand} {fid : Nat} {caps : List AV} (ho : o.op = .call c) (hc : c.callee = .value f) (hf : ev C st f = .fn fid caps) {v : Way} {ob ob' : List (Nat × List AV)} {y : AV} (hv : v.OK ob)
    (hok : FnOK C fid (renL v.ρ (c.args.toList.map (ev C st) ++ caps)) ob y ob') (hob : Has v st ob) (hfl : v.ρ.bs = [] ∨ (Flat (y.ren v.back) ∧ FlatO (renO v.back ob'))) :
    OpG C o st (y.ren v.back) (rngs v.back.l) (rngs v.fm) (rngs v.back.m) (renO v.back ob') := by
  intro A N g a w hR K Q hk
  obtain ⟨⟨fn, cd, hfn, hname, hb⟩, hcall⟩ := hok
  have hfv := hR.ev f
  rw [hf] at hfv
  simp only [VR] at hfv
  obtain ⟨us, hus, hvs⟩ := hfv
  unfold Oper.wp
  rw [exec_call a ho hc hus w, run_enter hfn hname hb, Oper.upon_enter]
  have hargs : VRs g w (c.args.toList.map (ev C st) ++ caps) ((c.args.toList.map a.eval) ++ us.toList) := VRs.append (VRs_map_ev hR _) hvs
  have hargs' := VRs.ren (ρ := v.ρ) (base := g) hv.into _ _ hargs
  have hgl : Glob C (entry v g) w := fun i cs hi => by
    obtain ⟨h1, h2, h3⟩ := hR.glob i cs hi
    exact ⟨h1, ren_ro h2, PRc.mono roRen _ ⟨i, 0, none⟩ 0 h2 h3⟩
  have hc1 := hcall (entry v g) w _ hgl hargs' fun s' cs hs => by
    obtain ⟨s, cs0, h1, h2, rfl⟩ := lk_renO hv.into (hob s' cs hs)
    exact ObjAt.ren hv.into h1 (hR.ob s cs0 h2)
  have e : c.args.map a.eval ++ us = ((c.args.toList.map a.eval) ++ us.toList).toArray := by
    rw [← Array.toList_inj]; simp
  rw [e]
  refine Calls.mono hc1 fun e w' he => ?_
  obtain ⟨u, g1, rfl, hfr, hy, hob'⟩ := he
  refine hk u (after v g w g1) w' (after_grow hv hfr) (after_VR hv hfr hy (hfl.imp id And.left)) fun s cs hs => ?_
  obtain ⟨s', cs0, h1, h2, rfl⟩ := lk_renO hv.back hs
  have hk1 := hob' s' cs0 h2
  have hren : ObjAt (g1.ren v.back g) w' s (renL v.back cs0) := ObjAt.ren hv.back h1 hk1
  have hbx : g1.box s' = (g1.ren v.back g).box s := (renBox hv.back h1).symm
  exact hk1.lift (okRen.kind hv.back.m h1) (after_box hfr hren.1) (by show w'.heap[(g1.ren v.back g).box s]? = _; rw [← hbx]) (fun us h => after_VRs hv hfr h (hfl.imp id fun h => FlatO.lk h.2 hs))
end
end Go.Abs
namespace Go.Abs
inductive Ex where
  | normal
  | exit (id : Nat)
  | ret
structure Env where
  C : Ctx
  ext : List Nat
def thenA (K : St → Prop) (Q : Ex → St → Prop) : Ex → St → Prop
  | .normal => K
  | .exit id => Q (.exit id)
  | .ret => Q .ret
def blockA (id : Nat) (Q : Ex → St → Prop) : Ex → St → Prop
  | .normal => Q .normal
  | .exit i => if i = id then Q .normal else Q (.exit i)
  | .ret => Q .ret
def Imp (X : Env) (st st' : St) : Prop := ∀ A N g a w, A.ext = X.ext → R X.C A N g st a w → ∃ g', R X.C A N g' st' a w
def stabV (ext : List Nat) : AV → AV
  | .v x => .v x
  | .ptr s off => if s ∈ ext then .ptr s off else .undef
  | .ifc t (.ptr s off) => if s ∈ ext then .ifc t (.ptr s off) else .undef
  | _ => .undef
def stabT (ext : List Nat) : List (Nat × AV) → List (Nat × AV)
  | [] => []
  | (k, x) :: l => (k, stabV ext x) :: stabT ext l
def CallI (X : Env) (d : Option Nat) (fid : Nat) (xs : List AV) (K : St → Prop) (st : St) : Prop :=
  (∃ fn c, X.C.P.funcs[fid]? = some fn ∧ (fn.name == "runtime.NumGoroutine") = false ∧ fn.body = some c) ∧
  ∀ A g w us, A.ext = X.ext → Fr X.C A g w → VRs g w xs us → (∀ s cs, lk s st.objs = some cs → ObjAt g w s cs) →
    Calls X.C.P fid us.toArray w fun e w' => ∃ u g' y os, e = .returned u ∧ Fr X.C A g' w' ∧ VR g' w' y u ∧ (∀ s cs, lk s os = some cs → ObjAt g' w' s cs) ∧ K (St.put d y ⟨stabT X.ext st.tmps, os⟩)
def callB (X : Env) (d : Option Nat) (fid : Nat) (xs : List AV) (K : St → Prop) (st : St) : Prop :=
  (∃ fz v ob S, v.OK ob ∧ (rngs v.fm).all (fun s => s % 32 != 31) = true ∧ FnP X.C fid (renL v.ρ (freezeL fz xs)) ob S ∧ Has v (st.freeze fz) ob ∧
    ∀ y ob', S y ob' → (v.ρ.bs = [] ∨ (Flat (y.ren v.back) ∧ FlatO (renO v.back ob'))) ∧
      K (((st.freeze fz).app (rngs v.back.l) (rngs v.fm) (rngs v.back.m) (renO v.back ob')).put d (y.ren v.back))) ∨
  (∃ r n es ys es', xs = .sl (.own r 0) n es :: ys ∧ FnRow X.C fid n es ys es' ∧ K ((st.setRun r n 0 es').put d (.tup []))) ∨ CallI X d fid xs K st
def callA (X : Env) (d : Option Nat) (f : AV) (xs : List AV) (K : St → Prop) (st : St) : Prop :=
  match f with
  | .fn fid caps => callB X d fid (xs ++ caps) K st
  | .mv fid first => callB X d fid (first ++ xs) K st
  | _ => False
def methOf (P : Program) (t : TypeId) (name : String) : Option (Nat × Option TypeId) := (P.info? t).bind fun i => (i.methods.find? (·.name == name)).bind fun m => if m.path = #[] then match m.func, P.underlying t with
  | some (f, true), some (.pointer _) => some (f, none)
  | some (f, false), some (.pointer e) => some (f, some e)
  | _, _ => none else none
def methA (C : Ctx) (t : TypeId) (name : String) (x : AV) (objs : List (Nat × List AV)) : Option (Nat × AV) := match methOf C.P t name with
  | some (f, none) => some (f, x)
  | some (f, some e) => match aggOf C.P e, szOf C.P e with
    | some agg, some n => (loadA agg n objs x).map fun y => (f, y)
    | _, _ => none
  | _ => none
def invA (X : Env) (d : Option Nat) (name : String) (x : AV) (xs : List AV) (K : St → Prop) (st : St) : Prop := match x with
  | .ifc t y => match methA X.C t name y st.objs with
    | some (f, r) => callB X d f (r :: xs) K st
    | none => False
  | _ => False
def stepA (d : Option Nat) (K : St → Prop) : Option (AV × St) → Prop
  | some (x, st) => K (st.put d x)
  | none => False
def evs (C : Ctx) (st : St) : List Operand → List AV
  | [] => []
  | x :: xs => ev C st x :: evs C st xs
def cutA (C : Ctx) (st : St) (t : TypeId) (x : AV) (lo hi mx : Option Operand) : Option (AV × St) := match litBound C st lo, litBound C st hi, litBound C st mx, elemOfSlice C.P t, x with
  | some none, some (some h), some (some m), some (_, n), .sl (.own r a) k es => if m = h ∧ k = n ∧ h ≤ es.length then some (.sl (.own r a) n (es.take h), st) else none
  | _, _, _, _, _ => none
def isOwnSl : AV → Bool
  | .sl (.own _ _) _ _ => true
  | _ => false
def doA (X : Env) (o : Oper) (K : St → Prop) (st : St) : Prop :=
  match o.op with
  | .call ⟨.value f, args, _⟩ => callA X o.dst (ev X.C st f) (evs X.C st args.toList) K st
  | .call ⟨.invoke r name, args, _⟩ => invA X o.dst name (ev X.C st r) (evs X.C st args.toList) K st
  | .slice t x lo hi mx => if isOwnSl (ev X.C st x) && mx.isSome then stepA o.dst K (cutA X.C st t (ev X.C st x) lo hi mx) else stepA o.dst K (stepV X.C o st)
  | _ => stepA o.dst K (stepV X.C o st)
def splitA (b' b : Bool) (p q : Prop) : Prop := (b' = b → p) ∧ (b' ≠ b → q)
def setT (d : Nat) (x : AV) : List (Nat × AV) → List (Nat × AV)
  | [] => []
  | (k, y) :: l => if k = d then (k, x) :: l else (k, y) :: setT d x l
theorem setT_same {d : Nat} {x : AV} : ∀ {l : List (Nat × AV)}, lk d l = some x → setT d x l = l
  | (k, y) :: l, h => by
    simp only [lk] at h
    simp only [setT]
    split
    · rename_i hk; simp only [hk, if_true] at h; injection h with h; rw [h]
    · rename_i hk; simp only [hk, if_false] at h; rw [setT_same h]
def St.learn (d : Option Nat) (b : Bool) (st : St) : St := match d with
  | some k => ⟨setT k (.v (.bool b)) st.tmps, st.objs⟩
  | none => st
def gdst (all : Array Oper) (j : Nat) : Option Nat := (all[j]?).bind (·.dst)
def guardOf (all : Array Oper) (j : Nat) (st : St) : Option AV := ((all[j]?).bind (·.dst)).bind (lk · st.tmps)
def operA (X : Env) (all : Array Oper) (o : Oper) (K : St → Prop) (st : St) : Prop :=
  match o.guard with
  | none => doA X o K st
  | some (j, b) => match guardOf all j st with
    | some (.v (.bool b')) => splitA b' b (doA X o K (st.learn (gdst all j) b)) (K ((st.learn (gdst all j) (!b)).put o.dst (.tup [])))
    | some (.tup []) => K (st.put o.dst (.tup []))
    | _ => False
def opsA (X : Env) (all : Array Oper) : List Oper → (St → Prop) → St → Prop
  | [], K => K
  | o :: rest, K => operA X all o (opsA X all rest K)
def condA (c : AV) (K1 K2 : St → Prop) (st : St) : Prop :=
  match c with
  | .v (.bool b) => (b = true → K1 st) ∧ (b = false → K2 st)
  | _ => False
def loopA (X : Env) (body : (Ex → St → Prop) → St → Prop) (Q : Ex → St → Prop) (st : St) : Prop :=
  ∃ (α : Type) (I : α → St) (Inv : α → Prop) (μ : α → Nat) (x0 : α), Inv x0 ∧ Imp X st (I x0) ∧
    ∀ x, Inv x → body (thenA (fun st' => ∃ x', Inv x' ∧ μ x' < μ x ∧ Imp X st' (I x')) Q) (I x)
def drawA (X : Env) (ops : Array Oper) (K : St → Prop) (st : St) : Prop :=
  ∀ A N g a w, A.ext = X.ext → (∀ o ∈ ops, ∀ d, o.dst = some d → d < N) → (∀ s ∈ X.ext, s % 32 = 31) → R X.C A N g st a w → ∀ id (Q : Exit → Act → World → Prop), (∀ g' st' a' w', R X.C A N g' st' a' w' → K st' → Q .normal a' w') →
    (Code.region id ops true).wp X.C.P Q a w
def wpA (X : Env) : Code → (Ex → St → Prop) → St → Prop
  | .skip, Q => Q .normal
  | .region _ ops false, Q => opsA X ops ops.toList (Q .normal)
  | .region _ ops true, Q => drawA X ops (Q .normal)
  | .seq x y, Q => wpA X x (thenA (wpA X y Q) Q)
  | .cond c x y, Q => fun st => condA (ev X.C st c) (wpA X x Q) (wpA X y Q) st
  | .block id c, Q => wpA X c (blockA id Q)
  | .loop c, Q => loopA X (wpA X c) Q
  | .exit id, Q => Q (.exit id)
  | .ret, Q => Q .ret
  | .scope c, Q => wpA X c Q
  | .label _, Q => Q .normal
  | _, _ => fun _ => False
def opOK (N : Nat) (o : Oper) : Bool := match o.dst with
  | some d => decide (d < N)
  | none => true
def codeOK (N : Nat) : Code → Bool
  | .region _ ops _ => ops.all (opOK N)
  | .seq x y => codeOK N x && codeOK N y
  | .cond _ x y => codeOK N x && codeOK N y
  | .block _ c => codeOK N c
  | .loop c => codeOK N c
  | .scope c => codeOK N c
  | _ => true
def postA (X : Env) (A : A0) (N : Nat) (Q : Ex → St → Prop) : Exit → Act → World → Prop
  | .normal, a, w => ∃ g st, R X.C A N g st a w ∧ Q .normal st
  | .exit id, a, w => ∃ g st, R X.C A N g st a w ∧ Q (.exit id) st
  | .ret, a, w => ∃ g st, R X.C A N g st a w ∧ Q .ret st
  | _, _, _ => False
section
variable {X : Env} {A : A0} {N : Nat} {g g' : Gh} {st : St} {a : Act} {w w' : World}
theorem evs_map (C : Ctx) (st : St) : ∀ l : List Operand, evs C st l = l.map (ev C st)
  | [] => rfl
  | x :: l => by simp [evs, evs_map C st l]
theorem ev_freeze (C : Ctx) (S : List Nat) (st : St) (p : Operand) : ev C (st.freeze S) p = (ev C st p).freeze S := by
  cases p with
  | tmp k =>
    simp only [ev, St.freeze, St.mapH, lk_map]
    cases lk k st.tmps <;> rfl
  | const v => rfl
  | func f => rfl
  | global i =>
    simp only [ev]
    cases C.G i <;> rfl
theorem freezeL_evs (C : Ctx) (S : List Nat) (st : St) (l : List Operand) : freezeL S (evs C st l) = evs C (st.freeze S) l := by
  simp only [evs_map, freezeL, mapHL_map, List.map_map]
  exact List.map_congr_left fun x _ => (ev_freeze C S st x).symm
theorem freezeL_append (S : List Nat) (xs ys : List AV) : freezeL S (xs ++ ys) = freezeL S xs ++ freezeL S ys := by simp only [freezeL, mapHL_map, List.map_append]
theorem ev_freeze_fn {C : Ctx} {S : List Nat} {st : St} {f : Operand} {fid : Nat} {caps : List AV} (h : ev C st f = .fn fid caps) : ev C (st.freeze S) f = .fn fid (freezeL S caps) := by
  rw [ev_freeze, h]; rfl
theorem nmM_ext (hX : ∀ s ∈ X.ext, s % 32 = 31) (hA : A.ext = X.ext) (d : Nat) : nmM d ∉ A.ext := fun h => by
  rw [hA] at h
  have := hX _ h
  simp only [nmM] at this
  omega
theorem nm_ext (hX : ∀ s ∈ X.ext, s % 32 = 31) (hA : A.ext = X.ext) (d : Nat) : nm d ∉ A.ext := fun h => by
  rw [hA] at h
  have := hX _ h
  simp only [nm] at this
  omega
theorem cutA_pure {C : Ctx} (hR : R C A N g st a w) {t : TypeId} {x : Operand} {lo hi mx : Option Operand} {z : AV} {st' : St} (h : cutA C st t (ev C st x) lo hi mx = some (z, st')) : st' = st ∧ ∃ u, (Instr.sliceAt t (a.eval x) (lo.map a.eval) (hi.map a.eval) (mx.map a.eval)).run C.P w = .ok u w ∧ VR g w z u := by
  have hv := hR.ev x
  unfold cutA at h
  split at h
  · rename_i h0 m0 e n r b k es hl hh hm hen hxe
    split at h
    · rename_i hc
      obtain ⟨rfl, rfl, hle⟩ := hc
      simp only [Option.some.injEq, Prod.mk.injEq] at h
      obtain ⟨rfl, rfl⟩ := h
      refine ⟨rfl, ?_⟩
      obtain ⟨ht1, ht2⟩ := elemOfSlice_spec hen
      rw [sliceAt_slice ht1]
      have bl := bound_spec hR hl
      have bh := bound_spec hR hh
      have bm := bound_spec hR hm
      have bl' : lo.map a.eval = none := by
        rcases bl with ⟨h1, _⟩ | ⟨_, _, hc, _⟩
        · exact h1
        · cases hc
      obtain ⟨kh, bh'⟩ : ∃ kh, hi.map a.eval = some (.int kh m0) := by
        rcases bh with ⟨_, hc⟩ | ⟨n', kh, hc, h2⟩
        · cases hc
        · injection hc with hc; subst hc; exact ⟨kh, h2⟩
      obtain ⟨km, bm'⟩ : ∃ km, mx.map a.eval = some (.int km m0) := by
        rcases bm with ⟨_, hc⟩ | ⟨n', kh, hc, h2⟩
        · cases hc
        · injection hc with hc; subst hc; exact ⟨kh, h2⟩
      rw [bl', bh', bm']
      rw [hxe] at hv
      simp only [VR, OwnSl] at hv
      obtain ⟨hn, hv⟩ := hv
      have hlen : (es.take m0).length = m0 := by simp; omega
      rcases hv with ⟨h1, rfl⟩ | ⟨h1, rfl, a', cap, h2, hcap⟩ | ⟨cap, cur, T, h1, k2, k3, k5, k6, k7, k8⟩
      · have hz : m0 = 0 := by simpa using hle
        subst hz
        rw [h1]
        refine ⟨_, run_slice (w := w) ht1 ht2 (a := none) (len := 0) (cap := 0) (kl := .i64) (kh := kh) (km := km) (lo := none) (.inl ⟨rfl, rfl⟩) (.inr rfl) true rfl (fun _ => rfl) (Nat.le_refl 0) (Nat.le_refl 0) (Nat.le_refl 0), ?_⟩
        simp only [VR, OwnSl]
        exact ⟨hn, .inl ⟨by simp, by simp⟩⟩
      · have hz : m0 = 0 := by simpa using hle
        subst hz
        rw [h2]
        refine ⟨_, run_slice (w := w) ht1 ht2 (a := a') (len := 0) (cap := cap) (kl := .i64) (kh := kh) (km := km) (lo := none) (.inl ⟨rfl, rfl⟩) (.inr rfl) true rfl (fun _ => rfl) (Nat.le_refl 0) (Nat.le_refl 0) (Nat.zero_le _), ?_⟩
        simp only [VR, OwnSl]
        exact ⟨hn, .inr (.inl ⟨h1, by simp, _, _, rfl, by simp [maxLen]⟩)⟩
      · rw [h1]
        refine ⟨_, run_slice (w := w) ht1 ht2 (kl := .i64) (kh := kh) (km := km) (lo := none) (.inl ⟨rfl, rfl⟩) (.inr rfl) true rfl (fun _ => rfl) (Nat.zero_le _) hle k2, ?_⟩
        simp only [VR, OwnSl]
        refine ⟨hn, .inr (.inr ⟨m0, cur, T, ?_, by rw [hlen]; exact Nat.le_refl _, by omega, k5, k6, Nat.le_trans (Nat.mul_le_mul_right _ (by omega)) k7, ?_⟩)⟩
        · rw [hlen]
          simp only [if_true, Nat.sub_zero, Nat.zero_mul]
          split <;> simp [Addr.add]
        · have := PRe.sub es _ k 0 k8 0 m0
          simpa using this
    · cases h
  · cases h
theorem cutA_sound {C : Ctx} (hR : R C A N g st a w) {o : Oper} {t : TypeId} {x : Operand} {lo hi mx : Option Operand} (ho : o.op = .slice t x lo hi mx) {z : AV} {st' : St} (h : cutA C st t (ev C st x) lo hi mx = some (z, st')) : Steps C A N o a w z st' := by
  have hx : execOp a.eval o = (do Pure.pure (Next.value (← Instr.sliceAt t (a.eval x) (lo.map a.eval) (hi.map a.eval) (mx.map a.eval)))) := by
    unfold execOp; rw [ho]
  obtain ⟨rfl, u, h1, h2⟩ := cutA_pure hR h
  exact .of hx ⟨u, w, g, h1, hR, h2⟩
theorem stab_VR {C : Ctx} (h : Fr C A g w) (h' : Fr C A g' w') : ∀ (x : AV) (u : Value), VR g w x u → VR g' w' (stabV A.ext x) u
  | .v x, u, hu => by simpa [stabV, VR] using hu
  | .ptr s off, u, hu => by
    simp only [stabV]
    split
    · rename_i hs
      simp only [VR] at hu ⊢
      rw [h'.box s hs, ← h.box s hs]; exact hu
    · simp [VR]
  | .ifc t (.ptr s off), u, hu => by
    simp only [stabV]
    split
    · rename_i hs
      simp only [VR] at hu ⊢
      obtain ⟨y, h1, h2⟩ := hu
      exact ⟨y, h1, by rw [h'.box s hs, ← h.box s hs]; exact h2⟩
    · simp [VR]
  | .undef, _, _ => by simp [stabV, VR]
  | .agg _, _, _ => by simp [stabV, VR]
  | .tup _, _, _ => by simp [stabV, VR]
  | .sl _ _ _, _, _ => by simp [stabV, VR]
  | .ep _ _ _ _, _, _ => by simp [stabV, VR]
  | .fn _ _, _, _ => by simp [stabV, VR]
  | .mv _ _, _, _ => by simp [stabV, VR]
  | .mp _, _, _ => by simp [stabV, VR]
  | .mem _ _, _, _ => by simp [stabV, VR]
  | .ifc _ .undef, _, _ => by simp [stabV, VR]
  | .ifc _ (.v _), _, _ => by simp [stabV, VR]
  | .ifc _ (.agg _), _, _ => by simp [stabV, VR]
  | .ifc _ (.tup _), _, _ => by simp [stabV, VR]
  | .ifc _ (.sl _ _ _), _, _ => by simp [stabV, VR]
  | .ifc _ (.ep _ _ _ _), _, _ => by simp [stabV, VR]
  | .ifc _ (.fn _ _), _, _ => by simp [stabV, VR]
  | .ifc _ (.mv _ _), _, _ => by simp [stabV, VR]
  | .ifc _ (.mp _), _, _ => by simp [stabV, VR]
  | .ifc _ (.mem _ _), _, _ => by simp [stabV, VR]
  | .ifc _ (.ifc _ _), _, _ => by simp [stabV, VR]
theorem lk_stab (ext : List Nat) (k : Nat) : ∀ l : List (Nat × AV), lk k (stabT ext l) = (lk k l).map (stabV ext)
  | [] => rfl
  | (j, x) :: l => by
    simp only [stabT, lk]
    split
    · rfl
    · exact lk_stab ext k l
theorem callB_sound (hA : A.ext = X.ext) (hX : ∀ s ∈ X.ext, s % 32 = 31) {o : Oper} (hd' : ∀ k, o.dst = some k → k < N) {K : St → Prop} {fid : Nat} {xs : List AV} (hcf : CallsF X.C o a g w fid xs) (h : callB X o.dst fid xs K st) (hR : R X.C A N g st a w) {K' : Act → World → Prop} {Q : Exit → Act → World → Prop}
    (hk : ∀ g' st' a' w', R X.C A N g' st' a' w' → K st' → K' a' w') : o.wp X.C.P a w K' Q := by
  rcases h with ⟨fz, v, ob, S, h1, h2, h3, h4, h5⟩ | ⟨r, n, es, ys, es', h1, h2, h3⟩ | ⟨⟨fn, cd, hfn, hname, hb⟩, hcall⟩
  · have hcf' : CallsF X.C o a (g.freeze fz) w fid (freezeL fz xs) := by
      obtain ⟨us, k1, k2⟩ := hcf
      exact ⟨us, VRs.freeze _ _ k1, k2⟩
    refine callP hcf' h1 h3 h4 (fun y ob' hS => (h5 y ob' hS).1) (hR.freeze fz) (fun s hs hT => ?_) hd' fun y ob' g' a' w' hS hr => hk g' _ a' w' hr (h5 y ob' hS).2
    have h7 := hX s (hA ▸ hs)
    have h8 := List.all_eq_true.1 h2 s hT
    simp [h7] at h8
  · rw [h1] at hcf
    exact callR hcf h2 hR hd' fun g' a' w' hr => hk g' _ a' w' hr h3
  · obtain ⟨us, hargs, hex⟩ := hcf
    unfold Oper.wp
    rw [hex, run_enter hfn hname hb, Oper.upon_enter]
    refine Calls.mono (hcall A g w us hA hR.fr hargs hR.ob) fun e w' he => ?_
    obtain ⟨u, g', y, os, rfl, hfr, hy, hos, hK⟩ := he
    have hr : R X.C A N g' ⟨stabT X.ext st.tmps, os⟩ a w' := ⟨hR.size, hR.defs, fun k x hx => by
      simp only [lk_stab] at hx
      obtain ⟨z, hz, rfl⟩ := Option.map_eq_some_iff.1 hx
      obtain ⟨v, hv1, hv2⟩ := hR.tm k z hz
      exact ⟨v, hv1, by rw [← hA]; exact stab_VR hR.fr hfr z v hv2⟩, hos, hfr⟩
    exact hk g' _ _ w' (hr.put hd' hy) hK
theorem run_method {P : Program} {t : TypeId} {name : String} {i : TypeInfo} (hi : P.info? t = some i) {m : Method} (hm : i.methods.find? (·.name == name) = some m) (hp : m.path = #[]) {f : Nat} {b : Bool} (hf : m.func = some (f, b)) (fuel : Nat) (v : Value) (w : World) :
    (method (fuel + 1) t v name).run P w = (do pure (f, ← receiverAt t (.val v) b (some ((name.splitOn ".").getLastD name))) : Sem (FuncId × Value)).run P w := by
  unfold method
  simp [run_typeInfo hi, hm, hp, follow, hf]
theorem run_chk {P : Program} (xt : TypeId) (ad : Addr) (s m : String) (w : World) : (Builtin.ssaWrapNilChk_ #[xt] xt #[.pointer (some ad), strVal s, strVal m]).run P w = .ok (.pointer (some ad)) w := rfl
theorem methA_sound {C : Ctx} (hR : R C A N g st a w) {t : TypeId} {name : String} {x r : AV} {f : Nat} {u : Value} (h : methA C t name x st.objs = some (f, r)) (hx : VR g w x u) (fuel : Nat) : ∃ v, (method (fuel + 1) t u name).run C.P w = .ok (f, v) w ∧ VR g w r v := by
  have spec : ∀ f o, methOf C.P t name = some (f, o) → ∃ i m b e, C.P.info? t = some i ∧ i.methods.find? (·.name == name) = some m ∧ m.path = #[] ∧ m.func = some (f, b) ∧ C.P.underlying t = some (.pointer e) ∧ ((b = true ∧ o = none) ∨ (b = false ∧ o = some e)) := by
    intro f o hm
    obtain ⟨i, hi, hm⟩ := Option.bind_eq_some_iff.1 hm
    obtain ⟨m, hmm, hm⟩ := Option.bind_eq_some_iff.1 hm
    split at hm
    · rename_i hp
      split at hm
      · rename_i f' e h1 h2
        simp only [Option.some.injEq, Prod.mk.injEq] at hm
        obtain ⟨rfl, rfl⟩ := hm
        exact ⟨i, m, true, e, hi, hmm, hp, h1, h2, .inl ⟨rfl, rfl⟩⟩
      · rename_i f' e h1 h2
        simp only [Option.some.injEq, Prod.mk.injEq] at hm
        obtain ⟨rfl, rfl⟩ := hm
        exact ⟨i, m, false, e, hi, hmm, hp, h1, h2, .inr ⟨rfl, rfl⟩⟩
      · cases hm
    · cases hm
  unfold methA at h
  split at h
  · rename_i f' hm
    simp only [Option.some.injEq, Prod.mk.injEq] at h
    obtain ⟨rfl, rfl⟩ := h
    obtain ⟨i, m, b, e, hi, hmm, hp, hf, hu, ⟨rfl, _⟩ | ⟨_, h0⟩⟩ := spec _ _ hm
    · exact ⟨u, by rw [run_method hi hmm hp hf]; simp [receiverAt, run_underlying hu, Place.get], hx⟩
    · cases h0
  · rename_i f' e' hm
    split at h
    · rename_i agg n h1 h2
      obtain ⟨y, hy, h⟩ := Option.map_eq_some_iff.1 h
      obtain ⟨rfl, rfl⟩ := Prod.mk.inj h
      obtain ⟨i, m, b, e, hi, hmm, hp, hf, hu, ⟨_, h0⟩ | ⟨rfl, h0⟩⟩ := spec _ _ hm
      · cases h0
      · injection h0 with h0
        subst h0
        obtain ⟨v, k1, k2⟩ := load_sound hR h1 h2 hx hy
        have hptr := loadA_ptr hx hy
        obtain ⟨ad, rfl⟩ := hptr
        refine ⟨v, ?_, k2⟩
        have k3 : (loadVar e' ad).run C.P w = .ok v w := by simpa [Instr.loadAt, Instr.sureAddr, asAddr] using k1
        rw [run_method hi hmm hp hf]
        simp [receiverAt, run_underlying hu, Place.get, run_chk, asAddr, k3]
    · cases h
  · cases h
theorem doA_sound (hA : A.ext = X.ext) (hX : ∀ s ∈ X.ext, s % 32 = 31) {o : Oper} (hd : opOK N o = true) {K : St → Prop} (h : doA X o K st) (hR : R X.C A N g st a w) {K' : Act → World → Prop} {Q : Exit → Act → World → Prop}
    (hk : ∀ g' st' a' w', R X.C A N g' st' a' w' → K st' → K' a' w') : o.wp X.C.P a w K' Q := by
  have hd' : ∀ k, o.dst = some k → k < N := fun k hk => by simp [opOK, hk] at hd; exact hd
  unfold doA at h
  split at h
  · rename_i f args ts ho
    unfold callA at h
    split at h
    · rename_i fid caps hf
      have := CallsF.val ho rfl (.inl ⟨hf, rfl⟩ : FnVal (ev X.C st f) fid [] caps) hR
      rw [List.nil_append, ← evs_map] at this
      exact callB_sound hA hX hd' this h hR hk
    · rename_i fid first hf
      have := CallsF.val ho rfl (.inr ⟨hf, rfl⟩ : FnVal (ev X.C st f) fid first []) hR
      rw [List.append_nil, ← evs_map] at this
      exact callB_sound hA hX hd' this h hR hk
    · cases h
  · rename_i r name args ts ho
    unfold invA at h
    split at h
    · rename_i t y hy
      split at h
      · rename_i f rv hm
        have hv := hR.ev r
        rw [hy] at hv
        simp only [VR] at hv
        obtain ⟨u, hu, hv⟩ := hv
        obtain ⟨v, k1, k2⟩ := methA_sound hR hm hv (X.C.P.types.size + Made.depth - 1)
        have e1 : X.C.P.types.size + Made.depth - 1 + 1 = X.C.P.types.size + Made.depth := by simp [Made.depth]
        rw [e1] at k1
        refine callB_sound hA hX hd' ⟨v :: args.toList.map a.eval, ?_, ?_⟩ h hR hk
        · simp only [VRs]
          exact ⟨k2, by rw [evs_map]; exact VRs_map_ev hR _⟩
        · unfold execOp
          rw [ho]
          have e2 : (#[a.eval r] ++ args.map a.eval)[0]? = some (.iface t u) := by rw [hu, Array.getElem?_append_left (by simp)]; rfl
          have e3 : (#[a.eval r] ++ args.map a.eval).extract 1 (#[a.eval r] ++ args.map a.eval).size = args.map a.eval := by
            rw [← Array.toList_inj, Array.toList_extract]; simp [List.extract]; exact List.take_of_length_le (by simp)
          simp only [resolve, invoke, Sem.run_bind, Sem.run_pure, Result.andThen_ok, e2, e3, callMethod, run_program, k1]
          congr 2
          rw [← Array.toList_inj]; simp
      · cases h
    · cases h
  · rename_i t y lo hi mx ho
    split at h <;> unfold stepA at h
    · split at h
      · rename_i x st' hs
        exact (cutA_sound hR ho hs).wp hd' fun g' a' w' hr => hk g' _ a' w' hr h
      · cases h
    · split at h
      · rename_i x st' hs
        exact (stepV_sound hR (fun d _ => ⟨nm_ext hX hA d, nmM_ext hX hA d⟩) hs).wp hd' fun g' a' w' hr => hk g' _ a' w' hr h
      · cases h
  · unfold stepA at h
    split at h
    · rename_i x st' hs
      exact (stepV_sound hR (fun d _ => ⟨nm_ext hX hA d, nmM_ext hX hA d⟩) hs).wp hd' fun g' a' w' hr => hk g' _ a' w' hr h
    · cases h
theorem guard_spec {all : Array Oper} {j : Nat} {b : Bool} (hR : R X.C A N g st a w) (h : guardOf all j st = some (.v (.bool b))) : yielded all a.tmps j = some b := by
  unfold guardOf at h
  obtain ⟨d, h1, h2⟩ := Option.bind_eq_some_iff.1 h
  obtain ⟨u, hu, hv⟩ := hR.tm d _ h2
  simp only [VR] at hv
  subst hv
  simp [yielded, h1, hu]
theorem guard_off {all : Array Oper} {j : Nat} (hR : R X.C A N g st a w) (h : guardOf all j st = some (.tup [])) : yielded all a.tmps j = none := by
  unfold guardOf at h
  obtain ⟨d, h1, h2⟩ := Option.bind_eq_some_iff.1 h
  obtain ⟨u, hu, hv⟩ := hR.tm d _ h2
  simp only [VR] at hv
  obtain ⟨us, rfl, hv⟩ := hv
  simp [yielded, h1, hu]
theorem VR_off : VR g w (.tup []) undef := by
  simp only [VR, undef]
  exact ⟨#[], rfl, by simp [VRs]⟩
theorem learn_same {all : Array Oper} {j : Nat} {st : St} {b : Bool} (h : guardOf all j st = some (.v (.bool b))) : st.learn (gdst all j) b = st := by
  unfold guardOf at h
  obtain ⟨d, h1, h2⟩ := Option.bind_eq_some_iff.1 h
  unfold gdst
  rw [h1]
  simp only [St.learn, setT_same h2]
theorem opsA_sound (hA : A.ext = X.ext) (hX : ∀ s ∈ X.ext, s % 32 = 31) {all : Array Oper} {Q : Exit → Act → World → Prop} {K : St → Prop} (hk : ∀ g' st' a' w', R X.C A N g' st' a' w' → K st' → Q .normal a' w') :
    ∀ (l : List Oper) (g : Gh) (st : St) (a : Act) (w : World), (∀ o ∈ l, opOK N o = true) → opsA X all l K st → R X.C A N g st a w → wpList X.C.P all Q l a w
  | [], g, st, a, w, _, h, hR => hk g st a w hR h
  | o :: l, g, st, a, w, hok, h, hR => by
    have hd := hok o (by simp)
    have hrest := fun g' st' a' w' hr (hK : opsA X all l K st') => opsA_sound hA hX hk l g' st' a' w' (fun o' ho' => hok o' (by simp [ho'])) hK hr
    simp only [opsA, operA] at h
    unfold wpList
    split at h
    · rename_i hg
      have : Region.wanted o (yielded all a.tmps) = true := by simp [Region.wanted, hg]
      simp only [this, if_true]
      exact .inl (doA_sound hA hX hd h hR hrest)
    · rename_i j b hg
      split at h
      · rename_i b' hb
        have hy := guard_spec hR hb
        by_cases he : b' = b
        · have : Region.wanted o (yielded all a.tmps) = true := by simp [Region.wanted, hg, hy, he]
          simp only [this, if_true]
          have h1 := h.1 he
          subst he
          rw [learn_same hb] at h1
          exact .inl (doA_sound hA hX hd h1 hR hrest)
        · have : Region.wanted o (yielded all a.tmps) = false := by simp [Region.wanted, hg, hy, he]
          simp only [this, Bool.false_eq_true, if_false]
          have hd' : ∀ k, o.dst = some k → k < N := fun k hk => by simp [opOK, hk] at hd; exact hd
          have h1 := h.2 he
          have hbb : (!b) = b' := by cases b <;> cases b' <;> first | rfl | exact absurd rfl he
          rw [hbb, learn_same hb] at h1
          exact hrest g _ _ w (hR.put hd' VR_off) h1
      · rename_i hb
        have hy := guard_off hR hb
        have : Region.wanted o (yielded all a.tmps) = false := by simp [Region.wanted, hg, hy]
        simp only [this, Bool.false_eq_true, if_false]
        have hd' : ∀ k, o.dst = some k → k < N := fun k hk => by simp [opOK, hk] at hd; exact hd
        exact hrest g _ _ w (hR.put hd' VR_off) h
      · cases h
theorem wpA_sound (hA : A.ext = X.ext) (hX : ∀ s ∈ X.ext, s % 32 = 31) : ∀ (c : Code) (Q : Ex → St → Prop) (g : Gh) (st : St) (a : Act) (w : World), codeOK N c = true → wpA X c Q st → R X.C A N g st a w → c.wp X.C.P (postA X A N Q) a w := by
  intro c
  induction c with
  | skip => intro Q g st a w _ h hR; exact wp_skip ⟨g, st, hR, h⟩
  | region id ops d =>
    intro Q g st a w hok h hR
    have hok' : ∀ o ∈ ops.toList, opOK N o = true := fun o ho => by
      simp only [codeOK, Array.all_eq_true'] at hok
      exact hok o (by simpa using ho)
    cases d with
    | false =>
      exact wp_region_list (opsA_sound hA hX (Q := postA X A N Q) (fun g' st' a' w' hr hK => ⟨g', st', hr, hK⟩) ops.toList g st a w hok' h hR)
    | true =>
      exact h A N g a w hA (fun o ho d hd => by have := hok' o (by simpa using ho); simp [opOK, hd] at this; exact this) hX hR id (postA X A N Q) fun g' st' a' w' hr hK => ⟨g', st', hr, hK⟩
  | seq x y ihx ihy =>
    intro Q g st a w hok h hR
    simp only [codeOK, Bool.and_eq_true] at hok
    refine wp_seq (wp_mono (ihx _ g st a w hok.1 h hR) fun e a' w' hq => ?_)
    cases e with
    | normal =>
      obtain ⟨g', st', hr, hk⟩ := hq
      exact ihy Q g' st' a' w' hok.2 hk hr
    | exit id => exact hq
    | ret => exact hq
    | goto l => exact hq.elim
    | panic ch => exact hq.elim
    | outgrown => exact hq.elim
  | cond c x y ihx ihy =>
    intro Q g st a w hok h hR
    simp only [codeOK, Bool.and_eq_true] at hok
    simp only [wpA, condA] at h
    split at h
    · rename_i b hb
      have hc := hR.ev c
      rw [hb] at hc
      simp only [VR] at hc
      exact wp_cond_split hc (fun ht => ihx Q g st a w hok.1 (h.1 ht) hR) (fun ht => ihy Q g st a w hok.2 (h.2 ht) hR)
    · cases h
  | block id c ih =>
    intro Q g st a w hok h hR
    refine wp_block (wp_mono (ih _ g st a w hok h hR) fun e a' w' hq => ?_)
    cases e with
    | normal => exact hq
    | exit i =>
      obtain ⟨g', st', hr, hk⟩ := hq
      simp only [blockA] at hk
      simp only [Exit.inBlock]
      split at hk
      · rename_i hi; simp only [hi, if_true]; exact ⟨g', st', hr, hk⟩
      · rename_i hi; simp only [hi, if_false]; exact ⟨g', st', hr, hk⟩
    | ret => exact hq
    | goto l => exact hq.elim
    | panic ch => exact hq.elim
    | outgrown => exact hq.elim
  | loop c ih =>
    intro Q g st a w hok h hR
    obtain ⟨α, I, Inv, μ, x0, h0, hi, hround⟩ := h
    obtain ⟨g0, hR0⟩ := hi A N g a w hA hR
    refine wp_loop_ghost (fun n a w => ∃ x g, Inv x ∧ μ x = n ∧ R X.C A N g (I x) a w) (μ x0) ⟨x0, g0, h0, rfl, hR0⟩ fun n a w ⟨x, g, hx, hn, hr⟩ => ?_
    refine wp_mono (ih _ g (I x) a w hok (hround x hx) hr) fun e a' w' hq => ?_
    cases e with
    | normal =>
      obtain ⟨g', st', hr', x', hx', hlt, him⟩ := hq
      obtain ⟨g'', hr''⟩ := him A N g' a' w' hA hr'
      exact ⟨μ x', by omega, x', g'', hx', rfl, hr''⟩
    | exit id => exact hq
    | ret => exact hq
    | goto l => exact hq.elim
    | panic ch => exact hq.elim
    | outgrown => exact hq.elim
  | exit id => intro Q g st a w _ h hR; exact wp_exit ⟨g, st, hR, h⟩
  | ret => intro Q g st a w _ h hR; exact wp_ret ⟨g, st, hR, h⟩
  | scope c ih =>
    intro Q g st a w hok h hR
    refine wp_scope_straight (wp_mono (ih Q g st a w hok h hR) fun e a' w' hq => ?_)
    cases e <;> first | exact hq | exact hq.elim
  | label l => intro Q g st a w _ h hR; exact wp_label ⟨g, st, hR, h⟩
  | goto l => intro Q g st a w _ h; exact h.elim
  | rangeFunc => intro Q g st a w _ h; exact h.elim
  | refuse => intro Q g st a w _ h; exact h.elim
end
end Go.Abs
namespace Go.Abs
def WeakV (x y : AV) : Prop := ∀ g w u, VR g w x u → VR g w y u
def WeakL (xs ys : List AV) : Prop := ∀ g w us, VRs g w xs us → VRs g w ys us
section
variable {g : Gh} {w : World}
theorem WeakV.rfl {x : AV} : WeakV x x := fun _ _ _ h => h
theorem WeakV.eq {x y : AV} (h : x = y) : WeakV x y := h ▸ .rfl
theorem WeakV.undef {x : AV} : WeakV x .undef := fun _ _ _ _ => by simp [VR]
theorem WeakV.nilOwn {r lo n : Nat} (hn : 0 < n) : WeakV (.v (.slice none 0 0)) (.sl (.own r lo) n []) := fun _ _ u h => by
  simp only [VR, OwnSl] at h ⊢
  exact ⟨hn, .inl ⟨h, by trivial⟩⟩
theorem WeakV.nilNo {n : Nat} (hn : 0 < n) : WeakV (.v (.slice none 0 0)) (.sl .no n []) := fun _ _ u h => by
  simp only [VR, PR] at h ⊢
  exact ⟨(fun _ _ h => by cases h), none, 0, h, by simp, by simp [maxLen], (by intro h; cases h), hn, .inl True.intro⟩
theorem WeakV.full {n : Nat} {es : List (List AV)} : WeakV (.sl .full n es) (.sl .no n es) := fun _ _ u h => by
  simp only [VR, PR] at h ⊢
  obtain ⟨_, a, cap, h1, h2, h3, h4, h5, h6⟩ := h
  exact ⟨(fun _ _ h => by cases h), a, cap, h1, h2, h3, (by intro h; cases h), h5, h6⟩
theorem WeakL.nil : WeakL [] [] := fun _ _ _ h => h
theorem WeakL.cons {x y : AV} {xs ys : List AV} (h : WeakV x y) (hs : WeakL xs ys) : WeakL (x :: xs) (y :: ys) := fun g w us hu => by
  match us, hu with
  | u :: us, hu =>
    simp only [VRs] at hu ⊢
    exact ⟨h g w u hu.1, hs g w us hu.2⟩
  | [], hu => simp [VRs] at hu
theorem WeakV.agg {xs ys : List AV} (h : WeakL xs ys) : WeakV (.agg xs) (.agg ys) := fun g w u hu => by
  simp only [VR] at hu ⊢
  obtain ⟨us, h1, h2⟩ := hu
  exact ⟨us, h1, h g w _ h2⟩
theorem WeakV.tup {xs ys : List AV} (h : WeakL xs ys) : WeakV (.tup xs) (.tup ys) := fun g w u hu => by
  simp only [VR] at hu ⊢
  obtain ⟨us, h1, h2⟩ := hu
  exact ⟨us, h1, h g w _ h2⟩
theorem WeakL.rfl {xs : List AV} : WeakL xs xs := fun _ _ _ h => h
end
def WeakArgs : List AV → List AV → Prop
  | [], [] => True
  | x :: xs, y :: ys => WeakV x y ∧ WeakArgs xs ys
  | _, _ => False
theorem WeakArgs.weakL : ∀ {xs ys : List AV}, WeakArgs xs ys → WeakL xs ys
  | [], [], _ => .nil
  | [], _ :: _, h => h.elim
  | _ :: _, [], h => h.elim
  | _ :: _, _ :: _, h => .cons h.1 h.2.weakL
theorem WeakArgs.self : ∀ xs : List AV, WeakArgs xs xs
  | [] => trivial
  | _ :: xs => ⟨.rfl, WeakArgs.self xs⟩
def WeakT (st : St) : List (Nat × AV) → Prop
  | [] => True
  | (k, y) :: l => (∃ x, lk k st.tmps = some x ∧ WeakV x y) ∧ WeakT st l
def WeakO (st : St) : List (Nat × List AV) → Prop
  | [] => True
  | (k, y) :: l => (∃ x, lk k st.objs = some x ∧ WeakArgs x y) ∧ WeakO st l
def renT (ρ : Rn) : List (Nat × AV) → List (Nat × AV)
  | [] => []
  | (k, x) :: l => (k, x.ren ρ) :: renT ρ l
def renSt (ρ : Rn) (st : St) : St := ⟨renT ρ st.tmps, renO ρ st.objs⟩
section
variable {X : Env} {C : Ctx} {A : A0} {N : Nat} {g g' : Gh} {st st' : St} {a : Act} {w w' : World}
theorem WeakT.lk : ∀ {l : List (Nat × AV)} {k : Nat} {y : AV}, WeakT st l → lk k l = some y → ∃ x, lk k st.tmps = some x ∧ WeakV x y
  | (j, c) :: l, k, y, hf, h => by
    simp only [Abs.lk] at h
    split at h
    · rename_i hj; injection h with h; subst h; subst hj; exact hf.1
    · exact WeakT.lk hf.2 h
theorem WeakO.lk : ∀ {l : List (Nat × List AV)} {k : Nat} {y : List AV}, WeakO st l → lk k l = some y → ∃ x, lk k st.objs = some x ∧ WeakArgs x y
  | (j, c) :: l, k, y, hf, h => by
    simp only [Abs.lk] at h
    split at h
    · rename_i hj; injection h with h; subst h; subst hj; exact hf.1
    · exact WeakO.lk hf.2 h
theorem lk_renT (ρ : Rn) (k : Nat) : ∀ l : List (Nat × AV), lk k (renT ρ l) = (lk k l).map (·.ren ρ)
  | [] => rfl
  | (j, x) :: l => by
    simp only [renT, lk]
    split
    · rfl
    · exact lk_renT ρ k l
theorem R.weak (h : R C A N g st a w) (ht : WeakT st st'.tmps) (ho : WeakO st st'.objs) : R C A N g st' a w where
  size := h.size
  defs := h.defs
  tm := fun k x hx => by
    obtain ⟨y, hy, hw⟩ := ht.lk hx
    obtain ⟨u, hu, hv⟩ := h.tm k y hy
    exact ⟨u, hu, hw _ _ _ hv⟩
  ob := fun s cs hs => by
    obtain ⟨y, hy, hw⟩ := ho.lk hs
    exact (h.ob s y hy).lift rfl (h.ob s y hy).1 rfl (fun us hu => hw.weakL _ _ _ hu)
  fr := h.fr
theorem Fr.ren {ρ : Rn} (hρ : ρ.OK) (hext : ∀ s, s ∈ A.ext → lk s ρ.m = some s) (h : Fr C A g w) : Fr C A (g.ren ρ g) w where
  os := h.os
  tape := h.tape
  output := h.output
  size := h.size
  keep := fun b hb hf => by
    have := h.keep b hb hf
    refine ⟨this.1, ?_⟩
    rcases hf with hf | hf
    · rw [hf]; exact ren_ro (this.2.trans hf)
    · rw [hf]; exact ren_other (this.2.trans hf)
  box := fun s hs => by rw [← h.box s hs]; exact renBox hρ (hext s hs)
  glob := fun i cs hi => by
    obtain ⟨h1, h2, h3⟩ := h.glob i cs hi
    exact ⟨h1, ren_ro h2, PRc.mono roRen _ ⟨i, 0, none⟩ 0 h2 h3⟩
theorem R.renamed {ρ : Rn} (hρ : ρ.OK) (hext : ∀ s, s ∈ A.ext → lk s ρ.m = some s) (h : R C A N g st a w) : R C A N (g.ren ρ g) (renSt ρ st) a w where
  size := h.size
  defs := h.defs
  tm := fun k x hx => by
    simp only [renSt, lk_renT] at hx
    obtain ⟨y, hy, rfl⟩ := Option.map_eq_some_iff.1 hx
    obtain ⟨u, hu, hv⟩ := h.tm k y hy
    exact ⟨u, hu, VR.ren hρ _ _ hv⟩
  ob := fun s cs hs => by
    obtain ⟨s0, cs0, h1, h2, rfl⟩ := lk_renO hρ hs
    exact ObjAt.ren hρ h1 (h.ob s0 cs0 h2)
  fr := h.fr.ren hρ hext
theorem Imp.weak (ht : WeakT st st'.tmps) (ho : WeakO st st'.objs) : Imp X st st' := fun _ _ _ _ _ _ h => ⟨_, h.weak ht ho⟩
theorem Imp.ren (ρ : Rn) (hρ : ρ.OK) (hext : ∀ s, s ∈ X.ext → lk s ρ.m = some s) (ht : WeakT (renSt ρ st) st'.tmps) (ho : WeakO (renSt ρ st) st'.objs) : Imp X st st' :=
  fun _ _ _ _ _ hA h => ⟨_, (h.renamed hρ (fun s hs => hext s (hA ▸ hs))).weak ht ho⟩
def argT : Nat → List AV → List (Nat × AV)
  | _, [] => []
  | i, x :: xs => (i, x) :: argT (i + 1) xs
theorem lk_argT {k : Nat} {x : AV} : ∀ {xs : List AV} {i : Nat}, lk k (argT i xs) = some x → i ≤ k ∧ xs[k - i]? = some x
  | [], _, h => by cases h
  | y :: xs, i, h => by
    simp only [argT, lk] at h
    split at h
    · rename_i hi; subst hi; exact ⟨Nat.le_refl _, by simpa using h⟩
    · rename_i hi
      obtain ⟨h1, h2⟩ := lk_argT h
      refine ⟨by omega, ?_⟩
      have : k - i = (k - (i + 1)) + 1 := by omega
      rw [this]; simpa using h2
def resV (C : Ctx) (st : St) : ResultVar → Option AV
  | .tmp t => lk t st.tmps
  | .cell a t => match aggOf C.P t, szOf C.P t, lk a st.tmps with
    | some agg, some n, some p => loadA agg n st.objs p
    | _, _, _ => none
def resVs (C : Ctx) (st : St) : List ResultVar → Option (List AV)
  | [] => some []
  | r :: rs => match resV C st r, resVs C st rs with
    | some x, some xs => some (x :: xs)
    | _, _ => none
def pack : List AV → AV
  | [x] => x
  | xs => .tup xs
theorem getD_of {α : Type} {a : Array α} {i : Nat} {x d : α} (h : a[i]? = some x) : a.getD i d = x := by simp [Array.getD_eq_getD_getElem?, h]
def resF (tmps : Array Value) : ResultVar → Sem Value
  | .tmp t => pure (tmps.getD t undef)
  | .cell p t => do loadVar t (← asAddr (tmps.getD p undef))
theorem results_eq (fn : Func) (tmps : Array Value) : results fn tmps = (do
    let vs ← fn.results.mapM (resF tmps)
    pure (if h : vs.size = 1 then vs[0] else .tuple vs)) := by
  unfold results
  congr 1
theorem resV_sound (hR : R C A N g st a w) {r : ResultVar} {x : AV} (h : resV C st r = some x) : ∃ u, (resF a.tmps r).run C.P w = .ok u w ∧ VR g w x u := by
  cases r with
  | tmp t =>
    obtain ⟨u, hu, hv⟩ := hR.tm t x h
    exact ⟨u, by simp only [resF, getD_of hu, Sem.run_pure], hv⟩
  | cell p t =>
    simp only [resV] at h
    split at h
    · rename_i agg n q h1 h2 hp
      obtain ⟨up, hu, hv⟩ := hR.tm p q hp
      obtain ⟨u, k1, k2⟩ := load_sound hR h1 h2 hv h
      refine ⟨u, ?_, k2⟩
      simp only [resF, getD_of hu]
      have hp := loadA_ptr hv h
      obtain ⟨ad, rfl⟩ := hp
      simpa [Instr.loadAt, Instr.sureAddr, asAddr] using k1
    · cases h
theorem resVs_sound (hR : R C A N g st a w) : ∀ {rs : List ResultVar} {xs : List AV}, resVs C st rs = some xs → ∃ us, (rs.mapM (resF a.tmps)).run C.P w = .ok us w ∧ VRs g w xs us
  | [], xs, h => by simp [resVs] at h; subst h; exact ⟨[], by simp, by simp [VRs]⟩
  | r :: rs, xs, h => by
    simp only [resVs] at h
    split at h
    · rename_i y ys h1 h2
      simp at h; subst h
      obtain ⟨u, k1, k2⟩ := resV_sound hR h1
      obtain ⟨us, m1, m2⟩ := resVs_sound hR h2
      refine ⟨u :: us, ?_, by simp only [VRs]; exact ⟨k2, m2⟩⟩
      rw [List.mapM_cons]
      simp only [Sem.run_bind, k1, m1, Result.andThen_ok, Sem.run_pure]
    · cases h
theorem results_sound (hR : R C A N g st a w) {fn : Func} {xs : List AV} (h : resVs C st fn.results.toList = some xs) : ∃ u, (results fn a.tmps).run C.P w = .ok u w ∧ VR g w (pack xs) u := by
  obtain ⟨us, k1, k2⟩ := resVs_sound hR h
  have hl := VRs.length k2
  rw [results_eq, Array.mapM_eq_mapM_toList]
  simp only [Sem.run_bind, Sem.run_map, k1, Result.andThen_ok, Sem.run_pure]
  match xs, us, k2 with
  | [x], [u], k2 =>
    simp only [VRs] at k2
    exact ⟨u, by simp, by simpa [pack] using k2.1⟩
  | [], [], k2 => exact ⟨_, rfl, by simp only [pack, VR]; exact ⟨_, rfl, k2⟩⟩
  | x :: y :: xs, u :: v :: us, k2 => exact ⟨_, by simp; rfl, by simp only [pack, VR]; exact ⟨_, rfl, k2⟩⟩
  | [], _ :: _, k2 => simp [VRs] at k2
  | _ :: _, [], k2 => simp [VRs] at k2
  | [_], _ :: _ :: _, k2 => simp [VRs] at k2
  | _ :: _ :: _, [_], k2 => simp [VRs] at k2
def retA (X : Env) (rs : List ResultVar) (y : AV) (o' : List (Nat × List AV)) : Ex → St → Prop
  | .exit _ => fun _ => False
  | _ => fun st => ∃ xs ρ, resVs X.C st rs = some xs ∧ ρ.OK ∧ (∀ s ∈ X.ext, lk s ρ.m = some s) ∧ WeakV ((pack xs).ren ρ) y ∧ WeakO (renSt ρ st) o'
def retP (X : Env) (rs : List ResultVar) (S : AV → List (Nat × List AV) → Prop) : Ex → St → Prop
  | .exit _ => fun _ => False
  | _ => fun st => ∃ xs ρ y o', S y o' ∧ resVs X.C st rs = some xs ∧ ρ.OK ∧ (∀ s ∈ X.ext, lk s ρ.m = some s) ∧ WeakV ((pack xs).ren ρ) y ∧ WeakO (renSt ρ st) o'
theorem FnP.intro {f : Nat} {fn : Func} {c : Code} {xs : List AV} {o : List (Nat × List AV)} {S : AV → List (Nat × List AV) → Prop} (hf : C.P.funcs[f]? = some fn) (hname : (fn.name == "runtime.NumGoroutine") = false) (hb : fn.body = some c)
    (hok : codeOK fn.ntmps c = true) (hargs : xs.length ≤ fn.ntmps) (hext : ∀ s ∈ names o, s % 32 = 31) (h : wpA ⟨C, names o⟩ c (retP ⟨C, names o⟩ fn.results.toList S) ⟨argT 0 xs, o⟩) : FnP C f xs o S := by
  refine ⟨⟨fn, c, hf, hname, hb⟩, fun g w us hg hv ho => calls_of_wp hf hb ?_⟩
  have hl := VRs.length hv
  have hR : R C ⟨w, g, names o, []⟩ fn.ntmps g ⟨argT 0 xs, o⟩ { tmps := us.toArray ++ Array.replicate (fn.ntmps - us.toArray.size) undef, defers := [] } w := by
    refine ⟨by simp; omega, rfl, fun k x hx => ?_, ho, ⟨rfl, ⟨rfl, Nat.le_refl _⟩, rfl, Nat.le_refl _, fun _ _ _ => ⟨rfl, rfl⟩, fun _ _ => rfl, hg⟩⟩
    obtain ⟨_, h2⟩ := lk_argT hx
    obtain ⟨u, hu, hv'⟩ := hv.get k x (by simpa using h2)
    refine ⟨u, ?_, hv'⟩
    have hk : k < us.length := by
      rcases Nat.lt_or_ge k us.length with h | h
      · exact h
      · rw [List.getElem?_eq_none h] at hu; cases hu
    rw [Array.getElem?_append_left (by simpa using hk)]
    simpa using hu
  have fin : ∀ a' w', (∃ g st, R C ⟨w, g, names o, []⟩ fn.ntmps g st a' w' ∧ True) → True := fun _ _ _ => trivial
  have key : ∀ (g' : Gh) (st' : St) (a' : Act) (w' : World), R C ⟨w, g, names o, []⟩ fn.ntmps g' st' a' w' →
      (∃ xs' ρ y o', S y o' ∧ resVs C st' fn.results.toList = some xs' ∧ ρ.OK ∧ (∀ s ∈ names o, lk s ρ.m = some s) ∧ WeakV ((pack xs').ren ρ) y ∧ WeakO (renSt ρ st') o') →
      a'.defers = [] ∧ ∃ v, (results fn a'.tmps).run C.P w' = .ok v w' ∧ (∃ y o', S y o' ∧ ∃ u g2, Ending.returned v = .returned u ∧ Fr C ⟨w, g, names o, []⟩ g2 w' ∧ VR g2 w' y u ∧ ∀ s cs, lk s o' = some cs → ObjAt g2 w' s cs) := by
    intro g' st' a' w' hr ⟨xs', ρ, y, o', hS, h1, h2, h3, h4, h5⟩
    obtain ⟨u, k1, k2⟩ := results_sound hr h1
    have hr2 := hr.renamed h2 h3
    refine ⟨hr.defs, u, k1, y, o', hS, u, g'.ren ρ g', rfl, hr2.fr, h4 _ _ _ (VR.ren h2 _ _ k2), fun s cs hs => ?_⟩
    obtain ⟨z, hz, hw⟩ := h5.lk hs
    exact (hr2.ob s z hz).lift rfl (hr2.ob s z hz).1 rfl (fun us hu => hw.weakL _ _ _ hu)
  refine wp_mono (wpA_sound (X := ⟨C, names o⟩) (A := ⟨w, g, names o, []⟩) rfl hext c _ g _ _ w hok h hR) fun e a' w' hq => ?_
  cases e with
  | normal => obtain ⟨g', st', hr, hk⟩ := hq; exact key g' st' a' w' hr hk
  | ret => obtain ⟨g', st', hr, hk⟩ := hq; exact key g' st' a' w' hr hk
  | exit id => obtain ⟨g', st', hr, hk⟩ := hq; exact hk.elim
  | goto l => exact hq.elim
  | panic ch => exact hq.elim
  | outgrown => exact hq.elim
theorem FnOK.introW {f : Nat} {fn : Func} {c : Code} {xs : List AV} {o o' : List (Nat × List AV)} {y : AV} (hf : C.P.funcs[f]? = some fn) (hname : (fn.name == "runtime.NumGoroutine") = false) (hb : fn.body = some c)
    (hok : codeOK fn.ntmps c = true) (hargs : xs.length ≤ fn.ntmps) (hext : ∀ s ∈ names o, s % 32 = 31) (h : ∀ (A : A0) (g : Gh) (a : Act) (w : World), A.ext = names o → R C A fn.ntmps g ⟨argT 0 xs, o⟩ a w → c.wp C.P (postA ⟨C, names o⟩ A fn.ntmps (retA ⟨C, names o⟩ fn.results.toList y o')) a w) : FnOK C f xs o y o' := by
  refine ⟨⟨fn, c, hf, hname, hb⟩, fun g w us hg hv ho => calls_of_wp hf hb ?_⟩
  have hl := VRs.length hv
  have hR : R C ⟨w, g, names o, []⟩ fn.ntmps g ⟨argT 0 xs, o⟩ { tmps := us.toArray ++ Array.replicate (fn.ntmps - us.toArray.size) undef, defers := [] } w := by
    refine ⟨by simp; omega, rfl, fun k x hx => ?_, ho, ⟨rfl, ⟨rfl, Nat.le_refl _⟩, rfl, Nat.le_refl _, fun _ _ _ => ⟨rfl, rfl⟩, fun _ _ => rfl, hg⟩⟩
    obtain ⟨_, h2⟩ := lk_argT hx
    obtain ⟨u, hu, hv'⟩ := hv.get k x (by simpa using h2)
    refine ⟨u, ?_, hv'⟩
    have hk : k < us.length := by
      rcases Nat.lt_or_ge k us.length with h | h
      · exact h
      · rw [List.getElem?_eq_none h] at hu; cases hu
    rw [Array.getElem?_append_left (by simpa using hk)]
    simpa using hu
  have fin : ∀ a' w', (∃ g st, R C ⟨w, g, names o, []⟩ fn.ntmps g st a' w' ∧ True) → True := fun _ _ _ => trivial
  have key : ∀ (g' : Gh) (st' : St) (a' : Act) (w' : World), R C ⟨w, g, names o, []⟩ fn.ntmps g' st' a' w' →
      (∃ xs' ρ, resVs C st' fn.results.toList = some xs' ∧ ρ.OK ∧ (∀ s ∈ names o, lk s ρ.m = some s) ∧ WeakV ((pack xs').ren ρ) y ∧ WeakO (renSt ρ st') o') →
      a'.defers = [] ∧ ∃ v, (results fn a'.tmps).run C.P w' = .ok v w' ∧ (∃ u g2, Ending.returned v = .returned u ∧ Fr C ⟨w, g, names o, []⟩ g2 w' ∧ VR g2 w' y u ∧ ∀ s cs, lk s o' = some cs → ObjAt g2 w' s cs) := by
    intro g' st' a' w' hr ⟨xs', ρ, h1, h2, h3, h4, h5⟩
    obtain ⟨u, k1, k2⟩ := results_sound hr h1
    have hr2 := hr.renamed h2 h3
    refine ⟨hr.defs, u, k1, u, g'.ren ρ g', rfl, hr2.fr, h4 _ _ _ (VR.ren h2 _ _ k2), fun s cs hs => ?_⟩
    obtain ⟨z, hz, hw⟩ := h5.lk hs
    exact (hr2.ob s z hz).lift rfl (hr2.ob s z hz).1 rfl (fun us hu => hw.weakL _ _ _ hu)
  refine wp_mono (h ⟨w, g, names o, []⟩ g _ w rfl hR) fun e a' w' hq => ?_
  cases e with
  | normal => obtain ⟨g', st', hr, hk⟩ := hq; exact key g' st' a' w' hr hk
  | ret => obtain ⟨g', st', hr, hk⟩ := hq; exact key g' st' a' w' hr hk
  | exit id => obtain ⟨g', st', hr, hk⟩ := hq; exact hk.elim
  | goto l => exact hq.elim
  | panic ch => exact hq.elim
  | outgrown => exact hq.elim
theorem FnOK.intro {f : Nat} {fn : Func} {c : Code} {xs : List AV} {o o' : List (Nat × List AV)} {y : AV} (hf : C.P.funcs[f]? = some fn) (hname : (fn.name == "runtime.NumGoroutine") = false) (hb : fn.body = some c)
    (hok : codeOK fn.ntmps c = true) (hargs : xs.length ≤ fn.ntmps) (hext : ∀ s ∈ names o, s % 32 = 31) (h : wpA ⟨C, names o⟩ c (retA ⟨C, names o⟩ fn.results.toList y o') ⟨argT 0 xs, o⟩) : FnOK C f xs o y o' :=
  FnOK.introW hf hname hb hok hargs hext fun A g a w hA hR => wpA_sound (X := ⟨C, names o⟩) (A := A) hA hext c _ g _ _ w hok h hR
end
end Go.Abs
namespace Go.Abs
def stepP (d : Option Nat) (K : St → Prop) : Option AV → St → Prop
  | some x, st => K (st.put d x)
  | none, _ => False
theorem nd {α : Sort _} {a b : α} (h : a = b) : a = b := h
@[go_sem] theorem stepP_some (d : Option Nat) (K : St → Prop) (x : AV) (st : St) : stepP d K (some x) st = K (st.put d x) := nd rfl
@[go_sem] theorem stepA_some (d : Option Nat) (K : St → Prop) (x : AV) (st : St) : stepA d K (some (x, st)) = K (st.put d x) := nd rfl
theorem stepA_map (d : Option Nat) (K : St → Prop) (o : Option AV) (st : St) : stepA d K (o.map (·, st)) = stepP d K o st := by cases o <;> rfl
@[go_sem] theorem put_some (k : Nat) (x : AV) (t : List (Nat × AV)) (o : List (Nat × List AV)) : St.put (some k) x ⟨t, o⟩ = ⟨(k, x) :: t, o⟩ := rfl
@[go_sem] theorem put_none (x : AV) (st : St) : St.put none x st = st := rfl
@[go_sem] theorem lk_cons {α : Type} (k j : Nat) (x : α) (l : List (Nat × α)) : lk k ((j, x) :: l) = if j = k then some x else lk k l := rfl
@[go_sem] theorem lk_nil' {α : Type} (k : Nat) : lk k ([] : List (Nat × α)) = none := rfl
@[go_sem] theorem ev_tmp (C : Ctx) (k : Nat) (t : List (Nat × AV)) (o : List (Nat × List AV)) : ev C ⟨t, o⟩ (.tmp k) = (lk k t).getD .undef := rfl
@[go_sem] theorem ev_const (C : Ctx) (st : St) (v : Value) : ev C st (.const v) = .v v := rfl
@[go_sem] theorem ev_func (C : Ctx) (st : St) (f : Nat) : ev C st (.func f) = .fn f [] := rfl
@[go_sem] theorem ev_global (C : Ctx) (st : St) (i : Nat) : ev C st (.global i) = (match C.G i with
    | some cs => .ep .no 0 cs 0
    | none => .undef) := rfl
section
variable (X : Env) (Q : Ex → St → Prop) (K : St → Prop) (st : St)
@[go_sem] theorem wpA_skip : wpA X .skip Q = Q .normal := nd rfl
@[go_sem] theorem wpA_region (id : Nat) (ops : Array Oper) : wpA X (.region id ops false) Q = opsA X ops ops.toList (Q .normal) := nd rfl
@[go_sem] theorem wpA_draw (id : Nat) (ops : Array Oper) : wpA X (.region id ops true) Q = drawA X ops (Q .normal) := nd rfl
@[go_sem] theorem wpA_seq (x y : Code) : wpA X (.seq x y) Q = wpA X x (thenA (wpA X y Q) Q) := nd rfl
@[go_sem] theorem wpA_cond (c : Operand) (x y : Code) : wpA X (.cond c x y) Q st = condA (ev X.C st c) (wpA X x Q) (wpA X y Q) st := nd rfl
@[go_sem] theorem wpA_block (id : Nat) (c : Code) : wpA X (.block id c) Q = wpA X c (blockA id Q) := nd rfl
@[go_sem] theorem wpA_loop (c : Code) : wpA X (.loop c) Q = loopA X (wpA X c) Q := nd rfl
@[go_sem] theorem wpA_exit (id : Nat) : wpA X (.exit id) Q = Q (.exit id) := nd rfl
@[go_sem] theorem wpA_ret : wpA X .ret Q = Q .ret := nd rfl
@[go_sem] theorem wpA_scope (c : Code) : wpA X (.scope c) Q = wpA X c Q := nd rfl
@[go_sem] theorem wpA_label (l : Nat) : wpA X (.label l) Q = Q .normal := nd rfl
@[go_sem] theorem thenA_normal : thenA K Q .normal = K := nd rfl
@[go_sem] theorem thenA_exit (i : Nat) : thenA K Q (.exit i) = Q (.exit i) := nd rfl
@[go_sem] theorem thenA_ret : thenA K Q .ret = Q .ret := nd rfl
@[go_sem] theorem blockA_normal (id : Nat) : blockA id Q .normal = Q .normal := nd rfl
@[go_sem] theorem blockA_exit (id i : Nat) : blockA id Q (.exit i) = if i = id then Q .normal else Q (.exit i) := nd rfl
@[go_sem] theorem blockA_ret (id : Nat) : blockA id Q .ret = Q .ret := nd rfl
@[go_sem] theorem condA_b (b : Bool) (K1 K2 : St → Prop) : condA (.v (.bool b)) K1 K2 st = ((b = true → K1 st) ∧ (b = false → K2 st)) := nd rfl
@[go_sem high] theorem condA_true (K1 K2 : St → Prop) : condA (.v (.bool true)) K1 K2 st = K1 st := by simp [condA]
@[go_sem high] theorem condA_false (K1 K2 : St → Prop) : condA (.v (.bool false)) K1 K2 st = K2 st := by simp [condA]
@[go_sem] theorem opsA_nil (all : Array Oper) : opsA X all [] K = K := nd rfl
@[go_sem] theorem evs_nil (C : Ctx) : evs C st [] = [] := rfl
@[go_sem] theorem evs_cons (C : Ctx) (x : Operand) (xs : List Operand) : evs C st (x :: xs) = ev C st x :: evs C st xs := rfl
@[go_sem] theorem callA_mv (d : Option Nat) (f : Nat) (first xs : List AV) : callA X d (.mv f first) xs K st = callB X d f (first ++ xs) K st := nd rfl
@[go_sem] theorem callA_fn (d : Option Nat) (f : Nat) (caps xs : List AV) : callA X d (.fn f caps) xs K st = callB X d f (xs ++ caps) K st := nd rfl
variable (all : Array Oper) (rest : List Oper) (d : Option Nat) (ty : TypeId) (pos : String) (aft : Array Edge)
@[go_sem] theorem op_guard (op : Op) (j : Nat) (b : Bool) : opsA X all (⟨d, op, ty, pos, aft, some (j, b)⟩ :: rest) K st =
    (match guardOf all j st with
    | some (.v (.bool b')) => splitA b' b (opsA X all (⟨d, op, ty, pos, aft, none⟩ :: rest) K (st.learn (gdst all j) b)) (opsA X all rest K ((st.learn (gdst all j) (!b)).put d (.tup [])))
    | some (.tup []) => opsA X all rest K (st.put d (.tup []))
    | _ => False) := nd rfl
@[go_sem ↓] theorem splitA_1 (p q : Prop) : splitA true true p q = p := by simp [splitA]
@[go_sem ↓] theorem splitA_2 (p q : Prop) : splitA false true p q = q := by simp [splitA]
@[go_sem ↓] theorem splitA_3 (p q : Prop) : splitA true false p q = q := by simp [splitA]
@[go_sem ↓] theorem splitA_4 (p q : Prop) : splitA false false p q = p := by simp [splitA]
@[go_sem] theorem gdst_def (j : Nat) : gdst all j = (all[j]?).bind (·.dst) := rfl
@[go_sem] theorem learn_some (k : Nat) (b : Bool) (t : List (Nat × AV)) (o : List (Nat × List AV)) : St.learn (some k) b ⟨t, o⟩ = ⟨setT k (.v (.bool b)) t, o⟩ := rfl
def lkO (d : Option Nat) (l : List (Nat × AV)) : Option AV := match d with
  | some k => lk k l
  | none => none
@[go_sem] theorem lkO_some (k : Nat) (l : List (Nat × AV)) : lkO (some k) l = lk k l := rfl
@[go_sem] theorem guardOf_def (j : Nat) : guardOf all j st = lkO ((all[j]?).bind (·.dst)) st.tmps := by
  unfold guardOf lkO
  cases (all[j]?).bind (·.dst) <;> rfl
@[go_sem] theorem splitA_tt (b' : Bool) (p q : Prop) : splitA b' true p q = ((b' = true → p) ∧ (b' = false → q)) := by cases b' <;> simp [splitA]
@[go_sem] theorem splitA_ff (b' : Bool) (p q : Prop) : splitA b' false p q = ((b' = false → p) ∧ (b' = true → q)) := by cases b' <;> simp [splitA]
@[go_sem] theorem op_move (x : Operand) : opsA X all (⟨d, .move x, ty, pos, aft, none⟩ :: rest) K st = opsA X all rest K (st.put d (ev X.C st x)) := nd rfl
@[go_sem] theorem op_assign (x : Operand) : opsA X all (⟨d, .assign x, ty, pos, aft, none⟩ :: rest) K st = opsA X all rest K (st.put d (ev X.C st x)) := nd rfl
@[go_sem] theorem op_makeMap (t : TypeId) (k : Nat) : opsA X all (⟨some k, .makeMap t none, ty, pos, aft, none⟩ :: rest) K st = stepA (some k) (opsA X all rest K) (some (.mp (nmM k), ⟨(st.kill [] [nmM k]).tmps, (nmM k, []) :: (st.kill [] [nmM k]).objs⟩)) := nd rfl
@[go_sem] theorem op_lookup (t : TypeId) (m k : Operand) : opsA X all (⟨d, .lookup t m k false, ty, pos, aft, none⟩ :: rest) K st = stepP d (opsA X all rest K) (lookupV X.C.P t st.objs (ev X.C st m) (ev X.C st k)) st := stepA_map _ _ _ _
@[go_sem] theorem op_lookupOk (t : TypeId) (m k : Operand) : opsA X all (⟨d, .lookup t m k true, ty, pos, aft, none⟩ :: rest) K st = stepP d (opsA X all rest K) (lookupOkV X.C.P t st.objs (ev X.C st m) (ev X.C st k)) st := stepA_map _ _ _ _
@[go_sem] theorem op_typeAssert (xt t : TypeId) (x : Operand) (ok : Bool) : opsA X all (⟨d, .typeAssert x xt t ok, ty, pos, aft, none⟩ :: rest) K st = stepP d (opsA X all rest K) (assertA X.C.P t ok (ev X.C st x)) st := stepA_map _ _ _ _
@[go_sem] theorem op_invoke (r : Operand) (name : String) (args : Array Operand) (ts : Array TypeId) : opsA X all (⟨d, .call ⟨.invoke r name, args, ts⟩, ty, pos, aft, none⟩ :: rest) K st = invA X d name (ev X.C st r) (evs X.C st args.toList) (opsA X all rest K) st := nd rfl
def bindO (t : List (Nat × AV)) (o : Option (List (Nat × List AV))) (K : St → Prop) : Prop := match o with
  | some os => K ⟨t, os⟩
  | none => False
@[go_sem] theorem bindO_some (t : List (Nat × AV)) (os : List (Nat × List AV)) (K : St → Prop) : bindO t (some os) K = K ⟨t, os⟩ := nd rfl
@[go_sem] theorem op_mapUpdate (t : TypeId) (m k v : Operand) : opsA X all (⟨none, .mapUpdate t m k v, ty, pos, aft, none⟩ :: rest) K st = bindO st.tmps (insertV X.C.P t st.objs (ev X.C st m) (ev X.C st k) (ev X.C st v)) (opsA X all rest K) := by
  simp only [opsA, operA, doA, stepV]
  cases h : insertV X.C.P t st.objs (ev X.C st m) (ev X.C st k) (ev X.C st v) <;> simp [h, stepA, bindO, put_none]
@[go_sem] theorem lookupV_mp (P : Program) (t : TypeId) (objs : List (Nat × List AV)) (s : Nat) (k : AV) : lookupV P t objs (.mp s) k = (lk s objs).bind fun cs => lookupA P t cs k := rfl
@[go_sem] theorem lookupOkV_mp (P : Program) (t : TypeId) (objs : List (Nat × List AV)) (s : Nat) (k : AV) : lookupOkV P t objs (.mp s) k = (lk s objs).bind fun cs => lookupOkA P t cs k := rfl
@[go_sem] theorem assertA_ifc (P : Program) (t t' : TypeId) (ok : Bool) (y : AV) : assertA P t ok (.ifc t' y) = if P.concrete t = true ∧ t' = t then some (if ok = true then .tup [y, .v (.bool true)] else y) else none := rfl
@[go_sem] theorem invA_ifc (name : String) (t : TypeId) (y : AV) (xs : List AV) : invA X d name (.ifc t y) xs K st = (match methA X.C t name y st.objs with
    | some (f, r) => callB X d f (r :: xs) K st
    | none => False) := nd rfl
@[go_sem] theorem methA_def (C : Ctx) (t : TypeId) (name : String) (x : AV) (objs : List (Nat × List AV)) : methA C t name x objs = (match methOf C.P t name with
  | some (f, none) => some (f, x)
  | some (f, some e) => match aggOf C.P e, szOf C.P e with
    | some agg, some n => (loadA agg n objs x).map fun y => (f, y)
    | _, _ => none
  | _ => none) := rfl
@[go_sem] theorem insertV_mp (P : Program) (t : TypeId) (objs : List (Nat × List AV)) (s : Nat) (k v : AV) : insertV P t objs (.mp s) k v = (lk s objs).bind fun cs => (insertA P t cs k v).map fun cs' => upd s cs' objs := rfl
@[go_sem] theorem op_pick (c a b : Operand) : opsA X all (⟨d, .pick c a b, ty, pos, aft, none⟩ :: rest) K st = stepP d (opsA X all rest K) (pickA (ev X.C st c) (ev X.C st a) (ev X.C st b)) st := stepA_map _ _ _ _
@[go_sem] theorem op_alloc (t : TypeId) (k : Nat) : opsA X all (⟨some k, .alloc t, ty, pos, aft, none⟩ :: rest) K st = stepA (some k) (opsA X all rest K) (match zeroOf X.C.P t with
    | some zs => some (.ptr (nm k) 0, ⟨(st.kill [] [nm k]).tmps, (nm k, vals zs) :: (st.kill [] [nm k]).objs⟩)
    | none => none) := by
  simp only [opsA, operA, doA, stepV]
  cases zeroOf X.C.P t <;> rfl
@[go_sem] theorem op_box (t : TypeId) (x : Operand) (k : Nat) : opsA X all (⟨some k, .box t x, ty, pos, aft, none⟩ :: rest) K st = stepA (some k) (opsA X all rest K) (if okCells (ev X.C st x).cells = true then some (.ptr (nm k) 0, ⟨(st.kill [] [nm k]).tmps, (nm k, killL [] [nm k] (ev X.C st x).cells) :: (st.kill [] [nm k]).objs⟩) else none) := nd rfl
def loadV (C : Ctx) (t : TypeId) (p : AV) (objs : List (Nat × List AV)) : Option AV := match aggOf C.P t, szOf C.P t with
  | some agg, some n => loadA agg n objs p
  | _, _ => none
@[go_sem] theorem loadV_def (C : Ctx) (t : TypeId) (p : AV) (objs : List (Nat × List AV)) : loadV C t p objs = (match aggOf C.P t, szOf C.P t with
  | some agg, some n => loadA agg n objs p
  | _, _ => none) := rfl
@[go_sem] theorem op_load (t : TypeId) (x : Operand) : opsA X all (⟨d, .load t x, ty, pos, aft, none⟩ :: rest) K st = stepP d (opsA X all rest K) (loadV X.C t (ev X.C st x) st.objs) st := by
  simp only [opsA, operA, doA, stepV, loadV]
  rw [← stepA_map]; congr 1
  cases aggOf X.C.P t <;> cases szOf X.C.P t <;> rfl
def bindS (o : Option St) (K : St → Prop) : Prop := match o with
  | some st => K st
  | none => False
@[go_sem] theorem bindS_some (st : St) (K : St → Prop) : bindS (some st) K = K st := nd rfl
@[go_sem] theorem op_store (t : TypeId) (p x : Operand) : opsA X all (⟨none, .store t p x, ty, pos, aft, none⟩ :: rest) K st = (match szOf X.C.P t with
    | some n => bindS (storeA n st (ev X.C st p) (ev X.C st x)) (opsA X all rest K)
    | none => False) := by
  simp only [opsA, operA, doA, stepV]
  cases szOf X.C.P t with
  | none => rfl
  | some n => cases h : storeA n st (ev X.C st p) (ev X.C st x) <;> simp [h, stepA, bindS, put_none]
@[go_sem] theorem op_index (t : TypeId) (x i : Operand) : opsA X all (⟨d, .index t x i, ty, pos, aft, none⟩ :: rest) K st = stepP d (opsA X all rest K) (idxV X.C.P t (ev X.C st i) (ev X.C st x)) st := stepA_map _ _ _ _
@[go_sem] theorem op_fieldAddr (t : TypeId) (x : Operand) (i : Nat) : opsA X all (⟨d, .fieldAddr t x i, ty, pos, aft, none⟩ :: rest) K st = stepP d (opsA X all rest K) (match offOf X.C.P t i with
    | some off => fieldA off (ev X.C st x)
    | none => none) st := by
  simp only [opsA, operA, doA, stepV]
  cases offOf X.C.P t i with
  | none => rfl
  | some off => exact stepA_map _ _ _ _
def indexV (C : Ctx) (t : TypeId) (x i : AV) : Option AV := match i with
  | .v (.int _ k) => match elemOfSlice C.P t with
      | some (_, n) => indexS n k x
      | none => match elemOfArray C.P t with
        | some (len, n) => indexR len n k x
        | none => none
  | _ => none
@[go_sem] theorem indexV_int (C : Ctx) (t : TypeId) (x : AV) (kd : IntKind) (k : Int) : indexV C t x (.v (.int kd k)) = (match elemOfSlice C.P t with
      | some (_, n) => indexS n k x
      | none => match elemOfArray C.P t with
        | some (len, n) => indexR len n k x
        | none => none) := rfl
@[go_sem] theorem op_indexAddr (t : TypeId) (x i : Operand) : opsA X all (⟨d, .indexAddr t x i, ty, pos, aft, none⟩ :: rest) K st = stepP d (opsA X all rest K) (indexV X.C t (ev X.C st x) (ev X.C st i)) st := by
  simp only [opsA, operA, doA, stepV, indexV]
  rw [← stepA_map]; congr 1
  generalize ev X.C st i = v
  cases v <;> try rfl
  rename_i u
  cases u <;> try rfl
  simp only
  cases elemOfSlice X.C.P t <;> cases elemOfArray X.C.P t <;> rfl
@[go_sem] theorem op_nilCheck (x : Operand) : opsA X all (⟨d, .nilCheck x, ty, pos, aft, none⟩ :: rest) K st = stepP d (opsA X all rest K) (nilA (ev X.C st x)) st := stepA_map _ _ _ _
@[go_sem] theorem op_binOp (op : BinOp) (t t2 : TypeId) (x y : Operand) : opsA X all (⟨d, .binOp op t x y t2, ty, pos, aft, none⟩ :: rest) K st = stepP d (opsA X all rest K) (binA X.C.P op t (ev X.C st x) (ev X.C st y)) st := stepA_map _ _ _ _
@[go_sem] theorem op_unOp (op : UnOp) (t : TypeId) (x : Operand) : opsA X all (⟨d, .unOp op t x, ty, pos, aft, none⟩ :: rest) K st = stepP d (opsA X all rest K) (unA op (ev X.C st x)) st := stepA_map _ _ _ _
@[go_sem] theorem op_convert (s t : TypeId) (x : Operand) : opsA X all (⟨d, .convert s t x, ty, pos, aft, none⟩ :: rest) K st = stepP d (opsA X all rest K) (convP X.C.P s t (ev X.C st x)) st := stepA_map _ _ _ _
def extractA (i : Nat) : AV → Option AV
  | .tup cs => cs[i]?
  | _ => none
@[go_sem] theorem extractA_tup (i : Nat) (cs : List AV) : extractA i (.tup cs) = cs[i]? := rfl
@[go_sem] theorem op_extract (x : Operand) (i : Nat) : opsA X all (⟨d, .extract x i, ty, pos, aft, none⟩ :: rest) K st = stepP d (opsA X all rest K) (extractA i (ev X.C st x)) st := by
  simp only [opsA, operA, doA, stepV, extractA]
  rw [← stepA_map]; congr 1
  generalize ev X.C st x = v
  cases v <;> rfl
@[go_sem] theorem op_field (t : TypeId) (x : Operand) (i : Nat) : opsA X all (⟨d, .field t x i, ty, pos, aft, none⟩ :: rest) K st = stepP d (opsA X all rest K) (fieldV X.C.P t i (ev X.C st x)) st := stepA_map _ _ _ _
def buildV (C : Ctx) (t : TypeId) (ps : List (Nat × AV)) : Option AV := match zeroOf C.P t, aggOf C.P t with
    | some zs, some true => if sized C.P t = true then (fillA (placeOf C.P t) (vals zs) ps).map .agg else none
    | _, _ => none
@[go_sem] theorem buildV_def (C : Ctx) (t : TypeId) (ps : List (Nat × AV)) : buildV C t ps = (match zeroOf C.P t, aggOf C.P t with
    | some zs, some true => if sized C.P t = true then (fillA (placeOf C.P t) (vals zs) ps).map .agg else none
    | _, _ => none) := rfl
def partsL (C : Ctx) (st : St) : List (Nat × Operand) → List (Nat × AV)
  | [] => []
  | (i, x) :: ps => (i, ev C st x) :: partsL C st ps
@[go_sem] theorem partsL_nil (C : Ctx) : partsL C st [] = [] := rfl
@[go_sem] theorem partsL_cons (C : Ctx) (i : Nat) (x : Operand) (ps : List (Nat × Operand)) : partsL C st ((i, x) :: ps) = (i, ev C st x) :: partsL C st ps := rfl
theorem partsL_eq (C : Ctx) (ps : Array (Nat × Operand)) : parts C st ps = partsL C st ps.toList := by
  unfold parts
  induction ps.toList with
  | nil => rfl
  | cons p l ih => obtain ⟨i, x⟩ := p; simp only [List.map_cons, partsL, ih]
@[go_sem] theorem op_build (t : TypeId) (ps : Array (Nat × Operand)) : opsA X all (⟨d, .build t ps, ty, pos, aft, none⟩ :: rest) K st = stepP d (opsA X all rest K) (buildV X.C t (partsL X.C st ps.toList)) st := by
  simp only [opsA, operA, doA, stepV, buildV, partsL_eq]
  rw [← stepA_map]; congr 1
  cases zeroOf X.C.P t with
  | none => rfl
  | some zs => cases aggOf X.C.P t with
    | none => rfl
    | some b => cases b with
      | false => rfl
      | true =>
        simp only
        split
        · simp [Option.map_map, Function.comp_def]
        · rfl
@[go_sem] theorem op_buildSlice (t : TypeId) (len k : Nat) (ps : Array (Nat × Operand)) : opsA X all (⟨some k, .buildSlice t len ps, ty, pos, aft, none⟩ :: rest) K st = stepA (some k) (opsA X all rest K) (match rowInf X.C.P t with
    | some (e, n, _) => match zeroOf X.C.P e with
      | some zs => litA (nm k) n len zs st (partsL X.C st ps.toList)
      | none => none
    | none => none) := by
  simp only [opsA, operA, doA, stepV, partsL_eq]
  cases rowInf X.C.P t with
  | none => rfl
  | some p => rfl
def makeV (C : Ctx) (k : Nat) (t : TypeId) (l c : AV) (st : St) : Option (AV × St) := match some k, rowInf C.P t, l, c with
    | some d, some (e, n, _), .v (.int _ l), .v (.int _ c) => match zeroOf C.P e with
      | some zs => makeA (nm d) n zs st l c
      | none => none
    | _, _, _, _ => none
@[go_sem] theorem makeV_int (C : Ctx) (k : Nat) (t : TypeId) (kl kc : IntKind) (l c : Int) : makeV C k t (.v (.int kl l)) (.v (.int kc c)) st = (match rowInf C.P t with
    | some (e, n, _) => match zeroOf C.P e with
      | some zs => makeA (nm k) n zs st l c
      | none => none
    | none => none) := by
  unfold makeV
  cases rowInf C.P t <;> rfl
@[go_sem] theorem op_makeSlice (t : TypeId) (k : Nat) (l c : Operand) : opsA X all (⟨some k, .makeSlice t l c, ty, pos, aft, none⟩ :: rest) K st = stepA (some k) (opsA X all rest K) (makeV X.C k t (ev X.C st l) (ev X.C st c) st) := nd rfl
def boundV : Option AV → Option (Option Nat)
  | none => some none
  | some x => (natOf x).map some
@[go_sem] theorem boundV_none : boundV none = some none := rfl
@[go_sem] theorem boundV_some (x : AV) : boundV (some x) = (natOf x).map some := rfl
@[go_sem] theorem litBound_eq (C : Ctx) (o : Option Operand) : litBound C st o = boundV (o.map (ev C st)) := by cases o <;> rfl
@[go_sem] theorem op_slice (t : TypeId) (x : Operand) (lo hi mx : Option Operand) (k : Nat) : opsA X all (⟨some k, .slice t x lo hi mx, ty, pos, aft, none⟩ :: rest) K st = (if isOwnSl (ev X.C st x) && mx.isSome then stepA (some k) (opsA X all rest K) (cutA X.C st t (ev X.C st x) lo hi mx) else stepA (some k) (opsA X all rest K) (sliceOp X.C st t (ev X.C st x) lo hi mx)) := nd rfl
@[go_sem] theorem cutA_sl (C : Ctx) (t : TypeId) (r b k : Nat) (es : List (List AV)) (hi mx : Operand) : cutA C st t (.sl (.own r b) k es) none (some hi) (some mx) = (match natOf (ev C st hi), natOf (ev C st mx), elemOfSlice C.P t with
    | some h, some m, some (_, n) => if m = h ∧ k = n ∧ h ≤ es.length then some (.sl (.own r b) n (es.take h), st) else none
    | _, _, _ => none) := by
  simp only [cutA, litBound]
  cases natOf (ev C st hi) with
  | none => rfl
  | some h => cases natOf (ev C st mx) with
    | none => rfl
    | some m => cases elemOfSlice C.P t with
      | none => rfl
      | some p => rfl
@[go_sem] theorem sliceOp_sl (C : Ctx) (t : TypeId) (tg : Tag) (n : Nat) (es : List (List AV)) (lo hi mx : Option Operand) : sliceOp C st t (.sl tg n es) lo hi mx = (match litBound C st lo, litBound C st hi, litBound C st mx, elemOfSlice C.P t with
    | some l, some (some h), some none, some (_, m) => if n = m then sliceA m false (l.getD 0) h st (.sl tg n es) else none
    | some l, some none, some none, some (_, m) => if n = m then sliceA m false (l.getD 0) es.length st (.sl tg n es) else none
    | some l, some (some h), some (some x), some (_, m) => if n = m ∧ x = h then sliceA m true (l.getD 0) h st (.sl tg n es) else none
    | _, _, _, _ => none) := by
  unfold sliceOp
  cases litBound C st lo with
  | none => rfl
  | some l => cases litBound C st hi with
    | none => rfl
    | some h => cases litBound C st mx with
      | none => cases h <;> rfl
      | some m => cases elemOfSlice C.P t with
        | none => cases h <;> cases m <;> rfl
        | some p =>
          obtain ⟨e, k⟩ := p
          simp only [elems]
          by_cases hn : n = k
          · cases h <;> cases m <;> simp [hn]
          · cases h <;> cases m <;> simp [hn]
@[go_sem] theorem sliceOp_nil (C : Ctx) (t : TypeId) (lo hi mx : Option Operand) : sliceOp C st t (.v (.slice none 0 0)) lo hi mx = (match litBound C st lo, litBound C st hi, litBound C st mx, elemOfSlice C.P t with
    | some l, some h, some none, some (_, m) => sliceA m false (l.getD 0) (h.getD 0) st (.v (.slice none 0 0))
    | some l, some (some h), some (some x), some (_, m) => if x = h then sliceA m true (l.getD 0) h st (.v (.slice none 0 0)) else none
    | _, _, _, _ => none) := by
  unfold sliceOp
  cases litBound C st lo with
  | none => rfl
  | some l => cases litBound C st hi with
    | none => rfl
    | some h => cases litBound C st mx with
      | none => cases h <;> rfl
      | some m => cases elemOfSlice C.P t with
        | none => cases h <;> cases m <;> rfl
        | some p => cases h <;> cases m <;> rfl
@[go_sem] theorem sliceOp_str (C : Ctx) (t : TypeId) (s : ByteArray) (lo hi : Option Operand) : sliceOp C st t (.v (.string s)) lo hi none = (match litBound C st lo, litBound C st hi, elemOfSlice C.P t with
    | some l, some h, none => if strT C.P t ∧ l.getD 0 ≤ h.getD s.size ∧ h.getD s.size ≤ s.size then some (.v (.string (s.extract (l.getD 0) (h.getD s.size))), st) else none
    | _, _, _ => none) := by
  unfold sliceOp
  cases litBound C st lo with
  | none => rfl
  | some l => cases litBound C st hi with
    | none => rfl
    | some h => cases elemOfSlice C.P t with
      | none => rfl
      | some p => rfl
@[go_sem] theorem op_makeFunc1 (f : Nat) (x : Operand) : opsA X all (⟨d, .makeFunc (.func f) #[x] #[], ty, pos, aft, none⟩ :: rest) K st = opsA X all rest K (st.put d (.mv f [ev X.C st x])) := nd rfl
@[go_sem] theorem op_makeFunc (f : Nat) (caps : Array Operand) : opsA X all (⟨d, .makeFunc (.func f) #[] caps, ty, pos, aft, none⟩ :: rest) K st = opsA X all rest K (st.put d (.fn f (evs X.C st caps.toList))) := by
  rw [evs_map]; rfl
@[go_sem] theorem op_makeInterface (t : TypeId) (x : Operand) : opsA X all (⟨d, .makeInterface t x, ty, pos, aft, none⟩ :: rest) K st = (if X.C.P.concrete t then opsA X all rest K (st.put d (.ifc t (ev X.C st x))) else False) := by
  simp only [opsA, operA, doA, stepV]
  split <;> rfl
@[go_sem] theorem op_call (f : Operand) (args : Array Operand) (ts : Array TypeId) : opsA X all (⟨d, .call ⟨.value f, args, ts⟩, ty, pos, aft, none⟩ :: rest) K st = callA X d (ev X.C st f) (evs X.C st args.toList) (opsA X all rest K) st := nd rfl
@[go_sem] theorem op_len (x : Operand) (t : TypeId) : opsA X all (⟨d, .call ⟨.builtin .len, #[x], #[t]⟩, ty, pos, aft, none⟩ :: rest) K st = (if lenOk X.C.P t (ev X.C st x) = true then stepP d (opsA X all rest K) (lenA (ev X.C st x)) st else False) := by
  simp only [opsA, operA, doA, stepV, builtinV]
  split
  · exact stepA_map _ _ _ _
  · rfl
@[go_sem] theorem op_append (x y : Operand) (t t2 : TypeId) (k : Nat) : opsA X all (⟨some k, .call ⟨.builtin .append, #[x, y], #[t, t2]⟩, ty, pos, aft, none⟩ :: rest) K st = (match rowInf X.C.P t with
    | some (e, n, _) => if isSliceT X.C.P t2 = true then stepA (some k) (opsA X all rest K) (appendA (nm k) n st (ev X.C st x) (ev X.C st y)) else stepA (some k) (opsA X all rest K) (match zeroOf X.C.P e with
      | some zs => appendNA X.C.P (nm k) n t2 zs st (ev X.C st x) (ev X.C st y)
      | none => none)
    | none => False) := by
  simp only [opsA, operA, doA, stepV, builtinV]
  cases rowInf X.C.P t with
  | none => rfl
  | some p =>
    obtain ⟨e, n, b⟩ := p
    simp only
    split <;> rfl
@[go_sem] theorem op_copy (x y : Operand) (t t2 : TypeId) : opsA X all (⟨d, .call ⟨.builtin .copy, #[x, y], #[t, t2]⟩, ty, pos, aft, none⟩ :: rest) K st = stepA d (opsA X all rest K) (copyA X.C.P t st (ev X.C st x) (ev X.C st y)) := nd rfl
@[go_sem] theorem op_clear (x : Operand) (t : TypeId) : opsA X all (⟨d, .call ⟨.builtin .clear, #[x], #[t]⟩, ty, pos, aft, none⟩ :: rest) K st = stepA d (opsA X all rest K) (clearA X.C.P t st (ev X.C st x)) := nd rfl
@[go_sem] theorem op_cap (x : Operand) (t : TypeId) : opsA X all (⟨d, .call ⟨.builtin .cap, #[x], #[t]⟩, ty, pos, aft, none⟩ :: rest) K st = stepP d (opsA X all rest K) (capA X.C.P t (ev X.C st x)) st := stepA_map _ _ _ _
def maxA : AV → AV → Option AV
  | .v (.int k a), .v (.int _ b) => some (.v (.int k (if b > a then b else a)))
  | _, _ => none
def minA : AV → AV → Option AV
  | .v (.int k a), .v (.int _ b) => some (.v (.int k (if b < a then b else a)))
  | _, _ => none
@[go_sem] theorem maxA_int (k k' : IntKind) (a b : Int) : maxA (.v (.int k a)) (.v (.int k' b)) = some (.v (.int k (if b > a then b else a))) := rfl
@[go_sem] theorem minA_int (k k' : IntKind) (a b : Int) : minA (.v (.int k a)) (.v (.int k' b)) = some (.v (.int k (if b < a then b else a))) := rfl
@[go_sem] theorem op_max (x y : Operand) (ts : Array TypeId) : opsA X all (⟨d, .call ⟨.builtin .max, #[x, y], ts⟩, ty, pos, aft, none⟩ :: rest) K st = stepP d (opsA X all rest K) (maxA (ev X.C st x) (ev X.C st y)) st := by
  simp only [opsA, operA, doA, stepV, builtinV, maxA]
  rw [← stepA_map]; congr 1
  generalize ev X.C st x = v
  generalize ev X.C st y = v'
  cases v with
  | v u => cases v' with
    | v u' => cases u <;> cases u' <;> rfl
    | _ => cases u <;> rfl
  | _ => rfl
@[go_sem] theorem op_min (x y : Operand) (ts : Array TypeId) : opsA X all (⟨d, .call ⟨.builtin .min, #[x, y], ts⟩, ty, pos, aft, none⟩ :: rest) K st = stepP d (opsA X all rest K) (minA (ev X.C st x) (ev X.C st y)) st := by
  simp only [opsA, operA, doA, stepV, builtinV, minA]
  rw [← stepA_map]; congr 1
  generalize ev X.C st x = v
  generalize ev X.C st y = v'
  cases v with
  | v u => cases v' with
    | v u' => cases u <;> cases u' <;> rfl
    | _ => cases u <;> rfl
  | _ => rfl
end
@[go_sem] theorem lenOk_sl (P : Program) (t : TypeId) (tg : Tag) (n : Nat) (es : List (List AV)) : lenOk P t (.sl tg n es) = isSliceT P t := rfl
@[go_sem] theorem lenOk_nil (P : Program) (t : TypeId) : lenOk P t (.v (.slice none 0 0)) = isSliceT P t := rfl
@[go_sem] theorem lenOk_str (P : Program) (t : TypeId) (s : ByteArray) : lenOk P t (.v (.string s)) = strT P t := rfl
@[go_sem] theorem lenA_sl (tg : Tag) (n : Nat) (es : List (List AV)) : lenA (.sl tg n es) = some (.v (.int .i64 es.length)) := rfl
@[go_sem] theorem lenA_mem (xs : List AV) : lenA (.mem true xs) = some (.v (.int .i64 xs.length)) := rfl
@[go_sem] theorem lenOk_mem (P : Program) (t : TypeId) (b : Bool) (xs : List AV) : lenOk P t (.mem b xs) = isSliceT P t := rfl
@[go_sem] theorem lenA_nil : lenA (.v (.slice none 0 0)) = some (.v (.int .i64 0)) := rfl
@[go_sem] theorem lenA_str (s : ByteArray) : lenA (.v (.string s)) = some (.v (.int .i64 s.size)) := rfl
@[go_sem] theorem pickA_b (p x y : Bool) : pickA (.v (.bool p)) (.v (.bool x)) (.v (.bool y)) = some (.v (.bool (bif p then x else y))) := rfl
@[go_sem high] theorem pickA_tt (x y : AV) : pickA (.v (.bool true)) x y = some x := by unfold pickA; split <;> simp_all
@[go_sem high] theorem pickA_ff (x y : AV) : pickA (.v (.bool false)) x y = some y := by unfold pickA; split <;> simp_all
@[go_sem] theorem nilA_ptr (s o : Nat) : nilA (.ptr s o) = some (.ptr s o) := rfl
@[go_sem] theorem nilA_ep (t : Tag) (i : Nat) (cs : List AV) (o : Nat) : nilA (.ep t i cs o) = some (.ep t i cs o) := rfl
@[go_sem] theorem nilA_fn (f : Nat) (cs : List AV) : nilA (.fn f cs) = some (.fn f cs) := rfl
attribute [go_sem] cond_true cond_false bne_self_eq_false setT mkA loadA fieldA indexS indexR elems storeA litA makeA natOf appendA sliceA fillA fieldV idxV
  AV.cells okCell okCells upd cut pureA pureL rowsOf vals chunk
  AV.kill killL killT killO St.kill AV.freeze freezeL nm unA binA intBin shiftBin strBin eqVals valsOf
  AV.mapH mapHL AV.killH AV.freezeH AV.setRowH AV.setRunH St.mapH St.setRow St.setRun copyA clearA capA appendNA Option.isNone_none Option.isNone_some St.freeze convP
  List.map_cons List.map_nil List.length_cons List.length_nil List.drop_zero List.drop_succ_cons List.take_succ_cons List.take_zero List.drop_nil List.take_nil List.cons_append List.nil_append List.append_nil
  List.getElem?_toArray List.getElem?_cons_zero List.getElem?_cons_succ List.flatten_cons List.flatten_nil List.replicate_zero List.replicate_succ
  Option.map_some Option.map_none Option.getD_some Option.getD_none Option.bind_some Option.bind_none
  if_true if_false Nat.reduceEqDiff Nat.reduceAdd Nat.reduceMul Nat.reduceLeDiff Nat.reduceSub Nat.reduceLT Nat.zero_add Nat.add_zero and_true true_and and_self List.mem_cons List.mem_nil_iff List.not_mem_nil or_false false_or or_self not_false_eq_true not_true_eq_false
  Bool.false_eq_true Bool.true_eq_false Bool.not_true Bool.not_false Bool.and_true Bool.true_and Bool.false_and Bool.and_false beq_self_eq_true decide_true decide_false reduceCtorEq forall_const implies_true false_implies
theorem natOf_pos (k : IntKind) (i : Int) (h : 0 ≤ i) : natOf (.v (.int k i)) = some i.toNat := by simp [natOf, h]
@[go_sem] theorem cast_nonneg (n : Nat) : (0 ≤ (n : Int)) = True := by simp
@[go_sem] theorem tt_beq (b : Bool) : (true == b) = b := by cases b <;> rfl
@[go_sem] theorem ff_beq (b : Bool) : (false == b) = !b := by cases b <;> rfl
@[go_sem] theorem beq_tt (b : Bool) : (b == true) = b := by cases b <;> rfl
@[go_sem] theorem beq_ff (b : Bool) : (b == false) = !b := by cases b <;> rfl
attribute [go_sem] Int.cast_ofNat_Int Int.reduceBNe Int.reduceBEq Bool.not_not Int.toNat_natCast Int.toNat_zero Int.reduceLE Int.reduceLT Int.reduceToNat Int.reduceAdd Int.reduceSub Int.reduceMul Int.reduceNeg Nat.le_refl Nat.zero_le Nat.sub_zero List.take_length List.length_take List.length_drop List.length_append List.length_map
theorem wrap64 (n : Int) (h1 : -9223372036854775808 ≤ n) (h2 : n ≤ 9223372036854775807) : IntKind.i64.wrap n = n := by
  simp only [IntKind.wrap, IntKind.signed, IntKind.bits, Bool.true_and, decide_eq_true_eq, ge_iff_le, Nat.reduceSub]
  split <;> omega
theorem wrap32 (n : Int) (h1 : -2147483648 ≤ n) (h2 : n ≤ 2147483647) : IntKind.i32.wrap n = n := by
  simp only [IntKind.wrap, IntKind.signed, IntKind.bits, Bool.true_and, decide_eq_true_eq, ge_iff_le, Nat.reduceSub]
  split <;> omega
theorem wrapu8 (n : Int) (h1 : 0 ≤ n) (h2 : n ≤ 255) : IntKind.u8.wrap n = n := by
  simp only [IntKind.wrap, IntKind.signed, IntKind.bits, Bool.false_and, Bool.false_eq_true, if_false]
  omega
theorem wrapu32 (n : Int) (h1 : 0 ≤ n) (h2 : n ≤ 4294967295) : IntKind.u32.wrap n = n := by
  simp only [IntKind.wrap, IntKind.signed, IntKind.bits, Bool.false_and, Bool.false_eq_true, if_false]
  omega
theorem wrapu64 (n : Int) (h1 : 0 ≤ n) (h2 : n ≤ 18446744073709551615) : IntKind.u64.wrap n = n := by
  simp only [IntKind.wrap, IntKind.signed, IntKind.bits, Bool.false_and, Bool.false_eq_true, if_false]
  omega
@[go_sem] theorem renO_nil (ρ : Rn) : renO ρ [] = [] := rfl
@[go_sem] theorem renO_cons (ρ : Rn) (k : Nat) (cs : List AV) (o : List (Nat × List AV)) : renO ρ ((k, cs) :: o) = (match lk k ρ.m with | some s => (s, renL ρ cs) :: renO ρ o | none => renO ρ o) := by
  simp only [renO, List.filterMap_cons]
  cases lk k ρ.m <;> rfl
attribute [go_sem] names argT AV.ren AV.renH renL renT renSt inv rngs Way.back WeakT WeakO pack List.filterMap_cons_some List.filterMap_cons_none List.filterMap_nil List.map_map List.mem_singleton
theorem ret_intro {X : Env} {rs : List ResultVar} {y : AV} {o' : List (Nat × List AV)} {st : St} (xs : List AV) (ρ : Rn) (h1 : resVs X.C st rs = some xs) (h2 : ρ.OK) (h3 : ∀ s ∈ X.ext, lk s ρ.m = some s) (h4 : WeakV ((pack xs).ren ρ) y) (h5 : WeakO (renSt ρ st) o') : (∃ xs ρ, resVs X.C st rs = some xs ∧ ρ.OK ∧ (∀ s ∈ X.ext, lk s ρ.m = some s) ∧ WeakV ((pack xs).ren ρ) y ∧ WeakO (renSt ρ st) o') :=
  ⟨xs, ρ, h1, h2, h3, h4, h5⟩
attribute [go_sem ↓] reduceIte
theorem St.eta_app (K : St → Prop) (st : St) : K ⟨st.tmps, st.objs⟩ = K st := rfl
def frzT (S : List Nat) : List (Nat × AV) → List (Nat × AV)
  | [] => []
  | (k, x) :: l => (k, x.freeze S) :: frzT S l
end Go.Abs
namespace Go.Abs
def HasL (v : Way) (st : St) : List (Nat × List AV) → Prop
  | [] => True
  | (s, cs) :: l => lk s (renO v.ρ st.objs) = some cs ∧ HasL v st l
theorem HasL.has {v : Way} {st : St} : ∀ {ob : List (Nat × List AV)}, HasL v st ob → Has v st ob
  | (s, c) :: l, h, s', cs, hs => by
    simp only [lk] at hs
    split at hs
    · rename_i he; injection hs with hs; subst hs; subst he; exact h.1
    · exact HasL.has h.2 s' cs hs
def wayOK (v : Way) (ob : List (Nat × List AV)) : Bool :=
  okRen v.ρ.l && okRen v.ρ.m && okRen v.back.l && okRen v.back.m && (rngs v.ρ.m).all (fun s => (names ob).contains s) && (rngs v.fm).all (fun s => s % 32 != 31)
theorem wayOK.ok {v : Way} {ob : List (Nat × List AV)} (h : wayOK v ob = true) : v.OK ob ∧ (rngs v.fm).all (fun s => s % 32 != 31) = true := by
  simp only [wayOK, Bool.and_eq_true] at h
  obtain ⟨⟨⟨⟨⟨h1, h2⟩, h3⟩, h4⟩, h5⟩, h6⟩ := h
  refine ⟨⟨⟨h1, h2⟩, ⟨h3, h4⟩, fun s hs => ?_⟩, h6⟩
  have := List.all_eq_true.1 h5 s hs
  simpa using this
section
variable {X : Env} {d : Option Nat} {fid : Nat} {xs xs' : List AV} {K : St → Prop} {st : St} {y y' : AV} {ob ob' : List (Nat × List AV)}
theorem FnOK.weak {C : Ctx} {f : Nat} {xs ys : List AV} {o o' : List (Nat × List AV)} {y : AV} (h : FnOK C f ys o y o') (hw : WeakL xs ys) : FnOK C f xs o y o' :=
  ⟨h.1, fun g w us hg hv ho => h.2 g w us hg (hw g w us hv) ho⟩
theorem FnOK.ren {C : Ctx} {f : Nat} {xs : List AV} {o o' : List (Nat × List AV)} {y : AV} (h : FnOK C f xs o y o') (ρ : Rn) (hρ : ρ.OK) (hext : ∀ s, s ∈ names o → lk s ρ.m = some s) : FnOK C f xs o (y.ren ρ) (renO ρ o') :=
  ⟨h.1, fun g w us hg hv ho => Calls.mono (h.2 g w us hg hv ho) fun e w' ⟨u, g', he, hfr, hy, ho'⟩ => ⟨u, g'.ren ρ g', he, hfr.ren hρ hext, VR.ren hρ _ _ hy, fun s cs hs => by
    obtain ⟨s0, cs0, h1, h2, rfl⟩ := lk_renO hρ hs
    exact ObjAt.ren hρ h1 (ho' s0 cs0 h2)⟩⟩
def HasW (v : Way) (st : St) : List (Nat × List AV) → Prop
  | [] => True
  | (s, cs) :: l => (∃ x, lk s (renO v.ρ st.objs) = some x ∧ WeakArgs x cs) ∧ HasW v st l
def WeakOs : List (Nat × List AV) → List (Nat × List AV) → Prop
  | [], [] => True
  | (s, x) :: l, (s', y) :: l' => s = s' ∧ WeakL x y ∧ WeakOs l l'
  | _, _ => False
theorem HasW.split {v : Way} {st : St} : ∀ {ob : List (Nat × List AV)}, HasW v st ob → ∃ o2, names o2 = names ob ∧ HasL v st o2 ∧ WeakOs o2 ob
  | [], _ => ⟨[], rfl, trivial, trivial⟩
  | (s, cs) :: l, ⟨⟨x, h1, h2⟩, h3⟩ => by
    obtain ⟨o2, a, b, c⟩ := HasW.split h3
    exact ⟨(s, x) :: o2, by simp only [names, List.map_cons] at a ⊢; rw [a], ⟨h1, b⟩, rfl, h2.weakL, c⟩
theorem WeakOs.get : ∀ {o2 ob : List (Nat × List AV)}, WeakOs o2 ob → ∀ s cs, lk s ob = some cs → ∃ x, lk s o2 = some x ∧ WeakL x cs
  | [], [], _, s, cs, h => by cases h
  | (k, x) :: o2, (k', y) :: ob, ⟨e, hw, hr⟩, s, cs, h => by
    subst e
    simp only [lk] at h ⊢
    split at h
    · rename_i he
      injection h with h; subst h
      exact ⟨x, by simp [he], hw⟩
    · rename_i he
      obtain ⟨x', h1, h2⟩ := WeakOs.get hr s cs h
      exact ⟨x', by simp [he, h1], h2⟩
  | [], _ :: _, h, _, _, _ => h.elim
  | _ :: _, [], h, _, _, _ => h.elim
theorem FnOK.weakO {C : Ctx} {f : Nat} {xs : List AV} {o o2 o' : List (Nat × List AV)} {y : AV} (h : FnOK C f xs o y o') (hn : names o2 = names o) (hw : WeakOs o2 o) : FnOK C f xs o2 y o' :=
  ⟨h.1, fun g w us hg hv ho => by
    have := h.2 g w us hg hv fun s cs hs => by
      obtain ⟨x, h1, h2⟩ := hw.get s cs hs
      exact (ho s x h1).lift rfl (ho s x h1).1 rfl (fun us hu => h2 g w _ hu)
    rw [hn]; exact this⟩
theorem freeze_nil (x : AV) : x.freeze [] = x := mapH_id (by simp [AV.freezeH]) (by simp [AV.freezeH]) (by simp [AV.freezeH]) (by simp [AV.freezeH]) x
theorem freezeL_nil (xs : List AV) : freezeL [] xs = xs := mapHL_id (by simp [AV.freezeH]) (by simp [AV.freezeH]) (by simp [AV.freezeH]) (by simp [AV.freezeH]) xs
theorem St.freeze_nil (st : St) : st.freeze [] = st := by
  have h1 : ∀ x : AV, x.mapH (AV.freezeH []) = x := Abs.freeze_nil
  have h2 : ∀ xs : List AV, mapHL (AV.freezeH []) xs = xs := Abs.freezeL_nil
  simp [St.freeze, St.mapH, h1, h2]
theorem callB_mk (v : Way) (hok : FnOK X.C fid xs' ob y ob') (hx : WeakArgs (renL v.ρ xs) xs') (hv : wayOK v ob = true) (hh : HasW v st ob) (hfl : v.ρ.bs = [] ∨ (Flat (y.ren v.back) ∧ FlatO (renO v.back ob')))
    (hk : K ((st.app (rngs v.back.l) (rngs v.fm) (rngs v.back.m) (renO v.back ob')).put d (y.ren v.back))) : callB X d fid xs K st := by
  obtain ⟨o2, a, b, c⟩ := hh.split
  have hv' : wayOK v o2 = true := by unfold wayOK at hv ⊢; rw [a]; exact hv
  refine .inl ⟨[], v, o2, (fun y2 o3 => y2 = y ∧ o3 = ob'), (wayOK.ok hv').1, (wayOK.ok hv').2, ?_, ?_, fun y2 o3 hS => ?_⟩
  · rw [freezeL_nil]; exact ((hok.weak hx.weakL).weakO a c).toP
  · rw [St.freeze_nil]; exact b.has
  · obtain ⟨h1, h2⟩ := hS
    subst h1; subst h2
    rw [St.freeze_nil]; exact ⟨hfl, hk⟩
theorem callB_fz (fz : List Nat) (v : Way) (hok : FnOK X.C fid xs' ob y ob') (hx : WeakArgs (renL v.ρ (freezeL fz xs)) xs') (hv : wayOK v ob = true) (hh : HasW v (st.freeze fz) ob) (hfl : v.ρ.bs = [] ∨ (Flat (y.ren v.back) ∧ FlatO (renO v.back ob')))
    (hk : K (((st.freeze fz).app (rngs v.back.l) (rngs v.fm) (rngs v.back.m) (renO v.back ob')).put d (y.ren v.back))) : callB X d fid xs K st := by
  obtain ⟨o2, a, b, c⟩ := hh.split
  have hv' : wayOK v o2 = true := by unfold wayOK at hv ⊢; rw [a]; exact hv
  refine .inl ⟨fz, v, o2, (fun y2 o3 => y2 = y ∧ o3 = ob'), (wayOK.ok hv').1, (wayOK.ok hv').2, ((hok.weak hx.weakL).weakO a c).toP, b.has, fun y2 o3 hS => ?_⟩
  obtain ⟨h1, h2⟩ := hS
  subst h1; subst h2
  exact ⟨hfl, hk⟩
theorem FnP.weak {C : Ctx} {f : Nat} {xs ys : List AV} {o : List (Nat × List AV)} {S : AV → List (Nat × List AV) → Prop} (h : FnP C f ys o S) (hw : WeakL xs ys) : FnP C f xs o S :=
  ⟨h.1, fun g w us hg hv ho => h.2 g w us hg (hw g w us hv) ho⟩
theorem FnP.weakO {C : Ctx} {f : Nat} {xs : List AV} {o o2 : List (Nat × List AV)} {S : AV → List (Nat × List AV) → Prop} (h : FnP C f xs o S) (hn : names o2 = names o) (hw : WeakOs o2 o) : FnP C f xs o2 S :=
  ⟨h.1, fun g w us hg hv ho => by
    have := h.2 g w us hg hv fun s cs hs => by
      obtain ⟨x, h1, h2⟩ := hw.get s cs hs
      exact (ho s x h1).lift rfl (ho s x h1).1 rfl (fun us hu => h2 g w _ hu)
    rw [hn]; exact this⟩
theorem callP_mk (v : Way) {S : AV → List (Nat × List AV) → Prop} (hok : FnP X.C fid xs' ob S) (hx : WeakArgs (renL v.ρ xs) xs') (hv : wayOK v ob = true) (hh : HasW v st ob) (hbs : v.ρ.bs = [])
    (hk : ∀ y ob', S y ob' → K ((st.app (rngs v.back.l) (rngs v.fm) (rngs v.back.m) (renO v.back ob')).put d (y.ren v.back))) : callB X d fid xs K st := by
  obtain ⟨o2, a, b, c⟩ := hh.split
  have hv' : wayOK v o2 = true := by unfold wayOK at hv ⊢; rw [a]; exact hv
  refine .inl ⟨[], v, o2, S, (wayOK.ok hv').1, (wayOK.ok hv').2, ?_, ?_, fun y2 o3 hS => ?_⟩
  · rw [freezeL_nil]; exact (hok.weak hx.weakL).weakO a c
  · rw [St.freeze_nil]; exact b.has
  · rw [St.freeze_nil]; exact ⟨.inl hbs, hk _ _ hS⟩
theorem callR_mk {r n : Nat} {es es' : List (List AV)} {ys : List AV} (hok : FnRow X.C fid n es ys es') (hx : xs = .sl (.own r 0) n es :: ys) (hk : K ((st.setRun r n 0 es').put d (.tup []))) : callB X d fid xs K st :=
  .inr (.inl ⟨r, n, es, ys, es', hx, hok, hk⟩)
theorem dropO_nil : ∀ l : List (Nat × List AV), dropO [] l = l
  | [] => rfl
  | (k, x) :: l => by simp [dropO, dropO_nil l]
theorem app_nil : st.app [] [] [] [] = st := by simp [St.app, dropO_nil, killT_nil, killO_nil]
def retI (X : Env) (rs : List ResultVar) (K : AV → List (Nat × List AV) → Prop) : Ex → St → Prop
  | .exit _ => fun _ => False
  | _ => fun st => ∃ xs, resVs X.C st rs = some xs ∧ K (pack xs) st.objs
theorem callI_mk {fn : Func} {c : Code} (hX : ∀ s ∈ X.ext, s % 32 = 31) (hf : X.C.P.funcs[fid]? = some fn) (hname : (fn.name == "runtime.NumGoroutine") = false) (hb : fn.body = some c) (hok : codeOK fn.ntmps c = true) (hargs : xs.length ≤ fn.ntmps)
    (h : wpA ⟨X.C, X.ext⟩ c (retI X fn.results.toList fun y os => K (St.put d y ⟨stabT X.ext st.tmps, os⟩)) ⟨argT 0 xs, st.objs⟩) : callB X d fid xs K st := by
  refine .inr (.inr ⟨⟨fn, c, hf, hname, hb⟩, fun A g w us hA hfr hv ho => calls_of_wp hf hb ?_⟩)
  have hl := VRs.length hv
  have hR : R X.C ⟨A.w, A.g, A.ext, []⟩ fn.ntmps g ⟨argT 0 xs, st.objs⟩ { tmps := us.toArray ++ Array.replicate (fn.ntmps - us.toArray.size) undef, defers := [] } w := by
    refine ⟨by simp; omega, rfl, fun k x hx => ?_, ho, hfr.anyD⟩
    obtain ⟨_, h2⟩ := lk_argT hx
    obtain ⟨u, hu, hv'⟩ := hv.get k x (by simpa using h2)
    refine ⟨u, ?_, hv'⟩
    have hk : k < us.length := by
      rcases Nat.lt_or_ge k us.length with h | h
      · exact h
      · rw [List.getElem?_eq_none h] at hu; cases hu
    rw [Array.getElem?_append_left (by simpa using hk)]
    simpa using hu
  have key : ∀ (g' : Gh) (st' : St) (a' : Act) (w' : World), R X.C ⟨A.w, A.g, A.ext, []⟩ fn.ntmps g' st' a' w' → (∃ ys, resVs X.C st' fn.results.toList = some ys ∧ K (St.put d (pack ys) ⟨stabT X.ext st.tmps, st'.objs⟩)) →
      a'.defers = [] ∧ ∃ v, (results fn a'.tmps).run X.C.P w' = .ok v w' ∧ (∃ u g' y os, Ending.returned v = .returned u ∧ Fr X.C A g' w' ∧ VR g' w' y u ∧ (∀ s cs, lk s os = some cs → ObjAt g' w' s cs) ∧ K (St.put d y ⟨stabT X.ext st.tmps, os⟩)) := by
    intro g' st' a' w' hr ⟨ys, h1, h2⟩
    obtain ⟨u, k1, k2⟩ := results_sound hr h1
    exact ⟨hr.defs, u, k1, u, g', _, _, rfl, hr.fr.anyD, k2, hr.ob, h2⟩
  refine wp_mono (wpA_sound (X := ⟨X.C, X.ext⟩) (A := ⟨A.w, A.g, A.ext, []⟩) hA hX c _ g _ _ w hok h hR) fun e a' w' hq => ?_
  cases e with
  | normal => obtain ⟨g', st', hr, hk⟩ := hq; exact key g' st' a' w' hr hk
  | ret => obtain ⟨g', st', hr, hk⟩ := hq; exact key g' st' a' w' hr hk
  | exit id => obtain ⟨g', st', hr, hk⟩ := hq; exact hk.elim
  | goto l => exact hq.elim
  | panic ch => exact hq.elim
  | outgrown => exact hq.elim
theorem call_pure (hok : FnOK X.C fid xs' [] y []) (hx : WeakArgs (renL ⟨[], [], []⟩ xs) xs') (hy : y.ren ⟨[], [], []⟩ = y') (hk : K (st.put d y')) : callB X d fid xs K st := by
  refine callB_mk ⟨⟨[], [], []⟩, [], []⟩ hok hx rfl trivial (.inl rfl) ?_
  show K ((st.app [] [] [] []).put d (y.ren ⟨[], [], []⟩))
  rw [app_nil, hy]
  exact hk
theorem call_frz (fz : List Nat) (hok : FnOK X.C fid xs' [] y []) (hx : WeakArgs (renL ⟨[], [], []⟩ (freezeL fz xs)) xs') (hy : y.ren ⟨[], [], []⟩ = y') (hk : K ((st.freeze fz).put d y')) : callB X d fid xs K st := by
  refine callB_fz fz ⟨⟨[], [], []⟩, [], []⟩ hok hx rfl trivial (.inl rfl) ?_
  show K (((st.freeze fz).app [] [] [] []).put d (y.ren ⟨[], [], []⟩))
  rw [app_nil, hy]
  exact hk
theorem call_lent (bs : List Nat) (hok : FnOK X.C fid xs' [] y []) (hx : WeakArgs (renL ⟨[], [], bs⟩ xs) xs') (hy : y.ren ⟨[], [], []⟩ = y') (hf : Flat y') (hk : K (st.put d y')) : callB X d fid xs K st := by
  refine callB_mk ⟨⟨[], [], bs⟩, [], []⟩ hok hx rfl trivial (.inr ?_) ?_
  · show Flat (y.ren ⟨[], [], []⟩) ∧ True
    rw [hy]; exact ⟨hf, trivial⟩
  · show K ((st.app [] [] [] []).put d (y.ren ⟨[], [], []⟩))
    rw [app_nil, hy]
    exact hk
theorem loop_intro {body : (Ex → St → Prop) → St → Prop} {Q : Ex → St → Prop} {α : Type} (I : α → St) (Inv : α → Prop) (μ : α → Nat) (x0 : α) (h0 : Inv x0) (hi : Imp X st (I x0))
    (hr : ∀ x, Inv x → ∀ J : St → Prop, (∀ st' x', Inv x' → μ x' < μ x → Imp X st' (I x') → J st') → body (thenA J Q) (I x)) : loopA X body Q st :=
  ⟨α, I, Inv, μ, x0, h0, hi, fun x hx => hr x hx _ fun _ x' h1 h2 h3 => ⟨x', h1, h2, h3⟩⟩
end
@[go_sem] theorem exists_some {α : Type} (a : α) (p : α → Prop) : (∃ x, some a = some x ∧ p x) = p a := by simp
@[go_sem] theorem weakV_self (x : AV) : WeakV x x = True := eq_true .rfl
@[go_sem] theorem weakL_self (x : List AV) : WeakL x x = True := eq_true .rfl
@[go_sem] theorem weakV_undef (x : AV) : WeakV x .undef = True := eq_true .undef
@[go_sem] theorem weakV_nilOwn (r lo n : Nat) : WeakV (.v (.slice none 0 0)) (.sl (.own r lo) (n + 1) []) = True := eq_true (.nilOwn (by omega))
@[go_sem] theorem weakV_nilNo (n : Nat) : WeakV (.v (.slice none 0 0)) (.sl .no (n + 1) []) = True := eq_true (.nilNo (by omega))
@[go_sem] theorem weakV_full (n : Nat) (es : List (List AV)) : WeakV (.sl .full n es) (.sl .no n es) = True := eq_true .full
theorem WeakV.int {k : IntKind} {a b : Int} (h : a = b) : WeakV (.v (.int k a)) (.v (.int k b)) := .eq (by rw [h])
theorem WeakV.sl {t : Tag} {n : Nat} {a b : List (List AV)} (h : a = b) : WeakV (.sl t n a) (.sl t n b) := .eq (by rw [h])
theorem ret_mk {X : Env} {rs : List ResultVar} {y : AV} {o' : List (Nat × List AV)} {st : St} (ρ : Rn) (xs : List AV) (h1 : resVs X.C st rs = some xs) (h2 : ρ.OK) (h3 : ∀ s ∈ X.ext, lk s ρ.m = some s) (h4 : WeakV ((pack xs).ren ρ) y) (h5 : WeakO (renSt ρ st) o') : retA X rs y o' .ret st :=
  ⟨xs, ρ, h1, h2, h3, h4, h5⟩
theorem retP_mk {X : Env} {rs : List ResultVar} {S : AV → List (Nat × List AV) → Prop} {st : St} (y : AV) (o' : List (Nat × List AV)) (ρ : Rn) (xs : List AV) (hS : S y o') (h1 : resVs X.C st rs = some xs) (h2 : ρ.OK) (h3 : ∀ s ∈ X.ext, lk s ρ.m = some s) (h4 : WeakV ((pack xs).ren ρ) y) (h5 : WeakO (renSt ρ st) o') : retP X rs S .ret st :=
  ⟨xs, ρ, y, o', hS, h1, h2, h3, h4, h5⟩
@[go_sem high] theorem weakArgs_self (xs : List AV) : WeakArgs xs xs = True := eq_true (.self xs)
@[go_sem] theorem weakArgs_cons (x y : AV) (xs ys : List AV) : WeakArgs (x :: xs) (y :: ys) = (WeakV x y ∧ WeakArgs xs ys) := rfl
attribute [go_sem] stabT stabV HasW St.app dropO dropO_nil killT_nil killO_nil
end Go.Abs
