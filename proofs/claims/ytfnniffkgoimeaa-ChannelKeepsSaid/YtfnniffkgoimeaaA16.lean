/- An operation as a step of knowledge; calls. -/
import Derived.Test.YtfnniffkgoimeaaA15
set_option linter.all false
namespace Go.Abs

def OpG (C : Ctx) (o : Oper) (r : St) (x : AV) (S T U : List Nat) (upd : List (Nat × List AV)) : Prop :=
  ∀ A N g a w, R C A N g r a w → ∀ K Q, (∀ u g' w', Grow S T U g w g' w' → VR g' w' x u → (∀ s cs, lk s upd = some cs → ObjAt g' w' s cs) → K (a.put o.dst u) w') → o.wp C.P a w K Q

def St.app (S T U : List Nat) (upd : List (Nat × List AV)) (st : St) : St := ⟨killT S T st.tmps, upd ++ killO S T (dropO U st.objs)⟩

section
variable {C : Ctx} {A : A0} {N : Nat} {g g' : Gh} {st : St} {a : Act} {w w' : World}

theorem R.glob (h : R C A N g st a w) : Glob C g w := fun i cs hi => h.fr.glob i cs hi

theorem R.app (h : R C A N g st a w) {S T U : List Nat} {upd : List (Nat × List AV)} (hg : Grow S T U g w g' w') (hext : ∀ s, s ∈ A.ext → s ∉ T) (hu : ∀ s cs, lk s upd = some cs → ObjAt g' w' s cs) :
    R C A N g' (st.app S T U upd) a w' := by
  have h1 := h.grow hg hext
  refine ⟨h1.size, h1.defs, h1.tm, fun s cs hs => ?_, h1.fr⟩
  simp only [St.app, lk_append] at hs
  cases hl : lk s upd with
  | none => rw [hl] at hs; exact h1.ob s cs (by simpa [St.kill] using hs)
  | some c => rw [hl] at hs; simp at hs; subst hs; exact hu s c hl

theorem OpG.wp {o : Oper} {x : AV} {S T U : List Nat} {upd : List (Nat × List AV)} (ho : OpG C o st x S T U upd) (h : R C A N g st a w) (hext : ∀ s, s ∈ A.ext → s ∉ T) (hd : ∀ k, o.dst = some k → k < N)
    {K : Act → World → Prop} {Q : Exit → Act → World → Prop} (hk : ∀ g' a' w', R C A N g' ((st.app S T U upd).put o.dst x) a' w' → K a' w') : o.wp C.P a w K Q :=
  ho A N g a w h K Q fun u g' w' hg hx hu => hk g' _ w' ((h.app hg hext hu).put hd hx)

theorem Steps.wp {o : Oper} {x : AV} {st' : St} (hs : Steps C A N o a w x st') (hd : ∀ k, o.dst = some k → k < N)
    {K : Act → World → Prop} {Q : Exit → Act → World → Prop} (hk : ∀ g' a' w', R C A N g' (st'.put o.dst x) a' w' → K a' w') : o.wp C.P a w K Q := by
  obtain ⟨u, w', g', h1, h2, h3⟩ := hs
  exact h1.wp (hk g' _ w' (h2.put hd h3))

theorem run_enter {P : Program} {f : FuncId} {fn : Func} {c : Code} (hf : P.funcs[f]? = some fn) (hname : (fn.name == "runtime.NumGoroutine") = false) (hb : fn.body = some c) (args : Array Value) (w : World) : (callFunc f args).run P w = .ok (.enter f args) w := by
  have h1 : ¬ fn.name = "runtime.NumGoroutine" := by simpa using hname
  simp [callFunc, hf, h1, hb]

theorem exec_call (ρ : Act) {P : Program} {o : Oper} {c : Call} {f : Operand} {fid : FuncId} {us : Array Value} (ho : o.op = .call c) (hc : c.callee = .value f) (hf : ρ.eval f = .func (.func fid) #[] us) (w : World) :
    (execOp ρ.eval o).run P w = (callFunc fid (c.args.map ρ.eval ++ us)).run P w := by
  unfold execOp
  rw [ho]
  simp [resolve, hc, hf, Deferred.ofValue, invoke]

/-- boxes that the caller has for the callee -/
def Has (v : Way) (st : St) (ob : List (Nat × List AV)) : Prop := ∀ s' cs, lk s' ob = some cs → lk s' (renO v.ρ st.objs) = some cs

def FlatO : List (Nat × List AV) → Prop
  | [] => True
  | p :: l => FlatL p.2 ∧ FlatO l
theorem FlatO.lk : ∀ {l : List (Nat × List AV)} {s : Nat} {cs : List AV}, FlatO l → lk s l = some cs → FlatL cs
  | (j, c) :: l, s, cs, hf, h => by
    simp only [Abs.lk] at h
    split at h
    · injection h with h; subst h; exact hf.1
    · exact FlatO.lk hf.2 h

theorem callG {o : Oper} {c : Call} {f : Operand} {fid : Nat} {caps : List AV} (ho : o.op = .call c) (hc : c.callee = .value f) (hf : ev C st f = .fn fid caps) {v : Way} {ob ob' : List (Nat × List AV)} {y : AV} (hv : v.OK ob)
    (hok : FnOK C fid (renL v.ρ (c.args.toList.map (ev C st) ++ caps)) ob y ob') (hob : Has v st ob) (hfl : v.ρ.bs = [] ∨ (Flat (y.ren v.back) ∧ FlatO (renO v.back ob'))) :
    OpG C o st (y.ren v.back) (rngs v.back.l) (rngs v.fm) (rngs v.back.m) (renO v.back ob') := by
  intro A N g a w hR K Q hk
  obtain ⟨⟨fn, cd, hfn, hname, hb⟩, hcall⟩ := hok
  have hfv := hR.ev f
  rw [hf] at hfv
  simp only [VR] at hfv
  obtain ⟨us, hus, hvs⟩ := hfv
  unfold Oper.wp
  rw [exec_call a ho hc hus w, run_enter hfn hname hb, Oper.upon_enter]
  have hargs : VRs g w (c.args.toList.map (ev C st) ++ caps) ((c.args.toList.map a.eval) ++ us.toList) := VRs.append (VRs_map_ev hR _) hvs
  have hargs' := VRs.ren (ρ := v.ρ) (base := g) hv.into _ _ hargs
  have hgl : Glob C (entry v g) w := fun i cs hi => by
    obtain ⟨h1, h2, h3⟩ := hR.glob i cs hi
    exact ⟨h1, ren_ro h2, PRc.mono roRen _ ⟨i, 0, none⟩ 0 h2 h3⟩
  have hc1 := hcall (entry v g) w _ hgl hargs' fun s' cs hs => by
    obtain ⟨s, cs0, h1, h2, rfl⟩ := lk_renO hv.into (hob s' cs hs)
    exact ObjAt.ren hv.into h1 (hR.ob s cs0 h2)
  have e : c.args.map a.eval ++ us = ((c.args.toList.map a.eval) ++ us.toList).toArray := by
    rw [← Array.toList_inj]; simp
  rw [e]
  refine Calls.mono hc1 fun e w' he => ?_
  obtain ⟨u, g1, rfl, hfr, hy, hob'⟩ := he
  refine hk u (after v g w g1) w' (after_grow hv hfr) (after_VR hv hfr hy (hfl.imp id And.left)) fun s cs hs => ?_
  obtain ⟨s', cs0, h1, h2, rfl⟩ := lk_renO hv.back hs
  obtain ⟨k1, cur, T, k2, k3⟩ := hob' s' cs0 h2
  have hren : ObjAt (g1.ren v.back g) w' s (renL v.back cs0) := ObjAt.ren hv.back h1 ⟨k1, cur, T, k2, k3⟩
  obtain ⟨m1, cur', T', m2, m3⟩ := hren
  have hbx : g1.box s' = (g1.ren v.back g).box s := (renBox hv.back h1).symm
  rw [hbx] at k2
  refine ⟨after_box hfr m1, cur, T, k2, after_VRs hv hfr k3 (hfl.imp id fun h => FlatO.lk h.2 hs)⟩
end
end Go.Abs
