/- part 10 of the proof -/
import Derived.Test.YtobcllcndnbmlaaGreatDoorM05
import Derived.Test.YtobcllcndnbmlaaGreatDoorM09
set_option linter.all false
namespace Go.H
open Go.Abs (lk Does szOf Ex codeOK opOK Ctx FnOK AV)
mutual
def ofAV : AV → Option HV
  | .v x => some (.v x)
  | .agg cs => (ofAVs cs).map .agg
  | .tup cs => (ofAVs cs).map .tup
  | _ => none
def ofAVs : List AV → Option (List HV)
  | [] => some []
  | c :: cs => match ofAV c, ofAVs cs with
    | some x, some xs => some (x :: xs)
    | _, _ => none
end
section
variable {g : Gh} {ga : Abs.Gh} {w : World}
mutual
theorem ofAV_in : ∀ (x : AV) (y : HV) (u : Value), ofAV x = some y → Abs.VR ga w x u → VR g y u
  | .v x, y, u, h, hv => by simp only [ofAV, Option.some.injEq] at h; subst h; simp only [Abs.VR] at hv; simpa only [VR] using hv
  | .agg cs, y, u, h, hv => by
    simp only [ofAV, Option.map_eq_some_iff] at h
    obtain ⟨ys, h1, rfl⟩ := h
    simp only [Abs.VR] at hv
    obtain ⟨us, h2, h3⟩ := hv
    simp only [VR]
    exact ⟨us, h2, ofAVs_in cs ys _ h1 h3⟩
  | .tup cs, y, u, h, hv => by
    simp only [ofAV, Option.map_eq_some_iff] at h
    obtain ⟨ys, h1, rfl⟩ := h
    simp only [Abs.VR] at hv
    obtain ⟨us, h2, h3⟩ := hv
    simp only [VR]
    exact ⟨us, h2, ofAVs_in cs ys _ h1 h3⟩
  | .undef, _, _, h, _ | .sl _ _ _, _, _, h, _ | .ptr _ _, _, _, h, _ | .ep _ _ _ _, _, _, h, _ | .fn _ _, _, _, h, _ | .mv _ _, _, _, h, _ | .ifc _ _, _, _, h, _ | .mem _ _, _, _, h, _ | .mp _, _, _, h, _ => by simp [ofAV] at h
theorem ofAVs_in : ∀ (xs : List AV) (ys : List HV) (us : List Value), ofAVs xs = some ys → Abs.VRs ga w xs us → VRs g ys us
  | [], ys, us, h, hv => by
    simp only [ofAVs, Option.some.injEq] at h; subst h
    cases us with
    | nil => simp [VRs]
    | cons _ _ => simp [Abs.VRs] at hv
  | x :: xs, ys, us, h, hv => by
    simp only [ofAVs] at h
    split at h
    · rename_i y zs h1 h2
      cases h
      cases us with
      | nil => simp [Abs.VRs] at hv
      | cons u us =>
        simp only [Abs.VRs] at hv
        simp only [VRs]
        exact ⟨ofAV_in x y u h1 hv.1, ofAVs_in xs zs us h2 hv.2⟩
    · cases h
end
mutual
theorem ofAV_out : ∀ (x : AV) (y : HV) (u : Value), ofAV x = some y → VR g y u → Abs.VR ga w x u
  | .v x, y, u, h, hv => by simp only [ofAV, Option.some.injEq] at h; subst h; simp only [VR] at hv; simpa only [Abs.VR] using hv
  | .agg cs, y, u, h, hv => by
    simp only [ofAV, Option.map_eq_some_iff] at h
    obtain ⟨ys, h1, rfl⟩ := h
    simp only [VR] at hv
    obtain ⟨us, h2, h3⟩ := hv
    simp only [Abs.VR]
    exact ⟨us, h2, ofAVs_out cs ys _ h1 h3⟩
  | .tup cs, y, u, h, hv => by
    simp only [ofAV, Option.map_eq_some_iff] at h
    obtain ⟨ys, h1, rfl⟩ := h
    simp only [VR] at hv
    obtain ⟨us, h2, h3⟩ := hv
    simp only [Abs.VR]
    exact ⟨us, h2, ofAVs_out cs ys _ h1 h3⟩
  | .undef, _, _, h, _ | .sl _ _ _, _, _, h, _ | .ptr _ _, _, _, h, _ | .ep _ _ _ _, _, _, h, _ | .fn _ _, _, _, h, _ | .mv _ _, _, _, h, _ | .ifc _ _, _, _, h, _ | .mem _ _, _, _, h, _ | .mp _, _, _, h, _ => by simp [ofAV] at h
theorem ofAVs_out : ∀ (xs : List AV) (ys : List HV) (us : List Value), ofAVs xs = some ys → VRs g ys us → Abs.VRs ga w xs us
  | [], ys, us, h, hv => by
    simp only [ofAVs, Option.some.injEq] at h; subst h
    cases us with
    | nil => simp [Abs.VRs]
    | cons _ _ => simp [VRs] at hv
  | x :: xs, ys, us, h, hv => by
    simp only [ofAVs] at h
    split at h
    · rename_i y zs h1 h2
      cases h
      cases us with
      | nil => simp [VRs] at hv
      | cons u us =>
        simp only [VRs] at hv
        simp only [Abs.VRs]
        exact ⟨ofAV_out x y u h1 hv.1, ofAVs_out xs zs us h2 hv.2⟩
    · cases h
end
def SameG (A : Nat → Option (List AV)) (G : Nat → Option (List Value)) : Prop := ∀ i vs, G i = some vs → ∃ cs, A i = some cs ∧ cs = vs.map .v
theorem prc_get {ro : Nat → Prop} {ad : Addr} : ∀ {vs : List Value} {j : Nat}, Abs.PRc ro w (vs.map .v) ad j → ∀ (i : Nat) (v : Value), vs[i]? = some v → w.cell? (ad.add (j + i)) = some v
  | [], _, _, i, v, h => by simp at h
  | x :: vs, j, hp, i, v, h => by
    simp only [List.map_cons, Abs.PRc] at hp
    obtain ⟨⟨u, h1, h2⟩, hp⟩ := hp
    cases i with
    | zero =>
      simp at h; subst h
      simp only [Abs.PR] at h2
      rw [Nat.add_zero, h1, h2.1]
    | succ i =>
      have := prc_get hp i v (by simpa using h)
      rw [show j + (i + 1) = j + 1 + i from by omega]
      exact this
theorem HRun.toFnOK {A : Ctx} {C : HC} (hP : C.P = A.P) (hG : SameG A.G C.G) {f : Nat} {xs : List AV} {hs : List HV} {n m : Nat} {y : AV} {z : HV} {o' : List (Nat × HO)} {n' : Nat}
    (hx : ofAVs xs = some hs) (hy : ofAV y = some z) (h : HRun C f hs [] n m z o' n') : FnOK A f xs [] y [] := by
  obtain ⟨⟨fn, c, h1, h2, h3⟩, hc⟩ := h
  refine ⟨⟨fn, c, by rw [← hP]; exact h1, h2, h3⟩, fun g w us hg hv _ => ?_⟩
  have hM : Mem C ⟨w, fun b => b < w.heap.size, [], fun _ => False⟩ (fun _ => none) [] n m w := by
    refine ⟨rfl, rfl, fun k x hk => by simp [lk] at hk, fun s p hs => by simp [lk] at hs, ⟨fun _ _ _ => rfl, fun _ h => h.elim⟩, fun s t o p G G' hs => by simp [lk] at hs, fun s G hs => by simp at hs, fun s o G hs => by simp [lk] at hs, rfl, ⟨rfl, Nat.le_refl _⟩, rfl, Nat.le_refl _, fun b hb => ⟨hb, rfl⟩, fun i vs hi => ?_⟩
    obtain ⟨cs, k1, rfl⟩ := hG i vs hi
    obtain ⟨k2, k3, k4⟩ := hg i _ k1
    have k5 := prc_get k4
    have h0 : 0 < vs.length := by simpa using k2
    have hc0 := k5 0 vs[0] (by simp [h0])
    simp only [add0, Nat.add_zero] at hc0
    simp only [World.cell?] at hc0
    cases hb : w.heap[i]? with
    | none => simp [hb] at hc0
    | some o =>
      cases o with
      | cells cur T fz =>
        refine ⟨?_, cur, T, fz, rfl, fun j v hj => ?_⟩
        · exact (Array.getElem?_eq_some_iff.1 hb).1
        · have := k5 j v hj
          rw [add0, cellAt hb] at this
          simpa using this
      | _ => simp [hb] at hc0
  have := hc _ _ w us rfl hM (ofAVs_in xs hs us hx hv)
  rw [hP] at this
  refine Calls.mono this fun e w' hq => ?_
  obtain ⟨u, g', he, _, hM', hr⟩ := hq
  obtain ⟨_, _, _, _, _, _, _, _, h6⟩ := hM'
  have hkeep : ∀ b, b < w.heap.size → w'.heap[b]? = w.heap[b]? := fun b hb => (h6.keep b hb).2
  refine ⟨u, g, he, ⟨h6.os, h6.tape, h6.output, h6.size, fun b hb _ => ⟨hkeep b hb, rfl⟩, fun _ _ => rfl, fun i cs hi => ?_⟩, ofAV_out y z u hy hr, fun s cs hs => by simp [lk] at hs⟩
  obtain ⟨k2, k3, k4⟩ := hg i cs hi
  exact ⟨k2, k3, Abs.PRc.mono (fun b hb hr => ⟨hr, hkeep b hb⟩) _ _ _ k3 k4⟩
end
inductive Tr (α : Type) where
  | leaf
  | node (l : Tr α) (k : Nat) (v : α) (r : Tr α)
def Tr.get {α : Type} : Tr α → Nat → Option α
  | .leaf, _ => none
  | .node l k v r, i => match Nat.blt i k with
    | true => l.get i
    | false => match Nat.beq i k with
      | true => some v
      | false => r.get i
structure TE (P : Program) where
  t : Nat
  i : TI
  ok : i.okB P t = true
def FI.okB (i : FI) : Bool := match i.dfr with
  | none => codeOK i.fn.ntmps i.body
  | some d => codeOK i.fn.ntmps d.rest
structure FE (P : Program) where
  f : Nat
  fn : Func
  ok : P.funcs[f]? = some fn ∧ (fn.name == "runtime.NumGoroutine") = false ∧ fn.body.isSome = true ∧ (FI.okB ⟨fn, fn.body.getD .skip, dfrOf (fn.body.getD .skip)⟩) = true
def tabT {P : Program} (t : Tr (TE P)) : Tab := fun k => match t.get k with
  | some e => if Nat.beq e.t k then some e.i else none
  | none => none
def tabF {P : Program} (t : Tr (FE P)) : FTab := fun k => match t.get k with
  | some e => if Nat.beq e.f k then some ⟨e.fn, e.fn.body.getD .skip, dfrOf (e.fn.body.getD .skip)⟩ else none
  | none => none
theorem tabT_ok {P : Program} (t : Tr (TE P)) : (tabT t).OK P := fun k i h => by
  unfold tabT at h
  split at h
  · rename_i e _
    split at h
    · rename_i hk
      simp only [Nat.beq_eq] at hk
      simp only [Option.some.injEq] at h
      subst hk h
      exact TI.okB_spec e.ok
    · cases h
  · cases h
theorem tabF_ok {P : Program} (t : Tr (FE P)) : (tabF t).OK P := fun k i h => by
  unfold tabF at h
  split at h
  · rename_i e _
    split at h
    · rename_i hk
      simp only [Nat.beq_eq] at hk
      simp only [Option.some.injEq] at h
      subst hk h
      obtain ⟨h1, h2, h3, h4⟩ := e.ok
      obtain ⟨c, hc⟩ := Option.isSome_iff_exists.1 h3
      refine ⟨h1, h2, by rw [hc]; rfl, rfl, ?_⟩
      unfold FI.okB at h4
      cases hd : dfrOf (e.fn.body.getD .skip) with
      | none => simp only [hd] at h4 ⊢; exact h4
      | some d => simp only [hd] at h4 ⊢; exact h4
    · cases h
  · cases h
def isRes (z : HV) : Option (HV × List (Nat × HO) × Nat) → Bool
  | some (y, _, _) => sameV y z
  | none => false
theorem closed_ok {A : Ctx} {G : Nat → Option (List Value)} (T : Tr (TE A.P)) (F : Tr (FE A.P)) (hm : A.P.follows .mixedOrders = true) (hG : SameG A.G G) {k f m : Nat} {xs : List AV} {hs : List HV} {y : AV} {z : HV}
    (h : isRes z (runF ⟨A.P, G⟩ (tabT T) (tabF F) W0 k f hs [] 0 m) = true) (hx : ofAVs xs = some hs) (hy : ofAV y = some z) : FnOK A f xs [] y [] := by
  cases hr : runF ⟨A.P, G⟩ (tabT T) (tabF F) W0 k f hs [] 0 m with
  | none => rw [hr] at h; cases h
  | some r =>
    obtain ⟨y', o', n'⟩ := r
    rw [hr] at h
    have := sameV_eq _ _ h
    subst this
    exact HRun.toFnOK rfl hG hx hy (runF_sound (tabT_ok T) (tabF_ok F) (W0_ok hm) k _ _ _ _ _ _ _ _ hr)
end Go.H
namespace Go.H
open Go.Abs (lk Does szOf Ex codeOK opOK)
noncomputable def lkD (k : Nat) (l : List (Nat × HV)) : HV := List.rec (motive := fun _ => HV) .undef (fun p _ ih => Bool.rec (motive := fun _ => HV) ih p.2 (Nat.beq p.1 k)) l
theorem lkD_eq (k : Nat) : ∀ l : List (Nat × HV), lkD k l = (lk k l).getD .undef
  | [] => rfl
  | p :: l => by
    have ih := lkD_eq k l
    show Bool.rec (motive := fun _ => HV) (lkD k l) p.2 (Nat.beq p.1 k) = _
    obtain ⟨j, x⟩ := p
    simp only [lk]
    by_cases h : j = k
    · subst h; simp
    · have : Nat.beq j k = false := by
        cases hb : Nat.beq j k with
        | false => rfl
        | true => exact absurd (Nat.eq_of_beq_eq_true hb) h
      simp only [this, h, if_false, ih]
noncomputable def evK (h : HS) (x : Operand) : HV := Operand.rec (motive := fun _ => HS → HV) (fun k h => lkD k h.tmps) (fun x _ => .v x) (fun i _ => .gp i 0) (fun f _ => .fn f []) x h
theorem evK_eq : evK = ev := by
  funext h x
  cases x with
  | tmp k => exact lkD_eq k h.tmps
  | _ => rfl
noncomputable def lkF {α : Type} (k : Nat) (l : List (Nat × α)) : Option α := List.rec (motive := fun _ => Option α) none (fun p _ ih => Bool.rec (motive := fun _ => Option α) ih (some p.2) (Nat.beq p.1 k)) l
theorem lkF_eq {α : Type} (k : Nat) : ∀ l : List (Nat × α), lkF k l = lk k l
  | [] => rfl
  | p :: l => by
    have ih := lkF_eq k l
    show Bool.rec (motive := fun _ => Option α) (lkF k l) (some p.2) (Nat.beq p.1 k) = _
    obtain ⟨j, x⟩ := p
    simp only [lk]
    by_cases h : j = k
    · subst h; simp
    · have : Nat.beq j k = false := by
        cases hb : Nat.beq j k with
        | false => rfl
        | true => exact absurd (Nat.eq_of_beq_eq_true hb) h
      simp only [this, h, if_false, ih]
noncomputable def loadK (G : Nat → Option (List Value)) (agg : Bool) (n : Nat) (objs : List (Nat × HO)) (x : HV) : Option HV := match x with
  | .ptr s off => match lkF s objs with
    | some (.cells cs) => if Nat.ble (off + n) cs.length then mkH agg ((cs.drop off).take n) else none
    | _ => none
  | .gp i off => match G i with
    | some vs => if Nat.ble (off + n) vs.length then mkH agg (((vs.drop off).take n).map .v) else none
    | none => none
  | _ => none
theorem loadK_eq (G : Nat → Option (List Value)) (agg : Bool) (n : Nat) (objs : List (Nat × HO)) (x : HV) : loadK G agg n objs x = loadH G agg n objs x := by
  unfold loadK loadH
  simp only [lkF_eq]
  rfl
noncomputable def keepK (r : Option HV) (h : HS) : Option (HV × HS) := Option.rec (motive := fun _ => Option (HV × HS)) none (fun x => some (x, h)) r
noncomputable def bindK {α β : Type} (r : Option α) (f : α → Option β) : Option β := Option.rec (motive := fun _ => Option β) none f r
abbrev StepT := Option Nat → HC → Tab → RF → HS → Option (HV × HS)
abbrev EvT := HS → Operand → HV
noncomputable def pureX (op : Op) : EvT → Tab → (Nat → Option (List Value)) → HS → Option HV := Op.rec (motive := fun _ => EvT → Tab → (Nat → Option (List Value)) → HS → Option HV)
  (fun x e _ _ h => some (e h x))
  (fun x e _ _ h => some (e h x))
  (fun c a b e _ _ h => match e h c with
    | .v (.bool true) => some (e h a)
    | .v (.bool false) => some (e h b)
    | _ => none)
  (fun _ _ _ _ _ => none)
  (fun _ _ _ _ _ _ => none)
  (fun t ps e T _ h => buildH T t (ps.toList.map fun p => (p.1, e h p.2)))
  (fun _ _ _ _ _ _ _ => none)
  (fun _ _ _ _ _ _ _ _ => none)
  (fun t x e T G h => match T t with
    | some i => loadK G i.kind.agg i.size h.objs (e h x)
    | none => none)
  (fun _ _ _ _ _ _ _ => none)
  (fun _ _ _ _ _ => none)
  (fun _ _ _ _ _ => none)
  (fun x e _ _ h => match e h x with
    | .ptr s o => some (.ptr s o)
    | .gp s o => some (.gp s o)
    | .fn f cs => some (.fn f cs)
    | .ifc t y => some (.ifc t y)
    | _ => none)
  (fun op t x y _ e T _ h => binH T op t (e h x) (e h y))
  (fun op _ x e _ _ h => (toA (e h x)).bind fun y => (Abs.unA op y).bind ofA)
  (fun src dst x e T _ h => match T src, T dst, e h x with
    | some ⟨.int _, _, _, _⟩, some ⟨.int k, _, _, _⟩, .v (.int _ n) => some (.v (.int k (k.wrap n)))
    | _, _, _ => none)
  (fun _ _ _ _ _ _ => none)
  (fun t x e T _ h => match T t with
    | some i => if isConc i.kind then some (.ifc t (e h x)) else none
    | none => none)
  (fun fn first caps e _ _ h => funcH fn (first.toList.map (e h)) (caps.toList.map (e h)))
  (fun _ _ _ _ _ _ => none)
  (fun _ _ _ _ _ _ => none)
  (fun _ _ _ _ _ _ _ => none)
  (fun a b c d e => fun _ T G h => pureH T G h (.slice a b c d e))
  (fun t x i e T _ h => fieldAddrH T t i (e h x))
  (fun t x i e T _ h => fieldH T t i (e h x))
  (fun t x i e T _ h => indexAddrH T t (e h x) (e h i))
  (fun t x i e T _ h => indexH T t (e h x) (e h i))
  (fun _ _ _ _ _ _ _ _ => none)
  (fun _ _ _ _ _ _ _ _ => none)
  (fun _ _ _ _ _ _ _ => none)
  (fun _ _ _ _ _ _ _ _ => none)
  (fun _ _ _ _ _ _ => none)
  (fun _ _ _ _ _ _ => none)
  (fun _ _ _ _ _ => none)
  (fun x _ t ok e T _ h => match e h x, T t with
    | .ifc t' y, some i => if t' == t && isConc i.kind then some (if ok then .tup [y, .v (.bool true)] else y) else none
    | _, _ => none)
  (fun x i e _ _ h => match e h x with
    | .tup cs => cs[i]?
    | _ => none)
  (fun c => fun _ T G h => Callee.rec (motive := fun _ => Option HV) (fun _ => none) (fun _ _ => none) (fun b => pureH T G h (.call ⟨.builtin b, c.args, c.argTypes⟩)) c.callee)
  (fun _ _ _ _ _ => none)
  (fun _ _ _ _ _ => none)
  (fun _ _ _ _ _ => none)
  (fun _ _ _ _ _ _ => none)
  (fun _ _ _ _ _ _ _ => none)
  (fun _ _ _ _ _ _ => none) op
theorem pureX_eq (op : Op) (T : Tab) (G : Nat → Option (List Value)) (h : HS) : pureX op evK T G h = pureH T G h op := by
  rw [evK_eq]
  cases op
  case call c =>
    obtain ⟨cal, args, ts⟩ := c
    cases cal <;> rfl
  case load t x =>
    show (match T t with
      | some i => loadK G i.kind.agg i.size h.objs (ev h x)
      | none => none) = _
    simp only [loadK_eq]
    rfl
  all_goals rfl
noncomputable def dfltK (op : Op) : StepT := fun dst C T _ h => match pureX op evK T C.G h with
  | some x => some (x, h)
  | none => memH C.P T h dst op
theorem dfltK_eq (op : Op) (dst : Option Nat) (C : HC) (T : Tab) (rf : RF) (h : HS) : dfltK op dst C T rf h = match pureH T C.G h op with
  | some x => some (x, h)
  | none => memH C.P T h dst op := by unfold dfltK; rw [pureX_eq]
noncomputable def callK (c : Call) : StepT := Callee.rec (motive := fun _ => Array Operand → Array TypeId → StepT)
  (fun f args _ _ _ _ rf h => match evK h f with
    | .fn fid caps => callH rf h fid (args.toList.map (evK h) ++ caps)
    | .mv fid first => callH rf h fid (first ++ args.toList.map (evK h))
    | _ => none)
  (fun r name args _ _ C _ rf h => match evK h r with
    | .ifc t y => match methH C.P C.G h.objs t name y with
      | some (f, rv) => callH rf h f (rv :: args.toList.map (evK h))
      | none => none
    | _ => none)
  (fun b args ts => dfltK (.call ⟨.builtin b, args, ts⟩)) c.callee c.args c.argTypes
noncomputable def stepT (op : Op) : StepT := Op.rec (motive := fun _ => StepT)
  (fun x _ _ _ _ h => some (evK h x, h))
  (fun x _ _ _ _ h => some (evK h x, h))
  (fun c a b => dfltK (.pick c a b))
  (fun t dst C T _ h => memH C.P T h dst (.alloc t))
  (fun t x dst C T _ h => memH C.P T h dst (.box t x))
  (fun t ps _ _ T _ h => keepK (buildH T t (ps.toList.map fun p => (p.1, evK h p.2))) h)
  (fun t n ps dst C T _ h => memH C.P T h dst (.buildSlice t n ps))
  (fun t m k v dst C T _ h => memH C.P T h dst (.insert t m k v))
  (fun t x _ C T _ h => bindK (T t) fun i => keepK (loadK C.G i.kind.agg i.size h.objs (evK h x)) h)
  (fun t p x dst C T _ h => memH C.P T h dst (.store t p x))
  (fun g => dfltK (.ready g))
  (fun g => dfltK (.waits g))
  (fun x => dfltK (.nilCheck x))
  (fun op t x y _ _ _ T _ h => keepK (binH T op t (evK h x) (evK h y)) h)
  (fun op t x => dfltK (.unOp op t x))
  (fun a b x => dfltK (.convert a b x))
  (fun a b => dfltK (.sliceToArrayPointer a b))
  (fun t x => dfltK (.makeInterface t x))
  (fun f a b => dfltK (.makeFunc f a b))
  (fun a b => dfltK (.makeMap a b))
  (fun a b => dfltK (.makeChan a b))
  (fun a b c dst C T _ h => memH C.P T h dst (.makeSlice a b c))
  (fun a b c d e => dfltK (.slice a b c d e))
  (fun t x i _ _ T _ h => keepK (fieldAddrH T t i (evK h x)) h)
  (fun t x i _ _ T _ h => keepK (fieldH T t i (evK h x)) h)
  (fun t x i _ _ T _ h => keepK (indexAddrH T t (evK h x) (evK h i)) h)
  (fun t x i _ _ T _ h => keepK (indexH T t (evK h x) (evK h i)) h)
  (fun a b c d => dfltK (.lookup a b c d))
  (fun a b c d => dfltK (.mapUpdate a b c d))
  (fun a b c => dfltK (.mapEntry a b c))
  (fun a b c d => dfltK (.entryStore a b c d))
  (fun a b => dfltK (.range a b))
  (fun a b => dfltK (.next a b))
  (fun a => dfltK (.entry a))
  (fun a b c d => dfltK (.typeAssert a b c d))
  (fun x i => dfltK (.extract x i))
  (fun c => callK c)
  (fun c => dfltK (.go c))
  (fun c => dfltK (.defer c))
  (fun a => dfltK (.panic a))
  (fun a b => dfltK (.send a b))
  (fun a b c => dfltK (.recv a b c))
  (fun a b => dfltK (.select a b)) op
noncomputable def stepK (C : HC) (T : Tab) (rf : RF) (o : Oper) (h : HS) : Option (HV × HS) := stepT o.op o.dst C T rf h
theorem keepK_eq (r : Option HV) (h : HS) (z : Option (HV × HS)) (hz : z = none) : keepK r h = match r with | some x => some (x, h) | none => z := by
  subst hz; cases r <;> rfl
theorem memH_none {P : Program} {T : Tab} {h : HS} {d : Option Nat} {op : Op} (h0 : memH0 P T h d op = none) : memH P T h d op = none := by
  unfold memH; rw [h0]; simp
theorem stepK_eq : stepK = stepV := by
  funext C T rf o h
  unfold stepK stepV
  cases hop : o.op
  case move => show some (evK h _, h) = _; rw [evK_eq]; rfl
  case assign => show some (evK h _, h) = _; rw [evK_eq]; rfl
  case build => show keepK (buildH T _ (Array.toList _ |>.map fun (p : Nat × Operand) => (p.1, evK h p.2))) h = _; rw [evK_eq]; exact keepK_eq _ _ _ (memH_none rfl)
  case load t x =>
    show (bindK (T t) fun i => keepK (loadK C.G i.kind.agg i.size h.objs (evK h x)) h) = _
    simp only [evK_eq, loadK_eq]
    show _ = match (match T t with
      | some i => loadH C.G i.kind.agg i.size h.objs (ev h x)
      | none => none) with
      | some x => some (x, h)
      | none => memH C.P T h o.dst (.load t x)
    cases T t with
    | none => exact (memH_none rfl).symm
    | some i => exact keepK_eq _ _ _ (memH_none rfl)
  case binOp => show keepK (binH T _ _ (evK h _) (evK h _)) h = _; rw [evK_eq]; exact keepK_eq _ _ _ (memH_none rfl)
  case fieldAddr => show keepK (fieldAddrH T _ _ (evK h _)) h = _; rw [evK_eq]; exact keepK_eq _ _ _ (memH_none rfl)
  case field => show keepK (fieldH T _ _ (evK h _)) h = _; rw [evK_eq]; exact keepK_eq _ _ _ (memH_none rfl)
  case indexAddr => show keepK (indexAddrH T _ (evK h _) (evK h _)) h = _; rw [evK_eq]; exact keepK_eq _ _ _ (memH_none rfl)
  case index => show keepK (indexH T _ (evK h _) (evK h _)) h = _; rw [evK_eq]; exact keepK_eq _ _ _ (memH_none rfl)
  case call c =>
    obtain ⟨cal, args, ts⟩ := c
    cases cal with
    | value f =>
      show (match evK h f with
        | .fn fid caps => callH rf h fid (args.toList.map (evK h) ++ caps)
        | .mv fid first => callH rf h fid (first ++ args.toList.map (evK h))
        | _ => none) = _
      rw [evK_eq]; rfl
    | invoke r name =>
      show (match evK h r with
        | .ifc t y => match methH C.P C.G h.objs t name y with
          | some (f, rv) => callH rf h f (rv :: args.toList.map (evK h))
          | none => none
        | _ => none) = _
      rw [evK_eq]; rfl
    | builtin b => exact dfltK_eq _ _ _ _ rf _
  all_goals first | rfl | exact dfltK_eq _ _ _ _ rf _
noncomputable def forceN {α : Type} (n : Nat) (f : Nat → α) : α := Nat.rec (motive := fun _ => α) (f 0) (fun k _ => f (Nat.succ k)) n
theorem forceN_eq {α : Type} (n : Nat) (f : Nat → α) : forceN n f = f n := by cases n <;> rfl
noncomputable def strictH (h : HS) : HS := forceN h.n fun n => forceN h.m fun m => ⟨h.tmps, h.objs, n, m⟩
theorem strictH_eq (h : HS) : strictH h = h := by simp only [strictH, forceN_eq]
noncomputable def stepHK (C : HC) (T : Tab) (rf : RF) (o : Oper) (h : HS) : Option HS := Option.rec (motive := fun _ => Option HS) none (fun p => some (p.2.put o.dst p.1)) (stepK C T rf o h)
theorem stepHK_eq : stepHK = stepH := by
  funext C T rf o h
  unfold stepHK stepH
  rw [stepK_eq]
  cases stepV C T rf o h <;> rfl
noncomputable def restrK (tmps : List (Nat × HV)) (l : List Operand) : List (Nat × HV) := List.rec (motive := fun _ => List (Nat × HV)) [] (fun x _ ih => Operand.rec (motive := fun _ => List (Nat × HV)) (fun t => Option.rec (motive := fun _ => List (Nat × HV)) ih (fun x => (t, x) :: ih) (lkF t tmps)) (fun _ => ih) (fun _ => ih) (fun _ => ih) x) l
theorem restrK_eq (tmps : List (Nat × HV)) : ∀ l : List Operand, restrK tmps l = restr tmps l
  | [] => rfl
  | x :: l => by
    have ih := restrK_eq tmps l
    cases x with
    | tmp t =>
      show Option.rec (motive := fun _ => List (Nat × HV)) (restrK tmps l) (fun x => (t, x) :: restrK tmps l) (lkF t tmps) = _
      rw [ih, lkF_eq]
      simp only [restr]
      cases lk t tmps <;> rfl
    | const v => exact ih
    | global i => exact ih
    | func f => exact ih
noncomputable def readK (all : Array Oper) (o : Oper) (tmps : List (Nat × HV)) : List (Nat × HV) :=
  restrK tmps (match gdst all o with
    | some t => .tmp t :: o.op.operands.toList
    | none => o.op.operands.toList)
noncomputable def apartK (a b : RS) : Bool :=
  (match a.dst with
   | some d => (lkF d b.t1).isNone && (match b.dst with | some e => !(Nat.beq d e) | none => true)
   | none => true) &&
  (match b.dst with | some d => (lkF d a.t1).isNone | none => true) &&
  a.upd.all (fun q => (lkF q.1 b.o1).isNone && (lkF q.1 b.upd).isNone) && b.upd.all (fun q => (lkF q.1 a.o1).isNone)
noncomputable def apartAllK (b : RS) : Nat → List RS → Bool
  | _, [] => true
  | j, a :: rs => (Nat.testBit b.p j || apartK a b) && apartAllK b (j + 1) rs
theorem apartAllK_eq (b : RS) : ∀ (rs : List RS) (j : Nat), apartAllK b j rs = apartAll b j rs
  | [], _ => rfl
  | a :: rs, j => by
    simp only [apartAllK, apartAll, apartAllK_eq b rs (j + 1)]
    unfold apartK apartB
    simp only [lkF_eq]
    rfl
noncomputable def recK (pure : Oper → HS → Option HV) (step : Oper → HS → Option (HV × HS)) (fuel : Nat) (all : Array Oper) (o : Oper) (p : Nat) (h : HS) : Option RS :=
  let t1 := readK all o h.tmps
  match wantH all o t1 with
  | none => none
  | some false => some ⟨t1, [], .tup [], [], h.n, h.n, o.dst, p⟩
  | some true =>
    let o1 := footO fuel h o
    match pure o ⟨t1, o1, h.n, h.n⟩ with
    | some x => some ⟨t1, o1, x, [], h.n, h.n, o.dst, p⟩
    | none =>
      let m := quota o h
      match step o ⟨t1, o1, h.n, m⟩ with
      | some (x, h') => if Nat.ble m h.m then some ⟨t1, o1, x, updOf o1 h'.objs, h.n, m, o.dst, p⟩ else none
      | none => none
theorem recK_eq (pure : Oper → HS → Option HV) (step : Oper → HS → Option (HV × HS)) (fuel : Nat) (all : Array Oper) (o : Oper) (p : Nat) (h : HS) : recK pure step fuel all o p h = recH pure step fuel all o p h := by
  have : readK all o h.tmps = readH all o h.tmps := by unfold readK readH; rw [restrK_eq]; rfl
  unfold recK recH
  rw [this]
  rfl
noncomputable def goK (pure : Oper → HS → Option HV) (step : Oper → HS → Option (HV × HS)) (fuel : Nat) (all : Array Oper) : List Oper → Nat → List RS → HS → Option HS
  | [], _, _, h => some h
  | o :: os, i, rs, h =>
    let es := Abs.edgesOf all i
    if es.all (Nat.blt · i) then
      match recK pure step fuel all o (maskOf rs es) h with
      | some r => if apartAllK r 0 rs then goK pure step fuel all os (Nat.succ i) (rs ++ [r]) (strictH ((⟨h.tmps, putU r.upd h.objs, r.m, h.m⟩ : HS).put o.dst r.x)) else none
      | none => none
    else none
theorem goK_eq (pure : Oper → HS → Option HV) (step : Oper → HS → Option (HV × HS)) (fuel : Nat) (all : Array Oper) : ∀ (os : List Oper) (i : Nat) (rs : List RS) (h : HS), i = rs.length → goK pure step fuel all os i rs h = goH pure step fuel all os rs h
  | [], _, _, _, _ => rfl
  | o :: os, i, rs, h, hi => by
    subst hi
    simp only [goK, goH, recK_eq, apartAllK_eq, strictH_eq]
    have ih := fun (r : RS) (h : HS) => goK_eq pure step fuel all os (Nat.succ rs.length) (rs ++ [r]) h (by simp)
    simp only [ih]
    rfl
noncomputable def namesV (x : HV) : List Nat → List Nat := HV.rec (motive_1 := fun _ => List Nat → List Nat) (motive_2 := fun _ => List Nat → List Nat)
  (fun l => l) (fun _ l => l) (fun _ ih => ih) (fun _ ih => ih) (fun s _ l => s :: l) (fun _ _ l => l) (fun s _ _ _ _ l => s :: l) (fun _ _ ih => ih) (fun _ _ ih => ih) (fun _ _ ih => ih) (fun s l => s :: l) (fun s l => s :: l) (fun l => l)
  (fun l => l) (fun _ _ i1 i2 l => i2 (i1 l)) x
noncomputable def namesK (cs : List HV) (l : List Nat) : List Nat := List.rec (motive := fun _ => List Nat → List Nat) (fun l => l) (fun c _ ih l => ih (namesV c l)) cs l
mutual
theorem namesV_eq : ∀ (x : HV), namesV x = x.names
  | .undef => by funext l; simp only [HV.names]; rfl
  | .v _ => by funext l; simp only [HV.names]; rfl
  | .agg cs => by funext l; simp only [HV.names]; rw [← namesW_eq cs]; rfl
  | .tup cs => by funext l; simp only [HV.names]; rw [← namesW_eq cs]; rfl
  | .ptr _ _ => by funext l; simp only [HV.names]; rfl
  | .gp _ _ => by funext l; simp only [HV.names]; rfl
  | .bs _ _ _ _ _ => by funext l; simp only [HV.names]; rfl
  | .fn _ cs => by funext l; simp only [HV.names]; rw [← namesW_eq cs]; rfl
  | .mv _ cs => by funext l; simp only [HV.names]; rw [← namesW_eq cs]; rfl
  | .ifc _ x => by funext l; simp only [HV.names]; rw [← namesV_eq x]; rfl
  | .mp _ => by funext l; simp only [HV.names]; rfl
  | .it _ => by funext l; simp only [HV.names]; rfl
  | .em => by funext l; simp only [HV.names]; rfl
theorem namesW_eq : ∀ (cs : List HV), (HV.rec_1 (motive_1 := fun _ => List Nat → List Nat) (motive_2 := fun _ => List Nat → List Nat)
  (fun l => l) (fun _ l => l) (fun _ ih => ih) (fun _ ih => ih) (fun s _ l => s :: l) (fun _ _ l => l) (fun s _ _ _ _ l => s :: l) (fun _ _ ih => ih) (fun _ _ ih => ih) (fun _ _ ih => ih) (fun s l => s :: l) (fun s l => s :: l) (fun l => l)
  (fun l => l) (fun _ _ i1 i2 l => i2 (i1 l)) cs : List Nat → List Nat) = namesL cs
  | [] => by funext l; simp only [namesL]
  | c :: cs => by
    funext l
    simp only [namesL]
    rw [← namesW_eq cs, ← namesV_eq c]
    rfl
end
theorem namesK_eq : ∀ (cs : List HV) (l : List Nat), namesK cs l = namesL cs l
  | [], l => by simp only [namesL]; rfl
  | c :: cs, l => by
    simp only [namesL]
    rw [← namesK_eq cs, ← namesV_eq c]
    rfl
noncomputable def namesO (p : HO) (l : List Nat) : List Nat := HO.rec (motive := fun _ => List Nat) (fun cs => namesK cs l) (fun es => namesK es l) (fun m _ _ _ => Option.rec (motive := fun _ => List Nat) l (fun q => q :: l) m) (fun q _ _ => q :: l) p
theorem namesO_eq (p : HO) (l : List Nat) : namesO p l = p.names l := by
  cases p with
  | cells cs => exact namesK_eq cs l
  | map es => exact namesK_eq es l
  | iter m a b c => cases m <;> rfl
  | seen q a b => rfl
noncomputable def reachK (o : List (Nat × HO)) (n : Nat) (todo : List Nat) (seen : List (Nat × HO)) : List (Nat × HO) := Nat.rec (motive := fun _ => List Nat → List (Nat × HO) → List (Nat × HO)) (fun _ seen => seen)
  (fun _ ih todo seen => List.casesOn (motive := fun _ => List (Nat × HO)) todo seen fun s todo => Option.rec (motive := fun _ => List (Nat × HO)) (Option.rec (motive := fun _ => List (Nat × HO)) (ih todo seen) (fun p => ih (namesO p todo) ((s, p) :: seen)) (lkF s o)) (fun _ => ih todo seen) (lkF s seen)) n todo seen
theorem reachK_eq (o : List (Nat × HO)) : ∀ (n : Nat) (todo : List Nat) (seen : List (Nat × HO)), reachK o n todo seen = reachO o n todo seen
  | 0, _, _ => rfl
  | _ + 1, [], _ => rfl
  | n + 1, s :: todo, seen => by
    show Option.rec (motive := fun _ => List (Nat × HO)) (Option.rec (motive := fun _ => List (Nat × HO)) (reachK o n todo seen) (fun p => reachK o n (namesO p todo) ((s, p) :: seen)) (lkF s o)) (fun _ => reachK o n todo seen) (lkF s seen) = _
    simp only [reachO, lkF_eq, reachK_eq o n, namesO_eq]
    cases lk s seen with
    | none => cases lk s o <;> rfl
    | some q => rfl
noncomputable def restK (o o1 : List (Nat × HO)) : List (Nat × HO) := List.rec (motive := fun _ => List (Nat × HO)) [] (fun p _ ih => Option.rec (motive := fun _ => List (Nat × HO)) (p :: ih) (fun _ => ih) (lkF p.1 o1)) o
theorem restK_eq (o1 : List (Nat × HO)) : ∀ o : List (Nat × HO), restK o o1 = restO o o1
  | [] => rfl
  | p :: o => by
    have ih := restK_eq o1 o
    show Option.rec (motive := fun _ => List (Nat × HO)) (p :: restK o o1) (fun _ => restK o o1) (lkF p.1 o1) = _
    rw [ih, lkF_eq]
    simp only [restO, List.filter_cons]
    cases lk p.1 o1 <;> rfl
noncomputable def rfSubK (fuel : Nat) (rf : RF) : RF := fun f xs o n m =>
  let o1 := reachK o fuel (namesK xs []) []
  match rf f xs o1 n m with
  | some (y, o', n') => some (y, reachK o' fuel (namesV y (o1.map (·.1))) [] ++ restK o o1, n')
  | none => none
theorem rfSubK_eq (fuel : Nat) (rf : RF) : rfSubK fuel rf = rfSub fuel rf := by
  funext f xs o n m
  unfold rfSubK rfSub
  simp only [reachK_eq, namesK_eq, namesV_eq, restK_eq]
  rfl
noncomputable def runK (C : HC) (T : Tab) (F : FTab) (W : How) : Nat → RF
  | 0, _, _, _, _, _ => none
  | k + 1, f, xs, o, n, m => match F f with
    | some ⟨fn, c, none⟩ => if Nat.ble xs.length fn.ntmps then
        match runC (stepHK C T (rfSubK W.fuel (runK C T F W k))) (W.draw (fun o h => pureX o.op evK T C.G h) (stepK C T (rfSubK W.fuel (runK C T F W k)))) (W.tidy f) W.lf c ⟨argH 0 xs, o, n, m⟩ with
        | some (e, h) => if isExit e then none else match resHs T C.G h fn.results.toList with
          | some ys => if h.m == m then some (packH ys, h.objs, h.n) else none
          | none => none
        | none => none
      else none
    | some ⟨fn, _, some d⟩ => match lk d.k (argH 0 xs), F d.h with
      | some x, some ⟨fh, ch, none⟩ => if Nat.ble xs.length fn.ntmps && Nat.ble 1 fh.ntmps && Nat.blt d.t fn.ntmps && fn.results.isEmpty && fh.results.isEmpty then
          match runC (stepHK C T (rfSubK W.fuel (runK C T F W k))) (W.draw (fun o h => pureX o.op evK T C.G h) (stepK C T (rfSubK W.fuel (runK C T F W k)))) (W.tidy f) W.lf d.rest ⟨(d.t, x) :: argH 0 xs, o, n, m⟩ with
          | some (e1, h1) => if isExit e1 then none else match runC (stepHK C T (rfSubK W.fuel (runK C T F W k))) (W.draw (fun o h => pureX o.op evK T C.G h) (stepK C T (rfSubK W.fuel (runK C T F W k)))) (W.tidy d.h) W.lf ch ⟨argH 0 [x], h1.objs, h1.n, h1.m⟩ with
            | some (e2, h2) => if isExit e2 then none else if h2.m == m then some (.tup [], h2.objs, h2.n) else none
            | none => none
          | none => none
        else none
      | _, _ => none
    | none => none
theorem runK_eq (C : HC) (T : Tab) (F : FTab) (W : How) : ∀ k, runK C T F W k = runF C T F W k
  | 0 => rfl
  | k + 1 => by
    have ih := runK_eq C T F W k
    funext f xs o n m
    simp only [runK, runF, ih, stepK_eq, stepHK_eq, pureX_eq, rfSubK_eq]
    rfl
noncomputable def W1 : How := ⟨fun pure step ops h => goK pure step 3000 ops ops.toList 0 [] h, fun _ _ h => strictH h, 3000, 3000⟩
theorem W1_ok {C : HC} (hm : C.P.follows .mixedOrders = true) : W1.OK C :=
  ⟨fun _ _ hp hs _ _ _ hr => drawH_sound (fuel := 3000) hm hp hs (by rw [show drawH 3000 _ _ _ _ = goH _ _ 3000 _ _ [] _ from rfl, ← goK_eq _ _ _ _ _ 0 [] _ rfl]; exact hr), fun _ _ _ _ _ _ _ _ _ hR => by show R _ _ _ _ (strictH _) _ _; rw [strictH_eq]; exact hR⟩
theorem closedK {A : Abs.Ctx} {G : Nat → Option (List Value)} (T : Tr (TE A.P)) (F : Tr (FE A.P)) (hm : A.P.follows .mixedOrders = true) (hG : SameG A.G G) {k f m : Nat} {xs : List Abs.AV} {hs : List HV} {y : Abs.AV} {z : HV}
    (h : isRes z (runK ⟨A.P, G⟩ (tabT T) (tabF F) W1 k f hs [] 0 m) = true) (hx : ofAVs xs = some hs) (hy : ofAV y = some z) : Abs.FnOK A f xs [] y [] := by
  rw [runK_eq] at h
  cases hr : runF ⟨A.P, G⟩ (tabT T) (tabF F) W1 k f hs [] 0 m with
  | none => rw [hr] at h; cases h
  | some r =>
    obtain ⟨y', o', n'⟩ := r
    rw [hr] at h
    have := sameV_eq _ _ h
    subst this
    exact HRun.toFnOK rfl hG hx hy (runF_sound (tabT_ok T) (tabF_ok F) (W1_ok hm) k _ _ _ _ _ _ _ _ hr)
end Go.H
