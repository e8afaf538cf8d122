/- part 5 of the proof -/
import Derived.ChangeShapes
import Derived.OpenShut
import Derived.RowKit
import Derived.Below
import Derived.ChangeSame
import Derived.WideKeyArgs
import Derived.KernelRfl
import Derived.Test.YtobcllcndnbmlaaGreatDoorM04
set_option linter.all false
namespace Go.Abs
def freeP (v : Option AV) (p : List Nat) (cr : List (Nat × List Nat × List Nat)) (d : Option Nat) (K : St → Prop) (st : St) : Prop := match v with
  | some x => away cr p ⟨x, [], [], []⟩ ∧ K (st.put d x)
  | none => False
def freeCallB (X : Env) (d : Option Nat) (fid : Nat) (xs : List AV) (objs : List (Nat × List AV)) (p : List Nat) (i : Nat) (cr : List (Nat × List Nat × List Nat)) (K : List (Nat × List Nat × List Nat) → St → Prop) (st : St) : Prop :=
  ∃ v ob y ob', v.OK ob ∧ (rngs v.fm).all (fun s => s % 32 != 31) = true ∧ v.ρ.m = [] ∧ FnOK X.C fid (renL v.ρ xs) ob y ob' ∧ Has v ⟨[], objs⟩ ob ∧ (v.ρ.bs = [] ∨ (Flat (y.ren v.back) ∧ FlatO (renO v.back ob'))) ∧
    fixT (rngs v.back.l) (rngs v.fm) st.tmps ∧ fixO (rngs v.back.l) (rngs v.fm) st.objs ∧ away cr p ⟨y.ren v.back, rngs v.back.l, rngs v.fm, renO v.back ob'⟩ ∧
    K (crOf i ⟨y.ren v.back, rngs v.back.l, rngs v.fm, renO v.back ob'⟩ cr) ⟨(St.put d (y.ren v.back) st).tmps, renO v.back ob' ++ st.objs⟩
def freeCall (X : Env) (d : Option Nat) (f : AV) (xs : List AV) (objs : List (Nat × List AV)) (p : List Nat) (i : Nat) (cr : List (Nat × List Nat × List Nat)) (K : List (Nat × List Nat × List Nat) → St → Prop) (st : St) : Prop :=
  match f with
  | .fn fid caps => freeCallB X d fid (xs ++ caps) objs p i cr K st
  | _ => False
def freeAlloc (k : Nat) (zs : List Value) (p : List Nat) (i : Nat) (cr : List (Nat × List Nat × List Nat)) (K : List (Nat × List Nat × List Nat) → St → Prop) (st : St) : Prop :=
  fixT [] [nm k] st.tmps ∧ fixO [] [nm k] st.objs ∧ away cr p ⟨.ptr (nm k) 0, [], [nm k], [(nm k, vals zs)]⟩ ∧
    K (crOf i ⟨.ptr (nm k) 0, [], [nm k], [(nm k, vals zs)]⟩ cr) ⟨(k, .ptr (nm k) 0) :: st.tmps, (nm k, vals zs) :: st.objs⟩
def freeDo (X : Env) (o : Oper) (objs : List (Nat × List AV)) (r : St) (p : List Nat) (i : Nat) (cr : List (Nat × List Nat × List Nat)) (K : List (Nat × List Nat × List Nat) → St → Prop) (st : St) : Prop :=
  match o.op with
  | .call ⟨.value f, args, _⟩ => freeCall X o.dst (ev X.C r f) (evs X.C r args.toList) objs p i cr K st
  | .alloc t => match o.dst, zeroOf X.C.P t with
    | some k, some zs => freeAlloc k zs p i cr K st
    | _, _ => False
  | .call ⟨.builtin .append, args, tys⟩ => match args.toList, tys.toList with
    | [x, y], [t, t2] => freeP (appFull X.C.P t t2 (ev X.C r x) (ev X.C r y)) p cr o.dst (K cr) st
    | _, _ => False
  | .buildSlice t len ps => freeP (litF X.C.P t len (parts X.C r ps)) p cr o.dst (K cr) st
  | _ => freeP (pureV X.C o r) p cr o.dst (K cr) st
def freeE (X : Env) (all : Array Oper) (objs : List (Nat × List AV)) : List Oper → List (List Nat × List Nat) → Nat → (St → Prop) → List (Nat × List Nat × List Nat) → St → Prop
  | [], _, _, K, _, st => K st
  | _ :: _, [], _, _, _, _ => False
  | o :: os, (p, ts) :: tab, i, K, cr, st =>
    o.dst.isSome = true ∧ match o.guard with
    | none => freeDo X o objs ⟨restr st ts, objs⟩ p i cr (freeE X all objs os tab (i + 1) K) st
    | some (j, b) => match guardOf all j ⟨restr st ts, objs⟩ with
      | some (.v (.bool b')) => splitA b' b (freeDo X o objs ⟨restr (st.learn (gdst all j) b) ts, objs⟩ p i cr (freeE X all objs os tab (i + 1) K) (st.learn (gdst all j) b)) (away cr p ⟨.tup [], [], [], []⟩ ∧ freeE X all objs os tab (i + 1) K cr ((st.learn (gdst all j) (!b)).put o.dst (.tup [])))
      | some (.tup []) => away cr p ⟨.tup [], [], [], []⟩ ∧ freeE X all objs os tab (i + 1) K cr (st.put o.dst (.tup []))
      | _ => False
section
variable {X : Env} {all : Array Oper} {objs : List (Nat × List AV)}
theorem names_renO {ρ : Rn} : ∀ {o : List (Nat × List AV)} {s : Nat}, s ∈ names (renO ρ o) → s ∈ rngs ρ.m
  | [], s, h => by simp [renO, names] at h
  | (k, c) :: o, s, h => by
    simp only [renO, List.filterMap_cons] at h
    cases hk : lk k ρ.m with
    | none => rw [hk] at h; exact names_renO (o := o) h
    | some k' =>
      rw [hk] at h
      simp only [Option.map_some, names, List.map_cons, List.mem_cons] at h
      rcases h with h | h
      · subst h; simp only [rngs, List.mem_map]; exact ⟨_, lk_mem hk, rfl⟩
      · exact names_renO (o := o) h
theorem freeDo_op {o : Oper} {r st : St} {p : List Nat} {i : Nat} {cr : List (Nat × List Nat × List Nat)} {K : List (Nat × List Nat × List Nat) → St → Prop} (hr : r.objs = objs) (hd : o.dst.isSome = true) (h : freeDo X o objs r p i cr K st) :
    freeOp X o r st p cr fun e => o.dst.isSome = true ∧ K (crOf i e cr) ⟨(St.put o.dst e.x st).tmps, e.upd ++ st.objs⟩ := by
  subst hr
  unfold freeDo at h
  split at h
  · rename_i f args ts ho
    unfold freeCall at h
    split at h
    · rename_i fid caps hf
      obtain ⟨v, ob, y, ob', h1, h2, hm, h3, h4, h5, h6, h7, h8, h9⟩ := h
      rw [evs_map] at h3
      have hbm : rngs v.back.m = rngs v.fm := by simp [Way.back, hm, inv]
      refine ⟨⟨y.ren v.back, rngs v.back.l, rngs v.fm, renO v.back ob'⟩, ?_, h2, fun s hs => ?_, h6, h7, h8, hd, h9⟩
      · have := callG (st := r) ho rfl hf h1 h3 (fun s' cs hs => h4 s' cs hs) h5
        rw [hbm] at this
        exact this
      · rw [← hbm]; exact names_renO hs
    · cases h
  · rename_i t ho
    split at h
    · rename_i k zs hdk hz
      obtain ⟨h6, h7, h8, h9⟩ := h
      refine ⟨⟨.ptr (nm k) 0, [], [nm k], [(nm k, vals zs)]⟩, allocG ho hdk hz, ?_, fun s hs => by simpa [names] using hs, h6, h7, h8, hd, ?_⟩
      · simp only [nm, List.all_cons, List.all_nil, Bool.and_true, bne_iff_ne, ne_eq]; omega
      · simp only [hdk, St.put]; exact h9
    · cases h
  · rename_i args tys ho
    split at h
    · rename_i x y t t2 hxy htt
      unfold freeP at h
      split at h
      · rename_i z hz
        obtain ⟨h8, h9⟩ := h
        rw [arr2 hxy, arr2 htt] at ho
        refine ⟨⟨z, [], [], []⟩, appFullG ho hz, rfl, (fun s hs => by simp [names] at hs), fixT_nil _, fixO_nil _, h8, hd, ?_⟩
        have e : ∀ s : St, (St.put o.dst z s) = ⟨(St.put o.dst z s).tmps, s.objs⟩ := fun s => by cases o.dst <;> rfl
        simp only [crOf, List.nil_append]
        rw [← e]
        exact h9
      · cases h
    · cases h
  · rename_i t len ps ho
    unfold freeP at h
    split at h
    · rename_i x hx
      obtain ⟨h8, h9⟩ := h
      refine ⟨⟨x, [], [], []⟩, litFullG ho hx, rfl, (fun s hs => by simp [names] at hs), fixT_nil _, fixO_nil _, h8, hd, ?_⟩
      have e : ∀ s : St, (St.put o.dst x s) = ⟨(St.put o.dst x s).tmps, s.objs⟩ := fun s => by cases o.dst <;> rfl
      simp only [crOf, List.nil_append]
      rw [← e]
      exact h9
    · cases h
  · unfold freeP at h
    split at h
    · rename_i x hx
      obtain ⟨h8, h9⟩ := h
      refine ⟨⟨x, [], [], []⟩, pureG hx, rfl, (fun s hs => by simp [names] at hs), fixT_nil _, fixO_nil _, h8, hd, ?_⟩
      have e : ∀ s : St, (St.put o.dst x s) = ⟨(St.put o.dst x s).tmps, s.objs⟩ := fun s => by cases o.dst <;> rfl
      simp only [crOf, List.nil_append]
      rw [← e]
      exact h9
    · cases h
theorem freeOp.mono {o : Oper} {r st : St} {p : List Nat} {cr : List (Nat × List Nat × List Nat)} {K K' : Res → Prop} (h : freeOp X o r st p cr K) (hk : ∀ e, K e → K' e) : freeOp X o r st p cr K' := by
  obtain ⟨e, h1, h2, h3, h4, h5, h6, h7⟩ := h
  exact ⟨e, h1, h2, h3, h4, h5, h6, hk e h7⟩
theorem freeE_sound {K : St → Prop} : ∀ (os : List Oper) (tab : List (List Nat × List Nat)) (i : Nat) (cr : List (Nat × List Nat × List Nat)) (st : St), freeE X all objs os tab i K cr st → freeA X all objs os tab i cr K st
  | [], tab, i, cr, st, h => h
  | _ :: _, [], _, _, _, h => h
  | o :: os, (p, ts) :: tab, i, cr, st, h => by
    simp only [freeE] at h
    obtain ⟨hd, h⟩ := h
    simp only [freeA]
    have run := fun (st : St) (h : freeDo X o objs ⟨restr st ts, objs⟩ p i cr (freeE X all objs os tab (i + 1) K) st) => (freeDo_op rfl hd h).mono fun e he => (⟨he.1, freeE_sound os tab (i + 1) _ _ he.2⟩ : o.dst.isSome = true ∧ freeA X all objs os tab (i + 1) (crOf i e cr) K ⟨(St.put o.dst e.x st).tmps, e.upd ++ st.objs⟩)
    split at h
    · rename_i hg; rw [hg]; exact run st h
    · rename_i j b hg
      rw [hg]
      simp only
      split at h
      · rename_i b' hb
        rw [hb]
        exact ⟨fun he => run _ (h.1 he), fun he => ⟨hd, (h.2 he).1, freeE_sound os tab (i + 1) _ _ (h.2 he).2⟩⟩
      · rename_i hb
        rw [hb]
        exact ⟨hd, h.1, freeE_sound os tab (i + 1) _ _ h.2⟩
      · exact h.elim
theorem draw_mk {ops : List Oper} {K : St → Prop} {st : St} (k : Nat) (tab : List (List Nat × List Nat)) (hm : X.C.P.follows .mixedOrders = true) (hok : regOK ops.toArray k tab = true)
    (h : freeE X ops.toArray st.objs (ops.take k) tab 0 (opsA X ops.toArray (ops.drop k) K) [] st) : drawA X ops.toArray K st :=
  draw_intro k tab hm hok (by simpa using freeE_sound _ _ _ _ _ h)
theorem freeCall_mk {d : Option Nat} {fid : Nat} {xs xs' : List AV} {p : List Nat} {i : Nat} {cr : List (Nat × List Nat × List Nat)} {K : List (Nat × List Nat × List Nat) → St → Prop} {st : St} {y : AV} {ob ob' : List (Nat × List AV)} (v : Way) (hok : FnOK X.C fid xs' ob y ob') (hx : WeakArgs (renL v.ρ xs) xs') (hv : wayOK v ob = true) (hm : v.ρ.m = []) (hh : HasL v ⟨[], objs⟩ ob)
    (hfl : v.ρ.bs = [] ∨ (Flat (y.ren v.back) ∧ FlatO (renO v.back ob')))
    (h : fixT (rngs v.back.l) (rngs v.fm) st.tmps ∧ fixO (rngs v.back.l) (rngs v.fm) st.objs ∧ away cr p ⟨y.ren v.back, rngs v.back.l, rngs v.fm, renO v.back ob'⟩ ∧
      K (crOf i ⟨y.ren v.back, rngs v.back.l, rngs v.fm, renO v.back ob'⟩ cr) ⟨(St.put d (y.ren v.back) st).tmps, renO v.back ob' ++ st.objs⟩) : freeCallB X d fid xs objs p i cr K st := by
  exact ⟨v, ob, y, ob', (wayOK.ok hv).1, (wayOK.ok hv).2, hm, hok.weak hx.weakL, hh.has, hfl, h⟩
end
@[go_sem] theorem freeP_some (x : AV) (p : List Nat) (cr : List (Nat × List Nat × List Nat)) (d : Option Nat) (K : St → Prop) (st : St) : freeP (some x) p cr d K st = (away cr p ⟨x, [], [], []⟩ ∧ K (st.put d x)) := rfl
@[go_sem] theorem freeCall_fn (X : Env) (d : Option Nat) (fid : Nat) (caps xs : List AV) (objs : List (Nat × List AV)) (p : List Nat) (i : Nat) (cr : List (Nat × List Nat × List Nat)) (K : List (Nat × List Nat × List Nat) → St → Prop) (st : St) : freeCall X d (.fn fid caps) xs objs p i cr K st = freeCallB X d fid (xs ++ caps) objs p i cr K st := rfl
@[go_sem] theorem away_nil (p : List Nat) (r : Res) : away [] p r = True := rfl
@[go_sem] theorem away_cons (i : Nat) (S T : List Nat) (l : List (Nat × List Nat × List Nat)) (p : List Nat) (r : Res) : away ((i, S, T) :: l) p r = ((i ∈ p ∨ (r.x.kill S T = r.x ∧ fixO S T r.upd)) ∧ away l p r) := rfl
@[go_sem] theorem restr_nil (st : St) : restr st [] = [] := rfl
@[go_sem] theorem restr_cons (st : St) (t : Nat) (ts : List Nat) : restr st (t :: ts) = (match lk t st.tmps with
  | some x => (t, x) :: restr st ts
  | none => restr st ts) := rfl
@[go_sem] theorem crOf_nil (i : Nat) (x : AV) (u : List (Nat × List AV)) (cr : List (Nat × List Nat × List Nat)) : crOf i ⟨x, [], [], u⟩ cr = cr := rfl
@[go_sem] theorem crOf_S (i s : Nat) (S T : List Nat) (x : AV) (u : List (Nat × List AV)) (cr : List (Nat × List Nat × List Nat)) : crOf i ⟨x, s :: S, T, u⟩ cr = (i, s :: S, T) :: cr := rfl
@[go_sem] theorem crOf_T (i s : Nat) (T : List Nat) (x : AV) (u : List (Nat × List AV)) (cr : List (Nat × List Nat × List Nat)) : crOf i ⟨x, [], s :: T, u⟩ cr = (i, [], s :: T) :: cr := rfl
attribute [go_sem] freeAlloc fixT fixO
section
variable (X : Env) (all : Array Oper) (objs : List (Nat × List AV)) (K : St → Prop) (os : List Oper) (p ts : List Nat) (tab : List (List Nat × List Nat)) (i : Nat) (cr : List (Nat × List Nat × List Nat)) (st : St) (d : Nat) (ty : TypeId) (pos : String) (aft : Array Edge)
@[go_sem] theorem freeE_nil (tab : List (List Nat × List Nat)) : freeE X all objs [] tab i K cr st = K st := rfl
@[go_sem] theorem fop_guard (op : Op) (j : Nat) (b : Bool) : freeE X all objs (⟨some d, op, ty, pos, aft, some (j, b)⟩ :: os) ((p, ts) :: tab) i K cr st =
    (match guardOf all j ⟨restr st ts, objs⟩ with
      | some (.v (.bool b')) => splitA b' b (freeE X all objs (⟨some d, op, ty, pos, aft, none⟩ :: os) ((p, ts) :: tab) i K cr (st.learn (gdst all j) b)) (away cr p ⟨.tup [], [], [], []⟩ ∧ freeE X all objs os tab (i + 1) K cr ((st.learn (gdst all j) (!b)).put (some d) (.tup [])))
      | some (.tup []) => away cr p ⟨.tup [], [], [], []⟩ ∧ freeE X all objs os tab (i + 1) K cr (st.put (some d) (.tup []))
      | _ => False) := by
  have e : ∀ r KK st, freeDo X ⟨some d, op, ty, pos, aft, some (j, b)⟩ objs r p i cr KK st = freeDo X ⟨some d, op, ty, pos, aft, none⟩ objs r p i cr KK st := fun r KK st => by cases op <;> rfl
  simp only [freeE, Option.isSome_some, true_and, e]
@[go_sem] theorem fop_call (f : Operand) (args : Array Operand) (tys : Array TypeId) : freeE X all objs (⟨some d, .call ⟨.value f, args, tys⟩, ty, pos, aft, none⟩ :: os) ((p, ts) :: tab) i K cr st = freeCall X (some d) (ev X.C ⟨restr st ts, objs⟩ f) (evs X.C ⟨restr st ts, objs⟩ args.toList) objs p i cr (freeE X all objs os tab (i + 1) K) st := by
  simp only [freeE, Option.isSome_some, true_and]; rfl
@[go_sem] theorem fop_alloc (t : TypeId) : freeE X all objs (⟨some d, .alloc t, ty, pos, aft, none⟩ :: os) ((p, ts) :: tab) i K cr st = (match zeroOf X.C.P t with
    | some zs => freeAlloc d zs p i cr (freeE X all objs os tab (i + 1) K) st
    | none => False) := by
  simp only [freeE, Option.isSome_some, true_and, freeDo]
  cases zeroOf X.C.P t <;> rfl
@[go_sem] theorem fop_move (x : Operand) : freeE X all objs (⟨some d, .move x, ty, pos, aft, none⟩ :: os) ((p, ts) :: tab) i K cr st = freeP (some (ev X.C ⟨restr st ts, objs⟩ x)) p cr (some d) (freeE X all objs os tab (i + 1) K cr) st := by
  simp only [freeE, Option.isSome_some, true_and]; rfl
@[go_sem] theorem fop_assign (x : Operand) : freeE X all objs (⟨some d, .assign x, ty, pos, aft, none⟩ :: os) ((p, ts) :: tab) i K cr st = freeP (some (ev X.C ⟨restr st ts, objs⟩ x)) p cr (some d) (freeE X all objs os tab (i + 1) K cr) st := by
  simp only [freeE, Option.isSome_some, true_and]; rfl
@[go_sem] theorem fop_pick (c a b : Operand) : freeE X all objs (⟨some d, .pick c a b, ty, pos, aft, none⟩ :: os) ((p, ts) :: tab) i K cr st = freeP (pickA (ev X.C ⟨restr st ts, objs⟩ c) (ev X.C ⟨restr st ts, objs⟩ a) (ev X.C ⟨restr st ts, objs⟩ b)) p cr (some d) (freeE X all objs os tab (i + 1) K cr) st := by
  simp only [freeE, Option.isSome_some, true_and]; rfl
@[go_sem] theorem fop_load (t : TypeId) (x : Operand) : freeE X all objs (⟨some d, .load t x, ty, pos, aft, none⟩ :: os) ((p, ts) :: tab) i K cr st = freeP (loadV X.C t (ev X.C ⟨restr st ts, objs⟩ x) objs) p cr (some d) (freeE X all objs os tab (i + 1) K cr) st := by
  simp only [freeE, Option.isSome_some, true_and]; rfl
@[go_sem] theorem fop_fieldAddr (t : TypeId) (x : Operand) (n : Nat) : freeE X all objs (⟨some d, .fieldAddr t x n, ty, pos, aft, none⟩ :: os) ((p, ts) :: tab) i K cr st = freeP ((match offOf X.C.P t n with
    | some off => fieldA off (ev X.C ⟨restr st ts, objs⟩ x)
    | none => none)) p cr (some d) (freeE X all objs os tab (i + 1) K cr) st := by
  simp only [freeE, Option.isSome_some, true_and]; rfl
@[go_sem] theorem fop_indexAddr (t : TypeId) (x y : Operand) : freeE X all objs (⟨some d, .indexAddr t x y, ty, pos, aft, none⟩ :: os) ((p, ts) :: tab) i K cr st = freeP (indexV X.C t (ev X.C ⟨restr st ts, objs⟩ x) (ev X.C ⟨restr st ts, objs⟩ y)) p cr (some d) (freeE X all objs os tab (i + 1) K cr) st := by
  simp only [freeE, Option.isSome_some, true_and]; rfl
@[go_sem] theorem fop_nilCheck (x : Operand) : freeE X all objs (⟨some d, .nilCheck x, ty, pos, aft, none⟩ :: os) ((p, ts) :: tab) i K cr st = freeP (nilA (ev X.C ⟨restr st ts, objs⟩ x)) p cr (some d) (freeE X all objs os tab (i + 1) K cr) st := by
  simp only [freeE, Option.isSome_some, true_and]; rfl
@[go_sem] theorem fop_binOp (op : BinOp) (t t2 : TypeId) (x y : Operand) : freeE X all objs (⟨some d, .binOp op t x y t2, ty, pos, aft, none⟩ :: os) ((p, ts) :: tab) i K cr st = freeP (binA X.C.P op t (ev X.C ⟨restr st ts, objs⟩ x) (ev X.C ⟨restr st ts, objs⟩ y)) p cr (some d) (freeE X all objs os tab (i + 1) K cr) st := by
  simp only [freeE, Option.isSome_some, true_and]; rfl
@[go_sem] theorem fop_unOp (op : UnOp) (t : TypeId) (x : Operand) : freeE X all objs (⟨some d, .unOp op t x, ty, pos, aft, none⟩ :: os) ((p, ts) :: tab) i K cr st = freeP (unA op (ev X.C ⟨restr st ts, objs⟩ x)) p cr (some d) (freeE X all objs os tab (i + 1) K cr) st := by
  simp only [freeE, Option.isSome_some, true_and]; rfl
@[go_sem] theorem fop_convert (s t : TypeId) (x : Operand) : freeE X all objs (⟨some d, .convert s t x, ty, pos, aft, none⟩ :: os) ((p, ts) :: tab) i K cr st = freeP (convP X.C.P s t (ev X.C ⟨restr st ts, objs⟩ x)) p cr (some d) (freeE X all objs os tab (i + 1) K cr) st := by
  simp only [freeE, Option.isSome_some, true_and]; rfl
@[go_sem] theorem fop_extract (x : Operand) (n : Nat) : freeE X all objs (⟨some d, .extract x n, ty, pos, aft, none⟩ :: os) ((p, ts) :: tab) i K cr st = freeP (extractA n (ev X.C ⟨restr st ts, objs⟩ x)) p cr (some d) (freeE X all objs os tab (i + 1) K cr) st := by
  simp only [freeE, Option.isSome_some, true_and]; rfl
@[go_sem] theorem fop_field (t : TypeId) (x : Operand) (n : Nat) : freeE X all objs (⟨some d, .field t x n, ty, pos, aft, none⟩ :: os) ((p, ts) :: tab) i K cr st = freeP (fieldV X.C.P t n (ev X.C ⟨restr st ts, objs⟩ x)) p cr (some d) (freeE X all objs os tab (i + 1) K cr) st := by
  simp only [freeE, Option.isSome_some, true_and]; rfl
@[go_sem] theorem fop_index (t : TypeId) (x y : Operand) : freeE X all objs (⟨some d, .index t x y, ty, pos, aft, none⟩ :: os) ((p, ts) :: tab) i K cr st = freeP (idxV X.C.P t (ev X.C ⟨restr st ts, objs⟩ y) (ev X.C ⟨restr st ts, objs⟩ x)) p cr (some d) (freeE X all objs os tab (i + 1) K cr) st := by
  simp only [freeE, Option.isSome_some, true_and]; rfl
@[go_sem] theorem fop_build (t : TypeId) (ps : Array (Nat × Operand)) : freeE X all objs (⟨some d, .build t ps, ty, pos, aft, none⟩ :: os) ((p, ts) :: tab) i K cr st = freeP (buildV X.C t (partsL X.C ⟨restr st ts, objs⟩ ps.toList)) p cr (some d) (freeE X all objs os tab (i + 1) K cr) st := by
  simp only [freeE, Option.isSome_some, true_and]; rfl
@[go_sem] theorem fop_slice (t : TypeId) (x : Operand) (lo hi mx : Option Operand) : freeE X all objs (⟨some d, .slice t x lo hi mx, ty, pos, aft, none⟩ :: os) ((p, ts) :: tab) i K cr st = freeP ((if isOwnSl (ev X.C ⟨restr st ts, objs⟩ x) && mx.isSome then (cutA X.C ⟨restr st ts, objs⟩ t (ev X.C ⟨restr st ts, objs⟩ x) lo hi mx).map (·.1) else (sliceOp X.C ⟨restr st ts, objs⟩ t (ev X.C ⟨restr st ts, objs⟩ x) lo hi mx).map (·.1))) p cr (some d) (freeE X all objs os tab (i + 1) K cr) st := by
  simp only [freeE, Option.isSome_some, true_and]; rfl
@[go_sem] theorem fop_makeFunc (f : Nat) (caps : Array Operand) : freeE X all objs (⟨some d, .makeFunc (.func f) #[] caps, ty, pos, aft, none⟩ :: os) ((p, ts) :: tab) i K cr st = freeP (some (.fn f (evs X.C ⟨restr st ts, objs⟩ caps.toList))) p cr (some d) (freeE X all objs os tab (i + 1) K cr) st := by
  simp only [freeE, Option.isSome_some, true_and]; rfl
@[go_sem] theorem fop_makeInterface (t : TypeId) (x : Operand) : freeE X all objs (⟨some d, .makeInterface t x, ty, pos, aft, none⟩ :: os) ((p, ts) :: tab) i K cr st = freeP ((if X.C.P.concrete t then some (.ifc t (ev X.C ⟨restr st ts, objs⟩ x)) else none)) p cr (some d) (freeE X all objs os tab (i + 1) K cr) st := by
  simp only [freeE, Option.isSome_some, true_and]; rfl
@[go_sem] theorem fop_len (x : Operand) (t : TypeId) : freeE X all objs (⟨some d, .call ⟨.builtin .len, #[x], #[t]⟩, ty, pos, aft, none⟩ :: os) ((p, ts) :: tab) i K cr st = freeP ((if lenOk X.C.P t (ev X.C ⟨restr st ts, objs⟩ x) = true then lenA (ev X.C ⟨restr st ts, objs⟩ x) else none)) p cr (some d) (freeE X all objs os tab (i + 1) K cr) st := by
  simp only [freeE, Option.isSome_some, true_and]; rfl
@[go_sem] theorem fop_append (x y : Operand) (t t2 : TypeId) : freeE X all objs (⟨some d, .call ⟨.builtin .append, #[x, y], #[t, t2]⟩, ty, pos, aft, none⟩ :: os) ((p, ts) :: tab) i K cr st = freeP ((appFull X.C.P t t2 (ev X.C ⟨restr st ts, objs⟩ x) (ev X.C ⟨restr st ts, objs⟩ y))) p cr (some d) (freeE X all objs os tab (i + 1) K cr) st := by
  simp only [freeE, Option.isSome_some, true_and]; rfl
@[go_sem] theorem fop_buildSlice (t : TypeId) (len : Nat) (ps : Array (Nat × Operand)) : freeE X all objs (⟨some d, .buildSlice t len ps, ty, pos, aft, none⟩ :: os) ((p, ts) :: tab) i K cr st = freeP (litF X.C.P t len (partsL X.C ⟨restr st ts, objs⟩ ps.toList)) p cr (some d) (freeE X all objs os tab (i + 1) K cr) st := by
  simp only [freeE, Option.isSome_some, true_and, freeDo, partsL_eq]
@[go_sem] theorem fop_max (x y : Operand) (tys : Array TypeId) : freeE X all objs (⟨some d, .call ⟨.builtin .max, #[x, y], tys⟩, ty, pos, aft, none⟩ :: os) ((p, ts) :: tab) i K cr st = freeP (maxA (ev X.C ⟨restr st ts, objs⟩ x) (ev X.C ⟨restr st ts, objs⟩ y)) p cr (some d) (freeE X all objs os tab (i + 1) K cr) st := by
  simp only [freeE, Option.isSome_some, true_and]; rfl
@[go_sem] theorem fop_min (x y : Operand) (tys : Array TypeId) : freeE X all objs (⟨some d, .call ⟨.builtin .min, #[x, y], tys⟩, ty, pos, aft, none⟩ :: os) ((p, ts) :: tab) i K cr st = freeP (minA (ev X.C ⟨restr st ts, objs⟩ x) (ev X.C ⟨restr st ts, objs⟩ y)) p cr (some d) (freeE X all objs os tab (i + 1) K cr) st := by
  simp only [freeE, Option.isSome_some, true_and]; rfl
end
attribute [go_sem] isOwnSl appFull litF litFull
end Go.Abs
namespace Go.Abs
open Go Go.ChangeShapes Go.WideShapes Go.RowKit
mutual
def wgt {H : Type} : DataW H → Nat
  | .lit (.string b) => b.length + 1
  | .lit _ => 1
  | .nil => 1
  | .ptr d => wgt d + 1
  | .slice a b => wgtL a + wgtL b + 1
  | .agg a => wgtL a + 1
  | .iface _ d => wgt d + 1
  | .map _ => 1
  | .held _ => 1
def wgtL {H : Type} : List (DataW H) → Nat
  | [] => 0
  | d :: r => wgt d + wgtL r
end
theorem prc_of_l {ro : Nat → Prop} {w : World} {ad : Addr} : ∀ {xs : List AV} {us : List Value} {j : Nat}, PRl ro w xs us → (∀ k, k < us.length → w.cell? (ad.add (j + k)) = us[k]?) → PRc ro w xs ad j
  | [], [], _, _, _ => by simp [PRc]
  | x :: xs, u :: us, j, h, hc => by
    simp only [PRc]
    refine ⟨⟨u, by simpa using hc 0 (by simp), h.1⟩, prc_of_l h.2 fun k hk => ?_⟩
    have := hc (k + 1) (by simp; omega)
    rw [show j + 1 + k = j + (k + 1) by omega]
    simpa using this
  | [], _ :: _, _, h, _ => False.elim h
  | _ :: _, [], _, h, _ => False.elim h
def Cod (P : Program) (t : TypeId) {α : Type} (e : α → List AV) (m : α → Nat) (Q : α → Prop) : Prop :=
  ∀ (H : Type) (enc : TypeId × Value → H) (w : World) (fuel : Nat) (cs : List Value) (x : DataW H × List MemPlace), DataW.trod enc P w 0 (fun _ => true) true fuel t cs = some x →
    ∃ a, Q a ∧ m a ≤ wgt x.1 ∧ PRl (fun b => b < w.heap.size) w (e a) cs
variable {P : Program} {t : TypeId}
theorem cod_int {k : IntKind} (ht : P.underlying t = some (.int k)) : Cod P t (fun n : Int => [.v (.int k n)]) (fun _ => 1) (fun n => (Lit.int k n).wf = true) := by
  intro H enc w fuel cs x h
  obtain ⟨n, rfl, rfl, hw⟩ := DataW.trod_int ht h
  exact ⟨n, hw, by simp [wgt], ⟨rfl, by simp [Value.oneCell']⟩, trivial⟩
theorem cod_u8 (ht : P.underlying t = some (.int .u8)) : Cod P t (fun n : UInt8 => [.v (.int .u8 n.toNat)]) (fun _ => 1) (fun _ => True) := by
  intro H enc w fuel cs x h
  obtain ⟨n, hw, hm, hp⟩ := cod_int ht H enc w fuel cs x h
  simp [Lit.wf, IntKind.min, IntKind.max, IntKind.signed, IntKind.bits] at hw
  refine ⟨UInt8.ofNat n.toNat, trivial, hm, ?_⟩
  have : ((UInt8.ofNat n.toNat).toNat : Int) = n := by
    simp; omega
  show PRl _ w [.v (.int .u8 _)] cs
  rw [this]
  exact hp
theorem cod_bool (ht : P.underlying t = some .bool) : Cod P t (fun n : Bool => [.v (.bool n)]) (fun _ => 1) (fun _ => True) := by
  intro H enc w fuel cs x h
  obtain ⟨n, rfl, rfl⟩ := DataW.trod_bool ht h
  exact ⟨n, trivial, by simp [wgt], ⟨rfl, by simp [Value.oneCell']⟩, trivial⟩
theorem cod_string (ht : P.underlying t = some .string) : Cod P t (fun s : ByteArray => [.v (.string s)]) (fun s => s.size + 1) (fun s => s.size ≤ maxLen) := by
  intro H enc w fuel cs x h
  obtain ⟨s, rfl, rfl, hs⟩ := DataW.trod_string ht h
  exact ⟨s, hs, by simp only [wgt, Array.length_toList]; exact Nat.le_refl _, ⟨rfl, by simp [Value.oneCell']⟩, trivial⟩
theorem addr_add (a : Addr) (i j : Nat) : (a.add i).add j = a.add (i + j) := Addr.add_add a i j
theorem pre_of_elems {ro : Nat → Prop} {w : World} {ad : Addr} {n : Nat} {α : Type} {e : α → List AV} :
    ∀ {xs : List α} {i : Nat}, (∀ k x, xs[k]? = some x → ∃ cs, w.cells? 0 (ad.add ((i + k) * n)) n = some cs ∧ PRl ro w (e x) cs) → PRe ro w (xs.map e) ad n i
  | [], _, _ => by simp [PRe]
  | x :: xs, i, h => by
    simp only [List.map_cons, PRe]
    obtain ⟨cs, hcs, hp⟩ := h 0 x rfl
    obtain ⟨_, hl, hc⟩ := World.cells?_some hcs
    refine ⟨hp.length.trans hl, prc_of_l hp fun k hk => ?_, pre_of_elems fun k y hy => ?_⟩
    · rw [← addr_add]
      exact hc k (by omega)
    · have := h (k + 1) y (by simpa using hy)
      rwa [show i + 1 + k = i + (k + 1) by omega]
theorem wgtL_get {H : Type} : ∀ {ds : List (DataW H)} {α : Type} {m : α → Nat} {xs : List α}, xs.length = ds.length → (∀ (k : Nat) (x : α) (d : DataW H), xs[k]? = some x → ds[k]? = some d → m x ≤ wgt d) → (xs.map m).sum ≤ wgtL ds
  | [], _, _, [], _, _ => by simp
  | d :: ds, α, m, x :: xs, hl, h => by
    simp only [List.map_cons, List.sum_cons, wgtL]
    have h0 := h 0 x d rfl rfl
    have := wgtL_get (m := m) (xs := xs) (ds := ds) (by simpa using hl) fun k y d hy hd => h (k + 1) y d (by simpa using hy) (by simpa using hd)
    omega
  | [], _, _, _ :: _, hl, _ => by simp at hl
  | _ :: _, _, _, [], hl, _ => by simp at hl
theorem pick {α β : Type} {q : Nat → β → Prop} {R : Nat → α → β → Prop} : ∀ (n : Nat) (l : List β), l.length = n → (∀ i y, l[i]? = some y → ∃ x, R i x y) → ∃ xs : List α, xs.length = n ∧ ∀ i x y, xs[i]? = some x → l[i]? = some y → R i x y := by
  intro n
  induction n generalizing R with
  | zero => intro l hl h; exact ⟨[], rfl, fun i x y hx => by simp at hx⟩
  | succ n ih =>
    intro l hl h
    cases l with
    | nil => simp at hl
    | cons y l =>
      obtain ⟨x, hx⟩ := h 0 y rfl
      obtain ⟨xs, hxl, hxs⟩ := ih (R := fun i => R (i + 1)) l (by simpa using hl) fun i y hy => h (i + 1) y (by simpa using hy)
      refine ⟨x :: xs, by simp [hxl], fun i a b ha hb => ?_⟩
      cases i with
      | zero => simp at ha hb; subst ha; subst hb; exact hx
      | succ i => exact hxs i a b (by simpa using ha) (by simpa using hb)
theorem cod_slice {el : TypeId} {α : Type} {e : α → List AV} {m : α → Nat} {Q : α → Prop} {n : Nat} (he : Cod P el e m Q) (ht : P.underlying t = some (.slice el)) (hc : P.cellsOf el = n) (hn : 0 < n) :
    Cod P t (fun xs : List α => [.sl .no n (xs.map e)]) (fun xs => (xs.map m).sum + 1) (fun xs => ∀ x ∈ xs, Q x) := by
  intro H enc w fuel cs x h
  rcases DataW.trod_slice ht h with ⟨rfl, rfl⟩ | ⟨a, len, cap, elems, rest, k, rfl, rfl, rfl, _, hl, hm, hlen, hel, _, _⟩
  · refine ⟨[], by simp, by simp [wgt], ?_, trivial⟩
    simp only [List.map_nil, PR]
    exact ⟨by simp, none, 0, rfl, by simp, by simp, by simp, hn, Or.inl trivial⟩
  · subst hlen
    obtain ⟨xs, hxl, hxs⟩ := pick (α := α) (q := fun _ _ => True) (R := fun i x y => Q x ∧ m x ≤ wgt y.1 ∧ ∃ cs, w.cells? 0 (a.add (i * n)) n = some cs ∧ PRl (fun b => b < w.heap.size) w (e x) cs) elems.length elems rfl (by
      intro i y hy
      have hi : i < elems.length := by
        rcases Nat.lt_or_ge i elems.length with h | h
        · exact h
        · rw [List.getElem?_eq_none h] at hy; cases hy
      have := hel i hi
      rw [hy, hc, Option.bind_eq_some_iff] at this
      obtain ⟨cs, h1, h2⟩ := this
      obtain ⟨x, q1, q2, q3⟩ := he H enc w k cs y h2
      exact ⟨x, q1, q2, cs, h1, q3⟩)
    have hget : ∀ i x, xs[i]? = some x → ∃ y, elems[i]? = some y := fun i x hx => by
      have : i < elems.length := by
        rcases Nat.lt_or_ge i xs.length with h | h
        · omega
        · rw [List.getElem?_eq_none h] at hx; cases hx
      exact ⟨_, List.getElem?_eq_getElem this⟩
    refine ⟨xs, fun x hx => ?_, ?_, ?_, trivial⟩
    · obtain ⟨i, hi⟩ := List.mem_iff_getElem?.1 hx
      obtain ⟨y, hy⟩ := hget i x hi
      exact (hxs i x y hi hy).1
    · simp only [wgt]
      have := wgtL_get (m := m) (xs := xs) (ds := elems.map (·.1)) (by simp [hxl]) fun i x d hx hd => by
        obtain ⟨y, hy⟩ := hget i x hx
        simp only [List.getElem?_map, hy, Option.map_some, Option.some.injEq] at hd
        subst hd
        exact (hxs i x y hx hy).2.1
      omega
    · simp only [PR]
      refine ⟨by simp, some a, cap, by simp [hxl], by simp [hxl, hl], hm, by simp, hn, ?_⟩
      cases xs with
      | nil => exact Or.inl rfl
      | cons x xs =>
        refine Or.inr ⟨a, rfl, ?_, pre_of_elems fun i x hx => ?_⟩
        · obtain ⟨y, hy⟩ := hget 0 x rfl
          obtain ⟨_, _, cs, h1, _⟩ := hxs 0 x y rfl hy
          obtain ⟨_, hl, hcell⟩ := World.cells?_some h1
          have h0 := hcell 0 hn
          cases cs with
          | nil => simp at hl; omega
          | cons c cs => exact (show (a.add (0 * n + 0)).block = a.block by simp [Addr.add]) ▸ lt_of_cell (by rw [addr_add] at h0; simpa using h0)
        · obtain ⟨y, hy⟩ := hget i x hx
          obtain ⟨_, _, cs, h1, h2⟩ := hxs i x y hx hy
          exact ⟨cs, by simpa using h1, h2⟩
theorem cod_map {α β : Type} {e : α → List AV} {e' : β → List AV} {m : α → Nat} {m' : β → Nat} {Q : α → Prop} {Q' : β → Prop} (h : Cod P t e m Q) (hf : ∀ a, Q a → ∃ b, Q' b ∧ m' b ≤ m a ∧ e' b = e a) : Cod P t e' m' Q' := by
  intro H enc w fuel cs x hx
  obtain ⟨a, q1, q2, q3⟩ := h H enc w fuel cs x hx
  obtain ⟨b, h1, h2, h3⟩ := hf a q1
  exact ⟨b, h1, Nat.le_trans h2 q2, h3 ▸ q3⟩
def gh0 (w : World) : Gh := ⟨fun b => if b < w.heap.size then .ro else .other, fun _ => w.heap.size, fun _ => w.heap.size⟩
theorem isRo_gh0 (w : World) : isRo (gh0 w) = fun b => b < w.heap.size := by
  funext b
  simp only [isRo, gh0]
  split <;> simp_all
def Arg (P : Program) (t : TypeId) {α : Type} (e : α → AV) (m : α → Nat) (Q : α → Prop) : Prop :=
  ∀ (H : Type) (enc : TypeId × Value → H) (w : World) (base : Nat) (v : Value) (d : DataW H) (ps : List MemPlace), Value.okWide P w .any base t v → DataW.Trod enc P w 0 (fun _ => true) true t v d ps →
    ∃ a, Q a ∧ m a ≤ wgt d ∧ VR (gh0 w) w (e a) v
theorem arg_int {k : IntKind} (ht : P.underlying t = some (.int k)) : Arg P t (fun n : Int => .v (.int k n)) (fun _ => 1) (fun n => (Lit.int k n).wf = true) := by
  intro H enc w base v d ps hv hd
  obtain ⟨n, rfl⟩ := okWide_int ht hv
  obtain ⟨fuel, hf⟩ := hd
  obtain ⟨a, h, hm, hp⟩ := cod_int ht H enc w fuel _ _ hf
  simp [PRl, PR, Value.cells] at hp
  obtain ⟨rfl, _⟩ := hp
  exact ⟨n, h, hm, by simp [VR]⟩
theorem arg_bool (ht : P.underlying t = some .bool) : Arg P t (fun n : Bool => .v (.bool n)) (fun _ => 1) (fun _ => True) := by
  intro H enc w base v d ps hv hd
  obtain ⟨n, rfl⟩ := okWide_bool ht hv
  obtain ⟨fuel, hf⟩ := hd
  obtain ⟨a, _, hm, hp⟩ := cod_bool ht H enc w fuel _ _ hf
  simp [PRl, PR, Value.cells] at hp
  exact ⟨n, trivial, hm, by simp [VR]⟩
theorem arg_string (ht : P.underlying t = some .string) : Arg P t (fun s : ByteArray => .v (.string s)) (fun s => s.size + 1) (fun s => s.size ≤ maxLen) := by
  intro H enc w base v d ps hv hd
  obtain ⟨s, rfl⟩ := okWide_string ht hv
  obtain ⟨fuel, hf⟩ := hd
  obtain ⟨a, h, hm, hp⟩ := cod_string ht H enc w fuel _ _ hf
  simp [PRl, PR, Value.cells] at hp
  obtain ⟨rfl, _⟩ := hp
  exact ⟨s, h, hm, by simp [VR]⟩
theorem arg_slice {el : TypeId} {α : Type} {e : α → List AV} {m : α → Nat} {Q : α → Prop} {n : Nat} (he : Cod P el e m Q) (ht : P.underlying t = some (.slice el)) (hc : P.cellsOf el = n) (hn : 0 < n) :
    Arg P t (fun xs : List α => .sl .no n (xs.map e)) (fun xs => (xs.map m).sum + 1) (fun xs => ∀ x ∈ xs, Q x) := by
  intro H enc w base v d ps hv hd
  obtain ⟨a, len, cap, rfl⟩ := okWide_slice ht hv
  obtain ⟨fuel, hf⟩ := hd
  obtain ⟨xs, h, hm, hp⟩ := cod_slice he ht hc hn H enc w fuel _ _ hf
  simp only [PRl, Value.cells] at hp
  refine ⟨xs, h, hm, ?_⟩
  simp only [VR, isRo_gh0]
  exact hp.1
theorem Arg.map {α β : Type} {e : α → AV} {e' : β → AV} {m : α → Nat} {m' : β → Nat} {Q : α → Prop} {Q' : β → Prop} (h : Arg P t e m Q) (hf : ∀ a, Q a → ∃ b, Q' b ∧ m' b ≤ m a ∧ e' b = e a) : Arg P t e' m' Q' := by
  intro H enc w base v d ps hv hd
  obtain ⟨a, q1, q2, q3⟩ := h H enc w base v d ps hv hd
  obtain ⟨b, h1, h2, h3⟩ := hf a q1
  exact ⟨b, h1, Nat.le_trans h2 q2, h3 ▸ q3⟩
def Args (P : Program) : List TypeId → {α : Type} → (α → List AV) → (α → Nat) → (α → Prop) → Prop
  | ts, α, e, m, Q => ∀ (H : Type) (enc : TypeId × Value → H) (w : World) (base : Nat) (vs : List Value) (ds : List (DataW H)) (ps : List MemPlace),
    (∀ (j : Nat) t v, ts[j]? = some t → vs[j]? = some v → Value.okWide P w .any base t v) → DataW.TrodAll enc P w 0 (fun _ => true) true ts vs ds ps →
    ∃ a : α, Q a ∧ m a ≤ wgtL ds ∧ VRs (gh0 w) w (e a) vs
theorem args_nil : Args P [] (fun _ : Unit => []) (fun _ => 0) (fun _ => True) := by
  intro H enc w base vs ds ps hv h
  obtain ⟨rfl, rfl, rfl⟩ := trodAll_nil h
  exact ⟨(), trivial, by simp, by simp [VRs]⟩
theorem args_cons {ts : List TypeId} {α β : Type} {e : α → AV} {m : α → Nat} {Q : α → Prop} {e' : β → List AV} {m' : β → Nat} {Q' : β → Prop} (h : Arg P t e m Q) (hs : Args P ts e' m' Q') :
    Args P (t :: ts) (fun x : α × β => e x.1 :: e' x.2) (fun x => m x.1 + m' x.2) (fun x => Q x.1 ∧ Q' x.2) := by
  intro H enc w base vs ds ps hv hd
  obtain ⟨v, vs, d, ds, p, q, rfl, rfl, rfl, h1, h2⟩ := trodAll_cons hd
  obtain ⟨a, a1, a2, a3⟩ := h H enc w base v d p (hv 0 t v rfl rfl) h1
  obtain ⟨b, b1, b2, b3⟩ := hs H enc w base vs ds q (fun j t v hj hjv => hv (j + 1) t v (by simpa using hj) (by simpa using hjv)) h2
  exact ⟨(a, b), ⟨a1, b1⟩, by simp only [wgtL]; omega, by simp only [VRs]; exact ⟨a3, b3⟩⟩
theorem trodAll_stays {H : Type} {enc : TypeId × Value → H} (hl : laidOutB P = true) {W W' : World} {sp' : Nat → Bool} : ∀ {ts : List TypeId} {vs : List Value} {ds : List (DataW H)} {ps : List MemPlace},
    (∀ t ∈ ts, P.readableRec t = true ∧ t < P.types.size) → DataW.TrodAll enc P W 0 (fun _ => true) true ts vs ds ps → (∀ p ∈ ps, W.sameAt W' p) → (∀ p ∈ ps, sp' p.block = true) → DataW.TrodAll enc P W' 0 sp' true ts vs ds ps
  | [], vs, ds, ps, _, h, _, _ => by
    obtain ⟨rfl, rfl, rfl⟩ := trodAll_nil h
    exact trodAll_mk0
  | t :: ts, vs, ds, ps, hr, h, hs, hsp => by
    obtain ⟨v, vs, d, ds, p, q, rfl, rfl, rfl, h1, h2⟩ := trodAll_cons h
    exact ⟨p, q, WideElems.Trod_stays hl (hr t (by simp)).1 (hr t (by simp)).2 h1 (fun x hx => hs x (by simp [hx])) (fun x hx => hsp x (by simp [hx])),
      trodAll_stays hl (fun t ht => hr t (by simp [ht])) h2 (fun x hx => hs x (by simp [hx])) (fun x hx => hsp x (by simp [hx])), rfl⟩
theorem below_post {H : Type} {enc : TypeId × Value → H} {f : Func} {s : ChangeSpec} {apart fresh handsOn again : Bool} {W W' : World} {args : Array Value} {v : Value} {ds gs : List (DataW H)} {before pa pv : List MemPlace}
    (hW : DataW.Whole enc P f.params.toList s.vars apart W args.toList ds gs before)
    (hres : ∀ (b : Nat) (sp : Nat → Bool) (hd : Bool), DataW.TrodAll enc P W' b sp hd f.resultTypes.toList (v.resultList f.resultTypes.size) (s.fn H (ds ++ gs)).results [])
    (hargs : ∀ sp : Nat → Bool, (∀ p ∈ before, sp p.block = true) → DataW.TrodAll enc P W' 0 sp true f.params.toList args.toList (s.fn H (ds ++ gs)).args pa)
    (hvars : ∀ sp : Nat → Bool, (∀ p ∈ before, sp p.block = true) → DataW.TrodVars enc P W' sp s.vars (s.fn H (ds ++ gs)).vars pv)
    (hps : before = pa ++ pv) (hb : Below W.heap.size W W')
    (hok : ∀ (j : Nat) (t : TypeId) (r : Value), f.resultTypes[j]? = some t → (v.resultList f.resultTypes.size)[j]? = some r → Value.okWide P W' .any 0 t r) :
    s.post enc P f apart fresh handsOn again W args v W' := by
  have hlt : ∀ p ∈ before, p.block < W.heap.size := fun p hp => hW.lt p hp
  have hold : ∀ p ∈ before, (fun b => decide (b < W.heap.size)) p.block = true := fun p hp => by simpa using hlt p hp
  refine ⟨ds, gs, before, [], pa, pv, hW, hres _ _ _, hargs _ hold, hvars _ hold, World.keptBut_mono (fun p hp => ⟨hp, ?_⟩) (hb.frame (· ∈ before)), fun _ => ?_⟩
  · rw [hps, List.mem_append] at hp
    exact Or.inr hp
  · obtain ⟨_, _, _, _, _, hz, hn⟩ := hW
    refine ⟨hok, _, _, ([] ++ pa) ++ pv, ⟨[] ++ pa, pv, trodAll_append (hargs _ (fun _ _ => rfl)) (hres _ _ _), hvars _ (fun _ _ => rfl), rfl, ?_, ?_⟩, ?_⟩
    · intro b off hp
      have hin : MemPlace.cell b off ∈ before := by rw [hps]; simpa using hp
      rw [hb.frozen (hlt _ hin)]
      exact hz b off hin
    · intro ha
      have := hn ha
      rw [hps] at this
      simpa using this
    · intro p hp _
      rw [hps]
      simpa using hp
theorem law_true {C : Ctx} (hC : C.G = fun _ => none) {f : Nat} {fn : Func} {s : ChangeSpec} (hs : s.vars = []) {apart fresh handsOn again : Bool} {α : Type} {e : α → List AV} {m : α → Nat} {Q : α → Prop} {tb : TypeId} {ts : List TypeId}
    (hp : fn.params.toList = ts) (ha : Args C.P ts e m Q) (hl : laidOutB C.P = true) (hr : (ts.all fun t => C.P.readableRec t && decide (t < C.P.types.size)) = true) (hres : fn.resultTypes = #[tb]) (htb : C.P.underlying tb = some .bool)
    {H : Type} (enc : TypeId × Value → H) (W : World) (base : Nat) (args : Array Value) (ds gs : List (DataW H)) (before : List MemPlace)
    (hval : ∀ (j : Nat) t v, fn.params[j]? = some t → args[j]? = some v → Value.okWide C.P W .any base t v)
    (hW : DataW.Whole enc C.P fn.params.toList s.vars apart W args.toList ds gs before)
    (hfn : ∀ ds : List (DataW H), ds.length = ts.length → (s.fn H ds).results = [.lit (.bool true)] ∧ (s.fn H ds).args = ds ∧ (s.fn H ds).vars = [])
    (hok : ∀ a, Q a → m a ≤ wgtL ds → FnOK C f (e a) [] (.v (.bool true)) []) :
    Calls C.P f args W fun r W' => ∃ v, r = .returned v ∧ s.post enc C.P fn apart fresh handsOn again W args v W' := by
  replace hr : ∀ t ∈ ts, C.P.readableRec t = true ∧ t < C.P.types.size := by simpa using hr
  have hW' := hW
  obtain ⟨p, q, hA, hV, rfl, hfz, hnd⟩ := hW
  rw [hs] at hV
  obtain ⟨rfl, rfl⟩ := trodVars_none hV
  rw [hp] at hA
  obtain ⟨a, q1, q2, q3⟩ := ha H enc W base args.toList ds p (fun j t v hj hv => hval j t v (by rw [← Array.getElem?_toList, hp]; exact hj) (by simpa using hv)) hA
  have hlen : ∀ {ts : List TypeId} {vs : List Value} {ds : List (DataW H)} {ps : List MemPlace}, DataW.TrodAll enc C.P W 0 (fun _ => true) true ts vs ds ps → ds.length = ts.length := by
    intro ts
    induction ts with
    | nil => intro vs ds ps h; obtain ⟨_, rfl, _⟩ := trodAll_nil h; rfl
    | cons t ts ih =>
      intro vs ds ps h
      obtain ⟨v, vs, d, ds, p, q, rfl, rfl, rfl, h1, h2⟩ := trodAll_cons h
      simp [ih h2]
  obtain ⟨hf1, hf2, hf3⟩ := hfn ds (hlen hA)
  have key := (hok a q1 q2).2 (gh0 W) W args.toList (fun i cs h => by rw [hC] at h; cases h) q3 (fun s cs h => by cases h)
  rw [show args.toList.toArray = args by simp] at key
  refine key.mono fun r W' ⟨u, g', hr1, hF, hy, _⟩ => ?_
  subst hr1
  simp only [VR] at hy
  subst hy
  have hb : Below W.heap.size W W' := ⟨hF.os, hF.tape.1, hF.output, hF.size, fun k hk => (hF.keep k hk (Or.inl (by show (gh0 W).own k = .ro; simp [gh0, hk]))).1⟩
  have hlt : ∀ x ∈ p ++ ([] : List MemPlace), x.block < W.heap.size := fun x hx => hW'.lt x hx
  refine ⟨_, rfl, below_post (pa := p) (pv := []) hW' (fun b sp hd => ?_) (fun sp hsp => ?_) (fun _ _ => ?_) rfl hb (ok_one hres rfl (okWide_bool_mk htb _))⟩
  · simp only [List.append_nil, hf1]
    rw [hres]
    exact trodAll_mk1 (shut_bool htb _)
  · simp only [List.append_nil, hf2]
    rw [hp]
    exact trodAll_stays hl hr hA (fun x hx => hb.same (hlt x (by simpa using hx))) (fun x hx => hsp x (by simpa using hx))
  · simp only [List.append_nil, hf3]
    rw [hs]
    rfl
end Go.Abs
namespace Go.Abs
inductive OT where
  | done
  | pick (l : List (Nat × OT))
mutual
def okT (ops : Array Oper) (dn : List Nat) : OT → Bool
  | .done => (List.range ops.size).all fun i => dn.contains i
  | .pick l => (List.range ops.size).any (fun i => !dn.contains i && (edgesOf ops i).all fun e => dn.contains e) && (List.range ops.size).all (fun i => dn.contains i || !((edgesOf ops i).all fun e => dn.contains e) || (keysT l).contains i) && okTs ops dn l
def okTs (ops : Array Oper) (dn : List Nat) : List (Nat × OT) → Bool
  | [] => true
  | (i, t) :: l => okT ops (i :: dn) t && okTs ops dn l
def keysT : List (Nat × OT) → List Nat
  | [] => []
  | (i, _) :: l => i :: keysT l
end
def opAt (ops : Array Oper) (i : Nat) : List Oper := match ops[i]? with
  | some o => [o]
  | none => []
mutual
def wpT (X : Env) (ops : Array Oper) (K : St → Prop) : OT → St → Prop
  | .done => K
  | .pick l => wpTs X ops K l
def wpTs (X : Env) (ops : Array Oper) (K : St → Prop) : List (Nat × OT) → St → Prop
  | [] => fun _ => True
  | (i, t) :: l => fun st => opsA X ops (opAt ops i) (wpT X ops K t) st ∧ wpTs X ops K l st
end
section
variable {X : Env} {A : A0} {N : Nat} {ops : Array Oper}
def RegN (N : Nat) (ops : Array Oper) : Prop := (∀ o ∈ ops, opOK N o = true) ∧ ∀ i, i < ops.size → ∀ e ∈ edgesOf ops i, e < ops.size
theorem edge_lt (h : RegN N ops) {i : Nat} (e : Nat) (he : e ∈ edgesOf ops i) (hi : i < ops.size) : e < ops.size := h.2 i hi e he
theorem op_sound (hA : A.ext = X.ext) (hX : ∀ s ∈ X.ext, s % 32 = 31) {Q : Exit → Act → World → Prop} {K : St → Prop} {K' : Act → World → Prop} {i : Nat} {o : Oper} (ho : ops[i]? = some o) (hk : ∀ g' st' a' w', R X.C A N g' st' a' w' → K st' → K' a' w')
    {g : Gh} {st : St} {a : Act} {w : World} (hd : opOK N o = true) (h : operA X ops o K st) (hR : R X.C A N g st a w) : wpOp X.C.P ops Q i K' a w := by
  unfold wpOp
  simp only [ho]
  unfold operA at h
  split at h
  · rename_i hg
    have : Region.wanted o (yielded ops a.tmps) = true := by simp [Region.wanted, hg]
    simp only [this, if_true]
    exact .inl (doA_sound hA hX hd h hR hk)
  · rename_i j b hg
    split at h
    · rename_i b' hb
      have hy := guard_spec hR hb
      by_cases he : b' = b
      · have : Region.wanted o (yielded ops a.tmps) = true := by simp [Region.wanted, hg, hy, he]
        simp only [this, if_true]
        have h1 := h.1 he
        subst he
        rw [learn_same hb] at h1
        exact .inl (doA_sound hA hX hd h1 hR hk)
      · have : Region.wanted o (yielded ops a.tmps) = false := by simp [Region.wanted, hg, hy, he]
        simp only [this, Bool.false_eq_true, if_false]
        have hd' : ∀ k, o.dst = some k → k < N := fun k hk => by simp [opOK, hk] at hd; exact hd
        have h1 := h.2 he
        have hbb : (!b) = b' := by cases b <;> cases b' <;> first | rfl | exact absurd rfl he
        rw [hbb, learn_same hb] at h1
        exact hk g _ _ w (hR.put hd' VR_off) h1
    · rename_i hb
      have hy := guard_off hR hb
      have : Region.wanted o (yielded ops a.tmps) = false := by simp [Region.wanted, hg, hy]
      simp only [this, Bool.false_eq_true, if_false]
      have hd' : ∀ k, o.dst = some k → k < N := fun k hk => by simp [opOK, hk] at hd; exact hd
      exact hk g _ _ w (hR.put hd' VR_off) h
    · cases h
mutual
theorem allT_sound (hA : A.ext = X.ext) (hX : ∀ s ∈ X.ext, s % 32 = 31) (hN : RegN N ops) {Q : Exit → Act → World → Prop} {K : St → Prop} (hQ : ∀ g st a w, R X.C A N g st a w → K st → Q .normal a w) :
    ∀ (t : OT) (fuel : Nat) (dn : List Nat) (listed : Array Bool) (g : Gh) (st : St) (a : Act) (w : World), listed.size = ops.size → unl listed ≤ fuel → (∀ j, j < ops.size → dOf listed j = dn.contains j) → okT ops dn t = true → wpT X ops K t st → R X.C A N g st a w →
      wpAny X.C.P .any ops Q fuel listed a w
  | .done, fuel, dn, listed, g, st, a, w, hs, hu, hd, hok, h, hR => by
    simp only [okT, List.all_eq_true, List.mem_range] at hok
    have h0 : Region.ready .any ops listed = [] := by
      cases hrd : Region.ready .any ops listed with
      | nil => rfl
      | cons j l =>
        have hj : j ∈ Region.ready .any ops listed := by rw [hrd]; simp
        have := (ready_iff hs).1 hj
        rw [hd j this.1, hok j this.1] at this
        simp at this
    simp only [wpT] at h
    cases fuel with
    | zero => exact ⟨h0, hQ g st a w hR h⟩
    | succ fuel => exact ⟨fun _ => hQ g st a w hR h, fun j hj => by rw [h0] at hj; cases hj⟩
  | .pick l, fuel, dn, listed, g, st, a, w, hs, hu, hd, hok, h, hR => by
    simp only [okT, Bool.and_eq_true, List.all_eq_true, List.any_eq_true, List.mem_range] at hok
    obtain ⟨⟨⟨i, hi, hi1, hi2⟩, hok1⟩, hok2⟩ := hok
    simp only [wpT] at h
    have hmem : i ∈ Region.ready .any ops listed := (ready_iff hs).2 ⟨hi, by rw [hd i hi]; simpa using hi1, fun e he => by
      have h4 := hi2 e he
      have hlt := edge_lt hN e he hi
      rw [hd e hlt]; exact h4⟩
    have hkey : ∀ j ∈ Region.ready .any ops listed, j ∈ keysT l := fun j hj => by
      obtain ⟨h1, h2, h3⟩ := (ready_iff hs).1 hj
      have := hok1 j h1
      rw [hd j h1] at h2
      rw [h2] at this
      have he : (edgesOf ops j).all (fun e => dn.contains e) = true := List.all_eq_true.2 fun e he => by
        have h4 := h3 e he
        have hlt := edge_lt hN e he h1
        rw [hd e hlt] at h4; exact h4
      rw [he] at this
      simpa using this
    cases fuel with
    | zero =>
      obtain ⟨h1, h2, _⟩ := (ready_iff hs).1 hmem
      rw [unl_zero (by omega) (by omega : i < listed.size)] at h2
      cases h2
    | succ fuel =>
      refine ⟨fun h0 => (by rw [h0] at hmem; cases hmem), fun j hj => ?_⟩
      obtain ⟨h1, h2, _⟩ := (ready_iff hs).1 hj
      exact allTs_sound hA hX hN hQ l fuel dn listed g st a w hs (by have := unl_set (by omega : j < listed.size) h2; omega) hd hok2 h hR j h1 h2 (hkey j hj)
theorem allTs_sound (hA : A.ext = X.ext) (hX : ∀ s ∈ X.ext, s % 32 = 31) (hN : RegN N ops) {Q : Exit → Act → World → Prop} {K : St → Prop} (hQ : ∀ g st a w, R X.C A N g st a w → K st → Q .normal a w) :
    ∀ (l : List (Nat × OT)) (fuel : Nat) (dn : List Nat) (listed : Array Bool) (g : Gh) (st : St) (a : Act) (w : World), listed.size = ops.size → unl listed ≤ fuel + 1 → (∀ j, j < ops.size → dOf listed j = dn.contains j) → okTs ops dn l = true → wpTs X ops K l st → R X.C A N g st a w →
      ∀ j, j < ops.size → dOf listed j = false → j ∈ keysT l → wpOp X.C.P ops Q j (wpAny X.C.P .any ops Q fuel (listed.setIfInBounds j true)) a w
  | [], _, _, _, _, _, _, _, _, _, _, _, _, _, j, _, _, hm => by simp [keysT] at hm
  | (i, t) :: l, fuel, dn, listed, g, st, a, w, hs, hu, hd, hok, h, hR, j, hj, hnd, hm => by
    simp only [okTs, Bool.and_eq_true] at hok
    simp only [wpTs] at h
    by_cases hij : j = i
    · subst hij
      have ho : ops[j]? = some ops[j] := Array.getElem?_eq_getElem hj
      have h1 := h.1
      simp only [opAt, ho, opsA] at h1
      refine op_sound hA hX ho (fun g' st' a' w' hR' hK' => ?_) (hN.1 _ (Array.getElem_mem hj)) h1 hR
      refine allT_sound hA hX hN hQ t fuel (j :: dn) _ g' st' a' w' (by simp [hs]) (by have := unl_set (by omega : j < listed.size) hnd; omega) (fun q hq => ?_) hok.1 hK' hR'
      rw [dOf_set (by omega)]
      simp only [addD, List.contains_cons]
      by_cases hqj : q = j
      · subst hqj; simp
      · simp [hqj, hd q hq]
    · refine allTs_sound hA hX hN hQ l fuel dn listed g st a w hs hu hd hok.2 h.2 hR j hj hnd ?_
      simp only [keysT, List.mem_cons] at hm
      rcases hm with hm | hm
      · exact absurd hm hij
      · exact hm
end
end
def edgesOK (ops : Array Oper) : Bool := (List.range ops.size).all fun i => (edgesOf ops i).all fun e => decide (e < ops.size)
theorem draw_all {X : Env} {ops : Array Oper} {K : St → Prop} {st : St} (t : OT) (hm : X.C.P.follows .mixedOrders = true) (hok : (edgesOK ops && okT ops [] t) = true)
    (h : wpT X ops K t st) : drawA X ops K st := by
  intro A N g a w hA hN hX hR id Q hQ
  simp only [Bool.and_eq_true] at hok
  refine wp_region_any hm ?_
  refine allT_sound hA hX (N := N) (K := K) ⟨fun o ho => ?_, fun i hi e he => ?_⟩ hQ t ops.size [] (Array.replicate ops.size false) g st a _ (by simp) (by simp [unl]) (fun j hj => by simp [dOf, Array.getD, hj]) hok.2 h hR.drew
  · unfold opOK
    cases hd : o.dst with
    | none => rfl
    | some d => simp; exact hN o ho d hd
  · have := hok.1
    simp only [edgesOK, List.all_eq_true, List.mem_range, decide_eq_true_eq] at this
    exact this i hi e he
@[go_sem] theorem wpT_done (X : Env) (ops : Array Oper) (K : St → Prop) (st : St) : wpT X ops K .done st = K st := by simp only [wpT]
@[go_sem] theorem wpT_one (X : Env) (ops : Array Oper) (K : St → Prop) (i : Nat) (t : OT) (st : St) : wpT X ops K (.pick [(i, t)]) st = opsA X ops (opAt ops i) (wpT X ops K t) st := by simp only [wpT, wpTs, and_true]
@[go_sem] theorem wpT_two (X : Env) (ops : Array Oper) (K : St → Prop) (i j : Nat) (t t' : OT) (l : List (Nat × OT)) (st : St) : wpT X ops K (.pick ((i, t) :: (j, t') :: l)) st = (opsA X ops (opAt ops i) (wpT X ops K t) st ∧ wpT X ops K (.pick ((j, t') :: l)) st) := by simp only [wpT, wpTs]
attribute [go_sem] opAt
end Go.Abs
namespace Go.Abs
mutual
def lens : AV → Prop
  | .sl _ _ es => es.length ≤ 9223372036854775807
  | .agg cs => lensL cs
  | _ => True
def lensL : List AV → Prop
  | [] => True
  | c :: cs => lens c ∧ lensL cs
end
mutual
theorem VR.lens {g : Gh} {w : World} : ∀ (x : AV) (u : Value), VR g w x u → lens x
  | .sl (.own r lo) n es, u, h => by
    simp only [VR, OwnSl] at h
    simp only [Abs.lens]
    rcases h.2 with ⟨_, h2⟩ | ⟨_, h2, _⟩ | ⟨cap, cur, T, _, h2, h3, _⟩
    · subst h2; simp
    · subst h2; simp
    · simp only [maxLen] at h3; omega
  | .sl .no n es, u, h => by
    simp only [VR, PR] at h
    simp only [Abs.lens]
    obtain ⟨_, a, cap, _, h2, h3, _⟩ := h
    simp only [maxLen] at h3; omega
  | .sl .full n es, u, h => by
    simp only [VR, PR] at h
    simp only [Abs.lens]
    obtain ⟨_, a, cap, _, h2, h3, _⟩ := h
    simp only [maxLen] at h3; omega
  | .agg cs, u, h => by
    simp only [VR] at h
    simp only [Abs.lens]
    obtain ⟨us, _, h⟩ := h
    exact VRs.lens cs us.toList h
  | .undef, _, _ => by simp [Abs.lens]
  | .v _, _, _ => by simp [Abs.lens]
  | .tup _, _, _ => by simp [Abs.lens]
  | .ptr _ _, _, _ => by simp [Abs.lens]
  | .ep _ _ _ _, _, _ => by simp [Abs.lens]
  | .fn _ _, _, _ => by simp [Abs.lens]
  | .mv _ _, _, _ => by simp [Abs.lens]
  | .mp _, _, _ => by simp [Abs.lens]
  | .ifc _ _, _, _ => by simp [Abs.lens]
  | .mem _ _, _, _ => by simp [Abs.lens]
theorem VRs.lens {g : Gh} {w : World} : ∀ (xs : List AV) (us : List Value), VRs g w xs us → lensL xs
  | [], _, _ => by simp [Abs.lensL]
  | c :: cs, [], h => by simp [VRs] at h
  | c :: cs, u :: us, h => by
    simp only [VRs] at h
    simp only [Abs.lensL]
    exact ⟨VR.lens c u h.1, VRs.lens cs us h.2⟩
end
theorem FnOK.assume {C : Ctx} {f : Nat} {fn : Func} {c : Code} {xs : List AV} {o o' : List (Nat × List AV)} {y : AV} (hf : C.P.funcs[f]? = some fn) (hname : (fn.name == "runtime.NumGoroutine") = false) (hb : fn.body = some c)
    (h : lensL xs → FnOK C f xs o y o') : FnOK C f xs o y o' :=
  ⟨⟨fn, c, hf, hname, hb⟩, fun g w us hg hv ho => (h (VRs.lens xs us hv)).2 g w us hg hv ho⟩
end Go.Abs
namespace Go.Abs
theorem FnOK.go {C : Ctx} {f : Nat} {xs : List AV} {o o' : List (Nat × List AV)} {y : AV} (fn : Func) (h : wpA ⟨C, names o⟩ (fn.body.getD .skip) (retA ⟨C, names o⟩ fn.results.toList y o') ⟨argT 0 xs, o⟩)
    (hf : C.P.funcs[f]? = some fn := by kernel_rfl) (hname : (fn.name == "runtime.NumGoroutine") = false := by kernel_rfl) (hb : fn.body = some (fn.body.getD .skip) := by kernel_rfl)
    (hok : codeOK fn.ntmps (fn.body.getD .skip) = true := by kernel_rfl) (hargs : Nat.ble xs.length fn.ntmps = true := by kernel_rfl) (hext : ∀ s ∈ names o, s % 32 = 31 := by simp [names]) : FnOK C f xs o y o' :=
  FnOK.intro hf hname hb hok (Nat.le_of_ble_eq_true hargs) hext h
theorem FnP.go {C : Ctx} {f : Nat} {xs : List AV} {o : List (Nat × List AV)} {S : AV → List (Nat × List AV) → Prop} (fn : Func) (h : wpA ⟨C, names o⟩ (fn.body.getD .skip) (retP ⟨C, names o⟩ fn.results.toList S) ⟨argT 0 xs, o⟩)
    (hf : C.P.funcs[f]? = some fn := by kernel_rfl) (hname : (fn.name == "runtime.NumGoroutine") = false := by kernel_rfl) (hb : fn.body = some (fn.body.getD .skip) := by kernel_rfl)
    (hok : codeOK fn.ntmps (fn.body.getD .skip) = true := by kernel_rfl) (hargs : Nat.ble xs.length fn.ntmps = true := by kernel_rfl) (hext : ∀ s ∈ names o, s % 32 = 31 := by simp [names]) : FnP C f xs o S :=
  FnP.intro hf hname hb hok (Nat.le_of_ble_eq_true hargs) hext h
theorem FnOK.lens {C : Ctx} {f : Nat} {xs : List AV} {o o' : List (Nat × List AV)} {y : AV} (fn : Func) (h : lensL xs → FnOK C f xs o y o')
    (hf : C.P.funcs[f]? = some fn := by kernel_rfl) (hname : (fn.name == "runtime.NumGoroutine") = false := by kernel_rfl) (hb : fn.body = some (fn.body.getD .skip) := by kernel_rfl) : FnOK C f xs o y o' :=
  FnOK.assume hf hname hb h
section
variable {X : Env} {d : Option Nat} {fid : Nat} {xs xs' : List AV} {K : St → Prop} {st st' : St} {y y' : AV} {ob ob' : List (Nat × List AV)}
theorem ret2 {rs : List ResultVar} (ρ : Rn) (xs : List AV) (h4 : WeakV ((pack xs).ren ρ) y) (h1 : resVs X.C st rs = some xs := by (try simp (disch := omega) only [go_sem, resVs, resV]) <;> rfl) (h2 : ρ.OK := by exact ⟨rfl, rfl⟩) (h3 : ∀ s ∈ X.ext, lk s ρ.m = some s := by simp) : retA X rs y [] .ret st :=
  ret_mk ρ xs h1 h2 h3 h4 trivial
theorem ret1 {rs : List ResultVar} (xs : List AV) (h4 : WeakV ((pack xs).ren ⟨[], [], []⟩) y) (h1 : resVs X.C st rs = some xs := by (try simp (disch := omega) only [go_sem, resVs, resV]) <;> rfl) (h3 : ∀ s ∈ X.ext, lk s [] = some s := by simp) : retA X rs y [] .ret st :=
  ret_mk ⟨[], [], []⟩ xs h1 ⟨rfl, rfl⟩ h3 h4 trivial
theorem ret3 {rs : List ResultVar} (ρ : Rn) (xs : List AV) (h4 : WeakV ((pack xs).ren ρ) y) (h5 : WeakO (renSt ρ st) ob') (h1 : resVs X.C st rs = some xs := by (try simp (disch := omega) only [go_sem, resVs, resV]) <;> rfl) (h2 : ρ.OK := by exact ⟨rfl, rfl⟩) (h3 : ∀ s ∈ X.ext, lk s ρ.m = some s := by simp [lk, names]) : retA X rs y ob' .ret st :=
  ret_mk ρ xs h1 h2 h3 h4 h5
theorem call1 (hok : FnOK X.C fid xs' [] y []) (hk : K (st.put d y')) (hx : WeakArgs (renL ⟨[], [], []⟩ xs) xs' := by simp (disch := omega) only [go_sem]) (hy : y.ren ⟨[], [], []⟩ = y' := by rfl) : callB X d fid xs K st :=
  call_pure hok hx hy hk
theorem fcall1 {objs : List (Nat × List AV)} {p : List Nat} {i : Nat} {cr : List (Nat × List Nat × List Nat)} {K : List (Nat × List Nat × List Nat) → St → Prop} (hok : FnOK X.C fid xs' [] y [])
    (h : fixT (rngs (Way.back ⟨⟨[], [], []⟩, [], []⟩).l) (rngs []) st.tmps ∧ fixO (rngs (Way.back ⟨⟨[], [], []⟩, [], []⟩).l) (rngs []) st.objs ∧ away cr p ⟨y.ren (Way.back ⟨⟨[], [], []⟩, [], []⟩), rngs (Way.back ⟨⟨[], [], []⟩, [], []⟩).l, rngs [], renO (Way.back ⟨⟨[], [], []⟩, [], []⟩) []⟩ ∧
      K (crOf i ⟨y.ren (Way.back ⟨⟨[], [], []⟩, [], []⟩), rngs (Way.back ⟨⟨[], [], []⟩, [], []⟩).l, rngs [], renO (Way.back ⟨⟨[], [], []⟩, [], []⟩) []⟩ cr) ⟨(St.put d (y.ren (Way.back ⟨⟨[], [], []⟩, [], []⟩)) st).tmps, renO (Way.back ⟨⟨[], [], []⟩, [], []⟩) [] ++ st.objs⟩)
    (hx : WeakArgs (renL ⟨[], [], []⟩ xs) xs' := by simp (disch := omega) only [go_sem]) : freeCallB X d fid xs objs p i cr K st :=
  freeCall_mk ⟨⟨[], [], []⟩, [], []⟩ hok hx rfl rfl trivial (.inl rfl) h
theorem imp1 (ht : WeakT st st'.tmps := by simp (disch := omega) only [go_sem]) (ho : WeakO st st'.objs := by simp (disch := omega) only [go_sem]) : Imp X st st' := Imp.weak ht ho
theorem call2 (v : Way) (hok : FnOK X.C fid xs' ob y ob') (hk : K ((st.app (rngs v.back.l) (rngs v.fm) (rngs v.back.m) (renO v.back ob')).put d (y.ren v.back)))
    (hx : WeakArgs (renL v.ρ xs) xs' := by simp (disch := omega) only [go_sem]) (hh : HasW v st ob := by simp (disch := omega) only [go_sem]) (hv : wayOK v ob = true := by rfl) (hfl : v.ρ.bs = [] ∨ (Flat (y.ren v.back) ∧ FlatO (renO v.back ob')) := by exact .inl rfl) : callB X d fid xs K st :=
  callB_mk v hok hx hv hh hfl hk
end
def subT : List (List Nat × List Nat) → List (List Nat × List Nat) → Bool
  | [], _ => true
  | _ :: _, [] => false
  | (p, ts) :: t, (q, us) :: u => p.all (fun j => q.contains j) && ts == us && subT t u
def fillS (ops : Array Oper) (t l : List (List Nat × List Nat)) (i : Nat) : List (List Nat × List Nat) := l ++ [((List.range i).filter (fun j => (edgesOf ops i).any fun e => j == e || (predT l e).contains j), (t.getD i ([], [])).2)]
def fillT (ops : Array Oper) (t : List (List Nat × List Nat)) : Nat → List (List Nat × List Nat)
  | 0 => []
  | i + 1 => fillS ops t (fillT ops t i) i
theorem away_sub {p q : List Nat} (h : ∀ j ∈ p, j ∈ q) {r : Res} : ∀ {cr : List (Nat × List Nat × List Nat)}, away cr p r → away cr q r
  | [], _ => trivial
  | (i, S, T) :: l, ha => ⟨ha.1.imp (h i) id, away_sub h ha.2⟩
theorem freeA_sub {X : Env} {all : Array Oper} {objs : List (Nat × List AV)} {K : St → Prop} : ∀ (os : List Oper) (t u : List (List Nat × List Nat)) (i : Nat) (cr : List (Nat × List Nat × List Nat)) (st : St), subT t u = true → freeA X all objs os t i cr K st → freeA X all objs os u i cr K st
  | [], _, _, _, _, _, _, h => by simpa [freeA] using h
  | _ :: _, [], _, _, _, _, _, h => by simp [freeA] at h
  | _ :: _, _ :: _, [], _, _, _, hs, _ => by simp [subT] at hs
  | o :: os, (p, ts) :: t, (q, us) :: u, i, cr, st, hs, h => by
    simp only [subT, Bool.and_eq_true, List.all_eq_true, beq_iff_eq] at hs
    obtain ⟨⟨h1, rfl⟩, h2⟩ := hs
    have hpq : ∀ j ∈ p, j ∈ q := fun j hj => by simpa using h1 j hj
    have run : ∀ st : St, (freeOp X o ⟨restr st ts, objs⟩ st p cr fun e => o.dst.isSome = true ∧ freeA X all objs os t (i + 1) (crOf i e cr) K ⟨(St.put o.dst e.x st).tmps, e.upd ++ st.objs⟩) → freeOp X o ⟨restr st ts, objs⟩ st q cr fun e => o.dst.isSome = true ∧ freeA X all objs os u (i + 1) (crOf i e cr) K ⟨(St.put o.dst e.x st).tmps, e.upd ++ st.objs⟩ := fun st h => by
      obtain ⟨e, a, b, c, d, f, g, k⟩ := h
      exact ⟨e, a, b, c, d, f, away_sub hpq g, k.1, freeA_sub os t u _ _ _ h2 k.2⟩
    simp only [freeA] at h ⊢
    split at h
    · exact run st h
    · split at h
      · exact ⟨fun he => run _ (h.1 he), fun he => ⟨(h.2 he).1, away_sub hpq (h.2 he).2.1, freeA_sub os t u _ _ _ h2 (h.2 he).2.2⟩⟩
      · exact ⟨h.1, away_sub hpq h.2.1, freeA_sub os t u _ _ _ h2 h.2.2⟩
      · exact h.elim
theorem draw2 {X : Env} {ops : List Oper} {K : St → Prop} {st : St} (k : Nat) (t : List (List Nat × List Nat)) (hm : X.C.P.follows .mixedOrders = true) (h : freeE X ops.toArray st.objs (ops.take k) t 0 (opsA X ops.toArray (ops.drop k) K) [] st)
    (hok : (subT t (fillT ops.toArray t ops.length) && regOK ops.toArray k (fillT ops.toArray t ops.length)) = true := by kernel_rfl) : drawA X ops.toArray K st := by
  rw [Bool.and_eq_true] at hok
  exact draw_intro k _ hm hok.2 (by simpa using freeA_sub _ _ _ _ _ _ hok.1 (freeE_sound _ _ _ _ _ h))
theorem gI {p : Prop} (h : p := by simp (disch := omega) only [go_sem]) : p := h
theorem gO {p q : Prop} (h : q) (e : p = q := by conv => lhs; simp (disch := omega) only [go_sem]) : p := e ▸ h
theorem gC {p : Prop} (h : p := by simp (disch := omega) only [go_sem, *]) : p := h
theorem gS {p q : Prop} (h : q) (e : p = q := by conv => lhs; simp (disch := omega) only [go_sem, *]) : p := e ▸ h
section
variable {X : Env} {st st' : St} {y : AV} {rs : List ResultVar}
theorem retF (xs : List AV) (h1 : resVs X.C st rs = some xs := by (try simp (disch := omega) only [go_sem, resVs, resV]) <;> rfl) (h4 : WeakV ((pack xs).ren ⟨[], [], []⟩) y := by simp (disch := omega) only [go_sem]) (h3 : ∀ s ∈ X.ext, lk s [] = some s := by simp) : retA X rs y [] .ret st := ret1 xs h4 h1 h3
theorem retG (xs : List AV) {q : Prop} (h4 : q) (h1 : resVs X.C st rs = some xs := by (try simp (disch := omega) only [go_sem, resVs, resV]) <;> rfl) (e : WeakV ((pack xs).ren ⟨[], [], []⟩) y = q := by conv => lhs; simp (disch := omega) only [go_sem]) (h3 : ∀ s ∈ X.ext, lk s [] = some s := by simp) : retA X rs y [] .ret st := ret1 xs (e ▸ h4) h1 h3
theorem retT (xs : List AV) (h1 : resVs X.C st rs = some xs := by (try simp (disch := omega) only [go_sem, resVs, resV]) <;> rfl) (h4 : WeakV ((pack xs).ren ⟨[], [], []⟩) y := by
    refine gO ?_
    refine .tup (WeakArgs.weakL ?_)
    simp (disch := omega) only [go_sem]
    repeat' (with_reducible apply And.intro)
    all_goals (first | exact .nilNo (by omega) | exact .agg (WeakArgs.weakL (by simp (disch := omega) only [go_sem])))) (h3 : ∀ s ∈ X.ext, lk s [] = some s := by simp) : retA X rs y [] .ret st := ret1 xs h4 h1 h3
theorem impS (h : WeakT st st'.tmps ∧ WeakO st st'.objs := by
    refine ⟨?_, ?_⟩
    all_goals (try simp (disch := omega) only [go_sem])
    all_goals (try (repeat' (with_reducible apply And.intro)))
    all_goals (first | exact .nilOwn (by omega) | exact .nilNo (by omega) | exact .sl (by simp [*]) | exact .int (by simp [*]) | exact .eq (by simp [*]))) : Imp X st st' := Imp.weak h.1 h.2
theorem impL (h : WeakT st st'.tmps ∧ WeakO st st'.objs := by
    refine ⟨?_, ?_⟩
    all_goals (try simp (disch := omega) only [go_sem])
    all_goals (try (repeat' (with_reducible apply And.intro)))
    all_goals (first | exact .nilOwn (by omega) | exact .nilNo (by omega) | exact .sl (by simp []) | exact .int (by simp []) | exact .eq (by simp []))) : Imp X st st' := Imp.weak h.1 h.2
end
theorem gm {α β : Type} (f : α → β) (l : List α) (i : Nat) : (l.map f)[i]? = l[i]?.map f := List.getElem?_map
theorem gE {α : Type} {l : List α} {i : Nat} (h : i < l.length) : l[i]? = some l[i] := List.getElem?_eq_getElem h
theorem mG {α : Type} {l : List α} {i : Nat} {a : α} (h : l[i]? = some a) : a ∈ l := List.mem_of_getElem? h
theorem loopR {X : Env} {st : St} {body : (Ex → St → Prop) → St → Prop} {Q : Ex → St → Prop} {α : Type} (l : List α) (I : Nat → St) (Inv : Nat → Prop) (h0 : Inv 0) (hi : Imp X st (I 0))
    (hr : ∀ i, i ≤ l.length ∧ Inv i → ∀ J : St → Prop, (∀ st' x', x' ≤ l.length ∧ Inv x' → l.length - x' < l.length - i → Imp X st' (I x') → J st') → body (thenA J Q) (I i)) : loopA X body Q st := loop_intro I _ (fun i => l.length - i) 0 ⟨Nat.zero_le _, h0⟩ hi hr
theorem forR {α : Type} {l : List α} {i : Nat} {c : Bool} {P Q : Prop} (hi : i ≤ l.length) (h1 : c = true → ∀ b, l[i]? = some b → b ∈ l → i < l.length → P) (h2 : i = l.length → Q) (hc : c = decide (i < l.length) := by simp) : (c = true → P) ∧ (c = false → Q) :=
  ⟨fun h => have hl := of_decide_eq_true (hc.symm.trans h); h1 h _ (List.getElem?_eq_getElem hl) (List.getElem_mem hl) hl, fun h => h2 (Nat.le_antisymm hi (Nat.le_of_not_lt (of_decide_eq_false (hc.symm.trans h))))⟩
attribute [go_sem] decide_false List.length_map List.getElem?_map
end Go.Abs
namespace Go.Abs
def sel (m : Nat) : List (Nat × Nat × AV) → List (Nat × AV)
  | [] => []
  | (w, t, x) :: l => if m / w % 2 = 1 then (t, x) :: sel m l else sel m l
def dagE (X : Env) (ops : Array Oper) (S : Nat → St) (m : Nat) : List (Nat × Nat) → Prop
  | [] => True
  | (i, m') :: l => opsA X ops (opAt ops i) (fun st' => Imp X st' (S m')) (S m) ∧ dagE X ops S m l
def dagP (X : Env) (ops : Array Oper) (S : Nat → St) : List (Nat × List (Nat × Nat)) → Prop
  | [] => True
  | (m, l) :: t => dagE X ops S m l ∧ dagP X ops S t
def okD (ops : Array Oper) (full : Nat) (tab : List (Nat × List (Nat × Nat))) : Bool :=
  (tab.any fun p => p.1 == 0) && ((List.range ops.size).all fun i => full.testBit i) && tab.all fun p =>
    (p.1 == full || (List.range ops.size).any (fun i => !p.1.testBit i && (edgesOf ops i).all fun e => p.1.testBit e)) &&
    ((List.range ops.size).all fun i => p.1.testBit i || !((edgesOf ops i).all fun e => p.1.testBit e) || p.2.any (fun q => q.1 == i)) &&
    p.2.all fun q => q.2 == (p.1 ||| 2 ^ q.1) && tab.any (fun p' => p'.1 == q.2)
section
variable {X : Env} {A : A0} {N : Nat} {ops : Array Oper}
theorem dagE_mem {S : Nat → St} {m : Nat} {q : Nat × Nat} : ∀ {l : List (Nat × Nat)}, dagE X ops S m l → q ∈ l → opsA X ops (opAt ops q.1) (fun st' => Imp X st' (S q.2)) (S m)
  | [], _, h => by cases h
  | (i, m') :: l, h, hm => by
    simp only [dagE] at h
    rcases List.mem_cons.1 hm with rfl | hm
    · exact h.1
    · exact dagE_mem h.2 hm
theorem dagP_mem {S : Nat → St} {p : Nat × List (Nat × Nat)} : ∀ {tab : List (Nat × List (Nat × Nat))}, dagP X ops S tab → p ∈ tab → dagE X ops S p.1 p.2
  | [], _, h => by cases h
  | (i, m') :: l, h, hm => by
    simp only [dagP] at h
    rcases List.mem_cons.1 hm with rfl | hm
    · exact h.1
    · exact dagP_mem h.2 hm
theorem dag_sound (hA : A.ext = X.ext) (hX : ∀ s ∈ X.ext, s % 32 = 31) (hN : RegN N ops) {Q : Exit → Act → World → Prop} {K : St → Prop} (hQ : ∀ g st a w, R X.C A N g st a w → K st → Q .normal a w)
    {full : Nat} {tab : List (Nat × List (Nat × Nat))} {S : Nat → St} (hok : okD ops full tab = true) (hs : dagP X ops S tab) (he : K (S full)) :
    ∀ (fuel : Nat) (m : Nat) (l : List (Nat × Nat)) (listed : Array Bool) (g : Gh) (a : Act) (w : World), listed.size = ops.size → unl listed ≤ fuel → (∀ j, j < ops.size → dOf listed j = m.testBit j) → (m, l) ∈ tab → R X.C A N g (S m) a w →
      wpAny X.C.P .any ops Q fuel listed a w := by
  have hok' := hok
  simp only [okD, Bool.and_eq_true, List.all_eq_true, List.mem_range] at hok'
  obtain ⟨⟨_, hfull⟩, htab⟩ := hok'
  intro fuel
  induction fuel with
  | zero =>
    intro m l listed g a w hsz hu hd hm hR
    obtain ⟨⟨h1, h2⟩, h3⟩ := htab (m, l) hm
    simp only [Bool.or_eq_true, beq_iff_eq, List.any_eq_true, List.mem_range, Bool.and_eq_true] at h1
    rcases h1 with rfl | ⟨i, hi, hi1, hi2⟩
    · refine ⟨?_, hQ g _ a w hR he⟩
      cases hrd : Region.ready .any ops listed with
      | nil => rfl
      | cons j l' =>
        have hj : j ∈ Region.ready .any ops listed := by rw [hrd]; simp
        have := (ready_iff hsz).1 hj
        rw [hd j this.1, hfull j this.1] at this
        simp at this
    · have hmem : i ∈ Region.ready .any ops listed := (ready_iff hsz).2 ⟨hi, by rw [hd i hi]; simpa using hi1, fun e hee => by
        have h4 := List.all_eq_true.1 hi2 e hee
        have hlt := edge_lt hN e hee hi
        rw [hd e hlt]; exact h4⟩
      obtain ⟨k1, k2, _⟩ := (ready_iff hsz).1 hmem
      rw [unl_zero (by omega) (by omega : i < listed.size)] at k2
      cases k2
  | succ fuel ih =>
    intro m l listed g a w hsz hu hd hm hR
    obtain ⟨⟨h1, h2⟩, h3⟩ := htab (m, l) hm
    simp only [Bool.or_eq_true, beq_iff_eq, List.any_eq_true, List.mem_range, Bool.and_eq_true] at h1
    refine ⟨fun h0 => ?_, fun j hj => ?_⟩
    · rcases h1 with rfl | ⟨i, hi, hi1, hi2⟩
      · exact hQ g _ a w hR he
      · have hmem : i ∈ Region.ready .any ops listed := (ready_iff hsz).2 ⟨hi, by rw [hd i hi]; simpa using hi1, fun e hee => by
          have h4 := List.all_eq_true.1 hi2 e hee
          have hlt := edge_lt hN e hee hi
          rw [hd e hlt]; exact h4⟩
        rw [h0] at hmem; cases hmem
    · obtain ⟨k1, k2, k3⟩ := (ready_iff hsz).1 hj
      have hnb : m.testBit j = false := by rw [← hd j k1]; exact k2
      have h4 := h2 j k1
      have he' : (edgesOf ops j).all (fun e => m.testBit e) = true := List.all_eq_true.2 fun e hee => by
        have h5 := k3 e hee
        have hlt := edge_lt hN e hee k1
        rw [hd e hlt] at h5; exact h5
      simp only [hnb, he', Bool.not_true, Bool.or_false, Bool.false_or, List.any_eq_true, beq_iff_eq] at h4
      obtain ⟨q, hq, rfl⟩ := h4
      have h5 := h3 q hq
      simp only [beq_iff_eq, List.any_eq_true] at h5
      obtain ⟨h6, p', hp', h7⟩ := h5
      have ho : ops[q.1]? = some ops[q.1] := Array.getElem?_eq_getElem k1
      have hop := dagE_mem (dagP_mem hs hm) hq
      simp only [opAt, ho, opsA] at hop
      refine op_sound hA hX ho (fun g' st' a' w' hR' hK' => ?_) (hN.1 _ (Array.getElem_mem k1)) hop hR
      obtain ⟨g2, hR2⟩ := hK' A N g' a' w' hA hR'
      refine ih q.2 p'.2 _ g2 a' w' (by simp [hsz]) (by have := unl_set (by omega : q.1 < listed.size) k2; omega) (fun j' hj' => ?_) (by rw [← h7]; exact hp') hR2
      rw [dOf_set (by omega)]
      simp only [addD]
      rw [h6, Nat.testBit_or, Nat.testBit_two_pow]
      by_cases hjj : j' = q.1
      · subst hjj; simp
      · simp [hjj, Ne.symm hjj, hd j' hj']
end
theorem draw_dag {X : Env} {ops : Array Oper} {K : St → Prop} {st : St} (full : Nat) (tab : List (Nat × List (Nat × Nat))) (S : Nat → St) (hm : X.C.P.follows .mixedOrders = true) (hok : (edgesOK ops && okD ops full tab) = true)
    (h0 : Imp X st (S 0)) (hs : dagP X ops S tab) (he : K (S full)) : drawA X ops K st := by
  refine drawA_imp h0 ?_
  intro A N g a w hA hN hX hR id Q hQ
  simp only [Bool.and_eq_true] at hok
  refine wp_region_any hm ?_
  have h0 : ∃ l, (0, l) ∈ tab := by
    have := hok.2
    simp only [okD, Bool.and_eq_true, List.any_eq_true, beq_iff_eq] at this
    obtain ⟨⟨⟨p, hp, h⟩, _⟩, _⟩ := this
    exact ⟨p.2, by rw [← h]; exact hp⟩
  obtain ⟨l, hl⟩ := h0
  refine dag_sound hA hX (N := N) (K := K) ⟨fun o ho => ?_, fun i hi e he => ?_⟩ hQ hok.2 hs he ops.size 0 l (Array.replicate ops.size false) g a _ (by simp) (by simp [unl]) (fun j hj => by simp [dOf, Array.getD, hj]) hl hR.drew
  · unfold opOK
    cases hd : o.dst with
    | none => rfl
    | some d => simp; exact hN o ho d hd
  · have := hok.1
    simp only [edgesOK, List.all_eq_true, List.mem_range, decide_eq_true_eq] at this
    exact this i hi e he
@[go_sem] theorem dagE_nil (X : Env) (ops : Array Oper) (S : Nat → St) (m : Nat) : dagE X ops S m [] = True := rfl
@[go_sem] theorem dagE_cons (X : Env) (ops : Array Oper) (S : Nat → St) (m i m' : Nat) (l : List (Nat × Nat)) : dagE X ops S m ((i, m') :: l) = (opsA X ops (opAt ops i) (fun st' => Imp X st' (S m')) (S m) ∧ dagE X ops S m l) := rfl
@[go_sem] theorem dagP_nil (X : Env) (ops : Array Oper) (S : Nat → St) : dagP X ops S [] = True := rfl
@[go_sem] theorem dagP_cons (X : Env) (ops : Array Oper) (S : Nat → St) (m : Nat) (l : List (Nat × Nat)) (t : List (Nat × List (Nat × Nat))) : dagP X ops S ((m, l) :: t) = (dagE X ops S m l ∧ dagP X ops S t) := rfl
@[go_sem] theorem sel_nil (m : Nat) : sel m [] = [] := rfl
@[go_sem] theorem sel_cons (m w t : Nat) (x : AV) (l : List (Nat × Nat × AV)) : sel m ((w, t, x) :: l) = if m / w % 2 = 1 then (t, x) :: sel m l else sel m l := rfl
end Go.Abs
namespace Go.Abs
def dagF (X : Env) (ops : Array Oper) (S : Nat → St) (m : Nat) : List (Nat × Nat × Nat) → Prop
  | [] => True
  | (i, w, d) :: l => (if m / w % 2 = 0 ∧ d &&& m = d then opsA X ops (opAt ops i) (fun st' => Imp X st' (S (m + w))) (S m) else True) ∧ dagF X ops S m l
def dagQ (X : Env) (ops : Array Oper) (S : Nat → St) (E : List (Nat × Nat × Nat)) : List Nat → Prop
  | [] => True
  | m :: t => dagF X ops S m E ∧ dagQ X ops S E t
def nextsOf (E : List (Nat × Nat × Nat)) (m : Nat) : List (Nat × Nat) := (E.filter fun e => decide (m / e.2.1 % 2 = 0 ∧ e.2.2 &&& m = e.2.2)).map fun e => (e.1, m + e.2.1)
def tabOf (E : List (Nat × Nat × Nat)) (ms : List Nat) : List (Nat × List (Nat × Nat)) := ms.map fun m => (m, nextsOf E m)
section
variable {X : Env} {ops : Array Oper} {S : Nat → St}
theorem dagF_E {m : Nat} : ∀ {E : List (Nat × Nat × Nat)}, dagF X ops S m E → dagE X ops S m (nextsOf E m)
  | [], _ => trivial
  | (i, w, d) :: l, h => by
    simp only [dagF] at h
    have ih := dagF_E h.2
    unfold nextsOf at ih ⊢
    simp only [List.filter_cons]
    by_cases hc : m / w % 2 = 0 ∧ d &&& m = d
    · rw [if_pos hc] at h
      simp only [hc, and_self, decide_true, if_true, List.map_cons, dagE]
      exact ⟨h.1, ih⟩
    · simp only [hc, decide_false, Bool.false_eq_true, if_false]
      exact ih
theorem dagQ_P {E : List (Nat × Nat × Nat)} : ∀ {ms : List Nat}, dagQ X ops S E ms → dagP X ops S (tabOf E ms)
  | [], _ => trivial
  | m :: t, h => ⟨dagF_E h.1, dagQ_P h.2⟩
theorem draw_dag2 {K : St → Prop} {st : St} (full : Nat) (E : List (Nat × Nat × Nat)) (ms : List Nat) (S : Nat → St) (h0 : Imp X st (S 0)) (hs : dagQ X ops S E ms) (he : K (S full)) (hm : X.C.P.follows .mixedOrders = true)
    (hok : (edgesOK ops && okD ops full (tabOf E ms)) = true := by kernel_rfl) : drawA X ops K st := draw_dag full (tabOf E ms) S hm hok h0 (dagQ_P hs) he
end
theorem dagF_cons (X : Env) (ops : Array Oper) (S : Nat → St) (m i w d : Nat) (l : List (Nat × Nat × Nat)) : dagF X ops S m ((i, w, d) :: l) = ((if m / w % 2 = 0 ∧ d &&& m = d then opsA X ops (opAt ops i) (fun st' => Imp X st' (S (m + w))) (S m) else True) ∧ dagF X ops S m l) := nd rfl
theorem dagQ_cons (X : Env) (ops : Array Oper) (S : Nat → St) (E : List (Nat × Nat × Nat)) (m : Nat) (t : List Nat) : dagQ X ops S E (m :: t) = (dagF X ops S m E ∧ dagQ X ops S E t) := nd rfl
theorem dagF_nil (X : Env) (ops : Array Oper) (S : Nat → St) (m : Nat) : dagF X ops S m [] = True := nd rfl
theorem dagQ_nil (X : Env) (ops : Array Oper) (S : Nat → St) (E : List (Nat × Nat × Nat)) : dagQ X ops S E [] = True := nd rfl
end Go.Abs
namespace Go.Abs
def neut (X : Env) (ops : Array Oper) (st : St) : List Nat → Prop
  | [] => True
  | f :: F => opsA X ops (opAt ops f) (fun st' => WeakT st' st.tmps ∧ WeakO st' st.objs) st ∧ neut X ops st F
def seqF (X : Env) (ops : Array Oper) (F : List Nat) (K : St → Prop) : List Oper → St → Prop
  | [], st => neut X ops st F ∧ K st
  | o :: os, st => neut X ops st F ∧ opsA X ops [o] (seqF X ops F K os) st
def cutO (ops : Array Oper) (k : Nat) : Array Oper := (ops.toList.take k).toArray
def regF (ops : Array Oper) (k : Nat) (tab : List (List Nat × List Nat)) (F : List Nat) : Bool :=
  decide (k ≤ ops.size) && (List.range ops.size).all (fun i => (edgesOf ops i).all (fun e => decide (e < i)) &&
    (predT tab i).all (fun p => (edgesOf ops i).any fun e => p == e || (predT tab e).contains p) &&
    (decide (i < k) || (List.range i).all fun j => F.contains j || (predT tab i).contains j)) &&
  ((List.range k).all fun i => (List.range i).all fun j => (predT tab i).contains j || !(clash ops tab i j)) && F.all (fun f => decide (f < k)) && ops.toList.all fun o => o.guard.isNone
section
variable {X : Env} {A : A0} {N : Nat} {g : Gh} {st0 : St} {a : Act} {w : World} {ops : Array Oper} {k : Nat} {tab : List (List Nat × List Nat)} {res : Nat → Res} {D : Nat → Bool} {F : List Nat}
theorem cut_get {i : Nat} (h : i < k) : (cutO ops k)[i]? = ops[i]? := by
  simp [cutO, List.getElem?_take, h]
theorem cut_edges {i : Nat} (h : i < k) : edgesOf (cutO ops k) i = edgesOf ops i := by unfold edgesOf; rw [cut_get h]
theorem cut_dst {i : Nat} (h : i < k) : dstT (cutO ops k) i = dstT ops i := by unfold dstT; rw [cut_get h]
structure RegF (ops : Array Oper) (k : Nat) (tab : List (List Nat × List Nat)) (F : List Nat) : Prop where
  le : k ≤ ops.size
  edge : ∀ i, i < ops.size → ∀ e ∈ edgesOf ops i, e < i
  pred : ∀ i, i < ops.size → ∀ p ∈ predT tab i, ∃ e ∈ edgesOf ops i, p = e ∨ p ∈ predT tab e
  tail : ∀ i, i < ops.size → k ≤ i → ∀ j, j < i → j ∈ F ∨ j ∈ predT tab i
  apart : ∀ i j, i < k → j < i → j ∈ predT tab i ∨ clash ops tab i j = false
  small : ∀ f ∈ F, f < k
  guard : ∀ o ∈ ops, o.guard = none
theorem regF.spec (h : regF ops k tab F = true) : RegF ops k tab F := by
  simp only [regF, Bool.and_eq_true, decide_eq_true_eq, List.all_eq_true, List.mem_range, Bool.or_eq_true, List.any_eq_true, List.contains_iff_mem, beq_iff_eq, Bool.not_eq_true', Option.isNone_iff_eq_none] at h
  obtain ⟨⟨⟨⟨h1, h2⟩, h3⟩, h4⟩, h5⟩ := h
  exact ⟨h1, fun i hi => (h2 i hi).1.1, fun i hi => (h2 i hi).1.2, fun i hi hk j hj => ((h2 i hi).2.resolve_left (by omega)) j hj, fun i j hi hj => h3 i hi j hj, h4, fun o ho => h5 o (by simpa using ho)⟩
theorem RegF.cut (h : RegF ops k tab F) : RegOK (cutO ops k) k tab := by
  have hs : (cutO ops k).size = k := by have := h.le; simp [cutO]; omega
  have hk := h.le
  refine ⟨by omega, fun i hi => ?_, fun i hi => ?_, fun i hi hk' => by omega, fun i j hi hj => ?_⟩
  · rw [cut_edges (by omega)]; exact h.edge i (by omega)
  · rw [cut_edges (by omega)]; exact h.pred i (by omega)
  · have := h.apart i j hi hj
    unfold clash at this ⊢
    rw [cut_dst hi, cut_dst (by omega)]
    exact this
theorem RegF.closed (h : RegF ops k tab F) (hc : Closed ops D) : ∀ i, i < ops.size → (∀ e ∈ edgesOf ops i, D e = true) → ∀ p ∈ predT tab i, D p = true := by
  intro i
  induction i using Nat.strongRecOn with
  | _ i ih =>
    intro hi hd p hp
    obtain ⟨e, he, h' | h'⟩ := h.pred i hi p hp
    · subst h'; exact hd _ he
    · have hlt := h.edge i hi e he
      exact ih e hlt (by omega) (hc e (by omega) (hd e he)) p h'
theorem wpOp_cut (h : RegF ops k tab F) {Q : Exit → Act → World → Prop} {i : Nat} (hi : i < k) {K : Act → World → Prop} (hw : wpOp X.C.P (cutO ops k) Q i K a w) : wpOp X.C.P ops Q i K a w := by
  unfold wpOp at hw ⊢
  rw [cut_get hi] at hw
  cases ho : ops[i]? with
  | none => rw [ho] at hw; exact hw
  | some o =>
    rw [ho] at hw
    have hg := h.guard o (Array.mem_of_getElem? ho)
    simp only [Region.wanted, hg, if_true] at hw ⊢
    exact hw
theorem ready_least (h : RegF ops k tab F) {listed : Array Bool} (hs : listed.size = ops.size) : ∀ n j, j < ops.size → dOf listed j = false → j ≤ n → ∃ i, i ≤ j ∧ i ∈ Region.ready .any ops listed := by
  intro n
  induction n with
  | zero =>
    intro j hj hd hjn
    have : j = 0 := by omega
    subst this
    exact ⟨0, by omega, (ready_iff hs).2 ⟨by omega, hd, fun e he => by have := h.edge 0 (by omega) e he; omega⟩⟩
  | succ n ihn =>
    intro j hj hd hjn
    by_cases hed : ∀ e ∈ edgesOf ops j, dOf listed e = true
    · exact ⟨j, by omega, (ready_iff hs).2 ⟨by omega, hd, hed⟩⟩
    · have : ∃ e, e ∈ edgesOf ops j ∧ dOf listed e = false := by
        apply Classical.byContradiction
        intro hno
        refine hed fun e he => ?_
        cases hde : dOf listed e with
        | true => rfl
        | false => exact (hno ⟨e, he, hde⟩).elim
      obtain ⟨e, he, hde⟩ := this
      have := h.edge j (by omega) e he
      obtain ⟨i, h1, h2⟩ := ihn e (by omega) hde (by omega)
      exact ⟨i, by omega, h2⟩
theorem neut_mem {st : St} {f : Nat} : ∀ {F : List Nat}, neut X ops st F → f ∈ F → opsA X ops (opAt ops f) (fun st' => WeakT st' st.tmps ∧ WeakO st' st.objs) st
  | _ :: _, h, hm => by
    rcases List.mem_cons.1 hm with rfl | hm
    · exact h.1
    · exact neut_mem h.2 hm
theorem seqF_sound (hA : A.ext = X.ext) (hX : ∀ s ∈ X.ext, s % 32 = 31) (hN : ∀ o ∈ ops, opOK N o = true) (hr : RegF ops k tab F) {Q : Exit → Act → World → Prop} {K : St → Prop} (hQ : ∀ g st a w, R X.C A N g st a w → K st → Q .normal a w) :
    ∀ (fuel i : Nat) (listed : Array Bool) (g : Gh) (st : St) (a : Act) (w : World), listed.size = ops.size → unl listed ≤ fuel → Closed ops (dOf listed) → k ≤ i → i ≤ ops.size → (∀ j, j < ops.size → j ∉ F → dOf listed j = decide (j < i)) →
    seqF X ops F K (ops.toList.drop i) st → R X.C A N g st a w → wpAny X.C.P .any ops Q fuel listed a w := by
  intro fuel
  induction fuel with
  | zero =>
    intro i listed g st a w hs hu hc hk hi hd h hR
    have hin : i = ops.size := by
      rcases Nat.lt_or_ge i ops.size with hlt | hge
      · have := unl_zero (by omega) (by omega : i < listed.size)
        rw [hd i hlt (fun hf => by have := hr.small i hf; omega)] at this
        simp at this
      · omega
    subst hin
    rw [List.drop_eq_nil_of_le (by simp)] at h
    refine ⟨?_, hQ g st a w hR h.2⟩
    cases hrd : Region.ready .any ops listed with
    | nil => rfl
    | cons j l =>
      have hj : j ∈ Region.ready .any ops listed := by rw [hrd]; simp
      have h1 := (ready_iff hs).1 hj
      have := unl_zero (by omega) (by omega : j < listed.size)
      rw [h1.2.1] at this; cases this
  | succ fuel ih =>
    intro i listed g st a w hs hu hc hk hi hd h hR
    have hne : neut X ops st F := by
      cases hdr : ops.toList.drop i with
      | nil => rw [hdr] at h; exact h.1
      | cons o l => rw [hdr] at h; exact h.1
    constructor
    · intro h0
      have hall : ∀ j, j < ops.size → dOf listed j = true := fun j hj => by
        cases hdj : dOf listed j with
        | true => rfl
        | false =>
          obtain ⟨i', _, h2⟩ := ready_least hr hs j j hj hdj (Nat.le_refl _)
          rw [h0] at h2; cases h2
      have hin : i = ops.size := by
        rcases Nat.lt_or_ge i ops.size with hlt | hge
        · have h1 := hall i hlt
          rw [hd i hlt (fun hf => by have := hr.small i hf; omega)] at h1
          simp at h1
        · omega
      subst hin
      rw [List.drop_eq_nil_of_le (by simp)] at h
      exact hQ g st a w hR h.2
    · intro j hj
      obtain ⟨h1, h2, h3⟩ := (ready_iff hs).1 hj
      have ho : ops[j]? = some ops[j] := Array.getElem?_eq_getElem h1
      have hunl := unl_set (by omega : j < listed.size) h2
      have hc' : Closed ops (dOf (listed.setIfInBounds j true)) := by rw [dOf_set (by omega)]; exact closed_add hc h3
      by_cases hjF : j ∈ F
      · have hop := neut_mem hne hjF
        simp only [opAt, ho, opsA] at hop
        refine op_sound hA hX ho (fun g' st' a' w' hR' hK' => ?_) (hN _ (Array.getElem_mem h1)) hop hR
        refine ih i _ g' st a' w' (by simp [hs]) (by omega) hc' hk hi (fun q hq hqF => ?_) h (hR'.weak hK'.1 hK'.2)
        rw [dOf_set (by omega)]
        have : q ≠ j := fun e => hqF (e ▸ hjF)
        simp only [addD, this, if_false]
        exact hd q hq hqF
      · have hji : j = i := by
          rw [hd j h1 hjF] at h2
          have hge : i ≤ j := by simpa using h2
          rcases Nat.lt_or_ge i j with hlt | hle
          · have hiF : i ∉ F := fun hf => by have := hr.small i hf; omega
            have := (hr.tail j h1 (by omega) i hlt).resolve_left hiF
            have := hr.closed hc j h1 h3 i this
            rw [hd i (by omega) hiF] at this
            simp at this
          · omega
        subst hji
        rw [List.drop_eq_getElem_cons (by simpa using h1)] at h
        have hop := h.2
        have e : ops.toList[j]'(by simpa using h1) = ops[j] := by simp
        rw [e] at hop
        simp only [opsA] at hop
        refine op_sound hA hX ho (fun g' st' a' w' hR' hK' => ?_) (hN _ (Array.getElem_mem h1)) hop hR
        refine ih (j + 1) _ g' st' a' w' (by simp [hs]) (by omega) hc' (by omega) (by omega) (fun q hq hqF => ?_) hK' hR'
        rw [dOf_set (by omega)]
        simp only [addD]
        split
        · rename_i e; subst e; simp
        · rename_i e; rw [hd q hq hqF]; congr 1; simp; omega
theorem freeA_all {all all' : Array Oper} {objs : List (Nat × List AV)} {K : St → Prop} : ∀ (os : List Oper) (tb : List (List Nat × List Nat)) (i : Nat) (cr : List (Nat × List Nat × List Nat)) (st : St), (∀ o ∈ os, o.guard = none) → freeA X all objs os tb i cr K st → freeA X all' objs os tb i cr K st
  | [], _, _, _, _, _, h => h
  | _ :: _, [], _, _, _, _, h => h
  | o :: os, (p, ts) :: tb, i, cr, st, hg, h => by
    simp only [freeA, hg o (by simp)] at h ⊢
    exact h.mono fun e he => ⟨he.1, freeA_all os tb (i + 1) _ _ (fun o' ho' => hg o' (by simp [ho'])) he.2⟩
theorem explore_f (hA : A.ext = X.ext) (hX : ∀ s ∈ X.ext, s % 32 = 31) (hN : ∀ o ∈ ops, opOK N o = true) (hr : RegF ops k tab F) (hv : Valid X (cutO ops k) tab st0 res k) (hdst : ∀ j, j < k → (dstT (cutO ops k) j).isSome = true) {Q : Exit → Act → World → Prop} {K : St → Prop} (hQ : ∀ g st a w, R X.C A N g st a w → K st → Q .normal a w)
    {keep : List Nat} (hkeep : ∀ t ∈ keep, t ∉ F.filterMap (dstT ops)) (htail : seqF X ops F K (ops.toList.drop k) ⟨restr (canon (cutO ops k) res st0 k) keep, st0.objs⟩) : ∀ (fuel : Nat) (listed : Array Bool) (g : Gh) (a : Act) (w : World), listed.size = ops.size → unl listed ≤ fuel → Closed ops (dOf listed) → (∀ j, j < ops.size → dOf listed j = true → j < k) →
    R X.C A N g (stD (cutO ops k) res st0 (dOf listed) k) a w → wpAny X.C.P .any ops Q fuel listed a w := by
  have hk := hr.le
  have hN' : ∀ o ∈ cutO ops k, ∀ d, o.dst = some d → d < N := fun o ho d hd => by
    have := hN o (by simp only [cutO, List.mem_toArray] at ho; simpa using List.mem_of_mem_take ho)
    simpa [opOK, hd] using this
  have low : ∀ (fuel : Nat) (listed : Array Bool) (g : Gh) (a : Act) (w : World), listed.size = ops.size → unl listed ≤ fuel → Closed ops (dOf listed) → (∀ j, j < ops.size → dOf listed j = true → j < k) → (∀ j, j < k → j ∉ F → dOf listed j = true) → R X.C A N g (stD (cutO ops k) res st0 (dOf listed) k) a w → wpAny X.C.P .any ops Q fuel listed a w := by
    intro fuel listed g a w hs hu hc hlt hall hR
    refine seqF_sound hA hX hN hr hQ fuel k listed g _ a w hs hu hc (Nat.le_refl _) hk (fun j hj hjF => ?_) htail (hR.le' (fun t x hx => ?_) fun s cs hs => objs_base hv hs k (Nat.le_refl _))
    · cases hd : dOf listed j with
      | true => simp [hlt j hj hd]
      | false =>
        have : ¬ j < k := fun h => by rw [hall j h hjF] at hd; cases hd
        simp [this]
    · obtain ⟨h1, h2⟩ := lk_restr hx
      replace h1 := hkeep _ h1
      simp only [stD, canon] at h2 ⊢
      rw [← h2]
      refine lk_tmD k fun j hj hdj => ?_
      refine hall j hj fun hjF => h1 ?_
      rw [List.mem_filterMap]
      exact ⟨j, hjF, by rw [← cut_dst hj]; exact hdj⟩
  intro fuel
  induction fuel with
  | zero =>
    intro listed g a w hs hu hc hlt hR
    exact low 0 listed g a w hs hu hc hlt (fun j hj _ => unl_zero (by omega) (by omega)) hR
  | succ fuel ih =>
    intro listed g a w hs hu hc hlt hR
    by_cases hall : ∀ j, j < k → j ∉ F → dOf listed j = true
    · exact low _ listed g a w hs hu hc hlt hall hR
    · have hc2 : Closed (cutO ops k) (dOf listed) := fun i hi hD e he => by
        have hik : i < k := by have : (cutO ops k).size = k := by simp [cutO]; omega
                               omega
        rw [cut_edges hik] at he
        exact hc i (by omega) hD e he
      have step : ∀ i ∈ Region.ready .any ops listed, wpOp X.C.P ops Q i (wpAny X.C.P .any ops Q fuel (listed.setIfInBounds i true)) a w := fun i hi => by
        obtain ⟨h1, h2, h3⟩ := (ready_iff hs).1 hi
        have hp := hr.closed hc i h1 h3
        have hik : i < k := by
          rcases Nat.lt_or_ge i k with h | h
          · exact h
          · exact (hall fun j hj hjF => hp j ((hr.tail i h1 h j (by omega)).resolve_left hjF)).elim
        refine wpOp_cut hr hik (free_step hA hX hN' hr.cut hv hdst hc2 hik h2 hp hR fun g' a' w' hR' => ?_)
        rw [← dOf_set (by omega)] at hR'
        refine ih _ g' a' w' (by simp [hs]) (by have := unl_set (by omega : i < listed.size) h2; omega) (by rw [dOf_set (by omega)]; exact closed_add hc h3) (fun j hj hD => ?_) hR'
        rw [dOf_set (by omega)] at hD
        simp only [addD] at hD
        split at hD
        · rename_i e; omega
        · exact hlt j hj hD
      refine ⟨fun h0 => ?_, step⟩
      have hex : ∃ j, j < k ∧ dOf listed j = false := by
        apply Classical.byContradiction
        intro hno
        refine hall fun j hj _ => ?_
        cases hd : dOf listed j with
        | true => rfl
        | false => exact (hno ⟨j, hj, hd⟩).elim
      obtain ⟨j, hj, hd⟩ := hex
      obtain ⟨i, _, hi⟩ := ready_least hr hs j j (by omega) hd (Nat.le_refl _)
      rw [h0] at hi; cases hi
end
theorem draw_float {X : Env} {ops : List Oper} {K : St → Prop} {st : St} (k : Nat) (tab : List (List Nat × List Nat)) (F keep : List Nat) (hm : X.C.P.follows .mixedOrders = true) (hok : (regF ops.toArray k tab F && keep.all fun t => !(F.filterMap (dstT ops.toArray)).contains t) = true)
    (h : freeE X ops.toArray st.objs (ops.take k) tab 0 (fun stf => seqF X ops.toArray F K (ops.drop k) ⟨restr stf keep, st.objs⟩) [] st) : drawA X ops.toArray K st := by
  intro A N g a w hA hN hX hR id Q hQ
  rw [Bool.and_eq_true] at hok
  have hr := regF.spec hok.1
  have hkeep : ∀ t ∈ keep, t ∉ F.filterMap (dstT ops.toArray) := fun t ht => by
    have := List.all_eq_true.1 hok.2 t ht
    simpa using this
  have hk := hr.le
  have hsz : ops.toArray.size = ops.length := by simp
  have hlen : (ops.take k).length = k := by simp; omega
  have hN2 : ∀ o ∈ ops.toArray, opOK N o = true := fun o ho => by
    unfold opOK
    cases hd : o.dst with
    | none => rfl
    | some d => simp; exact hN o ho d hd
  have hf := freeA_all (all' := cutO ops.toArray k) _ _ _ _ _ (fun o ho => hr.guard o (by simpa using List.mem_of_mem_take ho)) (freeE_sound _ _ _ _ _ h)
  obtain ⟨res, hv, hK⟩ := freeA_sound (X := X) (st0 := st) (ops := cutO ops.toArray k) (tab := tab) (ops.take k) tab 0 [] (fun _ => ⟨.undef, [], [], []⟩) (fun j o hj => by simpa [cutO] using hj) (fun j q hj => by simpa using hj) ⟨fun i hi => by omega, fun i hi => by omega, fun i hi => by omega, fun i hi => by omega, fun i j _ hj => by omega⟩ (fun i hi => by omega) hf
  rw [hlen, Nat.zero_add] at hv hK
  have hdst : ∀ j, j < k → (dstT (cutO ops.toArray k) j).isSome = true := fun j hj => by
    obtain ⟨o, ho, hd, _⟩ := hv.op j hj
    simpa [dstT, ho] using hd
  refine wp_region_any hm (explore_f hA hX hN2 hr hv hdst hQ hkeep (by simpa using hK) ops.toArray.size (Array.replicate ops.toArray.size false) g a _ (by simp) (by simp [unl]) ?_ ?_ ?_)
  · intro i hi hD
    have : i < ops.length := by simpa using hi
    simp [dOf, Array.getD, this] at hD
  · intro j hj hD
    have : j < ops.length := by simpa using hj
    simp [dOf, Array.getD, this] at hD
  · have e : stD (cutO ops.toArray k) res st (dOf (Array.replicate ops.toArray.size false)) k = st := by
      have hf : ∀ j, j < k → dOf (Array.replicate ops.toArray.size false) j = false := fun j hj => by
        have : j < ops.length := by omega
        simp [dOf, Array.getD, this]
      have h1 : tmD (dstT (cutO ops.toArray k)) res (dOf (Array.replicate ops.toArray.size false)) st.tmps k = st.tmps := by
        rw [tmD_cut (i := 0) k (by omega) fun j _ hj => hf j hj]; rfl
      have h2 : ∀ n, n ≤ k → obD res (dOf (Array.replicate ops.toArray.size false)) st.objs n = st.objs := fun n => by
        induction n with
        | zero => intro _; rfl
        | succ n ih => intro hn; simp only [obD, hf n (by omega), Bool.false_eq_true, if_false]; exact ih (by omega)
      simp only [stD, h1, h2 k (Nat.le_refl _)]
    rw [e]
    exact hR.drew
theorem seqF_nil (X : Env) (ops : Array Oper) (F : List Nat) (K : St → Prop) (st : St) : seqF X ops F K [] st = (neut X ops st F ∧ K st) := nd rfl
theorem seqF_cons (X : Env) (ops : Array Oper) (F : List Nat) (K : St → Prop) (o : Oper) (os : List Oper) (st : St) : seqF X ops F K (o :: os) st = (neut X ops st F ∧ opsA X ops [o] (seqF X ops F K os) st) := nd rfl
theorem neut_nil (X : Env) (ops : Array Oper) (st : St) : neut X ops st [] = True := nd rfl
theorem neut_cons (X : Env) (ops : Array Oper) (st : St) (f : Nat) (F : List Nat) : neut X ops st (f :: F) = (opsA X ops (opAt ops f) (fun st' => WeakT st' st.tmps ∧ WeakO st' st.objs) st ∧ neut X ops st F) := nd rfl
attribute [go_sem] seqF_nil seqF_cons neut_nil neut_cons
end Go.Abs
