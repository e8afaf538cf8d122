/- Regions that draw their order: the evaluation's rules. -/
import Derived.Test.YtfnniffkgoimeaaAF
set_option linter.all false
namespace Go.Abs

def freeP (v : Option AV) (p : List Nat) (cr : List (Nat × List Nat × List Nat)) (d : Option Nat) (K : St → Prop) (st : St) : Prop := match v with
  | some x => away cr p ⟨x, [], [], []⟩ ∧ K (st.put d x)
  | none => False
def freeCallB (X : Env) (d : Option Nat) (fid : Nat) (xs : List AV) (objs : List (Nat × List AV)) (p : List Nat) (i : Nat) (cr : List (Nat × List Nat × List Nat)) (K : List (Nat × List Nat × List Nat) → St → Prop) (st : St) : Prop :=
  ∃ v ob y ob', v.OK ob ∧ (rngs v.fm).all (fun s => s % 64 != 63) = true ∧ v.ρ.m = [] ∧ FnOK X.C fid (renL v.ρ xs) ob y ob' ∧ Has v ⟨[], objs⟩ ob ∧ (v.ρ.bs = [] ∨ (Flat (y.ren v.back) ∧ FlatO (renO v.back ob'))) ∧
    fixT (rngs v.back.l) (rngs v.fm) st.tmps ∧ fixO (rngs v.back.l) (rngs v.fm) st.objs ∧ away cr p ⟨y.ren v.back, rngs v.back.l, rngs v.fm, renO v.back ob'⟩ ∧
    K (crOf i ⟨y.ren v.back, rngs v.back.l, rngs v.fm, renO v.back ob'⟩ cr) ⟨(St.put d (y.ren v.back) st).tmps, renO v.back ob' ++ st.objs⟩
def freeCall (X : Env) (d : Option Nat) (f : AV) (xs : List AV) (objs : List (Nat × List AV)) (p : List Nat) (i : Nat) (cr : List (Nat × List Nat × List Nat)) (K : List (Nat × List Nat × List Nat) → St → Prop) (st : St) : Prop :=
  match f with
  | .fn fid caps => freeCallB X d fid (xs ++ caps) objs p i cr K st
  | _ => False
def freeAlloc (k : Nat) (zs : List Value) (p : List Nat) (i : Nat) (cr : List (Nat × List Nat × List Nat)) (K : List (Nat × List Nat × List Nat) → St → Prop) (st : St) : Prop :=
  fixT [] [nm k] st.tmps ∧ fixO [] [nm k] st.objs ∧ away cr p ⟨.ptr (nm k) 0, [], [nm k], [(nm k, vals zs)]⟩ ∧
    K (crOf i ⟨.ptr (nm k) 0, [], [nm k], [(nm k, vals zs)]⟩ cr) ⟨(k, .ptr (nm k) 0) :: st.tmps, (nm k, vals zs) :: st.objs⟩

def freeDo (X : Env) (o : Oper) (objs : List (Nat × List AV)) (r : St) (p : List Nat) (i : Nat) (cr : List (Nat × List Nat × List Nat)) (K : List (Nat × List Nat × List Nat) → St → Prop) (st : St) : Prop :=
  match o.op with
  | .call ⟨.value f, args, _⟩ => freeCall X o.dst (ev X.C r f) (evs X.C r args.toList) objs p i cr K st
  | .alloc t => match o.dst, zeroOf X.C.P t with
    | some k, some zs => freeAlloc k zs p i cr K st
    | _, _ => False
  | .call ⟨.builtin .append, args, tys⟩ => match args.toList, tys.toList with
    | [x, y], [t, t2] => freeP (appFull X.C.P t t2 (ev X.C r x) (ev X.C r y)) p cr o.dst (K cr) st
    | _, _ => False
  | _ => freeP (pureV X.C o r) p cr o.dst (K cr) st

def freeE (X : Env) (all : Array Oper) (objs : List (Nat × List AV)) : List Oper → List (List Nat × List Nat) → Nat → (St → Prop) → List (Nat × List Nat × List Nat) → St → Prop
  | [], _, _, K, _, st => K st
  | _ :: _, [], _, _, _, _ => False
  | o :: os, (p, ts) :: tab, i, K, cr, st =>
    o.dst.isSome = true ∧ match o.guard with
    | none => freeDo X o objs ⟨restr st ts, objs⟩ p i cr (freeE X all objs os tab (i + 1) K) st
    | some (j, b) => match guardOf all j ⟨restr st ts, objs⟩ with
      | some (.v (.bool b')) => splitA b' b (freeDo X o objs ⟨restr (st.learn (gdst all j) b) ts, objs⟩ p i cr (freeE X all objs os tab (i + 1) K) (st.learn (gdst all j) b)) (away cr p ⟨.undef, [], [], []⟩ ∧ freeE X all objs os tab (i + 1) K cr ((st.learn (gdst all j) (!b)).put o.dst .undef))
      | _ => False

section
variable {X : Env} {all : Array Oper} {objs : List (Nat × List AV)}
theorem names_renO {ρ : Rn} : ∀ {o : List (Nat × List AV)} {s : Nat}, s ∈ names (renO ρ o) → s ∈ rngs ρ.m
  | [], s, h => by simp [renO, names] at h
  | (k, c) :: o, s, h => by
    simp only [renO, List.filterMap_cons] at h
    cases hk : lk k ρ.m with
    | none => rw [hk] at h; exact names_renO (o := o) h
    | some k' =>
      rw [hk] at h
      simp only [Option.map_some, names, List.map_cons, List.mem_cons] at h
      rcases h with h | h
      · subst h; simp only [rngs, List.mem_map]; exact ⟨_, lk_mem hk, rfl⟩
      · exact names_renO (o := o) h

theorem freeDo_op {o : Oper} {r st : St} {p : List Nat} {i : Nat} {cr : List (Nat × List Nat × List Nat)} {K : List (Nat × List Nat × List Nat) → St → Prop} (hr : r.objs = objs) (hd : o.dst.isSome = true) (h : freeDo X o objs r p i cr K st) :
    freeOp X o r st p cr fun e => o.dst.isSome = true ∧ K (crOf i e cr) ⟨(St.put o.dst e.x st).tmps, e.upd ++ st.objs⟩ := by
  subst hr
  unfold freeDo at h
  split at h
  · rename_i f args ts ho
    unfold freeCall at h
    split at h
    · rename_i fid caps hf
      obtain ⟨v, ob, y, ob', h1, h2, hm, h3, h4, h5, h6, h7, h8, h9⟩ := h
      rw [evs_map] at h3
      have hbm : rngs v.back.m = rngs v.fm := by simp [Way.back, hm, inv]
      refine ⟨⟨y.ren v.back, rngs v.back.l, rngs v.fm, renO v.back ob'⟩, ?_, h2, fun s hs => ?_, h6, h7, h8, hd, h9⟩
      · have := callG (st := r) ho rfl hf h1 h3 (fun s' cs hs => h4 s' cs hs) h5
        rw [hbm] at this
        exact this
      · rw [← hbm]; exact names_renO hs
    · cases h
  · rename_i t ho
    split at h
    · rename_i k zs hdk hz
      obtain ⟨h6, h7, h8, h9⟩ := h
      refine ⟨⟨.ptr (nm k) 0, [], [nm k], [(nm k, vals zs)]⟩, allocG ho hdk hz, ?_, fun s hs => by simpa [names] using hs, h6, h7, h8, hd, ?_⟩
      · simp [nm]
      · simp only [hdk, St.put]; exact h9
    · cases h
  · rename_i args tys ho
    split at h
    · rename_i x y t t2 hxy htt
      unfold freeP at h
      split at h
      · rename_i z hz
        obtain ⟨h8, h9⟩ := h
        rw [arr2 hxy, arr2 htt] at ho
        refine ⟨⟨z, [], [], []⟩, appFullG ho hz, rfl, (fun s hs => by simp [names] at hs), fixT_nil _, fixO_nil _, h8, hd, ?_⟩
        have e : ∀ s : St, (St.put o.dst z s) = ⟨(St.put o.dst z s).tmps, s.objs⟩ := fun s => by cases o.dst <;> rfl
        simp only [crOf, List.nil_append]
        rw [← e]
        exact h9
      · cases h
    · cases h
  · unfold freeP at h
    split at h
    · rename_i x hx
      obtain ⟨h8, h9⟩ := h
      refine ⟨⟨x, [], [], []⟩, pureG hx, rfl, (fun s hs => by simp [names] at hs), fixT_nil _, fixO_nil _, h8, hd, ?_⟩
      have e : ∀ s : St, (St.put o.dst x s) = ⟨(St.put o.dst x s).tmps, s.objs⟩ := fun s => by cases o.dst <;> rfl
      simp only [crOf, List.nil_append]
      rw [← e]
      exact h9
    · cases h

theorem freeOp.mono {o : Oper} {r st : St} {p : List Nat} {cr : List (Nat × List Nat × List Nat)} {K K' : Res → Prop} (h : freeOp X o r st p cr K) (hk : ∀ e, K e → K' e) : freeOp X o r st p cr K' := by
  obtain ⟨e, h1, h2, h3, h4, h5, h6, h7⟩ := h
  exact ⟨e, h1, h2, h3, h4, h5, h6, hk e h7⟩

theorem freeE_sound {K : St → Prop} : ∀ (os : List Oper) (tab : List (List Nat × List Nat)) (i : Nat) (cr : List (Nat × List Nat × List Nat)) (st : St), freeE X all objs os tab i K cr st → freeA X all objs os tab i cr K st
  | [], tab, i, cr, st, h => h
  | _ :: _, [], _, _, _, h => h
  | o :: os, (p, ts) :: tab, i, cr, st, h => by
    simp only [freeE] at h
    obtain ⟨hd, h⟩ := h
    simp only [freeA]
    have run := fun (st : St) (h : freeDo X o objs ⟨restr st ts, objs⟩ p i cr (freeE X all objs os tab (i + 1) K) st) => (freeDo_op rfl hd h).mono fun e he => (⟨he.1, freeE_sound os tab (i + 1) _ _ he.2⟩ : o.dst.isSome = true ∧ freeA X all objs os tab (i + 1) (crOf i e cr) K ⟨(St.put o.dst e.x st).tmps, e.upd ++ st.objs⟩)
    split at h
    · rename_i hg; rw [hg]; exact run st h
    · rename_i j b hg
      rw [hg]
      simp only
      split at h
      · rename_i b' hb
        rw [hb]
        exact ⟨fun he => run _ (h.1 he), fun he => ⟨hd, (h.2 he).1, freeE_sound os tab (i + 1) _ _ (h.2 he).2⟩⟩
      · exact h.elim

theorem draw_mk {ops : List Oper} {K : St → Prop} {st : St} (k : Nat) (tab : List (List Nat × List Nat)) (hm : X.C.P.follows .mixedOrders = true) (hok : regOK ops.toArray k tab = true)
    (h : freeE X ops.toArray st.objs (ops.take k) tab 0 (opsA X ops.toArray (ops.drop k) K) [] st) : drawA X ops.toArray K st :=
  draw_intro k tab hm hok (by simpa using freeE_sound _ _ _ _ _ h)

theorem freeCall_mk {d : Option Nat} {fid : Nat} {xs xs' : List AV} {p : List Nat} {i : Nat} {cr : List (Nat × List Nat × List Nat)} {K : List (Nat × List Nat × List Nat) → St → Prop} {st : St} {y : AV} {ob ob' : List (Nat × List AV)} (v : Way) (hok : FnOK X.C fid xs' ob y ob') (hx : WeakArgs (renL v.ρ xs) xs') (hv : wayOK v ob = true) (hm : v.ρ.m = []) (hh : HasL v ⟨[], objs⟩ ob)
    (hfl : v.ρ.bs = [] ∨ (Flat (y.ren v.back) ∧ FlatO (renO v.back ob')))
    (h : fixT (rngs v.back.l) (rngs v.fm) st.tmps ∧ fixO (rngs v.back.l) (rngs v.fm) st.objs ∧ away cr p ⟨y.ren v.back, rngs v.back.l, rngs v.fm, renO v.back ob'⟩ ∧
      K (crOf i ⟨y.ren v.back, rngs v.back.l, rngs v.fm, renO v.back ob'⟩ cr) ⟨(St.put d (y.ren v.back) st).tmps, renO v.back ob' ++ st.objs⟩) : freeCallB X d fid xs objs p i cr K st := by
  exact ⟨v, ob, y, ob', (wayOK.ok hv).1, (wayOK.ok hv).2, hm, hok.weak hx.weakL, hh.has, hfl, h⟩
end

@[go_sem] theorem freeP_some (x : AV) (p : List Nat) (cr : List (Nat × List Nat × List Nat)) (d : Option Nat) (K : St → Prop) (st : St) : freeP (some x) p cr d K st = (away cr p ⟨x, [], [], []⟩ ∧ K (st.put d x)) := rfl
@[go_sem] theorem freeCall_fn (X : Env) (d : Option Nat) (fid : Nat) (caps xs : List AV) (objs : List (Nat × List AV)) (p : List Nat) (i : Nat) (cr : List (Nat × List Nat × List Nat)) (K : List (Nat × List Nat × List Nat) → St → Prop) (st : St) : freeCall X d (.fn fid caps) xs objs p i cr K st = freeCallB X d fid (xs ++ caps) objs p i cr K st := rfl
@[go_sem] theorem away_nil (p : List Nat) (r : Res) : away [] p r = True := rfl
@[go_sem] theorem away_cons (i : Nat) (S T : List Nat) (l : List (Nat × List Nat × List Nat)) (p : List Nat) (r : Res) : away ((i, S, T) :: l) p r = ((i ∈ p ∨ (r.x.kill S T = r.x ∧ fixO S T r.upd)) ∧ away l p r) := rfl
@[go_sem] theorem restr_nil (st : St) : restr st [] = [] := rfl
@[go_sem] theorem restr_cons (st : St) (t : Nat) (ts : List Nat) : restr st (t :: ts) = (match lk t st.tmps with
  | some x => (t, x) :: restr st ts
  | none => restr st ts) := rfl
@[go_sem] theorem crOf_nil (i : Nat) (x : AV) (u : List (Nat × List AV)) (cr : List (Nat × List Nat × List Nat)) : crOf i ⟨x, [], [], u⟩ cr = cr := rfl
@[go_sem] theorem crOf_S (i s : Nat) (S T : List Nat) (x : AV) (u : List (Nat × List AV)) (cr : List (Nat × List Nat × List Nat)) : crOf i ⟨x, s :: S, T, u⟩ cr = (i, s :: S, T) :: cr := rfl
@[go_sem] theorem crOf_T (i s : Nat) (T : List Nat) (x : AV) (u : List (Nat × List AV)) (cr : List (Nat × List Nat × List Nat)) : crOf i ⟨x, [], s :: T, u⟩ cr = (i, [], s :: T) :: cr := rfl
attribute [go_sem] freeAlloc fixT fixO

section
variable (X : Env) (all : Array Oper) (objs : List (Nat × List AV)) (K : St → Prop) (os : List Oper) (p ts : List Nat) (tab : List (List Nat × List Nat)) (i : Nat) (cr : List (Nat × List Nat × List Nat)) (st : St) (d : Nat) (ty : TypeId) (pos : String) (aft : Array Edge)
@[go_sem] theorem freeE_nil (tab : List (List Nat × List Nat)) : freeE X all objs [] tab i K cr st = K st := rfl
@[go_sem] theorem fop_guard (op : Op) (j : Nat) (b : Bool) : freeE X all objs (⟨some d, op, ty, pos, aft, some (j, b)⟩ :: os) ((p, ts) :: tab) i K cr st =
    (match guardOf all j ⟨restr st ts, objs⟩ with
      | some (.v (.bool b')) => splitA b' b (freeE X all objs (⟨some d, op, ty, pos, aft, none⟩ :: os) ((p, ts) :: tab) i K cr (st.learn (gdst all j) b)) (away cr p ⟨.undef, [], [], []⟩ ∧ freeE X all objs os tab (i + 1) K cr ((st.learn (gdst all j) (!b)).put (some d) .undef))
      | _ => False) := by
  have e : ∀ r KK st, freeDo X ⟨some d, op, ty, pos, aft, some (j, b)⟩ objs r p i cr KK st = freeDo X ⟨some d, op, ty, pos, aft, none⟩ objs r p i cr KK st := fun r KK st => by cases op <;> rfl
  simp only [freeE, Option.isSome_some, true_and, e]
@[go_sem] theorem fop_call (f : Operand) (args : Array Operand) (tys : Array TypeId) : freeE X all objs (⟨some d, .call ⟨.value f, args, tys⟩, ty, pos, aft, none⟩ :: os) ((p, ts) :: tab) i K cr st = freeCall X (some d) (ev X.C ⟨restr st ts, objs⟩ f) (evs X.C ⟨restr st ts, objs⟩ args.toList) objs p i cr (freeE X all objs os tab (i + 1) K) st := by
  simp only [freeE, Option.isSome_some, true_and]; rfl
@[go_sem] theorem fop_alloc (t : TypeId) : freeE X all objs (⟨some d, .alloc t, ty, pos, aft, none⟩ :: os) ((p, ts) :: tab) i K cr st = (match zeroOf X.C.P t with
    | some zs => freeAlloc d zs p i cr (freeE X all objs os tab (i + 1) K) st
    | none => False) := by
  simp only [freeE, Option.isSome_some, true_and, freeDo]
  cases zeroOf X.C.P t <;> rfl
@[go_sem] theorem fop_move (x : Operand) : freeE X all objs (⟨some d, .move x, ty, pos, aft, none⟩ :: os) ((p, ts) :: tab) i K cr st = freeP (some (ev X.C ⟨restr st ts, objs⟩ x)) p cr (some d) (freeE X all objs os tab (i + 1) K cr) st := by
  simp only [freeE, Option.isSome_some, true_and]; rfl
@[go_sem] theorem fop_assign (x : Operand) : freeE X all objs (⟨some d, .assign x, ty, pos, aft, none⟩ :: os) ((p, ts) :: tab) i K cr st = freeP (some (ev X.C ⟨restr st ts, objs⟩ x)) p cr (some d) (freeE X all objs os tab (i + 1) K cr) st := by
  simp only [freeE, Option.isSome_some, true_and]; rfl
@[go_sem] theorem fop_pick (c a b : Operand) : freeE X all objs (⟨some d, .pick c a b, ty, pos, aft, none⟩ :: os) ((p, ts) :: tab) i K cr st = freeP (pickA (ev X.C ⟨restr st ts, objs⟩ c) (ev X.C ⟨restr st ts, objs⟩ a) (ev X.C ⟨restr st ts, objs⟩ b)) p cr (some d) (freeE X all objs os tab (i + 1) K cr) st := by
  simp only [freeE, Option.isSome_some, true_and]; rfl
@[go_sem] theorem fop_load (t : TypeId) (x : Operand) : freeE X all objs (⟨some d, .load t x, ty, pos, aft, none⟩ :: os) ((p, ts) :: tab) i K cr st = freeP (loadV X.C t (ev X.C ⟨restr st ts, objs⟩ x) objs) p cr (some d) (freeE X all objs os tab (i + 1) K cr) st := by
  simp only [freeE, Option.isSome_some, true_and]; rfl
@[go_sem] theorem fop_fieldAddr (t : TypeId) (x : Operand) (n : Nat) : freeE X all objs (⟨some d, .fieldAddr t x n, ty, pos, aft, none⟩ :: os) ((p, ts) :: tab) i K cr st = freeP ((match offOf X.C.P t n with
    | some off => fieldA off (ev X.C ⟨restr st ts, objs⟩ x)
    | none => none)) p cr (some d) (freeE X all objs os tab (i + 1) K cr) st := by
  simp only [freeE, Option.isSome_some, true_and]; rfl
@[go_sem] theorem fop_indexAddr (t : TypeId) (x y : Operand) : freeE X all objs (⟨some d, .indexAddr t x y, ty, pos, aft, none⟩ :: os) ((p, ts) :: tab) i K cr st = freeP (indexV X.C t (ev X.C ⟨restr st ts, objs⟩ x) (ev X.C ⟨restr st ts, objs⟩ y)) p cr (some d) (freeE X all objs os tab (i + 1) K cr) st := by
  simp only [freeE, Option.isSome_some, true_and]; rfl
@[go_sem] theorem fop_nilCheck (x : Operand) : freeE X all objs (⟨some d, .nilCheck x, ty, pos, aft, none⟩ :: os) ((p, ts) :: tab) i K cr st = freeP (nilA (ev X.C ⟨restr st ts, objs⟩ x)) p cr (some d) (freeE X all objs os tab (i + 1) K cr) st := by
  simp only [freeE, Option.isSome_some, true_and]; rfl
@[go_sem] theorem fop_binOp (op : BinOp) (t t2 : TypeId) (x y : Operand) : freeE X all objs (⟨some d, .binOp op t x y t2, ty, pos, aft, none⟩ :: os) ((p, ts) :: tab) i K cr st = freeP (binA X.C.P op t (ev X.C ⟨restr st ts, objs⟩ x) (ev X.C ⟨restr st ts, objs⟩ y)) p cr (some d) (freeE X all objs os tab (i + 1) K cr) st := by
  simp only [freeE, Option.isSome_some, true_and]; rfl
@[go_sem] theorem fop_unOp (op : UnOp) (t : TypeId) (x : Operand) : freeE X all objs (⟨some d, .unOp op t x, ty, pos, aft, none⟩ :: os) ((p, ts) :: tab) i K cr st = freeP (unA op (ev X.C ⟨restr st ts, objs⟩ x)) p cr (some d) (freeE X all objs os tab (i + 1) K cr) st := by
  simp only [freeE, Option.isSome_some, true_and]; rfl
@[go_sem] theorem fop_convert (s t : TypeId) (x : Operand) : freeE X all objs (⟨some d, .convert s t x, ty, pos, aft, none⟩ :: os) ((p, ts) :: tab) i K cr st = freeP (convP X.C.P s t (ev X.C ⟨restr st ts, objs⟩ x)) p cr (some d) (freeE X all objs os tab (i + 1) K cr) st := by
  simp only [freeE, Option.isSome_some, true_and]; rfl
@[go_sem] theorem fop_extract (x : Operand) (n : Nat) : freeE X all objs (⟨some d, .extract x n, ty, pos, aft, none⟩ :: os) ((p, ts) :: tab) i K cr st = freeP (extractA n (ev X.C ⟨restr st ts, objs⟩ x)) p cr (some d) (freeE X all objs os tab (i + 1) K cr) st := by
  simp only [freeE, Option.isSome_some, true_and]; rfl
@[go_sem] theorem fop_field (t : TypeId) (x : Operand) (n : Nat) : freeE X all objs (⟨some d, .field t x n, ty, pos, aft, none⟩ :: os) ((p, ts) :: tab) i K cr st = freeP (fieldV X.C.P t n (ev X.C ⟨restr st ts, objs⟩ x)) p cr (some d) (freeE X all objs os tab (i + 1) K cr) st := by
  simp only [freeE, Option.isSome_some, true_and]; rfl
@[go_sem] theorem fop_build (t : TypeId) (ps : Array (Nat × Operand)) : freeE X all objs (⟨some d, .build t ps, ty, pos, aft, none⟩ :: os) ((p, ts) :: tab) i K cr st = freeP (buildV X.C t (partsL X.C ⟨restr st ts, objs⟩ ps.toList)) p cr (some d) (freeE X all objs os tab (i + 1) K cr) st := by
  simp only [freeE, Option.isSome_some, true_and]; rfl
@[go_sem] theorem fop_slice (t : TypeId) (x : Operand) (lo hi mx : Option Operand) : freeE X all objs (⟨some d, .slice t x lo hi mx, ty, pos, aft, none⟩ :: os) ((p, ts) :: tab) i K cr st = freeP ((if isOwnSl (ev X.C ⟨restr st ts, objs⟩ x) && mx.isSome then none else (sliceOp X.C ⟨restr st ts, objs⟩ t (ev X.C ⟨restr st ts, objs⟩ x) lo hi mx).map (·.1))) p cr (some d) (freeE X all objs os tab (i + 1) K cr) st := by
  simp only [freeE, Option.isSome_some, true_and]; rfl
@[go_sem] theorem fop_makeFunc (f : Nat) (caps : Array Operand) : freeE X all objs (⟨some d, .makeFunc (.func f) #[] caps, ty, pos, aft, none⟩ :: os) ((p, ts) :: tab) i K cr st = freeP (some (.fn f (evs X.C ⟨restr st ts, objs⟩ caps.toList))) p cr (some d) (freeE X all objs os tab (i + 1) K cr) st := by
  simp only [freeE, Option.isSome_some, true_and]; rfl
@[go_sem] theorem fop_makeInterface (t : TypeId) (x : Operand) : freeE X all objs (⟨some d, .makeInterface t x, ty, pos, aft, none⟩ :: os) ((p, ts) :: tab) i K cr st = freeP ((if X.C.P.concrete t then some (.ifc t (ev X.C ⟨restr st ts, objs⟩ x)) else none)) p cr (some d) (freeE X all objs os tab (i + 1) K cr) st := by
  simp only [freeE, Option.isSome_some, true_and]; rfl
@[go_sem] theorem fop_len (x : Operand) (t : TypeId) : freeE X all objs (⟨some d, .call ⟨.builtin .len, #[x], #[t]⟩, ty, pos, aft, none⟩ :: os) ((p, ts) :: tab) i K cr st = freeP ((if lenOk X.C.P t (ev X.C ⟨restr st ts, objs⟩ x) = true then lenA (ev X.C ⟨restr st ts, objs⟩ x) else none)) p cr (some d) (freeE X all objs os tab (i + 1) K cr) st := by
  simp only [freeE, Option.isSome_some, true_and]; rfl
@[go_sem] theorem fop_append (x y : Operand) (t t2 : TypeId) : freeE X all objs (⟨some d, .call ⟨.builtin .append, #[x, y], #[t, t2]⟩, ty, pos, aft, none⟩ :: os) ((p, ts) :: tab) i K cr st = freeP ((appFull X.C.P t t2 (ev X.C ⟨restr st ts, objs⟩ x) (ev X.C ⟨restr st ts, objs⟩ y))) p cr (some d) (freeE X all objs os tab (i + 1) K cr) st := by
  simp only [freeE, Option.isSome_some, true_and]; rfl
@[go_sem] theorem fop_max (x y : Operand) (tys : Array TypeId) : freeE X all objs (⟨some d, .call ⟨.builtin .max, #[x, y], tys⟩, ty, pos, aft, none⟩ :: os) ((p, ts) :: tab) i K cr st = freeP (maxA (ev X.C ⟨restr st ts, objs⟩ x) (ev X.C ⟨restr st ts, objs⟩ y)) p cr (some d) (freeE X all objs os tab (i + 1) K cr) st := by
  simp only [freeE, Option.isSome_some, true_and]; rfl
@[go_sem] theorem fop_min (x y : Operand) (tys : Array TypeId) : freeE X all objs (⟨some d, .call ⟨.builtin .min, #[x, y], tys⟩, ty, pos, aft, none⟩ :: os) ((p, ts) :: tab) i K cr st = freeP (minA (ev X.C ⟨restr st ts, objs⟩ x) (ev X.C ⟨restr st ts, objs⟩ y)) p cr (some d) (freeE X all objs os tab (i + 1) K cr) st := by
  simp only [freeE, Option.isSome_some, true_and]; rfl
end
attribute [go_sem] convP isOwnSl appFull
end Go.Abs
