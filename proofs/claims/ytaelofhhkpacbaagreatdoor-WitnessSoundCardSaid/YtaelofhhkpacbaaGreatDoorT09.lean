/- part 9 of the proof -/
import Derived.Test.YtaelofhhkpacbaaGreatDoorT08
set_option linter.all false
/- The evaluator's rules, for 'simp only [absgo]'. -/
namespace Go.Abs

def stepP (d : Option Nat) (K : St → Prop) : Option AV → St → Prop
  | some x, st => K (st.put d x)
  | none, _ => False
theorem nd {α : Sort _} {a b : α} (h : a = b) : a = b := h
@[go_sem] theorem stepP_some (d : Option Nat) (K : St → Prop) (x : AV) (st : St) : stepP d K (some x) st = K (st.put d x) := nd rfl
@[go_sem] theorem stepA_some (d : Option Nat) (K : St → Prop) (x : AV) (st : St) : stepA d K (some (x, st)) = K (st.put d x) := nd rfl
theorem stepA_map (d : Option Nat) (K : St → Prop) (o : Option AV) (st : St) : stepA d K (o.map (·, st)) = stepP d K o st := by cases o <;> rfl

@[go_sem] theorem put_some (k : Nat) (x : AV) (t : List (Nat × AV)) (o : List (Nat × List AV)) : St.put (some k) x ⟨t, o⟩ = ⟨(k, x) :: t, o⟩ := rfl
@[go_sem] theorem put_none (x : AV) (st : St) : St.put none x st = st := rfl
@[go_sem] theorem lk_cons {α : Type} (k j : Nat) (x : α) (l : List (Nat × α)) : lk k ((j, x) :: l) = if j = k then some x else lk k l := rfl
@[go_sem] theorem lk_nil' {α : Type} (k : Nat) : lk k ([] : List (Nat × α)) = none := rfl
@[go_sem] theorem ev_tmp (C : Ctx) (k : Nat) (t : List (Nat × AV)) (o : List (Nat × List AV)) : ev C ⟨t, o⟩ (.tmp k) = (lk k t).getD .undef := rfl
@[go_sem] theorem ev_const (C : Ctx) (st : St) (v : Value) : ev C st (.const v) = .v v := rfl
@[go_sem] theorem ev_func (C : Ctx) (st : St) (f : Nat) : ev C st (.func f) = .fn f [] := rfl
@[go_sem] theorem ev_global (C : Ctx) (st : St) (i : Nat) : ev C st (.global i) = (match C.G i with
    | some cs => .ep .no 0 cs 0
    | none => .undef) := rfl

section
variable (X : Env) (Q : Ex → St → Prop) (K : St → Prop) (st : St)
@[go_sem] theorem wpA_skip : wpA X .skip Q = Q .normal := nd rfl
@[go_sem] theorem wpA_region (id : Nat) (ops : Array Oper) : wpA X (.region id ops false) Q = opsA X ops ops.toList (Q .normal) := nd rfl
@[go_sem] theorem wpA_draw (id : Nat) (ops : Array Oper) : wpA X (.region id ops true) Q = drawA X ops (Q .normal) := nd rfl
@[go_sem] theorem wpA_seq (x y : Code) : wpA X (.seq x y) Q = wpA X x (thenA (wpA X y Q) Q) := nd rfl
@[go_sem] theorem wpA_cond (c : Operand) (x y : Code) : wpA X (.cond c x y) Q st = condA (ev X.C st c) (wpA X x Q) (wpA X y Q) st := nd rfl
@[go_sem] theorem wpA_block (id : Nat) (c : Code) : wpA X (.block id c) Q = wpA X c (blockA id Q) := nd rfl
@[go_sem] theorem wpA_loop (c : Code) : wpA X (.loop c) Q = loopA X (wpA X c) Q := nd rfl
@[go_sem] theorem wpA_exit (id : Nat) : wpA X (.exit id) Q = Q (.exit id) := nd rfl
@[go_sem] theorem wpA_ret : wpA X .ret Q = Q .ret := nd rfl
@[go_sem] theorem wpA_scope (c : Code) : wpA X (.scope c) Q = wpA X c Q := nd rfl
@[go_sem] theorem wpA_label (l : Nat) : wpA X (.label l) Q = Q .normal := nd rfl
@[go_sem] theorem thenA_normal : thenA K Q .normal = K := nd rfl
@[go_sem] theorem thenA_exit (i : Nat) : thenA K Q (.exit i) = Q (.exit i) := nd rfl
@[go_sem] theorem thenA_ret : thenA K Q .ret = Q .ret := nd rfl
@[go_sem] theorem blockA_normal (id : Nat) : blockA id Q .normal = Q .normal := nd rfl
@[go_sem] theorem blockA_exit (id i : Nat) : blockA id Q (.exit i) = if i = id then Q .normal else Q (.exit i) := nd rfl
@[go_sem] theorem blockA_ret (id : Nat) : blockA id Q .ret = Q .ret := nd rfl
@[go_sem] theorem condA_b (b : Bool) (K1 K2 : St → Prop) : condA (.v (.bool b)) K1 K2 st = ((b = true → K1 st) ∧ (b = false → K2 st)) := nd rfl

@[go_sem high] theorem condA_true (K1 K2 : St → Prop) : condA (.v (.bool true)) K1 K2 st = K1 st := by simp [condA]
@[go_sem high] theorem condA_false (K1 K2 : St → Prop) : condA (.v (.bool false)) K1 K2 st = K2 st := by simp [condA]
@[go_sem] theorem opsA_nil (all : Array Oper) : opsA X all [] K = K := nd rfl
@[go_sem] theorem evs_nil (C : Ctx) : evs C st [] = [] := rfl
@[go_sem] theorem evs_cons (C : Ctx) (x : Operand) (xs : List Operand) : evs C st (x :: xs) = ev C st x :: evs C st xs := rfl
@[go_sem] theorem callA_mv (d : Option Nat) (f : Nat) (first xs : List AV) : callA X d (.mv f first) xs K st = callB X d f (first ++ xs) K st := nd rfl
@[go_sem] theorem callA_fn (d : Option Nat) (f : Nat) (caps xs : List AV) : callA X d (.fn f caps) xs K st = callB X d f (xs ++ caps) K st := nd rfl

variable (all : Array Oper) (rest : List Oper) (d : Option Nat) (ty : TypeId) (pos : String) (aft : Array Edge)
/-- a guarded operation: as the operation, where the guard's value is as wanted -/
@[go_sem] theorem op_guard (op : Op) (j : Nat) (b : Bool) : opsA X all (⟨d, op, ty, pos, aft, some (j, b)⟩ :: rest) K st =
    (match guardOf all j st with
    | some (.v (.bool b')) => splitA b' b (opsA X all (⟨d, op, ty, pos, aft, none⟩ :: rest) K (st.learn (gdst all j) b)) (opsA X all rest K ((st.learn (gdst all j) (!b)).put d (.tup [])))
    | some (.tup []) => opsA X all rest K (st.put d (.tup []))
    | _ => False) := nd rfl
@[go_sem ↓] theorem splitA_1 (p q : Prop) : splitA true true p q = p := by simp [splitA]
@[go_sem ↓] theorem splitA_2 (p q : Prop) : splitA false true p q = q := by simp [splitA]
@[go_sem ↓] theorem splitA_3 (p q : Prop) : splitA true false p q = q := by simp [splitA]
@[go_sem ↓] theorem splitA_4 (p q : Prop) : splitA false false p q = p := by simp [splitA]
@[go_sem] theorem gdst_def (j : Nat) : gdst all j = (all[j]?).bind (·.dst) := rfl
@[go_sem] theorem learn_some (k : Nat) (b : Bool) (t : List (Nat × AV)) (o : List (Nat × List AV)) : St.learn (some k) b ⟨t, o⟩ = ⟨setT k (.v (.bool b)) t, o⟩ := rfl
def lkO (d : Option Nat) (l : List (Nat × AV)) : Option AV := match d with
  | some k => lk k l
  | none => none
@[go_sem] theorem lkO_some (k : Nat) (l : List (Nat × AV)) : lkO (some k) l = lk k l := rfl
@[go_sem] theorem guardOf_def (j : Nat) : guardOf all j st = lkO ((all[j]?).bind (·.dst)) st.tmps := by
  unfold guardOf lkO
  cases (all[j]?).bind (·.dst) <;> rfl
@[go_sem] theorem splitA_tt (b' : Bool) (p q : Prop) : splitA b' true p q = ((b' = true → p) ∧ (b' = false → q)) := by cases b' <;> simp [splitA]
@[go_sem] theorem splitA_ff (b' : Bool) (p q : Prop) : splitA b' false p q = ((b' = false → p) ∧ (b' = true → q)) := by cases b' <;> simp [splitA]

@[go_sem] theorem op_move (x : Operand) : opsA X all (⟨d, .move x, ty, pos, aft, none⟩ :: rest) K st = opsA X all rest K (st.put d (ev X.C st x)) := nd rfl
@[go_sem] theorem op_assign (x : Operand) : opsA X all (⟨d, .assign x, ty, pos, aft, none⟩ :: rest) K st = opsA X all rest K (st.put d (ev X.C st x)) := nd rfl
@[go_sem] theorem op_makeMap (t : TypeId) (k : Nat) : opsA X all (⟨some k, .makeMap t none, ty, pos, aft, none⟩ :: rest) K st = stepA (some k) (opsA X all rest K) (some (.mp (nmM k), ⟨(st.kill [] [nmM k]).tmps, (nmM k, []) :: (st.kill [] [nmM k]).objs⟩)) := nd rfl
@[go_sem] theorem op_lookup (t : TypeId) (m k : Operand) : opsA X all (⟨d, .lookup t m k false, ty, pos, aft, none⟩ :: rest) K st = stepP d (opsA X all rest K) (lookupV X.C.P t st.objs (ev X.C st m) (ev X.C st k)) st := stepA_map _ _ _ _
def bindO (t : List (Nat × AV)) (o : Option (List (Nat × List AV))) (K : St → Prop) : Prop := match o with
  | some os => K ⟨t, os⟩
  | none => False
@[go_sem] theorem bindO_some (t : List (Nat × AV)) (os : List (Nat × List AV)) (K : St → Prop) : bindO t (some os) K = K ⟨t, os⟩ := nd rfl
@[go_sem] theorem op_mapUpdate (t : TypeId) (m k v : Operand) : opsA X all (⟨none, .mapUpdate t m k v, ty, pos, aft, none⟩ :: rest) K st = bindO st.tmps (insertV X.C.P t st.objs (ev X.C st m) (ev X.C st k) (ev X.C st v)) (opsA X all rest K) := by
  simp only [opsA, operA, doA, stepV]
  cases h : insertV X.C.P t st.objs (ev X.C st m) (ev X.C st k) (ev X.C st v) <;> simp [h, stepA, bindO, put_none]
@[go_sem] theorem lookupV_mp (P : Program) (t : TypeId) (objs : List (Nat × List AV)) (s : Nat) (k : AV) : lookupV P t objs (.mp s) k = (lk s objs).bind fun cs => lookupA P t cs k := rfl
@[go_sem] theorem insertV_mp (P : Program) (t : TypeId) (objs : List (Nat × List AV)) (s : Nat) (k v : AV) : insertV P t objs (.mp s) k v = (lk s objs).bind fun cs => (insertA P t cs k v).map fun cs' => upd s cs' objs := rfl
@[go_sem] theorem op_pick (c a b : Operand) : opsA X all (⟨d, .pick c a b, ty, pos, aft, none⟩ :: rest) K st = stepP d (opsA X all rest K) (pickA (ev X.C st c) (ev X.C st a) (ev X.C st b)) st := stepA_map _ _ _ _
@[go_sem] theorem op_alloc (t : TypeId) (k : Nat) : opsA X all (⟨some k, .alloc t, ty, pos, aft, none⟩ :: rest) K st = stepA (some k) (opsA X all rest K) (match zeroOf X.C.P t with
    | some zs => some (.ptr (nm k) 0, ⟨(st.kill [] [nm k]).tmps, (nm k, vals zs) :: (st.kill [] [nm k]).objs⟩)
    | none => none) := by
  simp only [opsA, operA, doA, stepV]
  cases zeroOf X.C.P t <;> rfl
@[go_sem] theorem op_box (t : TypeId) (x : Operand) (k : Nat) : opsA X all (⟨some k, .box t x, ty, pos, aft, none⟩ :: rest) K st = stepA (some k) (opsA X all rest K) (if okCells (ev X.C st x).cells = true then some (.ptr (nm k) 0, ⟨(st.kill [] [nm k]).tmps, (nm k, killL [] [nm k] (ev X.C st x).cells) :: (st.kill [] [nm k]).objs⟩) else none) := nd rfl
def loadV (C : Ctx) (t : TypeId) (p : AV) (objs : List (Nat × List AV)) : Option AV := match aggOf C.P t, szOf C.P t with
  | some agg, some n => loadA agg n objs p
  | _, _ => none
@[go_sem] theorem loadV_def (C : Ctx) (t : TypeId) (p : AV) (objs : List (Nat × List AV)) : loadV C t p objs = (match aggOf C.P t, szOf C.P t with
  | some agg, some n => loadA agg n objs p
  | _, _ => none) := rfl
@[go_sem] theorem op_load (t : TypeId) (x : Operand) : opsA X all (⟨d, .load t x, ty, pos, aft, none⟩ :: rest) K st = stepP d (opsA X all rest K) (loadV X.C t (ev X.C st x) st.objs) st := by
  simp only [opsA, operA, doA, stepV, loadV]
  rw [← stepA_map]; congr 1
  cases aggOf X.C.P t <;> cases szOf X.C.P t <;> rfl
def bindS (o : Option St) (K : St → Prop) : Prop := match o with
  | some st => K st
  | none => False
@[go_sem] theorem bindS_some (st : St) (K : St → Prop) : bindS (some st) K = K st := nd rfl
@[go_sem] theorem op_store (t : TypeId) (p x : Operand) : opsA X all (⟨none, .store t p x, ty, pos, aft, none⟩ :: rest) K st = (match szOf X.C.P t with
    | some n => bindS (storeA n st (ev X.C st p) (ev X.C st x)) (opsA X all rest K)
    | none => False) := by
  simp only [opsA, operA, doA, stepV]
  cases szOf X.C.P t with
  | none => rfl
  | some n => cases h : storeA n st (ev X.C st p) (ev X.C st x) <;> simp [h, stepA, bindS, put_none]
@[go_sem] theorem op_index (t : TypeId) (x i : Operand) : opsA X all (⟨d, .index t x i, ty, pos, aft, none⟩ :: rest) K st = stepP d (opsA X all rest K) (idxV X.C.P t (ev X.C st i) (ev X.C st x)) st := stepA_map _ _ _ _
@[go_sem] theorem op_fieldAddr (t : TypeId) (x : Operand) (i : Nat) : opsA X all (⟨d, .fieldAddr t x i, ty, pos, aft, none⟩ :: rest) K st = stepP d (opsA X all rest K) (match offOf X.C.P t i with
    | some off => fieldA off (ev X.C st x)
    | none => none) st := by
  simp only [opsA, operA, doA, stepV]
  cases offOf X.C.P t i with
  | none => rfl
  | some off => exact stepA_map _ _ _ _
def indexV (C : Ctx) (t : TypeId) (x i : AV) : Option AV := match i with
  | .v (.int _ k) => match elemOfSlice C.P t with
      | some (_, n) => indexS n k x
      | none => match elemOfArray C.P t with
        | some (len, n) => indexR len n k x
        | none => none
  | _ => none
@[go_sem] theorem indexV_int (C : Ctx) (t : TypeId) (x : AV) (kd : IntKind) (k : Int) : indexV C t x (.v (.int kd k)) = (match elemOfSlice C.P t with
      | some (_, n) => indexS n k x
      | none => match elemOfArray C.P t with
        | some (len, n) => indexR len n k x
        | none => none) := rfl
@[go_sem] theorem op_indexAddr (t : TypeId) (x i : Operand) : opsA X all (⟨d, .indexAddr t x i, ty, pos, aft, none⟩ :: rest) K st = stepP d (opsA X all rest K) (indexV X.C t (ev X.C st x) (ev X.C st i)) st := by
  simp only [opsA, operA, doA, stepV, indexV]
  rw [← stepA_map]; congr 1
  generalize ev X.C st i = v
  cases v <;> try rfl
  rename_i u
  cases u <;> try rfl
  simp only
  cases elemOfSlice X.C.P t <;> cases elemOfArray X.C.P t <;> rfl
@[go_sem] theorem op_nilCheck (x : Operand) : opsA X all (⟨d, .nilCheck x, ty, pos, aft, none⟩ :: rest) K st = stepP d (opsA X all rest K) (nilA (ev X.C st x)) st := stepA_map _ _ _ _
@[go_sem] theorem op_binOp (op : BinOp) (t t2 : TypeId) (x y : Operand) : opsA X all (⟨d, .binOp op t x y t2, ty, pos, aft, none⟩ :: rest) K st = stepP d (opsA X all rest K) (binA X.C.P op t (ev X.C st x) (ev X.C st y)) st := stepA_map _ _ _ _
@[go_sem] theorem op_unOp (op : UnOp) (t : TypeId) (x : Operand) : opsA X all (⟨d, .unOp op t x, ty, pos, aft, none⟩ :: rest) K st = stepP d (opsA X all rest K) (unA op (ev X.C st x)) st := stepA_map _ _ _ _
@[go_sem] theorem op_convert (s t : TypeId) (x : Operand) : opsA X all (⟨d, .convert s t x, ty, pos, aft, none⟩ :: rest) K st = stepA d (opsA X all rest K) (convA X.C.P s t st (ev X.C st x)) := nd rfl
def extractA (i : Nat) : AV → Option AV
  | .tup cs => cs[i]?
  | _ => none
@[go_sem] theorem extractA_tup (i : Nat) (cs : List AV) : extractA i (.tup cs) = cs[i]? := rfl
@[go_sem] theorem op_extract (x : Operand) (i : Nat) : opsA X all (⟨d, .extract x i, ty, pos, aft, none⟩ :: rest) K st = stepP d (opsA X all rest K) (extractA i (ev X.C st x)) st := by
  simp only [opsA, operA, doA, stepV, extractA]
  rw [← stepA_map]; congr 1
  generalize ev X.C st x = v
  cases v <;> rfl
@[go_sem] theorem op_field (t : TypeId) (x : Operand) (i : Nat) : opsA X all (⟨d, .field t x i, ty, pos, aft, none⟩ :: rest) K st = stepP d (opsA X all rest K) (fieldV X.C.P t i (ev X.C st x)) st := stepA_map _ _ _ _
def buildV (C : Ctx) (t : TypeId) (ps : List (Nat × AV)) : Option AV := match zeroOf C.P t, aggOf C.P t with
    | some zs, some true => if sized C.P t = true then (fillA (placeOf C.P t) (vals zs) ps).map .agg else none
    | _, _ => none
@[go_sem] theorem buildV_def (C : Ctx) (t : TypeId) (ps : List (Nat × AV)) : buildV C t ps = (match zeroOf C.P t, aggOf C.P t with
    | some zs, some true => if sized C.P t = true then (fillA (placeOf C.P t) (vals zs) ps).map .agg else none
    | _, _ => none) := rfl
def partsL (C : Ctx) (st : St) : List (Nat × Operand) → List (Nat × AV)
  | [] => []
  | (i, x) :: ps => (i, ev C st x) :: partsL C st ps
@[go_sem] theorem partsL_nil (C : Ctx) : partsL C st [] = [] := rfl
@[go_sem] theorem partsL_cons (C : Ctx) (i : Nat) (x : Operand) (ps : List (Nat × Operand)) : partsL C st ((i, x) :: ps) = (i, ev C st x) :: partsL C st ps := rfl
theorem partsL_eq (C : Ctx) (ps : Array (Nat × Operand)) : parts C st ps = partsL C st ps.toList := by
  unfold parts
  induction ps.toList with
  | nil => rfl
  | cons p l ih => obtain ⟨i, x⟩ := p; simp only [List.map_cons, partsL, ih]
@[go_sem] theorem op_build (t : TypeId) (ps : Array (Nat × Operand)) : opsA X all (⟨d, .build t ps, ty, pos, aft, none⟩ :: rest) K st = stepP d (opsA X all rest K) (buildV X.C t (partsL X.C st ps.toList)) st := by
  simp only [opsA, operA, doA, stepV, buildV, partsL_eq]
  rw [← stepA_map]; congr 1
  cases zeroOf X.C.P t with
  | none => rfl
  | some zs => cases aggOf X.C.P t with
    | none => rfl
    | some b => cases b with
      | false => rfl
      | true =>
        simp only
        split
        · simp [Option.map_map, Function.comp_def]
        · rfl
@[go_sem] theorem op_buildSlice (t : TypeId) (len k : Nat) (ps : Array (Nat × Operand)) : opsA X all (⟨some k, .buildSlice t len ps, ty, pos, aft, none⟩ :: rest) K st = (if k ∈ X.deep then stepA (some k) (opsA X all rest K) (match rowInf X.C.P t with
    | some (e, 1, _) => match zeroOf X.C.P e with
      | some _ => litD (nm k) st len (partsL X.C st ps.toList)
      | none => none
    | _ => none) else stepA (some k) (opsA X all rest K) (match rowInf X.C.P t with
    | some (e, n, _) => match zeroOf X.C.P e with
      | some zs => litA (nm k) n len zs st (partsL X.C st ps.toList)
      | none => none
    | none => none)) := by
  simp only [opsA, operA, doA, inDeep]
  by_cases hk : k ∈ X.deep <;> simp only [hk, if_true, if_false]
  · simp only [deepLit, partsL_eq]
    cases rowInf X.C.P t with
    | none => rfl
    | some p =>
      obtain ⟨e, n, b⟩ := p
      rcases n with _ | _ | n <;> rfl
  · simp only [stepV, partsL_eq]
    cases rowInf X.C.P t with
    | none => rfl
    | some p => rfl
def makeV (C : Ctx) (k : Nat) (t : TypeId) (l c : AV) (st : St) : Option (AV × St) := match some k, rowInf C.P t, l, c with
    | some d, some (e, n, _), .v (.int _ l), .v (.int _ c) => match zeroOf C.P e with
      | some zs => makeA (nm d) n zs st l c
      | none => none
    | _, _, _, _ => none
@[go_sem] theorem makeV_int (C : Ctx) (k : Nat) (t : TypeId) (kl kc : IntKind) (l c : Int) : makeV C k t (.v (.int kl l)) (.v (.int kc c)) st = (match rowInf C.P t with
    | some (e, n, _) => match zeroOf C.P e with
      | some zs => makeA (nm k) n zs st l c
      | none => none
    | none => none) := by
  unfold makeV
  cases rowInf C.P t <;> rfl
@[go_sem] theorem op_makeSlice (t : TypeId) (k : Nat) (l c : Operand) : opsA X all (⟨some k, .makeSlice t l c, ty, pos, aft, none⟩ :: rest) K st = stepA (some k) (opsA X all rest K) (makeV X.C k t (ev X.C st l) (ev X.C st c) st) := nd rfl
def boundV : Option AV → Option (Option Nat)
  | none => some none
  | some x => (natOf x).map some
@[go_sem] theorem boundV_none : boundV none = some none := rfl
@[go_sem] theorem boundV_some (x : AV) : boundV (some x) = (natOf x).map some := rfl
@[go_sem] theorem litBound_eq (C : Ctx) (o : Option Operand) : litBound C st o = boundV (o.map (ev C st)) := by cases o <;> rfl
@[go_sem] theorem op_slice (t : TypeId) (x : Operand) (lo hi mx : Option Operand) : opsA X all (⟨d, .slice t x lo hi mx, ty, pos, aft, none⟩ :: rest) K st = stepA d (opsA X all rest K) (sliceOp X.C st t (ev X.C st x) lo hi mx) := nd rfl
@[go_sem] theorem sliceOp_sl (C : Ctx) (t : TypeId) (tg : Tag) (n : Nat) (es : List (List AV)) (lo hi mx : Option Operand) : sliceOp C st t (.sl tg n es) lo hi mx = (match litBound C st lo, litBound C st hi, litBound C st mx, elemOfSlice C.P t with
    | some l, some (some h), some none, some (_, m) => if n = m then sliceA m false (l.getD 0) h st (.sl tg n es) else none
    | some l, some none, some none, some (_, m) => if n = m then sliceA m false (l.getD 0) es.length st (.sl tg n es) else none
    | some l, some (some h), some (some x), some (_, m) => if n = m ∧ x = h then sliceA m true (l.getD 0) h st (.sl tg n es) else none
    | _, _, _, _ => none) := by
  unfold sliceOp
  cases litBound C st lo with
  | none => rfl
  | some l => cases litBound C st hi with
    | none => rfl
    | some h => cases litBound C st mx with
      | none => cases h <;> rfl
      | some m => cases elemOfSlice C.P t with
        | none => cases h <;> cases m <;> rfl
        | some p =>
          obtain ⟨e, k⟩ := p
          simp only [elems]
          by_cases hn : n = k
          · cases h <;> cases m <;> simp [hn]
          · cases h <;> cases m <;> simp [hn]
@[go_sem] theorem sliceOp_nil (C : Ctx) (t : TypeId) (lo hi mx : Option Operand) : sliceOp C st t (.v (.slice none 0 0)) lo hi mx = (match litBound C st lo, litBound C st hi, litBound C st mx, elemOfSlice C.P t with
    | some l, some h, some none, some (_, m) => sliceA m false (l.getD 0) (h.getD 0) st (.v (.slice none 0 0))
    | some l, some (some h), some (some x), some (_, m) => if x = h then sliceA m true (l.getD 0) h st (.v (.slice none 0 0)) else none
    | _, _, _, _ => none) := by
  unfold sliceOp
  cases litBound C st lo with
  | none => rfl
  | some l => cases litBound C st hi with
    | none => rfl
    | some h => cases litBound C st mx with
      | none => cases h <;> rfl
      | some m => cases elemOfSlice C.P t with
        | none => cases h <;> cases m <;> rfl
        | some p => cases h <;> cases m <;> rfl
@[go_sem] theorem sliceOp_str (C : Ctx) (t : TypeId) (s : ByteArray) (lo hi : Option Operand) : sliceOp C st t (.v (.string s)) lo hi none = (match litBound C st lo, litBound C st hi, elemOfSlice C.P t with
    | some l, some h, none => if strT C.P t ∧ l.getD 0 ≤ h.getD s.size ∧ h.getD s.size ≤ s.size then some (.v (.string (s.extract (l.getD 0) (h.getD s.size))), st) else none
    | _, _, _ => none) := by
  unfold sliceOp
  cases litBound C st lo with
  | none => rfl
  | some l => cases litBound C st hi with
    | none => rfl
    | some h => cases elemOfSlice C.P t with
      | none => rfl
      | some p => rfl
@[go_sem] theorem op_makeFunc1 (f : Nat) (x : Operand) : opsA X all (⟨d, .makeFunc (.func f) #[x] #[], ty, pos, aft, none⟩ :: rest) K st = opsA X all rest K (st.put d (.mv f [ev X.C st x])) := nd rfl
@[go_sem] theorem op_makeFunc (f : Nat) (caps : Array Operand) : opsA X all (⟨d, .makeFunc (.func f) #[] caps, ty, pos, aft, none⟩ :: rest) K st = opsA X all rest K (st.put d (.fn f (evs X.C st caps.toList))) := by
  rw [evs_map]; rfl
@[go_sem] theorem op_makeInterface (t : TypeId) (x : Operand) : opsA X all (⟨d, .makeInterface t x, ty, pos, aft, none⟩ :: rest) K st = (if X.C.P.concrete t then opsA X all rest K (st.put d (.ifc t (ev X.C st x))) else False) := by
  simp only [opsA, operA, doA, stepV]
  split <;> rfl
@[go_sem] theorem op_call (f : Operand) (args : Array Operand) (ts : Array TypeId) : opsA X all (⟨d, .call ⟨.value f, args, ts⟩, ty, pos, aft, none⟩ :: rest) K st = callA X d (ev X.C st f) (evs X.C st args.toList) (opsA X all rest K) st := nd rfl
@[go_sem] theorem op_len (x : Operand) (t : TypeId) : opsA X all (⟨d, .call ⟨.builtin .len, #[x], #[t]⟩, ty, pos, aft, none⟩ :: rest) K st = (if lenOk X.C.P t (ev X.C st x) = true then stepP d (opsA X all rest K) (lenA (ev X.C st x)) st else False) := by
  simp only [opsA, operA, doA, stepV, builtinV]
  split
  · exact stepA_map _ _ _ _
  · rfl
@[go_sem] theorem op_append (x y : Operand) (t t2 : TypeId) (k : Nat) : opsA X all (⟨some k, .call ⟨.builtin .append, #[x, y], #[t, t2]⟩, ty, pos, aft, none⟩ :: rest) K st = (if k ∈ X.deep then stepA (some k) (opsA X all rest K) (match rowInf X.C.P t with
    | some (_, 1, _) => if isSliceT X.C.P t2 = true then appendD (nm k) st (ev X.C st x) (ev X.C st y) else none
    | _ => none) else (match rowInf X.C.P t with
    | some (e, n, _) => if isSliceT X.C.P t2 = true then stepA (some k) (opsA X all rest K) (appendA (nm k) n st (ev X.C st x) (ev X.C st y)) else stepA (some k) (opsA X all rest K) (match zeroOf X.C.P e with
      | some zs => appendNA X.C.P (nm k) n t2 zs st (ev X.C st x) (ev X.C st y)
      | none => none)
    | none => False)) := by
  simp only [opsA, operA, doA, inDeep]
  by_cases hk : k ∈ X.deep <;> simp only [hk, if_true, if_false]
  · simp only [deepApp]
    cases rowInf X.C.P t with
    | none => rfl
    | some p =>
      obtain ⟨e, n, b⟩ := p
      rcases n with _ | _ | n <;> rfl
  · simp only [stepV, builtinV]
    cases rowInf X.C.P t with
    | none => rfl
    | some p =>
      obtain ⟨e, n, b⟩ := p
      simp only
      split <;> rfl
@[go_sem] theorem op_copy (x y : Operand) (t t2 : TypeId) : opsA X all (⟨d, .call ⟨.builtin .copy, #[x, y], #[t, t2]⟩, ty, pos, aft, none⟩ :: rest) K st = stepA d (opsA X all rest K) (copyA X.C.P t st (ev X.C st x) (ev X.C st y)) := nd rfl
@[go_sem] theorem op_clear (x : Operand) (t : TypeId) : opsA X all (⟨d, .call ⟨.builtin .clear, #[x], #[t]⟩, ty, pos, aft, none⟩ :: rest) K st = stepA d (opsA X all rest K) (clearA X.C.P t st (ev X.C st x)) := nd rfl
@[go_sem] theorem op_cap (x : Operand) (t : TypeId) : opsA X all (⟨d, .call ⟨.builtin .cap, #[x], #[t]⟩, ty, pos, aft, none⟩ :: rest) K st = stepP d (opsA X all rest K) (capA X.C.P t (ev X.C st x)) st := stepA_map _ _ _ _
def maxA : AV → AV → Option AV
  | .v (.int k a), .v (.int _ b) => some (.v (.int k (if b > a then b else a)))
  | _, _ => none
def minA : AV → AV → Option AV
  | .v (.int k a), .v (.int _ b) => some (.v (.int k (if b < a then b else a)))
  | _, _ => none
@[go_sem] theorem maxA_int (k k' : IntKind) (a b : Int) : maxA (.v (.int k a)) (.v (.int k' b)) = some (.v (.int k (if b > a then b else a))) := rfl
@[go_sem] theorem minA_int (k k' : IntKind) (a b : Int) : minA (.v (.int k a)) (.v (.int k' b)) = some (.v (.int k (if b < a then b else a))) := rfl
@[go_sem] theorem op_max (x y : Operand) (ts : Array TypeId) : opsA X all (⟨d, .call ⟨.builtin .max, #[x, y], ts⟩, ty, pos, aft, none⟩ :: rest) K st = stepP d (opsA X all rest K) (maxA (ev X.C st x) (ev X.C st y)) st := by
  simp only [opsA, operA, doA, stepV, builtinV, maxA]
  rw [← stepA_map]; congr 1
  generalize ev X.C st x = v
  generalize ev X.C st y = v'
  cases v with
  | v u => cases v' with
    | v u' => cases u <;> cases u' <;> rfl
    | _ => cases u <;> rfl
  | _ => rfl
@[go_sem] theorem op_min (x y : Operand) (ts : Array TypeId) : opsA X all (⟨d, .call ⟨.builtin .min, #[x, y], ts⟩, ty, pos, aft, none⟩ :: rest) K st = stepP d (opsA X all rest K) (minA (ev X.C st x) (ev X.C st y)) st := by
  simp only [opsA, operA, doA, stepV, builtinV, minA]
  rw [← stepA_map]; congr 1
  generalize ev X.C st x = v
  generalize ev X.C st y = v'
  cases v with
  | v u => cases v' with
    | v u' => cases u <;> cases u' <;> rfl
    | _ => cases u <;> rfl
  | _ => rfl
end

-- values
@[go_sem] theorem lenOk_sl (P : Program) (t : TypeId) (tg : Tag) (n : Nat) (es : List (List AV)) : lenOk P t (.sl tg n es) = isSliceT P t := rfl
@[go_sem] theorem lenOk_nil (P : Program) (t : TypeId) : lenOk P t (.v (.slice none 0 0)) = isSliceT P t := rfl
@[go_sem] theorem lenOk_str (P : Program) (t : TypeId) (s : ByteArray) : lenOk P t (.v (.string s)) = strT P t := rfl
@[go_sem] theorem lenA_sl (tg : Tag) (n : Nat) (es : List (List AV)) : lenA (.sl tg n es) = some (.v (.int .i64 es.length)) := rfl
@[go_sem] theorem lenA_mem (xs : List AV) : lenA (.mem true xs) = some (.v (.int .i64 xs.length)) := rfl
@[go_sem] theorem lenOk_mem (P : Program) (t : TypeId) (b : Bool) (xs : List AV) : lenOk P t (.mem b xs) = isSliceT P t := rfl
@[go_sem] theorem lenA_nil : lenA (.v (.slice none 0 0)) = some (.v (.int .i64 0)) := rfl
@[go_sem] theorem lenA_str (s : ByteArray) : lenA (.v (.string s)) = some (.v (.int .i64 s.size)) := rfl
@[go_sem] theorem lenA_dsl (r i j off m : Nat) (bss : List (List (List AV))) : lenA (.hnd .dsl r i j off m bss) = some (.v (.int .i64 bss.length)) := rfl
@[go_sem] theorem lenA_isl (r i j off m : Nat) (b : List (List AV)) : lenA (.hnd .isl r i j off m [b]) = some (.v (.int .i64 b.length)) := rfl
@[go_sem] theorem lenOk_hnd (P : Program) (t : TypeId) (k : HK) (r i j off m : Nat) (b : List (List (List AV))) : lenOk P t (.hnd k r i j off m b) = isSliceT P t := rfl
@[go_sem] theorem pickA_b (p x y : Bool) : pickA (.v (.bool p)) (.v (.bool x)) (.v (.bool y)) = some (.v (.bool (bif p then x else y))) := rfl
@[go_sem high] theorem pickA_tt (x y : AV) : pickA (.v (.bool true)) x y = some x := by unfold pickA; split <;> simp_all
@[go_sem high] theorem pickA_ff (x y : AV) : pickA (.v (.bool false)) x y = some y := by unfold pickA; split <;> simp_all
@[go_sem] theorem nilA_ptr (s o : Nat) : nilA (.ptr s o) = some (.ptr s o) := rfl
@[go_sem] theorem nilA_ep (t : Tag) (i : Nat) (cs : List AV) (o : Nat) : nilA (.ep t i cs o) = some (.ep t i cs o) := rfl
@[go_sem] theorem nilA_fn (f : Nat) (cs : List AV) : nilA (.fn f cs) = some (.fn f cs) := rfl
attribute [go_sem] cond_true cond_false bne_self_eq_false setT mkA loadA fieldA indexS indexR elems storeA litA makeA natOf appendA sliceA fillA fieldV idxV
  AV.cells okCell okCells upd cut pureA pureL rowsOf vals chunk
  AV.kill killL killT killO St.kill AV.freeze freezeL nm unA binA intBin shiftBin strBin eqVals valsOf
  AV.setRow setRowL St.setRow AV.setRun setRunL setRunT setRunO St.setRun copyA clearA capA appendNA Option.isNone_none Option.isNone_some AV.setInn setInnL St.setInn Hset plainL litD appendD frozen St.freeze convA
  List.map_cons List.map_nil List.length_cons List.length_nil List.drop_zero List.drop_succ_cons List.take_succ_cons List.take_zero List.drop_nil List.take_nil List.cons_append List.nil_append List.append_nil
  List.getElem?_toArray List.getElem?_cons_zero List.getElem?_cons_succ List.flatten_cons List.flatten_nil List.replicate_zero List.replicate_succ
  Option.map_some Option.map_none Option.getD_some Option.getD_none Option.bind_some Option.bind_none
  if_true if_false Nat.reduceEqDiff Nat.reduceAdd Nat.reduceMul Nat.reduceLeDiff Nat.reduceSub Nat.reduceLT Nat.zero_add Nat.add_zero and_true true_and and_self List.mem_cons List.mem_nil_iff List.not_mem_nil or_false false_or or_self not_false_eq_true not_true_eq_false
  Bool.false_eq_true Bool.true_eq_false Bool.not_true Bool.not_false Bool.and_true Bool.true_and Bool.false_and Bool.and_false beq_self_eq_true decide_true decide_false reduceCtorEq forall_const implies_true false_implies
theorem natOf_pos (k : IntKind) (i : Int) (h : 0 ≤ i) : natOf (.v (.int k i)) = some i.toNat := by simp [natOf, h]
@[go_sem] theorem cast_nonneg (n : Nat) : (0 ≤ (n : Int)) = True := by simp
@[go_sem] theorem tt_beq (b : Bool) : (true == b) = b := by cases b <;> rfl
@[go_sem] theorem ff_beq (b : Bool) : (false == b) = !b := by cases b <;> rfl
@[go_sem] theorem beq_tt (b : Bool) : (b == true) = b := by cases b <;> rfl
@[go_sem] theorem beq_ff (b : Bool) : (b == false) = !b := by cases b <;> rfl
attribute [go_sem] Int.cast_ofNat_Int Int.reduceBNe Int.reduceBEq Bool.not_not Int.toNat_natCast Int.toNat_zero Int.reduceLE Int.reduceLT Int.reduceToNat Int.reduceAdd Int.reduceSub Int.reduceMul Int.reduceNeg Nat.le_refl Nat.zero_le Nat.sub_zero List.take_length List.length_take List.length_drop List.length_append List.length_map
theorem wrap64 (n : Int) (h1 : -9223372036854775808 ≤ n) (h2 : n ≤ 9223372036854775807) : IntKind.i64.wrap n = n := by
  simp only [IntKind.wrap, IntKind.signed, IntKind.bits, Bool.true_and, decide_eq_true_eq, ge_iff_le, Nat.reduceSub]
  split <;> omega
theorem wrap32 (n : Int) (h1 : -2147483648 ≤ n) (h2 : n ≤ 2147483647) : IntKind.i32.wrap n = n := by
  simp only [IntKind.wrap, IntKind.signed, IntKind.bits, Bool.true_and, decide_eq_true_eq, ge_iff_le, Nat.reduceSub]
  split <;> omega
theorem wrapu8 (n : Int) (h1 : 0 ≤ n) (h2 : n ≤ 255) : IntKind.u8.wrap n = n := by
  simp only [IntKind.wrap, IntKind.signed, IntKind.bits, Bool.false_and, Bool.false_eq_true, if_false]
  omega
theorem wrapu32 (n : Int) (h1 : 0 ≤ n) (h2 : n ≤ 4294967295) : IntKind.u32.wrap n = n := by
  simp only [IntKind.wrap, IntKind.signed, IntKind.bits, Bool.false_and, Bool.false_eq_true, if_false]
  omega
theorem wrapu64 (n : Int) (h1 : 0 ≤ n) (h2 : n ≤ 18446744073709551615) : IntKind.u64.wrap n = n := by
  simp only [IntKind.wrap, IntKind.signed, IntKind.bits, Bool.false_and, Bool.false_eq_true, if_false]
  omega

@[go_sem] theorem renO_nil (ρ : Rn) : renO ρ [] = [] := rfl
@[go_sem] theorem renO_cons (ρ : Rn) (k : Nat) (cs : List AV) (o : List (Nat × List AV)) : renO ρ ((k, cs) :: o) = (match lk k ρ.m with | some s => (s, renL ρ cs) :: renO ρ o | none => renO ρ o) := by
  simp only [renO, List.filterMap_cons]
  cases lk k ρ.m <;> rfl
attribute [go_sem] names argT AV.ren renL renT renSt inv rngs Way.back WeakT WeakO pack List.filterMap_cons_some List.filterMap_cons_none List.filterMap_nil List.map_map List.mem_singleton
theorem ret_intro {X : Env} {rs : List ResultVar} {y : AV} {o' : List (Nat × List AV)} {st : St} (xs : List AV) (ρ : Rn) (h1 : resVs X.C st rs = some xs) (h2 : ρ.OK) (h3 : ∀ s ∈ X.ext, lk s ρ.m = some s) (h4 : WeakV ((pack xs).ren ρ) y) (h5 : WeakO (renSt ρ st) o') : (∃ xs ρ, resVs X.C st rs = some xs ∧ ρ.OK ∧ (∀ s ∈ X.ext, lk s ρ.m = some s) ∧ WeakV ((pack xs).ren ρ) y ∧ WeakO (renSt ρ st) o') :=
  ⟨xs, ρ, h1, h2, h3, h4, h5⟩
attribute [go_sem ↓] reduceIte
theorem St.eta_app (K : St → Prop) (st : St) : K ⟨st.tmps, st.objs⟩ = K st := rfl
def frzT (S : List Nat) : List (Nat × AV) → List (Nat × AV)
  | [] => []
  | (k, x) :: l => (k, x.freeze S) :: frzT S l
end Go.Abs
/- Rules for calls, loops and returns, as the proofs use them. -/
namespace Go.Abs

def HasL (v : Way) (st : St) : List (Nat × List AV) → Prop
  | [] => True
  | (s, cs) :: l => lk s (renO v.ρ st.objs) = some cs ∧ HasL v st l
theorem HasL.has {v : Way} {st : St} : ∀ {ob : List (Nat × List AV)}, HasL v st ob → Has v st ob
  | (s, c) :: l, h, s', cs, hs => by
    simp only [lk] at hs
    split at hs
    · rename_i he; injection hs with hs; subst hs; subst he; exact h.1
    · exact HasL.has h.2 s' cs hs

def wayOK (v : Way) (ob : List (Nat × List AV)) : Bool :=
  okRen v.ρ.l && okRen v.ρ.m && okRen v.back.l && okRen v.back.m && (rngs v.ρ.m).all (fun s => (names ob).contains s) && (rngs v.fm).all (fun s => s % 64 != 63)

theorem wayOK.ok {v : Way} {ob : List (Nat × List AV)} (h : wayOK v ob = true) : v.OK ob ∧ (rngs v.fm).all (fun s => s % 64 != 63) = true := by
  simp only [wayOK, Bool.and_eq_true] at h
  obtain ⟨⟨⟨⟨⟨h1, h2⟩, h3⟩, h4⟩, h5⟩, h6⟩ := h
  refine ⟨⟨⟨h1, h2⟩, ⟨h3, h4⟩, fun s hs => ?_⟩, h6⟩
  have := List.all_eq_true.1 h5 s hs
  simpa using this

section
variable {X : Env} {d : Option Nat} {fid : Nat} {xs xs' : List AV} {K : St → Prop} {st : St} {y y' : AV} {ob ob' : List (Nat × List AV)}

theorem FnOK.weak {C : Ctx} {f : Nat} {xs ys : List AV} {o o' : List (Nat × List AV)} {y : AV} (h : FnOK C f ys o y o') (hw : WeakL xs ys) : FnOK C f xs o y o' :=
  ⟨h.1, fun g w us hg hv ho => h.2 g w us hg (hw g w us hv) ho⟩
/-- the same function, its result (and boxes) under other names, or read-only -/
theorem FnOK.ren {C : Ctx} {f : Nat} {xs : List AV} {o o' : List (Nat × List AV)} {y : AV} (h : FnOK C f xs o y o') (ρ : Rn) (hρ : ρ.OK) (hext : ∀ s, s ∈ names o → lk s ρ.m = some s) : FnOK C f xs o (y.ren ρ) (renO ρ o') :=
  ⟨h.1, fun g w us hg hv ho => Calls.mono (h.2 g w us hg hv ho) fun e w' ⟨u, g', he, hfr, hy, ho'⟩ => ⟨u, g'.ren ρ g', he, hfr.ren hρ hext, VR.ren hρ _ _ hy, fun s cs hs => by
    obtain ⟨s0, cs0, h1, h2, rfl⟩ := lk_renO hρ hs
    exact ObjAt.ren hρ h1 (ho' s0 cs0 h2)⟩⟩
def HasW (v : Way) (st : St) : List (Nat × List AV) → Prop
  | [] => True
  | (s, cs) :: l => (∃ x, lk s (renO v.ρ st.objs) = some x ∧ WeakArgs x cs) ∧ HasW v st l
def WeakOs : List (Nat × List AV) → List (Nat × List AV) → Prop
  | [], [] => True
  | (s, x) :: l, (s', y) :: l' => s = s' ∧ WeakL x y ∧ WeakOs l l'
  | _, _ => False
theorem HasW.split {v : Way} {st : St} : ∀ {ob : List (Nat × List AV)}, HasW v st ob → ∃ o2, names o2 = names ob ∧ HasL v st o2 ∧ WeakOs o2 ob
  | [], _ => ⟨[], rfl, trivial, trivial⟩
  | (s, cs) :: l, ⟨⟨x, h1, h2⟩, h3⟩ => by
    obtain ⟨o2, a, b, c⟩ := HasW.split h3
    exact ⟨(s, x) :: o2, by simp only [names, List.map_cons] at a ⊢; rw [a], ⟨h1, b⟩, rfl, h2.weakL, c⟩
theorem WeakOs.get : ∀ {o2 ob : List (Nat × List AV)}, WeakOs o2 ob → ∀ s cs, lk s ob = some cs → ∃ x, lk s o2 = some x ∧ WeakL x cs
  | [], [], _, s, cs, h => by cases h
  | (k, x) :: o2, (k', y) :: ob, ⟨e, hw, hr⟩, s, cs, h => by
    subst e
    simp only [lk] at h ⊢
    split at h
    · rename_i he
      injection h with h; subst h
      exact ⟨x, by simp [he], hw⟩
    · rename_i he
      obtain ⟨x', h1, h2⟩ := WeakOs.get hr s cs h
      exact ⟨x', by simp [he, h1], h2⟩
  | [], _ :: _, h, _, _, _ => h.elim
  | _ :: _, [], h, _, _, _ => h.elim
theorem FnOK.weakO {C : Ctx} {f : Nat} {xs : List AV} {o o2 o' : List (Nat × List AV)} {y : AV} (h : FnOK C f xs o y o') (hn : names o2 = names o) (hw : WeakOs o2 o) : FnOK C f xs o2 y o' :=
  ⟨h.1, fun g w us hg hv ho => by
    have := h.2 g w us hg hv fun s cs hs => by
      obtain ⟨x, h1, h2⟩ := hw.get s cs hs
      exact (ho s x h1).lift rfl (ho s x h1).1 rfl (fun us hu => h2 g w _ hu)
    rw [hn]; exact this⟩
mutual
theorem freeze_nil : ∀ x : AV, x.freeze [] = x
  | .undef => rfl
  | .v x => rfl
  | .agg cs => by simp only [AV.freeze, freezeL_nil cs]
  | .tup cs => by simp only [AV.freeze, freezeL_nil cs]
  | .sl (.own r lo) n es => by simp [AV.freeze]
  | .sl .no n es => rfl
  | .sl .full n es => rfl
  | .ptr s off => rfl
  | .ep (.own r lo) i cells off => by simp [AV.freeze]
  | .ep .no i cells off => rfl
  | .ep .full i cells off => rfl
  | .fn f caps => by simp only [AV.freeze, freezeL_nil caps]
  | .mv f caps => by simp only [AV.freeze, freezeL_nil caps]
  | .mp o => rfl
  | .ifc t x => by simp only [AV.freeze, freeze_nil x]
  | .hnd k r i j off m bss => by simp [AV.freeze]
  | .mem b xs => by simp only [AV.freeze, freezeL_nil xs]
theorem freezeL_nil : ∀ xs : List AV, freezeL [] xs = xs
  | [] => rfl
  | x :: xs => by simp only [freezeL, freeze_nil x, freezeL_nil xs]
end
theorem St.freeze_nil (st : St) : st.freeze [] = st := by
  simp [St.freeze, Abs.freeze_nil, Abs.freezeL_nil]
theorem callB_mk (v : Way) (hok : FnOK X.C fid xs' ob y ob') (hx : WeakArgs (renL v.ρ xs) xs') (hv : wayOK v ob = true) (hh : HasW v st ob) (hfl : v.ρ.bs = [] ∨ (Flat (y.ren v.back) ∧ FlatO (renO v.back ob')))
    (hk : K ((st.app (rngs v.back.l) (rngs v.fm) (rngs v.back.m) (renO v.back ob')).put d (y.ren v.back))) : callB X d fid xs K st := by
  obtain ⟨o2, a, b, c⟩ := hh.split
  have hv' : wayOK v o2 = true := by unfold wayOK at hv ⊢; rw [a]; exact hv
  refine .inl ⟨[], v, o2, (fun y2 o3 => y2 = y ∧ o3 = ob'), (wayOK.ok hv').1, (wayOK.ok hv').2, ?_, ?_, fun y2 o3 hS => ?_⟩
  · rw [freezeL_nil]; exact ((hok.weak hx.weakL).weakO a c).toP
  · rw [St.freeze_nil]; exact b.has
  · obtain ⟨h1, h2⟩ := hS
    subst h1; subst h2
    rw [St.freeze_nil]; exact ⟨hfl, hk⟩
/-- a call before which the rows fz are made read-only -/
theorem callB_fz (fz : List Nat) (v : Way) (hok : FnOK X.C fid xs' ob y ob') (hx : WeakArgs (renL v.ρ (freezeL fz xs)) xs') (hv : wayOK v ob = true) (hh : HasW v (st.freeze fz) ob) (hfl : v.ρ.bs = [] ∨ (Flat (y.ren v.back) ∧ FlatO (renO v.back ob')))
    (hk : K (((st.freeze fz).app (rngs v.back.l) (rngs v.fm) (rngs v.back.m) (renO v.back ob')).put d (y.ren v.back))) : callB X d fid xs K st := by
  obtain ⟨o2, a, b, c⟩ := hh.split
  have hv' : wayOK v o2 = true := by unfold wayOK at hv ⊢; rw [a]; exact hv
  refine .inl ⟨fz, v, o2, (fun y2 o3 => y2 = y ∧ o3 = ob'), (wayOK.ok hv').1, (wayOK.ok hv').2, ((hok.weak hx.weakL).weakO a c).toP, b.has, fun y2 o3 hS => ?_⟩
  obtain ⟨h1, h2⟩ := hS
  subst h1; subst h2
  exact ⟨hfl, hk⟩
theorem FnP.weak {C : Ctx} {f : Nat} {xs ys : List AV} {o : List (Nat × List AV)} {S : AV → List (Nat × List AV) → Prop} (h : FnP C f ys o S) (hw : WeakL xs ys) : FnP C f xs o S :=
  ⟨h.1, fun g w us hg hv ho => h.2 g w us hg (hw g w us hv) ho⟩
theorem FnP.weakO {C : Ctx} {f : Nat} {xs : List AV} {o o2 : List (Nat × List AV)} {S : AV → List (Nat × List AV) → Prop} (h : FnP C f xs o S) (hn : names o2 = names o) (hw : WeakOs o2 o) : FnP C f xs o2 S :=
  ⟨h.1, fun g w us hg hv ho => by
    have := h.2 g w us hg hv fun s cs hs => by
      obtain ⟨x, h1, h2⟩ := hw.get s cs hs
      exact (ho s x h1).lift rfl (ho s x h1).1 rfl (fun us hu => h2 g w _ hu)
    rw [hn]; exact this⟩
/-- a call whose result is known by a property -/
theorem callP_mk (v : Way) {S : AV → List (Nat × List AV) → Prop} (hok : FnP X.C fid xs' ob S) (hx : WeakArgs (renL v.ρ xs) xs') (hv : wayOK v ob = true) (hh : HasW v st ob) (hbs : v.ρ.bs = [])
    (hk : ∀ y ob', S y ob' → K ((st.app (rngs v.back.l) (rngs v.fm) (rngs v.back.m) (renO v.back ob')).put d (y.ren v.back))) : callB X d fid xs K st := by
  obtain ⟨o2, a, b, c⟩ := hh.split
  have hv' : wayOK v o2 = true := by unfold wayOK at hv ⊢; rw [a]; exact hv
  refine .inl ⟨[], v, o2, S, (wayOK.ok hv').1, (wayOK.ok hv').2, ?_, ?_, fun y2 o3 hS => ?_⟩
  · rw [freezeL_nil]; exact (hok.weak hx.weakL).weakO a c
  · rw [St.freeze_nil]; exact b.has
  · rw [St.freeze_nil]; exact ⟨.inl hbs, hk _ _ hS⟩
/-- a call that changes a row in place -/
theorem callR_mk {r n : Nat} {es es' : List (List AV)} {ys : List AV} (hok : FnRow X.C fid n es ys es') (hx : xs = .sl (.own r 0) n es :: ys) (hk : K ((st.setRun r n 0 es').put d (.tup []))) : callB X d fid xs K st :=
  .inr ⟨r, n, es, ys, es', hx, hok, hk⟩

theorem dropO_nil : ∀ l : List (Nat × List AV), dropO [] l = l
  | [] => rfl
  | (k, x) :: l => by simp [dropO, dropO_nil l]
theorem app_nil : st.app [] [] [] [] = st := by simp [St.app, dropO_nil, killT_nil, killO_nil]

/-- a call that is handed values and hands back a value -/
theorem call_pure (hok : FnOK X.C fid xs' [] y []) (hx : WeakArgs (renL ⟨[], [], []⟩ xs) xs') (hy : y.ren ⟨[], [], []⟩ = y') (hk : K (st.put d y')) : callB X d fid xs K st := by
  refine callB_mk ⟨⟨[], [], []⟩, [], []⟩ hok hx rfl trivial (.inl rfl) ?_
  show K ((st.app [] [] [] []).put d (y.ren ⟨[], [], []⟩))
  rw [app_nil, hy]
  exact hk
/-- a call that is handed rows for good -/
theorem call_frz (fz : List Nat) (hok : FnOK X.C fid xs' [] y []) (hx : WeakArgs (renL ⟨[], [], []⟩ (freezeL fz xs)) xs') (hy : y.ren ⟨[], [], []⟩ = y') (hk : K ((st.freeze fz).put d y')) : callB X d fid xs K st := by
  refine callB_fz fz ⟨⟨[], [], []⟩, [], []⟩ hok hx rfl trivial (.inl rfl) ?_
  show K (((st.freeze fz).app [] [] [] []).put d (y.ren ⟨[], [], []⟩))
  rw [app_nil, hy]
  exact hk
/-- a call that is lent rows -/
theorem call_lent (bs : List Nat) (hok : FnOK X.C fid xs' [] y []) (hx : WeakArgs (renL ⟨[], [], bs⟩ xs) xs') (hy : y.ren ⟨[], [], []⟩ = y') (hf : Flat y') (hk : K (st.put d y')) : callB X d fid xs K st := by
  refine callB_mk ⟨⟨[], [], bs⟩, [], []⟩ hok hx rfl trivial (.inr ?_) ?_
  · show Flat (y.ren ⟨[], [], []⟩) ∧ True
    rw [hy]; exact ⟨hf, trivial⟩
  · show K ((st.app [] [] [] []).put d (y.ren ⟨[], [], []⟩))
    rw [app_nil, hy]
    exact hk

theorem loop_intro {body : (Ex → St → Prop) → St → Prop} {Q : Ex → St → Prop} {α : Type} (I : α → St) (Inv : α → Prop) (μ : α → Nat) (x0 : α) (h0 : Inv x0) (hi : Imp X st (I x0))
    (hr : ∀ x, Inv x → ∀ J : St → Prop, (∀ st' x', Inv x' → μ x' < μ x → Imp X st' (I x') → J st') → body (thenA J Q) (I x)) : loopA X body Q st :=
  ⟨α, I, Inv, μ, x0, h0, hi, fun x hx => hr x hx _ fun _ x' h1 h2 h3 => ⟨x', h1, h2, h3⟩⟩
end
@[go_sem] theorem exists_some {α : Type} (a : α) (p : α → Prop) : (∃ x, some a = some x ∧ p x) = p a := by simp
@[go_sem] theorem weakV_self (x : AV) : WeakV x x = True := eq_true .rfl
@[go_sem] theorem weakL_self (x : List AV) : WeakL x x = True := eq_true .rfl
@[go_sem] theorem weakV_undef (x : AV) : WeakV x .undef = True := eq_true .undef
@[go_sem] theorem weakV_nilOwn (r lo n : Nat) : WeakV (.v (.slice none 0 0)) (.sl (.own r lo) (n + 1) []) = True := eq_true (.nilOwn (by omega))
@[go_sem] theorem weakV_nilNo (n : Nat) : WeakV (.v (.slice none 0 0)) (.sl .no (n + 1) []) = True := eq_true (.nilNo (by omega))
@[go_sem] theorem weakV_full (n : Nat) (es : List (List AV)) : WeakV (.sl .full n es) (.sl .no n es) = True := eq_true .full
theorem WeakV.nilDsl {r i j off m : Nat} (hm : 0 < m) : WeakV (.v (.slice none 0 0)) (.hnd .dsl r i j off m []) := fun _ _ u h => by
  simp only [VR] at h ⊢
  exact ⟨hm, .inl ⟨h, Eq.refl _⟩⟩
@[go_sem] theorem weakV_nilDsl (r i j off m : Nat) : WeakV (.v (.slice none 0 0)) (.hnd .dsl r i j off (m + 1) []) = True := eq_true (.nilDsl (by omega))
theorem WeakV.int {k : IntKind} {a b : Int} (h : a = b) : WeakV (.v (.int k a)) (.v (.int k b)) := .eq (by rw [h])
theorem WeakV.sl {t : Tag} {n : Nat} {a b : List (List AV)} (h : a = b) : WeakV (.sl t n a) (.sl t n b) := .eq (by rw [h])
theorem ret_mk {X : Env} {rs : List ResultVar} {y : AV} {o' : List (Nat × List AV)} {st : St} (ρ : Rn) (xs : List AV) (h1 : resVs X.C st rs = some xs) (h2 : ρ.OK) (h3 : ∀ s ∈ X.ext, lk s ρ.m = some s) (h4 : WeakV ((pack xs).ren ρ) y) (h5 : WeakO (renSt ρ st) o') : retA X rs y o' .ret st :=
  ⟨xs, ρ, h1, h2, h3, h4, h5⟩
theorem retP_mk {X : Env} {rs : List ResultVar} {S : AV → List (Nat × List AV) → Prop} {st : St} (y : AV) (o' : List (Nat × List AV)) (ρ : Rn) (xs : List AV) (hS : S y o') (h1 : resVs X.C st rs = some xs) (h2 : ρ.OK) (h3 : ∀ s ∈ X.ext, lk s ρ.m = some s) (h4 : WeakV ((pack xs).ren ρ) y) (h5 : WeakO (renSt ρ st) o') : retP X rs S .ret st :=
  ⟨xs, ρ, y, o', hS, h1, h2, h3, h4, h5⟩
@[go_sem high] theorem weakArgs_self (xs : List AV) : WeakArgs xs xs = True := eq_true (.self xs)
@[go_sem] theorem weakArgs_cons (x y : AV) (xs ys : List AV) : WeakArgs (x :: xs) (y :: ys) = (WeakV x y ∧ WeakArgs xs ys) := rfl
attribute [go_sem] HasW St.app dropO dropO_nil killT_nil killO_nil
end Go.Abs
/- Operations that leave memory alone. -/
namespace Go.Abs

def convP (P : Program) (src dst : TypeId) : AV → Option AV
  | .v (.int _ n) => match intT P src, intT P dst with
    | some _, some k => some (.v (.int k (k.wrap n)))
    | _, _ => none
  | .v (.string s) => if strT P src ∧ strT P dst then some (.v (.string s)) else none
  | .v (.slice none 0 0) => if isBytesT P src ∧ strT P dst then some (.v (.string ⟨#[]⟩)) else none
  | .sl _ n es => if n = 1 ∧ isBytesT P src ∧ strT P dst then (unbytes es).map fun l => .v (.string ⟨l.toArray⟩) else none
  | _ => none

def isOwnSl : AV → Bool
  | .sl (.own _ _) _ _ => true
  | _ => false

def funcV : Fn → List Operand → Option Nat
  | .func f, [] => some f
  | _, _ => none

def builtinP (C : Ctx) (b : Builtin) (xs : List Operand) (ts : List TypeId) (st : St) : Option AV :=
  match b with
  | .len => match xs, ts with
    | [x], [t] => if lenOk C.P t (ev C st x) = true then lenA (ev C st x) else none
    | _, _ => none
  | .max => match xs with
    | [x, y] => maxA (ev C st x) (ev C st y)
    | _ => none
  | .min => match xs with
    | [x, y] => minA (ev C st x) (ev C st y)
    | _ => none
  | _ => none

def pureV (C : Ctx) (o : Oper) (st : St) : Option AV :=
  match o.op with
  | .move x => some (ev C st x)
  | .assign x => some (ev C st x)
  | .pick c a b => pickA (ev C st c) (ev C st a) (ev C st b)
  | .load t a => loadV C t (ev C st a) st.objs
  | .fieldAddr t x i => match offOf C.P t i with
    | some off => fieldA off (ev C st x)
    | none => none
  | .indexAddr t x i => indexV C t (ev C st x) (ev C st i)
  | .nilCheck x => nilA (ev C st x)
  | .binOp op t x y _ => binA C.P op t (ev C st x) (ev C st y)
  | .unOp op _ x => unA op (ev C st x)
  | .convert src dst x => convP C.P src dst (ev C st x)
  | .extract x i => extractA i (ev C st x)
  | .field t x i => fieldV C.P t i (ev C st x)
  | .index t x i => idxV C.P t (ev C st i) (ev C st x)
  | .build t ps => buildV C t (partsL C st ps.toList)
  | .slice t x lo hi mx => if isOwnSl (ev C st x) && mx.isSome then none else (sliceOp C st t (ev C st x) lo hi mx).map (·.1)
  | .makeFunc fn first caps => (funcV fn first.toList).map fun f => .fn f (evs C st caps.toList)
  | .makeInterface t x => if C.P.concrete t then some (.ifc t (ev C st x)) else none
  | .call c => match c.callee with
    | .builtin b => builtinP C b c.args.toList c.argTypes.toList st
    | _ => none
  | _ => none

section
variable {C : Ctx} {A : A0} {N : Nat} {g g' : Gh} {st st' : St} {a : Act} {w w' : World} {P : Program}

theorem convP_sound {src dst : TypeId} {x r : AV} {ux : Value} (hx : VR g w x ux) (h : convP P src dst x = some r) : ∃ u, (convert src dst ux).run P w = .ok u w ∧ VR g w r u := by
  unfold convP at h
  split at h
  · simp only [VR] at hx; subst hx
    split at h
    · rename_i k1 k2 h1 h2
      simp at h; subst h
      refine ⟨.int k2 (k2.wrap _), ?_, by simp only [VR]; rfl⟩
      simp [convert, run_underlying (intT_spec h1), run_underlying (intT_spec h2), Conv.intToInt]
    · cases h
  · simp only [VR] at hx; subst hx
    split at h
    · rename_i hc
      simp at h; subst h
      exact ⟨_, by simp [convert, run_underlying (strT_spec hc.1), run_underlying (strT_spec hc.2)]; rfl, by simp [VR]⟩
    · cases h
  · simp only [VR] at hx; subst hx
    split at h
    · rename_i hc
      simp at h; subst h
      obtain ⟨e, h1, h2, h3⟩ := isBytesT_spec hc.1
      exact ⟨.string .empty, by simp [convert, run_underlying h1, run_underlying h2, run_underlying (strT_spec hc.2), Conv.bytesToString], by simp [VR]; rfl⟩
    · cases h
  · rename_i t n es
    split at h
    · rename_i hc
      obtain ⟨rfl, hc⟩ := hc
      obtain ⟨l, hl, rfl⟩ := Option.map_eq_some_iff.1 h
      obtain ⟨e, h1, h2, h3⟩ := isBytesT_spec hc.1
      obtain ⟨us, hs, hp, _⟩ := elems_src (n := 1) (es := es) (by omega) (by simp [elems]) hx
      obtain ⟨ns, rfl, rfl⟩ := unbytes_vals hl hp
      obtain ⟨hlen, hsrc⟩ := hs
      refine ⟨.string ⟨(ns.map (fun n => UInt8.ofNat n.toNat)).toArray⟩, ?_, by simp only [VR]⟩
      rcases hsrc with ⟨ad, c, rfl, hcell⟩ | ⟨h0, c, rfl⟩
      · rw [run_convert_bytes_string w src dst e _ _ _ h1 h2 (strT_spec hc.2)]
        have hlc : (loadCells ad es.length).run P w = .ok (ns.map (Value.int .u8)).toArray w := by
          have := run_loadCells_list (P := P) w ad (ns.map (Value.int .u8)) hcell
          rwa [hlen, Nat.mul_one] at this
        rw [run_bytesToString w ad es.length c ns hlc, foldl_push]
        simp [ByteArray.empty, ByteArray.emptyWithCapacity]
        try rfl
      · have : ns = [] := by
          have : ns.length = 0 := by simpa [h0] using hlen
          exact List.eq_nil_of_length_eq_zero this
        subst this
        simp [convert, run_underlying h1, run_underlying h2, run_underlying (strT_spec hc.2), Conv.bytesToString]
        rfl
    · cases h
  · cases h

/-- an operation that leaves memory alone -/
def PureOK (C : Ctx) (o : Oper) (a : Act) (g : Gh) (w : World) (x : AV) : Prop := ∃ u, Does C.P o a w u w ∧ VR g w x u

theorem PureOK.of {o : Oper} {x : AV} {s : Sem Value} (ho : execOp a.eval o = (do Pure.pure (Next.value (← s)))) (h : ∃ u, s.run C.P w = .ok u w ∧ VR g w x u) : PureOK C o a g w x := by
  obtain ⟨u, h1, h2⟩ := h
  exact ⟨u, does_pure ho h1, h2⟩

theorem maxA_sound {x y r : AV} {ux uy : Value} {ts : Array TypeId} {ty : TypeId} (hx : VR g w x ux) (hy : VR g w y uy) (h : maxA x y = some r) : ∃ u, (Builtin.max_ ts ty #[ux, uy]).run P w = .ok u w ∧ VR g w r u := by
  unfold maxA at h
  split at h
  · simp only [VR] at hx hy; subst hx; subst hy
    have h' := Option.some.inj h; subst h'
    exact ⟨_, by simp [Builtin.max_, Builtin.max2]; rfl, by simp only [VR]⟩
  · cases h
theorem minA_sound {x y r : AV} {ux uy : Value} {ts : Array TypeId} {ty : TypeId} (hx : VR g w x ux) (hy : VR g w y uy) (h : minA x y = some r) : ∃ u, (Builtin.min_ ts ty #[ux, uy]).run P w = .ok u w ∧ VR g w r u := by
  unfold minA at h
  split at h
  · simp only [VR] at hx hy; subst hx; subst hy
    have h' := Option.some.inj h; subst h'
    exact ⟨_, by simp [Builtin.min_, Builtin.min2]; rfl, by simp only [VR]⟩
  · cases h

theorem builtinP_sound (hR : R C A N g st a w) {o : Oper} {b : Builtin} {xs : Array Operand} {ts : Array TypeId} {consts : Array Bool} (he : execOp a.eval o = builtin b ts o.type consts (xs.map a.eval)) {x : AV}
    (h : builtinP C b xs.toList ts.toList st = some x) : PureOK C o a g w x := by
  unfold builtinP at h
  split at h
  · split at h
    · rename_i y t hy ht
      split at h
      · rename_i hok
        refine .of he ?_
        rw [arr1 hy, arr1 ht]
        simp only [List.map_toArray, List.map_cons, List.map_nil]
        exact len_sound' hok (hR.ev y) h
      · cases h
    · cases h
  · split at h
    · rename_i y z hy
      refine .of he ?_
      rw [arr2 hy]
      simp only [List.map_toArray, List.map_cons, List.map_nil]
      exact maxA_sound (hR.ev y) (hR.ev z) h
    · cases h
  · split at h
    · rename_i y z hy
      refine .of he ?_
      rw [arr2 hy]
      simp only [List.map_toArray, List.map_cons, List.map_nil]
      exact minA_sound (hR.ev y) (hR.ev z) h
    · cases h
  · cases h

theorem pureV_sound (hR : R C A N g st a w) {o : Oper} {x : AV} (h : pureV C o st = some x) : PureOK C o a g w x := by
  obtain ⟨dst, op, ty, after, x2, x3⟩ := o
  cases op <;> simp only [pureV] at h
  case move y => simp at h; subst h; exact ⟨_, .inl rfl, hR.ev y⟩
  case assign y => simp at h; subst h; exact ⟨_, .inl rfl, hR.ev y⟩
  case pick c y z =>
    obtain ⟨u, k1, k2⟩ := pick_sound (P := C.P) (hR.ev c) (hR.ev y) (hR.ev z) h
    exact ⟨u, .inl k1, k2⟩
  case load t p =>
    unfold loadV at h
    split at h
    · rename_i agg n h1 h2
      exact .of rfl (load_sound hR h1 h2 (hR.ev p) h)
    · cases h
  case fieldAddr t p i =>
    split at h
    · rename_i off h1
      exact .of rfl (field_sound h1 (hR.ev p) h)
    · cases h
  case indexAddr t p i =>
    unfold indexV at h
    split at h
    · rename_i k ki hi
      have hiv := hR.ev i
      rw [hi] at hiv
      simp only [VR] at hiv
      split at h
      · rename_i e n he
        exact .of rfl (by rw [hiv]; exact indexS_sound he (hR.ev p) h)
      · split at h
        · rename_i len n he
          exact .of rfl (by rw [hiv]; exact indexR_sound he (hR.ev p) h)
        · cases h
    · cases h
  case nilCheck y =>
    have := nil_sound (C := C) (a := a) (hR.ev y) h (o := ⟨dst, .nilCheck y, ty, after, x2, x3⟩) rfl rfl
    exact ⟨_, .inl this.1, this.2⟩
  case binOp op t y z _ => exact .of rfl (bin_sound (hR.ev y) (hR.ev z) h)
  case unOp op t y => exact .of rfl (un_sound (hR.ev y) h)
  case convert s d y => exact .of rfl (convP_sound (hR.ev y) h)
  case extract y i =>
    unfold extractA at h
    split at h
    · rename_i cs hc
      have hy := hR.ev y
      rw [hc] at hy
      simp only [VR] at hy
      obtain ⟨us, hu, hv⟩ := hy
      obtain ⟨u, h2, h3⟩ := VRs.get hv i _ h
      refine .of (s := Instr.extract (a.eval y) i) rfl ⟨u, ?_, h3⟩
      rw [hu]
      have : us[i]? = some u := by simpa using h2
      simp [Instr.extract, this]
    · cases h
  case field t y i => exact .of rfl (fieldV_sound (hR.ev y) h)
  case index t y i => exact .of rfl (idxV_sound (hR.ev i) (hR.ev y) h)
  case build t ps =>
    unfold buildV at h
    rw [← partsL_eq] at h
    split at h
    · rename_i zs hz ha
      split at h
      · rename_i hs
        obtain ⟨r, h1, rfl⟩ := Option.map_eq_some_iff.1 h
        exact .of (exec_build a rfl) (build_sound hz ha hs (by simp [parts]) (VRs_parts hR ps) h1)
      · cases h
    · cases h
  case slice t y lo hi mx =>
    split at h
    · cases h
    · rename_i hc
      obtain ⟨p, h1, rfl⟩ := Option.map_eq_some_iff.1 h
      obtain ⟨z, st'⟩ := p
      obtain ⟨u, w', g', k1, k2, k3, k4⟩ := sliceOp_sound hR h1
      have hp : (∀ r lo m es, ev C st y ≠ .sl (.own r lo) m es) ∨ mx = none := by
        simp only [Bool.and_eq_true, not_and, Bool.not_eq_true] at hc
        cases hm : mx with
        | none => exact .inr rfl
        | some m =>
          left
          intro r lo m' es he
          have := hc (by rw [he]; rfl)
          rw [hm] at this
          simp at this
      obtain ⟨rfl, rfl⟩ := k4 hp
      exact .of rfl ⟨u, k1, k3⟩
  case makeFunc fn first caps =>
    obtain ⟨f, hf, rfl⟩ := Option.map_eq_some_iff.1 h
    unfold funcV at hf
    split at hf
    · rename_i f' hf'
      simp at hf; subst hf
      refine .of (s := Instr.makeFunc (.func f') (first.map a.eval) (caps.map a.eval)) rfl ⟨_, rfl, ?_⟩
      have hf0 : first = #[] := by
        cases first; simp_all
      subst hf0
      simp only [VR]
      refine ⟨_, by simp; rfl, ?_⟩
      have := VRs_map_ev hR caps.toList
      rw [evs_map]
      simpa using this
    · cases hf
  case makeInterface t y =>
    split at h
    · rename_i hc
      have h' := Option.some.inj h; subst h'
      refine .of rfl ⟨_, run_makeInterface w t _ hc, ?_⟩
      simp only [VR]
      exact ⟨_, rfl, hR.ev y⟩
    · cases h
  case call c =>
    split at h
    · rename_i b hb
      obtain ⟨callee, args, argTypes⟩ := c
      simp only at hb; subst hb
      obtain ⟨consts, he⟩ := exec_builtin a (o := ⟨dst, .call { callee := .builtin b, args, argTypes }, ty, after, x2, x3⟩) rfl
      exact builtinP_sound hR he h
    · cases h
  all_goals (cases h)

theorem Grow.refl (g : Gh) (w : World) : Grow [] [] [] g w g w where
  toLasts := lasts_refl g w [] []
  os := rfl
  tape := ⟨rfl, by first | exact Nat.le_refl _ | exact Nat.le_succ _⟩
  output := rfl
  size := Nat.le_refl _
  other := fun _ _ h => ⟨h, rfl⟩
  kept := fun _ _ _ h _ => ⟨h, rfl⟩

theorem pureG {o : Oper} {x : AV} (h : pureV C o st = some x) : OpG C o st x [] [] [] [] := by
  intro A N g a w hR K Q hk
  obtain ⟨u, h1, h2⟩ := pureV_sound hR h
  exact h1.wp (hk u g w (Grow.refl g w) h2 (fun s cs hs => by cases hs))

theorem allocG {o : Oper} {t d : Nat} {zs : List Value} (ho : o.op = .alloc t) (hd : o.dst = some d) (hz : zeroOf C.P t = some zs) : OpG C o st (.ptr (nm d) 0) [] [nm d] [nm d] [(nm d, vals zs)] := by
  intro A N g a w hR K Q hk
  have hzz : ∃ z, (zeroValue t).run C.P w = .ok z w ∧ zs = z.cells.toList := by
    unfold zeroOf at hz
    obtain ⟨z, hz1, hz2⟩ := Option.map_eq_some_iff.1 hz
    obtain ⟨i, hi, hiz⟩ := Option.bind_eq_some_iff.1 hz1
    exact ⟨z, by simp [zeroValue, run_typeInfo hi, hiz], hz2.symm⟩
  obtain ⟨z, hz1, rfl⟩ := hzz
  obtain ⟨dst, op, ty, after, x2, x3⟩ := o
  simp only at ho hd
  subst ho; subst hd
  have hdoes : Does C.P ⟨some d, .alloc t, ty, after, x2, x3⟩ a w (.pointer (some ⟨w.heap.size, 0, none⟩)) (w.alloc (.cells z.cells t)) :=
    does_pure (s := Instr.alloc t true (.tuple #[])) rfl (by simp [Instr.alloc, hz1, newVar_run])
  have hl := lasts_newBox g w (.cells z.cells t) (nm d)
  refine hdoes.wp (hk _ (g.newBox w.heap.size (nm d)) _ ?_ ?_ fun s cs hs => ?_)
  · exact { toLasts := hl, os := rfl, tape := ⟨rfl, by first | exact Nat.le_refl _ | exact Nat.le_succ _⟩, output := rfl, size := by simp, other := fun b hb ho => ⟨by simp [Gh.newBox, Nat.ne_of_lt hb, ho], alloc_old w _ b hb⟩, kept := fun s _ _ ho hb => ⟨by simp [Gh.newBox, Nat.ne_of_lt hb, ho], alloc_old w _ _ hb⟩ }
  · simp [VR, Gh.newBox, nm_cells]
  · simp only [lk] at hs
    split at hs
    · rename_i he
      injection hs with hs; subst hs; subst he
      refine ⟨by simp [Gh.newBox], .inl ⟨nm_cells d, z.cells, t, ?_, VRs_vals _⟩⟩
      have : (g.newBox w.heap.size (nm d)).box (nm d) = w.heap.size := by simp [Gh.newBox]
      rw [this]
      exact heap_alloc_new w _
    · cases hs
end
end Go.Abs
