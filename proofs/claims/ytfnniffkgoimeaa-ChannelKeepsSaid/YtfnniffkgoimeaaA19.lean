/- The evaluator's rules, for 'simp only [absgo]'. -/
import Derived.Test.YtfnniffkgoimeaaA18
set_option linter.all false
namespace Go.Abs

def stepP (d : Option Nat) (K : St → Prop) : Option AV → St → Prop
  | some x, st => K (st.put d x)
  | none, _ => False
@[go_sem] theorem stepP_some (d : Option Nat) (K : St → Prop) (x : AV) (st : St) : stepP d K (some x) st = K (st.put d x) := rfl
@[go_sem] theorem stepA_some (d : Option Nat) (K : St → Prop) (x : AV) (st : St) : stepA d K (some (x, st)) = K (st.put d x) := rfl
theorem stepA_map (d : Option Nat) (K : St → Prop) (o : Option AV) (st : St) : stepA d K (o.map (·, st)) = stepP d K o st := by cases o <;> rfl

@[go_sem] theorem put_some (k : Nat) (x : AV) (t : List (Nat × AV)) (o : List (Nat × List AV)) : St.put (some k) x ⟨t, o⟩ = ⟨(k, x) :: t, o⟩ := rfl
@[go_sem] theorem put_none (x : AV) (st : St) : St.put none x st = st := rfl
@[go_sem] theorem lk_cons {α : Type} (k j : Nat) (x : α) (l : List (Nat × α)) : lk k ((j, x) :: l) = if j = k then some x else lk k l := rfl
@[go_sem] theorem lk_nil' {α : Type} (k : Nat) : lk k ([] : List (Nat × α)) = none := rfl
@[go_sem] theorem ev_tmp (C : Ctx) (k : Nat) (t : List (Nat × AV)) (o : List (Nat × List AV)) : ev C ⟨t, o⟩ (.tmp k) = (lk k t).getD .undef := rfl
@[go_sem] theorem ev_const (C : Ctx) (st : St) (v : Value) : ev C st (.const v) = .v v := rfl
@[go_sem] theorem ev_func (C : Ctx) (st : St) (f : Nat) : ev C st (.func f) = .fn f [] := rfl
@[go_sem] theorem ev_global (C : Ctx) (st : St) (i : Nat) : ev C st (.global i) = (match C.G i with
    | some cs => .ep .no 0 cs 0
    | none => .undef) := rfl

section
variable (X : Env) (Q : Ex → St → Prop) (K : St → Prop) (st : St)
@[go_sem] theorem wpA_skip : wpA X .skip Q = Q .normal := rfl
@[go_sem] theorem wpA_region (id : Nat) (ops : Array Oper) : wpA X (.region id ops false) Q = opsA X ops ops.toList (Q .normal) := rfl
@[go_sem] theorem wpA_draw (id : Nat) (ops : Array Oper) : wpA X (.region id ops true) Q = drawA X ops (Q .normal) := rfl
@[go_sem] theorem wpA_seq (x y : Code) : wpA X (.seq x y) Q = wpA X x (thenA (wpA X y Q) Q) := rfl
@[go_sem] theorem wpA_cond (c : Operand) (x y : Code) : wpA X (.cond c x y) Q st = condA (ev X.C st c) (wpA X x Q) (wpA X y Q) st := rfl
@[go_sem] theorem wpA_block (id : Nat) (c : Code) : wpA X (.block id c) Q = wpA X c (blockA id Q) := rfl
@[go_sem] theorem wpA_loop (c : Code) : wpA X (.loop c) Q = loopA X (wpA X c) Q := rfl
@[go_sem] theorem wpA_exit (id : Nat) : wpA X (.exit id) Q = Q (.exit id) := rfl
@[go_sem] theorem wpA_ret : wpA X .ret Q = Q .ret := rfl
@[go_sem] theorem wpA_scope (c : Code) : wpA X (.scope c) Q = wpA X c Q := rfl
@[go_sem] theorem wpA_label (l : Nat) : wpA X (.label l) Q = Q .normal := rfl
@[go_sem] theorem thenA_normal : thenA K Q .normal = K := rfl
@[go_sem] theorem thenA_exit (i : Nat) : thenA K Q (.exit i) = Q (.exit i) := rfl
@[go_sem] theorem thenA_ret : thenA K Q .ret = Q .ret := rfl
@[go_sem] theorem blockA_normal (id : Nat) : blockA id Q .normal = Q .normal := rfl
@[go_sem] theorem blockA_exit (id i : Nat) : blockA id Q (.exit i) = if i = id then Q .normal else Q (.exit i) := rfl
@[go_sem] theorem blockA_ret (id : Nat) : blockA id Q .ret = Q .ret := rfl
@[go_sem] theorem condA_b (b : Bool) (K1 K2 : St → Prop) : condA (.v (.bool b)) K1 K2 st = ((b = true → K1 st) ∧ (b = false → K2 st)) := rfl

@[go_sem high] theorem condA_true (K1 K2 : St → Prop) : condA (.v (.bool true)) K1 K2 st = K1 st := by simp [condA]
@[go_sem high] theorem condA_false (K1 K2 : St → Prop) : condA (.v (.bool false)) K1 K2 st = K2 st := by simp [condA]
@[go_sem] theorem opsA_nil (all : Array Oper) : opsA X all [] K = K := rfl
@[go_sem] theorem evs_nil (C : Ctx) : evs C st [] = [] := rfl
@[go_sem] theorem evs_cons (C : Ctx) (x : Operand) (xs : List Operand) : evs C st (x :: xs) = ev C st x :: evs C st xs := rfl
@[go_sem] theorem callA_fn (d : Option Nat) (f : Nat) (caps xs : List AV) : callA X d (.fn f caps) xs K st = callB X d f (xs ++ caps) K st := rfl

variable (all : Array Oper) (rest : List Oper) (d : Option Nat) (ty : TypeId) (pos : String) (aft : Array Edge)
/-- a guarded operation: as the operation, where the guard's value is as wanted -/
@[go_sem] theorem op_guard (op : Op) (j : Nat) (b : Bool) : opsA X all (⟨d, op, ty, pos, aft, some (j, b)⟩ :: rest) K st =
    (match guardOf all j st with
    | some (.v (.bool b')) => splitA b' b (opsA X all (⟨d, op, ty, pos, aft, none⟩ :: rest) K (st.learn (gdst all j) b)) (opsA X all rest K ((st.learn (gdst all j) (!b)).put d .undef))
    | _ => False) := rfl
@[go_sem ↓] theorem splitA_1 (p q : Prop) : splitA true true p q = p := by simp [splitA]
@[go_sem ↓] theorem splitA_2 (p q : Prop) : splitA false true p q = q := by simp [splitA]
@[go_sem ↓] theorem splitA_3 (p q : Prop) : splitA true false p q = q := by simp [splitA]
@[go_sem ↓] theorem splitA_4 (p q : Prop) : splitA false false p q = p := by simp [splitA]
@[go_sem] theorem gdst_def (j : Nat) : gdst all j = (all[j]?).bind (·.dst) := rfl
@[go_sem] theorem learn_some (k : Nat) (b : Bool) (t : List (Nat × AV)) (o : List (Nat × List AV)) : St.learn (some k) b ⟨t, o⟩ = ⟨setT k (.v (.bool b)) t, o⟩ := rfl
def lkO (d : Option Nat) (l : List (Nat × AV)) : Option AV := match d with
  | some k => lk k l
  | none => none
@[go_sem] theorem lkO_some (k : Nat) (l : List (Nat × AV)) : lkO (some k) l = lk k l := rfl
@[go_sem] theorem guardOf_def (j : Nat) : guardOf all j st = lkO ((all[j]?).bind (·.dst)) st.tmps := by
  unfold guardOf lkO
  cases (all[j]?).bind (·.dst) <;> rfl
@[go_sem] theorem splitA_tt (b' : Bool) (p q : Prop) : splitA b' true p q = ((b' = true → p) ∧ (b' = false → q)) := by cases b' <;> simp [splitA]
@[go_sem] theorem splitA_ff (b' : Bool) (p q : Prop) : splitA b' false p q = ((b' = false → p) ∧ (b' = true → q)) := by cases b' <;> simp [splitA]

@[go_sem] theorem op_move (x : Operand) : opsA X all (⟨d, .move x, ty, pos, aft, none⟩ :: rest) K st = opsA X all rest K (st.put d (ev X.C st x)) := rfl
@[go_sem] theorem op_assign (x : Operand) : opsA X all (⟨d, .assign x, ty, pos, aft, none⟩ :: rest) K st = opsA X all rest K (st.put d (ev X.C st x)) := rfl
@[go_sem] theorem op_pick (c a b : Operand) : opsA X all (⟨d, .pick c a b, ty, pos, aft, none⟩ :: rest) K st = stepP d (opsA X all rest K) (pickA (ev X.C st c) (ev X.C st a) (ev X.C st b)) st := stepA_map _ _ _ _
@[go_sem] theorem op_alloc (t : TypeId) (k : Nat) : opsA X all (⟨some k, .alloc t, ty, pos, aft, none⟩ :: rest) K st = stepA (some k) (opsA X all rest K) (match zeroOf X.C.P t with
    | some zs => some (.ptr (nm k) 0, ⟨(st.kill [] [nm k]).tmps, (nm k, vals zs) :: (st.kill [] [nm k]).objs⟩)
    | none => none) := by
  simp only [opsA, operA, doA, stepV]
  cases zeroOf X.C.P t <;> rfl
@[go_sem] theorem op_box (t : TypeId) (x : Operand) (k : Nat) : opsA X all (⟨some k, .box t x, ty, pos, aft, none⟩ :: rest) K st = stepA (some k) (opsA X all rest K) (if okCells (ev X.C st x).cells = true then some (.ptr (nm k) 0, ⟨(st.kill [] [nm k]).tmps, (nm k, killL [] [nm k] (ev X.C st x).cells) :: (st.kill [] [nm k]).objs⟩) else none) := rfl
def loadV (C : Ctx) (t : TypeId) (p : AV) (objs : List (Nat × List AV)) : Option AV := match aggOf C.P t, szOf C.P t with
  | some agg, some n => loadA agg n objs p
  | _, _ => none
@[go_sem] theorem loadV_def (C : Ctx) (t : TypeId) (p : AV) (objs : List (Nat × List AV)) : loadV C t p objs = (match aggOf C.P t, szOf C.P t with
  | some agg, some n => loadA agg n objs p
  | _, _ => none) := rfl
@[go_sem] theorem op_load (t : TypeId) (x : Operand) : opsA X all (⟨d, .load t x, ty, pos, aft, none⟩ :: rest) K st = stepP d (opsA X all rest K) (loadV X.C t (ev X.C st x) st.objs) st := by
  simp only [opsA, operA, doA, stepV, loadV]
  rw [← stepA_map]; congr 1
  cases aggOf X.C.P t <;> cases szOf X.C.P t <;> rfl
def bindS (o : Option St) (K : St → Prop) : Prop := match o with
  | some st => K st
  | none => False
@[go_sem] theorem bindS_some (st : St) (K : St → Prop) : bindS (some st) K = K st := rfl
@[go_sem] theorem op_store (t : TypeId) (p x : Operand) : opsA X all (⟨none, .store t p x, ty, pos, aft, none⟩ :: rest) K st = (match szOf X.C.P t with
    | some n => bindS (storeA n st (ev X.C st p) (ev X.C st x)) (opsA X all rest K)
    | none => False) := by
  simp only [opsA, operA, doA, stepV]
  cases szOf X.C.P t with
  | none => rfl
  | some n => cases h : storeA n st (ev X.C st p) (ev X.C st x) <;> simp [h, stepA, bindS, put_none]
@[go_sem] theorem op_fieldAddr (t : TypeId) (x : Operand) (i : Nat) : opsA X all (⟨d, .fieldAddr t x i, ty, pos, aft, none⟩ :: rest) K st = stepP d (opsA X all rest K) (match offOf X.C.P t i with
    | some off => fieldA off (ev X.C st x)
    | none => none) st := by
  simp only [opsA, operA, doA, stepV]
  cases offOf X.C.P t i with
  | none => rfl
  | some off => exact stepA_map _ _ _ _
def indexV (C : Ctx) (t : TypeId) (x i : AV) : Option AV := match i with
  | .v (.int _ k) => match elemOfSlice C.P t with
      | some (_, n) => indexS n k x
      | none => match elemOfArray C.P t with
        | some (len, n) => indexR len n k x
        | none => none
  | _ => none
@[go_sem] theorem indexV_int (C : Ctx) (t : TypeId) (x : AV) (kd : IntKind) (k : Int) : indexV C t x (.v (.int kd k)) = (match elemOfSlice C.P t with
      | some (_, n) => indexS n k x
      | none => match elemOfArray C.P t with
        | some (len, n) => indexR len n k x
        | none => none) := rfl
@[go_sem] theorem op_indexAddr (t : TypeId) (x i : Operand) : opsA X all (⟨d, .indexAddr t x i, ty, pos, aft, none⟩ :: rest) K st = stepP d (opsA X all rest K) (indexV X.C t (ev X.C st x) (ev X.C st i)) st := by
  simp only [opsA, operA, doA, stepV, indexV]
  rw [← stepA_map]; congr 1
  generalize ev X.C st i = v
  cases v <;> try rfl
  rename_i u
  cases u <;> try rfl
  simp only
  cases elemOfSlice X.C.P t <;> cases elemOfArray X.C.P t <;> rfl
@[go_sem] theorem op_nilCheck (x : Operand) : opsA X all (⟨d, .nilCheck x, ty, pos, aft, none⟩ :: rest) K st = stepP d (opsA X all rest K) (nilA (ev X.C st x)) st := stepA_map _ _ _ _
@[go_sem] theorem op_binOp (op : BinOp) (t t2 : TypeId) (x y : Operand) : opsA X all (⟨d, .binOp op t x y t2, ty, pos, aft, none⟩ :: rest) K st = stepP d (opsA X all rest K) (binA X.C.P op t (ev X.C st x) (ev X.C st y)) st := stepA_map _ _ _ _
@[go_sem] theorem op_unOp (op : UnOp) (t : TypeId) (x : Operand) : opsA X all (⟨d, .unOp op t x, ty, pos, aft, none⟩ :: rest) K st = stepP d (opsA X all rest K) (unA op (ev X.C st x)) st := stepA_map _ _ _ _
@[go_sem] theorem op_convert (s t : TypeId) (x : Operand) : opsA X all (⟨d, .convert s t x, ty, pos, aft, none⟩ :: rest) K st = stepA d (opsA X all rest K) (convA X.C.P s t st (ev X.C st x)) := rfl
def extractA (i : Nat) : AV → Option AV
  | .tup cs => cs[i]?
  | _ => none
@[go_sem] theorem extractA_tup (i : Nat) (cs : List AV) : extractA i (.tup cs) = cs[i]? := rfl
@[go_sem] theorem op_extract (x : Operand) (i : Nat) : opsA X all (⟨d, .extract x i, ty, pos, aft, none⟩ :: rest) K st = stepP d (opsA X all rest K) (extractA i (ev X.C st x)) st := by
  simp only [opsA, operA, doA, stepV, extractA]
  rw [← stepA_map]; congr 1
  generalize ev X.C st x = v
  cases v <;> rfl
@[go_sem] theorem op_field (t : TypeId) (x : Operand) (i : Nat) : opsA X all (⟨d, .field t x i, ty, pos, aft, none⟩ :: rest) K st = stepP d (opsA X all rest K) (fieldV X.C.P t i (ev X.C st x)) st := stepA_map _ _ _ _
def buildV (C : Ctx) (t : TypeId) (ps : List (Nat × AV)) : Option AV := match zeroOf C.P t, aggOf C.P t with
    | some zs, some true => if sized C.P t = true then (fillA (placeOf C.P t) (vals zs) ps).map .agg else none
    | _, _ => none
@[go_sem] theorem buildV_def (C : Ctx) (t : TypeId) (ps : List (Nat × AV)) : buildV C t ps = (match zeroOf C.P t, aggOf C.P t with
    | some zs, some true => if sized C.P t = true then (fillA (placeOf C.P t) (vals zs) ps).map .agg else none
    | _, _ => none) := rfl
def partsL (C : Ctx) (st : St) : List (Nat × Operand) → List (Nat × AV)
  | [] => []
  | (i, x) :: ps => (i, ev C st x) :: partsL C st ps
@[go_sem] theorem partsL_nil (C : Ctx) : partsL C st [] = [] := rfl
@[go_sem] theorem partsL_cons (C : Ctx) (i : Nat) (x : Operand) (ps : List (Nat × Operand)) : partsL C st ((i, x) :: ps) = (i, ev C st x) :: partsL C st ps := rfl
theorem partsL_eq (C : Ctx) (ps : Array (Nat × Operand)) : parts C st ps = partsL C st ps.toList := by
  unfold parts
  induction ps.toList with
  | nil => rfl
  | cons p l ih => obtain ⟨i, x⟩ := p; simp only [List.map_cons, partsL, ih]
@[go_sem] theorem op_build (t : TypeId) (ps : Array (Nat × Operand)) : opsA X all (⟨d, .build t ps, ty, pos, aft, none⟩ :: rest) K st = stepP d (opsA X all rest K) (buildV X.C t (partsL X.C st ps.toList)) st := by
  simp only [opsA, operA, doA, stepV, buildV, partsL_eq]
  rw [← stepA_map]; congr 1
  cases zeroOf X.C.P t with
  | none => rfl
  | some zs => cases aggOf X.C.P t with
    | none => rfl
    | some b => cases b with
      | false => rfl
      | true =>
        simp only
        split
        · simp [Option.map_map, Function.comp_def]
        · rfl
@[go_sem] theorem op_buildSlice (t : TypeId) (len k : Nat) (ps : Array (Nat × Operand)) : opsA X all (⟨some k, .buildSlice t len ps, ty, pos, aft, none⟩ :: rest) K st = (if k ∈ X.deep then stepA (some k) (opsA X all rest K) (match rowInf X.C.P t with
    | some (e, 1, _) => match zeroOf X.C.P e with
      | some _ => litD (nm k) st len (partsL X.C st ps.toList)
      | none => none
    | _ => none) else stepA (some k) (opsA X all rest K) (match rowInf X.C.P t with
    | some (e, n, _) => match zeroOf X.C.P e with
      | some zs => litA (nm k) n len zs st (partsL X.C st ps.toList)
      | none => none
    | none => none)) := by
  simp only [opsA, operA, doA, inDeep]
  by_cases hk : k ∈ X.deep <;> simp only [hk, if_true, if_false]
  · simp only [deepLit, partsL_eq]
    cases rowInf X.C.P t with
    | none => rfl
    | some p =>
      obtain ⟨e, n, b⟩ := p
      rcases n with _ | _ | n <;> rfl
  · simp only [stepV, partsL_eq]
    cases rowInf X.C.P t with
    | none => rfl
    | some p => rfl
def makeV (C : Ctx) (k : Nat) (t : TypeId) (l c : AV) (st : St) : Option (AV × St) := match some k, rowInf C.P t, l, c with
    | some d, some (e, n, _), .v (.int _ l), .v (.int _ c) => match zeroOf C.P e with
      | some zs => makeA (nm d) n zs st l c
      | none => none
    | _, _, _, _ => none
@[go_sem] theorem makeV_int (C : Ctx) (k : Nat) (t : TypeId) (kl kc : IntKind) (l c : Int) : makeV C k t (.v (.int kl l)) (.v (.int kc c)) st = (match rowInf C.P t with
    | some (e, n, _) => match zeroOf C.P e with
      | some zs => makeA (nm k) n zs st l c
      | none => none
    | none => none) := by
  unfold makeV
  cases rowInf C.P t <;> rfl
@[go_sem] theorem op_makeSlice (t : TypeId) (k : Nat) (l c : Operand) : opsA X all (⟨some k, .makeSlice t l c, ty, pos, aft, none⟩ :: rest) K st = stepA (some k) (opsA X all rest K) (makeV X.C k t (ev X.C st l) (ev X.C st c) st) := rfl
def boundV : Option AV → Option (Option Nat)
  | none => some none
  | some x => (natOf x).map some
@[go_sem] theorem boundV_none : boundV none = some none := rfl
@[go_sem] theorem boundV_some (x : AV) : boundV (some x) = (natOf x).map some := rfl
@[go_sem] theorem litBound_eq (C : Ctx) (o : Option Operand) : litBound C st o = boundV (o.map (ev C st)) := by cases o <;> rfl
@[go_sem] theorem op_slice (t : TypeId) (x : Operand) (lo hi mx : Option Operand) : opsA X all (⟨d, .slice t x lo hi mx, ty, pos, aft, none⟩ :: rest) K st = stepA d (opsA X all rest K) (sliceOp X.C st t (ev X.C st x) lo hi mx) := rfl
@[go_sem] theorem sliceOp_sl (C : Ctx) (t : TypeId) (tg : Tag) (n : Nat) (es : List (List AV)) (lo hi mx : Option Operand) : sliceOp C st t (.sl tg n es) lo hi mx = (match litBound C st lo, litBound C st hi, litBound C st mx, elemOfSlice C.P t with
    | some l, some (some h), some none, some (_, m) => if n = m then sliceA m false (l.getD 0) h st (.sl tg n es) else none
    | some l, some none, some none, some (_, m) => if n = m then sliceA m false (l.getD 0) es.length st (.sl tg n es) else none
    | some l, some (some h), some (some x), some (_, m) => if n = m ∧ x = h then sliceA m true (l.getD 0) h st (.sl tg n es) else none
    | _, _, _, _ => none) := by
  unfold sliceOp
  cases litBound C st lo with
  | none => rfl
  | some l => cases litBound C st hi with
    | none => rfl
    | some h => cases litBound C st mx with
      | none => cases h <;> rfl
      | some m => cases elemOfSlice C.P t with
        | none => cases h <;> cases m <;> rfl
        | some p =>
          obtain ⟨e, k⟩ := p
          simp only [elems]
          by_cases hn : n = k
          · cases h <;> cases m <;> simp [hn]
          · cases h <;> cases m <;> simp [hn]
@[go_sem] theorem sliceOp_nil (C : Ctx) (t : TypeId) (lo hi mx : Option Operand) : sliceOp C st t (.v (.slice none 0 0)) lo hi mx = (match litBound C st lo, litBound C st hi, litBound C st mx, elemOfSlice C.P t with
    | some l, some h, some none, some (_, m) => sliceA m false (l.getD 0) (h.getD 0) st (.v (.slice none 0 0))
    | some l, some (some h), some (some x), some (_, m) => if x = h then sliceA m true (l.getD 0) h st (.v (.slice none 0 0)) else none
    | _, _, _, _ => none) := by
  unfold sliceOp
  cases litBound C st lo with
  | none => rfl
  | some l => cases litBound C st hi with
    | none => rfl
    | some h => cases litBound C st mx with
      | none => cases h <;> rfl
      | some m => cases elemOfSlice C.P t with
        | none => cases h <;> cases m <;> rfl
        | some p => cases h <;> cases m <;> rfl
@[go_sem] theorem sliceOp_str (C : Ctx) (t : TypeId) (s : ByteArray) (lo hi : Option Operand) : sliceOp C st t (.v (.string s)) lo hi none = (match litBound C st lo, litBound C st hi, elemOfSlice C.P t with
    | some l, some h, none => if strT C.P t ∧ l.getD 0 ≤ h.getD s.size ∧ h.getD s.size ≤ s.size then some (.v (.string (s.extract (l.getD 0) (h.getD s.size))), st) else none
    | _, _, _ => none) := by
  unfold sliceOp
  cases litBound C st lo with
  | none => rfl
  | some l => cases litBound C st hi with
    | none => rfl
    | some h => cases elemOfSlice C.P t with
      | none => rfl
      | some p => rfl
@[go_sem] theorem op_makeFunc (f : Nat) (caps : Array Operand) : opsA X all (⟨d, .makeFunc (.func f) #[] caps, ty, pos, aft, none⟩ :: rest) K st = opsA X all rest K (st.put d (.fn f (evs X.C st caps.toList))) := by
  rw [evs_map]; rfl
@[go_sem] theorem op_makeInterface (t : TypeId) (x : Operand) : opsA X all (⟨d, .makeInterface t x, ty, pos, aft, none⟩ :: rest) K st = (if X.C.P.concrete t then opsA X all rest K (st.put d (.ifc t (ev X.C st x))) else False) := by
  simp only [opsA, operA, doA, stepV]
  split <;> rfl
@[go_sem] theorem op_call (f : Operand) (args : Array Operand) (ts : Array TypeId) : opsA X all (⟨d, .call ⟨.value f, args, ts⟩, ty, pos, aft, none⟩ :: rest) K st = callA X d (ev X.C st f) (evs X.C st args.toList) (opsA X all rest K) st := rfl
@[go_sem] theorem op_len (x : Operand) (t : TypeId) : opsA X all (⟨d, .call ⟨.builtin .len, #[x], #[t]⟩, ty, pos, aft, none⟩ :: rest) K st = (if lenOk X.C.P t (ev X.C st x) = true then stepP d (opsA X all rest K) (lenA (ev X.C st x)) st else False) := by
  simp only [opsA, operA, doA, stepV, builtinV]
  split
  · exact stepA_map _ _ _ _
  · rfl
@[go_sem] theorem op_append (x y : Operand) (t t2 : TypeId) (k : Nat) : opsA X all (⟨some k, .call ⟨.builtin .append, #[x, y], #[t, t2]⟩, ty, pos, aft, none⟩ :: rest) K st = (if k ∈ X.deep then stepA (some k) (opsA X all rest K) (match rowInf X.C.P t with
    | some (_, 1, _) => if isSliceT X.C.P t2 = true then appendD (nm k) st (ev X.C st x) (ev X.C st y) else none
    | _ => none) else (match rowInf X.C.P t with
    | some (_, n, _) => if isSliceT X.C.P t2 = true then stepA (some k) (opsA X all rest K) (appendA (nm k) n st (ev X.C st x) (ev X.C st y)) else False
    | none => False)) := by
  simp only [opsA, operA, doA, inDeep]
  by_cases hk : k ∈ X.deep <;> simp only [hk, if_true, if_false]
  · simp only [deepApp]
    cases rowInf X.C.P t with
    | none => rfl
    | some p =>
      obtain ⟨e, n, b⟩ := p
      rcases n with _ | _ | n <;> rfl
  · simp only [stepV, builtinV]
    cases rowInf X.C.P t with
    | none => rfl
    | some p =>
      obtain ⟨e, n, b⟩ := p
      simp only
      split <;> rfl
def maxA : AV → AV → Option AV
  | .v (.int k a), .v (.int _ b) => some (.v (.int k (if b > a then b else a)))
  | _, _ => none
def minA : AV → AV → Option AV
  | .v (.int k a), .v (.int _ b) => some (.v (.int k (if b < a then b else a)))
  | _, _ => none
@[go_sem] theorem maxA_int (k k' : IntKind) (a b : Int) : maxA (.v (.int k a)) (.v (.int k' b)) = some (.v (.int k (if b > a then b else a))) := rfl
@[go_sem] theorem minA_int (k k' : IntKind) (a b : Int) : minA (.v (.int k a)) (.v (.int k' b)) = some (.v (.int k (if b < a then b else a))) := rfl
@[go_sem] theorem op_max (x y : Operand) (ts : Array TypeId) : opsA X all (⟨d, .call ⟨.builtin .max, #[x, y], ts⟩, ty, pos, aft, none⟩ :: rest) K st = stepP d (opsA X all rest K) (maxA (ev X.C st x) (ev X.C st y)) st := by
  simp only [opsA, operA, doA, stepV, builtinV, maxA]
  rw [← stepA_map]; congr 1
  generalize ev X.C st x = v
  generalize ev X.C st y = v'
  cases v with
  | v u => cases v' with
    | v u' => cases u <;> cases u' <;> rfl
    | _ => cases u <;> rfl
  | _ => rfl
@[go_sem] theorem op_min (x y : Operand) (ts : Array TypeId) : opsA X all (⟨d, .call ⟨.builtin .min, #[x, y], ts⟩, ty, pos, aft, none⟩ :: rest) K st = stepP d (opsA X all rest K) (minA (ev X.C st x) (ev X.C st y)) st := by
  simp only [opsA, operA, doA, stepV, builtinV, minA]
  rw [← stepA_map]; congr 1
  generalize ev X.C st x = v
  generalize ev X.C st y = v'
  cases v with
  | v u => cases v' with
    | v u' => cases u <;> cases u' <;> rfl
    | _ => cases u <;> rfl
  | _ => rfl
end

-- values
@[go_sem] theorem lenOk_sl (P : Program) (t : TypeId) (tg : Tag) (n : Nat) (es : List (List AV)) : lenOk P t (.sl tg n es) = isSliceT P t := rfl
@[go_sem] theorem lenOk_nil (P : Program) (t : TypeId) : lenOk P t (.v (.slice none 0 0)) = isSliceT P t := rfl
@[go_sem] theorem lenOk_str (P : Program) (t : TypeId) (s : ByteArray) : lenOk P t (.v (.string s)) = strT P t := rfl
@[go_sem] theorem lenA_sl (tg : Tag) (n : Nat) (es : List (List AV)) : lenA (.sl tg n es) = some (.v (.int .i64 es.length)) := rfl
@[go_sem] theorem lenA_nil : lenA (.v (.slice none 0 0)) = some (.v (.int .i64 0)) := rfl
@[go_sem] theorem lenA_str (s : ByteArray) : lenA (.v (.string s)) = some (.v (.int .i64 s.size)) := rfl
@[go_sem] theorem lenA_dsl (r i j off m : Nat) (bss : List (List (List AV))) : lenA (.hnd .dsl r i j off m bss) = some (.v (.int .i64 bss.length)) := rfl
@[go_sem] theorem lenA_isl (r i j off m : Nat) (b : List (List AV)) : lenA (.hnd .isl r i j off m [b]) = some (.v (.int .i64 b.length)) := rfl
@[go_sem] theorem lenOk_hnd (P : Program) (t : TypeId) (k : HK) (r i j off m : Nat) (b : List (List (List AV))) : lenOk P t (.hnd k r i j off m b) = isSliceT P t := rfl
@[go_sem] theorem pickA_b (p x y : Bool) : pickA (.v (.bool p)) (.v (.bool x)) (.v (.bool y)) = some (.v (.bool (bif p then x else y))) := rfl
@[go_sem high] theorem pickA_tt (x y : AV) : pickA (.v (.bool true)) x y = some x := by unfold pickA; split <;> simp_all
@[go_sem high] theorem pickA_ff (x y : AV) : pickA (.v (.bool false)) x y = some y := by unfold pickA; split <;> simp_all
@[go_sem] theorem nilA_ptr (s o : Nat) : nilA (.ptr s o) = some (.ptr s o) := rfl
@[go_sem] theorem nilA_ep (t : Tag) (i : Nat) (cs : List AV) (o : Nat) : nilA (.ep t i cs o) = some (.ep t i cs o) := rfl
@[go_sem] theorem nilA_fn (f : Nat) (cs : List AV) : nilA (.fn f cs) = some (.fn f cs) := rfl
attribute [go_sem] cond_true cond_false bne_self_eq_false setT mkA loadA fieldA indexS indexR elems storeA litA makeA natOf appendA sliceA fillA fieldV
  AV.cells okCell okCells upd cut pureA pureL rowsOf vals chunk
  AV.kill killL killT killO St.kill AV.freeze freezeL nm unA binA intBin shiftBin strBin eqVals valsOf
  AV.setRow setRowL St.setRow AV.setInn setInnL St.setInn Hset plainL litD appendD frozen St.freeze convA
  List.map_cons List.map_nil List.length_cons List.length_nil List.drop_zero List.drop_succ_cons List.take_succ_cons List.take_zero List.drop_nil List.take_nil List.cons_append List.nil_append List.append_nil
  List.getElem?_toArray List.getElem?_cons_zero List.getElem?_cons_succ List.flatten_cons List.flatten_nil List.replicate_zero List.replicate_succ
  Option.map_some Option.map_none Option.getD_some Option.getD_none Option.bind_some Option.bind_none
  if_true if_false Nat.reduceEqDiff Nat.reduceAdd Nat.reduceMul Nat.reduceLeDiff Nat.reduceSub Nat.reduceLT Nat.zero_add Nat.add_zero and_true true_and and_self List.mem_cons List.mem_nil_iff List.not_mem_nil or_false false_or or_self not_false_eq_true not_true_eq_false
  Bool.false_eq_true Bool.true_eq_false Bool.not_true Bool.not_false Bool.and_true Bool.true_and Bool.false_and Bool.and_false beq_self_eq_true decide_true decide_false reduceCtorEq forall_const implies_true false_implies
theorem natOf_pos (k : IntKind) (i : Int) (h : 0 ≤ i) : natOf (.v (.int k i)) = some i.toNat := by simp [natOf, h]
@[go_sem] theorem cast_nonneg (n : Nat) : (0 ≤ (n : Int)) = True := by simp
@[go_sem] theorem tt_beq (b : Bool) : (true == b) = b := by cases b <;> rfl
@[go_sem] theorem ff_beq (b : Bool) : (false == b) = !b := by cases b <;> rfl
@[go_sem] theorem beq_tt (b : Bool) : (b == true) = b := by cases b <;> rfl
@[go_sem] theorem beq_ff (b : Bool) : (b == false) = !b := by cases b <;> rfl
attribute [go_sem] Int.cast_ofNat_Int Int.reduceBNe Int.reduceBEq Bool.not_not Int.toNat_natCast Int.toNat_zero Int.reduceLE Int.reduceLT Int.reduceToNat Int.reduceAdd Int.reduceSub Int.reduceMul Int.reduceNeg Nat.le_refl Nat.zero_le Nat.sub_zero List.take_length List.length_take List.length_drop List.length_append List.length_map
theorem wrap64 (n : Int) (h1 : -9223372036854775808 ≤ n) (h2 : n ≤ 9223372036854775807) : IntKind.i64.wrap n = n := by
  simp only [IntKind.wrap, IntKind.signed, IntKind.bits, Bool.true_and, decide_eq_true_eq, ge_iff_le, Nat.reduceSub]
  split <;> omega
theorem wrap32 (n : Int) (h1 : -2147483648 ≤ n) (h2 : n ≤ 2147483647) : IntKind.i32.wrap n = n := by
  simp only [IntKind.wrap, IntKind.signed, IntKind.bits, Bool.true_and, decide_eq_true_eq, ge_iff_le, Nat.reduceSub]
  split <;> omega
theorem wrapu8 (n : Int) (h1 : 0 ≤ n) (h2 : n ≤ 255) : IntKind.u8.wrap n = n := by
  simp only [IntKind.wrap, IntKind.signed, IntKind.bits, Bool.false_and, Bool.false_eq_true, if_false]
  omega
theorem wrapu32 (n : Int) (h1 : 0 ≤ n) (h2 : n ≤ 4294967295) : IntKind.u32.wrap n = n := by
  simp only [IntKind.wrap, IntKind.signed, IntKind.bits, Bool.false_and, Bool.false_eq_true, if_false]
  omega
theorem wrapu64 (n : Int) (h1 : 0 ≤ n) (h2 : n ≤ 18446744073709551615) : IntKind.u64.wrap n = n := by
  simp only [IntKind.wrap, IntKind.signed, IntKind.bits, Bool.false_and, Bool.false_eq_true, if_false]
  omega

@[go_sem] theorem renO_nil (ρ : Rn) : renO ρ [] = [] := rfl
@[go_sem] theorem renO_cons (ρ : Rn) (k : Nat) (cs : List AV) (o : List (Nat × List AV)) : renO ρ ((k, cs) :: o) = (match lk k ρ.m with | some s => (s, renL ρ cs) :: renO ρ o | none => renO ρ o) := by
  simp only [renO, List.filterMap_cons]
  cases lk k ρ.m <;> rfl
attribute [go_sem] names argT AV.ren renL renT renSt inv rngs Way.back WeakT WeakO pack List.filterMap_cons_some List.filterMap_cons_none List.filterMap_nil List.map_map List.mem_singleton
theorem ret_intro {X : Env} {rs : List ResultVar} {y : AV} {o' : List (Nat × List AV)} {st : St} (xs : List AV) (ρ : Rn) (h1 : resVs X.C st rs = some xs) (h2 : ρ.OK) (h3 : ∀ s ∈ X.ext, lk s ρ.m = some s) (h4 : WeakV ((pack xs).ren ρ) y) (h5 : WeakO (renSt ρ st) o') : (∃ xs ρ, resVs X.C st rs = some xs ∧ ρ.OK ∧ (∀ s ∈ X.ext, lk s ρ.m = some s) ∧ WeakV ((pack xs).ren ρ) y ∧ WeakO (renSt ρ st) o') :=
  ⟨xs, ρ, h1, h2, h3, h4, h5⟩
attribute [go_sem ↓] reduceIte
theorem St.eta_app (K : St → Prop) (st : St) : K ⟨st.tmps, st.objs⟩ = K st := rfl
def frzT (S : List Nat) : List (Nat × AV) → List (Nat × AV)
  | [] => []
  | (k, x) :: l => (k, x.freeze S) :: frzT S l
end Go.Abs
