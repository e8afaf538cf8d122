/- Operations on numbers, strings, booleans and plain structs. -/
import Derived.Test.YtfnniffkgoimeaaA9
set_option linter.all false
namespace Go.Abs

def intBin (op : BinOp) (k : IntKind) (a b : Int) : Option Value :=
  match op with
  | .add => some (.int k (k.wrap (a + b)))
  | .sub => some (.int k (k.wrap (a - b)))
  | .mul => some (.int k (k.wrap (a * b)))
  | .quo => if b = 0 then none else some (.int k (k.wrap (a.tdiv b)))
  | .rem => if b = 0 then none else some (.int k (a.tmod b))
  | .and => some (.int k (bits .and k a b))
  | .or => some (.int k (bits .or k a b))
  | .xor => some (.int k (bits .xor k a b))
  | .andNot => some (.int k (bits .andNot k a b))
  | .eql => some (.bool (a == b))
  | .neq => some (.bool (a != b))
  | .lss => some (.bool (decide (a < b)))
  | .leq => some (.bool (decide (a ≤ b)))
  | .gtr => some (.bool (decide (b < a)))
  | .geq => some (.bool (decide (b ≤ a)))
  | _ => none

def shiftBin (op : BinOp) (k : IntKind) (a b : Int) : Option Value :=
  match op with
  | .shl => if b < 0 then none else some (.int k (k.wrap (a * 2 ^ (min b.toNat k.bits))))
  | .shr => if b < 0 then none else some (.int k (a.fdiv (2 ^ (min b.toNat k.bits))))
  | _ => none

def strBin (op : BinOp) (a b : ByteArray) : Option Value :=
  match op with
  | .add => if a.size + b.size ≤ 9223372036854775807 then some (.string (a ++ b)) else none
  | .eql => some (.bool (a.toList == b.toList))
  | .neq => some (.bool !(a.toList == b.toList))
  | .lss => some (.bool (Op.bytesLess a.toList b.toList))
  | .leq => some (.bool (Op.bytesLess a.toList b.toList || a.toList == b.toList))
  | .gtr => some (.bool !(Op.bytesLess a.toList b.toList || a.toList == b.toList))
  | .geq => some (.bool !(Op.bytesLess a.toList b.toList))
  | _ => none

/-- two lists of cells, compared by their kinds: 0 a bool, 1 an integer, 2 a string -/
def eqVals : List Nat → List Value → List Value → Option Bool
  | [], [], [] => some true
  | 1 :: ks, .int k a :: xs, .int k' b :: ys => if k = k' then (eqVals ks xs ys).map fun r => (a == b) && r else none
  | 2 :: ks, .string a :: xs, .string b :: ys => (eqVals ks xs ys).map fun r => (a.toList == b.toList) && r
  | 0 :: ks, .bool a :: xs, .bool b :: ys => (eqVals ks xs ys).map fun r => (a == b) && r
  | _, _, _ => none

def valsOf : List AV → Option (List Value)
  | [] => some []
  | .v x :: cs => (valsOf cs).map (x :: ·)
  | _ => none

mutual
/-- a type whose values are compared cell by cell: the kinds of its cells -/
def plainEq (P : Program) : Nat → TypeId → Option (List Nat)
  | 0, _ => none
  | d + 1, t => match P.underlying t with
    | some .bool => some [0]
    | some (.int _) => some [1]
    | some .string => some [2]
    | some (.struct fs) => if P.stoodInHeld t then none else plainFields P d fs.toList 0
    | _ => none
def plainFields (P : Program) : Nat → List Field → Nat → Option (List Nat)
  | _, [], _ => some []
  | d, f :: fs, off => if f.name = "_" ∨ f.offset ≠ off then none else match plainEq P d f.type with
    | some ks => if szOf P f.type = some ks.length then (plainFields P d fs (off + ks.length)).map (ks ++ ·) else none
    | none => none
end

/-- a struct type that is compared cell by cell -/
def structEq (P : Program) (t : TypeId) : Option (List Nat) := if aggOf P t == some true && !(P.eqGuardType P.depth t) then plainEq P 20 t else none

def boolT (P : Program) (t : TypeId) : Bool := match P.underlying t with
  | some .bool => true
  | _ => false

def binA (P : Program) (op : BinOp) (t : TypeId) : AV → AV → Option AV
  | .v (.int k a), .v (.int k' b) => match op with
    | .shl => (shiftBin .shl k a b).map .v
    | .shr => (shiftBin .shr k a b).map .v
    | op => if k = k' then (intBin op k a b).map .v else none
  | .v (.string a), .v (.string b) => (strBin op a b).map .v
  | .v (.bool a), .v (.bool b) => if boolT P t then match op with
    | .eql => some (.v (.bool (a == b)))
    | .neq => some (.v (.bool (!(a == b))))
    | _ => none
    else none
  | .agg xs, .agg ys => match structEq P t, valsOf xs, valsOf ys with
    | some ks, some us, some vs => match op with
      | .eql => (eqVals ks us vs).map fun b => .v (.bool b)
      | .neq => (eqVals ks us vs).map fun b => .v (.bool (!b))
      | _ => none
    | _, _, _ => none
  | _, _ => none

def unA (op : UnOp) : AV → Option AV
  | .v (.bool b) => match op with
    | .not => some (.v (.bool (!b)))
    | _ => none
  | .v (.int k n) => match op with
    | .neg => some (.v (.int k (k.wrap (0 - n))))
    | .xor => some (.v (.int k (bits .xor k (if k.signed then -1 else k.max) n)))
    | _ => none
  | _ => none

section
variable {g : Gh} {w : World} {P : Program}

theorem intBin_sound {op : BinOp} {t : TypeId} {k : IntKind} {a b : Int} {v : Value} (h : intBin op k a b = some v) : (binOp op t (.int k a) (.int k b)).run P w = .ok v w := by
  cases op <;> simp only [intBin, reduceCtorEq] at h
  all_goals first
    | (split at h
       · cases h
       · rename_i hb
         simp only [Option.some.injEq] at h
         subst h
         simp [binOp, Op.intDiv, hb]
         done)
    | (simp only [Option.some.injEq] at h
       subst h
       simp [binOp, Op.intArith, Op.intCmp, Op.intBits, bits]
       done)

theorem shift_sound {op : BinOp} {t : TypeId} {k k' : IntKind} {a b : Int} {v : Value} (h : shiftBin op k a b = some v) : (binOp op t (.int k a) (.int k' b)).run P w = .ok v w := by
  unfold shiftBin at h
  split at h
  · split at h
    · cases h
    · rename_i hb
      simp only [Option.some.injEq] at h; subst h
      simp [binOp, Op.shift, hb]
  · split at h
    · cases h
    · rename_i hb
      simp only [Option.some.injEq] at h; subst h
      simp [binOp, Op.shift, hb]
  · cases h

theorem str_sound {op : BinOp} {t : TypeId} {a b : ByteArray} {v : Value} (h : strBin op a b = some v) : (binOp op t (.string a) (.string b)).run P w = .ok v w := by
  unfold strBin at h
  split at h
  · split at h
    · rename_i hb
      simp only [Option.some.injEq] at h; subst h
      have hb' : ¬ (9223372036854775807 < (a.size : Int) + (b.size : Int)) := by omega
      simp [binOp, Op.stringOp, hb']
    · cases h
  all_goals first
    | (simp only [Option.some.injEq] at h; subst h; simp [binOp, Op.stringOp]; done)
    | cases h

theorem eqVals_len : ∀ {ks : List Nat} {xs ys : List Value} {r : Bool}, eqVals ks xs ys = some r → xs.length = ks.length ∧ ys.length = ks.length := by
  intro ks xs ys
  induction ks, xs, ys using eqVals.induct with
  | case1 => simp
  | case2 ks k a xs b ys ih =>
    intro r h
    simp only [eqVals, if_true] at h
    obtain ⟨r0, h0, _⟩ := Option.map_eq_some_iff.1 h
    have := ih h0
    simp [this]
  | case3 ks k a xs k' b ys hk => intro r h; simp [eqVals, hk] at h
  | case4 ks a xs b ys ih =>
    intro r h
    simp only [eqVals] at h
    obtain ⟨r0, h0, _⟩ := Option.map_eq_some_iff.1 h
    have := ih h0
    simp [this]
  | case5 ks a xs b ys ih =>
    intro r h
    simp only [eqVals] at h
    obtain ⟨r0, h0, _⟩ := Option.map_eq_some_iff.1 h
    have := ih h0
    simp [this]
  | case6 ks xs ys h1 h2 h3 h4 =>
    intro r h
    rw [eqVals.eq_5 _ _ _ h1 h2 h3 h4] at h
    cases h

theorem eqVals_append : ∀ {ks ks' : List Nat} {xs ys xs' ys' : List Value} {r : Bool}, xs.length = ks.length → ys.length = ks.length → eqVals (ks ++ ks') (xs ++ xs') (ys ++ ys') = some r →
    ∃ r1 r2, eqVals ks xs ys = some r1 ∧ eqVals ks' xs' ys' = some r2 ∧ r = (r1 && r2)
  | [], ks', [], [], xs', ys', r, _, _, h => ⟨true, r, rfl, h, rfl⟩
  | [], _, _ :: _, _, _, _, _, h, _, _ => by simp at h
  | [], _, [], _ :: _, _, _, _, _, h, _ => by simp at h
  | _ :: _, _, [], _, _, _, _, h, _, _ => by simp at h
  | _ :: _, _, _ :: _, [], _, _, _, _, h, _ => by simp at h
  | k0 :: ks, ks', x :: xs, y :: ys, xs', ys', r, hl, hl', h => by
    simp only [List.length_cons, Nat.add_right_cancel_iff] at hl hl'
    simp only [List.cons_append] at h
    unfold eqVals at h
    split at h
    · rename_i h1 h2 h3; simp at h1
    · rename_i ks0 k a xs0 k' b ys0 h1 h2 h3
      simp only [List.cons.injEq] at h1 h2 h3
      obtain ⟨rfl, rfl⟩ := h1
      obtain ⟨rfl, rfl⟩ := h2
      obtain ⟨rfl, rfl⟩ := h3
      split at h
      · rename_i hk
        obtain ⟨r0, h0, rfl⟩ := Option.map_eq_some_iff.1 h
        obtain ⟨r1, r2, e1, e2, rfl⟩ := eqVals_append hl hl' h0
        exact ⟨(a == b) && r1, r2, by simp [eqVals, hk, e1], e2, by rw [Bool.and_assoc]⟩
      · cases h
    · rename_i ks0 a xs0 b ys0 h1 h2 h3
      simp only [List.cons.injEq] at h1 h2 h3
      obtain ⟨rfl, rfl⟩ := h1
      obtain ⟨rfl, rfl⟩ := h2
      obtain ⟨rfl, rfl⟩ := h3
      obtain ⟨r0, h0, rfl⟩ := Option.map_eq_some_iff.1 h
      obtain ⟨r1, r2, e1, e2, rfl⟩ := eqVals_append hl hl' h0
      exact ⟨(a.toList == b.toList) && r1, r2, by simp [eqVals, e1], e2, by rw [Bool.and_assoc]⟩
    · rename_i ks0 a xs0 b ys0 h1 h2 h3
      simp only [List.cons.injEq] at h1 h2 h3
      obtain ⟨rfl, rfl⟩ := h1
      obtain ⟨rfl, rfl⟩ := h2
      obtain ⟨rfl, rfl⟩ := h3
      obtain ⟨r0, h0, rfl⟩ := Option.map_eq_some_iff.1 h
      obtain ⟨r1, r2, e1, e2, rfl⟩ := eqVals_append hl hl' h0
      exact ⟨(a == b) && r1, r2, by simp [eqVals, e1], e2, by rw [Bool.and_assoc]⟩
    · cases h

/-- the value of a type's cells -/
def valOf (agg : Bool) (us : List Value) : Value := if agg then .agg us.toArray else us.headD undef

theorem run_part {t : TypeId} {agg : Bool} {n off : Nat} {us : List Value} (h1 : aggOf P t = some agg) (h2 : szOf P t = some n) (hn : agg = false → n = 1) (hl : off + n ≤ us.length) :
    (part t us.toArray off).run P w = .ok (valOf agg ((us.drop off).take n)) w := by
  unfold part
  rw [Sem.run_bind, run_isAgg h1]
  cases agg with
  | true =>
    simp only [Result.andThen_ok, if_true, Sem.run_bind, run_sizeOf h2, Sem.run_pure, valOf]
    congr 2
    apply Array.ext'
    simp [List.drop_take, Nat.add_sub_cancel_left]
  | false =>
    have := hn rfl
    subst this
    have hlt : off < us.length := by omega
    simp only [Result.andThen_ok, Bool.false_eq_true, if_false, List.getElem?_toArray, List.getElem?_eq_getElem hlt, Sem.run_pure, valOf]
    congr 1
    rw [List.drop_eq_getElem_cons hlt]
    rfl

theorem plain_one {d t : Nat} {ks : List Nat} (h : plainEq P d t = some ks) : ∃ agg, aggOf P t = some agg ∧ (agg = false → ks.length = 1) := by
  cases d with
  | zero => simp [plainEq] at h
  | succ d =>
    simp only [plainEq] at h
    split at h <;> rename_i hu <;> simp only [aggOf, hu, Option.map_some]
    · simp at h; subst h; exact ⟨false, rfl, fun _ => rfl⟩
    · simp at h; subst h; exact ⟨false, rfl, fun _ => rfl⟩
    · simp at h; subst h; exact ⟨false, rfl, fun _ => rfl⟩
    · exact ⟨true, rfl, fun h => by cases h⟩
    · cases h

theorem eqFields_sound {d D : Nat} (ih : ∀ (t : Nat) (ks : List Nat) (agg : Bool) (us vs : List Value) (r : Bool), plainEq P d t = some ks → aggOf P t = some agg → eqVals ks us vs = some r → (Op.equalIn D t (valOf agg us) (valOf agg vs)).run P w = .ok r w) :
    ∀ (fs : List Field) (off : Nat) (ks : List Nat), plainFields P d fs off = some ks → ∀ (us vs : List Value) (r : Bool), off ≤ us.length → off ≤ vs.length → eqVals ks (us.drop off) (vs.drop off) = some r → (Op.eqFields D us.toArray vs.toArray fs).run P w = .ok r w
  | [], off, ks, h, us, vs, r, hu, hv, hr => by
    simp only [plainFields, Option.some.injEq] at h
    subst h
    have hl := eqVals_len hr
    have e1 : us.drop off = [] := List.eq_nil_of_length_eq_zero (by simpa using hl.1)
    have e2 : vs.drop off = [] := List.eq_nil_of_length_eq_zero (by simpa using hl.2)
    rw [e1, e2] at hr
    simp only [eqVals, Option.some.injEq] at hr
    subst hr
    simp [Op.eqFields]
  | f :: fs, off, ks, h, us, vs, r, hu, hv, hr => by
    simp only [plainFields] at h
    split at h
    · cases h
    · rename_i hc
      have hc1 : f.name ≠ "_" := fun e => hc (.inl e)
      have hc2 : f.offset = off := Classical.byContradiction fun e => hc (.inr e)
      split at h
      · rename_i k1 hn
        split at h
        · rename_i hs
          obtain ⟨k2, hk2, rfl⟩ := Option.map_eq_some_iff.1 h
          obtain ⟨agg, hagg, hone⟩ := plain_one hn
          have hl := eqVals_len hr
          simp only [List.length_drop, List.length_append] at hl
          have e1 : us.drop off = (us.drop off).take k1.length ++ us.drop (off + k1.length) := by rw [← List.drop_drop, List.take_append_drop]
          have e2 : vs.drop off = (vs.drop off).take k1.length ++ vs.drop (off + k1.length) := by rw [← List.drop_drop, List.take_append_drop]
          rw [e1, e2] at hr
          obtain ⟨r1, r2, m1, m2, rfl⟩ := eqVals_append (by simp; omega) (by simp; omega) hr
          have p1 := run_part (w := w) (us := us) (off := off) hagg hs hone (by omega)
          have p2 := run_part (w := w) (us := vs) (off := off) hagg hs hone (by omega)
          have q := ih f.type k1 agg _ _ r1 hn hagg m1
          have rest := eqFields_sound ih fs (off + k1.length) k2 hk2 us vs r2 (by omega) (by omega) m2
          simp only [Op.eqFields, ne_eq, hc1, not_false_eq_true, if_true, hc2, Sem.run_bind, p1, p2, q, Result.andThen_ok]
          cases r1
          · simp
          · simp [rest]
        · cases h
      · cases h

theorem eq_bool {us vs : List Value} {r : Bool} (h : eqVals [0] us vs = some r) : ∃ a b, us = [.bool a] ∧ vs = [.bool b] ∧ r = (a == b) := by
  have hl := eqVals_len h
  match us, vs, hl, h with
  | [u], [v], _, h =>
    unfold eqVals at h
    split at h <;> simp_all [eqVals]
theorem eq_int {us vs : List Value} {r : Bool} (h : eqVals [1] us vs = some r) : ∃ k a b, us = [.int k a] ∧ vs = [.int k b] ∧ r = (a == b) := by
  have hl := eqVals_len h
  match us, vs, hl, h with
  | [u], [v], _, h =>
    unfold eqVals at h
    split at h <;> simp_all [eqVals]
    exact ⟨_, _, ⟨rfl, rfl⟩, _, ⟨rfl, rfl⟩, h.2.symm⟩
theorem eq_string {us vs : List Value} {r : Bool} (h : eqVals [2] us vs = some r) : ∃ a b, us = [.string a] ∧ vs = [.string b] ∧ r = (a.toList == b.toList) := by
  have hl := eqVals_len h
  match us, vs, hl, h with
  | [u], [v], _, h =>
    unfold eqVals at h
    split at h <;> simp_all [eqVals]

theorem equalIn_plain : ∀ (d D t : Nat) (ks : List Nat) (agg : Bool) (us vs : List Value) (r : Bool), d ≤ D → plainEq P d t = some ks → aggOf P t = some agg → eqVals ks us vs = some r → (Op.equalIn D t (valOf agg us) (valOf agg vs)).run P w = .ok r w
  | 0, _, _, _, _, _, _, _, _, h, _, _ => by simp [plainEq] at h
  | d + 1, 0, _, _, _, _, _, _, hd, _, _, _ => by omega
  | d + 1, D + 1, t, ks, agg, us, vs, r, hd, h, ha, hr => by
    simp only [plainEq] at h
    split at h <;> rename_i hd' <;> simp only [aggOf, hd', Option.map_some, Option.some.injEq] at ha
    · subst ha; simp at h; subst h
      obtain ⟨a, b, rfl, rfl, rfl⟩ := eq_bool hr
      simp [valOf, Op.equalIn, run_underlying hd']
    · subst ha; simp at h; subst h
      obtain ⟨k, a, b, rfl, rfl, rfl⟩ := eq_int hr
      simp [valOf, Op.equalIn, run_underlying hd']
    · subst ha; simp at h; subst h
      obtain ⟨a, b, rfl, rfl, rfl⟩ := eq_string hr
      simp [valOf, Op.equalIn, run_underlying hd', beq_toListBytes]
    · rename_i fs
      subst ha
      split at h
      · cases h
      · rename_i hs
        have hfs : P.fieldsOf t = fs := by simp only [Program.fieldsOf, hd']
        have hfo : P.underlying t = some (.struct (P.fieldsOf t)) := by rw [hfs]; exact hd'
        simp only [valOf, if_true]
        rw [run_equalIn_struct w D t _ _ hfo (by simpa using hs), hfs]
        exact eqFields_sound (fun t ks agg us vs r k1 k2 k3 => equalIn_plain d D t ks agg us vs r (by omega) k1 k2 k3) _ 0 ks h us vs r (Nat.zero_le _) (Nat.zero_le _) (by simpa using hr)
    · cases h

theorem valsOf_VRs : ∀ {cs : List AV} {xs us : List Value}, valsOf cs = some xs → VRs g w cs us → us = xs
  | [], xs, [], h, _ => by simp [valsOf] at h; exact h.symm
  | [], _, _ :: _, _, h => by simp [VRs] at h
  | .v x :: cs, xs, [], _, h => by simp [VRs] at h
  | .v x :: cs, xs, u :: us, h, hv => by
    simp only [valsOf] at h
    obtain ⟨ys, h1, rfl⟩ := Option.map_eq_some_iff.1 h
    simp only [VRs, VR] at hv
    rw [hv.1, valsOf_VRs h1 hv.2]
  | .undef :: _, _, _, h, _ => by simp [valsOf] at h
  | .agg _ :: _, _, _, h, _ => by simp [valsOf] at h
  | .tup _ :: _, _, _, h, _ => by simp [valsOf] at h
  | .sl _ _ _ :: _, _, _, h, _ => by simp [valsOf] at h
  | .ptr _ _ :: _, _, _, h, _ => by simp [valsOf] at h
  | .ep _ _ _ _ :: _, _, _, h, _ => by simp [valsOf] at h
  | .fn _ _ :: _, _, _, h, _ => by simp [valsOf] at h
  | .ifc _ _ :: _, _, _, h, _ => by simp [valsOf] at h

/-- a binary operation, its guard against nil errors with it -/
theorem bin_sound {op : BinOp} {t : TypeId} {p q : Operand} {x y z : AV} {ux uy : Value} (hx : VR g w x ux) (hy : VR g w y uy) (h : binA P op t x y = some z) :
    ∃ u, (do eqGuard op t p q ux uy; binOp op t ux uy : Sem Value).run P w = .ok u w ∧ VR g w z u := by
  unfold binA at h
  split at h
  · rename_i k a k' b
    simp only [VR] at hx hy
    subst hx; subst hy
    have hg : eqGuard op t p q (.int k a) (.int k' b) = pure () := by cases op <;> rfl
    rw [hg]
    simp only [Sem.run_bind, Sem.run_pure, Result.andThen_ok]
    split at h
    · obtain ⟨v, h1, rfl⟩ := Option.map_eq_some_iff.1 h
      exact ⟨v, shift_sound h1, by simp [VR]⟩
    · obtain ⟨v, h1, rfl⟩ := Option.map_eq_some_iff.1 h
      exact ⟨v, shift_sound h1, by simp [VR]⟩
    · split at h
      · rename_i hk
        subst hk
        obtain ⟨v, h1, rfl⟩ := Option.map_eq_some_iff.1 h
        exact ⟨v, intBin_sound h1, by simp [VR]⟩
      · cases h
  · rename_i a b
    simp only [VR] at hx hy
    subst hx; subst hy
    have hg : eqGuard op t p q (.string a) (.string b) = pure () := by cases op <;> rfl
    rw [hg]
    simp only [Sem.run_bind, Sem.run_pure, Result.andThen_ok]
    obtain ⟨v, h1, rfl⟩ := Option.map_eq_some_iff.1 h
    exact ⟨v, str_sound h1, by simp [VR]⟩
  · rename_i a b
    simp only [VR] at hx hy
    subst hx; subst hy
    have hg : eqGuard op t p q (.bool a) (.bool b) = pure () := by cases op <;> rfl
    rw [hg]
    simp only [Sem.run_bind, Sem.run_pure, Result.andThen_ok]
    split at h
    · rename_i ht
      have hu : P.underlying t = some .bool := by
        unfold boolT at ht
        split at ht
        · assumption
        · cases ht
      split at h
      · simp only [Option.some.injEq] at h; subst h
        refine ⟨.bool (a == b), ?_, by simp [VR]⟩
        have e : binOp .eql t (.bool a) (.bool b) = (do pure (.bool (← Op.equal t (.bool a) (.bool b)))) := rfl
        rw [e, Sem.run_bind]
        simp only [Op.equal, Op.maxDepth, run_equalIn_bool' w 9999 t a b hu, Result.andThen_ok, Sem.run_pure]
      · simp only [Option.some.injEq] at h; subst h
        refine ⟨.bool (!(a == b)), ?_, by simp [VR]⟩
        have e : binOp .neq t (.bool a) (.bool b) = (do pure (.bool (!(← Op.equal t (.bool a) (.bool b))))) := rfl
        rw [e, Sem.run_bind]
        simp only [Op.equal, Op.maxDepth, run_equalIn_bool' w 9999 t a b hu, Result.andThen_ok, Sem.run_pure]
      · cases h
    · cases h
  · rename_i xs ys
    simp only [VR] at hx hy
    obtain ⟨us, rfl, hx⟩ := hx
    obtain ⟨vs, rfl, hy⟩ := hy
    split at h
    · rename_i ks us' vs' hks hus hvs
      have e1 := valsOf_VRs hus hx
      have e2 := valsOf_VRs hvs hy
      unfold structEq at hks
      split at hks
      · rename_i hc
        simp only [Bool.and_eq_true, beq_iff_eq, Bool.not_eq_true'] at hc
        have hg := run_eqGuard_agg (P := P) w op t p q us vs hc.2
        rw [Sem.run_bind, hg]
        simp only [Result.andThen_ok]
        have key : ∀ r, eqVals ks us' vs' = some r → (Op.equalIn 10000 t (.agg us) (.agg vs)).run P w = .ok r w := fun r hr => by
          have := equalIn_plain (w := w) 20 10000 t ks true us' vs' r (by omega) hks hc.1 hr
          simp only [valOf, if_true] at this
          rw [← e1, ← e2] at this
          exact this
        split at h
        · obtain ⟨r, hr, rfl⟩ := Option.map_eq_some_iff.1 h
          refine ⟨.bool r, ?_, by simp [VR]⟩
          rw [run_eql_struct, key r hr]; rfl
        · obtain ⟨r, hr, rfl⟩ := Option.map_eq_some_iff.1 h
          refine ⟨.bool (!r), ?_, by simp [VR]⟩
          rw [run_neq_struct, key r hr]; rfl
        · cases h
      · cases hks
    · cases h
  · cases h

theorem un_sound {op : UnOp} {x z : AV} {ux : Value} (hx : VR g w x ux) (h : unA op x = some z) : ∃ u, (Op.unary op ux).run P w = .ok u w ∧ VR g w z u := by
  unfold unA at h
  split at h
  · simp only [VR] at hx; subst hx
    split at h
    · simp only [Option.some.injEq] at h; subst h
      exact ⟨_, by simp [Op.unary]; rfl, by simp [VR]⟩
    · cases h
  · simp only [VR] at hx; subst hx
    split at h
    · simp only [Option.some.injEq] at h; subst h
      exact ⟨_, by simp [Op.unary, Op.intArith]; rfl, by simp [VR]⟩
    · simp only [Option.some.injEq] at h; subst h
      exact ⟨_, by simp [Op.unary, Op.intBits, bits]; rfl, by simp [VR, bits]⟩
    · cases h
  · cases h
end
end Go.Abs
