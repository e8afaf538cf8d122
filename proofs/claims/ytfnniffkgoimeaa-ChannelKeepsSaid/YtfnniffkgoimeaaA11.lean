/- All steps but calls, in one function; that the model makes them too. -/
import Derived.Test.YtfnniffkgoimeaaA10
import Derived.Lib.ConvBytes
set_option linter.all false
namespace Go.Abs

def strT (P : Program) (t : TypeId) : Bool := match P.underlying t with
  | some .string => true
  | _ => false
def intT (P : Program) (t : TypeId) : Option IntKind := match P.underlying t with
  | some (.int k) => some k
  | _ => none

def lenA : AV → Option AV
  | .sl _ _ es => some (.v (.int .i64 es.length))
  | .v (.slice none 0 0) => some (.v (.int .i64 0))
  | .v (.string s) => some (.v (.int .i64 s.size))
  | .hnd .dsl _ _ _ _ _ bss => some (.v (.int .i64 bss.length))
  | .hnd .isl _ _ _ _ _ [b] => some (.v (.int .i64 b.length))
  | _ => none

def lenOk (P : Program) (t : TypeId) : AV → Bool
  | .v (.string _) => strT P t
  | _ => isSliceT P t

def pickA : AV → AV → AV → Option AV
  | .v (.bool p), .v (.bool x), .v (.bool y) => some (.v (.bool (bif p then x else y)))
  | .v (.bool true), x, _ => some x
  | .v (.bool false), _, y => some y
  | _, _, _ => none

def nilA : AV → Option AV
  | .ptr s o => some (.ptr s o)
  | .ep t i cs o => some (.ep t i cs o)
  | .fn f cs => some (.fn f cs)
  | _ => none

def bytesAV (l : List UInt8) : List (List AV) := l.map fun b => [.v (.int .u8 b.toNat)]
/-- the bytes of a slice of bytes -/
def unbytes : List (List AV) → Option (List UInt8)
  | [] => some []
  | [.v (.int .u8 n)] :: es => (unbytes es).map (UInt8.ofNat n.toNat :: ·)
  | _ => none

def isBytesT (P : Program) (t : TypeId) : Bool := match P.underlying t with
  | some (.slice e) => match P.underlying e, szOf P e with
    | some (.int .u8), some 1 => true
    | _, _ => false
  | _ => false
def convA (P : Program) (src dst : TypeId) (st : St) (x : AV) : Option (AV × St) :=
  match x with
  | .v (.int _ n) => match intT P src, intT P dst with
    | some _, some k => some (.v (.int k (k.wrap n)), st)
    | _, _ => none
  | .v (.string s) => if strT P src ∧ strT P dst then some (.v (.string s), st) else if strT P src ∧ isBytesT P dst ∧ s.size ≤ 4294967296 then some (.sl .no 1 (bytesAV s.data.toList), st) else none
  | .v (.slice none 0 0) => if isBytesT P src ∧ strT P dst then some (.v (.string ⟨#[]⟩), st) else none
  | .sl t n es => if n = 1 then
      if isBytesT P src ∧ strT P dst then (unbytes es).map fun l => (.v (.string ⟨l.toArray⟩), st)
      else match t, es with
        | .own r 0, e :: es => if src = dst ∧ isBytesT P src then some (.sl .no 1 (e :: es), st.kill [r] []) else none
        | _, _ => none
    else none
  | _ => none

/-- the places of a struct's parts -/
def placeOf (P : Program) (t : TypeId) (i : Nat) : Option (Nat × Nat) :=
  match P.underlying t with
  | some (.struct fs) => match fs[i]? with
    | some f => (szOf P f.type).map fun n => (f.offset, n)
    | none => none
  | some (.array _ e) => (szOf P e).map fun n => (i * n, n)
  | _ => none

def sized (P : Program) (t : TypeId) : Bool := match P.underlying t with
  | some (.struct fs) => fs.toList.all fun f => (szOf P f.type).isSome
  | some (.array _ e) => (szOf P e).isSome
  | _ => false

def fieldV (P : Program) (t : TypeId) (i : Nat) : AV → Option AV
  | .agg cs => match P.underlying t with
    | some (.struct fs) => match fs[i]? with
      | some f => match aggOf P f.type, szOf P f.type with
        | some agg, some n => if f.offset + n ≤ cs.length then mkA agg ((cs.drop f.offset).take n) else none
        | _, _ => none
      | none => none
    | _ => none
  | _ => none

def concreteT (P : Program) (t : TypeId) : Bool := P.concrete t

def litBound (C : Ctx) (st : St) : Option Operand → Option (Option Nat)
  | none => some none
  | some o => (natOf (ev C st o)).map some

def parts (C : Ctx) (st : St) (ps : Array (Nat × Operand)) : List (Nat × AV) := ps.toList.map fun p => (p.1, ev C st p.2)

/-- the box or row that an operation makes bears the name of its slot -/
def nm (d : Nat) : Nat := d * 64

def strLen : AV → Option Nat
  | .v (.string s) => some s.size
  | _ => none

def sliceOp (C : Ctx) (st : St) (t : TypeId) (x : AV) (lo hi mx : Option Operand) : Option (AV × St) :=
  match litBound C st lo, litBound C st hi, litBound C st mx with
  | some l, some h, some m => match elemOfSlice C.P t with
    | some (_, n) => match elems n x with
      | some es => match h, m with
        | some h, some m => if m = h then sliceA n true (l.getD 0) h st x else none
        | some h, none => sliceA n false (l.getD 0) h st x
        | none, none => sliceA n false (l.getD 0) es.length st x
        | none, some _ => none
      | none => none
    | none => match x, m with
      | .v (.string s), none => if strT C.P t ∧ l.getD 0 ≤ h.getD s.size ∧ h.getD s.size ≤ s.size then some (.v (.string (s.extract (l.getD 0) (h.getD s.size))), st) else none
      | _, _ => none
  | _, _, _ => none

def builtinV (C : Ctx) (dst : Option Nat) (b : Builtin) (xs : List Operand) (ts : List TypeId) (st : St) : Option (AV × St) :=
  match b with
  | .len => match xs, ts with
    | [x], [t] => if lenOk C.P t (ev C st x) = true then (lenA (ev C st x)).map (·, st) else none
    | _, _ => none
  | .append => match dst, xs, ts with
    | some d, [x, y], [t, t2] => match rowInf C.P t with
      | some (_, n, _) => if isSliceT C.P t2 = true then appendA (nm d) n st (ev C st x) (ev C st y) else none
      | none => none
    | _, _, _ => none
  | .max => match xs with
    | [x, y] => match ev C st x, ev C st y with
      | .v (.int k a), .v (.int _ b) => some (.v (.int k (if b > a then b else a)), st)
      | _, _ => none
    | _ => none
  | .min => match xs with
    | [x, y] => match ev C st x, ev C st y with
      | .v (.int k a), .v (.int _ b) => some (.v (.int k (if b < a then b else a)), st)
      | _, _ => none
    | _ => none
  | _ => none

def stepV (C : Ctx) (o : Oper) (st : St) : Option (AV × St) :=
  match o.op with
  | .move x => some (ev C st x, st)
  | .assign x => some (ev C st x, st)
  | .pick c a b => (pickA (ev C st c) (ev C st a) (ev C st b)).map (·, st)
  | .alloc t => match o.dst, zeroOf C.P t with
    | some d, some zs => some (.ptr (nm d) 0, ⟨(st.kill [] [nm d]).tmps, (nm d, vals zs) :: (st.kill [] [nm d]).objs⟩)
    | _, _ => none
  | .box _ x => match o.dst with
    | some d => if okCells (ev C st x).cells = true then some (.ptr (nm d) 0, ⟨(st.kill [] [nm d]).tmps, (nm d, killL [] [nm d] (ev C st x).cells) :: (st.kill [] [nm d]).objs⟩) else none
    | none => none
  | .load t a => match aggOf C.P t, szOf C.P t with
    | some agg, some n => (loadA agg n st.objs (ev C st a)).map (·, st)
    | _, _ => none
  | .store t a x => match o.dst, szOf C.P t with
    | none, some n => (storeA n st (ev C st a) (ev C st x)).map (.undef, ·)
    | _, _ => none
  | .fieldAddr t x i => match offOf C.P t i with
    | some off => (fieldA off (ev C st x)).map (·, st)
    | none => none
  | .indexAddr t x i => match ev C st i with
    | .v (.int _ k) => match elemOfSlice C.P t with
      | some (_, n) => (indexS n k (ev C st x)).map (·, st)
      | none => match elemOfArray C.P t with
        | some (len, n) => (indexR len n k (ev C st x)).map (·, st)
        | none => none
    | _ => none
  | .nilCheck x => (nilA (ev C st x)).map (·, st)
  | .binOp op t x y _ => (binA C.P op t (ev C st x) (ev C st y)).map (·, st)
  | .unOp op _ x => (unA op (ev C st x)).map (·, st)
  | .convert src dst x => convA C.P src dst st (ev C st x)
  | .extract x i => match ev C st x with
    | .tup cs => (cs[i]?).map (·, st)
    | _ => none
  | .field t x i => (fieldV C.P t i (ev C st x)).map (·, st)
  | .build t ps => match zeroOf C.P t, aggOf C.P t with
    | some zs, some true => if sized C.P t = true then (fillA (placeOf C.P t) (vals zs) (parts C st ps)).map (.agg ·, st) else none
    | _, _ => none
  | .buildSlice t len ps => match o.dst, rowInf C.P t with
    | some d, some (e, n, _) => match zeroOf C.P e with
      | some zs => litA (nm d) n len zs st (parts C st ps)
      | none => none
    | _, _ => none
  | .makeSlice t l c => match o.dst, rowInf C.P t, ev C st l, ev C st c with
    | some d, some (e, n, _), .v (.int _ l), .v (.int _ c) => match zeroOf C.P e with
      | some zs => makeA (nm d) n zs st l c
      | none => none
    | _, _, _, _ => none
  | .slice t x lo hi mx => sliceOp C st t (ev C st x) lo hi mx
  | .makeFunc fn first caps => match fn, first.toList with
    | .func f, [] => some (.fn f (caps.toList.map (ev C st)), st)
    | _, _ => none
  | .makeInterface t x => if C.P.concrete t then some (.ifc t (ev C st x), st) else none
  | .call c => match c.callee with
    | .builtin b => builtinV C o.dst b c.args.toList c.argTypes.toList st
    | _ => none
  | _ => none

section
variable {C : Ctx} {A : A0} {N : Nat} {g g' : Gh} {st : St} {a : Act} {w w' : World} {P : Program}

theorem strT_spec {t : TypeId} (h : strT P t = true) : P.underlying t = some .string := by
  unfold strT at h; split at h <;> simp_all
theorem intT_spec {t : TypeId} {k : IntKind} (h : intT P t = some k) : P.underlying t = some (.int k) := by
  unfold intT at h; split at h <;> simp_all
theorem isSliceT_spec {t : TypeId} (h : isSliceT P t = true) : ∃ e, P.underlying t = some (.slice e) := by
  unfold isSliceT at h; split at h <;> simp_all
theorem isBytesT_spec {t : TypeId} (h : isBytesT P t = true) : ∃ e, P.underlying t = some (.slice e) ∧ P.underlying e = some (.int .u8) ∧ szOf P e = some 1 := by
  unfold isBytesT at h
  split at h
  · rename_i e he
    split at h
    · rename_i h1 h2; exact ⟨e, he, h1, h2⟩
    · cases h
  · cases h

/-- new memory that nobody will write -/
theorem R.newRo (h : R C A N g st a w) (hos : w'.os = w.os) (htape : w'.tape = w.tape) (hout : w'.output = w.output) (hsz : w'.heap.size = w.heap.size + 1) (hold : ∀ b, b < w.heap.size → w'.heap[b]? = w.heap[b]?) :
    ∃ g', R C A N g' st a w' ∧ isRo g' w.heap.size ∧ (∀ b, b < w.heap.size → g'.own b = g.own b) := by
  let g' : Gh := { g with own := fun x => if x = w.heap.size then .ro else g.own x }
  have hl : Lasts [] [] g w g' w' := ⟨fun b hb ho => ⟨by simp [g', Nat.ne_of_lt hb, ho], hold b hb⟩, fun b q hb _ ho => ⟨by simp [g', Nat.ne_of_lt hb, ho], hold b hb⟩, fun _ _ => rfl, fun _ _ => rfl, fun b q i hb _ ho => ⟨by simp [g', Nat.ne_of_lt hb, ho], hold b hb⟩, fun _ _ _ => rfl⟩
  refine ⟨g', ?_, by simp [g', isRo], fun b hb => by simp [g', Nat.ne_of_lt hb]⟩
  have := h.lasts hl (h.fr.step hl hos htape hout (by omega) (fun b hb ho => ⟨by simp [g', Nat.ne_of_lt hb, ho], hold b hb⟩) (fun _ _ he => by cases he)) (fun s cs hs _ => by
    have ho := h.ob s cs hs
    exact ⟨by simp [g', Nat.ne_of_lt ho.lt, ho.1], hold _ ho.lt⟩)
  rwa [stKill_nil] at this

theorem pick_sound {x y z r : AV} {ux uy uz : Value} (hx : VR g w x ux) (hy : VR g w y uy) (hz : VR g w z uz) (h : pickA x y z = some r) :
    ∃ u, (do pure (.value (if ← asBool ux then uy else uz)) : Sem Next).run P w = .ok (.value u) w ∧ VR g w r u := by
  unfold pickA at h
  split at h
  · rename_i p b c
    simp only [VR] at hx hy hz; subst hx; subst hy; subst hz
    simp at h; subst h
    refine ⟨_, by simp [asBool]; rfl, ?_⟩
    cases p <;> simp [VR]
  · simp only [VR] at hx; subst hx
    simp at h; subst h
    exact ⟨uy, by simp [asBool], hy⟩
  · simp only [VR] at hx; subst hx
    simp at h; subst h
    exact ⟨uz, by simp [asBool], hz⟩
  · cases h

theorem len_sound {t ty : TypeId} {x r : AV} {ux : Value} (ht : isSliceT P t = true ∨ strT P t = true) (hx : VR g w x ux) (h : lenA x = some r)
    (hk : (∃ s, x = .v (.string s)) → strT P t = true) (hk' : (¬ ∃ s, x = .v (.string s)) → isSliceT P t = true) : ∃ u, (Builtin.len_ #[t] ty #[ux]).run P w = .ok u w ∧ VR g w r u := by
  unfold lenA at h
  split at h
  · rename_i t' n es
    simp at h; subst h
    obtain ⟨e, he⟩ := isSliceT_spec (hk' (by rintro ⟨s, hs⟩; cases hs))
    have : ∃ a cap, ux = .slice a es.length cap := by
      cases t' with
      | own r lo =>
        simp only [VR, OwnSl] at hx
        obtain ⟨_, ⟨rfl, rfl⟩ | ⟨_, rfl, a, cap, rfl, _⟩ | ⟨cap, _, _, rfl, _⟩⟩ := hx
        · exact ⟨none, 0, rfl⟩
        · exact ⟨a, cap, rfl⟩
        · exact ⟨_, cap, rfl⟩
      | no => simp only [VR, PR] at hx; obtain ⟨_, a, cap, rfl, _⟩ := hx; exact ⟨a, cap, rfl⟩
      | full => simp only [VR, PR] at hx; obtain ⟨_, a, cap, rfl, _⟩ := hx; exact ⟨a, cap, rfl⟩
    obtain ⟨a, cap, rfl⟩ := this
    exact ⟨_, by simp [Builtin.len_, run_underlying he, goInt]; rfl, by simp [VR]⟩
  · simp at h; subst h
    simp only [VR] at hx; subst hx
    obtain ⟨e, he⟩ := isSliceT_spec (hk' (by rintro ⟨s, hs⟩; cases hs))
    exact ⟨_, by simp [Builtin.len_, run_underlying he, goInt]; rfl, by simp [VR]⟩
  · simp at h; subst h
    simp only [VR] at hx; subst hx
    have he := strT_spec (hk ⟨_, rfl⟩)
    exact ⟨_, by simp [Builtin.len_, run_underlying he, goInt]; rfl, by simp [VR]⟩
  · rename_i r _ _ _ m bss
    simp at h; subst h
    obtain ⟨e, he⟩ := isSliceT_spec (hk' (by rintro ⟨s, hs⟩; cases hs))
    simp only [VR] at hx
    obtain ⟨hm, ⟨rfl, rfl⟩ | ⟨cap, cur, T, rfl, _⟩⟩ := hx
    · exact ⟨_, by simp [Builtin.len_, run_underlying he, goInt]; rfl, by simp [VR]⟩
    · exact ⟨_, by simp [Builtin.len_, run_underlying he, goInt]; rfl, by simp [VR]⟩
  · rename_i r _ _ _ m b
    simp at h; subst h
    obtain ⟨e, he⟩ := isSliceT_spec (hk' (by rintro ⟨s, hs⟩; cases hs))
    simp only [VR] at hx
    obtain ⟨hm, b', hbb, hi⟩ := hx
    simp only [List.cons.injEq, and_true] at hbb
    subst hbb
    rcases hi with ⟨rfl, a, cap, rfl, _⟩ | ⟨cap, cur, T, rfl, _⟩
    · exact ⟨_, by simp [Builtin.len_, run_underlying he, goInt]; rfl, by simp [VR]⟩
    · exact ⟨_, by simp [Builtin.len_, run_underlying he, goInt]; rfl, by simp [VR]⟩
  · cases h

theorem PRl_bytesAV {ro : Nat → Prop} : ∀ l : List UInt8, PRl ro w (bytesAV l).flatten (l.map fun b => Value.int .u8 b.toNat)
  | [] => by simp [bytesAV, PRl]
  | b :: l => by
    have := PRl_bytesAV (ro := ro) l
    simp only [bytesAV, List.map_cons, List.flatten_cons, List.cons_append, List.nil_append, PRl, PR] at this ⊢
    exact ⟨⟨trivial, rfl⟩, this⟩

theorem unbytes_vals {ro : Nat → Prop} : ∀ {es : List (List AV)} {us : List Value} {l : List UInt8}, unbytes es = some l → PRl ro w es.flatten us → ∃ ns : List Int, us = ns.map (Value.int .u8) ∧ l = ns.map (fun n => UInt8.ofNat n.toNat)
  | [], [], l, h, _ => by simp [unbytes] at h; subst h; exact ⟨[], rfl, rfl⟩
  | [], _ :: _, _, _, hp => by simp [PRl] at hp
  | e :: es, us, l, h, hp => by
    unfold unbytes at h
    split at h
    · rename_i heq; cases heq
    · rename_i n es' heq
      injection heq with h1 h2
      subst h1; subst h2
      obtain ⟨l', hl', rfl⟩ := Option.map_eq_some_iff.1 h
      simp only [List.flatten_cons, List.cons_append, List.nil_append] at hp
      match us, hp with
      | u :: us, hp =>
        simp only [PRl, PR] at hp
        obtain ⟨ns, rfl, rfl⟩ := unbytes_vals hl' hp.2
        exact ⟨n :: ns, by simp [hp.1.1], by simp⟩
      | [], hp => simp [PRl] at hp
    · cases h

theorem foldl_push (ns : List Int) : ∀ acc : ByteArray, (ns.foldl (fun r n => r.push (UInt8.ofNat n.toNat)) acc) = ⟨acc.data ++ (ns.map (fun n => UInt8.ofNat n.toNat)).toArray⟩ := by
  induction ns with
  | nil => intro acc; cases acc; simp
  | cons n ns ih =>
    intro acc
    rw [List.foldl_cons, ih]
    simp [ByteArray.push]

theorem conv_sound (hR : R C A N g st a w) {src dst : TypeId} {x r : AV} {ux : Value} (hx : VR g w x ux) {st' : St} (h : convA P src dst st x = some (r, st')) :
    ∃ u w' g', (convert src dst ux).run P w = .ok u w' ∧ R C A N g' st' a w' ∧ VR g' w' r u := by
  unfold convA at h
  split at h
  · -- an integer
    simp only [VR] at hx; subst hx
    split at h
    · rename_i k1 k2 h1 h2
      simp at h; obtain ⟨rfl, rfl⟩ := h
      refine ⟨.int k2 (k2.wrap _), w, g, ?_, hR, by simp only [VR]; rfl⟩
      simp [convert, run_underlying (intT_spec h1), run_underlying (intT_spec h2), Conv.intToInt]
    · cases h
  · simp only [VR] at hx; subst hx
    rename_i s
    split at h
    · rename_i hc
      simp at h; obtain ⟨rfl, rfl⟩ := h
      exact ⟨_, w, g, by simp [convert, run_underlying (strT_spec hc.1), run_underlying (strT_spec hc.2)]; rfl, hR, by simp [VR]⟩
    · split at h
      · rename_i hc
        simp at h; obtain ⟨rfl, rfl⟩ := h
        obtain ⟨e, h1, h2, h3⟩ := isBytesT_spec hc.2.1
        have hrun := Lib.run_convert_string_bytes (P := P) w src dst e s (strT_spec hc.1) h1 h2
        obtain ⟨g', k1, k2, k3⟩ := hR.newRo (w' := Lib.bytesWorld w e s) (by simp [Lib.bytesWorld, World.freeze]; rfl) (by simp [Lib.bytesWorld, World.freeze]) (by simp [Lib.bytesWorld, World.freeze]; rfl) (Lib.bytesWorld_size w e s) (fun b hb => Lib.bytesWorld_at_old w e s b hb)
        refine ⟨_, _, g', hrun, k1, ?_⟩
        have hsl : (bytesAV s.data.toList).length = s.size := by simp [bytesAV]
        simp only [VR, PR]
        refine ⟨(fun _ _ h => by cases h), _, _, by rw [hsl], by rw [hsl]; exact grownCap_ge w s.size 0 e, grownCap_le_maxLen w s.size 0 e (by simp only [maxLen]; omega), (fun h => by cases h), by omega, ?_⟩
        refine .inr ⟨_, rfl, k2, PRe.of_list _ _ _ 1 0 (fun e' he' => by simp only [bytesAV, List.mem_map] at he'; obtain ⟨_, _, rfl⟩ := he'; rfl) (PRl_bytesAV _) fun j v hj => ?_⟩
        have hj' : j < s.size := by
          rcases Nat.lt_or_ge j s.size with h | h
          · exact h
          · rw [List.getElem?_eq_none (by simpa using h)] at hj; cases hj
        simp only [Nat.zero_mul, Nat.zero_add, add_lit]
        rw [Lib.bytesWorld_cell w e s j hj', ← hj, List.getElem?_map]
        have hjl : j < s.data.toList.length := by simpa using hj'
        simp [List.getD, List.getElem?_eq_getElem hjl]
      · cases h
  · simp only [VR] at hx; subst hx
    split at h
    · rename_i hc
      simp at h; obtain ⟨rfl, rfl⟩ := h
      obtain ⟨e, h1, h2, h3⟩ := isBytesT_spec hc.1
      exact ⟨.string .empty, w, g, by simp [convert, run_underlying h1, run_underlying h2, run_underlying (strT_spec hc.2), Conv.bytesToString], hR, by simp [VR]; rfl⟩
    · cases h
  · rename_i t n es
    split at h
    · rename_i hn
      subst hn
      split at h
      · rename_i hc
        obtain ⟨l, hl, he⟩ := Option.map_eq_some_iff.1 h
        simp only [Prod.mk.injEq] at he
        obtain ⟨rfl, rfl⟩ := he
        obtain ⟨e, h1, h2, h3⟩ := isBytesT_spec hc.1
        obtain ⟨us, hs, hp, _⟩ := elems_src (n := 1) (es := es) (by omega) (by simp [elems]) hx
        obtain ⟨ns, rfl, rfl⟩ := unbytes_vals hl hp
        obtain ⟨hlen, hsrc⟩ := hs
        refine ⟨.string ⟨(ns.map (fun n => UInt8.ofNat n.toNat)).toArray⟩, w, g, ?_, hR, by simp only [VR]⟩
        rcases hsrc with ⟨ad, c, rfl, hcell⟩ | ⟨h0, c, rfl⟩
        · rw [run_convert_bytes_string w src dst e _ _ _ h1 h2 (strT_spec hc.2)]
          have hlc : (loadCells ad es.length).run P w = .ok (ns.map (Value.int .u8)).toArray w := by
            have := run_loadCells_list (P := P) w ad (ns.map (Value.int .u8)) hcell
            rwa [hlen, Nat.mul_one] at this
          rw [run_bytesToString w ad es.length c ns hlc, foldl_push]
          simp [ByteArray.empty, ByteArray.emptyWithCapacity]
          try rfl
        · have : ns = [] := by
            have : ns.length = 0 := by simpa [h0] using hlen
            exact List.eq_nil_of_length_eq_zero this
          subst this
          simp [convert, run_underlying h1, run_underlying h2, run_underlying (strT_spec hc.2), Conv.bytesToString]
          rfl
      · split at h
        · rename_i t0 es0 r0 e0 es1
          split at h
          · rename_i hc
            simp at h; obtain ⟨rfl, rfl⟩ := h
            obtain ⟨rfl, hc⟩ := hc
            obtain ⟨e, h1, h2, h3⟩ := isBytesT_spec hc
            simp only [VR, OwnSl] at hx
            obtain ⟨_, ⟨_, h0⟩ | ⟨_, h0, _⟩ | ⟨cap, cur, T, rfl, k2, k3, k5, k6, k7, k8⟩⟩ := hx
            · cases h0
            · cases h0
            · have hsh : w.shape? (g.row r0) = some (T, cur.size) := by simp [World.shape?, k6]
              have hrun : (convert src src (.slice (some ⟨g.row r0, 0 * 1, none⟩) (e0 :: es1).length cap)).run P w = .ok (.slice (some ⟨g.row r0, 0 * 1, none⟩) (e0 :: es1).length cap) (w.freeze ⟨g.row r0, cur.size, none⟩ 1) := by
                simp [convert, run_underlying h1, run_underlying h2, markStringish, hsh]
              have hother : ∀ b, b ≠ g.row r0 → (w.freeze ⟨g.row r0, cur.size, none⟩ 1).heap[b]? = w.heap[b]? := fun b hb => by
                simp [World.freeze, Array.getElem?_modify, Ne.symm hb]
              have hself : (w.freeze ⟨g.row r0, cur.size, none⟩ 1).heap[g.row r0]? = some (.cells cur T (cur.size, cur.size + 1)) := by
                simp [World.freeze, Array.getElem?_modify, k6]
              let g' : Gh := { g with own := fun x => if x = g.row r0 then .ro else g.own x }
              have hl : Lasts [r0] [] g w g' (w.freeze ⟨g.row r0, cur.size, none⟩ 1) := by
                refine ⟨fun b _ ho => ?_, fun b q _ hq ho => ?_, fun _ _ => rfl, fun _ _ => rfl, fun b q i _ _ ho => ?_, fun _ _ _ => rfl⟩
                · have hne : b ≠ g.row r0 := fun e => by rw [e, k5] at ho; cases ho
                  exact ⟨by simp [g', hne, ho], hother b hne⟩
                · have hne : b ≠ g.row r0 := fun e => by rw [e, k5] at ho; injection ho with ho; exact hq (by simp [ho])
                  exact ⟨by simp [g', hne, ho], hother b hne⟩
                · have hne : b ≠ g.row r0 := fun e => by rw [e, k5] at ho; cases ho
                  exact ⟨by simp [g', hne, ho], hother b hne⟩
              refine ⟨_, _, g', hrun, ?_, ?_⟩
              · refine hR.lasts hl (hR.fr.step hl (by simp [World.freeze]) (by simp [World.freeze]) (by simp [World.freeze]) (by simp [World.freeze]) (fun b _ ho => ?_) (fun _ _ h => by cases h)) (fun s cs hs _ => ?_)
                · have hne : b ≠ g.row r0 := fun e => by rw [e, k5] at ho; cases ho
                  exact ⟨by simp [g', hne, ho], hother b hne⟩
                · have ho := (hR.ob s cs hs).1
                  have hne : g.box s ≠ g.row r0 := fun e => by rw [e, k5] at ho; cases ho
                  exact ⟨by simp [g', hne, ho], hother _ hne⟩
              · simp only [VR, PR]
                obtain ⟨us, m1, m2, m3⟩ := PRe.list _ _ _ _ k8
                refine ⟨(fun _ _ h => by cases h), _, _, rfl, k2, by omega, (fun h => by cases h), by omega, .inr ⟨_, rfl, by simp [g', isRo], ?_⟩⟩
                refine PRe.of_list _ us _ 1 0 (PRe.lens k8) (PRl.mono hl.ro' m1) fun j v hj => ?_
                have := m3 j v hj
                simp only [add_lit] at this ⊢
                rw [cell_of_row _ _ _ _ _ _ k6] at this
                rw [cell_of_row _ _ _ _ _ _ hself]
                exact this
          · cases h
        · cases h
    · cases h
  · cases h
end
end Go.Abs
