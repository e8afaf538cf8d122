/- part 7 of the proof -/
import Derived.Test.YtobcllcndnbmlaaGreatDoorM02
set_option linter.all false
namespace Go.H
open Go.Abs (lk SameTape Does does_pure flatE szOf aggOf zeroOf lt_of_heap alloc_old)
inductive HV where
  | undef
  | v (x : Value)
  | agg (cs : List HV)
  | tup (cs : List HV)
  | ptr (s off : Nat)
  | gp (i off : Nat)
  | bs (s off n sz : Nat) (full : Bool)
  | fn (f : Nat) (caps : List HV)
  | mv (f : Nat) (first : List HV)
  | ifc (t : TypeId) (x : HV)
  | mp (s : Nat)
  | it (s : Nat)
  | em
inductive HO where
  | cells (cs : List HV)
  | map (es : List HV)
  | iter (m : Option Nat) (since last : Nat) (seen : List Nat)
  | seen (q since i : Nat)
structure GB where
  b : Nat
  o : Nat
  m : Nat
abbrev Gh := Nat → Option GB
def Ext (g g' : Gh) : Prop := ∀ s G, g s = some G → g' s = some G
theorem Ext.rfl {g : Gh} : Ext g g := fun _ _ h => h
theorem Ext.trans {g g' g'' : Gh} (h : Ext g g') (h' : Ext g' g'') : Ext g g'' := fun s G hs => h' s G (h s G hs)
def Gh.new (g : Gh) (n : Nat) (G : GB) : Gh := fun s => if s = n then some G else g s
theorem Ext.new {g : Gh} {n : Nat} (h : g n = none) (G : GB) : Ext g (g.new n G) := fun s G' hs => by
  have : s ≠ n := fun e => by rw [e, h] at hs; cases hs
  simp [Gh.new, this, hs]
theorem Gh.new_self (g : Gh) (n : Nat) (G : GB) : g.new n G n = some G := by simp [Gh.new]
theorem Gh.new_inv {g : Gh} {n s : Nat} {G G' : GB} (h : g.new n G s = some G') : (s ≠ n ∧ g s = some G') ∨ (s = n ∧ G' = G) := by
  unfold Gh.new at h
  split at h
  · rename_i e; exact .inr ⟨e, (Option.some.inj h).symm⟩
  · rename_i e; exact .inl ⟨e, h⟩
mutual
def VR (g : Gh) : HV → Value → Prop
  | .undef, _ => True
  | .v x, u => u = x
  | .agg cs, u => ∃ us, u = .agg us ∧ VRs g cs us.toList
  | .tup cs, u => ∃ us, u = .tuple us ∧ VRs g cs us.toList
  | .ptr s off, u => ∃ G, g s = some G ∧ u = .pointer (some ⟨G.b, G.o + off, none⟩)
  | .gp i off, u => u = .pointer (some ⟨i, off, none⟩)
  | .bs s off n sz full, u => ∃ G cap, g s = some G ∧ 0 < sz ∧ u = .slice (some ⟨G.b, G.o + off, none⟩) n cap ∧ n ≤ cap ∧ cap ≤ maxLen ∧ off + cap * sz ≤ G.m ∧ (full = true → cap = n)
  | .fn f caps, u => ∃ us, u = .func (.func f) #[] us ∧ VRs g caps us.toList
  | .mv f caps, u => ∃ us, u = .func (.func f) us #[] ∧ VRs g caps us.toList
  | .ifc t x, u => ∃ y, u = .iface t y ∧ VR g x y
  | .mp s, u => ∃ G, g s = some G ∧ u = .map (some G.b)
  | .it s, u => ∃ G, g s = some G ∧ u = .pointer (some ⟨G.b, 0, none⟩)
  | .em, u => ∃ a cap, u = .slice (some a) 0 cap ∧ cap ≤ maxLen
def VRs (g : Gh) : List HV → List Value → Prop
  | [], [] => True
  | c :: cs, u :: us => VR g c u ∧ VRs g cs us
  | _, _ => False
end
section
variable {g g' : Gh}
mutual
theorem VR.ext (he : Ext g g') : ∀ (x : HV) (u : Value), VR g x u → VR g' x u
  | .undef, _, _ => by simp [VR]
  | .v x, u, h => by simpa only [VR] using h
  | .agg cs, u, h => by simp only [VR] at h ⊢; obtain ⟨us, h1, h2⟩ := h; exact ⟨us, h1, VRs.ext he cs _ h2⟩
  | .tup cs, u, h => by simp only [VR] at h ⊢; obtain ⟨us, h1, h2⟩ := h; exact ⟨us, h1, VRs.ext he cs _ h2⟩
  | .ptr s off, u, h => by simp only [VR] at h ⊢; obtain ⟨G, h1, h2⟩ := h; exact ⟨G, he _ _ h1, h2⟩
  | .gp i off, u, h => by simpa only [VR] using h
  | .bs s off n sz full, u, h => by simp only [VR] at h ⊢; obtain ⟨G, cap, h1, h2⟩ := h; exact ⟨G, cap, he _ _ h1, h2⟩
  | .fn f caps, u, h => by simp only [VR] at h ⊢; obtain ⟨us, h1, h2⟩ := h; exact ⟨us, h1, VRs.ext he caps _ h2⟩
  | .mv f caps, u, h => by simp only [VR] at h ⊢; obtain ⟨us, h1, h2⟩ := h; exact ⟨us, h1, VRs.ext he caps _ h2⟩
  | .ifc t x, u, h => by simp only [VR] at h ⊢; obtain ⟨y, h1, h2⟩ := h; exact ⟨y, h1, VR.ext he x _ h2⟩
  | .mp s, u, h => by simp only [VR] at h ⊢; obtain ⟨G, h1, h2⟩ := h; exact ⟨G, he _ _ h1, h2⟩
  | .it s, u, h => by simp only [VR] at h ⊢; obtain ⟨G, h1, h2⟩ := h; exact ⟨G, he _ _ h1, h2⟩
  | .em, u, h => by simpa only [VR] using h
theorem VRs.ext (he : Ext g g') : ∀ (cs : List HV) (us : List Value), VRs g cs us → VRs g' cs us
  | [], [], _ => by simp [VRs]
  | [], _ :: _, h => by simp [VRs] at h
  | _ :: _, [], h => by simp [VRs] at h
  | c :: cs, u :: us, h => by simp only [VRs] at h ⊢; exact ⟨VR.ext he c u h.1, VRs.ext he cs us h.2⟩
end
theorem VRs.length : ∀ {cs : List HV} {us : List Value}, VRs g cs us → cs.length = us.length
  | [], [], _ => rfl
  | [], _ :: _, h => by simp [VRs] at h
  | _ :: _, [], h => by simp [VRs] at h
  | c :: cs, u :: us, h => by
    simp only [VRs] at h
    simp [VRs.length h.2]
theorem VRs.take : ∀ {cs : List HV} {us : List Value} (n : Nat), VRs g cs us → VRs g (cs.take n) (us.take n)
  | _, _, 0, _ => by simp [VRs]
  | [], [], n + 1, _ => by simp [VRs]
  | [], _ :: _, _ + 1, hu => by simp [VRs] at hu
  | _ :: _, [], _ + 1, hu => by simp [VRs] at hu
  | c :: cs, u :: us, n + 1, hu => by
    simp only [List.take_succ_cons, VRs] at hu ⊢
    exact ⟨hu.1, VRs.take n hu.2⟩
theorem VRs.drop : ∀ {cs : List HV} {us : List Value} (n : Nat), VRs g cs us → VRs g (cs.drop n) (us.drop n)
  | _, _, 0, h => by simpa using h
  | [], [], n + 1, _ => by simp [VRs]
  | [], _ :: _, _ + 1, hu => by simp [VRs] at hu
  | _ :: _, [], _ + 1, hu => by simp [VRs] at hu
  | c :: cs, u :: us, n + 1, hu => by
    simp only [List.drop_succ_cons, VRs] at hu ⊢
    exact VRs.drop n hu.2
theorem VRs.append : ∀ {cs ds : List HV} {us vs : List Value}, VRs g cs us → VRs g ds vs → VRs g (cs ++ ds) (us ++ vs)
  | [], _, [], _, _, h => by simpa using h
  | [], _, _ :: _, _, hu, _ => by simp [VRs] at hu
  | _ :: _, _, [], _, hu, _ => by simp [VRs] at hu
  | c :: cs, ds, u :: us, vs, hu, h => by
    simp only [List.cons_append, VRs] at hu ⊢
    exact ⟨hu.1, VRs.append hu.2 h⟩
theorem VRs.get : ∀ {cs : List HV} {us : List Value}, VRs g cs us → ∀ (i : Nat) (c : HV), cs[i]? = some c → ∃ u, us[i]? = some u ∧ VR g c u
  | [], _, _, i, c, h => by simp at h
  | _ :: _, [], hu, _, _, _ => by simp [VRs] at hu
  | c :: cs, u :: us, hu, 0, d, h => by
    simp only [VRs] at hu
    simp at h; subst h
    exact ⟨u, by simp, hu.1⟩
  | c :: cs, u :: us, hu, i + 1, d, h => by
    simp only [VRs] at hu
    simp at h
    obtain ⟨v, h1, h2⟩ := VRs.get hu.2 i d h
    exact ⟨v, by simpa using h1, h2⟩
end
def ObjAt (g : Gh) (w : World) (s : Nat) (o : HO) : Prop := ∃ G, g s = some G ∧ match o with
  | .cells cs => ∃ cur T, w.heap[G.b]? = some (.cells cur T (0, 0)) ∧ G.o + G.m ≤ cur.size ∧ cs.length ≤ G.m ∧ VRs g cs ((cur.toList.drop G.o).take cs.length)
  | .map es => ∃ ms clk, w.heap[G.b]? = some (.map ms clk) ∧ VRs g es (flatE ms.toList) ∧ clk = ms.size ∧ ∀ (i : Nat) (e : MapEntry), ms[i]? = some e → e.born = i
  | .iter m since last seen => ∃ mr sn, w.heap[G.b]? = some (.mapIter mr since sn last) ∧ sn.toList = seen ∧ match m with
    | none => mr = none
    | some q => ∃ G', g q = some G' ∧ mr = some G'.b
  | .seen q n i => ∃ G' sn, g q = some G' ∧ w.heap[G.b]? = some (.mapIter (some G'.b) n sn n) ∧ sn.toList.getLast? = some i ∧ ∀ j, j ∈ sn.toList ↔ Nat.testBit G.m j = true
structure HS where
  tmps : List (Nat × HV)
  objs : List (Nat × HO)
  n : Nat
  m : Nat
structure Base where
  w : World
  prot : Nat → Prop
  d : List Deferred
  no : Nat → Prop
structure HC where
  P : Program
  G : Nat → Option (List Value)
structure Fr (C : HC) (B : Base) (w : World) : Prop where
  os : w.os = B.w.os
  tape : SameTape B.w w
  output : w.output = B.w.output
  size : B.w.heap.size ≤ w.heap.size
  keep : ∀ b, B.prot b → b < B.w.heap.size ∧ w.heap[b]? = B.w.heap[b]?
  glob : ∀ i cs, C.G i = some cs → B.prot i ∧ ∃ cur T fz, B.w.heap[i]? = some (.cells cur T fz) ∧ ∀ (j : Nat) (v : Value), cs[j]? = some v → cur[j]? = some v
structure R (C : HC) (B : Base) (N : Nat) (g : Gh) (h : HS) (a : Act) (w : World) : Prop where
  size : a.tmps.size = N
  defs : a.defers = B.d
  tm : ∀ k x, lk k h.tmps = some x → ∃ u, a.tmps[k]? = some u ∧ VR g x u
  ob : ∀ s o, lk s h.objs = some o → ObjAt g w s o
  new : (∀ s, h.n ≤ s → s < h.m → g s = none) ∧ ∀ s, B.no s → g s = none ∧ (s < h.n ∨ h.m ≤ s)
  sep : ∀ (s t : Nat) (o p : HO) (G G' : GB), lk s h.objs = some o → lk t h.objs = some p → g s = some G → g t = some G' → G.b = G'.b → s = t
  low : ∀ (s : Nat) (G : GB), g s = some G → G.b < w.heap.size
  out : ∀ (s : Nat) (o : HO) (G : GB), lk s h.objs = some o → g s = some G → ¬ B.prot G.b
  fr : Fr C B w
def ev (h : HS) : Operand → HV
  | .tmp k => (lk k h.tmps).getD .undef
  | .const x => .v x
  | .global i => .gp i 0
  | .func f => .fn f []
def evs (h : HS) (l : List Operand) : List HV := l.map (ev h)
section
variable {C : HC} {B : Base} {N : Nat} {g : Gh} {h : HS} {a : Act} {w : World}
theorem R.ev (hR : R C B N g h a w) (x : Operand) : VR g (ev h x) (a.eval x) := by
  cases x with
  | tmp k =>
    simp only [H.ev]
    cases hk : lk k h.tmps with
    | none => simp [VR]
    | some y =>
      obtain ⟨u, h1, h2⟩ := hR.tm k y hk
      have : a.eval (.tmp k) = u := by simp [Act.eval, Array.getD_eq_getD_getElem?, h1]
      rw [this]; simpa using h2
  | const x => simp [H.ev, VR, Act.eval]
  | global i => simp [H.ev, VR, Act.eval]
  | func f => simp only [H.ev, VR, Act.eval]; exact ⟨#[], rfl, by simp [VRs]⟩
theorem R.evs (hR : R C B N g h a w) : ∀ l : List Operand, VRs g (evs h l) (l.map a.eval)
  | [] => by simp [H.evs, VRs]
  | x :: l => by simp only [H.evs, List.map_cons, VRs]; exact ⟨hR.ev x, hR.evs l⟩
def HS.put (d : Option Nat) (x : HV) (h : HS) : HS := match d with
  | some k => { h with tmps := (k, x) :: h.tmps }
  | none => h
theorem R.put (hR : R C B N g h a w) {d : Option Nat} (hd : ∀ k, d = some k → k < N) {x : HV} {u : Value} (hx : VR g x u) : R C B N g (h.put d x) (a.put d u) w := by
  cases d with
  | none => exact hR
  | some k =>
    have hk := hd k rfl
    refine ⟨by simp [Act.put, hR.size], hR.defs, fun j y hy => ?_, hR.ob, hR.new, hR.sep, hR.low, hR.out, hR.fr⟩
    simp only [HS.put, lk] at hy
    by_cases hjk : k = j
    · subst hjk
      simp only [if_true, Option.some.injEq] at hy
      subst hy
      exact ⟨u, by simp [Act.put, hR.size, hk], hx⟩
    · simp only [hjk, if_false] at hy
      obtain ⟨v, h1, h2⟩ := hR.tm j y hy
      exact ⟨v, by simp [Act.put, Array.getElem?_setIfInBounds, hjk, h1], h2⟩
theorem ObjAt.ext {g' : Gh} (he : Ext g g') {s : Nat} {o : HO} (ho : ObjAt g w s o) {w' : World} (hw : ∀ G, g s = some G → w'.heap[G.b]? = w.heap[G.b]?) : ObjAt g' w' s o := by
  obtain ⟨G, h1, h2⟩ := ho
  refine ⟨G, he _ _ h1, ?_⟩
  have hG := hw G h1
  cases o with
  | cells cs => obtain ⟨cur, T, k1, k2, k3, k4⟩ := h2; exact ⟨cur, T, hG.trans k1, k2, k3, VRs.ext he _ _ k4⟩
  | map es => obtain ⟨ms, clk, k1, k2, k3⟩ := h2; exact ⟨ms, clk, hG.trans k1, VRs.ext he _ _ k2, k3⟩
  | iter m si la se =>
    obtain ⟨mr, sn, k1, k2, k3⟩ := h2
    refine ⟨mr, sn, hG.trans k1, k2, ?_⟩
    cases m with
    | none => exact k3
    | some q => obtain ⟨G', j1, j2⟩ := k3; exact ⟨G', he _ _ j1, j2⟩
  | seen q n i => obtain ⟨G', sn, k1, k2, k3⟩ := h2; exact ⟨G', sn, he _ _ k1, hG.trans k2, k3⟩
theorem R.alloc (hR : R C B N g h a w) (hn : h.n < h.m) (o : Obj) (ho : HO) (m : Nat) (hob : ObjAt (g.new h.n ⟨w.heap.size, 0, m⟩) (w.alloc o) h.n ho) :
    Ext g (g.new h.n ⟨w.heap.size, 0, m⟩) ∧ R C B N (g.new h.n ⟨w.heap.size, 0, m⟩) ⟨h.tmps, (h.n, ho) :: h.objs, h.n + 1, h.m⟩ a (w.alloc o) := by
  have hfresh := hR.new.1 h.n (Nat.le_refl _) hn
  have he := Ext.new hfresh ⟨w.heap.size, 0, m⟩
  have hold : ∀ (s : Nat) (G : GB), g s = some G → (w.alloc o).heap[G.b]? = w.heap[G.b]? := fun s G hs => alloc_old w o G.b (hR.low s G hs)
  have hsz : (w.alloc o).heap.size = w.heap.size + 1 := by show (w.heap.push o).size = _; simp
  have hlk : ∀ q p, lk q ((h.n, ho) :: h.objs) = some p → (q = h.n ∧ p = ho) ∨ (q ≠ h.n ∧ lk q h.objs = some p) := fun q p hq => by
    simp only [lk] at hq
    split at hq
    · rename_i e; exact .inl ⟨e.symm, (Option.some.inj hq).symm⟩
    · rename_i e; exact .inr ⟨fun e' => e e'.symm, hq⟩
  refine ⟨he, hR.size, hR.defs, fun k x hk => ?_, fun s p hs => ?_, ⟨fun s h1 h2 => ?_, fun s hs => ?_⟩, fun s t p q G G' hs ht h1 h2 hb => ?_, fun s G hs => ?_, fun s p G hs h1 hp => ?_, ?_⟩
  · obtain ⟨u, h1, h2⟩ := hR.tm k x hk
    exact ⟨u, h1, VR.ext he _ _ h2⟩
  · rcases hlk s p hs with ⟨rfl, rfl⟩ | ⟨_, h1⟩
    · exact hob
    · exact (hR.ob s p h1).ext he (hold s)
  · have h1 : h.n + 1 ≤ s := h1
    have h2 : s < h.m := h2
    have : s ≠ h.n := by omega
    simp only [Gh.new, this, if_false]
    exact hR.new.1 s (by omega) h2
  · obtain ⟨q1, q2⟩ := hR.new.2 s hs
    have : s ≠ h.n := by omega
    simp only [Gh.new, this, if_false]
    exact ⟨q1, by omega⟩
  · rcases Gh.new_inv h1 with ⟨l1, e1⟩ | ⟨l1, e1⟩ <;> rcases Gh.new_inv h2 with ⟨l2, e2⟩ | ⟨l2, e2⟩
    · rcases hlk s p hs with ⟨e, _⟩ | ⟨_, hs'⟩
      · exact absurd e l1
      rcases hlk t q ht with ⟨e, _⟩ | ⟨_, ht'⟩
      · exact absurd e l2
      exact hR.sep s t p q G G' hs' ht' e1 e2 hb
    · have := hR.low s G e1
      subst e2; simp at hb; omega
    · have := hR.low t G' e2
      subst e1; simp at hb; omega
    · omega
  · rcases Gh.new_inv hs with ⟨l1, e1⟩ | ⟨l1, e1⟩
    · have := hR.low s G e1; omega
    · subst e1; simp
  · have hlt := (hR.fr.keep _ hp).1
    have hsz0 := hR.fr.size
    rcases Gh.new_inv h1 with ⟨l1, e1⟩ | ⟨l1, e1⟩
    · rcases hlk s p hs with ⟨e, _⟩ | ⟨_, hs'⟩
      · exact l1 e
      · exact hR.out s p G hs' e1 hp
    · subst e1; simp at hlt; omega
  · obtain ⟨f1, f2, f3, f4, f5, f6⟩ := hR.fr
    exact ⟨f1, ⟨f2.1, by first | exact f2.2 | exact Nat.le_trans f2.2 (Nat.le_succ _)⟩, f3, by omega, fun b hb => ⟨(f5 b hb).1, (alloc_old w o b (by have := (f5 b hb).1; omega)).trans (f5 b hb).2⟩, f6⟩
end
end Go.H
namespace Go.H
open Go.Abs (lk Does does_pure szOf aggOf zeroOf structEq strT intT)
inductive TK where
  | bool
  | int (k : IntKind)
  | str
  | ptr
  | slice (e : TypeId) (n : Nat)
  | arr (len n : Nat) (agg : Bool)
  | struct (fs : List (Nat × Nat × Bool))
  | map (kt : TypeId) (agg : Bool) (ks : List Nat) (e : TypeId)
  | func
  | other
structure TI where
  kind : TK
  size : Nat
  zero : Option (List Value)
  eq : Option (List Nat)
def TK.agg : TK → Bool
  | .arr _ _ _ => true
  | .struct _ => true
  | _ => false
def fieldsB (P : Program) : List Field → List (Nat × Nat × Bool) → Bool
  | [], [] => true
  | f :: fs, (o, n, b) :: l => f.offset == o && szOf P f.type == some n && aggOf P f.type == some b && fieldsB P fs l
  | _, _ => false
def kindB (P : Program) (t : TypeId) (d : Option TypeDesc) : TK → Bool
  | .bool => match d with | some .bool => true | _ => false
  | .int k => match d with | some (.int k') => decide (k = k') | _ => false
  | .str => match d with | some .string => true | _ => false
  | .ptr => match d with | some (.pointer _) => true | _ => false
  | .slice e n => match d with | some (.slice e') => e == e' && szOf P e == some n | _ => false
  | .arr len n b => match d with | some (.array len' e) => len == len' && szOf P e == some n && aggOf P e == some b | _ => false
  | .struct fs => match d with | some (.struct fds) => fieldsB P fds.toList fs | _ => false
  | .map kt b ks e => match d, Abs.mapT P t with | some (.map _ _), some (kt', b', ks', e') => kt == kt' && b == b' && ks == ks' && e == e' | _, _ => false
  | .func => match d with | some (.func _ _ _) => true | _ => false
  | .other => match d with | some (.struct _) => false | some (.array _ _) => false | some _ => true | none => false
def valEq : Value → Value → Bool
  | .bool a, .bool b => a == b
  | .int k a, .int l b => decide (k = l) && a == b
  | .string a, .string b => a.data.toList == b.data.toList
  | .slice none m n, .slice none m' n' => m == m' && n == n'
  | .pointer none, .pointer none => true
  | .map none, .map none => true
  | .nilFunc, .nilFunc => true
  | .nilIface, .nilIface => true
  | _, _ => false
theorem valEq_eq {x y : Value} (h : valEq x y = true) : x = y := by
  unfold valEq at h
  split at h
  · simp only [beq_iff_eq] at h; rw [h]
  · simp only [Bool.and_eq_true, decide_eq_true_eq, beq_iff_eq] at h; rw [h.1, h.2]
  · rename_i a b
    simp only [beq_iff_eq] at h
    congr 1
    cases a; cases b
    congr 1
    exact Array.toList_inj.1 h
  · simp only [Bool.and_eq_true, beq_iff_eq] at h; rw [h.1, h.2]
  · rfl
  · rfl
  · rfl
  · rfl
  · cases h
def valsB : List Value → List Value → Bool
  | [], [] => true
  | x :: l, y :: m => valEq x y && valsB l m
  | _, _ => false
theorem valsB_eq : ∀ {l m : List Value}, valsB l m = true → l = m
  | [], [], _ => rfl
  | [], _ :: _, h | _ :: _, [], h => by simp [valsB] at h
  | x :: l, y :: m, h => by
    simp only [valsB, Bool.and_eq_true] at h
    rw [valEq_eq h.1, valsB_eq h.2]
def TI.okB (P : Program) (t : TypeId) (i : TI) : Bool :=
  kindB P t (P.underlying t) i.kind && szOf P t == some i.size &&
  (match i.zero with | none => true | some z => (match zeroOf P t with | some z' => valsB z' z | none => false) && z.length == i.size && (match P.info? t with | some f => Nat.ble f.bytes 32768 | none => false)) &&
  (match i.eq with | none => true | some ks => structEq P t == some ks)
def Kind (P : Program) (t : TypeId) : TK → Prop
  | .bool => P.underlying t = some .bool
  | .int k => P.underlying t = some (.int k)
  | .str => P.underlying t = some .string
  | .ptr => ∃ e, P.underlying t = some (.pointer e)
  | .slice e n => P.underlying t = some (.slice e) ∧ szOf P e = some n
  | .arr len n b => ∃ e, P.underlying t = some (.array len e) ∧ szOf P e = some n ∧ aggOf P e = some b
  | .struct fs => ∃ fds, P.underlying t = some (.struct fds) ∧ fds.size = fs.length ∧ ∀ (i o n : Nat) (b : Bool), fs[i]? = some (o, n, b) → ∃ f : Field, fds[i]? = some f ∧ f.offset = o ∧ szOf P f.type = some n ∧ aggOf P f.type = some b
  | .map kt b ks e => (∃ k v, P.underlying t = some (.map k v)) ∧ Abs.mapT P t = some (kt, b, ks, e)
  | .func => ∃ a b c, P.underlying t = some (.func a b c)
  | .other => ∃ d, P.underlying t = some d ∧ (∀ fs, d ≠ .struct fs) ∧ ∀ n e, d ≠ .array n e
structure TI.OK (P : Program) (t : TypeId) (i : TI) : Prop where
  kind : Kind P t i.kind
  size : szOf P t = some i.size
  zero : ∀ z, i.zero = some z → zeroOf P t = some z ∧ z.length = i.size ∧ ∃ f, P.info? t = some f ∧ f.bytes ≤ 32768
  eq : ∀ ks, i.eq = some ks → structEq P t = some ks
theorem fieldsB_spec {P : Program} : ∀ {fds : List Field} {fs : List (Nat × Nat × Bool)}, fieldsB P fds fs = true → fds.length = fs.length ∧ ∀ (i o n : Nat) (b : Bool), fs[i]? = some (o, n, b) → ∃ f : Field, fds[i]? = some f ∧ f.offset = o ∧ szOf P f.type = some n ∧ aggOf P f.type = some b
  | [], [], _ => ⟨rfl, fun i o n b h => by simp at h⟩
  | [], _ :: _, h | _ :: _, [], h => by simp [fieldsB] at h
  | f :: fds, (o, n, b) :: fs, h => by
    simp only [fieldsB, Bool.and_eq_true, beq_iff_eq] at h
    obtain ⟨h1, h2⟩ := fieldsB_spec h.2
    refine ⟨by simp [h1], fun i o' n' b' hi => ?_⟩
    cases i with
    | zero => simp at hi; obtain ⟨rfl, rfl, rfl⟩ := hi; exact ⟨f, by simp, h.1.1.1, h.1.1.2, h.1.2⟩
    | succ i => simp at hi; obtain ⟨f', k1, k2⟩ := h2 i o' n' b' hi; exact ⟨f', by simpa using k1, k2⟩
theorem kindB_spec {P : Program} {t : TypeId} {k : TK} (h : kindB P t (P.underlying t) k = true) : Kind P t k := by
  unfold kindB at h
  unfold Kind
  cases k with
  | struct fs =>
    dsimp only at h ⊢
    split at h
    · rename_i fds hd
      obtain ⟨h1, h2⟩ := fieldsB_spec h
      exact ⟨fds, hd, by simpa using h1, fun i o n b hi => by obtain ⟨f, k1, k2⟩ := h2 i o n b hi; exact ⟨f, by simpa using k1, k2⟩⟩
    · cases h
  | map kt b ks e =>
    dsimp only at h ⊢
    split at h
    · rename_i kt' b' ks' e' hd hm
      simp only [Bool.and_eq_true, beq_iff_eq] at h
      obtain ⟨⟨⟨rfl, rfl⟩, rfl⟩, rfl⟩ := h
      exact ⟨⟨_, _, hd⟩, hm⟩
    · cases h
  | other =>
    dsimp only at h ⊢
    split at h
    · cases h
    · cases h
    · rename_i d h1 h2 hd; exact ⟨d, hd, fun fs e => h1 fs e, fun n e' e => h2 n e' e⟩
    · cases h
  | _ =>
    dsimp only at h ⊢
    split at h
    · rename_i hd
      first
        | exact hd
        | (simp only [decide_eq_true_eq] at h; subst h; exact hd)
        | (simp only [Bool.and_eq_true, beq_iff_eq] at h; obtain ⟨rfl, h2⟩ := h; exact ⟨hd, h2⟩)
        | (simp only [Bool.and_eq_true, beq_iff_eq] at h; obtain ⟨⟨rfl, h2⟩, h3⟩ := h; exact ⟨_, hd, h2, h3⟩)
        | exact ⟨_, hd⟩
        | exact ⟨_, _, hd⟩
        | exact ⟨_, _, _, hd⟩
    · cases h
theorem TI.okB_spec {P : Program} {t : TypeId} {i : TI} (h : i.okB P t = true) : i.OK P t := by
  simp only [TI.okB, Bool.and_eq_true, beq_iff_eq] at h
  obtain ⟨⟨⟨h1, h2⟩, h3⟩, h4⟩ := h
  refine ⟨kindB_spec h1, h2, fun z hz => ?_, fun ks hk => ?_⟩
  · rw [hz] at h3
    dsimp only at h3
    simp only [Bool.and_eq_true, beq_iff_eq] at h3
    obtain ⟨⟨h3, h5⟩, h6⟩ := h3
    refine ⟨?_, h5, ?_⟩
    · split at h3
      · rename_i z' hz'; rw [hz', valsB_eq h3]
      · cases h3
    · split at h6
      · rename_i f hf; exact ⟨f, hf, Nat.le_of_ble_eq_true h6⟩
      · cases h6
  · rw [hk] at h4; simpa using h4
theorem Kind.agg {P : Program} {t : TypeId} {k : TK} (h : Kind P t k) : aggOf P t = some k.agg := by
  unfold aggOf
  cases k <;> simp only [Kind] at h
  case arr => obtain ⟨e, h1, _⟩ := h; rw [h1]; rfl
  case struct => obtain ⟨e, h1, _⟩ := h; rw [h1]; rfl
  case slice => rw [h.1]; rfl
  case ptr => obtain ⟨e, h1⟩ := h; rw [h1]; rfl
  case map => obtain ⟨⟨e, _, h1⟩, _⟩ := h; rw [h1]; rfl
  case func => obtain ⟨e, _, _, h1⟩ := h; rw [h1]; rfl
  case other =>
    obtain ⟨d, h1, h2, h3⟩ := h
    rw [h1]
    cases d <;> first | rfl | exact absurd rfl (h2 _) | exact absurd rfl (h3 _ _)
  all_goals (rw [h]; rfl)
abbrev Tab := Nat → Option TI
def Tab.OK (T : Tab) (P : Program) : Prop := ∀ t i, T t = some i → i.OK P t
def toAL : List HV → Option (List Abs.AV)
  | [] => some []
  | .v x :: cs => (toAL cs).map (.v x :: ·)
  | _ => none
def toA : HV → Option Abs.AV
  | .v x => some (.v x)
  | .agg cs => (toAL cs).map .agg
  | _ => none
def ofA : Abs.AV → Option HV
  | .v x => some (.v x)
  | _ => none
section
variable {g : Gh} {g0 : Abs.Gh} {w : World} {P : Program}
theorem toAL_VRs : ∀ {cs : List HV} {us : List Value} {l : List Abs.AV}, VRs g cs us → toAL cs = some l → Abs.VRs g0 w l us
  | [], [], l, _, h => by simp [toAL] at h; subst h; simp [Abs.VRs]
  | [], _ :: _, _, hv, _ => by simp [VRs] at hv
  | _ :: _, [], _, hv, _ => by simp [VRs] at hv
  | .v x :: cs, u :: us, l, hv, h => by
    simp only [toAL] at h
    obtain ⟨l', h1, rfl⟩ := Option.map_eq_some_iff.1 h
    simp only [VRs, VR] at hv
    simp only [Abs.VRs, Abs.VR]
    exact ⟨hv.1, toAL_VRs hv.2 h1⟩
  | .undef :: _, _ :: _, _, _, h | .agg _ :: _, _ :: _, _, _, h | .tup _ :: _, _ :: _, _, _, h | .ptr _ _ :: _, _ :: _, _, _, h | .gp _ _ :: _, _ :: _, _, _, h | .bs _ _ _ _ _ :: _, _ :: _, _, _, h | .fn _ _ :: _, _ :: _, _, _, h | .mv _ _ :: _, _ :: _, _, _, h | .ifc _ _ :: _, _ :: _, _, _, h | .mp _ :: _, _ :: _, _, _, h | .it _ :: _, _ :: _, _, _, h | .em :: _, _ :: _, _, _, h => by simp [toAL] at h
theorem toA_VR {x : HV} {u : Value} {y : Abs.AV} (hv : VR g x u) (h : toA x = some y) : Abs.VR g0 w y u := by
  unfold toA at h
  split at h
  · simp only [Option.some.injEq] at h; subst h; simp only [VR] at hv; simp only [Abs.VR]; exact hv
  · obtain ⟨l, h1, rfl⟩ := Option.map_eq_some_iff.1 h
    simp only [VR] at hv
    obtain ⟨us, rfl, hv⟩ := hv
    simp only [Abs.VR]
    exact ⟨us, rfl, toAL_VRs hv h1⟩
  · cases h
theorem ofA_VR {y : Abs.AV} {u : Value} {z : HV} (hv : Abs.VR g0 w y u) (h : ofA y = some z) : VR g z u := by
  unfold ofA at h
  split at h
  · simp only [Option.some.injEq] at h; subst h; simp only [Abs.VR] at hv; simp only [VR]; exact hv
  · cases h
end
end Go.H
namespace Go.H
open Go.Abs (lk Does does_pure szOf aggOf zeroOf structEq strT intT)
def nilH (k : TK) : HV → HV → Option Bool
  | .ptr _ _, .v (.pointer none) => match k with | .ptr => some false | _ => none
  | .gp _ _, .v (.pointer none) => match k with | .ptr => some false | _ => none
  | .v (.pointer none), .v (.pointer none) => match k with | .ptr => some true | _ => none
  | .fn _ _, .v .nilFunc => match k with | .func => some false | _ => none
  | .mv _ _, .v .nilFunc => match k with | .func => some false | _ => none
  | .v .nilFunc, .v .nilFunc => match k with | .func => some true | _ => none
  | .mp _, .v (.map none) => match k with | .map _ _ _ _ => some false | _ => none
  | .v (.map none), .v (.map none) => match k with | .map _ _ _ _ => some true | _ => none
  | .bs _ _ _ _ _, .v (.slice none 0 0) => match k with | .slice _ _ => some false | _ => none
  | .v (.slice none _ _), .v (.slice none 0 0) => match k with | .slice _ _ => some true | _ => none
  | _, _ => none
section
variable {g : Gh} {w : World} {P : Program} {T : Tab}
theorem eqIn_ptr (d : Nat) {t e : TypeId} (h : P.underlying t = some (.pointer e)) (a : Addr) : (Op.equalIn (d + 1) t (.pointer (some a)) (.pointer none)).run P w = .ok false w := by simp [Op.equalIn, run_underlying h]
theorem eqIn_ptr0 (d : Nat) {t e : TypeId} (h : P.underlying t = some (.pointer e)) : (Op.equalIn (d + 1) t (.pointer none) (.pointer none)).run P w = .ok true w := by simp [Op.equalIn, run_underlying h]
theorem eqIn_fn (d : Nat) {t : TypeId} {a b c} (h : P.underlying t = some (.func a b c)) (f : Fn) (us vs : Array Value) : (Op.equalIn (d + 1) t (.func f us vs) .nilFunc).run P w = .ok false w := by simp [Op.equalIn, run_underlying h]
theorem eqIn_fn0 (d : Nat) {t : TypeId} {a b c} (h : P.underlying t = some (.func a b c)) : (Op.equalIn (d + 1) t .nilFunc .nilFunc).run P w = .ok true w := by simp [Op.equalIn, run_underlying h]
theorem eqIn_map (d : Nat) {t : TypeId} {a b} (h : P.underlying t = some (.map a b)) (m : Option Nat) : (Op.equalIn (d + 1) t (.map m) (.map none)).run P w = .ok m.isNone w := by cases m <;> simp [Op.equalIn, run_underlying h]
theorem eqIn_sl (d : Nat) {t e : TypeId} (h : P.underlying t = some (.slice e)) (a : Option Addr) (n c : Nat) : (Op.equalIn (d + 1) t (.slice a n c) (.slice none 0 0)).run P w = .ok a.isNone w := by cases a <;> simp [Op.equalIn, run_underlying h]
theorem nilH_sound {t : TypeId} {k : TK} (hk : Kind P t k) {x y : HV} {ux uy : Value} (hx : VR g x ux) (hy : VR g y uy) {r : Bool} (h : nilH k x y = some r) :
    (Op.equal t ux uy).run P w = .ok r w ∧ (∀ op p q, eqGuard op t p q ux uy = pure ()) ∧ binOp .eql t ux uy = (do pure (.bool (← Op.equal t ux uy))) ∧ binOp .neq t ux uy = (do pure (.bool (!(← Op.equal t ux uy)))) := by
  unfold nilH at h
  split at h
  case h_11 => cases h
  all_goals (split at h; case h_2 => cases h)
  all_goals
    simp only [Option.some.injEq] at h
    subst h
    simp only [VR] at hx hy
    simp only [Kind] at hk
  · obtain ⟨G, _, rfl⟩ := hx; subst hy; obtain ⟨e, he⟩ := hk
    exact ⟨eqIn_ptr 9999 he _, fun op p q => by cases op <;> rfl, rfl, rfl⟩
  · subst hx hy; obtain ⟨e, he⟩ := hk
    exact ⟨eqIn_ptr 9999 he _, fun op p q => by cases op <;> rfl, rfl, rfl⟩
  · subst hx hy; obtain ⟨e, he⟩ := hk
    exact ⟨eqIn_ptr0 9999 he, fun op p q => by cases op <;> rfl, rfl, rfl⟩
  · obtain ⟨us, rfl, _⟩ := hx; subst hy; obtain ⟨e, e', e'', he⟩ := hk
    exact ⟨eqIn_fn 9999 he _ _ _, fun op p q => by cases op <;> rfl, rfl, rfl⟩
  · obtain ⟨us, rfl, _⟩ := hx; subst hy; obtain ⟨e, e', e'', he⟩ := hk
    exact ⟨eqIn_fn 9999 he _ _ _, fun op p q => by cases op <;> rfl, rfl, rfl⟩
  · subst hx hy; obtain ⟨e, e', e'', he⟩ := hk
    exact ⟨eqIn_fn0 9999 he, fun op p q => by cases op <;> rfl, rfl, rfl⟩
  · obtain ⟨G, _, rfl⟩ := hx; subst hy; obtain ⟨⟨e, e', he⟩, _⟩ := hk
    exact ⟨eqIn_map 9999 he _, fun op p q => by cases op <;> rfl, rfl, rfl⟩
  · subst hx hy; obtain ⟨⟨e, e', he⟩, _⟩ := hk
    exact ⟨eqIn_map 9999 he _, fun op p q => by cases op <;> rfl, rfl, rfl⟩
  · obtain ⟨G, cap, _, _, rfl, _⟩ := hx; subst hy; obtain ⟨he, _⟩ := hk
    exact ⟨eqIn_sl 9999 he _ _ _, fun op p q => by cases op <;> rfl, rfl, rfl⟩
  · subst hx hy; obtain ⟨he, _⟩ := hk
    exact ⟨eqIn_sl 9999 he _ _ _, fun op p q => by cases op <;> rfl, rfl, rfl⟩
def binH (T : Tab) (op : BinOp) (t : TypeId) (x y : HV) : Option HV := match x, y with
  | .v (.int k a), .v (.int k' b) => match op with
    | .shl => (Abs.shiftBin .shl k a b).map .v
    | .shr => (Abs.shiftBin .shr k a b).map .v
    | op => if k = k' then (Abs.intBin op k a b).map .v else none
  | .v (.string a), .v (.string b) => (Abs.strBin op a b).map .v
  | .v (.bool a), .v (.bool b) => match T t with
    | some ⟨.bool, _, _, _⟩ => match op with
      | .eql => some (.v (.bool (a == b)))
      | .neq => some (.v (.bool (!(a == b))))
      | _ => none
    | _ => none
  | .agg xs, .agg ys => match T t with
    | some ⟨_, _, _, some ks⟩ => match toAL xs, toAL ys with
      | some xs, some ys => match Abs.valsOf xs, Abs.valsOf ys with
        | some us, some vs => match op with
          | .eql => (Abs.eqVals ks us vs).map fun b => .v (.bool b)
          | .neq => (Abs.eqVals ks us vs).map fun b => .v (.bool (!b))
          | _ => none
        | _, _ => none
      | _, _ => none
    | _ => none
  | x, y => match T t with
    | some i => match nilH i.kind x y with
      | some r => match op with
        | .eql => some (.v (.bool r))
        | .neq => some (.v (.bool (!r)))
        | _ => none
      | none => none
    | none => none
def g00 : Abs.Gh := ⟨fun _ => .other, fun _ => 0, fun _ => 0⟩
theorem binH_sound (hT : T.OK P) {op : BinOp} {t : TypeId} {p q : Operand} {x y z : HV} {ux uy : Value} (hx : VR g x ux) (hy : VR g y uy) (h : binH T op t x y = some z) :
    ∃ u, (do eqGuard op t p q ux uy; binOp op t ux uy : Sem Value).run P w = .ok u w ∧ VR g z u := by
  have viaA : ∀ x' y' z', toA x = some x' → toA y = some y' → Abs.binA P op t x' y' = some z' → ofA z' = some z → ∃ u, (do eqGuard op t p q ux uy; binOp op t ux uy : Sem Value).run P w = .ok u w ∧ VR g z u := by
    intro x' y' z' h1 h2 h3 h4
    obtain ⟨u, k1, k2⟩ := Abs.bin_sound (g := g00) (w := w) (p := p) (q := q) (toA_VR hx h1) (toA_VR hy h2) h3
    exact ⟨u, k1, ofA_VR k2 h4⟩
  unfold binH at h
  split at h
  · rename_i k a k' b
    split at h
    · obtain ⟨v, hv, rfl⟩ := Option.map_eq_some_iff.1 h
      exact viaA (.v (.int k a)) (.v (.int k' b)) (.v v) rfl rfl (by unfold Abs.binA; dsimp only; rw [hv]; rfl) rfl
    · obtain ⟨v, hv, rfl⟩ := Option.map_eq_some_iff.1 h
      exact viaA (.v (.int k a)) (.v (.int k' b)) (.v v) rfl rfl (by unfold Abs.binA; dsimp only; rw [hv]; rfl) rfl
    · rename_i n1 n2
      split at h
      · rename_i hkk
        subst hkk
        obtain ⟨v, hv, rfl⟩ := Option.map_eq_some_iff.1 h
        refine viaA (.v (.int k a)) (.v (.int k b)) (.v v) rfl rfl ?_ rfl
        unfold Abs.binA; dsimp only
        split
        · exact absurd rfl n1
        · exact absurd rfl n2
        · simp [hv]
      · cases h
  · rename_i a b
    obtain ⟨v, hv, rfl⟩ := Option.map_eq_some_iff.1 h
    exact viaA (.v (.string a)) (.v (.string b)) (.v v) rfl rfl (by unfold Abs.binA; dsimp only; rw [hv]; rfl) rfl
  · rename_i a b
    split at h
    · rename_i s z' e hTt
      have hk := (hT t _ hTt).kind
      simp only [Kind] at hk
      have hb : Abs.boolT P t = true := by unfold Abs.boolT; rw [hk]
      split at h
      · simp only [Option.some.injEq] at h; subst h
        exact viaA (.v (.bool a)) (.v (.bool b)) _ rfl rfl (by unfold Abs.binA; rw [hb]; rfl) rfl
      · simp only [Option.some.injEq] at h; subst h
        exact viaA (.v (.bool a)) (.v (.bool b)) _ rfl rfl (by unfold Abs.binA; rw [hb]; rfl) rfl
      · cases h
    · cases h
  · rename_i xs ys
    split at h
    · rename_i kd s z' ks hTt
      have hk := (hT t _ hTt).eq ks rfl
      split at h
      · rename_i xs' ys' hx' hy'
        split at h
        · rename_i us vs hu hv
          split at h
          · obtain ⟨b, hb, rfl⟩ := Option.map_eq_some_iff.1 h
            refine viaA (.agg xs') (.agg ys') (.v (.bool b)) (by simp [toA, hx']) (by simp [toA, hy']) ?_ rfl
            unfold Abs.binA; dsimp only; rw [hk, hu, hv]; dsimp only; rw [hb]; rfl
          · obtain ⟨b, hb, rfl⟩ := Option.map_eq_some_iff.1 h
            refine viaA (.agg xs') (.agg ys') (.v (.bool (!b))) (by simp [toA, hx']) (by simp [toA, hy']) ?_ rfl
            unfold Abs.binA; dsimp only; rw [hk, hu, hv]; dsimp only; rw [hb]; rfl
          · cases h
        · cases h
      · cases h
    · cases h
  · split at h
    · rename_i i hTt
      split at h
      · rename_i r hr
        obtain ⟨key, hg, be, bn⟩ := nilH_sound (w := w) (hT t _ hTt).kind hx hy hr
        rw [hg]
        simp only [Sem.run_bind, Sem.run_pure, Result.andThen_ok]
        split at h
        · simp only [Option.some.injEq] at h; subst h
          refine ⟨.bool r, ?_, by simp [VR]⟩
          rw [be, Sem.run_bind, key]; rfl
        · simp only [Option.some.injEq] at h; subst h
          refine ⟨.bool (!r), ?_, by simp [VR]⟩
          rw [bn, Sem.run_bind, key]; rfl
        · cases h
      · cases h
    · cases h
end
end Go.H
namespace Go.H
open Go.Abs (lk Does does_pure szOf aggOf zeroOf structEq strT intT run_sizeOf run_isAgg run_loadVar_agg run_loadVar_one)
def mkH (agg : Bool) (cs : List HV) : Option HV := if agg then some (.agg cs) else match cs with
  | [c] => some c
  | _ => none
def loadH (G : Nat → Option (List Value)) (agg : Bool) (n : Nat) (objs : List (Nat × HO)) : HV → Option HV
  | .ptr s off => match lk s objs with
    | some (.cells cs) => if Nat.ble (off + n) cs.length then mkH agg ((cs.drop off).take n) else none
    | _ => none
  | .gp i off => match G i with
    | some vs => if Nat.ble (off + n) vs.length then mkH agg (((vs.drop off).take n).map .v) else none
    | none => none
  | _ => none
def natH : HV → Option Nat
  | .v (.int _ (.ofNat n)) => some n
  | _ => none
def bndH (h : HS) : Option Operand → Option (Option Nat)
  | none => some none
  | some x => (natH (ev h x)).map some
def sliceH (n : Nat) (x : HV) (lo hi mx : Option Nat) : Option HV := match x with
  | .bs s off len sz full =>
    let l := lo.getD 0
    let h := hi.getD len
    if sz == n && Nat.ble l h && Nat.ble h len then match mx with
      | some m => if m == h && hi.isSome then (if l == h then some (.bs s off 0 sz true) else some (.bs s (off + l * sz) (h - l) sz true)) else none
      | none => if full && h == len then (if l == h then some (.bs s off 0 sz true) else some (.bs s (off + l * sz) (h - l) sz true))
        else if Nat.blt l h || l == 0 then some (.bs s (off + l * sz) (h - l) sz false) else some .em
    else none
  | .v (.slice none 0 0) => if lo.getD 0 == 0 && hi.getD 0 == 0 && mx.getD 0 == 0 && (mx.isNone || hi.isSome) then some (.v (.slice none 0 0)) else none
  | _ => none
section
variable {C : HC} {B : Base} {N : Nat} {g : Gh} {h : HS} {a : Act} {w : World} {P : Program} {T : Tab}
theorem cellAt {b : Nat} {cur : Array Value} {Ty : TypeId} {fz : Nat × Nat} (hb : w.heap[b]? = some (.cells cur Ty fz)) (j : Nat) : w.cell? ⟨b, j, none⟩ = cur[j]? := by
  simp [World.cell?, hb]
theorem add0 (b o n : Nat) : Addr.add ⟨b, o, none⟩ n = ⟨b, o + n, none⟩ := Addr.add_lit b o n
theorem boxCells {s : Nat} {cs : List HV} (ho : ObjAt g w s (.cells cs)) {G : GB} (hG : g s = some G) (off : Nat) : ∃ us : List Value, VRs g (cs.drop off) us ∧ ∀ (j : Nat) (v : Value), us[j]? = some v → w.cell? ((⟨G.b, G.o + off, none⟩ : Addr).add j) = some v := by
  obtain ⟨G', h1, cur, Ty, h2, h3, h4, h5⟩ := ho
  rw [hG] at h1
  cases h1
  refine ⟨_, VRs.drop off h5, fun j v hv => ?_⟩
  rw [List.getElem?_drop, List.getElem?_take] at hv
  split at hv
  · rw [List.getElem?_drop] at hv
    rw [add0, cellAt h2]
    rw [show G.o + off + j = G.o + (off + j) from by omega]
    simpa using hv
  · cases hv
theorem load_cells {t : TypeId} {agg : Bool} {n : Nat} {ad : Addr} {cs : List HV} {us : List Value} {x : HV} (h1 : aggOf P t = some agg) (h2 : szOf P t = some n) (hv : VRs g cs us) (hl : cs.length = n)
    (hc : ∀ (i : Nat) (v : Value), us[i]? = some v → w.cell? (ad.add i) = some v) (hx : mkH agg cs = some x) : ∃ u, (loadVar t ad).run P w = .ok u w ∧ VR g x u := by
  have hul : us.length = n := by rw [← VRs.length hv, hl]
  cases agg with
  | true =>
    simp only [mkH, if_true, Option.some.injEq] at hx
    subst hx
    refine ⟨_, run_loadVar_agg h1 h2 hul hc, ?_⟩
    simp only [VR]
    exact ⟨us.toArray, rfl, by simpa using hv⟩
  | false =>
    simp only [mkH, Bool.false_eq_true, if_false] at hx
    match cs, us, hv, hx with
    | [c], [u], hv, hx =>
      simp at hx; subst hx
      simp only [VRs] at hv
      have h0 := hc 0 u (by simp)
      simp only [Addr.add_zero'] at h0
      exact ⟨u, run_loadVar_one h1 h0, hv.1⟩
    | [_], [], hv, _ => simp [VRs] at hv
    | [_], _ :: _ :: _, hv, _ => simp [VRs] at hv
theorem VRs_map_v : ∀ l : List Value, VRs g (l.map .v) l
  | [] => by simp [VRs]
  | x :: l => by simp only [List.map_cons, VRs, VR]; exact ⟨trivial, VRs_map_v l⟩
theorem load_sound (hR : R C B N g h a w) {t : TypeId} {agg : Bool} {n : Nat} (h1 : aggOf C.P t = some agg) (h2 : szOf C.P t = some n) {x p : HV} {up : Value} (hp : VR g p up)
    (hx : loadH C.G agg n h.objs p = some x) : ∃ u, (Instr.loadAt t up).run C.P w = .ok u w ∧ VR g x u := by
  unfold loadH at hx
  split at hx
  · rename_i s off
    split at hx
    · rename_i cs hs
      split at hx
      · rename_i hle
        have hle := Nat.le_of_ble_eq_true hle
        simp only [VR] at hp
        obtain ⟨G, hG, rfl⟩ := hp
        obtain ⟨us, k1, k2⟩ := boxCells (hR.ob s _ hs) hG off
        have := load_cells h1 h2 (VRs.take n k1) (by simp; omega) (ad := ⟨G.b, G.o + off, none⟩) (fun i v hv => by
          rw [List.getElem?_take] at hv
          split at hv
          · exact k2 i v hv
          · cases hv) hx
        simpa [Instr.loadAt, Instr.sureAddr] using this
      · cases hx
    · cases hx
  · rename_i i off
    split at hx
    · rename_i vs hs
      split at hx
      · rename_i hle
        have hle := Nat.le_of_ble_eq_true hle
        simp only [VR] at hp
        subst hp
        obtain ⟨hpr, cur, Ty, fz, k1, k2⟩ := hR.fr.glob i vs hs
        have hb : w.heap[i]? = some (.cells cur Ty fz) := by rw [(hR.fr.keep i hpr).2]; exact k1
        have := load_cells (g := g) h1 h2 (VRs_map_v _) (by simp; omega) (ad := ⟨i, off, none⟩) (fun j v hv => by
          rw [List.getElem?_take] at hv
          split at hv
          · rw [List.getElem?_drop] at hv
            rw [add0, cellAt hb]; exact k2 _ _ hv
          · cases hv) hx
        simpa [Instr.loadAt, Instr.sureAddr] using this
      · cases hx
    · cases hx
  · cases hx
theorem natH_spec {x : HV} {n : Nat} {u : Value} (h : natH x = some n) (hx : VR g x u) : ∃ k, u = .int k n := by
  unfold natH at h
  split at h
  · rename_i k i
    simp only [Option.some.injEq] at h
    subst h
    simp only [VR] at hx; subst hx
    exact ⟨k, rfl⟩
  · cases h
theorem bndH_spec (hR : R C B N g h a w) {o : Option Operand} {b : Option Nat} (hb : bndH h o = some b) : (o.map a.eval = none ∧ b = none) ∨ (∃ n k, b = some n ∧ o.map a.eval = some (.int k n)) := by
  unfold bndH at hb
  split at hb
  · simp at hb; subst hb; exact .inl ⟨rfl, rfl⟩
  · rename_i x
    obtain ⟨n, hn, rfl⟩ := Option.map_eq_some_iff.1 hb
    obtain ⟨k, hk⟩ := natH_spec hn (hR.ev x)
    exact .inr ⟨n, k, rfl, by simp [hk]⟩
theorem sliceH_sound {t e : TypeId} {n : Nat} (ht : P.underlying t = some (.slice e)) (hn : szOf P e = some n) {x z : HV} {ux : Value} (hx : VR g x ux) {l h m : Option Nat} {lo hi mx : Option Value}
    (bl : (lo = none ∧ l = none) ∨ (∃ q k, l = some q ∧ lo = some (.int k q))) (bh : (hi = none ∧ h = none) ∨ (∃ q k, h = some q ∧ hi = some (.int k q))) (bm : (mx = none ∧ m = none) ∨ (∃ q k, m = some q ∧ mx = some (.int k q)))
    (hz : sliceH n x l h m = some z) : ∃ u, (Instr.sliceAt t ux lo hi mx).run P w = .ok u w ∧ VR g z u := by
  rw [Abs.sliceAt_slice ht]
  have hlo : ∃ kl, (lo = none ∧ l.getD 0 = 0) ∨ lo = some (.int kl (l.getD 0 : Nat)) := by
    rcases bl with ⟨h1, rfl⟩ | ⟨n', k, rfl, h1⟩
    · exact ⟨.i64, .inl ⟨h1, rfl⟩⟩
    · exact ⟨k, .inr h1⟩
  obtain ⟨kl, hlo⟩ := hlo
  have hhi : ∀ len, ∃ kh, ((hi = none ∧ h.getD len = len) ∨ hi = some (.int kh (h.getD len : Nat))) ∧ (h.isSome = true → hi = some (.int kh (h.getD len : Nat))) := fun len => by
    rcases bh with ⟨h1, rfl⟩ | ⟨n', k, rfl, h1⟩
    · exact ⟨.i64, .inl ⟨h1, rfl⟩, fun h => by cases h⟩
    · exact ⟨k, .inr h1, fun _ => h1⟩
  unfold sliceH at hz
  split at hz
  · rename_i s off len sz full
    dsimp only at hz
    simp only [VR] at hx
    obtain ⟨G, cap, hG, hs0, rfl, hc1, hc2, hc3, hc4⟩ := hx
    obtain ⟨kh, hhi, hhs⟩ := hhi len
    split at hz
    · rename_i hcond
      simp only [Bool.and_eq_true, beq_iff_eq] at hcond
      obtain ⟨⟨rfl, e1⟩, e2⟩ := hcond
      have e1 := Nat.le_of_ble_eq_true e1
      have e2 := Nat.le_of_ble_eq_true e2
      split at hz
      · rename_i m'
        split at hz
        · rename_i hm
          simp only [Bool.and_eq_true, beq_iff_eq] at hm
          obtain ⟨rfl, hsome⟩ := hm
          obtain ⟨km, hmx⟩ : ∃ km, mx = some (.int km (h.getD len : Nat)) := by
            rcases bm with ⟨_, h2⟩ | ⟨q, k, h2, h3⟩
            · cases h2
            · simp only [Option.some.injEq] at h2; subst h2; exact ⟨k, h3⟩
          have hrun := Abs.run_slice (w := w) ht hn (km := km) hlo hhi true (by simpa using hmx) (fun _ => hhs hsome) e1 e2 hc1 (a := some ⟨G.b, G.o + off, none⟩)
          refine ⟨_, hrun, ?_⟩
          simp only [if_true]
          split at hz
          · rename_i hlh
            simp only [beq_iff_eq] at hlh
            simp only [Option.some.injEq] at hz; subst hz
            simp only [VR]
            refine ⟨G, h.getD len - l.getD 0, hG, hs0, ?_, by omega, by omega, ?_, fun _ => by omega⟩
            · rw [if_pos hlh.symm, show h.getD len - l.getD 0 = 0 from by omega]
            · rw [show h.getD len - l.getD 0 = 0 from by omega, Nat.zero_mul]; omega
          · rename_i hlh
            simp only [beq_iff_eq] at hlh
            simp only [Option.some.injEq] at hz; subst hz
            simp only [VR]
            refine ⟨G, h.getD len - l.getD 0, hG, hs0, ?_, by omega, by omega, ?_, fun _ => rfl⟩
            · rw [if_neg (fun e => hlh e.symm)]; simp only [Option.map_some, add0, Nat.add_assoc]
            · have : (l.getD 0) * sz + (h.getD len - l.getD 0) * sz ≤ cap * sz := by rw [← Nat.add_mul]; exact Nat.mul_le_mul_right _ (by omega)
              omega
        · cases hz
      · have hmx : mx = none := by
          rcases bm with ⟨h2, _⟩ | ⟨q, k, h2, _⟩
          · exact h2
          · cases h2
        have hrun := Abs.run_slice (w := w) ht hn (km := .i64) hlo hhi false (by simpa using hmx) (fun h => by cases h) e1 e2 hc1 (a := some ⟨G.b, G.o + off, none⟩)
        simp only [Bool.false_eq_true, if_false] at hrun
        refine ⟨_, hrun, ?_⟩
        split at hz
        · rename_i hf
          simp only [Bool.and_eq_true, beq_iff_eq] at hf
          obtain ⟨hf1, hf2⟩ := hf
          have hcap := hc4 hf1
          split at hz
          · rename_i hlh
            simp only [beq_iff_eq] at hlh
            simp only [Option.some.injEq] at hz; subst hz
            simp only [VR]
            refine ⟨G, cap - l.getD 0, hG, hs0, ?_, by omega, by omega, ?_, fun _ => by omega⟩
            · rw [if_pos (by omega), show h.getD len - l.getD 0 = 0 from by omega]
            · rw [show cap - l.getD 0 = 0 from by omega, Nat.zero_mul]; omega
          · rename_i hlh
            simp only [beq_iff_eq] at hlh
            simp only [Option.some.injEq] at hz; subst hz
            simp only [VR]
            refine ⟨G, cap - l.getD 0, hG, hs0, ?_, by omega, by omega, ?_, fun _ => by omega⟩
            · rw [if_neg (by omega)]; simp only [Option.map_some, add0, Nat.add_assoc]
            · have : (l.getD 0) * sz + (cap - l.getD 0) * sz ≤ cap * sz := by rw [← Nat.add_mul]; exact Nat.mul_le_mul_right _ (by omega)
              omega
        · split at hz
          · rename_i hlt
            simp only [Bool.or_eq_true, beq_iff_eq] at hlt
            simp only [Option.some.injEq] at hz; subst hz
            simp only [VR]
            have hlt' : l.getD 0 < h.getD len ∨ l.getD 0 = 0 := hlt.imp (fun h => Nat.le_of_ble_eq_true h) id
            refine ⟨G, cap - l.getD 0, hG, hs0, ?_, by omega, by omega, ?_, fun h => by cases h⟩
            · by_cases hcl : cap = l.getD 0
              · have h0 : l.getD 0 = 0 := by omega
                rw [if_pos hcl, h0]; simp
              · rw [if_neg hcl]; simp only [Option.map_some, add0, Nat.add_assoc]
            · have : (l.getD 0) * sz + (cap - l.getD 0) * sz ≤ cap * sz := by rw [← Nat.add_mul]; exact Nat.mul_le_mul_right _ (by omega)
              omega
          · rename_i hlt
            simp only [Bool.or_eq_true, beq_iff_eq, not_or] at hlt
            have hle : h.getD len - l.getD 0 = 0 := by
              have : ¬ l.getD 0 < h.getD len := fun hh => hlt.1 (Nat.ble_eq_true_of_le hh)
              omega
            simp only [Option.some.injEq] at hz; subst hz
            simp only [VR]
            rw [hle]
            by_cases hcl : cap = l.getD 0
            · rw [if_pos hcl]; exact ⟨_, _, rfl, by omega⟩
            · rw [if_neg hcl]; exact ⟨_, _, rfl, by omega⟩
    · cases hz
  · split at hz
    · rename_i hcond
      simp only [Bool.and_eq_true, Bool.or_eq_true, beq_iff_eq] at hcond
      obtain ⟨⟨⟨c1, c2⟩, c3⟩, c4⟩ := hcond
      simp only [Option.some.injEq] at hz; subst hz
      simp only [VR] at hx
      subst hx
      obtain ⟨kh, hhi, hhs⟩ := hhi 0
      rw [c1] at hlo
      rw [c2] at hhi hhs
      rcases bm with ⟨h2, rfl⟩ | ⟨q, k, rfl, h3⟩
      · have hrun := Abs.run_slice (w := w) ht hn (km := .i64) (a := none) (len := 0) (cap := 0) hlo hhi false (by simpa using h2) (fun h => by cases h) (Nat.le_refl 0) (Nat.le_refl 0) (Nat.le_refl 0)
        exact ⟨_, hrun, by simp [VR]⟩
      · simp at c3 c4; subst c3
        have hrun := Abs.run_slice (w := w) ht hn (km := k) (a := none) (len := 0) (cap := 0) hlo hhi true (by simpa using h3) (fun _ => hhs c4) (Nat.le_refl 0) (Nat.le_refl 0) (Nat.le_refl 0)
        exact ⟨_, hrun, by simp [VR]⟩
    · cases hz
  · cases hz
end
end Go.H
namespace Go.H
open Go.Abs (lk Does does_pure szOf aggOf zeroOf structEq strT intT)
def HV.cells : HV → List HV
  | .agg cs => cs
  | x => [x]
def okCell : HV → Bool
  | .v x => x.oneCell'
  | .undef | .agg _ | .tup _ => false
  | _ => true
def okCells : List HV → Bool
  | [] => true
  | c :: cs => okCell c && okCells cs
def cutH (L : List HV) (off : Nat) (x : List HV) : List HV := L.take off ++ x ++ L.drop (off + x.length)
def fillH (place : Nat → Option (Nat × Nat)) (L : List HV) : List (Nat × HV) → Option (List HV)
  | [] => some L
  | (i, x) :: rest => match place i with
    | none => none
    | some (off, size) => if okCells x.cells && x.cells.length == size && Nat.ble (off + size) L.length then fillH place (cutH L off x.cells) rest else none
def placeT : TK → Nat → Option (Nat × Nat)
  | .struct fs, i => match fs[i]? with
    | some (o, n, _) => some (o, n)
    | none => none
  | .arr _ n _, i => some (i * n, n)
  | _, _ => none
def valsH (zs : List Value) : List HV := zs.map .v
def partsH (h : HS) (ps : List (Nat × Operand)) : List (Nat × HV) := ps.map fun p => (p.1, ev h p.2)
def buildH (T : Tab) (t : TypeId) (ps : List (Nat × HV)) : Option HV := match T t with
  | some ⟨k, _, some zs, _⟩ => if k.agg then (fillH (placeT k) (valsH zs) ps).map .agg else none
  | _ => none
def fieldH (T : Tab) (t : TypeId) (i : Nat) (x : HV) : Option HV := match T t, x with
  | some ⟨.struct fs, _, _, _⟩, .agg cs => match fs[i]? with
    | some (o, n, b) => if Nat.ble (o + n) cs.length then mkH b ((cs.drop o).take n) else none
    | none => none
  | _, _ => none
def indexH (T : Tab) (t : TypeId) (x : HV) (i : HV) : Option HV := match T t, x, i with
  | some ⟨.arr len n b, _, _, _⟩, .agg cs, .v (.int _ (.ofNat i)) => if Nat.blt i len && Nat.ble (i * n + n) cs.length then mkH b ((cs.drop (i * n)).take n) else none
  | some ⟨.str, _, _, _⟩, .v (.string s), .v (.int _ (.ofNat i)) => (s[i]?).map fun b => .v (.int .u8 b.toNat)
  | _, _, _ => none
def fieldAddrH (T : Tab) (t : TypeId) (i : Nat) (x : HV) : Option HV := match T t with
  | some ⟨.struct fs, _, _, _⟩ => match fs[i]? with
    | some (o, _ + 1, _) => match x with
      | .ptr s off => some (.ptr s (off + o))
      | .gp s off => some (.gp s (off + o))
      | _ => none
    | _ => none
  | _ => none
def indexAddrH (T : Tab) (t : TypeId) (x : HV) (i : HV) : Option HV := match T t, i with
  | some ⟨.slice _ n, _, _, _⟩, .v (.int _ (.ofNat i)) => match x with
    | .bs s off len sz _ => if sz == n && Nat.blt i len then some (.ptr s (off + i * n)) else none
    | _ => none
  | some ⟨.arr len n _, _, _, _⟩, .v (.int _ (.ofNat i)) => if Nat.blt i len then match x with
      | .ptr s off => some (.ptr s (off + i * n))
      | .gp s off => some (.gp s (off + i * n))
      | _ => none
    else none
  | _, _ => none
section
variable {C : HC} {B : Base} {N : Nat} {g : Gh} {h : HS} {a : Act} {w : World} {P : Program} {T : Tab}
theorem okCell_one {x : HV} {u : Value} (ho : okCell x = true) (hv : VR g x u) : u.oneCell' = true := by
  cases x <;> simp only [okCell, VR, Bool.false_eq_true] at ho hv
  case v => rw [hv]; exact ho
  case ptr => obtain ⟨_, _, rfl⟩ := hv; rfl
  case gp => subst hv; rfl
  case bs => obtain ⟨_, _, _, _, rfl, _⟩ := hv; rfl
  case fn => obtain ⟨_, rfl, _⟩ := hv; rfl
  case mv => obtain ⟨_, rfl, _⟩ := hv; rfl
  case ifc => obtain ⟨_, rfl, _⟩ := hv; rfl
  case mp => obtain ⟨_, _, rfl⟩ := hv; rfl
  case it => obtain ⟨_, _, rfl⟩ := hv; rfl
  case em => obtain ⟨_, _, rfl, _⟩ := hv; rfl
theorem VR.cells {x : HV} {u : Value} (hv : VR g x u) (ho : okCells x.cells = true) : VRs g x.cells u.cells.toList := by
  by_cases hx : ∃ cs, x = .agg cs
  · obtain ⟨cs, rfl⟩ := hx
    simp only [VR] at hv
    obtain ⟨us, rfl, h⟩ := hv
    simpa [HV.cells, Value.cells] using h
  · have hc : x.cells = [x] := by
      cases x with
      | agg cs => exact absurd ⟨cs, rfl⟩ hx
      | _ => rfl
    rw [hc] at ho ⊢
    simp only [okCells, Bool.and_true] at ho
    rw [Abs.cells_of_one (okCell_one ho hv)]
    simp [VRs, hv]
theorem fill_sound (place : Nat → Option (Nat × Nat)) : ∀ (parts : List (Nat × HV)) (pv : List (Nat × Value)) (L : List HV) (cur : Array Value) (L' : List HV),
    parts.map (·.1) = pv.map (·.1) → VRs g (parts.map (·.2)) (pv.map (·.2)) → VRs g L cur.toList → fillH place L parts = some L' → ∃ cur', Instr.fill place cur pv = some cur' ∧ VRs g L' cur'.toList
  | [], [], L, cur, L', _, _, hL, h => by
    simp only [fillH, Option.some.injEq] at h
    subst h
    exact ⟨cur, by simp [Instr.fill], hL⟩
  | [], _ :: _, _, _, _, h, _, _, _ => by simp at h
  | _ :: _, [], _, _, _, h, _, _, _ => by simp at h
  | (i, x) :: parts, (j, v) :: pv, L, cur, L', hi, hp, hL, h => by
    simp only [List.map_cons, List.cons.injEq] at hi
    obtain ⟨rfl, hi⟩ := hi
    simp only [List.map_cons, VRs] at hp
    simp only [fillH] at h
    split at h
    · cases h
    · rename_i off size hpl
      split at h
      · rename_i hc
        simp only [Bool.and_eq_true, beq_iff_eq] at hc
        obtain ⟨⟨ho, hs⟩, hle⟩ := hc
        have hle := Nat.le_of_ble_eq_true hle
        have hx := VR.cells hp.1 ho
        have hvs : v.cells.size = size := by rw [← hs, VRs.length hx]; simp
        have hcl : L.length = cur.size := by rw [VRs.length hL]; simp
        have hnot : ¬ (v.cells.size ≠ size ∨ off + v.cells.size > cur.size) := by omega
        have key := Abs.foldl_zip v.cells off cur (by omega)
        have := fill_sound place parts pv (cutH L off x.cells) (v.cells.zipIdx.foldl (fun cs (p : Value × Nat) => cs.setIfInBounds (off + p.2) p.1) cur) L' hi hp.2 (by
          rw [key]
          unfold cutH
          rw [hs, ← hvs]
          exact VRs.append (VRs.append (VRs.take off hL) hx) (VRs.drop _ hL)) h
        obtain ⟨cur', h1, h2⟩ := this
        refine ⟨cur', ?_, h2⟩
        have hnot' : (decide (v.cells.size ≠ size) || decide (off + v.cells.size > cur.size)) = false := by
          simp only [Bool.or_eq_false_iff, decide_eq_false_iff_not]; exact not_or.1 hnot
        simp only [Instr.fill, hpl, hnot', Bool.false_eq_true, if_false]
        exact h1
      · cases h
theorem zero_spec {t : TypeId} {zs : List Value} (hz : zeroOf P t = some zs) : ∃ i z, P.info? t = some i ∧ i.zero = some z ∧ zs = z.cells.toList := by
  unfold zeroOf at hz
  obtain ⟨z, hz1, hz2⟩ := Option.map_eq_some_iff.1 hz
  obtain ⟨i, hi, hiz⟩ := Option.bind_eq_some_iff.1 hz1
  exact ⟨i, z, hi, hiz, hz2.symm⟩
theorem placeT_eq {t : TypeId} {k : TK} (hk : Kind P t k) (hag : k.agg = true) : (∀ i, placeT k i = Abs.placeOf P t i) ∧ Abs.sized P t = true := by
  unfold Kind at hk
  cases k <;> simp only [TK.agg, Bool.false_eq_true] at hag
  · rename_i len n b
    obtain ⟨e, h1, h2, h3⟩ := hk
    exact ⟨fun i => by simp [placeT, Abs.placeOf, h1, h2], by simp [Abs.sized, h1, h2]⟩
  · rename_i fs
    obtain ⟨fds, h1, h2, h3⟩ := hk
    refine ⟨fun i => ?_, ?_⟩
    · simp only [placeT, Abs.placeOf, h1]
      cases hi : fs[i]? with
      | none =>
        have : fds[i]? = none := by
          rw [List.getElem?_eq_none_iff] at hi
          rw [Array.getElem?_eq_none_iff]; omega
        simp [this]
      | some p =>
        obtain ⟨o, n, b⟩ := p
        obtain ⟨f, k1, k2, k3, _⟩ := h3 i o n b hi
        simp [k1, k2, k3]
    · simp only [Abs.sized, h1, List.all_eq_true]
      intro f hf
      obtain ⟨i, hi⟩ := List.mem_iff_getElem?.1 hf
      have hlt : i < fs.length := by
        have := (List.getElem?_eq_some_iff.1 hi).1
        simp at this; omega
      obtain ⟨f', k1, _, k3, _⟩ := h3 i fs[i].1 fs[i].2.1 fs[i].2.2 (List.getElem?_eq_getElem hlt)
      have : f' = f := by
        rw [← Array.getElem?_toList] at k1
        rw [hi] at k1; exact (Option.some.inj k1).symm
      subst this
      simp [k3]
theorem VRs_valsH (zs : List Value) : VRs g (valsH zs) zs := VRs_map_v zs
theorem build_run {t : TypeId} {i : TypeInfo} {z : Value} (hi : P.info? t = some i) (hiz : i.zero = some z) (hsz : Abs.sized P t = true) {pv : List (Nat × Value)} {cur : Array Value} (k1 : Instr.fill (Abs.placeOf P t) z.cells pv = some cur) :
    (Instr.build t pv.toArray).run P w = .ok (.agg cur) w := by
  unfold Abs.sized at hsz
  split at hsz
  · rename_i fs hu
    have hall : ∀ f ∈ fs.toList, (szOf P f.type).isSome := fun f hf => List.all_eq_true.1 hsz f hf
    have hmm : (fs.mapM fun f => (do pure (f.offset, ← sizeOf f.type) : Sem (Nat × Nat))).run P w = .ok (fs.toList.map fun f => (f.offset, (szOf P f.type).getD 0)).toArray w := by
      have e := Array.mapM_eq_mapM_toList (m := Sem) (xs := fs) (f := fun f => (do pure (f.offset, ← sizeOf f.type) : Sem (Nat × Nat)))
      rw [e]
      simp only [Sem.run_map, Abs.mapM_places _ hall, Result.andThen_ok]
    have hp : ∀ i, ((fs.toList.map fun f => (f.offset, (szOf P f.type).getD 0)).toArray)[i]? = Abs.placeOf P t i := fun i => by
      simp only [Abs.placeOf, hu, List.getElem?_toArray, List.getElem?_map, Array.getElem?_toList]
      cases hfi : fs[i]? with
      | none => rfl
      | some f =>
        have hm : f ∈ fs.toList := by
          rw [← Array.getElem?_toList] at hfi
          exact List.mem_of_getElem? hfi
        obtain ⟨n, hn⟩ := Option.isSome_iff_exists.1 (hall f hm)
        simp [hn]
    have hf2 := Abs.fill_congr (fun i => ((fs.toList.map fun f => (f.offset, (szOf P f.type).getD 0)).toArray)[i]?) (Abs.placeOf P t) pv z.cells (fun x _ => hp x.1)
    rw [k1] at hf2
    unfold Instr.build
    simp only [Sem.run_bind, zeroValue, Abs.run_typeInfo hi, Result.andThen_ok, hiz, Sem.run_pure, run_underlying hu, hmm, hf2]
  · rename_i n e hu
    obtain ⟨m, hm⟩ := Option.isSome_iff_exists.1 hsz
    have hp : ∀ i, (some (i * m, m) : Option (Nat × Nat)) = Abs.placeOf P t i := fun i => by simp [Abs.placeOf, hu, hm]
    have hf2 := Abs.fill_congr (fun i => some (i * m, m)) (Abs.placeOf P t) pv z.cells (fun x _ => hp x.1)
    rw [k1] at hf2
    unfold Instr.build
    simp only [Sem.run_bind, zeroValue, Abs.run_typeInfo hi, Result.andThen_ok, hiz, Sem.run_pure, run_underlying hu, Abs.run_sizeOf hm, hf2]
  · cases hsz
theorem build_sound (hT : T.OK P) {t : TypeId} {ps : List (Nat × HV)} {pv : List (Nat × Value)}
    (h1 : ps.map (·.1) = pv.map (·.1)) (h2 : VRs g (ps.map (·.2)) (pv.map (·.2))) {z : HV} (hf : buildH T t ps = some z) :
    ∃ u, (Instr.build t pv.toArray).run P w = .ok u w ∧ VR g z u := by
  unfold buildH at hf
  split at hf
  · rename_i k sz zs e hTt
    have ht := hT t _ hTt
    split at hf
    · rename_i hag
      obtain ⟨L, hL, rfl⟩ := Option.map_eq_some_iff.1 hf
      obtain ⟨hp, hsz⟩ := placeT_eq ht.kind hag
      obtain ⟨i, z, hi, hiz, rfl⟩ := zero_spec (ht.zero zs rfl).1
      obtain ⟨cur, k1, k2⟩ := fill_sound (placeT k) ps pv (valsH z.cells.toList) z.cells L h1 h2 (VRs_valsH _) hL
      refine ⟨_, build_run (w := w) hi hiz hsz (by rw [← k1]; exact (Abs.fill_congr _ _ pv z.cells (fun x _ => hp x.1)).symm), ?_⟩
      simp only [VR]
      exact ⟨cur, rfl, k2⟩
    · cases hf
  · cases hf
theorem part_run {t : TypeId} {b : Bool} {n off : Nat} (h1 : aggOf P t = some b) (h2 : szOf P t = some n) {cs : List HV} {us : Array Value} (hv : VRs g cs us.toList) (hle : off + n ≤ cs.length) {z : HV} (h : mkH b ((cs.drop off).take n) = some z) :
    ∃ u, (part t us off).run P w = .ok u w ∧ VR g z u := by
  have hlen : cs.length = us.toList.length := VRs.length hv
  have hsub := VRs.take n (VRs.drop off hv)
  simp only [part, Sem.run_bind, Abs.run_isAgg h1, Result.andThen_ok]
  cases b with
  | true =>
    simp only [mkH, if_true, Option.some.injEq] at h
    subst h
    simp only [if_true, Sem.run_bind, Abs.run_sizeOf h2, Result.andThen_ok, Sem.run_pure]
    refine ⟨_, rfl, ?_⟩
    simp only [VR]
    refine ⟨_, rfl, ?_⟩
    simpa [List.drop_take, Nat.add_sub_cancel_left] using hsub
  | false =>
    simp only [mkH, Bool.false_eq_true, if_false] at h
    split at h
    · rename_i c hc
      simp at h; subst h
      rw [hc] at hsub
      match hus : (us.toList.drop off).take n, hsub with
      | [u], hsub =>
        simp only [VRs] at hsub
        have h0 : us[off]? = some u := by
          have : ((us.toList.drop off).take n)[0]? = some u := by rw [hus]; rfl
          rw [List.getElem?_take] at this
          split at this
          · rw [List.getElem?_drop] at this; simpa using this
          · cases this
        simp only [Bool.false_eq_true, if_false, h0, Sem.run_pure]
        exact ⟨u, rfl, hsub.1⟩
      | [], hsub => simp [VRs] at hsub
      | _ :: _ :: _, hsub => simp [VRs] at hsub
    · cases h
theorem field_sound (hT : T.OK P) {t : TypeId} {i : Nat} {x z : HV} {ux : Value} (hx : VR g x ux) (h : fieldH T t i x = some z) : ∃ u, (Instr.field t ux i).run P w = .ok u w ∧ VR g z u := by
  unfold fieldH at h
  split at h
  · rename_i fs sz z' e cs hTt
    have hk := (hT t _ hTt).kind
    simp only [Kind] at hk
    obtain ⟨fds, k1, k2, k3⟩ := hk
    simp only [VR] at hx
    obtain ⟨us, rfl, hv⟩ := hx
    split at h
    · rename_i o n b hi
      obtain ⟨f, j1, rfl, j3, j4⟩ := k3 i o n b hi
      split at h
      · rename_i hle
        have hle := Nat.le_of_ble_eq_true hle
        unfold Instr.field
        simp only [Sem.run_bind, run_underlying k1, Result.andThen_ok, j1, asAgg, Sem.run_pure]
        exact part_run j4 j3 hv hle h
      · cases h
    · cases h
  · cases h
theorem index_sound (hT : T.OK P) {t : TypeId} {x k z : HV} {ux uk : Value} (hx : VR g x ux) (hk : VR g k uk) (h : indexH T t x k = some z) : ∃ u, (Instr.index t ux uk).run P w = .ok u w ∧ VR g z u := by
  unfold indexH at h
  split at h
  · rename_i len n b sz z' e cs kk i hTt
    have hkd := (hT t _ hTt).kind
    simp only [Kind] at hkd
    obtain ⟨el, k1, k2, k3⟩ := hkd
    simp only [VR] at hx hk
    obtain ⟨us, rfl, hv⟩ := hx
    subst hk
    split at h
    · rename_i hc
      simp only [Bool.and_eq_true] at hc
      have h1 : i < len := Nat.le_of_ble_eq_true hc.1
      have h2 := Nat.le_of_ble_eq_true hc.2
      unfold Instr.index
      have e0 : (0 : Int) ≤ Int.ofNat i ∧ Int.ofNat i < (len : Int) := ⟨Int.natCast_nonneg i, Int.ofNat_lt.2 h1⟩
      simp only [asIntOf, Sem.run_bind, Sem.run_pure, Result.andThen_ok, run_underlying k1, e0, and_self, if_true, Abs.run_sizeOf k2]
      exact part_run k3 k2 hv h2 h
    · cases h
  · rename_i sz z' e s kk i hTt
    have hkd := (hT t _ hTt).kind
    simp only [Kind] at hkd
    simp only [VR] at hx hk
    subst hx; subst hk
    obtain ⟨b, hb, rfl⟩ := Option.map_eq_some_iff.1 h
    have e0 : (0 : Int) ≤ Int.ofNat i := Int.natCast_nonneg i
    unfold Instr.index
    simp only [asIntOf, Sem.run_bind, Sem.run_pure, Result.andThen_ok, run_underlying hkd, e0, if_true]
    have hb' : s[(Int.ofNat i).toNat]? = some b := hb
    rw [hb']
    exact ⟨_, rfl, by simp [VR]⟩
  · cases h
theorem fieldAddr_sound (hT : T.OK P) {t : TypeId} {i : Nat} {x z : HV} {ux : Value} (hx : VR g x ux) (h : fieldAddrH T t i x = some z) : ∃ u, (Instr.fieldAt t ux i).run P w = .ok u w ∧ VR g z u := by
  unfold fieldAddrH at h
  split at h
  · rename_i fs sz z' e hTt
    have hk := (hT t _ hTt).kind
    simp only [Kind] at hk
    obtain ⟨fds, k1, k2, k3⟩ := hk
    split at h
    · rename_i o n b hi
      obtain ⟨f, j1, rfl, j3, j4⟩ := k3 i o (n + 1) b hi
      split at h
      · rename_i s off
        simp only [Option.some.injEq] at h; subst h
        simp only [VR] at hx ⊢
        obtain ⟨G, hG, rfl⟩ := hx
        refine ⟨.pointer (some ⟨G.b, G.o + off + f.offset, none⟩), ?_, G, hG, by rw [Nat.add_assoc]⟩
        simp [Instr.fieldAt, Instr.sureAddr, fieldPlace, run_underlying k1, j1, Abs.run_sizeOf j3, add0]
      · rename_i s off
        simp only [Option.some.injEq] at h; subst h
        simp only [VR] at hx ⊢
        subst hx
        refine ⟨.pointer (some ⟨s, off + f.offset, none⟩), ?_, rfl⟩
        simp [Instr.fieldAt, Instr.sureAddr, fieldPlace, run_underlying k1, j1, Abs.run_sizeOf j3, add0]
      · cases h
    · cases h
  · cases h
theorem indexAddr_sound (hT : T.OK P) {t : TypeId} {x k z : HV} {ux uk : Value} (hx : VR g x ux) (hk : VR g k uk) (h : indexAddrH T t x k = some z) : ∃ u, (Instr.indexAt t ux uk).run P w = .ok u w ∧ VR g z u := by
  unfold indexAddrH at h
  split at h
  · rename_i e0 n sz z' e kk i hTt
    have hkd := (hT t _ hTt).kind
    simp only [Kind] at hkd
    obtain ⟨k1, k2⟩ := hkd
    simp only [VR] at hk
    subst hk
    split at h
    · rename_i s off len sz full
      split at h
      · rename_i hc
        simp only [Bool.and_eq_true, beq_iff_eq] at hc
        obtain ⟨rfl, hc⟩ := hc
        have h1 : i < len := Nat.le_of_ble_eq_true hc
        simp only [Option.some.injEq] at h; subst h
        simp only [VR] at hx ⊢
        obtain ⟨G, cap, hG, hs0, rfl, _⟩ := hx
        refine ⟨.pointer (some ⟨G.b, G.o + off + i * sz, none⟩), ?_, G, hG, by rw [Nat.add_assoc]⟩
        have e0 : (0 : Int) ≤ Int.ofNat i ∧ Int.ofNat i < (len : Int) := ⟨Int.natCast_nonneg i, Int.ofNat_lt.2 h1⟩
        simp [Instr.indexAt, Instr.sureAddr, asIntOf, run_underlying k1, h1, Abs.run_sizeOf k2, add0]
      · cases h
    · cases h
  · rename_i len n b sz z' e kk i hTt
    have hkd := (hT t _ hTt).kind
    simp only [Kind] at hkd
    obtain ⟨el, k1, k2, k3⟩ := hkd
    simp only [VR] at hk
    subst hk
    split at h
    · rename_i hc
      have h1 : i < len := Nat.le_of_ble_eq_true hc
      split at h
      · rename_i s off
        simp only [Option.some.injEq] at h; subst h
        simp only [VR] at hx ⊢
        obtain ⟨G, hG, rfl⟩ := hx
        refine ⟨.pointer (some ⟨G.b, G.o + off + i * n, none⟩), ?_, G, hG, by rw [Nat.add_assoc]⟩
        simp [Instr.indexAt, Instr.sureAddr, asIntOf, run_underlying k1, h1, Abs.run_sizeOf k2, add0]
      · rename_i s off
        simp only [Option.some.injEq] at h; subst h
        simp only [VR] at hx ⊢
        subst hx
        refine ⟨.pointer (some ⟨s, off + i * n, none⟩), ?_, rfl⟩
        simp [Instr.indexAt, Instr.sureAddr, asIntOf, run_underlying k1, h1, Abs.run_sizeOf k2, add0]
      · cases h
    · cases h
  · cases h
end
end Go.H
namespace Go.H
open Go.Abs (lk Does does_pure szOf aggOf zeroOf structEq strT intT)
def strSlice (s : ByteArray) (lo hi : Option Nat) : Option HV :=
  let l := lo.getD 0
  let h := hi.getD s.size
  if Nat.ble l h && Nat.ble h s.size then some (.v (.string (s.extract l h))) else none
def bytesOf : List HV → Option (List UInt8)
  | [] => some []
  | .v (.int .u8 (.ofNat n)) :: cs => if Nat.blt n 256 then (bytesOf cs).map (UInt8.ofNat n :: ·) else none
  | _ => none
def funcH (fn : Fn) (first caps : List HV) : Option HV := match fn, first, caps with
  | .func f, [], cs => some (.fn f cs)
  | .func f, x :: xs, [] => some (.mv f (x :: xs))
  | _, _, _ => none
def isConc : TK → Bool
  | .other => false
  | _ => true
def lenH (T : Tab) (t : TypeId) (objs : List (Nat × HO)) (x : HV) : Option HV := match T t with
  | some ⟨.slice _ _, _, _, _⟩ => match x with
    | .bs _ _ n _ _ => some (.v (.int .i64 n))
    | .v (.slice none 0 0) => some (.v (.int .i64 0))
    | .em => some (.v (.int .i64 0))
    | _ => none
  | some ⟨.str, _, _, _⟩ => match x with
    | .v (.string s) => some (.v (.int .i64 s.size))
    | _ => none
  | some ⟨.map _ _ _ _, _, _, _⟩ => match x with
    | .v (.map none) => some (.v (.int .i64 0))
    | .mp s => match lk s objs with
      | some (.map es) => some (.v (.int .i64 (es.length / 2 : Nat)))
      | _ => none
    | _ => none
  | _ => none
def capH (T : Tab) (t : TypeId) (x : HV) : Option HV := match T t with
  | some ⟨.slice _ _, _, _, _⟩ => match x with
    | .bs _ _ n _ true => some (.v (.int .i64 n))
    | .v (.slice none 0 0) => some (.v (.int .i64 0))
    | _ => none
  | _ => none
def pureH (T : Tab) (G : Nat → Option (List Value)) (h : HS) : Op → Option HV
  | .move x => some (ev h x)
  | .assign x => some (ev h x)
  | .pick c a b => match ev h c with
    | .v (.bool true) => some (ev h a)
    | .v (.bool false) => some (ev h b)
    | _ => none
  | .nilCheck x => match ev h x with
    | .ptr s o => some (.ptr s o)
    | .gp s o => some (.gp s o)
    | .fn f cs => some (.fn f cs)
    | .ifc t y => some (.ifc t y)
    | _ => none
  | .binOp op t x y _ => binH T op t (ev h x) (ev h y)
  | .unOp op _ x => (toA (ev h x)).bind fun y => (Abs.unA op y).bind ofA
  | .convert src dst x => match T src, T dst, ev h x with
    | some ⟨.int _, _, _, _⟩, some ⟨.int k, _, _, _⟩, .v (.int _ n) => some (.v (.int k (k.wrap n)))
    | _, _, _ => none
  | .extract x i => match ev h x with
    | .tup cs => cs[i]?
    | _ => none
  | .field t x i => fieldH T t i (ev h x)
  | .index t x i => indexH T t (ev h x) (ev h i)
  | .build t ps => buildH T t (partsH h ps.toList)
  | .fieldAddr t x i => fieldAddrH T t i (ev h x)
  | .indexAddr t x i => indexAddrH T t (ev h x) (ev h i)
  | .load t x => match T t with
    | some i => loadH G i.kind.agg i.size h.objs (ev h x)
    | none => none
  | .slice t x lo hi mx => match bndH h lo, bndH h hi, bndH h mx with
    | some l, some r, some m => match T t with
      | some ⟨.slice _ n, _, _, _⟩ => sliceH n (ev h x) l r m
      | some ⟨.str, _, _, _⟩ => match ev h x, m with
        | .v (.string s), none => strSlice s l r
        | _, _ => none
      | _ => none
    | _, _, _ => none
  | .makeFunc fn first caps => funcH fn (evs h first.toList) (evs h caps.toList)
  | .makeInterface t x => match T t with
    | some i => if isConc i.kind then some (.ifc t (ev h x)) else none
    | none => none
  | .typeAssert x _ t ok => match ev h x, T t with
    | .ifc t' y, some i => if t' == t && isConc i.kind then some (if ok then .tup [y, .v (.bool true)] else y) else none
    | _, _ => none
  | .call ⟨.builtin .len, xs, ts⟩ => match xs.toList, ts.toList with
    | [x], [t] => lenH T t h.objs (ev h x)
    | _, _ => none
  | .call ⟨.builtin .cap, xs, ts⟩ => match xs.toList, ts.toList with
    | [x], [t] => capH T t (ev h x)
    | _, _ => none
  | .call ⟨.builtin .max, xs, _⟩ => match xs.toList with
    | [x, y] => match ev h x, ev h y with
      | .v (.int k a), .v (.int _ b) => some (.v (.int k (if b > a then b else a)))
      | _, _ => none
    | _ => none
  | .call ⟨.builtin .min, xs, _⟩ => match xs.toList with
    | [x, y] => match ev h x, ev h y with
      | .v (.int k a), .v (.int _ b) => some (.v (.int k (if b < a then b else a)))
      | _, _ => none
    | _ => none
  | _ => none
section
variable {C : HC} {B : Base} {N : Nat} {g : Gh} {h : HS} {a : Act} {w : World} {T : Tab}
def Pures (C : HC) (g : Gh) (o : Oper) (a : Act) (w : World) (x : HV) : Prop := ∃ u, Does C.P o a w u w ∧ VR g x u
theorem Pures.of {o : Oper} {x : HV} {s : Sem Value} (ho : execOp a.eval o = (do Pure.pure (Next.value (← s)))) (h : ∃ u, s.run C.P w = .ok u w ∧ VR g x u) : Pures C g o a w x := by
  obtain ⟨u, h1, h2⟩ := h
  exact ⟨u, does_pure ho h1, h2⟩
theorem conc {P : Program} {t : TypeId} {k : TK} (h : Kind P t k) (hc : isConc k = true) : ∃ u, P.underlying t = some u ∧ ∀ ms, u ≠ .interface ms := by
  cases k <;> simp only [isConc, Bool.false_eq_true] at hc <;> simp only [Kind] at h
  case slice => exact ⟨_, h.1, fun ms e => by cases e⟩
  case arr => obtain ⟨e, h1, _⟩ := h; exact ⟨_, h1, fun ms e => by cases e⟩
  case struct => obtain ⟨e, h1, _⟩ := h; exact ⟨_, h1, fun ms e => by cases e⟩
  case ptr => obtain ⟨e, h1⟩ := h; exact ⟨_, h1, fun ms e => by cases e⟩
  case map => obtain ⟨⟨e, _, h1⟩, _⟩ := h; exact ⟨_, h1, fun ms e => by cases e⟩
  case func => obtain ⟨e, _, _, h1⟩ := h; exact ⟨_, h1, fun ms e => by cases e⟩
  all_goals exact ⟨_, h, fun ms e => by cases e⟩
theorem flatE_length : ∀ l : List MapEntry, (Abs.flatE l).length = 2 * l.length
  | [] => rfl
  | e :: es => by simp [Abs.flatE, flatE_length es]; omega
theorem len_sound (hT : T.OK C.P) (hR : R C B N g h a w) {t ty : TypeId} {x z : HV} {ux : Value} (hx : VR g x ux) (hz : lenH T t h.objs x = some z) : ∃ u, (Builtin.len_ #[t] ty #[ux]).run C.P w = .ok u w ∧ VR g z u := by
  unfold lenH at hz
  split at hz
  · rename_i e n sz z' q hTt
    have hk := (hT t _ hTt).kind
    simp only [Kind] at hk
    split at hz
    · simp only [Option.some.injEq] at hz; subst hz
      simp only [VR] at hx
      obtain ⟨G, cap, _, _, rfl, _⟩ := hx
      exact ⟨_, by simp [Builtin.len_, run_underlying hk.1, goInt]; rfl, by simp [VR]⟩
    · simp only [Option.some.injEq] at hz; subst hz
      simp only [VR] at hx; subst hx
      exact ⟨_, by simp [Builtin.len_, run_underlying hk.1, goInt]; rfl, by simp [VR]⟩
    · simp only [Option.some.injEq] at hz; subst hz
      simp only [VR] at hx
      obtain ⟨_, _, rfl, _⟩ := hx
      exact ⟨_, by simp [Builtin.len_, run_underlying hk.1, goInt]; rfl, by simp [VR]⟩
    · cases hz
  · rename_i sz z' q hTt
    have hk := (hT t _ hTt).kind
    simp only [Kind] at hk
    split at hz
    · simp only [Option.some.injEq] at hz; subst hz
      simp only [VR] at hx; subst hx
      exact ⟨_, by simp [Builtin.len_, run_underlying hk, goInt]; rfl, by simp [VR]⟩
    · cases hz
  · rename_i kt b ks e sz z' q hTt
    have hk := (hT t _ hTt).kind
    simp only [Kind] at hk
    obtain ⟨⟨k1, k2, hk⟩, _⟩ := hk
    split at hz
    · simp only [Option.some.injEq] at hz; subst hz
      simp only [VR] at hx; subst hx
      exact ⟨_, by simp [Builtin.len_, run_underlying hk, goInt]; rfl, by simp [VR]⟩
    · split at hz
      · rename_i es hs
        simp only [Option.some.injEq] at hz; subst hz
        simp only [VR] at hx
        obtain ⟨G, hG, rfl⟩ := hx
        obtain ⟨G', h1, ms, clk, h2, h3, _⟩ := hR.ob _ _ hs
        rw [hG] at h1; cases h1
        have hl : es.length = 2 * ms.size := by
          rw [VRs.length h3, flatE_length]; simp
        exact ⟨_, by simp [Builtin.len_, run_underlying hk, goInt, MapKept.run_getObj_map h2]; rfl, by simp [VR, hl]⟩
      · cases hz
    · cases hz
  · cases hz
theorem cap_sound (hT : T.OK C.P) {t ty : TypeId} {x z : HV} {ux : Value} (hx : VR g x ux) (hz : capH T t x = some z) : ∃ u, (Builtin.cap_ #[t] ty #[ux]).run C.P w = .ok u w ∧ VR g z u := by
  unfold capH at hz
  split at hz
  · rename_i e n sz z' q hTt
    have hk := (hT t _ hTt).kind
    simp only [Kind] at hk
    split at hz
    · simp only [Option.some.injEq] at hz; subst hz
      simp only [VR] at hx
      obtain ⟨G, cap, _, _, rfl, _, _, _, hc⟩ := hx
      have hc := hc trivial
      subst hc
      exact ⟨_, by simp [Builtin.cap_, run_underlying hk.1, goInt]; rfl, by simp [VR]⟩
    · simp only [Option.some.injEq] at hz; subst hz
      simp only [VR] at hx; subst hx
      exact ⟨_, by simp [Builtin.cap_, run_underlying hk.1, goInt]; rfl, by simp [VR]⟩
    · cases hz
  · cases hz
theorem strSlice_sound {P : Program} {t : TypeId} (hst : P.underlying t = some .string) {s : ByteArray} {l r : Option Nat} {lo hi : Option Value}
    (bl : (lo = none ∧ l = none) ∨ (∃ q k, l = some q ∧ lo = some (.int k q))) (bh : (hi = none ∧ r = none) ∨ (∃ q k, r = some q ∧ hi = some (.int k q))) {z : HV} (h : strSlice s l r = some z) :
    ∃ u, (Instr.sliceAt t (.string s) lo hi none).run P w = .ok u w ∧ VR g z u := by
  unfold strSlice at h
  dsimp only at h
  split at h
  · rename_i hc
    simp only [Bool.and_eq_true] at hc
    have h1 := Nat.le_of_ble_eq_true hc.1
    have h2 := Nat.le_of_ble_eq_true hc.2
    simp only [Option.some.injEq] at h; subst h
    rw [Abs.sliceAt_string hst]
    refine ⟨.string (s.extract (l.getD 0) (r.getD s.size)), ?_, by simp only [VR]⟩
    rcases bl with ⟨rfl, rfl⟩ | ⟨n1, k1, rfl, rfl⟩ <;> rcases bh with ⟨rfl, rfl⟩ | ⟨n2, k2, rfl, rfl⟩ <;> simp only [Option.getD_none, Option.getD_some] at h1 h2 ⊢
    · simp [Instr.slice, run_underlying hst, Instr.sliceBounds]
    · have b := run_sliceBound (P := P) (w := w) k2 n2 s.size .sliceAlen (by omega) (by omega)
      simp [Instr.slice, run_underlying hst, Instr.sliceBounds, b]
    · have b := run_sliceBound (P := P) (w := w) k1 n1 s.size .sliceB (by omega) (by omega)
      simp [Instr.slice, run_underlying hst, Instr.sliceBounds, b]
    · have b := run_sliceBound (P := P) (w := w) k2 n2 s.size .sliceAlen (by omega) (by omega)
      have b' := run_sliceBound (P := P) (w := w) k1 n1 n2 .sliceB (by omega) (by omega)
      simp only [Int.toNat_natCast] at b b'
      simp [Instr.slice, run_underlying hst, Instr.sliceBounds, b, b']
  · cases h
theorem parts_VRs (hR : R C B N g h a w) (ps : Array (Nat × Operand)) : VRs g ((partsH h ps.toList).map (·.2)) ((ps.toList.map fun p => (p.1, a.eval p.2)).map (·.2)) := by
  have := hR.evs (ps.toList.map (·.2))
  simpa [partsH, H.evs, List.map_map, Function.comp_def] using this
theorem pure_sound (hT : T.OK C.P) (hR : R C B N g h a w) {o : Oper} {x : HV} (hx : pureH T C.G h o.op = some x) : Pures C g o a w x := by
  obtain ⟨dst, op, ty, after, x2, x3⟩ := o
  simp only at hx
  unfold pureH at hx
  split at hx
  · cases hx; exact ⟨_, .inl rfl, hR.ev _⟩
  · cases hx; exact ⟨_, .inl rfl, hR.ev _⟩
  · rename_i c y z
    have hc := hR.ev c
    split at hx
    · rename_i e; cases hx
      rw [e] at hc; simp only [VR] at hc
      exact ⟨a.eval y, .inl (by simp [execOp, hc, asBool]), hR.ev y⟩
    · rename_i e; cases hx
      rw [e] at hc; simp only [VR] at hc
      exact ⟨a.eval z, .inl (by simp [execOp, hc, asBool]), hR.ev z⟩
    · cases hx
  · rename_i y
    have hy := hR.ev y
    split at hx
    · rename_i s o e; cases hx; rw [e] at hy
      refine ⟨_, .inl ?_, hy⟩
      simp only [VR] at hy; obtain ⟨G, _, hu⟩ := hy
      simp [execOp, hu]
    · rename_i s o e; cases hx; rw [e] at hy
      refine ⟨_, .inl ?_, hy⟩
      simp only [VR] at hy
      simp [execOp, hy]
    · rename_i f cs e; cases hx; rw [e] at hy
      refine ⟨_, .inl ?_, hy⟩
      simp only [VR] at hy; obtain ⟨us, hu, _⟩ := hy
      simp [execOp, hu]
    · rename_i t z e; cases hx; rw [e] at hy
      refine ⟨_, .inl ?_, hy⟩
      simp only [VR] at hy; obtain ⟨us, hu, _⟩ := hy
      simp [execOp, hu]
    · cases hx
  · exact .of rfl (binH_sound hT (hR.ev _) (hR.ev _) hx)
  · rename_i op' t y
    obtain ⟨p, h1, h2⟩ := Option.bind_eq_some_iff.1 hx
    obtain ⟨q, h3, h4⟩ := Option.bind_eq_some_iff.1 h2
    obtain ⟨u, k1, k2⟩ := Abs.un_sound (g := g00) (w := w) (P := C.P) (toA_VR (hR.ev y) h1) h3
    exact .of rfl ⟨u, k1, ofA_VR k2 h4⟩
  · rename_i src dst y
    split at hx
    · rename_i k1 s1 z1 e1 k2 s2 z2 e2 k3 n h1 h2 h3
      cases hx
      have hy := hR.ev y
      rw [h3] at hy
      simp only [VR] at hy
      have q1 := (hT src _ h1).kind
      have q2 := (hT dst _ h2).kind
      simp only [Kind] at q1 q2
      refine .of (s := convert src dst (a.eval y)) rfl ⟨.int k2 (k2.wrap n), ?_, by simp [VR]⟩
      rw [hy]
      simp [convert, run_underlying q1, run_underlying q2, Conv.intToInt]
    · cases hx
  · rename_i y i
    split at hx
    · rename_i cs hc
      have hy := hR.ev y
      rw [hc] at hy
      simp only [VR] at hy
      obtain ⟨us, hu, hv⟩ := hy
      obtain ⟨u, h2, h3⟩ := VRs.get hv i _ hx
      refine .of (s := Instr.extract (a.eval y) i) rfl ⟨u, ?_, h3⟩
      rw [hu]
      have : us[i]? = some u := by simpa using h2
      simp [Instr.extract, this]
    · cases hx
  · exact .of rfl (field_sound hT (hR.ev _) hx)
  · exact .of rfl (index_sound hT (hR.ev _) (hR.ev _) hx)
  · rename_i t ps
    exact .of (Abs.exec_build a rfl) (build_sound hT (by simp [partsH]) (parts_VRs hR ps) hx)
  · exact .of rfl (fieldAddr_sound hT (hR.ev _) hx)
  · exact .of rfl (indexAddr_sound hT (hR.ev _) (hR.ev _) hx)
  · rename_i t y
    split at hx
    · rename_i i hTt
      have ht := hT t _ hTt
      exact .of rfl (load_sound hR ht.kind.agg ht.size (hR.ev y) hx)
    · cases hx
  · rename_i t y lo hi mx
    split at hx
    · rename_i l r m hl hr hm
      have bl := bndH_spec hR hl
      have br := bndH_spec hR hr
      have bm := bndH_spec hR hm
      split at hx
      · rename_i e n sz z q hTt
        have hk := (hT t _ hTt).kind
        simp only [Kind] at hk
        exact .of rfl (sliceH_sound hk.1 hk.2 (hR.ev y) bl br bm hx)
      · rename_i sz z q hTt
        have hk := (hT t _ hTt).kind
        simp only [Kind] at hk
        split at hx
        · rename_i s hs
          have hy := hR.ev y
          rw [hs] at hy
          simp only [VR] at hy
          rcases bm with ⟨h3, _⟩ | ⟨_, _, hc, _⟩
          · refine .of (s := Instr.sliceAt t (a.eval y) (lo.map a.eval) (hi.map a.eval) (mx.map a.eval)) rfl ?_
            rw [hy, h3]
            exact strSlice_sound hk bl br hx
          · cases hc
        · cases hx
      · cases hx
    · cases hx
  · rename_i fn first caps
    have e1 := hR.evs first.toList
    have e2 := hR.evs caps.toList
    unfold funcH at hx
    split at hx
    · rename_i f h1
      cases hx
      have hf0 : first = #[] := by
        have : first.toList.length = 0 := by have := congrArg List.length h1; simpa [H.evs] using this
        exact Array.eq_empty_of_size_eq_zero (by simpa using this)
      subst hf0
      refine .of (s := Instr.makeFunc (.func f) ((#[] : Array Operand).map a.eval) (caps.map a.eval)) rfl ⟨_, rfl, ?_⟩
      simp only [VR]
      exact ⟨_, by simp; rfl, by simpa using e2⟩
    · rename_i f y ys h1 h2
      cases hx
      have hf0 : caps = #[] := by
        have : caps.toList.length = 0 := by have := congrArg List.length h2; simpa [H.evs] using this
        exact Array.eq_empty_of_size_eq_zero (by simpa using this)
      subst hf0
      refine .of (s := Instr.makeFunc (.func f) (first.map a.eval) ((#[] : Array Operand).map a.eval)) rfl ⟨_, rfl, ?_⟩
      simp only [VR]
      refine ⟨_, by simp; rfl, ?_⟩
      rw [h1] at e1
      simpa using e1
    · cases hx
  · rename_i t y
    split at hx
    · rename_i i hTt
      split at hx
      · rename_i hc
        cases hx
        obtain ⟨u, hu, hn⟩ := conc (hT t _ hTt).kind hc
        refine .of (s := Instr.makeInterface t (a.eval y)) rfl ⟨.iface t (a.eval y), ?_, by simp only [VR]; exact ⟨_, rfl, hR.ev y⟩⟩
        cases u <;> simp [Instr.makeInterface, run_underlying hu] <;> exact absurd rfl (hn _)
      · cases hx
    · cases hx
  · rename_i y xt t ok
    split at hx
    · rename_i t' z i hy hTt
      split at hx
      · rename_i hc
        simp only [Bool.and_eq_true, beq_iff_eq] at hc
        obtain ⟨rfl, hc⟩ := hc
        cases hx
        have h1 := hR.ev y
        rw [hy] at h1
        simp only [VR] at h1
        obtain ⟨v, hv, hz⟩ := h1
        obtain ⟨ut, hu, hn⟩ := conc (hT _ _ hTt).kind hc
        refine .of (s := Instr.typeAssert (a.eval y) xt t' ok) rfl ?_
        rw [hv]
        cases ok with
        | false => exact ⟨v, by cases ut <;> simp [Instr.typeAssert, run_underlying hu] <;> exact absurd rfl (hn _), by simpa using hz⟩
        | true => exact ⟨.tuple #[v, .bool true], by cases ut <;> simp [Instr.typeAssert, run_underlying hu] <;> exact absurd rfl (hn _), by simp only [if_true, VR]; exact ⟨_, rfl, by simp [VRs, VR, hz]⟩⟩
      · cases hx
    · cases hx
  · rename_i xs ts
    obtain ⟨consts, he⟩ := Abs.exec_builtin a (o := ⟨dst, .call ⟨.builtin .len, xs, ts⟩, ty, after, x2, x3⟩) rfl
    split at hx
    · rename_i y t hy ht
      refine .of he ?_
      rw [Abs.arr1 hy, Abs.arr1 ht]
      simp only [List.map_toArray, List.map_cons, List.map_nil]
      exact len_sound hT hR (hR.ev y) hx
    · cases hx
  · rename_i xs ts
    obtain ⟨consts, he⟩ := Abs.exec_builtin a (o := ⟨dst, .call ⟨.builtin .cap, xs, ts⟩, ty, after, x2, x3⟩) rfl
    split at hx
    · rename_i y t hy ht
      refine .of he ?_
      rw [Abs.arr1 hy, Abs.arr1 ht]
      simp only [List.map_toArray, List.map_cons, List.map_nil]
      exact cap_sound hT (hR.ev y) hx
    · cases hx
  · rename_i xs ts
    obtain ⟨consts, he⟩ := Abs.exec_builtin a (o := ⟨dst, .call ⟨.builtin .max, xs, ts⟩, ty, after, x2, x3⟩) rfl
    split at hx
    · rename_i y z hy
      split at hx
      · rename_i k p k' q hp hq
        cases hx
        have e1 := hR.ev y; have e2 := hR.ev z
        rw [hp] at e1; rw [hq] at e2
        simp only [VR] at e1 e2
        refine .of he ⟨_, ?_, by simp only [VR]; rfl⟩
        rw [Abs.arr2 hy]
        simp [Builtin.max_, Builtin.max2, e1, e2]
      · cases hx
    · cases hx
  · rename_i xs ts
    obtain ⟨consts, he⟩ := Abs.exec_builtin a (o := ⟨dst, .call ⟨.builtin .min, xs, ts⟩, ty, after, x2, x3⟩) rfl
    split at hx
    · rename_i y z hy
      split at hx
      · rename_i k p k' q hp hq
        cases hx
        have e1 := hR.ev y; have e2 := hR.ev z
        rw [hp] at e1; rw [hq] at e2
        simp only [VR] at e1 e2
        refine .of he ⟨_, ?_, by simp only [VR]; rfl⟩
        rw [Abs.arr2 hy]
        simp [Builtin.min_, Builtin.min2, e1, e2]
      · cases hx
    · cases hx
  · cases hx
end
end Go.H
namespace Go.H
open Go.Abs (lk Does does_pure szOf aggOf zeroOf structEq strT intT)
def updO (s : Nat) (o : HO) : List (Nat × HO) → List (Nat × HO)
  | [] => []
  | p :: l => if p.1 = s then (s, o) :: l else p :: updO s o l
def delO (s : Nat) (l : List (Nat × HO)) : List (Nat × HO) := l.filter fun p => !(p.1 == s)
theorem lk_updO {s q : Nat} {o : HO} : ∀ l : List (Nat × HO), lk q (updO s o l) = if q = s then (lk s l).map (fun _ => o) else lk q l
  | [] => by simp [updO, lk]
  | (k, x) :: l => by
    simp only [updO]
    by_cases hk : k = s
    · subst hk
      simp only [if_true, lk]
      by_cases hq : k = q
      · subst hq; simp
      · simp [hq, Ne.symm hq]
    · simp only [hk, if_false, lk]
      by_cases hq : k = q
      · subst hq; simp [hk]
      · simp only [hq, if_false, lk_updO l]
theorem lk_delO {s q : Nat} : ∀ l : List (Nat × HO), lk q (delO s l) = if q = s then none else lk q l
  | [] => by simp [delO, lk]
  | (k, x) :: l => by
    have ih := lk_delO (s := s) (q := q) l
    simp only [delO, List.filter_cons] at ih ⊢
    by_cases hk : k = s
    · subst hk
      simp only [beq_self_eq_true, Bool.not_true, Bool.false_eq_true, if_false, ih, lk]
      by_cases hq : q = k
      · simp [hq]
      · simp [hq, Ne.symm hq]
    · simp only [beq_iff_eq, hk, Bool.not_eq_eq_eq_not, Bool.not_true, beq_eq_false_iff_ne, ne_eq, not_false_eq_true, if_true, lk, ih]
      by_cases hq : k = q
      · subst hq; simp [hk]
      · simp [hq]
section
variable {C : HC} {B : Base} {N : Nat} {g : Gh} {h : HS} {a : Act} {w : World} {T : Tab}
def Mems (C : HC) (B : Base) (N : Nat) (g : Gh) (o : Oper) (a : Act) (w : World) (x : HV) (h' : HS) : Prop := ∃ u w' g', Ext g g' ∧ Does C.P o a w u w' ∧ R C B N g' h' a w' ∧ VR g' x u
theorem Mems.pure {o : Oper} {x : HV} (hR : R C B N g h a w) (hp : Pures C g o a w x) : Mems C B N g o a w x h := by
  obtain ⟨u, h1, h2⟩ := hp
  exact ⟨u, w, g, .rfl, h1, hR, h2⟩
theorem Mems.of {o : Oper} {x : HV} {h' : HS} {s : Sem Value} (ho : execOp a.eval o = (do Pure.pure (Next.value (← s)))) (hs : ∃ u w' g', Ext g g' ∧ s.run C.P w = .ok u w' ∧ R C B N g' h' a w' ∧ VR g' x u) : Mems C B N g o a w x h' := by
  obtain ⟨u, w', g', he, h1, h2, h3⟩ := hs
  exact ⟨u, w', g', he, does_pure ho h1, h2, h3⟩
theorem R.del (hR : R C B N g h a w) (s : Nat) : R C B N g { h with objs := delO s h.objs } a w := by
  refine ⟨hR.size, hR.defs, hR.tm, fun q o hq => ?_, hR.new, fun s' t o p G G' h1 h2 => ?_, hR.low, fun q o G hq => ?_, hR.fr⟩
  · rw [lk_delO] at hq
    split at hq
    · cases hq
    · exact hR.ob q o hq
  · rw [lk_delO] at h1 h2
    split at h1
    · cases h1
    · split at h2
      · cases h2
      · exact hR.sep s' t o p G G' h1 h2
  · rw [lk_delO] at hq
    split at hq
    · cases hq
    · exact hR.out q o G hq
theorem setRow_size (w : World) (b : Nat) (new : Array Value) : (w.setRow b new).heap.size = w.heap.size := by simp
theorem R.setBox (hR : R C B N g h a w) {s : Nat} {o : HO} {G : GB} (hs : lk s h.objs = some o) (hG : g s = some G) (new : Array Value) (cs' : List HV) (hob : ObjAt g (w.setRow G.b new) s (.cells cs')) :
    R C B N g { h with objs := updO s (.cells cs') h.objs } a (w.setRow G.b new) := by
  have hk : ∀ q p, lk q (updO s (.cells cs') h.objs) = some p → (q = s ∧ p = .cells cs') ∨ (q ≠ s ∧ lk q h.objs = some p) := fun q p hq => by
    rw [lk_updO] at hq
    split at hq
    · rename_i e; subst e; rw [hs] at hq; simp at hq; exact .inl ⟨rfl, hq.symm⟩
    · rename_i e; exact .inr ⟨e, hq⟩
  have hk' : ∀ q p, lk q (updO s (.cells cs') h.objs) = some p → ∃ p', lk q h.objs = some p' := fun q p hq => by
    rcases hk q p hq with ⟨rfl, _⟩ | ⟨_, h1⟩
    · exact ⟨_, hs⟩
    · exact ⟨_, h1⟩
  refine ⟨hR.size, hR.defs, hR.tm, fun q p hq => ?_, hR.new, fun q t p p' G1 G2 h1 h2 => ?_, fun q G1 h1 => ?_, fun q p G1 hq => ?_, ?_⟩
  · rcases hk q p hq with ⟨rfl, rfl⟩ | ⟨hne, h1⟩
    · exact hob
    · have := (hR.ob q p h1).ext .rfl (w' := w.setRow G.b new) (fun G1 hG1 => setRow_other w _ _ new (fun e => hne (hR.sep q s p o G1 G h1 hs hG1 hG e)))
      exact this
  · obtain ⟨_, j1⟩ := hk' q p h1
    obtain ⟨_, j2⟩ := hk' t p' h2
    exact hR.sep q t _ _ G1 G2 j1 j2
  · rw [setRow_size]; exact hR.low q G1 h1
  · obtain ⟨_, j1⟩ := hk' q p hq
    exact hR.out q _ G1 j1
  · obtain ⟨f1, f2, f3, f4, f5, f6⟩ := hR.fr
    refine ⟨f1, ⟨f2.1, f2.2⟩, f3, by rw [setRow_size]; exact f4, fun b hb => ?_, f6⟩
    refine ⟨(f5 b hb).1, ?_⟩
    rw [setRow_other w _ _ new (fun e : b = G.b => hR.out s o G hs hG (by rw [← e]; exact hb))]
    exact (f5 b hb).2
theorem R.storeAt (hR : R C B N g h a w) {s off : Nat} {cs : List HV} {G : GB} (hs : lk s h.objs = some (.cells cs)) (hG : g s = some G) {cur : Array Value} {Ty : TypeId} (hh : w.heap[G.b]? = some (.cells cur Ty (0, 0)))
    {xs : List HV} {us : List Value} (hx : VRs g xs us) (hle : off + xs.length ≤ cs.length) :
    R C B N g { h with objs := updO s (.cells (cutH cs off xs)) h.objs } a (w.setRow G.b (cur.toList.take (G.o + off) ++ us ++ cur.toList.drop (G.o + off + us.length)).toArray) := by
  obtain ⟨G', hG', cur', Ty', k1, k2, k3, k4⟩ := hR.ob s _ hs
  rw [hG] at hG'; cases hG'
  rw [hh] at k1; cases k1
  have hul := VRs.length hx
  refine hR.setBox hs hG _ _ ⟨G, hG, _, Ty, setRow_heap w _ cur _ Ty _ hh, ?_, ?_, ?_⟩
  · simp only [List.size_toArray, List.length_append, List.length_take, List.length_drop, Array.length_toList]; omega
  · simp only [cutH, List.length_append, List.length_take, List.length_drop]; omega
  · have hlen : (cutH cs off xs).length = cs.length := by simp only [cutH, List.length_append, List.length_take, List.length_drop]; omega
    rw [hlen]
    have e : ((cur.toList.take (G.o + off) ++ us ++ cur.toList.drop (G.o + off + us.length)).drop G.o).take cs.length =
        (((cur.toList.drop G.o).take cs.length).take off) ++ us ++ (((cur.toList.drop G.o).take cs.length).drop (off + us.length)) := by
      apply List.ext_getElem?
      intro q
      simp only [List.getElem?_take, List.getElem?_drop, List.getElem?_append, List.length_append, List.length_take, List.length_drop, Array.length_toList]
      rw [Nat.min_eq_left (by omega : G.o + off ≤ cur.size)]
      rw [Nat.min_eq_left (by omega : cs.length ≤ cur.size - G.o), Nat.min_eq_left (by omega : off ≤ cs.length)]
      by_cases h1 : q < off
      · simp only [show q < cs.length by omega, show G.o + q < G.o + off + us.length by omega, show G.o + q < G.o + off by omega, show q < off + us.length by omega, h1, if_true]
      · by_cases h2 : q < off + us.length
        · simp only [show q < cs.length by omega, show G.o + q < G.o + off + us.length by omega, show ¬ G.o + q < G.o + off by omega, h2, h1, if_true, if_false]
          congr 1; omega
        · by_cases h3 : q < cs.length
          · simp only [h3, show ¬ G.o + q < G.o + off + us.length by omega, h2, show off + us.length + (q - (off + us.length)) < cs.length by omega, if_true, if_false]
            congr 1; omega
          · simp only [h3, h2, show ¬ off + us.length + (q - (off + us.length)) < cs.length by omega, if_false]
    have e2 : (cur.toList.take (G.o + off) ++ us ++ cur.toList.drop (G.o + off + us.length)).toArray.toList = cur.toList.take (G.o + off) ++ us ++ cur.toList.drop (G.o + off + us.length) := rfl
    rw [e2, e, cutH, hul]
    exact VRs.append (VRs.append (VRs.take _ k4) hx) (VRs.drop _ k4)
end
end Go.H
namespace Go.H
open Go.Abs (lk Does does_pure szOf aggOf zeroOf structEq strT intT)
def newO (h : HS) (o : HO) : HS := ⟨h.tmps, (h.n, o) :: h.objs, h.n + 1, h.m⟩
section
variable {C : HC} {B : Base} {N : Nat} {g : Gh} {h : HS} {a : Act} {w : World} {T : Tab}
theorem R.newCells (hR : R C B N g h a w) (hn : h.n < h.m) (cur : Array Value) (Ty : TypeId) (m : Nat) (cs : List HV) (hm : m ≤ cur.size) (hl : cs.length ≤ m) (hv : VRs g cs (cur.toList.take cs.length)) :
    Ext g (g.new h.n ⟨w.heap.size, 0, m⟩) ∧ R C B N (g.new h.n ⟨w.heap.size, 0, m⟩) (newO h (.cells cs)) a (w.alloc (.cells cur Ty)) := by
  refine hR.alloc hn _ _ m ⟨⟨w.heap.size, 0, m⟩, Gh.new_self _ _ _, cur, Ty, heap_alloc_new w _, by simpa using hm, hl, ?_⟩
  simpa using VRs.ext (Ext.new (hR.new.1 h.n (Nat.le_refl _) hn) ⟨w.heap.size, 0, m⟩) _ _ hv
theorem okCells_one : ∀ {cs : List HV} {us : List Value}, okCells cs = true → VRs g cs us → ∀ u ∈ us, u.oneCell' = true
  | [], [], _, _, u, hu => by simp at hu
  | [], _ :: _, _, h, _, _ => by simp [VRs] at h
  | _ :: _, [], _, h, _, _ => by simp [VRs] at h
  | c :: cs, v :: us, ho, h, u, hu => by
    simp only [okCells, Bool.and_eq_true] at ho
    simp only [VRs] at h
    rcases List.mem_cons.1 hu with rfl | hu
    · exact okCell_one ho.1 h.1
    · exact okCells_one ho.2 h.2 u hu
def storeH (n : Nat) (h : HS) (p x : HV) : Option HS := match p with
  | .ptr s off => match lk s h.objs with
    | some (.cells cs) => if okCells x.cells && x.cells.length == n && Nat.ble (off + n) cs.length then some { h with objs := updO s (.cells (cutH cs off x.cells)) h.objs } else none
    | _ => none
  | _ => none
theorem store_sound (hR : R C B N g h a w) {t n : Nat} (h2 : szOf C.P t = some n) {p x : HV} {up ux : Value} (hp : VR g p up) (hx : VR g x ux) {h' : HS} (hs : storeH n h p x = some h') :
    ∃ w', (Instr.storeAt t up ux).run C.P w = .ok () w' ∧ R C B N g h' a w' := by
  unfold storeH at hs
  split at hs
  · rename_i s off
    split at hs
    · rename_i cs hcs
      split at hs
      · rename_i hc
        simp only [Bool.and_eq_true, beq_iff_eq] at hc
        obtain ⟨⟨ho, hn⟩, hle⟩ := hc
        have hle := Nat.le_of_ble_eq_true hle
        simp only [Option.some.injEq] at hs; subst hs
        simp only [VR] at hp
        obtain ⟨G, hG, rfl⟩ := hp
        obtain ⟨G', hG', cur, Ty, k1, k2, k3, k4⟩ := hR.ob s _ hcs
        rw [hG] at hG'; cases hG'
        have hxc := VR.cells hx ho
        have hul : ux.cells.size = n := by rw [← hn, VRs.length hxc]; simp
        have hrun := Abs.run_storeVar (P := C.P) (w := w) (o := G.o + off) h2 hul k1 (by omega) (okCells_one ho hxc)
        refine ⟨_, by simpa [Instr.storeAt, Instr.sureAddr] using hrun, ?_⟩
        have := hR.storeAt (off := off) hcs hG k1 hxc (by omega)
        rw [Array.length_toList, hul] at this
        simpa only [List.append_assoc] using this
      · cases hs
    · cases hs
  · cases hs
def srcH (objs : List (Nat × HO)) (n : Nat) : HV → Option (List HV)
  | .v (.slice none 0 0) => some []
  | .em => some []
  | .bs s off len sz _ => if sz == n then match lk s objs with
      | some (.cells cs) => if Nat.ble (off + len * sz) cs.length then some ((cs.drop off).take (len * sz)) else none
      | _ => none
    else none
  | _ => none
theorem src_sound (hR : R C B N g h a w) {n : Nat} {x : HV} {u : Value} {cs : List HV} (hx : VR g x u) (hs : srcH h.objs n x = some cs) :
    ∃ (us : List Value) (m : Nat), VRs g cs us ∧ us.length = m * n ∧ (Builtin.lenOf u).run C.P w = .ok m w ∧ ∀ w', w'.heap = w.heap → (Builtin.firstCells n m u).run C.P w' = .ok us.toArray w' := by
  unfold srcH at hs
  split at hs
  · simp only [Option.some.injEq] at hs; subst hs
    simp only [VR] at hx; subst hx
    exact ⟨[], 0, by simp [VRs], by simp, by simp [Builtin.lenOf], fun w' _ => by simp [Builtin.firstCells]⟩
  · simp only [Option.some.injEq] at hs; subst hs
    simp only [VR] at hx
    obtain ⟨ad, cap, rfl, _⟩ := hx
    exact ⟨[], 0, by simp [VRs], by simp, by simp [Builtin.lenOf], fun w' _ => run_firstCells_some (P := C.P) w' n 0 ad 0 cap [] (by simp) (by simp)⟩
  · rename_i s off len sz full
    split at hs
    · rename_i hsz
      simp only [beq_iff_eq] at hsz
      subst hsz
      split at hs
      · rename_i cs' hcs
        split at hs
        · rename_i hle
          have hle := Nat.le_of_ble_eq_true hle
          simp only [Option.some.injEq] at hs; subst hs
          simp only [VR] at hx
          obtain ⟨G, cap, hG, h0, rfl, _⟩ := hx
          obtain ⟨us, k1, k2⟩ := boxCells (hR.ob s _ hcs) hG off
          have hl := VRs.length k1
          simp only [List.length_drop] at hl
          refine ⟨us.take (len * sz), len, VRs.take _ k1, by simp; omega, by simp [Builtin.lenOf], fun w' hw' => ?_⟩
          refine run_firstCells_some (P := C.P) w' sz len _ len cap _ (by simp; omega) fun j v hv => ?_
          rw [List.getElem?_take] at hv
          split at hv
          · have := k2 j v hv
            simpa [World.cell?, hw'] using this
          · cases hv
        · cases hs
      · cases hs
    · cases hs
  · cases hs
end
end Go.H
namespace Go.H
open Go.Abs (lk Does does_pure szOf aggOf zeroOf structEq strT intT)
def rowT (T : Tab) (t : TypeId) : Option (TypeId × Nat × List Value) := match T t with
  | some ⟨.slice e n, _, _, _⟩ => match T e with
    | some ⟨_, m, some zs, _⟩ => if m == n && Nat.blt 0 n && zs.all (fun v => v.oneCell') then some (e, n, zs) else none
    | _ => none
  | _ => none
structure RowOK (P : Program) (t e : TypeId) (n : Nat) (zs : List Value) (f : TypeInfo) (z : Value) : Prop where
  under : P.underlying t = some (.slice e)
  size : szOf P e = some n
  info : P.info? e = some f
  zero : f.zero = some z
  cells : zs = z.cells.toList
  fsz : f.size = n
  len : zs.length = n
  bytes : f.bytes ≤ 32768
  pos : 0 < n
  one : ∀ v ∈ zs, v.oneCell' = true
theorem rowT_spec {P : Program} {T : Tab} (hT : T.OK P) {t e : TypeId} {n : Nat} {zs : List Value} (h : rowT T t = some (e, n, zs)) : ∃ f z, RowOK P t e n zs f z := by
  unfold rowT at h
  split at h
  · rename_i e' n' sz z' q hTt
    split at h
    · rename_i k m zs' q' hTe
      split at h
      · rename_i hc
        simp only [Bool.and_eq_true, beq_iff_eq, List.all_eq_true] at hc
        obtain ⟨⟨rfl, hp⟩, hone⟩ := hc
        simp only [Option.some.injEq, Prod.mk.injEq] at h
        obtain ⟨rfl, rfl, rfl⟩ := h
        have hk := (hT t _ hTt).kind
        simp only [Kind] at hk
        obtain ⟨hz, hl, f, hf, hb⟩ := (hT e' _ hTe).zero zs' rfl
        obtain ⟨f', z, hi, hiz, hzz⟩ := zero_spec hz
        rw [hf] at hi; cases hi
        have hs := (hT e' _ hTe).size
        have hfs : f.size = m := by simp only [szOf, hf, Option.map_some, Option.some.injEq] at hs; exact hs
        exact ⟨f, z, hk.1, hk.2, hf, hiz, hzz, hfs, hl, hb, Nat.le_of_ble_eq_true hp, hone⟩
      · cases h
    · cases h
  · cases h
section
variable {C : HC} {B : Base} {N : Nat} {g : Gh} {h : HS} {a : Act} {w : World} {T : Tab}
theorem VRs_repl (zs : List Value) : ∀ m : Nat, VRs g (List.replicate m (valsH zs)).flatten (List.replicate m zs).flatten
  | 0 => by simp [VRs]
  | m + 1 => by rw [List.replicate_succ, List.replicate_succ, List.flatten_cons, List.flatten_cons]; exact VRs.append (VRs_valsH zs) (VRs_repl zs m)
def litH (n len : Nat) (zs : List Value) (h : HS) (parts : List (Nat × HV)) : Option (HV × HS) :=
  match fillH (fun i => some (i * n, n)) (List.replicate len (valsH zs)).flatten parts with
  | some L => if Nat.ble (len * n) 16777216 then some (.bs h.n 0 len n true, newO h (.cells L)) else none
  | none => none
theorem fillH_len (place : Nat → Option (Nat × Nat)) : ∀ (parts : List (Nat × HV)) (L L' : List HV), fillH place L parts = some L' → L'.length = L.length
  | [], L, L', h => by simp only [fillH, Option.some.injEq] at h; rw [h]
  | (i, x) :: parts, L, L', h => by
    simp only [fillH] at h
    split at h
    · cases h
    · split at h
      · rename_i hc
        simp only [Bool.and_eq_true, beq_iff_eq] at hc
        have hle := Nat.le_of_ble_eq_true hc.2
        rw [fillH_len place parts _ _ h]
        simp only [cutH, List.length_append, List.length_take, List.length_drop]; omega
      · cases h
theorem lit_sound (hR : R C B N g h a w) (hnm : h.n < h.m) {t e n len : Nat} {zs : List Value} {f : TypeInfo} {zv : Value} (hr : RowOK C.P t e n zs f zv) {parts : List (Nat × HV)} {pv : List (Nat × Value)}
    (hp1 : parts.map (·.1) = pv.map (·.1)) (hp2 : VRs g (parts.map (·.2)) (pv.map (·.2))) {z : HV} {h' : HS} (ha : litH n len zs h parts = some (z, h')) :
    ∃ u w' g', Ext g g' ∧ (Instr.buildSlice t len pv.toArray).run C.P w = .ok u w' ∧ R C B N g' h' a w' ∧ VR g' z u := by
  obtain ⟨hu, hs, hi, hz, hzz, hsz, hzl, hby, hn, hone⟩ := hr
  unfold litH at ha
  split at ha
  · rename_i L hL
    split at ha
    · rename_i hbig
      have hbig := Nat.le_of_ble_eq_true hbig
      simp only [Option.some.injEq, Prod.mk.injEq] at ha
      obtain ⟨rfl, rfl⟩ := ha
      have harr : ((Array.range (len * n)).map (zv.cells[· % zv.cells.size]!)).toList = (List.replicate len zs).flatten := by
        apply List.ext_getElem?
        intro j
        cases hj : (List.replicate len zs).flatten[j]? with
        | none =>
          have : len * n ≤ j := by
            have := List.getElem?_eq_none_iff.1 hj
            simpa [List.length_flatten, hzl, Nat.mul_comm] using this
          simp; omega
        | some v =>
          obtain ⟨h1, h2⟩ := Abs.flatten_replicate_get zs _ _ _ hj
          rw [hzl] at h2
          simp only [Array.getElem?_toList, Array.getElem?_map, Array.getElem?_range, if_pos h2, Option.map_some]
          rw [hzz] at h1
          simp only [Array.length_toList, Array.getElem?_toList] at h1
          rw [getElem!_def, h1]
      obtain ⟨cur, hf, hcur⟩ := fill_sound (fun i => some (i * n, n)) parts pv _ ((Array.range (len * n)).map (zv.cells[· % zv.cells.size]!)) L hp1 hp2 (by rw [harr]; exact VRs_repl zs len) hL
      have hLl : L.length = len * n := by rw [fillH_len _ _ _ _ hL]; simp [List.length_flatten, valsH, hzl, Nat.mul_comm]
      have hcl : cur.size = len * n := by have := VRs.length hcur; simp at this; omega
      obtain ⟨hext, k1⟩ := hR.newCells hnm cur e (len * n) L (by omega) (by omega) (by rw [hLl, ← hcl, List.take_of_length_le (by simp)]; exact hcur)
      refine ⟨.slice (some ⟨w.heap.size, 0, none⟩) len len, _, _, hext, ?_, k1, ?_⟩
      · have hnb : ¬ (len * n > 2 ^ 24) := by omega
        have hf' : Instr.fill (fun i => some (i * n, n)) (if len * n = 0 then #[] else (Array.range (len * n)).map (zv.cells[· % zv.cells.size]!)) pv = some cur := by
          by_cases h0 : len * n = 0
          · rw [h0] at hf ⊢; simpa [Array.range_zero'] using hf
          · simpa [h0] using hf
        by_cases h0 : len * n = 0
        · simp only [h0, if_true] at hf'
          simp [Instr.buildSlice, run_underlying hu, sizeOf, typeInfo, hi, hsz, h0, Array.range_zero', hf', newRow]
        · simp only [h0, if_false] at hf'
          simp [Instr.buildSlice, run_underlying hu, sizeOf, typeInfo, hi, hsz, h0, zeroValue, hz, hf', newRow]
          exact hbig
      · simp only [VR]
        exact ⟨_, len, Gh.new_self _ _ _, hn, by simp, Nat.le_refl _, by simp only [maxLen]; have := Nat.le_mul_of_pos_right len hn; omega, by simp, fun _ => rfl⟩
    · cases ha
  · cases ha
def makeH (n : Nat) (zs : List Value) (h : HS) (l c : Nat) : Option (HV × HS) :=
  if Nat.ble l c && Nat.ble c 4294967296 then some (.bs h.n 0 l n (l == c), newO h (.cells (List.replicate l (valsH zs)).flatten)) else none
theorem make_sound (hR : R C B N g h a w) (hnm : h.n < h.m) {t e n : Nat} {zs : List Value} {f : TypeInfo} {zv : Value} (hr : RowOK C.P t e n zs f zv) {kl kc : IntKind} {l c : Nat} {z : HV} {h' : HS} (ha : makeH n zs h l c = some (z, h')) :
    ∃ u w' g', Ext g g' ∧ (Instr.makeSlice t (.int kl l) (.int kc c)).run C.P w = .ok u w' ∧ R C B N g' h' a w' ∧ VR g' z u := by
  obtain ⟨hu, hs, hi, hz, hzz, hsz, hzl, hby, hn, hone⟩ := hr
  unfold makeH at ha
  split at ha
  · rename_i hc
    simp only [Bool.and_eq_true] at hc
    have h1 := Nat.le_of_ble_eq_true hc.1
    have h2 := Nat.le_of_ble_eq_true hc.2
    simp only [Option.some.injEq, Prod.mk.injEq] at ha
    obtain ⟨rfl, rfl⟩ := ha
    have hbytes : (f.bytes : Int) * (c : Int) ≤ 281474976710656 := by
      have : f.bytes * c ≤ 32768 * 4294967296 := Nat.mul_le_mul (by omega) h2
      have h3 : ((f.bytes * c : Nat) : Int) ≤ ((32768 * 4294967296 : Nat) : Int) := Int.ofNat_le.2 this
      rw [Int.natCast_mul] at h3
      omega
    have hrun := run_make (P := C.P) w t e f zv hu hi hz kl kc l c (by omega) (by omega) hbytes (by omega)
    simp only [Int.toNat_natCast, hsz] at hrun
    have hlen : (List.replicate l (valsH zs)).flatten.length = l * n := by simp [List.length_flatten, valsH, hzl, Nat.mul_comm]
    have hms : (madeCells zv.cells (c * n)).size = c * n := size_madeCells _ _
    have htake : (madeCells zv.cells (c * n)).toList.take (l * n) = (List.replicate l zs).flatten := by
      apply List.ext_getElem?
      intro j
      rw [List.getElem?_take]
      by_cases hj : j < l * n
      · rw [if_pos hj]
        have hl' : (List.replicate l zs).flatten.length = l * n := by simp [List.length_flatten, hzl, Nat.mul_comm]
        obtain ⟨v, hv⟩ : ∃ v, (List.replicate l zs).flatten[j]? = some v := ⟨_, List.getElem?_eq_getElem (by omega)⟩
        obtain ⟨q1, q2⟩ := Abs.flatten_replicate_get zs _ _ _ hv
        have hjc : j < c * n := Nat.lt_of_lt_of_le hj (Nat.mul_le_mul_right _ h1)
        rw [hv]
        simp only [madeCells, Array.getElem?_toList]
        rw [Array.getElem?_map, Array.getElem?_range, if_pos hjc]
        simp only [Option.map_some]
        rw [hzz] at q1
        simp only [Array.length_toList, Array.getElem?_toList] at q1
        rw [getElem!_def, q1]
      · rw [if_neg hj, List.getElem?_eq_none]
        simp [List.length_flatten, hzl, Nat.mul_comm]; rw [Nat.mul_comm]; omega
    obtain ⟨hext, k1⟩ := hR.newCells hnm (madeCells zv.cells (c * n)) e (c * n) (List.replicate l (valsH zs)).flatten (by omega) (by rw [hlen]; exact Nat.mul_le_mul_right _ h1) (by rw [hlen, htake]; exact VRs_repl zs l)
    refine ⟨_, _, _, hext, hrun, k1, ?_⟩
    simp only [VR]
    exact ⟨_, c, Gh.new_self _ _ _, hn, by simp, h1, by simp only [maxLen]; omega, by simp, fun hf => by simp only [beq_iff_eq] at hf; exact hf.symm⟩
  · cases ha
end
end Go.H
