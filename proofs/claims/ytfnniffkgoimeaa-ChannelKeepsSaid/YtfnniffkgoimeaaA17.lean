/- The evaluator on code, and that the model runs so. -/
import Derived.Test.YtfnniffkgoimeaaA16
import Derived.Test.YtfnniffkgoimeaaAD
import Derived.Deep.LoopGhost
import Derived.Scope
set_option linter.all false
namespace Go.Abs

inductive Ex where
  | normal
  | exit (id : Nat)
  | ret

structure Env where
  C : Ctx
  ext : List Nat
  deep : List Nat

def thenA (K : St → Prop) (Q : Ex → St → Prop) : Ex → St → Prop
  | .normal => K
  | .exit id => Q (.exit id)
  | .ret => Q .ret
def blockA (id : Nat) (Q : Ex → St → Prop) : Ex → St → Prop
  | .normal => Q .normal
  | .exit i => if i = id then Q .normal else Q (.exit i)
  | .ret => Q .ret

/-- what is known in the one is known in the other, after renaming -/
def Imp (X : Env) (st st' : St) : Prop := ∀ A N g a w, A.ext = X.ext → R X.C A N g st a w → ∃ g', R X.C A N g' st' a w

def callB (X : Env) (d : Option Nat) (fid : Nat) (xs : List AV) (K : St → Prop) (st : St) : Prop :=
  ∃ fz v ob y ob', v.OK ob ∧ (rngs v.fm).all (fun s => s % 64 != 63) = true ∧ FnOK X.C fid (renL v.ρ (freezeL fz xs)) ob y ob' ∧ Has v (st.freeze fz) ob ∧ (v.ρ.bs = [] ∨ (Flat (y.ren v.back) ∧ FlatO (renO v.back ob'))) ∧
    K (((st.freeze fz).app (rngs v.back.l) (rngs v.fm) (rngs v.back.m) (renO v.back ob')).put d (y.ren v.back))

def callA (X : Env) (d : Option Nat) (f : AV) (xs : List AV) (K : St → Prop) (st : St) : Prop :=
  match f with
  | .fn fid caps => callB X d fid (xs ++ caps) K st
  | _ => False

def stepA (d : Option Nat) (K : St → Prop) : Option (AV × St) → Prop
  | some (x, st) => K (st.put d x)
  | none => False

def evs (C : Ctx) (st : St) : List Operand → List AV
  | [] => []
  | x :: xs => ev C st x :: evs C st xs

def inDeep (X : Env) (d : Option Nat) : Prop := match d with
  | some k => k ∈ X.deep
  | none => False
instance (X : Env) (d : Option Nat) : Decidable (inDeep X d) := by unfold inDeep; split <;> infer_instance

def deepLit (C : Ctx) (d : Option Nat) (t : TypeId) (len : Nat) (ps : Array (Nat × Operand)) (st : St) : Option (AV × St) := match d, rowInf C.P t with
  | some k, some (e, 1, _) => match zeroOf C.P e with
    | some _ => litD (nm k) st len (parts C st ps)
    | none => none
  | _, _ => none
def deepApp (C : Ctx) (d : Option Nat) (args : List Operand) (ts : List TypeId) (st : St) : Option (AV × St) := match d, args, ts with
  | some k, [x, y], [t, t2] => match rowInf C.P t with
    | some (_, 1, _) => if isSliceT C.P t2 = true then appendD (nm k) st (ev C st x) (ev C st y) else none
    | _ => none
  | _, _, _ => none

def doA (X : Env) (o : Oper) (K : St → Prop) (st : St) : Prop :=
  match o.op with
  | .call ⟨.value f, args, _⟩ => callA X o.dst (ev X.C st f) (evs X.C st args.toList) K st
  | .call ⟨.builtin .append, args, ts⟩ => if inDeep X o.dst then stepA o.dst K (deepApp X.C o.dst args.toList ts.toList st) else stepA o.dst K (stepV X.C o st)
  | .buildSlice t len ps => if inDeep X o.dst then stepA o.dst K (deepLit X.C o.dst t len ps st) else stepA o.dst K (stepV X.C o st)
  | _ => stepA o.dst K (stepV X.C o st)

def splitA (b' b : Bool) (p q : Prop) : Prop := (b' = b → p) ∧ (b' ≠ b → q)

def setT (d : Nat) (x : AV) : List (Nat × AV) → List (Nat × AV)
  | [] => []
  | (k, y) :: l => if k = d then (k, x) :: l else (k, y) :: setT d x l
theorem setT_same {d : Nat} {x : AV} : ∀ {l : List (Nat × AV)}, lk d l = some x → setT d x l = l
  | (k, y) :: l, h => by
    simp only [lk] at h
    simp only [setT]
    split
    · rename_i hk; simp only [hk, if_true] at h; injection h with h; rw [h]
    · rename_i hk; simp only [hk, if_false] at h; rw [setT_same h]
/-- the guard's value is known now -/
def St.learn (d : Option Nat) (b : Bool) (st : St) : St := match d with
  | some k => ⟨setT k (.v (.bool b)) st.tmps, st.objs⟩
  | none => st
def gdst (all : Array Oper) (j : Nat) : Option Nat := (all[j]?).bind (·.dst)

def guardOf (all : Array Oper) (j : Nat) (st : St) : Option AV := ((all[j]?).bind (·.dst)).bind (lk · st.tmps)

def operA (X : Env) (all : Array Oper) (o : Oper) (K : St → Prop) (st : St) : Prop :=
  match o.guard with
  | none => doA X o K st
  | some (j, b) => match guardOf all j st with
    | some (.v (.bool b')) => splitA b' b (doA X o K (st.learn (gdst all j) b)) (K ((st.learn (gdst all j) (!b)).put o.dst .undef))
    | _ => False

def opsA (X : Env) (all : Array Oper) : List Oper → (St → Prop) → St → Prop
  | [], K => K
  | o :: rest, K => operA X all o (opsA X all rest K)

def condA (c : AV) (K1 K2 : St → Prop) (st : St) : Prop :=
  match c with
  | .v (.bool b) => (b = true → K1 st) ∧ (b = false → K2 st)
  | _ => False

def loopA (X : Env) (body : (Ex → St → Prop) → St → Prop) (Q : Ex → St → Prop) (st : St) : Prop :=
  ∃ (α : Type) (I : α → St) (Inv : α → Prop) (μ : α → Nat) (x0 : α), Inv x0 ∧ Imp X st (I x0) ∧
    ∀ x, Inv x → body (thenA (fun st' => ∃ x', Inv x' ∧ μ x' < μ x ∧ Imp X st' (I x')) Q) (I x)

/-- regions that draw their order: filled in later -/
def drawA (X : Env) (ops : Array Oper) (K : St → Prop) (st : St) : Prop :=
  ∀ A N g a w, A.ext = X.ext → (∀ o ∈ ops, ∀ d, o.dst = some d → d < N) → (∀ s ∈ X.ext, s % 64 = 63) → R X.C A N g st a w → ∀ id (Q : Exit → Act → World → Prop), (∀ g' st' a' w', R X.C A N g' st' a' w' → K st' → Q .normal a' w') →
    (Code.region id ops true).wp X.C.P Q a w

def wpA (X : Env) : Code → (Ex → St → Prop) → St → Prop
  | .skip, Q => Q .normal
  | .region _ ops false, Q => opsA X ops ops.toList (Q .normal)
  | .region _ ops true, Q => drawA X ops (Q .normal)
  | .seq x y, Q => wpA X x (thenA (wpA X y Q) Q)
  | .cond c x y, Q => fun st => condA (ev X.C st c) (wpA X x Q) (wpA X y Q) st
  | .block id c, Q => wpA X c (blockA id Q)
  | .loop c, Q => loopA X (wpA X c) Q
  | .exit id, Q => Q (.exit id)
  | .ret, Q => Q .ret
  | .scope c, Q => wpA X c Q
  | .label _, Q => Q .normal
  | _, _ => fun _ => False

def opOK (N : Nat) (o : Oper) : Bool := match o.dst with
  | some d => decide (d < N)
  | none => true
def codeOK (N : Nat) : Code → Bool
  | .region _ ops _ => ops.all (opOK N)
  | .seq x y => codeOK N x && codeOK N y
  | .cond _ x y => codeOK N x && codeOK N y
  | .block _ c => codeOK N c
  | .loop c => codeOK N c
  | .scope c => codeOK N c
  | _ => true

def postA (X : Env) (A : A0) (N : Nat) (Q : Ex → St → Prop) : Exit → Act → World → Prop
  | .normal, a, w => ∃ g st, R X.C A N g st a w ∧ Q .normal st
  | .exit id, a, w => ∃ g st, R X.C A N g st a w ∧ Q (.exit id) st
  | .ret, a, w => ∃ g st, R X.C A N g st a w ∧ Q .ret st
  | _, _, _ => False

section
variable {X : Env} {A : A0} {N : Nat} {g g' : Gh} {st : St} {a : Act} {w w' : World}

theorem evs_map (C : Ctx) (st : St) : ∀ l : List Operand, evs C st l = l.map (ev C st)
  | [] => rfl
  | x :: l => by simp [evs, evs_map C st l]

theorem ev_freeze (C : Ctx) (S : List Nat) (st : St) (p : Operand) : ev C (st.freeze S) p = (ev C st p).freeze S := by
  cases p with
  | tmp k =>
    simp only [ev, St.freeze, lk_map]
    cases lk k st.tmps <;> rfl
  | const v => rfl
  | func f => rfl
  | global i =>
    simp only [ev]
    cases C.G i <;> rfl
theorem freezeL_evs (C : Ctx) (S : List Nat) (st : St) : ∀ l : List Operand, freezeL S (evs C st l) = evs C (st.freeze S) l
  | [] => rfl
  | x :: l => by simp only [evs, freezeL, ev_freeze, freezeL_evs C S st l]
theorem freezeL_append (S : List Nat) : ∀ xs ys : List AV, freezeL S (xs ++ ys) = freezeL S xs ++ freezeL S ys
  | [], _ => rfl
  | x :: xs, ys => by simp only [List.cons_append, freezeL, freezeL_append S xs ys]
theorem ev_freeze_fn {C : Ctx} {S : List Nat} {st : St} {f : Operand} {fid : Nat} {caps : List AV} (h : ev C st f = .fn fid caps) : ev C (st.freeze S) f = .fn fid (freezeL S caps) := by
  rw [ev_freeze, h]; rfl

theorem nm_ext (hX : ∀ s ∈ X.ext, s % 64 = 63) (hA : A.ext = X.ext) (d : Nat) : nm d ∉ A.ext := fun h => by
  rw [hA] at h
  have := hX _ h
  simp only [nm] at this
  omega

theorem deepLit_sound {C : Ctx} (hR : R C A N g st a w) {o : Oper} {t : TypeId} {len : Nat} {ps : Array (Nat × Operand)} (ho : o.op = .buildSlice t len ps) {x : AV} {st' : St} (h : deepLit C o.dst t len ps st = some (x, st')) : Steps C A N o a w x st' := by
  unfold deepLit at h
  split at h
  · rename_i d e b k _ hd hr
    split at h
    · rename_i zs hz
      exact .of (exec_buildSlice a ho) (litD_sound hR hr hz (by simp [parts]) (VRs_parts hR ps) h)
    · cases h
  · cases h
theorem deepApp_sound {C : Ctx} (hR : R C A N g st a w) {o : Oper} {args : Array Operand} {ts : Array TypeId} (ho : o.op = .call { callee := .builtin .append, args, argTypes := ts }) {x : AV} {st' : St} (h : deepApp C o.dst args.toList ts.toList st = some (x, st')) : Steps C A N o a w x st' := by
  obtain ⟨consts, he⟩ := exec_builtin a ho
  unfold deepApp at h
  split at h
  · rename_i k y z t t2 hd hy ht
    split at h
    · rename_i e b hr
      split at h
      · rename_i hs
        refine .of he ?_
        rw [arr2 hy, arr2 ht]
        simp only [List.map_toArray, List.map_cons, List.map_nil]
        exact appendD_sound hR hr hs (hR.ev y) (hR.ev z) h
      · cases h
    · cases h
  · cases h

theorem doA_sound (hA : A.ext = X.ext) (hX : ∀ s ∈ X.ext, s % 64 = 63) {o : Oper} (hd : opOK N o = true) {K : St → Prop} (h : doA X o K st) (hR : R X.C A N g st a w) {K' : Act → World → Prop} {Q : Exit → Act → World → Prop}
    (hk : ∀ g' st' a' w', R X.C A N g' st' a' w' → K st' → K' a' w') : o.wp X.C.P a w K' Q := by
  have hd' : ∀ k, o.dst = some k → k < N := fun k hk => by simp [opOK, hk] at hd; exact hd
  unfold doA at h
  split at h
  · rename_i f args ts ho
    unfold callA at h
    split at h
    · rename_i fid caps hf
      obtain ⟨fz, v, ob, y, ob', h1, h2, h3, h4, h5, h6⟩ := h
      rw [freezeL_append, freezeL_evs, evs_map] at h3
      refine (callG ho rfl (ev_freeze_fn hf) h1 h3 h4 h5).wp (hR.freeze fz) (fun s hs hT => ?_) hd' fun g' a' w' hr => hk g' _ a' w' hr h6
      have h7 := hX s (hA ▸ hs)
      have h8 := List.all_eq_true.1 h2 s hT
      simp [h7] at h8
    · cases h
  · rename_i args ts ho
    split at h <;> unfold stepA at h
    · split at h
      · rename_i x st' hs
        exact (deepApp_sound hR ho hs).wp hd' fun g' a' w' hr => hk g' _ a' w' hr h
      · cases h
    · split at h
      · rename_i x st' hs
        exact (stepV_sound hR (fun d _ => nm_ext hX hA d) hs).wp hd' fun g' a' w' hr => hk g' _ a' w' hr h
      · cases h
  · rename_i t len ps ho
    split at h <;> unfold stepA at h
    · split at h
      · rename_i x st' hs
        exact (deepLit_sound hR ho hs).wp hd' fun g' a' w' hr => hk g' _ a' w' hr h
      · cases h
    · split at h
      · rename_i x st' hs
        exact (stepV_sound hR (fun d _ => nm_ext hX hA d) hs).wp hd' fun g' a' w' hr => hk g' _ a' w' hr h
      · cases h
  · unfold stepA at h
    split at h
    · rename_i x st' hs
      exact (stepV_sound hR (fun d _ => nm_ext hX hA d) hs).wp hd' fun g' a' w' hr => hk g' _ a' w' hr h
    · cases h

theorem guard_spec {all : Array Oper} {j : Nat} {b : Bool} (hR : R X.C A N g st a w) (h : guardOf all j st = some (.v (.bool b))) : yielded all a.tmps j = some b := by
  unfold guardOf at h
  obtain ⟨d, h1, h2⟩ := Option.bind_eq_some_iff.1 h
  obtain ⟨u, hu, hv⟩ := hR.tm d _ h2
  simp only [VR] at hv
  subst hv
  simp [yielded, h1, hu]

theorem learn_same {all : Array Oper} {j : Nat} {st : St} {b : Bool} (h : guardOf all j st = some (.v (.bool b))) : st.learn (gdst all j) b = st := by
  unfold guardOf at h
  obtain ⟨d, h1, h2⟩ := Option.bind_eq_some_iff.1 h
  unfold gdst
  rw [h1]
  simp only [St.learn, setT_same h2]

theorem opsA_sound (hA : A.ext = X.ext) (hX : ∀ s ∈ X.ext, s % 64 = 63) {all : Array Oper} {Q : Exit → Act → World → Prop} {K : St → Prop} (hk : ∀ g' st' a' w', R X.C A N g' st' a' w' → K st' → Q .normal a' w') :
    ∀ (l : List Oper) (g : Gh) (st : St) (a : Act) (w : World), (∀ o ∈ l, opOK N o = true) → opsA X all l K st → R X.C A N g st a w → wpList X.C.P all Q l a w
  | [], g, st, a, w, _, h, hR => hk g st a w hR h
  | o :: l, g, st, a, w, hok, h, hR => by
    have hd := hok o (by simp)
    have hrest := fun g' st' a' w' hr (hK : opsA X all l K st') => opsA_sound hA hX hk l g' st' a' w' (fun o' ho' => hok o' (by simp [ho'])) hK hr
    simp only [opsA, operA] at h
    unfold wpList
    split at h
    · rename_i hg
      have : Region.wanted o (yielded all a.tmps) = true := by simp [Region.wanted, hg]
      simp only [this, if_true]
      exact .inl (doA_sound hA hX hd h hR hrest)
    · rename_i j b hg
      split at h
      · rename_i b' hb
        have hy := guard_spec hR hb
        by_cases he : b' = b
        · have : Region.wanted o (yielded all a.tmps) = true := by simp [Region.wanted, hg, hy, he]
          simp only [this, if_true]
          have h1 := h.1 he
          subst he
          rw [learn_same hb] at h1
          exact .inl (doA_sound hA hX hd h1 hR hrest)
        · have : Region.wanted o (yielded all a.tmps) = false := by simp [Region.wanted, hg, hy, he]
          simp only [this, Bool.false_eq_true, if_false]
          have hd' : ∀ k, o.dst = some k → k < N := fun k hk => by simp [opOK, hk] at hd; exact hd
          have h1 := h.2 he
          have hbb : (!b) = b' := by cases b <;> cases b' <;> first | rfl | exact absurd rfl he
          rw [hbb, learn_same hb] at h1
          exact hrest g _ _ w (hR.put hd' (by simp [VR])) h1
      · cases h

theorem wpA_sound (hA : A.ext = X.ext) (hX : ∀ s ∈ X.ext, s % 64 = 63) : ∀ (c : Code) (Q : Ex → St → Prop) (g : Gh) (st : St) (a : Act) (w : World), codeOK N c = true → wpA X c Q st → R X.C A N g st a w → c.wp X.C.P (postA X A N Q) a w := by
  intro c
  induction c with
  | skip => intro Q g st a w _ h hR; exact wp_skip ⟨g, st, hR, h⟩
  | region id ops d =>
    intro Q g st a w hok h hR
    have hok' : ∀ o ∈ ops.toList, opOK N o = true := fun o ho => by
      simp only [codeOK, Array.all_eq_true'] at hok
      exact hok o (by simpa using ho)
    cases d with
    | false =>
      exact wp_region_list (opsA_sound hA hX (Q := postA X A N Q) (fun g' st' a' w' hr hK => ⟨g', st', hr, hK⟩) ops.toList g st a w hok' h hR)
    | true =>
      exact h A N g a w hA (fun o ho d hd => by have := hok' o (by simpa using ho); simp [opOK, hd] at this; exact this) hX hR id (postA X A N Q) fun g' st' a' w' hr hK => ⟨g', st', hr, hK⟩
  | seq x y ihx ihy =>
    intro Q g st a w hok h hR
    simp only [codeOK, Bool.and_eq_true] at hok
    refine wp_seq (wp_mono (ihx _ g st a w hok.1 h hR) fun e a' w' hq => ?_)
    cases e with
    | normal =>
      obtain ⟨g', st', hr, hk⟩ := hq
      exact ihy Q g' st' a' w' hok.2 hk hr
    | exit id => exact hq
    | ret => exact hq
    | goto l => exact hq.elim
    | panic ch => exact hq.elim
    | outgrown => exact hq.elim
  | cond c x y ihx ihy =>
    intro Q g st a w hok h hR
    simp only [codeOK, Bool.and_eq_true] at hok
    simp only [wpA, condA] at h
    split at h
    · rename_i b hb
      have hc := hR.ev c
      rw [hb] at hc
      simp only [VR] at hc
      exact wp_cond_split hc (fun ht => ihx Q g st a w hok.1 (h.1 ht) hR) (fun ht => ihy Q g st a w hok.2 (h.2 ht) hR)
    · cases h
  | block id c ih =>
    intro Q g st a w hok h hR
    refine wp_block (wp_mono (ih _ g st a w hok h hR) fun e a' w' hq => ?_)
    cases e with
    | normal => exact hq
    | exit i =>
      obtain ⟨g', st', hr, hk⟩ := hq
      simp only [blockA] at hk
      simp only [Exit.inBlock]
      split at hk
      · rename_i hi; simp only [hi, if_true]; exact ⟨g', st', hr, hk⟩
      · rename_i hi; simp only [hi, if_false]; exact ⟨g', st', hr, hk⟩
    | ret => exact hq
    | goto l => exact hq.elim
    | panic ch => exact hq.elim
    | outgrown => exact hq.elim
  | loop c ih =>
    intro Q g st a w hok h hR
    obtain ⟨α, I, Inv, μ, x0, h0, hi, hround⟩ := h
    obtain ⟨g0, hR0⟩ := hi A N g a w hA hR
    refine wp_loop_ghost (fun n a w => ∃ x g, Inv x ∧ μ x = n ∧ R X.C A N g (I x) a w) (μ x0) ⟨x0, g0, h0, rfl, hR0⟩ fun n a w ⟨x, g, hx, hn, hr⟩ => ?_
    refine wp_mono (ih _ g (I x) a w hok (hround x hx) hr) fun e a' w' hq => ?_
    cases e with
    | normal =>
      obtain ⟨g', st', hr', x', hx', hlt, him⟩ := hq
      obtain ⟨g'', hr''⟩ := him A N g' a' w' hA hr'
      exact ⟨μ x', by omega, x', g'', hx', rfl, hr''⟩
    | exit id => exact hq
    | ret => exact hq
    | goto l => exact hq.elim
    | panic ch => exact hq.elim
    | outgrown => exact hq.elim
  | exit id => intro Q g st a w _ h hR; exact wp_exit ⟨g, st, hR, h⟩
  | ret => intro Q g st a w _ h hR; exact wp_ret ⟨g, st, hR, h⟩
  | scope c ih =>
    intro Q g st a w hok h hR
    refine wp_scope_straight (wp_mono (ih Q g st a w hok h hR) fun e a' w' hq => ?_)
    cases e <;> first | exact hq | exact hq.elim
  | label l => intro Q g st a w _ h hR; exact wp_label ⟨g, st, hR, h⟩
  | goto l => intro Q g st a w _ h; exact h.elim
  | rangeFunc => intro Q g st a w _ h; exact h.elim
  | refuse => intro Q g st a w _ h; exact h.elim
end
end Go.Abs
