/- Rules for calls, loops and returns, as the proofs use them. -/
import Derived.Test.YtfnniffkgoimeaaA19
set_option linter.all false
namespace Go.Abs

def HasL (v : Way) (st : St) : List (Nat × List AV) → Prop
  | [] => True
  | (s, cs) :: l => lk s (renO v.ρ st.objs) = some cs ∧ HasL v st l
theorem HasL.has {v : Way} {st : St} : ∀ {ob : List (Nat × List AV)}, HasL v st ob → Has v st ob
  | (s, c) :: l, h, s', cs, hs => by
    simp only [lk] at hs
    split at hs
    · rename_i he; injection hs with hs; subst hs; subst he; exact h.1
    · exact HasL.has h.2 s' cs hs

def wayOK (v : Way) (ob : List (Nat × List AV)) : Bool :=
  okRen v.ρ.l && okRen v.ρ.m && okRen v.back.l && okRen v.back.m && (rngs v.ρ.m).all (fun s => (names ob).contains s) && (rngs v.fm).all (fun s => s % 64 != 63)

theorem wayOK.ok {v : Way} {ob : List (Nat × List AV)} (h : wayOK v ob = true) : v.OK ob ∧ (rngs v.fm).all (fun s => s % 64 != 63) = true := by
  simp only [wayOK, Bool.and_eq_true] at h
  obtain ⟨⟨⟨⟨⟨h1, h2⟩, h3⟩, h4⟩, h5⟩, h6⟩ := h
  refine ⟨⟨⟨h1, h2⟩, ⟨h3, h4⟩, fun s hs => ?_⟩, h6⟩
  have := List.all_eq_true.1 h5 s hs
  simpa using this

section
variable {X : Env} {d : Option Nat} {fid : Nat} {xs xs' : List AV} {K : St → Prop} {st : St} {y y' : AV} {ob ob' : List (Nat × List AV)}

theorem FnOK.weak {C : Ctx} {f : Nat} {xs ys : List AV} {o o' : List (Nat × List AV)} {y : AV} (h : FnOK C f ys o y o') (hw : WeakL xs ys) : FnOK C f xs o y o' :=
  ⟨h.1, fun g w us hg hv ho => h.2 g w us hg (hw g w us hv) ho⟩
/-- the same function, its result (and boxes) under other names, or read-only -/
theorem FnOK.ren {C : Ctx} {f : Nat} {xs : List AV} {o o' : List (Nat × List AV)} {y : AV} (h : FnOK C f xs o y o') (ρ : Rn) (hρ : ρ.OK) (hext : ∀ s, s ∈ names o → lk s ρ.m = some s) : FnOK C f xs o (y.ren ρ) (renO ρ o') :=
  ⟨h.1, fun g w us hg hv ho => Calls.mono (h.2 g w us hg hv ho) fun e w' ⟨u, g', he, hfr, hy, ho'⟩ => ⟨u, g'.ren ρ g', he, hfr.ren hρ hext, VR.ren hρ _ _ hy, fun s cs hs => by
    obtain ⟨s0, cs0, h1, h2, rfl⟩ := lk_renO hρ hs
    exact ObjAt.ren hρ h1 (ho' s0 cs0 h2)⟩⟩
def HasW (v : Way) (st : St) : List (Nat × List AV) → Prop
  | [] => True
  | (s, cs) :: l => (∃ x, lk s (renO v.ρ st.objs) = some x ∧ WeakArgs x cs) ∧ HasW v st l
def WeakOs : List (Nat × List AV) → List (Nat × List AV) → Prop
  | [], [] => True
  | (s, x) :: l, (s', y) :: l' => s = s' ∧ WeakL x y ∧ WeakOs l l'
  | _, _ => False
theorem HasW.split {v : Way} {st : St} : ∀ {ob : List (Nat × List AV)}, HasW v st ob → ∃ o2, names o2 = names ob ∧ HasL v st o2 ∧ WeakOs o2 ob
  | [], _ => ⟨[], rfl, trivial, trivial⟩
  | (s, cs) :: l, ⟨⟨x, h1, h2⟩, h3⟩ => by
    obtain ⟨o2, a, b, c⟩ := HasW.split h3
    exact ⟨(s, x) :: o2, by simp only [names, List.map_cons] at a ⊢; rw [a], ⟨h1, b⟩, rfl, h2.weakL, c⟩
theorem WeakOs.get : ∀ {o2 ob : List (Nat × List AV)}, WeakOs o2 ob → ∀ s cs, lk s ob = some cs → ∃ x, lk s o2 = some x ∧ WeakL x cs
  | [], [], _, s, cs, h => by cases h
  | (k, x) :: o2, (k', y) :: ob, ⟨e, hw, hr⟩, s, cs, h => by
    subst e
    simp only [lk] at h ⊢
    split at h
    · rename_i he
      injection h with h; subst h
      exact ⟨x, by simp [he], hw⟩
    · rename_i he
      obtain ⟨x', h1, h2⟩ := WeakOs.get hr s cs h
      exact ⟨x', by simp [he, h1], h2⟩
  | [], _ :: _, h, _, _, _ => h.elim
  | _ :: _, [], h, _, _, _ => h.elim
theorem FnOK.weakO {C : Ctx} {f : Nat} {xs : List AV} {o o2 o' : List (Nat × List AV)} {y : AV} (h : FnOK C f xs o y o') (hn : names o2 = names o) (hw : WeakOs o2 o) : FnOK C f xs o2 y o' :=
  ⟨h.1, fun g w us hg hv ho => by
    have := h.2 g w us hg hv fun s cs hs => by
      obtain ⟨x, h1, h2⟩ := hw.get s cs hs
      obtain ⟨q1, cur, T, q2, q3⟩ := ho s x h1
      exact ⟨q1, cur, T, q2, h2 g w _ q3⟩
    rw [hn]; exact this⟩
mutual
theorem freeze_nil : ∀ x : AV, x.freeze [] = x
  | .undef => rfl
  | .v x => rfl
  | .agg cs => by simp only [AV.freeze, freezeL_nil cs]
  | .tup cs => by simp only [AV.freeze, freezeL_nil cs]
  | .sl (.own r lo) n es => by simp [AV.freeze]
  | .sl .no n es => rfl
  | .sl .full n es => rfl
  | .ptr s off => rfl
  | .ep (.own r lo) i cells off => by simp [AV.freeze]
  | .ep .no i cells off => rfl
  | .ep .full i cells off => rfl
  | .fn f caps => by simp only [AV.freeze, freezeL_nil caps]
  | .ifc t x => by simp only [AV.freeze, freeze_nil x]
  | .hnd k r i j off m bss => by simp [AV.freeze]
theorem freezeL_nil : ∀ xs : List AV, freezeL [] xs = xs
  | [] => rfl
  | x :: xs => by simp only [freezeL, freeze_nil x, freezeL_nil xs]
end
theorem St.freeze_nil (st : St) : st.freeze [] = st := by
  simp [St.freeze, Abs.freeze_nil, Abs.freezeL_nil]
theorem callB_mk (v : Way) (hok : FnOK X.C fid xs' ob y ob') (hx : WeakArgs (renL v.ρ xs) xs') (hv : wayOK v ob = true) (hh : HasW v st ob) (hfl : v.ρ.bs = [] ∨ (Flat (y.ren v.back) ∧ FlatO (renO v.back ob')))
    (hk : K ((st.app (rngs v.back.l) (rngs v.fm) (rngs v.back.m) (renO v.back ob')).put d (y.ren v.back))) : callB X d fid xs K st := by
  obtain ⟨o2, a, b, c⟩ := hh.split
  have hv' : wayOK v o2 = true := by unfold wayOK at hv ⊢; rw [a]; exact hv
  refine ⟨[], v, o2, y, ob', (wayOK.ok hv').1, (wayOK.ok hv').2, ?_, ?_, hfl, ?_⟩
  · rw [freezeL_nil]; exact (hok.weak hx.weakL).weakO a c
  · rw [St.freeze_nil]; exact b.has
  · rw [St.freeze_nil]; exact hk
/-- a call before which the rows fz are made read-only -/
theorem callB_fz (fz : List Nat) (v : Way) (hok : FnOK X.C fid xs' ob y ob') (hx : WeakArgs (renL v.ρ (freezeL fz xs)) xs') (hv : wayOK v ob = true) (hh : HasW v (st.freeze fz) ob) (hfl : v.ρ.bs = [] ∨ (Flat (y.ren v.back) ∧ FlatO (renO v.back ob')))
    (hk : K (((st.freeze fz).app (rngs v.back.l) (rngs v.fm) (rngs v.back.m) (renO v.back ob')).put d (y.ren v.back))) : callB X d fid xs K st := by
  obtain ⟨o2, a, b, c⟩ := hh.split
  have hv' : wayOK v o2 = true := by unfold wayOK at hv ⊢; rw [a]; exact hv
  exact ⟨fz, v, o2, y, ob', (wayOK.ok hv').1, (wayOK.ok hv').2, (hok.weak hx.weakL).weakO a c, b.has, hfl, hk⟩

theorem dropO_nil : ∀ l : List (Nat × List AV), dropO [] l = l
  | [] => rfl
  | (k, x) :: l => by simp [dropO, dropO_nil l]
theorem app_nil : st.app [] [] [] [] = st := by simp [St.app, dropO_nil, killT_nil, killO_nil]

/-- a call that is handed values and hands back a value -/
theorem call_pure (hok : FnOK X.C fid xs' [] y []) (hx : WeakArgs (renL ⟨[], [], []⟩ xs) xs') (hy : y.ren ⟨[], [], []⟩ = y') (hk : K (st.put d y')) : callB X d fid xs K st := by
  refine callB_mk ⟨⟨[], [], []⟩, [], []⟩ hok hx rfl trivial (.inl rfl) ?_
  show K ((st.app [] [] [] []).put d (y.ren ⟨[], [], []⟩))
  rw [app_nil, hy]
  exact hk
/-- a call that is handed rows for good -/
theorem call_frz (fz : List Nat) (hok : FnOK X.C fid xs' [] y []) (hx : WeakArgs (renL ⟨[], [], []⟩ (freezeL fz xs)) xs') (hy : y.ren ⟨[], [], []⟩ = y') (hk : K ((st.freeze fz).put d y')) : callB X d fid xs K st := by
  refine callB_fz fz ⟨⟨[], [], []⟩, [], []⟩ hok hx rfl trivial (.inl rfl) ?_
  show K (((st.freeze fz).app [] [] [] []).put d (y.ren ⟨[], [], []⟩))
  rw [app_nil, hy]
  exact hk
/-- a call that is lent rows -/
theorem call_lent (bs : List Nat) (hok : FnOK X.C fid xs' [] y []) (hx : WeakArgs (renL ⟨[], [], bs⟩ xs) xs') (hy : y.ren ⟨[], [], []⟩ = y') (hf : Flat y') (hk : K (st.put d y')) : callB X d fid xs K st := by
  refine callB_mk ⟨⟨[], [], bs⟩, [], []⟩ hok hx rfl trivial (.inr ?_) ?_
  · show Flat (y.ren ⟨[], [], []⟩) ∧ True
    rw [hy]; exact ⟨hf, trivial⟩
  · show K ((st.app [] [] [] []).put d (y.ren ⟨[], [], []⟩))
    rw [app_nil, hy]
    exact hk

theorem loop_intro {body : (Ex → St → Prop) → St → Prop} {Q : Ex → St → Prop} {α : Type} (I : α → St) (Inv : α → Prop) (μ : α → Nat) (x0 : α) (h0 : Inv x0) (hi : Imp X st (I x0))
    (hr : ∀ x, Inv x → ∀ J : St → Prop, (∀ st' x', Inv x' → μ x' < μ x → Imp X st' (I x') → J st') → body (thenA J Q) (I x)) : loopA X body Q st :=
  ⟨α, I, Inv, μ, x0, h0, hi, fun x hx => hr x hx _ fun _ x' h1 h2 h3 => ⟨x', h1, h2, h3⟩⟩
end
@[go_sem] theorem exists_some {α : Type} (a : α) (p : α → Prop) : (∃ x, some a = some x ∧ p x) = p a := by simp
@[go_sem] theorem weakV_self (x : AV) : WeakV x x = True := eq_true .rfl
@[go_sem] theorem weakL_self (x : List AV) : WeakL x x = True := eq_true .rfl
@[go_sem] theorem weakV_undef (x : AV) : WeakV x .undef = True := eq_true .undef
@[go_sem] theorem weakV_nilOwn (r lo n : Nat) : WeakV (.v (.slice none 0 0)) (.sl (.own r lo) (n + 1) []) = True := eq_true (.nilOwn (by omega))
@[go_sem] theorem weakV_nilNo (n : Nat) : WeakV (.v (.slice none 0 0)) (.sl .no (n + 1) []) = True := eq_true (.nilNo (by omega))
@[go_sem] theorem weakV_full (n : Nat) (es : List (List AV)) : WeakV (.sl .full n es) (.sl .no n es) = True := eq_true .full
theorem WeakV.nilDsl {r i j off m : Nat} (hm : 0 < m) : WeakV (.v (.slice none 0 0)) (.hnd .dsl r i j off m []) := fun _ _ u h => by
  simp only [VR] at h ⊢
  exact ⟨hm, .inl ⟨h, Eq.refl _⟩⟩
@[go_sem] theorem weakV_nilDsl (r i j off m : Nat) : WeakV (.v (.slice none 0 0)) (.hnd .dsl r i j off (m + 1) []) = True := eq_true (.nilDsl (by omega))
theorem WeakV.int {k : IntKind} {a b : Int} (h : a = b) : WeakV (.v (.int k a)) (.v (.int k b)) := .eq (by rw [h])
theorem WeakV.sl {t : Tag} {n : Nat} {a b : List (List AV)} (h : a = b) : WeakV (.sl t n a) (.sl t n b) := .eq (by rw [h])
theorem ret_mk {X : Env} {rs : List ResultVar} {y : AV} {o' : List (Nat × List AV)} {st : St} (ρ : Rn) (xs : List AV) (h1 : resVs X.C st rs = some xs) (h2 : ρ.OK) (h3 : ∀ s ∈ X.ext, lk s ρ.m = some s) (h4 : WeakV ((pack xs).ren ρ) y) (h5 : WeakO (renSt ρ st) o') : retA X rs y o' .ret st :=
  ⟨xs, ρ, h1, h2, h3, h4, h5⟩
@[go_sem high] theorem weakArgs_self (xs : List AV) : WeakArgs xs xs = True := eq_true (.self xs)
@[go_sem] theorem weakArgs_cons (x y : AV) (xs ys : List AV) : WeakArgs (x :: xs) (y :: ys) = (WeakV x y ∧ WeakArgs xs ys) := rfl
attribute [go_sem] HasW St.app dropO dropO_nil killT_nil killO_nil
end Go.Abs
