/- Rules for calls, loops and returns, as the proofs use them. -/
import Derived.Test.YtfnniffkgoimeaaA19
set_option linter.all false
namespace Go.Abs

def HasL (v : Way) (st : St) : List (Nat × List AV) → Prop
  | [] => True
  | (s, cs) :: l => lk s (renO v.ρ st.objs) = some cs ∧ HasL v st l
theorem HasL.has {v : Way} {st : St} : ∀ {ob : List (Nat × List AV)}, HasL v st ob → Has v st ob
  | (s, c) :: l, h, s', cs, hs => by
    simp only [lk] at hs
    split at hs
    · rename_i he; injection hs with hs; subst hs; subst he; exact h.1
    · exact HasL.has h.2 s' cs hs

def wayOK (v : Way) (ob : List (Nat × List AV)) : Bool :=
  okRen v.ρ.l && okRen v.ρ.m && okRen v.back.l && okRen v.back.m && (rngs v.ρ.m).all (fun s => (names ob).contains s) && (rngs v.fm).all (fun s => s % 64 != 63)

theorem wayOK.ok {v : Way} {ob : List (Nat × List AV)} (h : wayOK v ob = true) : v.OK ob ∧ (rngs v.fm).all (fun s => s % 64 != 63) = true := by
  simp only [wayOK, Bool.and_eq_true] at h
  obtain ⟨⟨⟨⟨⟨h1, h2⟩, h3⟩, h4⟩, h5⟩, h6⟩ := h
  refine ⟨⟨⟨h1, h2⟩, ⟨h3, h4⟩, fun s hs => ?_⟩, h6⟩
  have := List.all_eq_true.1 h5 s hs
  simpa using this

section
variable {X : Env} {d : Option Nat} {fid : Nat} {xs xs' : List AV} {K : St → Prop} {st : St} {y y' : AV} {ob ob' : List (Nat × List AV)}

theorem FnOK.weak {C : Ctx} {f : Nat} {xs ys : List AV} {o o' : List (Nat × List AV)} {y : AV} (h : FnOK C f ys o y o') (hw : WeakL xs ys) : FnOK C f xs o y o' :=
  ⟨h.1, fun g w us hg hv ho => h.2 g w us hg (hw g w us hv) ho⟩
/-- the same function, its result (and boxes) under other names, or read-only -/
theorem FnOK.ren {C : Ctx} {f : Nat} {xs : List AV} {o o' : List (Nat × List AV)} {y : AV} (h : FnOK C f xs o y o') (ρ : Rn) (hρ : ρ.OK) (hext : ∀ s, s ∈ names o → lk s ρ.m = some s) : FnOK C f xs o (y.ren ρ) (renO ρ o') :=
  ⟨h.1, fun g w us hg hv ho => Calls.mono (h.2 g w us hg hv ho) fun e w' ⟨u, g', he, hfr, hy, ho'⟩ => ⟨u, g'.ren ρ g', he, hfr.ren hρ hext, VR.ren hρ _ _ hy, fun s cs hs => by
    obtain ⟨s0, cs0, h1, h2, rfl⟩ := lk_renO hρ hs
    exact ObjAt.ren hρ h1 (ho' s0 cs0 h2)⟩⟩
def WeakArgs : List AV → List AV → Prop
  | [], [] => True
  | x :: xs, y :: ys => WeakV x y ∧ WeakArgs xs ys
  | _, _ => False
theorem WeakArgs.weakL : ∀ {xs ys : List AV}, WeakArgs xs ys → WeakL xs ys
  | [], [], _ => .nil
  | [], _ :: _, h => h.elim
  | _ :: _, [], h => h.elim
  | _ :: _, _ :: _, h => .cons h.1 h.2.weakL

theorem callB_mk (v : Way) (hok : FnOK X.C fid xs' ob y ob') (hx : WeakArgs (renL v.ρ xs) xs') (hv : wayOK v ob = true) (hh : HasL v st ob) (hfl : v.ρ.bs = [] ∨ (Flat (y.ren v.back) ∧ FlatO (renO v.back ob')))
    (hk : K ((st.app (rngs v.back.l) (rngs v.fm) (rngs v.back.m) (renO v.back ob')).put d (y.ren v.back))) : callB X d fid xs K st := by
  exact ⟨v, ob, y, ob', (wayOK.ok hv).1, (wayOK.ok hv).2, hok.weak hx.weakL, hh.has, hfl, hk⟩

theorem dropO_nil : ∀ l : List (Nat × List AV), dropO [] l = l
  | [] => rfl
  | (k, x) :: l => by simp [dropO, dropO_nil l]
theorem app_nil : st.app [] [] [] [] = st := by simp [St.app, dropO_nil, killT_nil, killO_nil]

/-- a call that is handed values and hands back a value -/
theorem call_pure (hok : FnOK X.C fid xs' [] y []) (hx : WeakArgs (renL ⟨[], [], []⟩ xs) xs') (hy : y.ren ⟨[], [], []⟩ = y') (hk : K (st.put d y')) : callB X d fid xs K st := by
  refine callB_mk ⟨⟨[], [], []⟩, [], []⟩ hok hx rfl trivial (.inl rfl) ?_
  show K ((st.app [] [] [] []).put d (y.ren ⟨[], [], []⟩))
  rw [app_nil, hy]
  exact hk
/-- a call that is lent rows -/
theorem call_lent (bs : List Nat) (hok : FnOK X.C fid xs' [] y []) (hx : WeakArgs (renL ⟨[], [], bs⟩ xs) xs') (hy : y.ren ⟨[], [], []⟩ = y') (hf : Flat y') (hk : K (st.put d y')) : callB X d fid xs K st := by
  refine callB_mk ⟨⟨[], [], bs⟩, [], []⟩ hok hx rfl trivial (.inr ?_) ?_
  · show Flat (y.ren ⟨[], [], []⟩) ∧ True
    rw [hy]; exact ⟨hf, trivial⟩
  · show K ((st.app [] [] [] []).put d (y.ren ⟨[], [], []⟩))
    rw [app_nil, hy]
    exact hk

theorem loop_intro {body : (Ex → St → Prop) → St → Prop} {Q : Ex → St → Prop} {α : Type} (I : α → St) (Inv : α → Prop) (μ : α → Nat) (x0 : α) (h0 : Inv x0) (hi : Imp X st (I x0))
    (hr : ∀ x, Inv x → ∀ J : St → Prop, (∀ st' x', Inv x' → μ x' < μ x → Imp X st' (I x') → J st') → body (thenA J Q) (I x)) : loopA X body Q st :=
  ⟨α, I, Inv, μ, x0, h0, hi, fun x hx => hr x hx _ fun _ x' h1 h2 h3 => ⟨x', h1, h2, h3⟩⟩
end
@[go_sem] theorem exists_some {α : Type} (a : α) (p : α → Prop) : (∃ x, some a = some x ∧ p x) = p a := by simp
@[go_sem] theorem weakV_self (x : AV) : WeakV x x = True := eq_true .rfl
@[go_sem] theorem weakL_self (x : List AV) : WeakL x x = True := eq_true .rfl
@[go_sem] theorem weakV_undef (x : AV) : WeakV x .undef = True := eq_true .undef
@[go_sem] theorem weakV_nilOwn (r lo n : Nat) : WeakV (.v (.slice none 0 0)) (.sl (.own r lo) (n + 1) []) = True := eq_true (.nilOwn (by omega))
@[go_sem] theorem weakV_nilNo (n : Nat) : WeakV (.v (.slice none 0 0)) (.sl .no (n + 1) []) = True := eq_true (.nilNo (by omega))
@[go_sem] theorem weakV_full (n : Nat) (es : List (List AV)) : WeakV (.sl .full n es) (.sl .no n es) = True := eq_true .full
theorem WeakV.nilDsl {r i j off m : Nat} (hm : 0 < m) : WeakV (.v (.slice none 0 0)) (.hnd .dsl r i j off m []) := fun _ _ u h => by
  simp only [VR] at h ⊢
  exact ⟨hm, .inl ⟨h, Eq.refl _⟩⟩
@[go_sem] theorem weakV_nilDsl (r i j off m : Nat) : WeakV (.v (.slice none 0 0)) (.hnd .dsl r i j off (m + 1) []) = True := eq_true (.nilDsl (by omega))
theorem WeakV.int {k : IntKind} {a b : Int} (h : a = b) : WeakV (.v (.int k a)) (.v (.int k b)) := .eq (by rw [h])
theorem WeakV.sl {t : Tag} {n : Nat} {a b : List (List AV)} (h : a = b) : WeakV (.sl t n a) (.sl t n b) := .eq (by rw [h])
theorem ret_mk {X : Env} {rs : List ResultVar} {y : AV} {o' : List (Nat × List AV)} {st : St} (ρ : Rn) (xs : List AV) (h1 : resVs X.C st rs = some xs) (h2 : ρ.OK) (h3 : ∀ s ∈ X.ext, lk s ρ.m = some s) (h4 : WeakV ((pack xs).ren ρ) y) (h5 : WeakO (renSt ρ st) o') : retA X rs y o' .ret st :=
  ⟨xs, ρ, h1, h2, h3, h4, h5⟩
attribute [go_sem] WeakArgs St.app dropO dropO_nil killT_nil killO_nil
end Go.Abs
