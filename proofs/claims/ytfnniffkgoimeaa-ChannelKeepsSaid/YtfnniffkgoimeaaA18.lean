/- Weaker knowledge; from a function's body to the function. -/
import Derived.Test.YtfnniffkgoimeaaA17
set_option linter.all false
namespace Go.Abs

def WeakV (x y : AV) : Prop := ∀ g w u, VR g w x u → VR g w y u
def WeakL (xs ys : List AV) : Prop := ∀ g w us, VRs g w xs us → VRs g w ys us

section
variable {g : Gh} {w : World}
theorem WeakV.rfl {x : AV} : WeakV x x := fun _ _ _ h => h
theorem WeakV.eq {x y : AV} (h : x = y) : WeakV x y := h ▸ .rfl
theorem WeakV.undef {x : AV} : WeakV x .undef := fun _ _ _ _ => by simp [VR]
theorem WeakV.nilOwn {r lo n : Nat} (hn : 0 < n) : WeakV (.v (.slice none 0 0)) (.sl (.own r lo) n []) := fun _ _ u h => by
  simp only [VR, OwnSl] at h ⊢
  exact ⟨hn, .inl ⟨h, by trivial⟩⟩
theorem WeakV.nilNo {n : Nat} (hn : 0 < n) : WeakV (.v (.slice none 0 0)) (.sl .no n []) := fun _ _ u h => by
  simp only [VR, PR] at h ⊢
  exact ⟨(fun _ _ h => by cases h), none, 0, h, by simp, by simp [maxLen], (by intro h; cases h), hn, .inl True.intro⟩
theorem WeakV.full {n : Nat} {es : List (List AV)} : WeakV (.sl .full n es) (.sl .no n es) := fun _ _ u h => by
  simp only [VR, PR] at h ⊢
  obtain ⟨_, a, cap, h1, h2, h3, h4, h5, h6⟩ := h
  exact ⟨(fun _ _ h => by cases h), a, cap, h1, h2, h3, (by intro h; cases h), h5, h6⟩
theorem WeakL.nil : WeakL [] [] := fun _ _ _ h => h
theorem WeakL.cons {x y : AV} {xs ys : List AV} (h : WeakV x y) (hs : WeakL xs ys) : WeakL (x :: xs) (y :: ys) := fun g w us hu => by
  match us, hu with
  | u :: us, hu =>
    simp only [VRs] at hu ⊢
    exact ⟨h g w u hu.1, hs g w us hu.2⟩
  | [], hu => simp [VRs] at hu
theorem WeakV.agg {xs ys : List AV} (h : WeakL xs ys) : WeakV (.agg xs) (.agg ys) := fun g w u hu => by
  simp only [VR] at hu ⊢
  obtain ⟨us, h1, h2⟩ := hu
  exact ⟨us, h1, h g w _ h2⟩
theorem WeakV.tup {xs ys : List AV} (h : WeakL xs ys) : WeakV (.tup xs) (.tup ys) := fun g w u hu => by
  simp only [VR] at hu ⊢
  obtain ⟨us, h1, h2⟩ := hu
  exact ⟨us, h1, h g w _ h2⟩
theorem WeakL.rfl {xs : List AV} : WeakL xs xs := fun _ _ _ h => h
end

def WeakArgs : List AV → List AV → Prop
  | [], [] => True
  | x :: xs, y :: ys => WeakV x y ∧ WeakArgs xs ys
  | _, _ => False
theorem WeakArgs.weakL : ∀ {xs ys : List AV}, WeakArgs xs ys → WeakL xs ys
  | [], [], _ => .nil
  | [], _ :: _, h => h.elim
  | _ :: _, [], h => h.elim
  | _ :: _, _ :: _, h => .cons h.1 h.2.weakL
theorem WeakArgs.self : ∀ xs : List AV, WeakArgs xs xs
  | [] => trivial
  | _ :: xs => ⟨.rfl, WeakArgs.self xs⟩
def WeakT (st : St) : List (Nat × AV) → Prop
  | [] => True
  | (k, y) :: l => (∃ x, lk k st.tmps = some x ∧ WeakV x y) ∧ WeakT st l
def WeakO (st : St) : List (Nat × List AV) → Prop
  | [] => True
  | (k, y) :: l => (∃ x, lk k st.objs = some x ∧ WeakArgs x y) ∧ WeakO st l
def renT (ρ : Rn) : List (Nat × AV) → List (Nat × AV)
  | [] => []
  | (k, x) :: l => (k, x.ren ρ) :: renT ρ l
def renSt (ρ : Rn) (st : St) : St := ⟨renT ρ st.tmps, renO ρ st.objs⟩

section
variable {X : Env} {C : Ctx} {A : A0} {N : Nat} {g g' : Gh} {st st' : St} {a : Act} {w w' : World}

theorem WeakT.lk : ∀ {l : List (Nat × AV)} {k : Nat} {y : AV}, WeakT st l → lk k l = some y → ∃ x, lk k st.tmps = some x ∧ WeakV x y
  | (j, c) :: l, k, y, hf, h => by
    simp only [Abs.lk] at h
    split at h
    · rename_i hj; injection h with h; subst h; subst hj; exact hf.1
    · exact WeakT.lk hf.2 h
theorem WeakO.lk : ∀ {l : List (Nat × List AV)} {k : Nat} {y : List AV}, WeakO st l → lk k l = some y → ∃ x, lk k st.objs = some x ∧ WeakArgs x y
  | (j, c) :: l, k, y, hf, h => by
    simp only [Abs.lk] at h
    split at h
    · rename_i hj; injection h with h; subst h; subst hj; exact hf.1
    · exact WeakO.lk hf.2 h
theorem lk_renT (ρ : Rn) (k : Nat) : ∀ l : List (Nat × AV), lk k (renT ρ l) = (lk k l).map (·.ren ρ)
  | [] => rfl
  | (j, x) :: l => by
    simp only [renT, lk]
    split
    · rfl
    · exact lk_renT ρ k l

theorem R.weak (h : R C A N g st a w) (ht : WeakT st st'.tmps) (ho : WeakO st st'.objs) : R C A N g st' a w where
  size := h.size
  defs := h.defs
  tm := fun k x hx => by
    obtain ⟨y, hy, hw⟩ := ht.lk hx
    obtain ⟨u, hu, hv⟩ := h.tm k y hy
    exact ⟨u, hu, hw _ _ _ hv⟩
  ob := fun s cs hs => by
    obtain ⟨y, hy, hw⟩ := ho.lk hs
    obtain ⟨h1, cur, T, h2, h3⟩ := h.ob s y hy
    exact ⟨h1, cur, T, h2, hw.weakL _ _ _ h3⟩
  fr := h.fr

theorem Fr.ren {ρ : Rn} (hρ : ρ.OK) (hext : ∀ s, s ∈ A.ext → lk s ρ.m = some s) (h : Fr C A g w) : Fr C A (g.ren ρ g) w where
  os := h.os
  tape := h.tape
  output := h.output
  size := h.size
  keep := fun b hb hf => by
    have := h.keep b hb hf
    refine ⟨this.1, ?_⟩
    rcases hf with hf | hf
    · rw [hf]; exact ren_ro (this.2.trans hf)
    · rw [hf]; exact ren_other (this.2.trans hf)
  box := fun s hs => by rw [← h.box s hs]; exact renBox hρ (hext s hs)
  glob := fun i cs hi => by
    obtain ⟨h1, h2, h3⟩ := h.glob i cs hi
    exact ⟨h1, ren_ro h2, PRc.mono roRen _ ⟨i, 0, none⟩ 0 h2 h3⟩

theorem R.renamed {ρ : Rn} (hρ : ρ.OK) (hext : ∀ s, s ∈ A.ext → lk s ρ.m = some s) (h : R C A N g st a w) : R C A N (g.ren ρ g) (renSt ρ st) a w where
  size := h.size
  defs := h.defs
  tm := fun k x hx => by
    simp only [renSt, lk_renT] at hx
    obtain ⟨y, hy, rfl⟩ := Option.map_eq_some_iff.1 hx
    obtain ⟨u, hu, hv⟩ := h.tm k y hy
    exact ⟨u, hu, VR.ren hρ _ _ hv⟩
  ob := fun s cs hs => by
    obtain ⟨s0, cs0, h1, h2, rfl⟩ := lk_renO hρ hs
    exact ObjAt.ren hρ h1 (h.ob s0 cs0 h2)
  fr := h.fr.ren hρ hext

theorem Imp.weak (ht : WeakT st st'.tmps) (ho : WeakO st st'.objs) : Imp X st st' := fun _ _ _ _ _ _ h => ⟨_, h.weak ht ho⟩
theorem Imp.ren (ρ : Rn) (hρ : ρ.OK) (hext : ∀ s, s ∈ X.ext → lk s ρ.m = some s) (ht : WeakT (renSt ρ st) st'.tmps) (ho : WeakO (renSt ρ st) st'.objs) : Imp X st st' :=
  fun _ _ _ _ _ hA h => ⟨_, (h.renamed hρ (fun s hs => hext s (hA ▸ hs))).weak ht ho⟩

def argT : Nat → List AV → List (Nat × AV)
  | _, [] => []
  | i, x :: xs => (i, x) :: argT (i + 1) xs

theorem lk_argT {k : Nat} {x : AV} : ∀ {xs : List AV} {i : Nat}, lk k (argT i xs) = some x → i ≤ k ∧ xs[k - i]? = some x
  | [], _, h => by cases h
  | y :: xs, i, h => by
    simp only [argT, lk] at h
    split at h
    · rename_i hi; subst hi; exact ⟨Nat.le_refl _, by simpa using h⟩
    · rename_i hi
      obtain ⟨h1, h2⟩ := lk_argT h
      refine ⟨by omega, ?_⟩
      have : k - i = (k - (i + 1)) + 1 := by omega
      rw [this]; simpa using h2

def resV (C : Ctx) (st : St) : ResultVar → Option AV
  | .tmp t => lk t st.tmps
  | .cell a t => match aggOf C.P t, szOf C.P t, lk a st.tmps with
    | some agg, some n, some p => loadA agg n st.objs p
    | _, _, _ => none
def resVs (C : Ctx) (st : St) : List ResultVar → Option (List AV)
  | [] => some []
  | r :: rs => match resV C st r, resVs C st rs with
    | some x, some xs => some (x :: xs)
    | _, _ => none
def pack : List AV → AV
  | [x] => x
  | xs => .tup xs

theorem getD_of {α : Type} {a : Array α} {i : Nat} {x d : α} (h : a[i]? = some x) : a.getD i d = x := by simp [Array.getD_eq_getD_getElem?, h]

def resF (tmps : Array Value) : ResultVar → Sem Value
  | .tmp t => pure (tmps.getD t undef)
  | .cell p t => do loadVar t (← asAddr (tmps.getD p undef))
theorem results_eq (fn : Func) (tmps : Array Value) : results fn tmps = (do
    let vs ← fn.results.mapM (resF tmps)
    pure (if h : vs.size = 1 then vs[0] else .tuple vs)) := by
  unfold results
  congr 1

theorem resV_sound (hR : R C A N g st a w) {r : ResultVar} {x : AV} (h : resV C st r = some x) : ∃ u, (resF a.tmps r).run C.P w = .ok u w ∧ VR g w x u := by
  cases r with
  | tmp t =>
    obtain ⟨u, hu, hv⟩ := hR.tm t x h
    exact ⟨u, by simp only [resF, getD_of hu, Sem.run_pure], hv⟩
  | cell p t =>
    simp only [resV] at h
    split at h
    · rename_i agg n q h1 h2 hp
      obtain ⟨up, hu, hv⟩ := hR.tm p q hp
      obtain ⟨u, k1, k2⟩ := load_sound hR h1 h2 hv h
      refine ⟨u, ?_, k2⟩
      simp only [resF, getD_of hu]
      have hp : ∃ ad, up = .pointer (some ad) := by
        unfold loadA at h
        split at h
        · simp only [VR] at hv; exact ⟨_, hv⟩
        · simp only [VR] at hv
          unfold EpAt at hv
          split at hv
          · obtain ⟨_, _, hx, _⟩ := hv; exact ⟨_, hx⟩
          · obtain ⟨_, hx, _⟩ := hv; exact ⟨_, hx⟩
        · simp only [VR] at hv
          obtain ⟨_, _, _, _, _, _, hx, _⟩ := hv; exact ⟨_, hx⟩
        · simp only [VR] at hv
          obtain ⟨_, _, _, _, _, _, hx, _⟩ := hv; exact ⟨_, hx⟩
        · cases h
      obtain ⟨ad, rfl⟩ := hp
      simpa [Instr.loadAt, Instr.sureAddr, asAddr] using k1
    · cases h

theorem resVs_sound (hR : R C A N g st a w) : ∀ {rs : List ResultVar} {xs : List AV}, resVs C st rs = some xs → ∃ us, (rs.mapM (resF a.tmps)).run C.P w = .ok us w ∧ VRs g w xs us
  | [], xs, h => by simp [resVs] at h; subst h; exact ⟨[], by simp, by simp [VRs]⟩
  | r :: rs, xs, h => by
    simp only [resVs] at h
    split at h
    · rename_i y ys h1 h2
      simp at h; subst h
      obtain ⟨u, k1, k2⟩ := resV_sound hR h1
      obtain ⟨us, m1, m2⟩ := resVs_sound hR h2
      refine ⟨u :: us, ?_, by simp only [VRs]; exact ⟨k2, m2⟩⟩
      rw [List.mapM_cons]
      simp only [Sem.run_bind, k1, m1, Result.andThen_ok, Sem.run_pure]
    · cases h

theorem results_sound (hR : R C A N g st a w) {fn : Func} {xs : List AV} (h : resVs C st fn.results.toList = some xs) : ∃ u, (results fn a.tmps).run C.P w = .ok u w ∧ VR g w (pack xs) u := by
  obtain ⟨us, k1, k2⟩ := resVs_sound hR h
  have hl := VRs.length k2
  rw [results_eq, Array.mapM_eq_mapM_toList]
  simp only [Sem.run_bind, Sem.run_map, k1, Result.andThen_ok, Sem.run_pure]
  match xs, us, k2 with
  | [x], [u], k2 =>
    simp only [VRs] at k2
    exact ⟨u, by simp, by simpa [pack] using k2.1⟩
  | [], [], k2 => exact ⟨_, rfl, by simp only [pack, VR]; exact ⟨_, rfl, k2⟩⟩
  | x :: y :: xs, u :: v :: us, k2 => exact ⟨_, by simp; rfl, by simp only [pack, VR]; exact ⟨_, rfl, k2⟩⟩
  | [], _ :: _, k2 => simp [VRs] at k2
  | _ :: _, [], k2 => simp [VRs] at k2
  | [_], _ :: _ :: _, k2 => simp [VRs] at k2
  | _ :: _ :: _, [_], k2 => simp [VRs] at k2

/-- what must hold where the function is left -/
def retA (X : Env) (rs : List ResultVar) (y : AV) (o' : List (Nat × List AV)) : Ex → St → Prop
  | .exit _ => fun _ => False
  | _ => fun st => ∃ xs ρ, resVs X.C st rs = some xs ∧ ρ.OK ∧ (∀ s ∈ X.ext, lk s ρ.m = some s) ∧ WeakV ((pack xs).ren ρ) y ∧ WeakO (renSt ρ st) o'

theorem FnOK.mk' (ds : List Nat) {f : Nat} {fn : Func} {c : Code} {xs : List AV} {o o' : List (Nat × List AV)} {y : AV} (hf : C.P.funcs[f]? = some fn) (hname : (fn.name == "runtime.NumGoroutine") = false) (hb : fn.body = some c)
    (hok : codeOK fn.ntmps c = true) (hargs : xs.length ≤ fn.ntmps) (hext : ∀ s ∈ names o, s % 64 = 63) (h : wpA ⟨C, names o, ds⟩ c (retA ⟨C, names o, ds⟩ fn.results.toList y o') ⟨argT 0 xs, o⟩) : FnOK C f xs o y o' := by
  refine ⟨⟨fn, c, hf, hname, hb⟩, fun g w us hg hv ho => calls_of_wp hf hb ?_⟩
  have hl := VRs.length hv
  have hR : R C ⟨w, g, names o⟩ fn.ntmps g ⟨argT 0 xs, o⟩ { tmps := us.toArray ++ Array.replicate (fn.ntmps - us.toArray.size) undef, defers := [] } w := by
    refine ⟨by simp; omega, rfl, fun k x hx => ?_, ho, ⟨rfl, rfl, rfl, Nat.le_refl _, fun _ _ _ => ⟨rfl, rfl⟩, fun _ _ => rfl, hg⟩⟩
    obtain ⟨_, h2⟩ := lk_argT hx
    obtain ⟨u, hu, hv'⟩ := hv.get k x (by simpa using h2)
    refine ⟨u, ?_, hv'⟩
    have hk : k < us.length := by
      rcases Nat.lt_or_ge k us.length with h | h
      · exact h
      · rw [List.getElem?_eq_none h] at hu; cases hu
    rw [Array.getElem?_append_left (by simpa using hk)]
    simpa using hu
  have fin : ∀ a' w', (∃ g st, R C ⟨w, g, names o⟩ fn.ntmps g st a' w' ∧ True) → True := fun _ _ _ => trivial
  have key : ∀ (g' : Gh) (st' : St) (a' : Act) (w' : World), R C ⟨w, g, names o⟩ fn.ntmps g' st' a' w' →
      (∃ xs' ρ, resVs C st' fn.results.toList = some xs' ∧ ρ.OK ∧ (∀ s ∈ names o, lk s ρ.m = some s) ∧ WeakV ((pack xs').ren ρ) y ∧ WeakO (renSt ρ st') o') →
      a'.defers = [] ∧ ∃ v, (results fn a'.tmps).run C.P w' = .ok v w' ∧ (∃ u g2, Ending.returned v = .returned u ∧ Fr C ⟨w, g, names o⟩ g2 w' ∧ VR g2 w' y u ∧ ∀ s cs, lk s o' = some cs → ObjAt g2 w' s cs) := by
    intro g' st' a' w' hr ⟨xs', ρ, h1, h2, h3, h4, h5⟩
    obtain ⟨u, k1, k2⟩ := results_sound hr h1
    have hr2 := hr.renamed h2 h3
    refine ⟨hr.defs, u, k1, u, g'.ren ρ g', rfl, hr2.fr, h4 _ _ _ (VR.ren h2 _ _ k2), fun s cs hs => ?_⟩
    obtain ⟨z, hz, hw⟩ := h5.lk hs
    obtain ⟨m1, cur, T, m2, m3⟩ := hr2.ob s z hz
    exact ⟨m1, cur, T, m2, hw.weakL _ _ _ m3⟩
  refine wp_mono (wpA_sound (X := ⟨C, names o, ds⟩) (A := ⟨w, g, names o⟩) rfl hext c _ g _ _ w hok h hR) fun e a' w' hq => ?_
  cases e with
  | normal => obtain ⟨g', st', hr, hk⟩ := hq; exact key g' st' a' w' hr hk
  | ret => obtain ⟨g', st', hr, hk⟩ := hq; exact key g' st' a' w' hr hk
  | exit id => obtain ⟨g', st', hr, hk⟩ := hq; exact hk.elim
  | goto l => exact hq.elim
  | panic ch => exact hq.elim
  | outgrown => exact hq.elim
theorem FnOK.intro {f : Nat} {fn : Func} {c : Code} {xs : List AV} {o o' : List (Nat × List AV)} {y : AV} (hf : C.P.funcs[f]? = some fn) (hname : (fn.name == "runtime.NumGoroutine") = false) (hb : fn.body = some c)
    (hok : codeOK fn.ntmps c = true) (hargs : xs.length ≤ fn.ntmps) (hext : ∀ s ∈ names o, s % 64 = 63) (h : wpA ⟨C, names o, []⟩ c (retA ⟨C, names o, []⟩ fn.results.toList y o') ⟨argT 0 xs, o⟩) : FnOK C f xs o y o' := FnOK.mk' [] hf hname hb hok hargs hext h
end
end Go.Abs
