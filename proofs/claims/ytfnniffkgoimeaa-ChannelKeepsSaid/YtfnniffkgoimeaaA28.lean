/- Regions that draw their order, order by order. -/
import Derived.Test.YtfnniffkgoimeaaA27
set_option linter.all false
namespace Go.Abs

inductive OT where
  | done
  | pick (l : List (Nat × OT))

mutual
def okT (ops : Array Oper) (dn : List Nat) : OT → Bool
  | .done => (List.range ops.size).all fun i => dn.contains i
  | .pick l => (List.range ops.size).any (fun i => !dn.contains i && (edgesOf ops i).all fun e => dn.contains e) && (List.range ops.size).all (fun i => dn.contains i || !((edgesOf ops i).all fun e => dn.contains e) || (keysT l).contains i) && okTs ops dn l
def okTs (ops : Array Oper) (dn : List Nat) : List (Nat × OT) → Bool
  | [] => true
  | (i, t) :: l => okT ops (i :: dn) t && okTs ops dn l
def keysT : List (Nat × OT) → List Nat
  | [] => []
  | (i, _) :: l => i :: keysT l
end

def opAt (ops : Array Oper) (i : Nat) : List Oper := match ops[i]? with
  | some o => [o]
  | none => []

mutual
def wpT (X : Env) (ops : Array Oper) (K : St → Prop) : OT → St → Prop
  | .done => K
  | .pick l => wpTs X ops K l
def wpTs (X : Env) (ops : Array Oper) (K : St → Prop) : List (Nat × OT) → St → Prop
  | [] => fun _ => True
  | (i, t) :: l => fun st => opsA X ops (opAt ops i) (wpT X ops K t) st ∧ wpTs X ops K l st
end

section
variable {X : Env} {A : A0} {N : Nat} {ops : Array Oper}

def RegN (N : Nat) (ops : Array Oper) : Prop := (∀ o ∈ ops, opOK N o = true) ∧ ∀ i, i < ops.size → ∀ e ∈ edgesOf ops i, e < ops.size
theorem edge_lt (h : RegN N ops) {i : Nat} (e : Nat) (he : e ∈ edgesOf ops i) (hi : i < ops.size) : e < ops.size := h.2 i hi e he
theorem op_sound (hA : A.ext = X.ext) (hX : ∀ s ∈ X.ext, s % 64 = 63) {Q : Exit → Act → World → Prop} {K : St → Prop} {K' : Act → World → Prop} {i : Nat} {o : Oper} (ho : ops[i]? = some o) (hk : ∀ g' st' a' w', R X.C A N g' st' a' w' → K st' → K' a' w')
    {g : Gh} {st : St} {a : Act} {w : World} (hd : opOK N o = true) (h : operA X ops o K st) (hR : R X.C A N g st a w) : wpOp X.C.P ops Q i K' a w := by
  unfold wpOp
  simp only [ho]
  unfold operA at h
  split at h
  · rename_i hg
    have : Region.wanted o (yielded ops a.tmps) = true := by simp [Region.wanted, hg]
    simp only [this, if_true]
    exact .inl (doA_sound hA hX hd h hR hk)
  · rename_i j b hg
    split at h
    · rename_i b' hb
      have hy := guard_spec hR hb
      by_cases he : b' = b
      · have : Region.wanted o (yielded ops a.tmps) = true := by simp [Region.wanted, hg, hy, he]
        simp only [this, if_true]
        have h1 := h.1 he
        subst he
        rw [learn_same hb] at h1
        exact .inl (doA_sound hA hX hd h1 hR hk)
      · have : Region.wanted o (yielded ops a.tmps) = false := by simp [Region.wanted, hg, hy, he]
        simp only [this, Bool.false_eq_true, if_false]
        have hd' : ∀ k, o.dst = some k → k < N := fun k hk => by simp [opOK, hk] at hd; exact hd
        have h1 := h.2 he
        have hbb : (!b) = b' := by cases b <;> cases b' <;> first | rfl | exact absurd rfl he
        rw [hbb, learn_same hb] at h1
        exact hk g _ _ w (hR.put hd' (by simp [VR])) h1
    · cases h

mutual
theorem allT_sound (hA : A.ext = X.ext) (hX : ∀ s ∈ X.ext, s % 64 = 63) (hN : RegN N ops) {Q : Exit → Act → World → Prop} {K : St → Prop} (hQ : ∀ g st a w, R X.C A N g st a w → K st → Q .normal a w) :
    ∀ (t : OT) (fuel : Nat) (dn : List Nat) (listed : Array Bool) (g : Gh) (st : St) (a : Act) (w : World), listed.size = ops.size → unl listed ≤ fuel → (∀ j, j < ops.size → dOf listed j = dn.contains j) → okT ops dn t = true → wpT X ops K t st → R X.C A N g st a w →
      wpAny X.C.P .any ops Q fuel listed a w
  | .done, fuel, dn, listed, g, st, a, w, hs, hu, hd, hok, h, hR => by
    simp only [okT, List.all_eq_true, List.mem_range] at hok
    have h0 : Region.ready .any ops listed = [] := by
      cases hrd : Region.ready .any ops listed with
      | nil => rfl
      | cons j l =>
        have hj : j ∈ Region.ready .any ops listed := by rw [hrd]; simp
        have := (ready_iff hs).1 hj
        rw [hd j this.1, hok j this.1] at this
        simp at this
    simp only [wpT] at h
    cases fuel with
    | zero => exact ⟨h0, hQ g st a w hR h⟩
    | succ fuel => exact ⟨fun _ => hQ g st a w hR h, fun j hj => by rw [h0] at hj; cases hj⟩
  | .pick l, fuel, dn, listed, g, st, a, w, hs, hu, hd, hok, h, hR => by
    simp only [okT, Bool.and_eq_true, List.all_eq_true, List.any_eq_true, List.mem_range] at hok
    obtain ⟨⟨⟨i, hi, hi1, hi2⟩, hok1⟩, hok2⟩ := hok
    simp only [wpT] at h
    have hmem : i ∈ Region.ready .any ops listed := (ready_iff hs).2 ⟨hi, by rw [hd i hi]; simpa using hi1, fun e he => by
      have h4 := hi2 e he
      have hlt := edge_lt hN e he hi
      rw [hd e hlt]; exact h4⟩
    have hkey : ∀ j ∈ Region.ready .any ops listed, j ∈ keysT l := fun j hj => by
      obtain ⟨h1, h2, h3⟩ := (ready_iff hs).1 hj
      have := hok1 j h1
      rw [hd j h1] at h2
      rw [h2] at this
      have he : (edgesOf ops j).all (fun e => dn.contains e) = true := List.all_eq_true.2 fun e he => by
        have h4 := h3 e he
        have hlt := edge_lt hN e he h1
        rw [hd e hlt] at h4; exact h4
      rw [he] at this
      simpa using this
    cases fuel with
    | zero =>
      obtain ⟨h1, h2, _⟩ := (ready_iff hs).1 hmem
      rw [unl_zero (by omega) (by omega : i < listed.size)] at h2
      cases h2
    | succ fuel =>
      refine ⟨fun h0 => (by rw [h0] at hmem; cases hmem), fun j hj => ?_⟩
      obtain ⟨h1, h2, _⟩ := (ready_iff hs).1 hj
      exact allTs_sound hA hX hN hQ l fuel dn listed g st a w hs (by have := unl_set (by omega : j < listed.size) h2; omega) hd hok2 h hR j h1 h2 (hkey j hj)
theorem allTs_sound (hA : A.ext = X.ext) (hX : ∀ s ∈ X.ext, s % 64 = 63) (hN : RegN N ops) {Q : Exit → Act → World → Prop} {K : St → Prop} (hQ : ∀ g st a w, R X.C A N g st a w → K st → Q .normal a w) :
    ∀ (l : List (Nat × OT)) (fuel : Nat) (dn : List Nat) (listed : Array Bool) (g : Gh) (st : St) (a : Act) (w : World), listed.size = ops.size → unl listed ≤ fuel + 1 → (∀ j, j < ops.size → dOf listed j = dn.contains j) → okTs ops dn l = true → wpTs X ops K l st → R X.C A N g st a w →
      ∀ j, j < ops.size → dOf listed j = false → j ∈ keysT l → wpOp X.C.P ops Q j (wpAny X.C.P .any ops Q fuel (listed.setIfInBounds j true)) a w
  | [], _, _, _, _, _, _, _, _, _, _, _, _, _, j, _, _, hm => by simp [keysT] at hm
  | (i, t) :: l, fuel, dn, listed, g, st, a, w, hs, hu, hd, hok, h, hR, j, hj, hnd, hm => by
    simp only [okTs, Bool.and_eq_true] at hok
    simp only [wpTs] at h
    by_cases hij : j = i
    · subst hij
      have ho : ops[j]? = some ops[j] := Array.getElem?_eq_getElem hj
      have h1 := h.1
      simp only [opAt, ho, opsA] at h1
      refine op_sound hA hX ho (fun g' st' a' w' hR' hK' => ?_) (hN.1 _ (Array.getElem_mem hj)) h1 hR
      refine allT_sound hA hX hN hQ t fuel (j :: dn) _ g' st' a' w' (by simp [hs]) (by have := unl_set (by omega : j < listed.size) hnd; omega) (fun q hq => ?_) hok.1 hK' hR'
      rw [dOf_set (by omega)]
      simp only [addD, List.contains_cons]
      by_cases hqj : q = j
      · subst hqj; simp
      · simp [hqj, hd q hq]
    · refine allTs_sound hA hX hN hQ l fuel dn listed g st a w hs hu hd hok.2 h.2 hR j hj hnd ?_
      simp only [keysT, List.mem_cons] at hm
      rcases hm with hm | hm
      · exact absurd hm hij
      · exact hm
end
end

def edgesOK (ops : Array Oper) : Bool := (List.range ops.size).all fun i => (edgesOf ops i).all fun e => decide (e < ops.size)

/-- the rule: all orders, one by one -/
theorem draw_all {X : Env} {ops : Array Oper} {K : St → Prop} {st : St} (t : OT) (hm : X.C.P.follows .mixedOrders = true) (hok : (edgesOK ops && okT ops [] t) = true)
    (h : wpT X ops K t st) : drawA X ops K st := by
  intro A N g a w hA hN hX hR id Q hQ
  simp only [Bool.and_eq_true] at hok
  refine wp_region_any hm ?_
  refine allT_sound hA hX (N := N) (K := K) ⟨fun o ho => ?_, fun i hi e he => ?_⟩ hQ t ops.size [] (Array.replicate ops.size false) g st a _ (by simp) (by simp [unl]) (fun j hj => by simp [dOf, Array.getD, hj]) hok.2 h hR.drew
  · unfold opOK
    cases hd : o.dst with
    | none => rfl
    | some d => simp; exact hN o ho d hd
  · have := hok.1
    simp only [edgesOK, List.all_eq_true, List.mem_range, decide_eq_true_eq] at this
    exact this i hi e he
@[go_sem] theorem wpT_done (X : Env) (ops : Array Oper) (K : St → Prop) (st : St) : wpT X ops K .done st = K st := by simp only [wpT]
@[go_sem] theorem wpT_one (X : Env) (ops : Array Oper) (K : St → Prop) (i : Nat) (t : OT) (st : St) : wpT X ops K (.pick [(i, t)]) st = opsA X ops (opAt ops i) (wpT X ops K t) st := by simp only [wpT, wpTs, and_true]
@[go_sem] theorem wpT_two (X : Env) (ops : Array Oper) (K : St → Prop) (i j : Nat) (t t' : OT) (l : List (Nat × OT)) (st : St) : wpT X ops K (.pick ((i, t) :: (j, t') :: l)) st = (opsA X ops (opAt ops i) (wpT X ops K t) st ∧ wpT X ops K (.pick ((j, t') :: l)) st) := by simp only [wpT, wpTs]
attribute [go_sem] opAt
end Go.Abs
