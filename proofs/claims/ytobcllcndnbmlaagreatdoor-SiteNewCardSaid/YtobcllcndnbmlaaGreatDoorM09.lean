/- part 9 of the proof -/
import Derived.Test.YtobcllcndnbmlaaGreatDoorM04
import Derived.Test.YtobcllcndnbmlaaGreatDoorM05
import Derived.Test.YtobcllcndnbmlaaGreatDoorM08
set_option linter.all false
namespace Go.H
open Go.Abs (lk Does does_pure szOf aggOf zeroOf Ex methOf codeOK opOK gdst)
def postH (C : HC) (B : Base) (N : Nat) (g : Gh) (e : Ex) (h : HS) : Exit → Act → World → Prop
  | .normal, a, w => e = .normal ∧ ∃ g', Ext g g' ∧ R C B N g' h a w
  | .exit id, a, w => e = .exit id ∧ ∃ g', Ext g g' ∧ R C B N g' h a w
  | .ret, a, w => e = .ret ∧ ∃ g', Ext g g' ∧ R C B N g' h a w
  | _, _, _ => False
theorem postH.mono {C : HC} {B : Base} {N : Nat} {g g' : Gh} {e : Ex} {h : HS} (he : Ext g g') {x : Exit} {a : Act} {w : World} (hp : postH C B N g' e h x a w) : postH C B N g e h x a w := by
  cases x <;> simp only [postH] at hp ⊢
  all_goals (obtain ⟨h1, g2, h2, h3⟩ := hp; exact ⟨h1, g2, he.trans h2, h3⟩)
structure MH where
  s : Nat
  q : Nat
  n : Nat
  es : List HV
  seen : List Nat
  t : Nat
  d : Nat
  os : List Oper
def mapHead (ops : Array Oper) (h : HS) : Option MH := match ops.toList with
  | o :: os => match o.op, o.dst, o.guard with
    | .next (.tmp t) false, some d, none => match lk t h.tmps with
      | some (.it s) => match lk s h.objs with
        | some (.iter (some q) since last seen) => match lk q h.objs with
          | some (.map es) => if since == es.length / 2 && (last == es.length / 2 && (Nat.blt h.n h.m && !(Nat.beq t d))) then match leftH (es.length / 2) seen with
            | _ :: _ :: _ => some ⟨s, q, es.length / 2, es, seen, t, d, os⟩
            | _ => none else none
          | _ => none
        | _ => none
      | _ => none
    | _, _, _ => none
  | _ => none
theorem mapHead_spec {ops : Array Oper} {h : HS} {M : MH} (hm : mapHead ops h = some M) : ∃ o, ops.toList = o :: M.os ∧ o.op = .next (.tmp M.t) false ∧ o.dst = some M.d ∧ o.guard = none ∧ lk M.t h.tmps = some (.it M.s) ∧ lk M.s h.objs = some (.iter (some M.q) M.n M.n M.seen) ∧ lk M.q h.objs = some (.map M.es) ∧ M.n = M.es.length / 2 ∧ h.n < h.m ∧ M.t ≠ M.d := by
  unfold mapHead at hm
  split at hm
  · rename_i o os ho
    split at hm
    · rename_i t d h1 h2 h3
      split at hm
      · rename_i s hs
        split at hm
        · rename_i q since last seen h4
          split at hm
          · rename_i es h5
            split at hm
            · rename_i hc
              simp only [Bool.and_eq_true, beq_iff_eq, Bool.not_eq_true', Nat.blt_eq] at hc
              obtain ⟨rfl, rfl, c3, c4⟩ := hc
              split at hm
              · cases hm
                exact ⟨o, ho, h1, h2, h3, hs, h4, h5, rfl, c3, fun e => by dsimp only at e; subst e; simp at c4⟩
              · cases hm
            · cases hm
          · cases hm
        · cases hm
      · cases hm
    · cases hm
  · cases hm
def subT (d : Nat) (ts ts' : List (Nat × HV)) : List (Nat × HV) → Bool
  | [] => true
  | (t, _) :: l => (Nat.beq t d || match lk t ts, lk t ts' with | some x, some y => sameV x y | _, _ => false) && subT d ts ts' l
def subB (d : Nat) (ts ts' : List (Nat × HO)) : List (Nat × HO) → Bool
  | [] => true
  | (t, _) :: l => (Nat.beq t d || match lk t ts, lk t ts' with | some x, some y => sameO x y | _, _ => false) && subB d ts ts' l
theorem subT_spec {d : Nat} {ts ts' : List (Nat × HV)} : ∀ {l : List (Nat × HV)}, subT d ts ts' l = true → ∀ t x, lk t l = some x → t ≠ d → lk t ts' = lk t ts
  | [], _, t, x, h, _ => by simp [lk] at h
  | (k, y) :: l, h, t, x, ht, hd => by
    simp only [subT, Bool.and_eq_true, Bool.or_eq_true, Nat.beq_eq] at h
    simp only [lk] at ht
    split at ht
    · rename_i e
      subst e
      rcases h.1 with h1 | h1
      · exact absurd h1 hd
      · split at h1
        · rename_i a b e1 e2; rw [e1, e2, sameV_eq _ _ h1]
        · cases h1
    · exact subT_spec h.2 t x ht hd
theorem subB_spec {d : Nat} {ts ts' : List (Nat × HO)} : ∀ {l : List (Nat × HO)}, subB d ts ts' l = true → ∀ t x, lk t l = some x → t ≠ d → lk t ts' = lk t ts
  | [], _, t, x, h, _ => by simp [lk] at h
  | (k, y) :: l, h, t, x, ht, hd => by
    simp only [subB, Bool.and_eq_true, Bool.or_eq_true, Nat.beq_eq] at h
    simp only [lk] at ht
    split at ht
    · rename_i e
      subst e
      rcases h.1 with h1 | h1
      · exact absurd h1 hd
      · split at h1
        · rename_i a b e1 e2; rw [e1, e2, sameO_eq h1]
        · cases h1
    · exact subB_spec h.2 t x ht hd
def roundS (M : MH) (h : HS) (i : Nat) (k v : HV) : HS := ⟨(M.t, .it h.n) :: (M.d, .tup [.v (.bool true), k, v]) :: h.tmps, (h.n, .seen M.q M.n i) :: delO M.s h.objs, h.n + 1, h.m⟩
def backOK (M : MH) (h h' : HS) (i : Nat) : Bool := (match lk M.t h'.tmps with
    | some (.it s') => Nat.beq s' h.n
    | _ => false) && ((match lk h.n h'.objs with
    | some o => sameO o (.seen M.q M.n i)
    | _ => false) && (subT M.t h.tmps h'.tmps h.tmps && subB M.s h.objs h'.objs h.objs))
def roundOK (run : List Oper → HS → Option (Ex × HS)) (M : MH) (h : HS) (i : Nat) : Bool := match M.es[2 * i]?, M.es[2 * i + 1]? with
  | some k, some v => match run M.os (roundS M h i k v) with
    | some (.normal, h') => backOK M h h' i
    | _ => false
  | _, _ => false
def endS (M : MH) (h : HS) : HS := ⟨(M.d, .tup [.v (.bool false)]) :: h.tmps, delO M.s h.objs, h.n, h.m⟩
def mapAlt (run : List Oper → HS → Option (Ex × HS)) (ops : Array Oper) (h : HS) : Option (Option (Ex × HS)) := match mapHead ops h with
  | none => none
  | some M => some (if (leftH M.n M.seen).all (roundOK run M h) then match run M.os (endS M h) with
    | some (.normal, _) => none
    | r => r else none)
def maskL : List Nat → Nat
  | [] => 0
  | x :: l => (1 <<< x) ||| maskL l
theorem testBit_one {q : Nat} (h : Nat.testBit 1 q = true) : q = 0 := by
  cases q with
  | zero => rfl
  | succ q => simp [Nat.testBit_succ] at h
theorem maskL_spec (j : Nat) : ∀ l : List Nat, Nat.testBit (maskL l) j = true ↔ j ∈ l
  | [] => by simp [maskL]
  | x :: l => by
    simp only [maskL, Nat.testBit_or, Bool.or_eq_true, maskL_spec j l, List.mem_cons, Nat.testBit_shiftLeft, Bool.and_eq_true, decide_eq_true_eq]
    refine or_congr_left (Iff.intro (fun h => ?_) fun h => ?_)
    · have := testBit_one h.2; omega
    · subst h; simp
theorem left_less {n i : Nat} {S S' : List Nat} (hi : i ∈ leftH n S) (hS : ∀ j, j ∈ S' ↔ j ∈ S ++ [i]) : (leftH n S').length < (leftH n S).length ∧ ∀ j, j ∈ leftH n S' → j ∈ leftH n S := by
  have e : leftH n S' = (leftH n S).filter fun j => !(j == i) := by
    unfold leftH
    rw [List.filter_filter]
    apply List.filter_congr
    intro j _
    have := hS j
    simp only [List.mem_append, List.mem_singleton] at this
    by_cases h1 : j ∈ S' <;> by_cases h2 : j ∈ S <;> by_cases h3 : j = i <;> simp_all
  rw [e]
  refine ⟨?_, fun j hj => (List.mem_filter.1 hj).1⟩
  apply List.length_filter_lt_length_iff_exists.2
  exact ⟨i, hi, by simp⟩
section
variable {C : HC} {B : Base} {N : Nat} {g g' : Gh} {h h' : HS} {a : Act} {w w' : World}
theorem mapAlt_sound {e : Ex} {run : List Oper → HS → Option (Ex × HS)} {ops : Array Oper} {id : Nat} {rest : Code} (hok : ∀ o ∈ ops.toList, opOK N o = true)
    (hrun : ∀ (os : List Oper) (g : Gh) (h : HS) (a : Act) (w : World) (e : Ex) (h' : HS) (Q : Exit → Act → World → Prop), (∀ o ∈ os, opOK N o = true) → run os h = some (e, h') → R C B N g h a w → (∀ x a w, postH C B N g e h' x a w → Q x a w) → wpList C.P ops (Exit.then (rest.wp C.P Q) Q) os a w)
    (hr : mapAlt run ops h = some (some (e, h'))) (hR : R C B N g h a w) : (Code.loop (.seq (.region id ops false) rest)).wp C.P (postH C B N g e h') a w := by
  unfold mapAlt at hr
  split at hr
  · cases hr
  rename_i M hM
  simp only [Option.some.injEq] at hr
  split at hr
  case isFalse => cases hr
  rename_i hall
  have hend : run M.os (endS M h) = some (e, h') ∧ e ≠ .normal := by
    split at hr
    · cases hr
    · rename_i r hne
      refine ⟨hr, fun he => ?_⟩
      subst he
      exact hne h' hr
  obtain ⟨hend, hen⟩ := hend
  obtain ⟨o, ho, hop, hod, hog, ht, hs, hq, hn, hnm, htd⟩ := mapHead_spec hM
  have hoks : ∀ o' ∈ M.os, opOK N o' = true := fun o' ho' => hok o' (by rw [ho]; simp [ho'])
  have hdN : ∀ k, o.dst = some k → k < N := fun k hk => by have := hok o (by rw [ho]; simp); simpa [opOK, hk] using this
  have hsq : M.s ≠ M.q := fun e => by rw [e, hq] at hs; cases hs
  refine wp_loop_ghost (fun k a w => ∃ S, R C B N g { h with objs := updO M.s (.iter (some M.q) M.n M.n S) h.objs } a w ∧ (leftH M.n S).length = k ∧ ∀ i, i ∈ leftH M.n S → i ∈ leftH M.n M.seen) _ ⟨M.seen, hR.less rfl rfl (fun t x hx => hx) fun t x hx => ?_, rfl, fun i hi => hi⟩ fun k a w ⟨S, hRS, hk, hsub⟩ => ?_
  · rw [lk_updO] at hx
    split at hx
    · rename_i e; rw [hs] at hx; subst e; rw [← hx]; exact hs
    · exact hx
  have hs' : lk M.s (updO M.s (.iter (some M.q) M.n M.n S) h.objs) = some (.iter (some M.q) M.n M.n S) := by rw [lk_updO, if_pos rfl, hs]; rfl
  have hq' : lk M.q (updO M.s (.iter (some M.q) M.n M.n S) h.objs) = some (.map M.es) := by rw [lk_updO, if_neg (fun e => hsq e.symm)]; exact hq
  refine wp_seq (wp_region_list ?_)
  rw [ho]
  unfold wpList
  have hw : Region.wanted o (yielded ops a.tmps) = true := by simp [Region.wanted, hog]
  simp only [hw, if_true]
  refine .inl ?_
  have hx := hRS.ev (.tmp M.t)
  have hev : ev { h with objs := updO M.s (.iter (some M.q) M.n M.n S) h.objs } (.tmp M.t) = .it M.s := by simp [ev, ht]
  rw [hev] at hx
  have hexec : execOp a.eval o = (do Pure.pure (Next.value (← Instr.next (a.eval (.tmp M.t)) false o.type))) := by unfold execOp; rw [hop]
  rcases next_any hRS (ty := o.type) hs' hq' hn hx with ⟨_, hrunN⟩ | ⟨i, w1, kk, vv, u, hi, hkk, hvv, hrunN, hu, hR1⟩
  · refine (does_pure hexec hrunN).wp ?_
    have hR2 : R C B N g (endS M h) (a.put o.dst (.tuple #[.bool false])) w := by
      have h1 := (hRS.less (k := ⟨h.tmps, delO M.s h.objs, h.n, h.m⟩) rfl rfl (fun t x hx => hx) (fun t x hx => by
        rw [lk_delO] at hx
        split at hx
        · cases hx
        · rename_i e; rw [lk_updO, if_neg e]; exact hx)).put (d := o.dst) (x := .tup [.v (.bool false)]) (u := .tuple #[.bool false]) hdN (by simp [VR, VRs])
      rw [hod] at h1 ⊢
      exact h1
    refine hrun M.os g _ _ _ e h' _ hoks hend hR2 fun x a w hp => ?_
    cases x with
    | normal => exact absurd hp.1 hen
    | exit id => exact hp
    | ret => exact hp
    | goto l => exact hp.elim
    | panic ch => exact hp.elim
    | outgrown => exact hp.elim
  · refine (does_pure hexec hrunN).wp ?_
    have hrd := List.all_eq_true.1 hall i (hsub i hi)
    unfold roundOK at hrd
    rw [hkk, hvv] at hrd
    dsimp only at hrd
    split at hrd
    case h_2 => cases hrd
    rename_i h2 hrun2
    unfold backOK at hrd
    simp only [Bool.and_eq_true] at hrd
    obtain ⟨b1, b2, b3, b4⟩ := hrd
    have hs1 : lk M.s (updO M.s (.iter (some M.q) M.n M.n (S ++ [i])) (updO M.s (.iter (some M.q) M.n M.n S) h.objs)) = some (.iter (some M.q) M.n M.n (S ++ [i])) := by rw [lk_updO, if_pos rfl, hs']; rfl
    obtain ⟨G, hG, mr, sn, j1, j2, j3⟩ := hR1.ob M.s _ hs1
    obtain ⟨Gq, hGq, rfl⟩ := j3
    have hR1p := hR1.put (d := o.dst) hdN hu
    have hne : h.n ≠ M.q := fun e => by
      have := hRS.new.1 h.n (Nat.le_refl _) hnm
      rw [e, hGq] at this; cases this
    obtain ⟨hx1, hR2⟩ := hR1p.alias (s := M.s) (by cases o.dst <;> exact hnm) (by cases o.dst <;> exact hs1) hG ⟨G.b, 0, maskL (S ++ [i])⟩ rfl (.seen M.q M.n i) ⟨_, Gh.new_self _ _ _, Gq, sn, by
      have hn1 : ∀ (x : HV), (HS.put o.dst x { h with objs := updO M.s (.iter (some M.q) M.n M.n (S ++ [i])) (updO M.s (.iter (some M.q) M.n M.n S) h.objs) }).n = h.n := fun x => by cases o.dst <;> rfl
      rw [hn1]
      simp [Gh.new, hne.symm, hGq], j1, by rw [j2]; simp, fun j => by rw [j2, maskL_spec]⟩
    generalize hg1 : Gh.new g (HS.put o.dst (.tup [.v (.bool true), kk, vv]) { h with objs := updO M.s (.iter (some M.q) M.n M.n (S ++ [i])) (updO M.s (.iter (some M.q) M.n M.n S) h.objs) }).n ⟨G.b, 0, maskL (S ++ [i])⟩ = g1 at hx1 hR2
    have hg1n : g1 h.n = some ⟨G.b, 0, maskL (S ++ [i])⟩ := by rw [← hg1, hod]; exact Gh.new_self _ _ _
    have hR3 : R C B N g1 (roundS M h i kk vv) (a.put o.dst u) w1 := by
      obtain ⟨ut, hut, hvt⟩ := hR1p.tm M.t (.it M.s) (by rw [hod]; simp [HS.put, lk, Ne.symm htd, ht])
      refine R.back hR2 hR2 .rfl (by rw [hod]; rfl) (by rw [hod]; rfl) (fun t x hx => ?_) (fun t x hx => ?_) fun t x hx => ?_
      · simp only [roundS, lk] at hx
        split at hx
        · rename_i e
          subst e
          simp only [Option.some.injEq] at hx
          subst hx
          refine ⟨ut, hut, ?_⟩
          simp only [VR] at hvt ⊢
          obtain ⟨G', q1, q2⟩ := hvt
          rw [hG] at q1; cases q1
          exact ⟨_, hg1n, q2⟩
        · exact hR2.tm t x (by rw [hod]; simpa [newO, HS.put, lk] using hx)
      · refine hR2.ob t x ?_
        rw [hod]
        simp only [roundS, newO, HS.put, lk] at hx ⊢
        split
        · rename_i e; rw [if_pos e] at hx; exact hx
        · rename_i e
          rw [if_neg e, lk_delO] at hx
          rw [lk_delO]
          split at hx
          · cases hx
          · rename_i e2; rw [if_neg e2, lk_updO, if_neg e2, lk_updO, if_neg e2]; exact hx
      · refine ⟨x, ?_⟩
        rw [hod]
        simp only [roundS, newO, HS.put, lk] at hx ⊢
        split
        · rename_i e; rw [if_pos e] at hx; exact hx
        · rename_i e
          rw [if_neg e, lk_delO] at hx
          rw [lk_delO]
          split at hx
          · cases hx
          · rename_i e2; rw [if_neg e2, lk_updO, if_neg e2, lk_updO, if_neg e2]; exact hx
    refine hrun M.os g1 _ _ _ .normal h2 _ hoks hrun2 hR3 fun x a' w' hp => ?_
    cases x with
    | normal =>
      obtain ⟨_, g2, hx2, hR4⟩ := hp
      have hx12 : Ext g g2 := hx1.trans hx2
      have hg2n := hx2 _ _ hg1n
      split at b2
      case h_2 => cases b2
      rename_i oo hoo
      have := sameO_eq b2
      subst this
      obtain ⟨G5, hG5, Gq', sn', hGq', k1, k2, k3⟩ := hR4.ob h.n _ hoo
      rw [hg2n] at hG5; cases hG5
      have := hx12 _ _ hGq
      rw [hGq'] at this; cases this
      have hmem : ∀ j, j ∈ sn'.toList ↔ j ∈ S ++ [i] := fun j => by rw [k3 j, maskL_spec]
      obtain ⟨l1, l2⟩ := left_less hi hmem
      refine ⟨_, hk ▸ l1, sn'.toList, ?_, rfl, fun j hj => hsub j (l2 j hj)⟩
      refine R.back hRS hR4 hx12 rfl rfl (fun t x hx => ?_) (fun t x hx => ?_) fun t x hx => ?_
      · obtain ⟨u0, q1, q2⟩ := hRS.tm t x hx
        by_cases htt : t = M.t
        · subst htt
          have hx' : lk M.t h.tmps = some x := hx
          rw [ht] at hx'
          cases hx'
          split at b1
          case h_2 => cases b1
          rename_i s' hs2
          simp only [Nat.beq_eq] at b1
          subst b1
          obtain ⟨u', p1, p2⟩ := hR4.tm _ _ hs2
          refine ⟨u', p1, ?_⟩
          simp only [VR] at p2 ⊢
          obtain ⟨G6, p3, p4⟩ := p2
          rw [hg2n] at p3; cases p3
          exact ⟨G, hG, p4⟩
        · have := subT_spec b3 t x hx htt
          obtain ⟨u', p1, p2⟩ := hR4.tm t x (by rw [this]; exact hx)
          exact ⟨u', p1, VR.back hx12 _ _ _ q2 p2⟩
      · by_cases hts : t = M.s
        · subst hts
          have hx' : lk M.s (updO M.s (.iter (some M.q) M.n M.n sn'.toList) h.objs) = some x := hx
          rw [lk_updO, if_pos rfl, hs] at hx'
          cases hx'
          exact ⟨G, hG, some Gq.b, sn', k1, rfl, Gq, hGq, rfl⟩
        · have hx' : lk t (updO M.s (.iter (some M.q) M.n M.n sn'.toList) h.objs) = some x := hx
          rw [lk_updO, if_neg hts] at hx'
          have := subB_spec b4 t x hx' hts
          refine (hRS.ob t x ?_).back hx12 (hR4.ob t x (by rw [this]; exact hx'))
          show lk t (updO M.s _ h.objs) = some x
          rw [lk_updO, if_neg hts]; exact hx'
      · have hx' : lk t (updO M.s (.iter (some M.q) M.n M.n sn'.toList) h.objs) = some x := hx
        rw [lk_updO] at hx'
        show ∃ o', lk t (updO M.s (.iter (some M.q) M.n M.n S) h.objs) = some o'
        rw [lk_updO]
        split
        · rw [hs]; exact ⟨_, rfl⟩
        · rename_i e; rw [if_neg e] at hx'; exact ⟨_, hx'⟩
    | exit id => exact absurd hp.1 (by simp)
    | ret => exact absurd hp.1 (by simp)
    | goto l => exact hp.elim
    | panic ch => exact hp.elim
    | outgrown => exact hp.elim
end
end Go.H
namespace Go.H
open Go.Abs (lk Does does_pure szOf aggOf zeroOf Ex codeOK opOK)
def guardH (all : Array Oper) (j : Nat) (h : HS) : Option HV := ((all[j]?).bind (·.dst)).bind (lk · h.tmps)
def runOps (step : Oper → HS → Option HS) (all : Array Oper) : List Oper → HS → Option HS
  | [], h => some h
  | o :: os, h => match o.guard with
    | none => match step o h with
      | some h' => runOps step all os h'
      | none => none
    | some (j, b) => match guardH all j h with
      | some (.v (.bool b')) => if b' == b then match step o h with
          | some h' => runOps step all os h'
          | none => none
        else runOps step all os (h.put o.dst (.tup []))
      | some (.tup []) => runOps step all os (h.put o.dst (.tup []))
      | _ => none
section
variable {C : HC} {B : Base} {N : Nat} {g g' : Gh} {h h' : HS} {a : Act} {w w' : World} {T : Tab}
theorem guard_spec {all : Array Oper} {j : Nat} {b : Bool} (hR : R C B N g h a w) (hg : guardH all j h = some (.v (.bool b))) : yielded all a.tmps j = some b := by
  unfold guardH at hg
  obtain ⟨d, h1, h2⟩ := Option.bind_eq_some_iff.1 hg
  obtain ⟨u, hu, hv⟩ := hR.tm d _ h2
  simp only [VR] at hv
  subst hv
  simp [yielded, h1, hu]
theorem guard_off {all : Array Oper} {j : Nat} (hR : R C B N g h a w) (hg : guardH all j h = some (.tup [])) : yielded all a.tmps j = none := by
  unfold guardH at hg
  obtain ⟨d, h1, h2⟩ := Option.bind_eq_some_iff.1 hg
  obtain ⟨u, hu, hv⟩ := hR.tm d _ h2
  simp only [VR] at hv
  obtain ⟨us, rfl, hv⟩ := hv
  simp [yielded, h1, hu]
theorem VR_off : VR g (.tup []) undef := by
  simp only [VR, undef]
  exact ⟨#[], rfl, by simp [VRs]⟩
theorem runOps_sound {step : Oper → HS → Option HS} (hs : ∀ o h h', step o h = some h' → OpS C o h h') {all : Array Oper} {Q : Exit → Act → World → Prop} :
    ∀ (l : List Oper) (g : Gh) (h : HS) (a : Act) (w : World), (∀ o ∈ l, opOK N o = true) → runOps step all l h = some h' → R C B N g h a w → (∀ g' a' w', Ext g g' → R C B N g' h' a' w' → Q .normal a' w') → wpList C.P all Q l a w
  | [], g, h, a, w, _, hr, hR, hk => by simp only [runOps, Option.some.injEq] at hr; subst hr; exact hk g a w .rfl hR
  | o :: l, g, h, a, w, hok, hr, hR, hk => by
    have hd := hok o (by simp)
    have hd' : ∀ k, o.dst = some k → k < N := fun k hk => by simp [opOK, hk] at hd; exact hd
    have hrest : ∀ h2, runOps step all l h2 = some h' → ∀ g2 a2 w2, Ext g g2 → R C B N g2 h2 a2 w2 → wpList C.P all Q l a2 w2 := fun h2 hr2 g2 a2 w2 he hR2 =>
      runOps_sound hs l g2 h2 a2 w2 (fun o' ho' => hok o' (by simp [ho'])) hr2 hR2 fun g3 a3 w3 he3 hR3 => hk g3 a3 w3 (he.trans he3) hR3
    simp only [runOps] at hr
    unfold wpList
    split at hr
    · rename_i hg
      have : Region.wanted o (yielded all a.tmps) = true := by simp [Region.wanted, hg]
      simp only [this, if_true]
      split at hr
      · rename_i h2 hst
        exact .inl (hs _ _ _ hst B N g a w _ _ hd' hR fun g2 a2 w2 he hR2 => hrest h2 hr g2 a2 w2 he hR2)
      · cases hr
    · rename_i j b hg
      split at hr
      · rename_i b' hb
        have hy := guard_spec hR hb
        by_cases he : b' = b
        · have : Region.wanted o (yielded all a.tmps) = true := by simp [Region.wanted, hg, hy, he]
          simp only [this, if_true]
          rw [if_pos (by simp [he])] at hr
          split at hr
          · rename_i h2 hst
            exact .inl (hs _ _ _ hst B N g a w _ _ hd' hR fun g2 a2 w2 he hR2 => hrest h2 hr g2 a2 w2 he hR2)
          · cases hr
        · have : Region.wanted o (yielded all a.tmps) = false := by simp [Region.wanted, hg, hy, he]
          simp only [this, Bool.false_eq_true, if_false]
          rw [if_neg (by simp [he])] at hr
          exact hrest _ hr g _ w .rfl (hR.put hd' VR_off)
      · rename_i hb
        have hy := guard_off hR hb
        have : Region.wanted o (yielded all a.tmps) = false := by simp [Region.wanted, hg, hy]
        simp only [this, Bool.false_eq_true, if_false]
        exact hrest _ hr g _ w .rfl (hR.put hd' VR_off)
      · cases hr
end
def loopH (body : HS → Option (Ex × HS)) : Nat → HS → Option (Ex × HS)
  | 0, _ => none
  | n + 1, h => match body h with
    | some (.normal, h') => loopH body n h'
    | r => r
def headOps : Code → Option (Nat × Array Oper)
  | .seq (.region id ops false) _ => some (id, ops)
  | _ => none
def runP (step : Oper → HS → Option HS) (draw : Array Oper → HS → Option HS) (tidy : Nat → HS → HS) (n : Nat) : Code → (HS → Option (Ex × HS)) × (HS → Option (Ex × HS))
  | .skip => (fun h => some (.normal, h), fun _ => none)
  | .region id ops false => (fun h => match runOps step ops ops.toList h with
    | some h' => some (.normal, tidy id h')
    | none => none, fun _ => none)
  | .region id ops true => (fun h => match draw ops h with
    | some h' => some (.normal, tidy id h')
    | none => none, fun _ => none)
  | .seq x y => (fun h => match (runP step draw tidy n x).1 h with
    | some (.normal, h') => (runP step draw tidy n y).1 h'
    | r => r, (runP step draw tidy n y).1)
  | .cond c x y => (fun h => match ev h c with
    | .v (.bool true) => (runP step draw tidy n x).1 h
    | .v (.bool false) => (runP step draw tidy n y).1 h
    | _ => none, fun _ => none)
  | .block id c => (fun h => match (runP step draw tidy n c).1 h with
    | some (.exit i, h') => if i == id then some (.normal, h') else some (.exit i, h')
    | r => r, fun _ => none)
  | .loop c => (fun h => match (match headOps c with
      | some (id, ops) => mapAlt (fun os h => match runOps step ops os h with
        | some h' => (runP step draw tidy n c).2 (tidy id h')
        | none => none) ops h
      | none => none) with
    | some r => r
    | none => loopH (runP step draw tidy n c).1 n h, fun _ => none)
  | .exit id => (fun h => some (.exit id, h), fun _ => none)
  | .ret => (fun h => some (.ret, h), fun _ => none)
  | .scope c => (fun h => (runP step draw tidy n c).1 h, fun _ => none)
  | .label _ => (fun h => some (.normal, h), fun _ => none)
  | _ => (fun _ => none, fun _ => none)
def runC (step : Oper → HS → Option HS) (draw : Array Oper → HS → Option HS) (tidy : Nat → HS → HS) (n : Nat) (c : Code) : HS → Option (Ex × HS) := (runP step draw tidy n c).1
def DrawS (C : HC) (ops : Array Oper) (h h' : HS) : Prop := ∀ B N g a w, (∀ o ∈ ops, opOK N o = true) → R C B N g h a w → ∀ id (Q : Exit → Act → World → Prop), (∀ g' a' w', Ext g g' → R C B N g' h' a' w' → Q .normal a' w') → (Code.region id ops true).wp C.P Q a w
def Tidy (tidy : Nat → HS → HS) : Prop := ∀ id h (C : HC) B N g a w, R C B N g h a w → R C B N g (tidy id h) a w
section
variable {C : HC} {T : Tab} {step : Oper → HS → Option HS} {draw : Array Oper → HS → Option HS} {tidy : Nat → HS → HS} {n : Nat}
theorem runC_sound (hs : ∀ o h h', step o h = some h' → OpS C o h h') (hd : ∀ ops h h', draw ops h = some h' → DrawS C ops h h') (ht : Tidy tidy) : ∀ (c : Code) (B : Base) (N : Nat) (g : Gh) (h : HS) (a : Act) (w : World) (e : Ex) (h' : HS), codeOK N c = true → runC step draw tidy n c h = some (e, h') → R C B N g h a w → c.wp C.P (postH C B N g e h') a w := by
  suffices hall : ∀ c : Code, (∀ (B : Base) (N : Nat) (g : Gh) (h : HS) (a : Act) (w : World) (e : Ex) (h' : HS), codeOK N c = true → runC step draw tidy n c h = some (e, h') → R C B N g h a w → c.wp C.P (postH C B N g e h') a w) ∧ ∀ x y, c = .seq x y → ∀ (B : Base) (N : Nat) (g : Gh) (h : HS) (a : Act) (w : World) (e : Ex) (h' : HS), codeOK N y = true → runC step draw tidy n y h = some (e, h') → R C B N g h a w → y.wp C.P (postH C B N g e h') a w from fun c => (hall c).1
  intro c
  induction c with
  | skip =>
    refine ⟨?_, fun x' y' h0 => by cases h0⟩
    intro B N g h a w e h' _ hr hR; simp only [runC, Option.some.injEq, Prod.mk.injEq] at hr; obtain ⟨rfl, rfl⟩ := hr; exact wp_skip ⟨rfl, g, .rfl, hR⟩
  | region id ops d =>
    refine ⟨?_, fun x' y' h0 => by cases h0⟩
    intro B N g h a w e h' hok hr hR
    have hok' : ∀ o ∈ ops.toList, opOK N o = true := fun o ho => by
      simp only [codeOK, Array.all_eq_true'] at hok
      exact hok o (by simpa using ho)
    cases d with
    | false =>
      simp only [runC, runP] at hr
      split at hr
      · rename_i h2 hro
        simp only [Option.some.injEq, Prod.mk.injEq] at hr; obtain ⟨rfl, rfl⟩ := hr
        exact wp_region_list (runOps_sound hs ops.toList g h a w hok' hro hR fun g' a' w' he hR' => ⟨rfl, g', he, ht id h2 C B N g' a' w' hR'⟩)
      · cases hr
    | true =>
      simp only [runC, runP] at hr
      split at hr
      · rename_i h2 hro
        simp only [Option.some.injEq, Prod.mk.injEq] at hr; obtain ⟨rfl, rfl⟩ := hr
        exact hd _ _ _ hro B N g a w (fun o ho => hok' o (by simpa using ho)) hR id _ fun g' a' w' he hR' => ⟨rfl, g', he, ht id h2 C B N g' a' w' hR'⟩
      · cases hr
  | seq x y ihx ihy =>
    have ihx := ihx.1
    refine ⟨?_, fun x' y' h0 => by cases h0; exact ihy.1⟩
    have ihy := ihy.1
    intro B N g h a w e h' hok hr hR
    simp only [codeOK, Bool.and_eq_true] at hok
    simp only [runC, runP] at hr
    split at hr
    · rename_i h1 hr1
      refine wp_seq (wp_mono (ihx B N g h a w _ _ hok.1 hr1 hR) fun x a' w' hq => ?_)
      cases x <;> simp only [postH, reduceCtorEq, false_and, true_and] at hq
      obtain ⟨g', he, hR'⟩ := hq
      exact wp_mono (ihy B N g' h1 a' w' e h' hok.2 hr hR') fun x a2 w2 hp => postH.mono he hp
    · rename_i r hne
      refine wp_seq (wp_mono (ihx B N g h a w _ _ hok.1 hr hR) fun x a' w' hq => ?_)
      cases x with
      | normal =>
        obtain ⟨rfl, _⟩ := hq
        exact absurd hr (hne h')
      | exit id => exact hq
      | ret => exact hq
      | goto l => exact hq.elim
      | panic ch => exact hq.elim
      | outgrown => exact hq.elim
  | cond c x y ihx ihy =>
    have ihx := ihx.1
    have ihy := ihy.1
    refine ⟨?_, fun x' y' h0 => by cases h0⟩
    intro B N g h a w e h' hok hr hR
    simp only [codeOK, Bool.and_eq_true] at hok
    simp only [runC, runP] at hr
    have hc := hR.ev c
    split at hr
    · rename_i hb
      rw [hb] at hc
      simp only [VR] at hc
      exact wp_cond_split hc (fun _ => ihx B N g h a w e h' hok.1 hr hR) (fun hf => by cases hf)
    · rename_i hb
      rw [hb] at hc
      simp only [VR] at hc
      exact wp_cond_split hc (fun hf => by cases hf) (fun _ => ihy B N g h a w e h' hok.2 hr hR)
    · cases hr
  | block id c ih =>
    have ih := ih.1
    refine ⟨?_, fun x' y' h0 => by cases h0⟩
    intro B N g h a w e h' hok hr hR
    simp only [runC, runP] at hr
    split at hr
    · rename_i i h1 hr1
      refine wp_block (wp_mono (ih B N g h a w _ _ hok hr1 hR) fun x a' w' hq => ?_)
      cases x with
      | exit j =>
        obtain ⟨hij, hq⟩ := hq
        cases hij
        simp only [Exit.inBlock]
        split at hr
        · rename_i hi
          simp only [beq_iff_eq] at hi
          simp only [Option.some.injEq, Prod.mk.injEq] at hr; obtain ⟨rfl, rfl⟩ := hr
          simp only [hi, if_true]; exact ⟨rfl, hq⟩
        · rename_i hi
          simp only [beq_iff_eq] at hi
          simp only [Option.some.injEq, Prod.mk.injEq] at hr; obtain ⟨rfl, rfl⟩ := hr
          simp only [hi, if_false]; exact ⟨rfl, hq⟩
      | normal => exact absurd hq.1 (by simp)
      | ret => exact absurd hq.1 (by simp)
      | goto l => exact hq.elim
      | panic ch => exact hq.elim
      | outgrown => exact hq.elim
    · rename_i r hne
      refine wp_block (wp_mono (ih B N g h a w _ _ hok hr hR) fun x a' w' hq => ?_)
      cases x with
      | exit j => obtain ⟨rfl, _⟩ := hq; exact absurd hr (hne j h')
      | normal => exact hq
      | ret => exact hq
      | goto l => exact hq.elim
      | panic ch => exact hq.elim
      | outgrown => exact hq.elim
  | loop c ih =>
    refine ⟨?_, fun x' y' h0 => by cases h0⟩
    intro B N g h a w e h' hok hr hR
    simp only [runC, runP] at hr
    split at hr
    · rename_i r hma
      subst hr
      split at hma
      · rename_i id ops hho
        obtain ⟨rest, rfl⟩ : ∃ rest, c = .seq (.region id ops false) rest := by
          unfold headOps at hho
          split at hho
          · simp only [Option.some.injEq, Prod.mk.injEq] at hho; obtain ⟨rfl, rfl⟩ := hho; exact ⟨_, rfl⟩
          · cases hho
        simp only [codeOK, Bool.and_eq_true, Array.all_eq_true'] at hok
        refine mapAlt_sound (fun o ho => hok.1 o (by simpa using ho)) (fun os g h a w e h' Q hoks hrn hR hQ => ?_) hma hR
        split at hrn
        · rename_i h2 hro
          refine runOps_sound hs os g h a w hoks hro hR fun g' a' w' he hR' => ?_
          exact wp_mono (ih.2 _ _ rfl B N g' _ a' w' e h' hok.2 hrn (ht id h2 C B N g' a' w' hR')) fun x a w hp => hQ x a w (hp.mono he)
        · cases hrn
      · cases hma
    have ih := ih.1
    refine wp_loop_ghost (fun k a w => ∃ g1 h1, Ext g g1 ∧ loopH (runC step draw tidy n c) k h1 = some (e, h') ∧ R C B N g1 h1 a w) n ⟨g, h, .rfl, hr, hR⟩ fun k a w ⟨g1, h1, he1, hr1, hR1⟩ => ?_
    cases k with
    | zero => simp [loopH] at hr1
    | succ k =>
      simp only [loopH] at hr1
      split at hr1
      · rename_i h2 hr2
        refine wp_mono (ih B N g1 h1 a w _ _ hok hr2 hR1) fun x a' w' hq => ?_
        cases x <;> simp only [postH, reduceCtorEq, false_and, true_and] at hq
        obtain ⟨g2, he2, hR2⟩ := hq
        exact ⟨k, Nat.lt_succ_self k, g2, h2, he1.trans he2, hr1, hR2⟩
      · rename_i r hne
        refine wp_mono (ih B N g1 h1 a w _ _ hok hr1 hR1) fun x a' w' hq => ?_
        have hq := postH.mono he1 hq
        cases x with
        | normal => obtain ⟨rfl, _⟩ := hq; exact absurd hr1 (hne h')
        | exit id => exact hq
        | ret => exact hq
        | goto l => exact hq.elim
        | panic ch => exact hq.elim
        | outgrown => exact hq.elim
  | exit id =>
    refine ⟨?_, fun x' y' h0 => by cases h0⟩
    intro B N g h a w e h' _ hr hR; simp only [runC, Option.some.injEq, Prod.mk.injEq] at hr; obtain ⟨rfl, rfl⟩ := hr; exact wp_exit ⟨rfl, g, .rfl, hR⟩
  | ret =>
    refine ⟨?_, fun x' y' h0 => by cases h0⟩
    intro B N g h a w e h' _ hr hR; simp only [runC, Option.some.injEq, Prod.mk.injEq] at hr; obtain ⟨rfl, rfl⟩ := hr; exact wp_ret ⟨rfl, g, .rfl, hR⟩
  | scope c ih =>
    have ih := ih.1
    refine ⟨?_, fun x' y' h0 => by cases h0⟩
    intro B N g h a w e h' hok hr hR
    simp only [runC, runP] at hr
    refine wp_scope_straight (wp_mono (ih B N g h a w e h' hok hr hR) fun x a' w' hq => ?_)
    cases x <;> first | exact hq | exact hq.elim
  | label l =>
    refine ⟨?_, fun x' y' h0 => by cases h0⟩
    intro B N g h a w e h' _ hr hR; simp only [runC, Option.some.injEq, Prod.mk.injEq] at hr; obtain ⟨rfl, rfl⟩ := hr; exact wp_label ⟨rfl, g, .rfl, hR⟩
  | _ => exact ⟨fun B N g h a w e h' _ hr => by simp [runC, runP] at hr, fun x y h => by cases h⟩
end
end Go.H
namespace Go.H
open Go.Abs (lk Does does_pure szOf aggOf zeroOf Ex codeOK opOK resF results_eq)
def argH : Nat → List HV → List (Nat × HV)
  | _, [] => []
  | i, x :: xs => (i, x) :: argH (i + 1) xs
theorem lk_argH {k : Nat} {x : HV} : ∀ {xs : List HV} {i : Nat}, lk k (argH i xs) = some x → i ≤ k ∧ xs[k - i]? = some x
  | [], i, h => by simp [argH, lk] at h
  | y :: xs, i, h => by
    simp only [argH, lk] at h
    split at h
    · rename_i hi; subst hi; exact ⟨Nat.le_refl _, by simpa using h⟩
    · rename_i hi
      obtain ⟨h1, h2⟩ := lk_argH h
      refine ⟨by omega, ?_⟩
      have : k - i = (k - (i + 1)) + 1 := by omega
      rw [this]; simpa using h2
def resH (T : Tab) (G : Nat → Option (List Value)) (h : HS) : ResultVar → Option HV
  | .tmp t => lk t h.tmps
  | .cell p t => match T t, lk p h.tmps with
    | some i, some q => loadH G i.kind.agg i.size h.objs q
    | _, _ => none
def resHs (T : Tab) (G : Nat → Option (List Value)) (h : HS) : List ResultVar → Option (List HV)
  | [] => some []
  | r :: rs => match resH T G h r, resHs T G h rs with
    | some x, some xs => some (x :: xs)
    | _, _ => none
def packH : List HV → HV
  | [x] => x
  | xs => .tup xs
section
variable {C : HC} {B : Base} {N : Nat} {g g' : Gh} {h h' : HS} {a : Act} {w w' : World} {T : Tab}
theorem resH_sound (hT : T.OK C.P) (hR : R C B N g h a w) {r : ResultVar} {x : HV} (hx : resH T C.G h r = some x) : ∃ u, (resF a.tmps r).run C.P w = .ok u w ∧ VR g x u := by
  cases r with
  | tmp t =>
    obtain ⟨u, hu, hv⟩ := hR.tm t x hx
    exact ⟨u, by simp only [resF, Abs.getD_of hu, Sem.run_pure], hv⟩
  | cell p t =>
    simp only [resH] at hx
    split at hx
    · rename_i i q hTt hp
      obtain ⟨up, hu, hv⟩ := hR.tm p q hp
      have ht := hT t _ hTt
      obtain ⟨u, k1, k2⟩ := load_sound hR ht.kind.agg ht.size hv hx
      refine ⟨u, ?_, k2⟩
      simp only [resF, Abs.getD_of hu]
      obtain ⟨ad, rfl⟩ := loadH_ptr hv hx
      simpa [Instr.loadAt, Instr.sureAddr, asAddr] using k1
    · cases hx
theorem resHs_sound (hT : T.OK C.P) (hR : R C B N g h a w) : ∀ {rs : List ResultVar} {xs : List HV}, resHs T C.G h rs = some xs → ∃ us, (rs.mapM (resF a.tmps)).run C.P w = .ok us w ∧ VRs g xs us
  | [], xs, hx => by simp [resHs] at hx; subst hx; exact ⟨[], by simp, by simp [VRs]⟩
  | r :: rs, xs, hx => by
    simp only [resHs] at hx
    split at hx
    · rename_i y ys h1 h2
      simp at hx; subst hx
      obtain ⟨u, k1, k2⟩ := resH_sound hT hR h1
      obtain ⟨us, m1, m2⟩ := resHs_sound hT hR h2
      refine ⟨u :: us, ?_, by simp only [VRs]; exact ⟨k2, m2⟩⟩
      rw [List.mapM_cons]
      simp only [Sem.run_bind, k1, m1, Result.andThen_ok, Sem.run_pure]
    · cases hx
theorem results_sound (hT : T.OK C.P) (hR : R C B N g h a w) {fn : Func} {xs : List HV} (hx : resHs T C.G h fn.results.toList = some xs) : ∃ u, (results fn a.tmps).run C.P w = .ok u w ∧ VR g (packH xs) u := by
  obtain ⟨us, k1, k2⟩ := resHs_sound hT hR hx
  have hl := VRs.length k2
  rw [results_eq, Array.mapM_eq_mapM_toList]
  simp only [Sem.run_bind, Sem.run_map, k1, Result.andThen_ok, Sem.run_pure]
  match xs, us, k2 with
  | [x], [u], k2 =>
    simp only [VRs] at k2
    exact ⟨u, by simp, by simpa [packH] using k2.1⟩
  | [], [], k2 => exact ⟨_, rfl, by simp only [packH, VR]; exact ⟨_, rfl, k2⟩⟩
  | x :: y :: xs, u :: v :: us, k2 => exact ⟨_, by simp; rfl, by simp only [packH, VR]; exact ⟨_, rfl, k2⟩⟩
  | [], _ :: _, k2 => simp [VRs] at k2
  | _ :: _, [], k2 => simp [VRs] at k2
  | [_], _ :: _ :: _, k2 => simp [VRs] at k2
  | _ :: _ :: _, [_], k2 => simp [VRs] at k2
theorem Mem.args {o : List (Nat × HO)} {n m : Nat} (hM : Mem C B g o n m w) (hB : B.d = []) {xs : List HV} {us : List Value} (hv : VRs g xs us) (hn : xs.length ≤ N) :
    R C B N g ⟨argH 0 xs, o, n, m⟩ { tmps := us.toArray ++ Array.replicate (N - us.toArray.size) undef, defers := [] } w := by
  have hl := VRs.length hv
  obtain ⟨_, _, _, h1, h2, h3, h4, h6, h5⟩ := hM
  refine ⟨by simp; omega, hB.symm, fun k x hx => ?_, h1, h2, h3, h4, h6, h5⟩
  obtain ⟨_, h2⟩ := lk_argH hx
  obtain ⟨u, hu, hv'⟩ := hv.get k x (by simpa using h2)
  refine ⟨u, ?_, hv'⟩
  have hk : k < us.length := by
    rcases Nat.lt_or_ge k us.length with h | h
    · exact h
    · rw [List.getElem?_eq_none h] at hu; cases hu
  rw [Array.getElem?_append_left (by simpa using hk)]
  simpa using hu
theorem HRun.intro (hT : T.OK C.P) {f : Nat} {fn : Func} {c : Code} {xs ys : List HV} {o : List (Nat × HO)} {n m : Nat} {e : Ex} (hf : C.P.funcs[f]? = some fn) (hname : (fn.name == "runtime.NumGoroutine") = false) (hb : fn.body = some c)
    (hargs : xs.length ≤ fn.ntmps) (hr : ∀ B g a w, R C B fn.ntmps g ⟨argH 0 xs, o, n, m⟩ a w → c.wp C.P (postH C B fn.ntmps g e h') a w) (he : ∀ i, e ≠ .exit i) (hm : h'.m = m) (hy : resHs T C.G h' fn.results.toList = some ys) :
    HRun C f xs o n m (packH ys) h'.objs h'.n := by
  refine ⟨⟨fn, c, hf, hname, hb⟩, fun B g w us hB hM hv => calls_of_wp hf hb ?_⟩
  refine wp_mono (hr B g _ w (hM.args hB hv hargs)) fun x a' w' hq => ?_
  have key : (∃ g', Ext g g' ∧ R C B fn.ntmps g' h' a' w') → a'.defers = [] ∧ ∃ v, (results fn a'.tmps).run C.P w' = .ok v w' ∧ (∃ u g', Ending.returned v = .returned u ∧ Ext g g' ∧ Mem C B g' h'.objs h'.n m w' ∧ VR g' (packH ys) u) := by
    intro ⟨g', hx, hR⟩
    obtain ⟨v, k1, k2⟩ := results_sound hT hR hy
    refine ⟨hR.defs.trans hB, v, k1, v, g', rfl, hx, ?_, k2⟩
    have := hR.mem B.d
    rw [hm] at this
    exact this
  cases x with
  | normal => exact key hq.2
  | ret => exact key hq.2
  | exit i => exact absurd hq.1 (he i)
  | goto l => exact hq.elim
  | panic ch => exact hq.elim
  | outgrown => exact hq.elim
theorem HRun.introD {f hh k t id : Nat} {fn fh : Func} {c ch : Code} {om od : Oper} {tys : Array TypeId} {xs : List HV} {x : HV} {o : List (Nat × HO)} {n m : Nat} {e1 e2 : Ex} {h1 h2 : HS}
    (hf : C.P.funcs[f]? = some fn) (hname : (fn.name == "runtime.NumGoroutine") = false) (hb : fn.body = some (.seq (.region id #[om, od] false) c))
    (hm : om.op = .move (.tmp k)) (hmd : om.dst = some t) (hmg : om.guard = none) (ho : od.op = .defer ⟨.value (.func hh), #[.tmp t], tys⟩) (hod : od.dst = none) (hog : od.guard = none)
    (ht : t < fn.ntmps) (hx : lk k (argH 0 xs) = some x) (hr : fn.results = #[]) (hfh : C.P.funcs[hh]? = some fh) (hnh : (fh.name == "runtime.NumGoroutine") = false) (hbh : fh.body = some ch) (hrh : fh.results = #[])
    (hargs : xs.length ≤ fn.ntmps) (hah : 1 ≤ fh.ntmps)
    (hw1 : ∀ B g a w, R C B fn.ntmps g ⟨(t, x) :: argH 0 xs, o, n, m⟩ a w → c.wp C.P (postH C B fn.ntmps g e1 h1) a w) (he1 : ∀ i, e1 ≠ .exit i)
    (hw2 : ∀ B g a w, R C B fh.ntmps g ⟨argH 0 [x], h1.objs, h1.n, h1.m⟩ a w → ch.wp C.P (postH C B fh.ntmps g e2 h2) a w) (he2 : ∀ i, e2 ≠ .exit i) (hmm : h2.m = m) :
    HRun C f xs o n m (.tup []) h2.objs h2.n := by
  refine ⟨⟨fn, _, hf, hname, hb⟩, fun B g w us hB hM hv => calls_of_wp_defers hf hb ?_⟩
  have hR := hM.args (N := fn.ntmps) hB hv hargs
  generalize hact : ({ tmps := us.toArray ++ Array.replicate (fn.ntmps - us.toArray.size) undef, defers := [] } : Act) = act at hR
  obtain ⟨u, hu, hvu⟩ := hR.tm k _ hx
  have hgd : act.tmps.getD k undef = u := by simp [Array.getD_eq_getD_getElem?, hu]
  have hR1 := hR.put (d := some t) (fun q hq => by cases hq; exact ht) hvu
  have hu2 : (act.put (some t) u).tmps.getD t undef = u := by
    have : t < act.tmps.size := by rw [hR.size]; exact ht
    simp [Act.put, Array.getD_eq_getD_getElem?, this]
  let d : Deferred := { target := .fn (.func hh) #[], args := #[u] }
  have hR2 : R C ⟨B.w, B.prot, [d], B.no⟩ fn.ntmps g ⟨(t, x) :: argH 0 xs, o, n, m⟩ { act.put (some t) u with defers := [d] } w :=
    ⟨hR1.size, rfl, hR1.tm, hR1.ob, hR1.new, hR1.sep, hR1.low, hR1.out, hR1.fr.any⟩
  have hdef : (act.put (some t) u).defers = [] := hR1.defs.trans hB
  refine wp_seq (wp_region_list ?_)
  have hwm : Region.wanted om (yielded #[om, od] act.tmps) = true := by simp [Region.wanted, hmg]
  have hwd : Region.wanted od (yielded #[om, od] (act.put (some t) u).tmps) = true := by simp [Region.wanted, hog]
  simp only [wpList]
  rw [if_pos hwm]
  refine .inl ?_
  have q1 : (execOp act.eval om).run C.P w = .ok (.value u) w := by
    simp only [execOp, hm]
    simp only [Act.eval, hgd]
    rfl
  unfold Oper.wp
  rw [q1, Oper.upon_value, hmd]
  rw [if_pos hwd]
  refine .inl ?_
  have q2 : (execOp (act.put (some t) u).eval od).run C.P w = .ok (.defer d) w := by
    simp only [execOp, ho, resolve, Act.eval, Deferred.ofValue, Sem.run_bind, Sem.run_pure, Result.andThen_ok]
    simp [d, hu2, Act.eval]
  rw [q2, Oper.upon_defer, hod]
  simp only [Act.put]
  show c.wp C.P (bodyPostD C.P fn _) { act.put (some t) u with defers := d :: (act.put (some t) u).defers } w
  rw [hdef]
  refine wp_mono (hw1 _ g _ w hR2) fun e a' w' hq => ?_
  have key : (∃ g', Ext g g' ∧ R C ⟨B.w, B.prot, [d], B.no⟩ fn.ntmps g' h1 a' w') →
      Leaves C.P fn a'.tmps (fun e w' => ∃ u g', e = .returned u ∧ Ext g g' ∧ Mem C B g' h2.objs h2.n m w' ∧ VR g' (.tup []) u) a'.defers .returning w' := by
    intro ⟨g', hxt, hr'⟩
    have hds : a'.defers = [d] := hr'.defs
    rw [hds]
    have hM3 := hr'.mem []
    have hR3 := Mem.args (N := fh.ntmps) hM3 rfl (us := [u]) (xs := [x]) (by simp only [VRs]; exact ⟨VR.ext hxt _ _ hvu, trivial⟩) hah
    refine leaves_cons (f := hh) (args := #[u]) (by simp) (by simpa [invoke] using Abs.run_enter hfh hnh hbh #[u] w') ?_
    refine CallsD.mono (callsD_of_wp (R := fun e w' => ∃ u g', e = .returned u ∧ Ext g g' ∧ Mem C B g' h2.objs h2.n m w' ∧ VR g' (.tup []) u) hfh hbh ?_) ?_
    · refine wp_mono (hw2 _ g' _ w' hR3) fun e a2 w2 hq2 => ?_
      have key2 : (∃ g2, Ext g' g2 ∧ R C ⟨B.w, B.prot, [], B.no⟩ fh.ntmps g2 h2 a2 w2) →
          a2.defers = [] ∧ ∃ v, (results fh a2.tmps).run C.P w2 = .ok v w2 ∧ (∃ u g', Ending.returned v = .returned u ∧ Ext g g' ∧ Mem C B g' h2.objs h2.n m w2 ∧ VR g' (.tup []) u) := by
        intro ⟨g2, hx2, hr2⟩
        refine ⟨hr2.defs, _, Abs.results_none hrh _ _, _, g2, rfl, hxt.trans hx2, ?_, by simp only [VR]; exact ⟨#[], rfl, by simp [VRs]⟩⟩
        have := hr2.mem B.d
        rw [hmm] at this
        exact this
      cases e with
      | normal => exact key2 hq2.2
      | ret => exact key2 hq2.2
      | exit id => exact absurd hq2.1 (he2 id)
      | goto l => exact hq2.elim
      | panic ch => exact hq2.elim
      | outgrown => exact hq2.elim
    · intro e u' w2 ⟨hu', v, g2, he, k1, k2, k3⟩
      subst hu' he
      simp only [Leaves, settle]
      exact ⟨_, Abs.results_none hr _ _, _, g2, rfl, k1, k2, by simp only [VR]; exact ⟨#[], rfl, by simp [VRs]⟩⟩
  cases e with
  | normal => exact key hq.2
  | ret => exact key hq.2
  | exit id => exact absurd hq.1 (he1 id)
  | goto l => exact hq.elim
  | panic ch => exact hq.elim
  | outgrown => exact hq.elim
end
end Go.H
namespace Go.H
open Go.Abs (lk Does does_pure szOf aggOf zeroOf Ex codeOK opOK SameTape)
def pick (o : List (Nat × HO)) : List Nat → List (Nat × HO)
  | [] => []
  | s :: ss => match lk s o with
    | some p => (s, p) :: pick o ss
    | none => pick o ss
theorem lk_pick {o : List (Nat × HO)} {s : Nat} {p : HO} : ∀ {ss : List Nat}, lk s (pick o ss) = some p → lk s o = some p
  | [], h => by simp [pick, lk] at h
  | t :: ss, h => by
    simp only [pick] at h
    split at h
    · rename_i q hq
      simp only [lk] at h
      split at h
      · rename_i e; subst e; rw [hq]; exact h
      · exact lk_pick h
    · exact lk_pick h
def restO (o o1 : List (Nat × HO)) : List (Nat × HO) := o.filter fun p => (lk p.1 o1).isNone
theorem lk_rest {o1 : List (Nat × HO)} {s : Nat} : ∀ (o : List (Nat × HO)), lk s (restO o o1) = if (lk s o1).isNone then lk s o else none
  | [] => by simp [restO, lk]
  | (k, x) :: l => by
    have ih := lk_rest (o1 := o1) (s := s) l
    simp only [restO, List.filter_cons] at ih ⊢
    by_cases hk : (lk k o1).isNone = true
    · rw [if_pos hk]
      simp only [lk]
      by_cases hks : k = s
      · subst hks; simp [hk]
      · simp only [hks, if_false]; exact ih
    · rw [if_neg hk]
      rw [ih]
      by_cases hks : k = s
      · subst hks; simp [hk]
      · simp [lk, hks]
theorem lk_append {o o2 : List (Nat × HO)} {s : Nat} : lk s (o ++ o2) = match lk s o with | some p => some p | none => lk s o2 := by
  induction o with
  | nil => simp [lk]
  | cons q o ih =>
    simp only [List.cons_append, lk]
    split
    · rfl
    · exact ih
section
variable {C : HC} {B : Base} {g g' : Gh} {w w' : World}
def protN (g : Gh) (w : World) (o1 : List (Nat × HO)) (b : Nat) : Prop := b < w.heap.size ∧ ∀ s p G, lk s o1 = some p → g s = some G → G.b ≠ b
theorem Mem.sub {o o1 : List (Nat × HO)} {n m : Nat} (hM : Mem C B g o n m w) (hsub : ∀ s p, lk s o1 = some p → lk s o = some p) : Mem C ⟨w, protN g w o1, [], B.no⟩ g o1 n m w := by
  obtain ⟨_, _, _, h1, h2, h3, h4, h5, h6⟩ := hM
  refine ⟨rfl, rfl, fun k x hk => by simp [lk] at hk, fun s p hs => h1 s p (hsub s p hs), h2, fun s t o p G G' hs ht => h3 s t o p G G' (hsub s o hs) (hsub t p ht), h4, fun s p G hs hG hp => hp.2 s p G hs hG rfl, rfl, ⟨rfl, Nat.le_refl _⟩, rfl, Nat.le_refl _, fun b hb => ⟨hb.1, rfl⟩, fun i cs hi => ?_⟩
  obtain ⟨hp, cur, T, fz, k1, k2⟩ := h6.glob i cs hi
  have hk := h6.keep i hp
  refine ⟨⟨by have := h6.size; omega, fun s p G hs hG e => h5 s p G (hsub s p hs) hG (e ▸ hp)⟩, cur, T, fz, by rw [hk.2]; exact k1, k2⟩
theorem Mem.join {o o1 o' : List (Nat × HO)} {n m n' : Nat} (hM : Mem C B g o n m w) (hsub : ∀ s p, lk s o1 = some p → lk s o = some p) (he : Ext g g') (hM' : Mem C ⟨w, protN g w o1, [], B.no⟩ g' o' n' m w') : Mem C B g' (o' ++ restO o o1) n' m w' := by
  obtain ⟨_, _, _, h1, h2, h3, h4, h5, h6⟩ := hM
  obtain ⟨_, _, _, k1, k2, k3, k4, k5, k6⟩ := hM'
  have hprot : ∀ b, B.prot b → protN g w o1 b := fun b hb => ⟨by have := (h6.keep b hb).1; have := h6.size; omega, fun s p G hs hG e => h5 s p G (hsub s p hs) hG (e ▸ hb)⟩
  have hlk : ∀ s p, lk s (o' ++ restO o o1) = some p → lk s o' = some p ∨ (lk s o1 = none ∧ lk s o = some p) := fun s p hs => by
    rw [lk_append] at hs
    split at hs
    · rename_i q hq; rw [hq]; exact .inl hs
    · rw [lk_rest] at hs
      split at hs
      · rename_i hn; exact .inr ⟨Option.isNone_iff_eq_none.1 hn, hs⟩
      · cases hs
  have hold : ∀ s p, lk s o1 = none → lk s o = some p → ∃ G, g s = some G ∧ protN g w o1 G.b := fun s p hn hs => by
    obtain ⟨G, hG, _⟩ := h1 s p hs
    refine ⟨G, hG, h4 s G hG, fun t q G' ht hG' e => ?_⟩
    have := h3 t s q p G' G (hsub t q ht) hs hG' hG e
    subst this
    rw [hn] at ht; cases ht
  refine ⟨rfl, rfl, fun k x hk => by simp [lk] at hk, fun s p hs => ?_, k2, fun s t p q G G' hs ht hG hG' hb => ?_, k4, fun s p G hs hG hp => ?_, k6.os.trans h6.os, ⟨k6.tape.1.trans h6.tape.1, Nat.le_trans h6.tape.2 k6.tape.2⟩, k6.output.trans h6.output, Nat.le_trans h6.size k6.size, fun b hb => ⟨(h6.keep b hb).1, (k6.keep b (hprot b hb)).2.trans (h6.keep b hb).2⟩, h6.glob⟩
  · rcases hlk s p hs with h | ⟨hn, h⟩
    · exact k1 s p h
    · obtain ⟨G, hG, hpr⟩ := hold s p hn h
      exact (h1 s p h).ext he fun G1 hG1 => by rw [hG] at hG1; cases hG1; exact (k6.keep _ hpr).2
  · rcases hlk s p hs with h | ⟨hn, h⟩ <;> rcases hlk t q ht with h' | ⟨hn', h'⟩
    · exact k3 s t p q G G' h h' hG hG' hb
    · exfalso
      obtain ⟨G1, hG1, hpr⟩ := hold t q hn' h'
      have := he _ _ hG1
      rw [hG'] at this; cases this
      exact k5 s p G h hG (by rw [hb]; exact hpr)
    · exfalso
      obtain ⟨G1, hG1, hpr⟩ := hold s p hn h
      have := he _ _ hG1
      rw [hG] at this; cases this
      exact k5 t q G' h' hG' (by rw [← hb]; exact hpr)
    · obtain ⟨G1, hG1, _⟩ := hold s p hn h
      obtain ⟨G2, hG2, _⟩ := hold t q hn' h'
      have e1 := he _ _ hG1
      have e2 := he _ _ hG2
      rw [hG] at e1; cases e1
      rw [hG'] at e2; cases e2
      exact h3 s t p q G G' h h' hG1 hG2 hb
  · rcases hlk s p hs with h | ⟨hn, h⟩
    · exact k5 s p G h hG (hprot _ hp)
    · obtain ⟨G1, hG1, _⟩ := hold s p hn h
      have e1 := he _ _ hG1
      rw [hG] at e1; cases e1
      exact h5 s p G h hG1 hp
theorem HRun.frame {f : Nat} {xs : List HV} {o o1 o' : List (Nat × HO)} {n m n' : Nat} {y : HV} (h : HRun C f xs o1 n m y o' n') (hsub : ∀ s p, lk s o1 = some p → lk s o = some p) : HRun C f xs o n m y (o' ++ restO o o1) n' := by
  refine ⟨h.1, fun B g w us hB hM hv => Calls.mono (h.2 _ g w us rfl (hM.sub hsub) hv) fun e w' hq => ?_⟩
  obtain ⟨u, g', h1, h2, h3, h4⟩ := hq
  exact ⟨u, g', h1, h2, hM.join hsub h2 h3, h4⟩
theorem Mem.less {o o1 : List (Nat × HO)} {n m : Nat} (hM : Mem C B g o n m w) (hsub : ∀ s p, lk s o1 = some p → lk s o = some p) : Mem C B g o1 n m w := by
  obtain ⟨_, h0, _, h1, h2, h3, h4, h5, h6⟩ := hM
  exact ⟨rfl, rfl, fun k x hk => by simp [lk] at hk, fun s p hs => h1 s p (hsub s p hs), h2, fun s t o p G G' hs ht => h3 s t o p G G' (hsub s o hs) (hsub t p ht), h4, fun s p G hs => h5 s p G (hsub s p hs), h6⟩
theorem HRun.less {f : Nat} {xs : List HV} {o o1 o' : List (Nat × HO)} {n m n' : Nat} {y : HV} (h : HRun C f xs o n m y o' n') (hsub : ∀ s p, lk s o1 = some p → lk s o' = some p) : HRun C f xs o n m y o1 n' := by
  refine ⟨h.1, fun B g w us hB hM hv => Calls.mono (h.2 B g w us hB hM hv) fun e w' hq => ?_⟩
  obtain ⟨u, g', h1, h2, h3, h4⟩ := hq
  exact ⟨u, g', h1, h2, h3.less hsub, h4⟩
end
mutual
def HV.names : HV → List Nat → List Nat
  | .agg cs, l => namesL cs l
  | .tup cs, l => namesL cs l
  | .ptr s _, l => s :: l
  | .bs s _ _ _ _, l => s :: l
  | .fn _ cs, l => namesL cs l
  | .mv _ cs, l => namesL cs l
  | .ifc _ x, l => x.names l
  | .mp s, l => s :: l
  | .it s, l => s :: l
  | _, l => l
def namesL : List HV → List Nat → List Nat
  | [], l => l
  | c :: cs, l => namesL cs (c.names l)
end
def HO.names : HO → List Nat → List Nat
  | .cells cs, l => namesL cs l
  | .map es, l => namesL es l
  | .iter (some q) _ _ _, l => q :: l
  | .iter none _ _ _, l => l
  | .seen q _ _, l => q :: l
def reachO (o : List (Nat × HO)) : Nat → List Nat → List (Nat × HO) → List (Nat × HO)
  | 0, _, seen => seen
  | _ + 1, [], seen => seen
  | n + 1, s :: todo, seen => match lk s seen with
    | some _ => reachO o n todo seen
    | none => match lk s o with
      | some p => reachO o n (p.names todo) ((s, p) :: seen)
      | none => reachO o n todo seen
theorem lk_reachO {o : List (Nat × HO)} : ∀ (n : Nat) (todo : List Nat) (seen : List (Nat × HO)), (∀ s p, lk s seen = some p → lk s o = some p) → ∀ s p, lk s (reachO o n todo seen) = some p → lk s o = some p
  | 0, _, _, h, s, p, hs => h s p hs
  | _ + 1, [], _, h, s, p, hs => h s p hs
  | n + 1, t :: todo, seen, h, s, p, hs => by
    simp only [reachO] at hs
    split at hs
    · exact lk_reachO n todo seen h s p hs
    · split at hs
      · rename_i q hq
        refine lk_reachO n _ _ (fun s' p' hs' => ?_) s p hs
        simp only [lk] at hs'
        split at hs'
        · rename_i e; subst e; rw [hq]; exact hs'
        · exact h s' p' hs'
      · exact lk_reachO n todo seen h s p hs
def rfSub (fuel : Nat) (rf : RF) : RF := fun f xs o n m =>
  let o1 := reachO o fuel (namesL xs []) []
  match rf f xs o1 n m with
  | some (y, o', n') => some (y, reachO o' fuel (y.names (o1.map (·.1))) [] ++ restO o o1, n')
  | none => none
theorem rfSub_ok {C : HC} {fuel : Nat} {rf : RF} (h : rf.OK C) : (rfSub fuel rf).OK C := fun f xs o n m y o' n' hr => by
  unfold rfSub at hr
  dsimp only at hr
  split at hr
  · rename_i y' o2 n2 h2
    simp only [Option.some.injEq, Prod.mk.injEq] at hr
    obtain ⟨rfl, rfl, rfl⟩ := hr
    have nil : ∀ (o : List (Nat × HO)) s p, lk s ([] : List (Nat × HO)) = some p → lk s o = some p := fun _ s p h => by simp [lk] at h
    exact ((h _ _ _ _ _ _ _ _ h2).less (lk_reachO fuel _ [] (nil o2))).frame (lk_reachO fuel _ [] (nil o))
  · cases hr
end Go.H
namespace Go.H
open Go.Abs (lk Does does_pure szOf aggOf zeroOf Ex codeOK opOK)
structure Dfr where
  id : Nat
  om : Oper
  od : Oper
  rest : Code
  k : Nat
  t : Nat
  h : Nat
  tys : Array TypeId
def dfrOf : Code → Option Dfr
  | .seq (.region id ops false) rest => match ops.toList with
    | [om, od] => match om.op, om.dst, od.op with
      | .move (.tmp k), some t, .defer ⟨.value (.func h), args, tys⟩ => match args.toList with
        | [.tmp t'] => if t' == t && om.guard.isNone && od.guard.isNone && od.dst.isNone then some ⟨id, om, od, rest, k, t, h, tys⟩ else none
        | _ => none
      | _, _, _ => none
    | _ => none
  | _ => none
theorem dfrOf_sound {c : Code} {d : Dfr} (h : dfrOf c = some d) : c = .seq (.region d.id #[d.om, d.od] false) d.rest ∧ d.om.op = .move (.tmp d.k) ∧ d.om.dst = some d.t ∧ d.om.guard = none ∧ d.od.op = .defer ⟨.value (.func d.h), #[.tmp d.t], d.tys⟩ ∧ d.od.dst = none ∧ d.od.guard = none := by
  unfold dfrOf at h
  split at h
  · rename_i id ops rest
    split at h
    · rename_i om od hl
      have hops : ops = #[om, od] := by apply Array.toList_inj.1; simpa using hl
      split at h
      · rename_i k t hh args tys h1 h2 h3
        split at h
        · rename_i t' ha
          have hargs : args = #[.tmp t'] := by apply Array.toList_inj.1; simpa using ha
          split at h
          · rename_i hc
            simp only [Bool.and_eq_true, beq_iff_eq, Option.isNone_iff_eq_none] at hc
            simp only [Option.some.injEq] at h
            subst h hops hargs
            obtain ⟨⟨⟨rfl, g1⟩, g2⟩, g3⟩ := hc
            exact ⟨rfl, h1, h2, g1, h3, g3, g2⟩
          · cases h
        · cases h
      · cases h
    · cases h
  · cases h
structure FI where
  fn : Func
  body : Code
  dfr : Option Dfr
def FI.OK (P : Program) (f : Nat) (i : FI) : Prop := P.funcs[f]? = some i.fn ∧ (i.fn.name == "runtime.NumGoroutine") = false ∧ i.fn.body = some i.body ∧ i.dfr = dfrOf i.body ∧ match i.dfr with
  | none => codeOK i.fn.ntmps i.body = true
  | some d => codeOK i.fn.ntmps d.rest = true
abbrev FTab := Nat → Option FI
def FTab.OK (F : FTab) (P : Program) : Prop := ∀ f i, F f = some i → i.OK P f
def isExit : Ex → Bool
  | .exit _ => true
  | _ => false
structure How where
  draw : (Oper → HS → Option HV) → (Oper → HS → Option (HV × HS)) → Array Oper → HS → Option HS
  tidy : Nat → Nat → HS → HS
  lf : Nat
  fuel : Nat
def runF (C : HC) (T : Tab) (F : FTab) (W : How) : Nat → RF
  | 0, _, _, _, _, _ => none
  | k + 1, f, xs, o, n, m => match F f with
    | some ⟨fn, c, none⟩ => if Nat.ble xs.length fn.ntmps then
        match runC (stepH C T (rfSub W.fuel (runF C T F W k))) (W.draw (fun o h => pureH T C.G h o.op) (stepV C T (rfSub W.fuel (runF C T F W k)))) (W.tidy f) W.lf c ⟨argH 0 xs, o, n, m⟩ with
        | some (e, h) => if isExit e then none else match resHs T C.G h fn.results.toList with
          | some ys => if h.m == m then some (packH ys, h.objs, h.n) else none
          | none => none
        | none => none
      else none
    | some ⟨fn, _, some d⟩ => match lk d.k (argH 0 xs), F d.h with
      | some x, some ⟨fh, ch, none⟩ => if Nat.ble xs.length fn.ntmps && Nat.ble 1 fh.ntmps && Nat.blt d.t fn.ntmps && fn.results.isEmpty && fh.results.isEmpty then
          match runC (stepH C T (rfSub W.fuel (runF C T F W k))) (W.draw (fun o h => pureH T C.G h o.op) (stepV C T (rfSub W.fuel (runF C T F W k)))) (W.tidy f) W.lf d.rest ⟨(d.t, x) :: argH 0 xs, o, n, m⟩ with
          | some (e1, h1) => if isExit e1 then none else match runC (stepH C T (rfSub W.fuel (runF C T F W k))) (W.draw (fun o h => pureH T C.G h o.op) (stepV C T (rfSub W.fuel (runF C T F W k)))) (W.tidy d.h) W.lf ch ⟨argH 0 [x], h1.objs, h1.n, h1.m⟩ with
            | some (e2, h2) => if isExit e2 then none else if h2.m == m then some (.tup [], h2.objs, h2.n) else none
            | none => none
          | none => none
        else none
      | _, _ => none
    | none => none
def How.OK (C : HC) (W : How) : Prop := (∀ (pure : Oper → HS → Option HV) (step : Oper → HS → Option (HV × HS)), (∀ o h x, pure o h = some x → OpV C o h x h) → (∀ o h x h', step o h = some (x, h') → OpV C o h x h') → ∀ ops h h', W.draw pure step ops h = some h' → DrawS C ops h h') ∧ ∀ f, Tidy (W.tidy f)
theorem isExit_ne {e : Ex} (h : ¬ isExit e = true) (i : Nat) : e ≠ .exit i := fun e' => h (by rw [e']; rfl)
theorem runF_sound {C : HC} {T : Tab} {F : FTab} {W : How} (hT : T.OK C.P) (hF : F.OK C.P) (hW : W.OK C) : ∀ k : Nat, (runF C T F W k).OK C
  | 0 => fun _ _ _ _ _ _ _ _ h => by simp [runF] at h
  | k + 1 => fun f xs o n m y o' n' h => by
    have ih := runF_sound hT hF hW k
    have hs : ∀ o h h', stepH C T (rfSub W.fuel (runF C T F W k)) o h = some h' → OpS C o h h' := fun o h h' hh => stepH_sound hT (rfSub_ok ih) hh
    have hd := hW.1 _ _ (fun o h x (hh : pureH T C.G h o.op = some x) => OpV.of fun B N g a w hR => Mems.pure hR (pure_sound hT hR hh)) fun o h x h' (hh : stepV C T (rfSub W.fuel (runF C T F W k)) o h = some (x, h')) => stepV_sound hT (rfSub_ok ih) hh
    simp only [runF] at h
    split at h
    · rename_i fn c hFf
      obtain ⟨f1, f2, f3, f4, f5⟩ := hF f _ hFf
      dsimp only at f1 f2 f3 f4 f5
      split at h
      · rename_i hargs
        split at h
        · rename_i e h1 hr
          split at h
          · cases h
          · rename_i hex
            split at h
            · rename_i ys hy
              split at h
              · rename_i hm
                simp only [beq_iff_eq] at hm
                simp only [Option.some.injEq, Prod.mk.injEq] at h
                obtain ⟨rfl, rfl, rfl⟩ := h
                exact HRun.intro hT f1 f2 f3 (Nat.le_of_ble_eq_true hargs) (fun B g a w hR => runC_sound hs hd (hW.2 f) c B _ g _ a w _ _ f5 hr hR) (isExit_ne hex) hm hy
              · cases h
            · cases h
        · cases h
      · cases h
    · rename_i fn c d hFf
      obtain ⟨f1, f2, f3, f4, f5⟩ := hF f _ hFf
      dsimp only at f1 f2 f3 f4 f5
      obtain ⟨rfl, d1, d2, d3, d4, d5, d6⟩ := dfrOf_sound f4.symm
      split at h
      · rename_i x fh ch hx hFh
        obtain ⟨g1, g2, g3, g4, g5⟩ := hF _ _ hFh
        dsimp only at g1 g2 g3 g4 g5
        split at h
        · rename_i hc
          simp only [Bool.and_eq_true, Array.isEmpty_iff] at hc
          obtain ⟨⟨⟨⟨c1, c2⟩, c3⟩, c4⟩, c5⟩ := hc
          split at h
          · rename_i e1 h1 hr1
            split at h
            · cases h
            · rename_i hex1
              split at h
              · rename_i e2 h2 hr2
                split at h
                · cases h
                · rename_i hex2
                  split at h
                  · rename_i hm
                    simp only [beq_iff_eq] at hm
                    simp only [Option.some.injEq, Prod.mk.injEq] at h
                    obtain ⟨rfl, rfl, rfl⟩ := h
                    exact HRun.introD f1 f2 f3 d1 d2 d3 d4 d5 d6 (Nat.le_of_ble_eq_true c3) hx c4 g1 g2 g3 c5 (Nat.le_of_ble_eq_true c1) (Nat.le_of_ble_eq_true c2)
                      (fun B g a w hR => runC_sound hs hd (hW.2 f) d.rest B _ g _ a w _ _ f5 hr1 hR) (isExit_ne hex1)
                      (fun B g a w hR => runC_sound hs hd (hW.2 d.h) ch B _ g _ a w _ _ g5 hr2 hR) (isExit_ne hex2) hm
                  · cases h
              · cases h
          · cases h
        · cases h
      · cases h
    · cases h
end Go.H
namespace Go.H
open Go.Abs (lk Does szOf Ex codeOK opOK edgesOf Closed dOf addD unl unl_set unl_zero dOf_set ready_iff closed_add)
structure RS where
  t1 : List (Nat × HV)
  o1 : List (Nat × HO)
  x : HV
  upd : List (Nat × Option HO)
  n : Nat
  m : Nat
  dst : Option Nat
  p : Nat
def HV.top : HV → List Nat
  | .ptr s _ => [s]
  | .bs s _ _ _ _ => [s]
  | .mp s => [s]
  | .it s => [s]
  | _ => []
def HV.topM : HV → List Nat
  | .mp s => [s]
  | _ => []
def touch : Op → List Operand
  | .load _ a => [a]
  | .store _ a _ => [a]
  | .lookup _ m _ _ => [m]
  | .convert _ _ x => [x]
  | .mapUpdate _ m _ _ => [m]
  | .insert _ m _ _ => [m]
  | .range _ x => [x]
  | .call ⟨.builtin _, xs, _⟩ => xs.toList
  | _ => []
def isCall : Op → Bool
  | .call ⟨.builtin _, _, _⟩ => false
  | .call _ => true
  | .next _ _ => true
  | .entry _ => true
  | _ => false
def tops (h : HS) : List Operand → List Nat
  | [] => []
  | x :: l => (ev h x).top ++ tops h l
def topsM (h : HS) : List Operand → List Nat
  | [] => []
  | x :: l => (ev h x).topM ++ topsM h l
def isLen : Op → Option (List Operand)
  | .call ⟨.builtin .len, xs, _⟩ => some xs.toList
  | _ => none
def footO (fuel : Nat) (h : HS) (o : Oper) : List (Nat × HO) :=
  if isCall o.op then reachO h.objs fuel (namesL (evs h o.op.operands.toList) []) [] else match isLen o.op with
    | some xs => pick h.objs (topsM h xs)
    | none => pick h.objs (tops h (touch o.op))
def restr (tmps : List (Nat × HV)) : List Operand → List (Nat × HV)
  | [] => []
  | .tmp t :: l => match lk t tmps with
    | some x => (t, x) :: restr tmps l
    | none => restr tmps l
  | _ :: l => restr tmps l
def gdst (all : Array Oper) (o : Oper) : Option Nat := match o.guard with
  | some (j, _) => (all[j]?).bind (·.dst)
  | none => none
def readH (all : Array Oper) (o : Oper) (tmps : List (Nat × HV)) : List (Nat × HV) :=
  restr tmps (match gdst all o with
    | some t => .tmp t :: o.op.operands.toList
    | none => o.op.operands.toList)
def wantH (all : Array Oper) (o : Oper) (t1 : List (Nat × HV)) : Option Bool := match o.guard with
  | none => some true
  | some (j, b) => match ((all[j]?).bind (·.dst)).bind (lk · t1) with
    | some (.v (.bool b')) => some (b' == b)
    | some (.tup []) => some false
    | _ => none
def updOf (o1 o' : List (Nat × HO)) : List (Nat × Option HO) := (o'.map fun q => (q.1, some q.2)) ++ (o1.filter fun q => (lk q.1 o').isNone).map fun q => (q.1, none)
def insU : List (Nat × Option HO) → List (Nat × HO) → List (Nat × HO)
  | [], o => o
  | (s, some p) :: u, o => (s, p) :: insU u o
  | (s, none) :: u, o => delO s (insU u o)
def putU (u : List (Nat × Option HO)) (o : List (Nat × HO)) : List (Nat × HO) := match u with
  | [] => o
  | u => insU u (o.filter fun p => (lk p.1 u).isNone)
def maskOf (rs : List RS) : List Nat → Nat
  | [] => 0
  | e :: es => (1 <<< e) ||| (((rs[e]?).map (·.p)).getD 0 ||| maskOf rs es)
def apartB (a b : RS) : Bool :=
  (match a.dst with
   | some d => (lk d b.t1).isNone && (match b.dst with | some e => !(Nat.beq d e) | none => true)
   | none => true) &&
  (match b.dst with | some d => (lk d a.t1).isNone | none => true) &&
  a.upd.all (fun q => (lk q.1 b.o1).isNone && (lk q.1 b.upd).isNone) && b.upd.all (fun q => (lk q.1 a.o1).isNone)
def apartAll (b : RS) : Nat → List RS → Bool
  | _, [] => true
  | j, a :: rs => (Nat.testBit b.p j || apartB a b) && apartAll b (j + 1) rs
def quota (o : Oper) (h : HS) : Nat := if isCall o.op then h.n + (h.m - h.n) / 65536 else h.n + 4
def recH (pure : Oper → HS → Option HV) (step : Oper → HS → Option (HV × HS)) (fuel : Nat) (all : Array Oper) (o : Oper) (p : Nat) (h : HS) : Option RS :=
  let t1 := readH all o h.tmps
  match wantH all o t1 with
  | none => none
  | some false => some ⟨t1, [], .tup [], [], h.n, h.n, o.dst, p⟩
  | some true =>
    let o1 := footO fuel h o
    match pure o ⟨t1, o1, h.n, h.n⟩ with
    | some x => some ⟨t1, o1, x, [], h.n, h.n, o.dst, p⟩
    | none =>
      let m := quota o h
      match step o ⟨t1, o1, h.n, m⟩ with
      | some (x, h') => if Nat.ble m h.m then some ⟨t1, o1, x, updOf o1 h'.objs, h.n, m, o.dst, p⟩ else none
      | none => none
def goH (pure : Oper → HS → Option HV) (step : Oper → HS → Option (HV × HS)) (fuel : Nat) (all : Array Oper) : List Oper → List RS → HS → Option HS
  | [], _, h => some h
  | o :: os, rs, h =>
    let i := rs.length
    let es := edgesOf all i
    if es.all (Nat.blt · i) then
      match recH pure step fuel all o (maskOf rs es) h with
      | some r => if apartAll r 0 rs then goH pure step fuel all os (rs ++ [r]) ((⟨h.tmps, putU r.upd h.objs, r.m, h.m⟩ : HS).put o.dst r.x) else none
      | none => none
    else none
def drawH (fuel : Nat) (pure : Oper → HS → Option HV) (step : Oper → HS → Option (HV × HS)) (ops : Array Oper) (h : HS) : Option HS := goH pure step fuel ops ops.toList [] h
end Go.H
namespace Go.H
open Go.Abs (lk Does szOf Ex codeOK opOK edgesOf Closed dOf addD unl unl_set unl_zero dOf_set ready_iff closed_add)
section
variable {β γ : Type} {u u' : Nat → β → Option γ} {D D' : Nat → Bool} {base : β → γ} {s : β}
def acc (u : Nat → β → Option γ) (D : Nat → Bool) (base : β → γ) : Nat → β → γ
  | 0, s => base s
  | j + 1, s => if D j then (u j s).getD (acc u D base j s) else acc u D base j s
theorem acc_at : ∀ n, (∀ j, j < n → D j = D' j ∨ u j s = none) → acc u D base n s = acc u D' base n s
  | 0, _ => rfl
  | n + 1, h => by
    have ih := acc_at n fun j hj => h j (by omega)
    rcases h n (by omega) with h1 | h1
    · simp only [acc, h1, ih]
    · simp only [acc, h1, Option.getD_none, ite_self, ih]
theorem acc_u : ∀ n, (∀ j, j < n → u j = u' j) → acc u D base n s = acc u' D base n s
  | 0, _ => rfl
  | n + 1, h => by simp only [acc, h n (by omega), acc_u n fun j hj => h j (by omega)]
theorem acc_cut {i : Nat} : ∀ n, i ≤ n → (∀ j, i ≤ j → j < n → D j = false) → acc u D base n s = acc u D base i s
  | 0, h, _ => by have : i = 0 := by omega
                  rw [this]
  | n + 1, h, hd => by
    by_cases hi : i = n + 1
    · rw [hi]
    · have := hd n (by omega) (by omega)
      simp only [acc, this, Bool.false_eq_true, if_false]
      exact acc_cut n (by omega) fun j h1 h2 => hd j h1 (by omega)
theorem acc_add {i : Nat} (hi : D i = false) : ∀ n, i < n → (∀ v, u i s = some v → ∀ j, i < j → j < n → D j = true → u j s = none) → acc u (addD i D) base n s = (u i s).getD (acc u D base n s)
  | 0, h, _ => by omega
  | n + 1, h, hno => by
    by_cases hin : i = n
    · subst hin
      have h1 : acc u (addD i D) base i s = acc u D base i s := acc_at i fun j hj => .inl (by simp [addD, Nat.ne_of_lt hj])
      simp [acc, addD, hi, h1]
    · have ih := acc_add hi n (by omega) fun v hv j h1 h2 => hno v hv j h1 (by omega)
      have hn : addD i D n = D n := by simp [addD, Ne.symm hin]
      simp only [acc, hn, ih]
      cases h1 : D n with
      | false => simp
      | true =>
        cases hs : u i s with
        | none => simp
        | some v => simp [hno v hs n (by omega) (by omega) h1]
end
theorem lk_insU {q : Nat} {o : List (Nat × HO)} : ∀ u : List (Nat × Option HO), lk q (insU u o) = (lk q u).getD (lk q o)
  | [] => rfl
  | (s, some p) :: u => by
    simp only [insU, lk]
    split
    · rfl
    · exact lk_insU u
  | (s, none) :: u => by
    simp only [insU, lk, lk_delO]
    by_cases h : s = q
    · subst h; simp
    · have : ¬ q = s := fun e => h e.symm
      simp only [h, this, if_false]
      exact lk_insU u
theorem lk_filter {γ : Type} {f : Nat → Bool} {s : Nat} : ∀ o : List (Nat × γ), lk s (o.filter fun p => f p.1) = if f s then lk s o else none
  | [] => by simp [lk]
  | (k, x) :: l => by
    have ih := lk_filter (f := f) (s := s) l
    by_cases hk : f k = true
    · rw [List.filter_cons_of_pos (p := fun p : Nat × γ => f p.1) hk]
      simp only [lk]
      by_cases hks : k = s
      · subst hks; simp [hk]
      · simp only [hks, if_false]; exact ih
    · rw [List.filter_cons_of_neg (p := fun p : Nat × γ => f p.1) hk, ih]
      by_cases hks : k = s
      · subst hks; simp [hk]
      · simp [lk, hks]
theorem lk_putU {q : Nat} {u : List (Nat × Option HO)} {o : List (Nat × HO)} : lk q (putU u o) = (lk q u).getD (lk q o) := by
  unfold putU
  split
  · rfl
  · rw [lk_insU, lk_filter (f := fun s => (lk s u).isNone)]
    cases h : lk q u <;> simp
theorem lk_map {α γ : Type} {f : α → γ} {s : Nat} : ∀ o : List (Nat × α), lk s (o.map fun q => (q.1, f q.2)) = (lk s o).map f
  | [] => rfl
  | (k, x) :: l => by
    simp only [List.map_cons, lk]
    split
    · rfl
    · exact lk_map l
theorem lk_app {γ : Type} {s : Nat} {o o2 : List (Nat × γ)} : lk s (o ++ o2) = (lk s o).or (lk s o2) := by
  induction o with
  | nil => simp [lk]
  | cons q o ih =>
    simp only [List.cons_append, lk]
    split
    · rfl
    · exact ih
theorem lk_updOf {s : Nat} {o1 o' : List (Nat × HO)} : lk s (updOf o1 o') = match lk s o', lk s o1 with
    | some p, _ => some (some p)
    | none, some _ => some none
    | none, none => none := by
  unfold updOf
  rw [lk_app, lk_map (f := some)]
  have : lk s ((o1.filter fun q => (lk q.1 o').isNone).map fun q => (q.1, (none : Option HO))) = (lk s (o1.filter fun q => (lk q.1 o').isNone)).map fun _ => none := lk_map (f := fun _ => none) _
  rw [this, lk_filter (f := fun s => (lk s o').isNone)]
  cases lk s o' <;> cases lk s o1 <;> rfl
structure RQ (C : HC) (B : Base) (N : Nat) (g : Gh) (tf : Nat → Option HV) (bf : Nat → Option HO) (nw : Nat → Prop) (a : Act) (w : World) : Prop where
  size : a.tmps.size = N
  defs : a.defers = B.d
  tm : ∀ k x, tf k = some x → ∃ u, a.tmps[k]? = some u ∧ VR g x u
  ob : ∀ s o, bf s = some o → ObjAt g w s o
  new : ∀ s, nw s → g s = none
  no : ∀ s, B.no s → g s = none ∧ ¬ nw s
  sep : ∀ (s t : Nat) (o p : HO) (G G' : GB), bf s = some o → bf t = some p → g s = some G → g t = some G' → G.b = G'.b → s = t
  low : ∀ (s : Nat) (G : GB), g s = some G → G.b < w.heap.size
  out : ∀ (s : Nat) (o : HO) (G : GB), bf s = some o → g s = some G → ¬ B.prot G.b
  fr : Fr C B w
section
variable {C : HC} {B : Base} {N : Nat} {g g' : Gh} {a : Act} {w w' : World} {tm tm' : Nat → Option HV} {ob ob' : Nat → Option HO} {new new' : Nat → Prop}
theorem RQ.step (hR : RQ C B N g tm ob new a w) {o : Oper} {t1 : List (Nat × HV)} {o1 : List (Nat × HO)} {n m : Nat} {x : HV} {h' : HS}
    (ht : ∀ t x, lk t t1 = some x → tm t = some x) (ho : ∀ s p, lk s o1 = some p → ob s = some p) (hn : ∀ s, n ≤ s → s < m → new s) (hd : ∀ d, o.dst = some d → d < N) (hop : OpV C o ⟨t1, o1, n, m⟩ x h')
    (htm : ∀ t y, tm' t = some y → (o.dst = some t ∧ y = x) ∨ (o.dst ≠ some t ∧ tm t = some y)) (hob : ∀ s p, ob' s = some p → lk s h'.objs = some p ∨ (lk s o1 = none ∧ ob s = some p)) (hnew : ∀ s, new' s → new s ∧ ¬ (n ≤ s ∧ s < m))
    {K : Act → World → Prop} {Q : Exit → Act → World → Prop} (hK : ∀ g' a' w', Ext g g' → RQ C B N g' tm' ob' new' a' w' → K a' w') : o.wp C.P a w K Q := by
  obtain ⟨z1, z2, z3, h1, h2, h2', h3, h4, h5, h6⟩ := hR
  have hR1 : R C ⟨w, protN g w o1, a.defers, fun s => B.no s ∨ (new s ∧ ¬ (n ≤ s ∧ s < m))⟩ N g ⟨t1, o1, n, m⟩ a w := by
    refine ⟨z1, rfl, fun k x hk => z3 k x (ht k x hk), fun s p hs => h1 s p (ho s p hs), ⟨fun s k1 k2 => h2 s (hn s k1 k2), fun s hs => ?_⟩, fun s t o p G G' hs ht => h3 s t o p G G' (ho s o hs) (ho t p ht), h4, fun s p G hs hG hp => hp.2 s p G hs hG rfl, rfl, ⟨rfl, Nat.le_refl _⟩, rfl, Nat.le_refl _, fun b hb => ⟨hb.1, rfl⟩, fun i cs hi => ?_⟩
    · rcases hs with hs | ⟨hs, hs'⟩
      · obtain ⟨k1, k2⟩ := h2' s hs
        refine ⟨k1, ?_⟩
        show s < n ∨ m ≤ s
        apply Classical.byContradiction
        intro hc
        exact k2 (hn s (by omega) (by omega))
      · refine ⟨h2 s hs, ?_⟩
        show s < n ∨ m ≤ s
        omega
    · obtain ⟨hp, cur, T, fz, k1, k2⟩ := h6.glob i cs hi
      have hk := h6.keep i hp
      refine ⟨⟨by have := h6.size; omega, fun s p G hs hG e => h5 s p G (ho s p hs) hG (e ▸ hp)⟩, cur, T, fz, by rw [hk.2]; exact k1, k2⟩
  refine hop _ N g a w K Q hR1 fun g' u w' he hR' hx => hK g' _ w' he ?_
  obtain ⟨y1, y2, y3, k1, k2, k3, k4, k5, k6⟩ := hR'
  have hprot : ∀ b, B.prot b → protN g w o1 b := fun b hb => ⟨by have := (h6.keep b hb).1; have := h6.size; omega, fun s p G hs hG e => h5 s p G (ho s p hs) hG (e ▸ hb)⟩
  have hold : ∀ s p, lk s o1 = none → ob s = some p → ∃ G, g s = some G ∧ protN g w o1 G.b := fun s p hn hs => by
    obtain ⟨G, hG, _⟩ := h1 s p hs
    refine ⟨G, hG, h4 s G hG, fun t q G' ht hG' e => ?_⟩
    have := h3 t s q p G' G (ho t q ht) hs hG' hG e
    subst this
    rw [hn] at ht; cases ht
  refine ⟨by cases hd' : o.dst <;> simp [Act.put, z1], by cases hd' : o.dst <;> simp [Act.put, z2], fun k y hy => ?_, fun s p hs => ?_, fun s hs => ?_, fun s hs => ?_, fun s t p q G G' hs ht hG hG' hb => ?_, k4, fun s p G hs hG hp => ?_, k6.os.trans h6.os, ⟨k6.tape.1.trans h6.tape.1, Nat.le_trans h6.tape.2 k6.tape.2⟩, k6.output.trans h6.output, Nat.le_trans h6.size k6.size, fun b hb => ⟨(h6.keep b hb).1, (k6.keep b (hprot b hb)).2.trans (h6.keep b hb).2⟩, h6.glob⟩
  · rcases htm k y hy with ⟨e1, rfl⟩ | ⟨e1, e2⟩
    · rw [e1]
      exact ⟨u, by simp [Act.put, z1, hd k e1], hx⟩
    · obtain ⟨v, j1, j2⟩ := z3 k y e2
      refine ⟨v, ?_, VR.ext he _ _ j2⟩
      cases hd' : o.dst with
      | none => simpa [Act.put] using j1
      | some d =>
        have : d ≠ k := fun e => e1 (by rw [hd', e])
        simp [Act.put, Array.getElem?_setIfInBounds, this, j1]
  · rcases hob s p hs with h | ⟨hn, h⟩
    · exact k1 s p h
    · obtain ⟨G, hG, hpr⟩ := hold s p hn h
      exact (h1 s p h).ext he fun G1 hG1 => by rw [hG] at hG1; cases hG1; exact (k6.keep _ hpr).2
  · exact (k2.2 s (.inr (hnew s hs))).1
  · refine ⟨(k2.2 s (.inl hs)).1, fun hc => (h2' s hs).2 (hnew s hc).1⟩
  · rcases hob s p hs with h | ⟨hn, h⟩ <;> rcases hob t q ht with h' | ⟨hn', h'⟩
    · exact k3 s t p q G G' h h' hG hG' hb
    · exfalso
      obtain ⟨G1, hG1, hpr⟩ := hold t q hn' h'
      have := he _ _ hG1
      rw [hG'] at this; cases this
      exact k5 s p G h hG (by rw [hb]; exact hpr)
    · exfalso
      obtain ⟨G1, hG1, hpr⟩ := hold s p hn h
      have := he _ _ hG1
      rw [hG] at this; cases this
      exact k5 t q G' h' hG' (by rw [← hb]; exact hpr)
    · obtain ⟨G1, hG1, _⟩ := hold s p hn h
      obtain ⟨G2, hG2, _⟩ := hold t q hn' h'
      have e1 := he _ _ hG1
      have e2 := he _ _ hG2
      rw [hG] at e1; cases e1
      rw [hG'] at e2; cases e2
      exact h3 s t p q G G' h h' hG1 hG2 hb
  · rcases hob s p hs with h | ⟨hn, h⟩
    · exact k5 s p G h hG (hprot _ hp)
    · obtain ⟨G1, hG1, _⟩ := hold s p hn h
      have e1 := he _ _ hG1
      rw [hG] at e1; cases e1
      exact h5 s p G h hG1 hp
theorem RQ.skip (hR : RQ C B N g tm ob new a w) {d : Option Nat} (hd : ∀ k, d = some k → k < N) (htm : ∀ t y, tm' t = some y → (d = some t ∧ y = .tup []) ∨ (d ≠ some t ∧ tm t = some y)) (hob : ∀ s p, ob' s = some p → ob s = some p) (hnew : ∀ s, new' s → new s) :
    RQ C B N g tm' ob' new' (a.put d undef) w := by
  obtain ⟨z1, z2, z3, h1, h2, h2', h3, h4, h5, h6⟩ := hR
  refine ⟨by cases d <;> simp [Act.put, z1], by cases d <;> simp [Act.put, z2], fun k y hy => ?_, fun s p hs => h1 s p (hob s p hs), fun s hs => h2 s (hnew s hs), fun s hs => ⟨(h2' s hs).1, fun hc => (h2' s hs).2 (hnew s hc)⟩, fun s t p q G G' hs ht => h3 s t p q G G' (hob s p hs) (hob t q ht), h4, fun s p G hs => h5 s p G (hob s p hs), h6⟩
  rcases htm k y hy with ⟨rfl, rfl⟩ | ⟨e1, e2⟩
  · exact ⟨undef, by simp [Act.put, z1, hd k rfl], VR_off⟩
  · obtain ⟨v, j1, j2⟩ := z3 k y e2
    refine ⟨v, ?_, j2⟩
    cases d with
    | none => simpa [Act.put] using j1
    | some d =>
      have : d ≠ k := fun e => e1 (by rw [e])
      simp [Act.put, Array.getElem?_setIfInBounds, this, j1]
end
end Go.H
namespace Go.H
open Go.Abs (lk Does szOf Ex codeOK opOK edgesOf Closed dOf addD unl unl_set unl_zero dOf_set ready_iff closed_add)
def uT (res : Nat → RS) (j t : Nat) : Option (Option HV) := if (res j).dst = some t then some (some (res j).x) else none
def uO (res : Nat → RS) (j s : Nat) : Option (Option HO) := lk s (res j).upd
def All : Nat → Bool := fun _ => true
structure OkR (C : HC) (ops : Array Oper) (tb : Nat → Option HV) (ob : Nat → Option HO) (n0 m0 : Nat) (res : Nat → RS) (i : Nat) : Prop where
  op : ∃ o, ops[i]? = some o ∧ (res i).dst = o.dst ∧
    ((wantH ops o (res i).t1 = some true ∧ ∃ h', OpV C o ⟨(res i).t1, (res i).o1, (res i).n, (res i).m⟩ (res i).x h' ∧ (∀ s p, lk s (res i).upd = some (some p) → lk s h'.objs = some p) ∧ (∀ s, lk s (res i).upd = none → lk s h'.objs = lk s (res i).o1)) ∨
      (wantH ops o (res i).t1 = some false ∧ (res i).x = .tup [] ∧ (res i).upd = []))
  rt : ∀ t x, lk t (res i).t1 = some x → acc (uT res) All tb i t = some x
  ro : ∀ s p, lk s (res i).o1 = some p → acc (uO res) All ob i s = some p
  pr : ∀ e ∈ edgesOf ops i, e < i
  ps : ∀ q, Nat.testBit (res i).p q = true → ∃ e ∈ edgesOf ops i, q = e ∨ Nat.testBit (res e).p q = true
  ap : ∀ j, j < i → Nat.testBit (res i).p j = true ∨ apartB (res j) (res i) = true
  mon : ∀ j, j < i → (res j).m ≤ (res i).n
  lo : n0 ≤ (res i).n
  hi : (res i).n < (res i).m → (res i).m ≤ m0
theorem apart_spec {a b : RS} (h : apartB a b = true) : (∀ d, a.dst = some d → lk d b.t1 = none ∧ b.dst ≠ some d) ∧ (∀ d, b.dst = some d → lk d a.t1 = none) ∧ (∀ s v, lk s a.upd = some v → lk s b.o1 = none ∧ lk s b.upd = none) ∧ ∀ s v, lk s b.upd = some v → lk s a.o1 = none := by
  have mem : ∀ {γ : Type} {s : Nat} {v : γ} {l : List (Nat × γ)}, lk s l = some v → (s, v) ∈ l := fun {γ s v l} => by
    induction l with
    | nil => simp [lk]
    | cons q l ih =>
      obtain ⟨k, y⟩ := q
      simp only [lk]
      split
      · rename_i e; subst e; intro h; cases h; simp
      · intro h; simp [ih h]
  simp only [apartB, Bool.and_eq_true, List.all_eq_true, Option.isNone_iff_eq_none] at h
  obtain ⟨⟨⟨h1, h2⟩, h3⟩, h4⟩ := h
  refine ⟨fun d hd => ?_, fun d hd => ?_, fun s v hs => h3 _ (mem hs), fun s v hs => h4 _ (mem hs)⟩
  · rw [hd] at h1
    simp only [Bool.and_eq_true, Option.isNone_iff_eq_none] at h1
    refine ⟨h1.1, fun e => ?_⟩
    have h5 := h1.2
    rw [e] at h5
    simp at h5
  · rw [hd] at h2
    simpa using h2
section
variable {C : HC} {B : Base} {N : Nat} {g g' : Gh} {a : Act} {w w' : World} {ops : Array Oper} {tb : Nat → Option HV} {ob : Nat → Option HO} {n0 m0 nk k : Nat} {res : Nat → RS} {D : Nat → Bool}
def newD (res : Nat → RS) (k nk m0 : Nat) (D : Nat → Bool) (s : Nat) : Prop := (∃ i, i < k ∧ D i = false ∧ (res i).n ≤ s ∧ s < (res i).m) ∨ (nk ≤ s ∧ s < m0)
theorem preds_done (hk : k = ops.size) (hv : ∀ i, i < k → OkR C ops tb ob n0 m0 res i) (hc : Closed ops D) : ∀ i, i < k → (∀ e ∈ edgesOf ops i, D e = true) → ∀ q, Nat.testBit (res i).p q = true → D q = true := by
  intro i
  induction i using Nat.strongRecOn with
  | _ i ih =>
    intro hi he q hq
    obtain ⟨e, hee, h⟩ := (hv i hi).ps q hq
    rcases h with rfl | h
    · exact he _ hee
    · have hlt := (hv i hi).pr e hee
      exact ih e hlt (by omega) (fun e' he' => hc e (by omega) (he e hee) e' he') q h
theorem inv_step (hk : k = ops.size) (hv : ∀ i, i < k → OkR C ops tb ob n0 m0 res i) (htop : ∀ i, i < k → (res i).m ≤ nk) (hc : Closed ops D) (hN : ∀ o ∈ ops, opOK N o = true) {i : Nat} (hi : i < k) (hnd : D i = false) (hp : ∀ e ∈ edgesOf ops i, D e = true)
    (hR : RQ C B N g (acc (uT res) D tb k) (acc (uO res) D ob k) (newD res k nk m0 D) a w) {K : Act → World → Prop} {Q : Exit → Act → World → Prop}
    (hK : ∀ g' a' w', Ext g g' → RQ C B N g' (acc (uT res) (addD i D) tb k) (acc (uO res) (addD i D) ob k) (newD res k nk m0 (addD i D)) a' w' → K a' w') : wpOp C.P ops Q i K a w := by
  have hpre := preds_done hk hv hc i hi hp
  have un1 : ∀ j, j < i → D j = false → apartB (res j) (res i) = true := fun j hj hd => ((hv i hi).ap j hj).resolve_left fun h => by rw [hpre j h] at hd; cases hd
  have un2 : ∀ j, i < j → j < k → D j = true → apartB (res i) (res j) = true := fun j hj hjk hd => ((hv j hjk).ap i hj).resolve_left fun h => by
    have := preds_done hk hv hc j hjk (fun e he => hc j (by omega) hd e he) i h
    rw [hnd] at this; cases this
  obtain ⟨o, ho, hdst, hop⟩ := (hv i hi).op
  have hmem : o ∈ ops := Array.mem_of_getElem? ho
  have hdN : ∀ d, o.dst = some d → d < N := fun d hd => by have := hN o hmem; simpa [opOK, hd] using this
  have rt : ∀ t x, lk t (res i).t1 = some x → acc (uT res) D tb k t = some x := fun t x hx => by
    rw [← (hv i hi).rt t x hx]
    have h1 : acc (uT res) D tb k t = acc (uT res) (fun j => decide (j < i)) tb k t := acc_at k fun j hj => by
      rcases Nat.lt_trichotomy j i with hlt | rfl | hgt
      · cases hd : D j with
        | true => exact .inl (by simp [hlt])
        | false =>
          refine .inr ?_
          have := (apart_spec (un1 j hlt hd)).1
          unfold uT
          split
          · rename_i e; have := (this t e).1; rw [hx] at this; cases this
          · rfl
      · exact .inl (by simp [hnd])
      · cases hd : D j with
        | false => exact .inl (by simp; omega)
        | true =>
          refine .inr ?_
          have := (apart_spec (un2 j hgt hj hd)).2.1
          unfold uT
          split
          · rename_i e; have := this t e; rw [hx] at this; cases this
          · rfl
    rw [h1, acc_cut (i := i) k (by omega) fun j (h1 : i ≤ j) _ => by simp; omega]
    exact acc_at i fun j hj => .inl (by simp [hj, All])
  have ro : ∀ s p, lk s (res i).o1 = some p → acc (uO res) D ob k s = some p := fun t x hx => by
    rw [← (hv i hi).ro t x hx]
    have h1 : acc (uO res) D ob k t = acc (uO res) (fun j => decide (j < i)) ob k t := acc_at k fun j hj => by
      rcases Nat.lt_trichotomy j i with hlt | rfl | hgt
      · cases hd : D j with
        | true => exact .inl (by simp [hlt])
        | false =>
          refine .inr ?_
          have := (apart_spec (un1 j hlt hd)).2.2.1
          unfold uO
          cases e : lk t (res j).upd with
          | none => rfl
          | some v => have := (this t v e).1; rw [hx] at this; cases this
      · exact .inl (by simp [hnd])
      · cases hd : D j with
        | false => exact .inl (by simp; omega)
        | true =>
          refine .inr ?_
          have := (apart_spec (un2 j hgt hj hd)).2.2.2
          unfold uO
          cases e : lk t (res j).upd with
          | none => rfl
          | some v => have := this t v e; rw [hx] at this; cases this
    rw [h1, acc_cut (i := i) k (by omega) fun j (h1 : i ≤ j) _ => by simp; omega]
    exact acc_at i fun j hj => .inl (by simp [hj, All])
  have at' : ∀ t, acc (uT res) (addD i D) tb k t = (uT res i t).getD (acc (uT res) D tb k t) := fun t => acc_add hnd k hi fun v hv j h1 h2 h3 => by
    have := (apart_spec (un2 j h1 h2 h3)).1
    unfold uT at hv ⊢
    split at hv
    · rename_i e
      rw [if_neg (this t e).2]
    · cases hv
  have ao' : ∀ s, acc (uO res) (addD i D) ob k s = (lk s (res i).upd).getD (acc (uO res) D ob k s) := fun s => acc_add hnd k hi fun v hv j h1 h2 h3 => ((apart_spec (un2 j h1 h2 h3)).2.2.1 s v hv).2
  have htm : ∀ t y, acc (uT res) (addD i D) tb k t = some y → (o.dst = some t ∧ y = (res i).x) ∨ (o.dst ≠ some t ∧ acc (uT res) D tb k t = some y) := fun t y hy => by
    rw [at'] at hy
    unfold uT at hy
    split at hy
    · rename_i e
      exact .inl ⟨by rw [← hdst, e], by simpa using hy.symm⟩
    · rename_i e
      exact .inr ⟨by rw [← hdst]; exact e, hy⟩
  have hnew : ∀ s, newD res k nk m0 (addD i D) s → newD res k nk m0 D s ∧ ¬ ((res i).n ≤ s ∧ s < (res i).m) := fun s hs => by
    rcases hs with ⟨j, hj, hd, h1, h2⟩ | ⟨h1, h2⟩
    · have hji : j ≠ i := fun e => by subst e; simp [addD] at hd
      have hd' : D j = false := by simpa [addD, hji] using hd
      refine ⟨.inl ⟨j, hj, hd', h1, h2⟩, fun hc => ?_⟩
      rcases Nat.lt_or_gt_of_ne hji with h | h
      · have := (hv i hi).mon j h; omega
      · have := (hv j hj).mon i h; omega
    · exact ⟨.inr ⟨h1, h2⟩, fun hc => by have := htop i hi; omega⟩
  unfold wpOp
  simp only [ho]
  have gd : ∀ y, ((res i).t1 |> fun l => ∀ j b, o.guard = some (j, b) → (((ops[j]?).bind (·.dst)).bind (lk · l)) = some y → ∃ u, VR g y u ∧ (((ops[j]?).bind (·.dst)).bind fun d => a.tmps[d]?) = some u) := fun y j b hg h => by
    obtain ⟨d, h1, h2⟩ := Option.bind_eq_some_iff.1 h
    obtain ⟨u, k1, k2⟩ := hR.tm d y (rt d y h2)
    exact ⟨u, k2, by rw [h1]; exact k1⟩
  rcases hop with ⟨hw, h', hv', u1, u2⟩ | ⟨hw, hx, hu⟩
  · have hwn : Region.wanted o (yielded ops a.tmps) = true := by
      unfold wantH at hw
      split at hw
      · rename_i hg; simp [Region.wanted, hg]
      · rename_i j b hg
        split at hw
        · rename_i b' hb
          obtain ⟨u, k1, k2⟩ := gd _ j b hg hb
          simp only [VR] at k1
          subst k1
          obtain ⟨d, h1, h2⟩ := Option.bind_eq_some_iff.1 k2
          simp only [Option.some.injEq, beq_iff_eq] at hw
          simp [Region.wanted, hg, yielded, h1, h2, hw]
        · cases hw
        · cases hw
    simp only [hwn, if_true]
    refine .inl (hR.step rt ro (fun s h1 h2 => .inl ⟨i, hi, hnd, h1, h2⟩) hdN hv' htm (fun s p hs => ?_) hnew hK)
    rw [ao'] at hs
    cases e : lk s (res i).upd with
    | some q =>
      rw [e] at hs
      simp only [Option.getD_some] at hs
      subst hs
      exact .inl (u1 s p e)
    | none =>
      rw [e] at hs
      simp only [Option.getD_none] at hs
      have h2 := u2 s e
      cases e1 : lk s (res i).o1 with
      | none => exact .inr ⟨rfl, hs⟩
      | some q =>
        have := ro s q e1
        rw [hs] at this
        cases this
        exact .inl (by rw [h2, e1])
  · have hwn : Region.wanted o (yielded ops a.tmps) = false := by
      unfold wantH at hw
      split at hw
      · cases hw
      · rename_i j b hg
        split at hw
        · rename_i b' hb
          obtain ⟨u, k1, k2⟩ := gd _ j b hg hb
          simp only [VR] at k1
          subst k1
          obtain ⟨d, h1, h2⟩ := Option.bind_eq_some_iff.1 k2
          simp only [Option.some.injEq, beq_eq_false_iff_ne] at hw
          simp [Region.wanted, hg, yielded, h1, h2, hw]
        · rename_i hb
          obtain ⟨u, k1, k2⟩ := gd _ j b hg hb
          simp only [VR] at k1
          obtain ⟨us, rfl, k1⟩ := k1
          obtain ⟨d, h1, h2⟩ := Option.bind_eq_some_iff.1 k2
          simp [Region.wanted, hg, yielded, h1, h2]
        · cases hw
    simp only [hwn, Bool.false_eq_true, if_false]
    refine hK g _ w .rfl (hR.skip hdN (fun t y hy => ?_) (fun s p hs => ?_) fun s hs => (hnew s hs).1)
    · rw [← hx]; exact htm t y hy
    · rw [ao', hu] at hs
      simpa [lk] using hs
theorem exploreH (hk : k = ops.size) (hv : ∀ i, i < k → OkR C ops tb ob n0 m0 res i) (htop : ∀ i, i < k → (res i).m ≤ nk) (hN : ∀ o ∈ ops, opOK N o = true) {Q : Exit → Act → World → Prop} {g0 : Gh}
    (hQ : ∀ g a w, Ext g0 g → RQ C B N g (acc (uT res) All tb k) (acc (uO res) All ob k) (newD res k nk m0 All) a w → Q .normal a w) : ∀ (fuel : Nat) (listed : Array Bool) (g : Gh) (a : Act) (w : World), listed.size = ops.size → unl listed ≤ fuel → Closed ops (dOf listed) → Ext g0 g →
    RQ C B N g (acc (uT res) (dOf listed) tb k) (acc (uO res) (dOf listed) ob k) (newD res k nk m0 (dOf listed)) a w → wpAny C.P .any ops Q fuel listed a w := by
  have fin : ∀ (listed : Array Bool) (g : Gh) (a : Act) (w : World), (∀ j, j < k → dOf listed j = true) → Ext g0 g →
      RQ C B N g (acc (uT res) (dOf listed) tb k) (acc (uO res) (dOf listed) ob k) (newD res k nk m0 (dOf listed)) a w → Q .normal a w := fun listed g a w hall he hR => by
    refine hQ g a w he ?_
    have e1 : acc (uT res) (dOf listed) tb k = acc (uT res) All tb k := funext fun t => acc_at k fun j hj => .inl (hall j hj)
    have e2 : acc (uO res) (dOf listed) ob k = acc (uO res) All ob k := funext fun t => acc_at k fun j hj => .inl (hall j hj)
    have e3 : newD res k nk m0 (dOf listed) = newD res k nk m0 All := funext fun s => propext (or_congr (Iff.intro (fun ⟨i, h1, h2, _⟩ => by rw [hall i h1] at h2; cases h2) (fun ⟨i, h1, h2, _⟩ => by simp [All] at h2)) Iff.rfl)
    rw [e1, e2, e3] at hR
    exact hR
  have stuck : ∀ listed : Array Bool, listed.size = ops.size → Region.ready .any ops listed = [] → ∀ j, j < k → dOf listed j = true := fun listed hs h0 j => by
    induction j using Nat.strongRecOn with
    | _ j ih =>
      intro hj
      cases hd : dOf listed j with
      | true => rfl
      | false =>
        have : j ∈ Region.ready .any ops listed := (ready_iff hs).2 ⟨by omega, hd, fun e he => by
          have := (hv j hj).pr e he
          exact ih e this (by omega)⟩
        rw [h0] at this; cases this
  intro fuel
  induction fuel with
  | zero =>
    intro listed g a w hs hu hc he hR
    have hall : ∀ j, j < k → dOf listed j = true := fun j hj => unl_zero (by omega) (by omega)
    refine ⟨?_, fin listed g a w hall he hR⟩
    cases h0 : Region.ready .any ops listed with
    | nil => rfl
    | cons i l =>
      have : i ∈ Region.ready .any ops listed := by rw [h0]; simp
      obtain ⟨h1, h2, _⟩ := (ready_iff hs).1 this
      rw [hall i (by omega)] at h2; cases h2
  | succ fuel ih =>
    intro listed g a w hs hu hc he hR
    refine ⟨fun h0 => fin listed g a w (stuck listed hs h0) he hR, fun i hi => ?_⟩
    obtain ⟨h1, h2, h3⟩ := (ready_iff hs).1 hi
    refine inv_step hk hv htop hc hN (by omega) h2 h3 hR fun g' a' w' he' hR' => ?_
    rw [← dOf_set (by omega)] at hR'
    exact ih _ g' a' w' (by simp [hs]) (by have := unl_set (by omega : i < listed.size) h2; omega) (by rw [dOf_set (by omega)]; exact closed_add hc h3) (he.trans he') hR'
end
end Go.H
namespace Go.H
open Go.Abs (lk Does szOf Ex codeOK opOK edgesOf Closed dOf addD unl unl_set unl_zero dOf_set ready_iff closed_add)
def resL (rs : List RS) (j : Nat) : RS := (rs[j]?).getD ⟨[], [], .undef, [], 0, 0, none, 0⟩
theorem resL_lt {rs : List RS} {r : RS} {j : Nat} (h : j < rs.length) : resL (rs ++ [r]) j = resL rs j := by
  simp [resL, List.getElem?_append_left h]
theorem resL_eq {rs : List RS} {r : RS} : resL (rs ++ [r]) rs.length = r := by simp [resL]
section
variable {C : HC} {ops : Array Oper} {tb : Nat → Option HV} {ob : Nat → Option HO} {n0 m0 : Nat}
theorem OkR.congr {res res' : Nat → RS} {i : Nat} (h : ∀ j, j ≤ i → res j = res' j) (hr : OkR C ops tb ob n0 m0 res i) : OkR C ops tb ob n0 m0 res' i := by
  obtain ⟨h1, h2, h3, h4, h5, h6, h7, h8, h9⟩ := hr
  have e := h i (Nat.le_refl _)
  have a1 : ∀ t, acc (uT res) All tb i t = acc (uT res') All tb i t := fun t => acc_u i fun j hj => by funext s; simp only [uT, h j (by omega)]
  have a2 : ∀ t, acc (uO res) All ob i t = acc (uO res') All ob i t := fun t => acc_u i fun j hj => by funext s; simp only [uO, h j (by omega)]
  rw [e] at h1 h2 h3 h5 h8 h9
  refine ⟨h1, fun t x hx => (a1 t) ▸ h2 t x hx, fun s p hs => (a2 s) ▸ h3 s p hs, h4, fun q hq => ?_, fun j hj => ?_, fun j hj => ?_, h8, h9⟩
  · obtain ⟨e', he, h⟩ := h5 q hq
    refine ⟨e', he, h.imp_right fun h => ?_⟩
    rw [← ‹∀ j, j ≤ i → res j = res' j› e' (by have := h4 e' he; omega)]; exact h
  · rw [← h j (by omega), ← e]; exact h6 j hj
  · rw [← h j (by omega), ← e]; exact h7 j hj
theorem lk_restr {tmps : List (Nat × HV)} {t : Nat} {x : HV} : ∀ {l : List Operand}, lk t (restr tmps l) = some x → lk t tmps = some x
  | [], h => by simp [restr, lk] at h
  | .tmp u :: l, h => by
    simp only [restr] at h
    split at h
    · rename_i y hy
      simp only [lk] at h
      split at h
      · rename_i e; subst e; rw [hy]; exact h
      · exact lk_restr h
    · exact lk_restr h
  | .const _ :: l, h => lk_restr (l := l) (by simpa [restr] using h)
  | .global _ :: l, h => lk_restr (l := l) (by simpa [restr] using h)
  | .func _ :: l, h => lk_restr (l := l) (by simpa [restr] using h)
theorem maskOf_spec {rs : List RS} {q : Nat} : ∀ {es : List Nat}, Nat.testBit (maskOf rs es) q = true → ∃ e ∈ es, q = e ∨ Nat.testBit (resL rs e).p q = true
  | [], h => by simp [maskOf] at h
  | e :: es, h => by
    simp only [maskOf, Nat.testBit_or, Bool.or_eq_true] at h
    rcases h with h | h | h
    · rw [Nat.testBit_shiftLeft] at h
      simp only [Bool.and_eq_true, decide_eq_true_eq] at h
      have := testBit_one h.2
      exact ⟨e, by simp, .inl (by omega)⟩
    · refine ⟨e, by simp, .inr ?_⟩
      cases h1 : rs[e]? with
      | none => rw [h1] at h; simp at h
      | some r => rw [h1] at h; simpa [resL, h1] using h
    · obtain ⟨e', h1, h2⟩ := maskOf_spec h
      exact ⟨e', by simp [h1], h2⟩
theorem apartAll_spec {b : RS} : ∀ {rs : List RS} {i : Nat}, apartAll b i rs = true → ∀ j, j < rs.length → Nat.testBit b.p (i + j) = true ∨ apartB (resL rs j) b = true
  | [], _, _, j, hj => by simp at hj
  | a :: rs, i, h, j, hj => by
    simp only [apartAll, Bool.and_eq_true, Bool.or_eq_true] at h
    cases j with
    | zero => simpa [resL] using h.1
    | succ j =>
      have := apartAll_spec h.2 j (by simpa using hj)
      have e : i + 1 + j = i + (j + 1) := by omega
      rw [e] at this
      simpa [resL] using this
theorem rec_spec {pure : Oper → HS → Option HV} {step : Oper → HS → Option (HV × HS)} (hp : ∀ o h x, pure o h = some x → OpV C o h x h) (hs : ∀ o h x h', step o h = some (x, h') → OpV C o h x h') {fuel : Nat} {o : Oper} {p : Nat} {h : HS} {r : RS} (hr : recH pure step fuel ops o p h = some r) :
    r.dst = o.dst ∧ r.p = p ∧ r.n = h.n ∧ (r.n < r.m → r.m ≤ h.m) ∧ r.n ≤ r.m ∧ (∀ t x, lk t r.t1 = some x → lk t h.tmps = some x) ∧ (∀ s q, lk s r.o1 = some q → lk s h.objs = some q) ∧
    ((wantH ops o r.t1 = some true ∧ ∃ h', OpV C o ⟨r.t1, r.o1, r.n, r.m⟩ r.x h' ∧ (∀ s p, lk s r.upd = some (some p) → lk s h'.objs = some p) ∧ (∀ s, lk s r.upd = none → lk s h'.objs = lk s r.o1)) ∨ (wantH ops o r.t1 = some false ∧ r.x = .tup [] ∧ r.upd = [])) := by
  have h1 : ∀ t x, lk t (readH ops o h.tmps) = some x → lk t h.tmps = some x := fun t x hx => lk_restr hx
  have h2 : ∀ s q, lk s (footO fuel h o) = some q → lk s h.objs = some q := fun s q hq => by
    unfold footO at hq
    split at hq
    · exact lk_reachO fuel _ [] (fun s p h => by simp [lk] at h) s q hq
    · split at hq
      · exact lk_pick hq
      · exact lk_pick hq
  unfold recH at hr
  dsimp only at hr
  split at hr
  · cases hr
  · rename_i hw
    cases hr
    exact ⟨rfl, rfl, rfl, fun h => by simp at h, Nat.le_refl _, h1, fun s q h => by simp [lk] at h, .inr ⟨hw, rfl, rfl⟩⟩
  · rename_i hw
    split at hr
    · rename_i x hx
      cases hr
      exact ⟨rfl, rfl, rfl, fun h => by simp at h, Nat.le_refl _, h1, h2, .inl ⟨hw, _, hp _ _ _ hx, fun s p h => by simp [lk] at h, fun s _ => rfl⟩⟩
    · split at hr
      · rename_i x h' hx
        split at hr
        · rename_i hm
          cases hr
          refine ⟨rfl, rfl, rfl, fun _ => Nat.le_of_ble_eq_true hm, ?_, h1, h2, .inl ⟨hw, h', hs _ _ _ _ hx, fun s p hq => ?_, fun s hq => ?_⟩⟩
          · show h.n ≤ quota o h
            unfold quota; split <;> omega
          · dsimp only at hq
            rw [lk_updOf] at hq
            split at hq
            · rename_i q e; rw [e]; simpa using hq
            · simp at hq
            · cases hq
          · dsimp only at hq
            rw [lk_updOf] at hq
            split at hq
            · cases hq
            · cases hq
            · rename_i e1 e2; rw [e1, e2]
        · cases hr
      · cases hr
structure GoI (C : HC) (ops : Array Oper) (h0 : HS) (rs : List RS) (h : HS) : Prop where
  ok : ∀ i, i < rs.length → OkR C ops (lk · h0.tmps) (lk · h0.objs) h0.n h0.m (resL rs) i
  tm : ∀ t, lk t h.tmps = acc (uT (resL rs)) All (lk · h0.tmps) rs.length t
  ob : ∀ s, lk s h.objs = acc (uO (resL rs)) All (lk · h0.objs) rs.length s
  top : ∀ i, i < rs.length → (resL rs i).m ≤ h.n
  mm : h.m = h0.m
  lo : h0.n ≤ h.n
theorem goH_sound {pure : Oper → HS → Option HV} {step : Oper → HS → Option (HV × HS)} (hp : ∀ o h x, pure o h = some x → OpV C o h x h) (hs : ∀ o h x h', step o h = some (x, h') → OpV C o h x h') {fuel : Nat} {h0 h' : HS} :
    ∀ (os : List Oper) (rs : List RS) (h : HS), os = ops.toList.drop rs.length → rs.length ≤ ops.size → GoI C ops h0 rs h → goH pure step fuel ops os rs h = some h' → ∃ rs', rs'.length = ops.size ∧ GoI C ops h0 rs' h'
  | [], rs, h, he, hl, hg, hr => by
    simp only [goH, Option.some.injEq] at hr
    subst hr
    refine ⟨rs, ?_, hg⟩
    have := congrArg List.length he
    simp at this
    omega
  | o :: os, rs, h, he, hl, hg, hr => by
    simp only [goH] at hr
    split at hr
    · rename_i hes
      split at hr
      · rename_i r hrec
        split at hr
        · rename_i hap
          have hlt : rs.length < ops.size := by
            have := congrArg List.length he
            simp at this
            omega
          have hget : ops[rs.length]? = some o := by
            have := congrArg (·[0]?) he
            simpa using this.symm
          obtain ⟨r1, r2, r3, r4, r5, r6, r7, r8⟩ := rec_spec hp hs hrec
          have hlen : (rs ++ [r]).length = rs.length + 1 := by simp
          have a1 : ∀ t, acc (uT (resL (rs ++ [r]))) All (lk · h0.tmps) rs.length t = lk t h.tmps := fun t => by
            rw [hg.tm t]; exact acc_u _ fun j hj => by funext s; simp only [uT, resL_lt hj]
          have a2 : ∀ t, acc (uO (resL (rs ++ [r]))) All (lk · h0.objs) rs.length t = lk t h.objs := fun t => by
            rw [hg.ob t]; exact acc_u _ fun j hj => by funext s; simp only [uO, resL_lt hj]
          refine goH_sound hp hs os (rs ++ [r]) _ ?_ (by omega) ⟨fun i hi => ?_, fun t => ?_, fun s => ?_, fun i hi => ?_, ?_, ?_⟩ hr
          · rw [hlen, ← List.drop_drop, ← he]; rfl
          · rw [hlen] at hi
            by_cases hi' : i < rs.length
            · exact (hg.ok i hi').congr fun j hj => (resL_lt (by omega)).symm
            · have : i = rs.length := by omega
              subst this
              refine ⟨⟨o, hget, by rw [resL_eq]; exact r1, by rw [resL_eq]; exact r8⟩, fun t x hx => ?_, fun s q hq => ?_, fun e hee => ?_, fun q hq => ?_, fun j hj => ?_, fun j hj => ?_, ?_, ?_⟩
              · rw [a1]; rw [resL_eq] at hx; exact r6 t x hx
              · rw [a2]; rw [resL_eq] at hq; exact r7 s q hq
              · have := List.all_eq_true.1 hes e hee
                simpa [Nat.blt_eq] using this
              · rw [resL_eq, r2] at hq
                obtain ⟨e, h1, h2⟩ := maskOf_spec hq
                have hlt' : e < rs.length := by
                  have := List.all_eq_true.1 hes e h1
                  simpa [Nat.blt_eq] using this
                exact ⟨e, h1, by rw [resL_lt hlt']; exact h2⟩
              · rw [resL_eq, resL_lt hj]
                have := apartAll_spec hap j hj
                simpa using this
              · rw [resL_eq, resL_lt hj, r3]; exact hg.top j hj
              · rw [resL_eq, r3]; exact hg.lo
              · rw [resL_eq]; intro hlt'; rw [← hg.mm]; exact r4 hlt'
          · rw [hlen]
            have a1' : acc (uT (resL (rs ++ [r]))) All (lk · h0.tmps) rs.length t = lk t h.tmps := a1 t
            have hA : All rs.length = true := rfl
            simp only [acc, hA, if_true, a1']
            simp only [uT, resL_eq, r1]
            cases hd : o.dst with
            | none => simp [HS.put]
            | some d =>
              simp only [HS.put, lk]
              by_cases hdt : d = t
              · simp [hdt]
              · simp [hdt]
          · rw [hlen]
            have a2' : acc (uO (resL (rs ++ [r]))) All (lk · h0.objs) rs.length s = lk s h.objs := a2 s
            have hA : All rs.length = true := rfl
            simp only [acc, hA, if_true, a2']
            simp only [uO, resL_eq]
            rw [← lk_putU]
            cases o.dst <;> rfl
          · rw [hlen] at hi
            have hn : ((⟨h.tmps, putU r.upd h.objs, r.m, h.m⟩ : HS).put o.dst r.x).n = r.m := by cases o.dst <;> rfl
            rw [hn]
            by_cases hi' : i < rs.length
            · rw [resL_lt hi']
              have := hg.top i hi'
              omega
            · have : i = rs.length := by omega
              subst this
              rw [resL_eq]; exact Nat.le_refl _
          · have hn : ((⟨h.tmps, putU r.upd h.objs, r.m, h.m⟩ : HS).put o.dst r.x).m = h.m := by cases o.dst <;> rfl
            rw [hn]; exact hg.mm
          · have hn : ((⟨h.tmps, putU r.upd h.objs, r.m, h.m⟩ : HS).put o.dst r.x).n = r.m := by cases o.dst <;> rfl
            rw [hn]
            have := hg.lo
            omega
        · cases hr
      · cases hr
    · cases hr
theorem drawH_sound {fuel : Nat} (hm : C.P.follows .mixedOrders = true) {pure : Oper → HS → Option HV} {step : Oper → HS → Option (HV × HS)} (hp : ∀ o h x, pure o h = some x → OpV C o h x h) (hs : ∀ o h x h', step o h = some (x, h') → OpV C o h x h')
    {h0 h' : HS} (hr : drawH fuel pure step ops h0 = some h') : DrawS C ops h0 h' := by
  intro B N g a w hN hR id Q hQ
  obtain ⟨rs, hl, hg⟩ := goH_sound hp hs ops.toList [] h0 (by simp) (by simp) ⟨fun i hi => by simp at hi, fun t => rfl, fun s => rfl, fun i hi => by simp at hi, rfl, Nat.le_refl _⟩ hr
  have hR := hR.drew
  have hnD : ∀ D s, newD (resL rs) ops.size h'.n h0.m D s → h0.n ≤ s ∧ s < h0.m := fun D s h => by
    have := hg.lo
    rcases h with ⟨i, h1, _, h2, h3⟩ | ⟨h1, h2⟩
    · have := (hg.ok i (by omega)).lo
      have := (hg.ok i (by omega)).hi (by omega)
      omega
    · omega
  have hf : ∀ j, j < ops.size → dOf (Array.replicate ops.size false) j = false := fun j hj => by simp [dOf, Array.getD, hj]
  refine wp_region_any hm (exploreH (B := B) (res := resL rs) (tb := (lk · h0.tmps)) (ob := (lk · h0.objs)) (n0 := h0.n) (m0 := h0.m) (nk := h'.n) (g0 := g) rfl (fun i hi => hg.ok i (by omega)) (fun i hi => hg.top i (by omega)) hN (fun g' a' w' he hR' => hQ g' a' w' he ?_) ops.size (Array.replicate ops.size false) g a _ (by simp) (by simp [unl]) ?_ .rfl ?_)
  · obtain ⟨z1, z2, z3, h1, h2, h2', h3, h4, h5, h6⟩ := hR'
    rw [← hl] at z3 h1 h3 h5
    refine ⟨z1, z2, fun t x hx => z3 t x (by rw [← hg.tm]; exact hx), fun s p hs => h1 s p (by rw [← hg.ob]; exact hs), ⟨fun s k1 k2 => h2 s (.inr ⟨k1, by rw [← hg.mm]; exact k2⟩), fun s hs => ⟨(h2' s hs).1, ?_⟩⟩, fun s t o p G G' hs ht => h3 s t o p G G' (by rw [← hg.ob]; exact hs) (by rw [← hg.ob]; exact ht), h4, fun s p G hs => h5 s p G (by rw [← hg.ob]; exact hs), h6⟩
    apply Classical.byContradiction
    intro hc
    exact (h2' s hs).2 (.inr ⟨by omega, by have := hg.mm; omega⟩)
  · intro i hi hD
    rw [hf i hi] at hD; cases hD
  · have e1 : ∀ t, acc (uT (resL rs)) (dOf (Array.replicate ops.size false)) (lk · h0.tmps) ops.size t = lk t h0.tmps := fun t => acc_cut (i := 0) ops.size (by omega) fun j _ hj => hf j hj
    have e2 : ∀ t, acc (uO (resL rs)) (dOf (Array.replicate ops.size false)) (lk · h0.objs) ops.size t = lk t h0.objs := fun t => acc_cut (i := 0) ops.size (by omega) fun j _ hj => hf j hj
    obtain ⟨z1, z2, z3, h1, h2, h3, h4, h5, h6⟩ := hR
    refine ⟨z1, z2, fun t x hx => z3 t x (by rw [← e1]; exact hx), fun s p hs => h1 s p (by rw [← e2]; exact hs), fun s hs => ?_, fun s hs => ⟨(h2.2 s hs).1, fun hc => ?_⟩, fun s t o p G G' hs ht => h3 s t o p G G' (by rw [← e2]; exact hs) (by rw [← e2]; exact ht), h4, fun s p G hs => h5 s p G (by rw [← e2]; exact hs), h6⟩
    · obtain ⟨k1, k2⟩ := hnD _ s hs
      exact h2.1 s k1 k2
    · have := hnD _ s hc
      have := (h2.2 s hs).2
      omega
end
end Go.H
namespace Go.H
open Go.Abs (lk Does szOf Ex codeOK opOK)
def W0 : How := ⟨fun pure step ops h => drawH 3000 pure step ops h, fun _ _ h => h, 3000, 3000⟩
theorem W0_ok {C : HC} (hm : C.P.follows .mixedOrders = true) : W0.OK C :=
  ⟨fun _ _ hp hs _ _ _ hr => drawH_sound hm hp hs hr, fun _ _ _ _ _ _ _ _ _ hR => hR⟩
end Go.H
