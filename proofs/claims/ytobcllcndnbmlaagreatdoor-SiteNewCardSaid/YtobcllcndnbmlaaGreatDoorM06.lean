/- part 6 of the proof -/
import Derived.Defers
import Derived.WalkKit
import Derived.ProofKit
import GoSem.ClaimSeven
import Derived.Test.YtobcllcndnbmlaaGreatDoorM05
set_option linter.all false
namespace Go.Abs
def addB (b : Nat → Bool) (i : Nat) : Nat → Bool := fun j => b j || decide (j = i)
def fixN (b : Nat → Bool) : List Nat → Nat → Bool
  | [] => b
  | n :: ns => fun j => if j = n then false else fixN b ns j
def fixB (b : Nat → Bool) : List Nat → List Nat → Nat → Bool
  | [], ns => fixN b ns
  | p :: ps, ns => fun j => if j = p then true else fixB b ps ns j
def clos (ops : Array Oper) (b : Nat → Bool) : Prop := ∀ j, j < ops.size → b j = true → ∀ e ∈ edgesOf ops j, b e = true
def lowOK (ops : Array Oper) : Bool := (List.range ops.size).all fun i => (edgesOf ops i).all fun e => decide (e < i)
def chainP (ops : Array Oper) (i : Nat) : List Nat → List Nat → Bool
  | _, [] => true
  | seen, p :: ps => ((edgesOf ops i).contains p || seen.any fun q => decide (q < ops.size) && (edgesOf ops q).contains p) && chainP ops i (p :: seen) ps
def chainN (ops : Array Oper) (i : Nat) : List Nat → List Nat → Bool
  | _, [] => true
  | seen, n :: ns => decide (n < ops.size) && ((edgesOf ops n).contains i || seen.any fun q => (edgesOf ops n).contains q) && chainN ops i (n :: seen) ns
def okE (ops : Array Oper) (E : List (Nat × List Nat × List Nat)) : Bool := lowOK ops && (E.map (·.1) == List.range ops.size) && E.all fun e => chainP ops e.1 [] e.2.1 && chainN ops e.1 [] e.2.2
def symP (X : Env) (ops : Array Oper) (S : (Nat → Bool) → St) (b : Nat → Bool) : List (Nat × List Nat × List Nat) → Prop
  | [] => True
  | (i, ps, ns) :: l => opsA X ops (opAt ops i) (fun st' => Imp X st' (S (addB (fixB b ps (i :: ns)) i))) (S (fixB b ps (i :: ns))) ∧ symP X ops S b l
section
variable {X : Env} {A : A0} {N : Nat} {ops : Array Oper}
theorem fixN_eq {b : Nat → Bool} : ∀ {ns : List Nat}, (∀ n ∈ ns, b n = false) → fixN b ns = b
  | [], _ => rfl
  | n :: ns, hn => by
    funext j
    simp only [fixN]
    split
    · rename_i h; subst h; exact (hn j (by simp)).symm
    · rw [fixN_eq fun m hm => hn m (by simp [hm])]
theorem fixB_eq {b : Nat → Bool} : ∀ {ps ns : List Nat}, (∀ p ∈ ps, b p = true) → (∀ n ∈ ns, b n = false) → fixB b ps ns = b
  | [], ns, _, hn => fixN_eq hn
  | p :: ps, ns, hp, hn => by
    funext j
    simp only [fixB]
    split
    · rename_i h; subst h; exact (hp j (by simp)).symm
    · rw [fixB_eq (fun m hm => hp m (by simp [hm])) hn]
theorem chainP_spec {b : Nat → Bool} (hc : clos ops b) {i : Nat} (hi : ∀ e ∈ edgesOf ops i, b e = true) : ∀ (ps seen : List Nat), (∀ q ∈ seen, b q = true) → chainP ops i seen ps = true → ∀ p ∈ ps, b p = true
  | [], _, _, _, p, hp => by cases hp
  | p :: ps, seen, hs, h, p', hp' => by
    simp only [chainP, Bool.and_eq_true, Bool.or_eq_true, List.any_eq_true, decide_eq_true_eq, List.contains_iff_mem] at h
    have h1 : b p = true := by
      rcases h.1 with h1 | ⟨q, hq, h2, h3⟩
      · exact hi p h1
      · exact hc q h2 (hs q hq) p h3
    rcases List.mem_cons.1 hp' with rfl | hp'
    · exact h1
    · exact chainP_spec hc hi ps (p :: seen) (fun q hq => by rcases List.mem_cons.1 hq with rfl | hq; exact h1; exact hs q hq) h.2 p' hp'
theorem chainN_spec {b : Nat → Bool} (hc : clos ops b) {i : Nat} (hi : b i = false) : ∀ (ns seen : List Nat), (∀ q ∈ seen, b q = false) → chainN ops i seen ns = true → ∀ n ∈ ns, b n = false
  | [], _, _, _, p, hp => by cases hp
  | n :: ns, seen, hs, h, n', hn' => by
    simp only [chainN, Bool.and_eq_true, Bool.or_eq_true, List.any_eq_true, decide_eq_true_eq, List.contains_iff_mem] at h
    have h1 : b n = false := by
      cases hb : b n with
      | false => rfl
      | true =>
        rcases h.1.2 with h2 | ⟨q, hq, h2⟩
        · have := hc n h.1.1 hb i h2; rw [hi] at this; cases this
        · have := hc n h.1.1 hb q h2; rw [hs q hq] at this; cases this
    rcases List.mem_cons.1 hn' with rfl | hn'
    · exact h1
    · exact chainN_spec hc hi ns (n :: seen) (fun q hq => by rcases List.mem_cons.1 hq with rfl | hq; exact h1; exact hs q hq) h.2 n' hn'
theorem symP_mem {S : (Nat → Bool) → St} {b : Nat → Bool} {e : Nat × List Nat × List Nat} : ∀ {E : List (Nat × List Nat × List Nat)}, symP X ops S b E → e ∈ E → opsA X ops (opAt ops e.1) (fun st' => Imp X st' (S (addB (fixB b e.2.1 (e.1 :: e.2.2)) e.1))) (S (fixB b e.2.1 (e.1 :: e.2.2)))
  | [], _, h => by cases h
  | (i, ps, ns) :: l, h, hm => by
    simp only [symP] at h
    rcases List.mem_cons.1 hm with rfl | hm
    · exact h.1
    · exact symP_mem h.2 hm
theorem sym_sound (hA : A.ext = X.ext) (hX : ∀ s ∈ X.ext, s % 32 = 31) (hN : RegN N ops) {Q : Exit → Act → World → Prop} {K : St → Prop} (hQ : ∀ g st a w, R X.C A N g st a w → K st → Q .normal a w)
    {E : List (Nat × List Nat × List Nat)} {S : (Nat → Bool) → St} (hok : okE ops E = true) (hs : ∀ b, symP X ops S b E) (he : ∀ b, (∀ j, j < ops.size → b j = true) → K (S b)) :
    ∀ (fuel : Nat) (b : Nat → Bool) (listed : Array Bool) (g : Gh) (a : Act) (w : World), listed.size = ops.size → unl listed ≤ fuel → (∀ j, j < ops.size → dOf listed j = b j) → clos ops b → R X.C A N g (S b) a w →
      wpAny X.C.P .any ops Q fuel listed a w := by
  simp only [okE, Bool.and_eq_true, List.all_eq_true, beq_iff_eq] at hok
  obtain ⟨⟨hlow, hE⟩, hch⟩ := hok
  simp only [lowOK, List.all_eq_true, List.mem_range, decide_eq_true_eq] at hlow
  have all : ∀ (b : Nat → Bool) (listed : Array Bool), listed.size = ops.size → (∀ j, j < ops.size → dOf listed j = b j) → Region.ready .any ops listed = [] → ∀ j, j < ops.size → b j = true := by
    intro b listed hsz hd h0 j
    induction j using Nat.strongRecOn with
    | _ j ih =>
      intro hj
      cases hb : b j with
      | true => rfl
      | false =>
        have hmem : j ∈ Region.ready .any ops listed := (ready_iff hsz).2 ⟨hj, by rw [hd j hj]; exact hb, fun e hee => by
          have hlt := hlow j hj e hee
          rw [hd e (by omega)]; exact ih e hlt (by omega)⟩
        rw [h0] at hmem; cases hmem
  intro fuel
  induction fuel with
  | zero =>
    intro b listed g a w hsz hu hd hcl hR
    have h0 : Region.ready .any ops listed = [] := by
      cases hrd : Region.ready .any ops listed with
      | nil => rfl
      | cons j l' =>
        have hj : j ∈ Region.ready .any ops listed := by rw [hrd]; simp
        obtain ⟨k1, k2, _⟩ := (ready_iff hsz).1 hj
        rw [unl_zero (by omega) (by omega : j < listed.size)] at k2
        cases k2
    exact ⟨h0, hQ g _ a w hR (he b (all b listed hsz hd h0))⟩
  | succ fuel ih =>
    intro b listed g a w hsz hu hd hcl hR
    refine ⟨fun h0 => hQ g _ a w hR (he b (all b listed hsz hd h0)), fun j hj => ?_⟩
    obtain ⟨k1, k2, k3⟩ := (ready_iff hsz).1 hj
    have hnb : b j = false := by rw [← hd j k1]; exact k2
    have hpre : ∀ e ∈ edgesOf ops j, b e = true := fun e hee => by
      have h5 := k3 e hee
      have hlt := hlow j k1 e hee
      rw [hd e (by omega)] at h5; exact h5
    obtain ⟨e, heE, rfl⟩ : ∃ e, e ∈ E ∧ e.1 = j := by
      have : j ∈ E.map (·.1) := by rw [hE]; exact List.mem_range.2 k1
      obtain ⟨e, h1, h2⟩ := List.mem_map.1 this
      exact ⟨e, h1, h2⟩
    have hc := hch e heE
    have hop := symP_mem (hs b) heE
    rw [fixB_eq (chainP_spec hcl hpre _ [] (fun _ h => by cases h) hc.1) (fun n hn => by
      rcases List.mem_cons.1 hn with rfl | hn
      · exact hnb
      · exact chainN_spec hcl hnb _ [] (fun _ h => by cases h) hc.2 n hn)] at hop
    have ho : ops[e.1]? = some ops[e.1] := Array.getElem?_eq_getElem k1
    simp only [opAt, ho, opsA] at hop
    refine op_sound hA hX ho (fun g' st' a' w' hR' hK' => ?_) (hN.1 _ (Array.getElem_mem k1)) hop hR
    obtain ⟨g2, hR2⟩ := hK' A N g' a' w' hA hR'
    refine ih (addB b e.1) _ g2 a' w' (by simp [hsz]) (by have := unl_set (by omega : e.1 < listed.size) k2; omega) (fun j' hj' => ?_) (fun j' hj' hb' e' he' => ?_) hR2
    · rw [dOf_set (by omega)]
      simp only [addD, addB]
      by_cases hjj : j' = e.1
      · subst hjj; simp
      · simp [hjj, hd j' hj']
    · simp only [addB, Bool.or_eq_true, decide_eq_true_eq] at hb' ⊢
      rcases hb' with hb' | rfl
      · exact .inl (hcl j' hj' hb' e' he')
      · exact .inl (hpre e' he')
end
theorem draw_sym {X : Env} {ops : Array Oper} {K : St → Prop} {st : St} (E : List (Nat × List Nat × List Nat)) (S : (Nat → Bool) → St) (h0 : Imp X st (S fun _ => false)) (hs : ∀ b, symP X ops S b E) (he : ∀ b, K (S (fixB b (List.range ops.size) []))) (hm : X.C.P.follows .mixedOrders = true)
    (hok : (edgesOK ops && okE ops E) = true := by kernel_rfl) : drawA X ops K st := by
  refine drawA_imp h0 ?_
  intro A N g a w hA hN hX hR id Q hQ
  simp only [Bool.and_eq_true] at hok
  refine wp_region_any hm ?_
  refine sym_sound hA hX (N := N) (K := K) ⟨fun o ho => ?_, fun i hi e he => ?_⟩ hQ hok.2 hs (fun b hb => ?_) ops.size (fun _ => false) (Array.replicate ops.size false) g a _ (by simp) (by simp [unl]) (fun j hj => by simp [dOf, Array.getD, hj]) (fun _ _ h => by cases h) hR.drew
  · unfold opOK
    cases hd : o.dst with
    | none => rfl
    | some d => simp; exact hN o ho d hd
  · have := hok.1
    simp only [edgesOK, List.all_eq_true, List.mem_range, decide_eq_true_eq] at this
    exact this i hi e he
  · have := he b
    rw [fixB_eq (fun p hp => hb p (List.mem_range.1 hp)) (fun _ h => by cases h)] at this
    exact this
def selb (b : Nat → Bool) : List (Nat × Nat × AV × List Nat) → List (Nat × AV) → List (Nat × AV)
  | [], base => base
  | (i, t, x, ks) :: l, base => if b i then (t, if ks.any b then .undef else x) :: selb b l base else selb b l base
def AV.kills : List (List Nat × List Nat) → AV → AV
  | [], x => x
  | (r, m) :: K, x => AV.kills K (x.kill r m)
def killsT : List (List Nat × List Nat) → List (Nat × AV) → List (Nat × AV)
  | [], l => l
  | (r, m) :: K, l => killsT K (killT r m l)
theorem lk_killsT : ∀ (K : List (List Nat × List Nat)) (k : Nat) (l : List (Nat × AV)), lk k (killsT K l) = (lk k l).map (AV.kills K)
  | [], k, l => by simp only [killsT]; cases lk k l <;> rfl
  | (r, m) :: K, k, l => by
    simp only [killsT, lk_killsT K, lk_killT]
    cases lk k l <;> rfl
theorem kills_undef : ∀ K, AV.kills K .undef = .undef
  | [] => rfl
  | (r, m) :: K => by simp only [AV.kills, AV.kill, AV.mapH]; exact kills_undef K
@[go_sem] theorem lk_selb (k : Nat) (b : Nat → Bool) (j t : Nat) (x : AV) (ks : List Nat) (l : List (Nat × Nat × AV × List Nat)) (base : List (Nat × AV)) : lk k (selb b ((j, t, x, ks) :: l) base) = if t = k then (if b j then some (if ks.any b then .undef else x) else lk k (selb b l base)) else lk k (selb b l base) := by
  simp only [selb]
  split
  · simp only [lk]
  · split <;> rfl
@[go_sem] theorem lk_selb_nil (k : Nat) (b : Nat → Bool) (base : List (Nat × AV)) : lk k (selb b [] base) = lk k base := rfl
@[go_sem] theorem fixB_cons (b : Nat → Bool) (p : Nat) (ps ns : List Nat) (j : Nat) : fixB b (p :: ps) ns j = if j = p then true else fixB b ps ns j := rfl
@[go_sem] theorem fixB_nil (b : Nat → Bool) (ns : List Nat) (j : Nat) : fixB b [] ns j = fixN b ns j := rfl
@[go_sem] theorem fixN_cons (b : Nat → Bool) (n : Nat) (ns : List Nat) (j : Nat) : fixN b (n :: ns) j = if j = n then false else fixN b ns j := rfl
@[go_sem] theorem fixN_nil (b : Nat → Bool) (j : Nat) : fixN b [] j = b j := rfl
@[go_sem] theorem any_nil' {α : Type} (p : α → Bool) : ([] : List α).any p = false := rfl
@[go_sem] theorem any_cons' {α : Type} (p : α → Bool) (a : α) (l : List α) : (a :: l).any p = (p a || l.any p) := rfl
attribute [go_sem] symP
def stepE (b : Nat → Bool) (i d : Nat) (y : AV) (K : List (List Nat × List Nat)) : List (Nat × Nat × AV × List Nat) → Prop
  | [] => True
  | (j, t, x, ks) :: l => (if j = i then t = d ∧ ks.any (addB b i) = false ∧ WeakV y x else t ≠ d ∧ (b j = false ∨ i ∈ ks ∨ AV.kills K x = x)) ∧ stepE b i d y K l
def baseE (K : List (List Nat × List Nat)) (S : List (Nat × AV)) (d : Nat) (y : AV) : List (Nat × AV) → Prop
  | [] => True
  | (k, x) :: l => (if d = k then WeakV y x else ∃ z, lk k S = some z ∧ WeakV (AV.kills K z) x) ∧ baseE K S d y l
theorem stepE_mem {b : Nat → Bool} {i d : Nat} {y : AV} {K : List (List Nat × List Nat)} {e : Nat × Nat × AV × List Nat} : ∀ {l : List (Nat × Nat × AV × List Nat)}, stepE b i d y K l → e ∈ l → if e.1 = i then e.2.1 = d ∧ e.2.2.2.any (addB b i) = false ∧ WeakV y e.2.2.1 else e.2.1 ≠ d ∧ (b e.1 = false ∨ i ∈ e.2.2.2 ∨ AV.kills K e.2.2.1 = e.2.2.1)
  | [], _, h => by cases h
  | (j, t, x, ks) :: l, h, hm => by
    simp only [stepE] at h
    rcases List.mem_cons.1 hm with rfl | hm
    · exact h.1
    · exact stepE_mem h.2 hm
theorem selb_lk {b : Nat → Bool} {base : List (Nat × AV)} {e : Nat × Nat × AV × List Nat} : ∀ {l : List (Nat × Nat × AV × List Nat)}, (l.map (·.2.1)).Nodup → e ∈ l → b e.1 = true → lk e.2.1 (selb b l base) = some (if e.2.2.2.any b then .undef else e.2.2.1)
  | [], _, h, _ => by cases h
  | (j, t, x, ks) :: l, hn, hm, hb => by
    rw [lk_selb]
    rw [List.map_cons, List.nodup_cons] at hn
    rcases List.mem_cons.1 hm with rfl | hm
    · simp [hb]
    · have : t ≠ e.2.1 := fun h => hn.1 (List.mem_map.2 ⟨e, hm, h.symm⟩)
      rw [if_neg this]
      exact selb_lk hn.2 hm hb
theorem sel_step {X : Env} {b : Nat → Bool} {i d : Nat} {y : AV} {ents : List (Nat × Nat × AV × List Nat)} {base base' : List (Nat × AV)} {o o' : List (Nat × List AV)} {T : List (Nat × AV)} (K : List (List Nat × List Nat)) (hT : T = killsT K (selb b ents base)) (hn : decide (ents.map (·.2.1)).Nodup = true) (hst : stepE b i d y K ents) (hb : baseE K (selb b ents base) d y base')
    (ho : WeakO ⟨(d, y) :: T, o⟩ o') : Imp X ⟨(d, y) :: T, o⟩ ⟨selb (addB b i) ents base', o'⟩ := by
  subst hT
  have hn := of_decide_eq_true hn
  refine Imp.weak ?_ ho
  have hbase : ∀ {bs : List (Nat × AV)}, baseE K (selb b ents base) d y bs → WeakT ⟨(d, y) :: killsT K (selb b ents base), o⟩ bs := by
    intro bs
    induction bs with
    | nil => intro _; trivial
    | cons p bs ih =>
      obtain ⟨k, x⟩ := p
      intro h
      simp only [baseE] at h
      refine ⟨?_, ih h.2⟩
      by_cases hk : d = k
      · rw [if_pos hk] at h
        exact ⟨y, by simp only [lk, if_pos hk], h.1⟩
      · rw [if_neg hk] at h
        obtain ⟨⟨z, h3, h4⟩, _⟩ := h
        exact ⟨AV.kills K z, by simp only [lk, if_neg hk, lk_killsT, h3, Option.map_some], h4⟩
  suffices H : ∀ l : List (Nat × Nat × AV × List Nat), (∀ e ∈ l, e ∈ ents) → WeakT ⟨(d, y) :: killsT K (selb b ents base), o⟩ (selb (addB b i) l base') from H ents fun _ h => h
  intro l
  induction l with
  | nil => intro _; exact hbase hb
  | cons e l ih =>
    intro hl
    have hm := hl e (by simp)
    have h1 := stepE_mem hst hm
    have h2 := ih fun e' he' => hl e' (by simp [he'])
    obtain ⟨j, t, x, ks⟩ := e
    simp only [selb]
    split
    · rename_i hj
      refine ⟨?_, h2⟩
      simp only at h1
      by_cases hji : j = i
      · rw [if_pos hji] at h1
        obtain ⟨rfl, h3, h4⟩ := h1
        exact ⟨y, by simp only [lk, if_true], by rw [h3]; exact h4⟩
      · rw [if_neg hji] at h1
        have hbj : b j = true := by simpa [addB, hji] using hj
        have hlk := selb_lk (base := base) hn hm hbj
        simp only at hlk
        refine ⟨AV.kills K (if ks.any b = true then .undef else x), by simp only [lk, Ne.symm h1.1, if_false, lk_killsT, hlk, Option.map_some], ?_⟩
        by_cases hk : ks.any (addB b i) = true
        · rw [if_pos hk]; exact .undef
        · have hk1 : ¬ ks.any b = true := fun h => by
            obtain ⟨q, hq, hbq⟩ := List.any_eq_true.1 h
            exact hk (List.any_eq_true.2 ⟨q, hq, by simp [addB, hbq]⟩)
          rw [if_neg hk, if_neg hk1]
          rcases h1.2 with h3 | h3 | h3
          · rw [hbj] at h3; cases h3
          · exact absurd (List.any_eq_true.2 ⟨i, h3, by simp [addB]⟩) hk
          · rw [h3]
            exact .rfl
    · exact h2
attribute [go_sem] stepE baseE AV.kills Bool.or_self Bool.or_false Bool.false_or ne_eq not_false_eq_true List.all_cons List.all_nil List.mem_cons List.not_mem_nil Bool.and_self or_false false_or or_true true_or
def stepS (b : Nat → Bool) (i : Nat) (K : List (List Nat × List Nat)) : List (Nat × Nat × AV × List Nat) → Prop
  | [] => True
  | (j, _, x, ks) :: l => (j ≠ i ∧ (b j = false ∨ i ∈ ks ∨ AV.kills K x = x)) ∧ stepS b i K l
def baseS (K : List (List Nat × List Nat)) (S : List (Nat × AV)) : List (Nat × AV) → Prop
  | [] => True
  | (k, x) :: l => (∃ z, lk k S = some z ∧ WeakV (AV.kills K z) x) ∧ baseS K S l
theorem stepS_mem {b : Nat → Bool} {i : Nat} {K : List (List Nat × List Nat)} {e : Nat × Nat × AV × List Nat} : ∀ {l : List (Nat × Nat × AV × List Nat)}, stepS b i K l → e ∈ l → e.1 ≠ i ∧ (b e.1 = false ∨ i ∈ e.2.2.2 ∨ AV.kills K e.2.2.1 = e.2.2.1)
  | [], _, h => by cases h
  | (j, t, x, ks) :: l, h, hm => by
    simp only [stepS] at h
    rcases List.mem_cons.1 hm with rfl | hm
    · exact h.1
    · exact stepS_mem h.2 hm
theorem sel_skip {X : Env} {b : Nat → Bool} {i : Nat} {ents : List (Nat × Nat × AV × List Nat)} {base base' : List (Nat × AV)} {o o' : List (Nat × List AV)} {T : List (Nat × AV)} (K : List (List Nat × List Nat)) (hT : T = killsT K (selb b ents base)) (hn : decide (ents.map (·.2.1)).Nodup = true) (hst : stepS b i K ents) (hb : baseS K (selb b ents base) base')
    (ho : WeakO ⟨T, o⟩ o') : Imp X ⟨T, o⟩ ⟨selb (addB b i) ents base', o'⟩ := by
  subst hT
  have hn := of_decide_eq_true hn
  refine Imp.weak ?_ ho
  have hbase : ∀ {bs : List (Nat × AV)}, baseS K (selb b ents base) bs → WeakT ⟨killsT K (selb b ents base), o⟩ bs := by
    intro bs
    induction bs with
    | nil => intro _; trivial
    | cons p bs ih =>
      obtain ⟨k, x⟩ := p
      intro h
      simp only [baseS] at h
      obtain ⟨⟨z, h3, h4⟩, h5⟩ := h
      exact ⟨⟨AV.kills K z, by simp only [lk_killsT, h3, Option.map_some], h4⟩, ih h5⟩
  suffices H : ∀ l : List (Nat × Nat × AV × List Nat), (∀ e ∈ l, e ∈ ents) → WeakT ⟨killsT K (selb b ents base), o⟩ (selb (addB b i) l base') from H ents fun _ h => h
  intro l
  induction l with
  | nil => intro _; exact hbase hb
  | cons e l ih =>
    intro hl
    have hm := hl e (by simp)
    have h1 := stepS_mem hst hm
    have h2 := ih fun e' he' => hl e' (by simp [he'])
    obtain ⟨j, t, x, ks⟩ := e
    simp only [selb]
    split
    · rename_i hj
      refine ⟨?_, h2⟩
      simp only at h1
      have hbj : b j = true := by simpa [addB, h1.1] using hj
      have hlk := selb_lk (base := base) hn hm hbj
      simp only at hlk
      refine ⟨AV.kills K (if ks.any b = true then .undef else x), by simp only [lk_killsT, hlk, Option.map_some], ?_⟩
      by_cases hk : ks.any (addB b i) = true
      · rw [if_pos hk]; exact .undef
      · have hk1 : ¬ ks.any b = true := fun h => by
          obtain ⟨q, hq, hbq⟩ := List.any_eq_true.1 h
          exact hk (List.any_eq_true.2 ⟨q, hq, by simp [addB, hbq]⟩)
        rw [if_neg hk, if_neg hk1]
        rcases h1.2 with h3 | h3 | h3
        · rw [hbj] at h3; cases h3
        · exact absurd (List.any_eq_true.2 ⟨i, h3, by simp [addB]⟩) hk
        · rw [h3]
          exact .rfl
    · exact h2
attribute [go_sem] stepS baseS
theorem selb_false (base : List (Nat × AV)) : ∀ l, selb (fun _ => false) l base = base
  | [] => rfl
  | (i, t, x, ks) :: l => by simp only [selb, Bool.false_eq_true, if_false, selb_false base l]
@[go_sem] theorem map_freeze_nil (l : List (Nat × AV)) : l.map (fun p => (p.1, p.2.mapH (AV.freezeH []))) = l := by
  induction l with
  | nil => rfl
  | cons p l ih => rw [List.map_cons, ih]; exact congrArg (fun x => (p.1, x) :: l) (freeze_nil p.2)
def fullT : List (Nat × Nat × AV × List Nat) → List (Nat × AV) → List (Nat × AV)
  | [], base => base
  | (_, t, x, ks) :: l, base => (t, if ks.isEmpty then x else .undef) :: fullT l base
theorem selb_full {b : Nat → Bool} {n : Nat} (hb : ∀ j, j < n → b j = true) (base : List (Nat × AV)) : ∀ l : List (Nat × Nat × AV × List Nat), (l.all fun e => decide (e.1 < n) && e.2.2.2.all fun k => decide (k < n)) = true → selb b l base = fullT l base
  | [], _ => rfl
  | (i, t, x, ks) :: l, h => by
    simp only [List.all_cons, Bool.and_eq_true, decide_eq_true_eq] at h
    simp only [selb, hb i h.1.1, if_true, fullT, selb_full hb base l h.2]
    cases ks with
    | nil => rfl
    | cons k ks =>
      have := h.1.2
      simp only [List.all_cons, Bool.and_eq_true, decide_eq_true_eq] at this
      simp [hb k this.1]
@[go_sem] theorem addB_def (b : Nat → Bool) (i j : Nat) : addB b i j = (b j || decide (j = i)) := rfl
theorem draw_sym2 {X : Env} {ops : Array Oper} {K : St → Prop} {st : St} (E : List (Nat × List Nat × List Nat)) (F : List Nat) (ents : List (Nat × Nat × AV × List Nat)) (base : (Nat → Bool) → List (Nat × AV)) (o : (Nat → Bool) → List (Nat × List AV)) (h0 : Imp X st ⟨base fun _ => false, o fun _ => false⟩) (hs : ∀ b, symP X ops (fun b => ⟨selb b ents (base b), o b⟩) b E) (he : ∀ b, K ⟨fullT ents (base (fixB b F [])), o (fixB b F [])⟩) (hm : X.C.P.follows .mixedOrders = true)
    (hok : (edgesOK ops && okE ops E && F == List.range ops.size) = true := by kernel_rfl) (hlt : (ents.all fun e => decide (e.1 < ops.size) && e.2.2.2.all fun k => decide (k < ops.size)) = true := by rfl) : drawA X ops K st := by
  rw [Bool.and_eq_true, beq_iff_eq] at hok
  refine draw_sym E (fun b => ⟨selb b ents (base b), o b⟩) (by simp only [selb_false]; exact h0) hs (fun b => ?_) hm hok.1
  have hall : ∀ (l : List Nat) (j : Nat), j ∈ l → fixB b l [] j = true := by
    intro l
    induction l with
    | nil => intro j h; cases h
    | cons p l ih =>
      intro j h
      simp only [fixB]
      split
      · rfl
      · rcases List.mem_cons.1 h with h | h
        · contradiction
        · exact ih j h
  show K ⟨selb _ ents (base (fixB b (List.range ops.size) [])), o (fixB b (List.range ops.size) [])⟩
  rw [selb_full (n := ops.size) (fun j hj => hall _ j (List.mem_range.2 hj)) _ ents hlt, ← hok.2]
  exact he b
attribute [go_sem] fullT List.isEmpty_nil List.isEmpty_cons
end Go.Abs
namespace Go.Abs
def defA (X : Env) (ch : Code) (xs : List AV) (o' : List (Nat × List AV)) : Ex → St → Prop
  | .exit _ => fun _ => False
  | _ => fun st => wpA X ch (retA X [] (.tup []) o') ⟨argT 0 xs, st.objs⟩
theorem results_none {P : Program} {fn : Func} (h : fn.results = #[]) (tmps : Array Value) (w : World) : (results fn tmps).run P w = .ok (.tuple #[]) w := by
  rw [results_eq, h]; simp [Sem.run_bind, Sem.run_map, Sem.run_pure]
theorem R.args {C : Ctx} {A : A0} {g : Gh} {w : World} {us : List Value} {xs : List AV} {n : Nat} {o : List (Nat × List AV)} (hn : xs.length ≤ n) (hv : VRs g w xs us) (ho : ∀ s cs, lk s o = some cs → ObjAt g w s cs) (hA : A.d = []) (hfr : Fr C A g w) :
    R C A n g ⟨argT 0 xs, o⟩ { tmps := us.toArray ++ Array.replicate (n - us.toArray.size) undef, defers := [] } w := by
  have hl := VRs.length hv
  refine ⟨by simp; omega, hA.symm, fun k x hx => ?_, ho, hfr⟩
  obtain ⟨_, h2⟩ := lk_argT hx
  obtain ⟨u, hu, hv'⟩ := hv.get k x (by simpa using h2)
  refine ⟨u, ?_, hv'⟩
  have hk : k < us.length := by
    rcases Nat.lt_or_ge k us.length with h | h
    · exact h
    · rw [List.getElem?_eq_none h] at hu; cases hu
  rw [Array.getElem?_append_left (by simpa using hk)]
  simpa using hu
theorem FnOK.introD {C : Ctx} {f h k t s off id : Nat} {fn fh : Func} {c ch : Code} {om od : Oper} {tys : Array TypeId} {xs : List AV} {o o' : List (Nat × List AV)}
    (hf : C.P.funcs[f]? = some fn) (hname : (fn.name == "runtime.NumGoroutine") = false) (hb : fn.body = some (.seq (.region id #[om, od] false) c))
    (hm : om.op = .move (.tmp k)) (hmd : om.dst = some t) (hmg : om.guard = none) (ho : od.op = .defer ⟨.value (.func h), #[.tmp t], tys⟩) (hod : od.dst = none) (hog : od.guard = none)
    (ht : t < fn.ntmps) (hx : lk k (argT 0 xs) = some (.ptr s off)) (hs : s ∈ names o)
    (hr : fn.results = #[]) (hfh : C.P.funcs[h]? = some fh) (hnh : (fh.name == "runtime.NumGoroutine") = false) (hbh : fh.body = some ch) (hrh : fh.results = #[])
    (hok : codeOK fn.ntmps c = true) (hokh : codeOK fh.ntmps ch = true) (hargs : xs.length ≤ fn.ntmps) (hah : 1 ≤ fh.ntmps) (hext : ∀ s ∈ names o, s % 32 = 31)
    (hw : wpA ⟨C, names o⟩ c (defA ⟨C, names o⟩ ch [.ptr s off] o') ⟨(t, .ptr s off) :: argT 0 xs, o⟩) : FnOK C f xs o (.tup []) o' := by
  refine ⟨⟨fn, _, hf, hname, hb⟩, fun g w us hg hv hob => calls_of_wp_defers hf hb ?_⟩
  have hfr0 : ∀ d, Fr C ⟨w, g, names o, d⟩ g w := fun d => ⟨rfl, ⟨rfl, Nat.le_refl _⟩, rfl, Nat.le_refl _, fun _ _ _ => ⟨rfl, rfl⟩, fun _ _ => rfl, hg⟩
  have hR := R.args (C := C) (A := ⟨w, g, names o, []⟩) hargs hv hob rfl (hfr0 [])
  generalize hact : ({ tmps := us.toArray ++ Array.replicate (fn.ntmps - us.toArray.size) undef, defers := [] } : Act) = act at hR
  obtain ⟨u, hu, hvu⟩ := hR.tm k _ hx
  have hgd : act.tmps.getD k undef = u := by simp [Array.getD_eq_getD_getElem?, hu]
  have hR1 := hR.put (d := some t) (fun q hq => by cases hq; exact ht) hvu
  have hu2 : (act.put (some t) u).tmps.getD t undef = u := by
    have : t < act.tmps.size := by rw [hR.size]; exact ht
    simp [Act.put, Array.getD_eq_getD_getElem?, this]
  let d : Deferred := { target := .fn (.func h) #[], args := #[u] }
  have hR2 : R C ⟨w, g, names o, [d]⟩ fn.ntmps g ⟨(t, .ptr s off) :: argT 0 xs, o⟩ { act.put (some t) u with defers := [d] } w :=
    ⟨hR1.size, rfl, hR1.tm, hR1.ob, hfr0 _⟩
  have hdef : (act.put (some t) u).defers = [] := hR1.defs
  refine wp_seq (wp_region_list ?_)
  have hwm : Region.wanted om (yielded #[om, od] act.tmps) = true := by simp [Region.wanted, hmg]
  have hwd : Region.wanted od (yielded #[om, od] (act.put (some t) u).tmps) = true := by simp [Region.wanted, hog]
  simp only [wpList]
  rw [if_pos hwm]
  refine .inl ?_
  have e1 : (execOp act.eval om).run C.P w = .ok (.value u) w := by
    simp only [execOp, hm]
    simp only [Act.eval, hgd]
    rfl
  unfold Oper.wp
  rw [e1, Oper.upon_value, hmd]
  rw [if_pos hwd]
  refine .inl ?_
  have e2 : (execOp (act.put (some t) u).eval od).run C.P w = .ok (.defer d) w := by
    simp only [execOp, ho, resolve, Act.eval, Deferred.ofValue, Sem.run_bind, Sem.run_pure, Result.andThen_ok]
    simp [d, hu2, Act.eval]
  rw [e2, Oper.upon_defer, hod]
  show c.wp C.P (bodyPostD C.P fn _) { act.put (some t) u with defers := d :: (act.put (some t) u).defers } w
  rw [hdef]
  refine wp_mono (wpA_sound (X := ⟨C, names o⟩) (A := ⟨w, g, names o, [d]⟩) rfl hext c _ g _ _ w hok hw hR2) fun e a' w' hq => ?_
  have key : ∀ g' st', R C ⟨w, g, names o, [d]⟩ fn.ntmps g' st' a' w' → wpA ⟨C, names o⟩ ch (retA ⟨C, names o⟩ [] (.tup []) o') ⟨argT 0 [.ptr s off], st'.objs⟩ →
      Leaves C.P fn a'.tmps (fun e w' => ∃ u g', e = .returned u ∧ Fr C ⟨w, g, names o, []⟩ g' w' ∧ VR g' w' (.tup []) u ∧ ∀ s cs, lk s o' = some cs → ObjAt g' w' s cs) a'.defers .returning w' := by
    intro g' st' hr' hk
    have hds : a'.defers = [d] := hr'.defs
    rw [hds]
    have hvu' : VR g' w' (.ptr s off) u := by
      simp only [VR] at hvu ⊢
      exact ⟨hvu.1, by rw [hvu.2, hr'.fr.box s hs]⟩
    have hR3 := R.args (C := C) (A := ⟨w, g, names o, []⟩) (g := g') (w := w') (us := [u]) (xs := [.ptr s off]) (n := fh.ntmps) (o := st'.objs) hah (by simp only [VRs]; exact ⟨hvu', trivial⟩) hr'.ob rfl hr'.fr.anyD
    refine leaves_cons (f := h) (args := #[u]) (by simp) (by simpa [invoke] using run_enter hfh hnh hbh #[u] w') ?_
    refine CallsD.mono (callsD_of_wp (R := fun e w' => ∃ u g', e = .returned u ∧ Fr C ⟨w, g, names o, []⟩ g' w' ∧ VR g' w' (.tup []) u ∧ ∀ s cs, lk s o' = some cs → ObjAt g' w' s cs) hfh hbh ?_) ?_
    · refine wp_mono (wpA_sound (X := ⟨C, names o⟩) (A := ⟨w, g, names o, []⟩) rfl hext ch _ g' _ _ w' hokh hk hR3) fun e a2 w2 hq2 => ?_
      have key2 : ∀ g2 st2, R C ⟨w, g, names o, []⟩ fh.ntmps g2 st2 a2 w2 → (∃ xs ρ, resVs C st2 [] = some xs ∧ ρ.OK ∧ (∀ s ∈ names o, lk s ρ.m = some s) ∧ WeakV ((pack xs).ren ρ) (.tup []) ∧ WeakO (renSt ρ st2) o') →
          a2.defers = [] ∧ ∃ v, (results fh a2.tmps).run C.P w2 = .ok v w2 ∧ (∃ u g', Ending.returned v = .returned u ∧ Fr C ⟨w, g, names o, []⟩ g' w2 ∧ VR g' w2 (.tup []) u ∧ ∀ s cs, lk s o' = some cs → ObjAt g' w2 s cs) := by
        intro g2 st2 hr ⟨ys, ρ, h1, h2, h3, h4, h5⟩
        have hrs : resVs C st2 fh.results.toList = some ys := by rw [hrh]; exact h1
        obtain ⟨v, k1, k2⟩ := results_sound hr hrs
        have hr2 := hr.renamed h2 h3
        refine ⟨hr.defs, v, k1, v, g2.ren ρ g2, rfl, hr2.fr, h4 _ _ _ (VR.ren h2 _ _ k2), fun s cs hs => ?_⟩
        obtain ⟨z, hz, hw⟩ := h5.lk hs
        exact (hr2.ob s z hz).lift rfl (hr2.ob s z hz).1 rfl (fun us hu => hw.weakL _ _ _ hu)
      cases e with
      | normal => obtain ⟨g2, st2, hr, hk⟩ := hq2; exact key2 g2 st2 hr hk
      | ret => obtain ⟨g2, st2, hr, hk⟩ := hq2; exact key2 g2 st2 hr hk
      | exit id => obtain ⟨g2, st2, hr, hk⟩ := hq2; exact hk.elim
      | goto l => exact hq2.elim
      | panic ch => exact hq2.elim
      | outgrown => exact hq2.elim
    · intro e u' w2 ⟨hu', v, g2, he, h1, h2, h3⟩
      subst hu' he
      simp only [Leaves, settle]
      refine ⟨_, results_none hr _ _, _, g2, rfl, h1, ?_, h3⟩
      simp only [VR]
      exact ⟨#[], rfl, by simp [VRs]⟩
  cases e with
  | normal => obtain ⟨g', st', hr, hk⟩ := hq; exact key g' st' hr hk
  | ret => obtain ⟨g', st', hr, hk⟩ := hq; exact key g' st' hr hk
  | exit id => obtain ⟨g', st', hr, hk⟩ := hq; exact hk.elim
  | goto l => exact hq.elim
  | panic ch => exact hq.elim
  | outgrown => exact hq.elim
end Go.Abs
namespace Go.Abs
open Go Go.ChangeShapes Go.WideShapes Go.RowKit
def CodN (P : Program) (N : Nat) (t : TypeId) {α : Type} (e : α → List AV) : Prop :=
  ∀ (H : Type) (enc : TypeId × Value → H) (w : World) (fuel : Nat) (cs : List Value) (x : DataW H × List MemPlace), fuel ≤ N → DataW.trod enc P w 0 (fun _ => true) true fuel t cs = some x →
    ∃ a, PRl (fun b => b < w.heap.size) w (e a) cs
def CodF (P : Program) (N b : Nat) (fs : List Field) {α : Type} (e : α → List AV) : Prop :=
  ∀ (H : Type) (enc : TypeId × Value → H) (w : World) (n : Nat) (cs : List Value) (ys : List (DataW H × List MemPlace)), n ≤ N → cs.length = b + (fs.map fun f => P.cellsOf f.type).sum → ys.length = fs.length →
    (∀ (i : Nat) (f : Field), fs[i]? = some f → DataW.trod enc P w 0 (fun _ => true) true n f.type ((cs.drop f.offset).take (P.cellsOf f.type)) = ys[i]?) →
    ∃ a, PRl (fun b => b < w.heap.size) w (e a) (cs.drop b)
variable {P : Program} {t : TypeId}
theorem CodN.mono {N M : Nat} {α : Type} {e : α → List AV} (h : CodN P N t e) (hm : M ≤ N) : CodN P M t e := fun H enc w fuel cs x hf hx => h H enc w fuel cs x (Nat.le_trans hf hm) hx
theorem Cod.toN {α : Type} {e : α → List AV} {m : α → Nat} {Q : α → Prop} (h : Cod P t e m Q) (N : Nat) : CodN P N t e := fun H enc w fuel cs x _ hx => by
  obtain ⟨a, _, _, h3⟩ := h H enc w fuel cs x hx
  exact ⟨a, h3⟩
theorem CodN.toCod {α : Type} {e : α → List AV} (h : ∀ N, CodN P N t e) : Cod P t e (fun _ => 0) (fun _ => True) := fun H enc w fuel cs x hx => by
  obtain ⟨a, h3⟩ := h fuel H enc w fuel cs x (Nat.le_refl _) hx
  exact ⟨a, trivial, Nat.zero_le _, h3⟩
theorem CodN.map {N : Nat} {α β : Type} {e : α → List AV} {e' : β → List AV} (h : CodN P N t e) (hf : ∀ a, ∃ b, e' b = e a) : CodN P N t e' := fun H enc w fuel cs x hn hx => by
  obtain ⟨a, q⟩ := h H enc w fuel cs x hn hx
  obtain ⟨b, hb⟩ := hf a
  exact ⟨b, hb ▸ q⟩
theorem codn_zero {α : Type} {e : α → List AV} : CodN P 0 t e := fun H enc w fuel cs x hn hx => by
  obtain rfl : fuel = 0 := by omega
  simp [DataW.trod] at hx
theorem codn_slice {N : Nat} {el : TypeId} {α : Type} {e : α → List AV} {n : Nat} (he : CodN P N el e) (ht : P.underlying t = some (.slice el)) (hc : P.cellsOf el = n) (hn : 0 < n) :
    CodN P (N + 1) t (fun xs : List α => [.sl .no n (xs.map e)]) := by
  intro H enc w fuel cs x hf h
  rcases DataW.trod_slice ht h with ⟨rfl, rfl⟩ | ⟨a, len, cap, elems, rest, k, rfl, rfl, rfl, _, hl, hm, hlen, hel, _, _⟩
  · refine ⟨[], ?_, trivial⟩
    simp only [List.map_nil, PR]
    exact ⟨by simp, none, 0, rfl, by simp, by simp, by simp, hn, Or.inl trivial⟩
  · subst hlen
    obtain ⟨xs, hxl, hxs⟩ := pick (α := α) (q := fun _ _ => True) (R := fun i x y => ∃ cs, w.cells? 0 (a.add (i * n)) n = some cs ∧ PRl (fun b => b < w.heap.size) w (e x) cs) elems.length elems rfl (by
      intro i y hy
      have hi : i < elems.length := by
        rcases Nat.lt_or_ge i elems.length with h | h
        · exact h
        · rw [List.getElem?_eq_none h] at hy; cases hy
      have := hel i hi
      rw [hy, hc, Option.bind_eq_some_iff] at this
      obtain ⟨cs, h1, h2⟩ := this
      obtain ⟨x, q3⟩ := he H enc w k cs y (by omega) h2
      exact ⟨x, cs, h1, q3⟩)
    have hget : ∀ i x, xs[i]? = some x → ∃ y, elems[i]? = some y := fun i x hx => by
      have : i < elems.length := by
        rcases Nat.lt_or_ge i xs.length with h | h
        · omega
        · rw [List.getElem?_eq_none h] at hx; cases hx
      exact ⟨_, List.getElem?_eq_getElem this⟩
    refine ⟨xs, ?_, trivial⟩
    simp only [PR]
    refine ⟨by simp, some a, cap, by simp [hxl], by simp [hxl, hl], hm, by simp, hn, ?_⟩
    cases xs with
    | nil => exact Or.inl rfl
    | cons x xs =>
      refine Or.inr ⟨a, rfl, ?_, pre_of_elems fun i x hx => ?_⟩
      · obtain ⟨y, hy⟩ := hget 0 x rfl
        obtain ⟨cs, h1, _⟩ := hxs 0 x y rfl hy
        obtain ⟨_, hl, hcell⟩ := World.cells?_some h1
        have h0 := hcell 0 hn
        cases cs with
        | nil => simp at hl; omega
        | cons c cs => exact (show (a.add (0 * n + 0)).block = a.block by simp [Addr.add]) ▸ lt_of_cell (by rw [addr_add] at h0; simpa using h0)
      · obtain ⟨y, hy⟩ := hget i x hx
        obtain ⟨cs, h1, h2⟩ := hxs i x y hx hy
        exact ⟨cs, by simpa using h1, h2⟩
theorem codf_nil {N b : Nat} : CodF P N b [] (fun _ : Unit => []) := by
  intro H enc w n cs ys _ hl _ _
  have : cs.drop b = [] := List.drop_eq_nil_of_le (by simpa using Nat.le_of_eq hl)
  rw [this]
  exact ⟨(), trivial⟩
theorem codf_cons {N b : Nat} {f : Field} {fs : List Field} {α β : Type} {e : α → List AV} {e' : β → List AV} (h : CodN P N f.type e) (hb : f.offset = b) (hs : CodF P N (b + P.cellsOf f.type) fs e') :
    CodF P N b (f :: fs) (fun x : α × β => e x.1 ++ e' x.2) := by
  intro H enc w n cs ys hn hl hy hfs
  cases ys with
  | nil => simp at hy
  | cons y ys =>
    have h0 := hfs 0 f rfl
    rw [hb] at h0
    obtain ⟨a, ha⟩ := h H enc w n _ y hn h0
    obtain ⟨c, hc⟩ := hs H enc w n cs ys hn (by simp only [List.map_cons, List.sum_cons] at hl; omega) (by simpa using hy) fun i g hg => by simpa using hfs (i + 1) g (by simpa using hg)
    refine ⟨(a, c), ?_⟩
    have := PRl.append ha hc
    have e : (cs.drop b).take (P.cellsOf f.type) ++ cs.drop (b + P.cellsOf f.type) = cs.drop b := by
      rw [← List.drop_drop, List.take_append_drop]
    rw [e] at this
    exact this
theorem codn_struct {N : Nat} {fs : Array Field} {α : Type} {e : α → List AV} (ht : P.underlying t = some (.struct fs)) (hc : P.cellsOf t = (fs.toList.map fun f => P.cellsOf f.type).sum) (h : CodF P N 0 fs.toList e) : CodN P (N + 1) t e := by
  intro H enc w fuel cs x hf hx
  obtain ⟨xs, n, rfl, rfl, hl, hlen, hfs⟩ := DataW.trod_struct ht hx
  obtain ⟨a, ha⟩ := h H enc w n cs xs (by omega) (by rw [hl, hc]; simp) (by simpa using hlen) fun i f hfi => hfs i f (by simpa using hfi)
  exact ⟨a, by simpa using ha⟩
def flds (P : Program) (t : TypeId) : Option (List (TypeId × Nat)) := match P.underlying t with
  | some (.struct fs) => some (fs.toList.map fun f => (f.type, f.offset))
  | _ => none
def CodG (P : Program) (N b : Nat) (l : List (TypeId × Nat)) {α : Type} (e : α → List AV) : Prop := ∀ fs : List Field, (fs.map fun f => (f.type, f.offset)) = l → CodF P N b fs e
theorem codg_nil {N b : Nat} : CodG P N b [] (fun _ : Unit => []) := fun fs h => by
  obtain rfl : fs = [] := by simpa using h
  exact codf_nil
theorem codg_cons {N b sz : Nat} {ty : TypeId} {l : List (TypeId × Nat)} {α β : Type} {e : α → List AV} {e' : β → List AV} (h : CodN P N ty e) (hz : P.cellsOf ty = sz) (hs : CodG P N (b + sz) l e') :
    CodG P N b ((ty, b) :: l) (fun x : α × β => e x.1 ++ e' x.2) := fun fs hfs => by
  cases fs with
  | nil => simp at hfs
  | cons f fs =>
    simp only [List.map_cons, List.cons.injEq, Prod.mk.injEq] at hfs
    obtain ⟨⟨h1, h2⟩, h3⟩ := hfs
    subst h1
    exact codf_cons h h2 (by rw [hz]; exact hs fs h3)
theorem codn_g {N : Nat} {l : List (TypeId × Nat)} {α : Type} {e : α → List AV} (ht : flds P t = some l) (hc : P.cellsOf t = (l.map fun x => P.cellsOf x.1).sum) (h : CodG P N 0 l e) : CodN P (N + 1) t e := by
  unfold flds at ht
  split at ht
  · rename_i fs hu
    simp only [Option.some.injEq] at ht
    refine codn_struct hu ?_ (h fs.toList ht)
    rw [hc, ← ht, List.map_map]
    rfl
  · cases ht
theorem arg_g {l : List (TypeId × Nat)} {α : Type} {e : α → List AV} (he : ∀ N, CodN P N t e) (ht : flds P t = some l) : Arg P t (fun a : α => .agg (e a)) (fun _ => 0) (fun _ => True) := by
  intro H enc w base v d ps hv hd
  unfold flds at ht
  split at ht
  · rename_i fs hu
    obtain ⟨us, rfl, _⟩ := okWide_struct hu hv
    obtain ⟨fuel, hf⟩ := hd
    obtain ⟨a, hp⟩ := he fuel H enc w fuel _ _ (Nat.le_refl _) hf
    refine ⟨a, trivial, Nat.zero_le _, us, rfl, ?_⟩
    have hp' : PRl (isRo (gh0 w)) w (e a) us.toList := by
      rw [isRo_gh0]
      exact hp
    exact hp'.VRs
  · cases ht
theorem arg_struct {fs : Array Field} {α : Type} {e : α → List AV} (he : ∀ N, CodN P N t e) (ht : P.underlying t = some (.struct fs)) : Arg P t (fun a : α => .agg (e a)) (fun _ => 0) (fun _ => True) := by
  intro H enc w base v d ps hv hd
  obtain ⟨us, rfl, _⟩ := okWide_struct ht hv
  obtain ⟨fuel, hf⟩ := hd
  obtain ⟨a, hp⟩ := he fuel H enc w fuel _ _ (Nat.le_refl _) hf
  refine ⟨a, trivial, Nat.zero_le _, us, rfl, ?_⟩
  have hp' : PRl (isRo (gh0 w)) w (e a) us.toList := by
    rw [isRo_gh0]
    exact hp
  exact hp'.VRs
theorem chunks {α : Type} (m : Nat) : ∀ (rows : List (List α)) (cs : List α), cs.length = rows.length * m → (∀ i r, rows[i]? = some r → (cs.drop (i * m)).take m = r) → cs = rows.flatten
  | [], cs, hl, _ => List.eq_nil_of_length_eq_zero (by simpa using hl)
  | r :: rows, cs, hl, h => by
    have h0 := h 0 r rfl
    have := chunks m rows (cs.drop m) (by simp only [List.length_cons, Nat.add_mul] at hl; rw [List.length_drop, hl]; omega) fun i r' hr => by
      have := h (i + 1) r' (by simpa using hr)
      rw [List.drop_drop]
      rwa [show m + i * m = (i + 1) * m by rw [Nat.add_mul]; omega]
    simp only [Nat.zero_mul, List.drop_zero] at h0
    rw [List.flatten_cons, ← this, ← h0, List.take_append_drop]
theorem arr_read {H : Type} {enc : TypeId × Value → H} {w : World} {fuel n : Nat} {sp : Nat → Bool} {held : Bool} {base : Nat} {e : TypeId} {cs : List Value} {ds : List (DataW H)} {p : List MemPlace} {f : List (List Value)}
    (ht : P.underlying t = some (.array n e)) (hct : P.cellsOf t = n * P.cellsOf e) (h : DataW.trod enc P w base sp held fuel t cs = some (.agg ds, p)) (hl : ds.length = f.length)
    (hf : ∀ (i : Nat) (d : DataW H) (c : List Value), ds[i]? = some d → f[i]? = some c → ∀ fuel cs' p', DataW.trod enc P w base sp held fuel e cs' = some (d, p') → cs' = c) : cs = f.flatten := by
  obtain ⟨xs, m, _, hx, hcl, hxl, hel⟩ := DataW.trod_array ht h
  have hx1 : ds = xs.map (·.1) := by
    have := congrArg Prod.fst hx
    simpa using this
  have hn : f.length = n := by rw [← hl, hx1]; simpa using hxl
  refine chunks _ f cs (by rw [hcl, hct, hn]) fun i c hc => ?_
  have hi : i < f.length := by
    rcases Nat.lt_or_ge i f.length with h | h
    · exact h
    · rw [List.getElem?_eq_none h] at hc; cases hc
  have hxi : xs[i]? = some xs[i] := List.getElem?_eq_getElem (by omega)
  have h1 := hel i (by omega)
  rw [hxi] at h1
  refine hf i xs[i].1 c ?_ hc m _ xs[i].2 h1
  rw [hx1, List.getElem?_map, hxi]
  rfl
theorem bool_cells {H : Type} {enc : TypeId × Value → H} {w : World} {fuel : Nat} {sp : Nat → Bool} {held : Bool} {base : Nat} {cs : List Value} {b : Bool} {p : List MemPlace} (ht : P.underlying t = some .bool)
    (h : DataW.trod enc P w base sp held fuel t cs = some (.lit (.bool b), p)) : cs = [.bool b] := by
  obtain ⟨n, rfl, h2⟩ := DataW.trod_bool ht h
  simp at h2
  rw [h2.1]
def rowD {H : Type} (r : List Bool) : DataW H := .agg (r.map fun b => .lit (.bool b))
def tabD {H : Type} (rows : List (List Bool)) : DataW H := .agg (rows.map rowD)
theorem tab_cells {H : Type} {enc : TypeId × Value → H} {w : World} {fuel n m : Nat} {sp : Nat → Bool} {held : Bool} {base : Nat} {e b : TypeId} {cs : List Value} {rows : List (List Bool)} {p : List MemPlace}
    (ht : P.underlying t = some (.array n e)) (he : P.underlying e = some (.array m b)) (hb : P.underlying b = some .bool) (h1 : P.cellsOf b = 1) (h2 : P.cellsOf e = m) (h3 : P.cellsOf t = n * m)
    (h : DataW.trod enc P w base sp held fuel t cs = some (tabD rows, p)) : cs = rows.flatten.map Value.bool := by
  have key : ∀ r : List Bool, ∀ fuel cs' p', DataW.trod enc P w base sp held fuel e cs' = some (rowD r, p') → cs' = r.map Value.bool := fun r fuel cs' p' h' => by
    have := arr_read (f := r.map fun b => [Value.bool b]) he (by rw [h1, h2, Nat.mul_one]) h' (by simp) fun i d c hd hc fuel cs' p' hx => by
      rw [List.getElem?_map] at hd hc
      cases hr : r[i]? with
      | none => rw [hr] at hd; cases hd
      | some v =>
        rw [hr] at hd hc
        simp at hd hc
        subst hd; subst hc
        exact bool_cells hb hx
    rw [this]
    clear h'  this
    induction r with
    | nil => rfl
    | cons x r ih => simp only [List.map_cons, List.flatten_cons, List.singleton_append, ih]
  have := arr_read (f := rows.map fun r => r.map Value.bool) ht (by rw [h2, h3]) h (by simp) fun i d c hd hc fuel cs' p' hx => by
    rw [List.getElem?_map] at hd hc
    cases hr : rows[i]? with
    | none => rw [hr] at hd; cases hd
    | some v =>
      rw [hr] at hd hc
      simp at hd hc
      subst hd; subst hc
      exact key v _ _ _ hx
  rw [this, List.map_flatten]
theorem glob_tab {C : Ctx} {name : String} {g n m : Nat} {e b : TypeId} {rows : List (List Bool)} {rest : List (String × DataW Unit)} {W : World} (hC : ∀ i cs, C.G i = some cs → i = g ∧ cs = (rows.flatten.map fun b => AV.v (.bool b))) (hpos : 0 < rows.flatten.length)
    (hg : C.P.globalNamed name = some g) (hty : (C.P.globals[g]?).map (·.type) = some t)
    (ht : C.P.underlying t = some (.array n e)) (he : C.P.underlying e = some (.array m b)) (hb : C.P.underlying b = some .bool) (h1 : C.P.cellsOf b = 1) (h2 : C.P.cellsOf e = m) (h3 : C.P.cellsOf t = n * m)
    (h : laidMet C.P ((name, tabD rows) :: rest) W) : Glob C (gh0 W) W := by
  obtain ⟨ps, ⟨g', t', cs, fuel, p, q, hg', ht', hvar, hd, _, _⟩, _⟩ := h
  obtain rfl := Option.some.inj (hg.symm.trans hg')
  obtain rfl := Option.some.inj (hty.symm.trans ht')
  have hcs := tab_cells ht he hb h1 h2 h3 hd
  have hcell := World.var?_cell hg hvar
  intro i xs hi
  obtain ⟨rfl, rfl⟩ := hC i xs hi
  have hlen : cs.toList.length = rows.flatten.length := by rw [hcs, List.length_map]
  have hsz : cs.size = rows.flatten.length := by rw [← hlen, Array.length_toList]
  refine ⟨by rw [List.length_map]; exact hpos, ?_, prc_of_l (us := cs.toList) ?_ ?_⟩
  · have h0 := hcell 0
    have : ∃ v, cs[0]? = some v := ⟨cs[0]'(by omega), Array.getElem?_eq_getElem _⟩
    obtain ⟨v, hv⟩ := this
    rw [hv] at h0
    rw [isRo_gh0]
    exact lt_of_cell h0
  · rw [hcs]
    generalize rows.flatten = l
    induction l with
    | nil => simp [PRl]
    | cons x l ih => exact ⟨⟨rfl, rfl⟩, ih⟩
  · intro k hk
    have := hcell k
    rw [Array.getElem?_toList, Nat.zero_add]
    rw [← this, add_lit, Nat.zero_add]
theorem law_true_G {C : Ctx} {f : Nat} {fn : Func} {s : ChangeSpec} (hs : s.vars = []) {apart fresh handsOn again : Bool} {α : Type} {e : α → List AV} {m : α → Nat} {Q : α → Prop} {tb : TypeId} {ts : List TypeId}
    (hp : fn.params.toList = ts) (ha : Args C.P ts e m Q) (hl : laidOutB C.P = true) (hr : (ts.all fun t => C.P.readableRec t && decide (t < C.P.types.size)) = true) (hres : fn.resultTypes = #[tb]) (htb : C.P.underlying tb = some .bool)
    {H : Type} (enc : TypeId × Value → H) (W : World) (hG : Glob C (gh0 W) W) (base : Nat) (args : Array Value) (ds gs : List (DataW H)) (before : List MemPlace)
    (hval : ∀ (j : Nat) t v, fn.params[j]? = some t → args[j]? = some v → Value.okWide C.P W .any base t v)
    (hW : DataW.Whole enc C.P fn.params.toList s.vars apart W args.toList ds gs before)
    (hfn : ∀ ds : List (DataW H), ds.length = ts.length → (s.fn H ds).results = [.lit (.bool true)] ∧ (s.fn H ds).args = ds ∧ (s.fn H ds).vars = [])
    (hok : ∀ a, Q a → m a ≤ wgtL ds → FnOK C f (e a) [] (.v (.bool true)) []) :
    Calls C.P f args W fun r W' => ∃ v, r = .returned v ∧ s.post enc C.P fn apart fresh handsOn again W args v W' := by
  replace hr : ∀ t ∈ ts, C.P.readableRec t = true ∧ t < C.P.types.size := by simpa using hr
  have hW' := hW
  obtain ⟨p, q, hA, hV, rfl, hfz, hnd⟩ := hW
  rw [hs] at hV
  obtain ⟨rfl, rfl⟩ := trodVars_none hV
  rw [hp] at hA
  obtain ⟨a, q1, q2, q3⟩ := ha H enc W base args.toList ds p (fun j t v hj hv => hval j t v (by rw [← Array.getElem?_toList, hp]; exact hj) (by simpa using hv)) hA
  have hlen : ∀ {ts : List TypeId} {vs : List Value} {ds : List (DataW H)} {ps : List MemPlace}, DataW.TrodAll enc C.P W 0 (fun _ => true) true ts vs ds ps → ds.length = ts.length := by
    intro ts
    induction ts with
    | nil => intro vs ds ps h; obtain ⟨_, rfl, _⟩ := trodAll_nil h; rfl
    | cons t ts ih =>
      intro vs ds ps h
      obtain ⟨v, vs, d, ds, p, q, rfl, rfl, rfl, h1, h2⟩ := trodAll_cons h
      simp [ih h2]
  obtain ⟨hf1, hf2, hf3⟩ := hfn ds (hlen hA)
  have key := (hok a q1 q2).2 (gh0 W) W args.toList hG q3 (fun s cs h => by cases h)
  rw [show args.toList.toArray = args by simp] at key
  refine key.mono fun r W' ⟨u, g', hr1, hF, hy, _⟩ => ?_
  subst hr1
  simp only [VR] at hy
  subst hy
  have hb : Below W.heap.size W W' := ⟨hF.os, hF.tape.1, hF.output, hF.size, fun k hk => (hF.keep k hk (Or.inl (by show (gh0 W).own k = .ro; simp [gh0, hk]))).1⟩
  have hlt : ∀ x ∈ p ++ ([] : List MemPlace), x.block < W.heap.size := fun x hx => hW'.lt x hx
  refine ⟨_, rfl, below_post (pa := p) (pv := []) hW' (fun b sp hd => ?_) (fun sp hsp => ?_) (fun _ _ => ?_) rfl hb (ok_one hres rfl (okWide_bool_mk htb _))⟩
  · simp only [List.append_nil, hf1]
    rw [hres]
    exact trodAll_mk1 (shut_bool htb _)
  · simp only [List.append_nil, hf2]
    rw [hp]
    exact trodAll_stays hl hr hA (fun x hx => hb.same (hlt x (by simpa using hx))) (fun x hx => hsp x (by simpa using hx))
  · simp only [List.append_nil, hf3]
    rw [hs]
    rfl
end Go.Abs
namespace Go.Clo
inductive Tr (α : Type) where
  | leaf
  | node (l : Tr α) (k : Nat) (v : α) (r : Tr α)
def Tr.get {α : Type} : Tr α → Nat → Option α
  | .leaf, _ => none
  | .node l k v r, i => match Nat.blt i k with
    | true => l.get i
    | false => match Nat.beq i k with
      | true => some v
      | false => r.get i
def parts {α β : Type} (f : α → β) (c : Nat) (l : List α) : Nat → List (List β) → Prop
  | i, [] => l.length ≤ c * i
  | i, L :: Ls => ((l.drop (c * i)).take c).map f = L ∧ parts f c l (i + 1) Ls
theorem parts_map {α β : Type} {f : α → β} {c : Nat} {l : List α} : ∀ (Ls : List (List β)) (i : Nat), parts f c l i Ls → (l.drop (c * i)).map f = Ls.flatten
  | [], i, h => by simp only [parts] at h; rw [List.drop_eq_nil_of_le h]; rfl
  | L :: Ls, i, h => by
    simp only [parts] at h
    have ih := parts_map Ls (i + 1) h.2
    rw [List.flatten_cons, ← h.1, ← ih, ← List.map_append]
    congr 1
    have : l.drop (c * (i + 1)) = (l.drop (c * i)).drop c := by rw [List.drop_drop, Nat.mul_add, Nat.mul_one]
    rw [this, List.take_append_drop]
abbrev QItem := List Nat × Bool × List Nat
def item (P : Program) (fn : Func) : QItem := (P.leadsTo fn, fn.goes, fn.body.elim [] Code.globalsNamed)
def eqL : List Nat → List Nat → Bool
  | [], [] => true
  | x :: a, y :: b => Nat.beq x y && eqL a b
  | _, _ => false
theorem eqL_eq : ∀ {a b : List Nat}, eqL a b = true → a = b
  | [], [], _ => rfl
  | [], _ :: _, h => by simp [eqL] at h
  | _ :: _, [], h => by simp [eqL] at h
  | x :: a, y :: b, h => by
    simp only [eqL, Bool.and_eq_true, Nat.beq_eq] at h
    rw [h.1, eqL_eq h.2]
def chk (p : QItem → List Nat) (T : Tr (List Nat)) : Nat → List QItem → Bool
  | _, [] => true
  | i, x :: l => eqL ((T.get i).getD []) (p x) && chk p T (Nat.succ i) l
theorem chk_spec {p : QItem → List Nat} {T : Tr (List Nat)} : ∀ (l : List QItem) (i : Nat), chk p T i l = true → ∀ (j : Nat) (x : QItem), l[j]? = some x → (T.get (i + j)).getD [] = p x
  | [], _, _, j, x, hx => by simp at hx
  | y :: l, i, h, j, x, hx => by
    simp only [chk, Bool.and_eq_true] at h
    cases j with
    | zero => simp at hx; subst hx; exact eqL_eq h.1
    | succ j =>
      have := chk_spec l (Nat.succ i) h.2 j x (by simpa using hx)
      rw [show i + (j + 1) = Nat.succ i + j from by omega]
      exact this
def at' (n : Nat) (T : Tr (List Nat)) (g : Nat) : List Nat := match Nat.blt g n with
  | true => (T.get g).getD []
  | false => []
def via (n : Nat) (T : Tr (List Nat)) : Nat → List Nat → Nat → List Nat → List Nat
  | 0, _, _, seen => seen.reverse
  | _ + 1, [], _, seen => seen.reverse
  | k + 1, f :: todo, m, seen => match Nat.testBit m f with
    | true => via n T k todo m seen
    | false => via n T k (at' n T f ++ todo) (m ||| (1 <<< f)) (f :: seen)
theorem via_eq {P : Program} {n : Nat} {T : Tr (List Nat)} (hE : ∀ g, (P.funcs[g]?).elim [] P.leadsTo = at' n T g) : ∀ (k : Nat) (todo : List Nat) (m : Nat) (seen : List Nat), (∀ x, Nat.testBit m x = seen.contains x) → P.closureVia k todo seen = via n T k todo m seen
  | 0, _, _, _, _ => by simp [Program.closureVia, via]
  | _ + 1, [], _, _, _ => by simp [Program.closureVia, via]
  | k + 1, f :: todo, m, seen, h => by
    simp only [Program.closureVia, via, h f]
    cases hc : seen.contains f with
    | true => simp only [if_true]; exact via_eq hE k todo m seen h
    | false =>
      simp only [Bool.false_eq_true, if_false]
      rw [hE f]
      refine via_eq hE k _ _ _ fun x => ?_
      rw [Nat.testBit_or, h x, Nat.testBit_shiftLeft]
      by_cases hx : x = f
      · subst hx; simp
      · have : (decide (f ≤ x) && Nat.testBit 1 (x - f)) = false := by
          by_cases hle : f ≤ x
          · have h1 : x - f ≠ 0 := by omega
            have h2 : Nat.testBit 1 (x - f) = false := by
              obtain ⟨d, hd⟩ : ∃ d, x - f = d + 1 := ⟨x - f - 1, by omega⟩
              rw [hd, Nat.testBit_succ]
              simp
            rw [h2, Bool.and_false]
          · simp [hle]
        have hxf : (x == f) = false := by simp [hx]
        simp only [ge_iff_le, this, Bool.or_false, List.contains_cons, hxf, Bool.false_or]
section
variable {P : Program} {Is : List QItem} {n : Nat} {T U : Tr (List Nat)}
theorem get_item (h : P.funcs.toList.map (item P) = Is) (g : Nat) : (P.funcs[g]?).map (item P) = Is[g]? := by
  rw [← h, List.getElem?_map, Array.getElem?_toList]
theorem leads (h : P.funcs.toList.map (item P) = Is) (hn : Is.length = n) (hT : chk (·.1) T 0 Is = true) (g : Nat) : (P.funcs[g]?).elim [] P.leadsTo = at' n T g := by
  have hg := get_item h g
  unfold at'
  cases hf : P.funcs[g]? with
  | none =>
    rw [hf] at hg
    have : ¬ g < n := fun hlt => by rw [List.getElem?_eq_getElem (by omega)] at hg; cases hg
    have hb : Nat.blt g n = false := by
      cases hb : Nat.blt g n with
      | false => rfl
      | true => exact absurd (by simpa [Nat.blt_eq] using hb) this
    rw [hb]; rfl
  | some fn =>
    rw [hf] at hg
    have hlt : g < n := by have := (List.getElem?_eq_some_iff.1 hg.symm).1; omega
    have hb : Nat.blt g n = true := by simpa [Nat.blt_eq] using hlt
    rw [hb]
    have := chk_spec Is 0 hT g _ hg.symm
    rw [Nat.zero_add] at this
    simp only [this, Option.elim_some]
    rfl
theorem closure_eq (h : P.funcs.toList.map (item P) = Is) (hn : Is.length = n) (hT : chk (·.1) T 0 Is = true) {k : Nat} (hk : 1 + (Is.map fun x => x.1.length + 1).sum = k) (f : Nat) : P.closure f = via n T k [f] 0 [] := by
  have e : (P.funcs.toList.map fun g => (P.leadsTo g).length + 1).sum = (Is.map fun x => x.1.length + 1).sum := by
    rw [← h, List.map_map]; rfl
  unfold Program.closure
  rw [e, hk]
  exact via_eq (leads h hn hT) k [f] 0 [] fun x => by simp
theorem names (h : P.funcs.toList.map (item P) = Is) (hn : Is.length = n) (hU : chk (·.2.2) U 0 Is = true) (g : Nat) : ((P.funcs[g]?).bind (·.body)).elim [] Code.globalsNamed = at' n U g := by
  have hg := get_item h g
  unfold at'
  cases hf : P.funcs[g]? with
  | none =>
    rw [hf] at hg
    have : ¬ g < n := fun hlt => by rw [List.getElem?_eq_getElem (by omega)] at hg; cases hg
    have hb : Nat.blt g n = false := by
      cases hb : Nat.blt g n with
      | false => rfl
      | true => exact absurd (by simpa [Nat.blt_eq] using hb) this
    rw [hb]; rfl
  | some fn =>
    rw [hf] at hg
    have hlt : g < n := by have := (List.getElem?_eq_some_iff.1 hg.symm).1; omega
    have hb : Nat.blt g n = true := by simpa [Nat.blt_eq] using hlt
    rw [hb]
    have := chk_spec Is 0 hU g _ hg.symm
    rw [Nat.zero_add] at this
    simp only [this, Option.bind_some]
    rfl
theorem none_goes (h : P.funcs.toList.map (item P) = Is) (hg : (Is.all fun x => !x.2.1) = true) (f : Nat) : P.goes f = false := by
  have key : ∀ fn ∈ P.funcs.toList, fn.goes = false := fun fn hfn => by
    have hm : item P fn ∈ Is := by rw [← h]; exact List.mem_map_of_mem hfn
    have := List.all_eq_true.1 hg _ hm
    simpa [item] using this
  unfold Program.goes
  have a1 : ((P.closure f).any fun g => (P.funcs[g]?).any Func.goes) = false := by
    rw [List.any_eq_false]
    intro g _
    cases hf : P.funcs[g]? with
    | none => simp
    | some fn =>
      have := key fn (by rw [← Array.getElem?_toList] at hf; exact List.mem_of_getElem? hf)
      simp [this]
  have a2 : P.funcs.any Func.goes = false := by
    rw [← Array.any_toList, List.any_eq_false]
    intro fn hfn
    simp [key fn hfn]
  rw [a1, a2]
  simp
theorem none_goesAt (h : P.funcs.toList.map (item P) = Is) (hg : (Is.all fun x => !x.2.1) = true) (s : Start) (f : String) : P.goesAt s f = false := by
  unfold Program.goesAt Program.goesFrom
  have a1 : ((P.funcNamed f).any P.goes) = false := by
    cases P.funcNamed f <;> simp [none_goes h hg]
  have a2 : (P.inits.toList.any P.goes) = false := by
    rw [List.any_eq_false]; intro g _; simp [none_goes h hg]
  rw [a1, a2]
  cases s <;> rfl
theorem vars_eq (h : P.funcs.toList.map (item P) = Is) (hn : Is.length = n) (hU : chk (·.2.2) U 0 Is = true) (f : Nat) : P.varsNamed f = ((((P.closure f).flatMap (at' n U)).eraseDups).filterMap (fun g => (P.globals[g]?).map (·.name)) ++
   (P.closure f).filterMap fun g => (P.funcs[g]?).bind fun fn => if fn.body.isNone then entryReads.lookup fn.name else none).eraseDups := by
  unfold Program.varsNamed
  simp only [names h hn hU]
end
end Go.Clo
