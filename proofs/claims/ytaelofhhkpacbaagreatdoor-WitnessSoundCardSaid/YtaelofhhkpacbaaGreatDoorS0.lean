/- the last parts of the proof -/
import Derived.Test.YtaelofhhkpacbaaGreatDoorT19
import Derived.Test.YtaelofhhkpacbaaGreatDoorT23
import Derived.Test.YtaelofhhkpacbaaGreatDoorT25
set_option linter.all false
open Go Go.Abs Go.Proofs
set_option maxRecDepth 100000
namespace Go.Rd
theorem ret1 {X : Env} {rs : List ResultVar} {y : AV} {st : St} (xs : List AV) (h4 : WeakV ((pack xs).ren ⟨[], [], []⟩) y) (h1 : resVs X.C st rs = some xs := by (try simp (disch := omega) only [go_sem, resVs, resV]) <;> rfl) (he : X.ext = [] := by rfl) : retA X rs y [] .ret st := ret_mk ⟨[], [], []⟩ xs h1 ⟨rfl, rfl⟩ (by simp [he]) h4 trivial
theorem pw_ext {α : Type} {R : α → α → Prop} (irr : ∀ a, ¬ R a a) (asy : ∀ a b, R a b → ¬ R b a) : ∀ {l m : List α}, l.Pairwise R → m.Pairwise R → (∀ x, x ∈ l ↔ x ∈ m) → l = m
 | [], [], _, _, _ => rfl
 | [], b :: m, _, _, h => by have := (h b).2 (by simp); cases this
 | a :: l, [], _, _, h => by have := (h a).1 (by simp); cases this
 | a :: l, b :: m, hl, hm, h => by
  obtain ⟨l1, l2⟩ := List.pairwise_cons.1 hl
  obtain ⟨m1, m2⟩ := List.pairwise_cons.1 hm
  have hab : a = b := by
   rcases List.mem_cons.1 ((h a).1 (by simp)) with e | e
   ·exact e
   ·rcases List.mem_cons.1 ((h b).2 (by simp)) with f | f
    ·exact f.symm
    ·exact absurd (m1 a e) (asy _ _ (l1 b f))
  subst hab
  rw [pw_ext irr asy l2 m2 fun x => ?_]
  constructor
  ·intro hx
   rcases List.mem_cons.1 ((h x).1 (by simp [hx])) with e | e
   ·subst e; exact absurd (l1 x hx) (irr x)
   ·exact e
  ·intro hx
   rcases List.mem_cons.1 ((h x).2 (by simp [hx])) with e | e
   ·subst e; exact absurd (m1 x hx) (irr x)
   ·exact e
theorem ascH_ext {l m : List Hold} (hl : ascH l) (hm : ascH m) (h : ∀ x, x ∈ l ↔ x ∈ m) : l = m :=
 pw_ext (fun a h => by have := cmpP_self a.proc; omega) (fun a b h k => by have := cmpP_swap a.proc b.proc; omega) hl hm h
theorem asc_place {p : Proc} {a : Amt} : ∀ {d : List Hold}, ascH d → (∀ h ∈ d, h.proc ≠ p) → ascH (d.take (placeN d p) ++ ⟨p, a⟩ :: d.drop (placeN d p))
 | [], _, _ => by simp [placeN, ascH]
 | x :: d, h, hn => by
  obtain ⟨h1, h2⟩ := List.pairwise_cons.1 h
  have hx : x.proc ≠ p := hn x (by simp)
  cases hk : after' p x
  ·have e : placeN (x :: d) p = placeN d p + 1 := by
    unfold placeN
    rw [List.findIdx?_cons, hk]
    cases d.findIdx? (after' p) <;> simp
   rw [e]
   refine List.pairwise_cons.2 ⟨fun y hy => ?_, asc_place h2 fun y hy => hn y (by simp [hy])⟩
   have hxp : cmpP x.proc p < 0 := by
    simp only [after', decide_eq_false_iff_not] at hk
    have : cmpP x.proc p ≠ 0 := fun e => hx (cmpP_eq e)
    omega
   rcases List.mem_append.1 hy with hy | hy
   ·exact h1 y (List.mem_of_mem_take hy)
   ·rcases List.mem_cons.1 hy with hy | hy
    ·subst hy; exact hxp
    ·exact h1 y (List.mem_of_mem_drop hy)
  ·have e : placeN (x :: d) p = 0 := by
    unfold placeN
    rw [List.findIdx?_cons, hk]; rfl
   rw [e]
   have hpx : cmpP p x.proc < 0 := by
    simp only [after', decide_eq_true_eq] at hk
    have := cmpP_swap x.proc p
    omega
   refine List.pairwise_cons.2 ⟨fun y hy => ?_, h⟩
   rcases List.mem_cons.1 hy with hy | hy
   ·subst hy; exact hpx
   ·exact cmpP_trans hpx (h1 y hy)
theorem asc_set {l : List Hold} {p : Proc} {a : Amt} (h : ascH l) (ha : a.zero = false) : ascH (setH l p a) := by
 unfold setH
 rw [ha]
 exact asc_place (h.sublist List.filter_sublist) fun y hy => (mem_dropH.1 hy).2
theorem holds_asc {r : Res} {l : List Hold} (h : holdsOK r l = true) : ascH l := ((holdsOK_iff r l).1 h).2.2.2.1
theorem cut_eq (q : Queue) (p : Proc) : cutQ q p = { q with holds := dropH q.holds p, convs := dropW q.convs p, waits := dropW q.waits p } := by simp [cutQ, setH_zero]
theorem head_pop {q : Queue} {w : Wait} (hh : headQ q = some w) : (∃ l, q.convs = w :: l ∧ popQ q w = { q with holds := setH q.holds w.proc w.amt, convs := l }) ∨ (∃ l, q.convs = [] ∧ q.waits = w :: l ∧ popQ q w = { q with holds := setH q.holds w.proc w.amt, waits := l }) := by
 cases hc : q.convs with
 | cons w' l =>
  have hw' : w' = w := by simp [headQ, hc] at hh; exact hh
  subst hw'
  exact .inl ⟨l, rfl, by unfold popQ; simp only [hc]⟩
 | nil =>
  cases hw : q.waits with
  | nil => simp [headQ, hc, hw] at hh
  | cons w' l =>
   have hw' : w' = w := by simp [headQ, hc, hw] at hh; exact hh
   subst hw'
   exact .inr ⟨l, rfl, rfl, by unfold popQ; simp only [hc, hw]; rfl⟩
theorem cut_pop {q : Queue} {w : Wait} (h : Sound q) (hh : headQ q = some w) (hr : roomH q.res q.holds w.proc w.amt = true) (x : Proc) : (advQ (cutQ (popQ q w) x)).1 = (advQ (cutQ q x)).1 := by
 obtain ⟨r1, r2, r3⟩ := room_spec hr
 have hz := fits_nz r1
 have ha := holds_asc r3
 by_cases e : w.proc = x
 ·have hd : dropH (setH q.holds w.proc w.amt) x = dropH q.holds x := by
   refine ascH_ext (ha.sublist List.filter_sublist) ((holds_asc h.holds).sublist List.filter_sublist) fun y => ?_
   simp only [mem_dropH, mem_setH hz]
   constructor
   ·rintro ⟨(⟨h1, h2⟩ | h1), h3⟩
    ·exact ⟨h1, h3⟩
    ·subst h1; exact absurd e h3
   ·rintro ⟨h1, h2⟩; exact ⟨.inl ⟨h1, e ▸ h2⟩, h2⟩
  have hcc : ∀ l, dropW (w :: l) x = dropW l x := fun l => by simp [dropW, e]
  have : cutQ (popQ q w) x = cutQ q x := by
   rcases head_pop hh with ⟨l, h1, h2⟩ | ⟨l, h1, h3, h2⟩
   ·rw [h2, cut_eq, cut_eq, h1, hcc, hd]
   ·rw [h2, cut_eq, cut_eq, h3, hcc, hd]
  rw [this]
 ·have hd : dropH (setH q.holds w.proc w.amt) x = setH (dropH q.holds x) w.proc w.amt := by
   have ha2 : ascH (dropH (setH q.holds w.proc w.amt) x) := ha.sublist List.filter_sublist
   refine ascH_ext ha2 (asc_set ((holds_asc h.holds).sublist List.filter_sublist) hz) fun y => ?_
   simp only [mem_dropH, mem_setH hz]
   constructor
   ·rintro ⟨(⟨h1, h2⟩ | h1), h3⟩
    ·exact .inl ⟨⟨h1, h3⟩, h2⟩
    ·exact .inr h1
   ·rintro (⟨⟨h1, h3⟩, h2⟩ | h1)
    ·exact ⟨.inl ⟨h1, h2⟩, h3⟩
    ·subst h1; exact ⟨.inr rfl, e⟩
  have hr2 : roomH (cutQ q x).res (cutQ q x).holds w.proc w.amt = true := by
   rw [cut_eq]
   simp only [roomH, Bool.and_eq_true, ← hd]
   exact ⟨⟨⟨holdsOK_sub List.filter_sublist h.holds, r2⟩, r1⟩, holdsOK_sub List.filter_sublist r3⟩
  have hcc : ∀ l, dropW (w :: l) x = w :: dropW l x := fun l => by simp [dropW, e]
  have key : headQ (cutQ q x) = some w ∧ popQ (cutQ q x) w = cutQ (popQ q w) x := by
   rcases head_pop hh with ⟨l, h1, h2⟩ | ⟨l, h1, h3, h2⟩
   ·rw [h2, cut_eq, cut_eq, h1, hcc, hd]
    exact ⟨rfl, rfl⟩
   ·rw [h2, cut_eq, cut_eq, h1, h3, hcc, hd]
    exact ⟨rfl, rfl⟩
  rw [advQ_def (cutQ q x), key.1]
  simp only [hr2, if_true, key.2]
theorem adv_cut_adv {q : Queue} (h : Sound q) (x : Proc) : (advQ (cutQ (advQ q).1 x)).1 = (advQ (cutQ q x)).1 :=
 (adv_ind (P := fun y => Sound y ∧ (advQ (cutQ y x)).1 = (advQ (cutQ q x)).1) (fun _ _ hy hh hr => ⟨sound_pop hy.1 hh hr, (cut_pop hy.1 hh hr x).trans hy.2⟩) _ q rfl ⟨h, rfl⟩).1.2
theorem cut_comm (q : Queue) (p r : Proc) : cutQ (cutQ q p) r = cutQ (cutQ q r) p := by
 simp only [cut_eq, dropH, dropW, List.filter_filter, Bool.and_comm]
theorem remQ1_adv {q : Queue} (hv : valid q = true) (p : Proc) : remQ1 q p = (advQ (cutQ q p)).1 := by
 by_cases hp : hasP (procsQ q) p = true
 ·have e : remQ1 q p = { endQ (cutQ q p) with gen := q.gen } := by simp [remQ1, hv, hp]
  rw [e]
  have h1 : (advQ (cutQ q p)).1.gen = q.gen := (adv_res _).2
  show ({ (advQ (cutQ q p)).1 with gen := q.gen } : Queue) = _
  rw [← h1]
 ·have e : remQ1 q p = q := by simp [remQ1, hp]
  have hn : ¬ inQ q p := by rw [← mem_procsQ]; simpa [hasP] using hp
  have e2 : cutQ q p = q := by
   have k1 : dropH q.holds p = q.holds := List.filter_eq_self.2 fun y hy => decide_eq_true fun e => hn (.inl ⟨y, hy, e⟩)
   have k2 : dropW q.convs p = q.convs := List.filter_eq_self.2 fun y hy => decide_eq_true fun e => hn (.inr (.inl ⟨y, hy, e⟩))
   have k3 : dropW q.waits p = q.waits := List.filter_eq_self.2 fun y hy => decide_eq_true fun e => hn (.inr (.inr ⟨y, hy, e⟩))
   rw [cut_eq, k1, k2, k3]
  rw [e, e2, advQ_def]
  have hs := ((valid_iff q).1 hv).2
  cases hh : headQ q with
  | none => rfl
  | some w => simp only [hs w hh]; rfl
theorem remQ1_comm {q : Queue} (hv : valid q = true) (p r : Proc) : remQ1 (remQ1 q p) r = remQ1 (remQ1 q r) p := by
 have hs := ((valid_iff q).1 hv).1
 rw [remQ1_adv (valid_rem hv p), remQ1_adv (valid_rem hv r), remQ1_adv hv, remQ1_adv hv, adv_cut_adv (sound_cut hs p), adv_cut_adv (sound_cut hs r), cut_comm]
theorem rem_comm {s : WS} (h : GoodS s) (p r : Proc) : remS (remS s p) r = remS (remS s r) p := by
 simp only [remS, List.map_map, remN, List.filter_filter, WS.mk.injEq]
 exact ⟨List.map_congr_left fun q hq => remQ1_comm (h q hq) p r, by simp only [Bool.and_comm]⟩
theorem want_mem {q : Queue} {p : Proc} : (wantQ q p).isSome = true ↔ ∃ w ∈ q.convs ++ q.waits, w.proc = p := by
 simp only [wantQ, Option.isSome_map, List.find?_isSome, decide_eq_true_eq]
theorem want_rem {q : Queue} (hv : valid q = true) {p x : Proc} (h : (wantQ (remQ1 q p) x).isSome = true) : (wantQ q x).isSome = true := by
 rw [remQ1_adv hv] at h
 rw [want_mem] at *
 obtain ⟨w, hw, rfl⟩ := h
 have := (adv_ind (P := fun y => ∀ v ∈ y.convs ++ y.waits, v ∈ q.convs ++ q.waits) (fun y w hy hh _ v hv => hy v (by
  rcases head_pop hh with ⟨l, h1, h2⟩ | ⟨l, h1, h3, h2⟩
  ·rw [h2] at hv; rw [h1]; exact List.mem_cons_of_mem _ hv
  ·rw [h2, h1] at hv; rw [h1, h3]; exact List.mem_cons_of_mem _ hv)) _ (cutQ q p) rfl (fun v hv => by
  simp only [cut_eq, dropW, List.mem_append, List.mem_filter] at hv ⊢
  rcases hv with hv | hv
  ·exact .inl hv.1
  ·exact .inr hv.1)).1
 exact ⟨w, this w hw, rfl⟩
theorem waitsIn_mono {x : Proc} {name : Bs} {f : Queue → Queue} (l : List Queue) (hf : ∀ q ∈ l, (f q).res = q.res ∧ ((wantQ (f q) x).isSome = true → (wantQ q x).isSome = true)) (h : waitsIn (l.map f) x name = true) : waitsIn l x name = true := by
 unfold waitsIn at *
 have gen : ∀ (l : List Queue), (∀ q ∈ l, (f q).res = q.res ∧ ((wantQ (f q) x).isSome = true → (wantQ q x).isSome = true)) → ∀ a b : Bool, (a = true → b = true) → (l.map f).foldl (fun w q => if q.res.name == name then (wantQ q x).isSome else w) a = true → l.foldl (fun w q => if q.res.name == name then (wantQ q x).isSome else w) b = true := by
  intro l
  induction l with
  | nil => intro _ a b hab h; exact hab h
  | cons q l ih =>
   intro hl a b hab h
   obtain ⟨h1, h2⟩ := hl q (by simp)
   simp only [List.map_cons, List.foldl_cons] at h ⊢
   refine ih (fun q hq => hl q (by simp [hq])) _ _ ?_ h
   rw [h1]
   split
   ·exact h2
   ·exact hab
 exact gen l hf false false id h
mutual
theorem evalE_mono {f g : Atom → Bool} (h : ∀ a, f a = true → g a = true) : ∀ e : Expr, evalE f e = true → evalE g e = true
 | .mk k a kids => by
  unfold evalE
  split
  ·exact h a
  ·intro hk
   have := countE_mono h kids
   simp only [decide_eq_true_eq] at hk ⊢
   omega
theorem countE_mono {f g : Atom → Bool} (h : ∀ a, f a = true → g a = true) : ∀ l : List Expr, countE f l ≤ countE g l
 | [] => by simp [countE]
 | e :: l => by
  have h1 := evalE_mono h e
  have h2 := countE_mono h l
  simp only [countE]
  cases he : evalE f e
  ·simp only [Bool.false_eq_true, if_false]
   split <;> omega
  ·rw [h1 he]
   simp only [if_true]
   omega
end
theorem hasA_mono {l : List Atom} {s t : List Bool} (h : ∀ k, s.getD k false = true → t.getD k false = true) (a : Atom) (ha : hasA l s a = true) : hasA l t a = true := by
 unfold hasA at *
 split
 ·next i hi => rw [hi] at ha; exact h i ha
 ·next hi => rw [hi] at ha; exact ha
theorem map_getD_mono {α : Type} {f g : α → Bool} (l : List α) (h : ∀ a ∈ l, f a = true → g a = true) (k : Nat) (hk : (l.map f).getD k false = true) : (l.map g).getD k false = true := by
 simp only [List.getD_eq_getElem?_getD, List.getElem?_map] at *
 cases ha : l[k]? with
 | none => rw [ha] at hk; simp at hk
 | some a => rw [ha] at hk; simp only [Option.map_some, Option.getD_some] at hk ⊢; exact h a (List.mem_of_getElem? ha) hk
theorem holdsE_mono {e : Expr} {s t : List Bool} (h : ∀ k, s.getD k false = true → t.getD k false = true) (hs : holdsE e s = true) : holdsE e t = true := by
 simp only [holdsE, Bool.and_eq_true] at *
 exact ⟨hs.1, evalE_mono (hasA_mono h) e hs.2⟩
theorem free_rem {s : WS} (h : GoodS s) {x p : Proc} (hne : x ≠ p) (hf : isFreeS s x = true) : isFreeS (remS s p) x = true := by
 unfold isFreeS at *
 have e : (remS s p).needs.find? (fun n => decide (n.proc = x)) = s.needs.find? fun n => decide (n.proc = x) := find_filter (fun n hn => by simp only [decide_eq_true_eq] at hn ⊢; rw [hn]; exact hne) _
 rw [e]
 cases hn : s.needs.find? (fun n => decide (n.proc = x)) with
 | none => rfl
 | some n =>
  rw [hn] at hf
  simp only at hf ⊢
  refine holdsE_mono (map_getD_mono _ fun a _ => ?_) hf
  intro h1
  cases hw : waitsIn (remS s p).queues n.proc a.name
  ·rfl
  ·have := waitsIn_mono s.queues (fun q hq => ⟨remQ1_res q p, want_rem (h q hq)⟩) hw
   rw [this] at h1
   cases h1
theorem mem_freeS {s : WS} {x : Proc} : x ∈ freeS s ↔ x ∈ procsS s ∧ isFreeS s x = true := List.mem_filter
theorem free_rem' {s : WS} (h : GoodS s) {x p : Proc} (hne : x ≠ p) (hf : x ∈ freeS s) : x ∈ freeS (remS s p) := by
 rw [mem_freeS] at *
 exact ⟨(mem_rem h p x).2 ⟨hf.1, hne⟩, free_rem h hne hf.2⟩
def deadS (s : WS) : List Proc := (redS s).2
theorem dead_nil {s : WS} (h : GoodS s) (hf : freeS s = []) : deadS s = procsS s := by
 unfold deadS; rw [redS_def h, hf]
theorem dead_step {s : WS} (h : GoodS s) {p : Proc} {l : List Proc} (hf : freeS s = p :: l) : deadS s = deadS (remS s p) := by
 unfold deadS; rw [redS_def h, hf]
theorem no_procs {s : WS} (h : (procsS s).length ≤ 0) : procsS s = [] := List.eq_nil_of_length_eq_zero (by omega)
theorem dead_sub : ∀ (n : Nat) (s : WS), GoodS s → (procsS s).length ≤ n → ∀ x ∈ deadS s, x ∈ procsS s := by
 intro n
 induction n with
 | zero =>
  intro s h hn x hx
  have : freeS s = [] := by unfold freeS; rw [no_procs hn]; rfl
  rwa [dead_nil h this] at hx
 | succ n ih =>
  intro s h hn x hx
  cases hf : freeS s with
  | nil => rwa [dead_nil h hf] at hx
  | cons p l =>
   rw [dead_step h hf] at hx
   have hp : p ∈ procsS s := (mem_freeS.1 (hf ▸ List.mem_cons_self)).1
   have := procs_dec h hp
   exact ((mem_rem h p x).1 (ih _ (good_rem h p) (by omega) x hx)).1
theorem dead_free : ∀ (n : Nat) (s : WS), GoodS s → (procsS s).length ≤ n → ∀ f ∈ freeS s, deadS s = deadS (remS s f) := by
 intro n
 induction n with
 | zero =>
  intro s h hn f hf
  have := (mem_freeS.1 hf).1
  rw [no_procs hn] at this
  cases this
 | succ n ih =>
  intro s h hn f hf
  cases hs : freeS s with
  | nil => rw [hs] at hf; cases hf
  | cons g l =>
   rw [dead_step h hs]
   by_cases e : f = g
   ·rw [e]
   ·have hg : g ∈ freeS s := hs ▸ List.mem_cons_self
    have d1 := procs_dec h (mem_freeS.1 hg).1
    have d2 := procs_dec h (mem_freeS.1 hf).1
    rw [ih _ (good_rem h g) (by omega) f (free_rem' h e hf), ih _ (good_rem h f) (by omega) g (free_rem' h (Ne.symm e) hg), rem_comm h]
theorem dead_fewer : ∀ (n : Nat) (s : WS), GoodS s → (procsS s).length ≤ n → ∀ p, ∀ x ∈ deadS (remS s p), x ∈ deadS s := by
 intro n
 induction n with
 | zero =>
  intro s h hn p x hx
  have hx := dead_sub _ _ (good_rem h p) (Nat.le_refl _) x hx
  have := ((mem_rem h p x).1 hx).1
  rw [no_procs hn] at this
  cases this
 | succ n ih =>
  intro s h hn p x hx
  cases hs : freeS s with
  | nil =>
   rw [dead_nil h hs]
   exact ((mem_rem h p x).1 (dead_sub _ _ (good_rem h p) (Nat.le_refl _) x hx)).1
  | cons g l =>
   rw [dead_step h hs]
   by_cases e : g = p
   ·rw [e]; exact hx
   ·have hg : g ∈ freeS s := hs ▸ List.mem_cons_self
    have d1 := procs_dec h (mem_freeS.1 hg).1
    refine ih _ (good_rem h g) (by omega) p x ?_
    rw [rem_comm h, ← dead_free _ _ (good_rem h p) (Nat.le_refl _) g (free_rem' h e hg)]
    exact hx
theorem dead_fold (l : List Proc) (ms : List Proc) : ∀ s : WS, GoodS s → GoodS (ms.foldl (fun x p => if hasP l p then x else remS x p) s) ∧ ∀ x ∈ deadS (ms.foldl (fun x p => if hasP l p then x else remS x p) s), x ∈ deadS s := by
 induction ms with
 | nil => exact fun _ h => ⟨h, fun _ h => h⟩
 | cons m ms ih =>
  intro s h
  simp only [List.foldl_cons]
  split
  ·exact ih s h
  ·have := ih _ (good_rem h m)
   exact ⟨this.1, fun x hx => dead_fewer _ s h (Nat.le_refl _) m x (this.2 x hx)⟩
theorem good_resS {s : WS} (h : GoodS s) (l : List Proc) : GoodS (resS s l) := (dead_fold l _ s h).1
theorem dead_resS {s : WS} (h : GoodS s) (l : List Proc) : ∀ x ∈ deadS (resS s l), x ∈ deadS s := (dead_fold l _ s h).2
attribute [go_sem] nmM
def place (c : Cause) : Pl := (c.proc, c.name)
def l1 (s : WS) : List Pl → List Cause → Bool
 | _, [] => true
 | seen, c :: cs => !decide (place c ∈ seen) && rightS s c && l1 s (seen ++ [place c]) cs
def l2 (all : List Pl) (cs : List Cause) : Bool := cs.all fun c => !(decide (c.why = 2) && !decide ((c.members.headD ⟨0, 0, 0⟩, c.name) ∈ all))
def hopeP (s : WS) (all : List Pl) (p : Proc) : Bool := match needQ s p with
 | none => false
 | some n => hopeE n.expr ((atomsE n.expr).map fun a => decide ((p, a.name) ∈ all))
def checkS (w : Wit) : Int :=
 if validS w.state = true ∧ w.members = procsS w.state then
  if l1 w.state [] w.causes = true ∧ l2 (w.causes.map place) w.causes = true ∧ w.members.all (hopeP w.state (w.causes.map place)) = true then 0 else 17
 else 2
theorem l1_right {s : WS} : ∀ {seen : List Pl} {cs : List Cause}, l1 s seen cs = true → ∀ c ∈ cs, rightS s c = true
 | _, [], _, c, h => by cases h
 | seen, d :: cs, h, c, hc => by
  simp only [l1, Bool.and_eq_true] at h
  rcases List.mem_cons.1 hc with rfl | hc
  ·exact h.1.2
  ·exact l1_right h.2 c hc
theorem right_two {s : WS} {c : Cause} (h : rightS s c = true) (hw : c.why = 2) : ∃ x, c.members = [x] := by
 unfold rightS at h
 split at h
 ·cases h
 ·rename_i q _
  simp only [Bool.and_eq_true, decide_eq_true_eq] at h
  obtain ⟨⟨h1, h2⟩, h3⟩ := h
  rw [hw] at h2
  cases hk : (ordQ q).findIdx? (fun x => decide (x = c.proc)) with
  | none => simp [causeQ, hk] at h1
  | some k =>
   cases k with
   | zero => simp [causeQ, hk] at h2
   | succ k =>
    simp [causeQ, hk] at h3
    exact ⟨_, h3.symm⟩
theorem all_next {α : Type} {f : α → Bool} {l : List α} {i : Nat} {b : α} (hb : l[i]? = some b) (h : (l.take i).all f = true) (hf : f b = true) : (l.take (i + 1)).all f = true := by
 rw [List.take_add_one, hb, Option.toList_some, List.all_append, h]
 simp [hf]
theorem all_bad {α : Type} {f : α → Bool} {l : List α} {b : α} (hm : b ∈ l) (hf : f b = false) : l.all f = false := by
 rw [List.all_eq_false]
 exact ⟨b, hm, by simp [hf]⟩
set_option maxHeartbeats 4000000 in
theorem f13_ok (w : Wit) (hw : Few w.state) (hml : w.members.length ≤ 1000000) (hcl : w.causes.length ≤ 1000000) : FnOK C0 13 [.agg w.c] [] (I (checkS w)) [] := by
 refine FnOK.intro (fn := Tryz.f13) (c := Tryz.f13.body.getD .skip) (by kernel_rfl) (by kernel_rfl) (by kernel_rfl) (by kernel_rfl) (by simp [Tryz.f13]) (by simp [names]) ?_
 unfold Tryz.f13
 simp (disch := omega) only [go_sem]
 refine draw_mk 10 [([], [1]), ([0], [16]), ([0, 1], [17]), ([0, 1, 2], [18]), ([0, 1, 2, 3], [19]), ([0, 1, 2, 3, 4], [1, 20]), ([0, 1, 2, 3, 4, 5], [21, 20]), ([0, 1, 2, 3, 4], [1, 20]), ([0, 1, 2, 3, 4, 7], [23, 20]), ([0, 1, 2, 3, 4, 7, 8], [24, 20]), ([0, 1, 2, 3, 4, 5, 6, 7, 8, 9], []), ([0, 1, 2, 3, 4, 5, 6, 7, 8, 9, 10], []), ([0, 1, 2, 3, 4, 5, 6, 7, 8, 9, 10, 11], [])] fol (by kernel_rfl) ?_
 simp (disch := omega) only [go_sem]
 first | (refine call_pure (f35_ok w.state hw) (by simp (disch := omega) only [go_sem]) rfl ?_) | (refine freeCall_mk ⟨⟨[], [], []⟩, [], []⟩ (f35_ok w.state hw) (by simp (disch := omega) only [go_sem]) rfl rfl trivial (.inl rfl) ?_)
 cases hv : validS w.state
 ·have e : checkS w = 2 := by simp [checkS, hv]
  simp (disch := omega) only [go_sem, e]
  refine ret1 _ ?_
  simp (disch := omega) only [go_sem]
 simp (disch := omega) only [go_sem]
 first | (refine call_pure (f25_ok w.state hw) (by simp (disch := omega) only [go_sem]) rfl ?_) | (refine freeCall_mk ⟨⟨[], [], []⟩, [], []⟩ (f25_ok w.state hw) (by simp (disch := omega) only [go_sem]) rfl rfl trivial (.inl rfl) ?_)
 simp (disch := omega) only [go_sem]
 first | (refine call_pure (f36_ok w.members (procsS w.state) hml) (by simp (disch := omega) only [go_sem]) rfl ?_) | (refine freeCall_mk ⟨⟨[], [], []⟩, [], []⟩ (f36_ok w.members (procsS w.state) hml) (by simp (disch := omega) only [go_sem]) rfl rfl trivial (.inl rfl) ?_)
 by_cases hmem : w.members = procsS w.state
 rotate_left
 ·have e : checkS w = 2 := by simp [checkS, hmem]
  simp (disch := omega) only [go_sem, e, hmem, decide_false]
  refine ret1 _ ?_
  simp (disch := omega) only [go_sem]
 simp (disch := omega) only [go_sem, hmem, decide_true]
 rw [← hmem]
 have ev : checkS w = if l1 w.state [] w.causes = true ∧ l2 (w.causes.map place) w.causes = true ∧ w.members.all (hopeP w.state (w.causes.map place)) = true then 0 else 17 := by
  unfold checkS
  rw [if_pos ⟨hv, hmem⟩]
 refine loop_intro (α := Nat) (fun i => ⟨[(33, I i), (32, I w.causes.length), (31, causesV w.causes), (1, .ptr 64 0), (3, .mp 1918)], [(64, w.c), (1918, mpC ((w.causes.take i).map place))]⟩) (fun i => i ≤ (w.causes).length ∧ l1 w.state [] w.causes = l1 w.state ((w.causes.take i).map place) (w.causes.drop i)) (fun i => (w.causes).length - i) 0 ⟨by omega, (by simp)⟩ ?_ ?_
 ·refine Imp.weak ?_ ?_
  all_goals (try simp (disch := omega) only [go_sem, List.take_zero, List.map_nil, mpC_nil])
  all_goals (try (repeat' (with_reducible apply And.intro)))
  all_goals (first | exact .nilOwn (by omega) | exact .nilNo (by omega) | exact .sl (by simp [place]) | exact .int (by simp [place]) | exact .eq (by simp [place]))
 rintro i ⟨hi, hP⟩ J hJ
 simp (disch := omega) only [go_sem]
 refine And.intro (fun hlt => ?_) (fun hge => ?_)
 rotate_left
 have hil : i = (w.causes).length := by simp at hge; omega
 rotate_left
 obtain ⟨b, hb⟩ : ∃ b, (w.causes)[i]? = some b := ⟨_, List.getElem?_eq_getElem (by simp at hlt; omega)⟩
 have hbm := List.mem_of_getElem? hb
 simp (disch := omega) only [go_sem, List.getElem?_map, hb]
 ·have hd : w.causes.drop i = b :: w.causes.drop (i + 1) := by
   have hlt2 : i < w.causes.length := by simp at hlt; omega
   rw [List.drop_eq_getElem_cons hlt2]
   rw [List.getElem?_eq_getElem hlt2] at hb
   injection hb with hb
   rw [hb]
  rw [hd] at hP
  simp only [l1] at hP
  have hnext : (w.causes.take (i + 1)).map place = (w.causes.take i).map place ++ [(b.proc, b.name)] := by
   rw [List.take_add_one, hb]
   simp [place]
  have hpl : place b = (b.proc, b.name) := rfl
  cases hs : decide ((b.proc, b.name) ∈ (w.causes.take i).map place)
  rotate_left
  ·have e : checkS w = 17 := by rw [ev, if_neg]; rw [hP, hpl, hs]; simp
   simp (disch := omega) only [go_sem, hs, e]
   refine ret1 _ ?_
   simp (disch := omega) only [go_sem]
  simp (disch := omega) only [go_sem, hs]
  refine call_pure (f37_ok w.state b hw) (by simp (disch := omega) only [go_sem]) rfl ?_
  cases hr : rightS w.state b
  ·have e : checkS w = 17 := by rw [ev, if_neg]; rw [hP, hr]; simp
   simp (disch := omega) only [go_sem, e]
   refine ret1 _ ?_
   simp (disch := omega) only [go_sem]
  have hni : (b.proc, b.name) ∉ (w.causes.take i).map place := by simpa using hs
  simp (disch := omega) only [go_sem, ins_mp hni]
  refine hJ _ (i + 1) ⟨by simp at hlt; omega, by rw [hP, hpl, hs, hr, hnext]; rfl⟩ (by simp at hlt; omega) (Imp.weak (by simp (disch := omega) only [go_sem]) ?_)
  simp (disch := omega) only [go_sem, hnext]
 subst hil
 rw [List.take_length, List.drop_length] at hP
 simp only [l1] at hP
 simp (disch := omega) only [go_sem, List.take_length]
 have hright := l1_right hP
 clear hJ
 generalize hall : w.causes.map place = all at ev
 have ev2 : checkS w = if l2 all w.causes = true ∧ w.members.all (hopeP w.state all) = true then 0 else 17 := by
  rw [ev]
  simp only [hP, true_and]
 refine loop_intro (α := Nat) (fun i => ⟨[(58, I i), (57, I w.causes.length), (56, causesV w.causes), (1, .ptr 64 0), (3, .mp 1918)], [(64, w.c), (1918, mpC all)]⟩) (fun i => i ≤ (w.causes).length ∧ l2 all (w.causes.take i) = true) (fun i => (w.causes).length - i) 0 ⟨by omega, rfl⟩ ?_ ?_
 ·refine Imp.weak ?_ ?_
  all_goals (try simp (disch := omega) only [go_sem])
  all_goals (try (repeat' (with_reducible apply And.intro)))
  all_goals (first | exact .nilOwn (by omega) | exact .nilNo (by omega) | exact .sl (by simp []) | exact .int (by simp []) | exact .eq (by simp []))
 rintro i ⟨hi, hP⟩ J hJ
 simp (disch := omega) only [go_sem]
 refine And.intro (fun hlt => ?_) (fun hge => ?_)
 rotate_left
 have hil : i = (w.causes).length := by simp at hge; omega
 rotate_left
 obtain ⟨b, hb⟩ : ∃ b, (w.causes)[i]? = some b := ⟨_, List.getElem?_eq_getElem (by simp at hlt; omega)⟩
 have hbm := List.mem_of_getElem? hb
 simp (disch := omega) only [go_sem, List.getElem?_map, hb]
 ·by_cases hwy : b.why = 2
  rotate_left
  ·have e1 : (b.why == 2) = false := by simp [hwy]
   have hf : l2 all (w.causes.take (i + 1)) = true := all_next hb hP (by simp [hwy])
   refine draw_dag 32767 [(0, [(0, 1)]), (1, [(1, 3)]), (3, [(2, 7)]), (7, [(3, 15)]), (15, [(4, 31), (5, 47), (9, 527)]), (31, [(5, 63), (9, 543)]), (47, [(4, 63), (6, 111), (9, 559)]), (527, [(4, 543), (5, 559), (10, 1551)]), (63, [(6, 127), (9, 575)]), (543, [(5, 575), (10, 1567)]), (111, [(4, 127), (7, 239), (9, 623)]), (559, [(4, 575), (6, 623), (10, 1583)]), (1551, [(4, 1567), (5, 1583)]), (127, [(7, 255), (9, 639)]), (575, [(6, 639), (10, 1599)]), (1567, [(5, 1599)]), (239, [(4, 255), (8, 495), (9, 751)]), (623, [(4, 639), (7, 751), (10, 1647)]), (1583, [(4, 1599), (6, 1647)]), (255, [(8, 511), (9, 767)]), (639, [(7, 767), (10, 1663)]), (1599, [(6, 1663)]), (495, [(4, 511), (9, 1007)]), (751, [(4, 767), (8, 1007), (10, 1775)]), (1647, [(4, 1663), (7, 1775)]), (511, [(9, 1023)]), (767, [(8, 1023), (10, 1791)]), (1663, [(7, 1791)]), (1007, [(4, 1023), (10, 2031)]), (1775, [(4, 1791), (8, 2031)]), (1023, [(10, 2047)]), (1791, [(8, 2047)]), (2031, [(4, 2047), (11, 4079)]), (2047, [(11, 4095)]), (4079, [(4, 4095)]), (4095, [(12, 8191)]), (8191, [(13, 16383)]), (16383, [(14, 32767)]), (32767, [])] (fun m => ⟨sel m [(1, 62, .ptr 512 4), (2, 63, I b.why), (4, 64, B false), (8, 65, B false), (16384, 76, B false)] ++ [(58, I i), (57, I w.causes.length), (56, causesV w.causes), (1, .ptr 64 0), (3, .mp 1918), (8, .ptr 512 0)], [(64, w.c), (1918, mpC all), (512, b.c)]⟩) fol (by kernel_rfl) ?_ ?_ ?_
   ·exact Imp.weak (by simp (disch := omega) only [go_sem]) (by simp (disch := omega) only [go_sem])
   ·simp only [dagP_cons, dagE_cons, dagP_nil, dagE_nil, and_true]
    repeat' (with_reducible refine And.intro ?_ ?_)
    all_goals simp (disch := omega) only [go_sem, e1]
    all_goals exact Imp.weak (by simp (disch := omega) only [go_sem, e1]) (by simp (disch := omega) only [go_sem])
   ·simp (disch := omega) only [go_sem]
    refine hJ _ (i + 1) ⟨by simp at hlt; omega, hf⟩ (by simp at hlt; omega) (Imp.weak (by simp (disch := omega) only [go_sem]) (by simp (disch := omega) only [go_sem]))
  ·obtain ⟨x, hx⟩ := right_two (hright b hbm) hwy
   have e1 : (b.why == 2) = true := by simp [hwy]
   have hx0 : b.members[0]? = some x := by rw [hx]; rfl
   have hxl : 0 < b.members.length := by rw [hx]; simp
   have hhd : b.members.headD ⟨0, 0, 0⟩ = x := by rw [hx]; rfl
   refine draw_dag 32767 [(0, [(0, 1)]), (1, [(1, 3)]), (3, [(2, 7)]), (7, [(3, 15)]), (15, [(4, 31), (5, 47), (9, 527)]), (31, [(5, 63), (9, 543)]), (47, [(4, 63), (6, 111), (9, 559)]), (527, [(4, 543), (5, 559), (10, 1551)]), (63, [(6, 127), (9, 575)]), (543, [(5, 575), (10, 1567)]), (111, [(4, 127), (7, 239), (9, 623)]), (559, [(4, 575), (6, 623), (10, 1583)]), (1551, [(4, 1567), (5, 1583)]), (127, [(7, 255), (9, 639)]), (575, [(6, 639), (10, 1599)]), (1567, [(5, 1599)]), (239, [(4, 255), (8, 495), (9, 751)]), (623, [(4, 639), (7, 751), (10, 1647)]), (1583, [(4, 1599), (6, 1647)]), (255, [(8, 511), (9, 767)]), (639, [(7, 767), (10, 1663)]), (1599, [(6, 1663)]), (495, [(4, 511), (9, 1007)]), (751, [(4, 767), (8, 1007), (10, 1775)]), (1647, [(4, 1663), (7, 1775)]), (511, [(9, 1023)]), (767, [(8, 1023), (10, 1791)]), (1663, [(7, 1791)]), (1007, [(4, 1023), (10, 2031)]), (1775, [(4, 1791), (8, 2031)]), (1023, [(10, 2047)]), (1791, [(8, 2047)]), (2031, [(4, 2047), (11, 4079)]), (2047, [(11, 4095)]), (4079, [(4, 4095)]), (4095, [(12, 8191)]), (8191, [(13, 16383)]), (16383, [(14, 32767)]), (32767, [])] (fun m => ⟨sel m [(1, 62, .ptr 512 4), (2, 63, I b.why), (4, 64, B true), (8, 65, B true), (16, 66, .mp 1918), (32, 67, .ptr 512 5), (64, 68, procsV b.members), (128, 69, .ep .no 0 x.c 0), (256, 70, .agg x.c), (512, 71, .ptr 512 3), (1024, 72, .v (.string (str b.name))), (2048, 73, .agg (x.c ++ [.v (.string (str b.name))])), (4096, 74, B (decide ((x, b.name) ∈ all))), (8192, 75, B (!decide ((x, b.name) ∈ all))), (16384, 76, B (!decide ((x, b.name) ∈ all)))] ++ [(58, I i), (57, I w.causes.length), (56, causesV w.causes), (1, .ptr 64 0), (3, .mp 1918), (8, .ptr 512 0)], [(64, w.c), (1918, mpC all), (512, b.c)]⟩) fol (by kernel_rfl) ?_ ?_ ?_
   ·exact Imp.weak (by simp (disch := omega) only [go_sem]) (by simp (disch := omega) only [go_sem])
   ·simp only [dagP_cons, dagE_cons, dagP_nil, dagE_nil, and_true]
    repeat' (with_reducible refine And.intro ?_ ?_)
    all_goals simp (disch := omega) only [go_sem, e1, List.getElem?_map, hx0]
    all_goals exact Imp.weak (by simp (disch := omega) only [go_sem, e1]) (by simp (disch := omega) only [go_sem])
   ·cases hin : decide ((x, b.name) ∈ all)
    ·have e : checkS w = 17 := by
      rw [ev2, if_neg]
      have : l2 all w.causes = false := all_bad hbm (by rw [hhd, hin, hwy]; rfl)
      simp [this]
     simp (disch := omega) only [go_sem, e]
     refine ret1 _ ?_
     simp (disch := omega) only [go_sem]
    ·have hf : l2 all (w.causes.take (i + 1)) = true := all_next hb hP (by rw [hhd, hin]; simp)
     simp (disch := omega) only [go_sem]
     refine hJ _ (i + 1) ⟨by simp at hlt; omega, hf⟩ (by simp at hlt; omega) (Imp.weak (by simp (disch := omega) only [go_sem]) (by simp (disch := omega) only [go_sem]))
 subst hil
 rw [List.take_length] at hP
 have ev3 : checkS w = if w.members.all (hopeP w.state all) = true then 0 else 17 := by
  rw [ev2]
  simp only [hP, true_and]
 clear hJ
 have hex := validS_exprs hv
 refine loop_intro (α := Nat) (fun i => ⟨[(81, I i), (80, I w.members.length), (79, procsV w.members), (1, .ptr 64 0), (3, .mp 1918)], [(64, w.c), (1918, mpC all)]⟩) (fun i => i ≤ (w.members).length ∧ (w.members.take i).all (hopeP w.state all) = true) (fun i => (w.members).length - i) 0 ⟨by omega, rfl⟩ ?_ ?_
 ·refine Imp.weak ?_ ?_
  all_goals (try simp (disch := omega) only [go_sem])
  all_goals (try (repeat' (with_reducible apply And.intro)))
  all_goals (first | exact .nilOwn (by omega) | exact .nilNo (by omega) | exact .sl (by simp []) | exact .int (by simp []) | exact .eq (by simp []))
 rintro i ⟨hi, hP⟩ J hJ
 simp (disch := omega) only [go_sem]
 refine And.intro (fun hlt => ?_) (fun hge => ?_)
 rotate_left
 have hil : i = (w.members).length := by simp at hge; omega
 rotate_left
 obtain ⟨b, hb⟩ : ∃ b, (w.members)[i]? = some b := ⟨_, List.getElem?_eq_getElem (by simp at hlt; omega)⟩
 have hbm := List.mem_of_getElem? hb
 simp (disch := omega) only [go_sem, List.getElem?_map, hb]
 ·refine call_pure (f38_ok w.state b hw hex) (by simp (disch := omega) only [go_sem]) rfl ?_
  cases hn : needQ w.state b with
  | none =>
   have e : checkS w = 17 := by
    rw [ev3, if_neg]
    rw [all_bad hbm (by rw [hopeP, hn])]
    simp
   simp (disch := omega) only [go_sem, Option.isSome_none, Option.getD_none, e]
   refine ret1 _ ?_
   simp (disch := omega) only [go_sem]
  | some n =>
   simp (disch := omega) only [go_sem, Option.isSome_some, Option.getD_some]
   refine call_pure (f39_ok n.expr) (by simp (disch := omega) only [go_sem, Expr.c_def]) rfl ?_
   have hl := atomsE_len n.expr
   have hop : hopeP w.state all b = hopeE n.expr ((atomsE n.expr).map fun a => decide ((b, a.name) ∈ all)) := by rw [hopeP, hn]
   generalize hA : atomsE n.expr = A at hl hop
   obtain ⟨o, rfl⟩ : ∃ o, o = i := ⟨i, rfl⟩
   have hJo := hJ
   have hbo := hb
   have hPo := hP
   have hlo : o < w.members.length := by simp at hlt; omega
   clear hJ hb hlt hP
   obtain ⟨p, rfl⟩ : ∃ p, p = b := ⟨b, rfl⟩
   simp (disch := omega) only [go_sem]
   refine loop_intro (α := Nat) (fun i => ⟨[(98, I i), (97, I A.length), (96, atomsV A), (13, .sl (.own 7040 0) 1 ((A.take i).map fun a => [B (decide ((p, a.name) ∈ all))])), (81, I o), (80, I w.members.length), (79, procsV w.members), (1, .ptr 64 0), (3, .mp 1918), (10, .ptr 640 0), (11, .ptr 704 0)], [(64, w.c), (1918, mpC all), (640, p.c), (704, n.c)]⟩) (fun i => i ≤ (A).length ∧ True) (fun i => (A).length - i) 0 ⟨by omega, trivial⟩ ?_ ?_
   ·refine Imp.weak ?_ ?_
    all_goals (try simp (disch := omega) only [go_sem])
    all_goals (try (repeat' (with_reducible apply And.intro)))
    all_goals (first | exact .nilOwn (by omega) | exact .nilNo (by omega) | exact .sl (by simp []) | exact .int (by simp []) | exact .eq (by simp []))
   rintro i ⟨hi, hP⟩ J hJ
   simp (disch := omega) only [go_sem]
   refine And.intro (fun hlt => ?_) (fun hge => ?_)
   rotate_left
   have hil : i = (A).length := by simp at hge; omega
   rotate_left
   obtain ⟨b, hb⟩ : ∃ b, (A)[i]? = some b := ⟨_, List.getElem?_eq_getElem (by simp at hlt; omega)⟩
   have hbm := List.mem_of_getElem? hb
   simp (disch := omega) only [go_sem, List.getElem?_map, hb]
   ·have hbd : min i A.length + 1 ≤ 4294967296 := by omega
    try simp (disch := omega) only [go_sem, List.length_map, List.length_take]
    refine hJ _ (i + 1) ⟨by simp at hlt; omega, trivial⟩ (by simp at hlt; omega) (Imp.weak ?_ (by simp (disch := omega) only [go_sem]))
    simp (disch := omega) only [go_sem]
    exact .sl (by simp [List.take_add_one, hb])
   ·subst hil
    clear hJ
    refine call_lent [7040] (f40_ok n.expr (A.map fun a => decide ((p, a.name) ∈ all))) ?_ rfl trivial ?_
    ·simp (disch := omega) only [go_sem, List.take_length, Expr.c_def]
     exact .sl (by simp)
    cases hh : hopeE n.expr (A.map fun a => decide ((p, a.name) ∈ all))
    ·have e : checkS w = 17 := by
      rw [ev3, if_neg]
      rw [all_bad hbm (hop.trans hh)]
      simp
     simp (disch := omega) only [go_sem, e]
     refine ret1 _ ?_
     simp (disch := omega) only [go_sem]
    ·simp (disch := omega) only [go_sem]
     refine hJo _ (o + 1) ⟨by omega, all_next hbo hPo (hop.trans hh)⟩ (by omega) (Imp.weak (by simp (disch := omega) only [go_sem]) (by simp (disch := omega) only [go_sem]))
 ·subst hil
  rw [List.take_length] at hP
  have e : checkS w = 0 := by rw [ev3, if_pos hP]
  simp (disch := omega) only [go_sem, e]
  refine ret1 _ ?_
  simp (disch := omega) only [go_sem]
theorem f65_ok (r : Res) (l : List Hold) (p : Proc) (a : Amt) (hl : l.length ≤ 1000000) : FnOK C0 65 [.agg r.c, holdsV l, .agg p.c, .agg a.c] [] (procsV (againstH r l p a)) [] := by
 refine FnOK.intro (fn := Tryz.f65) (c := Tryz.f65.body.getD .skip) (by kernel_rfl) (by kernel_rfl) (by kernel_rfl) (by kernel_rfl) (by simp [Tryz.f65]) (by simp [names]) ?_
 unfold Tryz.f65
 simp (disch := omega) only [go_sem]
 refine call_pure (f110_ok r l hl) (by simp (disch := omega) only [go_sem]) rfl ?_
 cases h1 : holdsOK r l
 ·have e : againstH r l p a = [] := by simp [againstH, h1]
  simp (disch := omega) only [go_sem, e]
  refine ret1 _ ?_
  simp (disch := omega) only [go_sem]
 simp (disch := omega) only [go_sem]
 refine call_pure (f77_ok p) (by simp (disch := omega) only [go_sem]) rfl ?_
 cases h2 : p.ok
 ·have e : againstH r l p a = [] := by simp [againstH, h2]
  simp (disch := omega) only [go_sem, e]
  refine ret1 _ ?_
  simp (disch := omega) only [go_sem]
 simp (disch := omega) only [go_sem]
 refine call_pure (f111_ok r a) (by simp (disch := omega) only [go_sem]) rfl ?_
 cases h3 : r.fits a
 ·have e : againstH r l p a = [] := by simp [againstH, h3]
  simp (disch := omega) only [go_sem, e]
  refine ret1 _ ?_
  simp (disch := omega) only [go_sem]
 simp (disch := omega) only [go_sem]
 refine call_pure (f112_ok r l p a hl) (by simp (disch := omega) only [go_sem]) rfl ?_
 cases h4 : roomH r l p a
 rotate_left
 ·have e : againstH r l p a = [] := by simp [againstH, h4]
  simp (disch := omega) only [go_sem, e]
  refine ret1 _ ?_
  simp (disch := omega) only [go_sem]
 have e : againstH r l p a = agT r p a l := by simp [againstH, h1, h2, h3, h4]
 have hk2 : r.kind = 1 ∨ r.kind = 2 := (shaped_kind (by simp only [holdsOK, Bool.and_eq_true] at h1; exact h1.1.1.1)).imp And.left id
 simp (disch := omega) only [go_sem, e]
 refine loop_intro (α := Nat) (fun i => ⟨[(10, I i), (1, holdsV l), (9, .sl (.own 4352 0) 3 ((agT r p a (l.take i)).map Proc.c)), (4, .ptr 256 0), (6, .ptr 384 0), (7, .ptr 448 0)], [(256, r.c), (384, p.c), (448, a.c)]⟩) (fun i => i ≤ (l).length ∧ True) (fun i => (l).length - i) 0 ⟨by omega, trivial⟩ ?_ ?_
 ·refine Imp.weak ?_ ?_
  all_goals (try simp (disch := omega) only [go_sem])
  all_goals (try (repeat' (with_reducible apply And.intro)))
  all_goals (first | exact .nilOwn (by omega) | exact .nilNo (by omega) | exact .sl (by simp [agT]) | exact .int (by simp [agT]) | exact .eq (by simp [agT]))
 rintro i ⟨hi, hP⟩ J hJ
 simp (disch := omega) only [go_sem]
 refine And.intro (fun hlt => ?_) (fun hge => ?_)
 rotate_left
 have hil : i = (l).length := by simp at hge; omega
 rotate_left
 obtain ⟨b, hb⟩ : ∃ b, (l)[i]? = some b := ⟨_, List.getElem?_eq_getElem (by simp at hlt; omega)⟩
 have hbm := List.mem_of_getElem? hb
 have hlt2 : i < (l).length := by simp at hlt; omega
 refine draw_mk 6 [([], [1]), ([], [10]), ([0, 1], [39, 40]), ([0, 1, 2], [41]), ([0, 1, 2, 3], [42]), ([], [6]), ([0, 1, 2, 3, 4, 5], [])] fol (by kernel_rfl) ?_
 simp (disch := omega) only [go_sem, List.getElem?_map, hb]
 ·have hag := agT_len r p a (l.take i)
  have hbd : (agT r p a (l.take i)).length + 1 ≤ 4294967296 := by simp at hag; omega
  have keep : skipH r p a b = true → ((agT r p a (l.take i)).map Proc.c) = ((agT r p a (l.take (i + 1))).map Proc.c) := fun h => by rw [agT_next hb, h]; simp
  have more : skipH r p a b = false → ((agT r p a (l.take i)).map Proc.c) ++ [b.proc.c] = ((agT r p a (l.take (i + 1))).map Proc.c) := fun h => by rw [agT_next hb, h]; simp
  refine And.intro (fun h => ?_) (fun h => ?_)
  ·have hs : skipH r p a b = true := by simp only [skipH, h, Bool.true_or]
   refine hJ _ (i + 1) ⟨by omega, trivial⟩ (by omega) (Imp.weak ?_ (by simp (disch := omega) only [go_sem]))
   simp (disch := omega) only [go_sem]
   exact .sl (keep hs)
  ·refine draw_mk 12 [([], [4]), ([0], [46]), ([0, 1], [47]), ([0, 1, 2], [48]), ([0, 1, 2, 3], [4, 49]), ([0, 1, 2, 3], [1, 49]), ([0, 1, 2, 3], [10, 49]), ([0, 1, 2, 3, 5, 6], [51, 52, 49]), ([0, 1, 2, 3, 5, 6, 7], [53, 49]), ([0, 1, 2, 3, 5, 6, 7, 8], [54, 49]), ([0, 1, 2, 3], [7, 49]), ([0, 1, 2, 3, 5, 6, 7, 8, 9, 10], [55, 56, 49]), ([0, 1, 2, 3, 4, 5, 6, 7, 8, 9, 10, 11], []), ([0, 1, 2, 3, 4, 5, 6, 7, 8, 9, 10, 11, 12], []), ([0, 1, 2, 3, 4, 5, 6, 7, 8, 9, 10, 11, 12, 13], [])] fol (by kernel_rfl) ?_
   rcases hk2 with hk | hk
   ·have e2 : (r.kind == 2) = false := by simp [hk]
    simp (disch := omega) only [go_sem, e2, List.getElem?_map, hb]
    refine call_pure (f113_ok r [b.amt, a] (by simp)) ?_ rfl ?_
    ·simp (disch := omega) only [go_sem, List.map_cons, List.map_nil]
     exact .full
    simp (disch := omega) only [go_sem, List.getElem?_map, hb]
    cases hcp : r.compat [b.amt, a]
    ·have hs : skipH r p a b = false := by simp only [skipH, h, hcp, Bool.and_false, Bool.or_false]
     simp (disch := omega) only [go_sem, List.getElem?_map, hb]
     refine hJ _ (i + 1) ⟨by omega, trivial⟩ (by omega) (Imp.weak ?_ (by simp (disch := omega) only [go_sem]))
     simp (disch := omega) only [go_sem]
     exact .sl (by rw [← more hs]; simp [Proc.c])
    ·have hs : skipH r p a b = true := by simp only [skipH, h, hk, hcp, decide_true, Bool.and_true, Bool.or_true]
     simp (disch := omega) only [go_sem, List.getElem?_map, hb]
     refine hJ _ (i + 1) ⟨by omega, trivial⟩ (by omega) (Imp.weak ?_ (by simp (disch := omega) only [go_sem]))
     simp (disch := omega) only [go_sem]
     exact .sl (keep hs)
   ·have e2 : (r.kind == 2) = true := by simp [hk]
    have e3 : decide (r.kind = 1) = false := decide_eq_false (by omega)
    have hs : skipH r p a b = false := by simp only [skipH, h, e3, Bool.false_and, Bool.or_false]
    simp (disch := omega) only [go_sem, e2, List.getElem?_map, hb]
    refine hJ _ (i + 1) ⟨by omega, trivial⟩ (by omega) (Imp.weak ?_ (by simp (disch := omega) only [go_sem]))
    simp (disch := omega) only [go_sem]
    exact .sl (by rw [← more hs]; simp [Proc.c])
 ·subst hil
  refine ret_mk ⟨[], [], [4352]⟩ _ (by (try simp (disch := omega) only [go_sem, resVs, resV]) <;> rfl) ⟨rfl, rfl⟩ (by simp) ?_ trivial
  simp (disch := omega) only [go_sem, List.take_length]
theorem f32_ok (q : Queue) (p : Proc) (hal : allQ q ≤ 100) (hs : (causeQ q p).isSome = true) : FnOK C0 32 [.agg q.c, .agg p.c] [] (.agg ((causeQ q p).getD cz).c) [] := by
 obtain ⟨q1, q2⟩ := allQ_two hal
 obtain ⟨q3, q4, q5⟩ := allQ_parts hal
 have hol : (ordQ q).length ≤ 1000000 := by simpa [ordQ, procsW] using q1
 refine FnOK.intro (fn := Tryz.f32) (c := Tryz.f32.body.getD .skip) (by kernel_rfl) (by kernel_rfl) (by kernel_rfl) (by kernel_rfl) (by simp [Tryz.f32]) (by simp [names]) ?_
 unfold Tryz.f32
 simp (disch := omega) only [go_sem]
 refine call_pure (f64_ok q q1) (by simp (disch := omega) only [go_sem]) rfl ?_
 simp (disch := omega) only [go_sem, show procsW (q.convs ++ q.waits) = ordQ q from rfl]
 cases hf : (ordQ q).findIdx? (fun x => decide (x = p)) with
 | none => simp [causeQ, hf] at hs
 | some k =>
  obtain ⟨k1, k2, k3⟩ := List.findIdx?_eq_some_iff_getElem.1 hf
  have hk : (ordQ q)[k]? = some p := by rw [List.getElem?_eq_getElem k1]; simpa using k2
  have e0 : decide (0 < ((ordQ q).length : Int)) = true := decide_eq_true (by omega)
  have hz : 0 < (ordQ q).length := by omega
  refine draw_mk 8 [([], [6]), ([0], [17]), ([0, 1], [18]), ([0, 1, 2], [19]), ([0, 1, 2, 3], [6, 20]), ([0, 1, 2, 3, 4], [21, 20]), ([0, 1, 2, 3, 4, 5], [22, 20]), ([0, 1, 2, 3], [3, 20]), ([0, 1, 2, 3, 4, 5, 6, 7], []), ([0, 1, 2, 3, 4, 5, 6, 7, 8], [])] fol (by kernel_rfl) ?_
  cases k with
  | zero =>
   have e : causeQ q p = some ⟨p, q.res.name, 1, againstH q.res q.holds p (wantA q p)⟩ := by simp [causeQ, hf]
   simp (disch := omega) only [go_sem, e0, List.getElem?_map, hk]
   refine call_pure (f31_ok q p q4 q5) (by simp (disch := omega) only [go_sem]) rfl ?_
   simp (disch := omega) only [go_sem, show (wantQ q p).getD ⟨0, 0⟩ = wantA q p from rfl]
   refine call_pure (f65_ok q.res q.holds p (wantA q p) q2) (by simp (disch := omega) only [go_sem]) rfl ?_
   simp (disch := omega) only [go_sem, e, Option.getD_some]
   refine ret1 _ ?_
   simp (disch := omega) only [go_sem]
  | succ k =>
   obtain ⟨x, hx⟩ : ∃ x, (ordQ q)[k]? = some x := ⟨_, List.getElem?_eq_getElem (by omega)⟩
   have e : causeQ q p = some ⟨p, q.res.name, 2, [x]⟩ := by simp [causeQ, hf, hx]
   obtain ⟨y, hy⟩ : ∃ y, (ordQ q)[0]? = some y := ⟨_, List.getElem?_eq_getElem (by omega)⟩
   have hyp : decide (y = p) = false := by
    have := k3 0 (by omega)
    rw [List.getElem?_eq_getElem (by omega)] at hy
    injection hy with hy
    rw [hy] at this
    simpa using this
   simp (disch := omega) only [go_sem, e0, List.getElem?_map, hy, hyp]
   refine loop_intro (α := Nat) (fun i => ⟨[(9, I i), (6, procsV (ordQ q)), (5, .ptr 320 0), (2, .ptr 128 0), (3, .ptr 192 0), (4, .ptr 256 0)], [(128, q.c), (192, p.c), (256, cz.c), (320, (⟨p, q.res.name, 0, []⟩ : Cause).c)]⟩) (fun i => 1 ≤ i ∧ i ≤ k + 1) (fun i => k + 1 - i) 1 (by omega) ?_ ?_
   ·refine Imp.weak ?_ ?_
    ·simp (disch := omega) only [go_sem]
    ·simp (disch := omega) only [go_sem, cz]
   rintro i ⟨hi1, hi2⟩ J hJ
   have e1 : decide ((i : Int) < ((ordQ q).length : Int)) = true := decide_eq_true (by omega)
   obtain ⟨z, hz2⟩ : ∃ z, (ordQ q)[i]? = some z := ⟨_, List.getElem?_eq_getElem (by omega)⟩
   have hil : i < (ordQ q).length := by omega
   simp (disch := omega) only [go_sem, e1]
   refine draw_mk 5 [([], [6]), ([], [9]), ([0, 1], [49, 50]), ([0, 1, 2], [51]), ([], [3]), ([0, 1, 2, 3, 4], [])] fol (by kernel_rfl) ?_
   simp (disch := omega) only [go_sem, List.getElem?_map, hz2]
   by_cases hik : i = k + 1
   ·subst hik
    have hzp : z = p := by rw [hk] at hz2; exact (Option.some.inj hz2).symm
    subst hzp
    have ek : ((k : Int) + 1 - 1) = (k : Int) := by omega
    have hkl : k < (ordQ q).length := by omega
    simp (disch := omega) only [go_sem, decide_true]
    refine draw_dag 1023 [(0, [(0, 1), (1, 2), (6, 64)]), (1, [(1, 3), (6, 65)]), (2, [(0, 3), (2, 6), (6, 66)]), (64, [(0, 65), (1, 66), (7, 192)]), (3, [(2, 7), (6, 67)]), (65, [(1, 67), (7, 193)]), (6, [(0, 7), (6, 70)]), (66, [(0, 67), (2, 70), (7, 194)]), (192, [(0, 193), (1, 194)]), (7, [(3, 15), (6, 71)]), (67, [(2, 71), (7, 195)]), (193, [(1, 195)]), (70, [(0, 71), (7, 198)]), (194, [(0, 195), (2, 198)]), (15, [(4, 31), (6, 79)]), (71, [(3, 79), (7, 199)]), (195, [(2, 199)]), (198, [(0, 199)]), (31, [(5, 63), (6, 95)]), (79, [(4, 95), (7, 207)]), (199, [(3, 207)]), (63, [(6, 127)]), (95, [(5, 127), (7, 223)]), (207, [(4, 223)]), (127, [(7, 255)]), (223, [(5, 255)]), (255, [(8, 511)]), (511, [(9, 1023)]), (1023, [])] (fun m => ⟨sel m [(1, 55, procsV (ordQ q)), (2, 56, I ((k : Int) + 1)), (4, 57, I k), (8, 58, .ep .no k x.c 0), (16, 59, .agg x.c), (32, 60, .sl (.own 3840 0) 3 [x.c]), (64, 61, .ptr 320 4), (256, 62, .ptr 320 5)] ++ [(9, I ((k : Int) + 1)), (6, procsV (ordQ q)), (5, .ptr 320 0), (4, .ptr 256 0)], [(256, cz.c), (320, [.v (.int .i64 z.site), .v (.int .i64 z.inc), .v (.int .i64 z.num), .v (.string (str q.res.name)), (if m / 128 % 2 = 1 then I 2 else I 0), (if m / 512 % 2 = 1 then .sl (.own 3840 0) 3 [x.c] else .sl .no 3 [])])]⟩) fol (by kernel_rfl) ?_ ?_ ?_
    ·exact Imp.weak (by simp (disch := omega) only [go_sem]) (by simp (disch := omega) only [go_sem])
    ·simp only [dagP_cons, dagE_cons, dagP_nil, dagE_nil, and_true]
     repeat' (with_reducible refine And.intro ?_ ?_)
     all_goals simp (disch := omega) only [go_sem, ek, List.getElem?_map, hx]
     all_goals exact Imp.weak (by simp (disch := omega) only [go_sem]) (by simp (disch := omega) only [go_sem])
    ·simp (disch := omega) only [go_sem, e, Option.getD_some]
     refine ret_mk ⟨[], [], [3840]⟩ _ (by (try simp (disch := omega) only [go_sem, resVs, resV]) <;> rfl) ⟨rfl, rfl⟩ (by simp) ?_ trivial
     simp (disch := omega) only [go_sem]
     exact .eq (by simp [Proc.c])
   ·have hzp : decide (z = p) = false := by
     have := k3 i (by omega)
     rw [List.getElem?_eq_getElem hil] at hz2
     injection hz2 with hz2
     rw [hz2] at this
     simpa using this
    simp (disch := omega) only [go_sem, hzp]
    refine hJ _ (i + 1) ⟨by omega, by omega⟩ (by omega) (Imp.weak (by simp (disch := omega) only [go_sem]) (by simp (disch := omega) only [go_sem]))
def plainQ (q : Queue) : Queue := { q with gen := 0, waits := q.waits.map plainW }
theorem eqAll_map {α β : Type} [DecidableEq β] {f : α → α → Bool} {g : α → β} (h : ∀ a b, f a b = decide (g a = g b)) : ∀ l m : List α, eqAll f l m = decide (l.map g = m.map g)
 | [], [] => by simp [eqAll]
 | [], _ :: _ => by simp [eqAll]
 | _ :: _, [] => by simp [eqAll]
 | a :: l, b :: m => by
  simp only [eqAll, List.map_cons, eqAll_map h l m, h]
  refine Bool.eq_iff_iff.2 ?_
  simp
theorem alikeQ_plain (a b : Queue) : alikeQ a b = decide (plainQ a = plainQ b) := by
 have := eqAll_map (f := fun a b => decide (plainW a = plainW b)) (g := plainW) (fun _ _ => rfl) a.waits b.waits
 unfold alikeQ
 rw [this]
 obtain ⟨x1, x2, x3, x4, x5⟩ := a
 obtain ⟨y1, y2, y3, y4, y5⟩ := b
 refine Bool.eq_iff_iff.2 ?_
 simp [plainQ, and_assoc]
end Go.Rd
