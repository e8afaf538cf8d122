/- Regions that draw their order: the evaluation and its soundness. -/
import Derived.Test.YtfnniffkgoimeaaA22
set_option linter.all false
namespace Go.Abs

def restr (st : St) : List Nat → List (Nat × AV)
  | [] => []
  | t :: ts => match lk t st.tmps with
    | some x => (t, x) :: restr st ts
    | none => restr st ts

def away (cr : List (Nat × List Nat × List Nat)) (p : List Nat) (r : Res) : Prop := match cr with
  | [] => True
  | (i, S, T) :: l => (i ∈ p ∨ (r.x.kill S T = r.x ∧ fixO S T r.upd)) ∧ away l p r

def crOf (i : Nat) (r : Res) (cr : List (Nat × List Nat × List Nat)) : List (Nat × List Nat × List Nat) := match r.S, r.T with
  | [], [] => cr
  | S, T => (i, S, T) :: cr

/-- an operation of the free part: its effect, from what it may read -/
def freeOp (X : Env) (o : Oper) (r st : St) (p : List Nat) (cr : List (Nat × List Nat × List Nat)) (K : Res → Prop) : Prop :=
  ∃ e : Res, OpG X.C o r e.x e.S e.T e.T e.upd ∧ (e.T.all fun s => s % 64 != 63) = true ∧ (∀ s ∈ names e.upd, s ∈ e.T) ∧ fixT e.S e.T st.tmps ∧ fixO e.S e.T st.objs ∧ away cr p e ∧ K e

def freeA (X : Env) (all : Array Oper) (objs : List (Nat × List AV)) : List Oper → List (List Nat × List Nat) → Nat → List (Nat × List Nat × List Nat) → (St → Prop) → St → Prop
  | [], _, _, _, K, st => K st
  | _ :: _, [], _, _, _, _ => False
  | o :: os, (p, ts) :: tab, i, cr, K, st =>
    let run := fun st : St => freeOp X o ⟨restr st ts, objs⟩ st p cr fun e => o.dst.isSome = true ∧ freeA X all objs os tab (i + 1) (crOf i e cr) K ⟨(St.put o.dst e.x st).tmps, e.upd ++ st.objs⟩
    match o.guard with
    | none => run st
    | some (j, b) => match guardOf all j ⟨restr st ts, objs⟩ with
      | some (.v (.bool b')) => splitA b' b (run (st.learn (gdst all j) b)) (o.dst.isSome = true ∧ away cr p ⟨.undef, [], [], []⟩ ∧ freeA X all objs os tab (i + 1) cr K ((st.learn (gdst all j) (!b)).put o.dst .undef))
      | _ => False

theorem lk_restr0 {st : St} {t : Nat} {x : AV} : ∀ {ts : List Nat}, lk t (restr st ts) = some x → lk t st.tmps = some x
  | [], h => by cases h
  | u :: ts, h => by
    simp only [restr] at h
    split at h
    · rename_i y hy
      simp only [lk] at h
      split at h
      · rename_i hut; subst hut; rw [hy]; exact h
      · exact lk_restr0 h
    · exact lk_restr0 h
theorem learn_restr {all : Array Oper} {j : Nat} {st : St} {ts : List Nat} {objs : List (Nat × List AV)} {b : Bool} (h : guardOf all j ⟨restr st ts, objs⟩ = some (.v (.bool b))) : st.learn (gdst all j) b = st := by
  apply learn_same
  unfold guardOf at h ⊢
  obtain ⟨d, h1, h2⟩ := Option.bind_eq_some_iff.1 h
  rw [h1]
  exact lk_restr0 h2

section
variable {X : Env} {A : A0} {N : Nat} {g : Gh} {st0 : St} {a : Act} {w : World} {ops : Array Oper} {k : Nat} {tab : List (List Nat × List Nat)}

def canon (ops : Array Oper) (res : Nat → Res) (st0 : St) (n : Nat) : St := ⟨tmD (dstT ops) res (fun _ => true) st0.tmps n, obD res (fun _ => true) st0.objs n⟩
def stD (ops : Array Oper) (res : Nat → Res) (st0 : St) (D : Nat → Bool) (n : Nat) : St := ⟨tmD (dstT ops) res D st0.tmps n, obD res D st0.objs n⟩

/-- the results of the first operations are what the operations do -/
structure Valid (X : Env) (ops : Array Oper) (tab : List (List Nat × List Nat)) (st0 : St) (res : Nat → Res) (n : Nat) : Prop where
  op : ∀ i, i < n → ∃ o, ops[i]? = some o ∧ o.dst.isSome = true ∧
    (((o.guard = none ∨ ∃ j b, o.guard = some (j, b) ∧ guardOf ops j ⟨restr (canon ops res st0 i) (readT tab i), st0.objs⟩ = some (.v (.bool b))) ∧
      OpG X.C o ⟨restr (canon ops res st0 i) (readT tab i), st0.objs⟩ (res i).x (res i).S (res i).T (res i).T (res i).upd) ∨
    ((∃ j b b', o.guard = some (j, b) ∧ b' ≠ b ∧ guardOf ops j ⟨restr (canon ops res st0 i) (readT tab i), st0.objs⟩ = some (.v (.bool b'))) ∧ res i = ⟨.undef, [], [], []⟩))
  ext : ∀ i, i < n → ((res i).T.all fun s => s % 64 != 63) = true
  nam : ∀ i, i < n → ∀ s ∈ names (res i).upd, s ∈ (res i).T
  fix : ∀ i, i < n → fixT (res i).S (res i).T (canon ops res st0 i).tmps ∧ fixO (res i).S (res i).T (canon ops res st0 i).objs
  away : ∀ i j, i < j → j < n → i ∈ predT tab j ∨ ((res j).x.kill (res i).S (res i).T = (res j).x ∧ fixO (res i).S (res i).T (res j).upd)

def setRes (res : Nat → Res) (n : Nat) (e : Res) (i : Nat) : Res := if i = n then e else res i

theorem canon_congr {res res' : Nat → Res} {n : Nat} (h : ∀ j, j < n → res j = res' j) : canon ops res st0 n = canon ops res' st0 n := by
  simp only [canon]
  rw [tmD_congr n fun j hj => ⟨h j hj, rfl⟩, obD_congr n fun j hj => ⟨h j hj, rfl⟩]

theorem fixT_nil (l : List (Nat × AV)) : fixT [] [] l := killT_nil l
theorem fixO_nil (l : List (Nat × List AV)) : fixO [] [] l := by simp [fixO, dropO_nil, killO_nil]

theorem Valid.snoc {res : Nat → Res} {n : Nat} (hv : Valid X ops tab st0 res n) (e : Res) {o : Oper} (ho : ops[n]? = some o) (hd : o.dst.isSome = true)
    (h1 : ((o.guard = none ∨ ∃ j b, o.guard = some (j, b) ∧ guardOf ops j ⟨restr (canon ops res st0 n) (readT tab n), st0.objs⟩ = some (.v (.bool b))) ∧
      OpG X.C o ⟨restr (canon ops res st0 n) (readT tab n), st0.objs⟩ e.x e.S e.T e.T e.upd) ∨
    ((∃ j b b', o.guard = some (j, b) ∧ b' ≠ b ∧ guardOf ops j ⟨restr (canon ops res st0 n) (readT tab n), st0.objs⟩ = some (.v (.bool b'))) ∧ e = ⟨.undef, [], [], []⟩))
    (h2 : (e.T.all fun s => s % 64 != 63) = true) (h3 : ∀ s ∈ names e.upd, s ∈ e.T) (h4 : fixT e.S e.T (canon ops res st0 n).tmps ∧ fixO e.S e.T (canon ops res st0 n).objs)
    (h5 : ∀ i, i < n → i ∈ predT tab n ∨ (e.x.kill (res i).S (res i).T = e.x ∧ fixO (res i).S (res i).T e.upd)) : Valid X ops tab st0 (setRes res n e) (n + 1) := by
  have hlt : ∀ j, j < n → setRes res n e j = res j := fun j hj => by simp [setRes, Nat.ne_of_lt hj]
  have heq : setRes res n e n = e := by simp [setRes]
  have hcan : ∀ i, i ≤ n → canon ops (setRes res n e) st0 i = canon ops res st0 i := fun i hi => canon_congr fun j hj => hlt j (by omega)
  refine ⟨fun i hi => ?_, fun i hi => ?_, fun i hi => ?_, fun i hi => ?_, fun i j hij hj => ?_⟩
  · rw [hcan i (by omega)]
    by_cases hin : i = n
    · subst hin; rw [heq]; exact ⟨o, ho, hd, h1⟩
    · rw [hlt i (by omega)]; exact hv.op i (by omega)
  · by_cases hin : i = n
    · subst hin; rw [heq]; exact h2
    · rw [hlt i (by omega)]; exact hv.ext i (by omega)
  · by_cases hin : i = n
    · subst hin; rw [heq]; exact h3
    · rw [hlt i (by omega)]; exact hv.nam i (by omega)
  · rw [hcan i (by omega)]
    by_cases hin : i = n
    · subst hin; rw [heq]; exact h4
    · rw [hlt i (by omega)]; exact hv.fix i (by omega)
  · rw [hlt i (by omega)]
    by_cases hin : j = n
    · subst hin; rw [heq]; exact h5 i (by omega)
    · rw [hlt j (by omega)]; exact hv.away i j hij (by omega)

/-- the list of those that make memory -/
def CrOK (res : Nat → Res) (n : Nat) (cr : List (Nat × List Nat × List Nat)) : Prop := ∀ i, i < n → ((res i).S = [] ∧ (res i).T = []) ∨ (i, (res i).S, (res i).T) ∈ cr

theorem away_mem {p : List Nat} {r : Res} : ∀ {cr : List (Nat × List Nat × List Nat)}, away cr p r → ∀ {i : Nat} {S T : List Nat}, (i, S, T) ∈ cr → i ∈ p ∨ (r.x.kill S T = r.x ∧ fixO S T r.upd)
  | (j, S', T') :: l, h, i, S, T, hm => by
    obtain ⟨h1, h2⟩ := h
    rcases List.mem_cons.1 hm with e | hm
    · simp only [Prod.mk.injEq] at e
      obtain ⟨rfl, rfl, rfl⟩ := e
      exact h1
    · exact away_mem h2 hm

theorem CrOK.away {res : Nat → Res} {n : Nat} {cr : List (Nat × List Nat × List Nat)} (h : CrOK res n cr) {p : List Nat} {r : Res} (ha : Abs.away cr p r) : ∀ i, i < n → i ∈ p ∨ (r.x.kill (res i).S (res i).T = r.x ∧ fixO (res i).S (res i).T r.upd) := by
  intro i hi
  rcases h i hi with ⟨h1, h2⟩ | hm
  · rw [h1, h2]; exact .inr ⟨kill_nil _, fixO_nil _⟩
  · exact away_mem ha hm

theorem CrOK.snoc {res : Nat → Res} {n : Nat} {cr : List (Nat × List Nat × List Nat)} (h : CrOK res n cr) (e : Res) : CrOK (setRes res n e) (n + 1) (crOf n e cr) := by
  have hsub : ∀ q ∈ cr, q ∈ crOf n e cr := fun q hq => by
    unfold crOf
    split
    · exact hq
    · exact List.mem_cons_of_mem _ hq
  intro i hi
  by_cases hin : i = n
  · subst hin
    simp only [setRes, if_true]
    unfold crOf
    split
    · rename_i h1 h2; exact .inl ⟨h1, h2⟩
    · exact .inr (by simp)
  · simp only [setRes, hin, if_false]
    exact (h i (by omega)).imp id (hsub _)

theorem canon_succ {res : Nat → Res} {n : Nat} {e : Res} {o : Oper} (ho : ops[n]? = some o) (hd : o.dst.isSome = true) :
    canon ops (setRes res n e) st0 (n + 1) = ⟨(St.put o.dst e.x (canon ops res st0 n)).tmps, e.upd ++ (canon ops res st0 n).objs⟩ := by
  have hlt : ∀ j, j < n → setRes res n e j = res j := fun j hj => by simp [setRes, Nat.ne_of_lt hj]
  obtain ⟨d, hd'⟩ := Option.isSome_iff_exists.1 hd
  have hdt : dstT ops n = some d := by simp [dstT, ho, hd']
  simp only [canon, tmD, obD, hdt, if_true]
  rw [tmD_congr (res := setRes res n e) (res' := res) n fun j hj => ⟨hlt j hj, rfl⟩, obD_congr (res := setRes res n e) (res' := res) n fun j hj => ⟨hlt j hj, rfl⟩]
  simp [setRes, hd', St.put]

theorem freeA_sound {K : St → Prop} : ∀ (os : List Oper) (tb : List (List Nat × List Nat)) (n : Nat) (cr : List (Nat × List Nat × List Nat)) (res : Nat → Res), (∀ j o, os[j]? = some o → ops[n + j]? = some o) → (∀ j q, tb[j]? = some q → tab[n + j]? = some q) →
    Valid X ops tab st0 res n → CrOK res n cr → freeA X ops st0.objs os tb n cr K (canon ops res st0 n) → ∃ res', Valid X ops tab st0 res' (n + os.length) ∧ K (canon ops res' st0 (n + os.length))
  | [], tb, n, cr, res, _, _, hv, _, h => ⟨res, hv, by simp only [freeA] at h; simpa using h⟩
  | _ :: _, [], _, _, _, _, _, _, _, h => by simp [freeA] at h
  | o :: os, (p, ts) :: tb, n, cr, res, ho, ht, hv, hc, h => by
    have ho0 : ops[n]? = some o := ho 0 o rfl
    have ht0 : tab[n]? = some (p, ts) := ht 0 (p, ts) rfl
    have hp : predT tab n = p := by simp [predT, List.getD, ht0]
    have hr : readT tab n = ts := by simp [readT, List.getD, ht0]
    have hos : ∀ j o', os[j]? = some o' → ops[n + 1 + j]? = some o' := fun j o' hj => by
      have := ho (j + 1) o' (by simpa using hj)
      rwa [show n + (j + 1) = n + 1 + j by omega] at this
    have htb : ∀ j q, tb[j]? = some q → tab[n + 1 + j]? = some q := fun j q hj => by
      have := ht (j + 1) q (by simpa using hj)
      rwa [show n + (j + 1) = n + 1 + j by omega] at this
    have hlen : n + (o :: os).length = n + 1 + os.length := by simp; omega
    rw [hlen]
    have fin : ∀ e : Res, Valid X ops tab st0 (setRes res n e) (n + 1) → CrOK (setRes res n e) (n + 1) (crOf n e cr) → o.dst.isSome = true → freeA X ops st0.objs os tb (n + 1) (crOf n e cr) K ⟨(St.put o.dst e.x (canon ops res st0 n)).tmps, e.upd ++ (canon ops res st0 n).objs⟩ →
        ∃ res', Valid X ops tab st0 res' (n + 1 + os.length) ∧ K (canon ops res' st0 (n + 1 + os.length)) := fun e hv' hc' hd hf =>
      freeA_sound os tb (n + 1) _ _ hos htb hv' hc' (by rw [canon_succ ho0 hd]; exact hf)
    have runs : (o.guard = none ∨ ∃ j b, o.guard = some (j, b) ∧ guardOf ops j ⟨restr (canon ops res st0 n) (readT tab n), st0.objs⟩ = some (.v (.bool b))) →
        (freeOp X o ⟨restr (canon ops res st0 n) ts, st0.objs⟩ (canon ops res st0 n) p cr fun e => o.dst.isSome = true ∧ freeA X ops st0.objs os tb (n + 1) (crOf n e cr) K ⟨(St.put o.dst e.x (canon ops res st0 n)).tmps, e.upd ++ (canon ops res st0 n).objs⟩) →
        ∃ res', Valid X ops tab st0 res' (n + 1 + os.length) ∧ K (canon ops res' st0 (n + 1 + os.length)) := fun hg ⟨e, h1, h2, h3, h4, h5, h6, hd, hf⟩ =>
      fin e (hv.snoc e ho0 hd (.inl ⟨hg, by rw [hr]; exact h1⟩) h2 h3 ⟨h4, h5⟩ (by rw [hp]; exact hc.away h6)) (hc.snoc e) hd hf
    simp only [freeA] at h
    split at h
    · rename_i hg
      exact runs (.inl hg) h
    · rename_i j b hg
      split at h
      · rename_i b' hb
        by_cases he : b' = b
        · subst he
          have h1 := h.1 rfl
          rw [learn_restr hb] at h1
          exact runs (.inr ⟨j, b', hg, by rw [hr]; exact hb⟩) h1
        · obtain ⟨hd, ha, hf⟩ := h.2 he
          have hbb : (!b) = b' := by cases b <;> cases b' <;> first | rfl | exact absurd rfl he
          rw [hbb, learn_restr hb] at hf
          have := hc.snoc (⟨.undef, [], [], []⟩ : Res)
          refine fin ⟨.undef, [], [], []⟩ (hv.snoc _ ho0 hd (.inr ⟨⟨j, b, b', hg, he, by rw [hr]; exact hb⟩, rfl⟩) rfl (fun s hs => by cases hs) ⟨fixT_nil _, fixO_nil _⟩ (by rw [hp]; exact hc.away ha)) this hd ?_
          simp only [crOf, List.nil_append]
          have e : ∀ s : St, (St.put o.dst AV.undef s) = ⟨(St.put o.dst AV.undef s).tmps, s.objs⟩ := fun s => by cases o.dst <;> rfl
          rw [← e]
          exact hf
      · cases h
end
end Go.Abs
