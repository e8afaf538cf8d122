/- part 21 of the proof -/
import Derived.Test.YtaelofhhkpacbaaGreatDoorT20
set_option linter.all false
open Go Go.Abs Go.Proofs
set_option maxRecDepth 100000
namespace Go.Rd
mutual
def sizeE : Expr → Int → Int × Int
  | .mk _ _ kids, lv => if 4 < lv ∨ 24 < kids.length then (25, 0) else sizeL kids lv 1 0
def sizeL : List Expr → Int → Int → Int → Int × Int
  | [], _, n, m => (n, m + 1)
  | e :: l, lv, n, m => if 24 < n + (sizeE e (lv + 1)).1 then (25, 0) else sizeL l lv (n + (sizeE e (lv + 1)).1) (max m (sizeE e (lv + 1)).2)
end
theorem sizeE_def (e : Expr) (lv : Int) : sizeE e lv = if 4 < lv ∨ 24 < e.kids.length then (25, 0) else sizeL e.kids lv 1 0 := by
  cases e; simp only [sizeE]; rfl
def sbd (lv : Int) (x : Int × Int) : Prop := 1 ≤ x.1 ∧ x.1 ≤ 25 ∧ 0 ≤ x.2 ∧ x.2 ≤ 5 - lv
theorem sizeL_bd (lv : Int) (h1 : 1 ≤ lv) (h4 : lv ≤ 4) : ∀ (l : List Expr) (n m : Int), (∀ e ∈ l, sbd (lv + 1) (sizeE e (lv + 1))) → 1 ≤ n → n ≤ 24 → 0 ≤ m → m ≤ 4 - lv → sbd lv (sizeL l lv n m)
  | [], n, m, _, hn, hn2, hd, hd2 => by simp only [sizeL, sbd]; omega
  | e :: l, n, m, hk, hn, hn2, hd, hd2 => by
    obtain ⟨b1, b2, b3, b4⟩ := hk e (by simp)
    simp only [sizeL]
    split
    · simp only [sbd]; omega
    · exact sizeL_bd lv h1 h4 l _ _ (fun e' he => hk e' (by simp [he])) (by omega) (by omega) (by omega) (by omega)
theorem sizeE_bd : ∀ (N : Nat) (e : Expr), SizeOf.sizeOf e < N → ∀ lv : Int, 1 ≤ lv → lv ≤ 5 → sbd lv (sizeE e lv)
  | 0, _, h, _, _, _ => by omega
  | N + 1, e, h, lv, h1, h5 => by
    rw [sizeE_def]
    split
    · simp only [sbd]; omega
    · rename_i hc
      exact sizeL_bd lv h1 (by omega) _ _ _ (fun e' he => sizeE_bd N e' (by have := kid_lt he; omega) _ (by omega) (by omega)) (by omega) (by omega) (by omega) (by omega)
theorem f169_ok : ∀ (N : Nat) (e : Expr), SizeOf.sizeOf e < N → ∀ lv : Int, 1 ≤ lv → lv ≤ 5 →
    FnOK C0 169 [.agg e.c, I lv] [] (.tup [I (sizeE e lv).1, I (sizeE e lv).2]) []
  | 0, _, h, _, _, _ => by omega
  | N + 1, e, h, lv, h1, h5 => by
    refine FnOK.assume (fn := Tryz.f169) (c := Tryz.f169.body.getD .skip) (by kernel_rfl) (by kernel_rfl) (by kernel_rfl) fun hlen => ?_
    simp only [lensL, lens, Expr.c_def, List.length_map, and_true, true_and] at hlen
    refine FnOK.intro (fn := Tryz.f169) (c := Tryz.f169.body.getD .skip) (by kernel_rfl) (by kernel_rfl) (by kernel_rfl) (by kernel_rfl) (by simp [Tryz.f169]) (by simp [names]) ?_
    unfold Tryz.f169
    by_cases hc : 4 < lv ∨ 24 < e.kids.length
    · have em : sizeE e lv = (25, 0) := by rw [sizeE_def, if_pos hc]
      simp (disch := omega) only [go_sem, em]
      repeat' (with_reducible refine And.intro (fun h => ?_) (fun h => ?_))
      all_goals (try (exfalso; simp_all; omega))
      all_goals (refine ret_mk ⟨[], [], []⟩ _ (by (try simp (disch := omega) only [go_sem, resVs, resV]) <;> rfl) ⟨rfl, rfl⟩ (by simp) ?_ trivial)
      all_goals simp (disch := omega) only [go_sem]
    have em : sizeE e lv = sizeL e.kids lv 1 0 := by rw [sizeE_def, if_neg hc]
    have hc1 : (4 < lv) = False := by simp; omega
    have hc2 : (24 < (e.kids.length : Int)) = False := by simp; omega
    simp (disch := omega) only [go_sem, em, hc1, hc2, decide_false]
    refine loop_intro (α := Nat × Int × Int) (fun q => ⟨[(8, I q.1), (1, I lv), (2, .ptr 128 0), (6, I q.2.1), (7, I q.2.2)], [(128, e.c)]⟩)
      (fun q => q.1 ≤ e.kids.length ∧ 1 ≤ q.2.1 ∧ q.2.1 ≤ 24 ∧ 0 ≤ q.2.2 ∧ q.2.2 ≤ 4 - lv ∧ sizeL (e.kids.drop q.1) lv q.2.1 q.2.2 = sizeL e.kids lv 1 0) (fun q => e.kids.length - q.1) (0, 1, 0) ⟨by simp, by simp, by simp, by simp, by simp; omega, by simp⟩ ?_ ?_
    · refine Imp.weak ?_ ?_
      · simp (disch := omega) only [go_sem]
      · simp (disch := omega) only [go_sem]
    rintro ⟨i, n, m⟩ ⟨hi, hm0, hm, hd0, hd, hr⟩ J hJ
    replace hi : i ≤ e.kids.length := hi
    replace hm0 : 1 ≤ n := hm0
    replace hm : n ≤ 24 := hm
    replace hd0 : 0 ≤ m := hd0
    replace hd : m ≤ 4 - lv := hd
    replace hr : sizeL (e.kids.drop i) lv n m = sizeL e.kids lv 1 0 := hr
    simp (disch := omega) only [go_sem]
    refine And.intro (fun hlt => ?_) (fun hge => ?_)
    · have hlt' : i < e.kids.length := by simp at hlt; omega
      have hb : e.kids[i]? = some e.kids[i] := List.getElem?_eq_getElem hlt'
      have hsz := kid_lt (List.getElem_mem hlt')
      have hdr : e.kids.drop i = e.kids[i] :: e.kids.drop (i + 1) := List.drop_eq_getElem_cons hlt'
      generalize e.kids[i] = b at hb hsz hdr
      rw [hdr] at hr
      simp only [sizeL] at hr
      simp (disch := omega) only [go_sem, List.getElem?_map, hb]
      first | ((with_reducible show callB _ _ _ _ _ _); refine call_pure (f169_ok N b (by omega) (lv + 1) (by omega) (by omega)) (by simp (disch := omega) only [go_sem]) rfl ?_) | ((with_reducible show freeCallB _ _ _ _ _ _ _ _ _ _); refine freeCall_mk ⟨⟨[], [], []⟩, [], []⟩ (f169_ok N b (by omega) (lv + 1) (by omega) (by omega)) (by simp (disch := omega) only [go_sem]) rfl rfl trivial (.inl rfl) ?_)
      obtain ⟨b1, b2, b3, b4⟩ := sizeE_bd N b (by omega) (lv + 1) (by omega) (by omega)
      generalize sizeE b (lv + 1) = x at hr b1 b2 b3 b4
      by_cases h24 : 24 < n + x.1
      · have d24 : (24 < n + x.1) = True := eq_true h24
        rw [if_pos h24] at hr
        simp (disch := omega) only [go_sem, d24]
        repeat' (with_reducible refine And.intro (fun h => ?_) (fun h => ?_))
        all_goals (refine ret_mk ⟨[], [], []⟩ _ (by (try simp (disch := omega) only [go_sem, resVs, resV]) <;> rfl) ⟨rfl, rfl⟩ (by simp) ?_ trivial)
        all_goals simp (disch := omega) only [go_sem, ← hr]
      · have d24 : (24 < n + x.1) = False := eq_false h24
        rw [if_neg h24] at hr
        simp (disch := omega) only [go_sem, d24, decide_false]
        by_cases hmx : m < x.2
        · have e1 : max m x.2 = x.2 := by omega
          have d1 : (m < x.2) = True := eq_true hmx
          rw [e1] at hr
          simp (disch := omega) only [go_sem, d1]
          refine hJ _ (i + 1, n + x.1, x.2) ⟨by simp; omega, by simp; omega, by simp; omega, by simp; omega, by simp; omega, hr⟩ (by simp; omega) (Imp.weak ?_ ?_)
          · simp (disch := omega) only [go_sem]
          · simp (disch := omega) only [go_sem]
        · have e1 : max m x.2 = m := by omega
          have d1 : (m < x.2) = False := eq_false hmx
          rw [e1] at hr
          simp (disch := omega) only [go_sem, d1, decide_false]
          refine hJ _ (i + 1, n + x.1, m) ⟨by simp; omega, by simp; omega, by simp; omega, by simp; omega, by simp; omega, hr⟩ (by simp; omega) (Imp.weak ?_ ?_)
          · simp (disch := omega) only [go_sem]
          · simp (disch := omega) only [go_sem]
    · have hil : i = e.kids.length := by simp at hge; omega
      subst hil
      rw [List.drop_length] at hr
      simp only [sizeL] at hr
      simp (disch := omega) only [go_sem, ← hr]
      refine ret_mk ⟨[], [], []⟩ _ (by (try simp (disch := omega) only [go_sem, resVs, resV]) <;> rfl) ⟨rfl, rfl⟩ (by simp) ?_ trivial
      simp (disch := omega) only [go_sem]
def nodesE (e : Expr) : Int := if 24 < (sizeE e 1).1 then 0 else (sizeE e 1).1
theorem f129_ok (e : Expr) : FnOK C0 129 [.agg e.c] [] (I (nodesE e)) [] := by
  refine FnOK.intro (fn := Tryz.f129) (c := Tryz.f129.body.getD .skip) (by kernel_rfl) (by kernel_rfl) (by kernel_rfl) (by kernel_rfl) (by simp [Tryz.f129]) (by simp [names]) ?_
  unfold Tryz.f129
  simp (disch := omega) only [go_sem]
  refine call_pure (f169_ok _ e (Nat.lt_succ_self _) 1 (by omega) (by omega)) (by simp (disch := omega) only [go_sem]) rfl ?_
  by_cases h24 : 24 < (sizeE e 1).1
  · have d24 : (24 < (sizeE e 1).1) = True := eq_true h24
    have en : nodesE e = 0 := by simp [nodesE, h24]
    simp (disch := omega) only [go_sem, d24, en]
    refine ret_mk ⟨[], [], []⟩ _ (by (try simp (disch := omega) only [go_sem, resVs, resV]) <;> rfl) ⟨rfl, rfl⟩ (by simp) ?_ trivial
    simp (disch := omega) only [go_sem]
  · have d24 : (24 < (sizeE e 1).1) = False := eq_false h24
    have en : nodesE e = (sizeE e 1).1 := by simp [nodesE, h24]
    simp (disch := omega) only [go_sem, d24, en, decide_false]
    refine ret_mk ⟨[], [], []⟩ _ (by (try simp (disch := omega) only [go_sem, resVs, resV]) <;> rfl) ⟨rfl, rfl⟩ (by simp) ?_ trivial
    simp (disch := omega) only [go_sem]
end Go.Rd
open Go Go.Abs Go.Proofs
set_option maxRecDepth 100000
namespace Go.Rd
mutual
def addE : Expr → List Atom → List Atom × Bool
  | .mk k a kids, l => if kids.length = 0 then (if k = 0 ∧ atomOK a = true then (atomE l a, true) else (l, false))
    else if k < 1 ∨ (kids.length : Int) < k ∨ a ≠ a0 then (l, false) else addL kids l
def addL : List Expr → List Atom → List Atom × Bool
  | [], l => (l, true)
  | e :: es, l => if (addE e l).2 = true then addL es (addE e l).1 else (l, false)
end
theorem addE_def (e : Expr) (l : List Atom) : addE e l = if e.kids.length = 0 then (if e.k = 0 ∧ atomOK e.atom = true then (atomE l e.atom, true) else (l, false))
    else if e.k < 1 ∨ (e.kids.length : Int) < e.k ∨ e.atom ≠ a0 then (l, false) else addL e.kids l := by
  cases e; simp only [addE]; rfl
mutual
def cnt : Expr → Nat
  | .mk _ _ kids => 1 + cntL kids
def cntL : List Expr → Nat
  | [] => 0
  | e :: l => cnt e + cntL l
end
theorem cnt_def (e : Expr) : cnt e = 1 + cntL e.kids := by cases e; simp only [cnt]; rfl
@[reducible] def addV (x : List Atom × Bool) : AV := if x.2 then .tup [atomsO 1 x.1, B true] else .tup [.undef, B false]
theorem atomE_len (l : List Atom) (a : Atom) : (atomE l a).length ≤ l.length + 1 := by unfold atomE; split <;> simp
theorem addL_len : ∀ (es : List Expr) (l : List Atom), (∀ e ∈ es, ∀ l, (addE e l).1.length ≤ l.length + cnt e) → (addL es l).1.length ≤ l.length + cntL es
  | [], l, _ => by simp [addL]
  | e :: es, l, h => by
    have h1 := h e (by simp) l
    have h2 := addL_len es (addE e l).1 fun e' he => h e' (by simp [he])
    simp only [addL, cntL]
    split
    · omega
    · simp only; omega
theorem addE_len : ∀ (N : Nat) (e : Expr), SizeOf.sizeOf e < N → ∀ l : List Atom, (addE e l).1.length ≤ l.length + cnt e
  | 0, _, h, _ => by omega
  | N + 1, e, h, l => by
    rw [addE_def, cnt_def]
    split
    · split
      · have := atomE_len l e.atom; simp only; omega
      · simp only; omega
    · split
      · simp only; omega
      · have := addL_len e.kids l fun e' he l' => addE_len N e' (by have := kid_lt he; omega) l'
        omega
theorem f130_ok : ∀ (N : Nat) (e : Expr), SizeOf.sizeOf e < N → ∀ l : List Atom, l.length + cnt e ≤ 1000000 →
    FnOK C0 130 [atomsO 0 l, .agg e.c] [] (addV (addE e l)) []
  | 0, _, h, _, _ => by omega
  | N + 1, e, h, l, hl => by
    refine FnOK.assume (fn := Tryz.f130) (c := Tryz.f130.body.getD .skip) (by kernel_rfl) (by kernel_rfl) (by kernel_rfl) fun hlen => ?_
    simp only [lensL, lens, Expr.c_def, List.length_map, and_true, true_and] at hlen
    have hc0 := cnt_def e
    refine FnOK.intro (fn := Tryz.f130) (c := Tryz.f130.body.getD .skip) (by kernel_rfl) (by kernel_rfl) (by kernel_rfl) (by kernel_rfl) (by simp [Tryz.f130]) (by simp [names]) ?_
    unfold Tryz.f130
    by_cases hk : e.kids.length = 0
    · have e1 : ((e.kids.length : Int) == 0) = true := by simp [hk]
      by_cases hbad : e.k = 0 ∧ atomOK e.atom = true
      rotate_left
      · have ep : addE e l = (l, false) := by rw [addE_def, if_pos hk, if_neg hbad]
        have ev : addV (addE e l) = .tup [.undef, B false] := by rw [ep]; rfl
        rw [ev]
        simp (disch := omega) only [go_sem, e1]
        repeat' (first
          | (with_reducible refine And.intro (fun h => ?_) (fun h => ?_))
          | ((with_reducible show callB _ _ 170 _ _ _); refine call_pure (f170_ok e.atom.name) ?_ rfl ?_; (focus (simp (disch := omega) only [go_sem]; done)); try simp (disch := omega) only [go_sem])
          | ((with_reducible show freeCallB _ _ 170 _ _ _ _ _ _ _); refine freeCall_mk ⟨⟨[], [], []⟩, [], []⟩ (f170_ok e.atom.name) ?_ rfl rfl trivial (.inl rfl) ?_; (focus (simp (disch := omega) only [go_sem]; done)); try simp (disch := omega) only [go_sem])
          | ((with_reducible show callB _ _ 171 _ _ _); refine call_pure (f171_ok e.atom.amt) ?_ rfl ?_; (focus (simp (disch := omega) only [go_sem]; done)); try simp (disch := omega) only [go_sem])
          | ((with_reducible show freeCallB _ _ 171 _ _ _ _ _ _ _); refine freeCall_mk ⟨⟨[], [], []⟩, [], []⟩ (f171_ok e.atom.amt) ?_ rfl rfl trivial (.inl rfl) ?_; (focus (simp (disch := omega) only [go_sem]; done)); try simp (disch := omega) only [go_sem]))
        all_goals (first
          | (refine ret_mk ⟨[(0, 1)], [], []⟩ _ (by (try simp (disch := omega) only [go_sem, resVs, resV]) <;> rfl) ⟨rfl, rfl⟩ (by simp) ?_ trivial; simp (disch := omega) only [go_sem]; exact .tup (WeakArgs.weakL (by simp (disch := omega) only [go_sem])))
          | (exfalso; refine hbad ?_; simp_all [atomOK]; done))
      · have ep : addE e l = (atomE l e.atom, true) := by rw [addE_def, if_pos hk, if_pos hbad]
        have ev : addV (addE e l) = .tup [atomsO 1 (atomE l e.atom), B true] := by rw [ep]; rfl
        rw [ev]
        have ha : (nameOK e.atom.name && (lockR.fits e.atom.amt || poolR.fits e.atom.amt)) = true := hbad.2
        have ha1 : nameOK e.atom.name = true := by simp at ha; exact ha.1
        have ha2 : (lockR.fits e.atom.amt || poolR.fits e.atom.amt) = true := by simp at ha; simp [ha.2]
        have e2 : (e.k == 0) = true := by simp [hbad.1]
        simp (disch := omega) only [go_sem, e1, e2]
        refine And.intro (fun _ => ?_) (fun h => ?_)
        rotate_left
        · exfalso; simp_all
        refine call_pure (f170_ok e.atom.name) (by simp (disch := omega) only [go_sem]) rfl ?_
        simp (disch := omega) only [go_sem, ha1]
        refine call_pure (f171_ok e.atom.amt) (by simp (disch := omega) only [go_sem]) rfl ?_
        simp (disch := omega) only [go_sem, ha2]
        refine loop_intro (α := Nat) (fun i => ⟨[(6, I i), (0, atomsO 0 l), (3, .ptr 192 0)], [(192, e.c)]⟩) (fun i => i ≤ (l).length ∧ e.atom ∉ l.take i) (fun i => (l).length - i) 0 ⟨by omega, (by simp)⟩ ?_ ?_
        · refine Imp.weak ?_ ?_
          all_goals (try simp (disch := omega) only [go_sem])
          all_goals (try (repeat' (with_reducible apply And.intro)))
          all_goals (first | exact .nilOwn (by omega) | exact .nilNo (by omega) | exact .sl (by simp []) | exact .int (by simp []) | exact .eq (by simp []))
        rintro i ⟨hi, hP⟩ J hJ
        simp (disch := omega) only [go_sem]
        refine And.intro (fun hlt => ?_) (fun hge => ?_)
        rotate_left
        have hil : i = (l).length := by simp at hge; omega
        rotate_left
        obtain ⟨b, hb⟩ : ∃ b, (l)[i]? = some b := ⟨_, List.getElem?_eq_getElem (by simp at hlt; omega)⟩
        have hbm := List.mem_of_getElem? hb
        have hlt2 : i < (l).length := by simp at hlt; omega
        refine draw_mk 6 [([], [0]), ([], [6]), ([0, 1], [38, 39]), ([0, 1, 2], [40]), ([], [3]), ([4], [42]), ([0, 1, 2, 3, 4, 5], [])] fol (by kernel_rfl) ?_
        simp (disch := omega) only [go_sem, List.getElem?_map, hb]
        · refine And.intro (fun h => ?_) (fun h => ?_)
          · have hbe : b = e.atom := by simpa using h
            have e3 : atomE l e.atom = l := by unfold atomE; rw [if_pos (hbe ▸ hbm)]
            simp (disch := omega) only [go_sem, e3]
            refine ret_mk ⟨[(0, 1)], [], []⟩ _ (by (try simp (disch := omega) only [go_sem, resVs, resV]) <;> rfl) ⟨rfl, rfl⟩ (by simp) ?_ trivial
            simp (disch := omega) only [go_sem]
          · have hbe : b ≠ e.atom := by simpa using h
            refine hJ _ (i + 1) ⟨by simp at hlt; omega, (by rw [List.take_add_one, hb]; simp only [Option.toList, List.mem_append, List.mem_singleton]; intro hx; rcases hx with hx | hx; exact hP hx; exact hbe hx.symm)⟩ (by simp at hlt; omega) (Imp.weak (by simp (disch := omega) only [go_sem]) (by simp (disch := omega) only [go_sem]))
        · subst hil
          rw [List.take_length] at hP
          have e3 : atomE l e.atom = l ++ [e.atom] := by unfold atomE; rw [if_neg hP]
          have hb32 : l.length + 1 ≤ 4294967296 := by omega
          simp (disch := omega) only [go_sem, e3]
          refine ret_mk ⟨[(3200, 1)], [], []⟩ _ (by (try simp (disch := omega) only [go_sem, resVs, resV]) <;> rfl) ⟨rfl, rfl⟩ (by simp) ?_ trivial
          simp (disch := omega) only [go_sem]
          exact .tup (WeakArgs.weakL (by simp (disch := omega) only [go_sem]; exact .sl (by simp [Atom.c])))
    have e1 : ((e.kids.length : Int) == 0) = false := by simp only [beq_eq_false_iff_ne, ne_eq]; omega
    have ez : (e.atom.name == [] && (e.atom.amt.mode == 0 && e.atom.amt.units == 0)) = decide (e.atom = a0) := atomEq' e.atom
    by_cases hbad : e.k < 1 ∨ (e.kids.length : Int) < e.k ∨ e.atom ≠ a0
    · have ep : addE e l = (l, false) := by rw [addE_def, if_neg hk, if_pos hbad]
      have ev : addV (addE e l) = .tup [.undef, B false] := by rw [ep]; rfl
      rw [ev]
      simp (disch := omega) only [go_sem, e1, ez]
      repeat' (with_reducible refine And.intro (fun h => ?_) (fun h => ?_))
      all_goals (try (exfalso; simp_all; omega))
      all_goals (refine ret_mk ⟨[(0, 1)], [], []⟩ _ (by (try simp (disch := omega) only [go_sem, resVs, resV]) <;> rfl) ⟨rfl, rfl⟩ (by simp) ?_ trivial)
      all_goals simp (disch := omega) only [go_sem]
      all_goals exact .tup (WeakArgs.weakL (by simp (disch := omega) only [go_sem]))
    have ep : addE e l = addL e.kids l := by rw [addE_def, if_neg hk, if_neg hbad]
    have b1 : (e.k < 1) = False := by simp; omega
    have b2 : ((e.kids.length : Int) < e.k) = False := by simp; omega
    have b3 : e.atom = a0 := by
      by_cases h : e.atom = a0
      · exact h
      · exact absurd (Or.inr (Or.inr h)) hbad
    have ez' : (e.atom.name == [] && (e.atom.amt.mode == 0 && e.atom.amt.units == 0)) = true := by rw [ez]; simp [b3]
    rw [ep]
    simp (disch := omega) only [go_sem, e1, ez', b1, b2, decide_false]
    refine loop_intro (α := Nat × List Atom) (fun q => ⟨[(7, I q.1), (0, atomsO 5376 q.2), (3, .ptr 192 0)], [(192, e.c)]⟩)
      (fun q => q.1 ≤ e.kids.length ∧ q.2.length + cntL (e.kids.drop q.1) ≤ 1000000 ∧ addL (e.kids.drop q.1) q.2 = addL e.kids l) (fun q => e.kids.length - q.1) (0, l) ⟨by simp, by simp; omega, by simp⟩ ?_ ?_
    · refine Imp.ren ⟨[(0, 5376)], [(192, 192)], []⟩ ⟨rfl, rfl⟩ (by simp [lk]) ?_ ?_
      · simp (disch := omega) only [go_sem]
      · simp (disch := omega) only [go_sem]
    rintro ⟨i, m⟩ ⟨hi, hm, hr⟩ J hJ
    replace hi : i ≤ e.kids.length := hi
    replace hm : m.length + cntL (e.kids.drop i) ≤ 1000000 := hm
    replace hr : addL (e.kids.drop i) m = addL e.kids l := hr
    simp (disch := omega) only [go_sem]
    refine And.intro (fun hlt => ?_) (fun hge => ?_)
    · have hlt' : i < e.kids.length := by simp at hlt; omega
      have hb : e.kids[i]? = some e.kids[i] := List.getElem?_eq_getElem hlt'
      have hsz := kid_lt (List.getElem_mem hlt')
      have hdr : e.kids.drop i = e.kids[i] :: e.kids.drop (i + 1) := List.drop_eq_getElem_cons hlt'
      generalize e.kids[i] = b at hb hsz hdr
      rw [hdr] at hr hm
      simp only [addL] at hr
      simp only [cntL] at hm
      have hbl := addE_len _ b (Nat.lt_succ_self _) m
      have hcall := f130_ok N b (by omega) m (by omega)
      simp (disch := omega) only [go_sem, List.getElem?_map, hb]
      generalize addE b m = x at hr hbl hcall
      obtain ⟨x1, x2⟩ := x
      cases x2
      · simp only [Bool.false_eq_true, if_false] at hr
        have ev : addV (addL e.kids l) = .tup [.undef, B false] := by rw [← hr]; rfl
        rw [ev]
        refine callB_mk ⟨⟨[(5376, 0)], [], []⟩, [(1, 5377)], []⟩ (show FnOK C0 130 [atomsO 0 m, .agg b.c] [] (.tup [.undef, B false]) [] from hcall) (by simp (disch := omega) only [go_sem]) rfl (by simp (disch := omega) only [go_sem]) (.inl rfl) ?_
        simp (disch := omega) only [go_sem]
        refine ret_mk ⟨[], [], []⟩ _ (by (try simp (disch := omega) only [go_sem, resVs, resV]) <;> rfl) ⟨rfl, rfl⟩ (by simp) ?_ trivial
        simp (disch := omega) only [go_sem]
      · simp only [if_true] at hr
        refine callB_mk ⟨⟨[(5376, 0)], [], []⟩, [(1, 5377)], []⟩ (show FnOK C0 130 [atomsO 0 m, .agg b.c] [] (.tup [atomsO 1 x1, B true]) [] from hcall) (by simp (disch := omega) only [go_sem]) rfl (by simp (disch := omega) only [go_sem]) (.inl rfl) ?_
        simp (disch := omega) only [go_sem]
        refine hJ _ (i + 1, x1) ⟨by simp; omega, by simp at hbl ⊢; omega, hr⟩ (by simp; omega) (Imp.ren ⟨[(5377, 5376)], [(192, 192)], []⟩ ⟨rfl, rfl⟩ (by simp [lk]) ?_ ?_)
        · simp (disch := omega) only [go_sem]
        · simp (disch := omega) only [go_sem]
    · have hil : i = e.kids.length := by simp at hge; omega
      subst hil
      rw [List.drop_length] at hr
      simp only [addL] at hr
      have ev : addV (addL e.kids l) = .tup [atomsO 1 m, B true] := by rw [← hr]; rfl
      rw [ev]
      refine ret_mk ⟨[(5376, 1)], [], []⟩ _ (by (try simp (disch := omega) only [go_sem, resVs, resV]) <;> rfl) ⟨rfl, rfl⟩ (by simp) ?_ trivial
      simp (disch := omega) only [go_sem]
end Go.Rd
open Go Go.Abs Go.Proofs
set_option maxRecDepth 100000
namespace Go.Rd
theorem sizeL_ge {lv : Int} (h1 : 0 ≤ lv) (h4 : lv ≤ 4) : ∀ (l : List Expr) (n m : Int), n ≤ 24 → n ≤ (sizeL l lv n m).1
  | [], n, m, _ => by simp [sizeL]
  | e :: l, n, m, hn => by
    have b := sizeE_bd _ e (Nat.lt_succ_self _) (lv + 1) (by omega) (by omega)
    simp only [sizeL]
    split
    · simp only; omega
    · have := sizeL_ge h1 h4 l (n + (sizeE e (lv + 1)).1) (max m (sizeE e (lv + 1)).2) (by omega)
      have := b.1
      omega
def msC (e : Expr) (lv : Int) : Prop := ∀ n : Int, 0 ≤ n → n ≤ 24 → ((meas e lv n).1 ≠ 0 → sizeE e lv = ((meas e lv n).2 - n, (meas e lv n).1)) ∧ ((meas e lv n).1 = 0 → 24 < n + (sizeE e lv).1)
theorem measL_size {lv : Int} (h1 : 1 ≤ lv) (h4 : lv ≤ 4) : ∀ (l : List Expr) (n0 n m : Int), (∀ e ∈ l, msC e (lv + 1)) → 1 ≤ n → 0 ≤ n0 → n0 + n ≤ 24 → 0 ≤ m →
    ((measL l lv (n0 + n) m).1 ≠ 0 → sizeL l lv n m = ((measL l lv (n0 + n) m).2 - n0, (measL l lv (n0 + n) m).1)) ∧ ((measL l lv (n0 + n) m).1 = 0 → 24 < n0 + (sizeL l lv n m).1)
  | [], n0, n, m, _, _, _, _, hm => by
    simp only [measL, sizeL]
    exact ⟨fun _ => by rw [show n0 + n - n0 = n by omega], fun h => by omega⟩
  | e :: l, n0, n, m, hk, a1, a2, a3, hm => by
    obtain ⟨k1, k2⟩ := hk e (by simp) (n0 + n) (by omega) a3
    have b := meas_bd _ e (Nat.lt_succ_self _) (lv + 1) (n0 + n) (by omega) (by omega) (by omega) a3
    simp only [measL, sizeL]
    by_cases hz : (meas e (lv + 1) (n0 + n)).1 = 0
    · have h24 := k2 hz
      rw [if_pos hz]
      refine ⟨fun h => absurd rfl h, fun _ => ?_⟩
      split
      · simp only; omega
      · have := sizeL_ge (by omega) h4 l (n + (sizeE e (lv + 1)).1) (max m (sizeE e (lv + 1)).2) (by omega)
        omega
    · have hs := k1 hz
      have hb := b.2.2.2.2 hz
      have hb0 := b.1
      have hge := meas_ge _ e (Nat.lt_succ_self _) (lv + 1) (n0 + n)
      rw [if_neg hz, hs]
      simp only
      have e1 : n + ((meas e (lv + 1) (n0 + n)).2 - (n0 + n)) = (meas e (lv + 1) (n0 + n)).2 - n0 := by omega
      rw [e1, if_neg (by omega)]
      have ih := measL_size h1 h4 l n0 ((meas e (lv + 1) (n0 + n)).2 - n0) (max m (meas e (lv + 1) (n0 + n)).1) (fun e' he => hk e' (by simp [he])) (by omega) a2 (by omega) (by omega)
      have e2 : n0 + ((meas e (lv + 1) (n0 + n)).2 - n0) = (meas e (lv + 1) (n0 + n)).2 := by omega
      rw [e2] at ih
      exact ih
theorem meas_size : ∀ (N : Nat) (e : Expr), SizeOf.sizeOf e < N → ∀ lv : Int, 1 ≤ lv → lv ≤ 5 → msC e lv
  | 0, _, h, _, _, _ => by omega
  | N + 1, e, h, lv, h1, h5 => by
    intro n hn0 hn
    have sb := sizeE_bd _ e (Nat.lt_succ_self _) lv h1 h5
    rw [meas_def]
    by_cases hc : 4 < lv ∨ 24 < n + 1
    · rw [if_pos hc]
      refine ⟨fun h => absurd rfl h, fun _ => ?_⟩
      by_cases h4 : 4 < lv
      · rw [sizeE_def, if_pos (.inl h4)]; simp only; omega
      · have := sb.1; omega
    · rw [if_neg hc]
      have hL := measL_size h1 (by omega) e.kids n 1 0 (fun e' he => meas_size N e' (by have := kid_lt he; omega) _ (by omega) (by omega)) (by omega) hn0 (by omega) (by omega)
      by_cases h24 : 24 < e.kids.length
      · rw [sizeE_def, if_pos (.inr h24)]
        refine ⟨fun h => ?_, fun _ => by simp only; omega⟩
        have := measL_nz e.kids (n + 1) 0 h (by omega) (by omega) fun e' _ n' k1 k2 k3 => ⟨meas_ge _ e' (Nat.lt_succ_self _) _ _, (meas_bd _ e' (Nat.lt_succ_self _) (lv + 1) n' (by omega) (by omega) k1 k2).2.2.2.2 k3⟩
        omega
      · rw [sizeE_def, if_neg (by omega)]
        exact hL
theorem nodes_depth (e : Expr) : nodesE e = 0 ↔ depth e = 0 := by
  have h := meas_size _ e (Nat.lt_succ_self _) 1 (by omega) (by omega) 0 (by omega) (by omega)
  have b := meas_bd _ e (Nat.lt_succ_self _) 1 0 (by omega) (by omega) (by omega) (by omega)
  have sb := (sizeE_bd _ e (Nat.lt_succ_self _) 1 (by omega) (by omega)).1
  unfold nodesE depth
  by_cases hz : (meas e 1 0).1 = 0
  · have := h.2 hz
    rw [if_pos (by omega)]
    simp [hz]
  · have h1 := h.1 hz
    have h2 := b.2.2.2.2 hz
    have h3 : (sizeE e 1).1 = (meas e 1 0).2 := by rw [h1]; simp
    rw [if_neg (by omega)]
    constructor
    · intro h; omega
    · intro h; exact absurd h hz
theorem sizeL_cnt {lv : Int} : ∀ (l : List Expr) (n m : Int), (∀ e ∈ l, (sizeE e (lv + 1)).1 ≤ 24 → (cnt e : Int) = (sizeE e (lv + 1)).1) → 1 ≤ lv → lv ≤ 4 → 0 ≤ n → n ≤ 24 → (sizeL l lv n m).1 ≤ 24 → n + (cntL l : Int) = (sizeL l lv n m).1
  | [], n, m, _, _, _, _, _, _ => by simp [sizeL, cntL]
  | e :: l, n, m, hk, h1, h4, hn, hn2, h => by
    have b := sizeE_bd _ e (Nat.lt_succ_self _) (lv + 1) (by omega) (by omega)
    simp only [sizeL, cntL] at h ⊢
    split at h
    · simp at h
    · rename_i hlt
      rw [if_neg hlt]
      have b1 := b.1
      have := hk e (by simp) (by omega)
      have ih := sizeL_cnt l _ _ (fun e' he => hk e' (by simp [he])) h1 h4 (by omega) (by omega) h
      rw [← ih]
      omega
theorem sizeE_cnt : ∀ (N : Nat) (e : Expr), SizeOf.sizeOf e < N → ∀ lv : Int, 1 ≤ lv → lv ≤ 5 → (sizeE e lv).1 ≤ 24 → (cnt e : Int) = (sizeE e lv).1
  | 0, _, h, _, _, _, _ => by omega
  | N + 1, e, h, lv, h1, h5, hs => by
    rw [sizeE_def] at hs ⊢
    split at hs
    · simp at hs
    · rename_i hc
      rw [if_neg hc, cnt_def]
      have := sizeL_cnt e.kids 1 0 (fun e' he hs' => sizeE_cnt N e' (by have := kid_lt he; omega) _ (by omega) (by omega) hs') h1 (by omega) (by omega) (by omega) hs
      rw [← this]
      omega
theorem nodes_cnt {e : Expr} (h : nodesE e ≠ 0) : cnt e ≤ 24 := by
  unfold nodesE at h
  by_cases h24 : 24 < (sizeE e 1).1
  · simp [h24] at h
  · have := sizeE_cnt _ e (Nat.lt_succ_self _) 1 (by omega) (by omega) (by omega)
    omega
def goodA (l : List Atom) : Prop := l.length ≤ 8 ∧ l.Pairwise fun a b => a.name ≠ b.name
theorem good_prefix {l m : List Atom} (h : l <+: m) (hg : goodA m) : goodA l := ⟨Nat.le_trans h.length_le hg.1, hg.2.sublist h.sublist⟩
theorem atomE_prefix (l : List Atom) (a : Atom) : l <+: atomE l a := by
  unfold atomE
  split
  · exact List.prefix_refl l
  · exact List.prefix_append l [a]
theorem addL_prefix : ∀ (es : List Expr) (l : List Atom), (∀ e ∈ es, ∀ l, (addE e l).2 = true → l <+: (addE e l).1) → (addL es l).2 = true → l <+: (addL es l).1
  | [], l, _, _ => by simp [addL]
  | e :: es, l, hk, h => by
    simp only [addL] at h ⊢
    split at h
    · rename_i ht
      rw [if_pos ht]
      exact List.IsPrefix.trans (hk e (by simp) l ht) (addL_prefix es _ (fun e' he => hk e' (by simp [he])) h)
    · simp at h
theorem addE_prefix : ∀ (N : Nat) (e : Expr), SizeOf.sizeOf e < N → ∀ l, (addE e l).2 = true → l <+: (addE e l).1
  | 0, _, h, _, _ => by omega
  | N + 1, e, h, l, ht => by
    rw [addE_def] at ht ⊢
    split at ht
    · rename_i h0
      rw [if_pos h0]
      split at ht
      · rename_i h1
        rw [if_pos h1]
        exact atomE_prefix _ _
      · simp at ht
    · rename_i h0
      rw [if_neg h0]
      split at ht
      · simp at ht
      · rename_i h1
        rw [if_neg h1]
        exact addL_prefix _ _ (fun e' he l' => addE_prefix N e' (by have := kid_lt he; omega) l') ht
def paC (e : Expr) : Prop := ∀ l, goodA l → ((prop e l).1 = true → addE e l = ((prop e l).2, true) ∧ goodA (prop e l).2) ∧ ((prop e l).1 = false → (addE e l).2 = true → ¬ goodA (addE e l).1)
theorem propL_add : ∀ (es : List Expr), (∀ e ∈ es, paC e) → ∀ l, goodA l → ((propL es l).1 = true → addL es l = ((propL es l).2, true) ∧ goodA (propL es l).2) ∧ ((propL es l).1 = false → (addL es l).2 = true → ¬ goodA (addL es l).1)
  | [], _, l, hg => by simp [propL, addL, hg]
  | e :: es, hk, l, hg => by
    obtain ⟨k1, k2⟩ := hk e (by simp) l hg
    simp only [propL, addL]
    cases hp : (prop e l).1
    · simp only [Bool.false_eq_true, if_false, false_implies, true_and, true_implies]
      cases ha : (addE e l).2
      · simp
      · intro ht hgo
        simp only [if_true] at ht hgo
        have h1 := k2 hp ha
        exact h1 (good_prefix (addL_prefix es _ (fun e' he l' => addE_prefix _ e' (Nat.lt_succ_self _) l') ht) hgo)
    · obtain ⟨h1, h2⟩ := k1 hp
      rw [h1]
      simp only [if_true]
      exact propL_add es (fun e' he => hk e' (by simp [he])) _ h2
theorem pair_eq {l : List Atom} (h : l.Pairwise fun a b => a.name ≠ b.name) {a b : Atom} (ha : a ∈ l) (hb : b ∈ l) (hn : a.name = b.name) : a = b := by
  induction l with
  | nil => simp at ha
  | cons x l ih =>
    rw [List.pairwise_cons] at h
    rcases List.mem_cons.1 ha with e1 | ha
    · rcases List.mem_cons.1 hb with e2 | hb
      · rw [e1, e2]
      · exact absurd hn (e1 ▸ h.1 b hb)
    · rcases List.mem_cons.1 hb with e2 | hb
      · exact absurd hn.symm (e2 ▸ h.1 a ha)
      · exact ih h.2 ha hb
theorem prop_add : ∀ (N : Nat) (e : Expr), SizeOf.sizeOf e < N → paC e
  | 0, _, h => by omega
  | N + 1, e, h => by
    intro l hg
    rw [prop_def, addE_def]
    by_cases h0 : e.kids.length = 0
    · rw [if_pos h0, if_pos h0]
      by_cases h1 : e.k = 0 ∧ atomOK e.atom = true
      · rw [if_pos h1, if_pos h1]
        simp only
        unfold noteE
        cases hf : l.find? (hit e.atom) with
        | some b =>
          have hb := List.mem_of_find?_eq_some hf
          have hh := List.find?_some hf
          by_cases hab : e.atom = b
          · have : atomE l e.atom = l := by unfold atomE; rw [if_pos (hab ▸ hb)]
            rw [this]
            simp [hab, hg]
          · simp [hab]
            have hname : e.atom.name = b.name := by
              unfold hit at hh
              simpa [hab] using hh
            intro hgo
            have hb' : b ∈ atomE l e.atom := (atomE_prefix l e.atom).subset hb
            have ha' : e.atom ∈ atomE l e.atom := by unfold atomE; split <;> simp_all
            exact hab (pair_eq hgo.2 ha' hb' hname)
        | none =>
          have hno : ∀ x ∈ l, e.atom ≠ x ∧ e.atom.name ≠ x.name := by
            intro x hx
            rw [List.find?_eq_none] at hf
            have := hf x hx
            unfold hit at this
            simpa using this
          have hm : e.atom ∉ l := fun hx => (hno _ hx).1 rfl
          have hE : atomE l e.atom = l ++ [e.atom] := by unfold atomE; rw [if_neg hm]
          rw [hE]
          by_cases h8 : l.length = 8
          · simp [h8]
            intro hgo
            have := hgo.1
            simp at this
            omega
          · simp [h8]
            refine ⟨by have := hg.1; simp; omega, ?_⟩
            rw [List.pairwise_append]
            refine ⟨hg.2, by simp, fun a ha b hb => ?_⟩
            rw [List.mem_singleton.1 hb]
            exact fun hx => (hno a ha).2 hx.symm
      · rw [if_neg h1, if_neg h1]
        simp
    · rw [if_neg h0, if_neg h0]
      by_cases h1 : e.k < 1 ∨ (e.kids.length : Int) < e.k ∨ e.atom ≠ a0
      · rw [if_pos h1, if_pos h1]
        simp
      · rw [if_neg h1, if_neg h1]
        exact propL_add e.kids (fun e' he => prop_add N e' (by have := kid_lt he; omega)) l hg
theorem ref_ok {e : Expr} (h : exprOK e = true) : nodesE e ≠ 0 ∧ addE e [] = (atomsE e, true) ∧ goodA (atomsE e) := by
  have hp := exprOK_prop h
  have hk := (prop_add _ e (Nat.lt_succ_self _) [] ⟨by simp, by simp⟩).1 hp
  have hc := prop_col _ e (Nat.lt_succ_self _) [] hp
  have ha : atomsE e = (prop e []).2 := by unfold atomsE; rw [if_pos h, hc]
  rw [ha]
  refine ⟨?_, hk⟩
  rw [Ne, nodes_depth]
  simp [exprOK] at h
  exact h.1
theorem ref_bad {e : Expr} (h : exprOK e = false) (hn : nodesE e ≠ 0) (ha : (addE e []).2 = true) : ¬ goodA (addE e []).1 := by
  have hk := (prop_add _ e (Nat.lt_succ_self _) [] ⟨by simp, by simp⟩).2
  rw [Ne, nodes_depth] at hn
  refine hk ?_ ha
  simp [exprOK, hn] at h
  exact h
end Go.Rd
open Go Go.Abs Go.Proofs
set_option maxRecDepth 100000
namespace Go.Rd
theorem f82_ok (e : Expr) : FnOK C0 82 [.agg e.c] [] (.tup [atomsV (atomsE e), B (exprOK e)]) [] := by
  refine FnOK.intro (fn := Tryz.f82) (c := Tryz.f82.body.getD .skip) (by kernel_rfl) (by kernel_rfl) (by kernel_rfl) (by kernel_rfl) (by simp [Tryz.f82]) (by simp [names]) ?_
  unfold Tryz.f82
  simp (disch := omega) only [go_sem]
  refine call_pure (f129_ok e) (by simp (disch := omega) only [go_sem]) rfl ?_
  have bad : exprOK e = false → atomsE e = [] := fun h => by simp [atomsE, h]
  by_cases hn : nodesE e = 0
  · have e0 : (nodesE e == 0) = true := by simp [hn]
    have hx : exprOK e = false := by simp [exprOK, (nodes_depth e).1 hn]
    simp (disch := omega) only [go_sem, e0, hx, bad hx]
    refine ret_mk ⟨[], [], []⟩ _ (by (try simp (disch := omega) only [go_sem, resVs, resV]) <;> rfl) ⟨rfl, rfl⟩ (by simp) ?_ trivial
    simp (disch := omega) only [go_sem]
    refine .tup (WeakArgs.weakL ?_)
    simp (disch := omega) only [go_sem]
    repeat' (with_reducible apply And.intro)
    all_goals (first | exact .nilNo (by omega) | exact .agg (WeakArgs.weakL (by simp (disch := omega) only [go_sem])))
  have e0 : (nodesE e == 0) = false := by simp [hn]
  have hc := nodes_cnt hn
  have hl := addE_len _ e (Nat.lt_succ_self _) []
  have hcall := f130_ok _ e (Nat.lt_succ_self _) [] (by simp; omega)
  have hok := @ref_ok e
  have hbad := @ref_bad e
  simp (disch := omega) only [go_sem, e0]
  generalize addE e [] = x at hl hcall hok hbad
  obtain ⟨m, ok⟩ := x
  cases ok
  · have hx : exprOK e = false := by
      cases h : exprOK e
      · rfl
      · have := (hok h).2.1; simp at this
    refine callB_mk ⟨⟨[], [], []⟩, [(1, 832)], []⟩ (show FnOK C0 130 [atomsO 0 [], .agg e.c] [] (.tup [.undef, B false]) [] from hcall) (by simp (disch := omega) only [go_sem, List.map_nil]; exact .nilOwn (by omega)) rfl (by simp (disch := omega) only [go_sem]) (.inl rfl) ?_
    simp (disch := omega) only [go_sem, hx, bad hx]
    refine ret_mk ⟨[], [], []⟩ _ (by (try simp (disch := omega) only [go_sem, resVs, resV]) <;> rfl) ⟨rfl, rfl⟩ (by simp) ?_ trivial
    simp (disch := omega) only [go_sem]
    refine .tup (WeakArgs.weakL ?_)
    simp (disch := omega) only [go_sem]
    repeat' (with_reducible apply And.intro)
    all_goals (first | exact .nilNo (by omega) | exact .agg (WeakArgs.weakL (by simp (disch := omega) only [go_sem])))
  simp only [List.length_nil] at hl
  refine callB_mk ⟨⟨[], [], []⟩, [(1, 832)], []⟩ (show FnOK C0 130 [atomsO 0 [], .agg e.c] [] (.tup [atomsO 1 m, B true]) [] from hcall) (by simp (disch := omega) only [go_sem, List.map_nil]; exact .nilOwn (by omega)) rfl (by simp (disch := omega) only [go_sem]) (.inl rfl) ?_
  have hb2 : exprOK e = false → ¬ goodA m := fun h => hbad h hn rfl
  have hng : ¬ goodA m → exprOK e = false := fun h => by
    cases hx : exprOK e
    · rfl
    · have h2 := hok hx
      have : m = atomsE e := by have := h2.2.1; simp at this; exact this
      exact absurd (this ▸ h2.2.2) h
  by_cases h8 : 8 < m.length
  · have d8 : (8 < (m.length : Int)) = True := by simp; omega
    have hx : exprOK e = false := hng fun h => by have := h.1; omega
    simp (disch := omega) only [go_sem, d8, hx, bad hx]
    refine ret_mk ⟨[], [], []⟩ _ (by (try simp (disch := omega) only [go_sem, resVs, resV]) <;> rfl) ⟨rfl, rfl⟩ (by simp) ?_ trivial
    simp (disch := omega) only [go_sem]
    refine .tup (WeakArgs.weakL ?_)
    simp (disch := omega) only [go_sem]
    repeat' (with_reducible apply And.intro)
    all_goals (first | exact .nilNo (by omega) | exact .agg (WeakArgs.weakL (by simp (disch := omega) only [go_sem])))
  have d8 : (8 < (m.length : Int)) = False := by simp; omega
  simp (disch := omega) only [go_sem, d8, decide_false]
  refine loop_intro (α := Nat) (fun i => ⟨[(6, I i), (4, atomsO 832 m)], []⟩) (fun i => i ≤ m.length ∧ (m.take i).Pairwise fun a b => a.name ≠ b.name) (fun i => m.length - i) 0 ⟨by omega, by simp⟩ ?_ ?_
  · refine Imp.weak ?_ ?_
    · simp (disch := omega) only [go_sem]
    · simp (disch := omega) only [go_sem]
  rintro i ⟨hi, hP⟩ J hJ
  simp (disch := omega) only [go_sem]
  refine And.intro (fun hlt => ?_) (fun hge => ?_)
  rotate_left
  · have hil : i = m.length := by simp at hge; omega
    subst hil
    rw [List.take_length] at hP
    have hg : goodA m := ⟨by omega, hP⟩
    have hx : exprOK e = true := by
      cases h : exprOK e
      · exact absurd hg (hb2 h)
      · rfl
    have hm : m = atomsE e := by have := (hok hx).2.1; simp at this; exact this
    simp (disch := omega) only [go_sem, hx, ← hm]
    refine ret_mk ⟨[], [], [832]⟩ _ (by (try simp (disch := omega) only [go_sem, resVs, resV]) <;> rfl) ⟨rfl, rfl⟩ (by simp) ?_ trivial
    simp (disch := omega) only [go_sem, hm]
  obtain ⟨b, hb⟩ : ∃ b, m[i]? = some b := ⟨_, List.getElem?_eq_getElem (by simp at hlt; omega)⟩
  have hlt2 : i < m.length := by simp at hlt; omega
  refine loop_intro (α := Nat) (fun j => ⟨[(7, I j), (6, I i), (4, atomsO 832 m)], []⟩) (fun j => j ≤ i ∧ ∀ x ∈ m.take j, x.name ≠ b.name) (fun j => i - j) 0 ⟨by omega, by simp⟩ ?_ ?_
  · refine Imp.weak ?_ ?_
    · simp (disch := omega) only [go_sem]
    · simp (disch := omega) only [go_sem]
  rintro j ⟨hj, hQ⟩ K hK
  simp (disch := omega) only [go_sem]
  refine And.intro (fun hlt' => ?_) (fun hge' => ?_)
  rotate_left
  · have hji : j = i := by simp at hge'; omega
    subst hji
    refine hJ _ (j + 1) ⟨by omega, ?_⟩ (by omega) (Imp.weak ?_ ?_)
    · rw [List.take_add_one, hb, List.pairwise_append]
      exact ⟨hP, by simp, fun a ha c hc => by simp at hc; rw [hc]; exact hQ a ha⟩
    · simp (disch := omega) only [go_sem]
    · simp (disch := omega) only [go_sem]
  · have hjl : j < i := by simp at hlt'; omega
    obtain ⟨c, hc'⟩ : ∃ c, m[j]? = some c := ⟨_, List.getElem?_eq_getElem (by omega)⟩
    refine draw_mk 10 [([], [4]), ([], [6]), ([0, 1], [34, 35]), ([0, 1, 2], [36]), ([0, 1, 2, 3], [37]), ([], [4]), ([], [7]), ([5, 6], [39, 40]), ([5, 6, 7], [41]), ([5, 6, 7, 8], [42]), ([0, 1, 2, 3, 4, 5, 6, 7, 8, 9], [])] fol (by kernel_rfl) ?_
    simp (disch := omega) only [go_sem, List.getElem?_map, hb, hc']
    by_cases hne : b.name = c.name
    · have e9 : (b.name == c.name) = true := by simp [hne]
      have hx : exprOK e = false := hng fun h => by
        have := List.pairwise_iff_getElem.1 h.2 j i (by omega) hlt2 hjl
        rw [List.getElem?_eq_getElem (by omega)] at hb hc'
        simp at hb hc'
        rw [hb, hc'] at this
        exact this hne.symm
      simp (disch := omega) only [go_sem, e9, hx, bad hx]
      refine ret_mk ⟨[], [], []⟩ _ (by (try simp (disch := omega) only [go_sem, resVs, resV]) <;> rfl) ⟨rfl, rfl⟩ (by simp) ?_ trivial
      simp (disch := omega) only [go_sem]
      refine .tup (WeakArgs.weakL ?_)
      simp (disch := omega) only [go_sem]
      repeat' (with_reducible apply And.intro)
      all_goals (first | exact .nilNo (by omega) | exact .agg (WeakArgs.weakL (by simp (disch := omega) only [go_sem])))
    · have e9 : (b.name == c.name) = false := by simp [hne]
      simp (disch := omega) only [go_sem, e9]
      refine hK _ (j + 1) ⟨by omega, ?_⟩ (by omega) (Imp.weak (by simp (disch := omega) only [go_sem]) (by simp (disch := omega) only [go_sem]))
      intro x hx
      rw [List.take_add_one, hc'] at hx
      simp only [Option.toList, List.mem_append, List.mem_singleton] at hx
      rcases hx with hx | hx
      · exact hQ x hx
      · rw [hx]; exact fun h => hne h.symm
theorem f78_ok (e : Expr) : FnOK C0 78 [.agg e.c] [] (B (exprOK e)) [] := by
  refine FnOK.intro (fn := Tryz.f78) (c := Tryz.f78.body.getD .skip) (by kernel_rfl) (by kernel_rfl) (by kernel_rfl) (by kernel_rfl) (by simp [Tryz.f78]) (by simp [names]) ?_
  unfold Tryz.f78
  simp (disch := omega) only [go_sem]
  refine call_pure (f82_ok e) (by simp (disch := omega) only [go_sem]) rfl ?_
  simp (disch := omega) only [go_sem]
  refine ret_mk ⟨[], [], []⟩ _ (by (try simp (disch := omega) only [go_sem, resVs, resV]) <;> rfl) ⟨rfl, rfl⟩ (by simp) ?_ trivial
  simp (disch := omega) only [go_sem]
theorem f44_ok (e : Expr) : FnOK C0 44 [.agg e.c] [] (atomsV (atomsE e)) [] := by
  refine FnOK.intro (fn := Tryz.f44) (c := Tryz.f44.body.getD .skip) (by kernel_rfl) (by kernel_rfl) (by kernel_rfl) (by kernel_rfl) (by simp [Tryz.f44]) (by simp [names]) ?_
  unfold Tryz.f44
  simp (disch := omega) only [go_sem]
  refine call_pure (f82_ok e) (by simp (disch := omega) only [go_sem]) rfl ?_
  simp (disch := omega) only [go_sem]
  refine ret_mk ⟨[], [], []⟩ _ (by (try simp (disch := omega) only [go_sem, resVs, resV]) <;> rfl) ⟨rfl, rfl⟩ (by simp) ?_ trivial
  simp (disch := omega) only [go_sem]
end Go.Rd
