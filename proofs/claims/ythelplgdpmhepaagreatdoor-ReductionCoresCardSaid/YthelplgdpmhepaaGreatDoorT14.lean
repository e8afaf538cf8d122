/- part 14 of the proof -/
import Derived.Test.YthelplgdpmhepaaGreatDoorT11
import Derived.Test.YthelplgdpmhepaaGreatDoorT13
set_option linter.all false
open Go Go.Abs Go.Proofs
set_option maxRecDepth 100000
namespace Go.Rd
def p0 : Proc := ⟨0, 0, 0⟩
def h0 : Hold := ⟨⟨0, 0, 0⟩, ⟨0, 0⟩⟩
def holdPos (r : Res) (l : List Hold) (i : Nat) (h : Hold) : Bool := h.proc.ok && r.fits h.amt && (decide (i = 0) || decide (cmpP (l.getD (i - 1) h0).proc h.proc < 0))
def holdsOK (r : Res) (l : List Hold) : Bool := r.shaped && decide (l.length ≤ 8) && allAt (holdPos r l) l && r.compat (l.map (·.amt))
theorem f216_ok (r : Res) (l : List Hold) : FnOK C0 216 [.agg r.c, holdsV l] [] (B (holdsOK r l)) [] := by
  refine FnOK.intro (fn := Tryz.f216) (c := Tryz.f216.body.getD .skip) (by kernel_rfl) (by kernel_rfl) (by kernel_rfl) (by kernel_rfl) (by simp [Tryz.f216]) (by simp [names]) ?_
  unfold Tryz.f216
  simp (disch := omega) only [go_sem]
  refine call_pure (f252_ok r) (by simp (disch := omega) only [go_sem]) rfl ?_
  cases hs : r.shaped
  · have e : holdsOK r l = false := by simp [holdsOK, hs]
    simp (disch := omega) only [go_sem, Bool.not_false, e]
    refine ret_mk ⟨[], [], []⟩ _ (by (try simp (disch := omega) only [go_sem, resVs, resV]) <;> rfl) ⟨rfl, rfl⟩ (by simp) ?_ trivial
    simp (disch := omega) only [go_sem]
  by_cases h8 : 8 < l.length
  · have e1 : (8 < (l.length : Int)) = True := by simp; omega
    have e : holdsOK r l = false := by simp [holdsOK]; omega
    simp (disch := omega) only [go_sem, Bool.not_true, e1, e]
    refine ret_mk ⟨[], [], []⟩ _ (by (try simp (disch := omega) only [go_sem, resVs, resV]) <;> rfl) ⟨rfl, rfl⟩ (by simp) ?_ trivial
    simp (disch := omega) only [go_sem]
  have e1 : (8 < (l.length : Int)) = False := by simp; omega
  simp (disch := omega) only [go_sem, Bool.not_true, e1, decide_false]
  refine loop_intro (α := Nat) (fun i => ⟨[(18, I i), (17, I l.length), (16, holdsV l), (1, holdsV l), (2, .ptr 128 0), (5, .sl (.own 3328 0) 2 ((l.take i).map fun h => h.amt.c))], [(128, r.c)]⟩) (fun i => i ≤ (l).length ∧ allAt (holdPos r l) (l.take i) = true) (fun i => (l).length - i) 0 ⟨by omega, rfl⟩ ?_ ?_
  · refine Imp.weak ?_ ?_
    all_goals (try simp (disch := omega) only [go_sem])
    all_goals (try (repeat' (with_reducible apply And.intro)))
    all_goals (first | exact .nilOwn (by omega) | exact .nilNo (by omega) | exact .sl (by simp []) | exact .int (by simp []) | exact .eq (by simp []))
  rintro i ⟨hi, hP⟩ J hJ
  simp (disch := omega) only [go_sem]
  refine And.intro (fun hlt => ?_) (fun hge => ?_)
  rotate_left
  have hil : i = (l).length := by simp at hge; omega
  rotate_left
  obtain ⟨b, hb⟩ : ∃ b, (l)[i]? = some b := ⟨_, List.getElem?_eq_getElem (by simp at hlt; omega)⟩
  have hbm := List.mem_of_getElem? hb
  simp (disch := omega) only [go_sem, List.getElem?_map, hb]
  · refine call_pure (f72_ok b.proc) (by simp (disch := omega) only [go_sem]) rfl ?_
    have bad : holdPos r l i b = false → holdsOK r l = false := fun h => by simp [holdsOK, allAt_false hb h]
    cases hp : b.proc.ok
    · simp (disch := omega) only [go_sem, Bool.not_false, bad (by simp [holdPos, hp])]
      refine ret_mk ⟨[], [], []⟩ _ (by (try simp (disch := omega) only [go_sem, resVs, resV]) <;> rfl) ⟨rfl, rfl⟩ (by simp) ?_ trivial
      simp (disch := omega) only [go_sem]
    simp (disch := omega) only [go_sem, Bool.not_true]
    refine call_pure (f221_ok r b.amt) (by simp (disch := omega) only [go_sem]) rfl ?_
    cases hf : r.fits b.amt
    · simp (disch := omega) only [go_sem, Bool.not_false, bad (by simp [holdPos, hf])]
      refine ret_mk ⟨[], [], []⟩ _ (by (try simp (disch := omega) only [go_sem, resVs, resV]) <;> rfl) ⟨rfl, rfl⟩ (by simp) ?_ trivial
      simp (disch := omega) only [go_sem]
    simp (disch := omega) only [go_sem, Bool.not_true]
    refine draw_mk 11 [([], [6]), ([0], [34]), ([0, 1], [35]), ([0, 1, 2], [1, 36]), ([0, 1, 2], [6, 36]), ([0, 1, 2, 4], [38, 36]), ([0, 1, 2, 3, 4, 5], [37, 39, 36]), ([0, 1, 2, 3, 4, 5, 6], [40, 36]), ([0, 1, 2, 3, 4, 5, 6, 7], [41, 36]), ([0, 1, 2], [7, 36]), ([0, 1, 2, 9], [43, 36]), ([0, 1, 2, 3, 4, 5, 6, 7, 8, 9, 10], []), ([0, 1, 2, 3, 4, 5, 6, 7, 8, 9, 10, 11], []), ([0, 1, 2, 3, 4, 5, 6, 7, 8, 9, 10, 11, 12], [])] fol (by kernel_rfl) ?_
    have good : (decide (i = 0) || decide (cmpP (l.getD (i - 1) h0).proc b.proc < 0)) = true → allAt (holdPos r l) (l.take (i + 1)) = true := fun h => by
      rw [allAt_take hb, hP]
      simp only [holdPos, hp, hf, h]
      rfl
    by_cases hi0 : i = 0
    · subst hi0
      simp (disch := omega) only [go_sem]
      refine hJ _ 1 ⟨by simp at hlt; omega, good (by simp)⟩ (by simp at hlt; omega) (Imp.weak ?_ (by simp (disch := omega) only [go_sem]))
      simp (disch := omega) only [go_sem]
      exact .sl (by simp [List.take_one, List.head?_eq_getElem?, hb, Amt.c])
    · have hi1 : (0 < (i : Int)) = True := by simp; omega
      have hi2 : ((i : Int) - 1) = ((i - 1 : Nat) : Int) := by omega
      obtain ⟨a, ha⟩ : ∃ a, l[i - 1]? = some a := ⟨_, List.getElem?_eq_getElem (by simp at hlt; omega)⟩
      have had : l.getD (i - 1) h0 = a := by simp [List.getD, ha]
      simp (disch := omega) only [go_sem, hi1, hi2, List.getElem?_map, ha]
      refine call_pure (f47_ok a.proc b.proc) (by simp (disch := omega) only [go_sem]) rfl ?_
      simp (disch := omega) only [go_sem]
      by_cases hc : 0 ≤ cmpP a.proc b.proc
      · have e : holdsOK r l = false := bad (by simp only [holdPos, had]; simp [hi0]; omega)
        simp (disch := omega) only [go_sem, hc, e]
        refine ret_mk ⟨[], [], []⟩ _ (by (try simp (disch := omega) only [go_sem, resVs, resV]) <;> rfl) ⟨rfl, rfl⟩ (by simp) ?_ trivial
        simp (disch := omega) only [go_sem]
      · simp (disch := omega) only [go_sem, hc, decide_false]
        refine hJ _ (i + 1) ⟨by simp at hlt; omega, good (by rw [had]; simp; omega)⟩ (by simp at hlt; omega) (Imp.weak ?_ (by simp (disch := omega) only [go_sem]))
        simp (disch := omega) only [go_sem]
        exact .sl (by simp [List.take_add_one, hb, Amt.c])
  · subst hil
    rw [List.take_length] at hP
    have ee : holdsOK r l = r.compat (l.map (·.amt)) := by simp [holdsOK, hs, hP]; omega
    refine call_lent [3328] (f253_ok r (l.map (·.amt)) (by simp; omega)) ?_ rfl trivial ?_
    · simp (disch := omega) only [go_sem, List.take_length]
      exact .sl (by simp [Amt.c])
    rw [ee]
    simp (disch := omega) only [go_sem]
    refine ret_mk ⟨[], [], []⟩ _ (by (try simp (disch := omega) only [go_sem, resVs, resV]) <;> rfl) ⟨rfl, rfl⟩ (by simp) ?_ trivial
    simp (disch := omega) only [go_sem]
end Go.Rd
open Go Go.Abs Go.Proofs
set_option maxRecDepth 100000
namespace Go.Rd
theorem f219_ok (r : Res) (l : List Hold) (p : Proc) (a : Amt) : FnOK C0 219 [.agg r.c, holdsV l, .agg p.c, .agg a.c] [] (B (holdsOK r l && p.ok && r.fits a)) [] := by
  refine FnOK.intro (fn := Tryz.f219) (c := Tryz.f219.body.getD .skip) (by kernel_rfl) (by kernel_rfl) (by kernel_rfl) (by kernel_rfl) (by simp [Tryz.f219]) (by simp [names]) ?_
  unfold Tryz.f219
  simp (disch := omega) only [go_sem]
  repeat' (first
    | (with_reducible refine And.intro (fun h => ?_) (fun h => ?_))
    | ((with_reducible show callB _ _ 216 _ _ _); refine call_pure (f216_ok r l) ?_ rfl ?_; (focus (simp (disch := omega) only [go_sem]; done)); try simp (disch := omega) only [go_sem])
    | ((with_reducible show callB _ _ 72 _ _ _); refine call_pure (f72_ok p) ?_ rfl ?_; (focus (simp (disch := omega) only [go_sem]; done)); try simp (disch := omega) only [go_sem])
    | ((with_reducible show callB _ _ 221 _ _ _); refine call_pure (f221_ok r a) ?_ rfl ?_; (focus (simp (disch := omega) only [go_sem]; done)); try simp (disch := omega) only [go_sem]))
  all_goals (refine ret_mk ⟨[], [], []⟩ _ (by (try simp (disch := omega) only [go_sem, resVs, resV]) <;> rfl) ⟨rfl, rfl⟩ (by simp) ?_ trivial)
  all_goals (try simp (disch := omega) only [go_sem])
  all_goals (refine .eq ?_)
  all_goals (first | (simp_all [] <;> omega) | (refine Bool.eq_iff_iff.2 ?_; simp_all [] <;> omega))
def w0 : Wait := ⟨⟨0, 0, 0⟩, ⟨0, 0⟩, 0, 0⟩
def headQ (q : Queue) : Option Wait := match q.convs ++ q.waits with
  | w :: _ => some w
  | [] => none
theorem f178_ok (q : Queue) : FnOK C0 178 [.agg q.c] [] (.tup [.agg ((headQ q).getD w0).c, B (headQ q).isSome]) [] := by
  refine FnOK.intro (fn := Tryz.f178) (c := Tryz.f178.body.getD .skip) (by kernel_rfl) (by kernel_rfl) (by kernel_rfl) (by kernel_rfl) (by simp [Tryz.f178]) (by simp [names]) ?_
  unfold Tryz.f178
  match hq : q.convs, hw : q.waits with
  | w :: l, _ =>
    have e : headQ q = some w := by simp [headQ, hq]
    have e1 : (0 < (l.length : Int) + 1) = True := by simp
    simp (disch := omega) only [go_sem, hq, e, e1, Option.isSome_some]
    refine ret_mk ⟨[], [], []⟩ _ (by (try simp (disch := omega) only [go_sem, resVs, resV]) <;> rfl) ⟨rfl, rfl⟩ (by simp) ?_ trivial
    simp (disch := omega) only [go_sem]
  | [], w :: l =>
    have e : headQ q = some w := by simp [headQ, hq, hw]
    have e1 : (0 < (l.length : Int) + 1) = True := by simp
    simp (disch := omega) only [go_sem, hq, hw, e, e1, Option.isSome_some]
    refine ret_mk ⟨[], [], []⟩ _ (by (try simp (disch := omega) only [go_sem, resVs, resV]) <;> rfl) ⟨rfl, rfl⟩ (by simp) ?_ trivial
    simp (disch := omega) only [go_sem]
  | [], [] =>
    have e : headQ q = none := by simp [headQ, hq, hw]
    simp (disch := omega) only [go_sem, hq, hw, e, Option.isSome_none, w0]
    refine ret_mk ⟨[], [], []⟩ _ (by (try simp (disch := omega) only [go_sem, resVs, resV]) <;> rfl) ⟨rfl, rfl⟩ (by simp) ?_ trivial
    simp (disch := omega) only [go_sem]
theorem f162_ok (q : Queue) (h1 : q.holds.length ≤ 1000000) (h2 : q.convs.length ≤ 1000000) (h3 : q.waits.length ≤ 1000000) : FnOK C0 162 [.agg q.c] [] (.agg q.c) [] := by
  refine FnOK.intro (fn := Tryz.f162) (c := Tryz.f162.body.getD .skip) (by kernel_rfl) (by kernel_rfl) (by kernel_rfl) (by kernel_rfl) (by simp [Tryz.f162]) (by simp [names]) ?_
  unfold Tryz.f162
  simp (disch := omega) only [go_sem]
  refine ret_mk ⟨[], [], [320, 576, 832]⟩ _ (by (try simp (disch := omega) only [go_sem, resVs, resV]) <;> rfl) ⟨rfl, rfl⟩ (by simp) ?_ trivial
  simp (disch := omega) only [go_sem, holdsV]
end Go.Rd
/- What the lengths of slices that come in are at most. -/
namespace Go.Abs
mutual
def lens : AV → Prop
  | .sl _ _ es => es.length ≤ 9223372036854775807
  | .agg cs => lensL cs
  | _ => True
def lensL : List AV → Prop
  | [] => True
  | c :: cs => lens c ∧ lensL cs
end
mutual
theorem VR.lens {g : Gh} {w : World} : ∀ (x : AV) (u : Value), VR g w x u → lens x
  | .sl (.own r lo) n es, u, h => by
    simp only [VR, OwnSl] at h
    simp only [Abs.lens]
    rcases h.2 with ⟨_, h2⟩ | ⟨_, h2, _⟩ | ⟨cap, cur, T, _, h2, h3, _⟩
    · subst h2; simp
    · subst h2; simp
    · simp only [maxLen] at h3; omega
  | .sl .no n es, u, h => by
    simp only [VR, PR] at h
    simp only [Abs.lens]
    obtain ⟨_, a, cap, _, h2, h3, _⟩ := h
    simp only [maxLen] at h3; omega
  | .sl .full n es, u, h => by
    simp only [VR, PR] at h
    simp only [Abs.lens]
    obtain ⟨_, a, cap, _, h2, h3, _⟩ := h
    simp only [maxLen] at h3; omega
  | .agg cs, u, h => by
    simp only [VR] at h
    simp only [Abs.lens]
    obtain ⟨us, _, h⟩ := h
    exact VRs.lens cs us.toList h
  | .undef, _, _ => by simp [Abs.lens]
  | .v _, _, _ => by simp [Abs.lens]
  | .tup _, _, _ => by simp [Abs.lens]
  | .ptr _ _, _, _ => by simp [Abs.lens]
  | .ep _ _ _ _, _, _ => by simp [Abs.lens]
  | .fn _ _, _, _ => by simp [Abs.lens]
  | .mv _ _, _, _ => by simp [Abs.lens]
  | .mp _, _, _ => by simp [Abs.lens]
  | .ifc _ _, _, _ => by simp [Abs.lens]
  | .hnd _ _ _ _ _ _ _, _, _ => by simp [Abs.lens]
  | .mem _ _, _, _ => by simp [Abs.lens]
theorem VRs.lens {g : Gh} {w : World} : ∀ (xs : List AV) (us : List Value), VRs g w xs us → lensL xs
  | [], _, _ => by simp [Abs.lensL]
  | c :: cs, [], h => by simp [VRs] at h
  | c :: cs, u :: us, h => by
    simp only [VRs] at h
    simp only [Abs.lensL]
    exact ⟨VR.lens c u h.1, VRs.lens cs us h.2⟩
end
/-- a contract may count on the lengths of what comes in -/
theorem FnOK.assume {C : Ctx} {f : Nat} {fn : Func} {c : Code} {xs : List AV} {o o' : List (Nat × List AV)} {y : AV} (hf : C.P.funcs[f]? = some fn) (hname : (fn.name == "runtime.NumGoroutine") = false) (hb : fn.body = some c)
    (h : lensL xs → FnOK C f xs o y o') : FnOK C f xs o y o' :=
  ⟨⟨fn, c, hf, hname, hb⟩, fun g w us hg hv ho => (h (VRs.lens xs us hv)).2 g w us hg hv ho⟩
end Go.Abs
open Go Go.Abs Go.Proofs
set_option maxRecDepth 100000
namespace Go.Rd
theorem f181_ok (a : Atom) : FnOK C0 181 [.agg a.c] [] (B (nameOK a.name && (lockR.fits a.amt || poolR.fits a.amt))) [] := by
  refine FnOK.intro (fn := Tryz.f181) (c := Tryz.f181.body.getD .skip) (by kernel_rfl) (by kernel_rfl) (by kernel_rfl) (by kernel_rfl) (by simp [Tryz.f181]) (by simp [names]) ?_
  unfold Tryz.f181
  simp (disch := omega) only [go_sem]
  repeat' (first
    | (with_reducible refine And.intro (fun h => ?_) (fun h => ?_))
    | ((with_reducible show callB _ _ 220 _ _ _); refine call_pure (f220_ok a.name) ?_ rfl ?_; (focus (simp (disch := omega) only [go_sem]; done)); try simp (disch := omega) only [go_sem])
    | ((with_reducible show callB _ _ 221 _ _ _); refine call_pure (f221_ok ⟨[], 1, 1, 0⟩ a.amt) ?_ rfl ?_; (focus (simp (disch := omega) only [go_sem]; done)); try simp (disch := omega) only [go_sem])
    | ((with_reducible show callB _ _ 221 _ _ _); refine call_pure (f221_ok ⟨[], 2, 8, 0⟩ a.amt) ?_ rfl ?_; (focus (simp (disch := omega) only [go_sem]; done)); try simp (disch := omega) only [go_sem]))
  all_goals (refine ret_mk ⟨[], [], []⟩ _ (by (try simp (disch := omega) only [go_sem, resVs, resV]) <;> rfl) ⟨rfl, rfl⟩ (by simp) ?_ trivial)
  all_goals (try simp (disch := omega) only [go_sem])
  all_goals (refine .eq ?_)
  all_goals (first | (simp_all [lockR, poolR] <;> omega) | (refine Bool.eq_iff_iff.2 ?_; simp_all [lockR, poolR] <;> omega))
mutual
def meas : Expr → Int → Int → Int × Int
  | .mk _ _ kids, lv, n => if 4 < lv ∨ 24 < n + 1 then (0, n + 1) else measL kids lv (n + 1) 0
def measL : List Expr → Int → Int → Int → Int × Int
  | [], _, n, d => (d + 1, n)
  | e :: l, lv, n, d => if (meas e (lv + 1) n).1 = 0 then (0, (meas e (lv + 1) n).2) else measL l lv (meas e (lv + 1) n).2 (max d (meas e (lv + 1) n).1)
end
theorem meas_def (e : Expr) (lv n : Int) : meas e lv n = if 4 < lv ∨ 24 < n + 1 then (0, n + 1) else measL e.kids lv (n + 1) 0 := by
  cases e; simp [meas, Expr.kids]
theorem kid_lt {e k : Expr} (h : k ∈ e.kids) : SizeOf.sizeOf k < SizeOf.sizeOf e := by
  cases e with
  | mk a b l =>
    have h : k ∈ l := h
    have := List.sizeOf_lt_of_mem h
    simp
    omega
def bd (lv : Int) (x : Int × Int) : Prop := 0 ≤ x.1 ∧ x.1 ≤ 6 - lv ∧ 0 ≤ x.2 ∧ x.2 ≤ 25 ∧ (x.1 ≠ 0 → x.2 ≤ 24)
theorem measL_bd (lv : Int) (h1 : 1 ≤ lv) (h4 : lv ≤ 4) : ∀ (l : List Expr) (n d : Int), (∀ e ∈ l, ∀ n : Int, 0 ≤ n → n ≤ 24 → bd (lv + 1) (meas e (lv + 1) n)) → 0 ≤ n → n ≤ 24 → 0 ≤ d → d ≤ 5 - lv → bd lv (measL l lv n d)
  | [], n, d, _, hn, hn2, hd, hd2 => by
    simp only [measL, bd]
    omega
  | e :: l, n, d, hk, hn, hn2, hd, hd2 => by
    obtain ⟨b1, b2, b3, b4, b5⟩ := hk e (by simp) n hn hn2
    simp only [measL]
    split
    · simp only [bd]; omega
    · rename_i h0
      have := b5 h0
      exact measL_bd lv h1 h4 l _ _ (fun e' he => hk e' (by simp [he])) b3 this (by omega) (by omega)
/-- bounds of the measure -/
theorem meas_bd : ∀ (N : Nat) (e : Expr), SizeOf.sizeOf e < N → ∀ lv n : Int, 1 ≤ lv → lv ≤ 5 → 0 ≤ n → n ≤ 24 → bd lv (meas e lv n)
  | 0, _, h, _, _, _, _, _, _ => by omega
  | N + 1, e, h, lv, n, h1, h5, h2, h3 => by
    rw [meas_def]
    split
    · simp only [bd]; omega
    · rename_i hc
      exact measL_bd lv h1 (by omega) _ _ _ (fun e' he n' hn hn2 => meas_bd N e' (by have := kid_lt he; omega) _ _ (by omega) (by omega) hn hn2) (by omega) (by omega) (by omega) (by omega)
theorem f180_ok : ∀ (N : Nat) (e : Expr), SizeOf.sizeOf e < N → ∀ lv n : Int, 1 ≤ lv → lv ≤ 5 → 0 ≤ n → n ≤ 24 →
    FnOK C0 180 [.agg e.c, I lv, .ptr 63 0] [(63, [I n])] (I (meas e lv n).1) [(63, [I (meas e lv n).2])]
  | 0, _, h, _, _, _, _, _, _ => by omega
  | N + 1, e, h, lv, n, h1, h5, h2, h3 => by
    refine FnOK.assume (fn := Tryz.f180) (c := Tryz.f180.body.getD .skip) (by kernel_rfl) (by kernel_rfl) (by kernel_rfl) fun hlen => ?_
    simp only [lensL, lens, Expr.c_def, List.length_map, and_true, true_and] at hlen
    refine FnOK.intro (fn := Tryz.f180) (c := Tryz.f180.body.getD .skip) (by kernel_rfl) (by kernel_rfl) (by kernel_rfl) (by kernel_rfl) (by simp [Tryz.f180]) (by simp [names]) ?_
    unfold Tryz.f180
    by_cases hc : 4 < lv ∨ 24 < n + 1
    · have em : meas e lv n = (0, n + 1) := by rw [meas_def, if_pos hc]
      simp (disch := omega) only [go_sem, em]
      repeat' (with_reducible refine And.intro (fun h => ?_) (fun h => ?_))
      all_goals (try (exfalso; simp_all; omega))
      all_goals (refine ret_mk ⟨[], [(63, 63)], []⟩ _ rfl ⟨rfl, rfl⟩ (by simp [lk]) ?_ ?_)
      all_goals simp (disch := omega) only [go_sem]
    have em : meas e lv n = measL e.kids lv (n + 1) 0 := by rw [meas_def, if_neg hc]
    have hc1 : (4 < lv) = False := by simp; omega
    have hc2 : (24 < n + 1) = False := by simp; omega
    simp (disch := omega) only [go_sem, em, hc1, hc2, decide_false]
    refine loop_intro (α := Nat × Int × Int) (fun q => ⟨[(27, I q.1), (26, I e.kids.length), (25, exprsV e.kids), (7, I q.2.2), (1, I lv), (2, .ptr 63 0)], [(63, [I q.2.1])]⟩)
      (fun q => q.1 ≤ e.kids.length ∧ 0 ≤ q.2.1 ∧ q.2.1 ≤ 24 ∧ 0 ≤ q.2.2 ∧ q.2.2 ≤ 5 - lv ∧ measL (e.kids.drop q.1) lv q.2.1 q.2.2 = measL e.kids lv (n + 1) 0) (fun q => e.kids.length - q.1) (0, n + 1, 0) ⟨by simp, by simp; omega, by simp; omega, by simp, by simp; omega, by simp⟩ ?_ ?_
    · refine Imp.weak ?_ ?_
      · simp (disch := omega) only [go_sem]
      · simp (disch := omega) only [go_sem]
    rintro ⟨i, m, d⟩ ⟨hi, hm0, hm, hd0, hd, hr⟩ J hJ
    replace hi : i ≤ e.kids.length := hi
    replace hm0 : 0 ≤ m := hm0
    replace hm : m ≤ 24 := hm
    replace hd0 : 0 ≤ d := hd0
    replace hd : d ≤ 5 - lv := hd
    replace hr : measL (e.kids.drop i) lv m d = measL e.kids lv (n + 1) 0 := hr
    simp (disch := omega) only [go_sem]
    refine And.intro (fun hlt => ?_) (fun hge => ?_)
    · have hlt' : i < e.kids.length := by simp at hlt; omega
      have hb : e.kids[i]? = some e.kids[i] := List.getElem?_eq_getElem hlt'
      have hsz := kid_lt (List.getElem_mem hlt')
      have hdr : e.kids.drop i = e.kids[i] :: e.kids.drop (i + 1) := List.drop_eq_getElem_cons hlt'
      generalize e.kids[i] = b at hb hsz hdr
      rw [hdr] at hr
      simp only [measL] at hr
      simp (disch := omega) only [go_sem, List.getElem?_map, hb]
      refine callB_mk ⟨⟨[], [(63, 63)], []⟩, [], []⟩ (f180_ok N b (by omega) (lv + 1) m (by omega) (by omega) hm0 hm) (by simp (disch := omega) only [go_sem]) rfl (by simp (disch := omega) only [go_sem]) (.inl rfl) ?_
      obtain ⟨b1, b2, b3, b4, b5⟩ := meas_bd N b (by omega) (lv + 1) m (by omega) (by omega) hm0 hm
      generalize meas b (lv + 1) m = x at hr b1 b2 b3 b4 b5
      by_cases h0 : x.1 = 0
      · have e0 : (x.1 == 0) = true := by simp [h0]
        rw [if_pos h0] at hr
        simp (disch := omega) only [go_sem, e0]
        refine ret_mk ⟨[], [(63, 63)], []⟩ _ rfl ⟨rfl, rfl⟩ (by simp [lk]) ?_ ?_
        · simp (disch := omega) only [go_sem, ← hr]
        · simp (disch := omega) only [go_sem, ← hr]
      · have e0 : (x.1 == 0) = false := by simp [h0]
        rw [if_neg h0] at hr
        have hx := b5 h0
        simp (disch := omega) only [go_sem, e0]
        refine hJ _ (i + 1, x.2, max d x.1) ⟨by simp; omega, b3, hx, by simp; omega, by simp; omega, hr⟩ (by simp; omega) (Imp.weak ?_ (by simp (disch := omega) only [go_sem]))
        simp (disch := omega) only [go_sem]
        exact .int (by rw [Int.max_def]; split <;> split <;> omega)
    · have hil : i = e.kids.length := by simp at hge; omega
      subst hil
      rw [List.drop_length] at hr
      simp only [measL] at hr
      simp (disch := omega) only [go_sem, ← hr]
      refine ret_mk ⟨[], [(63, 63)], []⟩ _ rfl ⟨rfl, rfl⟩ (by simp [lk]) ?_ ?_
      · simp (disch := omega) only [go_sem]
      · simp (disch := omega) only [go_sem]
end Go.Rd
open Go Go.Abs Go.Proofs
set_option maxRecDepth 100000
namespace Go.Rd
def depth (e : Expr) : Int := (meas e 1 0).1
theorem f113_ok (e : Expr) : FnOK C0 113 [.agg e.c] [] (I (depth e)) [] := by
  refine FnOK.intro (fn := Tryz.f113) (c := Tryz.f113.body.getD .skip) (by kernel_rfl) (by kernel_rfl) (by kernel_rfl) (by kernel_rfl) (by simp [Tryz.f113]) (by simp [names]) ?_
  unfold Tryz.f113
  simp (disch := omega) only [go_sem]
  refine callB_mk ⟨⟨[], [(192, 63)], []⟩, [], []⟩ (f180_ok _ e (Nat.lt_succ_self _) 1 0 (by omega) (by omega) (by omega) (by omega)) (by simp (disch := omega) only [go_sem]) rfl (by simp (disch := omega) only [go_sem]) (.inl rfl) ?_
  simp (disch := omega) only [go_sem]
  refine ret_mk ⟨[], [], []⟩ _ (by (try simp (disch := omega) only [go_sem, resVs, resV]) <;> rfl) ⟨rfl, rfl⟩ (by simp) ?_ trivial
  simp (disch := omega) only [go_sem]
  exact .eq rfl
@[go_sem] theorem atomEq (p q : Atom) : (p.name == q.name && decide (p.amt = q.amt)) = decide (p = q) := by
  cases p; cases q
  refine Bool.eq_iff_iff.2 ?_
  simp
def hit (a b : Atom) : Bool := decide (a = b) || a.name == b.name
def noteE (l : List Atom) (a : Atom) : Int × List Atom := match l.find? (hit a) with
  | some b => (if a = b then 0 else 13, l)
  | none => if l.length = 8 then (4, l) else (0, l ++ [a])
@[reducible] def atomsO (r : Nat) (l : List Atom) : AV := .sl (.own r 0) 3 (l.map Atom.c)
theorem f182_ok (l : List Atom) (a : Atom) (h8 : l.length ≤ 8) : FnOK C0 182 [.ptr 63 0, .agg a.c] [(63, [atomsO 0 l])] (I (noteE l a).1) [(63, [atomsO 1 (noteE l a).2])] := by
  refine FnOK.intro (fn := Tryz.f182) (c := Tryz.f182.body.getD .skip) (by kernel_rfl) (by kernel_rfl) (by kernel_rfl) (by kernel_rfl) (by simp [Tryz.f182]) (by simp [names]) ?_
  unfold Tryz.f182
  simp (disch := omega) only [go_sem]
  refine loop_intro (α := Nat) (fun i => ⟨[(11, I i), (10, I l.length), (9, atomsO 0 l), (0, .ptr 63 0), (3, .ptr 192 0)], [(63, [atomsO 0 l]), (192, a.c)]⟩) (fun i => i ≤ (l).length ∧ (l.take i).find? (hit a) = none) (fun i => (l).length - i) 0 ⟨by omega, rfl⟩ ?_ ?_
  · refine Imp.weak ?_ ?_
    all_goals (try simp (disch := omega) only [go_sem])
    all_goals (try (repeat' (with_reducible apply And.intro)))
    all_goals (first | exact .nilOwn (by omega) | exact .nilNo (by omega) | exact .sl (by simp []) | exact .int (by simp []) | exact .eq (by simp []))
  rintro i ⟨hi, hP⟩ J hJ
  simp (disch := omega) only [go_sem]
  refine And.intro (fun hlt => ?_) (fun hge => ?_)
  rotate_left
  have hil : i = (l).length := by simp at hge; omega
  rotate_left
  obtain ⟨b, hb⟩ : ∃ b, (l)[i]? = some b := ⟨_, List.getElem?_eq_getElem (by simp at hlt; omega)⟩
  have hbm := List.mem_of_getElem? hb
  simp (disch := omega) only [go_sem, List.getElem?_map, hb]
  · refine And.intro (fun h => ?_) (fun h => ?_)
    · have e : noteE l a = (0, l) := by
        unfold noteE
        rw [find_at hP hb (by simp at h; simp [hit, h])]
        simp at h; simp [h]
      simp (disch := omega) only [go_sem, e]
      refine ret_mk ⟨[(0, 1)], [(63, 63)], []⟩ _ rfl ⟨rfl, rfl⟩ (by simp [lk]) ?_ ?_
      · simp (disch := omega) only [go_sem]
      · simp (disch := omega) only [go_sem]
    refine And.intro (fun h' => ?_) (fun h' => ?_)
    · have e : noteE l a = (13, l) := by
        unfold noteE
        rw [find_at hP hb (by simp at h'; simp [hit, h'])]
        simp at h; simp [h]
      simp (disch := omega) only [go_sem, e]
      refine ret_mk ⟨[(0, 1)], [(63, 63)], []⟩ _ rfl ⟨rfl, rfl⟩ (by simp [lk]) ?_ ?_
      · simp (disch := omega) only [go_sem]
      · simp (disch := omega) only [go_sem]
    · refine hJ _ (i + 1) ⟨by simp at hlt; omega, (by rw [find_take hP hb]; simp at h h'; simp [hit, h, h'])⟩ (by simp at hlt; omega) (Imp.weak (by simp (disch := omega) only [go_sem]) (by simp (disch := omega) only [go_sem]))
  · subst hil
    rw [List.take_length] at hP
    by_cases h9 : l.length = 8
    · have e : noteE l a = (4, l) := by unfold noteE; rw [hP]; simp [h9]
      have e9 : ((l.length : Int) == 8) = true := by simp [h9]; 
      simp (disch := omega) only [go_sem, e, e9]
      refine ret_mk ⟨[(0, 1)], [(63, 63)], []⟩ _ rfl ⟨rfl, rfl⟩ (by simp [lk]) ?_ ?_
      · simp (disch := omega) only [go_sem]
      · simp (disch := omega) only [go_sem]
    · have e : noteE l a = (0, l ++ [a]) := by unfold noteE; rw [hP]; simp [h9]
      have e9 : ((l.length : Int) == 8) = false := by simp; omega
      simp (disch := omega) only [go_sem, e, e9]
      refine draw_all (let o0 : OT := .done; let o1 : OT := .pick [(8, o0)]; let o2 : OT := .pick [(7, o1)]; let o3 : OT := .pick [(6, o2)]; let o4 : OT := .pick [(5, o3)]; let o5 : OT := .pick [(4, o4)]; let o6 : OT := .pick [(3, o3)]; let o7 : OT := .pick [(3, o4), (5, o6)]; let o8 : OT := .pick [(3, o5), (4, o7)]; let o9 : OT := .pick [(2, o6)]; let o10 : OT := .pick [(2, o7), (5, o9)]; let o11 : OT := .pick [(2, o8), (4, o10)]; let o12 : OT := .pick [(1, o9)]; let o13 : OT := .pick [(1, o10), (5, o12)]; let o14 : OT := .pick [(1, o11), (4, o13)]; let o15 : OT := .pick [(0, o2)]; let o16 : OT := .pick [(0, o3), (6, o15)]; let o17 : OT := .pick [(0, o4), (5, o16)]; let o18 : OT := .pick [(0, o5), (4, o17)]; let o19 : OT := .pick [(0, o6), (3, o16)]; let o20 : OT := .pick [(0, o7), (3, o17), (5, o19)]; let o21 : OT := .pick [(0, o8), (3, o18), (4, o20)]; let o22 : OT := .pick [(0, o9), (2, o19)]; let o23 : OT := .pick [(0, o10), (2, o20), (5, o22)]; let o24 : OT := .pick [(0, o11), (2, o21), (4, o23)]; let o25 : OT := .pick [(0, o12), (1, o22)]; let o26 : OT := .pick [(0, o13), (1, o23), (5, o25)]; let o27 : OT := .pick [(0, o14), (1, o24), (4, o26)]; o27) fol (by kernel_rfl) ?_
      simp (disch := omega) only [go_sem]
      repeat' (with_reducible refine And.intro ?_ ?_)
      all_goals (refine ret_mk ⟨[(2240, 1)], [(63, 63)], []⟩ _ rfl ⟨rfl, rfl⟩ (by simp [lk]) ?_ ?_)
      all_goals (try simp (disch := omega) only [go_sem])
      all_goals exact .sl (by simp [Atom.c])
end Go.Rd
open Go Go.Abs Go.Proofs
set_option maxRecDepth 100000
namespace Go.Rd
theorem note_len {l : List Atom} {a : Atom} (h : l.length ≤ 8) : (noteE l a).2.length ≤ 8 := by
  unfold noteE
  split
  · exact h
  · split
    · exact h
    · simp; omega
def atomOK (a : Atom) : Bool := nameOK a.name && (lockR.fits a.amt || poolR.fits a.amt)
def a0 : Atom := ⟨[], ⟨0, 0⟩⟩
theorem atomEq' (p : Atom) : (p.name == [] && (p.amt.mode == 0 && p.amt.units == 0)) = decide (p = a0) := by
  cases p with
  | mk n a =>
    cases a
    refine Bool.eq_iff_iff.2 ?_
    simp [a0]
mutual
def prop : Expr → List Atom → Bool × List Atom
  | .mk k a kids, l => if kids.length = 0 then (if k = 0 ∧ atomOK a = true then ((noteE l a).1 == 0, (noteE l a).2) else (false, l))
    else if k < 1 ∨ (kids.length : Int) < k ∨ a ≠ a0 then (false, l) else propL kids l
def propL : List Expr → List Atom → Bool × List Atom
  | [], l => (true, l)
  | e :: es, l => if (prop e l).1 = true then propL es (prop e l).2 else (false, (prop e l).2)
end
theorem prop_def (e : Expr) (l : List Atom) : prop e l = if e.kids.length = 0 then (if e.k = 0 ∧ atomOK e.atom = true then ((noteE l e.atom).1 == 0, (noteE l e.atom).2) else (false, l))
    else if e.k < 1 ∨ (e.kids.length : Int) < e.k ∨ e.atom ≠ a0 then (false, l) else propL e.kids l := by
  cases e; simp only [prop]; rfl
theorem propL_bd : ∀ (es : List Expr) (l : List Atom), (∀ e ∈ es, ∀ l : List Atom, l.length ≤ 8 → (prop e l).2.length ≤ 8) → l.length ≤ 8 → (propL es l).2.length ≤ 8
  | [], l, _, h => by simpa [propL] using h
  | e :: es, l, hk, h => by
    have := hk e (by simp) l h
    simp only [propL]
    split
    · exact propL_bd es _ (fun e' he => hk e' (by simp [he])) this
    · exact this
theorem prop_bd : ∀ (N : Nat) (e : Expr), SizeOf.sizeOf e < N → ∀ l : List Atom, l.length ≤ 8 → (prop e l).2.length ≤ 8
  | 0, _, h, _, _ => by omega
  | N + 1, e, h, l, hl => by
    rw [prop_def]
    split
    · split
      · exact note_len hl
      · exact hl
    · split
      · exact hl
      · exact propL_bd _ _ (fun e' he l' hl' => prop_bd N e' (by have := kid_lt he; omega) l' hl') hl
theorem f114_ok : ∀ (N : Nat) (e : Expr), SizeOf.sizeOf e < N → ∀ l : List Atom, l.length ≤ 8 →
    FnOK C0 114 [.agg e.c, .ptr 63 0] [(63, [atomsO 0 l])] (B (prop e l).1) [(63, [atomsO 1 (prop e l).2])]
  | 0, _, h, _, _ => by omega
  | N + 1, e, h, l, hl => by
    refine FnOK.assume (fn := Tryz.f114) (c := Tryz.f114.body.getD .skip) (by kernel_rfl) (by kernel_rfl) (by kernel_rfl) fun hlen => ?_
    simp only [lensL, lens, Expr.c_def, List.length_map, and_true, true_and] at hlen
    refine FnOK.intro (fn := Tryz.f114) (c := Tryz.f114.body.getD .skip) (by kernel_rfl) (by kernel_rfl) (by kernel_rfl) (by kernel_rfl) (by simp [Tryz.f114]) (by simp [names]) ?_
    unfold Tryz.f114
    by_cases hk : e.kids.length = 0
    · have e1 : ((e.kids.length : Int) == 0) = true := by simp [hk]
      simp (disch := omega) only [go_sem, e1]
      by_cases h0 : e.k = 0
      · have e2 : (e.k == 0) = true := by simp [h0]
        simp (disch := omega) only [go_sem, e2]
        refine call_pure (f181_ok e.atom) (by simp (disch := omega) only [go_sem]) rfl ?_
        cases ha : atomOK e.atom
        · have ha' : (nameOK e.atom.name && (lockR.fits e.atom.amt || poolR.fits e.atom.amt)) = false := ha
          have ep : prop e l = (false, l) := by rw [prop_def, if_pos hk, if_neg (by simp [ha])]
          simp (disch := omega) only [go_sem, ha', ep]
          refine ret_mk ⟨[(0, 1)], [(63, 63)], []⟩ _ rfl ⟨rfl, rfl⟩ (by simp [lk]) ?_ ?_
          · simp (disch := omega) only [go_sem]
          · simp (disch := omega) only [go_sem]
        · have ha' : (nameOK e.atom.name && (lockR.fits e.atom.amt || poolR.fits e.atom.amt)) = true := ha
          have ep : prop e l = ((noteE l e.atom).1 == 0, (noteE l e.atom).2) := by rw [prop_def, if_pos hk, if_pos ⟨h0, ha⟩]
          simp (disch := omega) only [go_sem, ha', ep]
          refine callB_mk ⟨⟨[(0, 0)], [(63, 63)], []⟩, [(1, 1472)], []⟩ (f182_ok l e.atom hl) (by simp (disch := omega) only [go_sem]) rfl (by simp (disch := omega) only [go_sem]) (.inl rfl) ?_
          simp (disch := omega) only [go_sem]
          refine ret_mk ⟨[(1472, 1)], [(63, 63)], []⟩ _ rfl ⟨rfl, rfl⟩ (by simp [lk]) ?_ ?_
          · simp (disch := omega) only [go_sem]
          · simp (disch := omega) only [go_sem]
      · have e2 : (e.k == 0) = false := by simp [h0]
        have ep : prop e l = (false, l) := by rw [prop_def, if_pos hk, if_neg (by simp [h0])]
        simp (disch := omega) only [go_sem, e2, ep]
        refine ret_mk ⟨[(0, 1)], [(63, 63)], []⟩ _ rfl ⟨rfl, rfl⟩ (by simp [lk]) ?_ ?_
        · simp (disch := omega) only [go_sem]
        · simp (disch := omega) only [go_sem]
    have e1 : ((e.kids.length : Int) == 0) = false := by simp only [beq_eq_false_iff_ne, ne_eq]; omega
    have ez : (e.atom.name == [] && (e.atom.amt.mode == 0 && e.atom.amt.units == 0)) = decide (e.atom = a0) := atomEq' e.atom
    by_cases hbad : e.k < 1 ∨ (e.kids.length : Int) < e.k ∨ e.atom ≠ a0
    · have ep : prop e l = (false, l) := by rw [prop_def, if_neg hk, if_pos hbad]
      simp (disch := omega) only [go_sem, e1, ez, ep]
      repeat' (with_reducible refine And.intro (fun h => ?_) (fun h => ?_))
      all_goals (try (exfalso; simp_all; omega))
      all_goals (refine ret_mk ⟨[(0, 1)], [(63, 63)], []⟩ _ rfl ⟨rfl, rfl⟩ (by simp [lk]) ?_ ?_)
      all_goals simp (disch := omega) only [go_sem]
    have ep : prop e l = propL e.kids l := by rw [prop_def, if_neg hk, if_neg hbad]
    have b1 : (e.k < 1) = False := by simp; omega
    have b2 : ((e.kids.length : Int) < e.k) = False := by simp; omega
    have b3 : e.atom = a0 := by
      by_cases h : e.atom = a0
      · exact h
      · exact absurd (Or.inr (Or.inr h)) hbad
    have ez' : (e.atom.name == [] && (e.atom.amt.mode == 0 && e.atom.amt.units == 0)) = true := by rw [ez]; simp [b3]
    simp (disch := omega) only [go_sem, e1, ez', b1, b2, decide_false, ep]
    refine loop_intro (α := Nat × List Atom) (fun q => ⟨[(46, I q.1), (45, I e.kids.length), (44, exprsV e.kids), (1, .ptr 63 0)], [(63, [atomsO 3328 q.2])]⟩)
      (fun q => q.1 ≤ e.kids.length ∧ q.2.length ≤ 8 ∧ propL (e.kids.drop q.1) q.2 = propL e.kids l) (fun q => e.kids.length - q.1) (0, l) ⟨by simp, hl, by simp⟩ ?_ ?_
    · refine Imp.ren ⟨[(0, 3328)], [(63, 63)], []⟩ ⟨rfl, rfl⟩ (by simp [lk]) ?_ ?_
      · simp (disch := omega) only [go_sem]
      · simp (disch := omega) only [go_sem]
    rintro ⟨i, m⟩ ⟨hi, hm, hr⟩ J hJ
    replace hi : i ≤ e.kids.length := hi
    replace hm : m.length ≤ 8 := hm
    replace hr : propL (e.kids.drop i) m = propL e.kids l := hr
    simp (disch := omega) only [go_sem]
    refine And.intro (fun hlt => ?_) (fun hge => ?_)
    · have hlt' : i < e.kids.length := by simp at hlt; omega
      have hb : e.kids[i]? = some e.kids[i] := List.getElem?_eq_getElem hlt'
      have hsz := kid_lt (List.getElem_mem hlt')
      have hdr : e.kids.drop i = e.kids[i] :: e.kids.drop (i + 1) := List.drop_eq_getElem_cons hlt'
      generalize e.kids[i] = b at hb hsz hdr
      rw [hdr] at hr
      simp only [propL] at hr
      simp (disch := omega) only [go_sem, List.getElem?_map, hb]
      refine callB_mk ⟨⟨[(3328, 0)], [(63, 63)], []⟩, [(1, 3329)], []⟩ (f114_ok N b (by omega) m hm) (by simp (disch := omega) only [go_sem]) rfl (by simp (disch := omega) only [go_sem]) (.inl rfl) ?_
      have hx := prop_bd N b (by omega) m hm
      generalize prop b m = x at hr hx
      cases hx1 : x.1
      · rw [hx1] at hr
        simp only [Bool.false_eq_true, if_false] at hr
        simp (disch := omega) only [go_sem, Bool.not_false]
        refine ret_mk ⟨[(3329, 1)], [(63, 63)], []⟩ _ rfl ⟨rfl, rfl⟩ (by simp [lk]) ?_ ?_
        · simp (disch := omega) only [go_sem, ← hr]
        · simp (disch := omega) only [go_sem, ← hr]
      · rw [hx1] at hr
        simp only [if_true] at hr
        simp (disch := omega) only [go_sem, Bool.not_true]
        refine hJ _ (i + 1, x.2) ⟨by simp; omega, hx, hr⟩ (by simp; omega) (Imp.ren ⟨[(3329, 3328)], [(63, 63)], []⟩ ⟨rfl, rfl⟩ (by simp [lk]) ?_ ?_)
        · simp (disch := omega) only [go_sem]
        · simp (disch := omega) only [go_sem]
    · have hil : i = e.kids.length := by simp at hge; omega
      subst hil
      rw [List.drop_length] at hr
      simp only [propL] at hr
      simp (disch := omega) only [go_sem, ← hr]
      refine ret_mk ⟨[(3328, 1)], [(63, 63)], []⟩ _ rfl ⟨rfl, rfl⟩ (by simp [lk]) ?_ ?_
      · simp (disch := omega) only [go_sem]
      · simp (disch := omega) only [go_sem]
def exprOK (e : Expr) : Bool := !(depth e == 0) && (prop e []).1
theorem f73_ok (e : Expr) : FnOK C0 73 [.agg e.c] [] (B (exprOK e)) [] := by
  refine FnOK.intro (fn := Tryz.f73) (c := Tryz.f73.body.getD .skip) (by kernel_rfl) (by kernel_rfl) (by kernel_rfl) (by kernel_rfl) (by simp [Tryz.f73]) (by simp [names]) ?_
  unfold Tryz.f73
  simp (disch := omega) only [go_sem]
  refine call_pure (f113_ok e) (by simp (disch := omega) only [go_sem]) rfl ?_
  simp (disch := omega) only [go_sem]
  refine And.intro (fun h => ?_) (fun h => ?_)
  · refine callB_mk ⟨⟨[], [(192, 63)], []⟩, [(1, 576)], []⟩ (f114_ok _ e (Nat.lt_succ_self _) [] (by simp)) (by simp (disch := omega) only [go_sem]) rfl (by simp (disch := omega) only [go_sem, List.map_nil]; exact .nilOwn (by omega)) (.inl rfl) ?_
    simp (disch := omega) only [go_sem]
    refine ret_mk ⟨[], [], []⟩ _ (by (try simp (disch := omega) only [go_sem, resVs, resV]) <;> rfl) ⟨rfl, rfl⟩ (by simp) ?_ trivial
    simp (disch := omega) only [go_sem]
    exact .eq (by simp at h; simp [exprOK, h])
  · refine ret_mk ⟨[], [], []⟩ _ (by (try simp (disch := omega) only [go_sem, resVs, resV]) <;> rfl) ⟨rfl, rfl⟩ (by simp) ?_ trivial
    simp (disch := omega) only [go_sem]
    exact .eq (by simp at h; simp [exprOK, h])
end Go.Rd
