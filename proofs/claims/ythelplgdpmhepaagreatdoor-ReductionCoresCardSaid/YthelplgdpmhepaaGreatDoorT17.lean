/- part 17 of the proof -/
import Derived.Test.YthelplgdpmhepaaGreatDoorProg
import Derived.Shelf.SlSortCmp.WholeK
import Derived.Shelf.SlSortCmp.NoneTotal
import Derived.Test.YthelplgdpmhepaaGreatDoorT14
import Derived.Test.YthelplgdpmhepaaGreatDoorT16
set_option linter.all false
open Go Go.Abs Go.Proofs
set_option maxRecDepth 100000
namespace Go.Rd
def roomH (r : Res) (l : List Hold) (p : Proc) (a : Amt) : Bool := holdsOK r l && p.ok && r.fits a && holdsOK r (setH l p a)
theorem f179_ok (r : Res) (l : List Hold) (p : Proc) (a : Amt) (hl : l.length ≤ 1000000) : FnOK C0 179 [.agg r.c, holdsV l, .agg p.c, .agg a.c] [] (B (roomH r l p a)) [] := by
  refine FnOK.intro (fn := Tryz.f179) (c := Tryz.f179.body.getD .skip) (by kernel_rfl) (by kernel_rfl) (by kernel_rfl) (by kernel_rfl) (by simp [Tryz.f179]) (by simp [names]) ?_
  unfold Tryz.f179
  simp (disch := omega) only [go_sem]
  refine draw_mk 11 [([], [4]), ([], [1]), ([], [6]), ([], [7]), ([0, 1, 2, 3], [9, 10, 11, 12]), ([0, 1, 2, 3, 4], [13]), ([0, 1, 2, 3, 4, 5], [4, 14]), ([0, 1, 2, 3, 4, 5], [1, 14]), ([0, 1, 2, 3, 4, 5], [6, 14]), ([0, 1, 2, 3, 4, 5], [7, 14]), ([0, 1, 2, 3, 4, 5, 7, 8, 9], [16, 17, 18, 14]), ([0, 1, 2, 3, 4, 5, 6, 7, 8, 9, 10], []), ([0, 1, 2, 3, 4, 5, 6, 7, 8, 9, 10, 11], []), ([0, 1, 2, 3, 4, 5, 6, 7, 8, 9, 10, 11, 12], [])] fol (by kernel_rfl) ?_
  simp (disch := omega) only [go_sem]
  refine freeCall_mk ⟨⟨[], [], []⟩, [], []⟩ (f219_ok r l p a) (by simp (disch := omega) only [go_sem]) rfl rfl trivial (.inl rfl) ?_
  cases hc : (holdsOK r l && p.ok && r.fits a)
  · simp (disch := omega) only [go_sem]
    refine ret_mk ⟨[], [], []⟩ _ (by (try simp (disch := omega) only [go_sem, resVs, resV]) <;> rfl) ⟨rfl, rfl⟩ (by simp) ?_ trivial
    simp (disch := omega) only [go_sem]
    exact wb (by simp [roomH, hc])
  · simp (disch := omega) only [go_sem]
    refine freeCall_mk ⟨⟨[], [], []⟩, [], []⟩ (f165_ok l p a hl) (by simp (disch := omega) only [go_sem]) rfl rfl trivial (.inl rfl) ?_
    simp (disch := omega) only [go_sem]
    refine call_pure (f216_ok r (setH l p a)) (by simp (disch := omega) only [go_sem]) rfl ?_
    simp (disch := omega) only [go_sem]
    refine ret_mk ⟨[], [], []⟩ _ (by (try simp (disch := omega) only [go_sem, resVs, resV]) <;> rfl) ⟨rfl, rfl⟩ (by simp) ?_ trivial
    simp (disch := omega) only [go_sem]
    exact wb (by simp only [roomH, hc]; rfl)
@[reducible] def waitsO (r : Nat) (l : List Wait) : AV := .sl (.own r 0) 7 (l.map Wait.c)
theorem f268_ok (n : Nat) (hn : n ≤ 1000000) : FnOK C0 268 [.v (.slice none 0 0), I n] [] (waitsO 0 []) [] := by
  refine FnOK.intro (fn := Tryz.f268) (c := Tryz.f268.body.getD .skip) (by kernel_rfl) (by kernel_rfl) (by kernel_rfl) (by kernel_rfl) (by simp [Tryz.f268]) (by simp [names]) ?_
  unfold Tryz.f268
  have e1 : ((n : Int) < 0) = False := by simp
  simp (disch := omega) only [go_sem, e1, Int.sub_zero, decide_false]
  refine And.intro (fun h => ?_) (fun h => ?_)
  · refine ret_mk ⟨[(1408, 0)], [], []⟩ _ rfl ⟨rfl, rfl⟩ (by simp [lk]) ?_ trivial
    simp (disch := omega) only [go_sem, waitsO]
  · refine ret_mk ⟨[], [], []⟩ _ rfl ⟨rfl, rfl⟩ (by simp [lk]) ?_ trivial
    simp (disch := omega) only [go_sem, waitsO]
@[reducible] def waitsV2 (a b : List Wait) : AV := .sl .no 1 [[waitsV a], [waitsV b]]
theorem f248_ok (a b : List Wait) (h : a.length + b.length ≤ 1000000) : FnOK C0 248 [waitsV2 a b] [] (waitsV (a ++ b)) [] := by
  refine FnOK.intro (fn := Tryz.f248) (c := Tryz.f248.body.getD .skip) (by kernel_rfl) (by kernel_rfl) (by kernel_rfl) (by kernel_rfl) (by simp [Tryz.f248]) (by simp [names]) ?_
  unfold Tryz.f248
  have z0 : (decide ((0 : Int) < 2)) = true := by decide
  have z1 : (decide ((1 : Int) < 2)) = true := by decide
  have z2 : (decide ((2 : Int) < 2)) = false := by decide
  have l1 : ((a.length : Int) < 0) = False := by simp
  have l2 : ((a.length : Int) + b.length < 0) = False := eq_false (by omega)
  simp (disch := omega) only [go_sem]
  refine loop_intro (α := Nat) (fun i => ⟨[(11, I i), (10, I 2), (9, waitsV2 a b), (3, I (if i = 0 then 0 else if i = 1 then a.length else a.length + b.length)), (0, waitsV2 a b)], []⟩) (fun i => i ≤ 2) (fun i => 2 - i) 0 (by simp) ?_ ?_
  · exact Imp.weak (by simp (disch := omega) only [go_sem]) (by simp (disch := omega) only [go_sem])
  rintro i hi J hJ
  obtain rfl | rfl | rfl : i = 0 ∨ i = 1 ∨ i = 2 := by omega
  · simp (disch := omega) only [go_sem, z0, Int.zero_add, l1, decide_false]
    exact hJ _ 1 (by omega) (by omega) (Imp.weak (by simp (disch := omega) only [go_sem]) (by simp (disch := omega) only [go_sem]))
  · simp (disch := omega) only [go_sem, z1, l2, decide_false, Nat.one_ne_zero]
    exact hJ _ 2 (by omega) (by omega) (Imp.weak (by simp (disch := omega) only [go_sem]) (by simp (disch := omega) only [go_sem]))
  clear hJ
  simp (disch := omega) only [go_sem, z2]
  refine callB_mk ⟨⟨[], [], []⟩, [(0, 1536)], []⟩ (f268_ok (a.length + b.length) h) (by simp (disch := omega) only [go_sem]) rfl trivial (.inl rfl) ?_
  simp (disch := omega) only [go_sem]
  refine loop_intro (α := Nat) (fun i => ⟨[(27, I i), (26, I 2), (25, waitsV2 a b), (6, .sl (.own 2112 0) 7 ((if i = 0 then [] else if i = 1 then a else a ++ b).map Wait.c)), (0, waitsV2 a b)], []⟩) (fun i => i ≤ 2) (fun i => 2 - i) 0 (by simp) ?_ ?_
  · refine Imp.ren ⟨[(1536, 2112)], [], []⟩ ⟨rfl, rfl⟩ (by simp [lk]) ?_ ?_
    · simp (disch := omega) only [go_sem]
    · simp (disch := omega) only [go_sem]
  rintro i hi J hJ
  obtain rfl | rfl | rfl : i = 0 ∨ i = 1 ∨ i = 2 := by omega
  · simp (disch := omega) only [go_sem, z0]
    exact hJ _ 1 (by omega) (by omega) (Imp.weak (by simp (disch := omega) only [go_sem, Nat.one_ne_zero]) (by simp (disch := omega) only [go_sem]))
  · simp (disch := omega) only [go_sem, z1, Nat.one_ne_zero]
    exact hJ _ 2 (by omega) (by omega) (Imp.weak (by simp (disch := omega) only [go_sem]; exact .sl (by simp)) (by simp (disch := omega) only [go_sem]))
  · simp (disch := omega) only [go_sem, z2]
    refine ret_mk ⟨[], [], [2112]⟩ _ (by (try simp (disch := omega) only [go_sem, resVs, resV]) <;> rfl) ⟨rfl, rfl⟩ (by simp) ?_ trivial
    simp (disch := omega) only [go_sem]
theorem f208_ok (q : Queue) (h : q.convs.length + q.waits.length ≤ 1000000) : FnOK C0 208 [.agg q.c] [] (waitsV (q.convs ++ q.waits)) [] := by
  refine FnOK.intro (fn := Tryz.f208) (c := Tryz.f208.body.getD .skip) (by kernel_rfl) (by kernel_rfl) (by kernel_rfl) (by kernel_rfl) (by simp [Tryz.f208]) (by simp [names]) ?_
  unfold Tryz.f208
  simp (disch := omega) only [go_sem]
  refine call_frz [448] (f248_ok q.convs q.waits h) (by simp (disch := omega) only [go_sem]) rfl ?_
  simp (disch := omega) only [go_sem]
  refine ret_mk ⟨[], [], []⟩ _ (by (try simp (disch := omega) only [go_sem, resVs, resV]) <;> rfl) ⟨rfl, rfl⟩ (by simp) ?_ trivial
  simp (disch := omega) only [go_sem]
def wantQ (q : Queue) (p : Proc) : Option Amt := ((q.convs ++ q.waits).find? fun w => decide (w.proc = p)).map (·.amt)
theorem f214_ok (q : Queue) (p : Proc) (h : q.convs.length + q.waits.length ≤ 1000000) : FnOK C0 214 [.agg q.c, .agg p.c] [] (.tup [.agg ((wantQ q p).getD ⟨0, 0⟩).c, B (wantQ q p).isSome]) [] := by
  refine FnOK.intro (fn := Tryz.f214) (c := Tryz.f214.body.getD .skip) (by kernel_rfl) (by kernel_rfl) (by kernel_rfl) (by kernel_rfl) (by simp [Tryz.f214]) (by simp [names]) ?_
  unfold Tryz.f214
  simp (disch := omega) only [go_sem]
  refine call_pure (f208_ok q h) (by simp (disch := omega) only [go_sem]) rfl ?_
  have hw : wantQ q p = ((q.convs ++ q.waits).find? fun w => decide (w.proc = p)).map (·.amt) := rfl
  have hl : (q.convs ++ q.waits).length ≤ 1000000 := by simpa using h
  generalize q.convs ++ q.waits = l at hw hl
  simp (disch := omega) only [go_sem]
  refine loop_intro (α := Nat) (fun i => ⟨[(11, I i), (10, I l.length), (9, waitsV l), (3, .ptr 192 0), (4, .ptr 256 0)], [(192, p.c), (256, (⟨0, 0⟩ : Amt).c)]⟩) (fun i => i ≤ (l).length ∧ (l.take i).find? (fun h => decide (h.proc = p)) = none) (fun i => (l).length - i) 0 ⟨by omega, rfl⟩ ?_ ?_
  · refine Imp.weak ?_ ?_
    all_goals (try simp (disch := omega) only [go_sem])
    all_goals (try (repeat' (with_reducible apply And.intro)))
    all_goals (first | exact .nilOwn (by omega) | exact .nilNo (by omega) | exact .sl (by simp []) | exact .int (by simp []) | exact .eq (by simp []))
  rintro i ⟨hi, hP⟩ J hJ
  simp (disch := omega) only [go_sem]
  refine And.intro (fun hlt => ?_) (fun hge => ?_)
  rotate_left
  have hil : i = (l).length := by simp at hge; omega
  rotate_left
  obtain ⟨b, hb⟩ : ∃ b, (l)[i]? = some b := ⟨_, List.getElem?_eq_getElem (by simp at hlt; omega)⟩
  have hbm := List.mem_of_getElem? hb
  simp (disch := omega) only [go_sem, List.getElem?_map, hb]
  · refine And.intro (fun h => ?_) (fun h => ?_)
    · have e : wantQ q p = some b.amt := by rw [hw, find_at hP hb (by simpa using h)]; rfl
      simp (disch := omega) only [go_sem, e]
      refine ret_mk ⟨[], [], []⟩ _ (by (try simp (disch := omega) only [go_sem, resVs, resV]) <;> rfl) ⟨rfl, rfl⟩ (by simp) ?_ trivial
      simp (disch := omega) only [go_sem]
    · refine hJ _ (i + 1) ⟨by simp at hlt; omega, (by rw [find_take hP hb]; simp at h; simp [h])⟩ (by simp at hlt; omega) (Imp.weak (by simp (disch := omega) only [go_sem]) (by simp (disch := omega) only [go_sem]))
  · subst hil
    rw [List.take_length] at hP
    have e : wantQ q p = none := by rw [hw, hP]; rfl
    simp (disch := omega) only [go_sem, e]
    refine ret_mk ⟨[], [], []⟩ _ (by (try simp (disch := omega) only [go_sem, resVs, resV]) <;> rfl) ⟨rfl, rfl⟩ (by simp) ?_ trivial
    simp (disch := omega) only [go_sem]
def procsW (l : List Wait) : List Proc := l.map (·.proc)
theorem f161_ok (q : Queue) (h : q.convs.length + q.waits.length ≤ 1000000) : FnOK C0 161 [.agg q.c] [] (procsV (procsW (q.convs ++ q.waits))) [] := by
  refine FnOK.intro (fn := Tryz.f161) (c := Tryz.f161.body.getD .skip) (by kernel_rfl) (by kernel_rfl) (by kernel_rfl) (by kernel_rfl) (by simp [Tryz.f161]) (by simp [names]) ?_
  unfold Tryz.f161
  simp (disch := omega) only [go_sem]
  refine call_pure (f208_ok q h) (by simp (disch := omega) only [go_sem]) rfl ?_
  have hl : (q.convs ++ q.waits).length ≤ 1000000 := by simpa using h
  generalize q.convs ++ q.waits = l at hl
  simp (disch := omega) only [go_sem]
  refine loop_intro (α := Nat) (fun i => ⟨[(9, I i), (8, I l.length), (7, waitsV l), (3, .sl (.own 1088 0) 3 ((procsW (l.take i)).map Proc.c))], []⟩) (fun i => i ≤ (l).length ∧ True) (fun i => (l).length - i) 0 ⟨by omega, trivial⟩ ?_ ?_
  · refine Imp.weak ?_ ?_
    all_goals (try simp (disch := omega) only [go_sem])
    all_goals (try (repeat' (with_reducible apply And.intro)))
    all_goals (first | exact .nilOwn (by omega) | exact .nilNo (by omega) | exact .sl (by simp []) | exact .int (by simp []) | exact .eq (by simp []))
  rintro i ⟨hi, hP⟩ J hJ
  simp (disch := omega) only [go_sem]
  refine And.intro (fun hlt => ?_) (fun hge => ?_)
  rotate_left
  have hil : i = (l).length := by simp at hge; omega
  rotate_left
  obtain ⟨b, hb⟩ : ∃ b, (l)[i]? = some b := ⟨_, List.getElem?_eq_getElem (by simp at hlt; omega)⟩
  have hbm := List.mem_of_getElem? hb
  simp (disch := omega) only [go_sem, List.getElem?_map, hb]
  · simp (disch := omega) only [go_sem, procsW]
    refine hJ _ (i + 1) ⟨by simp at hlt; omega, trivial⟩ (by simp at hlt; omega) (Imp.weak ?_ ?_)
    all_goals (try simp (disch := omega) only [go_sem])
    all_goals (try (repeat' (with_reducible apply And.intro)))
    all_goals (first | exact .nilOwn (by omega) | exact .nilNo (by omega) | exact .sl (by simp [procsW, List.take_add_one, hb, Proc.c]) | exact .int (by simp [procsW, List.take_add_one, hb, Proc.c]) | exact .eq (by simp [procsW, List.take_add_one, hb, Proc.c]))

  · subst hil
    refine ret_mk ⟨[], [], [1088]⟩ _ (by (try simp (disch := omega) only [go_sem, resVs, resV]) <;> rfl) ⟨rfl, rfl⟩ (by simp) ?_ trivial
    simp (disch := omega) only [go_sem, List.take_length]
def valid (q : Queue) : Bool := sound q && !(match headQ q with
  | some w => roomH q.res q.holds w.proc w.amt
  | none => false)
theorem f111_ok (q : Queue) (h1 : q.holds.length ≤ 1000000) (h2 : q.waits.length ≤ 1000000) : FnOK C0 111 [.agg q.c] [] (B (valid q)) [] := by
  refine FnOK.intro (fn := Tryz.f111) (c := Tryz.f111.body.getD .skip) (by kernel_rfl) (by kernel_rfl) (by kernel_rfl) (by kernel_rfl) (by simp [Tryz.f111]) (by simp [names]) ?_
  unfold Tryz.f111
  simp (disch := omega) only [go_sem]
  refine call_pure (f177_ok q h1 h2) (by simp (disch := omega) only [go_sem]) rfl ?_
  cases hs : sound q
  · simp (disch := omega) only [go_sem]
    refine ret_mk ⟨[], [], []⟩ _ (by (try simp (disch := omega) only [go_sem, resVs, resV]) <;> rfl) ⟨rfl, rfl⟩ (by simp) ?_ trivial
    simp (disch := omega) only [go_sem]
    exact wb (by simp [valid, hs])
  simp (disch := omega) only [go_sem]
  refine call_pure (f178_ok q) (by simp (disch := omega) only [go_sem]) rfl ?_
  cases hh : headQ q with
  | none =>
    simp (disch := omega) only [go_sem, Option.isSome_none]
    refine ret_mk ⟨[], [], []⟩ _ (by (try simp (disch := omega) only [go_sem, resVs, resV]) <;> rfl) ⟨rfl, rfl⟩ (by simp) ?_ trivial
    simp (disch := omega) only [go_sem]
    exact wb (by simp [valid, hs, hh])
  | some w =>
    simp (disch := omega) only [go_sem, Option.isSome_some]
    refine call_pure (f179_ok q.res q.holds w.proc w.amt h1) (by simp (disch := omega) only [go_sem]) rfl ?_
    simp (disch := omega) only [go_sem]
    refine ret_mk ⟨[], [], []⟩ _ (by (try simp (disch := omega) only [go_sem, resVs, resV]) <;> rfl) ⟨rfl, rfl⟩ (by simp) ?_ trivial
    simp (disch := omega) only [go_sem]
    exact wb (by simp [valid, hs, hh])
theorem f71_ok (q : Queue) (h1 : q.holds.length ≤ 1000000) (h2 : q.waits.length ≤ 1000000) : FnOK C0 71 [.agg q.c] [] (B (valid q)) [] := by
  refine FnOK.intro (fn := Tryz.f71) (c := Tryz.f71.body.getD .skip) (by kernel_rfl) (by kernel_rfl) (by kernel_rfl) (by kernel_rfl) (by simp [Tryz.f71]) (by simp [names]) ?_
  unfold Tryz.f71
  simp (disch := omega) only [go_sem]
  refine call_pure (f111_ok q h1 h2) (by simp (disch := omega) only [go_sem]) rfl ?_
  simp (disch := omega) only [go_sem]
  refine ret_mk ⟨[], [], []⟩ _ (by (try simp (disch := omega) only [go_sem, resVs, resV]) <;> rfl) ⟨rfl, rfl⟩ (by simp) ?_ trivial
  simp (disch := omega) only [go_sem]
end Go.Rd
open Go Go.Abs Go.Proofs
set_option maxRecDepth 100000
namespace Go.Rd
@[go_sem] theorem holdsV_nil : holdsV [] = .sl .no 5 [] := rfl
@[go_sem] theorem waitsV_nil : waitsV [] = .sl .no 7 [] := rfl
@[go_sem] theorem procsV_nil : procsV [] = .sl .no 3 [] := rfl
@[go_sem] theorem queuesV_nil : queuesV [] = .sl .no 8 [] := rfl
@[go_sem] theorem needsV_nil : needsV [] = .sl .no 9 [] := rfl
@[go_sem] theorem exprsV_nil : exprsV [] = .sl .no 5 [] := rfl
@[go_sem] theorem atomsV_nil : atomsV [] = .sl .no 3 [] := rfl
@[go_sem] theorem amtsV_nil : amtsV [] = .sl .no 2 [] := rfl
def popQ (q : Queue) (w : Wait) : Queue := match q.convs with
  | _ :: l => { q with holds := setH q.holds w.proc w.amt, convs := l }
  | [] => { q with holds := setH q.holds w.proc w.amt, waits := q.waits.drop 1 }
def advN : Nat → Queue → Queue × List Hold
  | 0, q => (q, [])
  | n + 1, q => match headQ q with
    | some w => if roomH q.res q.holds w.proc w.amt then ((advN n (popQ q w)).1, ⟨w.proc, w.amt⟩ :: (advN n (popQ q w)).2) else (q, [])
    | none => (q, [])
def sizeQ (q : Queue) : Nat := q.convs.length + q.waits.length
def advQ (q : Queue) : Queue × List Hold := advN (sizeQ q) q
theorem advN_none {n : Nat} {q : Queue} (h : headQ q = none) : advN n q = (q, []) := by cases n <;> simp [advN, h]
theorem head_size {q : Queue} {w : Wait} (h : headQ q = some w) : sizeQ (popQ q w) + 1 = sizeQ q := by
  unfold headQ at h
  unfold popQ sizeQ
  cases hq : q.convs with
  | cons a l => simp; omega
  | nil =>
    cases hw : q.waits with
    | cons a l => simp
    | nil => simp [hq, hw] at h
theorem advQ_def (q : Queue) : advQ q = match headQ q with
    | some w => if roomH q.res q.holds w.proc w.amt then ((advQ (popQ q w)).1, ⟨w.proc, w.amt⟩ :: (advQ (popQ q w)).2) else (q, [])
    | none => (q, []) := by
  unfold advQ
  cases h : headQ q with
  | none => simp [advN_none h]
  | some w =>
    have := head_size h
    rw [← this]
    simp only [advN, h]
theorem setH_length (l : List Hold) (p : Proc) (a : Amt) : (setH l p a).length ≤ l.length + 1 := by
  have h1 : (dropH l p).length ≤ l.length := List.length_filter_le _ _
  have h2 := placeN_le (dropH l p) p
  unfold setH
  split
  · omega
  · simp; omega
def allQ (q : Queue) : Nat := q.holds.length + sizeQ q
theorem allQ_pop {q : Queue} {w : Wait} (h : headQ q = some w) : allQ (popQ q w) ≤ allQ q := by
  have h1 := head_size h
  have h2 : (popQ q w).holds.length ≤ q.holds.length + 1 := by
    unfold popQ
    split <;> exact setH_length _ _ _
  unfold allQ
  omega
theorem f209_ok (q : Queue) (hall : allQ q ≤ 1000000) : FnOK C0 209 [.ptr 63 0] [(63, q.c)] (holdsV (advQ q).2) [(63, (advQ q).1.c)] := by
  refine FnOK.intro (fn := Tryz.f209) (c := Tryz.f209.body.getD .skip) (by kernel_rfl) (by kernel_rfl) (by kernel_rfl) (by kernel_rfl) (by simp [Tryz.f209]) (by simp [names]) ?_
  unfold Tryz.f209
  simp (disch := omega) only [go_sem]
  refine loop_intro (α := Queue × List Hold) (fun x => ⟨[(3, .sl (.own 4736 0) 5 (x.2.map Hold.c)), (0, .ptr 63 0)], [(63, x.1.c)]⟩) (fun x => x.2.length + sizeQ x.1 = sizeQ q ∧ allQ x.1 ≤ 1000000 ∧ (advQ x.1).1 = (advQ q).1 ∧ x.2 ++ (advQ x.1).2 = (advQ q).2) (fun x => sizeQ x.1) (q, []) ⟨by simp, hall, rfl, rfl⟩ ?_ ?_
  · refine Imp.weak ?_ ?_
    · simp (disch := omega) only [go_sem]
    · simp (disch := omega) only [go_sem]
  rintro ⟨s, hs⟩ ⟨i1, i2, i3, i4⟩ J hJ
  replace i1 : hs.length + sizeQ s = sizeQ q := i1
  replace i2 : allQ s ≤ 1000000 := i2
  replace i3 : (advQ s).1 = (advQ q).1 := i3
  replace i4 : hs ++ (advQ s).2 = (advQ q).2 := i4
  rw [advQ_def s] at i3 i4
  simp (disch := omega) only [go_sem]
  refine call_pure (f178_ok s) (by simp (disch := omega) only [go_sem]) rfl ?_
  cases hh : headQ s with
  | none =>
    simp only [hh] at i3 i4
    simp (disch := omega) only [go_sem, Option.isSome_none]
    refine draw_mk 15 [([], [5]), ([0], [22]), ([0, 1], [23]), ([0, 1, 2], [0, 24]), ([0, 1, 2, 3], [25, 24]), ([0, 1, 2, 3, 4], [26, 24]), ([0, 1, 2, 3, 4, 5], [27, 24]), ([0, 1, 2], [0, 24]), ([0, 1, 2, 7], [29, 24]), ([0, 1, 2, 7, 8], [30, 24]), ([0, 1, 2, 7, 8, 9], [31, 24]), ([0, 1, 2], [4, 24]), ([0, 1, 2, 11], [33, 24]), ([0, 1, 2], [4, 24]), ([0, 1, 2, 13], [35, 24]), ([0, 1, 2, 3, 4, 5, 6, 7, 8, 9, 10, 11, 12, 13, 14], []), ([0, 1, 2, 3, 4, 5, 6, 7, 8, 9, 10, 11, 12, 13, 14, 15], []), ([0, 1, 2, 3, 4, 5, 6, 7, 8, 9, 10, 11, 12, 13, 14, 15, 16], []), ([0, 1, 2, 3, 4, 5, 6, 7, 8, 9, 10, 11, 12, 13, 14, 15, 16, 17], [])] fol (by kernel_rfl) ?_
    simp (disch := omega) only [go_sem]
    refine ret_mk ⟨[], [(63, 63)], [4736]⟩ _ rfl ⟨rfl, rfl⟩ (by simp [lk]) ?_ ?_
    · simp (disch := omega) only [go_sem, ← i4, List.append_nil]
    · simp (disch := omega) only [go_sem, ← i3]
  | some w =>
    simp only [hh] at i3 i4
    have hsz := head_size hh
    have hpa := allQ_pop hh
    have hh1 : s.holds.length ≤ 1000000 := by unfold allQ at i2; omega
    simp (disch := omega) only [go_sem, Option.isSome_some]
    refine draw_mk 15 [([], [5]), ([0], [22]), ([0, 1], [23]), ([0, 1, 2], [0, 24]), ([0, 1, 2, 3], [25, 24]), ([0, 1, 2, 3, 4], [26, 24]), ([0, 1, 2, 3, 4, 5], [27, 24]), ([0, 1, 2], [0, 24]), ([0, 1, 2, 7], [29, 24]), ([0, 1, 2, 7, 8], [30, 24]), ([0, 1, 2, 7, 8, 9], [31, 24]), ([0, 1, 2], [4, 24]), ([0, 1, 2, 11], [33, 24]), ([0, 1, 2], [4, 24]), ([0, 1, 2, 13], [35, 24]), ([0, 1, 2, 3, 4, 5, 6, 7, 8, 9, 10, 11, 12, 13, 14], []), ([0, 1, 2, 3, 4, 5, 6, 7, 8, 9, 10, 11, 12, 13, 14, 15], []), ([0, 1, 2, 3, 4, 5, 6, 7, 8, 9, 10, 11, 12, 13, 14, 15, 16], []), ([0, 1, 2, 3, 4, 5, 6, 7, 8, 9, 10, 11, 12, 13, 14, 15, 16, 17], [])] fol (by kernel_rfl) ?_
    simp (disch := omega) only [go_sem]
    refine call_pure (f179_ok s.res s.holds w.proc w.amt hh1) (by simp (disch := omega) only [go_sem]) rfl ?_
    cases hr : roomH s.res s.holds w.proc w.amt
    · simp only [hr, Bool.false_eq_true, if_false] at i3 i4
      simp (disch := omega) only [go_sem]
      refine ret_mk ⟨[], [(63, 63)], [4736]⟩ _ rfl ⟨rfl, rfl⟩ (by simp [lk]) ?_ ?_
      · simp (disch := omega) only [go_sem, ← i4, List.append_nil]
      · simp (disch := omega) only [go_sem, ← i3]
    simp only [hr, if_true] at i3 i4
    have step : ∀ st', Imp ⟨C0, [63], []⟩ st' ⟨[(3, .sl (.own 4736 0) 5 ((hs ++ [Hold.mk w.proc w.amt]).map Hold.c)), (0, .ptr 63 0)], [(63, (popQ s w).c)]⟩ → J st' := fun st' h =>
      hJ st' (popQ s w, hs ++ [Hold.mk w.proc w.amt]) ⟨by simp; omega, by simp; omega, i3, by rw [← i4]; simp⟩ (by simp; omega) h
    have hbound : hs.length + 1 ≤ 4294967296 := by unfold allQ at hall; omega
    cases hc : s.convs with
    | cons a l =>
      have hp : popQ s w = { s with holds := setH s.holds w.proc w.amt, convs := l } := by unfold popQ; simp only [hc]
      rw [hp] at step
      have z1 : (0 < (l.length : Int) + 1) = True := eq_true (by omega)
      have z2 : (l.map Wait.c).take (l.length + 1 - 1) = l.map Wait.c := List.take_of_length_le (by simp)
      simp (disch := omega) only [go_sem, hc, z1]
      refine draw_mk 10 [([], [0]), ([], [0]), ([1], [56]), ([1, 2], [57]), ([1, 2, 3], [58]), ([], [4]), ([5], [60]), ([], [4]), ([7], [62]), ([1, 2, 3, 4, 5, 6, 7, 8], [59, 61, 63]), ([0, 1, 2, 3, 4, 5, 6, 7, 8, 9], []), ([0, 1, 2, 3, 4, 5, 6, 7, 8, 9, 10], []), ([0, 1, 2, 3, 4, 5, 6, 7, 8, 9, 10, 11], [])] fol (by kernel_rfl) ?_
      simp (disch := omega) only [go_sem]
      refine freeCall_mk ⟨⟨[], [], []⟩, [], []⟩ (f165_ok s.holds w.proc w.amt hh1) (by simp (disch := omega) only [go_sem]) rfl rfl trivial (.inl rfl) ?_
      simp (disch := omega) only [go_sem, z2]
      refine step _ (Imp.weak ?_ ?_)
      · simp (disch := omega) only [go_sem]
        exact .sl (by simp [Hold.c])
      · simp (disch := omega) only [go_sem]
    | nil =>
      have hp : popQ s w = { s with holds := setH s.holds w.proc w.amt, waits := s.waits.drop 1 } := by unfold popQ; simp only [hc]
      rw [hp] at step
      have hw : 1 ≤ s.waits.length := by unfold sizeQ at hsz; rw [hc] at hsz; simp at hsz; omega
      have z2 : ((s.waits.map Wait.c).drop 1).take (s.waits.length - 1) = (s.waits.drop 1).map Wait.c := by rw [← List.map_drop]; exact List.take_of_length_le (by simp)
      simp (disch := omega) only [go_sem, hc]
      refine draw_mk 10 [([], [0]), ([], [0]), ([1], [56]), ([1, 2], [57]), ([1, 2, 3], [58]), ([], [4]), ([5], [60]), ([], [4]), ([7], [62]), ([1, 2, 3, 4, 5, 6, 7, 8], [59, 61, 63]), ([0, 1, 2, 3, 4, 5, 6, 7, 8, 9], []), ([0, 1, 2, 3, 4, 5, 6, 7, 8, 9, 10], []), ([0, 1, 2, 3, 4, 5, 6, 7, 8, 9, 10, 11], [])] fol (by kernel_rfl) ?_
      simp (disch := omega) only [go_sem]
      refine freeCall_mk ⟨⟨[], [], []⟩, [], []⟩ (f165_ok s.holds w.proc w.amt hh1) (by simp (disch := omega) only [go_sem]) rfl rfl trivial (.inl rfl) ?_
      simp (disch := omega) only [go_sem, z2]
      refine step _ (Imp.weak ?_ ?_)
      · simp (disch := omega) only [go_sem]
        exact .sl (by simp [Hold.c])
      · simp (disch := omega) only [go_sem, hc, List.map_nil]
theorem f164_ok (q : Queue) (p : Proc) (h : q.holds.length ≤ 1000000) : FnOK C0 164 [.ptr 63 0, .ptr 127 0] [(63, q.c), (127, p.c)] (.tup []) [(63, { q with holds := setH q.holds p ⟨0, 0⟩ : Queue }.c), (127, p.c)] := by
  refine FnOK.intro (fn := Tryz.f164) (c := Tryz.f164.body.getD .skip) (by kernel_rfl) (by kernel_rfl) (by kernel_rfl) (by kernel_rfl) (by simp [Tryz.f164]) (by simp [names]) ?_
  unfold Tryz.f164
  simp (disch := omega) only [go_sem]
  refine call_pure (f165_ok q.holds p ⟨0, 0⟩ h) (by simp (disch := omega) only [go_sem]) rfl ?_
  simp (disch := omega) only [go_sem]
  refine ret_mk ⟨[], [(63, 63), (127, 127)], []⟩ _ rfl ⟨rfl, rfl⟩ (by simp [lk]) ?_ ?_
  · simp (disch := omega) only [go_sem]
  · simp (disch := omega) only [go_sem]
theorem f166_ok (q : Queue) (p : Proc) (h : q.convs.length ≤ 1000000) : FnOK C0 166 [.ptr 63 0, .ptr 127 0] [(63, q.c), (127, p.c)] (.tup []) [(63, { q with convs := dropW q.convs p : Queue }.c), (127, p.c)] := by
  refine FnOK.intro (fn := Tryz.f166) (c := Tryz.f166.body.getD .skip) (by kernel_rfl) (by kernel_rfl) (by kernel_rfl) (by kernel_rfl) (by simp [Tryz.f166]) (by simp [names]) ?_
  unfold Tryz.f166
  simp (disch := omega) only [go_sem]
  refine call_pure (f167_ok q.convs p h) (by simp (disch := omega) only [go_sem]) rfl ?_
  simp (disch := omega) only [go_sem]
  refine ret_mk ⟨[], [(63, 63), (127, 127)], []⟩ _ rfl ⟨rfl, rfl⟩ (by simp [lk]) ?_ ?_
  · simp (disch := omega) only [go_sem]
  · simp (disch := omega) only [go_sem]
theorem f168_ok (q : Queue) (p : Proc) (h : q.waits.length ≤ 1000000) : FnOK C0 168 [.ptr 63 0, .ptr 127 0] [(63, q.c), (127, p.c)] (.tup []) [(63, { q with waits := dropW q.waits p : Queue }.c), (127, p.c)] := by
  refine FnOK.intro (fn := Tryz.f168) (c := Tryz.f168.body.getD .skip) (by kernel_rfl) (by kernel_rfl) (by kernel_rfl) (by kernel_rfl) (by simp [Tryz.f168]) (by simp [names]) ?_
  unfold Tryz.f168
  simp (disch := omega) only [go_sem]
  refine call_pure (f167_ok q.waits p h) (by simp (disch := omega) only [go_sem]) rfl ?_
  simp (disch := omega) only [go_sem]
  refine ret_mk ⟨[], [(63, 63), (127, 127)], []⟩ _ rfl ⟨rfl, rfl⟩ (by simp [lk]) ?_ ?_
  · simp (disch := omega) only [go_sem]
  · simp (disch := omega) only [go_sem]
def cutQ (q : Queue) (p : Proc) : Queue := { q with holds := setH q.holds p ⟨0, 0⟩, convs := dropW q.convs p, waits := dropW q.waits p }
def endQ (q : Queue) : Queue := { (advQ q).1 with gen := nextG (advQ q).1.gen }
@[reducible] def stepsA (a b : Nat) : AV := .mem true [.fn 164 [.ptr a 0, .ptr b 0], .fn 166 [.ptr a 0, .ptr b 0], .fn 168 [.ptr a 0, .ptr b 0]]
theorem dropW_length (l : List Wait) (p : Proc) : (dropW l p).length ≤ l.length := List.length_filter_le _ _
theorem f163_ok (q : Queue) (p : Proc) (h : allQ q + 1 ≤ 1000000) : FnOK C0 163 [.ptr 63 0, stepsA 63 127] [(63, q.c), (127, p.c)] (.tup [.agg (endQ (cutQ q p)).c, holdsV (advQ (cutQ q p)).2, I 0]) [(63, (endQ (cutQ q p)).c), (127, p.c)] := by
  have h1 : q.holds.length ≤ 1000000 := by unfold allQ at h; omega
  have h2 : q.convs.length ≤ 1000000 := by unfold allQ sizeQ at h; omega
  have h3 : q.waits.length ≤ 1000000 := by unfold allQ sizeQ at h; omega
  have h4 : allQ (cutQ q p) ≤ 1000000 := by
    have := setH_length q.holds p ⟨0, 0⟩
    have := dropW_length q.convs p
    have := dropW_length q.waits p
    unfold allQ sizeQ at h ⊢
    simp only [cutQ]
    omega
  refine FnOK.intro (fn := Tryz.f163) (c := Tryz.f163.body.getD .skip) (by kernel_rfl) (by kernel_rfl) (by kernel_rfl) (by kernel_rfl) (by simp [Tryz.f163]) (by simp [names]) ?_
  unfold Tryz.f163
  have z0 : (decide ((0 : Int) < 3)) = true := by decide
  have z1 : (decide ((1 : Int) < 3)) = true := by decide
  have z2 : (decide ((2 : Int) < 3)) = true := by decide
  have z3 : (decide ((3 : Int) < 3)) = false := by decide
  simp (disch := omega) only [go_sem]
  refine loop_intro (α := Nat) (fun i => ⟨[(12, I i), (11, I 3), (10, stepsA 63 127), (0, .ptr 63 0), (4, .ptr 256 0)], [(63, (if i = 0 then q else if i = 1 then { q with holds := setH q.holds p ⟨0, 0⟩ : Queue } else if i = 2 then { q with holds := setH q.holds p ⟨0, 0⟩, convs := dropW q.convs p : Queue } else cutQ q p).c), (127, p.c), (256, (⟨⟨[], 0, 0, 0⟩, [], [], [], 0⟩ : Queue).c)]⟩) (fun i => i ≤ 3) (fun i => 3 - i) 0 (by simp) ?_ ?_
  · refine Imp.weak ?_ ?_
    · simp (disch := omega) only [go_sem]
    · simp (disch := omega) only [go_sem]
  rintro i hi J hJ
  obtain rfl | rfl | rfl | rfl : i = 0 ∨ i = 1 ∨ i = 2 ∨ i = 3 := by omega
  · simp (disch := omega) only [go_sem, z0]
    refine callB_mk ⟨⟨[], [(63, 63), (127, 127)], []⟩, [], []⟩ (f164_ok q p h1) (by simp (disch := omega) only [go_sem]) rfl (by simp (disch := omega) only [go_sem]) (.inl rfl) ?_
    simp (disch := omega) only [go_sem]
    refine hJ _ 1 (by omega) (by omega) (Imp.weak (by simp (disch := omega) only [go_sem]) (by simp (disch := omega) only [go_sem, Nat.one_ne_zero]))
  · simp (disch := omega) only [go_sem, z1, Nat.one_ne_zero]
    refine callB_mk ⟨⟨[], [(63, 63), (127, 127)], []⟩, [], []⟩ (f166_ok { q with holds := setH q.holds p ⟨0, 0⟩ } p h2) (by simp (disch := omega) only [go_sem]) rfl (by simp (disch := omega) only [go_sem]) (.inl rfl) ?_
    simp (disch := omega) only [go_sem]
    refine hJ _ 2 (by omega) (by omega) (Imp.weak (by simp (disch := omega) only [go_sem]) (by simp (disch := omega) only [go_sem, Nat.one_ne_zero]))
  · simp (disch := omega) only [go_sem, z2]
    refine callB_mk ⟨⟨[], [(63, 63), (127, 127)], []⟩, [], []⟩ (f168_ok { q with holds := setH q.holds p ⟨0, 0⟩, convs := dropW q.convs p } p h3) (by simp (disch := omega) only [go_sem]) rfl (by simp (disch := omega) only [go_sem]) (.inl rfl) ?_
    simp (disch := omega) only [go_sem]
    refine hJ _ 3 (by omega) (by omega) (Imp.weak (by simp (disch := omega) only [go_sem]) (by simp (disch := omega) only [go_sem, cutQ]))
  · clear hJ
    simp (disch := omega) only [go_sem, z3]
    refine callB_mk ⟨⟨[], [(63, 63)], []⟩, [], []⟩ (f209_ok (cutQ q p) h4) (by simp (disch := omega) only [go_sem]) rfl (by simp (disch := omega) only [go_sem]) (.inl rfl) ?_
    simp (disch := omega) only [go_sem]
    refine call_pure (f210_ok (advQ (cutQ q p)).1.gen) (by simp (disch := omega) only [go_sem]) rfl ?_
    simp (disch := omega) only [go_sem]
    refine ret_mk ⟨[], [(63, 63), (127, 127)], []⟩ _ (by (try simp (disch := omega) only [go_sem, resVs, resV]) <;> rfl) ⟨rfl, rfl⟩ (by simp [lk]) ?_ ?_
    · simp (disch := omega) only [go_sem, endQ]
    · simp (disch := omega) only [go_sem, endQ]
end Go.Rd
/-
  DERIVED: THE SHELF's CONTRACTS AT THIS DUMP, IN PLAIN WORDS (tools/lay-plain.mjs out of 'YthelplgdpmhepaaGreatDoorSl0.lean', which tools/lay-shelf.mjs wrote): THE SAME DECLARATIONS UNDER THE SAME NAMES: 'import', 'namespace', 'open', 'def', 'theorem' AND NOTHING ELSE: no command of the shelf's: FOR A HAND-IN. Each laying: the table of numbers ('.._ren') and one theorem, a field a fact of the dump's own or the kernel's comparison; each contract: ONE APPLICATION.
-/
namespace Go.Proofs
open Go.Shelf
def Tryz.sortP_ren : Go.Shelf.Ren := ⟨fun | 6 => 158 | 15 => 207 | 14 => 206 | 28 => 246 | 29 => 247 | 20 => 238 | 21 => 239 | 22 => 240 | 23 => 241 | 24 => 242 | 25 => 243 | 26 => 244 | 27 => 245 | 46 => 263 | 47 => 264 | 48 => 265 | 49 => 266 | 50 => 267 | 57 => 277 | n => n, fun | 22 => 30 | 24 => 27 | 25 => 96 | 3 => 3 | 39 => 244 | 0 => 0 | 53 => 277 | 55 => 279 | 4 => 4 | 46 => 270 | 45 => 269 | 50 => 274 | 5 => 5 | 9 => 9 | 66 => 289 | 70 => 227 | 76 => 299 | 77 => 260 | n => n, fun | n => n⟩
theorem Tryz.sortP : Go.Proofs.SlLaysF0.n6 Tryz.prog Tryz.sortP_ren := {
  mixed := by kernel_rfl
  f6 := ⟨Tryz.f158.name, by decide, Tryz.func158.trans (congrArg some (by kernel_rfl))⟩
  f14 := ⟨Tryz.f206.name, by decide, Tryz.func206.trans (congrArg some (by kernel_rfl))⟩
  f15 := Tryz.func207.trans (congrArg some (by kernel_rfl))
  f20 := ⟨Tryz.f238.name, by decide, Tryz.func238.trans (congrArg some (by kernel_rfl))⟩
  f21 := ⟨Tryz.f239.name, by decide, Tryz.func239.trans (congrArg some (by kernel_rfl))⟩
  f22 := ⟨Tryz.f240.name, by decide, Tryz.func240.trans (congrArg some (by kernel_rfl))⟩
  f23 := ⟨Tryz.f241.name, by decide, Tryz.func241.trans (congrArg some (by kernel_rfl))⟩
  f24 := ⟨Tryz.f242.name, by decide, Tryz.func242.trans (congrArg some (by kernel_rfl))⟩
  f25 := ⟨Tryz.f243.name, by decide, Tryz.func243.trans (congrArg some (by kernel_rfl))⟩
  f26 := ⟨Tryz.f244.name, by decide, Tryz.func244.trans (congrArg some (by kernel_rfl))⟩
  f27 := ⟨Tryz.f245.name, by decide, Tryz.func245.trans (congrArg some (by kernel_rfl))⟩
  f28 := Tryz.func246.trans (congrArg some (by kernel_rfl))
  f29 := Tryz.func247.trans (congrArg some (by kernel_rfl))
  f46 := ⟨Tryz.f263.name, by decide, Tryz.func263.trans (congrArg some (by kernel_rfl))⟩
  f47 := Tryz.func264.trans (congrArg some (by kernel_rfl))
  f48 := Tryz.func265.trans (congrArg some (by kernel_rfl))
  f49 := ⟨Tryz.f266.name, by decide, Tryz.func266.trans (congrArg some (by kernel_rfl))⟩
  f50 := ⟨Tryz.f267.name, by decide, Tryz.func267.trans (congrArg some (by kernel_rfl))⟩
  f57 := ⟨Tryz.f277.name, by decide, Tryz.func277.trans (congrArg some (by kernel_rfl))⟩
  t0 := Tryz.underlying0
  a0 := Tryz.isAgg0
  z0 := Tryz.sizeOf0
  v0 := Tryz.zeroValue0
  t3 := Tryz.underlying3
  a3 := Tryz.isAgg3
  z3 := Tryz.sizeOf3
  v3 := Tryz.zeroValue3
  t4 := Tryz.underlying4
  a4 := Tryz.isAgg4
  z4 := Tryz.sizeOf4
  v4 := Tryz.zeroValue4
  t5 := Tryz.underlying5
  a5 := Tryz.isAgg5
  z5 := Tryz.sizeOf5
  v5 := Tryz.zeroValue5
  t9 := Tryz.underlying9
  a9 := Tryz.isAgg9
  z9 := Tryz.sizeOf9
  v9 := Tryz.zeroValue9
  t22 := Tryz.underlying30
  a22 := Tryz.isAgg30
  z22 := Tryz.sizeOf30
  v22 := Tryz.zeroValue30
  t25 := Tryz.underlying96
  a25 := Tryz.isAgg96
  z25 := Tryz.sizeOf96
  v25 := Tryz.zeroValue96
  t39 := Tryz.underlying244
  a39 := Tryz.isAgg244
  z39 := Tryz.sizeOf244
  v39 := Tryz.zeroValue244
  t45 := Tryz.underlying269
  a45 := Tryz.isAgg269
  z45 := Tryz.sizeOf269
  v45 := Tryz.zeroValue269
  t46 := Tryz.underlying270
  a46 := Tryz.isAgg270
  z46 := Tryz.sizeOf270
  v46 := Tryz.zeroValue270
  t50 := Tryz.underlying274
  a50 := Tryz.isAgg274
  z50 := Tryz.sizeOf274
  v50 := Tryz.zeroValue274
  t53 := Tryz.underlying277
  a53 := Tryz.isAgg277
  z53 := Tryz.sizeOf277
  v53 := Tryz.zeroValue277
  t55 := Tryz.underlying279
  a55 := Tryz.isAgg279
  z55 := Tryz.sizeOf279
  v55 := Tryz.zeroValue279
  t66 := Tryz.underlying289
  a66 := Tryz.isAgg289
  z66 := Tryz.sizeOf289
  v66 := Tryz.zeroValue289
  t70 := Tryz.underlying227
  a70 := Tryz.isAgg227
  z70 := Tryz.sizeOf227
  v70 := Tryz.zeroValue227
  t76 := Tryz.underlying299
  a76 := Tryz.isAgg299
  z76 := Tryz.sizeOf299
  v76 := Tryz.zeroValue299
  t77 := Tryz.underlying260
  a77 := Tryz.isAgg260
  z77 := Tryz.sizeOf260
  v77 := Tryz.zeroValue260 }
end Go.Proofs
/- slices.SortFunc, as a call that changes a row in place. -/
namespace Go.Abs
open Go.Proofs Go.Shelf Go.RowKit Go.Lib Go.Sort
variable {P : Program} {ρ : Go.Shelf.Ren} {α : Type} [Inhabited α]

theorem heap_grow {w w' : World} (hs : w.heap.size ≤ w'.heap.size) (ho : ∀ b, b < w.heap.size → w'.heap[b]? = w.heap[b]?) : w'.heap = w.heap ++ w'.heap.extract w.heap.size w'.heap.size := by
  apply Array.ext_getElem?
  intro b
  by_cases hb : b < w.heap.size
  · rw [ho b hb, Array.getElem?_append_left hb]
  · rw [Array.getElem?_append_right (by omega), Array.getElem?_extract]
    by_cases hb' : b < w'.heap.size
    · rw [if_pos (by omega)]; congr 1; omega
    · rw [if_neg (by omega), Array.getElem?_eq_none (by omega)]

/-- a quiet call of a comparison, in the words of the sort's contract -/
theorem cmp_calls {C : Ctx} {g : Nat} {xs : List AV} {us : List Value} {v : Value} (h : FnOK C g xs [] (.v v) []) (G : Gh) (W : World) (hG : Glob C G W) (hro : ∀ b, G.own b = .ro ∨ G.own b = .other) (hx : VRs G W xs us) :
    Calls C.P g us.toArray W fun e w' => e = .returned v ∧ ∃ q os', w' = grow (W.drewN q) os' := by
  refine Calls.mono (h.2 G W us hG hx fun _ _ h => by cases h) fun e w' ⟨u, g', he, hfr, hy, _⟩ => ?_
  simp only [VR] at hy
  subst hy
  refine ⟨he, w'.drawn - W.drawn, w'.heap.extract W.heap.size w'.heap.size, ?_⟩
  have hh := heap_grow (w := W) (w' := w') hfr.size fun b hb => (hfr.keep b hb (hro b)).1
  obtain ⟨ht, hd⟩ := hfr.tape
  have ho := hfr.os
  have hp := hfr.output
  cases w' with
  | mk heap tape drawn os output =>
    simp only at hh ht hd ho hp
    simp only [grow, World.drewN]
    rw [← hh, ht, ho, hp]
    congr 1
    omega

def roOnly (G : Gh) : Gh := { G with own := fun b => match G.own b with
  | .ro => .ro
  | _ => .other }

theorem VRs_vals_any {g : Gh} {w : World} (zs : List Value) : VRs g w (vals zs) zs := VRs_vals zs

theorem FnRow.sort {C : Ctx} (hC : C.P = P) (L : SlLaysF0.n6 P ρ) (k : Nat) (hk0 : 0 < k) (aE : ∀ w, (isAgg (ρ.t 24)).run P w = .ok true w) (zE : ∀ w, (Go.sizeOf (ρ.t 24)).run P w = .ok k w) (enc : α → List Value) (hk : ∀ x, (enc x).length = k)
    (h1 : ∀ x, ∀ v ∈ enc x, v.oneCell' = true) (cf : α → α → Int) (hO : SWO (ltOf cf)) (hT : ∀ x y, (ltOf cf) x y = false → (ltOf cf) y x = false → x = y) (g0 : Nat)
    (hcmp : ∀ x y, FnOK C g0 [.agg (vals (enc x)), .agg (vals (enc y))] [] (.v (.int .i64 (cf x y))) []) (hf : ∃ fn c, P.funcs[ρ.f 6]? = some fn ∧ (fn.name == "runtime.NumGoroutine") = false ∧ fn.body = some c) (ps : List α) (hsz : ps.length < 4611686018427387904) :
    FnRow C (ρ.f 6) k (ps.map fun x => vals (enc x)) [.fn g0 []] ((ps.mergeSort fun x y => !(ltOf cf) y x).map fun x => vals (enc x)) := by
  subst hC
  refine ⟨hf, fun G w r u us hG hu hv => ?_⟩
  match us, hv with
  | [fv], hv =>
    simp only [VRs, VR, and_true] at hv
    obtain ⟨cs, rfl, hcs⟩ := hv
    have hcs0 : cs = #[] := by
      cases hl : cs.toList with
      | nil => exact Array.toList_eq_nil_iff.1 hl
      | cons a b => rw [hl] at hcs; simp [VRs] at hcs
    subst hcs0
    obtain ⟨_, ⟨rfl, hes⟩ | ⟨h0, _⟩ | ⟨cap, cur, T, rfl, h2, h3, h5, h6, h7, h8⟩⟩ := hu
    · have hps : ps = [] := by simpa using hes
      subst hps
      exact Calls.mono (AnyF.slices_SortFunc_none L none 0 _ w) fun e w' ⟨he, hw⟩ => ⟨he, .inl ⟨by simp, by subst hw; exact ⟨rfl, ⟨rfl, Nat.le_refl _⟩, rfl, Nat.le_refl _, fun _ _ => rfl⟩⟩⟩
    · omega
    · simp only [Nat.zero_mul, Nat.zero_add] at h7 h8
      have hlt : G.row r < w.heap.size := lt_of_heap h6
      obtain ⟨fn0, c0, hfn0, hname0, hb0⟩ := (hcmp default default).1
      have eg : ∀ args w, (callFunc g0 args).run C.P w = .ok (.enter g0 args) w := fun args w => run_enter hfn0 hname0 hb0 args w
      have hcell : ∀ i x, ps[i]? = some x → ∀ j v, (enc x)[j]? = some v → w.cell? ⟨G.row r, i * k + j, none⟩ = some v := fun i x hx j v hj => by
        obtain ⟨e1, e2⟩ := PRe.at_ _ _ k 0 h8 i (vals (enc x)) (by rw [List.getElem?_map, hx]; rfl)
        obtain ⟨us, k1, k2⟩ := PRc.list _ _ _ e2
        obtain ⟨v', hv', hp⟩ := PRl.get k1 j (.v v) (by simp [vals, hj])
        simp only [PR] at hp
        have := k2 j v' hv'
        rw [add_lit] at this
        rw [hp.1] at this
        simpa using this
      have hH : HoldsK enc k w (G.row r) 0 ps.toArray := fun j hj => by
        have hj' : j < ps.length * k := by simpa using hj
        have hd : j / k < ps.length := Nat.div_lt_of_lt_mul (by rwa [Nat.mul_comm])
        have hm : j % k < k := Nat.mod_lt _ hk0
        rw [get_flatK enc k _ j (by simpa using hj')]
        have hx : ps[j / k]? = some ps[j / k] := List.getElem?_eq_getElem hd
        have hv : (enc ps[j / k])[j % k]? = some (enc ps[j / k])[j % k]! := by
          rw [List.getElem?_eq_getElem (by rw [hk]; exact hm), getElem!_pos _ _ (by rw [hk]; exact hm)]
        have hc := hcell (j / k) _ hx (j % k) _ hv
        rw [Nat.div_add_mod' j k] at hc
        have hp : ps.toArray[j / k]! = ps[j / k] := by rw [getElem!_pos _ _ (by simpa using hd)]; simp
        rw [Nat.zero_add, hp]
        refine ⟨hc, ?_⟩
        simp [World.frozen?, h6]
      have hlays : CmpLays C.P g0 #[] enc k cf (G.row r) 0 ps.toArray.size w := fun m os dk hdk x y => by
        have hold : ∀ b, b < w.heap.size → isRo G b → isRo (roOnly G) b ∧ (sortWorldK enc k w (G.row r) 0 m dk os).heap[b]? = w.heap[b]? := fun b hb hr => by
          have hne : G.row r ≠ b := fun e => by rw [isRo_def, ← e, h5] at hr; cases hr
          refine ⟨by simp only [isRo_def, roOnly] at hr ⊢; rw [hr], ?_⟩
          simp only [sortWorldK, grow, putRowK, putRow, mapBlock, ahead]
          rw [Array.getElem?_append_left (by simpa using hb), Array.getElem?_modify, if_neg hne]
          rfl
        have hG' : Glob C (roOnly G) (sortWorldK enc k w (G.row r) 0 m dk os) := fun i cs hi => by
          obtain ⟨q1, q2, q3⟩ := hG i cs hi
          refine ⟨q1, by simp only [isRo_def, roOnly] at q2 ⊢; rw [q2], PRc.mono hold _ ⟨i, 0, none⟩ 0 q2 q3⟩
        have := cmp_calls (hcmp x y) (roOnly G) _ hG' (fun b => by simp only [roOnly]; cases G.own b <;> simp) (us := [.agg (enc x).toArray, .agg (enc y).toArray]) (by
          simp only [VRs, VR, and_true]
          exact ⟨⟨_, rfl, VRs_vals _⟩, ⟨_, rfl, VRs_vals _⟩⟩)
        exact this
      have hlen : (ps.map fun x => vals (enc x)).length = ps.toArray.size := by simp
      rw [hlen, Nat.zero_mul]
      refine Calls.mono (AnyQ.slices_SortFunc_total L k aE zE enc hk h1 cf hO g0 #[] (G.row r) 0 cap ps.toArray w eg hlays hH hlt (by simpa using hsz) hT) fun e w' ⟨he, n, os, hw⟩ => ?_
      refine ⟨he, .inr ?_⟩
      generalize hqs : (ps.mergeSort fun x y => !(ltOf cf) y x) = qs at hw
      have hql : qs.length = ps.length := by rw [← hqs]; simp
      have hcs : cur.size = cap * k := h7
      have hle : ps.length * k ≤ cur.size := by rw [hcs]; exact Nat.mul_le_mul_right _ (by simpa using h2)
      refine ⟨cur, putCells id 0 (flatK enc k qs.toArray) cur, T, ⟨h5, h6, by simp [putCells], fun p hp => ?_, ?_⟩, ?_⟩
      · have hp' : ps.length * k ≤ p := by
          rcases hp with h | h
          · omega
          · simpa [hql] using h
        simp only [putCells, Array.getElem?_mapIdx, size_flatK, List.size_toArray, hql]
        cases cur[p]? with
        | none => rfl
        | some y =>
          simp only [Option.map_some]
          rw [if_neg (by omega)]
      · refine PRe.of_at _ _ _ 0 fun i e he' => ?_
        rw [List.getElem?_map] at he'
        obtain ⟨x, hx, rfl⟩ := Option.map_eq_some_iff.1 he'
        refine ⟨by simp [vals, hk], ?_⟩
        refine PRc.of_list _ (enc x) _ _ (PRl_vals _ ?_) fun j v hj => ?_
        · have : ∀ zs : List Value, (∀ v ∈ zs, v.oneCell' = true) → okCells (vals zs) = true := by
            intro zs
            induction zs with
            | nil => intro _; rfl
            | cons z zs ih =>
              intro hz
              have := ih fun v hv => hz v (by simp [hv])
              simp only [vals, List.map_cons, okCells, okCell, Bool.and_eq_true] at this ⊢
              exact ⟨hz z (by simp), this⟩
          exact this _ (h1 x)
        · have hi : i < qs.length := by
            rcases Nat.lt_or_ge i qs.length with h | h
            · exact h
            · rw [List.getElem?_eq_none h] at hx; cases hx
          have hjk : j < k := by
            rcases Nat.lt_or_ge j (enc x).length with h | h
            · rwa [hk] at h
            · rw [List.getElem?_eq_none h] at hj; cases hj
          have hlt2 : i * k + j < qs.length * k := by
            have : (i + 1) * k ≤ qs.length * k := Nat.mul_le_mul_right _ hi
            rw [Nat.add_mul] at this
            omega
          simp only [Nat.zero_mul, Nat.zero_add, add_lit]
          rw [cell_of_row _ _ _ _ _ _ (setRow_heap w _ cur _ T _ h6)]
          simp only [putCells, Array.getElem?_mapIdx, size_flatK, List.size_toArray]
          rw [Array.getElem?_eq_getElem (by rw [hql] at hlt2; omega), Option.map_some, if_pos ⟨Nat.zero_le _, by omega⟩, Nat.sub_zero, get_flatK enc k _ _ (by simpa using hlt2)]
          have e1 : (i * k + j) / k = i := by rw [Nat.mul_comm, Nat.mul_add_div hk0, Nat.div_eq_of_lt hjk, Nat.add_zero]
          have e2 : (i * k + j) % k = j := by rw [Nat.mul_comm, Nat.mul_add_mod, Nat.mod_eq_of_lt hjk]
          have e3 : qs.toArray[i]! = x := by
            have e4 : qs.toArray[i]! = qs[i] := by rw [getElem!_pos _ _ (by simpa using hi)]; simp
            rw [e4]
            rw [List.getElem?_eq_getElem hi] at hx
            exact Option.some.inj hx
          rw [e1, e2, e3]
          rw [List.getElem?_eq_getElem (by rw [hk]; exact hjk)] at hj
          injection hj with hj
          rw [getElem!_pos _ _ (by rw [hk]; exact hjk), hj]
          rfl
      · subst hw
        refine ⟨rfl, ⟨rfl, Nat.le_add_right _ _⟩, rfl, ?_, fun b hb => ?_⟩
        · simp [sortWorldK, grow, putRowK, putRow, mapBlock, ahead, World.setRow]
        · have hb' : b < w.heap.size := by simpa [World.setRow] using hb
          simp only [sortWorldK, grow, putRowK, putRow, mapBlock, ahead]
          rw [Array.getElem?_append_left (by simpa using hb'), Array.getElem?_modify]
          by_cases hbr : G.row r = b
          · subst hbr
            have e : (Go.Sort.ahead w n).heap[G.row r]? = some (.cells cur T (0, 0)) := h6
            rw [if_pos rfl, e, setRow_heap w _ cur _ T _ h6]
            rfl
          · rw [if_neg hbr, setRow_other w _ _ _ (Ne.symm hbr)]
            rfl
  | [], hv => simp [VRs] at hv
  | _ :: _ :: _, hv => simp [VRs] at hv
end Go.Abs
open Go Go.Abs Go.Proofs
set_option maxRecDepth 100000
namespace Go.Rd
instance : Inhabited Proc := ⟨p0⟩
theorem cmpP_lt (p q : Proc) : Go.Proofs.ltOf cmpP p q = decide (cmpP p q < 0) := rfl
theorem cmpP_cases (p q : Proc) : (cmpP p q = -1 ∧ (p.site < q.site ∨ p.site = q.site ∧ (p.inc < q.inc ∨ p.inc = q.inc ∧ p.num < q.num))) ∨ (cmpP p q = 1 ∧ (q.site < p.site ∨ p.site = q.site ∧ (q.inc < p.inc ∨ p.inc = q.inc ∧ q.num < p.num))) ∨ (cmpP p q = 0 ∧ p = q) := by
  unfold cmpP
  repeat' split
  all_goals first
    | (left; refine ⟨rfl, ?_⟩; omega)
    | (right; left; refine ⟨rfl, ?_⟩; omega)
    | (right; right; refine ⟨rfl, ?_⟩; cases p; cases q; simp at *; omega)
theorem cmpP_swap (p q : Proc) : cmpP q p = - cmpP p q := by
  rcases cmpP_cases p q with ⟨h, h1⟩ | ⟨h, h1⟩ | ⟨h, h1⟩ <;> rcases cmpP_cases q p with ⟨k, k1⟩ | ⟨k, k1⟩ | ⟨k, k1⟩ <;> first | omega | (subst h1; omega) | (subst k1; omega)
theorem cmpP_eq {p q : Proc} (h : cmpP p q = 0) : p = q := by
  rcases cmpP_cases p q with ⟨k, _⟩ | ⟨k, _⟩ | ⟨_, k⟩
  · omega
  · omega
  · exact k
theorem cmpP_self (p : Proc) : cmpP p p = 0 := by
  have := cmpP_swap p p
  omega
theorem cmpP_trans {p q r : Proc} (h1 : cmpP p q < 0) (h2 : cmpP q r < 0) : cmpP p r < 0 := by
  rcases cmpP_cases p q with ⟨_, a⟩ | ⟨a, _⟩ | ⟨a, _⟩
  · rcases cmpP_cases q r with ⟨_, b⟩ | ⟨b, _⟩ | ⟨b, _⟩
    · rcases cmpP_cases p r with ⟨c, _⟩ | ⟨_, c⟩ | ⟨_, c⟩
      · omega
      · omega
      · subst c; omega
    · omega
    · omega
  · omega
  · omega
theorem swoP : Go.Sort.SWO (Go.Proofs.ltOf cmpP) where
  irrefl p := by rw [cmpP_lt, cmpP_self]; rfl
  trans p q r h1 h2 := by rw [cmpP_lt] at *; simp only [decide_eq_true_eq] at *; exact cmpP_trans h1 h2
  ntrans p q r h1 h2 := by
    rw [cmpP_lt] at *
    simp only [decide_eq_false_iff_not] at *
    intro h
    by_cases e : cmpP q p < 0
    · exact h2 (cmpP_trans e h)
    · have : cmpP p q = 0 := by have := cmpP_swap p q; omega
      rw [cmpP_eq this] at h
      exact h2 h
theorem totP (p q : Proc) (h1 : Go.Proofs.ltOf cmpP p q = false) (h2 : Go.Proofs.ltOf cmpP q p = false) : p = q := by
  rw [cmpP_lt] at *
  simp only [decide_eq_false_iff_not] at *
  refine cmpP_eq ?_
  have := cmpP_swap p q
  omega
def Proc.vs (p : Proc) : List Value := [.int .i64 p.site, .int .i64 p.inc, .int .i64 p.num]
theorem Proc.c_vals (p : Proc) : p.c = vals p.vs := rfl
def sortL (ps : List Proc) : List Proc := ps.mergeSort fun x y => !(Go.Proofs.ltOf cmpP) y x
theorem f158_row (ps : List Proc) (h : ps.length ≤ 1000000) : FnRow C0 158 3 (ps.map Proc.c) [.fn 47 []] ((sortL ps).map Proc.c) := by
  have := FnRow.sort (C := C0) rfl Tryz.sortP 3 (by omega) (fun w => Go.Abs.run_isAgg F.ag27) (fun w => Go.Abs.run_sizeOf F.sz27) Proc.vs (fun _ => rfl) (fun x v hv => by simp [Proc.vs] at hv; rcases hv with rfl | rfl | rfl <;> rfl) cmpP swoP totP 47
    (fun x y => f47_ok x y) ⟨Tryz.f158, Tryz.f158.body.getD .skip, by kernel_rfl, by kernel_rfl, by kernel_rfl⟩ ps (by omega)
  exact this
def compP : List Proc → List Proc
  | [] => []
  | [a] => [a]
  | a :: b :: l => if a = b then compP (b :: l) else a :: compP (b :: l)
end Go.Rd
