/- part 15 of the proof -/
import Derived.Test.YthelplgdpmhepaaGreatDoorT14
set_option linter.all false
open Go Go.Abs Go.Proofs
set_option maxRecDepth 100000
namespace Go.Rd
theorem wb {a b : Bool} (h : a = b) : WeakV (.v (.bool a)) (B b) := .eq (by rw [h])
theorem wi {a b : Int} (h : a = b) : WeakV (.v (.int .i64 a)) (I b) := .eq (by rw [h])
def hasP (l : List Proc) (p : Proc) : Bool := decide (p ∈ l)
theorem find_none_mem {α : Type} [DecidableEq α] {l : List α} {p : α} (h : l.find? (fun x => decide (x = p)) = none) : p ∉ l := by
  rw [List.find?_eq_none] at h
  intro hp
  simpa using h p hp
theorem f18_ok (l : List Proc) (p : Proc) (hl : l.length ≤ 1000000) : FnOK C0 18 [procsV l, .agg p.c] [] (B (hasP l p)) [] := by
  refine FnOK.intro (fn := Tryz.f18) (c := Tryz.f18.body.getD .skip) (by kernel_rfl) (by kernel_rfl) (by kernel_rfl) (by kernel_rfl) (by simp [Tryz.f18]) (by simp [names]) ?_
  unfold Tryz.f18
  simp (disch := omega) only [go_sem]
  refine loop_intro (α := Nat) (fun i => ⟨[(5, I i), (0, procsV l), (3, .ptr 192 0)], [(192, p.c)]⟩) (fun i => i ≤ (l).length ∧ (l.take i).find? (fun x => decide (x = p)) = none) (fun i => (l).length - i) 0 ⟨by omega, rfl⟩ ?_ ?_
  · refine Imp.weak ?_ ?_
    all_goals (try simp (disch := omega) only [go_sem])
    all_goals (try (repeat' (with_reducible apply And.intro)))
    all_goals (first | exact .nilOwn (by omega) | exact .nilNo (by omega) | exact .sl (by simp []) | exact .int (by simp []) | exact .eq (by simp []))
  rintro i ⟨hi, hP⟩ J hJ
  simp (disch := omega) only [go_sem]
  refine And.intro (fun hlt => ?_) (fun hge => ?_)
  rotate_left
  have hil : i = (l).length := by simp at hge; omega
  rotate_left
  obtain ⟨b, hb⟩ : ∃ b, (l)[i]? = some b := ⟨_, List.getElem?_eq_getElem (by simp at hlt; omega)⟩
  have hbm := List.mem_of_getElem? hb
  have hlt2 : i < (l).length := by simp at hlt; omega
  refine draw_mk 5 [([], [0]), ([], [5]), ([0, 1], [12, 13]), ([0, 1, 2], [14]), ([], [3]), ([0, 1, 2, 3, 4], [])] fol (by kernel_rfl) ?_
  simp (disch := omega) only [go_sem, List.getElem?_map, hb]
  · refine And.intro (fun h => ?_) (fun h => ?_)
    · have e : hasP l p = true := by simp at h; subst h; simp [hasP, hbm]
      simp (disch := omega) only [go_sem, e]
      refine ret_mk ⟨[], [], []⟩ _ (by (try simp (disch := omega) only [go_sem, resVs, resV]) <;> rfl) ⟨rfl, rfl⟩ (by simp) ?_ trivial
      simp (disch := omega) only [go_sem]
    · refine hJ _ (i + 1) ⟨by simp at hlt; omega, (by rw [find_take hP hb]; simp at h; simp [h])⟩ (by simp at hlt; omega) (Imp.weak (by simp (disch := omega) only [go_sem]) (by simp (disch := omega) only [go_sem]))
  · subst hil
    rw [List.take_length] at hP
    have e : hasP l p = false := by simp [hasP, find_none_mem hP]
    simp (disch := omega) only [go_sem, e]
    refine ret_mk ⟨[], [], []⟩ _ (by (try simp (disch := omega) only [go_sem, resVs, resV]) <;> rfl) ⟨rfl, rfl⟩ (by simp) ?_ trivial
    simp (disch := omega) only [go_sem]
def ord (a b : Int) : Int := if a < b then -1 else if b < a then 1 else 0
theorem f117_ok (a b : Int) : FnOK C0 117 [I a, I b] [] (I (ord a b)) [] := by
  refine FnOK.intro (fn := Tryz.f117) (c := Tryz.f117.body.getD .skip) (by kernel_rfl) (by kernel_rfl) (by kernel_rfl) (by kernel_rfl) (by simp [Tryz.f117]) (by simp [names]) ?_
  unfold Tryz.f117
  simp (disch := omega) only [go_sem]
  repeat' (with_reducible refine And.intro (fun h => ?_) (fun h => ?_))
  all_goals (refine ret_mk ⟨[], [], []⟩ _ (by (try simp (disch := omega) only [go_sem, resVs, resV]) <;> rfl) ⟨rfl, rfl⟩ (by simp) ?_ trivial)
  all_goals (try simp (disch := omega) only [go_sem])
  all_goals (first | refine wb ?_ | refine wi ?_ | refine .eq ?_)
  all_goals (first | (simp_all [ord] <;> omega) | (refine Bool.eq_iff_iff.2 ?_; simp_all [ord] <;> omega))
theorem cmpP_ord (p q : Proc) : cmpP p q = if ord p.site q.site ≠ 0 then ord p.site q.site else if ord p.inc q.inc ≠ 0 then ord p.inc q.inc else ord p.num q.num := by
  unfold cmpP ord
  repeat' split
  all_goals first | rfl | omega
theorem f77_ok (p q : Proc) : FnOK C0 77 [.agg p.c, .agg q.c] [] (I (cmpP p q)) [] := by
  refine FnOK.intro (fn := Tryz.f77) (c := Tryz.f77.body.getD .skip) (by kernel_rfl) (by kernel_rfl) (by kernel_rfl) (by kernel_rfl) (by simp [Tryz.f77]) (by simp [names]) ?_
  unfold Tryz.f77
  simp (disch := omega) only [go_sem]
  refine call_pure (f117_ok p.site q.site) (by simp (disch := omega) only [go_sem]) rfl ?_
  simp (disch := omega) only [go_sem]
  have hc := cmpP_ord p q
  refine And.intro (fun h => ?_) (fun h => ?_)
  · simp at h
    rw [if_pos h] at hc
    refine ret_mk ⟨[], [], []⟩ _ (by (try simp (disch := omega) only [go_sem, resVs, resV]) <;> rfl) ⟨rfl, rfl⟩ (by simp) ?_ trivial
    simp (disch := omega) only [go_sem]
    exact .eq (by rw [hc])
  simp at h
  rw [if_neg (by simp [h])] at hc
  refine call_pure (f117_ok p.inc q.inc) (by simp (disch := omega) only [go_sem]) rfl ?_
  simp (disch := omega) only [go_sem]
  refine And.intro (fun h => ?_) (fun h => ?_)
  · simp at h
    rw [if_pos h] at hc
    refine ret_mk ⟨[], [], []⟩ _ (by (try simp (disch := omega) only [go_sem, resVs, resV]) <;> rfl) ⟨rfl, rfl⟩ (by simp) ?_ trivial
    simp (disch := omega) only [go_sem]
    exact .eq (by rw [hc])
  simp at h
  rw [if_neg (by simp [h])] at hc
  refine call_pure (f117_ok p.num q.num) (by simp (disch := omega) only [go_sem]) rfl ?_
  simp (disch := omega) only [go_sem]
  refine ret_mk ⟨[], [], []⟩ _ (by (try simp (disch := omega) only [go_sem, resVs, resV]) <;> rfl) ⟨rfl, rfl⟩ (by simp) ?_ trivial
  simp (disch := omega) only [go_sem]
  exact .eq (by rw [hc])
theorem f119_ok (a : Amt) : FnOK C0 119 [.agg a.c] [] (B a.zero) [] := by
  refine FnOK.intro (fn := Tryz.f119) (c := Tryz.f119.body.getD .skip) (by kernel_rfl) (by kernel_rfl) (by kernel_rfl) (by kernel_rfl) (by simp [Tryz.f119]) (by simp [names]) ?_
  unfold Tryz.f119
  simp (disch := omega) only [go_sem]
  repeat' (with_reducible refine And.intro (fun h => ?_) (fun h => ?_))
  all_goals (refine ret_mk ⟨[], [], []⟩ _ (by (try simp (disch := omega) only [go_sem, resVs, resV]) <;> rfl) ⟨rfl, rfl⟩ (by simp) ?_ trivial)
  all_goals (try simp (disch := omega) only [go_sem])
  all_goals (first | refine wb ?_ | refine wi ?_ | refine .eq ?_)
  all_goals (first | (simp_all [Amt.zero] <;> omega) | (refine Bool.eq_iff_iff.2 ?_; simp_all [Amt.zero] <;> omega))
theorem f194_ok (r : Res) : FnOK C0 194 [.agg r.c] [] (B r.shaped) [] := by
  refine FnOK.intro (fn := Tryz.f194) (c := Tryz.f194.body.getD .skip) (by kernel_rfl) (by kernel_rfl) (by kernel_rfl) (by kernel_rfl) (by simp [Tryz.f194]) (by simp [names]) ?_
  unfold Tryz.f194
  simp (disch := omega) only [go_sem]
  repeat' (with_reducible refine And.intro (fun h => ?_) (fun h => ?_))
  all_goals (refine ret_mk ⟨[], [], []⟩ _ (by (try simp (disch := omega) only [go_sem, resVs, resV]) <;> rfl) ⟨rfl, rfl⟩ (by simp) ?_ trivial)
  all_goals (try simp (disch := omega) only [go_sem])
  all_goals (first | refine wb ?_ | refine wi ?_ | refine .eq ?_)
  all_goals (first | (simp_all [Res.shaped, between] <;> omega) | (refine Bool.eq_iff_iff.2 ?_; simp_all [Res.shaped, between] <;> omega))
theorem f195_ok (m : Int) : FnOK C0 195 [I m] [] (B (modeOK m)) [] := by
  refine FnOK.intro (fn := Tryz.f195) (c := Tryz.f195.body.getD .skip) (by kernel_rfl) (by kernel_rfl) (by kernel_rfl) (by kernel_rfl) (by simp [Tryz.f195]) (by simp [names]) ?_
  unfold Tryz.f195
  simp (disch := omega) only [go_sem]
  repeat' (with_reducible refine And.intro (fun h => ?_) (fun h => ?_))
  all_goals (refine ret_mk ⟨[], [], []⟩ _ (by (try simp (disch := omega) only [go_sem, resVs, resV]) <;> rfl) ⟨rfl, rfl⟩ (by simp) ?_ trivial)
  all_goals (try simp (disch := omega) only [go_sem])
  all_goals (first | refine wb ?_ | refine wi ?_ | refine .eq ?_)
  all_goals (first | (simp_all [modeOK, between] <;> omega) | (refine Bool.eq_iff_iff.2 ?_; simp_all [modeOK, between] <;> omega))
theorem f130_ok (r : Res) (a : Amt) : FnOK C0 130 [.agg r.c, .agg a.c] [] (B (r.fits a)) [] := by
  refine FnOK.intro (fn := Tryz.f130) (c := Tryz.f130.body.getD .skip) (by kernel_rfl) (by kernel_rfl) (by kernel_rfl) (by kernel_rfl) (by simp [Tryz.f130]) (by simp [names]) ?_
  unfold Tryz.f130
  simp (disch := omega) only [go_sem]
  repeat' (first
    | (with_reducible refine And.intro (fun h => ?_) (fun h => ?_))
    | ((with_reducible show callB _ _ 194 _ _ _); refine call_pure (f194_ok r) ?_ rfl ?_; (focus (simp (disch := omega) only [go_sem]; done)); try simp (disch := omega) only [go_sem])
    | ((with_reducible show callB _ _ 195 _ _ _); refine call_pure (f195_ok a.mode) ?_ rfl ?_; (focus (simp (disch := omega) only [go_sem]; done)); try simp (disch := omega) only [go_sem]))
  all_goals (refine ret_mk ⟨[], [], []⟩ _ (by (try simp (disch := omega) only [go_sem, resVs, resV]) <;> rfl) ⟨rfl, rfl⟩ (by simp) ?_ trivial)
  all_goals (try simp (disch := omega) only [go_sem])
  all_goals (first | refine wb ?_ | refine wi ?_ | refine .eq ?_)
  all_goals (first | (simp_all [Res.fits, between] <;> omega) | (refine Bool.eq_iff_iff.2 ?_; simp_all [Res.fits, between] <;> omega))
theorem f187_ok (l : List Wait) (p : Proc) (hl : l.length ≤ 1000000) : FnOK C0 187 [waitsV l, .agg p.c] [] (I (findW l p)) [] := by
  refine FnOK.intro (fn := Tryz.f187) (c := Tryz.f187.body.getD .skip) (by kernel_rfl) (by kernel_rfl) (by kernel_rfl) (by kernel_rfl) (by simp [Tryz.f187]) (by simp [names]) ?_
  unfold Tryz.f187
  simp (disch := omega) only [go_sem]
  refine loop_intro (α := Nat) (fun i => ⟨[(5, I i), (0, waitsV l), (3, .ptr 192 0)], [(192, p.c)]⟩) (fun i => i ≤ (l).length ∧ (l.take i).find? (fun h => decide (h.proc = p)) = none) (fun i => (l).length - i) 0 ⟨by omega, rfl⟩ ?_ ?_
  · refine Imp.weak ?_ ?_
    all_goals (try simp (disch := omega) only [go_sem])
    all_goals (try (repeat' (with_reducible apply And.intro)))
    all_goals (first | exact .nilOwn (by omega) | exact .nilNo (by omega) | exact .sl (by simp []) | exact .int (by simp []) | exact .eq (by simp []))
  rintro i ⟨hi, hP⟩ J hJ
  simp (disch := omega) only [go_sem]
  refine And.intro (fun hlt => ?_) (fun hge => ?_)
  rotate_left
  have hil : i = (l).length := by simp at hge; omega
  rotate_left
  obtain ⟨b, hb⟩ : ∃ b, (l)[i]? = some b := ⟨_, List.getElem?_eq_getElem (by simp at hlt; omega)⟩
  have hbm := List.mem_of_getElem? hb
  have hlt2 : i < (l).length := by simp at hlt; omega
  refine draw_mk 6 [([], [0]), ([], [5]), ([0, 1], [12, 13]), ([0, 1, 2], [14]), ([0, 1, 2, 3], [15]), ([], [3]), ([0, 1, 2, 3, 4, 5], [])] fol (by kernel_rfl) ?_
  simp (disch := omega) only [go_sem, List.getElem?_map, hb]
  · refine And.intro (fun h => ?_) (fun h => ?_)
    · have e : findW l p = i := by unfold findW; rw [idx_take hP b hb (by simpa using h)]
      simp (disch := omega) only [go_sem, e]
      refine ret_mk ⟨[], [], []⟩ _ (by (try simp (disch := omega) only [go_sem, resVs, resV]) <;> rfl) ⟨rfl, rfl⟩ (by simp) ?_ trivial
      simp (disch := omega) only [go_sem]
    · refine hJ _ (i + 1) ⟨by simp at hlt; omega, (by rw [find_take hP hb]; simp at h; simp [h])⟩ (by simp at hlt; omega) (Imp.weak (by simp (disch := omega) only [go_sem]) (by simp (disch := omega) only [go_sem]))
  · subst hil
    rw [List.take_length] at hP
    have e : findW l p = -1 := by
      unfold findW
      have : l.findIdx? (fun h => decide (h.proc = p)) = none := by
        rw [List.findIdx?_eq_none_iff]
        rw [List.find?_eq_none] at hP
        intro x hx
        simpa using hP x hx
      rw [this]
    simp (disch := omega) only [go_sem, e]
    refine ret_mk ⟨[], [], []⟩ _ (by (try simp (disch := omega) only [go_sem, resVs, resV]) <;> rfl) ⟨rfl, rfl⟩ (by simp) ?_ trivial
    simp (disch := omega) only [go_sem]
theorem f188_ok (l : List Hold) (p : Proc) (hl : l.length ≤ 1000000) : FnOK C0 188 [holdsV l, .agg p.c] [] (.agg (getH l p).c) [] := by
  refine FnOK.intro (fn := Tryz.f188) (c := Tryz.f188.body.getD .skip) (by kernel_rfl) (by kernel_rfl) (by kernel_rfl) (by kernel_rfl) (by simp [Tryz.f188]) (by simp [names]) ?_
  unfold Tryz.f188
  simp (disch := omega) only [go_sem]
  refine loop_intro (α := Nat) (fun i => ⟨[(5, I i), (0, holdsV l), (3, .ptr 192 0), (4, .ptr 256 0)], [(192, p.c), (256, (⟨0, 0⟩ : Amt).c)]⟩) (fun i => i ≤ (l).length ∧ (l.take i).find? (fun h => decide (h.proc = p)) = none) (fun i => (l).length - i) 0 ⟨by omega, rfl⟩ ?_ ?_
  · refine Imp.weak ?_ ?_
    all_goals (try simp (disch := omega) only [go_sem])
    all_goals (try (repeat' (with_reducible apply And.intro)))
    all_goals (first | exact .nilOwn (by omega) | exact .nilNo (by omega) | exact .sl (by simp []) | exact .int (by simp []) | exact .eq (by simp []))
  rintro i ⟨hi, hP⟩ J hJ
  simp (disch := omega) only [go_sem]
  refine And.intro (fun hlt => ?_) (fun hge => ?_)
  rotate_left
  have hil : i = (l).length := by simp at hge; omega
  rotate_left
  obtain ⟨b, hb⟩ : ∃ b, (l)[i]? = some b := ⟨_, List.getElem?_eq_getElem (by simp at hlt; omega)⟩
  have hbm := List.mem_of_getElem? hb
  have hlt2 : i < (l).length := by simp at hlt; omega
  refine draw_mk 6 [([], [0]), ([], [5]), ([0, 1], [12, 13]), ([0, 1, 2], [14]), ([0, 1, 2, 3], [15]), ([], [3]), ([0, 1, 2, 3, 4, 5], [])] fol (by kernel_rfl) ?_
  simp (disch := omega) only [go_sem, List.getElem?_map, hb]
  · refine And.intro (fun h => ?_) (fun h => ?_)
    · have e : getH l p = b.amt := by unfold getH; rw [find_at hP hb (by simpa using h)]
      simp (disch := omega) only [go_sem, e]
      refine ret_mk ⟨[], [], []⟩ _ (by (try simp (disch := omega) only [go_sem, resVs, resV]) <;> rfl) ⟨rfl, rfl⟩ (by simp) ?_ trivial
      simp (disch := omega) only [go_sem]
    · refine hJ _ (i + 1) ⟨by simp at hlt; omega, (by rw [find_take hP hb]; simp at h; simp [h])⟩ (by simp at hlt; omega) (Imp.weak (by simp (disch := omega) only [go_sem]) (by simp (disch := omega) only [go_sem]))
  · subst hil
    rw [List.take_length] at hP
    have e : getH l p = ⟨0, 0⟩ := by unfold getH; rw [hP]
    simp (disch := omega) only [go_sem, e]
    refine ret_mk ⟨[], [], []⟩ _ (by (try simp (disch := omega) only [go_sem, resVs, resV]) <;> rfl) ⟨rfl, rfl⟩ (by simp) ?_ trivial
    simp (disch := omega) only [go_sem]
theorem f228_ok (c : UInt8) : FnOK C0 228 [.v (.int .u8 c.toNat)] [] (B (letter c)) [] := by
  refine FnOK.intro (fn := Tryz.f228) (c := Tryz.f228.body.getD .skip) (by kernel_rfl) (by kernel_rfl) (by kernel_rfl) (by kernel_rfl) (by simp [Tryz.f228]) (by simp [names]) ?_
  unfold Tryz.f228
  simp (disch := omega) only [go_sem]
  repeat' (with_reducible refine And.intro (fun h => ?_) (fun h => ?_))
  all_goals (refine ret_mk ⟨[], [], []⟩ _ (by (try simp (disch := omega) only [go_sem, resVs, resV]) <;> rfl) ⟨rfl, rfl⟩ (by simp) ?_ trivial)
  all_goals (try simp (disch := omega) only [go_sem])
  all_goals (first | refine wb ?_ | refine wi ?_ | refine .eq ?_)
  all_goals (first | (simp_all [letter] <;> omega) | (refine Bool.eq_iff_iff.2 ?_; simp_all [letter] <;> omega))
theorem f229_ok (s : Bs) : FnOK C0 229 [.v (.string (str s))] [] (B (reserved s)) [] := by
  refine FnOK.intro (fn := Tryz.f229) (c := Tryz.f229.body.getD .skip) (by kernel_rfl) (by kernel_rfl) (by kernel_rfl) (by kernel_rfl) (by simp [Tryz.f229]) (by simp [names]) ?_
  unfold Tryz.f229
  simp (disch := omega) only [go_sem]
  repeat' (first
    | (with_reducible refine And.intro (fun h => ?_) (fun h => ?_))
)
  all_goals (refine ret_mk ⟨[], [], []⟩ _ (by (try simp (disch := omega) only [go_sem, resVs, resV]) <;> rfl) ⟨rfl, rfl⟩ (by simp) ?_ trivial)
  all_goals (try simp (disch := omega) only [go_sem])
  all_goals (first | refine wb ?_ | refine wi ?_ | refine .eq ?_)
  all_goals (first | (simp_all [reserved] <;> omega) | (refine Bool.eq_iff_iff.2 ?_; simp_all [reserved] <;> omega))
def part (c : UInt8) : Bool := letter c || other c
theorem f230_ok (c : UInt8) : FnOK C0 230 [.v (.int .u8 c.toNat)] [] (B (part c)) [] := by
  refine FnOK.intro (fn := Tryz.f230) (c := Tryz.f230.body.getD .skip) (by kernel_rfl) (by kernel_rfl) (by kernel_rfl) (by kernel_rfl) (by simp [Tryz.f230]) (by simp [names]) ?_
  unfold Tryz.f230
  simp (disch := omega) only [go_sem]
  repeat' (first
    | (with_reducible refine And.intro (fun h => ?_) (fun h => ?_))
    | ((with_reducible show callB _ _ 228 _ _ _); refine call_pure (f228_ok c) ?_ rfl ?_; (focus (simp (disch := omega) only [go_sem]; done)); try simp (disch := omega) only [go_sem]))
  all_goals (refine ret_mk ⟨[], [], []⟩ _ (by (try simp (disch := omega) only [go_sem, resVs, resV]) <;> rfl) ⟨rfl, rfl⟩ (by simp) ?_ trivial)
  all_goals (try simp (disch := omega) only [go_sem])
  all_goals (first | refine wb ?_ | refine wi ?_ | refine .eq ?_)
  all_goals (first | (simp_all [part, letter, other] <;> omega) | (refine Bool.eq_iff_iff.2 ?_; simp_all [part, letter, other] <;> omega))
theorem nameOK_ref (s : Bs) : nameOK s = (decide (1 ≤ s.length) && decide (s.length ≤ 12) && (match s with | [] => false | c :: _ => letter c) && !reserved s && s.all part) := by
  cases s with
  | nil => rfl
  | cons c l =>
    have h : ∀ (l : List UInt8) (k : Nat), ((l.zipIdx (k + 1)).all fun x => okc x.2 x.1) = l.all part := by
      intro l
      induction l with
      | nil => intro k; rfl
      | cons x l ih =>
        intro k
        simp only [List.zipIdx_cons, List.all_cons, ih]
        simp [okc, part]
    simp only [nameOK, allAt, List.zipIdx_cons, List.all_cons, h]
    simp only [okc, part]
    cases letter c <;> simp
theorem all_take {α : Type} {f : α → Bool} {l : List α} {i : Nat} {b : α} (hb : l[i]? = some b) : (l.take (i + 1)).all f = ((l.take i).all f && f b) := by
  simp [List.take_add_one, hb, List.all_append]
theorem all_false {α : Type} {f : α → Bool} {l : List α} {b : α} (hb : b ∈ l) (h : f b = false) : l.all f = false := by
  rw [List.all_eq_false]
  exact ⟨b, hb, by simp [h]⟩
theorem nameOK_cons (c : UInt8) (l s : Bs) (hs : s = c :: l) : nameOK s = (decide (s.length ≤ 12) && letter c && !reserved s && s.all part) := by
  rw [nameOK_ref]; subst hs; simp
theorem f191_ok (s : Bs) : FnOK C0 191 [.v (.string (str s))] [] (B (nameOK s)) [] := by
  refine FnOK.intro (fn := Tryz.f191) (c := Tryz.f191.body.getD .skip) (by kernel_rfl) (by kernel_rfl) (by kernel_rfl) (by kernel_rfl) (by simp [Tryz.f191]) (by simp [names]) ?_
  unfold Tryz.f191
  cases hs : s with
  | nil =>
    simp (disch := omega) only [go_sem, List.length_nil]
    refine ret_mk ⟨[], [], []⟩ _ (by (try simp (disch := omega) only [go_sem, resVs, resV]) <;> rfl) ⟨rfl, rfl⟩ (by simp) ?_ trivial
    simp (disch := omega) only [go_sem]
    exact wb (by decide)
  | cons c l =>
    have e3 : s[0]? = some c := by rw [hs]; rfl
    have hk := nameOK_cons c l s hs
    have e1 : ((s.length : Int) < 1) = False := by rw [hs]; simp; omega
    rw [← hs]
    clear hs
    by_cases h2 : 12 < s.length
    · have e2 : (12 < (s.length : Int)) = True := by simp; omega
      simp (disch := omega) only [go_sem, e1, e2, decide_false]
      refine ret_mk ⟨[], [], []⟩ _ (by (try simp (disch := omega) only [go_sem, resVs, resV]) <;> rfl) ⟨rfl, rfl⟩ (by simp) ?_ trivial
      simp (disch := omega) only [go_sem]
      exact .eq (by rw [hk]; simp; omega)
    · have e2 : (12 < (s.length : Int)) = False := by simp; omega
      have e5 : decide (s.length ≤ 12) = true := by simp; omega
      rw [e5] at hk
      simp (disch := omega) only [go_sem, e1, e2, e3, decide_false]
      refine call_pure (f228_ok c) (by simp (disch := omega) only [go_sem]) rfl ?_
      cases hc : letter c
      · rw [hc] at hk
        simp (disch := omega) only [go_sem, Bool.not_false, hk]
        refine ret_mk ⟨[], [], []⟩ _ (by (try simp (disch := omega) only [go_sem, resVs, resV]) <;> rfl) ⟨rfl, rfl⟩ (by simp) ?_ trivial
        simp (disch := omega) only [go_sem]
      simp (disch := omega) only [go_sem, Bool.not_true]
      refine call_pure (f229_ok s) (by simp (disch := omega) only [go_sem]) rfl ?_
      cases hr : reserved s
      rotate_left
      · rw [hr] at hk
        simp (disch := omega) only [go_sem, hk]
        refine ret_mk ⟨[], [], []⟩ _ (by (try simp (disch := omega) only [go_sem, resVs, resV]) <;> rfl) ⟨rfl, rfl⟩ (by simp) ?_ trivial
        simp (disch := omega) only [go_sem]
      simp (disch := omega) only [go_sem]
      refine loop_intro (α := Nat) (fun i => ⟨[(3, I i), (0, .v (.string (str s)))], []⟩) (fun i => i ≤ (s).length ∧ (s.take i).all part = true) (fun i => (s).length - i) 0 ⟨by omega, rfl⟩ ?_ ?_
      · refine Imp.weak ?_ ?_
        all_goals (try simp (disch := omega) only [go_sem])
        all_goals (try (repeat' (with_reducible apply And.intro)))
        all_goals (first | exact .nilOwn (by omega) | exact .nilNo (by omega) | exact .sl (by simp []) | exact .int (by simp []) | exact .eq (by simp []))
      rintro i ⟨hi, hP⟩ J hJ
      simp (disch := omega) only [go_sem]
      refine And.intro (fun hlt => ?_) (fun hge => ?_)
      rotate_left
      have hil : i = (s).length := by simp at hge; omega
      rotate_left
      obtain ⟨b, hb⟩ : ∃ b, (s)[i]? = some b := ⟨_, List.getElem?_eq_getElem (by simp at hlt; omega)⟩
      have hbm := List.mem_of_getElem? hb
      have hlt2 : i < (s).length := by simp at hlt; omega
      simp (disch := omega) only [go_sem, List.getElem?_map, hb]
      · refine call_pure (f230_ok b) (by simp (disch := omega) only [go_sem]) rfl ?_
        cases hp : part b
        · simp (disch := omega) only [go_sem, Bool.not_false]
          refine ret_mk ⟨[], [], []⟩ _ (by (try simp (disch := omega) only [go_sem, resVs, resV]) <;> rfl) ⟨rfl, rfl⟩ (by simp) ?_ trivial
          simp (disch := omega) only [go_sem]
          exact .eq (by rw [hk, all_false hbm hp]; simp)
        · simp (disch := omega) only [go_sem, Bool.not_true]
          refine hJ _ (i + 1) ⟨by simp at hlt; omega, (by rw [all_take hb, hP, hp]; rfl)⟩ (by simp at hlt; omega) (Imp.weak (by simp (disch := omega) only [go_sem]) (by simp (disch := omega) only [go_sem]))
      · subst hil
        rw [List.take_length] at hP
        refine ret_mk ⟨[], [], []⟩ _ (by (try simp (disch := omega) only [go_sem, resVs, resV]) <;> rfl) ⟨rfl, rfl⟩ (by simp) ?_ trivial
        simp (disch := omega) only [go_sem]
        exact .eq (by rw [hk, hc, hr, hP]; rfl)
theorem f190_ok (r : Res) : FnOK C0 190 [.agg r.c] [] (B (nameOK r.name && r.shaped && between r.home 0 3)) [] := by
  refine FnOK.intro (fn := Tryz.f190) (c := Tryz.f190.body.getD .skip) (by kernel_rfl) (by kernel_rfl) (by kernel_rfl) (by kernel_rfl) (by simp [Tryz.f190]) (by simp [names]) ?_
  unfold Tryz.f190
  simp (disch := omega) only [go_sem]
  repeat' (first
    | (with_reducible refine And.intro (fun h => ?_) (fun h => ?_))
    | ((with_reducible show callB _ _ 191 _ _ _); refine call_pure (f191_ok r.name) ?_ rfl ?_; (focus (simp (disch := omega) only [go_sem]; done)); try simp (disch := omega) only [go_sem])
    | ((with_reducible show callB _ _ 194 _ _ _); refine call_pure (f194_ok r) ?_ rfl ?_; (focus (simp (disch := omega) only [go_sem]; done)); try simp (disch := omega) only [go_sem]))
  all_goals (refine ret_mk ⟨[], [], []⟩ _ (by (try simp (disch := omega) only [go_sem, resVs, resV]) <;> rfl) ⟨rfl, rfl⟩ (by simp) ?_ trivial)
  all_goals (try simp (disch := omega) only [go_sem])
  all_goals (first | refine wb ?_ | refine wi ?_ | refine .eq ?_)
  all_goals (first | (simp_all [between] <;> omega) | (refine Bool.eq_iff_iff.2 ?_; simp_all [between] <;> omega))
theorem f231_ok (a b : Int) : FnOK C0 231 [I a, I b] [] (B (coversM a b)) [] := by
  refine FnOK.intro (fn := Tryz.f231) (c := Tryz.f231.body.getD .skip) (by kernel_rfl) (by kernel_rfl) (by kernel_rfl) (by kernel_rfl) (by simp [Tryz.f231]) (by simp [names]) ?_
  unfold Tryz.f231
  simp (disch := omega) only [go_sem]
  refine call_pure (f195_ok a) (by simp (disch := omega) only [go_sem]) rfl ?_
  cases ha : modeOK a
  · simp (disch := omega) only [go_sem, Bool.not_false]
    refine ret_mk ⟨[], [], []⟩ _ (by (try simp (disch := omega) only [go_sem, resVs, resV]) <;> rfl) ⟨rfl, rfl⟩ (by simp) ?_ trivial
    simp (disch := omega) only [go_sem]
    exact .eq (by simp [coversM, ha])
  simp (disch := omega) only [go_sem, Bool.not_true]
  refine call_pure (f195_ok b) (by simp (disch := omega) only [go_sem]) rfl ?_
  cases hb : modeOK b
  · simp (disch := omega) only [go_sem, Bool.not_false]
    refine ret_mk ⟨[], [], []⟩ _ (by (try simp (disch := omega) only [go_sem, resVs, resV]) <;> rfl) ⟨rfl, rfl⟩ (by simp) ?_ trivial
    simp (disch := omega) only [go_sem]
    exact .eq (by simp [coversM, hb])
  simp (disch := omega) only [go_sem, Bool.not_true]
  obtain rfl | rfl | rfl | rfl | rfl := mode_cases ha <;> obtain rfl | rfl | rfl | rfl | rfl := mode_cases hb
  all_goals (try simp (disch := omega) only [go_sem])
  all_goals (refine ret_mk ⟨[], [], []⟩ _ (by (try simp (disch := omega) only [go_sem, resVs, resV]) <;> rfl) ⟨rfl, rfl⟩ (by simp) ?_ trivial)
  all_goals simp (disch := omega) only [go_sem]
  all_goals exact wb (by decide)
theorem f233_ok (r : Res) (a : Amt) : FnOK C0 233 [.agg r.c, .agg a.c] [] (B (r.permits a)) [] := by
  refine FnOK.intro (fn := Tryz.f233) (c := Tryz.f233.body.getD .skip) (by kernel_rfl) (by kernel_rfl) (by kernel_rfl) (by kernel_rfl) (by simp [Tryz.f233]) (by simp [names]) ?_
  unfold Tryz.f233
  simp (disch := omega) only [go_sem]
  repeat' (first
    | (with_reducible refine And.intro (fun h => ?_) (fun h => ?_))
    | ((with_reducible show callB _ _ 194 _ _ _); refine call_pure (f194_ok r) ?_ rfl ?_; (focus (simp (disch := omega) only [go_sem]; done)); try simp (disch := omega) only [go_sem])
    | ((with_reducible show callB _ _ 119 _ _ _); refine call_pure (f119_ok a) ?_ rfl ?_; (focus (simp (disch := omega) only [go_sem]; done)); try simp (disch := omega) only [go_sem])
    | ((with_reducible show callB _ _ 130 _ _ _); refine call_pure (f130_ok r a) ?_ rfl ?_; (focus (simp (disch := omega) only [go_sem]; done)); try simp (disch := omega) only [go_sem]))
  all_goals (refine ret_mk ⟨[], [], []⟩ _ (by (try simp (disch := omega) only [go_sem, resVs, resV]) <;> rfl) ⟨rfl, rfl⟩ (by simp) ?_ trivial)
  all_goals (try simp (disch := omega) only [go_sem])
  all_goals (first | refine wb ?_ | refine wi ?_ | refine .eq ?_)
  all_goals (first | (simp_all [Res.permits] <;> omega) | (refine Bool.eq_iff_iff.2 ?_; simp_all [Res.permits] <;> omega))
theorem f75_ok (p : Proc) : FnOK C0 75 [.agg p.c] [] (B p.ok) [] := by
  refine FnOK.intro (fn := Tryz.f75) (c := Tryz.f75.body.getD .skip) (by kernel_rfl) (by kernel_rfl) (by kernel_rfl) (by kernel_rfl) (by simp [Tryz.f75]) (by simp [names]) ?_
  unfold Tryz.f75
  simp (disch := omega) only [go_sem]
  repeat' (with_reducible refine And.intro (fun h => ?_) (fun h => ?_))
  all_goals (refine ret_mk ⟨[], [], []⟩ _ (by (try simp (disch := omega) only [go_sem, resVs, resV]) <;> rfl) ⟨rfl, rfl⟩ (by simp) ?_ trivial)
  all_goals (try simp (disch := omega) only [go_sem])
  all_goals (first | refine wb ?_ | refine wi ?_ | refine .eq ?_)
  all_goals (first | (simp_all [Proc.ok, between] <;> omega) | (refine Bool.eq_iff_iff.2 ?_; simp_all [Proc.ok, between] <;> omega))
end Go.Rd
open Go Go.Abs Go.Proofs
set_option maxRecDepth 100000
namespace Go.Rd
theorem f276_ok (a b : Int) : FnOK C0 276 [I a, I b] [] (B (compatM a b)) [] := by
  refine FnOK.intro (fn := Tryz.f276) (c := Tryz.f276.body.getD .skip) (by kernel_rfl) (by kernel_rfl) (by kernel_rfl) (by kernel_rfl) (by simp [Tryz.f276]) (by simp [names]) ?_
  unfold Tryz.f276
  simp (disch := omega) only [go_sem]
  refine call_pure (f195_ok a) (by simp (disch := omega) only [go_sem]) rfl ?_
  cases ha : modeOK a
  · simp (disch := omega) only [go_sem, Bool.not_false]
    refine ret_mk ⟨[], [], []⟩ _ (by (try simp (disch := omega) only [go_sem, resVs, resV]) <;> rfl) ⟨rfl, rfl⟩ (by simp) ?_ trivial
    simp (disch := omega) only [go_sem]
    exact .eq (by simp [compatM, ha])
  simp (disch := omega) only [go_sem, Bool.not_true]
  refine call_pure (f195_ok b) (by simp (disch := omega) only [go_sem]) rfl ?_
  cases hb : modeOK b
  · simp (disch := omega) only [go_sem, Bool.not_false]
    refine ret_mk ⟨[], [], []⟩ _ (by (try simp (disch := omega) only [go_sem, resVs, resV]) <;> rfl) ⟨rfl, rfl⟩ (by simp) ?_ trivial
    simp (disch := omega) only [go_sem]
    exact .eq (by simp [compatM, hb])
  simp (disch := omega) only [go_sem, Bool.not_true]
  obtain rfl | rfl | rfl | rfl | rfl := mode_cases ha <;> obtain rfl | rfl | rfl | rfl | rfl := mode_cases hb
  all_goals (try simp (disch := omega) only [go_sem])
  all_goals (refine ret_mk ⟨[], [], []⟩ _ (by (try simp (disch := omega) only [go_sem, resVs, resV]) <;> rfl) ⟨rfl, rfl⟩ (by simp) ?_ trivial)
  all_goals simp (disch := omega) only [go_sem]
  all_goals exact wb (by decide)
theorem compatM_comm (a b : Int) : compatM a b = compatM b a := by
  cases ha : modeOK a
  · simp [compatM, ha]
  cases hb : modeOK b
  · simp [compatM, hb]
  obtain rfl | rfl | rfl | rfl | rfl := mode_cases ha <;> obtain rfl | rfl | rfl | rfl | rfl := mode_cases hb <;> decide
theorem f261_ok (l : List Hold) (hl : l.length ≤ 1000000) : FnOK C0 261 [holdsV l] [] (amtsV (l.map (·.amt))) [] := by
  refine FnOK.intro (fn := Tryz.f261) (c := Tryz.f261.body.getD .skip) (by kernel_rfl) (by kernel_rfl) (by kernel_rfl) (by kernel_rfl) (by simp [Tryz.f261]) (by simp [names]) ?_
  unfold Tryz.f261
  simp (disch := omega) only [go_sem]
  refine loop_intro (α := Nat) (fun i => ⟨[(4, I i), (0, holdsV l), (3, .sl (.own 1152 0) 2 ((l.take i).map fun h => h.amt.c))], []⟩) (fun i => i ≤ (l).length ∧ True) (fun i => (l).length - i) 0 ⟨by omega, trivial⟩ ?_ ?_
  · refine Imp.weak ?_ ?_
    all_goals (try simp (disch := omega) only [go_sem])
    all_goals (try (repeat' (with_reducible apply And.intro)))
    all_goals (first | exact .nilOwn (by omega) | exact .nilNo (by omega) | exact .sl (by simp []) | exact .int (by simp []) | exact .eq (by simp []))
  rintro i ⟨hi, hP⟩ J hJ
  simp (disch := omega) only [go_sem]
  refine And.intro (fun hlt => ?_) (fun hge => ?_)
  rotate_left
  have hil : i = (l).length := by simp at hge; omega
  rotate_left
  obtain ⟨b, hb⟩ : ∃ b, (l)[i]? = some b := ⟨_, List.getElem?_eq_getElem (by simp at hlt; omega)⟩
  have hbm := List.mem_of_getElem? hb
  have hlt2 : i < (l).length := by simp at hlt; omega
  simp (disch := omega) only [go_sem, List.getElem?_map, hb]
  · refine hJ _ (i + 1) ⟨by simp at hlt; omega, trivial⟩ (by simp at hlt; omega) (Imp.weak ?_ (by simp (disch := omega) only [go_sem]))
    simp (disch := omega) only [go_sem]
    exact .sl (by simp [List.take_add_one, hb, Amt.c])
  · subst hil
    refine ret_mk ⟨[], [], [1152]⟩ _ (by (try simp (disch := omega) only [go_sem, resVs, resV]) <;> rfl) ⟨rfl, rfl⟩ (by simp) ?_ trivial
    simp (disch := omega) only [go_sem, List.take_length]
    exact .sl (by simp [Amt.c])
theorem f227_ok (a : Amt) : FnOK C0 227 [.agg a.c] [] (B (lockR.fits a || poolR.fits a)) [] := by
  have e : (lockR.fits a || poolR.fits a) = (modeOK a.mode && a.units == 0 || (a.mode == 0 && decide (1 ≤ a.units) && decide (a.units ≤ 8))) := by
    refine Bool.eq_iff_iff.2 ?_
    simp [lockR, poolR, Res.fits, Res.shaped, between, and_assoc]
    exact ⟨fun h => h.imp id fun h => ⟨h.1, h.2.1, of_decide_eq_true h.2.2⟩, fun h => h.imp id fun h => ⟨h.1, h.2.1, decide_eq_true h.2.2⟩⟩
  rw [e]
  refine FnOK.intro (fn := Tryz.f227) (c := Tryz.f227.body.getD .skip) (by kernel_rfl) (by kernel_rfl) (by kernel_rfl) (by kernel_rfl) (by simp [Tryz.f227]) (by simp [names]) ?_
  unfold Tryz.f227
  simp (disch := omega) only [go_sem]
  repeat' (first
    | (with_reducible refine And.intro (fun h => ?_) (fun h => ?_))
    | ((with_reducible show callB _ _ 195 _ _ _); refine call_pure (f195_ok a.mode) ?_ rfl ?_; (focus (simp (disch := omega) only [go_sem]; done)); try simp (disch := omega) only [go_sem]))
  all_goals (refine ret_mk ⟨[], [], []⟩ _ (by (try simp (disch := omega) only [go_sem, resVs, resV]) <;> rfl) ⟨rfl, rfl⟩ (by simp) ?_ trivial)
  all_goals (try simp (disch := omega) only [go_sem])
  all_goals (first | refine wb ?_ | refine wi ?_ | refine .eq ?_)
  all_goals (first | (simp_all [] <;> omega) | (refine Bool.eq_iff_iff.2 ?_; simp_all [] <;> omega))
theorem f262_ok (w : Wait) : FnOK C0 262 [.agg w.c] [] (B w.ok) [] := by
  refine FnOK.intro (fn := Tryz.f262) (c := Tryz.f262.body.getD .skip) (by kernel_rfl) (by kernel_rfl) (by kernel_rfl) (by kernel_rfl) (by simp [Tryz.f262]) (by simp [names]) ?_
  unfold Tryz.f262
  simp (disch := omega) only [go_sem]
  repeat' (first
    | (with_reducible refine And.intro (fun h => ?_) (fun h => ?_))
    | ((with_reducible show callB _ _ 75 _ _ _); refine call_pure (f75_ok w.proc) ?_ rfl ?_; (focus (simp (disch := omega) only [go_sem]; done)); try simp (disch := omega) only [go_sem])
    | ((with_reducible show callB _ _ 227 _ _ _); refine call_pure (f227_ok w.amt) ?_ rfl ?_; (focus (simp (disch := omega) only [go_sem]; done)); try simp (disch := omega) only [go_sem]))
  all_goals (refine ret_mk ⟨[], [], []⟩ _ (by (try simp (disch := omega) only [go_sem, resVs, resV]) <;> rfl) ⟨rfl, rfl⟩ (by simp) ?_ trivial)
  all_goals (try simp (disch := omega) only [go_sem])
  all_goals (first | refine wb ?_ | refine wi ?_ | refine .eq ?_)
  all_goals (first | (simp_all [Wait.ok, between] <;> omega) | (refine Bool.eq_iff_iff.2 ?_; simp_all [Wait.ok, between] <;> omega))
theorem f223_ok (l : List Wait) (hl : l.length ≤ 1000000) : FnOK C0 223 [waitsV l] [] (B (lineOK l)) [] := by
  refine FnOK.intro (fn := Tryz.f223) (c := Tryz.f223.body.getD .skip) (by kernel_rfl) (by kernel_rfl) (by kernel_rfl) (by kernel_rfl) (by simp [Tryz.f223]) (by simp [names]) ?_
  unfold Tryz.f223
  by_cases h1 : 8 < l.length
  · have e1 : (8 < (l.length : Int)) = True := by simp; omega
    simp (disch := omega) only [go_sem, e1]
    refine ret_mk ⟨[], [], []⟩ _ (by (try simp (disch := omega) only [go_sem, resVs, resV]) <;> rfl) ⟨rfl, rfl⟩ (by simp) ?_ trivial
    simp (disch := omega) only [go_sem]
    exact .eq (by simp [lineOK]; omega)
  have e1 : (8 < (l.length : Int)) = False := by simp; omega
  simp (disch := omega) only [go_sem, e1, decide_false]
  refine loop_intro (α := Nat) (fun i => ⟨[(3, I i), (0, waitsV l)], []⟩) (fun i => i ≤ (l).length ∧ allAt (linePos l) (l.take i) = true) (fun i => (l).length - i) 0 ⟨by omega, rfl⟩ ?_ ?_
  · refine Imp.weak ?_ ?_
    all_goals (try simp (disch := omega) only [go_sem])
    all_goals (try (repeat' (with_reducible apply And.intro)))
    all_goals (first | exact .nilOwn (by omega) | exact .nilNo (by omega) | exact .sl (by simp []) | exact .int (by simp []) | exact .eq (by simp []))
  rintro i ⟨hi, hP⟩ J hJ
  simp (disch := omega) only [go_sem]
  refine And.intro (fun hlt => ?_) (fun hge => ?_)
  rotate_left
  have hil : i = (l).length := by simp at hge; omega
  rotate_left
  obtain ⟨b, hb⟩ : ∃ b, (l)[i]? = some b := ⟨_, List.getElem?_eq_getElem (by simp at hlt; omega)⟩
  have hbm := List.mem_of_getElem? hb
  have hlt2 : i < (l).length := by simp at hlt; omega
  simp (disch := omega) only [go_sem, List.getElem?_map, hb]
  · refine call_pure (f262_ok b) (by simp (disch := omega) only [go_sem]) rfl ?_
    cases hw : b.ok
    · have e : lineOK l = false := by simp [lineOK, allAt_false hb (show linePos l i b = false by simp [linePos, hw])]
      simp (disch := omega) only [go_sem, Bool.not_false, e]
      refine ret_mk ⟨[], [], []⟩ _ (by (try simp (disch := omega) only [go_sem, resVs, resV]) <;> rfl) ⟨rfl, rfl⟩ (by simp) ?_ trivial
      simp (disch := omega) only [go_sem]
    simp (disch := omega) only [go_sem, Bool.not_true, List.getElem?_map, hb]
    refine call_pure (f187_ok l b.proc (by omega)) (by simp (disch := omega) only [go_sem]) rfl ?_
    simp (disch := omega) only [go_sem]
    refine And.intro (fun h => ?_) (fun h => ?_)
    · have e : lineOK l = false := by simp [lineOK, allAt_false hb (show linePos l i b = false by simp at h; simp [linePos, h])]
      simp (disch := omega) only [go_sem, e]
      refine ret_mk ⟨[], [], []⟩ _ (by (try simp (disch := omega) only [go_sem, resVs, resV]) <;> rfl) ⟨rfl, rfl⟩ (by simp) ?_ trivial
      simp (disch := omega) only [go_sem]
    · refine hJ _ (i + 1) ⟨by simp at hlt; omega, (by rw [allAt_take hb, hP]; simp at h; simp [linePos, hw, h])⟩ (by simp at hlt; omega) (Imp.weak (by simp (disch := omega) only [go_sem]) (by simp (disch := omega) only [go_sem]))
  · subst hil
    rw [List.take_length] at hP
    have e : lineOK l = true := by simp [lineOK, hP]; omega
    simp (disch := omega) only [go_sem, e]
    refine ret_mk ⟨[], [], []⟩ _ (by (try simp (disch := omega) only [go_sem, resVs, resV]) <;> rfl) ⟨rfl, rfl⟩ (by simp) ?_ trivial
    simp (disch := omega) only [go_sem]
end Go.Rd
open Go Go.Abs Go.Proofs
set_option maxRecDepth 100000
namespace Go.Rd
def seenOf (l : List Amt) : List Bool := (List.range 6).map fun k : Nat => decide (k ≠ 0) && l.any fun a => a.mode == ((k : Nat) : Int)
theorem seenOf_nil : seenOf [] = no6 := rfl
theorem seenOf_len (l : List Amt) : (seenOf l).length = 6 := by simp [seenOf]
theorem seenOf_get (l : List Amt) (k : Nat) (hk : k < 6) : (seenOf l).getD k false = (decide (k ≠ 0) && l.any fun a => a.mode == (k : Int)) := by
  simp [seenOf, List.getD, hk]
theorem seenOf_snoc0 (l : List Amt) (a : Amt) (h : a.mode = 0) : seenOf (l ++ [a]) = seenOf l := by
  unfold seenOf
  refine List.map_congr_left fun k hk => ?_
  simp only [List.any_append, List.any_cons, List.any_nil, h]
  by_cases hk0 : k = 0
  · simp [hk0]
  · have : ((0 : Int) == (k : Int)) = false := by simp; omega
    simp [this]
theorem seenOf_snoc (l : List Amt) (a : Amt) (h : modeOK a.mode = true) : seenOf (l ++ [a]) = (seenOf l).set a.mode.toNat true := by
  have hm := mode_cases h
  refine List.ext_getElem (by simp [seenOf]) fun k h1 h2 => ?_
  have hk : k < 6 := by simpa [seenOf] using h1
  simp only [seenOf, List.getElem_map, List.getElem_range, List.any_append, List.any_cons, List.any_nil, List.getElem_set]
  by_cases hx : a.mode.toNat = k
  · have e : (a.mode == (k : Int)) = true := by simp; omega
    rw [if_pos hx, e]
    have : decide (k ≠ 0) = true := by simp; omega
    simp [this]
  · have e : (a.mode == (k : Int)) = false := by simp; omega
    rw [if_neg hx, e]
    simp
theorem seenOK_of {l : List Amt} {m : Int} (h : ∀ a ∈ l, a.mode ≠ 0 → compatM m a.mode = true) : seenOK (seenOf l) m = true := by
  unfold seenOK
  rw [List.all_eq_true]
  intro k hk
  have hk6 : k < 6 := by simpa using hk
  rw [seenOf_get l k hk6]
  by_cases hk0 : k = 0
  · simp [hk0]
  cases ha : l.any fun a => a.mode == (k : Int)
  · simp
  · obtain ⟨a, hm, he⟩ := List.any_eq_true.1 ha
    have he' : a.mode = k := by simpa using he
    have := h a hm (by omega)
    rw [he', compatM_comm] at this
    simp [this]
theorem seenOK_bad {l : List Amt} {m : Int} {a : Amt} (hm : a ∈ l) (h0 : modeOK a.mode = true) (h : compatM m a.mode = false) : seenOK (seenOf l) m = false := by
  have hc := mode_cases h0
  unfold seenOK
  rw [List.all_eq_false]
  refine ⟨a.mode.toNat, by simp; omega, ?_⟩
  rw [seenOf_get l _ (by omega)]
  have e1 : decide (a.mode.toNat ≠ 0) = true := by simp; omega
  have e2 : ((a.mode.toNat : Nat) : Int) = a.mode := by omega
  have e3 : (l.any fun b => b.mode == ((a.mode.toNat : Nat) : Int)) = true := by
    rw [List.any_eq_true]
    exact ⟨a, hm, by simp [e2]⟩
  rw [e1, e3, e2, compatM_comm, h]
  decide
theorem permits_lock {r : Res} {a : Amt} (hk : r.kind = 1) (h : r.permits a = true) : a.units = 0 ∧ (a.mode = 0 ∨ modeOK a.mode = true) ∧ a.zero = decide (a.mode = 0) := by
  simp only [Res.permits, Bool.and_eq_true, Bool.or_eq_true, Res.fits, hk, if_true] at h
  obtain ⟨h1, h2 | h2⟩ := h
  · have hz := h2
    simp [Amt.zero] at h2
    exact ⟨h2.2, .inl h2.1, by rw [hz]; simp [h2.1]⟩
  · obtain ⟨_, h3, h4⟩ := h2
    have := mode_cases h3
    simp at h4
    exact ⟨h4, .inr h3, by simp [Amt.zero, h4]; rfl⟩
theorem permits_pool {r : Res} {a : Amt} (hk : r.kind = 2) (h : r.permits a = true) : 0 ≤ a.units ∧ a.units ≤ 8 ∧ a.mode = 0 := by
  have h' := permits_amt h
  simp only [Res.permits, Bool.and_eq_true, Bool.or_eq_true, Res.fits, hk] at h
  obtain ⟨h1, h2 | h2⟩ := h
  · simp [Amt.zero] at h2
    omega
  · simp at h2
    omega
theorem shaped_kind {r : Res} (h : r.shaped = true) : (r.kind = 1 ∧ r.units = 1) ∨ r.kind = 2 := by
  simp only [Res.shaped] at h
  split at h
  · simp at h; exact .inl ⟨by assumption, h⟩
  · split at h
    · exact .inr (by assumption)
    · cases h
theorem compatL_snoc (r : Res) (b : Amt) (l : List Amt) (s : Int) (seen : List Bool) : compatL r (b :: l) s seen = (r.permits b && !decide (r.units < s + b.units) && (if b.mode = 0 then compatL r l (s + b.units) seen else seenOK seen b.mode && compatL r l (s + b.units) (seen.set b.mode.toNat true))) := rfl
theorem f260_ok (r : Res) (l : List Amt) (hl : l.length ≤ 1000000) : FnOK C0 260 [.agg r.c, amtsV l] [] (B (r.compat l)) [] := by
  refine FnOK.intro (fn := Tryz.f260) (c := Tryz.f260.body.getD .skip) (by kernel_rfl) (by kernel_rfl) (by kernel_rfl) (by kernel_rfl) (by simp [Tryz.f260]) (by simp [names]) ?_
  unfold Tryz.f260
  simp (disch := omega) only [go_sem]
  refine call_pure (f194_ok r) (by simp (disch := omega) only [go_sem]) rfl ?_
  cases hs : r.shaped
  · have e : r.compat l = false := by simp [Res.compat, hs]
    simp (disch := omega) only [go_sem, Bool.not_false, e]
    refine ret_mk ⟨[], [], []⟩ _ (by (try simp (disch := omega) only [go_sem, resVs, resV]) <;> rfl) ⟨rfl, rfl⟩ (by simp) ?_ trivial
    simp (disch := omega) only [go_sem]
  obtain ⟨hu1, hu2⟩ := shaped_units hs
  have hkind := shaped_kind hs
  have hcomp : r.compat l = compatL r l 0 no6 := by simp [Res.compat, hs]
  simp (disch := omega) only [go_sem, Bool.not_true]
  refine loop_intro (α := Nat × Int) (fun q => ⟨[(6, I q.1), (1, amtsV l), (5, I q.2), (2, .ptr 128 0)], [(128, r.c)]⟩)
    (fun q => q.1 ≤ l.length ∧ (r.kind = 1 → q.2 = 0) ∧ 0 ≤ q.2 ∧ q.2 ≤ 8 ∧ (∀ a ∈ l.take q.1, r.permits a = true) ∧ compatL r (l.drop q.1) q.2 (seenOf (l.take q.1)) = compatL r l 0 no6) (fun q => l.length - q.1) (0, 0) ⟨by simp, by simp, by simp, by simp, by simp, by simp [seenOf_nil]⟩ ?_ ?_
  · refine Imp.weak ?_ ?_
    · simp (disch := omega) only [go_sem]
    · simp (disch := omega) only [go_sem]
  rintro ⟨i, sum⟩ ⟨hi, hk1, hs0, hs8, hperm, hc⟩ J hJ
  replace hi : i ≤ l.length := hi
  replace hk1 : r.kind = 1 → sum = 0 := hk1
  replace hs0 : 0 ≤ sum := hs0
  replace hs8 : sum ≤ 8 := hs8
  replace hperm : ∀ a ∈ l.take i, r.permits a = true := hperm
  replace hc : compatL r (l.drop i) sum (seenOf (l.take i)) = compatL r l 0 no6 := hc
  simp (disch := omega) only [go_sem]
  refine And.intro (fun hlt => ?_) (fun hge => ?_)
  · have hlt' : i < l.length := by simp at hlt; omega
    obtain ⟨b, hb⟩ : ∃ b, l[i]? = some b := ⟨_, List.getElem?_eq_getElem hlt'⟩
    have hd : l.drop i = b :: l.drop (i + 1) := by
      rw [List.drop_eq_getElem_cons hlt']
      rw [List.getElem?_eq_getElem hlt'] at hb
      injection hb with hb
      rw [hb]
    have ht : l.take (i + 1) = l.take i ++ [b] := by rw [List.take_add_one, hb]; rfl
    rw [hd] at hc
    simp only [compatL] at hc
    refine draw_mk 5 [([], [2]), ([], [1]), ([], [6]), ([1, 2], [18, 19]), ([1, 2, 3], [20]), ([0, 1, 2, 3, 4], []), ([0, 1, 2, 3, 4, 5], [])] fol (by kernel_rfl) ?_
    simp (disch := omega) only [go_sem, List.getElem?_map, hb]
    refine call_pure (f233_ok r b) (by simp (disch := omega) only [go_sem]) rfl ?_
    cases hp : r.permits b
    · have e : r.compat l = false := by rw [hcomp, ← hc, hp]; rfl
      simp (disch := omega) only [go_sem, Bool.not_false, e]
      refine ret_mk ⟨[], [], []⟩ _ (by (try simp (disch := omega) only [go_sem, resVs, resV]) <;> rfl) ⟨rfl, rfl⟩ (by simp) ?_ trivial
      simp (disch := omega) only [go_sem]
    obtain ⟨hb0, hb8, hbm⟩ := permits_amt hp
    have hperm' : ∀ a ∈ l.take (i + 1), r.permits a = true := fun a ha => by
      rw [ht] at ha
      rcases List.mem_append.1 ha with h | h
      · exact hperm a h
      · simp at h; rw [h]; exact hp
    rw [hp] at hc
    by_cases hk2 : r.kind = 2
    · have e2 : (r.kind == 2) = true := by simp [hk2]
      obtain ⟨_, _, hm⟩ := permits_pool hk2 hp
      by_cases hgt : r.units < sum + b.units
      · have e : r.compat l = false := by rw [hcomp, ← hc]; simp [hgt]
        simp (disch := omega) only [go_sem, Bool.not_true, e2, List.getElem?_map, hb, hgt, e]
        refine ret_mk ⟨[], [], []⟩ _ (by (try simp (disch := omega) only [go_sem, resVs, resV]) <;> rfl) ⟨rfl, rfl⟩ (by simp) ?_ trivial
        simp (disch := omega) only [go_sem]
      simp (disch := omega) only [go_sem, Bool.not_true, e2, List.getElem?_map, hb, hgt, decide_false]
      refine hJ _ (i + 1, sum + b.units) ⟨by simp; omega, by simp; omega, by simp; omega, by simp; omega, hperm', ?_⟩ (by simp; omega) (Imp.weak (by simp (disch := omega) only [go_sem]) (by simp (disch := omega) only [go_sem]))
      simp only [ht]
      rw [seenOf_snoc0 _ _ hm]
      simpa [hgt, hm] using hc
    have hk1' : r.kind = 1 := by rcases hkind with h | h; exact h.1; exact absurd h hk2
    have hru : r.units = 1 := by rcases hkind with h | h; exact h.2; exact absurd h hk2
    have e2 : (r.kind == 2) = false := by simp [hk2]
    have hsum := hk1 hk1'
    subst hsum
    obtain ⟨hbu, hbmm, hbz⟩ := permits_lock hk1' hp
    have hgt : ¬ r.units < 0 + b.units := by omega
    have hcs : (if b.mode = 0 then compatL r (l.drop (i + 1)) 0 (seenOf (l.take i)) else seenOK (seenOf (l.take i)) b.mode && compatL r (l.drop (i + 1)) 0 ((seenOf (l.take i)).set b.mode.toNat true)) = compatL r l 0 no6 := by
      rw [hbu] at hc hgt
      simp only [Int.add_zero] at hc hgt
      rw [decide_eq_false hgt] at hc
      exact hc
    simp (disch := omega) only [go_sem, Bool.not_true, e2]
    refine loop_intro (α := Nat) (fun k => ⟨[(7, I k), (6, I i), (1, amtsV l), (5, I 0), (2, .ptr 128 0)], [(128, r.c)]⟩)
      (fun k => k ≤ i ∧ (b.mode = 0 ∨ ∀ a ∈ l.take k, a.mode ≠ 0 → compatM b.mode a.mode = true)) (fun k => i - k) 0 ⟨by omega, .inr (by simp)⟩ ?_ ?_
    · refine Imp.weak ?_ ?_
      · simp (disch := omega) only [go_sem]
      · simp (disch := omega) only [go_sem]
    rintro k ⟨hk, hka⟩ J2 hJ2
    simp (disch := omega) only [go_sem]
    refine And.intro (fun hlt3 => ?_) (fun hge3 => ?_)
    · have hki : k < i := by simp at hlt3; omega
      obtain ⟨a, ha⟩ : ∃ a, l[k]? = some a := ⟨_, List.getElem?_eq_getElem (by omega)⟩
      have hak : l.take (k + 1) = l.take k ++ [a] := by rw [List.take_add_one, ha]; rfl
      have ham : a ∈ l.take i := by
        rw [List.mem_take_iff_getElem]
        exact ⟨k, by omega, by rw [List.getElem?_eq_getElem (by omega)] at ha; injection ha⟩
      obtain ⟨hau, hamm, haz⟩ := permits_lock hk1' (hperm a ham)
      refine draw_mk 25 [([], [1]), ([], [6]), ([0, 1], [43, 44]), ([0, 1, 2], [45]), ([0, 1, 2, 3], [46]), ([0, 1, 2, 3, 4], [47]), ([0, 1, 2, 3, 4, 5], [48]), ([0, 1, 2, 3, 4, 5, 6], [1, 49]), ([0, 1, 2, 3, 4, 5, 6], [7, 49]), ([0, 1, 2, 3, 4, 5, 6, 7, 8], [50, 51, 49]), ([0, 1, 2, 3, 4, 5, 6, 7, 8, 9], [52, 49]), ([0, 1, 2, 3, 4, 5, 6, 7, 8, 9, 10], [53, 49]), ([0, 1, 2, 3, 4, 5, 6, 7, 8, 9, 10, 11], [54, 49]), ([0, 1, 2, 3, 4, 5, 6, 7, 8, 9, 10, 11, 12], [49, 55]), ([0, 1, 2, 3, 4, 5, 6, 7, 8, 9, 10, 11, 12, 13], [56]), ([0, 1, 2, 3, 4, 5, 6, 7, 8, 9, 10, 11, 12, 13, 14], [1, 57]), ([0, 1, 2, 3, 4, 5, 6, 7, 8, 9, 10, 11, 12, 13, 14], [6, 57]), ([0, 1, 2, 3, 4, 5, 6, 7, 8, 9, 10, 11, 12, 13, 14, 15, 16], [58, 59, 57]), ([0, 1, 2, 3, 4, 5, 6, 7, 8, 9, 10, 11, 12, 13, 14, 15, 16, 17], [60, 57]), ([0, 1, 2, 3, 4, 5, 6, 7, 8, 9, 10, 11, 12, 13, 14, 15, 16, 17, 18], [61, 57]), ([0, 1, 2, 3, 4, 5, 6, 7, 8, 9, 10, 11, 12, 13, 14], [1, 57]), ([0, 1, 2, 3, 4, 5, 6, 7, 8, 9, 10, 11, 12, 13, 14], [7, 57]), ([0, 1, 2, 3, 4, 5, 6, 7, 8, 9, 10, 11, 12, 13, 14, 20, 21], [63, 64, 57]), ([0, 1, 2, 3, 4, 5, 6, 7, 8, 9, 10, 11, 12, 13, 14, 20, 21, 22], [65, 57]), ([0, 1, 2, 3, 4, 5, 6, 7, 8, 9, 10, 11, 12, 13, 14, 20, 21, 22, 23], [66, 57]), ([0, 1, 2, 3, 4, 5, 6, 7, 8, 9, 10, 11, 12, 13, 14, 15, 16, 17, 18, 19, 20, 21, 22, 23, 24], []), ([0, 1, 2, 3, 4, 5, 6, 7, 8, 9, 10, 11, 12, 13, 14, 15, 16, 17, 18, 19, 20, 21, 22, 23, 24, 25], []), ([0, 1, 2, 3, 4, 5, 6, 7, 8, 9, 10, 11, 12, 13, 14, 15, 16, 17, 18, 19, 20, 21, 22, 23, 24, 25, 26], [])] fol (by kernel_rfl) ?_
      simp (disch := omega) only [go_sem, List.getElem?_map, hb, ha]
      refine freeCall_mk ⟨⟨[], [], []⟩, [], []⟩ (f119_ok b) (by simp (disch := omega) only [go_sem]) rfl rfl trivial (.inl rfl) ?_
      rw [hbz]
      by_cases hbm0 : b.mode = 0
      · simp (disch := omega) only [go_sem, hbm0, decide_true, Bool.not_true]
        refine hJ2 _ (k + 1) ⟨by omega, .inl hbm0⟩ (by omega) (Imp.weak (by simp (disch := omega) only [go_sem]) (by simp (disch := omega) only [go_sem]))
      simp (disch := omega) only [go_sem, hbm0, decide_false, Bool.not_false, List.getElem?_map, ha, hb]
      refine freeCall_mk ⟨⟨[], [], []⟩, [], []⟩ (f119_ok a) (by simp (disch := omega) only [go_sem]) rfl rfl trivial (.inl rfl) ?_
      rw [haz]
      by_cases ham0 : a.mode = 0
      · simp (disch := omega) only [go_sem, ham0, decide_true, Bool.not_true]
        refine hJ2 _ (k + 1) ⟨by omega, ?_⟩ (by omega) (Imp.weak (by simp (disch := omega) only [go_sem]) (by simp (disch := omega) only [go_sem]))
        rcases hka with h | h
        · exact .inl h
        · refine .inr fun x hx hx0 => ?_
          rw [hak] at hx
          rcases List.mem_append.1 hx with h' | h'
          · exact h x h' hx0
          · simp at h'; rw [h'] at hx0; exact absurd ham0 hx0
      simp (disch := omega) only [go_sem, ham0, decide_false, Bool.not_false, List.getElem?_map, hb, ha]
      refine call_pure (f276_ok b.mode a.mode) (by simp (disch := omega) only [go_sem]) rfl ?_
      have hamo : modeOK a.mode = true := by rcases hamm with h | h; exact absurd h ham0; exact h
      cases hcm : compatM b.mode a.mode
      · have e : r.compat l = false := by
          rw [hcomp, ← hcs, if_neg hbm0, seenOK_bad ham hamo hcm]; rfl
        simp (disch := omega) only [go_sem, Bool.not_false, e]
        refine ret_mk ⟨[], [], []⟩ _ (by (try simp (disch := omega) only [go_sem, resVs, resV]) <;> rfl) ⟨rfl, rfl⟩ (by simp) ?_ trivial
        simp (disch := omega) only [go_sem]
      · simp (disch := omega) only [go_sem, Bool.not_true]
        refine hJ2 _ (k + 1) ⟨by omega, ?_⟩ (by omega) (Imp.weak (by simp (disch := omega) only [go_sem]) (by simp (disch := omega) only [go_sem]))
        rcases hka with h | h
        · exact .inl h
        · refine .inr fun x hx hx0 => ?_
          rw [hak] at hx
          rcases List.mem_append.1 hx with h' | h'
          · exact h x h' hx0
          · simp at h'; rw [h']; exact hcm
    · have hki : k = i := by simp at hge3; omega
      subst hki
      refine hJ _ (k + 1, 0) ⟨by simp; omega, by simp, by simp, by simp, hperm', ?_⟩ (by simp; omega) (Imp.weak (by simp (disch := omega) only [go_sem]) (by simp (disch := omega) only [go_sem]))
      simp only [ht]
      by_cases hbm0 : b.mode = 0
      · rw [seenOf_snoc0 _ _ hbm0]
        rwa [if_pos hbm0] at hcs
      · have hbo : modeOK b.mode = true := by rcases hbmm with h | h; exact absurd h hbm0; exact h
        rw [seenOf_snoc _ _ hbo]
        rw [if_neg hbm0] at hcs
        have hso : seenOK (seenOf (l.take k)) b.mode = true := seenOK_of (by rcases hka with h | h; exact absurd h hbm0; exact h)
        rwa [hso, Bool.true_and] at hcs
  · have hil : i = l.length := by simp at hge; omega
    subst hil
    rw [List.drop_length] at hc
    have e : r.compat l = true := by rw [hcomp, ← hc]; rfl
    simp (disch := omega) only [go_sem, e]
    refine ret_mk ⟨[], [], []⟩ _ (by (try simp (disch := omega) only [go_sem, resVs, resV]) <;> rfl) ⟨rfl, rfl⟩ (by simp) ?_ trivial
    simp (disch := omega) only [go_sem]
end Go.Rd
