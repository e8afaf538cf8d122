/- part 16 of the proof -/
import Derived.Test.YthelplgdpmhepaaGreatDoorT15
set_option linter.all false
open Go Go.Abs Go.Proofs
set_option maxRecDepth 100000
namespace Go.Rd
theorem f197_ok (r : Res) (a b : Amt) : FnOK C0 197 [.agg r.c, .agg a.c, .agg b.c] [] (B (r.covers a b)) [] := by
  refine FnOK.intro (fn := Tryz.f197) (c := Tryz.f197.body.getD .skip) (by kernel_rfl) (by kernel_rfl) (by kernel_rfl) (by kernel_rfl) (by simp [Tryz.f197]) (by simp [names]) ?_
  unfold Tryz.f197
  simp (disch := omega) only [go_sem]
  repeat' (first
    | (with_reducible refine And.intro (fun h => ?_) (fun h => ?_))
    | ((with_reducible show callB _ _ 233 _ _ _); refine call_pure (f233_ok r a) ?_ rfl ?_; (focus (simp (disch := omega) only [go_sem]; done)); try simp (disch := omega) only [go_sem])
    | ((with_reducible show callB _ _ 233 _ _ _); refine call_pure (f233_ok r b) ?_ rfl ?_; (focus (simp (disch := omega) only [go_sem]; done)); try simp (disch := omega) only [go_sem])
    | ((with_reducible show callB _ _ 119 _ _ _); refine call_pure (f119_ok a) ?_ rfl ?_; (focus (simp (disch := omega) only [go_sem]; done)); try simp (disch := omega) only [go_sem])
    | ((with_reducible show callB _ _ 119 _ _ _); refine call_pure (f119_ok b) ?_ rfl ?_; (focus (simp (disch := omega) only [go_sem]; done)); try simp (disch := omega) only [go_sem])
    | ((with_reducible show callB _ _ 231 _ _ _); refine call_pure (f231_ok a.mode b.mode) ?_ rfl ?_; (focus (simp (disch := omega) only [go_sem]; done)); try simp (disch := omega) only [go_sem]))
  all_goals (refine ret_mk ⟨[], [], []⟩ _ (by (try simp (disch := omega) only [go_sem, resVs, resV]) <;> rfl) ⟨rfl, rfl⟩ (by simp) ?_ trivial)
  all_goals (try simp (disch := omega) only [go_sem])
  all_goals (first | refine wb ?_ | refine wi ?_ | refine .eq ?_)
  all_goals (first | (simp_all [Res.covers] <;> omega) | (refine Bool.eq_iff_iff.2 ?_; simp_all [Res.covers] <;> omega))
def convPos (q : Queue) (i : Nat) (w : Wait) : Bool := decide (findW q.convs w.proc = (i : Int)) && !(getH q.holds w.proc).zero && q.res.fits w.amt && q.res.covers w.amt (getH q.holds w.proc) && !decide (w.amt = getH q.holds w.proc) && w.prio == 0 && w.passed == 0
def convsOK (q : Queue) : Bool := decide (q.convs.length ≤ 8) && allAt (convPos q) q.convs
def waitPos (q : Queue) (w : Wait) : Bool := q.res.fits w.amt && (getH q.holds w.proc).zero
def waitsOK (q : Queue) : Bool := lineOK q.waits && decide (q.holds.length + q.waits.length ≤ 8) && q.waits.all (waitPos q)
def resOK (r : Res) : Bool := nameOK r.name && r.shaped && between r.home 0 3
def sound (q : Queue) : Bool := resOK q.res && holdsOK q.res q.holds && convsOK q && waitsOK q && decide (0 ≤ q.gen) && decide (q.gen ≤ 1073741824)
theorem f217_ok (q : Queue) (h1 : q.holds.length ≤ 1000000) : FnOK C0 217 [.agg q.c] [] (B (convsOK q)) [] := by
  refine FnOK.intro (fn := Tryz.f217) (c := Tryz.f217.body.getD .skip) (by kernel_rfl) (by kernel_rfl) (by kernel_rfl) (by kernel_rfl) (by simp [Tryz.f217]) (by simp [names]) ?_
  unfold Tryz.f217
  by_cases h8 : 8 < q.convs.length
  · have e1 : (8 < (q.convs.length : Int)) = True := by simp; omega
    simp (disch := omega) only [go_sem, e1]
    refine ret_mk ⟨[], [], []⟩ _ (by (try simp (disch := omega) only [go_sem, resVs, resV]) <;> rfl) ⟨rfl, rfl⟩ (by simp) ?_ trivial
    simp (disch := omega) only [go_sem]
    exact .eq (by simp [convsOK]; omega)
  have e1 : (8 < (q.convs.length : Int)) = False := by simp; omega
  simp (disch := omega) only [go_sem, e1, decide_false]
  refine loop_intro (α := Nat) (fun i => ⟨[(13, I i), (12, I q.convs.length), (11, waitsV q.convs), (1, .ptr 64 0)], [(64, q.c)]⟩) (fun i => i ≤ (q.convs).length ∧ allAt (convPos q) (q.convs.take i) = true) (fun i => (q.convs).length - i) 0 ⟨by omega, rfl⟩ ?_ ?_
  · refine Imp.weak ?_ ?_
    all_goals (try simp (disch := omega) only [go_sem])
    all_goals (try (repeat' (with_reducible apply And.intro)))
    all_goals (first | exact .nilOwn (by omega) | exact .nilNo (by omega) | exact .sl (by simp []) | exact .int (by simp []) | exact .eq (by simp []))
  rintro i ⟨hi, hP⟩ J hJ
  simp (disch := omega) only [go_sem]
  refine And.intro (fun hlt => ?_) (fun hge => ?_)
  rotate_left
  have hil : i = (q.convs).length := by simp at hge; omega
  rotate_left
  obtain ⟨b, hb⟩ : ∃ b, (q.convs)[i]? = some b := ⟨_, List.getElem?_eq_getElem (by simp at hlt; omega)⟩
  have hbm := List.mem_of_getElem? hb
  simp (disch := omega) only [go_sem, List.getElem?_map, hb]
  · have bad : convPos q i b = false → convsOK q = false := fun h => by simp [convsOK, allAt_false hb h]
    repeat' (first
      | (with_reducible refine And.intro (fun h => ?_) (fun h => ?_))
      | ((with_reducible show callB _ _ 254 _ _ _); refine call_pure (f254_ok q b.proc h1) ?_ rfl ?_; (focus (simp (disch := omega) only [go_sem]; done)); try simp (disch := omega) only [go_sem])
      | ((with_reducible show freeCallB _ _ 254 _ _ _ _ _ _ _); refine freeCall_mk ⟨⟨[], [], []⟩, [], []⟩ (f254_ok q b.proc h1) ?_ rfl rfl trivial (.inl rfl) ?_; (focus (simp (disch := omega) only [go_sem]; done)); try simp (disch := omega) only [go_sem])
      | ((with_reducible show callB _ _ 255 _ _ _); refine call_pure (f255_ok q.convs b.proc (by omega)) ?_ rfl ?_; (focus (simp (disch := omega) only [go_sem]; done)); try simp (disch := omega) only [go_sem])
      | ((with_reducible show freeCallB _ _ 255 _ _ _ _ _ _ _); refine freeCall_mk ⟨⟨[], [], []⟩, [], []⟩ (f255_ok q.convs b.proc (by omega)) ?_ rfl rfl trivial (.inl rfl) ?_; (focus (simp (disch := omega) only [go_sem]; done)); try simp (disch := omega) only [go_sem])
      | ((with_reducible show callB _ _ 211 _ _ _); refine call_pure (f211_ok (getH q.holds b.proc)) ?_ rfl ?_; (focus (simp (disch := omega) only [go_sem]; done)); try simp (disch := omega) only [go_sem])
      | ((with_reducible show freeCallB _ _ 211 _ _ _ _ _ _ _); refine freeCall_mk ⟨⟨[], [], []⟩, [], []⟩ (f211_ok (getH q.holds b.proc)) ?_ rfl rfl trivial (.inl rfl) ?_; (focus (simp (disch := omega) only [go_sem]; done)); try simp (disch := omega) only [go_sem])
      | ((with_reducible show callB _ _ 221 _ _ _); refine call_pure (f221_ok q.res b.amt) ?_ rfl ?_; (focus (simp (disch := omega) only [go_sem]; done)); try simp (disch := omega) only [go_sem])
      | ((with_reducible show freeCallB _ _ 221 _ _ _ _ _ _ _); refine freeCall_mk ⟨⟨[], [], []⟩, [], []⟩ (f221_ok q.res b.amt) ?_ rfl rfl trivial (.inl rfl) ?_; (focus (simp (disch := omega) only [go_sem]; done)); try simp (disch := omega) only [go_sem])
      | ((with_reducible show callB _ _ 256 _ _ _); refine call_pure (f256_ok q.res b.amt (getH q.holds b.proc)) ?_ rfl ?_; (focus (simp (disch := omega) only [go_sem]; done)); try simp (disch := omega) only [go_sem])
      | ((with_reducible show freeCallB _ _ 256 _ _ _ _ _ _ _); refine freeCall_mk ⟨⟨[], [], []⟩, [], []⟩ (f256_ok q.res b.amt (getH q.holds b.proc)) ?_ rfl rfl trivial (.inl rfl) ?_; (focus (simp (disch := omega) only [go_sem]; done)); try simp (disch := omega) only [go_sem]))
    all_goals (first | (refine hJ _ (i + 1) ⟨by simp at hlt; omega, by rw [allAt_take hb, hP]; simp_all [convPos]⟩ (by simp at hlt; omega) (Imp.weak (by simp (disch := omega) only [go_sem]) (by simp (disch := omega) only [go_sem])); done) | (refine ret_mk ⟨[], [], []⟩ _ (by (try simp (disch := omega) only [go_sem, resVs, resV]) <;> rfl) ⟨rfl, rfl⟩ (by simp) ?_ trivial; simp (disch := omega) only [go_sem]; refine wb ?_; (rw [bad (by simp_all [convPos])])))
  · subst hil
    rw [List.take_length] at hP
    have e : convsOK q = true := by simp [convsOK, hP]; omega
    simp (disch := omega) only [go_sem, e]
    refine ret_mk ⟨[], [], []⟩ _ (by (try simp (disch := omega) only [go_sem, resVs, resV]) <;> rfl) ⟨rfl, rfl⟩ (by simp) ?_ trivial
    simp (disch := omega) only [go_sem]
theorem f218_ok (q : Queue) (h1 : q.holds.length ≤ 1000000) (h2 : q.waits.length ≤ 1000000) : FnOK C0 218 [.agg q.c] [] (B (waitsOK q)) [] := by
  refine FnOK.intro (fn := Tryz.f218) (c := Tryz.f218.body.getD .skip) (by kernel_rfl) (by kernel_rfl) (by kernel_rfl) (by kernel_rfl) (by simp [Tryz.f218]) (by simp [names]) ?_
  unfold Tryz.f218
  simp (disch := omega) only [go_sem]
  refine call_pure (f257_ok q.waits) (by simp (disch := omega) only [go_sem]) rfl ?_
  cases hl : lineOK q.waits
  · simp (disch := omega) only [go_sem, Bool.not_false]
    refine ret_mk ⟨[], [], []⟩ _ (by (try simp (disch := omega) only [go_sem, resVs, resV]) <;> rfl) ⟨rfl, rfl⟩ (by simp) ?_ trivial
    simp (disch := omega) only [go_sem]
    exact wb (by simp [waitsOK, hl])
  by_cases h8 : 8 < q.holds.length + q.waits.length
  · have e1 : (8 < (q.holds.length : Int) + q.waits.length) = True := by simp; omega
    simp (disch := omega) only [go_sem, e1, Bool.not_true]
    refine ret_mk ⟨[], [], []⟩ _ (by (try simp (disch := omega) only [go_sem, resVs, resV]) <;> rfl) ⟨rfl, rfl⟩ (by simp) ?_ trivial
    simp (disch := omega) only [go_sem]
    exact wb (by simp [waitsOK]; omega)
  have e1 : (8 < (q.holds.length : Int) + q.waits.length) = False := by simp; omega
  simp (disch := omega) only [go_sem, e1, decide_false, Bool.not_true]
  refine loop_intro (α := Nat) (fun i => ⟨[(22, I i), (21, I q.waits.length), (20, waitsV q.waits), (1, .ptr 64 0)], [(64, q.c)]⟩) (fun i => i ≤ (q.waits).length ∧ (q.waits.take i).all (waitPos q) = true) (fun i => (q.waits).length - i) 0 ⟨by omega, rfl⟩ ?_ ?_
  · refine Imp.weak ?_ ?_
    all_goals (try simp (disch := omega) only [go_sem])
    all_goals (try (repeat' (with_reducible apply And.intro)))
    all_goals (first | exact .nilOwn (by omega) | exact .nilNo (by omega) | exact .sl (by simp []) | exact .int (by simp []) | exact .eq (by simp []))
  rintro i ⟨hi, hP⟩ J hJ
  simp (disch := omega) only [go_sem]
  refine And.intro (fun hlt => ?_) (fun hge => ?_)
  rotate_left
  have hil : i = (q.waits).length := by simp at hge; omega
  rotate_left
  obtain ⟨b, hb⟩ : ∃ b, (q.waits)[i]? = some b := ⟨_, List.getElem?_eq_getElem (by simp at hlt; omega)⟩
  have hbm := List.mem_of_getElem? hb
  simp (disch := omega) only [go_sem, List.getElem?_map, hb]
  · have bad : waitPos q b = false → waitsOK q = false := fun h => by simp only [waitsOK, all_false hbm h, Bool.and_false]
    repeat' (first
      | (with_reducible refine And.intro (fun h => ?_) (fun h => ?_))
      | ((with_reducible show callB _ _ 221 _ _ _); refine call_pure (f221_ok q.res b.amt) ?_ rfl ?_; (focus (simp (disch := omega) only [go_sem]; done)); try simp (disch := omega) only [go_sem])
      | ((with_reducible show freeCallB _ _ 221 _ _ _ _ _ _ _); refine freeCall_mk ⟨⟨[], [], []⟩, [], []⟩ (f221_ok q.res b.amt) ?_ rfl rfl trivial (.inl rfl) ?_; (focus (simp (disch := omega) only [go_sem]; done)); try simp (disch := omega) only [go_sem])
      | ((with_reducible show callB _ _ 254 _ _ _); refine call_pure (f254_ok q b.proc h1) ?_ rfl ?_; (focus (simp (disch := omega) only [go_sem]; done)); try simp (disch := omega) only [go_sem])
      | ((with_reducible show freeCallB _ _ 254 _ _ _ _ _ _ _); refine freeCall_mk ⟨⟨[], [], []⟩, [], []⟩ (f254_ok q b.proc h1) ?_ rfl rfl trivial (.inl rfl) ?_; (focus (simp (disch := omega) only [go_sem]; done)); try simp (disch := omega) only [go_sem])
      | ((with_reducible show callB _ _ 211 _ _ _); refine call_pure (f211_ok (getH q.holds b.proc)) ?_ rfl ?_; (focus (simp (disch := omega) only [go_sem]; done)); try simp (disch := omega) only [go_sem])
      | ((with_reducible show freeCallB _ _ 211 _ _ _ _ _ _ _); refine freeCall_mk ⟨⟨[], [], []⟩, [], []⟩ (f211_ok (getH q.holds b.proc)) ?_ rfl rfl trivial (.inl rfl) ?_; (focus (simp (disch := omega) only [go_sem]; done)); try simp (disch := omega) only [go_sem]))
    all_goals (first | (refine hJ _ (i + 1) ⟨by simp at hlt; omega, by rw [all_take hb, hP]; simp_all [waitPos]⟩ (by simp at hlt; omega) (Imp.weak (by simp (disch := omega) only [go_sem]) (by simp (disch := omega) only [go_sem])); done) | (refine ret_mk ⟨[], [], []⟩ _ (by (try simp (disch := omega) only [go_sem, resVs, resV]) <;> rfl) ⟨rfl, rfl⟩ (by simp) ?_ trivial; simp (disch := omega) only [go_sem]; refine wb ?_; (rw [bad (by simp_all [waitPos])])))
  · subst hil
    rw [List.take_length] at hP
    have e : waitsOK q = true := by simp only [waitsOK, hl, hP]; simp; omega
    simp (disch := omega) only [go_sem, e]
    refine ret_mk ⟨[], [], []⟩ _ (by (try simp (disch := omega) only [go_sem, resVs, resV]) <;> rfl) ⟨rfl, rfl⟩ (by simp) ?_ trivial
    simp (disch := omega) only [go_sem]
theorem f177_ok (q : Queue) (h1 : q.holds.length ≤ 1000000) (h2 : q.waits.length ≤ 1000000) : FnOK C0 177 [.agg q.c] [] (B (sound q)) [] := by
  refine FnOK.intro (fn := Tryz.f177) (c := Tryz.f177.body.getD .skip) (by kernel_rfl) (by kernel_rfl) (by kernel_rfl) (by kernel_rfl) (by simp [Tryz.f177]) (by simp [names]) ?_
  unfold Tryz.f177
  simp (disch := omega) only [go_sem]
  repeat' (first
    | (with_reducible refine And.intro (fun h => ?_) (fun h => ?_))
    | ((with_reducible show callB _ _ 215 _ _ _); refine call_pure (f215_ok q.res) ?_ rfl ?_; (focus (simp (disch := omega) only [go_sem]; done)); try simp (disch := omega) only [go_sem])
    | ((with_reducible show freeCallB _ _ 215 _ _ _ _ _ _ _); refine freeCall_mk ⟨⟨[], [], []⟩, [], []⟩ (f215_ok q.res) ?_ rfl rfl trivial (.inl rfl) ?_; (focus (simp (disch := omega) only [go_sem]; done)); try simp (disch := omega) only [go_sem])
    | ((with_reducible show callB _ _ 216 _ _ _); refine call_pure (f216_ok q.res q.holds) ?_ rfl ?_; (focus (simp (disch := omega) only [go_sem]; done)); try simp (disch := omega) only [go_sem])
    | ((with_reducible show freeCallB _ _ 216 _ _ _ _ _ _ _); refine freeCall_mk ⟨⟨[], [], []⟩, [], []⟩ (f216_ok q.res q.holds) ?_ rfl rfl trivial (.inl rfl) ?_; (focus (simp (disch := omega) only [go_sem]; done)); try simp (disch := omega) only [go_sem])
    | ((with_reducible show callB _ _ 217 _ _ _); refine call_pure (f217_ok q h1) ?_ rfl ?_; (focus (simp (disch := omega) only [go_sem]; done)); try simp (disch := omega) only [go_sem])
    | ((with_reducible show freeCallB _ _ 217 _ _ _ _ _ _ _); refine freeCall_mk ⟨⟨[], [], []⟩, [], []⟩ (f217_ok q h1) ?_ rfl rfl trivial (.inl rfl) ?_; (focus (simp (disch := omega) only [go_sem]; done)); try simp (disch := omega) only [go_sem])
    | ((with_reducible show callB _ _ 218 _ _ _); refine call_pure (f218_ok q h1 h2) ?_ rfl ?_; (focus (simp (disch := omega) only [go_sem]; done)); try simp (disch := omega) only [go_sem])
    | ((with_reducible show freeCallB _ _ 218 _ _ _ _ _ _ _); refine freeCall_mk ⟨⟨[], [], []⟩, [], []⟩ (f218_ok q h1 h2) ?_ rfl rfl trivial (.inl rfl) ?_; (focus (simp (disch := omega) only [go_sem]; done)); try simp (disch := omega) only [go_sem]))
  all_goals (refine ret_mk ⟨[], [], []⟩ _ (by (try simp (disch := omega) only [go_sem, resVs, resV]) <;> rfl) ⟨rfl, rfl⟩ (by simp) ?_ trivial)
  all_goals (try simp (disch := omega) only [go_sem])
  all_goals (refine wb ?_)
  all_goals (simp_all [sound, resOK] <;> omega)
theorem f222_ok (r : Res) (l : List Hold) (hl : l.length ≤ 1000000) : FnOK C0 222 [.agg r.c, holdsV l] [] (B (holdsOK r l)) [] := by
  refine FnOK.intro (fn := Tryz.f222) (c := Tryz.f222.body.getD .skip) (by kernel_rfl) (by kernel_rfl) (by kernel_rfl) (by kernel_rfl) (by simp [Tryz.f222]) (by simp [names]) ?_
  unfold Tryz.f222
  simp (disch := omega) only [go_sem]
  refine call_pure (f194_ok r) (by simp (disch := omega) only [go_sem]) rfl ?_
  cases hs : r.shaped
  · have e : holdsOK r l = false := by simp [holdsOK, hs]
    simp (disch := omega) only [go_sem, Bool.not_false, e]
    refine ret_mk ⟨[], [], []⟩ _ (by (try simp (disch := omega) only [go_sem, resVs, resV]) <;> rfl) ⟨rfl, rfl⟩ (by simp) ?_ trivial
    simp (disch := omega) only [go_sem]
  by_cases h8 : 8 < l.length
  · have e1 : (8 < (l.length : Int)) = True := by simp; omega
    have e : holdsOK r l = false := by simp [holdsOK]; omega
    simp (disch := omega) only [go_sem, Bool.not_true, e1, e]
    refine ret_mk ⟨[], [], []⟩ _ (by (try simp (disch := omega) only [go_sem, resVs, resV]) <;> rfl) ⟨rfl, rfl⟩ (by simp) ?_ trivial
    simp (disch := omega) only [go_sem]
  have e1 : (8 < (l.length : Int)) = False := by simp; omega
  simp (disch := omega) only [go_sem, Bool.not_true, e1, decide_false]
  refine loop_intro (α := Nat) (fun i => ⟨[(5, I i), (1, holdsV l), (2, .ptr 128 0)], [(128, r.c)]⟩) (fun i => i ≤ (l).length ∧ allAt (holdPos r l) (l.take i) = true) (fun i => (l).length - i) 0 ⟨by omega, rfl⟩ ?_ ?_
  · refine Imp.weak ?_ ?_
    all_goals (try simp (disch := omega) only [go_sem])
    all_goals (try (repeat' (with_reducible apply And.intro)))
    all_goals (first | exact .nilOwn (by omega) | exact .nilNo (by omega) | exact .sl (by simp []) | exact .int (by simp []) | exact .eq (by simp []))
  rintro i ⟨hi, hP⟩ J hJ
  simp (disch := omega) only [go_sem]
  refine And.intro (fun hlt => ?_) (fun hge => ?_)
  rotate_left
  have hil : i = (l).length := by simp at hge; omega
  rotate_left
  obtain ⟨b, hb⟩ : ∃ b, (l)[i]? = some b := ⟨_, List.getElem?_eq_getElem (by simp at hlt; omega)⟩
  have hbm := List.mem_of_getElem? hb
  have hlt2 : i < (l).length := by simp at hlt; omega
  refine draw_mk 32 [([], [1]), ([], [5]), ([0, 1], [20, 21]), ([0, 1, 2], [22]), ([0, 1, 2, 3], [23]), ([0, 1, 2, 3, 4], [24]), ([0, 1, 2, 3, 4, 5], [25]), ([0, 1, 2, 3, 4, 5, 6], [26]), ([0, 1, 2, 3, 4, 5, 6, 7], [2, 27]), ([0, 1, 2, 3, 4, 5, 6, 7], [1, 27]), ([0, 1, 2, 3, 4, 5, 6, 7], [5, 27]), ([0, 1, 2, 3, 4, 5, 6, 7, 9, 10], [29, 30, 27]), ([0, 1, 2, 3, 4, 5, 6, 7, 9, 10, 11], [31, 27]), ([0, 1, 2, 3, 4, 5, 6, 7, 9, 10, 11, 12], [32, 27]), ([0, 1, 2, 3, 4, 5, 6, 7, 8, 9, 10, 11, 12, 13], [28, 33, 27]), ([0, 1, 2, 3, 4, 5, 6, 7, 8, 9, 10, 11, 12, 13, 14], [34, 27]), ([0, 1, 2, 3, 4, 5, 6, 7, 8, 9, 10, 11, 12, 13, 14, 15], [27, 35]), ([0, 1, 2, 3, 4, 5, 6, 7, 8, 9, 10, 11, 12, 13, 14, 15, 16], [36]), ([0, 1, 2, 3, 4, 5, 6, 7, 8, 9, 10, 11, 12, 13, 14, 15, 16, 17], [5, 37]), ([0, 1, 2, 3, 4, 5, 6, 7, 8, 9, 10, 11, 12, 13, 14, 15, 16, 17, 18], [38, 37]), ([0, 1, 2, 3, 4, 5, 6, 7, 8, 9, 10, 11, 12, 13, 14, 15, 16, 17, 18, 19], [39, 37]), ([0, 1, 2, 3, 4, 5, 6, 7, 8, 9, 10, 11, 12, 13, 14, 15, 16, 17, 18, 19, 20], [1, 40]), ([0, 1, 2, 3, 4, 5, 6, 7, 8, 9, 10, 11, 12, 13, 14, 15, 16, 17, 18, 19, 20], [5, 40]), ([0, 1, 2, 3, 4, 5, 6, 7, 8, 9, 10, 11, 12, 13, 14, 15, 16, 17, 18, 19, 20, 22], [42, 40]), ([0, 1, 2, 3, 4, 5, 6, 7, 8, 9, 10, 11, 12, 13, 14, 15, 16, 17, 18, 19, 20, 21, 22, 23], [41, 43, 40]), ([0, 1, 2, 3, 4, 5, 6, 7, 8, 9, 10, 11, 12, 13, 14, 15, 16, 17, 18, 19, 20, 21, 22, 23, 24], [44, 40]), ([0, 1, 2, 3, 4, 5, 6, 7, 8, 9, 10, 11, 12, 13, 14, 15, 16, 17, 18, 19, 20, 21, 22, 23, 24, 25], [45, 40]), ([0, 1, 2, 3, 4, 5, 6, 7, 8, 9, 10, 11, 12, 13, 14, 15, 16, 17, 18, 19, 20], [1, 40]), ([0, 1, 2, 3, 4, 5, 6, 7, 8, 9, 10, 11, 12, 13, 14, 15, 16, 17, 18, 19, 20], [5, 40]), ([0, 1, 2, 3, 4, 5, 6, 7, 8, 9, 10, 11, 12, 13, 14, 15, 16, 17, 18, 19, 20, 27, 28], [47, 48, 40]), ([0, 1, 2, 3, 4, 5, 6, 7, 8, 9, 10, 11, 12, 13, 14, 15, 16, 17, 18, 19, 20, 27, 28, 29], [49, 40]), ([0, 1, 2, 3, 4, 5, 6, 7, 8, 9, 10, 11, 12, 13, 14, 15, 16, 17, 18, 19, 20, 27, 28, 29, 30], [50, 40]), ([0, 1, 2, 3, 4, 5, 6, 7, 8, 9, 10, 11, 12, 13, 14, 15, 16, 17, 18, 19, 20, 21, 22, 23, 24, 25, 26, 27, 28, 29, 30, 31], []), ([0, 1, 2, 3, 4, 5, 6, 7, 8, 9, 10, 11, 12, 13, 14, 15, 16, 17, 18, 19, 20, 21, 22, 23, 24, 25, 26, 27, 28, 29, 30, 31, 32], []), ([0, 1, 2, 3, 4, 5, 6, 7, 8, 9, 10, 11, 12, 13, 14, 15, 16, 17, 18, 19, 20, 21, 22, 23, 24, 25, 26, 27, 28, 29, 30, 31, 32, 33], []), ([0, 1, 2, 3, 4, 5, 6, 7, 8, 9, 10, 11, 12, 13, 14, 15, 16, 17, 18, 19, 20, 21, 22, 23, 24, 25, 26, 27, 28, 29, 30, 31, 32, 33, 34], [])] fol (by kernel_rfl) ?_
  simp (disch := omega) only [go_sem, List.getElem?_map, hb]
  · have bad : holdPos r l i b = false → holdsOK r l = false := fun h => by simp [holdsOK, allAt_false hb h]
    refine freeCall_mk ⟨⟨[], [], []⟩, [], []⟩ (f75_ok b.proc) (by simp (disch := omega) only [go_sem]) rfl rfl trivial (.inl rfl) ?_
    cases hp : b.proc.ok
    · simp (disch := omega) only [go_sem, Bool.not_false, bad (by simp [holdPos, hp])]
      refine ret_mk ⟨[], [], []⟩ _ (by (try simp (disch := omega) only [go_sem, resVs, resV]) <;> rfl) ⟨rfl, rfl⟩ (by simp) ?_ trivial
      simp (disch := omega) only [go_sem]
    simp (disch := omega) only [go_sem, Bool.not_true, List.getElem?_map, hb]
    refine freeCall_mk ⟨⟨[], [], []⟩, [], []⟩ (f130_ok r b.amt) (by simp (disch := omega) only [go_sem]) rfl rfl trivial (.inl rfl) ?_
    cases hf : r.fits b.amt
    · simp (disch := omega) only [go_sem, Bool.not_false, bad (by simp [holdPos, hf])]
      refine ret_mk ⟨[], [], []⟩ _ (by (try simp (disch := omega) only [go_sem, resVs, resV]) <;> rfl) ⟨rfl, rfl⟩ (by simp) ?_ trivial
      simp (disch := omega) only [go_sem]
    by_cases hi0 : i = 0
    · have e0 : (0 < (i : Int)) = False := by simp; omega
      simp (disch := omega) only [go_sem, Bool.not_true, e0, decide_false]
      refine hJ _ (i + 1) ⟨by simp at hlt; omega, (by rw [allAt_take hb, hP]; simp only [holdPos, hp, hf, hi0]; rfl)⟩ (by simp at hlt; omega) (Imp.weak (by simp (disch := omega) only [go_sem]) (by simp (disch := omega) only [go_sem]))
    · have hi1 : (0 < (i : Int)) = True := by simp; omega
      have hi2 : ((i : Int) - 1) = ((i - 1 : Nat) : Int) := by omega
      obtain ⟨a, ha⟩ : ∃ a, l[i - 1]? = some a := ⟨_, List.getElem?_eq_getElem (by simp at hlt; omega)⟩
      have had : l.getD (i - 1) h0 = a := by simp [List.getD, ha]
      simp (disch := omega) only [go_sem, Bool.not_true, hi1, hi2, List.getElem?_map, ha, hb]
      refine call_pure (f77_ok a.proc b.proc) (by simp (disch := omega) only [go_sem]) rfl ?_
      simp (disch := omega) only [go_sem]
      by_cases hc : 0 ≤ cmpP a.proc b.proc
      · have e : holdsOK r l = false := bad (by simp only [holdPos, had]; simp [hi0]; omega)
        simp (disch := omega) only [go_sem, hc, e]
        refine ret_mk ⟨[], [], []⟩ _ (by (try simp (disch := omega) only [go_sem, resVs, resV]) <;> rfl) ⟨rfl, rfl⟩ (by simp) ?_ trivial
        simp (disch := omega) only [go_sem]
      · simp (disch := omega) only [go_sem, hc, decide_false]
        refine hJ _ (i + 1) ⟨by simp at hlt; omega, (by rw [allAt_take hb, hP]; simp only [holdPos, hp, hf, had]; simp; omega)⟩ (by simp at hlt; omega) (Imp.weak (by simp (disch := omega) only [go_sem]) (by simp (disch := omega) only [go_sem]))
  · subst hil
    rw [List.take_length] at hP
    have ee : holdsOK r l = r.compat (l.map (·.amt)) := by simp [holdsOK, hs, hP]; omega
    refine draw_mk 3 [([], [2]), ([], [1]), ([1], [57]), ([0, 1, 2], []), ([0, 1, 2, 3], [])] fol (by kernel_rfl) ?_
    simp (disch := omega) only [go_sem]
    refine freeCall_mk ⟨⟨[], [], []⟩, [], []⟩ (f261_ok l hl) (by simp (disch := omega) only [go_sem]) rfl rfl trivial (.inl rfl) ?_
    simp (disch := omega) only [go_sem]
    refine call_pure (f260_ok r (l.map (·.amt)) (by simp; omega)) (by simp (disch := omega) only [go_sem]; exact .eq (by simp)) rfl ?_
    simp (disch := omega) only [go_sem]
    refine ret_mk ⟨[], [], []⟩ _ (by (try simp (disch := omega) only [go_sem, resVs, resV]) <;> rfl) ⟨rfl, rfl⟩ (by simp) ?_ trivial
    simp (disch := omega) only [go_sem]
    exact wb ee.symm
theorem f183_ok (q : Queue) (h1 : q.holds.length ≤ 1000000) (h2 : q.waits.length ≤ 1000000) : FnOK C0 183 [.agg q.c] [] (B (sound q)) [] := by
  refine FnOK.intro (fn := Tryz.f183) (c := Tryz.f183.body.getD .skip) (by kernel_rfl) (by kernel_rfl) (by kernel_rfl) (by kernel_rfl) (by simp [Tryz.f183]) (by simp [names]) ?_
  unfold Tryz.f183
  by_cases hgo : resOK q.res = true ∧ holdsOK q.res q.holds = true ∧ q.convs.length ≤ 8 ∧ lineOK q.waits = true ∧ q.holds.length + q.waits.length ≤ 8 ∧ 0 ≤ q.gen ∧ q.gen ≤ 1073741824
  rotate_left
  · simp (disch := omega) only [go_sem]
    repeat' (first
      | (with_reducible refine And.intro (fun h => ?_) (fun h => ?_))
      | ((with_reducible show callB _ _ 190 _ _ _); refine call_pure (f190_ok q.res) ?_ rfl ?_; (focus (simp (disch := omega) only [go_sem]; done)); try simp (disch := omega) only [go_sem])
      | ((with_reducible show freeCallB _ _ 190 _ _ _ _ _ _ _); refine freeCall_mk ⟨⟨[], [], []⟩, [], []⟩ (f190_ok q.res) ?_ rfl rfl trivial (.inl rfl) ?_; (focus (simp (disch := omega) only [go_sem]; done)); try simp (disch := omega) only [go_sem])
      | ((with_reducible show callB _ _ 222 _ _ _); refine call_pure (f222_ok q.res q.holds h1) ?_ rfl ?_; (focus (simp (disch := omega) only [go_sem]; done)); try simp (disch := omega) only [go_sem])
      | ((with_reducible show freeCallB _ _ 222 _ _ _ _ _ _ _); refine freeCall_mk ⟨⟨[], [], []⟩, [], []⟩ (f222_ok q.res q.holds h1) ?_ rfl rfl trivial (.inl rfl) ?_; (focus (simp (disch := omega) only [go_sem]; done)); try simp (disch := omega) only [go_sem])
      | ((with_reducible show callB _ _ 223 _ _ _); refine call_pure (f223_ok q.waits h2) ?_ rfl ?_; (focus (simp (disch := omega) only [go_sem]; done)); try simp (disch := omega) only [go_sem])
      | ((with_reducible show freeCallB _ _ 223 _ _ _ _ _ _ _); refine freeCall_mk ⟨⟨[], [], []⟩, [], []⟩ (f223_ok q.waits h2) ?_ rfl rfl trivial (.inl rfl) ?_; (focus (simp (disch := omega) only [go_sem]; done)); try simp (disch := omega) only [go_sem]))
    all_goals first
      | (refine ret_mk ⟨[], [], []⟩ _ (by (try simp (disch := omega) only [go_sem, resVs, resV]) <;> rfl) ⟨rfl, rfl⟩ (by simp) ?_ trivial
         simp (disch := omega) only [go_sem]
         refine wb ?_
         first | (simp_all [sound, resOK, convsOK, waitsOK]; done) | (simp_all [sound, resOK, convsOK, waitsOK]; omega))
      | (exfalso; refine hgo ?_; simp_all [resOK]; omega)
  obtain ⟨g1, g2, g3, g4, g5, g6, g7⟩ := hgo
  have d1 : (8 < (q.convs.length : Int)) = False := by simp; omega
  have d2 : (8 < (q.holds.length : Int) + q.waits.length) = False := by simp; omega
  have d3 : (q.gen < 0) = False := by simp; omega
  have d4 : (1073741824 < q.gen) = False := by simp; omega
  simp (disch := omega) only [go_sem]
  refine call_pure (f190_ok q.res) (by simp (disch := omega) only [go_sem]) rfl ?_
  have g1' : (nameOK q.res.name && q.res.shaped && between q.res.home 0 3) = true := g1
  rw [g1']
  simp (disch := omega) only [go_sem, Bool.not_true]
  refine call_pure (f222_ok q.res q.holds h1) (by simp (disch := omega) only [go_sem]) rfl ?_
  rw [g2]
  simp (disch := omega) only [go_sem, Bool.not_true, d1, decide_false]
  refine call_pure (f223_ok q.waits h2) (by simp (disch := omega) only [go_sem]) rfl ?_
  rw [g4]
  simp (disch := omega) only [go_sem, Bool.not_true, d2, d3, d4, decide_false]
  refine loop_intro (α := Nat) (fun i => ⟨[(4, I i), (1, .ptr 64 0), (3, .ptr 192 0)], [(64, q.c), (192, q.res.c)]⟩) (fun i => i ≤ (q.convs).length ∧ allAt (convPos q) (q.convs.take i) = true) (fun i => (q.convs).length - i) 0 ⟨by omega, rfl⟩ ?_ ?_
  · refine Imp.weak ?_ ?_
    all_goals (try simp (disch := omega) only [go_sem])
    all_goals (try (repeat' (with_reducible apply And.intro)))
    all_goals (first | exact .nilOwn (by omega) | exact .nilNo (by omega) | exact .sl (by simp []) | exact .int (by simp []) | exact .eq (by simp []))
  rintro i ⟨hi, hP⟩ J hJ
  simp (disch := omega) only [go_sem]
  refine And.intro (fun hlt => ?_) (fun hge => ?_)
  rotate_left
  have hil : i = (q.convs).length := by simp at hge; omega
  rotate_left
  obtain ⟨b, hb⟩ : ∃ b, (q.convs)[i]? = some b := ⟨_, List.getElem?_eq_getElem (by simp at hlt; omega)⟩
  have hbm := List.mem_of_getElem? hb
  have hlt2 : i < (q.convs).length := by simp at hlt; omega
  simp (disch := omega) only [go_sem, List.getElem?_map, hb]
  · have bad : convPos q i b = false → sound q = false := fun h => by simp [sound, convsOK, allAt_false hb h]
    repeat' (first
      | (with_reducible refine And.intro (fun h => ?_) (fun h => ?_))
      | ((with_reducible show callB _ _ 188 _ _ _); refine call_pure (f188_ok q.holds b.proc h1) ?_ rfl ?_; (focus (simp (disch := omega) only [go_sem]; done)); try simp (disch := omega) only [go_sem])
      | ((with_reducible show freeCallB _ _ 188 _ _ _ _ _ _ _); refine freeCall_mk ⟨⟨[], [], []⟩, [], []⟩ (f188_ok q.holds b.proc h1) ?_ rfl rfl trivial (.inl rfl) ?_; (focus (simp (disch := omega) only [go_sem]; done)); try simp (disch := omega) only [go_sem])
      | ((with_reducible show callB _ _ 119 _ _ _); refine call_pure (f119_ok (getH q.holds b.proc)) ?_ rfl ?_; (focus (simp (disch := omega) only [go_sem]; done)); try simp (disch := omega) only [go_sem])
      | ((with_reducible show freeCallB _ _ 119 _ _ _ _ _ _ _); refine freeCall_mk ⟨⟨[], [], []⟩, [], []⟩ (f119_ok (getH q.holds b.proc)) ?_ rfl rfl trivial (.inl rfl) ?_; (focus (simp (disch := omega) only [go_sem]; done)); try simp (disch := omega) only [go_sem])
      | ((with_reducible show callB _ _ 130 _ _ _); refine call_pure (f130_ok q.res b.amt) ?_ rfl ?_; (focus (simp (disch := omega) only [go_sem]; done)); try simp (disch := omega) only [go_sem])
      | ((with_reducible show freeCallB _ _ 130 _ _ _ _ _ _ _); refine freeCall_mk ⟨⟨[], [], []⟩, [], []⟩ (f130_ok q.res b.amt) ?_ rfl rfl trivial (.inl rfl) ?_; (focus (simp (disch := omega) only [go_sem]; done)); try simp (disch := omega) only [go_sem])
      | ((with_reducible show callB _ _ 197 _ _ _); refine call_pure (f197_ok q.res b.amt (getH q.holds b.proc)) ?_ rfl ?_; (focus (simp (disch := omega) only [go_sem]; done)); try simp (disch := omega) only [go_sem])
      | ((with_reducible show freeCallB _ _ 197 _ _ _ _ _ _ _); refine freeCall_mk ⟨⟨[], [], []⟩, [], []⟩ (f197_ok q.res b.amt (getH q.holds b.proc)) ?_ rfl rfl trivial (.inl rfl) ?_; (focus (simp (disch := omega) only [go_sem]; done)); try simp (disch := omega) only [go_sem])
      | ((with_reducible show callB _ _ 187 _ _ _); refine call_pure (f187_ok q.convs b.proc (by omega)) ?_ rfl ?_; (focus (simp (disch := omega) only [go_sem]; done)); try simp (disch := omega) only [go_sem])
      | ((with_reducible show freeCallB _ _ 187 _ _ _ _ _ _ _); refine freeCall_mk ⟨⟨[], [], []⟩, [], []⟩ (f187_ok q.convs b.proc (by omega)) ?_ rfl rfl trivial (.inl rfl) ?_; (focus (simp (disch := omega) only [go_sem]; done)); try simp (disch := omega) only [go_sem]))
    all_goals (first | (refine hJ _ (i + 1) ⟨by simp at hlt; omega, by rw [allAt_take hb, hP]; simp_all [convPos]⟩ (by simp at hlt; omega) (Imp.weak (by simp (disch := omega) only [go_sem]) (by simp (disch := omega) only [go_sem])); done) | (refine ret_mk ⟨[], [], []⟩ _ (by (try simp (disch := omega) only [go_sem, resVs, resV]) <;> rfl) ⟨rfl, rfl⟩ (by simp) ?_ trivial; simp (disch := omega) only [go_sem]; refine wb ?_; (rw [bad (by simp_all [convPos])])))
  subst hil
  rw [List.take_length] at hP
  have hconvs : convsOK q = true := by simp [convsOK, hP]; omega
  clear hJ
  refine loop_intro (α := Nat) (fun i => ⟨[(7, I i), (1, .ptr 64 0), (3, .ptr 192 0)], [(64, q.c), (192, q.res.c)]⟩) (fun i => i ≤ (q.waits).length ∧ (q.waits.take i).all (waitPos q) = true) (fun i => (q.waits).length - i) 0 ⟨by omega, rfl⟩ ?_ ?_
  · refine Imp.weak ?_ ?_
    all_goals (try simp (disch := omega) only [go_sem])
    all_goals (try (repeat' (with_reducible apply And.intro)))
    all_goals (first | exact .nilOwn (by omega) | exact .nilNo (by omega) | exact .sl (by simp []) | exact .int (by simp []) | exact .eq (by simp []))
  rintro i ⟨hi, hP⟩ J hJ
  simp (disch := omega) only [go_sem]
  refine And.intro (fun hlt => ?_) (fun hge => ?_)
  rotate_left
  have hil : i = (q.waits).length := by simp at hge; omega
  rotate_left
  obtain ⟨b, hb⟩ : ∃ b, (q.waits)[i]? = some b := ⟨_, List.getElem?_eq_getElem (by simp at hlt; omega)⟩
  have hbm := List.mem_of_getElem? hb
  have hlt2 : i < (q.waits).length := by simp at hlt; omega
  refine draw_mk 18 [([], [3]), ([], [1]), ([1], [119]), ([], [7]), ([1, 2, 3], [120, 121]), ([1, 2, 3, 4], [122]), ([1, 2, 3, 4, 5], [123]), ([0, 1, 2, 3, 4, 5, 6], [118, 124]), ([0, 1, 2, 3, 4, 5, 6, 7], [125]), ([0, 1, 2, 3, 4, 5, 6, 7, 8], [126]), ([0, 1, 2, 3, 4, 5, 6, 7, 8, 9], [1, 127]), ([0, 1, 2, 3, 4, 5, 6, 7, 8, 9, 10], [128, 127]), ([0, 1, 2, 3, 4, 5, 6, 7, 8, 9], [1, 127]), ([0, 1, 2, 3, 4, 5, 6, 7, 8, 9, 12], [130, 127]), ([0, 1, 2, 3, 4, 5, 6, 7, 8, 9], [7, 127]), ([0, 1, 2, 3, 4, 5, 6, 7, 8, 9, 12, 13, 14], [131, 132, 127]), ([0, 1, 2, 3, 4, 5, 6, 7, 8, 9, 12, 13, 14, 15], [133, 127]), ([0, 1, 2, 3, 4, 5, 6, 7, 8, 9, 12, 13, 14, 15, 16], [134, 127]), ([0, 1, 2, 3, 4, 5, 6, 7, 8, 9, 10, 11, 12, 13, 14, 15, 16, 17], []), ([0, 1, 2, 3, 4, 5, 6, 7, 8, 9, 10, 11, 12, 13, 14, 15, 16, 17, 18], []), ([0, 1, 2, 3, 4, 5, 6, 7, 8, 9, 10, 11, 12, 13, 14, 15, 16, 17, 18, 19], []), ([0, 1, 2, 3, 4, 5, 6, 7, 8, 9, 10, 11, 12, 13, 14, 15, 16, 17, 18, 19, 20], [])] fol (by kernel_rfl) ?_
  simp (disch := omega) only [go_sem, List.getElem?_map, hb]
  · have bad : waitPos q b = false → sound q = false := fun h => by simp only [sound, waitsOK, all_false hbm h, Bool.and_false, Bool.false_and]
    repeat' (first
      | (with_reducible refine And.intro (fun h => ?_) (fun h => ?_))
      | ((with_reducible show callB _ _ 130 _ _ _); refine call_pure (f130_ok q.res b.amt) ?_ rfl ?_; (focus (simp (disch := omega) only [go_sem]; done)); try simp (disch := omega) only [go_sem, List.getElem?_map, hb])
      | ((with_reducible show freeCallB _ _ 130 _ _ _ _ _ _ _); refine freeCall_mk ⟨⟨[], [], []⟩, [], []⟩ (f130_ok q.res b.amt) ?_ rfl rfl trivial (.inl rfl) ?_; (focus (simp (disch := omega) only [go_sem]; done)); try simp (disch := omega) only [go_sem, List.getElem?_map, hb])
      | ((with_reducible show callB _ _ 188 _ _ _); refine call_pure (f188_ok q.holds b.proc h1) ?_ rfl ?_; (focus (simp (disch := omega) only [go_sem]; done)); try simp (disch := omega) only [go_sem, List.getElem?_map, hb])
      | ((with_reducible show freeCallB _ _ 188 _ _ _ _ _ _ _); refine freeCall_mk ⟨⟨[], [], []⟩, [], []⟩ (f188_ok q.holds b.proc h1) ?_ rfl rfl trivial (.inl rfl) ?_; (focus (simp (disch := omega) only [go_sem]; done)); try simp (disch := omega) only [go_sem, List.getElem?_map, hb])
      | ((with_reducible show callB _ _ 119 _ _ _); refine call_pure (f119_ok (getH q.holds b.proc)) ?_ rfl ?_; (focus (simp (disch := omega) only [go_sem]; done)); try simp (disch := omega) only [go_sem, List.getElem?_map, hb])
      | ((with_reducible show freeCallB _ _ 119 _ _ _ _ _ _ _); refine freeCall_mk ⟨⟨[], [], []⟩, [], []⟩ (f119_ok (getH q.holds b.proc)) ?_ rfl rfl trivial (.inl rfl) ?_; (focus (simp (disch := omega) only [go_sem]; done)); try simp (disch := omega) only [go_sem, List.getElem?_map, hb]))
    all_goals (first | (refine hJ _ (i + 1) ⟨by simp at hlt; omega, by rw [all_take hb, hP]; simp_all [waitPos]⟩ (by simp at hlt; omega) (Imp.weak (by simp (disch := omega) only [go_sem]) (by simp (disch := omega) only [go_sem])); done) | (refine ret_mk ⟨[], [], []⟩ _ (by (try simp (disch := omega) only [go_sem, resVs, resV]) <;> rfl) ⟨rfl, rfl⟩ (by simp) ?_ trivial; simp (disch := omega) only [go_sem]; refine wb ?_; (rw [bad (by simp_all [waitPos])])))
  · subst hil
    rw [List.take_length] at hP
    refine ret_mk ⟨[], [], []⟩ _ (by (try simp (disch := omega) only [go_sem, resVs, resV]) <;> rfl) ⟨rfl, rfl⟩ (by simp) ?_ trivial
    simp (disch := omega) only [go_sem]
    exact wb (by simp only [sound, waitsOK, hconvs, hP, g1, g2, g4]; simp; omega)
end Go.Rd
open Go Go.Abs Go.Proofs
set_option maxRecDepth 100000
namespace Go.Rd
attribute [go_sem] Option.isSome_none Option.isSome_some
@[go_sem] theorem toNat_succ (k : Nat) : ((k : Int) + 1).toNat = k + 1 := rfl
@[go_sem] theorem nonneg_succ (k : Nat) : (0 ≤ (k : Int) + 1) = True := by simp; omega
def dropH (l : List Hold) (p : Proc) : List Hold := l.filter fun h => decide (h.proc ≠ p)
def after' (p : Proc) (h : Hold) : Bool := decide (0 < cmpP h.proc p)
def placeI (l : List Hold) (p : Proc) : Int := match l.findIdx? (after' p) with
  | some i => i
  | none => -1
def placeN (l : List Hold) (p : Proc) : Nat := (l.findIdx? (after' p)).getD l.length
def setH (l : List Hold) (p : Proc) (a : Amt) : List Hold := if a.zero then dropH l p else (dropH l p).take (placeN (dropH l p) p) ++ ⟨p, a⟩ :: (dropH l p).drop (placeN (dropH l p) p)
theorem placeN_le (l : List Hold) (p : Proc) : placeN l p ≤ l.length := by
  unfold placeN
  cases h : l.findIdx? (after' p) with
  | none => simp
  | some i =>
    have := (List.findIdx?_eq_some_iff_getElem.1 h).1
    simp; omega
theorem placeI_snoc (l : List Hold) (p : Proc) (h : Hold) : placeI (l ++ [h]) p = if placeI l p < 0 ∧ after' p h = true then (l.length : Int) else placeI l p := by
  unfold placeI
  rw [List.findIdx?_append]
  cases hl : l.findIdx? (after' p) with
  | some i => simp; omega
  | none =>
    simp only [Option.none_or, List.findIdx?_cons]
    cases after' p h <;> simp
theorem over_place (r : List (List AV)) (z c : List AV) (k : Nat) (hk : k ≤ r.length) : (over 0 (k + 1) (((r ++ [z]).drop k).take ((r ++ [z]).length - (k + 1))) (r ++ [z])).set k c = r.take k ++ c :: r.drop k := by
  refine List.ext_getElem? fun i => ?_
  rw [List.getElem?_set]
  simp only [over_length, List.length_append, List.length_cons, List.length_nil]
  by_cases hi : k = i
  · subst hi
    rw [if_pos rfl, if_pos (by omega), List.getElem?_append_right (by simp; omega)]
    simp [Nat.min_eq_left hk]
  rw [if_neg hi]
  simp only [over, List.getElem?_mapIdx, Nat.zero_add]
  by_cases hlt : i < k
  · rw [List.getElem?_append_left (by omega), List.getElem?_append_left (by simp; omega), List.getElem?_take (l := r), if_pos hlt]
    have hn : ¬ (k + 1 ≤ i) := by omega
    cases r[i]? <;> simp [hn]
  · by_cases hle : i ≤ r.length
    · rw [List.getElem?_append_right (l₁ := r.take k) (by simp; omega)]
      simp only [List.length_take, Nat.min_eq_left hk]
      obtain ⟨j, rfl⟩ : ∃ j, i = k + 1 + j := ⟨i - (k + 1), by omega⟩
      rw [show k + 1 + j - k = j + 1 by omega, List.getElem?_cons_succ, List.getElem?_drop]
      have e1 : (r ++ [z])[k + 1 + j]? = some ((r ++ [z])[k + 1 + j]'(by simp; omega)) := List.getElem?_eq_getElem _
      rw [e1]
      simp only [Option.map_some, show k + 1 ≤ k + 1 + j by omega, if_true, show k + 1 + j - (k + 1) = j by omega]
      rw [List.getElem?_take, if_pos (by omega), List.getElem?_drop, List.getElem?_append_left (by omega)]
      rw [List.getElem?_eq_getElem (by omega)]
      simp
    · have e2 : (r.take k ++ c :: r.drop k)[i]? = none := List.getElem?_eq_none (by simp; omega)
      rw [List.getElem?_eq_none (l := r ++ [z]) (by simp; omega), e2]
      rfl
def z5 : List AV := [.v (.int .i64 0), .v (.int .i64 0), .v (.int .i64 0), .v (.int .i64 0), .v (.int .i64 0)]
theorem f165_ok (l : List Hold) (p : Proc) (a : Amt) (hl : l.length ≤ 1000000) : FnOK C0 165 [holdsV l, .agg p.c, .agg a.c] [] (holdsV (setH l p a)) [] := by
  refine FnOK.intro (fn := Tryz.f165) (c := Tryz.f165.body.getD .skip) (by kernel_rfl) (by kernel_rfl) (by kernel_rfl) (by kernel_rfl) (by simp [Tryz.f165]) (by simp [names]) ?_
  unfold Tryz.f165
  have hcap : ((l.length : Int) + 1 ≤ 4294967296) = True := by simp; omega
  simp (disch := omega) only [go_sem, hcap]
  refine loop_intro (α := Nat) (fun i => ⟨[(17, I i), (16, I l.length), (15, holdsV l), (7, .sl (.own 2496 0) 5 ((dropH (l.take i) p).map Hold.c)), (8, I (placeI (dropH (l.take i) p) p)), (4, .ptr 256 0), (5, .ptr 320 0)], [(256, p.c), (320, a.c)]⟩) (fun i => i ≤ (l).length ∧ (dropH (l.take i) p).length ≤ i) (fun i => (l).length - i) 0 ⟨by omega, (by simp [dropH])⟩ ?_ ?_
  · refine Imp.ren ⟨[(896, 2496)], [(256, 256), (320, 320)], []⟩ ⟨rfl, rfl⟩ (by simp [lk]) ?_ ?_
    all_goals (try simp (disch := omega) only [go_sem])
    all_goals (try (repeat' (with_reducible apply And.intro)))
    all_goals (first | exact .nilOwn (by omega) | exact .nilNo (by omega) | exact .sl (by simp [dropH, placeI]) | exact .int (by simp [dropH, placeI]) | exact .eq (by simp [dropH, placeI]))
  rintro i ⟨hi, hP⟩ J hJ
  simp (disch := omega) only [go_sem]
  refine And.intro (fun hlt => ?_) (fun hge => ?_)
  rotate_left
  have hil : i = (l).length := by simp at hge; omega
  rotate_left
  obtain ⟨b, hb⟩ : ∃ b, (l)[i]? = some b := ⟨_, List.getElem?_eq_getElem (by simp at hlt; omega)⟩
  have hbm := List.mem_of_getElem? hb
  simp (disch := omega) only [go_sem, List.getElem?_map, hb]
  · refine And.intro (fun h => ?_) (fun h => ?_)
    · have e : dropH (l.take (i + 1)) p = dropH (l.take i) p := by simp at h; simp [dropH, List.take_add_one, hb, h]
      refine hJ _ (i + 1) ⟨by simp at hlt; omega, (by rw [e]; omega)⟩ (by simp at hlt; omega) (Imp.weak ?_ ?_)
      all_goals (try simp (disch := omega) only [go_sem])
      all_goals (try (repeat' (with_reducible apply And.intro)))
      all_goals (first | exact .nilOwn (by omega) | exact .nilNo (by omega) | exact .sl (by simp [e]) | exact .int (by simp [e]) | exact .eq (by simp [e]))

    · have e : dropH (l.take (i + 1)) p = dropH (l.take i) p ++ [b] := by simp at h; simp [dropH, List.take_add_one, hb, h]
      have ep := placeI_snoc (dropH (l.take i) p) p b
      rw [← e] at ep
      generalize dropH (l.take i) p = r at hP e ep
      have hbound : (r.length : Int) + 1 ≤ 4294967296 := by simp at hlt; omega
      repeat' (first
        | (with_reducible refine And.intro (fun h => ?_) (fun h => ?_))
        | ((with_reducible show callB _ _ 47 _ _ _); refine call_pure (f47_ok b.proc p) ?_ rfl ?_; (focus (simp (disch := omega) only [go_sem]; done)); try simp (disch := omega) only [go_sem])
        | ((with_reducible show freeCallB _ _ 47 _ _ _ _ _ _ _); refine freeCall_mk ⟨⟨[], [], []⟩, [], []⟩ (f47_ok b.proc p) ?_ rfl rfl trivial (.inl rfl) ?_; (focus (simp (disch := omega) only [go_sem]; done)); try simp (disch := omega) only [go_sem]))
      all_goals (refine hJ _ (i + 1) ⟨by simp at hlt; omega, by rw [e]; simp; omega⟩ (by simp at hlt; omega) (Imp.weak ?_ ?_))
      all_goals (try simp (disch := omega) only [go_sem])
      all_goals (refine ⟨.sl (by rw [e]; simp [Hold.c]), .int ?_⟩)
      all_goals (simp_all [after'] <;> omega)
  · subst hil
    simp only [List.take_length] at hP ⊢
    have hb1 : placeI (dropH l p) p = if (dropH l p).findIdx? (after' p) = none then -1 else (placeN (dropH l p) p : Int) := by
      unfold placeI placeN
      cases (dropH l p).findIdx? (after' p) <;> simp
    have hpn := placeN_le (dropH l p) p
    have hset : setH l p a = if a.zero then dropH l p else (dropH l p).take (placeN (dropH l p) p) ++ ⟨p, a⟩ :: (dropH l p).drop (placeN (dropH l p) p) := rfl
    have hpd : (dropH l p).findIdx? (after' p) = none → placeN (dropH l p) p = (dropH l p).length := fun h => by simp [placeN, h]
    generalize dropH l p = r at hP hb1 hpn hset hpd ⊢
    generalize placeN r p = k at hb1 hpn hset hpd
    refine call_pure (f211_ok a) (by simp (disch := omega) only [go_sem]) rfl ?_
    cases hz : a.zero
    · rw [hz] at hset
      have hbound : (r.length : Int) + 1 ≤ 4294967296 := by omega
      have hfin : r.length + 1 ≤ 4294967296 := by omega
      generalize hpi : placeI r p = q at hb1
      have hk : q < 0 → k = r.length := fun hq => hpd (by
          cases h : r.findIdx? (after' p) with
          | none => rfl
          | some i => rw [h] at hb1; simp at hb1; omega)
      have hk' : ¬ q < 0 → q = (k : Int) := fun hq => by
          split at hb1
          · omega
          · exact hb1
      clear hpd hb1 hJ
      obtain ⟨e, he⟩ : ∃ e : Hold, ((r ++ [h0]).map Hold.c)[k]? = some e.c := ⟨(r ++ [h0])[k]'(by simp; omega), by rw [List.getElem?_map, List.getElem?_eq_getElem (by simp; omega)]; rfl⟩
      have hover : ∀ X, (over 0 (k + 1) X (r.map Hold.c ++ [z5]))[k]? = some e.c := fun X => by
        have : r.map Hold.c ++ [z5] = (r ++ [h0]).map Hold.c := by simp [h0, Hold.c, z5]
        rw [this]
        simp only [over, List.getElem?_mapIdx, he, Option.map_some]
        rw [if_neg (by omega)]
      have tail : ∀ X : List (List AV), X = ((r.map Hold.c ++ [z5]).drop k).take (r.length + 1 - (k + 1)) → (over 0 (k + 1) X (r.map Hold.c ++ [z5])).set k (Hold.c ⟨p, a⟩) = (setH l p a).map Hold.c := fun X hX => by
        have := over_place (r.map Hold.c) z5 (Hold.c ⟨p, a⟩) k (by simpa using hpn)
        rw [hset, hX]
        simp only [List.length_append, List.length_map, List.length_cons, List.length_nil, Nat.zero_add] at this
        rw [this]
        simp
      simp only [z5] at hover tail
      by_cases hq : q < 0
      · have e1 : (q < 0) = True := by simp [hq]
        have := hk hq
        subst this
        simp (disch := omega) only [go_sem, e1]
        refine draw_mk 7 [([], [7]), ([], [8]), ([1], [53]), ([0, 1, 2], [52, 54]), ([], [7]), ([], [8]), ([4, 5], [56, 57]), ([0, 1, 2, 3, 4, 5, 6], [])] fol (by kernel_rfl) ?_
        simp (disch := omega) only [go_sem, hover, over_length]
        refine ret_mk ⟨[], [], [3264]⟩ _ (by (try simp (disch := omega) only [go_sem, resVs, resV]) <;> rfl) ⟨rfl, rfl⟩ (by simp) ?_ trivial
        simp (disch := omega) only [go_sem]
        exact .sl (tail _ (by rw [List.take_take]; congr 1; omega))
      · have e1 : (q < 0) = False := by simp [hq]
        have := hk' hq
        subst this
        simp (disch := omega) only [go_sem, e1]
        refine draw_mk 7 [([], [7]), ([], [8]), ([1], [53]), ([0, 1, 2], [52, 54]), ([], [7]), ([], [8]), ([4, 5], [56, 57]), ([0, 1, 2, 3, 4, 5, 6], [])] fol (by kernel_rfl) ?_
        simp (disch := omega) only [go_sem, hover, over_length]
        refine ret_mk ⟨[], [], [3264]⟩ _ (by (try simp (disch := omega) only [go_sem, resVs, resV]) <;> rfl) ⟨rfl, rfl⟩ (by simp) ?_ trivial
        simp (disch := omega) only [go_sem]
        exact .sl (tail _ (by rw [List.take_take]; congr 1; omega))
    · rw [hz] at hset
      simp (disch := omega) only [go_sem]
      refine ret_mk ⟨[], [], [2496]⟩ _ (by (try simp (disch := omega) only [go_sem, resVs, resV]) <;> rfl) ⟨rfl, rfl⟩ (by simp) ?_ trivial
      simp (disch := omega) only [go_sem, hset]
end Go.Rd
