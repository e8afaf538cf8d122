/- part 22 of the proof -/
import Derived.Test.YthelplgdpmhepaaGreatDoorT21
set_option linter.all false
open Go Go.Abs Go.Proofs
set_option maxRecDepth 100000
namespace Go.Rd
theorem f148_ok (n : Int) : FnOK C0 148 [I n] [] (I (nextG n)) [] := by
  refine FnOK.intro (fn := Tryz.f148) (c := Tryz.f148.body.getD .skip) (by kernel_rfl) (by kernel_rfl) (by kernel_rfl) (by kernel_rfl) (by simp [Tryz.f148]) (by simp [names]) ?_
  unfold Tryz.f148
  simp (disch := omega) only [go_sem]
  repeat' (with_reducible refine And.intro (fun h => ?_) (fun h => ?_))
  all_goals (refine ret_mk ⟨[], [], []⟩ _ (by (try simp (disch := omega) only [go_sem, resVs, resV]) <;> rfl) ⟨rfl, rfl⟩ (by simp) ?_ trivial)
  all_goals (try simp (disch := omega) only [go_sem])
  all_goals (first | (simp_all [nextG]; done) | exact wi (by simp_all [nextG, IntKind.wrap, IntKind.signed, IntKind.bits] <;> omega))
theorem f123_ok (l : List Wait) (p : Proc) (hl : l.length ≤ 1000000) : FnOK C0 123 [waitsV l, .agg p.c] [] (.tup [waitsV (dropW l p), B (decide ((dropW l p).length < l.length))]) [] := by
  refine FnOK.intro (fn := Tryz.f123) (c := Tryz.f123.body.getD .skip) (by kernel_rfl) (by kernel_rfl) (by kernel_rfl) (by kernel_rfl) (by simp [Tryz.f123]) (by simp [names]) ?_
  unfold Tryz.f123
  simp (disch := omega) only [go_sem]
  have hd : ∀ i, (dropW (l.take i) p).length ≤ l.length := fun i => Nat.le_trans (dropW_length _ _) (by simp; omega)
  refine loop_intro (α := Nat) (fun i => ⟨[(7, I i), (0, waitsV l), (3, .ptr 192 0), (6, .sl (.own 1728 0) 7 ((dropW (l.take i) p).map Wait.c))], [(192, p.c)]⟩) (fun i => i ≤ (l).length ∧ True) (fun i => (l).length - i) 0 ⟨by omega, trivial⟩ ?_ ?_
  · refine Imp.weak ?_ ?_
    all_goals (try simp (disch := omega) only [go_sem])
    all_goals (try (repeat' (with_reducible apply And.intro)))
    all_goals (first | exact .nilOwn (by omega) | exact .nilNo (by omega) | exact .sl (by simp []) | exact .int (by simp []) | exact .eq (by simp []))
  rintro i ⟨hi, hP⟩ J hJ
  simp (disch := omega) only [go_sem]
  refine And.intro (fun hlt => ?_) (fun hge => ?_)
  rotate_left
  have hil : i = (l).length := by simp at hge; omega
  rotate_left
  obtain ⟨b, hb⟩ : ∃ b, (l)[i]? = some b := ⟨_, List.getElem?_eq_getElem (by simp at hlt; omega)⟩
  have hbm := List.mem_of_getElem? hb
  have hlt2 : i < (l).length := by simp at hlt; omega
  refine draw_mk 6 [([], [0]), ([], [7]), ([0, 1], [14, 15]), ([0, 1, 2], [16]), ([0, 1, 2, 3], [17]), ([], [3]), ([0, 1, 2, 3, 4, 5], [])] fol (by kernel_rfl) ?_
  simp (disch := omega) only [go_sem, List.getElem?_map, hb]
  · have hdi := hd i
    by_cases hb' : b.proc = p
    · simp (disch := omega) only [go_sem, hb', decide_false]
      refine hJ _ (i + 1) ⟨by simp at hlt; omega, trivial⟩ (by simp at hlt; omega) (Imp.weak ?_ ?_)
      all_goals (try simp (disch := omega) only [go_sem])
      all_goals (try (repeat' (with_reducible apply And.intro)))
      all_goals (first | exact .nilOwn (by omega) | exact .nilNo (by omega) | exact .sl (by simp [dropW, List.take_add_one, hb, hb']) | exact .int (by simp [dropW, List.take_add_one, hb, hb']) | exact .eq (by simp [dropW, List.take_add_one, hb, hb']))

    · simp (disch := omega) only [go_sem, hb', decide_true, List.getElem?_map, hb]
      refine hJ _ (i + 1) ⟨by simp at hlt; omega, trivial⟩ (by simp at hlt; omega) (Imp.weak ?_ ?_)
      all_goals (try simp (disch := omega) only [go_sem])
      all_goals (try (repeat' (with_reducible apply And.intro)))
      all_goals (first | exact .nilOwn (by omega) | exact .nilNo (by omega) | exact .sl (by simp [dropW, List.take_add_one, hb, hb', Wait.c]) | exact .int (by simp [dropW, List.take_add_one, hb, hb', Wait.c]) | exact .eq (by simp [dropW, List.take_add_one, hb, hb', Wait.c]))

  · subst hil
    have hdi := hd l.length
    rw [List.take_length] at hdi ⊢
    have e : decide (((dropW l p).length : Int) < l.length) = decide ((dropW l p).length < l.length) := by simp
    refine ret_mk ⟨[], [], [1728]⟩ _ (by (try simp (disch := omega) only [go_sem, resVs, resV]) <;> rfl) ⟨rfl, rfl⟩ (by simp [lk]) ?_ trivial
    simp (disch := omega) only [go_sem, e]
def doneI (l : List Hold) (p : Proc) (a : Amt) : Bool := a.zero || (dropH l p).any (after' p)
def outI (l : List Hold) (p : Proc) (a : Amt) : List Hold := if doneI l p a then setH l p a else dropH l p
theorem dropH_snoc_eq {l : List Hold} {p : Proc} {b : Hold} (h : b.proc = p) : dropH (l ++ [b]) p = dropH l p := by simp [dropH, h]
theorem dropH_snoc_ne {l : List Hold} {p : Proc} {b : Hold} (h : b.proc ≠ p) : dropH (l ++ [b]) p = dropH l p ++ [b] := by simp [dropH, h]
theorem outI_eq {l : List Hold} {p : Proc} {a : Amt} {b : Hold} (h : b.proc = p) : outI (l ++ [b]) p a = outI l p a ∧ doneI (l ++ [b]) p a = doneI l p a := by
  simp [outI, doneI, setH, dropH_snoc_eq h]
theorem placeN_any {k : List Hold} {p : Proc} (b : Hold) (h : k.any (after' p) = true) : placeN (k ++ [b]) p = placeN k p := by
  unfold placeN
  rw [List.findIdx?_append]
  cases hf : k.findIdx? (after' p) with
  | some i => simp
  | none =>
    rw [List.findIdx?_eq_none_iff] at hf
    obtain ⟨x, hx, hy⟩ := List.any_eq_true.1 h
    rw [hf x hx] at hy; simp at hy
theorem find_none {k : List Hold} {p : Proc} (h : k.any (after' p) = false) : k.findIdx? (after' p) = none := by
  rw [List.findIdx?_eq_none_iff]
  intro x hx
  rw [List.any_eq_false] at h
  simpa using h x hx
theorem outI_done {l : List Hold} {p : Proc} {a : Amt} {b : Hold} (h : b.proc ≠ p) (hd : doneI l p a = true) : outI (l ++ [b]) p a = outI l p a ++ [b] ∧ doneI (l ++ [b]) p a = true := by
  have h2 : doneI (l ++ [b]) p a = true := by
    unfold doneI at hd ⊢
    rw [dropH_snoc_ne h, List.any_append]
    revert hd
    cases a.zero <;> simp <;> (try intro x hx h; exact .inl ⟨x, hx, h⟩)
  refine ⟨?_, h2⟩
  unfold outI
  rw [h2, hd]
  simp only [if_true]
  unfold setH
  rw [dropH_snoc_ne h]
  cases hz : a.zero
  · have ha : (dropH l p).any (after' p) = true := by simpa [doneI, hz] using hd
    simp only [Bool.false_eq_true, if_false]
    have := placeN_le (dropH l p) p
    rw [placeN_any b ha, List.take_append_of_le_length this, List.drop_append_of_le_length this]
    simp
  · simp
theorem outI_put {l : List Hold} {p : Proc} {a : Amt} {b : Hold} (h : b.proc ≠ p) (hd : doneI l p a = false) (hb : 0 < cmpP b.proc p) : outI (l ++ [b]) p a = outI l p a ++ [⟨p, a⟩, b] ∧ doneI (l ++ [b]) p a = true := by
  have ha : a.zero = false ∧ (dropH l p).any (after' p) = false := by unfold doneI at hd; simpa using hd
  have hb' : after' p b = true := by simpa [after'] using hb
  have h2 : doneI (l ++ [b]) p a = true := by
    unfold doneI
    rw [dropH_snoc_ne h, List.any_append]
    simp [hb']
  refine ⟨?_, h2⟩
  unfold outI
  rw [h2, hd]
  simp only [if_true, Bool.false_eq_true, if_false]
  unfold setH
  rw [dropH_snoc_ne h, ha.1]
  have e : placeN (dropH l p ++ [b]) p = (dropH l p).length := by
    unfold placeN
    rw [List.findIdx?_append, find_none ha.2]
    simp [hb']
  rw [e]
  simp
theorem outI_no {l : List Hold} {p : Proc} {a : Amt} {b : Hold} (h : b.proc ≠ p) (hd : doneI l p a = false) (hb : ¬ 0 < cmpP b.proc p) : outI (l ++ [b]) p a = outI l p a ++ [b] ∧ doneI (l ++ [b]) p a = false := by
  have ha : a.zero = false ∧ (dropH l p).any (after' p) = false := by unfold doneI at hd; simpa using hd
  have hb' : after' p b = false := by simpa [after'] using hb
  have h2 : doneI (l ++ [b]) p a = false := by
    unfold doneI
    rw [dropH_snoc_ne h, List.any_append]
    simp [hb', ha.1, ha.2]
  refine ⟨?_, h2⟩
  unfold outI
  rw [h2, hd]
  simp only [Bool.false_eq_true, if_false]
  exact dropH_snoc_ne h
theorem outI_end {l : List Hold} {p : Proc} {a : Amt} : setH l p a = if doneI l p a then outI l p a else outI l p a ++ [⟨p, a⟩] := by
  unfold outI
  cases hd : doneI l p a
  · have ha : a.zero = false ∧ (dropH l p).any (after' p) = false := by unfold doneI at hd; simpa using hd
    have e : placeN (dropH l p) p = (dropH l p).length := by
      unfold placeN
      rw [find_none ha.2]
      rfl
    simp [setH, ha.1, e]
  · simp
theorem outI_len (l : List Hold) (p : Proc) (a : Amt) : (outI l p a).length ≤ l.length + 1 := by
  have h1 : (dropH l p).length ≤ l.length := List.length_filter_le _ _
  have := setH_length l p a
  unfold outI
  split <;> omega
theorem outI_nil (p : Proc) (a : Amt) : outI [] p a = [] ∧ doneI [] p a = a.zero := by
  have h : doneI [] p a = a.zero := by simp [doneI, dropH]
  refine ⟨?_, h⟩
  unfold outI
  rw [h]
  cases hz : a.zero <;> simp [setH, dropH, hz]
theorem f122_ok (l : List Hold) (p : Proc) (a : Amt) (hl : l.length ≤ 1000000) : FnOK C0 122 [holdsV l, .agg p.c, .agg a.c] [] (holdsV (setH l p a)) [] := by
  refine FnOK.intro (fn := Tryz.f122) (c := Tryz.f122.body.getD .skip) (by kernel_rfl) (by kernel_rfl) (by kernel_rfl) (by kernel_rfl) (by simp [Tryz.f122]) (by simp [names]) ?_
  unfold Tryz.f122
  simp (disch := omega) only [go_sem]
  refine call_pure (f119_ok a) (by simp (disch := omega) only [go_sem]) rfl ?_
  simp (disch := omega) only [go_sem]
  have hd : ∀ i, (outI (l.take i) p a).length ≤ l.length + 1 := fun i => by have := outI_len (l.take i) p a; simp at this; omega
  refine loop_intro (α := Nat) (fun i => ⟨[(9, I i), (0, holdsV l), (4, .ptr 256 0), (5, .ptr 320 0), (8, B (doneI (l.take i) p a)), (7, .sl (.own 3136 0) 5 ((outI (l.take i) p a).map Hold.c))], [(256, p.c), (320, a.c)]⟩) (fun i => i ≤ (l).length ∧ True) (fun i => (l).length - i) 0 ⟨by omega, trivial⟩ ?_ ?_
  · refine Imp.weak ?_ ?_
    all_goals (try simp (disch := omega) only [go_sem, List.take_zero, (outI_nil p a).1, (outI_nil p a).2, List.map_nil])
    all_goals (try (repeat' (with_reducible apply And.intro)))
    all_goals (first | exact .nilOwn (by omega) | exact .nilNo (by omega) | exact .sl (by simp [doneI]) | exact .int (by simp [doneI]) | exact .eq (by simp [doneI]))
  rintro i ⟨hi, hP⟩ J hJ
  simp (disch := omega) only [go_sem]
  refine And.intro (fun hlt => ?_) (fun hge => ?_)
  rotate_left
  have hil : i = (l).length := by simp at hge; omega
  rotate_left
  obtain ⟨b, hb⟩ : ∃ b, (l)[i]? = some b := ⟨_, List.getElem?_eq_getElem (by simp at hlt; omega)⟩
  have hbm := List.mem_of_getElem? hb
  have hlt2 : i < (l).length := by simp at hlt; omega
  refine draw_mk 6 [([], [0]), ([], [9]), ([0, 1], [18, 19]), ([0, 1, 2], [20]), ([0, 1, 2, 3], [21]), ([], [4]), ([0, 1, 2, 3, 4, 5], [])] fol (by kernel_rfl) ?_
  simp (disch := omega) only [go_sem, List.getElem?_map, hb]
  · have hdi := hd i
    by_cases hb' : b.proc = p
    · obtain ⟨e1, e2⟩ := outI_eq (l := l.take i) (a := a) hb'
      simp (disch := omega) only [go_sem, hb', decide_true]
      refine hJ _ (i + 1) ⟨by simp at hlt; omega, trivial⟩ (by simp at hlt; omega) (Imp.weak ?_ ?_)
      all_goals (try simp (disch := omega) only [go_sem])
      all_goals (try (repeat' (with_reducible apply And.intro)))
      all_goals (first | exact .nilOwn (by omega) | exact .nilNo (by omega) | exact .sl (by simp [List.take_add_one, hb, e1, e2]) | exact .int (by simp [List.take_add_one, hb, e1, e2]) | exact .eq (by simp [List.take_add_one, hb, e1, e2]))

    · simp (disch := omega) only [go_sem, hb', decide_false]
      refine draw_mk 9 [([], [8]), ([0], [25]), ([0, 1], [26]), ([0, 1, 2], [0, 27]), ([0, 1, 2], [9, 27]), ([0, 1, 2, 3, 4], [28, 29, 27]), ([0, 1, 2, 3, 4, 5], [30, 27]), ([0, 1, 2, 3, 4, 5, 6], [31, 27]), ([0, 1, 2], [4, 27]), ([0, 1, 2, 3, 4, 5, 6, 7, 8], []), ([0, 1, 2, 3, 4, 5, 6, 7, 8, 9], []), ([0, 1, 2, 3, 4, 5, 6, 7, 8, 9, 10], [])] fol (by kernel_rfl) ?_
      simp (disch := omega) only [go_sem]
      cases hdo : doneI (l.take i) p a
      · simp (disch := omega) only [go_sem, List.getElem?_map, hb]
        first | ((with_reducible show callB _ _ _ _ _ _); refine call_pure (f77_ok b.proc p) (by simp (disch := omega) only [go_sem]) rfl ?_) | ((with_reducible show freeCallB _ _ _ _ _ _ _ _ _ _); refine freeCall_mk ⟨⟨[], [], []⟩, [], []⟩ (f77_ok b.proc p) (by simp (disch := omega) only [go_sem]) rfl rfl trivial (.inl rfl) ?_)
        simp (disch := omega) only [go_sem]
        by_cases hc : 0 < cmpP b.proc p
        · obtain ⟨e1, e2⟩ := outI_put (a := a) hb' hdo hc
          simp (disch := omega) only [go_sem, hc, decide_true, List.getElem?_map, hb]
          refine hJ _ (i + 1) ⟨by simp at hlt; omega, trivial⟩ (by simp at hlt; omega) (Imp.weak ?_ ?_)
          all_goals (try simp (disch := omega) only [go_sem])
          all_goals (try (repeat' (with_reducible apply And.intro)))
          all_goals (first | exact .nilOwn (by omega) | exact .nilNo (by omega) | exact .sl (by simp [List.take_add_one, hb, e1, e2, Hold.c]) | exact .int (by simp [List.take_add_one, hb, e1, e2, Hold.c]) | exact .eq (by simp [List.take_add_one, hb, e1, e2, Hold.c]))

        · obtain ⟨e1, e2⟩ := outI_no (a := a) hb' hdo hc
          simp (disch := omega) only [go_sem, hc, decide_false, List.getElem?_map, hb]
          refine hJ _ (i + 1) ⟨by simp at hlt; omega, trivial⟩ (by simp at hlt; omega) (Imp.weak ?_ ?_)
          all_goals (try simp (disch := omega) only [go_sem])
          all_goals (try (repeat' (with_reducible apply And.intro)))
          all_goals (first | exact .nilOwn (by omega) | exact .nilNo (by omega) | exact .sl (by simp [List.take_add_one, hb, e1, e2, Hold.c]) | exact .int (by simp [List.take_add_one, hb, e1, e2, Hold.c]) | exact .eq (by simp [List.take_add_one, hb, e1, e2, Hold.c]))

      · obtain ⟨e1, e2⟩ := outI_done (a := a) hb' hdo
        simp (disch := omega) only [go_sem, List.getElem?_map, hb]
        refine hJ _ (i + 1) ⟨by simp at hlt; omega, trivial⟩ (by simp at hlt; omega) (Imp.weak ?_ ?_)
        all_goals (try simp (disch := omega) only [go_sem])
        all_goals (try (repeat' (with_reducible apply And.intro)))
        all_goals (first | exact .nilOwn (by omega) | exact .nilNo (by omega) | exact .sl (by simp [List.take_add_one, hb, e1, e2, Hold.c]) | exact .int (by simp [List.take_add_one, hb, e1, e2, Hold.c]) | exact .eq (by simp [List.take_add_one, hb, e1, e2, Hold.c]))

  · subst hil
    have hdi := hd l.length
    have he := outI_end (l := l) (p := p) (a := a)
    rw [List.take_length] at hdi ⊢
    cases hdo : doneI l p a
    · rw [hdo] at he
      simp only [Bool.false_eq_true, if_false] at he
      simp (disch := omega) only [go_sem]
      refine ret_mk ⟨[], [], [3648]⟩ _ (by (try simp (disch := omega) only [go_sem, resVs, resV]) <;> rfl) ⟨rfl, rfl⟩ (by simp) ?_ trivial
      simp (disch := omega) only [go_sem, he]
      exact .sl (by simp [Hold.c])
    · rw [hdo] at he
      simp only [if_true] at he
      simp (disch := omega) only [go_sem]
      refine ret_mk ⟨[], [], [3136]⟩ _ (by (try simp (disch := omega) only [go_sem, resVs, resV]) <;> rfl) ⟨rfl, rfl⟩ (by simp) ?_ trivial
      simp (disch := omega) only [go_sem, he]
theorem f224_ok (q : Queue) : FnOK C0 224 [.agg q.c] [] (.tup [.agg ((headQ q).getD w0).c, B (headQ q).isSome]) [] := by
  refine FnOK.intro (fn := Tryz.f224) (c := Tryz.f224.body.getD .skip) (by kernel_rfl) (by kernel_rfl) (by kernel_rfl) (by kernel_rfl) (by simp [Tryz.f224]) (by simp [names]) ?_
  unfold Tryz.f224
  match hq : q.convs, hw : q.waits with
  | w :: l, _ =>
    have e : headQ q = some w := by simp [headQ, hq]
    have e1 : (0 < (l.length : Int) + 1) = True := by simp
    simp (disch := omega) only [go_sem, hq, e, e1, Option.isSome_some]
    refine ret_mk ⟨[], [], []⟩ _ (by (try simp (disch := omega) only [go_sem, resVs, resV]) <;> rfl) ⟨rfl, rfl⟩ (by simp) ?_ trivial
    simp (disch := omega) only [go_sem]
  | [], w :: l =>
    have e : headQ q = some w := by simp [headQ, hq, hw]
    have e1 : (0 < (l.length : Int) + 1) = True := by simp
    simp (disch := omega) only [go_sem, hq, hw, e, e1, Option.isSome_some]
    refine ret_mk ⟨[], [], []⟩ _ (by (try simp (disch := omega) only [go_sem, resVs, resV]) <;> rfl) ⟨rfl, rfl⟩ (by simp) ?_ trivial
    simp (disch := omega) only [go_sem]
  | [], [] =>
    have e : headQ q = none := by simp [headQ, hq, hw]
    simp (disch := omega) only [go_sem, hq, hw, e, Option.isSome_none, w0]
    refine ret_mk ⟨[], [], []⟩ _ (by (try simp (disch := omega) only [go_sem, resVs, resV]) <;> rfl) ⟨rfl, rfl⟩ (by simp) ?_ trivial
    simp (disch := omega) only [go_sem]
theorem f225_ok (r : Res) (l : List Hold) (p : Proc) (a : Amt) (hl : l.length ≤ 1000000) : FnOK C0 225 [.agg r.c, holdsV l, .agg p.c, .agg a.c] [] (B (roomH r l p a)) [] := by
  have h2 : (setH l p a).length ≤ 1000000 ∨ l.length = 1000000 := by have := setH_length l p a; omega
  refine FnOK.intro (fn := Tryz.f225) (c := Tryz.f225.body.getD .skip) (by kernel_rfl) (by kernel_rfl) (by kernel_rfl) (by kernel_rfl) (by simp [Tryz.f225]) (by simp [names]) ?_
  unfold Tryz.f225
  simp (disch := omega) only [go_sem]
  refine draw_mk 18 [([], [4]), ([], [1]), ([0, 1], [9, 10]), ([0, 1, 2], [11]), ([0, 1, 2, 3], [6, 12]), ([0, 1, 2, 3, 4], [13, 12]), ([0, 1, 2, 3, 4, 5], [12, 14]), ([0, 1, 2, 3, 4, 5, 6], [15]), ([0, 1, 2, 3, 4, 5, 6, 7], [4, 16]), ([0, 1, 2, 3, 4, 5, 6, 7], [7, 16]), ([0, 1, 2, 3, 4, 5, 6, 7, 8, 9], [17, 18, 16]), ([0, 1, 2, 3, 4, 5, 6, 7, 8, 9, 10], [16, 19]), ([0, 1, 2, 3, 4, 5, 6, 7, 8, 9, 10, 11], [20]), ([0, 1, 2, 3, 4, 5, 6, 7, 8, 9, 10, 11, 12], [4, 21]), ([0, 1, 2, 3, 4, 5, 6, 7, 8, 9, 10, 11, 12], [1, 21]), ([0, 1, 2, 3, 4, 5, 6, 7, 8, 9, 10, 11, 12], [6, 21]), ([0, 1, 2, 3, 4, 5, 6, 7, 8, 9, 10, 11, 12], [7, 21]), ([0, 1, 2, 3, 4, 5, 6, 7, 8, 9, 10, 11, 12, 14, 15, 16], [23, 24, 25, 21]), ([0, 1, 2, 3, 4, 5, 6, 7, 8, 9, 10, 11, 12, 13, 14, 15, 16, 17], []), ([0, 1, 2, 3, 4, 5, 6, 7, 8, 9, 10, 11, 12, 13, 14, 15, 16, 17, 18], []), ([0, 1, 2, 3, 4, 5, 6, 7, 8, 9, 10, 11, 12, 13, 14, 15, 16, 17, 18, 19], [])] fol (by kernel_rfl) ?_
  simp (disch := omega) only [go_sem]
  first | ((with_reducible show callB _ _ _ _ _ _); refine call_pure (f222_ok r l hl) (by simp (disch := omega) only [go_sem]) rfl ?_) | ((with_reducible show freeCallB _ _ _ _ _ _ _ _ _ _); refine freeCall_mk ⟨⟨[], [], []⟩, [], []⟩ (f222_ok r l hl) (by simp (disch := omega) only [go_sem]) rfl rfl trivial (.inl rfl) ?_)
  cases h1 : holdsOK r l
  · simp (disch := omega) only [go_sem]
    refine ret_mk ⟨[], [], []⟩ _ (by (try simp (disch := omega) only [go_sem, resVs, resV]) <;> rfl) ⟨rfl, rfl⟩ (by simp) ?_ trivial
    simp (disch := omega) only [go_sem]
    exact wb (by simp [roomH, h1])
  have h8 : l.length ≤ 8 := by simp [holdsOK] at h1; omega
  have h9 : (setH l p a).length ≤ 1000000 := by omega
  simp (disch := omega) only [go_sem]
  repeat' (first
    | (with_reducible refine And.intro (fun h => ?_) (fun h => ?_))
    | ((with_reducible show callB _ _ 75 _ _ _); refine call_pure (f75_ok p) ?_ rfl ?_; (focus (simp (disch := omega) only [go_sem]; done)); try simp (disch := omega) only [go_sem])
    | ((with_reducible show freeCallB _ _ 75 _ _ _ _ _ _ _); refine freeCall_mk ⟨⟨[], [], []⟩, [], []⟩ (f75_ok p) ?_ rfl rfl trivial (.inl rfl) ?_; (focus (simp (disch := omega) only [go_sem]; done)); try simp (disch := omega) only [go_sem])
    | ((with_reducible show callB _ _ 130 _ _ _); refine call_pure (f130_ok r a) ?_ rfl ?_; (focus (simp (disch := omega) only [go_sem]; done)); try simp (disch := omega) only [go_sem])
    | ((with_reducible show freeCallB _ _ 130 _ _ _ _ _ _ _); refine freeCall_mk ⟨⟨[], [], []⟩, [], []⟩ (f130_ok r a) ?_ rfl rfl trivial (.inl rfl) ?_; (focus (simp (disch := omega) only [go_sem]; done)); try simp (disch := omega) only [go_sem])
    | ((with_reducible show callB _ _ 122 _ _ _); refine call_pure (f122_ok l p a hl) ?_ rfl ?_; (focus (simp (disch := omega) only [go_sem]; done)); try simp (disch := omega) only [go_sem])
    | ((with_reducible show freeCallB _ _ 122 _ _ _ _ _ _ _); refine freeCall_mk ⟨⟨[], [], []⟩, [], []⟩ (f122_ok l p a hl) ?_ rfl rfl trivial (.inl rfl) ?_; (focus (simp (disch := omega) only [go_sem]; done)); try simp (disch := omega) only [go_sem])
    | ((with_reducible show callB _ _ 222 _ _ _); refine call_pure (f222_ok r (setH l p a) h9) ?_ rfl ?_; (focus (simp (disch := omega) only [go_sem]; done)); try simp (disch := omega) only [go_sem])
    | ((with_reducible show freeCallB _ _ 222 _ _ _ _ _ _ _); refine freeCall_mk ⟨⟨[], [], []⟩, [], []⟩ (f222_ok r (setH l p a) h9) ?_ rfl rfl trivial (.inl rfl) ?_; (focus (simp (disch := omega) only [go_sem]; done)); try simp (disch := omega) only [go_sem]))
  all_goals (refine ret_mk ⟨[], [], []⟩ _ (by (try simp (disch := omega) only [go_sem, resVs, resV]) <;> rfl) ⟨rfl, rfl⟩ (by simp) ?_ trivial)
  all_goals (try simp (disch := omega) only [go_sem])
  all_goals (refine wb ?_)
  all_goals (simp_all [roomH])
end Go.Rd
open Go Go.Abs Go.Proofs
set_option maxRecDepth 100000
namespace Go.Rd
theorem f184_ok (q : Queue) (h1 : q.holds.length ≤ 1000000) (h2 : q.waits.length ≤ 1000000) : FnOK C0 184 [.agg q.c] [] (B (valid q)) [] := by
  refine FnOK.intro (fn := Tryz.f184) (c := Tryz.f184.body.getD .skip) (by kernel_rfl) (by kernel_rfl) (by kernel_rfl) (by kernel_rfl) (by simp [Tryz.f184]) (by simp [names]) ?_
  unfold Tryz.f184
  simp (disch := omega) only [go_sem]
  refine call_pure (f183_ok q h1 h2) (by simp (disch := omega) only [go_sem]) rfl ?_
  cases hs : sound q
  · simp (disch := omega) only [go_sem]
    refine ret_mk ⟨[], [], []⟩ _ (by (try simp (disch := omega) only [go_sem, resVs, resV]) <;> rfl) ⟨rfl, rfl⟩ (by simp) ?_ trivial
    simp (disch := omega) only [go_sem]
    exact wb (by simp [valid, hs])
  simp (disch := omega) only [go_sem]
  refine call_pure (f224_ok q) (by simp (disch := omega) only [go_sem]) rfl ?_
  cases hh : headQ q with
  | none =>
    simp (disch := omega) only [go_sem, Option.isSome_none]
    refine ret_mk ⟨[], [], []⟩ _ (by (try simp (disch := omega) only [go_sem, resVs, resV]) <;> rfl) ⟨rfl, rfl⟩ (by simp) ?_ trivial
    simp (disch := omega) only [go_sem]
    exact wb (by simp [valid, hs, hh])
  | some w =>
    simp (disch := omega) only [go_sem, Option.isSome_some]
    refine call_pure (f225_ok q.res q.holds w.proc w.amt h1) (by simp (disch := omega) only [go_sem]) rfl ?_
    simp (disch := omega) only [go_sem]
    refine ret_mk ⟨[], [], []⟩ _ (by (try simp (disch := omega) only [go_sem, resVs, resV]) <;> rfl) ⟨rfl, rfl⟩ (by simp) ?_ trivial
    simp (disch := omega) only [go_sem]
    exact wb (by simp [valid, hs, hh])
theorem f115_ok (q : Queue) (h1 : q.holds.length ≤ 1000000) (h2 : q.waits.length ≤ 1000000) : FnOK C0 115 [.agg q.c] [] (B (valid q)) [] := by
  refine FnOK.intro (fn := Tryz.f115) (c := Tryz.f115.body.getD .skip) (by kernel_rfl) (by kernel_rfl) (by kernel_rfl) (by kernel_rfl) (by simp [Tryz.f115]) (by simp [names]) ?_
  unfold Tryz.f115
  simp (disch := omega) only [go_sem]
  refine call_pure (f183_ok q h1 h2) (by simp (disch := omega) only [go_sem]) rfl ?_
  cases hs : sound q
  · simp (disch := omega) only [go_sem]
    refine ret_mk ⟨[], [], []⟩ _ (by (try simp (disch := omega) only [go_sem, resVs, resV]) <;> rfl) ⟨rfl, rfl⟩ (by simp) ?_ trivial
    simp (disch := omega) only [go_sem]
    exact wb (by simp [valid, hs])
  simp (disch := omega) only [go_sem]
  refine call_pure (f184_ok q h1 h2) (by simp (disch := omega) only [go_sem]) rfl ?_
  simp (disch := omega) only [go_sem]
  refine ret_mk ⟨[], [], []⟩ _ (by (try simp (disch := omega) only [go_sem, resVs, resV]) <;> rfl) ⟨rfl, rfl⟩ (by simp) ?_ trivial
  simp (disch := omega) only [go_sem]
theorem sound_len {q : Queue} (h : Sound q) : allQ q ≤ 16 := by
  have h' := (sound_iff q).2 h
  simp only [sound, convsOK, waitsOK, Bool.and_eq_true, decide_eq_true_eq] at h'
  unfold allQ sizeQ
  omega
def advR (q : Queue) : Queue × List Hold := if sound q then advQ q else (q0, [])
theorem f189_ok (q : Queue) (h1 : q.holds.length ≤ 1000000) (h2 : q.convs.length ≤ 1000000) (h3 : q.waits.length ≤ 1000000) : FnOK C0 189 [.agg q.c] [] (.tup [.agg (advR q).1.c, holdsV (advR q).2]) [] := by
  refine FnOK.intro (fn := Tryz.f189) (c := Tryz.f189.body.getD .skip) (by kernel_rfl) (by kernel_rfl) (by kernel_rfl) (by kernel_rfl) (by simp [Tryz.f189]) (by simp [names]) ?_
  unfold Tryz.f189
  simp (disch := omega) only [go_sem]
  refine call_pure (f183_ok q h1 h3) (by simp (disch := omega) only [go_sem]) rfl ?_
  cases hs : sound q
  · have e : advR q = (q0, []) := by simp [advR, hs]
    simp (disch := omega) only [go_sem, e, q0]
    refine ret_mk ⟨[], [], []⟩ _ (by (try simp (disch := omega) only [go_sem, resVs, resV]) <;> rfl) ⟨rfl, rfl⟩ (by simp) ?_ trivial
    simp (disch := omega) only [go_sem]
    refine .tup (WeakArgs.weakL ?_)
    simp (disch := omega) only [go_sem]
    repeat' (with_reducible apply And.intro)
    all_goals (first | exact .nilNo (by omega) | exact .agg (WeakArgs.weakL (by simp (disch := omega) only [go_sem])))
  have e : advR q = advQ q := by simp [advR, hs]
  rw [e]
  simp (disch := omega) only [go_sem]
  refine call_pure (f121_ok q h1 h2 h3) (by simp (disch := omega) only [go_sem]) rfl ?_
  simp (disch := omega) only [go_sem]
  refine loop_intro (α := Queue × List Hold) (fun x => ⟨[(1, .ptr 64 0), (2, .ptr 128 0), (4, .sl (.own 3072 0) 5 (x.2.map Hold.c))], [(64, x.1.c), (128, q0.c)]⟩) (fun x => x.2.length + sizeQ x.1 = sizeQ q ∧ Sound x.1 ∧ (advQ x.1).1 = (advQ q).1 ∧ x.2 ++ (advQ x.1).2 = (advQ q).2) (fun x => sizeQ x.1) (q, []) ⟨by simp, (sound_iff q).1 hs, rfl, rfl⟩ ?_ ?_
  · refine Imp.weak ?_ ?_
    · simp (disch := omega) only [go_sem]
    · simp (disch := omega) only [go_sem, q0]
  rintro ⟨s, hs⟩ ⟨i1, i2, i3, i4⟩ J hJ
  replace i1 : hs.length + sizeQ s = sizeQ q := i1
  replace i2 : Sound s := i2
  replace i3 : (advQ s).1 = (advQ q).1 := i3
  replace i4 : hs ++ (advQ s).2 = (advQ q).2 := i4
  rw [advQ_def s] at i3 i4
  have hsl := sound_len i2
  have hlen : s.holds.length ≤ 1000000 ∧ s.waits.length ≤ 1000000 ∧ s.convs.length ≤ 1000000 := by unfold allQ sizeQ at hsl; omega
  simp (disch := omega) only [go_sem]
  refine call_pure (f184_ok s hlen.1 hlen.2.1) (by simp (disch := omega) only [go_sem]) rfl ?_
  have hvd : valid s = (match headQ s with | some w => !roomH s.res s.holds w.proc w.amt | none => true) := by
    have := (sound_iff s).2 i2
    unfold valid
    cases headQ s <;> simp [this]
  have fin : ∀ (P : Prop), True := fun _ => trivial
  cases hh : headQ s with
  | none =>
    simp only [hh] at i3 i4 hvd
    simp (disch := omega) only [go_sem, hvd]
    refine ret_mk ⟨[], [], [3072]⟩ _ (by (try simp (disch := omega) only [go_sem, resVs, resV]) <;> rfl) ⟨rfl, rfl⟩ (by simp [lk]) ?_ trivial
    simp (disch := omega) only [go_sem, ← i3, ← i4, List.append_nil]
  | some w =>
    simp only [hh] at i3 i4 hvd
    have hsz := head_size hh
    cases hr : roomH s.res s.holds w.proc w.amt
    · simp only [hr, Bool.false_eq_true, if_false, Bool.not_false] at i3 i4 hvd
      simp (disch := omega) only [go_sem, hvd]
      refine ret_mk ⟨[], [], [3072]⟩ _ (by (try simp (disch := omega) only [go_sem, resVs, resV]) <;> rfl) ⟨rfl, rfl⟩ (by simp [lk]) ?_ trivial
      simp (disch := omega) only [go_sem, ← i3, ← i4, List.append_nil]
    simp only [hr, if_true, Bool.not_true] at i3 i4 hvd
    have step : ∀ st', Imp ⟨C0, [], []⟩ st' ⟨[(1, .ptr 64 0), (2, .ptr 128 0), (4, .sl (.own 3072 0) 5 ((hs ++ [Hold.mk w.proc w.amt]).map Hold.c))], [(64, (popQ s w).c), (128, q0.c)]⟩ → J st' := fun st' h =>
      hJ st' (popQ s w, hs ++ [Hold.mk w.proc w.amt]) ⟨by simp; omega, sound_pop i2 hh hr, i3, by rw [← i4]; simp⟩ (by simp; omega) h
    have hbound : hs.length + 1 ≤ 4294967296 := by unfold sizeQ at i1; omega
    simp (disch := omega) only [go_sem, hvd]
    refine call_pure (f224_ok s) (by simp (disch := omega) only [go_sem]) rfl ?_
    cases hc : s.convs with
    | cons a l =>
      have hp : popQ s w = { s with holds := setH s.holds w.proc w.amt, convs := l } := by unfold popQ; simp only [hc]
      rw [hp] at step
      have z1 : (0 < (l.length : Int) + 1) = True := eq_true (by omega)
      have z2 : (l.map Wait.c).take (l.length + 1 - 1) = l.map Wait.c := List.take_of_length_le (by simp)
      simp (disch := omega) only [go_sem, hc, hh, z1, z2]
      refine call_pure (f122_ok s.holds w.proc w.amt hlen.1) (by simp (disch := omega) only [go_sem]) rfl ?_
      simp (disch := omega) only [go_sem, hc, hh, z1, z2]
      refine step _ (Imp.weak ?_ ?_)
      · simp (disch := omega) only [go_sem]
        exact .sl (by simp [Hold.c])
      · simp (disch := omega) only [go_sem, z2]
    | nil =>
      have hp : popQ s w = { s with holds := setH s.holds w.proc w.amt, waits := s.waits.drop 1 } := by unfold popQ; simp only [hc]
      rw [hp] at step
      have hw : 1 ≤ s.waits.length := by unfold sizeQ at hsz; rw [hc] at hsz; simp at hsz; omega
      have z2 : ((s.waits.map Wait.c).drop 1).take (s.waits.length - 1) = (s.waits.drop 1).map Wait.c := by rw [← List.map_drop]; exact List.take_of_length_le (by simp)
      simp (disch := omega) only [go_sem, hc, hh, z2]
      refine call_pure (f122_ok s.holds w.proc w.amt hlen.1) (by simp (disch := omega) only [go_sem]) rfl ?_
      simp (disch := omega) only [go_sem, hc, hh, z2]
      refine step _ (Imp.weak ?_ ?_)
      · simp (disch := omega) only [go_sem]
        exact .sl (by simp [Hold.c])
      · simp (disch := omega) only [go_sem, hc, z2, List.map_nil]


theorem f124_ok (q : Queue) (hs : Sound q) (h1 : q.holds.length ≤ 1000000) (h2 : q.convs.length ≤ 1000000) (h3 : q.waits.length ≤ 1000000) : FnOK C0 124 [.agg q.c] [] (.tup [.agg (endQ q).c, holdsV (advQ q).2, I 0]) [] := by
  refine FnOK.intro (fn := Tryz.f124) (c := Tryz.f124.body.getD .skip) (by kernel_rfl) (by kernel_rfl) (by kernel_rfl) (by kernel_rfl) (by simp [Tryz.f124]) (by simp [names]) ?_
  unfold Tryz.f124
  simp (disch := omega) only [go_sem]
  refine call_pure (f189_ok q h1 h2 h3) (by simp (disch := omega) only [go_sem]) rfl ?_
  have e : advR q = advQ q := by simp [advR, (sound_iff q).2 hs]
  have eg : (advQ q).1.gen = q.gen := (adv_res q).2
  rw [e]
  simp (disch := omega) only [go_sem]
  refine call_pure (f148_ok q.gen) (by simp (disch := omega) only [go_sem]) rfl ?_
  simp (disch := omega) only [go_sem]
  refine ret_mk ⟨[], [], []⟩ _ (by (try simp (disch := omega) only [go_sem, resVs, resV]) <;> rfl) ⟨rfl, rfl⟩ (by simp) ?_ trivial
  simp (disch := omega) only [go_sem]
  simp (disch := omega) only [go_sem, endQ, eg]
theorem has_q {q : Queue} (h : valid q = true) (p : Proc) : hasQ q p = hasP (procsQ q) p := by
  have hs := ((valid_iff q).1 h).1
  have hz : ∀ x ∈ q.holds, x.amt.zero = false := fun x hx => by
    have hs' := (sound_iff q).2 hs
    simp only [sound, Bool.and_eq_true] at hs'
    have := (holdsOK_iff q.res q.holds).1 (by simp_all)
    exact fits_nz (this.2.2.1 x hx).2
  have e1 : hasP (procsQ q) p = true ↔ inQ q p := by rw [← mem_procsQ]; simp [hasP]
  have e2 : hasQ q p = true ↔ inQ q p := by
    unfold hasQ inQ wantQ
    rw [Bool.or_eq_true, Option.isSome_map, List.find?_isSome]
    constructor
    · rintro (⟨w, hw, h2⟩ | h2)
      · have h3 : w.proc = p := by simpa using h2
        rcases List.mem_append.1 hw with h | h
        · exact .inr (.inl ⟨w, h, h3⟩)
        · exact .inr (.inr ⟨w, h, h3⟩)
      · exact .inl (getH_some (by simpa using h2))
    · rintro (⟨x, hx, h2⟩ | ⟨w, hw, h2⟩ | ⟨w, hw, h2⟩)
      · right
        unfold getH
        cases hf : q.holds.find? (fun h => decide (h.proc = p)) with
        | none => rw [List.find?_eq_none] at hf; exact absurd h2 (by simpa using hf x hx)
        | some y => simp [hz y (List.mem_of_find?_eq_some hf)]
      · exact .inl ⟨w, List.mem_append.2 (.inl hw), by simp [h2]⟩
      · exact .inl ⟨w, List.mem_append.2 (.inr hw), by simp [h2]⟩
  exact Bool.eq_iff_iff.2 (e2.trans e1.symm)
theorem f79_ok (q : Queue) (p : Proc) (h : allQ q ≤ 100) : FnOK C0 79 [.agg q.c, .agg p.c] [] (.tup [.agg (remQ q p).1.c, holdsV (remQ q p).2.1, I (remQ q p).2.2]) [] := by
  obtain ⟨h1, h2, h3⟩ := allQ_parts h
  refine FnOK.intro (fn := Tryz.f79) (c := Tryz.f79.body.getD .skip) (by kernel_rfl) (by kernel_rfl) (by kernel_rfl) (by kernel_rfl) (by simp [Tryz.f79]) (by simp [names]) ?_
  unfold Tryz.f79
  simp (disch := omega) only [go_sem]
  refine call_pure (f115_ok q h1 h3) (by simp (disch := omega) only [go_sem]) rfl ?_
  cases hv : valid q
  · have e : remQ q p = (q0, [], 2) := by simp [remQ, hv]
    simp (disch := omega) only [go_sem, Bool.not_false, e, q0]
    refine ret_mk ⟨[], [], []⟩ _ (by (try simp (disch := omega) only [go_sem, resVs, resV]) <;> rfl) ⟨rfl, rfl⟩ (by simp) ?_ trivial
    simp (disch := omega) only [go_sem]
    refine .tup (WeakArgs.weakL ?_)
    simp (disch := omega) only [go_sem]
    repeat' (with_reducible apply And.intro)
    all_goals (first | exact .nilNo (by omega) | exact .agg (WeakArgs.weakL (by simp (disch := omega) only [go_sem])))
  simp (disch := omega) only [go_sem]
  refine call_pure (f78_ok q p (by omega)) (by simp (disch := omega) only [go_sem]) rfl ?_
  rw [has_q hv p]
  cases hp : hasP (procsQ q) p
  · have e : remQ q p = (q0, [], 10) := by simp [remQ, hv, hp]
    simp (disch := omega) only [go_sem, Bool.not_false, e, q0]
    refine ret_mk ⟨[], [], []⟩ _ (by (try simp (disch := omega) only [go_sem, resVs, resV]) <;> rfl) ⟨rfl, rfl⟩ (by simp) ?_ trivial
    simp (disch := omega) only [go_sem]
    refine .tup (WeakArgs.weakL ?_)
    simp (disch := omega) only [go_sem]
    repeat' (with_reducible apply And.intro)
    all_goals (first | exact .nilNo (by omega) | exact .agg (WeakArgs.weakL (by simp (disch := omega) only [go_sem])))
  have e : remQ q p = (endQ (cutQ q p), (advQ (cutQ q p)).2, 0) := by simp [remQ, hv, hp]
  rw [e]
  simp (disch := omega) only [go_sem]
  refine call_pure (f121_ok q h1 h2 h3) (by simp (disch := omega) only [go_sem]) rfl ?_
  simp (disch := omega) only [go_sem]
  refine call_pure (f122_ok q.holds p ⟨0, 0⟩ h1) (by simp (disch := omega) only [go_sem]) rfl ?_
  simp (disch := omega) only [go_sem]
  refine call_pure (f123_ok q.convs p h2) (by simp (disch := omega) only [go_sem]) rfl ?_
  simp (disch := omega) only [go_sem]
  refine call_pure (f123_ok q.waits p h3) (by simp (disch := omega) only [go_sem]) rfl ?_
  simp (disch := omega) only [go_sem]
  have ha := cut_all q p
  obtain ⟨g1, g2, g3⟩ := allQ_parts (q := cutQ q p) (by omega)
  refine call_pure (f124_ok (cutQ q p) (sound_cut ((valid_iff q).1 hv).1 p) g1 g2 g3) (by simp (disch := omega) only [go_sem, cutQ]) rfl ?_
  simp (disch := omega) only [go_sem]
  refine ret_mk ⟨[], [], []⟩ _ (by (try simp (disch := omega) only [go_sem, resVs, resV]) <;> rfl) ⟨rfl, rfl⟩ (by simp) ?_ trivial
  simp (disch := omega) only [go_sem]
end Go.Rd
open Go Go.Abs Go.Proofs
set_option maxRecDepth 100000
namespace Go.Rd
mutual
def sizeE : Expr → Int → Int × Int
  | .mk _ _ kids, lv => if 4 < lv ∨ 24 < kids.length then (25, 0) else sizeL kids lv 1 0
def sizeL : List Expr → Int → Int → Int → Int × Int
  | [], _, n, m => (n, m + 1)
  | e :: l, lv, n, m => if 24 < n + (sizeE e (lv + 1)).1 then (25, 0) else sizeL l lv (n + (sizeE e (lv + 1)).1) (max m (sizeE e (lv + 1)).2)
end
theorem sizeE_def (e : Expr) (lv : Int) : sizeE e lv = if 4 < lv ∨ 24 < e.kids.length then (25, 0) else sizeL e.kids lv 1 0 := by
  cases e; simp only [sizeE]; rfl
def sbd (lv : Int) (x : Int × Int) : Prop := 1 ≤ x.1 ∧ x.1 ≤ 25 ∧ 0 ≤ x.2 ∧ x.2 ≤ 5 - lv
theorem sizeL_bd (lv : Int) (h1 : 1 ≤ lv) (h4 : lv ≤ 4) : ∀ (l : List Expr) (n m : Int), (∀ e ∈ l, sbd (lv + 1) (sizeE e (lv + 1))) → 1 ≤ n → n ≤ 24 → 0 ≤ m → m ≤ 4 - lv → sbd lv (sizeL l lv n m)
  | [], n, m, _, hn, hn2, hd, hd2 => by simp only [sizeL, sbd]; omega
  | e :: l, n, m, hk, hn, hn2, hd, hd2 => by
    obtain ⟨b1, b2, b3, b4⟩ := hk e (by simp)
    simp only [sizeL]
    split
    · simp only [sbd]; omega
    · exact sizeL_bd lv h1 h4 l _ _ (fun e' he => hk e' (by simp [he])) (by omega) (by omega) (by omega) (by omega)
theorem sizeE_bd : ∀ (N : Nat) (e : Expr), SizeOf.sizeOf e < N → ∀ lv : Int, 1 ≤ lv → lv ≤ 5 → sbd lv (sizeE e lv)
  | 0, _, h, _, _, _ => by omega
  | N + 1, e, h, lv, h1, h5 => by
    rw [sizeE_def]
    split
    · simp only [sbd]; omega
    · rename_i hc
      exact sizeL_bd lv h1 (by omega) _ _ _ (fun e' he => sizeE_bd N e' (by have := kid_lt he; omega) _ (by omega) (by omega)) (by omega) (by omega) (by omega) (by omega)
theorem f226_ok : ∀ (N : Nat) (e : Expr), SizeOf.sizeOf e < N → ∀ lv : Int, 1 ≤ lv → lv ≤ 5 →
    FnOK C0 226 [.agg e.c, I lv] [] (.tup [I (sizeE e lv).1, I (sizeE e lv).2]) []
  | 0, _, h, _, _, _ => by omega
  | N + 1, e, h, lv, h1, h5 => by
    refine FnOK.assume (fn := Tryz.f226) (c := Tryz.f226.body.getD .skip) (by kernel_rfl) (by kernel_rfl) (by kernel_rfl) fun hlen => ?_
    simp only [lensL, lens, Expr.c_def, List.length_map, and_true, true_and] at hlen
    refine FnOK.intro (fn := Tryz.f226) (c := Tryz.f226.body.getD .skip) (by kernel_rfl) (by kernel_rfl) (by kernel_rfl) (by kernel_rfl) (by simp [Tryz.f226]) (by simp [names]) ?_
    unfold Tryz.f226
    by_cases hc : 4 < lv ∨ 24 < e.kids.length
    · have em : sizeE e lv = (25, 0) := by rw [sizeE_def, if_pos hc]
      simp (disch := omega) only [go_sem, em]
      repeat' (with_reducible refine And.intro (fun h => ?_) (fun h => ?_))
      all_goals (try (exfalso; simp_all; omega))
      all_goals (refine ret_mk ⟨[], [], []⟩ _ (by (try simp (disch := omega) only [go_sem, resVs, resV]) <;> rfl) ⟨rfl, rfl⟩ (by simp) ?_ trivial)
      all_goals simp (disch := omega) only [go_sem]
    have em : sizeE e lv = sizeL e.kids lv 1 0 := by rw [sizeE_def, if_neg hc]
    have hc1 : (4 < lv) = False := by simp; omega
    have hc2 : (24 < (e.kids.length : Int)) = False := by simp; omega
    simp (disch := omega) only [go_sem, em, hc1, hc2, decide_false]
    refine loop_intro (α := Nat × Int × Int) (fun q => ⟨[(8, I q.1), (1, I lv), (2, .ptr 128 0), (6, I q.2.1), (7, I q.2.2)], [(128, e.c)]⟩)
      (fun q => q.1 ≤ e.kids.length ∧ 1 ≤ q.2.1 ∧ q.2.1 ≤ 24 ∧ 0 ≤ q.2.2 ∧ q.2.2 ≤ 4 - lv ∧ sizeL (e.kids.drop q.1) lv q.2.1 q.2.2 = sizeL e.kids lv 1 0) (fun q => e.kids.length - q.1) (0, 1, 0) ⟨by simp, by simp, by simp, by simp, by simp; omega, by simp⟩ ?_ ?_
    · refine Imp.weak ?_ ?_
      · simp (disch := omega) only [go_sem]
      · simp (disch := omega) only [go_sem]
    rintro ⟨i, n, m⟩ ⟨hi, hm0, hm, hd0, hd, hr⟩ J hJ
    replace hi : i ≤ e.kids.length := hi
    replace hm0 : 1 ≤ n := hm0
    replace hm : n ≤ 24 := hm
    replace hd0 : 0 ≤ m := hd0
    replace hd : m ≤ 4 - lv := hd
    replace hr : sizeL (e.kids.drop i) lv n m = sizeL e.kids lv 1 0 := hr
    simp (disch := omega) only [go_sem]
    refine And.intro (fun hlt => ?_) (fun hge => ?_)
    · have hlt' : i < e.kids.length := by simp at hlt; omega
      have hb : e.kids[i]? = some e.kids[i] := List.getElem?_eq_getElem hlt'
      have hsz := kid_lt (List.getElem_mem hlt')
      have hdr : e.kids.drop i = e.kids[i] :: e.kids.drop (i + 1) := List.drop_eq_getElem_cons hlt'
      generalize e.kids[i] = b at hb hsz hdr
      rw [hdr] at hr
      simp only [sizeL] at hr
      simp (disch := omega) only [go_sem, List.getElem?_map, hb]
      first | ((with_reducible show callB _ _ _ _ _ _); refine call_pure (f226_ok N b (by omega) (lv + 1) (by omega) (by omega)) (by simp (disch := omega) only [go_sem]) rfl ?_) | ((with_reducible show freeCallB _ _ _ _ _ _ _ _ _ _); refine freeCall_mk ⟨⟨[], [], []⟩, [], []⟩ (f226_ok N b (by omega) (lv + 1) (by omega) (by omega)) (by simp (disch := omega) only [go_sem]) rfl rfl trivial (.inl rfl) ?_)
      obtain ⟨b1, b2, b3, b4⟩ := sizeE_bd N b (by omega) (lv + 1) (by omega) (by omega)
      generalize sizeE b (lv + 1) = x at hr b1 b2 b3 b4
      by_cases h24 : 24 < n + x.1
      · have d24 : (24 < n + x.1) = True := eq_true h24
        rw [if_pos h24] at hr
        simp (disch := omega) only [go_sem, d24]
        repeat' (with_reducible refine And.intro (fun h => ?_) (fun h => ?_))
        all_goals (refine ret_mk ⟨[], [], []⟩ _ (by (try simp (disch := omega) only [go_sem, resVs, resV]) <;> rfl) ⟨rfl, rfl⟩ (by simp) ?_ trivial)
        all_goals simp (disch := omega) only [go_sem, ← hr]
      · have d24 : (24 < n + x.1) = False := eq_false h24
        rw [if_neg h24] at hr
        simp (disch := omega) only [go_sem, d24, decide_false]
        by_cases hmx : m < x.2
        · have e1 : max m x.2 = x.2 := by omega
          have d1 : (m < x.2) = True := eq_true hmx
          rw [e1] at hr
          simp (disch := omega) only [go_sem, d1]
          refine hJ _ (i + 1, n + x.1, x.2) ⟨by simp; omega, by simp; omega, by simp; omega, by simp; omega, by simp; omega, hr⟩ (by simp; omega) (Imp.weak ?_ ?_)
          · simp (disch := omega) only [go_sem]
          · simp (disch := omega) only [go_sem]
        · have e1 : max m x.2 = m := by omega
          have d1 : (m < x.2) = False := eq_false hmx
          rw [e1] at hr
          simp (disch := omega) only [go_sem, d1, decide_false]
          refine hJ _ (i + 1, n + x.1, m) ⟨by simp; omega, by simp; omega, by simp; omega, by simp; omega, by simp; omega, hr⟩ (by simp; omega) (Imp.weak ?_ ?_)
          · simp (disch := omega) only [go_sem]
          · simp (disch := omega) only [go_sem]
    · have hil : i = e.kids.length := by simp at hge; omega
      subst hil
      rw [List.drop_length] at hr
      simp only [sizeL] at hr
      simp (disch := omega) only [go_sem, ← hr]
      refine ret_mk ⟨[], [], []⟩ _ (by (try simp (disch := omega) only [go_sem, resVs, resV]) <;> rfl) ⟨rfl, rfl⟩ (by simp) ?_ trivial
      simp (disch := omega) only [go_sem]
def nodesE (e : Expr) : Int := if 24 < (sizeE e 1).1 then 0 else (sizeE e 1).1
theorem f185_ok (e : Expr) : FnOK C0 185 [.agg e.c] [] (I (nodesE e)) [] := by
  refine FnOK.intro (fn := Tryz.f185) (c := Tryz.f185.body.getD .skip) (by kernel_rfl) (by kernel_rfl) (by kernel_rfl) (by kernel_rfl) (by simp [Tryz.f185]) (by simp [names]) ?_
  unfold Tryz.f185
  simp (disch := omega) only [go_sem]
  refine call_pure (f226_ok _ e (Nat.lt_succ_self _) 1 (by omega) (by omega)) (by simp (disch := omega) only [go_sem]) rfl ?_
  by_cases h24 : 24 < (sizeE e 1).1
  · have d24 : (24 < (sizeE e 1).1) = True := eq_true h24
    have en : nodesE e = 0 := by simp [nodesE, h24]
    simp (disch := omega) only [go_sem, d24, en]
    refine ret_mk ⟨[], [], []⟩ _ (by (try simp (disch := omega) only [go_sem, resVs, resV]) <;> rfl) ⟨rfl, rfl⟩ (by simp) ?_ trivial
    simp (disch := omega) only [go_sem]
  · have d24 : (24 < (sizeE e 1).1) = False := eq_false h24
    have en : nodesE e = (sizeE e 1).1 := by simp [nodesE, h24]
    simp (disch := omega) only [go_sem, d24, en, decide_false]
    refine ret_mk ⟨[], [], []⟩ _ (by (try simp (disch := omega) only [go_sem, resVs, resV]) <;> rfl) ⟨rfl, rfl⟩ (by simp) ?_ trivial
    simp (disch := omega) only [go_sem]
end Go.Rd
open Go Go.Abs Go.Proofs
set_option maxRecDepth 100000
namespace Go.Rd
mutual
def addE : Expr → List Atom → List Atom × Bool
  | .mk k a kids, l => if kids.length = 0 then (if k = 0 ∧ atomOK a = true then (atomE l a, true) else (l, false))
    else if k < 1 ∨ (kids.length : Int) < k ∨ a ≠ a0 then (l, false) else addL kids l
def addL : List Expr → List Atom → List Atom × Bool
  | [], l => (l, true)
  | e :: es, l => if (addE e l).2 = true then addL es (addE e l).1 else (l, false)
end
theorem addE_def (e : Expr) (l : List Atom) : addE e l = if e.kids.length = 0 then (if e.k = 0 ∧ atomOK e.atom = true then (atomE l e.atom, true) else (l, false))
    else if e.k < 1 ∨ (e.kids.length : Int) < e.k ∨ e.atom ≠ a0 then (l, false) else addL e.kids l := by
  cases e; simp only [addE]; rfl
mutual
def cnt : Expr → Nat
  | .mk _ _ kids => 1 + cntL kids
def cntL : List Expr → Nat
  | [] => 0
  | e :: l => cnt e + cntL l
end
theorem cnt_def (e : Expr) : cnt e = 1 + cntL e.kids := by cases e; simp only [cnt]; rfl
@[reducible] def addV (x : List Atom × Bool) : AV := if x.2 then .tup [atomsO 1 x.1, B true] else .tup [.undef, B false]
theorem atomE_len (l : List Atom) (a : Atom) : (atomE l a).length ≤ l.length + 1 := by unfold atomE; split <;> simp
theorem addL_len : ∀ (es : List Expr) (l : List Atom), (∀ e ∈ es, ∀ l, (addE e l).1.length ≤ l.length + cnt e) → (addL es l).1.length ≤ l.length + cntL es
  | [], l, _ => by simp [addL]
  | e :: es, l, h => by
    have h1 := h e (by simp) l
    have h2 := addL_len es (addE e l).1 fun e' he => h e' (by simp [he])
    simp only [addL, cntL]
    split
    · omega
    · simp only; omega
theorem addE_len : ∀ (N : Nat) (e : Expr), SizeOf.sizeOf e < N → ∀ l : List Atom, (addE e l).1.length ≤ l.length + cnt e
  | 0, _, h, _ => by omega
  | N + 1, e, h, l => by
    rw [addE_def, cnt_def]
    split
    · split
      · have := atomE_len l e.atom; simp only; omega
      · simp only; omega
    · split
      · simp only; omega
      · have := addL_len e.kids l fun e' he l' => addE_len N e' (by have := kid_lt he; omega) l'
        omega
theorem f186_ok : ∀ (N : Nat) (e : Expr), SizeOf.sizeOf e < N → ∀ l : List Atom, l.length + cnt e ≤ 1000000 →
    FnOK C0 186 [atomsO 0 l, .agg e.c] [] (addV (addE e l)) []
  | 0, _, h, _, _ => by omega
  | N + 1, e, h, l, hl => by
    refine FnOK.assume (fn := Tryz.f186) (c := Tryz.f186.body.getD .skip) (by kernel_rfl) (by kernel_rfl) (by kernel_rfl) fun hlen => ?_
    simp only [lensL, lens, Expr.c_def, List.length_map, and_true, true_and] at hlen
    have hc0 := cnt_def e
    refine FnOK.intro (fn := Tryz.f186) (c := Tryz.f186.body.getD .skip) (by kernel_rfl) (by kernel_rfl) (by kernel_rfl) (by kernel_rfl) (by simp [Tryz.f186]) (by simp [names]) ?_
    unfold Tryz.f186
    by_cases hk : e.kids.length = 0
    · have e1 : ((e.kids.length : Int) == 0) = true := by simp [hk]
      by_cases hbad : e.k = 0 ∧ atomOK e.atom = true
      rotate_left
      · have ep : addE e l = (l, false) := by rw [addE_def, if_pos hk, if_neg hbad]
        have ev : addV (addE e l) = .tup [.undef, B false] := by rw [ep]; rfl
        rw [ev]
        simp (disch := omega) only [go_sem, e1]
        repeat' (first
          | (with_reducible refine And.intro (fun h => ?_) (fun h => ?_))
          | ((with_reducible show callB _ _ 191 _ _ _); refine call_pure (f191_ok e.atom.name) ?_ rfl ?_; (focus (simp (disch := omega) only [go_sem]; done)); try simp (disch := omega) only [go_sem])
          | ((with_reducible show freeCallB _ _ 191 _ _ _ _ _ _ _); refine freeCall_mk ⟨⟨[], [], []⟩, [], []⟩ (f191_ok e.atom.name) ?_ rfl rfl trivial (.inl rfl) ?_; (focus (simp (disch := omega) only [go_sem]; done)); try simp (disch := omega) only [go_sem])
          | ((with_reducible show callB _ _ 227 _ _ _); refine call_pure (f227_ok e.atom.amt) ?_ rfl ?_; (focus (simp (disch := omega) only [go_sem]; done)); try simp (disch := omega) only [go_sem])
          | ((with_reducible show freeCallB _ _ 227 _ _ _ _ _ _ _); refine freeCall_mk ⟨⟨[], [], []⟩, [], []⟩ (f227_ok e.atom.amt) ?_ rfl rfl trivial (.inl rfl) ?_; (focus (simp (disch := omega) only [go_sem]; done)); try simp (disch := omega) only [go_sem]))
        all_goals (first
          | (refine ret_mk ⟨[(0, 1)], [], []⟩ _ (by (try simp (disch := omega) only [go_sem, resVs, resV]) <;> rfl) ⟨rfl, rfl⟩ (by simp) ?_ trivial; simp (disch := omega) only [go_sem]; exact .tup (WeakArgs.weakL (by simp (disch := omega) only [go_sem])))
          | (exfalso; refine hbad ?_; simp_all [atomOK]; done))
      · have ep : addE e l = (atomE l e.atom, true) := by rw [addE_def, if_pos hk, if_pos hbad]
        have ev : addV (addE e l) = .tup [atomsO 1 (atomE l e.atom), B true] := by rw [ep]; rfl
        rw [ev]
        have ha : (nameOK e.atom.name && (lockR.fits e.atom.amt || poolR.fits e.atom.amt)) = true := hbad.2
        have ha1 : nameOK e.atom.name = true := by simp at ha; exact ha.1
        have ha2 : (lockR.fits e.atom.amt || poolR.fits e.atom.amt) = true := by simp at ha; simp [ha.2]
        have e2 : (e.k == 0) = true := by simp [hbad.1]
        simp (disch := omega) only [go_sem, e1, e2]
        refine And.intro (fun _ => ?_) (fun h => ?_)
        rotate_left
        · exfalso; simp_all
        refine call_pure (f191_ok e.atom.name) (by simp (disch := omega) only [go_sem]) rfl ?_
        simp (disch := omega) only [go_sem, ha1]
        refine call_pure (f227_ok e.atom.amt) (by simp (disch := omega) only [go_sem]) rfl ?_
        simp (disch := omega) only [go_sem, ha2]
        refine loop_intro (α := Nat) (fun i => ⟨[(6, I i), (0, atomsO 0 l), (3, .ptr 192 0)], [(192, e.c)]⟩) (fun i => i ≤ (l).length ∧ e.atom ∉ l.take i) (fun i => (l).length - i) 0 ⟨by omega, (by simp)⟩ ?_ ?_
        · refine Imp.weak ?_ ?_
          all_goals (try simp (disch := omega) only [go_sem])
          all_goals (try (repeat' (with_reducible apply And.intro)))
          all_goals (first | exact .nilOwn (by omega) | exact .nilNo (by omega) | exact .sl (by simp []) | exact .int (by simp []) | exact .eq (by simp []))
        rintro i ⟨hi, hP⟩ J hJ
        simp (disch := omega) only [go_sem]
        refine And.intro (fun hlt => ?_) (fun hge => ?_)
        rotate_left
        have hil : i = (l).length := by simp at hge; omega
        rotate_left
        obtain ⟨b, hb⟩ : ∃ b, (l)[i]? = some b := ⟨_, List.getElem?_eq_getElem (by simp at hlt; omega)⟩
        have hbm := List.mem_of_getElem? hb
        have hlt2 : i < (l).length := by simp at hlt; omega
        refine draw_mk 6 [([], [0]), ([], [6]), ([0, 1], [38, 39]), ([0, 1, 2], [40]), ([], [3]), ([4], [42]), ([0, 1, 2, 3, 4, 5], [])] fol (by kernel_rfl) ?_
        simp (disch := omega) only [go_sem, List.getElem?_map, hb]
        · refine And.intro (fun h => ?_) (fun h => ?_)
          · have hbe : b = e.atom := by simpa using h
            have e3 : atomE l e.atom = l := by unfold atomE; rw [if_pos (hbe ▸ hbm)]
            simp (disch := omega) only [go_sem, e3]
            refine ret_mk ⟨[(0, 1)], [], []⟩ _ (by (try simp (disch := omega) only [go_sem, resVs, resV]) <;> rfl) ⟨rfl, rfl⟩ (by simp) ?_ trivial
            simp (disch := omega) only [go_sem]
          · have hbe : b ≠ e.atom := by simpa using h
            refine hJ _ (i + 1) ⟨by simp at hlt; omega, (by rw [List.take_add_one, hb]; simp only [Option.toList, List.mem_append, List.mem_singleton]; intro hx; rcases hx with hx | hx; exact hP hx; exact hbe hx.symm)⟩ (by simp at hlt; omega) (Imp.weak (by simp (disch := omega) only [go_sem]) (by simp (disch := omega) only [go_sem]))
        · subst hil
          rw [List.take_length] at hP
          have e3 : atomE l e.atom = l ++ [e.atom] := by unfold atomE; rw [if_neg hP]
          have hb32 : l.length + 1 ≤ 4294967296 := by omega
          simp (disch := omega) only [go_sem, e3]
          refine ret_mk ⟨[(3200, 1)], [], []⟩ _ (by (try simp (disch := omega) only [go_sem, resVs, resV]) <;> rfl) ⟨rfl, rfl⟩ (by simp) ?_ trivial
          simp (disch := omega) only [go_sem]
          exact .tup (WeakArgs.weakL (by simp (disch := omega) only [go_sem]; exact .sl (by simp [Atom.c])))
    have e1 : ((e.kids.length : Int) == 0) = false := by simp only [beq_eq_false_iff_ne, ne_eq]; omega
    have ez : (e.atom.name == [] && (e.atom.amt.mode == 0 && e.atom.amt.units == 0)) = decide (e.atom = a0) := atomEq' e.atom
    by_cases hbad : e.k < 1 ∨ (e.kids.length : Int) < e.k ∨ e.atom ≠ a0
    · have ep : addE e l = (l, false) := by rw [addE_def, if_neg hk, if_pos hbad]
      have ev : addV (addE e l) = .tup [.undef, B false] := by rw [ep]; rfl
      rw [ev]
      simp (disch := omega) only [go_sem, e1, ez]
      repeat' (with_reducible refine And.intro (fun h => ?_) (fun h => ?_))
      all_goals (try (exfalso; simp_all; omega))
      all_goals (refine ret_mk ⟨[(0, 1)], [], []⟩ _ (by (try simp (disch := omega) only [go_sem, resVs, resV]) <;> rfl) ⟨rfl, rfl⟩ (by simp) ?_ trivial)
      all_goals simp (disch := omega) only [go_sem]
      all_goals exact .tup (WeakArgs.weakL (by simp (disch := omega) only [go_sem]))
    have ep : addE e l = addL e.kids l := by rw [addE_def, if_neg hk, if_neg hbad]
    have b1 : (e.k < 1) = False := by simp; omega
    have b2 : ((e.kids.length : Int) < e.k) = False := by simp; omega
    have b3 : e.atom = a0 := by
      by_cases h : e.atom = a0
      · exact h
      · exact absurd (Or.inr (Or.inr h)) hbad
    have ez' : (e.atom.name == [] && (e.atom.amt.mode == 0 && e.atom.amt.units == 0)) = true := by rw [ez]; simp [b3]
    rw [ep]
    simp (disch := omega) only [go_sem, e1, ez', b1, b2, decide_false]
    refine loop_intro (α := Nat × List Atom) (fun q => ⟨[(7, I q.1), (0, atomsO 5376 q.2), (3, .ptr 192 0)], [(192, e.c)]⟩)
      (fun q => q.1 ≤ e.kids.length ∧ q.2.length + cntL (e.kids.drop q.1) ≤ 1000000 ∧ addL (e.kids.drop q.1) q.2 = addL e.kids l) (fun q => e.kids.length - q.1) (0, l) ⟨by simp, by simp; omega, by simp⟩ ?_ ?_
    · refine Imp.ren ⟨[(0, 5376)], [(192, 192)], []⟩ ⟨rfl, rfl⟩ (by simp [lk]) ?_ ?_
      · simp (disch := omega) only [go_sem]
      · simp (disch := omega) only [go_sem]
    rintro ⟨i, m⟩ ⟨hi, hm, hr⟩ J hJ
    replace hi : i ≤ e.kids.length := hi
    replace hm : m.length + cntL (e.kids.drop i) ≤ 1000000 := hm
    replace hr : addL (e.kids.drop i) m = addL e.kids l := hr
    simp (disch := omega) only [go_sem]
    refine And.intro (fun hlt => ?_) (fun hge => ?_)
    · have hlt' : i < e.kids.length := by simp at hlt; omega
      have hb : e.kids[i]? = some e.kids[i] := List.getElem?_eq_getElem hlt'
      have hsz := kid_lt (List.getElem_mem hlt')
      have hdr : e.kids.drop i = e.kids[i] :: e.kids.drop (i + 1) := List.drop_eq_getElem_cons hlt'
      generalize e.kids[i] = b at hb hsz hdr
      rw [hdr] at hr hm
      simp only [addL] at hr
      simp only [cntL] at hm
      have hbl := addE_len _ b (Nat.lt_succ_self _) m
      have hcall := f186_ok N b (by omega) m (by omega)
      simp (disch := omega) only [go_sem, List.getElem?_map, hb]
      generalize addE b m = x at hr hbl hcall
      obtain ⟨x1, x2⟩ := x
      cases x2
      · simp only [Bool.false_eq_true, if_false] at hr
        have ev : addV (addL e.kids l) = .tup [.undef, B false] := by rw [← hr]; rfl
        rw [ev]
        refine callB_mk ⟨⟨[(5376, 0)], [], []⟩, [(1, 5377)], []⟩ (show FnOK C0 186 [atomsO 0 m, .agg b.c] [] (.tup [.undef, B false]) [] from hcall) (by simp (disch := omega) only [go_sem]) rfl (by simp (disch := omega) only [go_sem]) (.inl rfl) ?_
        simp (disch := omega) only [go_sem]
        refine ret_mk ⟨[], [], []⟩ _ (by (try simp (disch := omega) only [go_sem, resVs, resV]) <;> rfl) ⟨rfl, rfl⟩ (by simp) ?_ trivial
        simp (disch := omega) only [go_sem]
      · simp only [if_true] at hr
        refine callB_mk ⟨⟨[(5376, 0)], [], []⟩, [(1, 5377)], []⟩ (show FnOK C0 186 [atomsO 0 m, .agg b.c] [] (.tup [atomsO 1 x1, B true]) [] from hcall) (by simp (disch := omega) only [go_sem]) rfl (by simp (disch := omega) only [go_sem]) (.inl rfl) ?_
        simp (disch := omega) only [go_sem]
        refine hJ _ (i + 1, x1) ⟨by simp; omega, by simp at hbl ⊢; omega, hr⟩ (by simp; omega) (Imp.ren ⟨[(5377, 5376)], [(192, 192)], []⟩ ⟨rfl, rfl⟩ (by simp [lk]) ?_ ?_)
        · simp (disch := omega) only [go_sem]
        · simp (disch := omega) only [go_sem]
    · have hil : i = e.kids.length := by simp at hge; omega
      subst hil
      rw [List.drop_length] at hr
      simp only [addL] at hr
      have ev : addV (addL e.kids l) = .tup [atomsO 1 m, B true] := by rw [← hr]; rfl
      rw [ev]
      refine ret_mk ⟨[(5376, 1)], [], []⟩ _ (by (try simp (disch := omega) only [go_sem, resVs, resV]) <;> rfl) ⟨rfl, rfl⟩ (by simp) ?_ trivial
      simp (disch := omega) only [go_sem]
end Go.Rd
