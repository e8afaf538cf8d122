/- part 16 of the proof -/
import Derived.Test.YtaelofhhkpacbaaGreatDoorProg
import Derived.Shelf.SlSortCmp.WholeK
import Derived.Shelf.SlSortCmp.NoneTotal
import Derived.Test.YtaelofhhkpacbaaGreatDoorT13
import Derived.Test.YtaelofhhkpacbaaGreatDoorT15
set_option linter.all false
open Go Go.Abs Go.Proofs
set_option maxRecDepth 100000
namespace Go.Rd
attribute [go_sem] Option.isSome_none Option.isSome_some
@[go_sem] theorem toNat_succ (k : Nat) : ((k : Int) + 1).toNat = k + 1 := rfl
@[go_sem] theorem nonneg_succ (k : Nat) : (0 ≤ (k : Int) + 1) = True := by simp; omega
def dropH (l : List Hold) (p : Proc) : List Hold := l.filter fun h => decide (h.proc ≠ p)
def after' (p : Proc) (h : Hold) : Bool := decide (0 < cmpP h.proc p)
def placeI (l : List Hold) (p : Proc) : Int := match l.findIdx? (after' p) with
  | some i => i
  | none => -1
def placeN (l : List Hold) (p : Proc) : Nat := (l.findIdx? (after' p)).getD l.length
def setH (l : List Hold) (p : Proc) (a : Amt) : List Hold := if a.zero then dropH l p else (dropH l p).take (placeN (dropH l p) p) ++ ⟨p, a⟩ :: (dropH l p).drop (placeN (dropH l p) p)
theorem placeN_le (l : List Hold) (p : Proc) : placeN l p ≤ l.length := by
  unfold placeN
  cases h : l.findIdx? (after' p) with
  | none => simp
  | some i =>
    have := (List.findIdx?_eq_some_iff_getElem.1 h).1
    simp; omega
theorem placeI_snoc (l : List Hold) (p : Proc) (h : Hold) : placeI (l ++ [h]) p = if placeI l p < 0 ∧ after' p h = true then (l.length : Int) else placeI l p := by
  unfold placeI
  rw [List.findIdx?_append]
  cases hl : l.findIdx? (after' p) with
  | some i => simp; omega
  | none =>
    simp only [Option.none_or, List.findIdx?_cons]
    cases after' p h <;> simp
theorem over_place (r : List (List AV)) (z c : List AV) (k : Nat) (hk : k ≤ r.length) : (over 0 (k + 1) (((r ++ [z]).drop k).take ((r ++ [z]).length - (k + 1))) (r ++ [z])).set k c = r.take k ++ c :: r.drop k := by
  refine List.ext_getElem? fun i => ?_
  rw [List.getElem?_set]
  simp only [over_length, List.length_append, List.length_cons, List.length_nil]
  by_cases hi : k = i
  · subst hi
    rw [if_pos rfl, if_pos (by omega), List.getElem?_append_right (by simp; omega)]
    simp [Nat.min_eq_left hk]
  rw [if_neg hi]
  simp only [over, List.getElem?_mapIdx, Nat.zero_add]
  by_cases hlt : i < k
  · rw [List.getElem?_append_left (by omega), List.getElem?_append_left (by simp; omega), List.getElem?_take (l := r), if_pos hlt]
    have hn : ¬ (k + 1 ≤ i) := by omega
    cases r[i]? <;> simp [hn]
  · by_cases hle : i ≤ r.length
    · rw [List.getElem?_append_right (l₁ := r.take k) (by simp; omega)]
      simp only [List.length_take, Nat.min_eq_left hk]
      obtain ⟨j, rfl⟩ : ∃ j, i = k + 1 + j := ⟨i - (k + 1), by omega⟩
      rw [show k + 1 + j - k = j + 1 by omega, List.getElem?_cons_succ, List.getElem?_drop]
      have e1 : (r ++ [z])[k + 1 + j]? = some ((r ++ [z])[k + 1 + j]'(by simp; omega)) := List.getElem?_eq_getElem _
      rw [e1]
      simp only [Option.map_some, show k + 1 ≤ k + 1 + j by omega, if_true, show k + 1 + j - (k + 1) = j by omega]
      rw [List.getElem?_take, if_pos (by omega), List.getElem?_drop, List.getElem?_append_left (by omega)]
      rw [List.getElem?_eq_getElem (by omega)]
      simp
    · have e2 : (r.take k ++ c :: r.drop k)[i]? = none := List.getElem?_eq_none (by simp; omega)
      rw [List.getElem?_eq_none (l := r ++ [z]) (by simp; omega), e2]
      rfl
def z5 : List AV := [.v (.int .i64 0), .v (.int .i64 0), .v (.int .i64 0), .v (.int .i64 0), .v (.int .i64 0)]
theorem f179_ok (l : List Hold) (p : Proc) (a : Amt) (hl : l.length ≤ 1000000) : FnOK C0 179 [holdsV l, .agg p.c, .agg a.c] [] (holdsV (setH l p a)) [] := by
  refine FnOK.intro (fn := Tryz.f179) (c := Tryz.f179.body.getD .skip) (by kernel_rfl) (by kernel_rfl) (by kernel_rfl) (by kernel_rfl) (by simp [Tryz.f179]) (by simp [names]) ?_
  unfold Tryz.f179
  have hcap : ((l.length : Int) + 1 ≤ 4294967296) = True := by simp; omega
  simp (disch := omega) only [go_sem, hcap]
  refine loop_intro (α := Nat) (fun i => ⟨[(17, I i), (16, I l.length), (15, holdsV l), (7, .sl (.own 2496 0) 5 ((dropH (l.take i) p).map Hold.c)), (8, I (placeI (dropH (l.take i) p) p)), (4, .ptr 256 0), (5, .ptr 320 0)], [(256, p.c), (320, a.c)]⟩) (fun i => i ≤ (l).length ∧ (dropH (l.take i) p).length ≤ i) (fun i => (l).length - i) 0 ⟨by omega, (by simp [dropH])⟩ ?_ ?_
  · refine Imp.ren ⟨[(896, 2496)], [(256, 256), (320, 320)], []⟩ ⟨rfl, rfl⟩ (by simp [lk]) ?_ ?_
    all_goals (try simp (disch := omega) only [go_sem])
    all_goals (try (repeat' (with_reducible apply And.intro)))
    all_goals (first | exact .nilOwn (by omega) | exact .nilNo (by omega) | exact .sl (by simp [dropH, placeI]) | exact .int (by simp [dropH, placeI]) | exact .eq (by simp [dropH, placeI]))
  rintro i ⟨hi, hP⟩ J hJ
  simp (disch := omega) only [go_sem]
  refine And.intro (fun hlt => ?_) (fun hge => ?_)
  rotate_left
  have hil : i = (l).length := by simp at hge; omega
  rotate_left
  obtain ⟨b, hb⟩ : ∃ b, (l)[i]? = some b := ⟨_, List.getElem?_eq_getElem (by simp at hlt; omega)⟩
  have hbm := List.mem_of_getElem? hb
  simp (disch := omega) only [go_sem, List.getElem?_map, hb]
  · refine And.intro (fun h => ?_) (fun h => ?_)
    · have e : dropH (l.take (i + 1)) p = dropH (l.take i) p := by simp at h; simp [dropH, List.take_add_one, hb, h]
      refine hJ _ (i + 1) ⟨by simp at hlt; omega, (by rw [e]; omega)⟩ (by simp at hlt; omega) (Imp.weak ?_ ?_)
      all_goals (try simp (disch := omega) only [go_sem])
      all_goals (try (repeat' (with_reducible apply And.intro)))
      all_goals (first | exact .nilOwn (by omega) | exact .nilNo (by omega) | exact .sl (by simp [e]) | exact .int (by simp [e]) | exact .eq (by simp [e]))

    · have e : dropH (l.take (i + 1)) p = dropH (l.take i) p ++ [b] := by simp at h; simp [dropH, List.take_add_one, hb, h]
      have ep := placeI_snoc (dropH (l.take i) p) p b
      rw [← e] at ep
      generalize dropH (l.take i) p = r at hP e ep
      have hbound : (r.length : Int) + 1 ≤ 4294967296 := by simp at hlt; omega
      repeat' (first
        | (with_reducible refine And.intro (fun h => ?_) (fun h => ?_))
        | ((with_reducible show callB _ _ 71 _ _ _); refine call_pure (f71_ok b.proc p) ?_ rfl ?_; (focus (simp (disch := omega) only [go_sem]; done)); try simp (disch := omega) only [go_sem])
        | ((with_reducible show freeCallB _ _ 71 _ _ _ _ _ _ _); refine freeCall_mk ⟨⟨[], [], []⟩, [], []⟩ (f71_ok b.proc p) ?_ rfl rfl trivial (.inl rfl) ?_; (focus (simp (disch := omega) only [go_sem]; done)); try simp (disch := omega) only [go_sem]))
      all_goals (refine hJ _ (i + 1) ⟨by simp at hlt; omega, by rw [e]; simp; omega⟩ (by simp at hlt; omega) (Imp.weak ?_ ?_))
      all_goals (try simp (disch := omega) only [go_sem])
      all_goals (refine ⟨.sl (by rw [e]; simp [Hold.c]), .int ?_⟩)
      all_goals (simp_all [after'] <;> omega)
  · subst hil
    simp only [List.take_length] at hP ⊢
    have hb1 : placeI (dropH l p) p = if (dropH l p).findIdx? (after' p) = none then -1 else (placeN (dropH l p) p : Int) := by
      unfold placeI placeN
      cases (dropH l p).findIdx? (after' p) <;> simp
    have hpn := placeN_le (dropH l p) p
    have hset : setH l p a = if a.zero then dropH l p else (dropH l p).take (placeN (dropH l p) p) ++ ⟨p, a⟩ :: (dropH l p).drop (placeN (dropH l p) p) := rfl
    have hpd : (dropH l p).findIdx? (after' p) = none → placeN (dropH l p) p = (dropH l p).length := fun h => by simp [placeN, h]
    generalize dropH l p = r at hP hb1 hpn hset hpd ⊢
    generalize placeN r p = k at hb1 hpn hset hpd
    refine call_pure (f212_ok a) (by simp (disch := omega) only [go_sem]) rfl ?_
    cases hz : a.zero
    · rw [hz] at hset
      have hbound : (r.length : Int) + 1 ≤ 4294967296 := by omega
      have hfin : r.length + 1 ≤ 4294967296 := by omega
      generalize hpi : placeI r p = q at hb1
      have hk : q < 0 → k = r.length := fun hq => hpd (by
          cases h : r.findIdx? (after' p) with
          | none => rfl
          | some i => rw [h] at hb1; simp at hb1; omega)
      have hk' : ¬ q < 0 → q = (k : Int) := fun hq => by
          split at hb1
          · omega
          · exact hb1
      clear hpd hb1 hJ
      obtain ⟨e, he⟩ : ∃ e : Hold, ((r ++ [h0]).map Hold.c)[k]? = some e.c := ⟨(r ++ [h0])[k]'(by simp; omega), by rw [List.getElem?_map, List.getElem?_eq_getElem (by simp; omega)]; rfl⟩
      have hover : ∀ X, (over 0 (k + 1) X (r.map Hold.c ++ [z5]))[k]? = some e.c := fun X => by
        have : r.map Hold.c ++ [z5] = (r ++ [h0]).map Hold.c := by simp [h0, Hold.c, z5]
        rw [this]
        simp only [over, List.getElem?_mapIdx, he, Option.map_some]
        rw [if_neg (by omega)]
      have tail : ∀ X : List (List AV), X = ((r.map Hold.c ++ [z5]).drop k).take (r.length + 1 - (k + 1)) → (over 0 (k + 1) X (r.map Hold.c ++ [z5])).set k (Hold.c ⟨p, a⟩) = (setH l p a).map Hold.c := fun X hX => by
        have := over_place (r.map Hold.c) z5 (Hold.c ⟨p, a⟩) k (by simpa using hpn)
        rw [hset, hX]
        simp only [List.length_append, List.length_map, List.length_cons, List.length_nil, Nat.zero_add] at this
        rw [this]
        simp
      simp only [z5] at hover tail
      by_cases hq : q < 0
      · have e1 : (q < 0) = True := by simp [hq]
        have := hk hq
        subst this
        simp (disch := omega) only [go_sem, e1]
        refine draw_mk 7 [([], [7]), ([], [8]), ([1], [53]), ([0, 1, 2], [52, 54]), ([], [7]), ([], [8]), ([4, 5], [56, 57]), ([0, 1, 2, 3, 4, 5, 6], [])] fol (by kernel_rfl) ?_
        simp (disch := omega) only [go_sem, hover, over_length]
        refine ret_mk ⟨[], [], [3264]⟩ _ (by (try simp (disch := omega) only [go_sem, resVs, resV]) <;> rfl) ⟨rfl, rfl⟩ (by simp) ?_ trivial
        simp (disch := omega) only [go_sem]
        exact .sl (tail _ (by rw [List.take_take]; congr 1; omega))
      · have e1 : (q < 0) = False := by simp [hq]
        have := hk' hq
        subst this
        simp (disch := omega) only [go_sem, e1]
        refine draw_mk 7 [([], [7]), ([], [8]), ([1], [53]), ([0, 1, 2], [52, 54]), ([], [7]), ([], [8]), ([4, 5], [56, 57]), ([0, 1, 2, 3, 4, 5, 6], [])] fol (by kernel_rfl) ?_
        simp (disch := omega) only [go_sem, hover, over_length]
        refine ret_mk ⟨[], [], [3264]⟩ _ (by (try simp (disch := omega) only [go_sem, resVs, resV]) <;> rfl) ⟨rfl, rfl⟩ (by simp) ?_ trivial
        simp (disch := omega) only [go_sem]
        exact .sl (tail _ (by rw [List.take_take]; congr 1; omega))
    · rw [hz] at hset
      simp (disch := omega) only [go_sem]
      refine ret_mk ⟨[], [], [2496]⟩ _ (by (try simp (disch := omega) only [go_sem, resVs, resV]) <;> rfl) ⟨rfl, rfl⟩ (by simp) ?_ trivial
      simp (disch := omega) only [go_sem, hset]
end Go.Rd
open Go Go.Abs Go.Proofs
set_option maxRecDepth 100000
namespace Go.Rd
def roomH (r : Res) (l : List Hold) (p : Proc) (a : Amt) : Bool := holdsOK r l && p.ok && r.fits a && holdsOK r (setH l p a)
theorem f151_ok (r : Res) (l : List Hold) (p : Proc) (a : Amt) (hl : l.length ≤ 1000000) : FnOK C0 151 [.agg r.c, holdsV l, .agg p.c, .agg a.c] [] (B (roomH r l p a)) [] := by
  refine FnOK.intro (fn := Tryz.f151) (c := Tryz.f151.body.getD .skip) (by kernel_rfl) (by kernel_rfl) (by kernel_rfl) (by kernel_rfl) (by simp [Tryz.f151]) (by simp [names]) ?_
  unfold Tryz.f151
  simp (disch := omega) only [go_sem]
  refine draw_mk 11 [([], [4]), ([], [1]), ([], [6]), ([], [7]), ([0, 1, 2, 3], [9, 10, 11, 12]), ([0, 1, 2, 3, 4], [13]), ([0, 1, 2, 3, 4, 5], [4, 14]), ([0, 1, 2, 3, 4, 5], [1, 14]), ([0, 1, 2, 3, 4, 5], [6, 14]), ([0, 1, 2, 3, 4, 5], [7, 14]), ([0, 1, 2, 3, 4, 5, 7, 8, 9], [16, 17, 18, 14]), ([0, 1, 2, 3, 4, 5, 6, 7, 8, 9, 10], []), ([0, 1, 2, 3, 4, 5, 6, 7, 8, 9, 10, 11], []), ([0, 1, 2, 3, 4, 5, 6, 7, 8, 9, 10, 11, 12], [])] fol (by kernel_rfl) ?_
  simp (disch := omega) only [go_sem]
  refine freeCall_mk ⟨⟨[], [], []⟩, [], []⟩ (f150_ok r l p a) (by simp (disch := omega) only [go_sem]) rfl rfl trivial (.inl rfl) ?_
  cases hc : (holdsOK r l && p.ok && r.fits a)
  · simp (disch := omega) only [go_sem]
    refine ret_mk ⟨[], [], []⟩ _ (by (try simp (disch := omega) only [go_sem, resVs, resV]) <;> rfl) ⟨rfl, rfl⟩ (by simp) ?_ trivial
    simp (disch := omega) only [go_sem]
    exact wb (by simp [roomH, hc])
  · simp (disch := omega) only [go_sem]
    refine freeCall_mk ⟨⟨[], [], []⟩, [], []⟩ (f179_ok l p a hl) (by simp (disch := omega) only [go_sem]) rfl rfl trivial (.inl rfl) ?_
    simp (disch := omega) only [go_sem]
    refine call_pure (f194_ok r (setH l p a)) (by simp (disch := omega) only [go_sem]) rfl ?_
    simp (disch := omega) only [go_sem]
    refine ret_mk ⟨[], [], []⟩ _ (by (try simp (disch := omega) only [go_sem, resVs, resV]) <;> rfl) ⟨rfl, rfl⟩ (by simp) ?_ trivial
    simp (disch := omega) only [go_sem]
    exact wb (by simp only [roomH, hc]; rfl)
@[reducible] def waitsO (r : Nat) (l : List Wait) : AV := .sl (.own r 0) 7 (l.map Wait.c)
theorem f193_ok (n : Nat) (hn : n ≤ 1000000) : FnOK C0 193 [.v (.slice none 0 0), I n] [] (waitsO 0 []) [] := by
  refine FnOK.intro (fn := Tryz.f193) (c := Tryz.f193.body.getD .skip) (by kernel_rfl) (by kernel_rfl) (by kernel_rfl) (by kernel_rfl) (by simp [Tryz.f193]) (by simp [names]) ?_
  unfold Tryz.f193
  have e1 : ((n : Int) < 0) = False := by simp
  simp (disch := omega) only [go_sem, e1, Int.sub_zero, decide_false]
  refine And.intro (fun h => ?_) (fun h => ?_)
  · refine ret_mk ⟨[(1408, 0)], [], []⟩ _ rfl ⟨rfl, rfl⟩ (by simp [lk]) ?_ trivial
    simp (disch := omega) only [go_sem, waitsO]
  · refine ret_mk ⟨[], [], []⟩ _ rfl ⟨rfl, rfl⟩ (by simp [lk]) ?_ trivial
    simp (disch := omega) only [go_sem, waitsO]
@[reducible] def waitsV2 (a b : List Wait) : AV := .sl .no 1 [[waitsV a], [waitsV b]]
theorem f149_ok (a b : List Wait) (h : a.length + b.length ≤ 1000000) : FnOK C0 149 [waitsV2 a b] [] (waitsV (a ++ b)) [] := by
  refine FnOK.intro (fn := Tryz.f149) (c := Tryz.f149.body.getD .skip) (by kernel_rfl) (by kernel_rfl) (by kernel_rfl) (by kernel_rfl) (by simp [Tryz.f149]) (by simp [names]) ?_
  unfold Tryz.f149
  have z0 : (decide ((0 : Int) < 2)) = true := by decide
  have z1 : (decide ((1 : Int) < 2)) = true := by decide
  have z2 : (decide ((2 : Int) < 2)) = false := by decide
  have l1 : ((a.length : Int) < 0) = False := by simp
  have l2 : ((a.length : Int) + b.length < 0) = False := eq_false (by omega)
  simp (disch := omega) only [go_sem]
  refine loop_intro (α := Nat) (fun i => ⟨[(11, I i), (10, I 2), (9, waitsV2 a b), (3, I (if i = 0 then 0 else if i = 1 then a.length else a.length + b.length)), (0, waitsV2 a b)], []⟩) (fun i => i ≤ 2) (fun i => 2 - i) 0 (by simp) ?_ ?_
  · exact Imp.weak (by simp (disch := omega) only [go_sem]) (by simp (disch := omega) only [go_sem])
  rintro i hi J hJ
  obtain rfl | rfl | rfl : i = 0 ∨ i = 1 ∨ i = 2 := by omega
  · simp (disch := omega) only [go_sem, z0, Int.zero_add, l1, decide_false]
    exact hJ _ 1 (by omega) (by omega) (Imp.weak (by simp (disch := omega) only [go_sem]) (by simp (disch := omega) only [go_sem]))
  · simp (disch := omega) only [go_sem, z1, l2, decide_false, Nat.one_ne_zero]
    exact hJ _ 2 (by omega) (by omega) (Imp.weak (by simp (disch := omega) only [go_sem]) (by simp (disch := omega) only [go_sem]))
  clear hJ
  simp (disch := omega) only [go_sem, z2]
  refine callB_mk ⟨⟨[], [], []⟩, [(0, 1536)], []⟩ (f193_ok (a.length + b.length) h) (by simp (disch := omega) only [go_sem]) rfl trivial (.inl rfl) ?_
  simp (disch := omega) only [go_sem]
  refine loop_intro (α := Nat) (fun i => ⟨[(27, I i), (26, I 2), (25, waitsV2 a b), (6, .sl (.own 2112 0) 7 ((if i = 0 then [] else if i = 1 then a else a ++ b).map Wait.c)), (0, waitsV2 a b)], []⟩) (fun i => i ≤ 2) (fun i => 2 - i) 0 (by simp) ?_ ?_
  · refine Imp.ren ⟨[(1536, 2112)], [], []⟩ ⟨rfl, rfl⟩ (by simp [lk]) ?_ ?_
    · simp (disch := omega) only [go_sem]
    · simp (disch := omega) only [go_sem]
  rintro i hi J hJ
  obtain rfl | rfl | rfl : i = 0 ∨ i = 1 ∨ i = 2 := by omega
  · simp (disch := omega) only [go_sem, z0]
    exact hJ _ 1 (by omega) (by omega) (Imp.weak (by simp (disch := omega) only [go_sem, Nat.one_ne_zero]) (by simp (disch := omega) only [go_sem]))
  · simp (disch := omega) only [go_sem, z1, Nat.one_ne_zero]
    exact hJ _ 2 (by omega) (by omega) (Imp.weak (by simp (disch := omega) only [go_sem]; exact .sl (by simp)) (by simp (disch := omega) only [go_sem]))
  · simp (disch := omega) only [go_sem, z2]
    refine ret_mk ⟨[], [], [2112]⟩ _ (by (try simp (disch := omega) only [go_sem, resVs, resV]) <;> rfl) ⟨rfl, rfl⟩ (by simp) ?_ trivial
    simp (disch := omega) only [go_sem]
theorem f100_ok (q : Queue) (h : q.convs.length + q.waits.length ≤ 1000000) : FnOK C0 100 [.agg q.c] [] (waitsV (q.convs ++ q.waits)) [] := by
  refine FnOK.intro (fn := Tryz.f100) (c := Tryz.f100.body.getD .skip) (by kernel_rfl) (by kernel_rfl) (by kernel_rfl) (by kernel_rfl) (by simp [Tryz.f100]) (by simp [names]) ?_
  unfold Tryz.f100
  simp (disch := omega) only [go_sem]
  refine call_frz [448] (f149_ok q.convs q.waits h) (by simp (disch := omega) only [go_sem]) rfl ?_
  simp (disch := omega) only [go_sem]
  refine ret_mk ⟨[], [], []⟩ _ (by (try simp (disch := omega) only [go_sem, resVs, resV]) <;> rfl) ⟨rfl, rfl⟩ (by simp) ?_ trivial
  simp (disch := omega) only [go_sem]
def wantQ (q : Queue) (p : Proc) : Option Amt := ((q.convs ++ q.waits).find? fun w => decide (w.proc = p)).map (·.amt)
theorem f103_ok (q : Queue) (p : Proc) (h : q.convs.length + q.waits.length ≤ 1000000) : FnOK C0 103 [.agg q.c, .agg p.c] [] (.tup [.agg ((wantQ q p).getD ⟨0, 0⟩).c, B (wantQ q p).isSome]) [] := by
  refine FnOK.intro (fn := Tryz.f103) (c := Tryz.f103.body.getD .skip) (by kernel_rfl) (by kernel_rfl) (by kernel_rfl) (by kernel_rfl) (by simp [Tryz.f103]) (by simp [names]) ?_
  unfold Tryz.f103
  simp (disch := omega) only [go_sem]
  refine call_pure (f100_ok q h) (by simp (disch := omega) only [go_sem]) rfl ?_
  have hw : wantQ q p = ((q.convs ++ q.waits).find? fun w => decide (w.proc = p)).map (·.amt) := rfl
  have hl : (q.convs ++ q.waits).length ≤ 1000000 := by simpa using h
  generalize q.convs ++ q.waits = l at hw hl
  simp (disch := omega) only [go_sem]
  refine loop_intro (α := Nat) (fun i => ⟨[(11, I i), (10, I l.length), (9, waitsV l), (3, .ptr 192 0), (4, .ptr 256 0)], [(192, p.c), (256, (⟨0, 0⟩ : Amt).c)]⟩) (fun i => i ≤ (l).length ∧ (l.take i).find? (fun h => decide (h.proc = p)) = none) (fun i => (l).length - i) 0 ⟨by omega, rfl⟩ ?_ ?_
  · refine Imp.weak ?_ ?_
    all_goals (try simp (disch := omega) only [go_sem])
    all_goals (try (repeat' (with_reducible apply And.intro)))
    all_goals (first | exact .nilOwn (by omega) | exact .nilNo (by omega) | exact .sl (by simp []) | exact .int (by simp []) | exact .eq (by simp []))
  rintro i ⟨hi, hP⟩ J hJ
  simp (disch := omega) only [go_sem]
  refine And.intro (fun hlt => ?_) (fun hge => ?_)
  rotate_left
  have hil : i = (l).length := by simp at hge; omega
  rotate_left
  obtain ⟨b, hb⟩ : ∃ b, (l)[i]? = some b := ⟨_, List.getElem?_eq_getElem (by simp at hlt; omega)⟩
  have hbm := List.mem_of_getElem? hb
  simp (disch := omega) only [go_sem, List.getElem?_map, hb]
  · refine And.intro (fun h => ?_) (fun h => ?_)
    · have e : wantQ q p = some b.amt := by rw [hw, find_at hP hb (by simpa using h)]; rfl
      simp (disch := omega) only [go_sem, e]
      refine ret_mk ⟨[], [], []⟩ _ (by (try simp (disch := omega) only [go_sem, resVs, resV]) <;> rfl) ⟨rfl, rfl⟩ (by simp) ?_ trivial
      simp (disch := omega) only [go_sem]
    · refine hJ _ (i + 1) ⟨by simp at hlt; omega, (by rw [find_take hP hb]; simp at h; simp [h])⟩ (by simp at hlt; omega) (Imp.weak (by simp (disch := omega) only [go_sem]) (by simp (disch := omega) only [go_sem]))
  · subst hil
    rw [List.take_length] at hP
    have e : wantQ q p = none := by rw [hw, hP]; rfl
    simp (disch := omega) only [go_sem, e]
    refine ret_mk ⟨[], [], []⟩ _ (by (try simp (disch := omega) only [go_sem, resVs, resV]) <;> rfl) ⟨rfl, rfl⟩ (by simp) ?_ trivial
    simp (disch := omega) only [go_sem]
def procsW (l : List Wait) : List Proc := l.map (·.proc)
theorem f57_ok (q : Queue) (h : q.convs.length + q.waits.length ≤ 1000000) : FnOK C0 57 [.agg q.c] [] (procsV (procsW (q.convs ++ q.waits))) [] := by
  refine FnOK.intro (fn := Tryz.f57) (c := Tryz.f57.body.getD .skip) (by kernel_rfl) (by kernel_rfl) (by kernel_rfl) (by kernel_rfl) (by simp [Tryz.f57]) (by simp [names]) ?_
  unfold Tryz.f57
  simp (disch := omega) only [go_sem]
  refine call_pure (f100_ok q h) (by simp (disch := omega) only [go_sem]) rfl ?_
  have hl : (q.convs ++ q.waits).length ≤ 1000000 := by simpa using h
  generalize q.convs ++ q.waits = l at hl
  simp (disch := omega) only [go_sem]
  refine loop_intro (α := Nat) (fun i => ⟨[(9, I i), (8, I l.length), (7, waitsV l), (3, .sl (.own 1088 0) 3 ((procsW (l.take i)).map Proc.c))], []⟩) (fun i => i ≤ (l).length ∧ True) (fun i => (l).length - i) 0 ⟨by omega, trivial⟩ ?_ ?_
  · refine Imp.weak ?_ ?_
    all_goals (try simp (disch := omega) only [go_sem])
    all_goals (try (repeat' (with_reducible apply And.intro)))
    all_goals (first | exact .nilOwn (by omega) | exact .nilNo (by omega) | exact .sl (by simp []) | exact .int (by simp []) | exact .eq (by simp []))
  rintro i ⟨hi, hP⟩ J hJ
  simp (disch := omega) only [go_sem]
  refine And.intro (fun hlt => ?_) (fun hge => ?_)
  rotate_left
  have hil : i = (l).length := by simp at hge; omega
  rotate_left
  obtain ⟨b, hb⟩ : ∃ b, (l)[i]? = some b := ⟨_, List.getElem?_eq_getElem (by simp at hlt; omega)⟩
  have hbm := List.mem_of_getElem? hb
  simp (disch := omega) only [go_sem, List.getElem?_map, hb]
  · simp (disch := omega) only [go_sem, procsW]
    refine hJ _ (i + 1) ⟨by simp at hlt; omega, trivial⟩ (by simp at hlt; omega) (Imp.weak ?_ ?_)
    all_goals (try simp (disch := omega) only [go_sem])
    all_goals (try (repeat' (with_reducible apply And.intro)))
    all_goals (first | exact .nilOwn (by omega) | exact .nilNo (by omega) | exact .sl (by simp [procsW, List.take_add_one, hb, Proc.c]) | exact .int (by simp [procsW, List.take_add_one, hb, Proc.c]) | exact .eq (by simp [procsW, List.take_add_one, hb, Proc.c]))

  · subst hil
    refine ret_mk ⟨[], [], [1088]⟩ _ (by (try simp (disch := omega) only [go_sem, resVs, resV]) <;> rfl) ⟨rfl, rfl⟩ (by simp) ?_ trivial
    simp (disch := omega) only [go_sem, List.take_length]
def valid (q : Queue) : Bool := sound q && !(match headQ q with
  | some w => roomH q.res q.holds w.proc w.amt
  | none => false)
theorem f116_ok (q : Queue) (h1 : q.holds.length ≤ 1000000) (h2 : q.waits.length ≤ 1000000) : FnOK C0 116 [.agg q.c] [] (B (valid q)) [] := by
  refine FnOK.intro (fn := Tryz.f116) (c := Tryz.f116.body.getD .skip) (by kernel_rfl) (by kernel_rfl) (by kernel_rfl) (by kernel_rfl) (by simp [Tryz.f116]) (by simp [names]) ?_
  unfold Tryz.f116
  simp (disch := omega) only [go_sem]
  refine call_pure (f161_ok q h1 h2) (by simp (disch := omega) only [go_sem]) rfl ?_
  cases hs : sound q
  · simp (disch := omega) only [go_sem]
    refine ret_mk ⟨[], [], []⟩ _ (by (try simp (disch := omega) only [go_sem, resVs, resV]) <;> rfl) ⟨rfl, rfl⟩ (by simp) ?_ trivial
    simp (disch := omega) only [go_sem]
    exact wb (by simp [valid, hs])
  simp (disch := omega) only [go_sem]
  refine call_pure (f162_ok q) (by simp (disch := omega) only [go_sem]) rfl ?_
  cases hh : headQ q with
  | none =>
    simp (disch := omega) only [go_sem, Option.isSome_none]
    refine ret_mk ⟨[], [], []⟩ _ (by (try simp (disch := omega) only [go_sem, resVs, resV]) <;> rfl) ⟨rfl, rfl⟩ (by simp) ?_ trivial
    simp (disch := omega) only [go_sem]
    exact wb (by simp [valid, hs, hh])
  | some w =>
    simp (disch := omega) only [go_sem, Option.isSome_some]
    refine call_pure (f151_ok q.res q.holds w.proc w.amt h1) (by simp (disch := omega) only [go_sem]) rfl ?_
    simp (disch := omega) only [go_sem]
    refine ret_mk ⟨[], [], []⟩ _ (by (try simp (disch := omega) only [go_sem, resVs, resV]) <;> rfl) ⟨rfl, rfl⟩ (by simp) ?_ trivial
    simp (disch := omega) only [go_sem]
    exact wb (by simp [valid, hs, hh])
theorem f68_ok (q : Queue) (h1 : q.holds.length ≤ 1000000) (h2 : q.waits.length ≤ 1000000) : FnOK C0 68 [.agg q.c] [] (B (valid q)) [] := by
  refine FnOK.intro (fn := Tryz.f68) (c := Tryz.f68.body.getD .skip) (by kernel_rfl) (by kernel_rfl) (by kernel_rfl) (by kernel_rfl) (by simp [Tryz.f68]) (by simp [names]) ?_
  unfold Tryz.f68
  simp (disch := omega) only [go_sem]
  refine call_pure (f116_ok q h1 h2) (by simp (disch := omega) only [go_sem]) rfl ?_
  simp (disch := omega) only [go_sem]
  refine ret_mk ⟨[], [], []⟩ _ (by (try simp (disch := omega) only [go_sem, resVs, resV]) <;> rfl) ⟨rfl, rfl⟩ (by simp) ?_ trivial
  simp (disch := omega) only [go_sem]
end Go.Rd
open Go Go.Abs Go.Proofs
set_option maxRecDepth 100000
namespace Go.Rd
@[go_sem] theorem holdsV_nil : holdsV [] = .sl .no 5 [] := rfl
@[go_sem] theorem waitsV_nil : waitsV [] = .sl .no 7 [] := rfl
@[go_sem] theorem procsV_nil : procsV [] = .sl .no 3 [] := rfl
@[go_sem] theorem queuesV_nil : queuesV [] = .sl .no 8 [] := rfl
@[go_sem] theorem needsV_nil : needsV [] = .sl .no 9 [] := rfl
@[go_sem] theorem exprsV_nil : exprsV [] = .sl .no 5 [] := rfl
@[go_sem] theorem atomsV_nil : atomsV [] = .sl .no 3 [] := rfl
@[go_sem] theorem amtsV_nil : amtsV [] = .sl .no 2 [] := rfl
def popQ (q : Queue) (w : Wait) : Queue := match q.convs with
  | _ :: l => { q with holds := setH q.holds w.proc w.amt, convs := l }
  | [] => { q with holds := setH q.holds w.proc w.amt, waits := q.waits.drop 1 }
def advN : Nat → Queue → Queue × List Hold
  | 0, q => (q, [])
  | n + 1, q => match headQ q with
    | some w => if roomH q.res q.holds w.proc w.amt then ((advN n (popQ q w)).1, ⟨w.proc, w.amt⟩ :: (advN n (popQ q w)).2) else (q, [])
    | none => (q, [])
def sizeQ (q : Queue) : Nat := q.convs.length + q.waits.length
def advQ (q : Queue) : Queue × List Hold := advN (sizeQ q) q
theorem advN_none {n : Nat} {q : Queue} (h : headQ q = none) : advN n q = (q, []) := by cases n <;> simp [advN, h]
theorem head_size {q : Queue} {w : Wait} (h : headQ q = some w) : sizeQ (popQ q w) + 1 = sizeQ q := by
  unfold headQ at h
  unfold popQ sizeQ
  cases hq : q.convs with
  | cons a l => simp; omega
  | nil =>
    cases hw : q.waits with
    | cons a l => simp
    | nil => simp [hq, hw] at h
theorem advQ_def (q : Queue) : advQ q = match headQ q with
    | some w => if roomH q.res q.holds w.proc w.amt then ((advQ (popQ q w)).1, ⟨w.proc, w.amt⟩ :: (advQ (popQ q w)).2) else (q, [])
    | none => (q, []) := by
  unfold advQ
  cases h : headQ q with
  | none => simp [advN_none h]
  | some w =>
    have := head_size h
    rw [← this]
    simp only [advN, h]
theorem setH_length (l : List Hold) (p : Proc) (a : Amt) : (setH l p a).length ≤ l.length + 1 := by
  have h1 : (dropH l p).length ≤ l.length := List.length_filter_le _ _
  have h2 := placeN_le (dropH l p) p
  unfold setH
  split
  · omega
  · simp; omega
def allQ (q : Queue) : Nat := q.holds.length + sizeQ q
theorem allQ_pop {q : Queue} {w : Wait} (h : headQ q = some w) : allQ (popQ q w) ≤ allQ q := by
  have h1 := head_size h
  have h2 : (popQ q w).holds.length ≤ q.holds.length + 1 := by
    unfold popQ
    split <;> exact setH_length _ _ _
  unfold allQ
  omega
theorem f210_ok (q : Queue) (hall : allQ q ≤ 1000000) : FnOK C0 210 [.ptr 63 0] [(63, q.c)] (holdsV (advQ q).2) [(63, (advQ q).1.c)] := by
  refine FnOK.intro (fn := Tryz.f210) (c := Tryz.f210.body.getD .skip) (by kernel_rfl) (by kernel_rfl) (by kernel_rfl) (by kernel_rfl) (by simp [Tryz.f210]) (by simp [names]) ?_
  unfold Tryz.f210
  simp (disch := omega) only [go_sem]
  refine loop_intro (α := Queue × List Hold) (fun x => ⟨[(3, .sl (.own 4736 0) 5 (x.2.map Hold.c)), (0, .ptr 63 0)], [(63, x.1.c)]⟩) (fun x => x.2.length + sizeQ x.1 = sizeQ q ∧ allQ x.1 ≤ 1000000 ∧ (advQ x.1).1 = (advQ q).1 ∧ x.2 ++ (advQ x.1).2 = (advQ q).2) (fun x => sizeQ x.1) (q, []) ⟨by simp, hall, rfl, rfl⟩ ?_ ?_
  · refine Imp.weak ?_ ?_
    · simp (disch := omega) only [go_sem]
    · simp (disch := omega) only [go_sem]
  rintro ⟨s, hs⟩ ⟨i1, i2, i3, i4⟩ J hJ
  replace i1 : hs.length + sizeQ s = sizeQ q := i1
  replace i2 : allQ s ≤ 1000000 := i2
  replace i3 : (advQ s).1 = (advQ q).1 := i3
  replace i4 : hs ++ (advQ s).2 = (advQ q).2 := i4
  rw [advQ_def s] at i3 i4
  simp (disch := omega) only [go_sem]
  refine call_pure (f162_ok s) (by simp (disch := omega) only [go_sem]) rfl ?_
  cases hh : headQ s with
  | none =>
    simp only [hh] at i3 i4
    simp (disch := omega) only [go_sem, Option.isSome_none]
    refine draw_mk 15 [([], [5]), ([0], [22]), ([0, 1], [23]), ([0, 1, 2], [0, 24]), ([0, 1, 2, 3], [25, 24]), ([0, 1, 2, 3, 4], [26, 24]), ([0, 1, 2, 3, 4, 5], [27, 24]), ([0, 1, 2], [0, 24]), ([0, 1, 2, 7], [29, 24]), ([0, 1, 2, 7, 8], [30, 24]), ([0, 1, 2, 7, 8, 9], [31, 24]), ([0, 1, 2], [4, 24]), ([0, 1, 2, 11], [33, 24]), ([0, 1, 2], [4, 24]), ([0, 1, 2, 13], [35, 24]), ([0, 1, 2, 3, 4, 5, 6, 7, 8, 9, 10, 11, 12, 13, 14], []), ([0, 1, 2, 3, 4, 5, 6, 7, 8, 9, 10, 11, 12, 13, 14, 15], []), ([0, 1, 2, 3, 4, 5, 6, 7, 8, 9, 10, 11, 12, 13, 14, 15, 16], []), ([0, 1, 2, 3, 4, 5, 6, 7, 8, 9, 10, 11, 12, 13, 14, 15, 16, 17], [])] fol (by kernel_rfl) ?_
    simp (disch := omega) only [go_sem]
    refine ret_mk ⟨[], [(63, 63)], [4736]⟩ _ rfl ⟨rfl, rfl⟩ (by simp [lk]) ?_ ?_
    · simp (disch := omega) only [go_sem, ← i4, List.append_nil]
    · simp (disch := omega) only [go_sem, ← i3]
  | some w =>
    simp only [hh] at i3 i4
    have hsz := head_size hh
    have hpa := allQ_pop hh
    have hh1 : s.holds.length ≤ 1000000 := by unfold allQ at i2; omega
    simp (disch := omega) only [go_sem, Option.isSome_some]
    refine draw_mk 15 [([], [5]), ([0], [22]), ([0, 1], [23]), ([0, 1, 2], [0, 24]), ([0, 1, 2, 3], [25, 24]), ([0, 1, 2, 3, 4], [26, 24]), ([0, 1, 2, 3, 4, 5], [27, 24]), ([0, 1, 2], [0, 24]), ([0, 1, 2, 7], [29, 24]), ([0, 1, 2, 7, 8], [30, 24]), ([0, 1, 2, 7, 8, 9], [31, 24]), ([0, 1, 2], [4, 24]), ([0, 1, 2, 11], [33, 24]), ([0, 1, 2], [4, 24]), ([0, 1, 2, 13], [35, 24]), ([0, 1, 2, 3, 4, 5, 6, 7, 8, 9, 10, 11, 12, 13, 14], []), ([0, 1, 2, 3, 4, 5, 6, 7, 8, 9, 10, 11, 12, 13, 14, 15], []), ([0, 1, 2, 3, 4, 5, 6, 7, 8, 9, 10, 11, 12, 13, 14, 15, 16], []), ([0, 1, 2, 3, 4, 5, 6, 7, 8, 9, 10, 11, 12, 13, 14, 15, 16, 17], [])] fol (by kernel_rfl) ?_
    simp (disch := omega) only [go_sem]
    refine call_pure (f151_ok s.res s.holds w.proc w.amt hh1) (by simp (disch := omega) only [go_sem]) rfl ?_
    cases hr : roomH s.res s.holds w.proc w.amt
    · simp only [hr, Bool.false_eq_true, if_false] at i3 i4
      simp (disch := omega) only [go_sem]
      refine ret_mk ⟨[], [(63, 63)], [4736]⟩ _ rfl ⟨rfl, rfl⟩ (by simp [lk]) ?_ ?_
      · simp (disch := omega) only [go_sem, ← i4, List.append_nil]
      · simp (disch := omega) only [go_sem, ← i3]
    simp only [hr, if_true] at i3 i4
    have step : ∀ st', Imp ⟨C0, [63], []⟩ st' ⟨[(3, .sl (.own 4736 0) 5 ((hs ++ [Hold.mk w.proc w.amt]).map Hold.c)), (0, .ptr 63 0)], [(63, (popQ s w).c)]⟩ → J st' := fun st' h =>
      hJ st' (popQ s w, hs ++ [Hold.mk w.proc w.amt]) ⟨by simp; omega, by simp; omega, i3, by rw [← i4]; simp⟩ (by simp; omega) h
    have hbound : hs.length + 1 ≤ 4294967296 := by unfold allQ at hall; omega
    cases hc : s.convs with
    | cons a l =>
      have hp : popQ s w = { s with holds := setH s.holds w.proc w.amt, convs := l } := by unfold popQ; simp only [hc]
      rw [hp] at step
      have z1 : (0 < (l.length : Int) + 1) = True := eq_true (by omega)
      have z2 : (l.map Wait.c).take (l.length + 1 - 1) = l.map Wait.c := List.take_of_length_le (by simp)
      simp (disch := omega) only [go_sem, hc, z1]
      refine draw_mk 10 [([], [0]), ([], [0]), ([1], [56]), ([1, 2], [57]), ([1, 2, 3], [58]), ([], [4]), ([5], [60]), ([], [4]), ([7], [62]), ([1, 2, 3, 4, 5, 6, 7, 8], [59, 61, 63]), ([0, 1, 2, 3, 4, 5, 6, 7, 8, 9], []), ([0, 1, 2, 3, 4, 5, 6, 7, 8, 9, 10], []), ([0, 1, 2, 3, 4, 5, 6, 7, 8, 9, 10, 11], [])] fol (by kernel_rfl) ?_
      simp (disch := omega) only [go_sem]
      refine freeCall_mk ⟨⟨[], [], []⟩, [], []⟩ (f179_ok s.holds w.proc w.amt hh1) (by simp (disch := omega) only [go_sem]) rfl rfl trivial (.inl rfl) ?_
      simp (disch := omega) only [go_sem, z2]
      refine step _ (Imp.weak ?_ ?_)
      · simp (disch := omega) only [go_sem]
        exact .sl (by simp [Hold.c])
      · simp (disch := omega) only [go_sem]
    | nil =>
      have hp : popQ s w = { s with holds := setH s.holds w.proc w.amt, waits := s.waits.drop 1 } := by unfold popQ; simp only [hc]
      rw [hp] at step
      have hw : 1 ≤ s.waits.length := by unfold sizeQ at hsz; rw [hc] at hsz; simp at hsz; omega
      have z2 : ((s.waits.map Wait.c).drop 1).take (s.waits.length - 1) = (s.waits.drop 1).map Wait.c := by rw [← List.map_drop]; exact List.take_of_length_le (by simp)
      simp (disch := omega) only [go_sem, hc]
      refine draw_mk 10 [([], [0]), ([], [0]), ([1], [56]), ([1, 2], [57]), ([1, 2, 3], [58]), ([], [4]), ([5], [60]), ([], [4]), ([7], [62]), ([1, 2, 3, 4, 5, 6, 7, 8], [59, 61, 63]), ([0, 1, 2, 3, 4, 5, 6, 7, 8, 9], []), ([0, 1, 2, 3, 4, 5, 6, 7, 8, 9, 10], []), ([0, 1, 2, 3, 4, 5, 6, 7, 8, 9, 10, 11], [])] fol (by kernel_rfl) ?_
      simp (disch := omega) only [go_sem]
      refine freeCall_mk ⟨⟨[], [], []⟩, [], []⟩ (f179_ok s.holds w.proc w.amt hh1) (by simp (disch := omega) only [go_sem]) rfl rfl trivial (.inl rfl) ?_
      simp (disch := omega) only [go_sem, z2]
      refine step _ (Imp.weak ?_ ?_)
      · simp (disch := omega) only [go_sem]
        exact .sl (by simp [Hold.c])
      · simp (disch := omega) only [go_sem, hc, List.map_nil]
theorem f178_ok (q : Queue) (p : Proc) (h : q.holds.length ≤ 1000000) : FnOK C0 178 [.ptr 63 0, .ptr 127 0] [(63, q.c), (127, p.c)] (.tup []) [(63, { q with holds := setH q.holds p ⟨0, 0⟩ : Queue }.c), (127, p.c)] := by
  refine FnOK.intro (fn := Tryz.f178) (c := Tryz.f178.body.getD .skip) (by kernel_rfl) (by kernel_rfl) (by kernel_rfl) (by kernel_rfl) (by simp [Tryz.f178]) (by simp [names]) ?_
  unfold Tryz.f178
  simp (disch := omega) only [go_sem]
  refine call_pure (f179_ok q.holds p ⟨0, 0⟩ h) (by simp (disch := omega) only [go_sem]) rfl ?_
  simp (disch := omega) only [go_sem]
  refine ret_mk ⟨[], [(63, 63), (127, 127)], []⟩ _ rfl ⟨rfl, rfl⟩ (by simp [lk]) ?_ ?_
  · simp (disch := omega) only [go_sem]
  · simp (disch := omega) only [go_sem]
theorem f180_ok (q : Queue) (p : Proc) (h : q.convs.length ≤ 1000000) : FnOK C0 180 [.ptr 63 0, .ptr 127 0] [(63, q.c), (127, p.c)] (.tup []) [(63, { q with convs := dropW q.convs p : Queue }.c), (127, p.c)] := by
  refine FnOK.intro (fn := Tryz.f180) (c := Tryz.f180.body.getD .skip) (by kernel_rfl) (by kernel_rfl) (by kernel_rfl) (by kernel_rfl) (by simp [Tryz.f180]) (by simp [names]) ?_
  unfold Tryz.f180
  simp (disch := omega) only [go_sem]
  refine call_pure (f181_ok q.convs p h) (by simp (disch := omega) only [go_sem]) rfl ?_
  simp (disch := omega) only [go_sem]
  refine ret_mk ⟨[], [(63, 63), (127, 127)], []⟩ _ rfl ⟨rfl, rfl⟩ (by simp [lk]) ?_ ?_
  · simp (disch := omega) only [go_sem]
  · simp (disch := omega) only [go_sem]
theorem f182_ok (q : Queue) (p : Proc) (h : q.waits.length ≤ 1000000) : FnOK C0 182 [.ptr 63 0, .ptr 127 0] [(63, q.c), (127, p.c)] (.tup []) [(63, { q with waits := dropW q.waits p : Queue }.c), (127, p.c)] := by
  refine FnOK.intro (fn := Tryz.f182) (c := Tryz.f182.body.getD .skip) (by kernel_rfl) (by kernel_rfl) (by kernel_rfl) (by kernel_rfl) (by simp [Tryz.f182]) (by simp [names]) ?_
  unfold Tryz.f182
  simp (disch := omega) only [go_sem]
  refine call_pure (f181_ok q.waits p h) (by simp (disch := omega) only [go_sem]) rfl ?_
  simp (disch := omega) only [go_sem]
  refine ret_mk ⟨[], [(63, 63), (127, 127)], []⟩ _ rfl ⟨rfl, rfl⟩ (by simp [lk]) ?_ ?_
  · simp (disch := omega) only [go_sem]
  · simp (disch := omega) only [go_sem]
def cutQ (q : Queue) (p : Proc) : Queue := { q with holds := setH q.holds p ⟨0, 0⟩, convs := dropW q.convs p, waits := dropW q.waits p }
def endQ (q : Queue) : Queue := { (advQ q).1 with gen := nextG (advQ q).1.gen }
@[reducible] def stepsA (a b : Nat) : AV := .mem true [.fn 178 [.ptr a 0, .ptr b 0], .fn 180 [.ptr a 0, .ptr b 0], .fn 182 [.ptr a 0, .ptr b 0]]
theorem dropW_length (l : List Wait) (p : Proc) : (dropW l p).length ≤ l.length := List.length_filter_le _ _
theorem f177_ok (q : Queue) (p : Proc) (h : allQ q + 1 ≤ 1000000) : FnOK C0 177 [.ptr 63 0, stepsA 63 127] [(63, q.c), (127, p.c)] (.tup [.agg (endQ (cutQ q p)).c, holdsV (advQ (cutQ q p)).2, I 0]) [(63, (endQ (cutQ q p)).c), (127, p.c)] := by
  have h1 : q.holds.length ≤ 1000000 := by unfold allQ at h; omega
  have h2 : q.convs.length ≤ 1000000 := by unfold allQ sizeQ at h; omega
  have h3 : q.waits.length ≤ 1000000 := by unfold allQ sizeQ at h; omega
  have h4 : allQ (cutQ q p) ≤ 1000000 := by
    have := setH_length q.holds p ⟨0, 0⟩
    have := dropW_length q.convs p
    have := dropW_length q.waits p
    unfold allQ sizeQ at h ⊢
    simp only [cutQ]
    omega
  refine FnOK.intro (fn := Tryz.f177) (c := Tryz.f177.body.getD .skip) (by kernel_rfl) (by kernel_rfl) (by kernel_rfl) (by kernel_rfl) (by simp [Tryz.f177]) (by simp [names]) ?_
  unfold Tryz.f177
  have z0 : (decide ((0 : Int) < 3)) = true := by decide
  have z1 : (decide ((1 : Int) < 3)) = true := by decide
  have z2 : (decide ((2 : Int) < 3)) = true := by decide
  have z3 : (decide ((3 : Int) < 3)) = false := by decide
  simp (disch := omega) only [go_sem]
  refine loop_intro (α := Nat) (fun i => ⟨[(12, I i), (11, I 3), (10, stepsA 63 127), (0, .ptr 63 0), (4, .ptr 256 0)], [(63, (if i = 0 then q else if i = 1 then { q with holds := setH q.holds p ⟨0, 0⟩ : Queue } else if i = 2 then { q with holds := setH q.holds p ⟨0, 0⟩, convs := dropW q.convs p : Queue } else cutQ q p).c), (127, p.c), (256, (⟨⟨[], 0, 0, 0⟩, [], [], [], 0⟩ : Queue).c)]⟩) (fun i => i ≤ 3) (fun i => 3 - i) 0 (by simp) ?_ ?_
  · refine Imp.weak ?_ ?_
    · simp (disch := omega) only [go_sem]
    · simp (disch := omega) only [go_sem]
  rintro i hi J hJ
  obtain rfl | rfl | rfl | rfl : i = 0 ∨ i = 1 ∨ i = 2 ∨ i = 3 := by omega
  · simp (disch := omega) only [go_sem, z0]
    refine callB_mk ⟨⟨[], [(63, 63), (127, 127)], []⟩, [], []⟩ (f178_ok q p h1) (by simp (disch := omega) only [go_sem]) rfl (by simp (disch := omega) only [go_sem]) (.inl rfl) ?_
    simp (disch := omega) only [go_sem]
    refine hJ _ 1 (by omega) (by omega) (Imp.weak (by simp (disch := omega) only [go_sem]) (by simp (disch := omega) only [go_sem, Nat.one_ne_zero]))
  · simp (disch := omega) only [go_sem, z1, Nat.one_ne_zero]
    refine callB_mk ⟨⟨[], [(63, 63), (127, 127)], []⟩, [], []⟩ (f180_ok { q with holds := setH q.holds p ⟨0, 0⟩ } p h2) (by simp (disch := omega) only [go_sem]) rfl (by simp (disch := omega) only [go_sem]) (.inl rfl) ?_
    simp (disch := omega) only [go_sem]
    refine hJ _ 2 (by omega) (by omega) (Imp.weak (by simp (disch := omega) only [go_sem]) (by simp (disch := omega) only [go_sem, Nat.one_ne_zero]))
  · simp (disch := omega) only [go_sem, z2]
    refine callB_mk ⟨⟨[], [(63, 63), (127, 127)], []⟩, [], []⟩ (f182_ok { q with holds := setH q.holds p ⟨0, 0⟩, convs := dropW q.convs p } p h3) (by simp (disch := omega) only [go_sem]) rfl (by simp (disch := omega) only [go_sem]) (.inl rfl) ?_
    simp (disch := omega) only [go_sem]
    refine hJ _ 3 (by omega) (by omega) (Imp.weak (by simp (disch := omega) only [go_sem]) (by simp (disch := omega) only [go_sem, cutQ]))
  · clear hJ
    simp (disch := omega) only [go_sem, z3]
    refine callB_mk ⟨⟨[], [(63, 63)], []⟩, [], []⟩ (f210_ok (cutQ q p) h4) (by simp (disch := omega) only [go_sem]) rfl (by simp (disch := omega) only [go_sem]) (.inl rfl) ?_
    simp (disch := omega) only [go_sem]
    refine call_pure (f211_ok (advQ (cutQ q p)).1.gen) (by simp (disch := omega) only [go_sem]) rfl ?_
    simp (disch := omega) only [go_sem]
    refine ret_mk ⟨[], [(63, 63), (127, 127)], []⟩ _ (by (try simp (disch := omega) only [go_sem, resVs, resV]) <;> rfl) ⟨rfl, rfl⟩ (by simp [lk]) ?_ ?_
    · simp (disch := omega) only [go_sem, endQ]
    · simp (disch := omega) only [go_sem, endQ]
end Go.Rd
/-
  DERIVED: THE SHELF's CONTRACTS AT THIS DUMP, IN PLAIN WORDS (tools/lay-plain.mjs out of 'YtaelofhhkpacbaaGreatDoorSl0.lean', which tools/lay-shelf.mjs wrote): THE SAME DECLARATIONS UNDER THE SAME NAMES: 'import', 'namespace', 'open', 'def', 'theorem' AND NOTHING ELSE: no command of the shelf's: FOR A HAND-IN. Each laying: the table of numbers ('.._ren') and one theorem, a field a fact of the dump's own or the kernel's comparison; each contract: ONE APPLICATION.
-/
namespace Go.Proofs
open Go.Shelf
def Tryz.sortP_ren : Go.Shelf.Ren := ⟨fun | 6 => 97 | 15 => 146 | 14 => 145 | 28 => 191 | 29 => 192 | 20 => 183 | 21 => 184 | 22 => 185 | 23 => 186 | 24 => 187 | 25 => 188 | 26 => 189 | 27 => 190 | 46 => 213 | 47 => 214 | 48 => 215 | 49 => 216 | 50 => 217 | 57 => 226 | n => n, fun | 22 => 26 | 24 => 45 | 25 => 114 | 3 => 3 | 39 => 170 | 0 => 0 | 53 => 201 | 55 => 203 | 4 => 4 | 46 => 194 | 45 => 193 | 50 => 198 | 5 => 5 | 9 => 9 | 66 => 212 | 70 => 179 | 76 => 220 | 77 => 182 | n => n, fun | n => n⟩
theorem Tryz.sortP : Go.Proofs.SlLaysF0.n6 Tryz.prog Tryz.sortP_ren := {
  mixed := by kernel_rfl
  f6 := ⟨Tryz.f97.name, by decide, Tryz.func97.trans (congrArg some (by kernel_rfl))⟩
  f14 := ⟨Tryz.f145.name, by decide, Tryz.func145.trans (congrArg some (by kernel_rfl))⟩
  f15 := Tryz.func146.trans (congrArg some (by kernel_rfl))
  f20 := ⟨Tryz.f183.name, by decide, Tryz.func183.trans (congrArg some (by kernel_rfl))⟩
  f21 := ⟨Tryz.f184.name, by decide, Tryz.func184.trans (congrArg some (by kernel_rfl))⟩
  f22 := ⟨Tryz.f185.name, by decide, Tryz.func185.trans (congrArg some (by kernel_rfl))⟩
  f23 := ⟨Tryz.f186.name, by decide, Tryz.func186.trans (congrArg some (by kernel_rfl))⟩
  f24 := ⟨Tryz.f187.name, by decide, Tryz.func187.trans (congrArg some (by kernel_rfl))⟩
  f25 := ⟨Tryz.f188.name, by decide, Tryz.func188.trans (congrArg some (by kernel_rfl))⟩
  f26 := ⟨Tryz.f189.name, by decide, Tryz.func189.trans (congrArg some (by kernel_rfl))⟩
  f27 := ⟨Tryz.f190.name, by decide, Tryz.func190.trans (congrArg some (by kernel_rfl))⟩
  f28 := Tryz.func191.trans (congrArg some (by kernel_rfl))
  f29 := Tryz.func192.trans (congrArg some (by kernel_rfl))
  f46 := ⟨Tryz.f213.name, by decide, Tryz.func213.trans (congrArg some (by kernel_rfl))⟩
  f47 := Tryz.func214.trans (congrArg some (by kernel_rfl))
  f48 := Tryz.func215.trans (congrArg some (by kernel_rfl))
  f49 := ⟨Tryz.f216.name, by decide, Tryz.func216.trans (congrArg some (by kernel_rfl))⟩
  f50 := ⟨Tryz.f217.name, by decide, Tryz.func217.trans (congrArg some (by kernel_rfl))⟩
  f57 := ⟨Tryz.f226.name, by decide, Tryz.func226.trans (congrArg some (by kernel_rfl))⟩
  t0 := Tryz.underlying0
  a0 := Tryz.isAgg0
  z0 := Tryz.sizeOf0
  v0 := Tryz.zeroValue0
  t3 := Tryz.underlying3
  a3 := Tryz.isAgg3
  z3 := Tryz.sizeOf3
  v3 := Tryz.zeroValue3
  t4 := Tryz.underlying4
  a4 := Tryz.isAgg4
  z4 := Tryz.sizeOf4
  v4 := Tryz.zeroValue4
  t5 := Tryz.underlying5
  a5 := Tryz.isAgg5
  z5 := Tryz.sizeOf5
  v5 := Tryz.zeroValue5
  t9 := Tryz.underlying9
  a9 := Tryz.isAgg9
  z9 := Tryz.sizeOf9
  v9 := Tryz.zeroValue9
  t22 := Tryz.underlying26
  a22 := Tryz.isAgg26
  z22 := Tryz.sizeOf26
  v22 := Tryz.zeroValue26
  t25 := Tryz.underlying114
  a25 := Tryz.isAgg114
  z25 := Tryz.sizeOf114
  v25 := Tryz.zeroValue114
  t39 := Tryz.underlying170
  a39 := Tryz.isAgg170
  z39 := Tryz.sizeOf170
  v39 := Tryz.zeroValue170
  t45 := Tryz.underlying193
  a45 := Tryz.isAgg193
  z45 := Tryz.sizeOf193
  v45 := Tryz.zeroValue193
  t46 := Tryz.underlying194
  a46 := Tryz.isAgg194
  z46 := Tryz.sizeOf194
  v46 := Tryz.zeroValue194
  t50 := Tryz.underlying198
  a50 := Tryz.isAgg198
  z50 := Tryz.sizeOf198
  v50 := Tryz.zeroValue198
  t53 := Tryz.underlying201
  a53 := Tryz.isAgg201
  z53 := Tryz.sizeOf201
  v53 := Tryz.zeroValue201
  t55 := Tryz.underlying203
  a55 := Tryz.isAgg203
  z55 := Tryz.sizeOf203
  v55 := Tryz.zeroValue203
  t66 := Tryz.underlying212
  a66 := Tryz.isAgg212
  z66 := Tryz.sizeOf212
  v66 := Tryz.zeroValue212
  t70 := Tryz.underlying179
  a70 := Tryz.isAgg179
  z70 := Tryz.sizeOf179
  v70 := Tryz.zeroValue179
  t76 := Tryz.underlying220
  a76 := Tryz.isAgg220
  z76 := Tryz.sizeOf220
  v76 := Tryz.zeroValue220
  t77 := Tryz.underlying182
  a77 := Tryz.isAgg182
  z77 := Tryz.sizeOf182
  v77 := Tryz.zeroValue182 }
end Go.Proofs
/- slices.SortFunc, as a call that changes a row in place. -/
namespace Go.Abs
open Go.Proofs Go.Shelf Go.RowKit Go.Lib Go.Sort
variable {P : Program} {ρ : Go.Shelf.Ren} {α : Type} [Inhabited α]

theorem heap_grow {w w' : World} (hs : w.heap.size ≤ w'.heap.size) (ho : ∀ b, b < w.heap.size → w'.heap[b]? = w.heap[b]?) : w'.heap = w.heap ++ w'.heap.extract w.heap.size w'.heap.size := by
  apply Array.ext_getElem?
  intro b
  by_cases hb : b < w.heap.size
  · rw [ho b hb, Array.getElem?_append_left hb]
  · rw [Array.getElem?_append_right (by omega), Array.getElem?_extract]
    by_cases hb' : b < w'.heap.size
    · rw [if_pos (by omega)]; congr 1; omega
    · rw [if_neg (by omega), Array.getElem?_eq_none (by omega)]

/-- a quiet call of a comparison, in the words of the sort's contract -/
theorem cmp_calls {C : Ctx} {g : Nat} {xs : List AV} {us : List Value} {v : Value} (h : FnOK C g xs [] (.v v) []) (G : Gh) (W : World) (hG : Glob C G W) (hro : ∀ b, G.own b = .ro ∨ G.own b = .other) (hx : VRs G W xs us) :
    Calls C.P g us.toArray W fun e w' => e = .returned v ∧ ∃ q os', w' = grow (W.drewN q) os' := by
  refine Calls.mono (h.2 G W us hG hx fun _ _ h => by cases h) fun e w' ⟨u, g', he, hfr, hy, _⟩ => ?_
  simp only [VR] at hy
  subst hy
  refine ⟨he, w'.drawn - W.drawn, w'.heap.extract W.heap.size w'.heap.size, ?_⟩
  have hh := heap_grow (w := W) (w' := w') hfr.size fun b hb => (hfr.keep b hb (hro b)).1
  obtain ⟨ht, hd⟩ := hfr.tape
  have ho := hfr.os
  have hp := hfr.output
  cases w' with
  | mk heap tape drawn os output =>
    simp only at hh ht hd ho hp
    simp only [grow, World.drewN]
    rw [← hh, ht, ho, hp]
    congr 1
    omega

def roOnly (G : Gh) : Gh := { G with own := fun b => match G.own b with
  | .ro => .ro
  | _ => .other }

theorem VRs_vals_any {g : Gh} {w : World} (zs : List Value) : VRs g w (vals zs) zs := VRs_vals zs

theorem FnRow.sort {C : Ctx} (hC : C.P = P) (L : SlLaysF0.n6 P ρ) (k : Nat) (hk0 : 0 < k) (aE : ∀ w, (isAgg (ρ.t 24)).run P w = .ok true w) (zE : ∀ w, (Go.sizeOf (ρ.t 24)).run P w = .ok k w) (enc : α → List Value) (hk : ∀ x, (enc x).length = k)
    (h1 : ∀ x, ∀ v ∈ enc x, v.oneCell' = true) (cf : α → α → Int) (hO : SWO (ltOf cf)) (hT : ∀ x y, (ltOf cf) x y = false → (ltOf cf) y x = false → x = y) (g0 : Nat)
    (hcmp : ∀ x y, FnOK C g0 [.agg (vals (enc x)), .agg (vals (enc y))] [] (.v (.int .i64 (cf x y))) []) (hf : ∃ fn c, P.funcs[ρ.f 6]? = some fn ∧ (fn.name == "runtime.NumGoroutine") = false ∧ fn.body = some c) (ps : List α) (hsz : ps.length < 4611686018427387904) :
    FnRow C (ρ.f 6) k (ps.map fun x => vals (enc x)) [.fn g0 []] ((ps.mergeSort fun x y => !(ltOf cf) y x).map fun x => vals (enc x)) := by
  subst hC
  refine ⟨hf, fun G w r u us hG hu hv => ?_⟩
  match us, hv with
  | [fv], hv =>
    simp only [VRs, VR, and_true] at hv
    obtain ⟨cs, rfl, hcs⟩ := hv
    have hcs0 : cs = #[] := by
      cases hl : cs.toList with
      | nil => exact Array.toList_eq_nil_iff.1 hl
      | cons a b => rw [hl] at hcs; simp [VRs] at hcs
    subst hcs0
    obtain ⟨_, ⟨rfl, hes⟩ | ⟨h0, _⟩ | ⟨cap, cur, T, rfl, h2, h3, h5, h6, h7, h8⟩⟩ := hu
    · have hps : ps = [] := by simpa using hes
      subst hps
      exact Calls.mono (AnyF.slices_SortFunc_none L none 0 _ w) fun e w' ⟨he, hw⟩ => ⟨he, .inl ⟨by simp, by subst hw; exact ⟨rfl, ⟨rfl, Nat.le_refl _⟩, rfl, Nat.le_refl _, fun _ _ => rfl⟩⟩⟩
    · omega
    · simp only [Nat.zero_mul, Nat.zero_add] at h7 h8
      have hlt : G.row r < w.heap.size := lt_of_heap h6
      obtain ⟨fn0, c0, hfn0, hname0, hb0⟩ := (hcmp default default).1
      have eg : ∀ args w, (callFunc g0 args).run C.P w = .ok (.enter g0 args) w := fun args w => run_enter hfn0 hname0 hb0 args w
      have hcell : ∀ i x, ps[i]? = some x → ∀ j v, (enc x)[j]? = some v → w.cell? ⟨G.row r, i * k + j, none⟩ = some v := fun i x hx j v hj => by
        obtain ⟨e1, e2⟩ := PRe.at_ _ _ k 0 h8 i (vals (enc x)) (by rw [List.getElem?_map, hx]; rfl)
        obtain ⟨us, k1, k2⟩ := PRc.list _ _ _ e2
        obtain ⟨v', hv', hp⟩ := PRl.get k1 j (.v v) (by simp [vals, hj])
        simp only [PR] at hp
        have := k2 j v' hv'
        rw [add_lit] at this
        rw [hp.1] at this
        simpa using this
      have hH : HoldsK enc k w (G.row r) 0 ps.toArray := fun j hj => by
        have hj' : j < ps.length * k := by simpa using hj
        have hd : j / k < ps.length := Nat.div_lt_of_lt_mul (by rwa [Nat.mul_comm])
        have hm : j % k < k := Nat.mod_lt _ hk0
        rw [get_flatK enc k _ j (by simpa using hj')]
        have hx : ps[j / k]? = some ps[j / k] := List.getElem?_eq_getElem hd
        have hv : (enc ps[j / k])[j % k]? = some (enc ps[j / k])[j % k]! := by
          rw [List.getElem?_eq_getElem (by rw [hk]; exact hm), getElem!_pos _ _ (by rw [hk]; exact hm)]
        have hc := hcell (j / k) _ hx (j % k) _ hv
        rw [Nat.div_add_mod' j k] at hc
        have hp : ps.toArray[j / k]! = ps[j / k] := by rw [getElem!_pos _ _ (by simpa using hd)]; simp
        rw [Nat.zero_add, hp]
        refine ⟨hc, ?_⟩
        simp [World.frozen?, h6]
      have hlays : CmpLays C.P g0 #[] enc k cf (G.row r) 0 ps.toArray.size w := fun m os dk hdk x y => by
        have hold : ∀ b, b < w.heap.size → isRo G b → isRo (roOnly G) b ∧ (sortWorldK enc k w (G.row r) 0 m dk os).heap[b]? = w.heap[b]? := fun b hb hr => by
          have hne : G.row r ≠ b := fun e => by rw [isRo_def, ← e, h5] at hr; cases hr
          refine ⟨by simp only [isRo_def, roOnly] at hr ⊢; rw [hr], ?_⟩
          simp only [sortWorldK, grow, putRowK, putRow, mapBlock, ahead]
          rw [Array.getElem?_append_left (by simpa using hb), Array.getElem?_modify, if_neg hne]
          rfl
        have hG' : Glob C (roOnly G) (sortWorldK enc k w (G.row r) 0 m dk os) := fun i cs hi => by
          obtain ⟨q1, q2, q3⟩ := hG i cs hi
          refine ⟨q1, by simp only [isRo_def, roOnly] at q2 ⊢; rw [q2], PRc.mono hold _ ⟨i, 0, none⟩ 0 q2 q3⟩
        have := cmp_calls (hcmp x y) (roOnly G) _ hG' (fun b => by simp only [roOnly]; cases G.own b <;> simp) (us := [.agg (enc x).toArray, .agg (enc y).toArray]) (by
          simp only [VRs, VR, and_true]
          exact ⟨⟨_, rfl, VRs_vals _⟩, ⟨_, rfl, VRs_vals _⟩⟩)
        exact this
      have hlen : (ps.map fun x => vals (enc x)).length = ps.toArray.size := by simp
      rw [hlen, Nat.zero_mul]
      refine Calls.mono (AnyQ.slices_SortFunc_total L k aE zE enc hk h1 cf hO g0 #[] (G.row r) 0 cap ps.toArray w eg hlays hH hlt (by simpa using hsz) hT) fun e w' ⟨he, n, os, hw⟩ => ?_
      refine ⟨he, .inr ?_⟩
      generalize hqs : (ps.mergeSort fun x y => !(ltOf cf) y x) = qs at hw
      have hql : qs.length = ps.length := by rw [← hqs]; simp
      have hcs : cur.size = cap * k := h7
      have hle : ps.length * k ≤ cur.size := by rw [hcs]; exact Nat.mul_le_mul_right _ (by simpa using h2)
      refine ⟨cur, putCells id 0 (flatK enc k qs.toArray) cur, T, ⟨h5, h6, by simp [putCells], fun p hp => ?_, ?_⟩, ?_⟩
      · have hp' : ps.length * k ≤ p := by
          rcases hp with h | h
          · omega
          · simpa [hql] using h
        simp only [putCells, Array.getElem?_mapIdx, size_flatK, List.size_toArray, hql]
        cases cur[p]? with
        | none => rfl
        | some y =>
          simp only [Option.map_some]
          rw [if_neg (by omega)]
      · refine PRe.of_at _ _ _ 0 fun i e he' => ?_
        rw [List.getElem?_map] at he'
        obtain ⟨x, hx, rfl⟩ := Option.map_eq_some_iff.1 he'
        refine ⟨by simp [vals, hk], ?_⟩
        refine PRc.of_list _ (enc x) _ _ (PRl_vals _ ?_) fun j v hj => ?_
        · have : ∀ zs : List Value, (∀ v ∈ zs, v.oneCell' = true) → okCells (vals zs) = true := by
            intro zs
            induction zs with
            | nil => intro _; rfl
            | cons z zs ih =>
              intro hz
              have := ih fun v hv => hz v (by simp [hv])
              simp only [vals, List.map_cons, okCells, okCell, Bool.and_eq_true] at this ⊢
              exact ⟨hz z (by simp), this⟩
          exact this _ (h1 x)
        · have hi : i < qs.length := by
            rcases Nat.lt_or_ge i qs.length with h | h
            · exact h
            · rw [List.getElem?_eq_none h] at hx; cases hx
          have hjk : j < k := by
            rcases Nat.lt_or_ge j (enc x).length with h | h
            · rwa [hk] at h
            · rw [List.getElem?_eq_none h] at hj; cases hj
          have hlt2 : i * k + j < qs.length * k := by
            have : (i + 1) * k ≤ qs.length * k := Nat.mul_le_mul_right _ hi
            rw [Nat.add_mul] at this
            omega
          simp only [Nat.zero_mul, Nat.zero_add, add_lit]
          rw [cell_of_row _ _ _ _ _ _ (setRow_heap w _ cur _ T _ h6)]
          simp only [putCells, Array.getElem?_mapIdx, size_flatK, List.size_toArray]
          rw [Array.getElem?_eq_getElem (by rw [hql] at hlt2; omega), Option.map_some, if_pos ⟨Nat.zero_le _, by omega⟩, Nat.sub_zero, get_flatK enc k _ _ (by simpa using hlt2)]
          have e1 : (i * k + j) / k = i := by rw [Nat.mul_comm, Nat.mul_add_div hk0, Nat.div_eq_of_lt hjk, Nat.add_zero]
          have e2 : (i * k + j) % k = j := by rw [Nat.mul_comm, Nat.mul_add_mod, Nat.mod_eq_of_lt hjk]
          have e3 : qs.toArray[i]! = x := by
            have e4 : qs.toArray[i]! = qs[i] := by rw [getElem!_pos _ _ (by simpa using hi)]; simp
            rw [e4]
            rw [List.getElem?_eq_getElem hi] at hx
            exact Option.some.inj hx
          rw [e1, e2, e3]
          rw [List.getElem?_eq_getElem (by rw [hk]; exact hjk)] at hj
          injection hj with hj
          rw [getElem!_pos _ _ (by rw [hk]; exact hjk), hj]
          rfl
      · subst hw
        refine ⟨rfl, ⟨rfl, Nat.le_add_right _ _⟩, rfl, ?_, fun b hb => ?_⟩
        · simp [sortWorldK, grow, putRowK, putRow, mapBlock, ahead, World.setRow]
        · have hb' : b < w.heap.size := by simpa [World.setRow] using hb
          simp only [sortWorldK, grow, putRowK, putRow, mapBlock, ahead]
          rw [Array.getElem?_append_left (by simpa using hb'), Array.getElem?_modify]
          by_cases hbr : G.row r = b
          · subst hbr
            have e : (Go.Sort.ahead w n).heap[G.row r]? = some (.cells cur T (0, 0)) := h6
            rw [if_pos rfl, e, setRow_heap w _ cur _ T _ h6]
            rfl
          · rw [if_neg hbr, setRow_other w _ _ _ (Ne.symm hbr)]
            rfl
  | [], hv => simp [VRs] at hv
  | _ :: _ :: _, hv => simp [VRs] at hv
end Go.Abs
open Go Go.Abs Go.Proofs
set_option maxRecDepth 100000
namespace Go.Rd
instance : Inhabited Proc := ⟨p0⟩
theorem cmpP_lt (p q : Proc) : Go.Proofs.ltOf cmpP p q = decide (cmpP p q < 0) := rfl
theorem cmpP_cases (p q : Proc) : (cmpP p q = -1 ∧ (p.site < q.site ∨ p.site = q.site ∧ (p.inc < q.inc ∨ p.inc = q.inc ∧ p.num < q.num))) ∨ (cmpP p q = 1 ∧ (q.site < p.site ∨ p.site = q.site ∧ (q.inc < p.inc ∨ p.inc = q.inc ∧ q.num < p.num))) ∨ (cmpP p q = 0 ∧ p = q) := by
  unfold cmpP
  repeat' split
  all_goals first
    | (left; refine ⟨rfl, ?_⟩; omega)
    | (right; left; refine ⟨rfl, ?_⟩; omega)
    | (right; right; refine ⟨rfl, ?_⟩; cases p; cases q; simp at *; omega)
theorem cmpP_swap (p q : Proc) : cmpP q p = - cmpP p q := by
  rcases cmpP_cases p q with ⟨h, h1⟩ | ⟨h, h1⟩ | ⟨h, h1⟩ <;> rcases cmpP_cases q p with ⟨k, k1⟩ | ⟨k, k1⟩ | ⟨k, k1⟩ <;> first | omega | (subst h1; omega) | (subst k1; omega)
theorem cmpP_eq {p q : Proc} (h : cmpP p q = 0) : p = q := by
  rcases cmpP_cases p q with ⟨k, _⟩ | ⟨k, _⟩ | ⟨_, k⟩
  · omega
  · omega
  · exact k
theorem cmpP_self (p : Proc) : cmpP p p = 0 := by
  have := cmpP_swap p p
  omega
theorem cmpP_trans {p q r : Proc} (h1 : cmpP p q < 0) (h2 : cmpP q r < 0) : cmpP p r < 0 := by
  rcases cmpP_cases p q with ⟨_, a⟩ | ⟨a, _⟩ | ⟨a, _⟩
  · rcases cmpP_cases q r with ⟨_, b⟩ | ⟨b, _⟩ | ⟨b, _⟩
    · rcases cmpP_cases p r with ⟨c, _⟩ | ⟨_, c⟩ | ⟨_, c⟩
      · omega
      · omega
      · subst c; omega
    · omega
    · omega
  · omega
  · omega
theorem swoP : Go.Sort.SWO (Go.Proofs.ltOf cmpP) where
  irrefl p := by rw [cmpP_lt, cmpP_self]; rfl
  trans p q r h1 h2 := by rw [cmpP_lt] at *; simp only [decide_eq_true_eq] at *; exact cmpP_trans h1 h2
  ntrans p q r h1 h2 := by
    rw [cmpP_lt] at *
    simp only [decide_eq_false_iff_not] at *
    intro h
    by_cases e : cmpP q p < 0
    · exact h2 (cmpP_trans e h)
    · have : cmpP p q = 0 := by have := cmpP_swap p q; omega
      rw [cmpP_eq this] at h
      exact h2 h
theorem totP (p q : Proc) (h1 : Go.Proofs.ltOf cmpP p q = false) (h2 : Go.Proofs.ltOf cmpP q p = false) : p = q := by
  rw [cmpP_lt] at *
  simp only [decide_eq_false_iff_not] at *
  refine cmpP_eq ?_
  have := cmpP_swap p q
  omega
def Proc.vs (p : Proc) : List Value := [.int .i64 p.site, .int .i64 p.inc, .int .i64 p.num]
theorem Proc.c_vals (p : Proc) : p.c = vals p.vs := rfl
def sortL (ps : List Proc) : List Proc := ps.mergeSort fun x y => !(Go.Proofs.ltOf cmpP) y x
theorem f97_row (ps : List Proc) (h : ps.length ≤ 1000000) : FnRow C0 97 3 (ps.map Proc.c) [.fn 71 []] ((sortL ps).map Proc.c) := by
  have := FnRow.sort (C := C0) rfl Tryz.sortP 3 (by omega) (fun w => Go.Abs.run_isAgg F.ag45) (fun w => Go.Abs.run_sizeOf F.sz45) Proc.vs (fun _ => rfl) (fun x v hv => by simp [Proc.vs] at hv; rcases hv with rfl | rfl | rfl <;> rfl) cmpP swoP totP 71
    (fun x y => f71_ok x y) ⟨Tryz.f97, Tryz.f97.body.getD .skip, by kernel_rfl, by kernel_rfl, by kernel_rfl⟩ ps (by omega)
  exact this
def compP : List Proc → List Proc
  | [] => []
  | [a] => [a]
  | a :: b :: l => if a = b then compP (b :: l) else a :: compP (b :: l)
end Go.Rd
