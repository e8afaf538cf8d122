/- part 13 of the proof -/
import Derived.Test.YtaelofhhkpacbaaGreatDoorT11
import Derived.Test.YtaelofhhkpacbaaGreatDoorT12
set_option linter.all false
open Go Go.Abs Go.Proofs
set_option maxRecDepth 100000
namespace Go.Rd
@[go_sem] theorem procEq (p q : Proc) : (p.site == q.site && (p.inc == q.inc && p.num == q.num)) = decide (p = q) := by
  cases p; cases q
  refine Bool.eq_iff_iff.2 ?_
  simp
@[go_sem] theorem amtEq (p q : Amt) : (p.mode == q.mode && p.units == q.units) = decide (p = q) := by
  cases p; cases q
  refine Bool.eq_iff_iff.2 ?_
  simp
def getH (l : List Hold) (p : Proc) : Amt := match l.find? (fun h => decide (h.proc = p)) with
  | some h => h.amt
  | none => ⟨0, 0⟩
theorem find_take {α : Type} {f : α → Bool} {l : List α} {i : Nat} {b : α} (h : (l.take i).find? f = none) (hb : l[i]? = some b) : (l.take (i + 1)).find? f = if f b then some b else none := by
  rw [List.take_add_one, hb, List.find?_append, h]
  simp [List.find?]
theorem find_at {α : Type} {f : α → Bool} {l : List α} {i : Nat} {b : α} (h : (l.take i).find? f = none) (hb : l[i]? = some b) (hf : f b = true) : l.find? f = some b := by
  have h1 := find_take h hb
  rw [hf] at h1
  conv => lhs; rw [← List.take_append_drop (i + 1) l]
  rw [List.find?_append, h1]
  rfl
theorem f227_ok (l : List Hold) (p : Proc) (hl : l.length ≤ 1000000) : FnOK C0 227 [holdsV l, .agg p.c] [] (.agg (getH l p).c) [] := by
  refine FnOK.intro (fn := Tryz.f227) (c := Tryz.f227.body.getD .skip) (by kernel_rfl) (by kernel_rfl) (by kernel_rfl) (by kernel_rfl) (by simp [Tryz.f227]) (by simp [names]) ?_
  unfold Tryz.f227
  simp (disch := omega) only [go_sem]
  refine loop_intro (α := Nat) (fun i => ⟨[(9, I i), (8, I l.length), (7, holdsV l), (3, .ptr 192 0), (4, .ptr 256 0)], [(192, p.c), (256, (⟨0, 0⟩ : Amt).c)]⟩) (fun i => i ≤ (l).length ∧ (l.take i).find? (fun h => decide (h.proc = p)) = none) (fun i => (l).length - i) 0 ⟨by omega, rfl⟩ ?_ ?_
  · refine Imp.weak ?_ ?_
    all_goals (try simp (disch := omega) only [go_sem])
    all_goals (try (repeat' (with_reducible apply And.intro)))
    all_goals (first | exact .nilOwn (by omega) | exact .nilNo (by omega) | exact .sl (by simp []) | exact .int (by simp []) | exact .eq (by simp []))
  rintro i ⟨hi, hP⟩ J hJ
  simp (disch := omega) only [go_sem]
  refine And.intro (fun hlt => ?_) (fun hge => ?_)
  rotate_left
  have hil : i = (l).length := by simp at hge; omega
  rotate_left
  obtain ⟨b, hb⟩ : ∃ b, (l)[i]? = some b := ⟨_, List.getElem?_eq_getElem (by simp at hlt; omega)⟩
  have hbm := List.mem_of_getElem? hb
  simp (disch := omega) only [go_sem, List.getElem?_map, hb]
  · refine And.intro (fun h => ?_) (fun h => ?_)
    · have e : getH l p = b.amt := by unfold getH; rw [find_at hP hb (by simpa using h)]
      simp (disch := omega) only [go_sem, e]
      refine ret_mk ⟨[], [], []⟩ _ (by (try simp (disch := omega) only [go_sem, resVs, resV]) <;> rfl) ⟨rfl, rfl⟩ (by simp) ?_ trivial
      simp (disch := omega) only [go_sem]
    · refine hJ _ (i + 1) ⟨by simp at hlt; omega, (by rw [find_take hP hb]; simp at h; simp [h])⟩ (by simp at hlt; omega) (Imp.weak (by simp (disch := omega) only [go_sem]) (by simp (disch := omega) only [go_sem]))
  · subst hil
    rw [List.take_length] at hP
    have e : getH l p = ⟨0, 0⟩ := by unfold getH; rw [hP]
    simp (disch := omega) only [go_sem, e]
    refine ret_mk ⟨[], [], []⟩ _ (by (try simp (disch := omega) only [go_sem, resVs, resV]) <;> rfl) ⟨rfl, rfl⟩ (by simp) ?_ trivial
    simp (disch := omega) only [go_sem]
def procsH (l : List Hold) : List Proc := l.map (·.proc)
theorem f144_ok (l : List Hold) (hl : l.length ≤ 1000000) : FnOK C0 144 [holdsV l] [] (procsV (procsH l)) [] := by
  refine FnOK.intro (fn := Tryz.f144) (c := Tryz.f144.body.getD .skip) (by kernel_rfl) (by kernel_rfl) (by kernel_rfl) (by kernel_rfl) (by simp [Tryz.f144]) (by simp [names]) ?_
  unfold Tryz.f144
  simp (disch := omega) only [go_sem]
  refine loop_intro (α := Nat) (fun i => ⟨[(8, I i), (7, I l.length), (6, holdsV l), (3, .sl (.own 1024 0) 3 ((procsH (l.take i)).map Proc.c))], []⟩) (fun i => i ≤ (l).length ∧ True) (fun i => (l).length - i) 0 ⟨by omega, trivial⟩ ?_ ?_
  · refine Imp.weak ?_ ?_
    all_goals (try simp (disch := omega) only [go_sem])
    all_goals (try (repeat' (with_reducible apply And.intro)))
    all_goals (first | exact .nilOwn (by omega) | exact .nilNo (by omega) | exact .sl (by simp []) | exact .int (by simp []) | exact .eq (by simp []))
  rintro i ⟨hi, hP⟩ J hJ
  simp (disch := omega) only [go_sem]
  refine And.intro (fun hlt => ?_) (fun hge => ?_)
  rotate_left
  have hil : i = (l).length := by simp at hge; omega
  rotate_left
  obtain ⟨b, hb⟩ : ∃ b, (l)[i]? = some b := ⟨_, List.getElem?_eq_getElem (by simp at hlt; omega)⟩
  have hbm := List.mem_of_getElem? hb
  simp (disch := omega) only [go_sem, List.getElem?_map, hb]
  · simp (disch := omega) only [go_sem, procsH]
    refine hJ _ (i + 1) ⟨by simp at hlt; omega, trivial⟩ (by simp at hlt; omega) (Imp.weak ?_ (by simp (disch := omega) only [go_sem]))
    simp (disch := omega) only [go_sem]
    exact .sl (by simp [procsH, List.take_add_one, hb, Proc.c])
  · subst hil
    refine ret_mk ⟨[], [], [1024]⟩ _ (by (try simp (disch := omega) only [go_sem, resVs, resV]) <;> rfl) ⟨rfl, rfl⟩ (by simp) ?_ trivial
    simp (disch := omega) only [go_sem, List.take_length]
theorem f219_ok (q : Queue) (p : Proc) (hl : q.holds.length ≤ 1000000) : FnOK C0 219 [.agg q.c, .agg p.c] [] (.agg (getH q.holds p).c) [] := by
  refine FnOK.intro (fn := Tryz.f219) (c := Tryz.f219.body.getD .skip) (by kernel_rfl) (by kernel_rfl) (by kernel_rfl) (by kernel_rfl) (by simp [Tryz.f219]) (by simp [names]) ?_
  unfold Tryz.f219
  simp (disch := omega) only [go_sem]
  refine call_pure (f227_ok q.holds p hl) (by simp (disch := omega) only [go_sem]) rfl ?_
  simp (disch := omega) only [go_sem]
  refine ret_mk ⟨[], [], []⟩ _ (by (try simp (disch := omega) only [go_sem, resVs, resV]) <;> rfl) ⟨rfl, rfl⟩ (by simp) ?_ trivial
  simp (disch := omega) only [go_sem]
def findW (l : List Wait) (p : Proc) : Int := match l.findIdx? (fun h => decide (h.proc = p)) with
  | some i => i
  | none => -1
theorem idx_take {α : Type} {f : α → Bool} {l : List α} {i : Nat} (h : (l.take i).find? f = none) : ∀ b, l[i]? = some b → f b = true → l.findIdx? f = some i := by
  intro b hb hf
  rw [List.findIdx?_eq_some_iff_getElem]
  have hi : i < l.length := by
    rcases Nat.lt_or_ge i l.length with h | h
    · exact h
    · rw [List.getElem?_eq_none h] at hb; cases hb
  refine ⟨hi, ?_, fun j hj => ?_⟩
  · rw [List.getElem?_eq_getElem hi] at hb
    injection hb with hb
    rw [hb]; exact hf
  · rw [List.find?_eq_none] at h
    have := h (l[j]) (by
      rw [List.mem_take_iff_getElem]
      exact ⟨j, by omega, rfl⟩)
    simpa using this
theorem f220_ok (l : List Wait) (p : Proc) (hl : l.length ≤ 1000000) : FnOK C0 220 [waitsV l, .agg p.c] [] (I (findW l p)) [] := by
  refine FnOK.intro (fn := Tryz.f220) (c := Tryz.f220.body.getD .skip) (by kernel_rfl) (by kernel_rfl) (by kernel_rfl) (by kernel_rfl) (by simp [Tryz.f220]) (by simp [names]) ?_
  unfold Tryz.f220
  simp (disch := omega) only [go_sem]
  refine loop_intro (α := Nat) (fun i => ⟨[(9, I i), (8, I l.length), (7, waitsV l), (3, .ptr 192 0)], [(192, p.c)]⟩) (fun i => i ≤ (l).length ∧ (l.take i).find? (fun h => decide (h.proc = p)) = none) (fun i => (l).length - i) 0 ⟨by omega, rfl⟩ ?_ ?_
  · refine Imp.weak ?_ ?_
    all_goals (try simp (disch := omega) only [go_sem])
    all_goals (try (repeat' (with_reducible apply And.intro)))
    all_goals (first | exact .nilOwn (by omega) | exact .nilNo (by omega) | exact .sl (by simp []) | exact .int (by simp []) | exact .eq (by simp []))
  rintro i ⟨hi, hP⟩ J hJ
  simp (disch := omega) only [go_sem]
  refine And.intro (fun hlt => ?_) (fun hge => ?_)
  rotate_left
  have hil : i = (l).length := by simp at hge; omega
  rotate_left
  obtain ⟨b, hb⟩ : ∃ b, (l)[i]? = some b := ⟨_, List.getElem?_eq_getElem (by simp at hlt; omega)⟩
  have hbm := List.mem_of_getElem? hb
  simp (disch := omega) only [go_sem, List.getElem?_map, hb]
  · refine And.intro (fun h => ?_) (fun h => ?_)
    · have e : findW l p = i := by unfold findW; rw [idx_take hP b hb (by simpa using h)]
      simp (disch := omega) only [go_sem, e]
      refine ret_mk ⟨[], [], []⟩ _ (by (try simp (disch := omega) only [go_sem, resVs, resV]) <;> rfl) ⟨rfl, rfl⟩ (by simp) ?_ trivial
      simp (disch := omega) only [go_sem]
    · refine hJ _ (i + 1) ⟨by simp at hlt; omega, (by rw [find_take hP hb]; simp at h; simp [h])⟩ (by simp at hlt; omega) (Imp.weak (by simp (disch := omega) only [go_sem]) (by simp (disch := omega) only [go_sem]))
  · subst hil
    rw [List.take_length] at hP
    have e : findW l p = -1 := by
      unfold findW
      have : l.findIdx? (fun h => decide (h.proc = p)) = none := by
        rw [List.findIdx?_eq_none_iff]
        rw [List.find?_eq_none] at hP
        intro x hx
        simpa using hP x hx
      rw [this]
    simp (disch := omega) only [go_sem, e]
    refine ret_mk ⟨[], [], []⟩ _ (by (try simp (disch := omega) only [go_sem, resVs, resV]) <;> rfl) ⟨rfl, rfl⟩ (by simp) ?_ trivial
    simp (disch := omega) only [go_sem]
def reserved (s : Bs) : Bool := s == [97, 108, 108] || s == [97, 110, 121] || s == [111, 102] || s == [112, 114, 105, 111] || s == [108, 105, 109, 105, 116]
theorem f223_ok (s : Bs) : FnOK C0 223 [.v (.string (str s))] [] (B (reserved s)) [] := by
  refine FnOK.intro (fn := Tryz.f223) (c := Tryz.f223.body.getD .skip) (by kernel_rfl) (by kernel_rfl) (by kernel_rfl) (by kernel_rfl) (by simp [Tryz.f223]) (by simp [names]) ?_
  unfold Tryz.f223
  simp (disch := omega) only [go_sem]
  repeat' (first
    | (with_reducible refine And.intro (fun h => ?_) (fun h => ?_))
)
  all_goals (refine ret_mk ⟨[], [], []⟩ _ (by (try simp (disch := omega) only [go_sem, resVs, resV]) <;> rfl) ⟨rfl, rfl⟩ (by simp) ?_ trivial)
  all_goals (try simp (disch := omega) only [go_sem])
  all_goals (refine .eq ?_)
  all_goals (first | (simp_all [reserved] <;> omega) | (refine Bool.eq_iff_iff.2 ?_; simp_all [reserved] <;> omega))
end Go.Rd
open Go Go.Abs Go.Proofs
set_option maxRecDepth 100000
namespace Go.Rd
@[go_sem] theorem str_get (l : Bs) (i : Nat) : (str l)[i]? = l[i]? := by
  show (ByteArray.mk l.toArray)[i]? = l[i]?
  by_cases h : i < l.length
  · have h1 : i < (ByteArray.mk l.toArray).size := h
    rw [getElem?_pos _ i h1, getElem?_pos _ i h]
    rfl
  · have h1 : ¬ i < (ByteArray.mk l.toArray).size := h
    rw [getElem?_neg _ i h1, getElem?_neg _ i h]
def letter (c : UInt8) : Bool := decide (97 ≤ (c.toNat : Int)) && decide ((c.toNat : Int) ≤ 122)
def other (c : UInt8) : Bool := decide (48 ≤ (c.toNat : Int)) && decide ((c.toNat : Int) ≤ 57) || (c.toNat : Int) == 95 || (c.toNat : Int) == 45
def okc (i : Nat) (c : UInt8) : Bool := letter c || (!decide (i = 0) && other c)
def allAt {α : Type} (f : Nat → α → Bool) (l : List α) : Bool := l.zipIdx.all fun x => f x.2 x.1
theorem allAt_take {α : Type} {f : Nat → α → Bool} {l : List α} {i : Nat} {b : α} (hb : l[i]? = some b) : allAt f (l.take (i + 1)) = (allAt f (l.take i) && f i b) := by
  have hi : i < l.length := by
    rcases Nat.lt_or_ge i l.length with h | h
    · exact h
    · rw [List.getElem?_eq_none h] at hb; cases hb
  simp only [allAt, List.take_add_one, hb, Option.toList_some, List.zipIdx_append, List.all_append, List.length_take]
  simp [Nat.min_eq_left (Nat.le_of_lt hi)]
theorem allAt_false {α : Type} {f : Nat → α → Bool} {l : List α} {i : Nat} {b : α} (hb : l[i]? = some b) (h : f i b = false) : allAt f l = false := by
  unfold allAt
  rw [List.all_eq_false]
  refine ⟨(b, i), ?_, by simp [h]⟩
  rw [List.mk_mem_zipIdx_iff_getElem?]
  exact hb
def nameOK (s : Bs) : Bool := decide (1 ≤ s.length) && decide (s.length ≤ 12) && !reserved s && allAt okc s
theorem f202_ok (s : Bs) : FnOK C0 202 [.v (.string (str s))] [] (B (nameOK s)) [] := by
  refine FnOK.intro (fn := Tryz.f202) (c := Tryz.f202.body.getD .skip) (by kernel_rfl) (by kernel_rfl) (by kernel_rfl) (by kernel_rfl) (by simp [Tryz.f202]) (by simp [names]) ?_
  unfold Tryz.f202
  by_cases h1 : s.length < 1
  · have e1 : ((s.length : Int) < 1) = True := by simp; omega
    simp (disch := omega) only [go_sem, e1]
    refine ret_mk ⟨[], [], []⟩ _ (by (try simp (disch := omega) only [go_sem, resVs, resV]) <;> rfl) ⟨rfl, rfl⟩ (by simp) ?_ trivial
    simp (disch := omega) only [go_sem]
    exact .eq (by simp [nameOK]; omega)
  by_cases h2 : 12 < s.length
  · have e1 : ((s.length : Int) < 1) = False := by simp; omega
    have e2 : (12 < (s.length : Int)) = True := by simp; omega
    simp (disch := omega) only [go_sem, e1, e2, decide_false]
    refine ret_mk ⟨[], [], []⟩ _ (by (try simp (disch := omega) only [go_sem, resVs, resV]) <;> rfl) ⟨rfl, rfl⟩ (by simp) ?_ trivial
    simp (disch := omega) only [go_sem]
    exact .eq (by simp [nameOK]; omega)
  have e1 : ((s.length : Int) < 1) = False := by simp; omega
  have e2 : (12 < (s.length : Int)) = False := by simp; omega
  simp (disch := omega) only [go_sem, e1, e2, decide_false]
  refine call_pure (f223_ok s) (by simp (disch := omega) only [go_sem]) rfl ?_
  simp (disch := omega) only [go_sem]
  refine And.intro (fun h => ?_) (fun h => ?_)
  · refine ret_mk ⟨[], [], []⟩ _ (by (try simp (disch := omega) only [go_sem, resVs, resV]) <;> rfl) ⟨rfl, rfl⟩ (by simp) ?_ trivial
    simp (disch := omega) only [go_sem]
    exact .eq (by simp [nameOK, h])
  refine loop_intro (α := Nat) (fun i => ⟨[(21, I i), (20, I s.length), (0, .v (.string (str s)))], []⟩) (fun i => i ≤ (s).length ∧ allAt okc (s.take i) = true) (fun i => (s).length - i) 0 ⟨by omega, rfl⟩ ?_ ?_
  · refine Imp.weak ?_ ?_
    all_goals (try simp (disch := omega) only [go_sem])
    all_goals (try (repeat' (with_reducible apply And.intro)))
    all_goals (first | exact .nilOwn (by omega) | exact .nilNo (by omega) | exact .sl (by simp []) | exact .int (by simp []) | exact .eq (by simp []))
  rintro i ⟨hi, hP⟩ J hJ
  simp (disch := omega) only [go_sem]
  refine And.intro (fun hlt => ?_) (fun hge => ?_)
  rotate_left
  have hil : i = (s).length := by simp at hge; omega
  rotate_left
  obtain ⟨b, hb⟩ : ∃ b, (s)[i]? = some b := ⟨_, List.getElem?_eq_getElem (by simp at hlt; omega)⟩
  have hbm := List.mem_of_getElem? hb
  simp (disch := omega) only [go_sem, List.getElem?_map, hb]
  · repeat' (with_reducible refine And.intro (fun h => ?_) (fun h => ?_))
    all_goals (first
      | refine hJ _ (i + 1) ⟨by simp at hlt; omega, by rw [allAt_take hb, hP]; simp_all [okc, letter, other]⟩ (by simp at hlt; omega) (Imp.weak (by simp (disch := omega) only [go_sem]) (by simp (disch := omega) only [go_sem]))
      | (have hz : okc i b = false := by (simp_all [okc, letter, other] <;> omega)
         have e : nameOK s = false := by simp [nameOK, allAt_false hb hz]
         refine ret_mk ⟨[], [], []⟩ _ rfl ⟨rfl, rfl⟩ (by simp) ?_ trivial
         simp (disch := omega) only [go_sem, e]))
  · subst hil
    rw [List.take_length] at hP
    have e : nameOK s = true := by simp [nameOK, hP, h]; omega
    simp (disch := omega) only [go_sem, e]
    refine ret_mk ⟨[], [], []⟩ _ (by (try simp (disch := omega) only [go_sem, resVs, resV]) <;> rfl) ⟨rfl, rfl⟩ (by simp) ?_ trivial
    simp (disch := omega) only [go_sem]
theorem f199_ok (r : Res) : FnOK C0 199 [.agg r.c] [] (B (nameOK r.name && r.shaped && between r.home 0 3)) [] := by
  refine FnOK.intro (fn := Tryz.f199) (c := Tryz.f199.body.getD .skip) (by kernel_rfl) (by kernel_rfl) (by kernel_rfl) (by kernel_rfl) (by simp [Tryz.f199]) (by simp [names]) ?_
  unfold Tryz.f199
  simp (disch := omega) only [go_sem]
  repeat' (first
    | (with_reducible refine And.intro (fun h => ?_) (fun h => ?_))
    | ((with_reducible show callB _ _ 202 _ _ _); refine call_pure (f202_ok r.name) ?_ rfl ?_; (focus (simp (disch := omega) only [go_sem]; done)); try simp (disch := omega) only [go_sem])
    | ((with_reducible show callB _ _ 196 _ _ _); refine call_pure (f196_ok r) ?_ rfl ?_; (focus (simp (disch := omega) only [go_sem]; done)); try simp (disch := omega) only [go_sem]))
  all_goals (refine ret_mk ⟨[], [], []⟩ _ (by (try simp (disch := omega) only [go_sem, resVs, resV]) <;> rfl) ⟨rfl, rfl⟩ (by simp) ?_ trivial)
  all_goals (try simp (disch := omega) only [go_sem])
  all_goals (refine .eq ?_)
  all_goals (first | (simp_all [between] <;> omega) | (refine Bool.eq_iff_iff.2 ?_; simp_all [between] <;> omega))
end Go.Rd
open Go Go.Abs Go.Proofs
set_option maxRecDepth 100000
namespace Go.Rd
def lockR : Res := ⟨[], 1, 1, 0⟩
def poolR : Res := ⟨[], 2, 8, 0⟩
def Wait.ok (w : Wait) : Bool := w.proc.ok && (lockR.fits w.amt || poolR.fits w.amt) && between w.prio 0 7 && between w.passed 0 3
theorem f229_ok (w : Wait) : FnOK C0 229 [.agg w.c] [] (B w.ok) [] := by
  refine FnOK.intro (fn := Tryz.f229) (c := Tryz.f229.body.getD .skip) (by kernel_rfl) (by kernel_rfl) (by kernel_rfl) (by kernel_rfl) (by simp [Tryz.f229]) (by simp [names]) ?_
  unfold Tryz.f229
  simp (disch := omega) only [go_sem]
  repeat' (first
    | (with_reducible refine And.intro (fun h => ?_) (fun h => ?_))
    | ((with_reducible show callB _ _ 69 _ _ _); refine call_pure (f69_ok w.proc) ?_ rfl ?_; (focus (simp (disch := omega) only [go_sem]; done)); try simp (disch := omega) only [go_sem])
    | ((with_reducible show callB _ _ 195 _ _ _); refine call_pure (f195_ok ⟨[], 1, 1, 0⟩ w.amt) ?_ rfl ?_; (focus (simp (disch := omega) only [go_sem]; done)); try simp (disch := omega) only [go_sem])
    | ((with_reducible show callB _ _ 195 _ _ _); refine call_pure (f195_ok ⟨[], 2, 8, 0⟩ w.amt) ?_ rfl ?_; (focus (simp (disch := omega) only [go_sem]; done)); try simp (disch := omega) only [go_sem]))
  all_goals (refine ret_mk ⟨[], [], []⟩ _ (by (try simp (disch := omega) only [go_sem, resVs, resV]) <;> rfl) ⟨rfl, rfl⟩ (by simp) ?_ trivial)
  all_goals (try simp (disch := omega) only [go_sem])
  all_goals (refine .eq ?_)
  all_goals (first | (simp_all [Wait.ok, between, lockR, poolR] <;> omega) | (refine Bool.eq_iff_iff.2 ?_; simp_all [Wait.ok, between, lockR, poolR] <;> omega))
def linePos (l : List Wait) (i : Nat) (w : Wait) : Bool := w.ok && decide (findW l w.proc = (i : Int))
def lineOK (l : List Wait) : Bool := decide (l.length ≤ 8) && allAt (linePos l) l
theorem f222_ok (l : List Wait) : FnOK C0 222 [waitsV l] [] (B (lineOK l)) [] := by
  refine FnOK.intro (fn := Tryz.f222) (c := Tryz.f222.body.getD .skip) (by kernel_rfl) (by kernel_rfl) (by kernel_rfl) (by kernel_rfl) (by simp [Tryz.f222]) (by simp [names]) ?_
  unfold Tryz.f222
  by_cases h1 : 8 < l.length
  · have e1 : (8 < (l.length : Int)) = True := by simp; omega
    simp (disch := omega) only [go_sem, e1]
    refine ret_mk ⟨[], [], []⟩ _ (by (try simp (disch := omega) only [go_sem, resVs, resV]) <;> rfl) ⟨rfl, rfl⟩ (by simp) ?_ trivial
    simp (disch := omega) only [go_sem]
    exact .eq (by simp [lineOK]; omega)
  have e1 : (8 < (l.length : Int)) = False := by simp; omega
  simp (disch := omega) only [go_sem, e1, decide_false]
  refine loop_intro (α := Nat) (fun i => ⟨[(10, I i), (9, I l.length), (8, waitsV l), (0, waitsV l)], []⟩) (fun i => i ≤ (l).length ∧ allAt (linePos l) (l.take i) = true) (fun i => (l).length - i) 0 ⟨by omega, rfl⟩ ?_ ?_
  · refine Imp.weak ?_ ?_
    all_goals (try simp (disch := omega) only [go_sem])
    all_goals (try (repeat' (with_reducible apply And.intro)))
    all_goals (first | exact .nilOwn (by omega) | exact .nilNo (by omega) | exact .sl (by simp []) | exact .int (by simp []) | exact .eq (by simp []))
  rintro i ⟨hi, hP⟩ J hJ
  simp (disch := omega) only [go_sem]
  refine And.intro (fun hlt => ?_) (fun hge => ?_)
  rotate_left
  have hil : i = (l).length := by simp at hge; omega
  rotate_left
  obtain ⟨b, hb⟩ : ∃ b, (l)[i]? = some b := ⟨_, List.getElem?_eq_getElem (by simp at hlt; omega)⟩
  have hbm := List.mem_of_getElem? hb
  simp (disch := omega) only [go_sem, List.getElem?_map, hb]
  · refine call_pure (f229_ok b) (by simp (disch := omega) only [go_sem]) rfl ?_
    cases hw : b.ok
    · have e : lineOK l = false := by simp [lineOK, allAt_false hb (show linePos l i b = false by simp [linePos, hw])]
      simp (disch := omega) only [go_sem, Bool.not_false, e]
      refine ret_mk ⟨[], [], []⟩ _ (by (try simp (disch := omega) only [go_sem, resVs, resV]) <;> rfl) ⟨rfl, rfl⟩ (by simp) ?_ trivial
      simp (disch := omega) only [go_sem]
    simp (disch := omega) only [go_sem, Bool.not_true]
    refine call_pure (f220_ok l b.proc (by omega)) (by simp (disch := omega) only [go_sem]) rfl ?_
    simp (disch := omega) only [go_sem]
    refine And.intro (fun h => ?_) (fun h => ?_)
    · have e : lineOK l = false := by simp [lineOK, allAt_false hb (show linePos l i b = false by simp at h; simp [linePos, h])]
      simp (disch := omega) only [go_sem, e]
      refine ret_mk ⟨[], [], []⟩ _ (by (try simp (disch := omega) only [go_sem, resVs, resV]) <;> rfl) ⟨rfl, rfl⟩ (by simp) ?_ trivial
      simp (disch := omega) only [go_sem]
    · refine hJ _ (i + 1) ⟨by simp at hlt; omega, (by rw [allAt_take hb, hP]; simp at h; simp [linePos, hw, h])⟩ (by simp at hlt; omega) (Imp.weak (by simp (disch := omega) only [go_sem]) (by simp (disch := omega) only [go_sem]))
  · subst hil
    rw [List.take_length] at hP
    have e : lineOK l = true := by simp [lineOK, hP]; omega
    simp (disch := omega) only [go_sem, e]
    refine ret_mk ⟨[], [], []⟩ _ (by (try simp (disch := omega) only [go_sem, resVs, resV]) <;> rfl) ⟨rfl, rfl⟩ (by simp) ?_ trivial
    simp (disch := omega) only [go_sem]
def dropW (l : List Wait) (p : Proc) : List Wait := l.filter fun w => decide (w.proc ≠ p)
theorem f181_ok (l : List Wait) (p : Proc) (hl : l.length ≤ 1000000) : FnOK C0 181 [waitsV l, .agg p.c] [] (.tup [waitsV (dropW l p), B (decide ((dropW l p).length < l.length))]) [] := by
  refine FnOK.intro (fn := Tryz.f181) (c := Tryz.f181.body.getD .skip) (by kernel_rfl) (by kernel_rfl) (by kernel_rfl) (by kernel_rfl) (by simp [Tryz.f181]) (by simp [names]) ?_
  unfold Tryz.f181
  simp (disch := omega) only [go_sem]
  refine loop_intro (α := Nat) (fun i => ⟨[(11, I i), (10, I l.length), (9, waitsV l), (0, waitsV l), (3, .ptr 192 0), (6, .sl (.own 1408 0) 7 ((dropW (l.take i) p).map Wait.c))], [(192, p.c)]⟩) (fun i => i ≤ (l).length ∧ (dropW (l.take i) p).length ≤ i) (fun i => (l).length - i) 0 ⟨by omega, (by simp [dropW])⟩ ?_ ?_
  · refine Imp.weak ?_ ?_
    all_goals (try simp (disch := omega) only [go_sem])
    all_goals (try (repeat' (with_reducible apply And.intro)))
    all_goals (first | exact .nilOwn (by omega) | exact .nilNo (by omega) | exact .sl (by simp []) | exact .int (by simp []) | exact .eq (by simp []))
  rintro i ⟨hi, hP⟩ J hJ
  simp (disch := omega) only [go_sem]
  refine And.intro (fun hlt => ?_) (fun hge => ?_)
  rotate_left
  have hil : i = (l).length := by simp at hge; omega
  rotate_left
  obtain ⟨b, hb⟩ : ∃ b, (l)[i]? = some b := ⟨_, List.getElem?_eq_getElem (by simp at hlt; omega)⟩
  have hbm := List.mem_of_getElem? hb
  simp (disch := omega) only [go_sem, List.getElem?_map, hb]
  · refine And.intro (fun h => ?_) (fun h => ?_)
    · refine hJ _ (i + 1) ⟨by simp at hlt; omega, ?_⟩ (by simp at hlt; omega) (Imp.weak ?_ (by simp (disch := omega) only [go_sem]))
      · simp at h; simp [dropW, List.take_add_one, hb, h]
        simp [dropW] at hP; omega
      · simp (disch := omega) only [go_sem]
        exact .sl (by simp at h; simp [dropW, List.take_add_one, hb, h, Wait.c])
    · refine hJ _ (i + 1) ⟨by simp at hlt; omega, ?_⟩ (by simp at hlt; omega) (Imp.weak ?_ (by simp (disch := omega) only [go_sem]))
      · simp at h; simp [dropW, List.take_add_one, hb, h]
        simp [dropW] at hP; omega
      · simp (disch := omega) only [go_sem]
        exact .sl (by simp at h; simp [dropW, List.take_add_one, hb, h])
  · subst hil
    rw [List.take_length] at hP
    refine ret_mk ⟨[], [], [1408]⟩ _ rfl ⟨rfl, rfl⟩ (by simp) ?_ trivial
    simp (disch := omega) only [go_sem, List.take_length]
    exact .eq (by simp)
theorem bools_all (l : List Bool) (n : Nat) (h : l.length = n) : (boolsC l).take n = boolsC l := List.take_of_length_le (by simp [boolsC, h])
theorem bools_set (l : List Bool) (k : Nat) (x : Bool) (h : k < l.length) : (boolsC l).take k ++ [.v (.bool x)] ++ (boolsC l).drop (k + 1) = boolsC (l.set k x) := by
  rw [List.set_eq_take_append_cons_drop, if_pos h]
  simp [boolsC]
def seenOK (seen : List Bool) (m : Int) : Bool := (List.range 6).all fun k => !seen.getD k false || compatM k m
def compatL (r : Res) : List Amt → Int → List Bool → Bool
  | [], _, _ => true
  | a :: l, s, seen => r.permits a && !decide (r.units < s + a.units) && (if a.mode = 0 then compatL r l (s + a.units) seen else seenOK seen a.mode && compatL r l (s + a.units) (seen.set a.mode.toNat true))
def no6 : List Bool := [false, false, false, false, false, false]
def Res.compat (r : Res) (l : List Amt) : Bool := r.shaped && compatL r l 0 no6
theorem shaped_units {r : Res} (h : r.shaped = true) : 1 ≤ r.units ∧ r.units ≤ 8 := by
  simp only [Res.shaped] at h
  split at h
  · simp at h; omega
  · split at h
    · simp [between] at h; omega
    · cases h
theorem permits_amt {r : Res} {a : Amt} (h : r.permits a = true) : 0 ≤ a.units ∧ a.units ≤ 8 ∧ (a.mode = 0 ∨ modeOK a.mode = true) := by
  simp only [Res.permits, Bool.and_eq_true, Bool.or_eq_true] at h
  obtain ⟨h1, h2 | h2⟩ := h
  · simp [Amt.zero] at h2
    omega
  · simp only [Res.fits, Bool.and_eq_true] at h2
    obtain ⟨_, h3⟩ := h2
    split at h3
    · simp at h3
      obtain ⟨h3, h4⟩ := h3
      exact ⟨by omega, by omega, .inr h3⟩
    · simp [between] at h3
      have := shaped_units h1
      omega
theorem f152_ok (r : Res) (l : List Amt) (hl : l.length ≤ 1000000) : FnOK C0 152 [.agg r.c, amtsV l] [] (B (r.compat l)) [] := by
  refine FnOK.intro (fn := Tryz.f152) (c := Tryz.f152.body.getD .skip) (by kernel_rfl) (by kernel_rfl) (by kernel_rfl) (by kernel_rfl) (by simp [Tryz.f152]) (by simp [names]) ?_
  unfold Tryz.f152
  simp (disch := omega) only [go_sem]
  refine call_pure (f196_ok r) (by simp (disch := omega) only [go_sem]) rfl ?_
  cases hs : r.shaped
  · have e : r.compat l = false := by simp [Res.compat, hs]
    simp (disch := omega) only [go_sem, Bool.not_false, e]
    refine ret_mk ⟨[], [], []⟩ _ (by (try simp (disch := omega) only [go_sem, resVs, resV]) <;> rfl) ⟨rfl, rfl⟩ (by simp) ?_ trivial
    simp (disch := omega) only [go_sem]
  obtain ⟨hu1, hu2⟩ := shaped_units hs
  have hcomp : r.compat l = compatL r l 0 no6 := by simp [Res.compat, hs]
  simp (disch := omega) only [go_sem, Bool.not_true]
  refine loop_intro (α := Nat × Int × List Bool) (fun q => ⟨[(17, I q.1), (16, I l.length), (15, amtsV l), (7, I q.2.1), (6, .ptr 384 0), (5, B true), (2, .ptr 128 0)], [(384, boolsC q.2.2), (128, r.c)]⟩)
    (fun q => q.1 ≤ l.length ∧ q.2.2.length = 6 ∧ 0 ≤ q.2.1 ∧ q.2.1 ≤ 8 ∧ compatL r (l.drop q.1) q.2.1 q.2.2 = compatL r l 0 no6) (fun q => l.length - q.1) (0, 0, no6) ⟨by simp, rfl, by simp, by simp, by simp⟩ ?_ ?_
  · refine Imp.weak ?_ ?_
    · simp (disch := omega) only [go_sem]
    · simp (disch := omega) only [go_sem, boolsC, no6]
  rintro ⟨i, sum, seen⟩ ⟨hi, hsl, hs0, hs8, hc⟩ J hJ
  replace hi : i ≤ l.length := hi
  replace hsl : seen.length = 6 := hsl
  replace hs0 : 0 ≤ sum := hs0
  replace hs8 : sum ≤ 8 := hs8
  replace hc : compatL r (l.drop i) sum seen = compatL r l 0 no6 := hc
  simp (disch := omega) only [go_sem]
  refine And.intro (fun hlt => ?_) (fun hge => ?_)
  · have hlt' : i < l.length := by simp at hlt; omega
    obtain ⟨b, hb⟩ : ∃ b, l[i]? = some b := ⟨_, List.getElem?_eq_getElem hlt'⟩
    have hd : l.drop i = b :: l.drop (i + 1) := by
      rw [List.drop_eq_getElem_cons hlt']
      rw [List.getElem?_eq_getElem hlt'] at hb
      injection hb with hb
      rw [hb]
    rw [hd] at hc
    simp only [compatL] at hc
    simp (disch := omega) only [go_sem, List.getElem?_map, hb]
    refine call_pure (f197_ok r b) (by simp (disch := omega) only [go_sem]) rfl ?_
    cases hp : r.permits b
    · have e : r.compat l = false := by rw [hcomp, ← hc, hp]; rfl
      simp (disch := omega) only [go_sem, Bool.not_false, e]
      refine ret_mk ⟨[], [], []⟩ _ (by (try simp (disch := omega) only [go_sem, resVs, resV]) <;> rfl) ⟨rfl, rfl⟩ (by simp) ?_ trivial
      simp (disch := omega) only [go_sem]
    obtain ⟨hb0, hb8, hbm⟩ := permits_amt hp
    by_cases hgt : r.units < sum + b.units
    · have e : r.compat l = false := by rw [hcomp, ← hc, hp]; simp [hgt]
      simp (disch := omega) only [go_sem, Bool.not_true, e, hgt]
      refine ret_mk ⟨[], [], []⟩ _ (by (try simp (disch := omega) only [go_sem, resVs, resV]) <;> rfl) ⟨rfl, rfl⟩ (by simp) ?_ trivial
      simp (disch := omega) only [go_sem]
    rw [hp] at hc
    by_cases hm : b.mode = 0
    · have hm' : (b.mode == 0) = true := by simp [hm]
      simp (disch := omega) only [go_sem, Bool.not_true, hgt, decide_false, hm']
      refine hJ _ (i + 1, sum + b.units, seen) ⟨by simp; omega, hsl, by simp; omega, by simp; omega, ?_⟩ (by simp; omega) (Imp.weak (by simp (disch := omega) only [go_sem]) (by simp (disch := omega) only [go_sem]))
      simpa [hgt, hm] using hc
    have hm' : (b.mode == 0) = false := by simp [hm]
    have hmo : modeOK b.mode = true := by
      rcases hbm with h | h
      · exact absurd h hm
      · exact h
    have hmc := mode_cases hmo
    have hcs : (seenOK seen b.mode && compatL r (l.drop (i + 1)) (sum + b.units) (seen.set b.mode.toNat true)) = compatL r l 0 no6 := by simpa [hgt, hm] using hc
    simp (disch := omega) only [go_sem, Bool.not_true, hgt, decide_false, hm', hsl, bools_all]
    refine loop_intro (α := Nat) (fun k => ⟨[(42, I k), (41, .agg (boolsC seen)), (9, .ptr 576 0), (17, I i), (16, I l.length), (15, amtsV l), (7, I (sum + b.units)), (6, .ptr 384 0), (5, B true), (2, .ptr 128 0)], [(576, b.c), (384, boolsC seen), (128, r.c)]⟩)
      (fun k => k ≤ 6 ∧ (List.range k).all (fun j => !seen.getD j false || compatM j b.mode) = true) (fun k => 6 - k) 0 ⟨by omega, rfl⟩ ?_ ?_
    · refine Imp.weak ?_ ?_
      · simp (disch := omega) only [go_sem]
      · simp (disch := omega) only [go_sem]
    rintro k ⟨hk, hka⟩ J2 hJ2
    by_cases hk6 : k < 6
    · have hk6' : ((k : Int) < 6) = True := by simp; omega
      have hno : seen.getD k false = true → compatM k b.mode = false → r.compat l = false := fun h1 h2 => by
        have : seenOK seen b.mode = false := by
          unfold seenOK
          rw [List.all_eq_false]
          exact ⟨k, List.mem_range.2 (by omega), by rw [h1, h2]; decide⟩
        rw [hcomp, ← hcs, this]; rfl
      have hyes : (!seen.getD k false || compatM k b.mode) = true → (List.range (k + 1)).all (fun j => !seen.getD j false || compatM j b.mode) = true := fun h => by
        rw [List.range_succ, List.all_append, hka]
        simpa using h
      simp (disch := omega) only [go_sem, hk6', hsl, bools_one, Nat.mul_one]
      refine And.intro (fun h => ?_) (fun h => ?_)
      · refine call_pure (f198_ok k b.mode) (by simp (disch := omega) only [go_sem]) rfl ?_
        cases hcm : compatM k b.mode
        · simp (disch := omega) only [go_sem, Bool.not_false, hno h hcm]
          refine ret_mk ⟨[], [], []⟩ _ (by (try simp (disch := omega) only [go_sem, resVs, resV]) <;> rfl) ⟨rfl, rfl⟩ (by simp) ?_ trivial
          simp (disch := omega) only [go_sem]
        · simp (disch := omega) only [go_sem, Bool.not_true]
          refine hJ2 _ (k + 1) ⟨by omega, hyes (by rw [hcm]; simp)⟩ (by omega) (Imp.weak (by simp (disch := omega) only [go_sem]) (by simp (disch := omega) only [go_sem]))
      · refine hJ2 _ (k + 1) ⟨by omega, hyes (by rw [h]; rfl)⟩ (by omega) (Imp.weak (by simp (disch := omega) only [go_sem]) (by simp (disch := omega) only [go_sem]))
    · have hk6' : ((k : Int) < 6) = False := by simp; omega
      have hke : k = 6 := by omega
      subst hke
      have hso : seenOK seen b.mode = true := hka
      rw [hso] at hcs
      have hm6 : (b.mode < 6) = True := by simp; omega
      have hm0 : (0 ≤ b.mode) = True := by simp; omega
      simp (disch := omega) only [go_sem, hk6', decide_false, hm6, hm0, hsl, Nat.mul_one, bools_set]
      refine hJ _ (i + 1, sum + b.units, seen.set b.mode.toNat true) ⟨by simp; omega, by simp [hsl], by simp; omega, by simp; omega, by simpa using hcs⟩ (by simp; omega) (Imp.weak (by simp (disch := omega) only [go_sem]) (by simp (disch := omega) only [go_sem]))
  · have hil : i = l.length := by simp at hge; omega
    subst hil
    rw [List.drop_length] at hc
    have e : r.compat l = true := by rw [hcomp, ← hc]; rfl
    simp (disch := omega) only [go_sem, e]
    refine ret_mk ⟨[], [], []⟩ _ (by (try simp (disch := omega) only [go_sem, resVs, resV]) <;> rfl) ⟨rfl, rfl⟩ (by simp) ?_ trivial
    simp (disch := omega) only [go_sem]
end Go.Rd
open Go Go.Abs Go.Proofs
set_option maxRecDepth 100000
namespace Go.Rd
def p0 : Proc := ⟨0, 0, 0⟩
def h0 : Hold := ⟨⟨0, 0, 0⟩, ⟨0, 0⟩⟩
def holdPos (r : Res) (l : List Hold) (i : Nat) (h : Hold) : Bool := h.proc.ok && r.fits h.amt && (decide (i = 0) || decide (cmpP (l.getD (i - 1) h0).proc h.proc < 0))
def holdsOK (r : Res) (l : List Hold) : Bool := r.shaped && decide (l.length ≤ 8) && allAt (holdPos r l) l && r.compat (l.map (·.amt))
theorem f194_ok (r : Res) (l : List Hold) : FnOK C0 194 [.agg r.c, holdsV l] [] (B (holdsOK r l)) [] := by
  refine FnOK.intro (fn := Tryz.f194) (c := Tryz.f194.body.getD .skip) (by kernel_rfl) (by kernel_rfl) (by kernel_rfl) (by kernel_rfl) (by simp [Tryz.f194]) (by simp [names]) ?_
  unfold Tryz.f194
  simp (disch := omega) only [go_sem]
  refine call_pure (f196_ok r) (by simp (disch := omega) only [go_sem]) rfl ?_
  cases hs : r.shaped
  · have e : holdsOK r l = false := by simp [holdsOK, hs]
    simp (disch := omega) only [go_sem, Bool.not_false, e]
    refine ret_mk ⟨[], [], []⟩ _ (by (try simp (disch := omega) only [go_sem, resVs, resV]) <;> rfl) ⟨rfl, rfl⟩ (by simp) ?_ trivial
    simp (disch := omega) only [go_sem]
  by_cases h8 : 8 < l.length
  · have e1 : (8 < (l.length : Int)) = True := by simp; omega
    have e : holdsOK r l = false := by simp [holdsOK]; omega
    simp (disch := omega) only [go_sem, Bool.not_true, e1, e]
    refine ret_mk ⟨[], [], []⟩ _ (by (try simp (disch := omega) only [go_sem, resVs, resV]) <;> rfl) ⟨rfl, rfl⟩ (by simp) ?_ trivial
    simp (disch := omega) only [go_sem]
  have e1 : (8 < (l.length : Int)) = False := by simp; omega
  simp (disch := omega) only [go_sem, Bool.not_true, e1, decide_false]
  refine loop_intro (α := Nat) (fun i => ⟨[(18, I i), (17, I l.length), (16, holdsV l), (1, holdsV l), (2, .ptr 128 0), (5, .sl (.own 3328 0) 2 ((l.take i).map fun h => h.amt.c))], [(128, r.c)]⟩) (fun i => i ≤ (l).length ∧ allAt (holdPos r l) (l.take i) = true) (fun i => (l).length - i) 0 ⟨by omega, rfl⟩ ?_ ?_
  · refine Imp.weak ?_ ?_
    all_goals (try simp (disch := omega) only [go_sem])
    all_goals (try (repeat' (with_reducible apply And.intro)))
    all_goals (first | exact .nilOwn (by omega) | exact .nilNo (by omega) | exact .sl (by simp []) | exact .int (by simp []) | exact .eq (by simp []))
  rintro i ⟨hi, hP⟩ J hJ
  simp (disch := omega) only [go_sem]
  refine And.intro (fun hlt => ?_) (fun hge => ?_)
  rotate_left
  have hil : i = (l).length := by simp at hge; omega
  rotate_left
  obtain ⟨b, hb⟩ : ∃ b, (l)[i]? = some b := ⟨_, List.getElem?_eq_getElem (by simp at hlt; omega)⟩
  have hbm := List.mem_of_getElem? hb
  simp (disch := omega) only [go_sem, List.getElem?_map, hb]
  · refine call_pure (f69_ok b.proc) (by simp (disch := omega) only [go_sem]) rfl ?_
    have bad : holdPos r l i b = false → holdsOK r l = false := fun h => by simp [holdsOK, allAt_false hb h]
    cases hp : b.proc.ok
    · simp (disch := omega) only [go_sem, Bool.not_false, bad (by simp [holdPos, hp])]
      refine ret_mk ⟨[], [], []⟩ _ (by (try simp (disch := omega) only [go_sem, resVs, resV]) <;> rfl) ⟨rfl, rfl⟩ (by simp) ?_ trivial
      simp (disch := omega) only [go_sem]
    simp (disch := omega) only [go_sem, Bool.not_true]
    refine call_pure (f195_ok r b.amt) (by simp (disch := omega) only [go_sem]) rfl ?_
    cases hf : r.fits b.amt
    · simp (disch := omega) only [go_sem, Bool.not_false, bad (by simp [holdPos, hf])]
      refine ret_mk ⟨[], [], []⟩ _ (by (try simp (disch := omega) only [go_sem, resVs, resV]) <;> rfl) ⟨rfl, rfl⟩ (by simp) ?_ trivial
      simp (disch := omega) only [go_sem]
    simp (disch := omega) only [go_sem, Bool.not_true]
    refine draw_mk 11 [([], [6]), ([0], [34]), ([0, 1], [35]), ([0, 1, 2], [1, 36]), ([0, 1, 2], [6, 36]), ([0, 1, 2, 4], [38, 36]), ([0, 1, 2, 3, 4, 5], [37, 39, 36]), ([0, 1, 2, 3, 4, 5, 6], [40, 36]), ([0, 1, 2, 3, 4, 5, 6, 7], [41, 36]), ([0, 1, 2], [7, 36]), ([0, 1, 2, 9], [43, 36]), ([0, 1, 2, 3, 4, 5, 6, 7, 8, 9, 10], []), ([0, 1, 2, 3, 4, 5, 6, 7, 8, 9, 10, 11], []), ([0, 1, 2, 3, 4, 5, 6, 7, 8, 9, 10, 11, 12], [])] fol (by kernel_rfl) ?_
    have good : (decide (i = 0) || decide (cmpP (l.getD (i - 1) h0).proc b.proc < 0)) = true → allAt (holdPos r l) (l.take (i + 1)) = true := fun h => by
      rw [allAt_take hb, hP]
      simp only [holdPos, hp, hf, h]
      rfl
    by_cases hi0 : i = 0
    · subst hi0
      simp (disch := omega) only [go_sem]
      refine hJ _ 1 ⟨by simp at hlt; omega, good (by simp)⟩ (by simp at hlt; omega) (Imp.weak ?_ (by simp (disch := omega) only [go_sem]))
      simp (disch := omega) only [go_sem]
      exact .sl (by simp [List.take_one, List.head?_eq_getElem?, hb, Amt.c])
    · have hi1 : (0 < (i : Int)) = True := by simp; omega
      have hi2 : ((i : Int) - 1) = ((i - 1 : Nat) : Int) := by omega
      obtain ⟨a, ha⟩ : ∃ a, l[i - 1]? = some a := ⟨_, List.getElem?_eq_getElem (by simp at hlt; omega)⟩
      have had : l.getD (i - 1) h0 = a := by simp [List.getD, ha]
      simp (disch := omega) only [go_sem, hi1, hi2, List.getElem?_map, ha]
      refine call_pure (f71_ok a.proc b.proc) (by simp (disch := omega) only [go_sem]) rfl ?_
      simp (disch := omega) only [go_sem]
      by_cases hc : 0 ≤ cmpP a.proc b.proc
      · have e : holdsOK r l = false := bad (by simp only [holdPos, had]; simp [hi0]; omega)
        simp (disch := omega) only [go_sem, hc, e]
        refine ret_mk ⟨[], [], []⟩ _ (by (try simp (disch := omega) only [go_sem, resVs, resV]) <;> rfl) ⟨rfl, rfl⟩ (by simp) ?_ trivial
        simp (disch := omega) only [go_sem]
      · simp (disch := omega) only [go_sem, hc, decide_false]
        refine hJ _ (i + 1) ⟨by simp at hlt; omega, good (by rw [had]; simp; omega)⟩ (by simp at hlt; omega) (Imp.weak ?_ (by simp (disch := omega) only [go_sem]))
        simp (disch := omega) only [go_sem]
        exact .sl (by simp [List.take_add_one, hb, Amt.c])
  · subst hil
    rw [List.take_length] at hP
    have ee : holdsOK r l = r.compat (l.map (·.amt)) := by simp [holdsOK, hs, hP]; omega
    refine call_lent [3328] (f152_ok r (l.map (·.amt)) (by simp; omega)) ?_ rfl trivial ?_
    · simp (disch := omega) only [go_sem, List.take_length]
      exact .sl (by simp [Amt.c])
    rw [ee]
    simp (disch := omega) only [go_sem]
    refine ret_mk ⟨[], [], []⟩ _ (by (try simp (disch := omega) only [go_sem, resVs, resV]) <;> rfl) ⟨rfl, rfl⟩ (by simp) ?_ trivial
    simp (disch := omega) only [go_sem]
end Go.Rd
open Go Go.Abs Go.Proofs
set_option maxRecDepth 100000
namespace Go.Rd
theorem f150_ok (r : Res) (l : List Hold) (p : Proc) (a : Amt) : FnOK C0 150 [.agg r.c, holdsV l, .agg p.c, .agg a.c] [] (B (holdsOK r l && p.ok && r.fits a)) [] := by
  refine FnOK.intro (fn := Tryz.f150) (c := Tryz.f150.body.getD .skip) (by kernel_rfl) (by kernel_rfl) (by kernel_rfl) (by kernel_rfl) (by simp [Tryz.f150]) (by simp [names]) ?_
  unfold Tryz.f150
  simp (disch := omega) only [go_sem]
  repeat' (first
    | (with_reducible refine And.intro (fun h => ?_) (fun h => ?_))
    | ((with_reducible show callB _ _ 194 _ _ _); refine call_pure (f194_ok r l) ?_ rfl ?_; (focus (simp (disch := omega) only [go_sem]; done)); try simp (disch := omega) only [go_sem])
    | ((with_reducible show callB _ _ 69 _ _ _); refine call_pure (f69_ok p) ?_ rfl ?_; (focus (simp (disch := omega) only [go_sem]; done)); try simp (disch := omega) only [go_sem])
    | ((with_reducible show callB _ _ 195 _ _ _); refine call_pure (f195_ok r a) ?_ rfl ?_; (focus (simp (disch := omega) only [go_sem]; done)); try simp (disch := omega) only [go_sem]))
  all_goals (refine ret_mk ⟨[], [], []⟩ _ (by (try simp (disch := omega) only [go_sem, resVs, resV]) <;> rfl) ⟨rfl, rfl⟩ (by simp) ?_ trivial)
  all_goals (try simp (disch := omega) only [go_sem])
  all_goals (refine .eq ?_)
  all_goals (first | (simp_all [] <;> omega) | (refine Bool.eq_iff_iff.2 ?_; simp_all [] <;> omega))
def w0 : Wait := ⟨⟨0, 0, 0⟩, ⟨0, 0⟩, 0, 0⟩
def headQ (q : Queue) : Option Wait := match q.convs ++ q.waits with
  | w :: _ => some w
  | [] => none
theorem f162_ok (q : Queue) : FnOK C0 162 [.agg q.c] [] (.tup [.agg ((headQ q).getD w0).c, B (headQ q).isSome]) [] := by
  refine FnOK.intro (fn := Tryz.f162) (c := Tryz.f162.body.getD .skip) (by kernel_rfl) (by kernel_rfl) (by kernel_rfl) (by kernel_rfl) (by simp [Tryz.f162]) (by simp [names]) ?_
  unfold Tryz.f162
  match hq : q.convs, hw : q.waits with
  | w :: l, _ =>
    have e : headQ q = some w := by simp [headQ, hq]
    have e1 : (0 < (l.length : Int) + 1) = True := by simp
    simp (disch := omega) only [go_sem, hq, e, e1, Option.isSome_some]
    refine ret_mk ⟨[], [], []⟩ _ (by (try simp (disch := omega) only [go_sem, resVs, resV]) <;> rfl) ⟨rfl, rfl⟩ (by simp) ?_ trivial
    simp (disch := omega) only [go_sem]
  | [], w :: l =>
    have e : headQ q = some w := by simp [headQ, hq, hw]
    have e1 : (0 < (l.length : Int) + 1) = True := by simp
    simp (disch := omega) only [go_sem, hq, hw, e, e1, Option.isSome_some]
    refine ret_mk ⟨[], [], []⟩ _ (by (try simp (disch := omega) only [go_sem, resVs, resV]) <;> rfl) ⟨rfl, rfl⟩ (by simp) ?_ trivial
    simp (disch := omega) only [go_sem]
  | [], [] =>
    have e : headQ q = none := by simp [headQ, hq, hw]
    simp (disch := omega) only [go_sem, hq, hw, e, Option.isSome_none, w0]
    refine ret_mk ⟨[], [], []⟩ _ (by (try simp (disch := omega) only [go_sem, resVs, resV]) <;> rfl) ⟨rfl, rfl⟩ (by simp) ?_ trivial
    simp (disch := omega) only [go_sem]
theorem f176_ok (q : Queue) (h1 : q.holds.length ≤ 1000000) (h2 : q.convs.length ≤ 1000000) (h3 : q.waits.length ≤ 1000000) : FnOK C0 176 [.agg q.c] [] (.agg q.c) [] := by
  refine FnOK.intro (fn := Tryz.f176) (c := Tryz.f176.body.getD .skip) (by kernel_rfl) (by kernel_rfl) (by kernel_rfl) (by kernel_rfl) (by simp [Tryz.f176]) (by simp [names]) ?_
  unfold Tryz.f176
  simp (disch := omega) only [go_sem]
  refine ret_mk ⟨[], [], [320, 576, 832]⟩ _ (by (try simp (disch := omega) only [go_sem, resVs, resV]) <;> rfl) ⟨rfl, rfl⟩ (by simp) ?_ trivial
  simp (disch := omega) only [go_sem, holdsV]
end Go.Rd
/- What the lengths of slices that come in are at most. -/
namespace Go.Abs
mutual
def lens : AV → Prop
  | .sl _ _ es => es.length ≤ 9223372036854775807
  | .agg cs => lensL cs
  | _ => True
def lensL : List AV → Prop
  | [] => True
  | c :: cs => lens c ∧ lensL cs
end
mutual
theorem VR.lens {g : Gh} {w : World} : ∀ (x : AV) (u : Value), VR g w x u → lens x
  | .sl (.own r lo) n es, u, h => by
    simp only [VR, OwnSl] at h
    simp only [Abs.lens]
    rcases h.2 with ⟨_, h2⟩ | ⟨_, h2, _⟩ | ⟨cap, cur, T, _, h2, h3, _⟩
    · subst h2; simp
    · subst h2; simp
    · simp only [maxLen] at h3; omega
  | .sl .no n es, u, h => by
    simp only [VR, PR] at h
    simp only [Abs.lens]
    obtain ⟨_, a, cap, _, h2, h3, _⟩ := h
    simp only [maxLen] at h3; omega
  | .sl .full n es, u, h => by
    simp only [VR, PR] at h
    simp only [Abs.lens]
    obtain ⟨_, a, cap, _, h2, h3, _⟩ := h
    simp only [maxLen] at h3; omega
  | .agg cs, u, h => by
    simp only [VR] at h
    simp only [Abs.lens]
    obtain ⟨us, _, h⟩ := h
    exact VRs.lens cs us.toList h
  | .undef, _, _ => by simp [Abs.lens]
  | .v _, _, _ => by simp [Abs.lens]
  | .tup _, _, _ => by simp [Abs.lens]
  | .ptr _ _, _, _ => by simp [Abs.lens]
  | .ep _ _ _ _, _, _ => by simp [Abs.lens]
  | .fn _ _, _, _ => by simp [Abs.lens]
  | .mv _ _, _, _ => by simp [Abs.lens]
  | .mp _, _, _ => by simp [Abs.lens]
  | .ifc _ _, _, _ => by simp [Abs.lens]
  | .hnd _ _ _ _ _ _ _, _, _ => by simp [Abs.lens]
  | .mem _ _, _, _ => by simp [Abs.lens]
theorem VRs.lens {g : Gh} {w : World} : ∀ (xs : List AV) (us : List Value), VRs g w xs us → lensL xs
  | [], _, _ => by simp [Abs.lensL]
  | c :: cs, [], h => by simp [VRs] at h
  | c :: cs, u :: us, h => by
    simp only [VRs] at h
    simp only [Abs.lensL]
    exact ⟨VR.lens c u h.1, VRs.lens cs us h.2⟩
end
/-- a contract may count on the lengths of what comes in -/
theorem FnOK.assume {C : Ctx} {f : Nat} {fn : Func} {c : Code} {xs : List AV} {o o' : List (Nat × List AV)} {y : AV} (hf : C.P.funcs[f]? = some fn) (hname : (fn.name == "runtime.NumGoroutine") = false) (hb : fn.body = some c)
    (h : lensL xs → FnOK C f xs o y o') : FnOK C f xs o y o' :=
  ⟨⟨fn, c, hf, hname, hb⟩, fun g w us hg hv ho => (h (VRs.lens xs us hv)).2 g w us hg hv ho⟩
end Go.Abs
open Go Go.Abs Go.Proofs
set_option maxRecDepth 100000
namespace Go.Rd
theorem f164_ok (a : Atom) : FnOK C0 164 [.agg a.c] [] (B (nameOK a.name && (lockR.fits a.amt || poolR.fits a.amt))) [] := by
  refine FnOK.intro (fn := Tryz.f164) (c := Tryz.f164.body.getD .skip) (by kernel_rfl) (by kernel_rfl) (by kernel_rfl) (by kernel_rfl) (by simp [Tryz.f164]) (by simp [names]) ?_
  unfold Tryz.f164
  simp (disch := omega) only [go_sem]
  repeat' (first
    | (with_reducible refine And.intro (fun h => ?_) (fun h => ?_))
    | ((with_reducible show callB _ _ 202 _ _ _); refine call_pure (f202_ok a.name) ?_ rfl ?_; (focus (simp (disch := omega) only [go_sem]; done)); try simp (disch := omega) only [go_sem])
    | ((with_reducible show callB _ _ 195 _ _ _); refine call_pure (f195_ok ⟨[], 1, 1, 0⟩ a.amt) ?_ rfl ?_; (focus (simp (disch := omega) only [go_sem]; done)); try simp (disch := omega) only [go_sem])
    | ((with_reducible show callB _ _ 195 _ _ _); refine call_pure (f195_ok ⟨[], 2, 8, 0⟩ a.amt) ?_ rfl ?_; (focus (simp (disch := omega) only [go_sem]; done)); try simp (disch := omega) only [go_sem]))
  all_goals (refine ret_mk ⟨[], [], []⟩ _ (by (try simp (disch := omega) only [go_sem, resVs, resV]) <;> rfl) ⟨rfl, rfl⟩ (by simp) ?_ trivial)
  all_goals (try simp (disch := omega) only [go_sem])
  all_goals (refine .eq ?_)
  all_goals (first | (simp_all [lockR, poolR] <;> omega) | (refine Bool.eq_iff_iff.2 ?_; simp_all [lockR, poolR] <;> omega))
mutual
def meas : Expr → Int → Int → Int × Int
  | .mk _ _ kids, lv, n => if 4 < lv ∨ 24 < n + 1 then (0, n + 1) else measL kids lv (n + 1) 0
def measL : List Expr → Int → Int → Int → Int × Int
  | [], _, n, d => (d + 1, n)
  | e :: l, lv, n, d => if (meas e (lv + 1) n).1 = 0 then (0, (meas e (lv + 1) n).2) else measL l lv (meas e (lv + 1) n).2 (max d (meas e (lv + 1) n).1)
end
theorem meas_def (e : Expr) (lv n : Int) : meas e lv n = if 4 < lv ∨ 24 < n + 1 then (0, n + 1) else measL e.kids lv (n + 1) 0 := by
  cases e; simp [meas, Expr.kids]
theorem kid_lt {e k : Expr} (h : k ∈ e.kids) : SizeOf.sizeOf k < SizeOf.sizeOf e := by
  cases e with
  | mk a b l =>
    have h : k ∈ l := h
    have := List.sizeOf_lt_of_mem h
    simp
    omega
def bd (lv : Int) (x : Int × Int) : Prop := 0 ≤ x.1 ∧ x.1 ≤ 6 - lv ∧ 0 ≤ x.2 ∧ x.2 ≤ 25 ∧ (x.1 ≠ 0 → x.2 ≤ 24)
theorem measL_bd (lv : Int) (h1 : 1 ≤ lv) (h4 : lv ≤ 4) : ∀ (l : List Expr) (n d : Int), (∀ e ∈ l, ∀ n : Int, 0 ≤ n → n ≤ 24 → bd (lv + 1) (meas e (lv + 1) n)) → 0 ≤ n → n ≤ 24 → 0 ≤ d → d ≤ 5 - lv → bd lv (measL l lv n d)
  | [], n, d, _, hn, hn2, hd, hd2 => by
    simp only [measL, bd]
    omega
  | e :: l, n, d, hk, hn, hn2, hd, hd2 => by
    obtain ⟨b1, b2, b3, b4, b5⟩ := hk e (by simp) n hn hn2
    simp only [measL]
    split
    · simp only [bd]; omega
    · rename_i h0
      have := b5 h0
      exact measL_bd lv h1 h4 l _ _ (fun e' he => hk e' (by simp [he])) b3 this (by omega) (by omega)
/-- bounds of the measure -/
theorem meas_bd : ∀ (N : Nat) (e : Expr), SizeOf.sizeOf e < N → ∀ lv n : Int, 1 ≤ lv → lv ≤ 5 → 0 ≤ n → n ≤ 24 → bd lv (meas e lv n)
  | 0, _, h, _, _, _, _, _, _ => by omega
  | N + 1, e, h, lv, n, h1, h5, h2, h3 => by
    rw [meas_def]
    split
    · simp only [bd]; omega
    · rename_i hc
      exact measL_bd lv h1 (by omega) _ _ _ (fun e' he n' hn hn2 => meas_bd N e' (by have := kid_lt he; omega) _ _ (by omega) (by omega) hn hn2) (by omega) (by omega) (by omega) (by omega)
theorem f163_ok : ∀ (N : Nat) (e : Expr), SizeOf.sizeOf e < N → ∀ lv n : Int, 1 ≤ lv → lv ≤ 5 → 0 ≤ n → n ≤ 24 →
    FnOK C0 163 [.agg e.c, I lv, .ptr 63 0] [(63, [I n])] (I (meas e lv n).1) [(63, [I (meas e lv n).2])]
  | 0, _, h, _, _, _, _, _, _ => by omega
  | N + 1, e, h, lv, n, h1, h5, h2, h3 => by
    refine FnOK.assume (fn := Tryz.f163) (c := Tryz.f163.body.getD .skip) (by kernel_rfl) (by kernel_rfl) (by kernel_rfl) fun hlen => ?_
    simp only [lensL, lens, Expr.c_def, List.length_map, and_true, true_and] at hlen
    refine FnOK.intro (fn := Tryz.f163) (c := Tryz.f163.body.getD .skip) (by kernel_rfl) (by kernel_rfl) (by kernel_rfl) (by kernel_rfl) (by simp [Tryz.f163]) (by simp [names]) ?_
    unfold Tryz.f163
    by_cases hc : 4 < lv ∨ 24 < n + 1
    · have em : meas e lv n = (0, n + 1) := by rw [meas_def, if_pos hc]
      simp (disch := omega) only [go_sem, em]
      repeat' (with_reducible refine And.intro (fun h => ?_) (fun h => ?_))
      all_goals (try (exfalso; simp_all; omega))
      all_goals (refine ret_mk ⟨[], [(63, 63)], []⟩ _ rfl ⟨rfl, rfl⟩ (by simp [lk]) ?_ ?_)
      all_goals simp (disch := omega) only [go_sem]
    have em : meas e lv n = measL e.kids lv (n + 1) 0 := by rw [meas_def, if_neg hc]
    have hc1 : (4 < lv) = False := by simp; omega
    have hc2 : (24 < n + 1) = False := by simp; omega
    simp (disch := omega) only [go_sem, em, hc1, hc2, decide_false]
    refine loop_intro (α := Nat × Int × Int) (fun q => ⟨[(27, I q.1), (26, I e.kids.length), (25, exprsV e.kids), (7, I q.2.2), (1, I lv), (2, .ptr 63 0)], [(63, [I q.2.1])]⟩)
      (fun q => q.1 ≤ e.kids.length ∧ 0 ≤ q.2.1 ∧ q.2.1 ≤ 24 ∧ 0 ≤ q.2.2 ∧ q.2.2 ≤ 5 - lv ∧ measL (e.kids.drop q.1) lv q.2.1 q.2.2 = measL e.kids lv (n + 1) 0) (fun q => e.kids.length - q.1) (0, n + 1, 0) ⟨by simp, by simp; omega, by simp; omega, by simp, by simp; omega, by simp⟩ ?_ ?_
    · refine Imp.weak ?_ ?_
      · simp (disch := omega) only [go_sem]
      · simp (disch := omega) only [go_sem]
    rintro ⟨i, m, d⟩ ⟨hi, hm0, hm, hd0, hd, hr⟩ J hJ
    replace hi : i ≤ e.kids.length := hi
    replace hm0 : 0 ≤ m := hm0
    replace hm : m ≤ 24 := hm
    replace hd0 : 0 ≤ d := hd0
    replace hd : d ≤ 5 - lv := hd
    replace hr : measL (e.kids.drop i) lv m d = measL e.kids lv (n + 1) 0 := hr
    simp (disch := omega) only [go_sem]
    refine And.intro (fun hlt => ?_) (fun hge => ?_)
    · have hlt' : i < e.kids.length := by simp at hlt; omega
      have hb : e.kids[i]? = some e.kids[i] := List.getElem?_eq_getElem hlt'
      have hsz := kid_lt (List.getElem_mem hlt')
      have hdr : e.kids.drop i = e.kids[i] :: e.kids.drop (i + 1) := List.drop_eq_getElem_cons hlt'
      generalize e.kids[i] = b at hb hsz hdr
      rw [hdr] at hr
      simp only [measL] at hr
      simp (disch := omega) only [go_sem, List.getElem?_map, hb]
      refine callB_mk ⟨⟨[], [(63, 63)], []⟩, [], []⟩ (f163_ok N b (by omega) (lv + 1) m (by omega) (by omega) hm0 hm) (by simp (disch := omega) only [go_sem]) rfl (by simp (disch := omega) only [go_sem]) (.inl rfl) ?_
      obtain ⟨b1, b2, b3, b4, b5⟩ := meas_bd N b (by omega) (lv + 1) m (by omega) (by omega) hm0 hm
      generalize meas b (lv + 1) m = x at hr b1 b2 b3 b4 b5
      by_cases h0 : x.1 = 0
      · have e0 : (x.1 == 0) = true := by simp [h0]
        rw [if_pos h0] at hr
        simp (disch := omega) only [go_sem, e0]
        refine ret_mk ⟨[], [(63, 63)], []⟩ _ rfl ⟨rfl, rfl⟩ (by simp [lk]) ?_ ?_
        · simp (disch := omega) only [go_sem, ← hr]
        · simp (disch := omega) only [go_sem, ← hr]
      · have e0 : (x.1 == 0) = false := by simp [h0]
        rw [if_neg h0] at hr
        have hx := b5 h0
        simp (disch := omega) only [go_sem, e0]
        refine hJ _ (i + 1, x.2, max d x.1) ⟨by simp; omega, b3, hx, by simp; omega, by simp; omega, hr⟩ (by simp; omega) (Imp.weak ?_ (by simp (disch := omega) only [go_sem]))
        simp (disch := omega) only [go_sem]
        exact .int (by rw [Int.max_def]; split <;> split <;> omega)
    · have hil : i = e.kids.length := by simp at hge; omega
      subst hil
      rw [List.drop_length] at hr
      simp only [measL] at hr
      simp (disch := omega) only [go_sem, ← hr]
      refine ret_mk ⟨[], [(63, 63)], []⟩ _ rfl ⟨rfl, rfl⟩ (by simp [lk]) ?_ ?_
      · simp (disch := omega) only [go_sem]
      · simp (disch := omega) only [go_sem]
end Go.Rd
