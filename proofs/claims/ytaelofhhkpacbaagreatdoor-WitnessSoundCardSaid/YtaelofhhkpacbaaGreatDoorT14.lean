/- part 14 of the proof -/
import Derived.Test.YtaelofhhkpacbaaGreatDoorT13
set_option linter.all false
open Go Go.Abs Go.Proofs
set_option maxRecDepth 100000
namespace Go.Rd
def depth (e : Expr) : Int := (meas e 1 0).1
theorem f118_ok (e : Expr) : FnOK C0 118 [.agg e.c] [] (I (depth e)) [] := by
  refine FnOK.intro (fn := Tryz.f118) (c := Tryz.f118.body.getD .skip) (by kernel_rfl) (by kernel_rfl) (by kernel_rfl) (by kernel_rfl) (by simp [Tryz.f118]) (by simp [names]) ?_
  unfold Tryz.f118
  simp (disch := omega) only [go_sem]
  refine callB_mk ⟨⟨[], [(192, 63)], []⟩, [], []⟩ (f163_ok _ e (Nat.lt_succ_self _) 1 0 (by omega) (by omega) (by omega) (by omega)) (by simp (disch := omega) only [go_sem]) rfl (by simp (disch := omega) only [go_sem]) (.inl rfl) ?_
  simp (disch := omega) only [go_sem]
  refine ret_mk ⟨[], [], []⟩ _ (by (try simp (disch := omega) only [go_sem, resVs, resV]) <;> rfl) ⟨rfl, rfl⟩ (by simp) ?_ trivial
  simp (disch := omega) only [go_sem]
  exact .eq rfl
@[go_sem] theorem atomEq (p q : Atom) : (p.name == q.name && decide (p.amt = q.amt)) = decide (p = q) := by
  cases p; cases q
  refine Bool.eq_iff_iff.2 ?_
  simp
def hit (a b : Atom) : Bool := decide (a = b) || a.name == b.name
def noteE (l : List Atom) (a : Atom) : Int × List Atom := match l.find? (hit a) with
  | some b => (if a = b then 0 else 13, l)
  | none => if l.length = 8 then (4, l) else (0, l ++ [a])
@[reducible] def atomsO (r : Nat) (l : List Atom) : AV := .sl (.own r 0) 3 (l.map Atom.c)
theorem f165_ok (l : List Atom) (a : Atom) (h8 : l.length ≤ 8) : FnOK C0 165 [.ptr 63 0, .agg a.c] [(63, [atomsO 0 l])] (I (noteE l a).1) [(63, [atomsO 1 (noteE l a).2])] := by
  refine FnOK.intro (fn := Tryz.f165) (c := Tryz.f165.body.getD .skip) (by kernel_rfl) (by kernel_rfl) (by kernel_rfl) (by kernel_rfl) (by simp [Tryz.f165]) (by simp [names]) ?_
  unfold Tryz.f165
  simp (disch := omega) only [go_sem]
  refine loop_intro (α := Nat) (fun i => ⟨[(11, I i), (10, I l.length), (9, atomsO 0 l), (0, .ptr 63 0), (3, .ptr 192 0)], [(63, [atomsO 0 l]), (192, a.c)]⟩) (fun i => i ≤ (l).length ∧ (l.take i).find? (hit a) = none) (fun i => (l).length - i) 0 ⟨by omega, rfl⟩ ?_ ?_
  · refine Imp.weak ?_ ?_
    all_goals (try simp (disch := omega) only [go_sem])
    all_goals (try (repeat' (with_reducible apply And.intro)))
    all_goals (first | exact .nilOwn (by omega) | exact .nilNo (by omega) | exact .sl (by simp []) | exact .int (by simp []) | exact .eq (by simp []))
  rintro i ⟨hi, hP⟩ J hJ
  simp (disch := omega) only [go_sem]
  refine And.intro (fun hlt => ?_) (fun hge => ?_)
  rotate_left
  have hil : i = (l).length := by simp at hge; omega
  rotate_left
  obtain ⟨b, hb⟩ : ∃ b, (l)[i]? = some b := ⟨_, List.getElem?_eq_getElem (by simp at hlt; omega)⟩
  have hbm := List.mem_of_getElem? hb
  simp (disch := omega) only [go_sem, List.getElem?_map, hb]
  · refine And.intro (fun h => ?_) (fun h => ?_)
    · have e : noteE l a = (0, l) := by
        unfold noteE
        rw [find_at hP hb (by simp at h; simp [hit, h])]
        simp at h; simp [h]
      simp (disch := omega) only [go_sem, e]
      refine ret_mk ⟨[(0, 1)], [(63, 63)], []⟩ _ rfl ⟨rfl, rfl⟩ (by simp [lk]) ?_ ?_
      · simp (disch := omega) only [go_sem]
      · simp (disch := omega) only [go_sem]
    refine And.intro (fun h' => ?_) (fun h' => ?_)
    · have e : noteE l a = (13, l) := by
        unfold noteE
        rw [find_at hP hb (by simp at h'; simp [hit, h'])]
        simp at h; simp [h]
      simp (disch := omega) only [go_sem, e]
      refine ret_mk ⟨[(0, 1)], [(63, 63)], []⟩ _ rfl ⟨rfl, rfl⟩ (by simp [lk]) ?_ ?_
      · simp (disch := omega) only [go_sem]
      · simp (disch := omega) only [go_sem]
    · refine hJ _ (i + 1) ⟨by simp at hlt; omega, (by rw [find_take hP hb]; simp at h h'; simp [hit, h, h'])⟩ (by simp at hlt; omega) (Imp.weak (by simp (disch := omega) only [go_sem]) (by simp (disch := omega) only [go_sem]))
  · subst hil
    rw [List.take_length] at hP
    by_cases h9 : l.length = 8
    · have e : noteE l a = (4, l) := by unfold noteE; rw [hP]; simp [h9]
      have e9 : ((l.length : Int) == 8) = true := by simp [h9]; 
      simp (disch := omega) only [go_sem, e, e9]
      refine ret_mk ⟨[(0, 1)], [(63, 63)], []⟩ _ rfl ⟨rfl, rfl⟩ (by simp [lk]) ?_ ?_
      · simp (disch := omega) only [go_sem]
      · simp (disch := omega) only [go_sem]
    · have e : noteE l a = (0, l ++ [a]) := by unfold noteE; rw [hP]; simp [h9]
      have e9 : ((l.length : Int) == 8) = false := by simp; omega
      simp (disch := omega) only [go_sem, e, e9]
      refine draw_all (let o0 : OT := .done; let o1 : OT := .pick [(8, o0)]; let o2 : OT := .pick [(7, o1)]; let o3 : OT := .pick [(6, o2)]; let o4 : OT := .pick [(5, o3)]; let o5 : OT := .pick [(4, o4)]; let o6 : OT := .pick [(3, o3)]; let o7 : OT := .pick [(3, o4), (5, o6)]; let o8 : OT := .pick [(3, o5), (4, o7)]; let o9 : OT := .pick [(2, o6)]; let o10 : OT := .pick [(2, o7), (5, o9)]; let o11 : OT := .pick [(2, o8), (4, o10)]; let o12 : OT := .pick [(1, o9)]; let o13 : OT := .pick [(1, o10), (5, o12)]; let o14 : OT := .pick [(1, o11), (4, o13)]; let o15 : OT := .pick [(0, o2)]; let o16 : OT := .pick [(0, o3), (6, o15)]; let o17 : OT := .pick [(0, o4), (5, o16)]; let o18 : OT := .pick [(0, o5), (4, o17)]; let o19 : OT := .pick [(0, o6), (3, o16)]; let o20 : OT := .pick [(0, o7), (3, o17), (5, o19)]; let o21 : OT := .pick [(0, o8), (3, o18), (4, o20)]; let o22 : OT := .pick [(0, o9), (2, o19)]; let o23 : OT := .pick [(0, o10), (2, o20), (5, o22)]; let o24 : OT := .pick [(0, o11), (2, o21), (4, o23)]; let o25 : OT := .pick [(0, o12), (1, o22)]; let o26 : OT := .pick [(0, o13), (1, o23), (5, o25)]; let o27 : OT := .pick [(0, o14), (1, o24), (4, o26)]; o27) fol (by kernel_rfl) ?_
      simp (disch := omega) only [go_sem]
      repeat' (with_reducible refine And.intro ?_ ?_)
      all_goals (refine ret_mk ⟨[(2240, 1)], [(63, 63)], []⟩ _ rfl ⟨rfl, rfl⟩ (by simp [lk]) ?_ ?_)
      all_goals (try simp (disch := omega) only [go_sem])
      all_goals exact .sl (by simp [Atom.c])
end Go.Rd
open Go Go.Abs Go.Proofs
set_option maxRecDepth 100000
namespace Go.Rd
theorem note_len {l : List Atom} {a : Atom} (h : l.length ≤ 8) : (noteE l a).2.length ≤ 8 := by
  unfold noteE
  split
  · exact h
  · split
    · exact h
    · simp; omega
def atomOK (a : Atom) : Bool := nameOK a.name && (lockR.fits a.amt || poolR.fits a.amt)
def a0 : Atom := ⟨[], ⟨0, 0⟩⟩
theorem atomEq' (p : Atom) : (p.name == [] && (p.amt.mode == 0 && p.amt.units == 0)) = decide (p = a0) := by
  cases p with
  | mk n a =>
    cases a
    refine Bool.eq_iff_iff.2 ?_
    simp [a0]
mutual
def prop : Expr → List Atom → Bool × List Atom
  | .mk k a kids, l => if kids.length = 0 then (if k = 0 ∧ atomOK a = true then ((noteE l a).1 == 0, (noteE l a).2) else (false, l))
    else if k < 1 ∨ (kids.length : Int) < k ∨ a ≠ a0 then (false, l) else propL kids l
def propL : List Expr → List Atom → Bool × List Atom
  | [], l => (true, l)
  | e :: es, l => if (prop e l).1 = true then propL es (prop e l).2 else (false, (prop e l).2)
end
theorem prop_def (e : Expr) (l : List Atom) : prop e l = if e.kids.length = 0 then (if e.k = 0 ∧ atomOK e.atom = true then ((noteE l e.atom).1 == 0, (noteE l e.atom).2) else (false, l))
    else if e.k < 1 ∨ (e.kids.length : Int) < e.k ∨ e.atom ≠ a0 then (false, l) else propL e.kids l := by
  cases e; simp only [prop]; rfl
theorem propL_bd : ∀ (es : List Expr) (l : List Atom), (∀ e ∈ es, ∀ l : List Atom, l.length ≤ 8 → (prop e l).2.length ≤ 8) → l.length ≤ 8 → (propL es l).2.length ≤ 8
  | [], l, _, h => by simpa [propL] using h
  | e :: es, l, hk, h => by
    have := hk e (by simp) l h
    simp only [propL]
    split
    · exact propL_bd es _ (fun e' he => hk e' (by simp [he])) this
    · exact this
theorem prop_bd : ∀ (N : Nat) (e : Expr), SizeOf.sizeOf e < N → ∀ l : List Atom, l.length ≤ 8 → (prop e l).2.length ≤ 8
  | 0, _, h, _, _ => by omega
  | N + 1, e, h, l, hl => by
    rw [prop_def]
    split
    · split
      · exact note_len hl
      · exact hl
    · split
      · exact hl
      · exact propL_bd _ _ (fun e' he l' hl' => prop_bd N e' (by have := kid_lt he; omega) l' hl') hl
theorem f119_ok : ∀ (N : Nat) (e : Expr), SizeOf.sizeOf e < N → ∀ l : List Atom, l.length ≤ 8 →
    FnOK C0 119 [.agg e.c, .ptr 63 0] [(63, [atomsO 0 l])] (B (prop e l).1) [(63, [atomsO 1 (prop e l).2])]
  | 0, _, h, _, _ => by omega
  | N + 1, e, h, l, hl => by
    refine FnOK.assume (fn := Tryz.f119) (c := Tryz.f119.body.getD .skip) (by kernel_rfl) (by kernel_rfl) (by kernel_rfl) fun hlen => ?_
    simp only [lensL, lens, Expr.c_def, List.length_map, and_true, true_and] at hlen
    refine FnOK.intro (fn := Tryz.f119) (c := Tryz.f119.body.getD .skip) (by kernel_rfl) (by kernel_rfl) (by kernel_rfl) (by kernel_rfl) (by simp [Tryz.f119]) (by simp [names]) ?_
    unfold Tryz.f119
    by_cases hk : e.kids.length = 0
    · have e1 : ((e.kids.length : Int) == 0) = true := by simp [hk]
      simp (disch := omega) only [go_sem, e1]
      by_cases h0 : e.k = 0
      · have e2 : (e.k == 0) = true := by simp [h0]
        simp (disch := omega) only [go_sem, e2]
        refine call_pure (f164_ok e.atom) (by simp (disch := omega) only [go_sem]) rfl ?_
        cases ha : atomOK e.atom
        · have ha' : (nameOK e.atom.name && (lockR.fits e.atom.amt || poolR.fits e.atom.amt)) = false := ha
          have ep : prop e l = (false, l) := by rw [prop_def, if_pos hk, if_neg (by simp [ha])]
          simp (disch := omega) only [go_sem, ha', ep]
          refine ret_mk ⟨[(0, 1)], [(63, 63)], []⟩ _ rfl ⟨rfl, rfl⟩ (by simp [lk]) ?_ ?_
          · simp (disch := omega) only [go_sem]
          · simp (disch := omega) only [go_sem]
        · have ha' : (nameOK e.atom.name && (lockR.fits e.atom.amt || poolR.fits e.atom.amt)) = true := ha
          have ep : prop e l = ((noteE l e.atom).1 == 0, (noteE l e.atom).2) := by rw [prop_def, if_pos hk, if_pos ⟨h0, ha⟩]
          simp (disch := omega) only [go_sem, ha', ep]
          refine callB_mk ⟨⟨[(0, 0)], [(63, 63)], []⟩, [(1, 1472)], []⟩ (f165_ok l e.atom hl) (by simp (disch := omega) only [go_sem]) rfl (by simp (disch := omega) only [go_sem]) (.inl rfl) ?_
          simp (disch := omega) only [go_sem]
          refine ret_mk ⟨[(1472, 1)], [(63, 63)], []⟩ _ rfl ⟨rfl, rfl⟩ (by simp [lk]) ?_ ?_
          · simp (disch := omega) only [go_sem]
          · simp (disch := omega) only [go_sem]
      · have e2 : (e.k == 0) = false := by simp [h0]
        have ep : prop e l = (false, l) := by rw [prop_def, if_pos hk, if_neg (by simp [h0])]
        simp (disch := omega) only [go_sem, e2, ep]
        refine ret_mk ⟨[(0, 1)], [(63, 63)], []⟩ _ rfl ⟨rfl, rfl⟩ (by simp [lk]) ?_ ?_
        · simp (disch := omega) only [go_sem]
        · simp (disch := omega) only [go_sem]
    have e1 : ((e.kids.length : Int) == 0) = false := by simp only [beq_eq_false_iff_ne, ne_eq]; omega
    have ez : (e.atom.name == [] && (e.atom.amt.mode == 0 && e.atom.amt.units == 0)) = decide (e.atom = a0) := atomEq' e.atom
    by_cases hbad : e.k < 1 ∨ (e.kids.length : Int) < e.k ∨ e.atom ≠ a0
    · have ep : prop e l = (false, l) := by rw [prop_def, if_neg hk, if_pos hbad]
      simp (disch := omega) only [go_sem, e1, ez, ep]
      repeat' (with_reducible refine And.intro (fun h => ?_) (fun h => ?_))
      all_goals (try (exfalso; simp_all; omega))
      all_goals (refine ret_mk ⟨[(0, 1)], [(63, 63)], []⟩ _ rfl ⟨rfl, rfl⟩ (by simp [lk]) ?_ ?_)
      all_goals simp (disch := omega) only [go_sem]
    have ep : prop e l = propL e.kids l := by rw [prop_def, if_neg hk, if_neg hbad]
    have b1 : (e.k < 1) = False := by simp; omega
    have b2 : ((e.kids.length : Int) < e.k) = False := by simp; omega
    have b3 : e.atom = a0 := by
      by_cases h : e.atom = a0
      · exact h
      · exact absurd (Or.inr (Or.inr h)) hbad
    have ez' : (e.atom.name == [] && (e.atom.amt.mode == 0 && e.atom.amt.units == 0)) = true := by rw [ez]; simp [b3]
    simp (disch := omega) only [go_sem, e1, ez', b1, b2, decide_false, ep]
    refine loop_intro (α := Nat × List Atom) (fun q => ⟨[(46, I q.1), (45, I e.kids.length), (44, exprsV e.kids), (1, .ptr 63 0)], [(63, [atomsO 3328 q.2])]⟩)
      (fun q => q.1 ≤ e.kids.length ∧ q.2.length ≤ 8 ∧ propL (e.kids.drop q.1) q.2 = propL e.kids l) (fun q => e.kids.length - q.1) (0, l) ⟨by simp, hl, by simp⟩ ?_ ?_
    · refine Imp.ren ⟨[(0, 3328)], [(63, 63)], []⟩ ⟨rfl, rfl⟩ (by simp [lk]) ?_ ?_
      · simp (disch := omega) only [go_sem]
      · simp (disch := omega) only [go_sem]
    rintro ⟨i, m⟩ ⟨hi, hm, hr⟩ J hJ
    replace hi : i ≤ e.kids.length := hi
    replace hm : m.length ≤ 8 := hm
    replace hr : propL (e.kids.drop i) m = propL e.kids l := hr
    simp (disch := omega) only [go_sem]
    refine And.intro (fun hlt => ?_) (fun hge => ?_)
    · have hlt' : i < e.kids.length := by simp at hlt; omega
      have hb : e.kids[i]? = some e.kids[i] := List.getElem?_eq_getElem hlt'
      have hsz := kid_lt (List.getElem_mem hlt')
      have hdr : e.kids.drop i = e.kids[i] :: e.kids.drop (i + 1) := List.drop_eq_getElem_cons hlt'
      generalize e.kids[i] = b at hb hsz hdr
      rw [hdr] at hr
      simp only [propL] at hr
      simp (disch := omega) only [go_sem, List.getElem?_map, hb]
      refine callB_mk ⟨⟨[(3328, 0)], [(63, 63)], []⟩, [(1, 3329)], []⟩ (f119_ok N b (by omega) m hm) (by simp (disch := omega) only [go_sem]) rfl (by simp (disch := omega) only [go_sem]) (.inl rfl) ?_
      have hx := prop_bd N b (by omega) m hm
      generalize prop b m = x at hr hx
      cases hx1 : x.1
      · rw [hx1] at hr
        simp only [Bool.false_eq_true, if_false] at hr
        simp (disch := omega) only [go_sem, Bool.not_false]
        refine ret_mk ⟨[(3329, 1)], [(63, 63)], []⟩ _ rfl ⟨rfl, rfl⟩ (by simp [lk]) ?_ ?_
        · simp (disch := omega) only [go_sem, ← hr]
        · simp (disch := omega) only [go_sem, ← hr]
      · rw [hx1] at hr
        simp only [if_true] at hr
        simp (disch := omega) only [go_sem, Bool.not_true]
        refine hJ _ (i + 1, x.2) ⟨by simp; omega, hx, hr⟩ (by simp; omega) (Imp.ren ⟨[(3329, 3328)], [(63, 63)], []⟩ ⟨rfl, rfl⟩ (by simp [lk]) ?_ ?_)
        · simp (disch := omega) only [go_sem]
        · simp (disch := omega) only [go_sem]
    · have hil : i = e.kids.length := by simp at hge; omega
      subst hil
      rw [List.drop_length] at hr
      simp only [propL] at hr
      simp (disch := omega) only [go_sem, ← hr]
      refine ret_mk ⟨[(3328, 1)], [(63, 63)], []⟩ _ rfl ⟨rfl, rfl⟩ (by simp [lk]) ?_ ?_
      · simp (disch := omega) only [go_sem]
      · simp (disch := omega) only [go_sem]
def exprOK (e : Expr) : Bool := !(depth e == 0) && (prop e []).1
theorem f70_ok (e : Expr) : FnOK C0 70 [.agg e.c] [] (B (exprOK e)) [] := by
  refine FnOK.intro (fn := Tryz.f70) (c := Tryz.f70.body.getD .skip) (by kernel_rfl) (by kernel_rfl) (by kernel_rfl) (by kernel_rfl) (by simp [Tryz.f70]) (by simp [names]) ?_
  unfold Tryz.f70
  simp (disch := omega) only [go_sem]
  refine call_pure (f118_ok e) (by simp (disch := omega) only [go_sem]) rfl ?_
  simp (disch := omega) only [go_sem]
  refine And.intro (fun h => ?_) (fun h => ?_)
  · refine callB_mk ⟨⟨[], [(192, 63)], []⟩, [(1, 576)], []⟩ (f119_ok _ e (Nat.lt_succ_self _) [] (by simp)) (by simp (disch := omega) only [go_sem]) rfl (by simp (disch := omega) only [go_sem, List.map_nil]; exact .nilOwn (by omega)) (.inl rfl) ?_
    simp (disch := omega) only [go_sem]
    refine ret_mk ⟨[], [], []⟩ _ (by (try simp (disch := omega) only [go_sem, resVs, resV]) <;> rfl) ⟨rfl, rfl⟩ (by simp) ?_ trivial
    simp (disch := omega) only [go_sem]
    exact .eq (by simp at h; simp [exprOK, h])
  · refine ret_mk ⟨[], [], []⟩ _ (by (try simp (disch := omega) only [go_sem, resVs, resV]) <;> rfl) ⟨rfl, rfl⟩ (by simp) ?_ trivial
    simp (disch := omega) only [go_sem]
    exact .eq (by simp at h; simp [exprOK, h])
end Go.Rd
open Go Go.Abs Go.Proofs
set_option maxRecDepth 100000
namespace Go.Rd
theorem wb {a b : Bool} (h : a = b) : WeakV (.v (.bool a)) (B b) := .eq (by rw [h])
theorem wi {a b : Int} (h : a = b) : WeakV (.v (.int .i64 a)) (I b) := .eq (by rw [h])
def hasP (l : List Proc) (p : Proc) : Bool := decide (p ∈ l)
theorem find_none_mem {α : Type} [DecidableEq α] {l : List α} {p : α} (h : l.find? (fun x => decide (x = p)) = none) : p ∉ l := by
  rw [List.find?_eq_none] at h
  intro hp
  simpa using h p hp
theorem f19_ok (l : List Proc) (p : Proc) (hl : l.length ≤ 1000000) : FnOK C0 19 [procsV l, .agg p.c] [] (B (hasP l p)) [] := by
  refine FnOK.intro (fn := Tryz.f19) (c := Tryz.f19.body.getD .skip) (by kernel_rfl) (by kernel_rfl) (by kernel_rfl) (by kernel_rfl) (by simp [Tryz.f19]) (by simp [names]) ?_
  unfold Tryz.f19
  simp (disch := omega) only [go_sem]
  refine loop_intro (α := Nat) (fun i => ⟨[(5, I i), (0, procsV l), (3, .ptr 192 0)], [(192, p.c)]⟩) (fun i => i ≤ (l).length ∧ (l.take i).find? (fun x => decide (x = p)) = none) (fun i => (l).length - i) 0 ⟨by omega, rfl⟩ ?_ ?_
  · refine Imp.weak ?_ ?_
    all_goals (try simp (disch := omega) only [go_sem])
    all_goals (try (repeat' (with_reducible apply And.intro)))
    all_goals (first | exact .nilOwn (by omega) | exact .nilNo (by omega) | exact .sl (by simp []) | exact .int (by simp []) | exact .eq (by simp []))
  rintro i ⟨hi, hP⟩ J hJ
  simp (disch := omega) only [go_sem]
  refine And.intro (fun hlt => ?_) (fun hge => ?_)
  rotate_left
  have hil : i = (l).length := by simp at hge; omega
  rotate_left
  obtain ⟨b, hb⟩ : ∃ b, (l)[i]? = some b := ⟨_, List.getElem?_eq_getElem (by simp at hlt; omega)⟩
  have hbm := List.mem_of_getElem? hb
  have hlt2 : i < (l).length := by simp at hlt; omega
  refine draw_mk 5 [([], [0]), ([], [5]), ([0, 1], [12, 13]), ([0, 1, 2], [14]), ([], [3]), ([0, 1, 2, 3, 4], [])] fol (by kernel_rfl) ?_
  simp (disch := omega) only [go_sem, List.getElem?_map, hb]
  · refine And.intro (fun h => ?_) (fun h => ?_)
    · have e : hasP l p = true := by simp at h; subst h; simp [hasP, hbm]
      simp (disch := omega) only [go_sem, e]
      refine ret_mk ⟨[], [], []⟩ _ (by (try simp (disch := omega) only [go_sem, resVs, resV]) <;> rfl) ⟨rfl, rfl⟩ (by simp) ?_ trivial
      simp (disch := omega) only [go_sem]
    · refine hJ _ (i + 1) ⟨by simp at hlt; omega, (by rw [find_take hP hb]; simp at h; simp [h])⟩ (by simp at hlt; omega) (Imp.weak (by simp (disch := omega) only [go_sem]) (by simp (disch := omega) only [go_sem]))
  · subst hil
    rw [List.take_length] at hP
    have e : hasP l p = false := by simp [hasP, find_none_mem hP]
    simp (disch := omega) only [go_sem, e]
    refine ret_mk ⟨[], [], []⟩ _ (by (try simp (disch := omega) only [go_sem, resVs, resV]) <;> rfl) ⟨rfl, rfl⟩ (by simp) ?_ trivial
    simp (disch := omega) only [go_sem]
def ord (a b : Int) : Int := if a < b then -1 else if b < a then 1 else 0
theorem f128_ok (a b : Int) : FnOK C0 128 [I a, I b] [] (I (ord a b)) [] := by
  refine FnOK.intro (fn := Tryz.f128) (c := Tryz.f128.body.getD .skip) (by kernel_rfl) (by kernel_rfl) (by kernel_rfl) (by kernel_rfl) (by simp [Tryz.f128]) (by simp [names]) ?_
  unfold Tryz.f128
  simp (disch := omega) only [go_sem]
  repeat' (with_reducible refine And.intro (fun h => ?_) (fun h => ?_))
  all_goals (refine ret_mk ⟨[], [], []⟩ _ (by (try simp (disch := omega) only [go_sem, resVs, resV]) <;> rfl) ⟨rfl, rfl⟩ (by simp) ?_ trivial)
  all_goals (try simp (disch := omega) only [go_sem])
  all_goals (first | refine wb ?_ | refine wi ?_ | refine .eq ?_)
  all_goals (first | (simp_all [ord] <;> omega) | (refine Bool.eq_iff_iff.2 ?_; simp_all [ord] <;> omega))
theorem cmpP_ord (p q : Proc) : cmpP p q = if ord p.site q.site ≠ 0 then ord p.site q.site else if ord p.inc q.inc ≠ 0 then ord p.inc q.inc else ord p.num q.num := by
  unfold cmpP ord
  repeat' split
  all_goals first | rfl | omega
theorem f79_ok (p q : Proc) : FnOK C0 79 [.agg p.c, .agg q.c] [] (I (cmpP p q)) [] := by
  refine FnOK.intro (fn := Tryz.f79) (c := Tryz.f79.body.getD .skip) (by kernel_rfl) (by kernel_rfl) (by kernel_rfl) (by kernel_rfl) (by simp [Tryz.f79]) (by simp [names]) ?_
  unfold Tryz.f79
  simp (disch := omega) only [go_sem]
  refine call_pure (f128_ok p.site q.site) (by simp (disch := omega) only [go_sem]) rfl ?_
  simp (disch := omega) only [go_sem]
  have hc := cmpP_ord p q
  refine And.intro (fun h => ?_) (fun h => ?_)
  · simp at h
    rw [if_pos h] at hc
    refine ret_mk ⟨[], [], []⟩ _ (by (try simp (disch := omega) only [go_sem, resVs, resV]) <;> rfl) ⟨rfl, rfl⟩ (by simp) ?_ trivial
    simp (disch := omega) only [go_sem]
    exact .eq (by rw [hc])
  simp at h
  rw [if_neg (by simp [h])] at hc
  refine call_pure (f128_ok p.inc q.inc) (by simp (disch := omega) only [go_sem]) rfl ?_
  simp (disch := omega) only [go_sem]
  refine And.intro (fun h => ?_) (fun h => ?_)
  · simp at h
    rw [if_pos h] at hc
    refine ret_mk ⟨[], [], []⟩ _ (by (try simp (disch := omega) only [go_sem, resVs, resV]) <;> rfl) ⟨rfl, rfl⟩ (by simp) ?_ trivial
    simp (disch := omega) only [go_sem]
    exact .eq (by rw [hc])
  simp at h
  rw [if_neg (by simp [h])] at hc
  refine call_pure (f128_ok p.num q.num) (by simp (disch := omega) only [go_sem]) rfl ?_
  simp (disch := omega) only [go_sem]
  refine ret_mk ⟨[], [], []⟩ _ (by (try simp (disch := omega) only [go_sem, resVs, resV]) <;> rfl) ⟨rfl, rfl⟩ (by simp) ?_ trivial
  simp (disch := omega) only [go_sem]
  exact .eq (by rw [hc])
theorem f137_ok (a : Amt) : FnOK C0 137 [.agg a.c] [] (B a.zero) [] := by
  refine FnOK.intro (fn := Tryz.f137) (c := Tryz.f137.body.getD .skip) (by kernel_rfl) (by kernel_rfl) (by kernel_rfl) (by kernel_rfl) (by simp [Tryz.f137]) (by simp [names]) ?_
  unfold Tryz.f137
  simp (disch := omega) only [go_sem]
  repeat' (with_reducible refine And.intro (fun h => ?_) (fun h => ?_))
  all_goals (refine ret_mk ⟨[], [], []⟩ _ (by (try simp (disch := omega) only [go_sem, resVs, resV]) <;> rfl) ⟨rfl, rfl⟩ (by simp) ?_ trivial)
  all_goals (try simp (disch := omega) only [go_sem])
  all_goals (first | refine wb ?_ | refine wi ?_ | refine .eq ?_)
  all_goals (first | (simp_all [Amt.zero] <;> omega) | (refine Bool.eq_iff_iff.2 ?_; simp_all [Amt.zero] <;> omega))
theorem f154_ok (r : Res) : FnOK C0 154 [.agg r.c] [] (B r.shaped) [] := by
  refine FnOK.intro (fn := Tryz.f154) (c := Tryz.f154.body.getD .skip) (by kernel_rfl) (by kernel_rfl) (by kernel_rfl) (by kernel_rfl) (by simp [Tryz.f154]) (by simp [names]) ?_
  unfold Tryz.f154
  simp (disch := omega) only [go_sem]
  repeat' (with_reducible refine And.intro (fun h => ?_) (fun h => ?_))
  all_goals (refine ret_mk ⟨[], [], []⟩ _ (by (try simp (disch := omega) only [go_sem, resVs, resV]) <;> rfl) ⟨rfl, rfl⟩ (by simp) ?_ trivial)
  all_goals (try simp (disch := omega) only [go_sem])
  all_goals (first | refine wb ?_ | refine wi ?_ | refine .eq ?_)
  all_goals (first | (simp_all [Res.shaped, between] <;> omega) | (refine Bool.eq_iff_iff.2 ?_; simp_all [Res.shaped, between] <;> omega))
theorem f156_ok (m : Int) : FnOK C0 156 [I m] [] (B (modeOK m)) [] := by
  refine FnOK.intro (fn := Tryz.f156) (c := Tryz.f156.body.getD .skip) (by kernel_rfl) (by kernel_rfl) (by kernel_rfl) (by kernel_rfl) (by simp [Tryz.f156]) (by simp [names]) ?_
  unfold Tryz.f156
  simp (disch := omega) only [go_sem]
  repeat' (with_reducible refine And.intro (fun h => ?_) (fun h => ?_))
  all_goals (refine ret_mk ⟨[], [], []⟩ _ (by (try simp (disch := omega) only [go_sem, resVs, resV]) <;> rfl) ⟨rfl, rfl⟩ (by simp) ?_ trivial)
  all_goals (try simp (disch := omega) only [go_sem])
  all_goals (first | refine wb ?_ | refine wi ?_ | refine .eq ?_)
  all_goals (first | (simp_all [modeOK, between] <;> omega) | (refine Bool.eq_iff_iff.2 ?_; simp_all [modeOK, between] <;> omega))
theorem f111_ok (r : Res) (a : Amt) : FnOK C0 111 [.agg r.c, .agg a.c] [] (B (r.fits a)) [] := by
  refine FnOK.intro (fn := Tryz.f111) (c := Tryz.f111.body.getD .skip) (by kernel_rfl) (by kernel_rfl) (by kernel_rfl) (by kernel_rfl) (by simp [Tryz.f111]) (by simp [names]) ?_
  unfold Tryz.f111
  simp (disch := omega) only [go_sem]
  repeat' (first
    | (with_reducible refine And.intro (fun h => ?_) (fun h => ?_))
    | ((with_reducible show callB _ _ 154 _ _ _); refine call_pure (f154_ok r) ?_ rfl ?_; (focus (simp (disch := omega) only [go_sem]; done)); try simp (disch := omega) only [go_sem])
    | ((with_reducible show callB _ _ 156 _ _ _); refine call_pure (f156_ok a.mode) ?_ rfl ?_; (focus (simp (disch := omega) only [go_sem]; done)); try simp (disch := omega) only [go_sem]))
  all_goals (refine ret_mk ⟨[], [], []⟩ _ (by (try simp (disch := omega) only [go_sem, resVs, resV]) <;> rfl) ⟨rfl, rfl⟩ (by simp) ?_ trivial)
  all_goals (try simp (disch := omega) only [go_sem])
  all_goals (first | refine wb ?_ | refine wi ?_ | refine .eq ?_)
  all_goals (first | (simp_all [Res.fits, between] <;> omega) | (refine Bool.eq_iff_iff.2 ?_; simp_all [Res.fits, between] <;> omega))
theorem f63_ok (l : List Wait) (p : Proc) (hl : l.length ≤ 1000000) : FnOK C0 63 [waitsV l, .agg p.c] [] (I (findW l p)) [] := by
  refine FnOK.intro (fn := Tryz.f63) (c := Tryz.f63.body.getD .skip) (by kernel_rfl) (by kernel_rfl) (by kernel_rfl) (by kernel_rfl) (by simp [Tryz.f63]) (by simp [names]) ?_
  unfold Tryz.f63
  simp (disch := omega) only [go_sem]
  refine loop_intro (α := Nat) (fun i => ⟨[(5, I i), (0, waitsV l), (3, .ptr 192 0)], [(192, p.c)]⟩) (fun i => i ≤ (l).length ∧ (l.take i).find? (fun h => decide (h.proc = p)) = none) (fun i => (l).length - i) 0 ⟨by omega, rfl⟩ ?_ ?_
  · refine Imp.weak ?_ ?_
    all_goals (try simp (disch := omega) only [go_sem])
    all_goals (try (repeat' (with_reducible apply And.intro)))
    all_goals (first | exact .nilOwn (by omega) | exact .nilNo (by omega) | exact .sl (by simp []) | exact .int (by simp []) | exact .eq (by simp []))
  rintro i ⟨hi, hP⟩ J hJ
  simp (disch := omega) only [go_sem]
  refine And.intro (fun hlt => ?_) (fun hge => ?_)
  rotate_left
  have hil : i = (l).length := by simp at hge; omega
  rotate_left
  obtain ⟨b, hb⟩ : ∃ b, (l)[i]? = some b := ⟨_, List.getElem?_eq_getElem (by simp at hlt; omega)⟩
  have hbm := List.mem_of_getElem? hb
  have hlt2 : i < (l).length := by simp at hlt; omega
  refine draw_mk 6 [([], [0]), ([], [5]), ([0, 1], [12, 13]), ([0, 1, 2], [14]), ([0, 1, 2, 3], [15]), ([], [3]), ([0, 1, 2, 3, 4, 5], [])] fol (by kernel_rfl) ?_
  simp (disch := omega) only [go_sem, List.getElem?_map, hb]
  · refine And.intro (fun h => ?_) (fun h => ?_)
    · have e : findW l p = i := by unfold findW; rw [idx_take hP b hb (by simpa using h)]
      simp (disch := omega) only [go_sem, e]
      refine ret_mk ⟨[], [], []⟩ _ (by (try simp (disch := omega) only [go_sem, resVs, resV]) <;> rfl) ⟨rfl, rfl⟩ (by simp) ?_ trivial
      simp (disch := omega) only [go_sem]
    · refine hJ _ (i + 1) ⟨by simp at hlt; omega, (by rw [find_take hP hb]; simp at h; simp [h])⟩ (by simp at hlt; omega) (Imp.weak (by simp (disch := omega) only [go_sem]) (by simp (disch := omega) only [go_sem]))
  · subst hil
    rw [List.take_length] at hP
    have e : findW l p = -1 := by
      unfold findW
      have : l.findIdx? (fun h => decide (h.proc = p)) = none := by
        rw [List.findIdx?_eq_none_iff]
        rw [List.find?_eq_none] at hP
        intro x hx
        simpa using hP x hx
      rw [this]
    simp (disch := omega) only [go_sem, e]
    refine ret_mk ⟨[], [], []⟩ _ (by (try simp (disch := omega) only [go_sem, resVs, resV]) <;> rfl) ⟨rfl, rfl⟩ (by simp) ?_ trivial
    simp (disch := omega) only [go_sem]
theorem f173_ok (l : List Hold) (p : Proc) (hl : l.length ≤ 1000000) : FnOK C0 173 [holdsV l, .agg p.c] [] (.agg (getH l p).c) [] := by
  refine FnOK.intro (fn := Tryz.f173) (c := Tryz.f173.body.getD .skip) (by kernel_rfl) (by kernel_rfl) (by kernel_rfl) (by kernel_rfl) (by simp [Tryz.f173]) (by simp [names]) ?_
  unfold Tryz.f173
  simp (disch := omega) only [go_sem]
  refine loop_intro (α := Nat) (fun i => ⟨[(5, I i), (0, holdsV l), (3, .ptr 192 0), (4, .ptr 256 0)], [(192, p.c), (256, (⟨0, 0⟩ : Amt).c)]⟩) (fun i => i ≤ (l).length ∧ (l.take i).find? (fun h => decide (h.proc = p)) = none) (fun i => (l).length - i) 0 ⟨by omega, rfl⟩ ?_ ?_
  · refine Imp.weak ?_ ?_
    all_goals (try simp (disch := omega) only [go_sem])
    all_goals (try (repeat' (with_reducible apply And.intro)))
    all_goals (first | exact .nilOwn (by omega) | exact .nilNo (by omega) | exact .sl (by simp []) | exact .int (by simp []) | exact .eq (by simp []))
  rintro i ⟨hi, hP⟩ J hJ
  simp (disch := omega) only [go_sem]
  refine And.intro (fun hlt => ?_) (fun hge => ?_)
  rotate_left
  have hil : i = (l).length := by simp at hge; omega
  rotate_left
  obtain ⟨b, hb⟩ : ∃ b, (l)[i]? = some b := ⟨_, List.getElem?_eq_getElem (by simp at hlt; omega)⟩
  have hbm := List.mem_of_getElem? hb
  have hlt2 : i < (l).length := by simp at hlt; omega
  refine draw_mk 6 [([], [0]), ([], [5]), ([0, 1], [12, 13]), ([0, 1, 2], [14]), ([0, 1, 2, 3], [15]), ([], [3]), ([0, 1, 2, 3, 4, 5], [])] fol (by kernel_rfl) ?_
  simp (disch := omega) only [go_sem, List.getElem?_map, hb]
  · refine And.intro (fun h => ?_) (fun h => ?_)
    · have e : getH l p = b.amt := by unfold getH; rw [find_at hP hb (by simpa using h)]
      simp (disch := omega) only [go_sem, e]
      refine ret_mk ⟨[], [], []⟩ _ (by (try simp (disch := omega) only [go_sem, resVs, resV]) <;> rfl) ⟨rfl, rfl⟩ (by simp) ?_ trivial
      simp (disch := omega) only [go_sem]
    · refine hJ _ (i + 1) ⟨by simp at hlt; omega, (by rw [find_take hP hb]; simp at h; simp [h])⟩ (by simp at hlt; omega) (Imp.weak (by simp (disch := omega) only [go_sem]) (by simp (disch := omega) only [go_sem]))
  · subst hil
    rw [List.take_length] at hP
    have e : getH l p = ⟨0, 0⟩ := by unfold getH; rw [hP]
    simp (disch := omega) only [go_sem, e]
    refine ret_mk ⟨[], [], []⟩ _ (by (try simp (disch := omega) only [go_sem, resVs, resV]) <;> rfl) ⟨rfl, rfl⟩ (by simp) ?_ trivial
    simp (disch := omega) only [go_sem]
theorem f207_ok (c : UInt8) : FnOK C0 207 [.v (.int .u8 c.toNat)] [] (B (letter c)) [] := by
  refine FnOK.intro (fn := Tryz.f207) (c := Tryz.f207.body.getD .skip) (by kernel_rfl) (by kernel_rfl) (by kernel_rfl) (by kernel_rfl) (by simp [Tryz.f207]) (by simp [names]) ?_
  unfold Tryz.f207
  simp (disch := omega) only [go_sem]
  repeat' (with_reducible refine And.intro (fun h => ?_) (fun h => ?_))
  all_goals (refine ret_mk ⟨[], [], []⟩ _ (by (try simp (disch := omega) only [go_sem, resVs, resV]) <;> rfl) ⟨rfl, rfl⟩ (by simp) ?_ trivial)
  all_goals (try simp (disch := omega) only [go_sem])
  all_goals (first | refine wb ?_ | refine wi ?_ | refine .eq ?_)
  all_goals (first | (simp_all [letter] <;> omega) | (refine Bool.eq_iff_iff.2 ?_; simp_all [letter] <;> omega))
theorem f208_ok (s : Bs) : FnOK C0 208 [.v (.string (str s))] [] (B (reserved s)) [] := by
  refine FnOK.intro (fn := Tryz.f208) (c := Tryz.f208.body.getD .skip) (by kernel_rfl) (by kernel_rfl) (by kernel_rfl) (by kernel_rfl) (by simp [Tryz.f208]) (by simp [names]) ?_
  unfold Tryz.f208
  simp (disch := omega) only [go_sem]
  repeat' (first
    | (with_reducible refine And.intro (fun h => ?_) (fun h => ?_))
)
  all_goals (refine ret_mk ⟨[], [], []⟩ _ (by (try simp (disch := omega) only [go_sem, resVs, resV]) <;> rfl) ⟨rfl, rfl⟩ (by simp) ?_ trivial)
  all_goals (try simp (disch := omega) only [go_sem])
  all_goals (first | refine wb ?_ | refine wi ?_ | refine .eq ?_)
  all_goals (first | (simp_all [reserved] <;> omega) | (refine Bool.eq_iff_iff.2 ?_; simp_all [reserved] <;> omega))
def part (c : UInt8) : Bool := letter c || other c
theorem f209_ok (c : UInt8) : FnOK C0 209 [.v (.int .u8 c.toNat)] [] (B (part c)) [] := by
  refine FnOK.intro (fn := Tryz.f209) (c := Tryz.f209.body.getD .skip) (by kernel_rfl) (by kernel_rfl) (by kernel_rfl) (by kernel_rfl) (by simp [Tryz.f209]) (by simp [names]) ?_
  unfold Tryz.f209
  simp (disch := omega) only [go_sem]
  repeat' (first
    | (with_reducible refine And.intro (fun h => ?_) (fun h => ?_))
    | ((with_reducible show callB _ _ 207 _ _ _); refine call_pure (f207_ok c) ?_ rfl ?_; (focus (simp (disch := omega) only [go_sem]; done)); try simp (disch := omega) only [go_sem]))
  all_goals (refine ret_mk ⟨[], [], []⟩ _ (by (try simp (disch := omega) only [go_sem, resVs, resV]) <;> rfl) ⟨rfl, rfl⟩ (by simp) ?_ trivial)
  all_goals (try simp (disch := omega) only [go_sem])
  all_goals (first | refine wb ?_ | refine wi ?_ | refine .eq ?_)
  all_goals (first | (simp_all [part, letter, other] <;> omega) | (refine Bool.eq_iff_iff.2 ?_; simp_all [part, letter, other] <;> omega))
theorem nameOK_ref (s : Bs) : nameOK s = (decide (1 ≤ s.length) && decide (s.length ≤ 12) && (match s with | [] => false | c :: _ => letter c) && !reserved s && s.all part) := by
  cases s with
  | nil => rfl
  | cons c l =>
    have h : ∀ (l : List UInt8) (k : Nat), ((l.zipIdx (k + 1)).all fun x => okc x.2 x.1) = l.all part := by
      intro l
      induction l with
      | nil => intro k; rfl
      | cons x l ih =>
        intro k
        simp only [List.zipIdx_cons, List.all_cons, ih]
        simp [okc, part]
    simp only [nameOK, allAt, List.zipIdx_cons, List.all_cons, h]
    simp only [okc, part]
    cases letter c <;> simp
theorem all_take {α : Type} {f : α → Bool} {l : List α} {i : Nat} {b : α} (hb : l[i]? = some b) : (l.take (i + 1)).all f = ((l.take i).all f && f b) := by
  simp [List.take_add_one, hb, List.all_append]
theorem all_false {α : Type} {f : α → Bool} {l : List α} {b : α} (hb : b ∈ l) (h : f b = false) : l.all f = false := by
  rw [List.all_eq_false]
  exact ⟨b, hb, by simp [h]⟩
theorem nameOK_cons (c : UInt8) (l s : Bs) (hs : s = c :: l) : nameOK s = (decide (s.length ≤ 12) && letter c && !reserved s && s.all part) := by
  rw [nameOK_ref]; subst hs; simp
theorem f170_ok (s : Bs) : FnOK C0 170 [.v (.string (str s))] [] (B (nameOK s)) [] := by
  refine FnOK.intro (fn := Tryz.f170) (c := Tryz.f170.body.getD .skip) (by kernel_rfl) (by kernel_rfl) (by kernel_rfl) (by kernel_rfl) (by simp [Tryz.f170]) (by simp [names]) ?_
  unfold Tryz.f170
  cases hs : s with
  | nil =>
    simp (disch := omega) only [go_sem, List.length_nil]
    refine ret_mk ⟨[], [], []⟩ _ (by (try simp (disch := omega) only [go_sem, resVs, resV]) <;> rfl) ⟨rfl, rfl⟩ (by simp) ?_ trivial
    simp (disch := omega) only [go_sem]
    exact wb (by decide)
  | cons c l =>
    have e3 : s[0]? = some c := by rw [hs]; rfl
    have hk := nameOK_cons c l s hs
    have e1 : ((s.length : Int) < 1) = False := by rw [hs]; simp; omega
    rw [← hs]
    clear hs
    by_cases h2 : 12 < s.length
    · have e2 : (12 < (s.length : Int)) = True := by simp; omega
      simp (disch := omega) only [go_sem, e1, e2, decide_false]
      refine ret_mk ⟨[], [], []⟩ _ (by (try simp (disch := omega) only [go_sem, resVs, resV]) <;> rfl) ⟨rfl, rfl⟩ (by simp) ?_ trivial
      simp (disch := omega) only [go_sem]
      exact .eq (by rw [hk]; simp; omega)
    · have e2 : (12 < (s.length : Int)) = False := by simp; omega
      have e5 : decide (s.length ≤ 12) = true := by simp; omega
      rw [e5] at hk
      simp (disch := omega) only [go_sem, e1, e2, e3, decide_false]
      refine call_pure (f207_ok c) (by simp (disch := omega) only [go_sem]) rfl ?_
      cases hc : letter c
      · rw [hc] at hk
        simp (disch := omega) only [go_sem, Bool.not_false, hk]
        refine ret_mk ⟨[], [], []⟩ _ (by (try simp (disch := omega) only [go_sem, resVs, resV]) <;> rfl) ⟨rfl, rfl⟩ (by simp) ?_ trivial
        simp (disch := omega) only [go_sem]
      simp (disch := omega) only [go_sem, Bool.not_true]
      refine call_pure (f208_ok s) (by simp (disch := omega) only [go_sem]) rfl ?_
      cases hr : reserved s
      rotate_left
      · rw [hr] at hk
        simp (disch := omega) only [go_sem, hk]
        refine ret_mk ⟨[], [], []⟩ _ (by (try simp (disch := omega) only [go_sem, resVs, resV]) <;> rfl) ⟨rfl, rfl⟩ (by simp) ?_ trivial
        simp (disch := omega) only [go_sem]
      simp (disch := omega) only [go_sem]
      refine loop_intro (α := Nat) (fun i => ⟨[(3, I i), (0, .v (.string (str s)))], []⟩) (fun i => i ≤ (s).length ∧ (s.take i).all part = true) (fun i => (s).length - i) 0 ⟨by omega, rfl⟩ ?_ ?_
      · refine Imp.weak ?_ ?_
        all_goals (try simp (disch := omega) only [go_sem])
        all_goals (try (repeat' (with_reducible apply And.intro)))
        all_goals (first | exact .nilOwn (by omega) | exact .nilNo (by omega) | exact .sl (by simp []) | exact .int (by simp []) | exact .eq (by simp []))
      rintro i ⟨hi, hP⟩ J hJ
      simp (disch := omega) only [go_sem]
      refine And.intro (fun hlt => ?_) (fun hge => ?_)
      rotate_left
      have hil : i = (s).length := by simp at hge; omega
      rotate_left
      obtain ⟨b, hb⟩ : ∃ b, (s)[i]? = some b := ⟨_, List.getElem?_eq_getElem (by simp at hlt; omega)⟩
      have hbm := List.mem_of_getElem? hb
      have hlt2 : i < (s).length := by simp at hlt; omega
      simp (disch := omega) only [go_sem, List.getElem?_map, hb]
      · refine call_pure (f209_ok b) (by simp (disch := omega) only [go_sem]) rfl ?_
        cases hp : part b
        · simp (disch := omega) only [go_sem, Bool.not_false]
          refine ret_mk ⟨[], [], []⟩ _ (by (try simp (disch := omega) only [go_sem, resVs, resV]) <;> rfl) ⟨rfl, rfl⟩ (by simp) ?_ trivial
          simp (disch := omega) only [go_sem]
          exact .eq (by rw [hk, all_false hbm hp]; simp)
        · simp (disch := omega) only [go_sem, Bool.not_true]
          refine hJ _ (i + 1) ⟨by simp at hlt; omega, (by rw [all_take hb, hP, hp]; rfl)⟩ (by simp at hlt; omega) (Imp.weak (by simp (disch := omega) only [go_sem]) (by simp (disch := omega) only [go_sem]))
      · subst hil
        rw [List.take_length] at hP
        refine ret_mk ⟨[], [], []⟩ _ (by (try simp (disch := omega) only [go_sem, resVs, resV]) <;> rfl) ⟨rfl, rfl⟩ (by simp) ?_ trivial
        simp (disch := omega) only [go_sem]
        exact .eq (by rw [hk, hc, hr, hP]; rfl)
theorem f203_ok (r : Res) : FnOK C0 203 [.agg r.c] [] (B (nameOK r.name && r.shaped && between r.home 0 3)) [] := by
  refine FnOK.intro (fn := Tryz.f203) (c := Tryz.f203.body.getD .skip) (by kernel_rfl) (by kernel_rfl) (by kernel_rfl) (by kernel_rfl) (by simp [Tryz.f203]) (by simp [names]) ?_
  unfold Tryz.f203
  simp (disch := omega) only [go_sem]
  repeat' (first
    | (with_reducible refine And.intro (fun h => ?_) (fun h => ?_))
    | ((with_reducible show callB _ _ 170 _ _ _); refine call_pure (f170_ok r.name) ?_ rfl ?_; (focus (simp (disch := omega) only [go_sem]; done)); try simp (disch := omega) only [go_sem])
    | ((with_reducible show callB _ _ 154 _ _ _); refine call_pure (f154_ok r) ?_ rfl ?_; (focus (simp (disch := omega) only [go_sem]; done)); try simp (disch := omega) only [go_sem]))
  all_goals (refine ret_mk ⟨[], [], []⟩ _ (by (try simp (disch := omega) only [go_sem, resVs, resV]) <;> rfl) ⟨rfl, rfl⟩ (by simp) ?_ trivial)
  all_goals (try simp (disch := omega) only [go_sem])
  all_goals (first | refine wb ?_ | refine wi ?_ | refine .eq ?_)
  all_goals (first | (simp_all [between] <;> omega) | (refine Bool.eq_iff_iff.2 ?_; simp_all [between] <;> omega))
theorem f225_ok (a b : Int) : FnOK C0 225 [I a, I b] [] (B (coversM a b)) [] := by
  refine FnOK.intro (fn := Tryz.f225) (c := Tryz.f225.body.getD .skip) (by kernel_rfl) (by kernel_rfl) (by kernel_rfl) (by kernel_rfl) (by simp [Tryz.f225]) (by simp [names]) ?_
  unfold Tryz.f225
  simp (disch := omega) only [go_sem]
  refine call_pure (f156_ok a) (by simp (disch := omega) only [go_sem]) rfl ?_
  cases ha : modeOK a
  · simp (disch := omega) only [go_sem, Bool.not_false]
    refine ret_mk ⟨[], [], []⟩ _ (by (try simp (disch := omega) only [go_sem, resVs, resV]) <;> rfl) ⟨rfl, rfl⟩ (by simp) ?_ trivial
    simp (disch := omega) only [go_sem]
    exact .eq (by simp [coversM, ha])
  simp (disch := omega) only [go_sem, Bool.not_true]
  refine call_pure (f156_ok b) (by simp (disch := omega) only [go_sem]) rfl ?_
  cases hb : modeOK b
  · simp (disch := omega) only [go_sem, Bool.not_false]
    refine ret_mk ⟨[], [], []⟩ _ (by (try simp (disch := omega) only [go_sem, resVs, resV]) <;> rfl) ⟨rfl, rfl⟩ (by simp) ?_ trivial
    simp (disch := omega) only [go_sem]
    exact .eq (by simp [coversM, hb])
  simp (disch := omega) only [go_sem, Bool.not_true]
  obtain rfl | rfl | rfl | rfl | rfl := mode_cases ha <;> obtain rfl | rfl | rfl | rfl | rfl := mode_cases hb
  all_goals (try simp (disch := omega) only [go_sem])
  all_goals (refine ret_mk ⟨[], [], []⟩ _ (by (try simp (disch := omega) only [go_sem, resVs, resV]) <;> rfl) ⟨rfl, rfl⟩ (by simp) ?_ trivial)
  all_goals simp (disch := omega) only [go_sem]
  all_goals exact wb (by decide)
theorem f157_ok (r : Res) (a : Amt) : FnOK C0 157 [.agg r.c, .agg a.c] [] (B (r.permits a)) [] := by
  refine FnOK.intro (fn := Tryz.f157) (c := Tryz.f157.body.getD .skip) (by kernel_rfl) (by kernel_rfl) (by kernel_rfl) (by kernel_rfl) (by simp [Tryz.f157]) (by simp [names]) ?_
  unfold Tryz.f157
  simp (disch := omega) only [go_sem]
  repeat' (first
    | (with_reducible refine And.intro (fun h => ?_) (fun h => ?_))
    | ((with_reducible show callB _ _ 154 _ _ _); refine call_pure (f154_ok r) ?_ rfl ?_; (focus (simp (disch := omega) only [go_sem]; done)); try simp (disch := omega) only [go_sem])
    | ((with_reducible show callB _ _ 137 _ _ _); refine call_pure (f137_ok a) ?_ rfl ?_; (focus (simp (disch := omega) only [go_sem]; done)); try simp (disch := omega) only [go_sem])
    | ((with_reducible show callB _ _ 111 _ _ _); refine call_pure (f111_ok r a) ?_ rfl ?_; (focus (simp (disch := omega) only [go_sem]; done)); try simp (disch := omega) only [go_sem]))
  all_goals (refine ret_mk ⟨[], [], []⟩ _ (by (try simp (disch := omega) only [go_sem, resVs, resV]) <;> rfl) ⟨rfl, rfl⟩ (by simp) ?_ trivial)
  all_goals (try simp (disch := omega) only [go_sem])
  all_goals (first | refine wb ?_ | refine wi ?_ | refine .eq ?_)
  all_goals (first | (simp_all [Res.permits] <;> omega) | (refine Bool.eq_iff_iff.2 ?_; simp_all [Res.permits] <;> omega))
theorem f77_ok (p : Proc) : FnOK C0 77 [.agg p.c] [] (B p.ok) [] := by
  refine FnOK.intro (fn := Tryz.f77) (c := Tryz.f77.body.getD .skip) (by kernel_rfl) (by kernel_rfl) (by kernel_rfl) (by kernel_rfl) (by simp [Tryz.f77]) (by simp [names]) ?_
  unfold Tryz.f77
  simp (disch := omega) only [go_sem]
  repeat' (with_reducible refine And.intro (fun h => ?_) (fun h => ?_))
  all_goals (refine ret_mk ⟨[], [], []⟩ _ (by (try simp (disch := omega) only [go_sem, resVs, resV]) <;> rfl) ⟨rfl, rfl⟩ (by simp) ?_ trivial)
  all_goals (try simp (disch := omega) only [go_sem])
  all_goals (first | refine wb ?_ | refine wi ?_ | refine .eq ?_)
  all_goals (first | (simp_all [Proc.ok, between] <;> omega) | (refine Bool.eq_iff_iff.2 ?_; simp_all [Proc.ok, between] <;> omega))
end Go.Rd
open Go Go.Abs Go.Proofs
set_option maxRecDepth 100000
namespace Go.Rd
theorem f158_ok (a b : Int) : FnOK C0 158 [I a, I b] [] (B (compatM a b)) [] := by
  refine FnOK.intro (fn := Tryz.f158) (c := Tryz.f158.body.getD .skip) (by kernel_rfl) (by kernel_rfl) (by kernel_rfl) (by kernel_rfl) (by simp [Tryz.f158]) (by simp [names]) ?_
  unfold Tryz.f158
  simp (disch := omega) only [go_sem]
  refine call_pure (f156_ok a) (by simp (disch := omega) only [go_sem]) rfl ?_
  cases ha : modeOK a
  · simp (disch := omega) only [go_sem, Bool.not_false]
    refine ret_mk ⟨[], [], []⟩ _ (by (try simp (disch := omega) only [go_sem, resVs, resV]) <;> rfl) ⟨rfl, rfl⟩ (by simp) ?_ trivial
    simp (disch := omega) only [go_sem]
    exact .eq (by simp [compatM, ha])
  simp (disch := omega) only [go_sem, Bool.not_true]
  refine call_pure (f156_ok b) (by simp (disch := omega) only [go_sem]) rfl ?_
  cases hb : modeOK b
  · simp (disch := omega) only [go_sem, Bool.not_false]
    refine ret_mk ⟨[], [], []⟩ _ (by (try simp (disch := omega) only [go_sem, resVs, resV]) <;> rfl) ⟨rfl, rfl⟩ (by simp) ?_ trivial
    simp (disch := omega) only [go_sem]
    exact .eq (by simp [compatM, hb])
  simp (disch := omega) only [go_sem, Bool.not_true]
  obtain rfl | rfl | rfl | rfl | rfl := mode_cases ha <;> obtain rfl | rfl | rfl | rfl | rfl := mode_cases hb
  all_goals (try simp (disch := omega) only [go_sem])
  all_goals (refine ret_mk ⟨[], [], []⟩ _ (by (try simp (disch := omega) only [go_sem, resVs, resV]) <;> rfl) ⟨rfl, rfl⟩ (by simp) ?_ trivial)
  all_goals simp (disch := omega) only [go_sem]
  all_goals exact wb (by decide)
theorem compatM_comm (a b : Int) : compatM a b = compatM b a := by
  cases ha : modeOK a
  · simp [compatM, ha]
  cases hb : modeOK b
  · simp [compatM, hb]
  obtain rfl | rfl | rfl | rfl | rfl := mode_cases ha <;> obtain rfl | rfl | rfl | rfl | rfl := mode_cases hb <;> decide
theorem f155_ok (l : List Hold) (hl : l.length ≤ 1000000) : FnOK C0 155 [holdsV l] [] (amtsV (l.map (·.amt))) [] := by
  refine FnOK.intro (fn := Tryz.f155) (c := Tryz.f155.body.getD .skip) (by kernel_rfl) (by kernel_rfl) (by kernel_rfl) (by kernel_rfl) (by simp [Tryz.f155]) (by simp [names]) ?_
  unfold Tryz.f155
  simp (disch := omega) only [go_sem]
  refine loop_intro (α := Nat) (fun i => ⟨[(4, I i), (0, holdsV l), (3, .sl (.own 1152 0) 2 ((l.take i).map fun h => h.amt.c))], []⟩) (fun i => i ≤ (l).length ∧ True) (fun i => (l).length - i) 0 ⟨by omega, trivial⟩ ?_ ?_
  · refine Imp.weak ?_ ?_
    all_goals (try simp (disch := omega) only [go_sem])
    all_goals (try (repeat' (with_reducible apply And.intro)))
    all_goals (first | exact .nilOwn (by omega) | exact .nilNo (by omega) | exact .sl (by simp []) | exact .int (by simp []) | exact .eq (by simp []))
  rintro i ⟨hi, hP⟩ J hJ
  simp (disch := omega) only [go_sem]
  refine And.intro (fun hlt => ?_) (fun hge => ?_)
  rotate_left
  have hil : i = (l).length := by simp at hge; omega
  rotate_left
  obtain ⟨b, hb⟩ : ∃ b, (l)[i]? = some b := ⟨_, List.getElem?_eq_getElem (by simp at hlt; omega)⟩
  have hbm := List.mem_of_getElem? hb
  have hlt2 : i < (l).length := by simp at hlt; omega
  simp (disch := omega) only [go_sem, List.getElem?_map, hb]
  · refine hJ _ (i + 1) ⟨by simp at hlt; omega, trivial⟩ (by simp at hlt; omega) (Imp.weak ?_ (by simp (disch := omega) only [go_sem]))
    simp (disch := omega) only [go_sem]
    exact .sl (by simp [List.take_add_one, hb, Amt.c])
  · subst hil
    refine ret_mk ⟨[], [], [1152]⟩ _ (by (try simp (disch := omega) only [go_sem, resVs, resV]) <;> rfl) ⟨rfl, rfl⟩ (by simp) ?_ trivial
    simp (disch := omega) only [go_sem, List.take_length]
    exact .sl (by simp [Amt.c])
theorem f171_ok (a : Amt) : FnOK C0 171 [.agg a.c] [] (B (lockR.fits a || poolR.fits a)) [] := by
  have e : (lockR.fits a || poolR.fits a) = (modeOK a.mode && a.units == 0 || (a.mode == 0 && decide (1 ≤ a.units) && decide (a.units ≤ 8))) := by
    refine Bool.eq_iff_iff.2 ?_
    simp [lockR, poolR, Res.fits, Res.shaped, between, and_assoc]
    exact ⟨fun h => h.imp id fun h => ⟨h.1, h.2.1, of_decide_eq_true h.2.2⟩, fun h => h.imp id fun h => ⟨h.1, h.2.1, decide_eq_true h.2.2⟩⟩
  rw [e]
  refine FnOK.intro (fn := Tryz.f171) (c := Tryz.f171.body.getD .skip) (by kernel_rfl) (by kernel_rfl) (by kernel_rfl) (by kernel_rfl) (by simp [Tryz.f171]) (by simp [names]) ?_
  unfold Tryz.f171
  simp (disch := omega) only [go_sem]
  repeat' (first
    | (with_reducible refine And.intro (fun h => ?_) (fun h => ?_))
    | ((with_reducible show callB _ _ 156 _ _ _); refine call_pure (f156_ok a.mode) ?_ rfl ?_; (focus (simp (disch := omega) only [go_sem]; done)); try simp (disch := omega) only [go_sem]))
  all_goals (refine ret_mk ⟨[], [], []⟩ _ (by (try simp (disch := omega) only [go_sem, resVs, resV]) <;> rfl) ⟨rfl, rfl⟩ (by simp) ?_ trivial)
  all_goals (try simp (disch := omega) only [go_sem])
  all_goals (first | refine wb ?_ | refine wi ?_ | refine .eq ?_)
  all_goals (first | (simp_all [] <;> omega) | (refine Bool.eq_iff_iff.2 ?_; simp_all [] <;> omega))
theorem f224_ok (w : Wait) : FnOK C0 224 [.agg w.c] [] (B w.ok) [] := by
  refine FnOK.intro (fn := Tryz.f224) (c := Tryz.f224.body.getD .skip) (by kernel_rfl) (by kernel_rfl) (by kernel_rfl) (by kernel_rfl) (by simp [Tryz.f224]) (by simp [names]) ?_
  unfold Tryz.f224
  simp (disch := omega) only [go_sem]
  repeat' (first
    | (with_reducible refine And.intro (fun h => ?_) (fun h => ?_))
    | ((with_reducible show callB _ _ 77 _ _ _); refine call_pure (f77_ok w.proc) ?_ rfl ?_; (focus (simp (disch := omega) only [go_sem]; done)); try simp (disch := omega) only [go_sem])
    | ((with_reducible show callB _ _ 171 _ _ _); refine call_pure (f171_ok w.amt) ?_ rfl ?_; (focus (simp (disch := omega) only [go_sem]; done)); try simp (disch := omega) only [go_sem]))
  all_goals (refine ret_mk ⟨[], [], []⟩ _ (by (try simp (disch := omega) only [go_sem, resVs, resV]) <;> rfl) ⟨rfl, rfl⟩ (by simp) ?_ trivial)
  all_goals (try simp (disch := omega) only [go_sem])
  all_goals (first | refine wb ?_ | refine wi ?_ | refine .eq ?_)
  all_goals (first | (simp_all [Wait.ok, between] <;> omega) | (refine Bool.eq_iff_iff.2 ?_; simp_all [Wait.ok, between] <;> omega))
theorem f204_ok (l : List Wait) (hl : l.length ≤ 1000000) : FnOK C0 204 [waitsV l] [] (B (lineOK l)) [] := by
  refine FnOK.intro (fn := Tryz.f204) (c := Tryz.f204.body.getD .skip) (by kernel_rfl) (by kernel_rfl) (by kernel_rfl) (by kernel_rfl) (by simp [Tryz.f204]) (by simp [names]) ?_
  unfold Tryz.f204
  by_cases h1 : 8 < l.length
  · have e1 : (8 < (l.length : Int)) = True := by simp; omega
    simp (disch := omega) only [go_sem, e1]
    refine ret_mk ⟨[], [], []⟩ _ (by (try simp (disch := omega) only [go_sem, resVs, resV]) <;> rfl) ⟨rfl, rfl⟩ (by simp) ?_ trivial
    simp (disch := omega) only [go_sem]
    exact .eq (by simp [lineOK]; omega)
  have e1 : (8 < (l.length : Int)) = False := by simp; omega
  simp (disch := omega) only [go_sem, e1, decide_false]
  refine loop_intro (α := Nat) (fun i => ⟨[(3, I i), (0, waitsV l)], []⟩) (fun i => i ≤ (l).length ∧ allAt (linePos l) (l.take i) = true) (fun i => (l).length - i) 0 ⟨by omega, rfl⟩ ?_ ?_
  · refine Imp.weak ?_ ?_
    all_goals (try simp (disch := omega) only [go_sem])
    all_goals (try (repeat' (with_reducible apply And.intro)))
    all_goals (first | exact .nilOwn (by omega) | exact .nilNo (by omega) | exact .sl (by simp []) | exact .int (by simp []) | exact .eq (by simp []))
  rintro i ⟨hi, hP⟩ J hJ
  simp (disch := omega) only [go_sem]
  refine And.intro (fun hlt => ?_) (fun hge => ?_)
  rotate_left
  have hil : i = (l).length := by simp at hge; omega
  rotate_left
  obtain ⟨b, hb⟩ : ∃ b, (l)[i]? = some b := ⟨_, List.getElem?_eq_getElem (by simp at hlt; omega)⟩
  have hbm := List.mem_of_getElem? hb
  have hlt2 : i < (l).length := by simp at hlt; omega
  simp (disch := omega) only [go_sem, List.getElem?_map, hb]
  · refine call_pure (f224_ok b) (by simp (disch := omega) only [go_sem]) rfl ?_
    cases hw : b.ok
    · have e : lineOK l = false := by simp [lineOK, allAt_false hb (show linePos l i b = false by simp [linePos, hw])]
      simp (disch := omega) only [go_sem, Bool.not_false, e]
      refine ret_mk ⟨[], [], []⟩ _ (by (try simp (disch := omega) only [go_sem, resVs, resV]) <;> rfl) ⟨rfl, rfl⟩ (by simp) ?_ trivial
      simp (disch := omega) only [go_sem]
    simp (disch := omega) only [go_sem, Bool.not_true, List.getElem?_map, hb]
    refine call_pure (f63_ok l b.proc (by omega)) (by simp (disch := omega) only [go_sem]) rfl ?_
    simp (disch := omega) only [go_sem]
    refine And.intro (fun h => ?_) (fun h => ?_)
    · have e : lineOK l = false := by simp [lineOK, allAt_false hb (show linePos l i b = false by simp at h; simp [linePos, h])]
      simp (disch := omega) only [go_sem, e]
      refine ret_mk ⟨[], [], []⟩ _ (by (try simp (disch := omega) only [go_sem, resVs, resV]) <;> rfl) ⟨rfl, rfl⟩ (by simp) ?_ trivial
      simp (disch := omega) only [go_sem]
    · refine hJ _ (i + 1) ⟨by simp at hlt; omega, (by rw [allAt_take hb, hP]; simp at h; simp [linePos, hw, h])⟩ (by simp at hlt; omega) (Imp.weak (by simp (disch := omega) only [go_sem]) (by simp (disch := omega) only [go_sem]))
  · subst hil
    rw [List.take_length] at hP
    have e : lineOK l = true := by simp [lineOK, hP]; omega
    simp (disch := omega) only [go_sem, e]
    refine ret_mk ⟨[], [], []⟩ _ (by (try simp (disch := omega) only [go_sem, resVs, resV]) <;> rfl) ⟨rfl, rfl⟩ (by simp) ?_ trivial
    simp (disch := omega) only [go_sem]
end Go.Rd
