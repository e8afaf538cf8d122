/- part 14 of the proof -/
import Derived.Test.YtobcllcndnbmlaaGreatDoorM06
import Derived.Test.YtobcllcndnbmlaaGreatDoorM11
import Derived.Test.YtobcllcndnbmlaaGreatDoorM13
set_option linter.all false
open Go Go.Abs Go.Proofs
set_option maxRecDepth 100000
namespace Go.Rd
def GG : Nat → Option (List Value) := fun i => if i = 2 then some (togL.map .bool) else if i = 0 then some (fldL.map fun s => .string (str s)) else none
theorem sameG : Go.H.SameG C0.G GG := fun i vs h => by
 unfold GG at h
 by_cases h2 : i = 2
 ·subst h2
  simp only [if_true, Option.some.injEq] at h
  subst h
  exact ⟨tog, rfl, by simp [tog, List.map_map, Function.comp_def]⟩
 ·by_cases h0 : i = 0
  ·subst h0
   simp only [if_true, Option.some.injEq, show (0 : Nat) = 2 ↔ False from by decide, if_false] at h
   subst h
   exact ⟨fld, rfl, by simp [fld, List.map_map, Function.comp_def]⟩
  ·rw [if_neg h2, if_neg h0] at h; cases h
theorem closed {f : Nat} {xs : List AV} {hs : List Go.H.HV} {b : Bool} (hx : Go.H.ofAVs xs = some hs)
  (h : Go.H.isRes (.v (.bool b)) (Go.H.runK ⟨Tryz.prog, GG⟩ (Go.H.tabT Go.H.yT) (Go.H.tabF Go.H.yF) Go.H.W1 60 f hs [] 0 (2 ^ 128)) = true) : FnOK C0 f xs [] (B b) [] :=
 Go.H.closedK (A := C0) Go.H.yT Go.H.yF fol sameG h hx rfl
theorem f76_ok : FnOK C0 76 [nilS, nilS] [] (B true) [] := closed rfl (by kernel_rfl)
theorem f245_ok : FnOK C0 245 [nilS, nilS] [] (B true) [] := closed rfl (by kernel_rfl)
theorem f246_ok : FnOK C0 246 [nilS, nilS] [] (B true) [] := closed rfl (by kernel_rfl)
theorem f34_ok : FnOK C0 34 [.agg lnk, .agg lnk] [] (B true) [] := closed rfl (by kernel_rfl)
def detA (h : Bool) (l m : Int) : List AV := [I 0, B false, B false, nilS, B h, B false, B false, I l, I m, I 0, I 0, nilS, nilS, nilS, nilS, nilS, nilS, nilS, nilS, nilS, nilS, I 0, I 0]
theorem f33_z : FnOK C0 33 [.agg (detA false 0 0), .agg (detA false 0 0)] [] (B true) [] := closed rfl (by kernel_rfl)
theorem f33_h : FnOK C0 33 [.agg (detA true (-1) (-1)), .agg (detA true (-1) (-1))] [] (B true) [] := closed rfl (by kernel_rfl)
theorem f33_n : FnOK C0 33 [.agg (detA false 0 (-1)), .agg (detA false 0 (-1))] [] (B true) [] := closed rfl (by kernel_rfl)
theorem f33_ok (id : Int) : FnOK C0 33 [.agg (detA (tk0 id) (tkl id) (-1)), .agg (detA (tk0 id) (tkl id) (-1))] [] (B true) [] := by
 unfold tk0 tkl
 by_cases h : id = 0
 ·simp only [h, decide_true, if_true]; exact f33_h
 ·simp only [h, decide_false, if_false]; exact f33_n
theorem f32_ok (a b : Int) : FnOK C0 32 [.agg [I a, I b, I 0, I 0, nilS], .agg [I a, I b, I 0, I 0, nilS]] [] (B true) [] := by
 refine FnOK.go Tryz.f32 ?_
 unfold Tryz.f32
 simp (disch := omega) only [go_sem]
 refine loop_intro (α := Nat) (fun _ => ⟨[(5, I 0), (2, .ptr 128 0), (3, .ptr 192 0)], [(128, [I a, I b, I 0, I 0, nilS]), (192, [I a, I b, I 0, I 0, nilS])]⟩) (fun _ => True) (fun _ => 0) 0 trivial imp1 ?_
 rintro i _ J hJ
 simp (disch := omega) only [go_sem]
 refine ret1 _ ?_
 simp (disch := omega) only [go_sem]
theorem f141_ok (r : Res) : FnOK C0 141 [.agg r.n, .agg r.n] [] (B true) [] := by
 refine FnOK.go Tryz.f141 ?_
 unfold Tryz.f141
 simp (disch := omega) only [go_sem]
 refine call1 f245_ok ?_
 simp (disch := omega) only [go_sem]
 refine call1 f246_ok ?_
 simp (disch := omega) only [go_sem]
 refine call1 f246_ok ?_
 simp (disch := omega) only [go_sem]
 refine ret1 _ ?_
 simp (disch := omega) only [go_sem]
theorem f71_ok (l : List Res) (hl : l.length ≤ 8) : FnOK C0 71 [newQs l, newQs l] [] (B true) [] := by
 refine FnOK.go Tryz.f71 ?_
 unfold Tryz.f71
 simp (disch := omega) only [go_sem, List.length_map]
 refine loop_intro (α := Nat) (fun i => ⟨[(5, I i), (0, newQs l), (1, newQs l)], []⟩) (fun i => i ≤ (l).length ∧ True) (fun i => (l).length - i) 0 ⟨by omega, trivial⟩ ?_ ?_
 ·refine Imp.weak ?_ ?_
  all_goals (try simp (disch := omega) only [go_sem])
  all_goals (try (repeat' (with_reducible apply And.intro)))
  all_goals (first | exact .nilOwn (by omega) | exact .nilNo (by omega) | exact .sl (by simp []) | exact .int (by simp []) | exact .eq (by simp []))
 rintro i ⟨hi, hP⟩ J hJ
 simp (disch := omega) only [go_sem]
 refine And.intro (fun hlt => ?_) (fun hge => ?_)
 rotate_left
 have hil : i = (l).length := by simp at hge; omega
 rotate_left
 obtain ⟨b, hb⟩ : ∃ b, (l)[i]? = some b := ⟨_, List.getElem?_eq_getElem (by simp at hlt; omega)⟩
 have hbm := List.mem_of_getElem? hb
 have hlt2 : i < (l).length := by simp at hlt; omega
 refine draw_mk 8 [([], [0]), ([], [5]), ([0, 1], [17, 18]), ([0, 1, 2], [19]), ([], [1]), ([], [5]), ([4, 5], [21, 22]), ([4, 5, 6], [23]), ([0, 1, 2, 3, 4, 5, 6, 7], []), ([0, 1, 2, 3, 4, 5, 6, 7, 8], [])] fol (by kernel_rfl) ?_
 simp (disch := omega) only [go_sem, List.getElem?_map, hb]
 ·first | (refine call1 (f141_ok b) ?_) | (refine fcall1 (f141_ok b) ?_)
  simp (disch := omega) only [go_sem, Bool.not_true]
  refine hJ _ (i + 1) ⟨by simp at hlt; omega, trivial⟩ (by simp at hlt; omega) imp1
 ·refine ret1 _ ?_
  simp (disch := omega) only [go_sem]
theorem f31_ok (l : List Res) (hl : l.length ≤ 8) : FnOK C0 31 [.agg [newQs l, nilS], .agg [newQs l, nilS]] [] (B true) [] := by
 refine FnOK.go Tryz.f31 ?_
 unfold Tryz.f31
 simp (disch := omega) only [go_sem]
 refine call1 (f71_ok l hl) ?_
 simp (disch := omega) only [go_sem]
 refine loop_intro (α := Nat) (fun _ => ⟨[(5, I 0), (2, .ptr 128 0), (3, .ptr 192 0)], [(128, [newQs l, nilS]), (192, [newQs l, nilS])]⟩) (fun _ => True) (fun _ => 0) 0 trivial imp1 ?_
 rintro i _ J hJ
 simp (disch := omega) only [go_sem]
 refine ret1 _ ?_
 simp (disch := omega) only [go_sem]
theorem f8_z : FnOK C0 8 [.agg zeroSite, .agg zeroSite] [] (B true) [] := closed rfl (by kernel_rfl)
def durC (q links : AV) : List AV := [I 1, q, nilS, links, I 0, I 0]
def durZ : List AV := [I 0, nilS, nilS, nilS, I 0, I 0]
attribute [go_sem] durC durZ
theorem f8_ok (l : List Res) (id n : Int) (k : Nat) (hl : l.length ≤ 8) (hk : k ≤ 4) : FnOK C0 8 [.agg (siteX id n (newQs l) (.sl .no 3 (List.replicate k lnk))), .agg (siteX id n (newQs l) (.sl .no 3 (List.replicate k lnk)))] [] (B true) [] := by
 have hd := f33_ok id
 unfold detA at hd
 have hr : (List.replicate k lnk).length = k := by simp
 refine FnOK.go Tryz.f8 ?_
 unfold Tryz.f8
 simp (disch := omega) only [go_sem]
 refine draw_sym2 [(0, [], [1, 6, 7]), (1, [0], [6, 7]), (2, [], [3, 7]), (3, [2], [7]), (4, [], [6, 7]), (5, [], [6, 7]), (6, [4, 1, 0, 5], [7]), (7, [5, 3, 6, 0, 1, 2, 4], [])] [0, 1, 2, 3, 4, 5, 6, 7] [(0, 8, .ptr 128 3, []), (1, 9, .agg (durC (newQs l) (.sl .no 3 (List.replicate k lnk))), []), (2, 10, .ptr 192 3, []), (3, 11, .agg (durC (newQs l) (.sl .no 3 (List.replicate k lnk))), []), (4, 5, .ptr 320 0, []), (5, 6, .ptr 384 0, [])] (fun b => [(2, .ptr 128 0), (3, .ptr 192 0), (4, B false)]) (fun b => (if b 4 then (if b 5 then [(320, if b 6 then durC (newQs l) (.sl .no 3 (List.replicate k lnk)) else durZ), (384, if b 7 then durC (newQs l) (.sl .no 3 (List.replicate k lnk)) else durZ), (128, siteX id n (newQs l) (.sl .no 3 (List.replicate k lnk))), (192, siteX id n (newQs l) (.sl .no 3 (List.replicate k lnk)))] else [(320, if b 6 then durC (newQs l) (.sl .no 3 (List.replicate k lnk)) else durZ), (128, siteX id n (newQs l) (.sl .no 3 (List.replicate k lnk))), (192, siteX id n (newQs l) (.sl .no 3 (List.replicate k lnk)))]) else (if b 5 then [(384, if b 7 then durC (newQs l) (.sl .no 3 (List.replicate k lnk)) else durZ), (128, siteX id n (newQs l) (.sl .no 3 (List.replicate k lnk))), (192, siteX id n (newQs l) (.sl .no 3 (List.replicate k lnk)))] else [(128, siteX id n (newQs l) (.sl .no 3 (List.replicate k lnk))), (192, siteX id n (newQs l) (.sl .no 3 (List.replicate k lnk)))]))) ?_ (fun b => ?_) (fun b => ?_) fol
 ·exact Imp.weak (by simp (disch := omega) only [go_sem]) (by simp (disch := omega) only [go_sem])
 ·simp only [symP, and_true]
  cases h4 : b 4 <;> cases h5 : b 5
  all_goals repeat' (with_reducible refine And.intro ?_ ?_)
  all_goals simp (disch := omega) only [go_sem, h4, h5]
  all_goals (try first | (refine sel_step [] rfl (by rfl) ?_ ?_ ?_ <;> (simp (disch := omega) only [go_sem, h4, h5]; done)) | (refine sel_step [(_, _)] rfl (by rfl) ?_ ?_ ?_ <;> (simp (disch := omega) only [go_sem, h4, h5]; done)) | (refine sel_step [(_, _), (_, _)] rfl (by rfl) ?_ ?_ ?_ <;> (simp (disch := omega) only [go_sem, h4, h5]; done)) | (refine sel_step [(_, _), (_, _), (_, _)] rfl (by rfl) ?_ ?_ ?_ <;> (simp (disch := omega) only [go_sem, h4, h5]; done)) | (refine sel_skip [] rfl (by rfl) ?_ ?_ ?_ <;> (simp (disch := omega) only [go_sem, h4, h5]; done)) | (refine sel_skip [(_, _)] rfl (by rfl) ?_ ?_ ?_ <;> (simp (disch := omega) only [go_sem, h4, h5]; done)))
 simp (disch := omega) only [go_sem]
 simp only [List.append_eq, List.cons_append, List.nil_append]
 simp (disch := omega) only [go_sem]
 refine call1 (f31_ok l hl) ?_
 simp (disch := omega) only [go_sem]
 refine call1 (f32_ok id 1) ?_
 simp (disch := omega) only [go_sem]
 refine call1 hd ?_
 simp (disch := omega) only [go_sem]
 refine loop_intro (α := Nat) (fun i => ⟨[(7, I i), (5, .ptr 320 0), (6, .ptr 384 0)], [(320, durC (newQs l) (.sl .no 3 (List.replicate k lnk))), (384, durC (newQs l) (.sl .no 3 (List.replicate k lnk)))]⟩) (fun i => i ≤ ((List.replicate k lnk)).length ∧ True) (fun i => ((List.replicate k lnk)).length - i) 0 ⟨by omega, trivial⟩ ?_ ?_
 ·refine Imp.weak ?_ ?_
  all_goals (try simp (disch := omega) only [go_sem])
  all_goals (try (repeat' (with_reducible apply And.intro)))
  all_goals (first | exact .nilOwn (by omega) | exact .nilNo (by omega) | exact .sl (by simp []) | exact .int (by simp []) | exact .eq (by simp []))
 rintro i ⟨hi, hP⟩ J hJ
 simp (disch := omega) only [go_sem]
 refine And.intro (fun hlt => ?_) (fun hge => ?_)
 rotate_left
 have hil : i = ((List.replicate k lnk)).length := by simp at hge; omega
 rotate_left
 obtain ⟨b, hb⟩ : ∃ b, ((List.replicate k lnk))[i]? = some b := ⟨_, List.getElem?_eq_getElem (by simp at hlt; omega)⟩
 have hbm := List.mem_of_getElem? hb
 have hlt2 : i < ((List.replicate k lnk)).length := by simp at hlt; omega
 refine draw_mk 10 [([], [5]), ([0], [92]), ([], [7]), ([0, 1, 2], [93, 94]), ([0, 1, 2, 3], [95]), ([], [6]), ([5], [97]), ([], [7]), ([5, 6, 7], [98, 99]), ([5, 6, 7, 8], [100]), ([0, 1, 2, 3, 4, 5, 6, 7, 8, 9], []), ([0, 1, 2, 3, 4, 5, 6, 7, 8, 9, 10], [])] fol (by kernel_rfl) ?_
 simp (disch := omega) only [go_sem, List.getElem?_map, hb]
 ·have hbl : b = lnk := List.eq_of_mem_replicate hbm
  subst hbl
  simp (disch := omega) only [go_sem, hb]
  first | (refine call1 f34_ok ?_) | (refine fcall1 f34_ok ?_)
  simp (disch := omega) only [go_sem, Bool.not_true]
  refine hJ _ (i + 1) ⟨by simp at hlt; omega, trivial⟩ (by simp at hlt; omega) imp1
 ·refine ret1 _ ?_
  simp (disch := omega) only [go_sem]
end Go.Rd
