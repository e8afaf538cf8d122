/- part 14 of the proof -/
import Derived.Test.YtabbhaeabcdonaaGreatDoorM05
import Derived.Test.YtabbhaeabcdonaaGreatDoorM06
import Derived.Test.YtabbhaeabcdonaaGreatDoorM12
import Derived.Test.YtabbhaeabcdonaaGreatDoorM13
set_option linter.all false
open Go Go.Abs Go.Proofs
set_option maxRecDepth 100000
namespace Go.Rd
def GG : Nat → Option (List Value) := fun i => if i = 2 then some (togL.map .bool) else if i = 1 then some (fldL.map fun s => .string (str s)) else none
theorem sameG : Go.H.SameG C0.G GG := fun i vs h => by
 unfold GG at h
 by_cases h2 : i = 2
 ·subst h2
  simp only [if_true, Option.some.injEq] at h
  subst h
  exact ⟨tog, rfl, by simp [tog, List.map_map, Function.comp_def]⟩
 ·by_cases h0 : i = 1
  ·subst h0
   simp only [if_true, Option.some.injEq, show (1 : Nat) = 2 ↔ False from by decide, if_false] at h
   subst h
   exact ⟨fld, rfl, by simp [fld, List.map_map, Function.comp_def]⟩
  ·rw [if_neg h2, if_neg h0] at h; cases h
theorem closed {f : Nat} {xs : List AV} {hs : List Go.H.HV} {b : Bool} (hx : Go.H.ofAVs xs = some hs)
  (h : Go.H.isRes (.v (.bool b)) (Go.H.runK ⟨Tryz.prog, GG⟩ (Go.H.tabT Go.H.yT) (Go.H.tabF Go.H.yF) Go.H.W1 60 f hs [] 0 (2 ^ 128)) = true) : FnOK C0 f xs [] (B b) [] :=
 Go.H.closedK (A := C0) Go.H.yT Go.H.yF fol sameG h hx rfl
theorem f16_ok : FnOK C0 16 [nilS, nilS] [] (B true) [] := closed rfl (by kernel_rfl)
theorem f186_ok : FnOK C0 186 [nilS, nilS] [] (B true) [] := closed rfl (by kernel_rfl)
theorem f187_ok : FnOK C0 187 [nilS, nilS] [] (B true) [] := closed rfl (by kernel_rfl)
theorem f42_ok : FnOK C0 42 [.agg lnk, .agg lnk] [] (B true) [] := closed rfl (by kernel_rfl)
def detA (h : Bool) (l m : Int) : List AV := [I 0, B false, B false, nilS, B h, B false, B false, I l, I m, I 0, I 0, nilS, nilS, nilS, nilS, nilS, nilS, nilS, nilS, nilS, nilS, I 0, I 0]
theorem f41_z : FnOK C0 41 [.agg (detA false 0 0), .agg (detA false 0 0)] [] (B true) [] := closed rfl (by kernel_rfl)
theorem f41_h : FnOK C0 41 [.agg (detA true (-1) (-1)), .agg (detA true (-1) (-1))] [] (B true) [] := closed rfl (by kernel_rfl)
theorem f41_n : FnOK C0 41 [.agg (detA false 0 (-1)), .agg (detA false 0 (-1))] [] (B true) [] := closed rfl (by kernel_rfl)
theorem f41_ok (id : Int) : FnOK C0 41 [.agg (detA (tk0 id) (tkl id) (-1)), .agg (detA (tk0 id) (tkl id) (-1))] [] (B true) [] := by
 unfold tk0 tkl
 by_cases h : id = 0
 ·simp only [h, decide_true, if_true]; exact f41_h
 ·simp only [h, decide_false, if_false]; exact f41_n
theorem f40_ok (a b : Int) : FnOK C0 40 [.agg [I a, I b, I 0, I 0, nilS], .agg [I a, I b, I 0, I 0, nilS]] [] (B true) [] := by
 refine FnOK.go Tryz.f40 ?_
 unfold Tryz.f40
 simp (disch := omega) only [go_sem]
 refine loop_intro (α := Nat) (fun _ => ⟨[(5, I 0), (2, .ptr 128 0), (3, .ptr 192 0)], [(128, [I a, I b, I 0, I 0, nilS]), (192, [I a, I b, I 0, I 0, nilS])]⟩) (fun _ => True) (fun _ => 0) 0 trivial imp1 ?_
 rintro i _ J hJ
 simp (disch := omega) only [go_sem]
 refine ret1 _ ?_
 simp (disch := omega) only [go_sem]
theorem f118_ok (r : Res) : FnOK C0 118 [.agg r.n, .agg r.n] [] (B true) [] := by
 refine FnOK.go Tryz.f118 ?_
 unfold Tryz.f118
 simp (disch := omega) only [go_sem]
 refine call1 f186_ok ?_
 simp (disch := omega) only [go_sem]
 refine call1 f187_ok ?_
 simp (disch := omega) only [go_sem]
 refine call1 f187_ok ?_
 simp (disch := omega) only [go_sem]
 refine ret1 _ ?_
 simp (disch := omega) only [go_sem]
theorem f69_ok (l : List Res) (hl : l.length ≤ 8) : FnOK C0 69 [newQs l, newQs l] [] (B true) [] := by
 refine FnOK.go Tryz.f69 ?_
 unfold Tryz.f69
 simp (disch := omega) only [go_sem, List.length_map]
 refine loop_intro (α := Nat) (fun i => ⟨[(5, I i), (0, newQs l), (1, newQs l)], []⟩) (fun i => i ≤ (l).length ∧ True) (fun i => (l).length - i) 0 ⟨by omega, trivial⟩ ?_ ?_
 ·refine Imp.weak ?_ ?_
  all_goals (try simp (disch := omega) only [go_sem])
  all_goals (try (repeat' (with_reducible apply And.intro)))
  all_goals (first | exact .nilOwn (by omega) | exact .nilNo (by omega) | exact .sl (by simp []) | exact .int (by simp []) | exact .eq (by simp []))
 rintro i ⟨hi, hP⟩ J hJ
 simp (disch := omega) only [go_sem]
 refine And.intro (fun hlt => ?_) (fun hge => ?_)
 rotate_left
 have hil : i = (l).length := by simp at hge; omega
 rotate_left
 obtain ⟨b, hb⟩ : ∃ b, (l)[i]? = some b := ⟨_, List.getElem?_eq_getElem (by simp at hlt; omega)⟩
 have hbm := List.mem_of_getElem? hb
 have hlt2 : i < (l).length := by simp at hlt; omega
 refine draw_mk 8 [([], [0]), ([], [5]), ([0, 1], [17, 18]), ([0, 1, 2], [19]), ([], [1]), ([], [5]), ([4, 5], [21, 22]), ([4, 5, 6], [23]), ([0, 1, 2, 3, 4, 5, 6, 7], []), ([0, 1, 2, 3, 4, 5, 6, 7, 8], [])] fol (by kernel_rfl) ?_
 simp (disch := omega) only [go_sem, List.getElem?_map, hb]
 ·first | (refine call1 (f118_ok b) ?_) | (refine fcall1 (f118_ok b) ?_)
  simp (disch := omega) only [go_sem, Bool.not_true]
  refine hJ _ (i + 1) ⟨by simp at hlt; omega, trivial⟩ (by simp at hlt; omega) imp1
 ·refine ret1 _ ?_
  simp (disch := omega) only [go_sem]
theorem f39_ok (l : List Res) (hl : l.length ≤ 8) : FnOK C0 39 [.agg [newQs l, nilS], .agg [newQs l, nilS]] [] (B true) [] := by
 refine FnOK.go Tryz.f39 ?_
 unfold Tryz.f39
 simp (disch := omega) only [go_sem]
 refine call1 (f69_ok l hl) ?_
 simp (disch := omega) only [go_sem]
 refine loop_intro (α := Nat) (fun _ => ⟨[(5, I 0), (2, .ptr 128 0), (3, .ptr 192 0)], [(128, [newQs l, nilS]), (192, [newQs l, nilS])]⟩) (fun _ => True) (fun _ => 0) 0 trivial imp1 ?_
 rintro i _ J hJ
 simp (disch := omega) only [go_sem]
 refine ret1 _ ?_
 simp (disch := omega) only [go_sem]
theorem f15_z : FnOK C0 15 [.agg zeroSite, .agg zeroSite] [] (B true) [] := closed rfl (by kernel_rfl)
def durC (q links : AV) : List AV := [I 1, q, nilS, links, I 0, I 0]
def durZ : List AV := [I 0, nilS, nilS, nilS, I 0, I 0]
attribute [go_sem] durC durZ
theorem f15_ok (l : List Res) (id n : Int) (k : Nat) (hl : l.length ≤ 8) (hk : k ≤ 4) : FnOK C0 15 [.agg (siteX id n (newQs l) (.sl .no 3 (List.replicate k lnk))), .agg (siteX id n (newQs l) (.sl .no 3 (List.replicate k lnk)))] [] (B true) [] := by
 have hd := f41_ok id
 unfold detA at hd
 have hr : (List.replicate k lnk).length = k := by simp
 refine FnOK.go Tryz.f15 ?_
 unfold Tryz.f15
 simp (disch := omega) only [go_sem]
 refine draw_sym2 [(0, [], [1, 6, 7]), (1, [0], [6, 7]), (2, [], [3, 7]), (3, [2], [7]), (4, [], [6, 7]), (5, [], [6, 7]), (6, [4, 1, 0, 5], [7]), (7, [5, 3, 6, 0, 1, 2, 4], [])] [0, 1, 2, 3, 4, 5, 6, 7] [(0, 8, .ptr 128 3, []), (1, 9, .agg (durC (newQs l) (.sl .no 3 (List.replicate k lnk))), []), (2, 10, .ptr 192 3, []), (3, 11, .agg (durC (newQs l) (.sl .no 3 (List.replicate k lnk))), []), (4, 5, .ptr 320 0, []), (5, 6, .ptr 384 0, [])] (fun b => [(2, .ptr 128 0), (3, .ptr 192 0), (4, B false)]) (fun b => (if b 4 then (if b 5 then [(320, if b 6 then durC (newQs l) (.sl .no 3 (List.replicate k lnk)) else durZ), (384, if b 7 then durC (newQs l) (.sl .no 3 (List.replicate k lnk)) else durZ), (128, siteX id n (newQs l) (.sl .no 3 (List.replicate k lnk))), (192, siteX id n (newQs l) (.sl .no 3 (List.replicate k lnk)))] else [(320, if b 6 then durC (newQs l) (.sl .no 3 (List.replicate k lnk)) else durZ), (128, siteX id n (newQs l) (.sl .no 3 (List.replicate k lnk))), (192, siteX id n (newQs l) (.sl .no 3 (List.replicate k lnk)))]) else (if b 5 then [(384, if b 7 then durC (newQs l) (.sl .no 3 (List.replicate k lnk)) else durZ), (128, siteX id n (newQs l) (.sl .no 3 (List.replicate k lnk))), (192, siteX id n (newQs l) (.sl .no 3 (List.replicate k lnk)))] else [(128, siteX id n (newQs l) (.sl .no 3 (List.replicate k lnk))), (192, siteX id n (newQs l) (.sl .no 3 (List.replicate k lnk)))]))) ?_ (fun b => ?_) (fun b => ?_) fol
 ·exact Imp.weak (by simp (disch := omega) only [go_sem]) (by simp (disch := omega) only [go_sem])
 ·simp only [symP, and_true]
  cases h4 : b 4 <;> cases h5 : b 5
  all_goals repeat' (with_reducible refine And.intro ?_ ?_)
  all_goals simp (disch := omega) only [go_sem, h4, h5]
  all_goals (try first | (refine sel_step [] rfl (by rfl) ?_ ?_ ?_ <;> (simp (disch := omega) only [go_sem, h4, h5]; done)) | (refine sel_step [(_, _)] rfl (by rfl) ?_ ?_ ?_ <;> (simp (disch := omega) only [go_sem, h4, h5]; done)) | (refine sel_step [(_, _), (_, _)] rfl (by rfl) ?_ ?_ ?_ <;> (simp (disch := omega) only [go_sem, h4, h5]; done)) | (refine sel_step [(_, _), (_, _), (_, _)] rfl (by rfl) ?_ ?_ ?_ <;> (simp (disch := omega) only [go_sem, h4, h5]; done)) | (refine sel_skip [] rfl (by rfl) ?_ ?_ ?_ <;> (simp (disch := omega) only [go_sem, h4, h5]; done)) | (refine sel_skip [(_, _)] rfl (by rfl) ?_ ?_ ?_ <;> (simp (disch := omega) only [go_sem, h4, h5]; done)))
 simp (disch := omega) only [go_sem]
 simp only [List.append_eq, List.cons_append, List.nil_append]
 simp (disch := omega) only [go_sem]
 refine call1 (f39_ok l hl) ?_
 simp (disch := omega) only [go_sem]
 refine call1 (f40_ok id 1) ?_
 simp (disch := omega) only [go_sem]
 refine call1 hd ?_
 simp (disch := omega) only [go_sem]
 refine loop_intro (α := Nat) (fun i => ⟨[(7, I i), (5, .ptr 320 0), (6, .ptr 384 0)], [(320, durC (newQs l) (.sl .no 3 (List.replicate k lnk))), (384, durC (newQs l) (.sl .no 3 (List.replicate k lnk)))]⟩) (fun i => i ≤ ((List.replicate k lnk)).length ∧ True) (fun i => ((List.replicate k lnk)).length - i) 0 ⟨by omega, trivial⟩ ?_ ?_
 ·refine Imp.weak ?_ ?_
  all_goals (try simp (disch := omega) only [go_sem])
  all_goals (try (repeat' (with_reducible apply And.intro)))
  all_goals (first | exact .nilOwn (by omega) | exact .nilNo (by omega) | exact .sl (by simp []) | exact .int (by simp []) | exact .eq (by simp []))
 rintro i ⟨hi, hP⟩ J hJ
 simp (disch := omega) only [go_sem]
 refine And.intro (fun hlt => ?_) (fun hge => ?_)
 rotate_left
 have hil : i = ((List.replicate k lnk)).length := by simp at hge; omega
 rotate_left
 obtain ⟨b, hb⟩ : ∃ b, ((List.replicate k lnk))[i]? = some b := ⟨_, List.getElem?_eq_getElem (by simp at hlt; omega)⟩
 have hbm := List.mem_of_getElem? hb
 have hlt2 : i < ((List.replicate k lnk)).length := by simp at hlt; omega
 refine draw_mk 10 [([], [5]), ([0], [92]), ([], [7]), ([0, 1, 2], [93, 94]), ([0, 1, 2, 3], [95]), ([], [6]), ([5], [97]), ([], [7]), ([5, 6, 7], [98, 99]), ([5, 6, 7, 8], [100]), ([0, 1, 2, 3, 4, 5, 6, 7, 8, 9], []), ([0, 1, 2, 3, 4, 5, 6, 7, 8, 9, 10], [])] fol (by kernel_rfl) ?_
 simp (disch := omega) only [go_sem, List.getElem?_map, hb]
 ·have hbl : b = lnk := List.eq_of_mem_replicate hbm
  subst hbl
  simp (disch := omega) only [go_sem, hb]
  first | (refine call1 f42_ok ?_) | (refine fcall1 f42_ok ?_)
  simp (disch := omega) only [go_sem, Bool.not_true]
  refine hJ _ (i + 1) ⟨by simp at hlt; omega, trivial⟩ (by simp at hlt; omega) imp1
 ·refine ret1 _ ?_
  simp (disch := omega) only [go_sem]
theorem f14_ok (l : List Res) (hl : l.length ≤ 1000000) : FnOK C0 14 [ressV l, ressV l] [] (B true) [] := by
 refine FnOK.go Tryz.f14 ?_
 unfold Tryz.f14
 simp (disch := omega) only [go_sem, List.length_map]
 refine loop_intro (α := Nat) (fun i => ⟨[(5, I i), (0, ressV l), (1, ressV l)], []⟩) (fun i => i ≤ (l).length ∧ True) (fun i => (l).length - i) 0 ⟨by omega, trivial⟩ ?_ ?_
 ·refine Imp.weak ?_ ?_
  all_goals (try simp (disch := omega) only [go_sem])
  all_goals (try (repeat' (with_reducible apply And.intro)))
  all_goals (first | exact .nilOwn (by omega) | exact .nilNo (by omega) | exact .sl (by simp []) | exact .int (by simp []) | exact .eq (by simp []))
 rintro i ⟨hi, hP⟩ J hJ
 simp (disch := omega) only [go_sem]
 refine And.intro (fun hlt => ?_) (fun hge => ?_)
 rotate_left
 have hil : i = (l).length := by simp at hge; omega
 rotate_left
 obtain ⟨b, hb⟩ : ∃ b, (l)[i]? = some b := ⟨_, List.getElem?_eq_getElem (by simp at hlt; omega)⟩
 have hbm := List.mem_of_getElem? hb
 have hlt2 : i < (l).length := by simp at hlt; omega
 refine draw_mk 8 [([], [0]), ([], [5]), ([0, 1], [17, 18]), ([0, 1, 2], [19]), ([], [1]), ([], [5]), ([4, 5], [21, 22]), ([4, 5, 6], [23]), ([0, 1, 2, 3, 4, 5, 6, 7], [])] fol (by kernel_rfl) ?_
 simp (disch := omega) only [go_sem, List.getElem?_map, hb]
 ·refine hJ _ (i + 1) ⟨by simp at hlt; omega, trivial⟩ (by simp at hlt; omega) imp1
 ·refine ret1 _ ?_
  simp (disch := omega) only [go_sem]
theorem f7_z : FnOK C0 7 [.agg [nilS, nilS, nilS], .agg [nilS, nilS, nilS]] [] (B true) [] := closed rfl (by kernel_rfl)
end Go.Rd
open Go Go.Abs Go.Proofs
set_option maxRecDepth 100000
namespace Go.Rd
theorem f11_ok (l : List Res) (hl : l.length ≤ 1000000) : FnOK C0 11 [ressV l] [] (ressV l) [] := by
 refine FnOK.introW (fn := Tryz.f11) (c := Tryz.f11.body.getD .skip) (by kernel_rfl) (by kernel_rfl) (by kernel_rfl) (by kernel_rfl) (by simp [Tryz.f11]) (by simp [names]) fun A g a w hA hR => ?_
 unfold Tryz.f11 at hR ⊢
 dsimp only [Option.getD_some] at hR ⊢
 refine wp_nil (X := ⟨C0, []⟩) (S1 := ⟨[(2, nilS), (0, ressV l)], []⟩) (e := 64) hA (by simp) (by kernel_rfl) rfl rfl rfl rfl rfl rfl (by kernel_rfl) ?_ rfl (fun b hb => ?_) hR
 ·simp (disch := omega) only [go_sem]
 ·cases b
  ·simp (disch := omega) only [go_sem, List.length_map, List.length_nil]
   refine ret2 ⟨[], [], [448]⟩ _ ?_
   simp (disch := omega) only [go_sem, List.nil_append]
  ·have hl0 : l = [] := by have := hb rfl; simpa using this
   subst hl0
   simp (disch := omega) only [go_sem]
   refine ret1 _ ?_
   simp (disch := omega) only [go_sem, ressV, List.map_nil]
end Go.Rd
open Go Go.Abs Go.Proofs
set_option maxRecDepth 100000
namespace Go.Rd
def machOK (l : List Res) (n : Int) : Bool := catOK l && decide (1 ≤ n) && decide (n ≤ 4) && homesOK l n
theorem newOK_yes {l : List Res} {n j : Int} (h : machOK l n = true) (h0 : 0 ≤ j) (h1 : j < n) : newOK l j n = true := by
 simp only [machOK, Bool.and_eq_true, decide_eq_true_eq] at h
 obtain ⟨⟨⟨a, b⟩, c⟩, d⟩ := h
 simp only [newOK, Bool.and_eq_true, a, d, and_true, true_and]
 exact properB_iff.2 ⟨b, c, h0, h1⟩
theorem newOK_no {l : List Res} {n : Int} (h : machOK l n = false) (h1 : 1 ≤ n) (h4 : n ≤ 4) (j : Int) : newOK l j n = false := by
 cases hc : newOK l j n with
 | false => rfl
 | true =>
  simp only [newOK, Bool.and_eq_true] at hc
  simp [machOK, hc.1.1, hc.2, h1, h4] at h
def siteRow (l : List Res) (k j : Nat) : List AV := siteX j k (newQs (atR l j)) (.sl .no 3 (List.replicate k lnk))
attribute [go_sem] siteRow
@[reducible] def sitesL (l : List Res) (k i : Nat) : List (List AV) := (List.range i).map (siteRow l k)
theorem f12_yes {l : List Res} {k i : Nat} (h : machOK l k = true) (hi : i < k) : FnOK C0 12 [ressV l, I i, I k] [] (.tup [.agg (siteRow l k i), I 0]) [] := by
 have := f12_ok l i k
 have e := newOK_yes (j := i) h (by omega) (by omega)
 simp only [siteV, siteE, e, if_true, siteC_eq, Int.toNat_natCast] at this
 exact this
theorem f12_no {l : List Res} {k i : Nat} (h : machOK l k = false) (h1 : 1 ≤ k) (h4 : k ≤ 4) : FnOK C0 12 [ressV l, I i, I k] [] (.tup [.agg zeroSite, I 1]) [] := by
 have := f12_ok l i k
 have e := newOK_no h (by omega) (by omega) i
 simp only [siteV, siteE, e, Bool.false_eq_true, if_false] at this
 exact this
theorem f13_yes {l : List Res} {k i : Nat} (h : machOK l k = true) (hi : i < k) : FnOK C0 13 [ressV l, I i, I k] [] (.tup [.agg (siteRow l k i), I 0]) [] := by
 have := f13_ok l i k
 have e := newOK_yes (j := i) h (by omega) (by omega)
 simp only [siteV, siteE, e, if_true, siteC_eq, Int.toNat_natCast] at this
 exact this
theorem f13_no {l : List Res} {k i : Nat} (h : machOK l k = false) (h1 : 1 ≤ k) (h4 : k ≤ 4) : FnOK C0 13 [ressV l, I i, I k] [] (.tup [.agg zeroSite, I 1]) [] := by
 have := f13_ok l i k
 have e := newOK_no h (by omega) (by omega) i
 simp only [siteV, siteE, e, Bool.false_eq_true, if_false] at this
 exact this
def machC (l : List Res) (k : Nat) : List AV := [ressV l, .sl .no 37 (sitesL l k k), .sl .no 1 (List.replicate (k * k) [nilS])]
def machV (l : List Res) (n : Int) : AV := .agg (if machOK l n then machC l n.toNat else [nilS, nilS, nilS])
def machE (l : List Res) (n : Int) : Int := if machOK l n then 0 else 1
theorem f5_ok (l : List Res) (n : Int) (hl : l.length ≤ 1000000) : FnOK C0 5 [ressV l, I n] [] (.tup [machV l n, I (machE l n)]) [] := by
 by_cases hn : 1 ≤ n ∧ n ≤ 4
 rotate_left
 ·have e : machOK l n = false := by
   cases h : machOK l n with
   | false => rfl
   | true => simp [machOK] at h; omega
  have er : AV.tup [machV l n, I (machE l n)] = .tup [.agg [nilS, nilS, nilS], I 1] := by simp [machV, machE, e]
  rw [er]
  refine FnOK.go Tryz.f5 ?_
  unfold Tryz.f5
  simp (disch := omega) only [go_sem]
  repeat' (with_reducible refine And.intro (fun h => ?_) (fun h => ?_))
  all_goals first
   | (exfalso; simp at *; omega)
   | (refine ret1 _ ?_
      simp (disch := omega) only [go_sem])
 obtain ⟨k, rfl⟩ : ∃ k : Nat, n = k := ⟨n.toNat, by omega⟩
 have h1 : 1 ≤ k := by omega
 have h4 : k ≤ 4 := by omega
 have hkk : k * k ≤ 16 := Nat.mul_le_mul h4 h4
 have hw : IntKind.i64.wrap ((k : Int) * k) = ((k * k : Nat) : Int) := by rw [wrap64 _ (by omega) (by rw [← Int.natCast_mul]; omega)]; simp
 refine FnOK.go Tryz.f5 ?_
 unfold Tryz.f5
 simp (disch := omega) only [go_sem, eq_false (show ¬ (k : Int) < 1 by omega), eq_false (show ¬ 4 < (k : Int) by omega)]
 obtain ⟨q, hq⟩ : ∃ q, q = k * k := ⟨_, rfl⟩
 rw [← hq] at hkk hw
 refine draw_sym2 [(0, [], [1, 8, 6]), (1, [0], [6, 8]), (2, [], [4, 8, 5, 6]), (3, [], [4, 8, 5, 6]), (4, [2, 3], [5, 8, 6]), (5, [4, 2, 3], [6, 8]), (6, [1, 5, 0, 4, 2, 3], [8]), (7, [], [8]), (8, [7, 6, 1, 0, 2, 3, 4, 5], [])] [0, 1, 2, 3, 4, 5, 6, 7, 8] [(0, 17, ressV l, []), (1, 18, ressV l, []), (2, 19, I k, []), (3, 20, I k, []), (4, 21, I q, []), (5, 22, .sl (.own 1408 0) 1 (List.replicate q [nilS]), []), (6, 23, .agg [ressV l, nilS, .sl (.own 1408 0) 1 (List.replicate q [nilS])], []), (7, 6, .ptr 384 0, [])] (fun b => [(0, ressV l), (1, I k), (4, .ptr 256 0)]) (fun b => (if b 7 then [(384, if b 8 then [ressV l, nilS, .sl (.own 1408 0) 1 (List.replicate q [nilS])] else [nilS, nilS, nilS]), (256, [nilS, nilS, nilS])] else [(256, [nilS, nilS, nilS])])) ?_ (fun b => ?_) (fun b => ?_) fol
 ·exact Imp.weak (by simp (disch := omega) only [go_sem]) (by simp (disch := omega) only [go_sem])
 ·simp only [symP, and_true]
  cases h7 : b 7
  all_goals repeat' (with_reducible refine And.intro ?_ ?_)
  all_goals simp (disch := omega) only [go_sem, h7, hw]
  all_goals (try first | (refine sel_step [] rfl (by rfl) ?_ ?_ ?_ <;> (simp (disch := omega) only [go_sem, h7]; done)) | (refine sel_step [(_, _)] rfl (by rfl) ?_ ?_ ?_ <;> (simp (disch := omega) only [go_sem, h7]; done)) | (refine sel_step [(_, _), (_, _)] rfl (by rfl) ?_ ?_ ?_ <;> (simp (disch := omega) only [go_sem, h7]; done)) | (refine sel_step [(_, _), (_, _), (_, _)] rfl (by rfl) ?_ ?_ ?_ <;> (simp (disch := omega) only [go_sem, h7]; done)) | (refine sel_skip [] rfl (by rfl) ?_ ?_ ?_ <;> (simp (disch := omega) only [go_sem, h7]; done)) | (refine sel_skip [(_, _)] rfl (by rfl) ?_ ?_ ?_ <;> (simp (disch := omega) only [go_sem, h7]; done)))
  all_goals (refine call1 (f11_ok l hl) ?_)
  all_goals simp (disch := omega) only [go_sem, h7]
  all_goals (try first | (refine sel_step [] rfl (by rfl) ?_ ?_ ?_ <;> (simp (disch := omega) only [go_sem, h7]; done)) | (refine sel_step [(_, _)] rfl (by rfl) ?_ ?_ ?_ <;> (simp (disch := omega) only [go_sem, h7]; done)) | (refine sel_step [(_, _), (_, _)] rfl (by rfl) ?_ ?_ ?_ <;> (simp (disch := omega) only [go_sem, h7]; done)) | (refine sel_step [(_, _), (_, _), (_, _)] rfl (by rfl) ?_ ?_ ?_ <;> (simp (disch := omega) only [go_sem, h7]; done)) | (refine sel_skip [] rfl (by rfl) ?_ ?_ ?_ <;> (simp (disch := omega) only [go_sem, h7]; done)) | (refine sel_skip [(_, _)] rfl (by rfl) ?_ ?_ ?_ <;> (simp (disch := omega) only [go_sem, h7]; done)))
 simp (disch := omega) only [go_sem]
 by_cases hm : machOK l k = true
 ·have er : AV.tup [machV l k, I (machE l k)] = .tup [.agg [ressV l, .sl .no 37 (sitesL l k k), .sl .no 1 (List.replicate (k * k) [nilS])], I 0] := by
   simp [machV, machE, hm, machC]
  rw [er, ← hq]
  refine loop_intro (α := Nat) (fun i => ⟨[(25, I i), (24, I k), (0, ressV l), (1, I k), (4, .ptr 256 0), (6, .ptr 384 0)], [(384, [ressV l, .sl (.own 2752 0) 37 (sitesL l k i), .sl (.own 1408 0) 1 (List.replicate q [nilS])]), (256, [nilS, nilS, nilS])]⟩) (fun i => i ≤ k) (fun i => k - i) 0 (by omega) (Imp.weak (by simp (disch := omega) only [go_sem]) (by simp (disch := omega) only [go_sem, sitesL, List.range_zero, List.map_nil])) ?_
  rintro i hi J hJ
  have hsl : (sitesL l k i).length ≤ 4 := by simp; omega
  have hsl2 : (List.range i).length ≤ 4 := by simp; omega
  simp (disch := omega) only [go_sem]
  refine And.intro (fun hlt => ?_) (fun hge => ?_)
  ·have hlt2 : i < k := by simp at hlt; omega
   refine call1 (f12_yes hm hlt2) ?_
   simp (disch := omega) only [go_sem, List.length_map]
   refine hJ _ (i + 1) (by omega) (by omega) (Imp.weak (by simp (disch := omega) only [go_sem]) ?_)
   simp (disch := omega) only [go_sem]
   exact .sl (by rw [show sitesL l k (i + 1) = sitesL l k i ++ [siteRow l k i] from by simp [sitesL, List.range_succ]]; rfl)
  have hil : i = k := by simp at hge; omega
  subst hil
  refine ret2 ⟨[], [], [2752, 1408]⟩ _ ?_
  simp (disch := omega) only [go_sem]
 ·have hm' : machOK l k = false := Bool.eq_false_iff.2 hm
  have er : AV.tup [machV l k, I (machE l k)] = .tup [.agg [nilS, nilS, nilS], I 1] := by simp [machV, machE, hm']
  rw [er]
  refine loop_intro (α := Nat) (fun _ => ⟨[(25, I 0), (24, I k), (0, ressV l), (1, I k), (4, .ptr 256 0), (6, .ptr 384 0)], [(256, [nilS, nilS, nilS])]⟩) (fun _ => True) (fun _ => 0) 0 trivial imp1 ?_
  rintro i _ J hJ
  have h0 : (0 : Int) < k := by omega
  simp (disch := omega) only [go_sem, eq_true h0, decide_true]
  refine call1 (f12_no (i := 0) hm' h1 h4) ?_
  simp (disch := omega) only [go_sem]
  refine ret1 _ ?_
  simp (disch := omega) only [go_sem]
end Go.Rd
open Go Go.Abs Go.Proofs
set_option maxRecDepth 100000
namespace Go.Rd
theorem f6_ok (l : List Res) (n : Int) (hl : l.length ≤ 1000000) : FnOK C0 6 [ressV l, I n] [] (.tup [machV l n, I (machE l n)]) [] := by
 by_cases hn : 1 ≤ n ∧ n ≤ 4
 rotate_left
 ·have e : machOK l n = false := by
   cases h : machOK l n with
   | false => rfl
   | true => simp [machOK] at h; omega
  have er : AV.tup [machV l n, I (machE l n)] = .tup [.agg [nilS, nilS, nilS], I 1] := by simp [machV, machE, e]
  rw [er]
  refine FnOK.go Tryz.f6 ?_
  unfold Tryz.f6
  simp (disch := omega) only [go_sem]
  repeat' (with_reducible refine And.intro (fun h => ?_) (fun h => ?_))
  all_goals first
   | (exfalso; simp at *; omega)
   | (refine ret1 _ ?_
      simp (disch := omega) only [go_sem])
 obtain ⟨k, rfl⟩ : ∃ k : Nat, n = k := ⟨n.toNat, by omega⟩
 have h1 : 1 ≤ k := by omega
 have h4 : k ≤ 4 := by omega
 have hkk : k * k ≤ 16 := Nat.mul_le_mul h4 h4
 have hw : IntKind.i64.wrap ((k : Int) * k) = ((k * k : Nat) : Int) := by rw [wrap64 _ (by omega) (by rw [← Int.natCast_mul]; omega)]; simp
 refine FnOK.go Tryz.f6 ?_
 unfold Tryz.f6
 simp (disch := omega) only [go_sem, eq_false (show ¬ (k : Int) < 1 by omega), eq_false (show ¬ 4 < (k : Int) by omega), List.length_map, List.length_nil]
 obtain ⟨q, hq⟩ : ∃ q, q = k * k := ⟨_, rfl⟩
 rw [← hq] at hkk hw
 by_cases hm : machOK l k = true
 ·have er : AV.tup [machV l k, I (machE l k)] = .tup [.agg [ressV l, .sl .no 37 (sitesL l k k), .sl .no 1 (List.replicate (k * k) [nilS])], I 0] := by
   simp [machV, machE, hm, machC]
  rw [er, ← hq]
  refine loop_intro (α := Nat) (fun i => ⟨[(7, I i), (0, ressV l), (1, I k), (4, .ptr 256 0), (6, .ptr 384 0)], [(384, [.sl (.own 1152 0) 4 (l.map Res.c), .sl (.own 2560 0) 37 (sitesL l k i), nilS]), (256, [nilS, nilS, nilS])]⟩) (fun i => i ≤ k) (fun i => k - i) 0 (by omega) (Imp.weak (by simp (disch := omega) only [go_sem]) (by simp (disch := omega) only [go_sem, sitesL, List.range_zero, List.map_nil, List.nil_append])) ?_
  rintro i hi J hJ
  have hsl : (sitesL l k i).length ≤ 4 := by simp; omega
  have hsl2 : (List.range i).length ≤ 4 := by simp; omega
  simp (disch := omega) only [go_sem, hw]
  refine And.intro (fun hlt => ?_) (fun hge => ?_)
  ·have hlt2 : i < k := by simp at hlt; omega
   refine call1 (f13_yes hm hlt2) ?_
   simp (disch := omega) only [go_sem, List.length_map]
   refine hJ _ (i + 1) (by omega) (by omega) (Imp.weak (by simp (disch := omega) only [go_sem]) ?_)
   simp (disch := omega) only [go_sem]
   exact .sl (by rw [show sitesL l k (i + 1) = sitesL l k i ++ [siteRow l k i] from by simp [sitesL, List.range_succ]]; rfl)
  have hil : i = k := by simp at hge; omega
  subst hil
  refine ret2 ⟨[], [], [1152, 2560, 2880]⟩ _ ?_
  simp (disch := omega) only [go_sem]
 ·have hm' : machOK l k = false := Bool.eq_false_iff.2 hm
  have er : AV.tup [machV l k, I (machE l k)] = .tup [.agg [nilS, nilS, nilS], I 1] := by simp [machV, machE, hm']
  rw [er]
  refine loop_intro (α := Nat) (fun _ => ⟨[(7, I 0), (0, ressV l), (1, I k), (4, .ptr 256 0), (6, .ptr 384 0)], [(256, [nilS, nilS, nilS])]⟩) (fun _ => True) (fun _ => 0) 0 trivial imp1 ?_
  rintro i _ J hJ
  have h0 : (0 : Int) < k := by omega
  simp (disch := omega) only [go_sem, eq_true h0, decide_true]
  refine call1 (f13_no (i := 0) hm' h1 h4) ?_
  simp (disch := omega) only [go_sem]
  refine ret1 _ ?_
  simp (disch := omega) only [go_sem]
end Go.Rd
open Go Go.Abs Go.Proofs
set_option maxRecDepth 100000
namespace Go.Rd
attribute [go_sem] machC
theorem f7_ok (l : List Res) (k : Nat) (hl : l.length ≤ 8) (h4 : k ≤ 4) : FnOK C0 7 [.agg (machC l k), .agg (machC l k)] [] (B true) [] := by
 refine FnOK.go Tryz.f7 ?_
 unfold Tryz.f7
 simp (disch := omega) only [go_sem]
 refine call1 (f14_ok l (by omega)) ?_
 simp (disch := omega) only [go_sem]
 have h16 : k * k ≤ 16 := Nat.mul_le_mul h4 h4
 generalize k * k = q at h16 ⊢
 have hr : (List.range k).length = k := by simp
 have hr2 : (List.replicate q [nilS]).length = q := by simp
 refine loop_intro (α := Nat) (fun i => ⟨[(5, I i), (2, .ptr 128 0), (3, .ptr 192 0)], [(128, [ressV l, .sl .no 37 (sitesL l k k), .sl .no 1 (List.replicate q [nilS])]), (192, [ressV l, .sl .no 37 (sitesL l k k), .sl .no 1 (List.replicate q [nilS])])]⟩) (fun i => i ≤ ((List.range k)).length ∧ True) (fun i => ((List.range k)).length - i) 0 ⟨by omega, trivial⟩ ?_ ?_
 ·refine Imp.weak ?_ ?_
  all_goals (try simp (disch := omega) only [go_sem])
  all_goals (try (repeat' (with_reducible apply And.intro)))
  all_goals (first | exact .nilOwn (by omega) | exact .nilNo (by omega) | exact .sl (by simp []) | exact .int (by simp []) | exact .eq (by simp []))
 rintro i ⟨hi, hP⟩ J hJ
 simp (disch := omega) only [go_sem]
 refine And.intro (fun hlt => ?_) (fun hge => ?_)
 rotate_left
 have hil : i = ((List.range k)).length := by simp at hge; omega
 rotate_left
 obtain ⟨b, hb⟩ : ∃ b, ((List.range k))[i]? = some b := ⟨_, List.getElem?_eq_getElem (by simp at hlt; omega)⟩
 have hbm := List.mem_of_getElem? hb
 have hlt2 : i < ((List.range k)).length := by simp at hlt; omega
 refine draw_mk 10 [([], [2]), ([0], [38]), ([], [5]), ([0, 1, 2], [39, 40]), ([0, 1, 2, 3], [41]), ([], [3]), ([5], [43]), ([], [5]), ([5, 6, 7], [44, 45]), ([5, 6, 7, 8], [46]), ([0, 1, 2, 3, 4, 5, 6, 7, 8, 9], []), ([0, 1, 2, 3, 4, 5, 6, 7, 8, 9, 10], [])] fol (by kernel_rfl) ?_
 simp (disch := omega) only [go_sem, List.getElem?_map, hb]
 ·have hab := atR_len l b
  first | (refine call1 (f15_ok (atR l b) b k k (by omega) h4) ?_) | (refine fcall1 (f15_ok (atR l b) b k k (by omega) h4) ?_)
  simp (disch := omega) only [go_sem, Bool.not_true]
  refine hJ _ (i + 1) ⟨by simp at hlt; omega, trivial⟩ (by simp at hlt; omega) imp1
 ·refine loop_intro (α := Nat) (fun i => ⟨[(6, I i), (2, .ptr 128 0), (3, .ptr 192 0)], [(128, [ressV l, .sl .no 37 (sitesL l k k), .sl .no 1 (List.replicate q [nilS])]), (192, [ressV l, .sl .no 37 (sitesL l k k), .sl .no 1 (List.replicate q [nilS])])]⟩) (fun i => i ≤ ((List.replicate q [nilS])).length ∧ True) (fun i => ((List.replicate q [nilS])).length - i) 0 ⟨by omega, trivial⟩ ?_ ?_
  ·refine Imp.weak ?_ ?_
   all_goals (try simp (disch := omega) only [go_sem])
   all_goals (try (repeat' (with_reducible apply And.intro)))
   all_goals (first | exact .nilOwn (by omega) | exact .nilNo (by omega) | exact .sl (by simp []) | exact .int (by simp []) | exact .eq (by simp []))
  rintro i ⟨hi, hP⟩ J hJ
  simp (disch := omega) only [go_sem]
  refine And.intro (fun hlt => ?_) (fun hge => ?_)
  rotate_left
  have hil : i = ((List.replicate q [nilS])).length := by simp at hge; omega
  rotate_left
  obtain ⟨b, hb⟩ : ∃ b, ((List.replicate q [nilS]))[i]? = some b := ⟨_, List.getElem?_eq_getElem (by simp at hlt; omega)⟩
  have hbm := List.mem_of_getElem? hb
  have hlt2 : i < ((List.replicate q [nilS])).length := by simp at hlt; omega
  refine draw_mk 10 [([], [2]), ([0], [57]), ([], [6]), ([0, 1, 2], [58, 59]), ([0, 1, 2, 3], [60]), ([], [3]), ([5], [62]), ([], [6]), ([5, 6, 7], [63, 64]), ([5, 6, 7, 8], [65]), ([0, 1, 2, 3, 4, 5, 6, 7, 8, 9], []), ([0, 1, 2, 3, 4, 5, 6, 7, 8, 9, 10], [])] fol (by kernel_rfl) ?_
  simp (disch := omega) only [go_sem, List.getElem?_map, hb]
  ·have hbl : b = [nilS] := List.eq_of_mem_replicate hbm
   subst hbl
   simp (disch := omega) only [go_sem, hb]
   first | (refine call1 f16_ok ?_) | (refine fcall1 f16_ok ?_)
   simp (disch := omega) only [go_sem, Bool.not_true]
   refine hJ _ (i + 1) ⟨by simp at hlt; omega, trivial⟩ (by simp at hlt; omega) imp1
  ·refine ret1 _ ?_
   simp (disch := omega) only [go_sem]
end Go.Rd
