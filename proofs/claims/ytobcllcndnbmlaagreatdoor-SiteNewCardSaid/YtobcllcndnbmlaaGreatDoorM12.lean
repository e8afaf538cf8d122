/- part 12 of the proof -/
import Derived.Test.YtobcllcndnbmlaaGreatDoorM05
import Derived.Test.YtobcllcndnbmlaaGreatDoorM06
import Derived.Test.YtobcllcndnbmlaaGreatDoorM11
set_option linter.all false
open Go Go.Abs Go.Proofs
set_option maxRecDepth 100000
namespace Go.Rd
theorem f26_ok (l : List Res) (n : Int) (hl : l.length ≤ 1000000) : FnOK C0 26 [ressV l, I n] [] (.tup [machV l n, I (machE l n)]) [] := by
 by_cases hn : 1 ≤ n ∧ n ≤ 4
 rotate_left
 ·have e : machOK l n = false := by
   cases h : machOK l n with
   | false => rfl
   | true => simp [machOK] at h; omega
  have er : AV.tup [machV l n, I (machE l n)] = .tup [.agg [nilS, nilS, nilS], I 1] := by simp [machV, machE, e]
  rw [er]
  refine FnOK.go Tryz.f26 ?_
  unfold Tryz.f26
  simp (disch := omega) only [go_sem]
  repeat' (with_reducible refine And.intro (fun h => ?_) (fun h => ?_))
  all_goals first
   | (exfalso; simp at *; omega)
   | (refine ret1 _ ?_
      simp (disch := omega) only [go_sem])
 obtain ⟨k, rfl⟩ : ∃ k : Nat, n = k := ⟨n.toNat, by omega⟩
 have h1 : 1 ≤ k := by omega
 have h4 : k ≤ 4 := by omega
 have hkk : k * k ≤ 16 := Nat.mul_le_mul h4 h4
 have hw : IntKind.i64.wrap ((k : Int) * k) = ((k * k : Nat) : Int) := by rw [wrap64 _ (by omega) (by rw [← Int.natCast_mul]; omega)]; simp
 refine FnOK.go Tryz.f26 ?_
 unfold Tryz.f26
 simp (disch := omega) only [go_sem, eq_false (show ¬ (k : Int) < 1 by omega), eq_false (show ¬ 4 < (k : Int) by omega), List.length_map, List.length_nil]
 obtain ⟨q, hq⟩ : ∃ q, q = k * k := ⟨_, rfl⟩
 rw [← hq] at hkk hw
 by_cases hm : machOK l k = true
 ·have er : AV.tup [machV l k, I (machE l k)] = .tup [.agg [ressV l, .sl .no 37 (sitesL l k k), .sl .no 1 (List.replicate (k * k) [nilS])], I 0] := by
   simp [machV, machE, hm, machC]
  rw [er, ← hq]
  refine loop_intro (α := Nat) (fun i => ⟨[(7, I i), (0, ressV l), (1, I k), (4, .ptr 256 0), (6, .ptr 384 0)], [(384, [.sl (.own 1152 0) 4 (l.map Res.c), .sl (.own 2560 0) 37 (sitesL l k i), nilS]), (256, [nilS, nilS, nilS])]⟩) (fun i => i ≤ k) (fun i => k - i) 0 (by omega) (Imp.weak (by simp (disch := omega) only [go_sem]) (by simp (disch := omega) only [go_sem, sitesL, List.range_zero, List.map_nil, List.nil_append])) ?_
  rintro i hi J hJ
  have hsl : (sitesL l k i).length ≤ 4 := by simp; omega
  have hsl2 : (List.range i).length ≤ 4 := by simp; omega
  simp (disch := omega) only [go_sem, hw]
  refine And.intro (fun hlt => ?_) (fun hge => ?_)
  ·have hlt2 : i < k := by simp at hlt; omega
   refine call1 (f6_yes hm hlt2) ?_
   simp (disch := omega) only [go_sem, List.length_map]
   refine hJ _ (i + 1) (by omega) (by omega) (Imp.weak (by simp (disch := omega) only [go_sem]) ?_)
   simp (disch := omega) only [go_sem]
   exact .sl (by rw [show sitesL l k (i + 1) = sitesL l k i ++ [siteRow l k i] from by simp [sitesL, List.range_succ]]; rfl)
  have hil : i = k := by simp at hge; omega
  subst hil
  refine ret2 ⟨[], [], [1152, 2560, 2880]⟩ _ ?_
  simp (disch := omega) only [go_sem]
 ·have hm' : machOK l k = false := Bool.eq_false_iff.2 hm
  have er : AV.tup [machV l k, I (machE l k)] = .tup [.agg [nilS, nilS, nilS], I 1] := by simp [machV, machE, hm']
  rw [er]
  refine loop_intro (α := Nat) (fun _ => ⟨[(7, I 0), (0, ressV l), (1, I k), (4, .ptr 256 0), (6, .ptr 384 0)], [(256, [nilS, nilS, nilS])]⟩) (fun _ => True) (fun _ => 0) 0 trivial imp1 ?_
  rintro i _ J hJ
  have h0 : (0 : Int) < k := by omega
  simp (disch := omega) only [go_sem, eq_true h0, decide_true]
  refine call1 (f6_no (i := 0) hm' h1 h4) ?_
  simp (disch := omega) only [go_sem]
  refine ret1 _ ?_
  simp (disch := omega) only [go_sem]
end Go.Rd
open Go Go.Abs Go.Proofs
set_option maxRecDepth 100000
namespace Go.Rd
@[reducible] def intsV (l : List Int) : AV := .sl .no 1 (l.map fun x => [I x])
def tapeC (l : List Int) (a : Nat) : List AV := [intsV l, I a]
theorem f29_ok (l : List Int) (a : Nat) (hl : l.length ≤ 1000000) : FnOK C0 29 [.ptr 63 0] [(63, tapeC l a)] (B (decide ((a : Int) < l.length))) [(63, tapeC l a)] := by
 refine FnOK.go Tryz.f29 ?_
 unfold Tryz.f29
 simp (disch := omega) only [go_sem]
 refine draw_mk 9 [([], [0]), ([0], [3]), ([0, 1], [4]), ([0, 1, 2], [5]), ([], [0]), ([4], [7]), ([4, 5], [8]), ([4, 5, 6], [9]), ([4, 5, 6, 7], [10]), ([0, 1, 2, 3, 4, 5, 6, 7, 8], []), ([0, 1, 2, 3, 4, 5, 6, 7, 8, 9], [])] fol (by kernel_rfl) ?_
 simp (disch := omega) only [go_sem, tapeC, List.length_map]
 refine ret3 ⟨[], [(63, 63)], []⟩ _ ?_ ?_
 ·simp (disch := omega) only [go_sem]
 ·simp (disch := omega) only [go_sem, tapeC]
def modM (x n : Int) : Int := if decide (n < 1) then 0 else x % n
set_option maxHeartbeats 1000000 in
theorem f57_ok (x n : Int) (hn : n ≤ 2000000) : FnOK C0 57 [I x, I n] [] (I (modM x n)) [] := by
 refine FnOK.go Tryz.f57 ?_
 unfold Tryz.f57
 simp (disch := omega) only [go_sem]
 cases h1 : decide (n < 1)
 rotate_left
 ·have e : modM x n = 0 := by simp [modM, h1]
  rw [e]
  simp (disch := omega) only [go_sem, h1]
  refine ret1 _ ?_
  simp (disch := omega) only [go_sem]
 have hn1 : 1 ≤ n := by simpa using h1
 have e : modM x n = x % n := by simp only [modM, h1]; rfl
 rw [e]
 have he := Int.emod_nonneg x (show n ≠ 0 by omega)
 have he2 := Int.emod_lt_of_pos x (show 0 < n by omega)
 have hr : x.tmod n = x % n ∨ x.tmod n = x % n - n := by
  rw [Int.tmod_eq_emod]
  split
  ·left; omega
  ·right; omega
 have hn0 := eq_false (show ¬ n = 0 by omega)
 have hw := wrap64 (x.tmod n + n) (by omega) (by omega)
 generalize x.tmod n = r at hr hw
 generalize x % n = m at he he2 hr ⊢
 simp (disch := omega) only [go_sem, h1, hn0]
 rcases hr with hr | hr
 ·have hd : decide (r < 0) = false := by simp; omega
  simp (disch := omega) only [go_sem, hd]
  refine ret1 _ ?_
  simp (disch := omega) only [go_sem, hr]
 ·by_cases hz : m - n < 0
  ·have hd : decide (r < 0) = true := by simp; omega
   simp (disch := omega) only [go_sem, hd, hw]
   refine ret1 _ ?_
   simp (disch := omega) only [go_sem, hr]
   exact .int (by omega)
  ·omega
def nextM (l : List Int) (a : Nat) (n : Int) : Int × Nat := match l[a]? with
 | none => (0, a)
 | some x => (modM x n, a + 1)
set_option maxHeartbeats 1000000 in
theorem f24_ok (l : List Int) (a : Nat) (n : Int) (hl : l.length ≤ 1000000) (hn : n ≤ 2000000) : FnOK C0 24 [.ptr 63 0, I n] [(63, tapeC l a)] (I (nextM l a n).1) [(63, tapeC l (nextM l a n).2)] := by
 refine FnOK.go Tryz.f24 ?_
 unfold Tryz.f24
 simp (disch := omega) only [go_sem]
 refine draw_mk 9 [([], [0]), ([0], [5]), ([0, 1], [6]), ([0, 1, 2], [7]), ([], [0]), ([4], [9]), ([4, 5], [10]), ([4, 5, 6], [11]), ([4, 5, 6, 7], [12]), ([0, 1, 2, 3, 4, 5, 6, 7, 8], [])] fol (by kernel_rfl) ?_
 simp (disch := omega) only [go_sem, tapeC, List.length_map]
 cases hb : l[a]? with
 | none =>
  have hla : l.length ≤ a := by
   rcases Nat.lt_or_ge a l.length with h | h
   ·rw [List.getElem?_eq_getElem h] at hb; cases hb
   ·exact h
  have e : nextM l a n = (0, a) := by simp [nextM, hb]
  rw [e]
  simp (disch := omega) only [go_sem, eq_true (show (l.length : Int) ≤ a by omega), decide_true]
  refine ret3 ⟨[], [(63, 63)], []⟩ _ ?_ ?_
  ·simp (disch := omega) only [go_sem]
  ·simp (disch := omega) only [go_sem, tapeC]
 | some x =>
  have hla := lt_of_get hb
  have e : nextM l a n = (modM x n, a + 1) := by simp [nextM, hb]
  rw [e]
  have hc2 : ((a : Int) + 1 - 1) = (a : Int) := by omega
  simp (disch := omega) only [go_sem, eq_false (show ¬ (l.length : Int) ≤ a by omega), decide_false]
  refine draw_mk 12 [([], [0]), ([0], [22]), ([0, 1], [23]), ([0, 1, 2], [24]), ([], [0]), ([4], [26]), ([4, 5], [27]), ([4, 5, 6], [28]), ([4, 5, 6, 7], [29]), ([0, 1, 2, 3, 4, 5, 6, 7, 8], [25, 30]), ([0, 1, 2, 3, 4, 5, 6, 7, 8, 9], [31]), ([], [1]), ([0, 1, 2, 3, 4, 5, 6, 7, 8, 9, 10, 11], []), ([0, 1, 2, 3, 4, 5, 6, 7, 8, 9, 10, 11, 12], [])] fol (by kernel_rfl) ?_
  simp (disch := omega) only [go_sem, hc2, List.getElem?_map, hb]
  first | (refine call1 (f57_ok x n hn) ?_) | (refine fcall1 (f57_ok x n hn) ?_)
  simp (disch := omega) only [go_sem]
  refine ret3 ⟨[], [(63, 63)], []⟩ _ ?_ ?_
  ·simp (disch := omega) only [go_sem]
  ·simp (disch := omega) only [go_sem, tapeC]
attribute [go_sem] tapeC
theorem modM_bd (x n : Int) (h : 1 ≤ n) : 0 ≤ modM x n ∧ modM x n < n := by
 have e : modM x n = x % n := by simp only [modM]; rw [if_neg (by simp; omega)]
 rw [e]
 exact ⟨Int.emod_nonneg x (by omega), Int.emod_lt_of_pos x (by omega)⟩
theorem nextM_bd (l : List Int) (a : Nat) (n : Int) (h : 1 ≤ n) : 0 ≤ (nextM l a n).1 ∧ (nextM l a n).1 < n := by
 unfold nextM
 split
 ·exact ⟨Int.le_refl _, by show (0 : Int) < n; omega⟩
 ·exact modM_bd _ _ h
theorem nextM_at (l : List Int) (a : Nat) (n : Int) : a ≤ (nextM l a n).2 ∧ (a < l.length → (nextM l a n).2 = a + 1) := by
 unfold nextM
 cases hb : l[a]? with
 | none => exact ⟨Nat.le_refl _, fun h => by rw [List.getElem?_eq_getElem h] at hb; cases hb⟩
 | some x => exact ⟨Nat.le_succ _, fun _ => rfl⟩
def nms4 : List Bs := [[97], [98], [99], [100]]
def locksM (l : List Int) (a : Nat) : Nat → List Res × Nat
 | 0 => ([], a)
 | i + 1 => ((locksM l a i).1 ++ [⟨nms4.getD i [], 1, 1, (nextM l (locksM l a i).2 4).1⟩], (nextM l (locksM l a i).2 4).2)
theorem locksM_len (l : List Int) (a : Nat) : ∀ i, (locksM l a i).1.length = i
 | 0 => rfl
 | i + 1 => by simp [locksM, locksM_len l a i]
def poolM (l : List Int) (name : Bs) (m : Int) (a : Nat) : Res × Nat := (⟨name, 2, 1 + (nextM l a m).1, (nextM l (nextM l a m).2 4).1⟩, (nextM l (nextM l a m).2 4).2)
def catalogM (l : List Int) (a : Nat) : List Res × Nat :=
 ((locksM l a 4).1 ++ [(poolM l [112] 8 (locksM l a 4).2).1] ++ [(poolM l [113] 3 (poolM l [112] 8 (locksM l a 4).2).2).1], (poolM l [113] 3 (poolM l [112] 8 (locksM l a 4).2).2).2)
set_option maxHeartbeats 4000000 in
theorem f25_ok (l : List Int) (a : Nat) (hl : l.length ≤ 1000000) : FnOK C0 25 [.ptr 63 0] [(63, tapeC l a)] (ressV (catalogM l a).1) [(63, tapeC l (catalogM l a).2)] := by
 refine FnOK.go Tryz.f25 ?_
 unfold Tryz.f25
 simp (disch := omega) only [go_sem]
 refine loop_intro (α := Nat) (fun i => ⟨[(5, I i), (4, .sl (.own 384 0) 1 (nms4.map fun s => [.v (.string (str s))])), (3, .sl (.own 1408 0) 4 ((locksM l a i).1.map Res.c)), (0, .ptr 63 0)], [(63, tapeC l (locksM l a i).2)]⟩) (fun i => i ≤ 4) (fun i => 4 - i) 0 (by omega) (Imp.weak ?_ ?_) ?_
 ·simp (disch := omega) only [go_sem, locksM, List.map_nil]
  exact .sl rfl
 ·simp (disch := omega) only [go_sem, locksM]
 rintro i hi J hJ
 have hn4 : nms4.length = 4 := rfl
 simp (disch := omega) only [go_sem, List.length_map, hn4]
 refine And.intro (fun hlt => ?_) (fun hge => ?_)
 ·have hlt2 : i < 4 := by simp at hlt; omega
  obtain ⟨s, hs⟩ : ∃ s, nms4[i]? = some s := ⟨_, List.getElem?_eq_getElem (by rw [hn4]; omega)⟩
  have hgd : nms4.getD i [] = s := by simp [List.getD, hs]
  have hal := locksM_len l a i
  have han : locksM l a (i + 1) = ((locksM l a i).1 ++ [⟨s, 1, 1, (nextM l (locksM l a i).2 4).1⟩], (nextM l (locksM l a i).2 4).2) := by rw [locksM, hgd]
  generalize locksM l a i = ls at han hal ⊢
  obtain ⟨ll, a1⟩ := ls
  simp only at han hal ⊢
  have hh37 := f24_ok l a1 4 hl (by omega)
  generalize (nextM l a1 4).2 = a2 at hh37 han ⊢
  generalize (nextM l a1 4).1 = v at hh37 han ⊢
  have hbd : ll.length + 1 ≤ 4294967296 := by omega
  refine drawA_imp (st' := ⟨[(5, I i), (4, .sl (.own 384 0) 1 (nms4.map fun s => [.v (.string (str s))])), (3, .sl (.own 1408 0) 4 (ll.map Res.c)), (0, .ptr 63 0)], [(63, tapeC l a1)]⟩) imp1 ?_
  refine draw_dag2 2047 [(0, 1, 0), (1, 2, 0), (2, 4, 0), (3, 8, 6), (4, 16, 8), (5, 32, 0), (6, 64, 32), (7, 128, 80), (8, 256, 128), (9, 512, 321), (10, 1024, 1023)] [0, 1, 2, 4, 32, 3, 5, 33, 6, 34, 36, 96, 7, 35, 37, 97, 14, 38, 98, 100, 15, 39, 99, 101, 30, 46, 102, 31, 47, 103, 62, 110, 63, 111, 126, 127, 254, 255, 510, 511, 1023, 2047] (fun m => ⟨sel m [(1, 13, (if m / 512 % 2 = 1 then .undef else .sl (.own 1408 0) 4 (ll.map Res.c))), (2, 14, .sl (.own 384 0) 1 (nms4.map fun s => [.v (.string (str s))])), (4, 15, I i), (8, 16, .ep (.own 384 0) i [.v (.string (str s))] 0), (16, 17, .v (.string (str s))), (32, 18, .ptr 63 0), (64, 19, I v), (128, 20, .agg (⟨s, 1, 1, v⟩ : Res).c), (256, 21, .sl (.own 1344 0) 4 ([(⟨s, 1, 1, v⟩ : Res)].map Res.c)), (512, 22, .sl (.own 1408 0) 4 ((ll ++ [(⟨s, 1, 1, v⟩ : Res)]).map Res.c))] ++ [(5, I i), (4, .sl (.own 384 0) 1 (nms4.map fun s => [.v (.string (str s))])), (3, (if m / 512 % 2 = 1 then (if m / 1024 % 2 = 1 then .sl (.own 1408 0) 4 ((ll ++ [(⟨s, 1, 1, v⟩ : Res)]).map Res.c) else .undef) else .sl (.own 1408 0) 4 (ll.map Res.c))), (0, .ptr 63 0)], [(63, tapeC l (if m / 64 % 2 = 1 then a2 else a1))]⟩) ?_ ?_ ?_ fol
  ·exact imp1
  ·simp (maxSteps := 100000000) only [dagQ_cons, dagF_cons, dagQ_nil, dagF_nil, and_true, Nat.reduceDiv, Nat.reduceMod, Nat.reduceAnd, Nat.reduceEqDiff, reduceIte, true_and, and_false, false_and, and_self]
   repeat' (with_reducible refine And.intro ?_ ?_)
   all_goals simp (disch := omega) only [go_sem, List.getElem?_map, hs, List.length_map, List.nil_append, List.cons_append]
   all_goals first | exact Imp.weak (by simp (disch := omega) only [go_sem, List.nil_append, List.cons_append, List.map_append, List.map_cons, List.map_nil]) (by simp (disch := omega) only [go_sem, List.nil_append, List.cons_append, List.map_append, List.map_cons, List.map_nil]) | (refine call2 ⟨⟨[], [(63, 63)], []⟩, [], []⟩ hh37 ?_; simp (disch := omega) only [go_sem]; exact Imp.weak (by simp (disch := omega) only [go_sem, List.nil_append, List.cons_append, List.map_append, List.map_cons, List.map_nil]) (by simp (disch := omega) only [go_sem, List.nil_append, List.cons_append, List.map_append, List.map_cons, List.map_nil]))
  simp (disch := omega) only [go_sem]
  refine hJ _ (i + 1) (by omega) (by omega) (Imp.weak ?_ ?_)
  ·rw [han]
   simp (disch := omega) only [go_sem]
  ·rw [han]
   simp (disch := omega) only [go_sem]
 have him : i = 4 := by simp at hge; omega
 subst him
 have hcm : catalogM l a = ((locksM l a 4).1 ++ [(poolM l [112] 8 (locksM l a 4).2).1] ++ [(poolM l [113] 3 (poolM l [112] 8 (locksM l a 4).2).2).1], (poolM l [113] 3 (poolM l [112] 8 (locksM l a 4).2).2).2) := rfl
 rw [hcm]
 have hll := locksM_len l a 4
 generalize locksM l a 4 = ls at hll ⊢
 obtain ⟨ll, a1⟩ := ls
 simp only at hll ⊢
 obtain ⟨b1, b2⟩ := nextM_bd l a1 8 (by omega)
 have hp1 : poolM l [112] 8 a1 = (⟨[112], 2, 1 + (nextM l a1 8).1, (nextM l (nextM l a1 8).2 4).1⟩, (nextM l (nextM l a1 8).2 4).2) := rfl
 rw [hp1]
 have g1 := f24_ok l a1 8 hl (by omega)
 have g2 := f24_ok l (nextM l a1 8).2 4 hl (by omega)
 generalize (nextM l a1 8).2 = a2 at g1 g2 ⊢
 generalize (nextM l a1 8).1 = u1 at b1 b2 g1 ⊢
 simp only
 generalize (nextM l a2 4).2 = a3 at g2 ⊢
 generalize (nextM l a2 4).1 = h1 at g2 ⊢
 obtain ⟨c1, c2⟩ := nextM_bd l a3 3 (by omega)
 have hp2 : poolM l [113] 3 a3 = (⟨[113], 2, 1 + (nextM l a3 3).1, (nextM l (nextM l a3 3).2 4).1⟩, (nextM l (nextM l a3 3).2 4).2) := rfl
 rw [hp2]
 have g3 := f24_ok l a3 3 hl (by omega)
 have g4 := f24_ok l (nextM l a3 3).2 4 hl (by omega)
 generalize (nextM l a3 3).2 = a4 at g3 g4 ⊢
 generalize (nextM l a3 3).1 = u2 at c1 c2 g3 ⊢
 simp only
 generalize (nextM l a4 4).2 = a5 at g4 ⊢
 generalize (nextM l a4 4).1 = h2 at g4 ⊢
 have hw1 : IntKind.i64.wrap (1 + u1) = 1 + u1 := wrap64 _ (by omega) (by omega)
 have hw2 : IntKind.i64.wrap (1 + u2) = 1 + u2 := wrap64 _ (by omega) (by omega)
 have hbd1 : ll.length + 1 ≤ 4294967296 := by omega
 refine call2 ⟨⟨[], [(63, 63)], []⟩, [], []⟩ g1 ?_
 simp (disch := omega) only [go_sem, hw1]
 refine call2 ⟨⟨[], [(63, 63)], []⟩, [], []⟩ g2 ?_
 simp (disch := omega) only [go_sem]
 refine call2 ⟨⟨[], [(63, 63)], []⟩, [], []⟩ g3 ?_
 simp (disch := omega) only [go_sem, hw2]
 refine call2 ⟨⟨[], [(63, 63)], []⟩, [], []⟩ g4 ?_
 have hbd2 : ll.length + 1 + 1 ≤ 4294967296 := by omega
 simp (disch := omega) only [go_sem, List.length_append, List.length_map, List.length_singleton]
 refine ret3 ⟨[], [(63, 63)], [2560]⟩ _ ?_ ?_
 ·simp (disch := omega) only [go_sem]
  exact .sl (by rw [List.map_append, List.map_append]; rfl)
 ·simp (disch := omega) only [go_sem]
end Go.Rd
open Go Go.Abs Go.Proofs
set_option maxRecDepth 100000
namespace Go.Rd
set_option maxHeartbeats 4000000 in
theorem f25_own (l : List Int) (a : Nat) (hl : l.length ≤ 1000000) : FnOK C0 25 [.ptr 63 0] [(63, tapeC l a)] (.sl (.own 0 0) 4 ((catalogM l a).1.map Res.c)) [(63, tapeC l (catalogM l a).2)] := by
 refine FnOK.go Tryz.f25 ?_
 unfold Tryz.f25
 simp (disch := omega) only [go_sem]
 refine loop_intro (α := Nat) (fun i => ⟨[(5, I i), (4, .sl (.own 384 0) 1 (nms4.map fun s => [.v (.string (str s))])), (3, .sl (.own 1408 0) 4 ((locksM l a i).1.map Res.c)), (0, .ptr 63 0)], [(63, tapeC l (locksM l a i).2)]⟩) (fun i => i ≤ 4) (fun i => 4 - i) 0 (by omega) (Imp.weak ?_ ?_) ?_
 ·simp (disch := omega) only [go_sem, locksM, List.map_nil]
  exact .sl rfl
 ·simp (disch := omega) only [go_sem, locksM]
 rintro i hi J hJ
 have hn4 : nms4.length = 4 := rfl
 simp (disch := omega) only [go_sem, List.length_map, hn4]
 refine And.intro (fun hlt => ?_) (fun hge => ?_)
 ·have hlt2 : i < 4 := by simp at hlt; omega
  obtain ⟨s, hs⟩ : ∃ s, nms4[i]? = some s := ⟨_, List.getElem?_eq_getElem (by rw [hn4]; omega)⟩
  have hgd : nms4.getD i [] = s := by simp [List.getD, hs]
  have hal := locksM_len l a i
  have han : locksM l a (i + 1) = ((locksM l a i).1 ++ [⟨s, 1, 1, (nextM l (locksM l a i).2 4).1⟩], (nextM l (locksM l a i).2 4).2) := by rw [locksM, hgd]
  generalize locksM l a i = ls at han hal ⊢
  obtain ⟨ll, a1⟩ := ls
  simp only at han hal ⊢
  have hh37 := f24_ok l a1 4 hl (by omega)
  generalize (nextM l a1 4).2 = a2 at hh37 han ⊢
  generalize (nextM l a1 4).1 = v at hh37 han ⊢
  have hbd : ll.length + 1 ≤ 4294967296 := by omega
  refine drawA_imp (st' := ⟨[(5, I i), (4, .sl (.own 384 0) 1 (nms4.map fun s => [.v (.string (str s))])), (3, .sl (.own 1408 0) 4 (ll.map Res.c)), (0, .ptr 63 0)], [(63, tapeC l a1)]⟩) imp1 ?_
  refine draw_dag2 2047 [(0, 1, 0), (1, 2, 0), (2, 4, 0), (3, 8, 6), (4, 16, 8), (5, 32, 0), (6, 64, 32), (7, 128, 80), (8, 256, 128), (9, 512, 321), (10, 1024, 1023)] [0, 1, 2, 4, 32, 3, 5, 33, 6, 34, 36, 96, 7, 35, 37, 97, 14, 38, 98, 100, 15, 39, 99, 101, 30, 46, 102, 31, 47, 103, 62, 110, 63, 111, 126, 127, 254, 255, 510, 511, 1023, 2047] (fun m => ⟨sel m [(1, 13, (if m / 512 % 2 = 1 then .undef else .sl (.own 1408 0) 4 (ll.map Res.c))), (2, 14, .sl (.own 384 0) 1 (nms4.map fun s => [.v (.string (str s))])), (4, 15, I i), (8, 16, .ep (.own 384 0) i [.v (.string (str s))] 0), (16, 17, .v (.string (str s))), (32, 18, .ptr 63 0), (64, 19, I v), (128, 20, .agg (⟨s, 1, 1, v⟩ : Res).c), (256, 21, .sl (.own 1344 0) 4 ([(⟨s, 1, 1, v⟩ : Res)].map Res.c)), (512, 22, .sl (.own 1408 0) 4 ((ll ++ [(⟨s, 1, 1, v⟩ : Res)]).map Res.c))] ++ [(5, I i), (4, .sl (.own 384 0) 1 (nms4.map fun s => [.v (.string (str s))])), (3, (if m / 512 % 2 = 1 then (if m / 1024 % 2 = 1 then .sl (.own 1408 0) 4 ((ll ++ [(⟨s, 1, 1, v⟩ : Res)]).map Res.c) else .undef) else .sl (.own 1408 0) 4 (ll.map Res.c))), (0, .ptr 63 0)], [(63, tapeC l (if m / 64 % 2 = 1 then a2 else a1))]⟩) ?_ ?_ ?_ fol
  ·exact imp1
  ·simp (maxSteps := 100000000) only [dagQ_cons, dagF_cons, dagQ_nil, dagF_nil, and_true, Nat.reduceDiv, Nat.reduceMod, Nat.reduceAnd, Nat.reduceEqDiff, reduceIte, true_and, and_false, false_and, and_self]
   repeat' (with_reducible refine And.intro ?_ ?_)
   all_goals simp (disch := omega) only [go_sem, List.getElem?_map, hs, List.length_map, List.nil_append, List.cons_append]
   all_goals first | exact Imp.weak (by simp (disch := omega) only [go_sem, List.nil_append, List.cons_append, List.map_append, List.map_cons, List.map_nil]) (by simp (disch := omega) only [go_sem, List.nil_append, List.cons_append, List.map_append, List.map_cons, List.map_nil]) | (refine call2 ⟨⟨[], [(63, 63)], []⟩, [], []⟩ hh37 ?_; simp (disch := omega) only [go_sem]; exact Imp.weak (by simp (disch := omega) only [go_sem, List.nil_append, List.cons_append, List.map_append, List.map_cons, List.map_nil]) (by simp (disch := omega) only [go_sem, List.nil_append, List.cons_append, List.map_append, List.map_cons, List.map_nil]))
  simp (disch := omega) only [go_sem]
  refine hJ _ (i + 1) (by omega) (by omega) (Imp.weak ?_ ?_)
  ·rw [han]
   simp (disch := omega) only [go_sem]
  ·rw [han]
   simp (disch := omega) only [go_sem]
 have him : i = 4 := by simp at hge; omega
 subst him
 have hcm : catalogM l a = ((locksM l a 4).1 ++ [(poolM l [112] 8 (locksM l a 4).2).1] ++ [(poolM l [113] 3 (poolM l [112] 8 (locksM l a 4).2).2).1], (poolM l [113] 3 (poolM l [112] 8 (locksM l a 4).2).2).2) := rfl
 rw [hcm]
 have hll := locksM_len l a 4
 generalize locksM l a 4 = ls at hll ⊢
 obtain ⟨ll, a1⟩ := ls
 simp only at hll ⊢
 obtain ⟨b1, b2⟩ := nextM_bd l a1 8 (by omega)
 have hp1 : poolM l [112] 8 a1 = (⟨[112], 2, 1 + (nextM l a1 8).1, (nextM l (nextM l a1 8).2 4).1⟩, (nextM l (nextM l a1 8).2 4).2) := rfl
 rw [hp1]
 have g1 := f24_ok l a1 8 hl (by omega)
 have g2 := f24_ok l (nextM l a1 8).2 4 hl (by omega)
 generalize (nextM l a1 8).2 = a2 at g1 g2 ⊢
 generalize (nextM l a1 8).1 = u1 at b1 b2 g1 ⊢
 simp only
 generalize (nextM l a2 4).2 = a3 at g2 ⊢
 generalize (nextM l a2 4).1 = h1 at g2 ⊢
 obtain ⟨c1, c2⟩ := nextM_bd l a3 3 (by omega)
 have hp2 : poolM l [113] 3 a3 = (⟨[113], 2, 1 + (nextM l a3 3).1, (nextM l (nextM l a3 3).2 4).1⟩, (nextM l (nextM l a3 3).2 4).2) := rfl
 rw [hp2]
 have g3 := f24_ok l a3 3 hl (by omega)
 have g4 := f24_ok l (nextM l a3 3).2 4 hl (by omega)
 generalize (nextM l a3 3).2 = a4 at g3 g4 ⊢
 generalize (nextM l a3 3).1 = u2 at c1 c2 g3 ⊢
 simp only
 generalize (nextM l a4 4).2 = a5 at g4 ⊢
 generalize (nextM l a4 4).1 = h2 at g4 ⊢
 have hw1 : IntKind.i64.wrap (1 + u1) = 1 + u1 := wrap64 _ (by omega) (by omega)
 have hw2 : IntKind.i64.wrap (1 + u2) = 1 + u2 := wrap64 _ (by omega) (by omega)
 have hbd1 : ll.length + 1 ≤ 4294967296 := by omega
 refine call2 ⟨⟨[], [(63, 63)], []⟩, [], []⟩ g1 ?_
 simp (disch := omega) only [go_sem, hw1]
 refine call2 ⟨⟨[], [(63, 63)], []⟩, [], []⟩ g2 ?_
 simp (disch := omega) only [go_sem]
 refine call2 ⟨⟨[], [(63, 63)], []⟩, [], []⟩ g3 ?_
 simp (disch := omega) only [go_sem, hw2]
 refine call2 ⟨⟨[], [(63, 63)], []⟩, [], []⟩ g4 ?_
 have hbd2 : ll.length + 1 + 1 ≤ 4294967296 := by omega
 simp (disch := omega) only [go_sem, List.length_append, List.length_map, List.length_singleton]
 refine ret3 ⟨[(2560, 0)], [(63, 63)], []⟩ _ ?_ ?_
 ·simp (disch := omega) only [go_sem]
  exact .sl (by rw [List.map_append, List.map_append]; rfl)
 ·simp (disch := omega) only [go_sem]
@[reducible] def es : AV := .v (.string (str []))
@[reducible] def stepC (s q d : Int) : List AV := [I 1, I s, I 0, I 0, I 0, I 1, I s, I 1, I q, I 0, es, I 0, I 0, nilS, I 0, I 0, es, I d]
theorem f27_ok (s q d : Int) (l : List Res) (X Y : List (List AV)) : FnOK C0 27 [.agg (stepC s q d), .ptr 63 0, .ptr 127 0, .ptr 191 0] [(63, [nilS]), (127, [I 0]), (191, [ressV l, .sl .no 37 X, .sl .no 1 Y])] (.tup []) [(63, [nilS]), (127, [I 0]), (191, [ressV l, .sl .no 37 X, .sl .no 1 Y])] := by
 refine FnOK.go Tryz.f27 ?_
 unfold Tryz.f27
 simp (disch := omega) only [go_sem]
 refine ret3 ⟨[], [(63, 63), (127, 127), (191, 191)], []⟩ _ ?_ ?_
 ·simp (disch := omega) only [go_sem]
 ·simp (disch := omega) only [go_sem]
theorem f27_z (s q d : Int) : FnOK C0 27 [.agg (stepC s q d), .ptr 63 0, .ptr 127 0, .ptr 191 0] [(63, [nilS]), (127, [I 0]), (191, [nilS, nilS, nilS])] (.tup []) [(63, [nilS]), (127, [I 0]), (191, [nilS, nilS, nilS])] := by
 refine FnOK.go Tryz.f27 ?_
 unfold Tryz.f27
 simp (disch := omega) only [go_sem]
 refine ret3 ⟨[], [(63, 63), (127, 127), (191, 191)], []⟩ _ ?_ ?_
 ·simp (disch := omega) only [go_sem]
 ·simp (disch := omega) only [go_sem]
end Go.Rd
open Go Go.Abs Go.Proofs
set_option maxRecDepth 100000
namespace Go.Rd
def cntL : List Int := [2, 2, 3, 4, 1, 2, 3, 2]
def cluN (l : List Int) : Int := cntL.getD (nextM l 0 8).1.toNat 1
def modR (n : Int) (r : Res) : Res := ⟨r.name, r.kind, r.units, r.home.tmod n⟩
def cluL (l : List Int) : List Res := (catalogM l (nextM l 0 8).2).1.map (modR (cluN l))
theorem cluN_bd (l : List Int) : 1 ≤ cluN l ∧ cluN l ≤ 4 := by
 obtain ⟨h1, h2⟩ := nextM_bd l 0 8 (by omega)
 unfold cluN
 generalize (nextM l 0 8).1 = x at *
 obtain ⟨k, rfl⟩ : ∃ k : Nat, x = k := ⟨x.toNat, by omega⟩
 have : k < 8 := by omega
 simp only [Int.toNat_natCast]
 match k, this with
 | 0, _ | 1, _ | 2, _ | 3, _ | 4, _ | 5, _ | 6, _ | 7, _ => simp [cntL]
theorem cluN_get (l : List Int) : ([[I 2], [I 2], [I 3], [I 4], [I 1], [I 2], [I 3], [I 2]] : List (List AV))[(nextM l 0 8).1.toNat]? = some [I (cluN l)] := by
 obtain ⟨h1, h2⟩ := nextM_bd l 0 8 (by omega)
 unfold cluN
 generalize (nextM l 0 8).1 = x at *
 obtain ⟨k, rfl⟩ : ∃ k : Nat, x = k := ⟨x.toNat, by omega⟩
 have : k < 8 := by omega
 simp only [Int.toNat_natCast]
 match k, this with
 | 0, _ | 1, _ | 2, _ | 3, _ | 4, _ | 5, _ | 6, _ | 7, _ => rfl
def mixL (n : Int) (c : List Res) (i : Nat) : List Res := (c.take i).map (modR n) ++ c.drop i
theorem mixL_len (n : Int) (c : List Res) (i : Nat) : (mixL n c i).length = c.length := by simp [mixL]; omega
theorem mixL_get {n : Int} {c : List Res} {i : Nat} {b : Res} (h : c[i]? = some b) : (mixL n c i)[i]? = some b := by
 have hi := lt_of_get h
 unfold mixL
 rw [List.getElem?_append_right (by simp; omega)]
 simp only [List.length_map, List.length_take, Nat.min_eq_left (Nat.le_of_lt hi), Nat.sub_self, List.getElem?_drop, Nat.add_zero, h]
theorem mixL_set {n : Int} {c : List Res} {i : Nat} {b : Res} (h : c[i]? = some b) : (mixL n c i).set i (modR n b) = mixL n c (i + 1) := by
 have hi := lt_of_get h
 unfold mixL
 rw [List.set_append_right _ _ (by simp; omega)]
 simp only [List.length_map, List.length_take, Nat.min_eq_left (Nat.le_of_lt hi), Nat.sub_self]
 rw [List.take_add_one, h, List.map_append, List.append_assoc]
 congr 1
 have : c.drop i = b :: c.drop (i + 1) := by
  rw [List.drop_eq_getElem_cons hi]
  rw [List.getElem?_eq_getElem hi] at h
  rw [Option.some.inj h]
 rw [this]
 rfl
theorem catalogM_len (l : List Int) (a : Nat) : (catalogM l a).1.length = 6 := by
 simp only [catalogM, List.length_append, locksM_len, List.length_cons, List.length_nil]
theorem homes_bd {c : List Res} {i : Nat} {b : Res} (h : c[i]? = some b) (hc : ∀ r ∈ c, 0 ≤ r.home ∧ r.home < 4) : 0 ≤ b.home ∧ b.home < 4 := hc b (List.mem_of_getElem? h)
theorem locksM_home (l : List Int) (a : Nat) : ∀ i, ∀ r ∈ (locksM l a i).1, 0 ≤ r.home ∧ r.home < 4
 | 0, r, h => by cases h
 | i + 1, r, h => by
  simp only [locksM, List.mem_append, List.mem_singleton] at h
  rcases h with h | rfl
  ·exact locksM_home l a i r h
  ·exact nextM_bd _ _ _ (by omega)
theorem catalogM_home (l : List Int) (a : Nat) : ∀ r ∈ (catalogM l a).1, 0 ≤ r.home ∧ r.home < 4 := by
 intro r h
 simp only [catalogM, List.mem_append, List.mem_singleton] at h
 rcases h with (h | rfl) | rfl
 ·exact locksM_home l a 4 r h
 ·exact nextM_bd _ _ _ (by omega)
 ·exact nextM_bd _ _ _ (by omega)
set_option maxHeartbeats 4000000 in
theorem f7_ok (l : List Int) (hl : l.length ≤ 1000000) : FnOK C0 7 [intsV l, I 0, B false] [] (.tup [ressV (cluL l), I (cluN l), nilS]) [] := by
 have g1 := f24_ok l 0 8 hl (by omega)
 obtain ⟨b1, b2⟩ := nextM_bd l 0 8 (by omega)
 have hg := cluN_get l
 obtain ⟨n1, n4⟩ := cluN_bd l
 unfold cluL
 generalize cluN l = n at *
 generalize (nextM l 0 8).1 = x at *
 generalize (nextM l 0 8).2 = a1 at *
 refine FnOK.go Tryz.f7 ?_
 unfold Tryz.f7
 simp (disch := omega) only [go_sem]
 refine call2 ⟨⟨[], [(1792, 63)], []⟩, [], []⟩ g1 ?_
 simp (disch := omega) only [go_sem, hg, List.length_cons, List.length_nil]
 have g2 := f25_own l a1 hl
 have hc6 := catalogM_len l a1
 have hch := catalogM_home l a1
 generalize (catalogM l a1).1 = c at *
 generalize (catalogM l a1).2 = a2 at *
 refine call2 ⟨⟨[], [(1792, 63)], []⟩, [(0, 2240)], []⟩ g2 ?_
 simp (disch := omega) only [go_sem]
 refine loop_intro (α := Nat) (fun i => ⟨[(12, I i), (4, .ptr 256 0), (9, .ptr 1792 0), (10, I n), (11, .sl (.own 2240 0) 4 ((mixL n c i).map Res.c))], [(256, [I 0]), (1792, tapeC l a2)]⟩) (fun i => i ≤ 6) (fun i => 6 - i) 0 (by omega) (Imp.weak ?_ ?_) ?_
 ·simp (disch := omega) only [go_sem, mixL, List.take_zero, List.map_nil, List.nil_append, List.drop_zero]
 ·simp (disch := omega) only [go_sem]
 rintro i hi J hJ
 have hml := mixL_len n c i
 simp (disch := omega) only [go_sem, List.length_map, hml, hc6]
 refine And.intro (fun hlt => ?_) (fun hge => ?_)
 ·have hlt2 : i < 6 := by simp at hlt; omega
  obtain ⟨b, hb⟩ : ∃ b, c[i]? = some b := ⟨_, List.getElem?_eq_getElem (by omega)⟩
  have hmg := mixL_get (n := n) hb
  have hms := mixL_set (n := n) hb
  obtain ⟨e1, e2⟩ := homes_bd hb hch
  have hn0 := eq_false (show ¬ n = 0 by omega)
  simp (disch := omega) only [go_sem, List.getElem?_map, hmg, List.length_map, hml, hc6, hn0]
  have e : (⟨b.name, b.kind, b.units, b.home.tmod n⟩ : Res) = modR n b := rfl
  refine hJ _ (i + 1) (by omega) (by omega) (Imp.weak ?_ (by simp (disch := omega) only [go_sem]))
  simp (disch := omega) only [go_sem]
  exact .sl (by rw [← hms, List.map_set]; rfl)
 have hi6 : i = 6 := by simp at hge; omega
 subst hi6
 have hmx : mixL n c 6 = c.map (modR n) := by
  unfold mixL
  rw [List.take_of_length_le (by omega), List.drop_eq_nil_of_le (by omega), List.append_nil]
 rw [hmx]
 have hcl : (c.map (modR n)).length = 6 := by simp [hc6]
 have g3 := f26_ok (c.map (modR n)) n (by omega)
 generalize c.map (modR n) = r at *
 obtain ⟨k, rfl⟩ : ∃ k : Nat, n = k := ⟨n.toNat, by omega⟩
 cases hm : machOK r k with
 | true =>
  have er : AV.tup [machV r k, I (machE r k)] = .tup [.agg [ressV r, .sl .no 37 (sitesL r k k), .sl .no 1 (List.replicate (k * k) [nilS])], I 0] := by
   simp [machV, machE, hm, machC]
  rw [er] at g3
  simp (disch := omega) only [go_sem]
  refine call_frz [2240] g3 (by simp (disch := omega) only [go_sem]) rfl ?_
  simp (disch := omega) only [go_sem]
  refine loop_intro (α := Nat × Nat) (fun x => ⟨[(17, I x.1), (16, .fn 27 [.ptr 960 0, .ptr 256 0, .ptr 832 0]), (15, .ptr 960 0), (14, I 0), (4, .ptr 256 0), (9, .ptr 1792 0), (10, I k), (11, ressV r)], [(960, [nilS]), (832, [ressV r, .sl .no 37 (sitesL r k k), .sl .no 1 (List.replicate (k * k) [nilS])]), (256, [I 0]), (1792, tapeC l x.2)]⟩) (fun x => x.1 ≤ 8) (fun x => 8 - x.1) (0, a2) (by simp) imp1 ?_
  rintro ⟨i, a⟩ hi J hJ
  simp only at hi
  have hkn := eq_false (show ¬ (k : Int) = 0 by omega)
  simp (disch := omega) only [go_sem, hkn]
  refine And.intro (fun hlt => ?_) (fun hge => ?_)
  ·have hlt2 : i < 2 * k := by simp at hlt; omega
   obtain ⟨s, hs⟩ : ∃ s, (i : Int).tmod k = s := ⟨_, rfl⟩
   obtain ⟨t, ht⟩ : ∃ t, (i : Int).tdiv k = t := ⟨_, rfl⟩
   have t0 : 0 ≤ t := by rw [← ht]; exact Int.tdiv_nonneg (by omega) (by omega)
   have t8 : t ≤ 8 := by rw [← ht]; have := Int.tdiv_le_self (a := (i : Int)) (k : Int) (by omega); omega
   rw [hs]
   have g4 := f24_ok l a 9 hl (by omega)
   obtain ⟨d1, d2⟩ := nextM_bd l a 9 (by omega)
   have hJ2 := fun st' => hJ st' (i + 1, (nextM l a 9).2) (by simp only; omega) (by simp only; omega)
   generalize (nextM l a 9).1 = d at *
   generalize (nextM l a 9).2 = a3 at *
   refine draw_sym2 [(0, [], [13]), (1, [], [12, 13]), (2, [], [7, 11, 12, 13]), (3, [], [5, 6, 7, 11, 12, 13]), (4, [], [5, 6, 7, 11, 12, 13]), (5, [3, 4], [6, 7, 11, 12, 13]), (6, [5, 3, 4], [7, 11, 12, 13]), (7, [2, 6, 5, 3, 4], [11, 12, 13]), (8, [], [9, 10, 13, 11, 12]), (9, [8], [10, 13, 11, 12]), (10, [9, 8], [11, 12, 13]), (11, [7, 10, 2, 6, 9, 5, 8, 3, 4], [12, 13]), (12, [1, 11, 7, 10, 2, 6, 9, 5, 8, 3, 4], [13]), (13, [0, 12, 9, 1, 11, 8, 7, 10, 2, 6, 5, 3, 4], [])] [0, 1, 2, 3, 4, 5, 6, 7, 8, 9, 10, 11, 12, 13] [(0, 67, .fn 27 [.ptr 960 0, .ptr 256 0, .ptr 832 0], []), (1, 68, I s, []), (2, 69, I s, []), (3, 70, I i, []), (4, 71, I k, []), (5, 72, I t, []), (6, 73, I (1 + t), []), (7, 74, .agg [I s, I 1, I (1 + t)], []), (8, 75, .ptr 1792 0, []), (9, 76, I d, []), (10, 77, I (1 + d), []), (11, 78, .agg [I 1, I s, I 1, I (1 + t), I 0, es, I 0, I 0, nilS, I 0, I 0, es, I (1 + d)], []), (12, 79, .agg (stepC s (1 + t) (1 + d)), [])] (fun b => [(18, I s), (17, I i), (16, .fn 27 [.ptr 960 0, .ptr 256 0, .ptr 832 0]), (15, .ptr 960 0), (14, I 0), (4, .ptr 256 0), (9, .ptr 1792 0), (10, I k), (11, ressV r)]) (fun b => [(960, [nilS]), (832, [ressV r, .sl .no 37 (sitesL r k k), .sl .no 1 (List.replicate (k * k) [nilS])]), (256, [I 0]), (1792, if b 9 then tapeC l a3 else tapeC l a)]) ?_ (fun b => ?_) (fun b => ?_) fol
   ·exact Imp.weak (by simp (disch := omega) only [go_sem]) (by simp (disch := omega) only [go_sem])
   ·simp only [symP, and_true]
    cases h9 : b 9
    all_goals repeat' (with_reducible refine And.intro ?_ ?_)
    all_goals simp (disch := omega) only [go_sem, h9, ht, hkn]
    all_goals (try first | (refine sel_step [] rfl (by rfl) ?_ ?_ ?_ <;> (simp (disch := omega) only [go_sem, h9]; done)) | (refine sel_step [(_, _)] rfl (by rfl) ?_ ?_ ?_ <;> (simp (disch := omega) only [go_sem, h9]; done)) | (refine sel_step [(_, _), (_, _)] rfl (by rfl) ?_ ?_ ?_ <;> (simp (disch := omega) only [go_sem, h9]; done)) | (refine sel_step [(_, _), (_, _), (_, _)] rfl (by rfl) ?_ ?_ ?_ <;> (simp (disch := omega) only [go_sem, h9]; done)) | (refine sel_skip [] rfl (by rfl) ?_ ?_ ?_ <;> (simp (disch := omega) only [go_sem, h9]; done)) | (refine sel_skip [(_, _)] rfl (by rfl) ?_ ?_ ?_ <;> (simp (disch := omega) only [go_sem, h9]; done)))
    all_goals first
     | refine call2 ⟨⟨[], [(1792, 63)], []⟩, [], []⟩ g4 ?_
     | refine call2 ⟨⟨[], [(960, 63), (256, 127), (832, 191)], []⟩, [], []⟩ (f27_ok s (1 + t) (1 + d) r (sitesL r k k) (List.replicate (k * k) [nilS])) ?_
    all_goals simp (disch := omega) only [go_sem, h9]
    all_goals (try first | (refine sel_step [] rfl (by rfl) ?_ ?_ ?_ <;> (simp (disch := omega) only [go_sem, h9]; done)) | (refine sel_step [(_, _)] rfl (by rfl) ?_ ?_ ?_ <;> (simp (disch := omega) only [go_sem, h9]; done)) | (refine sel_step [(_, _), (_, _)] rfl (by rfl) ?_ ?_ ?_ <;> (simp (disch := omega) only [go_sem, h9]; done)) | (refine sel_step [(_, _), (_, _), (_, _)] rfl (by rfl) ?_ ?_ ?_ <;> (simp (disch := omega) only [go_sem, h9]; done)) | (refine sel_skip [] rfl (by rfl) ?_ ?_ ?_ <;> (simp (disch := omega) only [go_sem, h9]; done)) | (refine sel_skip [(_, _)] rfl (by rfl) ?_ ?_ ?_ <;> (simp (disch := omega) only [go_sem, h9]; done)))
   simp (disch := omega) only [go_sem]
   exact hJ2 _ imp1
  refine loop_intro (α := Unit) (fun _ => ⟨[(19, I 0), (16, .fn 27 [.ptr 960 0, .ptr 256 0, .ptr 832 0]), (15, .ptr 960 0), (14, I 0), (4, .ptr 256 0), (9, .ptr 1792 0), (10, I k), (11, ressV r)], [(960, [nilS]), (832, [ressV r, .sl .no 37 (sitesL r k k), .sl .no 1 (List.replicate (k * k) [nilS])]), (256, [I 0]), (1792, tapeC l a)]⟩) (fun _ => True) (fun _ => 0) () trivial imp1 ?_
  rintro _ _ J2 hJ2
  simp (disch := omega) only [go_sem]
  refine call2 ⟨⟨[], [(1792, 63)], []⟩, [], []⟩ (f29_ok l a hl) ?_
  simp (disch := omega) only [go_sem]
  refine And.intro (fun _ => ?_) (fun _ => ?_)
  all_goals
   refine draw_mk 5 [([], [11]), ([], [10]), ([], [15]), ([0], [233]), ([0, 1, 3], [234]), ([0, 1, 2, 3, 4], [])] fol (by kernel_rfl) ?_
   simp (disch := omega) only [go_sem]
   refine ret3 ⟨[], [], []⟩ _ ?_ ?_
   ·simp (disch := omega) only [go_sem]
   ·simp (disch := omega) only [go_sem]
 | false =>
  have er : AV.tup [machV r k, I (machE r k)] = .tup [.agg [nilS, nilS, nilS], I 1] := by
   simp [machV, machE, hm]
  rw [er] at g3
  simp (disch := omega) only [go_sem]
  refine call_frz [2240] g3 (by simp (disch := omega) only [go_sem]) rfl ?_
  simp (disch := omega) only [go_sem]
  refine loop_intro (α := Nat × Nat) (fun x => ⟨[(17, I x.1), (16, .fn 27 [.ptr 960 0, .ptr 256 0, .ptr 832 0]), (15, .ptr 960 0), (14, I 1), (4, .ptr 256 0), (9, .ptr 1792 0), (10, I k), (11, ressV r)], [(960, [nilS]), (832, [nilS, nilS, nilS]), (256, [I 0]), (1792, tapeC l x.2)]⟩) (fun x => x.1 ≤ 8) (fun x => 8 - x.1) (0, a2) (by simp) imp1 ?_
  rintro ⟨i, a⟩ hi J hJ
  simp only at hi
  have hkn := eq_false (show ¬ (k : Int) = 0 by omega)
  simp (disch := omega) only [go_sem, hkn]
  refine And.intro (fun hlt => ?_) (fun hge => ?_)
  ·have hlt2 : i < 2 * k := by simp at hlt; omega
   obtain ⟨s, hs⟩ : ∃ s, (i : Int).tmod k = s := ⟨_, rfl⟩
   obtain ⟨t, ht⟩ : ∃ t, (i : Int).tdiv k = t := ⟨_, rfl⟩
   have t0 : 0 ≤ t := by rw [← ht]; exact Int.tdiv_nonneg (by omega) (by omega)
   have t8 : t ≤ 8 := by rw [← ht]; have := Int.tdiv_le_self (a := (i : Int)) (k : Int) (by omega); omega
   rw [hs]
   have g4 := f24_ok l a 9 hl (by omega)
   obtain ⟨d1, d2⟩ := nextM_bd l a 9 (by omega)
   have hJ2 := fun st' => hJ st' (i + 1, (nextM l a 9).2) (by simp only; omega) (by simp only; omega)
   generalize (nextM l a 9).1 = d at *
   generalize (nextM l a 9).2 = a3 at *
   refine draw_sym2 [(0, [], [13]), (1, [], [12, 13]), (2, [], [7, 11, 12, 13]), (3, [], [5, 6, 7, 11, 12, 13]), (4, [], [5, 6, 7, 11, 12, 13]), (5, [3, 4], [6, 7, 11, 12, 13]), (6, [5, 3, 4], [7, 11, 12, 13]), (7, [2, 6, 5, 3, 4], [11, 12, 13]), (8, [], [9, 10, 13, 11, 12]), (9, [8], [10, 13, 11, 12]), (10, [9, 8], [11, 12, 13]), (11, [7, 10, 2, 6, 9, 5, 8, 3, 4], [12, 13]), (12, [1, 11, 7, 10, 2, 6, 9, 5, 8, 3, 4], [13]), (13, [0, 12, 9, 1, 11, 8, 7, 10, 2, 6, 5, 3, 4], [])] [0, 1, 2, 3, 4, 5, 6, 7, 8, 9, 10, 11, 12, 13] [(0, 67, .fn 27 [.ptr 960 0, .ptr 256 0, .ptr 832 0], []), (1, 68, I s, []), (2, 69, I s, []), (3, 70, I i, []), (4, 71, I k, []), (5, 72, I t, []), (6, 73, I (1 + t), []), (7, 74, .agg [I s, I 1, I (1 + t)], []), (8, 75, .ptr 1792 0, []), (9, 76, I d, []), (10, 77, I (1 + d), []), (11, 78, .agg [I 1, I s, I 1, I (1 + t), I 0, es, I 0, I 0, nilS, I 0, I 0, es, I (1 + d)], []), (12, 79, .agg (stepC s (1 + t) (1 + d)), [])] (fun b => [(18, I s), (17, I i), (16, .fn 27 [.ptr 960 0, .ptr 256 0, .ptr 832 0]), (15, .ptr 960 0), (14, I 1), (4, .ptr 256 0), (9, .ptr 1792 0), (10, I k), (11, ressV r)]) (fun b => [(960, [nilS]), (832, [nilS, nilS, nilS]), (256, [I 0]), (1792, if b 9 then tapeC l a3 else tapeC l a)]) ?_ (fun b => ?_) (fun b => ?_) fol
   ·exact Imp.weak (by simp (disch := omega) only [go_sem]) (by simp (disch := omega) only [go_sem])
   ·simp only [symP, and_true]
    cases h9 : b 9
    all_goals repeat' (with_reducible refine And.intro ?_ ?_)
    all_goals simp (disch := omega) only [go_sem, h9, ht, hkn]
    all_goals (try first | (refine sel_step [] rfl (by rfl) ?_ ?_ ?_ <;> (simp (disch := omega) only [go_sem, h9]; done)) | (refine sel_step [(_, _)] rfl (by rfl) ?_ ?_ ?_ <;> (simp (disch := omega) only [go_sem, h9]; done)) | (refine sel_step [(_, _), (_, _)] rfl (by rfl) ?_ ?_ ?_ <;> (simp (disch := omega) only [go_sem, h9]; done)) | (refine sel_step [(_, _), (_, _), (_, _)] rfl (by rfl) ?_ ?_ ?_ <;> (simp (disch := omega) only [go_sem, h9]; done)) | (refine sel_skip [] rfl (by rfl) ?_ ?_ ?_ <;> (simp (disch := omega) only [go_sem, h9]; done)) | (refine sel_skip [(_, _)] rfl (by rfl) ?_ ?_ ?_ <;> (simp (disch := omega) only [go_sem, h9]; done)))
    all_goals first
     | refine call2 ⟨⟨[], [(1792, 63)], []⟩, [], []⟩ g4 ?_
     | refine call2 ⟨⟨[], [(960, 63), (256, 127), (832, 191)], []⟩, [], []⟩ (f27_z s (1 + t) (1 + d)) ?_
    all_goals simp (disch := omega) only [go_sem, h9]
    all_goals (try first | (refine sel_step [] rfl (by rfl) ?_ ?_ ?_ <;> (simp (disch := omega) only [go_sem, h9]; done)) | (refine sel_step [(_, _)] rfl (by rfl) ?_ ?_ ?_ <;> (simp (disch := omega) only [go_sem, h9]; done)) | (refine sel_step [(_, _), (_, _)] rfl (by rfl) ?_ ?_ ?_ <;> (simp (disch := omega) only [go_sem, h9]; done)) | (refine sel_step [(_, _), (_, _), (_, _)] rfl (by rfl) ?_ ?_ ?_ <;> (simp (disch := omega) only [go_sem, h9]; done)) | (refine sel_skip [] rfl (by rfl) ?_ ?_ ?_ <;> (simp (disch := omega) only [go_sem, h9]; done)) | (refine sel_skip [(_, _)] rfl (by rfl) ?_ ?_ ?_ <;> (simp (disch := omega) only [go_sem, h9]; done)))
   simp (disch := omega) only [go_sem]
   exact hJ2 _ imp1
  refine loop_intro (α := Unit) (fun _ => ⟨[(19, I 0), (16, .fn 27 [.ptr 960 0, .ptr 256 0, .ptr 832 0]), (15, .ptr 960 0), (14, I 1), (4, .ptr 256 0), (9, .ptr 1792 0), (10, I k), (11, ressV r)], [(960, [nilS]), (832, [nilS, nilS, nilS]), (256, [I 0]), (1792, tapeC l a)]⟩) (fun _ => True) (fun _ => 0) () trivial imp1 ?_
  rintro _ _ J2 hJ2
  simp (disch := omega) only [go_sem]
  refine call2 ⟨⟨[], [(1792, 63)], []⟩, [], []⟩ (f29_ok l a hl) ?_
  simp (disch := omega) only [go_sem]
  refine And.intro (fun _ => ?_) (fun _ => ?_)
  all_goals
   refine draw_mk 5 [([], [11]), ([], [10]), ([], [15]), ([0], [233]), ([0, 1, 3], [234]), ([0, 1, 2, 3, 4], [])] fol (by kernel_rfl) ?_
   simp (disch := omega) only [go_sem]
   refine ret3 ⟨[], [], []⟩ _ ?_ ?_
   ·simp (disch := omega) only [go_sem]
   ·simp (disch := omega) only [go_sem]
end Go.Rd
