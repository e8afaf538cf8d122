/- part 16 of the proof -/
import Derived.Test.YtobcllcndnbmlaaGreatDoorM12
import Derived.Test.YtobcllcndnbmlaaGreatDoorM15
set_option linter.all false
open Go Go.Abs Go.Proofs
set_option maxRecDepth 100000
namespace Go.Rd
theorem same_yes {l : List Res} {id n : Int} (h : newOK l id n = true) : FnOK C0 8 [.agg (siteX id n (newQs (atR l id)) (.sl .no 3 (List.replicate n.toNat lnk))), .agg (siteX id n (newQs (atR l id)) (.sl .no 3 (List.replicate n.toNat lnk)))] [] (B true) [] := by
 simp only [newOK, Bool.and_eq_true] at h
 have h8 := catOK_len h.1.1
 have h4 := properB_iff.1 h.1.2
 refine f8_ok (atR l id) id n n.toNat ?_ (by omega)
 have : (atR l id).length ≤ l.length := by simp only [atR]; exact List.length_filter_le _ _
 omega
set_option maxHeartbeats 4000000 in
theorem f3_ok (l : List Res) (id n : Int) (sc : List Int) : FnOK C0 3 [ressV l, I id, I n, intsV sc] [] (B true) [] := by
 refine FnOK.lens Tryz.f3 fun hlen => ?_
 simp only [lensL, lens, List.length_map, and_true, true_and] at hlen
 by_cases h20 : 20 < l.length
 ·have := f4_ok
  refine FnOK.go Tryz.f3 ?_
  unfold Tryz.f3
  simp (disch := omega) only [go_sem, List.length_map, eq_true (show 20 < (l.length : Int) by omega), decide_true]
  refine call1 f4_ok ?_
  simp (disch := omega) only [go_sem]
  refine ret1 _ ?_
  simp (disch := omega) only [go_sem]
 by_cases h60 : 60 < sc.length
 ·have := f4_ok
  refine FnOK.go Tryz.f3 ?_
  unfold Tryz.f3
  simp (disch := omega) only [go_sem, List.length_map, eq_false (show ¬ 20 < (l.length : Int) by omega), decide_false, eq_true (show 60 < (sc.length : Int) by omega), decide_true]
  refine call1 f4_ok ?_
  simp (disch := omega) only [go_sem]
  refine ret1 _ ?_
  simp (disch := omega) only [go_sem]
 have a1 := f5_ok l id n
 have a2 := f6_ok l id n
 have a4 := f7_ok sc (by omega)
 obtain ⟨n1, n4⟩ := cluN_bd sc
 generalize cluL sc = r at *
 generalize cluN sc = kk at *
 obtain ⟨k, rfl⟩ : ∃ k : Nat, kk = k := ⟨kk.toNat, by omega⟩
 cases he : newOK l id n with
 | false =>
  have er : AV.tup [siteV l id n, I (siteE l id n)] = .tup [.agg zeroSite, I 1] := ret_zero he
  have a3 := f8_z
  rw [er] at a1 a2
  refine FnOK.go Tryz.f3 ?_
  unfold Tryz.f3
  simp (disch := omega) only [go_sem, List.length_map, eq_false (show ¬ 20 < (l.length : Int) by omega), eq_false (show ¬ 60 < (sc.length : Int) by omega), decide_false]
  refine call1 a1 ?_
  simp (disch := omega) only [go_sem]
  refine call1 a2 ?_
  simp (disch := omega) only [go_sem]
  refine call1 a4 ?_
  simp (disch := omega) only [go_sem]
  refine loop_intro (α := Nat) (fun i => ⟨[(16, I i), (13, ressV r), (14, I k), (9, .ptr 576 0), (10, I 1), (11, .ptr 704 0), (12, I 1)], [(576, zeroSite), (704, zeroSite)]⟩) (fun i => i ≤ k) (fun i => k - i) 0 (by omega) imp1 ?_
  rintro i hi J hJ
  simp (disch := omega) only [go_sem]
  refine And.intro (fun hlt => ?_) (fun hge => ?_)
  ·have hlt2 : i < k := by simp at hlt; omega
   have b1 := f5_ok r i k
   have b2 := f6_ok r i k
   cases hr : newOK r i k with
   | false =>
    rw [ret_zero hr] at b1 b2
    refine call1 b1 ?_
    simp (disch := omega) only [go_sem]
    refine call1 b2 ?_
    simp (disch := omega) only [go_sem]
    refine call1 f8_z ?_
    simp (disch := omega) only [go_sem]
    exact hJ _ (i + 1) (by omega) (by omega) imp1
   | true =>
    have er2 : AV.tup [siteV r i k, I (siteE r i k)] = .tup [.agg (siteX i k (newQs (atR r i)) (.sl .no 3 (List.replicate (k : Int).toNat lnk))), I 0] := by
     simp [siteV, siteE, hr, siteC_eq]
    have b3 := same_yes hr
    rw [er2] at b1 b2
    generalize (k : Int).toNat = k2 at *
    refine call1 b1 ?_
    simp (disch := omega) only [go_sem]
    refine call1 b2 ?_
    simp (disch := omega) only [go_sem]
    refine call1 b3 ?_
    simp (disch := omega) only [go_sem]
    exact hJ _ (i + 1) (by omega) (by omega) imp1
  refine call1 f4_ok ?_
  simp (disch := omega) only [go_sem]
  refine call1 f8_z ?_
  simp (disch := omega) only [go_sem]
  refine ret1 _ ?_
  simp (disch := omega) only [go_sem]
 | true =>
  have er : AV.tup [siteV l id n, I (siteE l id n)] = .tup [.agg (siteX id n (newQs (atR l id)) (.sl .no 3 (List.replicate n.toNat lnk))), I 0] := by
   simp [siteV, siteE, he, siteC_eq]
  have a3 := same_yes he
  generalize n.toNat = k1 at *
  rw [er] at a1 a2
  refine FnOK.go Tryz.f3 ?_
  unfold Tryz.f3
  simp (disch := omega) only [go_sem, List.length_map, eq_false (show ¬ 20 < (l.length : Int) by omega), eq_false (show ¬ 60 < (sc.length : Int) by omega), decide_false]
  refine call1 a1 ?_
  simp (disch := omega) only [go_sem]
  refine call1 a2 ?_
  simp (disch := omega) only [go_sem]
  refine call1 a4 ?_
  simp (disch := omega) only [go_sem]
  refine loop_intro (α := Nat) (fun i => ⟨[(16, I i), (13, ressV r), (14, I k), (9, .ptr 576 0), (10, I 0), (11, .ptr 704 0), (12, I 0)], [(576, (siteX id n (newQs (atR l id)) (.sl .no 3 (List.replicate k1 lnk)))), (704, (siteX id n (newQs (atR l id)) (.sl .no 3 (List.replicate k1 lnk))))]⟩) (fun i => i ≤ k) (fun i => k - i) 0 (by omega) imp1 ?_
  rintro i hi J hJ
  simp (disch := omega) only [go_sem]
  refine And.intro (fun hlt => ?_) (fun hge => ?_)
  ·have hlt2 : i < k := by simp at hlt; omega
   have b1 := f5_ok r i k
   have b2 := f6_ok r i k
   cases hr : newOK r i k with
   | false =>
    rw [ret_zero hr] at b1 b2
    refine call1 b1 ?_
    simp (disch := omega) only [go_sem]
    refine call1 b2 ?_
    simp (disch := omega) only [go_sem]
    refine call1 f8_z ?_
    simp (disch := omega) only [go_sem]
    exact hJ _ (i + 1) (by omega) (by omega) imp1
   | true =>
    have er2 : AV.tup [siteV r i k, I (siteE r i k)] = .tup [.agg (siteX i k (newQs (atR r i)) (.sl .no 3 (List.replicate (k : Int).toNat lnk))), I 0] := by
     simp [siteV, siteE, hr, siteC_eq]
    have b3 := same_yes hr
    rw [er2] at b1 b2
    generalize (k : Int).toNat = k2 at *
    refine call1 b1 ?_
    simp (disch := omega) only [go_sem]
    refine call1 b2 ?_
    simp (disch := omega) only [go_sem]
    refine call1 b3 ?_
    simp (disch := omega) only [go_sem]
    exact hJ _ (i + 1) (by omega) (by omega) imp1
  refine call1 f4_ok ?_
  simp (disch := omega) only [go_sem]
  refine call1 a3 ?_
  simp (disch := omega) only [go_sem]
  refine ret1 _ ?_
  simp (disch := omega) only [go_sem]
end Go.Rd
