/- part 12 of the proof -/
import Derived.Test.YtabbhaeabcdonaaGreatDoorM11
set_option linter.all false
open Go Go.Abs Go.Proofs
set_option maxRecDepth 100000
namespace Go.Rd
def siteM (id n : Int) (q links : AV) : List AV := [I id, I n, B true, I 1, q, nilS, links, I 0, I 0, I 0, I 0, I 0, I 0, nilS, I 0, B false, B false, nilS, B false, B false, B false, I 0, I 0, I 0, I 0, nilS, nilS, nilS, nilS, nilS, nilS, nilS, nilS, nilS, nilS, I 0, I 0]
attribute [go_sem] siteM
theorem f13_ok (l : List Res) (id n : Int) : FnOK C0 13 [ressV l, I id, I n] [] (.tup [siteV l id n, I (siteE l id n)]) [] := by
 by_cases hc : catOK l = true
 rotate_left
 ·have e : newOK l id n = false := by simp [newOK, hc]
  have hf := f33_ok l
  rw [Bool.eq_false_iff.2 hc] at hf
  rw [ret_zero e]
  refine FnOK.go Tryz.f13 ?_
  unfold Tryz.f13
  simp (disch := omega) only [go_sem]
  refine call1 hf ?_
  simp (disch := omega) only [go_sem]
  refine ret1 _ ?_
  simp (disch := omega) only [go_sem]
 have hl := catOK_len hc
 by_cases hp : properB id n = true
 rotate_left
 ·have e : newOK l id n = false := by simp [newOK, hp]
  have hf := f34_ok id n
  rw [Bool.eq_false_iff.2 hp] at hf
  rw [ret_zero e]
  refine FnOK.go Tryz.f13 ?_
  unfold Tryz.f13
  simp (disch := omega) only [go_sem]
  refine call1 (f33_t hc) ?_
  simp (disch := omega) only [go_sem]
  refine call1 hf ?_
  simp (disch := omega) only [go_sem]
  refine ret1 _ ?_
  simp (disch := omega) only [go_sem]
 obtain ⟨p1, p2, p3, p4⟩ := properB_iff.1 hp
 refine FnOK.go Tryz.f13 ?_
 unfold Tryz.f13
 simp (disch := omega) only [go_sem]
 refine call1 (f33_t hc) ?_
 simp (disch := omega) only [go_sem]
 refine call1 (f34_t hp) ?_
 simp (disch := omega) only [go_sem]
 refine loop_intro (α := Nat) (fun i => ⟨[(24, I i), (23, I l.length), (22, ressV l), (6, .ptr 384 0), (7, I 0), (0, ressV l), (1, I id), (2, I n)], [(384, zeroSite)]⟩) (fun i => i ≤ (l).length ∧ (l.take i).all (homeB n) = true) (fun i => (l).length - i) 0 ⟨by omega, rfl⟩ ?_ ?_
 ·refine Imp.weak ?_ ?_
  all_goals (try simp (disch := omega) only [go_sem])
  all_goals (try (repeat' (with_reducible apply And.intro)))
  all_goals (first | exact .nilOwn (by omega) | exact .nilNo (by omega) | exact .sl (by simp []) | exact .int (by simp []) | exact .eq (by simp []))
 rintro i ⟨hi, hP⟩ J hJ
 simp (disch := omega) only [go_sem]
 refine And.intro (fun hlt => ?_) (fun hge => ?_)
 rotate_left
 have hil : i = (l).length := by simp at hge; omega
 rotate_left
 obtain ⟨b, hb⟩ : ∃ b, (l)[i]? = some b := ⟨_, List.getElem?_eq_getElem (by simp at hlt; omega)⟩
 have hbm := List.mem_of_getElem? hb
 simp (disch := omega) only [go_sem, List.getElem?_map, hb]
 ·by_cases hb' : homeB n b = true
  rotate_left
  ·have e : newOK l id n = false := by
    have : homesOK l n = false := all_false hbm (by simpa [homeB] using hb')
    simp [newOK, this]
   have hb2 : 0 ≤ b.home → n ≤ b.home := fun h1 => by
    rcases Int.lt_or_le b.home n with h | h
    ·exact absurd (by simp [homeB, h1, h]) hb'
    ·exact h
   rw [ret_zero e]
   simp (disch := omega) only [go_sem]
   repeat' (with_reducible refine And.intro (fun h => ?_) (fun h => ?_))
   all_goals first
    | (exfalso; simp at *; omega)
    | (refine ret1 _ ?_
       simp (disch := omega) only [go_sem])
  ·have hb2 : 0 ≤ b.home ∧ b.home < n := by simpa [homeB] using hb'
   simp (disch := omega) only [go_sem, eq_false (show ¬ b.home < 0 by omega), eq_false (show ¬ n ≤ b.home by omega)]
   refine hJ _ (i + 1) ⟨by simp at hlt; omega, by rw [all_take hb, hP, hb']; rfl⟩ (by simp at hlt; omega) imp1
 subst hil
 rw [List.take_length] at hP
 have e : newOK l id n = true := by
  have h2 : homesOK l n = true := hP
  simp [newOK, hc, hp, h2]
 have er : AV.tup [siteV l id n, I (siteE l id n)] = .tup [.agg (siteC l id n n.toNat (detC id)), I 0] := by simp [siteV, siteE, e]
 rw [er]
 clear hJ hi hge
 obtain ⟨k, rfl⟩ : ∃ k : Nat, n = k := ⟨n.toNat, by omega⟩
 rw [Int.toNat_natCast]
 have hk : k ≤ 4 := by omega
 refine call1 (f35_ok l id hc p3 (by omega)) ?_
 simp (disch := omega) only [go_sem]
 refine loop_intro (α := Nat) (fun i => ⟨[(11, I i), (0, ressV l), (1, I id), (2, I k), (6, .ptr 384 0), (10, .ptr 640 0)], [(384, zeroSite), (640, siteM id k (newQs (atR l id)) (.sl (.own 3968 0) 3 (List.replicate i lnk)))]⟩) (fun i => i ≤ k) (fun i => k - i) 0 (by omega) (Imp.weak (by simp (disch := omega) only [go_sem]) (by simp (disch := omega) only [go_sem, List.replicate_zero])) ?_
 rintro i hi J hJ
 have hri : (List.replicate i lnk).length ≤ 4 := by simp; omega
 simp (disch := omega) only [go_sem]
 refine And.intro (fun hlt => ?_) (fun hge => ?_)
 ·refine draw_all (let o0 : OT := .done; let o1 : OT := .pick [(8, o0)]; let o2 : OT := .pick [(7, o1)]; let o3 : OT := .pick [(6, o2)]; let o4 : OT := .pick [(5, o3)]; let o5 : OT := .pick [(4, o4)]; let o6 : OT := .pick [(3, o5)]; let o7 : OT := .pick [(2, o4)]; let o8 : OT := .pick [(2, o5), (4, o7)]; let o9 : OT := .pick [(2, o6), (3, o8)]; let o10 : OT := .pick [(1, o7)]; let o11 : OT := .pick [(1, o8), (4, o10)]; let o12 : OT := .pick [(1, o9), (3, o11)]; let o13 : OT := .pick [(0, o10)]; let o14 : OT := .pick [(0, o11), (4, o13)]; let o15 : OT := .pick [(0, o12), (3, o14)]; o15) fol (by kernel_rfl) ?_
  simp (disch := omega) only [go_sem]
  have step : ∀ st', Imp ⟨C0, []⟩ st' ⟨[(11, I (i + 1 : Nat)), (0, ressV l), (1, I id), (2, I k), (6, .ptr 384 0), (10, .ptr 640 0)], [(384, zeroSite), (640, siteM id k (newQs (atR l id)) (.sl (.own 3968 0) 3 (List.replicate i lnk ++ [lnk])))]⟩ → J st' := fun st' h => by
   refine hJ st' (i + 1) (by simp at hlt; omega) (by simp at hlt; omega) ?_
   rw [List.replicate_succ']
   exact h
  clear hJ
  repeat' (first | (with_reducible refine And.intro ?_ ?_) | (refine call1 f36_ok ?_; (try simp (disch := omega) only [go_sem])))
  all_goals (refine step _ (Imp.weak ?_ ?_))
  all_goals (simp (disch := omega) only [go_sem])
 have hil : i = k := by simp at hge; omega
 subst hil
 clear hJ hge
 refine call1 (f37_ok id p3 (by omega)) ?_
 simp (disch := omega) only [go_sem]
 have hd := f38_ok id i hp
 rw [detC_eq] at hd
 rw [siteC_eq]
 refine call1 hd ?_
 simp (disch := omega) only [go_sem]
 refine ret2 ⟨[], [], [3968]⟩ _ ?_
 simp (disch := omega) only [go_sem]
end Go.Rd
