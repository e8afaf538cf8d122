import Derived.Test.YtfnniffkgoimeaaCh14
set_option linter.all false
open Go Go.Abs Go.Proofs
set_option maxRecDepth 100000
namespace Go.Ch
theorem runL_ok : ∀ (l : List Int) (s : S) (n : Nat), Ok s n → Ok (runL l s) (n + l.length)
  | [], s, n, h => h
  | [x], s, n, h => stp_ok h _ _
  | x :: y :: r, s, n, h => by
    have := runL_ok r _ _ (stp_ok h (x % 4) (y % 9).toNat)
    exact this.mono (by simp; omega)
theorem f6_ok (l : List Int) (hw : ∀ x ∈ l, (Lit.int .i64 x).wf = true) : FnOK C0 6 [ints l] [] (.v (.bool true)) [] := by
  refine FnOK.intro (fn := Try.f6) (c := Try.f6.body.getD .skip) (by kernel_rfl) (by kernel_rfl) (by kernel_rfl) (by kernel_rfl) (by simp [Try.f6]) (by simp [names]) ?_
  unfold Try.f6
  simp (disch := omega) only [go_sem, if_pos]
  refine call_pure (f23_ok l) (by simp (disch := omega) only [go_sem, if_pos]) rfl ?_
  by_cases hl : l.length ≤ 400
  · simp (disch := omega) only [go_sem, if_pos, hl, decide_true, Bool.not_true]
    refine call_pure (y' := .tup [.agg (arr (runL l s0).inn), .agg (arr (runL l s0).out), ms (runL l s0).c, .v (.bool true)]) (f24_ok l hl hw) (by simp (disch := omega) only [go_sem, if_pos]) (by simp (disch := omega) only [go_sem, if_pos]) ?_
    have hs := runL_ok l s0 0 s0_ok
    rw [Nat.zero_add] at hs
    generalize runL l s0 = s at hs ⊢
    have hli := hs.li
    have hl8 := hs.len
    have hlo := hs.lo
    simp (disch := omega) only [go_sem, if_pos, z39, s39, a39, hli, hlo, z256_drop, t22]
    refine loop_intro (α := Nat × List Int) (fun q => ⟨[(25, .v (.int .i64 q.1)), (24, .v (.int .i64 s.c.length)), (23, ms s.c), (5, ms s.c), (3, .ptr 192 0), (4, .ptr 256 0)], [(256, arr q.2), (192, arr s.inn)]⟩)
      (fun q => q.1 ≤ s.c.length ∧ q.2.length = 256 ∧ ∀ k, q.2.getD k 0 = s.out.getD k 0 + cnt (s.c.take q.1) k) (fun q => s.c.length - q.1) (0, s.out) ⟨by simp, hlo, fun k => by simp [cnt]⟩ ?_ ?_
    · refine Imp.weak ?_ ?_
      · simp (disch := omega) only [go_sem, if_pos]
      · simp (disch := omega) only [go_sem, if_pos]
    rintro ⟨j, o⟩ ⟨hj, ho, hk⟩ J hJ
    replace hj : j ≤ s.c.length := hj
    replace ho : o.length = 256 := ho
    replace hk : ∀ k, o.getD k 0 = s.out.getD k 0 + cnt (s.c.take j) k := hk
    simp (disch := omega) only [go_sem, if_pos, t22, e22]
    refine ⟨fun hlt => ?_, fun hge => ?_⟩
    · simp at hlt
      have hb1 : s.c[j]? = some s.c[j] := List.getElem?_eq_getElem hlt
      have hone := hs.one _ (List.getElem_mem hlt)
      obtain ⟨x, hx⟩ := List.length_eq_one_iff.1 hone
      rw [hx] at hb1
      have hxl := x.toNat_lt
      have hox : 0 ≤ o.getD x.toNat 0 ∧ o.getD x.toNat 0 ≤ 1000 := by
        have h1 := hk x.toNat
        have h2 := hs.bo x.toNat
        have h3 : cnt (s.c.take j) x.toNat ≤ j := by
          unfold cnt
          have := List.countP_le_length (p := fun b => (hd b).toNat == x.toNat) (l := s.c.take j)
          simp at this; omega
        have := hs.len
        omega
      simp (disch := omega) only [go_sem, if_pos, t22, e22, s25, a25, List.getElem?_map, hb1, t25, bytesAV, e25, s5, a5, r39, e39, s3, a3, u8lt, ho, arr_one, arr_set', wrap64, Nat.mul_one]
      refine hJ _ (j + 1, bump o x) ⟨by simp; omega, by simp [bump, ho], fun k => ?_⟩ (by simp; omega) (Imp.weak ?_ ?_)
      · show (bump o x).getD k 0 = s.out.getD k 0 + (cnt (s.c.take (j + 1)) k : Nat)
        rw [bump_get _ ho, hk k, List.take_add_one, hb1, cnt_append]
        simp only [Option.toList_some]
        rw [cnt_one]
        have e : hd [x] = x := rfl
        rw [e]
        by_cases hkx : x.toNat = k
        · simp only [hkx, if_true]; omega
        · simp only [hkx, Ne.symm hkx, if_false]; omega
      · simp (disch := omega) only [go_sem, if_pos]
        exact .int (by simp)
      · simp (disch := omega) only [go_sem, if_pos, bump]
    · have hjl : j = s.c.length := by simp at hge; omega
      subst hjl
      rw [List.take_length] at hk
      refine loop_intro (α := Nat) (fun i => ⟨[(9, .v (.int .i64 i)), (5, ms s.c), (3, .ptr 192 0), (4, .ptr 256 0)], [(256, arr o), (192, arr s.inn)]⟩) (fun i => i ≤ 256) (fun i => 256 - i) 0 (by omega) ?_ ?_
      · refine Imp.weak ?_ ?_
        · simp (disch := omega) only [go_sem, if_pos]
        · simp (disch := omega) only [go_sem, if_pos]
      intro i hi J2 hJ2
      simp (disch := omega) only [go_sem, if_pos]
      refine ⟨fun hlt => ?_, fun hge2 => ?_⟩
      · have hlt' : i < 256 := by simp at hlt; omega
        have hii : ((i : Int) < 256) = True := by simp; omega
        refine draw_mk 6 [([], [9]), ([0], [4, 44]), ([0, 1], [45]), ([], [9]), ([3], [3, 47]), ([3, 4], [48]), ([0, 1, 2, 3, 4, 5], [])] fol (by kernel_rfl) ?_
        simp (disch := omega) only [go_sem, if_pos, r39, e39, s3, a3, ho, hli, arr_one, hii, Nat.mul_one, s39]
        have hle : ¬ (s.inn.getD i 0 < o.getD i 0) := by
          have h1 := hk i
          have h2 := hs.le i
          omega
        simp (disch := omega) only [go_sem, if_pos, hle, wrap64]
        refine hJ2 _ (i + 1) (by omega) (by omega) (Imp.weak ?_ ?_)
        · simp (disch := omega) only [go_sem, if_pos]
          exact .int (by simp)
        · simp (disch := omega) only [go_sem, if_pos]
      · refine call_pure f8_ok (by simp (disch := omega) only [go_sem, if_pos]) rfl ?_
        simp (disch := omega) only [go_sem, if_pos]
        refine call_pure (f22_ok s.c) (by simp (disch := omega) only [go_sem, if_pos]) rfl ?_
        have hv := ok_valid hs
        simp (disch := omega) only [go_sem, if_pos, hv]
        refine ret_mk ⟨[], [], []⟩ _ rfl ⟨rfl, rfl⟩ (by simp) ?_ trivial
        simp (disch := omega) only [go_sem, if_pos]
  · simp (disch := omega) only [go_sem, if_pos, hl, decide_false, Bool.not_false]
    refine call_pure f8_ok (by simp (disch := omega) only [go_sem, if_pos]) rfl ?_
    simp (disch := omega) only [go_sem, if_pos]
    refine ret_mk ⟨[], [], []⟩ _ rfl ⟨rfl, rfl⟩ (by simp) ?_ trivial
    simp (disch := omega) only [go_sem, if_pos]
end Go.Ch
