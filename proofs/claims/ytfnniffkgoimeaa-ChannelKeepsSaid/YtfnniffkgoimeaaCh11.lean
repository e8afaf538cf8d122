import Derived.Test.YtfnniffkgoimeaaCh10
set_option linter.all false
open Go Go.Abs Go.Proofs
set_option maxRecDepth 100000
namespace Go.Ch
theorem f14_dp (l : List Bs) (k : Int) : FnOK C0 14 [ms l, .v (.int .i64 k)] [] (.tup [.hnd .dsl 0 0 0 0 1 ((dblL l k).map bytesAV), .v (.int .i64 (dblE l k))]) [] := by
  refine FnOK.mk' [23, 24] (fn := Try.f14) (c := Try.f14.body.getD .skip) (by kernel_rfl) (by kernel_rfl) (by kernel_rfl) (by kernel_rfl) (by simp [Try.f14]) (by simp [names]) ?_
  unfold Try.f14
  simp (disch := omega) only [go_sem, if_pos, t22]
  refine call_pure (f28_ok l k) (by simp (disch := omega) only [go_sem, if_pos]) rfl ?_
  simp (disch := omega) only [go_sem, if_pos, t22]
  refine ⟨fun h => ?_, fun h => ?_⟩
  · refine ret_mk ⟨[], [], []⟩ _ rfl ⟨rfl, rfl⟩ (by simp) ?_ trivial
    simp at h
    simp only [dblL, dblE, h]
    simp (disch := omega) only [go_sem, if_pos]
    exact .tup (.cons (.nilDsl (by omega)) (.cons .rfl .nil))
  have h0 : chk l k = 0 := by simpa using h
  obtain ⟨hv, n, rfl, hn⟩ := chk_zero h0
  have hl := valid_len hv
  have hm := valid_mem hv
  have ha := at_nat l n hn
  refine ⟨fun h2 => ?_, fun h2 => ?_⟩
  · refine ret_mk ⟨[], [], []⟩ _ rfl ⟨rfl, rfl⟩ (by simp) ?_ trivial
    simp at h2
    have e1 : 8 ≤ l.length := by omega
    have e2 : ¬ l.length < 8 := by omega
    simp only [dblL, dblE, h0, e1, e2]
    simp (disch := omega) only [go_sem, if_pos]
    exact .tup (.cons (.nilDsl (by omega)) (.cons .rfl .nil))
  simp at h2
  have e1 : ¬ 8 ≤ l.length := by omega
  have e2 : l.length < 8 := by omega
  refine draw_mk 6 [([], [0]), ([0], [16]), ([], [0]), ([], [1]), ([2, 3], [18, 19]), ([2, 3, 4], [20]), ([0, 1, 2, 3, 4, 5], []), ([0, 1, 2, 3, 4, 5, 6], []), ([0, 1, 2, 3, 4, 5, 6, 7], []), ([0, 1, 2, 3, 4, 5, 6, 7, 8], []), ([0, 1, 2, 3, 4, 5, 6, 7, 8, 9], [])] fol (by kernel_rfl) ?_
  simp (disch := omega) only [go_sem, if_pos, t22, r22, e22, wrap64]
  refine freeCall_mk ⟨⟨[], [], []⟩, [(0, 1088)], []⟩ (f26_dp l (by omega) (fun b hb => by have := hm b hb; omega)) (by simp (disch := omega) only [go_sem, if_pos]) (by decide) rfl trivial (.inl rfl) ?_
  simp (disch := omega) only [go_sem, if_pos, t22, e22, s25, a25, List.getElem?_map, ha]
  refine callB_mk ⟨⟨[], [], []⟩, [(0, 1408)], []⟩ (f27_ok (at_ l n) (by have := hm _ (at_mem l n hn); omega)) (by simp (disch := omega) only [go_sem, if_pos]) (by decide) trivial (.inl rfl) ?_
  simp (disch := omega) only [go_sem, if_pos, t22, r22, e22, s25, a25, z25]
  refine ret_mk ⟨[(1536, 0)], [], []⟩ _ rfl ⟨rfl, rfl⟩ (by simp) ?_ trivial
  simp only [dblL, dblE, h0, e1, e2]
  simp (disch := omega) only [go_sem, if_pos]
  exact .eq (by simp)
theorem f12_ro (l : List Bs) (h : l.length ≤ 100000) (hb : ∀ b ∈ l, b.length ≤ 100000) : FnOK C0 12 [ms l] [] (ms l) [] :=
  (f12_ok l h hb).ren ⟨[], [], [0]⟩ ⟨rfl, rfl⟩ (by simp [names])
theorem short_len {l : List Bs} (h : shortB l = true) : l.length ≤ 12 ∧ ∀ b ∈ l, b.length ≤ 10000 := by
  simp [shortB] at h
  exact h
theorem spoil_small {l : List Bs} (h : shortB l = true) (k pos x : Int) : (spoilL l k pos x).length ≤ 12 ∧ ∀ b ∈ spoilL l k pos x, b.length ≤ 10000 := by
  obtain ⟨h1, h2⟩ := short_len h
  unfold spoilL
  split
  · refine ⟨by simpa using h1, fun b hb => ?_⟩
    rcases List.mem_or_eq_of_mem_set hb with hb | rfl
    · exact h2 b hb
    · simp only [spoilB, List.length_set, at_]
      rcases Nat.lt_or_ge k.toNat l.length with hlt | hge
      · simp only [List.getD, List.getElem?_eq_getElem hlt, Option.getD_some]
        exact h2 _ (List.getElem_mem hlt)
      · simp [List.getD, List.getElem?_eq_none hge]
  · simp

theorem dbl_small {l : List Bs} (h : ∀ b ∈ l, b.length ≤ 10000) (k : Int) : ∀ b ∈ dblL l k, b.length ≤ 10000 := by
  unfold dblL
  split
  · intro b hb
    rcases List.mem_append.1 hb with hb | hb
    · exact h b hb
    · simp only [List.mem_singleton] at hb
      subst hb
      simp only [at_, List.getD]
      cases hx : l[k.toNat]? with
      | none => simp
      | some y => exact h y (List.mem_of_getElem? hx)
  · simp
theorem f4_ok (l : List Bs) (i pos x : Int) : FnOK C0 4 [ms l, .v (.int .i64 i), .v (.int .i64 pos), .v (.int .u8 x)] [] (.v (.bool true)) [] := by
  refine FnOK.intro (fn := Try.f4) (c := Try.f4.body.getD .skip) (by kernel_rfl) (by kernel_rfl) (by kernel_rfl) (by kernel_rfl) (by simp [Try.f4]) (by simp [names]) ?_
  unfold Try.f4
  simp (disch := omega) only [go_sem, if_pos, t22]
  refine call_pure (f7_ok l) (by simp (disch := omega) only [go_sem, if_pos]) rfl ?_
  cases hs : shortB l
  · simp (disch := omega) only [go_sem, if_pos, t22, t25, lb, hs, Bool.not_false]
    refine call_pure f8_ok (by simp (disch := omega) only [go_sem, if_pos]) rfl ?_
    simp (disch := omega) only [go_sem, if_pos]
    refine ret_mk ⟨[], [], []⟩ _ rfl ⟨rfl, rfl⟩ (by simp) ?_ trivial
    simp (disch := omega) only [go_sem, if_pos]
  simp (disch := omega) only [go_sem, if_pos, t22, t25, lb, hs, Bool.not_true]
  refine call_pure (f11_ok l) (by simp (disch := omega) only [go_sem, if_pos]) rfl ?_
  cases hv : valid l
  · simp (disch := omega) only [go_sem, if_pos, Bool.not_false]
    refine call_pure f8_ok (by simp (disch := omega) only [go_sem, if_pos]) rfl ?_
    simp (disch := omega) only [go_sem, if_pos]
    refine ret_mk ⟨[], [], []⟩ _ rfl ⟨rfl, rfl⟩ (by simp) ?_ trivial
    simp (disch := omega) only [go_sem, if_pos]
  simp (disch := omega) only [go_sem, if_pos, Bool.not_true]
  obtain ⟨h1, h2⟩ := short_len hs
  refine call_pure (f12_ro l (by omega) (fun b hb => by have := h2 b hb; omega)) (by simp (disch := omega) only [go_sem, if_pos]) rfl ?_
  simp (disch := omega) only [go_sem, if_pos]
  refine call_pure (f13_ro l i pos (IntKind.i64.wrap x)) (by simp (disch := omega) only [go_sem, if_pos]) rfl ?_
  obtain ⟨h3, h4⟩ := spoil_small hs i pos (IntKind.i64.wrap x)
  simp (disch := omega) only [go_sem, if_pos]
  have he : chk l i = 0 ∨ ¬ dblE (spoilL l i pos (IntKind.i64.wrap x)) i = 0 := by
    by_cases h0 : chk l i = 0
    · exact Or.inl h0
    · right
      have : chk [] i = 1 := by simp [chk, valid]
      simp [spoilL, h0, dblE, this]
  generalize spoilL l i pos (IntKind.i64.wrap x) = s at h3 h4 he ⊢
  refine call_pure (f12_ro s (by omega) (fun b hb => by have := h4 b hb; omega)) (by simp (disch := omega) only [go_sem, if_pos]) rfl ?_
  simp (disch := omega) only [go_sem, if_pos]
  refine callB_mk ⟨⟨[], [], []⟩, [(0, 43 * 64)], []⟩ (f14_dp s i) (by simp (disch := omega) only [go_sem, if_pos]) (by decide) trivial (.inl rfl) ?_
  simp (disch := omega) only [go_sem, if_pos, t22]
  have hlen := dblL_len (l := s) (k := i)
  have hsm := dbl_small h4 i
  generalize hd : dblL s i = d at hlen hsm ⊢
  generalize hn : d.length = n at hlen ⊢
  refine loop_intro (α := Nat × List Bs) (fun q => ⟨[(48, .v (.int .i64 q.1)), (47, .v (.int .i64 n)), (46, .hnd .dsl 2752 0 0 0 1 (q.2.map bytesAV)), (14, .v (.int .i64 (dblE s i))), (12, ms s), (11, .v (.int .i64 (chk l i))), (10, ms s), (9, ms l), (0, ms l)], []⟩) (fun q => q.1 ≤ n ∧ q.2.length = n ∧ ∀ b ∈ q.2, b.length ≤ 10000) (fun q => n - q.1) (0, d) ⟨by omega, hn, hsm⟩ ?_ ?_
  · refine Imp.weak ?_ ?_
    · simp (disch := omega) only [go_sem, if_pos]
    · simp (disch := omega) only [go_sem, if_pos]
  rintro ⟨j, m⟩ ⟨hj, hm, hmb⟩ J hJ
  replace hj : j ≤ n := hj
  replace hm : m.length = n := hm
  replace hmb : ∀ b ∈ m, b.length ≤ 10000 := hmb
  simp (disch := omega) only [go_sem, if_pos, t22, e22]
  refine ⟨fun hlt => ?_, fun hge => ?_⟩
  · simp at hlt
    obtain ⟨b, hb⟩ : ∃ b, m[j]? = some b := ⟨_, List.getElem?_eq_getElem (by omega)⟩
    simp (disch := omega) only [go_sem, if_pos, t22, e22, s25, a25, List.getElem?_map, hb, lb]
    refine loop_intro (α := Nat × Bs × List Bs) (fun q => ⟨[(17, .v (.int .i64 q.1)), (16, .hnd .isl 2752 j 0 0 1 [bytesAV q.2.1]), (48, .v (.int .i64 j)), (47, .v (.int .i64 n)), (46, .hnd .dsl 2752 0 0 0 1 (q.2.2.map bytesAV)), (14, .v (.int .i64 (dblE s i))), (12, ms s), (11, .v (.int .i64 (chk l i))), (10, ms s), (9, ms l), (0, ms l)], []⟩)
      (fun q => q.1 ≤ q.2.1.length ∧ q.2.2[j]? = some q.2.1 ∧ q.2.2.length = n ∧ ∀ b ∈ q.2.2, b.length ≤ 10000) (fun q => q.2.1.length - q.1) (0, b, m) ⟨by simp, hb, hm, hmb⟩ ?_ ?_
    · refine Imp.weak ?_ ?_
      · simp (disch := omega) only [go_sem, if_pos]
      · simp (disch := omega) only [go_sem, if_pos]
    rintro ⟨k, b, m⟩ ⟨hk, hb, hm, hmb⟩ J2 hJ2
    replace hk : k ≤ b.length := hk
    replace hb : m[j]? = some b := hb
    replace hm : m.length = n := hm
    replace hmb : ∀ b ∈ m, b.length ≤ 10000 := hmb
    have hbl := hmb b (List.mem_of_getElem? hb)
    simp (disch := omega) only [go_sem, if_pos, t25, lb]
    refine ⟨fun hlt2 => ?_, fun hge2 => ?_⟩
    · simp at hlt2
      have hby := bytes_at b k hlt2
      simp (disch := omega) only [go_sem, if_pos, t25, e25, lb, s5, a5, i5, hby, low_spec, wrap64]
      have hset : (m.map bytesAV).set j (((m.map bytesAV).getD j []).set k [.v (.int .u8 ((low ((b.getD k 0).toNat + 1)).toNat : Int))]) = (m.set j (b.set k (low ((b.getD k 0).toNat + 1)))).map bytesAV := by
        rw [List.map_set]
        congr 1
        have : (m.map bytesAV).getD j [] = bytesAV b := by simp [List.getD, hb]
        rw [this]
        simp [bytesAV, List.map_set]
      have hset2 : (bytesAV b).set k [.v (.int .u8 ((low ((b.getD k 0).toNat + 1)).toNat : Int))] = bytesAV (b.set k (low ((b.getD k 0).toNat + 1))) := by
        simp [bytesAV, List.map_set]
      rw [hset, hset2]
      have hjl : j < m.length := by omega
      refine hJ2 _ (k + 1, b.set k (low ((b.getD k 0).toNat + 1)), m.set j (b.set k (low ((b.getD k 0).toNat + 1)))) ⟨by simp; omega, by simp [hjl], by simp [hm], ?_⟩ (by simp; omega) (Imp.weak ?_ ?_)
      · intro c hc
        rcases List.mem_or_eq_of_mem_set hc with hc | rfl
        · exact hmb c hc
        · simpa using hbl
      · simp (disch := omega) only [go_sem, if_pos]
        exact .int (by simp)
      · simp (disch := omega) only [go_sem, if_pos]
    · simp (disch := omega) only [go_sem, if_pos, wrap64]
      refine hJ _ (j + 1, m) ⟨by simp; omega, hm, hmb⟩ (by simp; omega) (Imp.weak ?_ ?_)
      · simp (disch := omega) only [go_sem, if_pos]
        exact .int (by simp)
      · simp (disch := omega) only [go_sem, if_pos]
  · refine call_pure f8_ok (by simp (disch := omega) only [go_sem, if_pos]) rfl ?_
    simp (disch := omega) only [go_sem, if_pos]
    refine ⟨fun h0 => ⟨fun h6 => ?_, fun h6 => ?_⟩, fun h0 => ?_⟩
    · refine call_pure (f15_ok l l (by omega)) (by simp (disch := omega) only [go_sem, if_pos]) rfl ?_
      simp (disch := omega) only [go_sem, if_pos, beq_self_eq_true]
      refine call_pure (f15_ok s s (by omega)) (by simp (disch := omega) only [go_sem, if_pos]) rfl ?_
      simp (disch := omega) only [go_sem, if_pos, beq_self_eq_true]
      refine ret_mk ⟨[], [], []⟩ _ rfl ⟨rfl, rfl⟩ (by simp) ?_ trivial
      simp (disch := omega) only [go_sem, if_pos]
    · exfalso
      simp at h0 h6
      rcases he with he | he
      · exact h0 he
      · exact he h6
    · refine call_pure (f15_ok l l (by omega)) (by simp (disch := omega) only [go_sem, if_pos]) rfl ?_
      simp (disch := omega) only [go_sem, if_pos, beq_self_eq_true]
      refine call_pure (f15_ok s s (by omega)) (by simp (disch := omega) only [go_sem, if_pos]) rfl ?_
      simp (disch := omega) only [go_sem, if_pos, beq_self_eq_true]
      refine ret_mk ⟨[], [], []⟩ _ rfl ⟨rfl, rfl⟩ (by simp) ?_ trivial
      simp (disch := omega) only [go_sem, if_pos]
end Go.Ch
