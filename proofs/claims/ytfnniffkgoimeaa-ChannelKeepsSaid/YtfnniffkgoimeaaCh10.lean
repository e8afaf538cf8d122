import Derived.Test.YtfnniffkgoimeaaCh9
set_option linter.all false
open Go Go.Abs Go.Proofs
set_option maxRecDepth 100000
namespace Go.Ch
theorem bo4 : boolT Try.prog 4 = true := by kernel_rfl
theorem f16_ro (l : List Bs) (p : Bs) : FnOK C0 16 [ms l, bt p] [] (.tup [ms (sendL l p), .v (.int .i64 (sendE l p))]) [] :=
  (f16_ok l p).ren ⟨[], [], [0]⟩ ⟨rfl, rfl⟩ (by simp [names])
theorem f18_ro (l : List Bs) (k : Int) : FnOK C0 18 [ms l, .v (.int .i64 k)] [] (.tup [ms (delL l k), .v (.int .i64 (chk l k))]) [] :=
  (f18_ok l k).ren ⟨[], [], [0]⟩ ⟨rfl, rfl⟩ (by simp [names])
theorem f14_ro (l : List Bs) (k : Int) : FnOK C0 14 [ms l, .v (.int .i64 k)] [] (.tup [ms (dblL l k), .v (.int .i64 (dblE l k))]) [] :=
  (f14_ok l k).ren ⟨[], [], [0]⟩ ⟨rfl, rfl⟩ (by simp [names])
theorem f20_ro (l : List Bs) (k : Int) : FnOK C0 20 [ms l, .v (.int .i64 k)] [] (.tup [ms (dblL l k), .v (.int .i64 (dblE l k))]) [] :=
  (f20_ok l k).ren ⟨[], [], [0]⟩ ⟨rfl, rfl⟩ (by simp [names])
theorem f21_ro (l : List Bs) (k pos x : Int) : FnOK C0 21 [ms l, .v (.int .i64 k), .v (.int .i64 pos), .v (.int .i64 x)] [] (.tup [ms (spoilL l k pos x), .v (.int .i64 (chk l k))]) [] := by
  have h := (f21_ok l k pos x).ren ⟨[], [], [0]⟩ ⟨rfl, rfl⟩ (by simp [names])
  have e : (AV.tup [.hnd .dsl 0 0 0 0 1 ((spoilL l k pos x).map bytesAV), .v (.int .i64 (chk l k))]).ren ⟨[], [], [0]⟩ = .tup [ms (spoilL l k pos x), .v (.int .i64 (chk l k))] := by
    simp [AV.ren, renL, lk, Abs.frozen]
  rw [e] at h
  exact h
theorem sendL_len {l : List Bs} {p : Bs} : (sendL l p).length ≤ 1000000 := by
  unfold sendL
  split
  · rename_i h; simp at h; simp; omega
  · simp
theorem chk_len {l : List Bs} {k : Int} (h : chk l k = 0) : l.length ≤ 8 := by
  unfold chk at h
  split at h
  · rename_i hv; exact valid_len hv
  · cases h
theorem delL_len {l : List Bs} {k : Int} : (delL l k).length ≤ 1000000 := by
  unfold delL
  split
  · rename_i h
    have := chk_len h
    simp [without]; omega
  · simp
theorem dblL_len {l : List Bs} {k : Int} : (dblL l k).length ≤ 1000000 := by
  unfold dblL
  split
  · rename_i h; simp; omega
  · simp
theorem spoilL_len {l : List Bs} {k pos x : Int} : (spoilL l k pos x).length ≤ 1000000 := by
  unfold spoilL
  split
  · rename_i h
    have := chk_len h
    simp; omega
  · simp

theorem f5_ok (l : List Bs) (p : Bs) (i pos x : Int) : FnOK C0 5 [ms l, bt p, .v (.int .i64 i), .v (.int .i64 pos), .v (.int .i64 x)] [] (.v (.bool true)) [] := by
  refine FnOK.intro (fn := Try.f5) (c := Try.f5.body.getD .skip) (by kernel_rfl) (by kernel_rfl) (by kernel_rfl) (by kernel_rfl) (by simp [Try.f5]) (by simp [names]) ?_
  unfold Try.f5
  simp (disch := omega) only [go_sem, if_pos, t22]
  refine call_pure (f7_ok l) (by simp (disch := omega) only [go_sem, if_pos]) rfl ?_
  cases hs : shortB l
  · simp (disch := omega) only [go_sem, if_pos, t22, t25, lb, hs, Bool.not_false]
    refine call_pure f8_ok (by simp (disch := omega) only [go_sem, if_pos]) rfl ?_
    simp (disch := omega) only [go_sem, if_pos]
    refine ret_mk ⟨[], [], []⟩ _ rfl ⟨rfl, rfl⟩ (by simp) ?_ trivial
    simp (disch := omega) only [go_sem, if_pos]
  simp (disch := omega) only [go_sem, if_pos, t22, t25, lb, hs, Bool.not_true]
  refine ⟨fun h => ?_, fun h => ?_⟩
  · refine call_pure f8_ok (by simp (disch := omega) only [go_sem, if_pos]) rfl ?_
    simp (disch := omega) only [go_sem, if_pos]
    refine ret_mk ⟨[], [], []⟩ _ rfl ⟨rfl, rfl⟩ (by simp) ?_ trivial
    simp (disch := omega) only [go_sem, if_pos]
  refine call_pure (f9_ro l p) (by simp (disch := omega) only [go_sem, if_pos]) rfl ?_
  simp (disch := omega) only [go_sem, if_pos]
  refine call_pure (f16_ro l p) (by simp (disch := omega) only [go_sem, if_pos]) rfl ?_
  simp (disch := omega) only [go_sem, if_pos]
  refine call_pure (f10_ro l i) (by simp (disch := omega) only [go_sem, if_pos]) rfl ?_
  simp (disch := omega) only [go_sem, if_pos]
  refine call_pure (f17_ok l i) (by simp (disch := omega) only [go_sem, if_pos]) rfl ?_
  simp (disch := omega) only [go_sem, if_pos]
  refine call_pure (f18_ro l i) (by simp (disch := omega) only [go_sem, if_pos]) rfl ?_
  simp (disch := omega) only [go_sem, if_pos]
  refine call_pure (f19_ok l i) (by simp (disch := omega) only [go_sem, if_pos]) rfl ?_
  simp (disch := omega) only [go_sem, if_pos]
  refine call_pure (f14_ro l i) (by simp (disch := omega) only [go_sem, if_pos]) rfl ?_
  simp (disch := omega) only [go_sem, if_pos]
  refine call_pure (f20_ro l i) (by simp (disch := omega) only [go_sem, if_pos]) rfl ?_
  simp (disch := omega) only [go_sem, if_pos]
  refine call_pure (f13_ro l i pos x) (by simp (disch := omega) only [go_sem, if_pos]) rfl ?_
  simp (disch := omega) only [go_sem, if_pos]
  refine call_pure (f21_ro l i pos x) (by simp (disch := omega) only [go_sem, if_pos]) rfl ?_
  simp (disch := omega) only [go_sem, if_pos]
  refine call_pure f8_ok (by simp (disch := omega) only [go_sem, if_pos]) rfl ?_
  simp (disch := omega) only [go_sem, if_pos]
  refine call_pure (f22_ok l) (by simp (disch := omega) only [go_sem, if_pos]) rfl ?_
  simp (disch := omega) only [go_sem, if_pos]
  refine call_pure (f11_ok l) (by simp (disch := omega) only [go_sem, if_pos]) rfl ?_
  simp (disch := omega) only [go_sem, if_pos, beq_self_eq_true, bo4]
  refine call_pure (f15_ok (sendL l p) (sendL l p) sendL_len) (by simp (disch := omega) only [go_sem, if_pos]) rfl ?_
  simp (disch := omega) only [go_sem, if_pos, beq_self_eq_true, b25, st9, unbytes_bytes, ba_toList]
  refine call_pure (f15_ok (delL l i) (delL l i) delL_len) (by simp (disch := omega) only [go_sem, if_pos]) rfl ?_
  simp (disch := omega) only [go_sem, if_pos, beq_self_eq_true]
  refine call_pure (f15_ok (delL l i) (delL l i) delL_len) (by simp (disch := omega) only [go_sem, if_pos]) rfl ?_
  simp (disch := omega) only [go_sem, if_pos, beq_self_eq_true]
  refine call_pure (f15_ok (dblL l i) (dblL l i) dblL_len) (by simp (disch := omega) only [go_sem, if_pos]) rfl ?_
  simp (disch := omega) only [go_sem, if_pos, beq_self_eq_true]
  refine call_pure (f15_ok (spoilL l i pos x) (spoilL l i pos x) spoilL_len) (by simp (disch := omega) only [go_sem, if_pos]) rfl ?_
  simp (disch := omega) only [go_sem, if_pos, beq_self_eq_true]
  refine ret_mk ⟨[], [], []⟩ _ rfl ⟨rfl, rfl⟩ (by simp) ?_ trivial
  simp (disch := omega) only [go_sem, if_pos]
end Go.Ch
