import Derived.Test.YtfnniffkgoimeaaCh7
set_option linter.all false
open Go Go.Abs Go.Proofs
set_option maxRecDepth 100000
namespace Go.Ch
theorem z5 : zeroOf Try.prog 5 = some [.int .u8 0] := by kernel_rfl
theorem f9_ro (l : List Bs) (p : Bs) : FnOK C0 9 [ms l, bt p] [] (.tup [ms (sendL l p), .v (.int .i64 (sendE l p))]) [] :=
  (f9_ok l p).ren ⟨[], [], [0]⟩ ⟨rfl, rfl⟩ (by simp [names])
theorem f10_ro (l : List Bs) (k : Int) : FnOK C0 10 [ms l, .v (.int .i64 k)] [] (.tup [bt (delB l k), ms (delL l k), .v (.int .i64 (chk l k))]) [] :=
  (f10_ok l k).ren ⟨[], [], [0, 1]⟩ ⟨rfl, rfl⟩ (by simp [names])
theorem f13_ro (l : List Bs) (k pos x : Int) : FnOK C0 13 [ms l, .v (.int .i64 k), .v (.int .i64 pos), .v (.int .i64 x)] [] (.tup [ms (spoilL l k pos x), .v (.int .i64 (chk l k))]) [] := by
  have h := (f13_ok l k pos x).ren ⟨[], [], [0]⟩ ⟨rfl, rfl⟩ (by simp [names])
  have e : (AV.tup [.hnd .dsl 0 0 0 0 1 ((spoilL l k pos x).map bytesAV), .v (.int .i64 (chk l k))]).ren ⟨[], [], [0]⟩ = .tup [ms (spoilL l k pos x), .v (.int .i64 (chk l k))] := by
    simp [AV.ren, renL, lk, Abs.frozen]
  rw [e] at h
  exact h
theorem f8_ok : FnOK C0 8 [] [] (.v (.bool true)) [] := by
  refine FnOK.intro (fn := Try.f8) (c := Try.f8.body.getD .skip) (by kernel_rfl) (by kernel_rfl) (by kernel_rfl) (by kernel_rfl) (by simp [Try.f8]) (by simp [names]) ?_
  unfold Try.f8
  simp (disch := omega) only [go_sem, if_pos, r25, z5, b25, st25]
  refine call_pure (f9_ro [] [97]) ?_ rfl ?_
  · simp (disch := omega) only [go_sem, if_pos]
    exact ⟨.nilNo (by omega), .eq rfl⟩
  have e1 : sendL [] [97] = [[97]] := by decide
  have e2 : sendE [] [97] = 0 := by decide
  simp (disch := omega) only [go_sem, if_pos, e1, e2, r25, z5, b25, st25]
  refine call_pure (f9_ro [[97]] [98]) ?_ rfl ?_
  · simp (disch := omega) only [go_sem, if_pos]
    exact ⟨.eq rfl, .eq rfl⟩
  have e3 : sendL [[97]] [98] = [[97], [98]] := by decide
  have e4 : sendE [[97]] [98] = 0 := by decide
  simp (disch := omega) only [go_sem, if_pos, e3, e4]
  refine call_pure (f10_ro [[97], [98]] 1) ?_ rfl ?_
  · simp (disch := omega) only [go_sem, if_pos]
    exact .eq rfl
  have e5 : delB [[97], [98]] 1 = [98] := by decide
  have e6 : delL [[97], [98]] 1 = [[97]] := by decide
  have e7 : chk [[97], [98]] 1 = 0 := by decide
  simp (disch := omega) only [go_sem, if_pos, e5, e6, e7]
  refine call_pure (f13_ro [[97], [98]] 0 5 3) ?_ rfl ?_
  · simp (disch := omega) only [go_sem, if_pos]
    exact .eq rfl
  have e8 : spoilL [[97], [98]] 0 5 3 = [[98], [98]] := by decide
  have e9 : chk [[97], [98]] 0 = 0 := by decide
  have n1 : ((1 : Nat) : Int) = 1 := rfl
  have n2 : ((2 : Nat) : Int) = 2 := rfl
  simp (disch := omega) only [go_sem, if_pos, e8, e9, b25, st9, unbytes_bytes, ba_toList, t22, e22, s25, a25, n1, n2]
  refine call_pure (f22_ok [[97], [98]]) ?_ rfl ?_
  · simp (disch := omega) only [go_sem, if_pos]
    exact .eq rfl
  have e0 : valid [[97], [98]] = true := by decide
  simp (disch := omega) only [go_sem, if_pos, e0]
  refine ret_mk ⟨[], [], []⟩ _ rfl ⟨rfl, rfl⟩ (by simp) ?_ trivial
  simp (disch := omega) only [go_sem, if_pos]
