import Derived.Test.YtfnniffkgoimeaaCh13
import Derived.Test.YtfnniffkgoimeaaA28
set_option linter.all false
open Go Go.Abs Go.Proofs
set_option maxRecDepth 100000
namespace Go.Ch
def arr (l : List Int) : List AV := l.map fun n => .v (.int .i64 n)
@[go_sem] theorem arr_kill (S T : List Nat) (l : List Int) : killL S T (arr l) = arr l := by
  induction l with
  | nil => rfl
  | cons x l ih => simp only [arr, List.map_cons, killL, AV.kill] at ih ⊢; rw [ih]
@[go_sem] theorem arr_frz (S : List Nat) (l : List Int) : freezeL S (arr l) = arr l := by
  induction l with
  | nil => rfl
  | cons x l ih => simp only [arr, List.map_cons, freezeL, AV.freeze] at ih ⊢; rw [ih]
@[go_sem] theorem arr_ren (ρ : Rn) (l : List Int) : renL ρ (arr l) = arr l := by
  induction l with
  | nil => rfl
  | cons x l ih => simp only [arr, List.map_cons, renL, AV.ren] at ih ⊢; rw [ih]
@[go_sem] theorem arr_len (l : List Int) : (arr l).length = l.length := by simp [arr]
@[go_sem] theorem arr_ok (l : List Int) : okCells (arr l) = true := by
  induction l with
  | nil => rfl
  | cons x l ih => simp only [arr, List.map_cons, okCells, okCell, Value.oneCell'] at ih ⊢; rw [ih]; rfl
theorem arr_one (l : List Int) (k : Nat) (h : k < l.length) : ((arr l).drop k).take 1 = [.v (.int .i64 (l.getD k 0))] := by
  rw [List.drop_eq_getElem_cons (by simpa [arr] using h)]
  simp [arr, List.getD, h]
theorem arr_all (l : List Int) (n : Nat) (h : l.length = n) : (arr l).take n = arr l := List.take_of_length_le (by simp [arr, h])
theorem arr_set (l : List Int) (k : Nat) (x : Int) (h : k < l.length) : cut (arr l) k [.v (.int .i64 x)] = arr (l.set k x) := by
  unfold cut
  simp only [List.length_singleton]
  rw [List.set_eq_take_append_cons_drop, if_pos h]
  simp [arr]
theorem arr_set' (l : List Int) (k : Nat) (x : Int) (h : k < l.length) : (arr l).take k ++ [.v (.int .i64 x)] ++ (arr l).drop (k + 1) = arr (l.set k x) := by
  have := arr_set l k x h
  unfold cut at this
  simpa using this
theorem arr_put (l m : List Int) (h : l.length = m.length) : cut (arr l) 0 (arr m) = arr m := by
  unfold cut
  simp [arr, h]
def z256 : List Int := List.replicate 256 0
def zl : List Value := z256.map (.int .i64)
@[go_sem] theorem z256_len : z256.length = 256 := by simp [z256]
@[go_sem] theorem zl_map : zl.map AV.v = arr z256 := by simp [zl, arr, List.map_map, Function.comp_def]
theorem z256_drop : (arr z256).drop 256 = [] := List.drop_eq_nil_of_le (by simp [arr, z256])
theorem z39 : zeroOf Try.prog 39 = some zl := by kernel_rfl
theorem p49_0 : placeOf Try.prog 49 0 = some (0, 1) := by kernel_rfl
theorem d49 : sized Try.prog 49 = true := by kernel_rfl
theorem r39 : elemOfArray Try.prog 39 = some (256, 1) := by kernel_rfl
theorem e39 : elemOfSlice Try.prog 39 = none := by kernel_rfl
theorem cut0 (x y : AV) (L : List AV) : cut (x :: L) 0 [y] = y :: L := rfl
theorem z49 : zeroOf Try.prog 49 = some [.slice none 0 0, .int .i64 0] := by kernel_rfl
theorem s39 : szOf Try.prog 39 = some 256 := by kernel_rfl
theorem a39 : aggOf Try.prog 39 = some true := by kernel_rfl
theorem s49 : szOf Try.prog 49 = some 2 := by kernel_rfl
theorem a49 : aggOf Try.prog 49 = some true := by kernel_rfl
theorem u8lt (b : UInt8) : ((b.toNat : Int) < 256) = True := by
  have := b.toNat_lt
  simp; omega
theorem Ok.mono {s : S} {n m : Nat} (h : Ok s n) (hm : n ≤ m) : Ok s m := ⟨h.len, h.one, h.li, h.lo, fun k => ⟨(h.bi k).1, by have := (h.bi k).2; omega⟩, fun k => ⟨(h.bo k).1, by have := (h.bo k).2; omega⟩, h.le⟩
theorem ok_valid {s : S} {n : Nat} (h : Ok s n) : valid s.c = true := by
  have := h.len
  simp [valid, okP]
  exact ⟨this, fun b hb => by have := h.one b hb; omega⟩
theorem send_ok {s : S} {n : Nat} (h : Ok s n) (h8 : s.c.length < 8) (b : UInt8) : sendE s.c [b] = 0 ∧ sendL s.c [b] = s.c ++ [[b]] := by
  have hv := ok_valid h
  have : ¬ 8 ≤ s.c.length := by omega
  simp [sendE, sendL, hv, okP, h8, this]
theorem send_no {s : S} {n : Nat} (h : Ok s n) (h8 : ¬ s.c.length < 8) (b : UInt8) : sendE s.c [b] = 20 ∧ sendL s.c [b] = [] := by
  have hv := ok_valid h
  have : 8 ≤ s.c.length := by omega
  simp [sendE, sendL, hv, okP, h8, this]
theorem chk_in {s : S} {n i : Nat} (h : Ok s n) (hi : i < s.c.length) : ∃ x, at_ s.c i = [x] ∧ chk s.c i = 0 := by
  have hv := ok_valid h
  have h1 := h.one (at_ s.c i) (by simp [at_, List.getD, hi])
  obtain ⟨x, hx⟩ := List.length_eq_one_iff.1 h1
  exact ⟨x, hx, by simp [chk, hv]; omega⟩
theorem chk_out {s : S} {n i : Nat} (h : Ok s n) (hi : ¬ i < s.c.length) : chk s.c i = 1 := by
  have hv := ok_valid h
  simp [chk, hv]; omega
theorem f24_ok (l : List Int) (hl : l.length ≤ 400) (hw : ∀ x ∈ l, (Lit.int .i64 x).wf = true) :
    FnOK C0 24 [ints l] [] (.tup [.agg (arr (runL l s0).inn), .agg (arr (runL l s0).out), ms (runL l s0).c, .v (.bool true)]) [] := by
  refine FnOK.intro (fn := Try.f24) (c := Try.f24.body.getD .skip) (by kernel_rfl) (by kernel_rfl) (by kernel_rfl) (by kernel_rfl) (by simp [Try.f24]) (by simp [names]) ?_
  unfold Try.f24
  simp (disch := omega) only [go_sem, if_pos, z39, s39, a39, s49, a49, z49, o49_0, o49_1, p49_0, d49, cut0]
  refine loop_intro (α := Nat × S) (fun q => ⟨[(9, .ptr 1152 0), (8, ms q.2.c), (7, .ptr 448 0), (6, .ptr 384 0), (3, .ptr 192 0), (2, .ptr 128 0)], [(1152, [ints l, .v (.int .i64 q.1)]), (448, arr q.2.out), (384, arr q.2.inn), (192, arr z256), (128, arr z256)]⟩)
    (fun q => q.1 ≤ l.length ∧ Ok q.2 q.1 ∧ runL (l.drop q.1) q.2 = runL l s0) (fun q => l.length - q.1) (0, s0) ⟨by simp, s0_ok, by simp⟩ ?_ ?_
  · refine Imp.weak ?_ ?_
    · simp (disch := omega) only [go_sem, if_pos]
      exact .nilNo (by omega)
    · simp (disch := omega) only [go_sem, if_pos]
      exact ⟨.self _, .self _⟩
  rintro ⟨a, s⟩ ⟨ha, hs, hr⟩ J hJ
  replace ha : a ≤ l.length := ha
  replace hs : Ok s a := hs
  replace hr : runL (l.drop a) s = runL l s0 := hr
  simp (disch := omega) only [go_sem, if_pos]
  refine callB_mk ⟨⟨[], [(1152, 63)], []⟩, [], []⟩ (f33_ok l a) (by simp (disch := omega) only [go_sem, if_pos]) rfl (by simp (disch := omega) only [go_sem, if_pos]) (.inl rfl) ?_
  simp (disch := omega) only [go_sem, if_pos]
  refine ⟨fun hlt => ?_, fun hge => ?_⟩
  · simp at hlt
    refine callB_mk ⟨⟨[], [(1152, 63)], []⟩, [], []⟩ (f34_ok l (by omega) hw a (by omega) 4 (by omega) (by omega)) (by simp (disch := omega) only [go_sem, if_pos]) rfl (by simp (disch := omega) only [go_sem, if_pos]) (.inl rfl) ?_
    have e1 : ((min (a + 1) l.length : Nat) : Int) = ((a + 1 : Nat) : Int) := by omega
    simp (disch := omega) only [go_sem, if_pos]
    refine callB_mk ⟨⟨[], [(1152, 63)], []⟩, [], []⟩ (f34_ok l (by omega) hw (a + 1) (by omega) 9 (by omega) (by omega)) (by simp (disch := omega) only [go_sem, if_pos]) rfl (by simp (disch := omega) only [go_sem, if_pos]; exact .int (by omega)) (.inl rfl) ?_
    generalize hn : l.getD a 0 % 4 = n
    obtain ⟨i, hi⟩ : ∃ i : Nat, l.getD (a + 1) 0 % 9 = i := ⟨(l.getD (a + 1) 0 % 9).toNat, by omega⟩
    have hi9 : i < 9 := by omega
    have hn4 : 0 ≤ n ∧ n < 4 := by omega
    have hst : runL (l.drop (min (a + 2) l.length)) (stp n i s) = runL l s0 := by
      rw [← hr]
      have hx : l.drop a = l[a] :: l.drop (a + 1) := List.drop_eq_getElem_cons hlt
      have hxa : l.getD a 0 = l[a] := by simp [List.getD, hlt]
      rw [hx]
      by_cases h2 : a + 1 < l.length
      · have hy : l.drop (a + 1) = l[a + 1] :: l.drop (a + 2) := List.drop_eq_getElem_cons h2
        have hya : l.getD (a + 1) 0 = l[a + 1] := by simp [List.getD, h2]
        rw [hy, show min (a + 2) l.length = a + 2 by omega]
        simp only [runL]
        rw [← hxa, ← hya, hn, hi]
        rfl
      · have hy : l.drop (a + 1) = [] := List.drop_eq_nil_of_le (by omega)
        have hz : l.getD (a + 1) 0 = 0 := by simp [List.getD, List.getElem?_eq_none (by omega : l.length ≤ a + 1)]
        have hi0 : i = 0 := by rw [hz] at hi; simp at hi; omega
        rw [hy, show min (a + 2) l.length = l.length by omega, List.drop_length]
        simp only [runL]
        rw [← hxa, hn, hi0]
    have e2 : IntKind.u8.wrap (i : Int) = ((UInt8.ofNat i).toNat : Int) := by
      rw [wrapu8 _ (by omega) (by omega)]
      simp; omega
    have e3 : ((min (a + 1 + 1) l.length : Nat) : Int) = ((min (a + 2) l.length : Nat) : Int) := rfl
    have hso := stp_ok hs n i
    have hl8 := hs.len
    simp (disch := omega) only [go_sem, if_pos, hi]
    refine ⟨fun h => ?_, fun h => ?_⟩
    · have h0 : n = 0 := by simpa using h
      subst h0
      simp (disch := omega) only [go_sem, if_pos, e2, r25, i5, i3, z25, z5]
      refine call_frz [2816] (f9_ro s.c [UInt8.ofNat i]) (by simp (disch := omega) only [go_sem, if_pos]; exact .eq rfl) rfl ?_
      by_cases h8 : s.c.length < 8
      · obtain ⟨q1, q2⟩ := send_ok hs h8 (UInt8.ofNat i)
        have h8' : ((s.c.length : Int) < 8) = True := by simp; omega
        have hb := (UInt8.ofNat i).toNat_lt
        have hli := hs.li
        have hbi := hs.bi (UInt8.ofNat i).toNat
        simp (disch := omega) only [go_sem, if_pos, q1, q2, t22, t25, e25, bo4, s5, a5, r39, e39, s3, a3, h8', u8lt, hli, arr_one, arr_set', wrap64, Nat.mul_one]
        have hq : stp 0 i s = ⟨s.c ++ [[UInt8.ofNat i]], bump s.inn (UInt8.ofNat i), s.out⟩ := by simp [stp, h8]
        rw [hq] at hst hso
        refine hJ _ (min (a + 2) l.length, _) ⟨by simp; omega, hso.mono (by simp; omega), hst⟩ (by simp; omega) (Imp.weak ?_ ?_)
        · simp (disch := omega) only [go_sem, if_pos]
        · simp (disch := omega) only [go_sem, if_pos, bump]
          exact .int (by omega)
      · obtain ⟨q1, q2⟩ := send_no hs h8 (UInt8.ofNat i)
        have h8' : ((s.c.length : Int) < 8) = False := by simp; omega
        simp (disch := omega) only [go_sem, if_pos, q1, q2, t22, t25, bo4, h8', decide_false]
        have hq : stp 0 i s = s := by simp [stp, h8]
        rw [hq] at hst hso
        refine hJ _ (min (a + 2) l.length, _) ⟨by simp; omega, hso.mono (by simp; omega), hst⟩ (by simp; omega) (Imp.weak ?_ ?_)
        · simp (disch := omega) only [go_sem, if_pos]
        · simp (disch := omega) only [go_sem, if_pos]
          exact .int (by omega)
    have hn0 : n ≠ 0 := by simpa using h
    refine ⟨fun h1 => ?_, fun h1 => ?_⟩
    · have h1' : n = 1 := by simpa using h1
      subst h1'
      refine call_pure (f10_ro s.c i) (by simp (disch := omega) only [go_sem, if_pos]) rfl ?_
      by_cases hic : i < s.c.length
      · obtain ⟨x, q0, q1⟩ := chk_in hs hic
        have hic' : ((i : Int) < (s.c.length : Int)) = True := by simp; omega
        have hb := x.toNat_lt
        have hlo := hs.lo
        have hbo := hs.bo x.toNat
        have q2 : delB s.c i = [x] := by simp [delB, q1, q0]
        have q3 : delL s.c i = without s.c i := by simp [delL, q1]
        simp (disch := omega) only [go_sem, if_pos, q1, q2, q3, hic', t22, t25, e25, bo4, s5, a5, r39, e39, s3, a3, u8lt, hlo, arr_one, arr_set', wrap64, Nat.mul_one, bytesAV]
        have hq : stp 1 i s = ⟨without s.c i, s.inn, bump s.out x⟩ := by simp [stp, hic, q0, hd]
        rw [hq] at hst hso
        refine hJ _ (min (a + 2) l.length, _) ⟨by simp; omega, hso.mono (by simp; omega), hst⟩ (by simp; omega) (Imp.weak ?_ ?_)
        · simp (disch := omega) only [go_sem, if_pos]
        · simp (disch := omega) only [go_sem, if_pos, bump]
          exact .int (by omega)
      · have q1 := chk_out hs hic
        have hic' : ((i : Int) < (s.c.length : Int)) = False := by simp; omega
        simp (disch := omega) only [go_sem, if_pos, q1, hic', decide_false, t22, t25, bo4]
        have hq : stp 1 i s = s := by simp [stp, hic]
        rw [hq] at hst hso
        refine hJ _ (min (a + 2) l.length, _) ⟨by simp; omega, hso.mono (by simp; omega), hst⟩ (by simp; omega) (Imp.weak ?_ ?_)
        · simp (disch := omega) only [go_sem, if_pos]
        · simp (disch := omega) only [go_sem, if_pos]
          exact .int (by omega)
    have hn1 : n ≠ 1 := by simpa using h1
    refine ⟨fun h2 => ?_, fun h2 => ?_⟩
    · have h2' : n = 2 := by simpa using h2
      subst h2'
      refine call_pure (f18_ro s.c i) (by simp (disch := omega) only [go_sem, if_pos]) rfl ?_
      by_cases hic : i < s.c.length
      · obtain ⟨x, q0, q1⟩ := chk_in hs hic
        have hic' : ((i : Int) < (s.c.length : Int)) = True := by simp; omega
        have q3 : delL s.c i = without s.c i := by simp [delL, q1]
        simp (disch := omega) only [go_sem, if_pos, q1, q3, hic', t22, t25, bo4]
        have hq : stp 2 i s = ⟨without s.c i, s.inn, s.out⟩ := by simp [stp, hic]
        rw [hq] at hst hso
        refine hJ _ (min (a + 2) l.length, _) ⟨by simp; omega, hso.mono (by simp; omega), hst⟩ (by simp; omega) (Imp.weak ?_ ?_)
        · simp (disch := omega) only [go_sem, if_pos]
        · simp (disch := omega) only [go_sem, if_pos]
          exact .int (by omega)
      · have q1 := chk_out hs hic
        have hic' : ((i : Int) < (s.c.length : Int)) = False := by simp; omega
        simp (disch := omega) only [go_sem, if_pos, q1, hic', decide_false, t22, t25, bo4]
        have hq : stp 2 i s = s := by simp [stp, hic]
        rw [hq] at hst hso
        refine hJ _ (min (a + 2) l.length, _) ⟨by simp; omega, hso.mono (by simp; omega), hst⟩ (by simp; omega) (Imp.weak ?_ ?_)
        · simp (disch := omega) only [go_sem, if_pos]
        · simp (disch := omega) only [go_sem, if_pos]
          exact .int (by omega)
    have hn2 : n ≠ 2 := by simpa using h2
    have h3 : n = 3 := by omega
    subst h3
    refine call_pure (f14_ro s.c i) (by simp (disch := omega) only [go_sem, if_pos]) rfl ?_
    by_cases hic : i < s.c.length
    · obtain ⟨x, q0, q1⟩ := chk_in hs hic
      have hic' : ((i : Int) < (s.c.length : Int)) = True := by simp; omega
      have hg : s.c[i]? = some [x] := by
        have : at_ s.c i = s.c[i] := by simp [at_, List.getD, hic]
        rw [List.getElem?_eq_getElem hic, ← this, q0]
      by_cases h8 : s.c.length < 8
      · have h8' : ((s.c.length : Int) < 8) = True := by simp; omega
        have h9 : ¬ 8 ≤ s.c.length := by omega
        have hb := x.toNat_lt
        have hli := hs.li
        have hbi := hs.bi x.toNat
        have q2 : dblE s.c i = 0 := by simp [dblE, q1, h9]
        have q3 : dblL s.c i = s.c ++ [[x]] := by simp [dblL, q1, h8, q0]
        simp (disch := omega) only [go_sem, if_pos, q2, q3, hic', h8', t22, t25, e22, e25, s25, a25, bo4, s5, a5, r39, e39, s3, a3, u8lt, hli, arr_one, arr_set', wrap64, Nat.mul_one, List.getElem?_map, hg, bytesAV]
        have hq : stp 3 i s = ⟨s.c ++ [[x]], bump s.inn x, s.out⟩ := by simp [stp, hic, h8, q0, hd]
        rw [hq] at hst hso
        refine hJ _ (min (a + 2) l.length, _) ⟨by simp; omega, hso.mono (by simp; omega), hst⟩ (by simp; omega) (Imp.weak ?_ ?_)
        · simp (disch := omega) only [go_sem, if_pos]
        · simp (disch := omega) only [go_sem, if_pos, bump]
          exact .int (by omega)
      · have h8' : ((s.c.length : Int) < 8) = False := by simp; omega
        have h9 : 8 ≤ s.c.length := by omega
        have q2 : dblE s.c i = 20 := by simp [dblE, q1, h9]
        simp (disch := omega) only [go_sem, if_pos, q2, hic', h8', decide_false, t22, t25, e22, s25, a25, bo4, List.getElem?_map, hg]
        have hq : stp 3 i s = s := by simp [stp, h8]
        rw [hq] at hst hso
        refine hJ _ (min (a + 2) l.length, _) ⟨by simp; omega, hso.mono (by simp; omega), hst⟩ (by simp; omega) (Imp.weak ?_ ?_)
        · simp (disch := omega) only [go_sem, if_pos]
        · simp (disch := omega) only [go_sem, if_pos]
          exact .int (by omega)
    · have q1 := chk_out hs hic
      have hic' : ((i : Int) < (s.c.length : Int)) = False := by simp; omega
      have q2 : dblE s.c i = 1 := by simp [dblE, q1]
      simp (disch := omega) only [go_sem, if_pos, q2, hic', decide_false, t22, t25, bo4]
      have hq : stp 3 i s = s := by simp [stp, hic]
      rw [hq] at hst hso
      refine hJ _ (min (a + 2) l.length, _) ⟨by simp; omega, hso.mono (by simp; omega), hst⟩ (by simp; omega) (Imp.weak ?_ ?_)
      · simp (disch := omega) only [go_sem, if_pos]
      · simp (disch := omega) only [go_sem, if_pos]
        exact .int (by omega)
  · have hal : a = l.length := by simp at hge; omega
    subst hal
    rw [List.drop_length] at hr
    simp only [runL] at hr
    subst hr
    have hli := hs.li
    have hlo := hs.lo
    refine draw_all (.pick [(0, .pick [(1, .pick [(2, .pick [(3, .pick [(4, .pick [(5, .pick [(6, .done)])])])]), (3, .pick [(2, .pick [(4, .pick [(5, .pick [(6, .done)])])]), (4, .pick [(2, .pick [(5, .pick [(6, .done)])])])])]), (2, .pick [(1, .pick [(3, .pick [(4, .pick [(5, .pick [(6, .done)])])])]), (3, .pick [(1, .pick [(4, .pick [(5, .pick [(6, .done)])])])])]), (3, .pick [(1, .pick [(2, .pick [(4, .pick [(5, .pick [(6, .done)])])]), (4, .pick [(2, .pick [(5, .pick [(6, .done)])])])]), (2, .pick [(1, .pick [(4, .pick [(5, .pick [(6, .done)])])])])])]), (1, .pick [(0, .pick [(2, .pick [(3, .pick [(4, .pick [(5, .pick [(6, .done)])])])]), (3, .pick [(2, .pick [(4, .pick [(5, .pick [(6, .done)])])]), (4, .pick [(2, .pick [(5, .pick [(6, .done)])])])])]), (2, .pick [(0, .pick [(3, .pick [(4, .pick [(5, .pick [(6, .done)])])])])])]), (2, .pick [(0, .pick [(1, .pick [(3, .pick [(4, .pick [(5, .pick [(6, .done)])])])]), (3, .pick [(1, .pick [(4, .pick [(5, .pick [(6, .done)])])])])]), (1, .pick [(0, .pick [(3, .pick [(4, .pick [(5, .pick [(6, .done)])])])])])])]) fol (by kernel_rfl) ?_
    simp (disch := omega) only [go_sem, if_pos, s39, a39, arr_all, z256_drop, hli, hlo, List.drop_zero]
    repeat' refine And.intro ?_ ?_
    all_goals (refine ret_mk ⟨[], [], []⟩ [.agg (arr (runL l s0).inn), .agg (arr (runL l s0).out), ms (runL l s0).c, .v (.bool true)] (by simp (disch := omega) only [go_sem, if_pos, s39, a39, arr_all, hli, hlo, resVs, resV]) ⟨rfl, rfl⟩ (by simp) ?_ trivial)
    all_goals simp (disch := omega) only [go_sem, if_pos]
end Go.Ch
