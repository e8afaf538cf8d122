import Derived.Test.YtfnniffkgoimeaaCh4
set_option linter.all false
open Go Go.Abs Go.Proofs
set_option maxRecDepth 100000
namespace Go.Ch
theorem tmod_lo (a s : Int) (h : 0 < s) : -s < a.tmod s := by
  rcases Int.le_total 0 a with h0 | h0
  · have := Int.tmod_nonneg s h0; omega
  · have h1 : a.tmod s = -((-a).tmod s) := by rw [Int.neg_tmod, Int.neg_neg]
    have h2 := Int.tmod_lt_of_pos (-a) h
    omega
theorem tmod_hi (a s : Int) (h : 0 < s) : a.tmod s < s := Int.tmod_lt_of_pos a h
/-- the place that a spoiled packet's byte has -/
def spot (pos : Int) (s : Nat) : Nat := ((pos.tmod s + s).tmod s).toNat
theorem spot_spec (pos : Int) (s : Nat) (h : 1 ≤ s) : (pos.tmod s + s).tmod s = (spot pos s : Int) ∧ spot pos s < s := by
  have h1 := tmod_lo pos s (by omega)
  have h2 := Int.tmod_nonneg (s : Int) (a := pos.tmod s + s) (by omega)
  have h3 := Int.tmod_lt_of_pos (pos.tmod s + s) (b := (s : Int)) (by omega)
  unfold spot
  omega
theorem valid_pos {l : List Bs} (h : valid l = true) : ∀ b ∈ l, 1 ≤ b.length := by
  simp [valid, okP] at h
  intro b hb
  exact (h.2 b hb).1
theorem bytes_at (b : Bs) (j : Nat) (h : j < b.length) : (bytesAV b)[j]? = some [.v (.int .u8 ((b.getD j 0).toNat : Int))] := by
  simp [bytesAV, List.getD, h]
theorem s5 : szOf Try.prog 5 = some 1 := by kernel_rfl
theorem a5 : aggOf Try.prog 5 = some false := by kernel_rfl
theorem i3 : intT Try.prog 3 = some .i64 := by kernel_rfl
theorem i5 : intT Try.prog 5 = some .u8 := by kernel_rfl
theorem ofInt8 (z : UInt8) : BitVec.ofInt 8 (z.toNat : Int) = z.toBitVec := by
  apply BitVec.eq_of_toNat_eq
  simp [BitVec.toNat_ofInt]
theorem bits_xor8 (c d : UInt8) : bits .xor .u8 (c.toNat : Int) (d.toNat : Int) = ((c ^^^ d).toNat : Int) := by
  have e1 := ofInt8 c
  have e2 := ofInt8 d
  show IntKind.u8.wrap (((BitVec.ofInt 8 (c.toNat : Int) ^^^ BitVec.ofInt 8 (d.toNat : Int) : BitVec 8)).toNat : Int) = _
  rw [e1, e2]
  have : (c.toBitVec ^^^ d.toBitVec).toNat = (c ^^^ d).toNat := by simp
  rw [this]
  refine wrapu8 _ (by omega) ?_
  have := (c ^^^ d).toNat_lt
  omega
theorem and255 (x : Int) : IntKind.u8.wrap (bits .and .i64 x 255) = IntKind.u8.wrap x := by
  show IntKind.u8.wrap (IntKind.i64.wrap (((BitVec.ofInt 64 x &&& BitVec.ofInt 64 255 : BitVec 64)).toNat : Int)) = _
  have h : (BitVec.ofInt 64 x &&& BitVec.ofInt 64 255).toNat = (x % 256).toNat := by
    rw [BitVec.toNat_and]
    have : (BitVec.ofInt 64 255).toNat = 2 ^ 8 - 1 := by decide
    rw [this, Nat.and_two_pow_sub_one_eq_mod, BitVec.toNat_ofInt]
    omega
  rw [h]
  rw [wrap64 _ (by omega) (by omega)]
  simp only [IntKind.wrap, IntKind.signed, IntKind.bits, Bool.false_and, Bool.false_eq_true, if_false]
  omega
def low (x : Int) : UInt8 := UInt8.ofNat (x % 256).toNat
theorem low_spec (x : Int) : IntKind.u8.wrap x = ((low x).toNat : Int) := by
  simp only [IntKind.wrap, IntKind.signed, IntKind.bits, Bool.false_and, Bool.false_eq_true, if_false, low]
  simp
  omega

theorem low_and (x : Int) : low (bits .and .i64 x 255) = low x := by
  have h := and255 x
  rw [low_spec, low_spec] at h
  exact UInt8.toNat_inj.1 (by omega)
@[go_sem] theorem oc_int (k : IntKind) (n : Int) : (Value.int k n).oneCell' = true := rfl
def spoilB (b : Bs) (pos x : Int) : Bs := b.set (spot pos b.length) (b.getD (spot pos b.length) 0 ^^^ low x)
def spoilL (l : List Bs) (k pos x : Int) : List Bs := if chk l k = 0 then l.set k.toNat (spoilB (at_ l k) pos x) else []
theorem spoil_set (l : List Bs) (n : Nat) (hn : n < l.length) (pos x : Int) (j : Nat) (hj : j = spot pos (at_ l n).length) :
    (l.map bytesAV).set n (((l.map bytesAV).getD n []).set j [.v (.int .u8 (((at_ l n).getD j 0 ^^^ low x).toNat : Int))]) = (l.set n (spoilB (at_ l n) pos x)).map bytesAV := by
  subst hj
  rw [List.map_set]
  congr 1
  have : (l.map bytesAV).getD n [] = bytesAV (at_ l n) := by simp [List.getD, at_, hn]
  rw [this]
  simp [spoilB, bytesAV, List.map_set]
theorem f13_ok (l : List Bs) (k pos x : Int) : FnOK C0 13 [ms l, .v (.int .i64 k), .v (.int .i64 pos), .v (.int .i64 x)] [] (.tup [.hnd .dsl 0 0 0 0 1 ((spoilL l k pos x).map bytesAV), .v (.int .i64 (chk l k))]) [] := by
  refine FnOK.intro (fn := Try.f13) (c := Try.f13.body.getD .skip) (by kernel_rfl) (by kernel_rfl) (by kernel_rfl) (by kernel_rfl) (by simp [Try.f13]) (by simp [names]) ?_
  unfold Try.f13
  simp (disch := omega) only [go_sem, if_pos, t22]
  refine call_pure (f28_ok l k) (by simp (disch := omega) only [go_sem, if_pos]) rfl ?_
  simp (disch := omega) only [go_sem, if_pos, t22]
  refine ⟨fun h => ?_, fun h => ?_⟩
  · refine ret_mk ⟨[], [], []⟩ _ rfl ⟨rfl, rfl⟩ (by simp) ?_ trivial
    simp at h
    simp only [spoilL, h]
    simp (disch := omega) only [go_sem, if_pos]
    exact .tup (.cons (.nilDsl (by omega)) (.cons .rfl .nil))
  have h0 : chk l k = 0 := by simpa using h
  obtain ⟨hv, n, rfl, hn⟩ := chk_zero h0
  have hl := valid_len hv
  have hm := valid_mem hv
  have ha := at_nat l n hn
  have hmem := at_mem l n hn
  have hp := valid_pos hv _ hmem
  have hm1 := hm _ hmem
  refine callB_mk ⟨⟨[], [], []⟩, [(0, 1280)], []⟩ (f26_dp l (by omega) (fun b hb => by have := hm b hb; omega)) (by simp (disch := omega) only [go_sem, if_pos]) (by decide) trivial (.inl rfl) ?_
  simp (disch := omega) only [go_sem, if_pos, t22, r22, e22, s25, a25, z25, List.getElem?_map, ha, t25, lb]
  have hz : ¬ (((at_ l n).length : Int) = 0) := by omega
  have hlo := tmod_lo pos (at_ l n).length (by omega)
  have hhi := tmod_hi pos (at_ l n).length (by omega)
  obtain ⟨hs1, hs2⟩ := spot_spec pos (at_ l n).length hp
  have hby := bytes_at _ _ hs2
  refine draw_mk 16 [([], [11]), ([], [1]), ([0, 1], [26, 27]), ([0, 1, 2], [28]), ([], [2]), ([], [12]), ([4, 5], [30, 31]), ([], [12]), ([4, 5, 6, 7], [32, 33]), ([], [12]), ([4, 5, 6, 7, 8, 9], [34, 35]), ([0, 1, 2, 3, 4, 5, 6, 7, 8, 9, 10], [29, 36]), ([0, 1, 2, 3, 4, 5, 6, 7, 8, 9, 10, 11], [37]), ([], [3]), ([13], [39]), ([13, 14], [40]), ([0, 1, 2, 3, 4, 5, 6, 7, 8, 9, 10, 11, 12, 13, 14, 15], []), ([0, 1, 2, 3, 4, 5, 6, 7, 8, 9, 10, 11, 12, 13, 14, 15, 16], []), ([0, 1, 2, 3, 4, 5, 6, 7, 8, 9, 10, 11, 12, 13, 14, 15, 16, 17], [])] fol (by kernel_rfl) ?_
  simp (disch := omega) only [go_sem, if_pos, t22, r22, e22, s25, a25, z25, List.getElem?_map, ha, t25, lb, e25, hz, wrap64, hs1, hby, s5, a5, i3, i5, low_spec, low_and, bits_xor8]
  refine ret_mk ⟨[(1280, 0)], [], []⟩ _ rfl ⟨rfl, rfl⟩ (by simp) ?_ trivial
  simp (disch := omega) only [go_sem, if_pos, spoil_set l n hn pos x _ rfl]
  simp only [spoilL, h0]
  simp (disch := omega) only [go_sem, if_pos]
