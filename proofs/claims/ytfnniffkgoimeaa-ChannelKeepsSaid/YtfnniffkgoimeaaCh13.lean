import Derived.Test.YtfnniffkgoimeaaCh12
set_option linter.all false
open Go Go.Abs Go.Proofs
set_option maxRecDepth 100000
namespace Go.Ch
structure S where
  c : List Bs
  inn : List Int
  out : List Int
def bump (l : List Int) (b : UInt8) : List Int := l.set b.toNat (l.getD b.toNat 0 + 1)
def hd (b : Bs) : UInt8 := b.getD 0 0
def stp (n : Int) (i : Nat) (s : S) : S :=
  if n = 0 then (if s.c.length < 8 then ⟨s.c ++ [[UInt8.ofNat i]], bump s.inn (UInt8.ofNat i), s.out⟩ else s)
  else if n = 1 then (if i < s.c.length then ⟨without s.c i, s.inn, bump s.out (hd (at_ s.c i))⟩ else s)
  else if n = 2 then (if i < s.c.length then ⟨without s.c i, s.inn, s.out⟩ else s)
  else (if i < s.c.length ∧ s.c.length < 8 then ⟨s.c ++ [at_ s.c i], bump s.inn (hd (at_ s.c i)), s.out⟩ else s)
def runL : List Int → S → S
  | [], s => s
  | [x], s => stp (x % 4) 0 s
  | x :: y :: r, s => runL r (stp (x % 4) (y % 9).toNat s)
def s0 : S := ⟨[], List.replicate 256 0, List.replicate 256 0⟩
def cnt (c : List Bs) (k : Nat) : Nat := c.countP fun b => (hd b).toNat == k
structure Ok (s : S) (n : Nat) : Prop where
  len : s.c.length ≤ 8
  one : ∀ b ∈ s.c, b.length = 1
  li : s.inn.length = 256
  lo : s.out.length = 256
  bi : ∀ k, 0 ≤ s.inn.getD k 0 ∧ s.inn.getD k 0 ≤ n
  bo : ∀ k, 0 ≤ s.out.getD k 0 ∧ s.out.getD k 0 ≤ n
  le : ∀ k, (cnt s.c k : Int) + s.out.getD k 0 ≤ s.inn.getD k 0
theorem bump_get (l : List Int) (hl : l.length = 256) (b : UInt8) (k : Nat) : (bump l b).getD k 0 = l.getD k 0 + (if k = b.toNat then 1 else 0) := by
  have hb : b.toNat < 256 := b.toNat_lt
  unfold bump
  simp only [List.getD, List.getElem?_set]
  by_cases h : b.toNat = k
  · subst h
    simp [hl, hb]
  · simp [h, Ne.symm h]
theorem cnt_append (c d : List Bs) (k : Nat) : cnt (c ++ d) k = cnt c k + cnt d k := by simp [cnt, List.countP_append]
theorem cnt_one (b : Bs) (k : Nat) : cnt [b] k = if (hd b).toNat = k then 1 else 0 := by
  simp [cnt, List.countP_cons]
theorem cnt_without (c : List Bs) (i : Nat) (h : i < c.length) (k : Nat) : cnt (without c i) k + cnt [at_ c i] k = cnt c k := by
  have e : c = c.take i ++ [at_ c i] ++ c.drop (i + 1) := by
    have h1 : c.drop i = at_ c i :: c.drop (i + 1) := by
      rw [List.drop_eq_getElem_cons h]
      simp [at_, List.getD, h]
    rw [List.append_assoc, List.singleton_append, ← h1, List.take_append_drop]
  conv => rhs; rw [e]
  unfold without
  simp only [cnt_append]
  omega
theorem stp_ok {s : S} {m : Nat} (h : Ok s m) (n : Int) (i : Nat) : Ok (stp n i s) (m + 1) := by
  have up : Ok s (m + 1) := ⟨h.len, h.one, h.li, h.lo, fun k => ⟨(h.bi k).1, by have := (h.bi k).2; omega⟩, fun k => ⟨(h.bo k).1, by have := (h.bo k).2; omega⟩, h.le⟩
  unfold stp
  split
  · split
    · rename_i h8
      refine ⟨by simp; omega, ?_, by simp [bump, h.li], h.lo, ?_, up.bo, ?_⟩
      · intro b hb
        rcases List.mem_append.1 hb with hb | hb
        · exact h.one b hb
        · simp at hb; subst hb; rfl
      · intro k
        show 0 ≤ (bump s.inn _).getD k 0 ∧ (bump s.inn _).getD k 0 ≤ _
        rw [bump_get _ h.li]
        have := h.bi k
        split <;> constructor <;> omega
      · intro k
        show (cnt (s.c ++ [[UInt8.ofNat i]]) k : Int) + s.out.getD k 0 ≤ (bump s.inn _).getD k 0
        rw [bump_get _ h.li, cnt_append, cnt_one]
        have := h.le k
        have e : hd [UInt8.ofNat i] = UInt8.ofNat i := rfl
        rw [e]
        by_cases hk : (UInt8.ofNat i).toNat = k
        · simp only [hk, if_true]; omega
        · simp only [hk, Ne.symm hk, if_false]; omega
    · exact up
  split
  · split
    · rename_i hi
      have hc := cnt_without s.c i hi
      refine ⟨by simp [without]; have := h.len; omega, ?_, h.li, by simp [bump, h.lo], up.bi, ?_, ?_⟩
      · intro b hb
        exact h.one b (by
          simp only [without, List.mem_append] at hb
          rcases hb with hb | hb
          · exact List.mem_of_mem_take hb
          · exact List.mem_of_mem_drop hb)
      · intro k
        show 0 ≤ (bump s.out _).getD k 0 ∧ (bump s.out _).getD k 0 ≤ _
        rw [bump_get _ h.lo]
        have := h.bo k
        split <;> constructor <;> omega
      · intro k
        show (cnt (without s.c i) k : Int) + (bump s.out _).getD k 0 ≤ s.inn.getD k 0
        rw [bump_get _ h.lo]
        have := h.le k
        have hk := hc k
        rw [cnt_one] at hk
        by_cases hq : (hd (at_ s.c i)).toNat = k
        · simp only [hq, if_true] at hk ⊢; omega
        · simp only [hq, Ne.symm hq, if_false] at hk ⊢; omega
    · exact up
  split
  · split
    · rename_i hi
      have hc := cnt_without s.c i hi
      refine ⟨by simp [without]; have := h.len; omega, ?_, h.li, h.lo, up.bi, up.bo, ?_⟩
      · intro b hb
        exact h.one b (by
          simp only [without, List.mem_append] at hb
          rcases hb with hb | hb
          · exact List.mem_of_mem_take hb
          · exact List.mem_of_mem_drop hb)
      · intro k
        show (cnt (without s.c i) k : Int) + s.out.getD k 0 ≤ s.inn.getD k 0
        have := h.le k
        have hk := hc k
        omega
    · exact up
  · split
    · rename_i hi
      refine ⟨by simp; omega, ?_, by simp [bump, h.li], h.lo, ?_, up.bo, ?_⟩
      · intro b hb
        rcases List.mem_append.1 hb with hb | hb
        · exact h.one b hb
        · simp at hb; subst hb
          exact h.one _ (by simp [at_, List.getD, hi.1])
      · intro k
        show 0 ≤ (bump s.inn _).getD k 0 ∧ (bump s.inn _).getD k 0 ≤ _
        rw [bump_get _ h.li]
        have := h.bi k
        split <;> constructor <;> omega
      · intro k
        show (cnt (s.c ++ [at_ s.c i]) k : Int) + s.out.getD k 0 ≤ (bump s.inn _).getD k 0
        rw [bump_get _ h.li, cnt_append, cnt_one]
        have := h.le k
        by_cases hk : (hd (at_ s.c i)).toNat = k
        · simp only [hk, if_true]; omega
        · simp only [hk, Ne.symm hk, if_false]; omega
    · exact up
theorem s0_ok : Ok s0 0 := by
  have e : ∀ k, (List.replicate 256 (0 : Int)).getD k 0 = 0 := fun k => by
    simp only [List.getD, List.getElem?_replicate]; split <;> rfl
  exact ⟨by simp [s0], by simp [s0], by simp [s0], by simp [s0], fun k => by simp only [s0, e]; omega, fun k => by simp only [s0, e]; omega, fun k => by simp only [s0, e, cnt]; simp⟩
end Go.Ch
