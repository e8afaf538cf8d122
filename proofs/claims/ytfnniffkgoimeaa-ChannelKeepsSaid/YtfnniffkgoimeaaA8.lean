/- Slicing, stores into rows, struct literals. -/
import Derived.Test.YtfnniffkgoimeaaA7
set_option linter.all false
namespace Go.Abs

def natOf : AV → Option Nat
  | .v (.int _ i) => if 0 ≤ i then some i.toNat else none
  | _ => none

/-- x[l:h] or, where 'full', x[l:h:h] -/
def sliceA (n : Nat) (full : Bool) (l h : Nat) (st : St) : AV → Option (AV × St)
  | .sl (.own r lo) m es => if m = n ∧ l ≤ h ∧ h ≤ es.length then
      if full then (if lo = 0 then some (.sl .full n ((es.drop l).take (h - l)), st.freeze [r]) else none)
      else some (.sl (.own r (lo + l)) n ((es.drop l).take (h - l)), st)
    else none
  | .sl t m es => if m = n ∧ l ≤ h ∧ h ≤ es.length then some (.sl (if full then .full else .no) n ((es.drop l).take (h - l)), st) else none
  | .v (.slice none 0 0) => if l = 0 ∧ h = 0 then some (.v (.slice none 0 0), st) else none
  | _ => none

section
variable {C : Ctx} {A : A0} {N : Nat} {g g' : Gh} {st : St} {a : Act} {w w' : World} {P : Program}

theorem PRe.sub {ro : Nat → Prop} : ∀ (es : List (List AV)) (ad : Addr) (n i : Nat), PRe ro w es ad n i → ∀ l k : Nat, PRe ro w ((es.drop l).take k) ad n (i + l)
  | [], _, _, _, _, l, k => by simp [PRe]
  | e :: es, ad, n, i, h, 0, 0 => by simp [PRe]
  | e :: es, ad, n, i, h, 0, k + 1 => by
    simp only [PRe] at h
    simp only [List.drop_zero, List.take_succ_cons, PRe]
    exact ⟨h.1, h.2.1, by simpa using PRe.sub es ad n (i + 1) h.2.2 0 k⟩
  | e :: es, ad, n, i, h, l + 1, k => by
    simp only [PRe] at h
    have := PRe.sub es ad n (i + 1) h.2.2 l k
    rw [show i + 1 + l = i + (l + 1) from by omega] at this
    simpa using this
theorem PRe.shift {ro : Nat → Prop} : ∀ (es : List (List AV)) (ad : Addr) (n l i : Nat), PRe ro w es ad n (l + i) → PRe ro w es (ad.add (l * n)) n i
  | [], _, _, _, _, _ => by simp [PRe]
  | e :: es, ad, n, l, i, h => by
    simp only [PRe] at h ⊢
    exact ⟨h.1, PRc.shift e ad (l * n) (i * n) (by rw [← Nat.add_mul]; exact h.2.1), PRe.shift es ad n l (i + 1) (by rw [← Nat.add_assoc]; exact h.2.2)⟩

theorem run_slice {t e : TypeId} {size : Nat} (ht : P.underlying t = some (.slice e)) (hs : szOf P e = some size) {a : Option Addr} {len cap l h : Nat} {lo hi mx : Option Value} {kl kh km : IntKind}
    (hlo : lo = none ∧ l = 0 ∨ lo = some (.int kl l)) (hhi : hi = none ∧ h = len ∨ hi = some (.int kh h)) (full : Bool) (hmx : mx = if full then some (.int km h) else none) (hfh : full = true → hi = some (.int kh h))
    (h1 : l ≤ h) (h2 : h ≤ len) (h3 : len ≤ cap) :
    (Instr.slice t (.slice a len cap) lo hi mx).run P w = .ok (.slice (if (if full then h else cap) = l then a else a.map (·.add (l * size))) (h - l) ((if full then h else cap) - l)) w := by
  have b1 : ∀ (k : IntKind) (c : BoundsCode), (Instr.sliceBound (.int k h) cap c).run P w = .ok h w := fun k c => by
    have := run_sliceBound (P := P) (w := w) k h cap c (by omega) (by omega); simpa using this
  have b2 : ∀ (k : IntKind) (c : BoundsCode), (Instr.sliceBound (.int k h) h c).run P w = .ok h w := fun k c => by
    have := run_sliceBound (P := P) (w := w) k h h c (by omega) (by omega); simpa using this
  have b3 : ∀ (k : IntKind) (c : BoundsCode), (Instr.sliceBound (.int k l) h c).run P w = .ok l w := fun k c => by
    have := run_sliceBound (P := P) (w := w) k l h c (by omega) (by omega); simpa using this
  have b4 : ∀ (k : IntKind) (c : BoundsCode), l ≤ len → (Instr.sliceBound (.int k l) len c).run P w = .ok l w := fun k c hh => by
    have := run_sliceBound (P := P) (w := w) k l len c (by omega) (by omega); simpa using this
  cases full with
  | true =>
    have hh := hfh rfl
    subst hh
    simp only [if_true] at hmx
    subst hmx
    rcases hlo with ⟨rfl, rfl⟩ | rfl
    · simp [Instr.slice, run_underlying ht, Instr.sliceBounds, b1, b2, run_sizeOf hs]
    · simp [Instr.slice, run_underlying ht, Instr.sliceBounds, b1, b2, b3, run_sizeOf hs]
  | false =>
    simp only [Bool.false_eq_true, if_false] at hmx
    subst hmx
    rcases hlo with ⟨rfl, rfl⟩ | rfl <;> rcases hhi with ⟨rfl, rfl⟩ | rfl
    · simp [Instr.slice, run_underlying ht, Instr.sliceBounds, run_sizeOf hs]
    · simp [Instr.slice, run_underlying ht, Instr.sliceBounds, b1, run_sizeOf hs]
    · simp [Instr.slice, run_underlying ht, Instr.sliceBounds, b4 _ _ h1, run_sizeOf hs]
    · simp [Instr.slice, run_underlying ht, Instr.sliceBounds, b1, b3, run_sizeOf hs]

theorem slice_sound (hR : R C A N g st a w) {t e : TypeId} {n : Nat} (ht : elemOfSlice P t = some (e, n)) {x z : AV} {ux : Value} (hx : VR g w x ux) {l h len : Nat} {lo hi mx : Option Value} {kl kh km : IntKind} {full : Bool}
    (hlen : ∀ es, elems n x = some es → es.length = len)
    (hlo : lo = none ∧ l = 0 ∨ lo = some (.int kl l)) (hhi : hi = none ∧ h = len ∨ hi = some (.int kh h)) (hmx : mx = if full then some (.int km h) else none) (hfh : full = true → hi = some (.int kh h)) {st' : St}
    (ha : sliceA n full l h st x = some (z, st')) : ∃ u g', (Instr.slice t ux lo hi mx).run P w = .ok u w ∧ R C A N g' st' a w ∧ VR g' w z u ∧ (((∀ r lo m es, x ≠ .sl (.own r lo) m es) ∨ full = false) → g' = g) := by
  have hts : P.underlying t = some (.slice e) ∧ szOf P e = some n := by
    unfold elemOfSlice at ht
    split at ht
    · rename_i e' he
      obtain ⟨n', hn', hh⟩ := Option.map_eq_some_iff.1 ht
      simp only [Prod.mk.injEq] at hh
      obtain ⟨rfl, rfl⟩ := hh
      exact ⟨he, hn'⟩
    · cases ht
  obtain ⟨ht1, ht2⟩ := hts
  unfold sliceA at ha
  split at ha
  · rename_i r lo' m es
    split at ha
    · rename_i hc
      obtain ⟨rfl, h1, h2⟩ := hc
      have hl : es.length = len := hlen es (by simp [elems])
      subst hl
      simp only [VR, OwnSl] at hx
      obtain ⟨hn, hx⟩ := hx
      have hlen' : ((es.drop l).take (h - l)).length = h - l := by simp; omega
      split at ha
      · rename_i hf
        subst hf
        split at ha
        · rename_i h0
          subst h0
          simp only [Option.some.injEq, Prod.mk.injEq] at ha
          obtain ⟨rfl, rfl⟩ := ha
          rcases hx with ⟨rfl, rfl⟩ | ⟨h0, _⟩ | ⟨cap, cur, T, rfl, k2, k3, k5, k6, k7, k8⟩
          · simp only [List.length_nil] at h2
            have h0 : h = 0 := by omega
            subst h0
            have hl0 : l = 0 := by omega
            subst hl0
            have hrun := run_slice (w := w) ht1 ht2 (a := none) (len := 0) (cap := 0) hlo hhi true hmx hfh (Nat.le_refl 0) (Nat.le_refl 0) (Nat.le_refl 0)
            refine ⟨_, _, hrun, hR.freeze [r], ?_, fun h => by rcases h with h | h; exact absurd rfl (h _ _ _ _); cases h⟩
            simp only [VR, PR]
            exact ⟨(fun _ _ h => by cases h), none, 0, by simp, by simp, by simp [maxLen], (fun _ => by simp), hn, .inl (by simp)⟩
          · omega
          · have hrun := run_slice (w := w) ht1 ht2 hlo hhi true hmx hfh h1 h2 k2 (a := some ⟨g.row r, 0 * m, none⟩)
            refine ⟨_, _, hrun, hR.freeze [r], ?_, fun h => by rcases h with h | h; exact absurd rfl (h _ _ _ _); cases h⟩
            simp only [VR, PR, if_true]
            refine ⟨(fun _ _ h => by cases h), _, _, by rw [hlen'], by omega, by omega, (fun _ => by omega), hn, ?_⟩
            by_cases hlh : h = l
            · exact .inl (by rw [hlh]; simp)
            · refine .inr ⟨_, by rw [if_neg hlh]; rfl, (by show (Gh.freeze [r] g).own ((⟨g.row r, 0 * m, none⟩ : Addr).add (l * m)).block = .ro; rw [add_block]; exact freeze_row _ r k5 (by simp)), ?_⟩
              have := PRe.sub es _ m 0 (PRe.mono_at (roFreeze (S := [r])) es _ m 0 rfl k8) l (h - l)
              rw [Nat.zero_add] at this
              exact PRe.shift _ _ m l 0 (by simpa using this)
        · cases ha
      · rename_i hf
        have hf' : full = false := by simpa using hf
        subst hf'
        simp only [Option.some.injEq, Prod.mk.injEq] at ha
        obtain ⟨rfl, rfl⟩ := ha
        rcases hx with ⟨rfl, rfl⟩ | ⟨h0, rfl, a', cap, rfl, hcap⟩ | ⟨cap, cur, T, rfl, k2, k3, k5, k6, k7, k8⟩
        · simp only [List.length_nil] at h2
          have h0 : h = 0 := by omega
          subst h0
          have hl0 : l = 0 := by omega
          subst hl0
          have hrun := run_slice (w := w) ht1 ht2 (a := none) (len := 0) (cap := 0) hlo hhi false hmx hfh (Nat.le_refl 0) (Nat.le_refl 0) (Nat.le_refl 0)
          refine ⟨_, _, hrun, hR, ?_, fun _ => rfl⟩
          simp only [VR, OwnSl]
          exact ⟨hn, .inl ⟨by simp, by simp⟩⟩
        · simp only [List.length_nil] at h2
          have h0' : h = 0 := by omega
          subst h0'
          have hl0 : l = 0 := by omega
          subst hl0
          have hrun := run_slice (w := w) ht1 ht2 (a := a') (len := 0) (cap := cap) hlo hhi false hmx hfh (Nat.le_refl 0) (Nat.le_refl 0) (Nat.zero_le _)
          refine ⟨_, _, hrun, hR, ?_, fun _ => rfl⟩
          simp only [VR, OwnSl]
          exact ⟨hn, .inr (.inl ⟨by omega, by simp, _, _, rfl, by simp; omega⟩)⟩
        · have hrun := run_slice (w := w) ht1 ht2 hlo hhi false hmx hfh h1 h2 k2 (a := some ⟨g.row r, lo' * m, none⟩)
          refine ⟨_, _, hrun, hR, ?_, fun _ => rfl⟩
          simp only [VR, OwnSl]
          refine ⟨hn, ?_⟩
          have hsub := PRe.sub es _ m 0 k8 l (h - l)
          rw [Nat.zero_add] at hsub
          have hsh := PRe.shift _ _ m l 0 (by simpa using hsub)
          rw [add_lit, ← Nat.add_mul] at hsh
          by_cases hcl : cap = l
          · have hl0 : h = l := by omega
            by_cases hz : lo' + l = 0
            · have e1 : lo' = 0 := by omega
              have e2 : l = 0 := by omega
              subst e1; subst e2
              refine .inr (.inr ⟨cap - 0, cur, T, ?_, by rw [hlen']; omega, by omega, k5, k6, by rw [k7]; congr 1, hsh⟩)
              simp only [Bool.false_eq_true, if_false, hcl, if_true]
              rw [hlen']
            · refine .inr (.inl ⟨by omega, by rw [hl0]; simp, _, _, by rw [hl0, Nat.sub_self], by simp; omega⟩)
          · refine .inr (.inr ⟨cap - l, cur, T, ?_, by rw [hlen']; omega, by omega, k5, k6, by rw [k7]; congr 1; omega, hsh⟩)
            rw [hlen']
            simp [hcl, add_lit, Nat.add_mul]
    · cases ha
  · rename_i t' m es hno
    split at ha
    · rename_i hc
      obtain ⟨rfl, h1, h2⟩ := hc
      simp only [Option.some.injEq, Prod.mk.injEq] at ha
      obtain ⟨rfl, rfl⟩ := ha
      have hl : es.length = len := hlen es (by simp [elems])
      subst hl
      have hlen' : ((es.drop l).take (h - l)).length = h - l := by simp; omega
      have hp : PR (isRo g) w (.sl t' m es) ux := by
        cases t' with
        | own r lo => exact absurd rfl (hno r lo)
        | no => simpa [VR] using hx
        | full => simpa [VR] using hx
      simp only [PR] at hp
      obtain ⟨_, a', cap, rfl, k2, k3, k4, k5, k6⟩ := hp
      have hrun := run_slice (w := w) ht1 ht2 hlo hhi full hmx hfh h1 h2 k2 (a := a')
      refine ⟨_, _, hrun, hR, ?_, fun _ => rfl⟩
      have hres : PR (isRo g) w (.sl (if full = true then .full else .no) m ((es.drop l).take (h - l))) (.slice (if (if full = true then h else cap) = l then a' else a'.map (·.add (l * m))) (h - l) ((if full = true then h else cap) - l)) := by
        simp only [PR]
        refine ⟨?_, _, _, by rw [hlen'], by split <;> omega, by split <;> omega, ?_, k5, ?_⟩
        · intro r lo
          cases full <;> simp
        · intro hf
          cases full
          · simp at hf
          · simp; omega
        by_cases hlh : h = l
        · exact .inl (by rw [hlh]; simp)
        · rcases k6 with rfl | ⟨ad, rfl, k7, k8⟩
          · exact .inl (by simp)
          · refine .inr ⟨ad.add (l * m), ?_, by rw [add_block]; exact k7, ?_⟩
            · rw [if_neg (by split <;> omega)]; rfl
            · have := PRe.sub es _ m 0 k8 l (h - l)
              rw [Nat.zero_add] at this
              exact PRe.shift _ _ m l 0 (by simpa using this)
      cases full with
      | true => simpa [VR] using hres
      | false => simpa [VR] using hres
    · cases ha
  · split at ha
    · rename_i hc
      obtain ⟨rfl, rfl⟩ := hc
      simp only [Option.some.injEq, Prod.mk.injEq] at ha
      obtain ⟨rfl, rfl⟩ := ha
      have hl : ([] : List (List AV)).length = len := hlen [] (by simp [elems])
      simp at hl
      subst hl
      simp only [VR] at hx
      subst hx
      have hrun := run_slice (w := w) ht1 ht2 (a := none) (len := 0) (cap := 0) hlo hhi full hmx hfh (Nat.le_refl 0) (Nat.le_refl 0) (Nat.le_refl 0)
      refine ⟨_, _, hrun, hR, ?_, fun _ => rfl⟩
      simp [VR]
    · cases ha
  · cases ha
end
end Go.Abs
