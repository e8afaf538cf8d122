/- Rows: literals, make, append. -/
import Derived.Test.YtfnniffkgoimeaaA5
set_option linter.all false
namespace Go.Abs

/-- a slice type's element: its type, its cells, its bytes; its zero value is known and fits -/
def rowInf (P : Program) (t : TypeId) : Option (TypeId × Nat × Nat) :=
  match P.underlying t with
  | some (.slice e) => match P.info? e with
    | some i => match i.zero with
      | some z => if z.cells.size = i.size ∧ 0 < i.size ∧ i.bytes ≤ 32768 then some (e, i.size, i.bytes) else none
      | none => none
    | none => none
  | _ => none

theorem rowInf_spec {P : Program} {t e n b : Nat} (h : rowInf P t = some (e, n, b)) : P.underlying t = some (.slice e) ∧ ∃ i z, P.info? e = some i ∧ i.zero = some z ∧ z.cells.size = n ∧ i.size = n ∧ i.bytes = b ∧ 0 < n ∧ b ≤ 32768 := by
  unfold rowInf at h
  split at h
  · rename_i e' he
    split at h
    · rename_i i hi
      split at h
      · rename_i z hz
        split at h
        · rename_i hc
          simp only [Option.some.injEq, Prod.mk.injEq] at h
          obtain ⟨rfl, rfl, rfl⟩ := h
          exact ⟨he, i, z, hi, hz, hc.1, rfl, rfl, hc.2.1, hc.2.2⟩
        · cases h
      · cases h
    · cases h
  · cases h

def isSliceT (P : Program) (t : TypeId) : Bool := match P.underlying t with
  | some (.slice _) => true
  | _ => false

section
variable {P : Program} {w : World}

theorem run_firstCells' {size n : Nat} {x : Value} {news : List Value} (hl : news.length = n * size) (hx : (∃ a c, x = .slice (some a) n c ∧ ∀ (j : Nat) (v : Value), news[j]? = some v → w.cell? (a.add j) = some v) ∨ (n = 0 ∧ ∃ c, x = .slice none 0 c)) :
    (Builtin.firstCells size n x).run P w = .ok news.toArray w := by
  rcases hx with ⟨a, c, rfl, h⟩ | ⟨rfl, c, rfl⟩
  · exact run_firstCells_some (P := P) w size n a n c news hl h
  · have : news = [] := List.eq_nil_of_length_eq_zero (by simpa using hl)
    subst this
    simp [Builtin.firstCells]

/-- the elements of a slice value, in memory -/
def SrcAt (w : World) (size m : Nat) (x : Value) (news : List Value) : Prop :=
  news.length = m * size ∧ ((∃ a c, x = .slice (some a) m c ∧ ∀ (j : Nat) (v : Value), news[j]? = some v → w.cell? (a.add j) = some v) ∨ (m = 0 ∧ ∃ c, x = .slice none 0 c))

theorem run_append_new {t t2 ty e : TypeId} {i : TypeInfo} {z : Value} (ht : P.underlying t = some (.slice e)) (ht2 : isSliceT P t2 = true) (hi : P.info? e = some i) (hz : i.zero = some z)
    {base : Option Addr} {sLen sCap : Nat} {olds : List Value} (ho : SrcAt w i.size sLen (.slice base sLen sCap) olds) {x : Value} {m : Nat} {news : List Value} (hx : SrcAt w i.size m x news)
    (hg : sCap < sLen + m) (hle : sLen ≤ sCap) (hb : (sLen + m) * i.bytes ≤ 140737488355328) (h63 : sLen + m ≤ 9223372036854775807) :
    (Builtin.append_ #[t, t2] ty #[.slice base sLen sCap, x]).run P w =
      .ok (.slice (some ⟨w.heap.size, 0, none⟩) (sLen + m) (grownCap w (sLen + m) sCap e))
        (w.drew.alloc (.cells (olds.toArray ++ news.toArray ++ Builtin.zeroCells z.cells (grownCap w (sLen + m) sCap e - (sLen + m))) e)) := by
  have hn : ¬ (sLen + m ≤ sCap) := by omega
  have h63' : ¬ (9223372036854775807 < ((sLen : Int) + (m : Int))) := by omega
  have hfit := growslice_fits (need := sLen + m) (old := sCap) hg hb
  have h48' : ¬ (281474976710656 < Builtin.nextslicecap (sLen + m) sCap * i.bytes) := by omega
  have hf : (Builtin.firstCells i.size m x).run P w.drew = .ok news.toArray w.drew := run_firstCells' hx.1 (by
    rcases hx.2 with ⟨a, c, h1, h2⟩ | h
    · exact .inl ⟨a, c, h1, by simpa using h2⟩
    · exact .inr h)
  have hfo : (Builtin.firstCells i.size sLen (.slice base sLen sCap)).run P w.drew = .ok olds.toArray w.drew := run_firstCells' ho.1 (by
    rcases ho.2 with ⟨a, c, h1, h2⟩ | h
    · exact .inl ⟨a, c, h1, by simpa using h2⟩
    · exact .inr h)
  have hlen : (Builtin.lenOf x).run P w = .ok m w := by
    rcases hx.2 with ⟨a, c, rfl, _⟩ | ⟨rfl, c, rfl⟩ <;> simp [Builtin.lenOf]
  unfold isSliceT at ht2
  split at ht2
  · rename_i e2 he2
    simp [Builtin.append_, run_underlying ht, run_underlying he2, sizeOf, typeInfo, zeroValue, hi, hz, hlen, hn, h63', h48', Question.forced, hf, hfo, newRow, grownCap]
    congr 2
    apply Array.ext'
    simp [List.append_assoc]
  · cases ht2

theorem run_append_same {t t2 ty e : TypeId} {i : TypeInfo} (ht : P.underlying t = some (.slice e)) (ht2 : isSliceT P t2 = true) (hi : P.info? e = some i)
    {base : Option Addr} {sLen sCap : Nat} {x : Value} (hx : SrcAt w i.size 0 x []) (hle : sLen ≤ sCap) :
    (Builtin.append_ #[t, t2] ty #[.slice base sLen sCap, x]).run P w = .ok (.slice base sLen sCap) w := by
  have hf : (Builtin.firstCells i.size 0 x).run P w = .ok #[] w := run_firstCells' (news := []) hx.1 hx.2
  have hlen : (Builtin.lenOf x).run P w = .ok 0 w := by
    rcases hx.2 with ⟨a, c, rfl, _⟩ | ⟨_, c, rfl⟩ <;> simp [Builtin.lenOf]
  unfold isSliceT at ht2
  split at ht2
  · rename_i e2 he2
    cases base <;> simp [Builtin.append_, run_underlying ht, run_underlying he2, sizeOf, typeInfo, hi, hlen, hle, hf, storeCells]
  · cases ht2

theorem run_append_room' {t t2 ty e : TypeId} {i : TypeInfo} (ht : P.underlying t = some (.slice e)) (ht2 : isSliceT P t2 = true) (hi : P.info? e = some i)
    {b sLen sCap : Nat} {T : TypeId} {cur : Array Value} (hb : w.heap[b]? = some (.cells cur T (0, 0))) {x : Value} {m : Nat} {news : List Value} (hx : SrcAt w i.size m x news)
    (h1 : ∀ u ∈ news, u.oneCell' = true) (hroom : sLen + m ≤ sCap) (hfit : sLen * i.size + news.length ≤ cur.size) :
    (Builtin.append_ #[t, t2] ty #[.slice (some ⟨b, 0, none⟩) sLen sCap, x]).run P w =
      .ok (.slice (some ⟨b, 0, none⟩) (sLen + m) sCap) (w.setRow b (cur.toList.take (sLen * i.size) ++ news ++ cur.toList.drop (sLen * i.size + news.length)).toArray) := by
  have hf : (Builtin.firstCells i.size m x).run P w = .ok news.toArray w := run_firstCells' hx.1 hx.2
  have hlen : (Builtin.lenOf x).run P w = .ok m w := by
    rcases hx.2 with ⟨a, c, rfl, _⟩ | ⟨rfl, c, rfl⟩ <;> simp [Builtin.lenOf]
  have hst := run_storeCells_at P b (sLen * i.size) T news 0 cur w hb (by simpa using hfit) h1
  simp only [Nat.add_zero] at hst
  unfold isSliceT at ht2
  split at ht2
  · rename_i e2 he2
    simp [Builtin.append_, run_underlying ht, run_underlying he2, sizeOf, typeInfo, hi, hlen, hroom, hf, add_lit, hst]
  · cases ht2
end

section
variable {C : Ctx} {A : A0} {N : Nat} {g g' : Gh} {st : St} {a : Act} {w w' : World} {P : Program}

/-- the elements that a slice value reads as, if it is one of n cells an element -/
def elems (n : Nat) : AV → Option (List (List AV))
  | .v (.slice none 0 0) => some []
  | .sl _ m es => if m = n then some es else none
  | _ => none

theorem elems_src {n : Nat} {x : AV} {es : List (List AV)} {u : Value} (hn : 0 < n) (h : elems n x = some es) (hv : VR g w x u) :
    ∃ us : List Value, SrcAt w n es.length u us ∧ PRl (isRo g) w es.flatten us ∧ (∀ e ∈ es, e.length = n) := by
  unfold elems at h
  split at h
  · simp at h; subst h
    simp only [VR] at hv; subst hv
    exact ⟨[], ⟨by simp, .inr ⟨rfl, 0, rfl⟩⟩, by simp [PRl], by simp⟩
  · rename_i t m es'
    split at h
    · rename_i hm
      simp at h; subst h; subst hm
      by_cases ho : ∃ r lo, t = .own r lo
      · obtain ⟨r, lo, rfl⟩ := ho
        simp only [VR, OwnSl] at hv
        obtain ⟨_, ⟨rfl, rfl⟩ | ⟨_, rfl, a', cap, rfl, _⟩ | ⟨cap, cur, T, rfl, h2, h3, h5, h6, h7, h8⟩⟩ := hv
        · exact ⟨[], ⟨by simp, .inr ⟨rfl, 0, rfl⟩⟩, by simp [PRl], by simp⟩
        · refine ⟨[], ⟨by simp, ?_⟩, by simp [PRl], by simp⟩
          cases a' with
          | none => exact .inr ⟨rfl, cap, rfl⟩
          | some a' => exact .inl ⟨a', cap, rfl, by simp⟩
        · obtain ⟨us, k1, k2, k3⟩ := PRe.list es' _ m 0 h8
          exact ⟨us, ⟨k2, .inl ⟨_, cap, rfl, fun j v hj => by simpa using k3 j v hj⟩⟩, k1, PRe.lens h8⟩
      · have hp : PR (isRo g) w (.sl t m es') u := by
          cases t with
          | own r lo => exact absurd ⟨r, lo, rfl⟩ ho
          | no => simpa [VR] using hv
          | full => simpa [VR] using hv
        simp only [PR] at hp
        obtain ⟨_, a', cap, rfl, h2, h3, h4, h5, rfl | ⟨ad, rfl, h7, h8⟩⟩ := hp
        · refine ⟨[], ⟨by simp, ?_⟩, by simp [PRl], by simp⟩
          cases a' with
          | none => exact .inr ⟨rfl, cap, rfl⟩
          | some a' => exact .inl ⟨a', cap, rfl, by simp⟩
        · obtain ⟨us, k1, k2, k3⟩ := PRe.list es' _ m 0 h8
          exact ⟨us, ⟨k2, .inl ⟨_, cap, rfl, fun j v hj => by simpa using k3 j v hj⟩⟩, k1, PRe.lens h8⟩
    · cases h
  · cases h
end

/-- append: the name of the new row, the cells of an element -/
def appendA (k n : Nat) (st : St) (x y : AV) : Option (AV × St) :=
  match elems n x, elems n y with
  | some es, some fs => if es.length + fs.length ≤ 4294967296 then match x with
    | .v _ => some (.sl (.own k 0) n (es ++ fs), st.kill [k] [])
    | .sl (.own r 0) _ _ => some (.sl (.own k 0) n (es ++ fs), st.kill [r, k] [])
    | _ => none
    else none
  | _, _ => none

section
variable {C : Ctx} {A : A0} {N : Nat} {g g' : Gh} {st : St} {a : Act} {w w' : World} {P : Program}

theorem lasts_refl (g : Gh) (w : World) (S T : List Nat) : Lasts S T g w g w := ⟨fun _ _ h => ⟨h, rfl⟩, fun _ _ _ _ h => ⟨h, rfl⟩, fun _ _ => rfl, fun _ _ => rfl, fun _ _ _ _ _ h => ⟨h, rfl⟩, fun _ _ _ => rfl⟩
theorem lasts_drew (g : Gh) (w : World) (S T : List Nat) : Lasts S T g w g w.drew := ⟨fun _ _ h => ⟨h, rfl⟩, fun _ _ _ _ h => ⟨h, rfl⟩, fun _ _ => rfl, fun _ _ => rfl, fun _ _ _ _ _ h => ⟨h, rfl⟩, fun _ _ _ => rfl⟩

theorem R.drew (h : R C A N g st a w) : R C A N g st a w.drew := by
  have hl := lasts_drew g w [] []
  have := h.lasts hl (h.fr.step hl rfl rfl rfl (Nat.le_refl _) (fun b _ ho => ⟨ho, rfl⟩) (fun _ _ he => by cases he)) (fun s cs hs _ => ⟨(h.ob s cs hs).1, rfl⟩)
  rwa [stKill_nil] at this
theorem R.kill (h : R C A N g st a w) (S T : List Nat) (hT : ∀ s ∈ A.ext, s ∉ T) : R C A N g (st.kill S T) a w := by
  have hl := lasts_refl g w S T
  exact h.lasts hl (h.fr.step hl rfl rfl rfl (Nat.le_refl _) (fun b _ ho => ⟨ho, rfl⟩) hT) (fun s cs hs _ => ⟨(h.ob s cs hs).1, rfl⟩)

theorem VR_drew {x : AV} {u : Value} (h : VR g w x u) : VR g w.drew x u := by
  have := VR.lasts (lasts_drew g w [] []) x u h
  rwa [kill_nil] at this

theorem PRl_drew {cs : List AV} {us : List Value} (h : PRl (isRo g) w cs us) : PRl (isRo g) w.drew cs us := PRl.mono (w := w) (w' := w.drew) (fun _ _ h => ⟨h, rfl⟩) h

/-- the new array that append makes -/
theorem R.appendNew (h : R C A N g st a w) {k n : Nat} {S : List Nat} (hk : k ∈ S) {e : TypeId} {z : Value} (hzs : z.cells.size = n) (hn : 0 < n) {es fs : List (List AV)} {us vs : List Value}
    (h1 : PRl (isRo g) w es.flatten us) (h2 : PRl (isRo g) w fs.flatten vs) (hl1 : ∀ e ∈ es, e.length = n) (hl2 : ∀ e ∈ fs, e.length = n) (hu : us.length = es.length * n) (hv : vs.length = fs.length * n)
    {cap : Nat} (hcap : es.length + fs.length ≤ cap) (hm : cap ≤ maxLen) :
    ∃ g', R C A N g' (st.kill S []) a (w.drew.alloc (.cells (us.toArray ++ vs.toArray ++ Builtin.zeroCells z.cells (cap - (es.length + fs.length))) e)) ∧
      VR g' (w.drew.alloc (.cells (us.toArray ++ vs.toArray ++ Builtin.zeroCells z.cells (cap - (es.length + fs.length))) e)) (.sl (.own k 0) n (es ++ fs)) (.slice (some ⟨w.heap.size, 0, none⟩) (es.length + fs.length) cap) := by
  have := h.drew.newRow k S hk (us.toArray ++ vs.toArray ++ Builtin.zeroCells z.cells (cap - (es.length + fs.length))) e n cap (es ++ fs) (us ++ vs) hn
    (fun e he => (List.mem_append.1 he).elim (hl1 e) (hl2 e))
    (by rw [List.flatten_append]; exact PRl.append (PRl_drew h1) (PRl_drew h2))
    (by
      simp only [Array.size_append, List.size_toArray, size_zeroCells, hzs, hu, hv]
      rw [← Nat.add_mul, ← Nat.add_mul]
      congr 1; omega)
    (by simpa using hcap) hm
    (fun j v hj => by
      have hj' : j < (us ++ vs).length := by
        rcases Nat.lt_or_ge j (us ++ vs).length with h | h
        · exact h
        · rw [List.getElem?_eq_none h] at hj; cases hj
      rw [Array.getElem?_append_left (by simpa using hj')]
      simpa using hj)
  obtain ⟨g', k1, k2⟩ := this
  refine ⟨g', k1, ?_⟩
  rw [List.length_append] at k2
  exact k2

theorem append_sound (hR : R C A N g st a w) {t t2 ty e n b k : Nat} (ht : rowInf P t = some (e, n, b)) (ht2 : isSliceT P t2 = true) {x y z : AV} {ux uy : Value} (hx : VR g w x ux) (hy : VR g w y uy) {st' : St}
    (ha : appendA k n st x y = some (z, st')) : ∃ u w' g', (Builtin.append_ #[t, t2] ty #[ux, uy]).run P w = .ok u w' ∧ R C A N g' st' a w' ∧ VR g' w' z u := by
  obtain ⟨hu, i, zv, hi, hz, hzs, hsz, hby, hn, hb⟩ := rowInf_spec ht
  subst hsz
  unfold appendA at ha
  split at ha
  · rename_i es fs hes hfs
    split at ha
    · rename_i hlen
      obtain ⟨vs, sy, py, ly⟩ := elems_src hn hfs hy
      obtain ⟨us, sx, px, lx⟩ := elems_src hn hes hx
      have hbytes : (es.length + fs.length) * i.bytes ≤ 140737488355328 := by
        have : (es.length + fs.length) * i.bytes ≤ 4294967296 * 32768 := Nat.mul_le_mul hlen (by omega)
        omega
      have hcapm : ∀ old, grownCap w (es.length + fs.length) old e ≤ maxLen := fun old => grownCap_le_maxLen w _ old e (by simp only [maxLen]; omega)
      have hcapge : ∀ old, es.length + fs.length ≤ grownCap w (es.length + fs.length) old e := fun old => grownCap_ge w _ old e
      split at ha
      · -- nil
        rename_i xv
        simp only [Option.some.injEq, Prod.mk.injEq] at ha
        obtain ⟨rfl, rfl⟩ := ha
        have hnil : xv = .slice none 0 0 ∧ es = [] := by
          unfold elems at hes
          split at hes
          · rename_i heq; injection heq with heq; simp at hes; exact ⟨heq, hes⟩
          · rename_i heq; cases heq
          · cases hes
        obtain ⟨rfl, rfl⟩ := hnil
        simp only [VR] at hx
        subst hx
        by_cases hm : fs.length = 0
        · have hf : fs = [] := List.eq_nil_of_length_eq_zero hm
          subst hf
          have hv0 : vs = [] := List.eq_nil_of_length_eq_zero (by simpa using sy.1)
          subst hv0
          exact ⟨_, _, g, run_append_same hu ht2 hi sy (Nat.le_refl 0), hR.kill [k] [] (fun _ _ h => by cases h), by simp only [VR, OwnSl, List.append_nil]; exact ⟨hn, .inl ⟨trivial, trivial⟩⟩⟩
        · have hrun := run_append_new (ty := ty) hu ht2 hi hz (base := none) (sLen := 0) (sCap := 0) (olds := []) ⟨by simp, .inr ⟨rfl, 0, rfl⟩⟩ sy (by omega) (Nat.le_refl 0) (by simpa using hbytes) (by simp at hlen; omega)
          obtain ⟨g', k1, k2⟩ := hR.appendNew (k := k) (S := [k]) (by simp) (e := e) hzs hn (es := []) (us := []) (by simp [PRl]) py (by simp) ly (by simp) sy.1 (hcapge 0) (hcapm 0)
          simp only [List.length_nil, Nat.zero_add] at hrun k1 k2
          exact ⟨_, _, g', hrun, k1, k2⟩
      · rename_i r m es'
        simp only [Option.some.injEq, Prod.mk.injEq] at ha
        obtain ⟨rfl, rfl⟩ := ha
        have hes' : m = i.size ∧ es' = es := by
          simp only [elems] at hes
          split at hes
          · rename_i hm; simp at hes; exact ⟨hm, hes⟩
          · cases hes
        obtain ⟨rfl, rfl⟩ := hes'
        simp only [VR, OwnSl] at hx
        obtain ⟨_, ⟨rfl, rfl⟩ | ⟨h0, _⟩ | ⟨cap, cur, T, rfl, h2, h3, h5, h6, h7, h8⟩⟩ := hx
        · by_cases hm : fs.length = 0
          · have hf : fs = [] := List.eq_nil_of_length_eq_zero hm
            subst hf
            have hv0 : vs = [] := List.eq_nil_of_length_eq_zero (by simpa using sy.1)
            subst hv0
            exact ⟨_, _, g, run_append_same hu ht2 hi sy (Nat.le_refl 0), hR.kill [r, k] [] (fun _ _ h => by cases h), by simp only [VR, OwnSl, List.append_nil]; exact ⟨hn, .inl ⟨trivial, trivial⟩⟩⟩
          · have hrun := run_append_new (ty := ty) hu ht2 hi hz (base := none) (sLen := 0) (sCap := 0) (olds := []) ⟨by simp, .inr ⟨rfl, 0, rfl⟩⟩ sy (by omega) (Nat.le_refl 0) (by simpa using hbytes) (by simp at hlen; omega)
            obtain ⟨g', k1, k2⟩ := hR.appendNew (k := k) (S := [r, k]) (by simp) (e := e) hzs hn (es := []) (us := []) (by simp [PRl]) py (by simp) ly (by simp) sy.1 (hcapge 0) (hcapm 0)
            simp only [List.length_nil, Nat.zero_add] at hrun k1 k2
            exact ⟨_, _, g', hrun, k1, k2⟩
        · omega
        · simp only [Nat.zero_mul, Nat.zero_add] at h7 h8 sx ⊢
          by_cases hroom : es'.length + fs.length ≤ cap
          · -- in place
            have hfit : es'.length * i.size + vs.length ≤ cur.size := by
              rw [sy.1, h7, ← Nat.add_mul]; exact Nat.mul_le_mul_right _ hroom
            have hrun := run_append_room' (ty := ty) hu ht2 hi h6 sy (PRl.one py) hroom hfit
            generalize hnew : (cur.toList.take (es'.length * i.size) ++ vs ++ cur.toList.drop (es'.length * i.size + vs.length)).toArray = new at hrun
            have hnb : ∀ b', b' ≠ g.row r → (w.setRow (g.row r) new).heap[b']? = w.heap[b']? := fun b' hb' => setRow_other w _ b' new hb'
            have hl : Lasts [r, k] [] g w (g.newRow (g.row r) k) (w.setRow (g.row r) new) := by
              refine ⟨fun b' _ ho => ?_, fun b' q _ hq ho => ?_, fun q hq => ?_, fun _ _ => rfl, fun b' q i _ hq ho => ?_, fun _ _ _ => rfl⟩
              · have hne : b' ≠ g.row r := fun e => by rw [e, h5] at ho; cases ho
                exact ⟨by simp [Gh.newRow, hne, ho], hnb b' hne⟩
              · have hne : b' ≠ g.row r := fun e => by rw [e, h5] at ho; injection ho with ho; exact hq (by simp [ho])
                exact ⟨by simp [Gh.newRow, hne, ho], hnb b' hne⟩
              · have : q ≠ k := fun e => hq (by simp [e])
                simp [Gh.newRow, this]
              · have hne : b' ≠ g.row r := fun e => by rw [e, h5] at ho; cases ho
                exact ⟨by simp [Gh.newRow, hne, ho], hnb b' hne⟩
            refine ⟨_, _, g.newRow (g.row r) k, hrun, ?_, ?_⟩
            · refine hR.lasts hl (hR.fr.step hl rfl rfl rfl (by simp) (fun b' _ ho => ?_) (fun _ _ h => by cases h)) (fun s cs hs _ => ?_)
              · have hne : b' ≠ g.row r := fun e => by rw [e, h5] at ho; cases ho
                exact ⟨by simp [Gh.newRow, hne, ho], hnb b' hne⟩
              · have ho := (hR.ob s cs hs).1
                have hne : g.box s ≠ g.row r := fun e => by rw [e, h5] at ho; cases ho
                exact ⟨by simp [Gh.newRow, hne, ho], hnb _ hne⟩
            · simp only [VR, OwnSl]
              have hrow : (g.newRow (g.row r) k).row k = g.row r := by simp [Gh.newRow]
              refine ⟨hn, .inr (.inr ⟨cap, new, T, ?_, ?_, by omega, ?_, ?_, ?_, ?_⟩)⟩
              · rw [hrow]; simp
              · simpa using hroom
              · rw [hrow]; simp [Gh.newRow]
              · rw [hrow]; exact setRow_heap w _ cur new T _ h6
              · rw [← hnew]
                simp only [List.size_toArray, List.length_append, List.length_take, List.length_drop, Array.length_toList]
                rw [Nat.zero_add, ← h7, Nat.min_eq_left (by omega)]
                omega
              · rw [hrow]
                refine PRe.of_list (es' ++ fs) (us ++ vs) _ _ 0 (fun e he => (List.mem_append.1 he).elim (lx e) (ly e)) ?_ ?_
                · rw [List.flatten_append]; exact PRl.append (PRl.mono hl.ro' px) (PRl.mono hl.ro' py)
                · intro j v hj
                  simp only [Nat.zero_mul, Nat.zero_add, add_lit]
                  rw [cell_of_row _ _ _ _ _ _ (setRow_heap w _ cur new T _ h6), ← hnew]
                  have hux : us.length = es'.length * i.size := sx.1
                  have htake : cur.toList.take (es'.length * i.size) = us := by
                    apply List.ext_getElem?
                    intro q
                    rw [List.getElem?_take]
                    by_cases hq : q < es'.length * i.size
                    · rw [if_pos hq]
                      have hq' : us[q]? = some (us[q]'(by omega)) := List.getElem?_eq_getElem (by omega)
                      rcases sx.2 with ⟨a', c', he, hcell⟩ | ⟨h0, _⟩
                      · injection he with he1 he2 he3
                        simp only [Option.some.injEq] at he1
                        have := hcell q _ hq'
                        rw [← he1, add_lit, cell_of_row _ _ _ _ _ _ h6] at this
                        rw [hq']
                        simpa using this
                      · rw [h0] at hq; simp at hq
                    · rw [if_neg hq, List.getElem?_eq_none (by omega)]
                  rw [htake]
                  have hj' : j < (us ++ vs).length := by
                    rcases Nat.lt_or_ge j (us ++ vs).length with h | h
                    · exact h
                    · rw [List.getElem?_eq_none h] at hj; cases hj
                  simp only [List.getElem?_toArray]
                  rw [List.getElem?_append_left hj']
                  exact hj
          · have hrun := run_append_new (ty := ty) hu ht2 hi hz (base := some ⟨g.row r, 0, none⟩) (sLen := es'.length) (sCap := cap) (olds := us) sx sy (by omega) h2 hbytes (by omega)
            obtain ⟨g', k1, k2⟩ := hR.appendNew (k := k) (S := [r, k]) (by simp) (e := e) hzs hn px py lx ly sx.1 sy.1 (hcapge cap) (hcapm cap)
            exact ⟨_, _, g', hrun, k1, k2⟩
      · cases ha
    · cases ha
  · cases ha
end
end Go.Abs
