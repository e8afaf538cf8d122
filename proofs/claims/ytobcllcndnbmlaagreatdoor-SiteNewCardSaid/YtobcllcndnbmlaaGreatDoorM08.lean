/- part 8 of the proof -/
import Derived.Test.YtobcllcndnbmlaaGreatDoorM06
import Derived.Test.YtobcllcndnbmlaaGreatDoorM07
set_option linter.all false
namespace Go.H
open Go.Abs (lk Does does_pure szOf aggOf zeroOf structEq strT intT)
section
variable {P : Program} {w : World}
def T2 (P : Program) (t2 : TypeId) : Prop := (∃ e2, P.underlying t2 = some (.slice e2)) ∨ P.underlying t2 = some .string
theorem app_new {t t2 ty e : TypeId} {i : TypeInfo} {z : Value} (ht : P.underlying t = some (.slice e)) (ht2 : T2 P t2) (hi : P.info? e = some i) (hz : i.zero = some z)
    {base : Option Addr} {sLen sCap : Nat} {olds : List Value} (hfo : ∀ w', w'.heap = w.heap → (Builtin.firstCells i.size sLen (.slice base sLen sCap)).run P w' = .ok olds.toArray w') {x : Value} {m : Nat} {news : List Value}
    (hlen : (Builtin.lenOf x).run P w = .ok m w) (hf : ∀ w', w'.heap = w.heap → (Builtin.firstCells i.size m x).run P w' = .ok news.toArray w')
    (hg : sCap < sLen + m) (hb : (sLen + m) * i.bytes ≤ 140737488355328) (h63 : sLen + m ≤ 9223372036854775807) :
    (Builtin.append_ #[t, t2] ty #[.slice base sLen sCap, x]).run P w =
      .ok (.slice (some ⟨w.heap.size, 0, none⟩) (sLen + m) (grownCap w (sLen + m) sCap e))
        (w.drew.alloc (.cells (olds.toArray ++ news.toArray ++ Builtin.zeroCells z.cells (grownCap w (sLen + m) sCap e - (sLen + m))) e)) := by
  have hn : ¬ (sLen + m ≤ sCap) := by omega
  have h63' : ¬ (9223372036854775807 < ((sLen : Int) + (m : Int))) := by omega
  have hfit := growslice_fits (need := sLen + m) (old := sCap) hg hb
  have h48' : ¬ (281474976710656 < Builtin.nextslicecap (sLen + m) sCap * i.bytes) := by omega
  have hf := hf w.drew rfl
  have hfo := hfo w.drew rfl
  rcases ht2 with ⟨e2, he2⟩ | he2
  · simp [Builtin.append_, run_underlying ht, run_underlying he2, sizeOf, typeInfo, zeroValue, hi, hz, hlen, hn, h63', h48', Question.forced, hf, hfo, newRow, grownCap]
    congr 2
    apply Array.ext'
    simp [List.append_assoc]
  · simp [Builtin.append_, run_underlying ht, run_underlying he2, sizeOf, typeInfo, zeroValue, hi, hz, hlen, hn, h63', h48', Question.forced, hf, hfo, newRow, grownCap]
    congr 2
    apply Array.ext'
    simp [List.append_assoc]
theorem app_same {t t2 ty e : TypeId} {i : TypeInfo} (ht : P.underlying t = some (.slice e)) (ht2 : T2 P t2) (hi : P.info? e = some i)
    {base : Option Addr} {sLen sCap : Nat} {x : Value} (hlen : (Builtin.lenOf x).run P w = .ok 0 w) (hf : ∀ w', w'.heap = w.heap → (Builtin.firstCells i.size 0 x).run P w' = .ok #[] w') (hle : sLen ≤ sCap) :
    (Builtin.append_ #[t, t2] ty #[.slice base sLen sCap, x]).run P w = .ok (.slice base sLen sCap) w := by
  have hf := hf w rfl
  rcases ht2 with ⟨e2, he2⟩ | he2
  · cases base <;> simp [Builtin.append_, run_underlying ht, run_underlying he2, sizeOf, typeInfo, hi, hlen, hle, hf, storeCells]
  · cases base <;> simp [Builtin.append_, run_underlying ht, run_underlying he2, sizeOf, typeInfo, hi, hlen, hle, hf, storeCells]
theorem app_room {t t2 ty e : TypeId} {i : TypeInfo} (ht : P.underlying t = some (.slice e)) (ht2 : T2 P t2) (hi : P.info? e = some i)
    {b o sLen sCap : Nat} {Ty : TypeId} {cur : Array Value} (hb : w.heap[b]? = some (.cells cur Ty (0, 0))) {x : Value} {m : Nat} {news : List Value} (hlen : (Builtin.lenOf x).run P w = .ok m w) (hf : ∀ w', w'.heap = w.heap → (Builtin.firstCells i.size m x).run P w' = .ok news.toArray w')
    (h1 : ∀ u ∈ news, u.oneCell' = true) (hroom : sLen + m ≤ sCap) (hfit : o + sLen * i.size + news.length ≤ cur.size) :
    (Builtin.append_ #[t, t2] ty #[.slice (some ⟨b, o, none⟩) sLen sCap, x]).run P w =
      .ok (.slice (some ⟨b, o, none⟩) (sLen + m) sCap) (w.setRow b (cur.toList.take (o + sLen * i.size) ++ news ++ cur.toList.drop (o + sLen * i.size + news.length)).toArray) := by
  have hf := hf w rfl
  have hst := run_storeCells_at P b (o + sLen * i.size) Ty news 0 cur w hb (by simpa using hfit) h1
  simp only [Nat.add_zero] at hst
  rcases ht2 with ⟨e2, he2⟩ | he2
  · simp [Builtin.append_, run_underlying ht, run_underlying he2, sizeOf, typeInfo, hi, hlen, hroom, hf, add0, hst]
  · simp [Builtin.append_, run_underlying ht, run_underlying he2, sizeOf, typeInfo, hi, hlen, hroom, hf, add0, hst]
end
section
variable {C : HC} {B : Base} {N : Nat} {g : Gh} {h : HS} {a : Act} {w : World} {T : Tab}
theorem R.drew (hR : R C B N g h a w) : R C B N g h a w.drew := by
  refine ⟨hR.size, hR.defs, hR.tm, fun s o hs => ?_, hR.new, hR.sep, hR.low, hR.out, ?_⟩
  · have := (hR.ob s o hs).ext .rfl (w' := w.drew) (fun _ _ => rfl)
    exact this
  · obtain ⟨f1, f2, f3, f4, f5, f6⟩ := hR.fr
    exact ⟨f1, ⟨f2.1, by first | exact f2.2 | exact Nat.le_trans f2.2 (Nat.le_succ _)⟩, f3, f4, f5, f6⟩
theorem R.rename (hR : R C B N g h a w) (hnm : h.n < h.m) {s : Nat} {o : HO} {G : GB} (hs : lk s h.objs = some o) (hG : g s = some G) (new : Array Value) (G' : GB) (hb : G'.b = G.b) (ho : HO) (hob : ObjAt (g.new h.n G') (w.setRow G.b new) h.n ho) :
    Ext g (g.new h.n G') ∧ R C B N (g.new h.n G') (newO { h with objs := delO s h.objs } ho) a (w.setRow G.b new) := by
  have he := Ext.new (hR.new.1 h.n (Nat.le_refl _) hnm) G'
  have hold : ∀ q p, lk q (newO { h with objs := delO s h.objs } ho).objs = some p → (q = h.n ∧ p = ho) ∨ (q ≠ h.n ∧ q ≠ s ∧ lk q h.objs = some p) := fun q p hq => by
    simp only [newO, lk] at hq
    split at hq
    · rename_i e; simp only [Option.some.injEq] at hq; exact .inl ⟨e.symm, hq.symm⟩
    · rename_i e
      rw [lk_delO] at hq
      split at hq
      · cases hq
      · rename_i hne; exact .inr ⟨fun e' => e e'.symm, hne, hq⟩
  refine ⟨he, hR.size, hR.defs, fun k x hk => ?_, fun q p hq => ?_, ⟨fun q h1 h2 => ?_, fun q hq => ?_⟩, fun q t p p' G1 G2 h1 h2 e1 e2 hbb => ?_, fun q G1 h1 => ?_, fun q p G1 hq h1 => ?_, ?_⟩
  · obtain ⟨u, h1, h2⟩ := hR.tm k x hk
    exact ⟨u, h1, VR.ext he _ _ h2⟩
  · rcases hold q p hq with ⟨rfl, rfl⟩ | ⟨_, hne, h1⟩
    · exact hob
    · exact (hR.ob q p h1).ext he (fun G1 hG1 => setRow_other w _ _ new (fun e => hne (hR.sep q s p o G1 G h1 hs hG1 hG e)))
  · have h1 : h.n + 1 ≤ q := h1
    have h2 : q < h.m := h2
    have : q ≠ h.n := by omega
    simp only [Gh.new, this, if_false]
    exact hR.new.1 q (by omega) h2
  · obtain ⟨q1, q2⟩ := hR.new.2 q hq
    have : q ≠ h.n := by omega
    simp only [Gh.new, this, if_false]
    exact ⟨q1, by simp only [newO]; omega⟩
  · rcases hold q p h1 with ⟨rfl, _⟩ | ⟨n1, hne, j1⟩ <;> rcases hold t p' h2 with ⟨rfl, _⟩ | ⟨n2, hne', j2⟩
    · rfl
    · exfalso
      rcases Gh.new_inv e1 with ⟨k1, _⟩ | ⟨_, rfl⟩
      · exact k1 rfl
      · rcases Gh.new_inv e2 with ⟨_, k2⟩ | ⟨k2, _⟩
        · exact hne' (hR.sep t s p' o G2 G j2 hs k2 hG (by rw [← hbb, hb]))
        · exact n2 k2
    · exfalso
      rcases Gh.new_inv e2 with ⟨k1, _⟩ | ⟨_, rfl⟩
      · exact k1 rfl
      · rcases Gh.new_inv e1 with ⟨_, k2⟩ | ⟨k2, _⟩
        · exact hne (hR.sep q s p o G1 G j1 hs k2 hG (by rw [hbb, hb]))
        · exact n1 k2
    · rcases Gh.new_inv e1 with ⟨_, k1⟩ | ⟨k1, _⟩
      · rcases Gh.new_inv e2 with ⟨_, k2⟩ | ⟨k2, _⟩
        · exact hR.sep q t p p' G1 G2 j1 j2 k1 k2 hbb
        · exact absurd k2 n2
      · exact absurd k1 n1
  · rw [setRow_size]
    rcases Gh.new_inv h1 with ⟨_, k1⟩ | ⟨_, rfl⟩
    · exact hR.low q G1 k1
    · rw [hb]; exact hR.low s G hG
  · rcases hold q p hq with ⟨rfl, _⟩ | ⟨n1, _, j1⟩
    · rcases Gh.new_inv h1 with ⟨k1, _⟩ | ⟨_, rfl⟩
      · exact absurd rfl k1
      · rw [hb]; exact hR.out s o G hs hG
    · rcases Gh.new_inv h1 with ⟨_, k1⟩ | ⟨k1, _⟩
      · exact hR.out q p G1 j1 k1
      · exact absurd k1 n1
  · obtain ⟨f1, f2, f3, f4, f5, f6⟩ := hR.fr
    refine ⟨f1, ⟨f2.1, f2.2⟩, f3, by rw [setRow_size]; exact f4, fun b hb' => ?_, f6⟩
    refine ⟨(f5 b hb').1, ?_⟩
    rw [setRow_other w _ _ new (fun e : b = G.b => hR.out s o G hs hG (by rw [← e]; exact hb'))]
    exact (f5 b hb').2
def moreH (objs : List (Nat × HO)) (n : Nat) (t2str : Bool) (y : HV) : Option (List HV) := if t2str then (match y with
    | .v (.string s) => if n == 1 then some (s.data.toList.map fun b => .v (.int .u8 b.toNat)) else none
    | _ => none) else srcH objs n y
def appendH (n : Nat) (t2str : Bool) (h : HS) (x y : HV) : Option (HV × HS) := match moreH h.objs n t2str y with
  | some [] => match x with
    | .v (.slice none 0 0) => some (x, h)
    | .bs _ _ _ _ _ => some (x, h)
    | .em => some (x, h)
    | _ => none
  | some (y1 :: ys) => let m := (y1 :: ys).length / n
    match x with
    | .v (.slice none 0 0) => if Nat.ble m 4294967296 && okCells (y1 :: ys) then some (.bs h.n 0 m n false, newO h (.cells (y1 :: ys))) else none
    | .bs s _ len sz full => match srcH h.objs n x with
      | some xs => if Nat.ble (len + m) 4294967296 && sz == n && okCells (y1 :: ys) then some (.bs h.n 0 (len + m) n false, newO (if full then h else { h with objs := delO s h.objs }) (.cells (xs ++ y1 :: ys))) else none
      | none => none
    | _ => none
  | none => none
theorem more_sound (hR : R C B N g h a w) {n : Nat} {b : Bool} {y : HV} {u : Value} {ys : List HV} (hy : VR g y u) (hs : moreH h.objs n b y = some ys) :
    ∃ (us : List Value) (m : Nat), VRs g ys us ∧ us.length = m * n ∧ (Builtin.lenOf u).run C.P w = .ok m w ∧ ∀ w', w'.heap = w.heap → (Builtin.firstCells n m u).run C.P w' = .ok us.toArray w' := by
  unfold moreH at hs
  split at hs
  · split at hs
    · rename_i s
      split at hs
      · rename_i hn
        simp only [beq_iff_eq] at hn
        subst hn
        simp only [Option.some.injEq] at hs; subst hs
        simp only [VR] at hy; subst hy
        refine ⟨s.data.toList.map fun b => .int .u8 b.toNat, s.size, ?_, ?_, by simp [Builtin.lenOf], fun w' _ => ?_⟩
        · have := VRs_map_v (g := g) (s.data.toList.map fun b => Value.int .u8 b.toNat)
          simpa [List.map_map, Function.comp_def] using this
        · rw [List.length_map, Array.length_toList, Nat.mul_one]; rfl
        · have e : s.extract 0 s.size = s := by simp
          simp only [Builtin.firstCells, e, Sem.run_pure]
          congr 1
          apply Array.ext'
          simp
      · cases hs
    · cases hs
  · exact src_sound hR hy hs
theorem append_sound (hR : R C B N g h a w) (hnm : h.n < h.m) {t t2 ty e n : Nat} {zs : List Value} {f : TypeInfo} {z : Value} (hr : RowOK C.P t e n zs f z) {b : Bool} (ht2 : T2 C.P t2) {x y r : HV} {ux uy : Value} (hx : VR g x ux) (hy : VR g y uy) {h' : HS}
    (ha : appendH n b h x y = some (r, h')) : ∃ u w' g', Ext g g' ∧ (Builtin.append_ #[t, t2] ty #[ux, uy]).run C.P w = .ok u w' ∧ R C B N g' h' a w' ∧ VR g' r u := by
  obtain ⟨hu, hs, hi, hz, hzz, rfl, hzl, hby, hn, hone⟩ := hr
  have hzs : z.cells.size = f.size := by rw [← hzl, hzz]; simp
  unfold appendH at ha
  split at ha
  · rename_i hm
    obtain ⟨us, m, k1, k2, k3, k4⟩ := more_sound hR hy hm
    have hus : us = [] := by
      cases us with
      | nil => rfl
      | cons _ _ => simp [VRs] at k1
    subst hus
    have hm0 : m = 0 := by
      rcases Nat.eq_zero_or_pos m with h0 | h0
      · exact h0
      · have := Nat.mul_pos h0 hn; simp at k2; omega
    subst hm0
    split at ha
    · simp only [Option.some.injEq, Prod.mk.injEq] at ha; obtain ⟨rfl, rfl⟩ := ha
      have hx' := hx
      simp only [VR] at hx'; subst hx'
      exact ⟨_, w, g, .rfl, app_same hu ht2 hi k3 k4 (Nat.le_refl 0), hR, by simp [VR]⟩
    · simp only [Option.some.injEq, Prod.mk.injEq] at ha; obtain ⟨rfl, rfl⟩ := ha
      have hx' := hx
      simp only [VR] at hx'; obtain ⟨G, cap, _, _, rfl, hle, _⟩ := hx'
      exact ⟨_, w, g, .rfl, app_same hu ht2 hi k3 k4 hle, hR, by simpa using hx⟩
    · simp only [Option.some.injEq, Prod.mk.injEq] at ha; obtain ⟨rfl, rfl⟩ := ha
      have hx' := hx
      simp only [VR] at hx'; obtain ⟨ad, cap, rfl, _⟩ := hx'
      exact ⟨_, w, g, .rfl, app_same hu ht2 hi k3 k4 (Nat.zero_le _), hR, by simpa using hx⟩
    · cases ha
  · rename_i y1 ys hm
    obtain ⟨us, m, k1, k2, k3, k4⟩ := more_sound hR hy hm
    have hyl := VRs.length k1
    have hmq : (y1 :: ys).length / f.size = m := by rw [hyl, k2]; exact Nat.mul_div_cancel m hn
    have hm0 : 0 < m := by
      rcases Nat.eq_zero_or_pos m with h0 | h0
      · subst h0; rw [Nat.zero_mul] at k2; rw [k2] at hyl; simp at hyl
      · exact h0
    dsimp only at ha
    rw [hmq] at ha
    have hcapge : ∀ need old, need ≤ grownCap w need old e := fun need old => grownCap_ge w _ old e
    have hcapm : ∀ need old, need ≤ 4294967296 → grownCap w need old e ≤ maxLen := fun need old h => grownCap_le_maxLen w _ old e (by simp only [maxLen]; omega)
    have mk : ∀ (h0 : HS) (_ : R C B N g h0 a w) (_ : h0.n < h0.m) (xs : List HV) (vs : List Value) (len cap0 : Nat) (base : Option Addr), VRs g xs vs → vs.length = len * f.size → len + m ≤ 4294967296 → cap0 < len + m →
        (∀ w', w'.heap = w.heap → (Builtin.firstCells f.size len (.slice base len cap0)).run C.P w' = .ok vs.toArray w') →
        ∃ u w' g', Ext g g' ∧ (Builtin.append_ #[t, t2] ty #[.slice base len cap0, uy]).run C.P w = .ok u w' ∧ R C B N g' (newO h0 (.cells (xs ++ y1 :: ys))) a w' ∧ VR g' (.bs h0.n 0 (len + m) f.size false) u := by
      intro h0 hR0 hnm0 xs vs len cap0 base hv hvl hlm hc hfo
      have hbytes : (len + m) * f.bytes ≤ 140737488355328 := by
        have : (len + m) * f.bytes ≤ 4294967296 * 32768 := Nat.mul_le_mul hlm (by omega)
        omega
      have hrun := app_new (ty := ty) hu ht2 hi hz hfo k3 k4 hc hbytes (by omega)
      have hcg := hcapge (len + m) cap0
      have hcm := hcapm (len + m) cap0 hlm
      generalize grownCap w (len + m) cap0 e = cap at hrun hcg hcm
      have hxl := VRs.length hv
      have hsz : (vs.toArray ++ us.toArray ++ Builtin.zeroCells z.cells (cap - (len + m))).size = cap * f.size := by
        simp only [Array.size_append, List.size_toArray, size_zeroCells, hzs, hvl, k2]
        rw [← Nat.add_mul, ← Nat.add_mul]
        congr 1; omega
      have hcl : (xs ++ y1 :: ys).length = (len + m) * f.size := by rw [List.length_append, hxl, hyl, hvl, k2, Nat.add_mul]
      obtain ⟨hext, q⟩ := (hR0.drew).newCells hnm0 (vs.toArray ++ us.toArray ++ Builtin.zeroCells z.cells (cap - (len + m))) e (cap * f.size) (xs ++ y1 :: ys) (by omega) (by rw [hcl]; exact Nat.mul_le_mul_right _ hcg) (by
        have e1 : (vs.toArray ++ us.toArray ++ Builtin.zeroCells z.cells (cap - (len + m))).toList.take (xs ++ y1 :: ys).length = vs ++ us := by
          have : (xs ++ y1 :: ys).length = (vs ++ us).length := by rw [hcl, List.length_append, hvl, k2, Nat.add_mul]
          rw [this]
          simp only [Array.toList_append, List.append_assoc]
          rw [← List.append_assoc, List.take_left']
          rfl
        rw [e1]; exact VRs.append hv k1)
      refine ⟨_, _, _, hext, hrun, q, ?_⟩
      simp only [VR]
      exact ⟨_, cap, Gh.new_self _ _ _, hn, rfl, hcg, hcm, by simp, fun hf => by cases hf⟩
    split at ha
    · split at ha
      · rename_i hc
        simp only [Bool.and_eq_true] at hc
        have hle := Nat.le_of_ble_eq_true hc.1
        simp only [Option.some.injEq, Prod.mk.injEq] at ha; obtain ⟨rfl, rfl⟩ := ha
        simp only [VR] at hx; subst hx
        have := mk h hR hnm [] [] 0 0 none (by simp [VRs]) (by simp) (by omega) (by omega) (fun w' _ => by simp [Builtin.firstCells])
        simpa using this
      · cases ha
    · rename_i s off len sz full
      split at ha
      · rename_i xs hxs
        split at ha
        · rename_i hc
          simp only [Bool.and_eq_true, beq_iff_eq] at hc
          obtain ⟨⟨hle, rfl⟩, hok⟩ := hc
          have hle := Nat.le_of_ble_eq_true hle
          simp only [Option.some.injEq, Prod.mk.injEq] at ha; obtain ⟨rfl, rfl⟩ := ha
          have hxs' := hxs
          unfold srcH at hxs'
          simp only [beq_self_eq_true, if_true] at hxs'
          split at hxs'
          · rename_i cs hcs
            split at hxs'
            · rename_i hle2
              have hle2 := Nat.le_of_ble_eq_true hle2
              simp only [Option.some.injEq] at hxs'
              obtain ⟨vs, len', q1, q2, q3, q4⟩ := src_sound hR hx hxs
              simp only [VR] at hx
              obtain ⟨G, cap, hG, _, rfl, hc1, hc2, hc3, hc4⟩ := hx
              have hlen' : len' = len := by
                simp only [Builtin.lenOf, Sem.run_pure, Result.ok.injEq] at q3; exact q3.1.symm
              subst hlen'
              by_cases hroom : len' + m ≤ cap
              · have hff : full = false := by
                  cases full with
                  | false => rfl
                  | true => have := hc4 rfl; omega
                subst hff
                obtain ⟨G', hG', cur, Ty, p1, p2, p3, p4⟩ := hR.ob s _ hcs
                rw [hG] at hG'; cases hG'
                have hmulr : (len' + m) * f.size ≤ cap * f.size := Nat.mul_le_mul_right _ hroom
                rw [Nat.add_mul] at hmulr
                have hrun := app_room (ty := ty) (o := G.o + off) (sCap := cap) hu ht2 hi p1 k3 k4 (okCells_one hok k1) hroom (by omega)
                have hv2 : VRs g xs ((cur.toList.drop (G.o + off)).take (len' * f.size)) := by
                  rw [← hxs']
                  have := VRs.take (len' * f.size) (VRs.drop off p4)
                  rw [List.drop_take, List.drop_drop, List.take_take, Nat.min_eq_left (by omega)] at this
                  exact this
                generalize hnew : (cur.toList.take (G.o + off + len' * f.size) ++ us ++ cur.toList.drop (G.o + off + len' * f.size + us.length)).toArray = new at hrun
                have hnsz : new.size = cur.size := by
                  rw [← hnew]; simp only [List.size_toArray, List.length_append, List.length_take, List.length_drop, Array.length_toList]; omega
                have hxl := VRs.length hv2
                have hxl' : xs.length = len' * f.size := by rw [hxl]; simp; omega
                have hcells : (new.toList.drop (G.o + off)).take (xs ++ y1 :: ys).length = (cur.toList.drop (G.o + off)).take (len' * f.size) ++ us := by
                  rw [List.length_append, hxl', hyl]
                  have : new.toList = cur.toList.take (G.o + off + len' * f.size) ++ us ++ cur.toList.drop (G.o + off + len' * f.size + us.length) := by rw [← hnew]
                  rw [this]
                  apply List.ext_getElem?
                  intro q
                  simp only [List.getElem?_take, List.getElem?_drop, List.getElem?_append, List.length_append, List.length_take, List.length_drop, Array.length_toList]
                  rw [Nat.min_eq_left (by omega : G.o + off + len' * f.size ≤ cur.size), Nat.min_eq_left (by omega : len' * f.size ≤ cur.size - (G.o + off))]
                  by_cases h1 : q < len' * f.size
                  · simp only [show q < len' * f.size + us.length by omega, show G.o + off + q < G.o + off + len' * f.size + us.length by omega, show G.o + off + q < G.o + off + len' * f.size by omega, h1, if_true]
                  · by_cases h2 : q < len' * f.size + us.length
                    · simp only [h2, show G.o + off + q < G.o + off + len' * f.size + us.length by omega, show ¬ G.o + off + q < G.o + off + len' * f.size by omega, h1, if_true, if_false]
                      congr 1; omega
                    · simp only [h2, h1, if_false]
                      rw [List.getElem?_eq_none (by omega)]
                obtain ⟨hext, q⟩ := hR.rename hnm hcs hG new ⟨G.b, G.o + off, cap * f.size⟩ rfl (.cells (xs ++ y1 :: ys)) ⟨_, Gh.new_self _ _ _, new, Ty, setRow_heap w _ cur new Ty _ p1, by simp only; omega, by simp only [List.length_append]; rw [hxl', hyl, k2]; omega, by
                  rw [hcells]; exact VRs.append (VRs.ext (Ext.new (hR.new.1 h.n (Nat.le_refl _) hnm) _) _ _ hv2) (VRs.ext (Ext.new (hR.new.1 h.n (Nat.le_refl _) hnm) _) _ _ k1)⟩
                refine ⟨_, _, _, hext, hrun, q, ?_⟩
                simp only [VR]
                exact ⟨_, cap, Gh.new_self _ _ _, hn, by simp, hroom, hc2, by simp, fun hf => by cases hf⟩
              · have hR' : R C B N g (if full = true then h else { h with objs := delO s h.objs }) a w := by
                  cases full with
                  | true => simpa using hR
                  | false => simpa using hR.del s
                have hn' : (if full = true then h else { h with objs := delO s h.objs }).n = h.n := by cases full <;> rfl
                have hnm' : (if full = true then h else { h with objs := delO s h.objs }).n < (if full = true then h else { h with objs := delO s h.objs }).m := by cases full <;> exact hnm
                have := mk _ hR' hnm' xs vs len' cap _ q1 q2 hle (by omega) (fun w' hw' => q4 w' hw')
                rwa [hn'] at this
            · cases hxs'
          · cases hxs'
        · cases ha
      · cases ha
    · cases ha
  · cases ha
end
end Go.H
namespace Go.H
open Go.Abs (lk Does does_pure szOf aggOf zeroOf structEq strT intT)
section
variable {C : HC} {B : Base} {N : Nat} {g : Gh} {h : HS} {a : Act} {w : World} {T : Tab}
theorem src_first (hR : R C B N g h a w) {n : Nat} {x : HV} {u : Value} {cs : List HV} (hx : VR g x u) (hs : srcH h.objs n x = some cs) :
    ∃ (us : List Value) (m : Nat) (ad : Option Addr) (cap : Nat), VRs g cs us ∧ us.length = m * n ∧ u = .slice ad m cap ∧ (ad = none → m = 0) ∧ ∀ k, k ≤ m → (Builtin.firstCells n k u).run C.P w = .ok (us.take (k * n)).toArray w := by
  unfold srcH at hs
  split at hs
  · simp only [Option.some.injEq] at hs; subst hs
    simp only [VR] at hx; subst hx
    exact ⟨[], 0, none, 0, by simp [VRs], by simp, rfl, fun _ => rfl, fun k hk => by simp [Builtin.firstCells]⟩
  · simp only [Option.some.injEq] at hs; subst hs
    simp only [VR] at hx
    obtain ⟨ad, cap, rfl, _⟩ := hx
    exact ⟨[], 0, some ad, cap, by simp [VRs], by simp, rfl, fun _ => rfl, fun k hk => by
      have : k = 0 := by omega
      subst this
      have := run_firstCells_some (P := C.P) w n 0 ad 0 cap [] (by simp) (by simp)
      simpa using this⟩
  · rename_i s off len sz full
    split at hs
    · rename_i hsz
      simp only [beq_iff_eq] at hsz
      subst hsz
      split at hs
      · rename_i cs' hcs
        split at hs
        · rename_i hle
          have hle := Nat.le_of_ble_eq_true hle
          simp only [Option.some.injEq] at hs; subst hs
          simp only [VR] at hx
          obtain ⟨G, cap, hG, h0, rfl, _⟩ := hx
          obtain ⟨us, k1, k2⟩ := boxCells (hR.ob s _ hcs) hG off
          have hl := VRs.length k1
          simp only [List.length_drop] at hl
          refine ⟨us.take (len * sz), len, some ⟨G.b, G.o + off, none⟩, cap, VRs.take _ k1, by simp; omega, rfl, (fun h => by cases h), fun k hk => ?_⟩
          have hkk : k * sz ≤ len * sz := Nat.mul_le_mul_right _ hk
          rw [List.take_take, Nat.min_eq_left hkk]
          refine run_firstCells_some (P := C.P) w sz k _ len cap _ (by simp; omega) fun j v hv => ?_
          rw [List.getElem?_take] at hv
          split at hv
          · exact k2 j v hv
          · cases hv
        · cases hs
      · cases hs
    · cases hs
  · cases hs
def copyH (n : Nat) (h : HS) (x y : HV) : Option (HV × HS) := match srcH h.objs n y with
  | some ys => match x with
    | .bs s off len sz _ => match lk s h.objs with
      | some (.cells cs) =>
        let m := min (ys.length / n) len
        if sz == n && Nat.ble (off + m * n) cs.length && okCells (ys.take (m * n)) then some (.v (.int .i64 m), { h with objs := updO s (.cells (cutH cs off (ys.take (m * n)))) h.objs }) else none
      | _ => none
    | .em => some (.v (.int .i64 0), h)
    | .v (.slice none 0 0) => some (.v (.int .i64 0), h)
    | _ => none
  | none => none
theorem okCells_take : ∀ (n : Nat) (cs : List HV), okCells cs = true → okCells (cs.take n) = true
  | 0, _, _ => by simp [okCells]
  | _ + 1, [], _ => by simp [okCells]
  | n + 1, c :: cs, h => by simp only [okCells, Bool.and_eq_true] at h; simp only [List.take_succ_cons, okCells, Bool.and_eq_true]; exact ⟨h.1, okCells_take n cs h.2⟩
theorem copy_sound (hR : R C B N g h a w) {t t2 ty e n : Nat} {zs : List Value} {f : TypeInfo} {z : Value} (hr : RowOK C.P t e n zs f z) {x y r : HV} {ux uy : Value} (hx : VR g x ux) (hy : VR g y uy) {h' : HS}
    (ha : copyH n h x y = some (r, h')) : ∃ u w' g', Ext g g' ∧ (Builtin.copy_ #[t, t2] ty #[ux, uy]).run C.P w = .ok u w' ∧ R C B N g' h' a w' ∧ VR g' r u := by
  obtain ⟨hu, hs, hi, hz, hzz, hsz, hzl, hby, hn, hone⟩ := hr
  unfold copyH at ha
  split at ha
  · rename_i ys hys
    obtain ⟨us, m, ad, cap, k1, k2, rfl, k3, k4⟩ := src_first hR hy hys
    split at ha
    · rename_i s off len sz full
      split at ha
      · rename_i cs hcs
        dsimp only at ha
        split at ha
        · rename_i hc
          simp only [Bool.and_eq_true, beq_iff_eq] at hc
          obtain ⟨⟨rfl, hle⟩, hok⟩ := hc
          have hle := Nat.le_of_ble_eq_true hle
          simp only [Option.some.injEq, Prod.mk.injEq] at ha; obtain ⟨rfl, rfl⟩ := ha
          have hyl := VRs.length k1
          have hmq : ys.length / sz = m := by rw [hyl, k2]; exact Nat.mul_div_cancel m hn
          rw [hmq] at hle hok ⊢
          simp only [VR] at hx
          obtain ⟨G, cap', hG, _, rfl, hc1, hc2, hc3, hc4⟩ := hx
          obtain ⟨G', hG', cur, Ty, p1, p2, p3, p4⟩ := hR.ob s _ hcs
          rw [hG] at hG'; cases hG'
          have hmin : Nat.min m len = min m len := rfl
          have hmm : min m len * sz ≤ m * sz := Nat.mul_le_mul_right _ (Nat.min_le_left _ _)
          have hvt := VRs.take (min m len * sz) k1
          have hlt : (us.take (min m len * sz)).length = min m len * sz := by simp; omega
          have hylt : (ys.take (min m len * sz)).length = min m len * sz := by simp; omega
          have hst := run_storeCells_at C.P G.b (G.o + off) Ty (us.take (min m len * sz)) 0 cur w p1 (by rw [hlt]; omega) (okCells_one hok hvt)
          simp only [Nat.add_zero] at hst
          have hrun : (Builtin.copy_ #[t, t2] ty #[.slice (some ⟨G.b, G.o + off, none⟩) len cap', .slice ad m cap]).run C.P w = .ok (.int .i64 (min m len : Nat)) (w.setRow G.b (cur.toList.take (G.o + off) ++ us.take (min m len * sz) ++ cur.toList.drop (G.o + off + (us.take (min m len * sz)).length)).toArray) := by
            simp only [List.length_take] at hst ⊢
            simp [Builtin.copy_, run_underlying hu, Builtin.lenOf, Abs.run_sizeOf hs, hmin, k4 _ (Nat.min_le_left _ _), goInt]
            simp only [List.append_assoc] at hst
            rw [hst]; rfl
          have q := hR.storeAt (off := off) hcs hG p1 hvt (by rw [hylt]; exact hle)
          exact ⟨_, _, g, .rfl, hrun, q, by simp [VR]⟩
        · cases ha
      · cases ha
    · simp only [Option.some.injEq, Prod.mk.injEq] at ha; obtain ⟨rfl, rfl⟩ := ha
      simp only [VR] at hx
      obtain ⟨ad', cap', rfl, _⟩ := hx
      have hm0 : Nat.min m 0 = 0 := Nat.min_zero m
      refine ⟨.int .i64 0, w, g, .rfl, ?_, hR, by simp [VR]⟩
      simp [Builtin.copy_, run_underlying hu, Builtin.lenOf, Abs.run_sizeOf hs, hm0, k4 0 (Nat.zero_le _), goInt, storeCells]
    · simp only [Option.some.injEq, Prod.mk.injEq] at ha; obtain ⟨rfl, rfl⟩ := ha
      simp only [VR] at hx
      subst hx
      have hm0 : Nat.min m 0 = 0 := Nat.min_zero m
      refine ⟨.int .i64 0, w, g, .rfl, ?_, hR, by simp [VR]⟩
      simp [Builtin.copy_, run_underlying hu, Builtin.lenOf, Abs.run_sizeOf hs, hm0, k4 0 (Nat.zero_le _), goInt]
    · cases ha
  · cases ha
end
end Go.H
namespace Go.H
open Go.Abs (lk Does does_pure szOf aggOf zeroOf structEq strT intT)
def keysA : List HV → List Abs.AV
  | k :: _ :: l => (toA k).getD .undef :: .undef :: keysA l
  | _ => []
def ofA2 : Abs.AV → Option HV
  | .v x => some (.v x)
  | .agg cs => (Abs.valsOf cs).map fun us => .agg (valsH us)
  | _ => none
def findH (b : Bool) (ks : List Nat) (es : List HV) (k : HV) : Option (List Value × Option Nat) := match (toA k).bind (Abs.keyVals b) with
  | some us => if (Abs.eqVals ks us us).isSome then (Abs.findM b ks us (keysA es)).map fun r => (us, r.map (·.1)) else none
  | none => none
def lookupH (P : Program) (T : Tab) (t : TypeId) (ok : Bool) (objs : List (Nat × HO)) (x k : HV) : Option HV := match T t, x with
  | some ⟨.map _ b ks e, _, _, _⟩, .mp s => match lk s objs with
    | some (.map es) => match findH b ks es k with
      | some (_, some j) => match es[2 * j + 1]? with
        | some v => some (if ok then .tup [v, .v (.bool true)] else v)
        | none => none
      | some (_, none) => match (Abs.zeroM P e).bind ofA2 with
        | some z => some (if ok then .tup [z, .v (.bool false)] else z)
        | none => none
      | none => none
    | _ => none
  | _, _ => none
def insertH (T : Tab) (t : TypeId) (h : HS) (x k v : HV) : Option HS := match T t, x with
  | some ⟨.map _ b ks _, _, _, _⟩, .mp s => match lk s h.objs with
    | some (.map es) => match findH b ks es k with
      | some (_, none) => some { h with objs := updO s (.map (es ++ [k, v])) h.objs }
      | _ => none
    | _ => none
  | _, _ => none
section
variable {C : HC} {B : Base} {N : Nat} {g : Gh} {h : HS} {a : Act} {w : World} {T : Tab} {P : Program}
theorem keysA_VRs : ∀ {cs : List HV} {es : List MapEntry}, VRs g cs (Abs.flatE es) → Abs.VRs g00 w (keysA cs) (Abs.flatE es)
  | [], [], _ => by simp [keysA, Abs.flatE, Abs.VRs]
  | [], _ :: _, h => by simp [Abs.flatE, VRs] at h
  | _ :: _, [], h => by simp [Abs.flatE, VRs] at h
  | [_], _ :: _, h => by simp [Abs.flatE, VRs] at h
  | k :: v :: cs, e :: es, h => by
    simp only [Abs.flatE, VRs] at h
    simp only [keysA, Abs.flatE, Abs.VRs]
    refine ⟨?_, by simp [Abs.VR], keysA_VRs h.2.2⟩
    cases hk : toA k with
    | none => simp [Abs.VR]
    | some y => simpa using toA_VR h.1 hk
theorem flatE_get : ∀ (es : List MapEntry) (j : Nat) (e : MapEntry), es[j]? = some e → (Abs.flatE es)[2 * j]? = some e.key ∧ (Abs.flatE es)[2 * j + 1]? = some e.val
  | [], j, e, h => by simp at h
  | e0 :: es, 0, e, h => by simp at h; subst h; simp [Abs.flatE]
  | e0 :: es, j + 1, e, h => by
    simp at h
    have := flatE_get es j e h
    simpa [Abs.flatE, Nat.mul_add, Nat.add_right_comm] using this
theorem ofA2_VR {y : Abs.AV} {u : Value} {z : HV} (hv : Abs.VR g00 w y u) (h : ofA2 y = some z) : VR g z u := by
  unfold ofA2 at h
  split at h
  · simp only [Option.some.injEq] at h; subst h; simp only [Abs.VR] at hv; simp only [VR]; exact hv
  · rename_i cs
    obtain ⟨us, hu, rfl⟩ := Option.map_eq_some_iff.1 h
    simp only [Abs.VR] at hv
    obtain ⟨vs, rfl, hvs⟩ := hv
    simp only [VR]
    refine ⟨vs, rfl, ?_⟩
    have key : ∀ (cs : List Abs.AV) (us vs : List Value), Abs.valsOf cs = some us → Abs.VRs g00 w cs vs → us = vs := by
      intro cs
      induction cs with
      | nil => intro us vs h1 h2; cases vs with
        | nil => simp [Abs.valsOf] at h1; exact h1
        | cons _ _ => simp [Abs.VRs] at h2
      | cons c cs ih => intro us vs h1 h2; cases vs with
        | nil => simp [Abs.VRs] at h2
        | cons v vs =>
          cases c <;> simp only [Abs.valsOf, reduceCtorEq] at h1
          obtain ⟨l, h3, rfl⟩ := Option.map_eq_some_iff.1 h1
          simp only [Abs.VRs, Abs.VR] at h2
          rw [ih l vs h3 h2.2, h2.1]
    rw [key cs us vs.toList hu hvs]
    exact VRs_valsH _
  · cases h
theorem find_sound {t kt e : TypeId} {b : Bool} {ks : List Nat} (hm : Abs.mapT P t = some (kt, b, ks, e)) {es : List HV} {k : HV} {us : List Value} {r : Option Nat} (hf : findH b ks es k = some (us, r)) {uk : Value} (hk : VR g k uk) {ms : Array MapEntry} (hv : VRs g es (Abs.flatE ms.toList)) (em : Bool) :
    (Instr.checkKey em 10000 kt uk).run P w = .ok () w ∧ (match r with
      | none => (Instr.findKey kt uk ms.toList).run P w = .ok none w
      | some j => ∃ e', ms[j]? = some e' ∧ (Instr.findKey kt uk ms.toList).run P w = .ok (some (j, e'.val)) w) := by
  unfold findH at hf
  split at hf
  · rename_i us' hus
    obtain ⟨k', hk', hus⟩ := Option.bind_eq_some_iff.1 hus
    split at hf
    · rename_i hself
      obtain ⟨r', hr', hrr⟩ := Option.map_eq_some_iff.1 hf
      simp only [Prod.mk.injEq] at hrr
      obtain ⟨rfl, rfl⟩ := hrr
      obtain ⟨h1, h2⟩ := Abs.mapT_spec hm
      obtain rfl := Abs.keyVals_spec (g := g00) (w := w) hus (toA_VR hk hk')
      obtain ⟨r0, hr0⟩ := Option.isSome_iff_exists.1 hself
      have hck := Abs.checkKey_plain (P := P) (w := w) em 20 10000 kt ks b us' r0 (by omega) (Abs.keyT_spec h2).2 (Abs.keyT_spec h2).1 hr0
      have hkv := keysA_VRs (w := w) hv
      have hfk := Abs.run_findKey h2 hself _ ms.toList _ hr' hkv
      have hs := Abs.findM_sound h2 _ ms.toList 0 _ hr' hkv
      refine ⟨hck, ?_⟩
      cases r' with
      | none => have := hs.1 rfl; simp only [Option.map_none]; rw [hfk]; exact this
      | some p =>
        obtain ⟨j, v⟩ := p
        obtain ⟨e', m1, m2, _⟩ := hs.2 j v rfl
        simp only [Option.map_some]
        refine ⟨e', by simpa using m1, ?_⟩
        rw [hfk, m2]; simp
    · cases hf
  · cases hf
theorem lookup_sound (hT : T.OK C.P) (hR : R C B N g h a w) {t : TypeId} {ok : Bool} {x k z : HV} {ux uk : Value} (hx : VR g x ux) (hk : VR g k uk) (hz : lookupH C.P T t ok h.objs x k = some z) :
    ∃ u, (Instr.lookup t ux uk ok).run C.P w = .ok u w ∧ VR g z u := by
  unfold lookupH at hz
  split at hz
  · rename_i kt b ks e sz z' q s hTt
    have hkd := (hT t _ hTt).kind
    simp only [Kind] at hkd
    obtain ⟨_, hm⟩ := hkd
    obtain ⟨h1, h2⟩ := Abs.mapT_spec hm
    split at hz
    · rename_i es hs
      simp only [VR] at hx
      obtain ⟨G, hG, rfl⟩ := hx
      obtain ⟨G', hG', ms, clk, j1, j2, j3, j4⟩ := hR.ob s _ hs
      rw [hG] at hG'; cases hG'
      split at hz
      · rename_i us j hf
        obtain ⟨hck, e', m1, m2⟩ := find_sound (w := w) hm hf hk j2 ms.isEmpty
        split at hz
        · rename_i v hv
          simp only [Option.some.injEq] at hz; subst hz
          obtain ⟨u, n1, n2⟩ := VRs.get j2 _ v hv
          have n3 := (flatE_get ms.toList j e' (by simpa using m1)).2
          rw [n3] at n1; cases n1
          cases ok with
          | false => exact ⟨e'.val, by simp [Instr.lookup, run_underlying h1, MapKept.run_getObj_map j1, hck, m2], by simpa using n2⟩
          | true => exact ⟨.tuple #[e'.val, .bool true], by simp [Instr.lookup, run_underlying h1, MapKept.run_getObj_map j1, hck, m2], by simp only [if_true, VR]; exact ⟨_, rfl, by simp [VRs, VR, n2]⟩⟩
        · cases hz
      · rename_i us hf
        obtain ⟨hck, m2⟩ := find_sound (w := w) hm hf hk j2 ms.isEmpty
        split at hz
        · rename_i zh hzh
          obtain ⟨y, y1, y2⟩ := Option.bind_eq_some_iff.1 hzh
          obtain ⟨zv, z1, z2⟩ := Abs.zeroM_sound (g := g00) (w := w) y1
          simp only [Option.some.injEq] at hz; subst hz
          cases ok with
          | false => exact ⟨zv, by simp [Instr.lookup, run_underlying h1, MapKept.run_getObj_map j1, hck, m2, z1], by simpa using ofA2_VR z2 y2⟩
          | true => exact ⟨.tuple #[zv, .bool false], by simp [Instr.lookup, run_underlying h1, MapKept.run_getObj_map j1, hck, m2, z1], by simp only [if_true, VR]; exact ⟨_, rfl, by simp [VRs, VR, ofA2_VR z2 y2]⟩⟩
        · cases hz
      · cases hz
    · cases hz
  · cases hz
theorem R.setMap (hR : R C B N g h a w) {s : Nat} {o : HO} {G : GB} (hs : lk s h.objs = some o) (hG : g s = some G) (ob ob' : Obj) (hb : w.heap[G.b]? = some ob) (o' : HO) (hob : ObjAt g { w with heap := w.heap.setIfInBounds G.b ob' } s o') :
    R C B N g { h with objs := updO s o' h.objs } a { w with heap := w.heap.setIfInBounds G.b ob' } := by
  obtain ⟨_, hold⟩ := MapKept.heap_set (o' := ob') hb
  have hk : ∀ q p, lk q (updO s o' h.objs) = some p → (q = s ∧ p = o') ∨ (q ≠ s ∧ lk q h.objs = some p) := fun q p hq => by
    rw [lk_updO] at hq
    split at hq
    · rename_i e; subst e; rw [hs] at hq; simp at hq; exact .inl ⟨rfl, hq.symm⟩
    · rename_i e; exact .inr ⟨e, hq⟩
  have hk' : ∀ q p, lk q (updO s o' h.objs) = some p → ∃ p', lk q h.objs = some p' := fun q p hq => by
    rcases hk q p hq with ⟨rfl, _⟩ | ⟨_, h1⟩
    · exact ⟨_, hs⟩
    · exact ⟨_, h1⟩
  have hsz : ({ w with heap := w.heap.setIfInBounds G.b ob' } : World).heap.size = w.heap.size := by simp
  refine ⟨hR.size, hR.defs, hR.tm, fun q p hq => ?_, hR.new, fun q t p p' G1 G2 h1 h2 => ?_, fun q G1 h1 => ?_, fun q p G1 hq => ?_, ?_⟩
  · rcases hk q p hq with ⟨rfl, rfl⟩ | ⟨hne, h1⟩
    · exact hob
    · have := (hR.ob q p h1).ext .rfl (w' := { w with heap := w.heap.setIfInBounds G.b ob' }) (fun G1 hG1 => hold _ (fun e => hne (hR.sep q s p o G1 G h1 hs hG1 hG e)))
      exact this
  · obtain ⟨_, j1⟩ := hk' q p h1
    obtain ⟨_, j2⟩ := hk' t p' h2
    exact hR.sep q t _ _ G1 G2 j1 j2
  · rw [hsz]; exact hR.low q G1 h1
  · obtain ⟨_, j1⟩ := hk' q p hq
    exact hR.out q _ G1 j1
  · obtain ⟨f1, f2, f3, f4, f5, f6⟩ := hR.fr
    refine ⟨f1, ⟨f2.1, f2.2⟩, f3, by rw [hsz]; exact f4, fun b hb' => ?_, f6⟩
    exact ⟨(f5 b hb').1, (hold b (fun e : b = G.b => hR.out s o G hs hG (by rw [← e]; exact hb'))).trans (f5 b hb').2⟩
theorem insert_sound (hT : T.OK C.P) (hR : R C B N g h a w) {t : TypeId} {x k v : HV} {ux uk uv : Value} (hx : VR g x ux) (hk : VR g k uk) (hv : VR g v uv) {h' : HS} (hz : insertH T t h x k v = some h') :
    ∃ w', (Instr.mapUpdate t ux uk uv).run C.P w = .ok () w' ∧ R C B N g h' a w' := by
  unfold insertH at hz
  split at hz
  · rename_i kt b ks e sz z' q s hTt
    have hkd := (hT t _ hTt).kind
    simp only [Kind] at hkd
    obtain ⟨_, hm⟩ := hkd
    obtain ⟨h1, h2⟩ := Abs.mapT_spec hm
    split at hz
    · rename_i es hs
      simp only [VR] at hx
      obtain ⟨G, hG, rfl⟩ := hx
      obtain ⟨G', hG', ms, clk, j1, j2, j3, j4⟩ := hR.ob s _ hs
      rw [hG] at hG'; cases hG'
      split at hz
      · rename_i us hf
        obtain ⟨hck, m2⟩ := find_sound (w := w) hm hf hk j2 false
        simp only [Option.some.injEq] at hz; subst hz
        have hrun : (Instr.mapUpdate t (.map (some G.b)) uk uv).run C.P w = .ok () { w with heap := w.heap.setIfInBounds G.b (.map (ms.push { key := uk, val := uv, born := clk }) (clk + 1)) } := by
          simp [Instr.mapUpdate, run_underlying h1, MapKept.run_getObj_map j1, hck, m2, MapKept.run_setObj_map _ j1]
        refine ⟨_, hrun, hR.setMap hs hG _ _ j1 _ ⟨G, hG, _, _, (MapKept.heap_set j1).1, ?_, by simp [j3], fun i e' he => ?_⟩⟩
        · simp only [Array.toList_push, Abs.flatE_append, Abs.flatE]
          exact VRs.append j2 (by simp only [VRs]; exact ⟨hk, hv, trivial⟩)
        · rw [Array.getElem?_push] at he
          split at he
          · rename_i hi; cases he; simp; omega
          · exact j4 i e' he
      · cases hz
    · cases hz
  · cases hz
def rangeH (h : HS) (x : HV) : Option (HV × HS) := match x with
  | .v (.map none) => some (.it h.n, newO h (.iter none 0 0 []))
  | .mp s => match lk s h.objs with
    | some (.map es) => some (.it h.n, newO h (.iter (some s) (es.length / 2) (es.length / 2) []))
    | _ => none
  | _ => none
def leftH (n : Nat) (seen : List Nat) : List Nat := (List.range n).filter fun i => !seen.contains i
def nextH (h : HS) (x : HV) : Option (HV × HS) := match x with
  | .it s => match lk s h.objs with
    | some (.iter none _ _ _) => some (.tup [.v (.bool false)], h)
    | some (.iter (some q) since last seen) => match lk q h.objs with
      | some (.map es) => let n := es.length / 2
        if since == n && last == n then match leftH n seen with
          | [] => some (.tup [.v (.bool false)], h)
          | [i] => match es[2 * i]?, es[2 * i + 1]? with
            | some k, some v => some (.tup [.v (.bool true), k, v], { h with objs := updO s (.iter (some q) since last (seen ++ [i])) h.objs })
            | _, _ => none
          | _ => none
        else none
      | _ => none
    | _ => none
  | _ => none
def entryH (h : HS) (x : HV) : Option HV := match x with
  | .it s => match lk s h.objs with
    | some (.seen q n i) => match lk q h.objs with
      | some (.map es) => if n == es.length / 2 then match es[2 * i]?, es[2 * i + 1]? with
        | some k, some v => some (.tup [k, v])
        | _, _ => none else none
      | _ => none
    | some (.iter (some q) _ last seen) => match seen.getLast?, lk q h.objs with
      | some i, some (.map es) => if last == es.length / 2 then match es[2 * i]?, es[2 * i + 1]? with
        | some k, some v => some (.tup [k, v])
        | _, _ => none else none
      | _, _ => none
    | _ => none
  | _ => none
theorem mapLen {es : List HV} {ms : Array MapEntry} (h : VRs g es (Abs.flatE ms.toList)) : es.length / 2 = ms.size := by
  have := VRs.length h
  rw [flatE_length] at this
  simp at this; omega
theorem range_sound (hR : R C B N g h a w) (hnm : h.n < h.m) {t kt e : TypeId} (ht : C.P.underlying t = some (.map kt e)) {x z : HV} {ux : Value} (hx : VR g x ux) {h' : HS} (hz : rangeH h x = some (z, h')) :
    ∃ u w' g', Ext g g' ∧ (Instr.range t ux).run C.P w = .ok u w' ∧ R C B N g' h' a w' ∧ VR g' z u := by
  unfold rangeH at hz
  split at hz
  · simp only [Option.some.injEq, Prod.mk.injEq] at hz; obtain ⟨rfl, rfl⟩ := hz
    simp only [VR] at hx; subst hx
    obtain ⟨hext, q⟩ := hR.alloc hnm (.mapIter none 0 #[] 0) (.iter none 0 0 []) 0 ⟨_, Gh.new_self _ _ _, none, #[], heap_alloc_new w _, rfl, rfl⟩
    refine ⟨.pointer (some ⟨w.heap.size, 0, none⟩), w.alloc (.mapIter none 0 #[] 0), _, hext, ?_, q, ?_⟩
    · simp [Instr.range, run_underlying ht, newObj]; rfl
    · simp only [VR]; exact ⟨_, Gh.new_self _ _ _, rfl⟩
  · rename_i s
    split at hz
    · rename_i es hs
      simp only [Option.some.injEq, Prod.mk.injEq] at hz; obtain ⟨rfl, rfl⟩ := hz
      simp only [VR] at hx
      obtain ⟨G, hG, rfl⟩ := hx
      obtain ⟨G', hG', ms, clk, j1, j2, rfl, j4⟩ := hR.ob s _ hs
      rw [hG] at hG'; cases hG'
      have hl := mapLen j2
      obtain ⟨hext, q⟩ := hR.alloc hnm (.mapIter (some G.b) ms.size #[] ms.size) (.iter (some s) (es.length / 2) (es.length / 2) []) 0 ⟨_, Gh.new_self _ _ _, some G.b, #[], by rw [hl]; exact heap_alloc_new w _, rfl, G, Ext.new (hR.new.1 h.n (Nat.le_refl _) hnm) _ _ _ hG, rfl⟩
      refine ⟨.pointer (some ⟨w.heap.size, 0, none⟩), w.alloc (.mapIter (some G.b) ms.size #[] ms.size), _, hext, ?_, q, ?_⟩
      · simp [Instr.range, run_underlying ht, MapKept.run_getObj_map j1, newObj]; rfl
      · simp only [VR]; exact ⟨_, Gh.new_self _ _ _, rfl⟩
    · cases hz
  · cases hz
end
end Go.H
namespace Go.H
open Go.Abs (lk Does does_pure szOf aggOf zeroOf structEq strT intT)
section
variable {C : HC} {B : Base} {N : Nat} {g : Gh} {h : HS} {a : Act} {w : World} {T : Tab} {P : Program}
theorem born_range {ms : Array MapEntry} (hb : ∀ (i : Nat) (e : MapEntry), ms[i]? = some e → e.born = i) : ms.toList.map (·.born) = List.range ms.size := by
  apply List.ext_getElem?
  intro i
  rw [List.getElem?_map, Array.getElem?_toList]
  by_cases hi : i < ms.size
  · rw [List.getElem?_range hi]
    have e := Array.getElem?_eq_getElem hi
    rw [e]; simp [hb i _ e]
  · rw [List.getElem?_eq_none (by simp; omega), Array.getElem?_eq_none (by omega)]; rfl
theorem left_filter {ms : Array MapEntry} (hb : ∀ (i : Nat) (e : MapEntry), ms[i]? = some e → e.born = i) (sn : Array Nat) : (ms.toList.filter fun e => !sn.contains e.born).map (·.born) = leftH ms.size sn.toList := by
  have : (fun e : MapEntry => !sn.contains e.born) = (fun i => !sn.toList.contains i) ∘ (·.born) := by
    funext e; simp [Array.contains_toList]
  rw [this, ← List.filter_map, born_range hb]
  rfl
theorem next_sound (hR : R C B N g h a w) {x z : HV} {ux : Value} {ty : TypeId} (hx : VR g x ux) {h' : HS} (hz : nextH h x = some (z, h')) :
    ∃ u w' g', Ext g g' ∧ (Instr.next ux false ty).run C.P w = .ok u w' ∧ R C B N g' h' a w' ∧ VR g' z u := by
  unfold nextH at hz
  split at hz
  · rename_i s
    simp only [VR] at hx
    obtain ⟨G, hG, rfl⟩ := hx
    split at hz
    · rename_i si la se hs
      simp only [Option.some.injEq, Prod.mk.injEq] at hz; obtain ⟨rfl, rfl⟩ := hz
      obtain ⟨G', hG', mr, sn, j1, j2, j3⟩ := hR.ob s _ hs
      rw [hG] at hG'; cases hG'
      subst j3
      refine ⟨.tuple #[.bool false], w, g, .rfl, ?_, hR, by simp [VR, VRs]⟩
      have : (getObj G.b).run C.P w = .ok (.mapIter none si sn la) w := by simp [getObj, Sem.run, j1]
      simp [Instr.next, this]
    · rename_i q si la se hs
      obtain ⟨G', hG', mr, sn, j1, rfl, G2, hG2, rfl⟩ := hR.ob s _ hs
      rw [hG] at hG'; cases hG'
      have r1 : (getObj G.b).run C.P w = .ok (.mapIter (some G2.b) si sn la) w := by simp [getObj, Sem.run, j1]
      split at hz
      · rename_i es hq
        obtain ⟨G3, hG3, ms, clk, k1, k2, rfl, k4⟩ := hR.ob q _ hq
        rw [hG2] at hG3; cases hG3
        have hl := mapLen k2
        dsimp only at hz
        rw [hl] at hz
        split at hz
        · rename_i hc
          simp only [Bool.and_eq_true, beq_iff_eq] at hc
          obtain ⟨rfl, rfl⟩ := hc
          have r2 := MapKept.run_getObj_map (P := C.P) k1
          have hlf := left_filter k4 sn
          have hall : (!sn.isEmpty && !ms.isEmpty && ms.all (fun e => decide (e.born ≥ ms.size))) = false := by
            by_cases h0 : ms.size = 0
            · simp [Array.isEmpty, h0]
            · have hlt : 0 < ms.size := Nat.pos_of_ne_zero h0
              have e0 := k4 0 ms[0] (Array.getElem?_eq_getElem hlt)
              have : ms.all (fun e => decide (e.born ≥ ms.size)) = false := by
                rw [Array.all_eq_false]
                exact ⟨0, hlt, fun hd => by have := of_decide_eq_true hd; omega⟩
              simp [this]
          split at hz
          · rename_i hleft
            simp only [Option.some.injEq, Prod.mk.injEq] at hz; obtain ⟨rfl, rfl⟩ := hz
            rw [hleft] at hlf
            have hf : ms.filter (fun e => !sn.contains e.born) = #[] := by
              apply Array.toList_inj.1
              rw [Array.toList_filter]
              simpa using hlf
            refine ⟨.tuple #[.bool false], w, g, .rfl, ?_, hR, by simp [VR, VRs]⟩
            simp only [Instr.next, Sem.run_bind, r1, r2, Result.andThen_ok, hall, Bool.false_eq_true, if_false, hf]
            simp [Question.forced]
          · rename_i i hleft
            split at hz
            · rename_i k v hk hv
              simp only [Option.some.injEq, Prod.mk.injEq] at hz; obtain ⟨rfl, rfl⟩ := hz
              rw [hleft] at hlf
              obtain ⟨e, he, hbe⟩ : ∃ e, (ms.toList.filter fun e => !sn.contains e.born) = [e] ∧ e.born = i := by
                generalize (ms.toList.filter fun e => !sn.contains e.born) = fl at hlf
                match fl, hlf with
                | [e], hlf => simp only [List.map_cons, List.map_nil, List.cons.injEq, and_true] at hlf; exact ⟨e, rfl, hlf⟩
                | [], hlf => cases hlf
                | _ :: _ :: _, hlf => cases hlf
              have hmem : e ∈ ms.toList := by
                have : e ∈ (ms.toList.filter fun e => !sn.contains e.born) := by rw [he]; simp
                exact (List.mem_filter.1 this).1
              obtain ⟨j, hj⟩ := List.mem_iff_getElem?.1 hmem
              have hbj := k4 j e (by simpa using hj)
              have hji : j = i := by omega
              subst hji
              have hjlt : j < ms.size := by
                have := (List.getElem?_eq_some_iff.1 hj).1; simpa using this
              have hf : ms.filter (fun e => !sn.contains e.born) = #[e] := by
                apply Array.toList_inj.1
                rw [Array.toList_filter, he]
              obtain ⟨f1, f2⟩ := flatE_get ms.toList j e hj
              obtain ⟨uk, m1, m2⟩ := VRs.get k2 _ _ hk
              obtain ⟨uv, n1, n2⟩ := VRs.get k2 _ _ hv
              rw [f1] at m1; cases m1
              rw [f2] at n1; cases n1
              have hnew : ({ w with heap := w.heap.setIfInBounds G.b (.mapIter (some G2.b) ms.size (sn.push j) ms.size) } : World).heap[G.b]? = some (.mapIter (some G2.b) ms.size (sn.push j) ms.size) := (MapKept.heap_set j1).1
              refine ⟨.tuple #[.bool true, e.key, e.val], { w with heap := w.heap.setIfInBounds G.b (.mapIter (some G2.b) ms.size (sn.push j) ms.size) }, g, .rfl, ?_, ?_, ?_⟩
              · have hset : (setObj G.b (.mapIter (some G2.b) ms.size (sn.push j) ms.size)).run C.P w = .ok () { w with heap := w.heap.setIfInBounds G.b (.mapIter (some G2.b) ms.size (sn.push j) ms.size) } := by simp [setObj, Sem.run, j1]
                simp only [Instr.next, Sem.run_bind, r1, r2, Result.andThen_ok, hall, Bool.false_eq_true, if_false, hf]
                have h1 : e.born < ms.size := by omega
                have h2 : ¬ (ms.size ≤ e.born) := by omega
                have h3 : ¬ (ms.size ≤ j) := by omega
                have h4 : j < ms.size := by omega
                simp [Question.forced, h1, h2, h3, h4, hbe, hset, List.filter_cons, List.filter_nil]
              · exact hR.setMap hs hG _ _ j1 _ ⟨G, hG, some G2.b, sn.push j, hnew, by simp, G2, hG2, rfl⟩
              · simp only [VR]; exact ⟨_, rfl, by simp [VRs, VR, m2, n2]⟩
            · cases hz
          · cases hz
        · cases hz
      · cases hz
    · cases hz
  · cases hz
theorem entry_run (hR : R C B N g h a w) {G G2 : GB} {sn : Array Nat} {n0 n q i : Nat} {es : List HV} {k v : HV} (j1 : w.heap[G.b]? = some (.mapIter (some G2.b) n0 sn n)) (hG2 : g q = some G2) (hq : lk q h.objs = some (.map es)) (hlast : sn.toList.getLast? = some i) (hc : n = es.length / 2)
    (hk : es[2 * i]? = some k) (hv : es[2 * i + 1]? = some v) : ∃ u, (Instr.entry (.pointer (some ⟨G.b, 0, none⟩))).run C.P w = .ok u w ∧ VR g (.tup [k, v]) u := by
  have r1 : (getObj G.b).run C.P w = .ok (.mapIter (some G2.b) n0 sn n) w := by simp [getObj, Sem.run, j1]
  obtain ⟨G3, hG3, ms, clk, k1, k2, rfl, k4⟩ := hR.ob q _ hq
  rw [hG2] at hG3; cases hG3
  have hl := mapLen k2
  rw [hl] at hc
  subst hc
  obtain ⟨uk, m1, m2⟩ := VRs.get k2 _ _ hk
  obtain ⟨uv, n1, n2⟩ := VRs.get k2 _ _ hv
  have hil : i < ms.size := by
    have := (List.getElem?_eq_some_iff.1 hk).1
    have e := VRs.length k2
    rw [flatE_length] at e
    simp at e; omega
  obtain ⟨f1, f2⟩ := flatE_get ms.toList i ms[i] (by simp [hil])
  rw [f1] at m1; cases m1
  rw [f2] at n1; cases n1
  have hback : sn.back? = some i := by rw [← Array.getLast?_toList]; exact hlast
  have hfind : ms.find? (fun e => e.born == i) = some ms[i] := by
    rw [← Array.find?_toList]
    rw [List.find?_eq_some_iff_getElem]
    refine ⟨by simp [k4 i _ (Array.getElem?_eq_getElem hil)], i, by simpa using hil, by simp, fun j hj => ?_⟩
    have hjl : j < ms.size := by omega
    have := k4 j ms[j] (Array.getElem?_eq_getElem hjl)
    simp [this]; omega
  have r2 := MapKept.run_getObj_map (P := C.P) k1
  refine ⟨.tuple #[ms[i].key, ms[i].val], ?_, by simp only [VR]; exact ⟨_, rfl, by simp [VRs, m2, n2]⟩⟩
  simp [Instr.entry, r1, r2, hback, hfind]
theorem entry_sound (hR : R C B N g h a w) {x z : HV} {ux : Value} (hx : VR g x ux) (hz : entryH h x = some z) : ∃ u, (Instr.entry ux).run C.P w = .ok u w ∧ VR g z u := by
  unfold entryH at hz
  split at hz
  · rename_i s
    simp only [VR] at hx
    obtain ⟨G, hG, rfl⟩ := hx
    split at hz
    · rename_i q n i hs
      obtain ⟨G', hG', G2, sn, hG2, j1, j2, j3⟩ := hR.ob s _ hs
      rw [hG] at hG'; cases hG'
      split at hz
      · rename_i es hq
        split at hz
        · rename_i hc
          simp only [beq_iff_eq] at hc
          split at hz
          · rename_i k v hk hv
            simp only [Option.some.injEq] at hz; subst hz
            exact entry_run hR j1 hG2 hq j2 hc hk hv
          · cases hz
        · cases hz
      · cases hz
    · rename_i q si la se hs
      obtain ⟨G', hG', mr, sn, j1, rfl, G2, hG2, rfl⟩ := hR.ob s _ hs
      rw [hG] at hG'; cases hG'
      split at hz
      · rename_i i es hlast hq
        split at hz
        · rename_i hc
          simp only [beq_iff_eq] at hc
          split at hz
          · rename_i k v hk hv
            simp only [Option.some.injEq] at hz; subst hz
            exact entry_run hR j1 hG2 hq hlast hc hk hv
          · cases hz
        · cases hz
      · cases hz
    · cases hz
  · cases hz
end
end Go.H
namespace Go.H
open Go.Abs (lk Does does_pure szOf aggOf zeroOf structEq strT intT)
def sliceBytes (objs : List (Nat × HO)) (x : HV) : Option (List UInt8) := (srcH objs 1 x).bind bytesOf
def isU8 (T : Tab) (e : TypeId) : Bool := match T e with
  | some ⟨.int .u8, _, _, _⟩ => true
  | _ => false
def t2str (T : Tab) (t : TypeId) : Option Bool := match T t with
  | some ⟨.slice _ _, _, _, _⟩ => some false
  | some ⟨.str, _, _, _⟩ => some true
  | _ => none
def memH0 (P : Program) (T : Tab) (h : HS) (dst : Option Nat) : Op → Option (HV × HS)
  | .alloc t => match T t with
    | some ⟨_, _, some zs, _⟩ => some (.ptr h.n 0, newO h (.cells (valsH zs)))
    | _ => none
  | .box _ x => if okCells (ev h x).cells then some (.ptr h.n 0, newO h (.cells (ev h x).cells)) else none
  | .store t p x => match dst, T t with
    | none, some i => (storeH i.size h (ev h p) (ev h x)).map (.undef, ·)
    | _, _ => none
  | .buildSlice t len ps => match rowT T t with
    | some (_, n, zs) => litH n len zs h (partsH h ps.toList)
    | none => none
  | .makeSlice t l c => match rowT T t, natH (ev h l), natH (ev h c) with
    | some (_, n, zs), some l, some c => makeH n zs h l c
    | _, _, _ => none
  | .call ⟨.builtin .append, xs, ts⟩ => match xs.toList, ts.toList with
    | [x, y], [t, t2] => match rowT T t, t2str T t2 with
      | some (_, n, _), some b => appendH n b h (ev h x) (ev h y)
      | _, _ => none
    | _, _ => none
  | .call ⟨.builtin .copy, xs, ts⟩ => match xs.toList, ts.toList with
    | [x, y], [t, _] => match rowT T t with
      | some (_, n, _) => copyH n h (ev h x) (ev h y)
      | none => none
    | _, _ => none
  | .convert src dst x => match T src, T dst with
    | some ⟨.slice e _, _, _, _⟩, some ⟨.str, _, _, _⟩ => if isU8 T e then (sliceBytes h.objs (ev h x)).map fun bs => (.v (.string ⟨bs.toArray⟩), h) else none
    | _, _ => none
  | .makeMap _ none => some (.mp h.n, newO h (.map []))
  | .insert t m k v => match dst with
    | none => (insertH T t h (ev h m) (ev h k) (ev h v)).map (.undef, ·)
    | some _ => none
  | .mapUpdate t m k v => match dst with
    | none => (insertH T t h (ev h m) (ev h k) (ev h v)).map (.undef, ·)
    | some _ => none
  | .lookup t m k ok => (lookupH P T t ok h.objs (ev h m) (ev h k)).map (·, h)
  | .range t x => match T t with
    | some ⟨.map _ _ _ _, _, _, _⟩ => rangeH h (ev h x)
    | _ => none
  | .next x false => nextH h (ev h x)
  | .entry x => (entryH h (ev h x)).map (·, h)
  | _ => none
def memH (P : Program) (T : Tab) (h : HS) (dst : Option Nat) (op : Op) : Option (HV × HS) := if Nat.blt h.n h.m then memH0 P T h dst op else none
section
variable {C : HC} {B : Base} {N : Nat} {g : Gh} {h : HS} {a : Act} {w : World} {T : Tab} {P : Program}
theorem b2s_loop {f : Value → ByteArray → Sem (ForInStep ByteArray)} (hf : ∀ n s, f (.int .u8 n) s = pure (.yield (s.push (UInt8.ofNat n.toNat)))) : ∀ (bs : List UInt8) (s : ByteArray),
    (forIn (m := Sem) (bs.map fun b => Value.int .u8 b.toNat) s f).run P w = .ok (bs.foldl (·.push ·) s) w
  | [], s => by simp
  | b :: bs, s => by
    simp only [List.map_cons, List.forIn_cons, hf, Sem.run_bind, Sem.run_pure, Result.andThen_ok, List.foldl_cons]
    rw [b2s_loop hf bs]
    simp
theorem foldl_push : ∀ (bs : List UInt8) (s : ByteArray), (bs.foldl (·.push ·) s).data.toList = s.data.toList ++ bs
  | [], s => by simp
  | b :: bs, s => by rw [List.foldl_cons, foldl_push bs]; simp [ByteArray.push]
theorem bytesOf_spec : ∀ {cs : List HV} {bs : List UInt8} {us : List Value}, bytesOf cs = some bs → VRs g cs us → us = bs.map fun b => Value.int .u8 b.toNat
  | [], bs, us, h, hv => by
    simp only [bytesOf, Option.some.injEq] at h; subst h
    cases us with
    | nil => rfl
    | cons _ _ => simp [VRs] at hv
  | c :: cs, bs, us, h, hv => by
    unfold bytesOf at h
    split at h
    · rename_i heq; cases heq
    · rename_i n cs' heq
      cases heq
      split at h
      · rename_i hn
        have hn : n < 256 := Nat.le_of_ble_eq_true hn
        obtain ⟨bs', hb, rfl⟩ := Option.map_eq_some_iff.1 h
        match us, hv with
        | u :: us, hv =>
          simp only [VRs, VR] at hv
          rw [hv.1, bytesOf_spec hb hv.2]
          simp [Nat.mod_eq_of_lt hn]
        | [], hv => simp [VRs] at hv
      · cases h
    · cases h
theorem sliceBytes_sound (hT : T.OK C.P) (hR : R C B N g h a w) {src dst e : TypeId} {n : Nat} (h1 : C.P.underlying src = some (.slice e)) (h2 : C.P.underlying dst = some .string) (h3 : C.P.underlying e = some (.int .u8)) {x : HV} {ux : Value} (hx : VR g x ux) {bs : List UInt8} (hb : sliceBytes h.objs x = some bs) :
    (convert src dst ux).run C.P w = .ok (.string ⟨bs.toArray⟩) w := by
  obtain ⟨cs, hcs, hbs⟩ := Option.bind_eq_some_iff.1 hb
  obtain ⟨us, m, ad, cap, k1, k2, rfl, k3, k4⟩ := src_first hR hx hcs
  have hus := bytesOf_spec hbs k1
  have hf := k4 m (Nat.le_refl m)
  rw [List.take_of_length_le (by omega)] at hf
  have hconv : (convert src dst (.slice ad m cap)).run C.P w = (Conv.bytesToString (.slice ad m cap)).run C.P w := by
    simp [convert, run_underlying h1, run_underlying h2, run_underlying h3]
  rw [hconv]
  have hfin : bs.foldl (·.push ·) ByteArray.empty = ⟨bs.toArray⟩ := by
    have := foldl_push bs ByteArray.empty
    apply ByteArray.ext
    apply Array.toList_inj.1
    rw [this]; rfl
  cases ad with
  | none =>
    have hm := k3 rfl
    subst hm
    have : us = [] := List.eq_nil_of_length_eq_zero (by simpa using k2)
    rw [this] at hus
    have : bs = [] := by cases bs with
      | nil => rfl
      | cons _ _ => simp at hus
    subst this
    simp [Conv.bytesToString]; rfl
  | some ad =>
    have hld : (loadCells ad m).run C.P w = .ok us.toArray w := by
      simp only [Builtin.firstCells] at hf
      simpa using hf
    simp only [Conv.bytesToString, Sem.run_bind, hld, Result.andThen_ok]
    rw [hus]
    simp only [List.forIn_toArray]
    rw [b2s_loop (fun n s => rfl), hfin]
    rfl
theorem isU8_spec (hT : T.OK P) {e : TypeId} (h : isU8 T e = true) : P.underlying e = some (.int .u8) := by
  unfold isU8 at h
  split at h
  · rename_i sz z q hTe
    have := (hT e _ hTe).kind
    simpa only [Kind] using this
  · cases h
theorem t2str_spec (hT : T.OK P) {t : TypeId} {b : Bool} (h : t2str T t = some b) : T2 P t := by
  unfold t2str at h
  split at h
  · rename_i e n sz z q hTt
    have := (hT t _ hTt).kind
    simp only [Kind] at this
    exact .inl ⟨e, this.1⟩
  · rename_i sz z q hTt
    have := (hT t _ hTt).kind
    simp only [Kind] at this
    exact .inr this
  · cases h
theorem mem_sound (hT : T.OK C.P) (hR : R C B N g h a w) {o : Oper} {x : HV} {h' : HS} (hx : memH C.P T h o.dst o.op = some (x, h')) : Mems C B N g o a w x h' := by
  obtain ⟨dst, op, ty, after, x2, x3⟩ := o
  simp only at hx
  unfold memH at hx
  split at hx
  case isFalse => cases hx
  rename_i hnm
  have hnm : h.n < h.m := Nat.le_of_ble_eq_true hnm
  unfold memH0 at hx
  split at hx
  · rename_i t
    split at hx
    · rename_i k sz zs q hTt
      simp only [Option.some.injEq, Prod.mk.injEq] at hx; obtain ⟨rfl, rfl⟩ := hx
      obtain ⟨f, z, hi, hz, rfl⟩ := zero_spec ((hT t _ hTt).zero zs rfl).1
      have hl : (valsH z.cells.toList).length = z.cells.size := by simp [valsH]
      obtain ⟨hext, q⟩ := hR.newCells hnm z.cells t z.cells.size (valsH z.cells.toList) (Nat.le_refl _) (by rw [hl]; exact Nat.le_refl _) (by rw [hl, List.take_of_length_le (by simp)]; exact VRs_valsH _)
      refine .of (s := Instr.alloc t true (.tuple #[])) rfl ⟨.pointer (some ⟨w.heap.size, 0, none⟩), _, _, hext, ?_, q, ?_⟩
      · simp [Instr.alloc, zeroValue, Abs.run_typeInfo hi, hz, Abs.newVar_run]
      · simp only [VR]; exact ⟨_, Gh.new_self _ _ _, rfl⟩
    · cases hx
  · rename_i t y
    split at hx
    · rename_i hok
      simp only [Option.some.injEq, Prod.mk.injEq] at hx; obtain ⟨rfl, rfl⟩ := hx
      have hc := VR.cells (hR.ev y) hok
      have hl := VRs.length hc
      simp only [Array.length_toList] at hl
      obtain ⟨hext, q⟩ := hR.newCells hnm (a.eval y).cells t (a.eval y).cells.size (ev h y).cells (Nat.le_refl _) (by omega) (by rw [List.take_of_length_le (by simp [hl])]; exact hc)
      refine .of (s := Instr.box t (a.eval y)) rfl ⟨.pointer (some ⟨w.heap.size, 0, none⟩), _, _, hext, ?_, q, ?_⟩
      · simp [Instr.box, Abs.newVar_run]
      · simp only [VR]; exact ⟨_, Gh.new_self _ _ _, rfl⟩
    · cases hx
  · rename_i t p y
    split at hx
    · rename_i i hTt
      obtain ⟨h2, hs, he⟩ := Option.map_eq_some_iff.1 hx
      simp only [Prod.mk.injEq] at he; obtain ⟨rfl, rfl⟩ := he
      obtain ⟨w', k1, k2⟩ := store_sound hR (hT t _ hTt).size (hR.ev p) (hR.ev y) hs
      exact ⟨undef, w', g, .rfl, .inr ⟨by simp [execOp, k1], rfl⟩, k2, by simp [VR]⟩
    · cases hx
  · rename_i t len ps
    split at hx
    · rename_i e n zs hr
      obtain ⟨f, z, hr⟩ := rowT_spec hT hr
      exact .of (Abs.exec_buildSlice a rfl) (lit_sound hR hnm hr (by simp [partsH]) (parts_VRs hR ps) hx)
    · cases hx
  · rename_i t l c
    split at hx
    · rename_i e n zs lv cv hr hl hc
      obtain ⟨f, z, hr⟩ := rowT_spec hT hr
      obtain ⟨k1, e1⟩ := natH_spec hl (hR.ev l)
      obtain ⟨k2, e2⟩ := natH_spec hc (hR.ev c)
      refine .of (s := Instr.makeSlice t (a.eval l) (a.eval c)) rfl ?_
      rw [e1, e2]
      exact make_sound hR hnm hr hx
    · cases hx
  · rename_i xs ts
    obtain ⟨consts, he⟩ := Abs.exec_builtin a (o := ⟨dst, .call ⟨.builtin .append, xs, ts⟩, ty, after, x2, x3⟩) rfl
    split at hx
    · rename_i y z t t2 hy ht
      split at hx
      · rename_i e n zs b hr hb
        obtain ⟨f, zv, hr⟩ := rowT_spec hT hr
        refine .of he ?_
        rw [Abs.arr2 hy, Abs.arr2 ht]
        simp only [List.map_toArray, List.map_cons, List.map_nil]
        exact append_sound hR hnm hr (t2str_spec hT hb) (hR.ev y) (hR.ev z) hx
      · cases hx
    · cases hx
  · rename_i xs ts
    obtain ⟨consts, he⟩ := Abs.exec_builtin a (o := ⟨dst, .call ⟨.builtin .copy, xs, ts⟩, ty, after, x2, x3⟩) rfl
    split at hx
    · rename_i y z t t2 hy ht
      split at hx
      · rename_i e n zs hr
        obtain ⟨f, zv, hr⟩ := rowT_spec hT hr
        refine .of he ?_
        rw [Abs.arr2 hy, Abs.arr2 ht]
        simp only [List.map_toArray, List.map_cons, List.map_nil]
        exact copy_sound hR hr (hR.ev y) (hR.ev z) hx
      · cases hx
    · cases hx
  · rename_i src d y
    split at hx
    · rename_i e n s1 z1 q1 s2 z2 q2 h1 h2
      split at hx
      · rename_i hu
        obtain ⟨bs, hb, he⟩ := Option.map_eq_some_iff.1 hx
        simp only [Prod.mk.injEq] at he; obtain ⟨rfl, rfl⟩ := he
        have q1 := (hT src _ h1).kind
        have q2 := (hT d _ h2).kind
        simp only [Kind] at q1 q2
        exact Mems.pure hR (.of (s := convert src d (a.eval y)) rfl ⟨_, sliceBytes_sound hT hR (n := n) q1.1 q2 (isU8_spec hT hu) (hR.ev y) hb, by simp [VR]⟩)
      · cases hx
    · cases hx
  · rename_i t
    simp only [Option.some.injEq, Prod.mk.injEq] at hx; obtain ⟨rfl, rfl⟩ := hx
    obtain ⟨hext, q⟩ := hR.alloc hnm (.map #[] 0) (.map []) 0 ⟨_, Gh.new_self _ _ _, #[], 0, heap_alloc_new w _, by simp [Abs.flatE, VRs], rfl, fun i e he => by simp at he⟩
    refine .of (s := Instr.makeMap t none) rfl ⟨.map (some w.heap.size), w.alloc (.map #[] 0), _, hext, ?_, q, ?_⟩
    · simp [Instr.makeMap, newObj]; rfl
    · simp only [VR]; exact ⟨_, Gh.new_self _ _ _, rfl⟩
  · rename_i t m k v
    split at hx
    · obtain ⟨h2, hs, he⟩ := Option.map_eq_some_iff.1 hx
      simp only [Prod.mk.injEq] at he; obtain ⟨rfl, rfl⟩ := he
      obtain ⟨w', k1, k2⟩ := insert_sound hT hR (hR.ev m) (hR.ev k) (hR.ev v) hs
      exact ⟨undef, w', g, .rfl, .inr ⟨by simp [execOp, k1], rfl⟩, k2, by simp [VR]⟩
    · cases hx
  · rename_i t m k v
    split at hx
    · obtain ⟨h2, hs, he⟩ := Option.map_eq_some_iff.1 hx
      simp only [Prod.mk.injEq] at he; obtain ⟨rfl, rfl⟩ := he
      obtain ⟨w', k1, k2⟩ := insert_sound hT hR (hR.ev m) (hR.ev k) (hR.ev v) hs
      exact ⟨undef, w', g, .rfl, .inr ⟨by simp [execOp, k1], rfl⟩, k2, by simp [VR]⟩
    · cases hx
  · rename_i t m k ok
    obtain ⟨z, hs, he⟩ := Option.map_eq_some_iff.1 hx
    simp only [Prod.mk.injEq] at he; obtain ⟨rfl, rfl⟩ := he
    exact Mems.pure hR (.of (s := Instr.lookup t (a.eval m) (a.eval k) ok) rfl (lookup_sound hT hR (hR.ev m) (hR.ev k) hs))
  · rename_i t y
    split at hx
    · rename_i kt b ks e sz z q hTt
      have hk := (hT t _ hTt).kind
      simp only [Kind] at hk
      obtain ⟨⟨k', v', hk⟩, _⟩ := hk
      exact .of (s := Instr.range t (a.eval y)) rfl (range_sound hR hnm hk (hR.ev y) hx)
    · cases hx
  · rename_i y
    exact .of (s := Instr.next (a.eval y) false ty) rfl (next_sound hR (hR.ev y) hx)
  · rename_i y
    obtain ⟨z, hs, he⟩ := Option.map_eq_some_iff.1 hx
    simp only [Prod.mk.injEq] at he; obtain ⟨rfl, rfl⟩ := he
    exact Mems.pure hR (.of (s := Instr.entry (a.eval y)) rfl (entry_sound hR (hR.ev y) hs))
  · cases hx
end
end Go.H
namespace Go.H
open Go.Abs (lk Does does_pure szOf aggOf zeroOf Ex methOf codeOK opOK gdst)
def Mem (C : HC) (B : Base) (g : Gh) (o : List (Nat × HO)) (n m : Nat) (w : World) : Prop := R C B 0 g ⟨[], o, n, m⟩ { tmps := #[], defers := B.d } w
def HRun (C : HC) (f : Nat) (xs : List HV) (o : List (Nat × HO)) (n m : Nat) (y : HV) (o' : List (Nat × HO)) (n' : Nat) : Prop :=
  (∃ fn c, C.P.funcs[f]? = some fn ∧ (fn.name == "runtime.NumGoroutine") = false ∧ fn.body = some c) ∧
  ∀ B g w us, B.d = [] → Mem C B g o n m w → VRs g xs us → Calls C.P f us.toArray w fun e w' => ∃ u g', e = .returned u ∧ Ext g g' ∧ Mem C B g' o' n' m w' ∧ VR g' y u
section
variable {C : HC} {B : Base} {N : Nat} {g g' : Gh} {h h' : HS} {a : Act} {w w' : World} {T : Tab}
theorem Fr.any {d : List Deferred} (h : Fr C B w) : Fr C ⟨B.w, B.prot, d, B.no⟩ w := ⟨h.1, h.2, h.3, h.4, h.5, h.6⟩
theorem R.mem (hR : R C B N g h a w) (d : List Deferred) : Mem C ⟨B.w, B.prot, d, B.no⟩ g h.objs h.n h.m w := by
  refine ⟨rfl, rfl, fun k x hk => by simp [lk] at hk, hR.ob, hR.new, hR.sep, hR.low, hR.out, hR.fr.any⟩
theorem Mem.act {o : List (Nat × HO)} {n m : Nat} {d : List Deferred} (hM : Mem C ⟨B.w, B.prot, d, B.no⟩ g' o n m w') {ts : List (Nat × HV)} (hsz : a.tmps.size = N) (hd : a.defers = B.d) (htm : ∀ k x, lk k ts = some x → ∃ u, a.tmps[k]? = some u ∧ VR g' x u) :
    R C B N g' ⟨ts, o, n, m⟩ a w' := by
  obtain ⟨_, _, _, h1, h2, h3, h4, h6, h5⟩ := hM
  exact ⟨hsz, hd, htm, h1, h2, h3, h4, h6, h5.any⟩
def OpS (C : HC) (o : Oper) (h h' : HS) : Prop := ∀ B N g a w (K : Act → World → Prop) (Q : Exit → Act → World → Prop), (∀ d, o.dst = some d → d < N) → R C B N g h a w → (∀ g' a' w', Ext g g' → R C B N g' h' a' w' → K a' w') → o.wp C.P a w K Q
def OpV (C : HC) (o : Oper) (h : HS) (x : HV) (h' : HS) : Prop := ∀ B N g a w (K : Act → World → Prop) (Q : Exit → Act → World → Prop), R C B N g h a w → (∀ g' u w', Ext g g' → R C B N g' h' a w' → VR g' x u → K (a.put o.dst u) w') → o.wp C.P a w K Q
theorem OpV.toS {o : Oper} {x : HV} (hv : OpV C o h x h') : OpS C o h (h'.put o.dst x) := by
  intro B N g a w K Q hd hR hk
  exact hv B N g a w K Q hR fun g' u w' he hr hx => hk g' _ w' he (hr.put hd hx)
theorem OpV.of {o : Oper} {x : HV} (hm : ∀ B N g a w, R C B N g h a w → Mems C B N g o a w x h') : OpV C o h x h' := by
  intro B N g a w K Q hR hk
  obtain ⟨u, w', g', he, hdo, hr, hv⟩ := hm B N g a w hR
  exact hdo.wp (hk g' u w' he hr hv)
theorem OpV.call {o : Oper} {fid : Nat} {xs : List HV} {y : HV} {o' : List (Nat × HO)} {n' : Nat} (hf : HRun C fid xs h.objs h.n h.m y o' n')
    (hc : ∀ B N g a w, R C B N g h a w → ∃ us : List Value, VRs g xs us ∧ (execOp a.eval o).run C.P w = (callFunc fid us.toArray).run C.P w) : OpV C o h y ⟨h.tmps, o', n', h.m⟩ := by
  intro B N g a w K Q hR hk
  obtain ⟨us, hv, hex⟩ := hc B N g a w hR
  obtain ⟨⟨fn, c, h1, h2, h3⟩, hcall⟩ := hf
  unfold Oper.wp
  rw [hex, Abs.run_enter h1 h2 h3, Oper.upon_enter]
  refine Calls.mono (hcall ⟨B.w, B.prot, [], B.no⟩ g w us rfl (hR.mem []) hv) fun e w' hq => ?_
  obtain ⟨u, g', rfl, he, hM, hy⟩ := hq
  have hr : R C B N g' ⟨h.tmps, o', n', h.m⟩ a w' := hM.act (B := B) hR.size hR.defs (fun k x hx => by
    obtain ⟨u, h1, h2⟩ := hR.tm k x hx
    exact ⟨u, h1, VR.ext he _ _ h2⟩)
  exact hk g' u w' he hr hy
abbrev RF := Nat → List HV → List (Nat × HO) → Nat → Nat → Option (HV × List (Nat × HO) × Nat)
def RF.OK (C : HC) (rf : RF) : Prop := ∀ f xs o n m y o' n', rf f xs o n m = some (y, o', n') → HRun C f xs o n m y o' n'
def callH (rf : RF) (h : HS) (fid : Nat) (xs : List HV) : Option (HV × HS) := match rf fid xs h.objs h.n h.m with
  | some (y, o', n') => some (y, ⟨h.tmps, o', n', h.m⟩)
  | none => none
def methH (P : Program) (G : Nat → Option (List Value)) (objs : List (Nat × HO)) (t : TypeId) (name : String) (x : HV) : Option (Nat × HV) := match methOf P t name with
  | some (f, none) => some (f, x)
  | some (f, some e) => match aggOf P e, szOf P e with
    | some agg, some n => (loadH G agg n objs x).map fun y => (f, y)
    | _, _ => none
  | _ => none
def stepV (C : HC) (T : Tab) (rf : RF) (o : Oper) (h : HS) : Option (HV × HS) := match o.op with
  | .call ⟨.value f, args, _⟩ => match ev h f with
    | .fn fid caps => callH rf h fid (evs h args.toList ++ caps)
    | .mv fid first => callH rf h fid (first ++ evs h args.toList)
    | _ => none
  | .call ⟨.invoke r name, args, _⟩ => match ev h r with
    | .ifc t y => match methH C.P C.G h.objs t name y with
      | some (f, rv) => callH rf h f (rv :: evs h args.toList)
      | none => none
    | _ => none
  | op => match pureH T C.G h op with
    | some x => some (x, h)
    | none => memH C.P T h o.dst op
def stepH (C : HC) (T : Tab) (rf : RF) (o : Oper) (h : HS) : Option HS := match stepV C T rf o h with
  | some (x, h') => some (h'.put o.dst x)
  | none => none
theorem loadH_ptr {G : Nat → Option (List Value)} {agg : Bool} {n : Nat} {objs : List (Nat × HO)} {x z : HV} {u : Value} (hv : VR g x u) (h : loadH G agg n objs x = some z) : ∃ ad, u = .pointer (some ad) := by
  unfold loadH at h
  split at h
  · simp only [VR] at hv; obtain ⟨_, _, hv⟩ := hv; exact ⟨_, hv⟩
  · simp only [VR] at hv; exact ⟨_, hv⟩
  · cases h
theorem meth_sound (hR : R C B N g h a w) {t : TypeId} {name : String} {x r : HV} {f : Nat} {u : Value} (hm : methH C.P C.G h.objs t name x = some (f, r)) (hx : VR g x u) (fuel : Nat) : ∃ v, (method (fuel + 1) t u name).run C.P w = .ok (f, v) w ∧ VR g r v := by
  have spec : ∀ f o, methOf C.P t name = some (f, o) → ∃ i m b e, C.P.info? t = some i ∧ i.methods.find? (·.name == name) = some m ∧ m.path = #[] ∧ m.func = some (f, b) ∧ C.P.underlying t = some (.pointer e) ∧ ((b = true ∧ o = none) ∨ (b = false ∧ o = some e)) := by
    intro f o hm
    obtain ⟨i, hi, hm⟩ := Option.bind_eq_some_iff.1 hm
    obtain ⟨m, hmm, hm⟩ := Option.bind_eq_some_iff.1 hm
    split at hm
    · rename_i hp
      split at hm
      · rename_i f' e h1 h2
        simp only [Option.some.injEq, Prod.mk.injEq] at hm
        obtain ⟨rfl, rfl⟩ := hm
        exact ⟨i, m, true, e, hi, hmm, hp, h1, h2, .inl ⟨rfl, rfl⟩⟩
      · rename_i f' e h1 h2
        simp only [Option.some.injEq, Prod.mk.injEq] at hm
        obtain ⟨rfl, rfl⟩ := hm
        exact ⟨i, m, false, e, hi, hmm, hp, h1, h2, .inr ⟨rfl, rfl⟩⟩
      · cases hm
    · cases hm
  unfold methH at hm
  split at hm
  · rename_i f' hmo
    simp only [Option.some.injEq, Prod.mk.injEq] at hm
    obtain ⟨rfl, rfl⟩ := hm
    obtain ⟨i, m, b, e, hi, hmm, hp, hf, hu, ⟨rfl, _⟩ | ⟨_, h0⟩⟩ := spec _ _ hmo
    · exact ⟨u, by rw [Abs.run_method hi hmm hp hf]; simp [receiverAt, run_underlying hu, Place.get], hx⟩
    · cases h0
  · rename_i f' e' hmo
    split at hm
    · rename_i agg n h1 h2
      obtain ⟨y, hy, hh⟩ := Option.map_eq_some_iff.1 hm
      obtain ⟨rfl, rfl⟩ := Prod.mk.inj hh
      obtain ⟨i, m, b, e, hi, hmm, hp, hf, hu, ⟨_, h0⟩ | ⟨rfl, h0⟩⟩ := spec _ _ hmo
      · cases h0
      · injection h0 with h0
        subst h0
        obtain ⟨v, k1, k2⟩ := load_sound hR h1 h2 hx hy
        obtain ⟨ad, rfl⟩ := loadH_ptr hx hy
        refine ⟨v, ?_, k2⟩
        have k3 : (loadVar e' ad).run C.P w = .ok v w := by simpa [Instr.loadAt, Instr.sureAddr, asAddr] using k1
        rw [Abs.run_method hi hmm hp hf]
        simp [receiverAt, run_underlying hu, Place.get, Abs.run_chk, asAddr, k3]
    · cases hm
  · cases hm
theorem stepV_sound (hT : T.OK C.P) {rf : RF} (hrf : rf.OK C) {o : Oper} {x : HV} {h h' : HS} (hs : stepV C T rf o h = some (x, h')) : OpV C o h x h' := by
  unfold stepV at hs
  split at hs
  · rename_i f args ts ho
    split at hs
    · rename_i fid caps hf
      unfold callH at hs
      split at hs
      · rename_i y o' n' hr
        cases hs
        refine OpV.call (hrf _ _ _ _ _ _ _ _ hr) fun B N g a w hR => ?_
        have hv := hR.ev f
        rw [hf] at hv
        simp only [VR] at hv
        obtain ⟨us, hu, hv⟩ := hv
        refine ⟨args.toList.map a.eval ++ us.toList, VRs.append (hR.evs _) hv, ?_⟩
        rw [Abs.exec_call a ho rfl hu]
        congr 2
        apply Array.toList_inj.1; simp
      · cases hs
    · rename_i fid first hf
      unfold callH at hs
      split at hs
      · rename_i y o' n' hr
        cases hs
        refine OpV.call (hrf _ _ _ _ _ _ _ _ hr) fun B N g a w hR => ?_
        have hv := hR.ev f
        rw [hf] at hv
        simp only [VR] at hv
        obtain ⟨us, hu, hv⟩ := hv
        refine ⟨us.toList ++ args.toList.map a.eval, VRs.append hv (hR.evs _), ?_⟩
        rw [Abs.exec_call' a ho rfl hu]
        congr 2
        apply Array.toList_inj.1; simp
      · cases hs
    · cases hs
  · rename_i r name args ts ho
    split at hs
    · rename_i t y hy
      split at hs
      · rename_i f rv hm
        unfold callH at hs
        split at hs
        · rename_i y' o' n' hr
          cases hs
          refine OpV.call (hrf _ _ _ _ _ _ _ _ hr) fun B N g a w hR => ?_
          have hv := hR.ev r
          rw [hy] at hv
          simp only [VR] at hv
          obtain ⟨u, hu, hv⟩ := hv
          obtain ⟨v, k1, k2⟩ := meth_sound hR hm hv (C.P.types.size + Made.depth - 1)
          have e1 : C.P.types.size + Made.depth - 1 + 1 = C.P.types.size + Made.depth := by simp [Made.depth]
          rw [e1] at k1
          refine ⟨v :: args.toList.map a.eval, by simp only [VRs]; exact ⟨k2, hR.evs _⟩, ?_⟩
          unfold execOp
          rw [ho]
          have e2 : (#[a.eval r] ++ args.map a.eval)[0]? = some (.iface t u) := by rw [hu, Array.getElem?_append_left (by simp)]; rfl
          have e3 : (#[a.eval r] ++ args.map a.eval).extract 1 (#[a.eval r] ++ args.map a.eval).size = args.map a.eval := by
            rw [← Array.toList_inj, Array.toList_extract]; simp [List.extract]; exact List.take_of_length_le (by simp)
          simp only [resolve, invoke, Sem.run_bind, Sem.run_pure, Result.andThen_ok, e2, e3, callMethod, run_program, k1]
          congr 2
          rw [← Array.toList_inj]; simp
        · cases hs
      · cases hs
    · cases hs
  · split at hs
    · rename_i x hx
      cases hs
      exact OpV.of fun B N g a w hR => Mems.pure hR (pure_sound hT hR hx)
    · exact OpV.of fun B N g a w hR => mem_sound hT hR hs
theorem stepH_sound (hT : T.OK C.P) {rf : RF} (hrf : rf.OK C) {o : Oper} {h h' : HS} (hs : stepH C T rf o h = some h') : OpS C o h h' := by
  unfold stepH at hs
  split at hs
  · rename_i x h2 h1
    cases hs
    exact (stepV_sound hT hrf h1).toS
  · cases hs
end
end Go.H
namespace Go.H
open Go.Abs (lk Does does_pure szOf aggOf zeroOf Ex methOf codeOK opOK gdst)
mutual
def sameV : HV → HV → Bool
  | .undef, .undef => true
  | .v x, .v y => valEq x y
  | .agg a, .agg b => sameL a b
  | .tup a, .tup b => sameL a b
  | .ptr s o, .ptr t p => Nat.beq s t && Nat.beq o p
  | .gp s o, .gp t p => Nat.beq s t && Nat.beq o p
  | .bs s o n z f, .bs t p m y e => Nat.beq s t && (Nat.beq o p && (Nat.beq n m && (Nat.beq z y && f == e)))
  | .fn f a, .fn g b => Nat.beq f g && sameL a b
  | .mv f a, .mv g b => Nat.beq f g && sameL a b
  | .ifc t x, .ifc u y => Nat.beq t u && sameV x y
  | .mp s, .mp t => Nat.beq s t
  | .it s, .it t => Nat.beq s t
  | .em, .em => true
  | _, _ => false
def sameL : List HV → List HV → Bool
  | [], [] => true
  | x :: a, y :: b => sameV x y && sameL a b
  | _, _ => false
end
mutual
theorem sameV_eq : ∀ (x y : HV), sameV x y = true → x = y
  | .undef, y, h => by cases y <;> first | rfl | (simp [sameV] at h)
  | .v x, y, h => by cases y <;> first | (simp only [sameV] at h; rw [valEq_eq h]) | (simp [sameV] at h)
  | .agg a, y, h => by cases y <;> first | (simp only [sameV] at h; rw [sameL_eq _ _ h]) | (simp [sameV] at h)
  | .tup a, y, h => by cases y <;> first | (simp only [sameV] at h; rw [sameL_eq _ _ h]) | (simp [sameV] at h)
  | .ptr s o, y, h => by cases y <;> first | (simp only [sameV, Bool.and_eq_true, Nat.beq_eq] at h; rw [h.1, h.2]) | (simp [sameV] at h)
  | .gp s o, y, h => by cases y <;> first | (simp only [sameV, Bool.and_eq_true, Nat.beq_eq] at h; rw [h.1, h.2]) | (simp [sameV] at h)
  | .bs s o n z f, y, h => by cases y <;> first | (simp only [sameV, Bool.and_eq_true, Nat.beq_eq, beq_iff_eq] at h; obtain ⟨rfl, rfl, rfl, rfl, rfl⟩ := h; rfl) | (simp [sameV] at h)
  | .fn f a, y, h => by cases y <;> first | (simp only [sameV, Bool.and_eq_true, Nat.beq_eq] at h; rw [h.1, sameL_eq _ _ h.2]) | (simp [sameV] at h)
  | .mv f a, y, h => by cases y <;> first | (simp only [sameV, Bool.and_eq_true, Nat.beq_eq] at h; rw [h.1, sameL_eq _ _ h.2]) | (simp [sameV] at h)
  | .ifc t x, y, h => by cases y <;> first | (simp only [sameV, Bool.and_eq_true, Nat.beq_eq] at h; rw [h.1, sameV_eq _ _ h.2]) | (simp [sameV] at h)
  | .mp s, y, h => by cases y <;> first | (simp only [sameV, Nat.beq_eq] at h; rw [h]) | (simp [sameV] at h)
  | .it s, y, h => by cases y <;> first | (simp only [sameV, Nat.beq_eq] at h; rw [h]) | (simp [sameV] at h)
  | .em, y, h => by cases y <;> first | rfl | (simp [sameV] at h)
theorem sameL_eq : ∀ (a b : List HV), sameL a b = true → a = b
  | [], b, h => by cases b <;> first | rfl | (simp [sameL] at h)
  | x :: a, b, h => by
    cases b with
    | nil => simp [sameL] at h
    | cons y b => simp only [sameL, Bool.and_eq_true] at h; rw [sameV_eq _ _ h.1, sameL_eq _ _ h.2]
end
def sameO : HO → HO → Bool
  | .cells a, .cells b => sameL a b
  | .map a, .map b => sameL a b
  | .iter m s l e, .iter m' s' l' e' => m == m' && (s == s' && (l == l' && e == e'))
  | .seen q n i, .seen q' n' i' => q == q' && (n == n' && i == i')
  | _, _ => false
theorem sameO_eq {x y : HO} (h : sameO x y = true) : x = y := by
  cases x <;> cases y <;> simp only [sameO, Bool.false_eq_true, Bool.and_eq_true, beq_iff_eq] at h
  · rw [sameL_eq _ _ h]
  · rw [sameL_eq _ _ h]
  · obtain ⟨rfl, rfl, rfl, rfl⟩ := h; rfl
  · obtain ⟨rfl, rfl, rfl⟩ := h; rfl
section
variable {g g' : Gh}
mutual
theorem VR.back (he : Ext g g') : ∀ (x : HV) (u u' : Value), VR g x u → VR g' x u' → VR g x u'
  | .undef, _, _, _, _ => by simp [VR]
  | .v x, u, u', _, h' => by simpa only [VR] using h'
  | .agg cs, u, u', h, h' => by simp only [VR] at h h' ⊢; obtain ⟨us, _, h2⟩ := h; obtain ⟨us', h1', h2'⟩ := h'; exact ⟨us', h1', VRs.back he cs _ _ h2 h2'⟩
  | .tup cs, u, u', h, h' => by simp only [VR] at h h' ⊢; obtain ⟨us, _, h2⟩ := h; obtain ⟨us', h1', h2'⟩ := h'; exact ⟨us', h1', VRs.back he cs _ _ h2 h2'⟩
  | .ptr s off, u, u', h, h' => by simp only [VR] at h h' ⊢; obtain ⟨G, h1, _⟩ := h; obtain ⟨G', h1', h2'⟩ := h'; have := he _ _ h1; rw [h1'] at this; cases this; exact ⟨_, h1, h2'⟩
  | .gp i off, u, u', _, h' => by simpa only [VR] using h'
  | .bs s off n sz full, u, u', h, h' => by simp only [VR] at h h' ⊢; obtain ⟨G, _, h1, _⟩ := h; obtain ⟨G', cap, h1', h2'⟩ := h'; have := he _ _ h1; rw [h1'] at this; cases this; exact ⟨_, cap, h1, h2'⟩
  | .fn f caps, u, u', h, h' => by simp only [VR] at h h' ⊢; obtain ⟨us, _, h2⟩ := h; obtain ⟨us', h1', h2'⟩ := h'; exact ⟨us', h1', VRs.back he caps _ _ h2 h2'⟩
  | .mv f caps, u, u', h, h' => by simp only [VR] at h h' ⊢; obtain ⟨us, _, h2⟩ := h; obtain ⟨us', h1', h2'⟩ := h'; exact ⟨us', h1', VRs.back he caps _ _ h2 h2'⟩
  | .ifc t x, u, u', h, h' => by simp only [VR] at h h' ⊢; obtain ⟨y, _, h2⟩ := h; obtain ⟨y', h1', h2'⟩ := h'; exact ⟨y', h1', VR.back he x _ _ h2 h2'⟩
  | .mp s, u, u', h, h' => by simp only [VR] at h h' ⊢; obtain ⟨G, h1, _⟩ := h; obtain ⟨G', h1', h2'⟩ := h'; have := he _ _ h1; rw [h1'] at this; cases this; exact ⟨_, h1, h2'⟩
  | .it s, u, u', h, h' => by simp only [VR] at h h' ⊢; obtain ⟨G, h1, _⟩ := h; obtain ⟨G', h1', h2'⟩ := h'; have := he _ _ h1; rw [h1'] at this; cases this; exact ⟨_, h1, h2'⟩
  | .em, u, u', _, h' => by simpa only [VR] using h'
theorem VRs.back (he : Ext g g') : ∀ (cs : List HV) (us us' : List Value), VRs g cs us → VRs g' cs us' → VRs g cs us'
  | [], _, [], _, _ => by simp [VRs]
  | [], _, _ :: _, _, h => by simp [VRs] at h
  | _ :: _, _, [], _, h => by simp [VRs] at h
  | _ :: _, [], _ :: _, h, _ => by simp [VRs] at h
  | c :: cs, u :: us, u' :: us', h, h' => by simp only [VRs] at h h' ⊢; exact ⟨VR.back he c u u' h.1 h'.1, VRs.back he cs us us' h.2 h'.2⟩
end
theorem ObjAt.back {w w' : World} (he : Ext g g') {s : Nat} {o : HO} (h : ObjAt g w s o) (h' : ObjAt g' w' s o) : ObjAt g w' s o := by
  obtain ⟨G, h1, h2⟩ := h
  obtain ⟨G', h1', h2'⟩ := h'
  have := he _ _ h1
  rw [h1'] at this; cases this
  refine ⟨_, h1, ?_⟩
  cases o with
  | cells cs => obtain ⟨_, _, _, _, _, k4⟩ := h2; obtain ⟨cur, T, j1, j2, j3, j4⟩ := h2'; exact ⟨cur, T, j1, j2, j3, VRs.back he _ _ _ k4 j4⟩
  | map es => obtain ⟨_, _, _, k2, _⟩ := h2; obtain ⟨ms, clk, j1, j2, j3⟩ := h2'; exact ⟨ms, clk, j1, VRs.back he _ _ _ k2 j2, j3⟩
  | iter m si la se =>
    obtain ⟨_, _, _, _, k3⟩ := h2
    obtain ⟨mr, sn, j1, j2, j3⟩ := h2'
    refine ⟨mr, sn, j1, j2, ?_⟩
    cases m with
    | none => exact j3
    | some q =>
      obtain ⟨G1, i1, _⟩ := k3
      obtain ⟨G2, i2, i3⟩ := j3
      have := he _ _ i1
      rw [i2] at this; cases this
      exact ⟨_, i1, i3⟩
  | seen q n i =>
    obtain ⟨G1, _, i1, _⟩ := h2
    obtain ⟨G2, sn, i2, i3⟩ := h2'
    have := he _ _ i1
    rw [i2] at this; cases this
    exact ⟨_, sn, i1, i3⟩
end
section
variable {C : HC} {B : Base} {N : Nat} {g g' : Gh} {h h' : HS} {a a' : Act} {w w' : World}
theorem R.back (hR : R C B N g h a w) (hR' : R C B N g' h' a' w') (he : Ext g g') {k : HS} (hn : k.n = h.n) (hm : k.m = h.m) (htm : ∀ t x, lk t k.tmps = some x → ∃ u, a'.tmps[t]? = some u ∧ VR g x u) (hob : ∀ t o, lk t k.objs = some o → ObjAt g w' t o) (hk : ∀ t o, lk t k.objs = some o → ∃ o', lk t h.objs = some o') : R C B N g k a' w' := by
  refine ⟨hR'.size, hR'.defs, htm, hob, by rw [hn, hm]; exact hR.new, fun s t o p G G' hs ht => ?_, fun s G hs => hR'.low s G (he _ _ hs), fun s o G hs => ?_, hR'.fr⟩
  · obtain ⟨_, j1⟩ := hk s o hs
    obtain ⟨_, j2⟩ := hk t p ht
    exact hR.sep s t _ _ G G' j1 j2
  · obtain ⟨_, j1⟩ := hk s o hs
    exact hR.out s _ G j1
theorem R.less (hR : R C B N g h a w) {k : HS} (hn : k.n = h.n) (hm : k.m = h.m) (htm : ∀ t x, lk t k.tmps = some x → lk t h.tmps = some x) (hob : ∀ t o, lk t k.objs = some o → lk t h.objs = some o) : R C B N g k a w :=
  R.back hR hR .rfl hn hm (fun t x hx => hR.tm t x (htm t x hx)) (fun t o ho => hR.ob t o (hob t o ho)) fun t o ho => ⟨o, hob t o ho⟩
theorem R.alias (hR : R C B N g h a w) (hnm : h.n < h.m) {s : Nat} {o : HO} {G : GB} (hs : lk s h.objs = some o) (hG : g s = some G) (G' : GB) (hb : G'.b = G.b) (ho : HO) (hob : ObjAt (g.new h.n G') w h.n ho) :
    Ext g (g.new h.n G') ∧ R C B N (g.new h.n G') (newO { h with objs := delO s h.objs } ho) a w := by
  have he := Ext.new (hR.new.1 h.n (Nat.le_refl _) hnm) G'
  have hold : ∀ q p, lk q (newO { h with objs := delO s h.objs } ho).objs = some p → (q = h.n ∧ p = ho) ∨ (q ≠ h.n ∧ q ≠ s ∧ lk q h.objs = some p) := fun q p hq => by
    simp only [newO, lk] at hq
    split at hq
    · rename_i e; simp only [Option.some.injEq] at hq; exact .inl ⟨e.symm, hq.symm⟩
    · rename_i e
      rw [lk_delO] at hq
      split at hq
      · cases hq
      · rename_i hne; exact .inr ⟨fun e' => e e'.symm, hne, hq⟩
  refine ⟨he, hR.size, hR.defs, fun k x hk => ?_, fun q p hq => ?_, ⟨fun q h1 h2 => ?_, fun q hq => ?_⟩, fun q t p p' G1 G2 h1 h2 e1 e2 hbb => ?_, fun q G1 h1 => ?_, fun q p G1 hq h1 => ?_, hR.fr⟩
  · obtain ⟨u, h1, h2⟩ := hR.tm k x hk
    exact ⟨u, h1, VR.ext he _ _ h2⟩
  · rcases hold q p hq with ⟨rfl, rfl⟩ | ⟨_, hne, h1⟩
    · exact hob
    · exact (hR.ob q p h1).ext he fun _ _ => rfl
  · have h1 : h.n + 1 ≤ q := h1
    have h2 : q < h.m := h2
    have : q ≠ h.n := by omega
    simp only [Gh.new, this, if_false]
    exact hR.new.1 q (by omega) h2
  · obtain ⟨q1, q2⟩ := hR.new.2 q hq
    have : q ≠ h.n := by omega
    simp only [Gh.new, this, if_false]
    exact ⟨q1, by simp only [newO]; omega⟩
  · rcases hold q p h1 with ⟨rfl, _⟩ | ⟨n1, hne, j1⟩ <;> rcases hold t p' h2 with ⟨rfl, _⟩ | ⟨n2, hne', j2⟩
    · rfl
    · exfalso
      rcases Gh.new_inv e1 with ⟨k1, _⟩ | ⟨_, rfl⟩
      · exact k1 rfl
      · rcases Gh.new_inv e2 with ⟨_, k2⟩ | ⟨k2, _⟩
        · exact hne' (hR.sep t s p' o G2 G j2 hs k2 hG (by rw [← hbb, hb]))
        · exact n2 k2
    · exfalso
      rcases Gh.new_inv e2 with ⟨k1, _⟩ | ⟨_, rfl⟩
      · exact k1 rfl
      · rcases Gh.new_inv e1 with ⟨_, k2⟩ | ⟨k2, _⟩
        · exact hne (hR.sep q s p o G1 G j1 hs k2 hG (by rw [hbb, hb]))
        · exact n1 k2
    · rcases Gh.new_inv e1 with ⟨_, k1⟩ | ⟨k1, _⟩
      · rcases Gh.new_inv e2 with ⟨_, k2⟩ | ⟨k2, _⟩
        · exact hR.sep q t p p' G1 G2 j1 j2 k1 k2 hbb
        · exact absurd k2 n2
      · exact absurd k1 n1
  · rcases Gh.new_inv h1 with ⟨_, k1⟩ | ⟨_, rfl⟩
    · exact hR.low q G1 k1
    · rw [hb]; exact hR.low s G hG
  · rcases hold q p hq with ⟨rfl, _⟩ | ⟨n1, _, j1⟩
    · rcases Gh.new_inv h1 with ⟨k1, _⟩ | ⟨_, rfl⟩
      · exact absurd rfl k1
      · rw [hb]; exact hR.out s o G hs hG
    · rcases Gh.new_inv h1 with ⟨_, k1⟩ | ⟨k1, _⟩
      · exact hR.out q p G1 j1 k1
      · exact absurd k1 n1
theorem next_any (hR : R C B N g h a w) {s q n : Nat} {S : List Nat} {es : List HV} (hs : lk s h.objs = some (.iter (some q) n n S)) (hq : lk q h.objs = some (.map es)) (hn : n = es.length / 2) {ux : Value} {ty : TypeId} (hx : VR g (.it s) ux) :
    (leftH n S = [] ∧ (Instr.next ux false ty).run C.P w = .ok (.tuple #[.bool false]) w) ∨
    ∃ i w' k v u, i ∈ leftH n S ∧ es[2 * i]? = some k ∧ es[2 * i + 1]? = some v ∧ (Instr.next ux false ty).run C.P w = .ok u w' ∧ VR g (.tup [.v (.bool true), k, v]) u ∧ R C B N g { h with objs := updO s (.iter (some q) n n (S ++ [i])) h.objs } a w' := by
  simp only [VR] at hx
  obtain ⟨G, hG, rfl⟩ := hx
  obtain ⟨G', hG', mr, sn, j1, rfl, G2, hG2, rfl⟩ := hR.ob s _ hs
  rw [hG] at hG'; cases hG'
  have r1 : (getObj G.b).run C.P w = .ok (.mapIter (some G2.b) n sn n) w := by simp [getObj, Sem.run, j1]
  obtain ⟨G3, hG3, ms, clk, k1, k2, rfl, k4⟩ := hR.ob q _ hq
  rw [hG2] at hG3; cases hG3
  have hl := mapLen k2
  rw [hl] at hn
  subst hn
  have r2 := MapKept.run_getObj_map (P := C.P) k1
  have hlf := left_filter k4 sn
  have hall : (!sn.isEmpty && !ms.isEmpty && ms.all (fun e => decide (e.born ≥ ms.size))) = false := by
    by_cases h0 : ms.size = 0
    · simp [Array.isEmpty, h0]
    · have hlt : 0 < ms.size := Nat.pos_of_ne_zero h0
      have e0 := k4 0 ms[0] (Array.getElem?_eq_getElem hlt)
      have : ms.all (fun e => decide (e.born ≥ ms.size)) = false := by
        rw [Array.all_eq_false]
        exact ⟨0, hlt, fun hd => by have := of_decide_eq_true hd; omega⟩
      simp [this]
  generalize hL : ms.filter (fun e => !sn.contains e.born) = L
  have hLl : L.toList.map (·.born) = leftH ms.size sn.toList := by rw [← hlf, ← hL, Array.toList_filter]
  have hmemL : ∀ e ∈ L, e ∈ ms := fun e he => by rw [← hL] at he; exact (Array.mem_filter.1 he).1
  have hlt : ∀ e ∈ L, e.born < ms.size := fun e he => by
    obtain ⟨i, hi, e1⟩ := Array.mem_iff_getElem.1 (hmemL e he)
    have := k4 i e (by rw [Array.getElem?_eq_getElem hi, e1])
    omega
  have hold : L.filter (fun e => decide (e.born < ms.size)) = L := by
    rw [Array.filter_eq_self]
    intro e he
    simpa using hlt e he
  have hnew : L.filter (fun e => decide (ms.size ≤ e.born)) = #[] := by
    rw [Array.filter_eq_empty_iff]
    intro e he hc
    have := hlt e he
    simp at hc
    omega
  by_cases h0 : L.size = 0
  · left
    have : L = #[] := Array.eq_empty_of_size_eq_zero h0
    subst this
    refine ⟨by simpa using hLl.symm, ?_⟩
    simp only [Instr.next, Sem.run_bind, r1, r2, Result.andThen_ok, hall, Bool.false_eq_true, if_false, hL]
    simp [Question.forced]
  · right
    have hne : L.isEmpty = false := by simp [Array.isEmpty, h0]
    have hch : ∃ (j : Nat) (w1 : World), j < L.size ∧ (w1 = w ∨ w1 = w.drew) ∧ (choose (Question.mapNext L.size)).run C.P w = .ok j w1 := by
      by_cases hf : L.size ≤ 1
      · exact ⟨0, w, by omega, Or.inl rfl, by simp [choose, Sem.run, Question.forced, hf]⟩
      · exact ⟨_, w.drew, Nat.mod_lt _ (by omega), Or.inr rfl, by
          simp only [choose, Sem.run, Question.forced, decide_eq_true_eq, hf, if_false, Question.cut]
          rfl⟩
    obtain ⟨j, w1, hj, hal, hrun⟩ := hch
    have hmem : L[j] ∈ L := Array.getElem_mem hj
    obtain ⟨i, hi, e1⟩ := Array.mem_iff_getElem.1 (hmemL _ hmem)
    have hbi := k4 i L[j] (by rw [Array.getElem?_eq_getElem hi, e1])
    have hj1 : w1.heap[G.b]? = some (.mapIter (some G2.b) ms.size sn ms.size) := by rcases hal with rfl | rfl <;> exact j1
    have hR1 : R C B N g h a w1 := by rcases hal with rfl | rfl <;> first | exact hR | exact hR.drew
    have hw' : ({ w1 with heap := w1.heap.setIfInBounds G.b (.mapIter (some G2.b) ms.size (sn.push i) ms.size) } : World).heap[G.b]? = some (.mapIter (some G2.b) ms.size (sn.push i) ms.size) := (MapKept.heap_set hj1).1
    obtain ⟨f1, f2⟩ := flatE_get ms.toList i L[j] (by simp [hi, e1])
    obtain ⟨k, m1, m2⟩ : ∃ k, es[2 * i]? = some k ∧ VR g k L[j].key := by
      have hlen := VRs.length k2
      have : 2 * i < es.length := by
        have := (List.getElem?_eq_some_iff.1 f1).1
        omega
      obtain ⟨u, q1, q2⟩ := VRs.get k2 (2 * i) es[2 * i] (List.getElem?_eq_getElem this)
      rw [f1] at q1; cases q1
      exact ⟨_, List.getElem?_eq_getElem this, q2⟩
    obtain ⟨v, n1, n2⟩ : ∃ v, es[2 * i + 1]? = some v ∧ VR g v L[j].val := by
      have hlen := VRs.length k2
      have : 2 * i + 1 < es.length := by
        have := (List.getElem?_eq_some_iff.1 f2).1
        omega
      obtain ⟨u, q1, q2⟩ := VRs.get k2 (2 * i + 1) es[2 * i + 1] (List.getElem?_eq_getElem this)
      rw [f2] at q1; cases q1
      exact ⟨_, List.getElem?_eq_getElem this, q2⟩
    refine ⟨i, _, k, v, .tuple #[.bool true, L[j].key, L[j].val], ?_, m1, n1, ?_, ?_, hR1.setMap hs hG _ _ hj1 _ ⟨G, hG, some G2.b, sn.push i, hw', by simp, G2, hG2, rfl⟩⟩
    · rw [← hLl, ← hbi]
      exact List.mem_map.2 ⟨L[j], by simp, rfl⟩
    · have hset : (setObj G.b (.mapIter (some G2.b) ms.size (sn.push i) ms.size)).run C.P w1 = .ok () { w1 with heap := w1.heap.setIfInBounds G.b (.mapIter (some G2.b) ms.size (sn.push i) ms.size) } := by simp [setObj, Sem.run, hj1]
      simp only [Instr.next, Sem.run_bind, r1, r2, Result.andThen_ok, hall, Bool.false_eq_true, if_false, hL, ge_iff_le, hold, hnew, hne, Array.append_empty, Array.empty_append, Array.size_map, hrun, Array.getElem?_map, Array.getElem?_eq_getElem hj, Option.map_some, hbi, hset, Sem.run_pure]
    · simp only [VR]; exact ⟨_, rfl, by simp [VRs, VR, m2, n2]⟩
end
end Go.H
