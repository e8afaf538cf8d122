/- part 6 of the proof -/
import Derived.WalkKit
import Derived.ProofKit
import GoSem.ClaimSeven
import Derived.Test.YtabbhaeabcdonaaGreatDoorM05
set_option linter.all false
namespace Go.Abs
section
variable {X : Env} {A : A0} {N : Nat} {g : Gh} {st : St} {a : Act} {w : World} {P : Program}
theorem eqIn_nil (d : Nat) {t e : TypeId} (h : P.underlying t = some (.slice e)) (a : Option Addr) (n c : Nat) : (Op.equalIn (d + 1) t (.slice a n c) (.slice none 0 0)).run P w = .ok a.isNone w := by
  cases a <;> simp [Op.equalIn, run_underlying h]
theorem sl_val {t : Tag} {n : Nat} {es : List (List AV)} {u : Value} (h : VR g w (.sl t n es) u) : ∃ a k c, u = .slice a k c ∧ (a.isNone = true → es = []) := by
  have ro : VR g w (.sl t n es) u → (∀ r lo, t ≠ .own r lo) → ∃ a k c, u = .slice a k c ∧ (a.isNone = true → es = []) := fun h ht => by
    have hp : PR (isRo g) w (.sl t n es) u := by
      cases t with
      | own r lo => exact absurd rfl (ht r lo)
      | no => simpa only [VR] using h
      | full => simpa only [VR] using h
    simp only [PR] at hp
    obtain ⟨_, a, cap, rfl, _, _, _, _, h5⟩ := hp
    refine ⟨_, _, _, rfl, fun ha => ?_⟩
    rcases h5 with h5 | ⟨ad, rfl, _⟩
    · exact h5
    · cases ha
  cases t with
  | own r lo =>
    simp only [VR, OwnSl] at h
    rcases h.2 with ⟨rfl, h2⟩ | ⟨_, h2, a, cap, rfl, _⟩ | ⟨cap, cur, T, rfl, _⟩
    · exact ⟨_, _, _, rfl, fun _ => h2⟩
    · exact ⟨_, _, _, rfl, fun _ => h2⟩
    · exact ⟨_, _, _, rfl, fun ha => by cases ha⟩
  | no => exact ro h fun _ _ e => by cases e
  | full => exact ro h fun _ _ e => by cases e
theorem wp_nil (hA : A.ext = X.ext) (hX : ∀ s ∈ X.ext, s % 32 = 31) {r0 cnd rest : Code} {id t3 t4 : Nat} {om ob : Oper} {x : Operand} {t t2 e : TypeId} {tg : Tag} {n : Nat} {es : List (List AV)} {S1 : St} {Q : Ex → St → Prop}
    (hok : codeOK N (.seq r0 (.seq (.seq (.region id #[om, ob] false) cnd) rest)) = true)
    (hm : om.op = .move x) (hmd : om.dst = some t3) (hmg : om.guard = none) (hb : ob.op = .binOp .eql t (.tmp t3) (.const (.slice none 0 0)) t2) (hbd : ob.dst = some t4) (hbg : ob.guard = none)
    (ht : X.C.P.underlying t = some (.slice e)) (h0 : wpA X r0 (fun e st' => e = .normal ∧ st' = S1) st) (hx : ev X.C S1 x = .sl tg n es)
    (h2 : ∀ b, (b = true → es = []) → wpA X (.seq cnd rest) Q ((S1.put (some t3) (.sl tg n es)).put (some t4) (.v (.bool b)))) (hR : R X.C A N g st a w) :
    (Code.seq r0 (.seq (.seq (.region id #[om, ob] false) cnd) rest)).wp X.C.P (postA X A N Q) a w := by
  simp only [codeOK, Bool.and_eq_true, Array.all_eq_true'] at hok
  obtain ⟨hok0, ⟨hok1, hok2⟩, hok3⟩ := hok
  refine wp_seq (wp_mono (wpA_sound hA hX r0 _ g st a w hok0 h0 hR) fun e a1 w1 hq => ?_)
  cases e with
  | normal =>
    obtain ⟨g1, st1, hR1, _, rfl⟩ := hq
    have d3 : t3 < N := by have := hok1 om (by simp); simpa [opOK, hmd] using this
    have d4 : t4 < N := by have := hok1 ob (by simp); simpa [opOK, hbd] using this
    have hv := hR1.ev x
    rw [hx] at hv
    obtain ⟨ad, k, c, hu, hnil⟩ := sl_val hv
    have hR2 := hR1.put (d := some t3) (fun q hq => by cases hq; exact d3) hv
    have hR3 := hR2.put (d := some t4) (fun q hq => by cases hq; exact d4) (x := .v (.bool ad.isNone)) (u := .bool ad.isNone) (by simp [VR])
    refine wp_seq (wp_seq (wp_region_list ?_))
    have hwm : Region.wanted om (yielded #[om, ob] a1.tmps) = true := by simp [Region.wanted, hmg]
    have hwd : Region.wanted ob (yielded #[om, ob] (a1.put (some t3) (a1.eval x)).tmps) = true := by simp [Region.wanted, hbg]
    simp only [wpList]
    rw [if_pos hwm]
    refine .inl ?_
    have q1 : (execOp a1.eval om).run X.C.P w1 = .ok (.value (a1.eval x)) w1 := by
      simp only [execOp, hm]
      rfl
    unfold Oper.wp
    rw [q1, Oper.upon_value, hmd]
    rw [if_pos hwd]
    refine .inl ?_
    have hget : (a1.put (some t3) (a1.eval x)).eval (.tmp t3) = .slice ad k c := by
      have : t3 < a1.tmps.size := by rw [hR1.size]; exact d3
      simp [Act.eval, Act.put, Array.getD_eq_getD_getElem?, this, ← hu]
    have q2 : (execOp (a1.put (some t3) (a1.eval x)).eval ob).run X.C.P w1 = .ok (.value (.bool ad.isNone)) w1 := by
      have hn : (a1.put (some t3) (a1.eval x)).eval (.const (.slice none 0 0)) = .slice none 0 0 := rfl
      have e0 := eqIn_nil (P := X.C.P) (w := w1) 9999 ht ad k c
      simp only [execOp, hb, hget, hn]
      have e1 : ∀ p q, eqGuard .eql t p q (.slice ad k c) (.slice none 0 0) = pure () := fun p q => rfl
      have e2 : binOp .eql t (.slice ad k c) (.slice none 0 0) = (do pure (.bool (← Op.equal t (.slice ad k c) (.slice none 0 0)))) := rfl
      have e3 : (Op.equal t (.slice ad k c) (.slice none 0 0)).run X.C.P w1 = .ok ad.isNone w1 := e0
      simp only [e1, e2, Sem.run_bind, Sem.run_pure, Result.andThen_ok, e3]
    rw [q2, Oper.upon_value, hbd]
    have hh := h2 ad.isNone hnil
    rw [wpA_seq] at hh
    refine wp_mono (wpA_sound hA hX cnd _ g1 _ _ w1 hok2 hh hR3) fun e a2 w2 hq => ?_
    cases e with
    | normal => obtain ⟨g2, st2, hr, hk⟩ := hq; exact wpA_sound hA hX rest Q g2 st2 a2 w2 hok3 hk hr
    | exit id => exact hq
    | ret => exact hq
    | goto l => exact hq.elim
    | panic ch => exact hq.elim
    | outgrown => exact hq.elim
  | exit id => obtain ⟨_, _, _, h, _⟩ := hq; cases h
  | ret => obtain ⟨_, _, _, h, _⟩ := hq; cases h
  | goto l => exact hq.elim
  | panic ch => exact hq.elim
  | outgrown => exact hq.elim
end
end Go.Abs
namespace Go.Abs
open Go Go.ChangeShapes Go.WideShapes Go.RowKit
def CodN (P : Program) (N : Nat) (t : TypeId) {α : Type} (e : α → List AV) : Prop :=
  ∀ (H : Type) (enc : TypeId × Value → H) (w : World) (fuel : Nat) (cs : List Value) (x : DataW H × List MemPlace), fuel ≤ N → DataW.trod enc P w 0 (fun _ => true) true fuel t cs = some x →
    ∃ a, PRl (fun b => b < w.heap.size) w (e a) cs
def CodF (P : Program) (N b : Nat) (fs : List Field) {α : Type} (e : α → List AV) : Prop :=
  ∀ (H : Type) (enc : TypeId × Value → H) (w : World) (n : Nat) (cs : List Value) (ys : List (DataW H × List MemPlace)), n ≤ N → cs.length = b + (fs.map fun f => P.cellsOf f.type).sum → ys.length = fs.length →
    (∀ (i : Nat) (f : Field), fs[i]? = some f → DataW.trod enc P w 0 (fun _ => true) true n f.type ((cs.drop f.offset).take (P.cellsOf f.type)) = ys[i]?) →
    ∃ a, PRl (fun b => b < w.heap.size) w (e a) (cs.drop b)
variable {P : Program} {t : TypeId}
theorem CodN.mono {N M : Nat} {α : Type} {e : α → List AV} (h : CodN P N t e) (hm : M ≤ N) : CodN P M t e := fun H enc w fuel cs x hf hx => h H enc w fuel cs x (Nat.le_trans hf hm) hx
theorem Cod.toN {α : Type} {e : α → List AV} {m : α → Nat} {Q : α → Prop} (h : Cod P t e m Q) (N : Nat) : CodN P N t e := fun H enc w fuel cs x _ hx => by
  obtain ⟨a, _, _, h3⟩ := h H enc w fuel cs x hx
  exact ⟨a, h3⟩
theorem CodN.toCod {α : Type} {e : α → List AV} (h : ∀ N, CodN P N t e) : Cod P t e (fun _ => 0) (fun _ => True) := fun H enc w fuel cs x hx => by
  obtain ⟨a, h3⟩ := h fuel H enc w fuel cs x (Nat.le_refl _) hx
  exact ⟨a, trivial, Nat.zero_le _, h3⟩
theorem CodN.map {N : Nat} {α β : Type} {e : α → List AV} {e' : β → List AV} (h : CodN P N t e) (hf : ∀ a, ∃ b, e' b = e a) : CodN P N t e' := fun H enc w fuel cs x hn hx => by
  obtain ⟨a, q⟩ := h H enc w fuel cs x hn hx
  obtain ⟨b, hb⟩ := hf a
  exact ⟨b, hb ▸ q⟩
theorem codn_zero {α : Type} {e : α → List AV} : CodN P 0 t e := fun H enc w fuel cs x hn hx => by
  obtain rfl : fuel = 0 := by omega
  simp [DataW.trod] at hx
theorem codn_slice {N : Nat} {el : TypeId} {α : Type} {e : α → List AV} {n : Nat} (he : CodN P N el e) (ht : P.underlying t = some (.slice el)) (hc : P.cellsOf el = n) (hn : 0 < n) :
    CodN P (N + 1) t (fun xs : List α => [.sl .no n (xs.map e)]) := by
  intro H enc w fuel cs x hf h
  rcases DataW.trod_slice ht h with ⟨rfl, rfl⟩ | ⟨a, len, cap, elems, rest, k, rfl, rfl, rfl, _, hl, hm, hlen, hel, _, _⟩
  · refine ⟨[], ?_, trivial⟩
    simp only [List.map_nil, PR]
    exact ⟨by simp, none, 0, rfl, by simp, by simp, by simp, hn, Or.inl trivial⟩
  · subst hlen
    obtain ⟨xs, hxl, hxs⟩ := pick (α := α) (q := fun _ _ => True) (R := fun i x y => ∃ cs, w.cells? 0 (a.add (i * n)) n = some cs ∧ PRl (fun b => b < w.heap.size) w (e x) cs) elems.length elems rfl (by
      intro i y hy
      have hi : i < elems.length := by
        rcases Nat.lt_or_ge i elems.length with h | h
        · exact h
        · rw [List.getElem?_eq_none h] at hy; cases hy
      have := hel i hi
      rw [hy, hc, Option.bind_eq_some_iff] at this
      obtain ⟨cs, h1, h2⟩ := this
      obtain ⟨x, q3⟩ := he H enc w k cs y (by omega) h2
      exact ⟨x, cs, h1, q3⟩)
    have hget : ∀ i x, xs[i]? = some x → ∃ y, elems[i]? = some y := fun i x hx => by
      have : i < elems.length := by
        rcases Nat.lt_or_ge i xs.length with h | h
        · omega
        · rw [List.getElem?_eq_none h] at hx; cases hx
      exact ⟨_, List.getElem?_eq_getElem this⟩
    refine ⟨xs, ?_, trivial⟩
    simp only [PR]
    refine ⟨by simp, some a, cap, by simp [hxl], by simp [hxl, hl], hm, by simp, hn, ?_⟩
    cases xs with
    | nil => exact Or.inl rfl
    | cons x xs =>
      refine Or.inr ⟨a, rfl, ?_, pre_of_elems fun i x hx => ?_⟩
      · obtain ⟨y, hy⟩ := hget 0 x rfl
        obtain ⟨cs, h1, _⟩ := hxs 0 x y rfl hy
        obtain ⟨_, hl, hcell⟩ := World.cells?_some h1
        have h0 := hcell 0 hn
        cases cs with
        | nil => simp at hl; omega
        | cons c cs => exact (show (a.add (0 * n + 0)).block = a.block by simp [Addr.add]) ▸ lt_of_cell (by rw [addr_add] at h0; simpa using h0)
      · obtain ⟨y, hy⟩ := hget i x hx
        obtain ⟨cs, h1, h2⟩ := hxs i x y hx hy
        exact ⟨cs, by simpa using h1, h2⟩
theorem codf_nil {N b : Nat} : CodF P N b [] (fun _ : Unit => []) := by
  intro H enc w n cs ys _ hl _ _
  have : cs.drop b = [] := List.drop_eq_nil_of_le (by simpa using Nat.le_of_eq hl)
  rw [this]
  exact ⟨(), trivial⟩
theorem codf_cons {N b : Nat} {f : Field} {fs : List Field} {α β : Type} {e : α → List AV} {e' : β → List AV} (h : CodN P N f.type e) (hb : f.offset = b) (hs : CodF P N (b + P.cellsOf f.type) fs e') :
    CodF P N b (f :: fs) (fun x : α × β => e x.1 ++ e' x.2) := by
  intro H enc w n cs ys hn hl hy hfs
  cases ys with
  | nil => simp at hy
  | cons y ys =>
    have h0 := hfs 0 f rfl
    rw [hb] at h0
    obtain ⟨a, ha⟩ := h H enc w n _ y hn h0
    obtain ⟨c, hc⟩ := hs H enc w n cs ys hn (by simp only [List.map_cons, List.sum_cons] at hl; omega) (by simpa using hy) fun i g hg => by simpa using hfs (i + 1) g (by simpa using hg)
    refine ⟨(a, c), ?_⟩
    have := PRl.append ha hc
    have e : (cs.drop b).take (P.cellsOf f.type) ++ cs.drop (b + P.cellsOf f.type) = cs.drop b := by
      rw [← List.drop_drop, List.take_append_drop]
    rw [e] at this
    exact this
theorem codn_struct {N : Nat} {fs : Array Field} {α : Type} {e : α → List AV} (ht : P.underlying t = some (.struct fs)) (hc : P.cellsOf t = (fs.toList.map fun f => P.cellsOf f.type).sum) (h : CodF P N 0 fs.toList e) : CodN P (N + 1) t e := by
  intro H enc w fuel cs x hf hx
  obtain ⟨xs, n, rfl, rfl, hl, hlen, hfs⟩ := DataW.trod_struct ht hx
  obtain ⟨a, ha⟩ := h H enc w n cs xs (by omega) (by rw [hl, hc]; simp) (by simpa using hlen) fun i f hfi => hfs i f (by simpa using hfi)
  exact ⟨a, by simpa using ha⟩
def flds (P : Program) (t : TypeId) : Option (List (TypeId × Nat)) := match P.underlying t with
  | some (.struct fs) => some (fs.toList.map fun f => (f.type, f.offset))
  | _ => none
def CodG (P : Program) (N b : Nat) (l : List (TypeId × Nat)) {α : Type} (e : α → List AV) : Prop := ∀ fs : List Field, (fs.map fun f => (f.type, f.offset)) = l → CodF P N b fs e
theorem codg_nil {N b : Nat} : CodG P N b [] (fun _ : Unit => []) := fun fs h => by
  obtain rfl : fs = [] := by simpa using h
  exact codf_nil
theorem codg_cons {N b sz : Nat} {ty : TypeId} {l : List (TypeId × Nat)} {α β : Type} {e : α → List AV} {e' : β → List AV} (h : CodN P N ty e) (hz : P.cellsOf ty = sz) (hs : CodG P N (b + sz) l e') :
    CodG P N b ((ty, b) :: l) (fun x : α × β => e x.1 ++ e' x.2) := fun fs hfs => by
  cases fs with
  | nil => simp at hfs
  | cons f fs =>
    simp only [List.map_cons, List.cons.injEq, Prod.mk.injEq] at hfs
    obtain ⟨⟨h1, h2⟩, h3⟩ := hfs
    subst h1
    exact codf_cons h h2 (by rw [hz]; exact hs fs h3)
theorem codn_g {N : Nat} {l : List (TypeId × Nat)} {α : Type} {e : α → List AV} (ht : flds P t = some l) (hc : P.cellsOf t = (l.map fun x => P.cellsOf x.1).sum) (h : CodG P N 0 l e) : CodN P (N + 1) t e := by
  unfold flds at ht
  split at ht
  · rename_i fs hu
    simp only [Option.some.injEq] at ht
    refine codn_struct hu ?_ (h fs.toList ht)
    rw [hc, ← ht, List.map_map]
    rfl
  · cases ht
theorem arg_g {l : List (TypeId × Nat)} {α : Type} {e : α → List AV} (he : ∀ N, CodN P N t e) (ht : flds P t = some l) : Arg P t (fun a : α => .agg (e a)) (fun _ => 0) (fun _ => True) := by
  intro H enc w base v d ps hv hd
  unfold flds at ht
  split at ht
  · rename_i fs hu
    obtain ⟨us, rfl, _⟩ := okWide_struct hu hv
    obtain ⟨fuel, hf⟩ := hd
    obtain ⟨a, hp⟩ := he fuel H enc w fuel _ _ (Nat.le_refl _) hf
    refine ⟨a, trivial, Nat.zero_le _, us, rfl, ?_⟩
    have hp' : PRl (isRo (gh0 w)) w (e a) us.toList := by
      rw [isRo_gh0]
      exact hp
    exact hp'.VRs
  · cases ht
theorem arg_struct {fs : Array Field} {α : Type} {e : α → List AV} (he : ∀ N, CodN P N t e) (ht : P.underlying t = some (.struct fs)) : Arg P t (fun a : α => .agg (e a)) (fun _ => 0) (fun _ => True) := by
  intro H enc w base v d ps hv hd
  obtain ⟨us, rfl, _⟩ := okWide_struct ht hv
  obtain ⟨fuel, hf⟩ := hd
  obtain ⟨a, hp⟩ := he fuel H enc w fuel _ _ (Nat.le_refl _) hf
  refine ⟨a, trivial, Nat.zero_le _, us, rfl, ?_⟩
  have hp' : PRl (isRo (gh0 w)) w (e a) us.toList := by
    rw [isRo_gh0]
    exact hp
  exact hp'.VRs
theorem chunks {α : Type} (m : Nat) : ∀ (rows : List (List α)) (cs : List α), cs.length = rows.length * m → (∀ i r, rows[i]? = some r → (cs.drop (i * m)).take m = r) → cs = rows.flatten
  | [], cs, hl, _ => List.eq_nil_of_length_eq_zero (by simpa using hl)
  | r :: rows, cs, hl, h => by
    have h0 := h 0 r rfl
    have := chunks m rows (cs.drop m) (by simp only [List.length_cons, Nat.add_mul] at hl; rw [List.length_drop, hl]; omega) fun i r' hr => by
      have := h (i + 1) r' (by simpa using hr)
      rw [List.drop_drop]
      rwa [show m + i * m = (i + 1) * m by rw [Nat.add_mul]; omega]
    simp only [Nat.zero_mul, List.drop_zero] at h0
    rw [List.flatten_cons, ← this, ← h0, List.take_append_drop]
theorem arr_read {H : Type} {enc : TypeId × Value → H} {w : World} {fuel n : Nat} {sp : Nat → Bool} {held : Bool} {base : Nat} {e : TypeId} {cs : List Value} {ds : List (DataW H)} {p : List MemPlace} {f : List (List Value)}
    (ht : P.underlying t = some (.array n e)) (hct : P.cellsOf t = n * P.cellsOf e) (h : DataW.trod enc P w base sp held fuel t cs = some (.agg ds, p)) (hl : ds.length = f.length)
    (hf : ∀ (i : Nat) (d : DataW H) (c : List Value), ds[i]? = some d → f[i]? = some c → ∀ fuel cs' p', DataW.trod enc P w base sp held fuel e cs' = some (d, p') → cs' = c) : cs = f.flatten := by
  obtain ⟨xs, m, _, hx, hcl, hxl, hel⟩ := DataW.trod_array ht h
  have hx1 : ds = xs.map (·.1) := by
    have := congrArg Prod.fst hx
    simpa using this
  have hn : f.length = n := by rw [← hl, hx1]; simpa using hxl
  refine chunks _ f cs (by rw [hcl, hct, hn]) fun i c hc => ?_
  have hi : i < f.length := by
    rcases Nat.lt_or_ge i f.length with h | h
    · exact h
    · rw [List.getElem?_eq_none h] at hc; cases hc
  have hxi : xs[i]? = some xs[i] := List.getElem?_eq_getElem (by omega)
  have h1 := hel i (by omega)
  rw [hxi] at h1
  refine hf i xs[i].1 c ?_ hc m _ xs[i].2 h1
  rw [hx1, List.getElem?_map, hxi]
  rfl
theorem bool_cells {H : Type} {enc : TypeId × Value → H} {w : World} {fuel : Nat} {sp : Nat → Bool} {held : Bool} {base : Nat} {cs : List Value} {b : Bool} {p : List MemPlace} (ht : P.underlying t = some .bool)
    (h : DataW.trod enc P w base sp held fuel t cs = some (.lit (.bool b), p)) : cs = [.bool b] := by
  obtain ⟨n, rfl, h2⟩ := DataW.trod_bool ht h
  simp at h2
  rw [h2.1]
def rowD {H : Type} (r : List Bool) : DataW H := .agg (r.map fun b => .lit (.bool b))
def tabD {H : Type} (rows : List (List Bool)) : DataW H := .agg (rows.map rowD)
theorem tab_cells {H : Type} {enc : TypeId × Value → H} {w : World} {fuel n m : Nat} {sp : Nat → Bool} {held : Bool} {base : Nat} {e b : TypeId} {cs : List Value} {rows : List (List Bool)} {p : List MemPlace}
    (ht : P.underlying t = some (.array n e)) (he : P.underlying e = some (.array m b)) (hb : P.underlying b = some .bool) (h1 : P.cellsOf b = 1) (h2 : P.cellsOf e = m) (h3 : P.cellsOf t = n * m)
    (h : DataW.trod enc P w base sp held fuel t cs = some (tabD rows, p)) : cs = rows.flatten.map Value.bool := by
  have key : ∀ r : List Bool, ∀ fuel cs' p', DataW.trod enc P w base sp held fuel e cs' = some (rowD r, p') → cs' = r.map Value.bool := fun r fuel cs' p' h' => by
    have := arr_read (f := r.map fun b => [Value.bool b]) he (by rw [h1, h2, Nat.mul_one]) h' (by simp) fun i d c hd hc fuel cs' p' hx => by
      rw [List.getElem?_map] at hd hc
      cases hr : r[i]? with
      | none => rw [hr] at hd; cases hd
      | some v =>
        rw [hr] at hd hc
        simp at hd hc
        subst hd; subst hc
        exact bool_cells hb hx
    rw [this]
    clear h'  this
    induction r with
    | nil => rfl
    | cons x r ih => simp only [List.map_cons, List.flatten_cons, List.singleton_append, ih]
  have := arr_read (f := rows.map fun r => r.map Value.bool) ht (by rw [h2, h3]) h (by simp) fun i d c hd hc fuel cs' p' hx => by
    rw [List.getElem?_map] at hd hc
    cases hr : rows[i]? with
    | none => rw [hr] at hd; cases hd
    | some v =>
      rw [hr] at hd hc
      simp at hd hc
      subst hd; subst hc
      exact key v _ _ _ hx
  rw [this, List.map_flatten]
theorem glob_tab {C : Ctx} {name : String} {g n m : Nat} {e b : TypeId} {rows : List (List Bool)} {rest : List (String × DataW Unit)} {W : World} (hC : ∀ i cs, C.G i = some cs → i = g ∧ cs = (rows.flatten.map fun b => AV.v (.bool b))) (hpos : 0 < rows.flatten.length)
    (hg : C.P.globalNamed name = some g) (hty : (C.P.globals[g]?).map (·.type) = some t)
    (ht : C.P.underlying t = some (.array n e)) (he : C.P.underlying e = some (.array m b)) (hb : C.P.underlying b = some .bool) (h1 : C.P.cellsOf b = 1) (h2 : C.P.cellsOf e = m) (h3 : C.P.cellsOf t = n * m)
    (h : laidMet C.P ((name, tabD rows) :: rest) W) : Glob C (gh0 W) W := by
  obtain ⟨ps, ⟨g', t', cs, fuel, p, q, hg', ht', hvar, hd, _, _⟩, _⟩ := h
  obtain rfl := Option.some.inj (hg.symm.trans hg')
  obtain rfl := Option.some.inj (hty.symm.trans ht')
  have hcs := tab_cells ht he hb h1 h2 h3 hd
  have hcell := World.var?_cell hg hvar
  intro i xs hi
  obtain ⟨rfl, rfl⟩ := hC i xs hi
  have hlen : cs.toList.length = rows.flatten.length := by rw [hcs, List.length_map]
  have hsz : cs.size = rows.flatten.length := by rw [← hlen, Array.length_toList]
  refine ⟨by rw [List.length_map]; exact hpos, ?_, prc_of_l (us := cs.toList) ?_ ?_⟩
  · have h0 := hcell 0
    have : ∃ v, cs[0]? = some v := ⟨cs[0]'(by omega), Array.getElem?_eq_getElem _⟩
    obtain ⟨v, hv⟩ := this
    rw [hv] at h0
    rw [isRo_gh0]
    exact lt_of_cell h0
  · rw [hcs]
    generalize rows.flatten = l
    induction l with
    | nil => simp [PRl]
    | cons x l ih => exact ⟨⟨rfl, rfl⟩, ih⟩
  · intro k hk
    have := hcell k
    rw [Array.getElem?_toList, Nat.zero_add]
    rw [← this, add_lit, Nat.zero_add]
theorem law_true_G {C : Ctx} {f : Nat} {fn : Func} {s : ChangeSpec} (hs : s.vars = []) {apart fresh handsOn again : Bool} {α : Type} {e : α → List AV} {m : α → Nat} {Q : α → Prop} {tb : TypeId} {ts : List TypeId}
    (hp : fn.params.toList = ts) (ha : Args C.P ts e m Q) (hl : laidOutB C.P = true) (hr : (ts.all fun t => C.P.readableRec t && decide (t < C.P.types.size)) = true) (hres : fn.resultTypes = #[tb]) (htb : C.P.underlying tb = some .bool)
    {H : Type} (enc : TypeId × Value → H) (W : World) (hG : Glob C (gh0 W) W) (base : Nat) (args : Array Value) (ds gs : List (DataW H)) (before : List MemPlace)
    (hval : ∀ (j : Nat) t v, fn.params[j]? = some t → args[j]? = some v → Value.okWide C.P W .any base t v)
    (hW : DataW.Whole enc C.P fn.params.toList s.vars apart W args.toList ds gs before)
    (hfn : ∀ ds : List (DataW H), ds.length = ts.length → (s.fn H ds).results = [.lit (.bool true)] ∧ (s.fn H ds).args = ds ∧ (s.fn H ds).vars = [])
    (hok : ∀ a, Q a → m a ≤ wgtL ds → FnOK C f (e a) [] (.v (.bool true)) []) :
    Calls C.P f args W fun r W' => ∃ v, r = .returned v ∧ s.post enc C.P fn apart fresh handsOn again W args v W' := by
  replace hr : ∀ t ∈ ts, C.P.readableRec t = true ∧ t < C.P.types.size := by simpa using hr
  have hW' := hW
  obtain ⟨p, q, hA, hV, rfl, hfz, hnd⟩ := hW
  rw [hs] at hV
  obtain ⟨rfl, rfl⟩ := trodVars_none hV
  rw [hp] at hA
  obtain ⟨a, q1, q2, q3⟩ := ha H enc W base args.toList ds p (fun j t v hj hv => hval j t v (by rw [← Array.getElem?_toList, hp]; exact hj) (by simpa using hv)) hA
  have hlen : ∀ {ts : List TypeId} {vs : List Value} {ds : List (DataW H)} {ps : List MemPlace}, DataW.TrodAll enc C.P W 0 (fun _ => true) true ts vs ds ps → ds.length = ts.length := by
    intro ts
    induction ts with
    | nil => intro vs ds ps h; obtain ⟨_, rfl, _⟩ := trodAll_nil h; rfl
    | cons t ts ih =>
      intro vs ds ps h
      obtain ⟨v, vs, d, ds, p, q, rfl, rfl, rfl, h1, h2⟩ := trodAll_cons h
      simp [ih h2]
  obtain ⟨hf1, hf2, hf3⟩ := hfn ds (hlen hA)
  have key := (hok a q1 q2).2 (gh0 W) W args.toList hG q3 (fun s cs h => by cases h)
  rw [show args.toList.toArray = args by simp] at key
  refine key.mono fun r W' ⟨u, g', hr1, hF, hy, _⟩ => ?_
  subst hr1
  simp only [VR] at hy
  subst hy
  have hb : Below W.heap.size W W' := ⟨hF.os, hF.tape.1, hF.output, hF.size, fun k hk => (hF.keep k hk (Or.inl (by show (gh0 W).own k = .ro; simp [gh0, hk]))).1⟩
  have hlt : ∀ x ∈ p ++ ([] : List MemPlace), x.block < W.heap.size := fun x hx => hW'.lt x hx
  refine ⟨_, rfl, below_post (pa := p) (pv := []) hW' (fun b sp hd => ?_) (fun sp hsp => ?_) (fun _ _ => ?_) rfl hb (ok_one hres rfl (okWide_bool_mk htb _))⟩
  · simp only [List.append_nil, hf1]
    rw [hres]
    exact trodAll_mk1 (shut_bool htb _)
  · simp only [List.append_nil, hf2]
    rw [hp]
    exact trodAll_stays hl hr hA (fun x hx => hb.same (hlt x (by simpa using hx))) (fun x hx => hsp x (by simpa using hx))
  · simp only [List.append_nil, hf3]
    rw [hs]
    rfl
end Go.Abs
namespace Go.Clo
inductive Tr (α : Type) where
  | leaf
  | node (l : Tr α) (k : Nat) (v : α) (r : Tr α)
def Tr.get {α : Type} : Tr α → Nat → Option α
  | .leaf, _ => none
  | .node l k v r, i => match Nat.blt i k with
    | true => l.get i
    | false => match Nat.beq i k with
      | true => some v
      | false => r.get i
def parts {α β : Type} (f : α → β) (c : Nat) (l : List α) : Nat → List (List β) → Prop
  | i, [] => l.length ≤ c * i
  | i, L :: Ls => ((l.drop (c * i)).take c).map f = L ∧ parts f c l (i + 1) Ls
theorem parts_map {α β : Type} {f : α → β} {c : Nat} {l : List α} : ∀ (Ls : List (List β)) (i : Nat), parts f c l i Ls → (l.drop (c * i)).map f = Ls.flatten
  | [], i, h => by simp only [parts] at h; rw [List.drop_eq_nil_of_le h]; rfl
  | L :: Ls, i, h => by
    simp only [parts] at h
    have ih := parts_map Ls (i + 1) h.2
    rw [List.flatten_cons, ← h.1, ← ih, ← List.map_append]
    congr 1
    have : l.drop (c * (i + 1)) = (l.drop (c * i)).drop c := by rw [List.drop_drop, Nat.mul_add, Nat.mul_one]
    rw [this, List.take_append_drop]
abbrev QItem := List Nat × Bool × List Nat
def item (P : Program) (fn : Func) : QItem := (P.leadsTo fn, fn.goes, fn.body.elim [] Code.globalsNamed)
def eqL : List Nat → List Nat → Bool
  | [], [] => true
  | x :: a, y :: b => Nat.beq x y && eqL a b
  | _, _ => false
theorem eqL_eq : ∀ {a b : List Nat}, eqL a b = true → a = b
  | [], [], _ => rfl
  | [], _ :: _, h => by simp [eqL] at h
  | _ :: _, [], h => by simp [eqL] at h
  | x :: a, y :: b, h => by
    simp only [eqL, Bool.and_eq_true, Nat.beq_eq] at h
    rw [h.1, eqL_eq h.2]
def chk (p : QItem → List Nat) (T : Tr (List Nat)) : Nat → List QItem → Bool
  | _, [] => true
  | i, x :: l => eqL ((T.get i).getD []) (p x) && chk p T (Nat.succ i) l
theorem chk_spec {p : QItem → List Nat} {T : Tr (List Nat)} : ∀ (l : List QItem) (i : Nat), chk p T i l = true → ∀ (j : Nat) (x : QItem), l[j]? = some x → (T.get (i + j)).getD [] = p x
  | [], _, _, j, x, hx => by simp at hx
  | y :: l, i, h, j, x, hx => by
    simp only [chk, Bool.and_eq_true] at h
    cases j with
    | zero => simp at hx; subst hx; exact eqL_eq h.1
    | succ j =>
      have := chk_spec l (Nat.succ i) h.2 j x (by simpa using hx)
      rw [show i + (j + 1) = Nat.succ i + j from by omega]
      exact this
def at' (n : Nat) (T : Tr (List Nat)) (g : Nat) : List Nat := match Nat.blt g n with
  | true => (T.get g).getD []
  | false => []
def via (n : Nat) (T : Tr (List Nat)) : Nat → List Nat → Nat → List Nat → List Nat
  | 0, _, _, seen => seen.reverse
  | _ + 1, [], _, seen => seen.reverse
  | k + 1, f :: todo, m, seen => match Nat.testBit m f with
    | true => via n T k todo m seen
    | false => via n T k (at' n T f ++ todo) (m ||| (1 <<< f)) (f :: seen)
theorem via_eq {P : Program} {n : Nat} {T : Tr (List Nat)} (hE : ∀ g, (P.funcs[g]?).elim [] P.leadsTo = at' n T g) : ∀ (k : Nat) (todo : List Nat) (m : Nat) (seen : List Nat), (∀ x, Nat.testBit m x = seen.contains x) → P.closureVia k todo seen = via n T k todo m seen
  | 0, _, _, _, _ => by simp [Program.closureVia, via]
  | _ + 1, [], _, _, _ => by simp [Program.closureVia, via]
  | k + 1, f :: todo, m, seen, h => by
    simp only [Program.closureVia, via, h f]
    cases hc : seen.contains f with
    | true => simp only [if_true]; exact via_eq hE k todo m seen h
    | false =>
      simp only [Bool.false_eq_true, if_false]
      rw [hE f]
      refine via_eq hE k _ _ _ fun x => ?_
      rw [Nat.testBit_or, h x, Nat.testBit_shiftLeft]
      by_cases hx : x = f
      · subst hx; simp
      · have : (decide (f ≤ x) && Nat.testBit 1 (x - f)) = false := by
          by_cases hle : f ≤ x
          · have h1 : x - f ≠ 0 := by omega
            have h2 : Nat.testBit 1 (x - f) = false := by
              obtain ⟨d, hd⟩ : ∃ d, x - f = d + 1 := ⟨x - f - 1, by omega⟩
              rw [hd, Nat.testBit_succ]
              simp
            rw [h2, Bool.and_false]
          · simp [hle]
        have hxf : (x == f) = false := by simp [hx]
        simp only [ge_iff_le, this, Bool.or_false, List.contains_cons, hxf, Bool.false_or]
section
variable {P : Program} {Is : List QItem} {n : Nat} {T U : Tr (List Nat)}
theorem get_item (h : P.funcs.toList.map (item P) = Is) (g : Nat) : (P.funcs[g]?).map (item P) = Is[g]? := by
  rw [← h, List.getElem?_map, Array.getElem?_toList]
theorem leads (h : P.funcs.toList.map (item P) = Is) (hn : Is.length = n) (hT : chk (·.1) T 0 Is = true) (g : Nat) : (P.funcs[g]?).elim [] P.leadsTo = at' n T g := by
  have hg := get_item h g
  unfold at'
  cases hf : P.funcs[g]? with
  | none =>
    rw [hf] at hg
    have : ¬ g < n := fun hlt => by rw [List.getElem?_eq_getElem (by omega)] at hg; cases hg
    have hb : Nat.blt g n = false := by
      cases hb : Nat.blt g n with
      | false => rfl
      | true => exact absurd (by simpa [Nat.blt_eq] using hb) this
    rw [hb]; rfl
  | some fn =>
    rw [hf] at hg
    have hlt : g < n := by have := (List.getElem?_eq_some_iff.1 hg.symm).1; omega
    have hb : Nat.blt g n = true := by simpa [Nat.blt_eq] using hlt
    rw [hb]
    have := chk_spec Is 0 hT g _ hg.symm
    rw [Nat.zero_add] at this
    simp only [this, Option.elim_some]
    rfl
theorem closure_eq (h : P.funcs.toList.map (item P) = Is) (hn : Is.length = n) (hT : chk (·.1) T 0 Is = true) {k : Nat} (hk : 1 + (Is.map fun x => x.1.length + 1).sum = k) (f : Nat) : P.closure f = via n T k [f] 0 [] := by
  have e : (P.funcs.toList.map fun g => (P.leadsTo g).length + 1).sum = (Is.map fun x => x.1.length + 1).sum := by
    rw [← h, List.map_map]; rfl
  unfold Program.closure
  rw [e, hk]
  exact via_eq (leads h hn hT) k [f] 0 [] fun x => by simp
theorem names (h : P.funcs.toList.map (item P) = Is) (hn : Is.length = n) (hU : chk (·.2.2) U 0 Is = true) (g : Nat) : ((P.funcs[g]?).bind (·.body)).elim [] Code.globalsNamed = at' n U g := by
  have hg := get_item h g
  unfold at'
  cases hf : P.funcs[g]? with
  | none =>
    rw [hf] at hg
    have : ¬ g < n := fun hlt => by rw [List.getElem?_eq_getElem (by omega)] at hg; cases hg
    have hb : Nat.blt g n = false := by
      cases hb : Nat.blt g n with
      | false => rfl
      | true => exact absurd (by simpa [Nat.blt_eq] using hb) this
    rw [hb]; rfl
  | some fn =>
    rw [hf] at hg
    have hlt : g < n := by have := (List.getElem?_eq_some_iff.1 hg.symm).1; omega
    have hb : Nat.blt g n = true := by simpa [Nat.blt_eq] using hlt
    rw [hb]
    have := chk_spec Is 0 hU g _ hg.symm
    rw [Nat.zero_add] at this
    simp only [this, Option.bind_some]
    rfl
theorem none_goes (h : P.funcs.toList.map (item P) = Is) (hg : (Is.all fun x => !x.2.1) = true) (f : Nat) : P.goes f = false := by
  have key : ∀ fn ∈ P.funcs.toList, fn.goes = false := fun fn hfn => by
    have hm : item P fn ∈ Is := by rw [← h]; exact List.mem_map_of_mem hfn
    have := List.all_eq_true.1 hg _ hm
    simpa [item] using this
  unfold Program.goes
  have a1 : ((P.closure f).any fun g => (P.funcs[g]?).any Func.goes) = false := by
    rw [List.any_eq_false]
    intro g _
    cases hf : P.funcs[g]? with
    | none => simp
    | some fn =>
      have := key fn (by rw [← Array.getElem?_toList] at hf; exact List.mem_of_getElem? hf)
      simp [this]
  have a2 : P.funcs.any Func.goes = false := by
    rw [← Array.any_toList, List.any_eq_false]
    intro fn hfn
    simp [key fn hfn]
  rw [a1, a2]
  simp
theorem none_goesAt (h : P.funcs.toList.map (item P) = Is) (hg : (Is.all fun x => !x.2.1) = true) (s : Start) (f : String) : P.goesAt s f = false := by
  unfold Program.goesAt Program.goesFrom
  have a1 : ((P.funcNamed f).any P.goes) = false := by
    cases P.funcNamed f <;> simp [none_goes h hg]
  have a2 : (P.inits.toList.any P.goes) = false := by
    rw [List.any_eq_false]; intro g _; simp [none_goes h hg]
  rw [a1, a2]
  cases s <;> rfl
theorem vars_eq (h : P.funcs.toList.map (item P) = Is) (hn : Is.length = n) (hU : chk (·.2.2) U 0 Is = true) (f : Nat) : P.varsNamed f = ((((P.closure f).flatMap (at' n U)).eraseDups).filterMap (fun g => (P.globals[g]?).map (·.name)) ++
   (P.closure f).filterMap fun g => (P.funcs[g]?).bind fun fn => if fn.body.isNone then entryReads.lookup fn.name else none).eraseDups := by
  unfold Program.varsNamed
  simp only [names h hn hU]
end
end Go.Clo
