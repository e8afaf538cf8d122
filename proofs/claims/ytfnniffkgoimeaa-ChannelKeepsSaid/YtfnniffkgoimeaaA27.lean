import Derived.Test.YtfnniffkgoimeaaA26
import Derived.ChangeShapes
import Derived.OpenShut
import Derived.RowKit
import Derived.Below
import Derived.ChangeSame
import Derived.WideKeyArgs
set_option linter.all false
namespace Go.Abs
open Go Go.ChangeShapes Go.WideShapes Go.RowKit

mutual
def wgt {H : Type} : DataW H → Nat
  | .lit (.string b) => b.length + 1
  | .lit _ => 1
  | .nil => 1
  | .ptr d => wgt d + 1
  | .slice a b => wgtL a + wgtL b + 1
  | .agg a => wgtL a + 1
  | .iface _ d => wgt d + 1
  | .map _ => 1
  | .held _ => 1
def wgtL {H : Type} : List (DataW H) → Nat
  | [] => 0
  | d :: r => wgt d + wgtL r
end

theorem prc_of_l {ro : Nat → Prop} {w : World} {ad : Addr} : ∀ {xs : List AV} {us : List Value} {j : Nat}, PRl ro w xs us → (∀ k, k < us.length → w.cell? (ad.add (j + k)) = us[k]?) → PRc ro w xs ad j
  | [], [], _, _, _ => by simp [PRc]
  | x :: xs, u :: us, j, h, hc => by
    simp only [PRc]
    refine ⟨⟨u, by simpa using hc 0 (by simp), h.1⟩, prc_of_l h.2 fun k hk => ?_⟩
    have := hc (k + 1) (by simp; omega)
    rw [show j + 1 + k = j + (k + 1) by omega]
    simpa using this
  | [], _ :: _, _, h, _ => False.elim h
  | _ :: _, [], _, h, _ => False.elim h

/-- what a value of type t that was handed in reads as -/
def Cod (P : Program) (t : TypeId) {α : Type} (e : α → List AV) (m : α → Nat) (Q : α → Prop) : Prop :=
  ∀ (H : Type) (enc : TypeId × Value → H) (w : World) (fuel : Nat) (cs : List Value) (x : DataW H × List MemPlace), DataW.trod enc P w 0 (fun _ => true) true fuel t cs = some x →
    ∃ a, Q a ∧ m a ≤ wgt x.1 ∧ PRl (fun b => b < w.heap.size) w (e a) cs

variable {P : Program} {t : TypeId}

theorem cod_int {k : IntKind} (ht : P.underlying t = some (.int k)) : Cod P t (fun n : Int => [.v (.int k n)]) (fun _ => 1) (fun n => (Lit.int k n).wf = true) := by
  intro H enc w fuel cs x h
  obtain ⟨n, rfl, rfl, hw⟩ := DataW.trod_int ht h
  exact ⟨n, hw, by simp [wgt], ⟨rfl, by simp [Value.oneCell']⟩, trivial⟩

theorem cod_u8 (ht : P.underlying t = some (.int .u8)) : Cod P t (fun n : UInt8 => [.v (.int .u8 n.toNat)]) (fun _ => 1) (fun _ => True) := by
  intro H enc w fuel cs x h
  obtain ⟨n, hw, hm, hp⟩ := cod_int ht H enc w fuel cs x h
  simp [Lit.wf, IntKind.min, IntKind.max, IntKind.signed, IntKind.bits] at hw
  refine ⟨UInt8.ofNat n.toNat, trivial, hm, ?_⟩
  have : ((UInt8.ofNat n.toNat).toNat : Int) = n := by
    simp; omega
  show PRl _ w [.v (.int .u8 _)] cs
  rw [this]
  exact hp

theorem cod_bool (ht : P.underlying t = some .bool) : Cod P t (fun n : Bool => [.v (.bool n)]) (fun _ => 1) (fun _ => True) := by
  intro H enc w fuel cs x h
  obtain ⟨n, rfl, rfl⟩ := DataW.trod_bool ht h
  exact ⟨n, trivial, by simp [wgt], ⟨rfl, by simp [Value.oneCell']⟩, trivial⟩

theorem cod_string (ht : P.underlying t = some .string) : Cod P t (fun s : ByteArray => [.v (.string s)]) (fun s => s.size + 1) (fun s => s.size ≤ maxLen) := by
  intro H enc w fuel cs x h
  obtain ⟨s, rfl, rfl, hs⟩ := DataW.trod_string ht h
  exact ⟨s, hs, by simp only [wgt, Array.length_toList]; exact Nat.le_refl _, ⟨rfl, by simp [Value.oneCell']⟩, trivial⟩

theorem addr_add (a : Addr) (i j : Nat) : (a.add i).add j = a.add (i + j) := Addr.add_add a i j

theorem pre_of_elems {ro : Nat → Prop} {w : World} {ad : Addr} {n : Nat} {α : Type} {e : α → List AV} :
    ∀ {xs : List α} {i : Nat}, (∀ k x, xs[k]? = some x → ∃ cs, w.cells? 0 (ad.add ((i + k) * n)) n = some cs ∧ PRl ro w (e x) cs) → PRe ro w (xs.map e) ad n i
  | [], _, _ => by simp [PRe]
  | x :: xs, i, h => by
    simp only [List.map_cons, PRe]
    obtain ⟨cs, hcs, hp⟩ := h 0 x rfl
    obtain ⟨_, hl, hc⟩ := World.cells?_some hcs
    refine ⟨hp.length.trans hl, prc_of_l hp fun k hk => ?_, pre_of_elems fun k y hy => ?_⟩
    · rw [← addr_add]
      exact hc k (by omega)
    · have := h (k + 1) y (by simpa using hy)
      rwa [show i + 1 + k = i + (k + 1) by omega]

theorem wgtL_get {H : Type} : ∀ {ds : List (DataW H)} {α : Type} {m : α → Nat} {xs : List α}, xs.length = ds.length → (∀ (k : Nat) (x : α) (d : DataW H), xs[k]? = some x → ds[k]? = some d → m x ≤ wgt d) → (xs.map m).sum ≤ wgtL ds
  | [], _, _, [], _, _ => by simp
  | d :: ds, α, m, x :: xs, hl, h => by
    simp only [List.map_cons, List.sum_cons, wgtL]
    have h0 := h 0 x d rfl rfl
    have := wgtL_get (m := m) (xs := xs) (ds := ds) (by simpa using hl) fun k y d hy hd => h (k + 1) y d (by simpa using hy) (by simpa using hd)
    omega
  | [], _, _, _ :: _, hl, _ => by simp at hl
  | _ :: _, _, _, [], hl, _ => by simp at hl

theorem pick {α β : Type} {q : Nat → β → Prop} {R : Nat → α → β → Prop} : ∀ (n : Nat) (l : List β), l.length = n → (∀ i y, l[i]? = some y → ∃ x, R i x y) → ∃ xs : List α, xs.length = n ∧ ∀ i x y, xs[i]? = some x → l[i]? = some y → R i x y := by
  intro n
  induction n generalizing R with
  | zero => intro l hl h; exact ⟨[], rfl, fun i x y hx => by simp at hx⟩
  | succ n ih =>
    intro l hl h
    cases l with
    | nil => simp at hl
    | cons y l =>
      obtain ⟨x, hx⟩ := h 0 y rfl
      obtain ⟨xs, hxl, hxs⟩ := ih (R := fun i => R (i + 1)) l (by simpa using hl) fun i y hy => h (i + 1) y (by simpa using hy)
      refine ⟨x :: xs, by simp [hxl], fun i a b ha hb => ?_⟩
      cases i with
      | zero => simp at ha hb; subst ha; subst hb; exact hx
      | succ i => exact hxs i a b (by simpa using ha) (by simpa using hb)

theorem cod_slice {el : TypeId} {α : Type} {e : α → List AV} {m : α → Nat} {Q : α → Prop} {n : Nat} (he : Cod P el e m Q) (ht : P.underlying t = some (.slice el)) (hc : P.cellsOf el = n) (hn : 0 < n) :
    Cod P t (fun xs : List α => [.sl .no n (xs.map e)]) (fun xs => (xs.map m).sum + 1) (fun xs => ∀ x ∈ xs, Q x) := by
  intro H enc w fuel cs x h
  rcases DataW.trod_slice ht h with ⟨rfl, rfl⟩ | ⟨a, len, cap, elems, rest, k, rfl, rfl, rfl, _, hl, hm, hlen, hel, _, _⟩
  · refine ⟨[], by simp, by simp [wgt], ?_, trivial⟩
    simp only [List.map_nil, PR]
    exact ⟨by simp, none, 0, rfl, by simp, by simp, by simp, hn, Or.inl trivial⟩
  · subst hlen
    obtain ⟨xs, hxl, hxs⟩ := pick (α := α) (q := fun _ _ => True) (R := fun i x y => Q x ∧ m x ≤ wgt y.1 ∧ ∃ cs, w.cells? 0 (a.add (i * n)) n = some cs ∧ PRl (fun b => b < w.heap.size) w (e x) cs) elems.length elems rfl (by
      intro i y hy
      have hi : i < elems.length := by
        rcases Nat.lt_or_ge i elems.length with h | h
        · exact h
        · rw [List.getElem?_eq_none h] at hy; cases hy
      have := hel i hi
      rw [hy, hc, Option.bind_eq_some_iff] at this
      obtain ⟨cs, h1, h2⟩ := this
      obtain ⟨x, q1, q2, q3⟩ := he H enc w k cs y h2
      exact ⟨x, q1, q2, cs, h1, q3⟩)
    have hget : ∀ i x, xs[i]? = some x → ∃ y, elems[i]? = some y := fun i x hx => by
      have : i < elems.length := by
        rcases Nat.lt_or_ge i xs.length with h | h
        · omega
        · rw [List.getElem?_eq_none h] at hx; cases hx
      exact ⟨_, List.getElem?_eq_getElem this⟩
    refine ⟨xs, fun x hx => ?_, ?_, ?_, trivial⟩
    · obtain ⟨i, hi⟩ := List.mem_iff_getElem?.1 hx
      obtain ⟨y, hy⟩ := hget i x hi
      exact (hxs i x y hi hy).1
    · simp only [wgt]
      have := wgtL_get (m := m) (xs := xs) (ds := elems.map (·.1)) (by simp [hxl]) fun i x d hx hd => by
        obtain ⟨y, hy⟩ := hget i x hx
        simp only [List.getElem?_map, hy, Option.map_some, Option.some.injEq] at hd
        subst hd
        exact (hxs i x y hx hy).2.1
      omega
    · simp only [PR]
      refine ⟨by simp, some a, cap, by simp [hxl], by simp [hxl, hl], hm, by simp, hn, ?_⟩
      cases xs with
      | nil => exact Or.inl rfl
      | cons x xs =>
        refine Or.inr ⟨a, rfl, ?_, pre_of_elems fun i x hx => ?_⟩
        · obtain ⟨y, hy⟩ := hget 0 x rfl
          obtain ⟨_, _, cs, h1, _⟩ := hxs 0 x y rfl hy
          obtain ⟨_, hl, hcell⟩ := World.cells?_some h1
          have h0 := hcell 0 hn
          cases cs with
          | nil => simp at hl; omega
          | cons c cs => exact (show (a.add (0 * n + 0)).block = a.block by simp [Addr.add]) ▸ lt_of_cell (by rw [addr_add] at h0; simpa using h0)
        · obtain ⟨y, hy⟩ := hget i x hx
          obtain ⟨_, _, cs, h1, h2⟩ := hxs i x y hx hy
          exact ⟨cs, by simpa using h1, h2⟩

theorem cod_map {α β : Type} {e : α → List AV} {e' : β → List AV} {m : α → Nat} {m' : β → Nat} {Q : α → Prop} {Q' : β → Prop} (h : Cod P t e m Q) (hf : ∀ a, Q a → ∃ b, Q' b ∧ m' b ≤ m a ∧ e' b = e a) : Cod P t e' m' Q' := by
  intro H enc w fuel cs x hx
  obtain ⟨a, q1, q2, q3⟩ := h H enc w fuel cs x hx
  obtain ⟨b, h1, h2, h3⟩ := hf a q1
  exact ⟨b, h1, Nat.le_trans h2 q2, h3 ▸ q3⟩

/-- the ghost of a call from outside: all that is there is read-only -/
def gh0 (w : World) : Gh := ⟨fun b => if b < w.heap.size then .ro else .other, fun _ => w.heap.size, fun _ => w.heap.size, fun _ _ => w.heap.size⟩
theorem isRo_gh0 (w : World) : isRo (gh0 w) = fun b => b < w.heap.size := by
  funext b
  simp only [isRo, gh0]
  split <;> simp_all

/-- an argument of the law -/
def Arg (P : Program) (t : TypeId) {α : Type} (e : α → AV) (m : α → Nat) (Q : α → Prop) : Prop :=
  ∀ (H : Type) (enc : TypeId × Value → H) (w : World) (base : Nat) (v : Value) (d : DataW H) (ps : List MemPlace), Value.okWide P w .any base t v → DataW.Trod enc P w 0 (fun _ => true) true t v d ps →
    ∃ a, Q a ∧ m a ≤ wgt d ∧ VR (gh0 w) w (e a) v

theorem arg_int {k : IntKind} (ht : P.underlying t = some (.int k)) : Arg P t (fun n : Int => .v (.int k n)) (fun _ => 1) (fun n => (Lit.int k n).wf = true) := by
  intro H enc w base v d ps hv hd
  obtain ⟨n, rfl⟩ := okWide_int ht hv
  obtain ⟨fuel, hf⟩ := hd
  obtain ⟨a, h, hm, hp⟩ := cod_int ht H enc w fuel _ _ hf
  simp [PRl, PR, Value.cells] at hp
  obtain ⟨rfl, _⟩ := hp
  exact ⟨n, h, hm, by simp [VR]⟩

theorem arg_bool (ht : P.underlying t = some .bool) : Arg P t (fun n : Bool => .v (.bool n)) (fun _ => 1) (fun _ => True) := by
  intro H enc w base v d ps hv hd
  obtain ⟨n, rfl⟩ := okWide_bool ht hv
  obtain ⟨fuel, hf⟩ := hd
  obtain ⟨a, _, hm, hp⟩ := cod_bool ht H enc w fuel _ _ hf
  simp [PRl, PR, Value.cells] at hp
  exact ⟨n, trivial, hm, by simp [VR]⟩

theorem arg_string (ht : P.underlying t = some .string) : Arg P t (fun s : ByteArray => .v (.string s)) (fun s => s.size + 1) (fun s => s.size ≤ maxLen) := by
  intro H enc w base v d ps hv hd
  obtain ⟨s, rfl⟩ := okWide_string ht hv
  obtain ⟨fuel, hf⟩ := hd
  obtain ⟨a, h, hm, hp⟩ := cod_string ht H enc w fuel _ _ hf
  simp [PRl, PR, Value.cells] at hp
  obtain ⟨rfl, _⟩ := hp
  exact ⟨s, h, hm, by simp [VR]⟩

theorem arg_slice {el : TypeId} {α : Type} {e : α → List AV} {m : α → Nat} {Q : α → Prop} {n : Nat} (he : Cod P el e m Q) (ht : P.underlying t = some (.slice el)) (hc : P.cellsOf el = n) (hn : 0 < n) :
    Arg P t (fun xs : List α => .sl .no n (xs.map e)) (fun xs => (xs.map m).sum + 1) (fun xs => ∀ x ∈ xs, Q x) := by
  intro H enc w base v d ps hv hd
  obtain ⟨a, len, cap, rfl⟩ := okWide_slice ht hv
  obtain ⟨fuel, hf⟩ := hd
  obtain ⟨xs, h, hm, hp⟩ := cod_slice he ht hc hn H enc w fuel _ _ hf
  simp only [PRl, Value.cells] at hp
  refine ⟨xs, h, hm, ?_⟩
  simp only [VR, isRo_gh0]
  exact hp.1

theorem Arg.map {α β : Type} {e : α → AV} {e' : β → AV} {m : α → Nat} {m' : β → Nat} {Q : α → Prop} {Q' : β → Prop} (h : Arg P t e m Q) (hf : ∀ a, Q a → ∃ b, Q' b ∧ m' b ≤ m a ∧ e' b = e a) : Arg P t e' m' Q' := by
  intro H enc w base v d ps hv hd
  obtain ⟨a, q1, q2, q3⟩ := h H enc w base v d ps hv hd
  obtain ⟨b, h1, h2, h3⟩ := hf a q1
  exact ⟨b, h1, Nat.le_trans h2 q2, h3 ▸ q3⟩

/-- the arguments of a law, one by one -/
def Args (P : Program) : List TypeId → {α : Type} → (α → List AV) → (α → Nat) → (α → Prop) → Prop
  | ts, α, e, m, Q => ∀ (H : Type) (enc : TypeId × Value → H) (w : World) (base : Nat) (vs : List Value) (ds : List (DataW H)) (ps : List MemPlace),
    (∀ (j : Nat) t v, ts[j]? = some t → vs[j]? = some v → Value.okWide P w .any base t v) → DataW.TrodAll enc P w 0 (fun _ => true) true ts vs ds ps →
    ∃ a : α, Q a ∧ m a ≤ wgtL ds ∧ VRs (gh0 w) w (e a) vs

theorem args_nil : Args P [] (fun _ : Unit => []) (fun _ => 0) (fun _ => True) := by
  intro H enc w base vs ds ps hv h
  obtain ⟨rfl, rfl, rfl⟩ := trodAll_nil h
  exact ⟨(), trivial, by simp, by simp [VRs]⟩

theorem args_cons {ts : List TypeId} {α β : Type} {e : α → AV} {m : α → Nat} {Q : α → Prop} {e' : β → List AV} {m' : β → Nat} {Q' : β → Prop} (h : Arg P t e m Q) (hs : Args P ts e' m' Q') :
    Args P (t :: ts) (fun x : α × β => e x.1 :: e' x.2) (fun x => m x.1 + m' x.2) (fun x => Q x.1 ∧ Q' x.2) := by
  intro H enc w base vs ds ps hv hd
  obtain ⟨v, vs, d, ds, p, q, rfl, rfl, rfl, h1, h2⟩ := trodAll_cons hd
  obtain ⟨a, a1, a2, a3⟩ := h H enc w base v d p (hv 0 t v rfl rfl) h1
  obtain ⟨b, b1, b2, b3⟩ := hs H enc w base vs ds q (fun j t v hj hjv => hv (j + 1) t v (by simpa using hj) (by simpa using hjv)) h2
  exact ⟨(a, b), ⟨a1, b1⟩, by simp only [wgtL]; omega, by simp only [VRs]; exact ⟨a3, b3⟩⟩

theorem trodAll_stays {H : Type} {enc : TypeId × Value → H} (hl : laidOutB P = true) {W W' : World} {sp' : Nat → Bool} : ∀ {ts : List TypeId} {vs : List Value} {ds : List (DataW H)} {ps : List MemPlace},
    (∀ t ∈ ts, P.readableRec t = true ∧ t < P.types.size) → DataW.TrodAll enc P W 0 (fun _ => true) true ts vs ds ps → (∀ p ∈ ps, W.sameAt W' p) → (∀ p ∈ ps, sp' p.block = true) → DataW.TrodAll enc P W' 0 sp' true ts vs ds ps
  | [], vs, ds, ps, _, h, _, _ => by
    obtain ⟨rfl, rfl, rfl⟩ := trodAll_nil h
    exact trodAll_mk0
  | t :: ts, vs, ds, ps, hr, h, hs, hsp => by
    obtain ⟨v, vs, d, ds, p, q, rfl, rfl, rfl, h1, h2⟩ := trodAll_cons h
    exact ⟨p, q, WideElems.Trod_stays hl (hr t (by simp)).1 (hr t (by simp)).2 h1 (fun x hx => hs x (by simp [hx])) (fun x hx => hsp x (by simp [hx])),
      trodAll_stays hl (fun t ht => hr t (by simp [ht])) h2 (fun x hx => hs x (by simp [hx])) (fun x hx => hsp x (by simp [hx])), rfl⟩

theorem below_post {H : Type} {enc : TypeId × Value → H} {f : Func} {s : ChangeSpec} {apart fresh handsOn again : Bool} {W W' : World} {args : Array Value} {v : Value} {ds gs : List (DataW H)} {before pa pv : List MemPlace}
    (hW : DataW.Whole enc P f.params.toList s.vars apart W args.toList ds gs before)
    (hres : ∀ (b : Nat) (sp : Nat → Bool) (hd : Bool), DataW.TrodAll enc P W' b sp hd f.resultTypes.toList (v.resultList f.resultTypes.size) (s.fn H (ds ++ gs)).results [])
    (hargs : ∀ sp : Nat → Bool, (∀ p ∈ before, sp p.block = true) → DataW.TrodAll enc P W' 0 sp true f.params.toList args.toList (s.fn H (ds ++ gs)).args pa)
    (hvars : ∀ sp : Nat → Bool, (∀ p ∈ before, sp p.block = true) → DataW.TrodVars enc P W' sp s.vars (s.fn H (ds ++ gs)).vars pv)
    (hps : before = pa ++ pv) (hb : Below W.heap.size W W')
    (hok : ∀ (j : Nat) (t : TypeId) (r : Value), f.resultTypes[j]? = some t → (v.resultList f.resultTypes.size)[j]? = some r → Value.okWide P W' .any 0 t r) :
    s.post enc P f apart fresh handsOn again W args v W' := by
  have hlt : ∀ p ∈ before, p.block < W.heap.size := fun p hp => hW.lt p hp
  have hold : ∀ p ∈ before, (fun b => decide (b < W.heap.size)) p.block = true := fun p hp => by simpa using hlt p hp
  refine ⟨ds, gs, before, [], pa, pv, hW, hres _ _ _, hargs _ hold, hvars _ hold, World.keptBut_mono (fun p hp => ⟨hp, ?_⟩) (hb.frame (· ∈ before)), fun _ => ?_⟩
  · rw [hps, List.mem_append] at hp
    exact Or.inr hp
  · obtain ⟨_, _, _, _, _, hz, hn⟩ := hW
    refine ⟨hok, _, _, ([] ++ pa) ++ pv, ⟨[] ++ pa, pv, trodAll_append (hargs _ (fun _ _ => rfl)) (hres _ _ _), hvars _ (fun _ _ => rfl), rfl, ?_, ?_⟩, ?_⟩
    · intro b off hp
      have hin : MemPlace.cell b off ∈ before := by rw [hps]; simpa using hp
      rw [hb.frozen (hlt _ hin)]
      exact hz b off hin
    · intro ha
      have := hn ha
      rw [hps] at this
      simpa using this
    · intro p hp _
      rw [hps]
      simpa using hp

/-- FROM A CONTRACT TO THE ROW's LAST STEP: a law without variables that answers true -/
theorem law_true {C : Ctx} (hC : C.G = fun _ => none) {f : Nat} {fn : Func} {s : ChangeSpec} (hs : s.vars = []) {apart fresh handsOn again : Bool} {α : Type} {e : α → List AV} {m : α → Nat} {Q : α → Prop} {tb : TypeId} {ts : List TypeId}
    (hp : fn.params.toList = ts) (ha : Args C.P ts e m Q) (hl : laidOutB C.P = true) (hr : (ts.all fun t => C.P.readableRec t && decide (t < C.P.types.size)) = true) (hres : fn.resultTypes = #[tb]) (htb : C.P.underlying tb = some .bool)
    {H : Type} (enc : TypeId × Value → H) (W : World) (base : Nat) (args : Array Value) (ds gs : List (DataW H)) (before : List MemPlace)
    (hval : ∀ (j : Nat) t v, fn.params[j]? = some t → args[j]? = some v → Value.okWide C.P W .any base t v)
    (hW : DataW.Whole enc C.P fn.params.toList s.vars apart W args.toList ds gs before)
    (hfn : ∀ ds : List (DataW H), ds.length = ts.length → (s.fn H ds).results = [.lit (.bool true)] ∧ (s.fn H ds).args = ds ∧ (s.fn H ds).vars = [])
    (hok : ∀ a, Q a → m a ≤ wgtL ds → FnOK C f (e a) [] (.v (.bool true)) []) :
    Calls C.P f args W fun r W' => ∃ v, r = .returned v ∧ s.post enc C.P fn apart fresh handsOn again W args v W' := by
  replace hr : ∀ t ∈ ts, C.P.readableRec t = true ∧ t < C.P.types.size := by simpa using hr
  have hW' := hW
  obtain ⟨p, q, hA, hV, rfl, hfz, hnd⟩ := hW
  rw [hs] at hV
  obtain ⟨rfl, rfl⟩ := trodVars_none hV
  rw [hp] at hA
  obtain ⟨a, q1, q2, q3⟩ := ha H enc W base args.toList ds p (fun j t v hj hv => hval j t v (by rw [← Array.getElem?_toList, hp]; exact hj) (by simpa using hv)) hA
  have hlen : ∀ {ts : List TypeId} {vs : List Value} {ds : List (DataW H)} {ps : List MemPlace}, DataW.TrodAll enc C.P W 0 (fun _ => true) true ts vs ds ps → ds.length = ts.length := by
    intro ts
    induction ts with
    | nil => intro vs ds ps h; obtain ⟨_, rfl, _⟩ := trodAll_nil h; rfl
    | cons t ts ih =>
      intro vs ds ps h
      obtain ⟨v, vs, d, ds, p, q, rfl, rfl, rfl, h1, h2⟩ := trodAll_cons h
      simp [ih h2]
  obtain ⟨hf1, hf2, hf3⟩ := hfn ds (hlen hA)
  have key := (hok a q1 q2).2 (gh0 W) W args.toList (fun i cs h => by rw [hC] at h; cases h) q3 (fun s cs h => by cases h)
  rw [show args.toList.toArray = args by simp] at key
  refine key.mono fun r W' ⟨u, g', hr1, hF, hy, _⟩ => ?_
  subst hr1
  simp only [VR] at hy
  subst hy
  have hb : Below W.heap.size W W' := ⟨hF.os, hF.tape, hF.output, hF.size, fun k hk => (hF.keep k hk (Or.inl (by show (gh0 W).own k = .ro; simp [gh0, hk]))).1⟩
  have hlt : ∀ x ∈ p ++ ([] : List MemPlace), x.block < W.heap.size := fun x hx => hW'.lt x hx
  refine ⟨_, rfl, below_post (pa := p) (pv := []) hW' (fun b sp hd => ?_) (fun sp hsp => ?_) (fun _ _ => ?_) rfl hb (ok_one hres rfl (okWide_bool_mk htb _))⟩
  · simp only [List.append_nil, hf1]
    rw [hres]
    exact trodAll_mk1 (shut_bool htb _)
  · simp only [List.append_nil, hf2]
    rw [hp]
    exact trodAll_stays hl hr hA (fun x hx => hb.same (hlt x (by simpa using hx))) (fun x hx => hsp x (by simpa using hx))
  · simp only [List.append_nil, hf3]
    rw [hs]
    rfl
end Go.Abs
