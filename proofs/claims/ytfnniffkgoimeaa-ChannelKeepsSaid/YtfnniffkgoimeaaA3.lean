/- Memory: new boxes, new rows, readings as lists of cells. -/
import Derived.Test.YtfnniffkgoimeaaA2
set_option linter.all false
namespace Go.Abs

def PRl (ro : Nat → Prop) (w : World) : List AV → List Value → Prop
  | [], [] => True
  | c :: cs, u :: us => PR ro w c u ∧ PRl ro w cs us
  | _, _ => False

section
variable {ro ro' : Nat → Prop} {w w' : World}
theorem PRl.length : ∀ {cs : List AV} {us : List Value}, PRl ro w cs us → cs.length = us.length
  | [], [], _ => rfl
  | [], _ :: _, h => by simp [PRl] at h
  | _ :: _, [], h => by simp [PRl] at h
  | c :: cs, u :: us, h => by
    simp only [PRl] at h
    simp [PRl.length h.2]
theorem PRl.mono (h : ∀ b, b < w.heap.size → ro b → ro' b ∧ w'.heap[b]? = w.heap[b]?) : ∀ {cs : List AV} {us : List Value}, PRl ro w cs us → PRl ro' w' cs us
  | [], [], _ => by simp [PRl]
  | [], _ :: _, hu => by simp [PRl] at hu
  | _ :: _, [], hu => by simp [PRl] at hu
  | c :: cs, u :: us, hu => by
    simp only [PRl] at hu ⊢
    exact ⟨PR.mono h _ _ hu.1, PRl.mono h hu.2⟩
theorem PRl.append : ∀ {cs ds : List AV} {us vs : List Value}, PRl ro w cs us → PRl ro w ds vs → PRl ro w (cs ++ ds) (us ++ vs)
  | [], _, [], _, _, h => by simpa using h
  | [], _, _ :: _, _, hu, _ => by simp [PRl] at hu
  | _ :: _, _, [], _, hu, _ => by simp [PRl] at hu
  | c :: cs, ds, u :: us, vs, hu, h => by
    simp only [List.cons_append, PRl] at hu ⊢
    exact ⟨hu.1, PRl.append hu.2 h⟩
theorem PRl.get : ∀ {cs : List AV} {us : List Value}, PRl ro w cs us → ∀ (i : Nat) (c : AV), cs[i]? = some c → ∃ u, us[i]? = some u ∧ PR ro w c u
  | [], _, _, i, c, h => by simp at h
  | _ :: _, [], hu, _, _, _ => by simp [PRl] at hu
  | c :: cs, u :: us, hu, 0, d, h => by
    simp only [PRl] at hu
    simp at h; subst h
    exact ⟨u, by simp, hu.1⟩
  | c :: cs, u :: us, hu, i + 1, d, h => by
    simp only [PRl] at hu
    simp at h
    obtain ⟨v, h1, h2⟩ := PRl.get hu.2 i d h
    exact ⟨v, by simpa using h1, h2⟩
theorem PRl.take : ∀ {cs : List AV} {us : List Value} (n : Nat), PRl ro w cs us → PRl ro w (cs.take n) (us.take n)
  | _, _, 0, _ => by simp [PRl]
  | [], [], n + 1, _ => by simp [PRl]
  | [], _ :: _, _ + 1, hu => by simp [PRl] at hu
  | _ :: _, [], _ + 1, hu => by simp [PRl] at hu
  | c :: cs, u :: us, n + 1, hu => by
    simp only [List.take_succ_cons, PRl] at hu ⊢
    exact ⟨hu.1, PRl.take n hu.2⟩
theorem PRl.drop : ∀ {cs : List AV} {us : List Value} (n : Nat), PRl ro w cs us → PRl ro w (cs.drop n) (us.drop n)
  | _, _, 0, h => by simpa using h
  | [], [], n + 1, _ => by simp [PRl]
  | [], _ :: _, _ + 1, hu => by simp [PRl] at hu
  | _ :: _, [], _ + 1, hu => by simp [PRl] at hu
  | c :: cs, u :: us, n + 1, hu => by
    simp only [List.drop_succ_cons, PRl] at hu ⊢
    exact PRl.drop n hu.2
theorem VRs.take {g : Gh} : ∀ {cs : List AV} {us : List Value} (n : Nat), VRs g w cs us → VRs g w (cs.take n) (us.take n)
  | _, _, 0, _ => by simp [VRs]
  | [], [], n + 1, _ => by simp [VRs]
  | [], _ :: _, _ + 1, hu => by simp [VRs] at hu
  | _ :: _, [], _ + 1, hu => by simp [VRs] at hu
  | c :: cs, u :: us, n + 1, hu => by
    simp only [List.take_succ_cons, VRs] at hu ⊢
    exact ⟨hu.1, VRs.take n hu.2⟩
theorem VRs.drop {g : Gh} : ∀ {cs : List AV} {us : List Value} (n : Nat), VRs g w cs us → VRs g w (cs.drop n) (us.drop n)
  | _, _, 0, h => by simpa using h
  | [], [], n + 1, _ => by simp [VRs]
  | [], _ :: _, _ + 1, hu => by simp [VRs] at hu
  | _ :: _, [], _ + 1, hu => by simp [VRs] at hu
  | c :: cs, u :: us, n + 1, hu => by
    simp only [List.drop_succ_cons, VRs] at hu ⊢
    exact VRs.drop n hu.2
theorem VRs.append {g : Gh} : ∀ {cs ds : List AV} {us vs : List Value}, VRs g w cs us → VRs g w ds vs → VRs g w (cs ++ ds) (us ++ vs)
  | [], _, [], _, _, h => by simpa using h
  | [], _, _ :: _, _, hu, _ => by simp [VRs] at hu
  | _ :: _, _, [], _, hu, _ => by simp [VRs] at hu
  | c :: cs, ds, u :: us, vs, hu, h => by
    simp only [List.cons_append, VRs] at hu ⊢
    exact ⟨hu.1, VRs.append hu.2 h⟩
theorem VRs.get {g : Gh} : ∀ {cs : List AV} {us : List Value}, VRs g w cs us → ∀ (i : Nat) (c : AV), cs[i]? = some c → ∃ u, us[i]? = some u ∧ VR g w c u
  | [], _, _, i, c, h => by simp at h
  | _ :: _, [], hu, _, _, _ => by simp [VRs] at hu
  | c :: cs, u :: us, hu, 0, d, h => by
    simp only [VRs] at hu
    simp at h; subst h
    exact ⟨u, by simp, hu.1⟩
  | c :: cs, u :: us, hu, i + 1, d, h => by
    simp only [VRs] at hu
    simp at h
    obtain ⟨v, h1, h2⟩ := VRs.get hu.2 i d h
    exact ⟨v, by simpa using h1, h2⟩

theorem PR.VR {g : Gh} : ∀ (x : AV) (u : Value), PR (isRo g) w x u → VR g w x u
  | .undef, _, _ => by simp [Abs.VR]
  | .v x, u, h => by simp only [PR] at h; simp only [Abs.VR]; exact h.1
  | .sl (.own r lo) n es, u, h => by simp [PR] at h
  | .sl .no n es, u, h => by simpa [Abs.VR] using h
  | .sl .full n es, u, h => by simpa [Abs.VR] using h
  | .agg _, _, hu => by simp [PR] at hu
  | .tup _, _, hu => by simp [PR] at hu
  | .ptr _ _, _, hu => by simp [PR] at hu
  | .ep _ _ _ _, _, hu => by simp [PR] at hu
  | .fn _ _, _, hu => by simp [PR] at hu
  | .ifc _ _, _, hu => by simp [PR] at hu
theorem PR.one {x : AV} {u : Value} (h : PR ro w x u) : u.oneCell' = true := by
  cases x with
  | undef => simpa [PR] using h
  | v x => simp only [PR] at h; rw [h.1]; exact h.2
  | sl t n es => simp only [PR] at h; obtain ⟨_, _, _, rfl, _⟩ := h; rfl
  | _ => simp [PR] at h
theorem PRl.one : ∀ {cs : List AV} {us : List Value}, PRl ro w cs us → ∀ u ∈ us, u.oneCell' = true
  | [], [], _, u, hu => by simp at hu
  | [], _ :: _, hu, _, _ => by simp [PRl] at hu
  | _ :: _, [], hu, _, _ => by simp [PRl] at hu
  | c :: cs, v :: us, h, u, hu => by
    simp only [PRl] at h
    rcases List.mem_cons.1 hu with rfl | hu
    · exact PR.one h.1
    · exact PRl.one h.2 u hu
theorem PRl.VRs {g : Gh} : ∀ {cs : List AV} {us : List Value}, PRl (isRo g) w cs us → VRs g w cs us
  | [], [], _ => by simp [Abs.VRs]
  | [], _ :: _, hu => by simp [PRl] at hu
  | _ :: _, [], hu => by simp [PRl] at hu
  | c :: cs, u :: us, hu => by
    simp only [PRl, Abs.VRs] at hu ⊢
    exact ⟨PR.VR _ _ hu.1, PRl.VRs hu.2⟩

theorem add_add (a : Addr) (i j : Nat) : (a.add i).add j = a.add (i + j) := by
  unfold Addr.add
  by_cases hi : i = 0 <;> by_cases hj : j = 0 <;> simp [hi, hj, Nat.add_assoc]
theorem add_lit (b o n : Nat) : Addr.add ⟨b, o, none⟩ n = ⟨b, o + n, none⟩ := Addr.add_lit b o n

/-- the cells of an element as a list -/
theorem PRc.list : ∀ (cs : List AV) (ad : Addr) (j : Nat), PRc ro w cs ad j → ∃ us : List Value, PRl ro w cs us ∧ ∀ i v, us[i]? = some v → w.cell? (ad.add (j + i)) = some v
  | [], ad, j, _ => ⟨[], by simp [PRl], by simp⟩
  | c :: cs, ad, j, h => by
    simp only [PRc] at h
    obtain ⟨⟨u, h1, h2⟩, h3⟩ := h
    obtain ⟨us, h4, h5⟩ := PRc.list cs ad (j + 1) h3
    refine ⟨u :: us, by simp only [PRl]; exact ⟨h2, h4⟩, fun i v hv => ?_⟩
    cases i with
    | zero => simp at hv; subst hv; simpa using h1
    | succ i =>
      simp at hv
      have := h5 i v hv
      rwa [Nat.add_assoc, Nat.add_comm 1 i] at this
theorem PRc.of_list : ∀ (cs : List AV) (us : List Value) (ad : Addr) (j : Nat), PRl ro w cs us → (∀ i v, us[i]? = some v → w.cell? (ad.add (j + i)) = some v) → PRc ro w cs ad j
  | [], _, _, _, _, _ => by simp [PRc]
  | _ :: _, [], _, _, h, _ => by simp [PRl] at h
  | c :: cs, u :: us, ad, j, h, hc => by
    simp only [PRl] at h
    simp only [PRc]
    refine ⟨⟨u, by simpa using hc 0 u (by simp), h.1⟩, PRc.of_list cs us ad (j + 1) h.2 fun i v hv => ?_⟩
    have := hc (i + 1) v (by simpa using hv)
    rwa [Nat.add_assoc, Nat.add_comm 1 i]
theorem PRe.list : ∀ (es : List (List AV)) (ad : Addr) (n i : Nat), PRe ro w es ad n i → ∃ us : List Value, PRl ro w es.flatten us ∧ us.length = es.length * n ∧ ∀ j v, us[j]? = some v → w.cell? (ad.add (i * n + j)) = some v
  | [], ad, n, i, _ => ⟨[], by simp [PRl], by simp, by simp⟩
  | e :: es, ad, n, i, h => by
    simp only [PRe] at h
    obtain ⟨hl, h1, h2⟩ := h
    obtain ⟨us, h3, h4⟩ := PRc.list e ad (i * n) h1
    obtain ⟨vs, h5, h6, h7⟩ := PRe.list es ad n (i + 1) h2
    have hul : us.length = n := by rw [← PRl.length h3, hl]
    refine ⟨us ++ vs, by simpa using PRl.append h3 h5, by simp [hul, h6, Nat.add_mul, Nat.add_comm], fun j v hv => ?_⟩
    rw [List.getElem?_append] at hv
    split at hv
    · exact h4 j v hv
    · have := h7 _ v hv
      rw [show (i + 1) * n + (j - us.length) = i * n + j from by rw [Nat.add_mul, Nat.one_mul]; omega] at this
      exact this
theorem PRe.of_list : ∀ (es : List (List AV)) (us : List Value) (ad : Addr) (n i : Nat), (∀ e ∈ es, e.length = n) → PRl ro w es.flatten us → (∀ j v, us[j]? = some v → w.cell? (ad.add (i * n + j)) = some v) → PRe ro w es ad n i
  | [], _, _, _, _, _, _, _ => by simp [PRe]
  | e :: es, us, ad, n, i, hl, h, hc => by
    have hel : e.length = n := hl e (by simp)
    simp only [PRe]
    simp only [List.flatten_cons] at h
    have hlen := PRl.length h
    rw [List.length_append] at hlen
    have h1 : PRl ro w e (us.take n) := by
      have := PRl.take n h
      rwa [← hel, List.take_left, hel] at this
    have h2 : PRl ro w es.flatten (us.drop n) := by
      have := PRl.drop n h
      rwa [← hel, List.drop_left, hel] at this
    refine ⟨hel, PRc.of_list e _ ad (i * n) h1 fun j v hv => ?_, PRe.of_list es _ ad n (i + 1) (fun e he => hl e (by simp [he])) h2 fun j v hv => ?_⟩
    · rw [List.getElem?_take] at hv
      split at hv
      · exact hc j v hv
      · cases hv
    · rw [List.getElem?_drop] at hv
      have := hc _ v hv
      rwa [show i * n + (n + j) = (i + 1) * n + j from by rw [Nat.add_mul, Nat.one_mul]; omega] at this
theorem PRe.lens : ∀ {es : List (List AV)} {ad : Addr} {n i : Nat}, PRe ro w es ad n i → ∀ e ∈ es, e.length = n
  | [], _, _, _, _, e, he => by simp at he
  | e :: es, ad, n, i, h, d, hd => by
    simp only [PRe] at h
    rcases List.mem_cons.1 hd with rfl | hd
    · exact h.1
    · exact PRe.lens h.2.2 d hd
theorem PRe.at_ : ∀ (es : List (List AV)) (ad : Addr) (n i : Nat), PRe ro w es ad n i → ∀ (k : Nat) (e : List AV), es[k]? = some e → e.length = n ∧ PRc ro w e ad ((i + k) * n)
  | [], _, _, _, _, k, e, h => by simp at h
  | e :: es, ad, n, i, h, 0, d, hd => by
    simp only [PRe] at h
    simp at hd; subst hd
    exact ⟨h.1, by simpa using h.2.1⟩
  | e :: es, ad, n, i, h, k + 1, d, hd => by
    simp only [PRe] at h
    simp at hd
    have := PRe.at_ es ad n (i + 1) h.2.2 k d hd
    rwa [show i + 1 + k = i + (k + 1) from by omega] at this
theorem PRc.shift (cs : List AV) (ad : Addr) (k j : Nat) : PRc ro w cs ad (k + j) → PRc ro w cs (ad.add k) j := by
  intro h
  obtain ⟨us, h1, h2⟩ := PRc.list cs ad (k + j) h
  exact PRc.of_list cs us _ j h1 fun i v hv => by rw [add_add]; have := h2 i v hv; rwa [Nat.add_assoc] at this
end

def St.freeze (S : List Nat) (st : St) : St := ⟨st.tmps.map (fun p => (p.1, p.2.freeze S)), st.objs.map (fun p => (p.1, freezeL S p.2))⟩

theorem lk_map {α β : Type} (f : α → β) (k : Nat) : ∀ l : List (Nat × α), lk k (l.map fun p => (p.1, f p.2)) = (lk k l).map f
  | [] => rfl
  | (j, x) :: l => by
    simp only [List.map_cons, lk]
    split
    · rfl
    · exact lk_map f k l

section
variable {C : Ctx} {A : A0} {N : Nat} {g g' : Gh} {st : St} {a : Act} {w w' : World}

theorem Fr.freeze (h : Fr C A g w) (S : List Nat) : Fr C A (g.freeze S) w where
  os := h.os
  tape := h.tape
  output := h.output
  size := h.size
  keep := fun b hb hf => by
    obtain ⟨h1, h2⟩ := h.keep b hb hf
    refine ⟨h1, ?_⟩
    rcases hf with hf | hf
    · rw [hf] at h2 ⊢; exact freeze_ro b h2
    · rw [hf] at h2 ⊢; exact freeze_other b h2
  box := h.box
  glob := fun i cs hi => by
    obtain ⟨h1, h2, h3⟩ := h.glob i cs hi
    exact ⟨h1, freeze_ro i h2, PRc.mono roFreeze _ _ 0 h2 h3⟩

theorem R.freeze (h : R C A N g st a w) (S : List Nat) : R C A N (g.freeze S) (st.freeze S) a w where
  size := h.size
  defs := h.defs
  tm := fun k x hx => by
    simp only [St.freeze, lk_map] at hx
    obtain ⟨y, hy, rfl⟩ := Option.map_eq_some_iff.1 hx
    obtain ⟨u, hu, hv⟩ := h.tm k y hy
    exact ⟨u, hu, VR.freeze y u hv⟩
  ob := fun s cs hs => by
    simp only [St.freeze, lk_map] at hs
    obtain ⟨y, hy, rfl⟩ := Option.map_eq_some_iff.1 hs
    obtain ⟨h1, cur, T', h2, h3⟩ := h.ob s y hy
    exact ⟨freeze_box _ s h1, cur, T', h2, VRs.freeze _ _ h3⟩
  fr := h.fr.freeze S

def Gh.newBox (g : Gh) (b s : Nat) : Gh := { own := fun x => if x = b then .box s else g.own x, box := fun x => if x = s then b else g.box x, row := g.row, inn := g.inn }
def Gh.newRow (g : Gh) (b r : Nat) : Gh := { own := fun x => if x = b then .row r else g.own x, box := g.box, row := fun x => if x = r then b else g.row x, inn := g.inn }

theorem alloc_old (w : World) (o : Obj) (b : Nat) (h : b < w.heap.size) : (w.alloc o).heap[b]? = w.heap[b]? := by
  show (w.heap.push o)[b]? = _
  rw [Array.getElem?_push, if_neg (by omega)]

theorem lasts_newBox (g : Gh) (w : World) (o : Obj) (s : Nat) : Lasts [] [s] g w (g.newBox w.heap.size s) (w.alloc o) where
  ro := fun b hb h => ⟨by simp [Gh.newBox, Nat.ne_of_lt hb, h], alloc_old w o b hb⟩
  row := fun b q hb _ h => ⟨by simp [Gh.newBox, Nat.ne_of_lt hb, h], alloc_old w o b hb⟩
  rows := fun _ _ => rfl
  boxes := fun q hq => by simp at hq; simp [Gh.newBox, hq]
  inn := fun b q i hb _ h => ⟨by simp [Gh.newBox, Nat.ne_of_lt hb, h], alloc_old w o b hb⟩
  inns := fun _ _ _ => rfl
theorem lasts_newRow (g : Gh) (w : World) (o : Obj) (r : Nat) (S : List Nat) (hr : r ∈ S) : Lasts S [] g w (g.newRow w.heap.size r) (w.alloc o) where
  ro := fun b hb h => ⟨by simp [Gh.newRow, Nat.ne_of_lt hb, h], alloc_old w o b hb⟩
  row := fun b q hb _ h => ⟨by simp [Gh.newRow, Nat.ne_of_lt hb, h], alloc_old w o b hb⟩
  rows := fun q hq => by
    have : q ≠ r := fun e => hq (e ▸ hr)
    simp [Gh.newRow, this]
  boxes := fun _ _ => rfl
  inn := fun b q i hb _ h => ⟨by simp [Gh.newRow, Nat.ne_of_lt hb, h], alloc_old w o b hb⟩
  inns := fun _ _ _ => rfl

theorem ObjAt.lt {s : Nat} {cs : List AV} (h : ObjAt g w s cs) : g.box s < w.heap.size := by
  obtain ⟨_, cur, T, h2, _⟩ := h
  exact lt_of_heap h2

theorem R.newBox (h : R C A N g st a w) (s : Nat) (hs : s ∉ A.ext) (cur : Array Value) (T : TypeId) (cs : List AV) (hv : VRs g w cs cur.toList) :
    R C A N (g.newBox w.heap.size s) ⟨(st.kill [] [s]).tmps, (s, killL [] [s] cs) :: (st.kill [] [s]).objs⟩ a (w.alloc (.cells cur T)) := by
  have hl := lasts_newBox g w (.cells cur T) s
  have hfr : Fr C A (g.newBox w.heap.size s) (w.alloc (.cells cur T)) := h.fr.step hl rfl rfl rfl (by simp) (fun b hb ho => ⟨by simp [Gh.newBox, Nat.ne_of_lt hb, ho], alloc_old w _ b hb⟩) (fun q hq he => hs (by simpa [List.mem_singleton.1 he] using hq))
  have h1 := h.lasts hl hfr (fun q cs' hq hne => by
    have ho := h.ob q cs' hq
    exact ⟨by simp [Gh.newBox, Nat.ne_of_lt ho.lt, ho.1], alloc_old w _ _ ho.lt⟩)
  refine ⟨h1.size, h1.defs, h1.tm, fun q cs' hq => ?_, h1.fr⟩
  simp only [lk] at hq
  by_cases hsq : s = q
  · subst hsq
    simp only [if_true, Option.some.injEq] at hq
    subst hq
    refine ⟨by simp [Gh.newBox], cur, T, ?_, VRs.lasts hl _ _ hv⟩
    simp only [Gh.newBox, if_true]
    exact heap_alloc_new w _
  · simp only [hsq, if_false] at hq
    exact h1.ob q cs' hq

theorem R.newRow (h : R C A N g st a w) (r : Nat) (S : List Nat) (hr : r ∈ S) (cur : Array Value) (T : TypeId) (n cap : Nat) (es : List (List AV)) (us : List Value) (hn : 0 < n)
    (hl : ∀ e ∈ es, e.length = n) (hv : PRl (isRo g) w es.flatten us) (hc : cur.size = cap * n) (hcap : es.length ≤ cap) (hm : cap ≤ maxLen) (hus : ∀ (j : Nat) (v : Value), us[j]? = some v → cur[j]? = some v) :
    ∃ g', R C A N g' (st.kill S []) a (w.alloc (.cells cur T)) ∧ VR g' (w.alloc (.cells cur T)) (.sl (.own r 0) n es) (.slice (some ⟨w.heap.size, 0, none⟩) es.length cap) := by
  have hl' := lasts_newRow g w (.cells cur T) r S hr
  refine ⟨g.newRow w.heap.size r, ?_, ?_⟩
  · refine h.lasts hl' ?_ ?_
    · exact h.fr.step hl' rfl rfl rfl (by simp) (fun b hb ho => ⟨by simp [Gh.newRow, Nat.ne_of_lt hb, ho], alloc_old w _ b hb⟩) (fun q _ he => by cases he)
    · intro q cs' hq _
      have ho := h.ob q cs' hq
      exact ⟨by simp [Gh.newRow, Nat.ne_of_lt ho.lt, ho.1], alloc_old w _ _ ho.lt⟩
  · simp only [VR, OwnSl]
    refine ⟨hn, .inr (.inr ⟨cap, cur, T, by simp [Gh.newRow], hcap, by omega, by simp [Gh.newRow], ?_, by simpa using hc, ?_⟩)⟩
    · simp only [Gh.newRow, if_true]; exact heap_alloc_new w _
    · refine PRe.of_list es us _ n 0 hl (PRl.mono hl'.ro' hv) fun j v hv => ?_
      simp only [Gh.newRow, if_true, Nat.zero_mul, Nat.zero_add, add_lit]
      rw [cell_of_row _ _ _ _ _ _ (heap_alloc_new w _)]
      exact hus j v hv
end
end Go.Abs
