/- Addresses, boxes, stores. -/
import Derived.Test.YtfnniffkgoimeaaA4
set_option linter.all false
namespace Go.Abs

def offOf (P : Program) (s : TypeId) (f : Nat) : Option Nat :=
  match P.underlying s with
  | some (.struct fs) => match fs[f]? with
    | some fd => match szOf P fd.type with
      | some (_ + 1) => some fd.offset
      | _ => none
    | none => none
  | _ => none

def fieldA (off : Nat) : AV → Option AV
  | .ptr s o => some (.ptr s (o + off))
  | .ep t i cs o => some (.ep t i cs (o + off))
  | _ => none

def elemOfSlice (P : Program) (t : TypeId) : Option (TypeId × Nat) :=
  match P.underlying t with
  | some (.slice e) => (szOf P e).map fun n => (e, n)
  | _ => none
def elemOfArray (P : Program) (t : TypeId) : Option (Nat × Nat) :=
  match P.underlying t with
  | some (.array len e) => (szOf P e).map fun n => (len, n)
  | _ => none

/-- the address of an element of a slice -/
def indexS (n : Nat) (i : Int) : AV → Option AV
  | .sl (.own r lo) m es => if m = n ∧ 0 ≤ i then match es[i.toNat]? with
    | some c => some (.ep (.own r 0) (lo + i.toNat) c 0)
    | none => none
    else none
  | .sl t m es => if m = n ∧ 0 ≤ i then match es[i.toNat]? with
    | some c => some (.ep .no i.toNat c 0)
    | none => none
    else none
  | .hnd .dsl r _ _ _ m bss => if n = 1 ∧ 0 ≤ i then match bss[i.toNat]? with
    | some b => some (.hnd .dp r i.toNat 0 0 m [b])
    | none => none
    else none
  | .hnd .isl r q _ _ m [b] => if m = n ∧ 0 ≤ i then match b[i.toNat]? with
    | some c => some (.hnd .iep r q i.toNat 0 m [[c]])
    | none => none
    else none
  | _ => none
def indexR (len n : Nat) (i : Int) : AV → Option AV
  | .ptr s o => if 0 ≤ i ∧ i < len then some (.ptr s (o + i.toNat * n)) else none
  | .ep t j cs o => if 0 ≤ i ∧ i < len then some (.ep t j cs (o + i.toNat * n)) else none
  | _ => none

section
variable {C : Ctx} {A : A0} {N : Nat} {g g' : Gh} {st : St} {a : Act} {w w' : World} {P : Program}

theorem ep_add {t : Tag} {i : Nat} {cs : List AV} {o k : Nat} {u : Value} (h : EpAt g w t i cs o u) : ∃ ad : Addr, u = .pointer (some ad) ∧ EpAt g w t i cs (o + k) (.pointer (some (ad.add k))) := by
  cases t with
  | own r lo =>
    simp only [EpAt] at h ⊢
    obtain ⟨cur, T, h1, h2⟩ := h
    refine ⟨_, h1, cur, T, ?_, h2⟩
    rw [add_lit, Nat.add_assoc]
  | no =>
    simp only [EpAt] at h ⊢
    obtain ⟨ad, h1, h2⟩ := h
    exact ⟨_, h1, ad, by rw [add_add], h2⟩
  | full =>
    simp only [EpAt] at h ⊢
    obtain ⟨ad, h1, h2⟩ := h
    exact ⟨_, h1, ad, by rw [add_add], h2⟩

theorem field_sound {s f off : Nat} (ho : offOf P s f = some off) {p x : AV} {up : Value} (hp : VR g w p up) (hx : fieldA off p = some x) : ∃ u, (Instr.fieldAt s up f).run P w = .ok u w ∧ VR g w x u := by
  unfold offOf at ho
  split at ho
  · rename_i fs hs
    split at ho
    · rename_i fd hf
      split at ho
      · rename_i k hk
        simp at ho; subst ho
        have run : ∀ ad : Addr, (Instr.fieldAt s (.pointer (some ad)) f).run P w = .ok (.pointer (some (ad.add fd.offset))) w := fun ad => by
          simp [Instr.fieldAt, run_underlying hs, hf, Instr.sureAddr, fieldPlace, run_sizeOf hk]
        unfold fieldA at hx
        split at hx
        · simp at hx; subst hx
          simp only [VR] at hp; subst hp
          refine ⟨_, run _, ?_⟩
          simp only [VR, add_lit]
        · simp at hx; subst hx
          simp only [VR] at hp
          obtain ⟨ad, rfl, h2⟩ := ep_add (k := fd.offset) hp
          exact ⟨_, run _, h2⟩
        · cases hx
      · cases ho
    · cases ho
  · cases ho

theorem indexS_sound {t : TypeId} {e : TypeId} {n : Nat} (ht : elemOfSlice P t = some (e, n)) {k : IntKind} {i : Int} {p x : AV} {up : Value} (hp : VR g w p up) (hx : indexS n i p = some x) :
    ∃ u, (Instr.indexAt t up (.int k i)).run P w = .ok u w ∧ VR g w x u := by
  unfold elemOfSlice at ht
  split at ht
  · rename_i e' hs
    obtain ⟨n', hn, he⟩ := Option.map_eq_some_iff.1 ht
    simp only [Prod.mk.injEq] at he
    obtain ⟨rfl, rfl⟩ := he
    have run : ∀ (ad : Addr) (len cap : Nat), 0 ≤ i → i < len → (Instr.indexAt t (.slice (some ad) len cap) (.int k i)).run P w = .ok (.pointer (some (ad.add (i.toNat * n')))) w := fun ad len cap h0 h1 => by
      simp [Instr.indexAt, asIntOf, run_underlying hs, h0, h1, run_sizeOf hn]
    unfold indexS at hx
    split at hx
    · rename_i r lo m es
      split at hx
      · rename_i hc
        obtain ⟨rfl, h0⟩ := hc
        split at hx
        · rename_i c hc
          simp at hx; subst hx
          have hlt : i.toNat < es.length := by
            rcases Nat.lt_or_ge i.toNat es.length with h | h
            · exact h
            · rw [List.getElem?_eq_none h] at hc; cases hc
          simp only [VR, OwnSl] at hp
          obtain ⟨hm, ⟨_, h2⟩ | ⟨_, h2, _⟩ | ⟨cap, cur, T, h1, h2, h3, h5, h6, h7, h8⟩⟩ := hp
          · subst h2; simp at hlt
          · subst h2; simp at hlt
          · subst h1
            refine ⟨_, run _ _ _ h0 (by omega), ?_⟩
            obtain ⟨hcl, hcp⟩ := PRe.at_ es _ m 0 h8 _ _ hc
            simp only [VR, EpAt]
            refine ⟨cur, T, ?_, h5, h6, ?_, ?_⟩
            · rw [add_lit, hcl, Nat.add_mul]; simp
            · rw [hcl, h7]
              exact Nat.mul_le_mul_right _ (by omega)
            · have := PRc.shift c ⟨g.row r, lo * m, none⟩ ((0 + i.toNat) * m) 0 hcp
              rw [add_lit] at this
              rwa [hcl, Nat.add_mul, show lo * m + i.toNat * m = lo * m + (0 + i.toNat) * m from by simp]
        · cases hx
      · cases hx
    · rename_i t' m es hno
      split at hx
      · rename_i hc
        obtain ⟨rfl, h0⟩ := hc
        split at hx
        · rename_i c hc
          simp at hx; subst hx
          have hlt : i.toNat < es.length := by
            rcases Nat.lt_or_ge i.toNat es.length with h | h
            · exact h
            · rw [List.getElem?_eq_none h] at hc; cases hc
          have hp' : PR (isRo g) w (.sl t' m es) up := by
            cases t' with
            | own r lo => exact absurd rfl (hno r lo)
            | no => simpa [VR] using hp
            | full => simpa [VR] using hp
          simp only [PR] at hp'
          obtain ⟨_, ad', cap, h1, h2, h3, h4, h5, h6 | ⟨ad, h6, h7, h8⟩⟩ := hp'
          · subst h6; simp at hlt
          · subst h6; subst h1
            refine ⟨_, run _ _ _ h0 (by omega), ?_⟩
            obtain ⟨hcl, hcp⟩ := PRe.at_ es _ m 0 h8 _ _ hc
            simp only [VR, EpAt]
            refine ⟨ad.add (i.toNat * m), by rw [Addr.add_zero'], by omega, by rw [add_block]; exact h7, ?_⟩
            exact PRc.shift c ad (i.toNat * m) 0 (by simpa using hcp)
        · cases hx
      · cases hx
    · rename_i r _ _ _ m bss
      split at hx
      · rename_i hc
        obtain ⟨rfl, h0⟩ := hc
        split at hx
        · rename_i b hb
          simp at hx; subst hx
          have hlt : i.toNat < bss.length := by
            rcases Nat.lt_or_ge i.toNat bss.length with h | h
            · exact h
            · rw [List.getElem?_eq_none h] at hb; cases hb
          simp only [VR] at hp
          obtain ⟨hm, ⟨_, h2⟩ | ⟨cap, cur, T, h1, h2, h3, h5, h6, h7, h8⟩⟩ := hp
          · subst h2; simp at hlt
          · subst h1
            refine ⟨_, run _ _ _ h0 (by omega), ?_⟩
            obtain ⟨v, hv, hi⟩ := h8 _ _ hb
            simp only [VR]
            exact ⟨hm, b, rfl, cur, T, v, by rw [add_lit]; simp, h5, h6, hv, hi⟩
        · cases hx
      · cases hx
    · rename_i r q _ _ m b
      split at hx
      · rename_i hc
        obtain ⟨rfl, h0⟩ := hc
        split at hx
        · rename_i c hc
          simp at hx; subst hx
          have hlt : i.toNat < b.length := by
            rcases Nat.lt_or_ge i.toNat b.length with h | h
            · exact h
            · rw [List.getElem?_eq_none h] at hc; cases hc
          simp only [VR] at hp
          obtain ⟨hm, b', hbb, hi⟩ := hp
          simp only [List.cons.injEq, and_true] at hbb
          subst hbb
          rcases hi with ⟨h2, _⟩ | ⟨cap, cur, T, h1, h2, h3, h5, h6, h7, h8⟩
          · subst h2; simp at hlt
          · subst h1
            refine ⟨_, run _ _ _ h0 (by omega), ?_⟩
            obtain ⟨hcl, hcp⟩ := PRe.at_ b _ m 0 h8 _ _ hc
            simp only [VR]
            refine ⟨hm, c, rfl, hcl, cur, T, by rw [add_lit]; simp, h5, h6, ?_, ?_⟩
            · rw [h7]; exact Nat.mul_le_mul_right _ (by omega)
            · have := PRc.shift c ⟨g.inn r q, 0, none⟩ ((0 + i.toNat) * m) 0 hcp
              rw [add_lit] at this
              simpa using this
        · cases hx
      · cases hx
    · cases hx
  · cases ht

theorem indexR_sound {t : TypeId} {len n : Nat} (ht : elemOfArray P t = some (len, n)) {k : IntKind} {i : Int} {p x : AV} {up : Value} (hp : VR g w p up) (hx : indexR len n i p = some x) :
    ∃ u, (Instr.indexAt t up (.int k i)).run P w = .ok u w ∧ VR g w x u := by
  unfold elemOfArray at ht
  split at ht
  · rename_i len' e' hs
    obtain ⟨n', hn, he⟩ := Option.map_eq_some_iff.1 ht
    simp only [Prod.mk.injEq] at he
    obtain ⟨rfl, rfl⟩ := he
    have run : ∀ (ad : Addr), 0 ≤ i → i < len' → (Instr.indexAt t (.pointer (some ad)) (.int k i)).run P w = .ok (.pointer (some (ad.add (i.toNat * n')))) w := fun ad h0 h1 => by
      simp [Instr.indexAt, asIntOf, run_underlying hs, Instr.sureAddr, h0, h1, run_sizeOf hn]
    unfold indexR at hx
    split at hx
    · split at hx
      · rename_i hc
        simp at hx; subst hx
        simp only [VR] at hp; subst hp
        refine ⟨_, run _ hc.1 hc.2, ?_⟩
        simp only [VR, add_lit]
      · cases hx
    · split at hx
      · rename_i hc
        simp at hx; subst hx
        simp only [VR] at hp
        obtain ⟨ad, rfl, h2⟩ := ep_add (k := i.toNat * n') hp
        exact ⟨_, run _ hc.1 hc.2, h2⟩
      · cases hx
    · cases hx
  · cases ht

theorem okCell_one {c : AV} {u : Value} (h : okCell c = true) (hv : VR g w c u) : u.oneCell' = true := by
  cases c with
  | v x => simp only [VR] at hv; subst hv; exact h
  | sl t n es =>
    cases t with
    | own r lo =>
      simp only [VR, OwnSl] at hv
      obtain ⟨_, ⟨rfl, _⟩ | ⟨_, _, _, _, rfl, _⟩ | ⟨_, _, _, rfl, _⟩⟩ := hv <;> rfl
    | no => simp only [VR, PR] at hv; obtain ⟨_, _, _, rfl, _⟩ := hv; rfl
    | full => simp only [VR, PR] at hv; obtain ⟨_, _, _, rfl, _⟩ := hv; rfl
  | ptr s o => simp only [VR] at hv; subst hv; rfl
  | ep t i cs o =>
    simp only [VR] at hv
    obtain ⟨ad, _, rfl, _⟩ := epCells hv
    rfl
  | fn f caps => simp only [VR] at hv; obtain ⟨_, rfl, _⟩ := hv; rfl
  | ifc t x => simp only [VR] at hv; obtain ⟨_, rfl, _⟩ := hv; rfl
  | hnd k r i j off m bss =>
    simp only [VR] at hv
    obtain ⟨_, hv⟩ := hv
    cases k with
    | dsl => rcases hv with ⟨rfl, _⟩ | ⟨_, _, _, rfl, _⟩ <;> rfl
    | dp => obtain ⟨_, _, _, _, _, rfl, _⟩ := hv; rfl
    | isl => obtain ⟨_, _, hi⟩ := hv; rcases hi with ⟨_, _, _, rfl, _⟩ | ⟨_, _, _, rfl, _⟩ <;> rfl
    | iep => obtain ⟨_, _, _, _, _, rfl, _⟩ := hv; rfl
  | undef => simp [okCell] at h
  | agg cs => simp [okCell] at h
  | tup cs => simp [okCell] at h
theorem okCells_one : ∀ {cs : List AV} {us : List Value}, okCells cs = true → VRs g w cs us → ∀ u ∈ us, u.oneCell' = true
  | [], [], _, _, u, hu => by simp at hu
  | [], _ :: _, _, h, _, _ => by simp [VRs] at h
  | _ :: _, [], _, h, _, _ => by simp [VRs] at h
  | c :: cs, v :: us, ho, h, u, hu => by
    simp only [okCells, Bool.and_eq_true] at ho
    simp only [VRs] at h
    rcases List.mem_cons.1 hu with rfl | hu
    · exact okCell_one ho.1 h.1
    · exact okCells_one ho.2 h.2 u hu

theorem cells_of_one {u : Value} (h : u.oneCell' = true) : u.cells = #[u] := by cases u <;> simp_all [Value.cells, Value.oneCell']

/-- the cells of a value that may be stored -/
theorem VR.cells {x : AV} {u : Value} (hv : VR g w x u) (ho : okCells x.cells = true) : VRs g w x.cells u.cells.toList := by
  by_cases hx : ∃ cs, x = .agg cs
  · obtain ⟨cs, rfl⟩ := hx
    simp only [VR] at hv
    obtain ⟨us, rfl, h⟩ := hv
    simpa [AV.cells, Value.cells] using h
  · have hc : x.cells = [x] := by
      cases x with
      | agg cs => exact absurd ⟨cs, rfl⟩ hx
      | _ => rfl
    rw [hc] at ho ⊢
    simp only [okCells, Bool.and_true] at ho
    rw [cells_of_one (okCell_one ho hv)]
    simp [VRs, hv]

mutual
theorem kill_nil : ∀ x : AV, x.kill [] [] = x
  | .undef => by simp [AV.kill]
  | .v x => by simp [AV.kill]
  | .agg cs => by simp [AV.kill, killL_nil cs]
  | .tup cs => by simp [AV.kill, killL_nil cs]
  | .sl (.own r lo) n es => by simp [AV.kill]
  | .sl .no n es => by simp [AV.kill]
  | .sl .full n es => by simp [AV.kill]
  | .ptr s off => by simp [AV.kill]
  | .ep (.own r lo) i cells off => by simp [AV.kill]
  | .ep .no i cells off => by simp [AV.kill]
  | .ep .full i cells off => by simp [AV.kill]
  | .fn f caps => by simp [AV.kill, killL_nil caps]
  | .ifc t x => by simp [AV.kill, kill_nil x]
  | .hnd k r i j off m bss => by simp [AV.kill]
theorem killL_nil : ∀ cs : List AV, killL [] [] cs = cs
  | [] => by simp [killL]
  | c :: cs => by simp [killL, kill_nil c, killL_nil cs]
end
theorem killT_nil : ∀ l, killT [] [] l = l
  | [] => rfl
  | (k, x) :: l => by simp [killT, kill_nil, killT_nil l]
theorem killO_nil : ∀ l, killO [] [] l = l
  | [] => rfl
  | (k, x) :: l => by simp [killO, killL_nil, killO_nil l]
theorem stKill_nil (st : St) : st.kill [] [] = st := by simp [St.kill, killT_nil, killO_nil]
end

def upd {α : Type} (k : Nat) (x : α) : List (Nat × α) → List (Nat × α)
  | [] => []
  | (j, y) :: l => if j = k then (j, x) :: l else (j, y) :: upd k x l
theorem lk_upd {α : Type} (k : Nat) (x : α) (j : Nat) : ∀ l : List (Nat × α), lk j (upd k x l) = if j = k then (lk j l).map (fun _ => x) else lk j l
  | [] => by simp [upd, lk]
  | (i, y) :: l => by
    simp only [upd]
    by_cases hik : i = k
    · subst hik
      by_cases hij : i = j
      · subst hij; simp [lk]
      · simp only [if_true, lk, hij, if_false]
        have : j ≠ i := fun e => hij e.symm
        simp [this]
    · simp only [hik, if_false, lk]
      by_cases hij : i = j
      · subst hij; simp [hik]
      · simp only [hij, if_false]
        exact lk_upd k x j l

def cut (L : List AV) (off : Nat) (cs : List AV) : List AV := L.take off ++ cs ++ L.drop (off + cs.length)

section
variable {C : Ctx} {A : A0} {N : Nat} {g g' : Gh} {st : St} {a : Act} {w w' : World} {P : Program}

theorem setRow_other' (w : World) (b k : Nat) (cs : Array Value) (h : k ≠ b) : (w.setRow b cs).heap[k]? = w.heap[k]? := setRow_other w b k cs h

theorem lasts_setRow_box {b s : Nat} (h : g.own b = .box s) (cs : Array Value) : Lasts [] [] g w g (w.setRow b cs) where
  ro := fun k hk ho => ⟨ho, setRow_other w b k cs (fun e => by subst e; rw [h] at ho; cases ho)⟩
  row := fun k q hk _ ho => ⟨ho, setRow_other w b k cs (fun e => by subst e; rw [h] at ho; cases ho)⟩
  rows := fun _ _ => rfl
  boxes := fun _ _ => rfl
  inn := fun k q i hk _ ho => ⟨ho, setRow_other w b k cs (fun e => by subst e; rw [h] at ho; cases ho)⟩
  inns := fun _ _ _ => rfl

theorem run_storeVar {t : TypeId} {n : Nat} {b o : Nat} {T : TypeId} {cur : Array Value} {v : Value} (h2 : szOf P t = some n) (hn : v.cells.size = n) (hg : w.heap[b]? = some (.cells cur T (0, 0)))
    (hle : o + n ≤ cur.size) (h1 : ∀ u ∈ v.cells.toList, u.oneCell' = true) :
    (storeVar t ⟨b, o, none⟩ v).run P w = .ok () (w.setRow b (cur.toList.take o ++ v.cells.toList ++ cur.toList.drop (o + n)).toArray) := by
  unfold storeVar
  simp only [Sem.run_bind, run_sizeOf h2, Result.andThen_ok, ne_eq, hn, not_true, if_false]
  have := run_storeCells_at P b o T v.cells.toList 0 cur w hg (by rw [Array.length_toList, hn]; omega) h1
  simpa [hn] using this

/-- a store into a box -/
theorem R.storeBox (h : R C A N g st a w) {t : TypeId} {n : Nat} (h2 : szOf P t = some n) {s off : Nat} {cs : List AV} (hs : lk s st.objs = some cs) {x : AV} {u : Value} (hx : VR g w x u) (ho : okCells x.cells = true)
    (hn : x.cells.length = n) (hle : off + n ≤ cs.length) :
    ∃ w', (Instr.storeAt t (.pointer (some ⟨g.box s, off, none⟩)) u).run P w = .ok () w' ∧ R C A N g ⟨st.tmps, upd s (cut cs off x.cells) st.objs⟩ a w' := by
  obtain ⟨hown, cur, T, hh, hv⟩ := h.ob s cs hs
  have hxc := VR.cells hx ho
  have hul : u.cells.size = n := by rw [← hn, VRs.length hxc]; simp
  have hcl : cs.length = cur.size := by rw [VRs.length hv]; simp
  have hrun := run_storeVar (P := P) (w := w) (o := off) h2 hul hh (by omega) (okCells_one ho hxc)
  generalize hnew : (cur.toList.take off ++ u.cells.toList ++ cur.toList.drop (off + n)).toArray = new at hrun
  refine ⟨w.setRow (g.box s) new, by simpa [Instr.storeAt, Instr.sureAddr] using hrun, ?_⟩
  have hl := lasts_setRow_box (w := w) hown new
  have hfr : Fr C A g (w.setRow (g.box s) new) := h.fr.step hl rfl rfl rfl (by simp) (fun b hb hb' => ⟨hb', setRow_other w _ b _ (fun e => by subst e; rw [hown] at hb'; cases hb')⟩) (fun _ _ he => by cases he)
  refine ⟨h.size, h.defs, fun k y hy => ?_, fun q cs' hq => ?_, hfr⟩
  · obtain ⟨v, h1, h2⟩ := h.tm k y hy
    exact ⟨v, h1, by have := VR.lasts hl y v h2; rwa [kill_nil] at this⟩
  · simp only [lk_upd] at hq
    by_cases hqs : q = s
    · subst hqs
      simp only [if_true, hs, Option.map_some, Option.some.injEq] at hq
      subst hq
      refine ⟨hown, new, T, setRow_heap w _ cur new T _ hh, ?_⟩
      have lift : ∀ {ds : List AV} {vs : List Value}, VRs g w ds vs → VRs g (w.setRow (g.box q) new) ds vs := fun hd => by have := VRs.lasts hl _ _ hd; rwa [killL_nil] at this
      unfold cut
      have e : new.toList = cur.toList.take off ++ u.cells.toList ++ cur.toList.drop (off + n) := by rw [← hnew]
      rw [hn, e]
      exact VRs.append (VRs.append (lift (VRs.take off hv)) (lift hxc)) (lift (VRs.drop (off + n) hv))
    · simp only [hqs, if_false] at hq
      obtain ⟨h1, cur', T', h3, h4⟩ := h.ob q cs' hq
      refine ⟨h1, cur', T', ?_, by have := VRs.lasts hl _ _ h4; rwa [killL_nil] at this⟩
      rw [setRow_other w _ _ _ (fun e => by rw [e, hown] at h1; injection h1 with h1; exact hqs h1.symm)]
      exact h3
end
end Go.Abs
