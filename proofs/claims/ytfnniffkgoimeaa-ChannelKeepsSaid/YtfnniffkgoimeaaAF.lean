/- Append on a slice that has no room, as an operation of a region's free part; weakening ahead of a region. -/
import Derived.Test.YtfnniffkgoimeaaA25
set_option linter.all false
namespace Go.Abs
theorem drawA_imp {X : Env} {ops : Array Oper} {K : St → Prop} {st st' : St} (h : Imp X st st') (hd : drawA X ops K st') : drawA X ops K st := fun A N g a w hA hN hX hR id Q hQ => by
  obtain ⟨g', hR'⟩ := h A N g a w hA hR
  exact hd A N g' a w hA hN hX hR' id Q hQ

def appFull (P : Program) (t t2 : TypeId) (x y : AV) : Option AV := match x, rowInf P t with
  | .sl .full m es, some (_, n, _) => match elems n y with
    | some fs => if m = n ∧ isSliceT P t2 = true ∧ es.length + fs.length ≤ 4294967296 then some (.sl .no n (es ++ fs)) else none
    | none => none
  | _, _ => none

section
variable {C : Ctx} {A : A0} {N : Nat} {g g' : Gh} {st : St} {a : Act} {w w' : World} {P : Program}

theorem grow_ro (g : Gh) (w : World) (o : Obj) : Grow [] [] [] g w { g with own := fun x => if x = w.heap.size then .ro else g.own x } (w.drew.alloc o) where
  ro := fun b hb h => ⟨by simp [Nat.ne_of_lt hb, h], alloc_old w.drew o b hb⟩
  row := fun b q hb _ h => ⟨by simp [Nat.ne_of_lt hb, h], alloc_old w.drew o b hb⟩
  rows := fun _ _ => rfl
  boxes := fun _ _ => rfl
  inn := fun b q i hb _ h => ⟨by simp [Nat.ne_of_lt hb, h], alloc_old w.drew o b hb⟩
  inns := fun _ _ _ => rfl
  os := rfl
  tape := rfl
  output := rfl
  size := by simp
  other := fun b hb h => ⟨by simp [Nat.ne_of_lt hb, h], alloc_old w.drew o b hb⟩
  kept := fun s _ _ h hb => ⟨by simp [Nat.ne_of_lt hb, h], alloc_old w.drew o _ hb⟩

theorem appFullG {o : Oper} {x y : Operand} {t t2 : TypeId} {z : AV} (ho : o.op = .call { callee := .builtin .append, args := #[x, y], argTypes := #[t, t2] }) (h : appFull C.P t t2 (ev C st x) (ev C st y) = some z) : OpG C o st z [] [] [] [] := by
  intro A N g a w hR K Q hk
  unfold appFull at h
  split at h
  · rename_i m es e n b hx hr
    split at h
    · rename_i fs hfs
      split at h
      · rename_i hc
        obtain ⟨rfl, ht2, hbig⟩ := hc
        simp only [Option.some.injEq] at h
        subst h
        obtain ⟨hu, i, zv, hi, hz, hzs, hsz, hby, hn, hb⟩ := rowInf_spec hr
        subst hsz
        obtain ⟨consts, he⟩ := exec_builtin a ho
        have hxv := hR.ev x
        rw [hx] at hxv
        obtain ⟨vs, sy, py, ly⟩ := elems_src hn hfs (hR.ev y)
        obtain ⟨us, sx, px, lx⟩ := elems_src (n := i.size) (es := es) hn (by simp [elems]) hxv
        have hp := hxv
        simp only [VR, PR] at hp
        obtain ⟨_, ad, cap, hu2, k2, k3, k4, k5, k6⟩ := hp
        have hcap := k4 trivial
        subst hcap
        have hdoes : ∀ u w', (Builtin.append_ #[t, t2] o.type #[a.eval x, a.eval y]).run C.P w = .ok u w' → Does C.P o a w u w' := fun u w' hrun => does_pure he (by simpa using hrun)
        by_cases hm : fs.length = 0
        · have hf : fs = [] := List.eq_nil_of_length_eq_zero hm
          subst hf
          have hv0 : vs = [] := List.eq_nil_of_length_eq_zero (by simpa using sy.1)
          subst hv0
          rw [hu2] at hdoes
          refine (hdoes _ _ (run_append_same hu ht2 hi sy k2)).wp (hk _ g w (Grow.refl g w) ?_ (fun s cs hs => by cases hs))
          rw [List.append_nil, ← hu2]
          exact WeakV.full _ _ _ hxv
        · have hbytes : (es.length + fs.length) * i.bytes ≤ 140737488355328 := by
            have : (es.length + fs.length) * i.bytes ≤ 4294967296 * 32768 := Nat.mul_le_mul hbig (by omega)
            omega
          have hrun := run_append_new (ty := o.type) hu ht2 hi hz (base := ad) (sLen := es.length) (sCap := es.length) (olds := us) (hu2 ▸ sx) sy (by omega) (Nat.le_refl _) hbytes (by omega)
          rw [hu2] at hdoes
          have hgr := grow_ro g w (.cells (us.toArray ++ vs.toArray ++ Builtin.zeroCells zv.cells (grownCap w (es.length + fs.length) es.length e - (es.length + fs.length))) e)
          refine (hdoes _ _ hrun).wp (hk _ _ _ hgr ?_ (fun s cs hs => by cases hs))
          simp only [VR, PR]
          refine ⟨(fun _ _ h => by cases h), some ⟨w.heap.size, 0, none⟩, grownCap w (es.length + fs.length) es.length e, by simp, by simpa using grownCap_ge w (es.length + fs.length) es.length e, grownCap_le_maxLen w _ _ e (by simp only [maxLen]; omega), (fun h => by cases h), k5, .inr ⟨⟨w.heap.size, 0, none⟩, rfl, by simp [isRo], ?_⟩⟩
          refine PRe.of_list (es ++ fs) (us ++ vs) _ _ 0 (fun e' he' => (List.mem_append.1 he').elim (lx e') (ly e')) ?_ ?_
          · rw [List.flatten_append]; exact PRl.append (PRl.mono hgr.ro' px) (PRl.mono hgr.ro' py)
          · intro j v hj
            simp only [Nat.zero_mul, Nat.zero_add, add_lit]
            have hh : (w.drew.alloc (.cells (us.toArray ++ vs.toArray ++ Builtin.zeroCells zv.cells (grownCap w (es.length + fs.length) es.length e - (es.length + fs.length))) e)).heap[w.heap.size]? = some (.cells (us.toArray ++ vs.toArray ++ Builtin.zeroCells zv.cells (grownCap w (es.length + fs.length) es.length e - (es.length + fs.length))) e) := heap_alloc_new w.drew _
            rw [cell_of_row _ _ _ _ _ _ hh]
            have hj' : j < (us ++ vs).length := by
              rcases Nat.lt_or_ge j (us ++ vs).length with h | h
              · exact h
              · rw [List.getElem?_eq_none h] at hj; cases hj
            rw [Array.getElem?_append_left (by simpa using hj')]
            simpa using hj
      · cases h
    · cases h
  · cases h
end
end Go.Abs
