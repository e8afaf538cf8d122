/- part 17 of the proof -/
import Derived.Test.YtobcllcndnbmlaaGreatDoorM06
import Derived.Test.YtobcllcndnbmlaaGreatDoorM16
set_option linter.all false
open Go Go.Abs Go.Proofs
set_option maxRecDepth 100000
namespace Go.Rd
theorem sz3 : Tryz.prog.cellsOf 3 = 1 := by kernel_rfl
theorem sz9 : Tryz.prog.cellsOf 9 = 1 := by kernel_rfl
theorem sz87 : Tryz.prog.cellsOf 87 = 4 := by kernel_rfl
theorem cz3 (N : Nat) : CodN Tryz.prog N 3 (fun n : Int => [I n]) := (cod_int (k := .i64) (by kernel_rfl)).toN N
theorem cz9 (N : Nat) : CodN Tryz.prog N 9 (fun s : Bs => [.v (.string (str s))]) := ((cod_string (by kernel_rfl)).toN N).map fun s => ⟨s.toList, by
  have : str s.toList = s := by
    have h : s = str s.data.toList := rfl
    rw [h, str_toList]
  rw [this]⟩
theorem cz87 (N : Nat) : CodN Tryz.prog N 87 Res.c := (CodN.mono (codn_g (l := [(9, 0), (3, 1), (3, 2), (3, 3)]) (by kernel_rfl) (by simp only [List.map_cons, List.map_nil, List.sum_cons, List.sum_nil, sz87, sz9, sz3]; rfl) (codg_cons (cz9 N) sz9 (codg_cons (cz3 N) sz3 (codg_cons (cz3 N) sz3 (codg_cons (cz3 N) sz3 codg_nil))))) (Nat.le_succ N)).map fun (a, b, c, d, _) => ⟨⟨a, b, c, d⟩, rfl⟩
theorem arg22 : Arg Tryz.prog 22 (fun l : List Res => ressV l) (fun _ => 0) (fun _ => True) := (arg_slice (CodN.toCod cz87) (n := 4) (by kernel_rfl) sz87 (by omega)).map fun a _ => ⟨a, trivial, by simp, rfl⟩
theorem arg23 : Arg Tryz.prog 23 (fun l : List Int => intsV l) (fun _ => 0) (fun _ => True) := (arg_slice (CodN.toCod cz3) (n := 1) (by kernel_rfl) sz3 (by omega)).map fun a _ => ⟨a, trivial, by simp, rfl⟩
theorem arg3 : Arg Tryz.prog 3 (fun n : Int => .v (.int .i64 n)) (fun _ => 1) (fun n => (Lit.int .i64 n).wf = true) := arg_int (by kernel_rfl)
def rows : List (List Bool) := [[true, true, true, true, false], [true, true, false, false, false], [true, false, true, false, false], [true, false, false, false, false], [false, false, false, false, false]]
def dbL : List Nat := [0,1,56,2,57,49,28,3,61,58,42,50,38,29,17,4,62,47,59,36,45,43,51,22,53,39,33,30,24,18,12,5,63,55,48,27,60,41,37,16,46,35,44,21,52,32,23,11,54,26,40,15,34,20,31,10,25,14,19,9,13,8,7,6]
def dbD {H : Type} : DataW H := .agg (dbL.map fun n => .lit (.int .u8 (n : Nat)))
def fldD {H : Type} : DataW H := .agg (fldL.map fun s => .lit (.string s))
def Holds (W : World) (g : Nat) (cs : List AV) : Prop := 0 < cs.length ∧ isRo (gh0 W) g ∧ PRc (isRo (gh0 W)) W cs ⟨g, 0, none⟩ 0
theorem holds_of {W : World} {g : Nat} {vs : Array Value} {cs : List AV} (hv : ∀ i, W.cell? ⟨g, i, none⟩ = vs[i]?) (hl : vs.toList.length = cs.length) (hp : 0 < cs.length) (h : PRl (isRo (gh0 W)) W cs vs.toList) : Holds W g cs := by
  have hsz : 0 < vs.size := by rw [← Array.length_toList, hl]; exact hp
  refine ⟨hp, ?_, prc_of_l (us := vs.toList) h fun k _ => ?_⟩
  · have h0 := hv 0
    rw [Array.getElem?_eq_getElem hsz] at h0
    rw [isRo_gh0]
    exact lt_of_cell h0
  · rw [Array.getElem?_toList, Nat.zero_add, ← hv k, add_lit, Nat.zero_add]
theorem bools_l {W : World} {ro : Nat → Prop} : ∀ l : List Bool, PRl ro W (l.map fun b => .v (.bool b)) (l.map Value.bool)
  | [] => trivial
  | _ :: l => ⟨⟨rfl, rfl⟩, bools_l l⟩
theorem strs_l {W : World} {ro : Nat → Prop} : ∀ l : List Bs, PRl ro W (l.map fun s => .v (.string (str s))) (l.map fun s => Value.string (str s))
  | [] => trivial
  | _ :: l => ⟨⟨rfl, rfl⟩, strs_l l⟩
theorem holds_tog {W : World} {p : List MemPlace} {cs : Array Value} {fuel : Nat} (hvar : W.var? Tryz.prog "clusterlocks/mode.together" = some cs) (hd : DataW.trod (fun _ => ()) Tryz.prog W 0 (fun _ => true) false fuel 737 cs.toList = some (tabD rows, p)) : Holds W 2 tog := by
  have h := tab_cells (n := 5) (m := 5) (e := 736) (b := 4) (by kernel_rfl) (by kernel_rfl) (by kernel_rfl) (by kernel_rfl) (by kernel_rfl) (by kernel_rfl) hd
  refine holds_of (World.var?_cell (g := 2) (by kernel_rfl) hvar) (by rw [h]; rfl) (by decide) ?_
  rw [h]
  exact bools_l togL
theorem holds_fld {W : World} {p : List MemPlace} {cs : Array Value} {fuel : Nat} (hvar : W.var? Tryz.prog "clusterlocks/message.fields" = some cs) (hd : DataW.trod (fun _ => ()) Tryz.prog W 0 (fun _ => true) false fuel 231 cs.toList = some (fldD, p)) : Holds W 0 fld := by
  have h : cs.toList = fldL.map fun s => Value.string (str s) := by
    have h1 := arr_read (n := 16) (e := 9) (f := fldL.map fun s => [Value.string (str s)]) (by kernel_rfl) (by kernel_rfl) hd (by simp) fun i d c hd hc fuel cs' p' hx => by
      rw [List.getElem?_map] at hd hc
      cases hr : fldL[i]? with
      | none => rw [hr] at hd; cases hd
      | some v =>
        rw [hr] at hd hc
        simp at hd hc
        subst hd; subst hc
        obtain ⟨s, rfl, h2, _⟩ := DataW.trod_string (by kernel_rfl) hx
        simp at h2
        rw [h2.1]
        rfl
    rw [h1]
    generalize fldL = l
    induction l with
    | nil => rfl
    | cons x l ih => simp only [List.map_cons, List.flatten_cons, List.singleton_append, ih]
  refine holds_of (World.var?_cell (g := 0) (by kernel_rfl) hvar) (by rw [h]; rfl) (by decide) ?_
  rw [h]
  exact strs_l _
theorem glob_two {W : World} (h1 : Holds W 2 tog) (h2 : Holds W 0 fld) : Glob C0 (gh0 W) W := by
  intro i cs hi
  simp only at hi
  split at hi
  · rename_i h
    simp only [Option.some.injEq] at hi
    rw [h, ← hi]; exact h1
  · split at hi
    · rename_i h
      simp only [Option.some.injEq] at hi
      rw [h, ← hi]; exact h2
    · cases hi
end Go.Rd
