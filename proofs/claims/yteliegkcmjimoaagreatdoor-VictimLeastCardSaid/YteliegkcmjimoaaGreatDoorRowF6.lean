/- no set that solves a state costs less than the chosen one: VictimLeast answers true for every input and leaves its arguments as they were. The condition: the card's own (the row lists two variables as their initialisers lay them). -/
import Derived.Test.YteliegkcmjimoaaGreatDoorCards
import Derived.Test.YteliegkcmjimoaaGreatDoorTie
import Derived.WalkKit
import Derived.ProofKit
import Derived.OpenShut
import Derived.Deep.DeepHandedRow
import Derived.Lib.LaidTab
import Derived.Test.YteliegkcmjimoaaGreatDoorW45
import Derived.Test.YteliegkcmjimoaaGreatDoorW48
import Derived.Test.YteliegkcmjimoaaGreatDoorRowF6F
import Derived.Test.YteliegkcmjimoaaGreatDoorRowF6G
import Derived.Test.YteliegkcmjimoaaGreatDoorG0
set_option linter.all false
open Go Go.Abs Go.Proofs Go.Proofs.YteliegkcmjimoaaGreatDoor Go.ChangeShapes Go.WideShapes Go.ChangeAt Go.RowKit
set_option maxRecDepth 100000
namespace Go.Proofs.YteliegkcmjimoaaGreatDoor.q6
open Go.Rd
theorem own : ownKnob Tryz.prog.godebug = none := by kernel_rfl
theorem contract (H : Type) (enc : TypeId × Value → H) (W : World) (base : Nat) (args : Array Value) (ds gs : List (DataW H)) (before : List MemPlace)
    (hval : ∀ (j : Nat) t v, Tryz.f6.params[j]? = some t → args[j]? = some v → Value.okWide Tryz.prog W .any base t v)
    (hW : DataW.Whole enc Tryz.prog Tryz.f6.params.toList Rows.victimLeastSpec.vars false W args.toList ds gs before) (hL : laidMetH Tryz.prog Rows.victimLeastRow.laid W) :
    Calls Tryz.prog 6 args W fun e W' => ∃ v, e = .returned v ∧ Rows.victimLeastSpec.post enc Tryz.prog Tryz.f6 false true false false W args v W' :=
  Nn (C := C0) (f := 6) (fn := Tryz.f6) (s := Rows.victimLeastSpec) rfl (ts := [27]) (tb := 4) (by rfl) ((IK jR Ra)) (by kernel_rfl) (by kernel_rfl) (by kernel_rfl) (by kernel_rfl) enc W (lE hL) base args ds gs before hval hW
    (fun ds h => by match ds, h with | [d0], _ => exact ⟨rfl, rfl, rfl⟩) (fun a _ _ => f6_ok a.1)
def lay (g : Nat) (l : List Value) (w : World) : World :=
  { w with heap := w.heap.modify g fun
      | .cells _ t frozen => .cells l.toArray t frozen
      | o => o }
noncomputable def laidWorld (os : Os) : World := lay 1 (jH.map Value.bool) (lay 0 (Go.Lib.deBruijn64tab.map fun n => Value.int .u8 (n : Nat)) (World.holding Tryz.prog os ⟨#[], #[], []⟩))
theorem laid_met (os : Os) : laidMet Tryz.prog Rows.victimLeastRow.laid ((laidWorld os).forCall (fun _ _ => 0) ⟨#[], #[.slice none 0 0], []⟩).memory :=
  laidMet_of_run' 8 (by kernel_rfl) (by kernel_rfl)
theorem reads (os : Os) {H : Type} (enc : TypeId × Value → H) : ∃ places, DataW.whole enc Tryz.prog ((laidWorld os).forCall (fun _ _ => 0) ⟨#[], #[.slice none 0 0], []⟩).memory Tryz.f6.params.toList Rows.victimLeastSpec.vars false (#[.slice none 0 0] : Array Value).toList 8 = some ([.nil], [], places) :=
  ⟨[], by kernel_rfl⟩
theorem lifted (os : Os) (started : os.Started) (H : Type) (enc : TypeId × Value → H) (F : Stop.Interp) :
    ReturnsInHanded {} Tryz.checked os 6 .any ((OpenSpec.ofChange Rows.victimLeastSpec).preRow enc Tryz.prog Tryz.f6 Rows.victimLeastRow.domain false Rows.victimLeastRow.laid) (((OpenSpec.ofChange Rows.victimLeastSpec).at F).post enc Tryz.prog Tryz.f6 false true false false) := by
  obtain ⟨places, hx⟩ := reads os enc;refine returnsInHanded_of_row (C := Tryz.checked) (s := OpenSpec.ofChange Rows.victimLeastSpec) own started (by kernel_rfl) Tryz.func6
    (witness_row_at (enc := enc) (C := Tryz.checked) false (laidWorld os) #[.slice none 0 0] rfl (by kernel_rfl) (by kernel_rfl) (by kernel_rfl)
      (OpenSpec.preRow_of_cond 8 hx (by kernel_rfl) (fun k hk => by cases hk) (by kernel_rfl) (laid_met os))) ?_
  intro W base args ds gs before hval hW _ _ _ hL _ _;exact contract H enc W base args ds gs before hval hW hL
theorem said : Rows.VictimLeastSaid :=
  OpenClaim.holds_of_cond 6 Tryz.f6 rfl rfl rfl rfl rfl rfl rfl ⟨rfl, rfl, rfl, rfl, rfl⟩ rfl rfl rfl rfl rfl (by kernel_rfl) Tryz.func6 closed
    (of_decide_eq_true (by kernel_rfl)) (by unfold Func.isWrapper; first | (rw [if_pos (by decide +kernel)]; kernel_rfl) | (rw [if_neg (by decide +kernel)]; exact ⟨rfl, rfl⟩))
    (fun os started H enc _ F => by rw [OpenClaim.pre_eq_preRow]; exact lifted os started H enc F)
theorem plain (f : FuncId) (fn : Func) (hf : Tryz.pinned.checked.prog.funcNamed "clusterlocks/clusterlockslaw22.VictimLeast" = some f) (hfn : Tryz.pinned.checked.prog.funcs[f]? = some fn) :
    true = Tryz.pinned.checked.prog.looks [] ∧ ∀ (j : Nat) t, fn.params[j]? = some t → Tryz.pinned.checked.prog.wantsStandIn t = false := by
  obtain rfl : f = 6 := Option.some.inj ((show Tryz.prog.funcNamed "clusterlocks/clusterlockslaw22.VictimLeast" = some 6 by kernel_rfl).symm.trans hf) |>.symm;obtain rfl : fn = Tryz.f6 := (Option.some.inj (Tryz.func6.symm.trans hfn)).symm;refine ⟨by kernel_rfl, fun j t ht => ?_⟩;have ht' := Array.mem_of_getElem? ht;rw [show Tryz.f6.params = #[27] by kernel_rfl] at ht';simp only [List.mem_toArray, List.mem_cons, List.not_mem_nil, or_false] at ht';rcases ht' with rfl
  · exact (show Tryz.prog.wantsStandIn 27 = false by kernel_rfl)
theorem card : Rows.VictimLeastCardSaid :=
  Claim7.holds_tied_plain_at .later [] _ _ _ _ said (fun _ h => by cases h) (by kernel_rfl) (fun _ h => by cases h) victimLeast_row_tie rfl ⟨rfl, rfl⟩ Go.Proofs.YteliegkcmjimoaaGreatDoor.g0.cb rfl plain cc
end Go.Proofs.YteliegkcmjimoaaGreatDoor.q6
