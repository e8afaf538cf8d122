/- every member and queue in which it waits has one cause, and every cause names members alone: WitnessCauses answers true for every input and leaves its arguments as they were. The condition: the card's own (the row lists the variable mode.together as its initialiser lays it). -/
import Derived.Test.YthachdiockkofaaGreatDoorCards
import Derived.Test.YthachdiockkofaaGreatDoorTie
import Derived.WalkKit
import Derived.ProofKit
import Derived.OpenShut
import Derived.Deep.DeepHandedRow
import Derived.Lib.LaidTab
import Derived.Test.YthachdiockkofaaGreatDoorW43
import Derived.Test.YthachdiockkofaaGreatDoorW51
import Derived.Test.YthachdiockkofaaGreatDoorRowF14F
import Derived.Test.YthachdiockkofaaGreatDoorRowF14G
import Derived.Test.YthachdiockkofaaGreatDoorG0
set_option linter.all false
open Go Go.Abs Go.Proofs Go.Proofs.YthachdiockkofaaGreatDoor Go.ChangeShapes Go.WideShapes Go.ChangeAt Go.RowKit
set_option maxRecDepth 100000
namespace Go.Proofs.YthachdiockkofaaGreatDoor.q14
open Go.Rd
theorem own : ownKnob Tryz.prog.godebug = none := by kernel_rfl
theorem contract (H : Type) (enc : TypeId × Value → H) (W : World) (base : Nat) (args : Array Value) (ds gs : List (DataW H)) (before : List MemPlace)
    (hval : ∀ (j : Nat) t v, Tryz.f14.params[j]? = some t → args[j]? = some v → Value.okWide Tryz.prog W .any base t v)
    (hW : DataW.Whole enc Tryz.prog Tryz.f14.params.toList Rows.witnessCausesSpec.vars false W args.toList ds gs before) (hL : laidMetH Tryz.prog Rows.witnessCausesRow.laid W) :
    Calls Tryz.prog 14 args W fun e W' => ∃ v, e = .returned v ∧ Rows.witnessCausesSpec.post enc Tryz.prog Tryz.f14 false true false false W args v W' :=
  JM (C := C0) (f := 14) (fn := Tryz.f14) (s := Rows.witnessCausesSpec) rfl (ts := [22]) (tb := 4) (by rfl) ((Gm TM ME)) (by kernel_rfl) (by kernel_rfl) (by kernel_rfl) (by kernel_rfl) enc W (WW hL) base args ds gs before hval hW
    (fun ds h => by match ds, h with | [d0], _ => exact ⟨rfl, rfl, rfl⟩) (fun a _ _ => f14_ok a.1)
noncomputable def laidWorld (os : Os) : World :=
  { World.holding Tryz.prog os ⟨#[], #[], []⟩ with heap := (World.holding Tryz.prog os ⟨#[], #[], []⟩).heap.modify 0 fun
      | .cells _ t frozen => .cells (Vo.map Value.bool).toArray t frozen
      | o => o }
theorem laid_met (os : Os) : laidMet Tryz.prog Rows.witnessCausesRow.laid ((laidWorld os).forCall (fun _ _ => 0) ⟨#[], #[.slice none 0 0], []⟩).memory :=
  laidMet_of_run' 8 (by kernel_rfl) (by kernel_rfl)
theorem reads (os : Os) {H : Type} (enc : TypeId × Value → H) : ∃ places, DataW.whole enc Tryz.prog ((laidWorld os).forCall (fun _ _ => 0) ⟨#[], #[.slice none 0 0], []⟩).memory Tryz.f14.params.toList Rows.witnessCausesSpec.vars false (#[.slice none 0 0] : Array Value).toList 8 = some ([.nil], [], places) :=
  ⟨[], by kernel_rfl⟩
theorem lifted (os : Os) (started : os.Started) (H : Type) (enc : TypeId × Value → H) (F : Stop.Interp) :
    ReturnsInHanded {} Tryz.checked os 14 .any ((OpenSpec.ofChange Rows.witnessCausesSpec).preRow enc Tryz.prog Tryz.f14 Rows.witnessCausesRow.domain false Rows.witnessCausesRow.laid) (((OpenSpec.ofChange Rows.witnessCausesSpec).at F).post enc Tryz.prog Tryz.f14 false true false false) := by
  obtain ⟨places, hx⟩ := reads os enc;refine returnsInHanded_of_row (C := Tryz.checked) (s := OpenSpec.ofChange Rows.witnessCausesSpec) own started (by kernel_rfl) Tryz.func14
    (witness_row_at (enc := enc) (C := Tryz.checked) false (laidWorld os) #[.slice none 0 0] rfl (by kernel_rfl) (by kernel_rfl) (by kernel_rfl)
      (OpenSpec.preRow_of_cond 8 hx (by kernel_rfl) (fun k hk => by cases hk) (by kernel_rfl) (laid_met os))) ?_
  intro W base args ds gs before hval hW _ _ _ hL _ _;exact contract H enc W base args ds gs before hval hW hL
theorem said : Rows.WitnessCausesSaid :=
  OpenClaim.holds_of_cond 14 Tryz.f14 rfl rfl rfl rfl rfl rfl rfl ⟨rfl, rfl, rfl, rfl, rfl⟩ rfl rfl rfl rfl rfl (by kernel_rfl) Tryz.func14 closed
    (of_decide_eq_true (by kernel_rfl)) (by unfold Func.isWrapper; first | (rw [if_pos (by decide +kernel)]; kernel_rfl) | (rw [if_neg (by decide +kernel)]; exact ⟨rfl, rfl⟩))
    (fun os started H enc _ F => by rw [OpenClaim.pre_eq_preRow]; exact lifted os started H enc F)
theorem plain (f : FuncId) (fn : Func) (hf : Tryz.pinned.checked.prog.funcNamed "clusterlocks/clusterlockslaw18.WitnessCauses" = some f) (hfn : Tryz.pinned.checked.prog.funcs[f]? = some fn) :
    false = Tryz.pinned.checked.prog.looks [] ∧ ∀ (j : Nat) t, fn.params[j]? = some t → Tryz.pinned.checked.prog.wantsStandIn t = false := by
  obtain rfl : f = 14 := Option.some.inj ((show Tryz.prog.funcNamed "clusterlocks/clusterlockslaw18.WitnessCauses" = some 14 by kernel_rfl).symm.trans hf) |>.symm;obtain rfl : fn = Tryz.f14 := (Option.some.inj (Tryz.func14.symm.trans hfn)).symm;refine ⟨by kernel_rfl, fun j t ht => ?_⟩;have ht' := Array.mem_of_getElem? ht;rw [show Tryz.f14.params = #[22] by kernel_rfl] at ht';simp only [List.mem_toArray, List.mem_cons, List.not_mem_nil, or_false] at ht';rcases ht' with rfl
  · exact (show Tryz.prog.wantsStandIn 22 = false by kernel_rfl)
theorem card : Rows.WitnessCausesCardSaid :=
  Claim7.holds_tied_plain_at .later [] _ _ _ _ said (fun _ h => by cases h) (by kernel_rfl) (fun _ h => by cases h) witnessCauses_row_tie rfl ⟨rfl, rfl⟩ Go.Proofs.YthachdiockkofaaGreatDoor.g0.cb rfl plain cc
end Go.Proofs.YthachdiockkofaaGreatDoor.q14
