/- part 41 of the proof -/
import Derived.Test.YthachdiockkofaaGreatDoorCards
import Derived.Test.YthachdiockkofaaGreatDoorTie
import Derived.WalkKit
import Derived.ProofKit
import Derived.OpenShut
import Derived.Deep.DeepHandedRow
import Derived.Lib.LaidTab
import Derived.Test.YthachdiockkofaaGreatDoorL39
import Derived.Test.YthachdiockkofaaGreatDoorL40
import Derived.Test.YthachdiockkofaaGreatDoorRowF12F
import Derived.Test.YthachdiockkofaaGreatDoorRowF12G
import Derived.Test.YthachdiockkofaaGreatDoorG0
set_option linter.all false
open Go Go.Abs Go.Proofs Go.Proofs.YthachdiockkofaaGreatDoor Go.ChangeShapes Go.WideShapes Go.ChangeAt Go.RowKit
set_option maxRecDepth 100000
namespace Go.Proofs.YthachdiockkofaaGreatDoor.q12
open Go.Rd
theorem own : ownKnob Tryz.prog.godebug = none := by kernel_rfl
theorem contract (H : Type) (enc : TypeId × Value → H) (W : World) (base : Nat) (args : Array Value) (ds gs : List (DataW H)) (before : List MemPlace)
    (hval : ∀ (j : Nat) t v, Tryz.f12.params[j]? = some t → args[j]? = some v → Value.okWide Tryz.prog W .any base t v)
    (hW : DataW.Whole enc Tryz.prog Tryz.f12.params.toList Rows.witnessLastsSpec.vars false W args.toList ds gs before) (hL : laidMetH Tryz.prog Rows.witnessLastsRow.laid W) :
    Calls Tryz.prog 12 args W fun e W' => ∃ v, e = .returned v ∧ Rows.witnessLastsSpec.post enc Tryz.prog Tryz.f12 false true false false W args v W' :=
  Xu (C := C0) (f := 12) (fn := Tryz.f12) (s := Rows.witnessLastsSpec) rfl (ts := [22, 22]) (tb := 4) (by rfl) ((Sg dV (Sg dV Z2))) (by kernel_rfl) (by kernel_rfl) (by kernel_rfl) (by kernel_rfl) enc W (iE hL) base args ds gs before hval hW
    (fun ds h => by match ds, h with | [d0, d1], _ => exact ⟨rfl, rfl, rfl⟩) (fun a _ _ => f12_ok a.1 a.2.1)
noncomputable def laidWorld (os : Os) : World :=
  { World.holding Tryz.prog os ⟨#[], #[], []⟩ with heap := (World.holding Tryz.prog os ⟨#[], #[], []⟩).heap.modify 0 fun
      | .cells _ t frozen => .cells (cg.map Value.bool).toArray t frozen
      | o => o }
theorem laid_met (os : Os) : laidMet Tryz.prog Rows.witnessLastsRow.laid ((laidWorld os).forCall (fun _ _ => 0) ⟨#[], #[.slice none 0 0, .slice none 0 0], []⟩).memory :=
  laidMet_of_run' 8 (by kernel_rfl) (by kernel_rfl)
theorem reads (os : Os) {H : Type} (enc : TypeId × Value → H) : ∃ places, DataW.whole enc Tryz.prog ((laidWorld os).forCall (fun _ _ => 0) ⟨#[], #[.slice none 0 0, .slice none 0 0], []⟩).memory Tryz.f12.params.toList Rows.witnessLastsSpec.vars false (#[.slice none 0 0, .slice none 0 0] : Array Value).toList 8 = some ([.nil, .nil], [], places) :=
  ⟨[], by kernel_rfl⟩
theorem lifted (os : Os) (started : os.Started) (H : Type) (enc : TypeId × Value → H) (F : Stop.Interp) :
    ReturnsInHanded {} Tryz.checked os 12 .any ((OpenSpec.ofChange Rows.witnessLastsSpec).preRow enc Tryz.prog Tryz.f12 Rows.witnessLastsRow.domain false Rows.witnessLastsRow.laid) (((OpenSpec.ofChange Rows.witnessLastsSpec).at F).post enc Tryz.prog Tryz.f12 false true false false) := by
  obtain ⟨places, hx⟩ := reads os enc;refine returnsInHanded_of_row (C := Tryz.checked) (s := OpenSpec.ofChange Rows.witnessLastsSpec) own started (by kernel_rfl) Tryz.func12
    (witness_row_at (enc := enc) (C := Tryz.checked) false (laidWorld os) #[.slice none 0 0, .slice none 0 0] rfl (by kernel_rfl) (by kernel_rfl) (by kernel_rfl)
      (OpenSpec.preRow_of_cond 8 hx (by kernel_rfl) (fun k hk => by cases hk) (by kernel_rfl) (laid_met os))) ?_
  intro W base args ds gs before hval hW _ _ _ hL _ _;exact contract H enc W base args ds gs before hval hW hL
theorem said : Rows.WitnessLastsSaid :=
  OpenClaim.holds_of_cond 12 Tryz.f12 rfl rfl rfl rfl rfl rfl rfl ⟨rfl, rfl, rfl, rfl, rfl⟩ rfl rfl rfl rfl rfl (by kernel_rfl) Tryz.func12 closed
    (of_decide_eq_true (by kernel_rfl)) (by unfold Func.isWrapper; first | (rw [if_pos (by decide +kernel)]; kernel_rfl) | (rw [if_neg (by decide +kernel)]; exact ⟨rfl, rfl⟩))
    (fun os started H enc _ F => by rw [OpenClaim.pre_eq_preRow]; exact lifted os started H enc F)
theorem plain (f : FuncId) (fn : Func) (hf : Tryz.pinned.checked.prog.funcNamed "clusterlocks/clusterlockslaw18.WitnessLasts" = some f) (hfn : Tryz.pinned.checked.prog.funcs[f]? = some fn) :
    false = Tryz.pinned.checked.prog.looks [] ∧ ∀ (j : Nat) t, fn.params[j]? = some t → Tryz.pinned.checked.prog.wantsStandIn t = false := by
  obtain rfl : f = 12 := Option.some.inj ((show Tryz.prog.funcNamed "clusterlocks/clusterlockslaw18.WitnessLasts" = some 12 by kernel_rfl).symm.trans hf) |>.symm;obtain rfl : fn = Tryz.f12 := (Option.some.inj (Tryz.func12.symm.trans hfn)).symm;refine ⟨by kernel_rfl, fun j t ht => ?_⟩;have ht' := Array.mem_of_getElem? ht;rw [show Tryz.f12.params = #[22, 22] by kernel_rfl] at ht';simp only [List.mem_toArray, List.mem_cons, List.not_mem_nil, or_false] at ht';rcases ht' with rfl | rfl
  · exact (show Tryz.prog.wantsStandIn 22 = false by kernel_rfl)
  · exact (show Tryz.prog.wantsStandIn 22 = false by kernel_rfl)
theorem card : Rows.WitnessLastsCardSaid :=
  Claim7.holds_tied_plain_at .later [] _ _ _ _ said (fun _ h => by cases h) (by kernel_rfl) (fun _ h => by cases h) witnessLasts_row_tie rfl ⟨rfl, rfl⟩ Go.Proofs.YthachdiockkofaaGreatDoor.g0.cb rfl plain cc
end Go.Proofs.YthachdiockkofaaGreatDoor.q12
