/- a witness agrees no more when one of its members is aborted: WitnessBreaks answers true for every input and leaves its arguments as they were. The condition: the card's own (the row lists the variable mode.together as its initialiser lays it). -/
import Derived.Test.YthachdiockkofaaGreatDoorCards
import Derived.Test.YthachdiockkofaaGreatDoorTie
import Derived.WalkKit
import Derived.ProofKit
import Derived.OpenShut
import Derived.Deep.DeepHandedRow
import Derived.Lib.LaidTab
import Derived.Test.YthachdiockkofaaGreatDoorW43
import Derived.Test.YthachdiockkofaaGreatDoorW48
import Derived.Test.YthachdiockkofaaGreatDoorRowF13F
import Derived.Test.YthachdiockkofaaGreatDoorRowF13G
import Derived.Test.YthachdiockkofaaGreatDoorG0
set_option linter.all false
open Go Go.Abs Go.Proofs Go.Proofs.YthachdiockkofaaGreatDoor Go.ChangeShapes Go.WideShapes Go.ChangeAt Go.RowKit
set_option maxRecDepth 100000
namespace Go.Proofs.YthachdiockkofaaGreatDoor.q13
open Go.Rd
theorem own : ownKnob Tryz.prog.godebug = none := by kernel_rfl
theorem contract (H : Type) (enc : TypeId × Value → H) (W : World) (base : Nat) (args : Array Value) (ds gs : List (DataW H)) (before : List MemPlace)
    (hval : ∀ (j : Nat) t v, Tryz.f13.params[j]? = some t → args[j]? = some v → Value.okWide Tryz.prog W .any base t v)
    (hW : DataW.Whole enc Tryz.prog Tryz.f13.params.toList Rows.witnessBreaksSpec.vars false W args.toList ds gs before) (hL : laidMetH Tryz.prog Rows.witnessBreaksRow.laid W) :
    Calls Tryz.prog 13 args W fun e W' => ∃ v, e = .returned v ∧ Rows.witnessBreaksSpec.post enc Tryz.prog Tryz.f13 false true false false W args v W' :=
  JM (C := C0) (f := 13) (fn := Tryz.f13) (s := Rows.witnessBreaksSpec) rfl (ts := [22, 3]) (tb := 4) (by rfl) ((Gm TM (Gm et ME))) (by kernel_rfl) (by kernel_rfl) (by kernel_rfl) (by kernel_rfl) enc W (WW hL) base args ds gs before hval hW
    (fun ds h => by match ds, h with | [d0, d1], _ => exact ⟨rfl, rfl, rfl⟩) (fun a _ _ => f13_ok a.1 a.2.1)
noncomputable def laidWorld (os : Os) : World :=
  { World.holding Tryz.prog os ⟨#[], #[], []⟩ with heap := (World.holding Tryz.prog os ⟨#[], #[], []⟩).heap.modify 0 fun
      | .cells _ t frozen => .cells (Vo.map Value.bool).toArray t frozen
      | o => o }
theorem laid_met (os : Os) : laidMet Tryz.prog Rows.witnessBreaksRow.laid ((laidWorld os).forCall (fun _ _ => 0) ⟨#[], #[.slice none 0 0, .int .i64 0], []⟩).memory :=
  laidMet_of_run' 8 (by kernel_rfl) (by kernel_rfl)
theorem reads (os : Os) {H : Type} (enc : TypeId × Value → H) : ∃ places, DataW.whole enc Tryz.prog ((laidWorld os).forCall (fun _ _ => 0) ⟨#[], #[.slice none 0 0, .int .i64 0], []⟩).memory Tryz.f13.params.toList Rows.witnessBreaksSpec.vars false (#[.slice none 0 0, .int .i64 0] : Array Value).toList 8 = some ([.nil, .lit (.int .i64 0)], [], places) :=
  ⟨[], by kernel_rfl⟩
theorem lifted (os : Os) (started : os.Started) (H : Type) (enc : TypeId × Value → H) (F : Stop.Interp) :
    ReturnsInHanded {} Tryz.checked os 13 .any ((OpenSpec.ofChange Rows.witnessBreaksSpec).preRow enc Tryz.prog Tryz.f13 Rows.witnessBreaksRow.domain false Rows.witnessBreaksRow.laid) (((OpenSpec.ofChange Rows.witnessBreaksSpec).at F).post enc Tryz.prog Tryz.f13 false true false false) := by
  obtain ⟨places, hx⟩ := reads os enc;refine returnsInHanded_of_row (C := Tryz.checked) (s := OpenSpec.ofChange Rows.witnessBreaksSpec) own started (by kernel_rfl) Tryz.func13
    (witness_row_at (enc := enc) (C := Tryz.checked) false (laidWorld os) #[.slice none 0 0, .int .i64 0] rfl (by kernel_rfl) (by kernel_rfl) (by kernel_rfl)
      (OpenSpec.preRow_of_cond 8 hx (by kernel_rfl) (fun k hk => by cases hk) (by kernel_rfl) (laid_met os))) ?_
  intro W base args ds gs before hval hW _ _ _ hL _ _;exact contract H enc W base args ds gs before hval hW hL
theorem said : Rows.WitnessBreaksSaid :=
  OpenClaim.holds_of_cond 13 Tryz.f13 rfl rfl rfl rfl rfl rfl rfl ⟨rfl, rfl, rfl, rfl, rfl⟩ rfl rfl rfl rfl rfl (by kernel_rfl) Tryz.func13 closed
    (of_decide_eq_true (by kernel_rfl)) (by unfold Func.isWrapper; first | (rw [if_pos (by decide +kernel)]; kernel_rfl) | (rw [if_neg (by decide +kernel)]; exact ⟨rfl, rfl⟩))
    (fun os started H enc _ F => by rw [OpenClaim.pre_eq_preRow]; exact lifted os started H enc F)
theorem plain (f : FuncId) (fn : Func) (hf : Tryz.pinned.checked.prog.funcNamed "clusterlocks/clusterlockslaw18.WitnessBreaks" = some f) (hfn : Tryz.pinned.checked.prog.funcs[f]? = some fn) :
    false = Tryz.pinned.checked.prog.looks [] ∧ ∀ (j : Nat) t, fn.params[j]? = some t → Tryz.pinned.checked.prog.wantsStandIn t = false := by
  obtain rfl : f = 13 := Option.some.inj ((show Tryz.prog.funcNamed "clusterlocks/clusterlockslaw18.WitnessBreaks" = some 13 by kernel_rfl).symm.trans hf) |>.symm;obtain rfl : fn = Tryz.f13 := (Option.some.inj (Tryz.func13.symm.trans hfn)).symm;refine ⟨by kernel_rfl, fun j t ht => ?_⟩;have ht' := Array.mem_of_getElem? ht;rw [show Tryz.f13.params = #[22, 3] by kernel_rfl] at ht';simp only [List.mem_toArray, List.mem_cons, List.not_mem_nil, or_false] at ht';rcases ht' with rfl | rfl
  · exact (show Tryz.prog.wantsStandIn 22 = false by kernel_rfl)
  · exact (show Tryz.prog.wantsStandIn 3 = false by kernel_rfl)
theorem card : Rows.WitnessBreaksCardSaid :=
  Claim7.holds_tied_plain_at .later [] _ _ _ _ said (fun _ h => by cases h) (by kernel_rfl) (fun _ h => by cases h) witnessBreaks_row_tie rfl ⟨rfl, rfl⟩ Go.Proofs.YthachdiockkofaaGreatDoor.g0.cb rfl plain cc
end Go.Proofs.YthachdiockkofaaGreatDoor.q13
