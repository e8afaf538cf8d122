/- which processes are free, and what Remove and Restrict return, for arbitrary states: ReductionFree answers true for every input and leaves its arguments as they were. The condition: the card's own (the row lists the variable mode.together as its initialiser lays it). -/
import Derived.Test.YthelplgdpmhepaaGreatDoorCards
import Derived.Test.YthelplgdpmhepaaGreatDoorTie
import Derived.WalkKit
import Derived.ProofKit
import Derived.OpenShut
import Derived.Deep.DeepHandedRow
import Derived.Lib.LaidTab
import Derived.Test.YthelplgdpmhepaaGreatDoorT26
set_option linter.all false
open Go Go.Abs Go.Proofs Go.Proofs.YthelplgdpmhepaaGreatDoor Go.ChangeShapes Go.WideShapes Go.ChangeAt Go.RowKit
set_option maxRecDepth 100000
namespace Go.Proofs.YthelplgdpmhepaaGreatDoor.q10
open Go.Rd
theorem own : ownKnob Tryz.prog.godebug = none := by kernel_rfl
theorem contract (H : Type) (enc : TypeId × Value → H) (W : World) (base : Nat) (args : Array Value) (ds gs : List (DataW H)) (before : List MemPlace)
    (hval : ∀ (j : Nat) t v, Tryz.f10.params[j]? = some t → args[j]? = some v → Value.okWide Tryz.prog W .any base t v)
    (hW : DataW.Whole enc Tryz.prog Tryz.f10.params.toList Rows.reductionFreeSpec.vars false W args.toList ds gs before) (hL : laidMetH Tryz.prog Rows.reductionFreeRow.laid W) :
    Calls Tryz.prog 10 args W fun e W' => ∃ v, e = .returned v ∧ Rows.reductionFreeSpec.post enc Tryz.prog Tryz.f10 false true false false W args v W' :=
  law_true_G (C := C0) (f := 10) (fn := Tryz.f10) (s := Rows.reductionFreeSpec) rfl (ts := [25, 27, 30]) (tb := 4) (by rfl) (args_cons arg25 (args_cons arg27 (args_cons arg30 args_nil))) (by kernel_rfl) (by kernel_rfl) (by kernel_rfl) (by kernel_rfl) enc W (globC hL) base args ds gs before hval hW
    (fun ds h => by match ds, h with | [d0, d1, d2], _ => exact ⟨rfl, rfl, rfl⟩) (fun a _ _ => f10_ok a.1 a.2.1 a.2.2.1)
noncomputable def laidWorld (os : Os) : World :=
  { World.holding Tryz.prog os ⟨#[], #[], []⟩ with heap := (World.holding Tryz.prog os ⟨#[], #[], []⟩).heap.modify 0 fun
      | .cells _ t frozen => .cells (togL.map Value.bool).toArray t frozen
      | o => o }
theorem laid_met (os : Os) : laidMet Tryz.prog Rows.reductionFreeRow.laid ((laidWorld os).forCall (fun _ _ => 0) ⟨#[], #[.agg #[.slice none 0 0, .slice none 0 0], .agg #[.int .i64 0, .int .i64 0, .int .i64 0], .slice none 0 0], []⟩).memory :=
  laidMet_of_run' 8 (by kernel_rfl) (by kernel_rfl)
theorem reads (os : Os) {H : Type} (enc : TypeId × Value → H) : ∃ places, DataW.whole enc Tryz.prog ((laidWorld os).forCall (fun _ _ => 0) ⟨#[], #[.agg #[.slice none 0 0, .slice none 0 0], .agg #[.int .i64 0, .int .i64 0, .int .i64 0], .slice none 0 0], []⟩).memory Tryz.f10.params.toList Rows.reductionFreeSpec.vars false (#[.agg #[.slice none 0 0, .slice none 0 0], .agg #[.int .i64 0, .int .i64 0, .int .i64 0], .slice none 0 0] : Array Value).toList 8 = some ([.agg [.nil, .nil], .agg [.lit (.int .i64 0), .lit (.int .i64 0), .lit (.int .i64 0)], .nil], [], places) :=
  ⟨[], by kernel_rfl⟩
theorem lifted (os : Os) (started : os.Started) (H : Type) (enc : TypeId × Value → H) (F : Stop.Interp) :
    ReturnsInHanded {} Tryz.checked os 10 .any ((OpenSpec.ofChange Rows.reductionFreeSpec).preRow enc Tryz.prog Tryz.f10 Rows.reductionFreeRow.domain false Rows.reductionFreeRow.laid) (((OpenSpec.ofChange Rows.reductionFreeSpec).at F).post enc Tryz.prog Tryz.f10 false true false false) := by
  obtain ⟨places, hx⟩ := reads os enc
  refine returnsInHanded_of_row (C := Tryz.checked) (s := OpenSpec.ofChange Rows.reductionFreeSpec) own started (by kernel_rfl) Tryz.func10
    (witness_row_at (enc := enc) (C := Tryz.checked) false (laidWorld os) #[.agg #[.slice none 0 0, .slice none 0 0], .agg #[.int .i64 0, .int .i64 0, .int .i64 0], .slice none 0 0] rfl (by kernel_rfl) (by kernel_rfl) (by kernel_rfl)
      (OpenSpec.preRow_of_cond 8 hx (by kernel_rfl) (fun k hk => by cases hk) (by kernel_rfl) (laid_met os))) ?_
  intro W base args ds gs before hval hW _ _ _ hL _ _
  exact contract H enc W base args ds gs before hval hW hL
theorem k00 : (fun (P : Program) (f : FuncId) (fn : Func) (s : ChangeSpec) (c : OpenClaim) => (c.wf (OpenSpec.ofChange s) : Bool)) Tryz.prog 10 Tryz.f10 Rows.reductionFreeSpec Rows.reductionFreeRow = true := by kernel_rfl
theorem k01 : (fun (P : Program) (f : FuncId) (fn : Func) (s : ChangeSpec) (c : OpenClaim) => (laidOutB P : Bool)) Tryz.prog 10 Tryz.f10 Rows.reductionFreeSpec Rows.reductionFreeRow = true := by kernel_rfl
theorem k02 : (fun (P : Program) (f : FuncId) (fn : Func) (s : ChangeSpec) (c : OpenClaim) => (mapsRowed P : Bool)) Tryz.prog 10 Tryz.f10 Rows.reductionFreeSpec Rows.reductionFreeRow = true := by kernel_rfl
theorem k03 : (fun (P : Program) (f : FuncId) (fn : Func) (s : ChangeSpec) (c : OpenClaim) => (fn.params.all (P.readableRec ·) : Bool)) Tryz.prog 10 Tryz.f10 Rows.reductionFreeSpec Rows.reductionFreeRow = true := by kernel_rfl
theorem k04 : (fun (P : Program) (f : FuncId) (fn : Func) (s : ChangeSpec) (c : OpenClaim) => (namedTie P c.named s.vars : Bool)) Tryz.prog 10 Tryz.f10 Rows.reductionFreeSpec Rows.reductionFreeRow = true := by kernel_rfl
theorem k05 : (fun (P : Program) (f : FuncId) (fn : Func) (s : ChangeSpec) (c : OpenClaim) => ((c.stops == []) : Bool)) Tryz.prog 10 Tryz.f10 Rows.reductionFreeSpec Rows.reductionFreeRow = true := by kernel_rfl
theorem k06 : (fun (P : Program) (f : FuncId) (fn : Func) (s : ChangeSpec) (c : OpenClaim) => ((P.stops == []) : Bool)) Tryz.prog 10 Tryz.f10 Rows.reductionFreeSpec Rows.reductionFreeRow = true := by kernel_rfl
theorem k07 : (fun (P : Program) (f : FuncId) (fn : Func) (s : ChangeSpec) (c : OpenClaim) => ((c.knobs == []) : Bool)) Tryz.prog 10 Tryz.f10 Rows.reductionFreeSpec Rows.reductionFreeRow = true := by kernel_rfl
theorem k08 : (fun (P : Program) (f : FuncId) (fn : Func) (s : ChangeSpec) (c : OpenClaim) => ((P.stopKnobs == []) : Bool)) Tryz.prog 10 Tryz.f10 Rows.reductionFreeSpec Rows.reductionFreeRow = true := by kernel_rfl
theorem k09 : (fun (P : Program) (f : FuncId) (fn : Func) (s : ChangeSpec) (c : OpenClaim) => ((c.inPlace == P.inPlace f) : Bool)) Tryz.prog 10 Tryz.f10 Rows.reductionFreeSpec Rows.reductionFreeRow = true := by kernel_rfl
theorem k10 : (fun (P : Program) (f : FuncId) (fn : Func) (s : ChangeSpec) (c : OpenClaim) => ((c.unfollowed == P.unfollowed f) : Bool)) Tryz.prog 10 Tryz.f10 Rows.reductionFreeSpec Rows.reductionFreeRow = true := by kernel_rfl
theorem k11 : (fun (P : Program) (f : FuncId) (fn : Func) (s : ChangeSpec) (c : OpenClaim) => ((c.recurses == P.recurses f) : Bool)) Tryz.prog 10 Tryz.f10 Rows.reductionFreeSpec Rows.reductionFreeRow = true := by kernel_rfl
theorem k12 : (fun (P : Program) (f : FuncId) (fn : Func) (s : ChangeSpec) (c : OpenClaim) => ((c.named == P.varsNamed f) : Bool)) Tryz.prog 10 Tryz.f10 Rows.reductionFreeSpec Rows.reductionFreeRow = true := by kernel_rfl
theorem k13 : (fun (P : Program) (f : FuncId) (fn : Func) (s : ChangeSpec) (c : OpenClaim) => ((c.maps == (fn.params.toList ++ s.plain.varTypes P).any (P.mapsRec ·)) : Bool)) Tryz.prog 10 Tryz.f10 Rows.reductionFreeSpec Rows.reductionFreeRow = true := by kernel_rfl
theorem k14 : (fun (P : Program) (f : FuncId) (fn : Func) (s : ChangeSpec) (c : OpenClaim) => ((c.ifaces == (fn.params.toList ++ s.plain.varTypes P).any (P.ifacesRec ·)) : Bool)) Tryz.prog 10 Tryz.f10 Rows.reductionFreeSpec Rows.reductionFreeRow = true := by kernel_rfl
theorem k15 : (fun (P : Program) (f : FuncId) (fn : Func) (s : ChangeSpec) (c : OpenClaim) => ((c.mapsOut == P.mapsAmong fn.resultTypes.toList) : Bool)) Tryz.prog 10 Tryz.f10 Rows.reductionFreeSpec Rows.reductionFreeRow = true := by kernel_rfl
theorem k16 : (fun (P : Program) (f : FuncId) (fn : Func) (s : ChangeSpec) (c : OpenClaim) => ((c.loops == (fn.params.toList ++ s.plain.varTypes P).any (P.loopsFrom ·)) : Bool)) Tryz.prog 10 Tryz.f10 Rows.reductionFreeSpec Rows.reductionFreeRow = true := by kernel_rfl
theorem k17 : (fun (P : Program) (f : FuncId) (fn : Func) (s : ChangeSpec) (c : OpenClaim) => ((c.wideKeys == (fn.params.toList ++ s.plain.varTypes P ++ fn.resultTypes.toList).any (P.wideKeysFrom ·)) : Bool)) Tryz.prog 10 Tryz.f10 Rows.reductionFreeSpec Rows.reductionFreeRow = true := by kernel_rfl
theorem k18 : (fun (P : Program) (f : FuncId) (fn : Func) (s : ChangeSpec) (c : OpenClaim) => (s.vars.all (P.varReadable ·) : Bool)) Tryz.prog 10 Tryz.f10 Rows.reductionFreeSpec Rows.reductionFreeRow = true := by kernel_rfl
theorem k19 : (fun (P : Program) (f : FuncId) (fn : Func) (s : ChangeSpec) (c : OpenClaim) => (fn.resultTypes.all (fun t => P.readableRec t && decide (t < P.types.size)) : Bool)) Tryz.prog 10 Tryz.f10 Rows.reductionFreeSpec Rows.reductionFreeRow = true := by kernel_rfl
theorem k20 : (fun (P : Program) (f : FuncId) (fn : Func) (s : ChangeSpec) (c : OpenClaim) => ((c.ifacesOut == fn.resultTypes.toList.any (P.ifacesRec ·)) : Bool)) Tryz.prog 10 Tryz.f10 Rows.reductionFreeSpec Rows.reductionFreeRow = true := by kernel_rfl
theorem k21 : (fun (P : Program) (f : FuncId) (fn : Func) (s : ChangeSpec) (c : OpenClaim) => ((c.loopsOut == fn.resultTypes.toList.any (P.loopsFrom ·)) : Bool)) Tryz.prog 10 Tryz.f10 Rows.reductionFreeSpec Rows.reductionFreeRow = true := by kernel_rfl
theorem k22 : (fun (P : Program) (f : FuncId) (fn : Func) (s : ChangeSpec) (c : OpenClaim) => ((c.plainKeys == P.plainKeys) : Bool)) Tryz.prog 10 Tryz.f10 Rows.reductionFreeSpec Rows.reductionFreeRow = true := by kernel_rfl
theorem k23 : (fun (P : Program) (f : FuncId) (fn : Func) (s : ChangeSpec) (c : OpenClaim) => (c.shortTexts.isNone : Bool)) Tryz.prog 10 Tryz.f10 Rows.reductionFreeSpec Rows.reductionFreeRow = true := by kernel_rfl
theorem k24 : (fun (P : Program) (f : FuncId) (fn : Func) (s : ChangeSpec) (c : OpenClaim) => (P.stopsHeard : Bool)) Tryz.prog 10 Tryz.f10 Rows.reductionFreeSpec Rows.reductionFreeRow = true := by kernel_rfl
theorem k25 : (fun (P : Program) (f : FuncId) (fn : Func) (s : ChangeSpec) (c : OpenClaim) => (P.mayEnter : Bool)) Tryz.prog 10 Tryz.f10 Rows.reductionFreeSpec Rows.reductionFreeRow = true := by kernel_rfl
theorem k26 : (fun (P : Program) (f : FuncId) (fn : Func) (s : ChangeSpec) (c : OpenClaim) => ((c.lifted == P.liftsFinal) : Bool)) Tryz.prog 10 Tryz.f10 Rows.reductionFreeSpec Rows.reductionFreeRow = true := by kernel_rfl
theorem k27 : (fun (P : Program) (f : FuncId) (fn : Func) (s : ChangeSpec) (c : OpenClaim) => ((P.make == some c.make) : Bool)) Tryz.prog 10 Tryz.f10 Rows.reductionFreeSpec Rows.reductionFreeRow = true := by kernel_rfl
theorem k28 : (fun (P : Program) (f : FuncId) (fn : Func) (s : ChangeSpec) (c : OpenClaim) => ((c.kinds == (if c.domain.isEmpty then [] else fn.params.toList.map fun t => match P.underlying t with | some (.int k) => some k | _ => none)) : Bool)) Tryz.prog 10 Tryz.f10 Rows.reductionFreeSpec Rows.reductionFreeRow = true := by kernel_rfl
theorem k29 : (fun (P : Program) (f : FuncId) (fn : Func) (s : ChangeSpec) (c : OpenClaim) => ((c.pinned == c.pinnedBy) : Bool)) Tryz.prog 10 Tryz.f10 Rows.reductionFreeSpec Rows.reductionFreeRow = true := by kernel_rfl
theorem k30 : (fun (P : Program) (f : FuncId) (fn : Func) (s : ChangeSpec) (c : OpenClaim) => ((c.veiled == (fn.params.toList ++ s.plain.varTypes P ++ fn.resultTypes.toList).any (P.veiledRec ·)) : Bool)) Tryz.prog 10 Tryz.f10 Rows.reductionFreeSpec Rows.reductionFreeRow = true := by kernel_rfl
theorem k31 : (fun (P : Program) (f : FuncId) (fn : Func) (s : ChangeSpec) (c : OpenClaim) => (c.veiledFits P fn.params.toList (fn.params.toList ++ s.plain.varTypes P ++ fn.resultTypes.toList) : Bool)) Tryz.prog 10 Tryz.f10 Rows.reductionFreeSpec Rows.reductionFreeRow = true := by kernel_rfl
theorem andI {a b : Bool} (ha : a = true) (hb : b = true) : (a && b) = true := by rw [ha, hb]; rfl
theorem closed : joinedFacts Tryz.prog 10 Tryz.f10 Rows.reductionFreeSpec Rows.reductionFreeRow = true := by
  unfold joinedFacts
  exact andI (andI (andI (andI (andI (andI (andI (andI (andI (andI (andI (andI (andI (andI (andI (andI (andI (andI (andI (andI (andI (andI (andI (andI (andI (andI (andI (andI (andI (andI (andI k00 k01) k02) k03) k04) k05) k06) k07) k08) k09) k10) k11) k12) k13) k14) k15) k16) k17) k18) k19) k20) k21) k22) k23) k24) k25) k26) k27) k28) k29) k30) k31
theorem said : Rows.ReductionFreeSaid :=
  OpenClaim.holds_of_cond 10 Tryz.f10 rfl rfl rfl rfl rfl rfl rfl ⟨rfl, rfl, rfl, rfl, rfl⟩ rfl rfl rfl rfl rfl (by kernel_rfl) Tryz.func10 closed
    (of_decide_eq_true (by kernel_rfl)) (by unfold Func.isWrapper; first | (rw [if_pos (by decide +kernel)]; kernel_rfl) | (rw [if_neg (by decide +kernel)]; exact ⟨rfl, rfl⟩))
    (fun os started H enc _ F => by rw [OpenClaim.pre_eq_preRow]; exact lifted os started H enc F)
theorem plain (f : FuncId) (fn : Func) (hf : Tryz.pinned.checked.prog.funcNamed "clusterlocks/clusterlockslaw17.ReductionFree" = some f) (hfn : Tryz.pinned.checked.prog.funcs[f]? = some fn) :
    false = Tryz.pinned.checked.prog.looks [] ∧ ∀ (j : Nat) t, fn.params[j]? = some t → Tryz.pinned.checked.prog.wantsStandIn t = false := by
  obtain rfl : f = 10 := Option.some.inj ((show Tryz.prog.funcNamed "clusterlocks/clusterlockslaw17.ReductionFree" = some 10 by kernel_rfl).symm.trans hf) |>.symm
  obtain rfl : fn = Tryz.f10 := (Option.some.inj (Tryz.func10.symm.trans hfn)).symm
  refine ⟨by kernel_rfl, fun j t ht => ?_⟩
  have ht' := Array.mem_of_getElem? ht
  rw [show Tryz.f10.params = #[25, 27, 30] by kernel_rfl] at ht'
  simp only [List.mem_toArray, List.mem_cons, List.not_mem_nil, or_false] at ht'
  rcases ht' with rfl | rfl | rfl
  · exact (show Tryz.prog.wantsStandIn 25 = false by kernel_rfl)
  · exact (show Tryz.prog.wantsStandIn 27 = false by kernel_rfl)
  · exact (show Tryz.prog.wantsStandIn 30 = false by kernel_rfl)
theorem card : Rows.ReductionFreeCardSaid :=
  Claim7.holds_tied_plain_at .later [] _ _ _ _ said (fun _ h => by cases h) (by kernel_rfl) (fun _ h => by cases h) reductionFree_row_tie rfl ⟨rfl, rfl⟩ (by kernel_rfl) rfl plain (by kernel_rfl)
end Go.Proofs.YthelplgdpmhepaaGreatDoor.q10
