/- site.New: whatever the resources, the site and the number of sites, the site made is the reference site, and so for all sites of a made cluster; SiteNew answers true for every input and leaves its arguments as they were. The condition: the card's own (the row lists three variables as their initialisers lay them). -/
import Derived.Test.YtobcllcndnbmlaaGreatDoorCards
import Derived.WalkKit
import Derived.ProofKit
import Derived.OpenShut
import Derived.Deep.DeepHandedRow
import Derived.Lib.LaidTab
import Derived.SevenTiedAt
import Derived.Test.YtobcllcndnbmlaaGreatDoorM19
import Derived.Test.YtobcllcndnbmlaaGreatDoorM20
import Derived.Test.YtobcllcndnbmlaaGreatDoorRowK3F3
import Derived.Test.YtobcllcndnbmlaaGreatDoorRowK3G
import Derived.Test.YtobcllcndnbmlaaGreatDoorRowK3T
import Derived.Test.YtobcllcndnbmlaaGreatDoorRowK3P
set_option linter.all false
open Go Go.Abs Go.Proofs Go.Proofs.YtobcllcndnbmlaaGreatDoor Go.ChangeShapes Go.WideShapes Go.ChangeAt Go.RowKit
set_option maxRecDepth 100000
namespace Go.Proofs.YtobcllcndnbmlaaGreatDoor.q3
open Go.Rd
theorem own : ownKnob Tryz.prog.godebug = none := by kernel_rfl
theorem contract (H : Type) (enc : TypeId × Value → H) (W : World) (base : Nat) (args : Array Value) (ds gs : List (DataW H)) (before : List MemPlace)
    (hval : ∀ (j : Nat) t v, Tryz.f3.params[j]? = some t → args[j]? = some v → Value.okWide Tryz.prog W .any base t v)
    (hW : DataW.Whole enc Tryz.prog Tryz.f3.params.toList Rows.siteNewSpec.vars false W args.toList ds gs before) (hL : laidMetH Tryz.prog Rows.siteNewRow.laid W) :
    Calls Tryz.prog 3 args W fun e W' => ∃ v, e = .returned v ∧ Rows.siteNewSpec.post enc Tryz.prog Tryz.f3 false true false false W args v W' :=
  law_true_G (C := C0) (f := 3) (fn := Tryz.f3) (s := Rows.siteNewSpec) rfl (ts := [22, 3, 3, 23]) (tb := 4) (by rfl) (args_cons arg22 (args_cons arg3 (args_cons arg3 (args_cons arg23 args_nil)))) laidOut (by kernel_rfl) (by kernel_rfl) (by kernel_rfl) enc W (globC hL) base args ds gs before hval hW
    (fun ds h => by match ds, h with | [d0, d1, d2, d3], _ => exact ⟨rfl, rfl, rfl⟩) (fun a _ _ => f3_ok a.1 a.2.1 a.2.2.1 a.2.2.2.1)
def lay (g : Nat) (l : List Value) (w : World) : World :=
  { w with heap := w.heap.modify g fun
      | .cells _ t frozen => .cells l.toArray t frozen
      | o => o }
noncomputable def laidWorld (os : Os) : World := lay 0 (fldL.map fun s => Value.string (str s)) (lay 2 (togL.map Value.bool) (lay 3 (dbL.map fun n => Value.int .u8 (n : Nat)) (World.holding Tryz.prog os ⟨#[], #[], []⟩)))
theorem laid_met (os : Os) : laidMet Tryz.prog Rows.siteNewRow.laid ((laidWorld os).forCall (fun _ _ => 0) ⟨#[], #[.slice none 0 0, .int .i64 0, .int .i64 0, .slice none 0 0], []⟩).memory :=
  laidMet_of_run' 8 (by kernel_rfl) (by kernel_rfl)
theorem reads (os : Os) {H : Type} (enc : TypeId × Value → H) : ∃ places, DataW.whole enc Tryz.prog ((laidWorld os).forCall (fun _ _ => 0) ⟨#[], #[.slice none 0 0, .int .i64 0, .int .i64 0, .slice none 0 0], []⟩).memory Tryz.f3.params.toList Rows.siteNewSpec.vars false (#[.slice none 0 0, .int .i64 0, .int .i64 0, .slice none 0 0] : Array Value).toList 8 = some ([.nil, .lit (.int .i64 0), .lit (.int .i64 0), .nil], [], places) :=
  ⟨[], by kernel_rfl⟩
theorem lifted (os : Os) (started : os.Started) (H : Type) (enc : TypeId × Value → H) (F : Stop.Interp) :
    ReturnsInHanded {} Tryz.checked os 3 .any ((OpenSpec.ofChange Rows.siteNewSpec).preRow enc Tryz.prog Tryz.f3 Rows.siteNewRow.domain false Rows.siteNewRow.laid) (((OpenSpec.ofChange Rows.siteNewSpec).at F).post enc Tryz.prog Tryz.f3 false true false false) := by
  obtain ⟨places, hx⟩ := reads os enc
  refine returnsInHanded_of_row (C := Tryz.checked) (s := OpenSpec.ofChange Rows.siteNewSpec) own started (by kernel_rfl) Tryz.func3
    (witness_row_at (enc := enc) (C := Tryz.checked) false (laidWorld os) #[.slice none 0 0, .int .i64 0, .int .i64 0, .slice none 0 0] rfl (by kernel_rfl) (by kernel_rfl) (by kernel_rfl)
      (OpenSpec.preRow_of_cond 8 hx (by kernel_rfl) (fun k hk => by cases hk) (by kernel_rfl) (laid_met os))) ?_
  intro W base args ds gs before hval hW _ _ _ hL _ _
  exact contract H enc W base args ds gs before hval hW hL
theorem said : Rows.SiteNewSaid :=
  OpenClaim.holds_of_cond 3 Tryz.f3 rfl rfl rfl rfl rfl rfl rfl ⟨rfl, rfl, rfl, rfl, rfl⟩ rfl rfl rfl rfl rfl (by kernel_rfl) Tryz.func3 closed
    (of_decide_eq_true (by kernel_rfl)) (by unfold Func.isWrapper; first | (rw [if_pos (by decide +kernel)]; kernel_rfl) | (rw [if_neg (by decide +kernel)]; exact ⟨rfl, rfl⟩))
    (fun os started H enc _ F => by rw [OpenClaim.pre_eq_preRow]; exact lifted os started H enc F)
theorem plain (f : FuncId) (fn : Func) (hf : Tryz.pinned.checked.prog.funcNamed "clusterlocks/clusterlockslaw38.SiteNew" = some f) (hfn : Tryz.pinned.checked.prog.funcs[f]? = some fn) :
    true = Tryz.pinned.checked.prog.looks [] ∧ ∀ (j : Nat) t, fn.params[j]? = some t → Tryz.pinned.checked.prog.wantsStandIn t = false := by
  obtain rfl : f = 3 := Option.some.inj (nm.symm.trans hf) |>.symm
  obtain rfl : fn = Tryz.f3 := (Option.some.inj (Tryz.func3.symm.trans hfn)).symm
  refine ⟨lk.symm, fun j t ht => ?_⟩
  have ht' := Array.mem_of_getElem? ht
  rw [ps] at ht'
  simp only [List.mem_toArray, List.mem_cons, List.not_mem_nil, or_false] at ht'
  rcases ht' with rfl | rfl | rfl | rfl
  · exact w22
  · exact w3
  · exact w3
  · exact w23
theorem card : Rows.SiteNewCardSaid :=
  Claim7.holds_tied_plain_at .later [] _ _ _ _ said (fun _ h => by cases h) (by kernel_rfl) (fun _ h => by cases h) rowTie rfl ⟨rfl, rfl⟩ cb rfl plain cc
end Go.Proofs.YtobcllcndnbmlaaGreatDoor.q3
