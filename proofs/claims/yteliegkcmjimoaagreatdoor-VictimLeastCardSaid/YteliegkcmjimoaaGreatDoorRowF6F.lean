/- the closed facts of the row: what the program and the row themselves say -/
import Derived.Test.YteliegkcmjimoaaGreatDoorCards
import Derived.Test.YteliegkcmjimoaaGreatDoorTie
import Derived.WalkKit
import Derived.ProofKit
import Derived.OpenShut
import Derived.Deep.DeepHandedRow
import Derived.Lib.LaidTab
set_option linter.all false
open Go Go.Proofs Go.Proofs.YteliegkcmjimoaaGreatDoor Go.ChangeShapes Go.WideShapes Go.ChangeAt Go.RowKit
set_option maxRecDepth 100000
namespace Go.Proofs.YteliegkcmjimoaaGreatDoor.q6
theorem k00 : (fun (P : Program) (f : FuncId) (fn : Func) (s : ChangeSpec) (c : OpenClaim) => (c.wf (OpenSpec.ofChange s) : Bool)) Tryz.prog 6 Tryz.f6 Rows.victimLeastSpec Rows.victimLeastRow = true := by kernel_rfl
noncomputable abbrev J (X : Program → FuncId → Func → ChangeSpec → OpenClaim → Bool) : Bool := X Tryz.prog 6 Tryz.f6 Rows.victimLeastSpec Rows.victimLeastRow
theorem k01 : J (fun P f fn s c => laidOutB P) = true := by kernel_rfl
theorem k02 : J (fun P f fn s c => mapsRowed P) = true := by kernel_rfl
theorem k03 : J (fun P f fn s c => fn.params.all (P.readableRec ·)) = true := by kernel_rfl
theorem k04 : J (fun P f fn s c => namedTie P c.named s.vars) = true := by kernel_rfl
theorem k05 : J (fun P f fn s c => (c.stops == [])) = true := by kernel_rfl
theorem k06 : J (fun P f fn s c => (P.stops == [])) = true := by kernel_rfl
theorem k07 : J (fun P f fn s c => (c.knobs == [])) = true := by kernel_rfl
theorem k08 : J (fun P f fn s c => (P.stopKnobs == [])) = true := by kernel_rfl
theorem k09 : J (fun P f fn s c => (c.inPlace == P.inPlace f)) = true := by kernel_rfl
theorem k10 : J (fun P f fn s c => (c.unfollowed == P.unfollowed f)) = true := by kernel_rfl
theorem k11 : J (fun P f fn s c => (c.recurses == P.recurses f)) = true := by kernel_rfl
theorem k12 : J (fun P f fn s c => (c.named == P.varsNamed f)) = true := by kernel_rfl
theorem k13 : J (fun P f fn s c => (c.maps == (fn.params.toList ++ s.plain.varTypes P).any (P.mapsRec ·))) = true := by kernel_rfl
theorem k14 : J (fun P f fn s c => (c.ifaces == (fn.params.toList ++ s.plain.varTypes P).any (P.ifacesRec ·))) = true := by kernel_rfl
theorem k15 : J (fun P f fn s c => (c.mapsOut == P.mapsAmong fn.resultTypes.toList)) = true := by kernel_rfl
theorem k16 : J (fun P f fn s c => (c.loops == (fn.params.toList ++ s.plain.varTypes P).any (P.loopsFrom ·))) = true := by kernel_rfl
theorem k17 : J (fun P f fn s c => (c.wideKeys == (fn.params.toList ++ s.plain.varTypes P ++ fn.resultTypes.toList).any (P.wideKeysFrom ·))) = true := by kernel_rfl
theorem k18 : J (fun P f fn s c => s.vars.all (P.varReadable ·)) = true := by kernel_rfl
theorem k19 : J (fun P f fn s c => fn.resultTypes.all (fun t => P.readableRec t && decide (t < P.types.size))) = true := by kernel_rfl
theorem k20 : J (fun P f fn s c => (c.ifacesOut == fn.resultTypes.toList.any (P.ifacesRec ·))) = true := by kernel_rfl
theorem k21 : J (fun P f fn s c => (c.loopsOut == fn.resultTypes.toList.any (P.loopsFrom ·))) = true := by kernel_rfl
theorem k22 : J (fun P f fn s c => (c.plainKeys == P.plainKeys)) = true := by kernel_rfl
theorem k23 : J (fun P f fn s c => c.shortTexts.isNone) = true := by kernel_rfl
theorem k24 : J (fun P f fn s c => P.stopsHeard) = true := by kernel_rfl
theorem k25 : J (fun P f fn s c => P.mayEnter) = true := by kernel_rfl
theorem k26 : J (fun P f fn s c => (c.lifted == P.liftsFinal)) = true := by kernel_rfl
theorem k27 : J (fun P f fn s c => (P.make == some c.make)) = true := by kernel_rfl
theorem k28 : J (fun P f fn s c => (c.kinds == (if c.domain.isEmpty then [] else fn.params.toList.map fun t => match P.underlying t with | some (.int k) => some k | _ => none))) = true := by kernel_rfl
theorem k29 : J (fun P f fn s c => (c.pinned == c.pinnedBy)) = true := by kernel_rfl
theorem k30 : J (fun P f fn s c => (c.veiled == (fn.params.toList ++ s.plain.varTypes P ++ fn.resultTypes.toList).any (P.veiledRec ·))) = true := by kernel_rfl
theorem k31 : J (fun P f fn s c => c.veiledFits P fn.params.toList (fn.params.toList ++ s.plain.varTypes P ++ fn.resultTypes.toList)) = true := by kernel_rfl
theorem andI {a b : Bool} (ha : a = true) (hb : b = true) : (a && b) = true := by rw [ha, hb]; rfl
theorem closed : joinedFacts Tryz.prog 6 Tryz.f6 Rows.victimLeastSpec Rows.victimLeastRow = true := by
  unfold joinedFacts;exact andI (andI (andI (andI (andI (andI (andI (andI (andI (andI (andI (andI (andI (andI (andI (andI (andI (andI (andI (andI (andI (andI (andI (andI (andI (andI (andI (andI (andI (andI (andI k00 k01) k02) k03) k04) k05) k06) k07) k08) k09) k10) k11) k12) k13) k14) k15) k16) k17) k18) k19) k20) k21) k22) k23) k24) k25) k26) k27) k28) k29) k30) k31
end Go.Proofs.YteliegkcmjimoaaGreatDoor.q6
