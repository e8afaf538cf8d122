/-
  NARROWER THAN 'FOR EVERY INPUT', by the rows' own cells (each row's printed sentence says how): ReductionScripts: laid · ReductionStable: laid · ReductionLives: laid · ReductionMinimal: laid · ReductionFewer: laid · ReductionConfluent: laid · WitnessScripts: laid · WitnessCores: laid · WitnessSpoils: laid · WitnessLasts: laid · WitnessBreaks: laid · WitnessCauses: laid.
  DERIVED. THE GIVEN ROWS OF THIS SEAT. 12 by the template 'for every input the law returns true; each argument reads behind the call as it read before'; 0 by the template 'total and deterministic' (their statements: YthachdiockkofaaGreatDoorTotals.lean).
  GIVEN WITH THE SEED: the statements are not yours to turn. If you find one false, say at which input.
  Laid BY PROGRAM, IN A SANDBOX (cutbox-rows.mjs): the forced cells as the released guide's own fill.sh prints them over the translation cded8b8a108a59da… (all of the seat's roots in one cut). By AI agents, Wed Nov 11 2026. No macro, syntax, notation, axiom, sorry.
-/
import Derived.Test.YthachdiockkofaaGreatDoorChecked
import GoSem.Claim
import GoSem.ClaimJoined
import GoSem.ClaimMapViews
import Derived.JoinedTies
import Derived.KernelRfl
namespace Go.Proofs.YthachdiockkofaaGreatDoor
/- THE CELL 'sum', in the pinned program and in every row, IS THE sha256 OF THE DUMP (.gsa) THAT YthachdiockkofaaGreatDoorProg.lean LOADS. Nothing in Lean hashes anything: it is a label: what it is worth is what the hold of that sum in a sandbox is worth. -/
noncomputable def Tryz.pinned : Pinned := { name := "ythachdiockkofaagreatdoor", sum := "cded8b8a108a59da3ee2f4a662697cb28d4f704495fc81931f2a87d9ff0cb564", checked := Tryz.checked }
namespace Rows
def none {H : Type} : Left H := { results := [], args := [] }

/- WHAT THE LISTED PACKAGE-LEVEL VARIABLES READ AS WHEN THE CALL BEGINS. Each datum BY PROGRAM (the guide's laid-datum.mjs) off the statement by which the dump's own 'gosem.cut.vars' lays the variable. In a bare row this is a premise. The card (YthachdiockkofaaGreatDoorCards.lean) ties it to the program's text. -/
def laid_clusterlocks_mode_together {H : Type} : DataW H := .agg [.agg [.lit (.bool true), .lit (.bool true), .lit (.bool true), .lit (.bool true), .lit (.bool false)], .agg [.lit (.bool true), .lit (.bool true), .lit (.bool false), .lit (.bool false), .lit (.bool false)], .agg [.lit (.bool true), .lit (.bool false), .lit (.bool true), .lit (.bool false), .lit (.bool false)], .agg [.lit (.bool true), .lit (.bool false), .lit (.bool false), .lit (.bool false), .lit (.bool false)], .agg [.lit (.bool false), .lit (.bool false), .lit (.bool false), .lit (.bool false), .lit (.bool false)]]

/-- 'clusterlockslaw17.ReductionScripts': WHATEVER THE INPUT: true; the input reads as it did. -/
def reductionScriptsSpec : ChangeSpec := { name := "reductionScripts", fn := fun _ => fun
  | [d1, d2, d3] => { results := [.lit (.bool true)], args := [d1, d2, d3] }
  | _ => none }
def reductionScriptsRow : OpenClaim := { program := "ythachdiockkofaagreatdoor", sum := "cded8b8a108a59da3ee2f4a662697cb28d4f704495fc81931f2a87d9ff0cb564", func := "clusterlocks/clusterlockslaw17.ReductionScripts", spec := "reductionScripts", unfollowed := true, recurses := true, named := ["clusterlocks/mode.together"], plainKeys := false, apart := false, laid := [("clusterlocks/mode.together", laid_clusterlocks_mode_together)] }
def ReductionScriptsSaid : Prop := reductionScriptsRow.holds Tryz.pinned (OpenSpec.ofChange reductionScriptsSpec)

/-- ITS FALSE NEIGHBOUR: 'it returns false'. Refute it at one input. -/
def reductionScriptsWrong : ChangeSpec := { name := "reductionScripts", fn := fun _ => fun
  | [d1, d2, d3] => { results := [.lit (.bool false)], args := [d1, d2, d3] }
  | _ => none }
def ReductionScriptsWrongFalsely : Prop := reductionScriptsRow.holds Tryz.pinned (OpenSpec.ofChange reductionScriptsWrong)

/-- 'clusterlockslaw17.ReductionStable': WHATEVER THE INPUT: true; the input reads as it did. -/
def reductionStableSpec : ChangeSpec := { name := "reductionStable", fn := fun _ => fun
  | [d1, d2] => { results := [.lit (.bool true)], args := [d1, d2] }
  | _ => none }
def reductionStableRow : OpenClaim := { program := "ythachdiockkofaagreatdoor", sum := "cded8b8a108a59da3ee2f4a662697cb28d4f704495fc81931f2a87d9ff0cb564", func := "clusterlocks/clusterlockslaw17.ReductionStable", spec := "reductionStable", unfollowed := true, recurses := true, named := ["clusterlocks/mode.together"], plainKeys := false, apart := false, laid := [("clusterlocks/mode.together", laid_clusterlocks_mode_together)] }
def ReductionStableSaid : Prop := reductionStableRow.holds Tryz.pinned (OpenSpec.ofChange reductionStableSpec)

/-- ITS FALSE NEIGHBOUR: 'it returns false'. Refute it at one input. -/
def reductionStableWrong : ChangeSpec := { name := "reductionStable", fn := fun _ => fun
  | [d1, d2] => { results := [.lit (.bool false)], args := [d1, d2] }
  | _ => none }
def ReductionStableWrongFalsely : Prop := reductionStableRow.holds Tryz.pinned (OpenSpec.ofChange reductionStableWrong)

/-- 'clusterlockslaw17.ReductionLives': WHATEVER THE INPUT: true; the input reads as it did. -/
def reductionLivesSpec : ChangeSpec := { name := "reductionLives", fn := fun _ => fun
  | [d] => { results := [.lit (.bool true)], args := [d] }
  | _ => none }
def reductionLivesRow : OpenClaim := { program := "ythachdiockkofaagreatdoor", sum := "cded8b8a108a59da3ee2f4a662697cb28d4f704495fc81931f2a87d9ff0cb564", func := "clusterlocks/clusterlockslaw17.ReductionLives", spec := "reductionLives", unfollowed := true, recurses := true, named := ["clusterlocks/mode.together"], plainKeys := false, apart := false, laid := [("clusterlocks/mode.together", laid_clusterlocks_mode_together)] }
def ReductionLivesSaid : Prop := reductionLivesRow.holds Tryz.pinned (OpenSpec.ofChange reductionLivesSpec)

/-- ITS FALSE NEIGHBOUR: 'it returns false'. Refute it at one input. -/
def reductionLivesWrong : ChangeSpec := { name := "reductionLives", fn := fun _ => fun
  | [d] => { results := [.lit (.bool false)], args := [d] }
  | _ => none }
def ReductionLivesWrongFalsely : Prop := reductionLivesRow.holds Tryz.pinned (OpenSpec.ofChange reductionLivesWrong)

/-- 'clusterlockslaw17.ReductionMinimal': WHATEVER THE INPUT: true; the input reads as it did. -/
def reductionMinimalSpec : ChangeSpec := { name := "reductionMinimal", fn := fun _ => fun
  | [d1, d2] => { results := [.lit (.bool true)], args := [d1, d2] }
  | _ => none }
def reductionMinimalRow : OpenClaim := { program := "ythachdiockkofaagreatdoor", sum := "cded8b8a108a59da3ee2f4a662697cb28d4f704495fc81931f2a87d9ff0cb564", func := "clusterlocks/clusterlockslaw17.ReductionMinimal", spec := "reductionMinimal", unfollowed := true, recurses := true, named := ["clusterlocks/mode.together"], plainKeys := false, apart := false, laid := [("clusterlocks/mode.together", laid_clusterlocks_mode_together)] }
def ReductionMinimalSaid : Prop := reductionMinimalRow.holds Tryz.pinned (OpenSpec.ofChange reductionMinimalSpec)

/-- ITS FALSE NEIGHBOUR: 'it returns false'. Refute it at one input. -/
def reductionMinimalWrong : ChangeSpec := { name := "reductionMinimal", fn := fun _ => fun
  | [d1, d2] => { results := [.lit (.bool false)], args := [d1, d2] }
  | _ => none }
def ReductionMinimalWrongFalsely : Prop := reductionMinimalRow.holds Tryz.pinned (OpenSpec.ofChange reductionMinimalWrong)

/-- 'clusterlockslaw17.ReductionFewer': WHATEVER THE INPUT: true; the input reads as it did. -/
def reductionFewerSpec : ChangeSpec := { name := "reductionFewer", fn := fun _ => fun
  | [d1, d2, d3, d4] => { results := [.lit (.bool true)], args := [d1, d2, d3, d4] }
  | _ => none }
def reductionFewerRow : OpenClaim := { program := "ythachdiockkofaagreatdoor", sum := "cded8b8a108a59da3ee2f4a662697cb28d4f704495fc81931f2a87d9ff0cb564", func := "clusterlocks/clusterlockslaw17.ReductionFewer", spec := "reductionFewer", unfollowed := true, recurses := true, named := ["clusterlocks/mode.together"], plainKeys := false, apart := false, laid := [("clusterlocks/mode.together", laid_clusterlocks_mode_together)] }
def ReductionFewerSaid : Prop := reductionFewerRow.holds Tryz.pinned (OpenSpec.ofChange reductionFewerSpec)

/-- ITS FALSE NEIGHBOUR: 'it returns false'. Refute it at one input. -/
def reductionFewerWrong : ChangeSpec := { name := "reductionFewer", fn := fun _ => fun
  | [d1, d2, d3, d4] => { results := [.lit (.bool false)], args := [d1, d2, d3, d4] }
  | _ => none }
def ReductionFewerWrongFalsely : Prop := reductionFewerRow.holds Tryz.pinned (OpenSpec.ofChange reductionFewerWrong)

/-- 'clusterlockslaw17.ReductionConfluent': WHATEVER THE INPUT: true; the input reads as it did. -/
def reductionConfluentSpec : ChangeSpec := { name := "reductionConfluent", fn := fun _ => fun
  | [d1, d2, d3] => { results := [.lit (.bool true)], args := [d1, d2, d3] }
  | _ => none }
def reductionConfluentRow : OpenClaim := { program := "ythachdiockkofaagreatdoor", sum := "cded8b8a108a59da3ee2f4a662697cb28d4f704495fc81931f2a87d9ff0cb564", func := "clusterlocks/clusterlockslaw17.ReductionConfluent", spec := "reductionConfluent", unfollowed := true, recurses := true, named := ["clusterlocks/mode.together"], plainKeys := false, apart := false, laid := [("clusterlocks/mode.together", laid_clusterlocks_mode_together)] }
def ReductionConfluentSaid : Prop := reductionConfluentRow.holds Tryz.pinned (OpenSpec.ofChange reductionConfluentSpec)

/-- ITS FALSE NEIGHBOUR: 'it returns false'. Refute it at one input. -/
def reductionConfluentWrong : ChangeSpec := { name := "reductionConfluent", fn := fun _ => fun
  | [d1, d2, d3] => { results := [.lit (.bool false)], args := [d1, d2, d3] }
  | _ => none }
def ReductionConfluentWrongFalsely : Prop := reductionConfluentRow.holds Tryz.pinned (OpenSpec.ofChange reductionConfluentWrong)

/-- 'clusterlockslaw18.WitnessScripts': WHATEVER THE INPUT: true; the input reads as it did. -/
def witnessScriptsSpec : ChangeSpec := { name := "witnessScripts", fn := fun _ => fun
  | [d1, d2] => { results := [.lit (.bool true)], args := [d1, d2] }
  | _ => none }
def witnessScriptsRow : OpenClaim := { program := "ythachdiockkofaagreatdoor", sum := "cded8b8a108a59da3ee2f4a662697cb28d4f704495fc81931f2a87d9ff0cb564", func := "clusterlocks/clusterlockslaw18.WitnessScripts", spec := "witnessScripts", unfollowed := true, recurses := true, named := ["clusterlocks/mode.together"], plainKeys := false, apart := false, laid := [("clusterlocks/mode.together", laid_clusterlocks_mode_together)] }
def WitnessScriptsSaid : Prop := witnessScriptsRow.holds Tryz.pinned (OpenSpec.ofChange witnessScriptsSpec)

/-- ITS FALSE NEIGHBOUR: 'it returns false'. Refute it at one input. -/
def witnessScriptsWrong : ChangeSpec := { name := "witnessScripts", fn := fun _ => fun
  | [d1, d2] => { results := [.lit (.bool false)], args := [d1, d2] }
  | _ => none }
def WitnessScriptsWrongFalsely : Prop := witnessScriptsRow.holds Tryz.pinned (OpenSpec.ofChange witnessScriptsWrong)

/-- 'clusterlockslaw18.WitnessCores': WHATEVER THE INPUT: true; the input reads as it did. -/
def witnessCoresSpec : ChangeSpec := { name := "witnessCores", fn := fun _ => fun
  | [d1, d2] => { results := [.lit (.bool true)], args := [d1, d2] }
  | _ => none }
def witnessCoresRow : OpenClaim := { program := "ythachdiockkofaagreatdoor", sum := "cded8b8a108a59da3ee2f4a662697cb28d4f704495fc81931f2a87d9ff0cb564", func := "clusterlocks/clusterlockslaw18.WitnessCores", spec := "witnessCores", unfollowed := true, recurses := true, named := ["clusterlocks/mode.together"], plainKeys := false, apart := false, laid := [("clusterlocks/mode.together", laid_clusterlocks_mode_together)] }
def WitnessCoresSaid : Prop := witnessCoresRow.holds Tryz.pinned (OpenSpec.ofChange witnessCoresSpec)

/-- ITS FALSE NEIGHBOUR: 'it returns false'. Refute it at one input. -/
def witnessCoresWrong : ChangeSpec := { name := "witnessCores", fn := fun _ => fun
  | [d1, d2] => { results := [.lit (.bool false)], args := [d1, d2] }
  | _ => none }
def WitnessCoresWrongFalsely : Prop := witnessCoresRow.holds Tryz.pinned (OpenSpec.ofChange witnessCoresWrong)

/-- 'clusterlockslaw18.WitnessSpoils': WHATEVER THE INPUT: true; the input reads as it did. -/
def witnessSpoilsSpec : ChangeSpec := { name := "witnessSpoils", fn := fun _ => fun
  | [d1, d2, d3, d4] => { results := [.lit (.bool true)], args := [d1, d2, d3, d4] }
  | _ => none }
def witnessSpoilsRow : OpenClaim := { program := "ythachdiockkofaagreatdoor", sum := "cded8b8a108a59da3ee2f4a662697cb28d4f704495fc81931f2a87d9ff0cb564", func := "clusterlocks/clusterlockslaw18.WitnessSpoils", spec := "witnessSpoils", unfollowed := true, recurses := true, named := ["clusterlocks/mode.together"], plainKeys := false, apart := false, laid := [("clusterlocks/mode.together", laid_clusterlocks_mode_together)] }
def WitnessSpoilsSaid : Prop := witnessSpoilsRow.holds Tryz.pinned (OpenSpec.ofChange witnessSpoilsSpec)

/-- ITS FALSE NEIGHBOUR: 'it returns false'. Refute it at one input. -/
def witnessSpoilsWrong : ChangeSpec := { name := "witnessSpoils", fn := fun _ => fun
  | [d1, d2, d3, d4] => { results := [.lit (.bool false)], args := [d1, d2, d3, d4] }
  | _ => none }
def WitnessSpoilsWrongFalsely : Prop := witnessSpoilsRow.holds Tryz.pinned (OpenSpec.ofChange witnessSpoilsWrong)

/-- 'clusterlockslaw18.WitnessLasts': WHATEVER THE INPUT: true; the input reads as it did. -/
def witnessLastsSpec : ChangeSpec := { name := "witnessLasts", fn := fun _ => fun
  | [d1, d2] => { results := [.lit (.bool true)], args := [d1, d2] }
  | _ => none }
def witnessLastsRow : OpenClaim := { program := "ythachdiockkofaagreatdoor", sum := "cded8b8a108a59da3ee2f4a662697cb28d4f704495fc81931f2a87d9ff0cb564", func := "clusterlocks/clusterlockslaw18.WitnessLasts", spec := "witnessLasts", unfollowed := true, recurses := true, named := ["clusterlocks/mode.together"], plainKeys := false, apart := false, laid := [("clusterlocks/mode.together", laid_clusterlocks_mode_together)] }
def WitnessLastsSaid : Prop := witnessLastsRow.holds Tryz.pinned (OpenSpec.ofChange witnessLastsSpec)

/-- ITS FALSE NEIGHBOUR: 'it returns false'. Refute it at one input. -/
def witnessLastsWrong : ChangeSpec := { name := "witnessLasts", fn := fun _ => fun
  | [d1, d2] => { results := [.lit (.bool false)], args := [d1, d2] }
  | _ => none }
def WitnessLastsWrongFalsely : Prop := witnessLastsRow.holds Tryz.pinned (OpenSpec.ofChange witnessLastsWrong)

/-- 'clusterlockslaw18.WitnessBreaks': WHATEVER THE INPUT: true; the input reads as it did. -/
def witnessBreaksSpec : ChangeSpec := { name := "witnessBreaks", fn := fun _ => fun
  | [d1, d2] => { results := [.lit (.bool true)], args := [d1, d2] }
  | _ => none }
def witnessBreaksRow : OpenClaim := { program := "ythachdiockkofaagreatdoor", sum := "cded8b8a108a59da3ee2f4a662697cb28d4f704495fc81931f2a87d9ff0cb564", func := "clusterlocks/clusterlockslaw18.WitnessBreaks", spec := "witnessBreaks", unfollowed := true, recurses := true, named := ["clusterlocks/mode.together"], plainKeys := false, apart := false, laid := [("clusterlocks/mode.together", laid_clusterlocks_mode_together)] }
def WitnessBreaksSaid : Prop := witnessBreaksRow.holds Tryz.pinned (OpenSpec.ofChange witnessBreaksSpec)

/-- ITS FALSE NEIGHBOUR: 'it returns false'. Refute it at one input. -/
def witnessBreaksWrong : ChangeSpec := { name := "witnessBreaks", fn := fun _ => fun
  | [d1, d2] => { results := [.lit (.bool false)], args := [d1, d2] }
  | _ => none }
def WitnessBreaksWrongFalsely : Prop := witnessBreaksRow.holds Tryz.pinned (OpenSpec.ofChange witnessBreaksWrong)

/-- 'clusterlockslaw18.WitnessCauses': WHATEVER THE INPUT: true; the input reads as it did. -/
def witnessCausesSpec : ChangeSpec := { name := "witnessCauses", fn := fun _ => fun
  | [d] => { results := [.lit (.bool true)], args := [d] }
  | _ => none }
def witnessCausesRow : OpenClaim := { program := "ythachdiockkofaagreatdoor", sum := "cded8b8a108a59da3ee2f4a662697cb28d4f704495fc81931f2a87d9ff0cb564", func := "clusterlocks/clusterlockslaw18.WitnessCauses", spec := "witnessCauses", unfollowed := true, recurses := true, named := ["clusterlocks/mode.together"], plainKeys := false, apart := false, laid := [("clusterlocks/mode.together", laid_clusterlocks_mode_together)] }
def WitnessCausesSaid : Prop := witnessCausesRow.holds Tryz.pinned (OpenSpec.ofChange witnessCausesSpec)

/-- ITS FALSE NEIGHBOUR: 'it returns false'. Refute it at one input. -/
def witnessCausesWrong : ChangeSpec := { name := "witnessCauses", fn := fun _ => fun
  | [d] => { results := [.lit (.bool false)], args := [d] }
  | _ => none }
def WitnessCausesWrongFalsely : Prop := witnessCausesRow.holds Tryz.pinned (OpenSpec.ofChange witnessCausesWrong)

/- THE SECOND FORM. 'bulk': how many values and letters a reading holds, each counted each time it is reached (what is shared counts as often as it is met; a slice's spare places count too). A statement '..UptoSaid' is the law's where the arguments, and the package variables that the reading takes, are together of bulk at most 1048576: NARROWER than '..Said'. Prove '..Said' where nothing that the law and all that it calls make is longer than what came in: it says more and counts as full. Else prove '..UptoSaid'. A law counts once. -/
mutual
def uptoBulk {H : Type} : DataW H → Nat
  | .lit (.string bytes) => bytes.length + 1
  | .lit _ => 1
  | .nil => 1
  | .ptr d => uptoBulk d + 1
  | .slice elems spare => uptoBulkAll elems + uptoBulkAll spare + 1
  | .agg parts => uptoBulkAll parts + 1
  | .iface _ d => uptoBulk d + 1
  | .map entries => uptoBulkEntries entries + 1
  | .held _ => 1
def uptoBulkAll {H : Type} : List (DataW H) → Nat
  | [] => 0
  | d :: r => uptoBulk d + uptoBulkAll r
def uptoBulkEntries {H : Type} : List (Lit × DataW H) → Nat
  | [] => 0
  | x :: r => uptoBulkEntry x + uptoBulkEntries r
def uptoBulkEntry {H : Type} : Lit × DataW H → Nat
  | (.string bytes, d) => bytes.length + uptoBulk d + 1
  | (_, d) => uptoBulk d + 1
 end
def uptoSmall : (H : Type) → List (DataW H) → Bool := fun _ ds => decide (uptoBulkAll ds ≤ 1048576)
def OpenSpec.upto (s : _root_.Go.ChangeSpec) : _root_.Go.OpenSpec := { _root_.Go.OpenSpec.ofChange s with cond := some uptoSmall }

/-- 'clusterlockslaw17.ReductionScripts', WHERE WHAT IT READS IS OF BULK AT MOST 1048576: true; the input reads as it did. -/
def reductionScriptsUptoRow : OpenClaim := { program := "ythachdiockkofaagreatdoor", sum := "cded8b8a108a59da3ee2f4a662697cb28d4f704495fc81931f2a87d9ff0cb564", func := "clusterlocks/clusterlockslaw17.ReductionScripts", spec := "reductionScripts", unfollowed := true, recurses := true, named := ["clusterlocks/mode.together"], plainKeys := false, apart := false, laid := [("clusterlocks/mode.together", laid_clusterlocks_mode_together)], narrowed := true }
def ReductionScriptsUptoSaid : Prop := reductionScriptsUptoRow.holds Tryz.pinned (OpenSpec.upto reductionScriptsSpec)

/-- 'clusterlockslaw17.ReductionStable', WHERE WHAT IT READS IS OF BULK AT MOST 1048576: true; the input reads as it did. -/
def reductionStableUptoRow : OpenClaim := { program := "ythachdiockkofaagreatdoor", sum := "cded8b8a108a59da3ee2f4a662697cb28d4f704495fc81931f2a87d9ff0cb564", func := "clusterlocks/clusterlockslaw17.ReductionStable", spec := "reductionStable", unfollowed := true, recurses := true, named := ["clusterlocks/mode.together"], plainKeys := false, apart := false, laid := [("clusterlocks/mode.together", laid_clusterlocks_mode_together)], narrowed := true }
def ReductionStableUptoSaid : Prop := reductionStableUptoRow.holds Tryz.pinned (OpenSpec.upto reductionStableSpec)

/-- 'clusterlockslaw17.ReductionLives', WHERE WHAT IT READS IS OF BULK AT MOST 1048576: true; the input reads as it did. -/
def reductionLivesUptoRow : OpenClaim := { program := "ythachdiockkofaagreatdoor", sum := "cded8b8a108a59da3ee2f4a662697cb28d4f704495fc81931f2a87d9ff0cb564", func := "clusterlocks/clusterlockslaw17.ReductionLives", spec := "reductionLives", unfollowed := true, recurses := true, named := ["clusterlocks/mode.together"], plainKeys := false, apart := false, laid := [("clusterlocks/mode.together", laid_clusterlocks_mode_together)], narrowed := true }
def ReductionLivesUptoSaid : Prop := reductionLivesUptoRow.holds Tryz.pinned (OpenSpec.upto reductionLivesSpec)

/-- 'clusterlockslaw17.ReductionMinimal', WHERE WHAT IT READS IS OF BULK AT MOST 1048576: true; the input reads as it did. -/
def reductionMinimalUptoRow : OpenClaim := { program := "ythachdiockkofaagreatdoor", sum := "cded8b8a108a59da3ee2f4a662697cb28d4f704495fc81931f2a87d9ff0cb564", func := "clusterlocks/clusterlockslaw17.ReductionMinimal", spec := "reductionMinimal", unfollowed := true, recurses := true, named := ["clusterlocks/mode.together"], plainKeys := false, apart := false, laid := [("clusterlocks/mode.together", laid_clusterlocks_mode_together)], narrowed := true }
def ReductionMinimalUptoSaid : Prop := reductionMinimalUptoRow.holds Tryz.pinned (OpenSpec.upto reductionMinimalSpec)

/-- 'clusterlockslaw17.ReductionFewer', WHERE WHAT IT READS IS OF BULK AT MOST 1048576: true; the input reads as it did. -/
def reductionFewerUptoRow : OpenClaim := { program := "ythachdiockkofaagreatdoor", sum := "cded8b8a108a59da3ee2f4a662697cb28d4f704495fc81931f2a87d9ff0cb564", func := "clusterlocks/clusterlockslaw17.ReductionFewer", spec := "reductionFewer", unfollowed := true, recurses := true, named := ["clusterlocks/mode.together"], plainKeys := false, apart := false, laid := [("clusterlocks/mode.together", laid_clusterlocks_mode_together)], narrowed := true }
def ReductionFewerUptoSaid : Prop := reductionFewerUptoRow.holds Tryz.pinned (OpenSpec.upto reductionFewerSpec)

/-- 'clusterlockslaw17.ReductionConfluent', WHERE WHAT IT READS IS OF BULK AT MOST 1048576: true; the input reads as it did. -/
def reductionConfluentUptoRow : OpenClaim := { program := "ythachdiockkofaagreatdoor", sum := "cded8b8a108a59da3ee2f4a662697cb28d4f704495fc81931f2a87d9ff0cb564", func := "clusterlocks/clusterlockslaw17.ReductionConfluent", spec := "reductionConfluent", unfollowed := true, recurses := true, named := ["clusterlocks/mode.together"], plainKeys := false, apart := false, laid := [("clusterlocks/mode.together", laid_clusterlocks_mode_together)], narrowed := true }
def ReductionConfluentUptoSaid : Prop := reductionConfluentUptoRow.holds Tryz.pinned (OpenSpec.upto reductionConfluentSpec)

/-- 'clusterlockslaw18.WitnessScripts', WHERE WHAT IT READS IS OF BULK AT MOST 1048576: true; the input reads as it did. -/
def witnessScriptsUptoRow : OpenClaim := { program := "ythachdiockkofaagreatdoor", sum := "cded8b8a108a59da3ee2f4a662697cb28d4f704495fc81931f2a87d9ff0cb564", func := "clusterlocks/clusterlockslaw18.WitnessScripts", spec := "witnessScripts", unfollowed := true, recurses := true, named := ["clusterlocks/mode.together"], plainKeys := false, apart := false, laid := [("clusterlocks/mode.together", laid_clusterlocks_mode_together)], narrowed := true }
def WitnessScriptsUptoSaid : Prop := witnessScriptsUptoRow.holds Tryz.pinned (OpenSpec.upto witnessScriptsSpec)

/-- 'clusterlockslaw18.WitnessCores', WHERE WHAT IT READS IS OF BULK AT MOST 1048576: true; the input reads as it did. -/
def witnessCoresUptoRow : OpenClaim := { program := "ythachdiockkofaagreatdoor", sum := "cded8b8a108a59da3ee2f4a662697cb28d4f704495fc81931f2a87d9ff0cb564", func := "clusterlocks/clusterlockslaw18.WitnessCores", spec := "witnessCores", unfollowed := true, recurses := true, named := ["clusterlocks/mode.together"], plainKeys := false, apart := false, laid := [("clusterlocks/mode.together", laid_clusterlocks_mode_together)], narrowed := true }
def WitnessCoresUptoSaid : Prop := witnessCoresUptoRow.holds Tryz.pinned (OpenSpec.upto witnessCoresSpec)

/-- 'clusterlockslaw18.WitnessSpoils', WHERE WHAT IT READS IS OF BULK AT MOST 1048576: true; the input reads as it did. -/
def witnessSpoilsUptoRow : OpenClaim := { program := "ythachdiockkofaagreatdoor", sum := "cded8b8a108a59da3ee2f4a662697cb28d4f704495fc81931f2a87d9ff0cb564", func := "clusterlocks/clusterlockslaw18.WitnessSpoils", spec := "witnessSpoils", unfollowed := true, recurses := true, named := ["clusterlocks/mode.together"], plainKeys := false, apart := false, laid := [("clusterlocks/mode.together", laid_clusterlocks_mode_together)], narrowed := true }
def WitnessSpoilsUptoSaid : Prop := witnessSpoilsUptoRow.holds Tryz.pinned (OpenSpec.upto witnessSpoilsSpec)

/-- 'clusterlockslaw18.WitnessLasts', WHERE WHAT IT READS IS OF BULK AT MOST 1048576: true; the input reads as it did. -/
def witnessLastsUptoRow : OpenClaim := { program := "ythachdiockkofaagreatdoor", sum := "cded8b8a108a59da3ee2f4a662697cb28d4f704495fc81931f2a87d9ff0cb564", func := "clusterlocks/clusterlockslaw18.WitnessLasts", spec := "witnessLasts", unfollowed := true, recurses := true, named := ["clusterlocks/mode.together"], plainKeys := false, apart := false, laid := [("clusterlocks/mode.together", laid_clusterlocks_mode_together)], narrowed := true }
def WitnessLastsUptoSaid : Prop := witnessLastsUptoRow.holds Tryz.pinned (OpenSpec.upto witnessLastsSpec)

/-- 'clusterlockslaw18.WitnessBreaks', WHERE WHAT IT READS IS OF BULK AT MOST 1048576: true; the input reads as it did. -/
def witnessBreaksUptoRow : OpenClaim := { program := "ythachdiockkofaagreatdoor", sum := "cded8b8a108a59da3ee2f4a662697cb28d4f704495fc81931f2a87d9ff0cb564", func := "clusterlocks/clusterlockslaw18.WitnessBreaks", spec := "witnessBreaks", unfollowed := true, recurses := true, named := ["clusterlocks/mode.together"], plainKeys := false, apart := false, laid := [("clusterlocks/mode.together", laid_clusterlocks_mode_together)], narrowed := true }
def WitnessBreaksUptoSaid : Prop := witnessBreaksUptoRow.holds Tryz.pinned (OpenSpec.upto witnessBreaksSpec)

/-- 'clusterlockslaw18.WitnessCauses', WHERE WHAT IT READS IS OF BULK AT MOST 1048576: true; the input reads as it did. -/
def witnessCausesUptoRow : OpenClaim := { program := "ythachdiockkofaagreatdoor", sum := "cded8b8a108a59da3ee2f4a662697cb28d4f704495fc81931f2a87d9ff0cb564", func := "clusterlocks/clusterlockslaw18.WitnessCauses", spec := "witnessCauses", unfollowed := true, recurses := true, named := ["clusterlocks/mode.together"], plainKeys := false, apart := false, laid := [("clusterlocks/mode.together", laid_clusterlocks_mode_together)], narrowed := true }
def WitnessCausesUptoSaid : Prop := witnessCausesUptoRow.holds Tryz.pinned (OpenSpec.upto witnessCausesSpec)

end Rows
end Go.Proofs.YthachdiockkofaaGreatDoor
