/-
  NARROWER THAN 'FOR EVERY INPUT', by the rows' own cells (each row's printed sentence says how): ReductionReduces: loops, laid · ReductionCores: loops, laid · ReductionScripts: laid · ReductionStable: laid · ReductionLives: laid · ReductionMinimal: laid · ReductionFewer: laid · ReductionFree: loops, laid · ReductionConfluent: laid.
  DERIVED. THE GIVEN ROWS OF THIS SEAT. 9 by the template 'for every input the law returns true; each argument reads behind the call as it read before'; 0 by the template 'total and deterministic' (their statements: YthelplgdpmhepaaGreatDoorTotals.lean).
  GIVEN WITH THE SEED: the statements are not yours to turn. If you find one false, say at which input.
  Laid BY PROGRAM, IN A SANDBOX (cutbox-rows.mjs): the forced cells as the released guide's own fill.sh prints them over the translation 721661469e3e096c… (all of the seat's roots in one cut). By AI agents, Wed Nov 11 2026. No macro, syntax, notation, axiom, sorry.
-/
import Derived.Test.YthelplgdpmhepaaGreatDoorChecked
import GoSem.Claim
import GoSem.ClaimJoined
import GoSem.ClaimMapViews
import Derived.JoinedTies
import Derived.KernelRfl
namespace Go.Proofs.YthelplgdpmhepaaGreatDoor
/- THE CELL 'sum', in the pinned program and in every row, IS THE sha256 OF THE DUMP (.gsa) THAT YthelplgdpmhepaaGreatDoorProg.lean LOADS. Nothing in Lean hashes anything: it is a label: what it is worth is what the hold of that sum in a sandbox is worth. -/
noncomputable def Tryz.pinned : Pinned := { name := "ythelplgdpmhepaagreatdoor", sum := "721661469e3e096ce37b17f4dbbf082ffa2e0905b8085b168b97daf5cb81e792", checked := Tryz.checked }
namespace Rows
def none {H : Type} : Left H := { results := [], args := [] }

/- WHAT THE LISTED PACKAGE-LEVEL VARIABLES READ AS WHEN THE CALL BEGINS. Each datum BY PROGRAM (the guide's laid-datum.mjs) off the statement by which the dump's own 'gosem.cut.vars' lays the variable. In a bare row this is a premise. The card (YthelplgdpmhepaaGreatDoorCards.lean) ties it to the program's text. -/
def laid_clusterlocks_mode_together {H : Type} : DataW H := .agg [.agg [.lit (.bool true), .lit (.bool true), .lit (.bool true), .lit (.bool true), .lit (.bool false)], .agg [.lit (.bool true), .lit (.bool true), .lit (.bool false), .lit (.bool false), .lit (.bool false)], .agg [.lit (.bool true), .lit (.bool false), .lit (.bool true), .lit (.bool false), .lit (.bool false)], .agg [.lit (.bool true), .lit (.bool false), .lit (.bool false), .lit (.bool false), .lit (.bool false)], .agg [.lit (.bool false), .lit (.bool false), .lit (.bool false), .lit (.bool false), .lit (.bool false)]]

/-- 'clusterlockslaw17.ReductionReduces': WHATEVER THE INPUT: true; the input reads as it did. -/
def reductionReducesSpec : ChangeSpec := { name := "reductionReduces", fn := fun _ => fun
  | [d1, d2] => { results := [.lit (.bool true)], args := [d1, d2] }
  | _ => none }
def reductionReducesRow : OpenClaim := { program := "ythelplgdpmhepaagreatdoor", sum := "721661469e3e096ce37b17f4dbbf082ffa2e0905b8085b168b97daf5cb81e792", func := "clusterlocks/clusterlockslaw17.ReductionReduces", spec := "reductionReduces", unfollowed := true, recurses := true, named := ["clusterlocks/mode.together"], loops := true, apart := false, laid := [("clusterlocks/mode.together", laid_clusterlocks_mode_together)] }
def ReductionReducesSaid : Prop := reductionReducesRow.holds Tryz.pinned (OpenSpec.ofChange reductionReducesSpec)

/-- ITS FALSE NEIGHBOUR: 'it returns false'. Refute it at one input. -/
def reductionReducesWrong : ChangeSpec := { name := "reductionReduces", fn := fun _ => fun
  | [d1, d2] => { results := [.lit (.bool false)], args := [d1, d2] }
  | _ => none }
def ReductionReducesWrongFalsely : Prop := reductionReducesRow.holds Tryz.pinned (OpenSpec.ofChange reductionReducesWrong)

/-- 'clusterlockslaw17.ReductionCores': WHATEVER THE INPUT: true; the input reads as it did. -/
def reductionCoresSpec : ChangeSpec := { name := "reductionCores", fn := fun _ => fun
  | [d1, d2] => { results := [.lit (.bool true)], args := [d1, d2] }
  | _ => none }
def reductionCoresRow : OpenClaim := { program := "ythelplgdpmhepaagreatdoor", sum := "721661469e3e096ce37b17f4dbbf082ffa2e0905b8085b168b97daf5cb81e792", func := "clusterlocks/clusterlockslaw17.ReductionCores", spec := "reductionCores", unfollowed := true, recurses := true, named := ["clusterlocks/mode.together"], loops := true, apart := false, laid := [("clusterlocks/mode.together", laid_clusterlocks_mode_together)] }
def ReductionCoresSaid : Prop := reductionCoresRow.holds Tryz.pinned (OpenSpec.ofChange reductionCoresSpec)

/-- ITS FALSE NEIGHBOUR: 'it returns false'. Refute it at one input. -/
def reductionCoresWrong : ChangeSpec := { name := "reductionCores", fn := fun _ => fun
  | [d1, d2] => { results := [.lit (.bool false)], args := [d1, d2] }
  | _ => none }
def ReductionCoresWrongFalsely : Prop := reductionCoresRow.holds Tryz.pinned (OpenSpec.ofChange reductionCoresWrong)

/-- 'clusterlockslaw17.ReductionScripts': WHATEVER THE INPUT: true; the input reads as it did. -/
def reductionScriptsSpec : ChangeSpec := { name := "reductionScripts", fn := fun _ => fun
  | [d1, d2, d3] => { results := [.lit (.bool true)], args := [d1, d2, d3] }
  | _ => none }
def reductionScriptsRow : OpenClaim := { program := "ythelplgdpmhepaagreatdoor", sum := "721661469e3e096ce37b17f4dbbf082ffa2e0905b8085b168b97daf5cb81e792", func := "clusterlocks/clusterlockslaw17.ReductionScripts", spec := "reductionScripts", unfollowed := true, recurses := true, named := ["clusterlocks/mode.together"], apart := false, laid := [("clusterlocks/mode.together", laid_clusterlocks_mode_together)] }
def ReductionScriptsSaid : Prop := reductionScriptsRow.holds Tryz.pinned (OpenSpec.ofChange reductionScriptsSpec)

/-- ITS FALSE NEIGHBOUR: 'it returns false'. Refute it at one input. -/
def reductionScriptsWrong : ChangeSpec := { name := "reductionScripts", fn := fun _ => fun
  | [d1, d2, d3] => { results := [.lit (.bool false)], args := [d1, d2, d3] }
  | _ => none }
def ReductionScriptsWrongFalsely : Prop := reductionScriptsRow.holds Tryz.pinned (OpenSpec.ofChange reductionScriptsWrong)

/-- 'clusterlockslaw17.ReductionStable': WHATEVER THE INPUT: true; the input reads as it did. -/
def reductionStableSpec : ChangeSpec := { name := "reductionStable", fn := fun _ => fun
  | [d1, d2] => { results := [.lit (.bool true)], args := [d1, d2] }
  | _ => none }
def reductionStableRow : OpenClaim := { program := "ythelplgdpmhepaagreatdoor", sum := "721661469e3e096ce37b17f4dbbf082ffa2e0905b8085b168b97daf5cb81e792", func := "clusterlocks/clusterlockslaw17.ReductionStable", spec := "reductionStable", unfollowed := true, recurses := true, named := ["clusterlocks/mode.together"], apart := false, laid := [("clusterlocks/mode.together", laid_clusterlocks_mode_together)] }
def ReductionStableSaid : Prop := reductionStableRow.holds Tryz.pinned (OpenSpec.ofChange reductionStableSpec)

/-- ITS FALSE NEIGHBOUR: 'it returns false'. Refute it at one input. -/
def reductionStableWrong : ChangeSpec := { name := "reductionStable", fn := fun _ => fun
  | [d1, d2] => { results := [.lit (.bool false)], args := [d1, d2] }
  | _ => none }
def ReductionStableWrongFalsely : Prop := reductionStableRow.holds Tryz.pinned (OpenSpec.ofChange reductionStableWrong)

/-- 'clusterlockslaw17.ReductionLives': WHATEVER THE INPUT: true; the input reads as it did. -/
def reductionLivesSpec : ChangeSpec := { name := "reductionLives", fn := fun _ => fun
  | [d] => { results := [.lit (.bool true)], args := [d] }
  | _ => none }
def reductionLivesRow : OpenClaim := { program := "ythelplgdpmhepaagreatdoor", sum := "721661469e3e096ce37b17f4dbbf082ffa2e0905b8085b168b97daf5cb81e792", func := "clusterlocks/clusterlockslaw17.ReductionLives", spec := "reductionLives", unfollowed := true, recurses := true, named := ["clusterlocks/mode.together"], apart := false, laid := [("clusterlocks/mode.together", laid_clusterlocks_mode_together)] }
def ReductionLivesSaid : Prop := reductionLivesRow.holds Tryz.pinned (OpenSpec.ofChange reductionLivesSpec)

/-- ITS FALSE NEIGHBOUR: 'it returns false'. Refute it at one input. -/
def reductionLivesWrong : ChangeSpec := { name := "reductionLives", fn := fun _ => fun
  | [d] => { results := [.lit (.bool false)], args := [d] }
  | _ => none }
def ReductionLivesWrongFalsely : Prop := reductionLivesRow.holds Tryz.pinned (OpenSpec.ofChange reductionLivesWrong)

/-- 'clusterlockslaw17.ReductionMinimal': WHATEVER THE INPUT: true; the input reads as it did. -/
def reductionMinimalSpec : ChangeSpec := { name := "reductionMinimal", fn := fun _ => fun
  | [d1, d2] => { results := [.lit (.bool true)], args := [d1, d2] }
  | _ => none }
def reductionMinimalRow : OpenClaim := { program := "ythelplgdpmhepaagreatdoor", sum := "721661469e3e096ce37b17f4dbbf082ffa2e0905b8085b168b97daf5cb81e792", func := "clusterlocks/clusterlockslaw17.ReductionMinimal", spec := "reductionMinimal", unfollowed := true, recurses := true, named := ["clusterlocks/mode.together"], apart := false, laid := [("clusterlocks/mode.together", laid_clusterlocks_mode_together)] }
def ReductionMinimalSaid : Prop := reductionMinimalRow.holds Tryz.pinned (OpenSpec.ofChange reductionMinimalSpec)

/-- ITS FALSE NEIGHBOUR: 'it returns false'. Refute it at one input. -/
def reductionMinimalWrong : ChangeSpec := { name := "reductionMinimal", fn := fun _ => fun
  | [d1, d2] => { results := [.lit (.bool false)], args := [d1, d2] }
  | _ => none }
def ReductionMinimalWrongFalsely : Prop := reductionMinimalRow.holds Tryz.pinned (OpenSpec.ofChange reductionMinimalWrong)

/-- 'clusterlockslaw17.ReductionFewer': WHATEVER THE INPUT: true; the input reads as it did. -/
def reductionFewerSpec : ChangeSpec := { name := "reductionFewer", fn := fun _ => fun
  | [d1, d2, d3, d4] => { results := [.lit (.bool true)], args := [d1, d2, d3, d4] }
  | _ => none }
def reductionFewerRow : OpenClaim := { program := "ythelplgdpmhepaagreatdoor", sum := "721661469e3e096ce37b17f4dbbf082ffa2e0905b8085b168b97daf5cb81e792", func := "clusterlocks/clusterlockslaw17.ReductionFewer", spec := "reductionFewer", unfollowed := true, recurses := true, named := ["clusterlocks/mode.together"], apart := false, laid := [("clusterlocks/mode.together", laid_clusterlocks_mode_together)] }
def ReductionFewerSaid : Prop := reductionFewerRow.holds Tryz.pinned (OpenSpec.ofChange reductionFewerSpec)

/-- ITS FALSE NEIGHBOUR: 'it returns false'. Refute it at one input. -/
def reductionFewerWrong : ChangeSpec := { name := "reductionFewer", fn := fun _ => fun
  | [d1, d2, d3, d4] => { results := [.lit (.bool false)], args := [d1, d2, d3, d4] }
  | _ => none }
def ReductionFewerWrongFalsely : Prop := reductionFewerRow.holds Tryz.pinned (OpenSpec.ofChange reductionFewerWrong)

/-- 'clusterlockslaw17.ReductionFree': WHATEVER THE INPUT: true; the input reads as it did. -/
def reductionFreeSpec : ChangeSpec := { name := "reductionFree", fn := fun _ => fun
  | [d1, d2, d3] => { results := [.lit (.bool true)], args := [d1, d2, d3] }
  | _ => none }
def reductionFreeRow : OpenClaim := { program := "ythelplgdpmhepaagreatdoor", sum := "721661469e3e096ce37b17f4dbbf082ffa2e0905b8085b168b97daf5cb81e792", func := "clusterlocks/clusterlockslaw17.ReductionFree", spec := "reductionFree", unfollowed := true, recurses := true, named := ["clusterlocks/mode.together"], loops := true, apart := false, laid := [("clusterlocks/mode.together", laid_clusterlocks_mode_together)] }
def ReductionFreeSaid : Prop := reductionFreeRow.holds Tryz.pinned (OpenSpec.ofChange reductionFreeSpec)

/-- ITS FALSE NEIGHBOUR: 'it returns false'. Refute it at one input. -/
def reductionFreeWrong : ChangeSpec := { name := "reductionFree", fn := fun _ => fun
  | [d1, d2, d3] => { results := [.lit (.bool false)], args := [d1, d2, d3] }
  | _ => none }
def ReductionFreeWrongFalsely : Prop := reductionFreeRow.holds Tryz.pinned (OpenSpec.ofChange reductionFreeWrong)

/-- 'clusterlockslaw17.ReductionConfluent': WHATEVER THE INPUT: true; the input reads as it did. -/
def reductionConfluentSpec : ChangeSpec := { name := "reductionConfluent", fn := fun _ => fun
  | [d1, d2, d3] => { results := [.lit (.bool true)], args := [d1, d2, d3] }
  | _ => none }
def reductionConfluentRow : OpenClaim := { program := "ythelplgdpmhepaagreatdoor", sum := "721661469e3e096ce37b17f4dbbf082ffa2e0905b8085b168b97daf5cb81e792", func := "clusterlocks/clusterlockslaw17.ReductionConfluent", spec := "reductionConfluent", unfollowed := true, recurses := true, named := ["clusterlocks/mode.together"], apart := false, laid := [("clusterlocks/mode.together", laid_clusterlocks_mode_together)] }
def ReductionConfluentSaid : Prop := reductionConfluentRow.holds Tryz.pinned (OpenSpec.ofChange reductionConfluentSpec)

/-- ITS FALSE NEIGHBOUR: 'it returns false'. Refute it at one input. -/
def reductionConfluentWrong : ChangeSpec := { name := "reductionConfluent", fn := fun _ => fun
  | [d1, d2, d3] => { results := [.lit (.bool false)], args := [d1, d2, d3] }
  | _ => none }
def ReductionConfluentWrongFalsely : Prop := reductionConfluentRow.holds Tryz.pinned (OpenSpec.ofChange reductionConfluentWrong)

/- THE SECOND FORM. 'bulk': how many values and letters a reading holds, each counted each time it is reached (what is shared counts as often as it is met; a slice's spare places count too). A statement '..UptoSaid' is the law's where the arguments, and the package variables that the reading takes, are together of bulk at most 1048576: NARROWER than '..Said'. Prove '..Said' where nothing that the law and all that it calls make is longer than what came in: it says more and counts as full. Else prove '..UptoSaid'. A law counts once. -/
mutual
def uptoBulk {H : Type} : DataW H → Nat
  | .lit (.string bytes) => bytes.length + 1
  | .lit _ => 1
  | .nil => 1
  | .ptr d => uptoBulk d + 1
  | .slice elems spare => uptoBulkAll elems + uptoBulkAll spare + 1
  | .agg parts => uptoBulkAll parts + 1
  | .iface _ d => uptoBulk d + 1
  | .map entries => uptoBulkEntries entries + 1
  | .held _ => 1
def uptoBulkAll {H : Type} : List (DataW H) → Nat
  | [] => 0
  | d :: r => uptoBulk d + uptoBulkAll r
def uptoBulkEntries {H : Type} : List (Lit × DataW H) → Nat
  | [] => 0
  | x :: r => uptoBulkEntry x + uptoBulkEntries r
def uptoBulkEntry {H : Type} : Lit × DataW H → Nat
  | (.string bytes, d) => bytes.length + uptoBulk d + 1
  | (_, d) => uptoBulk d + 1
 end
def uptoSmall : (H : Type) → List (DataW H) → Bool := fun _ ds => decide (uptoBulkAll ds ≤ 1048576)
def OpenSpec.upto (s : _root_.Go.ChangeSpec) : _root_.Go.OpenSpec := { _root_.Go.OpenSpec.ofChange s with cond := some uptoSmall }

/-- 'clusterlockslaw17.ReductionReduces', WHERE WHAT IT READS IS OF BULK AT MOST 1048576: true; the input reads as it did. -/
def reductionReducesUptoRow : OpenClaim := { program := "ythelplgdpmhepaagreatdoor", sum := "721661469e3e096ce37b17f4dbbf082ffa2e0905b8085b168b97daf5cb81e792", func := "clusterlocks/clusterlockslaw17.ReductionReduces", spec := "reductionReduces", unfollowed := true, recurses := true, named := ["clusterlocks/mode.together"], loops := true, apart := false, laid := [("clusterlocks/mode.together", laid_clusterlocks_mode_together)], narrowed := true }
def ReductionReducesUptoSaid : Prop := reductionReducesUptoRow.holds Tryz.pinned (OpenSpec.upto reductionReducesSpec)

/-- 'clusterlockslaw17.ReductionCores', WHERE WHAT IT READS IS OF BULK AT MOST 1048576: true; the input reads as it did. -/
def reductionCoresUptoRow : OpenClaim := { program := "ythelplgdpmhepaagreatdoor", sum := "721661469e3e096ce37b17f4dbbf082ffa2e0905b8085b168b97daf5cb81e792", func := "clusterlocks/clusterlockslaw17.ReductionCores", spec := "reductionCores", unfollowed := true, recurses := true, named := ["clusterlocks/mode.together"], loops := true, apart := false, laid := [("clusterlocks/mode.together", laid_clusterlocks_mode_together)], narrowed := true }
def ReductionCoresUptoSaid : Prop := reductionCoresUptoRow.holds Tryz.pinned (OpenSpec.upto reductionCoresSpec)

/-- 'clusterlockslaw17.ReductionScripts', WHERE WHAT IT READS IS OF BULK AT MOST 1048576: true; the input reads as it did. -/
def reductionScriptsUptoRow : OpenClaim := { program := "ythelplgdpmhepaagreatdoor", sum := "721661469e3e096ce37b17f4dbbf082ffa2e0905b8085b168b97daf5cb81e792", func := "clusterlocks/clusterlockslaw17.ReductionScripts", spec := "reductionScripts", unfollowed := true, recurses := true, named := ["clusterlocks/mode.together"], apart := false, laid := [("clusterlocks/mode.together", laid_clusterlocks_mode_together)], narrowed := true }
def ReductionScriptsUptoSaid : Prop := reductionScriptsUptoRow.holds Tryz.pinned (OpenSpec.upto reductionScriptsSpec)

/-- 'clusterlockslaw17.ReductionStable', WHERE WHAT IT READS IS OF BULK AT MOST 1048576: true; the input reads as it did. -/
def reductionStableUptoRow : OpenClaim := { program := "ythelplgdpmhepaagreatdoor", sum := "721661469e3e096ce37b17f4dbbf082ffa2e0905b8085b168b97daf5cb81e792", func := "clusterlocks/clusterlockslaw17.ReductionStable", spec := "reductionStable", unfollowed := true, recurses := true, named := ["clusterlocks/mode.together"], apart := false, laid := [("clusterlocks/mode.together", laid_clusterlocks_mode_together)], narrowed := true }
def ReductionStableUptoSaid : Prop := reductionStableUptoRow.holds Tryz.pinned (OpenSpec.upto reductionStableSpec)

/-- 'clusterlockslaw17.ReductionLives', WHERE WHAT IT READS IS OF BULK AT MOST 1048576: true; the input reads as it did. -/
def reductionLivesUptoRow : OpenClaim := { program := "ythelplgdpmhepaagreatdoor", sum := "721661469e3e096ce37b17f4dbbf082ffa2e0905b8085b168b97daf5cb81e792", func := "clusterlocks/clusterlockslaw17.ReductionLives", spec := "reductionLives", unfollowed := true, recurses := true, named := ["clusterlocks/mode.together"], apart := false, laid := [("clusterlocks/mode.together", laid_clusterlocks_mode_together)], narrowed := true }
def ReductionLivesUptoSaid : Prop := reductionLivesUptoRow.holds Tryz.pinned (OpenSpec.upto reductionLivesSpec)

/-- 'clusterlockslaw17.ReductionMinimal', WHERE WHAT IT READS IS OF BULK AT MOST 1048576: true; the input reads as it did. -/
def reductionMinimalUptoRow : OpenClaim := { program := "ythelplgdpmhepaagreatdoor", sum := "721661469e3e096ce37b17f4dbbf082ffa2e0905b8085b168b97daf5cb81e792", func := "clusterlocks/clusterlockslaw17.ReductionMinimal", spec := "reductionMinimal", unfollowed := true, recurses := true, named := ["clusterlocks/mode.together"], apart := false, laid := [("clusterlocks/mode.together", laid_clusterlocks_mode_together)], narrowed := true }
def ReductionMinimalUptoSaid : Prop := reductionMinimalUptoRow.holds Tryz.pinned (OpenSpec.upto reductionMinimalSpec)

/-- 'clusterlockslaw17.ReductionFewer', WHERE WHAT IT READS IS OF BULK AT MOST 1048576: true; the input reads as it did. -/
def reductionFewerUptoRow : OpenClaim := { program := "ythelplgdpmhepaagreatdoor", sum := "721661469e3e096ce37b17f4dbbf082ffa2e0905b8085b168b97daf5cb81e792", func := "clusterlocks/clusterlockslaw17.ReductionFewer", spec := "reductionFewer", unfollowed := true, recurses := true, named := ["clusterlocks/mode.together"], apart := false, laid := [("clusterlocks/mode.together", laid_clusterlocks_mode_together)], narrowed := true }
def ReductionFewerUptoSaid : Prop := reductionFewerUptoRow.holds Tryz.pinned (OpenSpec.upto reductionFewerSpec)

/-- 'clusterlockslaw17.ReductionFree', WHERE WHAT IT READS IS OF BULK AT MOST 1048576: true; the input reads as it did. -/
def reductionFreeUptoRow : OpenClaim := { program := "ythelplgdpmhepaagreatdoor", sum := "721661469e3e096ce37b17f4dbbf082ffa2e0905b8085b168b97daf5cb81e792", func := "clusterlocks/clusterlockslaw17.ReductionFree", spec := "reductionFree", unfollowed := true, recurses := true, named := ["clusterlocks/mode.together"], loops := true, apart := false, laid := [("clusterlocks/mode.together", laid_clusterlocks_mode_together)], narrowed := true }
def ReductionFreeUptoSaid : Prop := reductionFreeUptoRow.holds Tryz.pinned (OpenSpec.upto reductionFreeSpec)

/-- 'clusterlockslaw17.ReductionConfluent', WHERE WHAT IT READS IS OF BULK AT MOST 1048576: true; the input reads as it did. -/
def reductionConfluentUptoRow : OpenClaim := { program := "ythelplgdpmhepaagreatdoor", sum := "721661469e3e096ce37b17f4dbbf082ffa2e0905b8085b168b97daf5cb81e792", func := "clusterlocks/clusterlockslaw17.ReductionConfluent", spec := "reductionConfluent", unfollowed := true, recurses := true, named := ["clusterlocks/mode.together"], apart := false, laid := [("clusterlocks/mode.together", laid_clusterlocks_mode_together)], narrowed := true }
def ReductionConfluentUptoSaid : Prop := reductionConfluentUptoRow.holds Tryz.pinned (OpenSpec.upto reductionConfluentSpec)

end Rows
end Go.Proofs.YthelplgdpmhepaaGreatDoor
