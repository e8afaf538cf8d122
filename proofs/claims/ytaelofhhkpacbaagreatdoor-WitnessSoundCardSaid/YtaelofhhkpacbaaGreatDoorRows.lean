/-
  NARROWER THAN 'FOR EVERY INPUT', by the rows' own cells (each row's printed sentence says how): WitnessBuilds: loops, laid · WitnessChecks: loops, laid · WitnessSound: loops, laid.
  DERIVED. THE GIVEN ROWS OF THIS SEAT. 3 by the template 'for every input the law returns true; each argument reads behind the call as it read before'; 0 by the template 'total and deterministic' (their statements: YtaelofhhkpacbaaGreatDoorTotals.lean).
  GIVEN WITH THE SEED: the statements are not yours to turn. If you find one false, say at which input.
  Laid BY PROGRAM, IN A SANDBOX (cutbox-rows.mjs): the forced cells as the released guide's own fill.sh prints them over the translation b56e9bf9b746d558… (all of the seat's roots in one cut). By AI agents, Wed Nov 11 2026. No macro, syntax, notation, axiom, sorry.
-/
import Derived.Test.YtaelofhhkpacbaaGreatDoorChecked
import GoSem.Claim
import GoSem.ClaimJoined
import GoSem.ClaimMapViews
import Derived.JoinedTies
import Derived.KernelRfl
namespace Go.Proofs.YtaelofhhkpacbaaGreatDoor
/- THE CELL 'sum', in the pinned program and in every row, IS THE sha256 OF THE DUMP (.gsa) THAT YtaelofhhkpacbaaGreatDoorProg.lean LOADS. Nothing in Lean hashes anything: it is a label: what it is worth is what the hold of that sum in a sandbox is worth. -/
noncomputable def Tryz.pinned : Pinned := { name := "ytaelofhhkpacbaagreatdoor", sum := "b56e9bf9b746d558a91320073bb13f6284971a603275e106385221fd5b6d87cb", checked := Tryz.checked }
namespace Rows
def none {H : Type} : Left H := { results := [], args := [] }

/- WHAT THE LISTED PACKAGE-LEVEL VARIABLES READ AS WHEN THE CALL BEGINS. Each datum BY PROGRAM (the guide's laid-datum.mjs) off the statement by which the dump's own 'gosem.cut.vars' lays the variable. In a bare row this is a premise. The card (YtaelofhhkpacbaaGreatDoorCards.lean) ties it to the program's text. -/
def laid_clusterlocks_mode_together {H : Type} : DataW H := .agg [.agg [.lit (.bool true), .lit (.bool true), .lit (.bool true), .lit (.bool true), .lit (.bool false)], .agg [.lit (.bool true), .lit (.bool true), .lit (.bool false), .lit (.bool false), .lit (.bool false)], .agg [.lit (.bool true), .lit (.bool false), .lit (.bool true), .lit (.bool false), .lit (.bool false)], .agg [.lit (.bool true), .lit (.bool false), .lit (.bool false), .lit (.bool false), .lit (.bool false)], .agg [.lit (.bool false), .lit (.bool false), .lit (.bool false), .lit (.bool false), .lit (.bool false)]]

/-- 'clusterlockslaw18.WitnessBuilds': WHATEVER THE INPUT: true; the input reads as it did. -/
def witnessBuildsSpec : ChangeSpec := { name := "witnessBuilds", fn := fun _ => fun
  | [d1, d2] => { results := [.lit (.bool true)], args := [d1, d2] }
  | _ => none }
def witnessBuildsRow : OpenClaim := { program := "ytaelofhhkpacbaagreatdoor", sum := "b56e9bf9b746d558a91320073bb13f6284971a603275e106385221fd5b6d87cb", func := "clusterlocks/clusterlockslaw18.WitnessBuilds", spec := "witnessBuilds", unfollowed := true, recurses := true, named := ["clusterlocks/mode.together"], loops := true, plainKeys := false, apart := false, laid := [("clusterlocks/mode.together", laid_clusterlocks_mode_together)] }
def WitnessBuildsSaid : Prop := witnessBuildsRow.holds Tryz.pinned (OpenSpec.ofChange witnessBuildsSpec)

/-- ITS FALSE NEIGHBOUR: 'it returns false'. Refute it at one input. -/
def witnessBuildsWrong : ChangeSpec := { name := "witnessBuilds", fn := fun _ => fun
  | [d1, d2] => { results := [.lit (.bool false)], args := [d1, d2] }
  | _ => none }
def WitnessBuildsWrongFalsely : Prop := witnessBuildsRow.holds Tryz.pinned (OpenSpec.ofChange witnessBuildsWrong)

/-- 'clusterlockslaw18.WitnessChecks': WHATEVER THE INPUT: true; the input reads as it did. -/
def witnessChecksSpec : ChangeSpec := { name := "witnessChecks", fn := fun _ => fun
  | [d1, d2] => { results := [.lit (.bool true)], args := [d1, d2] }
  | _ => none }
def witnessChecksRow : OpenClaim := { program := "ytaelofhhkpacbaagreatdoor", sum := "b56e9bf9b746d558a91320073bb13f6284971a603275e106385221fd5b6d87cb", func := "clusterlocks/clusterlockslaw18.WitnessChecks", spec := "witnessChecks", unfollowed := true, recurses := true, named := ["clusterlocks/mode.together"], loops := true, plainKeys := false, apart := false, laid := [("clusterlocks/mode.together", laid_clusterlocks_mode_together)] }
def WitnessChecksSaid : Prop := witnessChecksRow.holds Tryz.pinned (OpenSpec.ofChange witnessChecksSpec)

/-- ITS FALSE NEIGHBOUR: 'it returns false'. Refute it at one input. -/
def witnessChecksWrong : ChangeSpec := { name := "witnessChecks", fn := fun _ => fun
  | [d1, d2] => { results := [.lit (.bool false)], args := [d1, d2] }
  | _ => none }
def WitnessChecksWrongFalsely : Prop := witnessChecksRow.holds Tryz.pinned (OpenSpec.ofChange witnessChecksWrong)

/-- 'clusterlockslaw18.WitnessSound': WHATEVER THE INPUT: true; the input reads as it did. -/
def witnessSoundSpec : ChangeSpec := { name := "witnessSound", fn := fun _ => fun
  | [d1, d2] => { results := [.lit (.bool true)], args := [d1, d2] }
  | _ => none }
def witnessSoundRow : OpenClaim := { program := "ytaelofhhkpacbaagreatdoor", sum := "b56e9bf9b746d558a91320073bb13f6284971a603275e106385221fd5b6d87cb", func := "clusterlocks/clusterlockslaw18.WitnessSound", spec := "witnessSound", unfollowed := true, recurses := true, named := ["clusterlocks/mode.together"], loops := true, plainKeys := false, apart := false, laid := [("clusterlocks/mode.together", laid_clusterlocks_mode_together)] }
def WitnessSoundSaid : Prop := witnessSoundRow.holds Tryz.pinned (OpenSpec.ofChange witnessSoundSpec)

/-- ITS FALSE NEIGHBOUR: 'it returns false'. Refute it at one input. -/
def witnessSoundWrong : ChangeSpec := { name := "witnessSound", fn := fun _ => fun
  | [d1, d2] => { results := [.lit (.bool false)], args := [d1, d2] }
  | _ => none }
def WitnessSoundWrongFalsely : Prop := witnessSoundRow.holds Tryz.pinned (OpenSpec.ofChange witnessSoundWrong)

/- THE SECOND FORM. 'bulk': how many values and letters a reading holds, each counted each time it is reached (what is shared counts as often as it is met; a slice's spare places count too). A statement '..UptoSaid' is the law's where the arguments, and the package variables that the reading takes, are together of bulk at most 1048576: NARROWER than '..Said'. Prove '..Said' where nothing that the law and all that it calls make is longer than what came in: it says more and counts as full. Else prove '..UptoSaid'. A law counts once. -/
mutual
def uptoBulk {H : Type} : DataW H → Nat
  | .lit (.string bytes) => bytes.length + 1
  | .lit _ => 1
  | .nil => 1
  | .ptr d => uptoBulk d + 1
  | .slice elems spare => uptoBulkAll elems + uptoBulkAll spare + 1
  | .agg parts => uptoBulkAll parts + 1
  | .iface _ d => uptoBulk d + 1
  | .map entries => uptoBulkEntries entries + 1
  | .held _ => 1
def uptoBulkAll {H : Type} : List (DataW H) → Nat
  | [] => 0
  | d :: r => uptoBulk d + uptoBulkAll r
def uptoBulkEntries {H : Type} : List (Lit × DataW H) → Nat
  | [] => 0
  | x :: r => uptoBulkEntry x + uptoBulkEntries r
def uptoBulkEntry {H : Type} : Lit × DataW H → Nat
  | (.string bytes, d) => bytes.length + uptoBulk d + 1
  | (_, d) => uptoBulk d + 1
 end
def uptoSmall : (H : Type) → List (DataW H) → Bool := fun _ ds => decide (uptoBulkAll ds ≤ 1048576)
def OpenSpec.upto (s : _root_.Go.ChangeSpec) : _root_.Go.OpenSpec := { _root_.Go.OpenSpec.ofChange s with cond := some uptoSmall }

/-- 'clusterlockslaw18.WitnessBuilds', WHERE WHAT IT READS IS OF BULK AT MOST 1048576: true; the input reads as it did. -/
def witnessBuildsUptoRow : OpenClaim := { program := "ytaelofhhkpacbaagreatdoor", sum := "b56e9bf9b746d558a91320073bb13f6284971a603275e106385221fd5b6d87cb", func := "clusterlocks/clusterlockslaw18.WitnessBuilds", spec := "witnessBuilds", unfollowed := true, recurses := true, named := ["clusterlocks/mode.together"], loops := true, plainKeys := false, apart := false, laid := [("clusterlocks/mode.together", laid_clusterlocks_mode_together)], narrowed := true }
def WitnessBuildsUptoSaid : Prop := witnessBuildsUptoRow.holds Tryz.pinned (OpenSpec.upto witnessBuildsSpec)

/-- 'clusterlockslaw18.WitnessChecks', WHERE WHAT IT READS IS OF BULK AT MOST 1048576: true; the input reads as it did. -/
def witnessChecksUptoRow : OpenClaim := { program := "ytaelofhhkpacbaagreatdoor", sum := "b56e9bf9b746d558a91320073bb13f6284971a603275e106385221fd5b6d87cb", func := "clusterlocks/clusterlockslaw18.WitnessChecks", spec := "witnessChecks", unfollowed := true, recurses := true, named := ["clusterlocks/mode.together"], loops := true, plainKeys := false, apart := false, laid := [("clusterlocks/mode.together", laid_clusterlocks_mode_together)], narrowed := true }
def WitnessChecksUptoSaid : Prop := witnessChecksUptoRow.holds Tryz.pinned (OpenSpec.upto witnessChecksSpec)

/-- 'clusterlockslaw18.WitnessSound', WHERE WHAT IT READS IS OF BULK AT MOST 1048576: true; the input reads as it did. -/
def witnessSoundUptoRow : OpenClaim := { program := "ytaelofhhkpacbaagreatdoor", sum := "b56e9bf9b746d558a91320073bb13f6284971a603275e106385221fd5b6d87cb", func := "clusterlocks/clusterlockslaw18.WitnessSound", spec := "witnessSound", unfollowed := true, recurses := true, named := ["clusterlocks/mode.together"], loops := true, plainKeys := false, apart := false, laid := [("clusterlocks/mode.together", laid_clusterlocks_mode_together)], narrowed := true }
def WitnessSoundUptoSaid : Prop := witnessSoundUptoRow.holds Tryz.pinned (OpenSpec.upto witnessSoundSpec)

end Rows
end Go.Proofs.YtaelofhhkpacbaaGreatDoor
