/-
  NARROWER THAN 'FOR EVERY INPUT', by the rows' own cells (each row's printed sentence says how): VictimStays: loops, laid · VictimSolves: loops, laid · VictimChooses: loops, laid · VictimLeast: laid · VictimAborts: laid · VictimResolves: laid.
  DERIVED. THE GIVEN ROWS OF THIS SEAT. 6 by the template 'for every input the law returns true; each argument reads behind the call as it read before'; 0 by the template 'total and deterministic' (their statements: YteliegkcmjimoaaGreatDoorTotals.lean).
  GIVEN WITH THE SEED: the statements are not yours to turn. If you find one false, say at which input.
  Laid BY PROGRAM, IN A SANDBOX (cutbox-rows.mjs): the forced cells as the released guide's own fill.sh prints them over the translation 5bdfe581f0e2e2de… (all of the seat's roots in one cut). By AI agents, Wed Nov 11 2026. No macro, syntax, notation, axiom, sorry.
-/
import Derived.Test.YteliegkcmjimoaaGreatDoorChecked
import GoSem.Claim
import GoSem.ClaimJoined
import GoSem.ClaimMapViews
import Derived.JoinedTies
import Derived.KernelRfl
namespace Go.Proofs.YteliegkcmjimoaaGreatDoor
/- THE CELL 'sum', in the pinned program and in every row, IS THE sha256 OF THE DUMP (.gsa) THAT YteliegkcmjimoaaGreatDoorProg.lean LOADS. Nothing in Lean hashes anything: it is a label: what it is worth is what the hold of that sum in a sandbox is worth. -/
noncomputable def Tryz.pinned : Pinned := { name := "yteliegkcmjimoaagreatdoor", sum := "5bdfe581f0e2e2de7d8a8e994b21ed5731f851df347514aded7890a3532a41e1", checked := Tryz.checked }
namespace Rows
def none {H : Type} : Left H := { results := [], args := [] }

/- WHAT THE LISTED PACKAGE-LEVEL VARIABLES READ AS WHEN THE CALL BEGINS. Each datum BY PROGRAM (the guide's laid-datum.mjs) off the statement by which the dump's own 'gosem.cut.vars' lays the variable. In a bare row this is a premise. The card (YteliegkcmjimoaaGreatDoorCards.lean) ties it to the program's text. -/
def laid_clusterlocks_mode_together {H : Type} : DataW H := .agg [.agg [.lit (.bool true), .lit (.bool true), .lit (.bool true), .lit (.bool true), .lit (.bool false)], .agg [.lit (.bool true), .lit (.bool true), .lit (.bool false), .lit (.bool false), .lit (.bool false)], .agg [.lit (.bool true), .lit (.bool false), .lit (.bool true), .lit (.bool false), .lit (.bool false)], .agg [.lit (.bool true), .lit (.bool false), .lit (.bool false), .lit (.bool false), .lit (.bool false)], .agg [.lit (.bool false), .lit (.bool false), .lit (.bool false), .lit (.bool false), .lit (.bool false)]]
def laid_math_bits_deBruijn64tab {H : Type} : DataW H := .agg [.lit (.int .u8 0), .lit (.int .u8 1), .lit (.int .u8 56), .lit (.int .u8 2), .lit (.int .u8 57), .lit (.int .u8 49), .lit (.int .u8 28), .lit (.int .u8 3), .lit (.int .u8 61), .lit (.int .u8 58), .lit (.int .u8 42), .lit (.int .u8 50), .lit (.int .u8 38), .lit (.int .u8 29), .lit (.int .u8 17), .lit (.int .u8 4), .lit (.int .u8 62), .lit (.int .u8 47), .lit (.int .u8 59), .lit (.int .u8 36), .lit (.int .u8 45), .lit (.int .u8 43), .lit (.int .u8 51), .lit (.int .u8 22), .lit (.int .u8 53), .lit (.int .u8 39), .lit (.int .u8 33), .lit (.int .u8 30), .lit (.int .u8 24), .lit (.int .u8 18), .lit (.int .u8 12), .lit (.int .u8 5), .lit (.int .u8 63), .lit (.int .u8 55), .lit (.int .u8 48), .lit (.int .u8 27), .lit (.int .u8 60), .lit (.int .u8 41), .lit (.int .u8 37), .lit (.int .u8 16), .lit (.int .u8 46), .lit (.int .u8 35), .lit (.int .u8 44), .lit (.int .u8 21), .lit (.int .u8 52), .lit (.int .u8 32), .lit (.int .u8 23), .lit (.int .u8 11), .lit (.int .u8 54), .lit (.int .u8 26), .lit (.int .u8 40), .lit (.int .u8 15), .lit (.int .u8 34), .lit (.int .u8 20), .lit (.int .u8 31), .lit (.int .u8 10), .lit (.int .u8 25), .lit (.int .u8 14), .lit (.int .u8 19), .lit (.int .u8 9), .lit (.int .u8 13), .lit (.int .u8 8), .lit (.int .u8 7), .lit (.int .u8 6)]

/-- 'clusterlockslaw22.VictimStays': WHATEVER THE INPUT: true; the input reads as it did. -/
def victimStaysSpec : ChangeSpec := { name := "victimStays", fn := fun _ => fun
  | [d1, d2, d3, d4] => { results := [.lit (.bool true)], args := [d1, d2, d3, d4] }
  | _ => none }
def victimStaysRow : OpenClaim := { program := "yteliegkcmjimoaagreatdoor", sum := "5bdfe581f0e2e2de7d8a8e994b21ed5731f851df347514aded7890a3532a41e1", func := "clusterlocks/clusterlockslaw22.VictimStays", spec := "victimStays", unfollowed := true, recurses := true, named := ["clusterlocks/mode.together", "math/bits.deBruijn64tab"], loops := true, apart := false, laid := [("clusterlocks/mode.together", laid_clusterlocks_mode_together), ("math/bits.deBruijn64tab", laid_math_bits_deBruijn64tab)] }
def VictimStaysSaid : Prop := victimStaysRow.holds Tryz.pinned (OpenSpec.ofChange victimStaysSpec)

/-- ITS FALSE NEIGHBOUR: 'it returns false'. Refute it at one input. -/
def victimStaysWrong : ChangeSpec := { name := "victimStays", fn := fun _ => fun
  | [d1, d2, d3, d4] => { results := [.lit (.bool false)], args := [d1, d2, d3, d4] }
  | _ => none }
def VictimStaysWrongFalsely : Prop := victimStaysRow.holds Tryz.pinned (OpenSpec.ofChange victimStaysWrong)

/-- 'clusterlockslaw22.VictimSolves': WHATEVER THE INPUT: true; the input reads as it did. -/
def victimSolvesSpec : ChangeSpec := { name := "victimSolves", fn := fun _ => fun
  | [d1, d2, d3, d4, d5] => { results := [.lit (.bool true)], args := [d1, d2, d3, d4, d5] }
  | _ => none }
def victimSolvesRow : OpenClaim := { program := "yteliegkcmjimoaagreatdoor", sum := "5bdfe581f0e2e2de7d8a8e994b21ed5731f851df347514aded7890a3532a41e1", func := "clusterlocks/clusterlockslaw22.VictimSolves", spec := "victimSolves", unfollowed := true, recurses := true, named := ["clusterlocks/mode.together", "math/bits.deBruijn64tab"], loops := true, apart := false, laid := [("clusterlocks/mode.together", laid_clusterlocks_mode_together), ("math/bits.deBruijn64tab", laid_math_bits_deBruijn64tab)] }
def VictimSolvesSaid : Prop := victimSolvesRow.holds Tryz.pinned (OpenSpec.ofChange victimSolvesSpec)

/-- ITS FALSE NEIGHBOUR: 'it returns false'. Refute it at one input. -/
def victimSolvesWrong : ChangeSpec := { name := "victimSolves", fn := fun _ => fun
  | [d1, d2, d3, d4, d5] => { results := [.lit (.bool false)], args := [d1, d2, d3, d4, d5] }
  | _ => none }
def VictimSolvesWrongFalsely : Prop := victimSolvesRow.holds Tryz.pinned (OpenSpec.ofChange victimSolvesWrong)

/-- 'clusterlockslaw22.VictimChooses': WHATEVER THE INPUT: true; the input reads as it did. -/
def victimChoosesSpec : ChangeSpec := { name := "victimChooses", fn := fun _ => fun
  | [d1, d2, d3] => { results := [.lit (.bool true)], args := [d1, d2, d3] }
  | _ => none }
def victimChoosesRow : OpenClaim := { program := "yteliegkcmjimoaagreatdoor", sum := "5bdfe581f0e2e2de7d8a8e994b21ed5731f851df347514aded7890a3532a41e1", func := "clusterlocks/clusterlockslaw22.VictimChooses", spec := "victimChooses", unfollowed := true, recurses := true, named := ["clusterlocks/mode.together", "math/bits.deBruijn64tab"], loops := true, apart := false, laid := [("clusterlocks/mode.together", laid_clusterlocks_mode_together), ("math/bits.deBruijn64tab", laid_math_bits_deBruijn64tab)] }
def VictimChoosesSaid : Prop := victimChoosesRow.holds Tryz.pinned (OpenSpec.ofChange victimChoosesSpec)

/-- ITS FALSE NEIGHBOUR: 'it returns false'. Refute it at one input. -/
def victimChoosesWrong : ChangeSpec := { name := "victimChooses", fn := fun _ => fun
  | [d1, d2, d3] => { results := [.lit (.bool false)], args := [d1, d2, d3] }
  | _ => none }
def VictimChoosesWrongFalsely : Prop := victimChoosesRow.holds Tryz.pinned (OpenSpec.ofChange victimChoosesWrong)

/-- 'clusterlockslaw22.VictimLeast': WHATEVER THE INPUT: true; the input reads as it did. -/
def victimLeastSpec : ChangeSpec := { name := "victimLeast", fn := fun _ => fun
  | [d] => { results := [.lit (.bool true)], args := [d] }
  | _ => none }
def victimLeastRow : OpenClaim := { program := "yteliegkcmjimoaagreatdoor", sum := "5bdfe581f0e2e2de7d8a8e994b21ed5731f851df347514aded7890a3532a41e1", func := "clusterlocks/clusterlockslaw22.VictimLeast", spec := "victimLeast", unfollowed := true, recurses := true, named := ["clusterlocks/mode.together", "math/bits.deBruijn64tab"], apart := false, laid := [("clusterlocks/mode.together", laid_clusterlocks_mode_together), ("math/bits.deBruijn64tab", laid_math_bits_deBruijn64tab)] }
def VictimLeastSaid : Prop := victimLeastRow.holds Tryz.pinned (OpenSpec.ofChange victimLeastSpec)

/-- ITS FALSE NEIGHBOUR: 'it returns false'. Refute it at one input. -/
def victimLeastWrong : ChangeSpec := { name := "victimLeast", fn := fun _ => fun
  | [d] => { results := [.lit (.bool false)], args := [d] }
  | _ => none }
def VictimLeastWrongFalsely : Prop := victimLeastRow.holds Tryz.pinned (OpenSpec.ofChange victimLeastWrong)

/-- 'clusterlockslaw22.VictimAborts': WHATEVER THE INPUT: true; the input reads as it did. -/
def victimAbortsSpec : ChangeSpec := { name := "victimAborts", fn := fun _ => fun
  | [d1, d2] => { results := [.lit (.bool true)], args := [d1, d2] }
  | _ => none }
def victimAbortsRow : OpenClaim := { program := "yteliegkcmjimoaagreatdoor", sum := "5bdfe581f0e2e2de7d8a8e994b21ed5731f851df347514aded7890a3532a41e1", func := "clusterlocks/clusterlockslaw22.VictimAborts", spec := "victimAborts", unfollowed := true, recurses := true, named := ["clusterlocks/mode.together", "math/bits.deBruijn64tab"], apart := false, laid := [("clusterlocks/mode.together", laid_clusterlocks_mode_together), ("math/bits.deBruijn64tab", laid_math_bits_deBruijn64tab)] }
def VictimAbortsSaid : Prop := victimAbortsRow.holds Tryz.pinned (OpenSpec.ofChange victimAbortsSpec)

/-- ITS FALSE NEIGHBOUR: 'it returns false'. Refute it at one input. -/
def victimAbortsWrong : ChangeSpec := { name := "victimAborts", fn := fun _ => fun
  | [d1, d2] => { results := [.lit (.bool false)], args := [d1, d2] }
  | _ => none }
def VictimAbortsWrongFalsely : Prop := victimAbortsRow.holds Tryz.pinned (OpenSpec.ofChange victimAbortsWrong)

/-- 'clusterlockslaw22.VictimResolves': WHATEVER THE INPUT: true; the input reads as it did. -/
def victimResolvesSpec : ChangeSpec := { name := "victimResolves", fn := fun _ => fun
  | [d] => { results := [.lit (.bool true)], args := [d] }
  | _ => none }
def victimResolvesRow : OpenClaim := { program := "yteliegkcmjimoaagreatdoor", sum := "5bdfe581f0e2e2de7d8a8e994b21ed5731f851df347514aded7890a3532a41e1", func := "clusterlocks/clusterlockslaw22.VictimResolves", spec := "victimResolves", unfollowed := true, recurses := true, named := ["clusterlocks/mode.together", "math/bits.deBruijn64tab"], apart := false, laid := [("clusterlocks/mode.together", laid_clusterlocks_mode_together), ("math/bits.deBruijn64tab", laid_math_bits_deBruijn64tab)] }
def VictimResolvesSaid : Prop := victimResolvesRow.holds Tryz.pinned (OpenSpec.ofChange victimResolvesSpec)

/-- ITS FALSE NEIGHBOUR: 'it returns false'. Refute it at one input. -/
def victimResolvesWrong : ChangeSpec := { name := "victimResolves", fn := fun _ => fun
  | [d] => { results := [.lit (.bool false)], args := [d] }
  | _ => none }
def VictimResolvesWrongFalsely : Prop := victimResolvesRow.holds Tryz.pinned (OpenSpec.ofChange victimResolvesWrong)

/- THE SECOND FORM. 'bulk': how many values and letters a reading holds, each counted each time it is reached (what is shared counts as often as it is met; a slice's spare places count too). A statement '..UptoSaid' is the law's where the arguments, and the package variables that the reading takes, are together of bulk at most 1048576: NARROWER than '..Said'. Prove '..Said' where nothing that the law and all that it calls make is longer than what came in: it says more and counts as full. Else prove '..UptoSaid'. A law counts once. -/
mutual
def uptoBulk {H : Type} : DataW H → Nat
  | .lit (.string bytes) => bytes.length + 1
  | .lit _ => 1
  | .nil => 1
  | .ptr d => uptoBulk d + 1
  | .slice elems spare => uptoBulkAll elems + uptoBulkAll spare + 1
  | .agg parts => uptoBulkAll parts + 1
  | .iface _ d => uptoBulk d + 1
  | .map entries => uptoBulkEntries entries + 1
  | .held _ => 1
def uptoBulkAll {H : Type} : List (DataW H) → Nat
  | [] => 0
  | d :: r => uptoBulk d + uptoBulkAll r
def uptoBulkEntries {H : Type} : List (Lit × DataW H) → Nat
  | [] => 0
  | x :: r => uptoBulkEntry x + uptoBulkEntries r
def uptoBulkEntry {H : Type} : Lit × DataW H → Nat
  | (.string bytes, d) => bytes.length + uptoBulk d + 1
  | (_, d) => uptoBulk d + 1
 end
def uptoSmall : (H : Type) → List (DataW H) → Bool := fun _ ds => decide (uptoBulkAll ds ≤ 1048576)
def OpenSpec.upto (s : _root_.Go.ChangeSpec) : _root_.Go.OpenSpec := { _root_.Go.OpenSpec.ofChange s with cond := some uptoSmall }

/-- 'clusterlockslaw22.VictimStays', WHERE WHAT IT READS IS OF BULK AT MOST 1048576: true; the input reads as it did. -/
def victimStaysUptoRow : OpenClaim := { program := "yteliegkcmjimoaagreatdoor", sum := "5bdfe581f0e2e2de7d8a8e994b21ed5731f851df347514aded7890a3532a41e1", func := "clusterlocks/clusterlockslaw22.VictimStays", spec := "victimStays", unfollowed := true, recurses := true, named := ["clusterlocks/mode.together", "math/bits.deBruijn64tab"], loops := true, apart := false, laid := [("clusterlocks/mode.together", laid_clusterlocks_mode_together), ("math/bits.deBruijn64tab", laid_math_bits_deBruijn64tab)], narrowed := true }
def VictimStaysUptoSaid : Prop := victimStaysUptoRow.holds Tryz.pinned (OpenSpec.upto victimStaysSpec)

/-- 'clusterlockslaw22.VictimSolves', WHERE WHAT IT READS IS OF BULK AT MOST 1048576: true; the input reads as it did. -/
def victimSolvesUptoRow : OpenClaim := { program := "yteliegkcmjimoaagreatdoor", sum := "5bdfe581f0e2e2de7d8a8e994b21ed5731f851df347514aded7890a3532a41e1", func := "clusterlocks/clusterlockslaw22.VictimSolves", spec := "victimSolves", unfollowed := true, recurses := true, named := ["clusterlocks/mode.together", "math/bits.deBruijn64tab"], loops := true, apart := false, laid := [("clusterlocks/mode.together", laid_clusterlocks_mode_together), ("math/bits.deBruijn64tab", laid_math_bits_deBruijn64tab)], narrowed := true }
def VictimSolvesUptoSaid : Prop := victimSolvesUptoRow.holds Tryz.pinned (OpenSpec.upto victimSolvesSpec)

/-- 'clusterlockslaw22.VictimChooses', WHERE WHAT IT READS IS OF BULK AT MOST 1048576: true; the input reads as it did. -/
def victimChoosesUptoRow : OpenClaim := { program := "yteliegkcmjimoaagreatdoor", sum := "5bdfe581f0e2e2de7d8a8e994b21ed5731f851df347514aded7890a3532a41e1", func := "clusterlocks/clusterlockslaw22.VictimChooses", spec := "victimChooses", unfollowed := true, recurses := true, named := ["clusterlocks/mode.together", "math/bits.deBruijn64tab"], loops := true, apart := false, laid := [("clusterlocks/mode.together", laid_clusterlocks_mode_together), ("math/bits.deBruijn64tab", laid_math_bits_deBruijn64tab)], narrowed := true }
def VictimChoosesUptoSaid : Prop := victimChoosesUptoRow.holds Tryz.pinned (OpenSpec.upto victimChoosesSpec)

/-- 'clusterlockslaw22.VictimLeast', WHERE WHAT IT READS IS OF BULK AT MOST 1048576: true; the input reads as it did. -/
def victimLeastUptoRow : OpenClaim := { program := "yteliegkcmjimoaagreatdoor", sum := "5bdfe581f0e2e2de7d8a8e994b21ed5731f851df347514aded7890a3532a41e1", func := "clusterlocks/clusterlockslaw22.VictimLeast", spec := "victimLeast", unfollowed := true, recurses := true, named := ["clusterlocks/mode.together", "math/bits.deBruijn64tab"], apart := false, laid := [("clusterlocks/mode.together", laid_clusterlocks_mode_together), ("math/bits.deBruijn64tab", laid_math_bits_deBruijn64tab)], narrowed := true }
def VictimLeastUptoSaid : Prop := victimLeastUptoRow.holds Tryz.pinned (OpenSpec.upto victimLeastSpec)

/-- 'clusterlockslaw22.VictimAborts', WHERE WHAT IT READS IS OF BULK AT MOST 1048576: true; the input reads as it did. -/
def victimAbortsUptoRow : OpenClaim := { program := "yteliegkcmjimoaagreatdoor", sum := "5bdfe581f0e2e2de7d8a8e994b21ed5731f851df347514aded7890a3532a41e1", func := "clusterlocks/clusterlockslaw22.VictimAborts", spec := "victimAborts", unfollowed := true, recurses := true, named := ["clusterlocks/mode.together", "math/bits.deBruijn64tab"], apart := false, laid := [("clusterlocks/mode.together", laid_clusterlocks_mode_together), ("math/bits.deBruijn64tab", laid_math_bits_deBruijn64tab)], narrowed := true }
def VictimAbortsUptoSaid : Prop := victimAbortsUptoRow.holds Tryz.pinned (OpenSpec.upto victimAbortsSpec)

/-- 'clusterlockslaw22.VictimResolves', WHERE WHAT IT READS IS OF BULK AT MOST 1048576: true; the input reads as it did. -/
def victimResolvesUptoRow : OpenClaim := { program := "yteliegkcmjimoaagreatdoor", sum := "5bdfe581f0e2e2de7d8a8e994b21ed5731f851df347514aded7890a3532a41e1", func := "clusterlocks/clusterlockslaw22.VictimResolves", spec := "victimResolves", unfollowed := true, recurses := true, named := ["clusterlocks/mode.together", "math/bits.deBruijn64tab"], apart := false, laid := [("clusterlocks/mode.together", laid_clusterlocks_mode_together), ("math/bits.deBruijn64tab", laid_math_bits_deBruijn64tab)], narrowed := true }
def VictimResolvesUptoSaid : Prop := victimResolvesUptoRow.holds Tryz.pinned (OpenSpec.upto victimResolvesSpec)

end Rows
end Go.Proofs.YteliegkcmjimoaaGreatDoor
