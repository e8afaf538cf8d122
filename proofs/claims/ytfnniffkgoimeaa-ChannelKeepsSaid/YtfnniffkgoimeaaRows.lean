/-
  No cell of these rows narrows 'for every input' (looked for: loops, veiled, ifaces, maps, wideKeys, modest, calm, conditions, laid).
  DERIVED. THE GIVEN ROWS OF THIS SEAT. 4 by the template 'for every input the law returns true; each argument reads behind the call as it read before'; 0 by the template 'total and deterministic' (their statements: YtfnniffkgoimeaaTotals.lean).
  GIVEN WITH THE SEED: the statements are not yours to turn. If you find one false, say at which input.
  Laid BY PROGRAM, IN A SANDBOX (cutbox-rows.mjs): the forced cells as the released guide's own fill.sh prints them over the translation eaea2232053115f8… (all of the seat's roots in one cut). By AI agents, Wed Nov 11 2026. No macro, syntax, notation, axiom, sorry.
-/
import Derived.Test.YtfnniffkgoimeaaChecked
import GoSem.Claim
import GoSem.ClaimJoined
import GoSem.ClaimMapViews
import Derived.JoinedTies
import Derived.KernelRfl
namespace Go.Proofs.Ytfnniffkgoimeaa
/- THE CELL 'sum', in the pinned program and in every row, IS THE sha256 OF THE DUMP (.gsa) THAT YtfnniffkgoimeaaProg.lean LOADS. Nothing in Lean hashes anything: it is a label: what it is worth is what the hold of that sum in a sandbox is worth. -/
noncomputable def Try.pinned : Pinned := { name := "ytfnniffkgoimeaa", sum := "eaea2232053115f85a3dfa9927b688e1788eeaca6261b794d950f09077beed3b", checked := Try.checked }
namespace Rows
def none {H : Type} : Left H := { results := [], args := [] }

/-- 'clusterlockslaw23.ChannelOrder': WHATEVER THE INPUT: true; the input reads as it did. -/
def channelOrderSpec : ChangeSpec := { name := "channelOrder", fn := fun _ => fun
  | [d] => { results := [.lit (.bool true)], args := [d] }
  | _ => none }
def channelOrderRow : OpenClaim := { program := "ytfnniffkgoimeaa", sum := "eaea2232053115f85a3dfa9927b688e1788eeaca6261b794d950f09077beed3b", func := "clusterlocks/clusterlockslaw23.ChannelOrder", spec := "channelOrder", apart := false }
def ChannelOrderSaid : Prop := channelOrderRow.holds Try.pinned (OpenSpec.ofChange channelOrderSpec)

/-- ITS FALSE NEIGHBOUR: 'it returns false'. Refute it at one input. -/
def channelOrderWrong : ChangeSpec := { name := "channelOrder", fn := fun _ => fun
  | [d] => { results := [.lit (.bool false)], args := [d] }
  | _ => none }
def ChannelOrderWrongFalsely : Prop := channelOrderRow.holds Try.pinned (OpenSpec.ofChange channelOrderWrong)

/-- 'clusterlockslaw23.ChannelFresh': WHATEVER THE INPUT: true; the input reads as it did. -/
def channelFreshSpec : ChangeSpec := { name := "channelFresh", fn := fun _ => fun
  | [d1, d2, d3, d4] => { results := [.lit (.bool true)], args := [d1, d2, d3, d4] }
  | _ => none }
def channelFreshRow : OpenClaim := { program := "ytfnniffkgoimeaa", sum := "eaea2232053115f85a3dfa9927b688e1788eeaca6261b794d950f09077beed3b", func := "clusterlocks/clusterlockslaw23.ChannelFresh", spec := "channelFresh", apart := false }
def ChannelFreshSaid : Prop := channelFreshRow.holds Try.pinned (OpenSpec.ofChange channelFreshSpec)

/-- ITS FALSE NEIGHBOUR: 'it returns false'. Refute it at one input. -/
def channelFreshWrong : ChangeSpec := { name := "channelFresh", fn := fun _ => fun
  | [d1, d2, d3, d4] => { results := [.lit (.bool false)], args := [d1, d2, d3, d4] }
  | _ => none }
def ChannelFreshWrongFalsely : Prop := channelFreshRow.holds Try.pinned (OpenSpec.ofChange channelFreshWrong)

/-- 'clusterlockslaw23.ChannelActs': WHATEVER THE INPUT: true; the input reads as it did. -/
def channelActsSpec : ChangeSpec := { name := "channelActs", fn := fun _ => fun
  | [d1, d2, d3, d4, d5] => { results := [.lit (.bool true)], args := [d1, d2, d3, d4, d5] }
  | _ => none }
def channelActsRow : OpenClaim := { program := "ytfnniffkgoimeaa", sum := "eaea2232053115f85a3dfa9927b688e1788eeaca6261b794d950f09077beed3b", func := "clusterlocks/clusterlockslaw23.ChannelActs", spec := "channelActs", apart := false }
def ChannelActsSaid : Prop := channelActsRow.holds Try.pinned (OpenSpec.ofChange channelActsSpec)

/-- ITS FALSE NEIGHBOUR: 'it returns false'. Refute it at one input. -/
def channelActsWrong : ChangeSpec := { name := "channelActs", fn := fun _ => fun
  | [d1, d2, d3, d4, d5] => { results := [.lit (.bool false)], args := [d1, d2, d3, d4, d5] }
  | _ => none }
def ChannelActsWrongFalsely : Prop := channelActsRow.holds Try.pinned (OpenSpec.ofChange channelActsWrong)

/-- 'clusterlockslaw23.ChannelKeeps': WHATEVER THE INPUT: true; the input reads as it did. -/
def channelKeepsSpec : ChangeSpec := { name := "channelKeeps", fn := fun _ => fun
  | [d] => { results := [.lit (.bool true)], args := [d] }
  | _ => none }
def channelKeepsRow : OpenClaim := { program := "ytfnniffkgoimeaa", sum := "eaea2232053115f85a3dfa9927b688e1788eeaca6261b794d950f09077beed3b", func := "clusterlocks/clusterlockslaw23.ChannelKeeps", spec := "channelKeeps", apart := false }
def ChannelKeepsSaid : Prop := channelKeepsRow.holds Try.pinned (OpenSpec.ofChange channelKeepsSpec)

/-- ITS FALSE NEIGHBOUR: 'it returns false'. Refute it at one input. -/
def channelKeepsWrong : ChangeSpec := { name := "channelKeeps", fn := fun _ => fun
  | [d] => { results := [.lit (.bool false)], args := [d] }
  | _ => none }
def ChannelKeepsWrongFalsely : Prop := channelKeepsRow.holds Try.pinned (OpenSpec.ofChange channelKeepsWrong)

/- THE SECOND FORM. 'bulk': how many values and letters a reading holds, each counted each time it is reached (what is shared counts as often as it is met; a slice's spare places count too). A statement '..UptoSaid' is the law's where the arguments, and the package variables that the reading takes, are together of bulk at most 1048576: NARROWER than '..Said'. Prove '..Said' where nothing that the law and all that it calls make is longer than what came in: it says more and counts as full. Else prove '..UptoSaid'. A law counts once. -/
mutual
def uptoBulk {H : Type} : DataW H → Nat
  | .lit (.string bytes) => bytes.length + 1
  | .lit _ => 1
  | .nil => 1
  | .ptr d => uptoBulk d + 1
  | .slice elems spare => uptoBulkAll elems + uptoBulkAll spare + 1
  | .agg parts => uptoBulkAll parts + 1
  | .iface _ d => uptoBulk d + 1
  | .map entries => uptoBulkEntries entries + 1
  | .held _ => 1
def uptoBulkAll {H : Type} : List (DataW H) → Nat
  | [] => 0
  | d :: r => uptoBulk d + uptoBulkAll r
def uptoBulkEntries {H : Type} : List (Lit × DataW H) → Nat
  | [] => 0
  | x :: r => uptoBulkEntry x + uptoBulkEntries r
def uptoBulkEntry {H : Type} : Lit × DataW H → Nat
  | (.string bytes, d) => bytes.length + uptoBulk d + 1
  | (_, d) => uptoBulk d + 1
 end
def uptoSmall : (H : Type) → List (DataW H) → Bool := fun _ ds => decide (uptoBulkAll ds ≤ 1048576)
def OpenSpec.upto (s : _root_.Go.ChangeSpec) : _root_.Go.OpenSpec := { _root_.Go.OpenSpec.ofChange s with cond := some uptoSmall }

/-- 'clusterlockslaw23.ChannelOrder', WHERE WHAT IT READS IS OF BULK AT MOST 1048576: true; the input reads as it did. -/
def channelOrderUptoRow : OpenClaim := { program := "ytfnniffkgoimeaa", sum := "eaea2232053115f85a3dfa9927b688e1788eeaca6261b794d950f09077beed3b", func := "clusterlocks/clusterlockslaw23.ChannelOrder", spec := "channelOrder", apart := false, narrowed := true }
def ChannelOrderUptoSaid : Prop := channelOrderUptoRow.holds Try.pinned (OpenSpec.upto channelOrderSpec)

/-- 'clusterlockslaw23.ChannelFresh', WHERE WHAT IT READS IS OF BULK AT MOST 1048576: true; the input reads as it did. -/
def channelFreshUptoRow : OpenClaim := { program := "ytfnniffkgoimeaa", sum := "eaea2232053115f85a3dfa9927b688e1788eeaca6261b794d950f09077beed3b", func := "clusterlocks/clusterlockslaw23.ChannelFresh", spec := "channelFresh", apart := false, narrowed := true }
def ChannelFreshUptoSaid : Prop := channelFreshUptoRow.holds Try.pinned (OpenSpec.upto channelFreshSpec)

/-- 'clusterlockslaw23.ChannelActs', WHERE WHAT IT READS IS OF BULK AT MOST 1048576: true; the input reads as it did. -/
def channelActsUptoRow : OpenClaim := { program := "ytfnniffkgoimeaa", sum := "eaea2232053115f85a3dfa9927b688e1788eeaca6261b794d950f09077beed3b", func := "clusterlocks/clusterlockslaw23.ChannelActs", spec := "channelActs", apart := false, narrowed := true }
def ChannelActsUptoSaid : Prop := channelActsUptoRow.holds Try.pinned (OpenSpec.upto channelActsSpec)

/-- 'clusterlockslaw23.ChannelKeeps', WHERE WHAT IT READS IS OF BULK AT MOST 1048576: true; the input reads as it did. -/
def channelKeepsUptoRow : OpenClaim := { program := "ytfnniffkgoimeaa", sum := "eaea2232053115f85a3dfa9927b688e1788eeaca6261b794d950f09077beed3b", func := "clusterlocks/clusterlockslaw23.ChannelKeeps", spec := "channelKeeps", apart := false, narrowed := true }
def ChannelKeepsUptoSaid : Prop := channelKeepsUptoRow.holds Try.pinned (OpenSpec.upto channelKeepsSpec)

end Rows
end Go.Proofs.Ytfnniffkgoimeaa
