/-
  DERIVED. GIVEN WITH THE SEED: THE CARDS: each row of YthachdiockkofaaGreatDoorRows.lean that lists a variable, with what it lists TIED to the program's text (the seventh form; the later family's looks); each row that meets fmt, with fmt's text TOLD by the authors' own Lean function (tested against real Go, not proved from fmt's source: count such statements apart). THE CARD IS WHAT COUNTS. Prove the row's statement (the work); the ties are given (YthachdiockkofaaGreatDoorTie.lean); close each card by the builder's one call (the guide's Derived/Test/ToyasCard.lean, 'card_holds'). Laid BY PROGRAM, IN A SANDBOX (cutbox-door.mjs). By AI agents, Wed Nov 11 2026. No macro, syntax, notation, axiom, sorry.
-/
import Derived.Test.YthachdiockkofaaGreatDoorRows
import GoSem.ClaimSeven
namespace Go.Proofs.YthachdiockkofaaGreatDoor
namespace Rows

/-- THE TIED CARD OF 'clusterlockslaw17.ReductionScripts'. -/
def reductionScriptsCard : Claim7 := { stood := { row := reductionScriptsRow, standIns := [], harness := (true, "c10f7ded20ea682f332d5b488369e16007c396ca04265c35ee547bd890fdc7fc"), looks := false }, kinds := [], alts := [], laidByText := true, laidKinds := [.data], laidTests := true, laidLooks := .later }
def ReductionScriptsCardSaid : Prop := Claim7.holds Tryz.pinned (.plain (OpenSpec.ofChange reductionScriptsSpec)) reductionScriptsCard

/-- THE TIED CARD OF 'clusterlockslaw17.ReductionStable'. -/
def reductionStableCard : Claim7 := { stood := { row := reductionStableRow, standIns := [], harness := (true, "c10f7ded20ea682f332d5b488369e16007c396ca04265c35ee547bd890fdc7fc"), looks := false }, kinds := [], alts := [], laidByText := true, laidKinds := [.data], laidTests := true, laidLooks := .later }
def ReductionStableCardSaid : Prop := Claim7.holds Tryz.pinned (.plain (OpenSpec.ofChange reductionStableSpec)) reductionStableCard

/-- THE TIED CARD OF 'clusterlockslaw17.ReductionLives'. -/
def reductionLivesCard : Claim7 := { stood := { row := reductionLivesRow, standIns := [], harness := (true, "c10f7ded20ea682f332d5b488369e16007c396ca04265c35ee547bd890fdc7fc"), looks := false }, kinds := [], alts := [], laidByText := true, laidKinds := [.data], laidTests := true, laidLooks := .later }
def ReductionLivesCardSaid : Prop := Claim7.holds Tryz.pinned (.plain (OpenSpec.ofChange reductionLivesSpec)) reductionLivesCard

/-- THE TIED CARD OF 'clusterlockslaw17.ReductionMinimal'. -/
def reductionMinimalCard : Claim7 := { stood := { row := reductionMinimalRow, standIns := [], harness := (true, "c10f7ded20ea682f332d5b488369e16007c396ca04265c35ee547bd890fdc7fc"), looks := false }, kinds := [], alts := [], laidByText := true, laidKinds := [.data], laidTests := true, laidLooks := .later }
def ReductionMinimalCardSaid : Prop := Claim7.holds Tryz.pinned (.plain (OpenSpec.ofChange reductionMinimalSpec)) reductionMinimalCard

/-- THE TIED CARD OF 'clusterlockslaw17.ReductionFewer'. -/
def reductionFewerCard : Claim7 := { stood := { row := reductionFewerRow, standIns := [], harness := (true, "c10f7ded20ea682f332d5b488369e16007c396ca04265c35ee547bd890fdc7fc"), looks := false }, kinds := [], alts := [], laidByText := true, laidKinds := [.data], laidTests := true, laidLooks := .later }
def ReductionFewerCardSaid : Prop := Claim7.holds Tryz.pinned (.plain (OpenSpec.ofChange reductionFewerSpec)) reductionFewerCard

/-- THE TIED CARD OF 'clusterlockslaw17.ReductionConfluent'. -/
def reductionConfluentCard : Claim7 := { stood := { row := reductionConfluentRow, standIns := [], harness := (true, "c10f7ded20ea682f332d5b488369e16007c396ca04265c35ee547bd890fdc7fc"), looks := false }, kinds := [], alts := [], laidByText := true, laidKinds := [.data], laidTests := true, laidLooks := .later }
def ReductionConfluentCardSaid : Prop := Claim7.holds Tryz.pinned (.plain (OpenSpec.ofChange reductionConfluentSpec)) reductionConfluentCard

/-- THE TIED CARD OF 'clusterlockslaw18.WitnessScripts'. -/
def witnessScriptsCard : Claim7 := { stood := { row := witnessScriptsRow, standIns := [], harness := (true, "c10f7ded20ea682f332d5b488369e16007c396ca04265c35ee547bd890fdc7fc"), looks := false }, kinds := [], alts := [], laidByText := true, laidKinds := [.data], laidTests := true, laidLooks := .later }
def WitnessScriptsCardSaid : Prop := Claim7.holds Tryz.pinned (.plain (OpenSpec.ofChange witnessScriptsSpec)) witnessScriptsCard

/-- THE TIED CARD OF 'clusterlockslaw18.WitnessCores'. -/
def witnessCoresCard : Claim7 := { stood := { row := witnessCoresRow, standIns := [], harness := (true, "c10f7ded20ea682f332d5b488369e16007c396ca04265c35ee547bd890fdc7fc"), looks := false }, kinds := [], alts := [], laidByText := true, laidKinds := [.data], laidTests := true, laidLooks := .later }
def WitnessCoresCardSaid : Prop := Claim7.holds Tryz.pinned (.plain (OpenSpec.ofChange witnessCoresSpec)) witnessCoresCard

/-- THE TIED CARD OF 'clusterlockslaw18.WitnessSpoils'. -/
def witnessSpoilsCard : Claim7 := { stood := { row := witnessSpoilsRow, standIns := [], harness := (true, "c10f7ded20ea682f332d5b488369e16007c396ca04265c35ee547bd890fdc7fc"), looks := false }, kinds := [], alts := [], laidByText := true, laidKinds := [.data], laidTests := true, laidLooks := .later }
def WitnessSpoilsCardSaid : Prop := Claim7.holds Tryz.pinned (.plain (OpenSpec.ofChange witnessSpoilsSpec)) witnessSpoilsCard

/-- THE TIED CARD OF 'clusterlockslaw18.WitnessLasts'. -/
def witnessLastsCard : Claim7 := { stood := { row := witnessLastsRow, standIns := [], harness := (true, "c10f7ded20ea682f332d5b488369e16007c396ca04265c35ee547bd890fdc7fc"), looks := false }, kinds := [], alts := [], laidByText := true, laidKinds := [.data], laidTests := true, laidLooks := .later }
def WitnessLastsCardSaid : Prop := Claim7.holds Tryz.pinned (.plain (OpenSpec.ofChange witnessLastsSpec)) witnessLastsCard

/-- THE TIED CARD OF 'clusterlockslaw18.WitnessBreaks'. -/
def witnessBreaksCard : Claim7 := { stood := { row := witnessBreaksRow, standIns := [], harness := (true, "c10f7ded20ea682f332d5b488369e16007c396ca04265c35ee547bd890fdc7fc"), looks := false }, kinds := [], alts := [], laidByText := true, laidKinds := [.data], laidTests := true, laidLooks := .later }
def WitnessBreaksCardSaid : Prop := Claim7.holds Tryz.pinned (.plain (OpenSpec.ofChange witnessBreaksSpec)) witnessBreaksCard

/-- THE TIED CARD OF 'clusterlockslaw18.WitnessCauses'. -/
def witnessCausesCard : Claim7 := { stood := { row := witnessCausesRow, standIns := [], harness := (true, "c10f7ded20ea682f332d5b488369e16007c396ca04265c35ee547bd890fdc7fc"), looks := false }, kinds := [], alts := [], laidByText := true, laidKinds := [.data], laidTests := true, laidLooks := .later }
def WitnessCausesCardSaid : Prop := Claim7.holds Tryz.pinned (.plain (OpenSpec.ofChange witnessCausesSpec)) witnessCausesCard

/-- THE SECOND FORM's CARD OF 'clusterlockslaw17.ReductionScripts'. -/
def reductionScriptsUptoCard : Claim7 := { stood := { row := reductionScriptsUptoRow, standIns := [], harness := (true, "c10f7ded20ea682f332d5b488369e16007c396ca04265c35ee547bd890fdc7fc"), looks := false }, kinds := [], alts := [], laidByText := true, laidKinds := [.data], laidTests := true, laidLooks := .later }
def ReductionScriptsUptoCardSaid : Prop := Claim7.holds Tryz.pinned (.plain (OpenSpec.upto reductionScriptsSpec)) reductionScriptsUptoCard

/-- THE SECOND FORM's CARD OF 'clusterlockslaw17.ReductionStable'. -/
def reductionStableUptoCard : Claim7 := { stood := { row := reductionStableUptoRow, standIns := [], harness := (true, "c10f7ded20ea682f332d5b488369e16007c396ca04265c35ee547bd890fdc7fc"), looks := false }, kinds := [], alts := [], laidByText := true, laidKinds := [.data], laidTests := true, laidLooks := .later }
def ReductionStableUptoCardSaid : Prop := Claim7.holds Tryz.pinned (.plain (OpenSpec.upto reductionStableSpec)) reductionStableUptoCard

/-- THE SECOND FORM's CARD OF 'clusterlockslaw17.ReductionLives'. -/
def reductionLivesUptoCard : Claim7 := { stood := { row := reductionLivesUptoRow, standIns := [], harness := (true, "c10f7ded20ea682f332d5b488369e16007c396ca04265c35ee547bd890fdc7fc"), looks := false }, kinds := [], alts := [], laidByText := true, laidKinds := [.data], laidTests := true, laidLooks := .later }
def ReductionLivesUptoCardSaid : Prop := Claim7.holds Tryz.pinned (.plain (OpenSpec.upto reductionLivesSpec)) reductionLivesUptoCard

/-- THE SECOND FORM's CARD OF 'clusterlockslaw17.ReductionMinimal'. -/
def reductionMinimalUptoCard : Claim7 := { stood := { row := reductionMinimalUptoRow, standIns := [], harness := (true, "c10f7ded20ea682f332d5b488369e16007c396ca04265c35ee547bd890fdc7fc"), looks := false }, kinds := [], alts := [], laidByText := true, laidKinds := [.data], laidTests := true, laidLooks := .later }
def ReductionMinimalUptoCardSaid : Prop := Claim7.holds Tryz.pinned (.plain (OpenSpec.upto reductionMinimalSpec)) reductionMinimalUptoCard

/-- THE SECOND FORM's CARD OF 'clusterlockslaw17.ReductionFewer'. -/
def reductionFewerUptoCard : Claim7 := { stood := { row := reductionFewerUptoRow, standIns := [], harness := (true, "c10f7ded20ea682f332d5b488369e16007c396ca04265c35ee547bd890fdc7fc"), looks := false }, kinds := [], alts := [], laidByText := true, laidKinds := [.data], laidTests := true, laidLooks := .later }
def ReductionFewerUptoCardSaid : Prop := Claim7.holds Tryz.pinned (.plain (OpenSpec.upto reductionFewerSpec)) reductionFewerUptoCard

/-- THE SECOND FORM's CARD OF 'clusterlockslaw17.ReductionConfluent'. -/
def reductionConfluentUptoCard : Claim7 := { stood := { row := reductionConfluentUptoRow, standIns := [], harness := (true, "c10f7ded20ea682f332d5b488369e16007c396ca04265c35ee547bd890fdc7fc"), looks := false }, kinds := [], alts := [], laidByText := true, laidKinds := [.data], laidTests := true, laidLooks := .later }
def ReductionConfluentUptoCardSaid : Prop := Claim7.holds Tryz.pinned (.plain (OpenSpec.upto reductionConfluentSpec)) reductionConfluentUptoCard

/-- THE SECOND FORM's CARD OF 'clusterlockslaw18.WitnessScripts'. -/
def witnessScriptsUptoCard : Claim7 := { stood := { row := witnessScriptsUptoRow, standIns := [], harness := (true, "c10f7ded20ea682f332d5b488369e16007c396ca04265c35ee547bd890fdc7fc"), looks := false }, kinds := [], alts := [], laidByText := true, laidKinds := [.data], laidTests := true, laidLooks := .later }
def WitnessScriptsUptoCardSaid : Prop := Claim7.holds Tryz.pinned (.plain (OpenSpec.upto witnessScriptsSpec)) witnessScriptsUptoCard

/-- THE SECOND FORM's CARD OF 'clusterlockslaw18.WitnessCores'. -/
def witnessCoresUptoCard : Claim7 := { stood := { row := witnessCoresUptoRow, standIns := [], harness := (true, "c10f7ded20ea682f332d5b488369e16007c396ca04265c35ee547bd890fdc7fc"), looks := false }, kinds := [], alts := [], laidByText := true, laidKinds := [.data], laidTests := true, laidLooks := .later }
def WitnessCoresUptoCardSaid : Prop := Claim7.holds Tryz.pinned (.plain (OpenSpec.upto witnessCoresSpec)) witnessCoresUptoCard

/-- THE SECOND FORM's CARD OF 'clusterlockslaw18.WitnessSpoils'. -/
def witnessSpoilsUptoCard : Claim7 := { stood := { row := witnessSpoilsUptoRow, standIns := [], harness := (true, "c10f7ded20ea682f332d5b488369e16007c396ca04265c35ee547bd890fdc7fc"), looks := false }, kinds := [], alts := [], laidByText := true, laidKinds := [.data], laidTests := true, laidLooks := .later }
def WitnessSpoilsUptoCardSaid : Prop := Claim7.holds Tryz.pinned (.plain (OpenSpec.upto witnessSpoilsSpec)) witnessSpoilsUptoCard

/-- THE SECOND FORM's CARD OF 'clusterlockslaw18.WitnessLasts'. -/
def witnessLastsUptoCard : Claim7 := { stood := { row := witnessLastsUptoRow, standIns := [], harness := (true, "c10f7ded20ea682f332d5b488369e16007c396ca04265c35ee547bd890fdc7fc"), looks := false }, kinds := [], alts := [], laidByText := true, laidKinds := [.data], laidTests := true, laidLooks := .later }
def WitnessLastsUptoCardSaid : Prop := Claim7.holds Tryz.pinned (.plain (OpenSpec.upto witnessLastsSpec)) witnessLastsUptoCard

/-- THE SECOND FORM's CARD OF 'clusterlockslaw18.WitnessBreaks'. -/
def witnessBreaksUptoCard : Claim7 := { stood := { row := witnessBreaksUptoRow, standIns := [], harness := (true, "c10f7ded20ea682f332d5b488369e16007c396ca04265c35ee547bd890fdc7fc"), looks := false }, kinds := [], alts := [], laidByText := true, laidKinds := [.data], laidTests := true, laidLooks := .later }
def WitnessBreaksUptoCardSaid : Prop := Claim7.holds Tryz.pinned (.plain (OpenSpec.upto witnessBreaksSpec)) witnessBreaksUptoCard

/-- THE SECOND FORM's CARD OF 'clusterlockslaw18.WitnessCauses'. -/
def witnessCausesUptoCard : Claim7 := { stood := { row := witnessCausesUptoRow, standIns := [], harness := (true, "c10f7ded20ea682f332d5b488369e16007c396ca04265c35ee547bd890fdc7fc"), looks := false }, kinds := [], alts := [], laidByText := true, laidKinds := [.data], laidTests := true, laidLooks := .later }
def WitnessCausesUptoCardSaid : Prop := Claim7.holds Tryz.pinned (.plain (OpenSpec.upto witnessCausesSpec)) witnessCausesUptoCard
end Rows
end Go.Proofs.YthachdiockkofaaGreatDoor
