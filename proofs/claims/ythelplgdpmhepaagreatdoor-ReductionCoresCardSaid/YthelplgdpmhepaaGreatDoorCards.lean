/-
  DERIVED. GIVEN WITH THE SEED: THE CARDS: each row of YthelplgdpmhepaaGreatDoorRows.lean that lists a variable, with what it lists TIED to the program's text (the seventh form; the later family's looks); each row that meets fmt, with fmt's text TOLD by the authors' own Lean function (tested against real Go, not proved from fmt's source: count such statements apart). THE CARD IS WHAT COUNTS. Prove the row's statement (the work); the ties are given (YthelplgdpmhepaaGreatDoorTie.lean); close each card by the builder's one call (the guide's Derived/Test/ToyasCard.lean, 'card_holds'). Laid BY PROGRAM, IN A SANDBOX (cutbox-door.mjs). By AI agents, Wed Nov 11 2026. No macro, syntax, notation, axiom, sorry.
-/
import Derived.Test.YthelplgdpmhepaaGreatDoorRows
import GoSem.ClaimSeven
namespace Go.Proofs.YthelplgdpmhepaaGreatDoor
namespace Rows

/-- THE TIED CARD OF 'clusterlockslaw17.ReductionReduces'. -/
def reductionReducesCard : Claim7 := { stood := { row := reductionReducesRow, standIns := [], harness := (true, "9154ac460d19096cf2d23b339050b42a8bb1979c6eab48df4ff77b03b578c015"), looks := false }, kinds := [], alts := [], laidByText := true, laidKinds := [.data], laidTests := true, laidLooks := .later }
def ReductionReducesCardSaid : Prop := Claim7.holds Tryz.pinned (.plain (OpenSpec.ofChange reductionReducesSpec)) reductionReducesCard

/-- THE TIED CARD OF 'clusterlockslaw17.ReductionCores'. -/
def reductionCoresCard : Claim7 := { stood := { row := reductionCoresRow, standIns := [], harness := (true, "9154ac460d19096cf2d23b339050b42a8bb1979c6eab48df4ff77b03b578c015"), looks := false }, kinds := [], alts := [], laidByText := true, laidKinds := [.data], laidTests := true, laidLooks := .later }
def ReductionCoresCardSaid : Prop := Claim7.holds Tryz.pinned (.plain (OpenSpec.ofChange reductionCoresSpec)) reductionCoresCard

/-- THE TIED CARD OF 'clusterlockslaw17.ReductionScripts'. -/
def reductionScriptsCard : Claim7 := { stood := { row := reductionScriptsRow, standIns := [], harness := (true, "9154ac460d19096cf2d23b339050b42a8bb1979c6eab48df4ff77b03b578c015"), looks := false }, kinds := [], alts := [], laidByText := true, laidKinds := [.data], laidTests := true, laidLooks := .later }
def ReductionScriptsCardSaid : Prop := Claim7.holds Tryz.pinned (.plain (OpenSpec.ofChange reductionScriptsSpec)) reductionScriptsCard

/-- THE TIED CARD OF 'clusterlockslaw17.ReductionStable'. -/
def reductionStableCard : Claim7 := { stood := { row := reductionStableRow, standIns := [], harness := (true, "9154ac460d19096cf2d23b339050b42a8bb1979c6eab48df4ff77b03b578c015"), looks := false }, kinds := [], alts := [], laidByText := true, laidKinds := [.data], laidTests := true, laidLooks := .later }
def ReductionStableCardSaid : Prop := Claim7.holds Tryz.pinned (.plain (OpenSpec.ofChange reductionStableSpec)) reductionStableCard

/-- THE TIED CARD OF 'clusterlockslaw17.ReductionLives'. -/
def reductionLivesCard : Claim7 := { stood := { row := reductionLivesRow, standIns := [], harness := (true, "9154ac460d19096cf2d23b339050b42a8bb1979c6eab48df4ff77b03b578c015"), looks := false }, kinds := [], alts := [], laidByText := true, laidKinds := [.data], laidTests := true, laidLooks := .later }
def ReductionLivesCardSaid : Prop := Claim7.holds Tryz.pinned (.plain (OpenSpec.ofChange reductionLivesSpec)) reductionLivesCard

/-- THE TIED CARD OF 'clusterlockslaw17.ReductionMinimal'. -/
def reductionMinimalCard : Claim7 := { stood := { row := reductionMinimalRow, standIns := [], harness := (true, "9154ac460d19096cf2d23b339050b42a8bb1979c6eab48df4ff77b03b578c015"), looks := false }, kinds := [], alts := [], laidByText := true, laidKinds := [.data], laidTests := true, laidLooks := .later }
def ReductionMinimalCardSaid : Prop := Claim7.holds Tryz.pinned (.plain (OpenSpec.ofChange reductionMinimalSpec)) reductionMinimalCard

/-- THE TIED CARD OF 'clusterlockslaw17.ReductionFewer'. -/
def reductionFewerCard : Claim7 := { stood := { row := reductionFewerRow, standIns := [], harness := (true, "9154ac460d19096cf2d23b339050b42a8bb1979c6eab48df4ff77b03b578c015"), looks := false }, kinds := [], alts := [], laidByText := true, laidKinds := [.data], laidTests := true, laidLooks := .later }
def ReductionFewerCardSaid : Prop := Claim7.holds Tryz.pinned (.plain (OpenSpec.ofChange reductionFewerSpec)) reductionFewerCard

/-- THE TIED CARD OF 'clusterlockslaw17.ReductionFree'. -/
def reductionFreeCard : Claim7 := { stood := { row := reductionFreeRow, standIns := [], harness := (true, "9154ac460d19096cf2d23b339050b42a8bb1979c6eab48df4ff77b03b578c015"), looks := false }, kinds := [], alts := [], laidByText := true, laidKinds := [.data], laidTests := true, laidLooks := .later }
def ReductionFreeCardSaid : Prop := Claim7.holds Tryz.pinned (.plain (OpenSpec.ofChange reductionFreeSpec)) reductionFreeCard

/-- THE TIED CARD OF 'clusterlockslaw17.ReductionConfluent'. -/
def reductionConfluentCard : Claim7 := { stood := { row := reductionConfluentRow, standIns := [], harness := (true, "9154ac460d19096cf2d23b339050b42a8bb1979c6eab48df4ff77b03b578c015"), looks := false }, kinds := [], alts := [], laidByText := true, laidKinds := [.data], laidTests := true, laidLooks := .later }
def ReductionConfluentCardSaid : Prop := Claim7.holds Tryz.pinned (.plain (OpenSpec.ofChange reductionConfluentSpec)) reductionConfluentCard

/-- THE SECOND FORM's CARD OF 'clusterlockslaw17.ReductionReduces'. -/
def reductionReducesUptoCard : Claim7 := { stood := { row := reductionReducesUptoRow, standIns := [], harness := (true, "9154ac460d19096cf2d23b339050b42a8bb1979c6eab48df4ff77b03b578c015"), looks := false }, kinds := [], alts := [], laidByText := true, laidKinds := [.data], laidTests := true, laidLooks := .later }
def ReductionReducesUptoCardSaid : Prop := Claim7.holds Tryz.pinned (.plain (OpenSpec.upto reductionReducesSpec)) reductionReducesUptoCard

/-- THE SECOND FORM's CARD OF 'clusterlockslaw17.ReductionCores'. -/
def reductionCoresUptoCard : Claim7 := { stood := { row := reductionCoresUptoRow, standIns := [], harness := (true, "9154ac460d19096cf2d23b339050b42a8bb1979c6eab48df4ff77b03b578c015"), looks := false }, kinds := [], alts := [], laidByText := true, laidKinds := [.data], laidTests := true, laidLooks := .later }
def ReductionCoresUptoCardSaid : Prop := Claim7.holds Tryz.pinned (.plain (OpenSpec.upto reductionCoresSpec)) reductionCoresUptoCard

/-- THE SECOND FORM's CARD OF 'clusterlockslaw17.ReductionScripts'. -/
def reductionScriptsUptoCard : Claim7 := { stood := { row := reductionScriptsUptoRow, standIns := [], harness := (true, "9154ac460d19096cf2d23b339050b42a8bb1979c6eab48df4ff77b03b578c015"), looks := false }, kinds := [], alts := [], laidByText := true, laidKinds := [.data], laidTests := true, laidLooks := .later }
def ReductionScriptsUptoCardSaid : Prop := Claim7.holds Tryz.pinned (.plain (OpenSpec.upto reductionScriptsSpec)) reductionScriptsUptoCard

/-- THE SECOND FORM's CARD OF 'clusterlockslaw17.ReductionStable'. -/
def reductionStableUptoCard : Claim7 := { stood := { row := reductionStableUptoRow, standIns := [], harness := (true, "9154ac460d19096cf2d23b339050b42a8bb1979c6eab48df4ff77b03b578c015"), looks := false }, kinds := [], alts := [], laidByText := true, laidKinds := [.data], laidTests := true, laidLooks := .later }
def ReductionStableUptoCardSaid : Prop := Claim7.holds Tryz.pinned (.plain (OpenSpec.upto reductionStableSpec)) reductionStableUptoCard

/-- THE SECOND FORM's CARD OF 'clusterlockslaw17.ReductionLives'. -/
def reductionLivesUptoCard : Claim7 := { stood := { row := reductionLivesUptoRow, standIns := [], harness := (true, "9154ac460d19096cf2d23b339050b42a8bb1979c6eab48df4ff77b03b578c015"), looks := false }, kinds := [], alts := [], laidByText := true, laidKinds := [.data], laidTests := true, laidLooks := .later }
def ReductionLivesUptoCardSaid : Prop := Claim7.holds Tryz.pinned (.plain (OpenSpec.upto reductionLivesSpec)) reductionLivesUptoCard

/-- THE SECOND FORM's CARD OF 'clusterlockslaw17.ReductionMinimal'. -/
def reductionMinimalUptoCard : Claim7 := { stood := { row := reductionMinimalUptoRow, standIns := [], harness := (true, "9154ac460d19096cf2d23b339050b42a8bb1979c6eab48df4ff77b03b578c015"), looks := false }, kinds := [], alts := [], laidByText := true, laidKinds := [.data], laidTests := true, laidLooks := .later }
def ReductionMinimalUptoCardSaid : Prop := Claim7.holds Tryz.pinned (.plain (OpenSpec.upto reductionMinimalSpec)) reductionMinimalUptoCard

/-- THE SECOND FORM's CARD OF 'clusterlockslaw17.ReductionFewer'. -/
def reductionFewerUptoCard : Claim7 := { stood := { row := reductionFewerUptoRow, standIns := [], harness := (true, "9154ac460d19096cf2d23b339050b42a8bb1979c6eab48df4ff77b03b578c015"), looks := false }, kinds := [], alts := [], laidByText := true, laidKinds := [.data], laidTests := true, laidLooks := .later }
def ReductionFewerUptoCardSaid : Prop := Claim7.holds Tryz.pinned (.plain (OpenSpec.upto reductionFewerSpec)) reductionFewerUptoCard

/-- THE SECOND FORM's CARD OF 'clusterlockslaw17.ReductionFree'. -/
def reductionFreeUptoCard : Claim7 := { stood := { row := reductionFreeUptoRow, standIns := [], harness := (true, "9154ac460d19096cf2d23b339050b42a8bb1979c6eab48df4ff77b03b578c015"), looks := false }, kinds := [], alts := [], laidByText := true, laidKinds := [.data], laidTests := true, laidLooks := .later }
def ReductionFreeUptoCardSaid : Prop := Claim7.holds Tryz.pinned (.plain (OpenSpec.upto reductionFreeSpec)) reductionFreeUptoCard

/-- THE SECOND FORM's CARD OF 'clusterlockslaw17.ReductionConfluent'. -/
def reductionConfluentUptoCard : Claim7 := { stood := { row := reductionConfluentUptoRow, standIns := [], harness := (true, "9154ac460d19096cf2d23b339050b42a8bb1979c6eab48df4ff77b03b578c015"), looks := false }, kinds := [], alts := [], laidByText := true, laidKinds := [.data], laidTests := true, laidLooks := .later }
def ReductionConfluentUptoCardSaid : Prop := Claim7.holds Tryz.pinned (.plain (OpenSpec.upto reductionConfluentSpec)) reductionConfluentUptoCard
end Rows
end Go.Proofs.YthelplgdpmhepaaGreatDoor
