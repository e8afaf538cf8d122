/-
  DERIVED. GIVEN WITH THE SEED: THE CARDS: each row of YteliegkcmjimoaaGreatDoorRows.lean that lists a variable, with what it lists TIED to the program's text (the seventh form; the later family's looks); each row that meets fmt, with fmt's text TOLD by the authors' own Lean function (tested against real Go, not proved from fmt's source: count such statements apart). THE CARD IS WHAT COUNTS. Prove the row's statement (the work); the ties are given (YteliegkcmjimoaaGreatDoorTie.lean); close each card by the builder's one call (the guide's Derived/Test/ToyasCard.lean, 'card_holds'). Laid BY PROGRAM, IN A SANDBOX (cutbox-door.mjs). By AI agents, Wed Nov 11 2026. No macro, syntax, notation, axiom, sorry.
-/
import Derived.Test.YteliegkcmjimoaaGreatDoorRows
import GoSem.ClaimSeven
namespace Go.Proofs.YteliegkcmjimoaaGreatDoor
namespace Rows

/-- THE TIED CARD OF 'clusterlockslaw22.VictimStays'. -/
def victimStaysCard : Claim7 := { stood := { row := victimStaysRow, standIns := [], harness := (true, "c42fcbd4ef037d163fe80c8edd20d77346b46506266d1fff00f525cea601ee8f"), looks := true }, kinds := [], alts := [], laidByText := true, laidKinds := [.data, .data], laidTests := true, laidLooks := .later }
def VictimStaysCardSaid : Prop := Claim7.holds Tryz.pinned (.plain (OpenSpec.ofChange victimStaysSpec)) victimStaysCard

/-- THE TIED CARD OF 'clusterlockslaw22.VictimSolves'. -/
def victimSolvesCard : Claim7 := { stood := { row := victimSolvesRow, standIns := [], harness := (true, "c42fcbd4ef037d163fe80c8edd20d77346b46506266d1fff00f525cea601ee8f"), looks := true }, kinds := [], alts := [], laidByText := true, laidKinds := [.data, .data], laidTests := true, laidLooks := .later }
def VictimSolvesCardSaid : Prop := Claim7.holds Tryz.pinned (.plain (OpenSpec.ofChange victimSolvesSpec)) victimSolvesCard

/-- THE TIED CARD OF 'clusterlockslaw22.VictimChooses'. -/
def victimChoosesCard : Claim7 := { stood := { row := victimChoosesRow, standIns := [], harness := (true, "c42fcbd4ef037d163fe80c8edd20d77346b46506266d1fff00f525cea601ee8f"), looks := true }, kinds := [], alts := [], laidByText := true, laidKinds := [.data, .data], laidTests := true, laidLooks := .later }
def VictimChoosesCardSaid : Prop := Claim7.holds Tryz.pinned (.plain (OpenSpec.ofChange victimChoosesSpec)) victimChoosesCard

/-- THE TIED CARD OF 'clusterlockslaw22.VictimLeast'. -/
def victimLeastCard : Claim7 := { stood := { row := victimLeastRow, standIns := [], harness := (true, "c42fcbd4ef037d163fe80c8edd20d77346b46506266d1fff00f525cea601ee8f"), looks := true }, kinds := [], alts := [], laidByText := true, laidKinds := [.data, .data], laidTests := true, laidLooks := .later }
def VictimLeastCardSaid : Prop := Claim7.holds Tryz.pinned (.plain (OpenSpec.ofChange victimLeastSpec)) victimLeastCard

/-- THE TIED CARD OF 'clusterlockslaw22.VictimAborts'. -/
def victimAbortsCard : Claim7 := { stood := { row := victimAbortsRow, standIns := [], harness := (true, "c42fcbd4ef037d163fe80c8edd20d77346b46506266d1fff00f525cea601ee8f"), looks := true }, kinds := [], alts := [], laidByText := true, laidKinds := [.data, .data], laidTests := true, laidLooks := .later }
def VictimAbortsCardSaid : Prop := Claim7.holds Tryz.pinned (.plain (OpenSpec.ofChange victimAbortsSpec)) victimAbortsCard

/-- THE TIED CARD OF 'clusterlockslaw22.VictimResolves'. -/
def victimResolvesCard : Claim7 := { stood := { row := victimResolvesRow, standIns := [], harness := (true, "c42fcbd4ef037d163fe80c8edd20d77346b46506266d1fff00f525cea601ee8f"), looks := true }, kinds := [], alts := [], laidByText := true, laidKinds := [.data, .data], laidTests := true, laidLooks := .later }
def VictimResolvesCardSaid : Prop := Claim7.holds Tryz.pinned (.plain (OpenSpec.ofChange victimResolvesSpec)) victimResolvesCard

/-- THE SECOND FORM's CARD OF 'clusterlockslaw22.VictimStays'. -/
def victimStaysUptoCard : Claim7 := { stood := { row := victimStaysUptoRow, standIns := [], harness := (true, "c42fcbd4ef037d163fe80c8edd20d77346b46506266d1fff00f525cea601ee8f"), looks := true }, kinds := [], alts := [], laidByText := true, laidKinds := [.data, .data], laidTests := true, laidLooks := .later }
def VictimStaysUptoCardSaid : Prop := Claim7.holds Tryz.pinned (.plain (OpenSpec.upto victimStaysSpec)) victimStaysUptoCard

/-- THE SECOND FORM's CARD OF 'clusterlockslaw22.VictimSolves'. -/
def victimSolvesUptoCard : Claim7 := { stood := { row := victimSolvesUptoRow, standIns := [], harness := (true, "c42fcbd4ef037d163fe80c8edd20d77346b46506266d1fff00f525cea601ee8f"), looks := true }, kinds := [], alts := [], laidByText := true, laidKinds := [.data, .data], laidTests := true, laidLooks := .later }
def VictimSolvesUptoCardSaid : Prop := Claim7.holds Tryz.pinned (.plain (OpenSpec.upto victimSolvesSpec)) victimSolvesUptoCard

/-- THE SECOND FORM's CARD OF 'clusterlockslaw22.VictimChooses'. -/
def victimChoosesUptoCard : Claim7 := { stood := { row := victimChoosesUptoRow, standIns := [], harness := (true, "c42fcbd4ef037d163fe80c8edd20d77346b46506266d1fff00f525cea601ee8f"), looks := true }, kinds := [], alts := [], laidByText := true, laidKinds := [.data, .data], laidTests := true, laidLooks := .later }
def VictimChoosesUptoCardSaid : Prop := Claim7.holds Tryz.pinned (.plain (OpenSpec.upto victimChoosesSpec)) victimChoosesUptoCard

/-- THE SECOND FORM's CARD OF 'clusterlockslaw22.VictimLeast'. -/
def victimLeastUptoCard : Claim7 := { stood := { row := victimLeastUptoRow, standIns := [], harness := (true, "c42fcbd4ef037d163fe80c8edd20d77346b46506266d1fff00f525cea601ee8f"), looks := true }, kinds := [], alts := [], laidByText := true, laidKinds := [.data, .data], laidTests := true, laidLooks := .later }
def VictimLeastUptoCardSaid : Prop := Claim7.holds Tryz.pinned (.plain (OpenSpec.upto victimLeastSpec)) victimLeastUptoCard

/-- THE SECOND FORM's CARD OF 'clusterlockslaw22.VictimAborts'. -/
def victimAbortsUptoCard : Claim7 := { stood := { row := victimAbortsUptoRow, standIns := [], harness := (true, "c42fcbd4ef037d163fe80c8edd20d77346b46506266d1fff00f525cea601ee8f"), looks := true }, kinds := [], alts := [], laidByText := true, laidKinds := [.data, .data], laidTests := true, laidLooks := .later }
def VictimAbortsUptoCardSaid : Prop := Claim7.holds Tryz.pinned (.plain (OpenSpec.upto victimAbortsSpec)) victimAbortsUptoCard

/-- THE SECOND FORM's CARD OF 'clusterlockslaw22.VictimResolves'. -/
def victimResolvesUptoCard : Claim7 := { stood := { row := victimResolvesUptoRow, standIns := [], harness := (true, "c42fcbd4ef037d163fe80c8edd20d77346b46506266d1fff00f525cea601ee8f"), looks := true }, kinds := [], alts := [], laidByText := true, laidKinds := [.data, .data], laidTests := true, laidLooks := .later }
def VictimResolvesUptoCardSaid : Prop := Claim7.holds Tryz.pinned (.plain (OpenSpec.upto victimResolvesSpec)) victimResolvesUptoCard
end Rows
end Go.Proofs.YteliegkcmjimoaaGreatDoor
