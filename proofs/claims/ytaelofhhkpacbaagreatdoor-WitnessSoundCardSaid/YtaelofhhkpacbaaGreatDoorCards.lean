/-
  DERIVED. GIVEN WITH THE SEED: THE CARDS: each row of YtaelofhhkpacbaaGreatDoorRows.lean that lists a variable, with what it lists TIED to the program's text (the seventh form; the later family's looks); each row that meets fmt, with fmt's text TOLD by the authors' own Lean function (tested against real Go, not proved from fmt's source: count such statements apart). THE CARD IS WHAT COUNTS. Prove the row's statement (the work); the ties are given (YtaelofhhkpacbaaGreatDoorTie.lean); close each card by the builder's one call (the guide's Derived/Test/ToyasCard.lean, 'card_holds'). Laid BY PROGRAM, IN A SANDBOX (cutbox-door.mjs). By AI agents, Wed Nov 11 2026. No macro, syntax, notation, axiom, sorry.
-/
import Derived.Test.YtaelofhhkpacbaaGreatDoorRows
import GoSem.ClaimSeven
namespace Go.Proofs.YtaelofhhkpacbaaGreatDoor
namespace Rows

/-- THE TIED CARD OF 'clusterlockslaw18.WitnessBuilds'. -/
def witnessBuildsCard : Claim7 := { stood := { row := witnessBuildsRow, standIns := [], harness := (true, "b01769592c646a0cf2c86f7b0df4fb0d70e6a3a4943d6d0873bc3aa5bf9c781d"), looks := false }, kinds := [], alts := [], laidByText := true, laidKinds := [.data], laidTests := true, laidLooks := .later }
def WitnessBuildsCardSaid : Prop := Claim7.holds Tryz.pinned (.plain (OpenSpec.ofChange witnessBuildsSpec)) witnessBuildsCard

/-- THE TIED CARD OF 'clusterlockslaw18.WitnessChecks'. -/
def witnessChecksCard : Claim7 := { stood := { row := witnessChecksRow, standIns := [], harness := (true, "b01769592c646a0cf2c86f7b0df4fb0d70e6a3a4943d6d0873bc3aa5bf9c781d"), looks := false }, kinds := [], alts := [], laidByText := true, laidKinds := [.data], laidTests := true, laidLooks := .later }
def WitnessChecksCardSaid : Prop := Claim7.holds Tryz.pinned (.plain (OpenSpec.ofChange witnessChecksSpec)) witnessChecksCard

/-- THE TIED CARD OF 'clusterlockslaw18.WitnessSound'. -/
def witnessSoundCard : Claim7 := { stood := { row := witnessSoundRow, standIns := [], harness := (true, "b01769592c646a0cf2c86f7b0df4fb0d70e6a3a4943d6d0873bc3aa5bf9c781d"), looks := false }, kinds := [], alts := [], laidByText := true, laidKinds := [.data], laidTests := true, laidLooks := .later }
def WitnessSoundCardSaid : Prop := Claim7.holds Tryz.pinned (.plain (OpenSpec.ofChange witnessSoundSpec)) witnessSoundCard

/-- THE SECOND FORM's CARD OF 'clusterlockslaw18.WitnessBuilds'. -/
def witnessBuildsUptoCard : Claim7 := { stood := { row := witnessBuildsUptoRow, standIns := [], harness := (true, "b01769592c646a0cf2c86f7b0df4fb0d70e6a3a4943d6d0873bc3aa5bf9c781d"), looks := false }, kinds := [], alts := [], laidByText := true, laidKinds := [.data], laidTests := true, laidLooks := .later }
def WitnessBuildsUptoCardSaid : Prop := Claim7.holds Tryz.pinned (.plain (OpenSpec.upto witnessBuildsSpec)) witnessBuildsUptoCard

/-- THE SECOND FORM's CARD OF 'clusterlockslaw18.WitnessChecks'. -/
def witnessChecksUptoCard : Claim7 := { stood := { row := witnessChecksUptoRow, standIns := [], harness := (true, "b01769592c646a0cf2c86f7b0df4fb0d70e6a3a4943d6d0873bc3aa5bf9c781d"), looks := false }, kinds := [], alts := [], laidByText := true, laidKinds := [.data], laidTests := true, laidLooks := .later }
def WitnessChecksUptoCardSaid : Prop := Claim7.holds Tryz.pinned (.plain (OpenSpec.upto witnessChecksSpec)) witnessChecksUptoCard

/-- THE SECOND FORM's CARD OF 'clusterlockslaw18.WitnessSound'. -/
def witnessSoundUptoCard : Claim7 := { stood := { row := witnessSoundUptoRow, standIns := [], harness := (true, "b01769592c646a0cf2c86f7b0df4fb0d70e6a3a4943d6d0873bc3aa5bf9c781d"), looks := false }, kinds := [], alts := [], laidByText := true, laidKinds := [.data], laidTests := true, laidLooks := .later }
def WitnessSoundUptoCardSaid : Prop := Claim7.holds Tryz.pinned (.plain (OpenSpec.upto witnessSoundSpec)) witnessSoundUptoCard
end Rows
end Go.Proofs.YtaelofhhkpacbaaGreatDoor
