/-
  DERIVED. GIVEN WITH THE SEED: THE CARDS: each row of YtabbhaeabcdonaaGreatDoorRows.lean that lists a variable, with what it lists TIED to the program's text (the seventh form; the later family's looks); each row that meets fmt, with fmt's text TOLD by the authors' own Lean function (tested against real Go, not proved from fmt's source: count such statements apart). THE CARD IS WHAT COUNTS. Prove the row's statement (the work); the ties are given (YtabbhaeabcdonaaGreatDoorTie.lean); close each card by the builder's one call (the guide's Derived/Test/ToyasCard.lean, 'card_holds'). Laid BY PROGRAM, IN A SANDBOX (cutbox-door.mjs). By AI agents, Wed Nov 11 2026. No macro, syntax, notation, axiom, sorry.
-/
import Derived.Test.YtabbhaeabcdonaaGreatDoorRows
import GoSem.ClaimSeven
namespace Go.Proofs.YtabbhaeabcdonaaGreatDoor
namespace Rows

/-- THE TIED CARD OF 'clusterlockslaw39.MachineNew'. -/
def machineNewCard : Claim7 := { stood := { row := machineNewRow, standIns := [], harness := (true, "494c2b00986ce290d04972184036011659b3168180438db52b1b090265dcabe1"), looks := true }, kinds := [], alts := [], laidByText := true, laidKinds := [.data, .data, .data], laidTests := true, laidLooks := .later }
def MachineNewCardSaid : Prop := Claim7.holds Tryz.pinned (.plain (OpenSpec.ofChange machineNewSpec)) machineNewCard

/-- THE SECOND FORM's CARD OF 'clusterlockslaw39.MachineNew'. -/
def machineNewUptoCard : Claim7 := { stood := { row := machineNewUptoRow, standIns := [], harness := (true, "494c2b00986ce290d04972184036011659b3168180438db52b1b090265dcabe1"), looks := true }, kinds := [], alts := [], laidByText := true, laidKinds := [.data, .data, .data], laidTests := true, laidLooks := .later }
def MachineNewUptoCardSaid : Prop := Claim7.holds Tryz.pinned (.plain (OpenSpec.upto machineNewSpec)) machineNewUptoCard
end Rows
end Go.Proofs.YtabbhaeabcdonaaGreatDoor
