/-
  DERIVED. GIVEN WITH THE SEED: THE CARDS: each row of YtobcllcndnbmlaaGreatDoorRows.lean that lists a variable, with what it lists TIED to the program's text (the seventh form; the later family's looks); each row that meets fmt, with fmt's text TOLD by the authors' own Lean function (tested against real Go, not proved from fmt's source: count such statements apart). THE CARD IS WHAT COUNTS. Prove the row's statement (the work); the ties are given (YtobcllcndnbmlaaGreatDoorTie.lean); close each card by the builder's one call (the guide's Derived/Test/ToyasCard.lean, 'card_holds'). Laid BY PROGRAM, IN A SANDBOX (cutbox-door.mjs). By AI agents, Wed Nov 11 2026. No macro, syntax, notation, axiom, sorry.
-/
import Derived.Test.YtobcllcndnbmlaaGreatDoorRows
import GoSem.ClaimSeven
namespace Go.Proofs.YtobcllcndnbmlaaGreatDoor
namespace Rows

/-- THE TIED CARD OF 'clusterlockslaw38.SiteNew'. -/
def siteNewCard : Claim7 := { stood := { row := siteNewRow, standIns := [], harness := (true, "35216baec01589464366ac527381fe841dc69a16ede6a11ddaa80639d4b48a80"), looks := true }, kinds := [], alts := [], laidByText := true, laidKinds := [.data, .data, .data], laidTests := true, laidLooks := .later }
def SiteNewCardSaid : Prop := Claim7.holds Tryz.pinned (.plain (OpenSpec.ofChange siteNewSpec)) siteNewCard

/-- THE SECOND FORM's CARD OF 'clusterlockslaw38.SiteNew'. -/
def siteNewUptoCard : Claim7 := { stood := { row := siteNewUptoRow, standIns := [], harness := (true, "35216baec01589464366ac527381fe841dc69a16ede6a11ddaa80639d4b48a80"), looks := true }, kinds := [], alts := [], laidByText := true, laidKinds := [.data, .data, .data], laidTests := true, laidLooks := .later }
def SiteNewUptoCardSaid : Prop := Claim7.holds Tryz.pinned (.plain (OpenSpec.upto siteNewSpec)) siteNewUptoCard
end Rows
end Go.Proofs.YtobcllcndnbmlaaGreatDoor
