/-
  DERIVED. GIVEN WITH THE SEED: THE CARDS: each row of YtdmcknmjdlghgaaGreatDoorRows.lean that lists a variable, with what it lists TIED to the program's text (the seventh form; the later family's looks); each row that meets fmt, with fmt's text TOLD by the authors' own Lean function (tested against real Go, not proved from fmt's source: count such statements apart). THE CARD IS WHAT COUNTS. Prove the row's statement (the work); the ties are given (YtdmcknmjdlghgaaGreatDoorTie.lean); close each card by the builder's one call (the guide's Derived/Test/ToyasCard.lean, 'card_holds'). Laid BY PROGRAM, IN A SANDBOX (cutbox-door.mjs). By AI agents, Wed Nov 11 2026. No macro, syntax, notation, axiom, sorry.
-/
import Derived.Test.YtdmcknmjdlghgaaGreatDoorRows
import GoSem.ClaimSeven
namespace Go.Proofs.YtdmcknmjdlghgaaGreatDoor
namespace Rows

/-- THE TIED CARD OF 'sortitionlaw10.ShareDeals'. -/
def shareDealsCard : Claim7 := { stood := { row := shareDealsRow, standIns := [], harness := (true, "4d1337ab7b952341866a422bd73a48d691f1b4b6bec4bd6cabaf6666d0e431b4"), looks := false }, kinds := [], alts := [], laidByText := true, laidKinds := [.data, .data, .data, .data], laidTests := true, laidLooks := .later }
def ShareDealsCardSaid : Prop := Claim7.holds Tryz.pinned (.plain (OpenSpec.ofChange shareDealsSpec)) shareDealsCard

/-- THE TIED CARD OF 'sortitionlaw10.ShareChecks'. -/
def shareChecksCard : Claim7 := { stood := { row := shareChecksRow, standIns := [], harness := (true, "4d1337ab7b952341866a422bd73a48d691f1b4b6bec4bd6cabaf6666d0e431b4"), looks := false }, kinds := [], alts := [], laidByText := true, laidKinds := [.data, .data, .data, .data], laidTests := true, laidLooks := .later }
def ShareChecksCardSaid : Prop := Claim7.holds Tryz.pinned (.plain (OpenSpec.ofChange shareChecksSpec)) shareChecksCard

/-- THE TIED CARD OF 'sortitionlaw10.ShareRecovers'. -/
def shareRecoversCard : Claim7 := { stood := { row := shareRecoversRow, standIns := [], harness := (true, "4d1337ab7b952341866a422bd73a48d691f1b4b6bec4bd6cabaf6666d0e431b4"), looks := false }, kinds := [], alts := [], laidByText := true, laidKinds := [.data, .data, .data, .data], laidTests := true, laidLooks := .later }
def ShareRecoversCardSaid : Prop := Claim7.holds Tryz.pinned (.plain (OpenSpec.ofChange shareRecoversSpec)) shareRecoversCard

/-- THE SECOND FORM's CARD OF 'sortitionlaw10.ShareDeals'. -/
def shareDealsUptoCard : Claim7 := { stood := { row := shareDealsUptoRow, standIns := [], harness := (true, "4d1337ab7b952341866a422bd73a48d691f1b4b6bec4bd6cabaf6666d0e431b4"), looks := false }, kinds := [], alts := [], laidByText := true, laidKinds := [.data, .data, .data, .data], laidTests := true, laidLooks := .later }
def ShareDealsUptoCardSaid : Prop := Claim7.holds Tryz.pinned (.plain (OpenSpec.upto shareDealsSpec)) shareDealsUptoCard

/-- THE SECOND FORM's CARD OF 'sortitionlaw10.ShareChecks'. -/
def shareChecksUptoCard : Claim7 := { stood := { row := shareChecksUptoRow, standIns := [], harness := (true, "4d1337ab7b952341866a422bd73a48d691f1b4b6bec4bd6cabaf6666d0e431b4"), looks := false }, kinds := [], alts := [], laidByText := true, laidKinds := [.data, .data, .data, .data], laidTests := true, laidLooks := .later }
def ShareChecksUptoCardSaid : Prop := Claim7.holds Tryz.pinned (.plain (OpenSpec.upto shareChecksSpec)) shareChecksUptoCard

/-- THE SECOND FORM's CARD OF 'sortitionlaw10.ShareRecovers'. -/
def shareRecoversUptoCard : Claim7 := { stood := { row := shareRecoversUptoRow, standIns := [], harness := (true, "4d1337ab7b952341866a422bd73a48d691f1b4b6bec4bd6cabaf6666d0e431b4"), looks := false }, kinds := [], alts := [], laidByText := true, laidKinds := [.data, .data, .data, .data], laidTests := true, laidLooks := .later }
def ShareRecoversUptoCardSaid : Prop := Claim7.holds Tryz.pinned (.plain (OpenSpec.upto shareRecoversSpec)) shareRecoversUptoCard
end Rows
end Go.Proofs.YtdmcknmjdlghgaaGreatDoor
