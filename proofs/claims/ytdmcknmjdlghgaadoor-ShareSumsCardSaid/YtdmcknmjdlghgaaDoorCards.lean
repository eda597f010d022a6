/-
  DERIVED. GIVEN WITH THE SEED: THE CARDS: each row of YtdmcknmjdlghgaaDoorRows.lean that lists a variable, with what it lists TIED to the program's text (the seventh form; the later family's looks); each row that meets fmt, with fmt's text TOLD by the authors' own Lean function (tested against real Go, not proved from fmt's source: count such statements apart). THE CARD IS WHAT COUNTS. Prove the row's statement (the work); the ties are given (YtdmcknmjdlghgaaDoorTie.lean); close each card by the builder's one call (the guide's Derived/Test/ToyasCard.lean, 'card_holds'). Laid BY PROGRAM, IN A SANDBOX (cutbox-door.mjs). By AI agents, Wed Nov 11 2026. No macro, syntax, notation, axiom, sorry.
-/
import Derived.Test.YtdmcknmjdlghgaaDoorRows
import GoSem.ClaimSeven
namespace Go.Proofs.YtdmcknmjdlghgaaDoor
namespace Rows

/-- THE TIED CARD OF 'sortitionlaw05.GroupFew'. -/
def groupFewCard : Claim7 := { stood := { row := groupFewRow, standIns := [], harness := (true, "3c0b510613646d09c25269a38b34d414a5ed09da696e5a61886c415979359f8c"), looks := false }, kinds := [], alts := [], laidByText := true, laidKinds := [.data, .data, .data, .data], laidTests := true, laidLooks := .later }
def GroupFewCardSaid : Prop := Claim7.holds Tryd.pinned (.plain (OpenSpec.ofChange groupFewSpec)) groupFewCard

/-- THE TIED CARD OF 'sortitionlaw05.GroupBegins'. -/
def groupBeginsCard : Claim7 := { stood := { row := groupBeginsRow, standIns := [], harness := (true, "3c0b510613646d09c25269a38b34d414a5ed09da696e5a61886c415979359f8c"), looks := false }, kinds := [], alts := [], laidByText := true, laidKinds := [.data, .data, .data, .data], laidTests := true, laidLooks := .later }
def GroupBeginsCardSaid : Prop := Claim7.holds Tryd.pinned (.plain (OpenSpec.ofChange groupBeginsSpec)) groupBeginsCard

/-- THE TIED CARD OF 'sortitionlaw05.GroupReckons'. -/
def groupReckonsCard : Claim7 := { stood := { row := groupReckonsRow, standIns := [], harness := (true, "3c0b510613646d09c25269a38b34d414a5ed09da696e5a61886c415979359f8c"), looks := false }, kinds := [], alts := [], laidByText := true, laidKinds := [.data, .data, .data, .data], laidTests := true, laidLooks := .later }
def GroupReckonsCardSaid : Prop := Claim7.holds Tryd.pinned (.plain (OpenSpec.ofChange groupReckonsSpec)) groupReckonsCard

/-- THE TIED CARD OF 'sortitionlaw05.GroupBack'. -/
def groupBackCard : Claim7 := { stood := { row := groupBackRow, standIns := [], harness := (true, "3c0b510613646d09c25269a38b34d414a5ed09da696e5a61886c415979359f8c"), looks := false }, kinds := [], alts := [], laidByText := true, laidKinds := [.data, .data, .data, .data], laidTests := true, laidLooks := .later }
def GroupBackCardSaid : Prop := Claim7.holds Tryd.pinned (.plain (OpenSpec.ofChange groupBackSpec)) groupBackCard

/-- THE TIED CARD OF 'sortitionlaw05.GroupTurned'. -/
def groupTurnedCard : Claim7 := { stood := { row := groupTurnedRow, standIns := [], harness := (true, "3c0b510613646d09c25269a38b34d414a5ed09da696e5a61886c415979359f8c"), looks := false }, kinds := [], alts := [], laidByText := true, laidKinds := [.data, .data, .data, .data], laidTests := true, laidLooks := .later }
def GroupTurnedCardSaid : Prop := Claim7.holds Tryd.pinned (.plain (OpenSpec.ofChange groupTurnedSpec)) groupTurnedCard

/-- THE TIED CARD OF 'sortitionlaw05.GroupSums'. -/
def groupSumsCard : Claim7 := { stood := { row := groupSumsRow, standIns := [], harness := (true, "3c0b510613646d09c25269a38b34d414a5ed09da696e5a61886c415979359f8c"), looks := false }, kinds := [], alts := [], laidByText := true, laidKinds := [.data, .data, .data, .data], laidTests := true, laidLooks := .later }
def GroupSumsCardSaid : Prop := Claim7.holds Tryd.pinned (.plain (OpenSpec.ofChange groupSumsSpec)) groupSumsCard

/-- THE TIED CARD OF 'sortitionlaw10.ShareBinds'. -/
def shareBindsCard : Claim7 := { stood := { row := shareBindsRow, standIns := [], harness := (true, "3c0b510613646d09c25269a38b34d414a5ed09da696e5a61886c415979359f8c"), looks := false }, kinds := [], alts := [], laidByText := true, laidKinds := [.data, .data, .data, .data], laidTests := true, laidLooks := .later }
def ShareBindsCardSaid : Prop := Claim7.holds Tryd.pinned (.plain (OpenSpec.ofChange shareBindsSpec)) shareBindsCard

/-- THE TIED CARD OF 'sortitionlaw10.ShareTurned'. -/
def shareTurnedCard : Claim7 := { stood := { row := shareTurnedRow, standIns := [], harness := (true, "3c0b510613646d09c25269a38b34d414a5ed09da696e5a61886c415979359f8c"), looks := false }, kinds := [], alts := [], laidByText := true, laidKinds := [.data, .data, .data, .data], laidTests := true, laidLooks := .later }
def ShareTurnedCardSaid : Prop := Claim7.holds Tryd.pinned (.plain (OpenSpec.ofChange shareTurnedSpec)) shareTurnedCard

/-- THE TIED CARD OF 'sortitionlaw10.ShareFlat'. -/
def shareFlatCard : Claim7 := { stood := { row := shareFlatRow, standIns := [], harness := (true, "3c0b510613646d09c25269a38b34d414a5ed09da696e5a61886c415979359f8c"), looks := false }, kinds := [], alts := [], laidByText := true, laidKinds := [.data, .data, .data, .data], laidTests := true, laidLooks := .later }
def ShareFlatCardSaid : Prop := Claim7.holds Tryd.pinned (.plain (OpenSpec.ofChange shareFlatSpec)) shareFlatCard

/-- THE TIED CARD OF 'sortitionlaw10.ShareSums'. -/
def shareSumsCard : Claim7 := { stood := { row := shareSumsRow, standIns := [], harness := (true, "3c0b510613646d09c25269a38b34d414a5ed09da696e5a61886c415979359f8c"), looks := false }, kinds := [], alts := [], laidByText := true, laidKinds := [.data, .data, .data, .data], laidTests := true, laidLooks := .later }
def ShareSumsCardSaid : Prop := Claim7.holds Tryd.pinned (.plain (OpenSpec.ofChange shareSumsSpec)) shareSumsCard

/-- THE SECOND FORM's CARD OF 'sortitionlaw05.GroupFew'. -/
def groupFewUptoCard : Claim7 := { stood := { row := groupFewUptoRow, standIns := [], harness := (true, "3c0b510613646d09c25269a38b34d414a5ed09da696e5a61886c415979359f8c"), looks := false }, kinds := [], alts := [], laidByText := true, laidKinds := [.data, .data, .data, .data], laidTests := true, laidLooks := .later }
def GroupFewUptoCardSaid : Prop := Claim7.holds Tryd.pinned (.plain (OpenSpec.upto groupFewSpec)) groupFewUptoCard

/-- THE SECOND FORM's CARD OF 'sortitionlaw05.GroupBegins'. -/
def groupBeginsUptoCard : Claim7 := { stood := { row := groupBeginsUptoRow, standIns := [], harness := (true, "3c0b510613646d09c25269a38b34d414a5ed09da696e5a61886c415979359f8c"), looks := false }, kinds := [], alts := [], laidByText := true, laidKinds := [.data, .data, .data, .data], laidTests := true, laidLooks := .later }
def GroupBeginsUptoCardSaid : Prop := Claim7.holds Tryd.pinned (.plain (OpenSpec.upto groupBeginsSpec)) groupBeginsUptoCard

/-- THE SECOND FORM's CARD OF 'sortitionlaw05.GroupReckons'. -/
def groupReckonsUptoCard : Claim7 := { stood := { row := groupReckonsUptoRow, standIns := [], harness := (true, "3c0b510613646d09c25269a38b34d414a5ed09da696e5a61886c415979359f8c"), looks := false }, kinds := [], alts := [], laidByText := true, laidKinds := [.data, .data, .data, .data], laidTests := true, laidLooks := .later }
def GroupReckonsUptoCardSaid : Prop := Claim7.holds Tryd.pinned (.plain (OpenSpec.upto groupReckonsSpec)) groupReckonsUptoCard

/-- THE SECOND FORM's CARD OF 'sortitionlaw05.GroupBack'. -/
def groupBackUptoCard : Claim7 := { stood := { row := groupBackUptoRow, standIns := [], harness := (true, "3c0b510613646d09c25269a38b34d414a5ed09da696e5a61886c415979359f8c"), looks := false }, kinds := [], alts := [], laidByText := true, laidKinds := [.data, .data, .data, .data], laidTests := true, laidLooks := .later }
def GroupBackUptoCardSaid : Prop := Claim7.holds Tryd.pinned (.plain (OpenSpec.upto groupBackSpec)) groupBackUptoCard

/-- THE SECOND FORM's CARD OF 'sortitionlaw05.GroupTurned'. -/
def groupTurnedUptoCard : Claim7 := { stood := { row := groupTurnedUptoRow, standIns := [], harness := (true, "3c0b510613646d09c25269a38b34d414a5ed09da696e5a61886c415979359f8c"), looks := false }, kinds := [], alts := [], laidByText := true, laidKinds := [.data, .data, .data, .data], laidTests := true, laidLooks := .later }
def GroupTurnedUptoCardSaid : Prop := Claim7.holds Tryd.pinned (.plain (OpenSpec.upto groupTurnedSpec)) groupTurnedUptoCard

/-- THE SECOND FORM's CARD OF 'sortitionlaw05.GroupSums'. -/
def groupSumsUptoCard : Claim7 := { stood := { row := groupSumsUptoRow, standIns := [], harness := (true, "3c0b510613646d09c25269a38b34d414a5ed09da696e5a61886c415979359f8c"), looks := false }, kinds := [], alts := [], laidByText := true, laidKinds := [.data, .data, .data, .data], laidTests := true, laidLooks := .later }
def GroupSumsUptoCardSaid : Prop := Claim7.holds Tryd.pinned (.plain (OpenSpec.upto groupSumsSpec)) groupSumsUptoCard

/-- THE SECOND FORM's CARD OF 'sortitionlaw10.ShareBinds'. -/
def shareBindsUptoCard : Claim7 := { stood := { row := shareBindsUptoRow, standIns := [], harness := (true, "3c0b510613646d09c25269a38b34d414a5ed09da696e5a61886c415979359f8c"), looks := false }, kinds := [], alts := [], laidByText := true, laidKinds := [.data, .data, .data, .data], laidTests := true, laidLooks := .later }
def ShareBindsUptoCardSaid : Prop := Claim7.holds Tryd.pinned (.plain (OpenSpec.upto shareBindsSpec)) shareBindsUptoCard

/-- THE SECOND FORM's CARD OF 'sortitionlaw10.ShareTurned'. -/
def shareTurnedUptoCard : Claim7 := { stood := { row := shareTurnedUptoRow, standIns := [], harness := (true, "3c0b510613646d09c25269a38b34d414a5ed09da696e5a61886c415979359f8c"), looks := false }, kinds := [], alts := [], laidByText := true, laidKinds := [.data, .data, .data, .data], laidTests := true, laidLooks := .later }
def ShareTurnedUptoCardSaid : Prop := Claim7.holds Tryd.pinned (.plain (OpenSpec.upto shareTurnedSpec)) shareTurnedUptoCard

/-- THE SECOND FORM's CARD OF 'sortitionlaw10.ShareFlat'. -/
def shareFlatUptoCard : Claim7 := { stood := { row := shareFlatUptoRow, standIns := [], harness := (true, "3c0b510613646d09c25269a38b34d414a5ed09da696e5a61886c415979359f8c"), looks := false }, kinds := [], alts := [], laidByText := true, laidKinds := [.data, .data, .data, .data], laidTests := true, laidLooks := .later }
def ShareFlatUptoCardSaid : Prop := Claim7.holds Tryd.pinned (.plain (OpenSpec.upto shareFlatSpec)) shareFlatUptoCard

/-- THE SECOND FORM's CARD OF 'sortitionlaw10.ShareSums'. -/
def shareSumsUptoCard : Claim7 := { stood := { row := shareSumsUptoRow, standIns := [], harness := (true, "3c0b510613646d09c25269a38b34d414a5ed09da696e5a61886c415979359f8c"), looks := false }, kinds := [], alts := [], laidByText := true, laidKinds := [.data, .data, .data, .data], laidTests := true, laidLooks := .later }
def ShareSumsUptoCardSaid : Prop := Claim7.holds Tryd.pinned (.plain (OpenSpec.upto shareSumsSpec)) shareSumsUptoCard
end Rows
end Go.Proofs.YtdmcknmjdlghgaaDoor
