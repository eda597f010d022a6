/-
  DERIVED. GIVEN WITH THE SEED: THE CARDS: each row of YthniflakjkbpiaaDoorRows.lean that lists a variable, with what it lists TIED to the program's text (the seventh form; the later family's looks); each row that meets fmt, with fmt's text TOLD by the authors' own Lean function (tested against real Go, not proved from fmt's source: count such statements apart). THE CARD IS WHAT COUNTS. Prove the row's statement (the work); the ties are given (YthniflakjkbpiaaDoorTie.lean); close each card by the builder's one call (the guide's Derived/Test/ToyasCard.lean, 'card_holds'). Laid BY PROGRAM, IN A SANDBOX (cutbox-door.mjs). By AI agents, Wed Nov 11 2026. No macro, syntax, notation, axiom, sorry.
-/
import Derived.Test.YthniflakjkbpiaaDoorRows
import GoSem.ClaimSeven
namespace Go.Proofs.YthniflakjkbpiaaDoor
namespace Rows

/-- THE TIED CARD OF 'sortitionlaw04.PrattProducts'. -/
def prattProductsCard : Claim7 := { stood := { row := prattProductsRow, standIns := [], harness := (true, "d6fd0221c7607638c6de01627ed1fcc30b73d6402be09b7e20b559a491633f88"), looks := false }, kinds := [], alts := [], laidByText := true, laidKinds := [.data], laidTests := true, laidLooks := .later }
def PrattProductsCardSaid : Prop := Claim7.holds Tryd.pinned (.plain (OpenSpec.ofChange prattProductsSpec)) prattProductsCard

/-- THE TIED CARD OF 'sortitionlaw04.PrattSteps'. -/
def prattStepsCard : Claim7 := { stood := { row := prattStepsRow, standIns := [], harness := (true, "d6fd0221c7607638c6de01627ed1fcc30b73d6402be09b7e20b559a491633f88"), looks := false }, kinds := [], alts := [], laidByText := true, laidKinds := [.data], laidTests := true, laidLooks := .later }
def PrattStepsCardSaid : Prop := Claim7.holds Tryd.pinned (.plain (OpenSpec.ofChange prattStepsSpec)) prattStepsCard

/-- THE TIED CARD OF 'sortitionlaw04.PrattChecks'. -/
def prattChecksCard : Claim7 := { stood := { row := prattChecksRow, standIns := [], harness := (true, "d6fd0221c7607638c6de01627ed1fcc30b73d6402be09b7e20b559a491633f88"), looks := false }, kinds := [], alts := [], laidByText := true, laidKinds := [.data], laidTests := true, laidLooks := .later }
def PrattChecksCardSaid : Prop := Claim7.holds Tryd.pinned (.plain (OpenSpec.ofChange prattChecksSpec)) prattChecksCard

/-- THE TIED CARD OF 'sortitionlaw04.PrattPrime'. -/
def prattPrimeCard : Claim7 := { stood := { row := prattPrimeRow, standIns := [], harness := (true, "d6fd0221c7607638c6de01627ed1fcc30b73d6402be09b7e20b559a491633f88"), looks := false }, kinds := [], alts := [], laidByText := true, laidKinds := [.data], laidTests := true, laidLooks := .later }
def PrattPrimeCardSaid : Prop := Claim7.holds Tryd.pinned (.plain (OpenSpec.ofChange prattPrimeSpec)) prattPrimeCard

/-- THE TIED CARD OF 'sortitionlaw04.PrattMore'. -/
def prattMoreCard : Claim7 := { stood := { row := prattMoreRow, standIns := [], harness := (true, "d6fd0221c7607638c6de01627ed1fcc30b73d6402be09b7e20b559a491633f88"), looks := false }, kinds := [], alts := [], laidByText := true, laidKinds := [.data], laidTests := true, laidLooks := .later }
def PrattMoreCardSaid : Prop := Claim7.holds Tryd.pinned (.plain (OpenSpec.ofChange prattMoreSpec)) prattMoreCard

/-- THE TIED CARD OF 'sortitionlaw04.PrattTurned'. -/
def prattTurnedCard : Claim7 := { stood := { row := prattTurnedRow, standIns := [], harness := (true, "d6fd0221c7607638c6de01627ed1fcc30b73d6402be09b7e20b559a491633f88"), looks := false }, kinds := [], alts := [], laidByText := true, laidKinds := [.data], laidTests := true, laidLooks := .later }
def PrattTurnedCardSaid : Prop := Claim7.holds Tryd.pinned (.plain (OpenSpec.ofChange prattTurnedSpec)) prattTurnedCard

/-- THE TIED CARD OF 'sortitionlaw04.PrattOdd'. -/
def prattOddCard : Claim7 := { stood := { row := prattOddRow, standIns := [], harness := (true, "d6fd0221c7607638c6de01627ed1fcc30b73d6402be09b7e20b559a491633f88"), looks := false }, kinds := [], alts := [], laidByText := true, laidKinds := [.data], laidTests := true, laidLooks := .later }
def PrattOddCardSaid : Prop := Claim7.holds Tryd.pinned (.plain (OpenSpec.ofChange prattOddSpec)) prattOddCard

/-- THE SECOND FORM's CARD OF 'sortitionlaw04.PrattProducts'. -/
def prattProductsUptoCard : Claim7 := { stood := { row := prattProductsUptoRow, standIns := [], harness := (true, "d6fd0221c7607638c6de01627ed1fcc30b73d6402be09b7e20b559a491633f88"), looks := false }, kinds := [], alts := [], laidByText := true, laidKinds := [.data], laidTests := true, laidLooks := .later }
def PrattProductsUptoCardSaid : Prop := Claim7.holds Tryd.pinned (.plain (OpenSpec.upto prattProductsSpec)) prattProductsUptoCard

/-- THE SECOND FORM's CARD OF 'sortitionlaw04.PrattSteps'. -/
def prattStepsUptoCard : Claim7 := { stood := { row := prattStepsUptoRow, standIns := [], harness := (true, "d6fd0221c7607638c6de01627ed1fcc30b73d6402be09b7e20b559a491633f88"), looks := false }, kinds := [], alts := [], laidByText := true, laidKinds := [.data], laidTests := true, laidLooks := .later }
def PrattStepsUptoCardSaid : Prop := Claim7.holds Tryd.pinned (.plain (OpenSpec.upto prattStepsSpec)) prattStepsUptoCard

/-- THE SECOND FORM's CARD OF 'sortitionlaw04.PrattChecks'. -/
def prattChecksUptoCard : Claim7 := { stood := { row := prattChecksUptoRow, standIns := [], harness := (true, "d6fd0221c7607638c6de01627ed1fcc30b73d6402be09b7e20b559a491633f88"), looks := false }, kinds := [], alts := [], laidByText := true, laidKinds := [.data], laidTests := true, laidLooks := .later }
def PrattChecksUptoCardSaid : Prop := Claim7.holds Tryd.pinned (.plain (OpenSpec.upto prattChecksSpec)) prattChecksUptoCard

/-- THE SECOND FORM's CARD OF 'sortitionlaw04.PrattPrime'. -/
def prattPrimeUptoCard : Claim7 := { stood := { row := prattPrimeUptoRow, standIns := [], harness := (true, "d6fd0221c7607638c6de01627ed1fcc30b73d6402be09b7e20b559a491633f88"), looks := false }, kinds := [], alts := [], laidByText := true, laidKinds := [.data], laidTests := true, laidLooks := .later }
def PrattPrimeUptoCardSaid : Prop := Claim7.holds Tryd.pinned (.plain (OpenSpec.upto prattPrimeSpec)) prattPrimeUptoCard

/-- THE SECOND FORM's CARD OF 'sortitionlaw04.PrattMore'. -/
def prattMoreUptoCard : Claim7 := { stood := { row := prattMoreUptoRow, standIns := [], harness := (true, "d6fd0221c7607638c6de01627ed1fcc30b73d6402be09b7e20b559a491633f88"), looks := false }, kinds := [], alts := [], laidByText := true, laidKinds := [.data], laidTests := true, laidLooks := .later }
def PrattMoreUptoCardSaid : Prop := Claim7.holds Tryd.pinned (.plain (OpenSpec.upto prattMoreSpec)) prattMoreUptoCard

/-- THE SECOND FORM's CARD OF 'sortitionlaw04.PrattTurned'. -/
def prattTurnedUptoCard : Claim7 := { stood := { row := prattTurnedUptoRow, standIns := [], harness := (true, "d6fd0221c7607638c6de01627ed1fcc30b73d6402be09b7e20b559a491633f88"), looks := false }, kinds := [], alts := [], laidByText := true, laidKinds := [.data], laidTests := true, laidLooks := .later }
def PrattTurnedUptoCardSaid : Prop := Claim7.holds Tryd.pinned (.plain (OpenSpec.upto prattTurnedSpec)) prattTurnedUptoCard

/-- THE SECOND FORM's CARD OF 'sortitionlaw04.PrattOdd'. -/
def prattOddUptoCard : Claim7 := { stood := { row := prattOddUptoRow, standIns := [], harness := (true, "d6fd0221c7607638c6de01627ed1fcc30b73d6402be09b7e20b559a491633f88"), looks := false }, kinds := [], alts := [], laidByText := true, laidKinds := [.data], laidTests := true, laidLooks := .later }
def PrattOddUptoCardSaid : Prop := Claim7.holds Tryd.pinned (.plain (OpenSpec.upto prattOddSpec)) prattOddUptoCard
end Rows
end Go.Proofs.YthniflakjkbpiaaDoor
