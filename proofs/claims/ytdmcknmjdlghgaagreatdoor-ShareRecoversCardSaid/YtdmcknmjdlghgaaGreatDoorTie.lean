/-
  DERIVED. GIVEN WITH THE SEED: THE PROGRAM's TIES (one call each: nine closed facts by the kernel) AND EACH ROW's TIE, after the 31st guide's Derived/Test/Toyas{Tie, Card}.lean. No idea stands in it: it is a product of the set-up. Laid BY PROGRAM, IN A SANDBOX (cutbox-door.mjs). By AI agents, Wed Nov 11 2026. No macro, syntax, notation, axiom, sorry.
-/
import Derived.Test.YtdmcknmjdlghgaaGreatDoorRows
import Derived.LaidByTextLater
import Derived.SevenTiedAt
import Derived.LaidSub
import Derived.LaidOnce
namespace Go.Proofs.YtdmcknmjdlghgaaGreatDoor
open Go
set_option maxRecDepth 100000
theorem seatTie1 : Tryz.prog.laidByTextLater [("sortition/pratt.least", Rows.laid_sortition_pratt_least), ("sortition/group.one", Rows.laid_sortition_group_one), ("sortition/group.two", Rows.laid_sortition_group_two), ("sortition/group.low", Rows.laid_sortition_group_low)] [.data, .data, .data, .data] true :=
  Program.laidByTextLater_by_one 29 8 5 (by kernel_rfl) (by kernel_rfl) (by kernel_rfl) (by kernel_rfl) (by kernel_rfl) (by kernel_rfl) (fun _ _ => by kernel_rfl)
theorem noOwnUnsafe : Tryz.pinned.checked.prog.headLifts.contains "ownunsafe" = false := by kernel_rfl
theorem tie : Tryz.prog.laidByTextLater [("sortition/pratt.least", Rows.laid_sortition_pratt_least), ("sortition/group.one", Rows.laid_sortition_group_one), ("sortition/group.two", Rows.laid_sortition_group_two), ("sortition/group.low", Rows.laid_sortition_group_low)] [.data, .data, .data, .data] true :=
  Program.laidByTextLater.sub seatTie1 ["sortition/pratt.least", "sortition/group.one", "sortition/group.two", "sortition/group.low"] (by kernel_rfl) (by kernel_rfl)
theorem shareDeals_row_tie : Rows.shareDealsRow.laidByTextAt .later Tryz.pinned [.data, .data, .data, .data] true :=
  OpenClaim.laidByTextAt_later rfl rfl tie noOwnUnsafe
theorem shareChecks_row_tie : Rows.shareChecksRow.laidByTextAt .later Tryz.pinned [.data, .data, .data, .data] true :=
  OpenClaim.laidByTextAt_later rfl rfl tie noOwnUnsafe
theorem shareRecovers_row_tie : Rows.shareRecoversRow.laidByTextAt .later Tryz.pinned [.data, .data, .data, .data] true :=
  OpenClaim.laidByTextAt_later rfl rfl tie noOwnUnsafe
theorem shareDealsUpto_row_tie : Rows.shareDealsUptoRow.laidByTextAt .later Tryz.pinned [.data, .data, .data, .data] true :=
  OpenClaim.laidByTextAt_later rfl rfl tie noOwnUnsafe
theorem shareChecksUpto_row_tie : Rows.shareChecksUptoRow.laidByTextAt .later Tryz.pinned [.data, .data, .data, .data] true :=
  OpenClaim.laidByTextAt_later rfl rfl tie noOwnUnsafe
theorem shareRecoversUpto_row_tie : Rows.shareRecoversUptoRow.laidByTextAt .later Tryz.pinned [.data, .data, .data, .data] true :=
  OpenClaim.laidByTextAt_later rfl rfl tie noOwnUnsafe
end Go.Proofs.YtdmcknmjdlghgaaGreatDoor
