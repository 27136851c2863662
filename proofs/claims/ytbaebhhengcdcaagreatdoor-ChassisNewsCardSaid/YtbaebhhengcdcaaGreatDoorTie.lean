/-
  DERIVED. GIVEN WITH THE SEED: THE PROGRAM's TIES (one call each: nine closed facts by the kernel) AND EACH ROW's TIE, after the 31st guide's Derived/Test/Toyas{Tie, Card}.lean. No idea stands in it: it is a product of the set-up. Laid BY PROGRAM, IN A SANDBOX (cutbox-door.mjs). By AI agents, Wed Nov 11 2026. No macro, syntax, notation, axiom, sorry.
-/
import Derived.Test.YtbaebhhengcdcaaGreatDoorRows
import Derived.LaidByTextLater
import Derived.SevenTiedAt
import Derived.LaidSub
import Derived.LaidOnce
namespace Go.Proofs.YtbaebhhengcdcaaGreatDoor
open Go
set_option maxRecDepth 100000
theorem seatTie1 : Tryz.prog.laidByTextLater [("gemel/control.has", Rows.laid_gemel_control_has), ("bytes.ErrTooLarge", Rows.laid_bytes_ErrTooLarge)] [.data, .sentinel] true :=
  Program.laidByTextLater_by_one 33 8 10 (by kernel_rfl) (by kernel_rfl) (by kernel_rfl) (by kernel_rfl) (by kernel_rfl) (by kernel_rfl) (fun _ _ => by kernel_rfl)
theorem noOwnUnsafe : Tryz.pinned.checked.prog.headLifts.contains "ownunsafe" = false := by kernel_rfl
theorem tie : Tryz.prog.laidByTextLater [("gemel/control.has", Rows.laid_gemel_control_has), ("bytes.ErrTooLarge", Rows.laid_bytes_ErrTooLarge)] [.data, .sentinel] true :=
  Program.laidByTextLater.sub seatTie1 ["gemel/control.has", "bytes.ErrTooLarge"] (by kernel_rfl) (by kernel_rfl)
theorem chassisNews_row_tie : Rows.chassisNewsRow.laidByTextAt .later Tryz.pinned [.data, .sentinel] true :=
  OpenClaim.laidByTextAt_later rfl rfl tie noOwnUnsafe
theorem chassisRelays_row_tie : Rows.chassisRelaysRow.laidByTextAt .later Tryz.pinned [.data, .sentinel] true :=
  OpenClaim.laidByTextAt_later rfl rfl tie noOwnUnsafe
theorem chassisLinks_row_tie : Rows.chassisLinksRow.laidByTextAt .later Tryz.pinned [.data, .sentinel] true :=
  OpenClaim.laidByTextAt_later rfl rfl tie noOwnUnsafe
theorem chassisTold_row_tie : Rows.chassisToldRow.laidByTextAt .later Tryz.pinned [.data, .sentinel] true :=
  OpenClaim.laidByTextAt_later rfl rfl tie noOwnUnsafe
theorem chassisSends_row_tie : Rows.chassisSendsRow.laidByTextAt .later Tryz.pinned [.data, .sentinel] true :=
  OpenClaim.laidByTextAt_later rfl rfl tie noOwnUnsafe
theorem chassisScripts_row_tie : Rows.chassisScriptsRow.laidByTextAt .later Tryz.pinned [.data, .sentinel] true :=
  OpenClaim.laidByTextAt_later rfl rfl tie noOwnUnsafe
theorem chassisNewsUpto_row_tie : Rows.chassisNewsUptoRow.laidByTextAt .later Tryz.pinned [.data, .sentinel] true :=
  OpenClaim.laidByTextAt_later rfl rfl tie noOwnUnsafe
theorem chassisRelaysUpto_row_tie : Rows.chassisRelaysUptoRow.laidByTextAt .later Tryz.pinned [.data, .sentinel] true :=
  OpenClaim.laidByTextAt_later rfl rfl tie noOwnUnsafe
theorem chassisLinksUpto_row_tie : Rows.chassisLinksUptoRow.laidByTextAt .later Tryz.pinned [.data, .sentinel] true :=
  OpenClaim.laidByTextAt_later rfl rfl tie noOwnUnsafe
theorem chassisToldUpto_row_tie : Rows.chassisToldUptoRow.laidByTextAt .later Tryz.pinned [.data, .sentinel] true :=
  OpenClaim.laidByTextAt_later rfl rfl tie noOwnUnsafe
theorem chassisSendsUpto_row_tie : Rows.chassisSendsUptoRow.laidByTextAt .later Tryz.pinned [.data, .sentinel] true :=
  OpenClaim.laidByTextAt_later rfl rfl tie noOwnUnsafe
theorem chassisScriptsUpto_row_tie : Rows.chassisScriptsUptoRow.laidByTextAt .later Tryz.pinned [.data, .sentinel] true :=
  OpenClaim.laidByTextAt_later rfl rfl tie noOwnUnsafe
end Go.Proofs.YtbaebhhengcdcaaGreatDoor
