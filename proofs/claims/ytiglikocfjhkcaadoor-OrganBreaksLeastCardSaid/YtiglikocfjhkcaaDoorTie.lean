/-
  DERIVED. GIVEN WITH THE SEED: THE PROGRAM's TIES (one call each: nine closed facts by the kernel) AND EACH ROW's TIE, after the 31st guide's Derived/Test/Toyas{Tie, Card}.lean. No idea stands in it: it is a product of the set-up. Laid BY PROGRAM, IN A SANDBOX (cutbox-door.mjs). By AI agents, Wed Nov 11 2026. No macro, syntax, notation, axiom, sorry.
-/
import Derived.Test.YtiglikocfjhkcaaDoorRows
import Derived.LaidByTextLater
import Derived.SevenTiedAt
import Derived.LaidSub
import Derived.LaidOnce
namespace Go.Proofs.YtiglikocfjhkcaaDoor
open Go
set_option maxRecDepth 100000
theorem seatTie1 : Tryd.prog.laidByTextLater [("ramet/cells.growing", Rows.laid_ramet_cells_growing), ("ramet/cells.grown", Rows.laid_ramet_cells_grown)] [.data, .data] true :=
  Program.laidByTextLater_by_one 28 8 19 (by kernel_rfl) (by kernel_rfl) (by kernel_rfl) (by kernel_rfl) (by kernel_rfl) (by kernel_rfl) (fun _ _ => by kernel_rfl)
theorem noOwnUnsafe : Tryd.pinned.checked.prog.headLifts.contains "ownunsafe" = false := by kernel_rfl
theorem tie : Tryd.prog.laidByTextLater [("ramet/cells.growing", Rows.laid_ramet_cells_growing), ("ramet/cells.grown", Rows.laid_ramet_cells_grown)] [.data, .data] true :=
  Program.laidByTextLater.sub seatTie1 ["ramet/cells.growing", "ramet/cells.grown"] (by kernel_rfl) (by kernel_rfl)
theorem organBreaksLeast_row_tie : Rows.organBreaksLeastRow.laidByTextAt .later Tryd.pinned [.data, .data] true :=
  OpenClaim.laidByTextAt_later rfl rfl tie noOwnUnsafe
theorem organProofsSound_row_tie : Rows.organProofsSoundRow.laidByTextAt .later Tryd.pinned [.data, .data] true :=
  OpenClaim.laidByTextAt_later rfl rfl tie noOwnUnsafe
theorem organBreaksLeastUpto_row_tie : Rows.organBreaksLeastUptoRow.laidByTextAt .later Tryd.pinned [.data, .data] true :=
  OpenClaim.laidByTextAt_later rfl rfl tie noOwnUnsafe
theorem organProofsSoundUpto_row_tie : Rows.organProofsSoundUptoRow.laidByTextAt .later Tryd.pinned [.data, .data] true :=
  OpenClaim.laidByTextAt_later rfl rfl tie noOwnUnsafe
end Go.Proofs.YtiglikocfjhkcaaDoor
