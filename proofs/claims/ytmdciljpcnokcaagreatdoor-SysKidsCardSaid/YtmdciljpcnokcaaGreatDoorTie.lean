/-
  DERIVED. GIVEN WITH THE SEED: THE PROGRAM's TIES (one call each: nine closed facts by the kernel) AND EACH ROW's TIE, after the 31st guide's Derived/Test/Toyas{Tie, Card}.lean. No idea stands in it: it is a product of the set-up. Laid BY PROGRAM, IN A SANDBOX (cutbox-door.mjs). By AI agents, Wed Nov 11 2026. No macro, syntax, notation, axiom, sorry.
-/
import Derived.Test.YtmdciljpcnokcaaGreatDoorRows
import Derived.LaidByTextLater
import Derived.SevenTiedAt
import Derived.LaidSub
import Derived.LaidOnce
namespace Go.Proofs.YtmdciljpcnokcaaGreatDoor
open Go
set_option maxRecDepth 100000
theorem seatTie1 : Tryz.prog.laidByTextLater [("hibernacle/hash.eight", Rows.laid_hibernacle_hash_eight), ("hibernacle/hash.rows", Rows.laid_hibernacle_hash_rows)] [.data, .data] true :=
  Program.laidByTextLater_by_one 29 8 161 (by kernel_rfl) (by kernel_rfl) (by kernel_rfl) (by kernel_rfl) (by kernel_rfl) (by kernel_rfl) (fun _ _ => by kernel_rfl)
theorem noOwnUnsafe : Tryz.pinned.checked.prog.headLifts.contains "ownunsafe" = false := by kernel_rfl
theorem tie : Tryz.prog.laidByTextLater [("hibernacle/hash.eight", Rows.laid_hibernacle_hash_eight), ("hibernacle/hash.rows", Rows.laid_hibernacle_hash_rows)] [.data, .data] true :=
  Program.laidByTextLater.sub seatTie1 ["hibernacle/hash.eight", "hibernacle/hash.rows"] (by kernel_rfl) (by kernel_rfl)
theorem sysTalk_row_tie : Rows.sysTalkRow.laidByTextAt .later Tryz.pinned [.data, .data] true :=
  OpenClaim.laidByTextAt_later rfl rfl tie noOwnUnsafe
theorem sysKids_row_tie : Rows.sysKidsRow.laidByTextAt .later Tryz.pinned [.data, .data] true :=
  OpenClaim.laidByTextAt_later rfl rfl tie noOwnUnsafe
theorem sysTalkUpto_row_tie : Rows.sysTalkUptoRow.laidByTextAt .later Tryz.pinned [.data, .data] true :=
  OpenClaim.laidByTextAt_later rfl rfl tie noOwnUnsafe
theorem sysKidsUpto_row_tie : Rows.sysKidsUptoRow.laidByTextAt .later Tryz.pinned [.data, .data] true :=
  OpenClaim.laidByTextAt_later rfl rfl tie noOwnUnsafe
end Go.Proofs.YtmdciljpcnokcaaGreatDoor
