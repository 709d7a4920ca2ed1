/-
  DERIVED. GIVEN WITH THE SEED: THE PROGRAM's TIES (one call each: nine closed facts by the kernel) AND EACH ROW's TIE, after the 31st guide's Derived/Test/Toyas{Tie, Card}.lean. No idea stands in it: it is a product of the set-up. Laid BY PROGRAM, IN A SANDBOX (cutbox-door.mjs). By AI agents, Wed Nov 11 2026. No macro, syntax, notation, axiom, sorry.
-/
import Derived.Test.YtnbphabheikfeaaGreatDoorRows
import Derived.LaidByTextLater
import Derived.SevenTiedAt
import Derived.LaidSub
import Derived.LaidOnce
namespace Go.Proofs.YtnbphabheikfeaaGreatDoor
open Go
set_option maxRecDepth 100000
theorem seatTie1 : Tryz.prog.laidByTextLater [("math/bits.deBruijn32tab", Rows.laid_math_bits_deBruijn32tab), ("math/bits.deBruijn64tab", Rows.laid_math_bits_deBruijn64tab), ("hibernacle/hash.eight", Rows.laid_hibernacle_hash_eight), ("hibernacle/hash.rows", Rows.laid_hibernacle_hash_rows), ("internal/strconv.uint64pow10", Rows.laid_internal_strconv_uint64pow10), ("hibernacle/isa.names", Rows.laid_hibernacle_isa_names), ("hibernacle/cpu.withNumber", Rows.laid_hibernacle_cpu_withNumber)] [.data, .data, .data, .data, .data, .data, .data] true :=
  Program.laidByTextLater_by_one 54 8 161 (by kernel_rfl) (by kernel_rfl) (by kernel_rfl) (by kernel_rfl) (by kernel_rfl) (by kernel_rfl) (fun _ _ => by kernel_rfl)
theorem noOwnUnsafe : Tryz.pinned.checked.prog.headLifts.contains "ownunsafe" = false := by kernel_rfl
theorem tie : Tryz.prog.laidByTextLater [("math/bits.deBruijn32tab", Rows.laid_math_bits_deBruijn32tab), ("math/bits.deBruijn64tab", Rows.laid_math_bits_deBruijn64tab), ("hibernacle/hash.eight", Rows.laid_hibernacle_hash_eight), ("hibernacle/hash.rows", Rows.laid_hibernacle_hash_rows), ("internal/strconv.uint64pow10", Rows.laid_internal_strconv_uint64pow10), ("hibernacle/isa.names", Rows.laid_hibernacle_isa_names), ("hibernacle/cpu.withNumber", Rows.laid_hibernacle_cpu_withNumber)] [.data, .data, .data, .data, .data, .data, .data] true :=
  Program.laidByTextLater.sub seatTie1 ["math/bits.deBruijn32tab", "math/bits.deBruijn64tab", "hibernacle/hash.eight", "hibernacle/hash.rows", "internal/strconv.uint64pow10", "hibernacle/isa.names", "hibernacle/cpu.withNumber"] (by kernel_rfl) (by kernel_rfl)
theorem deltaStep_row_tie : Rows.deltaStepRow.laidByTextAt .later Tryz.pinned [.data, .data, .data, .data, .data, .data, .data] true :=
  OpenClaim.laidByTextAt_later rfl rfl tie noOwnUnsafe
theorem deltaStepUpto_row_tie : Rows.deltaStepUptoRow.laidByTextAt .later Tryz.pinned [.data, .data, .data, .data, .data, .data, .data] true :=
  OpenClaim.laidByTextAt_later rfl rfl tie noOwnUnsafe
end Go.Proofs.YtnbphabheikfeaaGreatDoor
