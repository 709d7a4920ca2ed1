/-
  PROVED: called with any recording and any bytes, hibernaclelaw33.RecordBytes returns true, and the recording reads as it did.
  CONDITIONS: the arguments are together of bulk at most 1048576 (the second form); the tables of the packages hash, math/bits, cpu and strconv and the two errors of strconv hold what their initialisers lay (the card ties that to the program's text).
-/
import Derived.Test.YtdlnmdbonagchaaGreatDoorCards
import Derived.Test.YtdlnmdbonagchaaGreatDoorTie
import Derived.Test.YtdlnmdbonagchaaGreatDoorRcV
namespace Go.Proofs.YtdlnmdbonagchaaGreatDoor.recordBytes
open Go.ChangeShapes Go.WideShapes Go.ChangeAt Go.RowKit

theorem cardUpto : Rows.RecordBytesUptoCardSaid :=
  Claim7.holds_tied_plain_at .later [] _ _ _ _ saidUpto (fun _ h => by cases h) (by kernel_rfl) (fun _ h => by cases h) recordBytesUpto_row_tie rfl ⟨rfl, rfl⟩ (by kernel_rfl) rfl plain j8
#print axioms cardUpto
end Go.Proofs.YtdlnmdbonagchaaGreatDoor.recordBytes
