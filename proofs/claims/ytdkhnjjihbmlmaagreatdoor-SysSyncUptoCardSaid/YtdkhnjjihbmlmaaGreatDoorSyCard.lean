/-
  PROVED: called with any machine, hibernaclelaw29.SysSync returns true, and it reads as it did.
  CONDITIONS: the argument is of bulk at most 1048576 (the second form); the two tables of the package hash hold what their initialisers lay (the card ties that to the program's text).
-/
import Derived.Test.YtdkhnjjihbmlmaaGreatDoorCards
import Derived.Test.YtdkhnjjihbmlmaaGreatDoorTie
import Derived.Test.YtdkhnjjihbmlmaaGreatDoorSyV
namespace Go.Proofs.YtdkhnjjihbmlmaaGreatDoor.sysSync
open Go.ChangeShapes Go.WideShapes Go.ChangeAt Go.RowKit

theorem cardUpto : Rows.SysSyncUptoCardSaid :=
  Claim7.holds_tied_plain_at .later [] _ _ _ _ saidUpto (fun _ h => by cases h) (by kernel_rfl) (fun _ h => by cases h) sysSyncUpto_row_tie rfl ⟨rfl, rfl⟩ (by kernel_rfl) rfl plain j8
#print axioms cardUpto
end Go.Proofs.YtdkhnjjihbmlmaaGreatDoor.sysSync
