/-
  PROVED: called with any text whatever, hibernaclelaw29.SysTalk returns true, and the text reads as it did.
  CONDITIONS: none on the argument; the two tables of the package hash hold what their initialisers lay (the card ties that to the program's text; the walk does not use it).
-/
import Derived.Test.YtmdciljpcnokcaaGreatDoorCards
import Derived.Test.YtmdciljpcnokcaaGreatDoorTie
import Derived.Test.YtmdciljpcnokcaaGreatDoorEzV
namespace Go.Proofs.YtmdciljpcnokcaaGreatDoor.sysTalk
open Go.ChangeShapes Go.WideShapes Go.ChangeAt Go.RowKit

theorem card : Rows.SysTalkCardSaid :=
  Claim7.holds_tied_plain_at .later [] _ _ _ _ said (fun _ h => by cases h) (by kernel_rfl) (fun _ h => by cases h) sysTalk_row_tie rfl ⟨rfl, rfl⟩ (by kernel_rfl) rfl plain j8
#print axioms card
end Go.Proofs.YtmdciljpcnokcaaGreatDoor.sysTalk
