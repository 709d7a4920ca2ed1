/-
  PROVED: called with any word, any number and any list of signals whatever, hibernaclelaw29.SysKids returns true, and they read as they did.
  CONDITIONS: none on the argument; the two tables of the package hash hold what their initialisers lay (the card ties that to the program's text; the walk does not use it).
-/
import Derived.Test.YtmdciljpcnokcaaGreatDoorCards
import Derived.Test.YtmdciljpcnokcaaGreatDoorTie
import Derived.Test.YtmdciljpcnokcaaGreatDoorKdV
namespace Go.Proofs.YtmdciljpcnokcaaGreatDoor.sysKids
open Go.ChangeShapes Go.WideShapes Go.ChangeAt Go.RowKit

theorem card : Rows.SysKidsCardSaid :=
  Claim7.holds_tied_plain_at .later [] _ _ _ _ said (fun _ h => by cases h) (by kernel_rfl) (fun _ h => by cases h) sysKids_row_tie rfl ⟨rfl, rfl⟩ (by kernel_rfl) rfl plain j8
#print axioms card
end Go.Proofs.YtmdciljpcnokcaaGreatDoor.sysKids
