/-
  DERIVED. GIVEN WITH THE SEED: THE CARDS: each row of YtdhfblfnejmeiaaGreatDoorRows.lean that lists a variable, with what it lists TIED to the program's text (the seventh form; the later family's looks); each row that meets fmt, with fmt's text TOLD by the authors' own Lean function (tested against real Go, not proved from fmt's source: count such statements apart). THE CARD IS WHAT COUNTS. Prove the row's statement (the work); the ties are given (YtdhfblfnejmeiaaGreatDoorTie.lean); close each card by the builder's one call (the guide's Derived/Test/ToyasCard.lean, 'card_holds'). Laid BY PROGRAM, IN A SANDBOX (cutbox-door.mjs). By AI agents, Wed Nov 11 2026. No macro, syntax, notation, axiom, sorry.
-/
import Derived.Test.YtdhfblfnejmeiaaGreatDoorRows
import GoSem.ClaimSeven
namespace Go.Proofs.YtdhfblfnejmeiaaGreatDoor
namespace Rows

/-- THE TIED CARD OF 'hibernaclelaw29.SysPipes'. -/
def sysPipesCard : Claim7 := { stood := { row := sysPipesRow, standIns := [], harness := (true, "9e2bd5961583c8135b2a31e46a215582a5c97fa9826d5961dbf83ab52b3de943"), looks := true }, kinds := [], alts := [], laidByText := true, laidKinds := [.data, .data], laidTests := true, laidLooks := .later }
def SysPipesCardSaid : Prop := Claim7.holds Tryz.pinned (.plain (OpenSpec.ofChange sysPipesSpec)) sysPipesCard

/-- THE SECOND FORM's CARD OF 'hibernaclelaw29.SysPipes'. -/
def sysPipesUptoCard : Claim7 := { stood := { row := sysPipesUptoRow, standIns := [], harness := (true, "9e2bd5961583c8135b2a31e46a215582a5c97fa9826d5961dbf83ab52b3de943"), looks := true }, kinds := [], alts := [], laidByText := true, laidKinds := [.data, .data], laidTests := true, laidLooks := .later }
def SysPipesUptoCardSaid : Prop := Claim7.holds Tryz.pinned (.plain (OpenSpec.upto sysPipesSpec)) sysPipesUptoCard
end Rows
end Go.Proofs.YtdhfblfnejmeiaaGreatDoor
