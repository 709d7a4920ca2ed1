/-
  DERIVED. GIVEN WITH THE SEED: THE CARDS: each row of YtdlnmdbonagchaaGreatDoorRows.lean that lists a variable, with what it lists TIED to the program's text (the seventh form; the later family's looks); each row that meets fmt, with fmt's text TOLD by the authors' own Lean function (tested against real Go, not proved from fmt's source: count such statements apart). THE CARD IS WHAT COUNTS. Prove the row's statement (the work); the ties are given (YtdlnmdbonagchaaGreatDoorTie.lean); close each card by the builder's one call (the guide's Derived/Test/ToyasCard.lean, 'card_holds'). Laid BY PROGRAM, IN A SANDBOX (cutbox-door.mjs). By AI agents, Wed Nov 11 2026. No macro, syntax, notation, axiom, sorry.
-/
import Derived.Test.YtdlnmdbonagchaaGreatDoorRows
import GoSem.ClaimSeven
namespace Go.Proofs.YtdlnmdbonagchaaGreatDoor
namespace Rows

/-- THE TIED CARD OF 'hibernaclelaw33.RecordBytes'. -/
def recordBytesCard : Claim7 := { stood := { row := recordBytesRow, standIns := [], harness := (true, "a3a3a85724c8a8e9b08c9d46f18efcd741ee3b9b33a152451acaf71a09b9810c"), looks := true }, kinds := [], alts := [], laidByText := true, laidKinds := [.data, .data, .data, .data, .data, .sentinel, .sentinel, .data], laidTests := true, laidLooks := .later }
def RecordBytesCardSaid : Prop := Claim7.holds Tryz.pinned (.plain (OpenSpec.ofChange recordBytesSpec)) recordBytesCard

/-- THE SECOND FORM's CARD OF 'hibernaclelaw33.RecordBytes'. -/
def recordBytesUptoCard : Claim7 := { stood := { row := recordBytesUptoRow, standIns := [], harness := (true, "a3a3a85724c8a8e9b08c9d46f18efcd741ee3b9b33a152451acaf71a09b9810c"), looks := true }, kinds := [], alts := [], laidByText := true, laidKinds := [.data, .data, .data, .data, .data, .sentinel, .sentinel, .data], laidTests := true, laidLooks := .later }
def RecordBytesUptoCardSaid : Prop := Claim7.holds Tryz.pinned (.plain (OpenSpec.upto recordBytesSpec)) recordBytesUptoCard
end Rows
end Go.Proofs.YtdlnmdbonagchaaGreatDoor
