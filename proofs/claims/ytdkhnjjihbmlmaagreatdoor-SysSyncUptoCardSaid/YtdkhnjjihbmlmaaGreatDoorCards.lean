/-
  DERIVED. GIVEN WITH THE SEED: THE CARDS: each row of YtdkhnjjihbmlmaaGreatDoorRows.lean that lists a variable, with what it lists TIED to the program's text (the seventh form; the later family's looks); each row that meets fmt, with fmt's text TOLD by the authors' own Lean function (tested against real Go, not proved from fmt's source: count such statements apart). THE CARD IS WHAT COUNTS. Prove the row's statement (the work); the ties are given (YtdkhnjjihbmlmaaGreatDoorTie.lean); close each card by the builder's one call (the guide's Derived/Test/ToyasCard.lean, 'card_holds'). Laid BY PROGRAM, IN A SANDBOX (cutbox-door.mjs). By AI agents, Wed Nov 11 2026. No macro, syntax, notation, axiom, sorry.
-/
import Derived.Test.YtdkhnjjihbmlmaaGreatDoorRows
import GoSem.ClaimSeven
namespace Go.Proofs.YtdkhnjjihbmlmaaGreatDoor
namespace Rows

/-- THE TIED CARD OF 'hibernaclelaw29.SysSync'. -/
def sysSyncCard : Claim7 := { stood := { row := sysSyncRow, standIns := [], harness := (true, "c6dd452369ef381b72b77ddbca43815d8abd7fc8857af98bd672cf76b3fc77e5"), looks := true }, kinds := [], alts := [], laidByText := true, laidKinds := [.data, .data], laidTests := true, laidLooks := .later }
def SysSyncCardSaid : Prop := Claim7.holds Tryz.pinned (.plain (OpenSpec.ofChange sysSyncSpec)) sysSyncCard

/-- THE SECOND FORM's CARD OF 'hibernaclelaw29.SysSync'. -/
def sysSyncUptoCard : Claim7 := { stood := { row := sysSyncUptoRow, standIns := [], harness := (true, "c6dd452369ef381b72b77ddbca43815d8abd7fc8857af98bd672cf76b3fc77e5"), looks := true }, kinds := [], alts := [], laidByText := true, laidKinds := [.data, .data], laidTests := true, laidLooks := .later }
def SysSyncUptoCardSaid : Prop := Claim7.holds Tryz.pinned (.plain (OpenSpec.upto sysSyncSpec)) sysSyncUptoCard
end Rows
end Go.Proofs.YtdkhnjjihbmlmaaGreatDoor
