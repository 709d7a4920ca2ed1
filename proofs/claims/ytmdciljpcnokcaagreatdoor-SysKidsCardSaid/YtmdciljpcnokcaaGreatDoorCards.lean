/-
  DERIVED. GIVEN WITH THE SEED: THE CARDS: each row of YtmdciljpcnokcaaGreatDoorRows.lean that lists a variable, with what it lists TIED to the program's text (the seventh form; the later family's looks); each row that meets fmt, with fmt's text TOLD by the authors' own Lean function (tested against real Go, not proved from fmt's source: count such statements apart). THE CARD IS WHAT COUNTS. Prove the row's statement (the work); the ties are given (YtmdciljpcnokcaaGreatDoorTie.lean); close each card by the builder's one call (the guide's Derived/Test/ToyasCard.lean, 'card_holds'). Laid BY PROGRAM, IN A SANDBOX (cutbox-door.mjs). By AI agents, Wed Nov 11 2026. No macro, syntax, notation, axiom, sorry.
-/
import Derived.Test.YtmdciljpcnokcaaGreatDoorRows
import GoSem.ClaimSeven
namespace Go.Proofs.YtmdciljpcnokcaaGreatDoor
namespace Rows

/-- THE TIED CARD OF 'hibernaclelaw29.SysTalk'. -/
def sysTalkCard : Claim7 := { stood := { row := sysTalkRow, standIns := [], harness := (true, "0e236b041df8a1f01b1c902652e89a0eb981d62665c49b7058a1f689d446b537"), looks := true }, kinds := [], alts := [], laidByText := true, laidKinds := [.data, .data], laidTests := true, laidLooks := .later }
def SysTalkCardSaid : Prop := Claim7.holds Tryz.pinned (.plain (OpenSpec.ofChange sysTalkSpec)) sysTalkCard

/-- THE TIED CARD OF 'hibernaclelaw29.SysKids'. -/
def sysKidsCard : Claim7 := { stood := { row := sysKidsRow, standIns := [], harness := (true, "0e236b041df8a1f01b1c902652e89a0eb981d62665c49b7058a1f689d446b537"), looks := true }, kinds := [], alts := [], laidByText := true, laidKinds := [.data, .data], laidTests := true, laidLooks := .later }
def SysKidsCardSaid : Prop := Claim7.holds Tryz.pinned (.plain (OpenSpec.ofChange sysKidsSpec)) sysKidsCard

/-- THE SECOND FORM's CARD OF 'hibernaclelaw29.SysTalk'. -/
def sysTalkUptoCard : Claim7 := { stood := { row := sysTalkUptoRow, standIns := [], harness := (true, "0e236b041df8a1f01b1c902652e89a0eb981d62665c49b7058a1f689d446b537"), looks := true }, kinds := [], alts := [], laidByText := true, laidKinds := [.data, .data], laidTests := true, laidLooks := .later }
def SysTalkUptoCardSaid : Prop := Claim7.holds Tryz.pinned (.plain (OpenSpec.upto sysTalkSpec)) sysTalkUptoCard

/-- THE SECOND FORM's CARD OF 'hibernaclelaw29.SysKids'. -/
def sysKidsUptoCard : Claim7 := { stood := { row := sysKidsUptoRow, standIns := [], harness := (true, "0e236b041df8a1f01b1c902652e89a0eb981d62665c49b7058a1f689d446b537"), looks := true }, kinds := [], alts := [], laidByText := true, laidKinds := [.data, .data], laidTests := true, laidLooks := .later }
def SysKidsUptoCardSaid : Prop := Claim7.holds Tryz.pinned (.plain (OpenSpec.upto sysKidsSpec)) sysKidsUptoCard
end Rows
end Go.Proofs.YtmdciljpcnokcaaGreatDoor
