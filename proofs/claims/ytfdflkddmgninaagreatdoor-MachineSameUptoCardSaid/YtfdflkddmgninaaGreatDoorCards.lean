/-
  DERIVED. GIVEN WITH THE SEED: THE CARDS: each row of YtfdflkddmgninaaGreatDoorRows.lean that lists a variable, with what it lists TIED to the program's text (the seventh form; the later family's looks); each row that meets fmt, with fmt's text TOLD by the authors' own Lean function (tested against real Go, not proved from fmt's source: count such statements apart). THE CARD IS WHAT COUNTS. Prove the row's statement (the work); the ties are given (YtfdflkddmgninaaGreatDoorTie.lean); close each card by the builder's one call (the guide's Derived/Test/ToyasCard.lean, 'card_holds'). Laid BY PROGRAM, IN A SANDBOX (cutbox-door.mjs). By AI agents, Wed Nov 11 2026. No macro, syntax, notation, axiom, sorry.
-/
import Derived.Test.YtfdflkddmgninaaGreatDoorRows
import GoSem.ClaimSeven
namespace Go.Proofs.YtfdflkddmgninaaGreatDoor
namespace Rows

/-- THE TIED CARD OF 'hibernaclelaw30.MachineSame'. -/
def machineSameCard : Claim7 := { stood := { row := machineSameRow, standIns := [], harness := (true, "d3cdef7bf8e87760c47294c1a9c63794c2d9206fe674d0df100b3f1c11682438"), looks := true }, kinds := [], alts := [], laidByText := true, laidKinds := [.data, .data, .data], laidTests := true, laidLooks := .later }
def MachineSameCardSaid : Prop := Claim7.holds Tryz.pinned (.plain (OpenSpec.ofChange machineSameSpec)) machineSameCard

/-- THE TIED CARD OF 'hibernaclelaw30.MachineFeeds'. -/
def machineFeedsCard : Claim7 := { stood := { row := machineFeedsRow, standIns := [], harness := (true, "d3cdef7bf8e87760c47294c1a9c63794c2d9206fe674d0df100b3f1c11682438"), looks := true }, kinds := [], alts := [], laidByText := true, laidKinds := [.data, .data, .data], laidTests := true, laidLooks := .later }
def MachineFeedsCardSaid : Prop := Claim7.holds Tryz.pinned (.plain (OpenSpec.ofChange machineFeedsSpec)) machineFeedsCard

/-- THE SECOND FORM's CARD OF 'hibernaclelaw30.MachineSame'. -/
def machineSameUptoCard : Claim7 := { stood := { row := machineSameUptoRow, standIns := [], harness := (true, "d3cdef7bf8e87760c47294c1a9c63794c2d9206fe674d0df100b3f1c11682438"), looks := true }, kinds := [], alts := [], laidByText := true, laidKinds := [.data, .data, .data], laidTests := true, laidLooks := .later }
def MachineSameUptoCardSaid : Prop := Claim7.holds Tryz.pinned (.plain (OpenSpec.upto machineSameSpec)) machineSameUptoCard

/-- THE SECOND FORM's CARD OF 'hibernaclelaw30.MachineFeeds'. -/
def machineFeedsUptoCard : Claim7 := { stood := { row := machineFeedsUptoRow, standIns := [], harness := (true, "d3cdef7bf8e87760c47294c1a9c63794c2d9206fe674d0df100b3f1c11682438"), looks := true }, kinds := [], alts := [], laidByText := true, laidKinds := [.data, .data, .data], laidTests := true, laidLooks := .later }
def MachineFeedsUptoCardSaid : Prop := Claim7.holds Tryz.pinned (.plain (OpenSpec.upto machineFeedsSpec)) machineFeedsUptoCard
end Rows
end Go.Proofs.YtfdflkddmgninaaGreatDoor
