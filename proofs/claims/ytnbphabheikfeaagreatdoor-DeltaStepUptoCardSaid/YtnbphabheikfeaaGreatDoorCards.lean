/-
  DERIVED. GIVEN WITH THE SEED: THE CARDS: each row of YtnbphabheikfeaaGreatDoorRows.lean that lists a variable, with what it lists TIED to the program's text (the seventh form; the later family's looks); each row that meets fmt, with fmt's text TOLD by the authors' own Lean function (tested against real Go, not proved from fmt's source: count such statements apart). THE CARD IS WHAT COUNTS. Prove the row's statement (the work); the ties are given (YtnbphabheikfeaaGreatDoorTie.lean); close each card by the builder's one call (the guide's Derived/Test/ToyasCard.lean, 'card_holds'). Laid BY PROGRAM, IN A SANDBOX (cutbox-door.mjs). By AI agents, Wed Nov 11 2026. No macro, syntax, notation, axiom, sorry.
-/
import Derived.Test.YtnbphabheikfeaaGreatDoorRows
import GoSem.ClaimSeven
namespace Go.Proofs.YtnbphabheikfeaaGreatDoor
namespace Rows

/-- THE TIED CARD OF 'hibernaclelaw35.DeltaStep'. -/
def deltaStepCard : Claim7 := { stood := { row := deltaStepRow, standIns := [], harness := (true, "4ea192d774efbf80a3fbb48d45f2565837942e9a2aa254510b829d0d0c84bfd1"), looks := true }, kinds := [], alts := [], laidByText := true, laidKinds := [.data, .data, .data, .data, .data, .data, .data], laidTests := true, laidLooks := .later }
def DeltaStepCardSaid : Prop := Claim7.holds Tryz.pinned (.plain (OpenSpec.ofChange deltaStepSpec)) deltaStepCard

/-- THE SECOND FORM's CARD OF 'hibernaclelaw35.DeltaStep'. -/
def deltaStepUptoCard : Claim7 := { stood := { row := deltaStepUptoRow, standIns := [], harness := (true, "4ea192d774efbf80a3fbb48d45f2565837942e9a2aa254510b829d0d0c84bfd1"), looks := true }, kinds := [], alts := [], laidByText := true, laidKinds := [.data, .data, .data, .data, .data, .data, .data], laidTests := true, laidLooks := .later }
def DeltaStepUptoCardSaid : Prop := Claim7.holds Tryz.pinned (.plain (OpenSpec.upto deltaStepSpec)) deltaStepUptoCard
end Rows
end Go.Proofs.YtnbphabheikfeaaGreatDoor
