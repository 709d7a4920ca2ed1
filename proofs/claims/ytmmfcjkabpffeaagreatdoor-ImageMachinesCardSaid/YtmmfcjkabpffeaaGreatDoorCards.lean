/-
  DERIVED. GIVEN WITH THE SEED: THE CARDS: each row of YtmmfcjkabpffeaaGreatDoorRows.lean that lists a variable, with what it lists TIED to the program's text (the seventh form; the later family's looks); each row that meets fmt, with fmt's text TOLD by the authors' own Lean function (tested against real Go, not proved from fmt's source: count such statements apart). THE CARD IS WHAT COUNTS. Prove the row's statement (the work); the ties are given (YtmmfcjkabpffeaaGreatDoorTie.lean); close each card by the builder's one call (the guide's Derived/Test/ToyasCard.lean, 'card_holds'). Laid BY PROGRAM, IN A SANDBOX (cutbox-door.mjs). By AI agents, Wed Nov 11 2026. No macro, syntax, notation, axiom, sorry.
-/
import Derived.Test.YtmmfcjkabpffeaaGreatDoorRows
import GoSem.ClaimSeven
namespace Go.Proofs.YtmmfcjkabpffeaaGreatDoor
namespace Rows

/-- THE TIED CARD OF 'hibernaclelaw32.ImageApart'. -/
def imageApartCard : Claim7 := { stood := { row := imageApartRow, standIns := [], harness := (true, "fc075e477a2eb7cdbab0c88c7bbdb19d115f6b07ebd4a42617866cc156c2675b"), looks := true }, kinds := [], alts := [], laidByText := true, laidKinds := [.data, .data, .data], laidTests := true, laidLooks := .later }
def ImageApartCardSaid : Prop := Claim7.holds Tryz.pinned (.plain (OpenSpec.ofChange imageApartSpec)) imageApartCard

/-- THE TIED CARD OF 'hibernaclelaw34.FreezeBegins'. -/
def freezeBeginsCard : Claim7 := { stood := { row := freezeBeginsRow, standIns := [], harness := (true, "fc075e477a2eb7cdbab0c88c7bbdb19d115f6b07ebd4a42617866cc156c2675b"), looks := true }, kinds := [], alts := [], laidByText := true, laidKinds := [.data, .data, .data], laidTests := true, laidLooks := .later }
def FreezeBeginsCardSaid : Prop := Claim7.holds Tryz.pinned (.plain (OpenSpec.ofChange freezeBeginsSpec)) freezeBeginsCard

/-- THE TIED CARD OF 'hibernaclelaw32.ImageMachines'. -/
def imageMachinesCard : Claim7 := { stood := { row := imageMachinesRow, standIns := [], harness := (true, "fc075e477a2eb7cdbab0c88c7bbdb19d115f6b07ebd4a42617866cc156c2675b"), looks := true }, kinds := [], alts := [], laidByText := true, laidKinds := [.data, .data, .data, .sentinel, .sentinel], laidTests := true, laidLooks := .later }
def ImageMachinesCardSaid : Prop := Claim7.holds Tryz.pinned (.plain (OpenSpec.ofChange imageMachinesSpec)) imageMachinesCard

/-- THE TIED CARD OF 'hibernaclelaw32.ImageFed'. -/
def imageFedCard : Claim7 := { stood := { row := imageFedRow, standIns := [], harness := (true, "fc075e477a2eb7cdbab0c88c7bbdb19d115f6b07ebd4a42617866cc156c2675b"), looks := true }, kinds := [], alts := [], laidByText := true, laidKinds := [.data, .data, .data, .sentinel, .sentinel], laidTests := true, laidLooks := .later }
def ImageFedCardSaid : Prop := Claim7.holds Tryz.pinned (.plain (OpenSpec.ofChange imageFedSpec)) imageFedCard

/-- THE SECOND FORM's CARD OF 'hibernaclelaw32.ImageApart'. -/
def imageApartUptoCard : Claim7 := { stood := { row := imageApartUptoRow, standIns := [], harness := (true, "fc075e477a2eb7cdbab0c88c7bbdb19d115f6b07ebd4a42617866cc156c2675b"), looks := true }, kinds := [], alts := [], laidByText := true, laidKinds := [.data, .data, .data], laidTests := true, laidLooks := .later }
def ImageApartUptoCardSaid : Prop := Claim7.holds Tryz.pinned (.plain (OpenSpec.upto imageApartSpec)) imageApartUptoCard

/-- THE SECOND FORM's CARD OF 'hibernaclelaw34.FreezeBegins'. -/
def freezeBeginsUptoCard : Claim7 := { stood := { row := freezeBeginsUptoRow, standIns := [], harness := (true, "fc075e477a2eb7cdbab0c88c7bbdb19d115f6b07ebd4a42617866cc156c2675b"), looks := true }, kinds := [], alts := [], laidByText := true, laidKinds := [.data, .data, .data], laidTests := true, laidLooks := .later }
def FreezeBeginsUptoCardSaid : Prop := Claim7.holds Tryz.pinned (.plain (OpenSpec.upto freezeBeginsSpec)) freezeBeginsUptoCard

/-- THE SECOND FORM's CARD OF 'hibernaclelaw32.ImageMachines'. -/
def imageMachinesUptoCard : Claim7 := { stood := { row := imageMachinesUptoRow, standIns := [], harness := (true, "fc075e477a2eb7cdbab0c88c7bbdb19d115f6b07ebd4a42617866cc156c2675b"), looks := true }, kinds := [], alts := [], laidByText := true, laidKinds := [.data, .data, .data, .sentinel, .sentinel], laidTests := true, laidLooks := .later }
def ImageMachinesUptoCardSaid : Prop := Claim7.holds Tryz.pinned (.plain (OpenSpec.upto imageMachinesSpec)) imageMachinesUptoCard

/-- THE SECOND FORM's CARD OF 'hibernaclelaw32.ImageFed'. -/
def imageFedUptoCard : Claim7 := { stood := { row := imageFedUptoRow, standIns := [], harness := (true, "fc075e477a2eb7cdbab0c88c7bbdb19d115f6b07ebd4a42617866cc156c2675b"), looks := true }, kinds := [], alts := [], laidByText := true, laidKinds := [.data, .data, .data, .sentinel, .sentinel], laidTests := true, laidLooks := .later }
def ImageFedUptoCardSaid : Prop := Claim7.holds Tryz.pinned (.plain (OpenSpec.upto imageFedSpec)) imageFedUptoCard
end Rows
end Go.Proofs.YtmmfcjkabpffeaaGreatDoor
