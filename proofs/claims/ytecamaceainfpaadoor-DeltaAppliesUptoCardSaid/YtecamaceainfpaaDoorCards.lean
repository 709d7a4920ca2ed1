/-
  DERIVED. GIVEN WITH THE SEED: THE CARDS: each row of YtecamaceainfpaaDoorRows.lean that lists a variable, with what it lists TIED to the program's text (the seventh form; the later family's looks); each row that meets fmt, with fmt's text TOLD by the authors' own Lean function (tested against real Go, not proved from fmt's source: count such statements apart). THE CARD IS WHAT COUNTS. Prove the row's statement (the work); the ties are given (YtecamaceainfpaaDoorTie.lean); close each card by the builder's one call (the guide's Derived/Test/ToyasCard.lean, 'card_holds'). Laid BY PROGRAM, IN A SANDBOX (cutbox-door.mjs). By AI agents, Wed Nov 11 2026. No macro, syntax, notation, axiom, sorry.
-/
import Derived.Test.YtecamaceainfpaaDoorRows
import GoSem.ClaimSeven
namespace Go.Proofs.YtecamaceainfpaaDoor
namespace Rows

/-- THE TIED CARD OF 'hibernaclelaw35.DeltaIs'. -/
def deltaIsCard : Claim7 := { stood := { row := deltaIsRow, standIns := [], harness := (true, "6830068d05198e5c64441c183d444663599858b251b219a63471a74e98b153bf"), looks := true }, kinds := [], alts := [], laidByText := true, laidKinds := [.data, .data], laidTests := true, laidLooks := .later }
def DeltaIsCardSaid : Prop := Claim7.holds Tryd.pinned (.plain (OpenSpec.ofChange deltaIsSpec)) deltaIsCard

/-- THE TIED CARD OF 'hibernaclelaw35.DeltaFew'. -/
def deltaFewCard : Claim7 := { stood := { row := deltaFewRow, standIns := [], harness := (true, "6830068d05198e5c64441c183d444663599858b251b219a63471a74e98b153bf"), looks := true }, kinds := [], alts := [], laidByText := true, laidKinds := [.data, .data], laidTests := true, laidLooks := .later }
def DeltaFewCardSaid : Prop := Claim7.holds Tryd.pinned (.plain (OpenSpec.ofChange deltaFewSpec)) deltaFewCard

/-- THE TIED CARD OF 'hibernaclelaw35.DeltaTold'. -/
def deltaToldCard : Claim7 := { stood := { row := deltaToldRow, standIns := [], harness := (true, "6830068d05198e5c64441c183d444663599858b251b219a63471a74e98b153bf"), looks := true }, kinds := [], alts := [], laidByText := true, laidKinds := [.data, .data], laidTests := true, laidLooks := .later }
def DeltaToldCardSaid : Prop := Claim7.holds Tryd.pinned (.plain (OpenSpec.ofChange deltaToldSpec)) deltaToldCard

/-- THE TIED CARD OF 'hibernaclelaw35.DeltaApplies'. -/
def deltaAppliesCard : Claim7 := { stood := { row := deltaAppliesRow, standIns := [], harness := (true, "6830068d05198e5c64441c183d444663599858b251b219a63471a74e98b153bf"), looks := true }, kinds := [], alts := [], laidByText := true, laidKinds := [.data, .data], laidTests := true, laidLooks := .later }
def DeltaAppliesCardSaid : Prop := Claim7.holds Tryd.pinned (.plain (OpenSpec.ofChange deltaAppliesSpec)) deltaAppliesCard

/-- THE TIED CARD OF 'hibernaclelaw35.DeltaJoins'. -/
def deltaJoinsCard : Claim7 := { stood := { row := deltaJoinsRow, standIns := [], harness := (true, "6830068d05198e5c64441c183d444663599858b251b219a63471a74e98b153bf"), looks := true }, kinds := [], alts := [], laidByText := true, laidKinds := [.data, .data], laidTests := true, laidLooks := .later }
def DeltaJoinsCardSaid : Prop := Claim7.holds Tryd.pinned (.plain (OpenSpec.ofChange deltaJoinsSpec)) deltaJoinsCard

/-- THE TIED CARD OF 'hibernaclelaw35.DeltaBytes'. -/
def deltaBytesCard : Claim7 := { stood := { row := deltaBytesRow, standIns := [], harness := (true, "6830068d05198e5c64441c183d444663599858b251b219a63471a74e98b153bf"), looks := true }, kinds := [], alts := [], laidByText := true, laidKinds := [.data, .data, .data, .data, .data, .sentinel, .sentinel], laidTests := true, laidLooks := .later }
def DeltaBytesCardSaid : Prop := Claim7.holds Tryd.pinned (.plain (OpenSpec.ofChange deltaBytesSpec)) deltaBytesCard

/-- THE TIED CARD OF 'hibernaclelaw32.ImageReads'. -/
def imageReadsCard : Claim7 := { stood := { row := imageReadsRow, standIns := [], harness := (true, "6830068d05198e5c64441c183d444663599858b251b219a63471a74e98b153bf"), looks := true }, kinds := [], alts := [], laidByText := true, laidKinds := [.data, .data, .data], laidTests := true, laidLooks := .later }
def ImageReadsCardSaid : Prop := Claim7.holds Tryd.pinned (.plain (OpenSpec.ofChange imageReadsSpec)) imageReadsCard

/-- THE TIED CARD OF 'hibernaclelaw35.DeltaBack'. -/
def deltaBackCard : Claim7 := { stood := { row := deltaBackRow, standIns := [], harness := (true, "6830068d05198e5c64441c183d444663599858b251b219a63471a74e98b153bf"), looks := true }, kinds := [], alts := [], laidByText := true, laidKinds := [.data, .data, .data, .data, .data, .sentinel, .sentinel], laidTests := true, laidLooks := .later }
def DeltaBackCardSaid : Prop := Claim7.holds Tryd.pinned (.plain (OpenSpec.ofChange deltaBackSpec)) deltaBackCard

/-- THE TIED CARD OF 'hibernaclelaw32.ImageBytes'. -/
def imageBytesCard : Claim7 := { stood := { row := imageBytesRow, standIns := [], harness := (true, "6830068d05198e5c64441c183d444663599858b251b219a63471a74e98b153bf"), looks := true }, kinds := [], alts := [], laidByText := true, laidKinds := [.data, .data, .data, .data, .data], laidTests := true, laidLooks := .later }
def ImageBytesCardSaid : Prop := Claim7.holds Tryd.pinned (.plain (OpenSpec.ofChange imageBytesSpec)) imageBytesCard

/-- THE SECOND FORM's CARD OF 'hibernaclelaw35.DeltaIs'. -/
def deltaIsUptoCard : Claim7 := { stood := { row := deltaIsUptoRow, standIns := [], harness := (true, "6830068d05198e5c64441c183d444663599858b251b219a63471a74e98b153bf"), looks := true }, kinds := [], alts := [], laidByText := true, laidKinds := [.data, .data], laidTests := true, laidLooks := .later }
def DeltaIsUptoCardSaid : Prop := Claim7.holds Tryd.pinned (.plain (OpenSpec.upto deltaIsSpec)) deltaIsUptoCard

/-- THE SECOND FORM's CARD OF 'hibernaclelaw35.DeltaFew'. -/
def deltaFewUptoCard : Claim7 := { stood := { row := deltaFewUptoRow, standIns := [], harness := (true, "6830068d05198e5c64441c183d444663599858b251b219a63471a74e98b153bf"), looks := true }, kinds := [], alts := [], laidByText := true, laidKinds := [.data, .data], laidTests := true, laidLooks := .later }
def DeltaFewUptoCardSaid : Prop := Claim7.holds Tryd.pinned (.plain (OpenSpec.upto deltaFewSpec)) deltaFewUptoCard

/-- THE SECOND FORM's CARD OF 'hibernaclelaw35.DeltaTold'. -/
def deltaToldUptoCard : Claim7 := { stood := { row := deltaToldUptoRow, standIns := [], harness := (true, "6830068d05198e5c64441c183d444663599858b251b219a63471a74e98b153bf"), looks := true }, kinds := [], alts := [], laidByText := true, laidKinds := [.data, .data], laidTests := true, laidLooks := .later }
def DeltaToldUptoCardSaid : Prop := Claim7.holds Tryd.pinned (.plain (OpenSpec.upto deltaToldSpec)) deltaToldUptoCard

/-- THE SECOND FORM's CARD OF 'hibernaclelaw35.DeltaApplies'. -/
def deltaAppliesUptoCard : Claim7 := { stood := { row := deltaAppliesUptoRow, standIns := [], harness := (true, "6830068d05198e5c64441c183d444663599858b251b219a63471a74e98b153bf"), looks := true }, kinds := [], alts := [], laidByText := true, laidKinds := [.data, .data], laidTests := true, laidLooks := .later }
def DeltaAppliesUptoCardSaid : Prop := Claim7.holds Tryd.pinned (.plain (OpenSpec.upto deltaAppliesSpec)) deltaAppliesUptoCard

/-- THE SECOND FORM's CARD OF 'hibernaclelaw35.DeltaJoins'. -/
def deltaJoinsUptoCard : Claim7 := { stood := { row := deltaJoinsUptoRow, standIns := [], harness := (true, "6830068d05198e5c64441c183d444663599858b251b219a63471a74e98b153bf"), looks := true }, kinds := [], alts := [], laidByText := true, laidKinds := [.data, .data], laidTests := true, laidLooks := .later }
def DeltaJoinsUptoCardSaid : Prop := Claim7.holds Tryd.pinned (.plain (OpenSpec.upto deltaJoinsSpec)) deltaJoinsUptoCard

/-- THE SECOND FORM's CARD OF 'hibernaclelaw35.DeltaBytes'. -/
def deltaBytesUptoCard : Claim7 := { stood := { row := deltaBytesUptoRow, standIns := [], harness := (true, "6830068d05198e5c64441c183d444663599858b251b219a63471a74e98b153bf"), looks := true }, kinds := [], alts := [], laidByText := true, laidKinds := [.data, .data, .data, .data, .data, .sentinel, .sentinel], laidTests := true, laidLooks := .later }
def DeltaBytesUptoCardSaid : Prop := Claim7.holds Tryd.pinned (.plain (OpenSpec.upto deltaBytesSpec)) deltaBytesUptoCard

/-- THE SECOND FORM's CARD OF 'hibernaclelaw32.ImageReads'. -/
def imageReadsUptoCard : Claim7 := { stood := { row := imageReadsUptoRow, standIns := [], harness := (true, "6830068d05198e5c64441c183d444663599858b251b219a63471a74e98b153bf"), looks := true }, kinds := [], alts := [], laidByText := true, laidKinds := [.data, .data, .data], laidTests := true, laidLooks := .later }
def ImageReadsUptoCardSaid : Prop := Claim7.holds Tryd.pinned (.plain (OpenSpec.upto imageReadsSpec)) imageReadsUptoCard

/-- THE SECOND FORM's CARD OF 'hibernaclelaw35.DeltaBack'. -/
def deltaBackUptoCard : Claim7 := { stood := { row := deltaBackUptoRow, standIns := [], harness := (true, "6830068d05198e5c64441c183d444663599858b251b219a63471a74e98b153bf"), looks := true }, kinds := [], alts := [], laidByText := true, laidKinds := [.data, .data, .data, .data, .data, .sentinel, .sentinel], laidTests := true, laidLooks := .later }
def DeltaBackUptoCardSaid : Prop := Claim7.holds Tryd.pinned (.plain (OpenSpec.upto deltaBackSpec)) deltaBackUptoCard

/-- THE SECOND FORM's CARD OF 'hibernaclelaw32.ImageBytes'. -/
def imageBytesUptoCard : Claim7 := { stood := { row := imageBytesUptoRow, standIns := [], harness := (true, "6830068d05198e5c64441c183d444663599858b251b219a63471a74e98b153bf"), looks := true }, kinds := [], alts := [], laidByText := true, laidKinds := [.data, .data, .data, .data, .data], laidTests := true, laidLooks := .later }
def ImageBytesUptoCardSaid : Prop := Claim7.holds Tryd.pinned (.plain (OpenSpec.upto imageBytesSpec)) imageBytesUptoCard
end Rows
end Go.Proofs.YtecamaceainfpaaDoor
