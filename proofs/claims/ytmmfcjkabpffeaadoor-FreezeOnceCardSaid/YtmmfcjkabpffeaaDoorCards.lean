/-
  DERIVED. GIVEN WITH THE SEED: THE CARDS: each row of YtmmfcjkabpffeaaDoorRows.lean that lists a variable, with what it lists TIED to the program's text (the seventh form; the later family's looks); each row that meets fmt, with fmt's text TOLD by the authors' own Lean function (tested against real Go, not proved from fmt's source: count such statements apart). THE CARD IS WHAT COUNTS. Prove the row's statement (the work); the ties are given (YtmmfcjkabpffeaaDoorTie.lean); close each card by the builder's one call (the guide's Derived/Test/ToyasCard.lean, 'card_holds'). Laid BY PROGRAM, IN A SANDBOX (cutbox-door.mjs). By AI agents, Wed Nov 11 2026. No macro, syntax, notation, axiom, sorry.
-/
import Derived.Test.YtmmfcjkabpffeaaDoorRows
import GoSem.ClaimSeven
namespace Go.Proofs.YtmmfcjkabpffeaaDoor
namespace Rows

/-- THE TIED CARD OF 'hibernaclelaw34.FreezeGoes'. -/
def freezeGoesCard : Claim7 := { stood := { row := freezeGoesRow, standIns := [], harness := (true, "8b73555a32eb1fc070311b5abbaa59069de7ed6ba7716859b44cfe4c927b13a6"), looks := false }, kinds := [], alts := [], laidByText := true, laidKinds := [.data, .data, .data], laidTests := true, laidLooks := .later }
def FreezeGoesCardSaid : Prop := Claim7.holds Tryd.pinned (.plain (OpenSpec.ofChange freezeGoesSpec)) freezeGoesCard

/-- THE TIED CARD OF 'hibernaclelaw34.FreezeOnce'. -/
def freezeOnceCard : Claim7 := { stood := { row := freezeOnceRow, standIns := [], harness := (true, "8b73555a32eb1fc070311b5abbaa59069de7ed6ba7716859b44cfe4c927b13a6"), looks := false }, kinds := [], alts := [], laidByText := true, laidKinds := [.data, .data, .data], laidTests := true, laidLooks := .later }
def FreezeOnceCardSaid : Prop := Claim7.holds Tryd.pinned (.plain (OpenSpec.ofChange freezeOnceSpec)) freezeOnceCard

/-- THE TIED CARD OF 'hibernaclelaw34.FreezePumps'. -/
def freezePumpsCard : Claim7 := { stood := { row := freezePumpsRow, standIns := [], harness := (true, "8b73555a32eb1fc070311b5abbaa59069de7ed6ba7716859b44cfe4c927b13a6"), looks := false }, kinds := [], alts := [], laidByText := true, laidKinds := [.data, .data, .data], laidTests := true, laidLooks := .later }
def FreezePumpsCardSaid : Prop := Claim7.holds Tryd.pinned (.plain (OpenSpec.ofChange freezePumpsSpec)) freezePumpsCard

/-- THE SECOND FORM's CARD OF 'hibernaclelaw34.FreezeGoes'. -/
def freezeGoesUptoCard : Claim7 := { stood := { row := freezeGoesUptoRow, standIns := [], harness := (true, "8b73555a32eb1fc070311b5abbaa59069de7ed6ba7716859b44cfe4c927b13a6"), looks := false }, kinds := [], alts := [], laidByText := true, laidKinds := [.data, .data, .data], laidTests := true, laidLooks := .later }
def FreezeGoesUptoCardSaid : Prop := Claim7.holds Tryd.pinned (.plain (OpenSpec.upto freezeGoesSpec)) freezeGoesUptoCard

/-- THE SECOND FORM's CARD OF 'hibernaclelaw34.FreezeOnce'. -/
def freezeOnceUptoCard : Claim7 := { stood := { row := freezeOnceUptoRow, standIns := [], harness := (true, "8b73555a32eb1fc070311b5abbaa59069de7ed6ba7716859b44cfe4c927b13a6"), looks := false }, kinds := [], alts := [], laidByText := true, laidKinds := [.data, .data, .data], laidTests := true, laidLooks := .later }
def FreezeOnceUptoCardSaid : Prop := Claim7.holds Tryd.pinned (.plain (OpenSpec.upto freezeOnceSpec)) freezeOnceUptoCard

/-- THE SECOND FORM's CARD OF 'hibernaclelaw34.FreezePumps'. -/
def freezePumpsUptoCard : Claim7 := { stood := { row := freezePumpsUptoRow, standIns := [], harness := (true, "8b73555a32eb1fc070311b5abbaa59069de7ed6ba7716859b44cfe4c927b13a6"), looks := false }, kinds := [], alts := [], laidByText := true, laidKinds := [.data, .data, .data], laidTests := true, laidLooks := .later }
def FreezePumpsUptoCardSaid : Prop := Claim7.holds Tryd.pinned (.plain (OpenSpec.upto freezePumpsSpec)) freezePumpsUptoCard
end Rows
end Go.Proofs.YtmmfcjkabpffeaaDoor
