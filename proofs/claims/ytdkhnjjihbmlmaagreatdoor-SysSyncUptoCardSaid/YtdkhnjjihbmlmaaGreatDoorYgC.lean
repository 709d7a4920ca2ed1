import Derived.Test.YtdkhnjjihbmlmaaGreatDoorYgA
import Derived.Test.YtdkhnjjihbmlmaaGreatDoorPlnA
import Derived.Test.YtdkhnjjihbmlmaaGreatDoorYcA
namespace Go.Proofs.YtdkhnjjihbmlmaaGreatDoor
open Go.RowKit
end Go.Proofs.YtdkhnjjihbmlmaaGreatDoor
namespace Go.Proofs.YtdkhnjjihbmlmaaGreatDoor
open Go.RowKit
theorem mc_drive {w : World} {g : Nat} {t : TypeId} {a : MA} {m : Mc} (h : Whole w g t (mcL a m).toArray) : ∀ j v,(dvL a.L m.blocks.length a.cL a.N m.pend.length a.cN m.dleft)[j]? = some v → w.cell? ((⟨g,13,none⟩ : Addr).add j) = some v :=
 mid_cells h 13 _ fun j v hv => by
  match j,hv with
  | 0,hv => exact hv
  | 1,hv => exact hv
  | 2,hv => exact hv
  | n + 3,hv => simp [dvL] at hv
end Go.Proofs.YtdkhnjjihbmlmaaGreatDoor
namespace Go.Proofs.YtdkhnjjihbmlmaaGreatDoor
open Go.RowKit
end Go.Proofs.YtdkhnjjihbmlmaaGreatDoor
