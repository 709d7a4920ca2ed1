/-
  A run of closed code by the kernel: the machine's example runs to true.
-/
import Derived.Test.YtfdflkddmgninaaGreatDoorExIr
import Derived.Test.YtfdflkddmgninaaGreatDoorProg
namespace Go.Proofs.YtfdflkddmgninaaGreatDoor.Ex
noncomputable def isT (v : Va) : Bool := asB v fun b => b
theorem alive_run : Dn (cmpOf Go.Proofs.Tryz.prog) (irsOf 50 166 172 114 68 202 5) 400 (.fn 5) [] ⟨0, .lf⟩ (fun v _ => isT v) = true := by
  decide +kernel
end Go.Proofs.YtfdflkddmgninaaGreatDoor.Ex
