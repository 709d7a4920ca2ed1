import Derived.Test.YtdkhnjjihbmlmaaGreatDoorEyE
import Derived.Test.YtdkhnjjihbmlmaaGreatDoorProg
namespace Go.Proofs.YtdkhnjjihbmlmaaGreatDoor.Ex
noncomputable def isT (v : Va) : Bool:=asB v fun b => b
theorem alive_run : Dn (cmpOf Go.Proofs.Tryz.prog) (irsOf (cmpOf Go.Proofs.Tryz.prog) 122 77 38 119 5 17 32) 200 (.fn 4) [] ⟨0,.lf⟩ (fun v _ => isT v) = true:=by
 decide +kernel
end Go.Proofs.YtdkhnjjihbmlmaaGreatDoor.Ex
