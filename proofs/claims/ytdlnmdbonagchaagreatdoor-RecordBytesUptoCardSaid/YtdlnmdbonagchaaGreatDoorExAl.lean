import Derived.Test.YtdlnmdbonagchaaGreatDoorExIr
import Derived.Test.YtdlnmdbonagchaaGreatDoorProg
namespace Go.Proofs.YtdlnmdbonagchaaGreatDoor.Ex
noncomputable def isT (v : Va) : Bool:=asB v fun b => b
theorem alive_run : Dn (cmpOf Go.Proofs.Tryz.prog) (irsOf 15 18 75 97 321 83 53 36 98 5) 400 (.fn 4) [] ⟨0,.lf⟩ (fun v _ => isT v) = true:=by
 decide +kernel
end Go.Proofs.YtdlnmdbonagchaaGreatDoor.Ex
