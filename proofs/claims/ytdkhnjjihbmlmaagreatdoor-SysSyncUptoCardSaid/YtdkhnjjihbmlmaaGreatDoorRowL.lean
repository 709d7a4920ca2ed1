import Derived.WalkKit
import Derived.Test.YtdkhnjjihbmlmaaGreatDoorBase
import Derived.Test.YtdkhnjjihbmlmaaGreatDoorGenA
import Derived.Lib.SmallJoins
namespace Go.Proofs.YtdkhnjjihbmlmaaGreatDoor
open Go.RowKit
def sizeOf (ls : List (List UInt8)) : Nat:=(ls.map fun l => 4 + l.length).sum
end Go.Proofs.YtdkhnjjihbmlmaaGreatDoor
namespace Go.Proofs.YtdkhnjjihbmlmaaGreatDoor
open Go.RowKit
variable {P : Program} {W : World}
theorem size_S (s : List UInt8) : (⟨s.toArray⟩ : ByteArray).size = s.length:=by simp [ByteArray.size]
theorem run_from_S (s : List UInt8) (k : IntKind) (z : Int) (i : Nat) (hz : z = (i : Int)) (hi : i ≤ s.length) (W : World) : (Instr.slice 9 (S s) (some (.int k z)) none none).run Tryz.prog W = .ok (S (s.drop i)) W:=by
 subst hz;show (Instr.slice 9 (.string ⟨s.toArray⟩) (some (.int k (i : Int))) none none).run Tryz.prog W = _;rw [run_slice_string_from_if W 9 ⟨s.toArray⟩ k _ Tryz.underlying9,if_pos ⟨by omega,by rw [size_S];omega⟩];rw [ByteArray.extract_mk,size_S,Int.toNat_natCast,List.take_of_length_le (by simp)]
theorem run_cut_S (s : List UInt8) (k k' : IntKind) (z y : Int) (i j : Nat) (hz : z = (i : Int)) (hy : y = (j : Int)) (hij : i ≤ j) (hj : j ≤ s.length) (W : World) : (Instr.slice 9 (S s) (some (.int k z)) (some (.int k' y)) none).run Tryz.prog W = .ok (S ((s.drop i).take (j - i))) W:=by
 subst hz hy;show (Instr.slice 9 (.string ⟨s.toArray⟩) (some (.int k (i : Int))) (some (.int k' (j : Int))) none).run Tryz.prog W = _;rw [run_slice_string W 9 ⟨s.toArray⟩ k k' _ _ Tryz.underlying9 (by omega) (by omega) (by rw [size_S];omega)];rw [ByteArray.extract_mk,Int.toNat_natCast,Int.toNat_natCast]
theorem run_index_S (s : List UInt8) (k : IntKind) (z : Int) (i : Nat) (hz : z = (i : Int)) (hi : i < s.length) (W : World) : (Instr.index 9 (S s) (.int k z)).run Tryz.prog W = .ok (B8 (s.getD i 0)) W:=by
 subst hz;have hs : (⟨s.toArray⟩ : ByteArray).size = s.length:=(by simp [ByteArray.size]);show (Instr.index 9 (.string ⟨s.toArray⟩) (.int k (i : Int))).run Tryz.prog W = _;rw [run_index_string W 9 ⟨s.toArray⟩ k _ Tryz.underlying9,dif_pos ⟨by omega,by rw [hs];omega⟩];have e : ((i : Int)).toNat = i:=(by omega);simp only [e];have : (⟨s.toArray⟩ : ByteArray)[i]'(by rw [hs];exact hi) = s.getD i 0:=(by simp [ByteArray.getElem_eq_getElem_data,List.getD,hi]);rw [this]
theorem concat_S (x y : List UInt8) : Value.string ({ data:=x.toArray } ++ { data:=y.toArray }) = S (x ++ y):=by
 show Value.string _ = Value.string _;congr 1
theorem run_str_one (W : World) (p : Addr) (c : Nat) (z : Int) (x : UInt8) (hz : z = (x.toNat : Int)) (hc : W.cell? p = some (.int .u8 z)) : (convert 89 9 (.slice (some p) 1 c)).run Tryz.prog W = .ok (S [x]) W:=by
 subst hz;refine run_convert_bytes_back W 89 9 5 p c [x] Tryz.underlying89 Tryz.underlying5 Tryz.underlying9 fun j hj => ?_;obtain rfl : j = 0:=(by simpa using hj)
 simpa [Addr.add] using hc
end Go.Proofs.YtdkhnjjihbmlmaaGreatDoor
