/-
  Laws: strings that are written by the lists of their bytes: an index, a cut, a sum.
-/
import Derived.Test.YtecamaceainfpaaDoorProg
import Derived.Test.YtecamaceainfpaaDoorWords
import Derived.Test.YtecamaceainfpaaDoorBlake
namespace Go.Proofs.YtecamaceainfpaaDoor
open Go.RowKit

theorem size_S (s : List UInt8) : (⟨s.toArray⟩ : ByteArray).size = s.length := by simp [ByteArray.size]
/-- 's[i:]' -/
theorem run_from_S (s : List UInt8) (k : IntKind) (z : Int) (i : Nat) (hz : z = (i : Int)) (hi : i ≤ s.length) (W : World) : (Instr.slice 9 (S s) (some (.int k z)) none none).run Tryd.prog W = .ok (S (s.drop i)) W := by
  subst hz
  show (Instr.slice 9 (.string ⟨s.toArray⟩) (some (.int k (i : Int))) none none).run Tryd.prog W = _
  rw [run_slice_string_from_if W 9 ⟨s.toArray⟩ k _ Tryd.underlying9, if_pos ⟨by omega, by rw [size_S]; omega⟩]
  rw [ByteArray.extract_mk, size_S, Int.toNat_natCast, List.take_of_length_le (by simp)]
/-- 's[:j]' -/
theorem run_to_S (s : List UInt8) (k : IntKind) (z : Int) (j : Nat) (hz : z = (j : Int)) (hj : j ≤ s.length) (W : World) : (Instr.slice 9 (S s) none (some (.int k z)) none).run Tryd.prog W = .ok (S (s.take j)) W := by
  subst hz
  show (Instr.slice 9 (.string ⟨s.toArray⟩) none (some (.int k (j : Int))) none).run Tryd.prog W = _
  rw [run_slice_string_to_if W 9 ⟨s.toArray⟩ k _ Tryd.underlying9, if_pos ⟨by omega, by rw [size_S]; omega⟩]
  rw [ByteArray.extract_mk, Int.toNat_natCast, List.drop_zero, Nat.sub_zero]
/-- 's[i:j]' -/
theorem run_cut_S (s : List UInt8) (k k' : IntKind) (z y : Int) (i j : Nat) (hz : z = (i : Int)) (hy : y = (j : Int)) (hij : i ≤ j) (hj : j ≤ s.length) (W : World) : (Instr.slice 9 (S s) (some (.int k z)) (some (.int k' y)) none).run Tryd.prog W = .ok (S ((s.drop i).take (j - i))) W := by
  subst hz hy
  show (Instr.slice 9 (.string ⟨s.toArray⟩) (some (.int k (i : Int))) (some (.int k' (j : Int))) none).run Tryd.prog W = _
  rw [run_slice_string W 9 ⟨s.toArray⟩ k k' _ _ Tryd.underlying9 (by omega) (by omega) (by rw [size_S]; omega)]
  rw [ByteArray.extract_mk, Int.toNat_natCast, Int.toNat_natCast]
end Go.Proofs.YtecamaceainfpaaDoor
