/-
  Plain: a row of texts as bytes. No program in sight.
-/
import Derived.WalkKit
import Derived.Test.YtmdciljpcnokcaaGreatDoorBase
import Derived.Test.YtmdciljpcnokcaaGreatDoorGenA
import Derived.Lib.SmallJoins
namespace Go.Proofs.YtmdciljpcnokcaaGreatDoor
open Go.RowKit

/-- a length as bytes: seven bits each, the lowest ones first -/
def lenB (n : Nat) : List UInt8 := if n < 128 then [UInt8.ofNat n] else UInt8.ofNat (n % 128 + 128) :: lenB (n / 128)
theorem lenB_small {n : Nat} (h : n < 128) : lenB n = [UInt8.ofNat n] := by rw [lenB, if_pos h]
theorem lenB_big {n : Nat} (h : ¬ n < 128) : lenB n = UInt8.ofNat (n % 128 + 128) :: lenB (n / 128) := by rw [lenB, if_neg h]
theorem lenB_le (n : Nat) : ∀ b, n < 128 ^ (b + 1) → (lenB n).length ≤ b + 1 := by
  intro b
  induction b generalizing n with
  | zero => intro h; rw [lenB_small (by simpa using h)]; simp
  | succ b ih =>
    intro h
    by_cases hn : n < 128
    · rw [lenB_small hn]; simp
    · rw [lenB_big hn, List.length_cons]
      have := ih (n / 128) (by rw [Nat.div_lt_iff_lt_mul (by omega)]; rw [Nat.pow_succ] at h; exact h)
      omega
/-- a row of texts as bytes -/
def rowB (ls : List (List UInt8)) : List UInt8 := ls.flatMap fun l => lenB l.length ++ l
theorem rowB_nil : rowB [] = [] := rfl
theorem rowB_cons (l : List UInt8) (ls : List (List UInt8)) : rowB (l :: ls) = lenB l.length ++ l ++ rowB ls := by simp [rowB]
theorem rowB_append (a b : List (List UInt8)) : rowB (a ++ b) = rowB a ++ rowB b := by simp [rowB]
theorem rowB_snoc (ls : List (List UInt8)) (k : Nat) (h : k < ls.length) : rowB (ls.take (k + 1)) = rowB (ls.take k) ++ lenB (ls.getD k []).length ++ ls.getD k [] := by
  rw [List.take_succ_eq_append_getElem h, rowB_append]; simp [rowB, h]

/-- how many bytes, about, texts have -/
def sizeOf (ls : List (List UInt8)) : Nat := (ls.map fun l => 4 + l.length).sum
theorem sizeOf_snoc (ls : List (List UInt8)) (k : Nat) (h : k < ls.length) : sizeOf (ls.take (k + 1)) = sizeOf (ls.take k) + (4 + (ls.getD k []).length) := by
  unfold sizeOf; rw [List.take_succ_eq_append_getElem h, List.map_append, List.sum_append]; simp [h]
theorem sizeOf_take_le (ls : List (List UInt8)) (k : Nat) : sizeOf (ls.take k) ≤ sizeOf ls := by
  conv => rhs; rw [← List.take_append_drop k ls]
  simp only [sizeOf, List.map_append, List.sum_append]; omega
theorem getD_le (ls : List (List UInt8)) (k : Nat) (h : k < ls.length) : 4 + (ls.getD k []).length ≤ sizeOf ls := by
  have := sizeOf_snoc ls k h; have := sizeOf_take_le ls (k + 1); omega
theorem length_le_sizeOf (ls : List (List UInt8)) : 4 * ls.length ≤ sizeOf ls := by
  induction ls with
  | nil => simp [sizeOf]
  | cons l ls ih => simp only [sizeOf, List.map_cons, List.sum_cons, List.length_cons] at *; omega
/-- a row has at most twice the bytes of its texts' size -/
theorem rowB_le : ∀ ls : List (List UInt8), sizeOf ls ≤ 34359738368 → (rowB ls).length ≤ 2 * sizeOf ls
  | [], _ => by simp [rowB]
  | l :: ls, h => by
    have hs : sizeOf (l :: ls) = 4 + l.length + sizeOf ls := by simp [sizeOf]
    have ih := rowB_le ls (by omega)
    have hl : (lenB l.length).length ≤ 6 := lenB_le l.length 5 (by omega)
    rw [rowB_cons, List.length_append, List.length_append]
    omega
theorem flatten_le_sizeOf : ∀ ls : List (List UInt8), ls.flatten.length ≤ sizeOf ls
  | [] => by simp
  | l :: ls => by
    have := flatten_le_sizeOf ls
    have hs : sizeOf (l :: ls) = 4 + l.length + sizeOf ls := by simp [sizeOf]
    rw [List.flatten_cons, List.length_append]; omega

theorem ofInt64 (a : Nat) (ha : a < 9223372036854775808) : (BitVec.ofInt 64 (a : Int)).toNat = a := by
  rw [BitVec.ofInt_natCast, BitVec.toNat_ofNat]; exact Nat.mod_eq_of_lt (by omega)
/-- the lowest seven bits of an int that is not below 0 -/
theorem and127 (m : Nat) (hm : m < 9223372036854775808) : bits .and .i64 (m : Int) 127 = ((m % 128 : Nat) : Int) := by
  show IntKind.i64.wrap ((BitVec.ofInt 64 (m : Int) &&& BitVec.ofInt 64 ((127 : Nat) : Int)).toNat : Int) = _
  rw [BitVec.toNat_and, ofInt64 m hm, ofInt64 127 (by omega), IntKind.wrap_i64]
  have e : m &&& 127 = m % 128 := by
    have := Nat.and_two_pow_sub_one_eq_mod m 7
    simpa using this
  rw [e]; omega
/-- a byte of a length that goes on -/
theorem or128 (m : Nat) : bits .or .u8 (IntKind.u8.wrap ((m % 128 : Nat) : Int)) 128 = ((UInt8.ofNat (m % 128 + 128)).toNat : Int) := by
  have h : m % 128 < 128 := Nat.mod_lt _ (by omega)
  rw [IntKind.wrap_u8, show ((m % 128 : Nat) : Int) % 256 = ((m % 128 : Nat) : Int) by omega]
  have h2 := u8_or_nat (m % 128) 128 (by omega) (by omega)
  have e : (m % 128) ||| 128 = m % 128 + 128 := by
    have := Nat.two_pow_add_eq_or_of_lt (by omega : m % 128 < 2 ^ 7) 1
    rw [Nat.or_comm]; simpa [Nat.add_comm] using this.symm
  rw [e] at h2
  rw [show ((128 : Int)) = ((128 : Nat) : Int) from rfl, h2, UInt8.toNat_ofNat']
  congr 1; omega
theorem byte_small {m : Nat} (_h : m < 128) : IntKind.u8.wrap (m : Int) = ((UInt8.ofNat m).toNat : Int) := by
  rw [IntKind.wrap_u8, UInt8.toNat_ofNat']; omega
end Go.Proofs.YtmdciljpcnokcaaGreatDoor
/-
  Laws: strings that are written by the lists of their bytes (gathered by pick.py).
-/
namespace Go.Proofs.YtmdciljpcnokcaaGreatDoor
open Go.RowKit

variable {P : Program} {W : World}
theorem size_S (s : List UInt8) : (⟨s.toArray⟩ : ByteArray).size = s.length := by simp [ByteArray.size]
/-- 's[i:]' -/
theorem run_from_S (s : List UInt8) (k : IntKind) (z : Int) (i : Nat) (hz : z = (i : Int)) (hi : i ≤ s.length) (W : World) : (Instr.slice 9 (S s) (some (.int k z)) none none).run Tryz.prog W = .ok (S (s.drop i)) W := by
  subst hz
  show (Instr.slice 9 (.string ⟨s.toArray⟩) (some (.int k (i : Int))) none none).run Tryz.prog W = _
  rw [run_slice_string_from_if W 9 ⟨s.toArray⟩ k _ Tryz.underlying9, if_pos ⟨by omega, by rw [size_S]; omega⟩]
  rw [ByteArray.extract_mk, size_S, Int.toNat_natCast, List.take_of_length_le (by simp)]
/-- 's[:j]' -/
theorem run_to_S (s : List UInt8) (k : IntKind) (z : Int) (j : Nat) (hz : z = (j : Int)) (hj : j ≤ s.length) (W : World) : (Instr.slice 9 (S s) none (some (.int k z)) none).run Tryz.prog W = .ok (S (s.take j)) W := by
  subst hz
  show (Instr.slice 9 (.string ⟨s.toArray⟩) none (some (.int k (j : Int))) none).run Tryz.prog W = _
  rw [run_slice_string_to_if W 9 ⟨s.toArray⟩ k _ Tryz.underlying9, if_pos ⟨by omega, by rw [size_S]; omega⟩]
  rw [ByteArray.extract_mk, Int.toNat_natCast, List.drop_zero, Nat.sub_zero]
/-- 's[i:j]' -/
theorem run_cut_S (s : List UInt8) (k k' : IntKind) (z y : Int) (i j : Nat) (hz : z = (i : Int)) (hy : y = (j : Int)) (hij : i ≤ j) (hj : j ≤ s.length) (W : World) : (Instr.slice 9 (S s) (some (.int k z)) (some (.int k' y)) none).run Tryz.prog W = .ok (S ((s.drop i).take (j - i))) W := by
  subst hz hy
  show (Instr.slice 9 (.string ⟨s.toArray⟩) (some (.int k (i : Int))) (some (.int k' (j : Int))) none).run Tryz.prog W = _
  rw [run_slice_string W 9 ⟨s.toArray⟩ k k' _ _ Tryz.underlying9 (by omega) (by omega) (by rw [size_S]; omega)]
  rw [ByteArray.extract_mk, Int.toNat_natCast, Int.toNat_natCast]
/-- a byte of a text, as the walk takes it -/
theorem run_index_S (s : List UInt8) (k : IntKind) (z : Int) (i : Nat) (hz : z = (i : Int)) (hi : i < s.length) (W : World) : (Instr.index 9 (S s) (.int k z)).run Tryz.prog W = .ok (B8 (s.getD i 0)) W := by
  subst hz
  have hs : (⟨s.toArray⟩ : ByteArray).size = s.length := by simp [ByteArray.size]
  show (Instr.index 9 (.string ⟨s.toArray⟩) (.int k (i : Int))).run Tryz.prog W = _
  rw [run_index_string W 9 ⟨s.toArray⟩ k _ Tryz.underlying9, dif_pos ⟨by omega, by rw [hs]; omega⟩]
  have e : ((i : Int)).toNat = i := by omega
  simp only [e]
  have : (⟨s.toArray⟩ : ByteArray)[i]'(by rw [hs]; exact hi) = s.getD i 0 := by
    simp [ByteArray.getElem_eq_getElem_data, List.getD, hi]
  rw [this]
theorem concat_S (x y : List UInt8) : Value.string ({ data := x.toArray } ++ { data := y.toArray }) = S (x ++ y) := by
  show Value.string _ = Value.string _
  congr 1
/-- 'string([]byte{x})' -/
theorem run_str_one (W : World) (p : Addr) (c : Nat) (z : Int) (x : UInt8) (hz : z = (x.toNat : Int)) (hc : W.cell? p = some (.int .u8 z)) : (convert 57 9 (.slice (some p) 1 c)).run Tryz.prog W = .ok (S [x]) W := by
  subst hz
  refine run_convert_bytes_back W 57 9 5 p c [x] Tryz.underlying57 Tryz.underlying5 Tryz.underlying9 fun j hj => ?_
  obtain rfl : j = 0 := by simpa using hj
  simpa [Addr.add] using hc
theorem bcell {W w1 : World} (hb : Below W.heap.size W w1) : (∀ b o, b < W.heap.size → w1.cell? ⟨b, o, none⟩ = W.cell? ⟨b, o, none⟩) :=
  fun b o h => hb.cell (p := ⟨b, o, none⟩) h
end Go.Proofs.YtmdciljpcnokcaaGreatDoor
