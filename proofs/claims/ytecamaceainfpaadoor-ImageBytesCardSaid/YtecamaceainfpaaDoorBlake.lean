/-
  The digest as a plain function on lists: what hash.take computes. No program in sight.
-/
import Derived.Test.YtecamaceainfpaaDoorNums
namespace Go.Proofs.YtecamaceainfpaaDoor
open Go.RowKit

/-- a byte as a value -/
abbrev B8 (b : UInt8) : Value := .int .u8 (b.toNat : Int)

def IV : List UInt32 := [1779033703, 3144134277, 1013904242, 2773480762, 1359893119, 2600822924, 528734635, 1541459225]
def SIG : List (List Nat) := [
  [0, 1, 2, 3, 4, 5, 6, 7, 8, 9, 10, 11, 12, 13, 14, 15],
  [14, 10, 4, 8, 9, 15, 13, 6, 1, 12, 0, 2, 11, 7, 5, 3],
  [11, 8, 12, 0, 5, 2, 15, 13, 10, 14, 3, 6, 7, 1, 9, 4],
  [7, 9, 3, 1, 13, 12, 11, 14, 2, 6, 5, 10, 4, 0, 15, 8],
  [9, 0, 5, 7, 2, 4, 10, 15, 14, 1, 11, 12, 6, 8, 3, 13],
  [2, 12, 6, 10, 0, 11, 8, 3, 4, 13, 7, 5, 15, 14, 1, 9],
  [12, 5, 1, 15, 14, 13, 4, 10, 0, 7, 6, 3, 9, 2, 8, 11],
  [13, 11, 7, 14, 12, 1, 3, 9, 5, 0, 15, 4, 8, 6, 2, 10],
  [6, 15, 14, 9, 11, 3, 0, 8, 12, 2, 13, 7, 1, 4, 10, 5],
  [10, 2, 8, 4, 7, 6, 1, 5, 15, 11, 9, 14, 3, 12, 13, 0]]
/-- the row of round k, number j -/
def sg (k j : Nat) : Nat := (SIG.getD k []).getD j 0
theorem sg_lt (k j : Nat) : sg k j < 16 := by
  have h : ∀ k < 10, ∀ j < 16, sg k j < 16 := by decide
  by_cases hk : k < 10
  · by_cases hj : j < 16
    · exact h k hk j hj
    · have : (SIG.getD k []).length ≤ 16 := by
        have h2 : ∀ k < 10, (SIG.getD k []).length = 16 := by decide
        rw [h2 k hk]; omega
      unfold sg; rw [List.getD_eq_getElem?_getD, List.getElem?_eq_none (by omega)]; decide
  · unfold sg; rw [List.getD_eq_getElem?_getD, List.getD_eq_getElem?_getD, List.getElem?_eq_none (l := SIG) (by simp [SIG]; omega)]; simp
theorem sig_length {k : Nat} (hk : k < 10) : (SIG.getD k []).length = 16 := by
  have h2 : ∀ k < 10, (SIG.getD k []).length = 16 := by decide
  exact h2 k hk

/-- four bytes as a number -/
def le32 (a b c d : UInt8) : UInt32 := UInt32.ofNat (a.toNat + 256 * b.toNat + 65536 * c.toNat + 16777216 * d.toNat)
/-- a block's sixteen numbers -/
def words (wt : List UInt8) : List UInt32 := (List.range 16).map fun i => le32 (wt.getD (4 * i) 0) (wt.getD (4 * i + 1) 0) (wt.getD (4 * i + 2) 0) (wt.getD (4 * i + 3) 0)
theorem words_length (wt : List UInt8) : (words wt).length = 16 := by simp [words]
theorem words_at (wt : List UInt8) {k : Nat} (hk : k < 16) : (words wt).getD k 0 = le32 (wt.getD (4 * k) 0) (wt.getD (4 * k + 1) 0) (wt.getD (4 * k + 2) 0) (wt.getD (4 * k + 3) 0) := by
  simp [words, hk]

/-- one round: eight mixes -/
def round (m : List UInt32) (k : Nat) (v0 : List UInt32) : List UInt32 :=
  let v1 := mixL v0 0 4 8 12 (m.getD (sg k 0) 0) (m.getD (sg k 1) 0)
  let v2 := mixL v1 1 5 9 13 (m.getD (sg k 2) 0) (m.getD (sg k 3) 0)
  let v3 := mixL v2 2 6 10 14 (m.getD (sg k 4) 0) (m.getD (sg k 5) 0)
  let v4 := mixL v3 3 7 11 15 (m.getD (sg k 6) 0) (m.getD (sg k 7) 0)
  let v5 := mixL v4 0 5 10 15 (m.getD (sg k 8) 0) (m.getD (sg k 9) 0)
  let v6 := mixL v5 1 6 11 12 (m.getD (sg k 10) 0) (m.getD (sg k 11) 0)
  let v7 := mixL v6 2 7 8 13 (m.getD (sg k 12) 0) (m.getD (sg k 13) 0)
  mixL v7 3 4 9 14 (m.getD (sg k 14) 0) (m.getD (sg k 15) 0)
theorem round_length (m : List UInt32) (k : Nat) (v : List UInt32) : (round m k v).length = v.length := by simp [round, mixL_length]
def rounds (m v : List UInt32) : Nat → List UInt32
  | 0 => v
  | k + 1 => round m k (rounds m v k)
theorem rounds_length (m v : List UInt32) (k : Nat) : (rounds m v k).length = v.length := by
  induction k with
  | zero => rfl
  | succ k ih => rw [rounds, round_length, ih]

def vstart (h : List UInt32) (n : Nat) : List UInt32 :=
  let v := h ++ IV
  let v1 := v.set 12 (ux (v.getD 12 0) (UInt32.ofNat n))
  v1.set 13 (ux (v1.getD 13 0) (UInt32.ofNat (n / 4294967296)))
def vlast (v : List UInt32) (last : Bool) : List UInt32 := if last then v.set 14 (~~~ (v.getD 14 0)) else v
theorem vstart_length {h : List UInt32} (hh : h.length = 8) (n : Nat) : (vstart h n).length = 16 := by simp [vstart, hh, IV]
theorem vlast_length (v : List UInt32) (b : Bool) : (vlast v b).length = v.length := by unfold vlast; split <;> simp
/-- the digest's eight numbers, a block taken in -/
def takeL (h : List UInt32) (wt : List UInt8) (n : Nat) (last : Bool) : List UInt32 :=
  let v := rounds (words wt) (vlast (vstart h n) last) 10
  (List.range 8).map fun i => ux (h.getD i 0) (ux (v.getD i 0) (v.getD (i + 8) 0))
theorem takeL_length (h : List UInt32) (wt : List UInt8) (n : Nat) (last : Bool) : (takeL h wt n last).length = 8 := by simp [takeL]

/-- a digest that is being made, as cells: its eight numbers, the bytes that wait, how many they are, how many went -/
def stCells (h : List UInt32) (wt : List UInt8) (f n : Nat) : List Value := h.map U ++ (wt.map B8 ++ [Value.int .i64 (f : Int), Value.int .u64 (n : Int)])
theorem stCells_h {h : List UInt32} {wt : List UInt8} {f n : Nat} (hh : h.length = 8) {i : Nat} (hi : i < 8) : (stCells h wt f n)[i]? = some (U (h.getD i 0)) := by
  unfold stCells; rw [List.getElem?_append_left (by simp; omega)]; simp [hh, hi]
theorem stCells_w {h : List UInt32} {wt : List UInt8} {f n : Nat} (hh : h.length = 8) (hw : wt.length = 64) {i : Nat} (hi : i < 64) : (stCells h wt f n)[8 + i]? = some (B8 (wt.getD i 0)) := by
  unfold stCells; rw [List.getElem?_append_right (by simp; omega), List.getElem?_append_left (by simp; omega)]; simp [hh, hw, hi]
theorem stCells_f {h : List UInt32} {wt : List UInt8} {f n : Nat} (hh : h.length = 8) (hw : wt.length = 64) : (stCells h wt f n)[72]? = some (Value.int .i64 (f : Int)) := by
  unfold stCells; rw [List.getElem?_append_right (by simp; omega), List.getElem?_append_right (by simp; omega)]; simp [hh, hw]
theorem stCells_n {h : List UInt32} {wt : List UInt8} {f n : Nat} (hh : h.length = 8) (hw : wt.length = 64) : (stCells h wt f n)[73]? = some (Value.int .u64 (n : Int)) := by
  unfold stCells; rw [List.getElem?_append_right (by simp; omega), List.getElem?_append_right (by simp; omega)]; simp [hh, hw]
theorem stCells_set_h {h : List UInt32} {wt : List UInt8} {f n : Nat} (hh : h.length = 8) {i : Nat} (hi : i < 8) (x : UInt32) : (stCells h wt f n).set i (U x) = stCells (h.set i x) wt f n := by
  unfold stCells; rw [List.set_append, if_pos (by simp; omega), ← List.map_set]

theorem le_eq (a b c d : UInt8) :
    bits .or .u32 (bits .or .u32 (bits .or .u32 (a.toNat : Int) ((b.toNat : Int) * 256 % 4294967296)) ((c.toNat : Int) * 65536 % 4294967296)) ((d.toNat : Int) * 16777216 % 4294967296) = ((le32 a b c d).toNat : Int) := by
  have ha := a.toNat_lt; have hb := b.toNat_lt; have hc := c.toNat_lt; have hd := d.toNat_lt
  have e1 : (b.toNat : Int) * 256 % 4294967296 = ((2 ^ 8 * b.toNat : Nat) : Int) := by omega
  have e2 : (c.toNat : Int) * 65536 % 4294967296 = ((2 ^ 16 * c.toNat : Nat) : Int) := by omega
  have e3 : (d.toNat : Int) * 16777216 % 4294967296 = ((2 ^ 24 * d.toNat : Nat) : Int) := by omega
  rw [e1, e2, e3, u32_or_nat _ _ (by omega) (by omega), Nat.or_comm, ← Nat.two_pow_add_eq_or_of_lt (by omega : a.toNat < 2 ^ 8)]
  rw [u32_or_nat _ _ (by omega) (by omega), Nat.or_comm, ← Nat.two_pow_add_eq_or_of_lt (by omega : 2 ^ 8 * b.toNat + a.toNat < 2 ^ 16)]
  rw [u32_or_nat _ _ (by omega) (by omega), Nat.or_comm, ← Nat.two_pow_add_eq_or_of_lt (by omega : 2 ^ 16 * c.toNat + (2 ^ 8 * b.toNat + a.toNat) < 2 ^ 24)]
  unfold le32
  rw [UInt32.toNat_ofNat']
  omega
theorem u32_byte (b : UInt8) : IntKind.u32.wrap (b.toNat : Int) = (b.toNat : Int) := by
  have := b.toNat_lt
  rw [IntKind.wrap_u32]; omega
theorem le_eq' (a b c d : UInt8) :
    bits .or .u32 (bits .or .u32 (bits .or .u32 (IntKind.u32.wrap (a.toNat : Int)) (IntKind.u32.wrap (IntKind.u32.wrap (b.toNat : Int) * 256))) (IntKind.u32.wrap (IntKind.u32.wrap (c.toNat : Int) * 65536))) (IntKind.u32.wrap (IntKind.u32.wrap (d.toNat : Int) * 16777216)) = ((le32 a b c d).toNat : Int) := by
  rw [u32_byte, u32_byte, u32_byte, u32_byte, IntKind.wrap_u32, IntKind.wrap_u32, IntKind.wrap_u32]
  exact le_eq a b c d
end Go.Proofs.YtecamaceainfpaaDoor
