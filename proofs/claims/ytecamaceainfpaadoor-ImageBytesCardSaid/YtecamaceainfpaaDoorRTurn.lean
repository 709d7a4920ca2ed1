/-
  Walks: hibernacleref02.turned at the four numbers that its mix hands over; place.
-/
import Derived.Test.YtecamaceainfpaaDoorProg
import Derived.Test.YtecamaceainfpaaDoorWords
import Derived.Test.YtecamaceainfpaaDoorNums
namespace Go.Proofs.YtecamaceainfpaaDoor
open Go.RowKit

theorem rotr_of (x : UInt32) (p q : Nat) (r : UInt32) (hr : r.toNat = (x.toNat / p) ||| (x.toNat * q % 4294967296)) :
    bits .or .u32 ((x.toNat : Int) / (p : Int)) ((x.toNat : Int) * (q : Int) % 4294967296) = (r.toNat : Int) := by
  have hx := x.toNat_lt
  have h1 : x.toNat / p < 4294967296 := Nat.lt_of_le_of_lt (Nat.div_le_self _ _) hx
  rw [u_or_parts (x.toNat / p) (x.toNat * q % 4294967296) h1 (Nat.mod_lt _ (by decide)) _ _ (by rw [Int.natCast_ediv]) (by rw [Int.natCast_emod, Int.natCast_mul]; rfl), hr]
theorem ua_assoc (x y z : UInt32) : ua (ua x y) z = ua x (ua y z) := by unfold ua; rw [UInt32.add_assoc]

theorem turn16_eq (x : UInt32) : bits .or .u32 ((x.toNat : Int) / 65536) ((x.toNat : Int) * 65536 % 4294967296) = ((R16 x).toNat : Int) :=
  rotr_of x 65536 65536 _ (by simp [R16, Nat.shiftRight_eq_div_pow, Nat.shiftLeft_eq])
set_option maxHeartbeats 400000 in
theorem turn16 (x : UInt32) (w : World) :
    Calls Tryd.prog 156 #[U x, .int .u64 16] w fun e w' => e = .returned (U (R16 x)) ∧ w' = w := by
  go_enter Tryd.func156, Tryd.ntmps156
  go_wp2
  go_ret
  exact ⟨ret_int (turn16_eq x), rfl⟩
theorem turn12_eq (x : UInt32) : bits .or .u32 ((x.toNat : Int) / 4096) ((x.toNat : Int) * 1048576 % 4294967296) = ((R12 x).toNat : Int) :=
  rotr_of x 4096 1048576 _ (by simp [R12, Nat.shiftRight_eq_div_pow, Nat.shiftLeft_eq])
set_option maxHeartbeats 400000 in
theorem turn12 (x : UInt32) (w : World) :
    Calls Tryd.prog 156 #[U x, .int .u64 12] w fun e w' => e = .returned (U (R12 x)) ∧ w' = w := by
  go_enter Tryd.func156, Tryd.ntmps156
  go_wp2
  go_ret
  exact ⟨ret_int (turn12_eq x), rfl⟩
theorem turn8_eq (x : UInt32) : bits .or .u32 ((x.toNat : Int) / 256) ((x.toNat : Int) * 16777216 % 4294967296) = ((R8 x).toNat : Int) :=
  rotr_of x 256 16777216 _ (by simp [R8, Nat.shiftRight_eq_div_pow, Nat.shiftLeft_eq])
set_option maxHeartbeats 400000 in
theorem turn8 (x : UInt32) (w : World) :
    Calls Tryd.prog 156 #[U x, .int .u64 8] w fun e w' => e = .returned (U (R8 x)) ∧ w' = w := by
  go_enter Tryd.func156, Tryd.ntmps156
  go_wp2
  go_ret
  exact ⟨ret_int (turn8_eq x), rfl⟩
theorem turn7_eq (x : UInt32) : bits .or .u32 ((x.toNat : Int) / 128) ((x.toNat : Int) * 33554432 % 4294967296) = ((R7 x).toNat : Int) :=
  rotr_of x 128 33554432 _ (by simp [R7, Nat.shiftRight_eq_div_pow, Nat.shiftLeft_eq])
set_option maxHeartbeats 400000 in
theorem turn7 (x : UInt32) (w : World) :
    Calls Tryd.prog 156 #[U x, .int .u64 7] w fun e w' => e = .returned (U (R7 x)) ∧ w' = w := by
  go_enter Tryd.func156, Tryd.ntmps156
  go_wp2
  go_ret
  exact ⟨ret_int (turn7_eq x), rfl⟩
/-- a sign of a row as a number -/
def placeN (b : UInt8) : Nat := if 97 ≤ b.toNat then b.toNat - 87 else b.toNat - 48
theorem place_any (b : UInt8) (hb : 48 ≤ b.toNat) (w : World) :
    Calls Tryd.prog 133 #[.int .u8 (b.toNat : Int)] w fun e w' => e = .returned (.int .i64 (placeN b : Int)) ∧ w' = w := by
  have hlt := b.toNat_lt
  by_cases h : 97 ≤ b.toNat
  · have hd : decide ((97 : Int) ≤ (b.toNat : Int)) = true := by simp; omega
    go_enter Tryd.func133, Tryd.ntmps133
    go_wp2
    go_ret
    exact ⟨ret_int (by unfold placeN; rw [if_pos h]; go_num), rfl⟩
  · have hd : decide ((97 : Int) ≤ (b.toNat : Int)) = false := by simp; omega
    go_enter Tryd.func133, Tryd.ntmps133
    go_wp2
    go_ret
    exact ⟨ret_int (by unfold placeN; rw [if_neg h]; go_num), rfl⟩
end Go.Proofs.YtecamaceainfpaaDoor
