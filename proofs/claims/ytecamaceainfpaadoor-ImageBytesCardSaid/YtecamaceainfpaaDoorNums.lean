/-
  Plain numbers: 32-bit words as the model's integers. No program in sight.
-/
import Derived.WalkKit
namespace Go.Proofs.YtecamaceainfpaaDoor
open Go.RowKit

/-- a 32-bit number as a value -/
abbrev U (x : UInt32) : Value := .int .u32 (x.toNat : Int)

/-- sums and unlikenesses of 32-bit numbers, behind names that no simp set opens -/
def ua (x y : UInt32) : UInt32 := x + y
def ux (x y : UInt32) : UInt32 := x ^^^ y
def R16 (x : UInt32) : UInt32 := (x >>> 16) ||| (x <<< 16)
def R12 (x : UInt32) : UInt32 := (x >>> 12) ||| (x <<< 20)
def R8 (x : UInt32) : UInt32 := (x >>> 8) ||| (x <<< 24)
def R7 (x : UInt32) : UInt32 := (x >>> 7) ||| (x <<< 25)

theorem u_add (x y : UInt32) : ((x.toNat : Int) + (y.toNat : Int)) % 4294967296 = ((ua x y).toNat : Int) := by
  unfold ua; rw [UInt32.toNat_add]; omega
theorem u_wadd (x y : UInt32) : IntKind.u32.wrap ((x.toNat : Int) + (y.toNat : Int)) = ((ua x y).toNat : Int) := by
  rw [IntKind.wrap_u32]; exact u_add x y
theorem u_xor (x y : UInt32) : bits .xor .u32 (x.toNat : Int) (y.toNat : Int) = ((ux x y).toNat : Int) := by
  unfold ux; rw [u32_xor_nat _ _ x.toNat_lt y.toNat_lt, UInt32.toNat_xor]
theorem u_not (x : UInt32) : (4294967295 - (x.toNat : Int)) = ((~~~ x).toNat : Int) := by
  have := x.toNat_lt
  rw [UInt32.toNat_not]; simp [UInt32.size]; omega

theorem u_or_parts (x y : Nat) (hx : x < 4294967296) (hy : y < 4294967296) (i j : Int) (hi : i = (x : Int)) (hj : j = (y : Int)) : bits .or .u32 i j = ((x ||| y : Nat) : Int) := by
  subst hi hj; exact u32_or_nat x y hx hy

theorem rot_of (x : UInt32) (p q : Nat) (r : UInt32) (hr : r.toNat = (x.toNat / p) ||| (x.toNat * q % 4294967296)) :
    bits .or .u32 ((x.toNat : Int) * (q : Int) % 4294967296) ((x.toNat : Int) / (p : Int)) = (r.toNat : Int) := by
  have hx := x.toNat_lt
  have h1 : x.toNat / p < 4294967296 := Nat.lt_of_le_of_lt (Nat.div_le_self _ _) hx
  rw [u_or_parts (x.toNat * q % 4294967296) (x.toNat / p) (Nat.mod_lt _ (by decide)) h1 _ _ (by rw [Int.natCast_emod, Int.natCast_mul]; rfl) (by rw [Int.natCast_ediv]), hr, Nat.or_comm]

theorem rot16_eq (x : UInt32) : bits .or .u32 ((x.toNat : Int) * 65536 % 4294967296) ((x.toNat : Int) / 65536) = ((R16 x).toNat : Int) :=
  rot_of x 65536 65536 _ (by simp [R16, Nat.shiftRight_eq_div_pow, Nat.shiftLeft_eq])
theorem rot12_eq (x : UInt32) : bits .or .u32 ((x.toNat : Int) * 1048576 % 4294967296) ((x.toNat : Int) / 4096) = ((R12 x).toNat : Int) :=
  rot_of x 4096 1048576 _ (by simp [R12, Nat.shiftRight_eq_div_pow, Nat.shiftLeft_eq])
theorem rot8_eq (x : UInt32) : bits .or .u32 ((x.toNat : Int) * 16777216 % 4294967296) ((x.toNat : Int) / 256) = ((R8 x).toNat : Int) :=
  rot_of x 256 16777216 _ (by simp [R8, Nat.shiftRight_eq_div_pow, Nat.shiftLeft_eq])
theorem rot7_eq (x : UInt32) : bits .or .u32 ((x.toNat : Int) * 33554432 % 4294967296) ((x.toNat : Int) / 128) = ((R7 x).toNat : Int) :=
  rot_of x 128 33554432 _ (by simp [R7, Nat.shiftRight_eq_div_pow, Nat.shiftLeft_eq])

/-- what mix does to sixteen numbers -/
def mixL (v : List UInt32) (a b c d : Nat) (x y : UInt32) : List UInt32 :=
  let a1 := ua (v.getD a 0) (ua (v.getD b 0) x)
  let d1 := R16 (ux (v.getD d 0) a1)
  let c1 := ua (v.getD c 0) d1
  let b1 := R12 (ux (v.getD b 0) c1)
  let a2 := ua a1 (ua b1 y)
  let d2 := R8 (ux d1 a2)
  let c2 := ua c1 d2
  let b2 := R7 (ux b1 c2)
  (((v.set a a2).set d d2).set c c2).set b b2
theorem mixL_length (v : List UInt32) (a b c d : Nat) (x y : UInt32) : (mixL v a b c d x y).length = v.length := by simp [mixL]
end Go.Proofs.YtecamaceainfpaaDoor
