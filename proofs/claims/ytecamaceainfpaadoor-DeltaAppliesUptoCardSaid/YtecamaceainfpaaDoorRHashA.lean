/-
  Walks: hibernacleref02.turned at the four numbers that its mix hands over; place.
-/
import Derived.Test.YtecamaceainfpaaDoorProg
import Derived.Test.YtecamaceainfpaaDoorBase
import Derived.Test.YtecamaceainfpaaDoorHashA
import Derived.Test.YtecamaceainfpaaDoorHashB
namespace Go.Proofs.YtecamaceainfpaaDoor
open Go.RowKit

theorem rotr_of (x : UInt32) (p q : Nat) (r : UInt32) (hr : r.toNat = (x.toNat / p) ||| (x.toNat * q % 4294967296)) :
    bits .or .u32 ((x.toNat : Int) / (p : Int)) ((x.toNat : Int) * (q : Int) % 4294967296) = (r.toNat : Int) := by
  have hx := x.toNat_lt
  have h1 : x.toNat / p < 4294967296 := Nat.lt_of_le_of_lt (Nat.div_le_self _ _) hx
  rw [u_or_parts (x.toNat / p) (x.toNat * q % 4294967296) h1 (Nat.mod_lt _ (by decide)) _ _ (by rw [Int.natCast_ediv]) (by rw [Int.natCast_emod, Int.natCast_mul]; rfl), hr]
theorem ua_assoc (x y z : UInt32) : ua (ua x y) z = ua x (ua y z) := by unfold ua; rw [UInt32.add_assoc]

theorem turn16_eq (x : UInt32) : bits .or .u32 ((x.toNat : Int) / 65536) ((x.toNat : Int) * 65536 % 4294967296) = ((R16 x).toNat : Int) :=
  rotr_of x 65536 65536 _ (by simp [R16, Nat.shiftRight_eq_div_pow, Nat.shiftLeft_eq])
set_option maxHeartbeats 400000 in
theorem turn16 (x : UInt32) (w : World) :
    Calls Tryd.prog 156 #[U x, .int .u64 16] w fun e w' => e = .returned (U (R16 x)) ∧ w' = w := by
  go_enter Tryd.func156, Tryd.ntmps156
  go_wp2
  go_ret
  exact ⟨ret_int (turn16_eq x), rfl⟩
theorem turn12_eq (x : UInt32) : bits .or .u32 ((x.toNat : Int) / 4096) ((x.toNat : Int) * 1048576 % 4294967296) = ((R12 x).toNat : Int) :=
  rotr_of x 4096 1048576 _ (by simp [R12, Nat.shiftRight_eq_div_pow, Nat.shiftLeft_eq])
set_option maxHeartbeats 400000 in
theorem turn12 (x : UInt32) (w : World) :
    Calls Tryd.prog 156 #[U x, .int .u64 12] w fun e w' => e = .returned (U (R12 x)) ∧ w' = w := by
  go_enter Tryd.func156, Tryd.ntmps156
  go_wp2
  go_ret
  exact ⟨ret_int (turn12_eq x), rfl⟩
theorem turn8_eq (x : UInt32) : bits .or .u32 ((x.toNat : Int) / 256) ((x.toNat : Int) * 16777216 % 4294967296) = ((R8 x).toNat : Int) :=
  rotr_of x 256 16777216 _ (by simp [R8, Nat.shiftRight_eq_div_pow, Nat.shiftLeft_eq])
set_option maxHeartbeats 400000 in
theorem turn8 (x : UInt32) (w : World) :
    Calls Tryd.prog 156 #[U x, .int .u64 8] w fun e w' => e = .returned (U (R8 x)) ∧ w' = w := by
  go_enter Tryd.func156, Tryd.ntmps156
  go_wp2
  go_ret
  exact ⟨ret_int (turn8_eq x), rfl⟩
theorem turn7_eq (x : UInt32) : bits .or .u32 ((x.toNat : Int) / 128) ((x.toNat : Int) * 33554432 % 4294967296) = ((R7 x).toNat : Int) :=
  rotr_of x 128 33554432 _ (by simp [R7, Nat.shiftRight_eq_div_pow, Nat.shiftLeft_eq])
set_option maxHeartbeats 400000 in
theorem turn7 (x : UInt32) (w : World) :
    Calls Tryd.prog 156 #[U x, .int .u64 7] w fun e w' => e = .returned (U (R7 x)) ∧ w' = w := by
  go_enter Tryd.func156, Tryd.ntmps156
  go_wp2
  go_ret
  exact ⟨ret_int (turn7_eq x), rfl⟩
/-- a sign of a row as a number -/
def placeN (b : UInt8) : Nat := if 97 ≤ b.toNat then b.toNat - 87 else b.toNat - 48
theorem place_any (b : UInt8) (hb : 48 ≤ b.toNat) (w : World) :
    Calls Tryd.prog 133 #[.int .u8 (b.toNat : Int)] w fun e w' => e = .returned (.int .i64 (placeN b : Int)) ∧ w' = w := by
  have hlt := b.toNat_lt
  by_cases h : 97 ≤ b.toNat
  · have hd : decide ((97 : Int) ≤ (b.toNat : Int)) = true := by simp; omega
    go_enter Tryd.func133, Tryd.ntmps133
    go_wp2
    go_ret
    exact ⟨ret_int (by unfold placeN; rw [if_pos h]; go_num), rfl⟩
  · have hd : decide ((97 : Int) ≤ (b.toNat : Int)) = false := by simp; omega
    go_enter Tryd.func133, Tryd.ntmps133
    go_wp2
    go_ret
    exact ⟨ret_int (by unfold placeN; rw [if_neg h]; go_num), rfl⟩
end Go.Proofs.YtecamaceainfpaaDoor
/-
  Walk: hibernacleref02.mix, sixteen 32-bit numbers by value. (Its eight steps were printed by gen_rmix.py.)
-/
namespace Go.Proofs.YtecamaceainfpaaDoor
open Go.RowKit
attribute [local go_sem] u_wadd u_xor u_add

theorem U_one (p : List UInt32) : ∀ v ∈ p.map U, v.oneCell' = true := by
  intro v hv
  obtain ⟨b, _, rfl⟩ := List.mem_map.1 hv
  rfl
set_option maxRecDepth 100000 in
set_option maxHeartbeats 2000000 in
theorem rmix_any (w : World) (v : List UInt32) (a b c d : Nat) (x y : UInt32) (hv : v.length = 16)
    (ha : a < 4) (hb : 4 ≤ b) (hb' : b < 8) (hc : 8 ≤ c) (hc' : c < 12) (hd : 12 ≤ d) (hd' : d < 16) :
    Calls Tryd.prog 134 #[.agg (v.map U).toArray, .int .i64 a, .int .i64 b, .int .i64 c, .int .i64 d, U x, U y] w fun e w' => e = .returned (.agg ((mixL v a b c d x y).map U).toArray) ∧ Below w.heap.size w w' := by
  have ia : (a : Int) < 16 := by omega
  have ib : (b : Int) < 16 := by omega
  have ic : (c : Int) < 16 := by omega
  have id : (d : Int) < 16 := by omega
  have HV := Lib.hid hv
  have hsz : (v.map U).toArray.size = 16 := by simp [hv]
  clear hv
  obtain ⟨a0, A0⟩ : ∃ a0, Hid (v.getD a 0 = a0) := ⟨_, Lib.hid rfl⟩
  obtain ⟨b0, B0⟩ : ∃ b0, Hid (v.getD b 0 = b0) := ⟨_, Lib.hid rfl⟩
  obtain ⟨c0, C0⟩ : ∃ c0, Hid (v.getD c 0 = c0) := ⟨_, Lib.hid rfl⟩
  obtain ⟨d0, D0⟩ : ∃ d0, Hid (v.getD d 0 = d0) := ⟨_, Lib.hid rfl⟩
  go_enter Tryd.func134, Tryd.ntmps134
  go_wp2
  have hg := (Whole.made w 145 (v.map U).toArray).block (.cells ((List.replicate 16 (0 : UInt32)).map U).toArray 145)
  have hr := Whole.made (w.alloc (.cells (v.map U).toArray 145)) 145 ((List.replicate 16 (0 : UInt32)).map U).toArray
  have hbl : Below w.heap.size w ((w.alloc (.cells (v.map U).toArray 145)).alloc (.cells ((List.replicate 16 (0 : UInt32)).map U).toArray 145)) := ((Below.refl _ _).alloc (Nat.le_refl _) _).alloc (by simp) _
  rw [show (w.alloc (.cells (v.map U).toArray 145)).heap.size = w.heap.size + 1 by simp] at hr
  change Code.wp _ _ _ _ ((w.alloc (.cells (v.map U).toArray 145)).alloc (.cells ((List.replicate 16 (0 : UInt32)).map U).toArray 145))
  generalize (w.alloc (.cells (v.map U).toArray 145)).alloc (.cells ((List.replicate 16 (0 : UInt32)).map U).toArray 145) = w0 at *
  generalize hgx : w.heap.size = g at *
  have HGX := Lib.hid hgx
  have HBL := Lib.hid hbl
  have HRS := Lib.hid hr
  clear hgx hbl hr hsz
  have ca : w0.cell? ⟨g, a, none⟩ = some (U a0) := by rw [cell_U hg (by have := HV.out; omega), A0.out]
  have cb : w0.cell? ⟨g, b, none⟩ = some (U b0) := by rw [cell_U hg (by have := HV.out; omega), B0.out]
  have cc : w0.cell? ⟨g, c, none⟩ = some (U c0) := by rw [cell_U hg (by have := HV.out; omega), C0.out]
  have cd : w0.cell? ⟨g, d, none⟩ = some (U d0) := by rw [cell_U hg (by have := HV.out; omega), D0.out]
  have O0 := Lib.hid (World.grownBy.refl w0 (some g))
  have HG := Lib.hid hg
  clear hg
  -- step 0
  go_still_tail 11, (by kernel_rfl)
  show wpList _ _ _ _ _ w0.drew
  have fa := HG.out.free a
  go_wp2_with fail
  obtain ⟨a1, E0⟩ : ∃ z, Hid (ua (ua a0 b0) x = z) := ⟨_, Lib.hid rfl⟩
  rw [E0.out]
  have G0 := Lib.hid (set_U HG.out a a1)
  have P0 := Lib.hid (O0.out.trans (far_U (w := w0) (g := g) a a1))
  have na : (w0.setCell ⟨g, a, none⟩ (U a1)).drew.cell? ⟨g, a, none⟩ = some (U a1) := World.cell?_setCell_same w0 ⟨g, a, none⟩ _ ca
  have nb : (w0.setCell ⟨g, a, none⟩ (U a1)).drew.cell? ⟨g, b, none⟩ = some (U b0) := (World.cell?_setCell_other w0 ⟨g, a, none⟩ ⟨g, b, none⟩ _ (fun e => by injection e with e1 e2; omega)).trans cb
  have nc : (w0.setCell ⟨g, a, none⟩ (U a1)).drew.cell? ⟨g, c, none⟩ = some (U c0) := (World.cell?_setCell_other w0 ⟨g, a, none⟩ ⟨g, c, none⟩ _ (fun e => by injection e with e1 e2; omega)).trans cc
  have nd : (w0.setCell ⟨g, a, none⟩ (U a1)).drew.cell? ⟨g, d, none⟩ = some (U d0) := (World.cell?_setCell_other w0 ⟨g, a, none⟩ ⟨g, d, none⟩ _ (fun e => by injection e with e1 e2; omega)).trans cd
  clear ca cb cc cd fa O0 HG
  generalize (w0.setCell ⟨g, a, none⟩ (U a1)).drew = w1 at *
  have ca := na
  have cb := nb
  have cc := nc
  have cd := nd
  have O0 := P0
  have HG := G0
  clear na nb nc nd P0 G0
  -- step 1
  go_still_tail 10, (by kernel_rfl)
  still_call (turn16 _ _)
  repeat still_step
  refine wpStill_nil ?_
  show wpList _ _ _ _ _ w1.drew
  have fd := HG.out.free d
  go_wp2_with fail
  obtain ⟨d1, E1⟩ : ∃ z, Hid (R16 (ux d0 a1) = z) := ⟨_, Lib.hid rfl⟩
  rw [E1.out]
  have G1 := Lib.hid (set_U HG.out d d1)
  have P1 := Lib.hid (O0.out.trans (far_U (w := w1) (g := g) d d1))
  have na : (w1.setCell ⟨g, d, none⟩ (U d1)).drew.cell? ⟨g, a, none⟩ = some (U a1) := (World.cell?_setCell_other w1 ⟨g, d, none⟩ ⟨g, a, none⟩ _ (fun e => by injection e with e1 e2; omega)).trans ca
  have nb : (w1.setCell ⟨g, d, none⟩ (U d1)).drew.cell? ⟨g, b, none⟩ = some (U b0) := (World.cell?_setCell_other w1 ⟨g, d, none⟩ ⟨g, b, none⟩ _ (fun e => by injection e with e1 e2; omega)).trans cb
  have nc : (w1.setCell ⟨g, d, none⟩ (U d1)).drew.cell? ⟨g, c, none⟩ = some (U c0) := (World.cell?_setCell_other w1 ⟨g, d, none⟩ ⟨g, c, none⟩ _ (fun e => by injection e with e1 e2; omega)).trans cc
  have nd : (w1.setCell ⟨g, d, none⟩ (U d1)).drew.cell? ⟨g, d, none⟩ = some (U d1) := World.cell?_setCell_same w1 ⟨g, d, none⟩ _ cd
  clear ca cb cc cd fd O0 HG
  generalize (w1.setCell ⟨g, d, none⟩ (U d1)).drew = w2 at *
  have ca := na
  have cb := nb
  have cc := nc
  have cd := nd
  have O0 := P1
  have HG := G1
  clear na nb nc nd P1 G1
  -- step 2
  go_still_tail 9, (by kernel_rfl)
  show wpList _ _ _ _ _ w2.drew
  have fc := HG.out.free c
  go_wp2_with fail
  obtain ⟨c1, E2⟩ : ∃ z, Hid (ua c0 d1 = z) := ⟨_, Lib.hid rfl⟩
  rw [E2.out]
  have G2 := Lib.hid (set_U HG.out c c1)
  have P2 := Lib.hid (O0.out.trans (far_U (w := w2) (g := g) c c1))
  have na : (w2.setCell ⟨g, c, none⟩ (U c1)).drew.cell? ⟨g, a, none⟩ = some (U a1) := (World.cell?_setCell_other w2 ⟨g, c, none⟩ ⟨g, a, none⟩ _ (fun e => by injection e with e1 e2; omega)).trans ca
  have nb : (w2.setCell ⟨g, c, none⟩ (U c1)).drew.cell? ⟨g, b, none⟩ = some (U b0) := (World.cell?_setCell_other w2 ⟨g, c, none⟩ ⟨g, b, none⟩ _ (fun e => by injection e with e1 e2; omega)).trans cb
  have nc : (w2.setCell ⟨g, c, none⟩ (U c1)).drew.cell? ⟨g, c, none⟩ = some (U c1) := World.cell?_setCell_same w2 ⟨g, c, none⟩ _ cc
  have nd : (w2.setCell ⟨g, c, none⟩ (U c1)).drew.cell? ⟨g, d, none⟩ = some (U d1) := (World.cell?_setCell_other w2 ⟨g, c, none⟩ ⟨g, d, none⟩ _ (fun e => by injection e with e1 e2; omega)).trans cd
  clear ca cb cc cd fc O0 HG
  generalize (w2.setCell ⟨g, c, none⟩ (U c1)).drew = w3 at *
  have ca := na
  have cb := nb
  have cc := nc
  have cd := nd
  have O0 := P2
  have HG := G2
  clear na nb nc nd P2 G2
  -- step 3
  go_still_tail 10, (by kernel_rfl)
  still_call (turn12 _ _)
  repeat still_step
  refine wpStill_nil ?_
  show wpList _ _ _ _ _ w3.drew
  have fb := HG.out.free b
  go_wp2_with fail
  obtain ⟨b1, E3⟩ : ∃ z, Hid (R12 (ux b0 c1) = z) := ⟨_, Lib.hid rfl⟩
  rw [E3.out]
  have G3 := Lib.hid (set_U HG.out b b1)
  have P3 := Lib.hid (O0.out.trans (far_U (w := w3) (g := g) b b1))
  have na : (w3.setCell ⟨g, b, none⟩ (U b1)).drew.cell? ⟨g, a, none⟩ = some (U a1) := (World.cell?_setCell_other w3 ⟨g, b, none⟩ ⟨g, a, none⟩ _ (fun e => by injection e with e1 e2; omega)).trans ca
  have nb : (w3.setCell ⟨g, b, none⟩ (U b1)).drew.cell? ⟨g, b, none⟩ = some (U b1) := World.cell?_setCell_same w3 ⟨g, b, none⟩ _ cb
  have nc : (w3.setCell ⟨g, b, none⟩ (U b1)).drew.cell? ⟨g, c, none⟩ = some (U c1) := (World.cell?_setCell_other w3 ⟨g, b, none⟩ ⟨g, c, none⟩ _ (fun e => by injection e with e1 e2; omega)).trans cc
  have nd : (w3.setCell ⟨g, b, none⟩ (U b1)).drew.cell? ⟨g, d, none⟩ = some (U d1) := (World.cell?_setCell_other w3 ⟨g, b, none⟩ ⟨g, d, none⟩ _ (fun e => by injection e with e1 e2; omega)).trans cd
  clear ca cb cc cd fb O0 HG
  generalize (w3.setCell ⟨g, b, none⟩ (U b1)).drew = w4 at *
  have ca := na
  have cb := nb
  have cc := nc
  have cd := nd
  have O0 := P3
  have HG := G3
  clear na nb nc nd P3 G3
  -- step 4
  go_still_tail 11, (by kernel_rfl)
  show wpList _ _ _ _ _ w4.drew
  have fa := HG.out.free a
  go_wp2_with fail
  obtain ⟨a2, E4⟩ : ∃ z, Hid (ua (ua a1 b1) y = z) := ⟨_, Lib.hid rfl⟩
  rw [E4.out]
  have G4 := Lib.hid (set_U HG.out a a2)
  have P4 := Lib.hid (O0.out.trans (far_U (w := w4) (g := g) a a2))
  have na : (w4.setCell ⟨g, a, none⟩ (U a2)).drew.cell? ⟨g, a, none⟩ = some (U a2) := World.cell?_setCell_same w4 ⟨g, a, none⟩ _ ca
  have nb : (w4.setCell ⟨g, a, none⟩ (U a2)).drew.cell? ⟨g, b, none⟩ = some (U b1) := (World.cell?_setCell_other w4 ⟨g, a, none⟩ ⟨g, b, none⟩ _ (fun e => by injection e with e1 e2; omega)).trans cb
  have nc : (w4.setCell ⟨g, a, none⟩ (U a2)).drew.cell? ⟨g, c, none⟩ = some (U c1) := (World.cell?_setCell_other w4 ⟨g, a, none⟩ ⟨g, c, none⟩ _ (fun e => by injection e with e1 e2; omega)).trans cc
  have nd : (w4.setCell ⟨g, a, none⟩ (U a2)).drew.cell? ⟨g, d, none⟩ = some (U d1) := (World.cell?_setCell_other w4 ⟨g, a, none⟩ ⟨g, d, none⟩ _ (fun e => by injection e with e1 e2; omega)).trans cd
  clear ca cb cc cd fa O0 HG
  generalize (w4.setCell ⟨g, a, none⟩ (U a2)).drew = w5 at *
  have ca := na
  have cb := nb
  have cc := nc
  have cd := nd
  have O0 := P4
  have HG := G4
  clear na nb nc nd P4 G4
  -- step 5
  go_still_tail 10, (by kernel_rfl)
  still_call (turn8 _ _)
  repeat still_step
  refine wpStill_nil ?_
  show wpList _ _ _ _ _ w5.drew
  have fd := HG.out.free d
  go_wp2_with fail
  obtain ⟨d2, E5⟩ : ∃ z, Hid (R8 (ux d1 a2) = z) := ⟨_, Lib.hid rfl⟩
  rw [E5.out]
  have G5 := Lib.hid (set_U HG.out d d2)
  have P5 := Lib.hid (O0.out.trans (far_U (w := w5) (g := g) d d2))
  have na : (w5.setCell ⟨g, d, none⟩ (U d2)).drew.cell? ⟨g, a, none⟩ = some (U a2) := (World.cell?_setCell_other w5 ⟨g, d, none⟩ ⟨g, a, none⟩ _ (fun e => by injection e with e1 e2; omega)).trans ca
  have nb : (w5.setCell ⟨g, d, none⟩ (U d2)).drew.cell? ⟨g, b, none⟩ = some (U b1) := (World.cell?_setCell_other w5 ⟨g, d, none⟩ ⟨g, b, none⟩ _ (fun e => by injection e with e1 e2; omega)).trans cb
  have nc : (w5.setCell ⟨g, d, none⟩ (U d2)).drew.cell? ⟨g, c, none⟩ = some (U c1) := (World.cell?_setCell_other w5 ⟨g, d, none⟩ ⟨g, c, none⟩ _ (fun e => by injection e with e1 e2; omega)).trans cc
  have nd : (w5.setCell ⟨g, d, none⟩ (U d2)).drew.cell? ⟨g, d, none⟩ = some (U d2) := World.cell?_setCell_same w5 ⟨g, d, none⟩ _ cd
  clear ca cb cc cd fd O0 HG
  generalize (w5.setCell ⟨g, d, none⟩ (U d2)).drew = w6 at *
  have ca := na
  have cb := nb
  have cc := nc
  have cd := nd
  have O0 := P5
  have HG := G5
  clear na nb nc nd P5 G5
  -- step 6
  go_still_tail 9, (by kernel_rfl)
  show wpList _ _ _ _ _ w6.drew
  have fc := HG.out.free c
  go_wp2_with fail
  obtain ⟨c2, E6⟩ : ∃ z, Hid (ua c1 d2 = z) := ⟨_, Lib.hid rfl⟩
  rw [E6.out]
  have G6 := Lib.hid (set_U HG.out c c2)
  have P6 := Lib.hid (O0.out.trans (far_U (w := w6) (g := g) c c2))
  have na : (w6.setCell ⟨g, c, none⟩ (U c2)).drew.cell? ⟨g, a, none⟩ = some (U a2) := (World.cell?_setCell_other w6 ⟨g, c, none⟩ ⟨g, a, none⟩ _ (fun e => by injection e with e1 e2; omega)).trans ca
  have nb : (w6.setCell ⟨g, c, none⟩ (U c2)).drew.cell? ⟨g, b, none⟩ = some (U b1) := (World.cell?_setCell_other w6 ⟨g, c, none⟩ ⟨g, b, none⟩ _ (fun e => by injection e with e1 e2; omega)).trans cb
  have nc : (w6.setCell ⟨g, c, none⟩ (U c2)).drew.cell? ⟨g, c, none⟩ = some (U c2) := World.cell?_setCell_same w6 ⟨g, c, none⟩ _ cc
  have nd : (w6.setCell ⟨g, c, none⟩ (U c2)).drew.cell? ⟨g, d, none⟩ = some (U d2) := (World.cell?_setCell_other w6 ⟨g, c, none⟩ ⟨g, d, none⟩ _ (fun e => by injection e with e1 e2; omega)).trans cd
  clear ca cb cc cd fc O0 HG
  generalize (w6.setCell ⟨g, c, none⟩ (U c2)).drew = w7 at *
  have ca := na
  have cb := nb
  have cc := nc
  have cd := nd
  have O0 := P6
  have HG := G6
  clear na nb nc nd P6 G6
  -- step 7, and what is handed back
  go_still_tail 10, (by kernel_rfl)
  still_call (turn7 _ _)
  repeat still_step
  refine wpStill_nil ?_
  show wpList _ _ _ _ _ w7.drew
  have fb := HG.out.free b
  have h := set_U HG.out b (R7 (ux b1 c2))
  have P7 := O0.out.trans (far_U (w := w7) (g := g) b (R7 (ux b1 c2)))
  rw [sets_twice] at h
  have hm : ((((v.set a a2).set d d2).set c c2).set b (R7 (ux b1 c2))) = mixL v a b c d x y := by
    unfold mixL
    dsimp only
    rw [← ua_assoc, ← ua_assoc, A0.out, B0.out, C0.out, D0.out, E0.out, E1.out, E2.out, E3.out, E4.out, E5.out, E6.out]
  rw [hm] at h
  have hml : (mixL v a b c d x y).length = 16 := by rw [mixL_length]; exact HV.out
  obtain ⟨M, HM⟩ : ∃ z, Hid (mixL v a b c d x y = z) := ⟨_, Lib.hid rfl⟩
  rw [HM.out] at h hml
  have HW := Lib.hid h
  have HRW := Lib.hid (HRS.out.other P7 (by simp))
  have O7 := Lib.hid P7
  have HML := Lib.hid hml
  have HI : Hid ((Tryd.prog.info? 145).map (·.size) = some (M.map U).length) := Lib.hid (by rw [List.length_map, HML.out]; kernel_rfl)
  have HF : Hid (0 + (M.map U).length ≤ ((List.replicate 16 (0 : UInt32)).map U).length) := Lib.hid (by rw [List.length_map, HML.out]; decide)
  have HC : Hid (∀ j u, (M.map U)[j]? = some u → (w7.setCell ⟨g, b, none⟩ (U (R7 (ux b1 c2)))).drew.cell? ((⟨g, 0, none⟩ : Addr).add j) = some u) := Lib.hid (fun j u hu => by
    rw [show (⟨g, 0, none⟩ : Addr).add j = ⟨g, j, none⟩ by unfold Addr.add; split <;> simp_all]
    rw [HW.out.cell, List.getElem?_toArray]; exact hu)
  clear h hm hml P7
  go_wp2_with (first
    | (refine wpList_load_at rfl 145 (.tmp 7) rfl ⟨g, 0, none⟩ rfl (M.map U) _ HC.out Tryd.underlying145 rfl HI.out ?_)
    | (refine wpList_store_at rfl 145 (.tmp 14) (.tmp 95) rfl rfl (g + 1) 0 rfl (M.map U) rfl HI.out ((List.replicate 16 (0 : UInt32)).map U) 145 HRW.out HF.out (U_one _) ?_; intro w9 H9 F9))
  have h9 : Whole w9 (g + 1) 145 (M.map U).toArray := by
    have := H9.out
    rw [List.length_map, HML.out] at this
    simpa using this
  refine bodyPost_ret (v := .agg (M.map U).toArray) (results_cell_row rfl _ _ (g + 1) 145 _ (0, 0) _ rfl h9 Tryd.underlying145 rfl (by rw [List.size_toArray]; exact HI.out)) rfl ⟨by rw [HM.out], ?_⟩
  rw [HGX.out]
  exact below_grown (below_grown HBL.out O7.out (by have := HBL.out.size; rw [HGX.out] at this; exact this) (Nat.le_refl _)) F9.out (by have := HBL.out.size; have h2 := O7.out.size; rw [HGX.out] at this; omega) (by omega)
end Go.Proofs.YtecamaceainfpaaDoor
/-
  Walks: hibernacleref02.eight, rows, joined.
-/
namespace Go.Proofs.YtecamaceainfpaaDoor
open Go.RowKit

set_option maxRecDepth 100000 in
theorem eight_any (w : World) :
    Calls Tryd.prog 92 #[] w fun e w' => e = .returned (.agg (IV.map U).toArray) ∧ Below w.heap.size w w' := by
  go_enter Tryd.func92, Tryd.ntmps92
  go_wp2
  exact bodyPost_ret (v := .agg (IV.map U).toArray) (results_cell_row rfl _ _ w.heap.size 96 _ (0, 0) _ rfl (Whole.made w 96 (IV.map U).toArray) Tryd.underlying96 rfl (by kernel_rfl)) rfl ⟨rfl, (Below.refl _ _).alloc (Nat.le_refl _) _⟩

/-- the rows' signs -/
def ROWS : List (List UInt8) := SIG.map fun r => r.map fun n => if n < 10 then UInt8.ofNat (48 + n) else UInt8.ofNat (87 + n)
set_option maxRecDepth 100000 in
theorem rows_any (w : World) :
    Calls Tryd.prog 132 #[] w fun e w' => e = .returned (.slice (some ⟨w.heap.size, 0, none⟩) 10 10) ∧ w' = w.alloc (.cells (ROWS.map S).toArray 9) := by
  go_enter Tryd.func132, Tryd.ntmps132
  go_wp2
  go_ret
  exact ⟨rfl, by kernel_rfl⟩

theorem concat_S (x y : List UInt8) : Value.string ({ data := x.toArray } ++ { data := y.toArray }) = S (x ++ y) := by
  show Value.string _ = Value.string _
  congr 1
attribute [local go_sem] concat_S
theorem flatten_snoc (ls : List (List UInt8)) {k : Nat} (h : k < ls.length) : (ls.take (k + 1)).flatten = (ls.take k).flatten ++ ls.getD k [] := by
  rw [List.take_succ_eq_append_getElem h, List.flatten_append]; simp [List.getD, h]
set_option maxRecDepth 100000 in
set_option maxHeartbeats 1000000 in
theorem joined_any (w : World) (A : Option Addr) (c : Nat) (ls : List (List UInt8)) (hA : Strs w w.heap.size A ls) (hn : ls.length ≤ 1099511627776) (hl : ls.flatten.length ≤ 1099511627776) :
    Calls Tryd.prog 94 #[.slice A ls.length c] w fun e w' => e = .returned (S ls.flatten) ∧ w' = w := by
  have HA := Lib.hid hA
  clear hA
  go_enter Tryd.func94, Tryd.ntmps94
  go_wp2
  go_loopw [3, 4] (fun s i wr => ∃ k : Nat, k ≤ ls.length ∧ i = .int .i64 k ∧ s = S (ls.take k).flatten ∧ Hid (wr = w)) (fun _ i _ => ls.length - (intOf i).toNat)
  case atStart => exact ⟨0, by omega, rfl, rfl, Lib.hid rfl⟩
  case round =>
    obtain ⟨k, hk, rfl, rfl, HE⟩ := hrel
    by_cases hlt : k < ls.length
    · obtain ⟨ad, rfl, had, hc⟩ := HA.out.at' hlt
      rw [← HE.out] at hc
      have hle := flat_le ls (k + 1)
      rw [flatten_snoc ls hlt] at hle
      have HF := Lib.hid (flatten_snoc ls hlt)
      generalize ls.getD k [] = y at *
      generalize (ls.take k).flatten = x at *
      have hno : ¬ (9223372036854775807 < x.length + y.length) := by rw [List.length_append] at hle; omega
      go_wp2
      go_roundw
      case rel =>
        have R : ∃ k' : Nat, k' ≤ ls.length ∧ Value.int .i64 ((k : Int) + 1) = .int .i64 k' ∧ S (x ++ y) = S (ls.take k').flatten ∧ Hid (wr = w) := ⟨k + 1, by omega, by go_num, by rw [HF.out], HE⟩
        first | exact R | ((repeat apply Exists.intro); exact ⟨R, rfl⟩)
      case measure => simp [intOf]; omega
    · obtain rfl : k = ls.length := by omega
      rw [List.take_of_length_le (Nat.le_refl _)]
      go_wp2
      go_ret
      exact ⟨rfl, HE.out⟩
end Go.Proofs.YtecamaceainfpaaDoor
