/-
  Walks: hibernacleref34.kept, texts, Same, SameImage, of things that are the same. (Printed by gen_fzsame.py.)
-/
import Derived.Test.YtmmfcjkabpffeaaDoorFzRefB
namespace Go.Proofs.YtmmfcjkabpffeaaDoor
open Go.RowKit

set_option maxRecDepth 100000 in
set_option maxHeartbeats 1000000 in
theorem rkept_true (w : World) (A B : Option Addr) (c d : Nat) (a : List (Kp)) (hA : Kps w w.heap.size A a) (hB : Kps w w.heap.size B a) (ha : a.length ≤ 1099511627776) :
    Calls Tryd.prog 27 #[.slice A a.length c, .slice B a.length d] w fun e w' => e = .returned (.bool true) ∧ Below w.heap.size w w' := by
  have HA := Lib.hid hA
  have HB := Lib.hid hB
  clear hA hB
  have n1 : ((a.length : Int) != (a.length : Int)) = false := by simp
  have n2 : (a.length != a.length) = false := by simp
  go_enter Tryd.func27, Tryd.ntmps27
  go_wp2_with fail
  clear n1 n2
  go_loopw [5] (fun i wr => ∃ k : Nat, k ≤ a.length ∧ i = .int .i64 k ∧ Hid (Below w.heap.size w wr)) (fun i _ => a.length - (intOf i).toNat)
  case atStart => exact ⟨0, by omega, rfl, Lib.hid (Below.refl _ _)⟩
  case round =>
    obtain ⟨k, hk, rfl, HW⟩ := hrel
    by_cases hlt : k < a.length
    · have i0 : (0 : Int) ≤ (k : Int) := by omega
      have i1 : (k : Int) < (a.length : Int) := by omega
      obtain ⟨ad, rfl, had, a0, a1⟩ := HA.out.at' hlt
      obtain ⟨bd, rfl, hbd, b0, b1⟩ := HB.out.at' hlt
      have a0' : wr.cell? (ad.add (k * 2)) = _ := (HW.out.cell (by rw [add_block]; exact had)).trans a0
      have a1' : wr.cell? ⟨(ad.add (k * 2)).block, (ad.add (k * 2)).off + 1, none⟩ = _ := (HW.out.cell (by show (ad.add (k * 2)).block < _; rw [add_block]; exact had)).trans a1
      have b0' : wr.cell? (bd.add (k * 2)) = _ := (HW.out.cell (by rw [add_block]; exact hbd)).trans b0
      have b1' : wr.cell? ⟨(bd.add (k * 2)).block, (bd.add (k * 2)).off + 1, none⟩ = _ := (HW.out.cell (by show (bd.add (k * 2)).block < _; rw [add_block]; exact hbd)).trans b1
      clear a0 a1 b0 b1
      generalize a.getD k (false, []) = x at *
      obtain ⟨x1, x2⟩ := x
      have e1 : (x1 != x1) = false := by simp
      have e2 : (x2 != x2) = false := by simp
      go_wp2_with fail
      go_quiet (fail)
      go_wp2_with fail
      go_roundw
      case rel =>
        have R : ∀ M : Nat, ∃ k' : Nat, k' ≤ a.length ∧ Value.int .i64 ((k : Int) + 1) = .int .i64 k' ∧ Hid (Below w.heap.size w (wr.drewN M)) := fun M => ⟨k + 1, by omega, by go_num, Lib.hid (Below.draws HW.out _)⟩
        first | exact R _ | ((repeat apply Exists.intro); exact ⟨R _, rfl⟩)
      case measure => simp [intOf]; omega
    · obtain rfl : k = a.length := by omega
      have hd : decide (a.length < a.length) = false := by simp
      go_wp2_with fail
      go_ret
      exact ⟨rfl, HW.out⟩
set_option maxRecDepth 100000 in
set_option maxHeartbeats 1000000 in
theorem rtexts_true (w : World) (A B : Option Addr) (c d : Nat) (a : List (List UInt8)) (hA : Strs w w.heap.size A a) (hB : Strs w w.heap.size B a) (ha : a.length ≤ 1099511627776) :
    Calls Tryd.prog 28 #[.slice A a.length c, .slice B a.length d] w fun e w' => e = .returned (.bool true) ∧ Below w.heap.size w w' := by
  have HA := Lib.hid hA
  have HB := Lib.hid hB
  clear hA hB
  have n1 : ((a.length : Int) != (a.length : Int)) = false := by simp
  have n2 : (a.length != a.length) = false := by simp
  go_enter Tryd.func28, Tryd.ntmps28
  go_wp2_with fail
  clear n1 n2
  go_loopw [5] (fun i wr => ∃ k : Nat, k ≤ a.length ∧ i = .int .i64 k ∧ Hid (Below w.heap.size w wr)) (fun i _ => a.length - (intOf i).toNat)
  case atStart => exact ⟨0, by omega, rfl, Lib.hid (Below.refl _ _)⟩
  case round =>
    obtain ⟨k, hk, rfl, HW⟩ := hrel
    by_cases hlt : k < a.length
    · have i0 : (0 : Int) ≤ (k : Int) := by omega
      have i1 : (k : Int) < (a.length : Int) := by omega
      obtain ⟨ad, rfl, had, a0⟩ := HA.out.at' hlt
      obtain ⟨bd, rfl, hbd, b0⟩ := HB.out.at' hlt
      have a0' : wr.cell? (ad.add k) = _ := (HW.out.cell (by rw [add_block]; exact had)).trans a0
      have b0' : wr.cell? (bd.add k) = _ := (HW.out.cell (by rw [add_block]; exact hbd)).trans b0
      clear a0 b0
      generalize a.getD k [] = x at *
      have e1 : (x != x) = false := by simp
      go_wp2_with fail
      go_quiet (fail)
      go_wp2_with fail
      go_roundw
      case rel =>
        have R : ∀ M : Nat, ∃ k' : Nat, k' ≤ a.length ∧ Value.int .i64 ((k : Int) + 1) = .int .i64 k' ∧ Hid (Below w.heap.size w (wr.drewN M)) := fun M => ⟨k + 1, by omega, by go_num, Lib.hid (Below.draws HW.out _)⟩
        first | exact R _ | ((repeat apply Exists.intro); exact ⟨R _, rfl⟩)
      case measure => simp [intOf]; omega
    · obtain rfl : k = a.length := by omega
      have hd : decide (a.length < a.length) = false := by simp
      go_wp2_with fail
      go_ret
      exact ⟨rfl, HW.out⟩
set_option maxRecDepth 100000 in
set_option maxHeartbeats 2000000 in
theorem rsame_true (w : World) (A A' B B' : Option Addr) (c c' d d' : Nat) (ck : Int) (fl bl : List Kp) (r : List UInt8) (hA : Kps w w.heap.size A fl) (hA' : Kps w w.heap.size A' bl) (hB : Kps w w.heap.size B fl) (hB' : Kps w w.heap.size B' bl) (h1 : fl.length ≤ 1099511627776) (h2 : bl.length ≤ 1099511627776) :
    Calls Tryd.prog 14 #[.agg #[.int .u64 ck, .slice A fl.length c, .slice A' bl.length c', S r], .agg #[.int .u64 ck, .slice B fl.length d, .slice B' bl.length d', S r]] w fun e w' => e = .returned (.bool true) ∧ Below w.heap.size w w' := by
  have hX := (Whole.made w 25 #[.int .u64 ck, .slice A fl.length c, .slice A' bl.length c', S r]).block (.cells #[.int .u64 ck, .slice B fl.length d, .slice B' bl.length d', S r] 25)
  have hY := Whole.made (w.alloc (.cells #[.int .u64 ck, .slice A fl.length c, .slice A' bl.length c', S r] 25)) 25 #[.int .u64 ck, .slice B fl.length d, .slice B' bl.length d', S r]
  have hb : Below w.heap.size w ((w.alloc (.cells #[.int .u64 ck, .slice A fl.length c, .slice A' bl.length c', S r] 25)).alloc (.cells #[.int .u64 ck, .slice B fl.length d, .slice B' bl.length d', S r] 25)) := ((Below.refl _ _).alloc (Nat.le_refl _) _).alloc (by simp) _
  rw [show (w.alloc (.cells #[.int .u64 ck, .slice A fl.length c, .slice A' bl.length c', S r] 25)).heap.size = w.heap.size + 1 by simp] at hY
  have HA := Lib.hid (hA.below hb)
  have HA' := Lib.hid (hA'.below hb)
  have HB := Lib.hid (hB.below hb)
  have HB' := Lib.hid (hB'.below hb)
  clear hA hA' hB hB'
  go_enter Tryd.func14, Tryd.ntmps14
  go_upto_region 1 with (fail)
  change Code.wp _ _ _ _ ((w.alloc (.cells #[.int .u64 ck, .slice A fl.length c, .slice A' bl.length c', S r] 25)).alloc (.cells #[.int .u64 ck, .slice B fl.length d, .slice B' bl.length d', S r] 25))
  generalize ((w.alloc (.cells #[.int .u64 ck, .slice A fl.length c, .slice A' bl.length c', S r] 25)).alloc (.cells #[.int .u64 ck, .slice B fl.length d, .slice B' bl.length d', S r] 25)) = w1 at *
  generalize hgx : w.heap.size = gx at *
  have HGX := Lib.hid hgx
  have HX := Lib.hid hX
  have HY := Lib.hid hY
  have HW := Lib.hid hb
  have hl1 := hY.lt
  clear hgx hb
  have HLL : Hid (∀ (W : World) (G : Option Addr) (xs : List Value), Below w1.heap.size w1 W → Lies w1 gx G xs → Lies W W.heap.size G xs) := Lib.hid fun W G xs hW h => (h.below (hW.mono (by omega))).wide (by have := hW.size; omega)
  have er : (r == r) = true := by simp
  have ec : (ck == ck) = true := by simp
  have x0 : w1.cell? ⟨gx, 0, none⟩ = some (.int .u64 ck) := hX.cell 0
  have y0 : w1.cell? ⟨gx + 1, 0, none⟩ = some (.int .u64 ck) := hY.cell 0
  have x1 : w1.cell? ⟨gx, 1, none⟩ = some (.slice A fl.length c) := hX.cell 1
  have y1 : w1.cell? ⟨gx + 1, 1, none⟩ = some (.slice B fl.length d) := hY.cell 1
  have x3 : w1.cell? ⟨gx, 3, none⟩ = some (S r) := hX.cell 3
  have y3 : w1.cell? ⟨gx + 1, 3, none⟩ = some (S r) := hY.cell 3
  clear hX hY
  go_wp2_with fail
  refine (rkept_true w1 A B c d fl (HLL.out _ _ _ (Below.refl _ _) HA.out) (HLL.out _ _ _ (Below.refl _ _) HB.out) h1).mono ?_
  rintro e w2 ⟨rfl, hb2⟩
  have x2 : w2.cell? ⟨gx, 2, none⟩ = some (.slice A' bl.length c') := (HX.out.below hb2 (by omega)).cell 2
  have y2 : w2.cell? ⟨gx + 1, 2, none⟩ = some (.slice B' bl.length d') := (HY.out.below hb2 (by omega)).cell 2
  have HB2 := Lib.hid hb2
  clear hb2 x1 y1 x3 y3
  go_wp2_with fail
  refine (rkept_true w2 A' B' c' d' bl (HLL.out _ _ _ HB2.out HA'.out) (HLL.out _ _ _ HB2.out HB'.out) h2).mono ?_
  rintro e w3 ⟨rfl, hb3⟩
  have HB3 := Lib.hid (HB2.out.trans (hb3.mono HB2.out.size))
  clear hb3 x2 y2
  go_wp2_with fail
  go_ret
  exact ⟨rfl, by rw [HGX.out]; exact HW.out.trans (HB3.out.mono (by omega))⟩
set_option maxRecDepth 100000 in
set_option maxHeartbeats 2000000 in
theorem rsameImage_true (w : World) (A A' B B' : Option Addr) (c c' d d' : Nat) (fl bl : List (List UInt8)) (r : List UInt8) (hA : Strs w w.heap.size A fl) (hA' : Strs w w.heap.size A' bl) (hB : Strs w w.heap.size B fl) (hB' : Strs w w.heap.size B' bl) (h1 : fl.length ≤ 1099511627776) (h2 : bl.length ≤ 1099511627776) :
    Calls Tryd.prog 15 #[.agg #[.slice A fl.length c, .slice A' bl.length c', S r], .agg #[.slice B fl.length d, .slice B' bl.length d', S r]] w fun e w' => e = .returned (.bool true) ∧ Below w.heap.size w w' := by
  have hX := (Whole.made w 39 #[.slice A fl.length c, .slice A' bl.length c', S r]).block (.cells #[.slice B fl.length d, .slice B' bl.length d', S r] 39)
  have hY := Whole.made (w.alloc (.cells #[.slice A fl.length c, .slice A' bl.length c', S r] 39)) 39 #[.slice B fl.length d, .slice B' bl.length d', S r]
  have hb : Below w.heap.size w ((w.alloc (.cells #[.slice A fl.length c, .slice A' bl.length c', S r] 39)).alloc (.cells #[.slice B fl.length d, .slice B' bl.length d', S r] 39)) := ((Below.refl _ _).alloc (Nat.le_refl _) _).alloc (by simp) _
  rw [show (w.alloc (.cells #[.slice A fl.length c, .slice A' bl.length c', S r] 39)).heap.size = w.heap.size + 1 by simp] at hY
  have HA := Lib.hid (hA.below hb)
  have HA' := Lib.hid (hA'.below hb)
  have HB := Lib.hid (hB.below hb)
  have HB' := Lib.hid (hB'.below hb)
  clear hA hA' hB hB'
  go_enter Tryd.func15, Tryd.ntmps15
  go_upto_region 1 with (fail)
  change Code.wp _ _ _ _ ((w.alloc (.cells #[.slice A fl.length c, .slice A' bl.length c', S r] 39)).alloc (.cells #[.slice B fl.length d, .slice B' bl.length d', S r] 39))
  generalize ((w.alloc (.cells #[.slice A fl.length c, .slice A' bl.length c', S r] 39)).alloc (.cells #[.slice B fl.length d, .slice B' bl.length d', S r] 39)) = w1 at *
  generalize hgx : w.heap.size = gx at *
  have HGX := Lib.hid hgx
  have HX := Lib.hid hX
  have HY := Lib.hid hY
  have HW := Lib.hid hb
  have hl1 := hY.lt
  clear hgx hb
  have HLL : Hid (∀ (W : World) (G : Option Addr) (xs : List Value), Below w1.heap.size w1 W → Lies w1 gx G xs → Lies W W.heap.size G xs) := Lib.hid fun W G xs hW h => (h.below (hW.mono (by omega))).wide (by have := hW.size; omega)
  have er : (r == r) = true := by simp
  have x1 : w1.cell? ⟨gx, 0, none⟩ = some (.slice A fl.length c) := hX.cell 0
  have y1 : w1.cell? ⟨gx + 1, 0, none⟩ = some (.slice B fl.length d) := hY.cell 0
  have x3 : w1.cell? ⟨gx, 2, none⟩ = some (S r) := hX.cell 2
  have y3 : w1.cell? ⟨gx + 1, 2, none⟩ = some (S r) := hY.cell 2
  clear hX hY
  go_wp2_with fail
  refine (rtexts_true w1 A B c d fl (HLL.out _ _ _ (Below.refl _ _) HA.out) (HLL.out _ _ _ (Below.refl _ _) HB.out) h1).mono ?_
  rintro e w2 ⟨rfl, hb2⟩
  have x2 : w2.cell? ⟨gx, 1, none⟩ = some (.slice A' bl.length c') := (HX.out.below hb2 (by omega)).cell 1
  have y2 : w2.cell? ⟨gx + 1, 1, none⟩ = some (.slice B' bl.length d') := (HY.out.below hb2 (by omega)).cell 1
  have HB2 := Lib.hid hb2
  clear hb2 x1 y1 x3 y3
  go_wp2_with fail
  refine (rtexts_true w2 A' B' c' d' bl (HLL.out _ _ _ HB2.out HA'.out) (HLL.out _ _ _ HB2.out HB'.out) h2).mono ?_
  rintro e w3 ⟨rfl, hb3⟩
  have HB3 := Lib.hid (HB2.out.trans (hb3.mono HB2.out.size))
  clear hb3 x2 y2
  go_wp2_with fail
  go_ret
  exact ⟨rfl, by rw [HGX.out]; exact HW.out.trans (HB3.out.mono (by omega))⟩
end Go.Proofs.YtmmfcjkabpffeaaDoor
