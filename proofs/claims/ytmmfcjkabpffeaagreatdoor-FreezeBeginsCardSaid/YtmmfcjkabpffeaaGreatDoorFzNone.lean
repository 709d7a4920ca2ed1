/-
  Walks: state.numbers, state.Check, image.Of of a machine that may not be (its Quantum is 0).
-/
import Derived.Test.YtmmfcjkabpffeaaGreatDoorGenA
namespace Go.Proofs.YtmmfcjkabpffeaaGreatDoor
open Go.RowKit

theorem Below.set3 {B p : Nat} {w0 w : World} {a' b' c' : Value} (h : Below B w0 w) (hp : B ≤ p) : Below B w0 (((w.setCell ⟨p, 0, none⟩ a').setCell ⟨p, 1, none⟩ b').setCell ⟨p, 2, none⟩ c') := ((h.setCell (p := ⟨p, 0, none⟩) hp a').setCell (p := ⟨p, 1, none⟩) hp b').setCell (p := ⟨p, 2, none⟩) hp c'
set_option maxRecDepth 100000 in
set_option maxHeartbeats 1000000 in
theorem numbers_bad (w : World) (F L : Option Addr) (nf cf nl cl : Nat) :
    Calls Tryz.prog 56 #[.agg #[.int .u64 7, .int .i64 0, .int .i64 0, .int .i64 0, .slice F nf cf, .slice none 0 0, .int .i64 0, S [], .slice none 0 0, .int .i64 0, S [], .bool false, .int .u64 0, .slice L nl cl, .slice none 0 0, .int .i64 0, .slice none 0 0]] w fun e w' => e = .returned (.int .i64 2) ∧ Below w.heap.size w w' := by
  go_enter Tryz.func56, Tryz.ntmps56
  go_wp2_with fail
  go_ret
  exact ⟨rfl, (Below.refl _ _).alloc (Nat.le_refl _) _⟩
set_option maxRecDepth 100000 in
set_option maxHeartbeats 1000000 in
theorem check_bad (w : World) (F L : Option Addr) (nf cf nl cl : Nat) :
    Calls Tryz.prog 29 #[.agg #[.int .u64 7, .int .i64 0, .int .i64 0, .int .i64 0, .slice F nf cf, .slice none 0 0, .int .i64 0, S [], .slice none 0 0, .int .i64 0, S [], .bool false, .int .u64 0, .slice L nl cl, .slice none 0 0, .int .i64 0, .slice none 0 0]] w fun e w' => e = .returned (.int .i64 2) ∧ Below w.heap.size w w' := by
  go_enter Tryz.func29, Tryz.ntmps29
  go_wp2_with fail
  refine wp_loop_rounds 1 ?_
  rw [rounds_succ]
  go_wp2_with fail
  refine (numbers_bad _ _ _ _ _ _ _).mono ?_
  rintro e w1 ⟨rfl, hb1⟩
  go_wp2_with fail
  go_ret
  exact ⟨rfl, (((Below.refl _ _).alloc (Nat.le_refl _) _).alloc (by simp) _).trans (hb1.mono (by simp; omega))⟩
set_option maxRecDepth 100000 in
set_option maxHeartbeats 1000000 in
theorem imgOf_bad (w : World) (F L : Option Addr) (nf cf nl cl : Nat) :
    Calls Tryz.prog 10 #[.agg #[.int .u64 7, .int .i64 0, .int .i64 0, .int .i64 0, .slice F nf cf, .slice none 0 0, .int .i64 0, S [], .slice none 0 0, .int .i64 0, S [], .bool false, .int .u64 0, .slice L nl cl, .slice none 0 0, .int .i64 0, .slice none 0 0]] w fun e w' => e = .returned (.agg #[.slice none 0 0, .slice none 0 0, S []]) ∧ Below w.heap.size w w' := by
  have HZ := Lib.hid (Whole.made (w.alloc (.cells #[.int .u64 7, .int .i64 0, .int .i64 0, .int .i64 0, .slice F nf cf, .slice none 0 0, .int .i64 0, S [], .slice none 0 0, .int .i64 0, S [], .bool false, .int .u64 0, .slice L nl cl, .slice none 0 0, .int .i64 0, .slice none 0 0] 30)) 36 #[.slice none 0 0, .slice none 0 0, S []])
  have HB := Lib.hid (((Below.refl w.heap.size w).alloc (Nat.le_refl _) (.cells #[.int .u64 7, .int .i64 0, .int .i64 0, .int .i64 0, .slice F nf cf, .slice none 0 0, .int .i64 0, S [], .slice none 0 0, .int .i64 0, S [], .bool false, .int .u64 0, .slice L nl cl, .slice none 0 0, .int .i64 0, .slice none 0 0] 30)).alloc (by simp) (.cells #[.slice none 0 0, .slice none 0 0, S []] 36))
  rw [show (w.alloc (.cells #[.int .u64 7, .int .i64 0, .int .i64 0, .int .i64 0, .slice F nf cf, .slice none 0 0, .int .i64 0, S [], .slice none 0 0, .int .i64 0, S [], .bool false, .int .u64 0, .slice L nl cl, .slice none 0 0, .int .i64 0, .slice none 0 0] 30)).heap.size = w.heap.size + 1 by simp] at HZ
  go_enter Tryz.func10, Tryz.ntmps10
  go_wp2_with fail
  change Calls _ _ _ ((w.alloc (.cells #[.int .u64 7, .int .i64 0, .int .i64 0, .int .i64 0, .slice F nf cf, .slice none 0 0, .int .i64 0, S [], .slice none 0 0, .int .i64 0, S [], .bool false, .int .u64 0, .slice L nl cl, .slice none 0 0, .int .i64 0, .slice none 0 0] 30)).alloc (.cells #[.slice none 0 0, .slice none 0 0, S []] 36)) _
  generalize (w.alloc (.cells #[.int .u64 7, .int .i64 0, .int .i64 0, .int .i64 0, .slice F nf cf, .slice none 0 0, .int .i64 0, S [], .slice none 0 0, .int .i64 0, S [], .bool false, .int .u64 0, .slice L nl cl, .slice none 0 0, .int .i64 0, .slice none 0 0] 30)).alloc (.cells #[.slice none 0 0, .slice none 0 0, S []] 36) = w1 at *
  refine (check_bad w1 F L nf cf nl cl).mono ?_
  rintro e w2 ⟨rfl, hb2⟩
  have hZ2 := HZ.out.below hb2 HZ.out.lt
  have HB2 := Lib.hid (HB.out.trans (hb2.mono HB.out.size))
  have z0 : w2.cell? ⟨w.heap.size + 1, 0, none⟩ = some (Value.slice none 0 0) := hZ2.cell 0
  have z1 : w2.cell? ⟨w.heap.size + 1, 1, none⟩ = some (Value.slice none 0 0) := hZ2.cell 1
  have z2 : w2.cell? ⟨w.heap.size + 1, 2, none⟩ = some (S []) := hZ2.cell 2
  have y0 := hZ2.free 0
  have y1 := hZ2.free 1
  have y2 := hZ2.free 2
  clear hb2 hZ2 HZ HB
  go_wp2_with fail
  refine bodyPost_ret (v := .agg #[.slice none 0 0, .slice none 0 0, S []]) (by simp [results, Tryz.results10, go_sem, z0, z1, z2]) rfl ?_
  exact ⟨rfl, Below.set3 HB2.out (by omega)⟩
end Go.Proofs.YtmmfcjkabpffeaaGreatDoor
