/-
  Walks: state.numbers, state.Check, image.Of of the machine without anything.
-/
import Derived.Test.YtmmfcjkabpffeaaGreatDoorReadS
namespace Go.Proofs.YtmmfcjkabpffeaaGreatDoor
open Go.RowKit

theorem readL_imgB {fs bs : List (List UInt8)} {r : List UInt8} (hf : ∀ l ∈ fs, l.length < 268435456) (hb : ∀ l ∈ bs, l.length < 268435456) (h1 : (rowB fs).length < 268435456) (h2 : (rowB bs).length < 268435456) (h3 : r.length < 268435456) : readL (imgB fs bs r) = some (fs, bs, r) := by
  refine readL_ok (t0 := [104, 105, 98, 105]) (t1 := rowB fs) (t2 := rowB bs) ?_ rfl (texts_rowB fs [] hf) (texts_rowB bs [] hb)
  refine texts_rowB _ [] fun l hl => ?_
  simp only [List.mem_cons, List.not_mem_nil, or_false] at hl
  rcases hl with rfl | rfl | rfl | rfl
  · simp
  · exact h1
  · exact h2
  · exact h3
theorem readL_none : readL [] = none := readL_len (ls := []) (textsA_nil []) (by simp)
theorem readL_empty : readL (imgB [] [] []) = some ([], [], []) := readL_imgB (by simp) (by simp) (by simp [rowB]) (by simp [rowB]) (by simp)
set_option maxRecDepth 100000 in
set_option maxHeartbeats 1000000 in
theorem numbers_none (w : World) :
    Calls Tryz.prog 56 #[.agg #[.int .u64 0, .int .i64 0, .int .i64 0, .int .i64 0, .slice none 0 0, .slice none 0 0, .int .i64 0, S [], .slice none 0 0, .int .i64 0, S [], .bool false, .int .u64 0, .slice none 0 0, .slice none 0 0, .int .i64 0, .slice none 0 0]] w fun e w' => e = .returned (.int .i64 2) ∧ Below w.heap.size w w' := by
  go_enter Tryz.func56, Tryz.ntmps56
  go_wp2_with fail
  go_ret
  exact ⟨rfl, (Below.refl _ _).alloc (Nat.le_refl _) _⟩
set_option maxRecDepth 100000 in
set_option maxHeartbeats 1000000 in
theorem check_none (w : World) :
    Calls Tryz.prog 29 #[.agg #[.int .u64 0, .int .i64 0, .int .i64 0, .int .i64 0, .slice none 0 0, .slice none 0 0, .int .i64 0, S [], .slice none 0 0, .int .i64 0, S [], .bool false, .int .u64 0, .slice none 0 0, .slice none 0 0, .int .i64 0, .slice none 0 0]] w fun e w' => e = .returned (.int .i64 2) ∧ Below w.heap.size w w' := by
  go_enter Tryz.func29, Tryz.ntmps29
  go_wp2_with fail
  refine wp_loop_rounds 1 ?_
  rw [rounds_succ]
  go_wp2_with fail
  refine (numbers_none _).mono ?_
  rintro e w1 ⟨rfl, hb1⟩
  go_wp2_with fail
  go_ret
  exact ⟨rfl, (((Below.refl _ _).alloc (Nat.le_refl _) _).alloc (by simp) _).trans (hb1.mono (by simp; omega))⟩
set_option maxRecDepth 100000 in
set_option maxHeartbeats 1000000 in
theorem imgOf_none (w : World) :
    Calls Tryz.prog 10 #[.agg #[.int .u64 0, .int .i64 0, .int .i64 0, .int .i64 0, .slice none 0 0, .slice none 0 0, .int .i64 0, S [], .slice none 0 0, .int .i64 0, S [], .bool false, .int .u64 0, .slice none 0 0, .slice none 0 0, .int .i64 0, .slice none 0 0]] w fun e w' => e = .returned (.agg #[.slice none 0 0, .slice none 0 0, S []]) ∧ Below w.heap.size w w' := by
  have HZ := Lib.hid (Whole.made (w.alloc (.cells #[.int .u64 0, .int .i64 0, .int .i64 0, .int .i64 0, .slice none 0 0, .slice none 0 0, .int .i64 0, S [], .slice none 0 0, .int .i64 0, S [], .bool false, .int .u64 0, .slice none 0 0, .slice none 0 0, .int .i64 0, .slice none 0 0] 30)) 36 #[.slice none 0 0, .slice none 0 0, S []])
  have HB := Lib.hid (((Below.refl w.heap.size w).alloc (Nat.le_refl _) (.cells #[.int .u64 0, .int .i64 0, .int .i64 0, .int .i64 0, .slice none 0 0, .slice none 0 0, .int .i64 0, S [], .slice none 0 0, .int .i64 0, S [], .bool false, .int .u64 0, .slice none 0 0, .slice none 0 0, .int .i64 0, .slice none 0 0] 30)).alloc (by simp) (.cells #[.slice none 0 0, .slice none 0 0, S []] 36))
  rw [show (w.alloc (.cells #[.int .u64 0, .int .i64 0, .int .i64 0, .int .i64 0, .slice none 0 0, .slice none 0 0, .int .i64 0, S [], .slice none 0 0, .int .i64 0, S [], .bool false, .int .u64 0, .slice none 0 0, .slice none 0 0, .int .i64 0, .slice none 0 0] 30)).heap.size = w.heap.size + 1 by simp] at HZ
  go_enter Tryz.func10, Tryz.ntmps10
  go_wp2_with fail
  change Calls _ _ _ ((w.alloc (.cells #[.int .u64 0, .int .i64 0, .int .i64 0, .int .i64 0, .slice none 0 0, .slice none 0 0, .int .i64 0, S [], .slice none 0 0, .int .i64 0, S [], .bool false, .int .u64 0, .slice none 0 0, .slice none 0 0, .int .i64 0, .slice none 0 0] 30)).alloc (.cells #[.slice none 0 0, .slice none 0 0, S []] 36)) _
  generalize (w.alloc (.cells #[.int .u64 0, .int .i64 0, .int .i64 0, .int .i64 0, .slice none 0 0, .slice none 0 0, .int .i64 0, S [], .slice none 0 0, .int .i64 0, S [], .bool false, .int .u64 0, .slice none 0 0, .slice none 0 0, .int .i64 0, .slice none 0 0] 30)).alloc (.cells #[.slice none 0 0, .slice none 0 0, S []] 36) = w1 at *
  refine (check_none w1).mono ?_
  rintro e w2 ⟨rfl, hb2⟩
  have hZ2 := HZ.out.below hb2 HZ.out.lt
  have HB2 := Lib.hid (HB.out.trans (hb2.mono HB.out.size))
  have z0 : w2.cell? ⟨w.heap.size + 1, 0, none⟩ = some (Value.slice none 0 0) := hZ2.cell 0
  have z1 : w2.cell? ⟨w.heap.size + 1, 1, none⟩ = some (Value.slice none 0 0) := hZ2.cell 1
  have z2 : w2.cell? ⟨w.heap.size + 1, 2, none⟩ = some (S []) := hZ2.cell 2
  have y0 := hZ2.free 0
  have y1 := hZ2.free 1
  have y2 := hZ2.free 2
  clear hb2 hZ2 HZ HB
  go_wp2_with fail
  refine bodyPost_ret (v := .agg #[.slice none 0 0, .slice none 0 0, S []]) (by simp [results, Tryz.results10, go_sem, z0, z1, z2]) rfl ?_
  exact ⟨rfl, read_below3 HB2.out (by omega)⟩
end Go.Proofs.YtmmfcjkabpffeaaGreatDoor
