/-
  Walk: hibernaclelaw32.awake.
-/
import Derived.Test.YtmmfcjkabpffeaaGreatDoorNoMachZ
namespace Go.Proofs.YtmmfcjkabpffeaaGreatDoor
open Go.RowKit

set_option maxRecDepth 100000 in
set_option maxHeartbeats 1000000 in
theorem awake_any (w : World) :
    Calls Tryz.prog 9 #[] w fun e w' => e = .returned (.bool true) ∧ Below w.heap.size w w' := by
  go_enter Tryz.func9, Tryz.ntmps9
  go_wp2_with fail
  refine (imgOf_none w).mono ?_
  rintro e w1 ⟨rfl, hb1⟩
  have HX := Lib.hid (Whole.made w1 36 #[.slice none 0 0, .slice none 0 0, S []])
  have HB := Lib.hid (hb1.alloc hb1.size (.cells #[.slice none 0 0, .slice none 0 0, S []] 36))
  have hl1 := hb1.size
  clear hb1
  go_wp2_with fail
  change Calls _ _ _ (w1.alloc (.cells #[.slice none 0 0, .slice none 0 0, S []] 36)) _
  generalize w1.alloc (.cells #[.slice none 0 0, .slice none 0 0, S []] 36) = w2 at *
  generalize w1.heap.size = gx at *
  refine (read_any w2 [] (by simp)).mono ?_
  rintro e w3 ⟨hm, hb3⟩
  rw [readL_none] at hm
  dsimp only at hm
  subst hm
  have hX3 := (HX.out.below hb3 HX.out.lt).block (.cells #[.slice none 0 0, .slice none 0 0, S []] 36)
  have hB3 := (HB.out.trans (hb3.mono HB.out.size)).alloc (by have := HB.out.size; have := hb3.size; omega) (.cells #[.slice none 0 0, .slice none 0 0, S []] 36)
  have x0 : _ = some (Value.slice none 0 0) := hX3.cell 0
  have x1 : _ = some (Value.slice none 0 0) := hX3.cell 1
  have x2 : _ = some (S []) := hX3.cell 2
  have HX3 := Lib.hid hX3
  have HB3 := Lib.hid hB3
  have z3 : w3.cell? ⟨gx, 0, none⟩ = some (Value.slice none 0 0) := (HX.out.below hb3 HX.out.lt).cell 0
  have z4 : w3.cell? ⟨gx, 1, none⟩ = some (Value.slice none 0 0) := (HX.out.below hb3 HX.out.lt).cell 1
  have z5 : w3.cell? ⟨gx, 2, none⟩ = some (S []) := (HX.out.below hb3 HX.out.lt).cell 2
  have hlx := Nat.lt_of_lt_of_le HX.out.lt hb3.size
  clear hX3 hB3 HX HB hb3
  go_wp2_with fail
  change Calls _ _ _ (w3.alloc (.cells #[.slice none 0 0, .slice none 0 0, S []] 36)) _
  clear z3 z4 z5
  generalize w3.alloc (.cells #[.slice none 0 0, .slice none 0 0, S []] 36) = w4 at *
  generalize w3.heap.size = g4 at *
  refine (imgBytes_any w4 none none 0 0 [] [] [] (Lies.none _ _ _) (Lies.none _ _ _) (by simp [sizeOf])).mono ?_
  rintro e w5 ⟨rfl, hb5⟩
  have HX5 := Lib.hid (HX3.out.below hb5 HX3.out.lt)
  have HB5 := Lib.hid (HB3.out.trans (hb5.mono HB3.out.size))
  clear hb5 HX3 HB3 x0 x1 x2
  have HRE := Lib.hid readL_empty
  have HER : Hid (imgB [] [] [] = rowB [[104, 105, 98, 105], [], [], []]) := Lib.hid rfl
  have hle : (imgB [] [] []).length ≤ 4294967296 := by rw [HER.out]; simp [rowB, lenB_small (show 4 < 128 by omega), lenB_small (show 0 < 128 by omega)]
  obtain ⟨E, HE⟩ : ∃ z, Hid (imgB [] [] [] = z) := ⟨_, Lib.hid rfl⟩
  rw [HE.out] at HRE HER hle
  rw [HE.out]
  go_wp2_with fail
  refine (read_any w5 E hle).mono ?_
  rintro e w6 ⟨hm, hb6⟩
  rw [HRE.out] at hm
  obtain ⟨G, k, G', k', rfl, _, _⟩ := hm
  have hX6 := HX5.out.below hb6 HX5.out.lt
  have hB6 := HB5.out.trans (hb6.mono HB5.out.size)
  have x0 : w6.cell? ⟨gx, 0, none⟩ = some (Value.slice none 0 0) := hX6.cell 0
  have x1 : w6.cell? ⟨gx, 1, none⟩ = some (Value.slice none 0 0) := hX6.cell 1
  have x2 : w6.cell? ⟨gx, 2, none⟩ = some (S []) := hX6.cell 2
  have hx6 := hX6.lt
  have HX6 := Lib.hid hX6
  have HB6 := Lib.hid hB6
  clear hb6 hX6 hB6 HX5 HB5
  have hY := Whole.made w6 36 #[.slice G 0 k, .slice G' 0 k', S []]
  have hX7 := HX6.out.block (.cells #[.slice G 0 k, .slice G' 0 k', S []] 36)
  have hB7 := HB6.out.alloc (by have := HB6.out.size; omega) (.cells #[.slice G 0 k, .slice G' 0 k', S []] 36)
  have hr := row_four (w6.alloc (.cells #[.slice G 0 k, .slice G' 0 k', S []] 36)) [104, 105, 98, 105] [] [] [] (by simp [sizeOf])
  rw [show (w6.alloc (.cells #[.slice G 0 k, .slice G' 0 k', S []] 36)).heap.size = w6.heap.size + 1 by simp, ← HER.out] at hr
  have HR := Lib.hid hr
  have HY := Lib.hid hY
  have HX7 := Lib.hid hX7
  have HB7 := Lib.hid hB7
  clear hr hY hX7 hB7
  go_wp2_with fail
  refine HR.out.mono ?_
  rintro e w8 ⟨rfl, hb8⟩
  have hY8 := HY.out.below hb8 (by omega)
  have hX8 := HX7.out.below hb8 (by omega)
  have HB8 := Lib.hid (HB7.out.trans (hb8.mono (by have := HB6.out.size; omega)))
  have u0 : w8.cell? ⟨gx, 0, none⟩ = some (Value.slice none 0 0) := hX8.cell 0
  have u1 : w8.cell? ⟨gx, 1, none⟩ = some (Value.slice none 0 0) := hX8.cell 1
  have u2 : w8.cell? ⟨gx, 2, none⟩ = some (S []) := hX8.cell 2
  have v0 : w8.cell? ⟨w6.heap.size, 0, none⟩ = some (Value.slice G 0 k) := hY8.cell 0
  have v1 : w8.cell? ⟨w6.heap.size, 1, none⟩ = some (Value.slice G' 0 k') := hY8.cell 1
  have v2 : w8.cell? ⟨w6.heap.size, 2, none⟩ = some (S []) := hY8.cell 2
  have ebe : (E == E) = true := by simp
  clear hb8 hY8 hX8 HR HY HX7 HB7
  go_wp2_with fail
  refine (same32_any w8 none none G G' 0 0 k k' [] [] [] [] [] [] (Lies.none _ _ _) (Lies.none _ _ _) (Lies.none _ _ _) (Lies.none _ _ _) (by simp) (by simp) (by simp) (by simp)).mono ?_
  rintro e w9 ⟨rfl, hb9⟩
  rw [show imgEq [] [] [] [] [] [] = true by simp [imgEq]]
  have HB9 := Lib.hid (HB8.out.trans (hb9.mono HB8.out.size))
  clear hb9
  go_wp2_with fail
  go_ret
  exact ⟨rfl, HB9.out⟩
end Go.Proofs.YtmmfcjkabpffeaaGreatDoor
