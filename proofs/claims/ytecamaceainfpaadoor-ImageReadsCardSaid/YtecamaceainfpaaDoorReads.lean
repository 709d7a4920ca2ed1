/-
  Walk: hibernaclelaw32.ImageReads.
-/
import Derived.Test.YtecamaceainfpaaDoorAwake
namespace Go.Proofs.YtecamaceainfpaaDoor
open Go.RowKit

theorem readL_inv {b : List UInt8} {f g : List (List UInt8)} {r : List UInt8} (h : readL b = some (f, g, r)) : b = imgB f g r := by
  unfold readL at h
  split at h
  · rename_i t0 t1 t2 t3 hT
    split at h
    · rename_i h0
      split at h
      · rename_i f' g' h1 h2
        injection h with h; injection h with e1 e2; injection e2 with e2 e3
        subst e1 e2 e3 h0
        unfold imgB
        rw [← texts_len h1, ← texts_len h2]
        exact texts_len hT
      · cases h
    · cases h
  · cases h
theorem sizeOf_rowB : ∀ ls : List (List UInt8), sizeOf ls ≤ 5 * (rowB ls).length
  | [] => by simp [sizeOf]
  | l :: ls => by
    have ih := sizeOf_rowB ls
    have := List.length_pos_iff.2 (lenB_ne l.length)
    rw [rowB_cons]
    simp only [sizeOf, List.map_cons, List.sum_cons, List.length_append] at *
    omega
theorem imgB_parts (f g : List (List UInt8)) (r : List UInt8) : (rowB f).length ≤ (imgB f g r).length ∧ (rowB g).length ≤ (imgB f g r).length ∧ r.length ≤ (imgB f g r).length := by
  unfold imgB
  rw [rowB_cons, rowB_cons, rowB_cons, rowB_cons]
  simp only [List.length_append]
  omega
set_option maxRecDepth 100000 in
set_option maxHeartbeats 1000000 in
theorem reads_any (w : World) (b : List UInt8) :
    Calls Tryd.prog 9 #[S b] w fun e w' => e = .returned (.bool true) ∧ Below w.heap.size w w' := by
  by_cases hgr : 3000 < b.length
  · have hd : decide ((3000 : Int) < (b.length : Int)) = true := by simp; omega
    have hd' : decide (3000 < b.length) = true := by simp; omega
    go_enter Tryd.func9, Tryd.ntmps9
    go_wp2_with fail
    refine (awake_any w).mono ?_
    rintro e w1 ⟨rfl, hb1⟩
    go_wp2_with fail
    go_ret
    exact ⟨rfl, hb1⟩
  · have hb : b.length ≤ 4294967296 := by omega
    have hd : decide ((3000 : Int) < (b.length : Int)) = false := by simp; omega
    have hd' : decide (3000 < b.length) = false := by simp; omega
    go_enter Tryd.func9, Tryd.ntmps9
    go_wp2_with fail
    refine (read_any w b hb).mono ?_
    rintro e w1 ⟨hm, hb1⟩
    have HB1 := Lib.hid hb1
    have hl1 := hb1.size
    clear hb1 hd hd'
    cases hR : readL b with
    | none =>
      rw [hR] at hm
      dsimp only at hm
      subst hm
      have HX := Lib.hid (Whole.made w1 24 #[.slice none 0 0, .slice none 0 0, S []])
      have HW := Lib.hid (HB1.out.alloc hl1 (.cells #[.slice none 0 0, .slice none 0 0, S []] 24))
      go_wp2_with fail
      change Calls _ _ _ (w1.alloc (.cells #[.slice none 0 0, .slice none 0 0, S []] 24)) _
      generalize w1.alloc (.cells #[.slice none 0 0, .slice none 0 0, S []] 24) = w2 at *
      generalize w1.heap.size = gx at *
      refine (rread_any w2 b hb).mono ?_
      rintro e w3 ⟨hm, hb3⟩
      rw [hR] at hm
      dsimp only at hm
      subst hm
      have hX3 := HX.out.below hb3 HX.out.lt
      have x0 : w3.cell? ⟨gx, 0, none⟩ = some (Value.slice none 0 0) := hX3.cell 0
      have x1 : w3.cell? ⟨gx, 1, none⟩ = some (Value.slice none 0 0) := hX3.cell 1
      have x2 : w3.cell? ⟨gx, 2, none⟩ = some (S []) := hX3.cell 2
      have hxl := hX3.lt
      have HW3 := Lib.hid ((HW.out.trans (hb3.mono HW.out.size)).alloc (by have := HW.out.size; have := hb3.size; omega) (.cells #[.slice none 0 0, .slice none 0 0, S []] 24))
      clear hb3 hX3 HX HW hR
      go_wp2_with fail
      change Calls _ _ _ (w3.alloc (.cells #[.slice none 0 0, .slice none 0 0, S []] 24)) _
      clear x0 x1 x2
      generalize w3.alloc (.cells #[.slice none 0 0, .slice none 0 0, S []] 24) = w4 at *
      refine (same32_any w4 none none none none 0 0 0 0 [] [] [] [] [] [] (Lies.none _ _ _) (Lies.none _ _ _) (Lies.none _ _ _) (Lies.none _ _ _) (by simp) (by simp) (by simp) (by simp)).mono ?_
      rintro e w5 ⟨rfl, hb5⟩
      rw [show imgEq [] [] [] [] [] [] = true by simp [imgEq]]
      have HW5 := Lib.hid (HW3.out.trans (hb5.mono HW3.out.size))
      clear hb5
      go_wp2_with fail
      refine (awake_any w5).mono ?_
      rintro e w6 ⟨rfl, hb6⟩
      have HW6 := Lib.hid (HW5.out.trans (hb6.mono HW5.out.size))
      clear hb6
      go_wp2_with fail
      go_ret
      exact ⟨rfl, HW6.out⟩
    | some p =>
      obtain ⟨f, g, r⟩ := p
      rw [hR] at hm
      obtain ⟨G, k, G', k', rfl, l1, l2⟩ := hm
      have HINV := Lib.hid (readL_inv hR)
      have hp := imgB_parts f g r
      rw [← HINV.out] at hp
      have s1 := sizeOf_rowB f
      have s2 := sizeOf_rowB g
      have c1 := length_le_sizeOf f
      have c2 := length_le_sizeOf g
      have HX := Lib.hid (Whole.made w1 24 #[.slice G f.length k, .slice G' g.length k', S r])
      have HW := Lib.hid (HB1.out.alloc hl1 (.cells #[.slice G f.length k, .slice G' g.length k', S r] 24))
      have HL1 := Lib.hid (Lies.block' l1 (.cells #[.slice G f.length k, .slice G' g.length k', S r] 24))
      have HL2 := Lib.hid (Lies.block' l2 (.cells #[.slice G f.length k, .slice G' g.length k', S r] 24))
      clear l1 l2
      go_wp2_with fail
      change Calls _ _ _ (w1.alloc (.cells #[.slice G f.length k, .slice G' g.length k', S r] 24)) _
      generalize w1.alloc (.cells #[.slice G f.length k, .slice G' g.length k', S r] 24) = w2 at *
      generalize w1.heap.size = gx at *
      refine (rread_any w2 b hb).mono ?_
      rintro e w3 ⟨hm, hb3⟩
      rw [hR] at hm
      obtain ⟨P, q, P', q', rfl, m1, m2⟩ := hm
      have hX3 := HX.out.below hb3 HX.out.lt
      have x0 : w3.cell? ⟨gx, 0, none⟩ = some (Value.slice G f.length k) := hX3.cell 0
      have x1 : w3.cell? ⟨gx, 1, none⟩ = some (Value.slice G' g.length k') := hX3.cell 1
      have x2 : w3.cell? ⟨gx, 2, none⟩ = some (S r) := hX3.cell 2
      have hxl := hX3.lt
      have HX4 := Lib.hid (hX3.block (.cells #[.slice P f.length q, .slice P' g.length q', S r] 24))
      have HW3 := Lib.hid ((HW.out.trans (hb3.mono HW.out.size)).alloc (by have := HW.out.size; have := hb3.size; omega) (.cells #[.slice P f.length q, .slice P' g.length q', S r] 24))
      have HM1 := Lib.hid (Lies.block' m1 (.cells #[.slice P f.length q, .slice P' g.length q', S r] 24))
      have HM2 := Lib.hid (Lies.block' m2 (.cells #[.slice P f.length q, .slice P' g.length q', S r] 24))
      have HL3 := Lib.hid (Lies.block' (Lies.wide (Lies.below HL1.out hb3) hb3.size) (.cells #[.slice P f.length q, .slice P' g.length q', S r] 24))
      have HL4 := Lib.hid (Lies.block' (Lies.wide (Lies.below HL2.out hb3) hb3.size) (.cells #[.slice P f.length q, .slice P' g.length q', S r] 24))
      clear hb3 hX3 HX HW hR m1 m2 HL1 HL2
      go_wp2_with fail
      change Calls _ _ _ (w3.alloc (.cells #[.slice P f.length q, .slice P' g.length q', S r] 24)) _
      clear x0 x1 x2
      generalize w3.alloc (.cells #[.slice P f.length q, .slice P' g.length q', S r] 24) = w4 at *
      refine (same32_any w4 G G' P P' k k' q q' f g f g r r HL3.out HL4.out HM1.out HM2.out (by omega) (by omega) (by omega) (by omega)).mono ?_
      rintro e w5 ⟨rfl, hb5⟩
      rw [show imgEq f g r f g r = true by simp [imgEq]]
      have HW5 := Lib.hid (HW3.out.trans (hb5.mono HW3.out.size))
      have hX5 := HX4.out.below hb5 HX4.out.lt
      have x0 : w5.cell? ⟨gx, 0, none⟩ = some (Value.slice G f.length k) := hX5.cell 0
      have x1 : w5.cell? ⟨gx, 1, none⟩ = some (Value.slice G' g.length k') := hX5.cell 1
      have x2 : w5.cell? ⟨gx, 2, none⟩ = some (S r) := hX5.cell 2
      have HL5 := Lib.hid (Lies.wide (Lies.below HL3.out hb5) hb5.size)
      have HL6 := Lib.hid (Lies.wide (Lies.below HL4.out hb5) hb5.size)
      clear hb5 hX5 HX4
      go_wp2_with fail
      refine (imgBytes_any w5 G G' k k' f g r HL5.out HL6.out (by omega)).mono ?_
      rintro e w6 ⟨rfl, hb6⟩
      rw [← HINV.out]
      have HW6 := Lib.hid (HW5.out.trans (hb6.mono HW5.out.size))
      have ebe : (b == b) = true := by simp
      clear hb6 x0 x1 x2
      go_wp2_with fail
      refine (awake_any w6).mono ?_
      rintro e w7 ⟨rfl, hb7⟩
      have HW7 := Lib.hid (HW6.out.trans (hb7.mono HW6.out.size))
      clear hb7
      go_wp2_with fail
      go_ret
      exact ⟨rfl, HW7.out⟩
end Go.Proofs.YtecamaceainfpaaDoor
