/-
  Walks: hibernacleref32.Great, hibernaclelaw32.ImageBytes.
-/
import Derived.Test.YtecamaceainfpaaDoorAwake
import Derived.Test.YtecamaceainfpaaDoorRSum
namespace Go.Proofs.YtecamaceainfpaaDoor
open Go.RowKit

/-- an image that is gone through -/
def Small32 (fs bs : List (List UInt8)) (r : List UInt8) : Prop :=
  fs.length ≤ 20 ∧ bs.length ≤ 80 ∧ r.length ≤ 4000 ∧ (∀ l ∈ fs, l.length ≤ 200) ∧ ∀ l ∈ bs, l.length ≤ 200
def Great32Post (w : World) (fs bs : List (List UInt8)) (r : List UInt8) (e : Ending) (w' : World) : Prop :=
  (e = .returned (.int .i64 1) ∨ (e = .returned (.int .i64 0) ∧ Small32 fs bs r)) ∧ Below w.heap.size w w'
theorem mem_of_take {α : Type} {p : α → Prop} {l : List α} {k : Nat} {d : α} (hk : k < l.length) (h : ∀ x ∈ l.take k, p x) (hx : p (l.getD k d)) : ∀ x ∈ l.take (k + 1), p x := by
  intro x hm
  rw [List.take_succ_eq_append_getElem hk, List.mem_append] at hm
  rcases hm with hm | hm
  · exact h x hm
  · rw [List.mem_singleton] at hm
    subst hm
    simpa [List.getD, hk] using hx
set_option maxRecDepth 100000 in
set_option maxHeartbeats 1000000 in
theorem great32_any (w : World) (A A' : Option Addr) (c c' : Nat) (fs bs : List (List UInt8)) (r : List UInt8) (hA : Strs w w.heap.size A fs) (hA' : Strs w w.heap.size A' bs) :
    Calls Tryd.prog 34 #[.agg #[.slice A fs.length c, .slice A' bs.length c', S r]] w (Great32Post w fs bs r) := by
  have HA := Lib.hid hA
  have HA' := Lib.hid hA'
  clear hA hA'
  have hX := Whole.made w 24 #[.slice A fs.length c, .slice A' bs.length c', S r]
  have hW : Below w.heap.size w (w.alloc (.cells #[.slice A fs.length c, .slice A' bs.length c', S r] 24)) := (Below.refl _ _).alloc (Nat.le_refl _) _
  go_enter Tryd.func34, Tryd.ntmps34
  go_upto_region 1 with (fail)
  have hlw := hX.lt
  have x0 : _ = some (Value.slice A fs.length c) := hX.cell 0
  have x1 : _ = some (Value.slice A' bs.length c') := hX.cell 1
  have x2 : _ = some (S r) := hX.cell 2
  clear hX
  generalize w.alloc (.cells #[.slice A fs.length c, .slice A' bs.length c', S r] 24) = w1 at *
  have HWB := Lib.hid hW
  clear hW
  have ONE : ∀ wr : World, Below w.heap.size w wr → Great32Post w fs bs r (.returned (.int .i64 1)) wr := fun wr h => ⟨.inl rfl, h⟩
  by_cases h1 : 20 < fs.length
  · have d1 : decide ((20 : Int) < (fs.length : Int)) = true := by simp; omega
    have d1' : decide (20 < fs.length) = true := by simp; omega
    clear h1
    go_wp2_with fail
    go_ret
    exact ONE _ HWB.out
  have d1 : decide ((20 : Int) < (fs.length : Int)) = false := by simp; omega
  have d1' : decide (20 < fs.length) = false := by simp; omega
  by_cases h2 : 80 < bs.length
  · have d2 : decide ((80 : Int) < (bs.length : Int)) = true := by simp; omega
    have d2' : decide (80 < bs.length) = true := by simp; omega
    clear h1 h2
    go_wp2_with fail
    go_ret
    exact ONE _ HWB.out
  have d2 : decide ((80 : Int) < (bs.length : Int)) = false := by simp; omega
  have d2' : decide (80 < bs.length) = false := by simp; omega
  by_cases h3 : 4000 < r.length
  · have d3 : decide ((4000 : Int) < (r.length : Int)) = true := by simp; omega
    have d3' : decide (4000 < r.length) = true := by simp; omega
    clear h1 h2 h3
    go_wp2_with fail
    go_ret
    exact ONE _ HWB.out
  have d3 : decide ((4000 : Int) < (r.length : Int)) = false := by simp; omega
  have d3' : decide (4000 < r.length) = false := by simp; omega
  have H1 : fs.length ≤ 20 := by omega
  have H2 : bs.length ≤ 80 := by omega
  have H3 : Hid (r.length ≤ 4000) := Lib.hid (by omega)
  clear h1 h2 h3
  go_wp2_with fail
  clear d1 d1' d2 d2' d3 d3'
  have X0 := Lib.hid x0
  have X1 := Lib.hid x1
  clear x0 x1 x2
  go_loopw [24] (fun i wr => ∃ k : Nat, k ≤ fs.length ∧ i = .int .i64 k ∧ Hid (∀ l ∈ fs.take k, l.length ≤ 200) ∧ Hid (Below w1.heap.size w1 wr)) (fun i _ => fs.length - (intOf i).toNat)
  case atStart => exact ⟨0, by omega, rfl, Lib.hid (by simp), Lib.hid (Below.refl _ _)⟩
  case round =>
    obtain ⟨k, hk, rfl, HE, HW⟩ := hrel
    have x0 : wr.cell? ⟨w.heap.size, 0, none⟩ = some (Value.slice A fs.length c) := (HW.out.cell hlw).trans X0.out
    by_cases hlt : k < fs.length
    · obtain ⟨ad, rfl, had, a0⟩ := HA.out.at' hlt
      have a0' : wr.cell? (ad.add k) = _ := (HW.out.cell (by rw [add_block]; exact Nat.lt_trans had hlw)).trans ((HWB.out.cell (by rw [add_block]; exact had)).trans a0)
      clear a0
      have HN : Hid ((fs.getD k []).length ≤ 200 → ∀ l ∈ fs.take (k + 1), l.length ≤ 200) := Lib.hid (fun hx => mem_of_take hlt HE.out hx)
      generalize fs.getD k [] = x at *
      have i0 : (0 : Int) ≤ (k : Int) := by omega
      have i1 : (k : Int) < (fs.length : Int) := by omega
      by_cases h2 : 200 < x.length
      · have d2 : decide ((200 : Int) < (x.length : Int)) = true := by simp; omega
        have d2' : decide (200 < x.length) = true := by simp; omega
        clear HN h2
        go_wp2_with fail
        go_ret
        exact ONE _ (HWB.out.trans (HW.out.mono HWB.out.size))
      · have d2 : decide ((200 : Int) < (x.length : Int)) = false := by simp; omega
        have d2' : decide (200 < x.length) = false := by simp; omega
        have HN2 := Lib.hid (HN.out (by omega))
        clear HN h2
        go_wp2_with fail
        go_roundw
        case rel => exact ⟨k + 1, by omega, by go_num, HN2, HW⟩
        case measure => simp [intOf]; omega
    · obtain rfl : k = fs.length := by omega
      have hd : decide (fs.length < fs.length) = false := by simp
      have HF : Hid (∀ l ∈ fs, l.length ≤ 200) := Lib.hid (by have := HE.out; rwa [List.take_length] at this)
      have x1 : wr.cell? ⟨w.heap.size, 1, none⟩ = some (Value.slice A' bs.length c') := (HW.out.cell hlw).trans X1.out
      go_wp2_with fail
      clear x0 x1
      have HW1 := HW
      clear HW
      go_loopw [38] (fun i wr => ∃ k : Nat, k ≤ bs.length ∧ i = .int .i64 k ∧ Hid (∀ l ∈ bs.take k, l.length ≤ 200) ∧ Hid (Below w1.heap.size w1 wr)) (fun i _ => bs.length - (intOf i).toNat)
      case atStart => exact ⟨0, by omega, rfl, Lib.hid (by simp), HW1⟩
      case round =>
        obtain ⟨k, hk, rfl, HE, HW⟩ := hrel
        have x1 : wr.cell? ⟨w.heap.size, 1, none⟩ = some (Value.slice A' bs.length c') := (HW.out.cell hlw).trans X1.out
        by_cases hlt : k < bs.length
        · obtain ⟨ad, rfl, had, a0⟩ := HA'.out.at' hlt
          have a0' : wr.cell? (ad.add k) = _ := (HW.out.cell (by rw [add_block]; exact Nat.lt_trans had hlw)).trans ((HWB.out.cell (by rw [add_block]; exact had)).trans a0)
          clear a0
          have HN : Hid ((bs.getD k []).length ≤ 200 → ∀ l ∈ bs.take (k + 1), l.length ≤ 200) := Lib.hid (fun hx => mem_of_take hlt HE.out hx)
          generalize bs.getD k [] = x at *
          have i0 : (0 : Int) ≤ (k : Int) := by omega
          have i1 : (k : Int) < (bs.length : Int) := by omega
          by_cases h2 : 200 < x.length
          · have d2 : decide ((200 : Int) < (x.length : Int)) = true := by simp; omega
            have d2' : decide (200 < x.length) = true := by simp; omega
            clear HN h2
            go_wp2_with fail
            go_ret
            exact ONE _ (HWB.out.trans (HW.out.mono HWB.out.size))
          · have d2 : decide ((200 : Int) < (x.length : Int)) = false := by simp; omega
            have d2' : decide (200 < x.length) = false := by simp; omega
            have HN2 := Lib.hid (HN.out (by omega))
            clear HN h2
            go_wp2_with fail
            go_roundw
            case rel => exact ⟨k + 1, by omega, by go_num, HN2, HW⟩
            case measure => simp [intOf]; omega
        · obtain rfl : k = bs.length := by omega
          have hd : decide (bs.length < bs.length) = false := by simp
          have HB : Hid (∀ l ∈ bs, l.length ≤ 200) := Lib.hid (by have := HE.out; rwa [List.take_length] at this)
          go_wp2_with fail
          go_ret
          exact ⟨.inr ⟨rfl, H1, H2, H3.out, HF.out, HB.out⟩, HWB.out.trans (HW.out.mono HWB.out.size)⟩

theorem sizeOf_small {ls : List (List UInt8)} (h : ∀ l ∈ ls, l.length ≤ 200) : sizeOf ls ≤ 205 * ls.length := by
  induction ls with
  | nil => simp [sizeOf]
  | cons l ls ih =>
    have h1 := h l (by simp)
    have h2 := ih fun x hx => h x (by simp [hx])
    simp only [sizeOf, List.map_cons, List.sum_cons, List.length_cons] at *
    omega
theorem readL_small {fs bs : List (List UInt8)} {r : List UInt8} (h : Small32 fs bs r) : readL (imgB fs bs r) = some (fs, bs, r) := by
  obtain ⟨h1, h2, h3, h4, h5⟩ := h
  have s1 := sizeOf_small h4
  have s2 := sizeOf_small h5
  refine readL_imgB (fun l hl => by have := h4 l hl; omega) (fun l hl => by have := h5 l hl; omega) ?_ ?_ (by omega)
  · have := rowB_le fs (by omega); omega
  · have := rowB_le bs (by omega); omega
set_option maxRecDepth 100000 in
set_option maxHeartbeats 1000000 in
theorem ibytes_any (w : World) (A A' : Option Addr) (c c' : Nat) (f g : List (List UInt8)) (r : List UInt8) (hT : Tabs w) (hA : Strs w w.heap.size A f) (hA' : Strs w w.heap.size A' g) :
    Calls Tryd.prog 11 #[.agg #[.slice A f.length c, .slice A' g.length c', S r]] w fun e w' => e = .returned (.bool true) ∧ Below w.heap.size w w' := by
  have HX := Lib.hid (Whole.made w 24 #[.slice A f.length c, .slice A' g.length c', S r])
  have HB := Lib.hid ((Below.refl w.heap.size w).alloc (Nat.le_refl _) (.cells #[.slice A f.length c, .slice A' g.length c', S r] 24))
  have HT := Lib.hid hT
  have HA := Lib.hid hA
  have HA' := Lib.hid hA'
  clear hT hA hA'
  go_enter Tryd.func11, Tryd.ntmps11
  go_upto_region 1 with (fail)
  generalize w.alloc (.cells #[.slice A f.length c, .slice A' g.length c', S r] 24) = w1 at *
  have x0 : w1.cell? ⟨w.heap.size, 0, none⟩ = some (Value.slice A f.length c) := HX.out.cell 0
  have x1 : w1.cell? ⟨w.heap.size, 1, none⟩ = some (Value.slice A' g.length c') := HX.out.cell 1
  have x2 : w1.cell? ⟨w.heap.size, 2, none⟩ = some (S r) := HX.out.cell 2
  have hxl := HX.out.lt
  have HL1 := Lib.hid (lies_one HA.out HB.out HB.out.size)
  have HL2 := Lib.hid (lies_one HA'.out HB.out HB.out.size)
  go_wp2_with fail
  refine (great32_any w1 A A' c c' f g r HL1.out HL2.out).mono ?_
  rintro e w2 ⟨he, hb2⟩
  have HX2 := Lib.hid (HX.out.below hb2 HX.out.lt)
  have HB2 := Lib.hid (HB.out.trans (hb2.mono HB.out.size))
  clear hb2 HX HB HL1 HL2 x0 x1 x2
  rcases he with rfl | ⟨rfl, hsm⟩
  · go_wp2_with fail
    refine (awake_any w2).mono ?_
    rintro e w3 ⟨rfl, hb3⟩
    have HB3 := Lib.hid (HB2.out.trans (hb3.mono HB2.out.size))
    clear hb3
    go_wp2_with fail
    go_ret
    exact ⟨rfl, HB3.out⟩
  have HR := Lib.hid (readL_small hsm)
  have hs : sizeOf f + sizeOf g + r.length ≤ 4294967296 := by
    obtain ⟨h1, h2, h3, h4, h5⟩ := hsm
    have s1 := sizeOf_small h4
    have s2 := sizeOf_small h5
    omega
  have c1 : f.length ≤ 1099511627776 := by have := hsm.1; omega
  have c2 : g.length ≤ 1099511627776 := by have := hsm.2.1; omega
  have hlen : (imgB f g r).length ≤ 4294967296 := by
    obtain ⟨h1, h2, h3, h4, h5⟩ := hsm
    have s1 := sizeOf_small h4
    have s2 := sizeOf_small h5
    unfold imgB
    have r1 := rowB_le f (by omega)
    have r2 := rowB_le g (by omega)
    have := rowB_le [[104, 105, 98, 105], rowB f, rowB g, r] (by simp [sizeOf]; omega)
    simp only [sizeOf, List.map_cons, List.sum_cons, List.map_nil, List.sum_nil, List.length_cons, List.length_nil] at this
    omega
  clear hsm
  have x0 : w2.cell? ⟨w.heap.size, 0, none⟩ = some (Value.slice A f.length c) := HX2.out.cell 0
  have x1 : w2.cell? ⟨w.heap.size, 1, none⟩ = some (Value.slice A' g.length c') := HX2.out.cell 1
  have x2 : w2.cell? ⟨w.heap.size, 2, none⟩ = some (S r) := HX2.out.cell 2
  have hxl2 := HX2.out.lt
  go_wp2_with fail
  refine (imgBytes_any w2 A A' c c' f g r (lies_one HA.out HB2.out HB2.out.size) (lies_one HA'.out HB2.out HB2.out.size) hs).mono ?_
  rintro e w3 ⟨rfl, hb3⟩
  have HX3 := Lib.hid (HX2.out.below hb3 HX2.out.lt)
  have HB3 := Lib.hid (HB2.out.trans (hb3.mono HB2.out.size))
  clear hb3 HX2 HB2 x0 x1 x2
  obtain ⟨b, HBn⟩ : ∃ z, Hid (imgB f g r = z) := ⟨_, Lib.hid rfl⟩
  rw [HBn.out] at HR hlen
  rw [HBn.out]
  go_wp2_with fail
  refine (read_any w3 b hlen).mono ?_
  rintro e w4 ⟨hm, hb4⟩
  rw [HR.out] at hm
  obtain ⟨G, k, G', k', rfl, l1, l2⟩ := hm
  have HX4 := Lib.hid ((HX3.out.below hb4 HX3.out.lt).block (.cells #[.slice G f.length k, .slice G' g.length k', S r] 24))
  have HY4 := Lib.hid (Whole.made w4 24 #[.slice G f.length k, .slice G' g.length k', S r])
  have HB4 := Lib.hid ((HB3.out.trans (hb4.mono HB3.out.size)).alloc (HB3.out.trans (hb4.mono HB3.out.size)).size (.cells #[.slice G f.length k, .slice G' g.length k', S r] 24))
  have HM1 := Lib.hid (Lies.block' l1 (.cells #[.slice G f.length k, .slice G' g.length k', S r] 24))
  have HM2 := Lib.hid (Lies.block' l2 (.cells #[.slice G f.length k, .slice G' g.length k', S r] 24))
  clear hb4 l1 l2 HX3 HB3 HR
  go_upto_region 5 with (fail)
  generalize w4.alloc (.cells #[.slice G f.length k, .slice G' g.length k', S r] 24) = w5 at *
  generalize w4.heap.size = gy at *
  have x0 : w5.cell? ⟨w.heap.size, 0, none⟩ = some (Value.slice A f.length c) := HX4.out.cell 0
  have x1 : w5.cell? ⟨w.heap.size, 1, none⟩ = some (Value.slice A' g.length c') := HX4.out.cell 1
  have x2 : w5.cell? ⟨w.heap.size, 2, none⟩ = some (S r) := HX4.out.cell 2
  have hxl5 := HX4.out.lt
  go_wp2_with fail
  refine (rimgBytes_any w5 A A' c c' f g r (lies_one HA.out HB4.out HB4.out.size) (lies_one HA'.out HB4.out HB4.out.size) hs).mono ?_
  rintro e w6 ⟨rfl, hb6⟩
  rw [HBn.out]
  have HX6 := Lib.hid (HX4.out.below hb6 HX4.out.lt)
  have HY6 := Lib.hid (HY4.out.below hb6 HY4.out.lt)
  have HB6 := Lib.hid (HB4.out.trans (hb6.mono HB4.out.size))
  have HM3 := Lib.hid (Lies.wide (Lies.below HM1.out hb6) hb6.size)
  have HM4 := Lib.hid (Lies.wide (Lies.below HM2.out hb6) hb6.size)
  have ebe : (b == b) = true := by simp
  clear hb6 x0 x1 x2 HX4 HY4 HB4 HM1 HM2
  have x0 : w6.cell? ⟨w.heap.size, 0, none⟩ = some (Value.slice A f.length c) := HX6.out.cell 0
  have x1 : w6.cell? ⟨w.heap.size, 1, none⟩ = some (Value.slice A' g.length c') := HX6.out.cell 1
  have x2 : w6.cell? ⟨w.heap.size, 2, none⟩ = some (S r) := HX6.out.cell 2
  have hxl6 := HX6.out.lt
  go_wp2_with fail
  refine (imgSum_any w6 A A' c c' f g r (HT.out.below (Nat.le_refl _) HB6.out) (lies_one HA.out HB6.out HB6.out.size) (lies_one HA'.out HB6.out HB6.out.size) hs).mono ?_
  rintro e w7 ⟨rfl, hb7⟩
  rw [HBn.out]
  have HX7 := Lib.hid (HX6.out.below hb7 HX6.out.lt)
  have HY7 := Lib.hid (HY6.out.below hb7 HY6.out.lt)
  have HB7 := Lib.hid (HB6.out.trans (hb7.mono HB6.out.size))
  have HM5 := Lib.hid (Lies.wide (Lies.below HM3.out hb7) hb7.size)
  have HM6 := Lib.hid (Lies.wide (Lies.below HM4.out hb7) hb7.size)
  clear hb7 x0 x1 x2 HX6 HY6 HB6 HM3 HM4
  have HDL : Hid ((dig b).length = 32) := Lib.hid (dig_length b)
  have HDD : Hid (dig [b].flatten = dig b) := Lib.hid (by simp)
  obtain ⟨D, HDn⟩ : ∃ z, Hid (dig b = z) := ⟨_, Lib.hid rfl⟩
  rw [HDn.out] at HDL HDD
  rw [HDn.out]
  go_wp2_with fail
  refine (sum_any (w7.alloc (.cells #[S b] 9)) (some ⟨w7.heap.size, 0, none⟩) 1 [b] (HT.out.below (Nat.le_refl _) (HB7.out.alloc HB7.out.size _)) (lies_made w7 9 [S b] _ (by simp)) (by simp) (by simp; omega)).mono ?_
  rintro e w8 ⟨rfl, hb8⟩
  rw [HDD.out]
  have HX8 := Lib.hid ((HX7.out.block _).below hb8 (HX7.out.block _).lt)
  have HY8 := Lib.hid ((HY7.out.block _).below hb8 (HY7.out.block _).lt)
  have HB8 : Hid (Below w.heap.size w w8) := Lib.hid ((HB7.out.alloc HB7.out.size _).trans (hb8.mono (by have := HB7.out.size; simp; omega)))
  have HM7 := Lib.hid (Lies.wide (Lies.below (Lies.block' HM5.out _) hb8) hb8.size)
  have HM8 := Lib.hid (Lies.wide (Lies.below (Lies.block' HM6.out _) hb8) hb8.size)
  clear hb8 HX7 HY7 HB7 HM5 HM6
  have eqr : ∀ W : World, (Op.equalIn 10000 29 (D32 D) (D32 D)).run Tryd.prog W = .ok true W := fun W => by rw [eqIn_D32 D D HDL.out HDL.out]; simp
  have x0 : w8.cell? ⟨w.heap.size, 0, none⟩ = some (Value.slice A f.length c) := HX8.out.cell 0
  have x1 : w8.cell? ⟨w.heap.size, 1, none⟩ = some (Value.slice A' g.length c') := HX8.out.cell 1
  have x2 : w8.cell? ⟨w.heap.size, 2, none⟩ = some (S r) := HX8.out.cell 2
  have y0 : w8.cell? ⟨gy, 0, none⟩ = some (Value.slice G f.length k) := HY8.out.cell 0
  have y1 : w8.cell? ⟨gy, 1, none⟩ = some (Value.slice G' g.length k') := HY8.out.cell 1
  have y2 : w8.cell? ⟨gy, 2, none⟩ = some (S r) := HY8.out.cell 2
  have hxl8 := HX8.out.lt
  have hyl8 := HY8.out.lt
  go_wp2_with fail
  refine (same32_any w8 A A' G G' c c' k k' f g f g r r (lies_one HA.out HB8.out HB8.out.size) (lies_one HA'.out HB8.out HB8.out.size) HM7.out HM8.out c1 c2 c1 c2).mono ?_
  rintro e w9 ⟨rfl, hb9⟩
  rw [show imgEq f g r f g r = true by simp [imgEq]]
  have HB9 := Lib.hid (HB8.out.trans (hb9.mono HB8.out.size))
  clear hb9 x0 x1 x2 y0 y1 y2
  go_wp2_with fail
  refine (awake_any w9).mono ?_
  rintro e w10 ⟨rfl, hb10⟩
  have HB10 := Lib.hid (HB9.out.trans (hb10.mono HB9.out.size))
  clear hb10
  go_wp2_with fail
  go_ret
  exact ⟨rfl, HB10.out⟩
end Go.Proofs.YtecamaceainfpaaDoor
