/-
  Walk: hibernaclelaw35.DeltaJoins. (Printed by gen_joins.py.)
-/
import Derived.Test.YtecamaceainfpaaDoorJoinsP
import Derived.Test.YtecamaceainfpaaDoorBack
namespace Go.Proofs.YtecamaceainfpaaDoor
open Go.RowKit

theorem DelR.is {fa ba fb bb : List (List UInt8)} {ra rb : List UInt8} {c : List Value} {ps : Rows'} {W : World} (h : DelR fa ba fb bb ra rb c ps) (hh : Held W ps) :
    IsD (fromD fa ba fb bb ra) (dig (imgB fb bb rb)) rb (othersTo (onto (less fa ba fb bb) fa) fb fb.length) (othersTo (onto (less fa ba fb bb) ba) bb bb.length) W c := by
  obtain ⟨G, k, G', k', rfl, rfl⟩ := h
  exact ⟨G, k, G', k', rfl, hh _ (List.mem_cons_self ..), hh _ (List.mem_cons_of_mem _ (List.mem_cons_self ..))⟩
set_option maxRecDepth 100000 in
set_option maxHeartbeats 4000000 in
theorem joins_any (w : World) (A A' B B' C C' : Option Addr) (c c' d d' k k' : Nat) (fa ba fb bb fc bc : List (List UInt8)) (ra rb rc : List UInt8) (hT : Tabs w) (hA : Strs w w.heap.size A fa) (hA' : Strs w w.heap.size A' ba) (hB : Strs w w.heap.size B fb) (hB' : Strs w w.heap.size B' bb) (hC : Strs w w.heap.size C fc) (hC' : Strs w w.heap.size C' bc)
    (hs : sizeOf fa + sizeOf ba + ra.length ≤ 268435456) (hs' : sizeOf fb + sizeOf bb + rb.length ≤ 268435456) (hs'' : sizeOf fc + sizeOf bc + rc.length ≤ 268435456) :
    Calls Tryd.prog 7 #[.agg #[.slice A fa.length c, .slice A' ba.length c', S ra], .agg #[.slice B fb.length d, .slice B' bb.length d', S rb], .agg #[.slice C fc.length k, .slice C' bc.length k', S rc]] w fun e w' => e = .returned (.bool true) ∧ Below w.heap.size w w' := by
  have HT := Lib.hid hT
  have HA := Lib.hid hA
  have HA' := Lib.hid hA'
  have HB := Lib.hid hB
  have HB' := Lib.hid hB'
  have HC := Lib.hid hC
  have HC' := Lib.hid hC'
  clear hT hA hA' hB hB' hC hC'
  have la := length_le_sizeOf fa
  have la' := length_le_sizeOf ba
  have lb := length_le_sizeOf fb
  have lb' := length_le_sizeOf bb
  have lc := length_le_sizeOf fc
  have lc' := length_le_sizeOf bc
  go_enter Tryd.func7, Tryd.ntmps7
  go_wp2_with fail
  have hx := (((Whole.made w 24 #[.slice A fa.length c, .slice A' ba.length c', S ra]).block (.cells #[.slice B fb.length d, .slice B' bb.length d', S rb] 24)).block (.cells #[.slice C fc.length k, .slice C' bc.length k', S rc] 24)).block (.cells #[.slice A fa.length c, .slice A' ba.length c', S ra, .slice B fb.length d, .slice B' bb.length d', S rb, .slice C fc.length k, .slice C' bc.length k', S rc] 24)
  have hy := ((Whole.made (w.alloc (.cells #[.slice A fa.length c, .slice A' ba.length c', S ra] 24)) 24 #[.slice B fb.length d, .slice B' bb.length d', S rb]).block (.cells #[.slice C fc.length k, .slice C' bc.length k', S rc] 24)).block (.cells #[.slice A fa.length c, .slice A' ba.length c', S ra, .slice B fb.length d, .slice B' bb.length d', S rb, .slice C fc.length k, .slice C' bc.length k', S rc] 24)
  have hz := (Whole.made ((w.alloc (.cells #[.slice A fa.length c, .slice A' ba.length c', S ra] 24)).alloc (.cells #[.slice B fb.length d, .slice B' bb.length d', S rb] 24)) 24 #[.slice C fc.length k, .slice C' bc.length k', S rc]).block (.cells #[.slice A fa.length c, .slice A' ba.length c', S ra, .slice B fb.length d, .slice B' bb.length d', S rb, .slice C fc.length k, .slice C' bc.length k', S rc] 24)
  have hv := Whole.made (((w.alloc (.cells #[.slice A fa.length c, .slice A' ba.length c', S ra] 24)).alloc (.cells #[.slice B fb.length d, .slice B' bb.length d', S rb] 24)).alloc (.cells #[.slice C fc.length k, .slice C' bc.length k', S rc] 24)) 24 #[.slice A fa.length c, .slice A' ba.length c', S ra, .slice B fb.length d, .slice B' bb.length d', S rb, .slice C fc.length k, .slice C' bc.length k', S rc]
  have hb : Below w.heap.size w ((((w.alloc (.cells #[.slice A fa.length c, .slice A' ba.length c', S ra] 24)).alloc (.cells #[.slice B fb.length d, .slice B' bb.length d', S rb] 24)).alloc (.cells #[.slice C fc.length k, .slice C' bc.length k', S rc] 24)).alloc (.cells #[.slice A fa.length c, .slice A' ba.length c', S ra, .slice B fb.length d, .slice B' bb.length d', S rb, .slice C fc.length k, .slice C' bc.length k', S rc] 24)) := ((((Below.refl _ _).alloc (Nat.le_refl _) _).alloc (by simp) _).alloc (by simp; omega) _).alloc (by simp; omega) _
  rw [show (w.alloc (.cells #[.slice A fa.length c, .slice A' ba.length c', S ra] 24)).heap.size = w.heap.size + 1 by simp] at hy
  rw [show ((w.alloc (.cells #[.slice A fa.length c, .slice A' ba.length c', S ra] 24)).alloc (.cells #[.slice B fb.length d, .slice B' bb.length d', S rb] 24)).heap.size = w.heap.size + 1 + 1 by simp] at hz
  rw [show (((w.alloc (.cells #[.slice A fa.length c, .slice A' ba.length c', S ra] 24)).alloc (.cells #[.slice B fb.length d, .slice B' bb.length d', S rb] 24)).alloc (.cells #[.slice C fc.length k, .slice C' bc.length k', S rc] 24)).heap.size = w.heap.size + 1 + 1 + 1 by simp] at hv
  change Calls _ _ _ ((((w.alloc (.cells #[.slice A fa.length c, .slice A' ba.length c', S ra] 24)).alloc (.cells #[.slice B fb.length d, .slice B' bb.length d', S rb] 24)).alloc (.cells #[.slice C fc.length k, .slice C' bc.length k', S rc] 24)).alloc (.cells #[.slice A fa.length c, .slice A' ba.length c', S ra, .slice B fb.length d, .slice B' bb.length d', S rb, .slice C fc.length k, .slice C' bc.length k', S rc] 24)) _
  generalize ((((w.alloc (.cells #[.slice A fa.length c, .slice A' ba.length c', S ra] 24)).alloc (.cells #[.slice B fb.length d, .slice B' bb.length d', S rb] 24)).alloc (.cells #[.slice C fc.length k, .slice C' bc.length k', S rc] 24)).alloc (.cells #[.slice A fa.length c, .slice A' ba.length c', S ra, .slice B fb.length d, .slice B' bb.length d', S rb, .slice C fc.length k, .slice C' bc.length k', S rc] 24)) = w1 at *
  generalize hgx : w.heap.size = gx at *
  have HGX := Lib.hid hgx
  clear hgx
  have hl := hv.lt
  have HX := Lib.hid hx
  have HY := Lib.hid hy
  have HZ := Lib.hid hz
  have HW := Lib.hid hb
  have hL : ∀ (W : World) (G : Option Addr) (xs : List Value), Below w1.heap.size w1 W → Lies w gx G xs → Lies W W.heap.size G xs := fun W G xs hW h => ((h.below HW.out).below (hW.mono (by omega))).wide (by have := hW.size; omega)
  have HLL := Lib.hid hL
  have HEND : Hid (∀ W : World, Below w1.heap.size w1 W → Below gx w W) := Lib.hid fun W hW => HW.out.trans (hW.mono (by omega))
  have HTW : Hid (∀ W, Below w1.heap.size w1 W → Tabs W) := Lib.hid fun W hW => HT.out.below (by rw [HGX.out]; exact Nat.le_refl _) (HEND.out W hW)
  have HIMS : Hid (∀ W, Below w1.heap.size w1 W → ∀ x ∈ [(⟨A, c, fa, A', c', ba, ra⟩ : Im), ⟨B, d, fb, B', d', bb, rb⟩, ⟨C, k, fc, C', k', bc, rc⟩], x.at_ W W.heap.size) := Lib.hid (by
    intro W hW x hx
    simp only [List.mem_cons, List.not_mem_nil, or_false] at hx
    rcases hx with rfl | rfl | rfl
    · exact ⟨hL _ _ _ hW HA.out, hL _ _ _ hW HA'.out⟩
    · exact ⟨hL _ _ _ hW HB.out, hL _ _ _ hW HB'.out⟩
    · exact ⟨hL _ _ _ hW HC.out, hL _ _ _ hW HC'.out⟩)
  have hims : Lies w1 w1.heap.size (some ⟨gx + 1 + 1 + 1, 0, none⟩) (imsCells [⟨A, c, fa, A', c', ba, ra⟩, ⟨B, d, fb, B', d', bb, rb⟩, ⟨C, k, fc, C', k', bc, rc⟩]) := ims_at hv
  clear hx hy hz hb hv hL
  refine (great_any w1 (some ⟨gx + 1 + 1 + 1, 0, none⟩) 3 [⟨A, c, fa, A', c', ba, ra⟩, ⟨B, d, fb, B', d', bb, rb⟩, ⟨C, k, fc, C', k', bc, rc⟩] hims (HIMS.out w1 (Below.refl _ _)) (by simp) (by simp only [total, Im.size, List.map_cons, List.map_nil, List.sum_cons, List.sum_nil]; omega)).mono ?_
  rintro e w2 ⟨rfl, hb2⟩
  clear hims
  have HFX : Hid (∀ W : World, Below w1.heap.size w1 W → Calls Tryd.prog 13 #[] W fun e w' => e = .returned (.bool true) ∧ Below w1.heap.size w1 w') := Lib.hid fun W hW => (fixed_any W (HTW.out W hW)).mono fun e w' h => ⟨h.1, hW.trans (h.2.mono hW.size)⟩
  have C0 : w2.cell? ⟨gx, 0, none⟩ = some _ := (HX.out.below hb2 (by omega)).cell 0
  have C1 : w2.cell? ⟨gx, 1, none⟩ = some _ := (HX.out.below hb2 (by omega)).cell 1
  have C2 : w2.cell? ⟨gx, 2, none⟩ = some _ := (HX.out.below hb2 (by omega)).cell 2
  have D0 : w2.cell? ⟨gx + 1, 0, none⟩ = some _ := (HY.out.below hb2 (by omega)).cell 0
  have D1 : w2.cell? ⟨gx + 1, 1, none⟩ = some _ := (HY.out.below hb2 (by omega)).cell 1
  have D2 : w2.cell? ⟨gx + 1, 2, none⟩ = some _ := (HY.out.below hb2 (by omega)).cell 2
  have E0 : w2.cell? ⟨gx + 1 + 1, 0, none⟩ = some _ := (HZ.out.below hb2 (by omega)).cell 0
  have E1 : w2.cell? ⟨gx + 1 + 1, 1, none⟩ = some _ := (HZ.out.below hb2 (by omega)).cell 1
  have E2 : w2.cell? ⟨gx + 1 + 1, 2, none⟩ = some _ := (HZ.out.below hb2 (by omega)).cell 2
  have HB2 := Lib.hid hb2
  have hl2 : w1.heap.size ≤ w2.heap.size := hb2.size
  clear hb2
  by_cases hgr : 4000 < total [(⟨A, c, fa, A', c', ba, ra⟩ : Im), ⟨B, d, fb, B', d', bb, rb⟩, ⟨C, k, fc, C', k', bc, rc⟩]
  · rw [decide_eq_true hgr]
    clear hgr
    go_wp2_with (go_at_call 13; refine (HFX.out _ HB2.out).mono ?_; rintro e w3 ⟨rfl, hb3⟩)
    go_ret
    exact ⟨rfl, by rw [HGX.out]; exact HEND.out _ hb3⟩
  · rw [decide_eq_false hgr]
    have hsm : sizeOf fa + sizeOf ba + ra.length + (sizeOf fb + sizeOf bb + rb.length) + (sizeOf fc + sizeOf bc + rc.length) ≤ 4000 := by
      simp only [total, Im.size, List.map_cons, List.map_nil, List.sum_cons, List.sum_nil] at hgr; omega
    clear hgr
    go_wp2_with fail
    change Calls _ _ _ (w2.alloc (.cells #[.slice A fa.length c, .slice A' ba.length c', S ra, .slice B fb.length d, .slice B' bb.length d', S rb, .slice C fc.length k, .slice C' bc.length k', S rc] 24)) _
    refine (apart_any (w2.alloc (.cells #[.slice A fa.length c, .slice A' ba.length c', S ra, .slice B fb.length d, .slice B' bb.length d', S rb, .slice C fc.length k, .slice C' bc.length k', S rc] 24)) (some ⟨w2.heap.size, 0, none⟩) 3 [⟨A, c, fa, A', c', ba, ra⟩, ⟨B, d, fb, B', d', bb, rb⟩, ⟨C, k, fc, C', k', bc, rc⟩] (ims_at (Whole.made w2 24 #[.slice A fa.length c, .slice A' ba.length c', S ra, .slice B fb.length d, .slice B' bb.length d', S rb, .slice C fc.length k, .slice C' bc.length k', S rc])) (HIMS.out _ (HB2.out.alloc hl2 _)) (by simp) (by
      intro x hx
      simp only [List.mem_cons, List.not_mem_nil, or_false] at hx
      rcases hx with rfl | rfl | rfl <;> (simp only [Im.size]; omega))).mono ?_
    rintro e w5 ⟨rfl, hb5⟩
    have HB5 := Lib.hid ((HB2.out.alloc hl2 _).trans (hb5.mono (by simp; omega)))
    have hl5 : w1.heap.size ≤ w5.heap.size := HB5.out.size
    clear hb5 C0 C1 C2 D0 D1 D2 E0 E1 E2
    obtain ⟨p, HP⟩ : ∃ z, Hid (apartB (apTexts [⟨A, c, fa, A', c', ba, ra⟩, ⟨B, d, fb, B', d', bb, rb⟩, ⟨C, k, fc, C', k', bc, rc⟩]) = z) := ⟨_, Lib.hid rfl⟩
    rw [HP.out]
    cases p with
    | false =>
      go_wp2_with (go_at_call 13; refine (HFX.out _ HB5.out).mono ?_; rintro e w6 ⟨rfl, hb6⟩)
      go_ret
      exact ⟨rfl, by rw [HGX.out]; exact HEND.out _ hb6⟩
    | true =>
      have HAP : Hid (apartL [imgB [] [] [], imgB fa ba ra, imgB fb bb rb, imgB fc bc rc]) := Lib.hid (apartB_iff.1 HP.out)
      have HOK := Lib.hid (joins_join fa ba fb bb fc bc ra rb rc HAP.out)
      go_upto_region 3 with (fail)
      generalize w2.heap.size = g2 at *
      refine wp_pair (by kernel_rfl) (fun v7 v8 v27 v28 v29 v30 v31 v32 => ⟨#[.agg #[.slice A fa.length c, .slice A' ba.length c', S ra], .agg #[.slice B fb.length d, .slice B' bb.length d', S rb], .agg #[.slice C fc.length k, .slice C' bc.length k', S rc], .pointer (some ⟨gx, 0, none⟩), .pointer (some ⟨gx + 1, 0, none⟩), .pointer (some ⟨gx + 1 + 1, 0, none⟩), .bool false, v7, v8, undef, undef, undef, undef, .agg #[.slice A fa.length c, .slice A' ba.length c', S ra], .agg #[.slice B fb.length d, .slice B' bb.length d', S rb], .agg #[.slice C fc.length k, .slice C' bc.length k', S rc], .slice (some ⟨gx + 1 + 1 + 1, 0, none⟩) 3 3, .bool false, .bool false, .agg #[.slice A fa.length c, .slice A' ba.length c', S ra], .agg #[.slice B fb.length d, .slice B' bb.length d', S rb], .agg #[.slice C fc.length k, .slice C' bc.length k', S rc], .slice (some ⟨g2, 0, none⟩) 3 3, .bool true, .bool false, .bool false, undef, v27, v28, v29, v30, v31, v32, undef, undef, undef, undef, undef, undef, undef, undef, undef, undef, undef, undef, undef, undef, undef, undef, undef, undef, undef, undef, undef, undef, undef, undef, undef, undef], []⟩) rfl
        w5.heap.size (Below.refl _ _) (Nat.le_refl _) (.agg #[.slice A fa.length c, .slice A' ba.length c', S ra]) (.agg #[.slice B fb.length d, .slice B' bb.length d', S rb]) (.agg #[.slice B fb.length d, .slice B' bb.length d', S rb]) (.agg #[.slice C fc.length k, .slice C' bc.length k', S rc])
        32 67 (DelR fa ba fb bb ra rb) (DelR fb bb fc bc rb rc) (by kernel_rfl) (by kernel_rfl) (by kernel_rfl) (by kernel_rfl) (by kernel_rfl) (by kernel_rfl) ?s0 ?s1 ?s3 ?s4 ?s2 ?s5 Tryd.zeroCells32.toList (by kernel_rfl) ?s6 ?s7 ?s8 ?s9 (fun _ _ h => h.length) (fun _ _ h => h.length) ?hend
      case s0 =>
        intro v7 v8 v27 v28 v29 v30 v31 v32 W K hW hK
        have hW1 := HB5.out.trans (hW.mono hl5)
        have C0 : W.cell? ⟨gx, 0, none⟩ = some _ := (HX.out.below hW1 (by omega)).cell 0
        have C1 : W.cell? ⟨gx, 1, none⟩ = some _ := (HX.out.below hW1 (by omega)).cell 1
        have C2 : W.cell? ⟨gx, 2, none⟩ = some _ := (HX.out.below hW1 (by omega)).cell 2
        go_simp
        exact hK
      case s1 =>
        intro v7 v8 v27 v28 v29 v30 v31 v32 W K hW hK
        have hW1 := HB5.out.trans (hW.mono hl5)
        have D0 : W.cell? ⟨gx + 1, 0, none⟩ = some _ := (HY.out.below hW1 (by omega)).cell 0
        have D1 : W.cell? ⟨gx + 1, 1, none⟩ = some _ := (HY.out.below hW1 (by omega)).cell 1
        have D2 : W.cell? ⟨gx + 1, 2, none⟩ = some _ := (HY.out.below hW1 (by omega)).cell 2
        go_simp
        exact hK
      case s3 =>
        intro v7 v8 v27 v28 v29 v30 v31 v32 W K hW hK
        have hW1 := HB5.out.trans (hW.mono hl5)
        have D0 : W.cell? ⟨gx + 1, 0, none⟩ = some _ := (HY.out.below hW1 (by omega)).cell 0
        have D1 : W.cell? ⟨gx + 1, 1, none⟩ = some _ := (HY.out.below hW1 (by omega)).cell 1
        have D2 : W.cell? ⟨gx + 1, 2, none⟩ = some _ := (HY.out.below hW1 (by omega)).cell 2
        go_simp
        exact hK
      case s4 =>
        intro v7 v8 v27 v28 v29 v30 v31 v32 W K hW hK
        have hW1 := HB5.out.trans (hW.mono hl5)
        have E0 : W.cell? ⟨gx + 1 + 1, 0, none⟩ = some _ := (HZ.out.below hW1 (by omega)).cell 0
        have E1 : W.cell? ⟨gx + 1 + 1, 1, none⟩ = some _ := (HZ.out.below hW1 (by omega)).cell 1
        have E2 : W.cell? ⟨gx + 1 + 1, 2, none⟩ = some _ := (HZ.out.below hW1 (by omega)).cell 2
        go_simp
        exact hK
      case s2 =>
        intro v7 v8 v29 v30 v31 v32 W K hW hK
        have hW1 := HB5.out.trans (hW.mono hl5)
        have hc := of_any W A A' B B' c c' d d' fa ba fb bb ra rb (HTW.out _ hW1) (HLL.out _ _ _ hW1 HA.out) (HLL.out _ _ _ hW1 HA'.out) (HLL.out _ _ _ hW1 HB.out) (HLL.out _ _ _ hW1 HB'.out) (by omega) (by omega)
        go_simp
        refine hc.mono fun e w' he => ?_
        obtain ⟨c, ps, rfl, h1, h2, h3, h4⟩ := he.held
        exact hK c ps w' h1 h2 h3 h4
      case s5 =>
        intro v7 v8 v27 v28 v29 v32 W K hW hK
        have hW1 := HB5.out.trans (hW.mono hl5)
        have hc := of_any W B B' C C' d d' k k' fb bb fc bc rb rc (HTW.out _ hW1) (HLL.out _ _ _ hW1 HB.out) (HLL.out _ _ _ hW1 HB'.out) (HLL.out _ _ _ hW1 HC.out) (HLL.out _ _ _ hW1 HC'.out) (by omega) (by omega)
        go_simp
        refine hc.mono fun e w' he => ?_
        obtain ⟨c, ps, rfl, h1, h2, h3, h4⟩ := he.held
        exact hK c ps w' h1 h2 h3 h4
      case s6 =>
        intro v7 v8 v27 v28 v29 v30 v31 v32 W K hK
        go_simp
        exact hK
      case s7 =>
        intro v7 v8 v27 v28 v29 v30 v31 v32 W K hK
        go_simp
        exact hK
      case s8 =>
        intro p c d ps v8 v27 v28 v30 v31 v32 W K hR hW hd hK
        exact wp_store_whole 32 (.tmp 7) (.tmp 29) rfl rfl p rfl c rfl (by rw [hR.length]; kernel_rfl) d 32 hW (by rw [hd, hR.length]) hR.one hK
      case s9 =>
        intro q c d ps v7 v27 v28 v29 v30 v31 W K hR hW hd hK
        exact wp_store_whole 32 (.tmp 8) (.tmp 32) rfl rfl q rfl c rfl (by rw [hR.length]; kernel_rfl) d 32 hW (by rw [hd, hR.length]) hR.one hK
      case hend =>
        intro p q c1 c2 ps1 ps2 W hW hBp hBq hpq hR1 hR2 hH1 hH2 hWp hWq _ _ _ _
        have HB6 := Lib.hid (HB5.out.trans (hW.mono hl5))
        have I1 := Lib.hid (hR1.is hH1)
        have I2 := Lib.hid (hR2.is hH2)
        have L1 := Lib.hid hR1.length
        have L2 := Lib.hid hR2.length
        have R1 := Lib.hid hWp.reads
        have R2 := Lib.hid hWq.reads
        have N1 := Lib.hid (delta_info L1.out)
        have N2 := Lib.hid (delta_info L2.out)
        clear hR1 hR2 hH1 hH2 hWp hWq hW hBp hBq hpq HB5
        have HFL : Hid ((fromD fa ba fb bb ra).length = 32) := Lib.hid (dig_length _)
        have HFL' : Hid ((fromD fb bb fc bc rb).length = 32) := Lib.hid (dig_length _)
        have HTL : Hid ((dig (imgB fb bb rb)).length = 32) := Lib.hid (dig_length _)
        have HTL' : Hid ((dig (imgB fc bc rc)).length = 32) := Lib.hid (dig_length _)
        have hws : wSize (othersTo (onto (less fa ba fb bb) fa) fb fb.length) ≤ 2 * sizeOf fb := by have := wSize_others (onto (less fa ba fb bb) fa) fb fb.length (Nat.le_refl _); rwa [List.take_of_length_le (Nat.le_refl _)] at this
        have hws' : wSize (othersTo (onto (less fa ba fb bb) ba) bb bb.length) ≤ 2 * sizeOf bb := by have := wSize_others (onto (less fa ba fb bb) ba) bb bb.length (Nat.le_refl _); rwa [List.take_of_length_le (Nat.le_refl _)] at this
        have hws2 : wSize (othersTo (onto (less fb bb fc bc) fb) fc fc.length) ≤ 2 * sizeOf fc := by have := wSize_others (onto (less fb bb fc bc) fb) fc fc.length (Nat.le_refl _); rwa [List.take_of_length_le (Nat.le_refl _)] at this
        have hws2' : wSize (othersTo (onto (less fb bb fc bc) bb) bc bc.length) ≤ 2 * sizeOf bc := by have := wSize_others (onto (less fb bb fc bc) bb) bc bc.length (Nat.le_refl _); rwa [List.take_of_length_le (Nat.le_refl _)] at this
        have hwl := wSize_len (othersTo (onto (less fa ba fb bb) fa) fb fb.length)
        have hwl' := wSize_len (othersTo (onto (less fa ba fb bb) ba) bb bb.length)
        have hwl2 := wSize_len (othersTo (onto (less fb bb fc bc) fb) fc fc.length)
        have hwl2' := wSize_len (othersTo (onto (less fb bb fc bc) bb) bc bc.length)
        have CJ := Lib.hid (join_any W (fromD fa ba fb bb ra) (dig (imgB fb bb rb)) rb (othersTo (onto (less fa ba fb bb) fa) fb fb.length) (othersTo (onto (less fa ba fb bb) ba) bb bb.length) c1 (fromD fb bb fc bc rb) (dig (imgB fc bc rc)) rc (othersTo (onto (less fb bb fc bc) fb) fc fc.length) (othersTo (onto (less fb bb fc bc) bb) bc bc.length) c2 (HTW.out _ HB6.out) I1.out I2.out HFL.out HTL.out HFL'.out HTL'.out (by omega) (by omega))
        obtain ⟨jF, jf, jb, hj, hjF, hjf, hjb, hja⟩ := HOK.out
        rw [hj] at CJ
        have HJF := Lib.hid hjF
        have HJA := Lib.hid hja
        clear hj hjF hja HOK
        generalize fromD fa ba fb bb ra = F at *
        generalize fromD fb bb fc bc rb = F' at *
        generalize dig (imgB fb bb rb) = T at *
        generalize dig (imgB fc bc rc) = T' at *
        generalize (othersTo (onto (less fa ba fb bb) fa) fb fb.length) = wf at *
        generalize (othersTo (onto (less fa ba fb bb) ba) bb bb.length) = wb at *
        generalize (othersTo (onto (less fb bb fc bc) fb) fc fc.length) = wf' at *
        generalize (othersTo (onto (less fb bb fc bc) bb) bc bc.length) = wb' at *
        go_wp2_with (first
          | (refine wpList_load_at rfl 32 (.tmp 7) rfl ⟨p, 0, none⟩ rfl c1 _ R1.out Tryd.underlying32 rfl N1.out ?_)
          | (refine wpList_load_at rfl 32 (.tmp 8) rfl ⟨q, 0, none⟩ rfl c2 _ R2.out Tryd.underlying32 rfl N2.out ?_))
        refine CJ.out.mono ?_
        rintro e w6 ⟨⟨V6, rfl, i6⟩, hb6⟩
        have I6 := Lib.hid i6
        have HB7 := Lib.hid (HB6.out.trans (hb6.mono HB6.out.size))
        have L6 := Lib.hid (I6.out.length HJF.out HTL'.out)
        have O6 := Lib.hid I6.out.one
        have Z6 := Lib.hid (delta_zero w6)
        have F6 := Lib.hid (delta_fits L6.out)
        have N6 := Lib.hid (delta_info L6.out)
        clear hb6 i6 CJ I1 I2 R1 R2 HB6
        go_upto_region 5 with (refine wpList_store_at rfl 32 (.tmp 9) (.tmp 37) rfl rfl w6.heap.size 0 rfl V6 rfl N6.out Tryd.zeroCells32.toList 32 Z6.out F6.out O6.out ?_; intro w7 N7 F7)
        obtain ⟨n7, b7⟩ := dboxed L6.out N7.out F7.out
        have HB8 := Lib.hid (HB7.out.trans (b7.mono HB7.out.size))
        have I7 := Lib.hid (I6.out.below b7)
        have R7 := Lib.hid n7.reads
        generalize w6.heap.size = g6 at *
        clear N7 F7 Z6 F6 I6 n7 b7 HB7
        have CA := Lib.hid (I7.out.apply (HTW.out _ HB8.out) HJF.out HTL'.out A A' c c' fa ba ra (HLL.out _ _ _ HB8.out HA.out) (HLL.out _ _ _ HB8.out HA'.out) (by omega) 0 fc bc rc HJA.out)
        have C0 : w7.cell? ⟨gx, 0, none⟩ = some _ := (HX.out.below HB8.out (by omega)).cell 0
        have C1 : w7.cell? ⟨gx, 1, none⟩ = some _ := (HX.out.below HB8.out (by omega)).cell 1
        have C2 : w7.cell? ⟨gx, 2, none⟩ = some _ := (HX.out.below HB8.out (by omega)).cell 2
        go_wp2_with (refine wpList_load_at rfl 32 (.tmp 9) rfl ⟨g6, 0, none⟩ rfl V6 _ R7.out Tryd.underlying32 rfl N6.out ?_)
        refine CA.out.mono ?_
        rintro e w11 ⟨P, kp, P', kp', rfl, HP11, hb11⟩
        have HB11 := Lib.hid (HB8.out.trans (hb11.mono HB8.out.size))
        clear hb11 C0 C1 C2 CA R7 I7 HB8
        have hl11 : w1.heap.size ≤ w11.heap.size := HB11.out.size
        have hX11 := Whole.made w11 24 #[.slice P fc.length kp, .slice P' bc.length kp', S rc]
        have hb12 := HB11.out.alloc hl11 (.cells #[.slice P fc.length kp, .slice P' bc.length kp', S rc] 24)
        go_upto_region 6 with (fail)
        change Code.wp _ _ _ _ (w11.alloc (.cells #[.slice P fc.length kp, .slice P' bc.length kp', S rc] 24))
        have HP1 := Lib.hid (Lies.block' HP11.out.1 (.cells #[.slice P fc.length kp, .slice P' bc.length kp', S rc] 24))
        have HP2 := Lib.hid (Lies.block' HP11.out.2 (.cells #[.slice P fc.length kp, .slice P' bc.length kp', S rc] 24))
        generalize w11.alloc (.cells #[.slice P fc.length kp, .slice P' bc.length kp', S rc] 24) = w12 at *
        generalize w11.heap.size = gb at *
        clear HP11 HB11
        have HB12 := Lib.hid hb12
        have HX12 := Lib.hid hX11
        clear hb12 hX11
        go_wp2_with fail
        refine (fixed_any w12 (HTW.out _ HB12.out)).mono ?_
        rintro e w13 ⟨rfl, hb13⟩
        have hx13 := HX12.out.below hb13 HX12.out.lt
        have x0 : w13.cell? ⟨gb, 0, none⟩ = some (Value.slice P fc.length kp) := hx13.cell 0
        have x1 : w13.cell? ⟨gb, 1, none⟩ = some (Value.slice P' bc.length kp') := hx13.cell 1
        have x2 : w13.cell? ⟨gb, 2, none⟩ = some (S rc) := hx13.cell 2
        have HB13 := Lib.hid (HB12.out.trans (hb13.mono HB12.out.size))
        have E0 : w13.cell? ⟨gx + 1 + 1, 0, none⟩ = some _ := (HZ.out.below HB13.out (by omega)).cell 0
        have E1 : w13.cell? ⟨gx + 1 + 1, 1, none⟩ = some _ := (HZ.out.below HB13.out (by omega)).cell 1
        have E2 : w13.cell? ⟨gx + 1 + 1, 2, none⟩ = some _ := (HZ.out.below HB13.out (by omega)).cell 2
        have HP3 := Lib.hid (Lies.wide (Lies.below HP1.out hb13) hb13.size)
        have HP4 := Lib.hid (Lies.wide (Lies.below HP2.out hb13) hb13.size)
        clear hx13 hb13
        go_wp2_with fail
        refine (images_any w13 P P' C C' kp kp' k k' fc bc fc bc rc rc HP3.out HP4.out (HLL.out _ _ _ HB13.out HC.out) (HLL.out _ _ _ HB13.out HC'.out) (by omega) (by omega) (by omega) (by omega)).mono ?_
        rintro e w14 ⟨rfl, hb14⟩
        rw [show imgEq fc bc rc fc bc rc = true by simp [imgEq]]
        have HB14 := Lib.hid (HB13.out.trans (hb14.mono HB13.out.size))
        clear hb14
        go_wp2_with fail
        go_ret
        exact ⟨rfl, by rw [HGX.out]; exact HEND.out _ HB14.out⟩
end Go.Proofs.YtecamaceainfpaaDoor
