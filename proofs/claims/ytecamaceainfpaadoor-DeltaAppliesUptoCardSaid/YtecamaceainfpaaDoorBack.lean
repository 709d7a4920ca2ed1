/-
  Walk: hibernaclelaw35.DeltaBack. (Printed by gen_back.py.)
-/
import Derived.Test.YtecamaceainfpaaDoorBackP
import Derived.Test.YtecamaceainfpaaDoorBLaw
namespace Go.Proofs.YtecamaceainfpaaDoor
open Go.RowKit

theorem of_is (W : World) (A A' B B' : Option Addr) (c c' d d' : Nat) (fa ba fb bb : List (List UInt8)) (ra rb : List UInt8) (hT : Tabs W) (hA : Strs W W.heap.size A fa) (hA' : Strs W W.heap.size A' ba) (hB : Strs W W.heap.size B fb) (hB' : Strs W W.heap.size B' bb)
    (hs : sizeOf fa + sizeOf ba + ra.length ≤ 4294967296) (hs' : sizeOf fb + sizeOf bb + rb.length ≤ 4294967296) :
    Calls Tryd.prog 15 #[.agg #[.slice A fa.length c, .slice A' ba.length c', S ra], .agg #[.slice B fb.length d, .slice B' bb.length d', S rb]] W fun e w' => ∃ V, e = .returned (.agg V.toArray) ∧ Hid (IsD (fromD fa ba fb bb ra) (dig (imgB fb bb rb)) rb (othersTo (onto (less fa ba fb bb) fa) fb fb.length) (othersTo (onto (less fa ba fb bb) ba) bb bb.length) w' V) ∧ Below W.heap.size W w' :=
  (of_any W A A' B B' c c' d d' fa ba fb bb ra rb hT hA hA' hB hB' hs hs').mono fun e w' h => by
    obtain ⟨⟨G, kg, G', kg', rfl, h3, h4, _, _⟩, h7⟩ := h
    exact ⟨_, rfl, Lib.hid ⟨G, kg, G', kg', rfl, h3, h4⟩, h7⟩
theorem IsD.apply {F T r : List UInt8} {wf wb : List (Int × List UInt8)} {W : World} {V : List Value} (h : IsD F T r wf wb W V) (hT' : Tabs W) (hF : F.length = 32) (hT : T.length = 32) (A A' : Option Addr) (c c' : Nat) (fa ba : List (List UInt8)) (ra : List UInt8) (hA : Strs W W.heap.size A fa) (hA' : Strs W W.heap.size A' ba)
    (hs : sizeOf fa + sizeOf ba + ra.length + wSize wf + wSize wb + r.length ≤ 2147483648) (x : Int) (fb bb : List (List UInt8)) (rb : List UInt8) (hx : applyL fa ba ra F wf wb r T = (x, fb, bb, rb)) :
    Calls Tryd.prog 19 #[.agg #[.slice A fa.length c, .slice A' ba.length c', S ra], .agg V.toArray] W fun e w' => ∃ G k G' k', e = .returned (.tuple #[.agg #[.slice G fb.length k, .slice G' bb.length k', S rb], .int .i64 x]) ∧ Hid (Strs w' w'.heap.size G fb ∧ Strs w' w'.heap.size G' bb) ∧ Below W.heap.size W w' := by
  obtain ⟨G, kg, G', kg', rfl, h1, h2⟩ := h
  refine (apply_any W A A' G G' c c' kg kg' fa ba ra F wf wb r T hT' hA hA' h1 h2 hs hF hT).mono fun e w' h => ?_
  rw [hx] at h
  obtain ⟨⟨P, kp, P', kp', rfl, p1, p2⟩, h8⟩ := h
  exact ⟨P, kp, P', kp', rfl, Lib.hid ⟨p1, p2⟩, h8⟩
set_option maxRecDepth 100000 in
set_option maxHeartbeats 4000000 in
theorem back_any (w : World) (A A' B B' : Option Addr) (c c' d d' : Nat) (fa ba fb bb : List (List UInt8)) (ra rb : List UInt8) (hT : Tabs w) (hT' : STabs w) (hA : Strs w w.heap.size A fa) (hA' : Strs w w.heap.size A' ba) (hB : Strs w w.heap.size B fb) (hB' : Strs w w.heap.size B' bb)
    (hs : sizeOf fa + sizeOf ba + ra.length ≤ 268435456) (hs' : sizeOf fb + sizeOf bb + rb.length ≤ 268435456) :
    Calls Tryd.prog 10 #[.agg #[.slice A fa.length c, .slice A' ba.length c', S ra], .agg #[.slice B fb.length d, .slice B' bb.length d', S rb]] w fun e w' => e = .returned (.bool true) ∧ Below w.heap.size w w' := by
  have HT := Lib.hid hT
  have HT' := Lib.hid hT'
  have HA := Lib.hid hA
  have HA' := Lib.hid hA'
  have HB := Lib.hid hB
  have HB' := Lib.hid hB'
  clear hT hT' hA hA' hB hB'
  have la := length_le_sizeOf fa
  have la' := length_le_sizeOf ba
  have lb := length_le_sizeOf fb
  have lb' := length_le_sizeOf bb
  go_enter Tryd.func10, Tryd.ntmps10
  go_wp2_with fail
  have hx := ((Whole.made w 24 #[.slice A fa.length c, .slice A' ba.length c', S ra]).block (.cells #[.slice B fb.length d, .slice B' bb.length d', S rb] 24)).block (.cells #[.slice A fa.length c, .slice A' ba.length c', S ra, .slice B fb.length d, .slice B' bb.length d', S rb] 24)
  have hy := (Whole.made (w.alloc (.cells #[.slice A fa.length c, .slice A' ba.length c', S ra] 24)) 24 #[.slice B fb.length d, .slice B' bb.length d', S rb]).block (.cells #[.slice A fa.length c, .slice A' ba.length c', S ra, .slice B fb.length d, .slice B' bb.length d', S rb] 24)
  have hv := Whole.made ((w.alloc (.cells #[.slice A fa.length c, .slice A' ba.length c', S ra] 24)).alloc (.cells #[.slice B fb.length d, .slice B' bb.length d', S rb] 24)) 24 #[.slice A fa.length c, .slice A' ba.length c', S ra, .slice B fb.length d, .slice B' bb.length d', S rb]
  have hb : Below w.heap.size w (((w.alloc (.cells #[.slice A fa.length c, .slice A' ba.length c', S ra] 24)).alloc (.cells #[.slice B fb.length d, .slice B' bb.length d', S rb] 24)).alloc (.cells #[.slice A fa.length c, .slice A' ba.length c', S ra, .slice B fb.length d, .slice B' bb.length d', S rb] 24)) := (((Below.refl _ _).alloc (Nat.le_refl _) _).alloc (by simp) _).alloc (by simp; omega) _
  rw [show (w.alloc (.cells #[.slice A fa.length c, .slice A' ba.length c', S ra] 24)).heap.size = w.heap.size + 1 by simp] at hy
  rw [show ((w.alloc (.cells #[.slice A fa.length c, .slice A' ba.length c', S ra] 24)).alloc (.cells #[.slice B fb.length d, .slice B' bb.length d', S rb] 24)).heap.size = w.heap.size + 1 + 1 by simp] at hv
  change Calls _ _ _ (((w.alloc (.cells #[.slice A fa.length c, .slice A' ba.length c', S ra] 24)).alloc (.cells #[.slice B fb.length d, .slice B' bb.length d', S rb] 24)).alloc (.cells #[.slice A fa.length c, .slice A' ba.length c', S ra, .slice B fb.length d, .slice B' bb.length d', S rb] 24)) _
  generalize (((w.alloc (.cells #[.slice A fa.length c, .slice A' ba.length c', S ra] 24)).alloc (.cells #[.slice B fb.length d, .slice B' bb.length d', S rb] 24)).alloc (.cells #[.slice A fa.length c, .slice A' ba.length c', S ra, .slice B fb.length d, .slice B' bb.length d', S rb] 24)) = w1 at *
  generalize hgx : w.heap.size = gx at *
  have HGX := Lib.hid hgx
  clear hgx
  have hl := hv.lt
  have HX := Lib.hid hx
  have HY := Lib.hid hy
  have HW := Lib.hid hb
  have hL : ∀ (W : World) (G : Option Addr) (xs : List Value), Below w1.heap.size w1 W → Lies w gx G xs → Lies W W.heap.size G xs := fun W G xs hW h => ((h.below HW.out).below (hW.mono (by omega))).wide (by have := hW.size; omega)
  have HLL := Lib.hid hL
  have HEND : Hid (∀ W : World, Below w1.heap.size w1 W → Below gx w W) := Lib.hid fun W hW => HW.out.trans (hW.mono (by omega))
  have HTW : Hid (∀ W, Below w1.heap.size w1 W → Tabs W) := Lib.hid fun W hW => HT.out.below (by rw [HGX.out]; exact Nat.le_refl _) (HEND.out W hW)
  have HTW' : Hid (∀ W, Below w1.heap.size w1 W → STabs W) := Lib.hid fun W hW => HT'.out.below (by rw [HGX.out]; exact Nat.le_refl _) (HEND.out W hW)
  have HIMS : Hid (∀ W, Below w1.heap.size w1 W → ∀ x ∈ [(⟨A, c, fa, A', c', ba, ra⟩ : Im), ⟨B, d, fb, B', d', bb, rb⟩], x.at_ W W.heap.size) := Lib.hid (by
    intro W hW x hx
    simp only [List.mem_cons, List.not_mem_nil, or_false] at hx
    rcases hx with rfl | rfl
    · exact ⟨hL _ _ _ hW HA.out, hL _ _ _ hW HA'.out⟩
    · exact ⟨hL _ _ _ hW HB.out, hL _ _ _ hW HB'.out⟩)
  have hims : Lies w1 w1.heap.size (some ⟨gx + 1 + 1, 0, none⟩) (imsCells [⟨A, c, fa, A', c', ba, ra⟩, ⟨B, d, fb, B', d', bb, rb⟩]) := ims_at hv
  clear hx hy hb hv hL
  refine (great_any w1 (some ⟨gx + 1 + 1, 0, none⟩) 2 [⟨A, c, fa, A', c', ba, ra⟩, ⟨B, d, fb, B', d', bb, rb⟩] hims (HIMS.out w1 (Below.refl _ _)) (by simp) (by simp only [total, Im.size, List.map_cons, List.map_nil, List.sum_cons, List.sum_nil]; omega)).mono ?_
  rintro e w2 ⟨rfl, hb2⟩
  clear hims
  have HFX : Hid (∀ W : World, Below w1.heap.size w1 W → Calls Tryd.prog 13 #[] W fun e w' => e = .returned (.bool true) ∧ Below w1.heap.size w1 w') := Lib.hid fun W hW => (fixed_any W (HTW.out W hW)).mono fun e w' h => ⟨h.1, hW.trans (h.2.mono hW.size)⟩
  have C0 : w2.cell? ⟨gx, 0, none⟩ = some _ := (HX.out.below hb2 (by omega)).cell 0
  have C1 : w2.cell? ⟨gx, 1, none⟩ = some _ := (HX.out.below hb2 (by omega)).cell 1
  have C2 : w2.cell? ⟨gx, 2, none⟩ = some _ := (HX.out.below hb2 (by omega)).cell 2
  have D0 : w2.cell? ⟨gx + 1, 0, none⟩ = some _ := (HY.out.below hb2 (by omega)).cell 0
  have D1 : w2.cell? ⟨gx + 1, 1, none⟩ = some _ := (HY.out.below hb2 (by omega)).cell 1
  have D2 : w2.cell? ⟨gx + 1, 2, none⟩ = some _ := (HY.out.below hb2 (by omega)).cell 2
  have HB2 := Lib.hid hb2
  have hl2 : w1.heap.size ≤ w2.heap.size := hb2.size
  clear hb2
  by_cases hgr : 4000 < total [(⟨A, c, fa, A', c', ba, ra⟩ : Im), ⟨B, d, fb, B', d', bb, rb⟩]
  · rw [decide_eq_true hgr]
    clear hgr
    go_wp2_with (go_at_call 13; refine (HFX.out _ HB2.out).mono ?_; rintro e w3 ⟨rfl, hb3⟩)
    go_ret
    exact ⟨rfl, by rw [HGX.out]; exact HEND.out _ hb3⟩
  · rw [decide_eq_false hgr]
    have hsm : sizeOf fa + sizeOf ba + ra.length + (sizeOf fb + sizeOf bb + rb.length) ≤ 4000 := by
      simp only [total, Im.size, List.map_cons, List.map_nil, List.sum_cons, List.sum_nil] at hgr; omega
    clear hgr
    go_wp2_with fail
    change Calls _ _ _ (w2.alloc (.cells #[.slice A fa.length c, .slice A' ba.length c', S ra, .slice B fb.length d, .slice B' bb.length d', S rb] 24)) _
    refine (apart_any (w2.alloc (.cells #[.slice A fa.length c, .slice A' ba.length c', S ra, .slice B fb.length d, .slice B' bb.length d', S rb] 24)) (some ⟨w2.heap.size, 0, none⟩) 2 [⟨A, c, fa, A', c', ba, ra⟩, ⟨B, d, fb, B', d', bb, rb⟩] (ims_at (Whole.made w2 24 #[.slice A fa.length c, .slice A' ba.length c', S ra, .slice B fb.length d, .slice B' bb.length d', S rb])) (HIMS.out _ (HB2.out.alloc hl2 _)) (by simp) (by
      intro x hx
      simp only [List.mem_cons, List.not_mem_nil, or_false] at hx
      rcases hx with rfl | rfl <;> (simp only [Im.size]; omega))).mono ?_
    rintro e w5 ⟨rfl, hb5⟩
    have HB5 := Lib.hid ((HB2.out.alloc hl2 _).trans (hb5.mono (by simp; omega)))
    have hl5 : w1.heap.size ≤ w5.heap.size := HB5.out.size
    clear hb5 C0 C1 C2 D0 D1 D2
    obtain ⟨p, HP⟩ : ∃ z, Hid (apartB (apTexts [⟨A, c, fa, A', c', ba, ra⟩, ⟨B, d, fb, B', d', bb, rb⟩]) = z) := ⟨_, Lib.hid rfl⟩
    rw [HP.out]
    cases p with
    | false =>
      go_wp2_with (go_at_call 13; refine (HFX.out _ HB5.out).mono ?_; rintro e w6 ⟨rfl, hb6⟩)
      go_ret
      exact ⟨rfl, by rw [HGX.out]; exact HEND.out _ hb6⟩
    | true =>
      have HAP : Hid (apartL [imgB [] [] [], imgB fa ba ra, imgB fb bb rb]) := Lib.hid (apartB_iff.1 HP.out)
      have HOK := Lib.hid (back_ok fa ba fb bb ra rb HAP.out)
      have hws : wSize (othersTo (onto (less fa ba fb bb) fa) fb fb.length) ≤ 2 * sizeOf fb := by have := wSize_others (onto (less fa ba fb bb) fa) fb fb.length (Nat.le_refl _); rwa [List.take_of_length_le (Nat.le_refl _)] at this
      have hws' : wSize (othersTo (onto (less fa ba fb bb) ba) bb bb.length) ≤ 2 * sizeOf bb := by have := wSize_others (onto (less fa ba fb bb) ba) bb bb.length (Nat.le_refl _); rwa [List.take_of_length_le (Nat.le_refl _)] at this
      have HIF := Lib.hid (others_in (a := onto (less fa ba fb bb) fa) (b := fb) (k := fb.length) (by omega))
      have HIB := Lib.hid (others_in (a := onto (less fa ba fb bb) ba) (b := bb) (k := bb.length) (by omega))
      have HFL : Hid ((fromD fa ba fb bb ra).length = 32) := Lib.hid (dig_length _)
      have HTL : Hid ((dig (imgB fb bb rb)).length = 32) := Lib.hid (dig_length _)
      have HOF : Hid (∀ W, Below w1.heap.size w1 W → Calls Tryd.prog 15 #[.agg #[.slice A fa.length c, .slice A' ba.length c', S ra], .agg #[.slice B fb.length d, .slice B' bb.length d', S rb]] W fun e w' => ∃ V, e = .returned (.agg V.toArray) ∧ Hid (IsD (fromD fa ba fb bb ra) (dig (imgB fb bb rb)) rb (othersTo (onto (less fa ba fb bb) fa) fb fb.length) (othersTo (onto (less fa ba fb bb) ba) bb bb.length) w' V) ∧ Below W.heap.size W w') := Lib.hid fun W hW => of_is W A A' B B' c c' d d' fa ba fb bb ra rb (HTW.out _ hW) (HLL.out _ _ _ hW HA.out) (HLL.out _ _ _ hW HA'.out) (HLL.out _ _ _ hW HB.out) (HLL.out _ _ _ hW HB'.out) (by omega) (by omega)
      generalize fromD fa ba fb bb ra = F at *
      generalize dig (imgB fb bb rb) = T at *
      generalize (othersTo (onto (less fa ba fb bb) fa) fb fb.length) = wf at *
      generalize (othersTo (onto (less fa ba fb bb) ba) bb bb.length) = wb at *
      have HNN : Hid ((negs wf || negs wb) = false) := Lib.hid (by rw [HIF.out.2, HIB.out.2]; rfl)
      have HS0 : Hid (dbS F T rb wf wb = bytesD F T rb wf wb) := Lib.hid (by unfold dbS; rw [HNN.out])
      have HE0 : Hid (dbE wf wb = 0) := Lib.hid (by unfold dbE; rw [HNN.out])
      have HRD := Lib.hid (readD_bytesD (F := F) (T := T) (r := rb) (wf := wf) (wb := wb) HFL.out HTL.out (by omega) HIF.out.1 HIB.out.1 HIF.out.2 HIB.out.2)
      have HRL := Lib.hid (bytesD_len (F := F) (T := T) (r := rb) (wf := wf) (wb := wb) HFL.out HTL.out (by omega) HIF.out.1 HIB.out.1)
      generalize bytesD F T rb wf wb = s0 at *
      have C0 : w5.cell? ⟨gx, 0, none⟩ = some _ := (HX.out.below HB5.out (by omega)).cell 0
      have C1 : w5.cell? ⟨gx, 1, none⟩ = some _ := (HX.out.below HB5.out (by omega)).cell 1
      have C2 : w5.cell? ⟨gx, 2, none⟩ = some _ := (HX.out.below HB5.out (by omega)).cell 2
      have D0 : w5.cell? ⟨gx + 1, 0, none⟩ = some _ := (HY.out.below HB5.out (by omega)).cell 0
      have D1 : w5.cell? ⟨gx + 1, 1, none⟩ = some _ := (HY.out.below HB5.out (by omega)).cell 1
      have D2 : w5.cell? ⟨gx + 1, 2, none⟩ = some _ := (HY.out.below HB5.out (by omega)).cell 2
      go_wp2_with fail
      refine (HOF.out _ HB5.out).mono ?_
      rintro e w6 ⟨V6, rfl, I6, hb6⟩
      have HB6 := Lib.hid (HB5.out.trans (hb6.mono hl5))
      have L6 := Lib.hid (I6.out.length HFL.out HTL.out)
      have O6 := Lib.hid I6.out.one
      have Z6 := Lib.hid (delta_zero w6)
      have F6 := Lib.hid (delta_fits L6.out)
      have N6 := Lib.hid (delta_info L6.out)
      clear hb6 C0 C1 C2 D0 D1 D2 HOF
      go_upto_region 4 with (refine wpList_store_at rfl 32 (.tmp 5) (.tmp 26) rfl rfl w6.heap.size 0 rfl V6 rfl N6.out Tryd.zeroCells32.toList 32 Z6.out F6.out O6.out ?_; intro w7 N7 F7)
      obtain ⟨n7, b7⟩ := dboxed L6.out N7.out F7.out
      have HB7 := Lib.hid (HB6.out.trans (b7.mono HB6.out.size))
      have I7 := Lib.hid (I6.out.below b7)
      have R7 := Lib.hid n7.reads
      generalize w6.heap.size = g6 at *
      clear N7 F7 Z6 F6 I6 n7 b7 HB6
      have CB : Hid (Calls Tryd.prog 25 #[.agg V6.toArray] w7 fun e w' => e = .returned (.tuple #[S s0, .int .i64 0]) ∧ Below w7.heap.size w7 w') := Lib.hid (by
        have := I7.out.bytes (HTW'.out _ HB7.out) (by omega) HFL.out HTL.out HIF.out.1 HIB.out.1
        rwa [HS0.out, HE0.out] at this)
      go_wp2_with (refine wpList_load_at rfl 32 (.tmp 5) rfl ⟨g6, 0, none⟩ rfl V6 _ R7.out Tryd.underlying32 rfl N6.out ?_)
      refine CB.out.mono ?_
      rintro e w8 ⟨rfl, hb8⟩
      have HB8 := Lib.hid (HB7.out.trans (hb8.mono HB7.out.size))
      clear hb8 CB R7 I7 HB7
      go_wp2_with fail
      refine (dread_is w8 s0 HRL.out (HTW'.out _ HB8.out) 0 HRD.out).mono ?_
      rintro e w9 ⟨V9, rfl, I9, hb9⟩
      have HB9 := Lib.hid (HB8.out.trans (hb9.mono HB8.out.size))
      have L9 := Lib.hid (I9.out.length HFL.out HTL.out)
      have O9 := Lib.hid I9.out.one
      have Z9 := Lib.hid (delta_zero w9)
      have F9 := Lib.hid (delta_fits L9.out)
      have N9 := Lib.hid (delta_info L9.out)
      clear hb9 HB8 HRD HRL
      go_upto_region 6 with (refine wpList_store_at rfl 32 (.tmp 8) (.tmp 35) rfl rfl w9.heap.size 0 rfl V9 rfl N9.out Tryd.zeroCells32.toList 32 Z9.out F9.out O9.out ?_; intro w10 N10 F10)
      obtain ⟨n10, b10⟩ := dboxed L9.out N10.out F10.out
      have HB10 := Lib.hid (HB9.out.trans (b10.mono HB9.out.size))
      have I10 := Lib.hid (I9.out.below b10)
      have R10 := Lib.hid n10.reads
      generalize w9.heap.size = g9 at *
      clear N10 F10 Z9 F9 I9 n10 b10 HB9
      have CA := Lib.hid (I10.out.apply (HTW.out _ HB10.out) HFL.out HTL.out A A' c c' fa ba ra (HLL.out _ _ _ HB10.out HA.out) (HLL.out _ _ _ HB10.out HA'.out) (by omega) 0 fb bb rb HOK.out)
      have C0 : w10.cell? ⟨gx, 0, none⟩ = some _ := (HX.out.below HB10.out (by omega)).cell 0
      have C1 : w10.cell? ⟨gx, 1, none⟩ = some _ := (HX.out.below HB10.out (by omega)).cell 1
      have C2 : w10.cell? ⟨gx, 2, none⟩ = some _ := (HX.out.below HB10.out (by omega)).cell 2
      go_wp2_with (refine wpList_load_at rfl 32 (.tmp 8) rfl ⟨g9, 0, none⟩ rfl V9 _ R10.out Tryd.underlying32 rfl N9.out ?_)
      refine CA.out.mono ?_
      rintro e w11 ⟨P, kp, P', kp', rfl, HP11, hb11⟩
      have HB11 := Lib.hid (HB10.out.trans (hb11.mono HB10.out.size))
      clear hb11 C0 C1 C2 CA R10 I10 HB10
      have hl11 : w1.heap.size ≤ w11.heap.size := HB11.out.size
      have hX11 := Whole.made w11 24 #[.slice P fb.length kp, .slice P' bb.length kp', S rb]
      have hb12 := HB11.out.alloc hl11 (.cells #[.slice P fb.length kp, .slice P' bb.length kp', S rb] 24)
      go_upto_region 7 with (fail)
      change Code.wp _ _ _ _ (w11.alloc (.cells #[.slice P fb.length kp, .slice P' bb.length kp', S rb] 24))
      have HP1 := Lib.hid (Lies.block' HP11.out.1 (.cells #[.slice P fb.length kp, .slice P' bb.length kp', S rb] 24))
      have HP2 := Lib.hid (Lies.block' HP11.out.2 (.cells #[.slice P fb.length kp, .slice P' bb.length kp', S rb] 24))
      generalize w11.alloc (.cells #[.slice P fb.length kp, .slice P' bb.length kp', S rb] 24) = w12 at *
      generalize w11.heap.size = gb at *
      clear HP11 HB11
      have HB12 := Lib.hid hb12
      have HX12 := Lib.hid hX11
      clear hb12 hX11
      go_wp2_with fail
      refine (fixed_any w12 (HTW.out _ HB12.out)).mono ?_
      rintro e w13 ⟨rfl, hb13⟩
      have hx13 := HX12.out.below hb13 HX12.out.lt
      have x0 : w13.cell? ⟨gb, 0, none⟩ = some (Value.slice P fb.length kp) := hx13.cell 0
      have x1 : w13.cell? ⟨gb, 1, none⟩ = some (Value.slice P' bb.length kp') := hx13.cell 1
      have x2 : w13.cell? ⟨gb, 2, none⟩ = some (S rb) := hx13.cell 2
      have HB13 := Lib.hid (HB12.out.trans (hb13.mono HB12.out.size))
      have D0 : w13.cell? ⟨gx + 1, 0, none⟩ = some _ := (HY.out.below HB13.out (by omega)).cell 0
      have D1 : w13.cell? ⟨gx + 1, 1, none⟩ = some _ := (HY.out.below HB13.out (by omega)).cell 1
      have D2 : w13.cell? ⟨gx + 1, 2, none⟩ = some _ := (HY.out.below HB13.out (by omega)).cell 2
      have HP3 := Lib.hid (Lies.wide (Lies.below HP1.out hb13) hb13.size)
      have HP4 := Lib.hid (Lies.wide (Lies.below HP2.out hb13) hb13.size)
      clear hx13 hb13
      go_wp2_with fail
      refine (images_any w13 P P' B B' kp kp' d d' fb bb fb bb rb rb HP3.out HP4.out (HLL.out _ _ _ HB13.out HB.out) (HLL.out _ _ _ HB13.out HB'.out) (by omega) (by omega) (by omega) (by omega)).mono ?_
      rintro e w14 ⟨rfl, hb14⟩
      rw [show imgEq fb bb rb fb bb rb = true by simp [imgEq]]
      have HB14 := Lib.hid (HB13.out.trans (hb14.mono HB13.out.size))
      clear hb14
      go_wp2_with fail
      go_ret
      exact ⟨rfl, by rw [HGX.out]; exact HEND.out _ HB14.out⟩
end Go.Proofs.YtecamaceainfpaaDoor
