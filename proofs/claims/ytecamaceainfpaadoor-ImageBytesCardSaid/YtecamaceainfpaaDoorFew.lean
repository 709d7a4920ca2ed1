/-
  Walk: hibernaclelaw35.DeltaFew.
-/
import Derived.Test.YtecamaceainfpaaDoorFixed
namespace Go.Proofs.YtecamaceainfpaaDoor
open Go.RowKit

theorem lies_lt {w : World} {A : Option Addr} {xs : List Value} (h : Lies w w.heap.size A xs) {ad : Addr} (e : A = some ad) (hne : xs ≠ []) : ad.block < w.heap.size := by
  obtain ⟨v, hv⟩ : ∃ v, xs[0]? = some v := by cases hc : xs with | nil => exact absurd hc hne | cons a b => exact ⟨a, rfl⟩
  obtain ⟨ad', e', hlt, _⟩ := h 0 v hv
  rw [e] at e'; injection e' with e'; subst e'; exact hlt
theorem Lies.block' {w : World} {A : Option Addr} {xs : List Value} (h : Lies w w.heap.size A xs) (o : Obj) : Lies (w.alloc o) (w.alloc o).heap.size A xs := (h.block (Nat.le_refl _) o).wide (by simp)
theorem othersTo_pre (a b : List (List UInt8)) (k : Nat) : ∀ n, ∃ r, othersTo a b (k + n) = othersTo a b k ++ r
  | 0 => ⟨[], by simp⟩
  | n + 1 => by
    obtain ⟨r, hr⟩ := othersTo_pre a b k n
    by_cases h : k + n < a.length ∧ a.getD (k + n) [] = b.getD (k + n) []
    · exact ⟨r, by rw [← Nat.add_assoc, othersTo_same h.1 h.2, hr]⟩
    · exact ⟨r ++ [(((k + n : Nat) : Int), b.getD (k + n) [])], by rw [← Nat.add_assoc, othersTo_new h, hr, List.append_assoc]⟩
theorem othersTo_at {a b : List (List UInt8)} {k n : Nat} (hk : k < n) (h : ¬ (k < a.length ∧ a.getD k [] = b.getD k [])) :
    (othersTo a b k).length < (othersTo a b n).length ∧ (wCells (othersTo a b n))[(othersTo a b k).length * 2]? = some (.int .i64 (k : Int)) ∧ (wCells (othersTo a b n))[(othersTo a b k).length * 2 + 1]? = some (S (b.getD k [])) := by
  obtain ⟨r, hr⟩ := othersTo_pre a b (k + 1) (n - (k + 1))
  rw [show k + 1 + (n - (k + 1)) = n by omega, othersTo_new h] at hr
  rw [hr]
  refine ⟨by simp, ?_, ?_⟩
  · rw [List.append_assoc, wCells_append, List.getElem?_append_right (by rw [wCells_length]; omega), wCells_length, show (othersTo a b k).length * 2 - 2 * (othersTo a b k).length = 0 by omega]; rfl
  · rw [List.append_assoc, wCells_append, List.getElem?_append_right (by rw [wCells_length]; omega), wCells_length, show (othersTo a b k).length * 2 + 1 - 2 * (othersTo a b k).length = 1 by omega]; rfl
/-- two images' boxes -/
abbrev imA (A A' : Option Addr) (c c' : Nat) (fs bs : List (List UInt8)) (r : List UInt8) : List Value := [.slice A fs.length c, .slice A' bs.length c', S r]

set_option maxRecDepth 100000 in
set_option maxHeartbeats 1000000 in
theorem few_any (w : World) (A A' B B' : Option Addr) (c c' d d' : Nat) (fa ba fb bb : List (List UInt8)) (ra rb : List UInt8) (hT : Tabs w) (hA : Strs w w.heap.size A fa) (hA' : Strs w w.heap.size A' ba) (hB : Strs w w.heap.size B fb) (hB' : Strs w w.heap.size B' bb)
    (hs : sizeOf fa + sizeOf ba + ra.length ≤ 4294967296) (hs' : sizeOf fb + sizeOf bb + rb.length ≤ 4294967296) :
    Calls Tryd.prog 4 #[.agg #[.slice A fa.length c, .slice A' ba.length c', S ra], .agg #[.slice B fb.length d, .slice B' bb.length d', S rb]] w fun e w' => e = .returned (.bool true) ∧ Below w.heap.size w w' := by
  have HT := Lib.hid hT
  have HA := Lib.hid hA
  have HA' := Lib.hid hA'
  have HB := Lib.hid hB
  have HB' := Lib.hid hB'
  clear hT hA hA' hB hB'
  have la := length_le_sizeOf fa
  have la' := length_le_sizeOf ba
  have lb := length_le_sizeOf fb
  have lb' := length_le_sizeOf bb
  go_enter Tryd.func4, Tryd.ntmps4
  go_wp2_with fail
  have hx := ((Whole.made w 24 #[.slice A fa.length c, .slice A' ba.length c', S ra]).block (.cells #[.slice B fb.length d, .slice B' bb.length d', S rb] 24)).block (.cells #[.slice A fa.length c, .slice A' ba.length c', S ra, .slice B fb.length d, .slice B' bb.length d', S rb] 24)
  have hy := (Whole.made (w.alloc (.cells #[.slice A fa.length c, .slice A' ba.length c', S ra] 24)) 24 #[.slice B fb.length d, .slice B' bb.length d', S rb]).block (.cells #[.slice A fa.length c, .slice A' ba.length c', S ra, .slice B fb.length d, .slice B' bb.length d', S rb] 24)
  have hz := Whole.made ((w.alloc (.cells #[.slice A fa.length c, .slice A' ba.length c', S ra] 24)).alloc (.cells #[.slice B fb.length d, .slice B' bb.length d', S rb] 24)) 24 #[.slice A fa.length c, .slice A' ba.length c', S ra, .slice B fb.length d, .slice B' bb.length d', S rb]
  have hb : Below w.heap.size w (((w.alloc (.cells #[.slice A fa.length c, .slice A' ba.length c', S ra] 24)).alloc (.cells #[.slice B fb.length d, .slice B' bb.length d', S rb] 24)).alloc (.cells #[.slice A fa.length c, .slice A' ba.length c', S ra, .slice B fb.length d, .slice B' bb.length d', S rb] 24)) := (((Below.refl _ _).alloc (Nat.le_refl _) _).alloc (by simp) _).alloc (by simp; omega) _
  rw [show (w.alloc (.cells #[.slice A fa.length c, .slice A' ba.length c', S ra] 24)).heap.size = w.heap.size + 1 by simp] at hy
  rw [show ((w.alloc (.cells #[.slice A fa.length c, .slice A' ba.length c', S ra] 24)).alloc (.cells #[.slice B fb.length d, .slice B' bb.length d', S rb] 24)).heap.size = w.heap.size + 1 + 1 by simp] at hz
  change Calls _ _ _ (((w.alloc (.cells #[.slice A fa.length c, .slice A' ba.length c', S ra] 24)).alloc (.cells #[.slice B fb.length d, .slice B' bb.length d', S rb] 24)).alloc (.cells #[.slice A fa.length c, .slice A' ba.length c', S ra, .slice B fb.length d, .slice B' bb.length d', S rb] 24)) _
  generalize (((w.alloc (.cells #[.slice A fa.length c, .slice A' ba.length c', S ra] 24)).alloc (.cells #[.slice B fb.length d, .slice B' bb.length d', S rb] 24)).alloc (.cells #[.slice A fa.length c, .slice A' ba.length c', S ra, .slice B fb.length d, .slice B' bb.length d', S rb] 24)) = w1 at *
  generalize hgx : w.heap.size = gx at *
  have HGX := Lib.hid hgx
  clear hgx
  have hl := hz.lt
  have HX := Lib.hid hx
  have HY := Lib.hid hy
  have HW := Lib.hid hb
  have hL : ∀ (W : World) (G : Option Addr) (xs : List Value), Below w1.heap.size w1 W → Lies w gx G xs → Lies W W.heap.size G xs := fun W G xs hW h => ((h.below HW.out).below (hW.mono (by omega))).wide (by have := hW.size; omega)
  have hTW : ∀ W : World, Below w1.heap.size w1 W → Tabs W := fun W hW => HT.out.below (by rw [HGX.out]; exact Nat.le_refl _) (HW.out.trans (hW.mono (by omega)))
  have HLL := Lib.hid hL
  have HTW := Lib.hid hTW
  have hims : Lies w1 w1.heap.size (some ⟨gx + 1 + 1, 0, none⟩) (imsCells [⟨A, c, fa, A', c', ba, ra⟩, ⟨B, d, fb, B', d', bb, rb⟩]) := fun k u hu => by
    refine ⟨_, rfl, hl, ?_⟩
    have := hz.cell k
    rw [show (⟨gx + 1 + 1, 0, none⟩ : Addr).add k = ⟨gx + 1 + 1, k, none⟩ by unfold Addr.add; split <;> simp_all]
    rw [this, ← hu]; exact List.getElem?_toArray
  have hlies : ∀ x ∈ [(⟨A, c, fa, A', c', ba, ra⟩ : Im), ⟨B, d, fb, B', d', bb, rb⟩], x.at_ w1 w1.heap.size := by
    intro x hx
    simp only [List.mem_cons, List.not_mem_nil, or_false] at hx
    rcases hx with rfl | rfl
    · exact ⟨hL _ _ _ (Below.refl _ _) HA.out, hL _ _ _ (Below.refl _ _) HA'.out⟩
    · exact ⟨hL _ _ _ (Below.refl _ _) HB.out, hL _ _ _ (Below.refl _ _) HB'.out⟩
  clear hx hy hz hb hL hTW
  refine (great_any w1 (some ⟨gx + 1 + 1, 0, none⟩) 2 [⟨A, c, fa, A', c', ba, ra⟩, ⟨B, d, fb, B', d', bb, rb⟩] hims hlies (by simp) (by simp only [total, Im.size, List.map_cons, List.map_nil, List.sum_cons, List.sum_nil]; omega)).mono ?_
  rintro e w2 ⟨rfl, hb2⟩
  clear hims hlies
  have C0 : w2.cell? ⟨gx, 0, none⟩ = some _ := (HX.out.below hb2 (by omega)).cell 0
  have C1 : w2.cell? ⟨gx, 1, none⟩ = some _ := (HX.out.below hb2 (by omega)).cell 1
  have C2 : w2.cell? ⟨gx, 2, none⟩ = some _ := (HX.out.below hb2 (by omega)).cell 2
  have D0 : w2.cell? ⟨gx + 1, 0, none⟩ = some _ := (HY.out.below hb2 (by omega)).cell 0
  have D1 : w2.cell? ⟨gx + 1, 1, none⟩ = some _ := (HY.out.below hb2 (by omega)).cell 1
  have D2 : w2.cell? ⟨gx + 1, 2, none⟩ = some _ := (HY.out.below hb2 (by omega)).cell 2
  have HB2 := Lib.hid hb2
  have hl2 : w1.heap.size ≤ w2.heap.size := hb2.size
  clear hb2
  have HFX : Hid (∀ W : World, Below w1.heap.size w1 W → Calls Tryd.prog 13 #[] W fun e w' => e = .returned (.bool true) ∧ Below w1.heap.size w1 w') := Lib.hid fun W hW => (fixed_any W (HTW.out W hW)).mono fun e w' h => ⟨h.1, hW.trans (h.2.mono hW.size)⟩
  have HEND : Hid (∀ W : World, Below w1.heap.size w1 W → Below gx w W) := Lib.hid fun W hW => HW.out.trans (hW.mono (by omega))
  generalize decide (4000 < total [(⟨A, c, fa, A', c', ba, ra⟩ : Im), ⟨B, d, fb, B', d', bb, rb⟩]) = gr
  cases gr with
  | true =>
    go_wp2_with (go_at_call 13; refine (HFX.out _ HB2.out).mono ?_; rintro e w3 ⟨rfl, hb3⟩)
    go_ret
    exact ⟨rfl, by rw [HGX.out]; exact HEND.out _ hb3⟩
  | false =>
    by_cases hf : fa.length = fb.length
    · by_cases hg : ba.length = bb.length
      · have hn : ((ba.length : Int) == (bb.length : Int)) = true := by simp; omega
        have hm : ((ba.length : Int) != (bb.length : Int)) = false := by simp; omega
        have hm' : ((fa.length : Int) != (fb.length : Int)) = false := by simp; omega
        clear hn
        have HF := Lib.hid hf
        have HG := Lib.hid hg
        clear hf hg
        go_wp2_with fail
        refine (of_any _ A A' B B' c c' d d' fa ba fb bb ra rb (HTW.out _ HB2.out) (HLL.out _ _ _ HB2.out HA.out) (HLL.out _ _ _ HB2.out HA'.out) (HLL.out _ _ _ HB2.out HB.out) (HLL.out _ _ _ HB2.out HB'.out) hs hs').mono ?_
        rintro e w3 ⟨⟨G, kg, G', kg', rfl, h3, h4, h5, h6⟩, h7⟩
        have hless : less fa ba fb bb = false := by simp [less, HF.out, HG.out]
        simp only [hless, onto_false] at h3 h4 ⊢
        have HB3 := Lib.hid (HB2.out.trans (h7.mono hl2))
        have hl3 : w1.heap.size ≤ w3.heap.size := Nat.le_trans hl2 h7.size
        have H3 := Lib.hid h3
        have H4 := Lib.hid h4
        clear h3 h4 h5 h6 h7 hless hm hm'
        obtain ⟨V, HV⟩ : ∃ z, Hid (dCells (dig (imgB fa ba ra)) (.slice G (othersTo fa fb fb.length).length kg) (.slice G' (othersTo ba bb bb.length).length kg') rb (dig (imgB fb bb rb)) = z) := ⟨_, Lib.hid rfl⟩
        rw [HV.out]
        have HVl : Hid (V.length = 67) := Lib.hid (by rw [← HV.out]; exact dCells_length (dig_length _) (dig_length _) _ _ _)
        have HVo : Hid (∀ v ∈ V, v.oneCell' = true) := Lib.hid (by rw [← HV.out]; exact dCells_one _ _ _ _ _ _ _ _ _)
        have HVi : Hid ((Tryd.prog.info? 32).map (·.size) = some V.length) := Lib.hid (by rw [HVl.out]; kernel_rfl)
        have HVf : Hid (0 + V.length ≤ Tryd.zeroCells32.toList.length) := Lib.hid (by rw [HVl.out]; decide)
        have HZ : Hid (Whole (w3.alloc (.cells Tryd.zeroCells32 32)) w3.heap.size 32 Tryd.zeroCells32.toList.toArray) := Lib.hid (by simpa using Whole.made w3 32 Tryd.zeroCells32)
        go_wp2_with (refine wpList_store_at rfl 32 (.tmp 5) (.tmp 35) rfl rfl w3.heap.size 0 rfl V rfl HVi.out Tryd.zeroCells32.toList 32 HZ.out HVf.out HVo.out ?_; intro w4 N4 F4; have b4 := below_grown (HB3.out.alloc hl3 _) F4.out (by simp; omega) hl3; have X0 : Hid (w4.cell? ⟨gx, 0, none⟩ = some _) := Lib.hid ((HX.out.below b4 (by omega)).cell 0); have X1 : Hid (w4.cell? ⟨gx, 1, none⟩ = some _) := Lib.hid ((HX.out.below b4 (by omega)).cell 1); have Y0 : Hid (w4.cell? ⟨gx + 1, 0, none⟩ = some _) := Lib.hid ((HY.out.below b4 (by omega)).cell 0); have Y1 : Hid (w4.cell? ⟨gx + 1, 1, none⟩ = some _) := Lib.hid ((HY.out.below b4 (by omega)).cell 1); have y0 := Y0.out; have HB4 := Lib.hid b4; clear b4)
        have n4 : Whole w4 w3.heap.size 32 V.toArray := by
          have := N4.out
          rw [HVl.out, show Tryd.zeroCells32.toList.drop (0 + 67) = [] from by kernel_rfl, List.take_zero, List.nil_append, List.append_nil] at this
          exact this
        have P32 : Hid (w4.cell? ⟨w3.heap.size, 32, none⟩ = some (Value.slice G (othersTo fa fb fb.length).length kg)) := Lib.hid ((n4.cell 32).trans (by rw [← HV.out]; exact (List.getElem?_toArray).trans (dCells_32 (dig_length _) _ _ _ _)))
        have P33 : Hid (w4.cell? ⟨w3.heap.size, 33, none⟩ = some (Value.slice G' (othersTo ba bb bb.length).length kg')) := Lib.hid ((n4.cell 33).trans (by rw [← HV.out]; exact (List.getElem?_toArray).trans (dCells_33 (dig_length _) _ _ _ _)))
        have hgp4 : w3.heap.size < w4.heap.size := n4.lt
        have L3 := Lib.hid (lies_after (H3.out.block' _) F4.out (fun ad e hne => by have := lies_lt H3.out e hne; omega))
        have L4 := Lib.hid (lies_after (H4.out.block' _) F4.out (fun ad e hne => by have := lies_lt H4.out e hne; omega))
        generalize w3.heap.size = gp at *
        clear n4 N4 F4 HZ H3 H4 HVi HVf HVo HVl
        have hl4 : w1.heap.size ≤ w4.heap.size := HB4.out.size
        generalize V.toArray = VV at *

        go_loopw [6, 39] (fun s i wr => ∃ k : Nat, k ≤ fb.length ∧ i = .int .i64 k ∧ s = .int .i64 (othersTo fa fb k).length ∧ Hid (Below w4.heap.size w4 wr)) (fun _ i _ => fb.length - (intOf i).toNat)
        case atStart => exact ⟨0, by omega, rfl, rfl, Lib.hid (Below.refl _ _)⟩
        case round =>
          obtain ⟨k, hk, rfl, rfl, HR⟩ := hrel
          by_cases hlt : k < fb.length
          · have hka : k < fa.length := by rw [HF.out]; exact hlt
            obtain ⟨ad, rfl, had, hc⟩ := Strs.at' (HLL.out w4 _ _ HB4.out HB.out) hlt
            obtain ⟨ad2, rfl, had2, hc2⟩ := Strs.at' (HLL.out w4 _ _ HB4.out HA.out) hka
            have hcr : wr.cell? (ad.add k) = some (S (fb.getD k [])) := (HR.out.cell (by unfold Addr.add; split <;> exact had)).trans hc
            have hcr2 : wr.cell? (ad2.add k) = some (S (fa.getD k [])) := (HR.out.cell (by unfold Addr.add; split <;> exact had2)).trans hc2
            clear hc hc2
            have q0 := (HR.out.cell (p := ⟨gx, 0, none⟩) (by show gx < _; omega)).trans X0.out
            have q1 := (HR.out.cell (p := ⟨gx + 1, 0, none⟩) (by show gx + 1 < _; omega)).trans Y0.out
            have q2 := (HR.out.cell (p := ⟨gp, 32, none⟩) hgp4).trans P32.out
            have i0 : (0 : Int) ≤ (k : Int) := by omega
            have i1 : (k : Int) < (fa.length : Int) := by omega
            have i2 : (k : Int) < (fb.length : Int) := by omega
            by_cases hxy : fa.getD k [] = fb.getD k []
            · have HE := Lib.hid (othersTo_same hka hxy)
              have hbe : (fa.getD k [] == fb.getD k []) = true := beq_iff_eq.2 hxy
              have hbn : (fa.getD k [] != fb.getD k []) = false := by rw [bne, hbe]; rfl
              clear hxy
              generalize fa.getD k [] = x at *
              generalize fb.getD k [] = y at *
              go_wp2_with fail
              go_quiet (fail)
              go_wp2
              go_roundw
              case rel =>
                have R : ∀ M : Nat, ∃ k' : Nat, k' ≤ fb.length ∧ Value.int .i64 ((k : Int) + 1) = .int .i64 k' ∧ Value.int .i64 ((othersTo fa fb k).length : Int) = .int .i64 (othersTo fa fb k').length ∧ Hid (Below w4.heap.size w4 (wr.drewN M)) := fun M => ⟨k + 1, by omega, by go_num, by rw [HE.out], Lib.hid (Below.draws HR.out _)⟩
                first | exact R _ | ((repeat apply Exists.intro); exact ⟨R _, rfl⟩)
              case measure => simp [intOf]; omega
            · have HE := Lib.hid (othersTo_new (a := fa) (b := fb) (k := k) (fun h => hxy h.2))
              have hbe : (fa.getD k [] == fb.getD k []) = false := beq_eq_false_iff_ne.2 hxy
              have hbn : (fa.getD k [] != fb.getD k []) = true := by rw [bne, hbe]; rfl
              obtain ⟨hn1, hn2, hn3⟩ := othersTo_at (n := fb.length) hlt (fun h => hxy h.2)
              clear hxy
              have hk0 := othersTo_le fa fb k
              generalize fa.getD k [] = x at *
              generalize fb.getD k [] = y at *
              generalize (othersTo fa fb fb.length).length = N at *
              generalize hT0 : (othersTo fa fb k).length = T0 at *
              have HT0 := Lib.hid hT0
              clear hT0
              have dN : decide (N ≤ T0) = false := by simp; omega
              obtain ⟨ad3, hG, had3, hc0⟩ := L3.out _ _ hn2
              obtain ⟨ad4, hG4, _, hc1⟩ := L3.out _ _ hn3
              subst hG
              obtain rfl : ad3 = ad4 := by injection hG4
              clear hG4
              have k0 : wr.cell? (ad3.add (T0 * 2)) = some (Value.int .i64 (k : Int)) := (HR.out.cell (by unfold Addr.add; split <;> exact had3)).trans hc0
              have k1 : wr.cell? ⟨(ad3.add (T0 * 2)).block, (ad3.add (T0 * 2)).off + 1, none⟩ = some (S y) := by
                refine Eq.trans ?_ hc1
                rw [show (⟨(ad3.add (T0 * 2)).block, (ad3.add (T0 * 2)).off + 1, none⟩ : Addr) = ad3.add (T0 * 2 + 1) by unfold Addr.add; by_cases h : T0 * 2 = 0 <;> simp [h, Nat.add_assoc]]
                exact HR.out.cell (by unfold Addr.add; split <;> exact had3)
              clear hc0 hc1
              have j1 : (T0 : Int) < (N : Int) := by omega
              have j0 : (0 : Int) ≤ (T0 : Int) := by omega
              go_wp2_with fail
              go_quiet (fail)
              go_wp2_with fail
              go_quiet (fail)
              go_wp2
              go_roundw
              case rel =>
                have R : ∀ M : Nat, ∃ k' : Nat, k' ≤ fb.length ∧ Value.int .i64 ((k : Int) + 1) = .int .i64 k' ∧ Value.int .i64 ((T0 : Int) + 1) = .int .i64 (othersTo fa fb k').length ∧ Hid (Below w4.heap.size w4 (wr.drewN M)) := fun M => ⟨k + 1, by omega, by go_num, by rw [HE.out, List.length_append, HT0.out]; go_num, Lib.hid (Below.draws HR.out _)⟩
                first | exact R _ | ((repeat apply Exists.intro); exact ⟨R _, rfl⟩)
              case measure => simp [intOf]; omega
          · obtain rfl : k = fb.length := by omega
            have z1 := (HR.out.cell (p := ⟨gx + 1, 1, none⟩) (by show gx + 1 < _; omega)).trans Y1.out
            go_wp2_with fail
            go_loopw [8, 79] (fun s i wr => ∃ k : Nat, k ≤ bb.length ∧ i = .int .i64 k ∧ s = .int .i64 (othersTo ba bb k).length ∧ Hid (Below w4.heap.size w4 wr)) (fun _ i _ => bb.length - (intOf i).toNat)
            case atStart => exact ⟨0, by omega, rfl, rfl, HR⟩
            case round =>
              obtain ⟨k, hk, rfl, rfl, HR⟩ := hrel
              by_cases hlt : k < bb.length
              · have hka : k < ba.length := by rw [HG.out]; exact hlt
                obtain ⟨ad, rfl, had, hc⟩ := Strs.at' (HLL.out w4 _ _ HB4.out HB'.out) hlt
                obtain ⟨ad2, rfl, had2, hc2⟩ := Strs.at' (HLL.out w4 _ _ HB4.out HA'.out) hka
                have hcr : wr.cell? (ad.add k) = some (S (bb.getD k [])) := (HR.out.cell (by unfold Addr.add; split <;> exact had)).trans hc
                have hcr2 : wr.cell? (ad2.add k) = some (S (ba.getD k [])) := (HR.out.cell (by unfold Addr.add; split <;> exact had2)).trans hc2
                clear hc hc2
                have q0 := (HR.out.cell (p := ⟨gx, 1, none⟩) (by show gx < _; omega)).trans X1.out
                have q1 := (HR.out.cell (p := ⟨gx + 1, 1, none⟩) (by show gx + 1 < _; omega)).trans Y1.out
                have q2 := (HR.out.cell (p := ⟨gp, 33, none⟩) hgp4).trans P33.out
                have i0 : (0 : Int) ≤ (k : Int) := by omega
                have i1 : (k : Int) < (ba.length : Int) := by omega
                have i2 : (k : Int) < (bb.length : Int) := by omega
                by_cases hxy : ba.getD k [] = bb.getD k []
                · have HE := Lib.hid (othersTo_same hka hxy)
                  have hbe : (ba.getD k [] == bb.getD k []) = true := beq_iff_eq.2 hxy
                  have hbn : (ba.getD k [] != bb.getD k []) = false := by rw [bne, hbe]; rfl
                  clear hxy
                  generalize ba.getD k [] = x at *
                  generalize bb.getD k [] = y at *
                  go_wp2_with fail
                  go_quiet (fail)
                  go_wp2
                  go_roundw
                  case rel =>
                    have R : ∀ M : Nat, ∃ k' : Nat, k' ≤ bb.length ∧ Value.int .i64 ((k : Int) + 1) = .int .i64 k' ∧ Value.int .i64 ((othersTo ba bb k).length : Int) = .int .i64 (othersTo ba bb k').length ∧ Hid (Below w4.heap.size w4 (wr.drewN M)) := fun M => ⟨k + 1, by omega, by go_num, by rw [HE.out], Lib.hid (Below.draws HR.out _)⟩
                    first | exact R _ | ((repeat apply Exists.intro); exact ⟨R _, rfl⟩)
                  case measure => simp [intOf]; omega
                · have HE := Lib.hid (othersTo_new (a := ba) (b := bb) (k := k) (fun h => hxy h.2))
                  have hbe : (ba.getD k [] == bb.getD k []) = false := beq_eq_false_iff_ne.2 hxy
                  have hbn : (ba.getD k [] != bb.getD k []) = true := by rw [bne, hbe]; rfl
                  obtain ⟨hn1, hn2, hn3⟩ := othersTo_at (n := bb.length) hlt (fun h => hxy h.2)
                  clear hxy
                  have hk0 := othersTo_le ba bb k
                  generalize ba.getD k [] = x at *
                  generalize bb.getD k [] = y at *
                  generalize (othersTo ba bb bb.length).length = N at *
                  generalize hT0 : (othersTo ba bb k).length = T0 at *
                  have HT0 := Lib.hid hT0
                  clear hT0
                  have dN : decide (N ≤ T0) = false := by simp; omega
                  obtain ⟨ad3, hG, had3, hc0⟩ := L4.out _ _ hn2
                  obtain ⟨ad4, hG4, _, hc1⟩ := L4.out _ _ hn3
                  subst hG
                  obtain rfl : ad3 = ad4 := by injection hG4
                  clear hG4
                  have k0 : wr.cell? (ad3.add (T0 * 2)) = some (Value.int .i64 (k : Int)) := (HR.out.cell (by unfold Addr.add; split <;> exact had3)).trans hc0
                  have k1 : wr.cell? ⟨(ad3.add (T0 * 2)).block, (ad3.add (T0 * 2)).off + 1, none⟩ = some (S y) := by
                    refine Eq.trans ?_ hc1
                    rw [show (⟨(ad3.add (T0 * 2)).block, (ad3.add (T0 * 2)).off + 1, none⟩ : Addr) = ad3.add (T0 * 2 + 1) by unfold Addr.add; by_cases h : T0 * 2 = 0 <;> simp [h, Nat.add_assoc]]
                    exact HR.out.cell (by unfold Addr.add; split <;> exact had3)
                  clear hc0 hc1
                  have j1 : (T0 : Int) < (N : Int) := by omega
                  have j0 : (0 : Int) ≤ (T0 : Int) := by omega
                  go_wp2_with fail
                  go_quiet (fail)
                  go_wp2_with fail
                  go_quiet (fail)
                  go_wp2
                  go_roundw
                  case rel =>
                    have R : ∀ M : Nat, ∃ k' : Nat, k' ≤ bb.length ∧ Value.int .i64 ((k : Int) + 1) = .int .i64 k' ∧ Value.int .i64 ((T0 : Int) + 1) = .int .i64 (othersTo ba bb k').length ∧ Hid (Below w4.heap.size w4 (wr.drewN M)) := fun M => ⟨k + 1, by omega, by go_num, by rw [HE.out, List.length_append, HT0.out]; go_num, Lib.hid (Below.draws HR.out _)⟩
                    first | exact R _ | ((repeat apply Exists.intro); exact ⟨R _, rfl⟩)
                  case measure => simp [intOf]; omega
              · obtain rfl : k = bb.length := by omega
                go_wp2_with fail
                go_wp2_with (go_at_call 13; refine (fixed_any wr (HTW.out _ (HB4.out.trans (HR.out.mono hl4)))).mono ?_; rintro e w6 ⟨rfl, h6⟩; have r1 := ((HR.out.trans (h6.mono HR.out.size)).cell (p := ⟨gp, 32, none⟩) hgp4).trans P32.out; have r2 := ((HR.out.trans (h6.mono HR.out.size)).cell (p := ⟨gp, 33, none⟩) hgp4).trans P33.out; have h7 := Lib.hid (HR.out.trans (h6.mono HR.out.size)); clear h6)
                go_ret
                exact ⟨rfl, by rw [HGX.out]; exact HEND.out _ (HB4.out.trans (h7.out.mono hl4))⟩
      · have hn : ((ba.length : Int) == (bb.length : Int)) = false := by simp; omega
        have hn' : ((fa.length : Int) == (fb.length : Int)) = true := by simp; omega
        go_wp2_with (go_at_call 13; refine (HFX.out _ HB2.out).mono ?_; rintro e w3 ⟨rfl, hb3⟩)
        go_ret
        exact ⟨rfl, by rw [HGX.out]; exact HEND.out _ hb3⟩
    · have hn : ((fa.length : Int) == (fb.length : Int)) = false := by simp; omega
      go_wp2_with (go_at_call 13; refine (HFX.out _ HB2.out).mono ?_; rintro e w3 ⟨rfl, hb3⟩)
      go_ret
      exact ⟨rfl, by rw [HGX.out]; exact HEND.out _ hb3⟩
end Go.Proofs.YtecamaceainfpaaDoor
