/-
  Plain: what became of an image, done on a third one. No program in sight.
-/
import Derived.Test.YtecamaceainfpaaDoorApartA
import Derived.Test.YtecamaceainfpaaDoorDeltaA
import Derived.Test.YtecamaceainfpaaDoorDeltaC
import Derived.Test.YtecamaceainfpaaDoorApply
import Derived.Deep.RegionHeld3
import Derived.Deep.MidRow
namespace Go.Proofs.YtecamaceainfpaaDoor
open Go.RowKit

/-- of four texts: what apart says -/
theorem apart_two {ls : List (List UInt8)} (h : apartL ls) {i k : Nat} (hi : i < ls.length) (hk : k < i) (hd : dig (ls.getD i []) = dig (ls.getD k [])) : ls.getD i [] = ls.getD k [] := h i k hk (.inl hi) hd
theorem onto_nil {α : Type} (l : Bool) : onto l ([] : List α) = [] := by cases l <;> rfl
section
variable (fa ba fb bb fc bc : List (List UInt8)) (ra rb rc : List UInt8)
/-- the digest from which the delta from a to b goes on -/
def fromD : List UInt8 := dig (imgB (onto (less fa ba fb bb) fa) (onto (less fa ba fb bb) ba) (onto (less fa ba fb bb) ra))
theorem told_new (ap : apartL [imgB [] [] [], imgB fa ba ra, imgB fb bb rb, imgB fc bc rc]) (h : fromD fa ba fb bb ra = dig (imgB [] [] [])) :
    applyL fc bc rc (fromD fa ba fb bb ra) (othersTo (onto (less fa ba fb bb) fa) fb fb.length) (othersTo (onto (less fa ba fb bb) ba) bb bb.length) rb (dig (imgB fb bb rb)) = (0, fb, bb, rb) := by
  have hA : onto (less fa ba fb bb) fa = [] ∧ onto (less fa ba fb bb) ba = [] := by
    unfold fromD at h
    cases hl : less fa ba fb bb with
    | true => exact ⟨rfl, rfl⟩
    | false =>
      rw [hl] at h
      have := apart_two ap (i := 1) (k := 0) (by simp) (by omega) h
      obtain ⟨h1, h2, _⟩ := imgB_inj this
      exact ⟨h1, h2⟩
  have hC : (if dig (imgB fc bc rc) = fromD fa ba fb bb ra then fc else []) = [] ∧ (if dig (imgB fc bc rc) = fromD fa ba fb bb ra then bc else []) = [] := by
    by_cases hc : dig (imgB fc bc rc) = fromD fa ba fb bb ra
    · rw [if_pos hc, if_pos hc]
      rw [h] at hc
      have := apart_two ap (i := 3) (k := 0) (by simp) (by omega) hc
      obtain ⟨h1, h2, _⟩ := imgB_inj this
      exact ⟨h1, h2⟩
    · rw [if_neg hc, if_neg hc]; exact ⟨rfl, rfl⟩
  unfold applyL
  rw [if_neg (fun hh => hh.2 h.symm), hC.1, hC.2, hA.1, hA.2, others_done (by simp), others_done (by simp)]
  simp
theorem told_diff (hn : imgEq fa ba ra fc bc rc = false) (ap : apartL [imgB [] [] [], imgB fa ba ra, imgB fb bb rb, imgB fc bc rc]) (h : fromD fa ba fb bb ra ≠ dig (imgB [] [] [])) :
    applyL fc bc rc (fromD fa ba fb bb ra) (othersTo (onto (less fa ba fb bb) fa) fb fb.length) (othersTo (onto (less fa ba fb bb) ba) bb bb.length) rb (dig (imgB fb bb rb)) = (23, [], [], []) := by
  have hA : fromD fa ba fb bb ra = dig (imgB fa ba ra) := by
    unfold fromD at h ⊢
    cases hl : less fa ba fb bb with
    | true => rw [hl] at h; exact absurd rfl h
    | false => rfl
  have hC : dig (imgB fc bc rc) ≠ fromD fa ba fb bb ra := fun hc => by
    rw [hA] at hc
    have := apart_two ap (i := 3) (k := 1) (by simp) (by omega) hc
    obtain ⟨h1, h2, h3⟩ := imgB_inj this
    subst h1 h2 h3
    simp [imgEq] at hn
  unfold applyL
  rw [if_pos ⟨hC, fun e => h e.symm⟩]
end
end Go.Proofs.YtecamaceainfpaaDoor
/-
  Walk: hibernaclelaw35.DeltaTold. (Printed by gen_told.py.)
-/
namespace Go.Proofs.YtecamaceainfpaaDoor
open Go.RowKit

theorem ims_at {w : World} {g : Nat} {t : TypeId} {l : List Im} (h : Whole w g t (imsCells l).toArray) : Lies w w.heap.size (some ⟨g, 0, none⟩) (imsCells l) := fun j u hu => by
  refine ⟨_, rfl, h.lt, ?_⟩
  rw [show (⟨g, 0, none⟩ : Addr).add j = ⟨g, j, none⟩ by unfold Addr.add; split <;> simp_all]
  rw [h.cell, ← hu]; exact List.getElem?_toArray
set_option maxRecDepth 100000 in
set_option maxHeartbeats 4000000 in
theorem told_any (w : World) (A A' B B' C C' : Option Addr) (c c' d d' k k' : Nat) (fa ba fb bb fc bc : List (List UInt8)) (ra rb rc : List UInt8) (hT : Tabs w) (hA : Strs w w.heap.size A fa) (hA' : Strs w w.heap.size A' ba) (hB : Strs w w.heap.size B fb) (hB' : Strs w w.heap.size B' bb) (hC : Strs w w.heap.size C fc) (hC' : Strs w w.heap.size C' bc)
    (hs : sizeOf fa + sizeOf ba + ra.length ≤ 268435456) (hs' : sizeOf fb + sizeOf bb + rb.length ≤ 268435456) (hs'' : sizeOf fc + sizeOf bc + rc.length ≤ 268435456) :
    Calls Tryd.prog 5 #[.agg #[.slice A fa.length c, .slice A' ba.length c', S ra], .agg #[.slice B fb.length d, .slice B' bb.length d', S rb], .agg #[.slice C fc.length k, .slice C' bc.length k', S rc]] w fun e w' => e = .returned (.bool true) ∧ Below w.heap.size w w' := by
  have HT := Lib.hid hT
  have HA := Lib.hid hA
  have HA' := Lib.hid hA'
  have HB := Lib.hid hB
  have HB' := Lib.hid hB'
  have HC := Lib.hid hC
  have HC' := Lib.hid hC'
  clear hT hA hA' hB hB' hC hC'
  have la := length_le_sizeOf fa
  have la' := length_le_sizeOf ba
  have lb := length_le_sizeOf fb
  have lb' := length_le_sizeOf bb
  have lc := length_le_sizeOf fc
  have lc' := length_le_sizeOf bc
  go_enter Tryd.func5, Tryd.ntmps5
  go_wp2_with fail
  have hx := (((Whole.made w 24 #[.slice A fa.length c, .slice A' ba.length c', S ra]).block (.cells #[.slice B fb.length d, .slice B' bb.length d', S rb] 24)).block (.cells #[.slice C fc.length k, .slice C' bc.length k', S rc] 24)).block (.cells #[.slice A fa.length c, .slice A' ba.length c', S ra, .slice B fb.length d, .slice B' bb.length d', S rb, .slice C fc.length k, .slice C' bc.length k', S rc] 24)
  have hy := ((Whole.made (w.alloc (.cells #[.slice A fa.length c, .slice A' ba.length c', S ra] 24)) 24 #[.slice B fb.length d, .slice B' bb.length d', S rb]).block (.cells #[.slice C fc.length k, .slice C' bc.length k', S rc] 24)).block (.cells #[.slice A fa.length c, .slice A' ba.length c', S ra, .slice B fb.length d, .slice B' bb.length d', S rb, .slice C fc.length k, .slice C' bc.length k', S rc] 24)
  have hz := (Whole.made ((w.alloc (.cells #[.slice A fa.length c, .slice A' ba.length c', S ra] 24)).alloc (.cells #[.slice B fb.length d, .slice B' bb.length d', S rb] 24)) 24 #[.slice C fc.length k, .slice C' bc.length k', S rc]).block (.cells #[.slice A fa.length c, .slice A' ba.length c', S ra, .slice B fb.length d, .slice B' bb.length d', S rb, .slice C fc.length k, .slice C' bc.length k', S rc] 24)
  have hv := Whole.made (((w.alloc (.cells #[.slice A fa.length c, .slice A' ba.length c', S ra] 24)).alloc (.cells #[.slice B fb.length d, .slice B' bb.length d', S rb] 24)).alloc (.cells #[.slice C fc.length k, .slice C' bc.length k', S rc] 24)) 24 #[.slice A fa.length c, .slice A' ba.length c', S ra, .slice B fb.length d, .slice B' bb.length d', S rb, .slice C fc.length k, .slice C' bc.length k', S rc]
  have hb : Below w.heap.size w ((((w.alloc (.cells #[.slice A fa.length c, .slice A' ba.length c', S ra] 24)).alloc (.cells #[.slice B fb.length d, .slice B' bb.length d', S rb] 24)).alloc (.cells #[.slice C fc.length k, .slice C' bc.length k', S rc] 24)).alloc (.cells #[.slice A fa.length c, .slice A' ba.length c', S ra, .slice B fb.length d, .slice B' bb.length d', S rb, .slice C fc.length k, .slice C' bc.length k', S rc] 24)) := ((((Below.refl _ _).alloc (Nat.le_refl _) _).alloc (by simp) _).alloc (by simp; omega) _).alloc (by simp; omega) _
  rw [show (w.alloc (.cells #[.slice A fa.length c, .slice A' ba.length c', S ra] 24)).heap.size = w.heap.size + 1 by simp] at hy
  rw [show ((w.alloc (.cells #[.slice A fa.length c, .slice A' ba.length c', S ra] 24)).alloc (.cells #[.slice B fb.length d, .slice B' bb.length d', S rb] 24)).heap.size = w.heap.size + 1 + 1 by simp] at hz
  rw [show (((w.alloc (.cells #[.slice A fa.length c, .slice A' ba.length c', S ra] 24)).alloc (.cells #[.slice B fb.length d, .slice B' bb.length d', S rb] 24)).alloc (.cells #[.slice C fc.length k, .slice C' bc.length k', S rc] 24)).heap.size = w.heap.size + 1 + 1 + 1 by simp] at hv
  change Calls _ _ _ ((((w.alloc (.cells #[.slice A fa.length c, .slice A' ba.length c', S ra] 24)).alloc (.cells #[.slice B fb.length d, .slice B' bb.length d', S rb] 24)).alloc (.cells #[.slice C fc.length k, .slice C' bc.length k', S rc] 24)).alloc (.cells #[.slice A fa.length c, .slice A' ba.length c', S ra, .slice B fb.length d, .slice B' bb.length d', S rb, .slice C fc.length k, .slice C' bc.length k', S rc] 24)) _
  generalize ((((w.alloc (.cells #[.slice A fa.length c, .slice A' ba.length c', S ra] 24)).alloc (.cells #[.slice B fb.length d, .slice B' bb.length d', S rb] 24)).alloc (.cells #[.slice C fc.length k, .slice C' bc.length k', S rc] 24)).alloc (.cells #[.slice A fa.length c, .slice A' ba.length c', S ra, .slice B fb.length d, .slice B' bb.length d', S rb, .slice C fc.length k, .slice C' bc.length k', S rc] 24)) = w1 at *
  generalize hgx : w.heap.size = gx at *
  have HGX := Lib.hid hgx
  clear hgx
  have hl := hv.lt
  have HX := Lib.hid hx
  have HY := Lib.hid hy
  have HZ := Lib.hid hz
  have HW := Lib.hid hb
  have hL : ∀ (W : World) (G : Option Addr) (xs : List Value), Below w1.heap.size w1 W → Lies w gx G xs → Lies W W.heap.size G xs := fun W G xs hW h => ((h.below HW.out).below (hW.mono (by omega))).wide (by have := hW.size; omega)
  have hTW : ∀ W : World, Below w1.heap.size w1 W → Tabs W := fun W hW => HT.out.below (by rw [HGX.out]; exact Nat.le_refl _) (HW.out.trans (hW.mono (by omega)))
  have HLL := Lib.hid hL
  have HTW := Lib.hid hTW
  have HIMS : Hid (∀ W, Below w1.heap.size w1 W → ∀ x ∈ [(⟨A, c, fa, A', c', ba, ra⟩ : Im), ⟨B, d, fb, B', d', bb, rb⟩, ⟨C, k, fc, C', k', bc, rc⟩], x.at_ W W.heap.size) := Lib.hid (by
    intro W hW x hx
    simp only [List.mem_cons, List.not_mem_nil, or_false] at hx
    rcases hx with rfl | rfl | rfl
    · exact ⟨hL _ _ _ hW HA.out, hL _ _ _ hW HA'.out⟩
    · exact ⟨hL _ _ _ hW HB.out, hL _ _ _ hW HB'.out⟩
    · exact ⟨hL _ _ _ hW HC.out, hL _ _ _ hW HC'.out⟩)
  have hims : Lies w1 w1.heap.size (some ⟨gx + 1 + 1 + 1, 0, none⟩) (imsCells [⟨A, c, fa, A', c', ba, ra⟩, ⟨B, d, fb, B', d', bb, rb⟩, ⟨C, k, fc, C', k', bc, rc⟩]) := ims_at hv
  clear hx hy hz hb hv hL hTW
  refine (great_any w1 (some ⟨gx + 1 + 1 + 1, 0, none⟩) 3 [⟨A, c, fa, A', c', ba, ra⟩, ⟨B, d, fb, B', d', bb, rb⟩, ⟨C, k, fc, C', k', bc, rc⟩] hims (HIMS.out w1 (Below.refl _ _)) (by simp) (by simp only [total, Im.size, List.map_cons, List.map_nil, List.sum_cons, List.sum_nil]; omega)).mono ?_
  rintro e w2 ⟨rfl, hb2⟩
  clear hims
  have HFX : Hid (∀ W : World, Below w1.heap.size w1 W → Calls Tryd.prog 13 #[] W fun e w' => e = .returned (.bool true) ∧ Below w1.heap.size w1 w') := Lib.hid fun W hW => (fixed_any W (HTW.out W hW)).mono fun e w' h => ⟨h.1, hW.trans (h.2.mono hW.size)⟩
  have HEND : Hid (∀ W : World, Below w1.heap.size w1 W → Below gx w W) := Lib.hid fun W hW => HW.out.trans (hW.mono (by omega))
  have C0 : w2.cell? ⟨gx, 0, none⟩ = some _ := (HX.out.below hb2 (by omega)).cell 0
  have C1 : w2.cell? ⟨gx, 1, none⟩ = some _ := (HX.out.below hb2 (by omega)).cell 1
  have C2 : w2.cell? ⟨gx, 2, none⟩ = some _ := (HX.out.below hb2 (by omega)).cell 2
  have E0 : w2.cell? ⟨gx + 1 + 1, 0, none⟩ = some _ := (HZ.out.below hb2 (by omega)).cell 0
  have E1 : w2.cell? ⟨gx + 1 + 1, 1, none⟩ = some _ := (HZ.out.below hb2 (by omega)).cell 1
  have E2 : w2.cell? ⟨gx + 1 + 1, 2, none⟩ = some _ := (HZ.out.below hb2 (by omega)).cell 2
  have HB2 := Lib.hid hb2
  have hl2 : w1.heap.size ≤ w2.heap.size := hb2.size
  clear hb2
  generalize decide (4000 < total [(⟨A, c, fa, A', c', ba, ra⟩ : Im), ⟨B, d, fb, B', d', bb, rb⟩, ⟨C, k, fc, C', k', bc, rc⟩]) = gr
  cases gr with
  | true =>
    go_wp2_with (go_at_call 13; refine (HFX.out _ HB2.out).mono ?_; rintro e w3 ⟨rfl, hb3⟩)
    go_ret
    exact ⟨rfl, by rw [HGX.out]; exact HEND.out _ hb3⟩
  | false =>
    go_wp2_with fail
    refine (images_any w2 A A' C C' c c' k k' fa ba fc bc ra rc (HLL.out _ _ _ HB2.out HA.out) (HLL.out _ _ _ HB2.out HA'.out) (HLL.out _ _ _ HB2.out HC.out) (HLL.out _ _ _ HB2.out HC'.out) (by omega) (by omega) (by omega) (by omega)).mono ?_
    rintro e w3 ⟨rfl, hb3⟩
    have HB3 := Lib.hid (HB2.out.trans (hb3.mono hl2))
    have hl3 : w1.heap.size ≤ w3.heap.size := HB3.out.size
    clear hb3 C0 C1 C2 E0 E1 E2
    obtain ⟨q, HQ⟩ : ∃ z, Hid (imgEq fa ba ra fc bc rc = z) := ⟨_, Lib.hid rfl⟩
    rw [HQ.out]
    cases q with
    | true =>
      go_wp2_with (go_at_call 13; refine (HFX.out _ HB3.out).mono ?_; rintro e w4 ⟨rfl, hb4⟩)
      go_ret
      exact ⟨rfl, by rw [HGX.out]; exact HEND.out _ hb4⟩
    | false =>
      have C0 : w3.cell? ⟨gx, 0, none⟩ = some _ := (HX.out.below HB3.out (by omega)).cell 0
      have C1 : w3.cell? ⟨gx, 1, none⟩ = some _ := (HX.out.below HB3.out (by omega)).cell 1
      have C2 : w3.cell? ⟨gx, 2, none⟩ = some _ := (HX.out.below HB3.out (by omega)).cell 2
      have D0 : w3.cell? ⟨gx + 1, 0, none⟩ = some _ := (HY.out.below HB3.out (by omega)).cell 0
      have D1 : w3.cell? ⟨gx + 1, 1, none⟩ = some _ := (HY.out.below HB3.out (by omega)).cell 1
      have D2 : w3.cell? ⟨gx + 1, 2, none⟩ = some _ := (HY.out.below HB3.out (by omega)).cell 2
      have E0 : w3.cell? ⟨gx + 1 + 1, 0, none⟩ = some _ := (HZ.out.below HB3.out (by omega)).cell 0
      have E1 : w3.cell? ⟨gx + 1 + 1, 1, none⟩ = some _ := (HZ.out.below HB3.out (by omega)).cell 1
      have E2 : w3.cell? ⟨gx + 1 + 1, 2, none⟩ = some _ := (HZ.out.below HB3.out (by omega)).cell 2
      go_wp2_with fail
      change Calls _ _ _ (w3.alloc (.cells #[.slice A fa.length c, .slice A' ba.length c', S ra, .slice B fb.length d, .slice B' bb.length d', S rb, .slice C fc.length k, .slice C' bc.length k', S rc] 24)) _
      refine (apart_any (w3.alloc (.cells #[.slice A fa.length c, .slice A' ba.length c', S ra, .slice B fb.length d, .slice B' bb.length d', S rb, .slice C fc.length k, .slice C' bc.length k', S rc] 24)) (some ⟨w3.heap.size, 0, none⟩) 3 [⟨A, c, fa, A', c', ba, ra⟩, ⟨B, d, fb, B', d', bb, rb⟩, ⟨C, k, fc, C', k', bc, rc⟩] (ims_at (Whole.made w3 24 #[.slice A fa.length c, .slice A' ba.length c', S ra, .slice B fb.length d, .slice B' bb.length d', S rb, .slice C fc.length k, .slice C' bc.length k', S rc])) (HIMS.out _ (HB3.out.alloc hl3 _)) (by simp) (by
        intro x hx
        simp only [List.mem_cons, List.not_mem_nil, or_false] at hx
        rcases hx with rfl | rfl | rfl <;> (simp only [Im.size]; omega))).mono ?_
      rintro e w5 ⟨rfl, hb5⟩
      have HB5 := Lib.hid ((HB3.out.alloc hl3 _).trans (hb5.mono (by simp; omega)))
      have hl5 : w1.heap.size ≤ w5.heap.size := HB5.out.size
      clear hb5 C0 C1 C2 D0 D1 D2 E0 E1 E2
      obtain ⟨p, HP⟩ : ∃ z, Hid (apartB (apTexts [⟨A, c, fa, A', c', ba, ra⟩, ⟨B, d, fb, B', d', bb, rb⟩, ⟨C, k, fc, C', k', bc, rc⟩]) = z) := ⟨_, Lib.hid rfl⟩
      rw [HP.out]
      cases p with
      | false =>
        go_wp2_with (go_at_call 13; refine (HFX.out _ HB5.out).mono ?_; rintro e w6 ⟨rfl, hb6⟩)
        go_ret
        exact ⟨rfl, by rw [HGX.out]; exact HEND.out _ hb6⟩
      | true =>
        have HAP : Hid (apartL [imgB [] [] [], imgB fa ba ra, imgB fb bb rb, imgB fc bc rc]) := Lib.hid (apartB_iff.1 HP.out)
        have C0 : w5.cell? ⟨gx, 0, none⟩ = some _ := (HX.out.below HB5.out (by omega)).cell 0
        have C1 : w5.cell? ⟨gx, 1, none⟩ = some _ := (HX.out.below HB5.out (by omega)).cell 1
        have C2 : w5.cell? ⟨gx, 2, none⟩ = some _ := (HX.out.below HB5.out (by omega)).cell 2
        have D0 : w5.cell? ⟨gx + 1, 0, none⟩ = some _ := (HY.out.below HB5.out (by omega)).cell 0
        have D1 : w5.cell? ⟨gx + 1, 1, none⟩ = some _ := (HY.out.below HB5.out (by omega)).cell 1
        have D2 : w5.cell? ⟨gx + 1, 2, none⟩ = some _ := (HY.out.below HB5.out (by omega)).cell 2
        go_wp2_with fail
        refine (of_any w5 A A' B B' c c' d d' fa ba fb bb ra rb (HTW.out _ HB5.out) (HLL.out _ _ _ HB5.out HA.out) (HLL.out _ _ _ HB5.out HA'.out) (HLL.out _ _ _ HB5.out HB.out) (HLL.out _ _ _ HB5.out HB'.out) (by omega) (by omega)).mono ?_
        rintro e w6 ⟨⟨G, kg, G', kg', rfl, h3, h4, h5, h6⟩, h7⟩
        have HB6 := Lib.hid (HB5.out.trans (h7.mono hl5))
        have hl6 : w1.heap.size ≤ w6.heap.size := Nat.le_trans hl5 h7.size
        have H3 := Lib.hid h3
        have H4 := Lib.hid h4
        clear h3 h4 h5 h6 h7 C0 C1 C2 D0 D1 D2
        obtain ⟨F, HF⟩ : ∃ z, Hid (fromD fa ba fb bb ra = z) := ⟨_, Lib.hid rfl⟩
        have HFL : Hid (F.length = 32) := Lib.hid (by rw [← HF.out]; exact dig_length _)
        obtain ⟨V, HV⟩ : ∃ z, Hid (dCells (dig (imgB (onto (less fa ba fb bb) fa) (onto (less fa ba fb bb) ba) (onto (less fa ba fb bb) ra))) (.slice G (othersTo (onto (less fa ba fb bb) fa) fb fb.length).length kg) (.slice G' (othersTo (onto (less fa ba fb bb) ba) bb bb.length).length kg') rb (dig (imgB fb bb rb)) = z) := ⟨_, Lib.hid rfl⟩
        rw [HV.out]
        have HVF : Hid (V = dCells F (.slice G (othersTo (onto (less fa ba fb bb) fa) fb fb.length).length kg) (.slice G' (othersTo (onto (less fa ba fb bb) ba) bb bb.length).length kg') rb (dig (imgB fb bb rb))) := Lib.hid (by rw [← HV.out, ← HF.out]; rfl)
        have HVl : Hid (V.length = 67) := Lib.hid (by rw [← HV.out]; exact dCells_length (dig_length _) (dig_length _) _ _ _)
        have HVo : Hid (∀ v ∈ V, v.oneCell' = true) := Lib.hid (by rw [← HV.out]; exact dCells_one _ _ _ _ _ _ _ _ _)
        have HVi : Hid ((Tryd.prog.info? 32).map (·.size) = some V.length) := Lib.hid (by rw [HVl.out]; kernel_rfl)
        have HVf : Hid (0 + V.length ≤ Tryd.zeroCells32.toList.length) := Lib.hid (by rw [HVl.out]; decide)
        have HZD : Hid (Whole (w6.alloc (.cells Tryd.zeroCells32 32)) w6.heap.size 32 Tryd.zeroCells32.toList.toArray) := Lib.hid (by simpa using Whole.made w6 32 Tryd.zeroCells32)
        go_upto_region 4 with (refine wpList_store_at rfl 32 (.tmp 7) (.tmp 31) rfl rfl w6.heap.size 0 rfl V rfl HVi.out Tryd.zeroCells32.toList 32 HZD.out HVf.out HVo.out ?_; intro w7 N7 F7)
        have n7 : Whole w7 w6.heap.size 32 V.toArray := by
          have := N7.out
          rw [HVl.out, show Tryd.zeroCells32.toList.drop (0 + 67) = [] from by kernel_rfl, List.take_zero, List.nil_append, List.append_nil] at this
          exact this
        have HB7 := Lib.hid (below_grown (HB6.out.alloc hl6 _) F7.out (by simp; omega) hl6)
        have L3 := Lib.hid (lies_after (H3.out.block' _) F7.out (fun ad e hne => by have := lies_lt H3.out e hne; omega))
        have L4 := Lib.hid (lies_after (H4.out.block' _) F7.out (fun ad e hne => by have := lies_lt H4.out e hne; omega))
        have HN7 := Lib.hid n7
        generalize w6.heap.size = gp at *
        clear n7 N7 F7 HZD H3 H4 HVf HB6
        have hl7 : w1.heap.size ≤ w7.heap.size := HB7.out.size
        have hgp : gp < w7.heap.size := HN7.out.lt
        have HCV : Hid (∀ j v, V[j]? = some v → w7.cell? ((⟨gp, 0, none⟩ : Addr).add j) = some v) := Lib.hid (mid_cells HN7.out 0 V (fun j v hv => by rw [Nat.zero_add]; exact hv))
        have E0 : w7.cell? ⟨gx + 1 + 1, 0, none⟩ = some _ := (HZ.out.below HB7.out (by omega)).cell 0
        have E1 : w7.cell? ⟨gx + 1 + 1, 1, none⟩ = some _ := (HZ.out.below HB7.out (by omega)).cell 1
        have E2 : w7.cell? ⟨gx + 1 + 1, 2, none⟩ = some _ := (HZ.out.below HB7.out (by omega)).cell 2
        have hws : wSize (othersTo (onto (less fa ba fb bb) fa) fb fb.length) ≤ 2 * sizeOf fb := by have := wSize_others (onto (less fa ba fb bb) fa) fb fb.length (Nat.le_refl _); rwa [List.take_of_length_le (Nat.le_refl _)] at this
        have hws' : wSize (othersTo (onto (less fa ba fb bb) ba) bb bb.length) ≤ 2 * sizeOf bb := by have := wSize_others (onto (less fa ba fb bb) ba) bb bb.length (Nat.le_refl _); rwa [List.take_of_length_le (Nat.le_refl _)] at this
        have HAPP : Hid (Calls Tryd.prog 19 #[.agg #[.slice C fc.length k, .slice C' bc.length k', S rc], .agg V.toArray] w7 (ApplyPost w7 (applyL fc bc rc F (othersTo (onto (less fa ba fb bb) fa) fb fb.length) (othersTo (onto (less fa ba fb bb) ba) bb bb.length) rb (dig (imgB fb bb rb))))) := Lib.hid (by
          rw [HVF.out]
          exact apply_any w7 C C' G G' k k' kg kg' fc bc rc F _ _ rb _ (HTW.out _ HB7.out) (HLL.out _ _ _ HB7.out HC.out) (HLL.out _ _ _ HB7.out HC'.out) L3.out L4.out (by omega) HFL.out (dig_length _))
        have RF : Hid (∀ j v, (F.map B8)[j]? = some v → V[0 + j]? = some v) := Lib.hid (by rw [HVF.out]; exact dCells_from _ _ _ _)
        clear hws hws' L3 L4
        have DEL : Hid ((dig (imgB [] [] [])).length = 32) := Lib.hid (dig_length _)
        have HEM : Hid (∀ W : World, Calls Tryd.prog 20 #[] W fun e w' => e = .returned (D32 (dig (imgB [] [] []))) ∧ Below W.heap.size W w') := Lib.hid empty_any
        by_cases hE : F = dig (imgB [] [] [])
        · have HEQ := Lib.hid hE
          have HTN := Lib.hid (told_new fa ba fb bb fc bc ra rb rc HAP.out (by rw [HF.out]; exact hE))
          rw [HF.out] at HTN
          rw [HTN.out] at HAPP
          clear hE HTN
          go_wp2_with (refine wpList_load_at rfl 32 (.tmp 7) rfl ⟨gp, 0, none⟩ rfl V _ HCV.out Tryd.underlying32 rfl HVi.out ?_)
          refine HAPP.out.mono ?_
          rintro e w8 ⟨⟨P, kp, P', kp', rfl, p1, p2⟩, h8⟩
          have HB8 := Lib.hid (HB7.out.trans (h8.mono hl7))
          have HP1 := Lib.hid (show Strs w8 w8.heap.size P fb from p1)
          have HP2 := Lib.hid (show Strs w8 w8.heap.size P' bb from p2)
          clear p1 p2
          dsimp only
          obtain ⟨DE, HDE⟩ : ∃ z, Hid (dig (imgB [] [] []) = z) := ⟨_, Lib.hid rfl⟩
          rw [HDE.out] at DEL HEM HEQ
          have hl8 : w1.heap.size ≤ w8.heap.size := HB8.out.size
          have hgp8 : gp < w8.heap.size := Nat.lt_of_lt_of_le hgp h8.size
          have hN8 := (HN7.out.below h8 hgp).block (.cells #[.slice P fb.length kp, .slice P' bb.length kp', S rb] 24)
          have hX8 := Whole.made w8 24 #[.slice P fb.length kp, .slice P' bb.length kp', S rb]
          have hb8 := HB8.out.alloc hl8 (.cells #[.slice P fb.length kp, .slice P' bb.length kp', S rb] 24)
          go_upto_region 5 with (fail)
          change Code.wp _ _ _ _ (w8.alloc (.cells #[.slice P fb.length kp, .slice P' bb.length kp', S rb] 24))
          have HP1' := Lib.hid (Lies.block' HP1.out (.cells #[.slice P fb.length kp, .slice P' bb.length kp', S rb] 24))
          have HP2' := Lib.hid (Lies.block' HP2.out (.cells #[.slice P fb.length kp, .slice P' bb.length kp', S rb] 24))
          generalize w8.alloc (.cells #[.slice P fb.length kp, .slice P' bb.length kp', S rb] 24) = w9 at *
          generalize w8.heap.size = gb at *
          clear h8 HB8 E0 E1 E2
          have HB9 := Lib.hid hb8
          have HX9 := Lib.hid hX8
          have rf := range_of hN8 0 (F.map B8) RF.out
          have hgp9 := hN8.lt
          have hl9 : w1.heap.size ≤ w9.heap.size := HB9.out.size
          clear hb8 hN8
          have hu := Tryd.underlying29
          have hi : (Tryd.prog.info? 29).map (·.size) = some (F.map B8).length := by rw [List.length_map, HFL.out]; kernel_rfl
          have hlen : (F.map B8).length = 32 := by rw [List.length_map, HFL.out]
          have h1c := B8_one F
          have eqr : ∀ W : World, (Op.equalIn 10000 29 (D32 F) (D32 DE)).run Tryd.prog W = .ok true W := fun W => by rw [eqIn_D32 F DE HFL.out DEL.out]; simp [HEQ.out]
          go_region_held3 (fun w' => w'.rangeAt gp 0 (F.map B8))
            (first
              | (exact rf)
              | (exact fun j v hv => (BB.cell (by show gp < w9.heap.size; omega)).trans (rf j v hv)))
            (first
              | (go_at_call 20; refine (HEM.out _).mono ?_; rintro e w10 ⟨rfl, hbl⟩; have BB : Below w9.heap.size w9 w10 := ((Below.refl w9.heap.size w9).drew).trans hbl; clear hbl))
          have HB10 := Lib.hid (HB9.out.trans (BB.mono hl9))
          have HX10 := Lib.hid (HX9.out.below BB HX9.out.lt)
          have hl10 : w1.heap.size ≤ w10.heap.size := HB10.out.size
          have HP1x := Lib.hid (Lies.wide (Lies.below HP1'.out BB) BB.size)
          have HP2x := Lib.hid (Lies.wide (Lies.below HP2'.out BB) BB.size)
          clear hu hi hlen h1c eqr rf HP1 HP2 HP1' HP2' BB HX9 HB9
          go_wp2_with fail
          refine (fixed_any w10 (HTW.out _ HB10.out)).mono ?_
          rintro e w11 ⟨rfl, hb11⟩
          have hx11 := HX10.out.below hb11 HX10.out.lt
          have x0 : w11.cell? ⟨gb, 0, none⟩ = some (Value.slice P fb.length kp) := hx11.cell 0
          have x1 : w11.cell? ⟨gb, 1, none⟩ = some (Value.slice P' bb.length kp') := hx11.cell 1
          have x2 : w11.cell? ⟨gb, 2, none⟩ = some (S rb) := hx11.cell 2
          have HB11 := Lib.hid (HB10.out.trans (hb11.mono hl10))
          have D0 : w11.cell? ⟨gx + 1, 0, none⟩ = some _ := (HY.out.below HB11.out (by omega)).cell 0
          have D1 : w11.cell? ⟨gx + 1, 1, none⟩ = some _ := (HY.out.below HB11.out (by omega)).cell 1
          have D2 : w11.cell? ⟨gx + 1, 2, none⟩ = some _ := (HY.out.below HB11.out (by omega)).cell 2
          have HP3 := Lib.hid (Lies.wide (Lies.below HP1x.out hb11) hb11.size)
          have HP4 := Lib.hid (Lies.wide (Lies.below HP2x.out hb11) hb11.size)
          clear hx11 hb11
          go_wp2_with fail
          refine (images_any w11 P P' B B' kp kp' d d' fb bb fb bb rb rb HP3.out HP4.out (HLL.out _ _ _ HB11.out HB.out) (HLL.out _ _ _ HB11.out HB'.out) (by omega) (by omega) (by omega) (by omega)).mono ?_
          rintro e w12 ⟨rfl, hb12⟩
          rw [show imgEq fb bb rb fb bb rb = true by simp [imgEq]]
          have HB12 := Lib.hid (HB11.out.trans (hb12.mono HB11.out.size))
          clear hb12
          go_wp2_with fail
          go_ret
          exact ⟨rfl, by rw [HGX.out]; exact HEND.out _ HB12.out⟩
        · have HEQ : Hid ((F == dig (imgB [] [] [])) = false) := Lib.hid (beq_eq_false_iff_ne.2 hE)
          have HTN := Lib.hid (told_diff fa ba fb bb fc bc ra rb rc HQ.out HAP.out (by rw [HF.out]; exact hE))
          rw [HF.out] at HTN
          rw [HTN.out] at HAPP
          clear hE HTN
          go_wp2_with (refine wpList_load_at rfl 32 (.tmp 7) rfl ⟨gp, 0, none⟩ rfl V _ HCV.out Tryd.underlying32 rfl HVi.out ?_)
          refine HAPP.out.mono ?_
          rintro e w8 ⟨⟨P, kp, P', kp', rfl, p1, p2⟩, h8⟩
          have HB8 := Lib.hid (HB7.out.trans (h8.mono hl7))
          clear p1 p2
          dsimp only
          obtain ⟨DE, HDE⟩ : ∃ z, Hid (dig (imgB [] [] []) = z) := ⟨_, Lib.hid rfl⟩
          rw [HDE.out] at DEL HEM HEQ
          have hl8 : w1.heap.size ≤ w8.heap.size := HB8.out.size
          have hgp8 : gp < w8.heap.size := Nat.lt_of_lt_of_le hgp h8.size
          have hN8 := (HN7.out.below h8 hgp).block (.cells #[.slice P 0 kp, .slice P' 0 kp', S []] 24)
          have hX8 := Whole.made w8 24 #[.slice P 0 kp, .slice P' 0 kp', S []]
          have hb8 := HB8.out.alloc hl8 (.cells #[.slice P 0 kp, .slice P' 0 kp', S []] 24)
          go_upto_region 5 with (fail)
          change Code.wp _ _ _ _ (w8.alloc (.cells #[.slice P 0 kp, .slice P' 0 kp', S []] 24))
          skip
          generalize w8.alloc (.cells #[.slice P 0 kp, .slice P' 0 kp', S []] 24) = w9 at *
          generalize w8.heap.size = gb at *
          clear h8 HB8 E0 E1 E2
          have HB9 := Lib.hid hb8
          have HX9 := Lib.hid hX8
          have rf := range_of hN8 0 (F.map B8) RF.out
          have hgp9 := hN8.lt
          have hl9 : w1.heap.size ≤ w9.heap.size := HB9.out.size
          clear hb8 hN8
          have hu := Tryd.underlying29
          have hi : (Tryd.prog.info? 29).map (·.size) = some (F.map B8).length := by rw [List.length_map, HFL.out]; kernel_rfl
          have hlen : (F.map B8).length = 32 := by rw [List.length_map, HFL.out]
          have h1c := B8_one F
          have eqr : ∀ W : World, (Op.equalIn 10000 29 (D32 F) (D32 DE)).run Tryd.prog W = .ok false W := fun W => by rw [eqIn_D32 F DE HFL.out DEL.out]; simp [HEQ.out]
          go_region_held3 (fun w' => w'.rangeAt gp 0 (F.map B8))
            (first
              | (exact rf)
              | (exact fun j v hv => (BB.cell (by show gp < w9.heap.size; omega)).trans (rf j v hv)))
            (first
              | (go_at_call 20; refine (HEM.out _).mono ?_; rintro e w10 ⟨rfl, hbl⟩; have BB : Below w9.heap.size w9 w10 := ((Below.refl w9.heap.size w9).drew).trans hbl; clear hbl))
          have HB10 := Lib.hid (HB9.out.trans (BB.mono hl9))
          have HX10 := Lib.hid (HX9.out.below BB HX9.out.lt)
          have hl10 : w1.heap.size ≤ w10.heap.size := HB10.out.size
          clear hu hi hlen h1c eqr rf BB HX9 HB9
          go_wp2_with fail
          refine (fixed_any w10 (HTW.out _ HB10.out)).mono ?_
          rintro e w11 ⟨rfl, hb11⟩
          have hx11 := HX10.out.below hb11 HX10.out.lt
          have x0 : w11.cell? ⟨gb, 0, none⟩ = some (Value.slice P 0 kp) := hx11.cell 0
          have x1 : w11.cell? ⟨gb, 1, none⟩ = some (Value.slice P' 0 kp') := hx11.cell 1
          have HB11 := Lib.hid (HB10.out.trans (hb11.mono hl10))
          clear hx11 hb11
          go_wp2_with fail
          go_ret
          exact ⟨rfl, by rw [HGX.out]; exact HEND.out _ HB11.out⟩
end Go.Proofs.YtecamaceainfpaaDoor
