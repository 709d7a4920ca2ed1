/-
  Walk: hibernaclelaw35.DeltaIs.
-/
import Derived.Test.YtecamaceainfpaaDoorFixed
import Derived.Test.YtecamaceainfpaaDoorFew
import Derived.Test.YtecamaceainfpaaDoorSame
import Derived.Test.YtecamaceainfpaaDoorROf
import Derived.Deep.RegionHeld3
namespace Go.Proofs.YtecamaceainfpaaDoor
open Go.RowKit

theorem same_DelR (w : World) (fa ba fb bb : List (List UInt8)) (ra rb : List UInt8) (c1 c2 : List Value) (ps1 ps2 : Rows') (h1 : DelR fa ba fb bb ra rb c1 ps1) (h2 : DelR fa ba fb bb ra rb c2 ps2) (k1 : Held w ps1) (k2 : Held w ps2)
    (lf : fb.length ≤ 1099511627776) (lb : bb.length ≤ 1099511627776) :
    Calls Tryd.prog 14 #[.agg c1.toArray, .agg c2.toArray] w fun e w' => e = .returned (.bool true) ∧ Below w.heap.size w w' := by
  obtain ⟨G, k, G', k', rfl, rfl⟩ := h1
  obtain ⟨F, m, F', m', rfl, rfl⟩ := h2
  exact same_true w G G' F F' k k' m m' _ _ _ _ _ (k1 _ (List.mem_cons_self ..)) (k1 _ (List.mem_cons_of_mem _ (List.mem_cons_self ..))) (k2 _ (List.mem_cons_self ..)) (k2 _ (List.mem_cons_of_mem _ (List.mem_cons_self ..)))
    (Nat.le_trans (othersTo_le _ _ _) lf) (Nat.le_trans (othersTo_le _ _ _) lb) (dig_length _) (dig_length _)

set_option maxRecDepth 100000 in
set_option maxHeartbeats 1000000 in
theorem is_any (w : World) (A A' B B' : Option Addr) (c c' d d' : Nat) (fa ba fb bb : List (List UInt8)) (ra rb : List UInt8) (hT : Tabs w) (hA : Strs w w.heap.size A fa) (hA' : Strs w w.heap.size A' ba) (hB : Strs w w.heap.size B fb) (hB' : Strs w w.heap.size B' bb)
    (hs : sizeOf fa + sizeOf ba + ra.length ≤ 4294967296) (hs' : sizeOf fb + sizeOf bb + rb.length ≤ 4294967296) :
    Calls Tryd.prog 3 #[.agg #[.slice A fa.length c, .slice A' ba.length c', S ra], .agg #[.slice B fb.length d, .slice B' bb.length d', S rb]] w fun e w' => e = .returned (.bool true) ∧ Below w.heap.size w w' := by
  have HT := Lib.hid hT
  have HA := Lib.hid hA
  have HA' := Lib.hid hA'
  have HB := Lib.hid hB
  have HB' := Lib.hid hB'
  clear hT hA hA' hB hB'
  have la := length_le_sizeOf fa
  have la' := length_le_sizeOf ba
  have lb := length_le_sizeOf fb
  have lb' := length_le_sizeOf bb
  go_enter Tryd.func3, Tryd.ntmps3
  go_wp2_with fail
  have hx := ((Whole.made w 24 #[.slice A fa.length c, .slice A' ba.length c', S ra]).block (.cells #[.slice B fb.length d, .slice B' bb.length d', S rb] 24)).block (.cells #[.slice A fa.length c, .slice A' ba.length c', S ra, .slice B fb.length d, .slice B' bb.length d', S rb] 24)
  have hy := (Whole.made (w.alloc (.cells #[.slice A fa.length c, .slice A' ba.length c', S ra] 24)) 24 #[.slice B fb.length d, .slice B' bb.length d', S rb]).block (.cells #[.slice A fa.length c, .slice A' ba.length c', S ra, .slice B fb.length d, .slice B' bb.length d', S rb] 24)
  have hz := Whole.made ((w.alloc (.cells #[.slice A fa.length c, .slice A' ba.length c', S ra] 24)).alloc (.cells #[.slice B fb.length d, .slice B' bb.length d', S rb] 24)) 24 #[.slice A fa.length c, .slice A' ba.length c', S ra, .slice B fb.length d, .slice B' bb.length d', S rb]
  have hb : Below w.heap.size w (((w.alloc (.cells #[.slice A fa.length c, .slice A' ba.length c', S ra] 24)).alloc (.cells #[.slice B fb.length d, .slice B' bb.length d', S rb] 24)).alloc (.cells #[.slice A fa.length c, .slice A' ba.length c', S ra, .slice B fb.length d, .slice B' bb.length d', S rb] 24)) := (((Below.refl _ _).alloc (Nat.le_refl _) _).alloc (by simp) _).alloc (by simp; omega) _
  rw [show (w.alloc (.cells #[.slice A fa.length c, .slice A' ba.length c', S ra] 24)).heap.size = w.heap.size + 1 by simp] at hy
  rw [show ((w.alloc (.cells #[.slice A fa.length c, .slice A' ba.length c', S ra] 24)).alloc (.cells #[.slice B fb.length d, .slice B' bb.length d', S rb] 24)).heap.size = w.heap.size + 1 + 1 by simp] at hz
  change Calls _ _ _ (((w.alloc (.cells #[.slice A fa.length c, .slice A' ba.length c', S ra] 24)).alloc (.cells #[.slice B fb.length d, .slice B' bb.length d', S rb] 24)).alloc (.cells #[.slice A fa.length c, .slice A' ba.length c', S ra, .slice B fb.length d, .slice B' bb.length d', S rb] 24)) _
  generalize (((w.alloc (.cells #[.slice A fa.length c, .slice A' ba.length c', S ra] 24)).alloc (.cells #[.slice B fb.length d, .slice B' bb.length d', S rb] 24)).alloc (.cells #[.slice A fa.length c, .slice A' ba.length c', S ra, .slice B fb.length d, .slice B' bb.length d', S rb] 24)) = w1 at *
  generalize hgx : w.heap.size = gx at *
  have HGX := Lib.hid hgx
  clear hgx
  have hl := hz.lt
  have HX := Lib.hid hx
  have HY := Lib.hid hy
  have HW := Lib.hid hb
  have hL : ∀ (W : World) (G : Option Addr) (xs : List Value), Below w1.heap.size w1 W → Lies w gx G xs → Lies W W.heap.size G xs := fun W G xs hW h => ((h.below HW.out).below (hW.mono (by omega))).wide (by have := hW.size; omega)
  have hTW : ∀ W : World, Below w1.heap.size w1 W → Tabs W := fun W hW => HT.out.below (by rw [HGX.out]; exact Nat.le_refl _) (HW.out.trans (hW.mono (by omega)))
  have HLL := Lib.hid hL
  have HTW := Lib.hid hTW
  have hims : Lies w1 w1.heap.size (some ⟨gx + 1 + 1, 0, none⟩) (imsCells [⟨A, c, fa, A', c', ba, ra⟩, ⟨B, d, fb, B', d', bb, rb⟩]) := fun k u hu => by
    refine ⟨_, rfl, hl, ?_⟩
    have := hz.cell k
    rw [show (⟨gx + 1 + 1, 0, none⟩ : Addr).add k = ⟨gx + 1 + 1, k, none⟩ by unfold Addr.add; split <;> simp_all]
    rw [this, ← hu]; exact List.getElem?_toArray
  have hlies : ∀ x ∈ [(⟨A, c, fa, A', c', ba, ra⟩ : Im), ⟨B, d, fb, B', d', bb, rb⟩], x.at_ w1 w1.heap.size := by
    intro x hx
    simp only [List.mem_cons, List.not_mem_nil, or_false] at hx
    rcases hx with rfl | rfl
    · exact ⟨hL _ _ _ (Below.refl _ _) HA.out, hL _ _ _ (Below.refl _ _) HA'.out⟩
    · exact ⟨hL _ _ _ (Below.refl _ _) HB.out, hL _ _ _ (Below.refl _ _) HB'.out⟩
  clear hx hy hz hb hL hTW
  refine (great_any w1 (some ⟨gx + 1 + 1, 0, none⟩) 2 [⟨A, c, fa, A', c', ba, ra⟩, ⟨B, d, fb, B', d', bb, rb⟩] hims hlies (by simp) (by simp only [total, Im.size, List.map_cons, List.map_nil, List.sum_cons, List.sum_nil]; omega)).mono ?_
  rintro e w2 ⟨rfl, hb2⟩
  clear hims hlies
  have C0 : w2.cell? ⟨gx, 0, none⟩ = some _ := (HX.out.below hb2 (by omega)).cell 0
  have C1 : w2.cell? ⟨gx, 1, none⟩ = some _ := (HX.out.below hb2 (by omega)).cell 1
  have C2 : w2.cell? ⟨gx, 2, none⟩ = some _ := (HX.out.below hb2 (by omega)).cell 2
  have D0 : w2.cell? ⟨gx + 1, 0, none⟩ = some _ := (HY.out.below hb2 (by omega)).cell 0
  have D1 : w2.cell? ⟨gx + 1, 1, none⟩ = some _ := (HY.out.below hb2 (by omega)).cell 1
  have D2 : w2.cell? ⟨gx + 1, 2, none⟩ = some _ := (HY.out.below hb2 (by omega)).cell 2
  have HB2 := Lib.hid hb2
  have hl2 : w1.heap.size ≤ w2.heap.size := hb2.size
  clear hb2
  have HFX : Hid (∀ W : World, Below w1.heap.size w1 W → Calls Tryd.prog 13 #[] W fun e w' => e = .returned (.bool true) ∧ Below w1.heap.size w1 w') := Lib.hid fun W hW => (fixed_any W (HTW.out W hW)).mono fun e w' h => ⟨h.1, hW.trans (h.2.mono hW.size)⟩
  have HEND : Hid (∀ W : World, Below w1.heap.size w1 W → Below gx w W) := Lib.hid fun W hW => HW.out.trans (hW.mono (by omega))
  generalize decide (4000 < total [(⟨A, c, fa, A', c', ba, ra⟩ : Im), ⟨B, d, fb, B', d', bb, rb⟩]) = gr
  cases gr with
  | true =>
    go_wp2_with (go_at_call 13; refine (HFX.out _ HB2.out).mono ?_; rintro e w3 ⟨rfl, hb3⟩)
    go_ret
    exact ⟨rfl, by rw [HGX.out]; exact HEND.out _ hb3⟩
  | false =>
    have OFX : Hid (∀ W : World, Below w1.heap.size w1 W → Calls Tryd.prog 15 #[.agg #[.slice A fa.length c, .slice A' ba.length c', S ra], .agg #[.slice B fb.length d, .slice B' bb.length d', S rb]] W fun e w' => ∃ c ps, e = .returned (.agg c.toArray) ∧ Hid (DelR fa ba fb bb ra rb c ps) ∧ Hid (Held w' ps) ∧ Below W.heap.size W w') := Lib.hid fun W hW =>
      (of_any W A A' B B' c c' d d' fa ba fb bb ra rb (HTW.out _ hW) (HLL.out _ _ _ hW HA.out) (HLL.out _ _ _ hW HA'.out) (HLL.out _ _ _ hW HB.out) (HLL.out _ _ _ hW HB'.out) hs hs').mono fun e w' he => by
        obtain ⟨c, ps, e1, e2, e3, _, e5⟩ := he.held
        exact ⟨c, ps, e1, Lib.hid e2, Lib.hid e3, e5⟩
    have RFX : Hid (∀ W : World, Below w1.heap.size w1 W → Calls Tryd.prog 16 #[.agg #[.slice A fa.length c, .slice A' ba.length c', S ra], .agg #[.slice B fb.length d, .slice B' bb.length d', S rb]] W fun e w' => ∃ c ps, e = .returned (.agg c.toArray) ∧ Hid (DelR fa ba fb bb ra rb c ps) ∧ Hid (Held w' ps) ∧ Below W.heap.size W w') := Lib.hid fun W hW =>
      (rof_any W A A' B B' c c' d d' fa ba fb bb ra rb (HLL.out _ _ _ hW HA.out) (HLL.out _ _ _ hW HA'.out) (HLL.out _ _ _ hW HB.out) (HLL.out _ _ _ hW HB'.out) hs hs').mono fun e w' he => by
        obtain ⟨c, ps, e1, e2, e3, _, e5⟩ := he.held
        exact ⟨c, ps, e1, Lib.hid e2, Lib.hid e3, e5⟩
    have K0 := Lib.hid (HX.out)
    have K1 := Lib.hid (HY.out)
    have hlb : fb.length ≤ 1099511627776 := by omega
    have hlb' : bb.length ≤ 1099511627776 := by omega
    have hgl1 : gx + 1 < w1.heap.size := by omega
    go_wp2_with fail
    go_region_held3 (fun w' => w'.cell? ⟨gx, 0, none⟩ = some (Value.slice A fa.length c) ∧ w'.cell? ⟨gx, 1, none⟩ = some (Value.slice A' ba.length c') ∧ w'.cell? ⟨gx, 2, none⟩ = some (S ra) ∧ w'.cell? ⟨gx + 1, 0, none⟩ = some (Value.slice B fb.length d) ∧ w'.cell? ⟨gx + 1, 1, none⟩ = some (Value.slice B' bb.length d') ∧ w'.cell? ⟨gx + 1, 2, none⟩ = some (S rb))
      (first
        | go_keep
        | (exact ⟨(K0.out.below BB (by omega)).cell 0, (K0.out.below BB (by omega)).cell 1, (K0.out.below BB (by omega)).cell 2, (K1.out.below BB (by omega)).cell 0, (K1.out.below BB (by omega)).cell 1, (K1.out.below BB (by omega)).cell 2⟩))
      (first
        | (go_at_call 13; refine (HFX.out _ ?_).mono ?_; (exact HB2.out.drew); rintro e w3 ⟨rfl, b3⟩; have BB := b3)
        | (go_at_call 15; refine (OFX.out _ ?_).mono ?_; (exact b3); rintro e w4 ⟨c4, ps4, rfl, R4, L4, h4⟩; have b4 : Below w1.heap.size w1 w4 := b3.trans (h4.mono b3.size); have BB := b4; clear h4)
        | (go_at_call 16; refine (RFX.out _ ?_).mono ?_; (exact b4); rintro e w5 ⟨c5, ps5, rfl, R5, L5, h5⟩; have b5 : Below w1.heap.size w1 w5 := b4.trans (h5.mono b4.size); have L45 := Lib.hid (L4.out.below h5); have BB := b5; clear h5)
        | (go_at_call 14; refine (same_DelR w5 fa ba fb bb ra rb c4 c5 ps4 ps5 R4.out R5.out L45.out L5.out hlb hlb').mono ?_; rintro e w6 ⟨rfl, h6⟩; have b6 : Below w1.heap.size w1 w6 := b5.trans (h6.mono b5.size); have BB := b6; clear h6))
    go_wp2
    go_ret
    exact ⟨rfl, by rw [HGX.out]; exact HEND.out _ b6⟩
end Go.Proofs.YtecamaceainfpaaDoor
