/-
  Walk: hibernaclelaw35.DeltaApplies. (Printed by gen_applies.py.)
-/
import Derived.Test.YtecamaceainfpaaDoorRJoin
import Derived.Test.YtecamaceainfpaaDoorRApply
import Derived.Test.YtecamaceainfpaaDoorJoinsP
import Derived.Test.YtecamaceainfpaaDoorBack
namespace Go.Proofs.YtecamaceainfpaaDoor
open Go.RowKit

theorem applyL_size {fa ba : List (List UInt8)} {ra F : List UInt8} {wf wb : List (Int × List UInt8)} {r T : List UInt8} {x : Int} {f b : List (List UInt8)} {q : List UInt8} (h : applyL fa ba ra F wf wb r T = (x, f, b, q)) :
    sizeOf f ≤ sizeOf fa + wSize wf ∧ sizeOf b ≤ sizeOf ba + wSize wb := by
  have no : ∀ y : Int, (y, ([] : List (List UInt8)), ([] : List (List UInt8)), ([] : List UInt8)) = (x, f, b, q) → sizeOf f ≤ sizeOf fa + wSize wf ∧ sizeOf b ≤ sizeOf ba + wSize wb := fun y e => by
    injection e with _ e
    injection e with e1 e
    injection e with e2 _
    subst e1; subst e2
    exact ⟨by simp [sizeOf], by simp [sizeOf]⟩
  unfold applyL at h
  split at h
  · exact no _ h
  · split at h
    · exact no _ h
    · rename_i g hg
      split at h
      · exact no _ h
      · rename_i g' hg'
        split at h
        · injection h with _ h
          injection h with e1 h
          injection h with e2 _
          subst e1; subst e2
          have h1 := doneL_size _ _ _ hg
          have h2 := doneL_size _ _ _ hg'
          have e0 : sizeOf ([] : List (List UInt8)) = 0 := rfl
          constructor
          · split at h1 <;> omega
          · split at h2 <;> omega
        · exact no _ h
theorem joinD_size {dF dT : List UInt8} {dwf dwb : List Wr} {eF eT er : List UInt8} {ewf ewb : List Wr} {x : Int} {F T r : List UInt8} {wf wb : List Wr} (hdF : dF.length = 32) (heF : eF.length = 32) (heT : eT.length = 32)
    (h : joinD dF dT dwf dwb eF eT er ewf ewb = (x, F, T, r, wf, wb)) : F.length = 32 ∧ T.length = 32 ∧ wSize wf ≤ wSize dwf + wSize ewf ∧ wSize wb ≤ wSize dwb + wSize ewb := by
  unfold joinD at h
  split at h
  · simp only [Prod.mk.injEq] at h
    obtain ⟨_, rfl, rfl, _, rfl, rfl⟩ := h
    exact ⟨heF, heT, by omega, by omega⟩
  · split at h
    · simp only [Prod.mk.injEq] at h
      obtain ⟨_, rfl, rfl, _, rfl, rfl⟩ := h
      exact ⟨rfl, rfl, by simp [wSize], by simp [wSize]⟩
    · simp only [Prod.mk.injEq] at h
      obtain ⟨_, rfl, rfl, _, rfl, rfl⟩ := h
      exact ⟨hdF, heT, wSize_both _ _, wSize_both _ _⟩
theorem IsD.rapply {F T r : List UInt8} {wf wb : List (Int × List UInt8)} {W : World} {V : List Value} (h : IsD F T r wf wb W V) (hF : F.length = 32) (hT : T.length = 32) (A A' : Option Addr) (c c' : Nat) (fa ba : List (List UInt8)) (ra : List UInt8) (hA : Strs W W.heap.size A fa) (hA' : Strs W W.heap.size A' ba)
    (hs : sizeOf fa + sizeOf ba + ra.length + wSize wf + wSize wb + r.length ≤ 2147483648) (x : Int) (fb bb : List (List UInt8)) (rb : List UInt8) (hx : applyL fa ba ra F wf wb r T = (x, fb, bb, rb)) :
    Calls Tryd.prog 22 #[.agg #[.slice A fa.length c, .slice A' ba.length c', S ra], .agg V.toArray] W fun e w' => ∃ G k G' k', e = .returned (.tuple #[.agg #[.slice G fb.length k, .slice G' bb.length k', S rb], .int .i64 x]) ∧ Hid (Strs w' w'.heap.size G fb ∧ Strs w' w'.heap.size G' bb) ∧ Below W.heap.size W w' := by
  obtain ⟨G, kg, G', kg', rfl, h1, h2⟩ := h
  refine (rapply_any W A A' G G' c c' kg kg' fa ba ra F wf wb r T hA hA' h1 h2 hs hF hT).mono fun e w' h => ?_
  rw [hx] at h
  obtain ⟨⟨P, kp, P', kp', rfl, p1, p2⟩, h8⟩ := h
  exact ⟨P, kp, P', kp', rfl, Lib.hid ⟨p1, p2⟩, h8⟩
set_option maxRecDepth 100000 in
set_option maxHeartbeats 4000000 in
theorem applies_any (w : World) (A A' : Option Addr) (c c' : Nat) (fa ba : List (List UInt8)) (ra : List UInt8) (dF dT dr : List UInt8) (dwf dwb : List Wr) (Vd : List Value) (eF eT er : List UInt8) (ewf ewb : List Wr) (Ve : List Value) (hT : Tabs w)
    (hA : Strs w w.heap.size A fa) (hA' : Strs w w.heap.size A' ba) (hd : IsD dF dT dr dwf dwb w Vd) (he : IsD eF eT er ewf ewb w Ve) (hdF : dF.length = 32) (hdT : dT.length = 32) (heF : eF.length = 32) (heT : eT.length = 32)
    (hs : sizeOf fa + sizeOf ba + ra.length ≤ 268435456) (hsd : wSize dwf + wSize dwb + dr.length ≤ 268435456) (hse : wSize ewf + wSize ewb + er.length ≤ 268435456) :
    Calls Tryd.prog 6 #[.agg #[.slice A fa.length c, .slice A' ba.length c', S ra], .agg Vd.toArray, .agg Ve.toArray] w fun e w' => e = .returned (.bool true) ∧ Below w.heap.size w w' := by
  have HT := Lib.hid hT
  have HA := Lib.hid hA
  have HA' := Lib.hid hA'
  have HD := Lib.hid hd
  have HE := Lib.hid he
  have HdF := Lib.hid hdF
  have HdT := Lib.hid hdT
  have HeF := Lib.hid heF
  have HeT := Lib.hid heT
  have NVd := Lib.hid (delta_info (hd.length hdF hdT))
  have NVe := Lib.hid (delta_info (he.length heF heT))
  have hl67 : Vd.toArray.size = 67 := by rw [List.size_toArray]; exact hd.length hdF hdT
  have hl67' : Ve.toArray.size = 67 := by rw [List.size_toArray]; exact he.length heF heT
  have ld := wSize_len dwf
  have ld' := wSize_len dwb
  have le := wSize_len ewf
  have le' := wSize_len ewb
  have la := length_le_sizeOf fa
  have la' := length_le_sizeOf ba
  have hx := ((Whole.made w 24 #[.slice A fa.length c, .slice A' ba.length c', S ra]).block (.cells Vd.toArray 32)).block (.cells Ve.toArray 32)
  have hy := (Whole.made (w.alloc (.cells #[.slice A fa.length c, .slice A' ba.length c', S ra] 24)) 32 Vd.toArray).block (.cells Ve.toArray 32)
  have hz := Whole.made ((w.alloc (.cells #[.slice A fa.length c, .slice A' ba.length c', S ra] 24)).alloc (.cells Vd.toArray 32)) 32 Ve.toArray
  have hb : Below w.heap.size w (((w.alloc (.cells #[.slice A fa.length c, .slice A' ba.length c', S ra] 24)).alloc (.cells Vd.toArray 32)).alloc (.cells Ve.toArray 32)) := (((Below.refl w.heap.size w).alloc (Nat.le_refl _) _).alloc (by simp) _).alloc (by simp; omega) _
  have hsz : (((w.alloc (.cells #[.slice A fa.length c, .slice A' ba.length c', S ra] 24)).alloc (.cells Vd.toArray 32)).alloc (.cells Ve.toArray 32)).heap.size = w.heap.size + 1 + 1 + 1 := by simp
  rw [show (w.alloc (.cells #[.slice A fa.length c, .slice A' ba.length c', S ra] 24)).heap.size = w.heap.size + 1 by simp] at hy
  rw [show ((w.alloc (.cells #[.slice A fa.length c, .slice A' ba.length c', S ra] 24)).alloc (.cells Vd.toArray 32)).heap.size = w.heap.size + 1 + 1 by simp] at hz
  clear hT hA hA' hd he hdF hdT heF heT
  go_enter Tryd.func6, Tryd.ntmps6
  go_upto_region 1 with (fail)
  clear hl67 hl67'
  change Code.wp _ _ _ _ (((w.alloc (.cells #[.slice A fa.length c, .slice A' ba.length c', S ra] 24)).alloc (.cells Vd.toArray 32)).alloc (.cells Ve.toArray 32))
  generalize (((w.alloc (.cells #[.slice A fa.length c, .slice A' ba.length c', S ra] 24)).alloc (.cells Vd.toArray 32)).alloc (.cells Ve.toArray 32)) = w1 at *
  generalize hgx : w.heap.size = gx at *
  have HGX := Lib.hid hgx
  clear hgx
  have HX := Lib.hid hx
  have HY := Lib.hid hy
  have HZ := Lib.hid hz
  have HW := Lib.hid hb
  have HSZ := Lib.hid hsz
  have hg1 : gx + 1 + 1 < w1.heap.size := by omega
  have HLL : Hid (∀ (W : World) (G : Option Addr) (xs : List Value), Below w1.heap.size w1 W → Lies w gx G xs → Lies W W.heap.size G xs) := Lib.hid fun W G xs hW h => ((h.below HW.out).below (hW.mono (by omega))).wide (by have := hW.size; omega)
  have HEND : Hid (∀ W : World, Below w1.heap.size w1 W → Below gx w W) := Lib.hid fun W hW => HW.out.trans (hW.mono (by omega))
  have HTW : Hid (∀ W, Below w1.heap.size w1 W → Tabs W) := Lib.hid fun W hW => HT.out.below (by rw [HGX.out]; exact Nat.le_refl _) (HEND.out W hW)
  have HDW : Hid (∀ W, Below w1.heap.size w1 W → IsD dF dT dr dwf dwb W Vd) := Lib.hid fun W hW => HD.out.below (by rw [HGX.out]; exact HEND.out W hW)
  have HEW : Hid (∀ W, Below w1.heap.size w1 W → IsD eF eT er ewf ewb W Ve) := Lib.hid fun W hW => HE.out.below (by rw [HGX.out]; exact HEND.out W hW)
  have HCD : Hid (∀ W, Below w1.heap.size w1 W → ∀ j v, Vd[j]? = some v → W.cell? ((⟨gx + 1, 0, none⟩ : Addr).add j) = some v) := Lib.hid fun W hW => (HY.out.below hW (by omega)).reads
  have HCE : Hid (∀ W, Below w1.heap.size w1 W → ∀ j v, Ve[j]? = some v → W.cell? ((⟨gx + 1 + 1, 0, none⟩ : Addr).add j) = some v) := Lib.hid fun W hW => (HZ.out.below hW (by omega)).reads
  have HFX : Hid (∀ W : World, Below w1.heap.size w1 W → Calls Tryd.prog 13 #[] W fun e w' => e = .returned (.bool true) ∧ Below w1.heap.size w1 w') := Lib.hid fun W hW => (fixed_any W (HTW.out W hW)).mono fun e w' h => ⟨h.1, hW.trans (h.2.mono hW.size)⟩
  have HIMS : Hid (∀ W, Below w1.heap.size w1 W → ∀ x ∈ [(⟨A, c, fa, A', c', ba, ra⟩ : Im)], x.at_ W W.heap.size) := Lib.hid (by
    intro W hW x hx
    simp only [List.mem_cons, List.not_mem_nil, or_false] at hx
    subst hx
    exact ⟨HLL.out _ _ _ hW HA.out, HLL.out _ _ _ hW HA'.out⟩)
  have C0 : w1.cell? ⟨gx, 0, none⟩ = some _ := HX.out.cell 0
  have C1 : w1.cell? ⟨gx, 1, none⟩ = some _ := HX.out.cell 1
  have C2 : w1.cell? ⟨gx, 2, none⟩ = some _ := HX.out.cell 2
  clear hx hy hz hb hsz
  go_wp2_with fail
  change Calls _ _ _ (w1.alloc (.cells #[.slice A fa.length c, .slice A' ba.length c', S ra] 24)) _
  refine (great_any (w1.alloc (.cells #[.slice A fa.length c, .slice A' ba.length c', S ra] 24)) (some ⟨w1.heap.size, 0, none⟩) 1 [⟨A, c, fa, A', c', ba, ra⟩] (ims_at (Whole.made w1 24 #[.slice A fa.length c, .slice A' ba.length c', S ra])) (HIMS.out _ ((Below.refl _ _).alloc (Nat.le_refl _) _)) (by simp) (by simp only [total, Im.size, List.map_cons, List.map_nil, List.sum_cons, List.sum_nil]; omega)).mono ?_
  rintro e w2 ⟨rfl, hb2⟩
  have HB2 := Lib.hid (((Below.refl w1.heap.size w1).alloc (Nat.le_refl _) (.cells #[.slice A fa.length c, .slice A' ba.length c', S ra] 24)).trans (hb2.mono (by simp)))
  clear hb2 C0 C1 C2
  by_cases hgr : 4000 < total [(⟨A, c, fa, A', c', ba, ra⟩ : Im)]
  · rw [decide_eq_true hgr]
    clear hgr
    go_wp2_with (go_at_call 13; refine (HFX.out _ HB2.out).mono ?_; rintro e wz ⟨rfl, hbz⟩)
    go_ret
    exact ⟨rfl, by rw [HGX.out]; exact HEND.out _ hbz⟩
  · rw [decide_eq_false hgr]
    clear hgr
    have CW := Lib.hid ((HDW.out _ HB2.out).wide (by omega) HdF.out HdT.out)
    go_wp2_with (refine wpList_load_g rfl 32 (.tmp 4) rfl ⟨gx + 1, 0, none⟩ rfl Vd _ (HCD.out _ HB2.out) Tryd.underlying32 rfl NVd.out ?_)
    refine CW.out.mono ?_
    rintro e w3 ⟨rfl, hb3⟩
    have HB3 := Lib.hid (HB2.out.trans (hb3.mono HB2.out.size))
    clear hb3 CW HB2
    generalize decide (3000 < dr.length + wSize dwf + wSize dwb) = g1
    cases g1 with
    | true =>
      go_wp2_with (go_at_call 13; refine (HFX.out _ HB3.out).mono ?_; rintro e wz ⟨rfl, hbz⟩)
      go_ret
      exact ⟨rfl, by rw [HGX.out]; exact HEND.out _ hbz⟩
    | false =>
    have CW := Lib.hid ((HEW.out _ HB3.out).wide (by omega) HeF.out HeT.out)
    go_wp2_with (refine wpList_load_g rfl 32 (.tmp 5) rfl ⟨gx + 1 + 1, 0, none⟩ rfl Ve _ (HCE.out _ HB3.out) Tryd.underlying32 rfl NVe.out ?_)
    refine CW.out.mono ?_
    rintro e w4 ⟨rfl, hb4⟩
    have HB4 := Lib.hid (HB3.out.trans (hb4.mono HB3.out.size))
    clear hb4 CW HB3
    generalize decide (3000 < er.length + wSize ewf + wSize ewb) = g2
    cases g2 with
    | true =>
      go_wp2_with (go_at_call 13; refine (HFX.out _ HB4.out).mono ?_; rintro e wz ⟨rfl, hbz⟩)
      go_ret
      exact ⟨rfl, by rw [HGX.out]; exact HEND.out _ hbz⟩
    | false =>
      obtain ⟨qx, qf, qb, qr, HQ⟩ : ∃ qx qf qb qr, Hid (applyL fa ba ra dF dwf dwb dr dT = (qx, qf, qb, qr)) := ⟨_, _, _, _, Lib.hid rfl⟩
      obtain ⟨hqs, hqs'⟩ := applyL_size HQ.out
      have lq := length_le_sizeOf qf
      have lq' := length_le_sizeOf qb
      obtain ⟨jx, jF, jT, jr, jf, jb, HJ⟩ : ∃ jx jF jT jr jf jb, Hid (joinD dF dT dwf dwb eF eT er ewf ewb = (jx, jF, jT, jr, jf, jb)) := ⟨_, _, _, _, _, _, Lib.hid rfl⟩
      obtain ⟨hjF, hjT, hjf, hjb⟩ := joinD_size HdF.out HeF.out HeT.out HJ.out
      have HJF := Lib.hid hjF
      have HJT := Lib.hid hjT
      have lj := wSize_len jf
      have lj' := wSize_len jb
      clear hjF hjT
      have C0 : w4.cell? ⟨gx, 0, none⟩ = some _ := (HX.out.below HB4.out (by omega)).cell 0
      have C1 : w4.cell? ⟨gx, 1, none⟩ = some _ := (HX.out.below HB4.out (by omega)).cell 1
      have C2 : w4.cell? ⟨gx, 2, none⟩ = some _ := (HX.out.below HB4.out (by omega)).cell 2
      have CA5 := Lib.hid ((HDW.out _ HB4.out).apply (HTW.out _ HB4.out) HdF.out HdT.out A A' c c' fa ba ra (HLL.out _ _ _ HB4.out HA.out) (HLL.out _ _ _ HB4.out HA'.out) (by omega) qx qf qb qr HQ.out)
      go_wp2_with (refine wpList_load_at rfl 32 (.tmp 4) rfl ⟨gx + 1, 0, none⟩ rfl Vd _ (HCD.out _ HB4.out) Tryd.underlying32 rfl NVd.out ?_)
      refine CA5.out.mono ?_
      rintro e w5 ⟨P5, k5, P5', k5', rfl, HP5, hb5⟩
      have HB5 := Lib.hid (HB4.out.trans (hb5.mono HB4.out.size))
      clear hb5 C0 C1 C2 CA5
      have hb5y := (Below.refl w5.heap.size w5).alloc (Nat.le_refl _) (.cells #[.slice P5 qf.length k5, .slice P5' qb.length k5', S qr] 24)
      have hX5 := Whole.made w5 24 #[.slice P5 qf.length k5, .slice P5' qb.length k5', S qr]
      have hb5x := HB5.out.alloc HB5.out.size (.cells #[.slice P5 qf.length k5, .slice P5' qb.length k5', S qr] 24)
      go_upto_region 4 with (fail)
      change Code.wp _ _ _ _ (w5.alloc (.cells #[.slice P5 qf.length k5, .slice P5' qb.length k5', S qr] 24))
      have HP5a := Lib.hid (Lies.block' HP5.out.1 (.cells #[.slice P5 qf.length k5, .slice P5' qb.length k5', S qr] 24))
      have HP5b := Lib.hid (Lies.block' HP5.out.2 (.cells #[.slice P5 qf.length k5, .slice P5' qb.length k5', S qr] 24))
      clear hb5y
      generalize w5.alloc (.cells #[.slice P5 qf.length k5, .slice P5' qb.length k5', S qr] 24) = w5x at *
      generalize w5.heap.size = g5 at *
      clear HP5 HB5
      have HB5x := Lib.hid hb5x
      have HX5 := Lib.hid hX5
      clear hb5x hX5
      have C0 : w5x.cell? ⟨gx, 0, none⟩ = some _ := (HX.out.below HB5x.out (by omega)).cell 0
      have C1 : w5x.cell? ⟨gx, 1, none⟩ = some _ := (HX.out.below HB5x.out (by omega)).cell 1
      have C2 : w5x.cell? ⟨gx, 2, none⟩ = some _ := (HX.out.below HB5x.out (by omega)).cell 2
      have CA6 := Lib.hid ((HDW.out _ HB5x.out).rapply HdF.out HdT.out A A' c c' fa ba ra (HLL.out _ _ _ HB5x.out HA.out) (HLL.out _ _ _ HB5x.out HA'.out) (by omega) qx qf qb qr HQ.out)
      go_wp2_with (refine wpList_load_at rfl 32 (.tmp 4) rfl ⟨gx + 1, 0, none⟩ rfl Vd _ (HCD.out _ HB5x.out) Tryd.underlying32 rfl NVd.out ?_)
      refine CA6.out.mono ?_
      rintro e w6 ⟨P6, k6, P6', k6', rfl, HP6, hb6⟩
      have HB6 := Lib.hid (HB5x.out.trans (hb6.mono HB5x.out.size))
      replace HX5 := Lib.hid (HX5.out.below hb6 HX5.out.lt)
      replace HP5a := Lib.hid (Lies.wide (Lies.below HP5a.out hb6) hb6.size)
      replace HP5b := Lib.hid (Lies.wide (Lies.below HP5b.out hb6) hb6.size)
      clear hb6 C0 C1 C2 CA6
      have hb6y := (Below.refl w6.heap.size w6).alloc (Nat.le_refl _) (.cells #[.slice P6 qf.length k6, .slice P6' qb.length k6', S qr] 24)
      have hX6 := Whole.made w6 24 #[.slice P6 qf.length k6, .slice P6' qb.length k6', S qr]
      have hb6x := HB6.out.alloc HB6.out.size (.cells #[.slice P6 qf.length k6, .slice P6' qb.length k6', S qr] 24)
      go_upto_region 5 with (fail)
      change Code.wp _ _ _ _ (w6.alloc (.cells #[.slice P6 qf.length k6, .slice P6' qb.length k6', S qr] 24))
      have HP6a := Lib.hid (Lies.block' HP6.out.1 (.cells #[.slice P6 qf.length k6, .slice P6' qb.length k6', S qr] 24))
      have HP6b := Lib.hid (Lies.block' HP6.out.2 (.cells #[.slice P6 qf.length k6, .slice P6' qb.length k6', S qr] 24))
      replace HX5 := Lib.hid (HX5.out.below hb6y HX5.out.lt)
      replace HP5a := Lib.hid (Lies.wide (Lies.below HP5a.out hb6y) hb6y.size)
      replace HP5b := Lib.hid (Lies.wide (Lies.below HP5b.out hb6y) hb6y.size)
      clear hb6y
      generalize w6.alloc (.cells #[.slice P6 qf.length k6, .slice P6' qb.length k6', S qr] 24) = w6x at *
      generalize w6.heap.size = g6 at *
      clear HP6 HB6
      have HB6x := Lib.hid hb6x
      have HX6 := Lib.hid hX6
      clear hb6x hX6
      clear HQ
      have CJ7 := Lib.hid (join_any w6x dF dT dr dwf dwb Vd eF eT er ewf ewb Ve (HTW.out _ HB6x.out) (HDW.out _ HB6x.out) (HEW.out _ HB6x.out) HdF.out HdT.out HeF.out HeT.out (by omega) (by omega))
      rw [HJ.out] at CJ7
      go_wp2_with (first
        | (refine wpList_load_at rfl 32 (.tmp 4) rfl ⟨gx + 1, 0, none⟩ rfl Vd _ (HCD.out _ HB6x.out) Tryd.underlying32 rfl NVd.out ?_)
        | (refine wpList_load_at rfl 32 (.tmp 5) rfl ⟨gx + 1 + 1, 0, none⟩ rfl Ve _ (HCE.out _ HB6x.out) Tryd.underlying32 rfl NVe.out ?_))
      refine CJ7.out.mono ?_
      rintro e w7 ⟨⟨V7, rfl, i7⟩, hb7⟩
      have I7 := Lib.hid i7
      have HB7 := Lib.hid (HB6x.out.trans (hb7.mono HB6x.out.size))
      have L7 := Lib.hid (I7.out.length HJF.out HJT.out)
      have O7 := Lib.hid I7.out.one
      have Z7 := Lib.hid (delta_zero w7)
      have F7 := Lib.hid (delta_fits L7.out)
      have N7 := Lib.hid (delta_info L7.out)
      replace HX5 := Lib.hid (HX5.out.below hb7 HX5.out.lt)
      replace HP5a := Lib.hid (Lies.wide (Lies.below HP5a.out hb7) hb7.size)
      replace HP5b := Lib.hid (Lies.wide (Lies.below HP5b.out hb7) hb7.size)
      replace HX6 := Lib.hid (HX6.out.below hb7 HX6.out.lt)
      replace HP6a := Lib.hid (Lies.wide (Lies.below HP6a.out hb7) hb7.size)
      replace HP6b := Lib.hid (Lies.wide (Lies.below HP6b.out hb7) hb7.size)
      clear hb7 i7 CJ7
      go_upto_region 6 with (refine wpList_store_at rfl 32 (.tmp 11) (.tmp 43) rfl rfl w7.heap.size 0 rfl V7 rfl N7.out Tryd.zeroCells32.toList 32 Z7.out F7.out O7.out ?_; intro w7x M7 G7)
      obtain ⟨n7, b7⟩ := dboxed L7.out M7.out G7.out
      have HB7x := Lib.hid (HB7.out.trans (b7.mono HB7.out.size))
      have J7 := Lib.hid (I7.out.below b7)
      have R7 := Lib.hid n7
      replace HX5 := Lib.hid (HX5.out.below b7 HX5.out.lt)
      replace HP5a := Lib.hid (Lies.wide (Lies.below HP5a.out b7) b7.size)
      replace HP5b := Lib.hid (Lies.wide (Lies.below HP5b.out b7) b7.size)
      replace HX6 := Lib.hid (HX6.out.below b7 HX6.out.lt)
      replace HP6a := Lib.hid (Lies.wide (Lies.below HP6a.out b7) b7.size)
      replace HP6b := Lib.hid (Lies.wide (Lies.below HP6b.out b7) b7.size)
      generalize w7.heap.size = g7 at *
      clear M7 G7 Z7 F7 I7 n7 b7 HB7
      have CJ8 := Lib.hid (rjoin_any w7x dF dT dr dwf dwb Vd eF eT er ewf ewb Ve (HDW.out _ HB7x.out) (HEW.out _ HB7x.out) HdF.out HdT.out HeF.out HeT.out (by omega) (by omega))
      rw [HJ.out] at CJ8
      go_wp2_with (first
        | (refine wpList_load_at rfl 32 (.tmp 4) rfl ⟨gx + 1, 0, none⟩ rfl Vd _ (HCD.out _ HB7x.out) Tryd.underlying32 rfl NVd.out ?_)
        | (refine wpList_load_at rfl 32 (.tmp 5) rfl ⟨gx + 1 + 1, 0, none⟩ rfl Ve _ (HCE.out _ HB7x.out) Tryd.underlying32 rfl NVe.out ?_))
      refine CJ8.out.mono ?_
      rintro e w8 ⟨⟨V8, rfl, i8⟩, hb8⟩
      have I8 := Lib.hid i8
      have HB8 := Lib.hid (HB7x.out.trans (hb8.mono HB7x.out.size))
      have L8 := Lib.hid (I8.out.length HJF.out HJT.out)
      have O8 := Lib.hid I8.out.one
      have Z8 := Lib.hid (delta_zero w8)
      have F8 := Lib.hid (delta_fits L8.out)
      have N8 := Lib.hid (delta_info L8.out)
      replace HX5 := Lib.hid (HX5.out.below hb8 HX5.out.lt)
      replace HP5a := Lib.hid (Lies.wide (Lies.below HP5a.out hb8) hb8.size)
      replace HP5b := Lib.hid (Lies.wide (Lies.below HP5b.out hb8) hb8.size)
      replace HX6 := Lib.hid (HX6.out.below hb8 HX6.out.lt)
      replace HP6a := Lib.hid (Lies.wide (Lies.below HP6a.out hb8) hb8.size)
      replace HP6b := Lib.hid (Lies.wide (Lies.below HP6b.out hb8) hb8.size)
      replace R7 := Lib.hid (R7.out.below hb8 R7.out.lt)
      replace J7 := Lib.hid (J7.out.below hb8)
      clear hb8 i8 CJ8
      go_upto_region 7 with (refine wpList_store_at rfl 32 (.tmp 13) (.tmp 49) rfl rfl w8.heap.size 0 rfl V8 rfl N8.out Tryd.zeroCells32.toList 32 Z8.out F8.out O8.out ?_; intro w8x M8 G8)
      obtain ⟨n8, b8⟩ := dboxed L8.out M8.out G8.out
      have HB8x := Lib.hid (HB8.out.trans (b8.mono HB8.out.size))
      have J8 := Lib.hid (I8.out.below b8)
      have R8 := Lib.hid n8
      replace HX5 := Lib.hid (HX5.out.below b8 HX5.out.lt)
      replace HP5a := Lib.hid (Lies.wide (Lies.below HP5a.out b8) b8.size)
      replace HP5b := Lib.hid (Lies.wide (Lies.below HP5b.out b8) b8.size)
      replace HX6 := Lib.hid (HX6.out.below b8 HX6.out.lt)
      replace HP6a := Lib.hid (Lies.wide (Lies.below HP6a.out b8) b8.size)
      replace HP6b := Lib.hid (Lies.wide (Lies.below HP6b.out b8) b8.size)
      replace R7 := Lib.hid (R7.out.below b8 R7.out.lt)
      replace J7 := Lib.hid (J7.out.below b8)
      generalize w8.heap.size = g8 at *
      clear M8 G8 Z8 F8 I8 n8 b8 HB8
      go_wp2_with fail
      refine (fixed_any w8x (HTW.out _ HB8x.out)).mono ?_
      rintro e w9 ⟨rfl, hb9⟩
      replace HX5 := Lib.hid (HX5.out.below hb9 HX5.out.lt)
      replace HP5a := Lib.hid (Lies.wide (Lies.below HP5a.out hb9) hb9.size)
      replace HP5b := Lib.hid (Lies.wide (Lies.below HP5b.out hb9) hb9.size)
      replace HX6 := Lib.hid (HX6.out.below hb9 HX6.out.lt)
      replace HP6a := Lib.hid (Lies.wide (Lies.below HP6a.out hb9) hb9.size)
      replace HP6b := Lib.hid (Lies.wide (Lies.below HP6b.out hb9) hb9.size)
      replace R7 := Lib.hid (R7.out.below hb9 R7.out.lt)
      replace J7 := Lib.hid (J7.out.below hb9)
      replace R8 := Lib.hid (R8.out.below hb9 R8.out.lt)
      replace J8 := Lib.hid (J8.out.below hb9)
      have HB9 := Lib.hid (HB8x.out.trans (hb9.mono HB8x.out.size))
      clear hb9 HB8x
      have x0 : w9.cell? ⟨g5, 0, none⟩ = some (Value.slice P5 qf.length k5) := HX5.out.cell 0
      have x1 : w9.cell? ⟨g5, 1, none⟩ = some (Value.slice P5' qb.length k5') := HX5.out.cell 1
      have x2 : w9.cell? ⟨g5, 2, none⟩ = some (S qr) := HX5.out.cell 2
      have y0 : w9.cell? ⟨g6, 0, none⟩ = some (Value.slice P6 qf.length k6) := HX6.out.cell 0
      have y1 : w9.cell? ⟨g6, 1, none⟩ = some (Value.slice P6' qb.length k6') := HX6.out.cell 1
      have y2 : w9.cell? ⟨g6, 2, none⟩ = some (S qr) := HX6.out.cell 2
      go_wp2_with fail
      refine (images_any w9 P5 P5' P6 P6' k5 k5' k6 k6' qf qb qf qb qr qr HP5a.out HP5b.out HP6a.out HP6b.out (by omega) (by omega) (by omega) (by omega)).mono ?_
      rintro e w10 ⟨rfl, hb10⟩
      rw [show imgEq qf qb qr qf qb qr = true by simp [imgEq]]
      clear x0 x1 x2 y0 y1 y2
      replace HX5 := Lib.hid (HX5.out.below hb10 HX5.out.lt)
      replace HP5a := Lib.hid (Lies.wide (Lies.below HP5a.out hb10) hb10.size)
      replace HP5b := Lib.hid (Lies.wide (Lies.below HP5b.out hb10) hb10.size)
      replace HX6 := Lib.hid (HX6.out.below hb10 HX6.out.lt)
      replace HP6a := Lib.hid (Lies.wide (Lies.below HP6a.out hb10) hb10.size)
      replace HP6b := Lib.hid (Lies.wide (Lies.below HP6b.out hb10) hb10.size)
      replace R7 := Lib.hid (R7.out.below hb10 R7.out.lt)
      replace J7 := Lib.hid (J7.out.below hb10)
      replace R8 := Lib.hid (R8.out.below hb10 R8.out.lt)
      replace J8 := Lib.hid (J8.out.below hb10)
      have HB10 := Lib.hid (HB9.out.trans (hb10.mono HB9.out.size))
      clear hb10 HB9
      have R7' := Lib.hid R7.out.reads
      have R8' := Lib.hid R8.out.reads
      have CS := Lib.hid (J7.out.same J8.out HJF.out HJT.out (by omega) (by omega))
      go_wp2_with (first
        | (refine wpList_load_g rfl 32 (.tmp 11) rfl ⟨g7, 0, none⟩ rfl V7 _ R7'.out Tryd.underlying32 rfl N7.out ?_)
        | (refine wpList_load_g rfl 32 (.tmp 13) rfl ⟨g8, 0, none⟩ rfl V8 _ R8'.out Tryd.underlying32 rfl N8.out ?_))
      refine CS.out.mono ?_
      rintro e w11 ⟨rfl, hb11⟩
      have HB11 := Lib.hid (HB10.out.trans (hb11.mono HB10.out.size))
      clear hb11
      go_wp2_with fail
      go_ret
      exact ⟨rfl, by rw [HGX.out]; exact HEND.out _ HB11.out⟩
end Go.Proofs.YtecamaceainfpaaDoor
