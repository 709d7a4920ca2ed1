/-
  Walk: hibernacleref17.Of. (Printed by gen_geomd.py.)
-/
import Derived.Test.YtmdciljpcnokcaaGreatDoorYzgC
namespace Go.Proofs.YtmdciljpcnokcaaGreatDoor
open Go.RowKit

set_option maxRecDepth 100000 in
set_option maxHeartbeats 2000000 in
theorem rgeomOf_any (w : World) (A : Option Addr) (c : Nat) (v : List (List UInt8)) (hA : Strs w w.heap.size A v) (hl : v.length ≤ 274877906944) :
    Calls Tryz.prog 57 #[.slice A v.length c] w fun e w' => e = .returned (.tuple #[.agg (geoV (geomL v)).toArray, .int .i64 (geomE v)]) ∧ Below w.heap.size w w' := by
  have hz := Whole.made w 117 #[.int .i64 0, .int .i64 0, .int .i64 0, .int .i64 0, .int .i64 0, .int .i64 0]
  have hb : Below w.heap.size w (w.alloc (.cells #[.int .i64 0, .int .i64 0, .int .i64 0, .int .i64 0, .int .i64 0, .int .i64 0] 117)) := (Below.refl _ _).alloc (Nat.le_refl _) _
  have HA0 := Lib.hid (hA.below hb)
  clear hA
  go_enter Tryz.func57, Tryz.ntmps57
  go_upto_region 1 with (fail)
  change Code.wp _ _ _ _ (w.alloc (.cells #[.int .i64 0, .int .i64 0, .int .i64 0, .int .i64 0, .int .i64 0, .int .i64 0] 117))
  generalize (w.alloc (.cells #[.int .i64 0, .int .i64 0, .int .i64 0, .int .i64 0, .int .i64 0, .int .i64 0] 117)) = w1 at *
  generalize hgx : w.heap.size = gx at *
  have HGX := Lib.hid hgx
  have HZ := Lib.hid hz
  have HW := Lib.hid hb
  have hgl : gx < w1.heap.size := hz.lt
  clear hgx hb hz
  have HFA : Hid (∀ W, Below w1.heap.size w1 W → Strs W W.heap.size A v) := Lib.hid fun W hW => (Lies.below HA0.out (hW.mono (by omega))).wide (by have := hW.size; omega)
  have HCZ : Hid (∀ W, Below w1.heap.size w1 W → Whole W gx 117 (geoV geo0).toArray) := Lib.hid fun W hW => HZ.out.below hW (by omega)
  have HNO : Hid (geomB v = false → geomE v = 3 ∧ geomL v = geo0) := Lib.hid fun h => by unfold geomE geomL; rw [h]; exact ⟨rfl, rfl⟩
  by_cases h3 : v.length < 3
  · have HG := Lib.hid (show geomB v = false by unfold geomB; rw [decide_eq_false (by omega : ¬ 16 ≤ v.length)]; simp)
    have d1 : decide ((v.length : Int) < 3) = true := decide_eq_true (by omega)
    have d1' : decide (v.length < 3) = true := decide_eq_true h3
    clear h3
    go_wp2_with (first | (refine wpList_store_all rfl 117 (.tmp 2) (.tmp 12) rfl rfl gx rfl (geoV geo0) rfl Tryz.sizeGeo (geoV geo0) 117 (HCZ.out _ (Below.refl w1.heap.size w1)) rfl (ints_one _) ?_; intro w5 HS5 HG5))
    have q0 := HS5.out.cell 0
    have q1 := HS5.out.cell 1
    have q2 := HS5.out.cell 2
    have q3 := HS5.out.cell 3
    have q4 := HS5.out.cell 4
    have q5 := HS5.out.cell 5
    refine bodyPost_ret (v := .tuple #[.agg #[.int .i64 0, .int .i64 0, .int .i64 0, .int .i64 0, .int .i64 0, .int .i64 0], .int .i64 3]) (by simp [results, Tryz.results57, go_sem, q0, q1, q2, q3, q4, q5, geoV, geo0]) rfl ⟨by rw [(HNO.out HG.out).1, (HNO.out HG.out).2]; rfl, ?_⟩
    rw [HGX.out]
    exact below_grown (HW.out.trans ((Below.refl w1.heap.size w1).mono (by omega))) HG5.out (Nat.le_trans (Nat.le_of_lt hgl) (Below.refl w1.heap.size w1).size) (Nat.le_refl _)
  have d1 : decide ((v.length : Int) < 3) = false := decide_eq_false (by omega)
  have d1' : decide (v.length < 3) = false := decide_eq_false h3
  go_wp2_with fail
  clear d1 d1'
  go_loopw [15] (fun i wr => ∃ k : Nat, k ≤ v.length ∧ i = .int .i64 k ∧ Hid ((v.take k).all is128 = true) ∧ Hid (Below w1.heap.size w1 wr)) (fun i _ => v.length - (intOf i).toNat)
  case atStart => exact ⟨0, by omega, rfl, Lib.hid rfl, Lib.hid (Below.refl _ _)⟩
  case round =>
    obtain ⟨k, hk, rfl, HN, HV⟩ := hrel
    by_cases hlt : k < v.length
    · obtain ⟨x, hx⟩ := get_some hlt
      have HY := Lib.hid (@all_on _ is128 v k x hx HN.out)
      have HNO := Lib.hid (@all_bad _ is128 v k x hx)
      obtain ⟨ad, hadr, had, hc⟩ := Strs.at' (HFA.out wr HV.out) hlt
      have hgd : v.getD k [] = x := by rw [List.getD_eq_getElem?_getD, hx]; rfl
      rw [hgd] at hc
      rw [hadr]
      have b0 : wr.cell? (ad.add k) = _ := hc
      clear hc hx hgd
      have i0 : (0 : Int) ≤ (k : Int) := by omega
      have i1 : (k : Int) < (v.length : Int) := by omega
      by_cases h1 : x.length = 128
      · have HQ := Lib.hid (HY.out (by unfold is128; simp [h1]))
        have d : (x.length == 128) = true := beq_iff_eq.2 h1
        have d' : ((x.length : Int) != 128) = false := by simp [h1]
        have d'' : (x.length != 128) = false := by simp [h1]
        clear h1 HY HNO
        go_wp2_with fail
        go_roundw
        case rel =>
          have R : ∃ k' : Nat, k' ≤ v.length ∧ Value.int .i64 ((k : Int) + 1) = .int .i64 k' ∧ Hid ((v.take k').all is128 = true) ∧ Hid (Below w1.heap.size w1 wr) := ⟨k + 1, by omega, by go_num, HQ, HV⟩
          first | exact R | ((repeat apply Exists.intro); exact ⟨R, rfl⟩)
        case measure => simp [intOf]; omega
      · have HQ := Lib.hid (HNO.out (by unfold is128; simp [h1]))
        have d' : ((x.length : Int) != 128) = true := by simp; omega
        have d'' : (x.length != 128) = true := by simp [h1]
        clear h1 HY HNO
        have HG := Lib.hid (show geomB v = false by unfold geomB; rw [HQ.out]; rfl)
        go_wp2_with (first | (refine wpList_store_all rfl 117 (.tmp 2) (.tmp 22) rfl rfl gx rfl (geoV geo0) rfl Tryz.sizeGeo (geoV geo0) 117 (HCZ.out _ HV.out) rfl (ints_one _) ?_; intro w5 HS5 HG5))
        have q0 := HS5.out.cell 0
        have q1 := HS5.out.cell 1
        have q2 := HS5.out.cell 2
        have q3 := HS5.out.cell 3
        have q4 := HS5.out.cell 4
        have q5 := HS5.out.cell 5
        refine bodyPost_ret (v := .tuple #[.agg #[.int .i64 0, .int .i64 0, .int .i64 0, .int .i64 0, .int .i64 0, .int .i64 0], .int .i64 3]) (by simp [results, Tryz.results57, go_sem, q0, q1, q2, q3, q4, q5, geoV, geo0]) rfl ⟨by rw [(HNO.out HG.out).1, (HNO.out HG.out).2]; rfl, ?_⟩
        rw [HGX.out]
        exact below_grown (HW.out.trans (HV.out.mono (by omega))) HG5.out (Nat.le_trans (Nat.le_of_lt hgl) HV.out.size) (Nat.le_refl _)
    · obtain rfl : k = v.length := by omega
      have hd : decide (v.length < v.length) = false := by simp
      rw [List.take_of_length_le (Nat.le_refl _)] at HN
      have HAL : Hid (v.all is128 = true) := HN
      clear HN hd
      have HVR := Lib.hid HV.out.size
      obtain ⟨ad, hadr, had, hc0⟩ := Strs.at' (HFA.out wr HV.out) (show 0 < v.length by omega)
      subst hadr
      have hc2 : wr.cell? ⟨ad.block, ad.off + 2, none⟩ = some (S (v.getD 2 [])) := by
        obtain ⟨ad', e, _, h⟩ := Strs.at' (HFA.out wr HV.out) (show 2 < v.length by omega)
        injection e with e; subst e
        rw [← h]; congr 1
      have hc0' : wr.cell? ad = some (S (v.getD 0 [])) := by rw [← hc0, Addr.add_zero']
      have HV0L : Hid ((v.getD 0 []).length = 128) := Lib.hid (by
        rw [List.getD_eq_getElem?_getD, List.getElem?_eq_getElem (by omega)]
        exact all_128 HAL.out _ (List.getElem_mem _))
      have HV2L : Hid ((v.getD 2 []).length = 128) := Lib.hid (by
        rw [List.getD_eq_getElem?_getD, List.getElem?_eq_getElem (by omega)]
        exact all_128 HAL.out _ (List.getElem_mem _))
      have HGB : Hid (geomB v = (decide (16 ≤ v.length) && decide (planE v.length (inoL v) = 0) && decide (v.getD 0 [] = headL v.length (inoL v)) && mapAll (v.getD 2 []) (3 + ((inoL v : Int) + 1) / 2) v.length 1024)) := Lib.hid (by
        unfold geomB
        rw [HAL.out]
        simp)
      have HGL : Hid (geomB v = true → geomE v = 0 ∧ geomL v = planL v.length (inoL v)) := Lib.hid fun h => by unfold geomE geomL; rw [h]; exact ⟨rfl, rfl⟩
      have hgi : inoL v < 65536 := by
        unfold inoL getL
        have h := getF_lt ((((v.getD 0 []).drop 6).take 2).take 8)
        have h2 : 256 ^ ((((v.getD 0 []).drop 6).take 2).take 8).length ≤ 256 ^ 2 := Nat.pow_le_pow_right (by omega) (by simp; omega)
        omega
      have HX2 := Lib.hid (run_cut_S (v.getD 0 []) .i64 .i64 6 8 6 8 rfl rfl (by omega) (by rw [HV0L.out]; omega))
      have CG2 : Hid (∀ W, Calls Tryz.prog 94 #[S (((v.getD 0 []).drop 6).take 2)] W fun e w' => e = .returned (.int .u64 (inoL v : Int)) ∧ W = w') := Lib.hid fun W => (rget01_any W (((v.getD 0 []).drop 6).take 2) (by simp; omega)).mono fun e w' h => ⟨h.1, h.2.symm⟩
      obtain ⟨g0, g1, g2, g3, g4, g5, hpl⟩ := planL_six (v.length : Int) (inoL v)
      have HPL := Lib.hid hpl
      have CPL : Hid (∀ W, Calls Tryz.prog 53 #[.int .i64 (v.length : Int), .int .i64 (inoL v : Int)] W fun e w' => e = .returned (.tuple #[.agg #[.int .i64 g0, .int .i64 g1, .int .i64 g2, .int .i64 g3, .int .i64 g4, .int .i64 g5], .int .i64 (planE v.length (inoL v))]) ∧ Below W.heap.size W w') := Lib.hid fun W => by
        have := rplan_any W v.length (inoL v)
        rw [hpl] at this
        exact this
      clear hpl hc0
      have h0n : 0 < v.length := by omega
      have h2n : (2 : Int) < (v.length : Int) := by omega
      generalize hpe : planE v.length (inoL v) = pe at *
      have HPE := Lib.hid hpe
      generalize hgin : inoL v = gi at *
      have HGIN := Lib.hid hgin
      generalize hv0 : v.getD 0 [] = v0 at *
      generalize hv2 : v.getD 2 [] = v2 at *
      generalize hnn : v.length = gb at *
      clear hpe hgin hv0 hv2 hnn
      have HC0 : Hid (∀ W, Below wr.heap.size wr W → W.cell? ad = some (S v0)) := Lib.hid fun W hW => (hW.cell had).trans hc0'
      have HC2 : Hid (∀ W, Below wr.heap.size wr W → W.cell? ⟨ad.block, ad.off + 2, none⟩ = some (S v2)) := Lib.hid fun W hW => (hW.cell (p := ⟨ad.block, ad.off + 2, none⟩) had).trans hc2
      have HV2 : Hid (IntKind.i64.wrap (gi : Int) = (gi : Int)) := Lib.hid (IntWalk.i64_in _ (by omega))
      have wv := HV2.out
      have xc := HX2.out
      clear hc2
      go_upto_region 10 with (first
        | (go_at_call 94; refine (CG2.out _).mono ?_; rintro e w3 ⟨rfl, rfl⟩)
        | (go_at_call 53; refine (CPL.out _).mono ?_; rintro e w4 ⟨rfl, hb4⟩)
        | (refine wpList_fresh rfl rfl 117 6 (.tmp 34) rfl rfl rfl rfl [.int .i64 g0, .int .i64 g1, .int .i64 g2, .int .i64 g3, .int .i64 g4, .int .i64 g5] rfl rfl _ Tryz.infoGeo rfl (ints_one [g0, g1, g2, g3, g4, g5]) ?_))
      change Code.wp _ _ _ _ (w4.alloc (.cells #[.int .i64 g0, .int .i64 g1, .int .i64 g2, .int .i64 g3, .int .i64 g4, .int .i64 g5] 117))
      clear xc wv hc0'
      have b17 := Whole.made w4 117 #[.int .i64 g0, .int .i64 g1, .int .i64 g2, .int .i64 g3, .int .i64 g4, .int .i64 g5]
      have hB : Below wr.heap.size wr (w4.alloc (.cells #[.int .i64 g0, .int .i64 g1, .int .i64 g2, .int .i64 g3, .int .i64 g4, .int .i64 g5] 117)) := hb4.alloc hb4.size _
      clear hb4
      generalize w4.alloc (.cells #[.int .i64 g0, .int .i64 g1, .int .i64 g2, .int .i64 g3, .int .i64 g4, .int .i64 g5] 117) = w9 at *
      generalize w4.heap.size = p6 at *
      have HB9 := Lib.hid hB
      have HP6 := Lib.hid b17
      have hp6 := b17.lt
      have HV9 := Lib.hid (HV.out.trans (hB.mono HVR.out))
      have hz9 := HV9.out.size
      clear hB b17 CG2 CPL HX2 HV2
      by_cases hpe : pe = 0
      · have hpz : planE gb gi = 0 := by rw [HPE.out]; exact hpe
        obtain ⟨z1, z2, z3, z4, z5⟩ := planE_zero.1 hpz
        have hq := HPL.out
        rw [planL, if_pos hpz] at hq
        simp only [List.cons.injEq, and_true] at hq
        obtain ⟨rfl, rfl, rfl, rfl, rfl, rfl⟩ := hq
        have HPZ := Lib.hid hpz
        have HG16 : Hid (decide (16 ≤ gb) = true) := Lib.hid (decide_eq_true (by omega))
        subst hpe
        clear hpz HPL HPE
        obtain ⟨dd, hdd⟩ : ∃ z : Int, 3 + ((gi : Int) + 1) / 2 = z := ⟨_, rfl⟩
        have HDD := Lib.hid hdd
        rw [hdd] at HP6
        have hd0 : 0 ≤ dd ∧ dd ≤ 300 := by omega
        obtain ⟨hd01, hd02⟩ := hd0
        have hdb : dd < (gb : Int) := by omega
        clear hdd
        have HK : Hid (∀ W, Below w9.heap.size w9 W → W.cell? ad = some (S v0) ∧ W.cell? ⟨p6, 0, none⟩ = some (.int .i64 (gb : Int)) ∧ W.cell? ⟨p6, 1, none⟩ = some (.int .i64 (gi : Int)) ∧ W.cell? ⟨p6, 2, none⟩ = some (.int .i64 1) ∧ W.cell? ⟨p6, 3, none⟩ = some (.int .i64 2) ∧ W.cell? ⟨p6, 4, none⟩ = some (.int .i64 3) ∧ W.cell? ⟨p6, 5, none⟩ = some (.int .i64 dd)) := Lib.hid fun W hW => ⟨HC0.out W (HB9.out.trans (hW.mono HB9.out.size)), (HP6.out.below hW hp6).cell 0, (HP6.out.below hW hp6).cell 1, (HP6.out.below hW hp6).cell 2, (HP6.out.below hW hp6).cell 3, (HP6.out.below hW hp6).cell 4, (HP6.out.below hW hp6).cell 5⟩
        have CF : Hid (∀ W, Calls Tryz.prog 54 #[.agg #[.int .i64 (gb : Int), .int .i64 (gi : Int), .int .i64 1, .int .i64 2, .int .i64 3, .int .i64 dd]] W fun e w' => e = .returned (S (headL gb gi)) ∧ Below W.heap.size W w') := Lib.hid fun W => head_any W gb gi dd (by omega) (by omega)
        have BB := Lib.hid (Below.refl w9.heap.size w9).drew
        generalize hh0 : headL gb gi = h0 at *
        have HH0 := Lib.hid hh0
        clear hh0
        by_cases hv : v0 = h0
        · subst hv
          have hve : (v0 != v0) = false := by simp
          go_region_held3 (fun W => W.cell? ad = some (S v0) ∧ W.cell? ⟨p6, 0, none⟩ = some (.int .i64 (gb : Int)) ∧ W.cell? ⟨p6, 1, none⟩ = some (.int .i64 (gi : Int)) ∧ W.cell? ⟨p6, 2, none⟩ = some (.int .i64 1) ∧ W.cell? ⟨p6, 3, none⟩ = some (.int .i64 2) ∧ W.cell? ⟨p6, 4, none⟩ = some (.int .i64 3) ∧ W.cell? ⟨p6, 5, none⟩ = some (.int .i64 dd))
            (first
              | (exact HK.out _ (Below.refl _ _))
              | (exact HK.out _ BB.out))
            (first
              | (go_at_call 54; (with_reducible refine (CF.out _).mono ?_); rintro e wx ⟨rfl, hbl⟩; have BB' := Lib.hid (BB.out.trans (hbl.mono BB.out.size)); clear BB hbl; have BB := BB'; clear BB'))
          go_wp2_with fail
          have HVB := Lib.hid (HV9.out.trans (BB.out.mono hz9))
          clear hve HK CF
          obtain ⟨wo, hwo⟩ : ∃ wo : World, wo = wx := ⟨_, rfl⟩
          have e20 := HC2.out wx (HB9.out.trans (BB.out.mono HB9.out.size))
          have p60 : wx.cell? ⟨p6, 0, none⟩ = some (.int .i64 (gb : Int)) := (HP6.out.below BB.out hp6).cell 0
          have p65 : wx.cell? ⟨p6, 5, none⟩ = some (.int .i64 dd) := (HP6.out.below BB.out hp6).cell 5
          have HCF := Lib.hid (HP6.out.below BB.out hp6)
          have CB := fun i (hi : i < 1024) => Lib.hid (rbit_any wx v2 i HV2L.out hi)
          have HCB := Lib.hid CB
          clear CB hwo
          go_loop [8] (fun i => ∃ k : Nat, k ≤ 1024 ∧ i = .int .i64 (k : Int) ∧ Hid (mapAll v2 dd gb k = true)) (fun i => 1024 - (intOf i).toNat)
          case atStart => exact ⟨0, by omega, rfl, Lib.hid rfl⟩
          case round =>
            clear hk
            obtain ⟨k, hk, rfl, HM⟩ := hrel
            by_cases hlt : k < 1024
            · have CB := HCB.out k hlt
              have HMS := Lib.hid (mapAll_succ v2 dd gb k)
              have HMD : Hid (mapB v2 dd gb k = (!(decide ((k : Int) < dd) && !bitB v2 k) && !(decide ((gb : Int) ≤ (k : Int)) && bitB v2 k))) := Lib.hid rfl
              have HMX := Lib.hid (@mapAll_bad v2 dd gb k 1024 hlt)
              generalize bitB v2 k = bt at *
              have l1 : decide ((k : Int) < 1024) = true := decide_eq_true (by omega)
              have l1' : decide (k < 1024) = true := decide_eq_true hlt
              by_cases ha : (k : Int) < dd
              · have a1 : decide ((k : Int) < dd) = true := decide_eq_true ha
                cases bt with
                | false =>
                  have HG : Hid (geomB v = false) := Lib.hid (by rw [HGB.out, HDD.out, HMX.out (by rw [HMD.out, a1]; rfl)]; simp)
                  clear ha
                  go_wp2_with (first | (go_at_call 95; refine CB.out.mono ?_; rintro e w10 ⟨rfl, rfl⟩) | (refine wpList_store_all rfl 117 (.tmp 2) (.tmp 76) rfl rfl gx rfl (geoV geo0) rfl Tryz.sizeGeo (geoV geo0) 117 (HCZ.out _ HVB.out) rfl (ints_one _) ?_; intro w12 HS12 HG12))
                  have q0 := HS12.out.cell 0
                  have q1 := HS12.out.cell 1
                  have q2 := HS12.out.cell 2
                  have q3 := HS12.out.cell 3
                  have q4 := HS12.out.cell 4
                  have q5 := HS12.out.cell 5
                  refine bodyPost_ret (v := .tuple #[.agg #[.int .i64 0, .int .i64 0, .int .i64 0, .int .i64 0, .int .i64 0, .int .i64 0], .int .i64 3]) (by simp [results, Tryz.results57, go_sem, q0, q1, q2, q3, q4, q5, geoV, geo0]) rfl ⟨by rw [(HNO.out HG.out).1, (HNO.out HG.out).2]; rfl, ?_⟩
                  rw [HGX.out]
                  exact below_grown (HW.out.trans (HVB.out.mono (by omega))) HG12.out (Nat.le_trans (Nat.le_of_lt hgl) HVB.out.size) (Nat.le_refl _)
                | true =>
                  have b1 : decide ((gb : Int) ≤ (k : Int)) = false := decide_eq_false (by omega)
                  have HQ : Hid (mapAll v2 dd gb (k + 1) = true) := Lib.hid (by rw [HMS.out, HM.out, HMD.out, a1, b1]; rfl)
                  have b1' : decide (gb ≤ k) = false := decide_eq_false (by omega)
                  clear ha
                  go_wp2_with (go_at_call 95; refine CB.out.mono ?_; rintro e w10 ⟨rfl, rfl⟩)
                  go_round
                  case rel => exact ⟨k + 1, by omega, by go_num, HQ⟩
                  case measure => simp [intOf]; omega
              · have a1 : decide ((k : Int) < dd) = false := decide_eq_false ha
                by_cases hc : (gb : Int) ≤ (k : Int)
                · have b1 : decide ((gb : Int) ≤ (k : Int)) = true := decide_eq_true hc
                  have b1' : decide (gb ≤ k) = true := decide_eq_true (by omega)
                  cases bt with
                  | true =>
                    have HG : Hid (geomB v = false) := Lib.hid (by rw [HGB.out, HDD.out, HMX.out (by rw [HMD.out, a1, b1]; rfl)]; simp)
                    clear ha hc
                    go_wp2_with (first | (go_at_call 95; refine CB.out.mono ?_; rintro e w10 ⟨rfl, rfl⟩) | (refine wpList_store_all rfl 117 (.tmp 2) (.tmp 76) rfl rfl gx rfl (geoV geo0) rfl Tryz.sizeGeo (geoV geo0) 117 (HCZ.out _ HVB.out) rfl (ints_one _) ?_; intro w12 HS12 HG12))
                    have q0 := HS12.out.cell 0
                    have q1 := HS12.out.cell 1
                    have q2 := HS12.out.cell 2
                    have q3 := HS12.out.cell 3
                    have q4 := HS12.out.cell 4
                    have q5 := HS12.out.cell 5
                    refine bodyPost_ret (v := .tuple #[.agg #[.int .i64 0, .int .i64 0, .int .i64 0, .int .i64 0, .int .i64 0, .int .i64 0], .int .i64 3]) (by simp [results, Tryz.results57, go_sem, q0, q1, q2, q3, q4, q5, geoV, geo0]) rfl ⟨by rw [(HNO.out HG.out).1, (HNO.out HG.out).2]; rfl, ?_⟩
                    rw [HGX.out]
                    exact below_grown (HW.out.trans (HVB.out.mono (by omega))) HG12.out (Nat.le_trans (Nat.le_of_lt hgl) HVB.out.size) (Nat.le_refl _)
                  | false =>
                    have HQ : Hid (mapAll v2 dd gb (k + 1) = true) := Lib.hid (by rw [HMS.out, HM.out, HMD.out, a1, b1]; rfl)
                    clear ha hc
                    go_wp2_with (go_at_call 95; refine CB.out.mono ?_; rintro e w10 ⟨rfl, rfl⟩)
                    go_round
                    case rel => exact ⟨k + 1, by omega, by go_num, HQ⟩
                    case measure => simp [intOf]; omega
                · have b1 : decide ((gb : Int) ≤ (k : Int)) = false := decide_eq_false hc
                  have b1' : decide (gb ≤ k) = false := decide_eq_false (by omega)
                  have HQ : Hid (mapAll v2 dd gb (k + 1) = true) := Lib.hid (by rw [HMS.out, HM.out, HMD.out, a1, b1]; cases bt <;> rfl)
                  clear ha hc
                  cases bt with
                  | true =>
                    go_wp2_with (go_at_call 95; refine CB.out.mono ?_; rintro e w10 ⟨rfl, rfl⟩)
                    go_round
                    case rel => exact ⟨k + 1, by omega, by go_num, HQ⟩
                    case measure => simp [intOf]; omega
                  | false =>
                    go_wp2_with (go_at_call 95; refine CB.out.mono ?_; rintro e w10 ⟨rfl, rfl⟩)
                    go_round
                    case rel => exact ⟨k + 1, by omega, by go_num, HQ⟩
                    case measure => simp [intOf]; omega
            · obtain rfl : k = 1024 := by omega
              have HG := Lib.hid (HGL.out (by rw [HGB.out, HG16.out]; have h1 := HPZ.out; have h2 := HDD.out; have h3 := HM.out; rw [h2, h3]; first | (simp; done) | (rw [h1]; simp)))
              have l1 : decide ((1024 : Int) < 1024) = false := by decide
              have k1 : wx.cell? ⟨p6, 1, none⟩ = some (.int .i64 (gi : Int)) := HCF.out.cell 1
              have k2 : wx.cell? ⟨p6, 2, none⟩ = some (.int .i64 1) := HCF.out.cell 2
              have k3 : wx.cell? ⟨p6, 3, none⟩ = some (.int .i64 2) := HCF.out.cell 3
              have k4 : wx.cell? ⟨p6, 4, none⟩ = some (.int .i64 3) := HCF.out.cell 4
              have HPL : Hid (planL gb gi = [(gb : Int), (gi : Int), 1, 2, 3, dd]) := Lib.hid (by unfold planL; rw [if_pos HPZ.out, HDD.out])
              rw [show ((1024 : Nat) : Int) = 1024 from rfl]
              go_wp2_with (refine wpList_store_all rfl 117 (.tmp 2) (.tmp 77) rfl rfl gx rfl (geoV [(gb : Int), (gi : Int), 1, 2, 3, dd]) rfl Tryz.sizeGeo (geoV geo0) 117 (HCZ.out _ HVB.out) rfl (ints_one _) ?_; intro w11 HS11 HG11)
              have q0 := HS11.out.cell 0
              have q1 := HS11.out.cell 1
              have q2 := HS11.out.cell 2
              have q3 := HS11.out.cell 3
              have q4 := HS11.out.cell 4
              have q5 := HS11.out.cell 5
              refine bodyPost_ret (v := .tuple #[.agg #[.int .i64 (gb : Int), .int .i64 (gi : Int), .int .i64 1, .int .i64 2, .int .i64 3, .int .i64 dd], .int .i64 0]) (by simp [results, Tryz.results57, go_sem, q0, q1, q2, q3, q4, q5, geoV]) rfl ⟨by rw [HG.out.1, HG.out.2, HPL.out]; rfl, ?_⟩
              rw [HGX.out]
              exact below_grown (HW.out.trans (HVB.out.mono (by omega))) HG11.out (Nat.le_trans (Nat.le_of_lt hgl) HVB.out.size) (Nat.le_refl _)
        · have hve : (v0 == h0) = false := beq_eq_false_iff_ne.2 hv
          have HG : Hid (geomB v = false) := Lib.hid (by rw [HGB.out, decide_eq_false hv]; simp)
          clear hv
          go_region_held3 (fun W => W.cell? ad = some (S v0) ∧ W.cell? ⟨p6, 0, none⟩ = some (.int .i64 (gb : Int)) ∧ W.cell? ⟨p6, 1, none⟩ = some (.int .i64 (gi : Int)) ∧ W.cell? ⟨p6, 2, none⟩ = some (.int .i64 1) ∧ W.cell? ⟨p6, 3, none⟩ = some (.int .i64 2) ∧ W.cell? ⟨p6, 4, none⟩ = some (.int .i64 3) ∧ W.cell? ⟨p6, 5, none⟩ = some (.int .i64 dd))
            (first
              | (exact HK.out _ (Below.refl _ _))
              | (exact HK.out _ BB.out))
            (first
              | (go_at_call 54; (with_reducible refine (CF.out _).mono ?_); rintro e wx ⟨rfl, hbl⟩; have BB' := Lib.hid (BB.out.trans (hbl.mono BB.out.size)); clear BB hbl; have BB := BB'; clear BB'))
          have HVB := Lib.hid (HV9.out.trans (BB.out.mono hz9))
          go_wp2_with (first | (refine wpList_store_all rfl 117 (.tmp 2) (.tmp 46) rfl rfl gx rfl (geoV geo0) rfl Tryz.sizeGeo (geoV geo0) 117 (HCZ.out _ HVB.out) rfl (ints_one _) ?_; intro w12 HS12 HG12))
          have q0 := HS12.out.cell 0
          have q1 := HS12.out.cell 1
          have q2 := HS12.out.cell 2
          have q3 := HS12.out.cell 3
          have q4 := HS12.out.cell 4
          have q5 := HS12.out.cell 5
          refine bodyPost_ret (v := .tuple #[.agg #[.int .i64 0, .int .i64 0, .int .i64 0, .int .i64 0, .int .i64 0, .int .i64 0], .int .i64 3]) (by simp [results, Tryz.results57, go_sem, q0, q1, q2, q3, q4, q5, geoV, geo0]) rfl ⟨by rw [(HNO.out HG.out).1, (HNO.out HG.out).2]; rfl, ?_⟩
          rw [HGX.out]
          exact below_grown (HW.out.trans (HVB.out.mono (by omega))) HG12.out (Nat.le_trans (Nat.le_of_lt hgl) HVB.out.size) (Nat.le_refl _)
      · have HG : Hid (geomB v = false) := Lib.hid (by
          rw [HGB.out, ← Bool.not_eq_true]
          intro h
          simp only [Bool.and_eq_true, decide_eq_true_eq] at h
          exact hpe (HPE.out ▸ h.1.1.2))
        have hne : (pe != 0) = true := by simp [hpe]
        have hne' : (pe == 0) = false := beq_eq_false_iff_ne.2 hpe
        clear hpe
        go_quiet (fail)
        go_wp2_with (first | (refine wpList_store_all rfl 117 (.tmp 2) (.tmp 46) rfl rfl gx rfl (geoV geo0) rfl Tryz.sizeGeo (geoV geo0) 117 (HCZ.out _ (Below.draws HV9.out _)) rfl (ints_one _) ?_; intro w12 HS12 HG12))
        have q0 := HS12.out.cell 0
        have q1 := HS12.out.cell 1
        have q2 := HS12.out.cell 2
        have q3 := HS12.out.cell 3
        have q4 := HS12.out.cell 4
        have q5 := HS12.out.cell 5
        refine bodyPost_ret (v := .tuple #[.agg #[.int .i64 0, .int .i64 0, .int .i64 0, .int .i64 0, .int .i64 0, .int .i64 0], .int .i64 3]) (by simp [results, Tryz.results57, go_sem, q0, q1, q2, q3, q4, q5, geoV, geo0]) rfl ⟨by rw [(HNO.out HG.out).1, (HNO.out HG.out).2]; rfl, ?_⟩
        rw [HGX.out]
        exact below_grown (HW.out.trans ((Below.draws HV9.out _).mono (by omega))) HG12.out (Nat.le_trans (Nat.le_of_lt hgl) (Below.draws HV9.out _).size) (Nat.le_refl _)
end Go.Proofs.YtmdciljpcnokcaaGreatDoor
