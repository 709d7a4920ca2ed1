/-
  Walk: hibernacleref02.digest.
-/
import Derived.Test.YtecamaceainfpaaDoorRTake
import Derived.Test.YtecamaceainfpaaDoorStr
import Derived.Test.YtecamaceainfpaaDoorStream
import Derived.Test.YtecamaceainfpaaDoorSum
namespace Go.Proofs.YtecamaceainfpaaDoor
open Go.RowKit
attribute [local go_sem] concat_S

/-- byte i of a digest -/
theorem digL_at (hs : List UInt32) (s : List UInt8) {i : Nat} (hi : i < 32) : (digL hs s).getD i 0 = UInt8.ofNat (((sumL hs s).getD (i / 4) 0).toNat / 256 ^ (i % 4)) := by
  have h := flat4_at (sumL hs s) (i / 4) (i % 4) (by rw [sumL_length]; omega) (by omega)
  rw [show 4 * (i / 4) + i % 4 = i by omega, Nat.pow_mul] at h
  exact h
theorem byte_mod (n : Nat) : ((n : Int) % 256) = ((UInt8.ofNat n).toNat : Int) := by rw [UInt8.toNat_ofNat']; omega
theorem rtake_at (w : World) (h : List UInt32) (wt : List UInt8) (n : Nat) (z : Int) (last : Bool) (hh : h.length = 8) (hw : wt.length = 64) (hn : n < 18446744073709551616) (hz : z = n) :
    Calls Tryd.prog 114 #[.agg (h.map U).toArray, S wt, .int .u64 z, .bool last] w fun e w' => e = .returned (.agg ((takeL h wt n last).map U).toArray) ∧ Below w.heap.size w w' := by
  subst hz
  exact rtake_any w h wt n last hh hw hn
theorem zeros_snoc (x : List UInt8) (j : Nat) : x ++ List.replicate j 0 ++ [0] = x ++ List.replicate (j + 1) 0 := by
  rw [List.append_assoc, List.replicate_succ']

set_option maxRecDepth 100000 in
set_option maxHeartbeats 4000000 in
theorem rdigest_any (w : World) (hs : List UInt32) (s : List UInt8) (hh : hs.length = 8) (hl : s.length ≤ 1099511627776) :
    Calls Tryd.prog 93 #[.agg (hs.map U).toArray, S s] w fun e w' => e = .returned (D32 (digL hs s)) ∧ Below w.heap.size w w' := by
  have HH := Lib.hid hh
  have hsz : (hs.map U).toArray.size = 8 := by simp [hh]
  clear hh
  go_enter Tryd.func93, Tryd.ntmps93
  go_wp2_with fail
  have hH := (Whole.made w 96 (hs.map U).toArray).block (.cells ((List.replicate 32 (0 : UInt8)).map B8).toArray 29)
  have hR := Whole.made (w.alloc (.cells (hs.map U).toArray 96)) 29 ((List.replicate 32 (0 : UInt8)).map B8).toArray
  have hb : Below w.heap.size w ((w.alloc (.cells (hs.map U).toArray 96)).alloc (.cells ((List.replicate 32 (0 : UInt8)).map B8).toArray 29)) := ((Below.refl _ _).alloc (Nat.le_refl _) _).alloc (by simp) _
  rw [show (w.alloc (.cells (hs.map U).toArray 96)).heap.size = w.heap.size + 1 by simp] at hR
  change Code.wp _ _ _ _ ((w.alloc (.cells (hs.map U).toArray 96)).alloc (.cells ((List.replicate 32 (0 : UInt8)).map B8).toArray 29))
  generalize (w.alloc (.cells (hs.map U).toArray 96)).alloc (.cells ((List.replicate 32 (0 : UInt8)).map B8).toArray 29) = w1 at *
  generalize hgx : w.heap.size = g at *
  have HGX := Lib.hid hgx
  clear hgx hsz
  have HH1 := Lib.hid hH
  have HR1 := Lib.hid hR
  have HB1 := Lib.hid hb
  clear hH hR hb
  go_loopw [5] (fun n wr => ∃ m q : Nat, n = .int .i64 m ∧ Hid (m = 64 * q) ∧ m ≤ s.length ∧ Hid (q ≤ ahead s) ∧ Hid (Whole wr g 96 ((hq hs s q).map U).toArray) ∧ Hid (Whole wr (g + 1) 29 ((List.replicate 32 (0 : UInt8)).map B8).toArray) ∧ Hid (Below g w wr)) (fun n _ => s.length - (intOf n).toNat)
  case atStart => exact ⟨0, 0, rfl, Lib.hid rfl, by omega, Lib.hid (by omega), HH1, HR1, HB1⟩
  case round =>
    obtain ⟨m, q, rfl, HQ, hms, HA, HHr, HRr, HBr⟩ := hrel
    clear HH1 HR1 HB1
    have HQL : Hid ((hq hs s q).length = 8) := Lib.hid (hq_length HH.out s q)
    by_cases hlast : s.length ≤ m + 64
    · have hd1 : decide ((s.length : Int) ≤ (m : Int) + 64) = true := by simp; omega
      have hd2 : decide (s.length ≤ m + 64) = true := by simp; omega
      have hsl := run_from_S s .i64 (m : Int) m rfl hms
      have HLB : Hid (s.drop m ++ List.replicate (64 - (s.length - m)) 0 = lastBlk s q) := Lib.hid (by unfold lastBlk; rw [← HQ.out])
      have hxl : (s.drop m).length = s.length - m := by simp
      generalize hx : s.drop m = x at *
      have HX := Lib.hid hx
      have HXL := Lib.hid hxl
      have hx64 : x.length ≤ 64 := by omega
      clear hx hxl
      go_wp2_with fail
      clear hsl hd1 hd2
      go_loop [8] (fun b => ∃ y : List UInt8, b = S y ∧ y.length ≤ 64 ∧ x.length ≤ y.length ∧ Hid (y = x ++ List.replicate (y.length - x.length) 0)) (fun b => 64 - strLen b)
      case atStart => exact ⟨x, rfl, hx64, Nat.le_refl _, Lib.hid (by simp)⟩
      case round =>
        obtain ⟨y, rfl, hy, hxy, HY⟩ := hrel
        by_cases hy64 : y.length < 64
        · have hno : ¬ (9223372036854775807 < y.length + [(0 : UInt8)].length) := by simp; omega
          go_wp2_with fail
          go_round
          case rel =>
            have R : ∃ y' : List UInt8, S (y ++ [0]) = S y' ∧ y'.length ≤ 64 ∧ x.length ≤ y'.length ∧ Hid (y' = x ++ List.replicate (y'.length - x.length) 0) := ⟨y ++ [0], rfl, by simp; omega, by simp; omega, Lib.hid (by
              have e : (y ++ [(0 : UInt8)]).length - x.length = (y.length - x.length) + 1 := by simp; omega
              rw [e, ← zeros_snoc, ← HY.out])⟩
            first | exact R | ((repeat apply Exists.intro); exact ⟨R, rfl⟩)
          case measure => rw [strLen_S]; simp [strLen, ByteArray.size]; omega
        · have hyy : y.length = 64 := by omega
          have HYL := Lib.hid hyy
          have HYB : Hid (y = lastBlk s q) := Lib.hid (by rw [HY.out, ← HLB.out]; congr 2; have := HXL.out; have := HYL.out; omega)
          have hd64 : decide ((y.length : Int) < 64) = false := by simp; omega
          clear hyy
          have HSM : Hid (takeL (hq hs s q) y s.length true = sumL hs s) := Lib.hid (by
            have hqa : ahead s = q := by
              have h1 := HA.out; have h2 := HQ.out
              unfold ahead at h1 ⊢
              omega
            rw [HYB.out]; unfold sumL; rw [hqa])
          have HI : Hid ((Tryd.prog.info? 96).map (·.size) = some ((hq hs s q).map U).length) := Lib.hid (by rw [List.length_map, HQL.out]; kernel_rfl)
          have HC : Hid (∀ i u, ((hq hs s q).map U)[i]? = some u → wr.cell? ((⟨g, 0, none⟩ : Addr).add i) = some u) := Lib.hid (fun i u hu => by
            rw [show (⟨g, 0, none⟩ : Addr).add i = ⟨g, i, none⟩ by unfold Addr.add; split <;> simp_all]
            rw [HHr.out.cell, List.getElem?_toArray]; exact hu)
          generalize hq hs s q = hv at *
          go_wp2_with (refine wpList_load_at rfl 96 (.tmp 2) rfl ⟨g, 0, none⟩ rfl (hv.map U) _ HC.out Tryd.underlying96 rfl HI.out ?_)
          refine (rtake_any wr hv y s.length true HQL.out HYL.out (by omega)).mono ?_
          rintro e w2 ⟨rfl, hb2⟩
          have HH2 := Lib.hid (HHr.out.below hb2 HHr.out.lt)
          have HR2 := Lib.hid (HRr.out.below hb2 HRr.out.lt)
          have HB2 := Lib.hid (HBr.out.trans (hb2.mono (by have := HHr.out.lt; omega)))
          have TL : Hid ((takeL hv y s.length true).length = 8) := Lib.hid (takeL_length _ _ _ _)
          clear hb2 HI HC HHr HRr HBr
          obtain ⟨th, HTH⟩ : ∃ z, Hid (takeL hv y s.length true = z) := ⟨_, Lib.hid rfl⟩
          rw [HTH.out] at TL
          rw [HTH.out]
          have HI : Hid ((Tryd.prog.info? 96).map (·.size) = some (th.map U).length) := Lib.hid (by rw [List.length_map, TL.out]; kernel_rfl)
          have HF : Hid (0 + (th.map U).length ≤ (hv.map U).length) := Lib.hid (by rw [List.length_map, List.length_map, TL.out, HQL.out]; decide)
          go_wp2_with (refine wpList_store_at rfl 96 (.tmp 2) (.tmp 39) rfl rfl g 0 rfl (th.map U) rfl HI.out (hv.map U) 96 HH2.out HF.out (U_one _) ?_; intro w3 H3 F3)
          have h3 : Whole w3 g 96 (th.map U).toArray := by
            have := H3.out
            rw [List.length_map, TL.out, List.drop_eq_nil_of_le (by rw [List.length_map, HQL.out]; omega)] at this
            simpa using this
          have hR3 := HR2.out.other F3.out (by simp)
          have hB3 := below_grown HB2.out F3.out (by have := HH2.out.lt; omega) (Nat.le_refl _)
          have HTS : Hid (sumL hs s = th) := Lib.hid (by rw [← HSM.out, HTH.out])
          have HDZ := Lib.hid (Whole.made w3 29 ((List.replicate 32 (0 : UInt8)).map B8).toArray)
          have HHd := Lib.hid (h3.block (.cells ((List.replicate 32 (0 : UInt8)).map B8).toArray 29))
          have HRd := Lib.hid (hR3.block (.cells ((List.replicate 32 (0 : UInt8)).map B8).toArray 29))
          have HBd := Lib.hid (hB3.alloc (by have := h3.lt; omega) (.cells ((List.replicate 32 (0 : UInt8)).map B8).toArray 29))
          have hgd : g + 1 < w3.heap.size := hR3.lt
          clear h3 hR3 hB3 H3 F3 HH2 HR2 HB2 HI HF HTH HSM HYB HY HX HXL HLB
          change Code.wp _ _ _ _ (w3.alloc (.cells ((List.replicate 32 (0 : UInt8)).map B8).toArray 29))
          generalize w3.alloc (.cells ((List.replicate 32 (0 : UInt8)).map B8).toArray 29) = wd at *
          generalize w3.heap.size = gd at *
          have HDL : Hid ((digL hs s).length = 32) := Lib.hid (digL_length hs s)
          have HDA : Hid (∀ i, i < 32 → (digL hs s).getD i 0 = UInt8.ofNat ((th.getD (i / 4) 0).toNat / 256 ^ (i % 4))) := Lib.hid (fun i hi => by rw [← HTS.out]; exact digL_at hs s hi)
          obtain ⟨D, HD⟩ : ∃ z, Hid (digL hs s = z) := ⟨_, Lib.hid rfl⟩
          rw [HD.out] at HDL HDA
          go_loopw [10] (fun i wr => ∃ k : Nat, k ≤ 32 ∧ i = .int .i64 k ∧ Hid (Whole wr gd 29 ((digTo D k).map B8).toArray) ∧ Hid (wd.grownBy wr (some gd))) (fun i _ => 32 - (intOf i).toNat)
          case atStart => exact ⟨0, by omega, rfl, HDZ, Lib.hid (World.grownBy.refl _ _)⟩
          case round =>
            obtain ⟨k, hk, rfl, HDr, HFr⟩ := hrel
            have DTL : Hid ((digTo D k).length = 32) := Lib.hid (by unfold digTo; simp [HDL.out]; omega)
            by_cases hkt : k < 32
            · have HHk := Lib.hid (HHd.out.other HFr.out (by simp; omega))
              have ch := cell_U HHk.out (a := k / 4) (by rw [TL.out]; omega)
              have HS := Lib.hid (digTo_set HDL.out hkt _ (HDA.out k hkt))
              generalize th.getD (k / 4) 0 = x at *
              have q8 : (k : Int) / 4 < 8 := by omega
              have cd := cell_B HDr.out (a := k) (by rw [DTL.out]; exact hkt)
              have fd := HDr.out.free k
              have hxu := x.toNat_lt
              go_wp2_with fail
              clear ch
              go_loop [11, 12] (fun xv j => ∃ jn : Nat, jn ≤ k % 4 ∧ j = .int .i64 jn ∧ xv = .int .u32 ((x.toNat / 256 ^ jn : Nat) : Int)) (fun _ j => k % 4 - (intOf j).toNat)
              case atStart => exact ⟨0, by omega, rfl, by simp⟩
              case round =>
                obtain ⟨jn, hj, rfl, rfl⟩ := hrel
                have HZ : Hid (x.toNat / 256 ^ (jn + 1) = x.toNat / 256 ^ jn / 256) := Lib.hid (by rw [Nat.div_div_eq_div_mul, Nat.pow_succ])
                have hzl : x.toNat / 256 ^ jn ≤ x.toNat := Nat.div_le_self _ _
                by_cases hjt : jn < k % 4
                · generalize x.toNat / 256 ^ jn = z at *
                  have hjd : decide ((jn : Int) < (k : Int) % 4) = true := by simp; omega
                  go_wp2_with fail
                  go_round
                  case rel =>
                    have R : ∃ j' : Nat, j' ≤ k % 4 ∧ Value.int .i64 ((jn : Int) + 1) = .int .i64 j' ∧ Value.int .u32 ((z : Int) / 256) = .int .u32 ((x.toNat / 256 ^ j' : Nat) : Int) := ⟨jn + 1, by omega, by go_num, by rw [HZ.out]; go_num⟩
                    first | exact R | ((repeat apply Exists.intro); exact ⟨R, rfl⟩)
                  case measure => simp [intOf]; omega
                · have hjd : decide ((jn : Int) < (k : Int) % 4) = false := by simp; omega
                  have HJ : Hid (jn = k % 4) := Lib.hid (by omega)
                  rw [← HJ.out] at HS
                  generalize x.toNat / 256 ^ jn = z at *
                  go_wp2_with fail
                  rw [byte_mod]
                  go_roundw
                  case rel =>
                    have R : ∃ k' : Nat, k' ≤ 32 ∧ Value.int .i64 ((k : Int) + 1) = .int .i64 k' ∧ Hid (Whole (wr.setCell ⟨gd, k, none⟩ (B8 (UInt8.ofNat z))) gd 29 ((digTo D k').map B8).toArray) ∧ Hid (wd.grownBy (wr.setCell ⟨gd, k, none⟩ (B8 (UInt8.ofNat z))) (some gd)) := ⟨k + 1, by omega, by go_num, Lib.hid (by rw [← HS.out]; exact put_B HDr.out k _), Lib.hid (HFr.out.trans ⟨rfl, rfl, rfl, by simp [World.setCell], fun i _ hne => Below.heap_setCell wr ⟨gd, k, none⟩ _ i (fun e => hne (by rw [e]))⟩)⟩
                    first | exact R | ((repeat apply Exists.intro); exact ⟨R, rfl⟩)
                  case measure => simp [intOf]; omega
            · have e32 : decide ((k : Int) < 32) = false := by simp; omega
              obtain rfl : k = 32 := by omega
              rw [digTo_all HDL.out] at HDr
              have HRr := Lib.hid (HRd.out.other HFr.out (by simp; omega))
              have HBr := Lib.hid (below_grown HBd.out HFr.out (by have := HRd.out.lt; omega) (by omega))
              have HI : Hid ((Tryd.prog.info? 29).map (·.size) = some (D.map B8).length) := Lib.hid (by rw [List.length_map, HDL.out]; kernel_rfl)
              have HI' : Hid ((Tryd.prog.info? 29).map (·.size) = some (D.map B8).toArray.size) := Lib.hid (by rw [List.size_toArray]; exact HI.out)
              have HF : Hid (0 + (D.map B8).length ≤ ((List.replicate 32 (0 : UInt8)).map B8).length) := Lib.hid (by rw [List.length_map, List.length_map, HDL.out]; decide)
              have HC : Hid (∀ i u, (D.map B8)[i]? = some u → wr.cell? ((⟨gd, 0, none⟩ : Addr).add i) = some u) := Lib.hid (fun i u hu => by
                rw [show (⟨gd, 0, none⟩ : Addr).add i = ⟨gd, i, none⟩ by unfold Addr.add; split <;> simp_all]
                rw [HDr.out.cell, List.getElem?_toArray]; exact hu)
              go_wp2_with (first
                | (refine wpList_load_at rfl 29 (.tmp 9) rfl ⟨gd, 0, none⟩ rfl (D.map B8) _ HC.out Tryd.underlying29 rfl HI.out ?_)
                | (refine wpList_store_at rfl 29 (.tmp 4) (.tmp 63) rfl rfl (g + 1) 0 rfl (D.map B8) rfl HI.out ((List.replicate 32 (0 : UInt8)).map B8) 29 HRr.out HF.out (B8_one _) ?_; intro w9 H9 F9))
              have h9 : Whole w9 (g + 1) 29 (D.map B8).toArray := by
                have := H9.out
                rw [List.length_map, HDL.out] at this
                simpa using this
              refine bodyPost_ret (v := .agg (D.map B8).toArray) (results_cell_row rfl _ _ (g + 1) 29 _ (0, 0) _ rfl h9 Tryd.underlying29 rfl HI'.out) rfl ⟨by rw [HD.out], ?_⟩
              rw [HGX.out]
              exact below_grown HBr.out F9.out (by have := HRr.out.lt; omega) (by omega)
    · have hd1 : decide ((s.length : Int) ≤ (m : Int) + 64) = false := by simp; omega
      have hd2 : decide (s.length ≤ m + 64) = false := by simp; omega
      have hsl := run_cut_S s .i64 .i64 (m : Int) ((m : Int) + 64) m (m + 64) rfl (by omega) (by omega) (by omega)
      have HYL : Hid (((s.drop m).take (m + 64 - m)).length = 64) := Lib.hid (by simp; omega)
      have HYB : Hid ((s.drop m).take (m + 64 - m) = blk s q) := Lib.hid (by unfold blk; rw [← HQ.out]; congr 1; omega)
      have HSM : Hid (takeL (hq hs s q) ((s.drop m).take (m + 64 - m)) (m + 64) false = hq hs s (q + 1)) := Lib.hid (by
        rw [HYB.out, hq, show 64 * (q + 1) = m + 64 by have := HQ.out; omega])
      generalize (s.drop m).take (m + 64 - m) = y at *
      have HI : Hid ((Tryd.prog.info? 96).map (·.size) = some ((hq hs s q).map U).length) := Lib.hid (by rw [List.length_map, HQL.out]; kernel_rfl)
      have HC : Hid (∀ i u, ((hq hs s q).map U)[i]? = some u → wr.cell? ((⟨g, 0, none⟩ : Addr).add i) = some u) := Lib.hid (fun i u hu => by
        rw [show (⟨g, 0, none⟩ : Addr).add i = ⟨g, i, none⟩ by unfold Addr.add; split <;> simp_all]
        rw [HHr.out.cell, List.getElem?_toArray]; exact hu)
      generalize hq hs s q = hv at *
      go_wp2_with (refine wpList_load_at rfl 96 (.tmp 2) rfl ⟨g, 0, none⟩ rfl (hv.map U) _ HC.out Tryd.underlying96 rfl HI.out ?_)
      refine (rtake_at wr hv y (m + 64) _ false HQL.out HYL.out (by omega) (by omega)).mono ?_
      rintro e w2 ⟨rfl, hb2⟩
      have HH2 := Lib.hid (HHr.out.below hb2 HHr.out.lt)
      have HR2 := Lib.hid (HRr.out.below hb2 HRr.out.lt)
      have HB2 := Lib.hid (HBr.out.trans (hb2.mono (by have := HHr.out.lt; omega)))
      have TL : Hid ((takeL hv y (m + 64) false).length = 8) := Lib.hid (takeL_length _ _ _ _)
      clear hb2 HI HC HHr HRr HBr
      obtain ⟨th, HTH⟩ : ∃ z, Hid (takeL hv y (m + 64) false = z) := ⟨_, Lib.hid rfl⟩
      rw [HTH.out] at TL HSM
      rw [HTH.out]
      have HI : Hid ((Tryd.prog.info? 96).map (·.size) = some (th.map U).length) := Lib.hid (by rw [List.length_map, TL.out]; kernel_rfl)
      have HF : Hid (0 + (th.map U).length ≤ (hv.map U).length) := Lib.hid (by rw [List.length_map, List.length_map, TL.out, HQL.out]; decide)
      go_wp2_with (refine wpList_store_at rfl 96 (.tmp 2) (.tmp 39) rfl rfl g 0 rfl (th.map U) rfl HI.out (hv.map U) 96 HH2.out HF.out (U_one _) ?_; intro w3 H3 F3)
      have h3 : Whole w3 g 96 (th.map U).toArray := by
        have := H3.out
        rw [List.length_map, TL.out, List.drop_eq_nil_of_le (by rw [List.length_map, HQL.out]; omega)] at this
        simpa using this
      rw [HSM.out] at h3
      have HH3 := Lib.hid h3
      have HR3 := Lib.hid (HR2.out.other F3.out (by simp))
      have HB3 := Lib.hid (below_grown HB2.out F3.out (by have := HH2.out.lt; omega) (Nat.le_refl _))
      have HA' : Hid (q + 1 ≤ ahead s) := Lib.hid (by have := HA.out; have := HQ.out; unfold ahead at *; omega)
      clear h3
      go_roundw
      case rel =>
        have R : ∃ m' q' : Nat, Value.int .i64 ((m : Int) + 64) = .int .i64 m' ∧ Hid (m' = 64 * q') ∧ m' ≤ s.length ∧ Hid (q' ≤ ahead s) ∧ Hid (Whole w3 g 96 ((hq hs s q').map U).toArray) ∧ Hid (Whole w3 (g + 1) 29 ((List.replicate 32 (0 : UInt8)).map B8).toArray) ∧ Hid (Below g w w3) := ⟨m + 64, q + 1, by go_num, Lib.hid (by have := HQ.out; omega), by omega, HA', HH3, HR3, HB3⟩
        first | exact R | ((repeat apply Exists.intro); exact ⟨R, rfl⟩)
      case measure => simp [intOf]; omega
end Go.Proofs.YtecamaceainfpaaDoor
