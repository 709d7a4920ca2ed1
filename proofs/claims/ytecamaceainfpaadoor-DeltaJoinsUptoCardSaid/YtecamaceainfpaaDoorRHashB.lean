/-
  Laws: strings that are written by the lists of their bytes: an index, a cut, a sum.
-/
import Derived.Test.YtecamaceainfpaaDoorProg
import Derived.Test.YtecamaceainfpaaDoorBase
import Derived.Test.YtecamaceainfpaaDoorRTake
import Derived.Test.YtecamaceainfpaaDoorHashB
import Derived.Test.YtecamaceainfpaaDoorRowsA
import Derived.Deep.RegionWith
import Derived.StillTailTactics
namespace Go.Proofs.YtecamaceainfpaaDoor
open Go.RowKit

theorem size_S (s : List UInt8) : (⟨s.toArray⟩ : ByteArray).size = s.length := by simp [ByteArray.size]
/-- 's[i:]' -/
theorem run_from_S (s : List UInt8) (k : IntKind) (z : Int) (i : Nat) (hz : z = (i : Int)) (hi : i ≤ s.length) (W : World) : (Instr.slice 9 (S s) (some (.int k z)) none none).run Tryd.prog W = .ok (S (s.drop i)) W := by
  subst hz
  show (Instr.slice 9 (.string ⟨s.toArray⟩) (some (.int k (i : Int))) none none).run Tryd.prog W = _
  rw [run_slice_string_from_if W 9 ⟨s.toArray⟩ k _ Tryd.underlying9, if_pos ⟨by omega, by rw [size_S]; omega⟩]
  rw [ByteArray.extract_mk, size_S, Int.toNat_natCast, List.take_of_length_le (by simp)]
/-- 's[:j]' -/
theorem run_to_S (s : List UInt8) (k : IntKind) (z : Int) (j : Nat) (hz : z = (j : Int)) (hj : j ≤ s.length) (W : World) : (Instr.slice 9 (S s) none (some (.int k z)) none).run Tryd.prog W = .ok (S (s.take j)) W := by
  subst hz
  show (Instr.slice 9 (.string ⟨s.toArray⟩) none (some (.int k (j : Int))) none).run Tryd.prog W = _
  rw [run_slice_string_to_if W 9 ⟨s.toArray⟩ k _ Tryd.underlying9, if_pos ⟨by omega, by rw [size_S]; omega⟩]
  rw [ByteArray.extract_mk, Int.toNat_natCast, List.drop_zero, Nat.sub_zero]
/-- 's[i:j]' -/
theorem run_cut_S (s : List UInt8) (k k' : IntKind) (z y : Int) (i j : Nat) (hz : z = (i : Int)) (hy : y = (j : Int)) (hij : i ≤ j) (hj : j ≤ s.length) (W : World) : (Instr.slice 9 (S s) (some (.int k z)) (some (.int k' y)) none).run Tryd.prog W = .ok (S ((s.drop i).take (j - i))) W := by
  subst hz hy
  show (Instr.slice 9 (.string ⟨s.toArray⟩) (some (.int k (i : Int))) (some (.int k' (j : Int))) none).run Tryd.prog W = _
  rw [run_slice_string W 9 ⟨s.toArray⟩ k k' _ _ Tryd.underlying9 (by omega) (by omega) (by rw [size_S]; omega)]
  rw [ByteArray.extract_mk, Int.toNat_natCast, Int.toNat_natCast]
end Go.Proofs.YtecamaceainfpaaDoor
/-
  Walk: hibernacleref02.digest.
-/
namespace Go.Proofs.YtecamaceainfpaaDoor
open Go.RowKit
attribute [local go_sem] concat_S

/-- byte i of a digest -/
theorem digL_at (hs : List UInt32) (s : List UInt8) {i : Nat} (hi : i < 32) : (digL hs s).getD i 0 = UInt8.ofNat (((sumL hs s).getD (i / 4) 0).toNat / 256 ^ (i % 4)) := by
  have h := flat4_at (sumL hs s) (i / 4) (i % 4) (by rw [sumL_length]; omega) (by omega)
  rw [show 4 * (i / 4) + i % 4 = i by omega, Nat.pow_mul] at h
  exact h
theorem byte_mod (n : Nat) : ((n : Int) % 256) = ((UInt8.ofNat n).toNat : Int) := by rw [UInt8.toNat_ofNat']; omega
theorem rtake_at (w : World) (h : List UInt32) (wt : List UInt8) (n : Nat) (z : Int) (last : Bool) (hh : h.length = 8) (hw : wt.length = 64) (hn : n < 18446744073709551616) (hz : z = n) :
    Calls Tryd.prog 114 #[.agg (h.map U).toArray, S wt, .int .u64 z, .bool last] w fun e w' => e = .returned (.agg ((takeL h wt n last).map U).toArray) ∧ Below w.heap.size w w' := by
  subst hz
  exact rtake_any w h wt n last hh hw hn
theorem zeros_snoc (x : List UInt8) (j : Nat) : x ++ List.replicate j 0 ++ [0] = x ++ List.replicate (j + 1) 0 := by
  rw [List.append_assoc, List.replicate_succ']

set_option maxRecDepth 100000 in
set_option maxHeartbeats 4000000 in
theorem rdigest_any (w : World) (hs : List UInt32) (s : List UInt8) (hh : hs.length = 8) (hl : s.length ≤ 1099511627776) :
    Calls Tryd.prog 93 #[.agg (hs.map U).toArray, S s] w fun e w' => e = .returned (D32 (digL hs s)) ∧ Below w.heap.size w w' := by
  have HH := Lib.hid hh
  have hsz : (hs.map U).toArray.size = 8 := by simp [hh]
  clear hh
  go_enter Tryd.func93, Tryd.ntmps93
  go_wp2_with fail
  have hH := (Whole.made w 96 (hs.map U).toArray).block (.cells ((List.replicate 32 (0 : UInt8)).map B8).toArray 29)
  have hR := Whole.made (w.alloc (.cells (hs.map U).toArray 96)) 29 ((List.replicate 32 (0 : UInt8)).map B8).toArray
  have hb : Below w.heap.size w ((w.alloc (.cells (hs.map U).toArray 96)).alloc (.cells ((List.replicate 32 (0 : UInt8)).map B8).toArray 29)) := ((Below.refl _ _).alloc (Nat.le_refl _) _).alloc (by simp) _
  rw [show (w.alloc (.cells (hs.map U).toArray 96)).heap.size = w.heap.size + 1 by simp] at hR
  change Code.wp _ _ _ _ ((w.alloc (.cells (hs.map U).toArray 96)).alloc (.cells ((List.replicate 32 (0 : UInt8)).map B8).toArray 29))
  generalize (w.alloc (.cells (hs.map U).toArray 96)).alloc (.cells ((List.replicate 32 (0 : UInt8)).map B8).toArray 29) = w1 at *
  generalize hgx : w.heap.size = g at *
  have HGX := Lib.hid hgx
  clear hgx hsz
  have HH1 := Lib.hid hH
  have HR1 := Lib.hid hR
  have HB1 := Lib.hid hb
  clear hH hR hb
  go_loopw [5] (fun n wr => ∃ m q : Nat, n = .int .i64 m ∧ Hid (m = 64 * q) ∧ m ≤ s.length ∧ Hid (q ≤ ahead s) ∧ Hid (Whole wr g 96 ((hq hs s q).map U).toArray) ∧ Hid (Whole wr (g + 1) 29 ((List.replicate 32 (0 : UInt8)).map B8).toArray) ∧ Hid (Below g w wr)) (fun n _ => s.length - (intOf n).toNat)
  case atStart => exact ⟨0, 0, rfl, Lib.hid rfl, by omega, Lib.hid (by omega), HH1, HR1, HB1⟩
  case round =>
    obtain ⟨m, q, rfl, HQ, hms, HA, HHr, HRr, HBr⟩ := hrel
    clear HH1 HR1 HB1
    have HQL : Hid ((hq hs s q).length = 8) := Lib.hid (hq_length HH.out s q)
    by_cases hlast : s.length ≤ m + 64
    · have hd1 : decide ((s.length : Int) ≤ (m : Int) + 64) = true := by simp; omega
      have hd2 : decide (s.length ≤ m + 64) = true := by simp; omega
      have hsl := run_from_S s .i64 (m : Int) m rfl hms
      have HLB : Hid (s.drop m ++ List.replicate (64 - (s.length - m)) 0 = lastBlk s q) := Lib.hid (by unfold lastBlk; rw [← HQ.out])
      have hxl : (s.drop m).length = s.length - m := by simp
      generalize hx : s.drop m = x at *
      have HX := Lib.hid hx
      have HXL := Lib.hid hxl
      have hx64 : x.length ≤ 64 := by omega
      clear hx hxl
      go_wp2_with fail
      clear hsl hd1 hd2
      go_loop [8] (fun b => ∃ y : List UInt8, b = S y ∧ y.length ≤ 64 ∧ x.length ≤ y.length ∧ Hid (y = x ++ List.replicate (y.length - x.length) 0)) (fun b => 64 - strLen b)
      case atStart => exact ⟨x, rfl, hx64, Nat.le_refl _, Lib.hid (by simp)⟩
      case round =>
        obtain ⟨y, rfl, hy, hxy, HY⟩ := hrel
        by_cases hy64 : y.length < 64
        · have hno : ¬ (9223372036854775807 < y.length + [(0 : UInt8)].length) := by simp; omega
          go_wp2_with fail
          go_round
          case rel =>
            have R : ∃ y' : List UInt8, S (y ++ [0]) = S y' ∧ y'.length ≤ 64 ∧ x.length ≤ y'.length ∧ Hid (y' = x ++ List.replicate (y'.length - x.length) 0) := ⟨y ++ [0], rfl, by simp; omega, by simp; omega, Lib.hid (by
              have e : (y ++ [(0 : UInt8)]).length - x.length = (y.length - x.length) + 1 := by simp; omega
              rw [e, ← zeros_snoc, ← HY.out])⟩
            first | exact R | ((repeat apply Exists.intro); exact ⟨R, rfl⟩)
          case measure => rw [strLen_S]; simp [strLen, ByteArray.size]; omega
        · have hyy : y.length = 64 := by omega
          have HYL := Lib.hid hyy
          have HYB : Hid (y = lastBlk s q) := Lib.hid (by rw [HY.out, ← HLB.out]; congr 2; have := HXL.out; have := HYL.out; omega)
          have hd64 : decide ((y.length : Int) < 64) = false := by simp; omega
          clear hyy
          have HSM : Hid (takeL (hq hs s q) y s.length true = sumL hs s) := Lib.hid (by
            have hqa : ahead s = q := by
              have h1 := HA.out; have h2 := HQ.out
              unfold ahead at h1 ⊢
              omega
            rw [HYB.out]; unfold sumL; rw [hqa])
          have HI : Hid ((Tryd.prog.info? 96).map (·.size) = some ((hq hs s q).map U).length) := Lib.hid (by rw [List.length_map, HQL.out]; kernel_rfl)
          have HC : Hid (∀ i u, ((hq hs s q).map U)[i]? = some u → wr.cell? ((⟨g, 0, none⟩ : Addr).add i) = some u) := Lib.hid (fun i u hu => by
            rw [show (⟨g, 0, none⟩ : Addr).add i = ⟨g, i, none⟩ by unfold Addr.add; split <;> simp_all]
            rw [HHr.out.cell, List.getElem?_toArray]; exact hu)
          generalize hq hs s q = hv at *
          go_wp2_with (refine wpList_load_at rfl 96 (.tmp 2) rfl ⟨g, 0, none⟩ rfl (hv.map U) _ HC.out Tryd.underlying96 rfl HI.out ?_)
          refine (rtake_any wr hv y s.length true HQL.out HYL.out (by omega)).mono ?_
          rintro e w2 ⟨rfl, hb2⟩
          have HH2 := Lib.hid (HHr.out.below hb2 HHr.out.lt)
          have HR2 := Lib.hid (HRr.out.below hb2 HRr.out.lt)
          have HB2 := Lib.hid (HBr.out.trans (hb2.mono (by have := HHr.out.lt; omega)))
          have TL : Hid ((takeL hv y s.length true).length = 8) := Lib.hid (takeL_length _ _ _ _)
          clear hb2 HI HC HHr HRr HBr
          obtain ⟨th, HTH⟩ : ∃ z, Hid (takeL hv y s.length true = z) := ⟨_, Lib.hid rfl⟩
          rw [HTH.out] at TL
          rw [HTH.out]
          have HI : Hid ((Tryd.prog.info? 96).map (·.size) = some (th.map U).length) := Lib.hid (by rw [List.length_map, TL.out]; kernel_rfl)
          have HF : Hid (0 + (th.map U).length ≤ (hv.map U).length) := Lib.hid (by rw [List.length_map, List.length_map, TL.out, HQL.out]; decide)
          go_wp2_with (refine wpList_store_at rfl 96 (.tmp 2) (.tmp 39) rfl rfl g 0 rfl (th.map U) rfl HI.out (hv.map U) 96 HH2.out HF.out (U_one _) ?_; intro w3 H3 F3)
          have h3 : Whole w3 g 96 (th.map U).toArray := by
            have := H3.out
            rw [List.length_map, TL.out, List.drop_eq_nil_of_le (by rw [List.length_map, HQL.out]; omega)] at this
            simpa using this
          have hR3 := HR2.out.other F3.out (by simp)
          have hB3 := below_grown HB2.out F3.out (by have := HH2.out.lt; omega) (Nat.le_refl _)
          have HTS : Hid (sumL hs s = th) := Lib.hid (by rw [← HSM.out, HTH.out])
          have HDZ := Lib.hid (Whole.made w3 29 ((List.replicate 32 (0 : UInt8)).map B8).toArray)
          have HHd := Lib.hid (h3.block (.cells ((List.replicate 32 (0 : UInt8)).map B8).toArray 29))
          have HRd := Lib.hid (hR3.block (.cells ((List.replicate 32 (0 : UInt8)).map B8).toArray 29))
          have HBd := Lib.hid (hB3.alloc (by have := h3.lt; omega) (.cells ((List.replicate 32 (0 : UInt8)).map B8).toArray 29))
          have hgd : g + 1 < w3.heap.size := hR3.lt
          clear h3 hR3 hB3 H3 F3 HH2 HR2 HB2 HI HF HTH HSM HYB HY HX HXL HLB
          change Code.wp _ _ _ _ (w3.alloc (.cells ((List.replicate 32 (0 : UInt8)).map B8).toArray 29))
          generalize w3.alloc (.cells ((List.replicate 32 (0 : UInt8)).map B8).toArray 29) = wd at *
          generalize w3.heap.size = gd at *
          have HDL : Hid ((digL hs s).length = 32) := Lib.hid (digL_length hs s)
          have HDA : Hid (∀ i, i < 32 → (digL hs s).getD i 0 = UInt8.ofNat ((th.getD (i / 4) 0).toNat / 256 ^ (i % 4))) := Lib.hid (fun i hi => by rw [← HTS.out]; exact digL_at hs s hi)
          obtain ⟨D, HD⟩ : ∃ z, Hid (digL hs s = z) := ⟨_, Lib.hid rfl⟩
          rw [HD.out] at HDL HDA
          go_loopw [10] (fun i wr => ∃ k : Nat, k ≤ 32 ∧ i = .int .i64 k ∧ Hid (Whole wr gd 29 ((digTo D k).map B8).toArray) ∧ Hid (wd.grownBy wr (some gd))) (fun i _ => 32 - (intOf i).toNat)
          case atStart => exact ⟨0, by omega, rfl, HDZ, Lib.hid (World.grownBy.refl _ _)⟩
          case round =>
            obtain ⟨k, hk, rfl, HDr, HFr⟩ := hrel
            have DTL : Hid ((digTo D k).length = 32) := Lib.hid (by unfold digTo; simp [HDL.out]; omega)
            by_cases hkt : k < 32
            · have HHk := Lib.hid (HHd.out.other HFr.out (by simp; omega))
              have ch := cell_U HHk.out (a := k / 4) (by rw [TL.out]; omega)
              have HS := Lib.hid (digTo_set HDL.out hkt _ (HDA.out k hkt))
              generalize th.getD (k / 4) 0 = x at *
              have q8 : (k : Int) / 4 < 8 := by omega
              have cd := cell_B HDr.out (a := k) (by rw [DTL.out]; exact hkt)
              have fd := HDr.out.free k
              have hxu := x.toNat_lt
              go_wp2_with fail
              clear ch
              go_loop [11, 12] (fun xv j => ∃ jn : Nat, jn ≤ k % 4 ∧ j = .int .i64 jn ∧ xv = .int .u32 ((x.toNat / 256 ^ jn : Nat) : Int)) (fun _ j => k % 4 - (intOf j).toNat)
              case atStart => exact ⟨0, by omega, rfl, by simp⟩
              case round =>
                obtain ⟨jn, hj, rfl, rfl⟩ := hrel
                have HZ : Hid (x.toNat / 256 ^ (jn + 1) = x.toNat / 256 ^ jn / 256) := Lib.hid (by rw [Nat.div_div_eq_div_mul, Nat.pow_succ])
                have hzl : x.toNat / 256 ^ jn ≤ x.toNat := Nat.div_le_self _ _
                by_cases hjt : jn < k % 4
                · generalize x.toNat / 256 ^ jn = z at *
                  have hjd : decide ((jn : Int) < (k : Int) % 4) = true := by simp; omega
                  go_wp2_with fail
                  go_round
                  case rel =>
                    have R : ∃ j' : Nat, j' ≤ k % 4 ∧ Value.int .i64 ((jn : Int) + 1) = .int .i64 j' ∧ Value.int .u32 ((z : Int) / 256) = .int .u32 ((x.toNat / 256 ^ j' : Nat) : Int) := ⟨jn + 1, by omega, by go_num, by rw [HZ.out]; go_num⟩
                    first | exact R | ((repeat apply Exists.intro); exact ⟨R, rfl⟩)
                  case measure => simp [intOf]; omega
                · have hjd : decide ((jn : Int) < (k : Int) % 4) = false := by simp; omega
                  have HJ : Hid (jn = k % 4) := Lib.hid (by omega)
                  rw [← HJ.out] at HS
                  generalize x.toNat / 256 ^ jn = z at *
                  go_wp2_with fail
                  rw [byte_mod]
                  go_roundw
                  case rel =>
                    have R : ∃ k' : Nat, k' ≤ 32 ∧ Value.int .i64 ((k : Int) + 1) = .int .i64 k' ∧ Hid (Whole (wr.setCell ⟨gd, k, none⟩ (B8 (UInt8.ofNat z))) gd 29 ((digTo D k').map B8).toArray) ∧ Hid (wd.grownBy (wr.setCell ⟨gd, k, none⟩ (B8 (UInt8.ofNat z))) (some gd)) := ⟨k + 1, by omega, by go_num, Lib.hid (by rw [← HS.out]; exact put_B HDr.out k _), Lib.hid (HFr.out.trans ⟨rfl, rfl, rfl, by simp [World.setCell], fun i _ hne => Below.heap_setCell wr ⟨gd, k, none⟩ _ i (fun e => hne (by rw [e]))⟩)⟩
                    first | exact R | ((repeat apply Exists.intro); exact ⟨R, rfl⟩)
                  case measure => simp [intOf]; omega
            · have e32 : decide ((k : Int) < 32) = false := by simp; omega
              obtain rfl : k = 32 := by omega
              rw [digTo_all HDL.out] at HDr
              have HRr := Lib.hid (HRd.out.other HFr.out (by simp; omega))
              have HBr := Lib.hid (below_grown HBd.out HFr.out (by have := HRd.out.lt; omega) (by omega))
              have HI : Hid ((Tryd.prog.info? 29).map (·.size) = some (D.map B8).length) := Lib.hid (by rw [List.length_map, HDL.out]; kernel_rfl)
              have HI' : Hid ((Tryd.prog.info? 29).map (·.size) = some (D.map B8).toArray.size) := Lib.hid (by rw [List.size_toArray]; exact HI.out)
              have HF : Hid (0 + (D.map B8).length ≤ ((List.replicate 32 (0 : UInt8)).map B8).length) := Lib.hid (by rw [List.length_map, List.length_map, HDL.out]; decide)
              have HC : Hid (∀ i u, (D.map B8)[i]? = some u → wr.cell? ((⟨gd, 0, none⟩ : Addr).add i) = some u) := Lib.hid (fun i u hu => by
                rw [show (⟨gd, 0, none⟩ : Addr).add i = ⟨gd, i, none⟩ by unfold Addr.add; split <;> simp_all]
                rw [HDr.out.cell, List.getElem?_toArray]; exact hu)
              go_wp2_with (first
                | (refine wpList_load_at rfl 29 (.tmp 9) rfl ⟨gd, 0, none⟩ rfl (D.map B8) _ HC.out Tryd.underlying29 rfl HI.out ?_)
                | (refine wpList_store_at rfl 29 (.tmp 4) (.tmp 63) rfl rfl (g + 1) 0 rfl (D.map B8) rfl HI.out ((List.replicate 32 (0 : UInt8)).map B8) 29 HRr.out HF.out (B8_one _) ?_; intro w9 H9 F9))
              have h9 : Whole w9 (g + 1) 29 (D.map B8).toArray := by
                have := H9.out
                rw [List.length_map, HDL.out] at this
                simpa using this
              refine bodyPost_ret (v := .agg (D.map B8).toArray) (results_cell_row rfl _ _ (g + 1) 29 _ (0, 0) _ rfl h9 Tryd.underlying29 rfl HI'.out) rfl ⟨by rw [HD.out], ?_⟩
              rw [HGX.out]
              exact below_grown HBr.out F9.out (by have := HRr.out.lt; omega) (by omega)
    · have hd1 : decide ((s.length : Int) ≤ (m : Int) + 64) = false := by simp; omega
      have hd2 : decide (s.length ≤ m + 64) = false := by simp; omega
      have hsl := run_cut_S s .i64 .i64 (m : Int) ((m : Int) + 64) m (m + 64) rfl (by omega) (by omega) (by omega)
      have HYL : Hid (((s.drop m).take (m + 64 - m)).length = 64) := Lib.hid (by simp; omega)
      have HYB : Hid ((s.drop m).take (m + 64 - m) = blk s q) := Lib.hid (by unfold blk; rw [← HQ.out]; congr 1; omega)
      have HSM : Hid (takeL (hq hs s q) ((s.drop m).take (m + 64 - m)) (m + 64) false = hq hs s (q + 1)) := Lib.hid (by
        rw [HYB.out, hq, show 64 * (q + 1) = m + 64 by have := HQ.out; omega])
      generalize (s.drop m).take (m + 64 - m) = y at *
      have HI : Hid ((Tryd.prog.info? 96).map (·.size) = some ((hq hs s q).map U).length) := Lib.hid (by rw [List.length_map, HQL.out]; kernel_rfl)
      have HC : Hid (∀ i u, ((hq hs s q).map U)[i]? = some u → wr.cell? ((⟨g, 0, none⟩ : Addr).add i) = some u) := Lib.hid (fun i u hu => by
        rw [show (⟨g, 0, none⟩ : Addr).add i = ⟨g, i, none⟩ by unfold Addr.add; split <;> simp_all]
        rw [HHr.out.cell, List.getElem?_toArray]; exact hu)
      generalize hq hs s q = hv at *
      go_wp2_with (refine wpList_load_at rfl 96 (.tmp 2) rfl ⟨g, 0, none⟩ rfl (hv.map U) _ HC.out Tryd.underlying96 rfl HI.out ?_)
      refine (rtake_at wr hv y (m + 64) _ false HQL.out HYL.out (by omega) (by omega)).mono ?_
      rintro e w2 ⟨rfl, hb2⟩
      have HH2 := Lib.hid (HHr.out.below hb2 HHr.out.lt)
      have HR2 := Lib.hid (HRr.out.below hb2 HRr.out.lt)
      have HB2 := Lib.hid (HBr.out.trans (hb2.mono (by have := HHr.out.lt; omega)))
      have TL : Hid ((takeL hv y (m + 64) false).length = 8) := Lib.hid (takeL_length _ _ _ _)
      clear hb2 HI HC HHr HRr HBr
      obtain ⟨th, HTH⟩ : ∃ z, Hid (takeL hv y (m + 64) false = z) := ⟨_, Lib.hid rfl⟩
      rw [HTH.out] at TL HSM
      rw [HTH.out]
      have HI : Hid ((Tryd.prog.info? 96).map (·.size) = some (th.map U).length) := Lib.hid (by rw [List.length_map, TL.out]; kernel_rfl)
      have HF : Hid (0 + (th.map U).length ≤ (hv.map U).length) := Lib.hid (by rw [List.length_map, List.length_map, TL.out, HQL.out]; decide)
      go_wp2_with (refine wpList_store_at rfl 96 (.tmp 2) (.tmp 39) rfl rfl g 0 rfl (th.map U) rfl HI.out (hv.map U) 96 HH2.out HF.out (U_one _) ?_; intro w3 H3 F3)
      have h3 : Whole w3 g 96 (th.map U).toArray := by
        have := H3.out
        rw [List.length_map, TL.out, List.drop_eq_nil_of_le (by rw [List.length_map, HQL.out]; omega)] at this
        simpa using this
      rw [HSM.out] at h3
      have HH3 := Lib.hid h3
      have HR3 := Lib.hid (HR2.out.other F3.out (by simp))
      have HB3 := Lib.hid (below_grown HB2.out F3.out (by have := HH2.out.lt; omega) (Nat.le_refl _))
      have HA' : Hid (q + 1 ≤ ahead s) := Lib.hid (by have := HA.out; have := HQ.out; unfold ahead at *; omega)
      clear h3
      go_roundw
      case rel =>
        have R : ∃ m' q' : Nat, Value.int .i64 ((m : Int) + 64) = .int .i64 m' ∧ Hid (m' = 64 * q') ∧ m' ≤ s.length ∧ Hid (q' ≤ ahead s) ∧ Hid (Whole w3 g 96 ((hq hs s q').map U).toArray) ∧ Hid (Whole w3 (g + 1) 29 ((List.replicate 32 (0 : UInt8)).map B8).toArray) ∧ Hid (Below g w w3) := ⟨m + 64, q + 1, by go_num, Lib.hid (by have := HQ.out; omega), by omega, HA', HH3, HR3, HB3⟩
        first | exact R | ((repeat apply Exists.intro); exact ⟨R, rfl⟩)
      case measure => simp [intOf]; omega
end Go.Proofs.YtecamaceainfpaaDoor
/-
  Walks: hibernacleref01.length, Row.
-/
namespace Go.Proofs.YtecamaceainfpaaDoor
open Go.RowKit
attribute [local go_sem] concat_S

/-- 'string([]byte{x})' -/
theorem run_str_one (W : World) (p : Addr) (c : Nat) (z : Int) (x : UInt8) (hz : z = (x.toNat : Int)) (hc : W.cell? p = some (.int .u8 z)) : (convert 73 9 (.slice (some p) 1 c)).run Tryd.prog W = .ok (S [x]) W := by
  subst hz
  refine run_convert_bytes_back W 73 9 5 p c [x] Tryd.underlying73 Tryd.underlying5 Tryd.underlying9 fun j hj => ?_
  obtain rfl : j = 0 := by simpa using hj
  simpa [Addr.add] using hc
theorem bcell {W w1 : World} (hb : Below W.heap.size W w1) : (∀ b o, b < W.heap.size → w1.cell? ⟨b, o, none⟩ = W.cell? ⟨b, o, none⟩) :=
  fun b o h => hb.cell (p := ⟨b, o, none⟩) h
set_option maxRecDepth 100000 in
set_option maxHeartbeats 1000000 in
theorem rlength_small (n : Nat) (w : World) (hn : n < 128) :
    Calls Tryd.prog 85 #[.int .i64 n] w fun e w' => e = .returned (S (lenB n)) ∧ Below w.heap.size w w' := by
  have hd : decide ((n : Int) < 128) = true := by simp; omega
  have hcv := fun W p c => run_str_one W p c (n : Int) (UInt8.ofNat n) (by rw [UInt8.toNat_ofNat']; omega)
  have HE := Lib.hid (lenB_small hn)
  go_enter Tryd.func85, Tryd.ntmps85
  go_wp2_with fail
  go_ret
  exact ⟨by rw [HE.out]; rfl, (Below.refl _ _).alloc (Nat.le_refl _) _⟩
set_option maxRecDepth 100000 in
set_option maxHeartbeats 1000000 in
theorem rlength_any (b : Nat) : ∀ (n : Nat) (w : World), n < 128 ^ (b + 1) → n ≤ 1099511627776 →
    Calls Tryd.prog 85 #[.int .i64 n] w fun e w' => e = .returned (S (lenB n)) ∧ Below w.heap.size w w' := by
  induction b with
  | zero => intro n w hn _; exact rlength_small n w (by omega)
  | succ b ih =>
    intro n w hn hl
    by_cases hs : n < 128
    · exact rlength_small n w hs
    · have hd : decide ((n : Int) < 128) = false := by simp; omega
      have hcv := fun W p c => run_str_one W p c ((n : Int) % 128 + 128) (UInt8.ofNat (n % 128 + 128)) (by rw [UInt8.toNat_ofNat']; omega)
      have HE := Lib.hid (lenB_big hs)
      have hrec : ∀ W : World, Calls Tryd.prog 85 #[.int .i64 ((n : Int) / 128)] W fun e w' => e = .returned (S (lenB (n / 128))) ∧ Below W.heap.size W w' := fun W => by
        have := ih (n / 128) W (by rw [Nat.div_lt_iff_lt_mul (by omega)]; rw [Nat.pow_succ] at hn; exact hn) (by omega)
        rwa [show ((n / 128 : Nat) : Int) = (n : Int) / 128 by omega] at this
      have HREC := Lib.hid hrec
      have hlen := lenB_le (n / 128) 5 (by omega)
      have hno : ¬ (9223372036854775807 < [UInt8.ofNat (n % 128 + 128)].length + (lenB (n / 128)).length) := by simp; omega
      clear hrec ih hn
      have m1 : (n : Int).tmod 128 = (n : Int) % 128 := Int.tmod_eq_emod_of_nonneg (by omega)
      have m2 : IntKind.i64.wrap ((n : Int) % 128 + 128) = (n : Int) % 128 + 128 := IntWalk.i64_in _ (by omega)
      have m3 : IntKind.u8.wrap ((n : Int) % 128 + 128) = (n : Int) % 128 + 128 := by rw [IntKind.wrap_u8]; omega
      have m4 : IntKind.i64.wrap ((n : Int) / 128) = (n : Int) / 128 := IntWalk.i64_in _ (by omega)
      generalize lenB (n / 128) = y at *
      generalize UInt8.ofNat (n % 128 + 128) = x at *
      go_enter Tryd.func85, Tryd.ntmps85
      go_wp2_with fail
      go_region_with (go_at_call 85; refine (HREC.out _).mono ?_; rintro e w1 ⟨rfl, hb⟩; have hk := bcell hb)
      all_goals go_wp2_with fail
      all_goals go_ret
      all_goals refine ⟨by rw [HE.out]; rfl, ?_⟩
      all_goals first
        | exact (((Below.refl w.heap.size w).alloc (Nat.le_refl _) _).drew).trans (hb.mono (by simp))
        | exact ((Below.refl w.heap.size w).drew.trans (hb.mono (Nat.le_refl _))).alloc (by have := hb.size; exact this) _

set_option maxRecDepth 100000 in
set_option maxHeartbeats 1000000 in
theorem rrow_any (w : World) (A : Option Addr) (c : Nat) (ls : List (List UInt8)) (hA : Strs w w.heap.size A ls) (hs : sizeOf ls ≤ 34359738368) :
    Calls Tryd.prog 57 #[.slice A ls.length c] w fun e w' => e = .returned (S (rowB ls)) ∧ Below w.heap.size w w' := by
  have HA := Lib.hid hA
  have hn := length_le_sizeOf ls
  have HRL := Lib.hid (fun k => rowB_le (ls.take k) (Nat.le_trans (sizeOf_take_le ls k) hs))
  have HST := Lib.hid (sizeOf_take_le ls)
  have hlen : ls.length ≤ 34359738368 := by omega
  clear hA hn
  go_enter Tryd.func57, Tryd.ntmps57
  go_wp2_with fail
  go_loopw [3, 8] (fun s i wr => ∃ k : Nat, k ≤ ls.length ∧ i = .int .i64 k ∧ s = S (rowB (ls.take k)) ∧ Hid (Below w.heap.size w wr)) (fun _ i _ => ls.length - (intOf i).toNat)
  case atStart => exact ⟨0, by omega, rfl, rfl, Lib.hid (Below.refl _ _)⟩
  case round =>
    obtain ⟨k, hk, rfl, rfl, HB⟩ := hrel
    by_cases hlt : k < ls.length
    · obtain ⟨ad, rfl, had, hc⟩ := HA.out.at' hlt
      have hcr : wr.cell? (ad.add k) = some (S (ls.getD k [])) := (HB.out.cell (by unfold Addr.add; split <;> exact had)).trans hc
      clear hc
      have HSN := Lib.hid (rowB_snoc ls k hlt)
      have hle := HRL.out (k + 1)
      have hst := HST.out (k + 1)
      rw [HSN.out, List.length_append, List.length_append] at hle
      have hgl := getD_le ls k hlt
      generalize rowB (ls.take k) = x at *
      generalize ls.getD k [] = y at *
      have hno : ¬ (9223372036854775807 < (lenB y.length).length + y.length) := by omega
      have hno2 : ¬ (9223372036854775807 < x.length + (lenB y.length ++ y).length) := by rw [List.length_append]; omega
      go_wp2_with fail
      refine (rlength_any 5 y.length wr (by omega) (by omega)).mono ?_
      rintro e w1 ⟨rfl, hb1⟩
      have HB1 : Hid (Below w.heap.size w w1) := Lib.hid (HB.out.trans (hb1.mono HB.out.size))
      clear hb1 hcr
      generalize lenB y.length = z at *
      go_wp2_with fail
      go_roundw
      case rel =>
        have R : ∃ k' : Nat, k' ≤ ls.length ∧ Value.int .i64 ((k : Int) + 1) = .int .i64 k' ∧ S (x ++ (z ++ y)) = S (rowB (ls.take k')) ∧ Hid (Below w.heap.size w w1) := ⟨k + 1, by omega, by go_num, by rw [HSN.out, List.append_assoc], HB1⟩
        first | exact R | ((repeat apply Exists.intro); exact ⟨R, rfl⟩)
      case measure => simp [intOf]; omega
    · obtain rfl : k = ls.length := by omega
      rw [List.take_of_length_le (Nat.le_refl _)]
      have hd : decide (ls.length < ls.length) = false := by simp
      go_wp2_with fail
      go_ret
      exact ⟨rfl, HB.out⟩
end Go.Proofs.YtecamaceainfpaaDoor
/-
  Walks: hibernacleref02.Sum, hibernacleref32.Bytes, hibernacleref32.Sum.
-/
namespace Go.Proofs.YtecamaceainfpaaDoor
open Go.RowKit

set_option maxRecDepth 100000 in
set_option maxHeartbeats 2000000 in
theorem rsum_any (w : World) (A : Option Addr) (c : Nat) (ls : List (List UInt8)) (hA : Strs w w.heap.size A ls) (hn : ls.length ≤ 1099511627776) (hl : ls.flatten.length ≤ 1099511627776) :
    Calls Tryd.prog 69 #[.slice A ls.length c] w fun e w' => e = .returned (D32 (dig ls.flatten)) ∧ Below w.heap.size w w' := by
  have HA := Lib.hid hA
  have HZ := Lib.hid (Whole.made w 29 ((List.replicate 32 (0 : UInt8)).map B8).toArray)
  have HB := Lib.hid ((Below.refl w.heap.size w).alloc (Nat.le_refl _) (.cells ((List.replicate 32 (0 : UInt8)).map B8).toArray 29))
  clear hA
  go_enter Tryd.func69, Tryd.ntmps69
  go_wp2_with fail
  change Calls _ _ _ (w.alloc (.cells ((List.replicate 32 (0 : UInt8)).map B8).toArray 29)) _
  generalize w.alloc (.cells ((List.replicate 32 (0 : UInt8)).map B8).toArray 29) = w1 at *
  refine (eight_any w1).mono ?_
  rintro e w2 ⟨rfl, hb2⟩
  have HZ2 := Lib.hid (HZ.out.below hb2 HZ.out.lt)
  have HB2 : Hid (Below w.heap.size w w2) := Lib.hid (HB.out.trans (hb2.mono (Nat.le_of_lt HZ.out.lt)))
  clear hb2 HZ HB
  have HN : Hid (Whole (w2.alloc (.cells ((List.replicate 8 (0 : UInt32)).map U).toArray 96)) w2.heap.size 96 ((List.replicate 8 (0 : UInt32)).map U).toArray) := Lib.hid (Whole.made _ _ _)
  have hgl : w.heap.size < w2.heap.size := HZ2.out.lt
  go_wp2_with (refine wpList_store_at rfl 96 (.tmp 3) (.tmp 4) rfl rfl w2.heap.size 0 rfl (IV.map U) rfl (by kernel_rfl) ((List.replicate 8 (0 : UInt32)).map U) 96 HN.out (by decide) (U_one _) ?_; intro w3 N3 F3; have c0 : w3.cell? ⟨w2.heap.size, 0, none⟩ = some (.int .u32 1779033703) := (N3.out.cell 0).trans rfl; have f0 := N3.out.free 0)
  rw [show bits BinOp.xor IntKind.u32 1779033703 16842784 = 1795745351 from by decide +kernel]
  have H4 : Hid (Whole (w3.setCell ⟨w2.heap.size, 0, none⟩ (.int .u32 1795745351)) w2.heap.size 96 (h0.map U).toArray) := Lib.hid (N3.out.set 0 (.int .u32 1795745351))
  have HB3 : Hid (Below w2.heap.size w2 w3) := Lib.hid (below_grown ((Below.refl _ _).alloc (Nat.le_refl _) _) F3.out (by simp) (Nat.le_refl _))
  have HB4 : Hid (Below w2.heap.size w2 (w3.setCell ⟨w2.heap.size, 0, none⟩ (.int .u32 1795745351))) := Lib.hid (HB3.out.setCell (Nat.le_refl _) _)
  clear c0 f0 N3 F3 HN HB3
  generalize w3.setCell ⟨w2.heap.size, 0, none⟩ (.int .u32 1795745351) = w4 at *
  have HZ4 := Lib.hid (HZ2.out.below HB4.out hgl)
  have HB5 : Hid (Below w.heap.size w w4) := Lib.hid (HB2.out.trans (HB4.out.mono (Nat.le_of_lt hgl)))
  have hgl4 : w2.heap.size < w4.heap.size := H4.out.lt
  clear HB4 HZ2 HB2
  generalize w2.heap.size = gb at *
  have c0 : w4.cell? ⟨gb, 0, none⟩ = some (.int .u32 1795745351) := H4.out.cell 0
  have c1 : w4.cell? ⟨gb, 1, none⟩ = some (.int .u32 3144134277) := H4.out.cell 1
  have c2 : w4.cell? ⟨gb, 2, none⟩ = some (.int .u32 1013904242) := H4.out.cell 2
  have c3 : w4.cell? ⟨gb, 3, none⟩ = some (.int .u32 2773480762) := H4.out.cell 3
  have c4 : w4.cell? ⟨gb, 4, none⟩ = some (.int .u32 1359893119) := H4.out.cell 4
  have c5 : w4.cell? ⟨gb, 5, none⟩ = some (.int .u32 2600822924) := H4.out.cell 5
  have c6 : w4.cell? ⟨gb, 6, none⟩ = some (.int .u32 528734635) := H4.out.cell 6
  have c7 : w4.cell? ⟨gb, 7, none⟩ = some (.int .u32 1541459225) := H4.out.cell 7
  have HJ := Lib.hid (joined_any w4 A c ls ((HA.out.below HB5.out).wide HB5.out.size) hn hl)
  have HJ := Lib.hid (joined_any (w4.drew) A c ls ((HA.out.below HB5.out).wide HB5.out.size) hn hl)
  go_still_tail 3, (by kernel_rfl)
  still_call (HJ.out)
  repeat still_step
  refine wpStill_nil ?_
  change wpList _ _ _ _ _ w4.drew
  rw [show Value.agg #[Value.int IntKind.u32 1795745351, Value.int IntKind.u32 3144134277, Value.int IntKind.u32 1013904242, Value.int IntKind.u32 2773480762, Value.int IntKind.u32 1359893119, Value.int IntKind.u32 2600822924, Value.int IntKind.u32 528734635, Value.int IntKind.u32 1541459225] = .agg (h0.map U).toArray from by kernel_rfl]
  clear c0 c1 c2 c3 c4 c5 c6 c7 HJ
  have HZ5 := Lib.hid (HZ4.out.draw)
  have HB6 : Hid (Below w.heap.size w w4.drew) := Lib.hid (HB5.out.drew)
  clear HZ4 HB5 H4
  have hgl5 : w.heap.size < w4.drew.heap.size := by show w.heap.size < w4.heap.size; omega
  generalize w4.drew = w5 at *
  go_wp2_with fail
  refine (rdigest_any w5 h0 ls.flatten h0_length hl).mono ?_
  rintro e w6 ⟨rfl, hb6⟩
  have HZ6 := Lib.hid (HZ5.out.below hb6 hgl5)
  have HB7 : Hid (Below w.heap.size w w6) := Lib.hid (HB6.out.trans (hb6.mono (Nat.le_of_lt hgl5)))
  clear hb6 HZ5 HB6
  have HDL : Hid ((digL h0 ls.flatten).length = 32) := Lib.hid (digL_length _ _)
  obtain ⟨D, HDn⟩ : ∃ z, Hid (digL h0 ls.flatten = z) := ⟨_, Lib.hid rfl⟩
  rw [HDn.out] at HDL
  rw [HDn.out]
  have HDi : Hid ((Tryd.prog.info? 29).map (·.size) = some (D.map B8).toArray.size) := Lib.hid (by
    rw [List.size_toArray, List.length_map, HDL.out]; kernel_rfl)
  have HDl : Hid ((Tryd.prog.info? 29).map (·.size) = some (D.map B8).length) := Lib.hid (by
    rw [List.length_map, HDL.out]; kernel_rfl)
  have HC1 : Hid (0 + (D.map B8).length ≤ ((List.replicate 32 (0 : UInt8)).map B8).length) := Lib.hid (by rw [List.length_map, List.length_map, HDL.out]; decide)
  go_wp2_with (refine wpList_store_at rfl 29 (.tmp 2) (.tmp 12) rfl rfl w.heap.size 0 rfl (D.map B8) rfl HDl.out ((List.replicate 32 (0 : UInt8)).map B8) 29 HZ6.out HC1.out (B8_one _) ?_; intro w9 H9 F9)
  have h9 : Whole w9 w.heap.size 29 (D.map B8).toArray := by
    have := H9.out
    rw [List.length_map, HDL.out] at this
    simpa using this
  exact bodyPost_ret (v := .agg (D.map B8).toArray) (results_cell_row rfl _ _ w.heap.size 29 _ (0, 0) _ rfl h9 Tryd.underlying29 rfl HDi.out) rfl ⟨by rw [show dig ls.flatten = D from HDn.out], below_grown HB7.out F9.out HB7.out.size (Nat.le_refl _)⟩

theorem rrow_four (w : World) (a b c d : List UInt8) (hs : sizeOf [a, b, c, d] ≤ 34359738368) :
    Calls Tryd.prog 57 #[.slice (some ⟨w.heap.size, 0, none⟩) 4 4] (w.alloc (.cells #[S a, S b, S c, S d] 9)) fun e w' => e = .returned (S (rowB [a, b, c, d])) ∧ Below w.heap.size w w' :=
  (rrow_any (w.alloc (.cells #[S a, S b, S c, S d] 9)) (some ⟨w.heap.size, 0, none⟩) 4 [a, b, c, d] (lies_made w 9 [S a, S b, S c, S d] _ (by simp)) hs).mono fun _ _ h => ⟨h.1, ((Below.refl _ _).alloc (Nat.le_refl _) _).trans (h.2.mono (by simp))⟩

set_option maxRecDepth 100000 in
set_option maxHeartbeats 2000000 in
theorem rimgBytes_any (w : World) (A A' : Option Addr) (c c' : Nat) (fs bs : List (List UInt8)) (r : List UInt8) (hA : Strs w w.heap.size A fs) (hA' : Strs w w.heap.size A' bs) (hs : sizeOf fs + sizeOf bs + r.length ≤ 4294967296) :
    Calls Tryd.prog 35 #[.agg #[.slice A fs.length c, .slice A' bs.length c', S r]] w fun e w' => e = .returned (S (imgB fs bs r)) ∧ Below w.heap.size w w' := by
  have HA := Lib.hid hA
  have HA' := Lib.hid hA'
  clear hA hA'
  have HS := Lib.hid (imgB_size fs bs r hs)
  go_enter Tryd.func35, Tryd.ntmps35
  go_wp2_with fail
  have hx := Whole.made w 24 #[.slice A fs.length c, .slice A' bs.length c', S r]
  have hb := (Below.refl w.heap.size w).alloc (Nat.le_refl _) (.cells #[.slice A fs.length c, .slice A' bs.length c', S r] 24)
  have hz : (w.alloc (.cells #[.slice A fs.length c, .slice A' bs.length c', S r] 24)).heap.size = w.heap.size + 1 := by simp
  have c0 := hx.cell 0
  have c1 := hx.cell 1
  have c2 := hx.cell 2
  simp only [List.getElem?_toArray, List.getElem?_cons_zero, List.getElem?_cons_succ] at c0 c1 c2
  have HB := Lib.hid hb
  have HZ := Lib.hid hz
  have C0 := Lib.hid c0
  have C1 := Lib.hid c1
  have C2 := Lib.hid c2
  clear hx hb hz
  generalize w.alloc (.cells #[.slice A fs.length c, .slice A' bs.length c', S r] 24) = w1 at *
  have hlt : w.heap.size < w1.heap.size := by have := HZ.out; omega
  generalize hgx : w.heap.size = gx at *
  have HGX := Lib.hid hgx
  clear hgx
  have rowF : ∀ W : World, Below (gx + 1) w1 W → Calls Tryd.prog 57 #[.slice A fs.length c] W fun e w' => e = .returned (S (rowB fs)) ∧ Below W.heap.size W w' := fun W hW =>
    rrow_any W A c fs (((HA.out.below HB.out).below (hW.mono (by omega))).wide (by have := hW.size; omega)) (by omega)
  have rowG : ∀ W : World, Below (gx + 1) w1 W → Calls Tryd.prog 57 #[.slice A' bs.length c'] W fun e w' => e = .returned (S (rowB bs)) ∧ Below W.heap.size W w' := fun W hW =>
    rrow_any W A' c' bs (((HA'.out.below HB.out).below (hW.mono (by omega))).wide (by have := hW.size; omega)) (by omega)
  have RF := Lib.hid rowF
  have RG := Lib.hid rowG
  clear rowF rowG
  go_region_held3 (fun w' => w'.cell? ⟨gx, 0, none⟩ = some (.slice A fs.length c) ∧ w'.cell? ⟨gx, 1, none⟩ = some (.slice A' bs.length c') ∧ w'.cell? ⟨gx, 2, none⟩ = some (S r))
    (first
      | go_keep
      | (exact ⟨(BB.cell (p := ⟨gx, 0, none⟩) (Nat.lt_succ_self _)).trans C0.out, (BB.cell (p := ⟨gx, 1, none⟩) (Nat.lt_succ_self _)).trans C1.out, (BB.cell (p := ⟨gx, 2, none⟩) (Nat.lt_succ_self _)).trans C2.out⟩))
    (first
      | (go_at_call_of 57 (Value.slice A fs.length c); refine (RF.out _ ?_).mono ?_; (exact (Below.refl _ _).drew); rintro e w2 ⟨rfl, hbl⟩; have B2 : Below (gx + 1) w1 w2 := ((Below.refl _ _).drew).trans (hbl.mono hlt); have BB := B2; have hlt2 : gx < w2.heap.size := Nat.lt_of_lt_of_le hlt hbl.size)
      | (go_at_call_of 57 (Value.slice A' bs.length c'); refine (RG.out _ ?_).mono ?_; (exact B2); rintro e w3 ⟨rfl, hbl⟩; have B3 : Below (gx + 1) w1 w3 := B2.trans (hbl.mono hlt2); have BB := B3; have hlt3 : gx < w3.heap.size := Nat.lt_of_lt_of_le hlt2 hbl.size)
      | (go_at_call 57; refine (rrow_four w3 [104, 105, 98, 105] (rowB fs) (rowB bs) r HS.out).mono ?_; rintro e w4 ⟨rfl, hbl⟩; have B4 : Below (gx + 1) w1 w4 := B3.trans (hbl.mono hlt3); have BB := B4))
  go_wp2
  go_ret
  refine ⟨rfl, ?_⟩
  rw [HGX.out]
  exact HB.out.trans (B4.mono (by omega))


set_option maxRecDepth 100000 in
set_option maxHeartbeats 2000000 in
theorem rimgSum_any (w : World) (A A' : Option Addr) (c c' : Nat) (fs bs : List (List UInt8)) (r : List UInt8) (hA : Strs w w.heap.size A fs) (hA' : Strs w w.heap.size A' bs) (hs : sizeOf fs + sizeOf bs + r.length ≤ 4294967296) :
    Calls Tryd.prog 41 #[.agg #[.slice A fs.length c, .slice A' bs.length c', S r]] w fun e w' => e = .returned (D32 (dig (imgB fs bs r))) ∧ Below w.heap.size w w' := by
  have HA := Lib.hid hA
  have HA' := Lib.hid hA'
  clear hA hA'
  go_enter Tryd.func41, Tryd.ntmps41
  go_wp2_with fail
  have hz := Whole.made (w.alloc (.cells #[.slice A fs.length c, .slice A' bs.length c', S r] 24)) 29 ((List.replicate 32 (0 : UInt8)).map B8).toArray
  have hb : Below w.heap.size w ((w.alloc (.cells #[.slice A fs.length c, .slice A' bs.length c', S r] 24)).alloc (.cells ((List.replicate 32 (0 : UInt8)).map B8).toArray 29)) := ((Below.refl _ _).alloc (Nat.le_refl _) _).alloc (by simp) _
  rw [show (w.alloc (.cells #[.slice A fs.length c, .slice A' bs.length c', S r] 24)).heap.size = w.heap.size + 1 by simp] at hz
  have HZ := Lib.hid hz
  have HB := Lib.hid hb
  clear hz hb
  change Calls _ _ _ ((w.alloc (.cells #[.slice A fs.length c, .slice A' bs.length c', S r] 24)).alloc (.cells ((List.replicate 32 (0 : UInt8)).map B8).toArray 29)) _
  generalize (w.alloc (.cells #[.slice A fs.length c, .slice A' bs.length c', S r] 24)).alloc (.cells ((List.replicate 32 (0 : UInt8)).map B8).toArray 29) = w1 at *
  have hl1 := HZ.out.lt
  refine (rimgBytes_any w1 A A' c c' fs bs r (lies_one HA.out HB.out HB.out.size) (lies_one HA'.out HB.out HB.out.size) hs).mono ?_
  rintro e w2 ⟨rfl, hb2⟩
  have HZ2 := Lib.hid (HZ.out.below hb2 hl1)
  have HB2 : Hid (Below w.heap.size w w2) := Lib.hid (HB.out.trans (hb2.mono HB.out.size))
  have hl2 := HZ2.out.lt
  clear hb2 HZ HB
  have hlen : (imgB fs bs r).length ≤ 68719476736 := by
    unfold imgB
    have := rowB_le _ (imgB_size fs bs r hs)
    have := imgB_size fs bs r hs
    omega
  obtain ⟨X, HX⟩ : ∃ z, Hid (imgB fs bs r = z) := ⟨_, Lib.hid rfl⟩
  rw [HX.out] at hlen
  rw [HX.out]
  go_wp2_with fail
  refine (rsum_any (w2.alloc (.cells #[S X] 9)) (some ⟨w2.heap.size, 0, none⟩) 1 [X] (lies_made w2 9 [S X] _ (by simp)) (by simp) (by simp; omega)).mono ?_
  rintro e w3 ⟨rfl, hb3⟩
  have HB3 : Hid (Below w.heap.size w w3) := Lib.hid ((HB2.out.alloc HB2.out.size _).trans (hb3.mono (by have := HB2.out.size; simp; omega)))
  have HZ3 := Lib.hid ((HZ2.out.block _).below hb3 (by simp; omega))
  clear hb3 HB2 HZ2
  have HDD : Hid (dig [X].flatten = dig X) := Lib.hid (by simp)
  have HDL : Hid ((dig X).length = 32) := Lib.hid (dig_length X)
  rw [HDD.out]
  obtain ⟨D, HDn⟩ : ∃ z, Hid (dig X = z) := ⟨_, Lib.hid rfl⟩
  rw [HDn.out] at HDL
  rw [HDn.out]
  have HDi : Hid ((Tryd.prog.info? 29).map (·.size) = some (D.map B8).toArray.size) := Lib.hid (by
    rw [List.size_toArray, List.length_map, HDL.out]; kernel_rfl)
  have HDl : Hid ((Tryd.prog.info? 29).map (·.size) = some (D.map B8).length) := Lib.hid (by
    rw [List.length_map, HDL.out]; kernel_rfl)
  have HC1 : Hid (0 + (D.map B8).length ≤ ((List.replicate 32 (0 : UInt8)).map B8).length) := Lib.hid (by rw [List.length_map, List.length_map, HDL.out]; decide)
  go_wp2_with (refine wpList_store_at rfl 29 (.tmp 2) (.tmp 6) rfl rfl (w.heap.size + 1) 0 rfl (D.map B8) rfl HDl.out ((List.replicate 32 (0 : UInt8)).map B8) 29 HZ3.out HC1.out (B8_one _) ?_; intro w6 H6 F6)
  have h6 : Whole w6 (w.heap.size + 1) 29 (D.map B8).toArray := by
    have := H6.out
    rw [List.length_map, HDL.out] at this
    simpa using this
  exact bodyPost_ret (v := .agg (D.map B8).toArray) (results_cell_row rfl _ _ (w.heap.size + 1) 29 _ (0, 0) _ rfl h6 Tryd.underlying29 rfl HDi.out) rfl ⟨by rw [HX.out, HDn.out], below_grown HB3.out F6.out HB3.out.size (by omega)⟩
end Go.Proofs.YtecamaceainfpaaDoor
