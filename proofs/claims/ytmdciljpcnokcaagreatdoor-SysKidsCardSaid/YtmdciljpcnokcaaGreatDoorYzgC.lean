/-
  Walk: geom.Of. (Printed by gen_geomc.py.)
-/
import Derived.Test.YtmdciljpcnokcaaGreatDoorYzgA
namespace Go.Proofs.YtmdciljpcnokcaaGreatDoor
open Go.RowKit

theorem lies_setn6 {w : World} {A : Option Addr} {q : Nat} {a b c d e f : Value} (_h : Lies w w.heap.size A ([] : List Value)) (_hg : ∀ ad : Addr, A = some ad → ([] : List Value) ≠ [] → ad.block ≠ q) :
    Lies ((((((w.setCell ⟨q, 0, none⟩ a).setCell ⟨q, 1, none⟩ b).setCell ⟨q, 2, none⟩ c).setCell ⟨q, 3, none⟩ d).setCell ⟨q, 4, none⟩ e).setCell ⟨q, 5, none⟩ f) ((((((w.setCell ⟨q, 0, none⟩ a).setCell ⟨q, 1, none⟩ b).setCell ⟨q, 2, none⟩ c).setCell ⟨q, 3, none⟩ d).setCell ⟨q, 4, none⟩ e).setCell ⟨q, 5, none⟩ f).heap.size A [] := Lies.none _ _ _
/-- what holds while the region runs -/
def GeoJ9 (wr : World) (ad : Addr) (gx n c : Nat) (v0 : List UInt8) (gb gi : Nat) (g0 g1 g2 g3 g4 g5 pe : Int) (x3 x5 x14 x15 x16 x17 x18 x19 x20 : Value) (Ls : Nat → Bool) (a : Act) (W : World) : Prop :=
  ∃ u26 u27 u28 u29 u30 u31 u32 u33 u34 u35 u36 u37 u38 u25 u39 u40 u6 u7 p6, a = ⟨#[.slice (some ad) n c, undef, .pointer (some ⟨gx, 0, none⟩), x3, undef, x5, u6, u7, undef, undef, .slice (some ad) n c, .int .i64 n, .int .i64 n, .bool false, x14, x15, x16, x17, x18, x19, x20, .slice (some ad) n c, .int .i64 n, .bool false, undef, u25, u26, u27, u28, u29, u30, u31, u32, u33, u34, u35, u36, u37, u38, u39, u40, undef, undef, undef, undef, undef, undef, undef, undef, undef, undef, undef, undef, undef, undef, undef, undef, undef, undef, undef, undef, undef, undef, undef, undef, undef, undef, undef, undef, undef, undef, undef, undef, undef, undef, undef, undef, undef, undef, undef, undef, undef, undef, undef, undef], []⟩ ∧ Below wr.heap.size wr W ∧ wr.heap.size ≤ W.heap.size ∧ (Ls 0 = true → u26 = .slice (some ad) n c) ∧ (Ls 1 = true → u27 = .pointer (some ad)) ∧ (Ls 2 = true → u28 = S v0) ∧ (Ls 3 = true → u29 = S ((v0.drop 4).take 2)) ∧ (Ls 4 = true → u30 = .int .u64 (gb : Int) ∧ Lies W W.heap.size (none : Option Addr) ([] : List Value)) ∧ (Ls 5 = true → u31 = .int .i64 (gb : Int)) ∧ (Ls 6 = true → u32 = .slice (some ad) n c) ∧ (Ls 7 = true → u33 = .pointer (some ad)) ∧ (Ls 8 = true → u34 = S v0) ∧ (Ls 9 = true → u35 = S ((v0.drop 6).take 2)) ∧ (Ls 10 = true → u36 = .int .u64 (gi : Int) ∧ Lies W W.heap.size (none : Option Addr) ([] : List Value)) ∧ (Ls 11 = true → u37 = .int .i64 (gi : Int)) ∧ (Ls 12 = true → u38 = .tuple #[.agg #[.int .i64 g0, .int .i64 g1, .int .i64 g2, .int .i64 g3, .int .i64 g4, .int .i64 g5], .int .i64 pe] ∧ Lies W W.heap.size (none : Option Addr) ([] : List Value)) ∧ (Ls 13 = true → u25 = .tuple #[.agg #[.int .i64 g0, .int .i64 g1, .int .i64 g2, .int .i64 g3, .int .i64 g4, .int .i64 g5], .int .i64 pe]) ∧ (Ls 14 = true → u39 = .agg #[.int .i64 g0, .int .i64 g1, .int .i64 g2, .int .i64 g3, .int .i64 g4, .int .i64 g5]) ∧ (Ls 15 = true → u40 = .int .i64 pe) ∧ (Ls 16 = true → u6 = .pointer (some ⟨p6, 0, none⟩) ∧ wr.heap.size ≤ p6 ∧ p6 < W.heap.size) ∧ (Ls 16 = true → Ls 17 = false → Whole W p6 117 #[.int .i64 0, .int .i64 0, .int .i64 0, .int .i64 0, .int .i64 0, .int .i64 0]) ∧ (Ls 17 = true → Whole W p6 117 #[.int .i64 g0, .int .i64 g1, .int .i64 g2, .int .i64 g3, .int .i64 g4, .int .i64 g5]) ∧ (Ls 17 = true → ∀ j ∈ [4, 10, 12, 16], Ls j = true) ∧ (Ls 18 = true → u7 = .int .i64 pe) ∧ (Ls 4 = true → Ls 16 = true → ∀ qd : Addr, (none : Option Addr) = some qd → ([] : List Value) ≠ [] → qd.block ≠ p6) ∧ (Ls 10 = true → Ls 16 = true → ∀ qd : Addr, (none : Option Addr) = some qd → ([] : List Value) ≠ [] → qd.block ≠ p6) ∧ (Ls 12 = true → Ls 16 = true → ∀ qd : Addr, (none : Option Addr) = some qd → ([] : List Value) ≠ [] → qd.block ≠ p6)
set_option maxRecDepth 100000 in
set_option maxHeartbeats 2000000 in
theorem geomOf_any (w : World) (A : Option Addr) (c : Nat) (v : List (List UInt8)) (hA : Strs w w.heap.size A v) (hl : v.length ≤ 274877906944) :
    Calls Tryz.prog 241 #[.slice A v.length c] w fun e w' => e = .returned (.tuple #[.agg (geoV (geomL v)).toArray, .int .i64 (geomE v)]) ∧ Below w.heap.size w w' := by
  have hz := Whole.made w 117 #[.int .i64 0, .int .i64 0, .int .i64 0, .int .i64 0, .int .i64 0, .int .i64 0]
  have hb : Below w.heap.size w (w.alloc (.cells #[.int .i64 0, .int .i64 0, .int .i64 0, .int .i64 0, .int .i64 0, .int .i64 0] 117)) := (Below.refl _ _).alloc (Nat.le_refl _) _
  have HA0 := Lib.hid (hA.below hb)
  clear hA
  go_enter Tryz.func241, Tryz.ntmps241
  go_upto_region 1 with (fail)
  change Code.wp _ _ _ _ (w.alloc (.cells #[.int .i64 0, .int .i64 0, .int .i64 0, .int .i64 0, .int .i64 0, .int .i64 0] 117))
  generalize (w.alloc (.cells #[.int .i64 0, .int .i64 0, .int .i64 0, .int .i64 0, .int .i64 0, .int .i64 0] 117)) = w1 at *
  generalize hgx : w.heap.size = gx at *
  have HGX := Lib.hid hgx
  have HZ := Lib.hid hz
  have HW := Lib.hid hb
  have hgl : gx < w1.heap.size := hz.lt
  clear hgx hb hz
  have HFA : Hid (∀ W, Below w1.heap.size w1 W → Strs W W.heap.size A v) := Lib.hid fun W hW => (Lies.below HA0.out (hW.mono (by omega))).wide (by have := hW.size; omega)
  have HCZ : Hid (∀ W, Below w1.heap.size w1 W → Whole W gx 117 (geoV geo0).toArray) := Lib.hid fun W hW => HZ.out.below hW (by omega)
  have HNO : Hid (geomB v = false → geomE v = 3 ∧ geomL v = geo0) := Lib.hid fun h => by unfold geomE geomL; rw [h]; exact ⟨rfl, rfl⟩
  go_wp2_with fail
  go_loopw [12] (fun i wr => ∃ k : Nat, k ≤ v.length ∧ i = .int .i64 k ∧ Hid ((v.take k).all is128 = true) ∧ Hid (Below w1.heap.size w1 wr)) (fun i _ => v.length - (intOf i).toNat)
  case atStart => exact ⟨0, by omega, rfl, Lib.hid rfl, Lib.hid (Below.refl _ _)⟩
  case round =>
    obtain ⟨k, hk, rfl, HN, HV⟩ := hrel
    by_cases hlt : k < v.length
    · obtain ⟨x, hx⟩ := get_some hlt
      have HY := Lib.hid (@all_on _ is128 v k x hx HN.out)
      have HNO := Lib.hid (@all_bad _ is128 v k x hx)
      obtain ⟨ad, hadr, had, hc⟩ := Strs.at' (HFA.out wr HV.out) hlt
      have hgd : v.getD k [] = x := by rw [List.getD_eq_getElem?_getD, hx]; rfl
      rw [hgd] at hc
      rw [hadr]
      have b0 : wr.cell? (ad.add k) = _ := hc
      clear hc hx hgd
      have i0 : (0 : Int) ≤ (k : Int) := by omega
      have i1 : (k : Int) < (v.length : Int) := by omega
      by_cases h1 : x.length = 128
      · have HQ := Lib.hid (HY.out (by unfold is128; simp [h1]))
        have d : (x.length == 128) = true := beq_iff_eq.2 h1
        have d' : ((x.length : Int) != 128) = false := by simp [h1]
        have d'' : (x.length != 128) = false := by simp [h1]
        clear h1 HY HNO
        go_wp2_with fail
        go_roundw
        case rel =>
          have R : ∃ k' : Nat, k' ≤ v.length ∧ Value.int .i64 ((k : Int) + 1) = .int .i64 k' ∧ Hid ((v.take k').all is128 = true) ∧ Hid (Below w1.heap.size w1 wr) := ⟨k + 1, by omega, by go_num, HQ, HV⟩
          first | exact R | ((repeat apply Exists.intro); exact ⟨R, rfl⟩)
        case measure => simp [intOf]; omega
      · have HQ := Lib.hid (HNO.out (by unfold is128; simp [h1]))
        have d' : ((x.length : Int) != 128) = true := by simp; omega
        have d'' : (x.length != 128) = true := by simp [h1]
        clear h1 HY HNO
        have HG := Lib.hid (show geomB v = false by unfold geomB; rw [HQ.out]; rfl)
        go_wp2_with (first | (refine wpList_store_all rfl 117 (.tmp 2) (.tmp 19) rfl rfl gx rfl (geoV geo0) rfl Tryz.sizeGeo (geoV geo0) 117 (HCZ.out _ HV.out) rfl (ints_one _) ?_; intro w5 HS5 HG5))
        have q0 := HS5.out.cell 0
        have q1 := HS5.out.cell 1
        have q2 := HS5.out.cell 2
        have q3 := HS5.out.cell 3
        have q4 := HS5.out.cell 4
        have q5 := HS5.out.cell 5
        refine bodyPost_ret (v := .tuple #[.agg #[.int .i64 0, .int .i64 0, .int .i64 0, .int .i64 0, .int .i64 0, .int .i64 0], .int .i64 3]) (by simp [results, Tryz.results241, go_sem, q0, q1, q2, q3, q4, q5, geoV, geo0]) rfl ⟨by rw [(HNO.out HG.out).1, (HNO.out HG.out).2]; rfl, ?_⟩
        rw [HGX.out]
        exact below_grown (HW.out.trans (HV.out.mono (by omega))) HG5.out (Nat.le_trans (Nat.le_of_lt hgl) HV.out.size) (Nat.le_refl _)
    · obtain rfl : k = v.length := by omega
      have hd : decide (v.length < v.length) = false := by simp
      rw [List.take_of_length_le (Nat.le_refl _)] at HN
      have HAL : Hid (v.all is128 = true) := HN
      clear HN hd
      by_cases h16 : v.length < 16
      · have HG := Lib.hid (show geomB v = false by unfold geomB; rw [decide_eq_false (by omega : ¬ 16 ≤ v.length)]; simp)
        have d1 : decide ((v.length : Int) < 16) = true := decide_eq_true (by omega)
        have d1' : decide (v.length < 16) = true := decide_eq_true h16
        clear h16
        go_wp2_with (first | (refine wpList_store_all rfl 117 (.tmp 2) (.tmp 24) rfl rfl gx rfl (geoV geo0) rfl Tryz.sizeGeo (geoV geo0) 117 (HCZ.out _ HV.out) rfl (ints_one _) ?_; intro w5 HS5 HG5))
        have q0 := HS5.out.cell 0
        have q1 := HS5.out.cell 1
        have q2 := HS5.out.cell 2
        have q3 := HS5.out.cell 3
        have q4 := HS5.out.cell 4
        have q5 := HS5.out.cell 5
        refine bodyPost_ret (v := .tuple #[.agg #[.int .i64 0, .int .i64 0, .int .i64 0, .int .i64 0, .int .i64 0, .int .i64 0], .int .i64 3]) (by simp [results, Tryz.results241, go_sem, q0, q1, q2, q3, q4, q5, geoV, geo0]) rfl ⟨by rw [(HNO.out HG.out).1, (HNO.out HG.out).2]; rfl, ?_⟩
        rw [HGX.out]
        exact below_grown (HW.out.trans (HV.out.mono (by omega))) HG5.out (Nat.le_trans (Nat.le_of_lt hgl) HV.out.size) (Nat.le_refl _)
      · have d1 : decide ((v.length : Int) < 16) = false := decide_eq_false (by omega)
        have d1' : decide (v.length < 16) = false := decide_eq_false h16
        have HVR := Lib.hid HV.out.size
        clear d1'
        obtain ⟨ad, hadr, had, hc0⟩ := Strs.at' (HFA.out wr HV.out) (show 0 < v.length by omega)
        subst hadr
        have hc2 : wr.cell? ⟨ad.block, ad.off + 2, none⟩ = some (S (v.getD 2 [])) := by
          obtain ⟨ad', e, _, h⟩ := Strs.at' (HFA.out wr HV.out) (show 2 < v.length by omega)
          injection e with e; subst e
          rw [← h]; congr 1
        have hc0' : wr.cell? ad = some (S (v.getD 0 [])) := by rw [← hc0, Addr.add_zero']
        have HV0L : Hid ((v.getD 0 []).length = 128) := Lib.hid (by
          rw [List.getD_eq_getElem?_getD, List.getElem?_eq_getElem (by omega)]
          exact all_128 HAL.out _ (List.getElem_mem _))
        have HV2L : Hid ((v.getD 2 []).length = 128) := Lib.hid (by
          rw [List.getD_eq_getElem?_getD, List.getElem?_eq_getElem (by omega)]
          exact all_128 HAL.out _ (List.getElem_mem _))
        have HGB : Hid (geomB v = (decide (planE v.length (inoL v) = 0) && decide (v.getD 0 [] = headL v.length (inoL v)) && mapAll (v.getD 2 []) (3 + ((inoL v : Int) + 1) / 2) v.length 1024)) := Lib.hid (by
          unfold geomB
          rw [HAL.out, decide_eq_true (show 16 ≤ v.length by omega)]
          simp)
        have HGL : Hid (geomB v = true → geomE v = 0 ∧ geomL v = planL v.length (inoL v)) := Lib.hid fun h => by unfold geomE geomL; rw [h]; exact ⟨rfl, rfl⟩
        have HBK : Hid (∀ i, v.getD 0 [] = headL v.length i → v.length ≤ 223 → blkL v = v.length) := Lib.hid fun i h h2 => by unfold blkL; rw [h]; exact headL_blk (by omega)
        have hgb : blkL v < 65536 := by
          unfold blkL getL
          have h := getF_lt ((((v.getD 0 []).drop 4).take 2).take 8)
          have h2 : 256 ^ ((((v.getD 0 []).drop 4).take 2).take 8).length ≤ 256 ^ 2 := Nat.pow_le_pow_right (by omega) (by simp; omega)
          omega
        have hgi : inoL v < 65536 := by
          unfold inoL getL
          have h := getF_lt ((((v.getD 0 []).drop 6).take 2).take 8)
          have h2 : 256 ^ ((((v.getD 0 []).drop 6).take 2).take 8).length ≤ 256 ^ 2 := Nat.pow_le_pow_right (by omega) (by simp; omega)
          omega
        have HX1 := Lib.hid (run_cut_S (v.getD 0 []) .i64 .i64 4 6 4 6 rfl rfl (by omega) (by rw [HV0L.out]; omega))
        have HX2 := Lib.hid (run_cut_S (v.getD 0 []) .i64 .i64 6 8 6 8 rfl rfl (by omega) (by rw [HV0L.out]; omega))
        have CG1 : Hid (∀ W, Below wr.heap.size wr W → Calls Tryz.prog 193 #[S (((v.getD 0 []).drop 4).take 2)] W fun e w' => (e = .returned (.int .u64 (blkL v : Int)) ∧ Lies w' w'.heap.size (none : Option Addr) ([] : List Value) ∧ (∀ qd : Addr, (none : Option Addr) = some qd → W.heap.size ≤ qd.block)) ∧ Below W.heap.size W w') := Lib.hid fun W _ => by
          refine (get_any W (((v.getD 0 []).drop 4).take 2) (by simp; omega)).mono ?_
          rintro e w' ⟨he, rfl⟩
          exact ⟨⟨he, Lies.none _ _ _, fun _ h => by cases h⟩, Below.refl _ _⟩
        have CG2 : Hid (∀ W, Below wr.heap.size wr W → Calls Tryz.prog 193 #[S (((v.getD 0 []).drop 6).take 2)] W fun e w' => (e = .returned (.int .u64 (inoL v : Int)) ∧ Lies w' w'.heap.size (none : Option Addr) ([] : List Value) ∧ (∀ qd : Addr, (none : Option Addr) = some qd → W.heap.size ≤ qd.block)) ∧ Below W.heap.size W w') := Lib.hid fun W _ => by
          refine (get_any W (((v.getD 0 []).drop 6).take 2) (by simp; omega)).mono ?_
          rintro e w' ⟨he, rfl⟩
          exact ⟨⟨he, Lies.none _ _ _, fun _ h => by cases h⟩, Below.refl _ _⟩
        obtain ⟨g0, g1, g2, g3, g4, g5, hpl⟩ := planL_six (blkL v) (inoL v)
        have HPL := Lib.hid hpl
        have CPL : Hid (∀ W, Below wr.heap.size wr W → Calls Tryz.prog 283 #[.int .i64 (blkL v : Int), .int .i64 (inoL v : Int)] W fun e w' => (e = .returned (.tuple #[.agg #[.int .i64 g0, .int .i64 g1, .int .i64 g2, .int .i64 g3, .int .i64 g4, .int .i64 g5], .int .i64 (planE (blkL v) (inoL v))]) ∧ Lies w' w'.heap.size (none : Option Addr) ([] : List Value) ∧ (∀ qd : Addr, (none : Option Addr) = some qd → W.heap.size ≤ qd.block)) ∧ Below W.heap.size W w') := Lib.hid fun W _ => by
          have := plan_any W (blkL v) (inoL v)
          rw [hpl] at this
          refine this.mono ?_
          rintro e w' ⟨he, hb⟩
          exact ⟨⟨he, Lies.none _ _ _, fun _ h => by cases h⟩, hb⟩
        clear hpl hc0
        have h0n : 0 < v.length := by omega
        have h2n : (2 : Int) < (v.length : Int) := by omega
        generalize hpe : planE (blkL v) (inoL v) = pe at *
        have HPE := Lib.hid hpe
        generalize hgbn : blkL v = gb at *
        have HGBN := Lib.hid hgbn
        generalize hgin : inoL v = gi at *
        have HGIN := Lib.hid hgin
        generalize hv0 : v.getD 0 [] = v0 at *
        have HV00 := Lib.hid hv0
        generalize hv2 : v.getD 2 [] = v2 at *
        generalize hnn : v.length = nn at *
        have HNNN := Lib.hid hnn
        clear hpe hgbn hgin hv0 hv2 hnn
        have HC0 : Hid (∀ W, Below wr.heap.size wr W → W.cell? ad = some (S v0)) := Lib.hid fun W hW => (hW.cell had).trans hc0'
        have HC2 : Hid (∀ W, Below wr.heap.size wr W → W.cell? ⟨ad.block, ad.off + 2, none⟩ = some (S v2)) := Lib.hid fun W hW => (hW.cell (p := ⟨ad.block, ad.off + 2, none⟩) had).trans hc2
        have HV1 : Hid (IntKind.i64.wrap (gb : Int) = (gb : Int)) := Lib.hid (IntWalk.i64_in _ (by omega))
        have HV2 : Hid (IntKind.i64.wrap (gi : Int) = (gi : Int)) := Lib.hid (IntWalk.i64_in _ (by omega))
        clear hc2 hc0'
        go_upto_region 9 with (fail)
        clear d1
        refine wp_region_set (by kernel_rfl) (GeoJ9 wr ad gx nn c v0 gb gi g0 g1 g2 g3 g4 g5 pe u3 u5 u14 u15 u16 u17 u18 u19 u20) (downOk_spec (by kernel_rfl)) ?init9 ?step9 ?fin9
        case init9 =>
          unfold GeoJ9
          refine ⟨_, _, _, _, _, _, _, _, _, _, _, _, _, _, _, _, _, _, 0, rfl, (Below.refl _ _).drew, Nat.le_refl _, (fun h => by cases h), (fun h => by cases h), (fun h => by cases h), (fun h => by cases h), (fun h => by cases h), (fun h => by cases h), (fun h => by cases h), (fun h => by cases h), (fun h => by cases h), (fun h => by cases h), (fun h => by cases h), (fun h => by cases h), (fun h => by cases h), (fun h => by cases h), (fun h => by cases h), (fun h => by cases h), (fun h => by cases h), (fun h => by cases h), (fun h => by cases h), (fun h => by cases h), (fun h => by cases h), (fun h => by cases h), (fun h => by cases h), (fun h => by cases h)⟩
        case step9 =>
          intro i o ho Ls a W hLi hed hJ
          unfold GeoJ9 at hJ
          obtain ⟨u26, u27, u28, u29, u30, u31, u32, u33, u34, u35, u36, u37, u38, u25, u39, u40, u6, u7, p6, rfl, hB, hz, h0, h1, h2, h3, h4, h5, h6, h7, h8, h9, h10, h11, h12, h13, h14, h15, h16, z16, h17, k17, h18, f4_16_0, f10_16_0, f12_16_0⟩ := hJ
          match i, ho with
          | 0, ho =>
            have ho' := Option.some.inj ho
            subst ho'
            refine wpOp_of ho rfl ?_
            go_simp
            unfold GeoJ9
            exact ⟨_, _, _, _, _, _, _, _, _, _, _, _, _, _, _, _, _, _, p6, rfl, hB, hz, (fun _ => rfl), h1, h2, h3, h4, h5, h6, h7, h8, h9, h10, h11, h12, h13, h14, h15, h16, z16, h17, (fun h j hj => also_of (k17 h j hj)), h18, f4_16_0, f10_16_0, f12_16_0⟩
          | 1, ho =>
            have ho' := Option.some.inj ho
            subst ho'
            refine wpOp_of ho rfl ?_
            have hn := needs_spec (l := [0]) (by kernel_rfl) hed
            obtain rfl := h0 (hn 0 (by simp))
            clear hn
            go_simp
            unfold GeoJ9
            exact ⟨_, _, _, _, _, _, _, _, _, _, _, _, _, _, _, _, _, _, p6, rfl, hB, hz, h0, (fun _ => rfl), h2, h3, h4, h5, h6, h7, h8, h9, h10, h11, h12, h13, h14, h15, h16, z16, h17, (fun h j hj => also_of (k17 h j hj)), h18, f4_16_0, f10_16_0, f12_16_0⟩
          | 2, ho =>
            have ho' := Option.some.inj ho
            subst ho'
            refine wpOp_of ho rfl ?_
            have hn := needs_spec (l := [1]) (by kernel_rfl) hed
            obtain rfl := h1 (hn 1 (by simp))
            have c0 : W.cell? ad = some (S v0) := HC0.out W hB
            clear hn
            go_simp
            unfold GeoJ9
            exact ⟨_, _, _, _, _, _, _, _, _, _, _, _, _, _, _, _, _, _, p6, rfl, hB, hz, h0, h1, (fun _ => rfl), h3, h4, h5, h6, h7, h8, h9, h10, h11, h12, h13, h14, h15, h16, z16, h17, (fun h j hj => also_of (k17 h j hj)), h18, f4_16_0, f10_16_0, f12_16_0⟩
          | 3, ho =>
            have ho' := Option.some.inj ho
            subst ho'
            refine wpOp_of ho rfl ?_
            have hn := needs_spec (l := [2]) (by kernel_rfl) hed
            obtain rfl := h2 (hn 2 (by simp))
            have xc := HX1.out
            clear hn
            go_simp
            unfold GeoJ9
            exact ⟨_, _, _, _, _, _, _, _, _, _, _, _, _, _, _, _, _, _, p6, rfl, hB, hz, h0, h1, h2, (fun _ => rfl), h4, h5, h6, h7, h8, h9, h10, h11, h12, h13, h14, h15, h16, z16, h17, (fun h j hj => also_of (k17 h j hj)), h18, f4_16_0, f10_16_0, f12_16_0⟩
          | 4, ho =>
            have ho' := Option.some.inj ho
            subst ho'
            refine wpOp_of ho rfl ?_
            have hn := needs_spec (l := [3]) (by kernel_rfl) hed
            obtain rfl := h3 (hn 3 (by simp))
            have l17 : Ls 17 = true → False := fun h => by have := k17 h 4 (by simp); rw [hLi] at this; cases this
            have hc := CG1.out W hB
            clear hn
            have Hz := Lib.hid hz
            go_simp
            refine hc.mono fun e W2 he => ?_
            obtain ⟨⟨rfl, q0, r0⟩, hb2⟩ := he
            unfold GeoJ9
            exact ⟨_, _, _, _, _, _, _, _, _, _, _, _, _, _, _, _, _, _, p6, rfl, hB.trans (hb2.mono Hz.out), Nat.le_trans Hz.out hb2.size, h0, h1, h2, h3, (fun _ => ⟨rfl, q0⟩), h5, h6, h7, h8, h9, (fun h => ⟨(h10 h).1, (Lies.below (h10 h).2 hb2).wide hb2.size⟩), h11, (fun h => ⟨(h12 h).1, (Lies.below (h12 h).2 hb2).wide hb2.size⟩), h13, h14, h15, (fun h => ⟨(h16 h).1, (h16 h).2.1, Nat.lt_of_lt_of_le (h16 h).2.2 hb2.size⟩), (fun h h' => (z16 h h').below hb2 (h16 h).2.2), (fun h => (l17 h).elim), (fun h => (l17 h).elim), h18, (fun _ h ad e _ => by have h1 := r0 ad e; have h2 := (h16 h).2.2; omega), f10_16_0, f12_16_0⟩
          | 5, ho =>
            have ho' := Option.some.inj ho
            subst ho'
            refine wpOp_of ho rfl ?_
            have hn := needs_spec (l := [4]) (by kernel_rfl) hed
            obtain ⟨rfl, p4_0⟩ := h4 (hn 4 (by simp))
            have wv := HV1.out
            clear hn
            go_simp
            unfold GeoJ9
            exact ⟨_, _, _, _, _, _, _, _, _, _, _, _, _, _, _, _, _, _, p6, rfl, hB, hz, h0, h1, h2, h3, h4, (fun _ => rfl), h6, h7, h8, h9, h10, h11, h12, h13, h14, h15, h16, z16, h17, (fun h j hj => also_of (k17 h j hj)), h18, f4_16_0, f10_16_0, f12_16_0⟩
          | 6, ho =>
            have ho' := Option.some.inj ho
            subst ho'
            refine wpOp_of ho rfl ?_
            go_simp
            unfold GeoJ9
            exact ⟨_, _, _, _, _, _, _, _, _, _, _, _, _, _, _, _, _, _, p6, rfl, hB, hz, h0, h1, h2, h3, h4, h5, (fun _ => rfl), h7, h8, h9, h10, h11, h12, h13, h14, h15, h16, z16, h17, (fun h j hj => also_of (k17 h j hj)), h18, f4_16_0, f10_16_0, f12_16_0⟩
          | 7, ho =>
            have ho' := Option.some.inj ho
            subst ho'
            refine wpOp_of ho rfl ?_
            have hn := needs_spec (l := [6]) (by kernel_rfl) hed
            obtain rfl := h6 (hn 6 (by simp))
            clear hn
            go_simp
            unfold GeoJ9
            exact ⟨_, _, _, _, _, _, _, _, _, _, _, _, _, _, _, _, _, _, p6, rfl, hB, hz, h0, h1, h2, h3, h4, h5, h6, (fun _ => rfl), h8, h9, h10, h11, h12, h13, h14, h15, h16, z16, h17, (fun h j hj => also_of (k17 h j hj)), h18, f4_16_0, f10_16_0, f12_16_0⟩
          | 8, ho =>
            have ho' := Option.some.inj ho
            subst ho'
            refine wpOp_of ho rfl ?_
            have hn := needs_spec (l := [7]) (by kernel_rfl) hed
            obtain rfl := h7 (hn 7 (by simp))
            have c0 : W.cell? ad = some (S v0) := HC0.out W hB
            clear hn
            go_simp
            unfold GeoJ9
            exact ⟨_, _, _, _, _, _, _, _, _, _, _, _, _, _, _, _, _, _, p6, rfl, hB, hz, h0, h1, h2, h3, h4, h5, h6, h7, (fun _ => rfl), h9, h10, h11, h12, h13, h14, h15, h16, z16, h17, (fun h j hj => also_of (k17 h j hj)), h18, f4_16_0, f10_16_0, f12_16_0⟩
          | 9, ho =>
            have ho' := Option.some.inj ho
            subst ho'
            refine wpOp_of ho rfl ?_
            have hn := needs_spec (l := [8]) (by kernel_rfl) hed
            obtain rfl := h8 (hn 8 (by simp))
            have xc := HX2.out
            clear hn
            go_simp
            unfold GeoJ9
            exact ⟨_, _, _, _, _, _, _, _, _, _, _, _, _, _, _, _, _, _, p6, rfl, hB, hz, h0, h1, h2, h3, h4, h5, h6, h7, h8, (fun _ => rfl), h10, h11, h12, h13, h14, h15, h16, z16, h17, (fun h j hj => also_of (k17 h j hj)), h18, f4_16_0, f10_16_0, f12_16_0⟩
          | 10, ho =>
            have ho' := Option.some.inj ho
            subst ho'
            refine wpOp_of ho rfl ?_
            have hn := needs_spec (l := [9]) (by kernel_rfl) hed
            obtain rfl := h9 (hn 9 (by simp))
            have l17 : Ls 17 = true → False := fun h => by have := k17 h 10 (by simp); rw [hLi] at this; cases this
            have hc := CG2.out W hB
            clear hn
            have Hz := Lib.hid hz
            go_simp
            refine hc.mono fun e W2 he => ?_
            obtain ⟨⟨rfl, q0, r0⟩, hb2⟩ := he
            unfold GeoJ9
            exact ⟨_, _, _, _, _, _, _, _, _, _, _, _, _, _, _, _, _, _, p6, rfl, hB.trans (hb2.mono Hz.out), Nat.le_trans Hz.out hb2.size, h0, h1, h2, h3, (fun h => ⟨(h4 h).1, (Lies.below (h4 h).2 hb2).wide hb2.size⟩), h5, h6, h7, h8, h9, (fun _ => ⟨rfl, q0⟩), h11, (fun h => ⟨(h12 h).1, (Lies.below (h12 h).2 hb2).wide hb2.size⟩), h13, h14, h15, (fun h => ⟨(h16 h).1, (h16 h).2.1, Nat.lt_of_lt_of_le (h16 h).2.2 hb2.size⟩), (fun h h' => (z16 h h').below hb2 (h16 h).2.2), (fun h => (l17 h).elim), (fun h => (l17 h).elim), h18, f4_16_0, (fun _ h ad e _ => by have h1 := r0 ad e; have h2 := (h16 h).2.2; omega), f12_16_0⟩
          | 11, ho =>
            have ho' := Option.some.inj ho
            subst ho'
            refine wpOp_of ho rfl ?_
            have hn := needs_spec (l := [10]) (by kernel_rfl) hed
            obtain ⟨rfl, p10_0⟩ := h10 (hn 10 (by simp))
            have wv := HV2.out
            clear hn
            go_simp
            unfold GeoJ9
            exact ⟨_, _, _, _, _, _, _, _, _, _, _, _, _, _, _, _, _, _, p6, rfl, hB, hz, h0, h1, h2, h3, h4, h5, h6, h7, h8, h9, h10, (fun _ => rfl), h12, h13, h14, h15, h16, z16, h17, (fun h j hj => also_of (k17 h j hj)), h18, f4_16_0, f10_16_0, f12_16_0⟩
          | 12, ho =>
            have ho' := Option.some.inj ho
            subst ho'
            refine wpOp_of ho rfl ?_
            have hn := needs_spec (l := [5, 11]) (by kernel_rfl) hed
            obtain rfl := h5 (hn 5 (by simp))
            obtain rfl := h11 (hn 11 (by simp))
            have l17 : Ls 17 = true → False := fun h => by have := k17 h 12 (by simp); rw [hLi] at this; cases this
            have hc := CPL.out W hB
            clear hn
            have Hz := Lib.hid hz
            go_simp
            refine hc.mono fun e W2 he => ?_
            obtain ⟨⟨rfl, q0, r0⟩, hb2⟩ := he
            unfold GeoJ9
            exact ⟨_, _, _, _, _, _, _, _, _, _, _, _, _, _, _, _, _, _, p6, rfl, hB.trans (hb2.mono Hz.out), Nat.le_trans Hz.out hb2.size, h0, h1, h2, h3, (fun h => ⟨(h4 h).1, (Lies.below (h4 h).2 hb2).wide hb2.size⟩), h5, h6, h7, h8, h9, (fun h => ⟨(h10 h).1, (Lies.below (h10 h).2 hb2).wide hb2.size⟩), h11, (fun _ => ⟨rfl, q0⟩), h13, h14, h15, (fun h => ⟨(h16 h).1, (h16 h).2.1, Nat.lt_of_lt_of_le (h16 h).2.2 hb2.size⟩), (fun h h' => (z16 h h').below hb2 (h16 h).2.2), (fun h => (l17 h).elim), (fun h => (l17 h).elim), h18, f4_16_0, f10_16_0, (fun _ h ad e _ => by have h1 := r0 ad e; have h2 := (h16 h).2.2; omega)⟩
          | 13, ho =>
            have ho' := Option.some.inj ho
            subst ho'
            refine wpOp_of ho rfl ?_
            have hn := needs_spec (l := [12]) (by kernel_rfl) hed
            obtain ⟨rfl, p12_0⟩ := h12 (hn 12 (by simp))
            clear hn
            go_simp
            unfold GeoJ9
            exact ⟨_, _, _, _, _, _, _, _, _, _, _, _, _, _, _, _, _, _, p6, rfl, hB, hz, h0, h1, h2, h3, h4, h5, h6, h7, h8, h9, h10, h11, h12, (fun _ => rfl), h14, h15, h16, z16, h17, (fun h j hj => also_of (k17 h j hj)), h18, f4_16_0, f10_16_0, f12_16_0⟩
          | 14, ho =>
            have ho' := Option.some.inj ho
            subst ho'
            refine wpOp_of ho rfl ?_
            have hn := needs_spec (l := [13]) (by kernel_rfl) hed
            obtain rfl := h13 (hn 13 (by simp))
            clear hn
            go_simp
            unfold GeoJ9
            exact ⟨_, _, _, _, _, _, _, _, _, _, _, _, _, _, _, _, _, _, p6, rfl, hB, hz, h0, h1, h2, h3, h4, h5, h6, h7, h8, h9, h10, h11, h12, h13, (fun _ => rfl), h15, h16, z16, h17, (fun h j hj => also_of (k17 h j hj)), h18, f4_16_0, f10_16_0, f12_16_0⟩
          | 15, ho =>
            have ho' := Option.some.inj ho
            subst ho'
            refine wpOp_of ho rfl ?_
            have hn := needs_spec (l := [13]) (by kernel_rfl) hed
            obtain rfl := h13 (hn 13 (by simp))
            clear hn
            go_simp
            unfold GeoJ9
            exact ⟨_, _, _, _, _, _, _, _, _, _, _, _, _, _, _, _, _, _, p6, rfl, hB, hz, h0, h1, h2, h3, h4, h5, h6, h7, h8, h9, h10, h11, h12, h13, h14, (fun _ => rfl), h16, z16, h17, (fun h j hj => also_of (k17 h j hj)), h18, f4_16_0, f10_16_0, f12_16_0⟩
          | 16, ho =>
            have ho' := Option.some.inj ho
            subst ho'
            refine wpOp_of ho rfl ?_
            have l17 : Ls 17 = true → False := fun h => by have := k17 h 16 (by simp); rw [hLi] at this; cases this
            have Hz := Lib.hid hz
            go_simp
            unfold GeoJ9
            exact ⟨_, _, _, _, _, _, _, _, _, _, _, _, _, _, _, _, _, _, W.heap.size, rfl, hB.alloc Hz.out _, by have := Hz.out; simp; omega, h0, h1, h2, h3, (fun h => ⟨(h4 h).1, Lies.block' (h4 h).2 _⟩), h5, h6, h7, h8, h9, (fun h => ⟨(h10 h).1, Lies.block' (h10 h).2 _⟩), h11, (fun h => ⟨(h12 h).1, Lies.block' (h12 h).2 _⟩), h13, h14, h15, (fun _ => ⟨rfl, Hz.out, by simp⟩), (fun _ _ => Whole.made W _ _), (fun h => (l17 h).elim), (fun h => (l17 h).elim), h18, (fun h _ ad e hne => by have := lies_lt (h4 h).2 e hne; omega), (fun h _ ad e hne => by have := lies_lt (h10 h).2 e hne; omega), (fun h _ ad e hne => by have := lies_lt (h12 h).2 e hne; omega)⟩
          | 17, ho =>
            have ho' := Option.some.inj ho
            subst ho'
            refine wpOp_of ho rfl ?_
            have hn := needs_spec (l := [4, 10, 12, 16, 14]) (by kernel_rfl) hed
            have HN := Lib.hid hn
            obtain ⟨rfl, hp, hpl⟩ := h16 (hn 16 (by simp))
            obtain rfl := h14 (hn 14 (by simp))
            clear hn
            have Hz := Lib.hid hz
            have hw0 := z16 (HN.out 16 (by simp)) hLi
            have c0 : W.cell? ⟨p6, 0, none⟩ = some (.int .i64 0) := hw0.cell 0
            have y0 := hw0.free 0
            have c1 : W.cell? ⟨p6, 1, none⟩ = some (.int .i64 0) := hw0.cell 1
            have y1 := hw0.free 1
            have c2 : W.cell? ⟨p6, 2, none⟩ = some (.int .i64 0) := hw0.cell 2
            have y2 := hw0.free 2
            have c3 : W.cell? ⟨p6, 3, none⟩ = some (.int .i64 0) := hw0.cell 3
            have y3 := hw0.free 3
            have c4 : W.cell? ⟨p6, 4, none⟩ = some (.int .i64 0) := hw0.cell 4
            have y4 := hw0.free 4
            have c5 : W.cell? ⟨p6, 5, none⟩ = some (.int .i64 0) := hw0.cell 5
            have y5 := hw0.free 5
            go_simp
            unfold GeoJ9
            exact ⟨_, _, _, _, _, _, _, _, _, _, _, _, _, _, _, _, _, _, p6, rfl, ((((((hB.setCell (p := ⟨p6, 0, none⟩) hp _).setCell (p := ⟨p6, 1, none⟩) hp _).setCell (p := ⟨p6, 2, none⟩) hp _).setCell (p := ⟨p6, 3, none⟩) hp _).setCell (p := ⟨p6, 4, none⟩) hp _).setCell (p := ⟨p6, 5, none⟩) hp _), by simpa [World.setCell] using Hz.out, h0, h1, h2, h3, (fun h => ⟨(h4 h).1, lies_setn6 (h4 h).2 (f4_16_0 h (HN.out 16 (by simp)))⟩), h5, h6, h7, h8, h9, (fun h => ⟨(h10 h).1, lies_setn6 (h10 h).2 (f10_16_0 h (HN.out 16 (by simp)))⟩), h11, (fun h => ⟨(h12 h).1, lies_setn6 (h12 h).2 (f12_16_0 h (HN.out 16 (by simp)))⟩), h13, h14, h15, (fun _ => ⟨rfl, hp, by simpa [World.setCell] using hpl⟩), (fun _ h' => by have h'' : (true : Bool) = false := h'; cases h''), (fun _ => ((((((hw0.set 0 _).set 1 _).set 2 _).set 3 _).set 4 _).set 5 _)), (fun _ j hj => also_of (HN.out j (List.mem_append_left [14] hj))), h18, f4_16_0, f10_16_0, f12_16_0⟩
          | 18, ho =>
            have ho' := Option.some.inj ho
            subst ho'
            refine wpOp_of ho rfl ?_
            have hn := needs_spec (l := [15]) (by kernel_rfl) hed
            obtain rfl := h15 (hn 15 (by simp))
            clear hn
            go_simp
            unfold GeoJ9
            exact ⟨_, _, _, _, _, _, _, _, _, _, _, _, _, _, _, _, _, _, p6, rfl, hB, hz, h0, h1, h2, h3, h4, h5, h6, h7, h8, h9, h10, h11, h12, h13, h14, h15, h16, z16, h17, (fun h j hj => also_of (k17 h j hj)), (fun _ => rfl), f4_16_0, f10_16_0, f12_16_0⟩
          | n + 19, ho => simp at ho
        case fin9 =>
          intro Ls a w9 hL hJ
          unfold GeoJ9 at hJ
          obtain ⟨u26, u27, u28, u29, u30, u31, u32, u33, u34, u35, u36, u37, u38, u25, u39, u40, u6, u7, p6, rfl, hB, hz, h0, h1, h2, h3, h4, h5, h6, h7, h8, h9, h10, h11, h12, h13, h14, h15, h16, z16, h17, k17, h18, f4_16_0, f10_16_0, f12_16_0⟩ := hJ
          have hn : ∀ j, j < 19 → Ls j = true := fun j hj => hL j hj
          obtain rfl := h0 (hn 0 (by omega))
          obtain rfl := h1 (hn 1 (by omega))
          obtain rfl := h2 (hn 2 (by omega))
          obtain rfl := h3 (hn 3 (by omega))
          obtain ⟨rfl, l4_0⟩ := h4 (hn 4 (by omega))
          obtain rfl := h5 (hn 5 (by omega))
          obtain rfl := h6 (hn 6 (by omega))
          obtain rfl := h7 (hn 7 (by omega))
          obtain rfl := h8 (hn 8 (by omega))
          obtain rfl := h9 (hn 9 (by omega))
          obtain ⟨rfl, l10_0⟩ := h10 (hn 10 (by omega))
          obtain rfl := h11 (hn 11 (by omega))
          obtain ⟨rfl, l12_0⟩ := h12 (hn 12 (by omega))
          obtain rfl := h13 (hn 13 (by omega))
          obtain rfl := h14 (hn 14 (by omega))
          obtain rfl := h15 (hn 15 (by omega))
          obtain ⟨rfl, g16, gl16⟩ := h16 (hn 16 (by omega))
          have b17 := h17 (hn 17 (by omega))
          obtain rfl := h18 (hn 18 (by omega))
          clear h0 h1 h2 h3 h4 h5 h6 h7 h8 h9 h10 h11 h12 h13 h14 h15 h16 z16 h17 k17 h18 f4_16_0 f10_16_0 f12_16_0 hn hL
          clear l4_0 l10_0 l12_0
          go_upto_region 10 with (fail)
          have HB9 := Lib.hid hB
          have HP6 := Lib.hid b17
          have hp6 := gl16
          have HV9 := Lib.hid (HV.out.trans (hB.mono HVR.out))
          have hz9 := HV9.out.size
          have c0 := HC0.out w9 hB
          clear hB hz b17 CG1 CG2 CPL HX1 HX2 HV1 HV2
          by_cases hpe : pe = 0
          · have hpz : planE gb gi = 0 := by rw [HPE.out]; exact hpe
            obtain ⟨z1, z2, z3, z4, z5⟩ := planE_zero.1 hpz
            have hq := HPL.out
            rw [planL, if_pos hpz] at hq
            simp only [List.cons.injEq, and_true] at hq
            obtain ⟨rfl, rfl, rfl, rfl, rfl, rfl⟩ := hq
            have HPZ := Lib.hid hpz
            subst hpe
            clear hpz HPL HPE
            by_cases hbn : gb = nn
            · subst hbn
              obtain ⟨dd, hdd⟩ : ∃ z : Int, 3 + ((gi : Int) + 1) / 2 = z := ⟨_, rfl⟩
              have HDD := Lib.hid hdd
              rw [hdd] at HP6
              have hd0 : 0 ≤ dd ∧ dd ≤ 300 := by omega
              obtain ⟨hd01, hd02⟩ := hd0
              have hdb : dd < (gb : Int) := by omega
              clear hdd
              have HK : Hid (∀ W, Below w9.heap.size w9 W → W.cell? ad = some (S v0) ∧ W.cell? ⟨p6, 0, none⟩ = some (.int .i64 (gb : Int)) ∧ W.cell? ⟨p6, 1, none⟩ = some (.int .i64 (gi : Int)) ∧ W.cell? ⟨p6, 2, none⟩ = some (.int .i64 1) ∧ W.cell? ⟨p6, 3, none⟩ = some (.int .i64 2) ∧ W.cell? ⟨p6, 4, none⟩ = some (.int .i64 3) ∧ W.cell? ⟨p6, 5, none⟩ = some (.int .i64 dd)) := Lib.hid fun W hW => ⟨HC0.out W (HB9.out.trans (hW.mono HB9.out.size)), (HP6.out.below hW hp6).cell 0, (HP6.out.below hW hp6).cell 1, (HP6.out.below hW hp6).cell 2, (HP6.out.below hW hp6).cell 3, (HP6.out.below hW hp6).cell 4, (HP6.out.below hW hp6).cell 5⟩
              have CF : Hid (∀ W, Calls Tryz.prog 284 #[.agg #[.int .i64 (gb : Int), .int .i64 (gi : Int), .int .i64 1, .int .i64 2, .int .i64 3, .int .i64 dd]] W fun e w' => e = .returned (S (headL gb gi)) ∧ Below W.heap.size W w') := Lib.hid fun W => first_any W gb gi dd (by omega) (by omega)
              have BB := Lib.hid (Below.refl w9.heap.size w9).drew
              have hne : ((gb : Int) != (gb : Int)) = false := by simp
              generalize hh0 : headL gb gi = h0 at *
              have HH0 := Lib.hid hh0
              clear hh0 c0
              by_cases hv : v0 = h0
              · subst hv
                have hve : (v0 != v0) = false := by simp
                go_region_held3 (fun W => W.cell? ad = some (S v0) ∧ W.cell? ⟨p6, 0, none⟩ = some (.int .i64 (gb : Int)) ∧ W.cell? ⟨p6, 1, none⟩ = some (.int .i64 (gi : Int)) ∧ W.cell? ⟨p6, 2, none⟩ = some (.int .i64 1) ∧ W.cell? ⟨p6, 3, none⟩ = some (.int .i64 2) ∧ W.cell? ⟨p6, 4, none⟩ = some (.int .i64 3) ∧ W.cell? ⟨p6, 5, none⟩ = some (.int .i64 dd))
                  (first
                    | (exact HK.out _ (Below.refl _ _))
                    | (exact HK.out _ BB.out))
                  (first
                    | (go_at_call 284; (with_reducible refine (CF.out _).mono ?_); rintro e wx ⟨rfl, hbl⟩; have BB' := Lib.hid (BB.out.trans (hbl.mono BB.out.size)); clear BB hbl; have BB := BB'; clear BB'))
                go_wp2_with fail
                have HVB := Lib.hid (HV9.out.trans (BB.out.mono hz9))
                clear hve hne HK CF
                obtain ⟨wo, hwo⟩ : ∃ wo : World, wo = wx := ⟨_, rfl⟩
                have e20 := HC2.out wx (HB9.out.trans (BB.out.mono HB9.out.size))
                have p60 : wx.cell? ⟨p6, 0, none⟩ = some (.int .i64 (gb : Int)) := (HP6.out.below BB.out hp6).cell 0
                have p65 : wx.cell? ⟨p6, 5, none⟩ = some (.int .i64 dd) := (HP6.out.below BB.out hp6).cell 5
                have HCF := Lib.hid (HP6.out.below BB.out hp6)
                have CB := fun i (hi : i < 1024) => Lib.hid (bit_any wx (some ad) c gb v2 i ⟨ad, rfl, e20⟩ (by omega) HV2L.out hi)
                have HCB := Lib.hid CB
                clear CB e20 hwo
                go_loop [59] (fun i => ∃ k : Nat, k ≤ 1024 ∧ i = .int .i64 (k : Int) ∧ Hid (mapAll v2 dd gb k = true)) (fun i => 1024 - (intOf i).toNat)
                case atStart => exact ⟨0, by omega, rfl, Lib.hid rfl⟩
                case round =>
                  clear hk
                  obtain ⟨k, hk, rfl, HM⟩ := hrel
                  by_cases hlt : k < 1024
                  · have CB := HCB.out k hlt
                    have HMS := Lib.hid (mapAll_succ v2 dd gb k)
                    have HMD : Hid (mapB v2 dd gb k = (!(decide ((k : Int) < dd) && !bitB v2 k) && !(decide ((gb : Int) ≤ (k : Int)) && bitB v2 k))) := Lib.hid rfl
                    have HMX := Lib.hid (@mapAll_bad v2 dd gb k 1024 hlt)
                    generalize bitB v2 k = bt at *
                    have l1 : decide ((k : Int) < 1024) = true := decide_eq_true (by omega)
                    have l1' : decide (k < 1024) = true := decide_eq_true hlt
                    by_cases ha : (k : Int) < dd
                    · have a1 : decide ((k : Int) < dd) = true := decide_eq_true ha
                      cases bt with
                      | false =>
                        have HG : Hid (geomB v = false) := Lib.hid (by rw [HGB.out, HDD.out, HMX.out (by rw [HMD.out, a1]; rfl)]; simp)
                        clear ha
                        go_wp2_with (first | (go_at_call 285; refine CB.out.mono ?_; rintro e w10 ⟨rfl, rfl⟩) | (refine wpList_store_all rfl 117 (.tmp 2) (.tmp 82) rfl rfl gx rfl (geoV geo0) rfl Tryz.sizeGeo (geoV geo0) 117 (HCZ.out _ HVB.out) rfl (ints_one _) ?_; intro w12 HS12 HG12))
                        have q0 := HS12.out.cell 0
                        have q1 := HS12.out.cell 1
                        have q2 := HS12.out.cell 2
                        have q3 := HS12.out.cell 3
                        have q4 := HS12.out.cell 4
                        have q5 := HS12.out.cell 5
                        refine bodyPost_ret (v := .tuple #[.agg #[.int .i64 0, .int .i64 0, .int .i64 0, .int .i64 0, .int .i64 0, .int .i64 0], .int .i64 3]) (by simp [results, Tryz.results241, go_sem, q0, q1, q2, q3, q4, q5, geoV, geo0]) rfl ⟨by rw [(HNO.out HG.out).1, (HNO.out HG.out).2]; rfl, ?_⟩
                        rw [HGX.out]
                        exact below_grown (HW.out.trans (HVB.out.mono (by omega))) HG12.out (Nat.le_trans (Nat.le_of_lt hgl) HVB.out.size) (Nat.le_refl _)
                      | true =>
                        have b1 : decide ((gb : Int) ≤ (k : Int)) = false := decide_eq_false (by omega)
                        have HQ : Hid (mapAll v2 dd gb (k + 1) = true) := Lib.hid (by rw [HMS.out, HM.out, HMD.out, a1, b1]; rfl)
                        have b1' : decide (gb ≤ k) = false := decide_eq_false (by omega)
                        clear ha
                        go_wp2_with (go_at_call 285; refine CB.out.mono ?_; rintro e w10 ⟨rfl, rfl⟩)
                        go_round
                        case rel => exact ⟨k + 1, by omega, by go_num, HQ⟩
                        case measure => simp [intOf]; omega
                    · have a1 : decide ((k : Int) < dd) = false := decide_eq_false ha
                      by_cases hc : (gb : Int) ≤ (k : Int)
                      · have b1 : decide ((gb : Int) ≤ (k : Int)) = true := decide_eq_true hc
                        have b1' : decide (gb ≤ k) = true := decide_eq_true (by omega)
                        cases bt with
                        | true =>
                          have HG : Hid (geomB v = false) := Lib.hid (by rw [HGB.out, HDD.out, HMX.out (by rw [HMD.out, a1, b1]; rfl)]; simp)
                          clear ha hc
                          go_wp2_with (first | (go_at_call 285; refine CB.out.mono ?_; rintro e w10 ⟨rfl, rfl⟩) | (refine wpList_store_all rfl 117 (.tmp 2) (.tmp 82) rfl rfl gx rfl (geoV geo0) rfl Tryz.sizeGeo (geoV geo0) 117 (HCZ.out _ HVB.out) rfl (ints_one _) ?_; intro w12 HS12 HG12))
                          have q0 := HS12.out.cell 0
                          have q1 := HS12.out.cell 1
                          have q2 := HS12.out.cell 2
                          have q3 := HS12.out.cell 3
                          have q4 := HS12.out.cell 4
                          have q5 := HS12.out.cell 5
                          refine bodyPost_ret (v := .tuple #[.agg #[.int .i64 0, .int .i64 0, .int .i64 0, .int .i64 0, .int .i64 0, .int .i64 0], .int .i64 3]) (by simp [results, Tryz.results241, go_sem, q0, q1, q2, q3, q4, q5, geoV, geo0]) rfl ⟨by rw [(HNO.out HG.out).1, (HNO.out HG.out).2]; rfl, ?_⟩
                          rw [HGX.out]
                          exact below_grown (HW.out.trans (HVB.out.mono (by omega))) HG12.out (Nat.le_trans (Nat.le_of_lt hgl) HVB.out.size) (Nat.le_refl _)
                        | false =>
                          have HQ : Hid (mapAll v2 dd gb (k + 1) = true) := Lib.hid (by rw [HMS.out, HM.out, HMD.out, a1, b1]; rfl)
                          clear ha hc
                          go_wp2_with (go_at_call 285; refine CB.out.mono ?_; rintro e w10 ⟨rfl, rfl⟩)
                          go_round
                          case rel => exact ⟨k + 1, by omega, by go_num, HQ⟩
                          case measure => simp [intOf]; omega
                      · have b1 : decide ((gb : Int) ≤ (k : Int)) = false := decide_eq_false hc
                        have b1' : decide (gb ≤ k) = false := decide_eq_false (by omega)
                        have HQ : Hid (mapAll v2 dd gb (k + 1) = true) := Lib.hid (by rw [HMS.out, HM.out, HMD.out, a1, b1]; cases bt <;> rfl)
                        clear ha hc
                        cases bt with
                        | true =>
                          go_wp2_with (go_at_call 285; refine CB.out.mono ?_; rintro e w10 ⟨rfl, rfl⟩)
                          go_round
                          case rel => exact ⟨k + 1, by omega, by go_num, HQ⟩
                          case measure => simp [intOf]; omega
                        | false =>
                          go_wp2_with (go_at_call 285; refine CB.out.mono ?_; rintro e w10 ⟨rfl, rfl⟩)
                          go_round
                          case rel => exact ⟨k + 1, by omega, by go_num, HQ⟩
                          case measure => simp [intOf]; omega
                  · obtain rfl : k = 1024 := by omega
                    have HG := Lib.hid (HGL.out (by rw [HGB.out, HPZ.out, HDD.out, HM.out]; simp))
                    have l1 : decide ((1024 : Int) < 1024) = false := by decide
                    have k1 : wx.cell? ⟨p6, 1, none⟩ = some (.int .i64 (gi : Int)) := HCF.out.cell 1
                    have k2 : wx.cell? ⟨p6, 2, none⟩ = some (.int .i64 1) := HCF.out.cell 2
                    have k3 : wx.cell? ⟨p6, 3, none⟩ = some (.int .i64 2) := HCF.out.cell 3
                    have k4 : wx.cell? ⟨p6, 4, none⟩ = some (.int .i64 3) := HCF.out.cell 4
                    have HPL : Hid (planL gb gi = [(gb : Int), (gi : Int), 1, 2, 3, dd]) := Lib.hid (by unfold planL; rw [if_pos HPZ.out, HDD.out])
                    rw [show ((1024 : Nat) : Int) = 1024 from rfl]
                    go_wp2_with (refine wpList_store_all rfl 117 (.tmp 2) (.tmp 84) rfl rfl gx rfl (geoV [(gb : Int), (gi : Int), 1, 2, 3, dd]) rfl Tryz.sizeGeo (geoV geo0) 117 (HCZ.out _ HVB.out) rfl (ints_one _) ?_; intro w11 HS11 HG11)
                    have q0 := HS11.out.cell 0
                    have q1 := HS11.out.cell 1
                    have q2 := HS11.out.cell 2
                    have q3 := HS11.out.cell 3
                    have q4 := HS11.out.cell 4
                    have q5 := HS11.out.cell 5
                    refine bodyPost_ret (v := .tuple #[.agg #[.int .i64 (gb : Int), .int .i64 (gi : Int), .int .i64 1, .int .i64 2, .int .i64 3, .int .i64 dd], .int .i64 0]) (by simp [results, Tryz.results241, go_sem, q0, q1, q2, q3, q4, q5, geoV]) rfl ⟨by rw [HG.out.1, HG.out.2, HPL.out]; rfl, ?_⟩
                    rw [HGX.out]
                    exact below_grown (HW.out.trans (HVB.out.mono (by omega))) HG11.out (Nat.le_trans (Nat.le_of_lt hgl) HVB.out.size) (Nat.le_refl _)
              · have hve : (v0 == h0) = false := beq_eq_false_iff_ne.2 hv
                have HG : Hid (geomB v = false) := Lib.hid (by rw [HGB.out, decide_eq_false hv]; simp)
                clear hv
                go_region_held3 (fun W => W.cell? ad = some (S v0) ∧ W.cell? ⟨p6, 0, none⟩ = some (.int .i64 (gb : Int)) ∧ W.cell? ⟨p6, 1, none⟩ = some (.int .i64 (gi : Int)) ∧ W.cell? ⟨p6, 2, none⟩ = some (.int .i64 1) ∧ W.cell? ⟨p6, 3, none⟩ = some (.int .i64 2) ∧ W.cell? ⟨p6, 4, none⟩ = some (.int .i64 3) ∧ W.cell? ⟨p6, 5, none⟩ = some (.int .i64 dd))
                  (first
                    | (exact HK.out _ (Below.refl _ _))
                    | (exact HK.out _ BB.out))
                  (first
                    | (go_at_call 284; (with_reducible refine (CF.out _).mono ?_); rintro e wx ⟨rfl, hbl⟩; have BB' := Lib.hid (BB.out.trans (hbl.mono BB.out.size)); clear BB hbl; have BB := BB'; clear BB'))
                have HVB := Lib.hid (HV9.out.trans (BB.out.mono hz9))
                go_wp2_with (first | (refine wpList_store_all rfl 117 (.tmp 2) (.tmp 58) rfl rfl gx rfl (geoV geo0) rfl Tryz.sizeGeo (geoV geo0) 117 (HCZ.out _ HVB.out) rfl (ints_one _) ?_; intro w12 HS12 HG12))
                have q0 := HS12.out.cell 0
                have q1 := HS12.out.cell 1
                have q2 := HS12.out.cell 2
                have q3 := HS12.out.cell 3
                have q4 := HS12.out.cell 4
                have q5 := HS12.out.cell 5
                refine bodyPost_ret (v := .tuple #[.agg #[.int .i64 0, .int .i64 0, .int .i64 0, .int .i64 0, .int .i64 0, .int .i64 0], .int .i64 3]) (by simp [results, Tryz.results241, go_sem, q0, q1, q2, q3, q4, q5, geoV, geo0]) rfl ⟨by rw [(HNO.out HG.out).1, (HNO.out HG.out).2]; rfl, ?_⟩
                rw [HGX.out]
                exact below_grown (HW.out.trans (HVB.out.mono (by omega))) HG12.out (Nat.le_trans (Nat.le_of_lt hgl) HVB.out.size) (Nat.le_refl _)
            · have HG : Hid (geomB v = false) := Lib.hid (by
                rw [HGB.out, ← Bool.not_eq_true]
                intro h
                simp only [Bool.and_eq_true, decide_eq_true_eq] at h
                exact hbn (HBK.out gi h.1.2 (by have := (planE_zero.1 h.1.1).2.1; omega)))
              have hne : ((gb : Int) != (nn : Int)) = true := by simp; omega
              have e0 : w9.cell? ⟨p6, 0, none⟩ = some (.int .i64 (gb : Int)) := HP6.out.cell 0
              clear hbn
              go_quiet (fail)
              go_wp2_with (first | (refine wpList_store_all rfl 117 (.tmp 2) (.tmp 58) rfl rfl gx rfl (geoV geo0) rfl Tryz.sizeGeo (geoV geo0) 117 (HCZ.out _ (Below.draws HV9.out _)) rfl (ints_one _) ?_; intro w12 HS12 HG12))
              have q0 := HS12.out.cell 0
              have q1 := HS12.out.cell 1
              have q2 := HS12.out.cell 2
              have q3 := HS12.out.cell 3
              have q4 := HS12.out.cell 4
              have q5 := HS12.out.cell 5
              refine bodyPost_ret (v := .tuple #[.agg #[.int .i64 0, .int .i64 0, .int .i64 0, .int .i64 0, .int .i64 0, .int .i64 0], .int .i64 3]) (by simp [results, Tryz.results241, go_sem, q0, q1, q2, q3, q4, q5, geoV, geo0]) rfl ⟨by rw [(HNO.out HG.out).1, (HNO.out HG.out).2]; rfl, ?_⟩
              rw [HGX.out]
              exact below_grown (HW.out.trans ((Below.draws HV9.out _).mono (by omega))) HG12.out (Nat.le_trans (Nat.le_of_lt hgl) (Below.draws HV9.out _).size) (Nat.le_refl _)
          · have HG : Hid (geomB v = false) := Lib.hid (by
              rw [HGB.out, ← Bool.not_eq_true]
              intro h
              simp only [Bool.and_eq_true, decide_eq_true_eq] at h
              have hb := HBK.out gi h.1.2 (by have := (planE_zero.1 h.1.1).2.1; omega)
              rw [← hb] at h
              exact hpe (HPE.out ▸ h.1.1))
            have hne : (pe != 0) = true := by simp [hpe]
            clear hpe
            go_quiet (fail)
            go_wp2_with (first | (refine wpList_store_all rfl 117 (.tmp 2) (.tmp 58) rfl rfl gx rfl (geoV geo0) rfl Tryz.sizeGeo (geoV geo0) 117 (HCZ.out _ (Below.draws HV9.out _)) rfl (ints_one _) ?_; intro w12 HS12 HG12))
            have q0 := HS12.out.cell 0
            have q1 := HS12.out.cell 1
            have q2 := HS12.out.cell 2
            have q3 := HS12.out.cell 3
            have q4 := HS12.out.cell 4
            have q5 := HS12.out.cell 5
            refine bodyPost_ret (v := .tuple #[.agg #[.int .i64 0, .int .i64 0, .int .i64 0, .int .i64 0, .int .i64 0, .int .i64 0], .int .i64 3]) (by simp [results, Tryz.results241, go_sem, q0, q1, q2, q3, q4, q5, geoV, geo0]) rfl ⟨by rw [(HNO.out HG.out).1, (HNO.out HG.out).2]; rfl, ?_⟩
            rw [HGX.out]
            exact below_grown (HW.out.trans ((Below.draws HV9.out _).mono (by omega))) HG12.out (Nat.le_trans (Nat.le_of_lt hgl) (Below.draws HV9.out _).size) (Nat.le_refl _)
end Go.Proofs.YtmdciljpcnokcaaGreatDoor
