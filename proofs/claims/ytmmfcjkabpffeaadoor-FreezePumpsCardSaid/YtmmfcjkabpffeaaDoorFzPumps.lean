/-
  Walk: hibernaclelaw34.FreezePumps. (Printed by gen_fzpumps.py.)
-/
import Derived.Test.YtmmfcjkabpffeaaDoorFzGoes
import Derived.Test.YtmmfcjkabpffeaaDoorFzPumpsP
namespace Go.Proofs.YtmmfcjkabpffeaaDoor
open Go.RowKit

/-- what holds while the region runs -/
def FzP6 (w3 : World) (gx : Nat) (A A' : Option Addr) (c c' : Nat) (ck : Int) (fl bl : List Kp) (r : List UInt8) (M : List Value) (xa yb : Int) (f1 b1 f2 b2 : List Kp) (Ls : Nat → Bool) (a : Act) (W : World) : Prop :=
  ∃ u24 u25 u26 u27 u28 u29 u30 u11 A1 m1 B1 n1 A2 m2 B2 n2 p1, a = ⟨#[.agg #[.int .u64 ck, .slice A fl.length c, .slice A' bl.length c', S r], .agg M.toArray, .int .u8 xa, .int .u8 yb, .pointer (some ⟨gx, 0, none⟩), .pointer (some ⟨gx + 1, 0, none⟩), undef, undef, .bool false, .int .i64 xa, .int .i64 yb, u11, undef, undef, .bool true, .bool false, .agg M.toArray, .agg #[.int .u64 ck, .slice A fl.length c, .slice A' bl.length c', S r], .int .i64 0, .bool false, .int .u8 xa, .int .i64 xa, .int .u8 yb, .int .i64 yb, u24, u25, u26, u27, u28, u29, u30, undef, undef, undef, undef, undef, undef, undef, undef, undef, undef, undef, undef, undef, undef, undef, undef, undef, undef, undef, undef, undef, undef, undef, undef, undef, undef, undef, undef, undef, undef, undef, undef, undef, undef, undef, undef, undef, undef, undef, undef, undef, undef, undef, undef, undef, undef, undef, undef], []⟩ ∧ Below w3.heap.size w3 W ∧ w3.heap.size ≤ W.heap.size ∧ (Ls 0 = true → u24 = .agg #[.int .u64 ck, .slice A fl.length c, .slice A' bl.length c', S r]) ∧ (Ls 1 = true → u25 = .agg M.toArray) ∧ (Ls 2 = true → u26 = .int .i64 xa) ∧ (Ls 3 = true → u27 = .agg #[.int .u64 ck, .slice A1 f1.length m1, .slice B1 b1.length n1, S r] ∧ Lies W W.heap.size A1 (kCells f1) ∧ Lies W W.heap.size B1 (kCells b1)) ∧ (Ls 4 = true → u28 = .agg M.toArray) ∧ (Ls 5 = true → u29 = .int .i64 yb) ∧ (Ls 6 = true → u30 = .agg #[.int .u64 ck, .slice A2 f2.length m2, .slice B2 b2.length n2, S r] ∧ Lies W W.heap.size A2 (kCells f2) ∧ Lies W W.heap.size B2 (kCells b2)) ∧ (Ls 7 = true → u11 = .pointer (some ⟨p1, 0, none⟩) ∧ w3.heap.size ≤ p1 ∧ p1 < W.heap.size) ∧ (Ls 7 = true → Ls 8 = false → Whole W p1 25 #[.int .u64 0, .slice none 0 0, .slice none 0 0, S []]) ∧ (Ls 8 = true → Whole W p1 25 #[.int .u64 ck, .slice A2 f2.length m2, .slice B2 b2.length n2, S r]) ∧ (Ls 8 = true → ∀ j ∈ [3, 6, 7], Ls j = true) ∧ (Ls 3 = true → Ls 7 = true → ∀ ad, A1 = some ad → (kCells f1) ≠ [] → ad.block ≠ p1) ∧ (Ls 3 = true → Ls 7 = true → ∀ ad, B1 = some ad → (kCells b1) ≠ [] → ad.block ≠ p1) ∧ (Ls 6 = true → Ls 7 = true → ∀ ad, A2 = some ad → (kCells f2) ≠ [] → ad.block ≠ p1) ∧ (Ls 6 = true → Ls 7 = true → ∀ ad, B2 = some ad → (kCells b2) ≠ [] → ad.block ≠ p1)
/-- what holds while the region runs -/
def FzP13 (w11 : World) (gx p1 gx7 gy9 : Nat) (A A' A1 B1 A2 B2 H3 I3 H4 I4 F L : Option Addr) (c c' m1 n1 m2 n2 m3 n3 m4 n4 cf cl : Nat) (ck : Int) (fl bl : List Kp) (r : List UInt8) (M : List Value) (xa yb : Int) (f1 b1 f2 b2 : List Kp) (fs bs : List (List UInt8)) (l1 l2 : Int) (Ls : Nat → Bool) (a : Act) (W : World) : Prop :=
  ∃ u69 u70 u71 u72 u73 u74 u75 u76 u77 u78 u8, a = ⟨#[.agg #[.int .u64 ck, .slice A fl.length c, .slice A' bl.length c', S r], .agg M.toArray, .int .u8 xa, .int .u8 yb, .pointer (some ⟨gx, 0, none⟩), .pointer (some ⟨gx + 1, 0, none⟩), undef, undef, u8, .int .i64 xa, .int .i64 yb, .pointer (some ⟨p1, 0, none⟩), .pointer (some ⟨gx7, 0, none⟩), .pointer (some ⟨gy9, 0, none⟩), .bool true, .bool false, .agg M.toArray, .agg #[.int .u64 ck, .slice A fl.length c, .slice A' bl.length c', S r], .int .i64 0, .bool false, .int .u8 xa, .int .i64 xa, .int .u8 yb, .int .i64 yb, .agg #[.int .u64 ck, .slice A fl.length c, .slice A' bl.length c', S r], .agg M.toArray, .int .i64 xa, .agg #[.int .u64 ck, .slice A1 f1.length m1, .slice B1 b1.length n1, S r], .agg M.toArray, .int .i64 yb, .agg #[.int .u64 ck, .slice A2 f2.length m2, .slice B2 b2.length n2, S r], .agg #[.int .u64 ck, .slice A fl.length c, .slice A' bl.length c', S r], .agg M.toArray, .int .i64 xa, .int .i64 yb, .int .i64 (xa + yb), .agg #[.int .u64 ck, .slice H3 f2.length m3, .slice I3 b2.length n3, S r], .agg #[.int .u64 ck, .slice A fl.length c, .slice A' bl.length c', S r], .agg M.toArray, .int .i64 xa, .int .i64 (-xa), .agg #[.int .u64 ck, .slice H4 fl.length m4, .slice I4 bl.length n4, S r], .agg #[.int .u64 ck, .slice A2 f2.length m2, .slice B2 b2.length n2, S r], .agg #[.int .u64 ck, .slice H3 f2.length m3, .slice I3 b2.length n3, S r], .bool true, .bool false, .bool false, .agg #[.int .u64 ck, .slice H4 fl.length m4, .slice I4 bl.length n4, S r], .agg #[.int .u64 ck, .slice A fl.length c, .slice A' bl.length c', S r], .bool true, .bool false, .bool false, .pointer (some ⟨gx, 1, none⟩), .slice A fl.length c, .int .i64 (fl.length : Nat), .pointer (some ⟨gx + 1, 4, none⟩), .slice F fs.length cf, .int .i64 (fs.length : Nat), .bool false, .bool false, .pointer (some ⟨gx, 2, none⟩), .slice A' bl.length c', .int .i64 (bl.length : Nat), .pointer (some ⟨gx + 1, 13, none⟩), .pointer (some ⟨gx + 1, 13, none⟩), .slice L bs.length cl, .int .i64 (bs.length : Nat), .bool false, .bool false, u69, u70, u71, u72, u73, u74, u75, u76, u77, u78], []⟩ ∧ Below w11.heap.size w11 W ∧ w11.heap.size ≤ W.heap.size ∧ (Ls 0 = true → u69 = .agg #[.int .u64 ck, .slice H3 f2.length m3, .slice I3 b2.length n3, S r]) ∧ (Ls 1 = true → u70 = .int .i64 l2 ∧ Lies W W.heap.size A' (kCells bl)) ∧ (Ls 2 = true → u71 = .agg #[.int .u64 ck, .slice A fl.length c, .slice A' bl.length c', S r]) ∧ (Ls 3 = true → u72 = .int .i64 l1 ∧ Lies W W.heap.size A' (kCells bl)) ∧ (Ls 4 = true → u73 = .int .i64 xa) ∧ (Ls 5 = true → u74 = .int .i64 (l1 - xa)) ∧ (Ls 6 = true → u75 = .int .i64 yb) ∧ (Ls 7 = true → u76 = .int .i64 (l1 - xa - yb)) ∧ (Ls 8 = true → u77 = .int .i64 (max (l1 - xa - yb) 0)) ∧ (Ls 9 = true → u78 = .bool true) ∧ (Ls 10 = true → u8 = .bool true)
set_option maxRecDepth 100000 in
set_option maxHeartbeats 4000000 in
theorem fpumps_any (w : World) (A A' : Option Addr) (c c' : Nat) (ck : Int) (fl bl : List Kp) (r : List UInt8) (M : List Value) (fs bs : List (List UInt8)) (xa yb : Int) (ha : 0 ≤ xa ∧ xa < 256) (hb8 : 0 ≤ yb ∧ yb < 256) (hA : Kps w w.heap.size A fl) (hA' : Kps w w.heap.size A' bl) (hM : IsM w w.heap.size M fs bs) (hM' : IsM' M) :
    Calls Tryd.prog 5 #[.agg #[.int .u64 ck, .slice A fl.length c, .slice A' bl.length c', S r], .agg M.toArray, .int .u8 xa, .int .u8 yb] w fun e w' => e = .returned (.bool true) ∧ Below w.heap.size w w' := by
  have hl17 : M.toArray.size = 17 := by rw [List.size_toArray]; exact hM.1
  have MI : Hid ((Tryd.prog.info? 33).map (·.size) = some M.length) := Lib.hid (by rw [hM.1]; kernel_rfl)
  have hs := (Whole.made w 25 #[.int .u64 ck, .slice A fl.length c, .slice A' bl.length c', S r]).block (.cells M.toArray 33)
  have hm := Whole.made (w.alloc (.cells #[.int .u64 ck, .slice A fl.length c, .slice A' bl.length c', S r] 25)) 33 M.toArray
  have hb : Below w.heap.size w ((w.alloc (.cells #[.int .u64 ck, .slice A fl.length c, .slice A' bl.length c', S r] 25)).alloc (.cells M.toArray 33)) := ((Below.refl _ _).alloc (Nat.le_refl _) _).alloc (by simp) _
  rw [show (w.alloc (.cells #[.int .u64 ck, .slice A fl.length c, .slice A' bl.length c', S r] 25)).heap.size = w.heap.size + 1 by simp] at hm
  have HA := Lib.hid (hA.below hb)
  have HA' := Lib.hid (hA'.below hb)
  have HM := Lib.hid (IsM.below hM hb)
  have HM' := Lib.hid hM'
  obtain ⟨a0, a1⟩ := ha
  obtain ⟨b0, b1'⟩ := hb8
  clear hA hA' hM hM'
  go_enter Tryd.func5, Tryd.ntmps5
  go_upto_region 1 with (fail)
  change Code.wp _ _ _ _ ((w.alloc (.cells #[.int .u64 ck, .slice A fl.length c, .slice A' bl.length c', S r] 25)).alloc (.cells M.toArray 33))
  clear hl17
  generalize ((w.alloc (.cells #[.int .u64 ck, .slice A fl.length c, .slice A' bl.length c', S r] 25)).alloc (.cells M.toArray 33)) = w1 at *
  generalize hgx : w.heap.size = gx at *
  have HGX := Lib.hid hgx
  have HS := Lib.hid hs
  have HW := Lib.hid hb
  have hgl : gx + 1 < w1.heap.size := hm.lt
  have HLL : Hid (∀ (W : World) (G : Option Addr) (xs : List Value), Below w1.heap.size w1 W → Lies w1 gx G xs → Lies W W.heap.size G xs) := Lib.hid fun W G xs hW h => (h.below (hW.mono (by omega))).wide (by have := hW.size; omega)
  have HRM : Hid (∀ W, Below w1.heap.size w1 W → ∀ j v, M[j]? = some v → W.cell? ((⟨gx + 1, 0, none⟩ : Addr).add j) = some v) := Lib.hid fun W hW => (hm.below hW (by omega)).reads
  have IM : Hid (∀ W, Below w1.heap.size w1 W → IsM W W.heap.size M fs bs) := Lib.hid fun W hW => (IsM.below HM.out (hW.mono (by omega))).wide (by have := hW.size; omega)
  have HEND : Hid (∀ W, Below w1.heap.size w1 W → Below gx w W) := Lib.hid fun W hW => HW.out.trans (hW.mono (by omega))
  have HXM := Lib.hid hm
  clear hgx hs hm hb
  go_wp2_with fail
  refine (alive_any w1).mono ?_
  rintro e w2 ⟨rfl, hb2⟩
  have HB2 := Lib.hid hb2
  have hs2 := HS.out.below hb2 (by omega)
  have s0 : w2.cell? ⟨gx, 0, none⟩ = some (.int .u64 ck) := hs2.cell 0
  have s1 : w2.cell? ⟨gx, 1, none⟩ = some (.slice A fl.length c) := hs2.cell 1
  have s2 : w2.cell? ⟨gx, 2, none⟩ = some (.slice A' bl.length c') := hs2.cell 2
  have s3 : w2.cell? ⟨gx, 3, none⟩ = some (S r) := hs2.cell 3
  clear hb2 hs2
  have CG := Lib.hid (frgreat_any w2 A A' c c' ck fl bl r w2.heap.size M fs bs (IM.out w2 HB2.out) HM'.out)
  go_wp2_with (refine wpList_load_at rfl 33 (.tmp 5) rfl ⟨gx + 1, 0, none⟩ rfl M _ (HRM.out _ HB2.out) Tryd.underlying33 rfl MI.out ?_)
  refine CG.out.mono ?_
  rintro e w3 ⟨⟨g, rfl, hg⟩, hb3⟩
  have HB3 := Lib.hid (HB2.out.trans (hb3.mono HB2.out.size))
  clear CG s0 s1 s2 s3 hb3
  rcases hg with rfl | ⟨rfl, g1, g2, g3, g4⟩
  · go_wp2_with fail
    go_ret
    exact ⟨rfl, by rw [HGX.out]; exact HEND.out _ HB3.out⟩
  · go_upto_region 6 with (fail)
    obtain ⟨f1, HQ1⟩ : ∃ z, Hid (pumpFL fl fs xa = z) := ⟨_, Lib.hid rfl⟩
    obtain ⟨b1, HQ2⟩ : ∃ z, Hid (pumpBL fl bl fs bs xa = z) := ⟨_, Lib.hid rfl⟩
    obtain ⟨f2, HQ3⟩ : ∃ z, Hid (pumpFL fl fs (xa + yb) = z) := ⟨_, Lib.hid rfl⟩
    obtain ⟨b2, HQ4⟩ : ∃ z, Hid (pumpBL fl bl fs bs (xa + yb) = z) := ⟨_, Lib.hid rfl⟩
    have e1 : f1.length ≤ 70 := by rw [← HQ1.out, pumpFL_length]; omega
    have e2 : b1.length ≤ 260 := by rw [← HQ2.out, pumpBL_length]; omega
    have e3 : f2.length ≤ 70 := by rw [← HQ3.out, pumpFL_length]; omega
    have e4 : b2.length ≤ 260 := by rw [← HQ4.out, pumpBL_length]; omega
    have HTWO := Lib.hid (pumps_two fl bl fs bs xa yb a0 b0)
    rw [HQ1.out, HQ2.out, HQ3.out, HQ4.out] at HTWO
    have HWW : Hid (∀ W, Below w3.heap.size w3 W → Below w1.heap.size w1 W) := Lib.hid fun W hW => HB3.out.trans (hW.mono HB3.out.size)
    have C1 : Hid (∀ W, Below w1.heap.size w1 W → Calls Tryd.prog 10 #[.agg #[.int .u64 ck, .slice A fl.length c, .slice A' bl.length c', S r], .agg M.toArray, .int .i64 xa] W fun e w' => (∃ H m H' m', e = .returned (.agg #[.int .u64 ck, .slice H f1.length m, .slice H' b1.length m', S r]) ∧ Kps w' w'.heap.size H f1 ∧ Kps w' w'.heap.size H' b1 ∧ (∀ ad, H = some ad → W.heap.size ≤ ad.block) ∧ (∀ ad, H' = some ad → W.heap.size ≤ ad.block)) ∧ Below W.heap.size W w') := Lib.hid fun W hW => by
      have := pump_any W A A' c c' ck fl bl r M fs bs xa (by unfold inJ; omega) (HLL.out _ _ _ hW HA.out) (HLL.out _ _ _ hW HA'.out) (IM.out W hW) (by omega) (by omega) (by omega) (by omega)
      rw [show (keepRec pumpF 0 fl fs xa).1 = f1 from HQ1.out, show (keepRec pumpF 0 bl bs (keepRec pumpF 0 fl fs xa).2).1 = b1 from HQ2.out] at this
      exact this
    have C2 : Hid (∀ W H H' m m', Below w1.heap.size w1 W → Kps W W.heap.size H f1 → Kps W W.heap.size H' b1 → Calls Tryd.prog 10 #[.agg #[.int .u64 ck, .slice H f1.length m, .slice H' b1.length m', S r], .agg M.toArray, .int .i64 yb] W fun e w' => (∃ H m H' m', e = .returned (.agg #[.int .u64 ck, .slice H f2.length m, .slice H' b2.length m', S r]) ∧ Kps w' w'.heap.size H f2 ∧ Kps w' w'.heap.size H' b2 ∧ (∀ ad, H = some ad → W.heap.size ≤ ad.block) ∧ (∀ ad, H' = some ad → W.heap.size ≤ ad.block)) ∧ Below W.heap.size W w') := Lib.hid fun W H H' m m' hW q1 q2 => by
      have := pump_any W H H' m m' ck f1 b1 r M fs bs yb (by unfold inJ; omega) q1 q2 (IM.out W hW) (by omega) (by omega) (by omega) (by omega)
      have e5 : (keepRec pumpF 0 f1 fs yb).1 = f2 := HTWO.out.1
      have e6 : (keepRec pumpF 0 b1 bs (keepRec pumpF 0 f1 fs yb).2).1 = b2 := HTWO.out.2
      rw [e5, e6] at this
      exact this
    refine wp_region_set (by kernel_rfl) (FzP6 w3 gx A A' c c' ck fl bl r M xa yb f1 b1 f2 b2) (downOk_spec (by kernel_rfl)) ?init6 ?step6 ?fin6
    case init6 =>
      unfold FzP6
      refine ⟨_, _, _, _, _, _, _, _, none, 0, none, 0, none, 0, none, 0, 0, rfl, (Below.refl _ _).drew, Nat.le_refl _, (fun h => by cases h), (fun h => by cases h), (fun h => by cases h), (fun h => by cases h), (fun h => by cases h), (fun h => by cases h), (fun h => by cases h), (fun h => by cases h), (fun h => by cases h), (fun h => by cases h), (fun h => by cases h), (fun h => by cases h), (fun h => by cases h), (fun h => by cases h), (fun h => by cases h)⟩
    case step6 =>
      intro i o ho Ls a W hLi hed hJ
      unfold FzP6 at hJ
      obtain ⟨u24, u25, u26, u27, u28, u29, u30, u11, A1, m1, B1, n1, A2, m2, B2, n2, p1, rfl, hB, hz, h0, h1, h2, h3, h4, h5, h6, h7, z7, h8, k8, f3_7_0, f3_7_1, f6_7_0, f6_7_1⟩ := hJ
      match i, ho with
      | 0, ho =>
        have ho' := Option.some.inj ho
        subst ho'
        refine wpOp_of ho rfl ?_
        have c0 : W.cell? ⟨gx, 0, none⟩ = some (.int .u64 ck) := (HS.out.below (HWW.out W hB) (by omega)).cell 0
        have c1 : W.cell? ⟨gx, 1, none⟩ = some (.slice A fl.length c) := (HS.out.below (HWW.out W hB) (by omega)).cell 1
        have c2 : W.cell? ⟨gx, 2, none⟩ = some (.slice A' bl.length c') := (HS.out.below (HWW.out W hB) (by omega)).cell 2
        have c3 : W.cell? ⟨gx, 3, none⟩ = some (S r) := (HS.out.below (HWW.out W hB) (by omega)).cell 3
        go_simp
        unfold FzP6
        exact ⟨_, _, _, _, _, _, _, _, A1, m1, B1, n1, A2, m2, B2, n2, p1, rfl, hB, hz, (fun _ => rfl), h1, h2, h3, h4, h5, h6, h7, z7, h8, (fun h j hj => also_of (k8 h j hj)), f3_7_0, f3_7_1, f6_7_0, f6_7_1⟩
      | 1, ho =>
        have ho' := Option.some.inj ho
        subst ho'
        refine wpOp_of ho rfl ?_
        refine wp_load_at 33 (.tmp 5) rfl ⟨gx + 1, 0, none⟩ rfl M _ (HRM.out W (HWW.out W hB)) Tryd.underlying33 rfl MI.out ?_
        unfold FzP6
        exact ⟨_, _, _, _, _, _, _, _, A1, m1, B1, n1, A2, m2, B2, n2, p1, rfl, hB, hz, h0, (fun _ => rfl), h2, h3, h4, h5, h6, h7, z7, h8, (fun h j hj => also_of (k8 h j hj)), f3_7_0, f3_7_1, f6_7_0, f6_7_1⟩
      | 2, ho =>
        have ho' := Option.some.inj ho
        subst ho'
        refine wpOp_of ho rfl ?_
        go_simp
        unfold FzP6
        exact ⟨_, _, _, _, _, _, _, _, A1, m1, B1, n1, A2, m2, B2, n2, p1, rfl, hB, hz, h0, h1, (fun _ => rfl), h3, h4, h5, h6, h7, z7, h8, (fun h j hj => also_of (k8 h j hj)), f3_7_0, f3_7_1, f6_7_0, f6_7_1⟩
      | 3, ho =>
        have ho' := Option.some.inj ho
        subst ho'
        refine wpOp_of ho rfl ?_
        have hn := needs_spec (l := [0, 1, 2]) (by kernel_rfl) hed
        obtain rfl := h0 (hn 0 (by simp))
        obtain rfl := h1 (hn 1 (by simp))
        obtain rfl := h2 (hn 2 (by simp))
        have l8 : Ls 8 = true → False := fun h => by have := k8 h 3 (by simp); rw [hLi] at this; cases this
        have hc := C1.out W (HWW.out W hB)
        clear hn
        have Hz := Lib.hid hz
        go_simp
        refine hc.mono fun e W2 he => ?_
        obtain ⟨⟨A1n, m1n, B1n, n1n, rfl, q0, q1, r0, r1⟩, hb2⟩ := he
        unfold FzP6
        exact ⟨_, _, _, _, _, _, _, _, A1n, m1n, B1n, n1n, A2, m2, B2, n2, p1, rfl, hB.trans (hb2.mono Hz.out), Nat.le_trans Hz.out hb2.size, h0, h1, h2, (fun _ => ⟨rfl, q0, q1⟩), h4, h5, (fun h => ⟨(h6 h).1, (Lies.below (h6 h).2.1 hb2).wide hb2.size, (Lies.below (h6 h).2.2 hb2).wide hb2.size⟩), (fun h => ⟨(h7 h).1, (h7 h).2.1, Nat.lt_of_lt_of_le (h7 h).2.2 hb2.size⟩), (fun h h' => (z7 h h').below hb2 (h7 h).2.2), (fun h => (l8 h).elim), (fun h => (l8 h).elim), (fun _ h ad e _ => by have h1 := r0 ad e; have h2 := (h7 h).2.2; omega), (fun _ h ad e _ => by have h1 := r1 ad e; have h2 := (h7 h).2.2; omega), f6_7_0, f6_7_1⟩
      | 4, ho =>
        have ho' := Option.some.inj ho
        subst ho'
        refine wpOp_of ho rfl ?_
        refine wp_load_at 33 (.tmp 5) rfl ⟨gx + 1, 0, none⟩ rfl M _ (HRM.out W (HWW.out W hB)) Tryd.underlying33 rfl MI.out ?_
        unfold FzP6
        exact ⟨_, _, _, _, _, _, _, _, A1, m1, B1, n1, A2, m2, B2, n2, p1, rfl, hB, hz, h0, h1, h2, h3, (fun _ => rfl), h5, h6, h7, z7, h8, (fun h j hj => also_of (k8 h j hj)), f3_7_0, f3_7_1, f6_7_0, f6_7_1⟩
      | 5, ho =>
        have ho' := Option.some.inj ho
        subst ho'
        refine wpOp_of ho rfl ?_
        go_simp
        unfold FzP6
        exact ⟨_, _, _, _, _, _, _, _, A1, m1, B1, n1, A2, m2, B2, n2, p1, rfl, hB, hz, h0, h1, h2, h3, h4, (fun _ => rfl), h6, h7, z7, h8, (fun h j hj => also_of (k8 h j hj)), f3_7_0, f3_7_1, f6_7_0, f6_7_1⟩
      | 6, ho =>
        have ho' := Option.some.inj ho
        subst ho'
        refine wpOp_of ho rfl ?_
        have hn := needs_spec (l := [3, 4, 5]) (by kernel_rfl) hed
        obtain ⟨rfl, p3_0, p3_1⟩ := h3 (hn 3 (by simp))
        obtain rfl := h4 (hn 4 (by simp))
        obtain rfl := h5 (hn 5 (by simp))
        have l8 : Ls 8 = true → False := fun h => by have := k8 h 6 (by simp); rw [hLi] at this; cases this
        have hc := C2.out W A1 B1 m1 n1 (HWW.out W hB) p3_0 p3_1
        clear hn
        have Hz := Lib.hid hz
        go_simp
        refine hc.mono fun e W2 he => ?_
        obtain ⟨⟨A2n, m2n, B2n, n2n, rfl, q0, q1, r0, r1⟩, hb2⟩ := he
        unfold FzP6
        exact ⟨_, _, _, _, _, _, _, _, A1, m1, B1, n1, A2n, m2n, B2n, n2n, p1, rfl, hB.trans (hb2.mono Hz.out), Nat.le_trans Hz.out hb2.size, h0, h1, h2, (fun h => ⟨(h3 h).1, (Lies.below (h3 h).2.1 hb2).wide hb2.size, (Lies.below (h3 h).2.2 hb2).wide hb2.size⟩), h4, h5, (fun _ => ⟨rfl, q0, q1⟩), (fun h => ⟨(h7 h).1, (h7 h).2.1, Nat.lt_of_lt_of_le (h7 h).2.2 hb2.size⟩), (fun h h' => (z7 h h').below hb2 (h7 h).2.2), (fun h => (l8 h).elim), (fun h => (l8 h).elim), f3_7_0, f3_7_1, (fun _ h ad e _ => by have h1 := r0 ad e; have h2 := (h7 h).2.2; omega), (fun _ h ad e _ => by have h1 := r1 ad e; have h2 := (h7 h).2.2; omega)⟩
      | 7, ho =>
        have ho' := Option.some.inj ho
        subst ho'
        refine wpOp_of ho rfl ?_
        have l8 : Ls 8 = true → False := fun h => by have := k8 h 7 (by simp); rw [hLi] at this; cases this
        have Hz := Lib.hid hz
        go_simp
        unfold FzP6
        exact ⟨_, _, _, _, _, _, _, _, A1, m1, B1, n1, A2, m2, B2, n2, W.heap.size, rfl, hB.alloc Hz.out _, by have := Hz.out; simp; omega, h0, h1, h2, (fun h => ⟨(h3 h).1, Lies.block' (h3 h).2.1 _, Lies.block' (h3 h).2.2 _⟩), h4, h5, (fun h => ⟨(h6 h).1, Lies.block' (h6 h).2.1 _, Lies.block' (h6 h).2.2 _⟩), (fun _ => ⟨rfl, Hz.out, by simp⟩), (fun _ _ => Whole.made W _ _), (fun h => (l8 h).elim), (fun h => (l8 h).elim), (fun h _ ad e hne => by have := lies_lt (h3 h).2.1 e hne; omega), (fun h _ ad e hne => by have := lies_lt (h3 h).2.2 e hne; omega), (fun h _ ad e hne => by have := lies_lt (h6 h).2.1 e hne; omega), (fun h _ ad e hne => by have := lies_lt (h6 h).2.2 e hne; omega)⟩
      | 8, ho =>
        have ho' := Option.some.inj ho
        subst ho'
        refine wpOp_of ho rfl ?_
        have hn := needs_spec (l := [3, 6, 7]) (by kernel_rfl) hed
        have HN := Lib.hid hn
        obtain ⟨rfl, hp, hpl⟩ := h7 (hn 7 (by simp))
        obtain ⟨rfl, _, _⟩ := h6 (hn 6 (by simp))
        clear hn
        have Hz := Lib.hid hz
        have hw0 := z7 (HN.out 7 (by simp)) hLi
        have c0 : W.cell? ⟨p1, 0, none⟩ = some (.int .u64 0) := hw0.cell 0
        have y0 := hw0.free 0
        have c1 : W.cell? ⟨p1, 1, none⟩ = some (.slice none 0 0) := hw0.cell 1
        have y1 := hw0.free 1
        have c2 : W.cell? ⟨p1, 2, none⟩ = some (.slice none 0 0) := hw0.cell 2
        have y2 := hw0.free 2
        have c3 : W.cell? ⟨p1, 3, none⟩ = some (S []) := hw0.cell 3
        have y3 := hw0.free 3
        go_simp
        unfold FzP6
        exact ⟨_, _, _, _, _, _, _, _, A1, m1, B1, n1, A2, m2, B2, n2, p1, rfl, ((((hB.setCell (p := ⟨p1, 0, none⟩) hp _).setCell (p := ⟨p1, 1, none⟩) hp _).setCell (p := ⟨p1, 2, none⟩) hp _).setCell (p := ⟨p1, 3, none⟩) hp _), by simpa [World.setCell] using Hz.out, h0, h1, h2, (fun h => ⟨(h3 h).1, lies_setn4 (h3 h).2.1 (f3_7_0 h (HN.out 7 (by simp))), lies_setn4 (h3 h).2.2 (f3_7_1 h (HN.out 7 (by simp)))⟩), h4, h5, (fun h => ⟨rfl, lies_setn4 (h6 h).2.1 (f6_7_0 h (HN.out 7 (by simp))), lies_setn4 (h6 h).2.2 (f6_7_1 h (HN.out 7 (by simp)))⟩), (fun _ => ⟨rfl, hp, by simpa [World.setCell] using hpl⟩), (fun _ h' => by have h'' : (true : Bool) = false := h'; cases h''), (fun _ => ((((hw0.set 0 _).set 1 _).set 2 _).set 3 _)), (fun _ j hj => also_of (HN.out j hj)), f3_7_0, f3_7_1, f6_7_0, f6_7_1⟩
      | n + 9, ho => simp at ho
    case fin6 =>
      intro Ls a w5 hL hJ
      unfold FzP6 at hJ
      obtain ⟨u24, u25, u26, u27, u28, u29, u30, u11, A1, m1, B1, n1, A2, m2, B2, n2, p1, rfl, hB, hz, h0, h1, h2, h3, h4, h5, h6, h7, z7, h8, k8, f3_7_0, f3_7_1, f6_7_0, f6_7_1⟩ := hJ
      have hn : ∀ j, j < 9 → Ls j = true := fun j hj => hL j hj
      obtain rfl := h0 (hn 0 (by omega))
      obtain rfl := h1 (hn 1 (by omega))
      obtain rfl := h2 (hn 2 (by omega))
      obtain ⟨rfl, l3_0, l3_1⟩ := h3 (hn 3 (by omega))
      obtain rfl := h4 (hn 4 (by omega))
      obtain rfl := h5 (hn 5 (by omega))
      obtain ⟨rfl, l6_0, l6_1⟩ := h6 (hn 6 (by omega))
      obtain ⟨rfl, g7, gl7⟩ := h7 (hn 7 (by omega))
      have b8 := h8 (hn 8 (by omega))
      clear h0 h1 h2 h3 h4 h5 h6 h7 z7 h8 k8 f3_7_0 f3_7_1 f6_7_0 f6_7_1 hn hL
      have HB5 := Lib.hid hB
      have HW5 := Lib.hid (HWW.out w5 hB)
      have HS1 := Lib.hid b8
      have hp1 := gl7
      have K1 : Hid (∀ W, Below w5.heap.size w5 W → Kps W W.heap.size A2 f2 ∧ Kps W W.heap.size B2 b2) := Lib.hid fun W hW => ⟨(Lies.below l6_0 hW).wide hW.size, (Lies.below l6_1 hW).wide hW.size⟩
      have HW6 : Hid (∀ W, Below w5.heap.size w5 W → Below w1.heap.size w1 W) := Lib.hid fun W hW => HW5.out.trans (hW.mono HW5.out.size)
      have CP : Hid (∀ W, Below w1.heap.size w1 W → Calls Tryd.prog 10 #[.agg #[.int .u64 ck, .slice A fl.length c, .slice A' bl.length c', S r], .agg M.toArray, .int .i64 (xa + yb)] W fun e w' => (∃ H m H' m', e = .returned (.agg #[.int .u64 ck, .slice H f2.length m, .slice H' b2.length m', S r]) ∧ Kps w' w'.heap.size H f2 ∧ Kps w' w'.heap.size H' b2 ∧ (∀ ad, H = some ad → W.heap.size ≤ ad.block) ∧ (∀ ad, H' = some ad → W.heap.size ≤ ad.block)) ∧ Below W.heap.size W w') := Lib.hid fun W hW => by
        have := pump_any W A A' c c' ck fl bl r M fs bs (xa + yb) (by unfold inJ; omega) (HLL.out _ _ _ hW HA.out) (HLL.out _ _ _ hW HA'.out) (IM.out W hW) (by omega) (by omega) (by omega) (by omega)
        rw [show (keepRec pumpF 0 fl fs (xa + yb)).1 = f2 from HQ3.out, show (keepRec pumpF 0 bl bs (keepRec pumpF 0 fl fs (xa + yb)).2).1 = b2 from HQ4.out] at this
        exact this
      have CN : Hid (∀ W, Below w1.heap.size w1 W → Calls Tryd.prog 10 #[.agg #[.int .u64 ck, .slice A fl.length c, .slice A' bl.length c', S r], .agg M.toArray, .int .i64 (-xa)] W fun e w' => (∃ H m H' m', e = .returned (.agg #[.int .u64 ck, .slice H fl.length m, .slice H' bl.length m', S r]) ∧ Kps w' w'.heap.size H fl ∧ Kps w' w'.heap.size H' bl ∧ (∀ ad, H = some ad → W.heap.size ≤ ad.block) ∧ (∀ ad, H' = some ad → W.heap.size ≤ ad.block)) ∧ Below W.heap.size W w') := Lib.hid fun W hW => by
        have := pump_any W A A' c c' ck fl bl r M fs bs (-xa) (by unfold inJ; omega) (HLL.out _ _ _ hW HA.out) (HLL.out _ _ _ hW HA'.out) (IM.out W hW) (by omega) (by omega) (by omega) (by omega)
        have hpn := pumps_none fl bl fs bs (-xa) (by omega)
        rw [show (keepRec pumpF 0 fl fs (-xa)).1 = fl from hpn.1, show (keepRec pumpF 0 bl bs (keepRec pumpF 0 fl fs (-xa)).2).1 = bl from hpn.2] at this
        exact this
      clear hB hz b8 l3_0 l3_1 l6_0 l6_1 g7 gl7 C1 C2
      go_upto_region 7 with (fail)
      have hs5 := HS.out.below HW5.out (by omega)
      have s0 : w5.cell? ⟨gx, 0, none⟩ = some (.int .u64 ck) := hs5.cell 0
      have s1 : w5.cell? ⟨gx, 1, none⟩ = some (.slice A fl.length c) := hs5.cell 1
      have s2 : w5.cell? ⟨gx, 2, none⟩ = some (.slice A' bl.length c') := hs5.cell 2
      have s3 : w5.cell? ⟨gx, 3, none⟩ = some (S r) := hs5.cell 3
      clear hs5
      have CC := Lib.hid (CP.out w5 HW5.out)
      go_wp2_with (refine wpList_load_at rfl 33 (.tmp 5) rfl ⟨gx + 1, 0, none⟩ rfl M _ (HRM.out _ HW5.out) Tryd.underlying33 rfl MI.out ?_)
      refine CC.out.mono ?_
      rintro e w6 ⟨⟨H3, m3, I3, n3, rfl, q1, q2, _, _⟩, hb6⟩
      have HB7 := Lib.hid ((HW5.out.trans (hb6.mono HW5.out.size)).alloc (Nat.le_trans HW5.out.size hb6.size) (.cells #[.int .u64 ck, .slice H3 f2.length m3, .slice I3 b2.length n3, S r] 25))
      have HP7 := Lib.hid (hb6.alloc hb6.size (.cells #[.int .u64 ck, .slice H3 f2.length m3, .slice I3 b2.length n3, S r] 25))
      have HX7 := Lib.hid (Whole.made w6 25 #[.int .u64 ck, .slice H3 f2.length m3, .slice I3 b2.length n3, S r])
      have HQ7a := Lib.hid (Lies.block' q1 (.cells #[.int .u64 ck, .slice H3 f2.length m3, .slice I3 b2.length n3, S r] 25))
      have HQ7b := Lib.hid (Lies.block' q2 (.cells #[.int .u64 ck, .slice H3 f2.length m3, .slice I3 b2.length n3, S r] 25))
      clear s0 s1 s2 s3 CC hb6 q1 q2
      go_upto_region 8 with (fail)
      change Code.wp _ _ _ _ (w6.alloc (.cells #[.int .u64 ck, .slice H3 f2.length m3, .slice I3 b2.length n3, S r] 25))
      generalize w6.alloc (.cells #[.int .u64 ck, .slice H3 f2.length m3, .slice I3 b2.length n3, S r] 25) = w7 at *
      generalize w6.heap.size = gx7 at *
      have hs7 := HS.out.below HB7.out (by omega)
      have s0 : w7.cell? ⟨gx, 0, none⟩ = some (.int .u64 ck) := hs7.cell 0
      have s1 : w7.cell? ⟨gx, 1, none⟩ = some (.slice A fl.length c) := hs7.cell 1
      have s2 : w7.cell? ⟨gx, 2, none⟩ = some (.slice A' bl.length c') := hs7.cell 2
      have s3 : w7.cell? ⟨gx, 3, none⟩ = some (S r) := hs7.cell 3
      clear hs7
      have CC := Lib.hid (CN.out w7 HB7.out)
      have hl7 := HX7.out.lt
      go_wp2_with (refine wpList_load_at rfl 33 (.tmp 5) rfl ⟨gx + 1, 0, none⟩ rfl M _ (HRM.out _ HB7.out) Tryd.underlying33 rfl MI.out ?_)
      refine CC.out.mono ?_
      rintro e w8 ⟨⟨H4, m4, I4, n4, rfl, q1, q2, _, _⟩, hb8⟩
      have HB9 := Lib.hid ((HB7.out.trans (hb8.mono HB7.out.size)).alloc (Nat.le_trans HB7.out.size hb8.size) (.cells #[.int .u64 ck, .slice H4 fl.length m4, .slice I4 bl.length n4, S r] 25))
      have HP9 := Lib.hid ((HP7.out.trans (hb8.mono HP7.out.size)).alloc (Nat.le_trans HP7.out.size hb8.size) (.cells #[.int .u64 ck, .slice H4 fl.length m4, .slice I4 bl.length n4, S r] 25))
      have HX9 := Lib.hid ((HX7.out.below hb8 hl7).block (.cells #[.int .u64 ck, .slice H4 fl.length m4, .slice I4 bl.length n4, S r] 25))
      have HY9 := Lib.hid (Whole.made w8 25 #[.int .u64 ck, .slice H4 fl.length m4, .slice I4 bl.length n4, S r])
      have HQ9a := Lib.hid (Lies.block' (Lies.wide (Lies.below HQ7a.out hb8) hb8.size) (.cells #[.int .u64 ck, .slice H4 fl.length m4, .slice I4 bl.length n4, S r] 25))
      have HQ9b := Lib.hid (Lies.block' (Lies.wide (Lies.below HQ7b.out hb8) hb8.size) (.cells #[.int .u64 ck, .slice H4 fl.length m4, .slice I4 bl.length n4, S r] 25))
      have HR9a := Lib.hid (Lies.block' q1 (.cells #[.int .u64 ck, .slice H4 fl.length m4, .slice I4 bl.length n4, S r] 25))
      have HR9b := Lib.hid (Lies.block' q2 (.cells #[.int .u64 ck, .slice H4 fl.length m4, .slice I4 bl.length n4, S r] 25))
      clear s0 s1 s2 s3 CC hb8 q1 q2 HB7 HP7 HX7 HQ7a HQ7b CP CN
      go_upto_region 9 with (fail)
      change Code.wp _ _ _ _ (w8.alloc (.cells #[.int .u64 ck, .slice H4 fl.length m4, .slice I4 bl.length n4, S r] 25))
      generalize w8.alloc (.cells #[.int .u64 ck, .slice H4 fl.length m4, .slice I4 bl.length n4, S r] 25) = w9 at *
      generalize w8.heap.size = gy9 at *
      have h1 := HS1.out.below HP9.out hp1
      have h2 := HX9.out
      have t0 : w9.cell? ⟨p1, 0, none⟩ = some (.int .u64 ck) := h1.cell 0
      have v0 : w9.cell? ⟨gx7, 0, none⟩ = some (.int .u64 ck) := h2.cell 0
      have t1 : w9.cell? ⟨p1, 1, none⟩ = some (.slice A2 f2.length m2) := h1.cell 1
      have v1 : w9.cell? ⟨gx7, 1, none⟩ = some (.slice H3 f2.length m3) := h2.cell 1
      have t2 : w9.cell? ⟨p1, 2, none⟩ = some (.slice B2 b2.length n2) := h1.cell 2
      have v2 : w9.cell? ⟨gx7, 2, none⟩ = some (.slice I3 b2.length n3) := h2.cell 2
      have t3 : w9.cell? ⟨p1, 3, none⟩ = some (S r) := h1.cell 3
      have v3 : w9.cell? ⟨gx7, 3, none⟩ = some (S r) := h2.cell 3
      have k1 := K1.out w9 HP9.out
      have CS := Lib.hid (rsame_true w9 A2 B2 H3 I3 m2 n2 m3 n3 ck f2 b2 r k1.1 k1.2 HQ9a.out HQ9b.out (by omega) (by omega))
      have hlx := HX9.out.lt
      have hly := HY9.out.lt
      clear h1 h2 k1
      go_wp2_with fail
      refine CS.out.mono ?_
      rintro e w10 ⟨rfl, hb10⟩
      have HB10 := Lib.hid (HB9.out.trans (hb10.mono HB9.out.size))
      have hX := HX9.out.below hb10 hlx
      have HX10 := Lib.hid hX
      have hY := HY9.out.below hb10 hly
      have HQ10a := Lib.hid ((Lies.below HQ9a.out hb10).wide hb10.size)
      have HQ10b := Lib.hid ((Lies.below HQ9b.out hb10).wide hb10.size)
      have hz10 := hb10.size
      have hS := HS.out.below HB10.out (by omega)
      have CS2 := Lib.hid (rsame_true w10 H4 I4 A A' m4 n4 c c' ck fl bl r ((Lies.below HR9a.out hb10).wide hb10.size) ((Lies.below HR9b.out hb10).wide hb10.size) (HLL.out _ _ _ HB10.out HA.out) (HLL.out _ _ _ HB10.out HA'.out) (by omega) (by omega))
      clear t0 t1 t2 t3 v0 v1 v2 v3 CS hb10 hX
      have t0 : w10.cell? ⟨gy9, 0, none⟩ = some (.int .u64 ck) := hY.cell 0
      have v0 : w10.cell? ⟨gx, 0, none⟩ = some (.int .u64 ck) := hS.cell 0
      have t1 : w10.cell? ⟨gy9, 1, none⟩ = some (.slice H4 fl.length m4) := hY.cell 1
      have v1 : w10.cell? ⟨gx, 1, none⟩ = some (.slice A fl.length c) := hS.cell 1
      have t2 : w10.cell? ⟨gy9, 2, none⟩ = some (.slice I4 bl.length n4) := hY.cell 2
      have v2 : w10.cell? ⟨gx, 2, none⟩ = some (.slice A' bl.length c') := hS.cell 2
      have t3 : w10.cell? ⟨gy9, 3, none⟩ = some (S r) := hY.cell 3
      have v3 : w10.cell? ⟨gx, 3, none⟩ = some (S r) := hS.cell 3
      clear hY hS
      go_wp2_with fail
      refine CS2.out.mono ?_
      rintro e w11 ⟨rfl, hb11⟩
      have HB11 := Lib.hid (HB10.out.trans (hb11.mono HB10.out.size))
      have HX11 := Lib.hid (HX10.out.below hb11 (by omega))
      have HQ11a := Lib.hid ((Lies.below HQ10a.out hb11).wide hb11.size)
      have HQ11b := Lib.hid ((Lies.below HQ10b.out hb11).wide hb11.size)
      clear t0 t1 t2 t3 v0 v1 v2 v3 CS2 hb11 HQ9a HQ9b HR9a HR9b HX9 HY9 HP9 HX10 HQ10a HQ10b HB10 HB9
      go_upto_region 11 with (fail)
      obtain ⟨hM17, _, F, cf, L, cl, hM4, hM13, _, _⟩ := IM.out w11 HB11.out
      have m4c : w11.cell? ⟨gx + 1, 4, none⟩ = some (.slice F fs.length cf) := HRM.out w11 HB11.out 4 _ hM4
      have m13c : w11.cell? ⟨gx + 1, 13, none⟩ = some (.slice L bs.length cl) := HRM.out w11 HB11.out 13 _ hM13
      have hS := HS.out.below HB11.out (by omega)
      have s1 : w11.cell? ⟨gx, 1, none⟩ = some (.slice A fl.length c) := hS.cell 1
      have s2 : w11.cell? ⟨gx, 2, none⟩ = some (.slice A' bl.length c') := hS.cell 2
      clear hS hM4 hM13 hM17
      by_cases k1 : fl.length ≤ fs.length
      · have d1 : ¬ ((fs.length : Int) < (fl.length : Int)) := by omega
        by_cases k2 : bl.length ≤ bs.length
        · have d2 : ¬ ((bs.length : Int) < (bl.length : Int)) := by omega
          go_upto_region 13 with (first | simp only [d1, d2, decide_false])
          have hg7 := HX11.out.lt
          have HSX := Lib.hid (HS.out.below HB11.out (by omega))
          have hgx11 := HSX.out.lt
          obtain ⟨l2, HL2⟩ : ∃ z : Int, Hid (((leftL f2 + leftL b2 : Nat) : Int) = z) := ⟨_, Lib.hid rfl⟩
          obtain ⟨l1, HL1⟩ : ∃ z : Int, Hid (((leftL fl + leftL bl : Nat) : Int) = z) := ⟨_, Lib.hid rfl⟩
          have HPL : Hid (l2 = max (l1 - xa - yb) 0) := Lib.hid (by
            have := pumps_left fl bl fs bs (xa + yb) (by omega) k1 k2
            rw [HQ3.out, HQ4.out, HL2.out, HL1.out] at this
            rw [this, show l1 - (xa + yb) = l1 - xa - yb by omega])
          have hfb1 : leftL fl ≤ 70 ∧ leftL bl ≤ 260 := by
            have h1 := leftL_le fl
            have h2 := leftL_le bl
            omega
          obtain ⟨hl1a, hl1b⟩ : 0 ≤ l1 ∧ l1 ≤ 330 := by rw [← HL1.out]; omega
          have L1 : Hid (∀ W, Below w11.heap.size w11 W → Calls Tryd.prog 16 #[.agg #[.int .u64 ck, .slice H3 f2.length m3, .slice I3 b2.length n3, S r]] W fun e w' => (e = .returned (.int .i64 l2) ∧ Lies w' w'.heap.size A' (kCells bl) ∧ True) ∧ Below W.heap.size W w') := Lib.hid fun W hW => by
            refine (left_any W H3 I3 m3 n3 ck f2 b2 r ((Lies.below HQ11a.out hW).wide hW.size) ((Lies.below HQ11b.out hW).wide hW.size) (by omega) (by omega)).mono ?_
            rintro e w' ⟨he, hb⟩
            rw [HL2.out] at he
            have h2 := HB11.out.trans ((hW.trans (hb.mono hW.size)).mono HB11.out.size)
            exact ⟨⟨he, HLL.out _ _ _ h2 HA'.out, trivial⟩, hb⟩
          have L0 : Hid (∀ W, Below w11.heap.size w11 W → Calls Tryd.prog 16 #[.agg #[.int .u64 ck, .slice A fl.length c, .slice A' bl.length c', S r]] W fun e w' => (e = .returned (.int .i64 l1) ∧ Lies w' w'.heap.size A' (kCells bl) ∧ True) ∧ Below W.heap.size W w') := Lib.hid fun W hW => by
            have h1 := HB11.out.trans (hW.mono HB11.out.size)
            refine (left_any W A A' c c' ck fl bl r (HLL.out _ _ _ h1 HA.out) (HLL.out _ _ _ h1 HA'.out) (by omega) (by omega)).mono ?_
            rintro e w' ⟨he, hb⟩
            rw [HL1.out] at he
            have h2 := HB11.out.trans ((hW.trans (hb.mono hW.size)).mono HB11.out.size)
            exact ⟨⟨he, HLL.out _ _ _ h2 HA'.out, trivial⟩, hb⟩
          clear m4c m13c s1 s2
          refine wp_region_set (by kernel_rfl) (FzP13 w11 gx p1 gx7 gy9 A A' A1 B1 A2 B2 H3 I3 H4 I4 F L c c' m1 n1 m2 n2 m3 n3 m4 n4 cf cl ck fl bl r M xa yb f1 b1 f2 b2 fs bs l1 l2) (downOk_spec (by kernel_rfl)) ?init13 ?step13 ?fin13
          case init13 =>
            unfold FzP13
            refine ⟨_, _, _, _, _, _, _, _, _, _, _, rfl, (Below.refl _ _).drew, Nat.le_refl _, (fun h => by cases h), (fun h => by cases h), (fun h => by cases h), (fun h => by cases h), (fun h => by cases h), (fun h => by cases h), (fun h => by cases h), (fun h => by cases h), (fun h => by cases h), (fun h => by cases h), (fun h => by cases h)⟩
          case step13 =>
            intro i o ho Ls a W hLi hed hJ
            unfold FzP13 at hJ
            obtain ⟨u69, u70, u71, u72, u73, u74, u75, u76, u77, u78, u8, rfl, hB, hz, h0, h1, h2, h3, h4, h5, h6, h7, h8, h9, h10⟩ := hJ
            match i, ho with
            | 0, ho =>
              have ho' := Option.some.inj ho
              subst ho'
              refine wpOp_of ho rfl ?_
              have c0 : W.cell? ⟨gx7, 0, none⟩ = some (.int .u64 ck) := (HX11.out.below hB hg7).cell 0
              have c1 : W.cell? ⟨gx7, 1, none⟩ = some (.slice H3 f2.length m3) := (HX11.out.below hB hg7).cell 1
              have c2 : W.cell? ⟨gx7, 2, none⟩ = some (.slice I3 b2.length n3) := (HX11.out.below hB hg7).cell 2
              have c3 : W.cell? ⟨gx7, 3, none⟩ = some (S r) := (HX11.out.below hB hg7).cell 3
              go_simp
              unfold FzP13
              exact ⟨_, _, _, _, _, _, _, _, _, _, _, rfl, hB, hz, (fun _ => rfl), h1, h2, h3, h4, h5, h6, h7, h8, h9, h10⟩
            | 1, ho =>
              have ho' := Option.some.inj ho
              subst ho'
              refine wpOp_of ho rfl ?_
              have hn := needs_spec (l := [0]) (by kernel_rfl) hed
              obtain rfl := h0 (hn 0 (by simp))
              have hc := L1.out W hB
              clear hn
              have Hz := Lib.hid hz
              go_simp
              refine hc.mono fun e W2 he => ?_
              obtain ⟨⟨rfl, q0, r0⟩, hb2⟩ := he
              unfold FzP13
              exact ⟨_, _, _, _, _, _, _, _, _, _, _, rfl, hB.trans (hb2.mono Hz.out), Nat.le_trans Hz.out hb2.size, h0, (fun _ => ⟨rfl, q0⟩), h2, (fun h => ⟨(h3 h).1, (Lies.below (h3 h).2 hb2).wide hb2.size⟩), h4, h5, h6, h7, h8, h9, h10⟩
            | 2, ho =>
              have ho' := Option.some.inj ho
              subst ho'
              refine wpOp_of ho rfl ?_
              have c0 : W.cell? ⟨gx, 0, none⟩ = some (.int .u64 ck) := (HSX.out.below hB hgx11).cell 0
              have c1 : W.cell? ⟨gx, 1, none⟩ = some (.slice A fl.length c) := (HSX.out.below hB hgx11).cell 1
              have c2 : W.cell? ⟨gx, 2, none⟩ = some (.slice A' bl.length c') := (HSX.out.below hB hgx11).cell 2
              have c3 : W.cell? ⟨gx, 3, none⟩ = some (S r) := (HSX.out.below hB hgx11).cell 3
              go_simp
              unfold FzP13
              exact ⟨_, _, _, _, _, _, _, _, _, _, _, rfl, hB, hz, h0, h1, (fun _ => rfl), h3, h4, h5, h6, h7, h8, h9, h10⟩
            | 3, ho =>
              have ho' := Option.some.inj ho
              subst ho'
              refine wpOp_of ho rfl ?_
              have hn := needs_spec (l := [2]) (by kernel_rfl) hed
              obtain rfl := h2 (hn 2 (by simp))
              have hc := L0.out W hB
              clear hn
              have Hz := Lib.hid hz
              go_simp
              refine hc.mono fun e W2 he => ?_
              obtain ⟨⟨rfl, q0, r0⟩, hb2⟩ := he
              unfold FzP13
              exact ⟨_, _, _, _, _, _, _, _, _, _, _, rfl, hB.trans (hb2.mono Hz.out), Nat.le_trans Hz.out hb2.size, h0, (fun h => ⟨(h1 h).1, (Lies.below (h1 h).2 hb2).wide hb2.size⟩), h2, (fun _ => ⟨rfl, q0⟩), h4, h5, h6, h7, h8, h9, h10⟩
            | 4, ho =>
              have ho' := Option.some.inj ho
              subst ho'
              refine wpOp_of ho rfl ?_
              go_simp
              unfold FzP13
              exact ⟨_, _, _, _, _, _, _, _, _, _, _, rfl, hB, hz, h0, h1, h2, h3, (fun _ => rfl), h5, h6, h7, h8, h9, h10⟩
            | 5, ho =>
              have ho' := Option.some.inj ho
              subst ho'
              refine wpOp_of ho rfl ?_
              have hn := needs_spec (l := [3, 4]) (by kernel_rfl) hed
              obtain ⟨rfl, p3_0⟩ := h3 (hn 3 (by simp))
              obtain rfl := h4 (hn 4 (by simp))
              have wv : IntKind.i64.wrap (l1 - xa) = l1 - xa := IntWalk.i64_in _ (by omega)
              clear hn
              go_simp
              unfold FzP13
              exact ⟨_, _, _, _, _, _, _, _, _, _, _, rfl, hB, hz, h0, h1, h2, h3, h4, (fun _ => rfl), h6, h7, h8, h9, h10⟩
            | 6, ho =>
              have ho' := Option.some.inj ho
              subst ho'
              refine wpOp_of ho rfl ?_
              go_simp
              unfold FzP13
              exact ⟨_, _, _, _, _, _, _, _, _, _, _, rfl, hB, hz, h0, h1, h2, h3, h4, h5, (fun _ => rfl), h7, h8, h9, h10⟩
            | 7, ho =>
              have ho' := Option.some.inj ho
              subst ho'
              refine wpOp_of ho rfl ?_
              have hn := needs_spec (l := [5, 6]) (by kernel_rfl) hed
              obtain rfl := h5 (hn 5 (by simp))
              obtain rfl := h6 (hn 6 (by simp))
              have wv : IntKind.i64.wrap (l1 - xa - yb) = l1 - xa - yb := IntWalk.i64_in _ (by omega)
              clear hn
              go_simp
              unfold FzP13
              exact ⟨_, _, _, _, _, _, _, _, _, _, _, rfl, hB, hz, h0, h1, h2, h3, h4, h5, h6, (fun _ => rfl), h8, h9, h10⟩
            | 8, ho =>
              have ho' := Option.some.inj ho
              subst ho'
              refine wpOp_of ho rfl ?_
              have hn := needs_spec (l := [7]) (by kernel_rfl) hed
              obtain rfl := h7 (hn 7 (by simp))
              clear hn
              go_simp
              unfold FzP13
              exact ⟨_, _, _, _, _, _, _, _, _, _, _, rfl, hB, hz, h0, h1, h2, h3, h4, h5, h6, h7, (fun _ => rfl), h9, h10⟩
            | 9, ho =>
              have ho' := Option.some.inj ho
              subst ho'
              refine wpOp_of ho rfl ?_
              have hn := needs_spec (l := [1, 8]) (by kernel_rfl) hed
              obtain ⟨rfl, p1_0⟩ := h1 (hn 1 (by simp))
              obtain rfl := h8 (hn 8 (by simp))
              have wv : (l2 == max (l1 - xa - yb) 0) = true := by rw [HPL.out]; simp
              clear hn
              go_simp
              unfold FzP13
              exact ⟨_, _, _, _, _, _, _, _, _, _, _, rfl, hB, hz, h0, h1, h2, h3, h4, h5, h6, h7, h8, (fun _ => rfl), h10⟩
            | 10, ho =>
              have ho' := Option.some.inj ho
              subst ho'
              refine wpOp_of ho rfl ?_
              have hn := needs_spec (l := [9]) (by kernel_rfl) hed
              obtain rfl := h9 (hn 9 (by simp))
              clear hn
              go_simp
              unfold FzP13
              exact ⟨_, _, _, _, _, _, _, _, _, _, _, rfl, hB, hz, h0, h1, h2, h3, h4, h5, h6, h7, h8, h9, (fun _ => rfl)⟩
            | n + 11, ho => simp at ho
          case fin13 =>
            intro Ls a w12 hL hJ
            unfold FzP13 at hJ
            obtain ⟨u69, u70, u71, u72, u73, u74, u75, u76, u77, u78, u8, rfl, hB, hz, h0, h1, h2, h3, h4, h5, h6, h7, h8, h9, h10⟩ := hJ
            have hn : ∀ j, j < 11 → Ls j = true := fun j hj => hL j hj
            obtain rfl := h0 (hn 0 (by omega))
            obtain ⟨rfl, l1_0⟩ := h1 (hn 1 (by omega))
            obtain rfl := h2 (hn 2 (by omega))
            obtain ⟨rfl, l3_0⟩ := h3 (hn 3 (by omega))
            obtain rfl := h4 (hn 4 (by omega))
            obtain rfl := h5 (hn 5 (by omega))
            obtain rfl := h6 (hn 6 (by omega))
            obtain rfl := h7 (hn 7 (by omega))
            obtain rfl := h8 (hn 8 (by omega))
            obtain rfl := h9 (hn 9 (by omega))
            obtain rfl := h10 (hn 10 (by omega))
            clear h0 h1 h2 h3 h4 h5 h6 h7 h8 h9 h10 hn hL
            go_wp2_with fail
            go_ret
            exact ⟨rfl, by rw [HGX.out]; exact HEND.out _ (HB11.out.trans (hB.mono HB11.out.size))⟩
        · have d2 : (bs.length : Int) < (bl.length : Int) := by omega
          go_wp2_with (first | simp only [d1, d2, decide_false, decide_true])
          go_ret
          exact ⟨rfl, by rw [HGX.out]; exact HEND.out _ HB11.out⟩
      · have d1 : (fs.length : Int) < (fl.length : Int) := by omega
        go_wp2_with (first | simp only [d1, decide_true])
        go_ret
        exact ⟨rfl, by rw [HGX.out]; exact HEND.out _ HB11.out⟩
end Go.Proofs.YtmmfcjkabpffeaaDoor
