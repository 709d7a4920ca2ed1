/-
  Walks: hibernacleref34.Went, Pump. (Printed by gen_fzrefb.py.)
-/
import Derived.Test.YtmmfcjkabpffeaaDoorFzRef
namespace Go.Proofs.YtmmfcjkabpffeaaDoor
open Go.RowKit

set_option maxRecDepth 100000 in
set_option maxHeartbeats 4000000 in
theorem rwentS_any (w : World) (A A' : Option Addr) (c c' : Nat) (ck : Int) (fl bl : List Kp) (r : List UInt8) (M : List Value) (fs bs : List (List UInt8)) (N : List Value) (fs' bs' : List (List UInt8))
    (hA : Kps w w.heap.size A fl) (hA' : Kps w w.heap.size A' bl) (hM : IsM w w.heap.size M fs bs) (hN : IsM w w.heap.size N fs' bs') (h1 : fl.length ≤ 274877906944) (h2 : bl.length ≤ 274877906944) :
    Calls Tryd.prog 9 #[.agg #[.int .u64 ck, .slice A fl.length c, .slice A' bl.length c', S r], .agg M.toArray, .agg N.toArray] w fun e w' => ShotPost w ck (keepRec (wentF fs') 0 fl fs 0).1 (keepRec (wentF bs') 0 bl bs 0).1 r e w' ∧ Below w.heap.size w w' := by
  obtain ⟨hM17, _, F, cf, L, cl, hM4, hM13, hF, hL⟩ := hM
  have hl17 : M.toArray.size = 17 := by rw [List.size_toArray]; exact hM17
  obtain ⟨hN17, _, F', cf', L', cl', hN4, hN13, hF', hL'⟩ := hN
  have hl17' : N.toArray.size = 17 := by rw [List.size_toArray]; exact hN17
  have hs := (((Whole.made w 25 #[.int .u64 ck, .slice A fl.length c, .slice A' bl.length c', S r]).block (.cells M.toArray 33)).block (.cells N.toArray 33)).block (.cells #[.int .u64 0, .slice none 0 0, .slice none 0 0, S []] 25)
  have hm := ((Whole.made (w.alloc (.cells #[.int .u64 ck, .slice A fl.length c, .slice A' bl.length c', S r] 25)) 33 M.toArray).block (.cells N.toArray 33)).block (.cells #[.int .u64 0, .slice none 0 0, .slice none 0 0, S []] 25)
  have hk := (Whole.made ((w.alloc (.cells #[.int .u64 ck, .slice A fl.length c, .slice A' bl.length c', S r] 25)).alloc (.cells M.toArray 33)) 33 N.toArray).block (.cells #[.int .u64 0, .slice none 0 0, .slice none 0 0, S []] 25)
  rw [show ((w.alloc (.cells #[.int .u64 ck, .slice A fl.length c, .slice A' bl.length c', S r] 25)).alloc (.cells M.toArray 33)).heap.size = w.heap.size + 1 + 1 by simp] at hk
  have hr := Whole.made (((w.alloc (.cells #[.int .u64 ck, .slice A fl.length c, .slice A' bl.length c', S r] 25)).alloc (.cells M.toArray 33)).alloc (.cells N.toArray 33)) 25 #[.int .u64 0, .slice none 0 0, .slice none 0 0, S []]
  have hb : Below w.heap.size w ((((w.alloc (.cells #[.int .u64 ck, .slice A fl.length c, .slice A' bl.length c', S r] 25)).alloc (.cells M.toArray 33)).alloc (.cells N.toArray 33)).alloc (.cells #[.int .u64 0, .slice none 0 0, .slice none 0 0, S []] 25)) := ((((Below.refl _ _).alloc (Nat.le_refl _) _).alloc (by simp) _).alloc (by simp; omega) _).alloc (by simp; omega) _
  rw [show (w.alloc (.cells #[.int .u64 ck, .slice A fl.length c, .slice A' bl.length c', S r] 25)).heap.size = w.heap.size + 1 by simp] at hm
  rw [show (((w.alloc (.cells #[.int .u64 ck, .slice A fl.length c, .slice A' bl.length c', S r] 25)).alloc (.cells M.toArray 33)).alloc (.cells N.toArray 33)).heap.size = w.heap.size + 1 + 1 + 1 by simp] at hr
  have HA := Lib.hid (hA.below hb)
  have HA' := Lib.hid (hA'.below hb)
  have HF := Lib.hid (Lies.below hF hb)
  have HL := Lib.hid (Lies.below hL hb)
  have HF' := Lib.hid (Lies.below hF' hb)
  have HL' := Lib.hid (Lies.below hL' hb)
  clear hA hA' hF hL hF' hL'
  go_enter Tryd.func9, Tryd.ntmps9
  go_upto_region 1 with (fail)
  change Code.wp _ _ _ _ ((((w.alloc (.cells #[.int .u64 ck, .slice A fl.length c, .slice A' bl.length c', S r] 25)).alloc (.cells M.toArray 33)).alloc (.cells N.toArray 33)).alloc (.cells #[.int .u64 0, .slice none 0 0, .slice none 0 0, S []] 25))
  clear hl17 hl17'
  generalize ((((w.alloc (.cells #[.int .u64 ck, .slice A fl.length c, .slice A' bl.length c', S r] 25)).alloc (.cells M.toArray 33)).alloc (.cells N.toArray 33)).alloc (.cells #[.int .u64 0, .slice none 0 0, .slice none 0 0, S []] 25)) = w1 at *
  generalize hgx : w.heap.size = gx at *
  have HGX := Lib.hid hgx
  have HW := Lib.hid hb
  have HS := Lib.hid hs
  have HM := Lib.hid hm
  have HR := Lib.hid hr
  have hgl : gx + 1 + 1 + 1 < w1.heap.size := hr.lt
  have HLL : Hid (∀ (W : World) (G : Option Addr) (xs : List Value), Below w1.heap.size w1 W → Lies w1 gx G xs → Lies W W.heap.size G xs) := Lib.hid fun W G xs hW h => (h.below (hW.mono (by omega))).wide (by have := hW.size; omega)
  have m4 : w1.cell? ⟨gx + 1, 4, none⟩ = some (.slice F fs.length cf) := (hm.cell 4).trans (by rw [List.getElem?_toArray]; exact hM4)
  have HM13 := Lib.hid hM13
  have s1 : w1.cell? ⟨gx, 1, none⟩ = some (.slice A fl.length c) := hs.cell 1
  have HK := Lib.hid hk
  have n4 : w1.cell? ⟨gx + 1 + 1, 4, none⟩ = some (.slice F' fs'.length cf') := (hk.cell 4).trans (by rw [List.getElem?_toArray]; exact hN4)
  have HN13 := Lib.hid hN13
  have HC := Lib.hid (rwent_any w1 A F F' c cf cf' fl fs fs' (HLL.out _ _ _ (Below.refl _ _) HA.out) (HLL.out _ _ _ (Below.refl _ _) HF.out) (HLL.out _ _ _ (Below.refl _ _) HF'.out) h1)
  obtain ⟨fl1, HQ1⟩ : ∃ a, Hid ((keepRec (wentF fs') 0 fl fs 0).1 = a) := ⟨_, Lib.hid rfl⟩
  rw [HQ1.out] at HC
  clear hgx hb hs hm hr hk hM4 hM13 hN4 hN13
  go_wp2_with fail
  refine HC.out.mono ?_
  rintro e w2 ⟨⟨v1, rfl, ho1⟩, hb2⟩
  clear m4 s1 n4 HC
  obtain ⟨G1, k1, hv1, _, _⟩ := own_shape ho1 (by omega)
  subst hv1
  have hs2 : Whole w2 gx 25 #[.int .u64 ck, .slice A fl.length c, .slice A' bl.length c', S r] := HS.out.below hb2 (by omega)
  have hm2 := HM.out.below hb2 (by omega)
  have hr2 := HR.out.below hb2 hgl
  have c1 : w2.cell? ⟨gx, 1, none⟩ = some (.slice A fl.length c) := hs2.cell 1
  have f1 : w2.frozen? ⟨gx, 1, none⟩ = false := hs2.free 1
  have HW2 := Lib.hid (HW.out.trans (hb2.mono (by omega)))
  have hz2 : w1.heap.size ≤ w2.heap.size := hb2.size
  have hk2 := HK.out.below hb2 (by omega)
  have hs3 : Whole (w2.setCell ⟨gx, 1, none⟩ (.slice G1 fl1.length k1)) gx 25 #[.int .u64 ck, .slice G1 fl1.length k1, .slice A' bl.length c', S r] := hs2.set 1 _
  have hm3 : Whole (w2.setCell ⟨gx, 1, none⟩ (.slice G1 fl1.length k1)) (gx + 1) 33 M.toArray := hm2.far (p := ⟨gx, 1, none⟩) (by show _ ≠ gx; omega) _
  have hk3 : Whole (w2.setCell ⟨gx, 1, none⟩ (.slice G1 fl1.length k1)) (gx + 1 + 1) 33 N.toArray := hk2.far (p := ⟨gx, 1, none⟩) (by show _ ≠ gx; omega) _
  have hr3 : Whole (w2.setCell ⟨gx, 1, none⟩ (.slice G1 fl1.length k1)) (gx + 1 + 1 + 1) 25 #[.int .u64 0, .slice none 0 0, .slice none 0 0, S []] := hr2.far (p := ⟨gx, 1, none⟩) (by show _ ≠ gx; omega) _
  have ho3 : OwnK (w2.setCell ⟨gx, 1, none⟩ (.slice G1 fl1.length k1)) w1.heap.size (.slice G1 fl1.length k1) fl1 := ownsRow_setCell_below ho1 (a := ⟨gx, 1, none⟩) (by show gx < _; omega) _
  have hB3 : Below gx w1 (w2.setCell ⟨gx, 1, none⟩ (.slice G1 fl1.length k1)) := (Below.mono hb2 (B' := gx) (by omega)).setCell (p := ⟨gx, 1, none⟩) (Nat.le_refl _) _
  have hW3 := HW2.out.setCell (p := ⟨gx, 1, none⟩) (Nat.le_refl _) (.slice G1 fl1.length k1)
  have hz3 : w1.heap.size ≤ (w2.setCell ⟨gx, 1, none⟩ (.slice G1 fl1.length k1)).heap.size := by simpa [World.setCell] using hz2
  go_upto_region 2 with (fail)
  change Code.wp _ _ _ _ (w2.setCell ⟨gx, 1, none⟩ (.slice G1 fl1.length k1))
  clear c1 f1 hs2 hm2 hr2 hk2 ho1 hb2 HW2
  generalize w2.setCell ⟨gx, 1, none⟩ (.slice G1 fl1.length k1) = w3 at *
  have HO3 := Lib.hid ho3
  have HS3 := Lib.hid hs3
  have HR3 := Lib.hid hr3
  have HW3 := Lib.hid hW3
  have m13 : w3.cell? ⟨gx + 1, 13, none⟩ = some (.slice L bs.length cl) := (hm3.cell 13).trans (by rw [List.getElem?_toArray]; exact HM13.out)
  have n13 : w3.cell? ⟨gx + 1 + 1, 13, none⟩ = some (.slice L' bs'.length cl') := (hk3.cell 13).trans (by rw [List.getElem?_toArray]; exact HN13.out)
  have s2 : w3.cell? ⟨gx, 2, none⟩ = some (.slice A' bl.length c') := hs3.cell 2
  have HC := Lib.hid (rwent_any w3 A' L L' c' cl cl' bl bs bs' ((HA'.out.below hB3).wide (by omega)) ((Lies.below HL.out hB3).wide (by omega)) ((Lies.below HL'.out hB3).wide (by omega)) h2)
  obtain ⟨bl1, HQ2⟩ : ∃ a, Hid ((keepRec (wentF bs') 0 bl bs 0).1 = a) := ⟨_, Lib.hid rfl⟩
  rw [HQ2.out] at HC
  clear ho3 hs3 hm3 hr3 hk3 hB3 hW3
  go_wp2_with fail
  refine HC.out.mono ?_
  rintro e w4 ⟨⟨v2, rfl, ho4⟩, hb4⟩
  clear m13 n13 s2 HC
  obtain ⟨G2, k2, hv2, _, _⟩ := own_shape ho4 (by omega)
  subst hv2
  have hs4 : Whole w4 gx 25 #[.int .u64 ck, .slice G1 fl1.length k1, .slice A' bl.length c', S r] := HS3.out.below hb4 (by omega)
  have hr4 := HR3.out.below hb4 (by omega)
  have ho3 := own_below HO3.out hb4
  have HW4 := Lib.hid (HW3.out.trans (hb4.mono (by omega)))
  have c2 : w4.cell? ⟨gx, 2, none⟩ = some (.slice A' bl.length c') := hs4.cell 2
  have f2 : w4.frozen? ⟨gx, 2, none⟩ = false := hs4.free 2
  have hs5 : Whole (w4.setCell ⟨gx, 2, none⟩ (.slice G2 bl1.length k2)) gx 25 #[.int .u64 ck, .slice G1 fl1.length k1, .slice G2 bl1.length k2, S r] := hs4.set 2 _
  have hr5 : Whole (w4.setCell ⟨gx, 2, none⟩ (.slice G2 bl1.length k2)) (gx + 1 + 1 + 1) 25 #[.int .u64 0, .slice none 0 0, .slice none 0 0, S []] := hr4.far (p := ⟨gx, 2, none⟩) (by show _ ≠ gx; omega) _
  have ho5 : OwnK (w4.setCell ⟨gx, 2, none⟩ (.slice G2 bl1.length k2)) w1.heap.size (.slice G1 fl1.length k1) fl1 := ownsRow_setCell_below ho3 (a := ⟨gx, 2, none⟩) (by show gx < _; omega) _
  have ho5' : OwnK (w4.setCell ⟨gx, 2, none⟩ (.slice G2 bl1.length k2)) w3.heap.size (.slice G2 bl1.length k2) bl1 := ownsRow_setCell_below ho4 (a := ⟨gx, 2, none⟩) (by show gx < _; omega) _
  have hW5 := HW4.out.setCell (p := ⟨gx, 2, none⟩) (Nat.le_refl _) (.slice G2 bl1.length k2)
  go_upto_region 3 with (fail)
  change Code.wp _ _ _ _ (w4.setCell ⟨gx, 2, none⟩ (.slice G2 bl1.length k2))
  clear c2 f2 hs4 hr4 ho3 ho4 hb4
  generalize w4.setCell ⟨gx, 2, none⟩ (.slice G2 bl1.length k2) = w5 at *
  have t0 : w5.cell? ⟨gx, 0, none⟩ = some (.int .u64 ck) := hs5.cell 0
  have t1 : w5.cell? ⟨gx, 1, none⟩ = some (.slice G1 fl1.length k1) := hs5.cell 1
  have t2 : w5.cell? ⟨gx, 2, none⟩ = some (.slice G2 bl1.length k2) := hs5.cell 2
  have t3 : w5.cell? ⟨gx, 3, none⟩ = some (S r) := hs5.cell 3
  have r0 : w5.cell? ⟨gx + 1 + 1 + 1, 0, none⟩ = some (.int .u64 0) := hr5.cell 0
  have r1 : w5.cell? ⟨gx + 1 + 1 + 1, 1, none⟩ = some (.slice none 0 0) := hr5.cell 1
  have r2 : w5.cell? ⟨gx + 1 + 1 + 1, 2, none⟩ = some (.slice none 0 0) := hr5.cell 2
  have r3 : w5.cell? ⟨gx + 1 + 1 + 1, 3, none⟩ = some (S []) := hr5.cell 3
  have y0 := hr5.free 0
  have y1 := hr5.free 1
  have y2 := hr5.free 2
  have y3 := hr5.free 3
  have HO5 := Lib.hid ho5
  have HO5' := Lib.hid ho5'
  have HW5 := Lib.hid hW5
  clear hs5 hr5 ho5 ho5' hW5
  go_wp2_with fail
  refine bodyPost_ret (v := .agg #[.int .u64 ck, .slice G1 fl1.length k1, .slice G2 bl1.length k2, S r]) (by simp [results, Tryd.results9, go_sem, r0, r1, r2, r3]) rfl ?_
  rw [HQ1.out, HQ2.out]
  obtain ⟨_, _, e1, l1, g1⟩ := own_shape HO5.out (by omega)
  obtain ⟨_, _, e2, l2, g2⟩ := own_shape HO5'.out (by omega)
  injection e1 with e1 _ e1'
  injection e2 with e2 _ e2'
  subst e1; subst e1'; subst e2; subst e2'
  refine ⟨⟨G1, k1, G2, k2, rfl, lies_set4 l1 fun ad h => ?_, lies_set4 l2 fun ad h => ?_, fun ad h => ?_, fun ad h => ?_⟩, ?_⟩
  · have := g1 ad h; omega
  · have := g2 ad h; omega
  · have := g1 ad h; rw [HGX.out]; omega
  · have := g2 ad h; rw [HGX.out]; omega
  · rw [HGX.out]
    exact (((HW5.out.setCell (p := ⟨gx + 1 + 1 + 1, 0, none⟩) (by show gx ≤ gx + 1 + 1 + 1; omega) _).setCell (p := ⟨gx + 1 + 1 + 1, 1, none⟩) (by show gx ≤ gx + 1 + 1 + 1; omega) _).setCell (p := ⟨gx + 1 + 1 + 1, 2, none⟩) (by show gx ≤ gx + 1 + 1 + 1; omega) _).setCell (p := ⟨gx + 1 + 1 + 1, 3, none⟩) (by show gx ≤ gx + 1 + 1 + 1; omega) _
set_option maxRecDepth 100000 in
set_option maxHeartbeats 4000000 in
theorem rpumpS_any (w : World) (A A' : Option Addr) (c c' : Nat) (ck : Int) (fl bl : List Kp) (r : List UInt8) (M : List Value) (fs bs : List (List UInt8)) (n : Int) (hn : inJ n)
    (hA : Kps w w.heap.size A fl) (hA' : Kps w w.heap.size A' bl) (hM : IsM w w.heap.size M fs bs) (h1 : fl.length ≤ 274877906944) (h2 : bl.length ≤ 274877906944) :
    Calls Tryd.prog 11 #[.agg #[.int .u64 ck, .slice A fl.length c, .slice A' bl.length c', S r], .agg M.toArray, .int .i64 n] w fun e w' => ShotPost w ck (keepRec pumpF 0 fl fs n).1 (keepRec pumpF 0 bl bs (keepRec pumpF 0 fl fs n).2).1 r e w' ∧ Below w.heap.size w w' := by
  obtain ⟨hM17, _, F, cf, L, cl, hM4, hM13, hF, hL⟩ := hM
  have hl17 : M.toArray.size = 17 := by rw [List.size_toArray]; exact hM17
  have hs := ((Whole.made w 25 #[.int .u64 ck, .slice A fl.length c, .slice A' bl.length c', S r]).block (.cells M.toArray 33)).block (.cells #[.int .u64 0, .slice none 0 0, .slice none 0 0, S []] 25)
  have hm := (Whole.made (w.alloc (.cells #[.int .u64 ck, .slice A fl.length c, .slice A' bl.length c', S r] 25)) 33 M.toArray).block (.cells #[.int .u64 0, .slice none 0 0, .slice none 0 0, S []] 25)
  have hr := Whole.made ((w.alloc (.cells #[.int .u64 ck, .slice A fl.length c, .slice A' bl.length c', S r] 25)).alloc (.cells M.toArray 33)) 25 #[.int .u64 0, .slice none 0 0, .slice none 0 0, S []]
  have hb : Below w.heap.size w (((w.alloc (.cells #[.int .u64 ck, .slice A fl.length c, .slice A' bl.length c', S r] 25)).alloc (.cells M.toArray 33)).alloc (.cells #[.int .u64 0, .slice none 0 0, .slice none 0 0, S []] 25)) := (((Below.refl _ _).alloc (Nat.le_refl _) _).alloc (by simp) _).alloc (by simp; omega) _
  rw [show (w.alloc (.cells #[.int .u64 ck, .slice A fl.length c, .slice A' bl.length c', S r] 25)).heap.size = w.heap.size + 1 by simp] at hm
  rw [show ((w.alloc (.cells #[.int .u64 ck, .slice A fl.length c, .slice A' bl.length c', S r] 25)).alloc (.cells M.toArray 33)).heap.size = w.heap.size + 1 + 1 by simp] at hr
  have HA := Lib.hid (hA.below hb)
  have HA' := Lib.hid (hA'.below hb)
  have HF := Lib.hid (Lies.below hF hb)
  have HL := Lib.hid (Lies.below hL hb)
  clear hA hA' hF hL
  go_enter Tryd.func11, Tryd.ntmps11
  go_upto_region 1 with (fail)
  change Code.wp _ _ _ _ (((w.alloc (.cells #[.int .u64 ck, .slice A fl.length c, .slice A' bl.length c', S r] 25)).alloc (.cells M.toArray 33)).alloc (.cells #[.int .u64 0, .slice none 0 0, .slice none 0 0, S []] 25))
  clear hl17
  generalize (((w.alloc (.cells #[.int .u64 ck, .slice A fl.length c, .slice A' bl.length c', S r] 25)).alloc (.cells M.toArray 33)).alloc (.cells #[.int .u64 0, .slice none 0 0, .slice none 0 0, S []] 25)) = w1 at *
  generalize hgx : w.heap.size = gx at *
  have HGX := Lib.hid hgx
  have HW := Lib.hid hb
  have HS := Lib.hid hs
  have HM := Lib.hid hm
  have HR := Lib.hid hr
  have hgl : gx + 1 + 1 < w1.heap.size := hr.lt
  have HLL : Hid (∀ (W : World) (G : Option Addr) (xs : List Value), Below w1.heap.size w1 W → Lies w1 gx G xs → Lies W W.heap.size G xs) := Lib.hid fun W G xs hW h => (h.below (hW.mono (by omega))).wide (by have := hW.size; omega)
  have m4 : w1.cell? ⟨gx + 1, 4, none⟩ = some (.slice F fs.length cf) := (hm.cell 4).trans (by rw [List.getElem?_toArray]; exact hM4)
  have HM13 := Lib.hid hM13
  have s1 : w1.cell? ⟨gx, 1, none⟩ = some (.slice A fl.length c) := hs.cell 1
  have HJ := Lib.hid hn
  have HC := Lib.hid (rpump_any w1 A F c cf fl fs n hn (HLL.out _ _ _ (Below.refl _ _) HA.out) (HLL.out _ _ _ (Below.refl _ _) HF.out) h1)
  obtain ⟨fl1, n1, HQ1⟩ : ∃ a b, Hid (keepRec pumpF 0 fl fs n = (a, b)) := ⟨_, _, Lib.hid rfl⟩
  have HJ1 : Hid (inJ n1) := Lib.hid (by
    have h := pump_low fl fs 0 n
    rw [HQ1.out] at h
    by_cases h0 : 0 ≤ n
    · have h' := (pump_state fl fs 0 n h0).1
      rw [HQ1.out] at h'
      unfold inJ at *; simp only at h h'; have := HJ.out.1; have := HJ.out.2; omega
    · have h' := pump_none fl fs 0 n (by omega)
      rw [HQ1.out] at h'
      injection h' with _ h'
      rw [h']; exact HJ.out)
  rw [HQ1.out] at HC
  clear hgx hb hs hm hr hM4 hM13 hn
  go_wp2_with fail
  refine HC.out.mono ?_
  rintro e w2 ⟨⟨v1, rfl, ho1⟩, hb2⟩
  clear m4 s1 HC
  obtain ⟨G1, k1, hv1, _, _⟩ := own_shape ho1 (by omega)
  subst hv1
  have hs2 : Whole w2 gx 25 #[.int .u64 ck, .slice A fl.length c, .slice A' bl.length c', S r] := HS.out.below hb2 (by omega)
  have hm2 := HM.out.below hb2 (by omega)
  have hr2 := HR.out.below hb2 hgl
  have c1 : w2.cell? ⟨gx, 1, none⟩ = some (.slice A fl.length c) := hs2.cell 1
  have f1 : w2.frozen? ⟨gx, 1, none⟩ = false := hs2.free 1
  have HW2 := Lib.hid (HW.out.trans (hb2.mono (by omega)))
  have hz2 : w1.heap.size ≤ w2.heap.size := hb2.size
  have hm13 : w2.cell? ⟨gx + 1, 13, none⟩ = some (.slice L bs.length cl) := (hm2.cell 13).trans (by rw [List.getElem?_toArray]; exact HM13.out)
  have s2 : w2.cell? ⟨gx, 2, none⟩ = some (.slice A' bl.length c') := hs2.cell 2
  have HO2 := Lib.hid ho1
  have HC := Lib.hid (rpump_any w2 A' L c' cl bl bs n1 HJ1.out (HLL.out _ _ _ hb2 HA'.out) (HLL.out _ _ _ hb2 HL.out) h2)
  obtain ⟨bl1, n2, HQ2⟩ : ∃ a b, Hid (keepRec pumpF 0 bl bs n1 = (a, b)) := ⟨_, _, Lib.hid rfl⟩
  rw [HQ2.out] at HC
  have HS2 := Lib.hid hs2
  have HR2 := Lib.hid hr2
  clear c1 f1 hs2 hm2 hr2 ho1 hb2
  go_wp2_with fail
  refine HC.out.mono ?_
  rintro e w4 ⟨⟨v2, rfl, ho4⟩, hb4⟩
  clear hm13 s2 HC
  obtain ⟨G2, k2, hv2, _, _⟩ := own_shape ho4 (by omega)
  subst hv2
  have hs4 : Whole w4 gx 25 #[.int .u64 ck, .slice A fl.length c, .slice A' bl.length c', S r] := HS2.out.below hb4 (by omega)
  have hr4 := HR2.out.below hb4 (by omega)
  have ho3 := own_below HO2.out hb4
  have HW4 := Lib.hid (HW2.out.trans (hb4.mono (by omega)))
  have c1 : w4.cell? ⟨gx, 1, none⟩ = some (.slice A fl.length c) := hs4.cell 1
  have f1 : w4.frozen? ⟨gx, 1, none⟩ = false := hs4.free 1
  have c2 : w4.cell? ⟨gx, 2, none⟩ = some (.slice A' bl.length c') := hs4.cell 2
  have f2 : w4.frozen? ⟨gx, 2, none⟩ = false := hs4.free 2
  have hs5 : Whole ((w4.setCell ⟨gx, 1, none⟩ (.slice G1 fl1.length k1)).setCell ⟨gx, 2, none⟩ (.slice G2 bl1.length k2)) gx 25 #[.int .u64 ck, .slice G1 fl1.length k1, .slice G2 bl1.length k2, S r] := (hs4.set 1 _).set 2 _
  have hr5 : Whole ((w4.setCell ⟨gx, 1, none⟩ (.slice G1 fl1.length k1)).setCell ⟨gx, 2, none⟩ (.slice G2 bl1.length k2)) (gx + 1 + 1) 25 #[.int .u64 0, .slice none 0 0, .slice none 0 0, S []] := (hr4.far (p := ⟨gx, 1, none⟩) (by show _ ≠ gx; omega) _).far (p := ⟨gx, 2, none⟩) (by show _ ≠ gx; omega) _
  have ho5 : OwnK ((w4.setCell ⟨gx, 1, none⟩ (.slice G1 fl1.length k1)).setCell ⟨gx, 2, none⟩ (.slice G2 bl1.length k2)) w1.heap.size (.slice G1 fl1.length k1) fl1 := ownsRow_setCell_below (ownsRow_setCell_below ho3 (a := ⟨gx, 1, none⟩) (by show gx < _; omega) _) (a := ⟨gx, 2, none⟩) (by show gx < _; omega) _
  have ho5' : OwnK ((w4.setCell ⟨gx, 1, none⟩ (.slice G1 fl1.length k1)).setCell ⟨gx, 2, none⟩ (.slice G2 bl1.length k2)) w2.heap.size (.slice G2 bl1.length k2) bl1 := ownsRow_setCell_below (ownsRow_setCell_below ho4 (a := ⟨gx, 1, none⟩) (by show gx < _; omega) _) (a := ⟨gx, 2, none⟩) (by show gx < _; omega) _
  have hW5 := (HW4.out.setCell (p := ⟨gx, 1, none⟩) (Nat.le_refl _) (.slice G1 fl1.length k1)).setCell (p := ⟨gx, 2, none⟩) (Nat.le_refl _) (.slice G2 bl1.length k2)
  have hz3 := hz2
  go_upto_region 4 with (fail)
  change Code.wp _ _ _ _ ((w4.setCell ⟨gx, 1, none⟩ (.slice G1 fl1.length k1)).setCell ⟨gx, 2, none⟩ (.slice G2 bl1.length k2))
  clear c1 f1 c2 f2 hs4 hr4 ho3 ho4 hb4
  generalize (w4.setCell ⟨gx, 1, none⟩ (.slice G1 fl1.length k1)).setCell ⟨gx, 2, none⟩ (.slice G2 bl1.length k2) = w5 at *
  have t0 : w5.cell? ⟨gx, 0, none⟩ = some (.int .u64 ck) := hs5.cell 0
  have t1 : w5.cell? ⟨gx, 1, none⟩ = some (.slice G1 fl1.length k1) := hs5.cell 1
  have t2 : w5.cell? ⟨gx, 2, none⟩ = some (.slice G2 bl1.length k2) := hs5.cell 2
  have t3 : w5.cell? ⟨gx, 3, none⟩ = some (S r) := hs5.cell 3
  have r0 : w5.cell? ⟨gx + 1 + 1, 0, none⟩ = some (.int .u64 0) := hr5.cell 0
  have r1 : w5.cell? ⟨gx + 1 + 1, 1, none⟩ = some (.slice none 0 0) := hr5.cell 1
  have r2 : w5.cell? ⟨gx + 1 + 1, 2, none⟩ = some (.slice none 0 0) := hr5.cell 2
  have r3 : w5.cell? ⟨gx + 1 + 1, 3, none⟩ = some (S []) := hr5.cell 3
  have y0 := hr5.free 0
  have y1 := hr5.free 1
  have y2 := hr5.free 2
  have y3 := hr5.free 3
  have HO5 := Lib.hid ho5
  have HO5' := Lib.hid ho5'
  have HW5 := Lib.hid hW5
  clear hs5 hr5 ho5 ho5' hW5
  go_wp2_with fail
  refine bodyPost_ret (v := .agg #[.int .u64 ck, .slice G1 fl1.length k1, .slice G2 bl1.length k2, S r]) (by simp [results, Tryd.results11, go_sem, r0, r1, r2, r3]) rfl ?_
  rw [HQ1.out]
  show ShotPost w ck fl1 (keepRec pumpF 0 bl bs n1).1 r _ _ ∧ _
  rw [HQ2.out]
  obtain ⟨_, _, e1, l1, g1⟩ := own_shape HO5.out (by omega)
  obtain ⟨_, _, e2, l2, g2⟩ := own_shape HO5'.out (by omega)
  injection e1 with e1 _ e1'
  injection e2 with e2 _ e2'
  subst e1; subst e1'; subst e2; subst e2'
  refine ⟨⟨G1, k1, G2, k2, rfl, lies_set4 l1 fun ad h => ?_, lies_set4 l2 fun ad h => ?_, fun ad h => ?_, fun ad h => ?_⟩, ?_⟩
  · have := g1 ad h; omega
  · have := g2 ad h; omega
  · have := g1 ad h; rw [HGX.out]; omega
  · have := g2 ad h; rw [HGX.out]; omega
  · rw [HGX.out]
    exact (((HW5.out.setCell (p := ⟨gx + 1 + 1, 0, none⟩) (by show gx ≤ gx + 1 + 1; omega) _).setCell (p := ⟨gx + 1 + 1, 1, none⟩) (by show gx ≤ gx + 1 + 1; omega) _).setCell (p := ⟨gx + 1 + 1, 2, none⟩) (by show gx ≤ gx + 1 + 1; omega) _).setCell (p := ⟨gx + 1 + 1, 3, none⟩) (by show gx ≤ gx + 1 + 1; omega) _
end Go.Proofs.YtmmfcjkabpffeaaDoor
