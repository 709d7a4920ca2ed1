/-
  Walk: hibernaclelaw34.FreezeOnce. (Printed by gen_fzonce.py.)
-/
import Derived.Test.YtmmfcjkabpffeaaDoorFzGoes
namespace Go.Proofs.YtmmfcjkabpffeaaDoor
open Go.RowKit

theorem keep_two (f g : Int → Nat → List UInt8 → Bool × Int) (l : List Kp) (now now' : List (List UInt8)) (i i' : Nat) (s s' : Int) (j : Nat) (hj : j < l.length) (h : (l.getD j (false, [])).1 = true) :
    (keepRec g i' (keepRec f i l now s).1 now' s').1.getD j (false, []) = l.getD j (false, []) := by
  have h1 := keep_once f l now i s j hj h
  rw [keep_once g _ now' i' s' j (by rw [keep_length]; exact hj) (by rw [h1]; exact h), h1]
set_option maxRecDepth 100000 in
set_option maxHeartbeats 4000000 in
theorem fonce_any (w : World) (A A' : Option Addr) (c c' : Nat) (ck : Int) (fl bl : List Kp) (r : List UInt8) (M N : List Value) (fs bs fs' bs' : List (List UInt8)) (n : Int) (hn : inJ n) (hA : Kps w w.heap.size A fl) (hA' : Kps w w.heap.size A' bl) (hM : IsM w w.heap.size M fs bs) (hN : IsM w w.heap.size N fs' bs') (hM' : IsM' M) (hN' : IsM' N) :
    Calls Tryd.prog 4 #[.agg #[.int .u64 ck, .slice A fl.length c, .slice A' bl.length c', S r], .agg M.toArray, .agg N.toArray, .int .i64 n] w fun e w' => e = .returned (.bool true) ∧ Below w.heap.size w w' := by
  have hl17 : M.toArray.size = 17 := by rw [List.size_toArray]; exact hM.1
  have hl17' : N.toArray.size = 17 := by rw [List.size_toArray]; exact hN.1
  have MI : Hid ((Tryd.prog.info? 33).map (·.size) = some M.length) := Lib.hid (by rw [hM.1]; kernel_rfl)
  have NI : Hid ((Tryd.prog.info? 33).map (·.size) = some N.length) := Lib.hid (by rw [hN.1]; kernel_rfl)
  have hs := ((Whole.made w 25 #[.int .u64 ck, .slice A fl.length c, .slice A' bl.length c', S r]).block (.cells M.toArray 33)).block (.cells N.toArray 33)
  have hm := (Whole.made (w.alloc (.cells #[.int .u64 ck, .slice A fl.length c, .slice A' bl.length c', S r] 25)) 33 M.toArray).block (.cells N.toArray 33)
  have hk := Whole.made ((w.alloc (.cells #[.int .u64 ck, .slice A fl.length c, .slice A' bl.length c', S r] 25)).alloc (.cells M.toArray 33)) 33 N.toArray
  have hb : Below w.heap.size w (((w.alloc (.cells #[.int .u64 ck, .slice A fl.length c, .slice A' bl.length c', S r] 25)).alloc (.cells M.toArray 33)).alloc (.cells N.toArray 33)) := (((Below.refl _ _).alloc (Nat.le_refl _) _).alloc (by simp) _).alloc (by simp; omega) _
  rw [show (w.alloc (.cells #[.int .u64 ck, .slice A fl.length c, .slice A' bl.length c', S r] 25)).heap.size = w.heap.size + 1 by simp] at hm
  rw [show ((w.alloc (.cells #[.int .u64 ck, .slice A fl.length c, .slice A' bl.length c', S r] 25)).alloc (.cells M.toArray 33)).heap.size = w.heap.size + 1 + 1 by simp] at hk
  have HA := Lib.hid (hA.below hb)
  have HA' := Lib.hid (hA'.below hb)
  have HM := Lib.hid (IsM.below hM hb)
  have HN := Lib.hid (IsM.below hN hb)
  have HM' := Lib.hid hM'
  have HN' := Lib.hid hN'
  have HJ := Lib.hid hn
  clear hA hA' hM hN hM' hN' hn
  go_enter Tryd.func4, Tryd.ntmps4
  go_upto_region 1 with (fail)
  change Code.wp _ _ _ _ (((w.alloc (.cells #[.int .u64 ck, .slice A fl.length c, .slice A' bl.length c', S r] 25)).alloc (.cells M.toArray 33)).alloc (.cells N.toArray 33))
  clear hl17 hl17'
  generalize (((w.alloc (.cells #[.int .u64 ck, .slice A fl.length c, .slice A' bl.length c', S r] 25)).alloc (.cells M.toArray 33)).alloc (.cells N.toArray 33)) = w1 at *
  generalize hgx : w.heap.size = gx at *
  have HGX := Lib.hid hgx
  have HS := Lib.hid hs
  have HW := Lib.hid hb
  have hgl : gx + 1 + 1 < w1.heap.size := hk.lt
  have HLL : Hid (∀ (W : World) (G : Option Addr) (xs : List Value), Below w1.heap.size w1 W → Lies w1 gx G xs → Lies W W.heap.size G xs) := Lib.hid fun W G xs hW h => (h.below (hW.mono (by omega))).wide (by have := hW.size; omega)
  have HRM : Hid (∀ W, Below w1.heap.size w1 W → ∀ j v, M[j]? = some v → W.cell? ((⟨gx + 1, 0, none⟩ : Addr).add j) = some v) := Lib.hid fun W hW => (hm.below hW (by omega)).reads
  have HRN : Hid (∀ W, Below w1.heap.size w1 W → ∀ j v, N[j]? = some v → W.cell? ((⟨gx + 1 + 1, 0, none⟩ : Addr).add j) = some v) := Lib.hid fun W hW => (hk.below hW (by omega)).reads
  have IM : Hid (∀ W, Below w1.heap.size w1 W → IsM W W.heap.size M fs bs) := Lib.hid fun W hW => (IsM.below HM.out (hW.mono (by omega))).wide (by have := hW.size; omega)
  have IN : Hid (∀ W, Below w1.heap.size w1 W → IsM W W.heap.size N fs' bs') := Lib.hid fun W hW => (IsM.below HN.out (hW.mono (by omega))).wide (by have := hW.size; omega)
  have HEND : Hid (∀ W, Below w1.heap.size w1 W → Below gx w W) := Lib.hid fun W hW => HW.out.trans (hW.mono (by omega))
  clear hgx hs hm hk hb HM HN
  go_wp2_with fail
  refine (alive_any w1).mono ?_
  rintro e w2 ⟨rfl, hb2⟩
  have HB2 := Lib.hid hb2
  have hs2 := HS.out.below hb2 (by omega)
  have s0 : w2.cell? ⟨gx, 0, none⟩ = some (.int .u64 ck) := hs2.cell 0
  have s1 : w2.cell? ⟨gx, 1, none⟩ = some (.slice A fl.length c) := hs2.cell 1
  have s2 : w2.cell? ⟨gx, 2, none⟩ = some (.slice A' bl.length c') := hs2.cell 2
  have s3 : w2.cell? ⟨gx, 3, none⟩ = some (S r) := hs2.cell 3
  clear hb2 hs2
  have CG := Lib.hid (frgreat_any w2 A A' c c' ck fl bl r w2.heap.size M fs bs (IM.out w2 HB2.out) HM'.out)
  go_wp2_with (refine wpList_load_at rfl 33 (.tmp 5) rfl ⟨gx + 1, 0, none⟩ rfl M _ (HRM.out _ HB2.out) Tryd.underlying33 rfl MI.out ?_)
  refine CG.out.mono ?_
  rintro e w3 ⟨⟨g, rfl, hg⟩, hb3⟩
  have HB3 := Lib.hid (HB2.out.trans (hb3.mono HB2.out.size))
  clear CG s0 s1 s2 s3 hb3
  rcases hg with rfl | ⟨rfl, g1, g2, g3, g4⟩
  · go_wp2_with fail
    go_ret
    exact ⟨rfl, by rw [HGX.out]; exact HEND.out _ HB3.out⟩
  · have hs3 := HS.out.below HB3.out (by omega)
    have s0 : w3.cell? ⟨gx, 0, none⟩ = some (.int .u64 ck) := hs3.cell 0
    have s1 : w3.cell? ⟨gx, 1, none⟩ = some (.slice A fl.length c) := hs3.cell 1
    have s2 : w3.cell? ⟨gx, 2, none⟩ = some (.slice A' bl.length c') := hs3.cell 2
    have s3 : w3.cell? ⟨gx, 3, none⟩ = some (S r) := hs3.cell 3
    clear hs3
    have CG := Lib.hid (frgreat_any w3 A A' c c' ck fl bl r w3.heap.size N fs' bs' (IN.out w3 HB3.out) HN'.out)
    go_wp2_with (refine wpList_load_g rfl 33 (.tmp 6) rfl ⟨gx + 1 + 1, 0, none⟩ rfl N _ (HRN.out _ HB3.out) Tryd.underlying33 rfl NI.out ?_)
    refine CG.out.mono ?_
    rintro e w4 ⟨⟨g, rfl, hg⟩, hb4⟩
    have HB4 := Lib.hid (HB3.out.trans (hb4.mono HB3.out.size))
    clear CG s0 s1 s2 s3 hb4
    rcases hg with rfl | ⟨rfl, g5, g6, _, _⟩
    · go_wp2_with fail
      go_ret
      exact ⟨rfl, by rw [HGX.out]; exact HEND.out _ HB4.out⟩
    · go_upto_region 5 with (fail)
      clear HB3 HB2
      obtain ⟨fl1, HQ1⟩ : ∃ z, Hid ((keepRec (wentF fs') 0 fl fs 0).1 = z) := ⟨_, Lib.hid rfl⟩
      obtain ⟨bl1, HQ2⟩ : ∃ z, Hid ((keepRec (wentF bs') 0 bl bs 0).1 = z) := ⟨_, Lib.hid rfl⟩
      obtain ⟨fl2, HQ3⟩ : ∃ z, Hid ((keepRec pumpF 0 fl1 fs' n).1 = z) := ⟨_, Lib.hid rfl⟩
      obtain ⟨bl2, HQ4⟩ : ∃ z, Hid ((keepRec pumpF 0 bl1 bs' (keepRec pumpF 0 fl1 fs' n).2).1 = z) := ⟨_, Lib.hid rfl⟩
      have E1 : Hid (fl1.length = fl.length) := Lib.hid (by rw [← HQ1.out, keep_length])
      have E2 : Hid (bl1.length = bl.length) := Lib.hid (by rw [← HQ2.out, keep_length])
      have E3 : Hid (fl2.length = fl.length) := Lib.hid (by rw [← HQ3.out, keep_length, E1.out])
      have E4 : Hid (bl2.length = bl.length) := Lib.hid (by rw [← HQ4.out, keep_length, E2.out])
      have HO1 : Hid (∀ k, k < fl.length → (fl.getD k (false, [])).1 = true → fl2.getD k (false, []) = fl.getD k (false, [])) := Lib.hid fun k hk h => by rw [← HQ3.out, ← HQ1.out]; exact keep_two _ _ _ _ _ _ _ _ _ _ hk h
      have HO2 : Hid (∀ k, k < bl.length → (bl.getD k (false, [])).1 = true → bl2.getD k (false, []) = bl.getD k (false, [])) := Lib.hid fun k hk h => by rw [← HQ4.out, ← HQ2.out]; exact keep_two _ _ _ _ _ _ _ _ _ _ hk h
      have HF1 : leftL fl1 ≤ leftL fl := by rw [← HQ1.out]; exact keep_left _ _ _ _ _
      have HF2 : leftL bl1 ≤ leftL bl := by rw [← HQ2.out]; exact keep_left _ _ _ _ _
      have HF3 : leftL fl2 ≤ leftL fl1 := by rw [← HQ3.out]; exact keep_left _ _ _ _ _
      have HF4 : leftL bl2 ≤ leftL bl1 := by rw [← HQ4.out]; exact keep_left _ _ _ _ _
      have CW : Hid (∀ W, Below w1.heap.size w1 W → Calls Tryd.prog 8 #[.agg #[.int .u64 ck, .slice A fl.length c, .slice A' bl.length c', S r], .agg M.toArray, .agg N.toArray] W fun e w' => (∃ H m H' m', e = .returned (.agg #[.int .u64 ck, .slice H fl.length m, .slice H' bl.length m', S r]) ∧ Kps w' w'.heap.size H fl1 ∧ Kps w' w'.heap.size H' bl1) ∧ Below W.heap.size W w') := Lib.hid fun W hW => by
        have := went_any W A A' c c' ck fl bl r M fs bs N fs' bs' (HLL.out _ _ _ hW HA.out) (HLL.out _ _ _ hW HA'.out) (IM.out W hW) (IN.out W hW) (by omega) (by omega) (by omega) (by omega)
        rw [HQ1.out, HQ2.out] at this
        refine this.mono ?_
        rintro e w' ⟨⟨H, m, H', m', he, q1, q2, _, _⟩, hb⟩
        rw [E1.out, E2.out] at he
        exact ⟨⟨H, m, H', m', he, q1, q2⟩, hb⟩
      have CP : Hid (∀ W H m H' m', Below w1.heap.size w1 W → Kps W W.heap.size H fl1 → Kps W W.heap.size H' bl1 → Calls Tryd.prog 10 #[.agg #[.int .u64 ck, .slice H fl.length m, .slice H' bl.length m', S r], .agg N.toArray, .int .i64 n] W fun e w' => (∃ H m H' m', e = .returned (.agg #[.int .u64 ck, .slice H fl.length m, .slice H' bl.length m', S r]) ∧ Kps w' w'.heap.size H fl2 ∧ Kps w' w'.heap.size H' bl2) ∧ Below W.heap.size W w') := Lib.hid fun W H m H' m' hW q1 q2 => by
        have := pump_any W H H' m m' ck fl1 bl1 r N fs' bs' n HJ.out q1 q2 (IN.out W hW) (by rw [E1.out]; omega) (by rw [E2.out]; omega) (by omega) (by omega)
        rw [HQ3.out, HQ4.out] at this
        rw [← E1.out, ← E2.out]
        refine this.mono ?_
        rintro e w' ⟨⟨H, m, H', m', he, q1, q2, _, _⟩, hb⟩
        rw [E3.out, E4.out, ← E1.out, ← E2.out] at he
        exact ⟨⟨H, m, H', m', he, q1, q2⟩, hb⟩
      have hs4 := HS.out.below HB4.out (by omega)
      have s0 : w4.cell? ⟨gx, 0, none⟩ = some (.int .u64 ck) := hs4.cell 0
      have s1 : w4.cell? ⟨gx, 1, none⟩ = some (.slice A fl.length c) := hs4.cell 1
      have s2 : w4.cell? ⟨gx, 2, none⟩ = some (.slice A' bl.length c') := hs4.cell 2
      have s3 : w4.cell? ⟨gx, 3, none⟩ = some (S r) := hs4.cell 3
      have CC := Lib.hid (CW.out w4 HB4.out)
      clear hs4
      go_wp2_with (first
        | (refine wpList_load_at rfl 33 (.tmp 5) rfl ⟨gx + 1, 0, none⟩ rfl M _ (HRM.out _ HB4.out) Tryd.underlying33 rfl MI.out ?_)
        | (refine wpList_load_at rfl 33 (.tmp 6) rfl ⟨gx + 1 + 1, 0, none⟩ rfl N _ (HRN.out _ HB4.out) Tryd.underlying33 rfl NI.out ?_))
      refine CC.out.mono ?_
      rintro e w5 ⟨⟨H1, m1, I1, n1, rfl, q1, q2⟩, hb5⟩
      have HB6 := Lib.hid ((HB4.out.trans (hb5.mono HB4.out.size)).alloc (Nat.le_trans HB4.out.size hb5.size) (.cells #[.int .u64 ck, .slice H1 fl.length m1, .slice I1 bl.length n1, S r] 25))
      have HX6 := Lib.hid (Whole.made w5 25 #[.int .u64 ck, .slice H1 fl.length m1, .slice I1 bl.length n1, S r])
      have HQ6a := Lib.hid (Lies.block' q1 (.cells #[.int .u64 ck, .slice H1 fl.length m1, .slice I1 bl.length n1, S r] 25))
      have HQ6b := Lib.hid (Lies.block' q2 (.cells #[.int .u64 ck, .slice H1 fl.length m1, .slice I1 bl.length n1, S r] 25))
      clear s0 s1 s2 s3 CC hb5 q1 q2
      go_upto_region 6 with (fail)
      change Code.wp _ _ _ _ (w5.alloc (.cells #[.int .u64 ck, .slice H1 fl.length m1, .slice I1 bl.length n1, S r] 25))
      generalize w5.alloc (.cells #[.int .u64 ck, .slice H1 fl.length m1, .slice I1 bl.length n1, S r] 25) = w6 at *
      generalize w5.heap.size = gx6 at *
      have hl6 := HX6.out.lt
      have hs6 := HX6.out
      have s0 : w6.cell? ⟨gx6, 0, none⟩ = some (.int .u64 ck) := hs6.cell 0
      have s1 : w6.cell? ⟨gx6, 1, none⟩ = some (.slice H1 fl.length m1) := hs6.cell 1
      have s2 : w6.cell? ⟨gx6, 2, none⟩ = some (.slice I1 bl.length n1) := hs6.cell 2
      have s3 : w6.cell? ⟨gx6, 3, none⟩ = some (S r) := hs6.cell 3
      have CC := Lib.hid (CP.out w6 H1 m1 I1 n1 HB6.out HQ6a.out HQ6b.out)
      clear hs6
      go_wp2_with (first
        | (refine wpList_load_at rfl 33 (.tmp 6) rfl ⟨gx + 1 + 1, 0, none⟩ rfl N _ (HRN.out _ HB6.out) Tryd.underlying33 rfl NI.out ?_))
      refine CC.out.mono ?_
      rintro e w7 ⟨⟨H2, m2, I2, n2, rfl, q1, q2⟩, hb7⟩
      have HB8 := Lib.hid ((HB6.out.trans (hb7.mono HB6.out.size)).alloc (Nat.le_trans HB6.out.size hb7.size) (.cells #[.int .u64 ck, .slice H2 fl.length m2, .slice I2 bl.length n2, S r] 25))
      have HX8 := Lib.hid ((HX6.out.below hb7 hl6).block (.cells #[.int .u64 ck, .slice H2 fl.length m2, .slice I2 bl.length n2, S r] 25))
      have HY8 := Lib.hid (Whole.made w7 25 #[.int .u64 ck, .slice H2 fl.length m2, .slice I2 bl.length n2, S r])
      have HQ8a := Lib.hid (Lies.block' (Lies.wide (Lies.below HQ6a.out hb7) hb7.size) (.cells #[.int .u64 ck, .slice H2 fl.length m2, .slice I2 bl.length n2, S r] 25))
      have HQ8b := Lib.hid (Lies.block' (Lies.wide (Lies.below HQ6b.out hb7) hb7.size) (.cells #[.int .u64 ck, .slice H2 fl.length m2, .slice I2 bl.length n2, S r] 25))
      have HR8a := Lib.hid (Lies.block' q1 (.cells #[.int .u64 ck, .slice H2 fl.length m2, .slice I2 bl.length n2, S r] 25))
      have HR8b := Lib.hid (Lies.block' q2 (.cells #[.int .u64 ck, .slice H2 fl.length m2, .slice I2 bl.length n2, S r] 25))
      clear s0 s1 s2 s3 CC hb7 q1 q2 HB6 HX6 HQ6a HQ6b CW CP
      go_upto_region 7 with (fail)
      change Code.wp _ _ _ _ (w7.alloc (.cells #[.int .u64 ck, .slice H2 fl.length m2, .slice I2 bl.length n2, S r] 25))
      generalize w7.alloc (.cells #[.int .u64 ck, .slice H2 fl.length m2, .slice I2 bl.length n2, S r] 25) = w8 at *
      generalize w7.heap.size = gy8 at *
      have hlx := HX8.out.lt
      have hly := HY8.out.lt
      have hz8 := HB8.out.size
      have HSX := Lib.hid (HS.out.below HB8.out (by omega))
      have hgx8 := HSX.out.lt
      obtain ⟨l0, HL0⟩ : ∃ z : Int, Hid (((leftL fl + leftL bl : Nat) : Int) = z) := ⟨_, Lib.hid rfl⟩
      obtain ⟨l1, HL1⟩ : ∃ z : Int, Hid (((leftL fl1 + leftL bl1 : Nat) : Int) = z) := ⟨_, Lib.hid rfl⟩
      obtain ⟨l2, HL2⟩ : ∃ z : Int, Hid (((leftL fl2 + leftL bl2 : Nat) : Int) = z) := ⟨_, Lib.hid rfl⟩
      have hl10 : l1 ≤ l0 := by rw [← HL1.out, ← HL0.out]; omega
      have hl21 : l2 ≤ l1 := by rw [← HL1.out, ← HL2.out]; omega
      have C0 : Hid (∀ W, Below w8.heap.size w8 W → Calls Tryd.prog 16 #[.agg #[.int .u64 ck, .slice A fl.length c, .slice A' bl.length c', S r]] W fun e w' => e = .returned (.int .i64 l0) ∧ Below W.heap.size W w') := Lib.hid fun W hW => by
        have h1 := HB8.out.trans (hW.mono HB8.out.size)
        have := left_any W A A' c c' ck fl bl r (HLL.out _ _ _ h1 HA.out) (HLL.out _ _ _ h1 HA'.out) (by omega) (by omega)
        rw [HL0.out] at this
        exact this
      have C1 : Hid (∀ W, Below w8.heap.size w8 W → Calls Tryd.prog 16 #[.agg #[.int .u64 ck, .slice H1 fl.length m1, .slice I1 bl.length n1, S r]] W fun e w' => e = .returned (.int .i64 l1) ∧ Below W.heap.size W w') := Lib.hid fun W hW => by
        have := left_any W H1 I1 m1 n1 ck fl1 bl1 r ((Lies.below HQ8a.out hW).wide hW.size) ((Lies.below HQ8b.out hW).wide hW.size) (by rw [E1.out]; omega) (by rw [E2.out]; omega)
        rw [HL1.out, E1.out, E2.out] at this
        exact this
      have C2 : Hid (∀ W, Below w8.heap.size w8 W → Calls Tryd.prog 16 #[.agg #[.int .u64 ck, .slice H2 fl.length m2, .slice I2 bl.length n2, S r]] W fun e w' => e = .returned (.int .i64 l2) ∧ Below W.heap.size W w') := Lib.hid fun W hW => by
        have := left_any W H2 I2 m2 n2 ck fl2 bl2 r ((Lies.below HR8a.out hW).wide hW.size) ((Lies.below HR8b.out hW).wide hW.size) (by rw [E3.out]; omega) (by rw [E4.out]; omega)
        rw [HL2.out, E3.out, E4.out] at this
        exact this
      have HK : Hid (∀ W, Below w8.heap.size w8 W → W.cell? ⟨gx, 0, none⟩ = some (.int .u64 ck) ∧ W.cell? ⟨gx, 1, none⟩ = some (.slice A fl.length c) ∧ W.cell? ⟨gx, 2, none⟩ = some (.slice A' bl.length c') ∧ W.cell? ⟨gx, 3, none⟩ = some (S r) ∧ W.cell? ⟨gx6, 0, none⟩ = some (.int .u64 ck) ∧ W.cell? ⟨gx6, 1, none⟩ = some (.slice H1 fl.length m1) ∧ W.cell? ⟨gx6, 2, none⟩ = some (.slice I1 bl.length n1) ∧ W.cell? ⟨gx6, 3, none⟩ = some (S r) ∧ W.cell? ⟨gy8, 0, none⟩ = some (.int .u64 ck) ∧ W.cell? ⟨gy8, 1, none⟩ = some (.slice H2 fl.length m2) ∧ W.cell? ⟨gy8, 2, none⟩ = some (.slice I2 bl.length n2) ∧ W.cell? ⟨gy8, 3, none⟩ = some (S r)) := Lib.hid fun W hW => ⟨(HSX.out.below hW hgx8).cell 0, (HSX.out.below hW hgx8).cell 1, (HSX.out.below hW hgx8).cell 2, (HSX.out.below hW hgx8).cell 3, (HX8.out.below hW hlx).cell 0, (HX8.out.below hW hlx).cell 1, (HX8.out.below hW hlx).cell 2, (HX8.out.below hW hlx).cell 3, (HY8.out.below hW hly).cell 0, (HY8.out.below hW hly).cell 1, (HY8.out.below hW hly).cell 2, (HY8.out.below hW hly).cell 3⟩
      clear HF1 HF2 HF3 HF4
      have d1 : decide (l0 < l1) = false := decide_eq_false (by omega)
      have d2 : decide (l1 < l2) = false := decide_eq_false (by omega)
      have n1' : ((fl.length : Int) != (fl.length : Int)) = false := by simp
      have n2' : ((bl.length : Int) != (bl.length : Int)) = false := by simp
      have n3' : (fl.length != fl.length) = false := by simp
      have n4' : (bl.length != bl.length) = false := by simp
      have n5' : (r != r) = false := by simp
      have BB := Lib.hid (Below.refl w8.heap.size w8).drew
      go_region_held3 (fun W => W.cell? ⟨gx, 0, none⟩ = some (.int .u64 ck) ∧ W.cell? ⟨gx, 1, none⟩ = some (.slice A fl.length c) ∧ W.cell? ⟨gx, 2, none⟩ = some (.slice A' bl.length c') ∧ W.cell? ⟨gx, 3, none⟩ = some (S r) ∧ W.cell? ⟨gx6, 0, none⟩ = some (.int .u64 ck) ∧ W.cell? ⟨gx6, 1, none⟩ = some (.slice H1 fl.length m1) ∧ W.cell? ⟨gx6, 2, none⟩ = some (.slice I1 bl.length n1) ∧ W.cell? ⟨gx6, 3, none⟩ = some (S r) ∧ W.cell? ⟨gy8, 0, none⟩ = some (.int .u64 ck) ∧ W.cell? ⟨gy8, 1, none⟩ = some (.slice H2 fl.length m2) ∧ W.cell? ⟨gy8, 2, none⟩ = some (.slice I2 bl.length n2) ∧ W.cell? ⟨gy8, 3, none⟩ = some (S r))
        (first
          | (exact HK.out _ (Below.refl _ _))
          | (exact HK.out _ BB.out))
        (first
          | (go_at_call_of 16 (Value.agg #[.int .u64 ck, .slice A fl.length c, .slice A' bl.length c', S r]); (with_reducible refine (C0.out _ BB.out).mono ?_); rintro e wx ⟨rfl, hbl⟩; have BB' := Lib.hid (BB.out.trans (hbl.mono BB.out.size)); clear BB hbl; have BB := BB'; clear BB')
          | (go_at_call_of 16 (Value.agg #[.int .u64 ck, .slice H1 fl.length m1, .slice I1 bl.length n1, S r]); (with_reducible refine (C1.out _ BB.out).mono ?_); rintro e wx ⟨rfl, hbl⟩; have BB' := Lib.hid (BB.out.trans (hbl.mono BB.out.size)); clear BB hbl; have BB := BB'; clear BB')
          | (go_at_call_of 16 (Value.agg #[.int .u64 ck, .slice H2 fl.length m2, .slice I2 bl.length n2, S r]); (with_reducible refine (C2.out _ BB.out).mono ?_); rintro e wx ⟨rfl, hbl⟩; have BB' := Lib.hid (BB.out.trans (hbl.mono BB.out.size)); clear BB hbl; have BB := BB'; clear BB'))
      clear d1 d2 n1' n2' n3' n4' n5' C0 C1 C2 HK
      go_wp2_with fail
      go_loopw [11] (fun i wr => ∃ k : Nat, k ≤ fl.length ∧ i = .int .i64 k ∧ Hid (Below w8.heap.size w8 wr)) (fun i _ => fl.length - (intOf i).toNat)
      case atStart => exact ⟨0, by omega, rfl, BB⟩
      case round =>
        obtain ⟨k, hk, rfl, HW⟩ := hrel
        have hzr := HW.out.size
        have t1 : wr.cell? ⟨gx, 1, none⟩ = some (.slice A fl.length c) := (HSX.out.below HW.out hgx8).cell 1
        have t2 : wr.cell? ⟨gy8, 1, none⟩ = some (.slice H2 fl.length m2) := (HY8.out.below HW.out hly).cell 1
        by_cases hlt : k < fl.length
        · have i0 : (0 : Int) ≤ (k : Int) := by omega
          have i1 : (k : Int) < (fl.length : Int) := by omega
          obtain ⟨ad, rfl, had, a0, a1⟩ := Kps.at' (w := wr) (B := wr.heap.size) (A := A) (l := fl) (HLL.out wr _ _ (HB8.out.trans (HW.out.mono HB8.out.size)) HA.out) hlt
          obtain ⟨bd, rfl, hbd, b0, b1⟩ := Kps.at' (w := wr) (B := wr.heap.size) (A := H2) (l := fl2) ((Lies.below HR8a.out HW.out).wide hzr) (k := k) (by rw [E3.out]; exact hlt)
          have ho := Lib.hid (HO1.out k hlt)
          generalize fl2.getD k (false, []) = y at *
          generalize fl.getD k (false, []) = x at *
          obtain ⟨x1, x2⟩ := x
          obtain ⟨y1, y2⟩ := y
          dsimp only at a0 a1 b0 b1
          cases x1 with
          | true =>
            have ho' := ho.out rfl
            injection ho' with hy1 hy2
            subst hy1 hy2
            have e1 : (y2 != y2) = false := by simp
            have e2 : ((true : Bool) != true) = false := by simp
            clear ho
            go_wp2_with fail
            go_quiet (fail)
            go_wp2_with fail
            go_roundw
            case rel =>
              have R : ∀ M : Nat, ∃ k' : Nat, k' ≤ fl.length ∧ Value.int .i64 ((k : Int) + 1) = .int .i64 k' ∧ Hid (Below w8.heap.size w8 (wr.drewN M)) := fun M => ⟨k + 1, by omega, by go_num, Lib.hid (Below.draws HW.out _)⟩
              first | exact R _ | ((repeat apply Exists.intro); exact ⟨R _, rfl⟩)
            case measure => simp [intOf]; omega
          | false =>
            clear ho
            go_wp2_with fail
            go_quiet (fail)
            go_wp2_with fail
            go_roundw
            case rel =>
              have R : ∀ M : Nat, ∃ k' : Nat, k' ≤ fl.length ∧ Value.int .i64 ((k : Int) + 1) = .int .i64 k' ∧ Hid (Below w8.heap.size w8 (wr.drewN M)) := fun M => ⟨k + 1, by omega, by go_num, Lib.hid (Below.draws HW.out _)⟩
              first | exact R _ | ((repeat apply Exists.intro); exact ⟨R _, rfl⟩)
            case measure => simp [intOf]; omega
        · obtain rfl : k = fl.length := by omega
          have hd : decide (fl.length < fl.length) = false := by simp
          go_wp2_with fail
          clear hd t1 t2 hlt hk hzr
          have HV := HW
          obtain ⟨wo, hwo⟩ : ∃ wo : World, wo = wr := ⟨_, rfl⟩
          subst hwo
          clear HW
          go_loopw [12] (fun i wr => ∃ k : Nat, k ≤ bl.length ∧ i = .int .i64 k ∧ Hid (Below w8.heap.size w8 wr)) (fun i _ => bl.length - (intOf i).toNat)
          case atStart => exact ⟨0, by omega, rfl, HV⟩
          case round =>
            obtain ⟨k, hk, rfl, HW⟩ := hrel
            have hzr := HW.out.size
            have t1 : wr.cell? ⟨gx, 2, none⟩ = some (.slice A' bl.length c') := (HSX.out.below HW.out hgx8).cell 2
            have t2 : wr.cell? ⟨gy8, 2, none⟩ = some (.slice I2 bl.length n2) := (HY8.out.below HW.out hly).cell 2
            by_cases hlt : k < bl.length
            · have i0 : (0 : Int) ≤ (k : Int) := by omega
              have i1 : (k : Int) < (bl.length : Int) := by omega
              obtain ⟨ad, rfl, had, a0, a1⟩ := Kps.at' (w := wr) (B := wr.heap.size) (A := A') (l := bl) (HLL.out wr _ _ (HB8.out.trans (HW.out.mono HB8.out.size)) HA'.out) hlt
              obtain ⟨bd, rfl, hbd, b0, b1⟩ := Kps.at' (w := wr) (B := wr.heap.size) (A := I2) (l := bl2) ((Lies.below HR8b.out HW.out).wide hzr) (k := k) (by rw [E4.out]; exact hlt)
              have ho := Lib.hid (HO2.out k hlt)
              generalize bl2.getD k (false, []) = y at *
              generalize bl.getD k (false, []) = x at *
              obtain ⟨x1, x2⟩ := x
              obtain ⟨y1, y2⟩ := y
              dsimp only at a0 a1 b0 b1
              cases x1 with
              | true =>
                have ho' := ho.out rfl
                injection ho' with hy1 hy2
                subst hy1 hy2
                have e1 : (y2 != y2) = false := by simp
                have e2 : ((true : Bool) != true) = false := by simp
                clear ho
                go_wp2_with fail
                go_quiet (fail)
                go_wp2_with fail
                go_roundw
                case rel =>
                  have R : ∀ M : Nat, ∃ k' : Nat, k' ≤ bl.length ∧ Value.int .i64 ((k : Int) + 1) = .int .i64 k' ∧ Hid (Below w8.heap.size w8 (wr.drewN M)) := fun M => ⟨k + 1, by omega, by go_num, Lib.hid (Below.draws HW.out _)⟩
                  first | exact R _ | ((repeat apply Exists.intro); exact ⟨R _, rfl⟩)
                case measure => simp [intOf]; omega
              | false =>
                clear ho
                go_wp2_with fail
                go_quiet (fail)
                go_wp2_with fail
                go_roundw
                case rel =>
                  have R : ∀ M : Nat, ∃ k' : Nat, k' ≤ bl.length ∧ Value.int .i64 ((k : Int) + 1) = .int .i64 k' ∧ Hid (Below w8.heap.size w8 (wr.drewN M)) := fun M => ⟨k + 1, by omega, by go_num, Lib.hid (Below.draws HW.out _)⟩
                  first | exact R _ | ((repeat apply Exists.intro); exact ⟨R _, rfl⟩)
                case measure => simp [intOf]; omega
            · obtain rfl : k = bl.length := by omega
              have hd : decide (bl.length < bl.length) = false := by simp
              go_wp2_with fail
              go_ret
              exact ⟨rfl, by rw [HGX.out]; exact HEND.out _ (HB8.out.trans (HW.out.mono HB8.out.size))⟩
end Go.Proofs.YtmmfcjkabpffeaaDoor
