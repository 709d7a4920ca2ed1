/-
  Walk: hibernaclelaw34.FreezeGoes. (Printed by gen_fzgoes.py.)
-/
import Derived.Test.YtmmfcjkabpffeaaDoorFzAlive
namespace Go.Proofs.YtmmfcjkabpffeaaDoor
open Go.RowKit

theorem IsM.wide {w : World} {B B' : Nat} {M : List Value} {fs bs : List (List UInt8)} (h : IsM w B M fs bs) (hB : B ≤ B') : IsM w B' M fs bs := by
  obtain ⟨h1, h2, F, cf, L, cl, h4, h13, hF, hL⟩ := h
  exact ⟨h1, h2, F, cf, L, cl, h4, h13, Lies.wide hF hB, Lies.wide hL hB⟩
/-- what holds while the region runs -/
def FzG5 (w4 : World) (gx : Nat) (A A' : Option Addr) (c c' : Nat) (ck : Int) (fl bl : List Kp) (r : List UInt8) (M N : List Value) (n : Int) (fl1 bl1 : List Kp) (Ls : Nat → Bool) (a : Act) (W : World) : Prop :=
  ∃ u29 u30 u31 u32 u33 u34 u35 u36 u9 u10 A1 m1 B1 n1 A2 m2 B2 n2 p1 p2, a = ⟨#[.agg #[.int .u64 ck, .slice A fl.length c, .slice A' bl.length c', S r], .agg M.toArray, .agg N.toArray, .int .i64 n, .pointer (some ⟨gx, 0, none⟩), .pointer (some ⟨gx + 1, 0, none⟩), .pointer (some ⟨gx + 1 + 1, 0, none⟩), undef, .bool false, u9, u10, undef, undef, undef, undef, undef, undef, .bool true, .bool false, .agg M.toArray, .agg #[.int .u64 ck, .slice A fl.length c, .slice A' bl.length c', S r], .int .i64 0, .bool false, .bool false, .agg N.toArray, .agg #[.int .u64 ck, .slice A fl.length c, .slice A' bl.length c', S r], .int .i64 0, .bool false, .bool false, u29, u30, u31, u32, u33, u34, u35, u36, undef, undef, undef, undef, undef, undef, undef, undef, undef, undef, undef, undef, undef, undef, undef, undef, undef, undef, undef, undef, undef, undef, undef, undef, undef, undef, undef, undef, undef, undef, undef, undef, undef, undef, undef, undef], []⟩ ∧ Below w4.heap.size w4 W ∧ w4.heap.size ≤ W.heap.size ∧ (Ls 0 = true → u29 = .agg #[.int .u64 ck, .slice A fl.length c, .slice A' bl.length c', S r]) ∧ (Ls 1 = true → u30 = .agg M.toArray) ∧ (Ls 2 = true → u31 = .agg N.toArray) ∧ (Ls 3 = true → u32 = .agg #[.int .u64 ck, .slice A1 fl1.length m1, .slice B1 bl1.length n1, S r] ∧ Lies W W.heap.size A1 (kCells fl1) ∧ Lies W W.heap.size B1 (kCells bl1)) ∧ (Ls 4 = true → u33 = .agg #[.int .u64 ck, .slice A fl.length c, .slice A' bl.length c', S r]) ∧ (Ls 5 = true → u34 = .agg M.toArray) ∧ (Ls 6 = true → u35 = .agg N.toArray) ∧ (Ls 7 = true → u36 = .agg #[.int .u64 ck, .slice A2 fl1.length m2, .slice B2 bl1.length n2, S r] ∧ Lies W W.heap.size A2 (kCells fl1) ∧ Lies W W.heap.size B2 (kCells bl1)) ∧ (Ls 8 = true → u9 = .pointer (some ⟨p1, 0, none⟩) ∧ w4.heap.size ≤ p1 ∧ p1 < W.heap.size) ∧ (Ls 8 = true → Ls 10 = false → Whole W p1 25 #[.int .u64 0, .slice none 0 0, .slice none 0 0, S []]) ∧ (Ls 9 = true → u10 = .pointer (some ⟨p2, 0, none⟩) ∧ w4.heap.size ≤ p2 ∧ p2 < W.heap.size) ∧ (Ls 9 = true → Ls 11 = false → Whole W p2 25 #[.int .u64 0, .slice none 0 0, .slice none 0 0, S []]) ∧ (Ls 10 = true → Whole W p1 25 #[.int .u64 ck, .slice A1 fl1.length m1, .slice B1 bl1.length n1, S r]) ∧ (Ls 10 = true → ∀ j ∈ [3, 7, 8, 9], Ls j = true) ∧ (Ls 11 = true → Whole W p2 25 #[.int .u64 ck, .slice A2 fl1.length m2, .slice B2 bl1.length n2, S r]) ∧ (Ls 11 = true → ∀ j ∈ [3, 7, 8, 9], Ls j = true) ∧ (Ls 3 = true → Ls 8 = true → ∀ ad, A1 = some ad → (kCells fl1) ≠ [] → ad.block ≠ p1) ∧ (Ls 3 = true → Ls 8 = true → ∀ ad, B1 = some ad → (kCells bl1) ≠ [] → ad.block ≠ p1) ∧ (Ls 3 = true → Ls 9 = true → ∀ ad, A1 = some ad → (kCells fl1) ≠ [] → ad.block ≠ p2) ∧ (Ls 3 = true → Ls 9 = true → ∀ ad, B1 = some ad → (kCells bl1) ≠ [] → ad.block ≠ p2) ∧ (Ls 7 = true → Ls 8 = true → ∀ ad, A2 = some ad → (kCells fl1) ≠ [] → ad.block ≠ p1) ∧ (Ls 7 = true → Ls 8 = true → ∀ ad, B2 = some ad → (kCells bl1) ≠ [] → ad.block ≠ p1) ∧ (Ls 7 = true → Ls 9 = true → ∀ ad, A2 = some ad → (kCells fl1) ≠ [] → ad.block ≠ p2) ∧ (Ls 7 = true → Ls 9 = true → ∀ ad, B2 = some ad → (kCells bl1) ≠ [] → ad.block ≠ p2) ∧ (Ls 8 = true → Ls 9 = true → p1 ≠ p2)
/-- what holds while the region runs -/
def FzG6 (w5 : World) (gx : Nat) (A A' : Option Addr) (c c' : Nat) (ck : Int) (fl bl : List Kp) (r : List UInt8) (M N : List Value) (n : Int) (fl1 bl1 : List Kp) (A1 B1 A2 B2 : Option Addr) (m1 n1 m2 n2 p1 p2 : Nat) (fl2 bl2 : List Kp) (Ls : Nat → Bool) (a : Act) (W : World) : Prop :=
  ∃ u37 u38 u39 u40 u41 u42 u43 u44 u11 u12 A3 m3 B3 n3 A4 m4 B4 n4 p3 p4, a = ⟨#[.agg #[.int .u64 ck, .slice A fl.length c, .slice A' bl.length c', S r], .agg M.toArray, .agg N.toArray, .int .i64 n, .pointer (some ⟨gx, 0, none⟩), .pointer (some ⟨gx + 1, 0, none⟩), .pointer (some ⟨gx + 1 + 1, 0, none⟩), undef, .bool false, .pointer (some ⟨p1, 0, none⟩), .pointer (some ⟨p2, 0, none⟩), u11, u12, undef, undef, undef, undef, .bool true, .bool false, .agg M.toArray, .agg #[.int .u64 ck, .slice A fl.length c, .slice A' bl.length c', S r], .int .i64 0, .bool false, .bool false, .agg N.toArray, .agg #[.int .u64 ck, .slice A fl.length c, .slice A' bl.length c', S r], .int .i64 0, .bool false, .bool false, .agg #[.int .u64 ck, .slice A fl.length c, .slice A' bl.length c', S r], .agg M.toArray, .agg N.toArray, .agg #[.int .u64 ck, .slice A1 fl1.length m1, .slice B1 bl1.length n1, S r], .agg #[.int .u64 ck, .slice A fl.length c, .slice A' bl.length c', S r], .agg M.toArray, .agg N.toArray, .agg #[.int .u64 ck, .slice A2 fl1.length m2, .slice B2 bl1.length n2, S r], u37, u38, u39, u40, u41, u42, u43, u44, undef, undef, undef, undef, undef, undef, undef, undef, undef, undef, undef, undef, undef, undef, undef, undef, undef, undef, undef, undef, undef, undef, undef, undef, undef, undef, undef, undef], []⟩ ∧ Below w5.heap.size w5 W ∧ w5.heap.size ≤ W.heap.size ∧ (Ls 0 = true → u37 = .agg #[.int .u64 ck, .slice A1 fl1.length m1, .slice B1 bl1.length n1, S r]) ∧ (Ls 1 = true → u38 = .agg N.toArray) ∧ (Ls 2 = true → u39 = .int .i64 n) ∧ (Ls 3 = true → u40 = .agg #[.int .u64 ck, .slice A3 fl2.length m3, .slice B3 bl2.length n3, S r] ∧ Lies W W.heap.size A3 (kCells fl2) ∧ Lies W W.heap.size B3 (kCells bl2)) ∧ (Ls 4 = true → u41 = .agg #[.int .u64 ck, .slice A2 fl1.length m2, .slice B2 bl1.length n2, S r]) ∧ (Ls 5 = true → u42 = .agg N.toArray) ∧ (Ls 6 = true → u43 = .int .i64 n) ∧ (Ls 7 = true → u44 = .agg #[.int .u64 ck, .slice A4 fl2.length m4, .slice B4 bl2.length n4, S r] ∧ Lies W W.heap.size A4 (kCells fl2) ∧ Lies W W.heap.size B4 (kCells bl2)) ∧ (Ls 8 = true → u11 = .pointer (some ⟨p3, 0, none⟩) ∧ w5.heap.size ≤ p3 ∧ p3 < W.heap.size) ∧ (Ls 8 = true → Ls 10 = false → Whole W p3 25 #[.int .u64 0, .slice none 0 0, .slice none 0 0, S []]) ∧ (Ls 9 = true → u12 = .pointer (some ⟨p4, 0, none⟩) ∧ w5.heap.size ≤ p4 ∧ p4 < W.heap.size) ∧ (Ls 9 = true → Ls 11 = false → Whole W p4 25 #[.int .u64 0, .slice none 0 0, .slice none 0 0, S []]) ∧ (Ls 10 = true → Whole W p3 25 #[.int .u64 ck, .slice A3 fl2.length m3, .slice B3 bl2.length n3, S r]) ∧ (Ls 10 = true → ∀ j ∈ [3, 7, 8, 9], Ls j = true) ∧ (Ls 11 = true → Whole W p4 25 #[.int .u64 ck, .slice A4 fl2.length m4, .slice B4 bl2.length n4, S r]) ∧ (Ls 11 = true → ∀ j ∈ [3, 7, 8, 9], Ls j = true) ∧ (Ls 3 = true → Ls 8 = true → ∀ ad, A3 = some ad → (kCells fl2) ≠ [] → ad.block ≠ p3) ∧ (Ls 3 = true → Ls 8 = true → ∀ ad, B3 = some ad → (kCells bl2) ≠ [] → ad.block ≠ p3) ∧ (Ls 3 = true → Ls 9 = true → ∀ ad, A3 = some ad → (kCells fl2) ≠ [] → ad.block ≠ p4) ∧ (Ls 3 = true → Ls 9 = true → ∀ ad, B3 = some ad → (kCells bl2) ≠ [] → ad.block ≠ p4) ∧ (Ls 7 = true → Ls 8 = true → ∀ ad, A4 = some ad → (kCells fl2) ≠ [] → ad.block ≠ p3) ∧ (Ls 7 = true → Ls 8 = true → ∀ ad, B4 = some ad → (kCells bl2) ≠ [] → ad.block ≠ p3) ∧ (Ls 7 = true → Ls 9 = true → ∀ ad, A4 = some ad → (kCells fl2) ≠ [] → ad.block ≠ p4) ∧ (Ls 7 = true → Ls 9 = true → ∀ ad, B4 = some ad → (kCells bl2) ≠ [] → ad.block ≠ p4) ∧ (Ls 8 = true → Ls 9 = true → p3 ≠ p4)
set_option maxRecDepth 100000 in
set_option maxHeartbeats 4000000 in
theorem fgoes_any (w : World) (A A' : Option Addr) (c c' : Nat) (ck : Int) (fl bl : List Kp) (r : List UInt8) (M N : List Value) (fs bs fs' bs' : List (List UInt8)) (n : Int) (hn : inJ n) (hA : Kps w w.heap.size A fl) (hA' : Kps w w.heap.size A' bl) (hM : IsM w w.heap.size M fs bs) (hN : IsM w w.heap.size N fs' bs') (hM' : IsM' M) (hN' : IsM' N) :
    Calls Tryd.prog 3 #[.agg #[.int .u64 ck, .slice A fl.length c, .slice A' bl.length c', S r], .agg M.toArray, .agg N.toArray, .int .i64 n] w fun e w' => e = .returned (.bool true) ∧ Below w.heap.size w w' := by
  have hl17 : M.toArray.size = 17 := by rw [List.size_toArray]; exact hM.1
  have hl17' : N.toArray.size = 17 := by rw [List.size_toArray]; exact hN.1
  have MI : Hid ((Tryd.prog.info? 33).map (·.size) = some M.length) := Lib.hid (by rw [hM.1]; kernel_rfl)
  have NI : Hid ((Tryd.prog.info? 33).map (·.size) = some N.length) := Lib.hid (by rw [hN.1]; kernel_rfl)
  have hs := ((Whole.made w 25 #[.int .u64 ck, .slice A fl.length c, .slice A' bl.length c', S r]).block (.cells M.toArray 33)).block (.cells N.toArray 33)
  have hm := (Whole.made (w.alloc (.cells #[.int .u64 ck, .slice A fl.length c, .slice A' bl.length c', S r] 25)) 33 M.toArray).block (.cells N.toArray 33)
  have hk := Whole.made ((w.alloc (.cells #[.int .u64 ck, .slice A fl.length c, .slice A' bl.length c', S r] 25)).alloc (.cells M.toArray 33)) 33 N.toArray
  have hb : Below w.heap.size w (((w.alloc (.cells #[.int .u64 ck, .slice A fl.length c, .slice A' bl.length c', S r] 25)).alloc (.cells M.toArray 33)).alloc (.cells N.toArray 33)) := (((Below.refl _ _).alloc (Nat.le_refl _) _).alloc (by simp) _).alloc (by simp; omega) _
  rw [show (w.alloc (.cells #[.int .u64 ck, .slice A fl.length c, .slice A' bl.length c', S r] 25)).heap.size = w.heap.size + 1 by simp] at hm
  rw [show ((w.alloc (.cells #[.int .u64 ck, .slice A fl.length c, .slice A' bl.length c', S r] 25)).alloc (.cells M.toArray 33)).heap.size = w.heap.size + 1 + 1 by simp] at hk
  have HA := Lib.hid (hA.below hb)
  have HA' := Lib.hid (hA'.below hb)
  have HM := Lib.hid (IsM.below hM hb)
  have HN := Lib.hid (IsM.below hN hb)
  have HM' := Lib.hid hM'
  have HN' := Lib.hid hN'
  have HJ := Lib.hid hn
  clear hA hA' hM hN hM' hN' hn
  go_enter Tryd.func3, Tryd.ntmps3
  go_upto_region 1 with (fail)
  change Code.wp _ _ _ _ (((w.alloc (.cells #[.int .u64 ck, .slice A fl.length c, .slice A' bl.length c', S r] 25)).alloc (.cells M.toArray 33)).alloc (.cells N.toArray 33))
  clear hl17 hl17'
  generalize (((w.alloc (.cells #[.int .u64 ck, .slice A fl.length c, .slice A' bl.length c', S r] 25)).alloc (.cells M.toArray 33)).alloc (.cells N.toArray 33)) = w1 at *
  generalize hgx : w.heap.size = gx at *
  have HGX := Lib.hid hgx
  have HS := Lib.hid hs
  have HW := Lib.hid hb
  have hgl : gx + 1 + 1 < w1.heap.size := hk.lt
  have HLL : Hid (∀ (W : World) (G : Option Addr) (xs : List Value), Below w1.heap.size w1 W → Lies w1 gx G xs → Lies W W.heap.size G xs) := Lib.hid fun W G xs hW h => (h.below (hW.mono (by omega))).wide (by have := hW.size; omega)
  have HRM : Hid (∀ W, Below w1.heap.size w1 W → ∀ j v, M[j]? = some v → W.cell? ((⟨gx + 1, 0, none⟩ : Addr).add j) = some v) := Lib.hid fun W hW => (hm.below hW (by omega)).reads
  have HRN : Hid (∀ W, Below w1.heap.size w1 W → ∀ j v, N[j]? = some v → W.cell? ((⟨gx + 1 + 1, 0, none⟩ : Addr).add j) = some v) := Lib.hid fun W hW => (hk.below hW (by omega)).reads
  have IM : Hid (∀ W, Below w1.heap.size w1 W → IsM W W.heap.size M fs bs) := Lib.hid fun W hW => (IsM.below HM.out (hW.mono (by omega))).wide (by have := hW.size; omega)
  have IN : Hid (∀ W, Below w1.heap.size w1 W → IsM W W.heap.size N fs' bs') := Lib.hid fun W hW => (IsM.below HN.out (hW.mono (by omega))).wide (by have := hW.size; omega)
  have HEND : Hid (∀ W, Below w1.heap.size w1 W → Below gx w W) := Lib.hid fun W hW => HW.out.trans (hW.mono (by omega))
  clear hgx hs hm hk hb HM HN
  go_wp2_with fail
  refine (alive_any w1).mono ?_
  rintro e w2 ⟨rfl, hb2⟩
  have HB2 := Lib.hid hb2
  have hs2 := HS.out.below hb2 (by omega)
  have s0 : w2.cell? ⟨gx, 0, none⟩ = some (.int .u64 ck) := hs2.cell 0
  have s1 : w2.cell? ⟨gx, 1, none⟩ = some (.slice A fl.length c) := hs2.cell 1
  have s2 : w2.cell? ⟨gx, 2, none⟩ = some (.slice A' bl.length c') := hs2.cell 2
  have s3 : w2.cell? ⟨gx, 3, none⟩ = some (S r) := hs2.cell 3
  clear hb2 hs2
  have CG := Lib.hid (frgreat_any w2 A A' c c' ck fl bl r w2.heap.size M fs bs (IM.out w2 HB2.out) HM'.out)
  go_wp2_with (refine wpList_load_at rfl 33 (.tmp 5) rfl ⟨gx + 1, 0, none⟩ rfl M _ (HRM.out _ HB2.out) Tryd.underlying33 rfl MI.out ?_)
  refine CG.out.mono ?_
  rintro e w3 ⟨⟨g, rfl, hg⟩, hb3⟩
  have HB3 := Lib.hid (HB2.out.trans (hb3.mono HB2.out.size))
  clear CG s0 s1 s2 s3 hb3
  rcases hg with rfl | ⟨rfl, g1, g2, g3, g4⟩
  · go_wp2_with fail
    go_ret
    exact ⟨rfl, by rw [HGX.out]; exact HEND.out _ HB3.out⟩
  · have hs3 := HS.out.below HB3.out (by omega)
    have s0 : w3.cell? ⟨gx, 0, none⟩ = some (.int .u64 ck) := hs3.cell 0
    have s1 : w3.cell? ⟨gx, 1, none⟩ = some (.slice A fl.length c) := hs3.cell 1
    have s2 : w3.cell? ⟨gx, 2, none⟩ = some (.slice A' bl.length c') := hs3.cell 2
    have s3 : w3.cell? ⟨gx, 3, none⟩ = some (S r) := hs3.cell 3
    clear hs3
    have CG := Lib.hid (frgreat_any w3 A A' c c' ck fl bl r w3.heap.size N fs' bs' (IN.out w3 HB3.out) HN'.out)
    go_wp2_with (refine wpList_load_g rfl 33 (.tmp 6) rfl ⟨gx + 1 + 1, 0, none⟩ rfl N _ (HRN.out _ HB3.out) Tryd.underlying33 rfl NI.out ?_)
    refine CG.out.mono ?_
    rintro e w4 ⟨⟨g, rfl, hg⟩, hb4⟩
    have HB4 := Lib.hid (HB3.out.trans (hb4.mono HB3.out.size))
    clear CG s0 s1 s2 s3 hb4
    rcases hg with rfl | ⟨rfl, g5, g6, _, _⟩
    · go_wp2_with fail
      go_ret
      exact ⟨rfl, by rw [HGX.out]; exact HEND.out _ HB4.out⟩
    · go_upto_region 5 with (fail)
      clear HB3 HB2
      obtain ⟨fl1, HQ1⟩ : ∃ z, Hid ((keepRec (wentF fs') 0 fl fs 0).1 = z) := ⟨_, Lib.hid rfl⟩
      obtain ⟨bl1, HQ2⟩ : ∃ z, Hid ((keepRec (wentF bs') 0 bl bs 0).1 = z) := ⟨_, Lib.hid rfl⟩
      obtain ⟨fl2, HQ3⟩ : ∃ z, Hid ((keepRec pumpF 0 fl1 fs' n).1 = z) := ⟨_, Lib.hid rfl⟩
      obtain ⟨bl2, HQ4⟩ : ∃ z, Hid ((keepRec pumpF 0 bl1 bs' (keepRec pumpF 0 fl1 fs' n).2).1 = z) := ⟨_, Lib.hid rfl⟩
      have e1 : fl1.length ≤ 70 := by rw [← HQ1.out, keep_length]; omega
      have e2 : bl1.length ≤ 260 := by rw [← HQ2.out, keep_length]; omega
      have e3 : fl2.length ≤ 70 := by rw [← HQ3.out, keep_length]; omega
      have e4 : bl2.length ≤ 260 := by rw [← HQ4.out, keep_length]; omega
      have HWW : Hid (∀ W, Below w4.heap.size w4 W → Below w1.heap.size w1 W) := Lib.hid fun W hW => HB4.out.trans (hW.mono HB4.out.size)
      have CW : Hid (∀ W, Below w1.heap.size w1 W → Calls Tryd.prog 8 #[.agg #[.int .u64 ck, .slice A fl.length c, .slice A' bl.length c', S r], .agg M.toArray, .agg N.toArray] W fun e w' => (∃ H m H' m', e = .returned (.agg #[.int .u64 ck, .slice H fl1.length m, .slice H' bl1.length m', S r]) ∧ Kps w' w'.heap.size H fl1 ∧ Kps w' w'.heap.size H' bl1 ∧ (∀ ad, H = some ad → W.heap.size ≤ ad.block) ∧ (∀ ad, H' = some ad → W.heap.size ≤ ad.block)) ∧ Below W.heap.size W w') := Lib.hid fun W hW => by
        have := went_any W A A' c c' ck fl bl r M fs bs N fs' bs' (HLL.out _ _ _ hW HA.out) (HLL.out _ _ _ hW HA'.out) (IM.out W hW) (IN.out W hW) (by omega) (by omega) (by omega) (by omega)
        rw [HQ1.out, HQ2.out] at this
        exact this
      have CRW : Hid (∀ W, Below w1.heap.size w1 W → Calls Tryd.prog 9 #[.agg #[.int .u64 ck, .slice A fl.length c, .slice A' bl.length c', S r], .agg M.toArray, .agg N.toArray] W fun e w' => (∃ H m H' m', e = .returned (.agg #[.int .u64 ck, .slice H fl1.length m, .slice H' bl1.length m', S r]) ∧ Kps w' w'.heap.size H fl1 ∧ Kps w' w'.heap.size H' bl1 ∧ (∀ ad, H = some ad → W.heap.size ≤ ad.block) ∧ (∀ ad, H' = some ad → W.heap.size ≤ ad.block)) ∧ Below W.heap.size W w') := Lib.hid fun W hW => by
        have := rwentS_any W A A' c c' ck fl bl r M fs bs N fs' bs' (HLL.out _ _ _ hW HA.out) (HLL.out _ _ _ hW HA'.out) (IM.out W hW) (IN.out W hW) (by omega) (by omega)
        rw [HQ1.out, HQ2.out] at this
        exact this
      refine wp_region_set (by kernel_rfl) (FzG5 w4 gx A A' c c' ck fl bl r M N n fl1 bl1) (downOk_spec (by kernel_rfl)) ?init5 ?step5 ?fin5
      case init5 =>
        unfold FzG5
        refine ⟨_, _, _, _, _, _, _, _, _, _, none, 0, none, 0, none, 0, none, 0, 0, 0, rfl, (Below.refl _ _).drew, Nat.le_refl _, (fun h => by cases h), (fun h => by cases h), (fun h => by cases h), (fun h => by cases h), (fun h => by cases h), (fun h => by cases h), (fun h => by cases h), (fun h => by cases h), (fun h => by cases h), (fun h => by cases h), (fun h => by cases h), (fun h => by cases h), (fun h => by cases h), (fun h => by cases h), (fun h => by cases h), (fun h => by cases h), (fun h => by cases h), (fun h => by cases h), (fun h => by cases h), (fun h => by cases h), (fun h => by cases h), (fun h => by cases h), (fun h => by cases h), (fun h => by cases h), (fun h => by cases h)⟩
      case step5 =>
        intro i o ho Ls a W hLi hed hJ
        unfold FzG5 at hJ
        obtain ⟨u29, u30, u31, u32, u33, u34, u35, u36, u9, u10, A1, m1, B1, n1, A2, m2, B2, n2, p1, p2, rfl, hB, hz, h0, h1, h2, h3, h4, h5, h6, h7, h8, z8, h9, z9, h10, k10, h11, k11, f3_8_0, f3_8_1, f3_9_0, f3_9_1, f7_8_0, f7_8_1, f7_9_0, f7_9_1, d8_9⟩ := hJ
        match i, ho with
        | 0, ho =>
          have ho' := Option.some.inj ho
          subst ho'
          refine wpOp_of ho rfl ?_
          have c0 : W.cell? ⟨gx, 0, none⟩ = some (.int .u64 ck) := (HS.out.below (HWW.out W hB) (by omega)).cell 0
          have c1 : W.cell? ⟨gx, 1, none⟩ = some (.slice A fl.length c) := (HS.out.below (HWW.out W hB) (by omega)).cell 1
          have c2 : W.cell? ⟨gx, 2, none⟩ = some (.slice A' bl.length c') := (HS.out.below (HWW.out W hB) (by omega)).cell 2
          have c3 : W.cell? ⟨gx, 3, none⟩ = some (S r) := (HS.out.below (HWW.out W hB) (by omega)).cell 3
          go_simp
          unfold FzG5
          exact ⟨_, _, _, _, _, _, _, _, _, _, A1, m1, B1, n1, A2, m2, B2, n2, p1, p2, rfl, hB, hz, (fun _ => rfl), h1, h2, h3, h4, h5, h6, h7, h8, z8, h9, z9, h10, (fun h j hj => also_of (k10 h j hj)), h11, (fun h j hj => also_of (k11 h j hj)), f3_8_0, f3_8_1, f3_9_0, f3_9_1, f7_8_0, f7_8_1, f7_9_0, f7_9_1, d8_9⟩
        | 1, ho =>
          have ho' := Option.some.inj ho
          subst ho'
          refine wpOp_of ho rfl ?_
          refine wp_load_at 33 (.tmp 5) rfl ⟨gx + 1, 0, none⟩ rfl M _ (HRM.out W (HWW.out W hB)) Tryd.underlying33 rfl MI.out ?_
          unfold FzG5
          exact ⟨_, _, _, _, _, _, _, _, _, _, A1, m1, B1, n1, A2, m2, B2, n2, p1, p2, rfl, hB, hz, h0, (fun _ => rfl), h2, h3, h4, h5, h6, h7, h8, z8, h9, z9, h10, (fun h j hj => also_of (k10 h j hj)), h11, (fun h j hj => also_of (k11 h j hj)), f3_8_0, f3_8_1, f3_9_0, f3_9_1, f7_8_0, f7_8_1, f7_9_0, f7_9_1, d8_9⟩
        | 2, ho =>
          have ho' := Option.some.inj ho
          subst ho'
          refine wpOp_of ho rfl ?_
          refine wp_load_at 33 (.tmp 6) rfl ⟨gx + 1 + 1, 0, none⟩ rfl N _ (HRN.out W (HWW.out W hB)) Tryd.underlying33 rfl NI.out ?_
          unfold FzG5
          exact ⟨_, _, _, _, _, _, _, _, _, _, A1, m1, B1, n1, A2, m2, B2, n2, p1, p2, rfl, hB, hz, h0, h1, (fun _ => rfl), h3, h4, h5, h6, h7, h8, z8, h9, z9, h10, (fun h j hj => also_of (k10 h j hj)), h11, (fun h j hj => also_of (k11 h j hj)), f3_8_0, f3_8_1, f3_9_0, f3_9_1, f7_8_0, f7_8_1, f7_9_0, f7_9_1, d8_9⟩
        | 3, ho =>
          have ho' := Option.some.inj ho
          subst ho'
          refine wpOp_of ho rfl ?_
          have hn := needs_spec (l := [0, 1, 2]) (by kernel_rfl) hed
          obtain rfl := h0 (hn 0 (by simp))
          obtain rfl := h1 (hn 1 (by simp))
          obtain rfl := h2 (hn 2 (by simp))
          have l10 : Ls 10 = true → False := fun h => by have := k10 h 3 (by simp); rw [hLi] at this; cases this
          have l11 : Ls 11 = true → False := fun h => by have := k11 h 3 (by simp); rw [hLi] at this; cases this
          have hc := CW.out W (HWW.out W hB)
          clear hn
          have Hz := Lib.hid hz
          go_simp
          refine hc.mono fun e W2 he => ?_
          obtain ⟨⟨A1n, m1n, B1n, n1n, rfl, q0, q1, r0, r1⟩, hb2⟩ := he
          unfold FzG5
          exact ⟨_, _, _, _, _, _, _, _, _, _, A1n, m1n, B1n, n1n, A2, m2, B2, n2, p1, p2, rfl, hB.trans (hb2.mono Hz.out), Nat.le_trans Hz.out hb2.size, h0, h1, h2, (fun _ => ⟨rfl, q0, q1⟩), h4, h5, h6, (fun h => ⟨(h7 h).1, (Lies.below (h7 h).2.1 hb2).wide hb2.size, (Lies.below (h7 h).2.2 hb2).wide hb2.size⟩), (fun h => ⟨(h8 h).1, (h8 h).2.1, Nat.lt_of_lt_of_le (h8 h).2.2 hb2.size⟩), (fun h h' => (z8 h h').below hb2 (h8 h).2.2), (fun h => ⟨(h9 h).1, (h9 h).2.1, Nat.lt_of_lt_of_le (h9 h).2.2 hb2.size⟩), (fun h h' => (z9 h h').below hb2 (h9 h).2.2), (fun h => (l10 h).elim), (fun h => (l10 h).elim), (fun h => (l11 h).elim), (fun h => (l11 h).elim), (fun _ h ad e _ => by have h1 := r0 ad e; have h2 := (h8 h).2.2; omega), (fun _ h ad e _ => by have h1 := r1 ad e; have h2 := (h8 h).2.2; omega), (fun _ h ad e _ => by have h1 := r0 ad e; have h2 := (h9 h).2.2; omega), (fun _ h ad e _ => by have h1 := r1 ad e; have h2 := (h9 h).2.2; omega), f7_8_0, f7_8_1, f7_9_0, f7_9_1, d8_9⟩
        | 4, ho =>
          have ho' := Option.some.inj ho
          subst ho'
          refine wpOp_of ho rfl ?_
          have c0 : W.cell? ⟨gx, 0, none⟩ = some (.int .u64 ck) := (HS.out.below (HWW.out W hB) (by omega)).cell 0
          have c1 : W.cell? ⟨gx, 1, none⟩ = some (.slice A fl.length c) := (HS.out.below (HWW.out W hB) (by omega)).cell 1
          have c2 : W.cell? ⟨gx, 2, none⟩ = some (.slice A' bl.length c') := (HS.out.below (HWW.out W hB) (by omega)).cell 2
          have c3 : W.cell? ⟨gx, 3, none⟩ = some (S r) := (HS.out.below (HWW.out W hB) (by omega)).cell 3
          go_simp
          unfold FzG5
          exact ⟨_, _, _, _, _, _, _, _, _, _, A1, m1, B1, n1, A2, m2, B2, n2, p1, p2, rfl, hB, hz, h0, h1, h2, h3, (fun _ => rfl), h5, h6, h7, h8, z8, h9, z9, h10, (fun h j hj => also_of (k10 h j hj)), h11, (fun h j hj => also_of (k11 h j hj)), f3_8_0, f3_8_1, f3_9_0, f3_9_1, f7_8_0, f7_8_1, f7_9_0, f7_9_1, d8_9⟩
        | 5, ho =>
          have ho' := Option.some.inj ho
          subst ho'
          refine wpOp_of ho rfl ?_
          refine wp_load_at 33 (.tmp 5) rfl ⟨gx + 1, 0, none⟩ rfl M _ (HRM.out W (HWW.out W hB)) Tryd.underlying33 rfl MI.out ?_
          unfold FzG5
          exact ⟨_, _, _, _, _, _, _, _, _, _, A1, m1, B1, n1, A2, m2, B2, n2, p1, p2, rfl, hB, hz, h0, h1, h2, h3, h4, (fun _ => rfl), h6, h7, h8, z8, h9, z9, h10, (fun h j hj => also_of (k10 h j hj)), h11, (fun h j hj => also_of (k11 h j hj)), f3_8_0, f3_8_1, f3_9_0, f3_9_1, f7_8_0, f7_8_1, f7_9_0, f7_9_1, d8_9⟩
        | 6, ho =>
          have ho' := Option.some.inj ho
          subst ho'
          refine wpOp_of ho rfl ?_
          refine wp_load_at 33 (.tmp 6) rfl ⟨gx + 1 + 1, 0, none⟩ rfl N _ (HRN.out W (HWW.out W hB)) Tryd.underlying33 rfl NI.out ?_
          unfold FzG5
          exact ⟨_, _, _, _, _, _, _, _, _, _, A1, m1, B1, n1, A2, m2, B2, n2, p1, p2, rfl, hB, hz, h0, h1, h2, h3, h4, h5, (fun _ => rfl), h7, h8, z8, h9, z9, h10, (fun h j hj => also_of (k10 h j hj)), h11, (fun h j hj => also_of (k11 h j hj)), f3_8_0, f3_8_1, f3_9_0, f3_9_1, f7_8_0, f7_8_1, f7_9_0, f7_9_1, d8_9⟩
        | 7, ho =>
          have ho' := Option.some.inj ho
          subst ho'
          refine wpOp_of ho rfl ?_
          have hn := needs_spec (l := [4, 5, 6]) (by kernel_rfl) hed
          obtain rfl := h4 (hn 4 (by simp))
          obtain rfl := h5 (hn 5 (by simp))
          obtain rfl := h6 (hn 6 (by simp))
          have l10 : Ls 10 = true → False := fun h => by have := k10 h 7 (by simp); rw [hLi] at this; cases this
          have l11 : Ls 11 = true → False := fun h => by have := k11 h 7 (by simp); rw [hLi] at this; cases this
          have hc := CRW.out W (HWW.out W hB)
          clear hn
          have Hz := Lib.hid hz
          go_simp
          refine hc.mono fun e W2 he => ?_
          obtain ⟨⟨A2n, m2n, B2n, n2n, rfl, q0, q1, r0, r1⟩, hb2⟩ := he
          unfold FzG5
          exact ⟨_, _, _, _, _, _, _, _, _, _, A1, m1, B1, n1, A2n, m2n, B2n, n2n, p1, p2, rfl, hB.trans (hb2.mono Hz.out), Nat.le_trans Hz.out hb2.size, h0, h1, h2, (fun h => ⟨(h3 h).1, (Lies.below (h3 h).2.1 hb2).wide hb2.size, (Lies.below (h3 h).2.2 hb2).wide hb2.size⟩), h4, h5, h6, (fun _ => ⟨rfl, q0, q1⟩), (fun h => ⟨(h8 h).1, (h8 h).2.1, Nat.lt_of_lt_of_le (h8 h).2.2 hb2.size⟩), (fun h h' => (z8 h h').below hb2 (h8 h).2.2), (fun h => ⟨(h9 h).1, (h9 h).2.1, Nat.lt_of_lt_of_le (h9 h).2.2 hb2.size⟩), (fun h h' => (z9 h h').below hb2 (h9 h).2.2), (fun h => (l10 h).elim), (fun h => (l10 h).elim), (fun h => (l11 h).elim), (fun h => (l11 h).elim), f3_8_0, f3_8_1, f3_9_0, f3_9_1, (fun _ h ad e _ => by have h1 := r0 ad e; have h2 := (h8 h).2.2; omega), (fun _ h ad e _ => by have h1 := r1 ad e; have h2 := (h8 h).2.2; omega), (fun _ h ad e _ => by have h1 := r0 ad e; have h2 := (h9 h).2.2; omega), (fun _ h ad e _ => by have h1 := r1 ad e; have h2 := (h9 h).2.2; omega), d8_9⟩
        | 8, ho =>
          have ho' := Option.some.inj ho
          subst ho'
          refine wpOp_of ho rfl ?_
          have l10 : Ls 10 = true → False := fun h => by have := k10 h 8 (by simp); rw [hLi] at this; cases this
          have l11 : Ls 11 = true → False := fun h => by have := k11 h 8 (by simp); rw [hLi] at this; cases this
          have Hz := Lib.hid hz
          go_simp
          unfold FzG5
          exact ⟨_, _, _, _, _, _, _, _, _, _, A1, m1, B1, n1, A2, m2, B2, n2, W.heap.size, p2, rfl, hB.alloc Hz.out _, by have := Hz.out; simp; omega, h0, h1, h2, (fun h => ⟨(h3 h).1, Lies.block' (h3 h).2.1 _, Lies.block' (h3 h).2.2 _⟩), h4, h5, h6, (fun h => ⟨(h7 h).1, Lies.block' (h7 h).2.1 _, Lies.block' (h7 h).2.2 _⟩), (fun _ => ⟨rfl, Hz.out, by simp⟩), (fun _ _ => Whole.made W _ _), (fun h => ⟨(h9 h).1, (h9 h).2.1, by have := (h9 h).2.2; simp; omega⟩), (fun h h' => (z9 h h').block _), (fun h => (l10 h).elim), (fun h => (l10 h).elim), (fun h => (l11 h).elim), (fun h => (l11 h).elim), (fun h _ ad e hne => by have := lies_lt (h3 h).2.1 e hne; omega), (fun h _ ad e hne => by have := lies_lt (h3 h).2.2 e hne; omega), f3_9_0, f3_9_1, (fun h _ ad e hne => by have := lies_lt (h7 h).2.1 e hne; omega), (fun h _ ad e hne => by have := lies_lt (h7 h).2.2 e hne; omega), f7_9_0, f7_9_1, (fun _ h => by have := (h9 h).2.2; omega)⟩
        | 9, ho =>
          have ho' := Option.some.inj ho
          subst ho'
          refine wpOp_of ho rfl ?_
          have l10 : Ls 10 = true → False := fun h => by have := k10 h 9 (by simp); rw [hLi] at this; cases this
          have l11 : Ls 11 = true → False := fun h => by have := k11 h 9 (by simp); rw [hLi] at this; cases this
          have Hz := Lib.hid hz
          go_simp
          unfold FzG5
          exact ⟨_, _, _, _, _, _, _, _, _, _, A1, m1, B1, n1, A2, m2, B2, n2, p1, W.heap.size, rfl, hB.alloc Hz.out _, by have := Hz.out; simp; omega, h0, h1, h2, (fun h => ⟨(h3 h).1, Lies.block' (h3 h).2.1 _, Lies.block' (h3 h).2.2 _⟩), h4, h5, h6, (fun h => ⟨(h7 h).1, Lies.block' (h7 h).2.1 _, Lies.block' (h7 h).2.2 _⟩), (fun h => ⟨(h8 h).1, (h8 h).2.1, by have := (h8 h).2.2; simp; omega⟩), (fun h h' => (z8 h h').block _), (fun _ => ⟨rfl, Hz.out, by simp⟩), (fun _ _ => Whole.made W _ _), (fun h => (l10 h).elim), (fun h => (l10 h).elim), (fun h => (l11 h).elim), (fun h => (l11 h).elim), f3_8_0, f3_8_1, (fun h _ ad e hne => by have := lies_lt (h3 h).2.1 e hne; omega), (fun h _ ad e hne => by have := lies_lt (h3 h).2.2 e hne; omega), f7_8_0, f7_8_1, (fun h _ ad e hne => by have := lies_lt (h7 h).2.1 e hne; omega), (fun h _ ad e hne => by have := lies_lt (h7 h).2.2 e hne; omega), (fun h _ => by have := (h8 h).2.2; omega)⟩
        | 10, ho =>
          have ho' := Option.some.inj ho
          subst ho'
          refine wpOp_of ho rfl ?_
          have hn := needs_spec (l := [3, 7, 8, 9]) (by kernel_rfl) hed
          have HN := Lib.hid hn
          obtain ⟨rfl, hp, hpl⟩ := h8 (hn 8 (by simp))
          obtain ⟨rfl, _, _⟩ := h3 (hn 3 (by simp))
          clear hn
          have Hz := Lib.hid hz
          have hw0 := z8 (HN.out 8 (by simp)) hLi
          have c0 : W.cell? ⟨p1, 0, none⟩ = some (.int .u64 0) := hw0.cell 0
          have y0 := hw0.free 0
          have c1 : W.cell? ⟨p1, 1, none⟩ = some (.slice none 0 0) := hw0.cell 1
          have y1 := hw0.free 1
          have c2 : W.cell? ⟨p1, 2, none⟩ = some (.slice none 0 0) := hw0.cell 2
          have y2 := hw0.free 2
          have c3 : W.cell? ⟨p1, 3, none⟩ = some (S []) := hw0.cell 3
          have y3 := hw0.free 3
          go_simp
          unfold FzG5
          exact ⟨_, _, _, _, _, _, _, _, _, _, A1, m1, B1, n1, A2, m2, B2, n2, p1, p2, rfl, ((((hB.setCell (p := ⟨p1, 0, none⟩) hp _).setCell (p := ⟨p1, 1, none⟩) hp _).setCell (p := ⟨p1, 2, none⟩) hp _).setCell (p := ⟨p1, 3, none⟩) hp _), by simpa [World.setCell] using Hz.out, h0, h1, h2, (fun h => ⟨rfl, lies_setn4 (h3 h).2.1 (f3_8_0 h (HN.out 8 (by simp))), lies_setn4 (h3 h).2.2 (f3_8_1 h (HN.out 8 (by simp)))⟩), h4, h5, h6, (fun h => ⟨(h7 h).1, lies_setn4 (h7 h).2.1 (f7_8_0 h (HN.out 8 (by simp))), lies_setn4 (h7 h).2.2 (f7_8_1 h (HN.out 8 (by simp)))⟩), (fun _ => ⟨rfl, hp, by simpa [World.setCell] using hpl⟩), (fun _ h' => by have h'' : (true : Bool) = false := h'; cases h''), (fun h => ⟨(h9 h).1, (h9 h).2.1, by simpa [World.setCell] using (h9 h).2.2⟩), (fun h h' => whole_far4 (z9 h h') (fun e => d8_9 (HN.out 8 (by simp)) h e.symm)), (fun _ => ((((hw0.set 0 _).set 1 _).set 2 _).set 3 _)), (fun _ j hj => also_of (HN.out j hj)), (fun h => whole_far4 (h11 h) (fun e => d8_9 (HN.out 8 (by simp)) (HN.out 9 (by simp)) e.symm)), (fun h j hj => also_of (k11 h j hj)), f3_8_0, f3_8_1, f3_9_0, f3_9_1, f7_8_0, f7_8_1, f7_9_0, f7_9_1, d8_9⟩
        | 11, ho =>
          have ho' := Option.some.inj ho
          subst ho'
          refine wpOp_of ho rfl ?_
          have hn := needs_spec (l := [3, 7, 8, 9]) (by kernel_rfl) hed
          have HN := Lib.hid hn
          obtain ⟨rfl, hp, hpl⟩ := h9 (hn 9 (by simp))
          obtain ⟨rfl, _, _⟩ := h7 (hn 7 (by simp))
          clear hn
          have Hz := Lib.hid hz
          have hw0 := z9 (HN.out 9 (by simp)) hLi
          have c0 : W.cell? ⟨p2, 0, none⟩ = some (.int .u64 0) := hw0.cell 0
          have y0 := hw0.free 0
          have c1 : W.cell? ⟨p2, 1, none⟩ = some (.slice none 0 0) := hw0.cell 1
          have y1 := hw0.free 1
          have c2 : W.cell? ⟨p2, 2, none⟩ = some (.slice none 0 0) := hw0.cell 2
          have y2 := hw0.free 2
          have c3 : W.cell? ⟨p2, 3, none⟩ = some (S []) := hw0.cell 3
          have y3 := hw0.free 3
          go_simp
          unfold FzG5
          exact ⟨_, _, _, _, _, _, _, _, _, _, A1, m1, B1, n1, A2, m2, B2, n2, p1, p2, rfl, ((((hB.setCell (p := ⟨p2, 0, none⟩) hp _).setCell (p := ⟨p2, 1, none⟩) hp _).setCell (p := ⟨p2, 2, none⟩) hp _).setCell (p := ⟨p2, 3, none⟩) hp _), by simpa [World.setCell] using Hz.out, h0, h1, h2, (fun h => ⟨(h3 h).1, lies_setn4 (h3 h).2.1 (f3_9_0 h (HN.out 9 (by simp))), lies_setn4 (h3 h).2.2 (f3_9_1 h (HN.out 9 (by simp)))⟩), h4, h5, h6, (fun h => ⟨rfl, lies_setn4 (h7 h).2.1 (f7_9_0 h (HN.out 9 (by simp))), lies_setn4 (h7 h).2.2 (f7_9_1 h (HN.out 9 (by simp)))⟩), (fun h => ⟨(h8 h).1, (h8 h).2.1, by simpa [World.setCell] using (h8 h).2.2⟩), (fun h h' => whole_far4 (z8 h h') (fun e => d8_9 h (HN.out 9 (by simp)) e)), (fun _ => ⟨rfl, hp, by simpa [World.setCell] using hpl⟩), (fun _ h' => by have h'' : (true : Bool) = false := h'; cases h''), (fun h => whole_far4 (h10 h) (fun e => d8_9 (HN.out 8 (by simp)) (HN.out 9 (by simp)) e)), (fun h j hj => also_of (k10 h j hj)), (fun _ => ((((hw0.set 0 _).set 1 _).set 2 _).set 3 _)), (fun _ j hj => also_of (HN.out j hj)), f3_8_0, f3_8_1, f3_9_0, f3_9_1, f7_8_0, f7_8_1, f7_9_0, f7_9_1, d8_9⟩
        | n + 12, ho => simp at ho
      case fin5 =>
        intro Ls a w5 hL hJ
        unfold FzG5 at hJ
        obtain ⟨u29, u30, u31, u32, u33, u34, u35, u36, u9, u10, A1, m1, B1, n1, A2, m2, B2, n2, p1, p2, rfl, hB, hz, h0, h1, h2, h3, h4, h5, h6, h7, h8, z8, h9, z9, h10, k10, h11, k11, f3_8_0, f3_8_1, f3_9_0, f3_9_1, f7_8_0, f7_8_1, f7_9_0, f7_9_1, d8_9⟩ := hJ
        have hn : ∀ j, j < 12 → Ls j = true := fun j hj => hL j hj
        obtain rfl := h0 (hn 0 (by omega))
        obtain rfl := h1 (hn 1 (by omega))
        obtain rfl := h2 (hn 2 (by omega))
        obtain ⟨rfl, l3_0, l3_1⟩ := h3 (hn 3 (by omega))
        obtain rfl := h4 (hn 4 (by omega))
        obtain rfl := h5 (hn 5 (by omega))
        obtain rfl := h6 (hn 6 (by omega))
        obtain ⟨rfl, l7_0, l7_1⟩ := h7 (hn 7 (by omega))
        obtain ⟨rfl, g8, gl8⟩ := h8 (hn 8 (by omega))
        obtain ⟨rfl, g9, gl9⟩ := h9 (hn 9 (by omega))
        have b10 := h10 (hn 10 (by omega))
        have b11 := h11 (hn 11 (by omega))
        clear h0 h1 h2 h3 h4 h5 h6 h7 h8 z8 h9 z9 h10 k10 h11 k11 f3_8_0 f3_8_1 f3_9_0 f3_9_1 f7_8_0 f7_8_1 f7_9_0 f7_9_1 d8_9 hn hL
        have HB5 := Lib.hid hB
        have HW5 := Lib.hid (HWW.out w5 hB)
        have HS1 := Lib.hid b10
        have HS2 := Lib.hid b11
        have hp1 := gl8
        have hp2 := gl9
        have K1 : Hid (∀ W, Below w5.heap.size w5 W → Kps W W.heap.size A1 fl1 ∧ Kps W W.heap.size B1 bl1 ∧ Kps W W.heap.size A2 fl1 ∧ Kps W W.heap.size B2 bl1) := Lib.hid fun W hW => ⟨(Lies.below l3_0 hW).wide hW.size, (Lies.below l3_1 hW).wide hW.size, (Lies.below l7_0 hW).wide hW.size, (Lies.below l7_1 hW).wide hW.size⟩
        have HW6 : Hid (∀ W, Below w5.heap.size w5 W → Below w1.heap.size w1 W) := Lib.hid fun W hW => HW5.out.trans (hW.mono HW5.out.size)
        have CP : Hid (∀ W, Below w5.heap.size w5 W → Calls Tryd.prog 10 #[.agg #[.int .u64 ck, .slice A1 fl1.length m1, .slice B1 bl1.length n1, S r], .agg N.toArray, .int .i64 n] W fun e w' => (∃ H m H' m', e = .returned (.agg #[.int .u64 ck, .slice H fl2.length m, .slice H' bl2.length m', S r]) ∧ Kps w' w'.heap.size H fl2 ∧ Kps w' w'.heap.size H' bl2 ∧ (∀ ad, H = some ad → W.heap.size ≤ ad.block) ∧ (∀ ad, H' = some ad → W.heap.size ≤ ad.block)) ∧ Below W.heap.size W w') := Lib.hid fun W hW => by
          have := pump_any W A1 B1 m1 n1 ck fl1 bl1 r N fs' bs' n HJ.out (K1.out W hW).1 (K1.out W hW).2.1 (IN.out W (HW6.out W hW)) (by omega) (by omega) (by omega) (by omega)
          rw [HQ3.out, HQ4.out] at this
          exact this
        have CRP : Hid (∀ W, Below w5.heap.size w5 W → Calls Tryd.prog 11 #[.agg #[.int .u64 ck, .slice A2 fl1.length m2, .slice B2 bl1.length n2, S r], .agg N.toArray, .int .i64 n] W fun e w' => (∃ H m H' m', e = .returned (.agg #[.int .u64 ck, .slice H fl2.length m, .slice H' bl2.length m', S r]) ∧ Kps w' w'.heap.size H fl2 ∧ Kps w' w'.heap.size H' bl2 ∧ (∀ ad, H = some ad → W.heap.size ≤ ad.block) ∧ (∀ ad, H' = some ad → W.heap.size ≤ ad.block)) ∧ Below W.heap.size W w') := Lib.hid fun W hW => by
          have := rpumpS_any W A2 B2 m2 n2 ck fl1 bl1 r N fs' bs' n HJ.out (K1.out W hW).2.2.1 (K1.out W hW).2.2.2 (IN.out W (HW6.out W hW)) (by omega) (by omega)
          rw [HQ3.out, HQ4.out] at this
          exact this
        clear hB hz b10 b11 l3_0 l3_1 l7_0 l7_1 g8 g9 gl8 gl9 CW CRW
        go_upto_region 6 with (fail)
        refine wp_region_set (by kernel_rfl) (FzG6 w5 gx A A' c c' ck fl bl r M N n fl1 bl1 A1 B1 A2 B2 m1 n1 m2 n2 p1 p2 fl2 bl2) (downOk_spec (by kernel_rfl)) ?init6 ?step6 ?fin6
        case init6 =>
          unfold FzG6
          refine ⟨_, _, _, _, _, _, _, _, _, _, none, 0, none, 0, none, 0, none, 0, 0, 0, rfl, (Below.refl _ _).drew, Nat.le_refl _, (fun h => by cases h), (fun h => by cases h), (fun h => by cases h), (fun h => by cases h), (fun h => by cases h), (fun h => by cases h), (fun h => by cases h), (fun h => by cases h), (fun h => by cases h), (fun h => by cases h), (fun h => by cases h), (fun h => by cases h), (fun h => by cases h), (fun h => by cases h), (fun h => by cases h), (fun h => by cases h), (fun h => by cases h), (fun h => by cases h), (fun h => by cases h), (fun h => by cases h), (fun h => by cases h), (fun h => by cases h), (fun h => by cases h), (fun h => by cases h), (fun h => by cases h)⟩
        case step6 =>
          intro i o ho Ls a W hLi hed hJ
          unfold FzG6 at hJ
          obtain ⟨u37, u38, u39, u40, u41, u42, u43, u44, u11, u12, A3, m3, B3, n3, A4, m4, B4, n4, p3, p4, rfl, hB, hz, h0, h1, h2, h3, h4, h5, h6, h7, h8, z8, h9, z9, h10, k10, h11, k11, f3_8_0, f3_8_1, f3_9_0, f3_9_1, f7_8_0, f7_8_1, f7_9_0, f7_9_1, d8_9⟩ := hJ
          match i, ho with
          | 0, ho =>
            have ho' := Option.some.inj ho
            subst ho'
            refine wpOp_of ho rfl ?_
            have c0 : W.cell? ⟨p1, 0, none⟩ = some (.int .u64 ck) := (HS1.out.below hB hp1).cell 0
            have c1 : W.cell? ⟨p1, 1, none⟩ = some (.slice A1 fl1.length m1) := (HS1.out.below hB hp1).cell 1
            have c2 : W.cell? ⟨p1, 2, none⟩ = some (.slice B1 bl1.length n1) := (HS1.out.below hB hp1).cell 2
            have c3 : W.cell? ⟨p1, 3, none⟩ = some (S r) := (HS1.out.below hB hp1).cell 3
            go_simp
            unfold FzG6
            exact ⟨_, _, _, _, _, _, _, _, _, _, A3, m3, B3, n3, A4, m4, B4, n4, p3, p4, rfl, hB, hz, (fun _ => rfl), h1, h2, h3, h4, h5, h6, h7, h8, z8, h9, z9, h10, (fun h j hj => also_of (k10 h j hj)), h11, (fun h j hj => also_of (k11 h j hj)), f3_8_0, f3_8_1, f3_9_0, f3_9_1, f7_8_0, f7_8_1, f7_9_0, f7_9_1, d8_9⟩
          | 1, ho =>
            have ho' := Option.some.inj ho
            subst ho'
            refine wpOp_of ho rfl ?_
            refine wp_load_at 33 (.tmp 6) rfl ⟨gx + 1 + 1, 0, none⟩ rfl N _ (HRN.out W (HW6.out W hB)) Tryd.underlying33 rfl NI.out ?_
            unfold FzG6
            exact ⟨_, _, _, _, _, _, _, _, _, _, A3, m3, B3, n3, A4, m4, B4, n4, p3, p4, rfl, hB, hz, h0, (fun _ => rfl), h2, h3, h4, h5, h6, h7, h8, z8, h9, z9, h10, (fun h j hj => also_of (k10 h j hj)), h11, (fun h j hj => also_of (k11 h j hj)), f3_8_0, f3_8_1, f3_9_0, f3_9_1, f7_8_0, f7_8_1, f7_9_0, f7_9_1, d8_9⟩
          | 2, ho =>
            have ho' := Option.some.inj ho
            subst ho'
            refine wpOp_of ho rfl ?_
            go_simp
            unfold FzG6
            exact ⟨_, _, _, _, _, _, _, _, _, _, A3, m3, B3, n3, A4, m4, B4, n4, p3, p4, rfl, hB, hz, h0, h1, (fun _ => rfl), h3, h4, h5, h6, h7, h8, z8, h9, z9, h10, (fun h j hj => also_of (k10 h j hj)), h11, (fun h j hj => also_of (k11 h j hj)), f3_8_0, f3_8_1, f3_9_0, f3_9_1, f7_8_0, f7_8_1, f7_9_0, f7_9_1, d8_9⟩
          | 3, ho =>
            have ho' := Option.some.inj ho
            subst ho'
            refine wpOp_of ho rfl ?_
            have hn := needs_spec (l := [0, 1, 2]) (by kernel_rfl) hed
            obtain rfl := h0 (hn 0 (by simp))
            obtain rfl := h1 (hn 1 (by simp))
            obtain rfl := h2 (hn 2 (by simp))
            have l10 : Ls 10 = true → False := fun h => by have := k10 h 3 (by simp); rw [hLi] at this; cases this
            have l11 : Ls 11 = true → False := fun h => by have := k11 h 3 (by simp); rw [hLi] at this; cases this
            have hc := CP.out W hB
            clear hn
            have Hz := Lib.hid hz
            go_simp
            refine hc.mono fun e W2 he => ?_
            obtain ⟨⟨A3n, m3n, B3n, n3n, rfl, q0, q1, r0, r1⟩, hb2⟩ := he
            unfold FzG6
            exact ⟨_, _, _, _, _, _, _, _, _, _, A3n, m3n, B3n, n3n, A4, m4, B4, n4, p3, p4, rfl, hB.trans (hb2.mono Hz.out), Nat.le_trans Hz.out hb2.size, h0, h1, h2, (fun _ => ⟨rfl, q0, q1⟩), h4, h5, h6, (fun h => ⟨(h7 h).1, (Lies.below (h7 h).2.1 hb2).wide hb2.size, (Lies.below (h7 h).2.2 hb2).wide hb2.size⟩), (fun h => ⟨(h8 h).1, (h8 h).2.1, Nat.lt_of_lt_of_le (h8 h).2.2 hb2.size⟩), (fun h h' => (z8 h h').below hb2 (h8 h).2.2), (fun h => ⟨(h9 h).1, (h9 h).2.1, Nat.lt_of_lt_of_le (h9 h).2.2 hb2.size⟩), (fun h h' => (z9 h h').below hb2 (h9 h).2.2), (fun h => (l10 h).elim), (fun h => (l10 h).elim), (fun h => (l11 h).elim), (fun h => (l11 h).elim), (fun _ h ad e _ => by have h1 := r0 ad e; have h2 := (h8 h).2.2; omega), (fun _ h ad e _ => by have h1 := r1 ad e; have h2 := (h8 h).2.2; omega), (fun _ h ad e _ => by have h1 := r0 ad e; have h2 := (h9 h).2.2; omega), (fun _ h ad e _ => by have h1 := r1 ad e; have h2 := (h9 h).2.2; omega), f7_8_0, f7_8_1, f7_9_0, f7_9_1, d8_9⟩
          | 4, ho =>
            have ho' := Option.some.inj ho
            subst ho'
            refine wpOp_of ho rfl ?_
            have c0 : W.cell? ⟨p2, 0, none⟩ = some (.int .u64 ck) := (HS2.out.below hB hp2).cell 0
            have c1 : W.cell? ⟨p2, 1, none⟩ = some (.slice A2 fl1.length m2) := (HS2.out.below hB hp2).cell 1
            have c2 : W.cell? ⟨p2, 2, none⟩ = some (.slice B2 bl1.length n2) := (HS2.out.below hB hp2).cell 2
            have c3 : W.cell? ⟨p2, 3, none⟩ = some (S r) := (HS2.out.below hB hp2).cell 3
            go_simp
            unfold FzG6
            exact ⟨_, _, _, _, _, _, _, _, _, _, A3, m3, B3, n3, A4, m4, B4, n4, p3, p4, rfl, hB, hz, h0, h1, h2, h3, (fun _ => rfl), h5, h6, h7, h8, z8, h9, z9, h10, (fun h j hj => also_of (k10 h j hj)), h11, (fun h j hj => also_of (k11 h j hj)), f3_8_0, f3_8_1, f3_9_0, f3_9_1, f7_8_0, f7_8_1, f7_9_0, f7_9_1, d8_9⟩
          | 5, ho =>
            have ho' := Option.some.inj ho
            subst ho'
            refine wpOp_of ho rfl ?_
            refine wp_load_at 33 (.tmp 6) rfl ⟨gx + 1 + 1, 0, none⟩ rfl N _ (HRN.out W (HW6.out W hB)) Tryd.underlying33 rfl NI.out ?_
            unfold FzG6
            exact ⟨_, _, _, _, _, _, _, _, _, _, A3, m3, B3, n3, A4, m4, B4, n4, p3, p4, rfl, hB, hz, h0, h1, h2, h3, h4, (fun _ => rfl), h6, h7, h8, z8, h9, z9, h10, (fun h j hj => also_of (k10 h j hj)), h11, (fun h j hj => also_of (k11 h j hj)), f3_8_0, f3_8_1, f3_9_0, f3_9_1, f7_8_0, f7_8_1, f7_9_0, f7_9_1, d8_9⟩
          | 6, ho =>
            have ho' := Option.some.inj ho
            subst ho'
            refine wpOp_of ho rfl ?_
            go_simp
            unfold FzG6
            exact ⟨_, _, _, _, _, _, _, _, _, _, A3, m3, B3, n3, A4, m4, B4, n4, p3, p4, rfl, hB, hz, h0, h1, h2, h3, h4, h5, (fun _ => rfl), h7, h8, z8, h9, z9, h10, (fun h j hj => also_of (k10 h j hj)), h11, (fun h j hj => also_of (k11 h j hj)), f3_8_0, f3_8_1, f3_9_0, f3_9_1, f7_8_0, f7_8_1, f7_9_0, f7_9_1, d8_9⟩
          | 7, ho =>
            have ho' := Option.some.inj ho
            subst ho'
            refine wpOp_of ho rfl ?_
            have hn := needs_spec (l := [4, 5, 6]) (by kernel_rfl) hed
            obtain rfl := h4 (hn 4 (by simp))
            obtain rfl := h5 (hn 5 (by simp))
            obtain rfl := h6 (hn 6 (by simp))
            have l10 : Ls 10 = true → False := fun h => by have := k10 h 7 (by simp); rw [hLi] at this; cases this
            have l11 : Ls 11 = true → False := fun h => by have := k11 h 7 (by simp); rw [hLi] at this; cases this
            have hc := CRP.out W hB
            clear hn
            have Hz := Lib.hid hz
            go_simp
            refine hc.mono fun e W2 he => ?_
            obtain ⟨⟨A4n, m4n, B4n, n4n, rfl, q0, q1, r0, r1⟩, hb2⟩ := he
            unfold FzG6
            exact ⟨_, _, _, _, _, _, _, _, _, _, A3, m3, B3, n3, A4n, m4n, B4n, n4n, p3, p4, rfl, hB.trans (hb2.mono Hz.out), Nat.le_trans Hz.out hb2.size, h0, h1, h2, (fun h => ⟨(h3 h).1, (Lies.below (h3 h).2.1 hb2).wide hb2.size, (Lies.below (h3 h).2.2 hb2).wide hb2.size⟩), h4, h5, h6, (fun _ => ⟨rfl, q0, q1⟩), (fun h => ⟨(h8 h).1, (h8 h).2.1, Nat.lt_of_lt_of_le (h8 h).2.2 hb2.size⟩), (fun h h' => (z8 h h').below hb2 (h8 h).2.2), (fun h => ⟨(h9 h).1, (h9 h).2.1, Nat.lt_of_lt_of_le (h9 h).2.2 hb2.size⟩), (fun h h' => (z9 h h').below hb2 (h9 h).2.2), (fun h => (l10 h).elim), (fun h => (l10 h).elim), (fun h => (l11 h).elim), (fun h => (l11 h).elim), f3_8_0, f3_8_1, f3_9_0, f3_9_1, (fun _ h ad e _ => by have h1 := r0 ad e; have h2 := (h8 h).2.2; omega), (fun _ h ad e _ => by have h1 := r1 ad e; have h2 := (h8 h).2.2; omega), (fun _ h ad e _ => by have h1 := r0 ad e; have h2 := (h9 h).2.2; omega), (fun _ h ad e _ => by have h1 := r1 ad e; have h2 := (h9 h).2.2; omega), d8_9⟩
          | 8, ho =>
            have ho' := Option.some.inj ho
            subst ho'
            refine wpOp_of ho rfl ?_
            have l10 : Ls 10 = true → False := fun h => by have := k10 h 8 (by simp); rw [hLi] at this; cases this
            have l11 : Ls 11 = true → False := fun h => by have := k11 h 8 (by simp); rw [hLi] at this; cases this
            have Hz := Lib.hid hz
            go_simp
            unfold FzG6
            exact ⟨_, _, _, _, _, _, _, _, _, _, A3, m3, B3, n3, A4, m4, B4, n4, W.heap.size, p4, rfl, hB.alloc Hz.out _, by have := Hz.out; simp; omega, h0, h1, h2, (fun h => ⟨(h3 h).1, Lies.block' (h3 h).2.1 _, Lies.block' (h3 h).2.2 _⟩), h4, h5, h6, (fun h => ⟨(h7 h).1, Lies.block' (h7 h).2.1 _, Lies.block' (h7 h).2.2 _⟩), (fun _ => ⟨rfl, Hz.out, by simp⟩), (fun _ _ => Whole.made W _ _), (fun h => ⟨(h9 h).1, (h9 h).2.1, by have := (h9 h).2.2; simp; omega⟩), (fun h h' => (z9 h h').block _), (fun h => (l10 h).elim), (fun h => (l10 h).elim), (fun h => (l11 h).elim), (fun h => (l11 h).elim), (fun h _ ad e hne => by have := lies_lt (h3 h).2.1 e hne; omega), (fun h _ ad e hne => by have := lies_lt (h3 h).2.2 e hne; omega), f3_9_0, f3_9_1, (fun h _ ad e hne => by have := lies_lt (h7 h).2.1 e hne; omega), (fun h _ ad e hne => by have := lies_lt (h7 h).2.2 e hne; omega), f7_9_0, f7_9_1, (fun _ h => by have := (h9 h).2.2; omega)⟩
          | 9, ho =>
            have ho' := Option.some.inj ho
            subst ho'
            refine wpOp_of ho rfl ?_
            have l10 : Ls 10 = true → False := fun h => by have := k10 h 9 (by simp); rw [hLi] at this; cases this
            have l11 : Ls 11 = true → False := fun h => by have := k11 h 9 (by simp); rw [hLi] at this; cases this
            have Hz := Lib.hid hz
            go_simp
            unfold FzG6
            exact ⟨_, _, _, _, _, _, _, _, _, _, A3, m3, B3, n3, A4, m4, B4, n4, p3, W.heap.size, rfl, hB.alloc Hz.out _, by have := Hz.out; simp; omega, h0, h1, h2, (fun h => ⟨(h3 h).1, Lies.block' (h3 h).2.1 _, Lies.block' (h3 h).2.2 _⟩), h4, h5, h6, (fun h => ⟨(h7 h).1, Lies.block' (h7 h).2.1 _, Lies.block' (h7 h).2.2 _⟩), (fun h => ⟨(h8 h).1, (h8 h).2.1, by have := (h8 h).2.2; simp; omega⟩), (fun h h' => (z8 h h').block _), (fun _ => ⟨rfl, Hz.out, by simp⟩), (fun _ _ => Whole.made W _ _), (fun h => (l10 h).elim), (fun h => (l10 h).elim), (fun h => (l11 h).elim), (fun h => (l11 h).elim), f3_8_0, f3_8_1, (fun h _ ad e hne => by have := lies_lt (h3 h).2.1 e hne; omega), (fun h _ ad e hne => by have := lies_lt (h3 h).2.2 e hne; omega), f7_8_0, f7_8_1, (fun h _ ad e hne => by have := lies_lt (h7 h).2.1 e hne; omega), (fun h _ ad e hne => by have := lies_lt (h7 h).2.2 e hne; omega), (fun h _ => by have := (h8 h).2.2; omega)⟩
          | 10, ho =>
            have ho' := Option.some.inj ho
            subst ho'
            refine wpOp_of ho rfl ?_
            have hn := needs_spec (l := [3, 7, 8, 9]) (by kernel_rfl) hed
            have HN := Lib.hid hn
            obtain ⟨rfl, hp, hpl⟩ := h8 (hn 8 (by simp))
            obtain ⟨rfl, _, _⟩ := h3 (hn 3 (by simp))
            clear hn
            have Hz := Lib.hid hz
            have hw0 := z8 (HN.out 8 (by simp)) hLi
            have c0 : W.cell? ⟨p3, 0, none⟩ = some (.int .u64 0) := hw0.cell 0
            have y0 := hw0.free 0
            have c1 : W.cell? ⟨p3, 1, none⟩ = some (.slice none 0 0) := hw0.cell 1
            have y1 := hw0.free 1
            have c2 : W.cell? ⟨p3, 2, none⟩ = some (.slice none 0 0) := hw0.cell 2
            have y2 := hw0.free 2
            have c3 : W.cell? ⟨p3, 3, none⟩ = some (S []) := hw0.cell 3
            have y3 := hw0.free 3
            go_simp
            unfold FzG6
            exact ⟨_, _, _, _, _, _, _, _, _, _, A3, m3, B3, n3, A4, m4, B4, n4, p3, p4, rfl, ((((hB.setCell (p := ⟨p3, 0, none⟩) hp _).setCell (p := ⟨p3, 1, none⟩) hp _).setCell (p := ⟨p3, 2, none⟩) hp _).setCell (p := ⟨p3, 3, none⟩) hp _), by simpa [World.setCell] using Hz.out, h0, h1, h2, (fun h => ⟨rfl, lies_setn4 (h3 h).2.1 (f3_8_0 h (HN.out 8 (by simp))), lies_setn4 (h3 h).2.2 (f3_8_1 h (HN.out 8 (by simp)))⟩), h4, h5, h6, (fun h => ⟨(h7 h).1, lies_setn4 (h7 h).2.1 (f7_8_0 h (HN.out 8 (by simp))), lies_setn4 (h7 h).2.2 (f7_8_1 h (HN.out 8 (by simp)))⟩), (fun _ => ⟨rfl, hp, by simpa [World.setCell] using hpl⟩), (fun _ h' => by have h'' : (true : Bool) = false := h'; cases h''), (fun h => ⟨(h9 h).1, (h9 h).2.1, by simpa [World.setCell] using (h9 h).2.2⟩), (fun h h' => whole_far4 (z9 h h') (fun e => d8_9 (HN.out 8 (by simp)) h e.symm)), (fun _ => ((((hw0.set 0 _).set 1 _).set 2 _).set 3 _)), (fun _ j hj => also_of (HN.out j hj)), (fun h => whole_far4 (h11 h) (fun e => d8_9 (HN.out 8 (by simp)) (HN.out 9 (by simp)) e.symm)), (fun h j hj => also_of (k11 h j hj)), f3_8_0, f3_8_1, f3_9_0, f3_9_1, f7_8_0, f7_8_1, f7_9_0, f7_9_1, d8_9⟩
          | 11, ho =>
            have ho' := Option.some.inj ho
            subst ho'
            refine wpOp_of ho rfl ?_
            have hn := needs_spec (l := [3, 7, 8, 9]) (by kernel_rfl) hed
            have HN := Lib.hid hn
            obtain ⟨rfl, hp, hpl⟩ := h9 (hn 9 (by simp))
            obtain ⟨rfl, _, _⟩ := h7 (hn 7 (by simp))
            clear hn
            have Hz := Lib.hid hz
            have hw0 := z9 (HN.out 9 (by simp)) hLi
            have c0 : W.cell? ⟨p4, 0, none⟩ = some (.int .u64 0) := hw0.cell 0
            have y0 := hw0.free 0
            have c1 : W.cell? ⟨p4, 1, none⟩ = some (.slice none 0 0) := hw0.cell 1
            have y1 := hw0.free 1
            have c2 : W.cell? ⟨p4, 2, none⟩ = some (.slice none 0 0) := hw0.cell 2
            have y2 := hw0.free 2
            have c3 : W.cell? ⟨p4, 3, none⟩ = some (S []) := hw0.cell 3
            have y3 := hw0.free 3
            go_simp
            unfold FzG6
            exact ⟨_, _, _, _, _, _, _, _, _, _, A3, m3, B3, n3, A4, m4, B4, n4, p3, p4, rfl, ((((hB.setCell (p := ⟨p4, 0, none⟩) hp _).setCell (p := ⟨p4, 1, none⟩) hp _).setCell (p := ⟨p4, 2, none⟩) hp _).setCell (p := ⟨p4, 3, none⟩) hp _), by simpa [World.setCell] using Hz.out, h0, h1, h2, (fun h => ⟨(h3 h).1, lies_setn4 (h3 h).2.1 (f3_9_0 h (HN.out 9 (by simp))), lies_setn4 (h3 h).2.2 (f3_9_1 h (HN.out 9 (by simp)))⟩), h4, h5, h6, (fun h => ⟨rfl, lies_setn4 (h7 h).2.1 (f7_9_0 h (HN.out 9 (by simp))), lies_setn4 (h7 h).2.2 (f7_9_1 h (HN.out 9 (by simp)))⟩), (fun h => ⟨(h8 h).1, (h8 h).2.1, by simpa [World.setCell] using (h8 h).2.2⟩), (fun h h' => whole_far4 (z8 h h') (fun e => d8_9 h (HN.out 9 (by simp)) e)), (fun _ => ⟨rfl, hp, by simpa [World.setCell] using hpl⟩), (fun _ h' => by have h'' : (true : Bool) = false := h'; cases h''), (fun h => whole_far4 (h10 h) (fun e => d8_9 (HN.out 8 (by simp)) (HN.out 9 (by simp)) e)), (fun h j hj => also_of (k10 h j hj)), (fun _ => ((((hw0.set 0 _).set 1 _).set 2 _).set 3 _)), (fun _ j hj => also_of (HN.out j hj)), f3_8_0, f3_8_1, f3_9_0, f3_9_1, f7_8_0, f7_8_1, f7_9_0, f7_9_1, d8_9⟩
          | n + 12, ho => simp at ho
        case fin6 =>
          intro Ls a w7 hL hJ
          unfold FzG6 at hJ
          obtain ⟨u37, u38, u39, u40, u41, u42, u43, u44, u11, u12, A3, m3, B3, n3, A4, m4, B4, n4, p3, p4, rfl, hB, hz, h0, h1, h2, h3, h4, h5, h6, h7, h8, z8, h9, z9, h10, k10, h11, k11, f3_8_0, f3_8_1, f3_9_0, f3_9_1, f7_8_0, f7_8_1, f7_9_0, f7_9_1, d8_9⟩ := hJ
          have hn : ∀ j, j < 12 → Ls j = true := fun j hj => hL j hj
          obtain rfl := h0 (hn 0 (by omega))
          obtain rfl := h1 (hn 1 (by omega))
          obtain rfl := h2 (hn 2 (by omega))
          obtain ⟨rfl, l3_0, l3_1⟩ := h3 (hn 3 (by omega))
          obtain rfl := h4 (hn 4 (by omega))
          obtain rfl := h5 (hn 5 (by omega))
          obtain rfl := h6 (hn 6 (by omega))
          obtain ⟨rfl, l7_0, l7_1⟩ := h7 (hn 7 (by omega))
          obtain ⟨rfl, g8, gl8⟩ := h8 (hn 8 (by omega))
          obtain ⟨rfl, g9, gl9⟩ := h9 (hn 9 (by omega))
          have b10 := h10 (hn 10 (by omega))
          have b11 := h11 (hn 11 (by omega))
          clear h0 h1 h2 h3 h4 h5 h6 h7 h8 z8 h9 z9 h10 k10 h11 k11 f3_8_0 f3_8_1 f3_9_0 f3_9_1 f7_8_0 f7_8_1 f7_9_0 f7_9_1 d8_9 hn hL
          have HB7 := Lib.hid hB
          have HW7 := Lib.hid (HW6.out w7 hB)
          have HS3 := Lib.hid b10
          have HS4 := Lib.hid b11
          have K2 : Hid (∀ W, Below w7.heap.size w7 W → Kps W W.heap.size A3 fl2 ∧ Kps W W.heap.size B3 bl2 ∧ Kps W W.heap.size A4 fl2 ∧ Kps W W.heap.size B4 bl2) := Lib.hid fun W hW => ⟨(Lies.below l3_0 hW).wide hW.size, (Lies.below l3_1 hW).wide hW.size, (Lies.below l7_0 hW).wide hW.size, (Lies.below l7_1 hW).wide hW.size⟩
          have hl75 : w5.heap.size ≤ w7.heap.size := hB.size
          have HW75 : Hid (∀ W, Below w7.heap.size w7 W → Below w5.heap.size w5 W) := Lib.hid fun W hW => HB7.out.trans (hW.mono hl75)
          have hp3 := gl8
          have hp4 := gl9
          have t0 : w7.cell? ⟨p3, 0, none⟩ = some (.int .u64 ck) := b10.cell 0
          have t1 : w7.cell? ⟨p3, 1, none⟩ = some (.slice A3 fl2.length m3) := b10.cell 1
          have t2 : w7.cell? ⟨p3, 2, none⟩ = some (.slice B3 bl2.length n3) := b10.cell 2
          have t3 : w7.cell? ⟨p3, 3, none⟩ = some (S r) := b10.cell 3
          obtain ⟨qe, qf, qb, qr, HQ⟩ : ∃ a b c d, Hid (imgK fl2 bl2 r = (a, b, c, d)) := ⟨_, _, _, _, Lib.hid rfl⟩
          have CI := Lib.hid (imageS_any w7 A3 B3 m3 n3 ck fl2 bl2 r l3_0 l3_1 (by omega) (by omega))
          rw [HQ.out] at CI
          have hql : qf.length ≤ 70 ∧ qb.length ≤ 260 := by
            have h := HQ.out
            unfold imgK at h
            split at h
            · injection h with _ h; injection h with h1 h; injection h with h2 _; subst h1; subst h2; simp
            · injection h with _ h; injection h with h1 h; injection h with h2 _; subst h1; subst h2; rw [datas_length, datas_length]; omega
          clear hB hz b10 b11 l3_0 l3_1 l7_0 l7_1 g8 g9 gl8 gl9 CP CRP
          go_wp2_with fail
          refine CI.out.mono ?_
          rintro e w8 ⟨⟨X, x, X', x', rfl, q1, q2⟩, hb8⟩
          have HB9 := Lib.hid (hb8.alloc hb8.size (.cells #[.slice X qf.length x, .slice X' qb.length x', S qr] 39))
          have HX9 := Lib.hid (Whole.made w8 39 #[.slice X qf.length x, .slice X' qb.length x', S qr])
          have HQ1a := Lib.hid (Lies.block' q1 (.cells #[.slice X qf.length x, .slice X' qb.length x', S qr] 39))
          have HQ1b := Lib.hid (Lies.block' q2 (.cells #[.slice X qf.length x, .slice X' qb.length x', S qr] 39))
          clear t0 t1 t2 t3 CI hb8 q1 q2
          go_upto_region 8 with (fail)
          change Code.wp _ _ _ _ (w8.alloc (.cells #[.slice X qf.length x, .slice X' qb.length x', S qr] 39))
          generalize w8.alloc (.cells #[.slice X qf.length x, .slice X' qb.length x', S qr] 39) = w9 at *
          generalize w8.heap.size = gx9 at *
          have h49 := HS4.out.below HB9.out hp4
          have t0 : w9.cell? ⟨p4, 0, none⟩ = some (.int .u64 ck) := h49.cell 0
          have t1 : w9.cell? ⟨p4, 1, none⟩ = some (.slice A4 fl2.length m4) := h49.cell 1
          have t2 : w9.cell? ⟨p4, 2, none⟩ = some (.slice B4 bl2.length n4) := h49.cell 2
          have t3 : w9.cell? ⟨p4, 3, none⟩ = some (S r) := h49.cell 3
          have CI := Lib.hid (rimageS_any w9 A4 B4 m4 n4 ck fl2 bl2 r (K2.out w9 HB9.out).2.2.1 (K2.out w9 HB9.out).2.2.2 (by omega) (by omega))
          rw [HQ.out] at CI
          clear h49
          go_wp2_with fail
          refine CI.out.mono ?_
          rintro e w10 ⟨⟨Y, y, Y', y', rfl, q1, q2⟩, hb10⟩
          have hl9 := HX9.out.lt
          have HB11 := Lib.hid ((HB9.out.trans (hb10.mono HB9.out.size)).alloc (Nat.le_trans HB9.out.size hb10.size) (.cells #[.slice Y qf.length y, .slice Y' qb.length y', S qr] 39))
          have HY11 := Lib.hid (Whole.made w10 39 #[.slice Y qf.length y, .slice Y' qb.length y', S qr])
          have HX11 := Lib.hid ((HX9.out.below hb10 hl9).block (.cells #[.slice Y qf.length y, .slice Y' qb.length y', S qr] 39))
          have HQ2a := Lib.hid (Lies.block' q1 (.cells #[.slice Y qf.length y, .slice Y' qb.length y', S qr] 39))
          have HQ2b := Lib.hid (Lies.block' q2 (.cells #[.slice Y qf.length y, .slice Y' qb.length y', S qr] 39))
          have HQ1c := Lib.hid (Lies.block' (Lies.wide (Lies.below HQ1a.out hb10) hb10.size) (.cells #[.slice Y qf.length y, .slice Y' qb.length y', S qr] 39))
          have HQ1d := Lib.hid (Lies.block' (Lies.wide (Lies.below HQ1b.out hb10) hb10.size) (.cells #[.slice Y qf.length y, .slice Y' qb.length y', S qr] 39))
          clear t0 t1 t2 t3 CI hb10 q1 q2 HB9 HX9 HQ1a HQ1b
          go_upto_region 9 with (fail)
          change Code.wp _ _ _ _ (w10.alloc (.cells #[.slice Y qf.length y, .slice Y' qb.length y', S qr] 39))
          generalize w10.alloc (.cells #[.slice Y qf.length y, .slice Y' qb.length y', S qr] 39) = w11 at *
          generalize w10.heap.size = gy11 at *
          have hlx := HX11.out.lt
          have hly := HY11.out.lt
          have h1 := HS1.out.below (HW75.out w11 HB11.out) hp1
          have h2 := HS2.out.below (HW75.out w11 HB11.out) hp2
          have t0 : w11.cell? ⟨p1, 0, none⟩ = some (.int .u64 ck) := h1.cell 0
          have v0 : w11.cell? ⟨p2, 0, none⟩ = some (.int .u64 ck) := h2.cell 0
          have t1 : w11.cell? ⟨p1, 1, none⟩ = some (.slice A1 fl1.length m1) := h1.cell 1
          have v1 : w11.cell? ⟨p2, 1, none⟩ = some (.slice A2 fl1.length m2) := h2.cell 1
          have t2 : w11.cell? ⟨p1, 2, none⟩ = some (.slice B1 bl1.length n1) := h1.cell 2
          have v2 : w11.cell? ⟨p2, 2, none⟩ = some (.slice B2 bl1.length n2) := h2.cell 2
          have t3 : w11.cell? ⟨p1, 3, none⟩ = some (S r) := h1.cell 3
          have v3 : w11.cell? ⟨p2, 3, none⟩ = some (S r) := h2.cell 3
          have k1 := K1.out w11 (HW75.out w11 HB11.out)
          have CS := Lib.hid (rsame_true w11 A1 B1 A2 B2 m1 n1 m2 n2 ck fl1 bl1 r k1.1 k1.2.1 k1.2.2.1 k1.2.2.2 (by omega) (by omega))
          clear h1 h2 k1
          go_wp2_with fail
          refine CS.out.mono ?_
          rintro e w12 ⟨rfl, hb12⟩
          have HB12 := Lib.hid (HB11.out.trans (hb12.mono HB11.out.size))
          have HX12 := Lib.hid (HX11.out.below hb12 hlx)
          have HY12 := Lib.hid (HY11.out.below hb12 hly)
          have z12 := hb12.size
          have HQ1e := Lib.hid ((Lies.below HQ1c.out hb12).wide hb12.size)
          have HQ1f := Lib.hid ((Lies.below HQ1d.out hb12).wide hb12.size)
          have HQ2e := Lib.hid ((Lies.below HQ2a.out hb12).wide hb12.size)
          have HQ2f := Lib.hid ((Lies.below HQ2b.out hb12).wide hb12.size)
          clear t0 t1 t2 t3 v0 v1 v2 v3 CS hb12 HQ1c HQ1d HQ2a HQ2b HX11 HY11
          have h3 := HS3.out.below HB12.out hp3
          have h4 := HS4.out.below HB12.out hp4
          have t0 : w12.cell? ⟨p3, 0, none⟩ = some (.int .u64 ck) := h3.cell 0
          have v0 : w12.cell? ⟨p4, 0, none⟩ = some (.int .u64 ck) := h4.cell 0
          have t1 : w12.cell? ⟨p3, 1, none⟩ = some (.slice A3 fl2.length m3) := h3.cell 1
          have v1 : w12.cell? ⟨p4, 1, none⟩ = some (.slice A4 fl2.length m4) := h4.cell 1
          have t2 : w12.cell? ⟨p3, 2, none⟩ = some (.slice B3 bl2.length n3) := h3.cell 2
          have v2 : w12.cell? ⟨p4, 2, none⟩ = some (.slice B4 bl2.length n4) := h4.cell 2
          have t3 : w12.cell? ⟨p3, 3, none⟩ = some (S r) := h3.cell 3
          have v3 : w12.cell? ⟨p4, 3, none⟩ = some (S r) := h4.cell 3
          have k2 := K2.out w12 HB12.out
          have CS := Lib.hid (rsame_true w12 A3 B3 A4 B4 m3 n3 m4 n4 ck fl2 bl2 r k2.1 k2.2.1 k2.2.2.1 k2.2.2.2 (by omega) (by omega))
          clear h3 h4 k2
          go_wp2_with fail
          refine CS.out.mono ?_
          rintro e w13 ⟨rfl, hb13⟩
          have HB13 := Lib.hid (HB12.out.trans (hb13.mono HB12.out.size))
          have hX := HX12.out.below hb13 (by omega)
          have hY := HY12.out.below hb13 (by omega)
          have x0 : w13.cell? ⟨gx9, 0, none⟩ = some (.slice X qf.length x) := hX.cell 0
          have x1 : w13.cell? ⟨gx9, 1, none⟩ = some (.slice X' qb.length x') := hX.cell 1
          have x2 : w13.cell? ⟨gx9, 2, none⟩ = some (S qr) := hX.cell 2
          have y0 : w13.cell? ⟨gy11, 0, none⟩ = some (.slice Y qf.length y) := hY.cell 0
          have y1 : w13.cell? ⟨gy11, 1, none⟩ = some (.slice Y' qb.length y') := hY.cell 1
          have y2 : w13.cell? ⟨gy11, 2, none⟩ = some (S qr) := hY.cell 2
          have CI := Lib.hid (rsameImage_true w13 X X' Y Y' x x' y y' qf qb qr ((Lies.below HQ1e.out hb13).wide hb13.size) ((Lies.below HQ1f.out hb13).wide hb13.size) ((Lies.below HQ2e.out hb13).wide hb13.size) ((Lies.below HQ2f.out hb13).wide hb13.size) (by omega) (by omega))
          clear t0 t1 t2 t3 v0 v1 v2 v3 CS hb13 hX hY
          go_wp2_with fail
          refine CI.out.mono ?_
          rintro e w14 ⟨rfl, hb14⟩
          have HB14 := Lib.hid (HB13.out.trans (hb14.mono HB13.out.size))
          clear hb14 x0 x1 x2 y0 y1 y2 CI
          go_wp2_with fail
          go_ret
          exact ⟨rfl, by rw [HGX.out]; exact HEND.out _ (HW6.out _ (HW75.out _ HB14.out))⟩
end Go.Proofs.YtmmfcjkabpffeaaDoor
