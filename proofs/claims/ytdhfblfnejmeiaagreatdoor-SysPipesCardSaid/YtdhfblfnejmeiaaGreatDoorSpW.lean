/-
  Walks: the document's volume without anything: Zeros, Put, Plan, head, turn, Format. (Printed by gen_spw.py.)
-/
import Derived.Test.YtdhfblfnejmeiaaGreatDoorSpU
namespace Go.Proofs.YtdhfblfnejmeiaaGreatDoor
open Go.RowKit

def putL (n k : Nat) : List UInt8 := (List.range k).map fun i => UInt8.ofNat (n / 256 ^ i % 256)
theorem putL_length (n k : Nat) : (putL n k).length = k := by simp [putL]
theorem putL_succ (n k : Nat) : putL n (k + 1) = putL n k ++ [UInt8.ofNat (n / 256 ^ k % 256)] := by unfold putL; rw [List.range_succ, List.map_append]; rfl
set_option maxRecDepth 100000 in
set_option maxHeartbeats 1000000 in
theorem rput_any (w : World) (n k : Nat) (hn : n < 18446744073709551616) (hk : k ≤ 8) :
    Calls Tryz.prog 100 #[.int .u64 (n : Int), .int .i64 (k : Int)] w fun e w' => e = .returned (S (putL n k)) ∧ Below w.heap.size w w' := by
  have h0 : n / 256 ^ 0 = n := by simp
  go_enter Tryz.func100, Tryz.ntmps100
  go_wp2_with fail
  go_loopw [0, 5, 6] (fun z s i wr => ∃ j m : Nat, j ≤ k ∧ i = .int .i64 (j : Int) ∧ s = S (putL n j) ∧ z = .int .u64 (m : Int) ∧ m < 18446744073709551616 ∧ Hid (n / 256 ^ j = m) ∧ Hid (Below w.heap.size w wr)) (fun _ _ i _ => k - (intOf i).toNat)
  case atStart => exact ⟨0, n, by omega, rfl, rfl, rfl, hn, Lib.hid h0, Lib.hid (Below.refl _ _)⟩
  case round =>
    obtain ⟨j, m, hj, rfl, rfl, rfl, hm, HM, HW⟩ := hrel
    by_cases hlt : j < k
    · have d1 : decide ((j : Int) < (k : Int)) = true := decide_eq_true (by omega)
      have d1' : decide (j < k) = true := decide_eq_true hlt
      have d2 : decide ((j : Int) < 8) = true := decide_eq_true (by omega)
      have HS := Lib.hid (putL_succ n j)
      have HD : Hid (n / 256 ^ (j + 1) = m / 256) := Lib.hid (by rw [Nat.pow_succ, ← Nat.div_div_eq_div_mul, HM.out])
      rw [HM.out] at HS
      have hln := putL_length n j
      have HLN := Lib.hid hln
      have hlb : (putL n j).length ≤ 8 := by omega
      generalize putL n j = s at *
      have m1 : (m : Int).tmod 256 = (m : Int) % 256 := Int.tmod_eq_emod_of_nonneg (by omega)
      have m2 : (m : Int).tdiv 256 = (m : Int) / 256 := Int.tdiv_eq_ediv_of_nonneg (by omega)
      have m3 : IntKind.u8.wrap ((m : Int) % 256) = (m : Int) % 256 := by rw [IntKind.wrap_u8]; omega
      have m4 : IntKind.u64.wrap ((m : Int) / 256) = (m : Int) / 256 := by rw [IntKind.wrap_u64]; omega
      have m5 : IntKind.u64.wrap ((m : Int) % 256) = (m : Int) % 256 := by rw [IntKind.wrap_u64]; omega
      have hcv := fun W p c => run_str_one W p c ((m : Int) % 256) (UInt8.ofNat (m % 256)) (by rw [UInt8.toNat_ofNat']; omega)
      have hno : ¬ (9223372036854775807 < s.length + [UInt8.ofNat (m % 256)].length) := by simp; omega
      have HB1 := Lib.hid (HW.out.alloc HW.out.size (.cells #[.int .u8 ((m : Int) % 256)] 5))
      clear hln
      go_wp2_with fail
      go_roundw
      case rel =>
        have R : ∃ j' m' : Nat, j' ≤ k ∧ Value.int .i64 ((j : Int) + 1) = .int .i64 (j' : Int) ∧ S (s ++ [UInt8.ofNat (m % 256)]) = S (putL n j') ∧ Value.int .u64 ((m : Int) / 256) = .int .u64 (m' : Int) ∧ m' < 18446744073709551616 ∧ Hid (n / 256 ^ j' = m') ∧ Hid (Below w.heap.size w (wr.alloc (.cells #[.int .u8 ((m : Int) % 256)] 5))) := ⟨j + 1, m / 256, by omega, by go_num, by rw [HS.out], by go_num, by omega, HD, HB1⟩
        first | exact R | ((repeat apply Exists.intro); exact ⟨R, rfl⟩)
      case measure => simp [intOf]; omega
    · obtain rfl : j = k := by omega
      have d1 : decide ((j : Int) < (j : Int)) = false := by simp
      have d1' : decide (j < j) = false := by simp
      go_wp2_with fail
      go_ret
      exact ⟨rfl, HW.out⟩
set_option maxRecDepth 100000 in
set_option maxHeartbeats 1000000 in
theorem zeros17_any (w : World) (n : Nat) (hn : n ≤ 1073741824) :
    Calls Tryz.prog 54 #[.int .i64 (n : Int)] w fun e w' => e = .returned (S (List.replicate n 0)) ∧ w' = w := by
  go_enter Tryz.func54, Tryz.ntmps54
  go_wp2_with fail
  go_loop [3, 4] (fun s i => ∃ k : Nat, k ≤ n ∧ i = .int .i64 (k : Int) ∧ s = S (List.replicate k 0)) (fun _ i => n - (intOf i).toNat)
  case atStart => exact ⟨0, by omega, rfl, rfl⟩
  case round =>
    obtain ⟨k, hk, rfl, rfl⟩ := hrel
    by_cases hlt : k < n
    · have d1 : decide ((k : Int) < (n : Int)) = true := decide_eq_true (by omega)
      have d1' : decide (k < n) = true := decide_eq_true hlt
      have hno : ¬ (9223372036854775807 < (List.replicate k (0 : UInt8)).length + [(0 : UInt8)].length) := by simp; omega
      have HS : Hid (List.replicate (k + 1) (0 : UInt8) = List.replicate k 0 ++ [0]) := Lib.hid List.replicate_succ'
      generalize List.replicate k (0 : UInt8) = s at *
      go_wp2_with fail
      go_round
      case rel => exact ⟨k + 1, by omega, by go_num, by rw [HS.out]; exact concat_S s [0]⟩
      case measure => simp [intOf]; omega
    · obtain rfl : k = n := by omega
      have d1 : decide ((k : Int) < (k : Int)) = false := by simp
      have d1' : decide (k < k) = false := by simp
      go_wp2_with fail
      go_ret
      exact ⟨rfl, rfl⟩
set_option maxRecDepth 100000 in
set_option maxHeartbeats 1000000 in
theorem zeros16_any (w : World) (n : Nat) (hn : n ≤ 1073741824) :
    Calls Tryz.prog 56 #[.int .i64 (n : Int)] w fun e w' => e = .returned (S (List.replicate n 0)) ∧ w' = w := by
  go_enter Tryz.func56, Tryz.ntmps56
  go_wp2_with fail
  go_loop [3, 4] (fun s i => ∃ k : Nat, k ≤ n ∧ i = .int .i64 (k : Int) ∧ s = S (List.replicate k 0)) (fun _ i => n - (intOf i).toNat)
  case atStart => exact ⟨0, by omega, rfl, rfl⟩
  case round =>
    obtain ⟨k, hk, rfl, rfl⟩ := hrel
    by_cases hlt : k < n
    · have d1 : decide ((k : Int) < (n : Int)) = true := decide_eq_true (by omega)
      have d1' : decide (k < n) = true := decide_eq_true hlt
      have hno : ¬ (9223372036854775807 < (List.replicate k (0 : UInt8)).length + [(0 : UInt8)].length) := by simp; omega
      have HS : Hid (List.replicate (k + 1) (0 : UInt8) = List.replicate k 0 ++ [0]) := Lib.hid List.replicate_succ'
      generalize List.replicate k (0 : UInt8) = s at *
      go_wp2_with fail
      go_round
      case rel => exact ⟨k + 1, by omega, by go_num, by rw [HS.out]; exact concat_S s [0]⟩
      case measure => simp [intOf]; omega
    · obtain rfl : k = n := by omega
      have d1 : decide ((k : Int) < (k : Int)) = false := by simp
      have d1' : decide (k < k) = false := by simp
      go_wp2_with fail
      go_ret
      exact ⟨rfl, rfl⟩
set_option maxRecDepth 100000 in
set_option maxHeartbeats 2000000 in
theorem plan_small (w : World) :
    Calls Tryz.prog 52 #[.int .i64 24, .int .i64 6] w fun e w' => e = .returned (.tuple #[.agg #[.int .i64 24, .int .i64 6, .int .i64 1, .int .i64 2, .int .i64 3, .int .i64 6], .int .i64 0]) ∧ Below w.heap.size w w' := by
  go_enter Tryz.func52, Tryz.ntmps52
  go_wp2_with fail
  refine bodyPost_ret (v := .tuple #[.agg #[.int .i64 24, .int .i64 6, .int .i64 1, .int .i64 2, .int .i64 3, .int .i64 6], .int .i64 0]) (by simp [results, Tryz.results52, go_sem]) rfl ⟨rfl, ((Below.refl _ _).alloc (Nat.le_refl _) _).alloc (by simp) _⟩
theorem xor_u8 (a b : Int) : ∃ x : UInt8, bits .xor .u8 a b = (x.toNat : Int) := by
  show ∃ x : UInt8, IntKind.u8.wrap _ = (x.toNat : Int)
  rw [IntKind.wrap_u8]
  generalize ((_ : Nat) : Int) = z
  exact ⟨UInt8.ofNat (z % 256).toNat, by rw [UInt8.toNat_ofNat']; omega⟩
theorem cat_eq (x y : List UInt8) : ({ data := x.toArray } ++ { data := y.toArray } : ByteArray) = ⟨(x ++ y).toArray⟩ := by
  have := concat_S x y
  injection this
set_option maxRecDepth 100000 in
set_option maxHeartbeats 2000000 in
theorem head_small (w : World) :
    Calls Tryz.prog 53 #[.agg #[.int .i64 24, .int .i64 6, .int .i64 1, .int .i64 2, .int .i64 3, .int .i64 6]] w fun e w' => (∃ h : List UInt8, h.length = 128 ∧ e = .returned (S h)) ∧ Below w.heap.size w w' := by
  have hs0 := Whole.made w 97 #[.int .i64 24, .int .i64 6, .int .i64 1, .int .i64 2, .int .i64 3, .int .i64 6]
  have hb : Below w.heap.size w (w.alloc (.cells #[.int .i64 24, .int .i64 6, .int .i64 1, .int .i64 2, .int .i64 3, .int .i64 6] 97)) := (Below.refl _ _).alloc (Nat.le_refl _) _
  go_enter Tryz.func53, Tryz.ntmps53
  go_upto_region 1 with (fail)
  change Code.wp _ _ _ _ (w.alloc (.cells #[.int .i64 24, .int .i64 6, .int .i64 1, .int .i64 2, .int .i64 3, .int .i64 6] 97))
  generalize (w.alloc (.cells #[.int .i64 24, .int .i64 6, .int .i64 1, .int .i64 2, .int .i64 3, .int .i64 6] 97)) = w1 at *
  generalize hgx : w.heap.size = gx at *
  have HGX := Lib.hid hgx
  have HS0 := Lib.hid hs0
  have HW := Lib.hid hb
  have hgl : gx < w1.heap.size := hs0.lt
  clear hgx hb hs0
  have HC : Hid (∀ W, Below w1.heap.size w1 W → W.cell? ⟨gx, 0, none⟩ = some (.int .i64 24) ∧ W.cell? ⟨gx, 1, none⟩ = some (.int .i64 6)) := Lib.hid fun W hS => ⟨(HS0.out.below hS HS0.out.lt).cell 0, (HS0.out.below hS HS0.out.lt).cell 1⟩
  have C0 := Lib.hid fun W => rput_any W 24 2 (by decide) (by decide)
  have C1 := Lib.hid fun W => rput_any W 6 2 (by decide) (by decide)
  have CZ := Lib.hid fun W => zeros17_any W 120 (by decide)
  have lx := putL_length 24 2
  have ly := putL_length 6 2
  have lz : (List.replicate 120 (0 : UInt8)).length = 120 := List.length_replicate
  generalize putL 24 2 = x at *
  generalize putL 6 2 = y at *
  generalize List.replicate 120 (0 : UInt8) = z at *
  have w24 : IntKind.u64.wrap 24 = 24 := by decide
  have w6 : IntKind.u64.wrap 6 = 6 := by decide
  refine' wp_region_sure (by kernel_rfl) (fun W => Below w1.heap.size w1 W) 13 [_, _, _, _, _, _, _, _, _, _, _, _, _] [some 3, some 4, some 5, some 6, some 7, some 8, some 9, some 10, some 11, some 12, some 13, some 14, some 2] (by kernel_rfl) (by kernel_rfl) (by kernel_rfl) (by kernel_rfl) rfl (Below.refl _ _).drew ?hs1
  case hs1 =>
    refine sure_cons ?_ ?_
    · intro L ac W K hed hJ hS hK
      have hA1 : ac.eval (.tmp 1) = .pointer (some ⟨gx, 0, none⟩) := hJ.eval_old 1 (by kernel_rfl)
      clear hed hJ
      refine opStep_of rfl ?_
      unfold Oper.wp execOp
      have hN1 := evalN hA1
      go_simp
      exact hK _ hS
    refine sure_cons ?_ ?_
    · intro L ac W K hed hJ hS hK
      have hn := needs_spec (l := [0]) (by kernel_rfl) hed
      have hA3 := hJ.eval 0 (d := 3) (hn 0 (by simp)) rfl rfl rfl
      clear hed hJ hn
      refine opStep_of rfl ?_
      have cc := (HC.out W hS).1
      unfold Oper.wp execOp
      have hN3 := evalN hA3
      go_simp
      exact hK _ hS
    refine sure_cons ?_ ?_
    · intro L ac W K hed hJ hS hK
      have hn := needs_spec (l := [1]) (by kernel_rfl) hed
      have hA4 := hJ.eval 1 (d := 4) (hn 1 (by simp)) rfl rfl rfl
      clear hed hJ hn
      refine opStep_of rfl ?_
      unfold Oper.wp execOp
      have hN4 := evalN hA4
      go_simp
      exact hK _ hS
    refine sure_cons ?_ ?_
    · intro L ac W K hed hJ hS hK
      have hn := needs_spec (l := [2]) (by kernel_rfl) hed
      have hA5 := hJ.eval 2 (d := 5) (hn 2 (by simp)) rfl rfl rfl
      clear hed hJ hn
      refine opStep_of rfl ?_
      unfold Oper.wp execOp
      have hN5 := evalN hA5
      go_simp
      refine (C0.out W).mono ?_
      rintro e W' ⟨rfl, hb⟩
      have hS2 := hS.trans (hb.mono hS.size)
      dsimp only
      exact hK W' hS2
    refine sure_cons ?_ ?_
    · intro L ac W K hed hJ hS hK
      have hn := needs_spec (l := [3]) (by kernel_rfl) hed
      have hA6 := hJ.eval 3 (d := 6) (hn 3 (by simp)) rfl rfl rfl
      clear hed hJ hn
      refine opStep_of rfl ?_
      unfold Oper.wp execOp
      have hN6 := evalN hA6
      go_simp
      exact hK _ hS
    refine sure_cons ?_ ?_
    · intro L ac W K hed hJ hS hK
      have hA1 : ac.eval (.tmp 1) = .pointer (some ⟨gx, 0, none⟩) := hJ.eval_old 1 (by kernel_rfl)
      clear hed hJ
      refine opStep_of rfl ?_
      unfold Oper.wp execOp
      have hN1 := evalN hA1
      go_simp
      exact hK _ hS
    refine sure_cons ?_ ?_
    · intro L ac W K hed hJ hS hK
      have hn := needs_spec (l := [5]) (by kernel_rfl) hed
      have hA8 := hJ.eval 5 (d := 8) (hn 5 (by simp)) rfl rfl rfl
      clear hed hJ hn
      refine opStep_of rfl ?_
      have cc := (HC.out W hS).2
      unfold Oper.wp execOp
      have hN8 := evalN hA8
      go_simp
      exact hK _ hS
    refine sure_cons ?_ ?_
    · intro L ac W K hed hJ hS hK
      have hn := needs_spec (l := [6]) (by kernel_rfl) hed
      have hA9 := hJ.eval 6 (d := 9) (hn 6 (by simp)) rfl rfl rfl
      clear hed hJ hn
      refine opStep_of rfl ?_
      unfold Oper.wp execOp
      have hN9 := evalN hA9
      go_simp
      exact hK _ hS
    refine sure_cons ?_ ?_
    · intro L ac W K hed hJ hS hK
      have hn := needs_spec (l := [7]) (by kernel_rfl) hed
      have hA10 := hJ.eval 7 (d := 10) (hn 7 (by simp)) rfl rfl rfl
      clear hed hJ hn
      refine opStep_of rfl ?_
      unfold Oper.wp execOp
      have hN10 := evalN hA10
      go_simp
      refine (C1.out W).mono ?_
      rintro e W' ⟨rfl, hb⟩
      have hS2 := hS.trans (hb.mono hS.size)
      dsimp only
      exact hK W' hS2
    refine sure_cons ?_ ?_
    · intro L ac W K hed hJ hS hK
      have hn := needs_spec (l := [4, 8]) (by kernel_rfl) hed
      have hA7 := hJ.eval 4 (d := 7) (hn 4 (by simp)) rfl rfl rfl
      have hA11 := hJ.eval 8 (d := 11) (hn 8 (by simp)) rfl rfl rfl
      clear hed hJ hn
      refine opStep_of rfl ?_
      unfold Oper.wp execOp
      have hN7 := evalN hA7
      have hN11 := evalN hA11
      go_simp
      exact hK _ hS
    refine sure_cons ?_ ?_
    · intro L ac W K hed hJ hS hK
      clear hed hJ
      refine opStep_of rfl ?_
      unfold Oper.wp execOp
      go_simp
      refine (CZ.out W).mono ?_
      rintro e W' ⟨rfl, rfl⟩
      dsimp only
      exact hK _ hS
    refine sure_cons ?_ ?_
    · intro L ac W K hed hJ hS hK
      have hn := needs_spec (l := [9, 10]) (by kernel_rfl) hed
      have hA12 := hJ.eval 9 (d := 12) (hn 9 (by simp)) rfl rfl rfl
      have hA13 := hJ.eval 10 (d := 13) (hn 10 (by simp)) rfl rfl rfl
      clear hed hJ hn
      refine opStep_of rfl ?_
      unfold Oper.wp execOp
      have hN12 := evalN hA12
      have hN13 := evalN hA13
      go_simp
      exact hK _ hS
    refine sure_cons ?_ ?_
    · intro L ac W K hed hJ hS hK
      have hn := needs_spec (l := [11]) (by kernel_rfl) hed
      have hA14 := hJ.eval 11 (d := 14) (hn 11 (by simp)) rfl rfl rfl
      clear hed hJ hn
      refine opStep_of rfl ?_
      unfold Oper.wp execOp
      have hN14 := evalN hA14
      go_simp
      exact hK _ hS
    refine sure_nil ?_
    intro W hS
    simp only [putAll, Act.put, List.setIfInBounds_toArray, List.set_cons_zero, List.set_cons_succ]
    have HV := Lib.hid (HW.out.trans (hS.mono (by omega)))
    clear hS
    rw [show ({ data := #[104, 105, 98, 49] } : ByteArray) = ⟨[104, 105, 98, 49].toArray⟩ from rfl, cat_eq, cat_eq, cat_eq]
    go_wp2_with fail
    refine bodyPost_ret (v := S ([104, 105, 98, 49] ++ x ++ y ++ z)) (by simp [results, Tryz.results53, go_sem]) rfl ?_
    exact ⟨⟨_, by simp [lx, ly, lz], rfl⟩, by rw [HGX.out]; exact HV.out⟩
set_option maxRecDepth 100000 in
set_option maxHeartbeats 2000000 in
theorem turn_any (w : World) (s : List UInt8) (hs : s.length = 128) (i : Nat) (hi : i < 8) :
    Calls Tryz.prog 55 #[S s, .int .i64 (i : Int)] w fun e w' => (∃ h : List UInt8, h.length = 128 ∧ e = .returned (S h)) ∧ Below w.heap.size w w' := by
  go_enter Tryz.func55, Tryz.ntmps55
  go_upto_region 1 with (fail)
  have q1 : (i : Int).tdiv 8 = 0 := by rw [Int.tdiv_eq_ediv_of_nonneg (by omega)]; omega
  have q2 : (i : Int).tmod 8 = (i : Int) := by rw [Int.tmod_eq_emod_of_nonneg (by omega)]; omega
  have w0 : IntKind.i64.wrap 0 = 0 := by decide
  have w01 : IntKind.i64.wrap 1 = 1 := by decide
  have r1 := fun W => run_to_S s .i64 0 0 rfl (by omega) W
  have r2 := fun W => run_from_S s .i64 1 1 rfl (by omega) W
  have r3 := fun W => run_index_S s .i64 0 0 rfl (by omega) W
  rw [List.take_zero] at r1
  have lb : (s.drop 1).length = 127 := by rw [List.length_drop, hs]
  generalize s.drop 1 = fb at *
  generalize s.getD 0 0 = b at *
  obtain ⟨x, hzx⟩ := xor_u8 (b.toNat : Int) (IntKind.u8.wrap (2 ^ i))
  refine' wp_region_sureX (by kernel_rfl) (FreshX w 12 17 1 5 [B8 x]) 22 [some _, some _, some _, some _, some _, some _, some _, some _, some _, some _, some _, some _, none, some _, some _, some _, some _, some _, some _, some _, some _, some _] [some 5, some 6, some 7, some 8, some 9, some 10, some 11, some 12, some 13, some 14, some 15, some 16, some 17, some 18, some 19, some 20, some 21, some 22, some 23, some 24, some 25, some 4] (by kernel_rfl) (by kernel_rfl) (by kernel_rfl) (by kernel_rfl) rfl ⟨(Below.refl _ _).drew, fun h => by cases h⟩ ?hs1
  case hs1 =>
    refine sureX_cons ?_ ?_
    · intro L ac W K hLi hed hJ hX hK
      have hS := hX.1
      have hA0 : ac.eval (.tmp 0) = S s := hJ.eval_old 0 (by kernel_rfl)
      have hsz := Lib.hid hJ.size
      clear hLi hed hJ
      refine opStep_of rfl ?_
      unfold Oper.wp execOp
      have hN0 := evalN hA0
      go_simp
      refine hK _ _ ?_ (hX.step (Below.refl _ _) rfl rfl)
      exact Knows.known _
    refine sureX_cons ?_ ?_
    · intro L ac W K hLi hed hJ hX hK
      have hS := hX.1
      have hA1 : ac.eval (.tmp 1) = .int .i64 (i : Int) := hJ.eval_old 1 (by kernel_rfl)
      have hsz := Lib.hid hJ.size
      clear hLi hed hJ
      refine opStep_of rfl ?_
      unfold Oper.wp execOp
      have hN1 := evalN hA1
      go_simp
      refine hK _ _ ?_ (hX.step (Below.refl _ _) rfl rfl)
      exact Knows.known _
    refine sureX_cons ?_ ?_
    · intro L ac W K hLi hed hJ hX hK
      have hS := hX.1
      have hn := needs_spec (l := [1]) (by kernel_rfl) hed
      have hA6 := hJ.eval 1 (d := 6) (hn 1 (by simp)) rfl rfl rfl
      have hsz := Lib.hid hJ.size
      clear hLi hed hJ hn
      refine opStep_of rfl ?_
      unfold Oper.wp execOp
      have hN6 := evalN hA6
      go_simp
      refine hK _ _ ?_ (hX.step (Below.refl _ _) rfl rfl)
      exact Knows.known _
    refine sureX_cons ?_ ?_
    · intro L ac W K hLi hed hJ hX hK
      have hS := hX.1
      have hn := needs_spec (l := [0, 2]) (by kernel_rfl) hed
      have hA5 := hJ.eval 0 (d := 5) (hn 0 (by simp)) rfl rfl rfl
      have hA7 := hJ.eval 2 (d := 7) (hn 2 (by simp)) rfl rfl rfl
      have hsz := Lib.hid hJ.size
      clear hLi hed hJ hn
      refine opStep_of rfl ?_
      unfold Oper.wp execOp
      have hN5 := evalN hA5
      have hN7 := evalN hA7
      go_simp
      refine hK _ _ ?_ (hX.step (Below.refl _ _) rfl rfl)
      exact Knows.known _
    refine sureX_cons ?_ ?_
    · intro L ac W K hLi hed hJ hX hK
      have hS := hX.1
      have hA0 : ac.eval (.tmp 0) = S s := hJ.eval_old 0 (by kernel_rfl)
      have hsz := Lib.hid hJ.size
      clear hLi hed hJ
      refine opStep_of rfl ?_
      unfold Oper.wp execOp
      have hN0 := evalN hA0
      go_simp
      refine hK _ _ ?_ (hX.step (Below.refl _ _) rfl rfl)
      exact Knows.known _
    refine sureX_cons ?_ ?_
    · intro L ac W K hLi hed hJ hX hK
      have hS := hX.1
      have hA1 : ac.eval (.tmp 1) = .int .i64 (i : Int) := hJ.eval_old 1 (by kernel_rfl)
      have hsz := Lib.hid hJ.size
      clear hLi hed hJ
      refine opStep_of rfl ?_
      unfold Oper.wp execOp
      have hN1 := evalN hA1
      go_simp
      refine hK _ _ ?_ (hX.step (Below.refl _ _) rfl rfl)
      exact Knows.known _
    refine sureX_cons ?_ ?_
    · intro L ac W K hLi hed hJ hX hK
      have hS := hX.1
      have hn := needs_spec (l := [5]) (by kernel_rfl) hed
      have hA10 := hJ.eval 5 (d := 10) (hn 5 (by simp)) rfl rfl rfl
      have hsz := Lib.hid hJ.size
      clear hLi hed hJ hn
      refine opStep_of rfl ?_
      unfold Oper.wp execOp
      have hN10 := evalN hA10
      go_simp
      refine hK _ _ ?_ (hX.step (Below.refl _ _) rfl rfl)
      exact Knows.known _
    refine sureX_cons ?_ ?_
    · intro L ac W K hLi hed hJ hX hK
      have hS := hX.1
      have hn := needs_spec (l := [4, 6]) (by kernel_rfl) hed
      have hA9 := hJ.eval 4 (d := 9) (hn 4 (by simp)) rfl rfl rfl
      have hA11 := hJ.eval 6 (d := 11) (hn 6 (by simp)) rfl rfl rfl
      have hsz := Lib.hid hJ.size
      clear hLi hed hJ hn
      refine opStep_of rfl ?_
      unfold Oper.wp execOp
      have hN9 := evalN hA9
      have hN11 := evalN hA11
      go_simp
      refine hK _ _ ?_ (hX.step (Below.refl _ _) rfl rfl)
      exact Knows.known _
    refine sureX_cons ?_ ?_
    · intro L ac W K hLi hed hJ hX hK
      have hS := hX.1
      have hA1 : ac.eval (.tmp 1) = .int .i64 (i : Int) := hJ.eval_old 1 (by kernel_rfl)
      have hsz := Lib.hid hJ.size
      clear hLi hed hJ
      refine opStep_of rfl ?_
      unfold Oper.wp execOp
      have hN1 := evalN hA1
      go_simp
      refine hK _ _ ?_ (hX.step (Below.refl _ _) rfl rfl)
      exact Knows.known _
    refine sureX_cons ?_ ?_
    · intro L ac W K hLi hed hJ hX hK
      have hS := hX.1
      have hn := needs_spec (l := [8]) (by kernel_rfl) hed
      have hA13 := hJ.eval 8 (d := 13) (hn 8 (by simp)) rfl rfl rfl
      have hsz := Lib.hid hJ.size
      clear hLi hed hJ hn
      refine opStep_of rfl ?_
      unfold Oper.wp execOp
      have hN13 := evalN hA13
      go_simp
      refine hK _ _ ?_ (hX.step (Below.refl _ _) rfl rfl)
      exact Knows.known _
    refine sureX_cons ?_ ?_
    · intro L ac W K hLi hed hJ hX hK
      have hS := hX.1
      have hn := needs_spec (l := [9]) (by kernel_rfl) hed
      have hA14 := hJ.eval 9 (d := 14) (hn 9 (by simp)) rfl rfl rfl
      have hsz := Lib.hid hJ.size
      clear hLi hed hJ hn
      refine opStep_of rfl ?_
      unfold Oper.wp execOp
      have hN14 := evalN hA14
      go_simp
      refine hK _ _ ?_ (hX.step (Below.refl _ _) rfl rfl)
      exact Knows.known _
    refine sureX_cons ?_ ?_
    · intro L ac W K hLi hed hJ hX hK
      have hS := hX.1
      have hn := needs_spec (l := [7, 10]) (by kernel_rfl) hed
      have hA12 := hJ.eval 7 (d := 12) (hn 7 (by simp)) rfl rfl rfl
      have hA15 := hJ.eval 10 (d := 15) (hn 10 (by simp)) rfl rfl rfl
      have hsz := Lib.hid hJ.size
      clear hLi hed hJ hn
      refine opStep_of rfl ?_
      unfold Oper.wp execOp
      have hN12 := evalN hA12
      have hN15 := evalN hA15
      go_simp
      refine hK _ _ ?_ (hX.step (Below.refl _ _) rfl rfl)
      exact Knows.known _
    refine sureX_cons ?_ ?_
    · intro L ac W K hLi hed hJ hX hK
      have hS := hX.1
      have hn := needs_spec (l := [11]) (by kernel_rfl) hed
      have hA16 := hJ.eval 11 (d := 16) (hn 11 (by simp)) rfl rfl rfl
      have hsz := Lib.hid hJ.size
      clear hLi hed hJ hn
      refine opStep_of rfl ?_
      unfold Oper.wp execOp
      have hN16 := evalN hA16
      go_simp
      refine hK _ _ ?_ (hX.made (by rw [hsz.out]; exact of_decide_eq_true rfl))
      exact Knows.free _
    refine sureX_cons ?_ ?_
    · intro L ac W K hLi hed hJ hX hK
      have hS := hX.1
      have hn := needs_spec (l := [12]) (by kernel_rfl) hed
      obtain ⟨hg, hA17, hY⟩ := hX.2 (hn 12 (by simp))
      have hsz := Lib.hid hJ.size
      clear hLi hed hJ hn
      refine opStep_of rfl ?_
      have rc := run_str_one W ⟨hg, 0, none⟩ 1 (x.toNat : Int) x rfl (hY.cell 0)
      unfold Oper.wp execOp
      have hN17 := evalN hA17
      go_simp
      refine hK _ _ ?_ (hX.step (Below.refl _ _) rfl rfl)
      exact Knows.known _
    refine sureX_cons ?_ ?_
    · intro L ac W K hLi hed hJ hX hK
      have hS := hX.1
      have hn := needs_spec (l := [3, 13]) (by kernel_rfl) hed
      have hA8 := hJ.eval 3 (d := 8) (hn 3 (by simp)) rfl rfl rfl
      have hA18 := hJ.eval 13 (d := 18) (hn 13 (by simp)) rfl rfl rfl
      have hsz := Lib.hid hJ.size
      clear hLi hed hJ hn
      refine opStep_of rfl ?_
      unfold Oper.wp execOp
      have hN8 := evalN hA8
      have hN18 := evalN hA18
      go_simp
      refine hK _ _ ?_ (hX.step (Below.refl _ _) rfl rfl)
      exact Knows.known _
    refine sureX_cons ?_ ?_
    · intro L ac W K hLi hed hJ hX hK
      have hS := hX.1
      have hA0 : ac.eval (.tmp 0) = S s := hJ.eval_old 0 (by kernel_rfl)
      have hsz := Lib.hid hJ.size
      clear hLi hed hJ
      refine opStep_of rfl ?_
      unfold Oper.wp execOp
      have hN0 := evalN hA0
      go_simp
      refine hK _ _ ?_ (hX.step (Below.refl _ _) rfl rfl)
      exact Knows.known _
    refine sureX_cons ?_ ?_
    · intro L ac W K hLi hed hJ hX hK
      have hS := hX.1
      have hA1 : ac.eval (.tmp 1) = .int .i64 (i : Int) := hJ.eval_old 1 (by kernel_rfl)
      have hsz := Lib.hid hJ.size
      clear hLi hed hJ
      refine opStep_of rfl ?_
      unfold Oper.wp execOp
      have hN1 := evalN hA1
      go_simp
      refine hK _ _ ?_ (hX.step (Below.refl _ _) rfl rfl)
      exact Knows.known _
    refine sureX_cons ?_ ?_
    · intro L ac W K hLi hed hJ hX hK
      have hS := hX.1
      have hn := needs_spec (l := [16]) (by kernel_rfl) hed
      have hA21 := hJ.eval 16 (d := 21) (hn 16 (by simp)) rfl rfl rfl
      have hsz := Lib.hid hJ.size
      clear hLi hed hJ hn
      refine opStep_of rfl ?_
      unfold Oper.wp execOp
      have hN21 := evalN hA21
      go_simp
      refine hK _ _ ?_ (hX.step (Below.refl _ _) rfl rfl)
      exact Knows.known _
    refine sureX_cons ?_ ?_
    · intro L ac W K hLi hed hJ hX hK
      have hS := hX.1
      have hn := needs_spec (l := [17]) (by kernel_rfl) hed
      have hA22 := hJ.eval 17 (d := 22) (hn 17 (by simp)) rfl rfl rfl
      have hsz := Lib.hid hJ.size
      clear hLi hed hJ hn
      refine opStep_of rfl ?_
      unfold Oper.wp execOp
      have hN22 := evalN hA22
      go_simp
      refine hK _ _ ?_ (hX.step (Below.refl _ _) rfl rfl)
      exact Knows.known _
    refine sureX_cons ?_ ?_
    · intro L ac W K hLi hed hJ hX hK
      have hS := hX.1
      have hn := needs_spec (l := [15, 18]) (by kernel_rfl) hed
      have hA20 := hJ.eval 15 (d := 20) (hn 15 (by simp)) rfl rfl rfl
      have hA23 := hJ.eval 18 (d := 23) (hn 18 (by simp)) rfl rfl rfl
      have hsz := Lib.hid hJ.size
      clear hLi hed hJ hn
      refine opStep_of rfl ?_
      unfold Oper.wp execOp
      have hN20 := evalN hA20
      have hN23 := evalN hA23
      go_simp
      refine hK _ _ ?_ (hX.step (Below.refl _ _) rfl rfl)
      exact Knows.known _
    refine sureX_cons ?_ ?_
    · intro L ac W K hLi hed hJ hX hK
      have hS := hX.1
      have hn := needs_spec (l := [14, 19]) (by kernel_rfl) hed
      have hA19 := hJ.eval 14 (d := 19) (hn 14 (by simp)) rfl rfl rfl
      have hA24 := hJ.eval 19 (d := 24) (hn 19 (by simp)) rfl rfl rfl
      have hsz := Lib.hid hJ.size
      clear hLi hed hJ hn
      refine opStep_of rfl ?_
      unfold Oper.wp execOp
      have hN19 := evalN hA19
      have hN24 := evalN hA24
      go_simp
      refine hK _ _ ?_ (hX.step (Below.refl _ _) rfl rfl)
      exact Knows.known _
    refine sureX_cons ?_ ?_
    · intro L ac W K hLi hed hJ hX hK
      have hS := hX.1
      have hn := needs_spec (l := [20]) (by kernel_rfl) hed
      have hA25 := hJ.eval 20 (d := 25) (hn 20 (by simp)) rfl rfl rfl
      have hsz := Lib.hid hJ.size
      clear hLi hed hJ hn
      refine opStep_of rfl ?_
      unfold Oper.wp execOp
      have hN25 := evalN hA25
      go_simp
      refine hK _ _ ?_ (hX.step (Below.refl _ _) rfl rfl)
      exact Knows.known _
    refine sureX_nil ?_
    intro L ac W hL hX ha
    have hS := hX.1
    rw [ha]
    simp only [mendAll, Option.getD_some, Option.getD_none, Option.map_some, putAll, Act.put, List.setIfInBounds_toArray, List.set_cons_zero, List.set_cons_succ]
    generalize ac.tmps.getD 17 undef = us
    clear ha hX hL
    have HV := Lib.hid hS
    clear hS
    have e : ({ data := #[] } ++ { data := #[x] } ++ { data := fb.toArray } : ByteArray) = ⟨(([] ++ [x]) ++ fb).toArray⟩ := by rw [← cat_eq, ← cat_eq]
    rw [e]
    go_wp2_with fail
    refine bodyPost_ret (v := S (([] ++ [x]) ++ fb)) (by simp [results, Tryz.results55, go_sem]) rfl ?_
    exact ⟨⟨_, by simp [lb], rfl⟩, HV.out⟩
set_option maxRecDepth 100000 in
set_option maxHeartbeats 4000000 in
theorem format17 (w : World) :
    Calls Tryz.prog 27 #[.int .i64 24, .int .i64 6] w fun e w' => (∃ A c l, e = .returned (.tuple #[.slice A 24 c, .int .i64 0]) ∧ l.length = 24 ∧ (∀ x ∈ l, x.length = 128) ∧ Strs w' w'.heap.size A l) ∧ Below w.heap.size w w' := by
  obtain ⟨i0, hi0, hz0, hz1, hz2⟩ := info_parts Tryz.infoStr'
  have CP := Lib.hid (plan_small w)
  have SZG : Hid ((Tryz.prog.info? 97).map (fun i => (i.zero, i.size)) = some (some (.agg #[.int .i64 0, .int .i64 0, .int .i64 0, .int .i64 0, .int .i64 0, .int .i64 0]), 6)) := Lib.hid Tryz.infoGeo
  go_enter Tryz.func27, Tryz.ntmps27
  go_wp2_with fail
  refine CP.out.mono ?_
  rintro e w1 ⟨rfl, hb⟩
  have HG := Lib.hid (Whole.made w1 97 [.int .i64 24, .int .i64 6, .int .i64 1, .int .i64 2, .int .i64 3, .int .i64 6].toArray)
  have HB := Lib.hid (hb.alloc hb.size (.cells [.int .i64 24, .int .i64 6, .int .i64 1, .int .i64 2, .int .i64 3, .int .i64 6].toArray 97))
  have hg1 : w.heap.size ≤ w1.heap.size := hb.size
  clear hb CP
  go_upto_region 4 with (refine wpList_fresh rfl rfl 97 6 (.tmp 15) rfl rfl rfl rfl [.int .i64 24, .int .i64 6, .int .i64 1, .int .i64 2, .int .i64 3, .int .i64 6] rfl rfl _ SZG.out rfl (by intro v hv; simp at hv; rcases hv with rfl | rfl | rfl | rfl | rfl | rfl <;> rfl) ?_)
  change Code.wp _ _ _ _ (w1.alloc (.cells [.int .i64 24, .int .i64 6, .int .i64 1, .int .i64 2, .int .i64 3, .int .i64 6].toArray 97))
  generalize w1.alloc (.cells [.int .i64 24, .int .i64 6, .int .i64 1, .int .i64 2, .int .i64 3, .int .i64 6].toArray 97) = w2 at *
  generalize w1.heap.size = g6 at *
  have CH := Lib.hid (head_small w2)
  have LG := Lib.hid HG.out.reads
  have hg2 : g6 < w2.heap.size := HG.out.lt
  clear SZG
  go_wp2_with (refine wpList_load_at rfl 97 (.tmp 6) rfl ⟨g6, 0, none⟩ rfl [.int .i64 24, .int .i64 6, .int .i64 1, .int .i64 2, .int .i64 3, .int .i64 6] _ LG.out Tryz.underlying97 rfl Tryz.sizeGeo ?_)
  refine CH.out.mono ?_
  rintro e w3 ⟨⟨h0, hl0, rfl⟩, hb⟩
  have HO3 : Hid (OwnS (w3.alloc (.cells #[S h0] 9)) w2.heap.size (.slice (some ⟨w3.heap.size, 0, none⟩) 1 1) [h0]) := Lib.hid (World.ownsRow_lit w3 #[S h0] 1 (by have := hb.size; omega) (by unfold maxLen; omega) rfl)
  have HB3 := Lib.hid (hb.alloc hb.size (.cells #[S h0] 9))
  have HL0 := Lib.hid hl0
  clear hb CH LG hl0
  go_wp2_with fail
  go_loopw [8, 9] (fun v i wr => ∃ ll : List (List UInt8), 1 ≤ ll.length ∧ ll.length ≤ 24 ∧ i = .int .i64 (ll.length : Int) ∧ Hid (OwnS wr w2.heap.size v ll) ∧ Hid (∀ x ∈ ll, x.length = 128) ∧ Hid (Below w2.heap.size w2 wr)) (fun _ i _ => 24 - (intOf i).toNat)
  case atStart => exact ⟨[h0], by simp, by simp, rfl, HO3, Lib.hid (by intro x hx; rw [List.mem_singleton.1 hx]; exact HL0.out), HB3⟩
  case round =>
    clear HO3 HB3
    obtain ⟨l, h1, h24, rfl, HO, HA, HV⟩ := hrel
    by_cases hlt : l.length < 24
    · have e1 : decide ((l.length : Int) < 24) = true := decide_eq_true (by omega)
      have e1' : decide (l.length < 24) = true := decide_eq_true hlt
      have CZ := Lib.hid (zeros17_any wr 128 (by decide))
      have lz : (List.replicate 128 (0 : UInt8)).length = 128 := List.length_replicate
      generalize List.replicate 128 (0 : UInt8) = zr at *
      have HZL := Lib.hid lz
      have hgw : w2.heap.size ≤ wr.heap.size := HV.out.size
      have H63 : Hid (l.length + 1 ≤ maxLen) := Lib.hid (by unfold maxLen; omega)
      have HBY : Hid ((l.length + 1) * 16 ≤ 140737488355328) := Lib.hid (by omega)
      have HNW : Hid (∀ i u, [S zr][i]? = some u → (wr.alloc (.cells #[S zr] 9)).cell? ((⟨wr.heap.size, 0, none⟩ : Addr).add i) = some u) := Lib.hid (Whole.made wr 9 [S zr].toArray).reads
      have H1 : Hid (∀ u ∈ [S zr], u.oneCell' = true) := Lib.hid (by simp [Value.oneCell'])
      have HBA : Hid (w2.heap.size ≤ (wr.alloc (.cells #[S zr] 9)).heap.size) := Lib.hid (by simp; omega)
      have HOA := Lib.hid (HO.out.alloc (.cells #[S zr] 9))
      have HVA := Lib.hid (HV.out.alloc HV.out.size (.cells #[S zr] 9))
      clear HO HV lz
      go_wp2_with fail
      refine CZ.out.mono ?_
      rintro e wz ⟨rfl, hwz⟩
      obtain rfl := hwz
      clear CZ
      go_wp2_with (at_builtin; refine wpList_append_own _ rfl (.tmp 28) (.tmp 30) 22 rfl w2.heap.size 9 i0 _ 1 16 Tryz.underlying22 hi0 hz0 hz1 hz2 rfl (by decide) _ _ _ rfl HOA.out ⟨wz.heap.size, 0, none⟩ 1 1 [S zr] rfl rfl HNW.out H1.out H63.out HBY.out HBA.out ?_; intro v' w5 hown' hgrow _)
      have HO5 : Hid (OwnS w5 w2.heap.size v' (l ++ [zr])) := Lib.hid (by unfold OwnS; rw [List.length_append, List.map_append]; exact hown')
      have HV5 := Lib.hid (HVA.out.grown hgrow HBA.out (own_ge' HOA.out))
      clear hown' hgrow HOA HVA HNW H1 H63 HBY HBA
      have hll : (l ++ [zr]).length = l.length + 1 := by simp
      go_wp2_with fail
      go_roundw
      case rel =>
        have R : ∃ ll : List (List UInt8), 1 ≤ ll.length ∧ ll.length ≤ 24 ∧ Value.int .i64 ((l.length : Int) + 1) = .int .i64 (ll.length : Int) ∧ Hid (OwnS w5 w2.heap.size v' ll) ∧ Hid (∀ x ∈ ll, x.length = 128) ∧ Hid (Below w2.heap.size w2 w5) := ⟨l ++ [zr], by omega, by omega, by rw [hll]; go_num, HO5, Lib.hid (fun x hx => (List.mem_append.1 hx).elim (HA.out x) (fun h => by rw [List.mem_singleton.1 h]; exact HZL.out)), HV5⟩
        first | exact R | ((repeat apply Exists.intro); exact ⟨R, rfl⟩)
      case measure => simp [intOf]; omega
    · have HLL : Hid (l.length = 24) := Lib.hid (by omega)
      have HLE := HLL
      have e1 : decide ((l.length : Int) < 24) = false := decide_eq_false (by omega)
      have e1' : decide (l.length < 24) = false := decide_eq_false hlt
      obtain ⟨gL, cL, z, hvv, hgL, hWL, hcL⟩ := own_strs HO.out (by intro e; rw [e] at h1; simp at h1)
      subst hvv
      have HWL := Lib.hid hWL
      have HCL := Lib.hid hcL
      clear HO hWL hcL
      go_upto_region 10 with (fail)
      clear e1 e1'
      go_loopw [10] (fun i wr => ∃ (jj : Nat) (ll : List (List UInt8)), jj ≤ 6 ∧ i = .int .i64 (jj : Int) ∧ Hid (ll.length = 24) ∧ Hid (∀ x ∈ ll, x.length = 128) ∧ Hid (Whole wr gL 9 (ll.map S ++ z).toArray) ∧ Hid (Below w2.heap.size w2 wr)) (fun i _ => 6 - (intOf i).toNat)
      case atStart => exact ⟨0, l, by decide, rfl, HLL, HA, HWL, HV⟩
      case round =>
        clear HA HV HLL HWL
        obtain ⟨k, m, hk, rfl, HLL, HA, HWL, HV⟩ := hrel
        have c6 : wr.cell? ⟨g6, 5, none⟩ = some (.int .i64 6) := (HG.out.below HV.out hg2).cell 5
        have h2m : 2 < m.length := by rw [HLL.out]; decide
        by_cases hlt : k < 6
        · have e1 : decide ((k : Int) < 6) = true := decide_eq_true (by omega)
          have e1' : decide (k < 6) = true := decide_eq_true hlt
          obtain ⟨x2, hx2⟩ := get_some h2m
          have cL2 : wr.cell? ⟨gL, 2, none⟩ = some (S x2) := by
            rw [HWL.out.cell, List.getElem?_toArray, List.getElem?_append_left (by simpa using h2m), List.getElem?_map, hx2]; rfl
          have CT := Lib.hid (turn_any wr x2 (HA.out x2 (List.mem_of_getElem? hx2)) k (by omega))
          have hgl : 2 < (24 : Int) := by decide
          clear hx2
          rw [show l.length = 24 from HLE.out]
          go_wp2_with fail
          refine CT.out.mono ?_
          rintro e w5 ⟨⟨h, hh, rfl⟩, hb⟩
          have HW5 := Lib.hid (HWL.out.below hb HWL.out.lt)
          have HV5 := Lib.hid (HV.out.trans (hb.mono HV.out.size))
          have cL2 : w5.cell? ⟨gL, 2, none⟩ = some (S x2) := (hb.cell (p := ⟨gL, 2, none⟩) HWL.out.lt).trans cL2
          have yL2 := HW5.out.free 2
          have HHH := Lib.hid hh
          have HW6 : Hid (Whole (w5.setCell ⟨gL, 2, none⟩ (S h)) gL 9 ((m.set 2 h).map S ++ z).toArray) := Lib.hid (by
            have := HW5.out.set 2 (S h)
            rwa [List.setIfInBounds_toArray, set_strs h2m] at this)
          have HV6 := Lib.hid (HV5.out.setCell (p := ⟨gL, 2, none⟩) hgL (S h))
          clear hb CT HWL HV hh c6
          go_wp2_with fail
          go_roundw
          case rel =>
            have R : ∃ (jj : Nat) (ll : List (List UInt8)), jj ≤ 6 ∧ Value.int .i64 ((k : Int) + 1) = .int .i64 (jj : Int) ∧ Hid (ll.length = 24) ∧ Hid (∀ x ∈ ll, x.length = 128) ∧ Hid (Whole (w5.setCell ⟨gL, 2, none⟩ (S h)) gL 9 (ll.map S ++ z).toArray) ∧ Hid (Below w2.heap.size w2 (w5.setCell ⟨gL, 2, none⟩ (S h))) := ⟨k + 1, m.set 2 h, by omega, by go_num, Lib.hid (by rw [List.length_set]; exact HLL.out), Lib.hid (fun x hx => (List.mem_or_eq_of_mem_set hx).elim (HA.out x) (fun e => e ▸ HHH.out)), HW6, HV6⟩
            first | exact R | ((repeat apply Exists.intro); exact ⟨R, rfl⟩)
          case measure => simp [intOf]; omega
        · obtain rfl : k = 6 := by omega
          rw [show ((6 : Nat) : Int) = 6 from rfl]
          go_wp2_with fail
          refine bodyPost_ret (v := .tuple #[.slice (some ⟨gL, 0, none⟩) l.length cL, .int .i64 0]) (by simp [results, Tryz.results27, go_sem]) rfl ?_
          refine ⟨⟨_, cL, m, by rw [HLE.out], HLL.out, HA.out, fun j v hv => ⟨_, rfl, HWL.out.lt, HWL.out.reads j v (by rw [List.getElem?_append_left (List.getElem?_eq_some_iff.1 hv).1]; exact hv)⟩⟩, HB.out.trans (HV.out.mono (by omega))⟩
end Go.Proofs.YtdhfblfnejmeiaaGreatDoor
