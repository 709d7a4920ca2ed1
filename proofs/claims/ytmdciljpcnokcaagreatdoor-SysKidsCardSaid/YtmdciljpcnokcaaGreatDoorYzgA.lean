/-
  Walks: geom.Plan, bit; hibernacleref17.Plan, Zeros, bit. (Printed by gen_geom.py.)
-/
import Derived.Test.YtmdciljpcnokcaaGreatDoorVolA
import Derived.Test.YtmdciljpcnokcaaGreatDoorYzD
import Derived.Test.YtmdciljpcnokcaaGreatDoorShelfB
namespace Go.Proofs.YtmdciljpcnokcaaGreatDoor
open Go.RowKit
attribute [local go_sem] concat_S

set_option maxRecDepth 100000 in
set_option maxHeartbeats 1000000 in
theorem plan_any (w : World) (b i : Int) :
    Calls Tryz.prog 283 #[.int .i64 b, .int .i64 i] w fun e w' => e = .returned (.tuple #[.agg (geoV (planL b i)).toArray, .int .i64 (planE b i)]) ∧ Below w.heap.size w w' := by
  by_cases h : 16 ≤ b ∧ b ≤ 223 ∧ 4 ≤ i ∧ i ≤ 64
  · obtain ⟨h1, h2, h3, h4⟩ := h
    have d1 : decide (b < 16) = false := decide_eq_false (by omega)
    have d2 : decide (223 < b) = false := decide_eq_false (by omega)
    have d3 : decide (i < 4) = false := decide_eq_false (by omega)
    have d4 : decide (64 < i) = false := decide_eq_false (by omega)
    have m2 : (i + 1).tdiv 2 = (i + 1) / 2 := Int.tdiv_eq_ediv_of_nonneg (by omega)
    by_cases h5 : b ≤ 3 + (i + 1) / 2
    · have HE : Hid (planE b i = 10 ∧ planL b i = geo0) := Lib.hid (by
        have : planE b i = 10 := by unfold planE; rw [if_neg (by omega), if_pos h5]
        exact ⟨this, by unfold planL; rw [if_neg (by rw [this]; decide)]⟩)
      have d5 : decide (b ≤ 3 + (i + 1) / 2) = true := decide_eq_true h5
      clear h5
      go_enter Tryz.func283, Tryz.ntmps283
      go_wp2_with fail
      refine bodyPost_ret (v := .tuple #[.agg #[.int .i64 0, .int .i64 0, .int .i64 0, .int .i64 0, .int .i64 0, .int .i64 0], .int .i64 10]) (by simp [results, Tryz.results283, go_sem]) rfl ⟨by rw [HE.out.1, HE.out.2]; rfl, by first | exact (Below.refl _ _).alloc (Nat.le_refl _) _ | exact ((Below.refl _ _).alloc (Nat.le_refl _) _).alloc (by simp) _⟩
    · have HE : Hid (planE b i = 0 ∧ planL b i = [b, i, 1, 2, 3, 3 + (i + 1) / 2]) := Lib.hid (by
        have : planE b i = 0 := by unfold planE; rw [if_neg (by omega), if_neg h5]
        exact ⟨this, by unfold planL; rw [if_pos this]⟩)
      have d5 : decide (b ≤ 3 + (i + 1) / 2) = false := decide_eq_false h5
      clear h5
      go_enter Tryz.func283, Tryz.ntmps283
      go_wp2_with fail
      refine bodyPost_ret (v := .tuple #[.agg #[.int .i64 b, .int .i64 i, .int .i64 1, .int .i64 2, .int .i64 3, .int .i64 (3 + (i + 1) / 2)], .int .i64 0]) (by simp [results, Tryz.results283, go_sem]) rfl ⟨by rw [HE.out.1, HE.out.2]; rfl, by first | exact (Below.refl _ _).alloc (Nat.le_refl _) _ | exact ((Below.refl _ _).alloc (Nat.le_refl _) _).alloc (by simp) _⟩
  · have HE : Hid (planE b i = 2 ∧ planL b i = geo0) := Lib.hid (by
      have : planE b i = 2 := by unfold planE; rw [if_pos (by omega)]
      exact ⟨this, by unfold planL; rw [if_neg (by rw [this]; decide)]⟩)
    have HQ := Lib.hid h
    clear h
    have hz : planE b i = planE b i := rfl
    clear hz
    by_cases h1 : b < 16
    · have d1 : decide (b < 16) = true := decide_eq_true h1
      clear h1
      go_enter Tryz.func283, Tryz.ntmps283
      go_wp2_with fail
      refine bodyPost_ret (v := .tuple #[.agg #[.int .i64 0, .int .i64 0, .int .i64 0, .int .i64 0, .int .i64 0, .int .i64 0], .int .i64 2]) (by simp [results, Tryz.results283, go_sem]) rfl ⟨by rw [HE.out.1, HE.out.2]; rfl, by first | exact (Below.refl _ _).alloc (Nat.le_refl _) _ | exact ((Below.refl _ _).alloc (Nat.le_refl _) _).alloc (by simp) _⟩
    have d1 : decide (b < 16) = false := decide_eq_false h1
    by_cases h2 : 223 < b
    · have d2 : decide (223 < b) = true := decide_eq_true h2
      clear h1 h2
      go_enter Tryz.func283, Tryz.ntmps283
      go_wp2_with fail
      refine bodyPost_ret (v := .tuple #[.agg #[.int .i64 0, .int .i64 0, .int .i64 0, .int .i64 0, .int .i64 0, .int .i64 0], .int .i64 2]) (by simp [results, Tryz.results283, go_sem]) rfl ⟨by rw [HE.out.1, HE.out.2]; rfl, by first | exact (Below.refl _ _).alloc (Nat.le_refl _) _ | exact ((Below.refl _ _).alloc (Nat.le_refl _) _).alloc (by simp) _⟩
    have d2 : decide (223 < b) = false := decide_eq_false h2
    by_cases h3 : i < 4
    · have d3 : decide (i < 4) = true := decide_eq_true h3
      clear h1 h2 h3
      go_enter Tryz.func283, Tryz.ntmps283
      go_wp2_with fail
      refine bodyPost_ret (v := .tuple #[.agg #[.int .i64 0, .int .i64 0, .int .i64 0, .int .i64 0, .int .i64 0, .int .i64 0], .int .i64 2]) (by simp [results, Tryz.results283, go_sem]) rfl ⟨by rw [HE.out.1, HE.out.2]; rfl, by first | exact (Below.refl _ _).alloc (Nat.le_refl _) _ | exact ((Below.refl _ _).alloc (Nat.le_refl _) _).alloc (by simp) _⟩
    have d3 : decide (i < 4) = false := decide_eq_false h3
    have h4 : 64 < i := by have := HQ.out; omega
    have d4 : decide (64 < i) = true := decide_eq_true h4
    clear h1 h2 h3 h4
    go_enter Tryz.func283, Tryz.ntmps283
    go_wp2_with fail
    refine bodyPost_ret (v := .tuple #[.agg #[.int .i64 0, .int .i64 0, .int .i64 0, .int .i64 0, .int .i64 0, .int .i64 0], .int .i64 2]) (by simp [results, Tryz.results283, go_sem]) rfl ⟨by rw [HE.out.1, HE.out.2]; rfl, by first | exact (Below.refl _ _).alloc (Nat.le_refl _) _ | exact ((Below.refl _ _).alloc (Nat.le_refl _) _).alloc (by simp) _⟩
set_option maxRecDepth 100000 in
set_option maxHeartbeats 1000000 in
theorem rplan_any (w : World) (b i : Int) :
    Calls Tryz.prog 53 #[.int .i64 b, .int .i64 i] w fun e w' => e = .returned (.tuple #[.agg (geoV (planL b i)).toArray, .int .i64 (planE b i)]) ∧ Below w.heap.size w w' := by
  by_cases h : 16 ≤ b ∧ b ≤ 223 ∧ 4 ≤ i ∧ i ≤ 64
  · obtain ⟨h1, h2, h3, h4⟩ := h
    have d1 : decide (b < 16) = false := decide_eq_false (by omega)
    have d2 : decide (223 < b) = false := decide_eq_false (by omega)
    have d3 : decide (i < 4) = false := decide_eq_false (by omega)
    have d4 : decide (64 < i) = false := decide_eq_false (by omega)
    have m2 : (i + 1).tdiv 2 = (i + 1) / 2 := Int.tdiv_eq_ediv_of_nonneg (by omega)
    by_cases h5 : b ≤ 3 + (i + 1) / 2
    · have HE : Hid (planE b i = 10 ∧ planL b i = geo0) := Lib.hid (by
        have : planE b i = 10 := by unfold planE; rw [if_neg (by omega), if_pos h5]
        exact ⟨this, by unfold planL; rw [if_neg (by rw [this]; decide)]⟩)
      have d5 : decide (b ≤ 3 + (i + 1) / 2) = true := decide_eq_true h5
      clear h5
      go_enter Tryz.func53, Tryz.ntmps53
      go_wp2_with fail
      refine bodyPost_ret (v := .tuple #[.agg #[.int .i64 0, .int .i64 0, .int .i64 0, .int .i64 0, .int .i64 0, .int .i64 0], .int .i64 10]) (by simp [results, Tryz.results53, go_sem]) rfl ⟨by rw [HE.out.1, HE.out.2]; rfl, by first | exact (Below.refl _ _).alloc (Nat.le_refl _) _ | exact ((Below.refl _ _).alloc (Nat.le_refl _) _).alloc (by simp) _⟩
    · have HE : Hid (planE b i = 0 ∧ planL b i = [b, i, 1, 2, 3, 3 + (i + 1) / 2]) := Lib.hid (by
        have : planE b i = 0 := by unfold planE; rw [if_neg (by omega), if_neg h5]
        exact ⟨this, by unfold planL; rw [if_pos this]⟩)
      have d5 : decide (b ≤ 3 + (i + 1) / 2) = false := decide_eq_false h5
      clear h5
      go_enter Tryz.func53, Tryz.ntmps53
      go_wp2_with fail
      refine bodyPost_ret (v := .tuple #[.agg #[.int .i64 b, .int .i64 i, .int .i64 1, .int .i64 2, .int .i64 3, .int .i64 (3 + (i + 1) / 2)], .int .i64 0]) (by simp [results, Tryz.results53, go_sem]) rfl ⟨by rw [HE.out.1, HE.out.2]; rfl, by first | exact (Below.refl _ _).alloc (Nat.le_refl _) _ | exact ((Below.refl _ _).alloc (Nat.le_refl _) _).alloc (by simp) _⟩
  · have HE : Hid (planE b i = 2 ∧ planL b i = geo0) := Lib.hid (by
      have : planE b i = 2 := by unfold planE; rw [if_pos (by omega)]
      exact ⟨this, by unfold planL; rw [if_neg (by rw [this]; decide)]⟩)
    have HQ := Lib.hid h
    clear h
    have hz : planE b i = planE b i := rfl
    clear hz
    by_cases h1 : b < 16
    · have d1 : decide (b < 16) = true := decide_eq_true h1
      clear h1
      go_enter Tryz.func53, Tryz.ntmps53
      go_wp2_with fail
      refine bodyPost_ret (v := .tuple #[.agg #[.int .i64 0, .int .i64 0, .int .i64 0, .int .i64 0, .int .i64 0, .int .i64 0], .int .i64 2]) (by simp [results, Tryz.results53, go_sem]) rfl ⟨by rw [HE.out.1, HE.out.2]; rfl, by first | exact (Below.refl _ _).alloc (Nat.le_refl _) _ | exact ((Below.refl _ _).alloc (Nat.le_refl _) _).alloc (by simp) _⟩
    have d1 : decide (b < 16) = false := decide_eq_false h1
    by_cases h2 : 223 < b
    · have d2 : decide (223 < b) = true := decide_eq_true h2
      clear h1 h2
      go_enter Tryz.func53, Tryz.ntmps53
      go_wp2_with fail
      refine bodyPost_ret (v := .tuple #[.agg #[.int .i64 0, .int .i64 0, .int .i64 0, .int .i64 0, .int .i64 0, .int .i64 0], .int .i64 2]) (by simp [results, Tryz.results53, go_sem]) rfl ⟨by rw [HE.out.1, HE.out.2]; rfl, by first | exact (Below.refl _ _).alloc (Nat.le_refl _) _ | exact ((Below.refl _ _).alloc (Nat.le_refl _) _).alloc (by simp) _⟩
    have d2 : decide (223 < b) = false := decide_eq_false h2
    by_cases h3 : i < 4
    · have d3 : decide (i < 4) = true := decide_eq_true h3
      clear h1 h2 h3
      go_enter Tryz.func53, Tryz.ntmps53
      go_wp2_with fail
      refine bodyPost_ret (v := .tuple #[.agg #[.int .i64 0, .int .i64 0, .int .i64 0, .int .i64 0, .int .i64 0, .int .i64 0], .int .i64 2]) (by simp [results, Tryz.results53, go_sem]) rfl ⟨by rw [HE.out.1, HE.out.2]; rfl, by first | exact (Below.refl _ _).alloc (Nat.le_refl _) _ | exact ((Below.refl _ _).alloc (Nat.le_refl _) _).alloc (by simp) _⟩
    have d3 : decide (i < 4) = false := decide_eq_false h3
    have h4 : 64 < i := by have := HQ.out; omega
    have d4 : decide (64 < i) = true := decide_eq_true h4
    clear h1 h2 h3 h4
    go_enter Tryz.func53, Tryz.ntmps53
    go_wp2_with fail
    refine bodyPost_ret (v := .tuple #[.agg #[.int .i64 0, .int .i64 0, .int .i64 0, .int .i64 0, .int .i64 0, .int .i64 0], .int .i64 2]) (by simp [results, Tryz.results53, go_sem]) rfl ⟨by rw [HE.out.1, HE.out.2]; rfl, by first | exact (Below.refl _ _).alloc (Nat.le_refl _) _ | exact ((Below.refl _ _).alloc (Nat.le_refl _) _).alloc (by simp) _⟩
set_option maxRecDepth 100000 in
set_option maxHeartbeats 1000000 in
theorem zeros17_any (w : World) (n : Nat) (hn : n ≤ 1073741824) :
    Calls Tryz.prog 55 #[.int .i64 (n : Int)] w fun e w' => e = .returned (S (List.replicate n 0)) ∧ w' = w := by
  go_enter Tryz.func55, Tryz.ntmps55
  go_wp2_with fail
  go_loop [3, 4] (fun s i => ∃ k : Nat, k ≤ n ∧ i = .int .i64 (k : Int) ∧ s = S (List.replicate k 0)) (fun _ i => n - (intOf i).toNat)
  case atStart => exact ⟨0, by omega, rfl, rfl⟩
  case round =>
    obtain ⟨k, hk, rfl, rfl⟩ := hrel
    by_cases hlt : k < n
    · have d1 : decide ((k : Int) < (n : Int)) = true := decide_eq_true (by omega)
      have d1' : decide (k < n) = true := decide_eq_true hlt
      have hno : ¬ (9223372036854775807 < (List.replicate k (0 : UInt8)).length + [(0 : UInt8)].length) := by simp; omega
      have HS : Hid (List.replicate (k + 1) (0 : UInt8) = List.replicate k 0 ++ [0]) := Lib.hid List.replicate_succ'
      generalize List.replicate k (0 : UInt8) = s at *
      go_wp2_with fail
      go_round
      case rel => exact ⟨k + 1, by omega, by go_num, by rw [HS.out]⟩
      case measure => simp [intOf]; omega
    · obtain rfl : k = n := by omega
      have d1 : decide ((k : Int) < (k : Int)) = false := by simp
      have d1' : decide (k < k) = false := by simp
      go_wp2_with fail
      go_ret
      exact ⟨rfl, rfl⟩
theorem and1_u8 (x : Nat) (hx : x < 256) : bits .and .u8 (x : Int) 1 = ((x % 2 : Nat) : Int) := by
  have := u8_and_nat x 1 hx (by omega)
  have e : x &&& 1 = x % 2 := Nat.and_one_is_mod x
  rw [e] at this
  exact this
set_option maxRecDepth 100000 in
set_option maxHeartbeats 1000000 in
theorem bit_any (w : World) (A : Option Addr) (c n : Nat) (s : List UInt8) (i : Nat) (hA : ∃ ad, A = some ad ∧ w.cell? ⟨ad.block, ad.off + 2, none⟩ = some (S s)) (hn : 3 ≤ n) (hs : s.length = 128) (hi : i < 1024) :
    Calls Tryz.prog 285 #[.slice A n c, .int .i64 (i : Int)] w fun e w' => e = .returned (.bool (bitB s i)) ∧ w' = w := by
  obtain ⟨ad, rfl, c2⟩ := hA
  have a0 : (2 : Int) < (n : Int) := by omega
  have hq : i / 8 < s.length := by omega
  have HB : Hid (bitB s i = ((s.getD (i / 8) 0).toNat / 2 ^ (i % 8) % 2 == 1)) := Lib.hid rfl
  obtain ⟨c, HC⟩ : ∃ z, Hid (s.getD (i / 8) 0 = z) := ⟨_, Lib.hid rfl⟩
  have xi := run_index_S s .i64 ((i : Int) / 8) (i / 8) (by omega) hq
  rw [HC.out] at xi HB
  have hcl := c.toNat_lt
  have m1 : (i : Int).tdiv 8 = (i : Int) / 8 := Int.tdiv_eq_ediv_of_nonneg (by omega)
  have m2 : (i : Int).tmod 8 = (i : Int) % 8 := Int.tmod_eq_emod_of_nonneg (by omega)
  have hr : i % 8 = 0 ∨ i % 8 = 1 ∨ i % 8 = 2 ∨ i % 8 = 3 ∨ i % 8 = 4 ∨ i % 8 = 5 ∨ i % 8 = 6 ∨ i % 8 = 7 := by omega
  have e0 : (0 : Int) ≤ (i : Int) := by omega
  clear hq
  rcases hr with hr | hr | hr | hr | hr | hr | hr | hr
  · have m3 : (i : Int) % 8 = 0 := by omega
    rw [hr] at HB
    have ha : bits .and .u8 ((c.toNat : Int)) 1 = ((c.toNat % 2 : Nat) : Int) := by
      have h := and1_u8 (c.toNat) (by omega)
      rw [← h]
    have HB' : Hid (bitB s i = (((c.toNat % 2 : Nat) : Int) == 1)) := Lib.hid (by
      rw [HB.out, Bool.eq_iff_iff]
      simp only [beq_iff_eq, Nat.pow_zero, Nat.div_one]
      omega)
    clear hr HB
    generalize ((c.toNat % 2 : Nat) : Int) = z at *
    go_enter Tryz.func285, Tryz.ntmps285
    go_wp2_with fail
    go_ret
    exact ⟨ret_bool HB'.out.symm, rfl⟩
  · have m3 : (i : Int) % 8 = 1 := by omega
    rw [hr] at HB
    have ha : bits .and .u8 ((c.toNat : Int) / 2) 1 = ((c.toNat / 2 % 2 : Nat) : Int) := by
      have h := and1_u8 (c.toNat / 2) (by omega)
      rw [← h]
      congr 1
    have HB' : Hid (bitB s i = (((c.toNat / 2 % 2 : Nat) : Int) == 1)) := Lib.hid (by
      rw [HB.out, Bool.eq_iff_iff]
      simp only [beq_iff_eq, Nat.reducePow]
      omega)
    clear hr HB
    generalize ((c.toNat / 2 % 2 : Nat) : Int) = z at *
    go_enter Tryz.func285, Tryz.ntmps285
    go_wp2_with fail
    go_ret
    exact ⟨ret_bool HB'.out.symm, rfl⟩
  · have m3 : (i : Int) % 8 = 2 := by omega
    rw [hr] at HB
    have ha : bits .and .u8 ((c.toNat : Int) / 4) 1 = ((c.toNat / 4 % 2 : Nat) : Int) := by
      have h := and1_u8 (c.toNat / 4) (by omega)
      rw [← h]
      congr 1
    have HB' : Hid (bitB s i = (((c.toNat / 4 % 2 : Nat) : Int) == 1)) := Lib.hid (by
      rw [HB.out, Bool.eq_iff_iff]
      simp only [beq_iff_eq, Nat.reducePow]
      omega)
    clear hr HB
    generalize ((c.toNat / 4 % 2 : Nat) : Int) = z at *
    go_enter Tryz.func285, Tryz.ntmps285
    go_wp2_with fail
    go_ret
    exact ⟨ret_bool HB'.out.symm, rfl⟩
  · have m3 : (i : Int) % 8 = 3 := by omega
    rw [hr] at HB
    have ha : bits .and .u8 ((c.toNat : Int) / 8) 1 = ((c.toNat / 8 % 2 : Nat) : Int) := by
      have h := and1_u8 (c.toNat / 8) (by omega)
      rw [← h]
      congr 1
    have HB' : Hid (bitB s i = (((c.toNat / 8 % 2 : Nat) : Int) == 1)) := Lib.hid (by
      rw [HB.out, Bool.eq_iff_iff]
      simp only [beq_iff_eq, Nat.reducePow]
      omega)
    clear hr HB
    generalize ((c.toNat / 8 % 2 : Nat) : Int) = z at *
    go_enter Tryz.func285, Tryz.ntmps285
    go_wp2_with fail
    go_ret
    exact ⟨ret_bool HB'.out.symm, rfl⟩
  · have m3 : (i : Int) % 8 = 4 := by omega
    rw [hr] at HB
    have ha : bits .and .u8 ((c.toNat : Int) / 16) 1 = ((c.toNat / 16 % 2 : Nat) : Int) := by
      have h := and1_u8 (c.toNat / 16) (by omega)
      rw [← h]
      congr 1
    have HB' : Hid (bitB s i = (((c.toNat / 16 % 2 : Nat) : Int) == 1)) := Lib.hid (by
      rw [HB.out, Bool.eq_iff_iff]
      simp only [beq_iff_eq, Nat.reducePow]
      omega)
    clear hr HB
    generalize ((c.toNat / 16 % 2 : Nat) : Int) = z at *
    go_enter Tryz.func285, Tryz.ntmps285
    go_wp2_with fail
    go_ret
    exact ⟨ret_bool HB'.out.symm, rfl⟩
  · have m3 : (i : Int) % 8 = 5 := by omega
    rw [hr] at HB
    have ha : bits .and .u8 ((c.toNat : Int) / 32) 1 = ((c.toNat / 32 % 2 : Nat) : Int) := by
      have h := and1_u8 (c.toNat / 32) (by omega)
      rw [← h]
      congr 1
    have HB' : Hid (bitB s i = (((c.toNat / 32 % 2 : Nat) : Int) == 1)) := Lib.hid (by
      rw [HB.out, Bool.eq_iff_iff]
      simp only [beq_iff_eq, Nat.reducePow]
      omega)
    clear hr HB
    generalize ((c.toNat / 32 % 2 : Nat) : Int) = z at *
    go_enter Tryz.func285, Tryz.ntmps285
    go_wp2_with fail
    go_ret
    exact ⟨ret_bool HB'.out.symm, rfl⟩
  · have m3 : (i : Int) % 8 = 6 := by omega
    rw [hr] at HB
    have ha : bits .and .u8 ((c.toNat : Int) / 64) 1 = ((c.toNat / 64 % 2 : Nat) : Int) := by
      have h := and1_u8 (c.toNat / 64) (by omega)
      rw [← h]
      congr 1
    have HB' : Hid (bitB s i = (((c.toNat / 64 % 2 : Nat) : Int) == 1)) := Lib.hid (by
      rw [HB.out, Bool.eq_iff_iff]
      simp only [beq_iff_eq, Nat.reducePow]
      omega)
    clear hr HB
    generalize ((c.toNat / 64 % 2 : Nat) : Int) = z at *
    go_enter Tryz.func285, Tryz.ntmps285
    go_wp2_with fail
    go_ret
    exact ⟨ret_bool HB'.out.symm, rfl⟩
  · have m3 : (i : Int) % 8 = 7 := by omega
    rw [hr] at HB
    have ha : bits .and .u8 ((c.toNat : Int) / 128) 1 = ((c.toNat / 128 % 2 : Nat) : Int) := by
      have h := and1_u8 (c.toNat / 128) (by omega)
      rw [← h]
      congr 1
    have HB' : Hid (bitB s i = (((c.toNat / 128 % 2 : Nat) : Int) == 1)) := Lib.hid (by
      rw [HB.out, Bool.eq_iff_iff]
      simp only [beq_iff_eq, Nat.reducePow]
      omega)
    clear hr HB
    generalize ((c.toNat / 128 % 2 : Nat) : Int) = z at *
    go_enter Tryz.func285, Tryz.ntmps285
    go_wp2_with fail
    go_ret
    exact ⟨ret_bool HB'.out.symm, rfl⟩
set_option maxRecDepth 100000 in
set_option maxHeartbeats 1000000 in
theorem rbit_any (w : World) (s : List UInt8) (i : Nat) (hs : s.length = 128) (hi : i < 1024) :
    Calls Tryz.prog 95 #[S s, .int .i64 (i : Int)] w fun e w' => e = .returned (.bool (bitB s i)) ∧ w' = w := by
  have hq : i / 8 < s.length := by omega
  have HB : Hid (bitB s i = ((s.getD (i / 8) 0).toNat / 2 ^ (i % 8) % 2 == 1)) := Lib.hid rfl
  obtain ⟨c, HC⟩ : ∃ z, Hid (s.getD (i / 8) 0 = z) := ⟨_, Lib.hid rfl⟩
  have xi := run_index_S s .i64 ((i : Int) / 8) (i / 8) (by omega) hq
  rw [HC.out] at xi HB
  have hcl := c.toNat_lt
  have m1 : (i : Int).tdiv 8 = (i : Int) / 8 := Int.tdiv_eq_ediv_of_nonneg (by omega)
  have m2 : (i : Int).tmod 8 = (i : Int) % 8 := Int.tmod_eq_emod_of_nonneg (by omega)
  have hr : i % 8 = 0 ∨ i % 8 = 1 ∨ i % 8 = 2 ∨ i % 8 = 3 ∨ i % 8 = 4 ∨ i % 8 = 5 ∨ i % 8 = 6 ∨ i % 8 = 7 := by omega
  have e0 : (0 : Int) ≤ (i : Int) := by omega
  clear hq
  rcases hr with hr | hr | hr | hr | hr | hr | hr | hr
  · have m3 : (i : Int) % 8 = 0 := by omega
    rw [hr] at HB
    have ha : bits .and .u8 ((c.toNat : Int)) 1 = ((c.toNat % 2 : Nat) : Int) := by
      have h := and1_u8 (c.toNat) (by omega)
      rw [← h]
    have HB' : Hid (bitB s i = (((c.toNat % 2 : Nat) : Int) == 1)) := Lib.hid (by
      rw [HB.out, Bool.eq_iff_iff]
      simp only [beq_iff_eq, Nat.pow_zero, Nat.div_one]
      omega)
    clear hr HB
    generalize ((c.toNat % 2 : Nat) : Int) = z at *
    go_enter Tryz.func95, Tryz.ntmps95
    go_wp2_with fail
    go_ret
    exact ⟨ret_bool HB'.out.symm, rfl⟩
  · have m3 : (i : Int) % 8 = 1 := by omega
    rw [hr] at HB
    have ha : bits .and .u8 ((c.toNat : Int) / 2) 1 = ((c.toNat / 2 % 2 : Nat) : Int) := by
      have h := and1_u8 (c.toNat / 2) (by omega)
      rw [← h]
      congr 1
    have HB' : Hid (bitB s i = (((c.toNat / 2 % 2 : Nat) : Int) == 1)) := Lib.hid (by
      rw [HB.out, Bool.eq_iff_iff]
      simp only [beq_iff_eq, Nat.reducePow]
      omega)
    clear hr HB
    generalize ((c.toNat / 2 % 2 : Nat) : Int) = z at *
    go_enter Tryz.func95, Tryz.ntmps95
    go_wp2_with fail
    go_ret
    exact ⟨ret_bool HB'.out.symm, rfl⟩
  · have m3 : (i : Int) % 8 = 2 := by omega
    rw [hr] at HB
    have ha : bits .and .u8 ((c.toNat : Int) / 4) 1 = ((c.toNat / 4 % 2 : Nat) : Int) := by
      have h := and1_u8 (c.toNat / 4) (by omega)
      rw [← h]
      congr 1
    have HB' : Hid (bitB s i = (((c.toNat / 4 % 2 : Nat) : Int) == 1)) := Lib.hid (by
      rw [HB.out, Bool.eq_iff_iff]
      simp only [beq_iff_eq, Nat.reducePow]
      omega)
    clear hr HB
    generalize ((c.toNat / 4 % 2 : Nat) : Int) = z at *
    go_enter Tryz.func95, Tryz.ntmps95
    go_wp2_with fail
    go_ret
    exact ⟨ret_bool HB'.out.symm, rfl⟩
  · have m3 : (i : Int) % 8 = 3 := by omega
    rw [hr] at HB
    have ha : bits .and .u8 ((c.toNat : Int) / 8) 1 = ((c.toNat / 8 % 2 : Nat) : Int) := by
      have h := and1_u8 (c.toNat / 8) (by omega)
      rw [← h]
      congr 1
    have HB' : Hid (bitB s i = (((c.toNat / 8 % 2 : Nat) : Int) == 1)) := Lib.hid (by
      rw [HB.out, Bool.eq_iff_iff]
      simp only [beq_iff_eq, Nat.reducePow]
      omega)
    clear hr HB
    generalize ((c.toNat / 8 % 2 : Nat) : Int) = z at *
    go_enter Tryz.func95, Tryz.ntmps95
    go_wp2_with fail
    go_ret
    exact ⟨ret_bool HB'.out.symm, rfl⟩
  · have m3 : (i : Int) % 8 = 4 := by omega
    rw [hr] at HB
    have ha : bits .and .u8 ((c.toNat : Int) / 16) 1 = ((c.toNat / 16 % 2 : Nat) : Int) := by
      have h := and1_u8 (c.toNat / 16) (by omega)
      rw [← h]
      congr 1
    have HB' : Hid (bitB s i = (((c.toNat / 16 % 2 : Nat) : Int) == 1)) := Lib.hid (by
      rw [HB.out, Bool.eq_iff_iff]
      simp only [beq_iff_eq, Nat.reducePow]
      omega)
    clear hr HB
    generalize ((c.toNat / 16 % 2 : Nat) : Int) = z at *
    go_enter Tryz.func95, Tryz.ntmps95
    go_wp2_with fail
    go_ret
    exact ⟨ret_bool HB'.out.symm, rfl⟩
  · have m3 : (i : Int) % 8 = 5 := by omega
    rw [hr] at HB
    have ha : bits .and .u8 ((c.toNat : Int) / 32) 1 = ((c.toNat / 32 % 2 : Nat) : Int) := by
      have h := and1_u8 (c.toNat / 32) (by omega)
      rw [← h]
      congr 1
    have HB' : Hid (bitB s i = (((c.toNat / 32 % 2 : Nat) : Int) == 1)) := Lib.hid (by
      rw [HB.out, Bool.eq_iff_iff]
      simp only [beq_iff_eq, Nat.reducePow]
      omega)
    clear hr HB
    generalize ((c.toNat / 32 % 2 : Nat) : Int) = z at *
    go_enter Tryz.func95, Tryz.ntmps95
    go_wp2_with fail
    go_ret
    exact ⟨ret_bool HB'.out.symm, rfl⟩
  · have m3 : (i : Int) % 8 = 6 := by omega
    rw [hr] at HB
    have ha : bits .and .u8 ((c.toNat : Int) / 64) 1 = ((c.toNat / 64 % 2 : Nat) : Int) := by
      have h := and1_u8 (c.toNat / 64) (by omega)
      rw [← h]
      congr 1
    have HB' : Hid (bitB s i = (((c.toNat / 64 % 2 : Nat) : Int) == 1)) := Lib.hid (by
      rw [HB.out, Bool.eq_iff_iff]
      simp only [beq_iff_eq, Nat.reducePow]
      omega)
    clear hr HB
    generalize ((c.toNat / 64 % 2 : Nat) : Int) = z at *
    go_enter Tryz.func95, Tryz.ntmps95
    go_wp2_with fail
    go_ret
    exact ⟨ret_bool HB'.out.symm, rfl⟩
  · have m3 : (i : Int) % 8 = 7 := by omega
    rw [hr] at HB
    have ha : bits .and .u8 ((c.toNat : Int) / 128) 1 = ((c.toNat / 128 % 2 : Nat) : Int) := by
      have h := and1_u8 (c.toNat / 128) (by omega)
      rw [← h]
      congr 1
    have HB' : Hid (bitB s i = (((c.toNat / 128 % 2 : Nat) : Int) == 1)) := Lib.hid (by
      rw [HB.out, Bool.eq_iff_iff]
      simp only [beq_iff_eq, Nat.reducePow]
      omega)
    clear hr HB
    generalize ((c.toNat / 128 % 2 : Nat) : Int) = z at *
    go_enter Tryz.func95, Tryz.ntmps95
    go_wp2_with fail
    go_ret
    exact ⟨ret_bool HB'.out.symm, rfl⟩
end Go.Proofs.YtmdciljpcnokcaaGreatDoor
/-
  Walks: geom.first; hibernacleref17.head. (Printed by gen_geomb.py.)
-/
namespace Go.Proofs.YtmdciljpcnokcaaGreatDoor
open Go.RowKit
attribute [local go_sem] concat_S

set_option maxRecDepth 100000 in
set_option maxHeartbeats 2000000 in
theorem first_any (w : World) (b i : Nat) (d : Int) (hb : b < 9223372036854775808) (hi : i < 9223372036854775808) :
    Calls Tryz.prog 284 #[.agg (geoV [(b : Int), (i : Int), 1, 2, 3, d]).toArray] w fun e w' => e = .returned (S (headL b i)) ∧ Below w.heap.size w w' := by
  have hs0 := Whole.made w 117 (geoV [(b : Int), (i : Int), 1, 2, 3, d]).toArray
  have hb : Below w.heap.size w (w.alloc (.cells (geoV [(b : Int), (i : Int), 1, 2, 3, d]).toArray 117)) := (Below.refl _ _).alloc (Nat.le_refl _) _
  go_enter Tryz.func284, Tryz.ntmps284
  go_upto_region 1 with (fail)
  change Code.wp _ _ _ _ (w.alloc (.cells (geoV [(b : Int), (i : Int), 1, 2, 3, d]).toArray 117))
  generalize (w.alloc (.cells (geoV [(b : Int), (i : Int), 1, 2, 3, d]).toArray 117)) = w1 at *
  generalize hgx : w.heap.size = gx at *
  have HGX := Lib.hid hgx
  have HS0 := Lib.hid hs0
  have HW := Lib.hid hb
  have hgl : gx < w1.heap.size := hs0.lt
  clear hgx hb hs0
  have c0 : w1.cell? ⟨gx, 0, none⟩ = some (.int .i64 (b : Int)) := HS0.out.cell 0
  have c1 : w1.cell? ⟨gx, 1, none⟩ = some (.int .i64 (i : Int)) := HS0.out.cell 1
  have HK : Hid (∀ W, Below w1.heap.size w1 W → W.cell? ⟨gx, 0, none⟩ = some (.int .i64 (b : Int)) ∧ W.cell? ⟨gx, 1, none⟩ = some (.int .i64 (i : Int))) := Lib.hid fun W hW => ⟨(HS0.out.below hW (by omega)).cell 0, (HS0.out.below hW (by omega)).cell 1⟩
  have C0 : Hid (∀ W, Calls Tryz.prog 288 #[.int .u64 (b : Int), .int .i64 2] W fun e w' => e = .returned (S (putL b 2)) ∧ Below W.heap.size W w') := Lib.hid fun W => put_any W b 2 (by omega) (.inl rfl)
  have C1 : Hid (∀ W, Calls Tryz.prog 288 #[.int .u64 (i : Int), .int .i64 2] W fun e w' => e = .returned (S (putL i 2)) ∧ Below W.heap.size W w') := Lib.hid fun W => put_any W i 2 (by omega) (.inl rfl)
  have HE : Hid (headL b i = [104, 105, 98, 49] ++ putL b 2 ++ putL i 2 ++ List.replicate 120 0) := Lib.hid rfl
  have wb : IntKind.u64.wrap (b : Int) = (b : Int) := by rw [IntKind.wrap_u64]; omega
  have wi : IntKind.u64.wrap (i : Int) = (i : Int) := by rw [IntKind.wrap_u64]; omega
  have l1 : (putL b 2).length ≤ 2 := by rw [putL_length]; omega
  have l2 : (putL i 2).length ≤ 2 := by rw [putL_length]; omega
  have HL : Hid ((putL b 2).length = 2 ∧ (putL i 2).length = 2) := Lib.hid ⟨putL_length b 2, putL_length i 2⟩
  generalize putL b 2 = x at *
  generalize putL i 2 = y at *
  have BB := Lib.hid (Below.refl w1.heap.size w1).drew
  clear c0 c1
  have hn1 : ¬ (9223372036854775807 < 4 + x.length) := by omega
  have hn2 : ¬ (9223372036854775807 < x.length + 1 + 1 + 1 + 1 + y.length) := by omega
  go_region_held3 (fun W => W.cell? ⟨gx, 0, none⟩ = some (.int .i64 (b : Int)) ∧ W.cell? ⟨gx, 1, none⟩ = some (.int .i64 (i : Int)))
    (first
      | (exact HK.out _ (Below.refl _ _))
      | (exact HK.out _ BB.out))
    (first
      | (go_at_call_of 288 (Value.int IntKind.u64 (b : Int)); (with_reducible refine (C0.out _).mono ?_); rintro e wx ⟨rfl, hbl⟩; have BB' := Lib.hid (BB.out.trans (hbl.mono BB.out.size)); clear BB hbl; have BB := BB'; clear BB')
      | (go_at_call_of 288 (Value.int IntKind.u64 (i : Int)); (with_reducible refine (C1.out _).mono ?_); rintro e wx ⟨rfl, hbl⟩; have BB' := Lib.hid (BB.out.trans (hbl.mono BB.out.size)); clear BB hbl; have BB := BB'; clear BB'))
  have HP : Hid (headL b i = 104 :: 105 :: 98 :: 49 :: (x ++ y) ++ List.replicate 120 0) := Lib.hid (by rw [HE.out]; simp)
  have hs : (104 :: 105 :: 98 :: 49 :: (x ++ y) : List UInt8).length = 8 := by simp [HL.out.1, HL.out.2]
  generalize (104 :: 105 :: 98 :: 49 :: (x ++ y) : List UInt8) = p at *
  clear hn1 hn2 l1 l2
  have CR : Hid (∀ W, Calls Tryz.prog 52 #[S [0], .int .i64 120] W fun e w' => e = .returned (S (List.replicate 120 0)) ∧ Below W.heap.size W w') := Lib.hid fun W => by
    have := Tryz.strings_Repeat ⟨#[0]⟩ 120 W (by omega) (by decide)
    refine this.mono fun e w' h => ⟨h.1.trans ?_, h.2⟩
    rfl
  have l3 : (List.replicate 120 (0 : UInt8)).length = 120 := by simp
  generalize List.replicate 120 (0 : UInt8) = z at *
  have hn3 : ¬ (9223372036854775807 < p.length + z.length) := by omega
  have hn4 : ¬ (9223372036854775807 < 8 + z.length) := by omega
  go_wp2_with (go_at_call 52; refine (CR.out _).mono ?_; rintro e w3 ⟨rfl, hb3⟩; have HB3 := Lib.hid (BB.out.trans (hb3.mono BB.out.size)); clear hb3)
  go_ret
  exact ⟨by rw [HP.out]; rfl, by rw [HGX.out]; exact HW.out.trans (HB3.out.mono (by omega))⟩
set_option maxRecDepth 100000 in
set_option maxHeartbeats 2000000 in
theorem head_any (w : World) (b i : Nat) (d : Int) (hb : b < 9223372036854775808) (hi : i < 9223372036854775808) :
    Calls Tryz.prog 54 #[.agg (geoV [(b : Int), (i : Int), 1, 2, 3, d]).toArray] w fun e w' => e = .returned (S (headL b i)) ∧ Below w.heap.size w w' := by
  have hs0 := Whole.made w 117 (geoV [(b : Int), (i : Int), 1, 2, 3, d]).toArray
  have hb : Below w.heap.size w (w.alloc (.cells (geoV [(b : Int), (i : Int), 1, 2, 3, d]).toArray 117)) := (Below.refl _ _).alloc (Nat.le_refl _) _
  go_enter Tryz.func54, Tryz.ntmps54
  go_upto_region 1 with (fail)
  change Code.wp _ _ _ _ (w.alloc (.cells (geoV [(b : Int), (i : Int), 1, 2, 3, d]).toArray 117))
  generalize (w.alloc (.cells (geoV [(b : Int), (i : Int), 1, 2, 3, d]).toArray 117)) = w1 at *
  generalize hgx : w.heap.size = gx at *
  have HGX := Lib.hid hgx
  have HS0 := Lib.hid hs0
  have HW := Lib.hid hb
  have hgl : gx < w1.heap.size := hs0.lt
  clear hgx hb hs0
  have c0 : w1.cell? ⟨gx, 0, none⟩ = some (.int .i64 (b : Int)) := HS0.out.cell 0
  have c1 : w1.cell? ⟨gx, 1, none⟩ = some (.int .i64 (i : Int)) := HS0.out.cell 1
  have HK : Hid (∀ W, Below w1.heap.size w1 W → W.cell? ⟨gx, 0, none⟩ = some (.int .i64 (b : Int)) ∧ W.cell? ⟨gx, 1, none⟩ = some (.int .i64 (i : Int))) := Lib.hid fun W hW => ⟨(HS0.out.below hW (by omega)).cell 0, (HS0.out.below hW (by omega)).cell 1⟩
  have C0 : Hid (∀ W, Calls Tryz.prog 33 #[.int .u64 (b : Int), .int .i64 2] W fun e w' => e = .returned (S (putL b 2)) ∧ Below W.heap.size W w') := Lib.hid fun W => rput_any W b 2 (by omega) (by omega)
  have C1 : Hid (∀ W, Calls Tryz.prog 33 #[.int .u64 (i : Int), .int .i64 2] W fun e w' => e = .returned (S (putL i 2)) ∧ Below W.heap.size W w') := Lib.hid fun W => rput_any W i 2 (by omega) (by omega)
  have HE : Hid (headL b i = [104, 105, 98, 49] ++ putL b 2 ++ putL i 2 ++ List.replicate 120 0) := Lib.hid rfl
  have wb : IntKind.u64.wrap (b : Int) = (b : Int) := by rw [IntKind.wrap_u64]; omega
  have wi : IntKind.u64.wrap (i : Int) = (i : Int) := by rw [IntKind.wrap_u64]; omega
  have l1 : (putL b 2).length ≤ 2 := by rw [putL_length]; omega
  have l2 : (putL i 2).length ≤ 2 := by rw [putL_length]; omega
  have HL : Hid ((putL b 2).length = 2 ∧ (putL i 2).length = 2) := Lib.hid ⟨putL_length b 2, putL_length i 2⟩
  generalize putL b 2 = x at *
  generalize putL i 2 = y at *
  have BB := Lib.hid (Below.refl w1.heap.size w1).drew
  clear c0 c1
  have hn1 : ¬ (9223372036854775807 < 4 + x.length) := by omega
  have hn2 : ¬ (9223372036854775807 < x.length + 1 + 1 + 1 + 1 + y.length) := by omega
  have CZ : Hid (∀ W, Calls Tryz.prog 55 #[.int .i64 120] W fun e w' => e = .returned (S (List.replicate 120 0)) ∧ w' = W) := Lib.hid fun W => zeros17_any W 120 (by omega)
  have l3 : (List.replicate 120 (0 : UInt8)).length ≤ 120 := by simp
  generalize List.replicate 120 (0 : UInt8) = z at *
  have hn3 : ¬ (9223372036854775807 < x.length + y.length + 1 + 1 + 1 + 1 + z.length) := by omega
  go_region_held3 (fun W => W.cell? ⟨gx, 0, none⟩ = some (.int .i64 (b : Int)) ∧ W.cell? ⟨gx, 1, none⟩ = some (.int .i64 (i : Int)))
    (first
      | (exact HK.out _ (Below.refl _ _))
      | (exact HK.out _ BB.out))
    (first
      | (go_at_call_of 33 (Value.int IntKind.u64 (b : Int)); (with_reducible refine (C0.out _).mono ?_); rintro e wx ⟨rfl, hbl⟩; have BB' := Lib.hid (BB.out.trans (hbl.mono BB.out.size)); clear BB hbl; have BB := BB'; clear BB')
      | (go_at_call_of 33 (Value.int IntKind.u64 (i : Int)); (with_reducible refine (C1.out _).mono ?_); rintro e wx ⟨rfl, hbl⟩; have BB' := Lib.hid (BB.out.trans (hbl.mono BB.out.size)); clear BB hbl; have BB := BB'; clear BB')
      | (go_at_call 55; (with_reducible refine (CZ.out _).mono ?_); rintro e wx ⟨rfl, rfl⟩))
  go_wp2_with fail
  go_ret
  exact ⟨by rw [HE.out, List.append_assoc, List.append_assoc]; rfl, by rw [HGX.out]; exact HW.out.trans (BB.out.mono (by omega))⟩
end Go.Proofs.YtmdciljpcnokcaaGreatDoor
