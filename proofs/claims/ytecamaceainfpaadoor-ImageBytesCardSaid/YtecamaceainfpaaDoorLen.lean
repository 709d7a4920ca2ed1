/-
  Walk: num.length. (Printed by gen_len.py.)
-/
import Derived.Test.YtecamaceainfpaaDoorTextP
import Derived.Test.YtecamaceainfpaaDoorRTake
import Derived.Test.YtecamaceainfpaaDoorStr
namespace Go.Proofs.YtecamaceainfpaaDoor
open Go.RowKit

/-- what length gives back -/
def lenPost (b : List UInt8) (w : World) (e : Ending) (w' : World) : Prop :=
  (match lenGo 0 0 b with
    | .error x => e = .returned (.tuple #[.int .i64 0, .int .i64 0, .int .i64 x])
    | .ok (n, r) => e = .returned (.tuple #[.int .i64 n, .int .i64 ((b.length - r.length : Nat) : Int), .int .i64 0])) ∧ w = w'
theorem and127_u8 (c : UInt8) : bits .and .u8 (c.toNat : Int) 127 = ((c.toNat % 128 : Nat) : Int) := by
  have h2 := u8_and_nat c.toNat 127 c.toNat_lt (by omega)
  have e : c.toNat &&& 127 = c.toNat % 128 := by
    have := Nat.and_two_pow_sub_one_eq_mod c.toNat 7
    simpa using this
  rw [e] at h2
  exact h2
theorem or_i64 (m x K L : Nat) (hL : 2 ^ K = L) (hm : m < L) (hx : L * x < 1099511627776) (hK : m < 1099511627776) : bits .or .i64 (m : Int) ((L * x : Nat) : Int) = ((m + L * x : Nat) : Int) := by
  subst hL
  show IntKind.i64.wrap ((BitVec.ofInt 64 (m : Int) ||| BitVec.ofInt 64 ((2 ^ K * x : Nat) : Int)).toNat : Int) = _
  rw [BitVec.toNat_or, ofInt64 m (by omega), ofInt64 _ (by omega), Nat.or_comm, ← Nat.two_pow_add_eq_or_of_lt hm, IntKind.wrap_i64]
  omega
set_option maxRecDepth 100000 in
set_option maxHeartbeats 1000000 in
theorem length_any (w : World) (b : List UInt8) (hb : b.length ≤ 1099511627776) :
    Calls Tryd.prog 86 #[S b] w (lenPost b w) := by
  go_enter Tryd.func86, Tryd.ntmps86
  go_wp2_with fail
  go_loop [5, 10] (fun n i => ∃ k m : Nat, k ≤ b.length ∧ k ≤ 3 ∧ i = .int .i64 k ∧ n = .int .i64 m ∧ m < 2097152 ∧ Hid (m < 128 ^ k) ∧ Hid (lenGo 0 0 b = lenGo k m (b.drop k))) (fun _ i => b.length - (intOf i).toNat)
  case atStart => exact ⟨0, 0, by omega, by omega, rfl, rfl, by omega, Lib.hid (by simp), Lib.hid rfl⟩
  case round =>
    obtain ⟨k, m, hk, hk3, rfl, rfl, hm, HM, HL⟩ := hrel
    by_cases hlt : k < b.length
    · have hd : decide (k < b.length) = true := by simpa using hlt
      have HD : Hid (b.drop k = b.getD k 0 :: b.drop (k + 1)) := Lib.hid (by rw [List.drop_eq_getElem_cons hlt]; simp [List.getD, hlt])
      rw [HD.out] at HL
      obtain ⟨c, HCC⟩ : ∃ z, Hid (b.getD k 0 = z) := ⟨_, Lib.hid rfl⟩
      rw [HCC.out] at HL
      have hcl := c.toNat_lt
      obtain ⟨x, HX⟩ : ∃ z, Hid (c.toNat % 128 = z) := ⟨_, Lib.hid rfl⟩
      have hx : x < 128 := by rw [← HX.out]; omega
      have hand : bits .and .u8 (c.toNat : Int) 127 = (x : Int) := by rw [and127_u8, HX.out]
      have hkc : k = 0 ∨ k = 1 ∨ k = 2 ∨ k = 3 := by omega
      clear HD
      rcases hkc with rfl | rfl | rfl | rfl
      · have xi := run_index_S b .i64 0 0 rfl hlt
        rw [HCC.out] at xi
        have hmL : m < 1 := Nat.lt_of_lt_of_le HM.out (by decide)
        have hor : bits .or .i64 (m : Int) (x : Int) = (m : Int) + (x : Int) := by have h := or_i64 m x 0 1 (by decide) hmL (by omega) (by omega); rw [show (x : Int) = ((1 * x : Nat) : Int) by omega, h]; omega
        by_cases hc : 128 ≤ c.toNat
        · have hc1 : decide ((128 : Int) ≤ (c.toNat : Int)) = true := by simp; omega
          have HQ : Hid (lenGo 0 0 b = lenGo 1 (m + x) (b.drop 1)) := Lib.hid (by rw [HL.out, lenGo_on (by omega) hc, HX.out, Nat.pow_zero, Nat.mul_one])
          have hmn : m + x < 128 := by omega
          go_wp2_with fail
          refine ⟨⟨1, m + x, by omega, by omega, rfl, by go_num, by omega, Lib.hid (Nat.lt_of_lt_of_le hmn (by decide)), HQ⟩, by simp [intOf]; omega⟩
        · have hc1 : decide ((128 : Int) ≤ (c.toNat : Int)) = false := by simp; omega
          by_cases h0 : c.toNat = 0
          · have e0 : ((c.toNat : Int) == 0) = true := by simp; omega
            have HQ : Hid (lenGo 0 0 b = .ok (m + x, b.drop 1)) := Lib.hid (by rw [HL.out, lenGo_end (by omega) (.inr rfl), HX.out, Nat.pow_zero, Nat.mul_one])
            have HU : Hid ((b.length - (b.drop 1).length : Nat) = 1) := Lib.hid (by simp; omega)
            clear h0
            go_wp2_with fail
            go_ret3
            unfold lenPost
            rw [HQ.out]
            exact ⟨by dsimp only; rw [HU.out]; exact congrArg (fun z : Int => Ending.returned (.tuple #[.int .i64 z, .int .i64 1, .int .i64 0])) (by omega), rfl⟩
          · have e0 : ((c.toNat : Int) == 0) = false := by simp; omega
            have HQ : Hid (lenGo 0 0 b = .ok (m + x, b.drop 1)) := Lib.hid (by rw [HL.out, lenGo_end (by omega) (.inl h0), HX.out, Nat.pow_zero, Nat.mul_one])
            have HU : Hid ((b.length - (b.drop 1).length : Nat) = 1) := Lib.hid (by simp; omega)
            go_wp2_with fail
            go_ret3
            unfold lenPost
            rw [HQ.out]
            exact ⟨by dsimp only; rw [HU.out]; exact congrArg (fun z : Int => Ending.returned (.tuple #[.int .i64 z, .int .i64 1, .int .i64 0])) (by omega), rfl⟩
      · have xi := run_index_S b .i64 1 1 rfl hlt
        rw [HCC.out] at xi
        have hmL : m < 128 := Nat.lt_of_lt_of_le HM.out (by decide)
        have hor : bits .or .i64 (m : Int) ((x : Int) * 128) = (m : Int) + 128 * (x : Int) := by have h := or_i64 m x 7 128 (by decide) hmL (by omega) (by omega); rw [show ((x : Int) * 128) = ((128 * x : Nat) : Int) by omega, h]; omega
        by_cases hc : 128 ≤ c.toNat
        · have hc1 : decide ((128 : Int) ≤ (c.toNat : Int)) = true := by simp; omega
          have HQ : Hid (lenGo 0 0 b = lenGo 2 (m + 128 * x) (b.drop 2)) := Lib.hid (by rw [HL.out, lenGo_on (by omega) hc, HX.out, Nat.mul_comm x])
          have hmn : m + 128 * x < 16384 := by omega
          go_wp2_with fail
          refine ⟨⟨2, m + 128 * x, by omega, by omega, rfl, by go_num, by omega, Lib.hid (Nat.lt_of_lt_of_le hmn (by decide)), HQ⟩, by simp [intOf]; omega⟩
        · have hc1 : decide ((128 : Int) ≤ (c.toNat : Int)) = false := by simp; omega
          by_cases h0 : c.toNat = 0
          · have e0 : ((c.toNat : Int) == 0) = true := by simp; omega
            have HQ : Hid (lenGo 0 0 b = .error 3) := Lib.hid (by rw [HL.out]; exact lenGo_zero (by omega) h0)
            clear h0
            go_wp2_with fail
            go_ret3
            unfold lenPost
            rw [HQ.out]
            exact ⟨rfl, rfl⟩
          · have e0 : ((c.toNat : Int) == 0) = false := by simp; omega
            have HQ : Hid (lenGo 0 0 b = .ok (m + 128 * x, b.drop 2)) := Lib.hid (by rw [HL.out, lenGo_end (by omega) (.inl h0), HX.out, Nat.mul_comm x])
            have HU : Hid ((b.length - (b.drop 2).length : Nat) = 2) := Lib.hid (by simp; omega)
            go_wp2_with fail
            go_ret3
            unfold lenPost
            rw [HQ.out]
            exact ⟨by dsimp only; rw [HU.out]; exact congrArg (fun z : Int => Ending.returned (.tuple #[.int .i64 z, .int .i64 2, .int .i64 0])) (by omega), rfl⟩
      · have xi := run_index_S b .i64 2 2 rfl hlt
        rw [HCC.out] at xi
        have hmL : m < 16384 := Nat.lt_of_lt_of_le HM.out (by decide)
        have hor : bits .or .i64 (m : Int) ((x : Int) * 16384) = (m : Int) + 16384 * (x : Int) := by have h := or_i64 m x 14 16384 (by decide) hmL (by omega) (by omega); rw [show ((x : Int) * 16384) = ((16384 * x : Nat) : Int) by omega, h]; omega
        by_cases hc : 128 ≤ c.toNat
        · have hc1 : decide ((128 : Int) ≤ (c.toNat : Int)) = true := by simp; omega
          have HQ : Hid (lenGo 0 0 b = lenGo 3 (m + 16384 * x) (b.drop 3)) := Lib.hid (by rw [HL.out, lenGo_on (by omega) hc, HX.out, Nat.mul_comm x])
          have hmn : m + 16384 * x < 2097152 := by omega
          go_wp2_with fail
          refine ⟨⟨3, m + 16384 * x, by omega, by omega, rfl, by go_num, by omega, Lib.hid (Nat.lt_of_lt_of_le hmn (by decide)), HQ⟩, by simp [intOf]; omega⟩
        · have hc1 : decide ((128 : Int) ≤ (c.toNat : Int)) = false := by simp; omega
          by_cases h0 : c.toNat = 0
          · have e0 : ((c.toNat : Int) == 0) = true := by simp; omega
            have HQ : Hid (lenGo 0 0 b = .error 3) := Lib.hid (by rw [HL.out]; exact lenGo_zero (by omega) h0)
            clear h0
            go_wp2_with fail
            go_ret3
            unfold lenPost
            rw [HQ.out]
            exact ⟨rfl, rfl⟩
          · have e0 : ((c.toNat : Int) == 0) = false := by simp; omega
            have HQ : Hid (lenGo 0 0 b = .ok (m + 16384 * x, b.drop 3)) := Lib.hid (by rw [HL.out, lenGo_end (by omega) (.inl h0), HX.out, Nat.mul_comm x])
            have HU : Hid ((b.length - (b.drop 3).length : Nat) = 3) := Lib.hid (by simp; omega)
            go_wp2_with fail
            go_ret3
            unfold lenPost
            rw [HQ.out]
            exact ⟨by dsimp only; rw [HU.out]; exact congrArg (fun z : Int => Ending.returned (.tuple #[.int .i64 z, .int .i64 3, .int .i64 0])) (by omega), rfl⟩
      · have xi := run_index_S b .i64 3 3 rfl hlt
        rw [HCC.out] at xi
        have hmL : m < 2097152 := Nat.lt_of_lt_of_le HM.out (by decide)
        have hor : bits .or .i64 (m : Int) ((x : Int) * 2097152) = (m : Int) + 2097152 * (x : Int) := by have h := or_i64 m x 21 2097152 (by decide) hmL (by omega) (by omega); rw [show ((x : Int) * 2097152) = ((2097152 * x : Nat) : Int) by omega, h]; omega
        by_cases hc : 128 ≤ c.toNat
        · have hc1 : decide ((128 : Int) ≤ (c.toNat : Int)) = true := by simp; omega
          have HQ : Hid (lenGo 0 0 b = .error 3) := Lib.hid (by rw [HL.out]; exact lenGo_far rfl hc)
          clear hor
          go_wp2_with fail
          go_ret3
          unfold lenPost
          rw [HQ.out]
          exact ⟨rfl, rfl⟩
        · have hc1 : decide ((128 : Int) ≤ (c.toNat : Int)) = false := by simp; omega
          by_cases h0 : c.toNat = 0
          · have e0 : ((c.toNat : Int) == 0) = true := by simp; omega
            have HQ : Hid (lenGo 0 0 b = .error 3) := Lib.hid (by rw [HL.out]; exact lenGo_zero (by omega) h0)
            clear h0
            go_wp2_with fail
            go_ret3
            unfold lenPost
            rw [HQ.out]
            exact ⟨rfl, rfl⟩
          · have e0 : ((c.toNat : Int) == 0) = false := by simp; omega
            have HQ : Hid (lenGo 0 0 b = .ok (m + 2097152 * x, b.drop 4)) := Lib.hid (by rw [HL.out, lenGo_end (by omega) (.inl h0), HX.out, Nat.mul_comm x])
            have HU : Hid ((b.length - (b.drop 4).length : Nat) = 4) := Lib.hid (by simp; omega)
            go_wp2_with fail
            go_ret3
            unfold lenPost
            rw [HQ.out]
            exact ⟨by dsimp only; rw [HU.out]; exact congrArg (fun z : Int => Ending.returned (.tuple #[.int .i64 z, .int .i64 4, .int .i64 0])) (by omega), rfl⟩
    · obtain rfl : k = b.length := by omega
      have hd : decide (b.length < b.length) = false := by simp
      have HQ : Hid (lenGo 0 0 b = .error 4) := Lib.hid (by rw [HL.out, List.drop_eq_nil_of_le (Nat.le_refl _)]; rfl)
      go_wp2_with fail
      go_ret3
      unfold lenPost
      rw [HQ.out]
      exact ⟨rfl, rfl⟩
end Go.Proofs.YtecamaceainfpaaDoor
