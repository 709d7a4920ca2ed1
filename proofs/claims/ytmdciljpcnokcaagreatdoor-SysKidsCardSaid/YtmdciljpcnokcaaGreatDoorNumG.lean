/-
  Numbers as bytes, the lowest one first; walks: num.Put, Get; hibernacleref01.Put, Get. (Printed by gen_numg.py.)
-/
import Derived.Test.YtmdciljpcnokcaaGreatDoorRowL
namespace Go.Proofs.YtmdciljpcnokcaaGreatDoor
open Go.RowKit
attribute [local go_sem] concat_S

/-- the lowest k bytes of a number -/
def putL (n k : Nat) : List UInt8 := (List.range k).map fun i => UInt8.ofNat (n / 256 ^ i % 256)
theorem putL_length (n k : Nat) : (putL n k).length = k := by simp [putL]
theorem putL_succ (n k : Nat) : putL n (k + 1) = putL n k ++ [UInt8.ofNat (n / 256 ^ k % 256)] := by unfold putL; rw [List.range_succ, List.map_append]; rfl
/-- the number of bytes -/
def getF : List UInt8 → Nat
  | [] => 0
  | b :: l => b.toNat + 256 * getF l
def getL (s : List UInt8) : Nat := getF (s.take 8)
theorem getF_snoc : ∀ (l : List UInt8) (b : UInt8), getF (l ++ [b]) = getF l + 256 ^ l.length * b.toNat
  | [], b => by simp [getF]
  | a :: l, b => by
    show a.toNat + 256 * getF (l ++ [b]) = a.toNat + 256 * getF l + 256 ^ (l.length + 1) * b.toNat
    rw [getF_snoc l b, Nat.mul_add, Nat.pow_succ, ← Nat.mul_assoc, Nat.mul_comm 256 (256 ^ l.length)]; omega
theorem getF_lt : ∀ l : List UInt8, getF l < 256 ^ l.length
  | [] => by simp [getF]
  | a :: l => by
    have h := getF_lt l
    have ha := a.toNat_lt
    show a.toNat + 256 * getF l < 256 ^ (l.length + 1)
    rw [Nat.pow_succ]; omega
theorem getF_take {s : List UInt8} {k : Nat} (hk : k < s.length) : getF (s.take (k + 1)) = getF (s.take k) + 256 ^ k * (s.getD k 0).toNat := by
  rw [List.take_succ_eq_append_getElem hk, getF_snoc, List.length_take, Nat.min_eq_left (by omega)]
  simp [List.getD, hk]
theorem getF_drop {s : List UInt8} {k : Nat} (hk : k < s.length) : getF (s.drop k) = (s.getD k 0).toNat + 256 * getF (s.drop (k + 1)) := by
  rw [List.drop_eq_getElem_cons hk]
  simp [getF, List.getD, hk]
theorem getL_lt (s : List UInt8) : getL s < 18446744073709551616 := by
  have := getF_lt (s.take 8)
  have h2 : 256 ^ (s.take 8).length ≤ 256 ^ 8 := Nat.pow_le_pow_right (by omega) (by rw [List.length_take]; omega)
  unfold getL
  omega
theorem ofInt64u (a : Nat) (ha : a < 18446744073709551616) : (BitVec.ofInt 64 (a : Int)).toNat = a := by
  rw [BitVec.ofInt_natCast, BitVec.toNat_ofNat]; exact Nat.mod_eq_of_lt (by omega)
theorem or_u64 (m x K L : Nat) (hL : 2 ^ K = L) (hm : m < L) (hx : m + L * x < 18446744073709551616) : bits .or .u64 (m : Int) ((L * x : Nat) : Int) = ((m + L * x : Nat) : Int) := by
  subst hL
  show IntKind.u64.wrap ((BitVec.ofInt 64 (m : Int) ||| BitVec.ofInt 64 ((2 ^ K * x : Nat) : Int)).toNat : Int) = _
  rw [BitVec.toNat_or, ofInt64u m (by omega), ofInt64u _ (by omega), Nat.or_comm, ← Nat.two_pow_add_eq_or_of_lt hm, IntKind.wrap_u64]
  omega
set_option maxRecDepth 100000 in
set_option maxHeartbeats 1000000 in
theorem get_any (w : World) (s : List UInt8) (hs : s.length ≤ 1099511627776) :
    Calls Tryz.prog 193 #[S s] w fun e w' => e = .returned (.int .u64 (getL s : Nat)) ∧ w' = w := by
  have HGL : Hid (getL s = getF (s.take (min s.length 8))) := Lib.hid (by unfold getL; rw [List.take_eq_take_min, Nat.min_comm])
  go_enter Tryz.func193, Tryz.ntmps193
  have HGE : Hid (s.length ≤ 8 → getL s = getF s) := Lib.hid (fun h => by unfold getL; rw [List.take_of_length_le h])
  by_cases h8 : s.length ≤ 8
  · have d : decide ((s.length : Int) ≤ 8) = true := decide_eq_true (by omega)
    have d2 : (s.length : Int) ≤ 8 := by omega
    go_wp2_with fail
    clear d
    go_loop [3, 8] (fun n i => ∃ k m : Nat, k ≤ s.length ∧ k ≤ 8 ∧ i = .int .i64 k ∧ n = .int .u64 m ∧ Hid (getF (s.take k) = m)) (fun _ i => s.length - (intOf i).toNat)
    case atStart => exact ⟨0, 0, by omega, by omega, rfl, rfl, Lib.hid rfl⟩
    case round =>
      obtain ⟨k, m, hk, hk8, rfl, rfl, HM⟩ := hrel
      by_cases hlt : k < s.length
      · have hls : k < s.length := by omega
        have HT := Lib.hid (getF_take hls)
        rw [HM.out] at HT
        have HMB : Hid (m < 256 ^ k) := Lib.hid (by have := getF_lt (s.take k); rw [HM.out, List.length_take, Nat.min_eq_left (by omega)] at this; exact this)
        obtain ⟨c, HCC⟩ : ∃ z, Hid (s.getD k 0 = z) := ⟨_, Lib.hid rfl⟩
        have hcl := c.toNat_lt
        have hkc : k = 0 ∨ k = 1 ∨ k = 2 ∨ k = 3 ∨ k = 4 ∨ k = 5 ∨ k = 6 ∨ k = 7 := by omega
        rcases hkc with rfl | rfl | rfl | rfl | rfl | rfl | rfl | rfl
        · have xi := run_index_S s .i64 0 0 rfl hls
          rw [HCC.out] at xi
          have hm : m < 1 := Nat.lt_of_lt_of_le HMB.out (by decide)
          have wv : IntKind.u64.wrap ((c.toNat : Int)) = (c.toNat : Int) := by rw [IntKind.wrap_u64]; omega
          have hor : bits .or .u64 (m : Int) ((c.toNat : Int)) = ((m + 1 * c.toNat : Nat) : Int) := by
            have h := or_u64 m c.toNat 0 1 (by decide) hm (by omega)
            rw [← h]
            congr 1
            omega
          have HQ : Hid (getF (s.take 1) = m + 1 * c.toNat) := Lib.hid (by rw [HT.out, HCC.out])
          clear HT HMB
          generalize m + 1 * c.toNat = m' at *
          have dl : decide ((0 : Int) < (s.length : Int)) = true := decide_eq_true (by omega)
          go_wp2_with fail
          refine ⟨⟨1, m', by omega, by omega, rfl, rfl, HQ⟩, by simp [intOf]; omega⟩
        · have xi := run_index_S s .i64 1 1 rfl hls
          rw [HCC.out] at xi
          have hm : m < 256 := Nat.lt_of_lt_of_le HMB.out (by decide)
          have wv : IntKind.u64.wrap ((c.toNat : Int) * 256) = (c.toNat : Int) * 256 := by rw [IntKind.wrap_u64]; omega
          have hor : bits .or .u64 (m : Int) ((c.toNat : Int) * 256) = ((m + 256 * c.toNat : Nat) : Int) := by
            have h := or_u64 m c.toNat 8 256 (by decide) hm (by omega)
            rw [← h]
            congr 1
            omega
          have HQ : Hid (getF (s.take 2) = m + 256 * c.toNat) := Lib.hid (by rw [HT.out, HCC.out])
          clear HT HMB
          generalize m + 256 * c.toNat = m' at *
          have dl : decide ((1 : Int) < (s.length : Int)) = true := decide_eq_true (by omega)
          go_wp2_with fail
          refine ⟨⟨2, m', by omega, by omega, rfl, rfl, HQ⟩, by simp [intOf]; omega⟩
        · have xi := run_index_S s .i64 2 2 rfl hls
          rw [HCC.out] at xi
          have hm : m < 65536 := Nat.lt_of_lt_of_le HMB.out (by decide)
          have wv : IntKind.u64.wrap ((c.toNat : Int) * 65536) = (c.toNat : Int) * 65536 := by rw [IntKind.wrap_u64]; omega
          have hor : bits .or .u64 (m : Int) ((c.toNat : Int) * 65536) = ((m + 65536 * c.toNat : Nat) : Int) := by
            have h := or_u64 m c.toNat 16 65536 (by decide) hm (by omega)
            rw [← h]
            congr 1
            omega
          have HQ : Hid (getF (s.take 3) = m + 65536 * c.toNat) := Lib.hid (by rw [HT.out, HCC.out])
          clear HT HMB
          generalize m + 65536 * c.toNat = m' at *
          have dl : decide ((2 : Int) < (s.length : Int)) = true := decide_eq_true (by omega)
          go_wp2_with fail
          refine ⟨⟨3, m', by omega, by omega, rfl, rfl, HQ⟩, by simp [intOf]; omega⟩
        · have xi := run_index_S s .i64 3 3 rfl hls
          rw [HCC.out] at xi
          have hm : m < 16777216 := Nat.lt_of_lt_of_le HMB.out (by decide)
          have wv : IntKind.u64.wrap ((c.toNat : Int) * 16777216) = (c.toNat : Int) * 16777216 := by rw [IntKind.wrap_u64]; omega
          have hor : bits .or .u64 (m : Int) ((c.toNat : Int) * 16777216) = ((m + 16777216 * c.toNat : Nat) : Int) := by
            have h := or_u64 m c.toNat 24 16777216 (by decide) hm (by omega)
            rw [← h]
            congr 1
            omega
          have HQ : Hid (getF (s.take 4) = m + 16777216 * c.toNat) := Lib.hid (by rw [HT.out, HCC.out])
          clear HT HMB
          generalize m + 16777216 * c.toNat = m' at *
          have dl : decide ((3 : Int) < (s.length : Int)) = true := decide_eq_true (by omega)
          go_wp2_with fail
          refine ⟨⟨4, m', by omega, by omega, rfl, rfl, HQ⟩, by simp [intOf]; omega⟩
        · have xi := run_index_S s .i64 4 4 rfl hls
          rw [HCC.out] at xi
          have hm : m < 4294967296 := Nat.lt_of_lt_of_le HMB.out (by decide)
          have wv : IntKind.u64.wrap ((c.toNat : Int) * 4294967296) = (c.toNat : Int) * 4294967296 := by rw [IntKind.wrap_u64]; omega
          have hor : bits .or .u64 (m : Int) ((c.toNat : Int) * 4294967296) = ((m + 4294967296 * c.toNat : Nat) : Int) := by
            have h := or_u64 m c.toNat 32 4294967296 (by decide) hm (by omega)
            rw [← h]
            congr 1
            omega
          have HQ : Hid (getF (s.take 5) = m + 4294967296 * c.toNat) := Lib.hid (by rw [HT.out, HCC.out])
          clear HT HMB
          generalize m + 4294967296 * c.toNat = m' at *
          have dl : decide ((4 : Int) < (s.length : Int)) = true := decide_eq_true (by omega)
          go_wp2_with fail
          refine ⟨⟨5, m', by omega, by omega, rfl, rfl, HQ⟩, by simp [intOf]; omega⟩
        · have xi := run_index_S s .i64 5 5 rfl hls
          rw [HCC.out] at xi
          have hm : m < 1099511627776 := Nat.lt_of_lt_of_le HMB.out (by decide)
          have wv : IntKind.u64.wrap ((c.toNat : Int) * 1099511627776) = (c.toNat : Int) * 1099511627776 := by rw [IntKind.wrap_u64]; omega
          have hor : bits .or .u64 (m : Int) ((c.toNat : Int) * 1099511627776) = ((m + 1099511627776 * c.toNat : Nat) : Int) := by
            have h := or_u64 m c.toNat 40 1099511627776 (by decide) hm (by omega)
            rw [← h]
            congr 1
            omega
          have HQ : Hid (getF (s.take 6) = m + 1099511627776 * c.toNat) := Lib.hid (by rw [HT.out, HCC.out])
          clear HT HMB
          generalize m + 1099511627776 * c.toNat = m' at *
          have dl : decide ((5 : Int) < (s.length : Int)) = true := decide_eq_true (by omega)
          go_wp2_with fail
          refine ⟨⟨6, m', by omega, by omega, rfl, rfl, HQ⟩, by simp [intOf]; omega⟩
        · have xi := run_index_S s .i64 6 6 rfl hls
          rw [HCC.out] at xi
          have hm : m < 281474976710656 := Nat.lt_of_lt_of_le HMB.out (by decide)
          have wv : IntKind.u64.wrap ((c.toNat : Int) * 281474976710656) = (c.toNat : Int) * 281474976710656 := by rw [IntKind.wrap_u64]; omega
          have hor : bits .or .u64 (m : Int) ((c.toNat : Int) * 281474976710656) = ((m + 281474976710656 * c.toNat : Nat) : Int) := by
            have h := or_u64 m c.toNat 48 281474976710656 (by decide) hm (by omega)
            rw [← h]
            congr 1
            omega
          have HQ : Hid (getF (s.take 7) = m + 281474976710656 * c.toNat) := Lib.hid (by rw [HT.out, HCC.out])
          clear HT HMB
          generalize m + 281474976710656 * c.toNat = m' at *
          have dl : decide ((6 : Int) < (s.length : Int)) = true := decide_eq_true (by omega)
          go_wp2_with fail
          refine ⟨⟨7, m', by omega, by omega, rfl, rfl, HQ⟩, by simp [intOf]; omega⟩
        · have xi := run_index_S s .i64 7 7 rfl hls
          rw [HCC.out] at xi
          have hm : m < 72057594037927936 := Nat.lt_of_lt_of_le HMB.out (by decide)
          have wv : IntKind.u64.wrap ((c.toNat : Int) * 72057594037927936) = (c.toNat : Int) * 72057594037927936 := by rw [IntKind.wrap_u64]; omega
          have hor : bits .or .u64 (m : Int) ((c.toNat : Int) * 72057594037927936) = ((m + 72057594037927936 * c.toNat : Nat) : Int) := by
            have h := or_u64 m c.toNat 56 72057594037927936 (by decide) hm (by omega)
            rw [← h]
            congr 1
            omega
          have HQ : Hid (getF (s.take 8) = m + 72057594037927936 * c.toNat) := Lib.hid (by rw [HT.out, HCC.out])
          clear HT HMB
          generalize m + 72057594037927936 * c.toNat = m' at *
          have dl : decide ((7 : Int) < (s.length : Int)) = true := decide_eq_true (by omega)
          go_wp2_with fail
          refine ⟨⟨8, m', by omega, by omega, rfl, rfl, HQ⟩, by simp [intOf]; omega⟩
      · obtain rfl : k = s.length := by omega
        rw [← HM.out]
        have hd : decide (((s.length : Int)) < ((s.length : Int))) = false := by simp
        have hd' : decide ((s.length) < (s.length)) = false := by simp
        go_wp2_with fail
        go_ret
        exact ⟨by rw [HGE.out h8]; rfl, rfl⟩
  · have d : decide ((s.length : Int) ≤ 8) = false := decide_eq_false (by omega)
    have d2 : ¬ (s.length : Int) ≤ 8 := by omega
    go_wp2_with fail
    clear d
    go_loop [3, 8] (fun n i => ∃ k m : Nat, k ≤ 8 ∧ k ≤ 8 ∧ i = .int .i64 k ∧ n = .int .u64 m ∧ Hid (getF (s.take k) = m)) (fun _ i => 8 - (intOf i).toNat)
    case atStart => exact ⟨0, 0, by omega, by omega, rfl, rfl, Lib.hid rfl⟩
    case round =>
      obtain ⟨k, m, hk, hk8, rfl, rfl, HM⟩ := hrel
      by_cases hlt : k < 8
      · have hls : k < s.length := by omega
        have HT := Lib.hid (getF_take hls)
        rw [HM.out] at HT
        have HMB : Hid (m < 256 ^ k) := Lib.hid (by have := getF_lt (s.take k); rw [HM.out, List.length_take, Nat.min_eq_left (by omega)] at this; exact this)
        obtain ⟨c, HCC⟩ : ∃ z, Hid (s.getD k 0 = z) := ⟨_, Lib.hid rfl⟩
        have hcl := c.toNat_lt
        have hkc : k = 0 ∨ k = 1 ∨ k = 2 ∨ k = 3 ∨ k = 4 ∨ k = 5 ∨ k = 6 ∨ k = 7 := by omega
        rcases hkc with rfl | rfl | rfl | rfl | rfl | rfl | rfl | rfl
        · have xi := run_index_S s .i64 0 0 rfl hls
          rw [HCC.out] at xi
          have hm : m < 1 := Nat.lt_of_lt_of_le HMB.out (by decide)
          have wv : IntKind.u64.wrap ((c.toNat : Int)) = (c.toNat : Int) := by rw [IntKind.wrap_u64]; omega
          have hor : bits .or .u64 (m : Int) ((c.toNat : Int)) = ((m + 1 * c.toNat : Nat) : Int) := by
            have h := or_u64 m c.toNat 0 1 (by decide) hm (by omega)
            rw [← h]
            congr 1
            omega
          have HQ : Hid (getF (s.take 1) = m + 1 * c.toNat) := Lib.hid (by rw [HT.out, HCC.out])
          clear HT HMB
          generalize m + 1 * c.toNat = m' at *
          have dl : decide ((0 : Int) < (8 : Int)) = true := by decide
          go_wp2_with fail
          refine ⟨⟨1, m', by omega, by omega, rfl, rfl, HQ⟩, by simp [intOf]⟩
        · have xi := run_index_S s .i64 1 1 rfl hls
          rw [HCC.out] at xi
          have hm : m < 256 := Nat.lt_of_lt_of_le HMB.out (by decide)
          have wv : IntKind.u64.wrap ((c.toNat : Int) * 256) = (c.toNat : Int) * 256 := by rw [IntKind.wrap_u64]; omega
          have hor : bits .or .u64 (m : Int) ((c.toNat : Int) * 256) = ((m + 256 * c.toNat : Nat) : Int) := by
            have h := or_u64 m c.toNat 8 256 (by decide) hm (by omega)
            rw [← h]
            congr 1
            omega
          have HQ : Hid (getF (s.take 2) = m + 256 * c.toNat) := Lib.hid (by rw [HT.out, HCC.out])
          clear HT HMB
          generalize m + 256 * c.toNat = m' at *
          have dl : decide ((1 : Int) < (8 : Int)) = true := by decide
          go_wp2_with fail
          refine ⟨⟨2, m', by omega, by omega, rfl, rfl, HQ⟩, by simp [intOf]⟩
        · have xi := run_index_S s .i64 2 2 rfl hls
          rw [HCC.out] at xi
          have hm : m < 65536 := Nat.lt_of_lt_of_le HMB.out (by decide)
          have wv : IntKind.u64.wrap ((c.toNat : Int) * 65536) = (c.toNat : Int) * 65536 := by rw [IntKind.wrap_u64]; omega
          have hor : bits .or .u64 (m : Int) ((c.toNat : Int) * 65536) = ((m + 65536 * c.toNat : Nat) : Int) := by
            have h := or_u64 m c.toNat 16 65536 (by decide) hm (by omega)
            rw [← h]
            congr 1
            omega
          have HQ : Hid (getF (s.take 3) = m + 65536 * c.toNat) := Lib.hid (by rw [HT.out, HCC.out])
          clear HT HMB
          generalize m + 65536 * c.toNat = m' at *
          have dl : decide ((2 : Int) < (8 : Int)) = true := by decide
          go_wp2_with fail
          refine ⟨⟨3, m', by omega, by omega, rfl, rfl, HQ⟩, by simp [intOf]⟩
        · have xi := run_index_S s .i64 3 3 rfl hls
          rw [HCC.out] at xi
          have hm : m < 16777216 := Nat.lt_of_lt_of_le HMB.out (by decide)
          have wv : IntKind.u64.wrap ((c.toNat : Int) * 16777216) = (c.toNat : Int) * 16777216 := by rw [IntKind.wrap_u64]; omega
          have hor : bits .or .u64 (m : Int) ((c.toNat : Int) * 16777216) = ((m + 16777216 * c.toNat : Nat) : Int) := by
            have h := or_u64 m c.toNat 24 16777216 (by decide) hm (by omega)
            rw [← h]
            congr 1
            omega
          have HQ : Hid (getF (s.take 4) = m + 16777216 * c.toNat) := Lib.hid (by rw [HT.out, HCC.out])
          clear HT HMB
          generalize m + 16777216 * c.toNat = m' at *
          have dl : decide ((3 : Int) < (8 : Int)) = true := by decide
          go_wp2_with fail
          refine ⟨⟨4, m', by omega, by omega, rfl, rfl, HQ⟩, by simp [intOf]⟩
        · have xi := run_index_S s .i64 4 4 rfl hls
          rw [HCC.out] at xi
          have hm : m < 4294967296 := Nat.lt_of_lt_of_le HMB.out (by decide)
          have wv : IntKind.u64.wrap ((c.toNat : Int) * 4294967296) = (c.toNat : Int) * 4294967296 := by rw [IntKind.wrap_u64]; omega
          have hor : bits .or .u64 (m : Int) ((c.toNat : Int) * 4294967296) = ((m + 4294967296 * c.toNat : Nat) : Int) := by
            have h := or_u64 m c.toNat 32 4294967296 (by decide) hm (by omega)
            rw [← h]
            congr 1
            omega
          have HQ : Hid (getF (s.take 5) = m + 4294967296 * c.toNat) := Lib.hid (by rw [HT.out, HCC.out])
          clear HT HMB
          generalize m + 4294967296 * c.toNat = m' at *
          have dl : decide ((4 : Int) < (8 : Int)) = true := by decide
          go_wp2_with fail
          refine ⟨⟨5, m', by omega, by omega, rfl, rfl, HQ⟩, by simp [intOf]⟩
        · have xi := run_index_S s .i64 5 5 rfl hls
          rw [HCC.out] at xi
          have hm : m < 1099511627776 := Nat.lt_of_lt_of_le HMB.out (by decide)
          have wv : IntKind.u64.wrap ((c.toNat : Int) * 1099511627776) = (c.toNat : Int) * 1099511627776 := by rw [IntKind.wrap_u64]; omega
          have hor : bits .or .u64 (m : Int) ((c.toNat : Int) * 1099511627776) = ((m + 1099511627776 * c.toNat : Nat) : Int) := by
            have h := or_u64 m c.toNat 40 1099511627776 (by decide) hm (by omega)
            rw [← h]
            congr 1
            omega
          have HQ : Hid (getF (s.take 6) = m + 1099511627776 * c.toNat) := Lib.hid (by rw [HT.out, HCC.out])
          clear HT HMB
          generalize m + 1099511627776 * c.toNat = m' at *
          have dl : decide ((5 : Int) < (8 : Int)) = true := by decide
          go_wp2_with fail
          refine ⟨⟨6, m', by omega, by omega, rfl, rfl, HQ⟩, by simp [intOf]⟩
        · have xi := run_index_S s .i64 6 6 rfl hls
          rw [HCC.out] at xi
          have hm : m < 281474976710656 := Nat.lt_of_lt_of_le HMB.out (by decide)
          have wv : IntKind.u64.wrap ((c.toNat : Int) * 281474976710656) = (c.toNat : Int) * 281474976710656 := by rw [IntKind.wrap_u64]; omega
          have hor : bits .or .u64 (m : Int) ((c.toNat : Int) * 281474976710656) = ((m + 281474976710656 * c.toNat : Nat) : Int) := by
            have h := or_u64 m c.toNat 48 281474976710656 (by decide) hm (by omega)
            rw [← h]
            congr 1
            omega
          have HQ : Hid (getF (s.take 7) = m + 281474976710656 * c.toNat) := Lib.hid (by rw [HT.out, HCC.out])
          clear HT HMB
          generalize m + 281474976710656 * c.toNat = m' at *
          have dl : decide ((6 : Int) < (8 : Int)) = true := by decide
          go_wp2_with fail
          refine ⟨⟨7, m', by omega, by omega, rfl, rfl, HQ⟩, by simp [intOf]⟩
        · have xi := run_index_S s .i64 7 7 rfl hls
          rw [HCC.out] at xi
          have hm : m < 72057594037927936 := Nat.lt_of_lt_of_le HMB.out (by decide)
          have wv : IntKind.u64.wrap ((c.toNat : Int) * 72057594037927936) = (c.toNat : Int) * 72057594037927936 := by rw [IntKind.wrap_u64]; omega
          have hor : bits .or .u64 (m : Int) ((c.toNat : Int) * 72057594037927936) = ((m + 72057594037927936 * c.toNat : Nat) : Int) := by
            have h := or_u64 m c.toNat 56 72057594037927936 (by decide) hm (by omega)
            rw [← h]
            congr 1
            omega
          have HQ : Hid (getF (s.take 8) = m + 72057594037927936 * c.toNat) := Lib.hid (by rw [HT.out, HCC.out])
          clear HT HMB
          generalize m + 72057594037927936 * c.toNat = m' at *
          have dl : decide ((7 : Int) < (8 : Int)) = true := by decide
          go_wp2_with fail
          refine ⟨⟨8, m', by omega, by omega, rfl, rfl, HQ⟩, by simp [intOf]⟩
      · obtain rfl : k = 8 := by omega
        rw [← HM.out]
        have hd : decide (((8 : Int)) < ((8 : Int))) = false := by simp
        have hd' : decide ((8) < (8)) = false := by simp
        go_wp2_with fail
        go_ret
        exact ⟨by rw [HGL.out, Nat.min_eq_right (by omega)]; rfl, rfl⟩
/-- the bytes from a place on, up to the eighth -/
def hiF (s : List UInt8) (i : Nat) : Nat := getF ((s.take 8).drop i)
theorem hiF_far {s : List UInt8} {i : Nat} (h : 8 ≤ i ∨ s.length ≤ i) : hiF s i = 0 := by
  unfold hiF
  rw [List.drop_of_length_le (by rw [List.length_take]; omega)]
  rfl
theorem hiF_near {s : List UInt8} {i : Nat} (h : i < 8) (h2 : i < s.length) : hiF s i = (s.getD i 0).toNat + 256 * hiF s (i + 1) := by
  unfold hiF
  rw [getF_drop (by rw [List.length_take]; omega)]
  congr 2
  simp [List.getD, h]
theorem hiF_lt (s : List UInt8) (i : Nat) : hiF s i < 256 ^ (8 - i) := by
  have h := getF_lt ((s.take 8).drop i)
  have : 256 ^ ((s.take 8).drop i).length ≤ 256 ^ (8 - i) := Nat.pow_le_pow_right (by omega) (by rw [List.length_drop, List.length_take]; omega)
  unfold hiF
  omega
set_option maxRecDepth 100000 in
set_option maxHeartbeats 1000000 in
theorem rget01_any (w : World) (s : List UInt8) (hs : s.length ≤ 1099511627776) :
    Calls Tryz.prog 94 #[S s] w fun e w' => e = .returned (.int .u64 (getL s : Nat)) ∧ w' = w := by
  have HG0 : Hid (hiF s 0 = getL s) := Lib.hid rfl
  go_enter Tryz.func94, Tryz.ntmps94
  go_wp2_with fail
  go_loop [3, 4] (fun n i => ∃ k m : Nat, k ≤ s.length ∧ i = .int .i64 ((k : Int) - 1) ∧ n = .int .u64 m ∧ Hid (hiF s k = m)) (fun _ i => ((intOf i) + 1).toNat)
  case atStart => exact ⟨s.length, 0, by omega, rfl, rfl, Lib.hid (hiF_far (.inr (Nat.le_refl _)))⟩
  case round =>
    obtain ⟨k, m, hk, rfl, rfl, HM⟩ := hrel
    cases k with
    | zero =>
      have d : decide ((0 : Int) ≤ ((0 : Nat) : Int) - 1) = false := by decide
      have e : ((0 : Nat) : Int) - 1 = -1 := rfl
      have HE : Hid (m = getL s) := Lib.hid (by rw [← HG0.out, HM.out])
      rw [e]
      go_wp2_with fail
      go_ret
      exact ⟨by rw [HE.out]; rfl, rfl⟩
    | succ i =>
      have e : ((i + 1 : Nat) : Int) - 1 = (i : Int) := by omega
      rw [e]
      have i0 : (0 : Int) ≤ (i : Int) := by omega
      have i1 : (1 : Int) ≤ (i : Int) + 1 := by omega
      have d : decide ((0 : Int) ≤ (i : Int)) = true := decide_eq_true i0
      have hls : i < s.length := by omega
      by_cases h8 : i < 8
      · have d8 : decide ((i : Int) < 8) = true := decide_eq_true (by omega)
        have HN := Lib.hid (hiF_near h8 hls)
        rw [HM.out] at HN
        have hlt := hiF_lt s (i + 1)
        rw [HM.out] at hlt
        have h7 : 256 ^ (8 - (i + 1)) ≤ 256 ^ 7 := Nat.pow_le_pow_right (by omega) (by omega)
        have hm : m < 72057594037927936 := by omega
        obtain ⟨c, HCC⟩ : ∃ z, Hid (s.getD i 0 = z) := ⟨_, Lib.hid rfl⟩
        have xi := run_index_S s .i64 (i : Int) i rfl hls
        rw [HCC.out] at xi HN
        have hcl := c.toNat_lt
        have wv : IntKind.u64.wrap ((m : Int) * 256) = (m : Int) * 256 := by rw [IntKind.wrap_u64]; omega
        have wv2 : IntKind.u64.wrap ((m : Int) * 256 + (c.toNat : Int)) = (m : Int) * 256 + (c.toNat : Int) := by rw [IntKind.wrap_u64]; omega
        have wc : IntKind.u64.wrap (c.toNat : Int) = (c.toNat : Int) := by rw [IntKind.wrap_u64]; omega
        clear hlt h7
        go_wp2_with fail
        refine ⟨⟨i, c.toNat + 256 * m, by omega, rfl, ?_, HN⟩, by simp [intOf]⟩
        congr 1
        omega
      · have d8 : decide ((i : Int) < 8) = false := decide_eq_false (by omega)
        have HN : Hid (hiF s i = m) := Lib.hid (by rw [hiF_far (.inl (by omega)), ← HM.out, hiF_far (.inl (by omega))])
        go_wp2_with fail
        refine ⟨⟨i, m, by omega, rfl, rfl, HN⟩, by simp [intOf]⟩
set_option maxRecDepth 100000 in
set_option maxHeartbeats 1000000 in
theorem rput_any (w : World) (n k : Nat) (hn : n < 18446744073709551616) (hk : k ≤ 8) :
    Calls Tryz.prog 33 #[.int .u64 (n : Int), .int .i64 (k : Int)] w fun e w' => e = .returned (S (putL n k)) ∧ Below w.heap.size w w' := by
  have h0 : n / 256 ^ 0 = n := by simp
  go_enter Tryz.func33, Tryz.ntmps33
  go_wp2_with fail
  go_loopw [0, 5, 6] (fun z s i wr => ∃ j m : Nat, j ≤ k ∧ i = .int .i64 (j : Int) ∧ s = S (putL n j) ∧ z = .int .u64 (m : Int) ∧ m < 18446744073709551616 ∧ Hid (n / 256 ^ j = m) ∧ Hid (Below w.heap.size w wr)) (fun _ _ i _ => k - (intOf i).toNat)
  case atStart => exact ⟨0, n, by omega, rfl, rfl, rfl, hn, Lib.hid h0, Lib.hid (Below.refl _ _)⟩
  case round =>
    obtain ⟨j, m, hj, rfl, rfl, rfl, hm, HM, HW⟩ := hrel
    by_cases hlt : j < k
    · have d1 : decide ((j : Int) < (k : Int)) = true := decide_eq_true (by omega)
      have d1' : decide (j < k) = true := decide_eq_true hlt
      have d2 : decide ((j : Int) < 8) = true := decide_eq_true (by omega)
      have HS := Lib.hid (putL_succ n j)
      have HD : Hid (n / 256 ^ (j + 1) = m / 256) := Lib.hid (by rw [Nat.pow_succ, ← Nat.div_div_eq_div_mul, HM.out])
      rw [HM.out] at HS
      have hln := putL_length n j
      have HLN := Lib.hid hln
      have hlb : (putL n j).length ≤ 8 := by omega
      generalize putL n j = s at *
      have m1 : (m : Int).tmod 256 = (m : Int) % 256 := Int.tmod_eq_emod_of_nonneg (by omega)
      have m2 : (m : Int).tdiv 256 = (m : Int) / 256 := Int.tdiv_eq_ediv_of_nonneg (by omega)
      have m3 : IntKind.u8.wrap ((m : Int) % 256) = (m : Int) % 256 := by rw [IntKind.wrap_u8]; omega
      have m4 : IntKind.u64.wrap ((m : Int) / 256) = (m : Int) / 256 := by rw [IntKind.wrap_u64]; omega
      have m5 : IntKind.u64.wrap ((m : Int) % 256) = (m : Int) % 256 := by rw [IntKind.wrap_u64]; omega
      have hcv := fun W p c => run_str_one W p c ((m : Int) % 256) (UInt8.ofNat (m % 256)) (by rw [UInt8.toNat_ofNat']; omega)
      have hno : ¬ (9223372036854775807 < s.length + [UInt8.ofNat (m % 256)].length) := by simp; omega
      have HB1 := Lib.hid (HW.out.alloc HW.out.size (.cells #[.int .u8 ((m : Int) % 256)] 5))
      clear hln
      go_wp2_with fail
      go_roundw
      case rel =>
        have R : ∃ j' m' : Nat, j' ≤ k ∧ Value.int .i64 ((j : Int) + 1) = .int .i64 (j' : Int) ∧ S (s ++ [UInt8.ofNat (m % 256)]) = S (putL n j') ∧ Value.int .u64 ((m : Int) / 256) = .int .u64 (m' : Int) ∧ m' < 18446744073709551616 ∧ Hid (n / 256 ^ j' = m') ∧ Hid (Below w.heap.size w (wr.alloc (.cells #[.int .u8 ((m : Int) % 256)] 5))) := ⟨j + 1, m / 256, by omega, by go_num, by rw [HS.out], by go_num, by omega, HD, HB1⟩
        first | exact R | ((repeat apply Exists.intro); exact ⟨R, rfl⟩)
      case measure => simp [intOf]; omega
    · obtain rfl : j = k := by omega
      have d1 : decide ((j : Int) < (j : Int)) = false := by simp
      have d1' : decide (j < j) = false := by simp
      go_wp2_with fail
      go_ret
      exact ⟨rfl, HW.out⟩
/-- the first k bytes, zeros behind them -/
def pt8 (n k : Nat) : List UInt8 := putL n k ++ List.replicate (8 - k) 0
theorem pt8_set (n : Nat) {k : Nat} (hk : k < 8) : (pt8 n k).set k (UInt8.ofNat (n / 256 ^ k % 256)) = pt8 n (k + 1) := by
  unfold pt8
  have hl := putL_length n k
  rw [List.set_append_right _ _ (by omega), hl, Nat.sub_self, show 8 - k = (8 - (k + 1)) + 1 by omega, List.replicate_succ, List.set_cons_zero, putL_succ]
  simp
theorem pt8_length (n : Nat) {k : Nat} (hk : k ≤ 8) : (pt8 n k).length = 8 := by unfold pt8; rw [List.length_append, putL_length, List.length_replicate]; omega
theorem pt8_take (n k : Nat) : (pt8 n k).take k = putL n k := by unfold pt8; rw [List.take_append_of_le_length (by rw [putL_length]; omega), List.take_of_length_le (by rw [putL_length]; omega)]
theorem B8_getD (l : List UInt8) (k : Nat) : (l.map B8)[k]? = l[k]?.map B8 := List.getElem?_map
set_option maxRecDepth 100000 in
set_option maxHeartbeats 1000000 in
theorem put_any (w : World) (n k : Nat) (hn : n < 18446744073709551616) (hk : k = 2 ∨ k = 4 ∨ k = 8) :
    Calls Tryz.prog 288 #[.int .u64 (n : Int), .int .i64 (k : Int)] w fun e w' => e = .returned (S (putL n k)) ∧ Below w.heap.size w w' := by
  have hk8 : k ≤ 8 := by omega
  have e1 : max (k : Int) 0 = k := by omega
  have e2 : min (k : Int) 8 = k := by omega
  have hz := Whole.made w 343 ((pt8 n 0).map B8).toArray
  have hb := (Below.refl w.heap.size w).alloc (Nat.le_refl _) (.cells ((pt8 n 0).map B8).toArray 343)
  have hq : ((pt8 n 0).map B8).toArray = #[.int .u8 0, .int .u8 0, .int .u8 0, .int .u8 0, .int .u8 0, .int .u8 0, .int .u8 0, .int .u8 0] := rfl
  rw [hq] at hb hz
  have HZ : Hid (Whole (w.alloc (.cells #[.int .u8 0, .int .u8 0, .int .u8 0, .int .u8 0, .int .u8 0, .int .u8 0, .int .u8 0, .int .u8 0] 343)) w.heap.size 343 ((pt8 n 0).map B8).toArray) := Lib.hid (by rw [hq]; exact hz)
  have HB := Lib.hid hb
  clear hz hb hq
  go_enter Tryz.func288, Tryz.ntmps288
  go_upto_region 3 with (first | simp only [e1] | simp only [e2])
  clear e1 e2
  change Code.wp _ _ _ _ (w.alloc (.cells #[.int .u8 0, .int .u8 0, .int .u8 0, .int .u8 0, .int .u8 0, .int .u8 0, .int .u8 0, .int .u8 0] 343))
  generalize w.alloc (.cells #[.int .u8 0, .int .u8 0, .int .u8 0, .int .u8 0, .int .u8 0, .int .u8 0, .int .u8 0, .int .u8 0] 343) = w1 at *
  generalize hgx : w.heap.size = gx at *
  have HGX := Lib.hid hgx
  clear hgx
  go_wp2_with fail
  go_loopw [11] (fun i wr => ∃ j : Nat, j ≤ k ∧ i = .int .i64 (j : Int) ∧ Hid (Whole wr gx 343 ((pt8 n j).map B8).toArray) ∧ Hid (Below gx w wr)) (fun i _ => k - (intOf i).toNat)
  case atStart => exact ⟨0, by omega, rfl, HZ, HB⟩
  case round =>
    clear HZ HB
    obtain ⟨j, hj, rfl, HZ, HB⟩ := hrel
    by_cases hlt : j < k
    · have HS := Lib.hid (pt8_set n (show j < 8 by omega))
      have d1 : decide ((j : Int) < (k : Int)) = true := decide_eq_true (by omega)
      have d1' : decide (j < k) = true := decide_eq_true hlt
      have c0 : wr.cell? ⟨gx, j, none⟩ = some (B8 ((pt8 n j)[j]'(by rw [pt8_length n (by omega)]; omega))) := (HZ.out.cell j).trans (by rw [List.getElem?_toArray, B8_getD, List.getElem?_eq_getElem (by rw [pt8_length n (by omega)]; omega)]; rfl)
      have f0 := HZ.out.free j
      have hkc : j = 0 ∨ j = 1 ∨ j = 2 ∨ j = 3 ∨ j = 4 ∨ j = 5 ∨ j = 6 ∨ j = 7 := by omega
      have HZ1 := Lib.hid (HZ.out.set j (B8 (UInt8.ofNat (n / 256 ^ j % 256))))
      have HB1 := Lib.hid (HB.out.setCell (p := ⟨gx, j, none⟩) (Nat.le_refl _) (B8 (UInt8.ofNat (n / 256 ^ j % 256))))
      generalize (pt8 n j)[j]'_ = c1 at c0
      rcases hkc with rfl | rfl | rfl | rfl | rfl | rfl | rfl | rfl
      · have hsh : IntKind.u8.wrap ((n : Int)) = ((UInt8.ofNat (n / 256 ^ 0 % 256)).toNat : Int) := by
          rw [IntKind.wrap_u8, UInt8.toNat_ofNat']
          simp only [Nat.reducePow]
          omega
        have w64 : IntKind.u64.wrap ((n : Int)) = (n : Int) := by rw [IntKind.wrap_u64]; omega
        generalize UInt8.ofNat (n / 256 ^ 0 % 256) = c at *
        go_wp2_with fail
        refine ⟨⟨1, by omega, rfl, Lib.hid (by rw [← HS.out, List.map_set, ← List.setIfInBounds_toArray]; exact HZ1.out), HB1⟩, by simp [intOf]; omega⟩
      · have hsh : IntKind.u8.wrap ((n : Int) / 256) = ((UInt8.ofNat (n / 256 ^ 1 % 256)).toNat : Int) := by
          rw [IntKind.wrap_u8, UInt8.toNat_ofNat']
          simp only [Nat.reducePow]
          omega
        have w64 : IntKind.u64.wrap ((n : Int) / 256) = (n : Int) / 256 := by rw [IntKind.wrap_u64]; omega
        generalize UInt8.ofNat (n / 256 ^ 1 % 256) = c at *
        go_wp2_with fail
        refine ⟨⟨2, by omega, rfl, Lib.hid (by rw [← HS.out, List.map_set, ← List.setIfInBounds_toArray]; exact HZ1.out), HB1⟩, by simp [intOf]; omega⟩
      · have hsh : IntKind.u8.wrap ((n : Int) / 65536) = ((UInt8.ofNat (n / 256 ^ 2 % 256)).toNat : Int) := by
          rw [IntKind.wrap_u8, UInt8.toNat_ofNat']
          simp only [Nat.reducePow]
          omega
        have w64 : IntKind.u64.wrap ((n : Int) / 65536) = (n : Int) / 65536 := by rw [IntKind.wrap_u64]; omega
        generalize UInt8.ofNat (n / 256 ^ 2 % 256) = c at *
        go_wp2_with fail
        refine ⟨⟨3, by omega, rfl, Lib.hid (by rw [← HS.out, List.map_set, ← List.setIfInBounds_toArray]; exact HZ1.out), HB1⟩, by simp [intOf]; omega⟩
      · have hsh : IntKind.u8.wrap ((n : Int) / 16777216) = ((UInt8.ofNat (n / 256 ^ 3 % 256)).toNat : Int) := by
          rw [IntKind.wrap_u8, UInt8.toNat_ofNat']
          simp only [Nat.reducePow]
          omega
        have w64 : IntKind.u64.wrap ((n : Int) / 16777216) = (n : Int) / 16777216 := by rw [IntKind.wrap_u64]; omega
        generalize UInt8.ofNat (n / 256 ^ 3 % 256) = c at *
        go_wp2_with fail
        refine ⟨⟨4, by omega, rfl, Lib.hid (by rw [← HS.out, List.map_set, ← List.setIfInBounds_toArray]; exact HZ1.out), HB1⟩, by simp [intOf]; omega⟩
      · have hsh : IntKind.u8.wrap ((n : Int) / 4294967296) = ((UInt8.ofNat (n / 256 ^ 4 % 256)).toNat : Int) := by
          rw [IntKind.wrap_u8, UInt8.toNat_ofNat']
          simp only [Nat.reducePow]
          omega
        have w64 : IntKind.u64.wrap ((n : Int) / 4294967296) = (n : Int) / 4294967296 := by rw [IntKind.wrap_u64]; omega
        generalize UInt8.ofNat (n / 256 ^ 4 % 256) = c at *
        go_wp2_with fail
        refine ⟨⟨5, by omega, rfl, Lib.hid (by rw [← HS.out, List.map_set, ← List.setIfInBounds_toArray]; exact HZ1.out), HB1⟩, by simp [intOf]; omega⟩
      · have hsh : IntKind.u8.wrap ((n : Int) / 1099511627776) = ((UInt8.ofNat (n / 256 ^ 5 % 256)).toNat : Int) := by
          rw [IntKind.wrap_u8, UInt8.toNat_ofNat']
          simp only [Nat.reducePow]
          omega
        have w64 : IntKind.u64.wrap ((n : Int) / 1099511627776) = (n : Int) / 1099511627776 := by rw [IntKind.wrap_u64]; omega
        generalize UInt8.ofNat (n / 256 ^ 5 % 256) = c at *
        go_wp2_with fail
        refine ⟨⟨6, by omega, rfl, Lib.hid (by rw [← HS.out, List.map_set, ← List.setIfInBounds_toArray]; exact HZ1.out), HB1⟩, by simp [intOf]; omega⟩
      · have hsh : IntKind.u8.wrap ((n : Int) / 281474976710656) = ((UInt8.ofNat (n / 256 ^ 6 % 256)).toNat : Int) := by
          rw [IntKind.wrap_u8, UInt8.toNat_ofNat']
          simp only [Nat.reducePow]
          omega
        have w64 : IntKind.u64.wrap ((n : Int) / 281474976710656) = (n : Int) / 281474976710656 := by rw [IntKind.wrap_u64]; omega
        generalize UInt8.ofNat (n / 256 ^ 6 % 256) = c at *
        go_wp2_with fail
        refine ⟨⟨7, by omega, rfl, Lib.hid (by rw [← HS.out, List.map_set, ← List.setIfInBounds_toArray]; exact HZ1.out), HB1⟩, by simp [intOf]; omega⟩
      · have hsh : IntKind.u8.wrap ((n : Int) / 72057594037927936) = ((UInt8.ofNat (n / 256 ^ 7 % 256)).toNat : Int) := by
          rw [IntKind.wrap_u8, UInt8.toNat_ofNat']
          simp only [Nat.reducePow]
          omega
        have w64 : IntKind.u64.wrap ((n : Int) / 72057594037927936) = (n : Int) / 72057594037927936 := by rw [IntKind.wrap_u64]; omega
        generalize UInt8.ofNat (n / 256 ^ 7 % 256) = c at *
        go_wp2_with fail
        refine ⟨⟨8, by omega, rfl, Lib.hid (by rw [← HS.out, List.map_set, ← List.setIfInBounds_toArray]; exact HZ1.out), HB1⟩, by simp [intOf]; omega⟩
    · obtain rfl : j = k := by omega
      have d1 : decide ((j : Int) < (j : Int)) = false := by simp
      have d1' : decide (j < j) = false := by simp
      have hcv := run_convert_bytes_back wr 57 9 5 ⟨gx, 0, none⟩ 8 (putL n j) Tryz.underlying57 Tryz.underlying5 Tryz.underlying9 (fun i hi => by
        rw [putL_length] at hi
        rw [show (⟨gx, 0, none⟩ : Addr).add i = ⟨gx, i, none⟩ by unfold Addr.add; split <;> simp_all, HZ.out.cell i, List.getElem?_toArray, B8_getD]
        have := pt8_take n j
        have h2 : (pt8 n j)[i]? = some ((putL n j)[i]'(by rw [putL_length]; exact hi)) := by
          rw [← List.getElem?_eq_getElem, ← this, List.getElem?_take, if_pos hi]
        rw [h2]; rfl)
      rw [putL_length] at hcv
      have j8 : (j : Int) ≤ 8 := by omega
      have j0 : (0 : Int) ≤ (j : Int) := by omega
      go_wp2_with fail
      go_ret
      exact ⟨rfl, by rw [HGX.out]; exact HB.out⟩
end Go.Proofs.YtmdciljpcnokcaaGreatDoor
