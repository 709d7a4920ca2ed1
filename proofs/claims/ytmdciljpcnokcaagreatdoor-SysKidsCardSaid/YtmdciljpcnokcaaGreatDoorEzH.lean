/-
  A run of closed code by the kernel: irGeom's numbers are geom.Of's (no program in sight).
-/
import Derived.Test.YtmdciljpcnokcaaGreatDoorEzG
import Derived.Test.YtmdciljpcnokcaaGreatDoorVolA
namespace Go.Proofs.YtmdciljpcnokcaaGreatDoor.Ex
open Go.RowKit
/-- the bytes of a number -/
def b256 : Nat → Nat → List UInt8
  | 0, _ => []
  | l + 1, n => UInt8.ofNat (n % 256) :: b256 l (n / 256)
def nat256 : List UInt8 → Nat
  | [] => 0
  | x :: l => x.toNat + 256 * nat256 l
theorem b256_length : ∀ l n, (b256 l n).length = l
  | 0, _ => rfl
  | l + 1, n => congrArg (· + 1) (b256_length l (n / 256))
theorem getD_b256 : ∀ (l n i : Nat), i < l → (b256 l n).getD i 0 = UInt8.ofNat (n / 256 ^ i % 256)
  | 0, _, _, h => absurd h (Nat.not_lt_zero _)
  | l + 1, n, 0, _ => by simp [b256]
  | l + 1, n, i + 1, h => by
    have := getD_b256 l (n / 256) i (by omega)
    simp only [b256, List.getD_cons_succ, this]
    rw [Nat.div_div_eq_div_mul, ← Nat.pow_succ']
theorem bitB_b256 [Sig] (n i : Nat) (hi : i < 1024) : bitB (b256 128 n) i = n.testBit i := by
  unfold bitB
  rw [getD_b256 128 n (i / 8) (by omega)]
  rw [UInt8.toNat_ofNat', Nat.mod_mod_of_dvd _ (by decide), Nat.testBit_eq_decide_div_mod_eq]
  have h256 : (256 : Nat) ^ (i / 8) = 2 ^ (8 * (i / 8)) := by rw [Nat.pow_mul]
  have e1 : n / 256 ^ (i / 8) % 256 / 2 ^ (i % 8) % 2 = n / 2 ^ i % 2 := by
    have hlt : i % 8 < 8 := Nat.mod_lt _ (by decide)
    have h8 : (256 : Nat) = 2 ^ (i % 8) * (2 * 2 ^ (7 - i % 8)) := by
      rw [← Nat.pow_succ', ← Nat.pow_add]
      have : i % 8 + (7 - i % 8 + 1) = 8 := by omega
      rw [this]
    generalize hm : n / 256 ^ (i / 8) = m
    have e2 : m % 256 / 2 ^ (i % 8) % 2 = m / 2 ^ (i % 8) % 2 := by
      conv => lhs; rw [h8]
      rw [Nat.mod_mul_right_div_self, Nat.mod_mul_right_mod]
    rw [e2, ← hm, h256, Nat.div_div_eq_div_mul, ← Nat.pow_add]
    congr 3
    omega
  rw [e1]
  rw [Bool.eq_iff_iff, beq_iff_eq, decide_eq_true_eq]
theorem b256_add : ∀ (a b n : Nat), b256 (a + b) n = b256 a n ++ b256 b (n / 256 ^ a)
  | 0, b, n => by simp [b256]
  | a + 1, b, n => by
    rw [show a + 1 + b = (a + b) + 1 by omega]
    simp only [b256, List.cons_append]
    rw [b256_add a b (n / 256), Nat.div_div_eq_div_mul, ← Nat.pow_succ']
theorem two_at [Sig] (n a : Nat) (h : a + 2 ≤ 128) : ((b256 128 n).drop a).take 2 = [UInt8.ofNat (n / 256 ^ a % 256), UInt8.ofNat (n / 256 ^ (a + 1) % 256)] := by
  have e : 128 = a + (2 + (126 - a)) := by omega
  rw [e, b256_add a, List.drop_left' (b256_length a n), b256_add 2, List.take_left' (b256_length 2 _)]
  simp only [b256]
  rw [Nat.div_div_eq_div_mul, ← Nat.pow_succ]
theorem getL_two (x y : Nat) (hx : x < 256) (hy : y < 256) : Go.Proofs.YtmdciljpcnokcaaGreatDoor.getL [UInt8.ofNat x, UInt8.ofNat y] = x + 256 * y := by
  simp [Go.Proofs.YtmdciljpcnokcaaGreatDoor.getL, getF]
  omega
theorem mapAll_bits [Sig] (s d b N : Nat) (hN : N = 1024) (hd : d ≤ 1024) (hs : s < 2 ^ N) : mapAll (b256 128 s) (d : Int) (b : Int) 1024 = true ↔ s % 2 ^ d = 2 ^ d - 1 ∧ s < 2 ^ b := by
  have hall : mapAll (b256 128 s) (d : Int) (b : Int) 1024 = true ↔ ∀ i, i < 1024 → (i < d → s.testBit i = true) ∧ (b ≤ i → s.testBit i = false) := by
    unfold mapAll
    rw [List.all_eq_true]
    constructor
    · intro h i hi
      have := h i (List.mem_range.2 hi)
      unfold mapB at this
      rw [bitB_b256 s i hi] at this
      cases ht : s.testBit i <;> simp [ht] at this ⊢ <;> omega
    · intro h i hi
      have hi := List.mem_range.1 hi
      obtain ⟨h1, h2⟩ := h i hi
      unfold mapB
      rw [bitB_b256 s i hi]
      cases ht : s.testBit i with
      | true =>
        have : ¬ b ≤ i := fun hb => by rw [h2 hb] at ht; cases ht
        simp
        omega
      | false =>
        have : ¬ i < d := fun hb => by rw [h1 hb] at ht; cases ht
        simp
        omega
  rw [hall]
  constructor
  · intro h
    refine ⟨?_, ?_⟩
    · apply Nat.eq_of_testBit_eq
      intro i
      rw [Nat.testBit_mod_two_pow, Nat.testBit_two_pow_sub_one]
      by_cases hi : i < d
      · simp [hi, (h i (by omega)).1 hi]
      · simp [hi]
    · apply Nat.lt_pow_two_of_testBit
      intro i hi
      rcases Nat.lt_or_ge i 1024 with h1 | h1
      · exact (h i h1).2 hi
      · exact Nat.testBit_lt_two_pow (Nat.lt_of_lt_of_le hs (Nat.pow_le_pow_right (by decide) (hN ▸ h1)))
  · rintro ⟨h1, h2⟩ i hi
    refine ⟨fun hd' => ?_, fun hb => Nat.testBit_lt_two_pow (Nat.lt_of_lt_of_le h2 (Nat.pow_le_pow_right (by decide) hb))⟩
    have := congrArg (fun x => Nat.testBit x i) h1
    simp only [Nat.testBit_mod_two_pow, Nat.testBit_two_pow_sub_one, hd', decide_true, Bool.true_and] at this
    exact this
theorem nat256_b256 : ∀ (l n : Nat), nat256 (b256 l n) = n % 256 ^ l
  | 0, n => by simp [b256, nat256, Nat.mod_one]
  | l + 1, n => by
    simp only [b256, nat256, nat256_b256 l]
    rw [Nat.pow_succ', Nat.mod_mul]
    congr 1
    simp
theorem b256_inj' [Sig] {l x y : Nat} (hx : x < 256 ^ l) (hy : y < 256 ^ l) (h : b256 l x = b256 l y) : x = y := by
  have := congrArg nat256 h
  rwa [nat256_b256, nat256_b256, Nat.mod_eq_of_lt hx, Nat.mod_eq_of_lt hy] at this
theorem b256_zero : ∀ l, b256 l 0 = List.replicate l 0
  | 0 => rfl
  | l + 1 => by
    simp only [b256, Nat.zero_div, b256_zero l, List.replicate_succ]
    rfl
theorem headL_first [Sig] (b i : Nat) (hb : b < 65536) (hi : i < 65536) : headL b i = b256 128 (geomFirst b i) := by
  have hg : geomFirst b i = 828533096 + 4294967296 * (b + 65536 * i) := rfl
  have e1 : geomFirst b i / 256 ^ 4 = b + 65536 * i := by rw [hg]; omega
  have e2 : (b + 65536 * i) / 256 ^ 2 = i := by omega
  have e3 : i / 256 ^ 2 = 0 := by omega
  rw [show (128 : Nat) = 4 + (2 + (2 + 120)) from rfl, b256_add 4, b256_add 2, b256_add 2, e1, e2, e3, b256_zero]
  have f1 : b256 4 (geomFirst b i) = [104, 105, 98, 49] := by
    simp only [b256]
    have h1 : geomFirst b i % 256 = 104 := by rw [hg]; omega
    have h2 : geomFirst b i / 256 % 256 = 105 := by rw [hg]; omega
    have h3 : geomFirst b i / 256 / 256 % 256 = 98 := by rw [hg]; omega
    have h4 : geomFirst b i / 256 / 256 / 256 % 256 = 49 := by rw [hg]; omega
    rw [h1, h2, h3, h4]
    rfl
  have f2 : b256 2 (b + 65536 * i) = Go.Proofs.YtmdciljpcnokcaaGreatDoor.putL b 2 := by
    rw [putL_two]
    simp only [b256]
    have h1 : (b + 65536 * i) % 256 = b % 256 := by omega
    have h2 : (b + 65536 * i) / 256 % 256 = b / 256 % 256 := by omega
    rw [h1, h2]
  have f3 : b256 2 i = Go.Proofs.YtmdciljpcnokcaaGreatDoor.putL i 2 := by rw [putL_two]; rfl
  rw [f1, f2, f3]
  simp [headL]
theorem geomFirst_lt (b i : Nat) (hb : b < 65536) (hi : i < 65536) : geomFirst b i < 256 ^ 128 := by
  have hg : geomFirst b i = 828533096 + 4294967296 * (b + 65536 * i) := rfl
  have : geomFirst b i < 256 ^ 8 := by rw [hg]; omega
  exact Nat.lt_of_lt_of_le this (Nat.pow_le_pow_right (by decide) (by decide))
theorem pow_flat {s m k : Nat} (h : s < (2 ^ m) ^ k) : s < 2 ^ (m * k) := by rw [Nat.pow_mul]; exact h
theorem big128 [Sig] {s k : Nat} (hk : k = 128) (h : s < 256 ^ k) : ∃ N, N = 1024 ∧ s < 2 ^ N := ⟨8 * k, by omega, pow_flat (m := 8) h⟩
theorem geomB_iff [Sig] {v : List (List UInt8)} {s0 s2 : Nat} (hall : v.all is128 = true) (h16 : 16 ≤ v.length) (g0 : v.getD 0 [] = b256 128 s0) (g2 : v.getD 2 [] = b256 128 s2) (hs0 : s0 < 256 ^ 128) (hs2 : s2 < 256 ^ 128) :
    inoL v = s0 / 281474976710656 % 65536 ∧ (geomB v = true ↔ planE (v.length : Int) ((s0 / 281474976710656 % 65536 : Nat) : Int) = 0 ∧ s0 = geomFirst v.length (s0 / 281474976710656 % 65536) ∧
      s2 % 2 ^ (3 + (s0 / 281474976710656 % 65536 + 1) / 2) = 2 ^ (3 + (s0 / 281474976710656 % 65536 + 1) / 2) - 1 ∧ s2 < 2 ^ v.length) := by
  have hino : inoL v = s0 / 281474976710656 % 65536 := by
    unfold inoL
    rw [g0, two_at s0 6 (by decide), getL_two _ _ (Nat.mod_lt _ (by decide)) (Nat.mod_lt _ (by decide))]
    omega
  refine ⟨hino, ?_⟩
  generalize hi : s0 / 281474976710656 % 65536 = inn at hino ⊢
  have hinn : inn < 65536 := by omega
  obtain ⟨N, hN, hs2'⟩ := big128 rfl hs2
  unfold geomB
  rw [hall, hino, g0, g2]
  simp only [Bool.true_and, Bool.and_eq_true, decide_eq_true_eq]
  constructor
  · rintro ⟨⟨⟨_, h3⟩, h4⟩, h5⟩
    have hp := planE_zero.1 h3
    have h4' : s0 = geomFirst v.length inn := b256_inj' hs0 (geomFirst_lt _ _ (by omega) hinn) (h4.trans (headL_first _ _ (by omega) hinn))
    have h5' := (mapAll_bits s2 (3 + (inn + 1) / 2) v.length N hN (by omega) hs2').1 (by simpa using h5)
    exact ⟨h3, h4', h5'⟩
  · rintro ⟨h3, h4, h5⟩
    have hp := planE_zero.1 h3
    refine ⟨⟨⟨h16, h3⟩, ?_⟩, ?_⟩
    · rw [headL_first _ _ (by omega) hinn, ← h4]
    · have := (mapAll_bits s2 (3 + (inn + 1) / 2) v.length N hN (by omega) hs2').2 h5
      simpa using this
theorem ifK_true {c x y : Bool} (h : ifK c x y = true) : (c = true ∧ x = true) ∨ (c = false ∧ y = true) := by
  cases c with
  | true => exact .inl ⟨rfl, h⟩
  | false => exact .inr ⟨rfl, h⟩
theorem nthN_true : ∀ {l : List Nat} {n : Nat} {k : Nat → Bool}, nthN l n k = true → ∃ x, l[n]? = some x ∧ k x = true
  | [], _, _, h => by cases h
  | x :: l, 0, k, h => ⟨x, by simp, h⟩
  | x :: l, n + 1, k, h => by
    obtain ⟨y, h1, h2⟩ := nthN_true (show nthN l n k = true from h)
    exact ⟨y, by simpa using h1, h2⟩
/-- what irGeom tells of a volume -/
def geoOut (v : List (List UInt8)) : Va := .t [.g ((geomL v).map fun z => .int 3 z), .s (.int 3 (geomE v))]
theorem geomBad_out {v : List (List UInt8)} (hB : geomB v = false) {H : Hp} {k : Va → Hp → Bool} (h : geomBad H k = true) : k (geoOut v) H = true := by
  have e : geoOut v = .t [.g [.int 3 0, .int 3 0, .int 3 0, .int 3 0, .int 3 0, .int 3 0], .s (.int 3 3)] := by
    unfold geoOut geomL geomE
    rw [hB]
    rfl
  rw [e]
  exact h
theorem geomK_true [Sig] {n : Nat} {v : List (List UInt8)} {s0 s2 : Nat} (hn : n = v.length) (hall : v.all is128 = true) (h16 : 16 ≤ v.length) (g0 : v.getD 0 [] = b256 128 s0) (g2 : v.getD 2 [] = b256 128 s2) (hs0 : s0 < 256 ^ 128) (hs2 : s2 < 256 ^ 128)
    {H : Hp} {k : Va → Hp → Bool} (h : geomK n s0 s2 H k = true) : k (geoOut v) H = true := by
  subst hn
  have h1 := h
  unfold geomK at h1
  rw [fNat_eq, fNat_eq] at h1
  obtain ⟨hino, hiff⟩ := geomB_iff hall h16 g0 g2 hs0 hs2
  generalize hbl : Nat.mod (Nat.div s0 4294967296) 65536 = bl at h1
  generalize hinn : Nat.mod (Nat.div s0 281474976710656) 65536 = inn at h1
  have hbl : s0 / 4294967296 % 65536 = bl := hbl
  have hinn : s0 / 281474976710656 % 65536 = inn := hinn
  rw [hinn] at hino hiff
  have key : geomB v = true → 16 ≤ bl ∧ bl ≤ 223 ∧ 4 ≤ inn ∧ inn ≤ 64 ∧ 3 + (inn + 1) / 2 < bl ∧ bl = v.length ∧ s0 = geomFirst bl inn ∧ s2 % 2 ^ (3 + (inn + 1) / 2) = 2 ^ (3 + (inn + 1) / 2) - 1 ∧ s2 < 2 ^ bl := by
    intro hB
    obtain ⟨a1, a2, a3, a4⟩ := hiff.1 hB
    have hp := planE_zero.1 a1
    have hbn : bl = v.length := by
      have hg : geomFirst v.length inn = 828533096 + 4294967296 * (v.length + 65536 * inn) := rfl
      rw [hg] at a2
      omega
    refine ⟨by omega, by omega, by omega, by omega, by omega, hbn, by rw [hbn]; exact a2, a3, by rw [hbn]; exact a4⟩
  have bad : ∀ {c : Bool}, (geomB v = true → c = true) → c = false → geomBad H k = true → k (geoOut v) H = true := by
    intro c hc he hb
    refine geomBad_out ?_ hb
    cases hB : geomB v with
    | false => rfl
    | true => rw [hc hB] at he; cases he
  rcases ifK_true h1 with ⟨c1, h1⟩ | ⟨c1, h1⟩
  rotate_left
  · exact bad (fun hB => Nat.ble_eq_true_of_le (key hB).1) c1 h1
  rcases ifK_true (show ifK (Nat.ble bl 223) _ _ = true from h1) with ⟨c2, h1⟩ | ⟨c2, h1⟩
  rotate_left
  · exact bad (fun hB => Nat.ble_eq_true_of_le (key hB).2.1) c2 h1
  rcases ifK_true h1 with ⟨c3, h1⟩ | ⟨c3, h1⟩
  rotate_left
  · exact bad (fun hB => Nat.ble_eq_true_of_le (key hB).2.2.1) c3 h1
  rcases ifK_true (show ifK (Nat.ble inn 64) _ _ = true from h1) with ⟨c4, h1⟩ | ⟨c4, h1⟩
  rotate_left
  · exact bad (fun hB => Nat.ble_eq_true_of_le (key hB).2.2.2.1) c4 h1
  rw [fNat_eq] at h1
  rcases ifK_true (show ifK (Nat.blt (3 + (inn + 1) / 2) bl) _ _ = true from h1) with ⟨c5, h1⟩ | ⟨c5, h1⟩
  rotate_left
  · exact bad (fun hB => Nat.ble_eq_true_of_le (key hB).2.2.2.2.1) c5 h1
  rcases ifK_true (show ifK (Nat.beq bl v.length) _ _ = true from h1) with ⟨c6, h1⟩ | ⟨c6, h1⟩
  rotate_left
  · exact bad (fun hB => by rw [(key hB).2.2.2.2.2.1]; exact Nat.beq_refl _) c6 h1
  rcases ifK_true (show ifK (Nat.beq s0 (geomFirst bl inn)) _ _ = true from h1) with ⟨c7, h1⟩ | ⟨c7, h1⟩
  rotate_left
  · exact bad (fun hB => by rw [← (key hB).2.2.2.2.2.2.1]; exact Nat.beq_refl _) c7 h1
  rcases ifK_true (show ifK (Nat.beq (s2 % 2 ^ (3 + (inn + 1) / 2)) (2 ^ (3 + (inn + 1) / 2) - 1)) _ _ = true from h1) with ⟨c8, h1⟩ | ⟨c8, h1⟩
  rotate_left
  · exact bad (fun hB => by rw [(key hB).2.2.2.2.2.2.2.1]; exact Nat.beq_refl _) c8 h1
  rcases ifK_true (show ifK (Nat.blt s2 (2 ^ bl)) _ _ = true from h1) with ⟨c9, h1⟩ | ⟨c9, h1⟩
  rotate_left
  · exact bad (fun hB => Nat.ble_eq_true_of_le (key hB).2.2.2.2.2.2.2.2) c9 h1
  have b6 := beq_true c6
  have b1 := ble_true c1
  have b2 := ble_true c2
  have b3 := ble_true c3
  have b4 := ble_true c4
  have b5 := blt_true c5
  have hpl : planE (v.length : Int) (inn : Int) = 0 := planE_zero.2 ⟨by omega, by omega, by omega, by omega, by omega⟩
  have hB : geomB v = true := hiff.2 ⟨hpl, by rw [← b6]; exact beq_true c7, beq_true c8, by rw [← b6]; exact blt_true c9⟩
  have e : geoOut v = .t [.g [.int 3 (Int.ofNat bl), .int 3 (Int.ofNat inn), .int 3 1, .int 3 2, .int 3 3, .int 3 (Int.ofNat (3 + (inn + 1) / 2))], .s (.int 3 0)] := by
    unfold geoOut geomL geomE
    rw [if_pos hB, if_pos hB, hino]
    unfold planL
    rw [if_pos hpl, ← b6]
    simp
  rw [e]
  exact h1
theorem bytesOf_zeros [Sig] : ∀ l, bytesOf l 0 = b256 l 0
  | 0 => rfl
  | l + 1 => by
    have e : (0 : Nat) / 65536 = 0 := rfl
    simp only [bytesOf, b256, e, bytesOf_zeros l]
    rfl
theorem packK_true [Sig] : ∀ {l s : Nat} {k : Nat → Bool}, packK l s k = true → ∃ m, k m = true ∧ bytesOf l s = b256 l m ∧ m < 256 ^ l
  | 0, s, k, h => ⟨0, h, rfl, by simp⟩
  | l + 1, s, k, h => by
    rcases ifK_true (show ifK (Nat.beq s 0) (k 0) (andK (Nat.blt (Nat.mod s 65536) 256) (packK l (Nat.div s 65536) fun m => fNat (Nat.add (Nat.mod s 65536) (Nat.mul 256 m)) k)) = true from h) with ⟨c, h1⟩ | ⟨_, h1⟩
    · obtain rfl := beq_true c
      exact ⟨0, h1, bytesOf_zeros _, Nat.pow_pos (by decide)⟩
    · obtain ⟨h2, h3⟩ := andK_true h1
      have h2 : s % 65536 < 256 := blt_true h2
      obtain ⟨m, h4, h5, h6⟩ := packK_true h3
      rw [fNat_eq] at h4
      refine ⟨_, h4, ?_, ?_⟩
      · have e1 : (s % 65536 + 256 * m) % 256 = s % 65536 := by omega
        have e2 : (s % 65536 + 256 * m) / 256 = m := by omega
        show dgt (s % 65536) :: bytesOf l (s / 65536) = UInt8.ofNat ((s % 65536 + 256 * m) % 256) :: b256 l ((s % 65536 + 256 * m) / 256)
        rw [e1, e2, dgt_lt h2]
        exact congrArg _ h5
      · show s % 65536 + 256 * m < 256 ^ (l + 1)
        rw [Nat.pow_succ]
        omega
end Go.Proofs.YtmdciljpcnokcaaGreatDoor.Ex
