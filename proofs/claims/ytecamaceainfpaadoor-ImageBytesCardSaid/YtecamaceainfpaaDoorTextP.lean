/-
  Plain: the texts of a row of bytes, or the error's number. No program in sight.
-/
import Derived.Test.YtecamaceainfpaaDoorInj
namespace Go.Proofs.YtecamaceainfpaaDoor
open Go.RowKit

/-- a length that bytes begin with, and what is left of them; or the error's number -/
def lenGo : Nat → Nat → List UInt8 → Except Int (Nat × List UInt8)
  | _, _, [] => .error 4
  | k, n, c :: r =>
    if k = 3 ∧ 128 ≤ c.toNat then .error 3
    else if 128 ≤ c.toNat then lenGo (k + 1) (n + c.toNat % 128 * 128 ^ k) r
    else if c.toNat = 0 ∧ 0 < k then .error 3
    else .ok (n + c.toNat % 128 * 128 ^ k, r)
theorem lenGo_nil (k n : Nat) : lenGo k n [] = .error 4 := rfl
theorem lenGo_far {k n : Nat} {c : UInt8} {r : List UInt8} (hk : k = 3) (hc : 128 ≤ c.toNat) : lenGo k n (c :: r) = .error 3 := by rw [lenGo, if_pos ⟨hk, hc⟩]
theorem lenGo_on {k n : Nat} {c : UInt8} {r : List UInt8} (hk : k ≠ 3) (hc : 128 ≤ c.toNat) : lenGo k n (c :: r) = lenGo (k + 1) (n + c.toNat % 128 * 128 ^ k) r := by rw [lenGo, if_neg (fun h => hk h.1), if_pos hc]
theorem lenGo_zero {k n : Nat} {c : UInt8} {r : List UInt8} (hk : 0 < k) (hc : c.toNat = 0) : lenGo k n (c :: r) = .error 3 := by rw [lenGo, if_neg (fun h => by omega), if_neg (by omega), if_pos ⟨hc, hk⟩]
theorem lenGo_end {k n : Nat} {c : UInt8} {r : List UInt8} (hc : c.toNat < 128) (h : c.toNat ≠ 0 ∨ k = 0) : lenGo k n (c :: r) = .ok (n + c.toNat % 128 * 128 ^ k, r) := by rw [lenGo, if_neg (fun h => by omega), if_neg (by omega), if_neg (fun h => by omega)]
theorem lenGo_lt : ∀ (b : List UInt8) (k n m : Nat) (r : List UInt8), lenGo k n b = .ok (m, r) → r.length < b.length
  | [], _, _, _, _, h => by cases h
  | c :: b, k, n, m, r, h => by
    unfold lenGo at h
    split at h
    · cases h
    · split at h
      · have := lenGo_lt b _ _ _ _ h
        simp; omega
      · split at h
        · cases h
        · injection h with h; injection h with h1 h2; subst h2; simp
theorem lenGo_lenB (m : Nat) : ∀ (k n : Nat) (x : List UInt8), k ≤ 3 → m < 128 ^ (4 - k) → (k = 0 ∨ 0 < m) → lenGo k n (lenB m ++ x) = .ok (n + m * 128 ^ k, x) := by
  induction m using Nat.strongRecOn with
  | ind m ih =>
    intro k n x hk hm h0
    by_cases hs : m < 128
    · rw [lenB_small hs]
      have hc : (UInt8.ofNat m).toNat = m := by rw [UInt8.toNat_ofNat']; omega
      show lenGo k n (UInt8.ofNat m :: x) = _
      rw [lenGo_end (by omega) (by omega), hc, Nat.mod_eq_of_lt hs]
    · rw [lenB_big hs]
      have hc : (UInt8.ofNat (m % 128 + 128)).toNat = m % 128 + 128 := by rw [UInt8.toNat_ofNat']; omega
      have hk3 : k ≠ 3 := by rintro rfl; simp at hm; omega
      show lenGo k n (UInt8.ofNat (m % 128 + 128) :: (lenB (m / 128) ++ x)) = _
      rw [lenGo_on hk3 (by omega), hc, ih (m / 128) (by omega) (k + 1) _ x (by omega) ?_ (.inr (by omega))]
      · congr 2
        rw [show (m % 128 + 128) % 128 = m % 128 by omega, Nat.pow_succ]
        have := Nat.div_add_mod m 128
        generalize 128 ^ k = p at *
        calc n + m % 128 * p + m / 128 * (p * 128) = n + (128 * (m / 128) + m % 128) * p := by rw [Nat.add_mul]; rw [Nat.mul_comm p 128, ← Nat.mul_assoc, Nat.mul_comm (m / 128) 128]; omega
          _ = n + m * p := by rw [this]
      · rw [Nat.div_lt_iff_lt_mul (by omega)]
        rw [show 4 - k = (4 - (k + 1)) + 1 by omega, Nat.pow_succ] at hm
        exact hm
theorem lenGo_inv : ∀ (b : List UInt8) (k n m : Nat) (r : List UInt8), lenGo k n b = .ok (m, r) → ∃ q, m = n + q * 128 ^ k ∧ b = lenB q ++ r ∧ (0 < k → 0 < q)
  | [], _, _, _, _, h => by cases h
  | c :: b, k, n, m, r, h => by
    have hcl := c.toNat_lt
    unfold lenGo at h
    split at h
    · cases h
    · split at h
      · rename_i hc
        obtain ⟨q, h1, h2, h3⟩ := lenGo_inv b _ _ _ _ h
        have hq := h3 (by omega)
        refine ⟨c.toNat % 128 + 128 * q, ?_, ?_, fun _ => by omega⟩
        · rw [h1, Nat.pow_succ, Nat.add_mul, Nat.add_assoc]
          congr 2
          rw [Nat.mul_comm (128 ^ k) 128, ← Nat.mul_assoc, Nat.mul_comm q 128]
        · rw [lenB_big (by omega), show (c.toNat % 128 + 128 * q) / 128 = q by omega, show (c.toNat % 128 + 128 * q) % 128 + 128 = c.toNat by omega, h2]
          simp
      · split at h
        · cases h
        · rename_i hc h0
          injection h with h; injection h with h1 h2
          subst h2
          refine ⟨c.toNat, by rw [← h1, Nat.mod_eq_of_lt (by omega)], ?_, fun hk => by omega⟩
          rw [lenB_small (by omega)]; simp

/-- the texts of a row, behind those that were taken already; or the error's number -/
def textsA (acc : List (List UInt8)) (b : List UInt8) : Except Int (List (List UInt8)) :=
  if b = [] then .ok acc
  else
    match _h : lenGo 0 0 b with
    | .error e => .error e
    | .ok (n, r) => if r.length < n then .error 4 else textsA (acc ++ [r.take n]) (r.drop n)
termination_by b.length
decreasing_by
  have := lenGo_lt _ _ _ _ _ (by assumption)
  simp; omega
theorem textsA_nil (acc : List (List UInt8)) : textsA acc [] = .ok acc := by rw [textsA, if_pos rfl]
theorem textsA_err {acc : List (List UInt8)} {b : List UInt8} {e : Int} (hb : b ≠ []) (h : lenGo 0 0 b = .error e) : textsA acc b = .error e := by
  rw [textsA, if_neg hb]
  split
  · rename_i h2; rw [h] at h2; injection h2 with h2; rw [h2]
  · rename_i h2; rw [h] at h2; cases h2
theorem textsA_short {acc : List (List UInt8)} {b : List UInt8} {n : Nat} {r : List UInt8} (hb : b ≠ []) (h : lenGo 0 0 b = .ok (n, r)) (hn : r.length < n) : textsA acc b = .error 4 := by
  rw [textsA, if_neg hb]
  split
  · rename_i h2; rw [h] at h2; cases h2
  · rename_i h2; rw [h] at h2; injection h2 with h2; injection h2 with h3 h4; subst h3 h4; rw [if_pos hn]
theorem textsA_go {acc : List (List UInt8)} {b : List UInt8} {n : Nat} {r : List UInt8} (hb : b ≠ []) (h : lenGo 0 0 b = .ok (n, r)) (hn : ¬ r.length < n) : textsA acc b = textsA (acc ++ [r.take n]) (r.drop n) := by
  rw [textsA, if_neg hb]
  split
  · rename_i h2; rw [h] at h2; cases h2
  · rename_i h2; rw [h] at h2; injection h2 with h2; injection h2 with h3 h4; subst h3 h4; rw [if_neg hn]
theorem texts_rowB : ∀ (ls acc : List (List UInt8)), (∀ l ∈ ls, l.length < 268435456) → textsA acc (rowB ls) = .ok (acc ++ ls)
  | [], acc, _ => by rw [rowB_nil, textsA_nil, List.append_nil]
  | l :: ls, acc, h => by
    have hl := h l (List.mem_cons_self ..)
    rw [rowB_cons, List.append_assoc]
    have hg := lenGo_lenB l.length 0 0 (l ++ rowB ls) (by omega) (by simpa using hl) (.inl rfl)
    rw [textsA_go (by simp [lenB_ne]) hg (by simp)]
    rw [show 0 + l.length * 128 ^ 0 = l.length by simp, List.take_left' rfl, List.drop_left' rfl, texts_rowB ls _ (fun x hx => h x (List.mem_cons_of_mem _ hx))]
    simp
theorem texts_inv : ∀ (N : Nat) (b : List UInt8) (acc ls : List (List UInt8)), b.length ≤ N → textsA acc b = .ok ls → ∃ ms, ls = acc ++ ms ∧ b = rowB ms := by
  intro N
  induction N with
  | zero =>
    intro b acc ls hN h
    obtain rfl : b = [] := List.eq_nil_of_length_eq_zero (by omega)
    rw [textsA_nil] at h
    injection h with h
    exact ⟨[], by simp [h], rfl⟩
  | succ N ih =>
    intro b acc ls hN h
    by_cases hb : b = []
    · subst hb
      rw [textsA_nil] at h
      injection h with h
      exact ⟨[], by simp [h], rfl⟩
    · cases hg : lenGo 0 0 b with
      | error e => rw [textsA_err hb hg] at h; cases h
      | ok p =>
        obtain ⟨n, r⟩ := p
        by_cases hn : r.length < n
        · rw [textsA_short hb hg hn] at h; cases h
        · rw [textsA_go hb hg hn] at h
          have hlt := lenGo_lt _ _ _ _ _ hg
          obtain ⟨ms, h1, h2⟩ := ih _ _ _ (by simp; omega) h
          obtain ⟨q, h3, h4, _⟩ := lenGo_inv _ _ _ _ _ hg
          refine ⟨r.take n :: ms, by rw [h1]; simp, ?_⟩
          rw [rowB_cons, ← h2, List.append_assoc, List.take_append_drop, h4]
          have : n = q := by simpa using h3
          rw [this, List.length_take, show min q r.length = q by omega]
/-- a text of a row is no longer than its bytes -/
theorem texts_len {b : List UInt8} {ls : List (List UInt8)} (h : textsA [] b = .ok ls) : b = rowB ls := by
  obtain ⟨ms, h1, h2⟩ := texts_inv b.length b [] ls (Nat.le_refl _) h
  rw [h2, h1]; rfl
end Go.Proofs.YtecamaceainfpaaDoor
