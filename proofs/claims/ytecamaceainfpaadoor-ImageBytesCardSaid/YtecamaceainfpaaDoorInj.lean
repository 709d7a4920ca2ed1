/-
  Plain: a row of texts, and an image's bytes, tell what they are of; what became of an image, done on it, is the other one. No program in sight.
-/
import Derived.Test.YtecamaceainfpaaDoorOthers
import Derived.Test.YtecamaceainfpaaDoorBytes
namespace Go.Proofs.YtecamaceainfpaaDoor
open Go.RowKit

theorem lenB_ne (n : Nat) : lenB n ≠ [] := by
  by_cases h : n < 128
  · rw [lenB_small h]; simp
  · rw [lenB_big h]; simp
theorem ofNat8_inj {n m : Nat} (hn : n < 256) (hm : m < 256) (h : UInt8.ofNat n = UInt8.ofNat m) : n = m := by
  have := congrArg UInt8.toNat h
  rw [UInt8.toNat_ofNat', UInt8.toNat_ofNat'] at this
  omega
theorem lenB_inj (n : Nat) : ∀ (m : Nat) (x y : List UInt8), lenB n ++ x = lenB m ++ y → n = m ∧ x = y := by
  induction n using Nat.strongRecOn with
  | ind n ih =>
    intro m x y h
    by_cases hn : n < 128
    · by_cases hm : m < 128
      · rw [lenB_small hn, lenB_small hm] at h
        injection h with h1 h2
        exact ⟨ofNat8_inj (by omega) (by omega) h1, h2⟩
      · rw [lenB_small hn, lenB_big hm] at h
        injection h with h1 h2
        have := ofNat8_inj (by omega) (by omega) h1
        omega
    · by_cases hm : m < 128
      · rw [lenB_big hn, lenB_small hm] at h
        injection h with h1 h2
        have := ofNat8_inj (by omega) (by omega) h1
        omega
      · rw [lenB_big hn, lenB_big hm] at h
        injection h with h1 h2
        have h3 := ofNat8_inj (by omega) (by omega) h1
        obtain ⟨h4, h5⟩ := ih (n / 128) (by omega) (m / 128) x y h2
        exact ⟨by omega, h5⟩
theorem rowB_inj : ∀ (a b : List (List UInt8)), rowB a = rowB b → a = b
  | [], [], _ => rfl
  | [], l :: ls, h => by
    rw [rowB_cons, rowB_nil, List.append_assoc] at h
    exact absurd (List.append_eq_nil_iff.1 h.symm).1 (lenB_ne _)
  | l :: ls, [], h => by
    rw [rowB_cons, rowB_nil, List.append_assoc] at h
    exact absurd (List.append_eq_nil_iff.1 h).1 (lenB_ne _)
  | l :: ls, m :: ms, h => by
    rw [rowB_cons, rowB_cons, List.append_assoc, List.append_assoc] at h
    obtain ⟨h1, h2⟩ := lenB_inj _ _ _ _ h
    obtain ⟨h3, h4⟩ := List.append_inj h2 h1
    rw [h3, rowB_inj ls ms h4]
theorem imgB_inj {fa ba fb bb : List (List UInt8)} {ra rb : List UInt8} (h : imgB fa ba ra = imgB fb bb rb) : fa = fb ∧ ba = bb ∧ ra = rb := by
  have := rowB_inj _ _ h
  simp only [List.cons.injEq, and_true, true_and] at this
  exact ⟨rowB_inj _ _ this.1, rowB_inj _ _ this.2.1, this.2.2⟩

/-- one write, done -/
def step1 (a : List (List UInt8)) (p : Int × List UInt8) : Option (List (List UInt8)) :=
  if p.1 < 0 ∨ (a.length : Int) < p.1 then none else some (if p.1 = (a.length : Int) then a ++ [p.2] else a.set p.1.toNat p.2)
/-- writes, done one behind the other -/
def doneL (a : List (List UInt8)) (l : List (Int × List UInt8)) : Option (List (List UInt8)) := l.foldlM step1 a
theorem doneL_nil (a : List (List UInt8)) : doneL a [] = some a := rfl
theorem doneL_snoc (a : List (List UInt8)) (l : List (Int × List UInt8)) (p : Int × List UInt8) : doneL a (l ++ [p]) = (doneL a l).bind fun x => step1 x p := by
  unfold doneL
  rw [List.foldlM_append]
  cases List.foldlM step1 a l with
  | none => rfl
  | some x => simp [List.foldlM_cons]
theorem doneL_none (a : List (List UInt8)) (l r : List (Int × List UInt8)) (h : doneL a l = none) : doneL a (l ++ r) = none := by
  unfold doneL at *
  rw [List.foldlM_append, h]; rfl
theorem doneL_take_none {a : List (List UInt8)} {l : List (Int × List UInt8)} {k : Nat} (h : doneL a (l.take k) = none) : doneL a l = none := by
  rw [← List.take_append_drop k l]; exact doneL_none a _ _ h
theorem step1_out {a : List (List UInt8)} {p : Int × List UInt8} (h : p.1 < 0 ∨ (a.length : Int) < p.1) : step1 a p = none := if_pos h
theorem step1_end {a : List (List UInt8)} {p : Int × List UInt8} (h : p.1 = (a.length : Int)) : step1 a p = some (a ++ [p.2]) := by
  unfold step1; rw [if_neg (by omega), if_pos h]
theorem step1_in {a : List (List UInt8)} {p : Int × List UInt8} {j : Nat} (h : p.1 = (j : Int)) (hj : j < a.length) : step1 a p = some (a.set j p.2) := by
  unfold step1; rw [if_neg (by omega), if_neg (by omega), h]; simp

/-- how many bytes, about, writes have -/
def wSize (ws : List (Int × List UInt8)) : Nat := (ws.map fun p => 8 + p.2.length).sum
theorem wSize_append (a b : List (Int × List UInt8)) : wSize (a ++ b) = wSize a + wSize b := by simp [wSize]
theorem sizeOf_append (a b : List (List UInt8)) : sizeOf (a ++ b) = sizeOf a + sizeOf b := by simp [sizeOf]
theorem sizeOf_set_le : ∀ (a : List (List UInt8)) (j : Nat) (x : List UInt8), sizeOf (a.set j x) ≤ sizeOf a + (4 + x.length)
  | [], _, _ => by simp [sizeOf]
  | y :: a, 0, x => by simp [sizeOf]; omega
  | y :: a, j + 1, x => by
    have := sizeOf_set_le a j x
    simp only [sizeOf, List.set_cons_succ, List.map_cons, List.sum_cons] at *
    omega
theorem step1_size {a b : List (List UInt8)} {p : Int × List UInt8} (h : step1 a p = some b) : sizeOf b ≤ sizeOf a + (8 + p.2.length) := by
  unfold step1 at h
  split at h
  · cases h
  · injection h with h
    subst h
    split
    · rw [sizeOf_append]; simp [sizeOf]
    · have := sizeOf_set_le a p.1.toNat p.2; omega
theorem doneL_size : ∀ (l : List (Int × List UInt8)) (a b : List (List UInt8)), doneL a l = some b → sizeOf b ≤ sizeOf a + wSize l
  | [], a, b, h => by
    injection h with h
    subst h; simp [wSize]
  | p :: l, a, b, h => by
    unfold doneL at h
    rw [List.foldlM_cons] at h
    cases hs : step1 a p with
    | none => rw [hs] at h; cases h
    | some x =>
      rw [hs] at h
      have h1 := doneL_size l x b h
      have h2 := step1_size hs
      simp only [wSize, List.map_cons, List.sum_cons] at *
      omega
theorem wSize_len (l : List (Int × List UInt8)) : 8 * l.length ≤ wSize l := by
  induction l with
  | nil => simp [wSize]
  | cons p l ih => simp only [wSize, List.map_cons, List.sum_cons, List.length_cons] at *; omega

theorem sub_done {a b : List (List UInt8)} (h : a.length ≤ b.length) : ∀ k, k ≤ b.length → doneL a (othersTo a b k) = some (b.take k ++ a.drop k)
  | 0, _ => by simp [othersTo, doneL_nil]
  | k + 1, hk => by
    have ih := sub_done h k (by omega)
    have hb : b.take (k + 1) = b.take k ++ [b.getD k []] := by rw [List.take_succ_eq_append_getElem (by omega)]; simp [List.getD, show k < b.length by omega]
    by_cases hs : k < a.length ∧ a.getD k [] = b.getD k []
    · rw [othersTo_same hs.1 hs.2, ih, hb, List.append_assoc, List.drop_eq_getElem_cons hs.1]
      have : a[k] = b.getD k [] := by rw [← hs.2]; simp [List.getD, hs.1]
      rw [this]; rfl
    · rw [othersTo_new hs, doneL_snoc, ih, Option.bind_some]
      have hl : (b.take k).length = k := by rw [List.length_take]; omega
      by_cases ha : k < a.length
      · rw [step1_in (j := k) rfl (by rw [List.length_append, hl, List.length_drop]; omega), hb, List.set_append, if_neg (by omega), hl, Nat.sub_self, List.drop_eq_getElem_cons ha, List.set_cons_zero, List.append_assoc]
        rfl
      · rw [List.drop_eq_nil_of_le (by omega), List.append_nil, step1_end (by rw [hl]), hb, List.drop_eq_nil_of_le (by omega), List.append_nil]
theorem others_done {a b : List (List UInt8)} (h : a.length ≤ b.length) : doneL a (othersTo a b b.length) = some b := by
  rw [sub_done h b.length (Nat.le_refl _), List.take_of_length_le (Nat.le_refl _), List.drop_eq_nil_of_le h, List.append_nil]
theorem wSize_others (a b : List (List UInt8)) : ∀ k, k ≤ b.length → wSize (othersTo a b k) ≤ 2 * sizeOf (b.take k)
  | 0, _ => by simp [othersTo, wSize]
  | k + 1, hk => by
    have ih := wSize_others a b k (by omega)
    have hb := sizeOf_snoc b k (by omega)
    by_cases hs : k < a.length ∧ a.getD k [] = b.getD k []
    · rw [othersTo_same hs.1 hs.2]; omega
    · rw [othersTo_new hs, wSize_append]
      simp only [wSize, List.map_cons, List.map_nil, List.sum_cons, List.sum_nil] at *
      omega

/-- an image, with what became of it: the error's number, pages, blocks, the rest -/
def applyL (fa ba : List (List UInt8)) (ra : List UInt8) (F : List UInt8) (wf wb : List (Int × List UInt8)) (r T : List UInt8) : Int × List (List UInt8) × List (List UInt8) × List UInt8 :=
  if dig (imgB fa ba ra) ≠ F ∧ dig (imgB [] [] []) ≠ F then (23, [], [], [])
  else
    match doneL (if dig (imgB fa ba ra) = F then fa else []) wf with
    | none => (2, [], [], [])
    | some f =>
      match doneL (if dig (imgB fa ba ra) = F then ba else []) wb with
      | none => (2, [], [], [])
      | some b => if dig (imgB f b r) = T then (0, f, b, r) else (23, [], [], [])
end Go.Proofs.YtecamaceainfpaaDoor
