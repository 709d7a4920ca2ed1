/-
  Plain: what is kept of a list, one by one. No program in sight.
-/
import Derived.Test.YtmmfcjkabpffeaaGreatDoorBase
namespace Go.Proofs.YtmmfcjkabpffeaaGreatDoor
open Go.RowKit

/-- a thing that is kept, or not yet -/
abbrev Kp := Bool × List UInt8
def keepStep (f : Int → Nat → List UInt8 → Bool × Int) (i : Nat) (k : Kp) (x : List UInt8) (s : Int) : Kp × Int :=
  if k.1 = true then (k, s) else (if (f s i x).1 = true then (true, x) else k, (f s i x).2)
/-- what becomes of a list, each thing of which is kept, if it isn't yet and there is one now, where f says so -/
def keepRec (f : Int → Nat → List UInt8 → Bool × Int) : Nat → List Kp → List (List UInt8) → Int → List Kp × Int
  | _, [], _, s => ([], s)
  | _, k :: l, [], s => (k :: l, s)
  | i, k :: l, x :: now, s => ((keepStep f i k x s).1 :: (keepRec f (i + 1) l now (keepStep f i k x s).2).1, (keepRec f (i + 1) l now (keepStep f i k x s).2).2)
section
variable (f : Int → Nat → List UInt8 → Bool × Int)
theorem keep_now (i : Nat) (l : List Kp) (s : Int) : keepRec f i l [] s = (l, s) := by cases l <;> rfl
theorem keep_length : ∀ (l : List Kp) (now : List (List UInt8)) (i : Nat) (s : Int), (keepRec f i l now s).1.length = l.length
  | [], _, _, _ => by simp [keepRec]
  | _ :: _, [], _, _ => by simp [keepRec]
  | k :: l, x :: now, i, s => by simp [keepRec, keep_length l now]
theorem keep_snoc : ∀ (l : List Kp) (now : List (List UInt8)) (i : Nat) (s : Int) (k : Kp), now.length ≤ l.length → keepRec f i (l ++ [k]) now s = ((keepRec f i l now s).1 ++ [k], (keepRec f i l now s).2)
  | [], [], i, s, k, _ => by simp [keepRec]
  | [], _ :: _, _, _, _, h => by simp at h
  | a :: l, [], i, s, k, _ => by simp [keepRec]
  | a :: l, x :: now, i, s, k, h => by
    have ih := keep_snoc l now (i + 1) (keepStep f i a x s).2 k (by simpa using h)
    simp [keepRec, ih]
theorem keep_snoc' : ∀ (l : List Kp) (now : List (List UInt8)) (i : Nat) (s : Int) (k : Kp), l.length < now.length →
    keepRec f i (l ++ [k]) now s = ((keepRec f i l now s).1 ++ [(keepStep f (i + l.length) k (now.getD l.length []) (keepRec f i l now s).2).1], (keepStep f (i + l.length) k (now.getD l.length []) (keepRec f i l now s).2).2)
  | [], [], _, _, _, h => by simp at h
  | [], x :: now, i, s, k, _ => by simp [keepRec]
  | _ :: _, [], _, _, _, h => by simp at h
  | a :: l, x :: now, i, s, k, h => by
    have ih := keep_snoc' l now (i + 1) (keepStep f i a x s).2 k (by simpa using h)
    have e : i + 1 + l.length = i + (l.length + 1) := by omega
    simp [keepRec, ih, e]
theorem keep_rest : ∀ (l : List Kp) (now : List (List UInt8)) (i : Nat) (s : Int) (k : Nat), now.length ≤ k → keepRec f i l now s = ((keepRec f i (l.take k) now s).1 ++ l.drop k, (keepRec f i (l.take k) now s).2)
  | [], _, _, _, _, _ => by simp [keepRec]
  | a :: l, [], i, s, k, _ => by rw [keep_now, keep_now]; simp
  | a :: l, x :: now, i, s, 0, h => by simp at h
  | a :: l, x :: now, i, s, k + 1, h => by
    have ih := keep_rest l now (i + 1) (keepStep f i a x s).2 k (by simpa using h)
    simp only [keepRec, List.take_succ_cons, List.drop_succ_cons, List.cons_append]
    rw [ih]
/-- one thing more, at its place -/
theorem keep_take {l : List Kp} {now : List (List UInt8)} {s : Int} {k : Nat} (hk : k < l.length) (hn : k < now.length) :
    keepRec f 0 (l.take (k + 1)) now s = ((keepRec f 0 (l.take k) now s).1 ++ [(keepStep f k (l.getD k (false, [])) (now.getD k []) (keepRec f 0 (l.take k) now s).2).1], (keepStep f k (l.getD k (false, [])) (now.getD k []) (keepRec f 0 (l.take k) now s).2).2) := by
  have hl : (l.take k).length = k := by rw [List.length_take]; omega
  rw [List.take_succ_eq_append_getElem hk, keep_snoc' f _ _ _ _ _ (by rw [hl]; exact hn), hl, Nat.zero_add]
  simp [List.getD, hk]
theorem keep_take_out {l : List Kp} {now : List (List UInt8)} {s : Int} {k : Nat} (hk : k < l.length) (hn : now.length ≤ k) :
    keepRec f 0 (l.take (k + 1)) now s = ((keepRec f 0 (l.take k) now s).1 ++ [l.getD k (false, [])], (keepRec f 0 (l.take k) now s).2) := by
  have hl : (l.take k).length = k := by rw [List.length_take]; omega
  rw [List.take_succ_eq_append_getElem hk, keep_snoc f _ _ _ _ _ (by rw [hl]; exact hn)]
  simp [List.getD, hk]
end
/-- how many aren't kept -/
def leftL (l : List Kp) : Nat := (l.filter fun k => !k.1).length
theorem leftL_nil : leftL [] = 0 := rfl
theorem leftL_cons (k : Kp) (l : List Kp) : leftL (k :: l) = (if k.1 = true then 0 else 1) + leftL l := by
  unfold leftL
  rw [List.filter_cons]
  cases k.1 <;> simp; omega
theorem leftL_le (l : List Kp) : leftL l ≤ l.length := List.length_filter_le _ _
theorem leftL_snoc {l : List Kp} {k : Nat} (hk : k < l.length) : leftL (l.take (k + 1)) = leftL (l.take k) + if (l.getD k (false, [])).1 = true then 0 else 1 := by
  rw [List.take_succ_eq_append_getElem hk]
  unfold leftL
  rw [List.filter_append, List.length_append]
  simp only [List.getD_eq_getElem?_getD, List.getElem?_eq_getElem hk, Option.getD_some]
  cases h : l[k].1 <;> simp [h]
/-- what is kept stays, whatever comes; and what is left never grows -/
theorem keep_left (f : Int → Nat → List UInt8 → Bool × Int) : ∀ (l : List Kp) (now : List (List UInt8)) (i : Nat) (s : Int), leftL (keepRec f i l now s).1 ≤ leftL l
  | [], _, _, _ => by simp [keepRec]
  | _ :: _, [], _, _ => by simp [keepRec]
  | k :: l, x :: now, i, s => by
    have ih := keep_left f l now (i + 1) (keepStep f i k x s).2
    simp only [keepRec, leftL_cons]
    have : (if (keepStep f i k x s).1.1 = true then 0 else 1) ≤ (if k.1 = true then 0 else 1 : Nat) := by
      unfold keepStep
      by_cases h : k.1 = true
      · simp [h]
      · rw [if_neg h, if_neg h]
        show (if (if (f s i x).1 = true then ((true, x) : Kp) else k).1 = true then 0 else 1) ≤ 1
        by_cases hq : (f s i x).1 = true
        · rw [if_pos hq]; simp
        · rw [if_neg hq, if_neg h]; exact Nat.le_refl _
    omega
theorem keep_once (f : Int → Nat → List UInt8 → Bool × Int) : ∀ (l : List Kp) (now : List (List UInt8)) (i : Nat) (s : Int) (j : Nat), j < l.length → (l.getD j (false, [])).1 = true → (keepRec f i l now s).1.getD j (false, []) = l.getD j (false, [])
  | [], _, _, _, _, h, _ => by simp at h
  | _ :: _, [], _, _, _, _, _ => by simp [keepRec]
  | k :: l, x :: now, i, s, 0, _, h => by
    simp only [List.getD_cons_zero] at h
    simp [keepRec, keepStep, h]
  | k :: l, x :: now, i, s, j + 1, hj, h => by
    have ih := keep_once f l now (i + 1) (keepStep f i k x s).2 j (by simpa using hj) (by simpa using h)
    simp only [keepRec, List.getD_cons_succ]
    exact ih
/-- what a step turns -/
def wentF (now : List (List UInt8)) (s : Int) (i : Nat) (x : List UInt8) : Bool × Int := (decide (¬ (i < now.length ∧ now.getD i [] = x)), s)
/-- so many more -/
def pumpF (n : Int) (_ : Nat) (_ : List UInt8) : Bool × Int := if n < 1 then (false, n) else (true, n - 1)
theorem wentF_state (now : List (List UInt8)) : ∀ (l : List Kp) (was : List (List UInt8)) (i : Nat) (s : Int), (keepRec (wentF now) i l was s).2 = s
  | [], _, _, _ => by simp [keepRec]
  | _ :: _, [], _, _ => by simp [keepRec]
  | k :: l, x :: was, i, s => by
    simp only [keepRec]
    rw [wentF_state now l was]
    unfold keepStep
    split <;> rfl
theorem pump_yes {i : Nat} {k : Kp} {x : List UInt8} {n : Int} (hk : ¬ k.1 = true) (h1 : ¬ n < 1) : keepStep pumpF i k x n = ((true, x), n - 1) := by
  unfold keepStep pumpF; rw [if_neg hk, if_neg h1]; simp
theorem pump_none : ∀ (l : List Kp) (now : List (List UInt8)) (i : Nat) (n : Int), n < 1 → keepRec pumpF i l now n = (l, n)
  | [], _, _, _, _ => by simp [keepRec]
  | _ :: _, [], _, _, _ => by simp [keepRec]
  | k :: l, x :: now, i, n, h => by
    have e : keepStep pumpF i k x n = (k, n) := by
      unfold keepStep pumpF
      rw [if_pos h]
      split <;> simp
    simp only [keepRec]
    rw [e]
    simp only
    rw [pump_none l now (i + 1) n h]
theorem pump_state : ∀ (l : List Kp) (now : List (List UInt8)) (i : Nat) (n : Int), 0 ≤ n → 0 ≤ (keepRec pumpF i l now n).2 ∧ (keepRec pumpF i l now n).2 ≤ n
  | [], _, _, _, _ => by simp [keepRec]; assumption
  | _ :: _, [], _, _, _ => by simp [keepRec]; assumption
  | k :: l, x :: now, i, n, h => by
    have hq : 0 ≤ (keepStep pumpF i k x n).2 ∧ (keepStep pumpF i k x n).2 ≤ n := by
      unfold keepStep pumpF
      split
      · exact ⟨h, Int.le_refl _⟩
      · split
        · exact ⟨h, Int.le_refl _⟩
        · simp only; omega
    have ih := pump_state l now (i + 1) (keepStep pumpF i k x n).2 hq.1
    simp only [keepRec]
    omega
theorem pump_low : ∀ (l : List Kp) (now : List (List UInt8)) (i : Nat) (n : Int), (keepRec pumpF i l now n).2 ≤ n
  | l, now, i, n => by
    by_cases h : n < 1
    · rw [pump_none l now i n h]; exact Int.le_refl _
    · exact (pump_state l now i n (by omega)).2
/-- so many and so many more are as many at once -/
theorem pump_two : ∀ (l : List Kp) (now : List (List UInt8)) (i j : Nat) (n m : Int), 0 ≤ n → 0 ≤ m →
    keepRec pumpF j (keepRec pumpF i l now n).1 now m = ((keepRec pumpF i l now (n + m)).1, (keepRec pumpF i l now (n + m)).2 - (keepRec pumpF i l now n).2)
  | [], _, _, _, n, m, _, _ => by
    have e : n + m - n = m := by omega
    simp [keepRec, e]
  | k :: l, [], _, _, n, m, _, _ => by
    have e : n + m - n = m := by omega
    simp [keepRec, e]
  | k :: l, x :: now, i, j, n, m, hn, hm => by
    by_cases hk : k.1 = true
    · have e : ∀ i s, keepStep pumpF i k x s = (k, s) := fun i s => by unfold keepStep; rw [if_pos hk]
      have ih := pump_two l now (i + 1) (j + 1) n m hn hm
      simp only [keepRec, e]
      rw [ih]
    · by_cases h1 : n < 1
      · obtain rfl : n = 0 := by omega
        rw [pump_none (k :: l) (x :: now) i 0 (by omega)]
        simp only [Int.zero_add, Int.sub_zero]
        have : ∀ (l : List Kp) (now : List (List UInt8)) (i j : Nat) (n : Int), keepRec pumpF i l now n = keepRec pumpF j l now n := by
          intro l
          induction l with
          | nil => intro now i j n; rfl
          | cons k l ih =>
            intro now i j n
            cases now with
            | nil => rfl
            | cons x now =>
              simp only [keepRec]
              rw [show keepStep pumpF i k x n = keepStep pumpF j k x n from rfl, ih now (i + 1) (j + 1)]
        exact this _ _ _ _ _
      · have e1 : keepStep pumpF i k x n = ((true, x), n - 1) := pump_yes hk h1
        have e2 : keepStep pumpF i k x (n + m) = ((true, x), n + m - 1) := pump_yes hk (by omega)
        have e3 : keepStep pumpF j (true, x) x m = ((true, x), m) := by unfold keepStep; rw [if_pos rfl]
        have ih := pump_two l now (i + 1) (j + 1) (n - 1) m (by omega) hm
        rw [show n - 1 + m = n + m - 1 by omega] at ih
        simp only [keepRec, e1, e2, e3]
        rw [ih]
/-- how many are left, where each stands now -/
theorem pump_left : ∀ (l : List Kp) (now : List (List UInt8)) (i : Nat) (n : Int), l.length ≤ now.length → 0 ≤ n →
    ((leftL (keepRec pumpF i l now n).1 : Int) = max ((leftL l : Int) - n) 0) ∧ (keepRec pumpF i l now n).2 = max (n - leftL l) 0
  | [], _, _, n, _, hn => by simp [keepRec, leftL]; omega
  | _ :: _, [], _, _, h, _ => by simp at h
  | k :: l, x :: now, i, n, h, hn => by
    by_cases hk : k.1 = true
    · have e : keepStep pumpF i k x n = (k, n) := by unfold keepStep; rw [if_pos hk]
      have ih := pump_left l now (i + 1) n (by simpa using h) hn
      simp only [keepRec, e, leftL_cons, if_pos hk, Nat.zero_add]
      exact ih
    · by_cases h1 : n < 1
      · obtain rfl : n = 0 := by omega
        rw [pump_none (k :: l) (x :: now) i 0 (by omega)]
        constructor
        · show (leftL (k :: l) : Int) = _
          omega
        · show (0 : Int) = _
          omega
      · have e : keepStep pumpF i k x n = ((true, x), n - 1) := pump_yes hk h1
        have ih := pump_left l now (i + 1) (n - 1) (by simpa using h) (by omega)
        simp only [keepRec, e, leftL_cons, if_neg hk, if_true]
        omega
end Go.Proofs.YtmmfcjkabpffeaaGreatDoor
