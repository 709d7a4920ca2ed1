/-
  Plain: writes sorted by their numbers, those of one number in the order that they had. No program in sight.
-/
import Derived.Test.YtecamaceainfpaaDoorDeltaC
namespace Go.Proofs.YtecamaceainfpaaDoor
open Go.RowKit

abbrev Wr := Int × List UInt8
/-- of each number the same writes, in the same order -/
def StEq (l l' : List Wr) : Prop := ∀ k : Int, l'.filter (fun p => p.1 == k) = l.filter (fun p => p.1 == k)
/-- by rising numbers -/
def Srt (l : List Wr) : Prop := l.Pairwise fun a b => a.1 ≤ b.1
section
variable {a b c a' b' X Y l l' : List Wr}
theorem StEq.refl (l : List Wr) : StEq l l := fun _ => rfl
theorem StEq.trans (h : StEq a b) (h' : StEq b c) : StEq a c := fun k => (h' k).trans (h k)
theorem StEq.app (h : StEq a a') (h' : StEq b b') : StEq (a ++ b) (a' ++ b') := fun k => by rw [List.filter_append, List.filter_append, h k, h' k]
theorem StEq.mid (A B : List Wr) (h : StEq a b) : StEq (A ++ a ++ B) (A ++ b ++ B) := ((StEq.refl A).app h).app (StEq.refl B)
theorem StEq.swap (h : ∀ x ∈ X, ∀ y ∈ Y, x.1 ≠ y.1) : StEq (X ++ Y) (Y ++ X) := fun k => by
  rw [List.filter_append, List.filter_append]
  by_cases hx : ∃ x ∈ X, x.1 = k
  · obtain ⟨x, hm, rfl⟩ := hx
    have e : Y.filter (fun p => p.1 == x.1) = [] := List.filter_eq_nil_iff.2 fun y hy e => h x hm y hy (by simpa using Eq.symm (by simpa using e))
    rw [e]; simp
  · have e : X.filter (fun p => p.1 == k) = [] := List.filter_eq_nil_iff.2 fun x hm e => hx ⟨x, hm, by simpa using e⟩
    rw [e]; simp
theorem StEq.perm (h : StEq l l') : l'.Perm l := by
  rw [List.perm_iff_count]
  intro p
  have := congrArg (List.count p) (h p.1)
  rwa [List.count_filter (by simp), List.count_filter (by simp)] at this
theorem StEq.length (h : StEq l l') : l'.length = l.length := h.perm.length_eq
theorem StEq.mem (h : StEq l l') {p : Wr} : p ∈ l' ↔ p ∈ l := h.perm.mem_iff
theorem Srt.app (h1 : Srt a) (h2 : Srt b) (h : ∀ x ∈ a, ∀ y ∈ b, x.1 ≤ y.1) : Srt (a ++ b) := List.pairwise_append.2 ⟨h1, h2, h⟩
theorem Srt.parts (h : Srt (a ++ b)) : Srt a ∧ Srt b ∧ ∀ x ∈ a, ∀ y ∈ b, x.1 ≤ y.1 := List.pairwise_append.1 h
theorem Srt.nil : Srt [] := List.Pairwise.nil
theorem Srt.one (p : Wr) : Srt [p] := List.pairwise_singleton _ _
theorem Srt.cons {p : Wr} (h : Srt l) (hp : ∀ x ∈ l, p.1 ≤ x.1) : Srt (p :: l) := List.Pairwise.cons hp h
theorem merge_step {X1 X2 Y1 Y2 Z1 Z2 : List Wr} (hX : Srt (X1 ++ X2)) (hY : Srt (Y1 ++ Y2)) (h1 : ∀ x ∈ X1, ∀ y ∈ Y2, x.1 ≤ y.1) (h2 : ∀ x ∈ X2, ∀ y ∈ Y1, y.1 < x.1)
    (e1 : StEq (X1 ++ Y1) Z1) (s1 : Srt Z1) (e2 : StEq (X2 ++ Y2) Z2) (s2 : Srt Z2) : StEq ((X1 ++ X2) ++ (Y1 ++ Y2)) (Z1 ++ Z2) ∧ Srt (Z1 ++ Z2) := by
  constructor
  · have h := ((StEq.swap (X := X2) (Y := Y1) fun x hx y hy e => by have := h2 x hx y hy; omega).mid X1 Y2)
    have h' := e1.app e2
    have e3 : X1 ++ (X2 ++ Y1) ++ Y2 = (X1 ++ X2) ++ (Y1 ++ Y2) := by simp
    have e4 : X1 ++ (Y1 ++ X2) ++ Y2 = (X1 ++ Y1) ++ (X2 ++ Y2) := by simp
    rw [e3, e4] at h
    exact h.trans h'
  · refine s1.app s2 fun x hx y hy => ?_
    rw [e1.mem, List.mem_append] at hx
    rw [e2.mem, List.mem_append] at hy
    rcases hx with hx | hx <;> rcases hy with hy | hy
    · exact hX.parts.2.2 x hx y hy
    · exact h1 x hx y hy
    · exact Int.le_of_lt (h2 y hy x hx)
    · exact hY.parts.2.2 x hx y hy
/-- one write put among sorted ones, behind them in the text -/
theorem insert_back {U V : List Wr} {e : Wr} (h : Srt (U ++ V)) (hu : ∀ x ∈ U, x.1 ≤ e.1) (hv : ∀ x ∈ V, e.1 < x.1) : StEq ((U ++ V) ++ [e]) (U ++ e :: V) ∧ Srt (U ++ e :: V) := by
  have := merge_step (X1 := U) (X2 := V) (Y1 := [e]) (Y2 := []) (Z1 := U ++ [e]) (Z2 := V) h (Srt.one e) (fun _ _ y hy => by simp at hy) (fun x hx y hy => by simp only [List.mem_singleton] at hy; subst hy; exact hv x hx)
    (StEq.refl _) (h.parts.1.app (Srt.one e) fun x hx y hy => by simp only [List.mem_singleton] at hy; subst hy; exact hu x hx) (by rw [List.append_nil]; exact StEq.refl _) h.parts.2.1
  simpa using this
/-- one write put among sorted ones, ahead of them in the text -/
theorem insert_front {U V : List Wr} {e : Wr} (h : Srt (U ++ V)) (hu : ∀ x ∈ U, x.1 < e.1) (hv : ∀ x ∈ V, e.1 ≤ x.1) : StEq (e :: (U ++ V)) (U ++ e :: V) ∧ Srt (U ++ e :: V) := by
  have := merge_step (X1 := []) (X2 := [e]) (Y1 := U) (Y2 := V) (Z1 := U) (Z2 := e :: V) (Srt.one e) h (fun x hx => by simp at hx) (fun x hx y hy => by simp only [List.mem_singleton] at hx; subst hx; exact hu y hy)
    (StEq.refl _) h.parts.1 (StEq.refl _) (h.parts.2.1.cons hv)
  simpa using this
end
/-- the number of the write at a place -/
def K (ws : List Wr) (i : Nat) : Int := (ws.getD i (0, [])).1
theorem getD_app_left {α : Type} {a b : List α} {i : Nat} {d : α} (h : i < a.length) : (a ++ b).getD i d = a.getD i d := by
  simp [List.getD, List.getElem?_append_left h]
theorem getD_app_right {α : Type} {a b : List α} {i : Nat} {d : α} (h : a.length ≤ i) : (a ++ b).getD i d = b.getD (i - a.length) d := by
  simp [List.getD, List.getElem?_append_right h]
theorem K_left {a b : List Wr} {i : Nat} (h : i < a.length) : K (a ++ b) i = K a i := by unfold K; rw [getD_app_left h]
theorem K_right {a b : List Wr} {i : Nat} (h : a.length ≤ i) : K (a ++ b) i = K b (i - a.length) := by unfold K; rw [getD_app_right h]
theorem K_mem {l : List Wr} {p : Wr} (h : p ∈ l) : ∃ i, i < l.length ∧ p.1 = K l i := by
  obtain ⟨i, hi, e⟩ := List.mem_iff_getElem.1 h
  exact ⟨i, hi, by unfold K; rw [List.getD_eq_getElem?_getD, List.getElem?_eq_getElem hi, e]; rfl⟩
theorem Srt.K_le {l : List Wr} (h : Srt l) {i j : Nat} (hij : i ≤ j) (hj : j < l.length) : K l i ≤ K l j := by
  rcases Nat.lt_or_ge i j with hlt | hge
  · have := List.pairwise_iff_getElem.1 h i j (by omega) hj hlt
    unfold K
    rw [List.getD_eq_getElem?_getD, List.getElem?_eq_getElem (by omega), List.getD_eq_getElem?_getD, List.getElem?_eq_getElem hj]
    exact this
  · obtain rfl : i = j := by omega
    exact Int.le_refl _
/-- two places exchanged -/
def swapL (ws : List Wr) (i j : Nat) : List Wr := (ws.set i (ws.getD j (0, []))).set j (ws.getD i (0, []))
theorem swapL_length (ws : List Wr) (i j : Nat) : (swapL ws i j).length = ws.length := by simp [swapL]
theorem swapL_next (A B : List Wr) (x y : Wr) : swapL (A ++ x :: y :: B) A.length (A.length + 1) = A ++ y :: x :: B := by
  have e1 : (A ++ x :: y :: B).getD (A.length + 1) (0, []) = y := by rw [getD_app_right (by omega)]; simp
  have e2 : (A ++ x :: y :: B).getD A.length (0, []) = x := by rw [getD_app_right (by omega)]; simp
  unfold swapL
  rw [e1, e2, List.set_append_right _ _ (by omega), Nat.sub_self, List.set_cons_zero, List.set_append_right _ _ (by omega), show A.length + 1 - A.length = 1 by omega]
  rfl
theorem swapL_prev (A B : List Wr) (x y : Wr) : swapL (A ++ x :: y :: B) (A.length + 1) A.length = A ++ y :: x :: B := by
  have e1 : (A ++ x :: y :: B).getD (A.length + 1) (0, []) = y := by rw [getD_app_right (by omega)]; simp
  have e2 : (A ++ x :: y :: B).getD A.length (0, []) = x := by rw [getD_app_right (by omega)]; simp
  unfold swapL
  rw [e1, e2, List.set_append_right _ _ (by omega), show A.length + 1 - A.length = 1 by omega, List.set_append_right _ _ (by omega), Nat.sub_self]
  rfl
end Go.Proofs.YtecamaceainfpaaDoor
