/-
  Walks: slices.rotateCmpFunc, slices.insertionSortCmpFunc at writes.
-/
import Derived.Test.YtecamaceainfpaaDoorSortA
namespace Go.Proofs.YtecamaceainfpaaDoor
open Go.RowKit

theorem cut_at {α : Type} (l : List α) (k : Nat) (h : k ≤ l.length) : ∃ u v, l = u ++ v ∧ u.length = k ∧ v.length = l.length - k :=
  ⟨l.take k, l.drop k, (List.take_append_drop k l).symm, by rw [List.length_take]; omega, List.length_drop⟩
set_option maxRecDepth 100000 in
set_option maxHeartbeats 2000000 in
theorem rotate_any (w : World) (base g cap N : Nat) (A X Y B : List Wr) (a m b : Nat) (hR : Row w base g cap (A ++ X ++ Y ++ B)) (hN : A.length + X.length + Y.length + B.length = N) (ha : a = A.length) (hm : m = A.length + X.length) (hb : b = A.length + X.length + Y.length) (hX : 0 < X.length) (hY : 0 < Y.length) (hl : N ≤ 1099511627776) :
    Calls Tryd.prog 135 #[.slice (some ⟨g, 0, none⟩) N cap, .int .i64 a, .int .i64 m, .int .i64 b, .func (.func 75) #[] #[]] w (SortPost w base g cap fun ls => ls = A ++ Y ++ X ++ B) := by
  have hg : base ≤ g := hR.lt.1
  obtain ⟨T, HT⟩ : ∃ z, Hid (A ++ Y ++ X ++ B = z) := ⟨_, Lib.hid rfl⟩
  rw [HT.out]
  have H0 : Hid (∃ A' U V B' : List Wr, X.length = U.length ∧ Y.length = V.length ∧ 0 < U.length ∧ 0 < V.length ∧ m = A'.length + U.length ∧ A'.length + U.length + V.length + B'.length = N ∧ A' ++ V ++ U ++ B' = T ∧ Row w base g cap (A' ++ U ++ V ++ B')) := Lib.hid ⟨A, X, Y, B, rfl, rfl, hX, hY, hm, hN, HT.out, hR⟩
  have s1 : (m : Int) - (a : Int) = (X.length : Int) := by omega
  have s2 : (b : Int) - (m : Int) = (Y.length : Int) := by omega
  have S1 := Lib.hid s1
  have S2 := Lib.hid s2
  have hmN : m ≤ N := by omega
  have hbN : b ≤ N := by omega
  have hxN : X.length + Y.length ≤ N := by omega
  have ham : a ≤ m := by omega
  have hmb : m ≤ b := by omega
  clear hR hN ha hm hb HT s1 s2
  generalize X.length = i0 at *
  generalize Y.length = j0 at *
  go_enter Tryd.func135, Tryd.ntmps135
  go_wp2_with fail
  rw [S1.out, S2.out]
  go_loopw [10, 11] (fun i j wr => ∃ p q : Nat, i = .int .i64 p ∧ j = .int .i64 q ∧ 0 < p ∧ 0 < q ∧ p ≤ m ∧ p + q ≤ N ∧ m + q ≤ N ∧ Hid (∃ A' U V B' : List Wr, p = U.length ∧ q = V.length ∧ 0 < U.length ∧ 0 < V.length ∧ m = A'.length + U.length ∧ A'.length + U.length + V.length + B'.length = N ∧ A' ++ V ++ U ++ B' = T ∧ Row wr base g cap (A' ++ U ++ V ++ B')) ∧ Hid (Below base w wr)) (fun i j _ => (intOf i).toNat + (intOf j).toNat)
  case atStart => exact ⟨i0, j0, rfl, rfl, hX, hY, by have := S1.out; omega, by omega, by have := S2.out; omega, H0, Lib.hid (Below.refl _ _)⟩
  case round =>
    obtain ⟨p, q, rfl, rfl, hp, hq, hpm, hpq, hmq, HL, HW⟩ := hrel
    clear H0 S1 S2
    by_cases heq : p = q
    · subst heq
      have d1 : ((p : Int) != (p : Int)) = false := by simp
      have CALL : Hid (Calls Tryd.prog 157 #[.slice (some ⟨g, 0, none⟩) N cap, .int .i64 ((m - p : Nat) : Int), .int .i64 (m : Int), .int .i64 (p : Int), .func (.func 75) #[] #[]] wr (SortPost wr base g cap fun ls => ls = T)) := Lib.hid (by
        obtain ⟨A', U, V, B', rfl, h2, _, _, h5, h6, h7, h8⟩ := HL.out
        have := swapRange_any wr base g cap N A' U [] V B' (m - U.length) m U.length (by rw [List.append_nil]; exact h8) (by simp; omega) (by omega) (by simp; omega) rfl h2.symm hl
        rw [List.append_nil, h7] at this
        exact this)
      have e1 : (m : Int) - (p : Int) = ((m - p : Nat) : Int) := by omega
      have E1 := Lib.hid e1
      clear e1
      go_wp2_with fail
      rw [E1.out]
      refine CALL.out.mono ?_
      rintro e w1 ⟨rfl, ⟨ls, rfl, hrow⟩, hb1⟩
      have HR1 := Lib.hid hrow
      have HB1 := Lib.hid (HW.out.trans hb1)
      clear hrow hb1
      go_wp2_with fail
      go_end0
      exact ⟨rfl, ⟨_, rfl, HR1.out⟩, HB1.out⟩
    · have d1 : ((p : Int) != (q : Int)) = true := by simp; omega
      by_cases hgt : q < p
      · have d2 : decide ((q : Int) < (p : Int)) = true := by simp; omega
        have d2' : decide (q < p) = true := by simp; omega
        have CALL : Hid (Calls Tryd.prog 157 #[.slice (some ⟨g, 0, none⟩) N cap, .int .i64 ((m - p : Nat) : Int), .int .i64 (m : Int), .int .i64 (q : Int), .func (.func 75) #[] #[]] wr (SortPost wr base g cap fun ls => ∃ A' U V B' : List Wr, p - q = U.length ∧ q = V.length ∧ 0 < U.length ∧ 0 < V.length ∧ m = A'.length + U.length ∧ A'.length + U.length + V.length + B'.length = N ∧ A' ++ V ++ U ++ B' = T ∧ ls = A' ++ U ++ V ++ B')) := Lib.hid (by
          obtain ⟨A', U, V, B', rfl, rfl, _, h4, h5, h6, h7, h8⟩ := HL.out
          obtain ⟨U1, U2, rfl, hu1, hu2⟩ := cut_at U V.length (by omega)
          rw [List.length_append] at h5 h6 hgt hu2 ⊢
          refine (swapRange_any wr base g cap N A' U1 U2 V B' (m - (U1.length + U2.length)) m V.length (by simpa using h8) (by omega) (by omega) (by omega) hu1 rfl hl).mono fun e w' h => ⟨h.1, ?_, h.2.2⟩
          obtain ⟨ls, rfl, hr⟩ := h.2.1
          refine ⟨_, ⟨A' ++ V, U2, U1, B', by omega, hu1.symm, by omega, by omega, by rw [List.length_append]; omega, by rw [List.length_append]; omega, ?_, rfl⟩, hr⟩
          rw [← h7]; simp)
        have e1 : (m : Int) - (p : Int) = ((m - p : Nat) : Int) := by omega
        have E1 := Lib.hid e1
        clear e1
        go_wp2_with fail
        rw [E1.out]
        refine CALL.out.mono ?_
        rintro e w1 ⟨rfl, ⟨ls, ⟨A', U, V, B', k1, k2, k3, k4, k5, k6, k7, rfl⟩, hrow⟩, hb1⟩
        have HR1 : Hid (∃ A' U V B' : List Wr, p - q = U.length ∧ q = V.length ∧ 0 < U.length ∧ 0 < V.length ∧ m = A'.length + U.length ∧ A'.length + U.length + V.length + B'.length = N ∧ A' ++ V ++ U ++ B' = T ∧ Row w1 base g cap (A' ++ U ++ V ++ B')) := Lib.hid ⟨A', U, V, B', k1, k2, k3, k4, k5, k6, k7, hrow⟩
        have HB1 := Lib.hid (HW.out.trans hb1)
        clear hrow hb1 k1 k2 k3 k4 k5 k6 k7
        go_wp2_with fail
        refine ⟨⟨p - q, q, ?_, rfl, by omega, hq, by omega, by omega, by omega, HR1, HB1⟩, by simp [intOf]; omega⟩
        rw [show (p : Int) - (q : Int) = ((p - q : Nat) : Int) from by omega]
      · have d2 : decide ((q : Int) < (p : Int)) = false := by simp; omega
        have d2' : decide (q < p) = false := by simp; omega
        have CALL : Hid (Calls Tryd.prog 157 #[.slice (some ⟨g, 0, none⟩) N cap, .int .i64 ((m - p : Nat) : Int), .int .i64 ((m + q - p : Nat) : Int), .int .i64 (p : Int), .func (.func 75) #[] #[]] wr (SortPost wr base g cap fun ls => ∃ A' U V B' : List Wr, p = U.length ∧ q - p = V.length ∧ 0 < U.length ∧ 0 < V.length ∧ m = A'.length + U.length ∧ A'.length + U.length + V.length + B'.length = N ∧ A' ++ V ++ U ++ B' = T ∧ ls = A' ++ U ++ V ++ B')) := Lib.hid (by
          obtain ⟨A', U, V, B', rfl, rfl, h3, h4, h5, h6, h7, h8⟩ := HL.out
          obtain ⟨V1, V2, rfl, hv1, hv2⟩ := cut_at V (V.length - U.length) (by omega)
          rw [List.length_append] at h6 hgt hv1 hv2 heq ⊢
          refine (swapRange_any wr base g cap N A' U V1 V2 B' (m - U.length) (m + (V1.length + V2.length) - U.length) U.length (by simpa using h8) (by omega) (by omega) (by omega) rfl (by omega) hl).mono fun e w' h => ⟨h.1, ?_, h.2.2⟩
          obtain ⟨ls, rfl, hr⟩ := h.2.1
          refine ⟨_, ⟨A', V2, V1, U ++ B', by omega, by omega, by omega, by omega, by omega, by rw [List.length_append]; omega, ?_, by simp⟩, hr⟩
          rw [← h7]; simp)
        have e1 : (m : Int) - (p : Int) = ((m - p : Nat) : Int) := by omega
        have e2 : (m : Int) + (q : Int) - (p : Int) = ((m + q - p : Nat) : Int) := by omega
        have E1 := Lib.hid e1
        have E2 := Lib.hid e2
        clear e1 e2
        go_wp2_with fail
        rw [E1.out, E2.out]
        refine CALL.out.mono ?_
        rintro e w1 ⟨rfl, ⟨ls, ⟨A', U, V, B', k1, k2, k3, k4, k5, k6, k7, rfl⟩, hrow⟩, hb1⟩
        have HR1 : Hid (∃ A' U V B' : List Wr, p = U.length ∧ q - p = V.length ∧ 0 < U.length ∧ 0 < V.length ∧ m = A'.length + U.length ∧ A'.length + U.length + V.length + B'.length = N ∧ A' ++ V ++ U ++ B' = T ∧ Row w1 base g cap (A' ++ U ++ V ++ B')) := Lib.hid ⟨A', U, V, B', k1, k2, k3, k4, k5, k6, k7, hrow⟩
        have HB1 := Lib.hid (HW.out.trans hb1)
        clear hrow hb1 k1 k2 k3 k4 k5 k6 k7
        go_wp2_with fail
        refine ⟨⟨p, q - p, rfl, ?_, hp, by omega, by omega, by omega, by omega, HR1, HB1⟩, by simp [intOf]; omega⟩
        rw [show (q : Int) - (p : Int) = ((q - p : Nat) : Int) from by omega]
/-- the comparison, its answer known -/
theorem less_yes (w : World) (x y : Wr) (h : x.1 < y.1) : Calls Tryd.prog 75 #[.agg #[.int .i64 x.1, S x.2], .agg #[.int .i64 y.1, S y.2]] w fun e w' => e = .returned (.int .i64 (-1)) ∧ Below w.heap.size w w' := by
  have := less_any w x.1 y.1 x.2 y.2
  rwa [cmpI_lt h] at this
theorem less_no (w : World) (x y : Wr) (h : ¬ x.1 < y.1) : Calls Tryd.prog 75 #[.agg #[.int .i64 x.1, S x.2], .agg #[.int .i64 y.1, S y.2]] w fun e w' => ∃ z : Int, decide (z < 0) = false ∧ e = .returned (.int .i64 z) ∧ Below w.heap.size w w' :=
  (less_any w x.1 y.1 x.2 y.2).mono fun e w' h' => ⟨_, by have := cmpI_ge h; simp; omega, h'.1, h'.2⟩
/-- where the inner loop stands: one write among sorted ones -/
def Ins (A P R : List Wr) (e : Wr) (j a : Nat) (ls : List Wr) : Prop := ∃ U V : List Wr, U ++ V = P ∧ ls = A ++ U ++ e :: V ++ R ∧ j = a + U.length ∧ ∀ v ∈ V, e.1 < v.1
theorem Ins.at' {A P R ls : List Wr} {e : Wr} {j a : Nat} (h : Ins A P R e j a ls) (ha : A.length = a) : ls.getD j (0, []) = e := by
  obtain ⟨U, V, rfl, rfl, rfl, _⟩ := h
  rw [List.append_assoc, List.append_assoc, getD_app_right (by omega), getD_app_right (by omega), show a + U.length - A.length - U.length = 0 by omega]; rfl
theorem Ins.length {A P R ls : List Wr} {e : Wr} {j a : Nat} (h : Ins A P R e j a ls) : ls.length = A.length + P.length + 1 + R.length := by
  obtain ⟨U, V, rfl, rfl, rfl, _⟩ := h
  simp; omega
/-- one step to the left -/
theorem Ins.step {A P R ls : List Wr} {e : Wr} {j a : Nat} (h : Ins A P R e j a ls) (ha : A.length = a) (hj : a < j) (hlt : e.1 < (ls.getD (j - 1) (0, [])).1) : Ins A P R e (j - 1) a (swapL ls j (j - 1)) := by
  obtain ⟨U, V, rfl, rfl, rfl, hv⟩ := h
  obtain ⟨U0, u, rfl⟩ : ∃ U0 u, U = U0 ++ [u] := by
    rcases List.eq_nil_or_concat U with rfl | ⟨U0, u, rfl⟩
    · simp at hj
    · exact ⟨U0, u, by simp⟩
  have e0 : A ++ (U0 ++ [u]) ++ e :: V ++ R = (A ++ U0) ++ u :: e :: (V ++ R) := by simp
  have hl : a + (U0 ++ [u]).length = (A ++ U0).length + 1 := by simp; omega
  have hu : (A ++ (U0 ++ [u]) ++ e :: V ++ R).getD (a + (U0 ++ [u]).length - 1) (0, []) = u := by
    rw [e0, hl, getD_app_right (by omega), show (A ++ U0).length + 1 - 1 - (A ++ U0).length = 0 by omega]; rfl
  rw [hu] at hlt
  refine ⟨U0, u :: V, by simp, ?_, by simp, fun v hv' => ?_⟩
  · rw [e0, hl, show (A ++ U0).length + 1 - 1 = (A ++ U0).length by omega, swapL_prev]
    simp
  · rcases List.mem_cons.1 hv' with rfl | h
    · exact hlt
    · exact hv v h
/-- the end: sorted, with the write in its place -/
theorem Ins.done {A P R ls : List Wr} {e : Wr} {j a : Nat} (h : Ins A P R e j a ls) (ha : A.length = a) (hP : Srt P) (hend : j = a ∨ ¬ e.1 < (ls.getD (j - 1) (0, [])).1) : ∃ Q, ls = A ++ Q ++ R ∧ StEq (P ++ [e]) Q ∧ Srt Q := by
  obtain ⟨U, V, rfl, rfl, rfl, hv⟩ := h
  have hu : ∀ x ∈ U, x.1 ≤ e.1 := by
    rcases List.eq_nil_or_concat U with rfl | ⟨U0, u, rfl⟩
    · intro x hx; simp at hx
    · rcases hend with h0 | h0
      · simp at h0
      · have e0 : A ++ (U0.concat u) ++ e :: V ++ R = (A ++ U0) ++ u :: e :: (V ++ R) := by simp
        have hl : a + (U0.concat u).length = (A ++ U0).length + 1 := by simp; omega
        rw [e0, hl, getD_app_right (by omega), show (A ++ U0).length + 1 - 1 - (A ++ U0).length = 0 by omega] at h0
        have h0' : ¬ e.1 < u.1 := h0
        intro x hx
        rw [List.concat_eq_append] at hx hP
        rcases List.mem_append.1 hx with hx | hx
        · have := hP.parts.1.parts.2.2 x hx u (by simp)
          omega
        · simp only [List.mem_singleton] at hx; subst hx; omega
  obtain ⟨h1, h2⟩ := insert_back hP hu hv
  exact ⟨U ++ e :: V, by simp, h1, h2⟩
/-- where the outer loop stands -/
def Half (A X B : List Wr) (t : Nat) (ls : List Wr) : Prop := ∃ P, ls = A ++ P ++ (X.drop t ++ B) ∧ StEq (X.take t) P ∧ Srt P
theorem Half.start (A X B : List Wr) : Half A X B 1 (A ++ X ++ B) := by
  refine ⟨X.take 1, ?_, StEq.refl _, ?_⟩
  · rw [List.append_assoc, List.append_assoc, ← List.append_assoc (X.take 1), List.take_append_drop]
  · cases X with
    | nil => exact Srt.nil
    | cons x r => exact Srt.one x
theorem Half.done {A X B ls : List Wr} {t : Nat} (h : Half A X B t ls) (ht : X.length ≤ t) : ∃ Q, ls = A ++ Q ++ B ∧ StEq X Q ∧ Srt Q := by
  obtain ⟨P, rfl, h1, h2⟩ := h
  rw [List.take_of_length_le ht] at h1
  exact ⟨P, by rw [List.drop_eq_nil_of_le ht]; rfl, h1, h2⟩
theorem Half.open {A X B ls : List Wr} {t a : Nat} (h : Half A X B t ls) (ht : t < X.length) : ∃ P, Srt P ∧ StEq (X.take t) P ∧ Ins A P (X.drop (t + 1) ++ B) X[t] (a + t) a ls := by
  obtain ⟨P, rfl, h1, h2⟩ := h
  have hl := h1.length
  rw [List.length_take] at hl
  refine ⟨P, h2, h1, P, [], by simp, ?_, by omega, fun v hv => by simp at hv⟩
  rw [List.drop_eq_getElem_cons ht]; simp only [List.append_assoc, List.cons_append, List.nil_append]
theorem Half.next {A X B ls P : List Wr} {t a j : Nat} (ht : t < X.length) (h : Ins A P (X.drop (t + 1) ++ B) X[t] j a ls) (ha : A.length = a) (hP : Srt P) (hS : StEq (X.take t) P) (hend : j = a ∨ ¬ X[t].1 < (ls.getD (j - 1) (0, [])).1) : Half A X B (t + 1) ls := by
  obtain ⟨Q, h1, h2, h3⟩ := h.done ha hP hend
  refine ⟨Q, h1, ?_, h3⟩
  rw [List.take_succ_eq_append_getElem ht]
  exact (hS.app (StEq.refl _)).trans h2
theorem Half.length {A X B ls : List Wr} {t : Nat} (h : Half A X B t ls) : ls.length = A.length + X.length + B.length := by
  obtain ⟨P, rfl, h1, _⟩ := h
  have hl := h1.length
  simp only [List.length_append, List.length_drop, List.length_take] at hl ⊢
  omega
set_option maxRecDepth 100000 in
set_option maxHeartbeats 4000000 in
theorem insertion_any (w : World) (base g cap N : Nat) (A X B : List Wr) (a b : Nat) (hR : Row w base g cap (A ++ X ++ B)) (hN : A.length + X.length + B.length = N) (ha : a = A.length) (hb : b = A.length + X.length) (hl : N ≤ 1099511627776) :
    Calls Tryd.prog 115 #[.slice (some ⟨g, 0, none⟩) N cap, .int .i64 a, .int .i64 b, .func (.func 75) #[] #[]] w (SortPost w base g cap fun ls => ∃ Q, ls = A ++ Q ++ B ∧ StEq X Q ∧ Srt Q) := by
  have hg : base ≤ g := hR.lt.1
  have HA := Lib.hid ha.symm
  have HR := Lib.hid hR
  have HN := Lib.hid hN
  have hbN : b ≤ N := by omega
  have hbx : b = a + X.length := by omega
  have HBX := Lib.hid hbx
  have hab : a ≤ b := by omega
  clear hR hN ha hb hbx
  go_enter Tryd.func115, Tryd.ntmps115
  go_wp2_with fail
  go_loopw [8, 9] (fun i _ wr => ∃ t : Nat, 1 ≤ t ∧ a + t ≤ b + 1 ∧ i = .int .i64 ((a + t : Nat) : Int) ∧ (∃ ls, Hid (Half A X B t ls) ∧ Hid (Row wr base g cap ls)) ∧ Hid (Below base w wr)) (fun i _ _ => b + 1 - (intOf i).toNat)
  case atStart => exact ⟨1, by omega, by omega, by go_num, ⟨_, Lib.hid (Half.start A X B), HR⟩, Lib.hid (Below.refl _ _)⟩
  case round =>
    obtain ⟨t, ht1, ht2, rfl, ⟨ls, HH, HRW⟩, HW⟩ := hrel
    clear HR
    by_cases hlt : a + t < b
    · have d1 : decide (((a + t : Nat) : Int) < (b : Int)) = true := by simp; omega
      have htx : t < X.length := by have := HBX.out; omega
      obtain ⟨P, hP, hS, hI⟩ := HH.out.open (a := a) htx
      have HNX : Hid (∀ (ls : List Wr) (j : Nat), Ins A P (X.drop (t + 1) ++ B) X[t] j a ls → (j = a ∨ ¬ (X[t]).1 < (ls.getD (j - 1) (0, [])).1) → Half A X B (t + 1) ls) := Lib.hid fun ls j h he => Half.next htx h HA.out hP hS he
      have HI := Lib.hid hI
      have HPL : Hid (A.length + P.length + 1 + (X.drop (t + 1) ++ B).length = N) := Lib.hid (by rw [← hI.length, HH.out.length]; exact HN.out)
      clear hP hS hI HH
      generalize X[t] = e at *
      generalize X.drop (t + 1) ++ B = R at *
      go_wp2_with fail
      obtain ⟨wo, hwo⟩ : ∃ wo : World, Hid (wo = wr) := ⟨_, Lib.hid rfl⟩
      go_loopw [9] (fun jv wr => ∃ j : Nat, jv = .int .i64 j ∧ a ≤ j ∧ j ≤ a + t ∧ (∃ ls, Hid (Ins A P R e j a ls) ∧ Hid (Row wr base g cap ls)) ∧ Hid (Below base w wr)) (fun jv _ => (intOf jv).toNat)
      case atStart => exact ⟨a + t, rfl, by omega, by omega, ⟨ls, HI, HRW⟩, HW⟩
      case round =>
        obtain ⟨j, rfl, hj1, hj2, ⟨lj, HJ, HRJ⟩, HWJ⟩ := hrel
        clear HI HRW HW d1
        by_cases hja : a < j
        · have d2 : decide ((a : Int) < (j : Int)) = true := by simp; omega
          have d2' : decide (a < j) = true := by simp; omega
          have hlen : lj.length = N := HJ.out.length.trans HPL.out
          obtain ⟨p1, p2⟩ := HRJ.out.cells (i := j) (by rw [hlen]; omega)
          obtain ⟨q1, q2⟩ := HRJ.out.cells (i := j - 1) (by rw [hlen]; omega)
          rw [HJ.out.at' HA.out] at p1 p2
          have HB0 : Hid (Below wr.heap.size wr wr) := Lib.hid (Below.refl _ _)
          have hgw : g < wr.heap.size := HRJ.out.lt.2
          have HKEEP : Hid (∀ W, Below wr.heap.size wr W → W.cell? ⟨g, j * 2, none⟩ = some (.int .i64 e.1) ∧ W.cell? ⟨g, j * 2 + 1, none⟩ = some (S e.2) ∧ W.cell? ⟨g, (j - 1) * 2, none⟩ = some (.int .i64 (lj.getD (j - 1) (0, [])).1) ∧ W.cell? ⟨g, (j - 1) * 2 + 1, none⟩ = some (S (lj.getD (j - 1) (0, [])).2)) := Lib.hid fun W hW =>
            ⟨(hW.cell (p := ⟨g, j * 2, none⟩) hgw).trans p1, (hW.cell (p := ⟨g, j * 2 + 1, none⟩) hgw).trans p2, (hW.cell (p := ⟨g, (j - 1) * 2, none⟩) hgw).trans q1, (hW.cell (p := ⟨g, (j - 1) * 2 + 1, none⟩) hgw).trans q2⟩
          have e1 : IntKind.i64.wrap ((j : Int) - 1) = ((j - 1 : Nat) : Int) := by rw [IntWalk.i64_in _ (by omega)]; omega
          have i1 : (0 : Int) ≤ (j : Int) := by omega
          have i2 : (j : Int) < (N : Int) := by omega
          have i3 : (0 : Int) ≤ ((j - 1 : Nat) : Int) := by omega
          have i4 : ((j - 1 : Nat) : Int) < (N : Int) := by omega
          clear hlen
          by_cases hlt2 : e.1 < (lj.getD (j - 1) (0, [])).1
          · have LY : Hid (∀ W, Calls Tryd.prog 75 #[.agg #[.int .i64 e.1, S e.2], .agg #[.int .i64 (lj.getD (j - 1) (0, [])).1, S (lj.getD (j - 1) (0, [])).2]] W fun e w' => e = .returned (.int .i64 (-1)) ∧ Below W.heap.size W w') := Lib.hid fun W => less_yes W e (lj.getD (j - 1) (0, [])) hlt2
            have HSTP := Lib.hid (HJ.out.step HA.out hja hlt2)
            clear hlt2
            generalize hy : lj.getD (j - 1) (0, []) = y at *
            have HY := Lib.hid hy
            clear hy
            go_wp2_with fail
            go_region_held3 (fun w' => w'.cell? ⟨g, j * 2, none⟩ = some (.int .i64 e.1) ∧ w'.cell? ⟨g, j * 2 + 1, none⟩ = some (S e.2) ∧ w'.cell? ⟨g, (j - 1) * 2, none⟩ = some (.int .i64 y.1) ∧ w'.cell? ⟨g, (j - 1) * 2 + 1, none⟩ = some (S y.2))
              (first
                | (exact HKEEP.out _ (Below.refl _ _).drew)
                | (exact HKEEP.out _ BB))
              (first
                | (go_at_call 75; refine (LY.out _).mono ?_; rintro e' w1 ⟨rfl, hbl⟩; have BB : Below wr.heap.size wr w1 := (Below.refl wr.heap.size wr).drew.trans hbl; clear hbl))
            have HR1 := Lib.hid (HRJ.out.below BB)
            have HW1 := Lib.hid (HWJ.out.trans (BB.mono (Nat.le_of_lt (Nat.lt_of_le_of_lt hg hgw))))
            obtain ⟨p1, p2, q1, q2⟩ := HKEEP.out _ BB
            have f1 := HR1.out.free (j * 2)
            have f2 := HR1.out.free (j * 2 + 1)
            have f3 := HR1.out.free ((j - 1) * 2)
            have f4 := HR1.out.free ((j - 1) * 2 + 1)
            have HSW := Lib.hid (HR1.out.swap j (j - 1))
            rw [HJ.out.at' HA.out, HY.out] at HSW
            clear BB HKEEP HRJ HWJ LY
            go_wp2_with fail
            go_region
            clear e1 i1 i2 i3 i4 p1 p2 q1 q2 f1 f2 f3 f4
            go_wp2_with fail
            refine ⟨⟨j - 1, ?_, by omega, by omega, ⟨_, HSTP, HSW⟩, Lib.hid (below_four HW1.out hg)⟩, by simp [intOf]; omega⟩
            rw [show (j : Int) - 1 = ((j - 1 : Nat) : Int) from by omega]
          · have LN : Hid (∀ W, Calls Tryd.prog 75 #[.agg #[.int .i64 e.1, S e.2], .agg #[.int .i64 (lj.getD (j - 1) (0, [])).1, S (lj.getD (j - 1) (0, [])).2]] W fun e w' => ∃ z : Int, decide (z < 0) = false ∧ e = .returned (.int .i64 z) ∧ Below W.heap.size W w') := Lib.hid fun W => less_no W e (lj.getD (j - 1) (0, [])) hlt2
            have HDN := Lib.hid (HNX.out lj j HJ.out (.inr (by omega)))
            clear hlt2
            generalize lj.getD (j - 1) (0, []) = y at *
            go_wp2_with fail
            go_region_held3 (fun w' => w'.cell? ⟨g, j * 2, none⟩ = some (.int .i64 e.1) ∧ w'.cell? ⟨g, j * 2 + 1, none⟩ = some (S e.2) ∧ w'.cell? ⟨g, (j - 1) * 2, none⟩ = some (.int .i64 y.1) ∧ w'.cell? ⟨g, (j - 1) * 2 + 1, none⟩ = some (S y.2))
              (first
                | (exact HKEEP.out _ (Below.refl _ _).drew)
                | (exact HKEEP.out _ BB))
              (first
                | (go_at_call 75; refine (LN.out _).mono ?_; rintro e' w1 ⟨z, hz, rfl, hbl⟩; have BB : Below wr.heap.size wr w1 := (Below.refl wr.heap.size wr).drew.trans hbl; clear hbl))
            have HR1 := Lib.hid (HRJ.out.below BB)
            have HW1 := Lib.hid (HWJ.out.trans (BB.mono (Nat.le_of_lt (Nat.lt_of_le_of_lt hg hgw))))
            clear BB HKEEP HRJ HWJ LN e1 i1 i2 i3 i4 p1 p2 q1 q2
            go_wp2_with fail
            refine ⟨⟨t + 1, by omega, by omega, ?_, ⟨_, HDN, HR1⟩, HW1⟩, by simp [intOf]; omega⟩
            go_num
        · obtain rfl : j = a := by omega
          have d2 : decide ((j : Int) < (j : Int)) = false := by simp
          have d2' : decide (j < j) = false := by simp
          have HDN := Lib.hid (HNX.out lj j HJ.out (.inl rfl))
          go_wp2_with fail
          go_quiet (fail)
          go_wp2_with fail
          refine ⟨⟨t + 1, by omega, by omega, ?_, ⟨_, HDN, HRJ⟩, Lib.hid (Below.draws HWJ.out _)⟩, by simp [intOf]; omega⟩
          go_num
    · have d1 : decide (((a + t : Nat) : Int) < (b : Int)) = false := by simp; omega
      have HDN := Lib.hid (HH.out.done (by have := HBX.out; omega))
      go_wp2_with fail
      go_end0
      exact ⟨rfl, ⟨ls, HDN.out, HRW.out⟩, HW.out⟩
end Go.Proofs.YtecamaceainfpaaDoor
