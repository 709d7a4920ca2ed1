/-
  Walks: the comparison, slices.swapRangeCmpFunc at writes.
-/
import Derived.Test.YtecamaceainfpaaDoorSortP
import Derived.Test.YtecamaceainfpaaDoorFuncs
import Derived.Laws.OwnMore
import Derived.RegionTactic
import Derived.BigRegion
import Derived.Deep.RegionHeld3
namespace Go.Proofs.YtecamaceainfpaaDoor
open Go.RowKit

/-- less, greater, or neither -/
def cmpI (a b : Int) : Int := if a < b then -1 else if b < a then 1 else 0
theorem cmpI_lt {a b : Int} (h : a < b) : cmpI a b = -1 := if_pos h
theorem cmpI_ge {a b : Int} (h : ¬ a < b) : 0 ≤ cmpI a b := by unfold cmpI; rw [if_neg h]; split <;> omega
theorem isnan_any (w : World) (a : Int) : Calls Tryd.prog 97 #[.int .i64 a] w fun e w' => e = .returned (.bool false) ∧ w = w' := by
  have h : (a != a) = false := by simp
  go_enter Tryd.func97, Tryd.ntmps97
  go_wp2_with fail
  go_ret
  exact ⟨rfl, rfl⟩
theorem compare_any (w : World) (a b : Int) : Calls Tryd.prog 76 #[.int .i64 a, .int .i64 b] w fun e w' => e = .returned (.int .i64 (cmpI a b)) ∧ w = w' := by
  have HL : Hid (a < b → cmpI a b = -1) := Lib.hid cmpI_lt
  have HG : Hid (¬ a < b → b < a → cmpI a b = 1) := Lib.hid fun h h' => by unfold cmpI; rw [if_neg h, if_pos h']
  have HE : Hid (¬ a < b → ¬ b < a → cmpI a b = 0) := Lib.hid fun h h' => by unfold cmpI; rw [if_neg h, if_neg h']
  go_enter Tryd.func76, Tryd.ntmps76
  go_wp2_with (go_at_call 97; refine (isnan_any _ _).mono ?_; rintro e w' ⟨rfl, rfl⟩)
  all_goals go_ret
  · exact ⟨by rw [HL.out (by assumption)]; rfl, rfl⟩
  · exact ⟨by rw [HG.out (by omega) (by assumption)]; rfl, rfl⟩
  · exact ⟨by rw [HE.out (by omega) (by omega)]; rfl, rfl⟩
set_option maxRecDepth 100000 in
theorem less_any (w : World) (n m : Int) (y z : List UInt8) :
    Calls Tryd.prog 75 #[.agg #[.int .i64 n, S y], .agg #[.int .i64 m, S z]] w fun e w' => e = .returned (.int .i64 (cmpI n m)) ∧ Below w.heap.size w w' := by
  go_enter Tryd.func75, Tryd.ntmps75
  go_wp2_with (go_at_call 76; refine (compare_any _ _ _).mono ?_; rintro e w' ⟨rfl, rfl⟩)
  go_ret
  exact ⟨rfl, ((Below.refl _ _).alloc (Nat.le_refl _) _).alloc (by simp) _⟩
/-- a slice of writes that a call made: where it lies -/
def Row (W : World) (base g cap : Nat) (ws : List Wr) : Prop := W.ownsRow base 36 2 (.slice (some ⟨g, 0, none⟩) ws.length cap) ws.length (wCells ws)
section
variable {W W' : World} {base g cap : Nat} {ws : List Wr}
theorem Row.below (h : Row W base g cap ws) (hb : Below W.heap.size W W') : Row W' base g cap ws := own_below h hb
theorem Row.lt (h : Row W base g cap ws) : base ≤ g ∧ g < W.heap.size := World.ownsRow.lt h g rfl
theorem Row.cells {i : Nat} (h : Row W base g cap ws) (hi : i < ws.length) : W.cell? ⟨g, i * 2, none⟩ = some (.int .i64 (ws.getD i (0, [])).1) ∧ W.cell? ⟨g, i * 2 + 1, none⟩ = some (S (ws.getD i (0, [])).2) := by
  obtain ⟨h0, h1⟩ := wCells_at ws hi
  exact ⟨(World.ownsRow.cellAt h _ (by omega)).trans h0, (World.ownsRow.cellAt h _ (by omega)).trans h1⟩
theorem Row.free (h : Row W base g cap ws) (j : Nat) : W.frozen? ⟨g, j, none⟩ = false := World.ownsRow.frozenAt h j
theorem wCells_set : ∀ (ws : List Wr) (i : Nat) (p : Wr), ((wCells ws).set (i * 2) (.int .i64 p.1)).set (i * 2 + 1) (S p.2) = wCells (ws.set i p)
  | [], i, p => by simp [wCells]
  | q :: ws, 0, p => by simp [wCells]
  | q :: ws, i + 1, p => by
    have e : ∀ q : Wr, wCells (q :: ws) = .int .i64 q.1 :: S q.2 :: wCells ws := fun q => by simp [wCells]
    have e2 : wCells (q :: ws.set i p) = .int .i64 q.1 :: S q.2 :: wCells (ws.set i p) := by simp [wCells]
    rw [e, List.set_cons_succ, e2, ← wCells_set ws i p, show (i + 1) * 2 = i * 2 + 1 + 1 by omega]
    rfl
theorem Row.set (h : Row W base g cap ws) (i : Nat) (p : Wr) : Row ((W.setCell ⟨g, i * 2, none⟩ (.int .i64 p.1)).setCell ⟨g, i * 2 + 1, none⟩ (S p.2)) base g cap (ws.set i p) := by
  have h1 := (World.ownsRow.stored h (i * 2) (.int .i64 p.1)).1
  have h2 := (World.ownsRow.stored h1 (i * 2 + 1) (S p.2)).1
  rw [wCells_set] at h2
  unfold Row
  rw [List.length_set]
  exact h2
theorem Row.drew (h : Row W base g cap ws) : Row W.drew base g cap ws := h
/-- two places exchanged, cell by cell -/
theorem Row.swap (h : Row W base g cap ws) (i j : Nat) : Row (((((W.setCell ⟨g, i * 2, none⟩ (.int .i64 (ws.getD j (0, [])).1)).setCell ⟨g, i * 2 + 1, none⟩ (S (ws.getD j (0, [])).2)).setCell ⟨g, j * 2, none⟩ (.int .i64 (ws.getD i (0, [])).1)).setCell ⟨g, j * 2 + 1, none⟩ (S (ws.getD i (0, [])).2)).drew) base g cap (swapL ws i j) :=
  ((h.set i (ws.getD j (0, []))).set j (ws.getD i (0, []))).drew
theorem below_four {w : World} {p1 p2 p3 p4 : Nat} {v1 v2 v3 v4 : Value} (h : Below base w W) (hg : base ≤ g) : Below base w (((((W.setCell ⟨g, p1, none⟩ v1).setCell ⟨g, p2, none⟩ v2).setCell ⟨g, p3, none⟩ v3).setCell ⟨g, p4, none⟩ v4).drew) :=
  ((((h.setCell (p := ⟨g, p1, none⟩) hg v1).setCell (p := ⟨g, p2, none⟩) hg v2).setCell (p := ⟨g, p3, none⟩) hg v3).setCell (p := ⟨g, p4, none⟩) hg v4).drew
end
/-- what a function that turns a row of its caller's gives back -/
def SortPost (w : World) (base g cap : Nat) (R : List Wr → Prop) (e : Ending) (w' : World) : Prop :=
  e = .returned (.tuple #[]) ∧ (∃ ls, R ls ∧ Row w' base g cap ls) ∧ Below base w w'
theorem swap_far (P Q R : List Wr) (x y : Wr) (i j : Nat) (hi : i = P.length) (hj : j = P.length + 1 + Q.length) : swapL (P ++ x :: (Q ++ y :: R)) i j = P ++ y :: (Q ++ x :: R) := by
  subst hi hj
  have e1 : (P ++ x :: (Q ++ y :: R)).getD (P.length + 1 + Q.length) (0, []) = y := by
    rw [getD_app_right (by omega), show P.length + 1 + Q.length - P.length = Q.length + 1 by omega, List.getD_cons_succ, getD_app_right (by omega), Nat.sub_self]; rfl
  have e2 : (P ++ x :: (Q ++ y :: R)).getD P.length (0, []) = x := by rw [getD_app_right (by omega)]; simp
  unfold swapL
  rw [e1, e2, List.set_append_right _ _ (by omega), Nat.sub_self, List.set_cons_zero, List.set_append_right _ _ (by omega), show P.length + 1 + Q.length - P.length = Q.length + 1 by omega, List.set_cons_succ, List.set_append_right _ _ (by omega), Nat.sub_self, List.set_cons_zero]
/-- the list behind k exchanges of two ranges -/
def halfway (A X M Y B : List Wr) (k : Nat) : List Wr := A ++ (Y.take k ++ X.drop k) ++ M ++ (X.take k ++ Y.drop k) ++ B
theorem halfway_zero (A X M Y B : List Wr) : halfway A X M Y B 0 = A ++ X ++ M ++ Y ++ B := by simp [halfway]
theorem halfway_all (A X M Y B : List Wr) (h : X.length = Y.length) : halfway A X M Y B X.length = A ++ Y ++ M ++ X ++ B := by
  unfold halfway
  rw [List.take_of_length_le (Nat.le_of_eq h.symm), List.take_of_length_le (Nat.le_refl _), List.drop_eq_nil_of_le (Nat.le_refl _), List.drop_eq_nil_of_le (Nat.le_of_eq h.symm)]
  simp
theorem halfway_step (A X M Y B : List Wr) (h : X.length = Y.length) {k : Nat} (hk : k < X.length) : swapL (halfway A X M Y B k) (A.length + k) (A.length + X.length + M.length + k) = halfway A X M Y B (k + 1) := by
  have hk' : k < Y.length := by omega
  have e1 : halfway A X M Y B k = (A ++ Y.take k) ++ X[k] :: ((X.drop (k + 1) ++ M ++ X.take k) ++ Y[k] :: (Y.drop (k + 1) ++ B)) := by
    unfold halfway
    rw [List.drop_eq_getElem_cons hk, List.drop_eq_getElem_cons hk']
    simp only [List.append_assoc, List.cons_append]
  have e2 : halfway A X M Y B (k + 1) = (A ++ Y.take k) ++ Y[k] :: ((X.drop (k + 1) ++ M ++ X.take k) ++ X[k] :: (Y.drop (k + 1) ++ B)) := by
    unfold halfway
    rw [List.take_succ_eq_append_getElem hk, List.take_succ_eq_append_getElem hk']
    simp only [List.append_assoc, List.cons_append, List.nil_append]
  rw [e1, e2]
  refine swap_far _ _ _ _ _ _ _ ?_ ?_
  · rw [List.length_append, List.length_take]; omega
  · simp only [List.length_append, List.length_take, List.length_drop]; omega
theorem halfway_length (A X M Y B : List Wr) (h : X.length = Y.length) {k : Nat} (hk : k ≤ X.length) : (halfway A X M Y B k).length = A.length + X.length + M.length + Y.length + B.length := by
  unfold halfway
  simp only [List.length_append, List.length_take, List.length_drop]; omega
set_option maxRecDepth 100000 in
set_option maxHeartbeats 2000000 in
theorem swapRange_any (w : World) (base g cap N : Nat) (A X M Y B : List Wr) (a b n : Nat) (hR : Row w base g cap (A ++ X ++ M ++ Y ++ B)) (hN : A.length + X.length + M.length + Y.length + B.length = N) (ha : a = A.length) (hb : b = A.length + X.length + M.length) (hn : X.length = n) (hn' : Y.length = n) (hl : N ≤ 1099511627776) :
    Calls Tryd.prog 157 #[.slice (some ⟨g, 0, none⟩) N cap, .int .i64 a, .int .i64 b, .int .i64 n, .func (.func 75) #[] #[]] w (SortPost w base g cap fun ls => ls = A ++ Y ++ M ++ X ++ B) := by
  have HR : Hid (Row w base g cap (halfway A X M Y B 0)) := Lib.hid (by rw [halfway_zero]; exact hR)
  have HX : Hid (X.length = Y.length) := Lib.hid (by omega)
  have HN := Lib.hid hN
  have HNN := Lib.hid hn
  have HA := Lib.hid ha
  have HB := Lib.hid hb
  have hbn : b + n ≤ N := by omega
  have han : a + n ≤ b := by omega
  have hg : base ≤ g := hR.lt.1
  have hfin : Hid (halfway A X M Y B n = A ++ Y ++ M ++ X ++ B) := Lib.hid (by rw [← hn]; exact halfway_all A X M Y B HX.out)
  clear hR hN ha hb hn hn'
  go_enter Tryd.func157, Tryd.ntmps157
  go_wp2_with fail
  go_loopw [10] (fun i wr => ∃ k : Nat, k ≤ n ∧ i = .int .i64 k ∧ Hid (Row wr base g cap (halfway A X M Y B k)) ∧ Hid (Below base w wr)) (fun i _ => n - (intOf i).toNat)
  case atStart => exact ⟨0, by omega, rfl, HR, Lib.hid (Below.refl _ _)⟩
  case round =>
    obtain ⟨k, hk, rfl, HL, HW⟩ := hrel
    by_cases hlt : k < n
    · have hlen : (halfway A X M Y B k).length = N := (halfway_length A X M Y B HX.out (by rw [HNN.out]; omega)).trans HN.out
      have HST := Lib.hid (halfway_step A X M Y B HX.out (k := k) (by rw [HNN.out]; omega))
      rw [show A.length + X.length + M.length = b from HB.out.symm, show A.length = a from HA.out.symm] at HST
      obtain ⟨p1, p2⟩ := HL.out.cells (i := a + k) (by rw [hlen]; omega)
      obtain ⟨q1, q2⟩ := HL.out.cells (i := b + k) (by rw [hlen]; omega)
      have f1 := HL.out.free ((a + k) * 2)
      have f2 := HL.out.free ((a + k) * 2 + 1)
      have f3 := HL.out.free ((b + k) * 2)
      have f4 := HL.out.free ((b + k) * 2 + 1)
      have HSW := Lib.hid (HL.out.swap (a + k) (b + k))
      rw [HST.out] at HSW
      clear hlen
      generalize (halfway A X M Y B k).getD (a + k) (0, []) = x at *
      generalize (halfway A X M Y B k).getD (b + k) (0, []) = y at *
      obtain ⟨x1, x2⟩ := x
      obtain ⟨y1, y2⟩ := y
      dsimp only at p1 p2 q1 q2 HSW
      have e1 : IntKind.i64.wrap ((a : Int) + (k : Int)) = ((a + k : Nat) : Int) := by rw [IntWalk.i64_in _ (by omega)]; omega
      have e2 : IntKind.i64.wrap ((b : Int) + (k : Int)) = ((b + k : Nat) : Int) := by rw [IntWalk.i64_in _ (by omega)]; omega
      have i1 : (0 : Int) ≤ ((a + k : Nat) : Int) := by omega
      have i2 : ((a + k : Nat) : Int) < (N : Int) := by omega
      have i3 : (0 : Int) ≤ ((b + k : Nat) : Int) := by omega
      have i4 : ((b + k : Nat) : Int) < (N : Int) := by omega
      go_wp2_with fail
      go_region
      clear e1 e2
      go_wp2_with fail
      go_roundw
      case rel => exact ⟨k + 1, by omega, by go_num, HSW, Lib.hid (below_four HW.out hg)⟩
      case measure => simp [intOf]; omega
    · obtain rfl : k = n := by omega
      have hd : decide ((k : Int) < (k : Int)) = false := by simp
      rw [hfin.out] at HL
      go_wp2_with fail
      go_end0
      exact ⟨rfl, ⟨_, rfl, HL.out⟩, HW.out⟩
end Go.Proofs.YtecamaceainfpaaDoor
