/-
  Walk: hibernacleref35.done. (Printed by gen_rdone.py.)
-/
import Derived.Test.YtecamaceainfpaaDoorDeltaC
import Derived.Test.YtecamaceainfpaaDoorSortG
namespace Go.Proofs.YtecamaceainfpaaDoor
open Go.RowKit

/-- what the document's done gives back -/
def RDonePost (w : World) (r : Option (List (List UInt8))) (e : Ending) (w' : World) : Prop :=
  (match r with
    | none => ∃ v, e = .returned (.tuple #[v, .bool false])
    | some x => ∃ v, e = .returned (.tuple #[v, .bool true]) ∧ Own w' w.heap.size v x) ∧ Below w.heap.size w w'
set_option maxRecDepth 100000 in
set_option maxHeartbeats 2000000 in
theorem rdone_any (w : World) (A B : Option Addr) (c d : Nat) (a : List (List UInt8)) (l : List (Int × List UInt8)) (hA : Strs w w.heap.size A a) (hB : Wrs w w.heap.size B l) (ha : a.length ≤ 274877906944) (hl : l.length ≤ 274877906944) :
    Calls Tryd.prog 46 #[.slice A a.length c, .slice B l.length d] w (RDonePost w (doneL a l)) := by
  obtain ⟨i0, hi0, hz0, hz1, hz2⟩ := info_parts Tryd.infoStr
  have HB := Lib.hid hB
  have HLA : Hid (Lies (w.alloc (.cells #[] 9)) (w.alloc (.cells #[] 9)).heap.size A (a.map S)) := Lib.hid (Lies.block' hA _)
  have HO : Hid ((w.alloc (.cells #[] 9)).ownsRow w.heap.size 9 1 (.slice (some ⟨w.heap.size, 0, none⟩) 0 0) 0 []) := Lib.hid (World.ownsRow_lit w #[] 0 (Nat.le_refl _) (by unfold maxLen; omega) rfl)
  have H63 : Hid (0 + a.length ≤ maxLen) := Lib.hid (by unfold maxLen; omega)
  have HBY : Hid ((0 + a.length) * 16 ≤ 140737488355328) := Lib.hid (by omega)
  have HBA : Hid (w.heap.size ≤ (w.alloc (.cells #[] 9)).heap.size) := Lib.hid (by simp)
  clear hA hB
  go_enter Tryd.func46, Tryd.ntmps46
  go_wp2_with (at_builtin; refine wpList_append_src rfl (.tmp 9) (.tmp 10) 22 rfl w.heap.size 9 i0 _ 1 16 Tryd.underlying22 hi0 hz0 hz1 hz2 rfl (by decide) _ _ _ rfl HO.out _ A a.length c (a.map S) rfl (by simp) HLA.out (S_one _) H63.out HBY.out HBA.out ?_; intro v1 w1 hown' hgrow)
  have HO1 : Hid (Own w1 w.heap.size v1 a) := Lib.hid (by simpa using hown')
  have HB1 : Hid (Below w.heap.size w w1) := Lib.hid (((Below.refl _ _).alloc (Nat.le_refl _) _).grown hgrow HBA.out (own_ge HO.out))
  clear hown' hgrow HO H63 HBY HBA HLA
  go_wp2_with fail
  go_loopw [6, 7, 8] (fun v i _ wr => ∃ (k : Nat) (x : List (List UInt8)), k ≤ l.length ∧ i = .int .i64 k ∧ x.length ≤ a.length + k ∧ Hid (doneL a (l.take k) = some x) ∧ Hid (Own wr w.heap.size v x) ∧ Hid (Below w.heap.size w wr)) (fun _ i _ _ => l.length - (intOf i).toNat)
  case atStart => exact ⟨0, a, by omega, rfl, by omega, Lib.hid rfl, HO1, HB1⟩
  case round =>
    obtain ⟨k, x, hk, rfl, hx, HD, HO, HW⟩ := hrel
    clear HO1 HB1
    by_cases hlt : k < l.length
    · obtain ⟨bd, rfl, hbd, b0, b1⟩ := HB.out.at' hlt
      have HT : Hid (l.take (k + 1) = l.take k ++ [l.getD k (0, [])]) := Lib.hid (by rw [List.take_succ_eq_append_getElem hlt]; simp [List.getD, hlt])
      have HST : Hid (doneL a (l.take (k + 1)) = step1 x (l.getD k (0, []))) := Lib.hid (by rw [HT.out, doneL_snoc, HD.out, Option.bind_some])
      have HNO : Hid (step1 x (l.getD k (0, [])) = none → doneL a l = none) := Lib.hid (fun h => doneL_take_none (k := k + 1) (by rw [HST.out, h]))
      generalize l.getD k (0, []) = p at *
      obtain ⟨n, y⟩ := p
      dsimp only at b0 b1
      have HC0 : Hid (∀ W, Below w.heap.size w W → W.cell? (bd.add (k * 2)) = some (.int .i64 n)) := Lib.hid fun W hW => (hW.cell (by rw [add_block]; exact hbd)).trans b0
      have HC1 : Hid (∀ W, Below w.heap.size w W → W.cell? ⟨(bd.add (k * 2)).block, (bd.add (k * 2)).off + 1, none⟩ = some (S y)) := Lib.hid fun W hW => (hW.cell (by show (bd.add (k * 2)).block < _; rw [add_block]; exact hbd)).trans b1
      have b0' := HC0.out _ HW.out
      clear b0 b1
      have i0' : (0 : Int) ≤ (k : Int) := by omega
      have i1 : (k : Int) < (l.length : Int) := by omega
      have hd : decide (k < l.length) = true := by simp; omega
      have hbs : w.heap.size ≤ wr.heap.size := HW.out.size
      have HE := Lib.hid (HW.out.alloc hbs (.cells #[] 9))
      by_cases hneg : n < 0
      · have d1 : decide (n < 0) = true := by simpa using hneg
        have HN := Lib.hid (HNO.out (step1_out (.inl hneg)))
        clear hneg
        go_wp2_with fail
        go_ret2
        unfold RDonePost
        rw [HN.out]
        exact ⟨⟨_, rfl⟩, HE.out⟩
      · have d1 : decide (n < 0) = false := by simpa using hneg
        obtain ⟨sh, hsh⟩ := own_shape HO.out (by omega)
        obtain ⟨j, hj⟩ : ∃ j : Nat, n = (j : Int) := ⟨n.toNat, by omega⟩
        subst hj
        clear hneg
        by_cases hgt : x.length < j
        · have d2 : decide ((x.length : Int) < (j : Int)) = true := by simp; omega
          have d2' : decide (x.length < j) = true := by simp; omega
          have HN := Lib.hid (HNO.out (step1_out (.inr (by show (x.length : Int) < (j : Int); omega))))
          obtain ⟨cc, rfl, _, _⟩ := hsh
          go_wp2_with fail
          go_ret2
          unfold RDonePost
          rw [HN.out]
          exact ⟨⟨_, rfl⟩, HE.out⟩
        · have d2 : decide ((x.length : Int) < (j : Int)) = false := by simp; omega
          have d2' : decide (x.length < j) = false := by simp; omega
          clear HE
          by_cases heq : j = x.length
          · subst heq
            have d3 : ((x.length : Int) == (x.length : Int)) = true := by simp
            have HS1 : Hid (doneL a (l.take (k + 1)) = some (x ++ [y])) := Lib.hid (by rw [HST.out]; exact step1_end rfl)
            obtain ⟨cc, rfl, _, _⟩ := hsh
            have HOA := Lib.hid (HO.out.alloc (.cells #[S []] 9))
            have HNW : Hid (∀ i u, [S []][i]? = some u → (wr.alloc (.cells #[S []] 9)).cell? ((⟨wr.heap.size, 0, none⟩ : Addr).add i) = some u) := Lib.hid (fun i u hu => by
              obtain ⟨ad', e', _, hc'⟩ := lies_made wr 9 [S []] (wr.heap.size + 1) (by omega) i u hu
              injection e' with e'; subst e'
              exact hc')
            have H1 : Hid (∀ u ∈ [S []], u.oneCell' = true) := Lib.hid (by simp [Value.oneCell'])
            have H63 : Hid (x.length + 1 ≤ maxLen) := Lib.hid (by unfold maxLen; omega)
            have HBY : Hid ((x.length + 1) * 16 ≤ 140737488355328) := Lib.hid (by omega)
            have HBA : Hid (w.heap.size ≤ (wr.alloc (.cells #[S []] 9)).heap.size) := Lib.hid (by simp; omega)
            have HE2 := Lib.hid (HW.out.alloc hbs (.cells #[S []] 9))
            go_upto_region 10 with (at_builtin; refine wpList_append_own _ rfl (.tmp 36) (.tmp 37) 22 rfl w.heap.size 9 i0 _ 1 16 Tryd.underlying22 hi0 hz0 hz1 hz2 rfl (by decide) _ _ _ rfl HOA.out ⟨wr.heap.size, 0, none⟩ 1 1 [S []] rfl rfl HNW.out H1.out H63.out HBY.out HBA.out ?_; intro v' w3 hown' hgrow _)
            have HO3 : Hid (Own w3 w.heap.size v' (x ++ [[]])) := Lib.hid (by
              have := hown'
              rw [show (x.map S ++ [S []]) = (x ++ [[]]).map S by simp] at this
              unfold Own
              rw [List.length_append]
              exact this)
            have HB3 : Hid (Below w.heap.size w w3) := Lib.hid (HE2.out.grown hgrow HBA.out (own_ge HOA.out))
            clear hown' hgrow HOA HNW H1 H63 HBY HBA HE2 HO HW b0'
            have hset : (x ++ [[]]).set x.length y = x ++ [y] := by simp
            obtain ⟨X, HX⟩ : ∃ X, Hid (x ++ [[]] = X) := ⟨_, Lib.hid rfl⟩
            have hXl : X.length = x.length + 1 := by rw [← HX.out]; simp
            rw [HX.out] at HO3 hset
            obtain ⟨g, cap, hv, hgb, hgl⟩ := HO3.out.form (by omega)
            subst hv
            have b1' := HC1.out _ HB3.out
            have cj : w3.cell? ⟨g, x.length, none⟩ = some (S (X.getD x.length [])) := (HO3.out.cellAt x.length (by omega)).trans (by simp [hXl])
            have fj := HO3.out.frozenAt x.length
            obtain ⟨hst, hgr⟩ := HO3.out.stored x.length (S y)
            rw [set_map_S, hset] at hst
            have HO4 : Hid (Own (w3.setCell ⟨g, x.length, none⟩ (S y)) w.heap.size (.slice (some ⟨g, 0, none⟩) X.length cap) (x ++ [y])) := Lib.hid (by unfold Own; rw [show (x ++ [y]).length = X.length by rw [hXl]; simp]; exact hst)
            have HB4 : Hid (Below w.heap.size w (w3.setCell ⟨g, x.length, none⟩ (S y))) := Lib.hid (HB3.out.setCell (p := ⟨g, x.length, none⟩) hgb _)
            clear hst hgr hset HX
            have j0 : (0 : Int) ≤ (x.length : Int) := by omega
            have j1 : (x.length : Int) < (X.length : Int) := by omega
            go_wp2_with fail
            go_roundw
            case rel =>
              have R : ∃ (k' : Nat) (x' : List (List UInt8)), k' ≤ l.length ∧ Value.int .i64 ((k : Int) + 1) = .int .i64 k' ∧ x'.length ≤ a.length + k' ∧ Hid (doneL a (l.take k') = some x') ∧ Hid (Own (w3.setCell ⟨g, x.length, none⟩ (S y)) w.heap.size (.slice (some ⟨g, 0, none⟩) X.length cap) x') ∧ Hid (Below w.heap.size w (w3.setCell ⟨g, x.length, none⟩ (S y))) := ⟨k + 1, x ++ [y], by omega, by go_num, by simp; omega, HS1, HO4, HB4⟩
              first | exact R | ((repeat apply Exists.intro); exact ⟨R, rfl⟩)
            case measure => simp [intOf]; omega
          · have hjx : j < x.length := by omega
            have d3 : ((j : Int) == (x.length : Int)) = false := by simp; omega
            have HS1 : Hid (doneL a (l.take (k + 1)) = some (x.set j y)) := Lib.hid (by rw [HST.out]; exact step1_in rfl hjx)
            clear hsh
            obtain ⟨g, cap, hv, hgb, hgl⟩ := HO.out.form (by omega)
            rw [hv] at HO
            rw [hv]
            have b1' := HC1.out _ HW.out
            have cj : wr.cell? ⟨g, j, none⟩ = some (S (x.getD j [])) := (HO.out.cellAt j (by omega)).trans (by simp [hjx])
            have fj := HO.out.frozenAt j
            obtain ⟨hst, hgr⟩ := HO.out.stored j (S y)
            rw [set_map_S] at hst
            have HO3 : Hid (Own (wr.setCell ⟨g, j, none⟩ (S y)) w.heap.size (.slice (some ⟨g, 0, none⟩) x.length cap) (x.set j y)) := Lib.hid (by unfold Own; rw [List.length_set]; exact hst)
            have HB3 : Hid (Below w.heap.size w (wr.setCell ⟨g, j, none⟩ (S y))) := Lib.hid (HW.out.setCell (p := ⟨g, j, none⟩) hgb _)
            clear hst hgr hv
            have j0 : (0 : Int) ≤ (j : Int) := by omega
            have j1 : (j : Int) < (x.length : Int) := by omega
            go_wp2_with fail
            go_roundw
            case rel =>
              have R : ∃ (k' : Nat) (x' : List (List UInt8)), k' ≤ l.length ∧ Value.int .i64 ((k : Int) + 1) = .int .i64 k' ∧ x'.length ≤ a.length + k' ∧ Hid (doneL a (l.take k') = some x') ∧ Hid (Own (wr.setCell ⟨g, j, none⟩ (S y)) w.heap.size (.slice (some ⟨g, 0, none⟩) x.length cap) x') ∧ Hid (Below w.heap.size w (wr.setCell ⟨g, j, none⟩ (S y))) := ⟨k + 1, x.set j y, by omega, by go_num, by rw [List.length_set]; omega, HS1, HO3, HB3⟩
              first | exact R | ((repeat apply Exists.intro); exact ⟨R, rfl⟩)
            case measure => simp [intOf]; omega
    · obtain rfl : k = l.length := by omega
      have hd : decide (l.length < l.length) = false := by simp
      rw [List.take_of_length_le (Nat.le_refl _)] at HD
      go_wp2_with fail
      go_ret2
      unfold RDonePost
      rw [HD.out]
      exact ⟨⟨_, rfl, HO.out⟩, HW.out⟩
end Go.Proofs.YtecamaceainfpaaDoor
