/-
  Walk: hibernaclelaw35.great.
-/
import Derived.Test.YtecamaceainfpaaDoorSize
import Derived.Test.YtecamaceainfpaaDoorLaws
import Derived.Deep.QuietTactic
import Derived.BigQuiet
import Derived.Deep.RegionWith
namespace Go.Proofs.YtecamaceainfpaaDoor
open Go.RowKit

theorem ret_bool {a b : Bool} (h : a = b) : Ending.returned (.bool a) = .returned (.bool b) := by rw [h]
/-- an image as a value: where its lists lie, and what they hold -/
structure Im where
  A : Option Addr
  c : Nat
  fs : List (List UInt8)
  A' : Option Addr
  c' : Nat
  bs : List (List UInt8)
  r : List UInt8
def Im.cells (x : Im) : List Value := [.slice x.A x.fs.length x.c, .slice x.A' x.bs.length x.c', S x.r]
def Im.at_ (w : World) (B : Nat) (x : Im) : Prop := Strs w B x.A x.fs ∧ Strs w B x.A' x.bs
def Im.size (x : Im) : Nat := sizeOf x.fs + sizeOf x.bs + x.r.length
def imsCells (l : List Im) : List Value := l.flatMap Im.cells
def total (l : List Im) : Nat := (l.map Im.size).sum
theorem total_snoc (l : List Im) (k : Nat) (h : k < l.length) : total (l.take (k + 1)) = total (l.take k) + (l[k]).size := by
  unfold total; rw [List.take_succ_eq_append_getElem h, List.map_append, List.sum_append]; simp
theorem total_take_le (l : List Im) (k : Nat) : total (l.take k) ≤ total l := by
  conv => rhs; rw [← List.take_append_drop k l]
  simp only [total, List.map_append, List.sum_append]; omega
theorem imsCells_at : ∀ (l : List Im) (k : Nat) (h : k < l.length) (j : Nat), j < 3 → (imsCells l)[k * 3 + j]? = (l[k]).cells[j]?
  | x :: l, 0, _, j, hj => by
    show (x.cells ++ imsCells l)[0 * 3 + j]? = _
    rw [List.getElem?_append_left (by simp [Im.cells]; omega)]; simp
  | x :: l, k + 1, h, j, hj => by
    show (x.cells ++ imsCells l)[(k + 1) * 3 + j]? = _
    rw [List.getElem?_append_right (by simp [Im.cells]; omega), show (k + 1) * 3 + j - x.cells.length = k * 3 + j by simp [Im.cells]; omega]
    exact imsCells_at l k (by simpa using h) j hj

set_option maxRecDepth 100000 in
set_option maxHeartbeats 1000000 in
theorem great_any (w : World) (A : Option Addr) (c : Nat) (l : List Im) (hA : Lies w w.heap.size A (imsCells l)) (hl : ∀ x ∈ l, x.at_ w w.heap.size) (hn : l.length ≤ 1099511627776) (ht : total l ≤ 1099511627776) :
    Calls Tryd.prog 12 #[.slice A l.length c] w fun e w' => e = .returned (.bool (decide (4000 < total l))) ∧ Below w.heap.size w w' := by
  have HA := Lib.hid hA
  have HL := Lib.hid hl
  clear hA hl
  go_enter Tryd.func12, Tryd.ntmps12
  go_wp2
  go_loopw [3, 8] (fun s i wr => ∃ k : Nat, k ≤ l.length ∧ i = .int .i64 k ∧ s = .int .i64 (total (l.take k)) ∧ Hid (Below w.heap.size w wr)) (fun _ i _ => l.length - (intOf i).toNat)
  case atStart => exact ⟨0, by omega, rfl, rfl, Lib.hid (Below.refl _ _)⟩
  case round =>
    obtain ⟨k, hk, rfl, rfl, HB⟩ := hrel
    by_cases hlt : k < l.length
    · obtain ⟨ad, hA0, hb0, hc0⟩ := HA.out (k * 3 + 0) _ ((imsCells_at l k hlt 0 (by omega)).trans rfl)
      obtain ⟨ad1, hA1, _, hc1⟩ := HA.out (k * 3 + 1) _ ((imsCells_at l k hlt 1 (by omega)).trans rfl)
      obtain ⟨ad2, hA2, _, hc2⟩ := HA.out (k * 3 + 2) _ ((imsCells_at l k hlt 2 (by omega)).trans rfl)
      subst hA0
      obtain rfl : ad = ad1 := by injection hA1
      obtain rfl : ad = ad2 := by injection hA2
      clear hA1 hA2
      have hx := HL.out l[k] (List.getElem_mem hlt)
      have hsz : (l[k]).size ≤ 1099511627776 := by
        have h1 := total_snoc l k hlt
        have h2 := total_take_le l (k + 1)
        omega
      have hts : total (l.take k) + (l[k]).size ≤ 1099511627776 := by
        have h1 := total_snoc l k hlt
        have h2 := total_take_le l (k + 1)
        omega
      have HTS := Lib.hid (total_snoc l k hlt)
      obtain ⟨x, HX⟩ : ∃ z, Hid (l[k] = z) := ⟨_, Lib.hid rfl⟩
      rw [HX.out] at hx hsz hts HTS hc0 hc1 hc2
      obtain ⟨A1, c1, f1, A2, c2, f2, r⟩ := x
      obtain ⟨hs1, hs2⟩ := hx
      change Strs w w.heap.size A1 f1 at hs1
      change Strs w w.heap.size A2 f2 at hs2
      change sizeOf f1 + sizeOf f2 + r.length ≤ 1099511627776 at hsz
      change total (l.take k) + (sizeOf f1 + sizeOf f2 + r.length) ≤ 1099511627776 at hts
      change Hid (total (l.take (k + 1)) = total (l.take k) + (sizeOf f1 + sizeOf f2 + r.length)) at HTS
      have hcells : ∀ j v, [Value.slice A1 f1.length c1, Value.slice A2 f2.length c2, S r][j]? = some v → wr.cell? ((ad.add (k * 3)).add j) = some v := by
        intro j v hj
        have hadd : (ad.add (k * 3)).add j = ad.add (k * 3 + j) := by
          unfold Addr.add
          by_cases h1 : k * 3 = 0 <;> by_cases h2 : j = 0 <;> simp [h1, h2, Nat.add_assoc]
        rw [hadd, HB.out.cell (by unfold Addr.add; split <;> exact hb0)]
        match j, hj with
        | 0, hj => rw [hc0, ← hj]; rfl
        | 1, hj => rw [hc1, ← hj]; rfl
        | 2, hj => rw [hc2, ← hj]; rfl
      have HCL := Lib.hid hcells
      have HS1 := Lib.hid hs1
      have HS2 := Lib.hid hs2
      have l1 := length_le_sizeOf f1
      have l2 := length_le_sizeOf f2
      clear hcells hs1 hs2 hc0 hc1 hc2 hb0
      go_wp2_with (refine wpList_load_at rfl 24 (.tmp 10) rfl (ad.add (k * 3)) rfl [Value.slice A1 f1.length c1, Value.slice A2 f2.length c2, S r] _ HCL.out Tryd.underlying24 rfl (by kernel_rfl) ?_)
      have hx0 := Whole.made wr 24 #[Value.slice A1 f1.length c1, Value.slice A2 f2.length c2, S r]
      have c0 := hx0.cell 0
      have c1' := hx0.cell 1
      have c2' := hx0.cell 2
      simp only [List.getElem?_toArray, List.getElem?_cons_zero, List.getElem?_cons_succ] at c0 c1' c2'
      have HB1 := Lib.hid (HB.out.alloc HB.out.size (.cells #[Value.slice A1 f1.length c1, Value.slice A2 f2.length c2, S r] 24))
      clear hx0
      generalize wr.alloc (.cells #[Value.slice A1 f1.length c1, Value.slice A2 f2.length c2, S r] 24) = w1 at *
      have q1 : ∀ W : World, Below w.heap.size w W → Calls Tryd.prog 38 #[.slice A1 f1.length c1] W fun e w' => e = .returned (.int .i64 (sizeOf f1)) ∧ w' = W := fun W hW => (size_any W w.heap.size A1 f1 c1 (HS1.out.below hW) (by omega) (by omega)).mono fun _ _ h => ⟨h.1, h.2.symm⟩
      have q2 : ∀ W : World, Below w.heap.size w W → Calls Tryd.prog 38 #[.slice A2 f2.length c2] W fun e w' => e = .returned (.int .i64 (sizeOf f2)) ∧ w' = W := fun W hW => (size_any W w.heap.size A2 f2 c2 (HS2.out.below hW) (by omega) (by omega)).mono fun _ _ h => ⟨h.1, h.2.symm⟩
      have Q1 := Lib.hid q1
      have Q2 := Lib.hid q2
      clear q1 q2
      have e1 : IntKind.i64.wrap ((sizeOf f1 : Int) + (sizeOf f2 : Int)) = (sizeOf f1 : Int) + (sizeOf f2 : Int) := IntWalk.i64_in _ (by omega)
      have e2 : IntKind.i64.wrap ((sizeOf f1 : Int) + (sizeOf f2 : Int) + (r.length : Int)) = (sizeOf f1 : Int) + (sizeOf f2 : Int) + (r.length : Int) := IntWalk.i64_in _ (by omega)
      have e3 : IntKind.i64.wrap ((total (l.take k) : Int) + ((sizeOf f1 : Int) + (sizeOf f2 : Int) + (r.length : Int))) = (total (l.take k) : Int) + ((sizeOf f1 : Int) + (sizeOf f2 : Int) + (r.length : Int)) := IntWalk.i64_in _ (by omega)
      go_quiet ((first
        | (go_at_call_of 38 (Value.slice A1 f1.length c1); exact Calls.quiet_of_same (Q1.out _ (Below.draws HB1.out _)))
        | (go_at_call_of 38 (Value.slice A2 f2.length c2); exact Calls.quiet_of_same (Q2.out _ (Below.draws HB1.out _)))))
      clear e1 e2 e3
      go_wp2
      go_roundw
      case rel => exact ⟨k + 1, by omega, by go_num, by rw [HTS.out]; go_num, Lib.hid (Below.draws HB1.out _)⟩
      case measure => simp [intOf]; omega
    · obtain rfl : k = l.length := by omega
      rw [List.take_of_length_le (Nat.le_refl _)]
      go_wp2
      go_ret
      exact ⟨ret_bool (by rw [decide_eq_decide]; omega), HB.out⟩
end Go.Proofs.YtecamaceainfpaaDoor
