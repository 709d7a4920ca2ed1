/-
  Walks: hibernacleref32.Great, hibernaclelaw32.ImageBytes.
-/
import Derived.Test.YtmmfcjkabpffeaaGreatDoorAwakeZ
namespace Go.Proofs.YtmmfcjkabpffeaaGreatDoor
open Go.RowKit

/-- an image that is gone through -/
def Small32 (fs bs : List (List UInt8)) (r : List UInt8) : Prop :=
  fs.length ≤ 20 ∧ bs.length ≤ 80 ∧ r.length ≤ 4000 ∧ (∀ l ∈ fs, l.length ≤ 200) ∧ ∀ l ∈ bs, l.length ≤ 200
def Great32Post (w : World) (fs bs : List (List UInt8)) (r : List UInt8) (e : Ending) (w' : World) : Prop :=
  (e = .returned (.int .i64 1) ∨ (e = .returned (.int .i64 0) ∧ Small32 fs bs r)) ∧ Below w.heap.size w w'
theorem mem_of_take {α : Type} {p : α → Prop} {l : List α} {k : Nat} {d : α} (hk : k < l.length) (h : ∀ x ∈ l.take k, p x) (hx : p (l.getD k d)) : ∀ x ∈ l.take (k + 1), p x := by
  intro x hm
  rw [List.take_succ_eq_append_getElem hk, List.mem_append] at hm
  rcases hm with hm | hm
  · exact h x hm
  · rw [List.mem_singleton] at hm
    subst hm
    simpa [List.getD, hk] using hx
set_option maxRecDepth 100000 in
set_option maxHeartbeats 1000000 in
theorem great32_any (w : World) (A A' : Option Addr) (c c' : Nat) (fs bs : List (List UInt8)) (r : List UInt8) (hA : Strs w w.heap.size A fs) (hA' : Strs w w.heap.size A' bs) :
    Calls Tryz.prog 21 #[.agg #[.slice A fs.length c, .slice A' bs.length c', S r]] w (Great32Post w fs bs r) := by
  have HA := Lib.hid hA
  have HA' := Lib.hid hA'
  clear hA hA'
  have hX := Whole.made w 36 #[.slice A fs.length c, .slice A' bs.length c', S r]
  have hW : Below w.heap.size w (w.alloc (.cells #[.slice A fs.length c, .slice A' bs.length c', S r] 36)) := (Below.refl _ _).alloc (Nat.le_refl _) _
  go_enter Tryz.func21, Tryz.ntmps21
  go_upto_region 1 with (fail)
  have hlw := hX.lt
  have x0 : _ = some (Value.slice A fs.length c) := hX.cell 0
  have x1 : _ = some (Value.slice A' bs.length c') := hX.cell 1
  have x2 : _ = some (S r) := hX.cell 2
  clear hX
  generalize w.alloc (.cells #[.slice A fs.length c, .slice A' bs.length c', S r] 36) = w1 at *
  have HWB := Lib.hid hW
  clear hW
  have ONE : ∀ wr : World, Below w.heap.size w wr → Great32Post w fs bs r (.returned (.int .i64 1)) wr := fun wr h => ⟨.inl rfl, h⟩
  by_cases h1 : 20 < fs.length
  · have d1 : decide ((20 : Int) < (fs.length : Int)) = true := by simp; omega
    have d1' : decide (20 < fs.length) = true := by simp; omega
    clear h1
    go_wp2_with fail
    go_ret
    exact ONE _ HWB.out
  have d1 : decide ((20 : Int) < (fs.length : Int)) = false := by simp; omega
  have d1' : decide (20 < fs.length) = false := by simp; omega
  by_cases h2 : 80 < bs.length
  · have d2 : decide ((80 : Int) < (bs.length : Int)) = true := by simp; omega
    have d2' : decide (80 < bs.length) = true := by simp; omega
    clear h1 h2
    go_wp2_with fail
    go_ret
    exact ONE _ HWB.out
  have d2 : decide ((80 : Int) < (bs.length : Int)) = false := by simp; omega
  have d2' : decide (80 < bs.length) = false := by simp; omega
  by_cases h3 : 4000 < r.length
  · have d3 : decide ((4000 : Int) < (r.length : Int)) = true := by simp; omega
    have d3' : decide (4000 < r.length) = true := by simp; omega
    clear h1 h2 h3
    go_wp2_with fail
    go_ret
    exact ONE _ HWB.out
  have d3 : decide ((4000 : Int) < (r.length : Int)) = false := by simp; omega
  have d3' : decide (4000 < r.length) = false := by simp; omega
  have H1 : fs.length ≤ 20 := by omega
  have H2 : bs.length ≤ 80 := by omega
  have H3 : Hid (r.length ≤ 4000) := Lib.hid (by omega)
  clear h1 h2 h3
  go_wp2_with fail
  clear d1 d1' d2 d2' d3 d3'
  have X0 := Lib.hid x0
  have X1 := Lib.hid x1
  clear x0 x1 x2
  go_loopw [24] (fun i wr => ∃ k : Nat, k ≤ fs.length ∧ i = .int .i64 k ∧ Hid (∀ l ∈ fs.take k, l.length ≤ 200) ∧ Hid (Below w1.heap.size w1 wr)) (fun i _ => fs.length - (intOf i).toNat)
  case atStart => exact ⟨0, by omega, rfl, Lib.hid (by simp), Lib.hid (Below.refl _ _)⟩
  case round =>
    obtain ⟨k, hk, rfl, HE, HW⟩ := hrel
    have x0 : wr.cell? ⟨w.heap.size, 0, none⟩ = some (Value.slice A fs.length c) := (HW.out.cell hlw).trans X0.out
    by_cases hlt : k < fs.length
    · obtain ⟨ad, rfl, had, a0⟩ := HA.out.at' hlt
      have a0' : wr.cell? (ad.add k) = _ := (HW.out.cell (by rw [add_block]; exact Nat.lt_trans had hlw)).trans ((HWB.out.cell (by rw [add_block]; exact had)).trans a0)
      clear a0
      have HN : Hid ((fs.getD k []).length ≤ 200 → ∀ l ∈ fs.take (k + 1), l.length ≤ 200) := Lib.hid (fun hx => mem_of_take hlt HE.out hx)
      generalize fs.getD k [] = x at *
      have i0 : (0 : Int) ≤ (k : Int) := by omega
      have i1 : (k : Int) < (fs.length : Int) := by omega
      by_cases h2 : 200 < x.length
      · have d2 : decide ((200 : Int) < (x.length : Int)) = true := by simp; omega
        have d2' : decide (200 < x.length) = true := by simp; omega
        clear HN h2
        go_wp2_with fail
        go_ret
        exact ONE _ (HWB.out.trans (HW.out.mono HWB.out.size))
      · have d2 : decide ((200 : Int) < (x.length : Int)) = false := by simp; omega
        have d2' : decide (200 < x.length) = false := by simp; omega
        have HN2 := Lib.hid (HN.out (by omega))
        clear HN h2
        go_wp2_with fail
        go_roundw
        case rel => exact ⟨k + 1, by omega, by go_num, HN2, HW⟩
        case measure => simp [intOf]; omega
    · obtain rfl : k = fs.length := by omega
      have hd : decide (fs.length < fs.length) = false := by simp
      have HF : Hid (∀ l ∈ fs, l.length ≤ 200) := Lib.hid (by have := HE.out; rwa [List.take_length] at this)
      have x1 : wr.cell? ⟨w.heap.size, 1, none⟩ = some (Value.slice A' bs.length c') := (HW.out.cell hlw).trans X1.out
      go_wp2_with fail
      clear x0 x1
      have HW1 := HW
      clear HW
      go_loopw [38] (fun i wr => ∃ k : Nat, k ≤ bs.length ∧ i = .int .i64 k ∧ Hid (∀ l ∈ bs.take k, l.length ≤ 200) ∧ Hid (Below w1.heap.size w1 wr)) (fun i _ => bs.length - (intOf i).toNat)
      case atStart => exact ⟨0, by omega, rfl, Lib.hid (by simp), HW1⟩
      case round =>
        obtain ⟨k, hk, rfl, HE, HW⟩ := hrel
        have x1 : wr.cell? ⟨w.heap.size, 1, none⟩ = some (Value.slice A' bs.length c') := (HW.out.cell hlw).trans X1.out
        by_cases hlt : k < bs.length
        · obtain ⟨ad, rfl, had, a0⟩ := HA'.out.at' hlt
          have a0' : wr.cell? (ad.add k) = _ := (HW.out.cell (by rw [add_block]; exact Nat.lt_trans had hlw)).trans ((HWB.out.cell (by rw [add_block]; exact had)).trans a0)
          clear a0
          have HN : Hid ((bs.getD k []).length ≤ 200 → ∀ l ∈ bs.take (k + 1), l.length ≤ 200) := Lib.hid (fun hx => mem_of_take hlt HE.out hx)
          generalize bs.getD k [] = x at *
          have i0 : (0 : Int) ≤ (k : Int) := by omega
          have i1 : (k : Int) < (bs.length : Int) := by omega
          by_cases h2 : 200 < x.length
          · have d2 : decide ((200 : Int) < (x.length : Int)) = true := by simp; omega
            have d2' : decide (200 < x.length) = true := by simp; omega
            clear HN h2
            go_wp2_with fail
            go_ret
            exact ONE _ (HWB.out.trans (HW.out.mono HWB.out.size))
          · have d2 : decide ((200 : Int) < (x.length : Int)) = false := by simp; omega
            have d2' : decide (200 < x.length) = false := by simp; omega
            have HN2 := Lib.hid (HN.out (by omega))
            clear HN h2
            go_wp2_with fail
            go_roundw
            case rel => exact ⟨k + 1, by omega, by go_num, HN2, HW⟩
            case measure => simp [intOf]; omega
        · obtain rfl : k = bs.length := by omega
          have hd : decide (bs.length < bs.length) = false := by simp
          have HB : Hid (∀ l ∈ bs, l.length ≤ 200) := Lib.hid (by have := HE.out; rwa [List.take_length] at this)
          go_wp2_with fail
          go_ret
          exact ⟨.inr ⟨rfl, H1, H2, H3.out, HF.out, HB.out⟩, HWB.out.trans (HW.out.mono HWB.out.size)⟩

theorem sizeOf_small {ls : List (List UInt8)} (h : ∀ l ∈ ls, l.length ≤ 200) : sizeOf ls ≤ 205 * ls.length := by
  induction ls with
  | nil => simp [sizeOf]
  | cons l ls ih =>
    have h1 := h l (by simp)
    have h2 := ih fun x hx => h x (by simp [hx])
    simp only [sizeOf, List.map_cons, List.sum_cons, List.length_cons] at *
    omega
end Go.Proofs.YtmmfcjkabpffeaaGreatDoor
