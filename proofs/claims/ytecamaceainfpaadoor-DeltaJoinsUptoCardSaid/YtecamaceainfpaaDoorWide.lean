/-
  Walk: hibernaclelaw35.wide.
-/
import Derived.Test.YtecamaceainfpaaDoorDeltaC
namespace Go.Proofs.YtecamaceainfpaaDoor
open Go.RowKit

theorem wSize_snoc (l : List (Int × List UInt8)) (k : Nat) (h : k < l.length) : wSize (l.take (k + 1)) = wSize (l.take k) + (8 + (l.getD k (0, [])).2.length) := by
  rw [List.take_succ_eq_append_getElem h, wSize_append]; simp [wSize, h]
theorem wSize_take_le (l : List (Int × List UInt8)) (k : Nat) : wSize (l.take k) ≤ wSize l := by
  conv => rhs; rw [← List.take_append_drop k l]
  rw [wSize_append]; omega
set_option maxRecDepth 100000 in
set_option maxHeartbeats 2000000 in
theorem wide_any (w : World) (B B' : Option Addr) (d d' : Nat) (F : List UInt8) (wf wb : List (Int × List UInt8)) (r T : List UInt8) (hB : Wrs w w.heap.size B wf) (hB' : Wrs w w.heap.size B' wb)
    (hs : wSize wf + wSize wb + r.length ≤ 1099511627776) (hF : F.length = 32) (hT32 : T.length = 32) :
    Calls Tryd.prog 21 #[.agg (dCells F (.slice B wf.length d) (.slice B' wb.length d') r T).toArray] w fun e w' => e = .returned (.bool (decide (3000 < r.length + wSize wf + wSize wb))) ∧ Below w.heap.size w w' := by
  have HB := Lib.hid hB
  have HB' := Lib.hid hB'
  have D32c : (dCells F (.slice B wf.length d) (.slice B' wb.length d') r T)[32]? = some (Value.slice B wf.length d) := dCells_32 hF _ _ _ _
  have D33c : (dCells F (.slice B wf.length d) (.slice B' wb.length d') r T)[33]? = some (Value.slice B' wb.length d') := dCells_33 hF _ _ _ _
  have D34c : (dCells F (.slice B wf.length d) (.slice B' wb.length d') r T)[34]? = some (S r) := dCells_34 hF _ _ _ _
  have hl67 : (dCells F (.slice B wf.length d) (.slice B' wb.length d') r T).toArray.size = 67 := by rw [List.size_toArray]; exact dCells_length hF hT32 _ _ _
  clear hB hB'
  generalize dCells F (.slice B wf.length d) (.slice B' wb.length d') r T = dc at *
  have hx := Whole.made w 32 dc.toArray
  have x1 : (w.alloc (.cells dc.toArray 32)).cell? ⟨w.heap.size, 32, none⟩ = some (Value.slice B wf.length d) := (hx.cell 32).trans (by rw [List.getElem?_toArray]; exact D32c)
  have x2 : (w.alloc (.cells dc.toArray 32)).cell? ⟨w.heap.size, 33, none⟩ = some (Value.slice B' wb.length d') := (hx.cell 33).trans (by rw [List.getElem?_toArray]; exact D33c)
  have x3 : (w.alloc (.cells dc.toArray 32)).cell? ⟨w.heap.size, 34, none⟩ = some (S r) := (hx.cell 34).trans (by rw [List.getElem?_toArray]; exact D34c)
  have HW := Lib.hid ((Below.refl w.heap.size w).alloc (Nat.le_refl _) (.cells dc.toArray 32))
  have lb := wSize_len wf
  have lb' := wSize_len wb
  clear D32c D33c D34c hx hF hT32
  go_enter Tryd.func21, Tryd.ntmps21
  go_wp2_with fail
  clear x1 x2 x3 hl67
  have hy := Whole.made (w.alloc (.cells dc.toArray 32)) 30 #[.slice B wf.length d, .slice B' wb.length d']
  have HW2 := Lib.hid (HW.out.alloc (by simp) (.cells #[.slice B wf.length d, .slice B' wb.length d'] 30))
  rw [show (w.alloc (.cells dc.toArray 32)).heap.size = w.heap.size + 1 by simp] at hy
  generalize (w.alloc (.cells dc.toArray 32)).alloc (.cells #[.slice B wf.length d, .slice B' wb.length d'] 30) = w1 at *
  have HY := Lib.hid hy
  clear hy HW
  have HTOT : Hid ((fun k : Nat => r.length + (if 1 ≤ k then wSize wf else 0) + (if 2 ≤ k then wSize wb else 0)) 0 = r.length) := Lib.hid (by simp)
  obtain ⟨acc, HACC⟩ : ∃ acc : Nat → Nat, Hid (acc = fun k : Nat => r.length + (if 1 ≤ k then wSize wf else 0) + (if 2 ≤ k then wSize wb else 0)) := ⟨_, Lib.hid rfl⟩
  have HA0 : Hid (acc 0 = r.length) := Lib.hid (by rw [HACC.out]; simp)
  have HA2 : Hid (acc 2 = r.length + wSize wf + wSize wb) := Lib.hid (by rw [HACC.out]; simp)
  have HAK : Hid (∀ k, k < 2 → ∃ Q c l, Wrs w w.heap.size Q l ∧ l.length ≤ 274877906944 ∧ acc (k + 1) = acc k + wSize l ∧ acc k + wSize l ≤ 1099511627776 ∧ (#[.slice B wf.length d, .slice B' wb.length d'] : Array Value)[k]? = some (Value.slice Q l.length c)) := Lib.hid (by
    intro k hk
    match k, hk with
    | 0, _ => exact ⟨B, d, wf, HB.out, by omega, by rw [HACC.out]; simp, by rw [HACC.out]; simp; omega, rfl⟩
    | 1, _ => exact ⟨B', d', wb, HB'.out, by omega, by rw [HACC.out]; simp, by rw [HACC.out]; simp; omega, rfl⟩)
  clear HTOT
  have hlw : w.heap.size + 1 < w1.heap.size := HY.out.lt
  go_loopw [3, 17] (fun n i wr => ∃ k : Nat, k ≤ 2 ∧ i = .int .i64 k ∧ n = .int .i64 (acc k) ∧ Hid (Below w1.heap.size w1 wr)) (fun _ i _ => 2 - (intOf i).toNat)
  case atStart => exact ⟨0, by omega, rfl, by rw [HA0.out], Lib.hid (Below.refl _ _)⟩
  case round =>
    obtain ⟨k, hk, rfl, rfl, HBR⟩ := hrel
    by_cases hlt : k < 2
    · obtain ⟨Q, c, l, hQ, hll, hac, hle, hcell⟩ := HAK.out k hlt
      have hd : decide ((k : Int) < 2) = true := by simp; omega
      have hd' : decide (k < 2) = true := by simp; omega
      have hck : wr.cell? ⟨w.heap.size + 1, k, none⟩ = some (Value.slice Q l.length c) := (HBR.out.cell (by show w.heap.size + 1 < _; omega)).trans ((HY.out.cell k).trans hcell)
      have hck' : wr.cell? ((⟨w.heap.size + 1, 0, none⟩ : Addr).add k) = some (Value.slice Q l.length c) := by
        rw [show (⟨w.heap.size + 1, 0, none⟩ : Addr).add k = ⟨w.heap.size + 1, k, none⟩ by unfold Addr.add; split <;> simp_all]; exact hck
      have HQ := Lib.hid hQ
      have HAC := Lib.hid hac
      have i0 : (0 : Int) ≤ (k : Int) := by omega
      have i1 : (k : Int) < 2 := by omega
      clear hcell hQ hac
      go_wp2_with fail
      clear hd hd' hck hck' i0 i1
      obtain ⟨wo, hwo⟩ : ∃ wo : World, Hid (wo = wr) := ⟨_, Lib.hid rfl⟩
      go_loopw [3, 23] (fun n i wr => ∃ j : Nat, j ≤ l.length ∧ i = .int .i64 j ∧ n = .int .i64 (acc k + wSize (l.take j)) ∧ Hid (Below w1.heap.size w1 wr)) (fun _ i _ => l.length - (intOf i).toNat)
      case atStart => exact ⟨0, by omega, rfl, by simp [wSize], HBR⟩
      case round =>
        obtain ⟨j, hj, rfl, rfl, HBQ⟩ := hrel
        by_cases hlt2 : j < l.length
        · obtain ⟨bd, rfl, hbd, b0, b1⟩ := HQ.out.at' hlt2
          have hbw := (HW2.out.trans (HBQ.out.mono (by omega)))
          have b0' := (hbw.cell (p := bd.add (j * 2)) (by rw [add_block]; exact hbd)).trans b0
          have b1' := (hbw.cell (p := ⟨(bd.add (j * 2)).block, (bd.add (j * 2)).off + 1, none⟩) (by show (bd.add (j * 2)).block < _; rw [add_block]; exact hbd)).trans b1
          have HSN := Lib.hid (wSize_snoc l j hlt2)
          have htl := wSize_take_le l (j + 1)
          rw [HSN.out] at htl
          clear b0 b1 hbw
          generalize l.getD j (0, []) = p at *
          obtain ⟨n, y⟩ := p
          dsimp only at b0' b1' htl HSN
          have j0 : (0 : Int) ≤ (j : Int) := by omega
          have j1 : (j : Int) < (l.length : Int) := by omega
          have HBN := Lib.hid (HBQ.out.alloc HBQ.out.size (.cells #[.int .i64 n, S y] 36))
          go_wp2_with fail
          go_roundw
          case rel => exact ⟨j + 1, by omega, by go_num, by rw [HSN.out]; go_num, HBN⟩
          case measure => simp [intOf]; omega
        · obtain rfl : j = l.length := by omega
          have hd : decide (l.length < l.length) = false := by simp
          rw [List.take_of_length_le (Nat.le_refl _)]
          go_wp2_with fail
          exact ⟨⟨k + 1, by omega, by go_num, by rw [HAC.out]; go_num, HBQ⟩, by simp [intOf]; omega⟩
    · obtain rfl : k = 2 := by omega
      have hd : decide (((2 : Nat) : Int) < 2) = false := by simp
      rw [HA2.out]
      go_wp2_with fail
      go_ret
      exact ⟨ret_bool (by rw [decide_eq_decide]; omega), HW2.out.trans (HBR.out.mono (by omega))⟩
end Go.Proofs.YtecamaceainfpaaDoor
