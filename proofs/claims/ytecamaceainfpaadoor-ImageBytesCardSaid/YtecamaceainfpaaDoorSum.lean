/-
  Walk: hash.Sum.
-/
import Derived.Test.YtecamaceainfpaaDoorEnd
namespace Go.Proofs.YtecamaceainfpaaDoor
open Go.RowKit

/-- the digest of a text -/
def dig (s : List UInt8) : List UInt8 := digL h0 s
theorem dig_length (s : List UInt8) : (dig s).length = 32 := digL_length _ _
/-- a digest as a value -/
abbrev D32 (d : List UInt8) : Value := .agg (d.map B8).toArray
theorem flat_le (ls : List (List UInt8)) (k : Nat) : (ls.take k).flatten.length ≤ ls.flatten.length := by
  conv => rhs; rw [← List.take_append_drop k ls]
  simp only [List.flatten_append, List.length_append]; omega
theorem flat_snoc (ls : List (List UInt8)) (k : Nat) (h : k < ls.length) : (ls.take (k + 1)).flatten = (ls.take k).flatten ++ ls.getD k [] := by
  rw [List.take_succ_eq_append_getElem h, List.flatten_append]; simp [h]

set_option maxRecDepth 100000 in
set_option maxHeartbeats 2000000 in
theorem sum_any (w : World) (A : Option Addr) (c : Nat) (ls : List (List UInt8)) (hT : Tabs w) (hA : Strs w w.heap.size A ls) (hn : ls.length ≤ 1099511627776) (hl : ls.flatten.length ≤ 1099511627776) :
    Calls Tryd.prog 37 #[.slice A ls.length c] w fun e w' => e = .returned (D32 (dig ls.flatten)) ∧ Below w.heap.size w w' := by
  have HT := Lib.hid hT
  have HA := Lib.hid hA
  have hlt0 := hT.lt0
  have hlt1 := hT.lt1
  have z0 := Whole.made w 29 ((List.replicate 32 (0 : UInt8)).map B8).toArray
  have b0 := (Below.refl w.heap.size w).alloc (Nat.le_refl _) (.cells ((List.replicate 32 (0 : UInt8)).map B8).toArray 29)
  have HZ := Lib.hid z0
  have HB := Lib.hid b0
  clear z0 b0 hT hA
  go_enter Tryd.func37, Tryd.ntmps37
  go_wp2_with fail
  change Calls _ _ _ (w.alloc (.cells ((List.replicate 32 (0 : UInt8)).map B8).toArray 29)) _
  generalize w.alloc (.cells ((List.replicate 32 (0 : UInt8)).map B8).toArray 29) = w1 at *
  refine (begin_any w1 (HT.out.below (Nat.le_refl _) HB.out)).mono ?_
  rintro e w2 ⟨rfl, hb2⟩
  have hzl := HZ.out.lt
  have HZ2 := Lib.hid (HZ.out.below hb2 hzl)
  have HB2 : Hid (Below w.heap.size w w2) := Lib.hid (HB.out.trans (hb2.mono (Nat.le_of_lt hzl)))
  have hs2 := hb2.size
  clear hb2 HZ HB
  have zs : Whole (w2.alloc (.cells Tryd.zeroCells99 99)) w2.heap.size 99 Tryd.zeroCells99.toList.toArray := by
    have := Whole.made w2 99 Tryd.zeroCells99
    simpa using this
  have HS := Lib.hid zs
  clear zs
  go_wp2_with (refine wpList_store_at rfl 99 (.tmp 3) (.tmp 6) rfl rfl w2.heap.size 0 rfl (stCells h0 (List.replicate 64 0) 0 0) rfl (by kernel_rfl) _ 99 HS.out (by decide) (by decide) ?_; intro w3 H3 F3)
  have HG3 : Hid (Whole w3 w2.heap.size 99 (stCells h0 (List.replicate 64 0) 0 0).toArray) := Lib.hid (by
    have h3 := H3.out
    rw [show (Tryd.zeroCells99.toList.take 0 ++ (stCells h0 (List.replicate 64 0) 0 0 ++ Tryd.zeroCells99.toList.drop (0 + (stCells h0 (List.replicate 64 0) 0 0).length))) = stCells h0 (List.replicate 64 0) 0 0 from by kernel_rfl] at h3
    exact h3)
  have HF3 : Hid (w2.grownBy w3 (some w2.heap.size)) := Lib.hid ((only_new w2 _ _).trans F3.out)
  have HB3 : Hid (Below w.heap.size w w3) := Lib.hid (below_grown HB2.out HF3.out (by omega) (by omega))
  have HZ3 := Lib.hid (HZ2.out.other HF3.out (by simp; omega))
  generalize w2.heap.size = g at *
  clear HS H3 F3 HF3 HB2 HZ2
  have hgl : w.heap.size < g := by omega
  generalize Value.agg _ = jk
  go_loopw [9] (fun s wr => ∃ (k : Nat) (h : List UInt32) (wt : List UInt8) (f n : Nat), k ≤ ls.length ∧ s = .int .i64 k ∧ Hid (Whole wr g 99 (stCells h wt f n).toArray) ∧ Hid (Rep h0 (ls.take k).flatten h wt f n) ∧ Hid (Alive f n) ∧ Hid (w3.grownBy wr (some g))) (fun s _ => ls.length - (intOf s).toNat)
  case atStart => exact ⟨0, h0, List.replicate 64 0, 0, 0, by omega, rfl, HG3, Lib.hid (Rep.empty h0 _ (by simp)), Lib.hid (fun h => h), Lib.hid (World.grownBy.refl _ _)⟩
  case round =>
    obtain ⟨k, h, wt, f, n, hk, rfl, HGr, HRr, HAr, HFr⟩ := hrel
    have HBr : Hid (Below w.heap.size w wr) := Lib.hid (below_grown HB3.out HFr.out HB3.out.size (by omega))
    have HTr := Lib.hid (HT.out.below (Nat.le_refl _) HBr.out)
    by_cases hlt : k < ls.length
    · obtain ⟨ad, rfl, had, hc⟩ := HA.out.at' hlt
      have hcr : wr.cell? (ad.add k) = some (S (ls.getD k [])) := (HBr.out.cell (by unfold Addr.add; split <;> exact had)).trans hc
      clear hc
      have hlen := flat_le ls (k + 1)
      rw [flat_snoc ls k hlt, List.length_append] at hlen
      have HSN := Lib.hid (flat_snoc ls k hlt)
      generalize ls.getD k [] = p at *
      go_wp2_with fail
      refine (add_any wr g 99 h0 (ls.take k).flatten p h wt f n HTr.out HGr.out (by omega) (by omega) h0_length HRr.out HAr.out (by omega)).mono ?_
      rintro e w4 ⟨rfl, ⟨h', wt', f', n', hw4, hr4, ha4⟩, hf4⟩
      have HG4 := Lib.hid hw4
      have HR4 := Lib.hid hr4
      have HA4 := Lib.hid ha4
      have HF4 := Lib.hid (HFr.out.trans hf4)
      clear hw4 hr4 ha4 hf4
      go_wp2
      go_roundw
      case rel => exact ⟨k + 1, h', wt', f', n', by omega, by go_num, HG4, by rw [HSN.out]; exact HR4, HA4, HF4⟩
      case measure => simp [intOf]; omega
    · have hd : decide ((k : Int) < (ls.length : Int)) = false := by simp; omega
      have hd' : decide (k < ls.length) = false := by simp; omega
      have hall : ls.take k = ls := List.take_of_length_le (by omega)
      rw [hall] at HRr
      clear hall
      go_wp2_with fail
      refine (end_any wr g 99 h0 ls.flatten h wt f n HTr.out HGr.out (by omega) (by omega) h0_length HRr.out HAr.out hl).mono ?_
      rintro e w5 ⟨rfl, hf5⟩
      have HZr := HZ3.out.other HFr.out (by simp; omega)
      have HZ5 := Lib.hid (HZr.other hf5 (by simp; omega))
      have HB5 : Hid (Below w.heap.size w w5) := Lib.hid (below_grown HBr.out hf5 HBr.out.size (by omega))
      clear hf5 HZr
      have HDL := Lib.hid (dig_length ls.flatten)
      change Hid ((dig ls.flatten).length = 32) at HDL
      generalize hD : digL h0 ls.flatten = D at *
      have HDD : Hid (dig ls.flatten = D) := Lib.hid hD
      rw [HDD.out] at HDL
      clear hD
      have HDi : Hid ((Tryd.prog.info? 29).map (·.size) = some (D.map B8).toArray.size) := Lib.hid (by
        rw [List.size_toArray, List.length_map, HDL.out]; kernel_rfl)
      have HDl : Hid ((Tryd.prog.info? 29).map (·.size) = some (D.map B8).length) := Lib.hid (by
        rw [List.length_map, HDL.out]; kernel_rfl)
      have HC1 : Hid (0 + (D.map B8).length ≤ ((List.replicate 32 (0 : UInt8)).map B8).length) := Lib.hid (by rw [List.length_map, List.length_map, HDL.out]; decide)
      go_wp2_with (refine wpList_store_at rfl 29 (.tmp 2) (.tmp 16) rfl rfl w.heap.size 0 rfl (D.map B8) rfl HDl.out ((List.replicate 32 (0 : UInt8)).map B8) 29 HZ5.out HC1.out (B8_one _) ?_; intro w6 H6 F6)
      have h6 : Whole w6 w.heap.size 29 (D.map B8).toArray := by
        have := H6.out
        rw [List.length_map, HDL.out] at this
        simpa using this
      rw [HDD.out]
      exact bodyPost_ret (v := .agg (D.map B8).toArray) (results_cell_row rfl _ _ w.heap.size 29 _ (0, 0) _ rfl h6 Tryd.underlying29 rfl HDi.out) rfl ⟨rfl, below_grown HB5.out F6.out HB5.out.size (Nat.le_refl _)⟩
end Go.Proofs.YtecamaceainfpaaDoor
