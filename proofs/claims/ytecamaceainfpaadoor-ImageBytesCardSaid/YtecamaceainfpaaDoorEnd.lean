/-
  Walk: (*hash.state).end.
-/
import Derived.Test.YtecamaceainfpaaDoorAdd
import Derived.Test.YtecamaceainfpaaDoorBegin
namespace Go.Proofs.YtecamaceainfpaaDoor
open Go.RowKit

theorem only_new (w : World) (o : Obj) (row : Option Nat) : w.grownBy (w.alloc o) row := ⟨rfl, rfl, rfl, by simp, fun i hi _ => Below.heap_alloc w o i hi⟩
theorem grown_two {a w w' w'' : World} {g g1 g2 : Nat} (h : a.grownBy w (some g)) (h1 : w.grownBy w' (some g1)) (h2 : w'.grownBy w'' (some g2)) (_hg : g < a.heap.size) (hg1 : a.heap.size ≤ g1) (hg2 : a.heap.size ≤ g2) : a.grownBy w'' (some g) :=
  ⟨h2.os.trans (h1.os.trans h.os), h2.tape.trans (h1.tape.trans h.tape), h2.output.trans (h1.output.trans h.output), Nat.le_trans h.size (Nat.le_trans h1.size h2.size), fun i hi hne =>
    (h2.block i (Nat.lt_of_lt_of_le hi (Nat.le_trans h.size h1.size)) (by simp; omega)).trans ((h1.block i (Nat.lt_of_lt_of_le hi h.size) (by simp; omega)).trans (h.block i hi hne))⟩
/-- the digest so far: its first k bytes, then zeros -/
def digTo (D : List UInt8) (k : Nat) : List UInt8 := D.take k ++ List.replicate (32 - k) 0
theorem digTo_set {D : List UInt8} (hD : D.length = 32) {k : Nat} (hk : k < 32) (x : UInt8) (hx : D.getD k 0 = x) : (digTo D k).set k x = digTo D (k + 1) := by
  unfold digTo
  have hl : k < D.length := by omega
  rw [List.set_append, if_neg (by simp; omega), List.take_succ_eq_append_getElem hl, List.append_assoc]
  congr 1
  have e : 32 - k = (32 - (k + 1)) + 1 := by omega
  rw [e, List.replicate_succ, show k - (List.take k D).length = 0 by simp; omega, List.set_cons_zero]
  have hx' : D[k] = x := by rw [← hx]; simp [hl]
  rw [hx']; rfl
theorem digTo_all {D : List UInt8} (hD : D.length = 32) : digTo D 32 = D := by simp [digTo, List.take_of_length_le, hD]
theorem flat4_at : ∀ (l : List UInt32) (i j : Nat), i < l.length → j < 4 → (l.flatMap bytes4).getD (4 * i + j) 0 = UInt8.ofNat ((l.getD i 0).toNat / 2 ^ (8 * j))
  | [], i, j, hi, _ => by simp at hi
  | x :: l, 0, j, _, hj => by
    rw [List.flatMap_cons, List.getD_eq_getElem?_getD, List.getElem?_append_left (by rw [bytes4_length]; omega)]
    simp [bytes4, hj]
  | x :: l, i + 1, j, hi, hj => by
    have := flat4_at l i j (by simpa using hi) hj
    rw [List.flatMap_cons, List.getD_eq_getElem?_getD, List.getElem?_append_right (by rw [bytes4_length]; omega), bytes4_length, show 4 * (i + 1) + j - 4 = 4 * i + j by omega, ← List.getD_eq_getElem?_getD, this]
    simp
theorem byte_of (x : UInt32) (j : Nat) : IntKind.u8.wrap ((x.toNat : Int) / 2 ^ (8 * j)) = ((UInt8.ofNat (x.toNat / 2 ^ (8 * j))).toNat : Int) := by
  rw [IntKind.wrap_u8, UInt8.toNat_ofNat']
  have : ((x.toNat : Int) / 2 ^ (8 * j)) = ((x.toNat / 2 ^ (8 * j) : Nat) : Int) := by
    rw [Int.natCast_ediv]; congr 1
  rw [this]; rfl
theorem at_U {l : List UInt32} {i : Nat} (h : i < l.length) : (l.map U).toArray[i]? = some (U (l.getD i 0)) := by simp [h]
theorem cell_B {w : World} {g : Nat} {t : TypeId} {v : List UInt8} {a : Nat} (hg : Whole w g t (v.map B8).toArray) (ha : a < v.length) : w.cell? ⟨g, a, none⟩ = some (B8 (v.getD a 0)) := by
  rw [hg.cell]; simp [ha]
theorem put_B {w : World} {g : Nat} {t : TypeId} {v : List UInt8} (hg : Whole w g t (v.map B8).toArray) (a : Nat) (x : UInt8) : Whole (w.setCell ⟨g, a, none⟩ (B8 x)) g t ((v.set a x).map B8).toArray := by
  have h := hg.set a (B8 x)
  rw [List.map_set]
  simpa using h

set_option maxRecDepth 100000 in
set_option maxHeartbeats 2000000 in
theorem end_any (w : World) (g : Nat) (t : TypeId) (hs : List UInt32) (pre : List UInt8) (h : List UInt32) (wt : List UInt8) (f n : Nat) (hT : Tabs w) (hg : Whole w g t (stCells h wt f n).toArray) (hg0 : g ≠ 0) (hg1 : g ≠ 1)
    (hh : hs.length = 8) (hr : Rep hs pre h wt f n) (ha : Alive f n) (hl : pre.length ≤ 1099511627776) :
    Calls Tryd.prog 68 #[.pointer (some ⟨g, 0, none⟩)] w fun e w' => e = .returned (.agg ((digL hs pre).map B8).toArray) ∧ w.grownBy w' (some g) := by
  have hf := hr.f_le
  have hln := hr.len
  have hn1 : n ≤ 1099511627776 := by omega
  have HLN := Lib.hid hln
  have hgl := hg.lt
  clear hln
  have H8 : Hid (h.length = 8) := Lib.hid (hr.h_length hh)
  have H64 : Hid (wt.length = 64) := Lib.hid hr.w_length
  have HS := Lib.hid (hr.end_ ha)
  have HT := Lib.hid hT
  clear hr ha hT hh
  have z0 := Whole.made w 29 ((List.replicate 32 (0 : UInt8)).map B8).toArray
  have g0 := hg.block (.cells ((List.replicate 32 (0 : UInt8)).map B8).toArray 29)
  have b0 := (Below.refl w.heap.size w).alloc (Nat.le_refl _) (.cells ((List.replicate 32 (0 : UInt8)).map B8).toArray 29)
  have HZ := Lib.hid z0
  have HG := Lib.hid g0
  have HB := Lib.hid b0
  clear z0 g0 b0 hg
  go_enter Tryd.func68, Tryd.ntmps68
  go_wp2
  change Code.wp _ _ _ _ (w.alloc (.cells ((List.replicate 32 (0 : UInt8)).map B8).toArray 29))
  generalize w.alloc (.cells ((List.replicate 32 (0 : UInt8)).map B8).toArray 29) = w1 at *
  have c72 : w1.cell? ⟨g, 72, none⟩ = some (.int .i64 (f : Int)) := by rw [HG.out.cell]; simpa using stCells_f H8.out H64.out
  have c73 : w1.cell? ⟨g, 73, none⟩ = some (.int .u64 (n : Int)) := by rw [HG.out.cell]; simpa using stCells_n H8.out H64.out
  have f73 := HG.out.free 73
  have wf : IntKind.u64.wrap (f : Int) = (f : Int) := by rw [IntKind.wrap_u64]; omega
  have wn : IntKind.u64.wrap ((n : Int) + (f : Int)) = (n : Int) + (f : Int) := by rw [IntKind.wrap_u64]; omega
  go_still_tail 12, (by kernel_rfl)
  change wpList _ _ _ _ _ w1.drew
  clear wf wn
  go_wp2
  have hg2 : Whole (w1.setCell ⟨g, 73, none⟩ (.int .u64 ((n : Int) + (f : Int)))).drew g t (stCells h wt f (n + f)).toArray := by
    have := (HG.out.set 73 (.int .u64 ((n + f : Nat) : Int))).draw
    rw [List.setIfInBounds_toArray, stCells_set_n H8.out H64.out] at this
    rw [show ((n : Int) + (f : Int)) = ((n + f : Nat) : Int) by omega]
    exact this
  have hf2 : w1.grownBy (w1.setCell ⟨g, 73, none⟩ (.int .u64 ((n : Int) + (f : Int)))).drew (some g) := (only_put 73 _).trans (only_draw _ _)
  have HG2 := Lib.hid hg2
  have HF2 := Lib.hid hf2
  clear hg2 hf2 f73 c72 c73
  generalize (w1.setCell ⟨g, 73, none⟩ (.int .u64 ((n : Int) + (f : Int)))).drew = w2 at *
  have c72 : w2.cell? ⟨g, 72, none⟩ = some (.int .i64 (f : Int)) := by rw [HG2.out.cell]; simpa using stCells_f H8.out H64.out
  have if0 : (0 : Int) ≤ (f : Int) := by omega
  have if1 : (f : Int) ≤ 64 := by omega
  go_still_tail 8, (by kernel_rfl)
  change wpList _ _ _ _ _ w2.drew
  clear c72
  refine wpList_clear_bytes rfl (.tmp 26) 73 rfl rfl 5 Tryd.underlying73 (fun _ => by kernel_rfl) g (if 64 = f then 8 else 8 + f) (64 - f) (64 - f) ?_ (stCells h wt f (n + f)) t HG2.out.draw ?_ ?_
  · show Value.slice (some (if 64 = f then _ else _)) _ _ = _
    split <;> rfl
  · rw [stCells_length H8.out H64.out]; split <;> omega
  intro w3 H3 F3
  have HL64 : Hid ((wt.take f ++ List.replicate (64 - f) 0).length = 64) := Lib.hid (by simp [H64.out]; omega)
  have HG3 : Hid (Whole w3 g t (stCells h (wt.take f ++ List.replicate (64 - f) 0) f (n + f)).toArray) := Lib.hid (by
    have h3 := H3.out
    by_cases e : 64 = f
    · subst e
      rw [if_pos rfl] at h3
      simp only [Nat.sub_self, List.replicate_zero, List.append_nil, List.nil_append, Nat.add_zero, List.take_append_drop] at h3 ⊢
      rw [List.take_of_length_le (by rw [H64.out]; omega)]
      exact h3
    · rw [if_neg e] at h3
      have e2 := stCells_put (f := f) (n := n + f) H8.out H64.out f (List.replicate (64 - f) 0) (by simp; omega)
      rw [List.map_replicate, List.length_replicate] at e2
      rw [e2, List.drop_of_length_le (by rw [H64.out]; omega), List.append_nil] at h3
      exact h3)
  have HF3 : Hid (w1.grownBy w3 (some g)) := Lib.hid ((HF2.out.trans (only_draw _ _)).trans F3.out)
  clear H3 F3 HG2 HF2 HG
  have HT3 := Lib.hid ((HT.out.below (Nat.le_refl _) HB.out).only HF3.out hg0 hg1)
  generalize wt.take f ++ List.replicate (64 - f) 0 = wt2 at *
  generalize Value.slice (some (if 64 = f then (⟨g, 8, none⟩ : Addr) else ⟨g, 8 + f, none⟩)) (64 - f) (64 - f) = junk
  go_wp2_with fail
  refine (take_any _ g t h wt2 f (n + f) true HT3.out HG3.out H8.out HL64.out).mono ?_
  rintro e w4 ⟨rfl, hw4, hf4⟩
  rw [HS.out] at hw4
  have HG4 := Lib.hid hw4
  have HF4 := Lib.hid (HF3.out.trans hf4)
  have HZ4 := Lib.hid (HZ.out.other HF4.out (by simp; omega))
  have HFw : Hid (w.grownBy w4 (some g)) := Lib.hid (grown_of HB.out HF4.out hgl)
  clear hw4 hf4 HG3 HF3 HT3 HZ HF4 HB
  have hg4 := HG4.out.block (.cells ((List.replicate 32 (0 : UInt8)).map B8).toArray 29)
  have hz4 := HZ4.out.block (.cells ((List.replicate 32 (0 : UInt8)).map B8).toArray 29)
  have hd4 := Whole.made w4 29 ((List.replicate 32 (0 : UInt8)).map B8).toArray
  have hf5 := HFw.out.trans (only_new w4 (.cells ((List.replicate 32 (0 : UInt8)).map B8).toArray 29) (some g))
  have hzl := HZ4.out.lt
  have hgl4 := HG4.out.lt
  have HG5 := Lib.hid hg4
  have HZ5 := Lib.hid hz4
  have HD5 := Lib.hid hd4
  have HF5 := Lib.hid hf5
  clear hg4 hz4 hd4 hf5 HG4 HZ4 HFw
  have hch : ∀ j v, ((sumL hs pre).map U)[j]? = some v → (w4.alloc (.cells ((List.replicate 32 (0 : UInt8)).map B8).toArray 29)).cell? ((⟨g, 0, none⟩ : Addr).add j) = some v := by
    intro j v hj
    have hjl : j < 8 := by
      have := (List.getElem?_eq_some_iff.1 hj).1
      simpa [sumL_length] using this
    have ha : (⟨g, 0, none⟩ : Addr).add j = ⟨g, j, none⟩ := by unfold Addr.add; split <;> simp_all
    rw [ha, HG5.out.cell, ← hj]
    have := stCells_h (wt := wt2) (f := f) (n := n + f) (sumL_length hs pre) hjl
    simp [this, sumL_length, hjl]
  have HCH := Lib.hid hch
  clear hch
  go_wp2_with (refine wpList_load_at rfl 96 (.tmp 31) rfl ⟨g, 0, none⟩ rfl ((sumL hs pre).map U) _ HCH.out Tryd.underlying96 rfl ?hsz ?_)
  case hsz => rw [List.length_map, sumL_length]; kernel_rfl
  clear HCH HG5
  change Code.wp _ _ _ _ (w4.alloc (.cells ((List.replicate 32 (0 : UInt8)).map B8).toArray 29))
  generalize w4.alloc (.cells ((List.replicate 32 (0 : UInt8)).map B8).toArray 29) = w5 at *
  generalize w4.heap.size = gd at *
  clear w4
  obtain ⟨hh, HHs⟩ : ∃ z, Hid (sumL hs pre = z) := ⟨_, Lib.hid rfl⟩
  have H8s : Hid (hh.length = 8) := Lib.hid (by rw [← HHs.out]; exact sumL_length hs pre)
  have HDD : Hid (digL hs pre = hh.flatMap bytes4) := Lib.hid (by unfold digL; rw [HHs.out])
  have HDL : Hid ((digL hs pre).length = 32) := Lib.hid (digL_length hs pre)
  rw [HHs.out]
  obtain ⟨D, HDn⟩ : ∃ z, Hid (digL hs pre = z) := ⟨_, Lib.hid rfl⟩
  rw [HDn.out] at HDD HDL
  obtain ⟨av, HAV⟩ : ∃ z, Hid (Value.agg (hh.map U).toArray = z) := ⟨_, Lib.hid rfl⟩
  rw [HAV.out]
  go_loopw [33] (fun s wr => ∃ i : Nat, i ≤ 8 ∧ s = .int .i64 i ∧ Hid (Whole wr gd 29 ((digTo D (4 * i)).map B8).toArray) ∧ Hid (w5.grownBy wr (some gd))) (fun s _ => 8 - (intOf s).toNat)
  case atStart => exact ⟨0, by omega, rfl, by simpa [digTo] using HD5, Lib.hid (World.grownBy.refl _ _)⟩
  case round =>
    obtain ⟨i, hi, rfl, HDr, HFr⟩ := hrel
    by_cases hlt : i < 8
    · have hix : ∀ W : World, (Instr.index 96 av (.int .i64 (i : Int))).run Tryd.prog W = .ok (U (hh.getD i 0)) W := fun W => by
        rw [← HAV.out]
        exact run_index_ints W 96 95 8 _ .i64 .u32 i _ Tryd.underlying96 Tryd.underlying95 (by kernel_rfl) hlt (at_U (by rw [H8s.out]; exact hlt))
      obtain ⟨x, HX⟩ : ∃ z, Hid (hh.getD i 0 = z) := ⟨_, Lib.hid rfl⟩
      rw [HX.out] at hix
      go_wp2
      clear hix
      obtain ⟨wi, HWI⟩ : ∃ z, Hid (wr = z) := ⟨_, Lib.hid rfl⟩
      rw [HWI.out] at HDr HFr
      rw [HWI.out]
      clear HWI wr
      go_loopw [37] (fun s wr => ∃ j : Nat, j ≤ 4 ∧ s = .int .i64 j ∧ Hid (Whole wr gd 29 ((digTo D (4 * i + j)).map B8).toArray) ∧ Hid (w5.grownBy wr (some gd))) (fun s _ => 4 - (intOf s).toNat)
      case atStart => exact ⟨0, by omega, rfl, HDr, HFr⟩
      case round =>
        obtain ⟨j, hj, rfl, HDj, HFj⟩ := hrel
        by_cases hjl : j < 4
        · have cd := cell_B HDj.out (a := 4 * i + j) (by simp [digTo, HDL.out]; omega)
          have fd := HDj.out.free (4 * i + j)
          have s8 : (8 * (j : Int)).toNat = 8 * j := by omega
          have m8 : min (8 * j) 32 = 8 * j := by omega
          have t4 : (4 * (i : Int) + (j : Int)).toNat = 4 * i + j := by omega
          go_wp2
          have hx : D.getD (4 * i + j) 0 = UInt8.ofNat (x.toNat / 2 ^ (8 * j)) := by
            rw [HDD.out, flat4_at hh i j (by rw [H8s.out]; exact hlt) hjl, HX.out]
          have hv : ((x.toNat : Int) / 2 ^ (8 * j) % 256) = ((UInt8.ofNat (x.toNat / 2 ^ (8 * j))).toNat : Int) := by
            rw [← byte_of, IntKind.wrap_u8]
          rw [hv]
          refine ⟨⟨j + 1, by omega, by go_num, Lib.hid ?_, Lib.hid (HFj.out.trans (only_put _ _))⟩, by simp [intOf]; omega⟩
          have := put_B HDj.out (4 * i + j) (UInt8.ofNat (x.toNat / 2 ^ (8 * j)))
          rw [digTo_set HDL.out (by omega) _ hx] at this
          exact this
        · have hd4 : decide ((j : Int) < 4) = false := by simp; omega
          obtain rfl : j = 4 := by omega
          go_wp2
          go_roundw
          case rel =>
            have R : ∃ i' : Nat, i' ≤ 8 ∧ Value.int .i64 ((i : Int) + 1) = .int .i64 i' ∧ Hid (Whole wr gd 29 ((digTo D (4 * i')).map B8).toArray) ∧ Hid (w5.grownBy wr (some gd)) := ⟨i + 1, by omega, by go_num, HDj, HFj⟩
            first | exact R | ((repeat apply Exists.intro); exact ⟨R, rfl⟩)
          case measure => simp [intOf]; omega
    · have hd8 : decide ((i : Int) < 8) = false := by simp; omega
      obtain rfl : i = 8 := by omega
      have HD8 : Hid (Whole wr gd 29 (D.map B8).toArray) := Lib.hid (by have := HDr.out; rwa [digTo_all HDL.out] at this)
      have HZ8 : Hid (Whole wr w.heap.size 29 ((List.replicate 32 (0 : UInt8)).map B8).toArray) := Lib.hid (HZ5.out.other HFr.out (by simp; omega))
      have hDi : (Tryd.prog.info? 29).map (·.size) = some (D.map B8).toArray.size := by
        rw [List.size_toArray, List.length_map, HDL.out]; kernel_rfl
      have hDl : (Tryd.prog.info? 29).map (·.size) = some (D.map B8).length := by
        rw [List.length_map, HDL.out]; kernel_rfl
      have HC1 : Hid (0 + (D.map B8).length ≤ ((List.replicate 32 (0 : UInt8)).map B8).length) := Lib.hid (by rw [List.length_map, List.length_map, HDL.out]; decide)
      have HDi := Lib.hid hDi
      have HDl := Lib.hid hDl
      clear hDi hDl HDr
      go_wp2_with (first
        | (refine wpList_load_row rfl 29 (.tmp 3) rfl gd rfl 29 (D.map B8).toArray (0, 0) _ HD8.out Tryd.underlying29 rfl HDi.out ?_)
        | (refine wpList_store_at rfl 29 (.tmp 2) (.tmp 52) rfl rfl w.heap.size 0 rfl (D.map B8) rfl HDl.out ((List.replicate 32 (0 : UInt8)).map B8) 29 HZ8.out HC1.out (B8_one _) ?_
           intro w6 H6 F6))
      have h6 : Whole w6 w.heap.size 29 (D.map B8).toArray := by
        have := H6.out
        rw [List.length_map, HDL.out] at this
        simpa using this
      rw [HDn.out]
      refine bodyPost_ret (v := .agg (D.map B8).toArray) (results_cell_row rfl _ _ w.heap.size 29 _ (0, 0) _ rfl h6 Tryd.underlying29 rfl HDi.out) rfl ⟨rfl, ?_⟩
      exact grown_two HF5.out HFr.out F6.out hgl (by omega) (Nat.le_refl _)
end Go.Proofs.YtecamaceainfpaaDoor
