/-
  Walks: hibernacleref35.sameWrites, Same.
-/
import Derived.Test.YtecamaceainfpaaDoorOthers
import Derived.Test.YtecamaceainfpaaDoorBuild
import Derived.Test.YtecamaceainfpaaDoorEq
import Derived.Test.YtecamaceainfpaaDoorFixed
import Derived.BigQuiet
import Derived.Deep.QuietTactic
namespace Go.Proofs.YtecamaceainfpaaDoor
open Go.RowKit

/-- a slice of writes -/
abbrev Wrs (w : World) (B : Nat) (A : Option Addr) (ws : List (Int × List UInt8)) : Prop := Lies w B A (wCells ws)
theorem wCells_at (ws : List (Int × List UInt8)) {k : Nat} (hk : k < ws.length) : (wCells ws)[k * 2]? = some (.int .i64 (ws.getD k (0, [])).1) ∧ (wCells ws)[k * 2 + 1]? = some (S (ws.getD k (0, [])).2) := by
  have e : ws = ws.take k ++ (ws[k] :: ws.drop (k + 1)) := by rw [List.getElem_cons_drop, List.take_append_drop]
  have hg : ws.getD k (0, []) = ws[k] := by simp [List.getD, hk]
  have hl : (wCells (ws.take k)).length = k * 2 := by rw [wCells_length, List.length_take]; omega
  rw [hg]
  constructor
  · conv => lhs; rw [e]
    rw [wCells_append, List.getElem?_append_right (by omega), hl, Nat.sub_self]; rfl
  · conv => lhs; rw [e]
    rw [wCells_append, List.getElem?_append_right (by omega), hl, show k * 2 + 1 - k * 2 = 1 by omega]; rfl
theorem Wrs.at' {w : World} {B k : Nat} {A : Option Addr} {ws : List (Int × List UInt8)} (h : Wrs w B A ws) (hk : k < ws.length) :
    ∃ ad, A = some ad ∧ ad.block < B ∧ w.cell? (ad.add (k * 2)) = some (.int .i64 (ws.getD k (0, [])).1) ∧ w.cell? ⟨(ad.add (k * 2)).block, (ad.add (k * 2)).off + 1, none⟩ = some (S (ws.getD k (0, [])).2) := by
  obtain ⟨h0, h1⟩ := wCells_at ws hk
  obtain ⟨ad, rfl, hb, c0⟩ := h _ _ h0
  obtain ⟨ad', e', _, c1⟩ := h _ _ h1
  obtain rfl : ad = ad' := by injection e'
  refine ⟨ad, rfl, hb, c0, ?_⟩
  rw [show (⟨(ad.add (k * 2)).block, (ad.add (k * 2)).off + 1, none⟩ : Addr) = ad.add (k * 2 + 1) by unfold Addr.add; by_cases h : k * 2 = 0 <;> simp [h, Nat.add_assoc]]
  exact c1
theorem add_block (a : Addr) (n : Nat) : (a.add n).block = a.block := by unfold Addr.add; split <;> rfl
theorem take_eq_of {α : Type} {a b : List α} (h : a.length = b.length) (he : a.take a.length = b.take a.length) : a = b := by
  rw [List.take_of_length_le (Nat.le_refl _), List.take_of_length_le (by omega)] at he; exact he

set_option maxRecDepth 100000 in
set_option maxHeartbeats 1000000 in
theorem sameWrites_any (w : World) (A B : Option Addr) (c d : Nat) (a b : List (Int × List UInt8)) (hA : Wrs w w.heap.size A a) (hB : Wrs w w.heap.size B b) (ha : a.length ≤ 1099511627776) (hb : b.length ≤ 1099511627776) :
    Calls Tryd.prog 39 #[.slice A a.length c, .slice B b.length d] w fun e w' => e = .returned (.bool (decide (a = b))) ∧ Below w.heap.size w w' := by
  have HA := Lib.hid hA
  have HB := Lib.hid hB
  clear hA hB
  by_cases hl : a.length = b.length
  · have n1 : ((a.length : Int) != (b.length : Int)) = false := by simp [hl]
    have n2 : (a.length != b.length) = false := by simp [hl]
    have HL := Lib.hid hl
    clear hl
    go_enter Tryd.func39, Tryd.ntmps39
    go_wp2_with fail
    clear n1 n2
    go_loopw [5] (fun i wr => ∃ k : Nat, k ≤ a.length ∧ i = .int .i64 k ∧ Hid (a.take k = b.take k) ∧ Hid (Below w.heap.size w wr)) (fun i _ => a.length - (intOf i).toNat)
    case atStart => exact ⟨0, by omega, rfl, Lib.hid rfl, Lib.hid (Below.refl _ _)⟩
    case round =>
      obtain ⟨k, hk, rfl, HE, HW⟩ := hrel
      by_cases hlt : k < a.length
      · have hltb : k < b.length := by rw [← HL.out]; exact hlt
        obtain ⟨ad, rfl, had, a0, a1⟩ := HA.out.at' hlt
        obtain ⟨bd, rfl, hbd, b0, b1⟩ := HB.out.at' hltb
        have a0' : wr.cell? (ad.add (k * 2)) = _ := (HW.out.cell (by rw [add_block]; exact had)).trans a0
        have a1' : wr.cell? ⟨(ad.add (k * 2)).block, (ad.add (k * 2)).off + 1, none⟩ = _ := (HW.out.cell (by show (ad.add (k * 2)).block < _; rw [add_block]; exact had)).trans a1
        have b0' : wr.cell? (bd.add (k * 2)) = _ := (HW.out.cell (by rw [add_block]; exact hbd)).trans b0
        have b1' : wr.cell? ⟨(bd.add (k * 2)).block, (bd.add (k * 2)).off + 1, none⟩ = _ := (HW.out.cell (by show (bd.add (k * 2)).block < _; rw [add_block]; exact hbd)).trans b1
        clear a0 a1 b0 b1
        have TA : Hid (a.take (k + 1) = a.take k ++ [a.getD k (0, [])]) := Lib.hid (by rw [List.take_succ_eq_append_getElem hlt]; simp [List.getD, hlt])
        have TB : Hid (b.take (k + 1) = b.take k ++ [b.getD k (0, [])]) := Lib.hid (by rw [List.take_succ_eq_append_getElem hltb]; simp [List.getD, hltb])
        have HN : Hid (a.getD k (0, []) ≠ b.getD k (0, []) → decide (a = b) = false) := Lib.hid (fun hne => by simp; rintro rfl; exact hne rfl)
        generalize a.getD k (0, []) = x at *
        generalize b.getD k (0, []) = y at *
        obtain ⟨x1, x2⟩ := x
        obtain ⟨y1, y2⟩ := y
        have i0 : (0 : Int) ≤ (k : Int) := by omega
        have i1 : (k : Int) < (a.length : Int) := by omega
        have i2 : (k : Int) < (b.length : Int) := by omega
        by_cases h1 : x1 = y1
        · subst h1
          by_cases h2 : x2 = y2
          · subst h2
            clear HN
            go_wp2_with fail
            go_quiet (fail)
            go_wp2_with fail
            go_roundw
            case rel =>
              have R : ∀ M : Nat, ∃ k' : Nat, k' ≤ a.length ∧ Value.int .i64 ((k : Int) + 1) = .int .i64 k' ∧ Hid (a.take k' = b.take k') ∧ Hid (Below w.heap.size w (wr.drewN M)) := fun M => ⟨k + 1, by omega, by go_num, Lib.hid (by rw [TA.out, TB.out, HE.out]), Lib.hid (Below.draws HW.out _)⟩
              first | exact R _ | ((repeat apply Exists.intro); exact ⟨R _, rfl⟩)
            case measure => simp [intOf]; omega
          · have hbe : (x2 == y2) = false := beq_eq_false_iff_ne.2 h2
            have HNN := Lib.hid (HN.out (fun e => h2 (by injection e)))
            clear HN
            go_wp2_with fail
            go_quiet (fail)
            go_wp2_with fail
            go_ret
            exact ⟨by rw [HNN.out]; rfl, Below.draws HW.out _⟩
        · have hbe : (x1 == y1) = false := beq_eq_false_iff_ne.2 h1
          have HNN := Lib.hid (HN.out (fun e => h1 (by injection e)))
          clear HN
          go_wp2_with fail
          go_quiet (fail)
          go_wp2_with fail
          go_ret
          exact ⟨by rw [HNN.out]; rfl, Below.draws HW.out _⟩
      · obtain rfl : k = a.length := by omega
        have hd : decide (a.length < a.length) = false := by simp
        have HQ : Hid (decide (a = b) = true) := Lib.hid (decide_eq_true (take_eq_of HL.out HE.out))
        go_wp2_with fail
        go_ret
        exact ⟨by rw [HQ.out]; rfl, HW.out⟩
  · have n1 : ((a.length : Int) != (b.length : Int)) = true := by simp; omega
    have n2 : (a.length != b.length) = true := by simp [hl]
    have HQ : Hid (decide (a = b) = false) := Lib.hid (by simp; rintro rfl; exact hl rfl)
    clear hl
    go_enter Tryd.func39, Tryd.ntmps39
    go_wp2_with fail
    go_ret
    exact ⟨by rw [HQ.out]; rfl, Below.refl _ _⟩

/-- cells of a part of a block that is known whole -/
theorem mid_cells {w : World} {g : Nat} {t : TypeId} {xs : List Value} (h : Whole w g t xs.toArray) (o : Nat) (cs : List Value) (hc : ∀ j v, cs[j]? = some v → xs[o + j]? = some v) : ∀ j v, cs[j]? = some v → w.cell? ((⟨g, o, none⟩ : Addr).add j) = some v := fun j v hv => by
  rw [show (⟨g, o, none⟩ : Addr).add j = ⟨g, o + j, none⟩ by unfold Addr.add; split <;> simp_all]
  rw [h.cell, List.getElem?_toArray]; exact hc j v hv
theorem dCells_from {f : List UInt8} (v1 v2 : Value) (r t : List UInt8) : ∀ j v, (f.map B8)[j]? = some v → (dCells f v1 v2 r t)[0 + j]? = some v := fun j v h => by
  rw [Nat.zero_add]; unfold dCells
  rw [List.getElem?_append_left (List.getElem?_eq_some_iff.1 h).1]; exact h
theorem dCells_to {f : List UInt8} (hf : f.length = 32) (v1 v2 : Value) (r t : List UInt8) : ∀ j v, (t.map B8)[j]? = some v → (dCells f v1 v2 r t)[35 + j]? = some v := fun j v h => by
  unfold dCells
  rw [List.getElem?_append_right (by simp [hf]; omega), List.length_map, hf, show 35 + j - 32 = j + 3 by omega]
  exact h
set_option maxRecDepth 100000 in
set_option maxHeartbeats 2000000 in
theorem same_true (w : World) (A B A' B' : Option Addr) (c d c' d' : Nat) (a b : List (Int × List UInt8)) (f t r : List UInt8) (hA : Wrs w w.heap.size A a) (hB : Wrs w w.heap.size B b) (hA' : Wrs w w.heap.size A' a) (hB' : Wrs w w.heap.size B' b)
    (ha : a.length ≤ 1099511627776) (hb : b.length ≤ 1099511627776) (hf : f.length = 32) (ht : t.length = 32) :
    Calls Tryd.prog 14 #[.agg (dCells f (.slice A a.length c) (.slice B b.length d) r t).toArray, .agg (dCells f (.slice A' a.length c') (.slice B' b.length d') r t).toArray] w fun e w' => e = .returned (.bool true) ∧ Below w.heap.size w w' := by
  have HA := Lib.hid hA
  have HB := Lib.hid hB
  have HA' := Lib.hid hA'
  have HB' := Lib.hid hB'
  clear hA hB hA' hB'
  have hX := (Whole.made w 32 (dCells f (.slice A a.length c) (.slice B b.length d) r t).toArray).block (.cells (dCells f (.slice A' a.length c') (.slice B' b.length d') r t).toArray 32)
  have hY := Whole.made (w.alloc (.cells (dCells f (.slice A a.length c) (.slice B b.length d) r t).toArray 32)) 32 (dCells f (.slice A' a.length c') (.slice B' b.length d') r t).toArray
  have hW : Below w.heap.size w ((w.alloc (.cells (dCells f (.slice A a.length c) (.slice B b.length d) r t).toArray 32)).alloc (.cells (dCells f (.slice A' a.length c') (.slice B' b.length d') r t).toArray 32)) := ((Below.refl _ _).alloc (Nat.le_refl _) _).alloc (by simp) _
  rw [show (w.alloc (.cells (dCells f (.slice A a.length c) (.slice B b.length d) r t).toArray 32)).heap.size = w.heap.size + 1 by simp] at hY
  have hl1 : (dCells f (.slice A a.length c) (.slice B b.length d) r t).toArray.size = 67 := by rw [List.size_toArray]; exact dCells_length hf ht _ _ _
  have hl2 : (dCells f (.slice A' a.length c') (.slice B' b.length d') r t).toArray.size = 67 := by rw [List.size_toArray]; exact dCells_length hf ht _ _ _
  have FX := Lib.hid (mid_cells hX 0 (f.map B8) (dCells_from _ _ _ _))
  have TX := Lib.hid (mid_cells hX 35 (t.map B8) (dCells_to hf _ _ _ _))
  have FY := Lib.hid (mid_cells hY 0 (f.map B8) (dCells_from _ _ _ _))
  have TY := Lib.hid (mid_cells hY 35 (t.map B8) (dCells_to hf _ _ _ _))
  have x1 : _ = some (Value.slice A a.length c) := (hX.cell 32).trans (by rw [List.getElem?_toArray]; exact dCells_32 hf _ _ _ _)
  have x2 : _ = some (Value.slice B b.length d) := (hX.cell 33).trans (by rw [List.getElem?_toArray]; exact dCells_33 hf _ _ _ _)
  have x3 : _ = some (S r) := (hX.cell 34).trans (by rw [List.getElem?_toArray]; exact dCells_34 hf _ _ _ _)
  have y1 : _ = some (Value.slice A' a.length c') := (hY.cell 32).trans (by rw [List.getElem?_toArray]; exact dCells_32 hf _ _ _ _)
  have y2 : _ = some (Value.slice B' b.length d') := (hY.cell 33).trans (by rw [List.getElem?_toArray]; exact dCells_33 hf _ _ _ _)
  have y3 : _ = some (S r) := (hY.cell 34).trans (by rw [List.getElem?_toArray]; exact dCells_34 hf _ _ _ _)
  have HIf : Hid ((Tryd.prog.info? 29).map (·.size) = some (f.map B8).length) := Lib.hid (by rw [List.length_map, hf]; kernel_rfl)
  have HIt : Hid ((Tryd.prog.info? 29).map (·.size) = some (t.map B8).length) := Lib.hid (by rw [List.length_map, ht]; kernel_rfl)
  have ef : ∀ W : World, (Op.equalIn 10000 29 (D32 f) (D32 f)).run Tryd.prog W = .ok true W := fun W => by rw [eqIn_D32 f f hf hf]; simp
  have et : ∀ W : World, (Op.equalIn 10000 29 (D32 t) (D32 t)).run Tryd.prog W = .ok true W := fun W => by rw [eqIn_D32 t t ht ht]; simp
  go_enter Tryd.func14, Tryd.ntmps14
  go_upto_region 1 with (fail)
  have hlw : w.heap.size + 1 < ((w.alloc (.cells (dCells f (.slice A a.length c) (.slice B b.length d) r t).toArray 32)).alloc (.cells (dCells f (.slice A' a.length c') (.slice B' b.length d') r t).toArray 32)).heap.size := hY.lt
  clear hX hY hl1 hl2
  generalize ((w.alloc (.cells (dCells f (.slice A a.length c) (.slice B b.length d) r t).toArray 32)).alloc (.cells (dCells f (.slice A' a.length c') (.slice B' b.length d') r t).toArray 32)) = w1 at *
  have HWB := Lib.hid hW
  have X1 := Lib.hid x1
  have X2 := Lib.hid x2
  have Y1 := Lib.hid y1
  have Y2 := Lib.hid y2
  clear hW hf ht
  generalize dCells f (.slice A a.length c) (.slice B b.length d) r t = zx at *
  generalize dCells f (.slice A' a.length c') (.slice B' b.length d') r t = zy at *
  go_wp2_with (first
    | (refine wpList_load_at rfl 29 (.tmp 5) rfl ⟨w.heap.size, 0, none⟩ rfl (f.map B8) _ FX.out Tryd.underlying29 rfl HIf.out ?_)
    | (refine wpList_load_at rfl 29 (.tmp 7) rfl ⟨w.heap.size + 1, 0, none⟩ rfl (f.map B8) _ FY.out Tryd.underlying29 rfl HIf.out ?_)
    | (refine wpList_load_g rfl 29 (.tmp 11) rfl ⟨w.heap.size, 35, none⟩ rfl (t.map B8) _ TX.out Tryd.underlying29 rfl HIt.out ?_)
    | (refine wpList_load_g rfl 29 (.tmp 13) rfl ⟨w.heap.size + 1, 35, none⟩ rfl (t.map B8) _ TY.out Tryd.underlying29 rfl HIt.out ?_))
  refine (sameWrites_any w1 A A' c c' a a ((HA.out.below HWB.out).wide HWB.out.size) ((HA'.out.below HWB.out).wide HWB.out.size) ha ha).mono ?_
  rintro e w2 ⟨rfl, hb2⟩
  rw [show decide (a = a) = true from by simp]
  have x2' : w2.cell? ⟨w.heap.size, 33, none⟩ = some (Value.slice B b.length d) := (hb2.cell (by show w.heap.size < _; omega)).trans X2.out
  have y2' : w2.cell? ⟨w.heap.size + 1, 33, none⟩ = some (Value.slice B' b.length d') := (hb2.cell (by show w.heap.size + 1 < _; omega)).trans Y2.out
  have HWB2 : Hid (Below w.heap.size w w2) := Lib.hid (HWB.out.trans (hb2.mono (by omega)))
  clear hb2 x1 x2 x3 y1 y2 y3
  go_wp2_with fail
  refine (sameWrites_any w2 B B' d d' b b ((HB.out.below HWB2.out).wide HWB2.out.size) ((HB'.out.below HWB2.out).wide HWB2.out.size) hb hb).mono ?_
  rintro e w3 ⟨rfl, hb3⟩
  rw [show decide (b = b) = true from by simp]
  have HWB3 : Hid (Below w.heap.size w w3) := Lib.hid (HWB2.out.trans (hb3.mono HWB2.out.size))
  clear hb3
  go_wp2_with fail
  go_ret
  exact ⟨rfl, HWB3.out⟩
end Go.Proofs.YtecamaceainfpaaDoor
