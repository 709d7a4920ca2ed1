/-
  Walks: hibernacleref35.texts, Images.
-/
import Derived.Test.YtecamaceainfpaaDoorSame
import Derived.BigQuiet
import Derived.Deep.QuietTactic
namespace Go.Proofs.YtecamaceainfpaaDoor
open Go.RowKit

set_option maxRecDepth 100000 in
set_option maxHeartbeats 1000000 in
theorem texts35_any (w : World) (A B : Option Addr) (c d : Nat) (a b : List (List UInt8)) (hA : Strs w w.heap.size A a) (hB : Strs w w.heap.size B b) (ha : a.length ≤ 1099511627776) (hb : b.length ≤ 1099511627776) :
    Calls Tryd.prog 43 #[.slice A a.length c, .slice B b.length d] w fun e w' => e = .returned (.bool (decide (a = b))) ∧ Below w.heap.size w w' := by
  have HA := Lib.hid hA
  have HB := Lib.hid hB
  clear hA hB
  by_cases hl : a.length = b.length
  · have n1 : ((a.length : Int) != (b.length : Int)) = false := by simp [hl]
    have n2 : (a.length != b.length) = false := by simp [hl]
    have HL := Lib.hid hl
    clear hl
    go_enter Tryd.func43, Tryd.ntmps43
    go_wp2_with fail
    clear n1 n2
    go_loopw [5] (fun i wr => ∃ k : Nat, k ≤ a.length ∧ i = .int .i64 k ∧ Hid (a.take k = b.take k) ∧ Hid (Below w.heap.size w wr)) (fun i _ => a.length - (intOf i).toNat)
    case atStart => exact ⟨0, by omega, rfl, Lib.hid rfl, Lib.hid (Below.refl _ _)⟩
    case round =>
      obtain ⟨k, hk, rfl, HE, HW⟩ := hrel
      by_cases hlt : k < a.length
      · have hltb : k < b.length := by rw [← HL.out]; exact hlt
        obtain ⟨ad, rfl, had, a0⟩ := HA.out.at' hlt
        obtain ⟨bd, rfl, hbd, b0⟩ := HB.out.at' hltb
        have a0' : wr.cell? (ad.add k) = _ := (HW.out.cell (by rw [add_block]; exact had)).trans a0
        have b0' : wr.cell? (bd.add k) = _ := (HW.out.cell (by rw [add_block]; exact hbd)).trans b0
        clear a0 b0
        have TA : Hid (a.take (k + 1) = a.take k ++ [a.getD k []]) := Lib.hid (by rw [List.take_succ_eq_append_getElem hlt]; simp [List.getD, hlt])
        have TB : Hid (b.take (k + 1) = b.take k ++ [b.getD k []]) := Lib.hid (by rw [List.take_succ_eq_append_getElem hltb]; simp [List.getD, hltb])
        have HN : Hid (a.getD k [] ≠ b.getD k [] → decide (a = b) = false) := Lib.hid (fun hne => by simp; rintro rfl; exact hne rfl)
        generalize a.getD k [] = x at *
        generalize b.getD k [] = y at *
        have i0 : (0 : Int) ≤ (k : Int) := by omega
        have i1 : (k : Int) < (a.length : Int) := by omega
        have i2 : (k : Int) < (b.length : Int) := by omega
        by_cases h2 : x = y
        · subst h2
          clear HN
          go_wp2_with fail
          go_quiet (fail)
          go_wp2_with fail
          go_roundw
          case rel =>
            have R : ∀ M : Nat, ∃ k' : Nat, k' ≤ a.length ∧ Value.int .i64 ((k : Int) + 1) = .int .i64 k' ∧ Hid (a.take k' = b.take k') ∧ Hid (Below w.heap.size w (wr.drewN M)) := fun M => ⟨k + 1, by omega, by go_num, Lib.hid (by rw [TA.out, TB.out, HE.out]), Lib.hid (Below.draws HW.out _)⟩
            first | exact R _ | ((repeat apply Exists.intro); exact ⟨R _, rfl⟩)
          case measure => simp [intOf]; omega
        · have hbe : (x == y) = false := beq_eq_false_iff_ne.2 h2
          have hbn : (x != y) = true := by simp [bne, hbe]
          have HNN := Lib.hid (HN.out h2)
          clear HN
          go_wp2_with fail
          go_quiet (fail)
          go_wp2_with fail
          go_ret
          exact ⟨by rw [HNN.out]; rfl, Below.draws HW.out _⟩
      · obtain rfl : k = a.length := by omega
        have hd : decide (a.length < a.length) = false := by simp
        have HQ : Hid (decide (a = b) = true) := Lib.hid (decide_eq_true (take_eq_of HL.out HE.out))
        go_wp2_with fail
        go_ret
        exact ⟨by rw [HQ.out]; rfl, HW.out⟩
  · have n1 : ((a.length : Int) != (b.length : Int)) = true := by simp; omega
    have n2 : (a.length != b.length) = true := by simp [hl]
    have HQ : Hid (decide (a = b) = false) := Lib.hid (by simp; rintro rfl; exact hl rfl)
    clear hl
    go_enter Tryd.func43, Tryd.ntmps43
    go_wp2_with fail
    go_ret
    exact ⟨by rw [HQ.out]; rfl, Below.refl _ _⟩

/-- the same images? -/
def imgEq (fa ba : List (List UInt8)) (ra : List UInt8) (fb bb : List (List UInt8)) (rb : List UInt8) : Bool := decide (ra = rb ∧ fa = fb ∧ ba = bb)
set_option maxRecDepth 100000 in
set_option maxHeartbeats 1000000 in
theorem images_any (w : World) (A A' B B' : Option Addr) (c c' d d' : Nat) (fa ba fb bb : List (List UInt8)) (ra rb : List UInt8) (hA : Strs w w.heap.size A fa) (hA' : Strs w w.heap.size A' ba) (hB : Strs w w.heap.size B fb) (hB' : Strs w w.heap.size B' bb)
    (la : fa.length ≤ 1099511627776) (la' : ba.length ≤ 1099511627776) (lb : fb.length ≤ 1099511627776) (lb' : bb.length ≤ 1099511627776) :
    Calls Tryd.prog 17 #[.agg #[.slice A fa.length c, .slice A' ba.length c', S ra], .agg #[.slice B fb.length d, .slice B' bb.length d', S rb]] w fun e w' => e = .returned (.bool (imgEq fa ba ra fb bb rb)) ∧ Below w.heap.size w w' := by
  have HA := Lib.hid hA
  have HA' := Lib.hid hA'
  have HB := Lib.hid hB
  have HB' := Lib.hid hB'
  clear hA hA' hB hB'
  have hX := (Whole.made w 24 #[.slice A fa.length c, .slice A' ba.length c', S ra]).block (.cells #[.slice B fb.length d, .slice B' bb.length d', S rb] 24)
  have hY := Whole.made (w.alloc (.cells #[.slice A fa.length c, .slice A' ba.length c', S ra] 24)) 24 #[.slice B fb.length d, .slice B' bb.length d', S rb]
  have hW : Below w.heap.size w ((w.alloc (.cells #[.slice A fa.length c, .slice A' ba.length c', S ra] 24)).alloc (.cells #[.slice B fb.length d, .slice B' bb.length d', S rb] 24)) := ((Below.refl _ _).alloc (Nat.le_refl _) _).alloc (by simp) _
  rw [show (w.alloc (.cells #[.slice A fa.length c, .slice A' ba.length c', S ra] 24)).heap.size = w.heap.size + 1 by simp] at hY
  go_enter Tryd.func17, Tryd.ntmps17
  go_upto_region 1 with (fail)
  have hlw : w.heap.size + 1 < ((w.alloc (.cells #[.slice A fa.length c, .slice A' ba.length c', S ra] 24)).alloc (.cells #[.slice B fb.length d, .slice B' bb.length d', S rb] 24)).heap.size := hY.lt
  have x0 : _ = some (Value.slice A fa.length c) := hX.cell 0
  have x1 : _ = some (Value.slice A' ba.length c') := hX.cell 1
  have x2 : _ = some (S ra) := hX.cell 2
  have y0 : _ = some (Value.slice B fb.length d) := hY.cell 0
  have y1 : _ = some (Value.slice B' bb.length d') := hY.cell 1
  have y2 : _ = some (S rb) := hY.cell 2
  clear hX hY
  generalize ((w.alloc (.cells #[.slice A fa.length c, .slice A' ba.length c', S ra] 24)).alloc (.cells #[.slice B fb.length d, .slice B' bb.length d', S rb] 24)) = w1 at *
  have HWB := Lib.hid hW
  have X1 := Lib.hid x1
  have Y1 := Lib.hid y1
  clear hW
  by_cases hr : ra = rb
  · have e1 : (ra == rb) = true := beq_iff_eq.2 hr
    have HR := Lib.hid hr
    clear hr
    go_wp2_with fail
    refine (texts35_any w1 A B c d fa fb ((HA.out.below HWB.out).wide HWB.out.size) ((HB.out.below HWB.out).wide HWB.out.size) la lb).mono ?_
    rintro e w2 ⟨rfl, hb2⟩
    have x1' : w2.cell? ⟨w.heap.size, 1, none⟩ = _ := (hb2.cell (by show w.heap.size < _; omega)).trans X1.out
    have y1' : w2.cell? ⟨w.heap.size + 1, 1, none⟩ = _ := (hb2.cell (by show w.heap.size + 1 < _; omega)).trans Y1.out
    have HWB2 : Hid (Below w.heap.size w w2) := Lib.hid (HWB.out.trans (hb2.mono (by omega)))
    clear hb2 x0 x1 x2 y0 y1 y2 e1
    by_cases hf : fa = fb
    · have HF := Lib.hid hf
      rw [show decide (fa = fb) = true from decide_eq_true hf]
      clear hf
      go_wp2_with fail
      refine (texts35_any w2 A' B' c' d' ba bb ((HA'.out.below HWB2.out).wide HWB2.out.size) ((HB'.out.below HWB2.out).wide HWB2.out.size) la' lb').mono ?_
      rintro e w3 ⟨rfl, hb3⟩
      have HWB3 : Hid (Below w.heap.size w w3) := Lib.hid (HWB2.out.trans (hb3.mono HWB2.out.size))
      have HQ : Hid (decide (ba = bb) = imgEq fa ba ra fb bb rb) := Lib.hid (by simp [imgEq, HR.out, HF.out])
      obtain ⟨q, HQQ⟩ : ∃ z, Hid (imgEq fa ba ra fb bb rb = z) := ⟨_, Lib.hid rfl⟩
      rw [HQ.out, HQQ.out]
      clear hb3 x1' y1' HQ
      go_wp2_with fail
      go_ret
      exact ⟨by rw [HQQ.out]; rfl, HWB3.out⟩
    · have HQ : Hid (imgEq fa ba ra fb bb rb = false) := Lib.hid (by simp [imgEq, hf])
      rw [show decide (fa = fb) = false from decide_eq_false hf]
      clear hf
      go_wp2_with fail
      go_ret
      exact ⟨by rw [HQ.out]; rfl, HWB2.out⟩
  · have e1 : (ra == rb) = false := beq_eq_false_iff_ne.2 hr
    have HQ : Hid (imgEq fa ba ra fb bb rb = false) := Lib.hid (by simp [imgEq, hr])
    clear hr
    go_wp2_with fail
    go_ret
    exact ⟨by rw [HQ.out]; rfl, HWB.out⟩
end Go.Proofs.YtecamaceainfpaaDoor
