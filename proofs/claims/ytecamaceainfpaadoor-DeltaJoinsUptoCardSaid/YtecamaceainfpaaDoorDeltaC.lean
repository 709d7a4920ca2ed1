/-
  Plain: a row of texts, and an image's bytes, tell what they are of; what became of an image, done on it, is the other one. No program in sight.
-/
import Derived.Test.YtecamaceainfpaaDoorRowsA
import Derived.Test.YtecamaceainfpaaDoorDeltaB
import Derived.BigQuiet
import Derived.Deep.QuietTactic
import Derived.Deep.AppendLies
namespace Go.Proofs.YtecamaceainfpaaDoor
open Go.RowKit

theorem lenB_ne (n : Nat) : lenB n ≠ [] := by
  by_cases h : n < 128
  · rw [lenB_small h]; simp
  · rw [lenB_big h]; simp
theorem ofNat8_inj {n m : Nat} (hn : n < 256) (hm : m < 256) (h : UInt8.ofNat n = UInt8.ofNat m) : n = m := by
  have := congrArg UInt8.toNat h
  rw [UInt8.toNat_ofNat', UInt8.toNat_ofNat'] at this
  omega
theorem lenB_inj (n : Nat) : ∀ (m : Nat) (x y : List UInt8), lenB n ++ x = lenB m ++ y → n = m ∧ x = y := by
  induction n using Nat.strongRecOn with
  | ind n ih =>
    intro m x y h
    by_cases hn : n < 128
    · by_cases hm : m < 128
      · rw [lenB_small hn, lenB_small hm] at h
        injection h with h1 h2
        exact ⟨ofNat8_inj (by omega) (by omega) h1, h2⟩
      · rw [lenB_small hn, lenB_big hm] at h
        injection h with h1 h2
        have := ofNat8_inj (by omega) (by omega) h1
        omega
    · by_cases hm : m < 128
      · rw [lenB_big hn, lenB_small hm] at h
        injection h with h1 h2
        have := ofNat8_inj (by omega) (by omega) h1
        omega
      · rw [lenB_big hn, lenB_big hm] at h
        injection h with h1 h2
        have h3 := ofNat8_inj (by omega) (by omega) h1
        obtain ⟨h4, h5⟩ := ih (n / 128) (by omega) (m / 128) x y h2
        exact ⟨by omega, h5⟩
theorem rowB_inj : ∀ (a b : List (List UInt8)), rowB a = rowB b → a = b
  | [], [], _ => rfl
  | [], l :: ls, h => by
    rw [rowB_cons, rowB_nil, List.append_assoc] at h
    exact absurd (List.append_eq_nil_iff.1 h.symm).1 (lenB_ne _)
  | l :: ls, [], h => by
    rw [rowB_cons, rowB_nil, List.append_assoc] at h
    exact absurd (List.append_eq_nil_iff.1 h).1 (lenB_ne _)
  | l :: ls, m :: ms, h => by
    rw [rowB_cons, rowB_cons, List.append_assoc, List.append_assoc] at h
    obtain ⟨h1, h2⟩ := lenB_inj _ _ _ _ h
    obtain ⟨h3, h4⟩ := List.append_inj h2 h1
    rw [h3, rowB_inj ls ms h4]
theorem imgB_inj {fa ba fb bb : List (List UInt8)} {ra rb : List UInt8} (h : imgB fa ba ra = imgB fb bb rb) : fa = fb ∧ ba = bb ∧ ra = rb := by
  have := rowB_inj _ _ h
  simp only [List.cons.injEq, and_true, true_and] at this
  exact ⟨rowB_inj _ _ this.1, rowB_inj _ _ this.2.1, this.2.2⟩

/-- one write, done -/
def step1 (a : List (List UInt8)) (p : Int × List UInt8) : Option (List (List UInt8)) :=
  if p.1 < 0 ∨ (a.length : Int) < p.1 then none else some (if p.1 = (a.length : Int) then a ++ [p.2] else a.set p.1.toNat p.2)
/-- writes, done one behind the other -/
def doneL (a : List (List UInt8)) (l : List (Int × List UInt8)) : Option (List (List UInt8)) := l.foldlM step1 a
theorem doneL_nil (a : List (List UInt8)) : doneL a [] = some a := rfl
theorem doneL_snoc (a : List (List UInt8)) (l : List (Int × List UInt8)) (p : Int × List UInt8) : doneL a (l ++ [p]) = (doneL a l).bind fun x => step1 x p := by
  unfold doneL
  rw [List.foldlM_append]
  cases List.foldlM step1 a l with
  | none => rfl
  | some x => simp [List.foldlM_cons]
theorem doneL_none (a : List (List UInt8)) (l r : List (Int × List UInt8)) (h : doneL a l = none) : doneL a (l ++ r) = none := by
  unfold doneL at *
  rw [List.foldlM_append, h]; rfl
theorem doneL_take_none {a : List (List UInt8)} {l : List (Int × List UInt8)} {k : Nat} (h : doneL a (l.take k) = none) : doneL a l = none := by
  rw [← List.take_append_drop k l]; exact doneL_none a _ _ h
theorem step1_out {a : List (List UInt8)} {p : Int × List UInt8} (h : p.1 < 0 ∨ (a.length : Int) < p.1) : step1 a p = none := if_pos h
theorem step1_end {a : List (List UInt8)} {p : Int × List UInt8} (h : p.1 = (a.length : Int)) : step1 a p = some (a ++ [p.2]) := by
  unfold step1; rw [if_neg (by omega), if_pos h]
theorem step1_in {a : List (List UInt8)} {p : Int × List UInt8} {j : Nat} (h : p.1 = (j : Int)) (hj : j < a.length) : step1 a p = some (a.set j p.2) := by
  unfold step1; rw [if_neg (by omega), if_neg (by omega), h]; simp

/-- how many bytes, about, writes have -/
def wSize (ws : List (Int × List UInt8)) : Nat := (ws.map fun p => 8 + p.2.length).sum
theorem wSize_append (a b : List (Int × List UInt8)) : wSize (a ++ b) = wSize a + wSize b := by simp [wSize]
theorem sizeOf_append (a b : List (List UInt8)) : sizeOf (a ++ b) = sizeOf a + sizeOf b := by simp [sizeOf]
theorem sizeOf_set_le : ∀ (a : List (List UInt8)) (j : Nat) (x : List UInt8), sizeOf (a.set j x) ≤ sizeOf a + (4 + x.length)
  | [], _, _ => by simp [sizeOf]
  | y :: a, 0, x => by simp [sizeOf]; omega
  | y :: a, j + 1, x => by
    have := sizeOf_set_le a j x
    simp only [sizeOf, List.set_cons_succ, List.map_cons, List.sum_cons] at *
    omega
theorem step1_size {a b : List (List UInt8)} {p : Int × List UInt8} (h : step1 a p = some b) : sizeOf b ≤ sizeOf a + (8 + p.2.length) := by
  unfold step1 at h
  split at h
  · cases h
  · injection h with h
    subst h
    split
    · rw [sizeOf_append]; simp [sizeOf]
    · have := sizeOf_set_le a p.1.toNat p.2; omega
theorem doneL_size : ∀ (l : List (Int × List UInt8)) (a b : List (List UInt8)), doneL a l = some b → sizeOf b ≤ sizeOf a + wSize l
  | [], a, b, h => by
    injection h with h
    subst h; simp [wSize]
  | p :: l, a, b, h => by
    unfold doneL at h
    rw [List.foldlM_cons] at h
    cases hs : step1 a p with
    | none => rw [hs] at h; cases h
    | some x =>
      rw [hs] at h
      have h1 := doneL_size l x b h
      have h2 := step1_size hs
      simp only [wSize, List.map_cons, List.sum_cons] at *
      omega
theorem wSize_len (l : List (Int × List UInt8)) : 8 * l.length ≤ wSize l := by
  induction l with
  | nil => simp [wSize]
  | cons p l ih => simp only [wSize, List.map_cons, List.sum_cons, List.length_cons] at *; omega

theorem sub_done {a b : List (List UInt8)} (h : a.length ≤ b.length) : ∀ k, k ≤ b.length → doneL a (othersTo a b k) = some (b.take k ++ a.drop k)
  | 0, _ => by simp [othersTo, doneL_nil]
  | k + 1, hk => by
    have ih := sub_done h k (by omega)
    have hb : b.take (k + 1) = b.take k ++ [b.getD k []] := by rw [List.take_succ_eq_append_getElem (by omega)]; simp [List.getD, show k < b.length by omega]
    by_cases hs : k < a.length ∧ a.getD k [] = b.getD k []
    · rw [othersTo_same hs.1 hs.2, ih, hb, List.append_assoc, List.drop_eq_getElem_cons hs.1]
      have : a[k] = b.getD k [] := by rw [← hs.2]; simp [List.getD, hs.1]
      rw [this]; rfl
    · rw [othersTo_new hs, doneL_snoc, ih, Option.bind_some]
      have hl : (b.take k).length = k := by rw [List.length_take]; omega
      by_cases ha : k < a.length
      · rw [step1_in (j := k) rfl (by rw [List.length_append, hl, List.length_drop]; omega), hb, List.set_append, if_neg (by omega), hl, Nat.sub_self, List.drop_eq_getElem_cons ha, List.set_cons_zero, List.append_assoc]
        rfl
      · rw [List.drop_eq_nil_of_le (by omega), List.append_nil, step1_end (by rw [hl]), hb, List.drop_eq_nil_of_le (by omega), List.append_nil]
theorem others_done {a b : List (List UInt8)} (h : a.length ≤ b.length) : doneL a (othersTo a b b.length) = some b := by
  rw [sub_done h b.length (Nat.le_refl _), List.take_of_length_le (Nat.le_refl _), List.drop_eq_nil_of_le h, List.append_nil]
theorem wSize_others (a b : List (List UInt8)) : ∀ k, k ≤ b.length → wSize (othersTo a b k) ≤ 2 * sizeOf (b.take k)
  | 0, _ => by simp [othersTo, wSize]
  | k + 1, hk => by
    have ih := wSize_others a b k (by omega)
    have hb := sizeOf_snoc b k (by omega)
    by_cases hs : k < a.length ∧ a.getD k [] = b.getD k []
    · rw [othersTo_same hs.1 hs.2]; omega
    · rw [othersTo_new hs, wSize_append]
      simp only [wSize, List.map_cons, List.map_nil, List.sum_cons, List.sum_nil] at *
      omega

/-- an image, with what became of it: the error's number, pages, blocks, the rest -/
def applyL (fa ba : List (List UInt8)) (ra : List UInt8) (F : List UInt8) (wf wb : List (Int × List UInt8)) (r T : List UInt8) : Int × List (List UInt8) × List (List UInt8) × List UInt8 :=
  if dig (imgB fa ba ra) ≠ F ∧ dig (imgB [] [] []) ≠ F then (23, [], [], [])
  else
    match doneL (if dig (imgB fa ba ra) = F then fa else []) wf with
    | none => (2, [], [], [])
    | some f =>
      match doneL (if dig (imgB fa ba ra) = F then ba else []) wb with
      | none => (2, [], [], [])
      | some b => if dig (imgB f b r) = T then (0, f, b, r) else (23, [], [], [])
end Go.Proofs.YtecamaceainfpaaDoor
/-
  Walks: hibernacleref35.texts, Images.
-/
namespace Go.Proofs.YtecamaceainfpaaDoor
open Go.RowKit

set_option maxRecDepth 100000 in
set_option maxHeartbeats 1000000 in
theorem texts35_any (w : World) (A B : Option Addr) (c d : Nat) (a b : List (List UInt8)) (hA : Strs w w.heap.size A a) (hB : Strs w w.heap.size B b) (ha : a.length ≤ 1099511627776) (hb : b.length ≤ 1099511627776) :
    Calls Tryd.prog 43 #[.slice A a.length c, .slice B b.length d] w fun e w' => e = .returned (.bool (decide (a = b))) ∧ Below w.heap.size w w' := by
  have HA := Lib.hid hA
  have HB := Lib.hid hB
  clear hA hB
  by_cases hl : a.length = b.length
  · have n1 : ((a.length : Int) != (b.length : Int)) = false := by simp [hl]
    have n2 : (a.length != b.length) = false := by simp [hl]
    have HL := Lib.hid hl
    clear hl
    go_enter Tryd.func43, Tryd.ntmps43
    go_wp2_with fail
    clear n1 n2
    go_loopw [5] (fun i wr => ∃ k : Nat, k ≤ a.length ∧ i = .int .i64 k ∧ Hid (a.take k = b.take k) ∧ Hid (Below w.heap.size w wr)) (fun i _ => a.length - (intOf i).toNat)
    case atStart => exact ⟨0, by omega, rfl, Lib.hid rfl, Lib.hid (Below.refl _ _)⟩
    case round =>
      obtain ⟨k, hk, rfl, HE, HW⟩ := hrel
      by_cases hlt : k < a.length
      · have hltb : k < b.length := by rw [← HL.out]; exact hlt
        obtain ⟨ad, rfl, had, a0⟩ := HA.out.at' hlt
        obtain ⟨bd, rfl, hbd, b0⟩ := HB.out.at' hltb
        have a0' : wr.cell? (ad.add k) = _ := (HW.out.cell (by rw [add_block]; exact had)).trans a0
        have b0' : wr.cell? (bd.add k) = _ := (HW.out.cell (by rw [add_block]; exact hbd)).trans b0
        clear a0 b0
        have TA : Hid (a.take (k + 1) = a.take k ++ [a.getD k []]) := Lib.hid (by rw [List.take_succ_eq_append_getElem hlt]; simp [List.getD, hlt])
        have TB : Hid (b.take (k + 1) = b.take k ++ [b.getD k []]) := Lib.hid (by rw [List.take_succ_eq_append_getElem hltb]; simp [List.getD, hltb])
        have HN : Hid (a.getD k [] ≠ b.getD k [] → decide (a = b) = false) := Lib.hid (fun hne => by simp; rintro rfl; exact hne rfl)
        generalize a.getD k [] = x at *
        generalize b.getD k [] = y at *
        have i0 : (0 : Int) ≤ (k : Int) := by omega
        have i1 : (k : Int) < (a.length : Int) := by omega
        have i2 : (k : Int) < (b.length : Int) := by omega
        by_cases h2 : x = y
        · subst h2
          clear HN
          go_wp2_with fail
          go_quiet (fail)
          go_wp2_with fail
          go_roundw
          case rel =>
            have R : ∀ M : Nat, ∃ k' : Nat, k' ≤ a.length ∧ Value.int .i64 ((k : Int) + 1) = .int .i64 k' ∧ Hid (a.take k' = b.take k') ∧ Hid (Below w.heap.size w (wr.drewN M)) := fun M => ⟨k + 1, by omega, by go_num, Lib.hid (by rw [TA.out, TB.out, HE.out]), Lib.hid (Below.draws HW.out _)⟩
            first | exact R _ | ((repeat apply Exists.intro); exact ⟨R _, rfl⟩)
          case measure => simp [intOf]; omega
        · have hbe : (x == y) = false := beq_eq_false_iff_ne.2 h2
          have hbn : (x != y) = true := by simp [bne, hbe]
          have HNN := Lib.hid (HN.out h2)
          clear HN
          go_wp2_with fail
          go_quiet (fail)
          go_wp2_with fail
          go_ret
          exact ⟨by rw [HNN.out]; rfl, Below.draws HW.out _⟩
      · obtain rfl : k = a.length := by omega
        have hd : decide (a.length < a.length) = false := by simp
        have HQ : Hid (decide (a = b) = true) := Lib.hid (decide_eq_true (take_eq_of HL.out HE.out))
        go_wp2_with fail
        go_ret
        exact ⟨by rw [HQ.out]; rfl, HW.out⟩
  · have n1 : ((a.length : Int) != (b.length : Int)) = true := by simp; omega
    have n2 : (a.length != b.length) = true := by simp [hl]
    have HQ : Hid (decide (a = b) = false) := Lib.hid (by simp; rintro rfl; exact hl rfl)
    clear hl
    go_enter Tryd.func43, Tryd.ntmps43
    go_wp2_with fail
    go_ret
    exact ⟨by rw [HQ.out]; rfl, Below.refl _ _⟩

/-- the same images? -/
def imgEq (fa ba : List (List UInt8)) (ra : List UInt8) (fb bb : List (List UInt8)) (rb : List UInt8) : Bool := decide (ra = rb ∧ fa = fb ∧ ba = bb)
set_option maxRecDepth 100000 in
set_option maxHeartbeats 1000000 in
theorem images_any (w : World) (A A' B B' : Option Addr) (c c' d d' : Nat) (fa ba fb bb : List (List UInt8)) (ra rb : List UInt8) (hA : Strs w w.heap.size A fa) (hA' : Strs w w.heap.size A' ba) (hB : Strs w w.heap.size B fb) (hB' : Strs w w.heap.size B' bb)
    (la : fa.length ≤ 1099511627776) (la' : ba.length ≤ 1099511627776) (lb : fb.length ≤ 1099511627776) (lb' : bb.length ≤ 1099511627776) :
    Calls Tryd.prog 17 #[.agg #[.slice A fa.length c, .slice A' ba.length c', S ra], .agg #[.slice B fb.length d, .slice B' bb.length d', S rb]] w fun e w' => e = .returned (.bool (imgEq fa ba ra fb bb rb)) ∧ Below w.heap.size w w' := by
  have HA := Lib.hid hA
  have HA' := Lib.hid hA'
  have HB := Lib.hid hB
  have HB' := Lib.hid hB'
  clear hA hA' hB hB'
  have hX := (Whole.made w 24 #[.slice A fa.length c, .slice A' ba.length c', S ra]).block (.cells #[.slice B fb.length d, .slice B' bb.length d', S rb] 24)
  have hY := Whole.made (w.alloc (.cells #[.slice A fa.length c, .slice A' ba.length c', S ra] 24)) 24 #[.slice B fb.length d, .slice B' bb.length d', S rb]
  have hW : Below w.heap.size w ((w.alloc (.cells #[.slice A fa.length c, .slice A' ba.length c', S ra] 24)).alloc (.cells #[.slice B fb.length d, .slice B' bb.length d', S rb] 24)) := ((Below.refl _ _).alloc (Nat.le_refl _) _).alloc (by simp) _
  rw [show (w.alloc (.cells #[.slice A fa.length c, .slice A' ba.length c', S ra] 24)).heap.size = w.heap.size + 1 by simp] at hY
  go_enter Tryd.func17, Tryd.ntmps17
  go_upto_region 1 with (fail)
  have hlw : w.heap.size + 1 < ((w.alloc (.cells #[.slice A fa.length c, .slice A' ba.length c', S ra] 24)).alloc (.cells #[.slice B fb.length d, .slice B' bb.length d', S rb] 24)).heap.size := hY.lt
  have x0 : _ = some (Value.slice A fa.length c) := hX.cell 0
  have x1 : _ = some (Value.slice A' ba.length c') := hX.cell 1
  have x2 : _ = some (S ra) := hX.cell 2
  have y0 : _ = some (Value.slice B fb.length d) := hY.cell 0
  have y1 : _ = some (Value.slice B' bb.length d') := hY.cell 1
  have y2 : _ = some (S rb) := hY.cell 2
  clear hX hY
  generalize ((w.alloc (.cells #[.slice A fa.length c, .slice A' ba.length c', S ra] 24)).alloc (.cells #[.slice B fb.length d, .slice B' bb.length d', S rb] 24)) = w1 at *
  have HWB := Lib.hid hW
  have X1 := Lib.hid x1
  have Y1 := Lib.hid y1
  clear hW
  by_cases hr : ra = rb
  · have e1 : (ra == rb) = true := beq_iff_eq.2 hr
    have HR := Lib.hid hr
    clear hr
    go_wp2_with fail
    refine (texts35_any w1 A B c d fa fb ((HA.out.below HWB.out).wide HWB.out.size) ((HB.out.below HWB.out).wide HWB.out.size) la lb).mono ?_
    rintro e w2 ⟨rfl, hb2⟩
    have x1' : w2.cell? ⟨w.heap.size, 1, none⟩ = _ := (hb2.cell (by show w.heap.size < _; omega)).trans X1.out
    have y1' : w2.cell? ⟨w.heap.size + 1, 1, none⟩ = _ := (hb2.cell (by show w.heap.size + 1 < _; omega)).trans Y1.out
    have HWB2 : Hid (Below w.heap.size w w2) := Lib.hid (HWB.out.trans (hb2.mono (by omega)))
    clear hb2 x0 x1 x2 y0 y1 y2 e1
    by_cases hf : fa = fb
    · have HF := Lib.hid hf
      rw [show decide (fa = fb) = true from decide_eq_true hf]
      clear hf
      go_wp2_with fail
      refine (texts35_any w2 A' B' c' d' ba bb ((HA'.out.below HWB2.out).wide HWB2.out.size) ((HB'.out.below HWB2.out).wide HWB2.out.size) la' lb').mono ?_
      rintro e w3 ⟨rfl, hb3⟩
      have HWB3 : Hid (Below w.heap.size w w3) := Lib.hid (HWB2.out.trans (hb3.mono HWB2.out.size))
      have HQ : Hid (decide (ba = bb) = imgEq fa ba ra fb bb rb) := Lib.hid (by simp [imgEq, HR.out, HF.out])
      obtain ⟨q, HQQ⟩ : ∃ z, Hid (imgEq fa ba ra fb bb rb = z) := ⟨_, Lib.hid rfl⟩
      rw [HQ.out, HQQ.out]
      clear hb3 x1' y1' HQ
      go_wp2_with fail
      go_ret
      exact ⟨by rw [HQQ.out]; rfl, HWB3.out⟩
    · have HQ : Hid (imgEq fa ba ra fb bb rb = false) := Lib.hid (by simp [imgEq, hf])
      rw [show decide (fa = fb) = false from decide_eq_false hf]
      clear hf
      go_wp2_with fail
      go_ret
      exact ⟨by rw [HQ.out]; rfl, HWB2.out⟩
  · have e1 : (ra == rb) = false := beq_eq_false_iff_ne.2 hr
    have HQ : Hid (imgEq fa ba ra fb bb rb = false) := Lib.hid (by simp [imgEq, hr])
    clear hr
    go_wp2_with fail
    go_ret
    exact ⟨by rw [HQ.out]; rfl, HWB.out⟩
end Go.Proofs.YtecamaceainfpaaDoor
/-
  Walks: slices.Clone at texts, delta.done.
-/
namespace Go.Proofs.YtecamaceainfpaaDoor
open Go.RowKit

theorem Tryd.infoStr : (Tryd.prog.info? 9).map (fun i => (i.zero, i.size, i.bytes)) = some (some (.string ⟨#[]⟩), 1, 16) := by kernel_rfl
theorem S_one (l : List (List UInt8)) : ∀ v ∈ l.map S, v.oneCell' = true := by
  intro v hv
  obtain ⟨b, _, rfl⟩ := List.mem_map.1 hv
  rfl
/-- a row of texts of the call's own -/
abbrev Own (w : World) (base : Nat) (v : Value) (ls : List (List UInt8)) : Prop := w.ownsRow base 9 1 v ls.length (ls.map S)
set_option maxRecDepth 100000 in
set_option maxHeartbeats 1000000 in
theorem clone_any (w : World) (A : Option Addr) (c : Nat) (ls : List (List UInt8)) (hA : Strs w w.heap.size A ls) (hn : ls.length ≤ 1099511627776) :
    Calls Tryd.prog 72 #[.slice A ls.length c] w fun e w' => (∃ v, e = .returned v ∧ Own w' w.heap.size v ls) ∧ Below w.heap.size w w' := by
  obtain ⟨i0, hi0, hz0, hz1, hz2⟩ := info_parts Tryd.infoStr
  cases A with
  | none =>
    have hls : ls = [] := by
      cases ls with
      | nil => rfl
      | cons l r => obtain ⟨ad, e, _⟩ := hA.at' (k := 0) (by simp); cases e
    subst hls
    have he : ∀ W : World, (binOp .eql 22 (.slice none 0 c) (.slice none 0 0)).run Tryd.prog W = .ok (.bool true) W := fun W => Lib.run_eql_slice_nil W 22 9 none 0 c 0 0 Tryd.underlying22
    go_enter Tryd.func72, Tryd.ntmps72
    go_wp2
    go_ret
    exact ⟨⟨_, rfl, World.ownsRow_nil _ _ _ _⟩, Below.refl _ _⟩
  | some ad =>
    have he : ∀ W : World, (binOp .eql 22 (.slice (some ad) ls.length c) (.slice none 0 0)).run Tryd.prog W = .ok (.bool false) W := fun W => Lib.run_eql_slice_nil W 22 9 (some ad) ls.length c 0 0 Tryd.underlying22
    have HN : Hid (∀ j u, (ls.map S)[j]? = some u → (w.alloc (.cells #[] 9)).cell? (ad.add j) = some u) := Lib.hid (fun j u hu => by
      obtain ⟨ad', e, hb, hc⟩ := hA j u hu
      injection e with e; subst e
      rw [← hc]; exact World.cell?_alloc_lt w _ _ (by rw [add_block]; exact hb))
    have HO : Hid ((w.alloc (.cells #[] 9)).ownsRow w.heap.size 9 1 (.slice (some ⟨w.heap.size, 0, none⟩) 0 0) 0 []) := Lib.hid (World.ownsRow_lit w #[] 0 (Nat.le_refl _) (by unfold maxLen; omega) rfl)
    have H63 : Hid (0 + ls.length ≤ maxLen) := Lib.hid (by unfold maxLen; omega)
    have HBY : Hid ((0 + ls.length) * 16 ≤ 140737488355328) := Lib.hid (by omega)
    have HBA : Hid (w.heap.size ≤ (w.alloc (.cells #[] 9)).heap.size) := Lib.hid (by simp)
    clear hA
    go_enter Tryd.func72, Tryd.ntmps72
    go_wp2_with (at_builtin; refine wpList_append_own _ rfl (.tmp 5) (.tmp 6) 22 rfl w.heap.size 9 i0 _ 1 16 Tryd.underlying22 hi0 hz0 hz1 hz2 rfl (by decide) _ _ _ rfl HO.out ad ls.length c (ls.map S) rfl (by simp) HN.out (S_one _) H63.out HBY.out HBA.out ?_; intro v' w1 hown' hgrow _)
    go_ret
    refine ⟨⟨_, rfl, by simpa using hown'⟩, ?_⟩
    exact ((Below.refl _ _).alloc (Nat.le_refl _) _).grown hgrow HBA.out (own_ge HO.out)

/-- what done gives back -/
def DonePost (w : World) (r : Option (List (List UInt8))) (e : Ending) (w' : World) : Prop :=
  (match r with
    | none => e = .returned (.tuple #[.slice none 0 0, .bool false])
    | some x => ∃ v, e = .returned (.tuple #[v, .bool true]) ∧ Own w' w.heap.size v x) ∧ Below w.heap.size w w'
theorem set_map_S (x : List (List UInt8)) (j : Nat) (y : List UInt8) : (x.map S).set j (S y) = (x.set j y).map S := by rw [List.map_set]

set_option maxRecDepth 100000 in
set_option maxHeartbeats 2000000 in
theorem done_any (w : World) (A B : Option Addr) (c d : Nat) (a : List (List UInt8)) (l : List (Int × List UInt8)) (hA : Strs w w.heap.size A a) (hB : Wrs w w.heap.size B l) (ha : a.length ≤ 274877906944) (hl : l.length ≤ 274877906944) :
    Calls Tryd.prog 45 #[.slice A a.length c, .slice B l.length d] w (DonePost w (doneL a l)) := by
  obtain ⟨i0, hi0, hz0, hz1, hz2⟩ := info_parts Tryd.infoStr
  have HA := Lib.hid hA
  have HB := Lib.hid hB
  clear hA hB
  go_enter Tryd.func45, Tryd.ntmps45
  go_wp2_with fail
  refine (clone_any w A c a HA.out (by omega)).mono ?_
  rintro e w1 ⟨⟨v1, rfl, hown1⟩, hb1⟩
  have HO1 := Lib.hid hown1
  have HB1 := Lib.hid hb1
  clear hown1 hb1
  go_wp2_with fail
  go_loopw [0, 12] (fun v i wr => ∃ (k : Nat) (x : List (List UInt8)), k ≤ l.length ∧ i = .int .i64 k ∧ x.length ≤ a.length + k ∧ Hid (doneL a (l.take k) = some x) ∧ Hid (Own wr w.heap.size v x) ∧ Hid (Below w.heap.size w wr)) (fun _ i _ => l.length - (intOf i).toNat)
  case atStart => exact ⟨0, a, by omega, rfl, by omega, Lib.hid rfl, HO1, HB1⟩
  case round =>
    obtain ⟨k, x, hk, rfl, hx, HD, HO, HW⟩ := hrel
    clear HO1 HB1
    by_cases hlt : k < l.length
    · obtain ⟨bd, rfl, hbd, b0, b1⟩ := HB.out.at' hlt
      have b0' : wr.cell? (bd.add (k * 2)) = _ := (HW.out.cell (by rw [add_block]; exact hbd)).trans b0
      have b1' : wr.cell? ⟨(bd.add (k * 2)).block, (bd.add (k * 2)).off + 1, none⟩ = _ := (HW.out.cell (by show (bd.add (k * 2)).block < _; rw [add_block]; exact hbd)).trans b1
      clear b0 b1
      have HT : Hid (l.take (k + 1) = l.take k ++ [l.getD k (0, [])]) := Lib.hid (by rw [List.take_succ_eq_append_getElem hlt]; simp [List.getD, hlt])
      have HST : Hid (doneL a (l.take (k + 1)) = step1 x (l.getD k (0, []))) := Lib.hid (by rw [HT.out, doneL_snoc, HD.out, Option.bind_some])
      have HNO : Hid (step1 x (l.getD k (0, [])) = none → doneL a l = none) := Lib.hid (fun h => doneL_take_none (k := k + 1) (by rw [HST.out, h]))
      generalize l.getD k (0, []) = p at *
      obtain ⟨n, y⟩ := p
      dsimp only at b0' b1'
      have hbs : w.heap.size ≤ wr.heap.size := HW.out.size
      have HE := Lib.hid (HW.out.alloc hbs (.cells #[.int .i64 n, S y] 36))
      have HOE := Lib.hid (HO.out.alloc (.cells #[.int .i64 n, S y] 36))
      by_cases hneg : n < 0
      · have d1 : decide (n < 0) = true := by simpa using hneg
        have HN := Lib.hid (HNO.out (step1_out (.inl hneg)))
        clear hneg
        go_wp2_with fail
        go_ret2
        unfold DonePost
        rw [HN.out]
        exact ⟨rfl, HE.out⟩
      · have d1 : decide (n < 0) = false := by simpa using hneg
        obtain ⟨sh, hsh⟩ := own_shape HO.out (by omega)
        obtain ⟨j, hj⟩ : ∃ j : Nat, n = (j : Int) := ⟨n.toNat, by omega⟩
        subst hj
        clear hneg
        by_cases hgt : x.length < j
        · have d2 : decide ((x.length : Int) < (j : Int)) = true := by simp; omega
          have d2' : decide (x.length < j) = true := by simp; omega
          have HN := Lib.hid (HNO.out (step1_out (.inr (by show (x.length : Int) < (j : Int); omega))))
          obtain ⟨cc, rfl, _, _⟩ := hsh
          go_wp2_with fail
          go_ret2
          unfold DonePost
          rw [HN.out]
          exact ⟨rfl, HE.out⟩
        · have d2 : decide ((x.length : Int) < (j : Int)) = false := by simp; omega
          have d2' : decide (x.length < j) = false := by simp; omega
          by_cases heq : j = x.length
          · subst heq
            have d3 : ((x.length : Int) == (x.length : Int)) = true := by simp
            have HS1 : Hid (doneL a (l.take (k + 1)) = some (x ++ [y])) := Lib.hid (by rw [HST.out]; exact step1_end rfl)
            obtain ⟨cc, rfl, _, _⟩ := hsh
            have HOA := Lib.hid (HOE.out.alloc (.cells #[S y] 9))
            have HNW : Hid (∀ i u, [S y][i]? = some u → ((wr.alloc (.cells #[.int .i64 (x.length : Int), S y] 36)).alloc (.cells #[S y] 9)).cell? ((⟨wr.heap.size + 1, 0, none⟩ : Addr).add i) = some u) := Lib.hid (fun i u hu => by
              obtain ⟨ad', e', _, hc'⟩ := lies_made (wr.alloc (.cells #[.int .i64 (x.length : Int), S y] 36)) 9 [S y] ((wr.alloc (.cells #[.int .i64 (x.length : Int), S y] 36)).heap.size + 1) (by omega) i u hu
              injection e' with e'; subst e'
              rw [show (wr.alloc (.cells #[.int .i64 (x.length : Int), S y] 36)).heap.size = wr.heap.size + 1 by simp] at hc'
              exact hc')
            have H1 : Hid (∀ u ∈ [S y], u.oneCell' = true) := Lib.hid (by simp [Value.oneCell'])
            have H63 : Hid (x.length + 1 ≤ maxLen) := Lib.hid (by unfold maxLen; omega)
            have HBY : Hid ((x.length + 1) * 16 ≤ 140737488355328) := Lib.hid (by omega)
            have HBA : Hid (w.heap.size ≤ ((wr.alloc (.cells #[.int .i64 (x.length : Int), S y] 36)).alloc (.cells #[S y] 9)).heap.size) := Lib.hid (by simp; omega)
            have HE2 := Lib.hid (HE.out.alloc HE.out.size (.cells #[S y] 9))
            go_wp2_with (at_builtin; refine wpList_append_own _ rfl (.tmp 39) (.tmp 42) 22 rfl w.heap.size 9 i0 _ 1 16 Tryd.underlying22 hi0 hz0 hz1 hz2 rfl (by decide) _ _ _ rfl HOA.out ⟨wr.heap.size + 1, 0, none⟩ 1 1 [S y] rfl rfl HNW.out H1.out H63.out HBY.out HBA.out ?_; intro v' w3 hown' hgrow _)
            have HO3 : Hid (Own w3 w.heap.size v' (x ++ [y])) := Lib.hid (by
              have := hown'
              rw [show (x.map S ++ [S y]) = (x ++ [y]).map S by simp] at this
              unfold Own
              rw [List.length_append]
              exact this)
            have HB3 : Hid (Below w.heap.size w w3) := Lib.hid (HE2.out.grown hgrow HBA.out (own_ge HOA.out))
            clear hown' hgrow HOA HNW
            go_wp2_with fail
            go_roundw
            case rel =>
              have R : ∃ (k' : Nat) (x' : List (List UInt8)), k' ≤ l.length ∧ Value.int .i64 ((k : Int) + 1) = .int .i64 k' ∧ x'.length ≤ a.length + k' ∧ Hid (doneL a (l.take k') = some x') ∧ Hid (Own w3 w.heap.size v' x') ∧ Hid (Below w.heap.size w w3) := ⟨k + 1, x ++ [y], by omega, by go_num, by simp; omega, HS1, HO3, HB3⟩
              first | exact R | ((repeat apply Exists.intro); exact ⟨R, rfl⟩)
            case measure => simp [intOf]; omega
          · have hjx : j < x.length := by omega
            have d3 : ((j : Int) == (x.length : Int)) = false := by simp; omega
            have HS1 : Hid (doneL a (l.take (k + 1)) = some (x.set j y)) := Lib.hid (by rw [HST.out]; exact step1_in rfl hjx)
            clear hsh
            obtain ⟨g, cap, hv, hgb, hgl⟩ := HO.out.form (by omega)
            rw [hv] at HO HOE
            rw [hv]
            have cj : (wr.alloc (.cells #[.int .i64 (j : Int), S y] 36)).cell? ⟨g, j, none⟩ = some (S (x.getD j [])) := (HOE.out.cellAt j (by omega)).trans (by simp [hjx])
            have fj := HOE.out.frozenAt j
            obtain ⟨hst, hgr⟩ := HO.out.stored j (S y)
            rw [set_map_S] at hst
            have HO3 : Hid (Own ((wr.setCell ⟨g, j, none⟩ (S y)).alloc (.cells #[.int .i64 (j : Int), S y] 36)) w.heap.size (.slice (some ⟨g, 0, none⟩) x.length cap) (x.set j y)) := Lib.hid (by unfold Own; rw [List.length_set]; exact hst.alloc _)
            have HB3 : Hid (Below w.heap.size w ((wr.setCell ⟨g, j, none⟩ (S y)).alloc (.cells #[.int .i64 (j : Int), S y] 36))) := Lib.hid ((HW.out.setCell (p := ⟨g, j, none⟩) hgb _).alloc (by simpa [World.setCell] using hbs) _)
            clear hst hgr hv
            have j0 : (0 : Int) ≤ (j : Int) := by omega
            have j1 : (j : Int) < (x.length : Int) := by omega
            go_wp2_with fail
            refine ⟨⟨k + 1, x.set j y, by omega, by go_num, by rw [List.length_set]; omega, HS1, HO3, HB3⟩, by simp [intOf]; omega⟩
    · obtain rfl : k = l.length := by omega
      have hd : decide (l.length < l.length) = false := by simp
      rw [List.take_of_length_le (Nat.le_refl _)] at HD
      go_wp2_with fail
      go_ret2
      unfold DonePost
      rw [HD.out]
      exact ⟨⟨_, rfl, HO.out⟩, HW.out⟩
end Go.Proofs.YtecamaceainfpaaDoor
