/-
  Walks: delta.Read, hibernacleref35.Read. (Printed by gen_dread.py.)
-/
import Derived.Test.YtecamaceainfpaaDoorWrites
import Derived.StillTailTactics
import Derived.RegionTactic
import Derived.BigRegion
namespace Go.Proofs.YtecamaceainfpaaDoor
open Go.RowKit

/-- the digest of zeros -/
def Z32 : List UInt8 := List.replicate 32 0
theorem Z32_length : Z32.length = 32 := rfl
/-- the cells of the delta without anything -/
def zeroL : List Value := dCells Z32 (.slice none 0 0) (.slice none 0 0) [] Z32
theorem zeroL_length : zeroL.length = 67 := by kernel_rfl
theorem zero_cells : Tryd.zeroCells32 = zeroL.toArray := by kernel_rfl
theorem zeroL_one : ∀ v ∈ zeroL, v.oneCell' = true := dCells_one _ _ _ _ _ _ _ _ _
/-- the delta of bytes: the error's number, and the parts -/
def readD (b : List UInt8) : Int × List UInt8 × List UInt8 × List UInt8 × List (Int × List UInt8) × List (Int × List UInt8) :=
  match textsA [] b with
  | .error x => (x, Z32, Z32, [], [], [])
  | .ok [t0, t1, t2, t3, t4, t5] =>
    if t0 = [104, 105, 98, 100] ∧ t1.length = 32 ∧ t2.length = 32 then
      match writesL t4, writesL t5 with
      | some f, some g => (0, t1, t2, t3, f, g)
      | _, _ => (3, Z32, Z32, [], [], [])
    else (3, Z32, Z32, [], [], [])
  | .ok _ => (3, Z32, Z32, [], [], [])
theorem readD_err {b : List UInt8} {x : Int} (h : textsA [] b = .error x) : readD b = (x, Z32, Z32, [], [], []) := by unfold readD; rw [h]
theorem readD_len {b : List UInt8} {ls : List (List UInt8)} (h : textsA [] b = .ok ls) (hl : ls.length ≠ 6) : readD b = (3, Z32, Z32, [], [], []) := by
  unfold readD; rw [h]
  match ls, hl with
  | [], _ => rfl
  | [_], _ => rfl
  | [_, _], _ => rfl
  | [_, _, _], _ => rfl
  | [_, _, _, _], _ => rfl
  | [_, _, _, _, _], _ => rfl
  | [_, _, _, _, _, _], h => exact absurd rfl h
  | _ :: _ :: _ :: _ :: _ :: _ :: _ :: _, _ => rfl
theorem readD_form {b t0 t1 t2 t3 t4 t5 : List UInt8} (h : textsA [] b = .ok [t0, t1, t2, t3, t4, t5]) (hn : ¬ (t0 = [104, 105, 98, 100] ∧ t1.length = 32 ∧ t2.length = 32)) : readD b = (3, Z32, Z32, [], [], []) := by
  unfold readD; rw [h]; dsimp only; rw [if_neg hn]
theorem readD_one {b t0 t1 t2 t3 t4 t5 : List UInt8} (h : textsA [] b = .ok [t0, t1, t2, t3, t4, t5]) (hn : writesL t4 = none) : readD b = (3, Z32, Z32, [], [], []) := by
  unfold readD; rw [h]; dsimp only; split
  · rw [hn]
  · rfl
theorem readD_two {b t0 t1 t2 t3 t4 t5 : List UInt8} (h : textsA [] b = .ok [t0, t1, t2, t3, t4, t5]) (hn : writesL t5 = none) : readD b = (3, Z32, Z32, [], [], []) := by
  unfold readD; rw [h]; dsimp only; split
  · rw [hn]; cases writesL t4 <;> rfl
  · rfl
theorem readD_ok {b t0 t1 t2 t3 t4 t5 : List UInt8} {f g : List (Int × List UInt8)} (h : textsA [] b = .ok [t0, t1, t2, t3, t4, t5]) (h0 : t0 = [104, 105, 98, 100] ∧ t1.length = 32 ∧ t2.length = 32) (hf : writesL t4 = some f) (hg : writesL t5 = some g) : readD b = (0, t1, t2, t3, f, g) := by
  unfold readD; rw [h]; dsimp only; rw [if_pos h0, hf, hg]
/-- what Read gives back -/
def DReadPost (w : World) (q : Int × List UInt8 × List UInt8 × List UInt8 × List (Int × List UInt8) × List (Int × List UInt8)) (e : Ending) (w' : World) : Prop :=
  (∃ G k G' k', e = .returned (.tuple #[.agg (dCells q.2.1 (.slice G q.2.2.2.2.1.length k) (.slice G' q.2.2.2.2.2.length k') q.2.2.2.1 q.2.2.1).toArray, .int .i64 q.1]) ∧ Wrs w' w'.heap.size G q.2.2.2.2.1 ∧ Wrs w' w'.heap.size G' q.2.2.2.2.2) ∧ Below w.heap.size w w'
theorem results_cell_two {P : Program} {fn : Func} {p q : Tmp} {ty : TypeId} (h : fn.results = #[.cell p ty, .tmp q]) (tmps : Array Value) (w : World) (g : Nat) (t : TypeId) (cs : Array Value) (fr : Nat × Nat) (d : TypeDesc) (v : Value)
    (hp : tmps.getD p undef = .pointer (some ⟨g, 0, none⟩)) (hq : tmps.getD q undef = v) (hg : w.heap[g]? = some (.cells cs t fr))
    (hu : P.underlying ty = some d) (hd : (match d with | .struct _ | .array _ _ => true | _ => false) = true) (hi : (P.info? ty).map (·.size) = some cs.size) :
    (results fn tmps).run P w = .ok (.tuple #[.agg cs, v]) w := by
  have hp' : tmps[p]?.getD undef = .pointer (some ⟨g, 0, none⟩) := by simpa using hp
  have hq' : tmps[q]?.getD undef = v := by simpa using hq
  simp [results, h, hp', hq', asAddr, run_loadVar_row w g t ty cs fr d hg hu hd hi]
theorem store_all (cur cs : List Value) (h : cur.length = cs.length) : cur.take 0 ++ (cs ++ cur.drop (0 + cs.length)) = cs := by
  rw [List.take_zero, List.nil_append, List.drop_eq_nil_of_le (by omega), List.append_nil]
theorem Strs.six {w : World} {B : Nat} {A : Option Addr} {t0 t1 t2 t3 t4 t5 : List UInt8} (h : Strs w B A [t0, t1, t2, t3, t4, t5]) :
    ∃ ad, A = some ad ∧ ad.block < B ∧ w.cell? (ad.add 0) = some (S t0) ∧ w.cell? (ad.add 1) = some (S t1) ∧ w.cell? (ad.add 2) = some (S t2) ∧ w.cell? (ad.add 3) = some (S t3) ∧ w.cell? (ad.add 4) = some (S t4) ∧ w.cell? (ad.add 5) = some (S t5) := by
  obtain ⟨ad, rfl, hb, c0⟩ := h 0 _ rfl
  obtain ⟨a1, e1, _, c1⟩ := h 1 _ rfl
  obtain ⟨a2, e2, _, c2⟩ := h 2 _ rfl
  obtain ⟨a3, e3, _, c3⟩ := h 3 _ rfl
  obtain ⟨a4, e4, _, c4⟩ := h 4 _ rfl
  obtain ⟨a5, e5, _, c5⟩ := h 5 _ rfl
  injection e1 with e1; injection e2 with e2; injection e3 with e3; injection e4 with e4; injection e5 with e5
  subst e1 e2 e3 e4 e5
  exact ⟨ad, rfl, hb, c0, c1, c2, c3, c4, c5⟩
/-- the six texts of a row, readable at a world -/
def Six (W : World) (ad : Addr) (t0 t1 t2 t3 t4 t5 : List UInt8) : Prop :=
  W.cell? ad = some (S t0) ∧ W.cell? (ad.add 0) = some (S t0) ∧ W.cell? (ad.add 1) = some (S t1) ∧ W.cell? (ad.add 2) = some (S t2) ∧ W.cell? (ad.add 3) = some (S t3) ∧ W.cell? (ad.add 4) = some (S t4) ∧ W.cell? (ad.add 5) = some (S t5) ∧
  W.cell? ⟨ad.block, ad.off + 1, none⟩ = some (S t1) ∧ W.cell? ⟨ad.block, ad.off + 2, none⟩ = some (S t2) ∧ W.cell? ⟨ad.block, ad.off + 3, none⟩ = some (S t3) ∧ W.cell? ⟨ad.block, ad.off + 4, none⟩ = some (S t4) ∧ W.cell? ⟨ad.block, ad.off + 5, none⟩ = some (S t5)
theorem run_build_rest (r : List UInt8) (w : World) : (Instr.build 32 #[(3, S r)]).run Tryd.prog w = .ok (.agg (dCells Z32 (.slice none 0 0) (.slice none 0 0) r Z32).toArray) w := by kernel_rfl
theorem d_put_from {f : List UInt8} (hf : f.length = 32) (v1 v2 : Value) (r t : List UInt8) (p : List UInt8) (hp : p.length = 32) : (dCells f v1 v2 r t).take 0 ++ ((p.take 32).map B8 ++ (dCells f v1 v2 r t).drop (0 + (p.take 32).length)) = dCells p v1 v2 r t := by
  rw [List.take_of_length_le (show p.length ≤ 32 by omega), hp, List.take_zero, List.nil_append]
  unfold dCells
  rw [List.drop_left' (by simp [hf])]
theorem d_put_to {f : List UInt8} (hf : f.length = 32) (v1 v2 : Value) (r t : List UInt8) (ht : t.length = 32) (p : List UInt8) (hp : p.length = 32) : (dCells f v1 v2 r t).take 35 ++ ((p.take 32).map B8 ++ (dCells f v1 v2 r t).drop (35 + (p.take 32).length)) = dCells f v1 v2 r p := by
  rw [List.take_of_length_le (show p.length ≤ 32 by omega), hp, List.drop_eq_nil_of_le (by rw [dCells_length hf ht]; omega), List.append_nil]
  have e : dCells f v1 v2 r t = (f.map B8 ++ [v1, v2, S r]) ++ t.map B8 := by simp [dCells]
  rw [e, List.take_left' (by simp [hf])]
  simp [dCells]
theorem lies_set23 {w : World} {p : Nat} {A : Option Addr} {xs : List Value} {a' b' : Value} (h : Lies w w.heap.size A xs) (hg : ∀ ad, A = some ad → p < ad.block) :
    Lies ((w.setCell ⟨p, 32, none⟩ a').setCell ⟨p, 33, none⟩ b') ((w.setCell ⟨p, 32, none⟩ a').setCell ⟨p, 33, none⟩ b').heap.size A xs := fun k u hu => by
  obtain ⟨ad, e, hb, hc⟩ := h k u hu
  have hp := hg ad e
  refine ⟨ad, e, by simpa [World.setCell] using hb, ?_⟩
  have hn : ∀ o, (⟨p, o, none⟩ : Addr) ≠ ad.add k := fun o e2 => by
    have := congrArg Addr.block e2
    rw [add_block] at this
    simp only at this
    omega
  rw [World.cell?_setCell_other _ _ _ _ (hn 33), World.cell?_setCell_other _ _ _ _ (hn 32)]
  exact hc
/-- the first bytes, and zeros -/
def part (t : List UInt8) (k : Nat) : List UInt8 := t.take k ++ Z32.drop k
theorem part_zero (t : List UInt8) : part t 0 = Z32 := rfl
theorem part_all {t : List UInt8} (h : t.length = 32) : part t 32 = t := by
  unfold part
  rw [List.take_of_length_le (by omega), List.drop_eq_nil_of_le (by rw [Z32_length]; omega), List.append_nil]
theorem part_length {t : List UInt8} (h : t.length = 32) {k : Nat} (hk : k ≤ 32) : (part t k).length = 32 := by
  unfold part
  rw [List.length_append, List.length_take, List.length_drop, h, Z32_length]; omega
theorem part_step {t : List UInt8} (h : t.length = 32) {k : Nat} (hk : k < 32) : (part t k).set k (t.getD k 0) = part t (k + 1) := by
  have hz : k < Z32.length := by rw [Z32_length]; exact hk
  unfold part
  rw [List.set_append_right _ _ (by rw [List.length_take]; omega), List.length_take, h, Nat.min_eq_left (by omega), Nat.sub_self, List.drop_eq_getElem_cons hz, List.set_cons_zero, List.take_succ_eq_append_getElem (by omega)]
  rw [List.append_assoc, List.getD_eq_getElem?_getD, List.getElem?_eq_getElem (by omega)]; rfl
theorem d_set_from {f : List UInt8} (v1 v2 : Value) (r t : List UInt8) {k : Nat} (hk : k < f.length) (x : UInt8) : (dCells f v1 v2 r t).set k (B8 x) = dCells (f.set k x) v1 v2 r t := by
  unfold dCells
  rw [List.set_append_left _ _ (by simpa using hk), List.map_set]
theorem d_set_to {f : List UInt8} (hf : f.length = 32) (v1 v2 : Value) (r t : List UInt8) (k : Nat) (x : UInt8) : (dCells f v1 v2 r t).set (35 + k) (B8 x) = dCells f v1 v2 r (t.set k x) := by
  have e : ∀ t, dCells f v1 v2 r t = (f.map B8 ++ [v1, v2, S r]) ++ t.map B8 := fun t => by simp [dCells]
  rw [e, e, List.set_append_right _ _ (by simp [hf]), List.map_set]
  simp [hf]
theorem d_set_one {f : List UInt8} (hf : f.length = 32) (v1 v2 v : Value) (r t : List UInt8) : (dCells f v1 v2 r t).set 32 v = dCells f v v2 r t := by
  unfold dCells
  rw [List.set_append_right _ _ (by simp [hf]), List.length_map, hf]; rfl
theorem d_set_two {f : List UInt8} (hf : f.length = 32) (v1 v2 v : Value) (r t : List UInt8) : (dCells f v1 v2 r t).set 33 v = dCells f v1 v r t := by
  unfold dCells
  rw [List.set_append_right _ _ (by simp [hf]), List.length_map, hf]; rfl
set_option maxRecDepth 100000 in
set_option maxHeartbeats 4000000 in
theorem dread_any (w : World) (b : List UInt8) (hb : b.length ≤ 4294967296) (hT : STabs w) :
    Calls Tryd.prog 27 #[S b] w (DReadPost w (readD b)) := by
  have HT := Lib.hid hT
  have HZ := Lib.hid (Whole.made w 32 Tryd.zeroCells32)
  have HW := Lib.hid ((Below.refl w.heap.size w).alloc (Nat.le_refl _) (.cells Tryd.zeroCells32 32))
  clear hT
  go_enter Tryd.func27, Tryd.ntmps27
  go_wp2_with fail
  generalize w.alloc (.cells Tryd.zeroCells32 32) = w1 at *
  have HTW : Hid (∀ W : World, Below w.heap.size w W → STabs W) := Lib.hid fun W hW => HT.out.below (Nat.le_refl _) hW
  generalize hgx : w.heap.size = gx at *
  have HGX := Lib.hid hgx
  clear hgx
  rw [zero_cells] at HZ
  refine (texts_any w1 b (by omega)).mono ?_
  rintro e w2 ⟨hm, hb2⟩
  have HZ2 := Lib.hid (HZ.out.below hb2 HZ.out.lt)
  have HW2 := Lib.hid (HW.out.trans (hb2.mono (by have := HZ.out.lt; omega)))
  have hgl := HZ.out.lt
  clear hb2 HZ HW
  have HZI : Hid ((Tryd.prog.info? 32).map (·.size) = some zeroL.length) := Lib.hid (by rw [zeroL_length]; kernel_rfl)
  have HZF : Hid (0 + zeroL.length ≤ zeroL.length) := Lib.hid (by omega)
  have HZO : Hid (∀ v ∈ zeroL, v.oneCell' = true) := Lib.hid zeroL_one
  cases hT : textsA [] b with
  | error x =>
    have HQ := Lib.hid (readD_err hT)
    have hx := textsA_err' _ _ _ _ (Nat.le_refl _) hT
    have hx0 : (x != 0) = true := by rcases hx with rfl | rfl <;> rfl
    rw [hT] at hm
    dsimp only at hm
    subst hm
    clear hT hx
    go_wp2_with (refine wpList_store_at rfl 32 (.tmp 2) (.tmp 17) rfl rfl gx 0 rfl zeroL (congrArg Value.agg zero_cells) HZI.out zeroL 32 HZ2.out HZF.out HZO.out ?_; intro w9 N9 F9)
    have h9 : Whole w9 gx 32 zeroL.toArray := by have := N9.out; rwa [store_all _ _ rfl] at this
    have HB9 := Lib.hid (below_grown HW2.out F9.out (by have := HZ2.out.lt; omega) (Nat.le_refl _))
    clear N9 F9
    refine bodyPost_ret (v := .tuple #[.agg zeroL.toArray, .int .i64 x]) (results_cell_two rfl _ _ gx 32 _ (0, 0) _ _ rfl rfl h9 Tryd.underlying32 rfl (by rw [List.size_toArray]; exact HZI.out)) rfl ?_
    unfold DReadPost
    rw [HQ.out, HGX.out]
    exact ⟨⟨none, 0, none, 0, rfl, Lies.none _ _ _, Lies.none _ _ _⟩, HB9.out⟩
  | ok ls =>
    rw [hT] at hm
    obtain ⟨v, rfl, ho⟩ := hm
    obtain ⟨G, kg, rfl, hlies, _⟩ := own_shape ho (by omega)
    clear ho
    by_cases hl : ls.length = 6
    · obtain ⟨t0, t1, t2, t3, t4, t5, rfl⟩ : ∃ t0 t1 t2 t3 t4 t5, ls = [t0, t1, t2, t3, t4, t5] := by
        match ls, hl with
        | [t0, t1, t2, t3, t4, t5], _ => exact ⟨t0, t1, t2, t3, t4, t5, rfl⟩
      obtain ⟨ad, rfl, had, c0, c1, c2, c3, c4, c5⟩ := Strs.six hlies
      have m4 := texts_mem hT t4 (by simp)
      have m5 := texts_mem hT t5 (by simp)
      have HTT := Lib.hid hT
      clear hl hlies hT
      have HCC : Hid (∀ W, Below w2.heap.size w2 W → Six W ad t0 t1 t2 t3 t4 t5) := Lib.hid fun W hW => by
        have k0 := (hW.cell (p := ad.add 0) (by rw [add_block]; exact had)).trans c0
        have k1 := (hW.cell (p := ad.add 1) (by rw [add_block]; exact had)).trans c1
        have k2 := (hW.cell (p := ad.add 2) (by rw [add_block]; exact had)).trans c2
        have k3 := (hW.cell (p := ad.add 3) (by rw [add_block]; exact had)).trans c3
        have k4 := (hW.cell (p := ad.add 4) (by rw [add_block]; exact had)).trans c4
        have k5 := (hW.cell (p := ad.add 5) (by rw [add_block]; exact had)).trans c5
        exact ⟨k0, k0, k1, k2, k3, k4, k5, k1, k2, k3, k4, k5⟩
      clear c0 c1 c2 c3 c4 c5
      obtain ⟨c0, c0', c1, c2, c3, c4, c5, c1', c2', c3', c4', c5'⟩ := HCC.out w2 (Below.refl _ _)
      by_cases hw : t0 = [104, 105, 98, 100]
      · subst hw
        by_cases hl1 : t1.length = 32
        · have e1 : ((t1.length : Int) != 32) = false := by rw [hl1]; rfl
          have e1' : (t1.length != 32) = false := by rw [hl1]; rfl
          by_cases hl2 : t2.length = 32
          · have e2 : ((t2.length : Int) != 32) = false := by rw [hl2]; rfl
            have e2' : (t2.length != 32) = false := by rw [hl2]; rfl
            have HL1 := Lib.hid hl1
            have HL2 := Lib.hid hl2
            clear hl1 hl2
            have HDI : Hid ((Tryd.prog.info? 32).map (·.size) = some (dCells Z32 (.slice none 0 0) (.slice none 0 0) t3 Z32).length) := Lib.hid (by rw [dCells_length Z32_length Z32_length]; kernel_rfl)
            have HDF : Hid (0 + (dCells Z32 (.slice none 0 0) (.slice none 0 0) t3 Z32).length ≤ zeroL.length) := Lib.hid (by rw [dCells_length Z32_length Z32_length, zeroL_length]; omega)
            have HDO : Hid (∀ v ∈ dCells Z32 (.slice none 0 0) (.slice none 0 0) t3 Z32, v.oneCell' = true) := Lib.hid (dCells_one _ _ _ _ _ _ _ _ _)
            have HDA : Hid (zeroL.length = (dCells Z32 (.slice none 0 0) (.slice none 0 0) t3 Z32).length) := Lib.hid (by rw [dCells_length Z32_length Z32_length, zeroL_length])
            have HY : Hid (Whole (w2.alloc (.cells Tryd.zeroCells32 32)) w2.heap.size 32 zeroL.toArray) := Lib.hid (by rw [← zero_cells]; exact Whole.made w2 32 Tryd.zeroCells32)
            have HZa := Lib.hid (HZ2.out.block (.cells Tryd.zeroCells32 32))
            have HWa := Lib.hid (HW2.out.alloc (by have := HZ2.out.lt; omega) (.cells Tryd.zeroCells32 32))
            have HBa := Lib.hid ((Below.refl w2.heap.size w2).alloc (Nat.le_refl _) (.cells Tryd.zeroCells32 32))
            have hg2 : gx < w2.heap.size := HZ2.out.lt
            go_wp2_with (first
              | (refine wpList_build rfl 32 #[(3, .tmp 45)] rfl #[(3, S t3)] rfl _ (run_build_rest t3 _) ?_)
              | (refine wpList_store_at rfl 32 (.tmp 6) (.tmp 46) rfl rfl w2.heap.size 0 rfl (dCells Z32 (.slice none 0 0) (.slice none 0 0) t3 Z32) rfl HDI.out zeroL 32 HY.out HDF.out HDO.out ?_; intro w3 N3 F3))
            have HY3 : Hid (Whole w3 w2.heap.size 32 (dCells Z32 (.slice none 0 0) (.slice none 0 0) t3 Z32).toArray) := Lib.hid (by have := N3.out; rwa [store_all _ _ HDA.out] at this)
            have HZ3 := Lib.hid (HZa.out.other F3.out (by intro e; injection e with e; omega))
            have HW3 := Lib.hid (below_grown HWa.out F3.out (by have := HZa.out.lt; omega) (by omega))
            have HB3 := Lib.hid (below_grown HBa.out F3.out (by have := HBa.out.size; omega) (Nat.le_refl _))
            clear N3 F3 HY HZa HWa HBa HDI HDF HDO HDA e1 e1' e2 e2' c0 c0' c1 c2 c3 c4 c5 c1' c2' c3' c4' c5'
            obtain ⟨gd, HGD⟩ : ∃ z, Hid (w2.heap.size = z) := ⟨_, Lib.hid rfl⟩
            rw [HGD.out] at HY3 HB3 hg2 HCC
            rw [HGD.out]
            obtain ⟨c0, c0', c1, c2, c3, c4, c5, c1', c2', c3', c4', c5'⟩ := HCC.out w3 HB3.out
            go_wp2_with fail
            go_still_tail 5, (by kernel_rfl)
            change wpList _ _ _ _ _ w3.drew
            refine wpList_copy_str rfl (.tmp 48) (.tmp 51) 73 9 rfl 5 Tryd.underlying73 (by kernel_rfl) gd 0 32 32 t1 rfl rfl _ 32 HY3.out.draw (by rw [dCells_length Z32_length Z32_length]; omega) ?_
            intro w4 N4 F4
            have HY4 : Hid (Whole w4 gd 32 (dCells t1 (.slice none 0 0) (.slice none 0 0) t3 Z32).toArray) := Lib.hid (by have := N4.out; rwa [d_put_from Z32_length _ _ _ _ _ HL1.out] at this)
            have HZ4 := Lib.hid (HZ3.out.draw.other F4.out (by intro e; injection e with e; omega))
            have HW4 := Lib.hid (below_grown HW3.out.drew F4.out (by have := HZ3.out.lt; show gx ≤ w3.heap.size; omega) (by omega))
            have HB4 := Lib.hid (below_grown HB3.out.drew F4.out (by have := HY3.out.lt; show gd ≤ w3.heap.size; omega) (Nat.le_refl _))
            clear N4 F4 HY3 HZ3 HW3 HB3 c0 c0' c1 c2 c3 c4 c5 c1' c2' c3' c4' c5'
            obtain ⟨c0, c0', c1, c2, c3, c4, c5, c1', c2', c3', c4', c5'⟩ := HCC.out w4 HB4.out
            go_wp2_with fail
            go_still_tail 5, (by kernel_rfl)
            change wpList _ _ _ _ _ w4.drew
            refine wpList_copy_str rfl (.tmp 54) (.tmp 57) 73 9 rfl 5 Tryd.underlying73 (by kernel_rfl) gd 35 32 32 t2 rfl rfl _ 32 HY4.out.draw (by rw [dCells_length HL1.out Z32_length]; omega) ?_
            intro w5 N5 F5
            have HY5 : Hid (Whole w5 gd 32 (dCells t1 (.slice none 0 0) (.slice none 0 0) t3 t2).toArray) := Lib.hid (by have := N5.out; rwa [d_put_to HL1.out _ _ _ _ Z32_length _ HL2.out] at this)
            have HZ5 := Lib.hid (HZ4.out.draw.other F5.out (by intro e; injection e with e; omega))
            have HW5 := Lib.hid (below_grown HW4.out.drew F5.out (by have := HZ4.out.lt; show gx ≤ w4.heap.size; omega) (by omega))
            have HB5 := Lib.hid (below_grown HB4.out.drew F5.out (by have := HY4.out.lt; show gd ≤ w4.heap.size; omega) (Nat.le_refl _))
            clear N5 F5 HY4 HZ4 HW4 HB4 c0 c0' c1 c2 c3 c4 c5 c1' c2' c3' c4' c5'
            obtain ⟨c0, c0', c1, c2, c3, c4, c5, c1', c2', c3', c4', c5'⟩ := HCC.out w5 HB5.out
            go_wp2_with fail
            refine (writes_any w5 t4 (by omega) (HTW.out w5 HW5.out)).mono ?_
            rintro e w6 ⟨hm, hb6⟩
            have hl5 := HY5.out.lt
            have HL5 := Lib.hid hl5
            have HY6 := Lib.hid (HY5.out.below hb6 HY5.out.lt)
            have HZ6 := Lib.hid (HZ5.out.below hb6 HZ5.out.lt)
            have HW6 := Lib.hid (HW5.out.trans (hb6.mono (by have := HZ5.out.lt; omega)))
            have HB6 := Lib.hid (HB5.out.trans (hb6.mono (by omega)))
            clear hb6 HY5 HZ5 HW5 HB5 c0 c0' c1 c2 c3 c4 c5 c1' c2' c3' c4' c5'
            cases hT4 : writesL t4 with
            | none =>
              have HQ := Lib.hid (readD_one HTT.out hT4)
              rw [hT4] at hm
              obtain ⟨P, np, kp, rfl⟩ := hm
              clear hT4
              go_wp2_with (refine wpList_store_at rfl 32 (.tmp 2) (.tmp 68) rfl rfl gx 0 rfl zeroL (congrArg Value.agg zero_cells) HZI.out zeroL 32 HZ6.out HZF.out HZO.out ?_; intro w9 N9 F9)
              have h9 : Whole w9 gx 32 zeroL.toArray := by have := N9.out; rwa [store_all _ _ rfl] at this
              have HB9 := Lib.hid (below_grown HW6.out F9.out (by have := HZ6.out.lt; omega) (Nat.le_refl _))
              clear N9 F9
              refine bodyPost_ret (v := .tuple #[.agg zeroL.toArray, .int .i64 3]) (results_cell_two rfl _ _ gx 32 _ (0, 0) _ _ rfl rfl h9 Tryd.underlying32 rfl (by rw [List.size_toArray]; exact HZI.out)) rfl ?_
              unfold DReadPost
              rw [HQ.out, HGX.out]
              exact ⟨⟨none, 0, none, 0, rfl, Lies.none _ _ _, Lies.none _ _ _⟩, HB9.out⟩
            | some f =>
              rw [hT4] at hm
              obtain ⟨v, rfl, ho⟩ := hm
              obtain ⟨P, kp, rfl, hlp, hpb⟩ := own_shape ho (by omega)
              have HLP := Lib.hid hlp
              have NP : Hid (∀ ad, P = some ad → gd < ad.block) := Lib.hid (fun ad e => by have := hpb ad e; omega)
              have HT4 := Lib.hid hT4
              clear ho hlp hpb hT4 hl5
              obtain ⟨c0, c0', c1, c2, c3, c4, c5, c1', c2', c3', c4', c5'⟩ := HCC.out w6 HB6.out
              go_wp2_with fail
              refine (writes_any w6 t5 (by omega) (HTW.out w6 HW6.out)).mono ?_
              rintro e w7 ⟨hm, hb7⟩
              have hl6 := HY6.out.lt
              have HY7 := Lib.hid (HY6.out.below hb7 HY6.out.lt)
              have HZ7 := Lib.hid (HZ6.out.below hb7 HZ6.out.lt)
              have HW7 := Lib.hid (HW6.out.trans (hb7.mono (by have := HZ6.out.lt; omega)))
              have HLP7 := Lib.hid (Lies.wide (Lies.below HLP.out hb7) hb7.size)
              clear hb7 HY6 HZ6 HW6 HB6 HLP c0 c0' c1 c2 c3 c4 c5 c1' c2' c3' c4' c5'
              cases hT5 : writesL t5 with
              | none =>
                have HQ := Lib.hid (readD_two HTT.out hT5)
                rw [hT5] at hm
                obtain ⟨P', np', kp', rfl⟩ := hm
                clear hT5
                go_wp2_with (refine wpList_store_at rfl 32 (.tmp 2) (.tmp 78) rfl rfl gx 0 rfl zeroL (congrArg Value.agg zero_cells) HZI.out zeroL 32 HZ7.out HZF.out HZO.out ?_; intro w9 N9 F9)
                have h9 : Whole w9 gx 32 zeroL.toArray := by have := N9.out; rwa [store_all _ _ rfl] at this
                have HB9 := Lib.hid (below_grown HW7.out F9.out (by have := HZ7.out.lt; omega) (Nat.le_refl _))
                clear N9 F9
                refine bodyPost_ret (v := .tuple #[.agg zeroL.toArray, .int .i64 3]) (results_cell_two rfl _ _ gx 32 _ (0, 0) _ _ rfl rfl h9 Tryd.underlying32 rfl (by rw [List.size_toArray]; exact HZI.out)) rfl ?_
                unfold DReadPost
                rw [HQ.out, HGX.out]
                exact ⟨⟨none, 0, none, 0, rfl, Lies.none _ _ _, Lies.none _ _ _⟩, HB9.out⟩
              | some g =>
                rw [hT5] at hm
                obtain ⟨v, rfl, ho⟩ := hm
                obtain ⟨P', kp', rfl, hlp, hpb⟩ := own_shape ho (by omega)
                have HLQ := Lib.hid hlp
                have NQ : Hid (∀ ad, P' = some ad → gd < ad.block) := Lib.hid (fun ad e => by have := hpb ad e; omega)
                have HQ := Lib.hid (readD_ok HTT.out ⟨rfl, HL1.out, HL2.out⟩ HT4.out hT5)
                clear ho hlp hpb hT5 hl6
                have f1 := HY7.out.free 32
                have f2 := HY7.out.free 33
                have q1 : w7.cell? ⟨gd, 32, none⟩ = some (Value.slice none 0 0) := (HY7.out.cell 32).trans (by rw [List.getElem?_toArray]; exact dCells_32 HL1.out _ _ _ _)
                have q2 : w7.cell? ⟨gd, 33, none⟩ = some (Value.slice none 0 0) := (HY7.out.cell 33).trans (by rw [List.getElem?_toArray]; exact dCells_33 HL1.out _ _ _ _)
                have HY8 : Hid (Whole ((w7.setCell ⟨gd, 32, none⟩ (.slice P f.length kp)).setCell ⟨gd, 33, none⟩ (.slice P' g.length kp')) gd 32 (dCells t1 (.slice P f.length kp) (.slice P' g.length kp') t3 t2).toArray) := Lib.hid (by
                  have h1 := HY7.out.set 32 (.slice P f.length kp)
                  rw [List.setIfInBounds_toArray, d_set_one HL1.out] at h1
                  have h2 := h1.set 33 (.slice P' g.length kp')
                  rw [List.setIfInBounds_toArray, d_set_two HL1.out] at h2
                  exact h2)
                have HZ8 := Lib.hid ((HZ7.out.far (p := ⟨gd, 32, none⟩) (by show gx ≠ gd; omega) (.slice P f.length kp)).far (p := ⟨gd, 33, none⟩) (by show gx ≠ gd; omega) (.slice P' g.length kp'))
                have HW8 := Lib.hid ((HW7.out.setCell (p := ⟨gd, 32, none⟩) (by show gx ≤ gd; omega) (.slice P f.length kp)).setCell (p := ⟨gd, 33, none⟩) (by show gx ≤ gd; omega) (.slice P' g.length kp'))
                have HLP8 := Lib.hid (lies_set23 (a' := .slice P f.length kp) (b' := .slice P' g.length kp') HLP7.out NP.out)
                have HLQ8 := Lib.hid (lies_set23 (a' := .slice P f.length kp) (b' := .slice P' g.length kp') HLQ.out NQ.out)
                have HVL : Hid ((dCells t1 (.slice P f.length kp) (.slice P' g.length kp') t3 t2).length = 67) := Lib.hid (dCells_length HL1.out HL2.out _ _ _)
                have HVI : Hid ((Tryd.prog.info? 32).map (·.size) = some (dCells t1 (.slice P f.length kp) (.slice P' g.length kp') t3 t2).length) := Lib.hid (by rw [HVL.out]; kernel_rfl)
                have HVO : Hid (∀ v ∈ dCells t1 (.slice P f.length kp) (.slice P' g.length kp') t3 t2, v.oneCell' = true) := Lib.hid (dCells_one _ _ _ _ _ _ _ _ _)
                have HVF : Hid (0 + (dCells t1 (.slice P f.length kp) (.slice P' g.length kp') t3 t2).length ≤ zeroL.length) := Lib.hid (by rw [HVL.out, zeroL_length]; omega)
                have HVA : Hid (zeroL.length = (dCells t1 (.slice P f.length kp) (.slice P' g.length kp') t3 t2).length) := Lib.hid (by rw [HVL.out, zeroL_length])
                have HVC : Hid (∀ j v, (dCells t1 (.slice P f.length kp) (.slice P' g.length kp') t3 t2)[j]? = some v → ((w7.setCell ⟨gd, 32, none⟩ (.slice P f.length kp)).setCell ⟨gd, 33, none⟩ (.slice P' g.length kp')).cell? ((⟨gd, 0, none⟩ : Addr).add j) = some v) := Lib.hid (mid_cells HY8.out 0 _ (fun j v hv => by rw [Nat.zero_add]; exact hv))
                clear HY7 HZ7 HW7 HLP7 HLQ
                go_wp2_with (first
                  | (refine wpList_load_at rfl 32 (.tmp 6) rfl ⟨gd, 0, none⟩ rfl (dCells t1 (.slice P f.length kp) (.slice P' g.length kp') t3 t2) _ HVC.out Tryd.underlying32 rfl HVI.out ?_)
                  | (refine wpList_store_at rfl 32 (.tmp 2) (.tmp 83) rfl rfl gx 0 rfl (dCells t1 (.slice P f.length kp) (.slice P' g.length kp') t3 t2) rfl HVI.out zeroL 32 HZ8.out HVF.out HVO.out ?_; intro w9 N9 F9))
                have h9 : Whole w9 gx 32 (dCells t1 (.slice P f.length kp) (.slice P' g.length kp') t3 t2).toArray := by have := N9.out; rwa [store_all _ _ HVA.out] at this
                have HB9 := Lib.hid (below_grown HW8.out F9.out (by have := HZ8.out.lt; omega) (Nat.le_refl _))
                have L1 := Lib.hid (lies_after HLP8.out F9.out (fun ad e _ => by have := NP.out ad e; omega))
                have L2 := Lib.hid (lies_after HLQ8.out F9.out (fun ad e _ => by have := NQ.out ad e; omega))
                clear N9 F9
                refine bodyPost_ret (v := .tuple #[.agg (dCells t1 (.slice P f.length kp) (.slice P' g.length kp') t3 t2).toArray, .int .i64 0]) (results_cell_two rfl _ _ gx 32 _ (0, 0) _ _ rfl rfl h9 Tryd.underlying32 rfl (by rw [List.size_toArray]; exact HVI.out)) rfl ?_
                unfold DReadPost
                rw [HQ.out, HGX.out]
                exact ⟨⟨P, kp, P', kp', rfl, L1.out, L2.out⟩, HB9.out⟩
          · have e2 : ((t2.length : Int) != 32) = true := by simp; omega
            have e2' : (t2.length != 32) = true := by simp; omega
            have HQ := Lib.hid (readD_form HTT.out (fun h => hl2 h.2.2))
            clear hl1 hl2
            go_wp2_with (refine wpList_store_at rfl 32 (.tmp 2) (.tmp 42) rfl rfl gx 0 rfl zeroL (congrArg Value.agg zero_cells) HZI.out zeroL 32 HZ2.out HZF.out HZO.out ?_; intro w9 N9 F9)
            have h9 : Whole w9 gx 32 zeroL.toArray := by have := N9.out; rwa [store_all _ _ rfl] at this
            have HB9 := Lib.hid (below_grown HW2.out F9.out (by have := HZ2.out.lt; omega) (Nat.le_refl _))
            clear N9 F9
            refine bodyPost_ret (v := .tuple #[.agg zeroL.toArray, .int .i64 3]) (results_cell_two rfl _ _ gx 32 _ (0, 0) _ _ rfl rfl h9 Tryd.underlying32 rfl (by rw [List.size_toArray]; exact HZI.out)) rfl ?_
            unfold DReadPost
            rw [HQ.out, HGX.out]
            exact ⟨⟨none, 0, none, 0, rfl, Lies.none _ _ _, Lies.none _ _ _⟩, HB9.out⟩
        · have e1 : ((t1.length : Int) != 32) = true := by simp; omega
          have e1' : (t1.length != 32) = true := by simp; omega
          have HQ := Lib.hid (readD_form HTT.out (fun h => hl1 h.2.1))
          clear hl1
          go_wp2_with (refine wpList_store_at rfl 32 (.tmp 2) (.tmp 42) rfl rfl gx 0 rfl zeroL (congrArg Value.agg zero_cells) HZI.out zeroL 32 HZ2.out HZF.out HZO.out ?_; intro w9 N9 F9)
          have h9 : Whole w9 gx 32 zeroL.toArray := by have := N9.out; rwa [store_all _ _ rfl] at this
          have HB9 := Lib.hid (below_grown HW2.out F9.out (by have := HZ2.out.lt; omega) (Nat.le_refl _))
          clear N9 F9
          refine bodyPost_ret (v := .tuple #[.agg zeroL.toArray, .int .i64 3]) (results_cell_two rfl _ _ gx 32 _ (0, 0) _ _ rfl rfl h9 Tryd.underlying32 rfl (by rw [List.size_toArray]; exact HZI.out)) rfl ?_
          unfold DReadPost
          rw [HQ.out, HGX.out]
          exact ⟨⟨none, 0, none, 0, rfl, Lies.none _ _ _, Lies.none _ _ _⟩, HB9.out⟩
      · have HQ := Lib.hid (readD_form HTT.out (fun h => hw h.1))
        have hbe : (t0 == [104, 105, 98, 100]) = false := beq_eq_false_iff_ne.2 hw
        have hbn : (t0 != [104, 105, 98, 100]) = true := by simp [bne, hbe]
        clear hw
        go_wp2_with (refine wpList_store_at rfl 32 (.tmp 2) (.tmp 42) rfl rfl gx 0 rfl zeroL (congrArg Value.agg zero_cells) HZI.out zeroL 32 HZ2.out HZF.out HZO.out ?_; intro w9 N9 F9)
        have h9 : Whole w9 gx 32 zeroL.toArray := by have := N9.out; rwa [store_all _ _ rfl] at this
        have HB9 := Lib.hid (below_grown HW2.out F9.out (by have := HZ2.out.lt; omega) (Nat.le_refl _))
        clear N9 F9
        refine bodyPost_ret (v := .tuple #[.agg zeroL.toArray, .int .i64 3]) (results_cell_two rfl _ _ gx 32 _ (0, 0) _ _ rfl rfl h9 Tryd.underlying32 rfl (by rw [List.size_toArray]; exact HZI.out)) rfl ?_
        unfold DReadPost
        rw [HQ.out, HGX.out]
        exact ⟨⟨none, 0, none, 0, rfl, Lies.none _ _ _, Lies.none _ _ _⟩, HB9.out⟩
    · have HQ := Lib.hid (readD_len hT hl)
      have e4 : ((ls.length : Int) != 6) = true := by simp; omega
      clear hT hl
      go_wp2_with (refine wpList_store_at rfl 32 (.tmp 2) (.tmp 42) rfl rfl gx 0 rfl zeroL (congrArg Value.agg zero_cells) HZI.out zeroL 32 HZ2.out HZF.out HZO.out ?_; intro w9 N9 F9)
      have h9 : Whole w9 gx 32 zeroL.toArray := by have := N9.out; rwa [store_all _ _ rfl] at this
      have HB9 := Lib.hid (below_grown HW2.out F9.out (by have := HZ2.out.lt; omega) (Nat.le_refl _))
      clear N9 F9
      refine bodyPost_ret (v := .tuple #[.agg zeroL.toArray, .int .i64 3]) (results_cell_two rfl _ _ gx 32 _ (0, 0) _ _ rfl rfl h9 Tryd.underlying32 rfl (by rw [List.size_toArray]; exact HZI.out)) rfl ?_
      unfold DReadPost
      rw [HQ.out, HGX.out]
      exact ⟨⟨none, 0, none, 0, rfl, Lies.none _ _ _, Lies.none _ _ _⟩, HB9.out⟩
set_option maxRecDepth 100000 in
set_option maxHeartbeats 4000000 in
theorem rdread_any (w : World) (b : List UInt8) (hb : b.length ≤ 4294967296) (hT : STabs w) :
    Calls Tryd.prog 28 #[S b] w (DReadPost w (readD b)) := by
  have HT := Lib.hid hT
  have HZ := Lib.hid (Whole.made w 32 Tryd.zeroCells32)
  have HW := Lib.hid ((Below.refl w.heap.size w).alloc (Nat.le_refl _) (.cells Tryd.zeroCells32 32))
  clear hT
  go_enter Tryd.func28, Tryd.ntmps28
  go_wp2_with fail
  generalize w.alloc (.cells Tryd.zeroCells32 32) = w1 at *
  have HTW : Hid (∀ W : World, Below w.heap.size w W → STabs W) := Lib.hid fun W hW => HT.out.below (Nat.le_refl _) hW
  generalize hgx : w.heap.size = gx at *
  have HGX := Lib.hid hgx
  clear hgx
  rw [zero_cells] at HZ
  refine (rtexts_any w1 b (by omega)).mono ?_
  rintro e w2 ⟨hm, hb2⟩
  have HZ2 := Lib.hid (HZ.out.below hb2 HZ.out.lt)
  have HW2 := Lib.hid (HW.out.trans (hb2.mono (by have := HZ.out.lt; omega)))
  have hgl := HZ.out.lt
  clear hb2 HZ HW
  have HZI : Hid ((Tryd.prog.info? 32).map (·.size) = some zeroL.length) := Lib.hid (by rw [zeroL_length]; kernel_rfl)
  have HZF : Hid (0 + zeroL.length ≤ zeroL.length) := Lib.hid (by omega)
  have HZO : Hid (∀ v ∈ zeroL, v.oneCell' = true) := Lib.hid zeroL_one
  cases hT : textsA [] b with
  | error x =>
    have HQ := Lib.hid (readD_err hT)
    have hx := textsA_err' _ _ _ _ (Nat.le_refl _) hT
    have hx0 : (x != 0) = true := by rcases hx with rfl | rfl <;> rfl
    rw [hT] at hm
    dsimp only at hm
    subst hm
    clear hT hx
    go_wp2_with (refine wpList_store_at rfl 32 (.tmp 2) (.tmp 19) rfl rfl gx 0 rfl zeroL (congrArg Value.agg zero_cells) HZI.out zeroL 32 HZ2.out HZF.out HZO.out ?_; intro w9 N9 F9)
    have h9 : Whole w9 gx 32 zeroL.toArray := by have := N9.out; rwa [store_all _ _ rfl] at this
    have HB9 := Lib.hid (below_grown HW2.out F9.out (by have := HZ2.out.lt; omega) (Nat.le_refl _))
    clear N9 F9
    refine bodyPost_ret (v := .tuple #[.agg zeroL.toArray, .int .i64 x]) (results_cell_two rfl _ _ gx 32 _ (0, 0) _ _ rfl rfl h9 Tryd.underlying32 rfl (by rw [List.size_toArray]; exact HZI.out)) rfl ?_
    unfold DReadPost
    rw [HQ.out, HGX.out]
    exact ⟨⟨none, 0, none, 0, rfl, Lies.none _ _ _, Lies.none _ _ _⟩, HB9.out⟩
  | ok ls =>
    rw [hT] at hm
    obtain ⟨v, rfl, ho⟩ := hm
    obtain ⟨G, kg, rfl, hlies, _⟩ := own_shape ho (by omega)
    clear ho
    by_cases hl : ls.length = 6
    · obtain ⟨t0, t1, t2, t3, t4, t5, rfl⟩ : ∃ t0 t1 t2 t3 t4 t5, ls = [t0, t1, t2, t3, t4, t5] := by
        match ls, hl with
        | [t0, t1, t2, t3, t4, t5], _ => exact ⟨t0, t1, t2, t3, t4, t5, rfl⟩
      obtain ⟨ad, rfl, had, c0, c1, c2, c3, c4, c5⟩ := Strs.six hlies
      have m4 := texts_mem hT t4 (by simp)
      have m5 := texts_mem hT t5 (by simp)
      have HTT := Lib.hid hT
      clear hl hlies hT
      have HCC : Hid (∀ W, Below w2.heap.size w2 W → Six W ad t0 t1 t2 t3 t4 t5) := Lib.hid fun W hW => by
        have k0 := (hW.cell (p := ad.add 0) (by rw [add_block]; exact had)).trans c0
        have k1 := (hW.cell (p := ad.add 1) (by rw [add_block]; exact had)).trans c1
        have k2 := (hW.cell (p := ad.add 2) (by rw [add_block]; exact had)).trans c2
        have k3 := (hW.cell (p := ad.add 3) (by rw [add_block]; exact had)).trans c3
        have k4 := (hW.cell (p := ad.add 4) (by rw [add_block]; exact had)).trans c4
        have k5 := (hW.cell (p := ad.add 5) (by rw [add_block]; exact had)).trans c5
        exact ⟨k0, k0, k1, k2, k3, k4, k5, k1, k2, k3, k4, k5⟩
      clear c0 c1 c2 c3 c4 c5
      obtain ⟨c0, c0', c1, c2, c3, c4, c5, c1', c2', c3', c4', c5'⟩ := HCC.out w2 (Below.refl _ _)
      by_cases hw : t0 = [104, 105, 98, 100]
      · subst hw
        by_cases hl1 : t1.length = 32
        · have e1 : ((t1.length : Int) != 32) = false := by rw [hl1]; rfl
          have e1' : (t1.length != 32) = false := by rw [hl1]; rfl
          by_cases hl2 : t2.length = 32
          · have e2 : ((t2.length : Int) != 32) = false := by rw [hl2]; rfl
            have e2' : (t2.length != 32) = false := by rw [hl2]; rfl
            have HL1 := Lib.hid hl1
            have HL2 := Lib.hid hl2
            clear hl1 hl2
            have HDI : Hid ((Tryd.prog.info? 32).map (·.size) = some (dCells Z32 (.slice none 0 0) (.slice none 0 0) t3 Z32).length) := Lib.hid (by rw [dCells_length Z32_length Z32_length]; kernel_rfl)
            have HDF : Hid (0 + (dCells Z32 (.slice none 0 0) (.slice none 0 0) t3 Z32).length ≤ zeroL.length) := Lib.hid (by rw [dCells_length Z32_length Z32_length, zeroL_length]; omega)
            have HDO : Hid (∀ v ∈ dCells Z32 (.slice none 0 0) (.slice none 0 0) t3 Z32, v.oneCell' = true) := Lib.hid (dCells_one _ _ _ _ _ _ _ _ _)
            have HDA : Hid (zeroL.length = (dCells Z32 (.slice none 0 0) (.slice none 0 0) t3 Z32).length) := Lib.hid (by rw [dCells_length Z32_length Z32_length, zeroL_length])
            have HY : Hid (Whole (w2.alloc (.cells Tryd.zeroCells32 32)) w2.heap.size 32 zeroL.toArray) := Lib.hid (by rw [← zero_cells]; exact Whole.made w2 32 Tryd.zeroCells32)
            have HZa := Lib.hid (HZ2.out.block (.cells Tryd.zeroCells32 32))
            have HWa := Lib.hid (HW2.out.alloc (by have := HZ2.out.lt; omega) (.cells Tryd.zeroCells32 32))
            have HBa := Lib.hid ((Below.refl w2.heap.size w2).alloc (Nat.le_refl _) (.cells Tryd.zeroCells32 32))
            have hg2 : gx < w2.heap.size := HZ2.out.lt
            go_wp2_with (first
              | (refine wpList_build rfl 32 #[(3, .tmp 47)] rfl #[(3, S t3)] rfl _ (run_build_rest t3 _) ?_)
              | (refine wpList_store_at rfl 32 (.tmp 6) (.tmp 48) rfl rfl w2.heap.size 0 rfl (dCells Z32 (.slice none 0 0) (.slice none 0 0) t3 Z32) rfl HDI.out zeroL 32 HY.out HDF.out HDO.out ?_; intro w3 N3 F3))
            have HY3 : Hid (Whole w3 w2.heap.size 32 (dCells Z32 (.slice none 0 0) (.slice none 0 0) t3 Z32).toArray) := Lib.hid (by have := N3.out; rwa [store_all _ _ HDA.out] at this)
            have HZ3 := Lib.hid (HZa.out.other F3.out (by intro e; injection e with e; omega))
            have HW3 := Lib.hid (below_grown HWa.out F3.out (by have := HZa.out.lt; omega) (by omega))
            have HB3 := Lib.hid (below_grown HBa.out F3.out (by have := HBa.out.size; omega) (Nat.le_refl _))
            clear N3 F3 HY HZa HWa HBa HDI HDF HDO HDA e1 e1' e2 e2' c0 c0' c1 c2 c3 c4 c5 c1' c2' c3' c4' c5'
            obtain ⟨gd, HGD⟩ : ∃ z, Hid (w2.heap.size = z) := ⟨_, Lib.hid rfl⟩
            rw [HGD.out] at HY3 HB3 hg2 HCC
            rw [HGD.out]
            go_wp2_with fail
            go_loopw [7] (fun i wr => ∃ k : Nat, k ≤ 32 ∧ i = .int .i64 k ∧ Hid (Whole wr gd 32 (dCells (part t1 k) (.slice none 0 0) (.slice none 0 0) t3 (part t2 k)).toArray) ∧ Hid (Whole wr gx 32 zeroL.toArray) ∧ Hid (Below gx w wr) ∧ Hid (Below gd w2 wr)) (fun i _ => 32 - (intOf i).toNat)
            case atStart => exact ⟨0, by omega, rfl, by rw [part_zero, part_zero]; exact HY3, HZ3, HW3, HB3⟩
            case round =>
              clear HY3 HZ3 HW3 HB3
              obtain ⟨k, hk, rfl, HY3, HZ3, HW3, HB3⟩ := hrel
              by_cases hlt : k < 32
              · have hd : decide ((k : Int) < 32) = true := by simp; omega
                have hd' : decide (k < 32) = true := by simp; omega
                obtain ⟨c0, c0', c1, c2, c3, c4, c5, c1', c2', c3', c4', c5'⟩ := HCC.out wr HB3.out
                have x1 := run_index_S t1 .i64 (k : Int) k rfl (by rw [HL1.out]; exact hlt)
                have x2 := run_index_S t2 .i64 (k : Int) k rfl (by rw [HL2.out]; exact hlt)
                have hgb : ad.block < gd := by have := HGD.out; omega
                have hne1 : ¬ (gd = ad.block) := by omega
                have hne2 : ¬ (ad.block = gd) := by omega
                have P1 := part_length HL1.out hk
                have P2 := part_length HL2.out hk
                have y1 : wr.cell? ⟨gd, k, none⟩ = some (B8 ((part t1 k).getD k 0)) := by
                  rw [HY3.out.cell, List.getElem?_toArray]
                  unfold dCells
                  rw [List.getElem?_append_left (by rw [List.length_map, P1]; exact hlt), List.getElem?_map, List.getD_eq_getElem?_getD, List.getElem?_eq_getElem (by omega)]; rfl
                have y2 : wr.cell? ⟨gd, 35 + k, none⟩ = some (B8 ((part t2 k).getD k 0)) := by
                  rw [HY3.out.cell, List.getElem?_toArray]
                  refine dCells_to P1 _ _ _ _ _ _ ?_
                  rw [List.getElem?_map, List.getD_eq_getElem?_getD, List.getElem?_eq_getElem (by omega)]; rfl
                have f1 := HY3.out.free k
                have f2 := HY3.out.free (35 + k)
                have i0 : (0 : Int) ≤ (k : Int) := by omega
                have i1 : (k : Int) < 32 := by omega
                have hk35 : ¬ (35 + k = k) := by omega
                have hk53 : ¬ (k = 35 + k) := by omega
                have HYn : Hid (Whole (((wr.setCell ⟨gd, k, none⟩ (B8 (t1.getD k 0))).setCell ⟨gd, 35 + k, none⟩ (B8 (t2.getD k 0))).drew) gd 32 (dCells (part t1 (k + 1)) (.slice none 0 0) (.slice none 0 0) t3 (part t2 (k + 1))).toArray) := Lib.hid (by
                  have h1 := HY3.out.set k (B8 (t1.getD k 0))
                  rw [List.setIfInBounds_toArray, d_set_from _ _ _ _ (by omega), part_step HL1.out hlt] at h1
                  have h2 := h1.set (35 + k) (B8 (t2.getD k 0))
                  rw [List.setIfInBounds_toArray, d_set_to (part_length HL1.out (by omega)), part_step HL2.out hlt] at h2
                  exact h2.draw)
                have HZn := Lib.hid (((HZ3.out.far (p := ⟨gd, k, none⟩) (by show gx ≠ gd; omega) (B8 (t1.getD k 0))).far (p := ⟨gd, 35 + k, none⟩) (by show gx ≠ gd; omega) (B8 (t2.getD k 0))).draw)
                have HWn := Lib.hid (((HW3.out.setCell (p := ⟨gd, k, none⟩) (by show gx ≤ gd; omega) (B8 (t1.getD k 0))).setCell (p := ⟨gd, 35 + k, none⟩) (by show gx ≤ gd; omega) (B8 (t2.getD k 0))).drew)
                have HBn := Lib.hid (((HB3.out.setCell (p := ⟨gd, k, none⟩) (Nat.le_refl _) (B8 (t1.getD k 0))).setCell (p := ⟨gd, 35 + k, none⟩) (Nat.le_refl _) (B8 (t2.getD k 0))).drew)
                clear P1 P2 HY3 HZ3 HW3 HB3
                rw [List.getD_eq_getElem?_getD, List.getD_eq_getElem?_getD] at HYn HZn HWn HBn
                go_wp2_with fail
                go_region
                clear x1 x2 y1 y2 f1 f2
                generalize ((wr.setCell _ _).setCell _ _).drew = wn at *
                go_wp2_with fail
                exact ⟨⟨k + 1, by omega, by go_num, HYn, HZn, HWn, HBn⟩, by simp [intOf]; omega⟩
              · obtain rfl : k = 32 := by omega
                have hd : decide (((32 : Nat) : Int) < 32) = false := by simp
                rw [part_all HL1.out, part_all HL2.out] at HY3
                obtain ⟨w5, HW55⟩ : ∃ z : World, Hid (wr = z) := ⟨_, Lib.hid rfl⟩
                rw [HW55.out] at HY3 HZ3 HW3 HB3
                rw [HW55.out]
                clear HW55
                have HY5 := HY3
                have HZ5 := HZ3
                have HW5 := HW3
                have HB5 := HB3
                clear HY3 HZ3 HW3 HB3
                obtain ⟨c0, c0', c1, c2, c3, c4, c5, c1', c2', c3', c4', c5'⟩ := HCC.out w5 HB5.out
                go_wp2_with fail
                refine (rwrites_any w5 t4 (by omega) (HTW.out w5 HW5.out)).mono ?_
                rintro e w6 ⟨hm, hb6⟩
                have hl5 := HY5.out.lt
                have HL5 := Lib.hid hl5
                have HY6 := Lib.hid (HY5.out.below hb6 HY5.out.lt)
                have HZ6 := Lib.hid (HZ5.out.below hb6 HZ5.out.lt)
                have HW6 := Lib.hid (HW5.out.trans (hb6.mono (by have := HZ5.out.lt; omega)))
                have HB6 := Lib.hid (HB5.out.trans (hb6.mono (by omega)))
                clear hb6 HY5 HZ5 HW5 HB5 c0 c0' c1 c2 c3 c4 c5 c1' c2' c3' c4' c5'
                cases hT4 : writesL t4 with
                | none =>
                  have HQ := Lib.hid (readD_one HTT.out hT4)
                  rw [hT4] at hm
                  obtain ⟨P, np, kp, rfl⟩ := hm
                  clear hT4
                  obtain ⟨c0, c0', c1, c2, c3, c4, c5, c1', c2', c3', c4', c5'⟩ := HCC.out w6 HB6.out
                  go_wp2_with fail
                  refine (rwrites_any w6 t5 (by omega) (HTW.out w6 HW6.out)).mono ?_
                  rintro e w7 ⟨hm, hb7⟩
                  have HZ7 := Lib.hid (HZ6.out.below hb7 HZ6.out.lt)
                  have HW7 := Lib.hid (HW6.out.trans (hb7.mono (by have := HZ6.out.lt; omega)))
                  clear hb7 c0 c0' c1 c2 c3 c4 c5 c1' c2' c3' c4' c5'
                  cases hT5 : writesL t5 with
                  | none =>
                    rw [hT5] at hm
                    obtain ⟨P', np', kp', rfl⟩ := hm
                    clear hT5
                    go_wp2_with (refine wpList_store_at rfl 32 (.tmp 2) (.tmp 89) rfl rfl gx 0 rfl zeroL (congrArg Value.agg zero_cells) HZI.out zeroL 32 HZ7.out HZF.out HZO.out ?_; intro w9 N9 F9)
                    have h9 : Whole w9 gx 32 zeroL.toArray := by have := N9.out; rwa [store_all _ _ rfl] at this
                    have HB9 := Lib.hid (below_grown HW7.out F9.out (by have := HZ7.out.lt; omega) (Nat.le_refl _))
                    clear N9 F9
                    refine bodyPost_ret (v := .tuple #[.agg zeroL.toArray, .int .i64 3]) (results_cell_two rfl _ _ gx 32 _ (0, 0) _ _ rfl rfl h9 Tryd.underlying32 rfl (by rw [List.size_toArray]; exact HZI.out)) rfl ?_
                    unfold DReadPost
                    rw [HQ.out, HGX.out]
                    exact ⟨⟨none, 0, none, 0, rfl, Lies.none _ _ _, Lies.none _ _ _⟩, HB9.out⟩
                  | some g =>
                    rw [hT5] at hm
                    obtain ⟨v, rfl, ho⟩ := hm
                    obtain ⟨P', kp', rfl, _, _⟩ := own_shape ho (by omega)
                    clear hT5 ho
                    go_wp2_with (refine wpList_store_at rfl 32 (.tmp 2) (.tmp 89) rfl rfl gx 0 rfl zeroL (congrArg Value.agg zero_cells) HZI.out zeroL 32 HZ7.out HZF.out HZO.out ?_; intro w9 N9 F9)
                    have h9 : Whole w9 gx 32 zeroL.toArray := by have := N9.out; rwa [store_all _ _ rfl] at this
                    have HB9 := Lib.hid (below_grown HW7.out F9.out (by have := HZ7.out.lt; omega) (Nat.le_refl _))
                    clear N9 F9
                    refine bodyPost_ret (v := .tuple #[.agg zeroL.toArray, .int .i64 3]) (results_cell_two rfl _ _ gx 32 _ (0, 0) _ _ rfl rfl h9 Tryd.underlying32 rfl (by rw [List.size_toArray]; exact HZI.out)) rfl ?_
                    unfold DReadPost
                    rw [HQ.out, HGX.out]
                    exact ⟨⟨none, 0, none, 0, rfl, Lies.none _ _ _, Lies.none _ _ _⟩, HB9.out⟩
                | some f =>
                  rw [hT4] at hm
                  obtain ⟨v, rfl, ho⟩ := hm
                  obtain ⟨P, kp, rfl, hlp, hpb⟩ := own_shape ho (by omega)
                  have HLP := Lib.hid hlp
                  have NP : Hid (∀ ad, P = some ad → gd < ad.block) := Lib.hid (fun ad e => by have := hpb ad e; omega)
                  have HT4 := Lib.hid hT4
                  clear ho hlp hpb hT4 hl5
                  obtain ⟨c0, c0', c1, c2, c3, c4, c5, c1', c2', c3', c4', c5'⟩ := HCC.out w6 HB6.out
                  go_wp2_with fail
                  refine (rwrites_any w6 t5 (by omega) (HTW.out w6 HW6.out)).mono ?_
                  rintro e w7 ⟨hm, hb7⟩
                  have hl6 := HY6.out.lt
                  have HY7 := Lib.hid (HY6.out.below hb7 HY6.out.lt)
                  have HZ7 := Lib.hid (HZ6.out.below hb7 HZ6.out.lt)
                  have HW7 := Lib.hid (HW6.out.trans (hb7.mono (by have := HZ6.out.lt; omega)))
                  have HLP7 := Lib.hid (Lies.wide (Lies.below HLP.out hb7) hb7.size)
                  clear hb7 HY6 HZ6 HW6 HB6 HLP c0 c0' c1 c2 c3 c4 c5 c1' c2' c3' c4' c5'
                  cases hT5 : writesL t5 with
                  | none =>
                    have HQ := Lib.hid (readD_two HTT.out hT5)
                    rw [hT5] at hm
                    obtain ⟨P', np', kp', rfl⟩ := hm
                    clear hT5
                    go_wp2_with (refine wpList_store_at rfl 32 (.tmp 2) (.tmp 89) rfl rfl gx 0 rfl zeroL (congrArg Value.agg zero_cells) HZI.out zeroL 32 HZ7.out HZF.out HZO.out ?_; intro w9 N9 F9)
                    have h9 : Whole w9 gx 32 zeroL.toArray := by have := N9.out; rwa [store_all _ _ rfl] at this
                    have HB9 := Lib.hid (below_grown HW7.out F9.out (by have := HZ7.out.lt; omega) (Nat.le_refl _))
                    clear N9 F9
                    refine bodyPost_ret (v := .tuple #[.agg zeroL.toArray, .int .i64 3]) (results_cell_two rfl _ _ gx 32 _ (0, 0) _ _ rfl rfl h9 Tryd.underlying32 rfl (by rw [List.size_toArray]; exact HZI.out)) rfl ?_
                    unfold DReadPost
                    rw [HQ.out, HGX.out]
                    exact ⟨⟨none, 0, none, 0, rfl, Lies.none _ _ _, Lies.none _ _ _⟩, HB9.out⟩
                  | some g =>
                    rw [hT5] at hm
                    obtain ⟨v, rfl, ho⟩ := hm
                    obtain ⟨P', kp', rfl, hlp, hpb⟩ := own_shape ho (by omega)
                    have HLQ := Lib.hid hlp
                    have NQ : Hid (∀ ad, P' = some ad → gd < ad.block) := Lib.hid (fun ad e => by have := hpb ad e; omega)
                    have HQ := Lib.hid (readD_ok HTT.out ⟨rfl, HL1.out, HL2.out⟩ HT4.out hT5)
                    clear ho hlp hpb hT5 hl6
                    have f1 := HY7.out.free 32
                    have f2 := HY7.out.free 33
                    have q1 : w7.cell? ⟨gd, 32, none⟩ = some (Value.slice none 0 0) := (HY7.out.cell 32).trans (by rw [List.getElem?_toArray]; exact dCells_32 HL1.out _ _ _ _)
                    have q2 : w7.cell? ⟨gd, 33, none⟩ = some (Value.slice none 0 0) := (HY7.out.cell 33).trans (by rw [List.getElem?_toArray]; exact dCells_33 HL1.out _ _ _ _)
                    have HY8 : Hid (Whole ((w7.setCell ⟨gd, 32, none⟩ (.slice P f.length kp)).setCell ⟨gd, 33, none⟩ (.slice P' g.length kp')) gd 32 (dCells t1 (.slice P f.length kp) (.slice P' g.length kp') t3 t2).toArray) := Lib.hid (by
                      have h1 := HY7.out.set 32 (.slice P f.length kp)
                      rw [List.setIfInBounds_toArray, d_set_one HL1.out] at h1
                      have h2 := h1.set 33 (.slice P' g.length kp')
                      rw [List.setIfInBounds_toArray, d_set_two HL1.out] at h2
                      exact h2)
                    have HZ8 := Lib.hid ((HZ7.out.far (p := ⟨gd, 32, none⟩) (by show gx ≠ gd; omega) (.slice P f.length kp)).far (p := ⟨gd, 33, none⟩) (by show gx ≠ gd; omega) (.slice P' g.length kp'))
                    have HW8 := Lib.hid ((HW7.out.setCell (p := ⟨gd, 32, none⟩) (by show gx ≤ gd; omega) (.slice P f.length kp)).setCell (p := ⟨gd, 33, none⟩) (by show gx ≤ gd; omega) (.slice P' g.length kp'))
                    have HLP8 := Lib.hid (lies_set23 (a' := .slice P f.length kp) (b' := .slice P' g.length kp') HLP7.out NP.out)
                    have HLQ8 := Lib.hid (lies_set23 (a' := .slice P f.length kp) (b' := .slice P' g.length kp') HLQ.out NQ.out)
                    have HVL : Hid ((dCells t1 (.slice P f.length kp) (.slice P' g.length kp') t3 t2).length = 67) := Lib.hid (dCells_length HL1.out HL2.out _ _ _)
                    have HVI : Hid ((Tryd.prog.info? 32).map (·.size) = some (dCells t1 (.slice P f.length kp) (.slice P' g.length kp') t3 t2).length) := Lib.hid (by rw [HVL.out]; kernel_rfl)
                    have HVO : Hid (∀ v ∈ dCells t1 (.slice P f.length kp) (.slice P' g.length kp') t3 t2, v.oneCell' = true) := Lib.hid (dCells_one _ _ _ _ _ _ _ _ _)
                    have HVF : Hid (0 + (dCells t1 (.slice P f.length kp) (.slice P' g.length kp') t3 t2).length ≤ zeroL.length) := Lib.hid (by rw [HVL.out, zeroL_length]; omega)
                    have HVA : Hid (zeroL.length = (dCells t1 (.slice P f.length kp) (.slice P' g.length kp') t3 t2).length) := Lib.hid (by rw [HVL.out, zeroL_length])
                    have HVC : Hid (∀ j v, (dCells t1 (.slice P f.length kp) (.slice P' g.length kp') t3 t2)[j]? = some v → ((w7.setCell ⟨gd, 32, none⟩ (.slice P f.length kp)).setCell ⟨gd, 33, none⟩ (.slice P' g.length kp')).cell? ((⟨gd, 0, none⟩ : Addr).add j) = some v) := Lib.hid (mid_cells HY8.out 0 _ (fun j v hv => by rw [Nat.zero_add]; exact hv))
                    clear HY7 HZ7 HW7 HLP7 HLQ
                    go_wp2_with (first
                      | (refine wpList_load_at rfl 32 (.tmp 6) rfl ⟨gd, 0, none⟩ rfl (dCells t1 (.slice P f.length kp) (.slice P' g.length kp') t3 t2) _ HVC.out Tryd.underlying32 rfl HVI.out ?_)
                      | (refine wpList_store_at rfl 32 (.tmp 2) (.tmp 94) rfl rfl gx 0 rfl (dCells t1 (.slice P f.length kp) (.slice P' g.length kp') t3 t2) rfl HVI.out zeroL 32 HZ8.out HVF.out HVO.out ?_; intro w9 N9 F9))
                    have h9 : Whole w9 gx 32 (dCells t1 (.slice P f.length kp) (.slice P' g.length kp') t3 t2).toArray := by have := N9.out; rwa [store_all _ _ HVA.out] at this
                    have HB9 := Lib.hid (below_grown HW8.out F9.out (by have := HZ8.out.lt; omega) (Nat.le_refl _))
                    have L1 := Lib.hid (lies_after HLP8.out F9.out (fun ad e _ => by have := NP.out ad e; omega))
                    have L2 := Lib.hid (lies_after HLQ8.out F9.out (fun ad e _ => by have := NQ.out ad e; omega))
                    clear N9 F9
                    refine bodyPost_ret (v := .tuple #[.agg (dCells t1 (.slice P f.length kp) (.slice P' g.length kp') t3 t2).toArray, .int .i64 0]) (results_cell_two rfl _ _ gx 32 _ (0, 0) _ _ rfl rfl h9 Tryd.underlying32 rfl (by rw [List.size_toArray]; exact HVI.out)) rfl ?_
                    unfold DReadPost
                    rw [HQ.out, HGX.out]
                    exact ⟨⟨P, kp, P', kp', rfl, L1.out, L2.out⟩, HB9.out⟩
          · have e2 : ((t2.length : Int) != 32) = true := by simp; omega
            have e2' : (t2.length != 32) = true := by simp; omega
            have HQ := Lib.hid (readD_form HTT.out (fun h => hl2 h.2.2))
            clear hl1 hl2
            go_wp2_with (refine wpList_store_at rfl 32 (.tmp 2) (.tmp 44) rfl rfl gx 0 rfl zeroL (congrArg Value.agg zero_cells) HZI.out zeroL 32 HZ2.out HZF.out HZO.out ?_; intro w9 N9 F9)
            have h9 : Whole w9 gx 32 zeroL.toArray := by have := N9.out; rwa [store_all _ _ rfl] at this
            have HB9 := Lib.hid (below_grown HW2.out F9.out (by have := HZ2.out.lt; omega) (Nat.le_refl _))
            clear N9 F9
            refine bodyPost_ret (v := .tuple #[.agg zeroL.toArray, .int .i64 3]) (results_cell_two rfl _ _ gx 32 _ (0, 0) _ _ rfl rfl h9 Tryd.underlying32 rfl (by rw [List.size_toArray]; exact HZI.out)) rfl ?_
            unfold DReadPost
            rw [HQ.out, HGX.out]
            exact ⟨⟨none, 0, none, 0, rfl, Lies.none _ _ _, Lies.none _ _ _⟩, HB9.out⟩
        · have e1 : ((t1.length : Int) != 32) = true := by simp; omega
          have e1' : (t1.length != 32) = true := by simp; omega
          have HQ := Lib.hid (readD_form HTT.out (fun h => hl1 h.2.1))
          clear hl1
          go_wp2_with (refine wpList_store_at rfl 32 (.tmp 2) (.tmp 44) rfl rfl gx 0 rfl zeroL (congrArg Value.agg zero_cells) HZI.out zeroL 32 HZ2.out HZF.out HZO.out ?_; intro w9 N9 F9)
          have h9 : Whole w9 gx 32 zeroL.toArray := by have := N9.out; rwa [store_all _ _ rfl] at this
          have HB9 := Lib.hid (below_grown HW2.out F9.out (by have := HZ2.out.lt; omega) (Nat.le_refl _))
          clear N9 F9
          refine bodyPost_ret (v := .tuple #[.agg zeroL.toArray, .int .i64 3]) (results_cell_two rfl _ _ gx 32 _ (0, 0) _ _ rfl rfl h9 Tryd.underlying32 rfl (by rw [List.size_toArray]; exact HZI.out)) rfl ?_
          unfold DReadPost
          rw [HQ.out, HGX.out]
          exact ⟨⟨none, 0, none, 0, rfl, Lies.none _ _ _, Lies.none _ _ _⟩, HB9.out⟩
      · have HQ := Lib.hid (readD_form HTT.out (fun h => hw h.1))
        have hbe : (t0 == [104, 105, 98, 100]) = false := beq_eq_false_iff_ne.2 hw
        have hbn : (t0 != [104, 105, 98, 100]) = true := by simp [bne, hbe]
        clear hw
        go_wp2_with (refine wpList_store_at rfl 32 (.tmp 2) (.tmp 44) rfl rfl gx 0 rfl zeroL (congrArg Value.agg zero_cells) HZI.out zeroL 32 HZ2.out HZF.out HZO.out ?_; intro w9 N9 F9)
        have h9 : Whole w9 gx 32 zeroL.toArray := by have := N9.out; rwa [store_all _ _ rfl] at this
        have HB9 := Lib.hid (below_grown HW2.out F9.out (by have := HZ2.out.lt; omega) (Nat.le_refl _))
        clear N9 F9
        refine bodyPost_ret (v := .tuple #[.agg zeroL.toArray, .int .i64 3]) (results_cell_two rfl _ _ gx 32 _ (0, 0) _ _ rfl rfl h9 Tryd.underlying32 rfl (by rw [List.size_toArray]; exact HZI.out)) rfl ?_
        unfold DReadPost
        rw [HQ.out, HGX.out]
        exact ⟨⟨none, 0, none, 0, rfl, Lies.none _ _ _, Lies.none _ _ _⟩, HB9.out⟩
    · have HQ := Lib.hid (readD_len hT hl)
      have e4 : ((ls.length : Int) != 6) = true := by simp; omega
      clear hT hl
      go_wp2_with (refine wpList_store_at rfl 32 (.tmp 2) (.tmp 44) rfl rfl gx 0 rfl zeroL (congrArg Value.agg zero_cells) HZI.out zeroL 32 HZ2.out HZF.out HZO.out ?_; intro w9 N9 F9)
      have h9 : Whole w9 gx 32 zeroL.toArray := by have := N9.out; rwa [store_all _ _ rfl] at this
      have HB9 := Lib.hid (below_grown HW2.out F9.out (by have := HZ2.out.lt; omega) (Nat.le_refl _))
      clear N9 F9
      refine bodyPost_ret (v := .tuple #[.agg zeroL.toArray, .int .i64 3]) (results_cell_two rfl _ _ gx 32 _ (0, 0) _ _ rfl rfl h9 Tryd.underlying32 rfl (by rw [List.size_toArray]; exact HZI.out)) rfl ?_
      unfold DReadPost
      rw [HQ.out, HGX.out]
      exact ⟨⟨none, 0, none, 0, rfl, Lies.none _ _ _, Lies.none _ _ _⟩, HB9.out⟩
end Go.Proofs.YtecamaceainfpaaDoor
