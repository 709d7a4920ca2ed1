/-
  Walk: delta.Apply. (Printed by gen_apply.py.)
-/
import Derived.Test.YtecamaceainfpaaDoorDeltaC
import Derived.Test.YtecamaceainfpaaDoorDeltaA
import Derived.Deep.RegionHeld3
import Derived.Deep.MidRow
namespace Go.Proofs.YtecamaceainfpaaDoor
open Go.RowKit

/-- what Apply gives back -/
def ApplyPost (w : World) (q : Int × List (List UInt8) × List (List UInt8) × List UInt8) (e : Ending) (w' : World) : Prop :=
  (∃ G k G' k', e = .returned (.tuple #[.agg #[.slice G q.2.1.length k, .slice G' q.2.2.1.length k', S q.2.2.2], .int .i64 q.1]) ∧ Strs w' w'.heap.size G q.2.1 ∧ Strs w' w'.heap.size G' q.2.2.1) ∧ Below w.heap.size w w'
theorem applyL_diff {fa ba : List (List UInt8)} {ra F : List UInt8} {wf wb : List (Int × List UInt8)} {r T : List UInt8} (h : dig (imgB fa ba ra) ≠ F) (h2 : dig (imgB [] [] []) ≠ F) : applyL fa ba ra F wf wb r T = (23, [], [], []) := by
  unfold applyL; rw [if_pos ⟨h, h2⟩]
theorem applyL_go {fa ba f0 b0 : List (List UInt8)} {ra F : List UInt8} {wf wb : List (Int × List UInt8)} {r T : List UInt8} (h : (dig (imgB fa ba ra) = F ∧ f0 = fa ∧ b0 = ba) ∨ (dig (imgB fa ba ra) ≠ F ∧ dig (imgB [] [] []) = F ∧ f0 = [] ∧ b0 = [])) :
    applyL fa ba ra F wf wb r T = match doneL f0 wf with
    | none => (2, [], [], [])
    | some f =>
      match doneL b0 wb with
      | none => (2, [], [], [])
      | some b => if dig (imgB f b r) = T then (0, f, b, r) else (23, [], [], []) := by
  rcases h with ⟨h, rfl, rfl⟩ | ⟨h, h2, rfl, rfl⟩
  · unfold applyL; rw [if_neg (fun hh => hh.1 h), if_pos h, if_pos h]; rfl
  · unfold applyL; rw [if_neg (fun hh => hh.2 h2), if_neg h, if_neg h]; rfl
theorem range_of {w : World} {g : Nat} {t : TypeId} {xs : List Value} (h : Whole w g t xs.toArray) (o : Nat) (cs : List Value) (hc : ∀ j v, cs[j]? = some v → xs[o + j]? = some v) : w.rangeAt g o cs := fun j v hv => by
  rw [h.cell, List.getElem?_toArray]; exact hc j v hv
theorem lies_set3 {w : World} {p : Nat} {A : Option Addr} {xs : List Value} {a' b' c' : Value} (h : Lies w w.heap.size A xs) (hg : ∀ ad, A = some ad → p < ad.block) :
    Lies (((w.setCell ⟨p, 0, none⟩ a').setCell ⟨p, 1, none⟩ b').setCell ⟨p, 2, none⟩ c') (((w.setCell ⟨p, 0, none⟩ a').setCell ⟨p, 1, none⟩ b').setCell ⟨p, 2, none⟩ c').heap.size A xs := fun k u hu => by
  obtain ⟨ad, e, hb, hc⟩ := h k u hu
  have hp := hg ad e
  refine ⟨ad, e, by simpa [World.setCell] using hb, ?_⟩
  have hn : ∀ o, (⟨p, o, none⟩ : Addr) ≠ ad.add k := fun o e2 => by
    have := congrArg Addr.block e2
    rw [add_block] at this
    simp only at this
    omega
  rw [World.cell?_setCell_other _ _ _ _ (hn 2), World.cell?_setCell_other _ _ _ _ (hn 1), World.cell?_setCell_other _ _ _ _ (hn 0)]
  exact hc
/-- an image's box written over -/
theorem Whole.set3 {w : World} {g : Nat} {t : TypeId} {a b c a' b' c' : Value} (h : Whole w g t #[a, b, c]) : Whole (((w.setCell ⟨g, 0, none⟩ a').setCell ⟨g, 1, none⟩ b').setCell ⟨g, 2, none⟩ c') g t #[a', b', c'] := ((h.set 0 a').set 1 b').set 2 c'
theorem Whole.far3 {w : World} {g p : Nat} {t : TypeId} {cs : Array Value} {a' b' c' : Value} (h : Whole w g t cs) (hp : g ≠ p) : Whole (((w.setCell ⟨p, 0, none⟩ a').setCell ⟨p, 1, none⟩ b').setCell ⟨p, 2, none⟩ c') g t cs := ((h.far (p := ⟨p, 0, none⟩) hp a').far (p := ⟨p, 1, none⟩) hp b').far (p := ⟨p, 2, none⟩) hp c'
theorem Below.set3 {B p : Nat} {w0 w : World} {a' b' c' : Value} (h : Below B w0 w) (hp : B ≤ p) : Below B w0 (((w.setCell ⟨p, 0, none⟩ a').setCell ⟨p, 1, none⟩ b').setCell ⟨p, 2, none⟩ c') := ((h.setCell (p := ⟨p, 0, none⟩) hp a').setCell (p := ⟨p, 1, none⟩) hp b').setCell (p := ⟨p, 2, none⟩) hp c'
set_option maxRecDepth 100000 in
set_option maxHeartbeats 4000000 in
theorem apply_any (w : World) (A A' B B' : Option Addr) (c c' d d' : Nat) (fa ba : List (List UInt8)) (ra F : List UInt8) (wf wb : List (Int × List UInt8)) (r T : List UInt8) (hT : Tabs w) (hA : Strs w w.heap.size A fa) (hA' : Strs w w.heap.size A' ba) (hB : Wrs w w.heap.size B wf) (hB' : Wrs w w.heap.size B' wb)
    (hs : sizeOf fa + sizeOf ba + ra.length + wSize wf + wSize wb + r.length ≤ 2147483648) (hF : F.length = 32) (hT32 : T.length = 32) :
    Calls Tryd.prog 19 #[.agg #[.slice A fa.length c, .slice A' ba.length c', S ra], .agg (dCells F (.slice B wf.length d) (.slice B' wb.length d') r T).toArray] w (ApplyPost w (applyL fa ba ra F wf wb r T)) := by
  have HT := Lib.hid hT
  have HA := Lib.hid hA
  have HA' := Lib.hid hA'
  have HB := Lib.hid hB
  have HB' := Lib.hid hB'
  have HF := Lib.hid hF
  have HT32 := Lib.hid hT32
  clear hT hA hA' hB hB'
  have la := length_le_sizeOf fa
  have la' := length_le_sizeOf ba
  have lb := wSize_len wf
  have lb' := wSize_len wb
  have s0 : sizeOf ([] : List (List UInt8)) ≤ 0 := Nat.le_refl _
  have hl67 : (dCells F (.slice B wf.length d) (.slice B' wb.length d') r T).toArray.size = 67 := by rw [List.size_toArray]; exact dCells_length HF.out HT32.out _ _ _
  clear hF hT32
  go_enter Tryd.func19, Tryd.ntmps19
  go_upto_region 1 with (fail)
  have hx := ((Whole.made w 24 #[.slice A fa.length c, .slice A' ba.length c', S ra]).block (.cells (dCells F (.slice B wf.length d) (.slice B' wb.length d') r T).toArray 32)).block (.cells #[.slice none 0 0, .slice none 0 0, S []] 24)
  have hy := (Whole.made (w.alloc (.cells #[.slice A fa.length c, .slice A' ba.length c', S ra] 24)) 32 (dCells F (.slice B wf.length d) (.slice B' wb.length d') r T).toArray).block (.cells #[.slice none 0 0, .slice none 0 0, S []] 24)
  have hz := Whole.made ((w.alloc (.cells #[.slice A fa.length c, .slice A' ba.length c', S ra] 24)).alloc (.cells (dCells F (.slice B wf.length d) (.slice B' wb.length d') r T).toArray 32)) 24 #[.slice none 0 0, .slice none 0 0, S []]
  have hb : Below w.heap.size w (((w.alloc (.cells #[.slice A fa.length c, .slice A' ba.length c', S ra] 24)).alloc (.cells (dCells F (.slice B wf.length d) (.slice B' wb.length d') r T).toArray 32)).alloc (.cells #[.slice none 0 0, .slice none 0 0, S []] 24)) := (((Below.refl _ _).alloc (Nat.le_refl _) _).alloc (by simp) _).alloc (by simp; omega) _
  rw [show (w.alloc (.cells #[.slice A fa.length c, .slice A' ba.length c', S ra] 24)).heap.size = w.heap.size + 1 by simp] at hy
  rw [show ((w.alloc (.cells #[.slice A fa.length c, .slice A' ba.length c', S ra] 24)).alloc (.cells (dCells F (.slice B wf.length d) (.slice B' wb.length d') r T).toArray 32)).heap.size = w.heap.size + 1 + 1 by simp] at hz
  change Code.wp _ _ _ _ (((w.alloc (.cells #[.slice A fa.length c, .slice A' ba.length c', S ra] 24)).alloc (.cells (dCells F (.slice B wf.length d) (.slice B' wb.length d') r T).toArray 32)).alloc (.cells #[.slice none 0 0, .slice none 0 0, S []] 24))
  generalize ((w.alloc (.cells #[.slice A fa.length c, .slice A' ba.length c', S ra] 24)).alloc (.cells (dCells F (.slice B wf.length d) (.slice B' wb.length d') r T).toArray 32)).alloc (.cells #[.slice none 0 0, .slice none 0 0, S []] 24) = w1 at *
  generalize hgx : w.heap.size = gx at *
  have HGX := Lib.hid hgx
  clear hgx hl67
  have HX := Lib.hid hx
  have HY := Lib.hid hy
  have HZ := Lib.hid hz
  have HW := Lib.hid hb
  clear hx hy hz hb
  have hlz : gx + 1 + 1 < w1.heap.size := HZ.out.lt
  have HLL : Hid (∀ (W : World) (G : Option Addr) (xs : List Value), Below gx w W → Lies w gx G xs → Lies W W.heap.size G xs) := Lib.hid fun W G xs hW h => (h.below hW).wide (by have := hW.size; rw [HGX.out] at this; exact this)
  have HTW : Hid (∀ W : World, Below gx w W → Tabs W) := Lib.hid fun W hW => HT.out.below (by rw [HGX.out]; exact Nat.le_refl _) hW
  have CF : Hid (∀ j v, (F.map B8)[j]? = some v → (dCells F (.slice B wf.length d) (.slice B' wb.length d') r T)[0 + j]? = some v) := Lib.hid (dCells_from _ _ _ _)
  have CT : Hid (∀ j v, (T.map B8)[j]? = some v → (dCells F (.slice B wf.length d) (.slice B' wb.length d') r T)[35 + j]? = some v) := Lib.hid (dCells_to HF.out _ _ _ _)
  have D32c : Hid ((dCells F (.slice B wf.length d) (.slice B' wb.length d') r T)[32]? = some (Value.slice B wf.length d)) := Lib.hid (dCells_32 HF.out _ _ _ _)
  have D33c : Hid ((dCells F (.slice B wf.length d) (.slice B' wb.length d') r T)[33]? = some (Value.slice B' wb.length d')) := Lib.hid (dCells_33 HF.out _ _ _ _)
  have D34c : Hid ((dCells F (.slice B wf.length d) (.slice B' wb.length d') r T)[34]? = some (S r)) := Lib.hid (dCells_34 HF.out _ _ _ _)
  generalize (dCells F (.slice B wf.length d) (.slice B' wb.length d') r T) = dc at *
  have F1 : Hid (∀ W : World, Below gx w W → Calls Tryd.prog 36 #[.agg #[.slice A fa.length c, .slice A' ba.length c', S ra]] W fun e w' => e = .returned (D32 (dig (imgB fa ba ra))) ∧ Below W.heap.size W w') := Lib.hid fun W hW => imgSum_any W A A' c c' fa ba ra (HTW.out W hW) (HLL.out _ _ _ hW HA.out) (HLL.out _ _ _ hW HA'.out) (by omega)
  have D1L : Hid ((dig (imgB fa ba ra)).length = 32) := Lib.hid (dig_length _)
  have HGA : Hid (dig (imgB fa ba ra) = F → applyL fa ba ra F wf wb r T = match doneL fa wf with
    | none => (2, [], [], [])
    | some f =>
      match doneL ba wb with
      | none => (2, [], [], [])
      | some b => if dig (imgB f b r) = T then (0, f, b, r) else (23, [], [], [])) := Lib.hid (fun h => applyL_go (.inl ⟨h, rfl, rfl⟩))
  have HGB : Hid (dig (imgB fa ba ra) ≠ F → dig (imgB [] [] []) = F → applyL fa ba ra F wf wb r T = match doneL [] wf with
    | none => (2, [], [], [])
    | some f =>
      match doneL [] wb with
      | none => (2, [], [], [])
      | some b => if dig (imgB f b r) = T then (0, f, b, r) else (23, [], [], [])) := Lib.hid (fun h h2 => applyL_go (.inr ⟨h, h2, rfl, rfl⟩))
  have HGC : Hid (dig (imgB fa ba ra) ≠ F → dig (imgB [] [] []) ≠ F → applyL fa ba ra F wf wb r T = (23, [], [], [])) := Lib.hid (fun h h2 => applyL_diff h h2)
  obtain ⟨DA, HDA⟩ : ∃ z, Hid (dig (imgB fa ba ra) = z) := ⟨_, Lib.hid rfl⟩
  rw [HDA.out] at F1 D1L HGA HGB HGC
  by_cases heq : DA = F
  · have HEQ := Lib.hid heq
    have HGO := Lib.hid (HGA.out heq)
    clear heq HGA HGB HGC
    have hu := Tryd.underlying29
    have hi : (Tryd.prog.info? 29).map (·.size) = some (F.map B8).length := by rw [List.length_map, HF.out]; kernel_rfl
    have hlen : (F.map B8).length = 32 := by rw [List.length_map, HF.out]
    have h1c := B8_one F
    have eqr : ∀ W : World, (Op.equalIn 10000 29 (D32 DA) (D32 F)).run Tryd.prog W = .ok true W := fun W => by rw [eqIn_D32 DA F D1L.out HF.out]; simp [HEQ.out]
    have rf := range_of HY.out 0 (F.map B8) CF.out
    have c0 : w1.cell? ⟨gx, 0, none⟩ = some (Value.slice A fa.length c) := HX.out.cell 0
    have c1 : w1.cell? ⟨gx, 1, none⟩ = some (Value.slice A' ba.length c') := HX.out.cell 1
    have c2 : w1.cell? ⟨gx, 2, none⟩ = some (S ra) := HX.out.cell 2
    have hzl := HZ.out.lt
    have hxl := HX.out.lt
    go_region_held3 (fun w' => w'.rangeAt (gx + 1) 0 (F.map B8) ∧ w'.cell? ⟨gx, 0, none⟩ = some (Value.slice A fa.length c) ∧ w'.cell? ⟨gx, 1, none⟩ = some (Value.slice A' ba.length c') ∧ w'.cell? ⟨gx, 2, none⟩ = some (S ra))
      (first
        | (exact ⟨rf, c0, c1, c2⟩)
        | (exact ⟨fun j v hv => (BB.cell (by show gx + 1 < w1.heap.size; omega)).trans (rf j v hv), (BB.cell (by show gx < w1.heap.size; omega)).trans c0, (BB.cell (by show gx < w1.heap.size; omega)).trans c1, (BB.cell (by show gx < w1.heap.size; omega)).trans c2⟩))
      (first
        | (go_at_call 36; refine (F1.out _ ?_).mono ?_; (exact HW.out.drew); rintro e w2 ⟨rfl, hbl⟩; have BB : Below w1.heap.size w1 w2 := ((Below.refl w1.heap.size w1).drew).trans hbl; clear hbl))
    have HXn := Lib.hid (HX.out.below BB (by omega))
    have HYn := Lib.hid (HY.out.below BB (by omega))
    have HZn := Lib.hid (HZ.out.below BB (by omega))
    have HWn := Lib.hid (HW.out.trans (BB.mono (by omega)))
    clear hu hi hlen h1c eqr rf c0 c1 c2 BB hzl hxl HX HY HZ HW
    have HX := HXn
    have HY := HYn
    have HZ := HZn
    have HW := HWn
    clear HXn HYn HZn HWn HEQ
    have x0 : w2.cell? ⟨gx, 0, none⟩ = some (Value.slice A fa.length c) := HX.out.cell 0
    have x1 : Hid (w2.cell? ⟨gx, 1, none⟩ = some (Value.slice A' ba.length c')) := Lib.hid (HX.out.cell 1)
    have d1 : w2.cell? ⟨gx + 1, 32, none⟩ = some (Value.slice B wf.length d) := (HY.out.cell 32).trans (by rw [List.getElem?_toArray]; exact D32c.out)
    go_wp2_with fail
    refine (done_any w2 A B c d fa wf (HLL.out _ _ _ HW.out HA.out) (HLL.out _ _ _ HW.out HB.out) (by omega) (by omega)).mono ?_
    intro e w5 hp
    obtain ⟨hm, hb5⟩ := hp
    have hzl := HZ.out.lt
    have HZL := Lib.hid hzl
    have HX5 := Lib.hid (HX.out.below hb5 HX.out.lt)
    have HY5 := Lib.hid (HY.out.below hb5 HY.out.lt)
    have HZ5 := Lib.hid (HZ.out.below hb5 HZ.out.lt)
    have HW5 := Lib.hid (HW.out.trans (hb5.mono (by omega)))
    clear hb5 x0 x1 d1 hzl HX HY HZ HW
    have HX := HX5
    have HY := HY5
    have HZ := HZ5
    have HW := HW5
    clear HX5 HY5 HZ5 HW5
    have SF := Lib.hid (doneL_size wf fa)
    have SB := Lib.hid (doneL_size wb ba)
    cases hd : doneL fa wf with
    | none =>
      have HQ : Hid (applyL fa ba ra F wf wb r T = (2, [], [], [])) := Lib.hid (by rw [HGO.out, hd])
      rw [hd] at hm
      subst hm
      clear hd
      have z0 : w5.cell? ⟨gx + 1 + 1, 0, none⟩ = some (Value.slice none 0 0) := HZ.out.cell 0
      have z1 : w5.cell? ⟨gx + 1 + 1, 1, none⟩ = some (Value.slice none 0 0) := HZ.out.cell 1
      have z2 : w5.cell? ⟨gx + 1 + 1, 2, none⟩ = some (S []) := HZ.out.cell 2
      have y0 := HZ.out.free 0
      have y1 := HZ.out.free 1
      have y2 := HZ.out.free 2
      go_wp2_with fail
      refine bodyPost_ret (v := .tuple #[.agg #[Value.slice none 0 0, Value.slice none 0 0, S []], .int .i64 2]) (by simp [results, Tryd.results19, go_sem, z0, z1, z2]) rfl ?_
      unfold ApplyPost
      rw [HQ.out, HGX.out]
      exact ⟨⟨none, 0, none, 0, rfl, Lies.none _ _ _, Lies.none _ _ _⟩, Below.set3 HW.out (by omega)⟩
    | some f =>
      rw [hd] at hm
      obtain ⟨v5, rfl, ho⟩ := hm
      obtain ⟨G, kg, rfl, hlies, hgb⟩ := own_shape ho (by omega)
      have NG : Hid (∀ ad, G = some ad → gx + 1 + 1 < ad.block) := Lib.hid (fun ad e => Nat.lt_of_lt_of_le HZL.out (hgb ad e))
      have sf := SF.out f hd
      have HD := Lib.hid hd
      have HGl := Lib.hid hlies
      have x1 : w5.cell? ⟨gx, 1, none⟩ = some (Value.slice A' ba.length c') := HX.out.cell 1
      have d2 : w5.cell? ⟨gx + 1, 33, none⟩ = some (Value.slice B' wb.length d') := (HY.out.cell 33).trans (by rw [List.getElem?_toArray]; exact D33c.out)
      clear hd ho hlies hgb HZL
      go_wp2_with fail
      refine (done_any w5 A' B' c' d' ba wb (HLL.out _ _ _ HW.out HA'.out) (HLL.out _ _ _ HW.out HB'.out) (by omega) (by omega)).mono ?_
      intro e w6 hp
      obtain ⟨hm, hb6⟩ := hp
      have hzl := HZ.out.lt
      have HZL := Lib.hid hzl
      have HX6 := Lib.hid (HX.out.below hb6 HX.out.lt)
      have HY6 := Lib.hid (HY.out.below hb6 HY.out.lt)
      have HZ6 := Lib.hid (HZ.out.below hb6 HZ.out.lt)
      have HW6 := Lib.hid (HW.out.trans (hb6.mono (by omega)))
      have HG6 := Lib.hid ((HGl.out.below hb6).wide hb6.size)
      clear hb6 x1 d2 hzl HX HY HZ HW HGl
      have HX := HX6
      have HY := HY6
      have HZ := HZ6
      have HW := HW6
      clear HX6 HY6 HZ6 HW6
      cases hd : doneL ba wb with
      | none =>
        have HQ : Hid (applyL fa ba ra F wf wb r T = (2, [], [], [])) := Lib.hid (by rw [HGO.out, HD.out]; dsimp only; rw [hd])
        rw [hd] at hm
        subst hm
        clear hd
        have z0 : w6.cell? ⟨gx + 1 + 1, 0, none⟩ = some (Value.slice none 0 0) := HZ.out.cell 0
        have z1 : w6.cell? ⟨gx + 1 + 1, 1, none⟩ = some (Value.slice none 0 0) := HZ.out.cell 1
        have z2 : w6.cell? ⟨gx + 1 + 1, 2, none⟩ = some (S []) := HZ.out.cell 2
        have y0 := HZ.out.free 0
        have y1 := HZ.out.free 1
        have y2 := HZ.out.free 2
        go_wp2_with fail
        refine bodyPost_ret (v := .tuple #[.agg #[Value.slice none 0 0, Value.slice none 0 0, S []], .int .i64 2]) (by simp [results, Tryd.results19, go_sem, z0, z1, z2]) rfl ?_
        unfold ApplyPost
        rw [HQ.out, HGX.out]
        exact ⟨⟨none, 0, none, 0, rfl, Lies.none _ _ _, Lies.none _ _ _⟩, Below.set3 HW.out (by omega)⟩
      | some b =>
        rw [hd] at hm
        obtain ⟨v6, rfl, ho⟩ := hm
        obtain ⟨G', kg', rfl, hlies, hgb⟩ := own_shape ho (by omega)
        have NG' : Hid (∀ ad, G' = some ad → gx + 1 + 1 < ad.block) := Lib.hid (fun ad e => Nat.lt_of_lt_of_le HZL.out (hgb ad e))
        have sb := SB.out b hd
        have HGO2 : Hid (applyL fa ba ra F wf wb r T = if dig (imgB f b r) = T then (0, f, b, r) else (23, [], [], [])) := Lib.hid (by rw [HGO.out, HD.out]; dsimp only; rw [hd])
        have HGl := Lib.hid hlies
        have d3 : w6.cell? ⟨gx + 1, 34, none⟩ = some (S r) := (HY.out.cell 34).trans (by rw [List.getElem?_toArray]; exact D34c.out)
        clear hd ho hlies hgb HZL
        go_wp2_with fail
        have hN := Whole.made w6 24 #[.slice G f.length kg, .slice G' b.length kg', S r]
        have hX7 := HX.out.block (.cells #[.slice G f.length kg, .slice G' b.length kg', S r] 24)
        have hY7 := HY.out.block (.cells #[.slice G f.length kg, .slice G' b.length kg', S r] 24)
        have hZ7 := HZ.out.block (.cells #[.slice G f.length kg, .slice G' b.length kg', S r] 24)
        have hW7 := HW.out.alloc (by have := HZ.out.lt; omega) (.cells #[.slice G f.length kg, .slice G' b.length kg', S r] 24)
        have hG7 := Lies.block' HG6.out (.cells #[.slice G f.length kg, .slice G' b.length kg', S r] 24)
        have hG7' := Lies.block' HGl.out (.cells #[.slice G f.length kg, .slice G' b.length kg', S r] 24)
        have hgn : gx + 1 + 1 < w6.heap.size := HZ.out.lt
        clear HX HY HZ HW HG6 HGl d3
        generalize w6.alloc (.cells #[.slice G f.length kg, .slice G' b.length kg', S r] 24) = w7 at *
        generalize w6.heap.size = gn at *
        have HX := Lib.hid hX7
        have HY := Lib.hid hY7
        have HZ := Lib.hid hZ7
        have HW := Lib.hid hW7
        have HN := Lib.hid hN
        have HG7 := Lib.hid hG7
        have HG7' := Lib.hid hG7'
        clear hX7 hY7 hZ7 hW7 hN hG7 hG7'
        have F3 : Hid (Calls Tryd.prog 36 #[.agg #[.slice G f.length kg, .slice G' b.length kg', S r]] w7.drew fun e w' => e = .returned (D32 (dig (imgB f b r))) ∧ Below w7.drew.heap.size w7.drew w') := Lib.hid (imgSum_any w7.drew G G' kg kg' f b r (HTW.out _ HW.out.drew) (Lies.draw HG7.out) (Lies.draw HG7'.out) (by omega))
        have D3L : Hid ((dig (imgB f b r)).length = 32) := Lib.hid (dig_length _)
        obtain ⟨D3, HD3⟩ : ∃ z, Hid (dig (imgB f b r) = z) := ⟨_, Lib.hid rfl⟩
        rw [HD3.out] at F3 D3L HGO2
        by_cases heq : D3 = T
        · have HEQ := Lib.hid heq
          have HQ : Hid (applyL fa ba ra F wf wb r T = (0, f, b, r)) := Lib.hid (by rw [HGO2.out, if_pos heq])
          clear heq
          have hu := Tryd.underlying29
          have hi : (Tryd.prog.info? 29).map (·.size) = some (T.map B8).length := by rw [List.length_map, HT32.out]; kernel_rfl
          have hlen : (T.map B8).length = 32 := by rw [List.length_map, HT32.out]
          have h1c := B8_one T
          have eqr : ∀ W : World, (Op.equalIn 10000 29 (D32 D3) (D32 T)).run Tryd.prog W = .ok true W := fun W => by rw [eqIn_D32 D3 T D3L.out HT32.out]; simp [HEQ.out]
          have rf := range_of HY.out 35 (T.map B8) CT.out
          have c0 : w7.cell? ⟨gn, 0, none⟩ = some (Value.slice G f.length kg) := HN.out.cell 0
          have c1 : w7.cell? ⟨gn, 1, none⟩ = some (Value.slice G' b.length kg') := HN.out.cell 1
          have c2 : w7.cell? ⟨gn, 2, none⟩ = some (S r) := HN.out.cell 2
          have hzl := HZ.out.lt
          have hxl := HN.out.lt
          go_region_held3 (fun w' => w'.rangeAt (gx + 1) 35 (T.map B8) ∧ w'.cell? ⟨gn, 0, none⟩ = some (Value.slice G f.length kg) ∧ w'.cell? ⟨gn, 1, none⟩ = some (Value.slice G' b.length kg') ∧ w'.cell? ⟨gn, 2, none⟩ = some (S r))
            (first
              | (exact ⟨rf, c0, c1, c2⟩)
              | (exact ⟨fun j v hv => (BB.cell (by show gx + 1 < w7.heap.size; omega)).trans (rf j v hv), (BB.cell (by show gn < w7.heap.size; omega)).trans c0, (BB.cell (by show gn < w7.heap.size; omega)).trans c1, (BB.cell (by show gn < w7.heap.size; omega)).trans c2⟩))
            (first
              | (go_at_call 36; refine F3.out.mono ?_; rintro e w8 ⟨rfl, hbl⟩; have BB : Below w7.heap.size w7 w8 := ((Below.refl w7.heap.size w7).drew).trans hbl; clear hbl))
          have HXn := Lib.hid (HN.out.below BB (by omega))
          have HYn := Lib.hid (HY.out.below BB (by omega))
          have HZn := Lib.hid (HZ.out.below BB (by omega))
          have HWn := Lib.hid (HW.out.trans (BB.mono (by omega)))
          have HG8 := Lib.hid (Lies.wide (Lies.below HG7.out BB) BB.size)
          have HG8' := Lib.hid (Lies.wide (Lies.below HG7'.out BB) BB.size)
          have n0 : w8.cell? ⟨gn, 0, none⟩ = some (Value.slice G f.length kg) := HXn.out.cell 0
          have n1 : w8.cell? ⟨gn, 1, none⟩ = some (Value.slice G' b.length kg') := HXn.out.cell 1
          have n2 : w8.cell? ⟨gn, 2, none⟩ = some (S r) := HXn.out.cell 2
          have z0 : w8.cell? ⟨gx + 1 + 1, 0, none⟩ = some (Value.slice none 0 0) := HZn.out.cell 0
          have z1 : w8.cell? ⟨gx + 1 + 1, 1, none⟩ = some (Value.slice none 0 0) := HZn.out.cell 1
          have z2 : w8.cell? ⟨gx + 1 + 1, 2, none⟩ = some (S []) := HZn.out.cell 2
          have y0 := HZn.out.free 0
          have y1 := HZn.out.free 1
          have y2 := HZn.out.free 2
          clear hu hi hlen h1c eqr rf c0 c1 c2 BB
          go_wp2_with fail
          refine bodyPost_ret (v := .tuple #[.agg #[.slice G f.length kg, .slice G' b.length kg', S r], .int .i64 0]) (by simp [results, Tryd.results19, go_sem, z0, z1, z2]) rfl ?_
          unfold ApplyPost
          rw [HQ.out, HGX.out]
          exact ⟨⟨G, kg, G', kg', rfl, lies_set3 HG8.out NG.out, lies_set3 HG8'.out NG'.out⟩, Below.set3 HWn.out (by omega)⟩
        · have HEQ : Hid ((D3 == T) = false) := Lib.hid (beq_eq_false_iff_ne.2 heq)
          have HQ : Hid (applyL fa ba ra F wf wb r T = (23, [], [], [])) := Lib.hid (by rw [HGO2.out, if_neg heq])
          clear heq
          have hu := Tryd.underlying29
          have hi : (Tryd.prog.info? 29).map (·.size) = some (T.map B8).length := by rw [List.length_map, HT32.out]; kernel_rfl
          have hlen : (T.map B8).length = 32 := by rw [List.length_map, HT32.out]
          have h1c := B8_one T
          have eqr : ∀ W : World, (Op.equalIn 10000 29 (D32 D3) (D32 T)).run Tryd.prog W = .ok false W := fun W => by rw [eqIn_D32 D3 T D3L.out HT32.out]; simp [HEQ.out]
          have rf := range_of HY.out 35 (T.map B8) CT.out
          have c0 : w7.cell? ⟨gn, 0, none⟩ = some (Value.slice G f.length kg) := HN.out.cell 0
          have c1 : w7.cell? ⟨gn, 1, none⟩ = some (Value.slice G' b.length kg') := HN.out.cell 1
          have c2 : w7.cell? ⟨gn, 2, none⟩ = some (S r) := HN.out.cell 2
          have hzl := HZ.out.lt
          have hxl := HN.out.lt
          go_region_held3 (fun w' => w'.rangeAt (gx + 1) 35 (T.map B8) ∧ w'.cell? ⟨gn, 0, none⟩ = some (Value.slice G f.length kg) ∧ w'.cell? ⟨gn, 1, none⟩ = some (Value.slice G' b.length kg') ∧ w'.cell? ⟨gn, 2, none⟩ = some (S r))
            (first
              | (exact ⟨rf, c0, c1, c2⟩)
              | (exact ⟨fun j v hv => (BB.cell (by show gx + 1 < w7.heap.size; omega)).trans (rf j v hv), (BB.cell (by show gn < w7.heap.size; omega)).trans c0, (BB.cell (by show gn < w7.heap.size; omega)).trans c1, (BB.cell (by show gn < w7.heap.size; omega)).trans c2⟩))
            (first
              | (go_at_call 36; refine F3.out.mono ?_; rintro e w8 ⟨rfl, hbl⟩; have BB : Below w7.heap.size w7 w8 := ((Below.refl w7.heap.size w7).drew).trans hbl; clear hbl))
          have HXn := Lib.hid (HN.out.below BB (by omega))
          have HYn := Lib.hid (HY.out.below BB (by omega))
          have HZn := Lib.hid (HZ.out.below BB (by omega))
          have HWn := Lib.hid (HW.out.trans (BB.mono (by omega)))
          clear hu hi hlen h1c eqr rf c0 c1 c2 BB hzl hxl HX HY HZ HW
          have HY := HYn
          have HZ := HZn
          have HW := HWn
          clear HYn HZn HWn HEQ
          have z0 : w8.cell? ⟨gx + 1 + 1, 0, none⟩ = some (Value.slice none 0 0) := HZ.out.cell 0
          have z1 : w8.cell? ⟨gx + 1 + 1, 1, none⟩ = some (Value.slice none 0 0) := HZ.out.cell 1
          have z2 : w8.cell? ⟨gx + 1 + 1, 2, none⟩ = some (S []) := HZ.out.cell 2
          have y0 := HZ.out.free 0
          have y1 := HZ.out.free 1
          have y2 := HZ.out.free 2
          go_wp2_with fail
          refine bodyPost_ret (v := .tuple #[.agg #[Value.slice none 0 0, Value.slice none 0 0, S []], .int .i64 23]) (by simp [results, Tryd.results19, go_sem, z0, z1, z2]) rfl ?_
          unfold ApplyPost
          rw [HQ.out, HGX.out]
          exact ⟨⟨none, 0, none, 0, rfl, Lies.none _ _ _, Lies.none _ _ _⟩, Below.set3 HW.out (by omega)⟩
  · have HEQ : Hid ((DA == F) = false) := Lib.hid (beq_eq_false_iff_ne.2 heq)
    have HNE := Lib.hid heq
    clear heq HGA
    have hu := Tryd.underlying29
    have hi : (Tryd.prog.info? 29).map (·.size) = some (F.map B8).length := by rw [List.length_map, HF.out]; kernel_rfl
    have hlen : (F.map B8).length = 32 := by rw [List.length_map, HF.out]
    have h1c := B8_one F
    have eqr : ∀ W : World, (Op.equalIn 10000 29 (D32 DA) (D32 F)).run Tryd.prog W = .ok false W := fun W => by rw [eqIn_D32 DA F D1L.out HF.out]; simp [HEQ.out]
    have rf := range_of HY.out 0 (F.map B8) CF.out
    have c0 : w1.cell? ⟨gx, 0, none⟩ = some (Value.slice A fa.length c) := HX.out.cell 0
    have c1 : w1.cell? ⟨gx, 1, none⟩ = some (Value.slice A' ba.length c') := HX.out.cell 1
    have c2 : w1.cell? ⟨gx, 2, none⟩ = some (S ra) := HX.out.cell 2
    have hzl := HZ.out.lt
    have hxl := HX.out.lt
    go_region_held3 (fun w' => w'.rangeAt (gx + 1) 0 (F.map B8) ∧ w'.cell? ⟨gx, 0, none⟩ = some (Value.slice A fa.length c) ∧ w'.cell? ⟨gx, 1, none⟩ = some (Value.slice A' ba.length c') ∧ w'.cell? ⟨gx, 2, none⟩ = some (S ra))
      (first
        | (exact ⟨rf, c0, c1, c2⟩)
        | (exact ⟨fun j v hv => (BB.cell (by show gx + 1 < w1.heap.size; omega)).trans (rf j v hv), (BB.cell (by show gx < w1.heap.size; omega)).trans c0, (BB.cell (by show gx < w1.heap.size; omega)).trans c1, (BB.cell (by show gx < w1.heap.size; omega)).trans c2⟩))
      (first
        | (go_at_call 36; refine (F1.out _ ?_).mono ?_; (exact HW.out.drew); rintro e w2 ⟨rfl, hbl⟩; have BB : Below w1.heap.size w1 w2 := ((Below.refl w1.heap.size w1).drew).trans hbl; clear hbl))
    have HXn := Lib.hid (HX.out.below BB (by omega))
    have HYn := Lib.hid (HY.out.below BB (by omega))
    have HZn := Lib.hid (HZ.out.below BB (by omega))
    have HWn := Lib.hid (HW.out.trans (BB.mono (by omega)))
    clear hu hi hlen h1c eqr rf c0 c1 c2 BB hzl hxl HX HY HZ HW
    have HX := HXn
    have HY := HYn
    have HZ := HZn
    have HW := HWn
    clear HXn HYn HZn HWn HEQ
    have x0 : w2.cell? ⟨gx, 0, none⟩ = some (Value.slice A fa.length c) := HX.out.cell 0
    have x1 : w2.cell? ⟨gx, 1, none⟩ = some (Value.slice A' ba.length c') := HX.out.cell 1
    have x2 : w2.cell? ⟨gx, 2, none⟩ = some (S ra) := HX.out.cell 2
    have e0 := HX.out.free 0
    have e1 := HX.out.free 1
    have e2 := HX.out.free 2
    go_upto_region 3 with (fail)
    have HX3 := Lib.hid (HX.out.set3 (a' := Value.slice none 0 0) (b' := Value.slice none 0 0) (c' := S []))
    have HY3 := Lib.hid (HY.out.far3 (p := gx) (a' := Value.slice none 0 0) (b' := Value.slice none 0 0) (c' := S []) (by omega))
    have HZ3 := Lib.hid (HZ.out.far3 (p := gx) (a' := Value.slice none 0 0) (b' := Value.slice none 0 0) (c' := S []) (by omega))
    have HW3 := Lib.hid (Below.set3 (p := gx) (a' := Value.slice none 0 0) (b' := Value.slice none 0 0) (c' := S []) HW.out (Nat.le_refl _))
    clear x0 x1 x2 e0 e1 e2 HX HY HZ HW
    change Code.wp _ _ _ _ (((w2.setCell ⟨gx, 0, none⟩ (Value.slice none 0 0)).setCell ⟨gx, 1, none⟩ (Value.slice none 0 0)).setCell ⟨gx, 2, none⟩ (S []))
    generalize ((w2.setCell ⟨gx, 0, none⟩ (Value.slice none 0 0)).setCell ⟨gx, 1, none⟩ (Value.slice none 0 0)).setCell ⟨gx, 2, none⟩ (S []) = w3 at *
    have HX := HX3
    have HY := HY3
    have HZ := HZ3
    have HW := HW3
    clear HX3 HY3 HZ3 HW3
    have F2 : Hid (∀ W : World, Below gx w W → Calls Tryd.prog 36 #[.agg #[.slice none 0 0, .slice none 0 0, S []]] W fun e w' => e = .returned (D32 (dig (imgB [] [] []))) ∧ Below W.heap.size W w') := Lib.hid fun W hW => imgSum_any W none none 0 0 [] [] [] (HTW.out W hW) (Lies.none _ _ _) (Lies.none _ _ _) (by simp [sizeOf])
    have D2L : Hid ((dig (imgB [] [] [])).length = 32) := Lib.hid (dig_length _)
    obtain ⟨DE, HDE⟩ : ∃ z, Hid (dig (imgB [] [] []) = z) := ⟨_, Lib.hid rfl⟩
    rw [HDE.out] at F2 D2L HGB HGC
    by_cases heq : DE = F
    · have HEQ := Lib.hid heq
      have HGO := Lib.hid (HGB.out HNE.out heq)
      clear heq HGB HGC HNE
      have hu := Tryd.underlying29
      have hi : (Tryd.prog.info? 29).map (·.size) = some (F.map B8).length := by rw [List.length_map, HF.out]; kernel_rfl
      have hlen : (F.map B8).length = 32 := by rw [List.length_map, HF.out]
      have h1c := B8_one F
      have eqr : ∀ W : World, (Op.equalIn 10000 29 (D32 DE) (D32 F)).run Tryd.prog W = .ok true W := fun W => by rw [eqIn_D32 DE F D2L.out HF.out]; simp [HEQ.out]
      have rf := range_of HY.out 0 (F.map B8) CF.out
      have c0 : w3.cell? ⟨gx, 0, none⟩ = some (Value.slice none 0 0) := HX.out.cell 0
      have c1 : w3.cell? ⟨gx, 1, none⟩ = some (Value.slice none 0 0) := HX.out.cell 1
      have c2 : w3.cell? ⟨gx, 2, none⟩ = some (S []) := HX.out.cell 2
      have hzl := HZ.out.lt
      have hxl := HX.out.lt
      go_region_held3 (fun w' => w'.rangeAt (gx + 1) 0 (F.map B8) ∧ w'.cell? ⟨gx, 0, none⟩ = some (Value.slice none 0 0) ∧ w'.cell? ⟨gx, 1, none⟩ = some (Value.slice none 0 0) ∧ w'.cell? ⟨gx, 2, none⟩ = some (S []))
        (first
          | (exact ⟨rf, c0, c1, c2⟩)
          | (exact ⟨fun j v hv => (BB.cell (by show gx + 1 < w3.heap.size; omega)).trans (rf j v hv), (BB.cell (by show gx < w3.heap.size; omega)).trans c0, (BB.cell (by show gx < w3.heap.size; omega)).trans c1, (BB.cell (by show gx < w3.heap.size; omega)).trans c2⟩))
        (first
          | (go_at_call 36; refine (F2.out _ ?_).mono ?_; (exact HW.out.drew); rintro e w4 ⟨rfl, hbl⟩; have BB : Below w3.heap.size w3 w4 := ((Below.refl w3.heap.size w3).drew).trans hbl; clear hbl))
      have HXn := Lib.hid (HX.out.below BB (by omega))
      have HYn := Lib.hid (HY.out.below BB (by omega))
      have HZn := Lib.hid (HZ.out.below BB (by omega))
      have HWn := Lib.hid (HW.out.trans (BB.mono (by omega)))
      clear hu hi hlen h1c eqr rf c0 c1 c2 BB hzl hxl HX HY HZ HW
      have HX := HXn
      have HY := HYn
      have HZ := HZn
      have HW := HWn
      clear HXn HYn HZn HWn HEQ
      have x0 : w4.cell? ⟨gx, 0, none⟩ = some (Value.slice none 0 0) := HX.out.cell 0
      have x1 : Hid (w4.cell? ⟨gx, 1, none⟩ = some (Value.slice none 0 0)) := Lib.hid (HX.out.cell 1)
      have d1 : w4.cell? ⟨gx + 1, 32, none⟩ = some (Value.slice B wf.length d) := (HY.out.cell 32).trans (by rw [List.getElem?_toArray]; exact D32c.out)
      go_wp2_with fail
      refine (done_any w4 none B 0 d ([] : List (List UInt8)) wf (Lies.none _ _ _) (HLL.out _ _ _ HW.out HB.out) (by simp) (by omega)).mono ?_
      intro e w5 hp
      obtain ⟨hm, hb5⟩ := hp
      have hzl := HZ.out.lt
      have HZL := Lib.hid hzl
      have HX5 := Lib.hid (HX.out.below hb5 HX.out.lt)
      have HY5 := Lib.hid (HY.out.below hb5 HY.out.lt)
      have HZ5 := Lib.hid (HZ.out.below hb5 HZ.out.lt)
      have HW5 := Lib.hid (HW.out.trans (hb5.mono (by omega)))
      clear hb5 x0 x1 d1 hzl HX HY HZ HW
      have HX := HX5
      have HY := HY5
      have HZ := HZ5
      have HW := HW5
      clear HX5 HY5 HZ5 HW5
      have SF := Lib.hid (doneL_size wf ([] : List (List UInt8)))
      have SB := Lib.hid (doneL_size wb ([] : List (List UInt8)))
      cases hd : doneL ([] : List (List UInt8)) wf with
      | none =>
        have HQ : Hid (applyL fa ba ra F wf wb r T = (2, [], [], [])) := Lib.hid (by rw [HGO.out, hd])
        rw [hd] at hm
        subst hm
        clear hd
        have z0 : w5.cell? ⟨gx + 1 + 1, 0, none⟩ = some (Value.slice none 0 0) := HZ.out.cell 0
        have z1 : w5.cell? ⟨gx + 1 + 1, 1, none⟩ = some (Value.slice none 0 0) := HZ.out.cell 1
        have z2 : w5.cell? ⟨gx + 1 + 1, 2, none⟩ = some (S []) := HZ.out.cell 2
        have y0 := HZ.out.free 0
        have y1 := HZ.out.free 1
        have y2 := HZ.out.free 2
        go_wp2_with fail
        refine bodyPost_ret (v := .tuple #[.agg #[Value.slice none 0 0, Value.slice none 0 0, S []], .int .i64 2]) (by simp [results, Tryd.results19, go_sem, z0, z1, z2]) rfl ?_
        unfold ApplyPost
        rw [HQ.out, HGX.out]
        exact ⟨⟨none, 0, none, 0, rfl, Lies.none _ _ _, Lies.none _ _ _⟩, Below.set3 HW.out (by omega)⟩
      | some f =>
        rw [hd] at hm
        obtain ⟨v5, rfl, ho⟩ := hm
        obtain ⟨G, kg, rfl, hlies, hgb⟩ := own_shape ho (by omega)
        have NG : Hid (∀ ad, G = some ad → gx + 1 + 1 < ad.block) := Lib.hid (fun ad e => Nat.lt_of_lt_of_le HZL.out (hgb ad e))
        have sf := SF.out f hd
        have HD := Lib.hid hd
        have HGl := Lib.hid hlies
        have x1 : w5.cell? ⟨gx, 1, none⟩ = some (Value.slice none 0 0) := HX.out.cell 1
        have d2 : w5.cell? ⟨gx + 1, 33, none⟩ = some (Value.slice B' wb.length d') := (HY.out.cell 33).trans (by rw [List.getElem?_toArray]; exact D33c.out)
        clear hd ho hlies hgb HZL
        go_wp2_with fail
        refine (done_any w5 none B' 0 d' ([] : List (List UInt8)) wb (Lies.none _ _ _) (HLL.out _ _ _ HW.out HB'.out) (by simp) (by omega)).mono ?_
        intro e w6 hp
        obtain ⟨hm, hb6⟩ := hp
        have hzl := HZ.out.lt
        have HZL := Lib.hid hzl
        have HX6 := Lib.hid (HX.out.below hb6 HX.out.lt)
        have HY6 := Lib.hid (HY.out.below hb6 HY.out.lt)
        have HZ6 := Lib.hid (HZ.out.below hb6 HZ.out.lt)
        have HW6 := Lib.hid (HW.out.trans (hb6.mono (by omega)))
        have HG6 := Lib.hid ((HGl.out.below hb6).wide hb6.size)
        clear hb6 x1 d2 hzl HX HY HZ HW HGl
        have HX := HX6
        have HY := HY6
        have HZ := HZ6
        have HW := HW6
        clear HX6 HY6 HZ6 HW6
        cases hd : doneL ([] : List (List UInt8)) wb with
        | none =>
          have HQ : Hid (applyL fa ba ra F wf wb r T = (2, [], [], [])) := Lib.hid (by rw [HGO.out, HD.out]; dsimp only; rw [hd])
          rw [hd] at hm
          subst hm
          clear hd
          have z0 : w6.cell? ⟨gx + 1 + 1, 0, none⟩ = some (Value.slice none 0 0) := HZ.out.cell 0
          have z1 : w6.cell? ⟨gx + 1 + 1, 1, none⟩ = some (Value.slice none 0 0) := HZ.out.cell 1
          have z2 : w6.cell? ⟨gx + 1 + 1, 2, none⟩ = some (S []) := HZ.out.cell 2
          have y0 := HZ.out.free 0
          have y1 := HZ.out.free 1
          have y2 := HZ.out.free 2
          go_wp2_with fail
          refine bodyPost_ret (v := .tuple #[.agg #[Value.slice none 0 0, Value.slice none 0 0, S []], .int .i64 2]) (by simp [results, Tryd.results19, go_sem, z0, z1, z2]) rfl ?_
          unfold ApplyPost
          rw [HQ.out, HGX.out]
          exact ⟨⟨none, 0, none, 0, rfl, Lies.none _ _ _, Lies.none _ _ _⟩, Below.set3 HW.out (by omega)⟩
        | some b =>
          rw [hd] at hm
          obtain ⟨v6, rfl, ho⟩ := hm
          obtain ⟨G', kg', rfl, hlies, hgb⟩ := own_shape ho (by omega)
          have NG' : Hid (∀ ad, G' = some ad → gx + 1 + 1 < ad.block) := Lib.hid (fun ad e => Nat.lt_of_lt_of_le HZL.out (hgb ad e))
          have sb := SB.out b hd
          have HGO2 : Hid (applyL fa ba ra F wf wb r T = if dig (imgB f b r) = T then (0, f, b, r) else (23, [], [], [])) := Lib.hid (by rw [HGO.out, HD.out]; dsimp only; rw [hd])
          have HGl := Lib.hid hlies
          have d3 : w6.cell? ⟨gx + 1, 34, none⟩ = some (S r) := (HY.out.cell 34).trans (by rw [List.getElem?_toArray]; exact D34c.out)
          clear hd ho hlies hgb HZL
          go_wp2_with fail
          have hN := Whole.made w6 24 #[.slice G f.length kg, .slice G' b.length kg', S r]
          have hX7 := HX.out.block (.cells #[.slice G f.length kg, .slice G' b.length kg', S r] 24)
          have hY7 := HY.out.block (.cells #[.slice G f.length kg, .slice G' b.length kg', S r] 24)
          have hZ7 := HZ.out.block (.cells #[.slice G f.length kg, .slice G' b.length kg', S r] 24)
          have hW7 := HW.out.alloc (by have := HZ.out.lt; omega) (.cells #[.slice G f.length kg, .slice G' b.length kg', S r] 24)
          have hG7 := Lies.block' HG6.out (.cells #[.slice G f.length kg, .slice G' b.length kg', S r] 24)
          have hG7' := Lies.block' HGl.out (.cells #[.slice G f.length kg, .slice G' b.length kg', S r] 24)
          have hgn : gx + 1 + 1 < w6.heap.size := HZ.out.lt
          clear HX HY HZ HW HG6 HGl d3
          generalize w6.alloc (.cells #[.slice G f.length kg, .slice G' b.length kg', S r] 24) = w7 at *
          generalize w6.heap.size = gn at *
          have HX := Lib.hid hX7
          have HY := Lib.hid hY7
          have HZ := Lib.hid hZ7
          have HW := Lib.hid hW7
          have HN := Lib.hid hN
          have HG7 := Lib.hid hG7
          have HG7' := Lib.hid hG7'
          clear hX7 hY7 hZ7 hW7 hN hG7 hG7'
          have F3 : Hid (Calls Tryd.prog 36 #[.agg #[.slice G f.length kg, .slice G' b.length kg', S r]] w7.drew fun e w' => e = .returned (D32 (dig (imgB f b r))) ∧ Below w7.drew.heap.size w7.drew w') := Lib.hid (imgSum_any w7.drew G G' kg kg' f b r (HTW.out _ HW.out.drew) (Lies.draw HG7.out) (Lies.draw HG7'.out) (by omega))
          have D3L : Hid ((dig (imgB f b r)).length = 32) := Lib.hid (dig_length _)
          obtain ⟨D3, HD3⟩ : ∃ z, Hid (dig (imgB f b r) = z) := ⟨_, Lib.hid rfl⟩
          rw [HD3.out] at F3 D3L HGO2
          by_cases heq : D3 = T
          · have HEQ := Lib.hid heq
            have HQ : Hid (applyL fa ba ra F wf wb r T = (0, f, b, r)) := Lib.hid (by rw [HGO2.out, if_pos heq])
            clear heq
            have hu := Tryd.underlying29
            have hi : (Tryd.prog.info? 29).map (·.size) = some (T.map B8).length := by rw [List.length_map, HT32.out]; kernel_rfl
            have hlen : (T.map B8).length = 32 := by rw [List.length_map, HT32.out]
            have h1c := B8_one T
            have eqr : ∀ W : World, (Op.equalIn 10000 29 (D32 D3) (D32 T)).run Tryd.prog W = .ok true W := fun W => by rw [eqIn_D32 D3 T D3L.out HT32.out]; simp [HEQ.out]
            have rf := range_of HY.out 35 (T.map B8) CT.out
            have c0 : w7.cell? ⟨gn, 0, none⟩ = some (Value.slice G f.length kg) := HN.out.cell 0
            have c1 : w7.cell? ⟨gn, 1, none⟩ = some (Value.slice G' b.length kg') := HN.out.cell 1
            have c2 : w7.cell? ⟨gn, 2, none⟩ = some (S r) := HN.out.cell 2
            have hzl := HZ.out.lt
            have hxl := HN.out.lt
            go_region_held3 (fun w' => w'.rangeAt (gx + 1) 35 (T.map B8) ∧ w'.cell? ⟨gn, 0, none⟩ = some (Value.slice G f.length kg) ∧ w'.cell? ⟨gn, 1, none⟩ = some (Value.slice G' b.length kg') ∧ w'.cell? ⟨gn, 2, none⟩ = some (S r))
              (first
                | (exact ⟨rf, c0, c1, c2⟩)
                | (exact ⟨fun j v hv => (BB.cell (by show gx + 1 < w7.heap.size; omega)).trans (rf j v hv), (BB.cell (by show gn < w7.heap.size; omega)).trans c0, (BB.cell (by show gn < w7.heap.size; omega)).trans c1, (BB.cell (by show gn < w7.heap.size; omega)).trans c2⟩))
              (first
                | (go_at_call 36; refine F3.out.mono ?_; rintro e w8 ⟨rfl, hbl⟩; have BB : Below w7.heap.size w7 w8 := ((Below.refl w7.heap.size w7).drew).trans hbl; clear hbl))
            have HXn := Lib.hid (HN.out.below BB (by omega))
            have HYn := Lib.hid (HY.out.below BB (by omega))
            have HZn := Lib.hid (HZ.out.below BB (by omega))
            have HWn := Lib.hid (HW.out.trans (BB.mono (by omega)))
            have HG8 := Lib.hid (Lies.wide (Lies.below HG7.out BB) BB.size)
            have HG8' := Lib.hid (Lies.wide (Lies.below HG7'.out BB) BB.size)
            have n0 : w8.cell? ⟨gn, 0, none⟩ = some (Value.slice G f.length kg) := HXn.out.cell 0
            have n1 : w8.cell? ⟨gn, 1, none⟩ = some (Value.slice G' b.length kg') := HXn.out.cell 1
            have n2 : w8.cell? ⟨gn, 2, none⟩ = some (S r) := HXn.out.cell 2
            have z0 : w8.cell? ⟨gx + 1 + 1, 0, none⟩ = some (Value.slice none 0 0) := HZn.out.cell 0
            have z1 : w8.cell? ⟨gx + 1 + 1, 1, none⟩ = some (Value.slice none 0 0) := HZn.out.cell 1
            have z2 : w8.cell? ⟨gx + 1 + 1, 2, none⟩ = some (S []) := HZn.out.cell 2
            have y0 := HZn.out.free 0
            have y1 := HZn.out.free 1
            have y2 := HZn.out.free 2
            clear hu hi hlen h1c eqr rf c0 c1 c2 BB
            go_wp2_with fail
            refine bodyPost_ret (v := .tuple #[.agg #[.slice G f.length kg, .slice G' b.length kg', S r], .int .i64 0]) (by simp [results, Tryd.results19, go_sem, z0, z1, z2]) rfl ?_
            unfold ApplyPost
            rw [HQ.out, HGX.out]
            exact ⟨⟨G, kg, G', kg', rfl, lies_set3 HG8.out NG.out, lies_set3 HG8'.out NG'.out⟩, Below.set3 HWn.out (by omega)⟩
          · have HEQ : Hid ((D3 == T) = false) := Lib.hid (beq_eq_false_iff_ne.2 heq)
            have HQ : Hid (applyL fa ba ra F wf wb r T = (23, [], [], [])) := Lib.hid (by rw [HGO2.out, if_neg heq])
            clear heq
            have hu := Tryd.underlying29
            have hi : (Tryd.prog.info? 29).map (·.size) = some (T.map B8).length := by rw [List.length_map, HT32.out]; kernel_rfl
            have hlen : (T.map B8).length = 32 := by rw [List.length_map, HT32.out]
            have h1c := B8_one T
            have eqr : ∀ W : World, (Op.equalIn 10000 29 (D32 D3) (D32 T)).run Tryd.prog W = .ok false W := fun W => by rw [eqIn_D32 D3 T D3L.out HT32.out]; simp [HEQ.out]
            have rf := range_of HY.out 35 (T.map B8) CT.out
            have c0 : w7.cell? ⟨gn, 0, none⟩ = some (Value.slice G f.length kg) := HN.out.cell 0
            have c1 : w7.cell? ⟨gn, 1, none⟩ = some (Value.slice G' b.length kg') := HN.out.cell 1
            have c2 : w7.cell? ⟨gn, 2, none⟩ = some (S r) := HN.out.cell 2
            have hzl := HZ.out.lt
            have hxl := HN.out.lt
            go_region_held3 (fun w' => w'.rangeAt (gx + 1) 35 (T.map B8) ∧ w'.cell? ⟨gn, 0, none⟩ = some (Value.slice G f.length kg) ∧ w'.cell? ⟨gn, 1, none⟩ = some (Value.slice G' b.length kg') ∧ w'.cell? ⟨gn, 2, none⟩ = some (S r))
              (first
                | (exact ⟨rf, c0, c1, c2⟩)
                | (exact ⟨fun j v hv => (BB.cell (by show gx + 1 < w7.heap.size; omega)).trans (rf j v hv), (BB.cell (by show gn < w7.heap.size; omega)).trans c0, (BB.cell (by show gn < w7.heap.size; omega)).trans c1, (BB.cell (by show gn < w7.heap.size; omega)).trans c2⟩))
              (first
                | (go_at_call 36; refine F3.out.mono ?_; rintro e w8 ⟨rfl, hbl⟩; have BB : Below w7.heap.size w7 w8 := ((Below.refl w7.heap.size w7).drew).trans hbl; clear hbl))
            have HXn := Lib.hid (HN.out.below BB (by omega))
            have HYn := Lib.hid (HY.out.below BB (by omega))
            have HZn := Lib.hid (HZ.out.below BB (by omega))
            have HWn := Lib.hid (HW.out.trans (BB.mono (by omega)))
            clear hu hi hlen h1c eqr rf c0 c1 c2 BB hzl hxl HX HY HZ HW
            have HY := HYn
            have HZ := HZn
            have HW := HWn
            clear HYn HZn HWn HEQ
            have z0 : w8.cell? ⟨gx + 1 + 1, 0, none⟩ = some (Value.slice none 0 0) := HZ.out.cell 0
            have z1 : w8.cell? ⟨gx + 1 + 1, 1, none⟩ = some (Value.slice none 0 0) := HZ.out.cell 1
            have z2 : w8.cell? ⟨gx + 1 + 1, 2, none⟩ = some (S []) := HZ.out.cell 2
            have y0 := HZ.out.free 0
            have y1 := HZ.out.free 1
            have y2 := HZ.out.free 2
            go_wp2_with fail
            refine bodyPost_ret (v := .tuple #[.agg #[Value.slice none 0 0, Value.slice none 0 0, S []], .int .i64 23]) (by simp [results, Tryd.results19, go_sem, z0, z1, z2]) rfl ?_
            unfold ApplyPost
            rw [HQ.out, HGX.out]
            exact ⟨⟨none, 0, none, 0, rfl, Lies.none _ _ _, Lies.none _ _ _⟩, Below.set3 HW.out (by omega)⟩
    · have HEQ : Hid ((DE == F) = false) := Lib.hid (beq_eq_false_iff_ne.2 heq)
      have HQ := Lib.hid (HGC.out HNE.out heq)
      clear heq HGB HGC HNE
      have hu := Tryd.underlying29
      have hi : (Tryd.prog.info? 29).map (·.size) = some (F.map B8).length := by rw [List.length_map, HF.out]; kernel_rfl
      have hlen : (F.map B8).length = 32 := by rw [List.length_map, HF.out]
      have h1c := B8_one F
      have eqr : ∀ W : World, (Op.equalIn 10000 29 (D32 DE) (D32 F)).run Tryd.prog W = .ok false W := fun W => by rw [eqIn_D32 DE F D2L.out HF.out]; simp [HEQ.out]
      have rf := range_of HY.out 0 (F.map B8) CF.out
      have c0 : w3.cell? ⟨gx, 0, none⟩ = some (Value.slice none 0 0) := HX.out.cell 0
      have c1 : w3.cell? ⟨gx, 1, none⟩ = some (Value.slice none 0 0) := HX.out.cell 1
      have c2 : w3.cell? ⟨gx, 2, none⟩ = some (S []) := HX.out.cell 2
      have hzl := HZ.out.lt
      have hxl := HX.out.lt
      go_region_held3 (fun w' => w'.rangeAt (gx + 1) 0 (F.map B8) ∧ w'.cell? ⟨gx, 0, none⟩ = some (Value.slice none 0 0) ∧ w'.cell? ⟨gx, 1, none⟩ = some (Value.slice none 0 0) ∧ w'.cell? ⟨gx, 2, none⟩ = some (S []))
        (first
          | (exact ⟨rf, c0, c1, c2⟩)
          | (exact ⟨fun j v hv => (BB.cell (by show gx + 1 < w3.heap.size; omega)).trans (rf j v hv), (BB.cell (by show gx < w3.heap.size; omega)).trans c0, (BB.cell (by show gx < w3.heap.size; omega)).trans c1, (BB.cell (by show gx < w3.heap.size; omega)).trans c2⟩))
        (first
          | (go_at_call 36; refine (F2.out _ ?_).mono ?_; (exact HW.out.drew); rintro e w4 ⟨rfl, hbl⟩; have BB : Below w3.heap.size w3 w4 := ((Below.refl w3.heap.size w3).drew).trans hbl; clear hbl))
      have HXn := Lib.hid (HX.out.below BB (by omega))
      have HYn := Lib.hid (HY.out.below BB (by omega))
      have HZn := Lib.hid (HZ.out.below BB (by omega))
      have HWn := Lib.hid (HW.out.trans (BB.mono (by omega)))
      clear hu hi hlen h1c eqr rf c0 c1 c2 BB hzl hxl HX HY HZ HW
      have HX := HXn
      have HY := HYn
      have HZ := HZn
      have HW := HWn
      clear HXn HYn HZn HWn HEQ
      have z0 : w4.cell? ⟨gx + 1 + 1, 0, none⟩ = some (Value.slice none 0 0) := HZ.out.cell 0
      have z1 : w4.cell? ⟨gx + 1 + 1, 1, none⟩ = some (Value.slice none 0 0) := HZ.out.cell 1
      have z2 : w4.cell? ⟨gx + 1 + 1, 2, none⟩ = some (S []) := HZ.out.cell 2
      have y0 := HZ.out.free 0
      have y1 := HZ.out.free 1
      have y2 := HZ.out.free 2
      go_wp2_with fail
      refine bodyPost_ret (v := .tuple #[.agg #[Value.slice none 0 0, Value.slice none 0 0, S []], .int .i64 23]) (by simp [results, Tryd.results19, go_sem, z0, z1, z2]) rfl ?_
      unfold ApplyPost
      rw [HQ.out, HGX.out]
      exact ⟨⟨none, 0, none, 0, rfl, Lies.none _ _ _, Lies.none _ _ _⟩, Below.set3 HW.out (by omega)⟩
end Go.Proofs.YtecamaceainfpaaDoor
