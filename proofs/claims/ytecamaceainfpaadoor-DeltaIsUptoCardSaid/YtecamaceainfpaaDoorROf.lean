/-
  Walk: hibernacleref35.Of. (Printed by gen_rof.py.)
-/
import Derived.Test.YtecamaceainfpaaDoorOf
import Derived.Test.YtecamaceainfpaaDoorROthers
import Derived.Test.YtecamaceainfpaaDoorRSum
namespace Go.Proofs.YtecamaceainfpaaDoor
open Go.RowKit

theorem rothers_lies (w : World) (A A' : Option Addr) (c c' : Nat) (a b : List (List UInt8)) (hA : Strs w w.heap.size A a) (hA' : Strs w w.heap.size A' b) (ha : a.length ≤ 1099511627776) (hb : b.length ≤ 1099511627776) :
    Calls Tryd.prog 42 #[.slice A a.length c, .slice A' b.length c'] w fun e w' => (∃ G k, e = .returned (.slice G (othersTo a b b.length).length k) ∧ Lies w' w'.heap.size G (wCells (othersTo a b b.length)) ∧ ∀ ad, G = some ad → w.heap.size ≤ ad.block) ∧ Below w.heap.size w w' :=
  (rothers_any w A A' c c' a b hA hA' ha hb).mono fun e w' ⟨⟨v, he, ho⟩, hbl⟩ => by
    obtain ⟨G, k, rfl, hl, hge⟩ := own_shape ho (by omega)
    exact ⟨⟨G, k, he, hl, hge⟩, hbl⟩

attribute [local go_sem] foldl_size foldl_size0 zero32
set_option maxRecDepth 100000 in
set_option maxHeartbeats 2000000 in
theorem rof_any (w : World) (A A' B B' : Option Addr) (c c' d d' : Nat) (fa ba fb bb : List (List UInt8)) (ra rb : List UInt8) (hA : Strs w w.heap.size A fa) (hA' : Strs w w.heap.size A' ba) (hB : Strs w w.heap.size B fb) (hB' : Strs w w.heap.size B' bb)
    (hs : sizeOf fa + sizeOf ba + ra.length ≤ 4294967296) (hs' : sizeOf fb + sizeOf bb + rb.length ≤ 4294967296) :
    Calls Tryd.prog 16 #[.agg #[.slice A fa.length c, .slice A' ba.length c', S ra], .agg #[.slice B fb.length d, .slice B' bb.length d', S rb]] w (OfPost w fa ba fb bb ra rb) := by
  have HA := Lib.hid hA
  have HA' := Lib.hid hA'
  have HB := Lib.hid hB
  have HB' := Lib.hid hB'
  clear hA hA' hB hB'
  have la := length_le_sizeOf fa
  have la' := length_le_sizeOf ba
  have lb := length_le_sizeOf fb
  have lb' := length_le_sizeOf bb
  by_cases h1 : fb.length < fa.length
  · have d1 : decide (fb.length < fa.length) = true := by simpa using h1
    have hless : less fa ba fb bb = true := by simp [less, h1]
    have HL := Lib.hid hless
    clear hless
    go_enter Tryd.func16, Tryd.ntmps16
    go_wp2_with fail
    have hx := (Whole.made w 24 #[Value.slice none 0 0, Value.slice none 0 0, S []]).block (.cells #[.slice B fb.length d, .slice B' bb.length d', S rb] 24) |>.block (.cells Tryd.zeroCells32 32)
    have hy := (Whole.made (w.alloc (.cells #[Value.slice none 0 0, Value.slice none 0 0, S []] 24)) 24 #[.slice B fb.length d, .slice B' bb.length d', S rb]).block (.cells Tryd.zeroCells32 32)
    have hz := Whole.made ((w.alloc (.cells #[Value.slice none 0 0, Value.slice none 0 0, S []] 24)).alloc (.cells #[.slice B fb.length d, .slice B' bb.length d', S rb] 24)) 32 Tryd.zeroCells32
    have hb : Below w.heap.size w (((w.alloc (.cells #[Value.slice none 0 0, Value.slice none 0 0, S []] 24)).alloc (.cells #[.slice B fb.length d, .slice B' bb.length d', S rb] 24)).alloc (.cells Tryd.zeroCells32 32)) := (((Below.refl _ _).alloc (Nat.le_refl _) _).alloc (by simp) _).alloc (by simp; omega) _
    rw [show (w.alloc (.cells #[Value.slice none 0 0, Value.slice none 0 0, S []] 24)).heap.size = w.heap.size + 1 by simp] at hy
    rw [show ((w.alloc (.cells #[Value.slice none 0 0, Value.slice none 0 0, S []] 24)).alloc (.cells #[.slice B fb.length d, .slice B' bb.length d', S rb] 24)).heap.size = w.heap.size + 1 + 1 by simp] at hz
    have c0 : _ = some (Value.slice none 0 0) := hx.cell 0
    have c1 : _ = some (Value.slice none 0 0) := hx.cell 1
    have c2 : _ = some (S []) := hx.cell 2
    have e0 : _ = some (Value.slice B fb.length d) := hy.cell 0
    have e1 : _ = some (Value.slice B' bb.length d') := hy.cell 1
    have e2 : _ = some (S rb) := hy.cell 2
    have HZ : Hid (Whole _ _ 32 Tryd.zeroCells32.toList.toArray) := Lib.hid (by simpa using hz)
    have HW := Lib.hid hb
    have hlz := hz.lt
    clear hx hy hz hb
    generalize ((w.alloc (.cells #[Value.slice none 0 0, Value.slice none 0 0, S []] 24)).alloc (.cells #[.slice B fb.length d, .slice B' bb.length d', S rb] 24)).alloc (.cells Tryd.zeroCells32 32) = w1 at *
    have C0 := Lib.hid c0
    have C1 := Lib.hid c1
    have C2 := Lib.hid c2
    have E0 := Lib.hid e0
    have E1 := Lib.hid e1
    have E2 := Lib.hid e2
    generalize hgx : w.heap.size = gx at *
    have HGX := Lib.hid hgx
    clear hgx
    have hL : ∀ (W : World) (G : Option Addr) (xs : List Value), Below (gx + 1 + 1) w1 W → Lies w gx G xs → Lies W W.heap.size G xs := fun W G xs hW h => ((h.below HW.out).below (hW.mono (by omega))).wide (by have := hW.size; omega)
    have f1 : ∀ W : World, Below (gx + 1 + 1) w1 W → Calls Tryd.prog 41 #[.agg #[Value.slice none 0 0, Value.slice none 0 0, S []]] W fun e w' => e = .returned (D32 (dig (imgB [] [] []))) ∧ Below W.heap.size W w' := fun W hW => rimgSum_any W none none 0 0 [] [] [] (Lies.none _ _ _) (Lies.none _ _ _) (by simp [sizeOf])
    have f2 : ∀ W : World, Below (gx + 1 + 1) w1 W → Calls Tryd.prog 41 #[.agg #[.slice B fb.length d, .slice B' bb.length d', S rb]] W fun e w' => e = .returned (D32 (dig (imgB fb bb rb))) ∧ Below W.heap.size W w' := fun W hW => rimgSum_any W B B' d d' fb bb rb (hL W _ _ hW HB.out) (hL W _ _ hW HB'.out) hs'
    have f3 : ∀ W : World, Below (gx + 1 + 1) w1 W → Calls Tryd.prog 42 #[Value.slice none 0 0, .slice B fb.length d] W fun e w' => (∃ G k, e = .returned (.slice G (othersTo [] fb fb.length).length k) ∧ Lies w' w'.heap.size G (wCells (othersTo [] fb fb.length)) ∧ ∀ ad, G = some ad → W.heap.size ≤ ad.block) ∧ Below W.heap.size W w' := fun W hW => rothers_lies W none B 0 d [] fb (Lies.none _ _ _) (hL W _ _ hW HB.out) (by simp) (by omega)
    have f4 : ∀ W : World, Below (gx + 1 + 1) w1 W → Calls Tryd.prog 42 #[Value.slice none 0 0, .slice B' bb.length d'] W fun e w' => (∃ G k, e = .returned (.slice G (othersTo [] bb bb.length).length k) ∧ Lies w' w'.heap.size G (wCells (othersTo [] bb bb.length)) ∧ ∀ ad, G = some ad → W.heap.size ≤ ad.block) ∧ Below W.heap.size W w' := fun W hW => rothers_lies W none B' 0 d' [] bb (Lies.none _ _ _) (hL W _ _ hW HB'.out) (by simp) (by omega)
    have F1 := Lib.hid f1
    have F2 := Lib.hid f2
    have F3 := Lib.hid f3
    have F4 := Lib.hid f4
    clear f1 f2 f3 f4 hL
    have D1 := Lib.hid (dig_length (imgB [] [] []))
    have D2 := Lib.hid (dig_length (imgB fb bb rb))
    obtain ⟨DA, HDA⟩ : ∃ z, Hid (dig (imgB [] [] []) = z) := ⟨_, Lib.hid rfl⟩
    obtain ⟨DB, HDB⟩ : ∃ z, Hid (dig (imgB fb bb rb) = z) := ⟨_, Lib.hid rfl⟩
    rw [HDA.out] at D1 F1
    rw [HDB.out] at D2 F2
    obtain ⟨W1, HW1⟩ : ∃ z, Hid (othersTo [] fb fb.length = z) := ⟨_, Lib.hid rfl⟩
    obtain ⟨W2, HW2⟩ : ∃ z, Hid (othersTo [] bb bb.length = z) := ⟨_, Lib.hid rfl⟩
    rw [HW1.out] at F3
    rw [HW2.out] at F4
    have o1 := D1.out
    have o2 := D2.out
    have HI : Hid (∀ G3 k3 G4 k4, (Tryd.prog.info? 32).map (·.size) = some (dCells DA (.slice G3 W1.length k3) (.slice G4 W2.length k4) rb DB).length) := Lib.hid (fun _ _ _ _ => by rw [dCells_length D1.out D2.out]; kernel_rfl)
    have HC : Hid (∀ G3 k3 G4 k4, 0 + (dCells DA (.slice G3 W1.length k3) (.slice G4 W2.length k4) rb DB).length ≤ Tryd.zeroCells32.toList.length) := Lib.hid (fun _ _ _ _ => by rw [dCells_length D1.out D2.out]; decide)
    go_region_held3 (fun w' => w'.cell? ⟨gx, 0, none⟩ = some (Value.slice none 0 0) ∧ w'.cell? ⟨gx, 1, none⟩ = some (Value.slice none 0 0) ∧ w'.cell? ⟨gx, 2, none⟩ = some (S []) ∧ w'.cell? ⟨gx + 1, 0, none⟩ = some (Value.slice B fb.length d) ∧ w'.cell? ⟨gx + 1, 1, none⟩ = some (Value.slice B' bb.length d') ∧ w'.cell? ⟨gx + 1, 2, none⟩ = some (S rb))
      (first
        | go_keep
        | (exact ⟨(BB.cell (p := ⟨gx, 0, none⟩) (by show gx < _; omega)).trans C0.out, (BB.cell (p := ⟨gx, 1, none⟩) (by show gx < _; omega)).trans C1.out, (BB.cell (p := ⟨gx, 2, none⟩) (by show gx < _; omega)).trans C2.out, (BB.cell (p := ⟨gx + 1, 0, none⟩) (by show gx + 1 < _; omega)).trans E0.out, (BB.cell (p := ⟨gx + 1, 1, none⟩) (by show gx + 1 < _; omega)).trans E1.out, (BB.cell (p := ⟨gx + 1, 2, none⟩) (by show gx + 1 < _; omega)).trans E2.out⟩))
      (first
        | (go_at_call_of 41 (Value.agg #[Value.slice none 0 0, Value.slice none 0 0, S []]); refine (F1.out _ ?_).mono ?_; (exact (Below.refl _ _).drew); rintro e w2 ⟨rfl, hbl⟩; have B2 : Below (gx + 1 + 1) w1 w2 := ((Below.refl _ _).drew).trans (hbl.mono (by show _ ≤ w1.heap.size; omega)); have BB := B2; have hz2 : w1.heap.size ≤ w2.heap.size := hbl.size; have z2 := Lib.hid (HZ.out.draw.below hbl hlz); clear hbl)
        | (go_at_call_of 42 (Value.slice B fb.length d); refine (F3.out _ ?_).mono ?_; (exact B2); rintro e w3 ⟨⟨G3, k3, rfl, l3, ge3⟩, hbl⟩; have N3 := Lib.hid ge3; clear ge3; have B3 : Below (gx + 1 + 1) w1 w3 := B2.trans (hbl.mono (by omega)); have BB := B3; have hz3 : w1.heap.size ≤ w3.heap.size := Nat.le_trans hz2 hbl.size; have z3 := Lib.hid (z2.out.below hbl (by omega)); have L3 := Lib.hid l3; clear hbl l3)
        | (go_at_call_of 42 (Value.slice B' bb.length d'); refine (F4.out _ ?_).mono ?_; (exact B3); rintro e w4 ⟨⟨G4, k4, rfl, l4, ge4⟩, hbl⟩; have N4 := Lib.hid ge4; clear ge4; have B4 : Below (gx + 1 + 1) w1 w4 := B3.trans (hbl.mono (by omega)); have BB := B4; have hz4 : w1.heap.size ≤ w4.heap.size := Nat.le_trans hz3 hbl.size; have z4 := Lib.hid (z3.out.below hbl (by omega)); have L34 := Lib.hid ((L3.out.below hbl).wide hbl.size); have L4 := Lib.hid l4; clear hbl l4)
        | (go_at_call_of 41 (Value.agg #[Value.slice B fb.length d, Value.slice B' bb.length d', S rb]); refine (F2.out _ ?_).mono ?_; (exact B4); rintro e w5 ⟨rfl, hbl⟩; have B5 : Below (gx + 1 + 1) w1 w5 := B4.trans (hbl.mono (by omega)); have BB := B5; have hz5 : w1.heap.size ≤ w5.heap.size := Nat.le_trans hz4 hbl.size; have z5 := Lib.hid (z4.out.below hbl (by omega)); have L35 := Lib.hid ((L34.out.below hbl).wide hbl.size); have L45 := Lib.hid ((L4.out.below hbl).wide hbl.size); clear hbl)
        | (refine upon_store (by rfl) (gx + 1 + 1) 0 _ (dCells DA (.slice G3 W1.length k3) (.slice G4 W2.length k4) rb DB) (by exact built_list DA DB D1.out D2.out _ _ _ _ _ _ _) Tryd.zeroCells32.toList 32 z5.out (HC.out _ _ _ _) (dCells_one _ _ _ _ _ _ _ _ _) ?_; intro w6 H6 F6; have BB := below_grown B5 F6.out (by omega) (Nat.le_refl _)))
    have h6 : Whole w6 (gx + 1 + 1) 32 (dCells DA (.slice G3 W1.length k3) (.slice G4 W2.length k4) rb DB).toArray := by
      have := H6.out
      rw [dCells_length D1.out D2.out, show Tryd.zeroCells32.toList.drop (0 + 67) = [] from by kernel_rfl, List.take_zero, List.nil_append, List.append_nil] at this
      exact this
    go_wp2
    refine bodyPost_ret (v := .agg (dCells DA (.slice G3 W1.length k3) (.slice G4 W2.length k4) rb DB).toArray) (results_cell_row rfl _ _ (gx + 1 + 1) 32 _ (0, 0) _ rfl h6 Tryd.underlying32 rfl (by rw [List.size_toArray]; exact HI.out _ _ _ _)) rfl ?_
    unfold OfPost
    rw [HL.out, onto_true, onto_true, onto_true, HDA.out, HDB.out, HW1.out, HW2.out]
    refine ⟨⟨G3, k3, G4, k4, rfl, lies_after L35.out F6.out (fun ad e _ => ?_), lies_after L45.out F6.out (fun ad e _ => ?_), fun ad e => ?_, fun ad e => ?_⟩, ?_⟩
    · have := N3.out ad e; omega
    · have := N4.out ad e; omega
    · have := N3.out ad e; rw [HGX.out]; omega
    · have := N4.out ad e; rw [HGX.out]; omega
    · rw [HGX.out]; exact HW.out.trans (BB.mono (by omega))
  · have d1 : decide (fb.length < fa.length) = false := by simpa using h1
    by_cases h2 : bb.length < ba.length
    · have d2 : decide (bb.length < ba.length) = true := by simpa using h2
      have hless : less fa ba fb bb = true := by simp [less, h2]
      have HL := Lib.hid hless
      clear hless
      go_enter Tryd.func16, Tryd.ntmps16
      go_wp2_with fail
      have hx := (Whole.made w 24 #[Value.slice none 0 0, Value.slice none 0 0, S []]).block (.cells #[.slice B fb.length d, .slice B' bb.length d', S rb] 24) |>.block (.cells Tryd.zeroCells32 32)
      have hy := (Whole.made (w.alloc (.cells #[Value.slice none 0 0, Value.slice none 0 0, S []] 24)) 24 #[.slice B fb.length d, .slice B' bb.length d', S rb]).block (.cells Tryd.zeroCells32 32)
      have hz := Whole.made ((w.alloc (.cells #[Value.slice none 0 0, Value.slice none 0 0, S []] 24)).alloc (.cells #[.slice B fb.length d, .slice B' bb.length d', S rb] 24)) 32 Tryd.zeroCells32
      have hb : Below w.heap.size w (((w.alloc (.cells #[Value.slice none 0 0, Value.slice none 0 0, S []] 24)).alloc (.cells #[.slice B fb.length d, .slice B' bb.length d', S rb] 24)).alloc (.cells Tryd.zeroCells32 32)) := (((Below.refl _ _).alloc (Nat.le_refl _) _).alloc (by simp) _).alloc (by simp; omega) _
      rw [show (w.alloc (.cells #[Value.slice none 0 0, Value.slice none 0 0, S []] 24)).heap.size = w.heap.size + 1 by simp] at hy
      rw [show ((w.alloc (.cells #[Value.slice none 0 0, Value.slice none 0 0, S []] 24)).alloc (.cells #[.slice B fb.length d, .slice B' bb.length d', S rb] 24)).heap.size = w.heap.size + 1 + 1 by simp] at hz
      have c0 : _ = some (Value.slice none 0 0) := hx.cell 0
      have c1 : _ = some (Value.slice none 0 0) := hx.cell 1
      have c2 : _ = some (S []) := hx.cell 2
      have e0 : _ = some (Value.slice B fb.length d) := hy.cell 0
      have e1 : _ = some (Value.slice B' bb.length d') := hy.cell 1
      have e2 : _ = some (S rb) := hy.cell 2
      have HZ : Hid (Whole _ _ 32 Tryd.zeroCells32.toList.toArray) := Lib.hid (by simpa using hz)
      have HW := Lib.hid hb
      have hlz := hz.lt
      clear hx hy hz hb
      generalize ((w.alloc (.cells #[Value.slice none 0 0, Value.slice none 0 0, S []] 24)).alloc (.cells #[.slice B fb.length d, .slice B' bb.length d', S rb] 24)).alloc (.cells Tryd.zeroCells32 32) = w1 at *
      have C0 := Lib.hid c0
      have C1 := Lib.hid c1
      have C2 := Lib.hid c2
      have E0 := Lib.hid e0
      have E1 := Lib.hid e1
      have E2 := Lib.hid e2
      generalize hgx : w.heap.size = gx at *
      have HGX := Lib.hid hgx
      clear hgx
      have hL : ∀ (W : World) (G : Option Addr) (xs : List Value), Below (gx + 1 + 1) w1 W → Lies w gx G xs → Lies W W.heap.size G xs := fun W G xs hW h => ((h.below HW.out).below (hW.mono (by omega))).wide (by have := hW.size; omega)
      have f1 : ∀ W : World, Below (gx + 1 + 1) w1 W → Calls Tryd.prog 41 #[.agg #[Value.slice none 0 0, Value.slice none 0 0, S []]] W fun e w' => e = .returned (D32 (dig (imgB [] [] []))) ∧ Below W.heap.size W w' := fun W hW => rimgSum_any W none none 0 0 [] [] [] (Lies.none _ _ _) (Lies.none _ _ _) (by simp [sizeOf])
      have f2 : ∀ W : World, Below (gx + 1 + 1) w1 W → Calls Tryd.prog 41 #[.agg #[.slice B fb.length d, .slice B' bb.length d', S rb]] W fun e w' => e = .returned (D32 (dig (imgB fb bb rb))) ∧ Below W.heap.size W w' := fun W hW => rimgSum_any W B B' d d' fb bb rb (hL W _ _ hW HB.out) (hL W _ _ hW HB'.out) hs'
      have f3 : ∀ W : World, Below (gx + 1 + 1) w1 W → Calls Tryd.prog 42 #[Value.slice none 0 0, .slice B fb.length d] W fun e w' => (∃ G k, e = .returned (.slice G (othersTo [] fb fb.length).length k) ∧ Lies w' w'.heap.size G (wCells (othersTo [] fb fb.length)) ∧ ∀ ad, G = some ad → W.heap.size ≤ ad.block) ∧ Below W.heap.size W w' := fun W hW => rothers_lies W none B 0 d [] fb (Lies.none _ _ _) (hL W _ _ hW HB.out) (by simp) (by omega)
      have f4 : ∀ W : World, Below (gx + 1 + 1) w1 W → Calls Tryd.prog 42 #[Value.slice none 0 0, .slice B' bb.length d'] W fun e w' => (∃ G k, e = .returned (.slice G (othersTo [] bb bb.length).length k) ∧ Lies w' w'.heap.size G (wCells (othersTo [] bb bb.length)) ∧ ∀ ad, G = some ad → W.heap.size ≤ ad.block) ∧ Below W.heap.size W w' := fun W hW => rothers_lies W none B' 0 d' [] bb (Lies.none _ _ _) (hL W _ _ hW HB'.out) (by simp) (by omega)
      have F1 := Lib.hid f1
      have F2 := Lib.hid f2
      have F3 := Lib.hid f3
      have F4 := Lib.hid f4
      clear f1 f2 f3 f4 hL
      have D1 := Lib.hid (dig_length (imgB [] [] []))
      have D2 := Lib.hid (dig_length (imgB fb bb rb))
      obtain ⟨DA, HDA⟩ : ∃ z, Hid (dig (imgB [] [] []) = z) := ⟨_, Lib.hid rfl⟩
      obtain ⟨DB, HDB⟩ : ∃ z, Hid (dig (imgB fb bb rb) = z) := ⟨_, Lib.hid rfl⟩
      rw [HDA.out] at D1 F1
      rw [HDB.out] at D2 F2
      obtain ⟨W1, HW1⟩ : ∃ z, Hid (othersTo [] fb fb.length = z) := ⟨_, Lib.hid rfl⟩
      obtain ⟨W2, HW2⟩ : ∃ z, Hid (othersTo [] bb bb.length = z) := ⟨_, Lib.hid rfl⟩
      rw [HW1.out] at F3
      rw [HW2.out] at F4
      have o1 := D1.out
      have o2 := D2.out
      have HI : Hid (∀ G3 k3 G4 k4, (Tryd.prog.info? 32).map (·.size) = some (dCells DA (.slice G3 W1.length k3) (.slice G4 W2.length k4) rb DB).length) := Lib.hid (fun _ _ _ _ => by rw [dCells_length D1.out D2.out]; kernel_rfl)
      have HC : Hid (∀ G3 k3 G4 k4, 0 + (dCells DA (.slice G3 W1.length k3) (.slice G4 W2.length k4) rb DB).length ≤ Tryd.zeroCells32.toList.length) := Lib.hid (fun _ _ _ _ => by rw [dCells_length D1.out D2.out]; decide)
      go_region_held3 (fun w' => w'.cell? ⟨gx, 0, none⟩ = some (Value.slice none 0 0) ∧ w'.cell? ⟨gx, 1, none⟩ = some (Value.slice none 0 0) ∧ w'.cell? ⟨gx, 2, none⟩ = some (S []) ∧ w'.cell? ⟨gx + 1, 0, none⟩ = some (Value.slice B fb.length d) ∧ w'.cell? ⟨gx + 1, 1, none⟩ = some (Value.slice B' bb.length d') ∧ w'.cell? ⟨gx + 1, 2, none⟩ = some (S rb))
        (first
          | go_keep
          | (exact ⟨(BB.cell (p := ⟨gx, 0, none⟩) (by show gx < _; omega)).trans C0.out, (BB.cell (p := ⟨gx, 1, none⟩) (by show gx < _; omega)).trans C1.out, (BB.cell (p := ⟨gx, 2, none⟩) (by show gx < _; omega)).trans C2.out, (BB.cell (p := ⟨gx + 1, 0, none⟩) (by show gx + 1 < _; omega)).trans E0.out, (BB.cell (p := ⟨gx + 1, 1, none⟩) (by show gx + 1 < _; omega)).trans E1.out, (BB.cell (p := ⟨gx + 1, 2, none⟩) (by show gx + 1 < _; omega)).trans E2.out⟩))
        (first
          | (go_at_call_of 41 (Value.agg #[Value.slice none 0 0, Value.slice none 0 0, S []]); refine (F1.out _ ?_).mono ?_; (exact (Below.refl _ _).drew); rintro e w2 ⟨rfl, hbl⟩; have B2 : Below (gx + 1 + 1) w1 w2 := ((Below.refl _ _).drew).trans (hbl.mono (by show _ ≤ w1.heap.size; omega)); have BB := B2; have hz2 : w1.heap.size ≤ w2.heap.size := hbl.size; have z2 := Lib.hid (HZ.out.draw.below hbl hlz); clear hbl)
          | (go_at_call_of 42 (Value.slice B fb.length d); refine (F3.out _ ?_).mono ?_; (exact B2); rintro e w3 ⟨⟨G3, k3, rfl, l3, ge3⟩, hbl⟩; have N3 := Lib.hid ge3; clear ge3; have B3 : Below (gx + 1 + 1) w1 w3 := B2.trans (hbl.mono (by omega)); have BB := B3; have hz3 : w1.heap.size ≤ w3.heap.size := Nat.le_trans hz2 hbl.size; have z3 := Lib.hid (z2.out.below hbl (by omega)); have L3 := Lib.hid l3; clear hbl l3)
          | (go_at_call_of 42 (Value.slice B' bb.length d'); refine (F4.out _ ?_).mono ?_; (exact B3); rintro e w4 ⟨⟨G4, k4, rfl, l4, ge4⟩, hbl⟩; have N4 := Lib.hid ge4; clear ge4; have B4 : Below (gx + 1 + 1) w1 w4 := B3.trans (hbl.mono (by omega)); have BB := B4; have hz4 : w1.heap.size ≤ w4.heap.size := Nat.le_trans hz3 hbl.size; have z4 := Lib.hid (z3.out.below hbl (by omega)); have L34 := Lib.hid ((L3.out.below hbl).wide hbl.size); have L4 := Lib.hid l4; clear hbl l4)
          | (go_at_call_of 41 (Value.agg #[Value.slice B fb.length d, Value.slice B' bb.length d', S rb]); refine (F2.out _ ?_).mono ?_; (exact B4); rintro e w5 ⟨rfl, hbl⟩; have B5 : Below (gx + 1 + 1) w1 w5 := B4.trans (hbl.mono (by omega)); have BB := B5; have hz5 : w1.heap.size ≤ w5.heap.size := Nat.le_trans hz4 hbl.size; have z5 := Lib.hid (z4.out.below hbl (by omega)); have L35 := Lib.hid ((L34.out.below hbl).wide hbl.size); have L45 := Lib.hid ((L4.out.below hbl).wide hbl.size); clear hbl)
          | (refine upon_store (by rfl) (gx + 1 + 1) 0 _ (dCells DA (.slice G3 W1.length k3) (.slice G4 W2.length k4) rb DB) (by exact built_list DA DB D1.out D2.out _ _ _ _ _ _ _) Tryd.zeroCells32.toList 32 z5.out (HC.out _ _ _ _) (dCells_one _ _ _ _ _ _ _ _ _) ?_; intro w6 H6 F6; have BB := below_grown B5 F6.out (by omega) (Nat.le_refl _)))
      have h6 : Whole w6 (gx + 1 + 1) 32 (dCells DA (.slice G3 W1.length k3) (.slice G4 W2.length k4) rb DB).toArray := by
        have := H6.out
        rw [dCells_length D1.out D2.out, show Tryd.zeroCells32.toList.drop (0 + 67) = [] from by kernel_rfl, List.take_zero, List.nil_append, List.append_nil] at this
        exact this
      go_wp2
      refine bodyPost_ret (v := .agg (dCells DA (.slice G3 W1.length k3) (.slice G4 W2.length k4) rb DB).toArray) (results_cell_row rfl _ _ (gx + 1 + 1) 32 _ (0, 0) _ rfl h6 Tryd.underlying32 rfl (by rw [List.size_toArray]; exact HI.out _ _ _ _)) rfl ?_
      unfold OfPost
      rw [HL.out, onto_true, onto_true, onto_true, HDA.out, HDB.out, HW1.out, HW2.out]
      refine ⟨⟨G3, k3, G4, k4, rfl, lies_after L35.out F6.out (fun ad e _ => ?_), lies_after L45.out F6.out (fun ad e _ => ?_), fun ad e => ?_, fun ad e => ?_⟩, ?_⟩
      · have := N3.out ad e; omega
      · have := N4.out ad e; omega
      · have := N3.out ad e; rw [HGX.out]; omega
      · have := N4.out ad e; rw [HGX.out]; omega
      · rw [HGX.out]; exact HW.out.trans (BB.mono (by omega))
    · have d2 : decide (bb.length < ba.length) = false := by simpa using h2
      have hless : less fa ba fb bb = false := by simp [less, h1, h2]
      have HL := Lib.hid hless
      clear hless
      go_enter Tryd.func16, Tryd.ntmps16
      go_wp2_with fail
      have hx := (Whole.made w 24 #[Value.slice A fa.length c, Value.slice A' ba.length c', S ra]).block (.cells #[.slice B fb.length d, .slice B' bb.length d', S rb] 24) |>.block (.cells Tryd.zeroCells32 32)
      have hy := (Whole.made (w.alloc (.cells #[Value.slice A fa.length c, Value.slice A' ba.length c', S ra] 24)) 24 #[.slice B fb.length d, .slice B' bb.length d', S rb]).block (.cells Tryd.zeroCells32 32)
      have hz := Whole.made ((w.alloc (.cells #[Value.slice A fa.length c, Value.slice A' ba.length c', S ra] 24)).alloc (.cells #[.slice B fb.length d, .slice B' bb.length d', S rb] 24)) 32 Tryd.zeroCells32
      have hb : Below w.heap.size w (((w.alloc (.cells #[Value.slice A fa.length c, Value.slice A' ba.length c', S ra] 24)).alloc (.cells #[.slice B fb.length d, .slice B' bb.length d', S rb] 24)).alloc (.cells Tryd.zeroCells32 32)) := (((Below.refl _ _).alloc (Nat.le_refl _) _).alloc (by simp) _).alloc (by simp; omega) _
      rw [show (w.alloc (.cells #[Value.slice A fa.length c, Value.slice A' ba.length c', S ra] 24)).heap.size = w.heap.size + 1 by simp] at hy
      rw [show ((w.alloc (.cells #[Value.slice A fa.length c, Value.slice A' ba.length c', S ra] 24)).alloc (.cells #[.slice B fb.length d, .slice B' bb.length d', S rb] 24)).heap.size = w.heap.size + 1 + 1 by simp] at hz
      have c0 : _ = some (Value.slice A fa.length c) := hx.cell 0
      have c1 : _ = some (Value.slice A' ba.length c') := hx.cell 1
      have c2 : _ = some (S ra) := hx.cell 2
      have e0 : _ = some (Value.slice B fb.length d) := hy.cell 0
      have e1 : _ = some (Value.slice B' bb.length d') := hy.cell 1
      have e2 : _ = some (S rb) := hy.cell 2
      have HZ : Hid (Whole _ _ 32 Tryd.zeroCells32.toList.toArray) := Lib.hid (by simpa using hz)
      have HW := Lib.hid hb
      have hlz := hz.lt
      clear hx hy hz hb
      generalize ((w.alloc (.cells #[Value.slice A fa.length c, Value.slice A' ba.length c', S ra] 24)).alloc (.cells #[.slice B fb.length d, .slice B' bb.length d', S rb] 24)).alloc (.cells Tryd.zeroCells32 32) = w1 at *
      have C0 := Lib.hid c0
      have C1 := Lib.hid c1
      have C2 := Lib.hid c2
      have E0 := Lib.hid e0
      have E1 := Lib.hid e1
      have E2 := Lib.hid e2
      generalize hgx : w.heap.size = gx at *
      have HGX := Lib.hid hgx
      clear hgx
      have hL : ∀ (W : World) (G : Option Addr) (xs : List Value), Below (gx + 1 + 1) w1 W → Lies w gx G xs → Lies W W.heap.size G xs := fun W G xs hW h => ((h.below HW.out).below (hW.mono (by omega))).wide (by have := hW.size; omega)
      have f1 : ∀ W : World, Below (gx + 1 + 1) w1 W → Calls Tryd.prog 41 #[.agg #[Value.slice A fa.length c, Value.slice A' ba.length c', S ra]] W fun e w' => e = .returned (D32 (dig (imgB fa ba ra))) ∧ Below W.heap.size W w' := fun W hW => rimgSum_any W A A' c c' fa ba ra (hL W _ _ hW HA.out) (hL W _ _ hW HA'.out) hs
      have f2 : ∀ W : World, Below (gx + 1 + 1) w1 W → Calls Tryd.prog 41 #[.agg #[.slice B fb.length d, .slice B' bb.length d', S rb]] W fun e w' => e = .returned (D32 (dig (imgB fb bb rb))) ∧ Below W.heap.size W w' := fun W hW => rimgSum_any W B B' d d' fb bb rb (hL W _ _ hW HB.out) (hL W _ _ hW HB'.out) hs'
      have f3 : ∀ W : World, Below (gx + 1 + 1) w1 W → Calls Tryd.prog 42 #[Value.slice A fa.length c, .slice B fb.length d] W fun e w' => (∃ G k, e = .returned (.slice G (othersTo fa fb fb.length).length k) ∧ Lies w' w'.heap.size G (wCells (othersTo fa fb fb.length)) ∧ ∀ ad, G = some ad → W.heap.size ≤ ad.block) ∧ Below W.heap.size W w' := fun W hW => rothers_lies W A B c d fa fb (hL W _ _ hW HA.out) (hL W _ _ hW HB.out) (by omega) (by omega)
      have f4 : ∀ W : World, Below (gx + 1 + 1) w1 W → Calls Tryd.prog 42 #[Value.slice A' ba.length c', .slice B' bb.length d'] W fun e w' => (∃ G k, e = .returned (.slice G (othersTo ba bb bb.length).length k) ∧ Lies w' w'.heap.size G (wCells (othersTo ba bb bb.length)) ∧ ∀ ad, G = some ad → W.heap.size ≤ ad.block) ∧ Below W.heap.size W w' := fun W hW => rothers_lies W A' B' c' d' ba bb (hL W _ _ hW HA'.out) (hL W _ _ hW HB'.out) (by omega) (by omega)
      have F1 := Lib.hid f1
      have F2 := Lib.hid f2
      have F3 := Lib.hid f3
      have F4 := Lib.hid f4
      clear f1 f2 f3 f4 hL
      have D1 := Lib.hid (dig_length (imgB fa ba ra))
      have D2 := Lib.hid (dig_length (imgB fb bb rb))
      obtain ⟨DA, HDA⟩ : ∃ z, Hid (dig (imgB fa ba ra) = z) := ⟨_, Lib.hid rfl⟩
      obtain ⟨DB, HDB⟩ : ∃ z, Hid (dig (imgB fb bb rb) = z) := ⟨_, Lib.hid rfl⟩
      rw [HDA.out] at D1 F1
      rw [HDB.out] at D2 F2
      obtain ⟨W1, HW1⟩ : ∃ z, Hid (othersTo fa fb fb.length = z) := ⟨_, Lib.hid rfl⟩
      obtain ⟨W2, HW2⟩ : ∃ z, Hid (othersTo ba bb bb.length = z) := ⟨_, Lib.hid rfl⟩
      rw [HW1.out] at F3
      rw [HW2.out] at F4
      have o1 := D1.out
      have o2 := D2.out
      have HI : Hid (∀ G3 k3 G4 k4, (Tryd.prog.info? 32).map (·.size) = some (dCells DA (.slice G3 W1.length k3) (.slice G4 W2.length k4) rb DB).length) := Lib.hid (fun _ _ _ _ => by rw [dCells_length D1.out D2.out]; kernel_rfl)
      have HC : Hid (∀ G3 k3 G4 k4, 0 + (dCells DA (.slice G3 W1.length k3) (.slice G4 W2.length k4) rb DB).length ≤ Tryd.zeroCells32.toList.length) := Lib.hid (fun _ _ _ _ => by rw [dCells_length D1.out D2.out]; decide)
      go_region_held3 (fun w' => w'.cell? ⟨gx, 0, none⟩ = some (Value.slice A fa.length c) ∧ w'.cell? ⟨gx, 1, none⟩ = some (Value.slice A' ba.length c') ∧ w'.cell? ⟨gx, 2, none⟩ = some (S ra) ∧ w'.cell? ⟨gx + 1, 0, none⟩ = some (Value.slice B fb.length d) ∧ w'.cell? ⟨gx + 1, 1, none⟩ = some (Value.slice B' bb.length d') ∧ w'.cell? ⟨gx + 1, 2, none⟩ = some (S rb))
        (first
          | go_keep
          | (exact ⟨(BB.cell (p := ⟨gx, 0, none⟩) (by show gx < _; omega)).trans C0.out, (BB.cell (p := ⟨gx, 1, none⟩) (by show gx < _; omega)).trans C1.out, (BB.cell (p := ⟨gx, 2, none⟩) (by show gx < _; omega)).trans C2.out, (BB.cell (p := ⟨gx + 1, 0, none⟩) (by show gx + 1 < _; omega)).trans E0.out, (BB.cell (p := ⟨gx + 1, 1, none⟩) (by show gx + 1 < _; omega)).trans E1.out, (BB.cell (p := ⟨gx + 1, 2, none⟩) (by show gx + 1 < _; omega)).trans E2.out⟩))
        (first
          | (go_at_call_of 41 (Value.agg #[Value.slice A fa.length c, Value.slice A' ba.length c', S ra]); refine (F1.out _ ?_).mono ?_; (exact (Below.refl _ _).drew); rintro e w2 ⟨rfl, hbl⟩; have B2 : Below (gx + 1 + 1) w1 w2 := ((Below.refl _ _).drew).trans (hbl.mono (by show _ ≤ w1.heap.size; omega)); have BB := B2; have hz2 : w1.heap.size ≤ w2.heap.size := hbl.size; have z2 := Lib.hid (HZ.out.draw.below hbl hlz); clear hbl)
          | (go_at_call_of 42 (Value.slice B fb.length d); refine (F3.out _ ?_).mono ?_; (exact B2); rintro e w3 ⟨⟨G3, k3, rfl, l3, ge3⟩, hbl⟩; have N3 := Lib.hid ge3; clear ge3; have B3 : Below (gx + 1 + 1) w1 w3 := B2.trans (hbl.mono (by omega)); have BB := B3; have hz3 : w1.heap.size ≤ w3.heap.size := Nat.le_trans hz2 hbl.size; have z3 := Lib.hid (z2.out.below hbl (by omega)); have L3 := Lib.hid l3; clear hbl l3)
          | (go_at_call_of 42 (Value.slice B' bb.length d'); refine (F4.out _ ?_).mono ?_; (exact B3); rintro e w4 ⟨⟨G4, k4, rfl, l4, ge4⟩, hbl⟩; have N4 := Lib.hid ge4; clear ge4; have B4 : Below (gx + 1 + 1) w1 w4 := B3.trans (hbl.mono (by omega)); have BB := B4; have hz4 : w1.heap.size ≤ w4.heap.size := Nat.le_trans hz3 hbl.size; have z4 := Lib.hid (z3.out.below hbl (by omega)); have L34 := Lib.hid ((L3.out.below hbl).wide hbl.size); have L4 := Lib.hid l4; clear hbl l4)
          | (go_at_call_of 41 (Value.agg #[Value.slice B fb.length d, Value.slice B' bb.length d', S rb]); refine (F2.out _ ?_).mono ?_; (exact B4); rintro e w5 ⟨rfl, hbl⟩; have B5 : Below (gx + 1 + 1) w1 w5 := B4.trans (hbl.mono (by omega)); have BB := B5; have hz5 : w1.heap.size ≤ w5.heap.size := Nat.le_trans hz4 hbl.size; have z5 := Lib.hid (z4.out.below hbl (by omega)); have L35 := Lib.hid ((L34.out.below hbl).wide hbl.size); have L45 := Lib.hid ((L4.out.below hbl).wide hbl.size); clear hbl)
          | (refine upon_store (by rfl) (gx + 1 + 1) 0 _ (dCells DA (.slice G3 W1.length k3) (.slice G4 W2.length k4) rb DB) (by exact built_list DA DB D1.out D2.out _ _ _ _ _ _ _) Tryd.zeroCells32.toList 32 z5.out (HC.out _ _ _ _) (dCells_one _ _ _ _ _ _ _ _ _) ?_; intro w6 H6 F6; have BB := below_grown B5 F6.out (by omega) (Nat.le_refl _)))
      have h6 : Whole w6 (gx + 1 + 1) 32 (dCells DA (.slice G3 W1.length k3) (.slice G4 W2.length k4) rb DB).toArray := by
        have := H6.out
        rw [dCells_length D1.out D2.out, show Tryd.zeroCells32.toList.drop (0 + 67) = [] from by kernel_rfl, List.take_zero, List.nil_append, List.append_nil] at this
        exact this
      go_wp2
      refine bodyPost_ret (v := .agg (dCells DA (.slice G3 W1.length k3) (.slice G4 W2.length k4) rb DB).toArray) (results_cell_row rfl _ _ (gx + 1 + 1) 32 _ (0, 0) _ rfl h6 Tryd.underlying32 rfl (by rw [List.size_toArray]; exact HI.out _ _ _ _)) rfl ?_
      unfold OfPost
      rw [HL.out, onto_false, onto_false, onto_false, HDA.out, HDB.out, HW1.out, HW2.out]
      refine ⟨⟨G3, k3, G4, k4, rfl, lies_after L35.out F6.out (fun ad e _ => ?_), lies_after L45.out F6.out (fun ad e _ => ?_), fun ad e => ?_, fun ad e => ?_⟩, ?_⟩
      · have := N3.out ad e; omega
      · have := N4.out ad e; omega
      · have := N3.out ad e; rw [HGX.out]; omega
      · have := N4.out ad e; rw [HGX.out]; omega
      · rw [HGX.out]; exact HW.out.trans (BB.mono (by omega))
end Go.Proofs.YtecamaceainfpaaDoor
