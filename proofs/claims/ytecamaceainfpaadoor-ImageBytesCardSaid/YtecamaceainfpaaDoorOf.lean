/-
  Walk: delta.Of.
-/
import Derived.Test.YtecamaceainfpaaDoorBuild
namespace Go.Proofs.YtecamaceainfpaaDoor
open Go.RowKit

theorem own_shape {w : World} {base : Nat} {e : TypeId} {size n : Nat} {v : Value} {xs : List Value} (h : w.ownsRow base e size v n xs) (_hs : 0 < size) : ∃ A c, v = .slice A n c ∧ Lies w w.heap.size A xs ∧ ∀ ad, A = some ad → base ≤ ad.block := by
  rcases h.2 with ⟨rfl, hx⟩ | ⟨g, cap, cur, rfl, hb, hh, hnc, hcur⟩
  · subst hx
    obtain rfl : xs = [] := List.eq_nil_of_length_eq_zero (by have := h.1; omega)
    exact ⟨none, 0, rfl, Lies.none _ _ _, fun _ h => by cases h⟩
  · exact ⟨_, _, rfl, fun k u hu => ⟨_, rfl, (Array.getElem?_eq_some_iff.1 hh).1, h.cells (g := g) rfl k u hu⟩, fun ad h => by injection h with h; subst h; exact hb⟩
theorem others_lies (w : World) (A A' : Option Addr) (c c' : Nat) (a b : List (List UInt8)) (hA : Strs w w.heap.size A a) (hA' : Strs w w.heap.size A' b) (ha : a.length ≤ 1099511627776) (hb : b.length ≤ 1099511627776) :
    Calls Tryd.prog 40 #[.slice A a.length c, .slice A' b.length c'] w fun e w' => (∃ G k, e = .returned (.slice G (othersTo a b b.length).length k) ∧ Lies w' w'.heap.size G (wCells (othersTo a b b.length)) ∧ ∀ ad, G = some ad → w.heap.size ≤ ad.block) ∧ Below w.heap.size w w' :=
  (others_any w A A' c c' a b hA hA' ha hb).mono fun e w' ⟨⟨v, he, ho⟩, hbl⟩ => by
    obtain ⟨G, k, rfl, hl, hge⟩ := own_shape ho (by omega)
    exact ⟨⟨G, k, he, hl, hge⟩, hbl⟩

theorem foldl_size {α : Type} : ∀ (L : List (α × Nat)) (k : Nat) (Z : Array α), (L.foldl (fun cs x => cs.setIfInBounds (k + x.2) x.1) Z).size = Z.size
  | [], _, _ => rfl
  | x :: L, k, Z => by rw [List.foldl_cons, foldl_size L k]; simp
theorem foldl_size0 {α : Type} (L : List (α × Nat)) (Z : Array α) : (L.foldl (fun cs x => cs.setIfInBounds x.2 x.1) Z).size = Z.size := by
  have := foldl_size L 0 Z
  simpa using this
theorem zero32 : Tryd.zeroCells32.size = 67 := by kernel_rfl
set_option maxRecDepth 100000 in
theorem built_eq (f t : List UInt8) (hf : f.length = 32) (ht : t.length = 32) (G : Option Addr) (n k : Nat) (G' : Option Addr) (n' k' : Nat) (r : List UInt8) :
    Value.agg (List.foldl (fun cs x => cs.setIfInBounds (35 + x.snd) x.fst) ((((List.foldl (fun cs x => cs.setIfInBounds x.snd x.fst) Tryd.zeroCells32 (List.map B8 f).zipIdx).setIfInBounds 32 (.slice G n k)).setIfInBounds 33 (.slice G' n' k')).setIfInBounds 34 (S r)) (List.map B8 t).zipIdx) = .agg (dCells f (.slice G n k) (.slice G' n' k') r t).toArray := by
  obtain ⟨x0, x1, x2, x3, x4, x5, x6, x7, x8, x9, x10, x11, x12, x13, x14, x15, x16, x17, x18, x19, x20, x21, x22, x23, x24, x25, x26, x27, x28, x29, x30, x31, rfl⟩ := list32 f hf
  obtain ⟨y0, y1, y2, y3, y4, y5, y6, y7, y8, y9, y10, y11, y12, y13, y14, y15, y16, y17, y18, y19, y20, y21, y22, y23, y24, y25, y26, y27, y28, y29, y30, y31, rfl⟩ := list32 t ht
  kernel_rfl
theorem built_list (f t : List UInt8) (hf : f.length = 32) (ht : t.length = 32) (G : Option Addr) (n k : Nat) (G' : Option Addr) (n' k' : Nat) (r : List UInt8) :
    (List.foldl (fun cs x => cs.setIfInBounds (35 + x.snd) x.fst) ((((List.foldl (fun cs x => cs.setIfInBounds x.snd x.fst) Tryd.zeroCells32 (List.map B8 f).zipIdx).setIfInBounds 32 (.slice G n k)).setIfInBounds 33 (.slice G' n' k')).setIfInBounds 34 (S r)) (List.map B8 t).zipIdx).toList = dCells f (.slice G n k) (.slice G' n' k') r t := by
  have h := built_eq f t hf ht G n k G' n' k' r
  injection h with h
  rw [h]
theorem upon_store {P : Program} {o : Oper} {a : Act} {w : World} {K : Act → World → Prop} {Q : Exit → Act → World → Prop} (hdst : o.dst = none) (g off : Nat) (L cs : List Value) (hL : L = cs)
    (cur : List Value) (t : TypeId) (hg : Whole w g t cur.toArray) (hfit : off + cs.length ≤ cur.length) (h1 : ∀ v ∈ cs, v.oneCell' = true)
    (h : ∀ w', Hid (Whole w' g t (cur.take off ++ (cs ++ cur.drop (off + cs.length))).toArray) → Hid (w.grownBy w' (some g)) → K a w') :
    Oper.upon P o a K Q ((Sem.run P (storeCells ⟨g, off, none⟩ L) w).andThen fun _ w' => Result.ok Next.skip w') := by
  subst hL
  have hrun := run_storeCells_at (P := P) g off t L 0 cur.toArray w hg (by simpa using hfit) h1
  simp only [Nat.add_zero, List.append_assoc] at hrun
  have hk := h _ (Lib.hid (setRow_whole hg _)) (Lib.hid (setRow_only w g (cur.take off ++ (L ++ cur.drop (off + L.length))).toArray))
  rw [hrun]
  simpa [Oper.upon, Act.put, hdst, Result.andThen] using hk
theorem lies_after {w w' : World} {g : Nat} {A : Option Addr} {xs : List Value} (h : Lies w w.heap.size A xs) (hf : w.grownBy w' (some g)) (hg : ∀ ad, A = some ad → xs ≠ [] → ad.block ≠ g) : Lies w' w'.heap.size A xs := fun k u hu => by
  obtain ⟨ad, e, hb, hc⟩ := h k u hu
  have hne : ad.block ≠ g := hg ad e (by rintro rfl; simp at hu)
  refine ⟨ad, e, Nat.lt_of_lt_of_le hb hf.size, ?_⟩
  have hbl : (ad.add k).block = ad.block := by unfold Addr.add; split <;> rfl
  rw [← hc]
  exact World.cell?_of_block (hf.block _ (by rw [hbl]; exact hb) (by rw [hbl]; intro e2; injection e2 with e2; exact hne e2))
attribute [local go_sem] foldl_size foldl_size0 zero32
/-- does b have fewer pages, or blocks, than a? -/
def less (fa ba fb bb : List (List UInt8)) : Bool := decide (fb.length < fa.length) || decide (bb.length < ba.length)

/-- what of an image is gone on from: nothing, if the other one is less -/
def onto {α : Type} (l : Bool) (x : List α) : List α := if l then [] else x
theorem onto_true {α : Type} (x : List α) : onto true x = [] := rfl
theorem onto_false {α : Type} (x : List α) : onto false x = x := rfl
/-- the delta from a to b, as the program makes it -/
def OfPost (w : World) (fa ba fb bb : List (List UInt8)) (ra rb : List UInt8) (e : Ending) (w' : World) : Prop :=
  (∃ G k G' k', e = .returned (.agg (dCells (dig (imgB (onto (less fa ba fb bb) fa) (onto (less fa ba fb bb) ba) (onto (less fa ba fb bb) ra)))
      (.slice G (othersTo (onto (less fa ba fb bb) fa) fb fb.length).length k) (.slice G' (othersTo (onto (less fa ba fb bb) ba) bb bb.length).length k') rb (dig (imgB fb bb rb))).toArray) ∧
    Lies w' w'.heap.size G (wCells (othersTo (onto (less fa ba fb bb) fa) fb fb.length)) ∧ Lies w' w'.heap.size G' (wCells (othersTo (onto (less fa ba fb bb) ba) bb bb.length)) ∧
    (∀ ad, G = some ad → w.heap.size ≤ ad.block) ∧ (∀ ad, G' = some ad → w.heap.size ≤ ad.block)) ∧ Below w.heap.size w w'
set_option maxRecDepth 100000 in
set_option maxHeartbeats 2000000 in
theorem of_any (w : World) (A A' B B' : Option Addr) (c c' d d' : Nat) (fa ba fb bb : List (List UInt8)) (ra rb : List UInt8) (hT : Tabs w) (hA : Strs w w.heap.size A fa) (hA' : Strs w w.heap.size A' ba) (hB : Strs w w.heap.size B fb) (hB' : Strs w w.heap.size B' bb)
    (hs : sizeOf fa + sizeOf ba + ra.length ≤ 4294967296) (hs' : sizeOf fb + sizeOf bb + rb.length ≤ 4294967296) :
    Calls Tryd.prog 15 #[.agg #[.slice A fa.length c, .slice A' ba.length c', S ra], .agg #[.slice B fb.length d, .slice B' bb.length d', S rb]] w (OfPost w fa ba fb bb ra rb) := by
  have HT := Lib.hid hT
  have HA := Lib.hid hA
  have HA' := Lib.hid hA'
  have HB := Lib.hid hB
  have HB' := Lib.hid hB'
  clear hT hA hA' hB hB'
  have la := length_le_sizeOf fa
  have la' := length_le_sizeOf ba
  have lb := length_le_sizeOf fb
  have lb' := length_le_sizeOf bb
  by_cases h1 : fb.length < fa.length
  · have d1 : decide (fb.length < fa.length) = true := by simpa using h1
    have hless : less fa ba fb bb = true := by simp [less, h1]
    have HL := Lib.hid hless
    clear hless
    go_enter Tryd.func15, Tryd.ntmps15
    go_wp2_with fail
    have hx := (Whole.made w 24 #[Value.slice none 0 0, Value.slice none 0 0, S []]).block (.cells #[.slice B fb.length d, .slice B' bb.length d', S rb] 24) |>.block (.cells Tryd.zeroCells32 32)
    have hy := (Whole.made (w.alloc (.cells #[Value.slice none 0 0, Value.slice none 0 0, S []] 24)) 24 #[.slice B fb.length d, .slice B' bb.length d', S rb]).block (.cells Tryd.zeroCells32 32)
    have hz := Whole.made ((w.alloc (.cells #[Value.slice none 0 0, Value.slice none 0 0, S []] 24)).alloc (.cells #[.slice B fb.length d, .slice B' bb.length d', S rb] 24)) 32 Tryd.zeroCells32
    have hb : Below w.heap.size w (((w.alloc (.cells #[Value.slice none 0 0, Value.slice none 0 0, S []] 24)).alloc (.cells #[.slice B fb.length d, .slice B' bb.length d', S rb] 24)).alloc (.cells Tryd.zeroCells32 32)) := (((Below.refl _ _).alloc (Nat.le_refl _) _).alloc (by simp) _).alloc (by simp; omega) _
    rw [show (w.alloc (.cells #[Value.slice none 0 0, Value.slice none 0 0, S []] 24)).heap.size = w.heap.size + 1 by simp] at hy
    rw [show ((w.alloc (.cells #[Value.slice none 0 0, Value.slice none 0 0, S []] 24)).alloc (.cells #[.slice B fb.length d, .slice B' bb.length d', S rb] 24)).heap.size = w.heap.size + 1 + 1 by simp] at hz
    have c0 : _ = some (Value.slice none 0 0) := hx.cell 0
    have c1 : _ = some (Value.slice none 0 0) := hx.cell 1
    have c2 : _ = some (S []) := hx.cell 2
    have e0 : _ = some (Value.slice B fb.length d) := hy.cell 0
    have e1 : _ = some (Value.slice B' bb.length d') := hy.cell 1
    have e2 : _ = some (S rb) := hy.cell 2
    have HZ : Hid (Whole _ _ 32 Tryd.zeroCells32.toList.toArray) := Lib.hid (by simpa using hz)
    have HW := Lib.hid hb
    have hlz := hz.lt
    clear hx hy hz hb
    generalize ((w.alloc (.cells #[Value.slice none 0 0, Value.slice none 0 0, S []] 24)).alloc (.cells #[.slice B fb.length d, .slice B' bb.length d', S rb] 24)).alloc (.cells Tryd.zeroCells32 32) = w1 at *
    have C0 := Lib.hid c0
    have C1 := Lib.hid c1
    have C2 := Lib.hid c2
    have E0 := Lib.hid e0
    have E1 := Lib.hid e1
    have E2 := Lib.hid e2
    generalize hgx : w.heap.size = gx at *
    have HGX := Lib.hid hgx
    clear hgx
    have hTW : ∀ W : World, Below (gx + 1 + 1) w1 W → Tabs W := fun W hW => HT.out.below (by rw [HGX.out]; exact Nat.le_refl _) (HW.out.trans (hW.mono (by omega)))
    have hL : ∀ (W : World) (G : Option Addr) (xs : List Value), Below (gx + 1 + 1) w1 W → Lies w gx G xs → Lies W W.heap.size G xs := fun W G xs hW h => ((h.below HW.out).below (hW.mono (by omega))).wide (by have := hW.size; omega)
    have f1 : ∀ W : World, Below (gx + 1 + 1) w1 W → Calls Tryd.prog 36 #[.agg #[Value.slice none 0 0, Value.slice none 0 0, S []]] W fun e w' => e = .returned (D32 (dig (imgB [] [] []))) ∧ Below W.heap.size W w' := fun W hW => imgSum_any W none none 0 0 [] [] [] (hTW W hW) (Lies.none _ _ _) (Lies.none _ _ _) (by simp [sizeOf])
    have f2 : ∀ W : World, Below (gx + 1 + 1) w1 W → Calls Tryd.prog 36 #[.agg #[.slice B fb.length d, .slice B' bb.length d', S rb]] W fun e w' => e = .returned (D32 (dig (imgB fb bb rb))) ∧ Below W.heap.size W w' := fun W hW => imgSum_any W B B' d d' fb bb rb (hTW W hW) (hL W _ _ hW HB.out) (hL W _ _ hW HB'.out) hs'
    have f3 : ∀ W : World, Below (gx + 1 + 1) w1 W → Calls Tryd.prog 40 #[Value.slice none 0 0, .slice B fb.length d] W fun e w' => (∃ G k, e = .returned (.slice G (othersTo [] fb fb.length).length k) ∧ Lies w' w'.heap.size G (wCells (othersTo [] fb fb.length)) ∧ ∀ ad, G = some ad → W.heap.size ≤ ad.block) ∧ Below W.heap.size W w' := fun W hW => others_lies W none B 0 d [] fb (Lies.none _ _ _) (hL W _ _ hW HB.out) (by simp) (by omega)
    have f4 : ∀ W : World, Below (gx + 1 + 1) w1 W → Calls Tryd.prog 40 #[Value.slice none 0 0, .slice B' bb.length d'] W fun e w' => (∃ G k, e = .returned (.slice G (othersTo [] bb bb.length).length k) ∧ Lies w' w'.heap.size G (wCells (othersTo [] bb bb.length)) ∧ ∀ ad, G = some ad → W.heap.size ≤ ad.block) ∧ Below W.heap.size W w' := fun W hW => others_lies W none B' 0 d' [] bb (Lies.none _ _ _) (hL W _ _ hW HB'.out) (by simp) (by omega)
    have F1 := Lib.hid f1
    have F2 := Lib.hid f2
    have F3 := Lib.hid f3
    have F4 := Lib.hid f4
    clear f1 f2 f3 f4 hTW hL
    have D1 := Lib.hid (dig_length (imgB [] [] []))
    have D2 := Lib.hid (dig_length (imgB fb bb rb))
    obtain ⟨DA, HDA⟩ : ∃ z, Hid (dig (imgB [] [] []) = z) := ⟨_, Lib.hid rfl⟩
    obtain ⟨DB, HDB⟩ : ∃ z, Hid (dig (imgB fb bb rb) = z) := ⟨_, Lib.hid rfl⟩
    rw [HDA.out] at D1 F1
    rw [HDB.out] at D2 F2
    obtain ⟨W1, HW1⟩ : ∃ z, Hid (othersTo [] fb fb.length = z) := ⟨_, Lib.hid rfl⟩
    obtain ⟨W2, HW2⟩ : ∃ z, Hid (othersTo [] bb bb.length = z) := ⟨_, Lib.hid rfl⟩
    rw [HW1.out] at F3
    rw [HW2.out] at F4
    have o1 := D1.out
    have o2 := D2.out
    have HI : Hid (∀ G3 k3 G4 k4, (Tryd.prog.info? 32).map (·.size) = some (dCells DA (.slice G3 W1.length k3) (.slice G4 W2.length k4) rb DB).length) := Lib.hid (fun _ _ _ _ => by rw [dCells_length D1.out D2.out]; kernel_rfl)
    have HC : Hid (∀ G3 k3 G4 k4, 0 + (dCells DA (.slice G3 W1.length k3) (.slice G4 W2.length k4) rb DB).length ≤ Tryd.zeroCells32.toList.length) := Lib.hid (fun _ _ _ _ => by rw [dCells_length D1.out D2.out]; decide)
    go_region_held3 (fun w' => w'.cell? ⟨gx, 0, none⟩ = some (Value.slice none 0 0) ∧ w'.cell? ⟨gx, 1, none⟩ = some (Value.slice none 0 0) ∧ w'.cell? ⟨gx, 2, none⟩ = some (S []) ∧ w'.cell? ⟨gx + 1, 0, none⟩ = some (Value.slice B fb.length d) ∧ w'.cell? ⟨gx + 1, 1, none⟩ = some (Value.slice B' bb.length d') ∧ w'.cell? ⟨gx + 1, 2, none⟩ = some (S rb))
      (first
        | go_keep
        | (exact ⟨(BB.cell (p := ⟨gx, 0, none⟩) (by show gx < _; omega)).trans C0.out, (BB.cell (p := ⟨gx, 1, none⟩) (by show gx < _; omega)).trans C1.out, (BB.cell (p := ⟨gx, 2, none⟩) (by show gx < _; omega)).trans C2.out, (BB.cell (p := ⟨gx + 1, 0, none⟩) (by show gx + 1 < _; omega)).trans E0.out, (BB.cell (p := ⟨gx + 1, 1, none⟩) (by show gx + 1 < _; omega)).trans E1.out, (BB.cell (p := ⟨gx + 1, 2, none⟩) (by show gx + 1 < _; omega)).trans E2.out⟩))
      (first
        | (go_at_call_of 36 (Value.agg #[Value.slice none 0 0, Value.slice none 0 0, S []]); refine (F1.out _ ?_).mono ?_; (exact (Below.refl _ _).drew); rintro e w2 ⟨rfl, hbl⟩; have B2 : Below (gx + 1 + 1) w1 w2 := ((Below.refl _ _).drew).trans (hbl.mono (by show _ ≤ w1.heap.size; omega)); have BB := B2; have hz2 : w1.heap.size ≤ w2.heap.size := hbl.size; have z2 := Lib.hid (HZ.out.draw.below hbl hlz); clear hbl)
        | (go_at_call_of 40 (Value.slice B fb.length d); refine (F3.out _ ?_).mono ?_; (exact B2); rintro e w3 ⟨⟨G3, k3, rfl, l3, ge3⟩, hbl⟩; have N3 := Lib.hid ge3; clear ge3; have B3 : Below (gx + 1 + 1) w1 w3 := B2.trans (hbl.mono (by omega)); have BB := B3; have hz3 : w1.heap.size ≤ w3.heap.size := Nat.le_trans hz2 hbl.size; have z3 := Lib.hid (z2.out.below hbl (by omega)); have L3 := Lib.hid l3; clear hbl l3)
        | (go_at_call_of 40 (Value.slice B' bb.length d'); refine (F4.out _ ?_).mono ?_; (exact B3); rintro e w4 ⟨⟨G4, k4, rfl, l4, ge4⟩, hbl⟩; have N4 := Lib.hid ge4; clear ge4; have B4 : Below (gx + 1 + 1) w1 w4 := B3.trans (hbl.mono (by omega)); have BB := B4; have hz4 : w1.heap.size ≤ w4.heap.size := Nat.le_trans hz3 hbl.size; have z4 := Lib.hid (z3.out.below hbl (by omega)); have L34 := Lib.hid ((L3.out.below hbl).wide hbl.size); have L4 := Lib.hid l4; clear hbl l4)
        | (go_at_call_of 36 (Value.agg #[Value.slice B fb.length d, Value.slice B' bb.length d', S rb]); refine (F2.out _ ?_).mono ?_; (exact B4); rintro e w5 ⟨rfl, hbl⟩; have B5 : Below (gx + 1 + 1) w1 w5 := B4.trans (hbl.mono (by omega)); have BB := B5; have hz5 : w1.heap.size ≤ w5.heap.size := Nat.le_trans hz4 hbl.size; have z5 := Lib.hid (z4.out.below hbl (by omega)); have L35 := Lib.hid ((L34.out.below hbl).wide hbl.size); have L45 := Lib.hid ((L4.out.below hbl).wide hbl.size); clear hbl)
        | (refine upon_store (by rfl) (gx + 1 + 1) 0 _ (dCells DA (.slice G3 W1.length k3) (.slice G4 W2.length k4) rb DB) (by exact built_list DA DB D1.out D2.out _ _ _ _ _ _ _) Tryd.zeroCells32.toList 32 z5.out (HC.out _ _ _ _) (dCells_one _ _ _ _ _ _ _ _ _) ?_; intro w6 H6 F6; have BB := below_grown B5 F6.out (by omega) (Nat.le_refl _)))
    have h6 : Whole w6 (gx + 1 + 1) 32 (dCells DA (.slice G3 W1.length k3) (.slice G4 W2.length k4) rb DB).toArray := by
      have := H6.out
      rw [dCells_length D1.out D2.out, show Tryd.zeroCells32.toList.drop (0 + 67) = [] from by kernel_rfl, List.take_zero, List.nil_append, List.append_nil] at this
      exact this
    go_wp2
    refine bodyPost_ret (v := .agg (dCells DA (.slice G3 W1.length k3) (.slice G4 W2.length k4) rb DB).toArray) (results_cell_row rfl _ _ (gx + 1 + 1) 32 _ (0, 0) _ rfl h6 Tryd.underlying32 rfl (by rw [List.size_toArray]; exact HI.out _ _ _ _)) rfl ?_
    unfold OfPost
    rw [HL.out, onto_true, onto_true, onto_true, HDA.out, HDB.out, HW1.out, HW2.out]
    refine ⟨⟨G3, k3, G4, k4, rfl, lies_after L35.out F6.out (fun ad e _ => ?_), lies_after L45.out F6.out (fun ad e _ => ?_), fun ad e => ?_, fun ad e => ?_⟩, ?_⟩
    · have := N3.out ad e; omega
    · have := N4.out ad e; omega
    · have := N3.out ad e; rw [HGX.out]; omega
    · have := N4.out ad e; rw [HGX.out]; omega
    · rw [HGX.out]; exact HW.out.trans (BB.mono (by omega))
  · have d1 : decide (fb.length < fa.length) = false := by simpa using h1
    by_cases h2 : bb.length < ba.length
    · have d2 : decide (bb.length < ba.length) = true := by simpa using h2
      have hless : less fa ba fb bb = true := by simp [less, h2]
      have HL := Lib.hid hless
      clear hless
      go_enter Tryd.func15, Tryd.ntmps15
      go_wp2_with fail
      have hx := (Whole.made w 24 #[Value.slice none 0 0, Value.slice none 0 0, S []]).block (.cells #[.slice B fb.length d, .slice B' bb.length d', S rb] 24) |>.block (.cells Tryd.zeroCells32 32)
      have hy := (Whole.made (w.alloc (.cells #[Value.slice none 0 0, Value.slice none 0 0, S []] 24)) 24 #[.slice B fb.length d, .slice B' bb.length d', S rb]).block (.cells Tryd.zeroCells32 32)
      have hz := Whole.made ((w.alloc (.cells #[Value.slice none 0 0, Value.slice none 0 0, S []] 24)).alloc (.cells #[.slice B fb.length d, .slice B' bb.length d', S rb] 24)) 32 Tryd.zeroCells32
      have hb : Below w.heap.size w (((w.alloc (.cells #[Value.slice none 0 0, Value.slice none 0 0, S []] 24)).alloc (.cells #[.slice B fb.length d, .slice B' bb.length d', S rb] 24)).alloc (.cells Tryd.zeroCells32 32)) := (((Below.refl _ _).alloc (Nat.le_refl _) _).alloc (by simp) _).alloc (by simp; omega) _
      rw [show (w.alloc (.cells #[Value.slice none 0 0, Value.slice none 0 0, S []] 24)).heap.size = w.heap.size + 1 by simp] at hy
      rw [show ((w.alloc (.cells #[Value.slice none 0 0, Value.slice none 0 0, S []] 24)).alloc (.cells #[.slice B fb.length d, .slice B' bb.length d', S rb] 24)).heap.size = w.heap.size + 1 + 1 by simp] at hz
      have c0 : _ = some (Value.slice none 0 0) := hx.cell 0
      have c1 : _ = some (Value.slice none 0 0) := hx.cell 1
      have c2 : _ = some (S []) := hx.cell 2
      have e0 : _ = some (Value.slice B fb.length d) := hy.cell 0
      have e1 : _ = some (Value.slice B' bb.length d') := hy.cell 1
      have e2 : _ = some (S rb) := hy.cell 2
      have HZ : Hid (Whole _ _ 32 Tryd.zeroCells32.toList.toArray) := Lib.hid (by simpa using hz)
      have HW := Lib.hid hb
      have hlz := hz.lt
      clear hx hy hz hb
      generalize ((w.alloc (.cells #[Value.slice none 0 0, Value.slice none 0 0, S []] 24)).alloc (.cells #[.slice B fb.length d, .slice B' bb.length d', S rb] 24)).alloc (.cells Tryd.zeroCells32 32) = w1 at *
      have C0 := Lib.hid c0
      have C1 := Lib.hid c1
      have C2 := Lib.hid c2
      have E0 := Lib.hid e0
      have E1 := Lib.hid e1
      have E2 := Lib.hid e2
      generalize hgx : w.heap.size = gx at *
      have HGX := Lib.hid hgx
      clear hgx
      have hTW : ∀ W : World, Below (gx + 1 + 1) w1 W → Tabs W := fun W hW => HT.out.below (by rw [HGX.out]; exact Nat.le_refl _) (HW.out.trans (hW.mono (by omega)))
      have hL : ∀ (W : World) (G : Option Addr) (xs : List Value), Below (gx + 1 + 1) w1 W → Lies w gx G xs → Lies W W.heap.size G xs := fun W G xs hW h => ((h.below HW.out).below (hW.mono (by omega))).wide (by have := hW.size; omega)
      have f1 : ∀ W : World, Below (gx + 1 + 1) w1 W → Calls Tryd.prog 36 #[.agg #[Value.slice none 0 0, Value.slice none 0 0, S []]] W fun e w' => e = .returned (D32 (dig (imgB [] [] []))) ∧ Below W.heap.size W w' := fun W hW => imgSum_any W none none 0 0 [] [] [] (hTW W hW) (Lies.none _ _ _) (Lies.none _ _ _) (by simp [sizeOf])
      have f2 : ∀ W : World, Below (gx + 1 + 1) w1 W → Calls Tryd.prog 36 #[.agg #[.slice B fb.length d, .slice B' bb.length d', S rb]] W fun e w' => e = .returned (D32 (dig (imgB fb bb rb))) ∧ Below W.heap.size W w' := fun W hW => imgSum_any W B B' d d' fb bb rb (hTW W hW) (hL W _ _ hW HB.out) (hL W _ _ hW HB'.out) hs'
      have f3 : ∀ W : World, Below (gx + 1 + 1) w1 W → Calls Tryd.prog 40 #[Value.slice none 0 0, .slice B fb.length d] W fun e w' => (∃ G k, e = .returned (.slice G (othersTo [] fb fb.length).length k) ∧ Lies w' w'.heap.size G (wCells (othersTo [] fb fb.length)) ∧ ∀ ad, G = some ad → W.heap.size ≤ ad.block) ∧ Below W.heap.size W w' := fun W hW => others_lies W none B 0 d [] fb (Lies.none _ _ _) (hL W _ _ hW HB.out) (by simp) (by omega)
      have f4 : ∀ W : World, Below (gx + 1 + 1) w1 W → Calls Tryd.prog 40 #[Value.slice none 0 0, .slice B' bb.length d'] W fun e w' => (∃ G k, e = .returned (.slice G (othersTo [] bb bb.length).length k) ∧ Lies w' w'.heap.size G (wCells (othersTo [] bb bb.length)) ∧ ∀ ad, G = some ad → W.heap.size ≤ ad.block) ∧ Below W.heap.size W w' := fun W hW => others_lies W none B' 0 d' [] bb (Lies.none _ _ _) (hL W _ _ hW HB'.out) (by simp) (by omega)
      have F1 := Lib.hid f1
      have F2 := Lib.hid f2
      have F3 := Lib.hid f3
      have F4 := Lib.hid f4
      clear f1 f2 f3 f4 hTW hL
      have D1 := Lib.hid (dig_length (imgB [] [] []))
      have D2 := Lib.hid (dig_length (imgB fb bb rb))
      obtain ⟨DA, HDA⟩ : ∃ z, Hid (dig (imgB [] [] []) = z) := ⟨_, Lib.hid rfl⟩
      obtain ⟨DB, HDB⟩ : ∃ z, Hid (dig (imgB fb bb rb) = z) := ⟨_, Lib.hid rfl⟩
      rw [HDA.out] at D1 F1
      rw [HDB.out] at D2 F2
      obtain ⟨W1, HW1⟩ : ∃ z, Hid (othersTo [] fb fb.length = z) := ⟨_, Lib.hid rfl⟩
      obtain ⟨W2, HW2⟩ : ∃ z, Hid (othersTo [] bb bb.length = z) := ⟨_, Lib.hid rfl⟩
      rw [HW1.out] at F3
      rw [HW2.out] at F4
      have o1 := D1.out
      have o2 := D2.out
      have HI : Hid (∀ G3 k3 G4 k4, (Tryd.prog.info? 32).map (·.size) = some (dCells DA (.slice G3 W1.length k3) (.slice G4 W2.length k4) rb DB).length) := Lib.hid (fun _ _ _ _ => by rw [dCells_length D1.out D2.out]; kernel_rfl)
      have HC : Hid (∀ G3 k3 G4 k4, 0 + (dCells DA (.slice G3 W1.length k3) (.slice G4 W2.length k4) rb DB).length ≤ Tryd.zeroCells32.toList.length) := Lib.hid (fun _ _ _ _ => by rw [dCells_length D1.out D2.out]; decide)
      go_region_held3 (fun w' => w'.cell? ⟨gx, 0, none⟩ = some (Value.slice none 0 0) ∧ w'.cell? ⟨gx, 1, none⟩ = some (Value.slice none 0 0) ∧ w'.cell? ⟨gx, 2, none⟩ = some (S []) ∧ w'.cell? ⟨gx + 1, 0, none⟩ = some (Value.slice B fb.length d) ∧ w'.cell? ⟨gx + 1, 1, none⟩ = some (Value.slice B' bb.length d') ∧ w'.cell? ⟨gx + 1, 2, none⟩ = some (S rb))
        (first
          | go_keep
          | (exact ⟨(BB.cell (p := ⟨gx, 0, none⟩) (by show gx < _; omega)).trans C0.out, (BB.cell (p := ⟨gx, 1, none⟩) (by show gx < _; omega)).trans C1.out, (BB.cell (p := ⟨gx, 2, none⟩) (by show gx < _; omega)).trans C2.out, (BB.cell (p := ⟨gx + 1, 0, none⟩) (by show gx + 1 < _; omega)).trans E0.out, (BB.cell (p := ⟨gx + 1, 1, none⟩) (by show gx + 1 < _; omega)).trans E1.out, (BB.cell (p := ⟨gx + 1, 2, none⟩) (by show gx + 1 < _; omega)).trans E2.out⟩))
        (first
          | (go_at_call_of 36 (Value.agg #[Value.slice none 0 0, Value.slice none 0 0, S []]); refine (F1.out _ ?_).mono ?_; (exact (Below.refl _ _).drew); rintro e w2 ⟨rfl, hbl⟩; have B2 : Below (gx + 1 + 1) w1 w2 := ((Below.refl _ _).drew).trans (hbl.mono (by show _ ≤ w1.heap.size; omega)); have BB := B2; have hz2 : w1.heap.size ≤ w2.heap.size := hbl.size; have z2 := Lib.hid (HZ.out.draw.below hbl hlz); clear hbl)
          | (go_at_call_of 40 (Value.slice B fb.length d); refine (F3.out _ ?_).mono ?_; (exact B2); rintro e w3 ⟨⟨G3, k3, rfl, l3, ge3⟩, hbl⟩; have N3 := Lib.hid ge3; clear ge3; have B3 : Below (gx + 1 + 1) w1 w3 := B2.trans (hbl.mono (by omega)); have BB := B3; have hz3 : w1.heap.size ≤ w3.heap.size := Nat.le_trans hz2 hbl.size; have z3 := Lib.hid (z2.out.below hbl (by omega)); have L3 := Lib.hid l3; clear hbl l3)
          | (go_at_call_of 40 (Value.slice B' bb.length d'); refine (F4.out _ ?_).mono ?_; (exact B3); rintro e w4 ⟨⟨G4, k4, rfl, l4, ge4⟩, hbl⟩; have N4 := Lib.hid ge4; clear ge4; have B4 : Below (gx + 1 + 1) w1 w4 := B3.trans (hbl.mono (by omega)); have BB := B4; have hz4 : w1.heap.size ≤ w4.heap.size := Nat.le_trans hz3 hbl.size; have z4 := Lib.hid (z3.out.below hbl (by omega)); have L34 := Lib.hid ((L3.out.below hbl).wide hbl.size); have L4 := Lib.hid l4; clear hbl l4)
          | (go_at_call_of 36 (Value.agg #[Value.slice B fb.length d, Value.slice B' bb.length d', S rb]); refine (F2.out _ ?_).mono ?_; (exact B4); rintro e w5 ⟨rfl, hbl⟩; have B5 : Below (gx + 1 + 1) w1 w5 := B4.trans (hbl.mono (by omega)); have BB := B5; have hz5 : w1.heap.size ≤ w5.heap.size := Nat.le_trans hz4 hbl.size; have z5 := Lib.hid (z4.out.below hbl (by omega)); have L35 := Lib.hid ((L34.out.below hbl).wide hbl.size); have L45 := Lib.hid ((L4.out.below hbl).wide hbl.size); clear hbl)
          | (refine upon_store (by rfl) (gx + 1 + 1) 0 _ (dCells DA (.slice G3 W1.length k3) (.slice G4 W2.length k4) rb DB) (by exact built_list DA DB D1.out D2.out _ _ _ _ _ _ _) Tryd.zeroCells32.toList 32 z5.out (HC.out _ _ _ _) (dCells_one _ _ _ _ _ _ _ _ _) ?_; intro w6 H6 F6; have BB := below_grown B5 F6.out (by omega) (Nat.le_refl _)))
      have h6 : Whole w6 (gx + 1 + 1) 32 (dCells DA (.slice G3 W1.length k3) (.slice G4 W2.length k4) rb DB).toArray := by
        have := H6.out
        rw [dCells_length D1.out D2.out, show Tryd.zeroCells32.toList.drop (0 + 67) = [] from by kernel_rfl, List.take_zero, List.nil_append, List.append_nil] at this
        exact this
      go_wp2
      refine bodyPost_ret (v := .agg (dCells DA (.slice G3 W1.length k3) (.slice G4 W2.length k4) rb DB).toArray) (results_cell_row rfl _ _ (gx + 1 + 1) 32 _ (0, 0) _ rfl h6 Tryd.underlying32 rfl (by rw [List.size_toArray]; exact HI.out _ _ _ _)) rfl ?_
      unfold OfPost
      rw [HL.out, onto_true, onto_true, onto_true, HDA.out, HDB.out, HW1.out, HW2.out]
      refine ⟨⟨G3, k3, G4, k4, rfl, lies_after L35.out F6.out (fun ad e _ => ?_), lies_after L45.out F6.out (fun ad e _ => ?_), fun ad e => ?_, fun ad e => ?_⟩, ?_⟩
      · have := N3.out ad e; omega
      · have := N4.out ad e; omega
      · have := N3.out ad e; rw [HGX.out]; omega
      · have := N4.out ad e; rw [HGX.out]; omega
      · rw [HGX.out]; exact HW.out.trans (BB.mono (by omega))
    · have d2 : decide (bb.length < ba.length) = false := by simpa using h2
      have hless : less fa ba fb bb = false := by simp [less, h1, h2]
      have HL := Lib.hid hless
      clear hless
      go_enter Tryd.func15, Tryd.ntmps15
      go_wp2_with fail
      have hx := (Whole.made w 24 #[Value.slice A fa.length c, Value.slice A' ba.length c', S ra]).block (.cells #[.slice B fb.length d, .slice B' bb.length d', S rb] 24) |>.block (.cells Tryd.zeroCells32 32)
      have hy := (Whole.made (w.alloc (.cells #[Value.slice A fa.length c, Value.slice A' ba.length c', S ra] 24)) 24 #[.slice B fb.length d, .slice B' bb.length d', S rb]).block (.cells Tryd.zeroCells32 32)
      have hz := Whole.made ((w.alloc (.cells #[Value.slice A fa.length c, Value.slice A' ba.length c', S ra] 24)).alloc (.cells #[.slice B fb.length d, .slice B' bb.length d', S rb] 24)) 32 Tryd.zeroCells32
      have hb : Below w.heap.size w (((w.alloc (.cells #[Value.slice A fa.length c, Value.slice A' ba.length c', S ra] 24)).alloc (.cells #[.slice B fb.length d, .slice B' bb.length d', S rb] 24)).alloc (.cells Tryd.zeroCells32 32)) := (((Below.refl _ _).alloc (Nat.le_refl _) _).alloc (by simp) _).alloc (by simp; omega) _
      rw [show (w.alloc (.cells #[Value.slice A fa.length c, Value.slice A' ba.length c', S ra] 24)).heap.size = w.heap.size + 1 by simp] at hy
      rw [show ((w.alloc (.cells #[Value.slice A fa.length c, Value.slice A' ba.length c', S ra] 24)).alloc (.cells #[.slice B fb.length d, .slice B' bb.length d', S rb] 24)).heap.size = w.heap.size + 1 + 1 by simp] at hz
      have c0 : _ = some (Value.slice A fa.length c) := hx.cell 0
      have c1 : _ = some (Value.slice A' ba.length c') := hx.cell 1
      have c2 : _ = some (S ra) := hx.cell 2
      have e0 : _ = some (Value.slice B fb.length d) := hy.cell 0
      have e1 : _ = some (Value.slice B' bb.length d') := hy.cell 1
      have e2 : _ = some (S rb) := hy.cell 2
      have HZ : Hid (Whole _ _ 32 Tryd.zeroCells32.toList.toArray) := Lib.hid (by simpa using hz)
      have HW := Lib.hid hb
      have hlz := hz.lt
      clear hx hy hz hb
      generalize ((w.alloc (.cells #[Value.slice A fa.length c, Value.slice A' ba.length c', S ra] 24)).alloc (.cells #[.slice B fb.length d, .slice B' bb.length d', S rb] 24)).alloc (.cells Tryd.zeroCells32 32) = w1 at *
      have C0 := Lib.hid c0
      have C1 := Lib.hid c1
      have C2 := Lib.hid c2
      have E0 := Lib.hid e0
      have E1 := Lib.hid e1
      have E2 := Lib.hid e2
      generalize hgx : w.heap.size = gx at *
      have HGX := Lib.hid hgx
      clear hgx
      have hTW : ∀ W : World, Below (gx + 1 + 1) w1 W → Tabs W := fun W hW => HT.out.below (by rw [HGX.out]; exact Nat.le_refl _) (HW.out.trans (hW.mono (by omega)))
      have hL : ∀ (W : World) (G : Option Addr) (xs : List Value), Below (gx + 1 + 1) w1 W → Lies w gx G xs → Lies W W.heap.size G xs := fun W G xs hW h => ((h.below HW.out).below (hW.mono (by omega))).wide (by have := hW.size; omega)
      have f1 : ∀ W : World, Below (gx + 1 + 1) w1 W → Calls Tryd.prog 36 #[.agg #[Value.slice A fa.length c, Value.slice A' ba.length c', S ra]] W fun e w' => e = .returned (D32 (dig (imgB fa ba ra))) ∧ Below W.heap.size W w' := fun W hW => imgSum_any W A A' c c' fa ba ra (hTW W hW) (hL W _ _ hW HA.out) (hL W _ _ hW HA'.out) hs
      have f2 : ∀ W : World, Below (gx + 1 + 1) w1 W → Calls Tryd.prog 36 #[.agg #[.slice B fb.length d, .slice B' bb.length d', S rb]] W fun e w' => e = .returned (D32 (dig (imgB fb bb rb))) ∧ Below W.heap.size W w' := fun W hW => imgSum_any W B B' d d' fb bb rb (hTW W hW) (hL W _ _ hW HB.out) (hL W _ _ hW HB'.out) hs'
      have f3 : ∀ W : World, Below (gx + 1 + 1) w1 W → Calls Tryd.prog 40 #[Value.slice A fa.length c, .slice B fb.length d] W fun e w' => (∃ G k, e = .returned (.slice G (othersTo fa fb fb.length).length k) ∧ Lies w' w'.heap.size G (wCells (othersTo fa fb fb.length)) ∧ ∀ ad, G = some ad → W.heap.size ≤ ad.block) ∧ Below W.heap.size W w' := fun W hW => others_lies W A B c d fa fb (hL W _ _ hW HA.out) (hL W _ _ hW HB.out) (by omega) (by omega)
      have f4 : ∀ W : World, Below (gx + 1 + 1) w1 W → Calls Tryd.prog 40 #[Value.slice A' ba.length c', .slice B' bb.length d'] W fun e w' => (∃ G k, e = .returned (.slice G (othersTo ba bb bb.length).length k) ∧ Lies w' w'.heap.size G (wCells (othersTo ba bb bb.length)) ∧ ∀ ad, G = some ad → W.heap.size ≤ ad.block) ∧ Below W.heap.size W w' := fun W hW => others_lies W A' B' c' d' ba bb (hL W _ _ hW HA'.out) (hL W _ _ hW HB'.out) (by omega) (by omega)
      have F1 := Lib.hid f1
      have F2 := Lib.hid f2
      have F3 := Lib.hid f3
      have F4 := Lib.hid f4
      clear f1 f2 f3 f4 hTW hL
      have D1 := Lib.hid (dig_length (imgB fa ba ra))
      have D2 := Lib.hid (dig_length (imgB fb bb rb))
      obtain ⟨DA, HDA⟩ : ∃ z, Hid (dig (imgB fa ba ra) = z) := ⟨_, Lib.hid rfl⟩
      obtain ⟨DB, HDB⟩ : ∃ z, Hid (dig (imgB fb bb rb) = z) := ⟨_, Lib.hid rfl⟩
      rw [HDA.out] at D1 F1
      rw [HDB.out] at D2 F2
      obtain ⟨W1, HW1⟩ : ∃ z, Hid (othersTo fa fb fb.length = z) := ⟨_, Lib.hid rfl⟩
      obtain ⟨W2, HW2⟩ : ∃ z, Hid (othersTo ba bb bb.length = z) := ⟨_, Lib.hid rfl⟩
      rw [HW1.out] at F3
      rw [HW2.out] at F4
      have o1 := D1.out
      have o2 := D2.out
      have HI : Hid (∀ G3 k3 G4 k4, (Tryd.prog.info? 32).map (·.size) = some (dCells DA (.slice G3 W1.length k3) (.slice G4 W2.length k4) rb DB).length) := Lib.hid (fun _ _ _ _ => by rw [dCells_length D1.out D2.out]; kernel_rfl)
      have HC : Hid (∀ G3 k3 G4 k4, 0 + (dCells DA (.slice G3 W1.length k3) (.slice G4 W2.length k4) rb DB).length ≤ Tryd.zeroCells32.toList.length) := Lib.hid (fun _ _ _ _ => by rw [dCells_length D1.out D2.out]; decide)
      go_region_held3 (fun w' => w'.cell? ⟨gx, 0, none⟩ = some (Value.slice A fa.length c) ∧ w'.cell? ⟨gx, 1, none⟩ = some (Value.slice A' ba.length c') ∧ w'.cell? ⟨gx, 2, none⟩ = some (S ra) ∧ w'.cell? ⟨gx + 1, 0, none⟩ = some (Value.slice B fb.length d) ∧ w'.cell? ⟨gx + 1, 1, none⟩ = some (Value.slice B' bb.length d') ∧ w'.cell? ⟨gx + 1, 2, none⟩ = some (S rb))
        (first
          | go_keep
          | (exact ⟨(BB.cell (p := ⟨gx, 0, none⟩) (by show gx < _; omega)).trans C0.out, (BB.cell (p := ⟨gx, 1, none⟩) (by show gx < _; omega)).trans C1.out, (BB.cell (p := ⟨gx, 2, none⟩) (by show gx < _; omega)).trans C2.out, (BB.cell (p := ⟨gx + 1, 0, none⟩) (by show gx + 1 < _; omega)).trans E0.out, (BB.cell (p := ⟨gx + 1, 1, none⟩) (by show gx + 1 < _; omega)).trans E1.out, (BB.cell (p := ⟨gx + 1, 2, none⟩) (by show gx + 1 < _; omega)).trans E2.out⟩))
        (first
          | (go_at_call_of 36 (Value.agg #[Value.slice A fa.length c, Value.slice A' ba.length c', S ra]); refine (F1.out _ ?_).mono ?_; (exact (Below.refl _ _).drew); rintro e w2 ⟨rfl, hbl⟩; have B2 : Below (gx + 1 + 1) w1 w2 := ((Below.refl _ _).drew).trans (hbl.mono (by show _ ≤ w1.heap.size; omega)); have BB := B2; have hz2 : w1.heap.size ≤ w2.heap.size := hbl.size; have z2 := Lib.hid (HZ.out.draw.below hbl hlz); clear hbl)
          | (go_at_call_of 40 (Value.slice B fb.length d); refine (F3.out _ ?_).mono ?_; (exact B2); rintro e w3 ⟨⟨G3, k3, rfl, l3, ge3⟩, hbl⟩; have N3 := Lib.hid ge3; clear ge3; have B3 : Below (gx + 1 + 1) w1 w3 := B2.trans (hbl.mono (by omega)); have BB := B3; have hz3 : w1.heap.size ≤ w3.heap.size := Nat.le_trans hz2 hbl.size; have z3 := Lib.hid (z2.out.below hbl (by omega)); have L3 := Lib.hid l3; clear hbl l3)
          | (go_at_call_of 40 (Value.slice B' bb.length d'); refine (F4.out _ ?_).mono ?_; (exact B3); rintro e w4 ⟨⟨G4, k4, rfl, l4, ge4⟩, hbl⟩; have N4 := Lib.hid ge4; clear ge4; have B4 : Below (gx + 1 + 1) w1 w4 := B3.trans (hbl.mono (by omega)); have BB := B4; have hz4 : w1.heap.size ≤ w4.heap.size := Nat.le_trans hz3 hbl.size; have z4 := Lib.hid (z3.out.below hbl (by omega)); have L34 := Lib.hid ((L3.out.below hbl).wide hbl.size); have L4 := Lib.hid l4; clear hbl l4)
          | (go_at_call_of 36 (Value.agg #[Value.slice B fb.length d, Value.slice B' bb.length d', S rb]); refine (F2.out _ ?_).mono ?_; (exact B4); rintro e w5 ⟨rfl, hbl⟩; have B5 : Below (gx + 1 + 1) w1 w5 := B4.trans (hbl.mono (by omega)); have BB := B5; have hz5 : w1.heap.size ≤ w5.heap.size := Nat.le_trans hz4 hbl.size; have z5 := Lib.hid (z4.out.below hbl (by omega)); have L35 := Lib.hid ((L34.out.below hbl).wide hbl.size); have L45 := Lib.hid ((L4.out.below hbl).wide hbl.size); clear hbl)
          | (refine upon_store (by rfl) (gx + 1 + 1) 0 _ (dCells DA (.slice G3 W1.length k3) (.slice G4 W2.length k4) rb DB) (by exact built_list DA DB D1.out D2.out _ _ _ _ _ _ _) Tryd.zeroCells32.toList 32 z5.out (HC.out _ _ _ _) (dCells_one _ _ _ _ _ _ _ _ _) ?_; intro w6 H6 F6; have BB := below_grown B5 F6.out (by omega) (Nat.le_refl _)))
      have h6 : Whole w6 (gx + 1 + 1) 32 (dCells DA (.slice G3 W1.length k3) (.slice G4 W2.length k4) rb DB).toArray := by
        have := H6.out
        rw [dCells_length D1.out D2.out, show Tryd.zeroCells32.toList.drop (0 + 67) = [] from by kernel_rfl, List.take_zero, List.nil_append, List.append_nil] at this
        exact this
      go_wp2
      refine bodyPost_ret (v := .agg (dCells DA (.slice G3 W1.length k3) (.slice G4 W2.length k4) rb DB).toArray) (results_cell_row rfl _ _ (gx + 1 + 1) 32 _ (0, 0) _ rfl h6 Tryd.underlying32 rfl (by rw [List.size_toArray]; exact HI.out _ _ _ _)) rfl ?_
      unfold OfPost
      rw [HL.out, onto_false, onto_false, onto_false, HDA.out, HDB.out, HW1.out, HW2.out]
      refine ⟨⟨G3, k3, G4, k4, rfl, lies_after L35.out F6.out (fun ad e _ => ?_), lies_after L45.out F6.out (fun ad e _ => ?_), fun ad e => ?_, fun ad e => ?_⟩, ?_⟩
      · have := N3.out ad e; omega
      · have := N4.out ad e; omega
      · have := N3.out ad e; rw [HGX.out]; omega
      · have := N4.out ad e; rw [HGX.out]; omega
      · rw [HGX.out]; exact HW.out.trans (BB.mono (by omega))
end Go.Proofs.YtecamaceainfpaaDoor
