/-
  Walk: delta.Of.
-/
import Derived.Test.YtecamaceainfpaaDoorRowsA
import Derived.Test.YtecamaceainfpaaDoorBase
import Derived.Deep.QuietTactic
import Derived.BigQuiet
import Derived.Deep.RegionWith
import Derived.Orders
namespace Go.Proofs.YtecamaceainfpaaDoor
open Go.RowKit

theorem own_shape {w : World} {base : Nat} {e : TypeId} {size n : Nat} {v : Value} {xs : List Value} (h : w.ownsRow base e size v n xs) (_hs : 0 < size) : ∃ A c, v = .slice A n c ∧ Lies w w.heap.size A xs ∧ ∀ ad, A = some ad → base ≤ ad.block := by
  rcases h.2 with ⟨rfl, hx⟩ | ⟨g, cap, cur, rfl, hb, hh, hnc, hcur⟩
  · subst hx
    obtain rfl : xs = [] := List.eq_nil_of_length_eq_zero (by have := h.1; omega)
    exact ⟨none, 0, rfl, Lies.none _ _ _, fun _ h => by cases h⟩
  · exact ⟨_, _, rfl, fun k u hu => ⟨_, rfl, (Array.getElem?_eq_some_iff.1 hh).1, h.cells (g := g) rfl k u hu⟩, fun ad h => by injection h with h; subst h; exact hb⟩
theorem others_lies (w : World) (A A' : Option Addr) (c c' : Nat) (a b : List (List UInt8)) (hA : Strs w w.heap.size A a) (hA' : Strs w w.heap.size A' b) (ha : a.length ≤ 1099511627776) (hb : b.length ≤ 1099511627776) :
    Calls Tryd.prog 40 #[.slice A a.length c, .slice A' b.length c'] w fun e w' => (∃ G k, e = .returned (.slice G (othersTo a b b.length).length k) ∧ Lies w' w'.heap.size G (wCells (othersTo a b b.length)) ∧ ∀ ad, G = some ad → w.heap.size ≤ ad.block) ∧ Below w.heap.size w w' :=
  (others_any w A A' c c' a b hA hA' ha hb).mono fun e w' ⟨⟨v, he, ho⟩, hbl⟩ => by
    obtain ⟨G, k, rfl, hl, hge⟩ := own_shape ho (by omega)
    exact ⟨⟨G, k, he, hl, hge⟩, hbl⟩

theorem foldl_size {α : Type} : ∀ (L : List (α × Nat)) (k : Nat) (Z : Array α), (L.foldl (fun cs x => cs.setIfInBounds (k + x.2) x.1) Z).size = Z.size
  | [], _, _ => rfl
  | x :: L, k, Z => by rw [List.foldl_cons, foldl_size L k]; simp
theorem foldl_size0 {α : Type} (L : List (α × Nat)) (Z : Array α) : (L.foldl (fun cs x => cs.setIfInBounds x.2 x.1) Z).size = Z.size := by
  have := foldl_size L 0 Z
  simpa using this
theorem zero32 : Tryd.zeroCells32.size = 67 := by kernel_rfl
set_option maxRecDepth 100000 in
theorem built_eq (f t : List UInt8) (hf : f.length = 32) (ht : t.length = 32) (G : Option Addr) (n k : Nat) (G' : Option Addr) (n' k' : Nat) (r : List UInt8) :
    Value.agg (List.foldl (fun cs x => cs.setIfInBounds (35 + x.snd) x.fst) ((((List.foldl (fun cs x => cs.setIfInBounds x.snd x.fst) Tryd.zeroCells32 (List.map B8 f).zipIdx).setIfInBounds 32 (.slice G n k)).setIfInBounds 33 (.slice G' n' k')).setIfInBounds 34 (S r)) (List.map B8 t).zipIdx) = .agg (dCells f (.slice G n k) (.slice G' n' k') r t).toArray := by
  obtain ⟨x0, x1, x2, x3, x4, x5, x6, x7, x8, x9, x10, x11, x12, x13, x14, x15, x16, x17, x18, x19, x20, x21, x22, x23, x24, x25, x26, x27, x28, x29, x30, x31, rfl⟩ := list32 f hf
  obtain ⟨y0, y1, y2, y3, y4, y5, y6, y7, y8, y9, y10, y11, y12, y13, y14, y15, y16, y17, y18, y19, y20, y21, y22, y23, y24, y25, y26, y27, y28, y29, y30, y31, rfl⟩ := list32 t ht
  kernel_rfl
theorem built_list (f t : List UInt8) (hf : f.length = 32) (ht : t.length = 32) (G : Option Addr) (n k : Nat) (G' : Option Addr) (n' k' : Nat) (r : List UInt8) :
    (List.foldl (fun cs x => cs.setIfInBounds (35 + x.snd) x.fst) ((((List.foldl (fun cs x => cs.setIfInBounds x.snd x.fst) Tryd.zeroCells32 (List.map B8 f).zipIdx).setIfInBounds 32 (.slice G n k)).setIfInBounds 33 (.slice G' n' k')).setIfInBounds 34 (S r)) (List.map B8 t).zipIdx).toList = dCells f (.slice G n k) (.slice G' n' k') r t := by
  have h := built_eq f t hf ht G n k G' n' k' r
  injection h with h
  rw [h]
theorem upon_store {P : Program} {o : Oper} {a : Act} {w : World} {K : Act → World → Prop} {Q : Exit → Act → World → Prop} (hdst : o.dst = none) (g off : Nat) (L cs : List Value) (hL : L = cs)
    (cur : List Value) (t : TypeId) (hg : Whole w g t cur.toArray) (hfit : off + cs.length ≤ cur.length) (h1 : ∀ v ∈ cs, v.oneCell' = true)
    (h : ∀ w', Hid (Whole w' g t (cur.take off ++ (cs ++ cur.drop (off + cs.length))).toArray) → Hid (w.grownBy w' (some g)) → K a w') :
    Oper.upon P o a K Q ((Sem.run P (storeCells ⟨g, off, none⟩ L) w).andThen fun _ w' => Result.ok Next.skip w') := by
  subst hL
  have hrun := run_storeCells_at (P := P) g off t L 0 cur.toArray w hg (by simpa using hfit) h1
  simp only [Nat.add_zero, List.append_assoc] at hrun
  have hk := h _ (Lib.hid (setRow_whole hg _)) (Lib.hid (setRow_only w g (cur.take off ++ (L ++ cur.drop (off + L.length))).toArray))
  rw [hrun]
  simpa [Oper.upon, Act.put, hdst, Result.andThen] using hk
theorem lies_after {w w' : World} {g : Nat} {A : Option Addr} {xs : List Value} (h : Lies w w.heap.size A xs) (hf : w.grownBy w' (some g)) (hg : ∀ ad, A = some ad → xs ≠ [] → ad.block ≠ g) : Lies w' w'.heap.size A xs := fun k u hu => by
  obtain ⟨ad, e, hb, hc⟩ := h k u hu
  have hne : ad.block ≠ g := hg ad e (by rintro rfl; simp at hu)
  refine ⟨ad, e, Nat.lt_of_lt_of_le hb hf.size, ?_⟩
  have hbl : (ad.add k).block = ad.block := by unfold Addr.add; split <;> rfl
  rw [← hc]
  exact World.cell?_of_block (hf.block _ (by rw [hbl]; exact hb) (by rw [hbl]; intro e2; injection e2 with e2; exact hne e2))
attribute [local go_sem] foldl_size foldl_size0 zero32
/-- does b have fewer pages, or blocks, than a? -/
def less (fa ba fb bb : List (List UInt8)) : Bool := decide (fb.length < fa.length) || decide (bb.length < ba.length)

/-- what of an image is gone on from: nothing, if the other one is less -/
def onto {α : Type} (l : Bool) (x : List α) : List α := if l then [] else x
theorem onto_true {α : Type} (x : List α) : onto true x = [] := rfl
theorem onto_false {α : Type} (x : List α) : onto false x = x := rfl
/-- the delta from a to b, as the program makes it -/
def OfPost (w : World) (fa ba fb bb : List (List UInt8)) (ra rb : List UInt8) (e : Ending) (w' : World) : Prop :=
  (∃ G k G' k', e = .returned (.agg (dCells (dig (imgB (onto (less fa ba fb bb) fa) (onto (less fa ba fb bb) ba) (onto (less fa ba fb bb) ra)))
      (.slice G (othersTo (onto (less fa ba fb bb) fa) fb fb.length).length k) (.slice G' (othersTo (onto (less fa ba fb bb) ba) bb bb.length).length k') rb (dig (imgB fb bb rb))).toArray) ∧
    Lies w' w'.heap.size G (wCells (othersTo (onto (less fa ba fb bb) fa) fb fb.length)) ∧ Lies w' w'.heap.size G' (wCells (othersTo (onto (less fa ba fb bb) ba) bb bb.length)) ∧
    (∀ ad, G = some ad → w.heap.size ≤ ad.block) ∧ (∀ ad, G' = some ad → w.heap.size ≤ ad.block)) ∧ Below w.heap.size w w'
set_option maxRecDepth 100000 in
set_option maxHeartbeats 2000000 in
theorem of_any (w : World) (A A' B B' : Option Addr) (c c' d d' : Nat) (fa ba fb bb : List (List UInt8)) (ra rb : List UInt8) (hT : Tabs w) (hA : Strs w w.heap.size A fa) (hA' : Strs w w.heap.size A' ba) (hB : Strs w w.heap.size B fb) (hB' : Strs w w.heap.size B' bb)
    (hs : sizeOf fa + sizeOf ba + ra.length ≤ 4294967296) (hs' : sizeOf fb + sizeOf bb + rb.length ≤ 4294967296) :
    Calls Tryd.prog 15 #[.agg #[.slice A fa.length c, .slice A' ba.length c', S ra], .agg #[.slice B fb.length d, .slice B' bb.length d', S rb]] w (OfPost w fa ba fb bb ra rb) := by
  have HT := Lib.hid hT
  have HA := Lib.hid hA
  have HA' := Lib.hid hA'
  have HB := Lib.hid hB
  have HB' := Lib.hid hB'
  clear hT hA hA' hB hB'
  have la := length_le_sizeOf fa
  have la' := length_le_sizeOf ba
  have lb := length_le_sizeOf fb
  have lb' := length_le_sizeOf bb
  by_cases h1 : fb.length < fa.length
  · have d1 : decide (fb.length < fa.length) = true := by simpa using h1
    have hless : less fa ba fb bb = true := by simp [less, h1]
    have HL := Lib.hid hless
    clear hless
    go_enter Tryd.func15, Tryd.ntmps15
    go_wp2_with fail
    have hx := (Whole.made w 24 #[Value.slice none 0 0, Value.slice none 0 0, S []]).block (.cells #[.slice B fb.length d, .slice B' bb.length d', S rb] 24) |>.block (.cells Tryd.zeroCells32 32)
    have hy := (Whole.made (w.alloc (.cells #[Value.slice none 0 0, Value.slice none 0 0, S []] 24)) 24 #[.slice B fb.length d, .slice B' bb.length d', S rb]).block (.cells Tryd.zeroCells32 32)
    have hz := Whole.made ((w.alloc (.cells #[Value.slice none 0 0, Value.slice none 0 0, S []] 24)).alloc (.cells #[.slice B fb.length d, .slice B' bb.length d', S rb] 24)) 32 Tryd.zeroCells32
    have hb : Below w.heap.size w (((w.alloc (.cells #[Value.slice none 0 0, Value.slice none 0 0, S []] 24)).alloc (.cells #[.slice B fb.length d, .slice B' bb.length d', S rb] 24)).alloc (.cells Tryd.zeroCells32 32)) := (((Below.refl _ _).alloc (Nat.le_refl _) _).alloc (by simp) _).alloc (by simp; omega) _
    rw [show (w.alloc (.cells #[Value.slice none 0 0, Value.slice none 0 0, S []] 24)).heap.size = w.heap.size + 1 by simp] at hy
    rw [show ((w.alloc (.cells #[Value.slice none 0 0, Value.slice none 0 0, S []] 24)).alloc (.cells #[.slice B fb.length d, .slice B' bb.length d', S rb] 24)).heap.size = w.heap.size + 1 + 1 by simp] at hz
    have c0 : _ = some (Value.slice none 0 0) := hx.cell 0
    have c1 : _ = some (Value.slice none 0 0) := hx.cell 1
    have c2 : _ = some (S []) := hx.cell 2
    have e0 : _ = some (Value.slice B fb.length d) := hy.cell 0
    have e1 : _ = some (Value.slice B' bb.length d') := hy.cell 1
    have e2 : _ = some (S rb) := hy.cell 2
    have HZ : Hid (Whole _ _ 32 Tryd.zeroCells32.toList.toArray) := Lib.hid (by simpa using hz)
    have HW := Lib.hid hb
    have hlz := hz.lt
    clear hx hy hz hb
    generalize ((w.alloc (.cells #[Value.slice none 0 0, Value.slice none 0 0, S []] 24)).alloc (.cells #[.slice B fb.length d, .slice B' bb.length d', S rb] 24)).alloc (.cells Tryd.zeroCells32 32) = w1 at *
    have C0 := Lib.hid c0
    have C1 := Lib.hid c1
    have C2 := Lib.hid c2
    have E0 := Lib.hid e0
    have E1 := Lib.hid e1
    have E2 := Lib.hid e2
    generalize hgx : w.heap.size = gx at *
    have HGX := Lib.hid hgx
    clear hgx
    have hTW : ∀ W : World, Below (gx + 1 + 1) w1 W → Tabs W := fun W hW => HT.out.below (by rw [HGX.out]; exact Nat.le_refl _) (HW.out.trans (hW.mono (by omega)))
    have hL : ∀ (W : World) (G : Option Addr) (xs : List Value), Below (gx + 1 + 1) w1 W → Lies w gx G xs → Lies W W.heap.size G xs := fun W G xs hW h => ((h.below HW.out).below (hW.mono (by omega))).wide (by have := hW.size; omega)
    have f1 : ∀ W : World, Below (gx + 1 + 1) w1 W → Calls Tryd.prog 36 #[.agg #[Value.slice none 0 0, Value.slice none 0 0, S []]] W fun e w' => e = .returned (D32 (dig (imgB [] [] []))) ∧ Below W.heap.size W w' := fun W hW => imgSum_any W none none 0 0 [] [] [] (hTW W hW) (Lies.none _ _ _) (Lies.none _ _ _) (by simp [sizeOf])
    have f2 : ∀ W : World, Below (gx + 1 + 1) w1 W → Calls Tryd.prog 36 #[.agg #[.slice B fb.length d, .slice B' bb.length d', S rb]] W fun e w' => e = .returned (D32 (dig (imgB fb bb rb))) ∧ Below W.heap.size W w' := fun W hW => imgSum_any W B B' d d' fb bb rb (hTW W hW) (hL W _ _ hW HB.out) (hL W _ _ hW HB'.out) hs'
    have f3 : ∀ W : World, Below (gx + 1 + 1) w1 W → Calls Tryd.prog 40 #[Value.slice none 0 0, .slice B fb.length d] W fun e w' => (∃ G k, e = .returned (.slice G (othersTo [] fb fb.length).length k) ∧ Lies w' w'.heap.size G (wCells (othersTo [] fb fb.length)) ∧ ∀ ad, G = some ad → W.heap.size ≤ ad.block) ∧ Below W.heap.size W w' := fun W hW => others_lies W none B 0 d [] fb (Lies.none _ _ _) (hL W _ _ hW HB.out) (by simp) (by omega)
    have f4 : ∀ W : World, Below (gx + 1 + 1) w1 W → Calls Tryd.prog 40 #[Value.slice none 0 0, .slice B' bb.length d'] W fun e w' => (∃ G k, e = .returned (.slice G (othersTo [] bb bb.length).length k) ∧ Lies w' w'.heap.size G (wCells (othersTo [] bb bb.length)) ∧ ∀ ad, G = some ad → W.heap.size ≤ ad.block) ∧ Below W.heap.size W w' := fun W hW => others_lies W none B' 0 d' [] bb (Lies.none _ _ _) (hL W _ _ hW HB'.out) (by simp) (by omega)
    have F1 := Lib.hid f1
    have F2 := Lib.hid f2
    have F3 := Lib.hid f3
    have F4 := Lib.hid f4
    clear f1 f2 f3 f4 hTW hL
    have D1 := Lib.hid (dig_length (imgB [] [] []))
    have D2 := Lib.hid (dig_length (imgB fb bb rb))
    obtain ⟨DA, HDA⟩ : ∃ z, Hid (dig (imgB [] [] []) = z) := ⟨_, Lib.hid rfl⟩
    obtain ⟨DB, HDB⟩ : ∃ z, Hid (dig (imgB fb bb rb) = z) := ⟨_, Lib.hid rfl⟩
    rw [HDA.out] at D1 F1
    rw [HDB.out] at D2 F2
    obtain ⟨W1, HW1⟩ : ∃ z, Hid (othersTo [] fb fb.length = z) := ⟨_, Lib.hid rfl⟩
    obtain ⟨W2, HW2⟩ : ∃ z, Hid (othersTo [] bb bb.length = z) := ⟨_, Lib.hid rfl⟩
    rw [HW1.out] at F3
    rw [HW2.out] at F4
    have o1 := D1.out
    have o2 := D2.out
    have HI : Hid (∀ G3 k3 G4 k4, (Tryd.prog.info? 32).map (·.size) = some (dCells DA (.slice G3 W1.length k3) (.slice G4 W2.length k4) rb DB).length) := Lib.hid (fun _ _ _ _ => by rw [dCells_length D1.out D2.out]; kernel_rfl)
    have HC : Hid (∀ G3 k3 G4 k4, 0 + (dCells DA (.slice G3 W1.length k3) (.slice G4 W2.length k4) rb DB).length ≤ Tryd.zeroCells32.toList.length) := Lib.hid (fun _ _ _ _ => by rw [dCells_length D1.out D2.out]; decide)
    go_region_held3 (fun w' => w'.cell? ⟨gx, 0, none⟩ = some (Value.slice none 0 0) ∧ w'.cell? ⟨gx, 1, none⟩ = some (Value.slice none 0 0) ∧ w'.cell? ⟨gx, 2, none⟩ = some (S []) ∧ w'.cell? ⟨gx + 1, 0, none⟩ = some (Value.slice B fb.length d) ∧ w'.cell? ⟨gx + 1, 1, none⟩ = some (Value.slice B' bb.length d') ∧ w'.cell? ⟨gx + 1, 2, none⟩ = some (S rb))
      (first
        | go_keep
        | (exact ⟨(BB.cell (p := ⟨gx, 0, none⟩) (by show gx < _; omega)).trans C0.out, (BB.cell (p := ⟨gx, 1, none⟩) (by show gx < _; omega)).trans C1.out, (BB.cell (p := ⟨gx, 2, none⟩) (by show gx < _; omega)).trans C2.out, (BB.cell (p := ⟨gx + 1, 0, none⟩) (by show gx + 1 < _; omega)).trans E0.out, (BB.cell (p := ⟨gx + 1, 1, none⟩) (by show gx + 1 < _; omega)).trans E1.out, (BB.cell (p := ⟨gx + 1, 2, none⟩) (by show gx + 1 < _; omega)).trans E2.out⟩))
      (first
        | (go_at_call_of 36 (Value.agg #[Value.slice none 0 0, Value.slice none 0 0, S []]); refine (F1.out _ ?_).mono ?_; (exact (Below.refl _ _).drew); rintro e w2 ⟨rfl, hbl⟩; have B2 : Below (gx + 1 + 1) w1 w2 := ((Below.refl _ _).drew).trans (hbl.mono (by show _ ≤ w1.heap.size; omega)); have BB := B2; have hz2 : w1.heap.size ≤ w2.heap.size := hbl.size; have z2 := Lib.hid (HZ.out.draw.below hbl hlz); clear hbl)
        | (go_at_call_of 40 (Value.slice B fb.length d); refine (F3.out _ ?_).mono ?_; (exact B2); rintro e w3 ⟨⟨G3, k3, rfl, l3, ge3⟩, hbl⟩; have N3 := Lib.hid ge3; clear ge3; have B3 : Below (gx + 1 + 1) w1 w3 := B2.trans (hbl.mono (by omega)); have BB := B3; have hz3 : w1.heap.size ≤ w3.heap.size := Nat.le_trans hz2 hbl.size; have z3 := Lib.hid (z2.out.below hbl (by omega)); have L3 := Lib.hid l3; clear hbl l3)
        | (go_at_call_of 40 (Value.slice B' bb.length d'); refine (F4.out _ ?_).mono ?_; (exact B3); rintro e w4 ⟨⟨G4, k4, rfl, l4, ge4⟩, hbl⟩; have N4 := Lib.hid ge4; clear ge4; have B4 : Below (gx + 1 + 1) w1 w4 := B3.trans (hbl.mono (by omega)); have BB := B4; have hz4 : w1.heap.size ≤ w4.heap.size := Nat.le_trans hz3 hbl.size; have z4 := Lib.hid (z3.out.below hbl (by omega)); have L34 := Lib.hid ((L3.out.below hbl).wide hbl.size); have L4 := Lib.hid l4; clear hbl l4)
        | (go_at_call_of 36 (Value.agg #[Value.slice B fb.length d, Value.slice B' bb.length d', S rb]); refine (F2.out _ ?_).mono ?_; (exact B4); rintro e w5 ⟨rfl, hbl⟩; have B5 : Below (gx + 1 + 1) w1 w5 := B4.trans (hbl.mono (by omega)); have BB := B5; have hz5 : w1.heap.size ≤ w5.heap.size := Nat.le_trans hz4 hbl.size; have z5 := Lib.hid (z4.out.below hbl (by omega)); have L35 := Lib.hid ((L34.out.below hbl).wide hbl.size); have L45 := Lib.hid ((L4.out.below hbl).wide hbl.size); clear hbl)
        | (refine upon_store (by rfl) (gx + 1 + 1) 0 _ (dCells DA (.slice G3 W1.length k3) (.slice G4 W2.length k4) rb DB) (by exact built_list DA DB D1.out D2.out _ _ _ _ _ _ _) Tryd.zeroCells32.toList 32 z5.out (HC.out _ _ _ _) (dCells_one _ _ _ _ _ _ _ _ _) ?_; intro w6 H6 F6; have BB := below_grown B5 F6.out (by omega) (Nat.le_refl _)))
    have h6 : Whole w6 (gx + 1 + 1) 32 (dCells DA (.slice G3 W1.length k3) (.slice G4 W2.length k4) rb DB).toArray := by
      have := H6.out
      rw [dCells_length D1.out D2.out, show Tryd.zeroCells32.toList.drop (0 + 67) = [] from by kernel_rfl, List.take_zero, List.nil_append, List.append_nil] at this
      exact this
    go_wp2
    refine bodyPost_ret (v := .agg (dCells DA (.slice G3 W1.length k3) (.slice G4 W2.length k4) rb DB).toArray) (results_cell_row rfl _ _ (gx + 1 + 1) 32 _ (0, 0) _ rfl h6 Tryd.underlying32 rfl (by rw [List.size_toArray]; exact HI.out _ _ _ _)) rfl ?_
    unfold OfPost
    rw [HL.out, onto_true, onto_true, onto_true, HDA.out, HDB.out, HW1.out, HW2.out]
    refine ⟨⟨G3, k3, G4, k4, rfl, lies_after L35.out F6.out (fun ad e _ => ?_), lies_after L45.out F6.out (fun ad e _ => ?_), fun ad e => ?_, fun ad e => ?_⟩, ?_⟩
    · have := N3.out ad e; omega
    · have := N4.out ad e; omega
    · have := N3.out ad e; rw [HGX.out]; omega
    · have := N4.out ad e; rw [HGX.out]; omega
    · rw [HGX.out]; exact HW.out.trans (BB.mono (by omega))
  · have d1 : decide (fb.length < fa.length) = false := by simpa using h1
    by_cases h2 : bb.length < ba.length
    · have d2 : decide (bb.length < ba.length) = true := by simpa using h2
      have hless : less fa ba fb bb = true := by simp [less, h2]
      have HL := Lib.hid hless
      clear hless
      go_enter Tryd.func15, Tryd.ntmps15
      go_wp2_with fail
      have hx := (Whole.made w 24 #[Value.slice none 0 0, Value.slice none 0 0, S []]).block (.cells #[.slice B fb.length d, .slice B' bb.length d', S rb] 24) |>.block (.cells Tryd.zeroCells32 32)
      have hy := (Whole.made (w.alloc (.cells #[Value.slice none 0 0, Value.slice none 0 0, S []] 24)) 24 #[.slice B fb.length d, .slice B' bb.length d', S rb]).block (.cells Tryd.zeroCells32 32)
      have hz := Whole.made ((w.alloc (.cells #[Value.slice none 0 0, Value.slice none 0 0, S []] 24)).alloc (.cells #[.slice B fb.length d, .slice B' bb.length d', S rb] 24)) 32 Tryd.zeroCells32
      have hb : Below w.heap.size w (((w.alloc (.cells #[Value.slice none 0 0, Value.slice none 0 0, S []] 24)).alloc (.cells #[.slice B fb.length d, .slice B' bb.length d', S rb] 24)).alloc (.cells Tryd.zeroCells32 32)) := (((Below.refl _ _).alloc (Nat.le_refl _) _).alloc (by simp) _).alloc (by simp; omega) _
      rw [show (w.alloc (.cells #[Value.slice none 0 0, Value.slice none 0 0, S []] 24)).heap.size = w.heap.size + 1 by simp] at hy
      rw [show ((w.alloc (.cells #[Value.slice none 0 0, Value.slice none 0 0, S []] 24)).alloc (.cells #[.slice B fb.length d, .slice B' bb.length d', S rb] 24)).heap.size = w.heap.size + 1 + 1 by simp] at hz
      have c0 : _ = some (Value.slice none 0 0) := hx.cell 0
      have c1 : _ = some (Value.slice none 0 0) := hx.cell 1
      have c2 : _ = some (S []) := hx.cell 2
      have e0 : _ = some (Value.slice B fb.length d) := hy.cell 0
      have e1 : _ = some (Value.slice B' bb.length d') := hy.cell 1
      have e2 : _ = some (S rb) := hy.cell 2
      have HZ : Hid (Whole _ _ 32 Tryd.zeroCells32.toList.toArray) := Lib.hid (by simpa using hz)
      have HW := Lib.hid hb
      have hlz := hz.lt
      clear hx hy hz hb
      generalize ((w.alloc (.cells #[Value.slice none 0 0, Value.slice none 0 0, S []] 24)).alloc (.cells #[.slice B fb.length d, .slice B' bb.length d', S rb] 24)).alloc (.cells Tryd.zeroCells32 32) = w1 at *
      have C0 := Lib.hid c0
      have C1 := Lib.hid c1
      have C2 := Lib.hid c2
      have E0 := Lib.hid e0
      have E1 := Lib.hid e1
      have E2 := Lib.hid e2
      generalize hgx : w.heap.size = gx at *
      have HGX := Lib.hid hgx
      clear hgx
      have hTW : ∀ W : World, Below (gx + 1 + 1) w1 W → Tabs W := fun W hW => HT.out.below (by rw [HGX.out]; exact Nat.le_refl _) (HW.out.trans (hW.mono (by omega)))
      have hL : ∀ (W : World) (G : Option Addr) (xs : List Value), Below (gx + 1 + 1) w1 W → Lies w gx G xs → Lies W W.heap.size G xs := fun W G xs hW h => ((h.below HW.out).below (hW.mono (by omega))).wide (by have := hW.size; omega)
      have f1 : ∀ W : World, Below (gx + 1 + 1) w1 W → Calls Tryd.prog 36 #[.agg #[Value.slice none 0 0, Value.slice none 0 0, S []]] W fun e w' => e = .returned (D32 (dig (imgB [] [] []))) ∧ Below W.heap.size W w' := fun W hW => imgSum_any W none none 0 0 [] [] [] (hTW W hW) (Lies.none _ _ _) (Lies.none _ _ _) (by simp [sizeOf])
      have f2 : ∀ W : World, Below (gx + 1 + 1) w1 W → Calls Tryd.prog 36 #[.agg #[.slice B fb.length d, .slice B' bb.length d', S rb]] W fun e w' => e = .returned (D32 (dig (imgB fb bb rb))) ∧ Below W.heap.size W w' := fun W hW => imgSum_any W B B' d d' fb bb rb (hTW W hW) (hL W _ _ hW HB.out) (hL W _ _ hW HB'.out) hs'
      have f3 : ∀ W : World, Below (gx + 1 + 1) w1 W → Calls Tryd.prog 40 #[Value.slice none 0 0, .slice B fb.length d] W fun e w' => (∃ G k, e = .returned (.slice G (othersTo [] fb fb.length).length k) ∧ Lies w' w'.heap.size G (wCells (othersTo [] fb fb.length)) ∧ ∀ ad, G = some ad → W.heap.size ≤ ad.block) ∧ Below W.heap.size W w' := fun W hW => others_lies W none B 0 d [] fb (Lies.none _ _ _) (hL W _ _ hW HB.out) (by simp) (by omega)
      have f4 : ∀ W : World, Below (gx + 1 + 1) w1 W → Calls Tryd.prog 40 #[Value.slice none 0 0, .slice B' bb.length d'] W fun e w' => (∃ G k, e = .returned (.slice G (othersTo [] bb bb.length).length k) ∧ Lies w' w'.heap.size G (wCells (othersTo [] bb bb.length)) ∧ ∀ ad, G = some ad → W.heap.size ≤ ad.block) ∧ Below W.heap.size W w' := fun W hW => others_lies W none B' 0 d' [] bb (Lies.none _ _ _) (hL W _ _ hW HB'.out) (by simp) (by omega)
      have F1 := Lib.hid f1
      have F2 := Lib.hid f2
      have F3 := Lib.hid f3
      have F4 := Lib.hid f4
      clear f1 f2 f3 f4 hTW hL
      have D1 := Lib.hid (dig_length (imgB [] [] []))
      have D2 := Lib.hid (dig_length (imgB fb bb rb))
      obtain ⟨DA, HDA⟩ : ∃ z, Hid (dig (imgB [] [] []) = z) := ⟨_, Lib.hid rfl⟩
      obtain ⟨DB, HDB⟩ : ∃ z, Hid (dig (imgB fb bb rb) = z) := ⟨_, Lib.hid rfl⟩
      rw [HDA.out] at D1 F1
      rw [HDB.out] at D2 F2
      obtain ⟨W1, HW1⟩ : ∃ z, Hid (othersTo [] fb fb.length = z) := ⟨_, Lib.hid rfl⟩
      obtain ⟨W2, HW2⟩ : ∃ z, Hid (othersTo [] bb bb.length = z) := ⟨_, Lib.hid rfl⟩
      rw [HW1.out] at F3
      rw [HW2.out] at F4
      have o1 := D1.out
      have o2 := D2.out
      have HI : Hid (∀ G3 k3 G4 k4, (Tryd.prog.info? 32).map (·.size) = some (dCells DA (.slice G3 W1.length k3) (.slice G4 W2.length k4) rb DB).length) := Lib.hid (fun _ _ _ _ => by rw [dCells_length D1.out D2.out]; kernel_rfl)
      have HC : Hid (∀ G3 k3 G4 k4, 0 + (dCells DA (.slice G3 W1.length k3) (.slice G4 W2.length k4) rb DB).length ≤ Tryd.zeroCells32.toList.length) := Lib.hid (fun _ _ _ _ => by rw [dCells_length D1.out D2.out]; decide)
      go_region_held3 (fun w' => w'.cell? ⟨gx, 0, none⟩ = some (Value.slice none 0 0) ∧ w'.cell? ⟨gx, 1, none⟩ = some (Value.slice none 0 0) ∧ w'.cell? ⟨gx, 2, none⟩ = some (S []) ∧ w'.cell? ⟨gx + 1, 0, none⟩ = some (Value.slice B fb.length d) ∧ w'.cell? ⟨gx + 1, 1, none⟩ = some (Value.slice B' bb.length d') ∧ w'.cell? ⟨gx + 1, 2, none⟩ = some (S rb))
        (first
          | go_keep
          | (exact ⟨(BB.cell (p := ⟨gx, 0, none⟩) (by show gx < _; omega)).trans C0.out, (BB.cell (p := ⟨gx, 1, none⟩) (by show gx < _; omega)).trans C1.out, (BB.cell (p := ⟨gx, 2, none⟩) (by show gx < _; omega)).trans C2.out, (BB.cell (p := ⟨gx + 1, 0, none⟩) (by show gx + 1 < _; omega)).trans E0.out, (BB.cell (p := ⟨gx + 1, 1, none⟩) (by show gx + 1 < _; omega)).trans E1.out, (BB.cell (p := ⟨gx + 1, 2, none⟩) (by show gx + 1 < _; omega)).trans E2.out⟩))
        (first
          | (go_at_call_of 36 (Value.agg #[Value.slice none 0 0, Value.slice none 0 0, S []]); refine (F1.out _ ?_).mono ?_; (exact (Below.refl _ _).drew); rintro e w2 ⟨rfl, hbl⟩; have B2 : Below (gx + 1 + 1) w1 w2 := ((Below.refl _ _).drew).trans (hbl.mono (by show _ ≤ w1.heap.size; omega)); have BB := B2; have hz2 : w1.heap.size ≤ w2.heap.size := hbl.size; have z2 := Lib.hid (HZ.out.draw.below hbl hlz); clear hbl)
          | (go_at_call_of 40 (Value.slice B fb.length d); refine (F3.out _ ?_).mono ?_; (exact B2); rintro e w3 ⟨⟨G3, k3, rfl, l3, ge3⟩, hbl⟩; have N3 := Lib.hid ge3; clear ge3; have B3 : Below (gx + 1 + 1) w1 w3 := B2.trans (hbl.mono (by omega)); have BB := B3; have hz3 : w1.heap.size ≤ w3.heap.size := Nat.le_trans hz2 hbl.size; have z3 := Lib.hid (z2.out.below hbl (by omega)); have L3 := Lib.hid l3; clear hbl l3)
          | (go_at_call_of 40 (Value.slice B' bb.length d'); refine (F4.out _ ?_).mono ?_; (exact B3); rintro e w4 ⟨⟨G4, k4, rfl, l4, ge4⟩, hbl⟩; have N4 := Lib.hid ge4; clear ge4; have B4 : Below (gx + 1 + 1) w1 w4 := B3.trans (hbl.mono (by omega)); have BB := B4; have hz4 : w1.heap.size ≤ w4.heap.size := Nat.le_trans hz3 hbl.size; have z4 := Lib.hid (z3.out.below hbl (by omega)); have L34 := Lib.hid ((L3.out.below hbl).wide hbl.size); have L4 := Lib.hid l4; clear hbl l4)
          | (go_at_call_of 36 (Value.agg #[Value.slice B fb.length d, Value.slice B' bb.length d', S rb]); refine (F2.out _ ?_).mono ?_; (exact B4); rintro e w5 ⟨rfl, hbl⟩; have B5 : Below (gx + 1 + 1) w1 w5 := B4.trans (hbl.mono (by omega)); have BB := B5; have hz5 : w1.heap.size ≤ w5.heap.size := Nat.le_trans hz4 hbl.size; have z5 := Lib.hid (z4.out.below hbl (by omega)); have L35 := Lib.hid ((L34.out.below hbl).wide hbl.size); have L45 := Lib.hid ((L4.out.below hbl).wide hbl.size); clear hbl)
          | (refine upon_store (by rfl) (gx + 1 + 1) 0 _ (dCells DA (.slice G3 W1.length k3) (.slice G4 W2.length k4) rb DB) (by exact built_list DA DB D1.out D2.out _ _ _ _ _ _ _) Tryd.zeroCells32.toList 32 z5.out (HC.out _ _ _ _) (dCells_one _ _ _ _ _ _ _ _ _) ?_; intro w6 H6 F6; have BB := below_grown B5 F6.out (by omega) (Nat.le_refl _)))
      have h6 : Whole w6 (gx + 1 + 1) 32 (dCells DA (.slice G3 W1.length k3) (.slice G4 W2.length k4) rb DB).toArray := by
        have := H6.out
        rw [dCells_length D1.out D2.out, show Tryd.zeroCells32.toList.drop (0 + 67) = [] from by kernel_rfl, List.take_zero, List.nil_append, List.append_nil] at this
        exact this
      go_wp2
      refine bodyPost_ret (v := .agg (dCells DA (.slice G3 W1.length k3) (.slice G4 W2.length k4) rb DB).toArray) (results_cell_row rfl _ _ (gx + 1 + 1) 32 _ (0, 0) _ rfl h6 Tryd.underlying32 rfl (by rw [List.size_toArray]; exact HI.out _ _ _ _)) rfl ?_
      unfold OfPost
      rw [HL.out, onto_true, onto_true, onto_true, HDA.out, HDB.out, HW1.out, HW2.out]
      refine ⟨⟨G3, k3, G4, k4, rfl, lies_after L35.out F6.out (fun ad e _ => ?_), lies_after L45.out F6.out (fun ad e _ => ?_), fun ad e => ?_, fun ad e => ?_⟩, ?_⟩
      · have := N3.out ad e; omega
      · have := N4.out ad e; omega
      · have := N3.out ad e; rw [HGX.out]; omega
      · have := N4.out ad e; rw [HGX.out]; omega
      · rw [HGX.out]; exact HW.out.trans (BB.mono (by omega))
    · have d2 : decide (bb.length < ba.length) = false := by simpa using h2
      have hless : less fa ba fb bb = false := by simp [less, h1, h2]
      have HL := Lib.hid hless
      clear hless
      go_enter Tryd.func15, Tryd.ntmps15
      go_wp2_with fail
      have hx := (Whole.made w 24 #[Value.slice A fa.length c, Value.slice A' ba.length c', S ra]).block (.cells #[.slice B fb.length d, .slice B' bb.length d', S rb] 24) |>.block (.cells Tryd.zeroCells32 32)
      have hy := (Whole.made (w.alloc (.cells #[Value.slice A fa.length c, Value.slice A' ba.length c', S ra] 24)) 24 #[.slice B fb.length d, .slice B' bb.length d', S rb]).block (.cells Tryd.zeroCells32 32)
      have hz := Whole.made ((w.alloc (.cells #[Value.slice A fa.length c, Value.slice A' ba.length c', S ra] 24)).alloc (.cells #[.slice B fb.length d, .slice B' bb.length d', S rb] 24)) 32 Tryd.zeroCells32
      have hb : Below w.heap.size w (((w.alloc (.cells #[Value.slice A fa.length c, Value.slice A' ba.length c', S ra] 24)).alloc (.cells #[.slice B fb.length d, .slice B' bb.length d', S rb] 24)).alloc (.cells Tryd.zeroCells32 32)) := (((Below.refl _ _).alloc (Nat.le_refl _) _).alloc (by simp) _).alloc (by simp; omega) _
      rw [show (w.alloc (.cells #[Value.slice A fa.length c, Value.slice A' ba.length c', S ra] 24)).heap.size = w.heap.size + 1 by simp] at hy
      rw [show ((w.alloc (.cells #[Value.slice A fa.length c, Value.slice A' ba.length c', S ra] 24)).alloc (.cells #[.slice B fb.length d, .slice B' bb.length d', S rb] 24)).heap.size = w.heap.size + 1 + 1 by simp] at hz
      have c0 : _ = some (Value.slice A fa.length c) := hx.cell 0
      have c1 : _ = some (Value.slice A' ba.length c') := hx.cell 1
      have c2 : _ = some (S ra) := hx.cell 2
      have e0 : _ = some (Value.slice B fb.length d) := hy.cell 0
      have e1 : _ = some (Value.slice B' bb.length d') := hy.cell 1
      have e2 : _ = some (S rb) := hy.cell 2
      have HZ : Hid (Whole _ _ 32 Tryd.zeroCells32.toList.toArray) := Lib.hid (by simpa using hz)
      have HW := Lib.hid hb
      have hlz := hz.lt
      clear hx hy hz hb
      generalize ((w.alloc (.cells #[Value.slice A fa.length c, Value.slice A' ba.length c', S ra] 24)).alloc (.cells #[.slice B fb.length d, .slice B' bb.length d', S rb] 24)).alloc (.cells Tryd.zeroCells32 32) = w1 at *
      have C0 := Lib.hid c0
      have C1 := Lib.hid c1
      have C2 := Lib.hid c2
      have E0 := Lib.hid e0
      have E1 := Lib.hid e1
      have E2 := Lib.hid e2
      generalize hgx : w.heap.size = gx at *
      have HGX := Lib.hid hgx
      clear hgx
      have hTW : ∀ W : World, Below (gx + 1 + 1) w1 W → Tabs W := fun W hW => HT.out.below (by rw [HGX.out]; exact Nat.le_refl _) (HW.out.trans (hW.mono (by omega)))
      have hL : ∀ (W : World) (G : Option Addr) (xs : List Value), Below (gx + 1 + 1) w1 W → Lies w gx G xs → Lies W W.heap.size G xs := fun W G xs hW h => ((h.below HW.out).below (hW.mono (by omega))).wide (by have := hW.size; omega)
      have f1 : ∀ W : World, Below (gx + 1 + 1) w1 W → Calls Tryd.prog 36 #[.agg #[Value.slice A fa.length c, Value.slice A' ba.length c', S ra]] W fun e w' => e = .returned (D32 (dig (imgB fa ba ra))) ∧ Below W.heap.size W w' := fun W hW => imgSum_any W A A' c c' fa ba ra (hTW W hW) (hL W _ _ hW HA.out) (hL W _ _ hW HA'.out) hs
      have f2 : ∀ W : World, Below (gx + 1 + 1) w1 W → Calls Tryd.prog 36 #[.agg #[.slice B fb.length d, .slice B' bb.length d', S rb]] W fun e w' => e = .returned (D32 (dig (imgB fb bb rb))) ∧ Below W.heap.size W w' := fun W hW => imgSum_any W B B' d d' fb bb rb (hTW W hW) (hL W _ _ hW HB.out) (hL W _ _ hW HB'.out) hs'
      have f3 : ∀ W : World, Below (gx + 1 + 1) w1 W → Calls Tryd.prog 40 #[Value.slice A fa.length c, .slice B fb.length d] W fun e w' => (∃ G k, e = .returned (.slice G (othersTo fa fb fb.length).length k) ∧ Lies w' w'.heap.size G (wCells (othersTo fa fb fb.length)) ∧ ∀ ad, G = some ad → W.heap.size ≤ ad.block) ∧ Below W.heap.size W w' := fun W hW => others_lies W A B c d fa fb (hL W _ _ hW HA.out) (hL W _ _ hW HB.out) (by omega) (by omega)
      have f4 : ∀ W : World, Below (gx + 1 + 1) w1 W → Calls Tryd.prog 40 #[Value.slice A' ba.length c', .slice B' bb.length d'] W fun e w' => (∃ G k, e = .returned (.slice G (othersTo ba bb bb.length).length k) ∧ Lies w' w'.heap.size G (wCells (othersTo ba bb bb.length)) ∧ ∀ ad, G = some ad → W.heap.size ≤ ad.block) ∧ Below W.heap.size W w' := fun W hW => others_lies W A' B' c' d' ba bb (hL W _ _ hW HA'.out) (hL W _ _ hW HB'.out) (by omega) (by omega)
      have F1 := Lib.hid f1
      have F2 := Lib.hid f2
      have F3 := Lib.hid f3
      have F4 := Lib.hid f4
      clear f1 f2 f3 f4 hTW hL
      have D1 := Lib.hid (dig_length (imgB fa ba ra))
      have D2 := Lib.hid (dig_length (imgB fb bb rb))
      obtain ⟨DA, HDA⟩ : ∃ z, Hid (dig (imgB fa ba ra) = z) := ⟨_, Lib.hid rfl⟩
      obtain ⟨DB, HDB⟩ : ∃ z, Hid (dig (imgB fb bb rb) = z) := ⟨_, Lib.hid rfl⟩
      rw [HDA.out] at D1 F1
      rw [HDB.out] at D2 F2
      obtain ⟨W1, HW1⟩ : ∃ z, Hid (othersTo fa fb fb.length = z) := ⟨_, Lib.hid rfl⟩
      obtain ⟨W2, HW2⟩ : ∃ z, Hid (othersTo ba bb bb.length = z) := ⟨_, Lib.hid rfl⟩
      rw [HW1.out] at F3
      rw [HW2.out] at F4
      have o1 := D1.out
      have o2 := D2.out
      have HI : Hid (∀ G3 k3 G4 k4, (Tryd.prog.info? 32).map (·.size) = some (dCells DA (.slice G3 W1.length k3) (.slice G4 W2.length k4) rb DB).length) := Lib.hid (fun _ _ _ _ => by rw [dCells_length D1.out D2.out]; kernel_rfl)
      have HC : Hid (∀ G3 k3 G4 k4, 0 + (dCells DA (.slice G3 W1.length k3) (.slice G4 W2.length k4) rb DB).length ≤ Tryd.zeroCells32.toList.length) := Lib.hid (fun _ _ _ _ => by rw [dCells_length D1.out D2.out]; decide)
      go_region_held3 (fun w' => w'.cell? ⟨gx, 0, none⟩ = some (Value.slice A fa.length c) ∧ w'.cell? ⟨gx, 1, none⟩ = some (Value.slice A' ba.length c') ∧ w'.cell? ⟨gx, 2, none⟩ = some (S ra) ∧ w'.cell? ⟨gx + 1, 0, none⟩ = some (Value.slice B fb.length d) ∧ w'.cell? ⟨gx + 1, 1, none⟩ = some (Value.slice B' bb.length d') ∧ w'.cell? ⟨gx + 1, 2, none⟩ = some (S rb))
        (first
          | go_keep
          | (exact ⟨(BB.cell (p := ⟨gx, 0, none⟩) (by show gx < _; omega)).trans C0.out, (BB.cell (p := ⟨gx, 1, none⟩) (by show gx < _; omega)).trans C1.out, (BB.cell (p := ⟨gx, 2, none⟩) (by show gx < _; omega)).trans C2.out, (BB.cell (p := ⟨gx + 1, 0, none⟩) (by show gx + 1 < _; omega)).trans E0.out, (BB.cell (p := ⟨gx + 1, 1, none⟩) (by show gx + 1 < _; omega)).trans E1.out, (BB.cell (p := ⟨gx + 1, 2, none⟩) (by show gx + 1 < _; omega)).trans E2.out⟩))
        (first
          | (go_at_call_of 36 (Value.agg #[Value.slice A fa.length c, Value.slice A' ba.length c', S ra]); refine (F1.out _ ?_).mono ?_; (exact (Below.refl _ _).drew); rintro e w2 ⟨rfl, hbl⟩; have B2 : Below (gx + 1 + 1) w1 w2 := ((Below.refl _ _).drew).trans (hbl.mono (by show _ ≤ w1.heap.size; omega)); have BB := B2; have hz2 : w1.heap.size ≤ w2.heap.size := hbl.size; have z2 := Lib.hid (HZ.out.draw.below hbl hlz); clear hbl)
          | (go_at_call_of 40 (Value.slice B fb.length d); refine (F3.out _ ?_).mono ?_; (exact B2); rintro e w3 ⟨⟨G3, k3, rfl, l3, ge3⟩, hbl⟩; have N3 := Lib.hid ge3; clear ge3; have B3 : Below (gx + 1 + 1) w1 w3 := B2.trans (hbl.mono (by omega)); have BB := B3; have hz3 : w1.heap.size ≤ w3.heap.size := Nat.le_trans hz2 hbl.size; have z3 := Lib.hid (z2.out.below hbl (by omega)); have L3 := Lib.hid l3; clear hbl l3)
          | (go_at_call_of 40 (Value.slice B' bb.length d'); refine (F4.out _ ?_).mono ?_; (exact B3); rintro e w4 ⟨⟨G4, k4, rfl, l4, ge4⟩, hbl⟩; have N4 := Lib.hid ge4; clear ge4; have B4 : Below (gx + 1 + 1) w1 w4 := B3.trans (hbl.mono (by omega)); have BB := B4; have hz4 : w1.heap.size ≤ w4.heap.size := Nat.le_trans hz3 hbl.size; have z4 := Lib.hid (z3.out.below hbl (by omega)); have L34 := Lib.hid ((L3.out.below hbl).wide hbl.size); have L4 := Lib.hid l4; clear hbl l4)
          | (go_at_call_of 36 (Value.agg #[Value.slice B fb.length d, Value.slice B' bb.length d', S rb]); refine (F2.out _ ?_).mono ?_; (exact B4); rintro e w5 ⟨rfl, hbl⟩; have B5 : Below (gx + 1 + 1) w1 w5 := B4.trans (hbl.mono (by omega)); have BB := B5; have hz5 : w1.heap.size ≤ w5.heap.size := Nat.le_trans hz4 hbl.size; have z5 := Lib.hid (z4.out.below hbl (by omega)); have L35 := Lib.hid ((L34.out.below hbl).wide hbl.size); have L45 := Lib.hid ((L4.out.below hbl).wide hbl.size); clear hbl)
          | (refine upon_store (by rfl) (gx + 1 + 1) 0 _ (dCells DA (.slice G3 W1.length k3) (.slice G4 W2.length k4) rb DB) (by exact built_list DA DB D1.out D2.out _ _ _ _ _ _ _) Tryd.zeroCells32.toList 32 z5.out (HC.out _ _ _ _) (dCells_one _ _ _ _ _ _ _ _ _) ?_; intro w6 H6 F6; have BB := below_grown B5 F6.out (by omega) (Nat.le_refl _)))
      have h6 : Whole w6 (gx + 1 + 1) 32 (dCells DA (.slice G3 W1.length k3) (.slice G4 W2.length k4) rb DB).toArray := by
        have := H6.out
        rw [dCells_length D1.out D2.out, show Tryd.zeroCells32.toList.drop (0 + 67) = [] from by kernel_rfl, List.take_zero, List.nil_append, List.append_nil] at this
        exact this
      go_wp2
      refine bodyPost_ret (v := .agg (dCells DA (.slice G3 W1.length k3) (.slice G4 W2.length k4) rb DB).toArray) (results_cell_row rfl _ _ (gx + 1 + 1) 32 _ (0, 0) _ rfl h6 Tryd.underlying32 rfl (by rw [List.size_toArray]; exact HI.out _ _ _ _)) rfl ?_
      unfold OfPost
      rw [HL.out, onto_false, onto_false, onto_false, HDA.out, HDB.out, HW1.out, HW2.out]
      refine ⟨⟨G3, k3, G4, k4, rfl, lies_after L35.out F6.out (fun ad e _ => ?_), lies_after L45.out F6.out (fun ad e _ => ?_), fun ad e => ?_, fun ad e => ?_⟩, ?_⟩
      · have := N3.out ad e; omega
      · have := N4.out ad e; omega
      · have := N3.out ad e; rw [HGX.out]; omega
      · have := N4.out ad e; rw [HGX.out]; omega
      · rw [HGX.out]; exact HW.out.trans (BB.mono (by omega))
end Go.Proofs.YtecamaceainfpaaDoor
/-
  Walk: hibernaclelaw35.great.
-/
namespace Go.Proofs.YtecamaceainfpaaDoor
open Go.RowKit

theorem ret_bool {a b : Bool} (h : a = b) : Ending.returned (.bool a) = .returned (.bool b) := by rw [h]
/-- an image as a value: where its lists lie, and what they hold -/
structure Im where
  A : Option Addr
  c : Nat
  fs : List (List UInt8)
  A' : Option Addr
  c' : Nat
  bs : List (List UInt8)
  r : List UInt8
def Im.cells (x : Im) : List Value := [.slice x.A x.fs.length x.c, .slice x.A' x.bs.length x.c', S x.r]
def Im.at_ (w : World) (B : Nat) (x : Im) : Prop := Strs w B x.A x.fs ∧ Strs w B x.A' x.bs
def Im.size (x : Im) : Nat := sizeOf x.fs + sizeOf x.bs + x.r.length
def imsCells (l : List Im) : List Value := l.flatMap Im.cells
def total (l : List Im) : Nat := (l.map Im.size).sum
theorem total_snoc (l : List Im) (k : Nat) (h : k < l.length) : total (l.take (k + 1)) = total (l.take k) + (l[k]).size := by
  unfold total; rw [List.take_succ_eq_append_getElem h, List.map_append, List.sum_append]; simp
theorem total_take_le (l : List Im) (k : Nat) : total (l.take k) ≤ total l := by
  conv => rhs; rw [← List.take_append_drop k l]
  simp only [total, List.map_append, List.sum_append]; omega
theorem imsCells_at : ∀ (l : List Im) (k : Nat) (h : k < l.length) (j : Nat), j < 3 → (imsCells l)[k * 3 + j]? = (l[k]).cells[j]?
  | x :: l, 0, _, j, hj => by
    show (x.cells ++ imsCells l)[0 * 3 + j]? = _
    rw [List.getElem?_append_left (by simp [Im.cells]; omega)]; simp
  | x :: l, k + 1, h, j, hj => by
    show (x.cells ++ imsCells l)[(k + 1) * 3 + j]? = _
    rw [List.getElem?_append_right (by simp [Im.cells]; omega), show (k + 1) * 3 + j - x.cells.length = k * 3 + j by simp [Im.cells]; omega]
    exact imsCells_at l k (by simpa using h) j hj

set_option maxRecDepth 100000 in
set_option maxHeartbeats 1000000 in
theorem great_any (w : World) (A : Option Addr) (c : Nat) (l : List Im) (hA : Lies w w.heap.size A (imsCells l)) (hl : ∀ x ∈ l, x.at_ w w.heap.size) (hn : l.length ≤ 1099511627776) (ht : total l ≤ 1099511627776) :
    Calls Tryd.prog 12 #[.slice A l.length c] w fun e w' => e = .returned (.bool (decide (4000 < total l))) ∧ Below w.heap.size w w' := by
  have HA := Lib.hid hA
  have HL := Lib.hid hl
  clear hA hl
  go_enter Tryd.func12, Tryd.ntmps12
  go_wp2
  go_loopw [3, 8] (fun s i wr => ∃ k : Nat, k ≤ l.length ∧ i = .int .i64 k ∧ s = .int .i64 (total (l.take k)) ∧ Hid (Below w.heap.size w wr)) (fun _ i _ => l.length - (intOf i).toNat)
  case atStart => exact ⟨0, by omega, rfl, rfl, Lib.hid (Below.refl _ _)⟩
  case round =>
    obtain ⟨k, hk, rfl, rfl, HB⟩ := hrel
    by_cases hlt : k < l.length
    · obtain ⟨ad, hA0, hb0, hc0⟩ := HA.out (k * 3 + 0) _ ((imsCells_at l k hlt 0 (by omega)).trans rfl)
      obtain ⟨ad1, hA1, _, hc1⟩ := HA.out (k * 3 + 1) _ ((imsCells_at l k hlt 1 (by omega)).trans rfl)
      obtain ⟨ad2, hA2, _, hc2⟩ := HA.out (k * 3 + 2) _ ((imsCells_at l k hlt 2 (by omega)).trans rfl)
      subst hA0
      obtain rfl : ad = ad1 := by injection hA1
      obtain rfl : ad = ad2 := by injection hA2
      clear hA1 hA2
      have hx := HL.out l[k] (List.getElem_mem hlt)
      have hsz : (l[k]).size ≤ 1099511627776 := by
        have h1 := total_snoc l k hlt
        have h2 := total_take_le l (k + 1)
        omega
      have hts : total (l.take k) + (l[k]).size ≤ 1099511627776 := by
        have h1 := total_snoc l k hlt
        have h2 := total_take_le l (k + 1)
        omega
      have HTS := Lib.hid (total_snoc l k hlt)
      obtain ⟨x, HX⟩ : ∃ z, Hid (l[k] = z) := ⟨_, Lib.hid rfl⟩
      rw [HX.out] at hx hsz hts HTS hc0 hc1 hc2
      obtain ⟨A1, c1, f1, A2, c2, f2, r⟩ := x
      obtain ⟨hs1, hs2⟩ := hx
      change Strs w w.heap.size A1 f1 at hs1
      change Strs w w.heap.size A2 f2 at hs2
      change sizeOf f1 + sizeOf f2 + r.length ≤ 1099511627776 at hsz
      change total (l.take k) + (sizeOf f1 + sizeOf f2 + r.length) ≤ 1099511627776 at hts
      change Hid (total (l.take (k + 1)) = total (l.take k) + (sizeOf f1 + sizeOf f2 + r.length)) at HTS
      have hcells : ∀ j v, [Value.slice A1 f1.length c1, Value.slice A2 f2.length c2, S r][j]? = some v → wr.cell? ((ad.add (k * 3)).add j) = some v := by
        intro j v hj
        have hadd : (ad.add (k * 3)).add j = ad.add (k * 3 + j) := by
          unfold Addr.add
          by_cases h1 : k * 3 = 0 <;> by_cases h2 : j = 0 <;> simp [h1, h2, Nat.add_assoc]
        rw [hadd, HB.out.cell (by unfold Addr.add; split <;> exact hb0)]
        match j, hj with
        | 0, hj => rw [hc0, ← hj]; rfl
        | 1, hj => rw [hc1, ← hj]; rfl
        | 2, hj => rw [hc2, ← hj]; rfl
      have HCL := Lib.hid hcells
      have HS1 := Lib.hid hs1
      have HS2 := Lib.hid hs2
      have l1 := length_le_sizeOf f1
      have l2 := length_le_sizeOf f2
      clear hcells hs1 hs2 hc0 hc1 hc2 hb0
      go_wp2_with (refine wpList_load_at rfl 24 (.tmp 10) rfl (ad.add (k * 3)) rfl [Value.slice A1 f1.length c1, Value.slice A2 f2.length c2, S r] _ HCL.out Tryd.underlying24 rfl (by kernel_rfl) ?_)
      have hx0 := Whole.made wr 24 #[Value.slice A1 f1.length c1, Value.slice A2 f2.length c2, S r]
      have c0 := hx0.cell 0
      have c1' := hx0.cell 1
      have c2' := hx0.cell 2
      simp only [List.getElem?_toArray, List.getElem?_cons_zero, List.getElem?_cons_succ] at c0 c1' c2'
      have HB1 := Lib.hid (HB.out.alloc HB.out.size (.cells #[Value.slice A1 f1.length c1, Value.slice A2 f2.length c2, S r] 24))
      clear hx0
      generalize wr.alloc (.cells #[Value.slice A1 f1.length c1, Value.slice A2 f2.length c2, S r] 24) = w1 at *
      have q1 : ∀ W : World, Below w.heap.size w W → Calls Tryd.prog 38 #[.slice A1 f1.length c1] W fun e w' => e = .returned (.int .i64 (sizeOf f1)) ∧ w' = W := fun W hW => (size_any W w.heap.size A1 f1 c1 (HS1.out.below hW) (by omega) (by omega)).mono fun _ _ h => ⟨h.1, h.2.symm⟩
      have q2 : ∀ W : World, Below w.heap.size w W → Calls Tryd.prog 38 #[.slice A2 f2.length c2] W fun e w' => e = .returned (.int .i64 (sizeOf f2)) ∧ w' = W := fun W hW => (size_any W w.heap.size A2 f2 c2 (HS2.out.below hW) (by omega) (by omega)).mono fun _ _ h => ⟨h.1, h.2.symm⟩
      have Q1 := Lib.hid q1
      have Q2 := Lib.hid q2
      clear q1 q2
      have e1 : IntKind.i64.wrap ((sizeOf f1 : Int) + (sizeOf f2 : Int)) = (sizeOf f1 : Int) + (sizeOf f2 : Int) := IntWalk.i64_in _ (by omega)
      have e2 : IntKind.i64.wrap ((sizeOf f1 : Int) + (sizeOf f2 : Int) + (r.length : Int)) = (sizeOf f1 : Int) + (sizeOf f2 : Int) + (r.length : Int) := IntWalk.i64_in _ (by omega)
      have e3 : IntKind.i64.wrap ((total (l.take k) : Int) + ((sizeOf f1 : Int) + (sizeOf f2 : Int) + (r.length : Int))) = (total (l.take k) : Int) + ((sizeOf f1 : Int) + (sizeOf f2 : Int) + (r.length : Int)) := IntWalk.i64_in _ (by omega)
      go_quiet ((first
        | (go_at_call_of 38 (Value.slice A1 f1.length c1); exact Calls.quiet_of_same (Q1.out _ (Below.draws HB1.out _)))
        | (go_at_call_of 38 (Value.slice A2 f2.length c2); exact Calls.quiet_of_same (Q2.out _ (Below.draws HB1.out _)))))
      clear e1 e2 e3
      go_wp2
      go_roundw
      case rel => exact ⟨k + 1, by omega, by go_num, by rw [HTS.out]; go_num, Lib.hid (Below.draws HB1.out _)⟩
      case measure => simp [intOf]; omega
    · obtain rfl : k = l.length := by omega
      rw [List.take_of_length_le (Nat.le_refl _)]
      go_wp2
      go_ret
      exact ⟨ret_bool (by rw [decide_eq_decide]; omega), HB.out⟩
end Go.Proofs.YtecamaceainfpaaDoor
/-
  A law for a region that draws its order, over any program: what holds behind each SET of operations that have run is said by one predicate; then every order comes to the same. One proof for each operation, whatever the number of orders.
-/
namespace Go.Proofs.YtecamaceainfpaaDoor
open Go.RowKit

section
variable {P : Program} {ops : Array Oper} {Q : Exit → Act → World → Prop}
/-- the set L, and i -/
def also (L : Nat → Bool) (i : Nat) : Nat → Bool := fun j => j == i || L j
theorem also_same (L : Nat → Bool) (i : Nat) : also L i i = true := by simp [also]
theorem also_other {L : Nat → Bool} {i j : Nat} (h : j ≠ i) : also L i j = L j := by simp [also, h]

theorem wpAny_set (J : (Nat → Bool) → Act → World → Prop)
    (hafter : ∀ (i : Nat) (o : Oper), ops[i]? = some o → ∀ e ∈ o.after, Region.binds .any e = true → e.on < i)
    (hops : ∀ (i : Nat) (o : Oper), ops[i]? = some o → ∀ (L : Nat → Bool) (a : Act) (w : World), L i = false → (∀ e ∈ o.after, Region.binds .any e = true → L e.on = true) → J L a w → wpOp P ops Q i (J (also L i)) a w)
    (hend : ∀ (L : Nat → Bool) (a : Act) (w : World), (∀ i, i < ops.size → L i = true) → J L a w → Q .normal a w) :
    ∀ (fuel : Nat) (listed : Array Bool) (L : Nat → Bool) (a : Act) (w : World), listed.size = ops.size → (∀ i, i < ops.size → listed.getD i true = L i) → (∀ i, i < ops.size → listed.getD i false = L i) →
      ((List.range ops.size).filter fun i => !L i).length ≤ fuel → J L a w → wpAny P .any ops Q fuel listed a w := by
  have hnil : ∀ (listed : Array Bool) (L : Nat → Bool), (∀ i, i < ops.size → listed.getD i true = L i) → (∀ i, i < ops.size → listed.getD i false = L i) → Region.ready .any ops listed = [] → ∀ n i, i < n → i < ops.size → L i = true := by
    intro listed L h1 h2 hr n
    induction n with
    | zero => intro i hi; omega
    | succ n ih =>
      intro i hi hs
      rcases Nat.lt_or_ge i n with h | h
      · exact ih i h hs
      obtain rfl : i = n := by omega
      cases hL : L i with
      | true => rfl
      | false =>
        exfalso
        have hm : i ∈ Region.ready .any ops listed := by
          refine mem_ready.2 ⟨(h1 i hs).trans hL, ops[i], Array.getElem?_eq_getElem hs, fun e he hb => ?_⟩
          have hlt := hafter i _ (Array.getElem?_eq_getElem hs) e he hb
          rw [h2 _ (by omega)]
          exact ih _ hlt (by omega)
        rw [hr] at hm
        cases hm
  intro fuel
  induction fuel with
  | zero =>
    intro listed L a w hsz h1 h2 hc hJ
    have hall : ∀ i, i < ops.size → L i = true := by
      intro i hi
      cases hL : L i with
      | true => rfl
      | false =>
        exfalso
        have : i ∈ (List.range ops.size).filter fun i => !L i := List.mem_filter.2 ⟨List.mem_range.2 hi, by simp [hL]⟩
        have := List.length_pos_of_mem this
        omega
    refine ⟨?_, hend L a w hall hJ⟩
    unfold Region.ready
    rw [List.filter_eq_nil_iff]
    intro i hi
    rw [h1 i (List.mem_range.1 hi), hall i (List.mem_range.1 hi)]
    simp
  | succ fuel ih =>
    intro listed L a w hsz h1 h2 hc hJ
    refine ⟨fun hr => hend L a w (fun i hi => hnil listed L h1 h2 hr (i + 1) i (by omega) hi) hJ, fun i hi => ?_⟩
    obtain ⟨hli, o, ho, hd⟩ := mem_ready.1 hi
    have his : i < ops.size := (Array.getElem?_eq_some_iff.1 ho).1
    have hLi : L i = false := (h1 i his).symm.trans hli
    refine wpOp_mono (fun a' w' h => ih _ (also L i) a' w' (by simp [hsz]) ?_ ?_ ?_ h) (hops i o ho L a w hLi (fun e he hb => ?_) hJ)
    · intro j hj
      by_cases hji : j = i
      · subst hji; rw [also_same]; simp [Array.getD_eq_getD_getElem?, hsz, hj]
      · rw [getD_set_ne _ (fun e => hji e.symm), also_other hji]; exact h1 j hj
    · intro j hj
      by_cases hji : j = i
      · subst hji; rw [also_same]; simp [Array.getD_eq_getD_getElem?, hsz, hj]
      · rw [getD_set_ne _ (fun e => hji e.symm), also_other hji]; exact h2 j hj
    · have hlt : ((List.range ops.size).filter fun j => !also L i j).length < ((List.range ops.size).filter fun j => !L j).length := by
        have e1 : ((List.range ops.size).filter fun j => !also L i j) = ((List.range ops.size).filter fun j => !L j).filter fun j => !(j == i) := by
          rw [List.filter_filter]
          congr 1
          funext j
          simp [also, Bool.not_or]
        rw [e1]
        refine Nat.lt_of_le_of_ne (List.length_filter_le _ _) fun he => ?_
        have := List.filter_eq_self.1 (List.filter_sublist.eq_of_length he) i (List.mem_filter.2 ⟨List.mem_range.2 his, by simp [hLi]⟩)
        simp at this
      omega
    · rw [← h2 _ (by have := hafter i o ho e he hb; omega)]
      exact hd e he hb

/-- a region that draws its order, by a predicate on the set of the operations that have run -/
theorem wp_region_set {id : Nat} {a : Act} {w : World} (hm : P.follows .mixedOrders = true) (J : (Nat → Bool) → Act → World → Prop)
    (hafter : ∀ (i : Nat) (o : Oper), ops[i]? = some o → ∀ e ∈ o.after, Region.binds .any e = true → e.on < i)
    (h0 : J (fun _ => false) a w.drew)
    (hops : ∀ (i : Nat) (o : Oper), ops[i]? = some o → ∀ (L : Nat → Bool) (a : Act) (w : World), L i = false → (∀ e ∈ o.after, Region.binds .any e = true → L e.on = true) → J L a w → wpOp P ops Q i (J (also L i)) a w)
    (hend : ∀ (L : Nat → Bool) (a : Act) (w : World), (∀ i, i < ops.size → L i = true) → J L a w → Q .normal a w) : (Code.region id ops true).wp P Q a w :=
  wp_region_any hm (wpAny_set J hafter hops hend ops.size _ (fun _ => false) a _ (by simp) (fun i hi => by simp [Array.getD_eq_getD_getElem?, hi]) (fun i hi => by simp [Array.getD_eq_getD_getElem?, hi])
    (Nat.le_trans (List.length_filter_le _ _) (by simp)) h0)

theorem wpOp_of {i : Nat} {o : Oper} {K : Act → World → Prop} {a : Act} {w : World} (ho : ops[i]? = some o) (hg : o.guard = none) (h : o.wp P a w K Q) : wpOp P ops Q i K a w := by
  unfold wpOp
  simp only [ho]
  have hw : Region.wanted o (yielded ops a.tmps) = true := by simp [Region.wanted, hg]
  rw [if_pos hw]
  exact .inl h
end
end Go.Proofs.YtecamaceainfpaaDoor
/-
  A law of 'x, y := f(..), g(..)' whose results lie in boxes of their own: a region that draws its order, in which the boxes may be made ahead of, between or behind the calls. Over any program.
-/
namespace Go.Proofs.YtecamaceainfpaaDoor
open Go.RowKit

/-- lists that lie behind slices -/
abbrev Rows' := List (Option Addr × List Value)
def Held (w : World) (ps : Rows') : Prop := ∀ x ∈ ps, Lies w w.heap.size x.1 x.2
def Fresh (B : Nat) (ps : Rows') : Prop := ∀ x ∈ ps, ∀ ad, x.1 = some ad → B ≤ ad.block
def Off (p : Nat) (ps : Rows') : Prop := ∀ x ∈ ps, ∀ ad, x.1 = some ad → x.2 ≠ [] → ad.block ≠ p
theorem Held.below {w w' : World} {ps : Rows'} (h : Held w ps) (hb : Below w.heap.size w w') : Held w' ps := fun x hx => ((h x hx).below hb).wide hb.size
theorem Held.block {w : World} {ps : Rows'} (h : Held w ps) (o : Obj) : Held (w.alloc o) ps := fun x hx => ((h x hx).block (Nat.le_refl _) o).wide (by simp)
theorem Held.after {w w' : World} {g : Nat} {ps : Rows'} (h : Held w ps) (hf : w.grownBy w' (some g)) (ho : Off g ps) : Held w' ps := fun x hx => lies_after (h x hx) hf (ho x hx)
theorem Held.off_new {w : World} {ps : Rows'} (h : Held w ps) : Off w.heap.size ps := fun x hx ad e hne => by
  obtain ⟨v, hv⟩ : ∃ v, x.2[0]? = some v := by cases hc : x.2 with | nil => exact absurd hc hne | cons a b => exact ⟨a, rfl⟩
  obtain ⟨ad', e', hlt, _⟩ := h x hx 0 v hv
  rw [e] at e'; injection e' with e'; subst e'; omega
theorem Fresh.off {B p : Nat} {ps : Rows'} (h : Fresh B ps) (hp : p < B) : Off p ps := fun x hx ad e _ => by have := h x hx ad e; omega

/-- what holds while the region runs -/
def PairJ (Fr : Value → Value → Value → Value → Value → Value → Value → Value → Act) (w0 : World) (B : Nat) (x6 x7 x9 x10 : Value) (T : TypeId) (n : Nat) (R1 R2 : List Value → Rows' → Prop) (L : Nat → Bool) (a : Act) (w : World) : Prop :=
  ∃ v2 v3 v6 v7 v8 v9 v10 v11, ∃ (p q : Nat) (c1 c2 : List Value) (ps1 ps2 : Rows') (d1 d2 : List Value), a = Fr v2 v3 v6 v7 v8 v9 v10 v11 ∧ Below B w0 w ∧ B ≤ w.heap.size ∧
    (L 0 = true → v6 = x6) ∧ (L 1 = true → v7 = x7) ∧ (L 3 = true → v9 = x9) ∧ (L 4 = true → v10 = x10) ∧
    (L 2 = true → v8 = .agg c1.toArray ∧ R1 c1 ps1 ∧ Held w ps1) ∧ (L 5 = true → v11 = .agg c2.toArray ∧ R2 c2 ps2 ∧ Held w ps2) ∧
    (L 6 = true → v2 = .pointer (some ⟨p, 0, none⟩) ∧ B ≤ p ∧ Whole w p T d1.toArray ∧ d1.length = n ∧ (L 8 = true → d1 = c1)) ∧
    (L 7 = true → v3 = .pointer (some ⟨q, 0, none⟩) ∧ B ≤ q ∧ Whole w q T d2.toArray ∧ d2.length = n ∧ (L 9 = true → d2 = c2)) ∧
    (L 6 = true → L 7 = true → p ≠ q) ∧ (L 2 = true → L 6 = true → Off p ps1) ∧ (L 2 = true → L 7 = true → Off q ps1) ∧ (L 5 = true → L 6 = true → Off p ps2) ∧ (L 5 = true → L 7 = true → Off q ps2) ∧
    (L 8 = true → L 2 = true ∧ L 5 = true ∧ L 6 = true ∧ L 7 = true) ∧ (L 9 = true → L 2 = true ∧ L 5 = true ∧ L 6 = true ∧ L 7 = true)

/-- of each operation: behind which ones it comes at least -/
def downOk (ops : Array Oper) : Bool := ops.toList.zipIdx.all fun x => x.1.after.all fun e => !Region.binds .any e || decide (e.on < x.2)
def needs (o : Oper) (l : List Nat) : Bool := l.all fun j => o.after.any fun e => Region.binds .any e && e.on == j
theorem needs_spec {o : Oper} {l : List Nat} (h : needs o l = true) {L : Nat → Bool} (hL : ∀ e ∈ o.after, Region.binds .any e = true → L e.on = true) : ∀ j ∈ l, L j = true := fun j hj => by
  have := List.all_eq_true.1 h j hj
  obtain ⟨k, hk, hh⟩ := Array.any_eq_true.1 this
  have he : o.after[k] ∈ o.after := Array.getElem_mem hk
  generalize o.after[k] = e at hh he
  simp only [Bool.and_eq_true, beq_iff_eq] at hh
  rw [← hh.2]
  exact hL e he hh.1
theorem downOk_spec {ops : Array Oper} (h : downOk ops = true) : ∀ (i : Nat) (o : Oper), ops[i]? = some o → ∀ e ∈ o.after, Region.binds .any e = true → e.on < i := fun i o ho e he hb => by
  have hm : (o, i) ∈ ops.toList.zipIdx := by
    rw [List.mem_iff_getElem?]
    exact ⟨i, by simp [List.getElem?_zipIdx, ho]⟩
  have := Array.all_eq_true_iff_forall_mem.1 (List.all_eq_true.1 h _ hm) e he
  simpa [hb] using this

theorem wp_pair {P : Program} {Q : Exit → Act → World → Prop} {id : Nat} {a : Act} {w w0 : World} {o0 o1 o2 o3 o4 o5 o6 o7 o8 o9 : Oper} (hm : P.follows .mixedOrders = true)
    (Fr : Value → Value → Value → Value → Value → Value → Value → Value → Act) {u2 u3 u6 u7 u8 u9 u10 u11 : Value} (ha : a = Fr u2 u3 u6 u7 u8 u9 u10 u11)
    (B : Nat) (hB : Below B w0 w) (hBs : B ≤ w.heap.size) (x6 x7 x9 x10 : Value) (T : TypeId) (n : Nat) (R1 R2 : List Value → Rows' → Prop)
    (hdown : downOk #[o0, o1, o2, o3, o4, o5, o6, o7, o8, o9] = true) (hguard : (#[o0, o1, o2, o3, o4, o5, o6, o7, o8, o9].all fun o => o.guard.isNone) = true)
    (n2 : needs o2 [0, 1] = true) (n5 : needs o5 [3, 4] = true) (n8 : needs o8 [2, 5, 6, 7] = true) (n9 : needs o9 [2, 5, 6, 7, 8] = true)
    (s0 : ∀ v2 v3 v6 v7 v8 v9 v10 v11 W (K : Act → World → Prop), Below B w0 W → K (Fr v2 v3 x6 v7 v8 v9 v10 v11) W → o0.wp P (Fr v2 v3 v6 v7 v8 v9 v10 v11) W K Q)
    (s1 : ∀ v2 v3 v6 v7 v8 v9 v10 v11 W (K : Act → World → Prop), Below B w0 W → K (Fr v2 v3 v6 x7 v8 v9 v10 v11) W → o1.wp P (Fr v2 v3 v6 v7 v8 v9 v10 v11) W K Q)
    (s3 : ∀ v2 v3 v6 v7 v8 v9 v10 v11 W (K : Act → World → Prop), Below B w0 W → K (Fr v2 v3 v6 v7 v8 x9 v10 v11) W → o3.wp P (Fr v2 v3 v6 v7 v8 v9 v10 v11) W K Q)
    (s4 : ∀ v2 v3 v6 v7 v8 v9 v10 v11 W (K : Act → World → Prop), Below B w0 W → K (Fr v2 v3 v6 v7 v8 v9 x10 v11) W → o4.wp P (Fr v2 v3 v6 v7 v8 v9 v10 v11) W K Q)
    (s2 : ∀ v2 v3 v8 v9 v10 v11 W (K : Act → World → Prop), Below B w0 W → (∀ c ps w', R1 c ps → Held w' ps → Fresh W.heap.size ps → Below W.heap.size W w' → K (Fr v2 v3 x6 x7 (.agg c.toArray) v9 v10 v11) w') → o2.wp P (Fr v2 v3 x6 x7 v8 v9 v10 v11) W K Q)
    (s5 : ∀ v2 v3 v6 v7 v8 v11 W (K : Act → World → Prop), Below B w0 W → (∀ c ps w', R2 c ps → Held w' ps → Fresh W.heap.size ps → Below W.heap.size W w' → K (Fr v2 v3 v6 v7 v8 x9 x10 (.agg c.toArray)) w') → o5.wp P (Fr v2 v3 v6 v7 v8 x9 x10 v11) W K Q)
    (Z : List Value) (hZ : Z.length = n)
    (s6 : ∀ v2 v3 v6 v7 v8 v9 v10 v11 W (K : Act → World → Prop), K (Fr (.pointer (some ⟨W.heap.size, 0, none⟩)) v3 v6 v7 v8 v9 v10 v11) (W.alloc (.cells Z.toArray T)) → o6.wp P (Fr v2 v3 v6 v7 v8 v9 v10 v11) W K Q)
    (s7 : ∀ v2 v3 v6 v7 v8 v9 v10 v11 W (K : Act → World → Prop), K (Fr v2 (.pointer (some ⟨W.heap.size, 0, none⟩)) v6 v7 v8 v9 v10 v11) (W.alloc (.cells Z.toArray T)) → o7.wp P (Fr v2 v3 v6 v7 v8 v9 v10 v11) W K Q)
    (s8 : ∀ (p : Nat) (c d : List Value) (ps : Rows') v3 v6 v7 v9 v10 v11 W (K : Act → World → Prop), R1 c ps → Whole W p T d.toArray → d.length = n → (∀ w', Whole w' p T c.toArray → W.grownBy w' (some p) → K (Fr (.pointer (some ⟨p, 0, none⟩)) v3 v6 v7 (.agg c.toArray) v9 v10 v11) w') → o8.wp P (Fr (.pointer (some ⟨p, 0, none⟩)) v3 v6 v7 (.agg c.toArray) v9 v10 v11) W K Q)
    (s9 : ∀ (q : Nat) (c d : List Value) (ps : Rows') v2 v6 v7 v8 v9 v10 W (K : Act → World → Prop), R2 c ps → Whole W q T d.toArray → d.length = n → (∀ w', Whole w' q T c.toArray → W.grownBy w' (some q) → K (Fr v2 (.pointer (some ⟨q, 0, none⟩)) v6 v7 v8 v9 v10 (.agg c.toArray)) w') → o9.wp P (Fr v2 (.pointer (some ⟨q, 0, none⟩)) v6 v7 v8 v9 v10 (.agg c.toArray)) W K Q)
    (l1 : ∀ c ps, R1 c ps → c.length = n) (l2 : ∀ c ps, R2 c ps → c.length = n)
    (hend : ∀ (p q : Nat) (c1 c2 : List Value) (ps1 ps2 : Rows') W, Below B w0 W → B ≤ p → B ≤ q → p ≠ q → R1 c1 ps1 → R2 c2 ps2 → Held W ps1 → Held W ps2 → Whole W p T c1.toArray → Whole W q T c2.toArray →
      Off p ps1 → Off q ps1 → Off p ps2 → Off q ps2 →
      Q .normal (Fr (.pointer (some ⟨p, 0, none⟩)) (.pointer (some ⟨q, 0, none⟩)) x6 x7 (.agg c1.toArray) x9 x10 (.agg c2.toArray)) W) :
    (Code.region id #[o0, o1, o2, o3, o4, o5, o6, o7, o8, o9] true).wp P Q a w := by
  have hg : ∀ o ∈ #[o0, o1, o2, o3, o4, o5, o6, o7, o8, o9], o.guard = none := fun o ho => by
    have := Array.all_eq_true_iff_forall_mem.1 hguard o ho
    simpa using this
  refine wp_region_set hm (PairJ Fr w0 B x6 x7 x9 x10 T n R1 R2) (downOk_spec hdown) ?_ ?_ ?_
  · refine ⟨u2, u3, u6, u7, u8, u9, u10, u11, 0, 0, [], [], [], [], [], [], ha, hB.drew, hBs, ?_⟩
    simp
  · intro i o ho L a' W hLi hed hJ
    have hoa : o ∈ #[o0, o1, o2, o3, o4, o5, o6, o7, o8, o9] := Array.mem_of_getElem? ho
    refine wpOp_of ho (hg o hoa) ?_
    obtain ⟨v2, v3, v6, v7, v8, v9, v10, v11, p, q, c1, c2, ps1, ps2, d1, d2, rfl, hb, hbs, h6, h7, h9, h10, hr1, hr2, hp, hq, hpq, f1p, f1q, f2p, f2q, k8, k9⟩ := hJ
    match i, ho with
    | 0, ho =>
      obtain rfl : o0 = o := by simpa using ho
      refine s0 _ _ _ _ _ _ _ _ _ _ hb ⟨v2, v3, x6, v7, v8, v9, v10, v11, p, q, c1, c2, ps1, ps2, d1, d2, rfl, hb, hbs, ?_⟩
      exact ⟨fun _ => rfl, h7, h9, h10, hr1, hr2, hp, hq, hpq, f1p, f1q, f2p, f2q, k8, k9⟩
    | 1, ho =>
      obtain rfl : o1 = o := by simpa using ho
      refine s1 _ _ _ _ _ _ _ _ _ _ hb ⟨v2, v3, v6, x7, v8, v9, v10, v11, p, q, c1, c2, ps1, ps2, d1, d2, rfl, hb, hbs, ?_⟩
      exact ⟨h6, fun _ => rfl, h9, h10, hr1, hr2, hp, hq, hpq, f1p, f1q, f2p, f2q, k8, k9⟩
    | 3, ho =>
      obtain rfl : o3 = o := by simpa using ho
      refine s3 _ _ _ _ _ _ _ _ _ _ hb ⟨v2, v3, v6, v7, v8, x9, v10, v11, p, q, c1, c2, ps1, ps2, d1, d2, rfl, hb, hbs, ?_⟩
      exact ⟨h6, h7, fun _ => rfl, h10, hr1, hr2, hp, hq, hpq, f1p, f1q, f2p, f2q, k8, k9⟩
    | 4, ho =>
      obtain rfl : o4 = o := by simpa using ho
      refine s4 _ _ _ _ _ _ _ _ _ _ hb ⟨v2, v3, v6, v7, v8, v9, x10, v11, p, q, c1, c2, ps1, ps2, d1, d2, rfl, hb, hbs, ?_⟩
      exact ⟨h6, h7, h9, fun _ => rfl, hr1, hr2, hp, hq, hpq, f1p, f1q, f2p, f2q, k8, k9⟩
    | 2, ho =>
      obtain rfl : o2 = o := by simpa using ho
      have hn := needs_spec n2 hed
      obtain rfl := h6 (hn 0 (by simp))
      obtain rfl := h7 (hn 1 (by simp))
      have l8 : L 8 = true → False := fun h => by rw [(k8 h).1] at hLi; cases hLi
      have l9 : L 9 = true → False := fun h => by rw [(k9 h).1] at hLi; cases hLi
      refine s2 _ _ _ _ _ _ _ _ hb fun c ps w' hR hH hF hbl => ⟨v2, v3, v6, v7, _, v9, v10, v11, p, q, c, c2, ps, ps2, d1, d2, rfl, hb.trans (hbl.mono hbs), Nat.le_trans hbs hbl.size, ?_⟩
      refine ⟨h6, h7, h9, h10, fun _ => ⟨rfl, hR, hH⟩, fun h => ?_, fun h => ?_, fun h => ?_, hpq, fun _ h => ?_, fun _ h => ?_, f2p, f2q, fun h => (l8 h).elim, fun h => (l9 h).elim⟩
      · obtain ⟨e1, e2, e3⟩ := hr2 h; exact ⟨e1, e2, e3.below hbl⟩
      · obtain ⟨e1, e2, e3, e4, e5⟩ := hp h
        exact ⟨e1, e2, e3.below hbl e3.lt, e4, fun h8 => (l8 h8).elim⟩
      · obtain ⟨e1, e2, e3, e4, e5⟩ := hq h
        exact ⟨e1, e2, e3.below hbl e3.lt, e4, e5⟩
      · exact hF.off (hp h).2.2.1.lt
      · exact hF.off (hq h).2.2.1.lt
    | 5, ho =>
      obtain rfl : o5 = o := by simpa using ho
      have hn := needs_spec n5 hed
      obtain rfl := h9 (hn 3 (by simp))
      obtain rfl := h10 (hn 4 (by simp))
      have l8 : L 8 = true → False := fun h => by rw [(k8 h).2.1] at hLi; cases hLi
      have l9 : L 9 = true → False := fun h => by rw [(k9 h).2.1] at hLi; cases hLi
      refine s5 _ _ _ _ _ _ _ _ hb fun c ps w' hR hH hF hbl => ⟨v2, v3, v6, v7, v8, v9, v10, _, p, q, c1, c, ps1, ps, d1, d2, rfl, hb.trans (hbl.mono hbs), Nat.le_trans hbs hbl.size, ?_⟩
      refine ⟨h6, h7, h9, h10, fun h => ?_, fun _ => ⟨rfl, hR, hH⟩, fun h => ?_, fun h => ?_, hpq, f1p, f1q, fun _ h => ?_, fun _ h => ?_, fun h => (l8 h).elim, fun h => (l9 h).elim⟩
      · obtain ⟨e1, e2, e3⟩ := hr1 h; exact ⟨e1, e2, e3.below hbl⟩
      · obtain ⟨e1, e2, e3, e4, e5⟩ := hp h
        exact ⟨e1, e2, e3.below hbl e3.lt, e4, e5⟩
      · obtain ⟨e1, e2, e3, e4, e5⟩ := hq h
        exact ⟨e1, e2, e3.below hbl e3.lt, e4, fun h9 => (l9 h9).elim⟩
      · exact hF.off (hp h).2.2.1.lt
      · exact hF.off (hq h).2.2.1.lt
    | 6, ho =>
      obtain rfl : o6 = o := by simpa using ho
      have l8 : L 8 = true → False := fun h => by rw [(k8 h).2.2.1] at hLi; cases hLi
      have l9 : L 9 = true → False := fun h => by rw [(k9 h).2.2.1] at hLi; cases hLi
      refine s6 _ _ _ _ _ _ _ _ _ _ ⟨_, v3, v6, v7, v8, v9, v10, v11, W.heap.size, q, c1, c2, ps1, ps2, Z, d2, rfl, hb.alloc hbs _, by simp; omega, ?_⟩
      refine ⟨h6, h7, h9, h10, fun h => ?_, fun h => ?_, fun h => ?_, fun h => ?_, fun _ h => ?_, fun h _ => ?_, f1q, fun h _ => ?_, f2q, fun h => (l8 h).elim, fun h => (l9 h).elim⟩
      · obtain ⟨e1, e2, e3⟩ := hr1 h; exact ⟨e1, e2, e3.block _⟩
      · obtain ⟨e1, e2, e3⟩ := hr2 h; exact ⟨e1, e2, e3.block _⟩
      · exact ⟨rfl, hbs, Whole.made _ _ _, hZ, fun h8 => (l8 h8).elim⟩
      · obtain ⟨e1, e2, e3, e4, e5⟩ := hq h
        exact ⟨e1, e2, e3.block _, e4, e5⟩
      · have := (hq h).2.2.1.lt; omega
      · exact (hr1 h).2.2.off_new
      · exact (hr2 h).2.2.off_new
    | 7, ho =>
      obtain rfl : o7 = o := by simpa using ho
      have l8 : L 8 = true → False := fun h => by rw [(k8 h).2.2.2] at hLi; cases hLi
      have l9 : L 9 = true → False := fun h => by rw [(k9 h).2.2.2] at hLi; cases hLi
      refine s7 _ _ _ _ _ _ _ _ _ _ ⟨v2, _, v6, v7, v8, v9, v10, v11, p, W.heap.size, c1, c2, ps1, ps2, d1, Z, rfl, hb.alloc hbs _, by simp; omega, ?_⟩
      refine ⟨h6, h7, h9, h10, fun h => ?_, fun h => ?_, fun h => ?_, fun h => ?_, fun h _ => ?_, f1p, fun h _ => ?_, f2p, fun h _ => ?_, fun h => (l8 h).elim, fun h => (l9 h).elim⟩
      · obtain ⟨e1, e2, e3⟩ := hr1 h; exact ⟨e1, e2, e3.block _⟩
      · obtain ⟨e1, e2, e3⟩ := hr2 h; exact ⟨e1, e2, e3.block _⟩
      · obtain ⟨e1, e2, e3, e4, e5⟩ := hp h
        exact ⟨e1, e2, e3.block _, e4, e5⟩
      · exact ⟨rfl, hbs, Whole.made _ _ _, hZ, fun h9 => (l9 h9).elim⟩
      · have := (hp h).2.2.1.lt; omega
      · exact (hr1 h).2.2.off_new
      · exact (hr2 h).2.2.off_new
    | 8, ho =>
      obtain rfl : o8 = o := by simpa using ho
      have hn := needs_spec n8 hed
      have t2 := hn 2 (by simp)
      have t5 := hn 5 (by simp)
      have t6 := hn 6 (by simp)
      have t7 := hn 7 (by simp)
      obtain ⟨rfl, hR1, hH1⟩ := hr1 t2
      obtain ⟨e1, hR2, hH2⟩ := hr2 t5
      obtain ⟨rfl, hBp, hWp, hlp, hdp⟩ := hp t6
      obtain ⟨e2, hBq, hWq, hlq, hdq⟩ := hq t7
      refine s8 p c1 d1 ps1 _ _ _ _ _ _ _ _ hR1 hWp hlp fun w' hw' hgr => ⟨_, v3, v6, v7, _, v9, v10, v11, p, q, c1, c2, ps1, ps2, c1, d2, rfl, below_grown hb hgr hbs hBp, Nat.le_trans hbs hgr.size, ?_⟩
      exact ⟨h6, h7, h9, h10, fun _ => ⟨rfl, hR1, hH1.after hgr (f1p t2 t6)⟩, fun _ => ⟨e1, hR2, hH2.after hgr (f2p t5 t6)⟩, fun _ => ⟨rfl, hBp, hw', l1 _ _ hR1, fun _ => rfl⟩,
        fun _ => ⟨e2, hBq, hWq.other hgr (fun e => hpq t6 t7 (by injection e with e; exact e.symm)), hlq, hdq⟩, hpq, f1p, f1q, f2p, f2q, fun _ => ⟨t2, t5, t6, t7⟩, k9⟩
    | 9, ho =>
      obtain rfl : o9 = o := by simpa using ho
      have hn := needs_spec n9 hed
      have t2 := hn 2 (by simp)
      have t5 := hn 5 (by simp)
      have t6 := hn 6 (by simp)
      have t7 := hn 7 (by simp)
      obtain ⟨e1, hR1, hH1⟩ := hr1 t2
      obtain ⟨rfl, hR2, hH2⟩ := hr2 t5
      obtain ⟨e2, hBp, hWp, hlp, hdp⟩ := hp t6
      obtain ⟨rfl, hBq, hWq, hlq, hdq⟩ := hq t7
      refine s9 q c2 d2 ps2 _ _ _ _ _ _ _ _ hR2 hWq hlq fun w' hw' hgr => ⟨v2, _, v6, v7, v8, v9, v10, _, p, q, c1, c2, ps1, ps2, d1, c2, rfl, below_grown hb hgr hbs hBq, Nat.le_trans hbs hgr.size, ?_⟩
      exact ⟨h6, h7, h9, h10, fun _ => ⟨e1, hR1, hH1.after hgr (f1q t2 t7)⟩, fun _ => ⟨rfl, hR2, hH2.after hgr (f2q t5 t7)⟩,
        fun _ => ⟨e2, hBp, hWp.other hgr (fun e => hpq t6 t7 (by injection e with e)), hlp, hdp⟩, fun _ => ⟨rfl, hBq, hw', l2 _ _ hR2, fun _ => rfl⟩, hpq, f1p, f1q, f2p, f2q, k8, fun _ => ⟨t2, t5, t6, t7⟩⟩
    | i + 10, ho => simp at ho
  · rintro L a' W hL ⟨v2, v3, v6, v7, v8, v9, v10, v11, p, q, c1, c2, ps1, ps2, d1, d2, rfl, hb, hbs, h6, h7, h9, h10, hr1, hr2, hp, hq, hpq, f1p, f1q, f2p, f2q, _, _⟩
    have e : ∀ i, i < 10 → L i = true := fun i hi => hL i (by simpa using hi)
    obtain rfl := h6 (e 0 (by omega))
    obtain rfl := h7 (e 1 (by omega))
    obtain rfl := h9 (e 3 (by omega))
    obtain rfl := h10 (e 4 (by omega))
    obtain ⟨rfl, hR1, hH1⟩ := hr1 (e 2 (by omega))
    obtain ⟨rfl, hR2, hH2⟩ := hr2 (e 5 (by omega))
    obtain ⟨rfl, hBp, hWp, _, hdp⟩ := hp (e 6 (by omega))
    obtain ⟨rfl, hBq, hWq, _, hdq⟩ := hq (e 7 (by omega))
    obtain rfl := hdp (e 8 (by omega))
    obtain rfl := hdq (e 9 (by omega))
    exact hend p q _ _ ps1 ps2 W hb hBp hBq (hpq (e 6 (by omega)) (e 7 (by omega))) hR1 hR2 hH1 hH2 hWp hWq (f1p (e 2 (by omega)) (e 6 (by omega))) (f1q (e 2 (by omega)) (e 7 (by omega))) (f2p (e 5 (by omega)) (e 6 (by omega))) (f2q (e 5 (by omega)) (e 7 (by omega)))
end Go.Proofs.YtecamaceainfpaaDoor
/-
  Walk: hibernaclelaw35.fixed.
-/
namespace Go.Proofs.YtecamaceainfpaaDoor
open Go.RowKit

/-- a delta's cells, and where its lists lie -/
def DelR (fa ba fb bb : List (List UInt8)) (ra rb : List UInt8) (c : List Value) (ps : Rows') : Prop :=
  ∃ G k G' k', c = dCells (dig (imgB (onto (less fa ba fb bb) fa) (onto (less fa ba fb bb) ba) (onto (less fa ba fb bb) ra)))
      (.slice G (othersTo (onto (less fa ba fb bb) fa) fb fb.length).length k) (.slice G' (othersTo (onto (less fa ba fb bb) ba) bb bb.length).length k') rb (dig (imgB fb bb rb)) ∧
    ps = [(G, wCells (othersTo (onto (less fa ba fb bb) fa) fb fb.length)), (G', wCells (othersTo (onto (less fa ba fb bb) ba) bb bb.length))]
theorem DelR.length {fa ba fb bb : List (List UInt8)} {ra rb : List UInt8} {c : List Value} {ps : Rows'} (h : DelR fa ba fb bb ra rb c ps) : c.length = 67 := by
  obtain ⟨G, k, G', k', rfl, _⟩ := h
  exact dCells_length (dig_length _) (dig_length _) _ _ _
theorem DelR.one {fa ba fb bb : List (List UInt8)} {ra rb : List UInt8} {c : List Value} {ps : Rows'} (h : DelR fa ba fb bb ra rb c ps) : ∀ v ∈ c, v.oneCell' = true := by
  obtain ⟨G, k, G', k', rfl, _⟩ := h
  exact dCells_one _ _ _ _ _ _ _ _ _
theorem OfPost.held {w w' : World} {fa ba fb bb : List (List UInt8)} {ra rb : List UInt8} {e : Ending} (h : OfPost w fa ba fb bb ra rb e w') :
    ∃ c ps, e = .returned (.agg c.toArray) ∧ DelR fa ba fb bb ra rb c ps ∧ Held w' ps ∧ Fresh w.heap.size ps ∧ Below w.heap.size w w' := by
  obtain ⟨⟨G, k, G', k', rfl, h1, h2, h3, h4⟩, hb⟩ := h
  refine ⟨_, _, rfl, ⟨G, k, G', k', rfl, rfl⟩, ?_, ?_, hb⟩
  · intro x hx
    simp only [List.mem_cons, List.not_mem_nil, or_false] at hx
    rcases hx with rfl | rfl
    · exact h1
    · exact h2
  · intro x hx
    simp only [List.mem_cons, List.not_mem_nil, or_false] at hx
    rcases hx with rfl | rfl
    · exact h3
    · exact h4
theorem dCells_32 {f : List UInt8} (hf : f.length = 32) (v1 v2 : Value) (r t : List UInt8) : (dCells f v1 v2 r t)[32]? = some v1 := by
  unfold dCells; rw [List.getElem?_append_right (by simp [hf])]; simp [hf]
theorem dCells_33 {f : List UInt8} (hf : f.length = 32) (v1 v2 : Value) (r t : List UInt8) : (dCells f v1 v2 r t)[33]? = some v2 := by
  unfold dCells; rw [List.getElem?_append_right (by simp [hf])]; simp [hf]
theorem dCells_34 {f : List UInt8} (hf : f.length = 32) (v1 v2 : Value) (r t : List UInt8) : (dCells f v1 v2 r t)[34]? = some (S r) := by
  unfold dCells; rw [List.getElem?_append_right (by simp [hf])]; simp [hf]
theorem wp_store_whole {P : Program} {o : Oper} {a : Act} {w : World} {K : Act → World → Prop} {Q : Exit → Act → World → Prop} (ty : TypeId) (x y : Operand) (ho : o.op = .store ty x y) (hdst : o.dst = none)
    (g : Nat) (hx : a.eval x = .pointer (some ⟨g, 0, none⟩)) (cs : List Value) (hy : a.eval y = .agg cs.toArray) (hi : (P.info? ty).map (·.size) = some cs.length)
    (cur : List Value) (t : TypeId) (hg : Whole w g t cur.toArray) (hfit : cur.length = cs.length) (h1 : ∀ v ∈ cs, v.oneCell' = true)
    (h : ∀ w', Whole w' g t cs.toArray → w.grownBy w' (some g) → K a w') : o.wp P a w K Q :=
  wp_store_at ty x y ho hdst g 0 hx cs hy hi cur t hg (by omega) h1 fun w' hW hG => h w' (by have := hW.out; rw [List.drop_eq_nil_of_le (by omega)] at this; simpa using this) hG.out

set_option maxRecDepth 100000 in
set_option maxHeartbeats 1000000 in
theorem fixed_any (w : World) (hT : Tabs w) :
    Calls Tryd.prog 13 #[] w fun e w' => e = .returned (.bool true) ∧ Below w.heap.size w w' := by
  have HT := Lib.hid hT
  clear hT
  go_enter Tryd.func13, Tryd.ntmps13
  go_wp2_with fail
  have hx := Whole.made (w.alloc (.cells #[.string ⟨#[120]⟩] 9)) 24 #[.slice (some ⟨w.heap.size, 0, none⟩) 1 1, .slice none 0 0, .string ⟨#[114]⟩]
  have hy := (Whole.made w 9 #[.string ⟨#[120]⟩]).block (.cells #[.slice (some ⟨w.heap.size, 0, none⟩) 1 1, .slice none 0 0, .string ⟨#[114]⟩] 24)
  have hb : Below w.heap.size w ((w.alloc (.cells #[.string ⟨#[120]⟩] 9)).alloc (.cells #[.slice (some ⟨w.heap.size, 0, none⟩) 1 1, .slice none 0 0, .string ⟨#[114]⟩] 24)) := ((Below.refl _ _).alloc (Nat.le_refl _) _).alloc (by simp) _
  rw [show (w.alloc (.cells #[.string ⟨#[120]⟩] 9)).heap.size = w.heap.size + 1 by simp] at hx
  generalize (w.alloc (.cells #[.string ⟨#[120]⟩] 9)).alloc (.cells #[.slice (some ⟨w.heap.size, 0, none⟩) 1 1, .slice none 0 0, .string ⟨#[114]⟩] 24) = w1 at *
  generalize hgx : w.heap.size = gx at *
  have HGX := Lib.hid hgx
  clear hgx
  have hlt := hx.lt
  have HX := Lib.hid hx
  have HY := Lib.hid hy
  have HB := Lib.hid hb
  clear hx hy hb
  have hl : ∀ W, Below w1.heap.size w1 W → Strs W W.heap.size (some ⟨gx, 0, none⟩) [[120]] := fun W hW k u hu => by
    match k, hu with
    | 0, hu =>
      refine ⟨⟨gx, 0, none⟩, rfl, by have := hW.size; show gx < _; omega, ?_⟩
      have := (HY.out.below hW (by omega)).cell 0
      simpa [Addr.add, S] using this.trans hu
  have HL := Lib.hid hl
  have ht : ∀ W, Below w1.heap.size w1 W → Tabs W := fun W hW => HT.out.below (by rw [HGX.out]; exact Nat.le_refl _) (HB.out.trans (hW.mono (by omega)))
  have HTW := Lib.hid ht
  clear hl ht
  refine wp_pair (by kernel_rfl) (fun v2 v3 v6 v7 v8 v9 v10 v11 => ⟨#[.bool false, .pointer (some ⟨gx + 1, 0, none⟩), v2, v3, .slice (some ⟨gx, 0, none⟩) 1 1, .agg #[.slice (some ⟨gx, 0, none⟩) 1 1, .slice none 0 0, .string ⟨#[114]⟩], v6, v7, v8, v9, v10, v11, undef, undef, undef, undef, undef, undef, undef, undef, undef, undef, undef, undef, undef, undef, undef, undef, undef, undef, undef, undef, undef, undef], []⟩) rfl
    w1.heap.size (Below.refl _ _) (Nat.le_refl _) (.agg #[.slice (some ⟨gx, 0, none⟩) 1 1, .slice none 0 0, S [114]]) (.agg #[.slice (some ⟨gx, 0, none⟩) 1 1, .slice none 0 0, S [114]]) (.agg #[.slice none 0 0, .slice none 0 0, S []]) (.agg #[.slice (some ⟨gx, 0, none⟩) 1 1, .slice none 0 0, S [114]])
    32 67 (DelR [[120]] [] [[120]] [] [114] [114]) (DelR [] [] [[120]] [] [] [114]) (by kernel_rfl) (by kernel_rfl) (by kernel_rfl) (by kernel_rfl) (by kernel_rfl) (by kernel_rfl) ?s0 ?s1 ?s3 ?s4 ?s2 ?s5 Tryd.zeroCells32.toList (by kernel_rfl) ?s6 ?s7 ?s8 ?s9 (fun _ _ h => h.length) (fun _ _ h => h.length) ?hend
  case s0 =>
    intro v2 v3 v6 v7 v8 v9 v10 v11 W K hW hK
    have c0 : W.cell? ⟨gx + 1, 0, none⟩ = some _ := (HX.out.below hW hlt).cell 0
    have c1 : W.cell? ⟨gx + 1, 1, none⟩ = some _ := (HX.out.below hW hlt).cell 1
    have c2 : W.cell? ⟨gx + 1, 2, none⟩ = some _ := (HX.out.below hW hlt).cell 2
    go_simp
    exact hK
  case s1 =>
    intro v2 v3 v6 v7 v8 v9 v10 v11 W K hW hK
    have c0 : W.cell? ⟨gx + 1, 0, none⟩ = some _ := (HX.out.below hW hlt).cell 0
    have c1 : W.cell? ⟨gx + 1, 1, none⟩ = some _ := (HX.out.below hW hlt).cell 1
    have c2 : W.cell? ⟨gx + 1, 2, none⟩ = some _ := (HX.out.below hW hlt).cell 2
    go_simp
    exact hK
  case s4 =>
    intro v2 v3 v6 v7 v8 v9 v10 v11 W K hW hK
    have c0 : W.cell? ⟨gx + 1, 0, none⟩ = some _ := (HX.out.below hW hlt).cell 0
    have c1 : W.cell? ⟨gx + 1, 1, none⟩ = some _ := (HX.out.below hW hlt).cell 1
    have c2 : W.cell? ⟨gx + 1, 2, none⟩ = some _ := (HX.out.below hW hlt).cell 2
    go_simp
    exact hK
  case s3 =>
    intro v2 v3 v6 v7 v8 v9 v10 v11 W K hW hK
    go_simp
    exact hK
  case s2 =>
    intro v2 v3 v8 v9 v10 v11 W K hW hK
    have hc := of_any W (some ⟨gx, 0, none⟩) none (some ⟨gx, 0, none⟩) none 1 0 1 0 [[120]] [] [[120]] [] [114] [114] (HTW.out W hW) (HL.out W hW) (Lies.none _ _ _) (HL.out W hW) (Lies.none _ _ _) (by decide) (by decide)
    go_simp
    refine hc.mono fun e w' he => ?_
    obtain ⟨c, ps, rfl, h1, h2, h3, h4⟩ := he.held
    exact hK c ps w' h1 h2 h3 h4
  case s5 =>
    intro v2 v3 v6 v7 v8 v11 W K hW hK
    have hc := of_any W none none (some ⟨gx, 0, none⟩) none 0 0 1 0 [] [] [[120]] [] [] [114] (HTW.out W hW) (Lies.none _ _ _) (Lies.none _ _ _) (HL.out W hW) (Lies.none _ _ _) (by decide) (by decide)
    go_simp
    refine hc.mono fun e w' he => ?_
    obtain ⟨c, ps, rfl, h1, h2, h3, h4⟩ := he.held
    exact hK c ps w' h1 h2 h3 h4
  case s6 =>
    intro v2 v3 v6 v7 v8 v9 v10 v11 W K hK
    go_simp
    exact hK
  case s7 =>
    intro v2 v3 v6 v7 v8 v9 v10 v11 W K hK
    go_simp
    exact hK
  case s8 =>
    intro p c d ps v3 v6 v7 v9 v10 v11 W K hR hW hd hK
    exact wp_store_whole 32 (.tmp 2) (.tmp 8) rfl rfl p rfl c rfl (by rw [hR.length]; kernel_rfl) d 32 hW (by rw [hd, hR.length]) hR.one hK
  case s9 =>
    intro q c d ps v2 v6 v7 v8 v9 v10 W K hR hW hd hK
    exact wp_store_whole 32 (.tmp 3) (.tmp 11) rfl rfl q rfl c rfl (by rw [hR.length]; kernel_rfl) d 32 hW (by rw [hd, hR.length]) hR.one hK
  case hend =>
    intro p q c1 c2 ps1 ps2 W hW hBp hBq hpq hR1 hR2 hH1 hH2 hWp hWq _ _ _ _
    obtain ⟨G, k, G', k', rfl, rfl⟩ := hR1
    obtain ⟨F, m, F', m', rfl, rfl⟩ := hR2
    have d1 : W.cell? ⟨p, 32, none⟩ = some (Value.slice G 0 k) := (hWp.cell 32).trans (by rw [List.getElem?_toArray]; exact dCells_32 (dig_length _) _ _ _ _)
    have d2 : W.cell? ⟨p, 33, none⟩ = some (Value.slice G' 0 k') := (hWp.cell 33).trans (by rw [List.getElem?_toArray]; exact dCells_33 (dig_length _) _ _ _ _)
    have d3 : W.cell? ⟨q, 32, none⟩ = some (Value.slice F 1 m) := (hWq.cell 32).trans (by rw [List.getElem?_toArray]; exact dCells_32 (dig_length _) _ _ _ _)
    have hF : Lies W W.heap.size F [Value.int .i64 0, S [120]] := hH2 _ (List.mem_cons_self ..)
    obtain ⟨ad, rfl, _, f0⟩ := hF 0 _ rfl
    obtain ⟨ad', e', _, f1⟩ := hF 1 _ rfl
    obtain rfl : ad = ad' := by injection e'
    have HE := Lib.hid (HB.out.trans (hW.mono (by omega)))
    generalize (dCells _ _ _ _ _).toArray = X
    generalize (dCells _ _ _ _ _).toArray = Y
    clear hWp hWq hH1 hH2 hF hW HB
    change W.cell? ad = some (Value.int .i64 0) at f0
    change W.cell? ⟨ad.block, ad.off + 1, none⟩ = some (S [120]) at f1
    go_wp2
    go_ret
    exact ⟨rfl, by rw [HGX.out]; exact HE.out⟩
end Go.Proofs.YtecamaceainfpaaDoor
/-
  Walk: hibernaclelaw35.DeltaFew.
-/
namespace Go.Proofs.YtecamaceainfpaaDoor
open Go.RowKit

theorem lies_lt {w : World} {A : Option Addr} {xs : List Value} (h : Lies w w.heap.size A xs) {ad : Addr} (e : A = some ad) (hne : xs ≠ []) : ad.block < w.heap.size := by
  obtain ⟨v, hv⟩ : ∃ v, xs[0]? = some v := by cases hc : xs with | nil => exact absurd hc hne | cons a b => exact ⟨a, rfl⟩
  obtain ⟨ad', e', hlt, _⟩ := h 0 v hv
  rw [e] at e'; injection e' with e'; subst e'; exact hlt
theorem Lies.block' {w : World} {A : Option Addr} {xs : List Value} (h : Lies w w.heap.size A xs) (o : Obj) : Lies (w.alloc o) (w.alloc o).heap.size A xs := (h.block (Nat.le_refl _) o).wide (by simp)
theorem othersTo_pre (a b : List (List UInt8)) (k : Nat) : ∀ n, ∃ r, othersTo a b (k + n) = othersTo a b k ++ r
  | 0 => ⟨[], by simp⟩
  | n + 1 => by
    obtain ⟨r, hr⟩ := othersTo_pre a b k n
    by_cases h : k + n < a.length ∧ a.getD (k + n) [] = b.getD (k + n) []
    · exact ⟨r, by rw [← Nat.add_assoc, othersTo_same h.1 h.2, hr]⟩
    · exact ⟨r ++ [(((k + n : Nat) : Int), b.getD (k + n) [])], by rw [← Nat.add_assoc, othersTo_new h, hr, List.append_assoc]⟩
theorem othersTo_at {a b : List (List UInt8)} {k n : Nat} (hk : k < n) (h : ¬ (k < a.length ∧ a.getD k [] = b.getD k [])) :
    (othersTo a b k).length < (othersTo a b n).length ∧ (wCells (othersTo a b n))[(othersTo a b k).length * 2]? = some (.int .i64 (k : Int)) ∧ (wCells (othersTo a b n))[(othersTo a b k).length * 2 + 1]? = some (S (b.getD k [])) := by
  obtain ⟨r, hr⟩ := othersTo_pre a b (k + 1) (n - (k + 1))
  rw [show k + 1 + (n - (k + 1)) = n by omega, othersTo_new h] at hr
  rw [hr]
  refine ⟨by simp, ?_, ?_⟩
  · rw [List.append_assoc, wCells_append, List.getElem?_append_right (by rw [wCells_length]; omega), wCells_length, show (othersTo a b k).length * 2 - 2 * (othersTo a b k).length = 0 by omega]; rfl
  · rw [List.append_assoc, wCells_append, List.getElem?_append_right (by rw [wCells_length]; omega), wCells_length, show (othersTo a b k).length * 2 + 1 - 2 * (othersTo a b k).length = 1 by omega]; rfl
/-- two images' boxes -/
abbrev imA (A A' : Option Addr) (c c' : Nat) (fs bs : List (List UInt8)) (r : List UInt8) : List Value := [.slice A fs.length c, .slice A' bs.length c', S r]

set_option maxRecDepth 100000 in
set_option maxHeartbeats 1000000 in
theorem few_any (w : World) (A A' B B' : Option Addr) (c c' d d' : Nat) (fa ba fb bb : List (List UInt8)) (ra rb : List UInt8) (hT : Tabs w) (hA : Strs w w.heap.size A fa) (hA' : Strs w w.heap.size A' ba) (hB : Strs w w.heap.size B fb) (hB' : Strs w w.heap.size B' bb)
    (hs : sizeOf fa + sizeOf ba + ra.length ≤ 4294967296) (hs' : sizeOf fb + sizeOf bb + rb.length ≤ 4294967296) :
    Calls Tryd.prog 4 #[.agg #[.slice A fa.length c, .slice A' ba.length c', S ra], .agg #[.slice B fb.length d, .slice B' bb.length d', S rb]] w fun e w' => e = .returned (.bool true) ∧ Below w.heap.size w w' := by
  have HT := Lib.hid hT
  have HA := Lib.hid hA
  have HA' := Lib.hid hA'
  have HB := Lib.hid hB
  have HB' := Lib.hid hB'
  clear hT hA hA' hB hB'
  have la := length_le_sizeOf fa
  have la' := length_le_sizeOf ba
  have lb := length_le_sizeOf fb
  have lb' := length_le_sizeOf bb
  go_enter Tryd.func4, Tryd.ntmps4
  go_wp2_with fail
  have hx := ((Whole.made w 24 #[.slice A fa.length c, .slice A' ba.length c', S ra]).block (.cells #[.slice B fb.length d, .slice B' bb.length d', S rb] 24)).block (.cells #[.slice A fa.length c, .slice A' ba.length c', S ra, .slice B fb.length d, .slice B' bb.length d', S rb] 24)
  have hy := (Whole.made (w.alloc (.cells #[.slice A fa.length c, .slice A' ba.length c', S ra] 24)) 24 #[.slice B fb.length d, .slice B' bb.length d', S rb]).block (.cells #[.slice A fa.length c, .slice A' ba.length c', S ra, .slice B fb.length d, .slice B' bb.length d', S rb] 24)
  have hz := Whole.made ((w.alloc (.cells #[.slice A fa.length c, .slice A' ba.length c', S ra] 24)).alloc (.cells #[.slice B fb.length d, .slice B' bb.length d', S rb] 24)) 24 #[.slice A fa.length c, .slice A' ba.length c', S ra, .slice B fb.length d, .slice B' bb.length d', S rb]
  have hb : Below w.heap.size w (((w.alloc (.cells #[.slice A fa.length c, .slice A' ba.length c', S ra] 24)).alloc (.cells #[.slice B fb.length d, .slice B' bb.length d', S rb] 24)).alloc (.cells #[.slice A fa.length c, .slice A' ba.length c', S ra, .slice B fb.length d, .slice B' bb.length d', S rb] 24)) := (((Below.refl _ _).alloc (Nat.le_refl _) _).alloc (by simp) _).alloc (by simp; omega) _
  rw [show (w.alloc (.cells #[.slice A fa.length c, .slice A' ba.length c', S ra] 24)).heap.size = w.heap.size + 1 by simp] at hy
  rw [show ((w.alloc (.cells #[.slice A fa.length c, .slice A' ba.length c', S ra] 24)).alloc (.cells #[.slice B fb.length d, .slice B' bb.length d', S rb] 24)).heap.size = w.heap.size + 1 + 1 by simp] at hz
  change Calls _ _ _ (((w.alloc (.cells #[.slice A fa.length c, .slice A' ba.length c', S ra] 24)).alloc (.cells #[.slice B fb.length d, .slice B' bb.length d', S rb] 24)).alloc (.cells #[.slice A fa.length c, .slice A' ba.length c', S ra, .slice B fb.length d, .slice B' bb.length d', S rb] 24)) _
  generalize (((w.alloc (.cells #[.slice A fa.length c, .slice A' ba.length c', S ra] 24)).alloc (.cells #[.slice B fb.length d, .slice B' bb.length d', S rb] 24)).alloc (.cells #[.slice A fa.length c, .slice A' ba.length c', S ra, .slice B fb.length d, .slice B' bb.length d', S rb] 24)) = w1 at *
  generalize hgx : w.heap.size = gx at *
  have HGX := Lib.hid hgx
  clear hgx
  have hl := hz.lt
  have HX := Lib.hid hx
  have HY := Lib.hid hy
  have HW := Lib.hid hb
  have hL : ∀ (W : World) (G : Option Addr) (xs : List Value), Below w1.heap.size w1 W → Lies w gx G xs → Lies W W.heap.size G xs := fun W G xs hW h => ((h.below HW.out).below (hW.mono (by omega))).wide (by have := hW.size; omega)
  have hTW : ∀ W : World, Below w1.heap.size w1 W → Tabs W := fun W hW => HT.out.below (by rw [HGX.out]; exact Nat.le_refl _) (HW.out.trans (hW.mono (by omega)))
  have HLL := Lib.hid hL
  have HTW := Lib.hid hTW
  have hims : Lies w1 w1.heap.size (some ⟨gx + 1 + 1, 0, none⟩) (imsCells [⟨A, c, fa, A', c', ba, ra⟩, ⟨B, d, fb, B', d', bb, rb⟩]) := fun k u hu => by
    refine ⟨_, rfl, hl, ?_⟩
    have := hz.cell k
    rw [show (⟨gx + 1 + 1, 0, none⟩ : Addr).add k = ⟨gx + 1 + 1, k, none⟩ by unfold Addr.add; split <;> simp_all]
    rw [this, ← hu]; exact List.getElem?_toArray
  have hlies : ∀ x ∈ [(⟨A, c, fa, A', c', ba, ra⟩ : Im), ⟨B, d, fb, B', d', bb, rb⟩], x.at_ w1 w1.heap.size := by
    intro x hx
    simp only [List.mem_cons, List.not_mem_nil, or_false] at hx
    rcases hx with rfl | rfl
    · exact ⟨hL _ _ _ (Below.refl _ _) HA.out, hL _ _ _ (Below.refl _ _) HA'.out⟩
    · exact ⟨hL _ _ _ (Below.refl _ _) HB.out, hL _ _ _ (Below.refl _ _) HB'.out⟩
  clear hx hy hz hb hL hTW
  refine (great_any w1 (some ⟨gx + 1 + 1, 0, none⟩) 2 [⟨A, c, fa, A', c', ba, ra⟩, ⟨B, d, fb, B', d', bb, rb⟩] hims hlies (by simp) (by simp only [total, Im.size, List.map_cons, List.map_nil, List.sum_cons, List.sum_nil]; omega)).mono ?_
  rintro e w2 ⟨rfl, hb2⟩
  clear hims hlies
  have C0 : w2.cell? ⟨gx, 0, none⟩ = some _ := (HX.out.below hb2 (by omega)).cell 0
  have C1 : w2.cell? ⟨gx, 1, none⟩ = some _ := (HX.out.below hb2 (by omega)).cell 1
  have C2 : w2.cell? ⟨gx, 2, none⟩ = some _ := (HX.out.below hb2 (by omega)).cell 2
  have D0 : w2.cell? ⟨gx + 1, 0, none⟩ = some _ := (HY.out.below hb2 (by omega)).cell 0
  have D1 : w2.cell? ⟨gx + 1, 1, none⟩ = some _ := (HY.out.below hb2 (by omega)).cell 1
  have D2 : w2.cell? ⟨gx + 1, 2, none⟩ = some _ := (HY.out.below hb2 (by omega)).cell 2
  have HB2 := Lib.hid hb2
  have hl2 : w1.heap.size ≤ w2.heap.size := hb2.size
  clear hb2
  have HFX : Hid (∀ W : World, Below w1.heap.size w1 W → Calls Tryd.prog 13 #[] W fun e w' => e = .returned (.bool true) ∧ Below w1.heap.size w1 w') := Lib.hid fun W hW => (fixed_any W (HTW.out W hW)).mono fun e w' h => ⟨h.1, hW.trans (h.2.mono hW.size)⟩
  have HEND : Hid (∀ W : World, Below w1.heap.size w1 W → Below gx w W) := Lib.hid fun W hW => HW.out.trans (hW.mono (by omega))
  generalize decide (4000 < total [(⟨A, c, fa, A', c', ba, ra⟩ : Im), ⟨B, d, fb, B', d', bb, rb⟩]) = gr
  cases gr with
  | true =>
    go_wp2_with (go_at_call 13; refine (HFX.out _ HB2.out).mono ?_; rintro e w3 ⟨rfl, hb3⟩)
    go_ret
    exact ⟨rfl, by rw [HGX.out]; exact HEND.out _ hb3⟩
  | false =>
    by_cases hf : fa.length = fb.length
    · by_cases hg : ba.length = bb.length
      · have hn : ((ba.length : Int) == (bb.length : Int)) = true := by simp; omega
        have hm : ((ba.length : Int) != (bb.length : Int)) = false := by simp; omega
        have hm' : ((fa.length : Int) != (fb.length : Int)) = false := by simp; omega
        clear hn
        have HF := Lib.hid hf
        have HG := Lib.hid hg
        clear hf hg
        go_wp2_with fail
        refine (of_any _ A A' B B' c c' d d' fa ba fb bb ra rb (HTW.out _ HB2.out) (HLL.out _ _ _ HB2.out HA.out) (HLL.out _ _ _ HB2.out HA'.out) (HLL.out _ _ _ HB2.out HB.out) (HLL.out _ _ _ HB2.out HB'.out) hs hs').mono ?_
        rintro e w3 ⟨⟨G, kg, G', kg', rfl, h3, h4, h5, h6⟩, h7⟩
        have hless : less fa ba fb bb = false := by simp [less, HF.out, HG.out]
        simp only [hless, onto_false] at h3 h4 ⊢
        have HB3 := Lib.hid (HB2.out.trans (h7.mono hl2))
        have hl3 : w1.heap.size ≤ w3.heap.size := Nat.le_trans hl2 h7.size
        have H3 := Lib.hid h3
        have H4 := Lib.hid h4
        clear h3 h4 h5 h6 h7 hless hm hm'
        obtain ⟨V, HV⟩ : ∃ z, Hid (dCells (dig (imgB fa ba ra)) (.slice G (othersTo fa fb fb.length).length kg) (.slice G' (othersTo ba bb bb.length).length kg') rb (dig (imgB fb bb rb)) = z) := ⟨_, Lib.hid rfl⟩
        rw [HV.out]
        have HVl : Hid (V.length = 67) := Lib.hid (by rw [← HV.out]; exact dCells_length (dig_length _) (dig_length _) _ _ _)
        have HVo : Hid (∀ v ∈ V, v.oneCell' = true) := Lib.hid (by rw [← HV.out]; exact dCells_one _ _ _ _ _ _ _ _ _)
        have HVi : Hid ((Tryd.prog.info? 32).map (·.size) = some V.length) := Lib.hid (by rw [HVl.out]; kernel_rfl)
        have HVf : Hid (0 + V.length ≤ Tryd.zeroCells32.toList.length) := Lib.hid (by rw [HVl.out]; decide)
        have HZ : Hid (Whole (w3.alloc (.cells Tryd.zeroCells32 32)) w3.heap.size 32 Tryd.zeroCells32.toList.toArray) := Lib.hid (by simpa using Whole.made w3 32 Tryd.zeroCells32)
        go_wp2_with (refine wpList_store_at rfl 32 (.tmp 5) (.tmp 35) rfl rfl w3.heap.size 0 rfl V rfl HVi.out Tryd.zeroCells32.toList 32 HZ.out HVf.out HVo.out ?_; intro w4 N4 F4; have b4 := below_grown (HB3.out.alloc hl3 _) F4.out (by simp; omega) hl3; have X0 : Hid (w4.cell? ⟨gx, 0, none⟩ = some _) := Lib.hid ((HX.out.below b4 (by omega)).cell 0); have X1 : Hid (w4.cell? ⟨gx, 1, none⟩ = some _) := Lib.hid ((HX.out.below b4 (by omega)).cell 1); have Y0 : Hid (w4.cell? ⟨gx + 1, 0, none⟩ = some _) := Lib.hid ((HY.out.below b4 (by omega)).cell 0); have Y1 : Hid (w4.cell? ⟨gx + 1, 1, none⟩ = some _) := Lib.hid ((HY.out.below b4 (by omega)).cell 1); have y0 := Y0.out; have HB4 := Lib.hid b4; clear b4)
        have n4 : Whole w4 w3.heap.size 32 V.toArray := by
          have := N4.out
          rw [HVl.out, show Tryd.zeroCells32.toList.drop (0 + 67) = [] from by kernel_rfl, List.take_zero, List.nil_append, List.append_nil] at this
          exact this
        have P32 : Hid (w4.cell? ⟨w3.heap.size, 32, none⟩ = some (Value.slice G (othersTo fa fb fb.length).length kg)) := Lib.hid ((n4.cell 32).trans (by rw [← HV.out]; exact (List.getElem?_toArray).trans (dCells_32 (dig_length _) _ _ _ _)))
        have P33 : Hid (w4.cell? ⟨w3.heap.size, 33, none⟩ = some (Value.slice G' (othersTo ba bb bb.length).length kg')) := Lib.hid ((n4.cell 33).trans (by rw [← HV.out]; exact (List.getElem?_toArray).trans (dCells_33 (dig_length _) _ _ _ _)))
        have hgp4 : w3.heap.size < w4.heap.size := n4.lt
        have L3 := Lib.hid (lies_after (H3.out.block' _) F4.out (fun ad e hne => by have := lies_lt H3.out e hne; omega))
        have L4 := Lib.hid (lies_after (H4.out.block' _) F4.out (fun ad e hne => by have := lies_lt H4.out e hne; omega))
        generalize w3.heap.size = gp at *
        clear n4 N4 F4 HZ H3 H4 HVi HVf HVo HVl
        have hl4 : w1.heap.size ≤ w4.heap.size := HB4.out.size
        generalize V.toArray = VV at *

        go_loopw [6, 39] (fun s i wr => ∃ k : Nat, k ≤ fb.length ∧ i = .int .i64 k ∧ s = .int .i64 (othersTo fa fb k).length ∧ Hid (Below w4.heap.size w4 wr)) (fun _ i _ => fb.length - (intOf i).toNat)
        case atStart => exact ⟨0, by omega, rfl, rfl, Lib.hid (Below.refl _ _)⟩
        case round =>
          obtain ⟨k, hk, rfl, rfl, HR⟩ := hrel
          by_cases hlt : k < fb.length
          · have hka : k < fa.length := by rw [HF.out]; exact hlt
            obtain ⟨ad, rfl, had, hc⟩ := Strs.at' (HLL.out w4 _ _ HB4.out HB.out) hlt
            obtain ⟨ad2, rfl, had2, hc2⟩ := Strs.at' (HLL.out w4 _ _ HB4.out HA.out) hka
            have hcr : wr.cell? (ad.add k) = some (S (fb.getD k [])) := (HR.out.cell (by unfold Addr.add; split <;> exact had)).trans hc
            have hcr2 : wr.cell? (ad2.add k) = some (S (fa.getD k [])) := (HR.out.cell (by unfold Addr.add; split <;> exact had2)).trans hc2
            clear hc hc2
            have q0 := (HR.out.cell (p := ⟨gx, 0, none⟩) (by show gx < _; omega)).trans X0.out
            have q1 := (HR.out.cell (p := ⟨gx + 1, 0, none⟩) (by show gx + 1 < _; omega)).trans Y0.out
            have q2 := (HR.out.cell (p := ⟨gp, 32, none⟩) hgp4).trans P32.out
            have i0 : (0 : Int) ≤ (k : Int) := by omega
            have i1 : (k : Int) < (fa.length : Int) := by omega
            have i2 : (k : Int) < (fb.length : Int) := by omega
            by_cases hxy : fa.getD k [] = fb.getD k []
            · have HE := Lib.hid (othersTo_same hka hxy)
              have hbe : (fa.getD k [] == fb.getD k []) = true := beq_iff_eq.2 hxy
              have hbn : (fa.getD k [] != fb.getD k []) = false := by rw [bne, hbe]; rfl
              clear hxy
              generalize fa.getD k [] = x at *
              generalize fb.getD k [] = y at *
              go_wp2_with fail
              go_quiet (fail)
              go_wp2
              go_roundw
              case rel =>
                have R : ∀ M : Nat, ∃ k' : Nat, k' ≤ fb.length ∧ Value.int .i64 ((k : Int) + 1) = .int .i64 k' ∧ Value.int .i64 ((othersTo fa fb k).length : Int) = .int .i64 (othersTo fa fb k').length ∧ Hid (Below w4.heap.size w4 (wr.drewN M)) := fun M => ⟨k + 1, by omega, by go_num, by rw [HE.out], Lib.hid (Below.draws HR.out _)⟩
                first | exact R _ | ((repeat apply Exists.intro); exact ⟨R _, rfl⟩)
              case measure => simp [intOf]; omega
            · have HE := Lib.hid (othersTo_new (a := fa) (b := fb) (k := k) (fun h => hxy h.2))
              have hbe : (fa.getD k [] == fb.getD k []) = false := beq_eq_false_iff_ne.2 hxy
              have hbn : (fa.getD k [] != fb.getD k []) = true := by rw [bne, hbe]; rfl
              obtain ⟨hn1, hn2, hn3⟩ := othersTo_at (n := fb.length) hlt (fun h => hxy h.2)
              clear hxy
              have hk0 := othersTo_le fa fb k
              generalize fa.getD k [] = x at *
              generalize fb.getD k [] = y at *
              generalize (othersTo fa fb fb.length).length = N at *
              generalize hT0 : (othersTo fa fb k).length = T0 at *
              have HT0 := Lib.hid hT0
              clear hT0
              have dN : decide (N ≤ T0) = false := by simp; omega
              obtain ⟨ad3, hG, had3, hc0⟩ := L3.out _ _ hn2
              obtain ⟨ad4, hG4, _, hc1⟩ := L3.out _ _ hn3
              subst hG
              obtain rfl : ad3 = ad4 := by injection hG4
              clear hG4
              have k0 : wr.cell? (ad3.add (T0 * 2)) = some (Value.int .i64 (k : Int)) := (HR.out.cell (by unfold Addr.add; split <;> exact had3)).trans hc0
              have k1 : wr.cell? ⟨(ad3.add (T0 * 2)).block, (ad3.add (T0 * 2)).off + 1, none⟩ = some (S y) := by
                refine Eq.trans ?_ hc1
                rw [show (⟨(ad3.add (T0 * 2)).block, (ad3.add (T0 * 2)).off + 1, none⟩ : Addr) = ad3.add (T0 * 2 + 1) by unfold Addr.add; by_cases h : T0 * 2 = 0 <;> simp [h, Nat.add_assoc]]
                exact HR.out.cell (by unfold Addr.add; split <;> exact had3)
              clear hc0 hc1
              have j1 : (T0 : Int) < (N : Int) := by omega
              have j0 : (0 : Int) ≤ (T0 : Int) := by omega
              go_wp2_with fail
              go_quiet (fail)
              go_wp2_with fail
              go_quiet (fail)
              go_wp2
              go_roundw
              case rel =>
                have R : ∀ M : Nat, ∃ k' : Nat, k' ≤ fb.length ∧ Value.int .i64 ((k : Int) + 1) = .int .i64 k' ∧ Value.int .i64 ((T0 : Int) + 1) = .int .i64 (othersTo fa fb k').length ∧ Hid (Below w4.heap.size w4 (wr.drewN M)) := fun M => ⟨k + 1, by omega, by go_num, by rw [HE.out, List.length_append, HT0.out]; go_num, Lib.hid (Below.draws HR.out _)⟩
                first | exact R _ | ((repeat apply Exists.intro); exact ⟨R _, rfl⟩)
              case measure => simp [intOf]; omega
          · obtain rfl : k = fb.length := by omega
            have z1 := (HR.out.cell (p := ⟨gx + 1, 1, none⟩) (by show gx + 1 < _; omega)).trans Y1.out
            go_wp2_with fail
            go_loopw [8, 79] (fun s i wr => ∃ k : Nat, k ≤ bb.length ∧ i = .int .i64 k ∧ s = .int .i64 (othersTo ba bb k).length ∧ Hid (Below w4.heap.size w4 wr)) (fun _ i _ => bb.length - (intOf i).toNat)
            case atStart => exact ⟨0, by omega, rfl, rfl, HR⟩
            case round =>
              obtain ⟨k, hk, rfl, rfl, HR⟩ := hrel
              by_cases hlt : k < bb.length
              · have hka : k < ba.length := by rw [HG.out]; exact hlt
                obtain ⟨ad, rfl, had, hc⟩ := Strs.at' (HLL.out w4 _ _ HB4.out HB'.out) hlt
                obtain ⟨ad2, rfl, had2, hc2⟩ := Strs.at' (HLL.out w4 _ _ HB4.out HA'.out) hka
                have hcr : wr.cell? (ad.add k) = some (S (bb.getD k [])) := (HR.out.cell (by unfold Addr.add; split <;> exact had)).trans hc
                have hcr2 : wr.cell? (ad2.add k) = some (S (ba.getD k [])) := (HR.out.cell (by unfold Addr.add; split <;> exact had2)).trans hc2
                clear hc hc2
                have q0 := (HR.out.cell (p := ⟨gx, 1, none⟩) (by show gx < _; omega)).trans X1.out
                have q1 := (HR.out.cell (p := ⟨gx + 1, 1, none⟩) (by show gx + 1 < _; omega)).trans Y1.out
                have q2 := (HR.out.cell (p := ⟨gp, 33, none⟩) hgp4).trans P33.out
                have i0 : (0 : Int) ≤ (k : Int) := by omega
                have i1 : (k : Int) < (ba.length : Int) := by omega
                have i2 : (k : Int) < (bb.length : Int) := by omega
                by_cases hxy : ba.getD k [] = bb.getD k []
                · have HE := Lib.hid (othersTo_same hka hxy)
                  have hbe : (ba.getD k [] == bb.getD k []) = true := beq_iff_eq.2 hxy
                  have hbn : (ba.getD k [] != bb.getD k []) = false := by rw [bne, hbe]; rfl
                  clear hxy
                  generalize ba.getD k [] = x at *
                  generalize bb.getD k [] = y at *
                  go_wp2_with fail
                  go_quiet (fail)
                  go_wp2
                  go_roundw
                  case rel =>
                    have R : ∀ M : Nat, ∃ k' : Nat, k' ≤ bb.length ∧ Value.int .i64 ((k : Int) + 1) = .int .i64 k' ∧ Value.int .i64 ((othersTo ba bb k).length : Int) = .int .i64 (othersTo ba bb k').length ∧ Hid (Below w4.heap.size w4 (wr.drewN M)) := fun M => ⟨k + 1, by omega, by go_num, by rw [HE.out], Lib.hid (Below.draws HR.out _)⟩
                    first | exact R _ | ((repeat apply Exists.intro); exact ⟨R _, rfl⟩)
                  case measure => simp [intOf]; omega
                · have HE := Lib.hid (othersTo_new (a := ba) (b := bb) (k := k) (fun h => hxy h.2))
                  have hbe : (ba.getD k [] == bb.getD k []) = false := beq_eq_false_iff_ne.2 hxy
                  have hbn : (ba.getD k [] != bb.getD k []) = true := by rw [bne, hbe]; rfl
                  obtain ⟨hn1, hn2, hn3⟩ := othersTo_at (n := bb.length) hlt (fun h => hxy h.2)
                  clear hxy
                  have hk0 := othersTo_le ba bb k
                  generalize ba.getD k [] = x at *
                  generalize bb.getD k [] = y at *
                  generalize (othersTo ba bb bb.length).length = N at *
                  generalize hT0 : (othersTo ba bb k).length = T0 at *
                  have HT0 := Lib.hid hT0
                  clear hT0
                  have dN : decide (N ≤ T0) = false := by simp; omega
                  obtain ⟨ad3, hG, had3, hc0⟩ := L4.out _ _ hn2
                  obtain ⟨ad4, hG4, _, hc1⟩ := L4.out _ _ hn3
                  subst hG
                  obtain rfl : ad3 = ad4 := by injection hG4
                  clear hG4
                  have k0 : wr.cell? (ad3.add (T0 * 2)) = some (Value.int .i64 (k : Int)) := (HR.out.cell (by unfold Addr.add; split <;> exact had3)).trans hc0
                  have k1 : wr.cell? ⟨(ad3.add (T0 * 2)).block, (ad3.add (T0 * 2)).off + 1, none⟩ = some (S y) := by
                    refine Eq.trans ?_ hc1
                    rw [show (⟨(ad3.add (T0 * 2)).block, (ad3.add (T0 * 2)).off + 1, none⟩ : Addr) = ad3.add (T0 * 2 + 1) by unfold Addr.add; by_cases h : T0 * 2 = 0 <;> simp [h, Nat.add_assoc]]
                    exact HR.out.cell (by unfold Addr.add; split <;> exact had3)
                  clear hc0 hc1
                  have j1 : (T0 : Int) < (N : Int) := by omega
                  have j0 : (0 : Int) ≤ (T0 : Int) := by omega
                  go_wp2_with fail
                  go_quiet (fail)
                  go_wp2_with fail
                  go_quiet (fail)
                  go_wp2
                  go_roundw
                  case rel =>
                    have R : ∀ M : Nat, ∃ k' : Nat, k' ≤ bb.length ∧ Value.int .i64 ((k : Int) + 1) = .int .i64 k' ∧ Value.int .i64 ((T0 : Int) + 1) = .int .i64 (othersTo ba bb k').length ∧ Hid (Below w4.heap.size w4 (wr.drewN M)) := fun M => ⟨k + 1, by omega, by go_num, by rw [HE.out, List.length_append, HT0.out]; go_num, Lib.hid (Below.draws HR.out _)⟩
                    first | exact R _ | ((repeat apply Exists.intro); exact ⟨R _, rfl⟩)
                  case measure => simp [intOf]; omega
              · obtain rfl : k = bb.length := by omega
                go_wp2_with fail
                go_wp2_with (go_at_call 13; refine (fixed_any wr (HTW.out _ (HB4.out.trans (HR.out.mono hl4)))).mono ?_; rintro e w6 ⟨rfl, h6⟩; have r1 := ((HR.out.trans (h6.mono HR.out.size)).cell (p := ⟨gp, 32, none⟩) hgp4).trans P32.out; have r2 := ((HR.out.trans (h6.mono HR.out.size)).cell (p := ⟨gp, 33, none⟩) hgp4).trans P33.out; have h7 := Lib.hid (HR.out.trans (h6.mono HR.out.size)); clear h6)
                go_ret
                exact ⟨rfl, by rw [HGX.out]; exact HEND.out _ (HB4.out.trans (h7.out.mono hl4))⟩
      · have hn : ((ba.length : Int) == (bb.length : Int)) = false := by simp; omega
        have hn' : ((fa.length : Int) == (fb.length : Int)) = true := by simp; omega
        go_wp2_with (go_at_call 13; refine (HFX.out _ HB2.out).mono ?_; rintro e w3 ⟨rfl, hb3⟩)
        go_ret
        exact ⟨rfl, by rw [HGX.out]; exact HEND.out _ hb3⟩
    · have hn : ((fa.length : Int) == (fb.length : Int)) = false := by simp; omega
      go_wp2_with (go_at_call 13; refine (HFX.out _ HB2.out).mono ?_; rintro e w3 ⟨rfl, hb3⟩)
      go_ret
      exact ⟨rfl, by rw [HGX.out]; exact HEND.out _ hb3⟩
end Go.Proofs.YtecamaceainfpaaDoor
