/-
  Walks: image.Bytes, image.Sum.
-/
import Derived.Test.YtecamaceainfpaaDoorRow
import Derived.Test.YtecamaceainfpaaDoorSum
import Derived.Deep.RegionHeld3
namespace Go.Proofs.YtecamaceainfpaaDoor
open Go.RowKit

/-- cells that a new block holds -/
theorem lies_made (w : World) (t : TypeId) (xs : List Value) (B : Nat) (hB : w.heap.size < B) : Lies (w.alloc (.cells xs.toArray t)) B (some ⟨w.heap.size, 0, none⟩) xs := fun k u hu => by
  refine ⟨_, rfl, hB, ?_⟩
  have ha : (⟨w.heap.size, 0, none⟩ : Addr).add k = ⟨w.heap.size, k, none⟩ := by unfold Addr.add; split <;> simp_all
  rw [ha, (Whole.made w t xs.toArray).cell]
  simpa using hu
theorem row_four (w : World) (a b c d : List UInt8) (hs : sizeOf [a, b, c, d] ≤ 34359738368) :
    Calls Tryd.prog 53 #[.slice (some ⟨w.heap.size, 0, none⟩) 4 4] (w.alloc (.cells #[S a, S b, S c, S d] 9)) fun e w' => e = .returned (S (rowB [a, b, c, d])) ∧ Below w.heap.size w w' :=
  (row_any (w.alloc (.cells #[S a, S b, S c, S d] 9)) (some ⟨w.heap.size, 0, none⟩) 4 [a, b, c, d] (lies_made w 9 [S a, S b, S c, S d] _ (by simp)) hs).mono fun _ _ h => ⟨h.1, ((Below.refl _ _).alloc (Nat.le_refl _) _).trans (h.2.mono (by simp))⟩
/-- an image as bytes -/
def imgB (fs bs : List (List UInt8)) (r : List UInt8) : List UInt8 := rowB [[104, 105, 98, 105], rowB fs, rowB bs, r]
theorem imgB_size (fs bs : List (List UInt8)) (r : List UInt8) (h : sizeOf fs + sizeOf bs + r.length ≤ 4294967296) : sizeOf [[104, 105, 98, 105], rowB fs, rowB bs, r] ≤ 34359738368 := by
  have h1 := rowB_le fs (by omega)
  have h2 := rowB_le bs (by omega)
  simp only [sizeOf, List.map_cons, List.map_nil, List.sum_cons, List.sum_nil, List.length_cons, List.length_nil]
  unfold sizeOf at h1 h2 h
  omega

set_option maxRecDepth 100000 in
set_option maxHeartbeats 2000000 in
theorem imgBytes_any (w : World) (A A' : Option Addr) (c c' : Nat) (fs bs : List (List UInt8)) (r : List UInt8) (hA : Strs w w.heap.size A fs) (hA' : Strs w w.heap.size A' bs) (hs : sizeOf fs + sizeOf bs + r.length ≤ 4294967296) :
    Calls Tryd.prog 33 #[.agg #[.slice A fs.length c, .slice A' bs.length c', S r]] w fun e w' => e = .returned (S (imgB fs bs r)) ∧ Below w.heap.size w w' := by
  have HA := Lib.hid hA
  have HA' := Lib.hid hA'
  clear hA hA'
  have HS := Lib.hid (imgB_size fs bs r hs)
  go_enter Tryd.func33, Tryd.ntmps33
  go_wp2_with fail
  have hx := Whole.made w 24 #[.slice A fs.length c, .slice A' bs.length c', S r]
  have hb := (Below.refl w.heap.size w).alloc (Nat.le_refl _) (.cells #[.slice A fs.length c, .slice A' bs.length c', S r] 24)
  have hz : (w.alloc (.cells #[.slice A fs.length c, .slice A' bs.length c', S r] 24)).heap.size = w.heap.size + 1 := by simp
  have c0 := hx.cell 0
  have c1 := hx.cell 1
  have c2 := hx.cell 2
  simp only [List.getElem?_toArray, List.getElem?_cons_zero, List.getElem?_cons_succ] at c0 c1 c2
  have HB := Lib.hid hb
  have HZ := Lib.hid hz
  have C0 := Lib.hid c0
  have C1 := Lib.hid c1
  have C2 := Lib.hid c2
  clear hx hb hz
  generalize w.alloc (.cells #[.slice A fs.length c, .slice A' bs.length c', S r] 24) = w1 at *
  have hlt : w.heap.size < w1.heap.size := by have := HZ.out; omega
  generalize hgx : w.heap.size = gx at *
  have HGX := Lib.hid hgx
  clear hgx
  have rowF : ∀ W : World, Below (gx + 1) w1 W → Calls Tryd.prog 53 #[.slice A fs.length c] W fun e w' => e = .returned (S (rowB fs)) ∧ Below W.heap.size W w' := fun W hW =>
    row_any W A c fs (((HA.out.below HB.out).below (hW.mono (by omega))).wide (by have := hW.size; omega)) (by omega)
  have rowG : ∀ W : World, Below (gx + 1) w1 W → Calls Tryd.prog 53 #[.slice A' bs.length c'] W fun e w' => e = .returned (S (rowB bs)) ∧ Below W.heap.size W w' := fun W hW =>
    row_any W A' c' bs (((HA'.out.below HB.out).below (hW.mono (by omega))).wide (by have := hW.size; omega)) (by omega)
  have RF := Lib.hid rowF
  have RG := Lib.hid rowG
  clear rowF rowG
  go_region_held3 (fun w' => w'.cell? ⟨gx, 0, none⟩ = some (.slice A fs.length c) ∧ w'.cell? ⟨gx, 1, none⟩ = some (.slice A' bs.length c') ∧ w'.cell? ⟨gx, 2, none⟩ = some (S r))
    (first
      | go_keep
      | (exact ⟨(BB.cell (p := ⟨gx, 0, none⟩) (Nat.lt_succ_self _)).trans C0.out, (BB.cell (p := ⟨gx, 1, none⟩) (Nat.lt_succ_self _)).trans C1.out, (BB.cell (p := ⟨gx, 2, none⟩) (Nat.lt_succ_self _)).trans C2.out⟩))
    (first
      | (go_at_call_of 53 (Value.slice A fs.length c); refine (RF.out _ ?_).mono ?_; (exact (Below.refl _ _).drew); rintro e w2 ⟨rfl, hbl⟩; have B2 : Below (gx + 1) w1 w2 := ((Below.refl _ _).drew).trans (hbl.mono hlt); have BB := B2; have hlt2 : gx < w2.heap.size := Nat.lt_of_lt_of_le hlt hbl.size)
      | (go_at_call_of 53 (Value.slice A' bs.length c'); refine (RG.out _ ?_).mono ?_; (exact B2); rintro e w3 ⟨rfl, hbl⟩; have B3 : Below (gx + 1) w1 w3 := B2.trans (hbl.mono hlt2); have BB := B3; have hlt3 : gx < w3.heap.size := Nat.lt_of_lt_of_le hlt2 hbl.size)
      | (go_at_call 53; refine (row_four w3 [104, 105, 98, 105] (rowB fs) (rowB bs) r HS.out).mono ?_; rintro e w4 ⟨rfl, hbl⟩; have B4 : Below (gx + 1) w1 w4 := B3.trans (hbl.mono hlt3); have BB := B4))
  go_wp2
  go_ret
  refine ⟨rfl, ?_⟩
  rw [HGX.out]
  exact HB.out.trans (B4.mono (by omega))

theorem lies_one {w w' : World} {B : Nat} {A : Option Addr} {xs : List Value} (h : Lies w B A xs) (hb : Below B w w') (hB : B ≤ w'.heap.size) : Lies w' w'.heap.size A xs := (h.below hb).wide hB

set_option maxRecDepth 100000 in
set_option maxHeartbeats 2000000 in
theorem imgSum_any (w : World) (A A' : Option Addr) (c c' : Nat) (fs bs : List (List UInt8)) (r : List UInt8) (hT : Tabs w) (hA : Strs w w.heap.size A fs) (hA' : Strs w w.heap.size A' bs) (hs : sizeOf fs + sizeOf bs + r.length ≤ 4294967296) :
    Calls Tryd.prog 36 #[.agg #[.slice A fs.length c, .slice A' bs.length c', S r]] w fun e w' => e = .returned (D32 (dig (imgB fs bs r))) ∧ Below w.heap.size w w' := by
  have HA := Lib.hid hA
  have HA' := Lib.hid hA'
  have HT := Lib.hid hT
  clear hA hA' hT
  go_enter Tryd.func36, Tryd.ntmps36
  go_wp2_with fail
  have hz := Whole.made (w.alloc (.cells #[.slice A fs.length c, .slice A' bs.length c', S r] 24)) 29 ((List.replicate 32 (0 : UInt8)).map B8).toArray
  have hb : Below w.heap.size w ((w.alloc (.cells #[.slice A fs.length c, .slice A' bs.length c', S r] 24)).alloc (.cells ((List.replicate 32 (0 : UInt8)).map B8).toArray 29)) := ((Below.refl _ _).alloc (Nat.le_refl _) _).alloc (by simp) _
  rw [show (w.alloc (.cells #[.slice A fs.length c, .slice A' bs.length c', S r] 24)).heap.size = w.heap.size + 1 by simp] at hz
  have HZ := Lib.hid hz
  have HB := Lib.hid hb
  clear hz hb
  change Calls _ _ _ ((w.alloc (.cells #[.slice A fs.length c, .slice A' bs.length c', S r] 24)).alloc (.cells ((List.replicate 32 (0 : UInt8)).map B8).toArray 29)) _
  generalize (w.alloc (.cells #[.slice A fs.length c, .slice A' bs.length c', S r] 24)).alloc (.cells ((List.replicate 32 (0 : UInt8)).map B8).toArray 29) = w1 at *
  have hl1 := HZ.out.lt
  refine (imgBytes_any w1 A A' c c' fs bs r (lies_one HA.out HB.out HB.out.size) (lies_one HA'.out HB.out HB.out.size) hs).mono ?_
  rintro e w2 ⟨rfl, hb2⟩
  have HZ2 := Lib.hid (HZ.out.below hb2 hl1)
  have HB2 : Hid (Below w.heap.size w w2) := Lib.hid (HB.out.trans (hb2.mono HB.out.size))
  have hl2 := HZ2.out.lt
  clear hb2 HZ HB
  have hlen : (imgB fs bs r).length ≤ 68719476736 := by
    unfold imgB
    have := rowB_le _ (imgB_size fs bs r hs)
    have := imgB_size fs bs r hs
    omega
  obtain ⟨X, HX⟩ : ∃ z, Hid (imgB fs bs r = z) := ⟨_, Lib.hid rfl⟩
  rw [HX.out] at hlen
  rw [HX.out]
  go_wp2_with fail
  refine (sum_any (w2.alloc (.cells #[S X] 9)) (some ⟨w2.heap.size, 0, none⟩) 1 [X] (HT.out.below (Nat.le_refl _) (HB2.out.alloc HB2.out.size _)) (lies_made w2 9 [S X] _ (by simp)) (by simp) (by simp; omega)).mono ?_
  rintro e w3 ⟨rfl, hb3⟩
  have HB3 : Hid (Below w.heap.size w w3) := Lib.hid ((HB2.out.alloc HB2.out.size _).trans (hb3.mono (by have := HB2.out.size; simp; omega)))
  have HZ3 := Lib.hid ((HZ2.out.block _).below hb3 (by simp; omega))
  clear hb3 HB2 HZ2
  have HDD : Hid (dig [X].flatten = dig X) := Lib.hid (by simp)
  have HDL : Hid ((dig X).length = 32) := Lib.hid (dig_length X)
  rw [HDD.out]
  obtain ⟨D, HDn⟩ : ∃ z, Hid (dig X = z) := ⟨_, Lib.hid rfl⟩
  rw [HDn.out] at HDL
  rw [HDn.out]
  have HDi : Hid ((Tryd.prog.info? 29).map (·.size) = some (D.map B8).toArray.size) := Lib.hid (by
    rw [List.size_toArray, List.length_map, HDL.out]; kernel_rfl)
  have HDl : Hid ((Tryd.prog.info? 29).map (·.size) = some (D.map B8).length) := Lib.hid (by
    rw [List.length_map, HDL.out]; kernel_rfl)
  have HC1 : Hid (0 + (D.map B8).length ≤ ((List.replicate 32 (0 : UInt8)).map B8).length) := Lib.hid (by rw [List.length_map, List.length_map, HDL.out]; decide)
  go_wp2_with (refine wpList_store_at rfl 29 (.tmp 2) (.tmp 6) rfl rfl (w.heap.size + 1) 0 rfl (D.map B8) rfl HDl.out ((List.replicate 32 (0 : UInt8)).map B8) 29 HZ3.out HC1.out (B8_one _) ?_; intro w6 H6 F6)
  have h6 : Whole w6 (w.heap.size + 1) 29 (D.map B8).toArray := by
    have := H6.out
    rw [List.length_map, HDL.out] at this
    simpa using this
  exact bodyPost_ret (v := .agg (D.map B8).toArray) (results_cell_row rfl _ _ (w.heap.size + 1) 29 _ (0, 0) _ rfl h6 Tryd.underlying29 rfl HDi.out) rfl ⟨by rw [HX.out, HDn.out], below_grown HB3.out F6.out HB3.out.size (by omega)⟩
end Go.Proofs.YtecamaceainfpaaDoor
