/-
  Walks: hibernacleref02.Sum, hibernacleref32.Bytes, hibernacleref32.Sum.
-/
import Derived.Test.YtecamaceainfpaaDoorRRow
import Derived.Test.YtecamaceainfpaaDoorBytes
import Derived.StillTailTactics
namespace Go.Proofs.YtecamaceainfpaaDoor
open Go.RowKit

set_option maxRecDepth 100000 in
set_option maxHeartbeats 2000000 in
theorem rsum_any (w : World) (A : Option Addr) (c : Nat) (ls : List (List UInt8)) (hA : Strs w w.heap.size A ls) (hn : ls.length ≤ 1099511627776) (hl : ls.flatten.length ≤ 1099511627776) :
    Calls Tryd.prog 69 #[.slice A ls.length c] w fun e w' => e = .returned (D32 (dig ls.flatten)) ∧ Below w.heap.size w w' := by
  have HA := Lib.hid hA
  have HZ := Lib.hid (Whole.made w 29 ((List.replicate 32 (0 : UInt8)).map B8).toArray)
  have HB := Lib.hid ((Below.refl w.heap.size w).alloc (Nat.le_refl _) (.cells ((List.replicate 32 (0 : UInt8)).map B8).toArray 29))
  clear hA
  go_enter Tryd.func69, Tryd.ntmps69
  go_wp2_with fail
  change Calls _ _ _ (w.alloc (.cells ((List.replicate 32 (0 : UInt8)).map B8).toArray 29)) _
  generalize w.alloc (.cells ((List.replicate 32 (0 : UInt8)).map B8).toArray 29) = w1 at *
  refine (eight_any w1).mono ?_
  rintro e w2 ⟨rfl, hb2⟩
  have HZ2 := Lib.hid (HZ.out.below hb2 HZ.out.lt)
  have HB2 : Hid (Below w.heap.size w w2) := Lib.hid (HB.out.trans (hb2.mono (Nat.le_of_lt HZ.out.lt)))
  clear hb2 HZ HB
  have HN : Hid (Whole (w2.alloc (.cells ((List.replicate 8 (0 : UInt32)).map U).toArray 96)) w2.heap.size 96 ((List.replicate 8 (0 : UInt32)).map U).toArray) := Lib.hid (Whole.made _ _ _)
  have hgl : w.heap.size < w2.heap.size := HZ2.out.lt
  go_wp2_with (refine wpList_store_at rfl 96 (.tmp 3) (.tmp 4) rfl rfl w2.heap.size 0 rfl (IV.map U) rfl (by kernel_rfl) ((List.replicate 8 (0 : UInt32)).map U) 96 HN.out (by decide) (U_one _) ?_; intro w3 N3 F3; have c0 : w3.cell? ⟨w2.heap.size, 0, none⟩ = some (.int .u32 1779033703) := (N3.out.cell 0).trans rfl; have f0 := N3.out.free 0)
  rw [show bits BinOp.xor IntKind.u32 1779033703 16842784 = 1795745351 from by decide +kernel]
  have H4 : Hid (Whole (w3.setCell ⟨w2.heap.size, 0, none⟩ (.int .u32 1795745351)) w2.heap.size 96 (h0.map U).toArray) := Lib.hid (N3.out.set 0 (.int .u32 1795745351))
  have HB3 : Hid (Below w2.heap.size w2 w3) := Lib.hid (below_grown ((Below.refl _ _).alloc (Nat.le_refl _) _) F3.out (by simp) (Nat.le_refl _))
  have HB4 : Hid (Below w2.heap.size w2 (w3.setCell ⟨w2.heap.size, 0, none⟩ (.int .u32 1795745351))) := Lib.hid (HB3.out.setCell (Nat.le_refl _) _)
  clear c0 f0 N3 F3 HN HB3
  generalize w3.setCell ⟨w2.heap.size, 0, none⟩ (.int .u32 1795745351) = w4 at *
  have HZ4 := Lib.hid (HZ2.out.below HB4.out hgl)
  have HB5 : Hid (Below w.heap.size w w4) := Lib.hid (HB2.out.trans (HB4.out.mono (Nat.le_of_lt hgl)))
  have hgl4 : w2.heap.size < w4.heap.size := H4.out.lt
  clear HB4 HZ2 HB2
  generalize w2.heap.size = gb at *
  have c0 : w4.cell? ⟨gb, 0, none⟩ = some (.int .u32 1795745351) := H4.out.cell 0
  have c1 : w4.cell? ⟨gb, 1, none⟩ = some (.int .u32 3144134277) := H4.out.cell 1
  have c2 : w4.cell? ⟨gb, 2, none⟩ = some (.int .u32 1013904242) := H4.out.cell 2
  have c3 : w4.cell? ⟨gb, 3, none⟩ = some (.int .u32 2773480762) := H4.out.cell 3
  have c4 : w4.cell? ⟨gb, 4, none⟩ = some (.int .u32 1359893119) := H4.out.cell 4
  have c5 : w4.cell? ⟨gb, 5, none⟩ = some (.int .u32 2600822924) := H4.out.cell 5
  have c6 : w4.cell? ⟨gb, 6, none⟩ = some (.int .u32 528734635) := H4.out.cell 6
  have c7 : w4.cell? ⟨gb, 7, none⟩ = some (.int .u32 1541459225) := H4.out.cell 7
  have HJ := Lib.hid (joined_any w4 A c ls ((HA.out.below HB5.out).wide HB5.out.size) hn hl)
  have HJ := Lib.hid (joined_any (w4.drew) A c ls ((HA.out.below HB5.out).wide HB5.out.size) hn hl)
  go_still_tail 3, (by kernel_rfl)
  still_call (HJ.out)
  repeat still_step
  refine wpStill_nil ?_
  change wpList _ _ _ _ _ w4.drew
  rw [show Value.agg #[Value.int IntKind.u32 1795745351, Value.int IntKind.u32 3144134277, Value.int IntKind.u32 1013904242, Value.int IntKind.u32 2773480762, Value.int IntKind.u32 1359893119, Value.int IntKind.u32 2600822924, Value.int IntKind.u32 528734635, Value.int IntKind.u32 1541459225] = .agg (h0.map U).toArray from by kernel_rfl]
  clear c0 c1 c2 c3 c4 c5 c6 c7 HJ
  have HZ5 := Lib.hid (HZ4.out.draw)
  have HB6 : Hid (Below w.heap.size w w4.drew) := Lib.hid (HB5.out.drew)
  clear HZ4 HB5 H4
  have hgl5 : w.heap.size < w4.drew.heap.size := by show w.heap.size < w4.heap.size; omega
  generalize w4.drew = w5 at *
  go_wp2_with fail
  refine (rdigest_any w5 h0 ls.flatten h0_length hl).mono ?_
  rintro e w6 ⟨rfl, hb6⟩
  have HZ6 := Lib.hid (HZ5.out.below hb6 hgl5)
  have HB7 : Hid (Below w.heap.size w w6) := Lib.hid (HB6.out.trans (hb6.mono (Nat.le_of_lt hgl5)))
  clear hb6 HZ5 HB6
  have HDL : Hid ((digL h0 ls.flatten).length = 32) := Lib.hid (digL_length _ _)
  obtain ⟨D, HDn⟩ : ∃ z, Hid (digL h0 ls.flatten = z) := ⟨_, Lib.hid rfl⟩
  rw [HDn.out] at HDL
  rw [HDn.out]
  have HDi : Hid ((Tryd.prog.info? 29).map (·.size) = some (D.map B8).toArray.size) := Lib.hid (by
    rw [List.size_toArray, List.length_map, HDL.out]; kernel_rfl)
  have HDl : Hid ((Tryd.prog.info? 29).map (·.size) = some (D.map B8).length) := Lib.hid (by
    rw [List.length_map, HDL.out]; kernel_rfl)
  have HC1 : Hid (0 + (D.map B8).length ≤ ((List.replicate 32 (0 : UInt8)).map B8).length) := Lib.hid (by rw [List.length_map, List.length_map, HDL.out]; decide)
  go_wp2_with (refine wpList_store_at rfl 29 (.tmp 2) (.tmp 12) rfl rfl w.heap.size 0 rfl (D.map B8) rfl HDl.out ((List.replicate 32 (0 : UInt8)).map B8) 29 HZ6.out HC1.out (B8_one _) ?_; intro w9 H9 F9)
  have h9 : Whole w9 w.heap.size 29 (D.map B8).toArray := by
    have := H9.out
    rw [List.length_map, HDL.out] at this
    simpa using this
  exact bodyPost_ret (v := .agg (D.map B8).toArray) (results_cell_row rfl _ _ w.heap.size 29 _ (0, 0) _ rfl h9 Tryd.underlying29 rfl HDi.out) rfl ⟨by rw [show dig ls.flatten = D from HDn.out], below_grown HB7.out F9.out HB7.out.size (Nat.le_refl _)⟩

theorem rrow_four (w : World) (a b c d : List UInt8) (hs : sizeOf [a, b, c, d] ≤ 34359738368) :
    Calls Tryd.prog 57 #[.slice (some ⟨w.heap.size, 0, none⟩) 4 4] (w.alloc (.cells #[S a, S b, S c, S d] 9)) fun e w' => e = .returned (S (rowB [a, b, c, d])) ∧ Below w.heap.size w w' :=
  (rrow_any (w.alloc (.cells #[S a, S b, S c, S d] 9)) (some ⟨w.heap.size, 0, none⟩) 4 [a, b, c, d] (lies_made w 9 [S a, S b, S c, S d] _ (by simp)) hs).mono fun _ _ h => ⟨h.1, ((Below.refl _ _).alloc (Nat.le_refl _) _).trans (h.2.mono (by simp))⟩

set_option maxRecDepth 100000 in
set_option maxHeartbeats 2000000 in
theorem rimgBytes_any (w : World) (A A' : Option Addr) (c c' : Nat) (fs bs : List (List UInt8)) (r : List UInt8) (hA : Strs w w.heap.size A fs) (hA' : Strs w w.heap.size A' bs) (hs : sizeOf fs + sizeOf bs + r.length ≤ 4294967296) :
    Calls Tryd.prog 35 #[.agg #[.slice A fs.length c, .slice A' bs.length c', S r]] w fun e w' => e = .returned (S (imgB fs bs r)) ∧ Below w.heap.size w w' := by
  have HA := Lib.hid hA
  have HA' := Lib.hid hA'
  clear hA hA'
  have HS := Lib.hid (imgB_size fs bs r hs)
  go_enter Tryd.func35, Tryd.ntmps35
  go_wp2_with fail
  have hx := Whole.made w 24 #[.slice A fs.length c, .slice A' bs.length c', S r]
  have hb := (Below.refl w.heap.size w).alloc (Nat.le_refl _) (.cells #[.slice A fs.length c, .slice A' bs.length c', S r] 24)
  have hz : (w.alloc (.cells #[.slice A fs.length c, .slice A' bs.length c', S r] 24)).heap.size = w.heap.size + 1 := by simp
  have c0 := hx.cell 0
  have c1 := hx.cell 1
  have c2 := hx.cell 2
  simp only [List.getElem?_toArray, List.getElem?_cons_zero, List.getElem?_cons_succ] at c0 c1 c2
  have HB := Lib.hid hb
  have HZ := Lib.hid hz
  have C0 := Lib.hid c0
  have C1 := Lib.hid c1
  have C2 := Lib.hid c2
  clear hx hb hz
  generalize w.alloc (.cells #[.slice A fs.length c, .slice A' bs.length c', S r] 24) = w1 at *
  have hlt : w.heap.size < w1.heap.size := by have := HZ.out; omega
  generalize hgx : w.heap.size = gx at *
  have HGX := Lib.hid hgx
  clear hgx
  have rowF : ∀ W : World, Below (gx + 1) w1 W → Calls Tryd.prog 57 #[.slice A fs.length c] W fun e w' => e = .returned (S (rowB fs)) ∧ Below W.heap.size W w' := fun W hW =>
    rrow_any W A c fs (((HA.out.below HB.out).below (hW.mono (by omega))).wide (by have := hW.size; omega)) (by omega)
  have rowG : ∀ W : World, Below (gx + 1) w1 W → Calls Tryd.prog 57 #[.slice A' bs.length c'] W fun e w' => e = .returned (S (rowB bs)) ∧ Below W.heap.size W w' := fun W hW =>
    rrow_any W A' c' bs (((HA'.out.below HB.out).below (hW.mono (by omega))).wide (by have := hW.size; omega)) (by omega)
  have RF := Lib.hid rowF
  have RG := Lib.hid rowG
  clear rowF rowG
  go_region_held3 (fun w' => w'.cell? ⟨gx, 0, none⟩ = some (.slice A fs.length c) ∧ w'.cell? ⟨gx, 1, none⟩ = some (.slice A' bs.length c') ∧ w'.cell? ⟨gx, 2, none⟩ = some (S r))
    (first
      | go_keep
      | (exact ⟨(BB.cell (p := ⟨gx, 0, none⟩) (Nat.lt_succ_self _)).trans C0.out, (BB.cell (p := ⟨gx, 1, none⟩) (Nat.lt_succ_self _)).trans C1.out, (BB.cell (p := ⟨gx, 2, none⟩) (Nat.lt_succ_self _)).trans C2.out⟩))
    (first
      | (go_at_call_of 57 (Value.slice A fs.length c); refine (RF.out _ ?_).mono ?_; (exact (Below.refl _ _).drew); rintro e w2 ⟨rfl, hbl⟩; have B2 : Below (gx + 1) w1 w2 := ((Below.refl _ _).drew).trans (hbl.mono hlt); have BB := B2; have hlt2 : gx < w2.heap.size := Nat.lt_of_lt_of_le hlt hbl.size)
      | (go_at_call_of 57 (Value.slice A' bs.length c'); refine (RG.out _ ?_).mono ?_; (exact B2); rintro e w3 ⟨rfl, hbl⟩; have B3 : Below (gx + 1) w1 w3 := B2.trans (hbl.mono hlt2); have BB := B3; have hlt3 : gx < w3.heap.size := Nat.lt_of_lt_of_le hlt2 hbl.size)
      | (go_at_call 57; refine (rrow_four w3 [104, 105, 98, 105] (rowB fs) (rowB bs) r HS.out).mono ?_; rintro e w4 ⟨rfl, hbl⟩; have B4 : Below (gx + 1) w1 w4 := B3.trans (hbl.mono hlt3); have BB := B4))
  go_wp2
  go_ret
  refine ⟨rfl, ?_⟩
  rw [HGX.out]
  exact HB.out.trans (B4.mono (by omega))


set_option maxRecDepth 100000 in
set_option maxHeartbeats 2000000 in
theorem rimgSum_any (w : World) (A A' : Option Addr) (c c' : Nat) (fs bs : List (List UInt8)) (r : List UInt8) (hA : Strs w w.heap.size A fs) (hA' : Strs w w.heap.size A' bs) (hs : sizeOf fs + sizeOf bs + r.length ≤ 4294967296) :
    Calls Tryd.prog 41 #[.agg #[.slice A fs.length c, .slice A' bs.length c', S r]] w fun e w' => e = .returned (D32 (dig (imgB fs bs r))) ∧ Below w.heap.size w w' := by
  have HA := Lib.hid hA
  have HA' := Lib.hid hA'
  clear hA hA'
  go_enter Tryd.func41, Tryd.ntmps41
  go_wp2_with fail
  have hz := Whole.made (w.alloc (.cells #[.slice A fs.length c, .slice A' bs.length c', S r] 24)) 29 ((List.replicate 32 (0 : UInt8)).map B8).toArray
  have hb : Below w.heap.size w ((w.alloc (.cells #[.slice A fs.length c, .slice A' bs.length c', S r] 24)).alloc (.cells ((List.replicate 32 (0 : UInt8)).map B8).toArray 29)) := ((Below.refl _ _).alloc (Nat.le_refl _) _).alloc (by simp) _
  rw [show (w.alloc (.cells #[.slice A fs.length c, .slice A' bs.length c', S r] 24)).heap.size = w.heap.size + 1 by simp] at hz
  have HZ := Lib.hid hz
  have HB := Lib.hid hb
  clear hz hb
  change Calls _ _ _ ((w.alloc (.cells #[.slice A fs.length c, .slice A' bs.length c', S r] 24)).alloc (.cells ((List.replicate 32 (0 : UInt8)).map B8).toArray 29)) _
  generalize (w.alloc (.cells #[.slice A fs.length c, .slice A' bs.length c', S r] 24)).alloc (.cells ((List.replicate 32 (0 : UInt8)).map B8).toArray 29) = w1 at *
  have hl1 := HZ.out.lt
  refine (rimgBytes_any w1 A A' c c' fs bs r (lies_one HA.out HB.out HB.out.size) (lies_one HA'.out HB.out HB.out.size) hs).mono ?_
  rintro e w2 ⟨rfl, hb2⟩
  have HZ2 := Lib.hid (HZ.out.below hb2 hl1)
  have HB2 : Hid (Below w.heap.size w w2) := Lib.hid (HB.out.trans (hb2.mono HB.out.size))
  have hl2 := HZ2.out.lt
  clear hb2 HZ HB
  have hlen : (imgB fs bs r).length ≤ 68719476736 := by
    unfold imgB
    have := rowB_le _ (imgB_size fs bs r hs)
    have := imgB_size fs bs r hs
    omega
  obtain ⟨X, HX⟩ : ∃ z, Hid (imgB fs bs r = z) := ⟨_, Lib.hid rfl⟩
  rw [HX.out] at hlen
  rw [HX.out]
  go_wp2_with fail
  refine (rsum_any (w2.alloc (.cells #[S X] 9)) (some ⟨w2.heap.size, 0, none⟩) 1 [X] (lies_made w2 9 [S X] _ (by simp)) (by simp) (by simp; omega)).mono ?_
  rintro e w3 ⟨rfl, hb3⟩
  have HB3 : Hid (Below w.heap.size w w3) := Lib.hid ((HB2.out.alloc HB2.out.size _).trans (hb3.mono (by have := HB2.out.size; simp; omega)))
  have HZ3 := Lib.hid ((HZ2.out.block _).below hb3 (by simp; omega))
  clear hb3 HB2 HZ2
  have HDD : Hid (dig [X].flatten = dig X) := Lib.hid (by simp)
  have HDL : Hid ((dig X).length = 32) := Lib.hid (dig_length X)
  rw [HDD.out]
  obtain ⟨D, HDn⟩ : ∃ z, Hid (dig X = z) := ⟨_, Lib.hid rfl⟩
  rw [HDn.out] at HDL
  rw [HDn.out]
  have HDi : Hid ((Tryd.prog.info? 29).map (·.size) = some (D.map B8).toArray.size) := Lib.hid (by
    rw [List.size_toArray, List.length_map, HDL.out]; kernel_rfl)
  have HDl : Hid ((Tryd.prog.info? 29).map (·.size) = some (D.map B8).length) := Lib.hid (by
    rw [List.length_map, HDL.out]; kernel_rfl)
  have HC1 : Hid (0 + (D.map B8).length ≤ ((List.replicate 32 (0 : UInt8)).map B8).length) := Lib.hid (by rw [List.length_map, List.length_map, HDL.out]; decide)
  go_wp2_with (refine wpList_store_at rfl 29 (.tmp 2) (.tmp 6) rfl rfl (w.heap.size + 1) 0 rfl (D.map B8) rfl HDl.out ((List.replicate 32 (0 : UInt8)).map B8) 29 HZ3.out HC1.out (B8_one _) ?_; intro w6 H6 F6)
  have h6 : Whole w6 (w.heap.size + 1) 29 (D.map B8).toArray := by
    have := H6.out
    rw [List.length_map, HDL.out] at this
    simpa using this
  exact bodyPost_ret (v := .agg (D.map B8).toArray) (results_cell_row rfl _ _ (w.heap.size + 1) 29 _ (0, 0) _ rfl h6 Tryd.underlying29 rfl HDi.out) rfl ⟨by rw [HX.out, HDn.out], below_grown HB3.out F6.out HB3.out.size (by omega)⟩
end Go.Proofs.YtecamaceainfpaaDoor
