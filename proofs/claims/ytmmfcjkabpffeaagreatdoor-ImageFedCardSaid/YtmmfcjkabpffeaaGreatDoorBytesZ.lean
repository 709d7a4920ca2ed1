/-
  Walks: image.Bytes, image.Sum.
-/
import Derived.Test.YtmmfcjkabpffeaaGreatDoorRowS
import Derived.Test.YtmmfcjkabpffeaaGreatDoorMcA
import Derived.Deep.RegionHeld3
namespace Go.Proofs.YtmmfcjkabpffeaaGreatDoor
open Go.RowKit

theorem row_four (w : World) (a b c d : List UInt8) (hs : sizeOf [a, b, c, d] ≤ 34359738368) :
    Calls Tryz.prog 28 #[.slice (some ⟨w.heap.size, 0, none⟩) 4 4] (w.alloc (.cells #[S a, S b, S c, S d] 9)) fun e w' => e = .returned (S (rowB [a, b, c, d])) ∧ Below w.heap.size w w' :=
  (row_any (w.alloc (.cells #[S a, S b, S c, S d] 9)) (some ⟨w.heap.size, 0, none⟩) 4 [a, b, c, d] (lies_made w 9 [S a, S b, S c, S d] _ (by simp)) hs).mono fun _ _ h => ⟨h.1, ((Below.refl _ _).alloc (Nat.le_refl _) _).trans (h.2.mono (by simp))⟩
/-- an image as bytes -/
def imgB (fs bs : List (List UInt8)) (r : List UInt8) : List UInt8 := rowB [[104, 105, 98, 105], rowB fs, rowB bs, r]
theorem imgB_size (fs bs : List (List UInt8)) (r : List UInt8) (h : sizeOf fs + sizeOf bs + r.length ≤ 4294967296) : sizeOf [[104, 105, 98, 105], rowB fs, rowB bs, r] ≤ 34359738368 := by
  have h1 := rowB_le fs (by omega)
  have h2 := rowB_le bs (by omega)
  simp only [sizeOf, List.map_cons, List.map_nil, List.sum_cons, List.sum_nil, List.length_cons, List.length_nil]
  unfold sizeOf at h1 h2 h
  omega

set_option maxRecDepth 100000 in
set_option maxHeartbeats 2000000 in
theorem imgBytes_any (w : World) (A A' : Option Addr) (c c' : Nat) (fs bs : List (List UInt8)) (r : List UInt8) (hA : Strs w w.heap.size A fs) (hA' : Strs w w.heap.size A' bs) (hs : sizeOf fs + sizeOf bs + r.length ≤ 4294967296) :
    Calls Tryz.prog 13 #[.agg #[.slice A fs.length c, .slice A' bs.length c', S r]] w fun e w' => e = .returned (S (imgB fs bs r)) ∧ Below w.heap.size w w' := by
  have HA := Lib.hid hA
  have HA' := Lib.hid hA'
  clear hA hA'
  have HS := Lib.hid (imgB_size fs bs r hs)
  go_enter Tryz.func13, Tryz.ntmps13
  go_wp2_with fail
  have hx := Whole.made w 36 #[.slice A fs.length c, .slice A' bs.length c', S r]
  have hb := (Below.refl w.heap.size w).alloc (Nat.le_refl _) (.cells #[.slice A fs.length c, .slice A' bs.length c', S r] 36)
  have hz : (w.alloc (.cells #[.slice A fs.length c, .slice A' bs.length c', S r] 36)).heap.size = w.heap.size + 1 := by simp
  have c0 := hx.cell 0
  have c1 := hx.cell 1
  have c2 := hx.cell 2
  simp only [List.getElem?_toArray, List.getElem?_cons_zero, List.getElem?_cons_succ] at c0 c1 c2
  have HB := Lib.hid hb
  have HZ := Lib.hid hz
  have C0 := Lib.hid c0
  have C1 := Lib.hid c1
  have C2 := Lib.hid c2
  clear hx hb hz
  generalize w.alloc (.cells #[.slice A fs.length c, .slice A' bs.length c', S r] 36) = w1 at *
  have hlt : w.heap.size < w1.heap.size := by have := HZ.out; omega
  generalize hgx : w.heap.size = gx at *
  have HGX := Lib.hid hgx
  clear hgx
  have rowF : ∀ W : World, Below (gx + 1) w1 W → Calls Tryz.prog 28 #[.slice A fs.length c] W fun e w' => e = .returned (S (rowB fs)) ∧ Below W.heap.size W w' := fun W hW =>
    row_any W A c fs (((HA.out.below HB.out).below (hW.mono (by omega))).wide (by have := hW.size; omega)) (by omega)
  have rowG : ∀ W : World, Below (gx + 1) w1 W → Calls Tryz.prog 28 #[.slice A' bs.length c'] W fun e w' => e = .returned (S (rowB bs)) ∧ Below W.heap.size W w' := fun W hW =>
    row_any W A' c' bs (((HA'.out.below HB.out).below (hW.mono (by omega))).wide (by have := hW.size; omega)) (by omega)
  have RF := Lib.hid rowF
  have RG := Lib.hid rowG
  clear rowF rowG
  go_region_held3 (fun w' => w'.cell? ⟨gx, 0, none⟩ = some (.slice A fs.length c) ∧ w'.cell? ⟨gx, 1, none⟩ = some (.slice A' bs.length c') ∧ w'.cell? ⟨gx, 2, none⟩ = some (S r))
    (first
      | go_keep
      | (exact ⟨(BB.cell (p := ⟨gx, 0, none⟩) (Nat.lt_succ_self _)).trans C0.out, (BB.cell (p := ⟨gx, 1, none⟩) (Nat.lt_succ_self _)).trans C1.out, (BB.cell (p := ⟨gx, 2, none⟩) (Nat.lt_succ_self _)).trans C2.out⟩))
    (first
      | (go_at_call_of 28 (Value.slice A fs.length c); refine (RF.out _ ?_).mono ?_; (exact (Below.refl _ _).drew); rintro e w2 ⟨rfl, hbl⟩; have B2 : Below (gx + 1) w1 w2 := ((Below.refl _ _).drew).trans (hbl.mono hlt); have BB := B2; have hlt2 : gx < w2.heap.size := Nat.lt_of_lt_of_le hlt hbl.size)
      | (go_at_call_of 28 (Value.slice A' bs.length c'); refine (RG.out _ ?_).mono ?_; (exact B2); rintro e w3 ⟨rfl, hbl⟩; have B3 : Below (gx + 1) w1 w3 := B2.trans (hbl.mono hlt2); have BB := B3; have hlt3 : gx < w3.heap.size := Nat.lt_of_lt_of_le hlt2 hbl.size)
      | (go_at_call 28; refine (row_four w3 [104, 105, 98, 105] (rowB fs) (rowB bs) r HS.out).mono ?_; rintro e w4 ⟨rfl, hbl⟩; have B4 : Below (gx + 1) w1 w4 := B3.trans (hbl.mono hlt3); have BB := B4))
  go_wp2
  go_ret
  refine ⟨rfl, ?_⟩
  rw [HGX.out]
  exact HB.out.trans (B4.mono (by omega))

end Go.Proofs.YtmmfcjkabpffeaaGreatDoor
