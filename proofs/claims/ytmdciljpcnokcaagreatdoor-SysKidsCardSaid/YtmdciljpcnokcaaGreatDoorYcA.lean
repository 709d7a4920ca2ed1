/-
  Walks: the small functions of state.Check. (Printed by gen_chka.py.)
-/
import Derived.Test.YtmdciljpcnokcaaGreatDoorPlnA
import Derived.Test.YtmdciljpcnokcaaGreatDoorMcA
namespace Go.Proofs.YtmdciljpcnokcaaGreatDoor
open Go.RowKit

theorem hb2_cells {w : World} {g : Nat} {t : TypeId} {p : Pr} {r0 : Int} (h : Whole w g t (prCells p).toArray) (h0 : (prCells p)[3]? = some (.int .u32 r0)) (h1 : (prCells p)[92 + 1]? = some (.int .u32 p.code)) (h2 : (prCells p)[92 + 2]? = some (.int .i64 p.why)) (h3 : (prCells p)[92 + 3]? = some (.int .u64 p.n)) :
    w.cell? ⟨g, 2, none⟩ = some (.int .i64 p.state) ∧ w.cell? ⟨g, 3, none⟩ = some (.int .u32 r0) ∧ w.cell? ⟨g, 93, none⟩ = some (.int .u32 p.code) ∧ w.cell? ⟨g, 94, none⟩ = some (.int .i64 p.why) ∧ w.cell? ⟨g, 95, none⟩ = some (.int .u64 p.n) :=
  ⟨h.cell 2, (h.cell 3).trans (by rw [List.getElem?_toArray]; exact h0), (h.cell 93).trans (by rw [List.getElem?_toArray]; exact h1), (h.cell 94).trans (by rw [List.getElem?_toArray]; exact h2), (h.cell 95).trans (by rw [List.getElem?_toArray]; exact h3)⟩
theorem pr_size {p : Pr} (h : PrOk p) : (prCells p).toArray.size = 96 := by rw [List.size_toArray]; exact prCells_length h
def parB (p q : Pr) : Bool := q.pid == p.parent && livesB q
set_option maxRecDepth 100000 in
set_option maxHeartbeats 1000000 in
theorem plc_any (w : World) (n : Int) (q : Nb) (g : Nat) (hg : w.cell? ⟨g, 0, none⟩ = some (.int .i64 n)) (hgw : g < w.heap.size) :
    Calls Tryz.prog 269 #[.agg (nbCells1 q).toArray, .pointer (some ⟨g, 0, none⟩)] w fun e w' => e = .returned (.bool (q.1 == n)) ∧ Below w.heap.size w w' := by
  have hs0 := Whole.made w 104 (nbCells1 q).toArray
  have hb : Below w.heap.size w (w.alloc (.cells (nbCells1 q).toArray 104)) := (Below.refl _ _).alloc (Nat.le_refl _) _
  go_enter Tryz.func269, Tryz.ntmps269
  go_upto_region 1 with (fail)
  change Code.wp _ _ _ _ (w.alloc (.cells (nbCells1 q).toArray 104))
  generalize (w.alloc (.cells (nbCells1 q).toArray 104)) = w1 at *
  generalize hgx : w.heap.size = gx at *
  have HGX := Lib.hid hgx
  have HS0 := Lib.hid hs0
  have HW := Lib.hid hb
  have hgl : gx < w1.heap.size := hs0.lt
  clear hgx hb hs0
  have c0 : w1.cell? ⟨gx, 0, none⟩ = some (.int .i64 q.1) := HS0.out.cell 0
  have c1 : w1.cell? ⟨g, 0, none⟩ = some (.int .i64 n) := (HW.out.cell (p := ⟨g, 0, none⟩) hgw).trans hg
  clear hg
  go_wp2_with fail
  go_ret
  exact ⟨rfl, by rw [HGX.out]; exact HW.out⟩
set_option maxRecDepth 100000 in
set_option maxHeartbeats 1000000 in
theorem indexNb_any (w : World) (A : Option Addr) (c : Nat) (l : List Nb)  (hA : Lies w w.heap.size A (nbCells l)) (hn : l.length ≤ 9223372036854775807) (n : Int) (g : Nat) (hg : w.cell? ⟨g, 0, none⟩ = some (.int .i64 n)) (hgw : g < w.heap.size) :
    Calls Tryz.prog 218 #[.slice A l.length c, .func (.func 269) #[] #[.pointer (some ⟨g, 0, none⟩)]] w fun e w' => (∃ z : Int, e = .returned (.int .i64 z) ∧ decide (0 ≤ z) = l.any (fun q => q.1 == n)) ∧ Below w.heap.size w w' := by
  have HA := Lib.hid hA
  clear hA
  have HG := Lib.hid hg
  clear hg
  go_enter Tryz.func218, Tryz.ntmps218
  go_wp2_with fail
  go_loopw [8] (fun i wr => ∃ k : Nat, k ≤ l.length ∧ i = .int .i64 k ∧ Hid ((l.take k).any (fun q => q.1 == n) = false) ∧ Hid (Below w.heap.size w wr)) (fun i _ => l.length - (intOf i).toNat)
  case atStart => exact ⟨0, by omega, rfl, Lib.hid rfl, Lib.hid (Below.refl _ _)⟩
  case round =>
    obtain ⟨k, hk, rfl, HN, HW⟩ := hrel
    by_cases hlt : k < l.length
    · obtain ⟨x, hx⟩ := get_some hlt
      have HY := Lib.hid (@any_yes _ (fun q => q.1 == n) l k x hx)
      have HNO := Lib.hid (@any_no _ (fun q => q.1 == n) l k x hx HN.out)
      obtain ⟨ad, rfl, had, hc⟩ := Lies.row (f := nbCells1) (n := 2) HA.out (fun y hy => rfl) (by omega) hx
      have LD : Hid (∀ j v, (nbCells1 x)[j]? = some v → wr.cell? ((ad.add (k * 2)).add j) = some v) := Lib.hid fun j v h => (HW.out.cell (by rw [add_block, add_block]; exact had)).trans (hc j v h)
      have CP := Lib.hid (plc_any wr n x g ((HW.out.cell (p := ⟨g, 0, none⟩) hgw).trans HG.out) (by have := HW.out.size; omega))
      clear hc
      clear hx
      have i0 : (0 : Int) ≤ (k : Int) := by omega
      have i1 : (k : Int) < (l.length : Int) := by omega
      go_wp2_with (refine wpList_load_at rfl 104 (.tmp 14) rfl (ad.add (k * 2)) rfl (nbCells1 x) _ LD.out Tryz.underlying104 rfl (by kernel_rfl) ?_)
      refine CP.out.mono ?_
      clear LD CP
      rintro e w1 ⟨rfl, hb1⟩
      have HW1 := Lib.hid (HW.out.trans (hb1.mono HW.out.size))
      clear hb1
      cases hv : (fun q => q.1 == n) x with
      | true =>
        have HQ := Lib.hid (HY.out hv)
        have hv' : (x.1 == n) = true := hv
        clear hv HY HNO
        go_wp2_with fail
        go_ret
        exact ⟨⟨k, rfl, by rw [HQ.out]; simp⟩, HW1.out⟩
      | false =>
        have HQ := Lib.hid (HNO.out hv)
        have hv' : (x.1 == n) = false := hv
        clear hv HY HNO
        go_wp2_with fail
        go_roundw
        case rel =>
          have R : ∃ k' : Nat, k' ≤ l.length ∧ Value.int .i64 ((k : Int) + 1) = .int .i64 k' ∧ Hid ((l.take k').any (fun q => q.1 == n) = false) ∧ Hid (Below w.heap.size w w1) := ⟨k + 1, by omega, by go_num, HQ, HW1⟩
          first | exact R | ((repeat apply Exists.intro); exact ⟨R, rfl⟩)
        case measure => simp [intOf]; omega
    · obtain rfl : k = l.length := by omega
      have hd : decide (l.length < l.length) = false := by simp
      rw [List.take_of_length_le (Nat.le_refl _)] at HN
      go_wp2_with fail
      go_ret
      exact ⟨⟨-1, rfl, by rw [HN.out]; rfl⟩, HW.out⟩
set_option maxRecDepth 100000 in
set_option maxHeartbeats 1000000 in
theorem place_any (w : World) (a : MA) (m : Mc) (hm : McOk m) (hA : MAt w w.heap.size a m) (n : Int) :
    Calls Tryz.prog 226 #[.agg (mcL a m).toArray, .int .i64 n] w fun e w' => (∃ z : Int, e = .returned (.int .i64 z) ∧ decide (0 ≤ z) = hasPipe m n) ∧ Below w.heap.size w w' := by
  have hs0 := (Whole.made w 31 (mcL a m).toArray).block (.cells #[.int .i64 n] 3)
  have hs1 := Whole.made (w.alloc (.cells (mcL a m).toArray 31)) 3 #[.int .i64 n]
  rw [show (w.alloc (.cells (mcL a m).toArray 31)).heap.size = w.heap.size + 1 by simp] at hs1
  have hb : Below w.heap.size w ((w.alloc (.cells (mcL a m).toArray 31)).alloc (.cells #[.int .i64 n] 3)) := ((Below.refl _ _).alloc (by first | exact Nat.le_refl _ | simp | (simp; omega)) _).alloc (by first | exact Nat.le_refl _ | simp | (simp; omega)) _
  go_enter Tryz.func226, Tryz.ntmps226
  go_upto_region 1 with (fail)
  change Code.wp _ _ _ _ ((w.alloc (.cells (mcL a m).toArray 31)).alloc (.cells #[.int .i64 n] 3))
  generalize ((w.alloc (.cells (mcL a m).toArray 31)).alloc (.cells #[.int .i64 n] 3)) = w1 at *
  generalize hgx : w.heap.size = gx at *
  have HGX := Lib.hid hgx
  have HS0 := Lib.hid hs0
  have HS1 := Lib.hid hs1
  have HW := Lib.hid hb
  have hgl : gx + 1 < w1.heap.size := hs1.lt
  clear hgx hb hs0 hs1
  have HA := Lib.hid (hA.below HW.out)
  have HM := Lib.hid hm
  have c1 : w1.cell? ⟨gx + 1, 0, none⟩ = some (.int .i64 n) := HS1.out.cell 0
  have m8 : w1.cell? ⟨gx, 8, none⟩ = some (.slice a.Q m.pipes.length a.cQ) := HS0.out.cell 8
  have CC := Lib.hid (indexNb_any w1 a.Q a.cQ m.pipes (HA.out.Q.wide (by omega)) HM.out.sizes.2.2.1 n (gx + 1) c1 (by omega))
  clear hA hm c1
  go_wp2_with fail
  refine CC.out.mono ?_
  rintro e w3 ⟨⟨z, rfl, hz⟩, hb3⟩
  have HZ := Lib.hid hz
  have HW3 := Lib.hid (HW.out.trans (hb3.mono (by omega)))
  clear hb3 hz
  go_wp2_with fail
  go_ret
  exact ⟨⟨z, rfl, by rw [HZ.out]; rfl⟩, by rw [HGX.out]; exact HW3.out⟩
end Go.Proofs.YtmdciljpcnokcaaGreatDoor
