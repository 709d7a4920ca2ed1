/-
  Walks: mmu.Find, there, put, pieces; hibernacleref13.Find, There. (Printed by gen_spe.py.)
-/
import Derived.Test.YtdhfblfnejmeiaaGreatDoorSpD
import Derived.Test.YtdhfblfnejmeiaaGreatDoorSpP
import Derived.Test.YtdhfblfnejmeiaaGreatDoorRowL
namespace Go.Proofs.YtdhfblfnejmeiaaGreatDoor
open Go.RowKit
attribute [local go_sem] concat_S

set_option maxRecDepth 100000 in
set_option maxHeartbeats 1000000 in
theorem mfind_any (w : World) (sp : List Pg) (fs : List (List UInt8)) (ad n fr pl : Nat) (f : List UInt8) (h : Spot sp fs ad n fr pl f) (wr : Bool) :
    Calls Tryz.prog 160 #[.agg (pgCells sp).toArray, .int .u32 (ad : Int), .int .i64 1, .bool wr] w fun e w' => e = .returned (.tuple #[.int .i64 (fr : Int), .int .i64 (pl : Int), .bool true]) ∧ Below w.heap.size w w' := by
  have hpl : (pgCells sp).length = 48 := by rw [pgCells_length, h.len]
  have hs0 := Whole.made w 42 (pgCells sp).toArray
  have hb : Below w.heap.size w (w.alloc (.cells (pgCells sp).toArray 42)) := (Below.refl _ _).alloc (Nat.le_refl _) _
  go_enter Tryz.func160, Tryz.ntmps160
  go_upto_region 1 with (fail)
  change Code.wp _ _ _ _ (w.alloc (.cells (pgCells sp).toArray 42))
  generalize (w.alloc (.cells (pgCells sp).toArray 42)) = w1 at *
  generalize hgx : w.heap.size = gx at *
  have HGX := Lib.hid hgx
  have HS0 := Lib.hid hs0
  have HW := Lib.hid hb
  have hgl : gx < w1.heap.size := hs0.lt
  clear hgx hb hs0
  obtain ⟨k, hk⟩ : ∃ k, ad / 128 = k := ⟨_, rfl⟩
  have hp := h.page
  rw [hk] at hp
  have hk16 : k < 16 := by have := h.lt; omega
  have LD : Hid (∀ j v, (pgCells1 ⟨true, true, (fr : Int)⟩)[j]? = some v → w1.cell? ((⟨gx, k * 3, none⟩ : Addr).add j) = some v) := Lib.hid (mid_cells HS0.out (k * 3) _ fun j v hv => by
    rw [← hv]
    exact flat_at pgCells1 3 sp (fun _ _ => rfl) hp (List.getElem?_eq_some_iff.1 hv).1)
  have m0 : (ad : Int).tmod 1 = 0 := Int.tmod_one _
  have m1 : (ad : Int).tdiv 128 = (k : Int) := by rw [Int.tdiv_eq_ediv_of_nonneg (by omega)]; omega
  have m2 : (ad : Int).tmod 128 = (pl : Int) := by rw [Int.tmod_eq_emod_of_nonneg (by omega)]; have := h.plc; omega
  have d1 : decide ((2048 : Int) ≤ (ad : Int)) = false := decide_eq_false (by have := h.lt; omega)
  have i0 : (0 : Int) ≤ (k : Int) := by omega
  have i1 : (k : Int) < 16 := by omega
  have hplt : pl < 128 := by have := h.plc; omega
  have cv : IntKind.i64.wrap (pl : Int) = (pl : Int) := by rw [IntKind.wrap_i64]; omega
  have MI : Hid ((Tryz.prog.info? 40).map (·.size) = some 3) := Lib.hid Tryz.sizePg
  clear h hp hk hk16 hpl hplt
  cases wr with
  | true =>
    go_upto_region 4 with (first
      | (refine wpList_load_at rfl 40 (.tmp 31) rfl ⟨gx, k * 3, none⟩ (by simp [go_sem]) (pgCells1 ⟨true, true, (fr : Int)⟩) _ LD.out Tryz.underlying40 rfl MI.out ?_)
      | (refine wpList_fresh rfl rfl 40 11 (.tmp 32) rfl rfl rfl rfl (pgCells1 ⟨true, true, (fr : Int)⟩) rfl rfl _ Tryz.infoPg rfl (pg_one _) ?_))
    have HP := Lib.hid (Whole.made w1 40 (pgCells1 ⟨true, true, (fr : Int)⟩).toArray)
    have HV := Lib.hid ((Below.refl gx w1).alloc (by omega) (.cells (pgCells1 ⟨true, true, (fr : Int)⟩).toArray 40))
    generalize w1.alloc (.cells (pgCells1 ⟨true, true, (fr : Int)⟩).toArray 40) = w2 at *
    generalize w1.heap.size = g2 at *
    have c0 : w2.cell? ⟨g2, 0, none⟩ = some (.bool true) := HP.out.cell 0
    have c1 : w2.cell? ⟨g2, 1, none⟩ = some (.bool true) := HP.out.cell 1
    have c2 : w2.cell? ⟨g2, 2, none⟩ = some (.int .i64 (fr : Int)) := HP.out.cell 2

    go_wp2_with fail

    refine bodyPost_ret (v := .tuple #[.int .i64 (fr : Int), .int .i64 (pl : Int), .bool true]) (by simp [results, Tryz.results160, go_sem]) rfl ?_
    exact ⟨rfl, by rw [HGX.out]; exact HW.out.trans HV.out⟩
  | false =>
    go_upto_region 4 with (first
      | (refine wpList_load_at rfl 40 (.tmp 31) rfl ⟨gx, k * 3, none⟩ (by simp [go_sem]) (pgCells1 ⟨true, true, (fr : Int)⟩) _ LD.out Tryz.underlying40 rfl MI.out ?_)
      | (refine wpList_fresh rfl rfl 40 11 (.tmp 32) rfl rfl rfl rfl (pgCells1 ⟨true, true, (fr : Int)⟩) rfl rfl _ Tryz.infoPg rfl (pg_one _) ?_))
    have HP := Lib.hid (Whole.made w1 40 (pgCells1 ⟨true, true, (fr : Int)⟩).toArray)
    have HV := Lib.hid ((Below.refl gx w1).alloc (by omega) (.cells (pgCells1 ⟨true, true, (fr : Int)⟩).toArray 40))
    generalize w1.alloc (.cells (pgCells1 ⟨true, true, (fr : Int)⟩).toArray 40) = w2 at *
    generalize w1.heap.size = g2 at *
    have c0 : w2.cell? ⟨g2, 0, none⟩ = some (.bool true) := HP.out.cell 0
    have c1 : w2.cell? ⟨g2, 1, none⟩ = some (.bool true) := HP.out.cell 1
    have c2 : w2.cell? ⟨g2, 2, none⟩ = some (.int .i64 (fr : Int)) := HP.out.cell 2

    go_wp2_with fail

    refine bodyPost_ret (v := .tuple #[.int .i64 (fr : Int), .int .i64 (pl : Int), .bool true]) (by simp [results, Tryz.results160, go_sem]) rfl ?_
    exact ⟨rfl, by rw [HGX.out]; exact HW.out.trans HV.out⟩
set_option maxRecDepth 100000 in
set_option maxHeartbeats 1000000 in
theorem rfind_any (w : World) (sp : List Pg) (fs : List (List UInt8)) (ad n fr pl : Nat) (f : List UInt8) (h : Spot sp fs ad n fr pl f) (wr : Bool) :
    Calls Tryz.prog 30 #[.agg (pgCells sp).toArray, .int .u32 (ad : Int), .int .i64 1, .bool wr] w fun e w' => e = .returned (.tuple #[.int .i64 (fr : Int), .int .i64 (pl : Int), .bool true]) ∧ Below w.heap.size w w' := by
  have hpl : (pgCells sp).length = 48 := by rw [pgCells_length, h.len]
  have hs0 := Whole.made w 42 (pgCells sp).toArray
  have hb : Below w.heap.size w (w.alloc (.cells (pgCells sp).toArray 42)) := (Below.refl _ _).alloc (Nat.le_refl _) _
  go_enter Tryz.func30, Tryz.ntmps30
  go_upto_region 1 with (fail)
  change Code.wp _ _ _ _ (w.alloc (.cells (pgCells sp).toArray 42))
  generalize (w.alloc (.cells (pgCells sp).toArray 42)) = w1 at *
  generalize hgx : w.heap.size = gx at *
  have HGX := Lib.hid hgx
  have HS0 := Lib.hid hs0
  have HW := Lib.hid hb
  have hgl : gx < w1.heap.size := hs0.lt
  clear hgx hb hs0
  obtain ⟨k, hk⟩ : ∃ k, ad / 128 = k := ⟨_, rfl⟩
  have hp := h.page
  rw [hk] at hp
  have hk16 : k < 16 := by have := h.lt; omega
  have LD : Hid (∀ j v, (pgCells1 ⟨true, true, (fr : Int)⟩)[j]? = some v → w1.cell? ((⟨gx, k * 3, none⟩ : Addr).add j) = some v) := Lib.hid (mid_cells HS0.out (k * 3) _ fun j v hv => by
    rw [← hv]
    exact flat_at pgCells1 3 sp (fun _ _ => rfl) hp (List.getElem?_eq_some_iff.1 hv).1)
  have m0 : (ad : Int).tmod 1 = 0 := Int.tmod_one _
  have m1 : (ad : Int).tdiv 128 = (k : Int) := by rw [Int.tdiv_eq_ediv_of_nonneg (by omega)]; omega
  have m2 : (ad : Int).tmod 128 = (pl : Int) := by rw [Int.tmod_eq_emod_of_nonneg (by omega)]; have := h.plc; omega
  have d1 : decide ((2048 : Int) ≤ (ad : Int)) = false := decide_eq_false (by have := h.lt; omega)
  have i0 : (0 : Int) ≤ (k : Int) := by omega
  have i1 : (k : Int) < 16 := by omega
  have hplt : pl < 128 := by have := h.plc; omega
  have cv : IntKind.i64.wrap (pl : Int) = (pl : Int) := by rw [IntKind.wrap_i64]; omega
  have MI : Hid ((Tryz.prog.info? 40).map (·.size) = some 3) := Lib.hid Tryz.sizePg
  clear h hp hk hk16 hpl hplt
  cases wr with
  | true =>
    go_upto_region 4 with (first
      | (refine wpList_load_at rfl 40 (.tmp 31) rfl ⟨gx, k * 3, none⟩ (by simp [go_sem]) (pgCells1 ⟨true, true, (fr : Int)⟩) _ LD.out Tryz.underlying40 rfl MI.out ?_)
      | (refine wpList_fresh rfl rfl 40 11 (.tmp 32) rfl rfl rfl rfl (pgCells1 ⟨true, true, (fr : Int)⟩) rfl rfl _ Tryz.infoPg rfl (pg_one _) ?_))
    have HP := Lib.hid (Whole.made w1 40 (pgCells1 ⟨true, true, (fr : Int)⟩).toArray)
    have HV := Lib.hid ((Below.refl gx w1).alloc (by omega) (.cells (pgCells1 ⟨true, true, (fr : Int)⟩).toArray 40))
    generalize w1.alloc (.cells (pgCells1 ⟨true, true, (fr : Int)⟩).toArray 40) = w2 at *
    generalize w1.heap.size = g2 at *
    have c0 : w2.cell? ⟨g2, 0, none⟩ = some (.bool true) := HP.out.cell 0
    have c1 : w2.cell? ⟨g2, 1, none⟩ = some (.bool true) := HP.out.cell 1
    have c2 : w2.cell? ⟨g2, 2, none⟩ = some (.int .i64 (fr : Int)) := HP.out.cell 2

    go_wp2_with fail

    refine bodyPost_ret (v := .tuple #[.int .i64 (fr : Int), .int .i64 (pl : Int), .bool true]) (by simp [results, Tryz.results30, go_sem]) rfl ?_
    exact ⟨rfl, by rw [HGX.out]; exact HW.out.trans HV.out⟩
  | false =>
    go_upto_region 4 with (first
      | (refine wpList_load_at rfl 40 (.tmp 31) rfl ⟨gx, k * 3, none⟩ (by simp [go_sem]) (pgCells1 ⟨true, true, (fr : Int)⟩) _ LD.out Tryz.underlying40 rfl MI.out ?_)
      | (refine wpList_fresh rfl rfl 40 11 (.tmp 32) rfl rfl rfl rfl (pgCells1 ⟨true, true, (fr : Int)⟩) rfl rfl _ Tryz.infoPg rfl (pg_one _) ?_))
    have HP := Lib.hid (Whole.made w1 40 (pgCells1 ⟨true, true, (fr : Int)⟩).toArray)
    have HV := Lib.hid ((Below.refl gx w1).alloc (by omega) (.cells (pgCells1 ⟨true, true, (fr : Int)⟩).toArray 40))
    generalize w1.alloc (.cells (pgCells1 ⟨true, true, (fr : Int)⟩).toArray 40) = w2 at *
    generalize w1.heap.size = g2 at *
    have c0 : w2.cell? ⟨g2, 0, none⟩ = some (.bool true) := HP.out.cell 0
    have c1 : w2.cell? ⟨g2, 1, none⟩ = some (.bool true) := HP.out.cell 1
    have c2 : w2.cell? ⟨g2, 2, none⟩ = some (.int .i64 (fr : Int)) := HP.out.cell 2

    go_wp2_with fail

    refine bodyPost_ret (v := .tuple #[.int .i64 (fr : Int), .int .i64 (pl : Int), .bool true]) (by simp [results, Tryz.results30, go_sem]) rfl ?_
    exact ⟨rfl, by rw [HGX.out]; exact HW.out.trans HV.out⟩
set_option maxRecDepth 100000 in
set_option maxHeartbeats 1000000 in
theorem mthere_any (w : World) (A : Option Addr) (c : Nat) (sp : List Pg) (fs : List (List UInt8)) (ad n fr pl : Nat) (f : List UInt8) (h : Spot sp fs ad n fr pl f) (hA : Strs w w.heap.size A fs) :
    Calls Tryz.prog 161 #[.slice A fs.length c, .int .i64 (fr : Int)] w fun e w' => e = .returned (.bool true) ∧ w' = w := by
  obtain ⟨ga, rfl, _, hc⟩ := hA fr (S f) (by rw [List.getElem?_map, h.frm]; rfl)
  have hlt : fr < fs.length := (List.getElem?_eq_some_iff.1 h.frm).1
  have HC := hc
  have hfl := h.fl
  have hfrl := h.frl
  have i0 : (0 : Int) ≤ (fr : Int) := by omega
  have i1 : (fr : Int) < (fs.length : Int) := by omega
  clear h hA hc
  go_enter Tryz.func161, Tryz.ntmps161
  go_wp2_with fail
  go_ret
  exact ⟨rfl, rfl⟩
set_option maxRecDepth 100000 in
set_option maxHeartbeats 1000000 in
theorem rthere_any (w : World) (A : Option Addr) (c : Nat) (sp : List Pg) (fs : List (List UInt8)) (ad n fr pl : Nat) (f : List UInt8) (h : Spot sp fs ad n fr pl f) (hA : Strs w w.heap.size A fs) :
    Calls Tryz.prog 31 #[.slice A fs.length c, .int .i64 (fr : Int)] w fun e w' => e = .returned (.bool true) ∧ w' = w := by
  obtain ⟨ga, rfl, _, hc⟩ := hA fr (S f) (by rw [List.getElem?_map, h.frm]; rfl)
  have hlt : fr < fs.length := (List.getElem?_eq_some_iff.1 h.frm).1
  have HC := hc
  have hfl := h.fl
  have hfrl := h.frl
  have i0 : (0 : Int) ≤ (fr : Int) := by omega
  have i1 : (fr : Int) < (fs.length : Int) := by omega
  clear h hA hc
  go_enter Tryz.func31, Tryz.ntmps31
  go_wp2_with fail
  go_ret
  exact ⟨rfl, rfl⟩
set_option maxRecDepth 100000 in
set_option maxHeartbeats 1000000 in
theorem put_any (w : World) (f d : List UInt8) (pl : Nat) (hfl : f.length = 128) (hr : pl + d.length ≤ 128) :
    Calls Tryz.prog 113 #[S f, .int .i64 (pl : Int), S d] w fun e w' => e = .returned (S (putF f pl d)) ∧ Below w.heap.size w w' := by
  have r1 := fun W => run_to_S f .i64 (pl : Int) pl rfl (by omega) W
  have r2 := fun W => run_from_S f .i64 ((pl : Int) + (d.length : Int)) (pl + d.length) (by omega) (by omega) W
  have wp1 : IntKind.i64.wrap ((pl : Int) + (d.length : Int)) = (pl : Int) + (d.length : Int) := by rw [IntKind.wrap_i64]; omega
  obtain ⟨x, hx⟩ : ∃ x, f.take pl = x := ⟨_, rfl⟩
  obtain ⟨y, hy⟩ : ∃ y, f.drop (pl + d.length) = y := ⟨_, rfl⟩
  have hxl : x.length = pl := by rw [← hx, List.length_take]; omega
  have hyl : y.length = 128 - (pl + d.length) := by rw [← hy, List.length_drop, hfl]
  have hc1 : (9223372036854775807 < pl + d.length) = False := by rw [eq_iff_iff, iff_false]; omega
  have hc2 : (9223372036854775807 < pl + d.length + y.length) = False := by rw [eq_iff_iff, iff_false]; omega
  have hc3 : (9223372036854775807 < pl + (d.length + y.length)) = False := by rw [eq_iff_iff, iff_false]; omega
  have hP : Hid (putF f pl d = x ++ d ++ y) := Lib.hid (by unfold putF; rw [hx, hy])
  rw [hx] at r1
  rw [hy] at r2
  clear hx hy hyl hfl hr
  go_enter Tryz.func113, Tryz.ntmps113
  go_upto_region 1 with (fail)
  refine' wp_region_sure (by kernel_rfl) (fun W => Below w.heap.size w W) 13 [_, _, _, _, _, _, _, _, _, _, _, _, _] [some 7, some 8, some 9, some 10, some 11, some 12, some 13, some 14, some 15, some 16, some 17, some 18, some 6] (by kernel_rfl) (by kernel_rfl) (by kernel_rfl) (by kernel_rfl) rfl (Below.refl _ _).drew ?hs1
  case hs1 =>
    refine sure_cons ?_ ?_
    · intro L ac W K hed hJ hS hK
      have hA0 : ac.eval (.tmp 0) = S f := hJ.eval_old 0 (by kernel_rfl)
      clear hed hJ
      refine opStep_of rfl ?_
      unfold Oper.wp execOp
      have hN0 := evalN hA0
      go_simp
      exact hK _ hS
    refine sure_cons ?_ ?_
    · intro L ac W K hed hJ hS hK
      have hA1 : ac.eval (.tmp 1) = .int .i64 (pl : Int) := hJ.eval_old 1 (by kernel_rfl)
      clear hed hJ
      refine opStep_of rfl ?_
      unfold Oper.wp execOp
      have hN1 := evalN hA1
      go_simp
      exact hK _ hS
    refine sure_cons ?_ ?_
    · intro L ac W K hed hJ hS hK
      have hn := needs_spec (l := [0, 1]) (by kernel_rfl) hed
      have hA7 := hJ.eval 0 (d := 7) (hn 0 (by simp)) rfl rfl rfl
      have hA8 := hJ.eval 1 (d := 8) (hn 1 (by simp)) rfl rfl rfl
      clear hed hJ hn
      refine opStep_of rfl ?_
      unfold Oper.wp execOp
      have hN7 := evalN hA7
      have hN8 := evalN hA8
      go_simp
      exact hK _ hS
    refine sure_cons ?_ ?_
    · intro L ac W K hed hJ hS hK
      have hA2 : ac.eval (.tmp 2) = S d := hJ.eval_old 2 (by kernel_rfl)
      clear hed hJ
      refine opStep_of rfl ?_
      unfold Oper.wp execOp
      have hN2 := evalN hA2
      go_simp
      exact hK _ hS
    refine sure_cons ?_ ?_
    · intro L ac W K hed hJ hS hK
      have hn := needs_spec (l := [2, 3]) (by kernel_rfl) hed
      have hA9 := hJ.eval 2 (d := 9) (hn 2 (by simp)) rfl rfl rfl
      have hA10 := hJ.eval 3 (d := 10) (hn 3 (by simp)) rfl rfl rfl
      clear hed hJ hn
      refine opStep_of rfl ?_
      unfold Oper.wp execOp
      have hN9 := evalN hA9
      have hN10 := evalN hA10
      go_simp
      exact hK _ hS
    refine sure_cons ?_ ?_
    · intro L ac W K hed hJ hS hK
      have hA0 : ac.eval (.tmp 0) = S f := hJ.eval_old 0 (by kernel_rfl)
      clear hed hJ
      refine opStep_of rfl ?_
      unfold Oper.wp execOp
      have hN0 := evalN hA0
      go_simp
      exact hK _ hS
    refine sure_cons ?_ ?_
    · intro L ac W K hed hJ hS hK
      have hA1 : ac.eval (.tmp 1) = .int .i64 (pl : Int) := hJ.eval_old 1 (by kernel_rfl)
      clear hed hJ
      refine opStep_of rfl ?_
      unfold Oper.wp execOp
      have hN1 := evalN hA1
      go_simp
      exact hK _ hS
    refine sure_cons ?_ ?_
    · intro L ac W K hed hJ hS hK
      have hA2 : ac.eval (.tmp 2) = S d := hJ.eval_old 2 (by kernel_rfl)
      clear hed hJ
      refine opStep_of rfl ?_
      unfold Oper.wp execOp
      have hN2 := evalN hA2
      go_simp
      exact hK _ hS
    refine sure_cons ?_ ?_
    · intro L ac W K hed hJ hS hK
      have hn := needs_spec (l := [7]) (by kernel_rfl) hed
      have hA14 := hJ.eval 7 (d := 14) (hn 7 (by simp)) rfl rfl rfl
      clear hed hJ hn
      refine opStep_of rfl ?_
      unfold Oper.wp execOp
      have hN14 := evalN hA14
      go_simp
      exact hK _ hS
    refine sure_cons ?_ ?_
    · intro L ac W K hed hJ hS hK
      have hn := needs_spec (l := [6, 8]) (by kernel_rfl) hed
      have hA13 := hJ.eval 6 (d := 13) (hn 6 (by simp)) rfl rfl rfl
      have hA15 := hJ.eval 8 (d := 15) (hn 8 (by simp)) rfl rfl rfl
      clear hed hJ hn
      refine opStep_of rfl ?_
      unfold Oper.wp execOp
      have hN13 := evalN hA13
      have hN15 := evalN hA15
      go_simp
      exact hK _ hS
    refine sure_cons ?_ ?_
    · intro L ac W K hed hJ hS hK
      have hn := needs_spec (l := [5, 9]) (by kernel_rfl) hed
      have hA12 := hJ.eval 5 (d := 12) (hn 5 (by simp)) rfl rfl rfl
      have hA16 := hJ.eval 9 (d := 16) (hn 9 (by simp)) rfl rfl rfl
      clear hed hJ hn
      refine opStep_of rfl ?_
      unfold Oper.wp execOp
      have hN12 := evalN hA12
      have hN16 := evalN hA16
      go_simp
      exact hK _ hS
    refine sure_cons ?_ ?_
    · intro L ac W K hed hJ hS hK
      have hn := needs_spec (l := [4, 10]) (by kernel_rfl) hed
      have hA11 := hJ.eval 4 (d := 11) (hn 4 (by simp)) rfl rfl rfl
      have hA17 := hJ.eval 10 (d := 17) (hn 10 (by simp)) rfl rfl rfl
      clear hed hJ hn
      refine opStep_of rfl ?_
      unfold Oper.wp execOp
      have hN11 := evalN hA11
      have hN17 := evalN hA17
      go_simp
      exact hK _ hS
    refine sure_cons ?_ ?_
    · intro L ac W K hed hJ hS hK
      have hn := needs_spec (l := [11]) (by kernel_rfl) hed
      have hA18 := hJ.eval 11 (d := 18) (hn 11 (by simp)) rfl rfl rfl
      clear hed hJ hn
      refine opStep_of rfl ?_
      unfold Oper.wp execOp
      have hN18 := evalN hA18
      go_simp
      exact hK _ hS
    refine sure_nil ?_
    intro W hS
    simp only [putAll, Act.put, List.setIfInBounds_toArray, List.set_cons_zero, List.set_cons_succ]
    go_wp2_with fail
    go_ret
    exact ⟨by rw [hP.out]; simp, hS⟩
set_option maxRecDepth 100000 in
set_option maxHeartbeats 4000000 in
theorem piecesc_any (w : World) (A : Option Addr) (c : Nat) (sp : List Pg) (fs : List (List UInt8)) (ad n fr pl : Nat) (f : List UInt8) (h : Spot sp fs ad n fr pl f) (hn : 0 < n) (hA : Strs w w.heap.size A fs) (b : Bool) (c1 c2 : Value) (R : World → Prop)
    (hc : ∀ W, Below w.heap.size w W → Calls Tryz.prog 167 #[.int .i64 (fr : Int), .int .i64 (pl : Int), .int .i64 (n : Int), c1, c2] W fun e W' => e = .returned (.tuple #[]) ∧ R W') :
    Calls Tryz.prog 111 #[.slice A fs.length c, .agg (pgCells sp).toArray, .int .u32 (ad : Int), .int .i64 (n : Int), .bool b, .func (.func 167) #[] #[c1, c2]] w fun e w' => e = .returned (.bool true) ∧ R w' := by
  have hpl : (pgCells sp).length = 48 := by rw [pgCells_length, h.len]
  have hs0 := Whole.made w 42 (pgCells sp).toArray
  have hb : Below w.heap.size w (w.alloc (.cells (pgCells sp).toArray 42)) := (Below.refl _ _).alloc (Nat.le_refl _) _
  go_enter Tryz.func111, Tryz.ntmps111
  go_upto_region 1 with (fail)
  change Code.wp _ _ _ _ (w.alloc (.cells (pgCells sp).toArray 42))
  generalize (w.alloc (.cells (pgCells sp).toArray 42)) = w1 at *
  generalize hgx : w.heap.size = gx at *
  have HGX := Lib.hid hgx
  have HS0 := Lib.hid hs0
  have HW := Lib.hid hb
  have hgl : gx < w1.heap.size := hs0.lt
  clear hgx hb hs0
  have HA := Lib.hid hA
  have HH := Lib.hid h
  have HC : Hid (∀ W, Below w1.heap.size w1 W → Calls Tryz.prog 167 #[.int .i64 (fr : Int), .int .i64 (pl : Int), .int .i64 (n : Int), c1, c2] W fun e W' => e = .returned (.tuple #[]) ∧ R W') := Lib.hid fun W hW => hc W (HW.out.trans (hW.mono (by omega)))
  have hroom := h.room
  have hlt := h.lt
  have hplm := h.plc
  have d1 : decide ((n : Int) < 0) = false := decide_eq_false (by omega)
  have d2 : decide ((2048 : Int) < (n : Int)) = false := decide_eq_false (by omega)
  have cv : IntKind.u32.wrap (n : Int) = (n : Int) := by rw [IntKind.wrap_u32]; omega
  have sv : IntKind.u32.wrap (2048 - (n : Int)) = 2048 - (n : Int) := by rw [IntKind.wrap_u32]; omega
  have d3 : decide (2048 - (n : Int) < (ad : Int)) = false := decide_eq_false (by omega)
  have LSP : Hid (∀ W, Below w1.heap.size w1 W → ∀ j v, (pgCells sp)[j]? = some v → W.cell? ((⟨gx, 0, none⟩ : Addr).add j) = some v) := Lib.hid fun W hW => (HS0.out.below hW (by omega)).reads
  have MI : Hid ((Tryz.prog.info? 42).map (·.size) = some (pgCells sp).length) := Lib.hid (by rw [hpl]; exact Tryz.sizeSpace)
  clear h hA hc hpl
  go_upto_region 3 with (fail)
  clear d1 d2 sv d3
  go_loopw [2, 3] (fun q r wr => (q = .int .u32 (ad : Int) ∧ r = .int .i64 (n : Int) ∧ Hid (Below w1.heap.size w1 wr)) ∨ (r = .int .i64 0 ∧ Hid (R wr))) (fun _ r _ => (intOf r).toNat)
  case atStart => exact .inl ⟨rfl, rfl, Lib.hid (Below.refl _ _)⟩
  case round =>
    rcases hrel with ⟨rfl, rfl, HB⟩ | ⟨rfl, HR⟩
    · have CF := Lib.hid (mfind_any wr sp fs ad n fr pl f HH.out b)
      have LD := LSP.out wr HB.out
      have LD := Lib.hid LD
      have hn0 : (0 : Int) < (n : Int) := by omega
      go_wp2_with (refine wpList_load_at rfl 42 (.tmp 7) rfl ⟨gx, 0, none⟩ rfl (pgCells sp) _ LD.out Tryz.underlying42 rfl MI.out ?_)
      refine CF.out.mono ?_
      rintro e w2 ⟨rfl, hb2⟩
      have HB2 := Lib.hid (HB.out.trans (hb2.mono HB.out.size))
      have CT := Lib.hid (mthere_any w2 A c sp fs ad n fr pl f HH.out (Lies.wide (Lies.below HA.out (HW.out.trans (HB2.out.mono (by omega)))) (by have := HB2.out.size; omega)))
      clear hb2 CF LD
      go_wp2_with fail
      refine CT.out.mono ?_
      rintro e w3 ⟨rfl, rfl⟩
      have m1 : min (n : Int) (128 - (pl : Int)) = (n : Int) := by omega
      have mw : IntKind.i64.wrap (128 - (pl : Int)) = 128 - (pl : Int) := by rw [IntKind.wrap_i64]; omega
      have CC : Hid (Calls Tryz.prog 167 #[.int .i64 (fr : Int), .int .i64 (pl : Int), .int .i64 (n : Int), c1, c2] w3 fun e W' => e = .returned (.tuple #[]) ∧ R W') := Lib.hid (HC.out w3 HB2.out)
      go_wp2_with fail
      refine CC.out.mono ?_
      rintro e w4 ⟨rfl, hr⟩
      have HR4 := Lib.hid hr
      clear hr CC CT
      go_wp2_with fail
      go_roundw
      case rel =>
        exact .inr ⟨by go_num, HR4⟩
      case measure => simp [intOf]; omega
    · go_wp2_with fail
      go_ret
      exact ⟨rfl, HR.out⟩
set_option maxRecDepth 100000 in
set_option maxHeartbeats 4000000 in
theorem piecesl_any (w : World) (A : Option Addr) (c : Nat) (sp : List Pg) (fs : List (List UInt8)) (ad n fr pl : Nat) (f : List UInt8) (h : Spot sp fs ad n fr pl f) (hn : 0 < n) (hA : Strs w w.heap.size A fs) (b : Bool) (c1 c2 : Value) (R : World → Prop)
    (hc : ∀ W, Below w.heap.size w W → Calls Tryz.prog 112 #[.int .i64 (fr : Int), .int .i64 (pl : Int), .int .i64 (n : Int), c1, c2] W fun e W' => e = .returned (.tuple #[]) ∧ R W') :
    Calls Tryz.prog 111 #[.slice A fs.length c, .agg (pgCells sp).toArray, .int .u32 (ad : Int), .int .i64 (n : Int), .bool b, .func (.func 112) #[] #[c1, c2]] w fun e w' => e = .returned (.bool true) ∧ R w' := by
  have hpl : (pgCells sp).length = 48 := by rw [pgCells_length, h.len]
  have hs0 := Whole.made w 42 (pgCells sp).toArray
  have hb : Below w.heap.size w (w.alloc (.cells (pgCells sp).toArray 42)) := (Below.refl _ _).alloc (Nat.le_refl _) _
  go_enter Tryz.func111, Tryz.ntmps111
  go_upto_region 1 with (fail)
  change Code.wp _ _ _ _ (w.alloc (.cells (pgCells sp).toArray 42))
  generalize (w.alloc (.cells (pgCells sp).toArray 42)) = w1 at *
  generalize hgx : w.heap.size = gx at *
  have HGX := Lib.hid hgx
  have HS0 := Lib.hid hs0
  have HW := Lib.hid hb
  have hgl : gx < w1.heap.size := hs0.lt
  clear hgx hb hs0
  have HA := Lib.hid hA
  have HH := Lib.hid h
  have HC : Hid (∀ W, Below w1.heap.size w1 W → Calls Tryz.prog 112 #[.int .i64 (fr : Int), .int .i64 (pl : Int), .int .i64 (n : Int), c1, c2] W fun e W' => e = .returned (.tuple #[]) ∧ R W') := Lib.hid fun W hW => hc W (HW.out.trans (hW.mono (by omega)))
  have hroom := h.room
  have hlt := h.lt
  have hplm := h.plc
  have d1 : decide ((n : Int) < 0) = false := decide_eq_false (by omega)
  have d2 : decide ((2048 : Int) < (n : Int)) = false := decide_eq_false (by omega)
  have cv : IntKind.u32.wrap (n : Int) = (n : Int) := by rw [IntKind.wrap_u32]; omega
  have sv : IntKind.u32.wrap (2048 - (n : Int)) = 2048 - (n : Int) := by rw [IntKind.wrap_u32]; omega
  have d3 : decide (2048 - (n : Int) < (ad : Int)) = false := decide_eq_false (by omega)
  have LSP : Hid (∀ W, Below w1.heap.size w1 W → ∀ j v, (pgCells sp)[j]? = some v → W.cell? ((⟨gx, 0, none⟩ : Addr).add j) = some v) := Lib.hid fun W hW => (HS0.out.below hW (by omega)).reads
  have MI : Hid ((Tryz.prog.info? 42).map (·.size) = some (pgCells sp).length) := Lib.hid (by rw [hpl]; exact Tryz.sizeSpace)
  clear h hA hc hpl
  go_upto_region 3 with (fail)
  clear d1 d2 sv d3
  go_loopw [2, 3] (fun q r wr => (q = .int .u32 (ad : Int) ∧ r = .int .i64 (n : Int) ∧ Hid (Below w1.heap.size w1 wr)) ∨ (r = .int .i64 0 ∧ Hid (R wr))) (fun _ r _ => (intOf r).toNat)
  case atStart => exact .inl ⟨rfl, rfl, Lib.hid (Below.refl _ _)⟩
  case round =>
    rcases hrel with ⟨rfl, rfl, HB⟩ | ⟨rfl, HR⟩
    · have CF := Lib.hid (mfind_any wr sp fs ad n fr pl f HH.out b)
      have LD := LSP.out wr HB.out
      have LD := Lib.hid LD
      have hn0 : (0 : Int) < (n : Int) := by omega
      go_wp2_with (refine wpList_load_at rfl 42 (.tmp 7) rfl ⟨gx, 0, none⟩ rfl (pgCells sp) _ LD.out Tryz.underlying42 rfl MI.out ?_)
      refine CF.out.mono ?_
      rintro e w2 ⟨rfl, hb2⟩
      have HB2 := Lib.hid (HB.out.trans (hb2.mono HB.out.size))
      have CT := Lib.hid (mthere_any w2 A c sp fs ad n fr pl f HH.out (Lies.wide (Lies.below HA.out (HW.out.trans (HB2.out.mono (by omega)))) (by have := HB2.out.size; omega)))
      clear hb2 CF LD
      go_wp2_with fail
      refine CT.out.mono ?_
      rintro e w3 ⟨rfl, rfl⟩
      have m1 : min (n : Int) (128 - (pl : Int)) = (n : Int) := by omega
      have mw : IntKind.i64.wrap (128 - (pl : Int)) = 128 - (pl : Int) := by rw [IntKind.wrap_i64]; omega
      have CC : Hid (Calls Tryz.prog 112 #[.int .i64 (fr : Int), .int .i64 (pl : Int), .int .i64 (n : Int), c1, c2] w3 fun e W' => e = .returned (.tuple #[]) ∧ R W') := Lib.hid (HC.out w3 HB2.out)
      go_wp2_with fail
      refine CC.out.mono ?_
      rintro e w4 ⟨rfl, hr⟩
      have HR4 := Lib.hid hr
      clear hr CC CT
      go_wp2_with fail
      go_roundw
      case rel =>
        exact .inr ⟨by go_num, HR4⟩
      case measure => simp [intOf]; omega
    · go_wp2_with fail
      go_ret
      exact ⟨rfl, HR.out⟩
end Go.Proofs.YtdhfblfnejmeiaaGreatDoor
