/-
  Walks: the document's memory: Byte, Set, Copy, Lay. (Printed by gen_spt.py.)
-/
import Derived.Test.YtdhfblfnejmeiaaGreatDoorSpS
namespace Go.Proofs.YtdhfblfnejmeiaaGreatDoor
open Go.RowKit

theorem putF_nil (f : List UInt8) (pl : Nat) : putF f pl [] = f := by simp [putF]
theorem putF_snoc {f d : List UInt8} {pl : Nat} (b : UInt8) (h : pl + d.length < f.length) : putF (putF f pl d) (pl + d.length) [b] = putF f pl (d ++ [b]) := by
  have e : (f.take pl ++ d).length = pl + d.length := by rw [List.length_append, List.length_take]; omega
  unfold putF
  rw [← e, List.take_left, List.length_cons, List.length_nil, ← List.drop_drop, List.drop_left, List.drop_drop, e, List.length_append, List.append_assoc (f.take pl) d [b]]
  rfl
theorem Spot.at {sp : List Pg} {fs : List (List UInt8)} {ad n fr pl : Nat} {f : List UInt8} (h : Spot sp fs ad n fr pl f) {j : Nat} (hj : j < n) : Spot sp fs (ad + j) 1 fr (pl + j) f := by
  have h1 := h.room
  have h2 := h.plc
  have h3 := h.lt
  exact ⟨by omega, h.len, by rw [show (ad + j) / 128 = ad / 128 by omega]; exact h.page, by omega, by omega, h.frm, h.fl, h.frl⟩
theorem getD_mem (f : List UInt8) {j : Nat} (h : j < f.length) : f[j]? = some (f.getD j 0) := by
  rw [List.getD_eq_getElem?_getD, List.getElem?_eq_getElem h]; rfl
set_option maxRecDepth 100000 in
set_option maxHeartbeats 4000000 in
theorem rbyte_any (w : World) (A : Option Addr) (c : Nat) (sp : List Pg) (fs : List (List UInt8)) (ad fr pl : Nat) (f : List UInt8) (h : Spot sp fs ad 1 fr pl f) (hA : Strs w w.heap.size A fs) :
    Calls Tryz.prog 16 #[.slice A fs.length c, .agg (pgCells sp).toArray, .int .u32 (ad : Int)] w fun e w' => e = .returned (.tuple #[B8 (f.getD pl 0), .bool true]) ∧ Below w.heap.size w w' := by
  have hs0 := Whole.made w 42 (pgCells sp).toArray
  have hb : Below w.heap.size w (w.alloc (.cells (pgCells sp).toArray 42)) := (Below.refl _ _).alloc (Nat.le_refl _) _
  go_enter Tryz.func16, Tryz.ntmps16
  go_upto_region 1 with (fail)
  change Code.wp _ _ _ _ (w.alloc (.cells (pgCells sp).toArray 42))
  generalize (w.alloc (.cells (pgCells sp).toArray 42)) = w1 at *
  generalize hgx : w.heap.size = gx at *
  have HGX := Lib.hid hgx
  have HS0 := Lib.hid hs0
  have HW := Lib.hid hb
  have hgl : gx < w1.heap.size := hs0.lt
  clear hgx hb hs0
  have LD := Lib.hid HS0.out.reads
  have MI : Hid ((Tryz.prog.info? 42).map (·.size) = some (pgCells sp).length) := Lib.hid (by rw [pgCells_length, h.len]; exact Tryz.sizeSpace)
  have HS := Lib.hid h
  have HA : Hid (∀ W, Below w1.heap.size w1 W → Strs W W.heap.size A fs) := Lib.hid fun W hS => (Lies.below (Lies.below hA HW.out) (hS.mono (by omega))).wide (by have := hS.size; omega)
  have CF := Lib.hid (rfind_any w1 sp fs ad 1 fr pl f h false)
  clear h hA
  go_wp2_with (refine wpList_load_at rfl 42 (.tmp 4) rfl ⟨gx, 0, none⟩ rfl (pgCells sp) _ LD.out Tryz.underlying42 rfl MI.out ?_)
  refine CF.out.mono ?_
  rintro e w2 ⟨rfl, hb⟩
  have HB2 := Lib.hid hb
  have HV2 := Lib.hid (HW.out.trans (hb.mono (by omega)))
  have CT := Lib.hid (rthere_any w2 A c sp fs ad 1 fr pl f HS.out (HA.out w2 hb))
  clear hb CF LD
  go_wp2_with fail
  refine CT.out.mono ?_
  rintro e w3 ⟨rfl, rfl⟩
  clear CT
  obtain ⟨ga, hga, _, hc⟩ := HA.out w3 HB2.out fr (S f) (by rw [List.getElem?_map, HS.out.frm]; rfl)
  subst hga
  have hlt : fr < fs.length := (List.getElem?_eq_some_iff.1 HS.out.frm).1
  have hfrl := HS.out.frl
  have hfl := HS.out.fl
  have hrm := HS.out.room
  have i0 : (0 : Int) ≤ (fr : Int) := by omega
  have i1 : (fr : Int) < (fs.length : Int) := by omega
  have r1 := fun W => run_index_S f .i64 (pl : Int) pl rfl (by omega) W
  clear hrm hfl hfrl
  go_wp2_with fail
  refine bodyPost_ret (v := .tuple #[B8 (f.getD pl 0), .bool true]) (by simp [results, Tryz.results16, go_sem]) rfl ?_
  exact ⟨rfl, by rw [HGX.out]; exact HV2.out⟩
set_option maxRecDepth 100000 in
set_option maxHeartbeats 4000000 in
theorem rset_any (w : World) (A : Option Addr) (c : Nat) (sp : List Pg) (fs : List (List UInt8)) (ad fr pl : Nat) (f : List UInt8) (h : Spot sp fs ad 1 fr pl f) (hA : Strs w w.heap.size A fs) (x : UInt8) :
    Calls Tryz.prog 14 #[.slice A fs.length c, .agg (pgCells sp).toArray, .int .u32 (ad : Int), B8 x] w fun e w' => (∃ g c z, e = .returned (.tuple #[.slice (some ⟨g, 0, none⟩) fs.length c, .bool true]) ∧ w.heap.size ≤ g ∧ fs.length ≤ c ∧ Whole w' g 9 ((fs.set fr (putF f pl [x])).map S ++ z).toArray) ∧ Below w.heap.size w w' := by
  obtain ⟨i0s, hi0, hz0, hz1, hz2⟩ := info_parts Tryz.infoStr'
  have hs0 := Whole.made w 42 (pgCells sp).toArray
  have hb : Below w.heap.size w (w.alloc (.cells (pgCells sp).toArray 42)) := (Below.refl _ _).alloc (Nat.le_refl _) _
  go_enter Tryz.func14, Tryz.ntmps14
  go_upto_region 1 with (fail)
  change Code.wp _ _ _ _ (w.alloc (.cells (pgCells sp).toArray 42))
  generalize (w.alloc (.cells (pgCells sp).toArray 42)) = w1 at *
  generalize hgx : w.heap.size = gx at *
  have HGX := Lib.hid hgx
  have HS0 := Lib.hid hs0
  have HW := Lib.hid hb
  have hgl : gx < w1.heap.size := hs0.lt
  clear hgx hb hs0
  have LD := Lib.hid HS0.out.reads
  have MI : Hid ((Tryz.prog.info? 42).map (·.size) = some (pgCells sp).length) := Lib.hid (by rw [pgCells_length, h.len]; exact Tryz.sizeSpace)
  have HS := Lib.hid h
  have HA : Hid (∀ W, Below w1.heap.size w1 W → Strs W W.heap.size A fs) := Lib.hid fun W hS => (Lies.below (Lies.below hA HW.out) (hS.mono (by omega))).wide (by have := hS.size; omega)
  have CF := Lib.hid (rfind_any w1 sp fs ad 1 fr pl f h true)
  clear h hA
  go_wp2_with (refine wpList_load_at rfl 42 (.tmp 5) rfl ⟨gx, 0, none⟩ rfl (pgCells sp) _ LD.out Tryz.underlying42 rfl MI.out ?_)
  refine CF.out.mono ?_
  rintro e w2 ⟨rfl, hb⟩
  have HB2 := Lib.hid hb
  have HV2 := Lib.hid (HW.out.trans (hb.mono (by omega)))
  have CT := Lib.hid (rthere_any w2 A c sp fs ad 1 fr pl f HS.out (HA.out w2 hb))
  clear hb CF LD
  go_wp2_with fail
  refine CT.out.mono ?_
  rintro e w3 ⟨rfl, rfl⟩
  clear CT
  obtain ⟨ga, hga, _, hc⟩ := HA.out w3 HB2.out fr (S f) (by rw [List.getElem?_map, HS.out.frm]; rfl)
  subst hga
  have hlt : fr < fs.length := (List.getElem?_eq_some_iff.1 HS.out.frm).1
  have hfrl := HS.out.frl
  have hfl := HS.out.fl
  have hrm := HS.out.room
  have i0 : (0 : Int) ≤ (fr : Int) := by omega
  have i1 : (fr : Int) < (fs.length : Int) := by omega
  clear hc
  have HO : Hid (OwnS (w3.alloc (.cells #[] 9)) w3.heap.size (.slice (some ⟨w3.heap.size, 0, none⟩) 0 0) []) := Lib.hid (World.ownsRow_lit w3 #[] 0 (Nat.le_refl _) (by unfold maxLen; omega) rfl)
  have HAA : Hid (Strs (w3.alloc (.cells #[] 9)) (w3.alloc (.cells #[] 9)).heap.size (some ga) fs) := Lib.hid (HA.out _ (HB2.out.alloc (HB2.out.size) _))
  have hone := S_one fs
  have hlen : (fs.map S).length = fs.length * 1 := by simp
  have H63 : Hid (0 + fs.length ≤ maxLen) := Lib.hid (by unfold maxLen; omega)
  have HBY : Hid ((0 + fs.length) * i0s.bytes ≤ 140737488355328) := Lib.hid (by rw [hz2]; omega)
  have HVA := Lib.hid (HV2.out.alloc (by have := HB2.out.size; omega) (.cells #[] 9))
  go_upto_region 5 with (at_builtin; refine wpList_append_src rfl (.tmp 29) (.tmp 30) 22 rfl w3.heap.size 9 i0s _ 1 _ Tryz.underlying22 hi0 hz0 hz1 rfl (by kernel_rfl) (by decide) _ _ _ rfl HO.out (w3.alloc (.cells #[] 9)).heap.size (some ga) fs.length c (fs.map S) rfl hlen HAA.out hone H63.out HBY.out (by simp) ?_; intro v' w4 hown' hgrow; have hown2 : OwnS w4 w3.heap.size v' fs := (by simpa using hown'); obtain ⟨gL, cL, zz, rfl, hgL, hWL, hcL⟩ := own_strs (ls := fs) hown2 (by intro e; rw [e] at hlt; simp at hlt))
  have HWL := Lib.hid hWL
  have HV4 := Lib.hid (HVA.out.grown hgrow (by simp; have := HB2.out.size; omega) (fun q e => by have := (HO.out.lt q e).1; have := HB2.out.size; omega))
  have hs3 : gx < w3.heap.size := by have := HB2.out.size; omega
  clear hown' hown2 hgrow HO HAA hone hlen H63 HBY HVA HA HB2 HV2 hi0 hz0 hz1 hz2 hgl
  have CL : Hid (∀ W, Below w4.heap.size w4 W → W.cell? ⟨gL, fr, none⟩ = some (S f)) := Lib.hid fun W hS => by
    rw [(HWL.out.below hS HWL.out.lt).cell, List.getElem?_toArray, List.getElem?_append_left (by simpa using hlt), List.getElem?_map, HS.out.frm]; rfl
  have r1 := fun W => run_to_S f .i64 (pl : Int) pl rfl (by omega) W
  have r2 := fun W => run_from_S f .i64 ((pl : Int) + 1) (pl + 1) (by omega) (by omega) W
  have wp1 : IntKind.i64.wrap ((pl : Int) + 1) = (pl : Int) + 1 := by rw [IntKind.wrap_i64]; omega
  have lx : ((f.take pl).length = pl) := by rw [List.length_take]; omega
  have ly : (f.drop (pl + 1)).length ≤ 128 := by rw [List.length_drop]; omega
  have hn1 : ¬ (9223372036854775807 < (f.take pl).length + [x].length) := by rw [lx]; simp; omega
  have hn2 : ¬ (9223372036854775807 < (f.take pl ++ [x]).length + (f.drop (pl + 1)).length) := by rw [List.length_append, lx]; simp only [List.length_cons, List.length_nil]; omega
  have hn3 : ¬ (9223372036854775807 < pl + 1) := by omega
  have hn4 : ¬ (9223372036854775807 < pl + 1 + (f.drop (pl + 1)).length) := by omega
  have HPF : Hid (putF f pl [x] = (f.take pl ++ [x]) ++ f.drop (pl + 1)) := Lib.hid rfl
  generalize f.take pl = fa at *
  generalize f.drop (pl + 1) = fb at *
  refine' wp_region_sureX (by kernel_rfl) (FreshX w4 9 41 1 5 [B8 x]) 21 [some _, some _, some _, some _, some _, some _, some _, some _, some _, none, some _, some _, some _, some _, some _, some _, some _, some _, some _, some _, some _] [some 32, some 33, some 34, some 35, some 36, some 37, some 38, some 39, some 40, some 41, some 42, some 43, some 44, some 45, some 46, some 47, some 48, some 49, some 50, some 51, some 52] (by kernel_rfl) (by kernel_rfl) (by kernel_rfl) (by kernel_rfl) rfl ⟨(Below.refl _ _).drew, fun h => by cases h⟩ ?hs1
  case hs1 =>
    refine sureX_cons ?_ ?_
    · intro L ac W K hLi hed hJ hX hK
      have hS := hX.1
      have hA13 : ac.eval (.tmp 13) = .slice (some ⟨gL, 0, none⟩) fs.length cL := hJ.eval_old 13 (by kernel_rfl)
      have hsz := Lib.hid hJ.size
      clear hLi hed hJ
      refine opStep_of rfl ?_
      unfold Oper.wp execOp
      have hN13 := evalN hA13
      go_simp
      refine hK _ _ ?_ (hX.step (Below.refl _ _) rfl rfl)
      exact Knows.known _
    refine sureX_cons ?_ ?_
    · intro L ac W K hLi hed hJ hX hK
      have hS := hX.1
      have hA10 : ac.eval (.tmp 10) = .int .i64 (fr : Int) := hJ.eval_old 10 (by kernel_rfl)
      have hsz := Lib.hid hJ.size
      clear hLi hed hJ
      refine opStep_of rfl ?_
      unfold Oper.wp execOp
      have hN10 := evalN hA10
      go_simp
      refine hK _ _ ?_ (hX.step (Below.refl _ _) rfl rfl)
      exact Knows.known _
    refine sureX_cons ?_ ?_
    · intro L ac W K hLi hed hJ hX hK
      have hS := hX.1
      have hA13 : ac.eval (.tmp 13) = .slice (some ⟨gL, 0, none⟩) fs.length cL := hJ.eval_old 13 (by kernel_rfl)
      have hsz := Lib.hid hJ.size
      clear hLi hed hJ
      refine opStep_of rfl ?_
      unfold Oper.wp execOp
      have hN13 := evalN hA13
      go_simp
      refine hK _ _ ?_ (hX.step (Below.refl _ _) rfl rfl)
      exact Knows.known _
    refine sureX_cons ?_ ?_
    · intro L ac W K hLi hed hJ hX hK
      have hS := hX.1
      have hA10 : ac.eval (.tmp 10) = .int .i64 (fr : Int) := hJ.eval_old 10 (by kernel_rfl)
      have hsz := Lib.hid hJ.size
      clear hLi hed hJ
      refine opStep_of rfl ?_
      unfold Oper.wp execOp
      have hN10 := evalN hA10
      go_simp
      refine hK _ _ ?_ (hX.step (Below.refl _ _) rfl rfl)
      exact Knows.known _
    refine sureX_cons ?_ ?_
    · intro L ac W K hLi hed hJ hX hK
      have hS := hX.1
      have hn := needs_spec (l := [2, 3]) (by kernel_rfl) hed
      have hA34 := hJ.eval 2 (d := 34) (hn 2 (by simp)) rfl rfl rfl
      have hA35 := hJ.eval 3 (d := 35) (hn 3 (by simp)) rfl rfl rfl
      have hsz := Lib.hid hJ.size
      clear hLi hed hJ hn
      refine opStep_of rfl ?_
      unfold Oper.wp execOp
      have hN34 := evalN hA34
      have hN35 := evalN hA35
      go_simp
      refine hK _ _ ?_ (hX.step (Below.refl _ _) rfl rfl)
      exact Knows.known _
    refine sureX_cons ?_ ?_
    · intro L ac W K hLi hed hJ hX hK
      have hS := hX.1
      have hn := needs_spec (l := [4]) (by kernel_rfl) hed
      have hA36 := hJ.eval 4 (d := 36) (hn 4 (by simp)) rfl rfl rfl
      have hsz := Lib.hid hJ.size
      clear hLi hed hJ hn
      refine opStep_of rfl ?_
      have cc := CL.out W hS
      unfold Oper.wp execOp
      have hN36 := evalN hA36
      go_simp
      refine hK _ _ ?_ (hX.step (Below.refl _ _) rfl rfl)
      exact Knows.known _
    refine sureX_cons ?_ ?_
    · intro L ac W K hLi hed hJ hX hK
      have hS := hX.1
      have hA11 : ac.eval (.tmp 11) = .int .i64 (pl : Int) := hJ.eval_old 11 (by kernel_rfl)
      have hsz := Lib.hid hJ.size
      clear hLi hed hJ
      refine opStep_of rfl ?_
      unfold Oper.wp execOp
      have hN11 := evalN hA11
      go_simp
      refine hK _ _ ?_ (hX.step (Below.refl _ _) rfl rfl)
      exact Knows.known _
    refine sureX_cons ?_ ?_
    · intro L ac W K hLi hed hJ hX hK
      have hS := hX.1
      have hn := needs_spec (l := [5, 6]) (by kernel_rfl) hed
      have hA37 := hJ.eval 5 (d := 37) (hn 5 (by simp)) rfl rfl rfl
      have hA38 := hJ.eval 6 (d := 38) (hn 6 (by simp)) rfl rfl rfl
      have hsz := Lib.hid hJ.size
      clear hLi hed hJ hn
      refine opStep_of rfl ?_
      unfold Oper.wp execOp
      have hN37 := evalN hA37
      have hN38 := evalN hA38
      go_simp
      refine hK _ _ ?_ (hX.step (Below.refl _ _) rfl rfl)
      exact Knows.known _
    refine sureX_cons ?_ ?_
    · intro L ac W K hLi hed hJ hX hK
      have hS := hX.1
      have hA3 : ac.eval (.tmp 3) = B8 x := hJ.eval_old 3 (by kernel_rfl)
      have hsz := Lib.hid hJ.size
      clear hLi hed hJ
      refine opStep_of rfl ?_
      unfold Oper.wp execOp
      have hN3 := evalN hA3
      go_simp
      refine hK _ _ ?_ (hX.step (Below.refl _ _) rfl rfl)
      exact Knows.known _
    refine sureX_cons ?_ ?_
    · intro L ac W K hLi hed hJ hX hK
      have hS := hX.1
      have hn := needs_spec (l := [8]) (by kernel_rfl) hed
      have hA40 := hJ.eval 8 (d := 40) (hn 8 (by simp)) rfl rfl rfl
      have hsz := Lib.hid hJ.size
      clear hLi hed hJ hn
      refine opStep_of rfl ?_
      unfold Oper.wp execOp
      have hN40 := evalN hA40
      go_simp
      refine hK _ _ ?_ (hX.made (by rw [hsz.out]; exact of_decide_eq_true rfl))
      exact Knows.free _
    refine sureX_cons ?_ ?_
    · intro L ac W K hLi hed hJ hX hK
      have hS := hX.1
      have hn := needs_spec (l := [9]) (by kernel_rfl) hed
      obtain ⟨hg, hA41, hY⟩ := hX.2 (hn 9 (by simp))
      have hsz := Lib.hid hJ.size
      clear hLi hed hJ hn
      refine opStep_of rfl ?_
      have rc := run_str_one W ⟨hg, 0, none⟩ 1 (x.toNat : Int) x rfl (hY.cell 0)
      unfold Oper.wp execOp
      have hN41 := evalN hA41
      go_simp
      refine hK _ _ ?_ (hX.step (Below.refl _ _) rfl rfl)
      exact Knows.known _
    refine sureX_cons ?_ ?_
    · intro L ac W K hLi hed hJ hX hK
      have hS := hX.1
      have hn := needs_spec (l := [7, 10]) (by kernel_rfl) hed
      have hA39 := hJ.eval 7 (d := 39) (hn 7 (by simp)) rfl rfl rfl
      have hA42 := hJ.eval 10 (d := 42) (hn 10 (by simp)) rfl rfl rfl
      have hsz := Lib.hid hJ.size
      clear hLi hed hJ hn
      refine opStep_of rfl ?_
      unfold Oper.wp execOp
      have hN39 := evalN hA39
      have hN42 := evalN hA42
      go_simp
      refine hK _ _ ?_ (hX.step (Below.refl _ _) rfl rfl)
      exact Knows.known _
    refine sureX_cons ?_ ?_
    · intro L ac W K hLi hed hJ hX hK
      have hS := hX.1
      have hA13 : ac.eval (.tmp 13) = .slice (some ⟨gL, 0, none⟩) fs.length cL := hJ.eval_old 13 (by kernel_rfl)
      have hsz := Lib.hid hJ.size
      clear hLi hed hJ
      refine opStep_of rfl ?_
      unfold Oper.wp execOp
      have hN13 := evalN hA13
      go_simp
      refine hK _ _ ?_ (hX.step (Below.refl _ _) rfl rfl)
      exact Knows.known _
    refine sureX_cons ?_ ?_
    · intro L ac W K hLi hed hJ hX hK
      have hS := hX.1
      have hA10 : ac.eval (.tmp 10) = .int .i64 (fr : Int) := hJ.eval_old 10 (by kernel_rfl)
      have hsz := Lib.hid hJ.size
      clear hLi hed hJ
      refine opStep_of rfl ?_
      unfold Oper.wp execOp
      have hN10 := evalN hA10
      go_simp
      refine hK _ _ ?_ (hX.step (Below.refl _ _) rfl rfl)
      exact Knows.known _
    refine sureX_cons ?_ ?_
    · intro L ac W K hLi hed hJ hX hK
      have hS := hX.1
      have hn := needs_spec (l := [12, 13]) (by kernel_rfl) hed
      have hA44 := hJ.eval 12 (d := 44) (hn 12 (by simp)) rfl rfl rfl
      have hA45 := hJ.eval 13 (d := 45) (hn 13 (by simp)) rfl rfl rfl
      have hsz := Lib.hid hJ.size
      clear hLi hed hJ hn
      refine opStep_of rfl ?_
      unfold Oper.wp execOp
      have hN44 := evalN hA44
      have hN45 := evalN hA45
      go_simp
      refine hK _ _ ?_ (hX.step (Below.refl _ _) rfl rfl)
      exact Knows.known _
    refine sureX_cons ?_ ?_
    · intro L ac W K hLi hed hJ hX hK
      have hS := hX.1
      have hn := needs_spec (l := [14]) (by kernel_rfl) hed
      have hA46 := hJ.eval 14 (d := 46) (hn 14 (by simp)) rfl rfl rfl
      have hsz := Lib.hid hJ.size
      clear hLi hed hJ hn
      refine opStep_of rfl ?_
      have cc := CL.out W hS
      unfold Oper.wp execOp
      have hN46 := evalN hA46
      go_simp
      refine hK _ _ ?_ (hX.step (Below.refl _ _) rfl rfl)
      exact Knows.known _
    refine sureX_cons ?_ ?_
    · intro L ac W K hLi hed hJ hX hK
      have hS := hX.1
      have hA11 : ac.eval (.tmp 11) = .int .i64 (pl : Int) := hJ.eval_old 11 (by kernel_rfl)
      have hsz := Lib.hid hJ.size
      clear hLi hed hJ
      refine opStep_of rfl ?_
      unfold Oper.wp execOp
      have hN11 := evalN hA11
      go_simp
      refine hK _ _ ?_ (hX.step (Below.refl _ _) rfl rfl)
      exact Knows.known _
    refine sureX_cons ?_ ?_
    · intro L ac W K hLi hed hJ hX hK
      have hS := hX.1
      have hn := needs_spec (l := [16]) (by kernel_rfl) hed
      have hA48 := hJ.eval 16 (d := 48) (hn 16 (by simp)) rfl rfl rfl
      have hsz := Lib.hid hJ.size
      clear hLi hed hJ hn
      refine opStep_of rfl ?_
      unfold Oper.wp execOp
      have hN48 := evalN hA48
      go_simp
      refine hK _ _ ?_ (hX.step (Below.refl _ _) rfl rfl)
      exact Knows.known _
    refine sureX_cons ?_ ?_
    · intro L ac W K hLi hed hJ hX hK
      have hS := hX.1
      have hn := needs_spec (l := [15, 17]) (by kernel_rfl) hed
      have hA47 := hJ.eval 15 (d := 47) (hn 15 (by simp)) rfl rfl rfl
      have hA49 := hJ.eval 17 (d := 49) (hn 17 (by simp)) rfl rfl rfl
      have hsz := Lib.hid hJ.size
      clear hLi hed hJ hn
      refine opStep_of rfl ?_
      unfold Oper.wp execOp
      have hN47 := evalN hA47
      have hN49 := evalN hA49
      go_simp
      refine hK _ _ ?_ (hX.step (Below.refl _ _) rfl rfl)
      exact Knows.known _
    refine sureX_cons ?_ ?_
    · intro L ac W K hLi hed hJ hX hK
      have hS := hX.1
      have hn := needs_spec (l := [11, 18]) (by kernel_rfl) hed
      have hA43 := hJ.eval 11 (d := 43) (hn 11 (by simp)) rfl rfl rfl
      have hA50 := hJ.eval 18 (d := 50) (hn 18 (by simp)) rfl rfl rfl
      have hsz := Lib.hid hJ.size
      clear hLi hed hJ hn
      refine opStep_of rfl ?_
      unfold Oper.wp execOp
      have hN43 := evalN hA43
      have hN50 := evalN hA50
      go_simp
      refine hK _ _ ?_ (hX.step (Below.refl _ _) rfl rfl)
      exact Knows.known _
    refine sureX_cons ?_ ?_
    · intro L ac W K hLi hed hJ hX hK
      have hS := hX.1
      have hn := needs_spec (l := [0, 1]) (by kernel_rfl) hed
      have hA32 := hJ.eval 0 (d := 32) (hn 0 (by simp)) rfl rfl rfl
      have hA33 := hJ.eval 1 (d := 33) (hn 1 (by simp)) rfl rfl rfl
      have hsz := Lib.hid hJ.size
      clear hLi hed hJ hn
      refine opStep_of rfl ?_
      unfold Oper.wp execOp
      have hN32 := evalN hA32
      have hN33 := evalN hA33
      go_simp
      refine hK _ _ ?_ (hX.step (Below.refl _ _) rfl rfl)
      exact Knows.known _
    refine sureX_nil ?_
    intro L ac W hL hX ha
    have hS := hX.1
    rw [ha]
    simp only [mendAll, Option.getD_some, Option.getD_none, Option.map_some, putAll, Act.put, List.setIfInBounds_toArray, List.set_cons_zero, List.set_cons_succ]
    generalize ac.tmps.getD 41 undef = us
    clear ha hX hL
    have HWW := Lib.hid (HWL.out.below hS HWL.out.lt)
    have HVW := Lib.hid (HV4.out.trans (hS.mono (by have := HWL.out.lt; omega)))
    have ccL : W.cell? ⟨gL, fr, none⟩ = some (S f) := CL.out W hS
    have yL := HWW.out.free fr
    clear hS CL HWL HV4
    go_wp2_with fail
    refine bodyPost_ret (v := .tuple #[.slice (some ⟨gL, 0, none⟩) fs.length cL, .bool true]) (by simp [results, Tryz.results14, go_sem]) rfl ?_
    refine ⟨⟨gL, cL, zz, rfl, by rw [HGX.out]; omega, hcL, ?_⟩, by rw [HGX.out]; exact HVW.out.setCell (p := ⟨gL, fr, none⟩) (by show gx ≤ gL; omega) _⟩
    have := HWW.out.set fr (S (fa ++ [x] ++ fb))
    rw [List.setIfInBounds_toArray, set_strs hlt, ← HPF.out] at this
    have e1 : ({ data := fa.toArray } ++ { data := #[x] } : ByteArray) = ⟨(fa ++ [x]).toArray⟩ := by
      have := concat_S fa [x]
      injection this
    rw [e1, concat_S, ← HPF.out]
    exact this
set_option maxRecDepth 100000 in
set_option maxHeartbeats 4000000 in
theorem rcopy_any (w : World) (A : Option Addr) (c : Nat) (sp : List Pg) (fs : List (List UInt8)) (ad n fr pl : Nat) (f : List UInt8) (h : Spot sp fs ad n fr pl f) (hA : Strs w w.heap.size A fs) :
    Calls Tryz.prog 9 #[.slice A fs.length c, .agg (pgCells sp).toArray, .int .u32 (ad : Int), .int .i64 (n : Int)] w fun e w' => e = .returned (.tuple #[S ((f.drop pl).take n), .bool true]) ∧ Below w.heap.size w w' := by
  have hs0 := Whole.made w 42 (pgCells sp).toArray
  have hb : Below w.heap.size w (w.alloc (.cells (pgCells sp).toArray 42)) := (Below.refl _ _).alloc (Nat.le_refl _) _
  go_enter Tryz.func9, Tryz.ntmps9
  go_upto_region 1 with (fail)
  change Code.wp _ _ _ _ (w.alloc (.cells (pgCells sp).toArray 42))
  generalize (w.alloc (.cells (pgCells sp).toArray 42)) = w1 at *
  generalize hgx : w.heap.size = gx at *
  have HGX := Lib.hid hgx
  have HS0 := Lib.hid hs0
  have HW := Lib.hid hb
  have hgl : gx < w1.heap.size := hs0.lt
  clear hgx hb hs0
  have MI : Hid ((Tryz.prog.info? 42).map (·.size) = some (pgCells sp).length) := Lib.hid (by rw [pgCells_length, h.len]; exact Tryz.sizeSpace)
  have HS := Lib.hid h
  have HL : Hid (∀ W, Below w1.heap.size w1 W → ∀ j v, (pgCells sp)[j]? = some v → W.cell? ((⟨gx, 0, none⟩ : Addr).add j) = some v) := Lib.hid fun W hS => (HS0.out.below hS HS0.out.lt).reads
  have HA : Hid (∀ W, Below w1.heap.size w1 W → Strs W W.heap.size A fs) := Lib.hid fun W hS => (Lies.below (Lies.below hA HW.out) (hS.mono (by omega))).wide (by have := hS.size; omega)
  have hrm := h.room
  have hal := h.lt
  have hpp := h.plc
  have h8 : ad + n ≤ 2048 := by omega
  have HFL : Hid (f.length = 128) := Lib.hid h.fl
  clear h hA
  have d1 : decide ((n : Int) < 0) = false := decide_eq_false (by omega)
  have d2 : decide ((2048 : Int) < (n : Int)) = false := decide_eq_false (by omega)
  have d2' : decide (2048 < n) = false := decide_eq_false (by omega)
  have cva : IntKind.i64.wrap (ad : Int) = (ad : Int) := by rw [IntKind.wrap_i64]; omega
  have cvb : IntKind.i64.wrap ((ad : Int) + (n : Int)) = (ad : Int) + (n : Int) := by rw [IntKind.wrap_i64]; omega
  have d3 : decide ((2048 : Int) < (ad : Int) + (n : Int)) = false := decide_eq_false (by omega)
  have d3' : decide (2048 < ad + n) = false := decide_eq_false (by omega)
  have d4 : decide ((2048 : Int) < (ad : Int)) = false := decide_eq_false (by omega)
  have d4' : decide (2048 < ad) = false := decide_eq_false (by omega)
  go_upto_region 5 with (fail)
  clear d1 d2 d2' cva cvb d3 d3' d4 d4'
  go_loopw [10, 11] (fun s i wr => ∃ j : Nat, j ≤ n ∧ i = .int .i64 (j : Int) ∧ s = S ((f.drop pl).take j) ∧ Hid (Below w1.heap.size w1 wr)) (fun _ i _ => n - (intOf i).toNat)
  case atStart => exact ⟨0, by omega, rfl, rfl, Lib.hid (Below.refl _ _)⟩
  case round =>
    obtain ⟨j, hj, rfl, rfl, HV⟩ := hrel
    by_cases hlt : j < n
    · have e1 : decide ((j : Int) < (n : Int)) = true := decide_eq_true (by omega)
      have e1' : decide (j < n) = true := decide_eq_true hlt
      have e2 : IntKind.u32.wrap (j : Int) = (j : Int) := by rw [IntKind.wrap_u32]; omega
      have e3 : IntKind.u32.wrap ((ad : Int) + (j : Int)) = (ad : Int) + (j : Int) := by rw [IntKind.wrap_u32]; omega
      have CB := Lib.hid (rbyte_any wr A c sp fs (ad + j) fr (pl + j) f (HS.out.at hlt) (HA.out wr HV.out))
      have ea : ((ad + j : Nat) : Int) = (ad : Int) + (j : Int) := by omega
      rw [ea] at CB
      have LD := Lib.hid (HL.out wr HV.out)
      have HTK : Hid ((f.drop pl).take (j + 1) = (f.drop pl).take j ++ [f.getD (pl + j) 0]) := Lib.hid (by
        rw [List.take_add_one, List.getElem?_drop, getD_mem f (by have := HFL.out; omega)]; rfl)
      have hln : ((f.drop pl).take j).length ≤ 128 := by rw [List.length_take]; omega
      generalize (f.drop pl).take j = s at *
      generalize f.getD (pl + j) 0 = x at *
      clear ea
      go_wp2_with (refine wpList_load_at rfl 42 (.tmp 5) rfl ⟨gx, 0, none⟩ rfl (pgCells sp) _ LD.out Tryz.underlying42 rfl MI.out ?_)
      refine CB.out.mono ?_
      rintro e w3 ⟨rfl, hb⟩
      have HV3 := Lib.hid (HV.out.trans (hb.mono HV.out.size))
      have HV4 := Lib.hid (HV3.out.alloc HV3.out.size (.cells #[B8 x] 5))
      have hcv := fun W p c => run_str_one W p c (x.toNat : Int) x rfl
      have hno : ¬ (9223372036854775807 < s.length + [x].length) := by simp; omega
      clear hb CB LD
      go_wp2_with fail
      go_roundw
      case rel =>
        have R : ∃ j' : Nat, j' ≤ n ∧ Value.int .i64 ((j : Int) + 1) = .int .i64 (j' : Int) ∧ S (s ++ [x]) = S ((f.drop pl).take j') ∧ Hid (Below w1.heap.size w1 (w3.alloc (.cells #[B8 x] 5))) := ⟨j + 1, by omega, by go_num, by rw [HTK.out], HV4⟩
        first | exact R | ((repeat apply Exists.intro); exact ⟨R, rfl⟩)
      case measure => simp [intOf]; omega
    · obtain rfl : j = n := by omega
      have e1 : decide ((j : Int) < (j : Int)) = false := by simp
      have e1' : decide (j < j) = false := by simp
      go_wp2_with fail
      refine bodyPost_ret (v := .tuple #[S ((f.drop pl).take j), .bool true]) (by simp [results, Tryz.results9, go_sem]) rfl ?_
      exact ⟨rfl, by rw [HGX.out]; exact HW.out.trans (HV.out.mono (by omega))⟩
theorem set_same {α : Type} {l : List α} {k : Nat} {x : α} (h : l[k]? = some x) : l.set k x = l := by
  apply List.ext_getElem?
  intro i
  rw [List.getElem?_set]
  split
  · rename_i hk; subst hk
    split
    · exact h.symm
    · rename_i hn; rw [List.getElem?_eq_none (by omega)] at h; cases h
  · rfl
set_option maxRecDepth 100000 in
set_option maxHeartbeats 4000000 in
theorem rlay_any (w : World) (A : Option Addr) (c : Nat) (sp : List Pg) (fs : List (List UInt8)) (ad fr pl : Nat) (f d : List UInt8) (h : Spot sp fs ad d.length fr pl f) (hA : Strs w w.heap.size A fs) :
    Calls Tryz.prog 7 #[.slice A fs.length c, .agg (pgCells sp).toArray, .int .u32 (ad : Int), S d] w fun e w' => (∃ A' c', e = .returned (.tuple #[.slice A' fs.length c', .bool true]) ∧ Strs w' w'.heap.size A' (fs.set fr (putF f pl d)) ∧ fs.length ≤ c' ∧ ∀ ad, A' = some ad → w.heap.size ≤ ad.block) ∧ Below w.heap.size w w' := by
  obtain ⟨i0s, hi0, hz0, hz1, hz2⟩ := info_parts Tryz.infoStr'
  have hs0 := Whole.made w 42 (pgCells sp).toArray
  have hb : Below w.heap.size w (w.alloc (.cells (pgCells sp).toArray 42)) := (Below.refl _ _).alloc (Nat.le_refl _) _
  go_enter Tryz.func7, Tryz.ntmps7
  go_upto_region 1 with (fail)
  change Code.wp _ _ _ _ (w.alloc (.cells (pgCells sp).toArray 42))
  generalize (w.alloc (.cells (pgCells sp).toArray 42)) = w1 at *
  generalize hgx : w.heap.size = gx at *
  have HGX := Lib.hid hgx
  have HS0 := Lib.hid hs0
  have HW := Lib.hid hb
  have hgl : gx < w1.heap.size := hs0.lt
  clear hgx hb hs0
  have MI : Hid ((Tryz.prog.info? 42).map (·.size) = some (pgCells sp).length) := Lib.hid (by rw [pgCells_length, h.len]; exact Tryz.sizeSpace)
  have HS := Lib.hid h
  have HL : Hid (∀ W, Below w1.heap.size w1 W → ∀ j v, (pgCells sp)[j]? = some v → W.cell? ((⟨gx, 0, none⟩ : Addr).add j) = some v) := Lib.hid fun W hS => (HS0.out.below hS HS0.out.lt).reads
  have HAA : Hid (Strs (w1.alloc (.cells #[] 9)) (w1.alloc (.cells #[] 9)).heap.size A fs) := Lib.hid ((Lies.below (Lies.below hA HW.out) ((Below.refl gx w1).alloc (by omega) _)).wide (by simp; omega))
  have HO : Hid (OwnS (w1.alloc (.cells #[] 9)) w1.heap.size (.slice (some ⟨w1.heap.size, 0, none⟩) 0 0) []) := Lib.hid (World.ownsRow_lit w1 #[] 0 (Nat.le_refl _) (by unfold maxLen; omega) rfl)
  have hrm := h.room
  have hal := h.lt
  have hpp := h.plc
  have hfrl := h.frl
  have hone := S_one fs
  have hlen : (fs.map S).length = fs.length * 1 := by simp
  have H63 : Hid (0 + fs.length ≤ maxLen) := Lib.hid (by unfold maxLen; omega)
  have HBY : Hid ((0 + fs.length) * i0s.bytes ≤ 140737488355328) := Lib.hid (by rw [hz2]; omega)
  have HVA : Hid (Below w1.heap.size w1 (w1.alloc (.cells #[] 9))) := Lib.hid ((Below.refl w1.heap.size w1).alloc (Nat.le_refl _) _)
  have h8 : ad + d.length ≤ 2048 := by omega
  clear h hA
  have d2 : decide ((2048 : Int) < (d.length : Int)) = false := decide_eq_false (by omega)
  have d2' : decide (2048 < d.length) = false := decide_eq_false (by omega)
  have cva : IntKind.i64.wrap (ad : Int) = (ad : Int) := by rw [IntKind.wrap_i64]; omega
  have cvb : IntKind.i64.wrap ((ad : Int) + (d.length : Int)) = (ad : Int) + (d.length : Int) := by rw [IntKind.wrap_i64]; omega
  have d3 : decide ((2048 : Int) < (ad : Int) + (d.length : Int)) = false := decide_eq_false (by omega)
  have d3' : decide (2048 < ad + d.length) = false := decide_eq_false (by omega)
  have d4 : decide ((2048 : Int) < (ad : Int)) = false := decide_eq_false (by omega)
  have d4' : decide (2048 < ad) = false := decide_eq_false (by omega)
  go_upto_region 3 with (fail)
  clear d2 d2' cva cvb d3 d3' d4 d4'
  go_upto_region 5 with (at_builtin; refine wpList_append_src rfl (.tmp 29) (.tmp 30) 22 rfl w1.heap.size 9 i0s _ 1 _ Tryz.underlying22 hi0 hz0 hz1 rfl (by kernel_rfl) (by decide) _ _ _ rfl HO.out (w1.alloc (.cells #[] 9)).heap.size A fs.length c (fs.map S) rfl hlen HAA.out hone H63.out HBY.out (by simp) ?_; intro v' w4 hown' hgrow; have hown2 : OwnS w4 w1.heap.size v' fs := (by simpa using hown'); obtain ⟨X0, c0, rfl, hX0, hc0, _⟩ := own_row hown2)
  have HX0 := Lib.hid hX0.1
  have HC0 : Hid (fs.length ≤ c0 ∧ ∀ ad : Addr, X0 = some ad → gx ≤ ad.block) := Lib.hid ⟨hc0, fun ad e => by have := (hX0.2 ad e).1; omega⟩
  have HV4 := Lib.hid (HVA.out.grown hgrow (by simp) (fun q e => (HO.out.lt q e).1))
  have HF0 : Hid (fs = fs.set fr (putF f pl (d.take 0))) := Lib.hid (by rw [List.take_zero, putF_nil, set_same HS.out.frm])
  clear hown' hown2 hgrow hX0 hc0 HO HAA hone hlen H63 HBY HVA hi0 hz0 hz1 hz2
  go_loopw [10, 11] (fun v i wr => ∃ (jj : Nat) (A' : Option Addr) (c' : Nat) (l : List (List UInt8)), jj ≤ d.length ∧ i = .int .i64 (jj : Int) ∧ v = .slice A' l.length c' ∧ Hid (l = fs.set fr (putF f pl (d.take jj))) ∧ Hid (Strs wr wr.heap.size A' l) ∧ Hid (l.length ≤ c' ∧ ∀ ad : Addr, A' = some ad → gx ≤ ad.block) ∧ Hid (Below w1.heap.size w1 wr)) (fun _ i _ => d.length - (intOf i).toNat)
  case atStart => exact ⟨0, X0, c0, fs, by omega, rfl, rfl, HF0, HX0, HC0, HV4⟩
  case round =>
    clear HX0 HC0 HV4 HF0
    obtain ⟨j, A', c', l, hj, rfl, rfl, HLL, HST, HCC, HV⟩ := hrel
    by_cases hlt : j < d.length
    · have e1 : decide ((j : Int) < (d.length : Int)) = true := decide_eq_true (by omega)
      have e1' : decide (j < d.length) = true := decide_eq_true hlt
      have hdj : (d.take j).length = j := by rw [List.length_take]; omega
      have HSP : Hid (Spot sp l (ad + j) 1 fr (pl + j) (putF f pl (d.take j))) := Lib.hid (by rw [HLL.out]; exact (HS.out.lay (d.take j) (by omega)).at hlt)
      have HNX : Hid (l.set fr (putF (putF f pl (d.take j)) (pl + j) [d.getD j 0]) = fs.set fr (putF f pl (d.take (j + 1)))) := Lib.hid (by
        have e := putF_snoc (f := f) (pl := pl) (d := d.take j) (d.getD j 0) (by rw [hdj, HS.out.fl]; omega)
        rw [hdj] at e
        rw [HLL.out, List.set_set, e, List.take_add_one, getD_mem d hlt]; rfl)
      have hrx := fun W => run_index_S d .i64 (j : Int) j rfl hlt W
      have e2 : IntKind.u32.wrap (j : Int) = (j : Int) := by rw [IntKind.wrap_u32]; omega
      have e3 : IntKind.u32.wrap ((ad : Int) + (j : Int)) = (ad : Int) + (j : Int) := by rw [IntKind.wrap_u32]; omega
      have HL3 : Hid (∀ W, Below wr.heap.size wr W → ∀ j v, (pgCells sp)[j]? = some v → W.cell? ((⟨gx, 0, none⟩ : Addr).add j) = some v) := Lib.hid fun W hS => HL.out W (HV.out.trans (hS.mono HV.out.size))
      generalize putF f pl (d.take j) = ff at *
      generalize d.getD j 0 = x at *
      have ea : ((ad + j : Nat) : Int) = (ad : Int) + (j : Int) := by omega
      have CC : Hid (∀ W, Below wr.heap.size wr W → Calls Tryz.prog 14 #[.slice A' l.length c', .agg (pgCells sp).toArray, .int .u32 ((ad : Int) + (j : Int)), B8 x] W fun e w' => (∃ v, e = .returned v ∧ LayR wr.heap.size l.length (l.set fr (putF ff (pl + j) [x])) 10 9 v w') ∧ Below W.heap.size W w') := Lib.hid fun W hS => by
        have := rset_any W A' c' sp l (ad + j) fr (pl + j) ff HSP.out ((Lies.below HST.out hS).wide hS.size) x
        rw [ea] at this
        refine this.mono ?_
        rintro e w2 ⟨⟨g, c2, z2, rfl, hg, hcl, hw⟩, hb⟩
        exact ⟨⟨_, rfl, g, c2, z2, rfl, Nat.le_trans hS.size hg, hcl, hw⟩, hb⟩
      have HLS : Hid ((l.set fr (putF ff (pl + j) [x])).length = l.length) := Lib.hid (by simp)
      clear ea hdj
      go_upto_region 7 with (fail)
      refine' wp_region_sureX (by kernel_rfl) (PostX wr [(9, 48), (10, 38), (11, 49), (13, 12)] (LayR wr.heap.size l.length (l.set fr (putF ff (pl + j) [x])) 10)) 15 [some _, some _, some _, some _, some _, some _, some _, some _, some _, none, none, none, some _, none, some _] [some 39, some 40, some 41, some 42, some 43, some 44, some 45, some 46, some 47, some 48, some 38, some 49, some 50, some 12, some 13] (by kernel_rfl) (by kernel_rfl) (by kernel_rfl) (by kernel_rfl) rfl (PostX.init (Below.refl _ _).drew) ?hs1
      case hs1 =>
        refine sureX_cons ?_ ?_
        · intro L ac W K hLi hed hJ hX hK
          have hS := hX.1
          have hA10 : ac.eval (.tmp 10) = .slice A' l.length c' := hJ.eval_old 10 (by kernel_rfl)
          have hsz := Lib.hid hJ.size
          clear hLi hed hJ
          refine opStep_of rfl ?_
          unfold Oper.wp execOp
          have hN10 := evalN hA10
          go_simp
          refine hK _ _ ?_ (hX.step LayR.stays (Below.refl _ _) rfl rfl)
          exact Knows.known _
        refine sureX_cons ?_ ?_
        · intro L ac W K hLi hed hJ hX hK
          have hS := hX.1
          have hA5 : ac.eval (.tmp 5) = .pointer (some ⟨gx, 0, none⟩) := hJ.eval_old 5 (by kernel_rfl)
          have hsz := Lib.hid hJ.size
          clear hLi hed hJ
          refine opStep_of rfl ?_
          refine oper_load_at 42 (.tmp 5) rfl ⟨gx, 0, none⟩ hA5 (pgCells sp) _ (HL3.out W hS) Tryz.underlying42 rfl MI.out ?_
          refine hK _ _ ?_ (hX.step LayR.stays (Below.refl _ _) rfl rfl)
          exact Knows.known _
        refine sureX_cons ?_ ?_
        · intro L ac W K hLi hed hJ hX hK
          have hS := hX.1
          have hA2 : ac.eval (.tmp 2) = .int .u32 (ad : Int) := hJ.eval_old 2 (by kernel_rfl)
          have hsz := Lib.hid hJ.size
          clear hLi hed hJ
          refine opStep_of rfl ?_
          unfold Oper.wp execOp
          have hN2 := evalN hA2
          go_simp
          refine hK _ _ ?_ (hX.step LayR.stays (Below.refl _ _) rfl rfl)
          exact Knows.known _
        refine sureX_cons ?_ ?_
        · intro L ac W K hLi hed hJ hX hK
          have hS := hX.1
          have hA11 : ac.eval (.tmp 11) = .int .i64 (j : Int) := hJ.eval_old 11 (by kernel_rfl)
          have hsz := Lib.hid hJ.size
          clear hLi hed hJ
          refine opStep_of rfl ?_
          unfold Oper.wp execOp
          have hN11 := evalN hA11
          go_simp
          refine hK _ _ ?_ (hX.step LayR.stays (Below.refl _ _) rfl rfl)
          exact Knows.known _
        refine sureX_cons ?_ ?_
        · intro L ac W K hLi hed hJ hX hK
          have hS := hX.1
          have hn := needs_spec (l := [3]) (by kernel_rfl) hed
          have hA42 := hJ.eval 3 (d := 42) (hn 3 (by simp)) rfl rfl rfl
          have hsz := Lib.hid hJ.size
          clear hLi hed hJ hn
          refine opStep_of rfl ?_
          unfold Oper.wp execOp
          have hN42 := evalN hA42
          go_simp
          refine hK _ _ ?_ (hX.step LayR.stays (Below.refl _ _) rfl rfl)
          exact Knows.known _
        refine sureX_cons ?_ ?_
        · intro L ac W K hLi hed hJ hX hK
          have hS := hX.1
          have hn := needs_spec (l := [2, 4]) (by kernel_rfl) hed
          have hA41 := hJ.eval 2 (d := 41) (hn 2 (by simp)) rfl rfl rfl
          have hA43 := hJ.eval 4 (d := 43) (hn 4 (by simp)) rfl rfl rfl
          have hsz := Lib.hid hJ.size
          clear hLi hed hJ hn
          refine opStep_of rfl ?_
          unfold Oper.wp execOp
          have hN41 := evalN hA41
          have hN43 := evalN hA43
          go_simp
          refine hK _ _ ?_ (hX.step LayR.stays (Below.refl _ _) rfl rfl)
          exact Knows.known _
        refine sureX_cons ?_ ?_
        · intro L ac W K hLi hed hJ hX hK
          have hS := hX.1
          have hA3 : ac.eval (.tmp 3) = S d := hJ.eval_old 3 (by kernel_rfl)
          have hsz := Lib.hid hJ.size
          clear hLi hed hJ
          refine opStep_of rfl ?_
          unfold Oper.wp execOp
          have hN3 := evalN hA3
          go_simp
          refine hK _ _ ?_ (hX.step LayR.stays (Below.refl _ _) rfl rfl)
          exact Knows.known _
        refine sureX_cons ?_ ?_
        · intro L ac W K hLi hed hJ hX hK
          have hS := hX.1
          have hA11 : ac.eval (.tmp 11) = .int .i64 (j : Int) := hJ.eval_old 11 (by kernel_rfl)
          have hsz := Lib.hid hJ.size
          clear hLi hed hJ
          refine opStep_of rfl ?_
          unfold Oper.wp execOp
          have hN11 := evalN hA11
          go_simp
          refine hK _ _ ?_ (hX.step LayR.stays (Below.refl _ _) rfl rfl)
          exact Knows.known _
        refine sureX_cons ?_ ?_
        · intro L ac W K hLi hed hJ hX hK
          have hS := hX.1
          have hn := needs_spec (l := [6, 7]) (by kernel_rfl) hed
          have hA45 := hJ.eval 6 (d := 45) (hn 6 (by simp)) rfl rfl rfl
          have hA46 := hJ.eval 7 (d := 46) (hn 7 (by simp)) rfl rfl rfl
          have hsz := Lib.hid hJ.size
          clear hLi hed hJ hn
          refine opStep_of rfl ?_
          unfold Oper.wp execOp
          have hN45 := evalN hA45
          have hN46 := evalN hA46
          go_simp
          refine hK _ _ ?_ (hX.step LayR.stays (Below.refl _ _) rfl rfl)
          exact Knows.known _
        refine sureX_cons ?_ ?_
        · intro L ac W K hLi hed hJ hX hK
          have hS := hX.1
          have hn := needs_spec (l := [0, 1, 5, 8]) (by kernel_rfl) hed
          have hA39 := hJ.eval 0 (d := 39) (hn 0 (by simp)) rfl rfl rfl
          have hA40 := hJ.eval 1 (d := 40) (hn 1 (by simp)) rfl rfl rfl
          have hA44 := hJ.eval 5 (d := 44) (hn 5 (by simp)) rfl rfl rfl
          have hA47 := hJ.eval 8 (d := 47) (hn 8 (by simp)) rfl rfl rfl
          have hsz := Lib.hid hJ.size
          clear hLi hed hJ hn
          refine opStep_of rfl ?_
          unfold Oper.wp execOp
          have hN39 := evalN hA39
          have hN40 := evalN hA40
          have hN44 := evalN hA44
          have hN47 := evalN hA47
          go_simp
          refine (CC.out W hS).mono ?_
          rintro e W' ⟨⟨v, rfl, hv⟩, hb⟩
          have hX2 := hX.made (j := 9) (s := 48) LayR.stays hb rfl (by rw [hsz.out]; exact of_decide_eq_true rfl) hv
          dsimp only
          refine hK _ W' ?_ hX2
          exact Knows.free _
        refine sureX_cons ?_ ?_
        · intro L ac W K hLi hed hJ hX hK
          have hS := hX.1
          have hn := needs_spec (l := [9]) (by kernel_rfl) hed
          have hF48 := hX.2 (9, 48) (by simp) (hn 9 (by simp))
          have hsz := Lib.hid hJ.size
          clear hLi hed hJ hn
          refine opStep_of rfl ?_
          obtain ⟨gL, cl, zz, hv, hz⟩ := hF48
          have hA48 : ac.eval (.tmp 48) = .tuple #[.slice (some ⟨gL, 0, none⟩) l.length cl, .bool true] := hv
          unfold Oper.wp execOp
          have hN48 := evalN hA48
          go_simp
          have hX2 := hX.made (j := 10) (s := 38) LayR.stays (Below.refl _ _) rfl (by rw [hsz.out]; exact of_decide_eq_true rfl) ⟨gL, cl, zz, rfl, hz⟩
          refine hK _ W ?_ hX2
          exact Knows.free _
        refine sureX_cons ?_ ?_
        · intro L ac W K hLi hed hJ hX hK
          have hS := hX.1
          have hn := needs_spec (l := [10]) (by kernel_rfl) hed
          have hF38 := hX.2 (10, 38) (by simp) (hn 10 (by simp))
          have hsz := Lib.hid hJ.size
          clear hLi hed hJ hn
          refine opStep_of rfl ?_
          obtain ⟨gL, cl, zz, hv, hz⟩ := hF38
          have hA38 : ac.eval (.tmp 38) = .tuple #[.slice (some ⟨gL, 0, none⟩) l.length cl, .bool true] := hv
          unfold Oper.wp execOp
          have hN38 := evalN hA38
          go_simp
          have hX2 := hX.made (j := 11) (s := 49) LayR.stays (Below.refl _ _) rfl (by rw [hsz.out]; exact of_decide_eq_true rfl) ⟨gL, cl, zz, rfl, hz⟩
          refine hK _ W ?_ hX2
          exact Knows.free _
        refine sureX_cons ?_ ?_
        · intro L ac W K hLi hed hJ hX hK
          have hS := hX.1
          have hn := needs_spec (l := [10]) (by kernel_rfl) hed
          have hF38 := hX.2 (10, 38) (by simp) (hn 10 (by simp))
          have hsz := Lib.hid hJ.size
          clear hLi hed hJ hn
          refine opStep_of rfl ?_
          obtain ⟨gL, cl, zz, hv, hz⟩ := hF38
          have hA38 : ac.eval (.tmp 38) = .tuple #[.slice (some ⟨gL, 0, none⟩) l.length cl, .bool true] := hv
          unfold Oper.wp execOp
          have hN38 := evalN hA38
          go_simp
          refine hK _ _ ?_ (hX.step LayR.stays (Below.refl _ _) rfl rfl)
          exact Knows.known _
        refine sureX_cons ?_ ?_
        · intro L ac W K hLi hed hJ hX hK
          have hS := hX.1
          have hn := needs_spec (l := [11]) (by kernel_rfl) hed
          have hF49 := hX.2 (11, 49) (by simp) (hn 11 (by simp))
          have hsz := Lib.hid hJ.size
          clear hLi hed hJ hn
          refine opStep_of rfl ?_
          obtain ⟨gL, cl, zz, hv, hz⟩ := hF49
          have hA49 : ac.eval (.tmp 49) = .slice (some ⟨gL, 0, none⟩) l.length cl := hv
          unfold Oper.wp execOp
          have hN49 := evalN hA49
          go_simp
          have hX2 := hX.made (j := 13) (s := 12) LayR.stays (Below.refl _ _) rfl (by rw [hsz.out]; exact of_decide_eq_true rfl) ⟨gL, cl, zz, rfl, hz⟩
          refine hK _ W ?_ hX2
          exact Knows.free _
        refine sureX_cons ?_ ?_
        · intro L ac W K hLi hed hJ hX hK
          have hS := hX.1
          have hn := needs_spec (l := [12]) (by kernel_rfl) hed
          have hA50 := hJ.eval 12 (d := 50) (hn 12 (by simp)) rfl rfl rfl
          have hsz := Lib.hid hJ.size
          clear hLi hed hJ hn
          refine opStep_of rfl ?_
          unfold Oper.wp execOp
          have hN50 := evalN hA50
          go_simp
          refine hK _ _ ?_ (hX.step LayR.stays (Below.refl _ _) rfl rfl)
          exact Knows.known _
        refine sureX_nil ?_
        intro L ac W hL hX ha
        have hS := hX.1
        have hF48 := hX.2 (9, 48) (by simp) (hL 9 (by omega))
        have hF38 := hX.2 (10, 38) (by simp) (hL 10 (by omega))
        have hF49 := hX.2 (11, 49) (by simp) (hL 11 (by omega))
        have hF12 := hX.2 (13, 12) (by simp) (hL 13 (by omega))
        rw [ha]
        simp only [mendAll, Option.getD_some, Option.getD_none, Option.map_some, putAll, Act.put, List.setIfInBounds_toArray, List.set_cons_zero, List.set_cons_succ]
        change ((LayR wr.heap.size l.length (l.set fr (putF ff (pl + j) [x])) 10)) 9 (ac.tmps.getD 48 undef) W at hF48
        generalize ac.tmps.getD 48 undef = us48 at *
        change ((LayR wr.heap.size l.length (l.set fr (putF ff (pl + j) [x])) 10)) 10 (ac.tmps.getD 38 undef) W at hF38
        generalize ac.tmps.getD 38 undef = us38 at *
        change ((LayR wr.heap.size l.length (l.set fr (putF ff (pl + j) [x])) 10)) 11 (ac.tmps.getD 49 undef) W at hF49
        generalize ac.tmps.getD 49 undef = us49 at *
        change ((LayR wr.heap.size l.length (l.set fr (putF ff (pl + j) [x])) 10)) 13 (ac.tmps.getD 12 undef) W at hF12
        generalize ac.tmps.getD 12 undef = us12 at *
        clear ha hX hL
        obtain ⟨gL, cl, zz, e12, hg, hcl, hw⟩ := hF12
        have e12 : us12 = .slice (some ⟨gL, 0, none⟩) l.length cl := e12
        subst e12
        clear hF48 hF38 hF49
        have HV5 := Lib.hid (HV.out.trans (hS.mono HV.out.size))
        generalize l.set fr (putF ff (pl + j) [x]) = l2 at *
        have HW2 := Lib.hid hw
        have HCL := Lib.hid hcl
        have HG9 : Hid (gx ≤ gL) := Lib.hid (by have := HV.out.size; omega)
        clear hS hw hg hcl CC HL3 HSP HST HCC hrx
        rw [← HLS.out]
        go_wp2_with fail
        go_roundw
        case rel =>
          have R : ∃ (jj : Nat) (A' : Option Addr) (c' : Nat) (l : List (List UInt8)), jj ≤ d.length ∧ Value.int .i64 ((j : Int) + 1) = .int .i64 (jj : Int) ∧ Value.slice (some ⟨gL, 0, none⟩) l2.length cl = .slice A' l.length c' ∧ Hid (l = fs.set fr (putF f pl (d.take jj))) ∧ Hid (Strs W W.heap.size A' l) ∧ Hid (l.length ≤ c' ∧ ∀ ad : Addr, A' = some ad → gx ≤ ad.block) ∧ Hid (Below w1.heap.size w1 W) := ⟨j + 1, some ⟨gL, 0, none⟩, cl, l2, by omega, by go_num, rfl, HNX, Lib.hid (fun k v hv => ⟨_, rfl, HW2.out.lt, HW2.out.reads k v (by rw [List.getElem?_append_left (List.getElem?_eq_some_iff.1 hv).1]; exact hv)⟩), Lib.hid ⟨by rw [HLS.out]; exact HCL.out, fun ad e => by injection e with e; subst e; exact HG9.out⟩, HV5⟩
          first | exact R | ((repeat apply Exists.intro); exact ⟨R, rfl⟩)
        case measure => simp [intOf]; omega
    · obtain rfl : j = d.length := by omega
      have e1 : decide ((d.length : Int) < (d.length : Int)) = false := by simp
      have e1' : decide (d.length < d.length) = false := by simp
      rw [List.take_length] at HLL
      go_wp2_with fail
      refine bodyPost_ret (v := .tuple #[.slice A' l.length c', .bool true]) (by simp [results, Tryz.results7, go_sem]) rfl ?_
      refine ⟨⟨A', c', by rw [HLL.out, List.length_set], by rw [← HLL.out]; exact HST.out, by have := HCC.out.1; rwa [HLL.out, List.length_set] at this, by rw [HGX.out]; exact HCC.out.2⟩, by rw [HGX.out]; exact HW.out.trans (HV.out.mono (by omega))⟩
end Go.Proofs.YtdhfblfnejmeiaaGreatDoor
