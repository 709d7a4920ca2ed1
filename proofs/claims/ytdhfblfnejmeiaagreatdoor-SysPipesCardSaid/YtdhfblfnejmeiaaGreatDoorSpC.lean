/-
  Walks: the kernel's small methods. (Printed by gen_spc.py.)
-/
import Derived.Test.YtdhfblfnejmeiaaGreatDoorSpB
import Derived.Test.YtdhfblfnejmeiaaGreatDoorSureA
namespace Go.Proofs.YtdhfblfnejmeiaaGreatDoor
open Go.RowKit

set_option maxRecDepth 100000 in
set_option maxHeartbeats 1000000 in
theorem need_any (w : World) (v : Value) (c : Int) :
    Calls Tryz.prog 46 #[v, .bool true, .int .i64 c] w fun e w' => e = .returned (.tuple #[]) ∧ w' = w := by
  go_enter Tryz.func46, Tryz.ntmps46
  go_wp2_with fail
  refine bodyPost_end (v := .tuple #[]) (by simp [results, Tryz.results46, go_sem]) rfl ?_
  exact ⟨rfl, rfl⟩
set_option maxRecDepth 100000 in
set_option maxHeartbeats 4000000 in
theorem caller_any {w : World} {B kb : Nat} {a : MA} {m : Mc} {p : Pr} {pb : Nat} {z : List Value} {a0 : MA} {m0 : Mc} {x0 x1 x2 : Int} {tl : List UInt8} (h : KS w B kb a m p pb z a0 m0 x0 x1 x2 tl) :
    Calls Tryz.prog 32 #[.pointer (some ⟨kb, 0, none⟩)] w fun e w' => e = .returned (.pointer (some ⟨pb, 0, none⟩)) ∧ Below w.heap.size w w' := by
  have HK := Lib.hid h
  have CF : Hid (∀ W, Below w.heap.size w W → Calls Tryz.prog 10 #[.agg (mcL a m).toArray, .int .i64 1] W fun e w' => e = .returned (.tuple #[.int .i64 0, .bool true]) ∧ Below W.heap.size W w') := Lib.hid fun W hS => by
    have := find_any W a m p h.good (h.below hS).om.mat
    rwa [h.good.pid] at this
  have HL : Hid (∀ W, Below w.heap.size w W → ∀ j v, (mcL a m)[j]? = some v → W.cell? ((⟨kb, 0, none⟩ : Addr).add j) = some v) := Lib.hid fun W hS => (h.below hS).load
  have H34 : Hid (∀ W, Below w.heap.size w W → W.cell? ⟨kb, 34, none⟩ = some (.int .i64 1)) := Lib.hid fun W hS => (h.below hS).ker.cell 34
  have H5 : Hid (∀ W, Below w.heap.size w W → W.cell? ⟨kb, 5, none⟩ = some (.slice (some ⟨pb, 0, none⟩) 1 a.cP)) := Lib.hid fun W hS => by
    have := (h.below hS).ker.cell 5
    rw [this, ← h.om.aP]
    show some (Value.slice a.P m.procs.length a.cP) = _
    rw [h.good.one]; rfl
  have MI : Hid ((Tryz.prog.info? 31).map (·.size) = some (mcL a m).length) := Lib.hid Tryz.sizeMc
  clear h
  go_enter Tryz.func32, Tryz.ntmps32
  go_upto_region 1 with (fail)
  refine' wp_region_sure (by kernel_rfl) (fun W => Below w.heap.size w W) 14 [_, _, _, _, _, _, _, _, _, _, _, _, _, _] [some 6, some 7, some 8, some 9, some 10, some 11, some 12, some 13, some 14, some 5, some 15, some 16, some 3, some 4] (by kernel_rfl) (by kernel_rfl) (by kernel_rfl) (by kernel_rfl) rfl (Below.refl _ _).drew ?hs1
  case hs1 =>
    refine sure_cons ?_ ?_
    · intro L ac W K hed hJ hS hK
      have hA0 : ac.eval (.tmp 0) = .pointer (some ⟨kb, 0, none⟩) := hJ.eval_old 0 (by kernel_rfl)
      clear hed hJ
      refine opStep_of rfl ?_
      unfold Oper.wp execOp
      have hN0 := evalN hA0
      go_simp
      exact hK _ hS
    refine sure_cons ?_ ?_
    · intro L ac W K hed hJ hS hK
      have hn := needs_spec (l := [0]) (by kernel_rfl) hed
      have hA6 := hJ.eval 0 (d := 6) (hn 0 (by simp)) rfl rfl rfl
      clear hed hJ hn
      refine opStep_of rfl ?_
      unfold Oper.wp execOp
      have hN6 := evalN hA6
      go_simp
      exact hK _ hS
    refine sure_cons ?_ ?_
    · intro L ac W K hed hJ hS hK
      have hn := needs_spec (l := [1]) (by kernel_rfl) hed
      have hA7 := hJ.eval 1 (d := 7) (hn 1 (by simp)) rfl rfl rfl
      clear hed hJ hn
      refine opStep_of rfl ?_
      unfold Oper.wp execOp
      have hN7 := evalN hA7
      go_simp
      exact hK _ hS
    refine sure_cons ?_ ?_
    · intro L ac W K hed hJ hS hK
      have hn := needs_spec (l := [2]) (by kernel_rfl) hed
      have hA8 := hJ.eval 2 (d := 8) (hn 2 (by simp)) rfl rfl rfl
      clear hed hJ hn
      refine opStep_of rfl ?_
      refine oper_load_at 31 (.tmp 8) rfl ⟨kb, 0, none⟩ hA8 (mcL a m) _ (HL.out W hS) Tryz.underlying31 rfl MI.out ?_
      exact hK _ hS
    refine sure_cons ?_ ?_
    · intro L ac W K hed hJ hS hK
      have hA0 : ac.eval (.tmp 0) = .pointer (some ⟨kb, 0, none⟩) := hJ.eval_old 0 (by kernel_rfl)
      clear hed hJ
      refine opStep_of rfl ?_
      unfold Oper.wp execOp
      have hN0 := evalN hA0
      go_simp
      exact hK _ hS
    refine sure_cons ?_ ?_
    · intro L ac W K hed hJ hS hK
      have hn := needs_spec (l := [4]) (by kernel_rfl) hed
      have hA10 := hJ.eval 4 (d := 10) (hn 4 (by simp)) rfl rfl rfl
      clear hed hJ hn
      refine opStep_of rfl ?_
      unfold Oper.wp execOp
      have hN10 := evalN hA10
      go_simp
      exact hK _ hS
    refine sure_cons ?_ ?_
    · intro L ac W K hed hJ hS hK
      have hn := needs_spec (l := [5]) (by kernel_rfl) hed
      have hA11 := hJ.eval 5 (d := 11) (hn 5 (by simp)) rfl rfl rfl
      clear hed hJ hn
      refine opStep_of rfl ?_
      unfold Oper.wp execOp
      have hN11 := evalN hA11
      go_simp
      exact hK _ hS
    refine sure_cons ?_ ?_
    · intro L ac W K hed hJ hS hK
      have hn := needs_spec (l := [6]) (by kernel_rfl) hed
      have hA12 := hJ.eval 6 (d := 12) (hn 6 (by simp)) rfl rfl rfl
      clear hed hJ hn
      refine opStep_of rfl ?_
      have cc := H34.out W hS
      unfold Oper.wp execOp
      have hN12 := evalN hA12
      go_simp
      exact hK _ hS
    refine sure_cons ?_ ?_
    · intro L ac W K hed hJ hS hK
      have hn := needs_spec (l := [3, 7]) (by kernel_rfl) hed
      have hA9 := hJ.eval 3 (d := 9) (hn 3 (by simp)) rfl rfl rfl
      have hA13 := hJ.eval 7 (d := 13) (hn 7 (by simp)) rfl rfl rfl
      clear hed hJ hn
      refine opStep_of rfl ?_
      unfold Oper.wp execOp
      have hN9 := evalN hA9
      have hN13 := evalN hA13
      go_simp
      refine (CF.out W hS).mono ?_
      rintro e W' ⟨rfl, hb⟩
      have hS2 := hS.trans (hb.mono hS.size)
      dsimp only
      exact hK W' hS2
    refine sure_cons ?_ ?_
    · intro L ac W K hed hJ hS hK
      have hn := needs_spec (l := [8]) (by kernel_rfl) hed
      have hA14 := hJ.eval 8 (d := 14) (hn 8 (by simp)) rfl rfl rfl
      clear hed hJ hn
      refine opStep_of rfl ?_
      unfold Oper.wp execOp
      have hN14 := evalN hA14
      go_simp
      exact hK _ hS
    refine sure_cons ?_ ?_
    · intro L ac W K hed hJ hS hK
      have hn := needs_spec (l := [9]) (by kernel_rfl) hed
      have hA5 := hJ.eval 9 (d := 5) (hn 9 (by simp)) rfl rfl rfl
      clear hed hJ hn
      refine opStep_of rfl ?_
      unfold Oper.wp execOp
      have hN5 := evalN hA5
      go_simp
      exact hK _ hS
    refine sure_cons ?_ ?_
    · intro L ac W K hed hJ hS hK
      have hn := needs_spec (l := [9]) (by kernel_rfl) hed
      have hA5 := hJ.eval 9 (d := 5) (hn 9 (by simp)) rfl rfl rfl
      clear hed hJ hn
      refine opStep_of rfl ?_
      unfold Oper.wp execOp
      have hN5 := evalN hA5
      go_simp
      exact hK _ hS
    refine sure_cons ?_ ?_
    · intro L ac W K hed hJ hS hK
      have hn := needs_spec (l := [10]) (by kernel_rfl) hed
      have hA15 := hJ.eval 10 (d := 15) (hn 10 (by simp)) rfl rfl rfl
      clear hed hJ hn
      refine opStep_of rfl ?_
      unfold Oper.wp execOp
      have hN15 := evalN hA15
      go_simp
      exact hK _ hS
    refine sure_cons ?_ ?_
    · intro L ac W K hed hJ hS hK
      have hn := needs_spec (l := [11]) (by kernel_rfl) hed
      have hA16 := hJ.eval 11 (d := 16) (hn 11 (by simp)) rfl rfl rfl
      clear hed hJ hn
      refine opStep_of rfl ?_
      unfold Oper.wp execOp
      have hN16 := evalN hA16
      go_simp
      exact hK _ hS
    refine sure_nil ?_
    intro W hS
    simp only [putAll, Act.put, List.setIfInBounds_toArray, List.set_cons_zero, List.set_cons_succ]
    have c5 := H5.out W hS
    have HS := Lib.hid hS
    clear hS
    go_wp2_with fail
    go_ret
    exact ⟨rfl, HS.out⟩
set_option maxRecDepth 100000 in
set_option maxHeartbeats 4000000 in
theorem answer_any {w : World} {B kb : Nat} {a : MA} {m : Mc} {p : Pr} {pb : Nat} {z : List Value} {a0 : MA} {m0 : Mc} {x0 x1 x2 : Int} {tl : List UInt8} (h : KS w B kb a m p pb z a0 m0 x0 x1 x2 tl) (x : Int) (hx : inU32 x) :
    Calls Tryz.prog 25 #[.pointer (some ⟨kb, 0, none⟩), .int .u32 x] w fun e w' => e = .returned (.tuple #[]) ∧ KS w' B kb a { m with procs := [p.reg 1 x] } (p.reg 1 x) pb z a0 m0 x0 x1 x2 tl ∧ Below B w w' := by
  have HBK : Hid (B ≤ w.heap.size) := Lib.hid (by have := h.hB; have := h.kl; omega)
  have CX := Lib.hid (caller_any h)
  have HK := Lib.hid h
  obtain ⟨r, hr⟩ : ∃ r, p.regs[1]? = some r := ⟨p.regs[1]'(by rw [h.good.ok.regs]; decide), List.getElem?_eq_getElem _⟩
  have hc : (prCells p)[3 + 1]? = some (.int .u32 r) := by rw [pr_reg h.good.ok (by decide)]; unfold rgCells; rw [List.getElem?_map, hr]; rfl
  have HC := Lib.hid hc
  have HX := Lib.hid hx
  clear h hr hc hx
  go_enter Tryz.func25, Tryz.ntmps25
  go_wp2_with fail
  refine CX.out.mono ?_
  rintro e w1 ⟨rfl, hb⟩
  have HK1 := Lib.hid (HK.out.below hb)
  have c4 : w1.cell? ⟨pb, 4, none⟩ = some (.int .u32 r) := HK1.out.om.cell HC.out
  have y4 := HK1.out.pfree 4
  have HB := Lib.hid hb
  clear hb CX HK
  go_wp2_with fail
  refine bodyPost_end (v := .tuple #[]) (by simp [results, Tryz.results25, go_sem]) rfl ?_
  have hB := HK1.out.pbB
  have hkl := HK1.out.kl
  exact ⟨rfl, HK1.out.set _ 4 (.int .u32 x) (by decide) (pr_set_reg HK1.out.good.ok (i := 1) (by decide) x) (HK1.out.good.ok.setReg 1 HX.out) HK1.out.good.pid, (HB.out.mono HBK.out).setCell (p := ⟨pb, 4, none⟩) hB _⟩
set_option maxRecDepth 100000 in
set_option maxHeartbeats 4000000 in
theorem second_any {w : World} {B kb : Nat} {a : MA} {m : Mc} {p : Pr} {pb : Nat} {z : List Value} {a0 : MA} {m0 : Mc} {x0 x1 x2 : Int} {tl : List UInt8} (h : KS w B kb a m p pb z a0 m0 x0 x1 x2 tl) (x : Int) (hx : inU32 x) :
    Calls Tryz.prog 43 #[.pointer (some ⟨kb, 0, none⟩), .int .u32 x] w fun e w' => e = .returned (.tuple #[]) ∧ KS w' B kb a { m with procs := [p.reg 2 x] } (p.reg 2 x) pb z a0 m0 x0 x1 x2 tl ∧ Below B w w' := by
  have HBK : Hid (B ≤ w.heap.size) := Lib.hid (by have := h.hB; have := h.kl; omega)
  have CX := Lib.hid (caller_any h)
  have HK := Lib.hid h
  obtain ⟨r, hr⟩ : ∃ r, p.regs[2]? = some r := ⟨p.regs[2]'(by rw [h.good.ok.regs]; decide), List.getElem?_eq_getElem _⟩
  have hc : (prCells p)[3 + 2]? = some (.int .u32 r) := by rw [pr_reg h.good.ok (by decide)]; unfold rgCells; rw [List.getElem?_map, hr]; rfl
  have HC := Lib.hid hc
  have HX := Lib.hid hx
  clear h hr hc hx
  go_enter Tryz.func43, Tryz.ntmps43
  go_wp2_with fail
  refine CX.out.mono ?_
  rintro e w1 ⟨rfl, hb⟩
  have HK1 := Lib.hid (HK.out.below hb)
  have c4 : w1.cell? ⟨pb, 5, none⟩ = some (.int .u32 r) := HK1.out.om.cell HC.out
  have y4 := HK1.out.pfree 5
  have HB := Lib.hid hb
  clear hb CX HK
  go_wp2_with fail
  refine bodyPost_end (v := .tuple #[]) (by simp [results, Tryz.results43, go_sem]) rfl ?_
  have hB := HK1.out.pbB
  have hkl := HK1.out.kl
  exact ⟨rfl, HK1.out.set _ 5 (.int .u32 x) (by decide) (pr_set_reg HK1.out.good.ok (i := 2) (by decide) x) (HK1.out.good.ok.setReg 2 HX.out) HK1.out.good.pid, (HB.out.mono HBK.out).setCell (p := ⟨pb, 5, none⟩) hB _⟩
end Go.Proofs.YtdhfblfnejmeiaaGreatDoor
