/-
  Walks: the kernel's methods waitFor, file, handed, kind, free. (Printed by gen_spd.py.)
-/
import Derived.Test.YtdhfblfnejmeiaaGreatDoorSpC
namespace Go.Proofs.YtdhfblfnejmeiaaGreatDoor
open Go.RowKit

set_option maxRecDepth 100000 in
set_option maxHeartbeats 4000000 in
theorem waitFor_any {w : World} {B kb : Nat} {a : MA} {m : Mc} {p : Pr} {pb : Nat} {z : List Value} {a0 : MA} {m0 : Mc} {x0 x1 x2 : Int} {tl : List UInt8} (h : KS w B kb a m p pb z a0 m0 x0 x1 x2 tl) (wy n : Int) (hwy : inJ8 wy) (hn : inU64 n) (hpc : 4 ≤ p.pc) :
    Calls Tryz.prog 92 #[.pointer (some ⟨kb, 0, none⟩), .int .i64 wy, .int .u64 n] w fun e w' => e = .returned (.tuple #[]) ∧ KS w' B kb a { m with procs := [{ p with state := 2, why := wy, n := n, pc := p.pc - 4 }] } { p with state := 2, why := wy, n := n, pc := p.pc - 4 } pb z a0 m0 x0 x1 x2 tl ∧ Below B w w' := by
  have HBK : Hid (B ≤ w.heap.size) := Lib.hid (by have := h.hB; have := h.kl; omega)
  have CX := Lib.hid (caller_any h)
  have HK := Lib.hid h
  have HP := Lib.hid (pr_pc h.good.ok)
  have HLA := Lib.hid (pr_last h.good.ok)
  have O1 := h.good.ok.setState (x := 2) (by unfold inJ8; omega)
  have O2 := O1.setWhy hwy
  have O3 := O2.setN hn
  have hpu := h.good.ok.pc
  have O4 := O3.setPc (x := p.pc - 4) (by unfold inU32 at *; omega)
  have HO := Lib.hid (And.intro O1 (And.intro O2 (And.intro O3 O4)))
  have hw4 : IntKind.u32.wrap (p.pc - 4) = p.pc - 4 := by
    rw [IntKind.wrap_u32]; unfold inU32 at hpu; omega
  clear h hwy hn O1 O2 O3 O4 hpu
  go_enter Tryz.func92, Tryz.ntmps92
  go_upto_region 1 with (fail)
  refine CX.out.mono ?_
  rintro e w1 ⟨rfl, hb⟩
  have HK1 := Lib.hid (HK.out.below hb)
  have HB := Lib.hid hb
  have hpid := Lib.hid HK1.out.good.pid
  have HK2 := Lib.hid (HK1.out.set { p with state := 2 } 2 (.int .i64 2) (by decide) (pr_set_state p 2) HO.out.1 hpid.out)
  have HK3 := Lib.hid (HK2.out.set { p with state := 2, why := wy } 94 (.int .i64 wy) (by decide) (pr_set_why HO.out.1 wy) HO.out.2.1 hpid.out)
  have HK4 := Lib.hid (HK3.out.set { p with state := 2, why := wy, n := n } 95 (.int .u64 n) (by decide) (pr_set_n HO.out.2.1 n) HO.out.2.2.1 hpid.out)
  have HK5 := Lib.hid (HK4.out.set { p with state := 2, why := wy, n := n, pc := p.pc - 4 } 19 (.int .u32 (p.pc - 4)) (by decide) (pr_set_pc HO.out.2.2.1 (p.pc - 4)) HO.out.2.2.2 hpid.out)
  have c2 : w1.cell? ⟨pb, 2, none⟩ = some (.int .i64 p.state) := HK1.out.om.cell rfl
  have y2 := HK1.out.pfree 2
  have c94 : (w1.setCell ⟨pb, 2, none⟩ (.int .i64 2)).cell? ⟨pb, 94, none⟩ = some (.int .i64 p.why) := HK2.out.om.cell (pr_last HO.out.1 2)
  have y94 := HK2.out.pfree 94
  have c95 : ((w1.setCell ⟨pb, 2, none⟩ (.int .i64 2)).setCell ⟨pb, 94, none⟩ (.int .i64 wy)).cell? ⟨pb, 95, none⟩ = some (.int .u64 p.n) := HK3.out.om.cell (pr_last HO.out.2.1 3)
  have y95 := HK3.out.pfree 95
  have c19 : (((w1.setCell ⟨pb, 2, none⟩ (.int .i64 2)).setCell ⟨pb, 94, none⟩ (.int .i64 wy)).setCell ⟨pb, 95, none⟩ (.int .u64 n)).cell? ⟨pb, 19, none⟩ = some (.int .u32 p.pc) := HK4.out.om.cell (pr_pc HO.out.2.2.1)
  have y19 := HK4.out.pfree 19
  clear hb CX HK
  go_wp2_with fail
  refine bodyPost_end (v := .tuple #[]) (by simp [results, Tryz.results92, go_sem]) rfl ?_
  have hB := HK1.out.pbB
  exact ⟨rfl, HK5.out, ((((HB.out.mono HBK.out).setCell (p := ⟨pb, 2, none⟩) hB _).setCell (p := ⟨pb, 94, none⟩) hB _).setCell (p := ⟨pb, 95, none⟩) hB _).setCell (p := ⟨pb, 19, none⟩) hB _⟩
set_option maxRecDepth 100000 in
set_option maxHeartbeats 4000000 in
theorem file_any {w : World} {B kb : Nat} {a : MA} {m : Mc} {p : Pr} {pb : Nat} {z : List Value} {a0 : MA} {m0 : Mc} {x0 x1 x2 : Int} {tl : List UInt8} (h : KS w B kb a m p pb z a0 m0 x0 x1 x2 tl) (k : Nat) (hk : k < 8) (f : Fl) (hf : p.fds[k]? = some f) (hfk : f.kind ≠ 0) :
    Calls Tryz.prog 78 #[.pointer (some ⟨kb, 0, none⟩), .int .u32 (k : Int)] w fun e w' => e = .returned (.tuple #[.pointer (some ⟨pb, 68 + k * 3, none⟩), .bool true]) ∧ Below w.heap.size w w' := by
  have CX := Lib.hid (caller_any h)
  have HK := Lib.hid h
  have HF := Lib.hid hf
  clear h hf
  have d1 : decide ((8 : Int) ≤ (k : Int)) = false := decide_eq_false (by omega)
  have i0 : (0 : Int) ≤ (k : Int) := by omega
  have i1 : (k : Int) < 8 := by omega
  have d2 : (f.kind == 0) = false := beq_eq_false_iff_ne.2 hfk
  go_enter Tryz.func78, Tryz.ntmps78
  go_upto_region 1 with (fail)
  go_upto_region 2 with (fail)
  refine CX.out.mono ?_
  rintro e w1 ⟨rfl, hb⟩
  have HK1 := Lib.hid (HK.out.below hb)
  have HB := Lib.hid hb
  have c0 : w1.cell? ⟨pb, 68 + k * 3, none⟩ = some (.int .i64 f.kind) := HK1.out.fdc HF.out (j := 0) (by decide) rfl
  clear hb CX HK
  go_wp2_with fail
  refine bodyPost_ret (v := .tuple #[.pointer (some ⟨pb, 68 + k * 3, none⟩), .bool true]) (by simp [results, Tryz.results78, go_sem]) rfl ?_

  exact ⟨rfl, HB.out⟩
set_option maxRecDepth 100000 in
set_option maxHeartbeats 4000000 in
theorem handed_any {w : World} {B kb : Nat} {a : MA} {m : Mc} {p : Pr} {pb : Nat} {z : List Value} {a0 : MA} {m0 : Mc} {x1 : Int} {k n : Nat} {tl : List UInt8} (h : KS w B kb a m p pb z a0 m0 (k : Int) x1 (n : Int) tl) (hk : k < 8) (hn : n ≤ 128) (f : Fl) (hf : p.fds[k]? = some f) (hfk : f.kind ≠ 0) :
    Calls Tryz.prog 66 #[.pointer (some ⟨kb, 0, none⟩)] w fun e w' => e = .returned (.tuple #[.pointer (some ⟨pb, 68 + k * 3, none⟩), .int .i64 (n : Int)]) ∧ Below w.heap.size w w' := by
  have CX := Lib.hid (file_any h k hk f hf hfk)
  have HK := Lib.hid h
  have c35 : w.cell? ⟨kb, 35, none⟩ = some (.int .u32 (k : Int)) := h.ker.cell 35
  have HN := Lib.hid (fun W v c => need_any W v c)
  clear h hf
  have d1 : decide ((n : Int) ≤ 128) = true := decide_eq_true (by omega)
  have d1' : decide (n ≤ 128) = true := decide_eq_true (by omega)
  have cv : IntKind.i64.wrap (n : Int) = (n : Int) := by rw [IntKind.wrap_i64]; omega
  go_enter Tryz.func66, Tryz.ntmps66
  go_upto_region 2 with (fail)
  refine CX.out.mono ?_
  rintro e w1 ⟨rfl, hb⟩
  have HK1 := Lib.hid (HK.out.below hb)
  have HB := Lib.hid hb
  have c37 : w1.cell? ⟨kb, 37, none⟩ = some (.int .u32 (n : Int)) := HK1.out.ker.cell 37
  clear hb CX HK c35
  go_upto_region 3 with (fail)
  refine (HN.out _ _ _).mono ?_
  rintro e w2 ⟨rfl, rfl⟩
  go_upto_region 3 with (fail)
  refine' wp_region_sure (by kernel_rfl) (fun W => Below w2.heap.size w2 W) 9 [_, _, _, _, _, _, _, _, _] [some 27, some 28, some 29, some 30, some 31, some 32, some 33, some 2, some 3] (by kernel_rfl) (by kernel_rfl) (by kernel_rfl) (by kernel_rfl) rfl (Below.refl _ _).drew ?hs1
  case hs1 =>
    refine sure_cons ?_ ?_
    · intro L ac W K hed hJ hS hK
      have hA4 : ac.eval (.tmp 4) = .pointer (some ⟨pb, 68 + k * 3, none⟩) := hJ.eval_old 4 (by kernel_rfl)
      clear hed hJ
      refine opStep_of rfl ?_
      unfold Oper.wp execOp
      have hN4 := evalN hA4
      go_simp
      exact hK _ hS
    refine sure_cons ?_ ?_
    · intro L ac W K hed hJ hS hK
      have hA0 : ac.eval (.tmp 0) = .pointer (some ⟨kb, 0, none⟩) := hJ.eval_old 0 (by kernel_rfl)
      clear hed hJ
      refine opStep_of rfl ?_
      unfold Oper.wp execOp
      have hN0 := evalN hA0
      go_simp
      exact hK _ hS
    refine sure_cons ?_ ?_
    · intro L ac W K hed hJ hS hK
      have hn := needs_spec (l := [1]) (by kernel_rfl) hed
      have hA28 := hJ.eval 1 (d := 28) (hn 1 (by simp)) rfl rfl rfl
      clear hed hJ hn
      refine opStep_of rfl ?_
      unfold Oper.wp execOp
      have hN28 := evalN hA28
      go_simp
      exact hK _ hS
    refine sure_cons ?_ ?_
    · intro L ac W K hed hJ hS hK
      have hn := needs_spec (l := [2]) (by kernel_rfl) hed
      have hA29 := hJ.eval 2 (d := 29) (hn 2 (by simp)) rfl rfl rfl
      clear hed hJ hn
      refine opStep_of rfl ?_
      unfold Oper.wp execOp
      have hN29 := evalN hA29
      go_simp
      exact hK _ hS
    refine sure_cons ?_ ?_
    · intro L ac W K hed hJ hS hK
      have hn := needs_spec (l := [3]) (by kernel_rfl) hed
      have hA30 := hJ.eval 3 (d := 30) (hn 3 (by simp)) rfl rfl rfl
      clear hed hJ hn
      refine opStep_of rfl ?_
      unfold Oper.wp execOp
      have hN30 := evalN hA30
      go_simp
      exact hK _ hS
    refine sure_cons ?_ ?_
    · intro L ac W K hed hJ hS hK
      have hn := needs_spec (l := [4]) (by kernel_rfl) hed
      have hA31 := hJ.eval 4 (d := 31) (hn 4 (by simp)) rfl rfl rfl
      clear hed hJ hn
      refine opStep_of rfl ?_
      have cc : W.cell? ⟨kb, 37, none⟩ = some (.int .u32 (n : Int)) := (hS.cell (p := ⟨kb, 37, none⟩) HK1.out.kl).trans c37
      unfold Oper.wp execOp
      have hN31 := evalN hA31
      go_simp
      exact hK _ hS
    refine sure_cons ?_ ?_
    · intro L ac W K hed hJ hS hK
      have hn := needs_spec (l := [5]) (by kernel_rfl) hed
      have hA32 := hJ.eval 5 (d := 32) (hn 5 (by simp)) rfl rfl rfl
      clear hed hJ hn
      refine opStep_of rfl ?_
      unfold Oper.wp execOp
      have hN32 := evalN hA32
      go_simp
      exact hK _ hS
    refine sure_cons ?_ ?_
    · intro L ac W K hed hJ hS hK
      have hn := needs_spec (l := [0]) (by kernel_rfl) hed
      have hA27 := hJ.eval 0 (d := 27) (hn 0 (by simp)) rfl rfl rfl
      clear hed hJ hn
      refine opStep_of rfl ?_
      unfold Oper.wp execOp
      have hN27 := evalN hA27
      go_simp
      exact hK _ hS
    refine sure_cons ?_ ?_
    · intro L ac W K hed hJ hS hK
      have hn := needs_spec (l := [6]) (by kernel_rfl) hed
      have hA33 := hJ.eval 6 (d := 33) (hn 6 (by simp)) rfl rfl rfl
      clear hed hJ hn
      refine opStep_of rfl ?_
      unfold Oper.wp execOp
      have hN33 := evalN hA33
      go_simp
      exact hK _ hS
    refine sure_nil ?_
    intro W hS
    simp only [putAll, Act.put, List.setIfInBounds_toArray, List.set_cons_zero, List.set_cons_succ]
    have HS := Lib.hid hS
    clear hS
    go_wp2_with fail
    refine bodyPost_ret (v := .tuple #[.pointer (some ⟨pb, 68 + k * 3, none⟩), .int .i64 (n : Int)]) (by simp [results, Tryz.results66, go_sem]) rfl ?_
    exact ⟨rfl, HB.out.trans (HS.out.mono HB.out.size)⟩
set_option maxRecDepth 100000 in
set_option maxHeartbeats 1000000 in
theorem indexi_any (w : World) (A : Option Addr) (c : Nat) (l : List Int) (hA : Lies w w.heap.size A (l.map fun n => Value.int .i64 n)) (hn : l.length ≤ 1000) (v : Int) (hv : v ∈ l) :
    Calls Tryz.prog 159 #[.slice A l.length c, .int .i64 v] w fun e w' => (∃ k : Int, e = .returned (.int .i64 k) ∧ decide (0 ≤ k) = true) ∧ Below w.heap.size w w' := by
  have HA := Lib.hid hA
  have HM := Lib.hid hv
  clear hA hv
  go_enter Tryz.func159, Tryz.ntmps159
  go_wp2_with fail
  go_loopw [8] (fun i wr => ∃ k : Nat, k ≤ l.length ∧ i = .int .i64 k ∧ Hid (v ∉ l.take k) ∧ Hid (Below w.heap.size w wr)) (fun i _ => l.length - (intOf i).toNat)
  case atStart => exact ⟨0, by omega, rfl, Lib.hid (by simp), Lib.hid (Below.refl _ _)⟩
  case round =>
    obtain ⟨k, hk, rfl, HN, HWR⟩ := hrel
    by_cases hlt : k < l.length
    · obtain ⟨x, hx⟩ : ∃ x, l[k]? = some x := ⟨l[k], List.getElem?_eq_getElem hlt⟩
      obtain ⟨ad, rfl, _, hc⟩ := Lies.below HA.out HWR.out k (.int .i64 x) (by rw [List.getElem?_map, hx]; rfl)
      have i0 : (0 : Int) ≤ (k : Int) := by omega
      have i1 : (k : Int) < (l.length : Int) := by omega
      have HX := Lib.hid hx
      clear hx
      cases hq : (v == x) with
      | true =>
        go_wp2_with fail
        go_ret
        exact ⟨⟨k, rfl, by simp⟩, HWR.out⟩
      | false =>
        have HQ := Lib.hid hq
        go_wp2_with fail
        go_roundw
        case rel =>
          have R : ∃ k' : Nat, k' ≤ l.length ∧ Value.int .i64 ((k : Int) + 1) = .int .i64 k' ∧ Hid (v ∉ l.take k') ∧ Hid (Below w.heap.size w wr) := ⟨k + 1, by omega, by go_num, Lib.hid (by
            rw [List.take_add_one, HX.out]
            simp only [Option.toList_some, List.mem_append, List.mem_singleton, not_or]
            exact ⟨HN.out, beq_eq_false_iff_ne.1 HQ.out⟩), HWR⟩
          first | exact R | ((repeat apply Exists.intro); exact ⟨R, rfl⟩)
        case measure => simp [intOf]; omega
    · obtain rfl : k = l.length := by omega
      rw [List.take_of_length_le (Nat.le_refl _)] at HN
      exact absurd HM.out HN.out
set_option maxRecDepth 100000 in
set_option maxHeartbeats 1000000 in
theorem containsi_any (w : World) (A : Option Addr) (c : Nat) (l : List Int) (hA : Lies w w.heap.size A (l.map fun n => Value.int .i64 n)) (hn : l.length ≤ 1000) (v : Int) (hv : v ∈ l) :
    Calls Tryz.prog 109 #[.slice A l.length c, .int .i64 v] w fun e w' => e = .returned (.bool true) ∧ Below w.heap.size w w' := by
  have CX := Lib.hid (indexi_any w A c l hA hn v hv)
  clear hA hv
  go_enter Tryz.func109, Tryz.ntmps109
  go_wp2_with fail
  refine CX.out.mono ?_
  rintro e w1 ⟨⟨k, rfl, hk⟩, hb⟩
  have HB := Lib.hid hb
  clear hb
  go_wp2_with fail
  go_ret
  exact ⟨rfl, HB.out⟩
set_option maxRecDepth 100000 in
set_option maxHeartbeats 1000000 in
theorem kind_any (w : World) (A : Option Addr) (c : Nat) (l : List Int) (hA : Lies w w.heap.size A (l.map fun n => Value.int .i64 n)) (hn : l.length ≤ 1000) (f : Fl) (hv : f.kind ∈ l) (kv : Value) (pb o : Nat) (hc : w.cell? ⟨pb, o, none⟩ = some (.int .i64 f.kind)) :
    Calls Tryz.prog 67 #[kv, .pointer (some ⟨pb, o, none⟩), .slice A l.length c] w fun e w' => e = .returned (.tuple #[]) ∧ Below w.heap.size w w' := by
  have CX := Lib.hid (containsi_any w A c l hA hn f.kind hv)
  have HN := Lib.hid (fun W v c => need_any W v c)
  have c0 : w.cell? ⟨pb, o, none⟩ = some (.int .i64 f.kind) := hc
  clear hA hv hc
  go_enter Tryz.func67, Tryz.ntmps67
  go_wp2_with fail
  refine CX.out.mono ?_
  rintro e w1 ⟨rfl, hb⟩
  have HB := Lib.hid hb
  clear hb
  go_wp2_with fail
  refine (HN.out _ _ _).mono ?_
  rintro e w2 ⟨rfl, rfl⟩
  go_wp2_with fail
  refine bodyPost_end (v := .tuple #[]) (by simp [results, Tryz.results67, go_sem]) rfl ?_
  exact ⟨rfl, HB.out⟩
end Go.Proofs.YtdhfblfnejmeiaaGreatDoor
