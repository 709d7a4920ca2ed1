/-
  Walks: hibernacleref32.proc, rest. (Printed by gen_restc.py.)
-/
import Derived.Test.YtmmfcjkabpffeaaGreatDoorRestB
namespace Go.Proofs.YtmmfcjkabpffeaaGreatDoor
open Go.RowKit

theorem Tryz.sizeCpu : (Tryz.prog.info? 58).map (·.size) = some 17 := by kernel_rfl
theorem cpuL_length {p : Pr} (hp : PrOk p) : (cpuL p).length = 17 := by simp [cpuL, rgCells, hp.regs]
theorem pr_lasts {w : World} {g : Nat} {t : TypeId} {p : Pr} (hp : PrOk p) (h : Whole w g t (prCells p).toArray) :
    w.cell? ⟨g, 92, none⟩ = some (.bool p.mask) ∧ w.cell? ⟨g, 93, none⟩ = some (.int .u32 p.code) ∧ w.cell? ⟨g, 94, none⟩ = some (.int .i64 p.why) ∧ w.cell? ⟨g, 95, none⟩ = some (.int .u64 p.n) :=
  ⟨h.reads 92 _ (pr_last hp 0), h.reads 93 _ (pr_last hp 1), h.reads 94 _ (pr_last hp 2), h.reads 95 _ (pr_last hp 3)⟩
theorem u64_nat {r : Int} (h : inU64 r) : ∃ n : Nat, r = (n : Int) ∧ n < 18446744073709551616 := ⟨r.toNat, by unfold inU64 at h; omega, by unfold inU64 at h; omega⟩
theorem rrow_made (w : World) (ls : List (List UInt8)) (h : sizeOf ls ≤ 34359738368) :
    Calls Tryz.prog 68 #[.slice (some ⟨w.heap.size, 0, none⟩) ls.length ls.length] (w.alloc (.cells (ls.map S).toArray 9)) fun e w' => e = .returned (S (rowB ls)) ∧ Below w.heap.size w w' :=
  (rrow_any (w.alloc (.cells (ls.map S).toArray 9)) (some ⟨w.heap.size, 0, none⟩) ls.length ls (lies_made w 9 (ls.map S) _ (by simp)) h).mono fun e w' hw => ⟨hw.1, ((Below.refl w.heap.size w).alloc (Nat.le_refl _) _).trans (hw.2.mono (by simp))⟩
theorem row_made (w : World) (ls : List (List UInt8)) (h : sizeOf ls ≤ 34359738368) :
    Calls Tryz.prog 28 #[.slice (some ⟨w.heap.size, 0, none⟩) ls.length ls.length] (w.alloc (.cells (ls.map S).toArray 9)) fun e w' => e = .returned (S (rowB ls)) ∧ Below w.heap.size w w' :=
  (row_any (w.alloc (.cells (ls.map S).toArray 9)) (some ⟨w.heap.size, 0, none⟩) ls.length ls (lies_made w 9 (ls.map S) _ (by simp)) h).mono fun e w' hw => ⟨hw.1, ((Below.refl w.heap.size w).alloc (Nat.le_refl _) _).trans (hw.2.mono (by simp))⟩
set_option maxRecDepth 100000 in
set_option maxHeartbeats 4000000 in
theorem rproc32_any (w : World) (p : Pr) (hp : PrOk p) :
    Calls Tryz.prog 67 #[.agg (prCells p).toArray] w fun e w' => e = .returned (S (procRow p)) ∧ Below w.heap.size w w' := by
  have hs0 := Whole.made w 67 (prCells p).toArray
  have hb : Below w.heap.size w (w.alloc (.cells (prCells p).toArray 67)) := (Below.refl _ _).alloc (Nat.le_refl _) _
  go_enter Tryz.func67, Tryz.ntmps67
  go_upto_region 1 with (fail)
  change Code.wp _ _ _ _ (w.alloc (.cells (prCells p).toArray 67))
  generalize (w.alloc (.cells (prCells p).toArray 67)) = w1 at *
  generalize hgx : w.heap.size = gx at *
  have HGX := Lib.hid hgx
  have HS0 := Lib.hid hs0
  have HW := Lib.hid hb
  have hgl : gx < w1.heap.size := hs0.lt
  clear hgx hb hs0
  have HP := Lib.hid hp
  have HCL : Hid (∀ W, Below w1.heap.size w1 W → Whole W gx 67 (prCells p).toArray) := Lib.hid fun W hW => HS0.out.below hW hgl
  have HLS := Lib.hid (fun W hW => pr_lasts HP.out (HCL.out W hW))
  have SCP : Hid ((Tryz.prog.info? 58).map (·.size) = some (cpuL p).length) := Lib.hid (by rw [cpuL_length hp]; exact Tryz.sizeCpu)
  have SSP : Hid ((Tryz.prog.info? 62).map (·.size) = some (pgCells p.space).length) := Lib.hid (by rw [pgCells_length, hp.space]; exact Tryz.sizeSpace)
  have SFS : Hid ((Tryz.prog.info? 65).map (·.size) = some (flCells p.fds).length) := Lib.hid (by rw [flCells_length, hp.fds]; exact Tryz.sizeFds)
  obtain ⟨cn, hcn, hcl⟩ := u32_nat hp.code
  obtain ⟨nn, hnn, hnl⟩ := u64_nat hp.n
  have HR : Hid (procRow p = rowB [Lib.itoa p.pid, Lib.itoa p.parent, Lib.itoa p.state, cpuB p, p.space.flatMap pgB, p.fds.flatMap flB, flagL p.mask, putL cn 4, Lib.itoa p.why, putL nn 8]) := Lib.hid (by
    unfold procRow procL
    rw [show p.code.toNat = cn by omega, show p.n.toNat = nn by omega])
  have HSZ : Hid (sizeOf [Lib.itoa p.pid, Lib.itoa p.parent, Lib.itoa p.state, cpuB p, p.space.flatMap pgB, p.fds.flatMap flB, flagL p.mask, putL cn 4, Lib.itoa p.why, putL nn 8] ≤ 34359738368) := Lib.hid (by
    have h : sizeOf (procL p) ≤ 400 := proc_size hp
    unfold procL at h
    rw [show p.code.toNat = cn by omega, show p.n.toNat = nn by omega] at h
    exact Nat.le_trans h (by decide))
  rw [hcn, hnn] at HLS
  have m1 : IntKind.u64.wrap (cn : Int) = (cn : Int) := by rw [IntKind.wrap_u64]; omega
  have C1 := Lib.hid (fun W : World => rdec32_any W p.pid HP.out.pid)
  have C2 := Lib.hid (fun W : World => rdec32_any W p.parent HP.out.parent)
  have C3 := Lib.hid (fun W : World => rdec32_any W p.state HP.out.state)
  have C4 := Lib.hid (fun W : World => rcpu_any W p HP.out)
  have C5 := Lib.hid (fun W : World => rspace_any W p.space HP.out.space HP.out.page)
  have C6 := Lib.hid (fun W : World => rfds_any W p.fds HP.out.fds HP.out.fd)
  have C7 := Lib.hid (fun W : World => rflag32_any W p.mask)
  have C8 := Lib.hid (fun W : World => rput_any W cn 4 (by omega) (by omega))
  have C9 := Lib.hid (fun W : World => rdec32_any W p.why HP.out.why)
  have C10 := Lib.hid (fun W : World => rput_any W nn 8 (by omega) (by omega))
  clear hcn hnn hp
  generalize Lib.itoa p.pid = x1 at *
  generalize Lib.itoa p.parent = x2 at *
  generalize Lib.itoa p.state = x3 at *
  generalize cpuB p = x4 at *
  generalize p.space.flatMap pgB = x5 at *
  generalize p.fds.flatMap flB = x6 at *
  generalize flagL p.mask = x7 at *
  generalize putL cn 4 = x8 at *
  generalize Lib.itoa p.why = x9 at *
  generalize putL nn 8 = x10 at *
  refine' wp_region_sure (by kernel_rfl) (fun W => Below w1.heap.size w1 W) 31 [_, _, _, _, _, _, _, _, _, _, _, _, _, _, _, _, _, _, _, _, _, _, _, _, _, _, _, _, _, _, _] [some 3, some 4, some 5, some 6, some 7, some 8, some 9, some 10, some 11, some 12, some 13, some 14, some 15, some 16, some 17, some 18, some 19, some 20, some 21, some 22, some 23, some 24, some 25, some 26, some 27, some 28, some 29, some 30, some 31, some 32, some 33] (by kernel_rfl) (by kernel_rfl) (by kernel_rfl) (by kernel_rfl) rfl (Below.refl _ _).drew ?hs1
  case hs1 =>
    refine sure_cons ?_ ?_
    · intro L ac W K hed hJ hS hK
      have hA1 : ac.eval (.tmp 1) = .pointer (some ⟨gx, 0, none⟩) := hJ.eval_old 1 (by kernel_rfl)
      clear hed hJ
      refine opStep_of rfl ?_
      unfold Oper.wp execOp
      have hN1 := evalN hA1
      go_simp
      exact hK _ hS
    refine sure_cons ?_ ?_
    · intro L ac W K hed hJ hS hK
      have hn := needs_spec (l := [0]) (by kernel_rfl) hed
      have hA3 := hJ.eval 0 (d := 3) (hn 0 (by simp)) rfl rfl rfl
      clear hed hJ hn
      refine opStep_of rfl ?_
      have cc : W.cell? ⟨gx, 0, none⟩ = some (.int .i64 p.pid) := (HCL.out W hS).cell 0
      unfold Oper.wp execOp
      have hN3 := evalN hA3
      go_simp
      exact hK _ hS
    refine sure_cons ?_ ?_
    · intro L ac W K hed hJ hS hK
      have hn := needs_spec (l := [1]) (by kernel_rfl) hed
      have hA4 := hJ.eval 1 (d := 4) (hn 1 (by simp)) rfl rfl rfl
      clear hed hJ hn
      refine opStep_of rfl ?_
      unfold Oper.wp execOp
      have hN4 := evalN hA4
      go_simp
      refine (C1.out W).mono ?_
      rintro e W' ⟨rfl, hb⟩
      have hS2 := hS.trans (hb.mono hS.size)
      dsimp only
      exact hK W' hS2
    refine sure_cons ?_ ?_
    · intro L ac W K hed hJ hS hK
      have hA1 : ac.eval (.tmp 1) = .pointer (some ⟨gx, 0, none⟩) := hJ.eval_old 1 (by kernel_rfl)
      clear hed hJ
      refine opStep_of rfl ?_
      unfold Oper.wp execOp
      have hN1 := evalN hA1
      go_simp
      exact hK _ hS
    refine sure_cons ?_ ?_
    · intro L ac W K hed hJ hS hK
      have hn := needs_spec (l := [3]) (by kernel_rfl) hed
      have hA6 := hJ.eval 3 (d := 6) (hn 3 (by simp)) rfl rfl rfl
      clear hed hJ hn
      refine opStep_of rfl ?_
      have cc : W.cell? ⟨gx, 1, none⟩ = some (.int .i64 p.parent) := (HCL.out W hS).cell 1
      unfold Oper.wp execOp
      have hN6 := evalN hA6
      go_simp
      exact hK _ hS
    refine sure_cons ?_ ?_
    · intro L ac W K hed hJ hS hK
      have hn := needs_spec (l := [4]) (by kernel_rfl) hed
      have hA7 := hJ.eval 4 (d := 7) (hn 4 (by simp)) rfl rfl rfl
      clear hed hJ hn
      refine opStep_of rfl ?_
      unfold Oper.wp execOp
      have hN7 := evalN hA7
      go_simp
      refine (C2.out W).mono ?_
      rintro e W' ⟨rfl, hb⟩
      have hS2 := hS.trans (hb.mono hS.size)
      dsimp only
      exact hK W' hS2
    refine sure_cons ?_ ?_
    · intro L ac W K hed hJ hS hK
      have hA1 : ac.eval (.tmp 1) = .pointer (some ⟨gx, 0, none⟩) := hJ.eval_old 1 (by kernel_rfl)
      clear hed hJ
      refine opStep_of rfl ?_
      unfold Oper.wp execOp
      have hN1 := evalN hA1
      go_simp
      exact hK _ hS
    refine sure_cons ?_ ?_
    · intro L ac W K hed hJ hS hK
      have hn := needs_spec (l := [6]) (by kernel_rfl) hed
      have hA9 := hJ.eval 6 (d := 9) (hn 6 (by simp)) rfl rfl rfl
      clear hed hJ hn
      refine opStep_of rfl ?_
      have cc : W.cell? ⟨gx, 2, none⟩ = some (.int .i64 p.state) := (HCL.out W hS).cell 2
      unfold Oper.wp execOp
      have hN9 := evalN hA9
      go_simp
      exact hK _ hS
    refine sure_cons ?_ ?_
    · intro L ac W K hed hJ hS hK
      have hn := needs_spec (l := [7]) (by kernel_rfl) hed
      have hA10 := hJ.eval 7 (d := 10) (hn 7 (by simp)) rfl rfl rfl
      clear hed hJ hn
      refine opStep_of rfl ?_
      unfold Oper.wp execOp
      have hN10 := evalN hA10
      go_simp
      refine (C3.out W).mono ?_
      rintro e W' ⟨rfl, hb⟩
      have hS2 := hS.trans (hb.mono hS.size)
      dsimp only
      exact hK W' hS2
    refine sure_cons ?_ ?_
    · intro L ac W K hed hJ hS hK
      have hA1 : ac.eval (.tmp 1) = .pointer (some ⟨gx, 0, none⟩) := hJ.eval_old 1 (by kernel_rfl)
      clear hed hJ
      refine opStep_of rfl ?_
      unfold Oper.wp execOp
      have hN1 := evalN hA1
      go_simp
      exact hK _ hS
    refine sure_cons ?_ ?_
    · intro L ac W K hed hJ hS hK
      have hn := needs_spec (l := [9]) (by kernel_rfl) hed
      have hA12 := hJ.eval 9 (d := 12) (hn 9 (by simp)) rfl rfl rfl
      clear hed hJ hn
      refine opStep_of rfl ?_
      refine oper_load_at 58 (.tmp 12) rfl ⟨gx, 3, none⟩ hA12 (cpuL p) _ (pr_cpu_cells HP.out (HCL.out W hS)) Tryz.underlying58 rfl SCP.out ?_
      exact hK _ hS
    refine sure_cons ?_ ?_
    · intro L ac W K hed hJ hS hK
      have hn := needs_spec (l := [10]) (by kernel_rfl) hed
      have hA13 := hJ.eval 10 (d := 13) (hn 10 (by simp)) rfl rfl rfl
      clear hed hJ hn
      refine opStep_of rfl ?_
      unfold Oper.wp execOp
      have hN13 := evalN hA13
      go_simp
      refine (C4.out W).mono ?_
      rintro e W' ⟨rfl, hb⟩
      have hS2 := hS.trans (hb.mono hS.size)
      dsimp only
      exact hK W' hS2
    refine sure_cons ?_ ?_
    · intro L ac W K hed hJ hS hK
      have hA1 : ac.eval (.tmp 1) = .pointer (some ⟨gx, 0, none⟩) := hJ.eval_old 1 (by kernel_rfl)
      clear hed hJ
      refine opStep_of rfl ?_
      unfold Oper.wp execOp
      have hN1 := evalN hA1
      go_simp
      exact hK _ hS
    refine sure_cons ?_ ?_
    · intro L ac W K hed hJ hS hK
      have hn := needs_spec (l := [12]) (by kernel_rfl) hed
      have hA15 := hJ.eval 12 (d := 15) (hn 12 (by simp)) rfl rfl rfl
      clear hed hJ hn
      refine opStep_of rfl ?_
      refine oper_load_at 62 (.tmp 15) rfl ⟨gx, 20, none⟩ hA15 (pgCells p.space) _ (pr_space_cells HP.out (HCL.out W hS)) Tryz.underlying62 rfl SSP.out ?_
      exact hK _ hS
    refine sure_cons ?_ ?_
    · intro L ac W K hed hJ hS hK
      have hn := needs_spec (l := [13]) (by kernel_rfl) hed
      have hA16 := hJ.eval 13 (d := 16) (hn 13 (by simp)) rfl rfl rfl
      clear hed hJ hn
      refine opStep_of rfl ?_
      unfold Oper.wp execOp
      have hN16 := evalN hA16
      go_simp
      refine (C5.out W).mono ?_
      rintro e W' ⟨rfl, hb⟩
      have hS2 := hS.trans (hb.mono hS.size)
      dsimp only
      exact hK W' hS2
    refine sure_cons ?_ ?_
    · intro L ac W K hed hJ hS hK
      have hA1 : ac.eval (.tmp 1) = .pointer (some ⟨gx, 0, none⟩) := hJ.eval_old 1 (by kernel_rfl)
      clear hed hJ
      refine opStep_of rfl ?_
      unfold Oper.wp execOp
      have hN1 := evalN hA1
      go_simp
      exact hK _ hS
    refine sure_cons ?_ ?_
    · intro L ac W K hed hJ hS hK
      have hn := needs_spec (l := [15]) (by kernel_rfl) hed
      have hA18 := hJ.eval 15 (d := 18) (hn 15 (by simp)) rfl rfl rfl
      clear hed hJ hn
      refine opStep_of rfl ?_
      refine oper_load_at 65 (.tmp 18) rfl ⟨gx, 68, none⟩ hA18 (flCells p.fds) _ (pr_fds_cells HP.out (HCL.out W hS)) Tryz.underlying65 rfl SFS.out ?_
      exact hK _ hS
    refine sure_cons ?_ ?_
    · intro L ac W K hed hJ hS hK
      have hn := needs_spec (l := [16]) (by kernel_rfl) hed
      have hA19 := hJ.eval 16 (d := 19) (hn 16 (by simp)) rfl rfl rfl
      clear hed hJ hn
      refine opStep_of rfl ?_
      unfold Oper.wp execOp
      have hN19 := evalN hA19
      go_simp
      refine (C6.out W).mono ?_
      rintro e W' ⟨rfl, hb⟩
      have hS2 := hS.trans (hb.mono hS.size)
      dsimp only
      exact hK W' hS2
    refine sure_cons ?_ ?_
    · intro L ac W K hed hJ hS hK
      have hA1 : ac.eval (.tmp 1) = .pointer (some ⟨gx, 0, none⟩) := hJ.eval_old 1 (by kernel_rfl)
      clear hed hJ
      refine opStep_of rfl ?_
      unfold Oper.wp execOp
      have hN1 := evalN hA1
      go_simp
      exact hK _ hS
    refine sure_cons ?_ ?_
    · intro L ac W K hed hJ hS hK
      have hn := needs_spec (l := [18]) (by kernel_rfl) hed
      have hA21 := hJ.eval 18 (d := 21) (hn 18 (by simp)) rfl rfl rfl
      clear hed hJ hn
      refine opStep_of rfl ?_
      have cc : W.cell? ⟨gx, 92, none⟩ = some (.bool p.mask) := (HLS.out W hS).1
      unfold Oper.wp execOp
      have hN21 := evalN hA21
      go_simp
      exact hK _ hS
    refine sure_cons ?_ ?_
    · intro L ac W K hed hJ hS hK
      have hn := needs_spec (l := [19]) (by kernel_rfl) hed
      have hA22 := hJ.eval 19 (d := 22) (hn 19 (by simp)) rfl rfl rfl
      clear hed hJ hn
      refine opStep_of rfl ?_
      unfold Oper.wp execOp
      have hN22 := evalN hA22
      go_simp
      refine (C7.out W).mono ?_
      rintro e W' ⟨rfl, hb⟩
      have hS2 := hS.trans (hb.mono hS.size)
      dsimp only
      exact hK W' hS2
    refine sure_cons ?_ ?_
    · intro L ac W K hed hJ hS hK
      have hA1 : ac.eval (.tmp 1) = .pointer (some ⟨gx, 0, none⟩) := hJ.eval_old 1 (by kernel_rfl)
      clear hed hJ
      refine opStep_of rfl ?_
      unfold Oper.wp execOp
      have hN1 := evalN hA1
      go_simp
      exact hK _ hS
    refine sure_cons ?_ ?_
    · intro L ac W K hed hJ hS hK
      have hn := needs_spec (l := [21]) (by kernel_rfl) hed
      have hA24 := hJ.eval 21 (d := 24) (hn 21 (by simp)) rfl rfl rfl
      clear hed hJ hn
      refine opStep_of rfl ?_
      have cc : W.cell? ⟨gx, 93, none⟩ = some (.int .u32 (cn : Int)) := (HLS.out W hS).2.1
      unfold Oper.wp execOp
      have hN24 := evalN hA24
      go_simp
      exact hK _ hS
    refine sure_cons ?_ ?_
    · intro L ac W K hed hJ hS hK
      have hn := needs_spec (l := [22]) (by kernel_rfl) hed
      have hA25 := hJ.eval 22 (d := 25) (hn 22 (by simp)) rfl rfl rfl
      clear hed hJ hn
      refine opStep_of rfl ?_
      unfold Oper.wp execOp
      have hN25 := evalN hA25
      go_simp
      exact hK _ hS
    refine sure_cons ?_ ?_
    · intro L ac W K hed hJ hS hK
      have hn := needs_spec (l := [23]) (by kernel_rfl) hed
      have hA26 := hJ.eval 23 (d := 26) (hn 23 (by simp)) rfl rfl rfl
      clear hed hJ hn
      refine opStep_of rfl ?_
      unfold Oper.wp execOp
      have hN26 := evalN hA26
      go_simp
      refine (C8.out W).mono ?_
      rintro e W' ⟨rfl, hb⟩
      have hS2 := hS.trans (hb.mono hS.size)
      dsimp only
      exact hK W' hS2
    refine sure_cons ?_ ?_
    · intro L ac W K hed hJ hS hK
      have hA1 : ac.eval (.tmp 1) = .pointer (some ⟨gx, 0, none⟩) := hJ.eval_old 1 (by kernel_rfl)
      clear hed hJ
      refine opStep_of rfl ?_
      unfold Oper.wp execOp
      have hN1 := evalN hA1
      go_simp
      exact hK _ hS
    refine sure_cons ?_ ?_
    · intro L ac W K hed hJ hS hK
      have hn := needs_spec (l := [25]) (by kernel_rfl) hed
      have hA28 := hJ.eval 25 (d := 28) (hn 25 (by simp)) rfl rfl rfl
      clear hed hJ hn
      refine opStep_of rfl ?_
      have cc : W.cell? ⟨gx, 94, none⟩ = some (.int .i64 p.why) := (HLS.out W hS).2.2.1
      unfold Oper.wp execOp
      have hN28 := evalN hA28
      go_simp
      exact hK _ hS
    refine sure_cons ?_ ?_
    · intro L ac W K hed hJ hS hK
      have hn := needs_spec (l := [26]) (by kernel_rfl) hed
      have hA29 := hJ.eval 26 (d := 29) (hn 26 (by simp)) rfl rfl rfl
      clear hed hJ hn
      refine opStep_of rfl ?_
      unfold Oper.wp execOp
      have hN29 := evalN hA29
      go_simp
      refine (C9.out W).mono ?_
      rintro e W' ⟨rfl, hb⟩
      have hS2 := hS.trans (hb.mono hS.size)
      dsimp only
      exact hK W' hS2
    refine sure_cons ?_ ?_
    · intro L ac W K hed hJ hS hK
      have hA1 : ac.eval (.tmp 1) = .pointer (some ⟨gx, 0, none⟩) := hJ.eval_old 1 (by kernel_rfl)
      clear hed hJ
      refine opStep_of rfl ?_
      unfold Oper.wp execOp
      have hN1 := evalN hA1
      go_simp
      exact hK _ hS
    refine sure_cons ?_ ?_
    · intro L ac W K hed hJ hS hK
      have hn := needs_spec (l := [28]) (by kernel_rfl) hed
      have hA31 := hJ.eval 28 (d := 31) (hn 28 (by simp)) rfl rfl rfl
      clear hed hJ hn
      refine opStep_of rfl ?_
      have cc : W.cell? ⟨gx, 95, none⟩ = some (.int .u64 (nn : Int)) := (HLS.out W hS).2.2.2
      unfold Oper.wp execOp
      have hN31 := evalN hA31
      go_simp
      exact hK _ hS
    refine sure_cons ?_ ?_
    · intro L ac W K hed hJ hS hK
      have hn := needs_spec (l := [29]) (by kernel_rfl) hed
      have hA32 := hJ.eval 29 (d := 32) (hn 29 (by simp)) rfl rfl rfl
      clear hed hJ hn
      refine opStep_of rfl ?_
      unfold Oper.wp execOp
      have hN32 := evalN hA32
      go_simp
      refine (C10.out W).mono ?_
      rintro e W' ⟨rfl, hb⟩
      have hS2 := hS.trans (hb.mono hS.size)
      dsimp only
      exact hK W' hS2
    refine sure_nil ?_
    intro W hS
    simp only [putAll, Act.put, List.setIfInBounds_toArray, List.set_cons_zero, List.set_cons_succ]
    have HS := Lib.hid hS
    have CR : Calls Tryz.prog 68 #[.slice (some ⟨W.heap.size, 0, none⟩) 10 10] (W.alloc (.cells #[S x1, S x2, S x3, S x4, S x5, S x6, S x7, S x8, S x9, S x10] 9)) _ := rrow_made W [x1, x2, x3, x4, x5, x6, x7, x8, x9, x10] HSZ.out
    have HCR := Lib.hid CR
    clear CR hS
    go_wp2_with fail
    refine HCR.out.mono ?_
    rintro e w2 ⟨rfl, hb2⟩
    have HV2 := Lib.hid (HS.out.trans (hb2.mono HS.out.size))
    clear hb2 HCR
    go_wp2_with fail
    go_ret
    exact ⟨by rw [HR.out]; rfl, by rw [HGX.out]; exact HW.out.trans (HV2.out.mono (by omega))⟩
theorem procs_snoc {l : List Pr} {k : Nat} {p : Pr} (h : l[k]? = some p) : (l.take (k + 1)).map procRow = (l.take k).map procRow ++ [procRow p] := by
  rw [List.take_add_one, h, List.map_append]; rfl
theorem procsRow_rows (l : List Pr) : procsRow l = rowB (l.map procRow) := rfl
set_option maxRecDepth 100000 in
set_option maxHeartbeats 4000000 in
theorem rrest_any (w : World) (a : MA) (m : Mc) (hm : McOk m) (hr : RestOk m) (hA : MAt w w.heap.size a m) :
    Calls Tryz.prog 33 #[.agg (mcL a m).toArray] w fun e w' => e = .returned (S (restB m)) ∧ Below w.heap.size w w' := by
  obtain ⟨i0, hi0, hz0, hz1, hz2⟩ := info_parts Tryz.infoStr'
  have hs0 := Whole.made w 30 (mcL a m).toArray
  have hb : Below w.heap.size w (w.alloc (.cells (mcL a m).toArray 30)) := (Below.refl _ _).alloc (Nat.le_refl _) _
  go_enter Tryz.func33, Tryz.ntmps33
  go_upto_region 1 with (fail)
  change Code.wp _ _ _ _ (w.alloc (.cells (mcL a m).toArray 30))
  generalize (w.alloc (.cells (mcL a m).toArray 30)) = w1 at *
  generalize hgx : w.heap.size = gx at *
  have HGX := Lib.hid hgx
  have HS0 := Lib.hid hs0
  have HW := Lib.hid hb
  have hgl : gx < w1.heap.size := hs0.lt
  clear hgx hb hs0
  have HA := Lib.hid (hA.below HW.out)
  have HM := Lib.hid hm
  have HRO := Lib.hid hr
  have HMA : Hid (∀ W, Below w1.heap.size w1 W → MAt W W.heap.size a m) := Lib.hid fun W hW => (HA.out.below (hW.mono (by omega))).wide (by have := hW.size; omega)
  have HC : Hid (∀ W, Below w1.heap.size w1 W → Whole W gx 30 (mcL a m).toArray) := Lib.hid fun W hW => HS0.out.below hW (by omega)
  have hpl := hr.procs
  have HRS := Lib.hid (rest_size hm hr)
  have c5 : w1.cell? ⟨gx, 5, none⟩ = some (.slice a.P m.procs.length a.cP) := HS0.out.cell 5
  clear hm hr hA
  have c5' : (w1.alloc (.cells #[] 9)).cell? ⟨gx, 5, none⟩ = some (.slice a.P m.procs.length a.cP) := ((HS0.out.block (.cells #[] 9)).cell 5)
  go_wp2_with fail
  clear c5 c5'
  go_loopw [3, 9] (fun v i wr => ∃ (k : Nat), k ≤ m.procs.length ∧ i = .int .i64 (k : Int) ∧ Hid (OwnS wr w1.heap.size v ((m.procs.take k).map procRow)) ∧ Hid (Below w1.heap.size w1 wr)) (fun _ i _ => m.procs.length - (intOf i).toNat)
  case atStart => exact ⟨0, by omega, rfl, Lib.hid (World.ownsRow_lit w1 #[] 0 (Nat.le_refl _) (by unfold maxLen; omega) rfl), Lib.hid ((Below.refl _ _).alloc (Nat.le_refl _) _)⟩
  case round =>
    obtain ⟨k, hk, rfl, HO, HV⟩ := hrel
    have hzv := HV.out.size
    by_cases hlt : k < m.procs.length
    · obtain ⟨x, hx⟩ := get_some hlt
      have HXO := Lib.hid (HM.out.procs x (List.mem_of_getElem? hx))
      obtain ⟨ad, hadr, had, hc⟩ := Lies.row (f := prCells) (n := 96) (HMA.out wr HV.out).P (fun y hy => prCells_length (HM.out.procs y hy)) (by omega) hx
      have LD : Hid (∀ j v, (prCells x)[j]? = some v → wr.cell? ((ad.add (k * 96)).add j) = some v) := Lib.hid hc
      have c5 : wr.cell? ⟨gx, 5, none⟩ = some (.slice (some ad) m.procs.length a.cP) := by rw [← hadr]; exact (HC.out wr HV.out).cell 5
      have PIX : Hid ((Tryz.prog.info? 67).map (·.size) = some (prCells x).length) := Lib.hid (by rw [prCells_length HXO.out]; exact Tryz.sizePr)
      have HTK := Lib.hid (procs_snoc hx)
      have CP := Lib.hid (rproc32_any wr x HXO.out)
      have hlk : ((m.procs.take k).map procRow).length = k := by simp; omega
      generalize (m.procs.take k).map procRow = acc at *
      have H63 : Hid (acc.length + 1 ≤ maxLen) := Lib.hid (by rw [hlk]; unfold maxLen; omega)
      have HBY : Hid ((acc.length + 1) * 16 ≤ 140737488355328) := Lib.hid (by rw [hlk]; omega)
      have q0 : (0 : Int) ≤ (k : Int) := by omega
      have q1 : (k : Int) < (m.procs.length : Int) := by omega
      rw [hadr]
      clear hc hx hadr hlk
      go_wp2_with (refine wpList_load_at rfl 67 (.tmp 16) rfl (ad.add (k * 96)) rfl (prCells x) _ LD.out Tryz.underlying67 rfl PIX.out ?_)
      refine CP.out.mono ?_
      rintro e w2 ⟨rfl, hb2⟩
      have HO2 := Lib.hid (own_below HO.out hb2)
      have HV2 := Lib.hid (HV.out.trans (hb2.mono hzv))
      clear hb2 CP LD c5
      generalize procRow x = z at *
      have HNW : Hid (∀ i u, [S z][i]? = some u → (w2.alloc (.cells #[S z] 9)).cell? ((⟨w2.heap.size, 0, none⟩ : Addr).add i) = some u) := Lib.hid (fun i u hu => by
        obtain ⟨ad', e', _, hc'⟩ := lies_made w2 9 [S z] (w2.heap.size + 1) (by omega) i u hu
        injection e' with e'; subst e'; exact hc')
      have H1 : Hid (∀ u ∈ [S z], u.oneCell' = true) := Lib.hid (by simp [Value.oneCell'])
      have HBA : Hid (w1.heap.size ≤ (w2.alloc (.cells #[S z] 9)).heap.size) := Lib.hid (by have := HV2.out.size; simp; omega)
      have HOA := Lib.hid (HO2.out.alloc (.cells #[S z] 9))
      go_wp2_with (at_builtin; refine wpList_append_own _ rfl (.tmp 12) (.tmp 19) 23 rfl w1.heap.size 9 i0 _ 1 16 Tryz.underlying23 hi0 hz0 hz1 hz2 rfl (by decide) _ _ _ rfl HOA.out ⟨w2.heap.size, 0, none⟩ 1 1 [S z] rfl rfl HNW.out H1.out H63.out HBY.out HBA.out ?_; intro v' w4 hown' hgrow _)
      have HV4 := Lib.hid ((HV2.out.alloc HV2.out.size (.cells #[S z] 9)).grown hgrow HBA.out (own_ge HOA.out))
      have HO4 : Hid (OwnS w4 w1.heap.size v' (acc ++ [z])) := Lib.hid (by
        have := hown'
        rw [show (acc.map S ++ [S z]) = (acc ++ [z]).map S by simp] at this
        unfold OwnS
        rw [List.length_append]
        exact this)
      rw [← HTK.out] at HO4
      clear hown' hgrow HOA HBA HNW
      go_wp2_with fail
      go_roundw
      case rel =>
        have R : ∃ (k' : Nat), k' ≤ m.procs.length ∧ Value.int .i64 ((k : Int) + 1) = .int .i64 (k' : Int) ∧ Hid (OwnS w4 w1.heap.size v' ((m.procs.take k').map procRow)) ∧ Hid (Below w1.heap.size w1 w4) := ⟨k + 1, by omega, by go_num, HO4, HV4⟩
        first | exact R | ((repeat apply Exists.intro); exact ⟨R, rfl⟩)
      case measure => simp [intOf]; omega
    · obtain rfl : k = m.procs.length := by omega
      have hd : decide (m.procs.length < m.procs.length) = false := by simp
      rw [List.take_of_length_le (Nat.le_refl _)] at HO
      obtain ⟨A, c, rfl, hlies, _⟩ := own_shape HO.out (by omega)
      have HLI := Lib.hid hlies
      go_upto_region 7 with (fail)
      have C15 : Hid (∀ W, Below wr.heap.size wr W → Calls Tryz.prog 68 #[.slice A m.procs.length c] W fun e w' => e = .returned (S (procsRow m.procs)) ∧ Below W.heap.size W w') := Lib.hid fun W hW => by
        have h := rrow_any W A c (m.procs.map procRow) ((HLI.out.below hW).wide hW.size) (Nat.le_trans (procs_size HRO.out.procs HM.out.procs) (by decide))
        rw [List.length_map] at h
        exact h
      obtain ⟨ck, hck, hcl⟩ := u64_nat HM.out.clock
      obtain ⟨tn, htn, htl⟩ := u64_nat HM.out.told
      have HR : Hid (restB m = rowB [mark2, putL ck 8, Lib.itoa m.quantum, Lib.itoa m.cur, Lib.itoa m.left, Lib.itoa m.next, m.init, Lib.itoa m.newPipe, m.inp, flagL m.fin, putL tn 8, Lib.itoa m.dleft, nbsRow m.pend, nbsRow m.dirty, nbsRow m.pipes, procsRow m.procs]) := Lib.hid (by
        unfold restB restL
        rw [show m.clock.toNat = ck by omega, show m.told.toNat = tn by omega])
      have HSZ : Hid (sizeOf [mark2, putL ck 8, Lib.itoa m.quantum, Lib.itoa m.cur, Lib.itoa m.left, Lib.itoa m.next, m.init, Lib.itoa m.newPipe, m.inp, flagL m.fin, putL tn 8, Lib.itoa m.dleft, nbsRow m.pend, nbsRow m.dirty, nbsRow m.pipes, procsRow m.procs] ≤ 34359738368) := Lib.hid (by
        have h := HRS.out
        unfold restL at h
        rw [show m.clock.toNat = ck by omega, show m.told.toNat = tn by omega] at h
        exact Nat.le_trans h (by decide))
      clear hlies HRS
      have C1 := Lib.hid (fun W : World => rput_any W ck 8 (by omega) (by omega))
      have C2 := Lib.hid (fun W : World => rdec32_any W m.quantum HM.out.quantum)
      have C3 := Lib.hid (fun W : World => rdec32_any W m.cur HM.out.cur)
      have C4 := Lib.hid (fun W : World => rdec32_any W m.left HM.out.left)
      have C5 := Lib.hid (fun W : World => rdec32_any W m.next HM.out.next)
      have C7 := Lib.hid (fun W : World => rdec32_any W m.newPipe HM.out.newPipe)
      have C9 := Lib.hid (fun W : World => rflag32_any W m.fin)
      have C10 := Lib.hid (fun W : World => rput_any W tn 8 (by omega) (by omega))
      have C11 := Lib.hid (fun W : World => rdec32_any W m.dleft HM.out.dleft)
      have C12 := Lib.hid (fun (W : World) (hW : Below w1.heap.size w1 W) => rwrites32_any W a.N a.cN m.pend (HMA.out W hW).N HRO.out.pend.1 HM.out.pend HRO.out.pend.2)
      have C13 := Lib.hid (fun (W : World) (hW : Below w1.heap.size w1 W) => rwrites32_any W a.D a.cD m.dirty (HMA.out W hW).D HRO.out.dirty.1 HM.out.dirty HRO.out.dirty.2)
      have C14 := Lib.hid (fun (W : World) (hW : Below w1.heap.size w1 W) => rpipes32_any W a.Q a.cQ m.pipes (HMA.out W hW).Q HRO.out.pipes.1 HM.out.pipes HRO.out.pipes.2)
      have HCK : Hid (m.clock = (ck : Int)) := Lib.hid hck
      have HTN : Hid (m.told = (tn : Int)) := Lib.hid htn
      have HC0 : Hid (∀ W, Below w1.heap.size w1 W → W.cell? ⟨gx, 0, none⟩ = some (.int .u64 (ck : Int)) ∧ W.cell? ⟨gx, 12, none⟩ = some (.int .u64 (tn : Int))) := Lib.hid fun W hW => by
        rw [← HCK.out, ← HTN.out]
        exact ⟨(HC.out W hW).cell 0, (HC.out W hW).cell 12⟩
      clear hck htn HCK HTN
      have HC7 : Hid (∀ W, Below w1.heap.size w1 W → W.cell? ⟨gx, 7, none⟩ = some (S m.init) ∧ W.cell? ⟨gx, 10, none⟩ = some (S m.inp)) := Lib.hid fun W hW => ⟨(HC.out W hW).cell 7, (HC.out W hW).cell 10⟩
      generalize putL ck 8 = x1 at *
      generalize Lib.itoa m.quantum = x2 at *
      generalize Lib.itoa m.cur = x3 at *
      generalize Lib.itoa m.left = x4 at *
      generalize Lib.itoa m.next = x5 at *
      generalize m.init = x6 at HR HSZ HC7
      generalize Lib.itoa m.newPipe = x7 at *
      generalize m.inp = x8 at HR HSZ HC7
      generalize flagL m.fin = x9 at *
      generalize putL tn 8 = x10 at *
      generalize Lib.itoa m.dleft = x11 at *
      generalize nbsRow m.pend = x12 at *
      generalize nbsRow m.dirty = x13 at *
      generalize nbsRow m.pipes = x14 at *
      generalize procsRow m.procs = x15 at *
      refine' wp_region_sure (by kernel_rfl) (fun W => Below wr.heap.size wr W) 44 [_, _, _, _, _, _, _, _, _, _, _, _, _, _, _, _, _, _, _, _, _, _, _, _, _, _, _, _, _, _, _, _, _, _, _, _, _, _, _, _, _, _, _, _] [some 22, some 23, some 24, some 25, some 26, some 27, some 28, some 29, some 30, some 31, some 32, some 33, some 34, some 35, some 36, some 37, some 38, some 39, some 40, some 41, some 42, some 43, some 44, some 45, some 46, some 47, some 48, some 49, some 50, some 51, some 52, some 53, some 54, some 55, some 56, some 57, some 58, some 59, some 60, some 61, some 62, some 63, some 64, some 65] (by kernel_rfl) (by kernel_rfl) (by kernel_rfl) (by kernel_rfl) rfl (Below.refl _ _).drew ?hs1
      case hs1 =>
        refine sure_cons ?_ ?_
        · intro L ac W K hed hJ hS hK
          have hA1 : ac.eval (.tmp 1) = .pointer (some ⟨gx, 0, none⟩) := hJ.eval_old 1 (by kernel_rfl)
          clear hed hJ
          refine opStep_of rfl ?_
          unfold Oper.wp execOp
          have hN1 := evalN hA1
          go_simp
          exact hK _ hS
        refine sure_cons ?_ ?_
        · intro L ac W K hed hJ hS hK
          have hn := needs_spec (l := [0]) (by kernel_rfl) hed
          have hA22 := hJ.eval 0 (d := 22) (hn 0 (by simp)) rfl rfl rfl
          clear hed hJ hn
          refine opStep_of rfl ?_
          have cc := (HC0.out W (HV.out.trans (hS.mono HV.out.size))).1
          unfold Oper.wp execOp
          have hN22 := evalN hA22
          go_simp
          exact hK _ hS
        refine sure_cons ?_ ?_
        · intro L ac W K hed hJ hS hK
          have hn := needs_spec (l := [1]) (by kernel_rfl) hed
          have hA23 := hJ.eval 1 (d := 23) (hn 1 (by simp)) rfl rfl rfl
          clear hed hJ hn
          refine opStep_of rfl ?_
          unfold Oper.wp execOp
          have hN23 := evalN hA23
          go_simp
          refine (C1.out W).mono ?_
          rintro e W' ⟨rfl, hb⟩
          have hS2 := hS.trans (hb.mono hS.size)
          dsimp only
          exact hK W' hS2
        refine sure_cons ?_ ?_
        · intro L ac W K hed hJ hS hK
          have hA1 : ac.eval (.tmp 1) = .pointer (some ⟨gx, 0, none⟩) := hJ.eval_old 1 (by kernel_rfl)
          clear hed hJ
          refine opStep_of rfl ?_
          unfold Oper.wp execOp
          have hN1 := evalN hA1
          go_simp
          exact hK _ hS
        refine sure_cons ?_ ?_
        · intro L ac W K hed hJ hS hK
          have hn := needs_spec (l := [3]) (by kernel_rfl) hed
          have hA25 := hJ.eval 3 (d := 25) (hn 3 (by simp)) rfl rfl rfl
          clear hed hJ hn
          refine opStep_of rfl ?_
          have cc : W.cell? ⟨gx, 1, none⟩ = some (.int .i64 m.quantum) := (HC.out W (HV.out.trans (hS.mono HV.out.size))).cell 1
          unfold Oper.wp execOp
          have hN25 := evalN hA25
          go_simp
          exact hK _ hS
        refine sure_cons ?_ ?_
        · intro L ac W K hed hJ hS hK
          have hn := needs_spec (l := [4]) (by kernel_rfl) hed
          have hA26 := hJ.eval 4 (d := 26) (hn 4 (by simp)) rfl rfl rfl
          clear hed hJ hn
          refine opStep_of rfl ?_
          unfold Oper.wp execOp
          have hN26 := evalN hA26
          go_simp
          refine (C2.out W).mono ?_
          rintro e W' ⟨rfl, hb⟩
          have hS2 := hS.trans (hb.mono hS.size)
          dsimp only
          exact hK W' hS2
        refine sure_cons ?_ ?_
        · intro L ac W K hed hJ hS hK
          have hA1 : ac.eval (.tmp 1) = .pointer (some ⟨gx, 0, none⟩) := hJ.eval_old 1 (by kernel_rfl)
          clear hed hJ
          refine opStep_of rfl ?_
          unfold Oper.wp execOp
          have hN1 := evalN hA1
          go_simp
          exact hK _ hS
        refine sure_cons ?_ ?_
        · intro L ac W K hed hJ hS hK
          have hn := needs_spec (l := [6]) (by kernel_rfl) hed
          have hA28 := hJ.eval 6 (d := 28) (hn 6 (by simp)) rfl rfl rfl
          clear hed hJ hn
          refine opStep_of rfl ?_
          have cc : W.cell? ⟨gx, 2, none⟩ = some (.int .i64 m.cur) := (HC.out W (HV.out.trans (hS.mono HV.out.size))).cell 2
          unfold Oper.wp execOp
          have hN28 := evalN hA28
          go_simp
          exact hK _ hS
        refine sure_cons ?_ ?_
        · intro L ac W K hed hJ hS hK
          have hn := needs_spec (l := [7]) (by kernel_rfl) hed
          have hA29 := hJ.eval 7 (d := 29) (hn 7 (by simp)) rfl rfl rfl
          clear hed hJ hn
          refine opStep_of rfl ?_
          unfold Oper.wp execOp
          have hN29 := evalN hA29
          go_simp
          refine (C3.out W).mono ?_
          rintro e W' ⟨rfl, hb⟩
          have hS2 := hS.trans (hb.mono hS.size)
          dsimp only
          exact hK W' hS2
        refine sure_cons ?_ ?_
        · intro L ac W K hed hJ hS hK
          have hA1 : ac.eval (.tmp 1) = .pointer (some ⟨gx, 0, none⟩) := hJ.eval_old 1 (by kernel_rfl)
          clear hed hJ
          refine opStep_of rfl ?_
          unfold Oper.wp execOp
          have hN1 := evalN hA1
          go_simp
          exact hK _ hS
        refine sure_cons ?_ ?_
        · intro L ac W K hed hJ hS hK
          have hn := needs_spec (l := [9]) (by kernel_rfl) hed
          have hA31 := hJ.eval 9 (d := 31) (hn 9 (by simp)) rfl rfl rfl
          clear hed hJ hn
          refine opStep_of rfl ?_
          have cc : W.cell? ⟨gx, 3, none⟩ = some (.int .i64 m.left) := (HC.out W (HV.out.trans (hS.mono HV.out.size))).cell 3
          unfold Oper.wp execOp
          have hN31 := evalN hA31
          go_simp
          exact hK _ hS
        refine sure_cons ?_ ?_
        · intro L ac W K hed hJ hS hK
          have hn := needs_spec (l := [10]) (by kernel_rfl) hed
          have hA32 := hJ.eval 10 (d := 32) (hn 10 (by simp)) rfl rfl rfl
          clear hed hJ hn
          refine opStep_of rfl ?_
          unfold Oper.wp execOp
          have hN32 := evalN hA32
          go_simp
          refine (C4.out W).mono ?_
          rintro e W' ⟨rfl, hb⟩
          have hS2 := hS.trans (hb.mono hS.size)
          dsimp only
          exact hK W' hS2
        refine sure_cons ?_ ?_
        · intro L ac W K hed hJ hS hK
          have hA1 : ac.eval (.tmp 1) = .pointer (some ⟨gx, 0, none⟩) := hJ.eval_old 1 (by kernel_rfl)
          clear hed hJ
          refine opStep_of rfl ?_
          unfold Oper.wp execOp
          have hN1 := evalN hA1
          go_simp
          exact hK _ hS
        refine sure_cons ?_ ?_
        · intro L ac W K hed hJ hS hK
          have hn := needs_spec (l := [12]) (by kernel_rfl) hed
          have hA34 := hJ.eval 12 (d := 34) (hn 12 (by simp)) rfl rfl rfl
          clear hed hJ hn
          refine opStep_of rfl ?_
          have cc : W.cell? ⟨gx, 6, none⟩ = some (.int .i64 m.next) := (HC.out W (HV.out.trans (hS.mono HV.out.size))).cell 6
          unfold Oper.wp execOp
          have hN34 := evalN hA34
          go_simp
          exact hK _ hS
        refine sure_cons ?_ ?_
        · intro L ac W K hed hJ hS hK
          have hn := needs_spec (l := [13]) (by kernel_rfl) hed
          have hA35 := hJ.eval 13 (d := 35) (hn 13 (by simp)) rfl rfl rfl
          clear hed hJ hn
          refine opStep_of rfl ?_
          unfold Oper.wp execOp
          have hN35 := evalN hA35
          go_simp
          refine (C5.out W).mono ?_
          rintro e W' ⟨rfl, hb⟩
          have hS2 := hS.trans (hb.mono hS.size)
          dsimp only
          exact hK W' hS2
        refine sure_cons ?_ ?_
        · intro L ac W K hed hJ hS hK
          have hA1 : ac.eval (.tmp 1) = .pointer (some ⟨gx, 0, none⟩) := hJ.eval_old 1 (by kernel_rfl)
          clear hed hJ
          refine opStep_of rfl ?_
          unfold Oper.wp execOp
          have hN1 := evalN hA1
          go_simp
          exact hK _ hS
        refine sure_cons ?_ ?_
        · intro L ac W K hed hJ hS hK
          have hn := needs_spec (l := [15]) (by kernel_rfl) hed
          have hA37 := hJ.eval 15 (d := 37) (hn 15 (by simp)) rfl rfl rfl
          clear hed hJ hn
          refine opStep_of rfl ?_
          have cc := (HC7.out W (HV.out.trans (hS.mono HV.out.size))).1
          unfold Oper.wp execOp
          have hN37 := evalN hA37
          go_simp
          exact hK _ hS
        refine sure_cons ?_ ?_
        · intro L ac W K hed hJ hS hK
          have hA1 : ac.eval (.tmp 1) = .pointer (some ⟨gx, 0, none⟩) := hJ.eval_old 1 (by kernel_rfl)
          clear hed hJ
          refine opStep_of rfl ?_
          unfold Oper.wp execOp
          have hN1 := evalN hA1
          go_simp
          exact hK _ hS
        refine sure_cons ?_ ?_
        · intro L ac W K hed hJ hS hK
          have hn := needs_spec (l := [17]) (by kernel_rfl) hed
          have hA39 := hJ.eval 17 (d := 39) (hn 17 (by simp)) rfl rfl rfl
          clear hed hJ hn
          refine opStep_of rfl ?_
          have cc : W.cell? ⟨gx, 9, none⟩ = some (.int .i64 m.newPipe) := (HC.out W (HV.out.trans (hS.mono HV.out.size))).cell 9
          unfold Oper.wp execOp
          have hN39 := evalN hA39
          go_simp
          exact hK _ hS
        refine sure_cons ?_ ?_
        · intro L ac W K hed hJ hS hK
          have hn := needs_spec (l := [18]) (by kernel_rfl) hed
          have hA40 := hJ.eval 18 (d := 40) (hn 18 (by simp)) rfl rfl rfl
          clear hed hJ hn
          refine opStep_of rfl ?_
          unfold Oper.wp execOp
          have hN40 := evalN hA40
          go_simp
          refine (C7.out W).mono ?_
          rintro e W' ⟨rfl, hb⟩
          have hS2 := hS.trans (hb.mono hS.size)
          dsimp only
          exact hK W' hS2
        refine sure_cons ?_ ?_
        · intro L ac W K hed hJ hS hK
          have hA1 : ac.eval (.tmp 1) = .pointer (some ⟨gx, 0, none⟩) := hJ.eval_old 1 (by kernel_rfl)
          clear hed hJ
          refine opStep_of rfl ?_
          unfold Oper.wp execOp
          have hN1 := evalN hA1
          go_simp
          exact hK _ hS
        refine sure_cons ?_ ?_
        · intro L ac W K hed hJ hS hK
          have hn := needs_spec (l := [20]) (by kernel_rfl) hed
          have hA42 := hJ.eval 20 (d := 42) (hn 20 (by simp)) rfl rfl rfl
          clear hed hJ hn
          refine opStep_of rfl ?_
          have cc := (HC7.out W (HV.out.trans (hS.mono HV.out.size))).2
          unfold Oper.wp execOp
          have hN42 := evalN hA42
          go_simp
          exact hK _ hS
        refine sure_cons ?_ ?_
        · intro L ac W K hed hJ hS hK
          have hA1 : ac.eval (.tmp 1) = .pointer (some ⟨gx, 0, none⟩) := hJ.eval_old 1 (by kernel_rfl)
          clear hed hJ
          refine opStep_of rfl ?_
          unfold Oper.wp execOp
          have hN1 := evalN hA1
          go_simp
          exact hK _ hS
        refine sure_cons ?_ ?_
        · intro L ac W K hed hJ hS hK
          have hn := needs_spec (l := [22]) (by kernel_rfl) hed
          have hA44 := hJ.eval 22 (d := 44) (hn 22 (by simp)) rfl rfl rfl
          clear hed hJ hn
          refine opStep_of rfl ?_
          have cc : W.cell? ⟨gx, 11, none⟩ = some (.bool m.fin) := (HC.out W (HV.out.trans (hS.mono HV.out.size))).cell 11
          unfold Oper.wp execOp
          have hN44 := evalN hA44
          go_simp
          exact hK _ hS
        refine sure_cons ?_ ?_
        · intro L ac W K hed hJ hS hK
          have hn := needs_spec (l := [23]) (by kernel_rfl) hed
          have hA45 := hJ.eval 23 (d := 45) (hn 23 (by simp)) rfl rfl rfl
          clear hed hJ hn
          refine opStep_of rfl ?_
          unfold Oper.wp execOp
          have hN45 := evalN hA45
          go_simp
          refine (C9.out W).mono ?_
          rintro e W' ⟨rfl, hb⟩
          have hS2 := hS.trans (hb.mono hS.size)
          dsimp only
          exact hK W' hS2
        refine sure_cons ?_ ?_
        · intro L ac W K hed hJ hS hK
          have hA1 : ac.eval (.tmp 1) = .pointer (some ⟨gx, 0, none⟩) := hJ.eval_old 1 (by kernel_rfl)
          clear hed hJ
          refine opStep_of rfl ?_
          unfold Oper.wp execOp
          have hN1 := evalN hA1
          go_simp
          exact hK _ hS
        refine sure_cons ?_ ?_
        · intro L ac W K hed hJ hS hK
          have hn := needs_spec (l := [25]) (by kernel_rfl) hed
          have hA47 := hJ.eval 25 (d := 47) (hn 25 (by simp)) rfl rfl rfl
          clear hed hJ hn
          refine opStep_of rfl ?_
          have cc := (HC0.out W (HV.out.trans (hS.mono HV.out.size))).2
          unfold Oper.wp execOp
          have hN47 := evalN hA47
          go_simp
          exact hK _ hS
        refine sure_cons ?_ ?_
        · intro L ac W K hed hJ hS hK
          have hn := needs_spec (l := [26]) (by kernel_rfl) hed
          have hA48 := hJ.eval 26 (d := 48) (hn 26 (by simp)) rfl rfl rfl
          clear hed hJ hn
          refine opStep_of rfl ?_
          unfold Oper.wp execOp
          have hN48 := evalN hA48
          go_simp
          refine (C10.out W).mono ?_
          rintro e W' ⟨rfl, hb⟩
          have hS2 := hS.trans (hb.mono hS.size)
          dsimp only
          exact hK W' hS2
        refine sure_cons ?_ ?_
        · intro L ac W K hed hJ hS hK
          have hA1 : ac.eval (.tmp 1) = .pointer (some ⟨gx, 0, none⟩) := hJ.eval_old 1 (by kernel_rfl)
          clear hed hJ
          refine opStep_of rfl ?_
          unfold Oper.wp execOp
          have hN1 := evalN hA1
          go_simp
          exact hK _ hS
        refine sure_cons ?_ ?_
        · intro L ac W K hed hJ hS hK
          have hn := needs_spec (l := [28]) (by kernel_rfl) hed
          have hA50 := hJ.eval 28 (d := 50) (hn 28 (by simp)) rfl rfl rfl
          clear hed hJ hn
          refine opStep_of rfl ?_
          unfold Oper.wp execOp
          have hN50 := evalN hA50
          go_simp
          exact hK _ hS
        refine sure_cons ?_ ?_
        · intro L ac W K hed hJ hS hK
          have hn := needs_spec (l := [29]) (by kernel_rfl) hed
          have hA51 := hJ.eval 29 (d := 51) (hn 29 (by simp)) rfl rfl rfl
          clear hed hJ hn
          refine opStep_of rfl ?_
          have cc : W.cell? ⟨gx, 15, none⟩ = some (.int .i64 m.dleft) := (HC.out W (HV.out.trans (hS.mono HV.out.size))).cell 15
          unfold Oper.wp execOp
          have hN51 := evalN hA51
          go_simp
          exact hK _ hS
        refine sure_cons ?_ ?_
        · intro L ac W K hed hJ hS hK
          have hn := needs_spec (l := [30]) (by kernel_rfl) hed
          have hA52 := hJ.eval 30 (d := 52) (hn 30 (by simp)) rfl rfl rfl
          clear hed hJ hn
          refine opStep_of rfl ?_
          unfold Oper.wp execOp
          have hN52 := evalN hA52
          go_simp
          refine (C11.out W).mono ?_
          rintro e W' ⟨rfl, hb⟩
          have hS2 := hS.trans (hb.mono hS.size)
          dsimp only
          exact hK W' hS2
        refine sure_cons ?_ ?_
        · intro L ac W K hed hJ hS hK
          have hA1 : ac.eval (.tmp 1) = .pointer (some ⟨gx, 0, none⟩) := hJ.eval_old 1 (by kernel_rfl)
          clear hed hJ
          refine opStep_of rfl ?_
          unfold Oper.wp execOp
          have hN1 := evalN hA1
          go_simp
          exact hK _ hS
        refine sure_cons ?_ ?_
        · intro L ac W K hed hJ hS hK
          have hn := needs_spec (l := [32]) (by kernel_rfl) hed
          have hA54 := hJ.eval 32 (d := 54) (hn 32 (by simp)) rfl rfl rfl
          clear hed hJ hn
          refine opStep_of rfl ?_
          unfold Oper.wp execOp
          have hN54 := evalN hA54
          go_simp
          exact hK _ hS
        refine sure_cons ?_ ?_
        · intro L ac W K hed hJ hS hK
          have hn := needs_spec (l := [33]) (by kernel_rfl) hed
          have hA55 := hJ.eval 33 (d := 55) (hn 33 (by simp)) rfl rfl rfl
          clear hed hJ hn
          refine opStep_of rfl ?_
          have cc : W.cell? ⟨gx, 14, none⟩ = some (.slice a.N m.pend.length a.cN) := (HC.out W (HV.out.trans (hS.mono HV.out.size))).cell 14
          unfold Oper.wp execOp
          have hN55 := evalN hA55
          go_simp
          exact hK _ hS
        refine sure_cons ?_ ?_
        · intro L ac W K hed hJ hS hK
          have hn := needs_spec (l := [34]) (by kernel_rfl) hed
          have hA56 := hJ.eval 34 (d := 56) (hn 34 (by simp)) rfl rfl rfl
          clear hed hJ hn
          refine opStep_of rfl ?_
          unfold Oper.wp execOp
          have hN56 := evalN hA56
          go_simp
          refine (C12.out W (HV.out.trans (hS.mono HV.out.size))).mono ?_
          rintro e W' ⟨rfl, hb⟩
          have hS2 := hS.trans (hb.mono hS.size)
          dsimp only
          exact hK W' hS2
        refine sure_cons ?_ ?_
        · intro L ac W K hed hJ hS hK
          have hA1 : ac.eval (.tmp 1) = .pointer (some ⟨gx, 0, none⟩) := hJ.eval_old 1 (by kernel_rfl)
          clear hed hJ
          refine opStep_of rfl ?_
          unfold Oper.wp execOp
          have hN1 := evalN hA1
          go_simp
          exact hK _ hS
        refine sure_cons ?_ ?_
        · intro L ac W K hed hJ hS hK
          have hn := needs_spec (l := [36]) (by kernel_rfl) hed
          have hA58 := hJ.eval 36 (d := 58) (hn 36 (by simp)) rfl rfl rfl
          clear hed hJ hn
          refine opStep_of rfl ?_
          have cc : W.cell? ⟨gx, 16, none⟩ = some (.slice a.D m.dirty.length a.cD) := (HC.out W (HV.out.trans (hS.mono HV.out.size))).cell 16
          unfold Oper.wp execOp
          have hN58 := evalN hA58
          go_simp
          exact hK _ hS
        refine sure_cons ?_ ?_
        · intro L ac W K hed hJ hS hK
          have hn := needs_spec (l := [37]) (by kernel_rfl) hed
          have hA59 := hJ.eval 37 (d := 59) (hn 37 (by simp)) rfl rfl rfl
          clear hed hJ hn
          refine opStep_of rfl ?_
          unfold Oper.wp execOp
          have hN59 := evalN hA59
          go_simp
          refine (C13.out W (HV.out.trans (hS.mono HV.out.size))).mono ?_
          rintro e W' ⟨rfl, hb⟩
          have hS2 := hS.trans (hb.mono hS.size)
          dsimp only
          exact hK W' hS2
        refine sure_cons ?_ ?_
        · intro L ac W K hed hJ hS hK
          have hA1 : ac.eval (.tmp 1) = .pointer (some ⟨gx, 0, none⟩) := hJ.eval_old 1 (by kernel_rfl)
          clear hed hJ
          refine opStep_of rfl ?_
          unfold Oper.wp execOp
          have hN1 := evalN hA1
          go_simp
          exact hK _ hS
        refine sure_cons ?_ ?_
        · intro L ac W K hed hJ hS hK
          have hn := needs_spec (l := [39]) (by kernel_rfl) hed
          have hA61 := hJ.eval 39 (d := 61) (hn 39 (by simp)) rfl rfl rfl
          clear hed hJ hn
          refine opStep_of rfl ?_
          have cc : W.cell? ⟨gx, 8, none⟩ = some (.slice a.Q m.pipes.length a.cQ) := (HC.out W (HV.out.trans (hS.mono HV.out.size))).cell 8
          unfold Oper.wp execOp
          have hN61 := evalN hA61
          go_simp
          exact hK _ hS
        refine sure_cons ?_ ?_
        · intro L ac W K hed hJ hS hK
          have hn := needs_spec (l := [40]) (by kernel_rfl) hed
          have hA62 := hJ.eval 40 (d := 62) (hn 40 (by simp)) rfl rfl rfl
          clear hed hJ hn
          refine opStep_of rfl ?_
          unfold Oper.wp execOp
          have hN62 := evalN hA62
          go_simp
          refine (C14.out W (HV.out.trans (hS.mono HV.out.size))).mono ?_
          rintro e W' ⟨rfl, hb⟩
          have hS2 := hS.trans (hb.mono hS.size)
          dsimp only
          exact hK W' hS2
        refine sure_cons ?_ ?_
        · intro L ac W K hed hJ hS hK
          have hA3 : ac.eval (.tmp 3) = .slice A (m.procs.map procRow).length c := hJ.eval_old 3 (by kernel_rfl)
          clear hed hJ
          refine opStep_of rfl ?_
          unfold Oper.wp execOp
          have hN3 := evalN hA3
          go_simp
          exact hK _ hS
        refine sure_cons ?_ ?_
        · intro L ac W K hed hJ hS hK
          have hn := needs_spec (l := [42]) (by kernel_rfl) hed
          have hA64 := hJ.eval 42 (d := 64) (hn 42 (by simp)) rfl rfl rfl
          clear hed hJ hn
          refine opStep_of rfl ?_
          unfold Oper.wp execOp
          have hN64 := evalN hA64
          go_simp
          refine (C15.out W hS).mono ?_
          rintro e W' ⟨rfl, hb⟩
          have hS2 := hS.trans (hb.mono hS.size)
          dsimp only
          exact hK W' hS2
        refine sure_nil ?_
        intro W hS
        simp only [putAll, Act.put, List.setIfInBounds_toArray, List.set_cons_zero, List.set_cons_succ]
        have HS := Lib.hid hS
        have CR : Calls Tryz.prog 68 #[.slice (some ⟨W.heap.size, 0, none⟩) 16 16] (W.alloc (.cells #[.string ⟨#[104, 105, 98, 50]⟩, S x1, S x2, S x3, S x4, S x5, S x6, S x7, S x8, S x9, S x10, S x11, S x12, S x13, S x14, S x15] 9)) _ := rrow_made W [mark2, x1, x2, x3, x4, x5, x6, x7, x8, x9, x10, x11, x12, x13, x14, x15] HSZ.out
        have HCR := Lib.hid CR
        clear CR hS
        go_wp2_with fail
        refine HCR.out.mono ?_
        rintro e w2 ⟨rfl, hb2⟩
        have HV2 := Lib.hid (HV.out.trans ((HS.out.trans (hb2.mono HS.out.size)).mono HV.out.size))
        clear hb2 HCR
        go_wp2_with fail
        go_ret
        exact ⟨by rw [HR.out]; rfl, by rw [HGX.out]; exact HW.out.trans (HV2.out.mono (by omega))⟩
end Go.Proofs.YtmmfcjkabpffeaaGreatDoor
