/-
  Walks: hibernacleref26.Same, hibernacleref30.Same. (Printed by gen_msc.py.)
-/
import Derived.Test.YtfdflkddmgninaaGreatDoorMsC
namespace Go.Proofs.YtfdflkddmgninaaGreatDoor
open Go.RowKit

set_option maxRecDepth 100000 in
set_option maxHeartbeats 4000000 in
theorem rsame_any (w : World) (a b : MA) (m n : Mc) (hm : McOk m) (hn : McOk n) (hpm : m.pipes.length ≤ 1099511627776) (hA : MAt w w.heap.size a m) (hB : MAt w w.heap.size b n) :
    Calls Tryz.prog 10 #[.agg (mcL a m).toArray, .agg (mcL b n).toArray] w fun e w' => e = .returned (.bool (sameB m n)) ∧ Below w.heap.size w w' := by
  have hs0 := (Whole.made w 30 (mcL a m).toArray).block (.cells (mcL b n).toArray 30)
  have hs1 := Whole.made (w.alloc (.cells (mcL a m).toArray 30)) 30 (mcL b n).toArray
  rw [show (w.alloc (.cells (mcL a m).toArray 30)).heap.size = w.heap.size + 1 by simp] at hs1
  have hb : Below w.heap.size w ((w.alloc (.cells (mcL a m).toArray 30)).alloc (.cells (mcL b n).toArray 30)) := ((Below.refl _ _).alloc (by first | exact Nat.le_refl _ | simp | (simp; omega)) _).alloc (by first | exact Nat.le_refl _ | simp | (simp; omega)) _
  go_enter Tryz.func10, Tryz.ntmps10
  go_upto_region 1 with (fail)
  change Code.wp _ _ _ _ ((w.alloc (.cells (mcL a m).toArray 30)).alloc (.cells (mcL b n).toArray 30))
  generalize ((w.alloc (.cells (mcL a m).toArray 30)).alloc (.cells (mcL b n).toArray 30)) = w1 at *
  generalize hgx : w.heap.size = gx at *
  have HGX := Lib.hid hgx
  have HS0 := Lib.hid hs0
  have HS1 := Lib.hid hs1
  have HW := Lib.hid hb
  have hgl : gx + 1 < w1.heap.size := hs1.lt
  clear hgx hb hs0 hs1
  have HA := Lib.hid (hA.below HW.out)
  have HB := Lib.hid (hB.below HW.out)
  have HM := Lib.hid hm
  have HN := Lib.hid hn
  have HMA : Hid (∀ W, Below w1.heap.size w1 W → MAt W W.heap.size a m) := Lib.hid fun W hW => (HA.out.below (hW.mono (by omega))).wide (by have := hW.size; omega)
  have HMB : Hid (∀ W, Below w1.heap.size w1 W → MAt W W.heap.size b n) := Lib.hid fun W hW => (HB.out.below (hW.mono (by omega))).wide (by have := hW.size; omega)
  have HC : Hid (∀ W, Below w1.heap.size w1 W → Whole W gx 30 (mcL a m).toArray) := Lib.hid fun W hW => HS0.out.below hW (by omega)
  have HD : Hid (∀ W, Below w1.heap.size w1 W → Whole W (gx + 1) 30 (mcL b n).toArray) := Lib.hid fun W hW => HS1.out.below hW hgl
  obtain ⟨f1, f2, f3, f4, f5, f6⟩ := hm.sizes
  obtain ⟨g1, g2, g3, g4, g5, g6⟩ := hn.sizes
  clear hm hn hA hB
  have c8 : w1.cell? ⟨gx, 8, none⟩ = some (.slice a.Q m.pipes.length a.cQ) := HS0.out.cell 8
  have d8 : w1.cell? ⟨gx + 1, 8, none⟩ = some (.slice b.Q n.pipes.length b.cQ) := HS1.out.cell 8
  by_cases hl : m.pipes.length = n.pipes.length
  · have n1 : ((m.pipes.length : Int) != (n.pipes.length : Int)) = false := by simp [hl]
    have n2 : (m.pipes.length != n.pipes.length) = false := by simp [hl]
    have HL := Lib.hid hl
    clear hl
    obtain ⟨c0, HC0⟩ : ∃ z, Hid (rplB m n = z) := ⟨_, Lib.hid rfl⟩
    obtain ⟨c1, HC1⟩ : ∃ z, Hid (decide (m.frames = n.frames) = z) := ⟨_, Lib.hid rfl⟩
    have CF1 : Hid (∀ W, Below w1.heap.size w1 W → Calls Tryz.prog 19 #[.slice a.F m.frames.length a.cF, .slice b.F n.frames.length b.cF] W fun e w' => e = .returned (.bool c1) ∧ Below W.heap.size W w') := Lib.hid fun W hS => by
      have h := rtx_any W a.F b.F a.cF b.cF m.frames n.frames (HMA.out W hS).F (HMB.out W hS).F (by omega) (by omega)
      rw [HC1.out] at h
      exact h
    obtain ⟨c2, HC2⟩ : ∃ z, Hid (decide (m.procs = n.procs) = z) := ⟨_, Lib.hid rfl⟩
    have CF2 : Hid (∀ W, Below w1.heap.size w1 W → Calls Tryz.prog 20 #[.slice a.P m.procs.length a.cP, .slice b.P n.procs.length b.cP] W fun e w' => e = .returned (.bool c2) ∧ Below W.heap.size W w') := Lib.hid fun W hS => by
      have h := rsp_any W a.P b.P a.cP b.cP m.procs n.procs HM.out.procs HN.out.procs (HMA.out W hS).P (HMB.out W hS).P (by omega) (by omega)
      rw [HC2.out] at h
      exact h
    obtain ⟨c4, HC4⟩ : ∃ z, Hid (decide (m.blocks = n.blocks) = z) := ⟨_, Lib.hid rfl⟩
    have CF4 : Hid (∀ W, Below w1.heap.size w1 W → Calls Tryz.prog 19 #[.slice a.L m.blocks.length a.cL, .slice b.L n.blocks.length b.cL] W fun e w' => e = .returned (.bool c4) ∧ Below W.heap.size W w') := Lib.hid fun W hS => by
      have h := rtx_any W a.L b.L a.cL b.cL m.blocks n.blocks (HMA.out W hS).L (HMB.out W hS).L (by omega) (by omega)
      rw [HC4.out] at h
      exact h
    obtain ⟨c5, HC5⟩ : ∃ z, Hid (decide (m.pend = n.pend) = z) := ⟨_, Lib.hid rfl⟩
    have CF5 : Hid (∀ W, Below w1.heap.size w1 W → Calls Tryz.prog 21 #[.slice a.N m.pend.length a.cN, .slice b.N n.pend.length b.cN] W fun e w' => e = .returned (.bool c5) ∧ Below W.heap.size W w') := Lib.hid fun W hS => by
      have h := rwr_any W a.N b.N a.cN b.cN m.pend n.pend (HMA.out W hS).N (HMB.out W hS).N (by omega) (by omega)
      rw [HC5.out] at h
      exact h
    obtain ⟨c7, HC7⟩ : ∃ z, Hid (decide (m.dleft = n.dleft) = z) := ⟨_, Lib.hid rfl⟩
    obtain ⟨c6, HC6⟩ : ∃ z, Hid (decide (m.dirty = n.dirty) = z) := ⟨_, Lib.hid rfl⟩
    have CF6 : Hid (∀ W, Below w1.heap.size w1 W → Calls Tryz.prog 21 #[.slice a.D m.dirty.length a.cD, .slice b.D n.dirty.length b.cD] W fun e w' => e = .returned (.bool c6) ∧ Below W.heap.size W w') := Lib.hid fun W hS => by
      have h := rwr_any W a.D b.D a.cD b.cD m.dirty n.dirty (HMA.out W hS).D (HMB.out W hS).D (by omega) (by omega)
      rw [HC6.out] at h
      exact h
    have HSB : Hid (rsameB m n = ((((((c0 && c1) && c2) && c4) && c5) && c7) && c6)) := Lib.hid (by unfold rsameB; rw [HC0.out, HC1.out, HC2.out, HC4.out, HC5.out, HC7.out, HC6.out])
    clear f1 f2 f3 f4 f5 f6 g1 g2 g3 g4 g5 g6
    go_wp2_with fail
    clear n1 n2 c8 d8
    go_loopw [5] (fun i wr => ∃ k : Nat, k ≤ m.pipes.length ∧ i = .int .i64 k ∧ Hid (m.pipes.take k = n.pipes.take k) ∧ Hid (Below w1.heap.size w1 wr)) (fun i _ => m.pipes.length - (intOf i).toNat)
    case atStart => exact ⟨0, by omega, rfl, Lib.hid rfl, Lib.hid (Below.refl _ _)⟩
    case round =>
      obtain ⟨k, hk, rfl, HE, HR⟩ := hrel
      have c8 : wr.cell? ⟨gx, 8, none⟩ = some (.slice a.Q m.pipes.length a.cQ) := (HC.out wr HR.out).cell 8
      by_cases hlt : k < m.pipes.length
      · have hltb : k < n.pipes.length := by rw [← HL.out]; exact hlt
        obtain ⟨x, hx⟩ := get_some hlt
        obtain ⟨y, hy⟩ := get_some hltb
        have TA := Lib.hid (take_more hx)
        have TB := Lib.hid (take_more hy)
        have HNN : Hid (x ≠ y → m.pipes ≠ n.pipes) := Lib.hid (fun hne e => hne (by rw [e] at hx; exact Option.some.inj (hx.symm.trans hy)))
        have hzr := HR.out.size
        obtain ⟨ad, hadr, had, hc⟩ := Lies.row (f := nbCells1) (n := 2) (HMA.out wr HR.out).Q (fun _ _ => rfl) (by omega) hx
        obtain ⟨bd, hbdr, hbd, hc'⟩ := Lies.row (f := nbCells1) (n := 2) (HMB.out wr HR.out).Q (fun _ _ => rfl) (by omega) hy
        have LD : Hid (∀ W, Below wr.heap.size wr W → ∀ j v, (nbCells1 x)[j]? = some v → W.cell? ((ad.add (k * 2)).add j) = some v) := Lib.hid fun W hW j v hv => (hW.cell (by rw [add_block, add_block]; exact had)).trans (hc j v hv)
        have LE : Hid (∀ W, Below wr.heap.size wr W → ∀ j v, (nbCells1 y)[j]? = some v → W.cell? ((bd.add (k * 2)).add j) = some v) := Lib.hid fun W hW j v hv => (hW.cell (by rw [add_block, add_block]; exact hbd)).trans (hc' j v hv)
        have PIX : Hid ((Tryz.prog.info? 46).map (·.size) = some (nbCells1 x).length) := Lib.hid (by kernel_rfl)
        have PIY : Hid ((Tryz.prog.info? 46).map (·.size) = some (nbCells1 y).length) := Lib.hid (by kernel_rfl)
        have HC8 : Hid (∀ W, Below wr.heap.size wr W → W.cell? ⟨gx, 8, none⟩ = some (.slice (some ad) m.pipes.length a.cQ)) := Lib.hid fun W hW => by rw [← hadr]; exact (HC.out W (HR.out.trans (hW.mono hzr))).cell 8
        have HD8 : Hid (∀ W, Below wr.heap.size wr W → W.cell? ⟨gx + 1, 8, none⟩ = some (.slice (some bd) n.pipes.length b.cQ)) := Lib.hid fun W hW => by rw [← hbdr]; exact (HD.out W (HR.out.trans (hW.mono hzr))).cell 8
        have q0 : (0 : Int) ≤ (k : Int) := by omega
        have q1 : (k : Int) < (m.pipes.length : Int) := by omega
        have q2 : (k : Int) < (n.pipes.length : Int) := by omega
        have d1 : decide ((k : Int) < (m.pipes.length : Int)) = true := decide_eq_true q1
        have d2 : decide (k < m.pipes.length) = true := decide_eq_true hlt
        obtain ⟨e, HEE⟩ : ∃ z, Hid (decide (x = y) = z) := ⟨_, Lib.hid rfl⟩
        clear hx hy hc hc'
        go_upto_region 6 with (fail)
        refine' wp_region_sure (by kernel_rfl) (fun W => Below wr.heap.size wr W) 11 [_, _, _, _, _, _, _, _, _, _, .bool (!e)] [some 21, some 22, some 23, some 24, some 25, some 26, some 27, some 28, some 29, some 30, some 31] (by kernel_rfl) (by kernel_rfl) (by kernel_rfl) (by kernel_rfl) rfl (Below.refl _ _).drew ?hs6
        case hs6 =>
          refine sure_cons ?_ ?_
          · intro L ac W K hed hJ hS hK
            have hA2 : ac.eval (.tmp 2) = .pointer (some ⟨gx, 0, none⟩) := hJ.eval_old 2 (by kernel_rfl)
            clear hed hJ
            refine opStep_of rfl ?_
            unfold Oper.wp execOp
            have hN2 := evalN hA2
            go_simp
            exact hK _ hS
          refine sure_cons ?_ ?_
          · intro L ac W K hed hJ hS hK
            have hn := needs_spec (l := [0]) (by kernel_rfl) hed
            have hA21 := hJ.eval 0 (d := 21) (hn 0 (by simp)) rfl rfl rfl
            clear hed hJ hn
            refine opStep_of rfl ?_
            have cc := HC8.out W hS
            unfold Oper.wp execOp
            have hN21 := evalN hA21
            go_simp
            exact hK _ hS
          refine sure_cons ?_ ?_
          · intro L ac W K hed hJ hS hK
            have hA5 : ac.eval (.tmp 5) = .int .i64 (k : Int) := hJ.eval_old 5 (by kernel_rfl)
            clear hed hJ
            refine opStep_of rfl ?_
            unfold Oper.wp execOp
            have hN5 := evalN hA5
            go_simp
            exact hK _ hS
          refine sure_cons ?_ ?_
          · intro L ac W K hed hJ hS hK
            have hn := needs_spec (l := [1, 2]) (by kernel_rfl) hed
            have hA22 := hJ.eval 1 (d := 22) (hn 1 (by simp)) rfl rfl rfl
            have hA23 := hJ.eval 2 (d := 23) (hn 2 (by simp)) rfl rfl rfl
            clear hed hJ hn
            refine opStep_of rfl ?_
            unfold Oper.wp execOp
            have hN22 := evalN hA22
            have hN23 := evalN hA23
            go_simp
            exact hK _ hS
          refine sure_cons ?_ ?_
          · intro L ac W K hed hJ hS hK
            have hn := needs_spec (l := [3]) (by kernel_rfl) hed
            have hA24 := hJ.eval 3 (d := 24) (hn 3 (by simp)) rfl rfl rfl
            clear hed hJ hn
            refine opStep_of rfl ?_
            refine oper_load_at 46 (.tmp 24) rfl (ad.add (k * 2)) hA24 (nbCells1 x) _ (LD.out W hS) Tryz.underlying46 rfl PIX.out ?_
            exact hK _ hS
          refine sure_cons ?_ ?_
          · intro L ac W K hed hJ hS hK
            have hA3 : ac.eval (.tmp 3) = .pointer (some ⟨gx + 1, 0, none⟩) := hJ.eval_old 3 (by kernel_rfl)
            clear hed hJ
            refine opStep_of rfl ?_
            unfold Oper.wp execOp
            have hN3 := evalN hA3
            go_simp
            exact hK _ hS
          refine sure_cons ?_ ?_
          · intro L ac W K hed hJ hS hK
            have hn := needs_spec (l := [5]) (by kernel_rfl) hed
            have hA26 := hJ.eval 5 (d := 26) (hn 5 (by simp)) rfl rfl rfl
            clear hed hJ hn
            refine opStep_of rfl ?_
            have cc := HD8.out W hS
            unfold Oper.wp execOp
            have hN26 := evalN hA26
            go_simp
            exact hK _ hS
          refine sure_cons ?_ ?_
          · intro L ac W K hed hJ hS hK
            have hA5 : ac.eval (.tmp 5) = .int .i64 (k : Int) := hJ.eval_old 5 (by kernel_rfl)
            clear hed hJ
            refine opStep_of rfl ?_
            unfold Oper.wp execOp
            have hN5 := evalN hA5
            go_simp
            exact hK _ hS
          refine sure_cons ?_ ?_
          · intro L ac W K hed hJ hS hK
            have hn := needs_spec (l := [6, 7]) (by kernel_rfl) hed
            have hA27 := hJ.eval 6 (d := 27) (hn 6 (by simp)) rfl rfl rfl
            have hA28 := hJ.eval 7 (d := 28) (hn 7 (by simp)) rfl rfl rfl
            clear hed hJ hn
            refine opStep_of rfl ?_
            unfold Oper.wp execOp
            have hN27 := evalN hA27
            have hN28 := evalN hA28
            go_simp
            exact hK _ hS
          refine sure_cons ?_ ?_
          · intro L ac W K hed hJ hS hK
            have hn := needs_spec (l := [8]) (by kernel_rfl) hed
            have hA29 := hJ.eval 8 (d := 29) (hn 8 (by simp)) rfl rfl rfl
            clear hed hJ hn
            refine opStep_of rfl ?_
            refine oper_load_at 46 (.tmp 29) rfl (bd.add (k * 2)) hA29 (nbCells1 y) _ (LE.out W hS) Tryz.underlying46 rfl PIY.out ?_
            exact hK _ hS
          refine sure_cons ?_ ?_
          · intro L ac W K hed hJ hS hK
            have hn := needs_spec (l := [4, 9]) (by kernel_rfl) hed
            have hA25 := hJ.eval 4 (d := 25) (hn 4 (by simp)) rfl rfl rfl
            have hA30 := hJ.eval 9 (d := 30) (hn 9 (by simp)) rfl rfl rfl
            clear hed hJ hn
            refine opStep_of rfl ?_
            refine oper_neq_agg 46 (.tmp 25) (.tmp 30) rfl (nbCells1 x).toArray (nbCells1 y).toArray hA25 hA30 (by kernel_rfl) (!e) (by have h := nb_neqv_pi W x y; rw [HEE.out] at h; exact h) ?_
            exact hK _ hS
          refine sure_nil ?_
          intro W hS
          simp only [putAll, Act.put, List.setIfInBounds_toArray, List.set_cons_zero, List.set_cons_succ]
          have HR6 := Lib.hid (HR.out.trans (hS.mono hzr))
          clear hS
          cases e
          · have HX : Hid (sameB m n = false) := Lib.hid (sameB_pipes (HNN.out (of_decide_eq_false HEE.out)))
            go_wp2_with fail
            go_ret
            exact ⟨by rw [HX.out]; rfl, by rw [HGX.out]; exact HW.out.trans (HR6.out.mono (by omega))⟩
          · have hxy : x = y := of_decide_eq_true HEE.out
            have HK : Hid (m.pipes.take (k + 1) = n.pipes.take (k + 1)) := Lib.hid (by rw [TA.out, TB.out, HE.out, hxy])
            clear hxy
            go_wp2_with fail
            go_roundw
            case rel =>
              have R : ∃ k' : Nat, k' ≤ m.pipes.length ∧ Value.int .i64 ((k : Int) + 1) = .int .i64 k' ∧ Hid (m.pipes.take k' = n.pipes.take k') ∧ Hid (Below w1.heap.size w1 W) := ⟨k + 1, by omega, by go_num, HK, HR6⟩
              first | exact R | ((repeat apply Exists.intro); exact ⟨R, rfl⟩)
            case measure => simp [intOf]; omega
      · obtain rfl : k = m.pipes.length := by omega
        have hd : decide (m.pipes.length < m.pipes.length) = false := by simp
        have HPP := Lib.hid (take_same HL.out HE.out)
        have HRS := Lib.hid (rsameB_same HPP.out)
        go_upto_region 8 with (fail)
        clear c8
        have m0 : wr.cell? ⟨gx, 0, none⟩ = some (.int .u64 m.clock) := (HC.out wr HR.out).cell 0
        have n0 : wr.cell? ⟨gx + 1, 0, none⟩ = some (.int .u64 n.clock) := (HD.out wr HR.out).cell 0
        have m1 : wr.cell? ⟨gx, 1, none⟩ = some (.int .i64 m.quantum) := (HC.out wr HR.out).cell 1
        have n1 : wr.cell? ⟨gx + 1, 1, none⟩ = some (.int .i64 n.quantum) := (HD.out wr HR.out).cell 1
        have m2 : wr.cell? ⟨gx, 2, none⟩ = some (.int .i64 m.cur) := (HC.out wr HR.out).cell 2
        have n2 : wr.cell? ⟨gx + 1, 2, none⟩ = some (.int .i64 n.cur) := (HD.out wr HR.out).cell 2
        have m3 : wr.cell? ⟨gx, 3, none⟩ = some (.int .i64 m.left) := (HC.out wr HR.out).cell 3
        have n3 : wr.cell? ⟨gx + 1, 3, none⟩ = some (.int .i64 n.left) := (HD.out wr HR.out).cell 3
        have m6 : wr.cell? ⟨gx, 6, none⟩ = some (.int .i64 m.next) := (HC.out wr HR.out).cell 6
        have n6 : wr.cell? ⟨gx + 1, 6, none⟩ = some (.int .i64 n.next) := (HD.out wr HR.out).cell 6
        have m7 : wr.cell? ⟨gx, 7, none⟩ = some (S m.init) := (HC.out wr HR.out).cell 7
        have n7 : wr.cell? ⟨gx + 1, 7, none⟩ = some (S n.init) := (HD.out wr HR.out).cell 7
        have m9 : wr.cell? ⟨gx, 9, none⟩ = some (.int .i64 m.newPipe) := (HC.out wr HR.out).cell 9
        have n9 : wr.cell? ⟨gx + 1, 9, none⟩ = some (.int .i64 n.newPipe) := (HD.out wr HR.out).cell 9
        have m10 : wr.cell? ⟨gx, 10, none⟩ = some (S m.inp) := (HC.out wr HR.out).cell 10
        have n10 : wr.cell? ⟨gx + 1, 10, none⟩ = some (S n.inp) := (HD.out wr HR.out).cell 10
        have m11 : wr.cell? ⟨gx, 11, none⟩ = some (.bool m.fin) := (HC.out wr HR.out).cell 11
        have n11 : wr.cell? ⟨gx + 1, 11, none⟩ = some (.bool n.fin) := (HD.out wr HR.out).cell 11
        have m12 : wr.cell? ⟨gx, 12, none⟩ = some (.int .u64 m.told) := (HC.out wr HR.out).cell 12
        have n12 : wr.cell? ⟨gx + 1, 12, none⟩ = some (.int .u64 n.told) := (HD.out wr HR.out).cell 12
        have HC0' : Hid (c0 = decide (m.clock = n.clock ∧ m.quantum = n.quantum ∧ m.cur = n.cur ∧ m.left = n.left ∧ m.next = n.next ∧ m.init = n.init ∧ m.newPipe = n.newPipe ∧ m.inp = n.inp ∧ m.fin = n.fin ∧ m.told = n.told)) := Lib.hid HC0.out.symm
        go_cut [6] (fun v wc => v = .bool c0 ∧ wc = wr)
        case first =>
          as_aux_lemma =>
          generalize m.clock = x0 at *
          generalize n.clock = y0 at *
          generalize m.quantum = x1 at *
          generalize n.quantum = y1 at *
          generalize m.cur = x2 at *
          generalize n.cur = y2 at *
          generalize m.left = x3 at *
          generalize n.left = y3 at *
          generalize m.next = x6 at *
          generalize n.next = y6 at *
          generalize m.init = x7 at *
          generalize n.init = y7 at *
          generalize m.newPipe = x9 at *
          generalize n.newPipe = y9 at *
          generalize m.inp = x10 at *
          generalize n.inp = y10 at *
          generalize m.fin = x11 at *
          generalize n.fin = y11 at *
          generalize m.told = x12 at *
          generalize n.told = y12 at *
          go_wp2_with fail
          all_goals
            go_meet
            case rel =>
              refine ⟨congrArg Value.bool ?_, rfl⟩
              rw [HC0'.out, Bool.eq_iff_iff]
              simp [*]
              try omega
        case rest =>
        as_aux_lemma =>
        obtain ⟨rfl, hwc⟩ := hcut
        obtain rfl := hwc.symm
        clear m0 n0 m1 n1 m2 n2 m3 n3 m6 n6 m7 n7 m9 n9 m10 n10 m11 n11 m12 n12
        cases c0 with
        | false =>
          go_wp2_with fail
          go_ret
          exact ⟨by rw [← HRS.out, HSB.out]; rfl, by rw [HGX.out]; exact HW.out.trans (HR.out.mono (by omega))⟩
        | true =>
        have x4 : wr.cell? ⟨gx, 4, none⟩ = some (.slice a.F m.frames.length a.cF) := (HC.out wr HR.out).cell 4
        have y4 : wr.cell? ⟨gx + 1, 4, none⟩ = some (.slice b.F n.frames.length b.cF) := (HD.out wr HR.out).cell 4
        go_wp2_with fail
        refine (CF1.out wr HR.out).mono ?_
        rintro e x1w ⟨rfl, hb⟩
        have HX1 := Lib.hid (HR.out.trans (hb.mono HR.out.size))
        clear hb x4 y4 CF1
        cases c1 with
        | false =>
          go_wp2_with fail
          go_ret
          exact ⟨by rw [← HRS.out, HSB.out]; rfl, by rw [HGX.out]; exact HW.out.trans (HX1.out.mono (by omega))⟩
        | true =>
        have x5 : x1w.cell? ⟨gx, 5, none⟩ = some (.slice a.P m.procs.length a.cP) := (HC.out x1w HX1.out).cell 5
        have y5 : x1w.cell? ⟨gx + 1, 5, none⟩ = some (.slice b.P n.procs.length b.cP) := (HD.out x1w HX1.out).cell 5
        go_wp2_with fail
        refine (CF2.out x1w HX1.out).mono ?_
        rintro e x2w ⟨rfl, hb⟩
        have HX2 := Lib.hid (HX1.out.trans (hb.mono HX1.out.size))
        clear hb x5 y5 CF2
        cases c2 with
        | false =>
          go_wp2_with fail
          go_ret
          exact ⟨by rw [← HRS.out, HSB.out]; rfl, by rw [HGX.out]; exact HW.out.trans (HX2.out.mono (by omega))⟩
        | true =>
        have x13 : x2w.cell? ⟨gx, 13, none⟩ = some (.slice a.L m.blocks.length a.cL) := (HC.out x2w HX2.out).cell 13
        have y13 : x2w.cell? ⟨gx + 1, 13, none⟩ = some (.slice b.L n.blocks.length b.cL) := (HD.out x2w HX2.out).cell 13
        go_wp2_with fail
        refine (CF4.out x2w HX2.out).mono ?_
        rintro e x4w ⟨rfl, hb⟩
        have HX4 := Lib.hid (HX2.out.trans (hb.mono HX2.out.size))
        clear hb x13 y13 CF4
        cases c4 with
        | false =>
          go_wp2_with fail
          go_ret
          exact ⟨by rw [← HRS.out, HSB.out]; rfl, by rw [HGX.out]; exact HW.out.trans (HX4.out.mono (by omega))⟩
        | true =>
        have x14 : x4w.cell? ⟨gx, 14, none⟩ = some (.slice a.N m.pend.length a.cN) := (HC.out x4w HX4.out).cell 14
        have y14 : x4w.cell? ⟨gx + 1, 14, none⟩ = some (.slice b.N n.pend.length b.cN) := (HD.out x4w HX4.out).cell 14
        go_wp2_with fail
        refine (CF5.out x4w HX4.out).mono ?_
        rintro e x5w ⟨rfl, hb⟩
        have HX5 := Lib.hid (HX4.out.trans (hb.mono HX4.out.size))
        clear hb x14 y14 CF5
        cases c5 with
        | false =>
          go_wp2_with fail
          go_ret
          exact ⟨by rw [← HRS.out, HSB.out]; rfl, by rw [HGX.out]; exact HW.out.trans (HX5.out.mono (by omega))⟩
        | true =>
        have x15 : x5w.cell? ⟨gx, 15, none⟩ = some (.int .i64 m.dleft) := (HC.out x5w HX5.out).cell 15
        have y15 : x5w.cell? ⟨gx + 1, 15, none⟩ = some (.int .i64 n.dleft) := (HD.out x5w HX5.out).cell 15
        cases c7 with
        | false =>
          have hq : (m.dleft == n.dleft) = false := beq_eq_false_iff_ne.2 (of_decide_eq_false HC7.out)
          have hq2 : decide (m.dleft = n.dleft) = false := HC7.out
          go_wp2_with fail
          go_ret
          exact ⟨by rw [← HRS.out, HSB.out]; rfl, by rw [HGX.out]; exact HW.out.trans (HX5.out.mono (by omega))⟩
        | true =>
        have hq : (m.dleft == n.dleft) = true := beq_iff_eq.2 (of_decide_eq_true HC7.out)
        have hq2 : decide (m.dleft = n.dleft) = true := HC7.out
        have x16 : x5w.cell? ⟨gx, 16, none⟩ = some (.slice a.D m.dirty.length a.cD) := (HC.out x5w HX5.out).cell 16
        have y16 : x5w.cell? ⟨gx + 1, 16, none⟩ = some (.slice b.D n.dirty.length b.cD) := (HD.out x5w HX5.out).cell 16
        go_wp2_with fail
        refine (CF6.out x5w HX5.out).mono ?_
        rintro e x6w ⟨rfl, hb⟩
        have HX6 := Lib.hid (HX5.out.trans (hb.mono HX5.out.size))
        clear hb x16 y16 CF6
        cases c6 with
        | false =>
          go_wp2_with fail
          go_ret
          exact ⟨by rw [← HRS.out, HSB.out]; rfl, by rw [HGX.out]; exact HW.out.trans (HX6.out.mono (by omega))⟩
        | true =>
        go_wp2_with fail
        go_ret
        exact ⟨by rw [← HRS.out, HSB.out]; rfl, by rw [HGX.out]; exact HW.out.trans (HX6.out.mono (by omega))⟩
  · have n1 : ((m.pipes.length : Int) != (n.pipes.length : Int)) = true := by simp; omega
    have n2 : (m.pipes.length != n.pipes.length) = true := by simp [hl]
    have HQ := Lib.hid (sameB_pipes (m := m) (n := n) (fun e => hl (by rw [e])))
    clear hl
    go_wp2_with fail
    go_ret
    exact ⟨by rw [HQ.out]; rfl, by rw [HGX.out]; exact HW.out⟩
set_option maxRecDepth 100000 in
set_option maxHeartbeats 4000000 in
theorem r30same_any (w : World) (a b : MA) (m n : Mc) (hm : McOk m) (hn : McOk n) (hpm : m.pipes.length ≤ 1099511627776) (hA : MAt w w.heap.size a m) (hB : MAt w w.heap.size b n) :
    Calls Tryz.prog 7 #[.agg (mcL a m).toArray, .agg (mcL b n).toArray] w fun e w' => e = .returned (.bool (sameB m n)) ∧ Below w.heap.size w w' := by
  have hs0 := (Whole.made w 30 (mcL a m).toArray).block (.cells (mcL b n).toArray 30)
  have hs1 := Whole.made (w.alloc (.cells (mcL a m).toArray 30)) 30 (mcL b n).toArray
  rw [show (w.alloc (.cells (mcL a m).toArray 30)).heap.size = w.heap.size + 1 by simp] at hs1
  have hb : Below w.heap.size w ((w.alloc (.cells (mcL a m).toArray 30)).alloc (.cells (mcL b n).toArray 30)) := ((Below.refl _ _).alloc (by first | exact Nat.le_refl _ | simp | (simp; omega)) _).alloc (by first | exact Nat.le_refl _ | simp | (simp; omega)) _
  go_enter Tryz.func7, Tryz.ntmps7
  go_upto_region 1 with (fail)
  change Code.wp _ _ _ _ ((w.alloc (.cells (mcL a m).toArray 30)).alloc (.cells (mcL b n).toArray 30))
  generalize ((w.alloc (.cells (mcL a m).toArray 30)).alloc (.cells (mcL b n).toArray 30)) = w1 at *
  generalize hgx : w.heap.size = gx at *
  have HGX := Lib.hid hgx
  have HS0 := Lib.hid hs0
  have HS1 := Lib.hid hs1
  have HW := Lib.hid hb
  have hgl : gx + 1 < w1.heap.size := hs1.lt
  clear hgx hb hs0 hs1
  have HA := Lib.hid (hA.below HW.out)
  have HB := Lib.hid (hB.below HW.out)
  have HM := Lib.hid hm
  have HN := Lib.hid hn
  have HMA : Hid (∀ W, Below w1.heap.size w1 W → MAt W W.heap.size a m) := Lib.hid fun W hW => (HA.out.below (hW.mono (by omega))).wide (by have := hW.size; omega)
  have HMB : Hid (∀ W, Below w1.heap.size w1 W → MAt W W.heap.size b n) := Lib.hid fun W hW => (HB.out.below (hW.mono (by omega))).wide (by have := hW.size; omega)
  have HC : Hid (∀ W, Below w1.heap.size w1 W → Whole W gx 30 (mcL a m).toArray) := Lib.hid fun W hW => HS0.out.below hW (by omega)
  have HD : Hid (∀ W, Below w1.heap.size w1 W → Whole W (gx + 1) 30 (mcL b n).toArray) := Lib.hid fun W hW => HS1.out.below hW hgl
  have HLM : Hid (∀ W, Below w1.heap.size w1 W → ∀ j v, (mcL a m)[j]? = some v → W.cell? ((⟨gx, 0, none⟩ : Addr).add j) = some v) := Lib.hid fun W hW => (HC.out W hW).reads
  have HLN : Hid (∀ W, Below w1.heap.size w1 W → ∀ j v, (mcL b n)[j]? = some v → W.cell? ((⟨gx + 1, 0, none⟩ : Addr).add j) = some v) := Lib.hid fun W hW => (HD.out W hW).reads
  have MI : Hid ((Tryz.prog.info? 30).map (·.size) = some (mcL a m).length) := Lib.hid (by rw [mcL_length]; exact Tryz.sizeMc)
  have NI : Hid ((Tryz.prog.info? 30).map (·.size) = some (mcL b n).length) := Lib.hid (by rw [mcL_length]; exact Tryz.sizeMc)
  have CS : Hid (∀ W, Below w1.heap.size w1 W → Calls Tryz.prog 10 #[.agg (mcL a m).toArray, .agg (mcL b n).toArray] W fun e w' => e = .returned (.bool (sameB m n)) ∧ Below W.heap.size W w') := Lib.hid fun W hW => rsame_any W a b m n hm hn hpm (HMA.out W hW) (HMB.out W hW)
  clear hm hn hA hB
  have L1 := Lib.hid (HLM.out w1 (Below.refl _ _))
  have L2 := Lib.hid (HLN.out w1 (Below.refl _ _))
  have C1 := CS.out w1 (Below.refl _ _)
  obtain ⟨sb, HSB⟩ : ∃ z, Hid (sameB m n = z) := ⟨_, Lib.hid rfl⟩
  rw [HSB.out] at C1
  go_wp2_with (first
    | (refine wpList_load_at rfl 30 (.tmp 2) rfl ⟨gx, 0, none⟩ rfl (mcL a m) _ L1.out Tryz.underlying30 rfl MI.out ?_)
    | (refine wpList_load_at rfl 30 (.tmp 3) rfl ⟨gx + 1, 0, none⟩ rfl (mcL b n) _ L2.out Tryz.underlying30 rfl NI.out ?_))
  refine C1.mono ?_
  rintro e w2 ⟨rfl, hb⟩
  have HV := Lib.hid hb
  clear hb
  go_wp2_with fail
  go_ret
  exact ⟨by rw [HSB.out]; rfl, by rw [HGX.out]; exact HW.out.trans (HV.out.mono (by omega))⟩
end Go.Proofs.YtfdflkddmgninaaGreatDoor
