/-
  Walks: machine.plainOf, machine.Same. (Printed by gen_msc.py.)
-/
import Derived.Test.YtfdflkddmgninaaGreatDoorMsAB
namespace Go.Proofs.YtfdflkddmgninaaGreatDoor
open Go.RowKit

/-- are two machines the same, in all? -/
def sameB (m n : Mc) : Bool := (((((plB m n && decide (m.frames = n.frames)) && decide (m.procs = n.procs)) && decide (m.pipes = n.pipes)) && decide (m.blocks = n.blocks)) && decide (m.pend = n.pend)) && decide (m.dirty = n.dirty)
theorem sameB_iff {m n : Mc} : sameB m n = true ↔ m = n := by
  obtain ⟨a0, a1, a2, a3, a4, a5, a6, a7, a8, a9, a10, a11, a12, a13, a14, a15, a16⟩ := m
  obtain ⟨b0, b1, b2, b3, b4, b5, b6, b7, b8, b9, b10, b11, b12, b13, b14, b15, b16⟩ := n
  simp only [sameB, plB, Bool.and_eq_true, decide_eq_true_eq, Mc.mk.injEq]
  constructor
  · rintro ⟨⟨⟨⟨⟨⟨⟨h0, h12, h1, h2, h3, h6, h9, h15, h7, h10, h11⟩, h4⟩, h5⟩, h8⟩, h13⟩, h14⟩, h16⟩
    exact ⟨h0, h1, h2, h3, h4, h5, h6, h7, h8, h9, h10, h11, h12, h13, h14, h15, h16⟩
  · rintro ⟨h0, h1, h2, h3, h4, h5, h6, h7, h8, h9, h10, h11, h12, h13, h14, h15, h16⟩
    exact ⟨⟨⟨⟨⟨⟨⟨h0, h12, h1, h2, h3, h6, h9, h15, h7, h10, h11⟩, h4⟩, h5⟩, h8⟩, h13⟩, h14⟩, h16⟩
theorem sameB_refl (m : Mc) : sameB m m = true := sameB_iff.2 rfl
theorem sameB_comm (m n : Mc) : sameB m n = sameB n m := by rw [Bool.eq_iff_iff, sameB_iff, sameB_iff]; exact ⟨Eq.symm, Eq.symm⟩
def rplB (m n : Mc) : Bool := decide (m.clock = n.clock ∧ m.quantum = n.quantum ∧ m.cur = n.cur ∧ m.left = n.left ∧ m.next = n.next ∧ m.init = n.init ∧ m.newPipe = n.newPipe ∧ m.inp = n.inp ∧ m.fin = n.fin ∧ m.told = n.told)
def rsameB (m n : Mc) : Bool := (((((rplB m n && decide (m.frames = n.frames)) && decide (m.procs = n.procs)) && decide (m.blocks = n.blocks)) && decide (m.pend = n.pend)) && decide (m.dleft = n.dleft)) && decide (m.dirty = n.dirty)
theorem rsameB_same {m n : Mc} (h : m.pipes = n.pipes) : rsameB m n = sameB m n := by
  rw [Bool.eq_iff_iff]
  simp only [rsameB, rplB, sameB, plB, Bool.and_eq_true, decide_eq_true_eq]
  constructor
  · rintro ⟨⟨⟨⟨⟨⟨⟨h0, h1, h2, h3, h6, h7, h9, h10, h11, h12⟩, h4⟩, h5⟩, h13⟩, h14⟩, h15⟩, h16⟩
    exact ⟨⟨⟨⟨⟨⟨⟨h0, h12, h1, h2, h3, h6, h9, h15, h7, h10, h11⟩, h4⟩, h5⟩, h⟩, h13⟩, h14⟩, h16⟩
  · rintro ⟨⟨⟨⟨⟨⟨⟨h0, h12, h1, h2, h3, h6, h9, h15, h7, h10, h11⟩, h4⟩, h5⟩, _⟩, h13⟩, h14⟩, h16⟩
    exact ⟨⟨⟨⟨⟨⟨⟨h0, h1, h2, h3, h6, h7, h9, h10, h11, h12⟩, h4⟩, h5⟩, h13⟩, h14⟩, h15⟩, h16⟩
theorem sameB_pipes {m n : Mc} (h : m.pipes ≠ n.pipes) : sameB m n = false := Bool.eq_false_iff.2 fun e => h (by rw [sameB_iff.1 e])
def zeroPl : List Value := [.int .u64 0, .int .u64 0, .int .i64 0, .int .i64 0, .int .i64 0, .int .i64 0, .int .i64 0, .int .i64 0, S [], S [], .bool false]
theorem plL_one (m : Mc) : ∀ v ∈ plL m, v.oneCell' = true := by
  intro v hv
  simp only [plL, List.mem_cons, List.not_mem_nil, or_false] at hv
  rcases hv with rfl | rfl | rfl | rfl | rfl | rfl | rfl | rfl | rfl | rfl | rfl <;> rfl
set_option maxRecDepth 100000 in
set_option maxHeartbeats 2000000 in
theorem plain_any (w : World) (a : MA) (m : Mc) :
    Calls Tryz.prog 13 #[.agg (mcL a m).toArray] w fun e w' => e = .returned (.agg (plL m).toArray) ∧ Below w.heap.size w w' := by
  have hs0 := (Whole.made w 30 (mcL a m).toArray).block (.cells zeroPl.toArray 60)
  have hs1 := Whole.made (w.alloc (.cells (mcL a m).toArray 30)) 60 zeroPl.toArray
  rw [show (w.alloc (.cells (mcL a m).toArray 30)).heap.size = w.heap.size + 1 by simp] at hs1
  have hb : Below w.heap.size w ((w.alloc (.cells (mcL a m).toArray 30)).alloc (.cells zeroPl.toArray 60)) := ((Below.refl _ _).alloc (by first | exact Nat.le_refl _ | simp | (simp; omega)) _).alloc (by first | exact Nat.le_refl _ | simp | (simp; omega)) _
  go_enter Tryz.func13, Tryz.ntmps13
  go_upto_region 1 with (fail)
  change Code.wp _ _ _ _ ((w.alloc (.cells (mcL a m).toArray 30)).alloc (.cells zeroPl.toArray 60))
  generalize ((w.alloc (.cells (mcL a m).toArray 30)).alloc (.cells zeroPl.toArray 60)) = w1 at *
  generalize hgx : w.heap.size = gx at *
  have HGX := Lib.hid hgx
  have HS0 := Lib.hid hs0
  have HS1 := Lib.hid hs1
  have HW := Lib.hid hb
  have hgl : gx + 1 < w1.heap.size := hs1.lt
  clear hgx hb hs0 hs1
  have m0 : w1.cell? ⟨gx, 0, none⟩ = some (.int .u64 m.clock) := HS0.out.cell 0
  have m1 : w1.cell? ⟨gx, 1, none⟩ = some (.int .i64 m.quantum) := HS0.out.cell 1
  have m2 : w1.cell? ⟨gx, 2, none⟩ = some (.int .i64 m.cur) := HS0.out.cell 2
  have m3 : w1.cell? ⟨gx, 3, none⟩ = some (.int .i64 m.left) := HS0.out.cell 3
  have m6 : w1.cell? ⟨gx, 6, none⟩ = some (.int .i64 m.next) := HS0.out.cell 6
  have m7 : w1.cell? ⟨gx, 7, none⟩ = some (S m.init) := HS0.out.cell 7
  have m9 : w1.cell? ⟨gx, 9, none⟩ = some (.int .i64 m.newPipe) := HS0.out.cell 9
  have m10 : w1.cell? ⟨gx, 10, none⟩ = some (S m.inp) := HS0.out.cell 10
  have m11 : w1.cell? ⟨gx, 11, none⟩ = some (.bool m.fin) := HS0.out.cell 11
  have m12 : w1.cell? ⟨gx, 12, none⟩ = some (.int .u64 m.told) := HS0.out.cell 12
  have m15 : w1.cell? ⟨gx, 15, none⟩ = some (.int .i64 m.dleft) := HS0.out.cell 15
  have MI : Hid ((Tryz.prog.info? 60).map (·.size) = some (plL m).length) := Lib.hid (by kernel_rfl)
  go_wp2_with (refine wpList_store_all rfl 60 (.tmp 2) (.tmp 26) rfl rfl (gx + 1) rfl (plL m) rfl MI.out zeroPl 60 HS1.out rfl (plL_one m) ?_; intro wz hw hk)
  refine bodyPost_ret (v := .agg (plL m).toArray) (results_cell_row rfl _ _ (gx + 1) 60 _ (0, 0) _ rfl hw.out Tryz.underlying60 rfl (by rw [List.size_toArray]; exact MI.out)) rfl ?_
  exact ⟨rfl, by rw [HGX.out]; exact HW.out.grown hk.out (by omega) (fun q e => by injection e with e; omega)⟩
set_option maxRecDepth 100000 in
set_option maxHeartbeats 4000000 in
theorem same_any (w : World) (a b : MA) (m n : Mc) (hm : McOk m) (hn : McOk n) (hpm : m.pipes.length ≤ 1099511627776) (hpn : n.pipes.length ≤ 1099511627776) (hA : MAt w w.heap.size a m) (hB : MAt w w.heap.size b n) :
    Calls Tryz.prog 6 #[.agg (mcL a m).toArray, .agg (mcL b n).toArray] w fun e w' => e = .returned (.bool (sameB m n)) ∧ Below w.heap.size w w' := by
  have hs0 := (Whole.made w 30 (mcL a m).toArray).block (.cells (mcL b n).toArray 30)
  have hs1 := Whole.made (w.alloc (.cells (mcL a m).toArray 30)) 30 (mcL b n).toArray
  rw [show (w.alloc (.cells (mcL a m).toArray 30)).heap.size = w.heap.size + 1 by simp] at hs1
  have hb : Below w.heap.size w ((w.alloc (.cells (mcL a m).toArray 30)).alloc (.cells (mcL b n).toArray 30)) := ((Below.refl _ _).alloc (by first | exact Nat.le_refl _ | simp | (simp; omega)) _).alloc (by first | exact Nat.le_refl _ | simp | (simp; omega)) _
  go_enter Tryz.func6, Tryz.ntmps6
  go_upto_region 1 with (fail)
  change Code.wp _ _ _ _ ((w.alloc (.cells (mcL a m).toArray 30)).alloc (.cells (mcL b n).toArray 30))
  generalize ((w.alloc (.cells (mcL a m).toArray 30)).alloc (.cells (mcL b n).toArray 30)) = w1 at *
  generalize hgx : w.heap.size = gx at *
  have HGX := Lib.hid hgx
  have HS0 := Lib.hid hs0
  have HS1 := Lib.hid hs1
  have HW := Lib.hid hb
  have hgl : gx + 1 < w1.heap.size := hs1.lt
  clear hgx hb hs0 hs1
  have HA := Lib.hid (hA.below HW.out)
  have HB := Lib.hid (hB.below HW.out)
  have HM := Lib.hid hm
  have HN := Lib.hid hn
  have HMA : Hid (∀ W, Below w1.heap.size w1 W → MAt W W.heap.size a m) := Lib.hid fun W hW => (HA.out.below (hW.mono (by omega))).wide (by have := hW.size; omega)
  have HMB : Hid (∀ W, Below w1.heap.size w1 W → MAt W W.heap.size b n) := Lib.hid fun W hW => (HB.out.below (hW.mono (by omega))).wide (by have := hW.size; omega)
  have HC : Hid (∀ W, Below w1.heap.size w1 W → Whole W gx 30 (mcL a m).toArray) := Lib.hid fun W hW => HS0.out.below hW (by omega)
  have HD : Hid (∀ W, Below w1.heap.size w1 W → Whole W (gx + 1) 30 (mcL b n).toArray) := Lib.hid fun W hW => HS1.out.below hW hgl
  have HLM : Hid (∀ W, Below w1.heap.size w1 W → ∀ j v, (mcL a m)[j]? = some v → W.cell? ((⟨gx, 0, none⟩ : Addr).add j) = some v) := Lib.hid fun W hW => (HC.out W hW).reads
  have HLN : Hid (∀ W, Below w1.heap.size w1 W → ∀ j v, (mcL b n)[j]? = some v → W.cell? ((⟨gx + 1, 0, none⟩ : Addr).add j) = some v) := Lib.hid fun W hW => (HD.out W hW).reads
  have MI : Hid ((Tryz.prog.info? 30).map (·.size) = some (mcL a m).length) := Lib.hid (by rw [mcL_length]; exact Tryz.sizeMc)
  have NI : Hid ((Tryz.prog.info? 30).map (·.size) = some (mcL b n).length) := Lib.hid (by rw [mcL_length]; exact Tryz.sizeMc)
  obtain ⟨f1, f2, f3, f4, f5, f6⟩ := hm.sizes
  obtain ⟨g1, g2, g3, g4, g5, g6⟩ := hn.sizes
  clear hm hn hA hB
  obtain ⟨c0, HC0⟩ : ∃ z, Hid (plB m n = z) := ⟨_, Lib.hid rfl⟩
  obtain ⟨c1, HC1⟩ : ∃ z, Hid (decide (m.frames = n.frames) = z) := ⟨_, Lib.hid rfl⟩
  have CF1 : Hid (∀ W, Below w1.heap.size w1 W → Calls Tryz.prog 14 #[.slice a.F m.frames.length a.cF, .slice b.F n.frames.length b.cF] W fun e w' => e = .returned (.bool c1) ∧ Below W.heap.size W w') := Lib.hid fun W hS => by
    have h := eqS_any W a.F b.F a.cF b.cF m.frames n.frames (HMA.out W hS).F (HMB.out W hS).F (by omega) (by omega)
    rw [HC1.out] at h
    exact h
  obtain ⟨c2, HC2⟩ : ∃ z, Hid (decide (m.procs = n.procs) = z) := ⟨_, Lib.hid rfl⟩
  have CF2 : Hid (∀ W, Below w1.heap.size w1 W → Calls Tryz.prog 15 #[.slice a.P m.procs.length a.cP, .slice b.P n.procs.length b.cP] W fun e w' => e = .returned (.bool c2) ∧ Below W.heap.size W w') := Lib.hid fun W hS => by
    have h := eqP_any W a.P b.P a.cP b.cP m.procs n.procs HM.out.procs HN.out.procs (HMA.out W hS).P (HMB.out W hS).P (by omega) (by omega)
    rw [HC2.out] at h
    exact h
  obtain ⟨c3, HC3⟩ : ∃ z, Hid (decide (m.pipes = n.pipes) = z) := ⟨_, Lib.hid rfl⟩
  have CF3 : Hid (∀ W, Below w1.heap.size w1 W → Calls Tryz.prog 16 #[.slice a.Q m.pipes.length a.cQ, .slice b.Q n.pipes.length b.cQ] W fun e w' => e = .returned (.bool c3) ∧ Below W.heap.size W w') := Lib.hid fun W hS => by
    have h := eqQ_any W a.Q b.Q a.cQ b.cQ m.pipes n.pipes (HMA.out W hS).Q (HMB.out W hS).Q (by omega) (by omega)
    rw [HC3.out] at h
    exact h
  obtain ⟨c4, HC4⟩ : ∃ z, Hid (decide (m.blocks = n.blocks) = z) := ⟨_, Lib.hid rfl⟩
  have CF4 : Hid (∀ W, Below w1.heap.size w1 W → Calls Tryz.prog 14 #[.slice a.L m.blocks.length a.cL, .slice b.L n.blocks.length b.cL] W fun e w' => e = .returned (.bool c4) ∧ Below W.heap.size W w') := Lib.hid fun W hS => by
    have h := eqS_any W a.L b.L a.cL b.cL m.blocks n.blocks (HMA.out W hS).L (HMB.out W hS).L (by omega) (by omega)
    rw [HC4.out] at h
    exact h
  obtain ⟨c5, HC5⟩ : ∃ z, Hid (decide (m.pend = n.pend) = z) := ⟨_, Lib.hid rfl⟩
  have CF5 : Hid (∀ W, Below w1.heap.size w1 W → Calls Tryz.prog 17 #[.slice a.N m.pend.length a.cN, .slice b.N n.pend.length b.cN] W fun e w' => e = .returned (.bool c5) ∧ Below W.heap.size W w') := Lib.hid fun W hS => by
    have h := eqN_any W a.N b.N a.cN b.cN m.pend n.pend (HMA.out W hS).N (HMB.out W hS).N (by omega) (by omega)
    rw [HC5.out] at h
    exact h
  obtain ⟨c6, HC6⟩ : ∃ z, Hid (decide (m.dirty = n.dirty) = z) := ⟨_, Lib.hid rfl⟩
  have CF6 : Hid (∀ W, Below w1.heap.size w1 W → Calls Tryz.prog 17 #[.slice a.D m.dirty.length a.cD, .slice b.D n.dirty.length b.cD] W fun e w' => e = .returned (.bool c6) ∧ Below W.heap.size W w') := Lib.hid fun W hS => by
    have h := eqN_any W a.D b.D a.cD b.cD m.dirty n.dirty (HMA.out W hS).D (HMB.out W hS).D (by omega) (by omega)
    rw [HC6.out] at h
    exact h
  have HSB : Hid (sameB m n = ((((((c0 && c1) && c2) && c3) && c4) && c5) && c6)) := Lib.hid (by unfold sameB; rw [HC0.out, HC1.out, HC2.out, HC3.out, HC4.out, HC5.out, HC6.out])
  clear f1 f2 f3 f4 f5 f6 g1 g2 g3 g4 g5 g6 hpm hpn
  refine' wp_region_sure (by kernel_rfl) (fun W => Below w1.heap.size w1 W) 52 [_, _, _, _, _, _, cv (c0) (.pointer (some ⟨gx, 4, none⟩)), cv (c0) (.slice a.F m.frames.length a.cF), cv (c0) (.pointer (some ⟨gx + 1, 4, none⟩)), cv (c0) (.slice b.F n.frames.length b.cF), cv (c0) (.bool c1), .bool (c0 && c1), _, cv ((c0 && c1)) (.pointer (some ⟨gx, 5, none⟩)), cv ((c0 && c1)) (.slice a.P m.procs.length a.cP), cv ((c0 && c1)) (.pointer (some ⟨gx + 1, 5, none⟩)), cv ((c0 && c1)) (.slice b.P n.procs.length b.cP), cv ((c0 && c1)) (.bool c2), .bool ((c0 && c1) && c2), _, cv (((c0 && c1) && c2)) (.pointer (some ⟨gx, 8, none⟩)), cv (((c0 && c1) && c2)) (.slice a.Q m.pipes.length a.cQ), cv (((c0 && c1) && c2)) (.pointer (some ⟨gx + 1, 8, none⟩)), cv (((c0 && c1) && c2)) (.slice b.Q n.pipes.length b.cQ), cv (((c0 && c1) && c2)) (.bool c3), .bool (((c0 && c1) && c2) && c3), _, cv ((((c0 && c1) && c2) && c3)) (.pointer (some ⟨gx, 13, none⟩)), cv ((((c0 && c1) && c2) && c3)) (.pointer (some ⟨gx, 13, none⟩)), cv ((((c0 && c1) && c2) && c3)) (.slice a.L m.blocks.length a.cL), cv ((((c0 && c1) && c2) && c3)) (.pointer (some ⟨gx + 1, 13, none⟩)), cv ((((c0 && c1) && c2) && c3)) (.pointer (some ⟨gx + 1, 13, none⟩)), cv ((((c0 && c1) && c2) && c3)) (.slice b.L n.blocks.length b.cL), cv ((((c0 && c1) && c2) && c3)) (.bool c4), .bool ((((c0 && c1) && c2) && c3) && c4), _, cv (((((c0 && c1) && c2) && c3) && c4)) (.pointer (some ⟨gx, 13, none⟩)), cv (((((c0 && c1) && c2) && c3) && c4)) (.pointer (some ⟨gx, 14, none⟩)), cv (((((c0 && c1) && c2) && c3) && c4)) (.slice a.N m.pend.length a.cN), cv (((((c0 && c1) && c2) && c3) && c4)) (.pointer (some ⟨gx + 1, 13, none⟩)), cv (((((c0 && c1) && c2) && c3) && c4)) (.pointer (some ⟨gx + 1, 14, none⟩)), cv (((((c0 && c1) && c2) && c3) && c4)) (.slice b.N n.pend.length b.cN), cv (((((c0 && c1) && c2) && c3) && c4)) (.bool c5), .bool (((((c0 && c1) && c2) && c3) && c4) && c5), _, cv ((((((c0 && c1) && c2) && c3) && c4) && c5)) (.pointer (some ⟨gx, 16, none⟩)), cv ((((((c0 && c1) && c2) && c3) && c4) && c5)) (.slice a.D m.dirty.length a.cD), cv ((((((c0 && c1) && c2) && c3) && c4) && c5)) (.pointer (some ⟨gx + 1, 16, none⟩)), cv ((((((c0 && c1) && c2) && c3) && c4) && c5)) (.slice b.D n.dirty.length b.cD), cv ((((((c0 && c1) && c2) && c3) && c4) && c5)) (.bool c6), .bool ((((((c0 && c1) && c2) && c3) && c4) && c5) && c6), _] [some 5, some 6, some 7, some 8, some 9, some 10, some 11, some 12, some 13, some 14, some 15, some 16, some 17, some 18, some 19, some 20, some 21, some 22, some 23, some 24, some 25, some 26, some 27, some 28, some 29, some 30, some 31, some 32, some 33, some 34, some 35, some 36, some 37, some 38, some 39, some 40, some 41, some 42, some 43, some 44, some 45, some 46, some 47, some 48, some 49, some 50, some 51, some 52, some 53, some 54, some 55, some 4] (by kernel_rfl) (by kernel_rfl) (by kernel_rfl) (by kernel_rfl) rfl (Below.refl _ _).drew ?hs
  case hs =>
    refine sure_cons ?_ ?_
    · intro L ac W K hed hJ hS hK
      have hA2 : ac.eval (.tmp 2) = .pointer (some ⟨gx, 0, none⟩) := hJ.eval_old 2 (by kernel_rfl)
      clear hed hJ
      refine opStep_of rfl ?_
      refine oper_load_at 30 (.tmp 2) rfl ⟨gx, 0, none⟩ hA2 (mcL a m) _ (HLM.out W hS) Tryz.underlying30 rfl MI.out ?_
      exact hK _ hS
    refine sure_cons ?_ ?_
    · intro L ac W K hed hJ hS hK
      have hn := needs_spec (l := [0]) (by kernel_rfl) hed
      have hA5 := hJ.eval 0 (d := 5) (hn 0 (by simp)) rfl rfl rfl
      clear hed hJ hn
      refine opStep_of rfl ?_
      unfold Oper.wp execOp
      have hN5 := evalN hA5
      go_simp
      refine (plain_any W a m).mono ?_
      rintro e W' ⟨rfl, hb⟩
      have hS2 := hS.trans (hb.mono hS.size)
      dsimp only
      exact hK W' hS2
    refine sure_cons ?_ ?_
    · intro L ac W K hed hJ hS hK
      have hA3 : ac.eval (.tmp 3) = .pointer (some ⟨gx + 1, 0, none⟩) := hJ.eval_old 3 (by kernel_rfl)
      clear hed hJ
      refine opStep_of rfl ?_
      refine oper_load_at 30 (.tmp 3) rfl ⟨gx + 1, 0, none⟩ hA3 (mcL b n) _ (HLN.out W hS) Tryz.underlying30 rfl NI.out ?_
      exact hK _ hS
    refine sure_cons ?_ ?_
    · intro L ac W K hed hJ hS hK
      have hn := needs_spec (l := [2]) (by kernel_rfl) hed
      have hA7 := hJ.eval 2 (d := 7) (hn 2 (by simp)) rfl rfl rfl
      clear hed hJ hn
      refine opStep_of rfl ?_
      unfold Oper.wp execOp
      have hN7 := evalN hA7
      go_simp
      refine (plain_any W b n).mono ?_
      rintro e W' ⟨rfl, hb⟩
      have hS2 := hS.trans (hb.mono hS.size)
      dsimp only
      exact hK W' hS2
    refine sure_cons ?_ ?_
    · intro L ac W K hed hJ hS hK
      have hn := needs_spec (l := [1, 3]) (by kernel_rfl) hed
      have hA6 := hJ.eval 1 (d := 6) (hn 1 (by simp)) rfl rfl rfl
      have hA8 := hJ.eval 3 (d := 8) (hn 3 (by simp)) rfl rfl rfl
      clear hed hJ hn
      refine opStep_of rfl ?_
      refine oper_eql_agg 60 (.tmp 6) (.tmp 8) rfl (plL m).toArray (plL n).toArray hA6 hA8 (by kernel_rfl) c0 (by have h := pl_eqv W m n; rw [HC0.out] at h; exact h) ?_
      exact hK _ hS
    refine sure_cons ?_ ?_
    · intro L ac W K hed hJ hS hK
      have hn := needs_spec (l := [4]) (by kernel_rfl) hed
      have hA9 := hJ.eval 4 (d := 9) (hn 4 (by simp)) rfl rfl rfl
      clear hed hJ hn
      refine opStep_of rfl ?_
      unfold Oper.wp execOp
      have hN9 := evalN hA9
      go_simp
      exact hK _ hS
    refine sure_cons ?_ ?_
    · intro L ac W K hed hJ hS hK
      have hn := needs_spec (l := [5]) (by kernel_rfl) hed
      have hA2 : ac.eval (.tmp 2) = .pointer (some ⟨gx, 0, none⟩) := hJ.eval_old 2 (by kernel_rfl)
      have hA10 := hJ.eval 5 (d := 10) (hn 5 (by simp)) rfl rfl rfl
      have hsz := Lib.hid hJ.size
      clear hed hJ hn
      refine opStep_may rfl (d := 10) rfl (by rw [hsz.out]; rfl) hA10 (fun hc => ?_) (fun hc => by rw [cv_f hc] at hK; exact hK _ hS)
      rw [cv_t hc] at hK
      clear hsz hc
      unfold Oper.wp execOp
      have hN2 := evalN hA2
      go_simp
      exact hK _ hS
    refine sure_cons ?_ ?_
    · intro L ac W K hed hJ hS hK
      have hn := needs_spec (l := [5, 6]) (by kernel_rfl) hed
      have hA11 := hJ.eval 6 (d := 11) (hn 6 (by simp)) rfl rfl rfl
      have hA10 := hJ.eval 5 (d := 10) (hn 5 (by simp)) rfl rfl rfl
      have hsz := Lib.hid hJ.size
      clear hed hJ hn
      refine opStep_may rfl (d := 10) rfl (by rw [hsz.out]; rfl) hA10 (fun hc => ?_) (fun hc => by rw [cv_f hc] at hK; exact hK _ hS)
      rw [cv_t hc] at hK
      rw [cv_t hc] at hA11
      clear hsz hc
      have cc : W.cell? ⟨gx, 4, none⟩ = some (.slice a.F m.frames.length a.cF) := (HC.out W hS).cell 4
      unfold Oper.wp execOp
      have hN11 := evalN hA11
      go_simp
      exact hK _ hS
    refine sure_cons ?_ ?_
    · intro L ac W K hed hJ hS hK
      have hn := needs_spec (l := [5]) (by kernel_rfl) hed
      have hA3 : ac.eval (.tmp 3) = .pointer (some ⟨gx + 1, 0, none⟩) := hJ.eval_old 3 (by kernel_rfl)
      have hA10 := hJ.eval 5 (d := 10) (hn 5 (by simp)) rfl rfl rfl
      have hsz := Lib.hid hJ.size
      clear hed hJ hn
      refine opStep_may rfl (d := 10) rfl (by rw [hsz.out]; rfl) hA10 (fun hc => ?_) (fun hc => by rw [cv_f hc] at hK; exact hK _ hS)
      rw [cv_t hc] at hK
      clear hsz hc
      unfold Oper.wp execOp
      have hN3 := evalN hA3
      go_simp
      exact hK _ hS
    refine sure_cons ?_ ?_
    · intro L ac W K hed hJ hS hK
      have hn := needs_spec (l := [5, 8]) (by kernel_rfl) hed
      have hA13 := hJ.eval 8 (d := 13) (hn 8 (by simp)) rfl rfl rfl
      have hA10 := hJ.eval 5 (d := 10) (hn 5 (by simp)) rfl rfl rfl
      have hsz := Lib.hid hJ.size
      clear hed hJ hn
      refine opStep_may rfl (d := 10) rfl (by rw [hsz.out]; rfl) hA10 (fun hc => ?_) (fun hc => by rw [cv_f hc] at hK; exact hK _ hS)
      rw [cv_t hc] at hK
      rw [cv_t hc] at hA13
      clear hsz hc
      have cc : W.cell? ⟨gx + 1, 4, none⟩ = some (.slice b.F n.frames.length b.cF) := (HD.out W hS).cell 4
      unfold Oper.wp execOp
      have hN13 := evalN hA13
      go_simp
      exact hK _ hS
    refine sure_cons ?_ ?_
    · intro L ac W K hed hJ hS hK
      have hn := needs_spec (l := [5, 7, 9]) (by kernel_rfl) hed
      have hA12 := hJ.eval 7 (d := 12) (hn 7 (by simp)) rfl rfl rfl
      have hA14 := hJ.eval 9 (d := 14) (hn 9 (by simp)) rfl rfl rfl
      have hA10 := hJ.eval 5 (d := 10) (hn 5 (by simp)) rfl rfl rfl
      have hsz := Lib.hid hJ.size
      clear hed hJ hn
      refine opStep_may rfl (d := 10) rfl (by rw [hsz.out]; rfl) hA10 (fun hc => ?_) (fun hc => by rw [cv_f hc] at hK; exact hK _ hS)
      rw [cv_t hc] at hK
      rw [cv_t hc] at hA12
      rw [cv_t hc] at hA14
      clear hsz hc
      unfold Oper.wp execOp
      have hN12 := evalN hA12
      have hN14 := evalN hA14
      go_simp
      refine (CF1.out W hS).mono ?_
      rintro e W' ⟨rfl, hb⟩
      have hS2 := hS.trans (hb.mono hS.size)
      dsimp only
      exact hK W' hS2
    refine sure_cons ?_ ?_
    · intro L ac W K hed hJ hS hK
      have hn := needs_spec (l := [5, 10]) (by kernel_rfl) hed
      have hA10 := hJ.eval 5 (d := 10) (hn 5 (by simp)) rfl rfl rfl
      have hA15 := hJ.eval 10 (d := 15) (hn 10 (by simp)) rfl rfl rfl
      clear hed hJ hn
      refine opStep_of rfl ?_
      rcases Bool.eq_false_or_eq_true (c0) with hc | hc
      · rw [cv_t hc] at hA15
        rw [hc] at hA10 hK
        rw [Bool.true_and] at hK
        clear hc
        unfold Oper.wp execOp
        have hN10 := evalN hA10
        have hN15 := evalN hA15
        go_simp
        exact hK _ hS
      · rw [cv_f hc] at hA15
        rw [hc] at hA10 hK
        rw [Bool.false_and] at hK
        clear hc
        unfold Oper.wp execOp
        have hN10 := evalN hA10
        have hN15 := evalN hA15
        go_simp
        exact hK _ hS
    refine sure_cons ?_ ?_
    · intro L ac W K hed hJ hS hK
      have hn := needs_spec (l := [11]) (by kernel_rfl) hed
      have hA16 := hJ.eval 11 (d := 16) (hn 11 (by simp)) rfl rfl rfl
      clear hed hJ hn
      refine opStep_of rfl ?_
      unfold Oper.wp execOp
      have hN16 := evalN hA16
      go_simp
      exact hK _ hS
    refine sure_cons ?_ ?_
    · intro L ac W K hed hJ hS hK
      have hn := needs_spec (l := [12]) (by kernel_rfl) hed
      have hA2 : ac.eval (.tmp 2) = .pointer (some ⟨gx, 0, none⟩) := hJ.eval_old 2 (by kernel_rfl)
      have hA17 := hJ.eval 12 (d := 17) (hn 12 (by simp)) rfl rfl rfl
      have hsz := Lib.hid hJ.size
      clear hed hJ hn
      refine opStep_may rfl (d := 17) rfl (by rw [hsz.out]; rfl) hA17 (fun hc => ?_) (fun hc => by rw [cv_f hc] at hK; exact hK _ hS)
      rw [cv_t hc] at hK
      clear hsz hc
      unfold Oper.wp execOp
      have hN2 := evalN hA2
      go_simp
      exact hK _ hS
    refine sure_cons ?_ ?_
    · intro L ac W K hed hJ hS hK
      have hn := needs_spec (l := [12, 13]) (by kernel_rfl) hed
      have hA18 := hJ.eval 13 (d := 18) (hn 13 (by simp)) rfl rfl rfl
      have hA17 := hJ.eval 12 (d := 17) (hn 12 (by simp)) rfl rfl rfl
      have hsz := Lib.hid hJ.size
      clear hed hJ hn
      refine opStep_may rfl (d := 17) rfl (by rw [hsz.out]; rfl) hA17 (fun hc => ?_) (fun hc => by rw [cv_f hc] at hK; exact hK _ hS)
      rw [cv_t hc] at hK
      rw [cv_t hc] at hA18
      clear hsz hc
      have cc : W.cell? ⟨gx, 5, none⟩ = some (.slice a.P m.procs.length a.cP) := (HC.out W hS).cell 5
      unfold Oper.wp execOp
      have hN18 := evalN hA18
      go_simp
      exact hK _ hS
    refine sure_cons ?_ ?_
    · intro L ac W K hed hJ hS hK
      have hn := needs_spec (l := [12]) (by kernel_rfl) hed
      have hA3 : ac.eval (.tmp 3) = .pointer (some ⟨gx + 1, 0, none⟩) := hJ.eval_old 3 (by kernel_rfl)
      have hA17 := hJ.eval 12 (d := 17) (hn 12 (by simp)) rfl rfl rfl
      have hsz := Lib.hid hJ.size
      clear hed hJ hn
      refine opStep_may rfl (d := 17) rfl (by rw [hsz.out]; rfl) hA17 (fun hc => ?_) (fun hc => by rw [cv_f hc] at hK; exact hK _ hS)
      rw [cv_t hc] at hK
      clear hsz hc
      unfold Oper.wp execOp
      have hN3 := evalN hA3
      go_simp
      exact hK _ hS
    refine sure_cons ?_ ?_
    · intro L ac W K hed hJ hS hK
      have hn := needs_spec (l := [12, 15]) (by kernel_rfl) hed
      have hA20 := hJ.eval 15 (d := 20) (hn 15 (by simp)) rfl rfl rfl
      have hA17 := hJ.eval 12 (d := 17) (hn 12 (by simp)) rfl rfl rfl
      have hsz := Lib.hid hJ.size
      clear hed hJ hn
      refine opStep_may rfl (d := 17) rfl (by rw [hsz.out]; rfl) hA17 (fun hc => ?_) (fun hc => by rw [cv_f hc] at hK; exact hK _ hS)
      rw [cv_t hc] at hK
      rw [cv_t hc] at hA20
      clear hsz hc
      have cc : W.cell? ⟨gx + 1, 5, none⟩ = some (.slice b.P n.procs.length b.cP) := (HD.out W hS).cell 5
      unfold Oper.wp execOp
      have hN20 := evalN hA20
      go_simp
      exact hK _ hS
    refine sure_cons ?_ ?_
    · intro L ac W K hed hJ hS hK
      have hn := needs_spec (l := [12, 14, 16]) (by kernel_rfl) hed
      have hA19 := hJ.eval 14 (d := 19) (hn 14 (by simp)) rfl rfl rfl
      have hA21 := hJ.eval 16 (d := 21) (hn 16 (by simp)) rfl rfl rfl
      have hA17 := hJ.eval 12 (d := 17) (hn 12 (by simp)) rfl rfl rfl
      have hsz := Lib.hid hJ.size
      clear hed hJ hn
      refine opStep_may rfl (d := 17) rfl (by rw [hsz.out]; rfl) hA17 (fun hc => ?_) (fun hc => by rw [cv_f hc] at hK; exact hK _ hS)
      rw [cv_t hc] at hK
      rw [cv_t hc] at hA19
      rw [cv_t hc] at hA21
      clear hsz hc
      unfold Oper.wp execOp
      have hN19 := evalN hA19
      have hN21 := evalN hA21
      go_simp
      refine (CF2.out W hS).mono ?_
      rintro e W' ⟨rfl, hb⟩
      have hS2 := hS.trans (hb.mono hS.size)
      dsimp only
      exact hK W' hS2
    refine sure_cons ?_ ?_
    · intro L ac W K hed hJ hS hK
      have hn := needs_spec (l := [12, 17]) (by kernel_rfl) hed
      have hA17 := hJ.eval 12 (d := 17) (hn 12 (by simp)) rfl rfl rfl
      have hA22 := hJ.eval 17 (d := 22) (hn 17 (by simp)) rfl rfl rfl
      clear hed hJ hn
      refine opStep_of rfl ?_
      rcases Bool.eq_false_or_eq_true ((c0 && c1)) with hc | hc
      · rw [cv_t hc] at hA22
        rw [hc] at hA17 hK
        rw [Bool.true_and] at hK
        clear hc
        unfold Oper.wp execOp
        have hN17 := evalN hA17
        have hN22 := evalN hA22
        go_simp
        exact hK _ hS
      · rw [cv_f hc] at hA22
        rw [hc] at hA17 hK
        rw [Bool.false_and] at hK
        clear hc
        unfold Oper.wp execOp
        have hN17 := evalN hA17
        have hN22 := evalN hA22
        go_simp
        exact hK _ hS
    refine sure_cons ?_ ?_
    · intro L ac W K hed hJ hS hK
      have hn := needs_spec (l := [18]) (by kernel_rfl) hed
      have hA23 := hJ.eval 18 (d := 23) (hn 18 (by simp)) rfl rfl rfl
      clear hed hJ hn
      refine opStep_of rfl ?_
      unfold Oper.wp execOp
      have hN23 := evalN hA23
      go_simp
      exact hK _ hS
    refine sure_cons ?_ ?_
    · intro L ac W K hed hJ hS hK
      have hn := needs_spec (l := [19]) (by kernel_rfl) hed
      have hA2 : ac.eval (.tmp 2) = .pointer (some ⟨gx, 0, none⟩) := hJ.eval_old 2 (by kernel_rfl)
      have hA24 := hJ.eval 19 (d := 24) (hn 19 (by simp)) rfl rfl rfl
      have hsz := Lib.hid hJ.size
      clear hed hJ hn
      refine opStep_may rfl (d := 24) rfl (by rw [hsz.out]; rfl) hA24 (fun hc => ?_) (fun hc => by rw [cv_f hc] at hK; exact hK _ hS)
      rw [cv_t hc] at hK
      clear hsz hc
      unfold Oper.wp execOp
      have hN2 := evalN hA2
      go_simp
      exact hK _ hS
    refine sure_cons ?_ ?_
    · intro L ac W K hed hJ hS hK
      have hn := needs_spec (l := [19, 20]) (by kernel_rfl) hed
      have hA25 := hJ.eval 20 (d := 25) (hn 20 (by simp)) rfl rfl rfl
      have hA24 := hJ.eval 19 (d := 24) (hn 19 (by simp)) rfl rfl rfl
      have hsz := Lib.hid hJ.size
      clear hed hJ hn
      refine opStep_may rfl (d := 24) rfl (by rw [hsz.out]; rfl) hA24 (fun hc => ?_) (fun hc => by rw [cv_f hc] at hK; exact hK _ hS)
      rw [cv_t hc] at hK
      rw [cv_t hc] at hA25
      clear hsz hc
      have cc : W.cell? ⟨gx, 8, none⟩ = some (.slice a.Q m.pipes.length a.cQ) := (HC.out W hS).cell 8
      unfold Oper.wp execOp
      have hN25 := evalN hA25
      go_simp
      exact hK _ hS
    refine sure_cons ?_ ?_
    · intro L ac W K hed hJ hS hK
      have hn := needs_spec (l := [19]) (by kernel_rfl) hed
      have hA3 : ac.eval (.tmp 3) = .pointer (some ⟨gx + 1, 0, none⟩) := hJ.eval_old 3 (by kernel_rfl)
      have hA24 := hJ.eval 19 (d := 24) (hn 19 (by simp)) rfl rfl rfl
      have hsz := Lib.hid hJ.size
      clear hed hJ hn
      refine opStep_may rfl (d := 24) rfl (by rw [hsz.out]; rfl) hA24 (fun hc => ?_) (fun hc => by rw [cv_f hc] at hK; exact hK _ hS)
      rw [cv_t hc] at hK
      clear hsz hc
      unfold Oper.wp execOp
      have hN3 := evalN hA3
      go_simp
      exact hK _ hS
    refine sure_cons ?_ ?_
    · intro L ac W K hed hJ hS hK
      have hn := needs_spec (l := [19, 22]) (by kernel_rfl) hed
      have hA27 := hJ.eval 22 (d := 27) (hn 22 (by simp)) rfl rfl rfl
      have hA24 := hJ.eval 19 (d := 24) (hn 19 (by simp)) rfl rfl rfl
      have hsz := Lib.hid hJ.size
      clear hed hJ hn
      refine opStep_may rfl (d := 24) rfl (by rw [hsz.out]; rfl) hA24 (fun hc => ?_) (fun hc => by rw [cv_f hc] at hK; exact hK _ hS)
      rw [cv_t hc] at hK
      rw [cv_t hc] at hA27
      clear hsz hc
      have cc : W.cell? ⟨gx + 1, 8, none⟩ = some (.slice b.Q n.pipes.length b.cQ) := (HD.out W hS).cell 8
      unfold Oper.wp execOp
      have hN27 := evalN hA27
      go_simp
      exact hK _ hS
    refine sure_cons ?_ ?_
    · intro L ac W K hed hJ hS hK
      have hn := needs_spec (l := [19, 21, 23]) (by kernel_rfl) hed
      have hA26 := hJ.eval 21 (d := 26) (hn 21 (by simp)) rfl rfl rfl
      have hA28 := hJ.eval 23 (d := 28) (hn 23 (by simp)) rfl rfl rfl
      have hA24 := hJ.eval 19 (d := 24) (hn 19 (by simp)) rfl rfl rfl
      have hsz := Lib.hid hJ.size
      clear hed hJ hn
      refine opStep_may rfl (d := 24) rfl (by rw [hsz.out]; rfl) hA24 (fun hc => ?_) (fun hc => by rw [cv_f hc] at hK; exact hK _ hS)
      rw [cv_t hc] at hK
      rw [cv_t hc] at hA26
      rw [cv_t hc] at hA28
      clear hsz hc
      unfold Oper.wp execOp
      have hN26 := evalN hA26
      have hN28 := evalN hA28
      go_simp
      refine (CF3.out W hS).mono ?_
      rintro e W' ⟨rfl, hb⟩
      have hS2 := hS.trans (hb.mono hS.size)
      dsimp only
      exact hK W' hS2
    refine sure_cons ?_ ?_
    · intro L ac W K hed hJ hS hK
      have hn := needs_spec (l := [19, 24]) (by kernel_rfl) hed
      have hA24 := hJ.eval 19 (d := 24) (hn 19 (by simp)) rfl rfl rfl
      have hA29 := hJ.eval 24 (d := 29) (hn 24 (by simp)) rfl rfl rfl
      clear hed hJ hn
      refine opStep_of rfl ?_
      rcases Bool.eq_false_or_eq_true (((c0 && c1) && c2)) with hc | hc
      · rw [cv_t hc] at hA29
        rw [hc] at hA24 hK
        rw [Bool.true_and] at hK
        clear hc
        unfold Oper.wp execOp
        have hN24 := evalN hA24
        have hN29 := evalN hA29
        go_simp
        exact hK _ hS
      · rw [cv_f hc] at hA29
        rw [hc] at hA24 hK
        rw [Bool.false_and] at hK
        clear hc
        unfold Oper.wp execOp
        have hN24 := evalN hA24
        have hN29 := evalN hA29
        go_simp
        exact hK _ hS
    refine sure_cons ?_ ?_
    · intro L ac W K hed hJ hS hK
      have hn := needs_spec (l := [25]) (by kernel_rfl) hed
      have hA30 := hJ.eval 25 (d := 30) (hn 25 (by simp)) rfl rfl rfl
      clear hed hJ hn
      refine opStep_of rfl ?_
      unfold Oper.wp execOp
      have hN30 := evalN hA30
      go_simp
      exact hK _ hS
    refine sure_cons ?_ ?_
    · intro L ac W K hed hJ hS hK
      have hn := needs_spec (l := [26]) (by kernel_rfl) hed
      have hA2 : ac.eval (.tmp 2) = .pointer (some ⟨gx, 0, none⟩) := hJ.eval_old 2 (by kernel_rfl)
      have hA31 := hJ.eval 26 (d := 31) (hn 26 (by simp)) rfl rfl rfl
      have hsz := Lib.hid hJ.size
      clear hed hJ hn
      refine opStep_may rfl (d := 31) rfl (by rw [hsz.out]; rfl) hA31 (fun hc => ?_) (fun hc => by rw [cv_f hc] at hK; exact hK _ hS)
      rw [cv_t hc] at hK
      clear hsz hc
      unfold Oper.wp execOp
      have hN2 := evalN hA2
      go_simp
      exact hK _ hS
    refine sure_cons ?_ ?_
    · intro L ac W K hed hJ hS hK
      have hn := needs_spec (l := [26, 27]) (by kernel_rfl) hed
      have hA32 := hJ.eval 27 (d := 32) (hn 27 (by simp)) rfl rfl rfl
      have hA31 := hJ.eval 26 (d := 31) (hn 26 (by simp)) rfl rfl rfl
      have hsz := Lib.hid hJ.size
      clear hed hJ hn
      refine opStep_may rfl (d := 31) rfl (by rw [hsz.out]; rfl) hA31 (fun hc => ?_) (fun hc => by rw [cv_f hc] at hK; exact hK _ hS)
      rw [cv_t hc] at hK
      rw [cv_t hc] at hA32
      clear hsz hc
      unfold Oper.wp execOp
      have hN32 := evalN hA32
      go_simp
      exact hK _ hS
    refine sure_cons ?_ ?_
    · intro L ac W K hed hJ hS hK
      have hn := needs_spec (l := [26, 28]) (by kernel_rfl) hed
      have hA33 := hJ.eval 28 (d := 33) (hn 28 (by simp)) rfl rfl rfl
      have hA31 := hJ.eval 26 (d := 31) (hn 26 (by simp)) rfl rfl rfl
      have hsz := Lib.hid hJ.size
      clear hed hJ hn
      refine opStep_may rfl (d := 31) rfl (by rw [hsz.out]; rfl) hA31 (fun hc => ?_) (fun hc => by rw [cv_f hc] at hK; exact hK _ hS)
      rw [cv_t hc] at hK
      rw [cv_t hc] at hA33
      clear hsz hc
      have cc : W.cell? ⟨gx, 13, none⟩ = some (.slice a.L m.blocks.length a.cL) := (HC.out W hS).cell 13
      unfold Oper.wp execOp
      have hN33 := evalN hA33
      go_simp
      exact hK _ hS
    refine sure_cons ?_ ?_
    · intro L ac W K hed hJ hS hK
      have hn := needs_spec (l := [26]) (by kernel_rfl) hed
      have hA3 : ac.eval (.tmp 3) = .pointer (some ⟨gx + 1, 0, none⟩) := hJ.eval_old 3 (by kernel_rfl)
      have hA31 := hJ.eval 26 (d := 31) (hn 26 (by simp)) rfl rfl rfl
      have hsz := Lib.hid hJ.size
      clear hed hJ hn
      refine opStep_may rfl (d := 31) rfl (by rw [hsz.out]; rfl) hA31 (fun hc => ?_) (fun hc => by rw [cv_f hc] at hK; exact hK _ hS)
      rw [cv_t hc] at hK
      clear hsz hc
      unfold Oper.wp execOp
      have hN3 := evalN hA3
      go_simp
      exact hK _ hS
    refine sure_cons ?_ ?_
    · intro L ac W K hed hJ hS hK
      have hn := needs_spec (l := [26, 30]) (by kernel_rfl) hed
      have hA35 := hJ.eval 30 (d := 35) (hn 30 (by simp)) rfl rfl rfl
      have hA31 := hJ.eval 26 (d := 31) (hn 26 (by simp)) rfl rfl rfl
      have hsz := Lib.hid hJ.size
      clear hed hJ hn
      refine opStep_may rfl (d := 31) rfl (by rw [hsz.out]; rfl) hA31 (fun hc => ?_) (fun hc => by rw [cv_f hc] at hK; exact hK _ hS)
      rw [cv_t hc] at hK
      rw [cv_t hc] at hA35
      clear hsz hc
      unfold Oper.wp execOp
      have hN35 := evalN hA35
      go_simp
      exact hK _ hS
    refine sure_cons ?_ ?_
    · intro L ac W K hed hJ hS hK
      have hn := needs_spec (l := [26, 31]) (by kernel_rfl) hed
      have hA36 := hJ.eval 31 (d := 36) (hn 31 (by simp)) rfl rfl rfl
      have hA31 := hJ.eval 26 (d := 31) (hn 26 (by simp)) rfl rfl rfl
      have hsz := Lib.hid hJ.size
      clear hed hJ hn
      refine opStep_may rfl (d := 31) rfl (by rw [hsz.out]; rfl) hA31 (fun hc => ?_) (fun hc => by rw [cv_f hc] at hK; exact hK _ hS)
      rw [cv_t hc] at hK
      rw [cv_t hc] at hA36
      clear hsz hc
      have cc : W.cell? ⟨gx + 1, 13, none⟩ = some (.slice b.L n.blocks.length b.cL) := (HD.out W hS).cell 13
      unfold Oper.wp execOp
      have hN36 := evalN hA36
      go_simp
      exact hK _ hS
    refine sure_cons ?_ ?_
    · intro L ac W K hed hJ hS hK
      have hn := needs_spec (l := [26, 29, 32]) (by kernel_rfl) hed
      have hA34 := hJ.eval 29 (d := 34) (hn 29 (by simp)) rfl rfl rfl
      have hA37 := hJ.eval 32 (d := 37) (hn 32 (by simp)) rfl rfl rfl
      have hA31 := hJ.eval 26 (d := 31) (hn 26 (by simp)) rfl rfl rfl
      have hsz := Lib.hid hJ.size
      clear hed hJ hn
      refine opStep_may rfl (d := 31) rfl (by rw [hsz.out]; rfl) hA31 (fun hc => ?_) (fun hc => by rw [cv_f hc] at hK; exact hK _ hS)
      rw [cv_t hc] at hK
      rw [cv_t hc] at hA34
      rw [cv_t hc] at hA37
      clear hsz hc
      unfold Oper.wp execOp
      have hN34 := evalN hA34
      have hN37 := evalN hA37
      go_simp
      refine (CF4.out W hS).mono ?_
      rintro e W' ⟨rfl, hb⟩
      have hS2 := hS.trans (hb.mono hS.size)
      dsimp only
      exact hK W' hS2
    refine sure_cons ?_ ?_
    · intro L ac W K hed hJ hS hK
      have hn := needs_spec (l := [26, 33]) (by kernel_rfl) hed
      have hA31 := hJ.eval 26 (d := 31) (hn 26 (by simp)) rfl rfl rfl
      have hA38 := hJ.eval 33 (d := 38) (hn 33 (by simp)) rfl rfl rfl
      clear hed hJ hn
      refine opStep_of rfl ?_
      rcases Bool.eq_false_or_eq_true ((((c0 && c1) && c2) && c3)) with hc | hc
      · rw [cv_t hc] at hA38
        rw [hc] at hA31 hK
        rw [Bool.true_and] at hK
        clear hc
        unfold Oper.wp execOp
        have hN31 := evalN hA31
        have hN38 := evalN hA38
        go_simp
        exact hK _ hS
      · rw [cv_f hc] at hA38
        rw [hc] at hA31 hK
        rw [Bool.false_and] at hK
        clear hc
        unfold Oper.wp execOp
        have hN31 := evalN hA31
        have hN38 := evalN hA38
        go_simp
        exact hK _ hS
    refine sure_cons ?_ ?_
    · intro L ac W K hed hJ hS hK
      have hn := needs_spec (l := [34]) (by kernel_rfl) hed
      have hA39 := hJ.eval 34 (d := 39) (hn 34 (by simp)) rfl rfl rfl
      clear hed hJ hn
      refine opStep_of rfl ?_
      unfold Oper.wp execOp
      have hN39 := evalN hA39
      go_simp
      exact hK _ hS
    refine sure_cons ?_ ?_
    · intro L ac W K hed hJ hS hK
      have hn := needs_spec (l := [35]) (by kernel_rfl) hed
      have hA2 : ac.eval (.tmp 2) = .pointer (some ⟨gx, 0, none⟩) := hJ.eval_old 2 (by kernel_rfl)
      have hA40 := hJ.eval 35 (d := 40) (hn 35 (by simp)) rfl rfl rfl
      have hsz := Lib.hid hJ.size
      clear hed hJ hn
      refine opStep_may rfl (d := 40) rfl (by rw [hsz.out]; rfl) hA40 (fun hc => ?_) (fun hc => by rw [cv_f hc] at hK; exact hK _ hS)
      rw [cv_t hc] at hK
      clear hsz hc
      unfold Oper.wp execOp
      have hN2 := evalN hA2
      go_simp
      exact hK _ hS
    refine sure_cons ?_ ?_
    · intro L ac W K hed hJ hS hK
      have hn := needs_spec (l := [35, 36]) (by kernel_rfl) hed
      have hA41 := hJ.eval 36 (d := 41) (hn 36 (by simp)) rfl rfl rfl
      have hA40 := hJ.eval 35 (d := 40) (hn 35 (by simp)) rfl rfl rfl
      have hsz := Lib.hid hJ.size
      clear hed hJ hn
      refine opStep_may rfl (d := 40) rfl (by rw [hsz.out]; rfl) hA40 (fun hc => ?_) (fun hc => by rw [cv_f hc] at hK; exact hK _ hS)
      rw [cv_t hc] at hK
      rw [cv_t hc] at hA41
      clear hsz hc
      unfold Oper.wp execOp
      have hN41 := evalN hA41
      go_simp
      exact hK _ hS
    refine sure_cons ?_ ?_
    · intro L ac W K hed hJ hS hK
      have hn := needs_spec (l := [35, 37]) (by kernel_rfl) hed
      have hA42 := hJ.eval 37 (d := 42) (hn 37 (by simp)) rfl rfl rfl
      have hA40 := hJ.eval 35 (d := 40) (hn 35 (by simp)) rfl rfl rfl
      have hsz := Lib.hid hJ.size
      clear hed hJ hn
      refine opStep_may rfl (d := 40) rfl (by rw [hsz.out]; rfl) hA40 (fun hc => ?_) (fun hc => by rw [cv_f hc] at hK; exact hK _ hS)
      rw [cv_t hc] at hK
      rw [cv_t hc] at hA42
      clear hsz hc
      have cc : W.cell? ⟨gx, 14, none⟩ = some (.slice a.N m.pend.length a.cN) := (HC.out W hS).cell 14
      unfold Oper.wp execOp
      have hN42 := evalN hA42
      go_simp
      exact hK _ hS
    refine sure_cons ?_ ?_
    · intro L ac W K hed hJ hS hK
      have hn := needs_spec (l := [35]) (by kernel_rfl) hed
      have hA3 : ac.eval (.tmp 3) = .pointer (some ⟨gx + 1, 0, none⟩) := hJ.eval_old 3 (by kernel_rfl)
      have hA40 := hJ.eval 35 (d := 40) (hn 35 (by simp)) rfl rfl rfl
      have hsz := Lib.hid hJ.size
      clear hed hJ hn
      refine opStep_may rfl (d := 40) rfl (by rw [hsz.out]; rfl) hA40 (fun hc => ?_) (fun hc => by rw [cv_f hc] at hK; exact hK _ hS)
      rw [cv_t hc] at hK
      clear hsz hc
      unfold Oper.wp execOp
      have hN3 := evalN hA3
      go_simp
      exact hK _ hS
    refine sure_cons ?_ ?_
    · intro L ac W K hed hJ hS hK
      have hn := needs_spec (l := [35, 39]) (by kernel_rfl) hed
      have hA44 := hJ.eval 39 (d := 44) (hn 39 (by simp)) rfl rfl rfl
      have hA40 := hJ.eval 35 (d := 40) (hn 35 (by simp)) rfl rfl rfl
      have hsz := Lib.hid hJ.size
      clear hed hJ hn
      refine opStep_may rfl (d := 40) rfl (by rw [hsz.out]; rfl) hA40 (fun hc => ?_) (fun hc => by rw [cv_f hc] at hK; exact hK _ hS)
      rw [cv_t hc] at hK
      rw [cv_t hc] at hA44
      clear hsz hc
      unfold Oper.wp execOp
      have hN44 := evalN hA44
      go_simp
      exact hK _ hS
    refine sure_cons ?_ ?_
    · intro L ac W K hed hJ hS hK
      have hn := needs_spec (l := [35, 40]) (by kernel_rfl) hed
      have hA45 := hJ.eval 40 (d := 45) (hn 40 (by simp)) rfl rfl rfl
      have hA40 := hJ.eval 35 (d := 40) (hn 35 (by simp)) rfl rfl rfl
      have hsz := Lib.hid hJ.size
      clear hed hJ hn
      refine opStep_may rfl (d := 40) rfl (by rw [hsz.out]; rfl) hA40 (fun hc => ?_) (fun hc => by rw [cv_f hc] at hK; exact hK _ hS)
      rw [cv_t hc] at hK
      rw [cv_t hc] at hA45
      clear hsz hc
      have cc : W.cell? ⟨gx + 1, 14, none⟩ = some (.slice b.N n.pend.length b.cN) := (HD.out W hS).cell 14
      unfold Oper.wp execOp
      have hN45 := evalN hA45
      go_simp
      exact hK _ hS
    refine sure_cons ?_ ?_
    · intro L ac W K hed hJ hS hK
      have hn := needs_spec (l := [35, 38, 41]) (by kernel_rfl) hed
      have hA43 := hJ.eval 38 (d := 43) (hn 38 (by simp)) rfl rfl rfl
      have hA46 := hJ.eval 41 (d := 46) (hn 41 (by simp)) rfl rfl rfl
      have hA40 := hJ.eval 35 (d := 40) (hn 35 (by simp)) rfl rfl rfl
      have hsz := Lib.hid hJ.size
      clear hed hJ hn
      refine opStep_may rfl (d := 40) rfl (by rw [hsz.out]; rfl) hA40 (fun hc => ?_) (fun hc => by rw [cv_f hc] at hK; exact hK _ hS)
      rw [cv_t hc] at hK
      rw [cv_t hc] at hA43
      rw [cv_t hc] at hA46
      clear hsz hc
      unfold Oper.wp execOp
      have hN43 := evalN hA43
      have hN46 := evalN hA46
      go_simp
      refine (CF5.out W hS).mono ?_
      rintro e W' ⟨rfl, hb⟩
      have hS2 := hS.trans (hb.mono hS.size)
      dsimp only
      exact hK W' hS2
    refine sure_cons ?_ ?_
    · intro L ac W K hed hJ hS hK
      have hn := needs_spec (l := [35, 42]) (by kernel_rfl) hed
      have hA40 := hJ.eval 35 (d := 40) (hn 35 (by simp)) rfl rfl rfl
      have hA47 := hJ.eval 42 (d := 47) (hn 42 (by simp)) rfl rfl rfl
      clear hed hJ hn
      refine opStep_of rfl ?_
      rcases Bool.eq_false_or_eq_true (((((c0 && c1) && c2) && c3) && c4)) with hc | hc
      · rw [cv_t hc] at hA47
        rw [hc] at hA40 hK
        rw [Bool.true_and] at hK
        clear hc
        unfold Oper.wp execOp
        have hN40 := evalN hA40
        have hN47 := evalN hA47
        go_simp
        exact hK _ hS
      · rw [cv_f hc] at hA47
        rw [hc] at hA40 hK
        rw [Bool.false_and] at hK
        clear hc
        unfold Oper.wp execOp
        have hN40 := evalN hA40
        have hN47 := evalN hA47
        go_simp
        exact hK _ hS
    refine sure_cons ?_ ?_
    · intro L ac W K hed hJ hS hK
      have hn := needs_spec (l := [43]) (by kernel_rfl) hed
      have hA48 := hJ.eval 43 (d := 48) (hn 43 (by simp)) rfl rfl rfl
      clear hed hJ hn
      refine opStep_of rfl ?_
      unfold Oper.wp execOp
      have hN48 := evalN hA48
      go_simp
      exact hK _ hS
    refine sure_cons ?_ ?_
    · intro L ac W K hed hJ hS hK
      have hn := needs_spec (l := [44]) (by kernel_rfl) hed
      have hA2 : ac.eval (.tmp 2) = .pointer (some ⟨gx, 0, none⟩) := hJ.eval_old 2 (by kernel_rfl)
      have hA49 := hJ.eval 44 (d := 49) (hn 44 (by simp)) rfl rfl rfl
      have hsz := Lib.hid hJ.size
      clear hed hJ hn
      refine opStep_may rfl (d := 49) rfl (by rw [hsz.out]; rfl) hA49 (fun hc => ?_) (fun hc => by rw [cv_f hc] at hK; exact hK _ hS)
      rw [cv_t hc] at hK
      clear hsz hc
      unfold Oper.wp execOp
      have hN2 := evalN hA2
      go_simp
      exact hK _ hS
    refine sure_cons ?_ ?_
    · intro L ac W K hed hJ hS hK
      have hn := needs_spec (l := [44, 45]) (by kernel_rfl) hed
      have hA50 := hJ.eval 45 (d := 50) (hn 45 (by simp)) rfl rfl rfl
      have hA49 := hJ.eval 44 (d := 49) (hn 44 (by simp)) rfl rfl rfl
      have hsz := Lib.hid hJ.size
      clear hed hJ hn
      refine opStep_may rfl (d := 49) rfl (by rw [hsz.out]; rfl) hA49 (fun hc => ?_) (fun hc => by rw [cv_f hc] at hK; exact hK _ hS)
      rw [cv_t hc] at hK
      rw [cv_t hc] at hA50
      clear hsz hc
      have cc : W.cell? ⟨gx, 16, none⟩ = some (.slice a.D m.dirty.length a.cD) := (HC.out W hS).cell 16
      unfold Oper.wp execOp
      have hN50 := evalN hA50
      go_simp
      exact hK _ hS
    refine sure_cons ?_ ?_
    · intro L ac W K hed hJ hS hK
      have hn := needs_spec (l := [44]) (by kernel_rfl) hed
      have hA3 : ac.eval (.tmp 3) = .pointer (some ⟨gx + 1, 0, none⟩) := hJ.eval_old 3 (by kernel_rfl)
      have hA49 := hJ.eval 44 (d := 49) (hn 44 (by simp)) rfl rfl rfl
      have hsz := Lib.hid hJ.size
      clear hed hJ hn
      refine opStep_may rfl (d := 49) rfl (by rw [hsz.out]; rfl) hA49 (fun hc => ?_) (fun hc => by rw [cv_f hc] at hK; exact hK _ hS)
      rw [cv_t hc] at hK
      clear hsz hc
      unfold Oper.wp execOp
      have hN3 := evalN hA3
      go_simp
      exact hK _ hS
    refine sure_cons ?_ ?_
    · intro L ac W K hed hJ hS hK
      have hn := needs_spec (l := [44, 47]) (by kernel_rfl) hed
      have hA52 := hJ.eval 47 (d := 52) (hn 47 (by simp)) rfl rfl rfl
      have hA49 := hJ.eval 44 (d := 49) (hn 44 (by simp)) rfl rfl rfl
      have hsz := Lib.hid hJ.size
      clear hed hJ hn
      refine opStep_may rfl (d := 49) rfl (by rw [hsz.out]; rfl) hA49 (fun hc => ?_) (fun hc => by rw [cv_f hc] at hK; exact hK _ hS)
      rw [cv_t hc] at hK
      rw [cv_t hc] at hA52
      clear hsz hc
      have cc : W.cell? ⟨gx + 1, 16, none⟩ = some (.slice b.D n.dirty.length b.cD) := (HD.out W hS).cell 16
      unfold Oper.wp execOp
      have hN52 := evalN hA52
      go_simp
      exact hK _ hS
    refine sure_cons ?_ ?_
    · intro L ac W K hed hJ hS hK
      have hn := needs_spec (l := [44, 46, 48]) (by kernel_rfl) hed
      have hA51 := hJ.eval 46 (d := 51) (hn 46 (by simp)) rfl rfl rfl
      have hA53 := hJ.eval 48 (d := 53) (hn 48 (by simp)) rfl rfl rfl
      have hA49 := hJ.eval 44 (d := 49) (hn 44 (by simp)) rfl rfl rfl
      have hsz := Lib.hid hJ.size
      clear hed hJ hn
      refine opStep_may rfl (d := 49) rfl (by rw [hsz.out]; rfl) hA49 (fun hc => ?_) (fun hc => by rw [cv_f hc] at hK; exact hK _ hS)
      rw [cv_t hc] at hK
      rw [cv_t hc] at hA51
      rw [cv_t hc] at hA53
      clear hsz hc
      unfold Oper.wp execOp
      have hN51 := evalN hA51
      have hN53 := evalN hA53
      go_simp
      refine (CF6.out W hS).mono ?_
      rintro e W' ⟨rfl, hb⟩
      have hS2 := hS.trans (hb.mono hS.size)
      dsimp only
      exact hK W' hS2
    refine sure_cons ?_ ?_
    · intro L ac W K hed hJ hS hK
      have hn := needs_spec (l := [44, 49]) (by kernel_rfl) hed
      have hA49 := hJ.eval 44 (d := 49) (hn 44 (by simp)) rfl rfl rfl
      have hA54 := hJ.eval 49 (d := 54) (hn 49 (by simp)) rfl rfl rfl
      clear hed hJ hn
      refine opStep_of rfl ?_
      rcases Bool.eq_false_or_eq_true ((((((c0 && c1) && c2) && c3) && c4) && c5)) with hc | hc
      · rw [cv_t hc] at hA54
        rw [hc] at hA49 hK
        rw [Bool.true_and] at hK
        clear hc
        unfold Oper.wp execOp
        have hN49 := evalN hA49
        have hN54 := evalN hA54
        go_simp
        exact hK _ hS
      · rw [cv_f hc] at hA54
        rw [hc] at hA49 hK
        rw [Bool.false_and] at hK
        clear hc
        unfold Oper.wp execOp
        have hN49 := evalN hA49
        have hN54 := evalN hA54
        go_simp
        exact hK _ hS
    refine sure_cons ?_ ?_
    · intro L ac W K hed hJ hS hK
      have hn := needs_spec (l := [50]) (by kernel_rfl) hed
      have hA55 := hJ.eval 50 (d := 55) (hn 50 (by simp)) rfl rfl rfl
      clear hed hJ hn
      refine opStep_of rfl ?_
      unfold Oper.wp execOp
      have hN55 := evalN hA55
      go_simp
      exact hK _ hS
    refine sure_nil ?_
    intro W hS
    simp only [putAll, Act.put, List.setIfInBounds_toArray, List.set_cons_zero, List.set_cons_succ]
    have HV := Lib.hid hS
    clear hS
    go_wp2_with fail
    go_ret
    exact ⟨by rw [HSB.out]; rfl, by rw [HGX.out]; exact HW.out.trans (HV.out.mono (by omega))⟩
end Go.Proofs.YtfdflkddmgninaaGreatDoor
