/-
  Walk: hibernaclelaw30.MachineSame. (Printed by gen_msm.py.)
-/
import Derived.Test.YtfdflkddmgninaaGreatDoorMsF
import Derived.Test.YtfdflkddmgninaaGreatDoorMsD
import Derived.Test.YtfdflkddmgninaaGreatDoorExHH
import Derived.Great.BuildSlice
import Derived.Deep.CutBlock
namespace Go.Proofs.YtfdflkddmgninaaGreatDoor
open Go.RowKit
attribute [local go_sem] concat_S

/-- what the machine that was turned is: another one -/
def Turned (W : World) (p : Nat) (m : Mc) : Prop := ∃ ax x, Bx W p ax x ∧ McOk x ∧ x.pipes.length ≤ 1099511627776 ∧ sameB m x = false
theorem Turned.below {W W' : World} {p : Nat} {m : Mc} (h : Turned W p m) (hb : Below W.heap.size W W') : Turned W' p m := by
  obtain ⟨ax, x, h1, h2⟩ := h
  exact ⟨ax, x, h1.below hb, h2⟩
theorem zeroPr_ok : PrOk zeroPr := by constructor <;> simp [zeroPr, inU32, inU64, inJ8]
theorem made_one {o : Oper} {a : Act} {w : World} {K : Act → World → Prop} {Q : Exit → Act → World → Prop} (x : Nat) (ho : o.op = .buildSlice 24 1 #[(0, .tmp x)]) {p : Pr} (hp : PrOk p) (hx : a.eval (.tmp x) = .agg (prCells p).toArray)
    (h : ∀ g w', Hid (g = w.heap.size) → Hid (Whole w' g 44 (prCells p).toArray) → Hid (Below w.heap.size w w') → K (a.put o.dst (.slice (some ⟨g, 0, none⟩) 1 1)) w') : o.wp Tryz.prog a w K Q := by
  replace h := h w.heap.size (w.alloc (.cells (prCells p).toArray 44)) (Lib.hid rfl) (Lib.hid (Whole.made w _ _)) (Lib.hid ((Below.refl _ _).alloc (Nat.le_refl _) _))
  obtain ⟨i, hi, hz, hs, _⟩ := info_proc
  have hl : (prCells p).length = 96 := prCells_length hp
  refine wp_buildSlice 24 44 1 _ ho (prCells p).toArray i _ Tryz.underlying24 hi hz (by rw [hs]; decide) (by rw [hs]; decide) ?_ h
  rw [hs]
  have := Great.fill_whole (s := 96) (by decide) [.agg (prCells p).toArray] ((Array.range (1 * 96)).map ((Value.agg (prCells zeroPr).toArray).cells[· % (Value.agg (prCells zeroPr).toArray).cells.size]!)) (fun v hv => by
    obtain rfl : v = .agg (prCells p).toArray := by simpa using hv
    show (prCells p).toArray.size = 96
    simpa using hl) (by simp)
  simpa [hx, Value.cells] using this
theorem other_of {m x : Mc} (h : m = x → False) : sameB m x = false := Bool.eq_false_iff.2 fun e => h (sameB_iff.1 e)
set_option maxRecDepth 100000 in
set_option maxHeartbeats 8000000 in
theorem msame_any (w : World) (a b : MA) (m n : Mc) (k : Int) (hk : 0 ≤ k ∧ k < 256) (hm : McOk m) (hn : McOk n) (hpn : n.pipes.length ≤ 1099511627776) (hin : m.inp.length ≤ 1099511627776) (hA : MAt w w.heap.size a m) (hB : MAt w w.heap.size b n) :
    Calls Tryz.prog 3 #[.agg (mcL a m).toArray, .agg (mcL b n).toArray, .int .u8 k] w fun e w' => e = .returned (.bool true) ∧ Below w.heap.size w w' := by
  have hs0 := (Whole.made w 30 (mcL a m).toArray).block (.cells (mcL b n).toArray 30)
  have hs1 := Whole.made (w.alloc (.cells (mcL a m).toArray 30)) 30 (mcL b n).toArray
  rw [show (w.alloc (.cells (mcL a m).toArray 30)).heap.size = w.heap.size + 1 by simp] at hs1
  have hb : Below w.heap.size w ((w.alloc (.cells (mcL a m).toArray 30)).alloc (.cells (mcL b n).toArray 30)) := ((Below.refl _ _).alloc (by first | exact Nat.le_refl _ | simp | (simp; omega)) _).alloc (by first | exact Nat.le_refl _ | simp | (simp; omega)) _
  go_enter Tryz.func3, Tryz.ntmps3
  go_upto_region 1 with (fail)
  change Code.wp _ _ _ _ ((w.alloc (.cells (mcL a m).toArray 30)).alloc (.cells (mcL b n).toArray 30))
  generalize ((w.alloc (.cells (mcL a m).toArray 30)).alloc (.cells (mcL b n).toArray 30)) = w1 at *
  generalize hgx : w.heap.size = gx at *
  have HGX := Lib.hid hgx
  have HS0 := Lib.hid hs0
  have HS1 := Lib.hid hs1
  have HW := Lib.hid hb
  have hgl : gx + 1 < w1.heap.size := hs1.lt
  clear hgx hb hs0 hs1
  have HB0 : Hid (Bx w1 gx a m) := Lib.hid ⟨HS0.out, (hA.below HW.out).wide (by omega)⟩
  have HB1 : Hid (Bx w1 (gx + 1) b n) := Lib.hid ⟨HS1.out, (hB.below HW.out).wide (by omega)⟩
  have HM := Lib.hid hm
  have HN := Lib.hid hn
  have HV1 : Hid (Below w1.heap.size w1 w1) := Lib.hid (Below.refl _ _)
  clear hA hB HS0 HS1
  go_wp2_with fail
  refine (Ex.alive_any w1).mono ?_
  rintro e w2 ⟨rfl, hb⟩
  have HV2 := Lib.hid hb
  replace HB0 := Lib.hid (HB0.out.below hb)
  replace HB1 := Lib.hid (HB1.out.below hb)
  clear hb HV1
  have c4 : w2.cell? ⟨gx, 4, none⟩ = some (.slice a.F m.frames.length a.cF) := HB0.out.1.cell 4
  have d4 : w2.cell? ⟨gx + 1, 4, none⟩ = some (.slice b.F n.frames.length b.cF) := HB1.out.1.cell 4
  have c5 : w2.cell? ⟨gx, 5, none⟩ = some (.slice a.P m.procs.length a.cP) := HB0.out.1.cell 5
  have d5 : w2.cell? ⟨gx + 1, 5, none⟩ = some (.slice b.P n.procs.length b.cP) := HB1.out.1.cell 5
  have c8 : w2.cell? ⟨gx, 8, none⟩ = some (.slice a.Q m.pipes.length a.cQ) := HB0.out.1.cell 8
  have d8 : w2.cell? ⟨gx + 1, 8, none⟩ = some (.slice b.Q n.pipes.length b.cQ) := HB1.out.1.cell 8
  have c13 : w2.cell? ⟨gx, 13, none⟩ = some (.slice a.L m.blocks.length a.cL) := HB0.out.1.cell 13
  have d13 : w2.cell? ⟨gx + 1, 13, none⟩ = some (.slice b.L n.blocks.length b.cL) := HB1.out.1.cell 13
  have c14 : w2.cell? ⟨gx, 14, none⟩ = some (.slice a.N m.pend.length a.cN) := HB0.out.1.cell 14
  have d14 : w2.cell? ⟨gx + 1, 14, none⟩ = some (.slice b.N n.pend.length b.cN) := HB1.out.1.cell 14
  have c16 : w2.cell? ⟨gx, 16, none⟩ = some (.slice a.D m.dirty.length a.cD) := HB0.out.1.cell 16
  have d16 : w2.cell? ⟨gx + 1, 16, none⟩ = some (.slice b.D n.dirty.length b.cD) := HB1.out.1.cell 16
  by_cases h0 : 30 < m.frames.length
  · have e0 : decide ((30 : Int) < (m.frames.length : Int)) = true := decide_eq_true (by omega)
    have f0 : decide (30 < m.frames.length) = true := decide_eq_true h0
    go_wp2_with fail
    (go_ret; exact ⟨rfl, by rw [HGX.out]; exact HW.out.trans (HV2.out.mono (by omega))⟩)
  have e0 : decide ((30 : Int) < (m.frames.length : Int)) = false := decide_eq_false (by omega)
  have f0 : decide (30 < m.frames.length) = false := decide_eq_false h0
  by_cases h1 : 30 < n.frames.length
  · have e1 : decide ((30 : Int) < (n.frames.length : Int)) = true := decide_eq_true (by omega)
    have f1 : decide (30 < n.frames.length) = true := decide_eq_true h1
    go_wp2_with fail
    (go_ret; exact ⟨rfl, by rw [HGX.out]; exact HW.out.trans (HV2.out.mono (by omega))⟩)
  have e1 : decide ((30 : Int) < (n.frames.length : Int)) = false := decide_eq_false (by omega)
  have f1 : decide (30 < n.frames.length) = false := decide_eq_false h1
  by_cases h2 : 10 < m.procs.length
  · have e2 : decide ((10 : Int) < (m.procs.length : Int)) = true := decide_eq_true (by omega)
    have f2 : decide (10 < m.procs.length) = true := decide_eq_true h2
    go_wp2_with fail
    (go_ret; exact ⟨rfl, by rw [HGX.out]; exact HW.out.trans (HV2.out.mono (by omega))⟩)
  have e2 : decide ((10 : Int) < (m.procs.length : Int)) = false := decide_eq_false (by omega)
  have f2 : decide (10 < m.procs.length) = false := decide_eq_false h2
  by_cases h3 : 10 < n.procs.length
  · have e3 : decide ((10 : Int) < (n.procs.length : Int)) = true := decide_eq_true (by omega)
    have f3 : decide (10 < n.procs.length) = true := decide_eq_true h3
    go_wp2_with fail
    (go_ret; exact ⟨rfl, by rw [HGX.out]; exact HW.out.trans (HV2.out.mono (by omega))⟩)
  have e3 : decide ((10 : Int) < (n.procs.length : Int)) = false := decide_eq_false (by omega)
  have f3 : decide (10 < n.procs.length) = false := decide_eq_false h3
  by_cases h4 : 20 < m.pipes.length
  · have e4 : decide ((20 : Int) < (m.pipes.length : Int)) = true := decide_eq_true (by omega)
    have f4 : decide (20 < m.pipes.length) = true := decide_eq_true h4
    go_wp2_with fail
    (go_ret; exact ⟨rfl, by rw [HGX.out]; exact HW.out.trans (HV2.out.mono (by omega))⟩)
  have e4 : decide ((20 : Int) < (m.pipes.length : Int)) = false := decide_eq_false (by omega)
  have f4 : decide (20 < m.pipes.length) = false := decide_eq_false h4
  by_cases h5 : 20 < n.pipes.length
  · have e5 : decide ((20 : Int) < (n.pipes.length : Int)) = true := decide_eq_true (by omega)
    have f5 : decide (20 < n.pipes.length) = true := decide_eq_true h5
    go_wp2_with fail
    (go_ret; exact ⟨rfl, by rw [HGX.out]; exact HW.out.trans (HV2.out.mono (by omega))⟩)
  have e5 : decide ((20 : Int) < (n.pipes.length : Int)) = false := decide_eq_false (by omega)
  have f5 : decide (20 < n.pipes.length) = false := decide_eq_false h5
  by_cases h6 : 200 < m.blocks.length
  · have e6 : decide ((200 : Int) < (m.blocks.length : Int)) = true := decide_eq_true (by omega)
    have f6 : decide (200 < m.blocks.length) = true := decide_eq_true h6
    go_wp2_with fail
    (go_ret; exact ⟨rfl, by rw [HGX.out]; exact HW.out.trans (HV2.out.mono (by omega))⟩)
  have e6 : decide ((200 : Int) < (m.blocks.length : Int)) = false := decide_eq_false (by omega)
  have f6 : decide (200 < m.blocks.length) = false := decide_eq_false h6
  by_cases h7 : 200 < n.blocks.length
  · have e7 : decide ((200 : Int) < (n.blocks.length : Int)) = true := decide_eq_true (by omega)
    have f7 : decide (200 < n.blocks.length) = true := decide_eq_true h7
    go_wp2_with fail
    (go_ret; exact ⟨rfl, by rw [HGX.out]; exact HW.out.trans (HV2.out.mono (by omega))⟩)
  have e7 : decide ((200 : Int) < (n.blocks.length : Int)) = false := decide_eq_false (by omega)
  have f7 : decide (200 < n.blocks.length) = false := decide_eq_false h7
  by_cases h8 : 80 < m.pend.length
  · have e8 : decide ((80 : Int) < (m.pend.length : Int)) = true := decide_eq_true (by omega)
    have f8 : decide (80 < m.pend.length) = true := decide_eq_true h8
    go_wp2_with fail
    (go_ret; exact ⟨rfl, by rw [HGX.out]; exact HW.out.trans (HV2.out.mono (by omega))⟩)
  have e8 : decide ((80 : Int) < (m.pend.length : Int)) = false := decide_eq_false (by omega)
  have f8 : decide (80 < m.pend.length) = false := decide_eq_false h8
  by_cases h9 : 80 < n.pend.length
  · have e9 : decide ((80 : Int) < (n.pend.length : Int)) = true := decide_eq_true (by omega)
    have f9 : decide (80 < n.pend.length) = true := decide_eq_true h9
    go_wp2_with fail
    (go_ret; exact ⟨rfl, by rw [HGX.out]; exact HW.out.trans (HV2.out.mono (by omega))⟩)
  have e9 : decide ((80 : Int) < (n.pend.length : Int)) = false := decide_eq_false (by omega)
  have f9 : decide (80 < n.pend.length) = false := decide_eq_false h9
  by_cases h10 : 40 < m.dirty.length
  · have e10 : decide ((40 : Int) < (m.dirty.length : Int)) = true := decide_eq_true (by omega)
    have f10 : decide (40 < m.dirty.length) = true := decide_eq_true h10
    go_wp2_with fail
    (go_ret; exact ⟨rfl, by rw [HGX.out]; exact HW.out.trans (HV2.out.mono (by omega))⟩)
  have e10 : decide ((40 : Int) < (m.dirty.length : Int)) = false := decide_eq_false (by omega)
  have f10 : decide (40 < m.dirty.length) = false := decide_eq_false h10
  by_cases h11 : 40 < n.dirty.length
  · have e11 : decide ((40 : Int) < (n.dirty.length : Int)) = true := decide_eq_true (by omega)
    have f11 : decide (40 < n.dirty.length) = true := decide_eq_true h11
    go_wp2_with fail
    (go_ret; exact ⟨rfl, by rw [HGX.out]; exact HW.out.trans (HV2.out.mono (by omega))⟩)
  have e11 : decide ((40 : Int) < (n.dirty.length : Int)) = false := decide_eq_false (by omega)
  have f11 : decide (40 < n.dirty.length) = false := decide_eq_false h11
  go_upto_region 5 with (fail)
  clear e0 f0 e1 f1 e2 f2 e3 f3 e4 f4 e5 f5 e6 f6 e7 f7 e8 f8 e9 f9 e10 f10 e11 f11
  clear c4 d4 c5 d5 c8 d8 c13 d13 c14 d14 c16 d16
  go_upto_region 6 with (first
    | (refine wpList_load_at rfl 30 (.tmp 3) rfl ⟨gx, 0, none⟩ rfl (mcL a m) _ HB0.out.read Tryz.underlying30 rfl (mc_info a m) ?_)
    | (refine wpList_fresh rfl rfl 30 7 (.tmp 84) rfl rfl rfl rfl (mcL a m) rfl rfl _ Tryz.infoMc rfl (mcL_one _ _) ?_))
  change Code.wp _ _ _ _ (w2.alloc (.cells (mcL a m).toArray 30))
  have HBX := Lib.hid (Bx.made HB0.out.2)
  have HBA2 := Lib.hid (HB0.out.2.below ((Below.refl w2.heap.size w2).alloc (Nat.le_refl _) (.cells (mcL a m).toArray 30)))
  have HBN2 := Lib.hid (HB1.out.2.below ((Below.refl w2.heap.size w2).alloc (Nat.le_refl _) (.cells (mcL a m).toArray 30)))
  replace HB0 := Lib.hid (HB0.out.below ((Below.refl _ _).alloc (Nat.le_refl _) (.cells (mcL a m).toArray 30)))
  replace HB1 := Lib.hid (HB1.out.below ((Below.refl _ _).alloc (Nat.le_refl _) (.cells (mcL a m).toArray 30)))
  have HV3 := Lib.hid (HV2.out.alloc HV2.out.size (.cells (mcL a m).toArray 30))
  have HPX : gx + 1 < w2.heap.size := by have := HV2.out.size; omega
  obtain ⟨px, HP⟩ : ∃ z, Hid (w2.heap.size = z) := ⟨_, Lib.hid rfl⟩
  rw [HP.out] at HBX HPX ⊢
  have HAP : Hid (MAt (w2.alloc (.cells (mcL a m).toArray 30)) px a m) := Lib.hid (by rw [← HP.out]; exact HBA2.out)
  have HNP : Hid (MAt (w2.alloc (.cells (mcL a m).toArray 30)) px b n) := Lib.hid (by rw [← HP.out]; exact HBN2.out)
  have hw1 : w1.heap.size ≤ px := by rw [← HP.out]; exact HV2.out.size
  generalize w2.alloc (.cells (mcL a m).toArray 30) = w3 at *
  clear HV2 HP HBA2 HBN2
  go_upto_block 0 with fail
  go_cut [] (fun wc => Hid (Turned wc px m) ∧ Hid (Bx wc gx a m) ∧ Hid (Bx wc (gx + 1) b n) ∧ Hid (Below w1.heap.size w1 wc))
  case first =>
    as_aux_lemma =>
    have REL : ∀ wc, Below px w3 wc → Turned wc px m → Hid (Turned wc px m) ∧ Hid (Bx wc gx a m) ∧ Hid (Bx wc (gx + 1) b n) ∧ Hid (Below w1.heap.size w1 wc) := fun wc hb ht => by
      have h1 := hb.size
      have h2 := HBX.out.1.lt
      exact ⟨Lib.hid ht, Lib.hid ⟨HB0.out.1.below hb (by omega), (HAP.out.below hb).wide (by omega)⟩, Lib.hid ⟨HB1.out.1.below hb (by omega), (HNP.out.below hb).wide (by omega)⟩, Lib.hid (HV3.out.trans (hb.mono hw1))⟩
    have h12 : k % 12 = 0 ∨ k % 12 = 1 ∨ k % 12 = 2 ∨ k % 12 = 3 ∨ k % 12 = 4 ∨ k % 12 = 5 ∨ k % 12 = 6 ∨ k % 12 = 7 ∨ k % 12 = 8 ∨ k % 12 = 9 ∨ k % 12 = 10 ∨ k % 12 = 11 := by omega
    rcases h12 with hq | hq | hq | hq | hq | hq | hq | hq | hq | hq | hq | hq
    · have e0 : (k % 12 == 0) = true := beq_iff_eq.2 hq
      clear hq
      have c : w3.cell? ⟨px, 0, none⟩ = some (.int .u64 m.clock) := HBX.out.1.cell 0
      have y : w3.frozen? ⟨px, 0, none⟩ = false := HBX.out.1.free 0
      go_wp2_with fail
      go_meet
      case rel =>
        refine REL _ ((Below.refl px w3).setCell (p := ⟨px, 0, none⟩) (Nat.le_refl _) (.int .u64 (IntKind.u64.wrap (m.clock + 1)))) ⟨a, ({ m with clock := IntKind.u64.wrap (m.clock + 1) } : Mc), ⟨HBX.out.1.set 0 (.int .u64 (IntKind.u64.wrap (m.clock + 1))), ?_⟩, ⟨(show inU64 (IntKind.u64.wrap (m.clock + 1)) by unfold inU64; rw [IntKind.wrap_u64]; omega), HM.out.quantum, HM.out.cur, HM.out.left, HM.out.next, HM.out.newPipe, HM.out.told, HM.out.dleft, HM.out.procs, HM.out.pipes, HM.out.pend, HM.out.dirty, HM.out.sizes⟩, (show m.pipes.length ≤ 1099511627776 by omega), other_of fun e => ?_⟩
        · have h := (HAP.out.below ((Below.refl px w3).setCell (p := ⟨px, 0, none⟩) (Nat.le_refl _) (.int .u64 (IntKind.u64.wrap (m.clock + 1))))).wide (B' := (w3.setCell ⟨px, 0, none⟩ (.int .u64 (IntKind.u64.wrap (m.clock + 1)))).heap.size) (by have := HBX.out.1.lt; simp [World.setCell]; omega)
          exact ⟨h.F, h.P, h.Q, h.L, h.N, h.D, h.caps⟩
        · have h1 := HM.out.clock; have h2 := congrArg Mc.clock e; simp only at h2; rw [IntKind.wrap_u64] at h2; unfold inU64 at h1; omega
    · have e0 : (k % 12 == 0) = false := beq_eq_false_iff_ne.2 (by omega)
      have e1 : (k % 12 == 1) = true := beq_iff_eq.2 hq
      clear hq
      have c : w3.cell? ⟨px, 1, none⟩ = some (.int .i64 m.quantum) := HBX.out.1.cell 1
      have y : w3.frozen? ⟨px, 1, none⟩ = false := HBX.out.1.free 1
      go_wp2_with fail
      go_meet
      case rel =>
        refine REL _ ((Below.refl px w3).setCell (p := ⟨px, 1, none⟩) (Nat.le_refl _) (.int .i64 (wrap64 (m.quantum + 1)))) ⟨a, ({ m with quantum := wrap64 (m.quantum + 1) } : Mc), ⟨HBX.out.1.set 1 (.int .i64 (wrap64 (m.quantum + 1))), ?_⟩, ⟨HM.out.clock, (show inJ8 (wrap64 (m.quantum + 1)) by unfold inJ8; unfold wrap64; omega), HM.out.cur, HM.out.left, HM.out.next, HM.out.newPipe, HM.out.told, HM.out.dleft, HM.out.procs, HM.out.pipes, HM.out.pend, HM.out.dirty, HM.out.sizes⟩, (show m.pipes.length ≤ 1099511627776 by omega), other_of fun e => ?_⟩
        · have h := (HAP.out.below ((Below.refl px w3).setCell (p := ⟨px, 1, none⟩) (Nat.le_refl _) (.int .i64 (wrap64 (m.quantum + 1))))).wide (B' := (w3.setCell ⟨px, 1, none⟩ (.int .i64 (wrap64 (m.quantum + 1)))).heap.size) (by have := HBX.out.1.lt; simp [World.setCell]; omega)
          exact ⟨h.F, h.P, h.Q, h.L, h.N, h.D, h.caps⟩
        · have h1 := HM.out.quantum; have h2 := congrArg Mc.quantum e; simp only at h2; unfold wrap64 at h2; unfold inJ8 at h1; omega
    · have e0 : (k % 12 == 0) = false := beq_eq_false_iff_ne.2 (by omega)
      have e1 : (k % 12 == 1) = false := beq_eq_false_iff_ne.2 (by omega)
      have e2 : (k % 12 == 2) = true := beq_iff_eq.2 hq
      clear hq
      have c : w3.cell? ⟨px, 2, none⟩ = some (.int .i64 m.cur) := HBX.out.1.cell 2
      have y : w3.frozen? ⟨px, 2, none⟩ = false := HBX.out.1.free 2
      go_wp2_with fail
      go_meet
      case rel =>
        refine REL _ ((Below.refl px w3).setCell (p := ⟨px, 2, none⟩) (Nat.le_refl _) (.int .i64 (wrap64 (m.cur + 1)))) ⟨a, ({ m with cur := wrap64 (m.cur + 1) } : Mc), ⟨HBX.out.1.set 2 (.int .i64 (wrap64 (m.cur + 1))), ?_⟩, ⟨HM.out.clock, HM.out.quantum, (show inJ8 (wrap64 (m.cur + 1)) by unfold inJ8; unfold wrap64; omega), HM.out.left, HM.out.next, HM.out.newPipe, HM.out.told, HM.out.dleft, HM.out.procs, HM.out.pipes, HM.out.pend, HM.out.dirty, HM.out.sizes⟩, (show m.pipes.length ≤ 1099511627776 by omega), other_of fun e => ?_⟩
        · have h := (HAP.out.below ((Below.refl px w3).setCell (p := ⟨px, 2, none⟩) (Nat.le_refl _) (.int .i64 (wrap64 (m.cur + 1))))).wide (B' := (w3.setCell ⟨px, 2, none⟩ (.int .i64 (wrap64 (m.cur + 1)))).heap.size) (by have := HBX.out.1.lt; simp [World.setCell]; omega)
          exact ⟨h.F, h.P, h.Q, h.L, h.N, h.D, h.caps⟩
        · have h1 := HM.out.cur; have h2 := congrArg Mc.cur e; simp only at h2; unfold wrap64 at h2; unfold inJ8 at h1; omega
    · have e0 : (k % 12 == 0) = false := beq_eq_false_iff_ne.2 (by omega)
      have e1 : (k % 12 == 1) = false := beq_eq_false_iff_ne.2 (by omega)
      have e2 : (k % 12 == 2) = false := beq_eq_false_iff_ne.2 (by omega)
      have e3 : (k % 12 == 3) = true := beq_iff_eq.2 hq
      clear hq
      have c : w3.cell? ⟨px, 3, none⟩ = some (.int .i64 m.left) := HBX.out.1.cell 3
      have y : w3.frozen? ⟨px, 3, none⟩ = false := HBX.out.1.free 3
      go_wp2_with fail
      go_meet
      case rel =>
        refine REL _ ((Below.refl px w3).setCell (p := ⟨px, 3, none⟩) (Nat.le_refl _) (.int .i64 (wrap64 (m.left + 1)))) ⟨a, ({ m with left := wrap64 (m.left + 1) } : Mc), ⟨HBX.out.1.set 3 (.int .i64 (wrap64 (m.left + 1))), ?_⟩, ⟨HM.out.clock, HM.out.quantum, HM.out.cur, (show inJ8 (wrap64 (m.left + 1)) by unfold inJ8; unfold wrap64; omega), HM.out.next, HM.out.newPipe, HM.out.told, HM.out.dleft, HM.out.procs, HM.out.pipes, HM.out.pend, HM.out.dirty, HM.out.sizes⟩, (show m.pipes.length ≤ 1099511627776 by omega), other_of fun e => ?_⟩
        · have h := (HAP.out.below ((Below.refl px w3).setCell (p := ⟨px, 3, none⟩) (Nat.le_refl _) (.int .i64 (wrap64 (m.left + 1))))).wide (B' := (w3.setCell ⟨px, 3, none⟩ (.int .i64 (wrap64 (m.left + 1)))).heap.size) (by have := HBX.out.1.lt; simp [World.setCell]; omega)
          exact ⟨h.F, h.P, h.Q, h.L, h.N, h.D, h.caps⟩
        · have h1 := HM.out.left; have h2 := congrArg Mc.left e; simp only at h2; unfold wrap64 at h2; unfold inJ8 at h1; omega
    · have e0 : (k % 12 == 0) = false := beq_eq_false_iff_ne.2 (by omega)
      have e1 : (k % 12 == 1) = false := beq_eq_false_iff_ne.2 (by omega)
      have e2 : (k % 12 == 2) = false := beq_eq_false_iff_ne.2 (by omega)
      have e3 : (k % 12 == 3) = false := beq_eq_false_iff_ne.2 (by omega)
      have e4 : (k % 12 == 4) = true := beq_iff_eq.2 hq
      clear hq
      obtain ⟨i0, hi0, hz0, hz1, hz2⟩ := info_parts Tryz.infoStr'
      have c0 : (w3.alloc (.cells #[] 9)).cell? ⟨gx, 4, none⟩ = some (.slice a.F m.frames.length a.cF) := (HB0.out.1.block (.cells #[] 9)).cell 4
      have HAL : Hid (Lies (w3.alloc (.cells #[] 9)) (w3.alloc (.cells #[] 9)).heap.size a.F (List.map S m.frames)) := Lib.hid ((Lies.below HB0.out.2.F ((Below.refl w3.heap.size w3).alloc (Nat.le_refl _) _)).wide (by simp))
      have HO : Hid ((w3.alloc (.cells #[] 9)).ownsRow w3.heap.size 9 1 (.slice (some ⟨w3.heap.size, 0, none⟩) 0 0) 0 []) := Lib.hid (World.ownsRow_lit w3 #[] 0 (Nat.le_refl _) (by unfold maxLen; omega) rfl)
      have hone : ∀ u ∈ List.map S m.frames, u.oneCell' = true := fun u hu => by obtain ⟨b, _, rfl⟩ := List.mem_map.1 hu; rfl
      have hlen : (List.map S m.frames).length = m.frames.length * 1 := by simp
      have HON : Hid (∀ u ∈ [S []], u.oneCell' = true) := Lib.hid (by simp [Value.oneCell'])
      have H63 : Hid (0 + m.frames.length ≤ maxLen) := Lib.hid (by unfold maxLen; omega)
      have H64 : Hid (0 + m.frames.length + 1 ≤ maxLen) := Lib.hid (by unfold maxLen; omega)
      have HBY : Hid ((0 + m.frames.length) * i0.bytes ≤ 140737488355328) := Lib.hid (by rw [hz2]; omega)
      have HBZ : Hid ((0 + m.frames.length + 1) * i0.bytes ≤ 140737488355328) := Lib.hid (by rw [hz2]; omega)
      go_wp2_with (first
        | (at_builtin; refine wpList_append_src rfl (.tmp 113) (.tmp 115) 23 rfl w3.heap.size 9 i0 _ 1 _ Tryz.underlying23 hi0 hz0 hz1 rfl (by kernel_rfl) (by decide) _ _ _ rfl HO.out (w3.alloc (.cells #[] 9)).heap.size a.F m.frames.length a.cF (List.map S m.frames) rfl hlen HAL.out hone H63.out HBY.out (by simp) ?_; intro v4 w4 hown hgrow; have HO4 := Lib.hid hown; have HV4 := Lib.hid (((Below.refl w3.heap.size w3).alloc (Nat.le_refl _) (.cells #[] 9)).grown hgrow (by simp) (fun q e => (HO.out.lt q e).1)); clear hown hgrow c0; have HOA := Lib.hid (World.ownsRow.alloc HO4.out (.cells ([S []]).toArray 9)); have HVA := Lib.hid (HV4.out.alloc HV4.out.size (.cells ([S []]).toArray 9)); have HNW : Hid (∀ i u, ([S []])[i]? = some u → (w4.alloc (.cells ([S []]).toArray 9)).cell? ((⟨w4.heap.size, 0, none⟩ : Addr).add i) = some u) := Lib.hid (Whole.made w4 9 ([S []]).toArray).reads)
        | (at_builtin; refine wpList_append_own _ rfl (.tmp 116) (.tmp 117) 23 rfl w3.heap.size 9 i0 _ 1 _ Tryz.underlying23 hi0 hz0 hz1 rfl (by kernel_rfl) (by decide) _ _ _ rfl HOA.out ⟨w4.heap.size, 0, none⟩ 1 1 ([S []]) rfl rfl HNW.out HON.out H64.out HBZ.out HVA.out.size ?_; intro v5 w5 hown hgrow _; have HV5 := Lib.hid (HVA.out.grown hgrow HVA.out.size (own_ge HOA.out)); have HO5 : Hid (w5.ownsRow w3.heap.size 9 1 v5 (m.frames.length + 1) (List.map S m.frames ++ [S []])) := Lib.hid (by rw [Nat.zero_add, List.nil_append] at hown; exact hown); have HX5 := Lib.hid (HBX.out.1.below HV5.out HBX.out.1.lt); have c5 : w5.cell? ⟨px, 4, none⟩ = some (.slice a.F m.frames.length a.cF) := HX5.out.cell 4; have y5 : w5.frozen? ⟨px, 4, none⟩ = false := HX5.out.free 4; clear hown hgrow; obtain ⟨X, d, rfl, hl5, hg5⟩ := own_shape HO5.out (by decide); have CP5 := Lib.hid (own_cap HO5.out); have NL5 : Hid (NewL w3.heap.size w5 X (List.map S m.frames ++ [S []])) := Lib.hid ⟨hl5, hg5⟩; clear hl5 hg5))
      go_meet
      case rel =>
        have hpw : px < w3.heap.size := HBX.out.1.lt
        have hb5 : Below px w3 (w5.setCell ⟨px, 4, none⟩ (.slice X (m.frames.length + 1) d)) := (HV5.out.mono (show px ≤ w3.heap.size by omega)).setCell (p := ⟨px, 4, none⟩) (Nat.le_refl _) (.slice X (m.frames.length + 1) d)
        have hx : (List.map S (m.frames ++ [[]])) = List.map S m.frames ++ [S []] := by simp
        refine REL _ hb5 ⟨({ a with F := X, cF := d } : MA), ({ m with frames := m.frames ++ [[]] } : Mc), ⟨by have h := HX5.out.set 4 (.slice X (m.frames.length + 1) d); have e : (m.frames ++ [[]]).length = m.frames.length + 1 := (by simp); have e2 : mcL ({ a with F := X, cF := d } : MA) ({ m with frames := m.frames ++ [[]] } : Mc) = (mcL a m).set 4 (.slice X (m.frames.length + 1) d) := (by unfold mcL; rw [e]; rfl); rw [e2]; exact h, ?_⟩, ⟨HM.out.clock, HM.out.quantum, HM.out.cur, HM.out.left, HM.out.next, HM.out.newPipe, HM.out.told, HM.out.dleft, HM.out.procs, HM.out.pipes, HM.out.pend, HM.out.dirty, ⟨by have := HM.out.sizes.1; simp; omega, HM.out.sizes.2.1, HM.out.sizes.2.2.1, HM.out.sizes.2.2.2.1, HM.out.sizes.2.2.2.2.1, HM.out.sizes.2.2.2.2.2⟩⟩, (show m.pipes.length ≤ 1099511627776 by omega), other_of fun e => ?_⟩
        · have h := (HAP.out.below hb5).wide (B' := (w5.setCell ⟨px, 4, none⟩ (.slice X (m.frames.length + 1) d)).heap.size) (by have := hb5.size; omega)
          have hN : Lies (w5.setCell ⟨px, 4, none⟩ (.slice X (m.frames.length + 1) d)) (w5.setCell ⟨px, 4, none⟩ (.slice X (m.frames.length + 1) d)).heap.size X (List.map S (m.frames ++ [[]])) := by rw [hx]; exact (NL5.out.set (q := px) (K := 4) (v := .slice X (m.frames.length + 1) d) hpw).1
          have hc : (m.frames ++ [[]]).length ≤ d := by rw [List.length_append]; exact CP5.out
          exact ⟨hN, h.P, h.Q, h.L, h.N, h.D, ⟨hc, h.caps.2⟩⟩
        · have h2 := congrArg (fun q : Mc => q.frames.length) e; simp at h2
    · have e0 : (k % 12 == 0) = false := beq_eq_false_iff_ne.2 (by omega)
      have e1 : (k % 12 == 1) = false := beq_eq_false_iff_ne.2 (by omega)
      have e2 : (k % 12 == 2) = false := beq_eq_false_iff_ne.2 (by omega)
      have e3 : (k % 12 == 3) = false := beq_eq_false_iff_ne.2 (by omega)
      have e4 : (k % 12 == 4) = false := beq_eq_false_iff_ne.2 (by omega)
      have e5 : (k % 12 == 5) = true := beq_iff_eq.2 hq
      clear hq
      obtain ⟨i0, hi0, hz0, hz1, hz2⟩ := info_proc
      have c0 : (w3.alloc (.cells #[] 44)).cell? ⟨gx, 5, none⟩ = some (.slice a.P m.procs.length a.cP) := (HB0.out.1.block (.cells #[] 44)).cell 5
      have HAL : Hid (Lies (w3.alloc (.cells #[] 44)) (w3.alloc (.cells #[] 44)).heap.size a.P (prsCells m.procs)) := Lib.hid ((Lies.below HB0.out.2.P ((Below.refl w3.heap.size w3).alloc (Nat.le_refl _) _)).wide (by simp))
      have HO : Hid ((w3.alloc (.cells #[] 44)).ownsRow w3.heap.size 44 96 (.slice (some ⟨w3.heap.size, 0, none⟩) 0 0) 0 []) := Lib.hid (World.ownsRow_lit w3 #[] 0 (Nat.le_refl _) (by unfold maxLen; omega) rfl)
      have hone : ∀ u ∈ prsCells m.procs, u.oneCell' = true := prsCells_one m.procs
      have hlen : (prsCells m.procs).length = m.procs.length * 96 := prsCells_length HM.out.procs
      have HON : Hid (∀ u ∈ prCells zeroPr, u.oneCell' = true) := Lib.hid (prCells_one)
      have H63 : Hid (0 + m.procs.length ≤ maxLen) := Lib.hid (by unfold maxLen; omega)
      have H64 : Hid (0 + m.procs.length + 1 ≤ maxLen) := Lib.hid (by unfold maxLen; omega)
      have HBY : Hid ((0 + m.procs.length) * i0.bytes ≤ 140737488355328) := Lib.hid (by rw [Nat.zero_add]; exact Nat.le_trans (Nat.mul_le_mul (by omega : _ ≤ 10) hz2) (by decide))
      have HBZ : Hid ((0 + m.procs.length + 1) * i0.bytes ≤ 140737488355328) := Lib.hid (by rw [Nat.zero_add]; exact Nat.le_trans (Nat.mul_le_mul (by omega : _ ≤ 11) hz2) (by decide))
      go_wp2_with (first
        | (at_builtin; refine wpList_append_src rfl (.tmp 122) (.tmp 124) 24 rfl w3.heap.size 44 i0 _ 96 _ Tryz.underlying24 hi0 hz0 hz1 rfl (by kernel_rfl) (by decide) _ _ _ rfl HO.out (w3.alloc (.cells #[] 44)).heap.size a.P m.procs.length a.cP (prsCells m.procs) rfl hlen HAL.out hone H63.out HBY.out (by simp) ?_; intro v4 w4 hown hgrow; have HO4 := Lib.hid hown; have HV4 := Lib.hid (((Below.refl w3.heap.size w3).alloc (Nat.le_refl _) (.cells #[] 44)).grown hgrow (by simp) (fun q e => (HO.out.lt q e).1)); clear hown hgrow c0)
        | (refine wpList_plain rfl fun K hK => ?_; refine made_one 126 rfl zeroPr_ok rfl ?_; intro gp wm hgp HG hbm; have HOA := Lib.hid (own_below HO4.out hbm.out); have HVA := Lib.hid (HV4.out.trans (hbm.out.mono HV4.out.size)); have HNW := Lib.hid HG.out.reads; refine hK _ _ ?_)
        | (at_builtin; refine wpList_append_own _ rfl (.tmp 125) (.tmp 127) 24 rfl w3.heap.size 44 i0 _ 96 _ Tryz.underlying24 hi0 hz0 hz1 rfl (by kernel_rfl) (by decide) _ _ _ rfl HOA.out ⟨gp, 0, none⟩ 1 1 (prCells zeroPr) rfl (prCells_length zeroPr_ok) HNW.out HON.out H64.out HBZ.out HVA.out.size ?_; intro v5 w5 hown hgrow _; have HV5 := Lib.hid (HVA.out.grown hgrow HVA.out.size (own_ge HOA.out)); have HO5 : Hid (w5.ownsRow w3.heap.size 44 96 v5 (m.procs.length + 1) (prsCells m.procs ++ prCells zeroPr)) := Lib.hid (by rw [Nat.zero_add, List.nil_append] at hown; exact hown); have HX5 := Lib.hid (HBX.out.1.below HV5.out HBX.out.1.lt); have c5 : w5.cell? ⟨px, 5, none⟩ = some (.slice a.P m.procs.length a.cP) := HX5.out.cell 5; have y5 : w5.frozen? ⟨px, 5, none⟩ = false := HX5.out.free 5; clear hown hgrow; obtain ⟨X, d, rfl, hl5, hg5⟩ := own_shape HO5.out (by decide); have CP5 := Lib.hid (own_cap HO5.out); have NL5 : Hid (NewL w3.heap.size w5 X (prsCells m.procs ++ prCells zeroPr)) := Lib.hid ⟨hl5, hg5⟩; clear hl5 hg5))
      go_meet
      case rel =>
        have hpw : px < w3.heap.size := HBX.out.1.lt
        have hb5 : Below px w3 (w5.setCell ⟨px, 5, none⟩ (.slice X (m.procs.length + 1) d)) := (HV5.out.mono (show px ≤ w3.heap.size by omega)).setCell (p := ⟨px, 5, none⟩) (Nat.le_refl _) (.slice X (m.procs.length + 1) d)
        have hx : (prsCells (m.procs ++ [zeroPr])) = prsCells m.procs ++ prCells zeroPr := by simp [prsCells]
        refine REL _ hb5 ⟨({ a with P := X, cP := d } : MA), ({ m with procs := m.procs ++ [zeroPr] } : Mc), ⟨by have h := HX5.out.set 5 (.slice X (m.procs.length + 1) d); have e : (m.procs ++ [zeroPr]).length = m.procs.length + 1 := (by simp); have e2 : mcL ({ a with P := X, cP := d } : MA) ({ m with procs := m.procs ++ [zeroPr] } : Mc) = (mcL a m).set 5 (.slice X (m.procs.length + 1) d) := (by unfold mcL; rw [e]; rfl); rw [e2]; exact h, ?_⟩, ⟨HM.out.clock, HM.out.quantum, HM.out.cur, HM.out.left, HM.out.next, HM.out.newPipe, HM.out.told, HM.out.dleft, fun p hp => (List.mem_append.1 hp).elim (HM.out.procs p) fun h => by rw [List.mem_singleton.1 h]; exact zeroPr_ok, HM.out.pipes, HM.out.pend, HM.out.dirty, ⟨HM.out.sizes.1, by have := HM.out.sizes.2.1; simp; omega, HM.out.sizes.2.2.1, HM.out.sizes.2.2.2.1, HM.out.sizes.2.2.2.2.1, HM.out.sizes.2.2.2.2.2⟩⟩, (show m.pipes.length ≤ 1099511627776 by omega), other_of fun e => ?_⟩
        · have h := (HAP.out.below hb5).wide (B' := (w5.setCell ⟨px, 5, none⟩ (.slice X (m.procs.length + 1) d)).heap.size) (by have := hb5.size; omega)
          have hN : Lies (w5.setCell ⟨px, 5, none⟩ (.slice X (m.procs.length + 1) d)) (w5.setCell ⟨px, 5, none⟩ (.slice X (m.procs.length + 1) d)).heap.size X (prsCells (m.procs ++ [zeroPr])) := by rw [hx]; exact (NL5.out.set (q := px) (K := 5) (v := .slice X (m.procs.length + 1) d) hpw).1
          have hc : (m.procs ++ [zeroPr]).length ≤ d := by rw [List.length_append]; exact CP5.out
          exact ⟨h.F, hN, h.Q, h.L, h.N, h.D, ⟨h.caps.1, hc, h.caps.2.2⟩⟩
        · have h2 := congrArg (fun q : Mc => q.procs.length) e; simp at h2
    · have e0 : (k % 12 == 0) = false := beq_eq_false_iff_ne.2 (by omega)
      have e1 : (k % 12 == 1) = false := beq_eq_false_iff_ne.2 (by omega)
      have e2 : (k % 12 == 2) = false := beq_eq_false_iff_ne.2 (by omega)
      have e3 : (k % 12 == 3) = false := beq_eq_false_iff_ne.2 (by omega)
      have e4 : (k % 12 == 4) = false := beq_eq_false_iff_ne.2 (by omega)
      have e5 : (k % 12 == 5) = false := beq_eq_false_iff_ne.2 (by omega)
      have e6 : (k % 12 == 6) = true := beq_iff_eq.2 hq
      clear hq
      obtain ⟨i0, hi0, hz0, hz1, hz2⟩ := info_parts Tryz.infoPi3
      have c0 : (w3.alloc (.cells #[] 46)).cell? ⟨gx, 8, none⟩ = some (.slice a.Q m.pipes.length a.cQ) := (HB0.out.1.block (.cells #[] 46)).cell 8
      have HAL : Hid (Lies (w3.alloc (.cells #[] 46)) (w3.alloc (.cells #[] 46)).heap.size a.Q (nbCells m.pipes)) := Lib.hid ((Lies.below HB0.out.2.Q ((Below.refl w3.heap.size w3).alloc (Nat.le_refl _) _)).wide (by simp))
      have HO : Hid ((w3.alloc (.cells #[] 46)).ownsRow w3.heap.size 46 2 (.slice (some ⟨w3.heap.size, 0, none⟩) 0 0) 0 []) := Lib.hid (World.ownsRow_lit w3 #[] 0 (Nat.le_refl _) (by unfold maxLen; omega) rfl)
      have hone : ∀ u ∈ nbCells m.pipes, u.oneCell' = true := nbCells_one m.pipes
      have hlen : (nbCells m.pipes).length = m.pipes.length * 2 := nbCells_length m.pipes
      have HON : Hid (∀ u ∈ nbCells1 (0, []), u.oneCell' = true) := Lib.hid (nb_one (0, []))
      have H63 : Hid (0 + m.pipes.length ≤ maxLen) := Lib.hid (by unfold maxLen; omega)
      have H64 : Hid (0 + m.pipes.length + 1 ≤ maxLen) := Lib.hid (by unfold maxLen; omega)
      have HBY : Hid ((0 + m.pipes.length) * i0.bytes ≤ 140737488355328) := Lib.hid (by rw [hz2]; omega)
      have HBZ : Hid ((0 + m.pipes.length + 1) * i0.bytes ≤ 140737488355328) := Lib.hid (by rw [hz2]; omega)
      go_wp2_with (first
        | (at_builtin; refine wpList_append_src rfl (.tmp 132) (.tmp 134) 25 rfl w3.heap.size 46 i0 _ 2 _ Tryz.underlying25 hi0 hz0 hz1 rfl (by kernel_rfl) (by decide) _ _ _ rfl HO.out (w3.alloc (.cells #[] 46)).heap.size a.Q m.pipes.length a.cQ (nbCells m.pipes) rfl hlen HAL.out hone H63.out HBY.out (by simp) ?_; intro v4 w4 hown hgrow; have HO4 := Lib.hid hown; have HV4 := Lib.hid (((Below.refl w3.heap.size w3).alloc (Nat.le_refl _) (.cells #[] 46)).grown hgrow (by simp) (fun q e => (HO.out.lt q e).1)); clear hown hgrow c0; have HOA := Lib.hid (World.ownsRow.alloc HO4.out (.cells (nbCells1 (0, [])).toArray 46)); have HVA := Lib.hid (HV4.out.alloc HV4.out.size (.cells (nbCells1 (0, [])).toArray 46)); have HNW : Hid (∀ i u, (nbCells1 (0, []))[i]? = some u → (w4.alloc (.cells (nbCells1 (0, [])).toArray 46)).cell? ((⟨w4.heap.size, 0, none⟩ : Addr).add i) = some u) := Lib.hid (Whole.made w4 46 (nbCells1 (0, [])).toArray).reads)
        | (at_builtin; refine wpList_append_own _ rfl (.tmp 135) (.tmp 137) 25 rfl w3.heap.size 46 i0 _ 2 _ Tryz.underlying25 hi0 hz0 hz1 rfl (by kernel_rfl) (by decide) _ _ _ rfl HOA.out ⟨w4.heap.size, 0, none⟩ 1 1 (nbCells1 (0, [])) rfl rfl HNW.out HON.out H64.out HBZ.out HVA.out.size ?_; intro v5 w5 hown hgrow _; have HV5 := Lib.hid (HVA.out.grown hgrow HVA.out.size (own_ge HOA.out)); have HO5 : Hid (w5.ownsRow w3.heap.size 46 2 v5 (m.pipes.length + 1) (nbCells m.pipes ++ nbCells1 (0, []))) := Lib.hid (by rw [Nat.zero_add, List.nil_append] at hown; exact hown); have HX5 := Lib.hid (HBX.out.1.below HV5.out HBX.out.1.lt); have c5 : w5.cell? ⟨px, 8, none⟩ = some (.slice a.Q m.pipes.length a.cQ) := HX5.out.cell 8; have y5 : w5.frozen? ⟨px, 8, none⟩ = false := HX5.out.free 8; clear hown hgrow; obtain ⟨X, d, rfl, hl5, hg5⟩ := own_shape HO5.out (by decide); have CP5 := Lib.hid (own_cap HO5.out); have NL5 : Hid (NewL w3.heap.size w5 X (nbCells m.pipes ++ nbCells1 (0, []))) := Lib.hid ⟨hl5, hg5⟩; clear hl5 hg5))
      go_meet
      case rel =>
        have hpw : px < w3.heap.size := HBX.out.1.lt
        have hb5 : Below px w3 (w5.setCell ⟨px, 8, none⟩ (.slice X (m.pipes.length + 1) d)) := (HV5.out.mono (show px ≤ w3.heap.size by omega)).setCell (p := ⟨px, 8, none⟩) (Nat.le_refl _) (.slice X (m.pipes.length + 1) d)
        have hx : (nbCells (m.pipes ++ [(0, [])])) = nbCells m.pipes ++ nbCells1 (0, []) := by simp [nbCells]
        refine REL _ hb5 ⟨({ a with Q := X, cQ := d } : MA), ({ m with pipes := m.pipes ++ [(0, [])] } : Mc), ⟨by have h := HX5.out.set 8 (.slice X (m.pipes.length + 1) d); have e : (m.pipes ++ [(0, [])]).length = m.pipes.length + 1 := (by simp); have e2 : mcL ({ a with Q := X, cQ := d } : MA) ({ m with pipes := m.pipes ++ [(0, [])] } : Mc) = (mcL a m).set 8 (.slice X (m.pipes.length + 1) d) := (by unfold mcL; rw [e]; rfl); rw [e2]; exact h, ?_⟩, ⟨HM.out.clock, HM.out.quantum, HM.out.cur, HM.out.left, HM.out.next, HM.out.newPipe, HM.out.told, HM.out.dleft, HM.out.procs, fun p hp => (List.mem_append.1 hp).elim (HM.out.pipes p) fun h => by rw [List.mem_singleton.1 h]; unfold inJ8; simp, HM.out.pend, HM.out.dirty, ⟨HM.out.sizes.1, HM.out.sizes.2.1, by have := HM.out.sizes.2.2.1; simp; omega, HM.out.sizes.2.2.2.1, HM.out.sizes.2.2.2.2.1, HM.out.sizes.2.2.2.2.2⟩⟩, (show (m.pipes ++ [((0 : Int), ([] : List UInt8))]).length ≤ 1099511627776 by rw [List.length_append, List.length_singleton]; omega), other_of fun e => ?_⟩
        · have h := (HAP.out.below hb5).wide (B' := (w5.setCell ⟨px, 8, none⟩ (.slice X (m.pipes.length + 1) d)).heap.size) (by have := hb5.size; omega)
          have hN : Lies (w5.setCell ⟨px, 8, none⟩ (.slice X (m.pipes.length + 1) d)) (w5.setCell ⟨px, 8, none⟩ (.slice X (m.pipes.length + 1) d)).heap.size X (nbCells (m.pipes ++ [(0, [])])) := by rw [hx]; exact (NL5.out.set (q := px) (K := 8) (v := .slice X (m.pipes.length + 1) d) hpw).1
          have hc : (m.pipes ++ [(0, [])]).length ≤ d := by rw [List.length_append]; exact CP5.out
          exact ⟨h.F, h.P, hN, h.L, h.N, h.D, ⟨h.caps.1, h.caps.2.1, hc, h.caps.2.2.2⟩⟩
        · have h2 := congrArg (fun q : Mc => q.pipes.length) e; simp at h2
    · have e0 : (k % 12 == 0) = false := beq_eq_false_iff_ne.2 (by omega)
      have e1 : (k % 12 == 1) = false := beq_eq_false_iff_ne.2 (by omega)
      have e2 : (k % 12 == 2) = false := beq_eq_false_iff_ne.2 (by omega)
      have e3 : (k % 12 == 3) = false := beq_eq_false_iff_ne.2 (by omega)
      have e4 : (k % 12 == 4) = false := beq_eq_false_iff_ne.2 (by omega)
      have e5 : (k % 12 == 5) = false := beq_eq_false_iff_ne.2 (by omega)
      have e6 : (k % 12 == 6) = false := beq_eq_false_iff_ne.2 (by omega)
      have e7 : (k % 12 == 7) = true := beq_iff_eq.2 hq
      clear hq
      have c0 : w3.cell? ⟨gx, 11, none⟩ = some (.bool m.fin) := HB0.out.1.cell 11
      have c : w3.cell? ⟨px, 11, none⟩ = some (.bool m.fin) := HBX.out.1.cell 11
      have y : w3.frozen? ⟨px, 11, none⟩ = false := HBX.out.1.free 11
      go_wp2_with fail
      go_meet
      case rel =>
        refine REL _ ((Below.refl px w3).setCell (p := ⟨px, 11, none⟩) (Nat.le_refl _) (.bool (!m.fin))) ⟨a, ({ m with fin := !m.fin } : Mc), ⟨HBX.out.1.set 11 (.bool (!m.fin)), ?_⟩, ⟨HM.out.clock, HM.out.quantum, HM.out.cur, HM.out.left, HM.out.next, HM.out.newPipe, HM.out.told, HM.out.dleft, HM.out.procs, HM.out.pipes, HM.out.pend, HM.out.dirty, HM.out.sizes⟩, (show m.pipes.length ≤ 1099511627776 by omega), other_of fun e => ?_⟩
        · have h := (HAP.out.below ((Below.refl px w3).setCell (p := ⟨px, 11, none⟩) (Nat.le_refl _) (.bool (!m.fin)))).wide (B' := (w3.setCell ⟨px, 11, none⟩ (.bool (!m.fin))).heap.size) (by have := HBX.out.1.lt; simp [World.setCell]; omega)
          exact ⟨h.F, h.P, h.Q, h.L, h.N, h.D, h.caps⟩
        · have h2 := congrArg Mc.fin e; simp at h2
    · have e0 : (k % 12 == 0) = false := beq_eq_false_iff_ne.2 (by omega)
      have e1 : (k % 12 == 1) = false := beq_eq_false_iff_ne.2 (by omega)
      have e2 : (k % 12 == 2) = false := beq_eq_false_iff_ne.2 (by omega)
      have e3 : (k % 12 == 3) = false := beq_eq_false_iff_ne.2 (by omega)
      have e4 : (k % 12 == 4) = false := beq_eq_false_iff_ne.2 (by omega)
      have e5 : (k % 12 == 5) = false := beq_eq_false_iff_ne.2 (by omega)
      have e6 : (k % 12 == 6) = false := beq_eq_false_iff_ne.2 (by omega)
      have e7 : (k % 12 == 7) = false := beq_eq_false_iff_ne.2 (by omega)
      have e8 : (k % 12 == 8) = true := beq_iff_eq.2 hq
      clear hq
      have c : w3.cell? ⟨px, 12, none⟩ = some (.int .u64 m.told) := HBX.out.1.cell 12
      have y : w3.frozen? ⟨px, 12, none⟩ = false := HBX.out.1.free 12
      go_wp2_with fail
      go_meet
      case rel =>
        refine REL _ ((Below.refl px w3).setCell (p := ⟨px, 12, none⟩) (Nat.le_refl _) (.int .u64 (IntKind.u64.wrap (m.told + 1)))) ⟨a, ({ m with told := IntKind.u64.wrap (m.told + 1) } : Mc), ⟨HBX.out.1.set 12 (.int .u64 (IntKind.u64.wrap (m.told + 1))), ?_⟩, ⟨HM.out.clock, HM.out.quantum, HM.out.cur, HM.out.left, HM.out.next, HM.out.newPipe, (show inU64 (IntKind.u64.wrap (m.told + 1)) by unfold inU64; rw [IntKind.wrap_u64]; omega), HM.out.dleft, HM.out.procs, HM.out.pipes, HM.out.pend, HM.out.dirty, HM.out.sizes⟩, (show m.pipes.length ≤ 1099511627776 by omega), other_of fun e => ?_⟩
        · have h := (HAP.out.below ((Below.refl px w3).setCell (p := ⟨px, 12, none⟩) (Nat.le_refl _) (.int .u64 (IntKind.u64.wrap (m.told + 1))))).wide (B' := (w3.setCell ⟨px, 12, none⟩ (.int .u64 (IntKind.u64.wrap (m.told + 1)))).heap.size) (by have := HBX.out.1.lt; simp [World.setCell]; omega)
          exact ⟨h.F, h.P, h.Q, h.L, h.N, h.D, h.caps⟩
        · have h1 := HM.out.told; have h2 := congrArg Mc.told e; simp only at h2; rw [IntKind.wrap_u64] at h2; unfold inU64 at h1; omega
    · have e0 : (k % 12 == 0) = false := beq_eq_false_iff_ne.2 (by omega)
      have e1 : (k % 12 == 1) = false := beq_eq_false_iff_ne.2 (by omega)
      have e2 : (k % 12 == 2) = false := beq_eq_false_iff_ne.2 (by omega)
      have e3 : (k % 12 == 3) = false := beq_eq_false_iff_ne.2 (by omega)
      have e4 : (k % 12 == 4) = false := beq_eq_false_iff_ne.2 (by omega)
      have e5 : (k % 12 == 5) = false := beq_eq_false_iff_ne.2 (by omega)
      have e6 : (k % 12 == 6) = false := beq_eq_false_iff_ne.2 (by omega)
      have e7 : (k % 12 == 7) = false := beq_eq_false_iff_ne.2 (by omega)
      have e8 : (k % 12 == 8) = false := beq_eq_false_iff_ne.2 (by omega)
      have e9 : (k % 12 == 9) = true := beq_iff_eq.2 hq
      clear hq
      have c : w3.cell? ⟨px, 15, none⟩ = some (.int .i64 m.dleft) := HBX.out.1.cell 15
      have y : w3.frozen? ⟨px, 15, none⟩ = false := HBX.out.1.free 15
      go_wp2_with fail
      go_meet
      case rel =>
        refine REL _ ((Below.refl px w3).setCell (p := ⟨px, 15, none⟩) (Nat.le_refl _) (.int .i64 (wrap64 (m.dleft + 1)))) ⟨a, ({ m with dleft := wrap64 (m.dleft + 1) } : Mc), ⟨HBX.out.1.set 15 (.int .i64 (wrap64 (m.dleft + 1))), ?_⟩, ⟨HM.out.clock, HM.out.quantum, HM.out.cur, HM.out.left, HM.out.next, HM.out.newPipe, HM.out.told, (show inJ8 (wrap64 (m.dleft + 1)) by unfold inJ8; unfold wrap64; omega), HM.out.procs, HM.out.pipes, HM.out.pend, HM.out.dirty, HM.out.sizes⟩, (show m.pipes.length ≤ 1099511627776 by omega), other_of fun e => ?_⟩
        · have h := (HAP.out.below ((Below.refl px w3).setCell (p := ⟨px, 15, none⟩) (Nat.le_refl _) (.int .i64 (wrap64 (m.dleft + 1))))).wide (B' := (w3.setCell ⟨px, 15, none⟩ (.int .i64 (wrap64 (m.dleft + 1)))).heap.size) (by have := HBX.out.1.lt; simp [World.setCell]; omega)
          exact ⟨h.F, h.P, h.Q, h.L, h.N, h.D, h.caps⟩
        · have h1 := HM.out.dleft; have h2 := congrArg Mc.dleft e; simp only at h2; unfold wrap64 at h2; unfold inJ8 at h1; omega
    · have e0 : (k % 12 == 0) = false := beq_eq_false_iff_ne.2 (by omega)
      have e1 : (k % 12 == 1) = false := beq_eq_false_iff_ne.2 (by omega)
      have e2 : (k % 12 == 2) = false := beq_eq_false_iff_ne.2 (by omega)
      have e3 : (k % 12 == 3) = false := beq_eq_false_iff_ne.2 (by omega)
      have e4 : (k % 12 == 4) = false := beq_eq_false_iff_ne.2 (by omega)
      have e5 : (k % 12 == 5) = false := beq_eq_false_iff_ne.2 (by omega)
      have e6 : (k % 12 == 6) = false := beq_eq_false_iff_ne.2 (by omega)
      have e7 : (k % 12 == 7) = false := beq_eq_false_iff_ne.2 (by omega)
      have e8 : (k % 12 == 8) = false := beq_eq_false_iff_ne.2 (by omega)
      have e9 : (k % 12 == 9) = false := beq_eq_false_iff_ne.2 (by omega)
      have e10 : (k % 12 == 10) = true := beq_iff_eq.2 hq
      clear hq
      obtain ⟨i0, hi0, hz0, hz1, hz2⟩ := info_parts Tryz.infoWr3
      have c0 : (w3.alloc (.cells #[] 48)).cell? ⟨gx, 16, none⟩ = some (.slice a.D m.dirty.length a.cD) := (HB0.out.1.block (.cells #[] 48)).cell 16
      have HAL : Hid (Lies (w3.alloc (.cells #[] 48)) (w3.alloc (.cells #[] 48)).heap.size a.D (nbCells m.dirty)) := Lib.hid ((Lies.below HB0.out.2.D ((Below.refl w3.heap.size w3).alloc (Nat.le_refl _) _)).wide (by simp))
      have HO : Hid ((w3.alloc (.cells #[] 48)).ownsRow w3.heap.size 48 2 (.slice (some ⟨w3.heap.size, 0, none⟩) 0 0) 0 []) := Lib.hid (World.ownsRow_lit w3 #[] 0 (Nat.le_refl _) (by unfold maxLen; omega) rfl)
      have hone : ∀ u ∈ nbCells m.dirty, u.oneCell' = true := nbCells_one m.dirty
      have hlen : (nbCells m.dirty).length = m.dirty.length * 2 := nbCells_length m.dirty
      have HON : Hid (∀ u ∈ nbCells1 (0, []), u.oneCell' = true) := Lib.hid (nb_one (0, []))
      have H63 : Hid (0 + m.dirty.length ≤ maxLen) := Lib.hid (by unfold maxLen; omega)
      have H64 : Hid (0 + m.dirty.length + 1 ≤ maxLen) := Lib.hid (by unfold maxLen; omega)
      have HBY : Hid ((0 + m.dirty.length) * i0.bytes ≤ 140737488355328) := Lib.hid (by rw [hz2]; omega)
      have HBZ : Hid ((0 + m.dirty.length + 1) * i0.bytes ≤ 140737488355328) := Lib.hid (by rw [hz2]; omega)
      go_wp2_with (first
        | (at_builtin; refine wpList_append_src rfl (.tmp 162) (.tmp 164) 26 rfl w3.heap.size 48 i0 _ 2 _ Tryz.underlying26 hi0 hz0 hz1 rfl (by kernel_rfl) (by decide) _ _ _ rfl HO.out (w3.alloc (.cells #[] 48)).heap.size a.D m.dirty.length a.cD (nbCells m.dirty) rfl hlen HAL.out hone H63.out HBY.out (by simp) ?_; intro v4 w4 hown hgrow; have HO4 := Lib.hid hown; have HV4 := Lib.hid (((Below.refl w3.heap.size w3).alloc (Nat.le_refl _) (.cells #[] 48)).grown hgrow (by simp) (fun q e => (HO.out.lt q e).1)); clear hown hgrow c0; have HOA := Lib.hid (World.ownsRow.alloc HO4.out (.cells (nbCells1 (0, [])).toArray 48)); have HVA := Lib.hid (HV4.out.alloc HV4.out.size (.cells (nbCells1 (0, [])).toArray 48)); have HNW : Hid (∀ i u, (nbCells1 (0, []))[i]? = some u → (w4.alloc (.cells (nbCells1 (0, [])).toArray 48)).cell? ((⟨w4.heap.size, 0, none⟩ : Addr).add i) = some u) := Lib.hid (Whole.made w4 48 (nbCells1 (0, [])).toArray).reads)
        | (at_builtin; refine wpList_append_own _ rfl (.tmp 165) (.tmp 167) 26 rfl w3.heap.size 48 i0 _ 2 _ Tryz.underlying26 hi0 hz0 hz1 rfl (by kernel_rfl) (by decide) _ _ _ rfl HOA.out ⟨w4.heap.size, 0, none⟩ 1 1 (nbCells1 (0, [])) rfl rfl HNW.out HON.out H64.out HBZ.out HVA.out.size ?_; intro v5 w5 hown hgrow _; have HV5 := Lib.hid (HVA.out.grown hgrow HVA.out.size (own_ge HOA.out)); have HO5 : Hid (w5.ownsRow w3.heap.size 48 2 v5 (m.dirty.length + 1) (nbCells m.dirty ++ nbCells1 (0, []))) := Lib.hid (by rw [Nat.zero_add, List.nil_append] at hown; exact hown); have HX5 := Lib.hid (HBX.out.1.below HV5.out HBX.out.1.lt); have c5 : w5.cell? ⟨px, 16, none⟩ = some (.slice a.D m.dirty.length a.cD) := HX5.out.cell 16; have y5 : w5.frozen? ⟨px, 16, none⟩ = false := HX5.out.free 16; clear hown hgrow; obtain ⟨X, d, rfl, hl5, hg5⟩ := own_shape HO5.out (by decide); have CP5 := Lib.hid (own_cap HO5.out); have NL5 : Hid (NewL w3.heap.size w5 X (nbCells m.dirty ++ nbCells1 (0, []))) := Lib.hid ⟨hl5, hg5⟩; clear hl5 hg5))
      go_meet
      case rel =>
        have hpw : px < w3.heap.size := HBX.out.1.lt
        have hb5 : Below px w3 (w5.setCell ⟨px, 16, none⟩ (.slice X (m.dirty.length + 1) d)) := (HV5.out.mono (show px ≤ w3.heap.size by omega)).setCell (p := ⟨px, 16, none⟩) (Nat.le_refl _) (.slice X (m.dirty.length + 1) d)
        have hx : (nbCells (m.dirty ++ [(0, [])])) = nbCells m.dirty ++ nbCells1 (0, []) := by simp [nbCells]
        refine REL _ hb5 ⟨({ a with D := X, cD := d } : MA), ({ m with dirty := m.dirty ++ [(0, [])] } : Mc), ⟨by have h := HX5.out.set 16 (.slice X (m.dirty.length + 1) d); have e : (m.dirty ++ [(0, [])]).length = m.dirty.length + 1 := (by simp); have e2 : mcL ({ a with D := X, cD := d } : MA) ({ m with dirty := m.dirty ++ [(0, [])] } : Mc) = (mcL a m).set 16 (.slice X (m.dirty.length + 1) d) := (by unfold mcL; rw [e]; rfl); rw [e2]; exact h, ?_⟩, ⟨HM.out.clock, HM.out.quantum, HM.out.cur, HM.out.left, HM.out.next, HM.out.newPipe, HM.out.told, HM.out.dleft, HM.out.procs, HM.out.pipes, HM.out.pend, fun p hp => (List.mem_append.1 hp).elim (HM.out.dirty p) fun h => by rw [List.mem_singleton.1 h]; unfold inJ8; simp, ⟨HM.out.sizes.1, HM.out.sizes.2.1, HM.out.sizes.2.2.1, HM.out.sizes.2.2.2.1, HM.out.sizes.2.2.2.2.1, by have := HM.out.sizes.2.2.2.2.2; simp; omega⟩⟩, (show m.pipes.length ≤ 1099511627776 by omega), other_of fun e => ?_⟩
        · have h := (HAP.out.below hb5).wide (B' := (w5.setCell ⟨px, 16, none⟩ (.slice X (m.dirty.length + 1) d)).heap.size) (by have := hb5.size; omega)
          have hN : Lies (w5.setCell ⟨px, 16, none⟩ (.slice X (m.dirty.length + 1) d)) (w5.setCell ⟨px, 16, none⟩ (.slice X (m.dirty.length + 1) d)).heap.size X (nbCells (m.dirty ++ [(0, [])])) := by rw [hx]; exact (NL5.out.set (q := px) (K := 16) (v := .slice X (m.dirty.length + 1) d) hpw).1
          have hc : (m.dirty ++ [(0, [])]).length ≤ d := by rw [List.length_append]; exact CP5.out
          exact ⟨h.F, h.P, h.Q, h.L, h.N, hN, ⟨h.caps.1, h.caps.2.1, h.caps.2.2.1, h.caps.2.2.2.1, h.caps.2.2.2.2.1, hc⟩⟩
        · have h2 := congrArg (fun q : Mc => q.dirty.length) e; simp at h2
    · have e0 : (k % 12 == 0) = false := beq_eq_false_iff_ne.2 (by omega)
      have e1 : (k % 12 == 1) = false := beq_eq_false_iff_ne.2 (by omega)
      have e2 : (k % 12 == 2) = false := beq_eq_false_iff_ne.2 (by omega)
      have e3 : (k % 12 == 3) = false := beq_eq_false_iff_ne.2 (by omega)
      have e4 : (k % 12 == 4) = false := beq_eq_false_iff_ne.2 (by omega)
      have e5 : (k % 12 == 5) = false := beq_eq_false_iff_ne.2 (by omega)
      have e6 : (k % 12 == 6) = false := beq_eq_false_iff_ne.2 (by omega)
      have e7 : (k % 12 == 7) = false := beq_eq_false_iff_ne.2 (by omega)
      have e8 : (k % 12 == 8) = false := beq_eq_false_iff_ne.2 (by omega)
      have e9 : (k % 12 == 9) = false := beq_eq_false_iff_ne.2 (by omega)
      have e10 : (k % 12 == 10) = false := beq_eq_false_iff_ne.2 (by omega)
      have e11 : (k % 12 == 11) = true := beq_iff_eq.2 hq
      clear hq
      have c0 : w3.cell? ⟨gx, 10, none⟩ = some (S m.inp) := HB0.out.1.cell 10
      have c : w3.cell? ⟨px, 10, none⟩ = some (S m.inp) := HBX.out.1.cell 10
      have y : w3.frozen? ⟨px, 10, none⟩ = false := HBX.out.1.free 10
      go_wp2_with fail
      go_meet
      case rel =>
        refine REL _ ((Below.refl px w3).setCell (p := ⟨px, 10, none⟩) (Nat.le_refl _) (S (m.inp ++ [120]))) ⟨a, ({ m with inp := m.inp ++ [120] } : Mc), ⟨HBX.out.1.set 10 (S (m.inp ++ [120])), ?_⟩, ⟨HM.out.clock, HM.out.quantum, HM.out.cur, HM.out.left, HM.out.next, HM.out.newPipe, HM.out.told, HM.out.dleft, HM.out.procs, HM.out.pipes, HM.out.pend, HM.out.dirty, HM.out.sizes⟩, (show m.pipes.length ≤ 1099511627776 by omega), other_of fun e => ?_⟩
        · have h := (HAP.out.below ((Below.refl px w3).setCell (p := ⟨px, 10, none⟩) (Nat.le_refl _) (S (m.inp ++ [120])))).wide (B' := (w3.setCell ⟨px, 10, none⟩ (S (m.inp ++ [120]))).heap.size) (by have := HBX.out.1.lt; simp [World.setCell]; omega)
          exact ⟨h.F, h.P, h.Q, h.L, h.N, h.D, h.caps⟩
        · have h2 := congrArg (fun q : Mc => q.inp.length) e; simp at h2
  case rest =>
  as_aux_lemma =>
  obtain ⟨HX, HB0, HB1, HV⟩ := hcut
  clear HBX HAP HNP HV3
  obtain ⟨ax, x, hx1, hx2, hx3, hx4⟩ := HX.out
  have HXB := Lib.hid hx1
  have HXO := Lib.hid hx2
  clear hx1 hx2 HX
  obtain ⟨sb, HSB⟩ : ∃ z, Hid (sameB m n = z) := ⟨_, Lib.hid rfl⟩
  have hpm : m.pipes.length ≤ 1099511627776 := by omega
  have C1 : Hid (∀ W, Below wc.heap.size wc W → Calls Tryz.prog 6 #[.agg (mcL a m).toArray, .agg (mcL b n).toArray] W fun e w' => e = .returned (.bool sb) ∧ Below W.heap.size W w') := Lib.hid fun W hW => by
    have h := same_any W a b m n HM.out HN.out hpm hpn (HB0.out.below hW).2 (HB1.out.below hW).2
    rw [HSB.out] at h; exact h
  have C2 : Hid (∀ W, Below wc.heap.size wc W → Calls Tryz.prog 7 #[.agg (mcL a m).toArray, .agg (mcL b n).toArray] W fun e w' => e = .returned (.bool sb) ∧ Below W.heap.size W w') := Lib.hid fun W hW => by
    have h := r30same_any W a b m n HM.out HN.out hpm (HB0.out.below hW).2 (HB1.out.below hW).2
    rw [HSB.out] at h; exact h
  have C3 : Hid (∀ W, Below wc.heap.size wc W → Calls Tryz.prog 6 #[.agg (mcL b n).toArray, .agg (mcL a m).toArray] W fun e w' => e = .returned (.bool sb) ∧ Below W.heap.size W w') := Lib.hid fun W hW => by
    have h := same_any W b a n m HN.out HM.out hpn hpm (HB1.out.below hW).2 (HB0.out.below hW).2
    rw [sameB_comm, HSB.out] at h; exact h
  have C4 : Hid (∀ W, Below wc.heap.size wc W → Calls Tryz.prog 6 #[.agg (mcL a m).toArray, .agg (mcL a m).toArray] W fun e w' => e = .returned (.bool true) ∧ Below W.heap.size W w') := Lib.hid fun W hW => by
    have h := same_any W a a m m HM.out HM.out hpm hpm (HB0.out.below hW).2 (HB0.out.below hW).2
    rw [sameB_refl] at h; exact h
  have C5 : Hid (∀ W, Below wc.heap.size wc W → Calls Tryz.prog 6 #[.agg (mcL a m).toArray, .agg (mcL ax x).toArray] W fun e w' => e = .returned (.bool false) ∧ Below W.heap.size W w') := Lib.hid fun W hW => by
    have h := same_any W a ax m x HM.out HXO.out hpm hx3 (HB0.out.below hW).2 (HXB.out.below hW).2
    rw [hx4] at h; exact h
  clear hx4 hx3 HSB
  go_upto_region 31 with (fail)
  refine' wp_region_sure (by kernel_rfl) (fun W => Below wc.heap.size wc W) 28 [_, _, _, _, _, _, _, _, _, _, _, _, _, _, _, _, _, _, _, _, _, _, _, _, _, _, _, _] [some 176, some 177, some 178, some 179, some 180, some 181, some 182, some 183, some 184, some 185, some 186, some 187, some 188, some 189, some 190, some 191, some 192, some 193, some 194, some 195, some 196, some 197, some 198, some 199, some 200, some 201, some 202, some 6] (by kernel_rfl) (by kernel_rfl) (by kernel_rfl) (by kernel_rfl) rfl (Below.refl _ _).drew ?hs
  case hs =>
    refine sure_cons ?_ ?_
    · intro L ac W K hed hJ hS hK
      have hA3 : ac.eval (.tmp 3) = .pointer (some ⟨gx, 0, none⟩) := hJ.eval_old 3 (by kernel_rfl)
      clear hed hJ
      refine opStep_of rfl ?_
      refine oper_load_at 30 (.tmp 3) rfl ⟨gx, 0, none⟩ hA3 (mcL a m) _ (HB0.out.below hS).read Tryz.underlying30 rfl (mc_info a m) ?_
      exact hK _ hS
    refine sure_cons ?_ ?_
    · intro L ac W K hed hJ hS hK
      have hA4 : ac.eval (.tmp 4) = .pointer (some ⟨gx + 1, 0, none⟩) := hJ.eval_old 4 (by kernel_rfl)
      clear hed hJ
      refine opStep_of rfl ?_
      refine oper_load_at 30 (.tmp 4) rfl ⟨gx + 1, 0, none⟩ hA4 (mcL b n) _ (HB1.out.below hS).read Tryz.underlying30 rfl (mc_info b n) ?_
      exact hK _ hS
    refine sure_cons ?_ ?_
    · intro L ac W K hed hJ hS hK
      have hn := needs_spec (l := [0, 1]) (by kernel_rfl) hed
      have hA176 := hJ.eval 0 (d := 176) (hn 0 (by simp)) rfl rfl rfl
      have hA177 := hJ.eval 1 (d := 177) (hn 1 (by simp)) rfl rfl rfl
      clear hed hJ hn
      refine opStep_of rfl ?_
      unfold Oper.wp execOp
      have hN176 := evalN hA176
      have hN177 := evalN hA177
      go_simp
      refine (C1.out W hS).mono ?_
      rintro e W' ⟨rfl, hb⟩
      have hS2 := hS.trans (hb.mono hS.size)
      dsimp only
      exact hK W' hS2
    refine sure_cons ?_ ?_
    · intro L ac W K hed hJ hS hK
      have hA3 : ac.eval (.tmp 3) = .pointer (some ⟨gx, 0, none⟩) := hJ.eval_old 3 (by kernel_rfl)
      clear hed hJ
      refine opStep_of rfl ?_
      refine oper_load_at 30 (.tmp 3) rfl ⟨gx, 0, none⟩ hA3 (mcL a m) _ (HB0.out.below hS).read Tryz.underlying30 rfl (mc_info a m) ?_
      exact hK _ hS
    refine sure_cons ?_ ?_
    · intro L ac W K hed hJ hS hK
      have hA4 : ac.eval (.tmp 4) = .pointer (some ⟨gx + 1, 0, none⟩) := hJ.eval_old 4 (by kernel_rfl)
      clear hed hJ
      refine opStep_of rfl ?_
      refine oper_load_at 30 (.tmp 4) rfl ⟨gx + 1, 0, none⟩ hA4 (mcL b n) _ (HB1.out.below hS).read Tryz.underlying30 rfl (mc_info b n) ?_
      exact hK _ hS
    refine sure_cons ?_ ?_
    · intro L ac W K hed hJ hS hK
      have hn := needs_spec (l := [3, 4]) (by kernel_rfl) hed
      have hA179 := hJ.eval 3 (d := 179) (hn 3 (by simp)) rfl rfl rfl
      have hA180 := hJ.eval 4 (d := 180) (hn 4 (by simp)) rfl rfl rfl
      clear hed hJ hn
      refine opStep_of rfl ?_
      unfold Oper.wp execOp
      have hN179 := evalN hA179
      have hN180 := evalN hA180
      go_simp
      refine (C2.out W hS).mono ?_
      rintro e W' ⟨rfl, hb⟩
      have hS2 := hS.trans (hb.mono hS.size)
      dsimp only
      exact hK W' hS2
    refine sure_cons ?_ ?_
    · intro L ac W K hed hJ hS hK
      have hn := needs_spec (l := [2, 5]) (by kernel_rfl) hed
      have hA178 := hJ.eval 2 (d := 178) (hn 2 (by simp)) rfl rfl rfl
      have hA181 := hJ.eval 5 (d := 181) (hn 5 (by simp)) rfl rfl rfl
      clear hed hJ hn
      refine opStep_of rfl ?_
      unfold Oper.wp execOp
      have hN178 := evalN hA178
      have hN181 := evalN hA181
      go_simp
      exact hK _ hS
    refine sure_cons ?_ ?_
    · intro L ac W K hed hJ hS hK
      have hn := needs_spec (l := [6]) (by kernel_rfl) hed
      have hA182 := hJ.eval 6 (d := 182) (hn 6 (by simp)) rfl rfl rfl
      clear hed hJ hn
      refine opStep_of rfl ?_
      unfold Oper.wp execOp
      have hN182 := evalN hA182
      go_simp
      exact hK _ hS
    refine sure_cons ?_ ?_
    · intro L ac W K hed hJ hS hK
      have hn := needs_spec (l := [7]) (by kernel_rfl) hed
      have hA4 : ac.eval (.tmp 4) = .pointer (some ⟨gx + 1, 0, none⟩) := hJ.eval_old 4 (by kernel_rfl)
      have hA183 := hJ.eval 7 (d := 183) (hn 7 (by simp)) rfl rfl rfl
      have hsz := Lib.hid hJ.size
      clear hed hJ hn
      refine opStep_yes rfl (d := 183) rfl (by rw [hsz.out]; rfl) hA183 ?_
      clear hsz
      refine oper_load_at 30 (.tmp 4) rfl ⟨gx + 1, 0, none⟩ hA4 (mcL b n) _ (HB1.out.below hS).read Tryz.underlying30 rfl (mc_info b n) ?_
      exact hK _ hS
    refine sure_cons ?_ ?_
    · intro L ac W K hed hJ hS hK
      have hn := needs_spec (l := [7]) (by kernel_rfl) hed
      have hA3 : ac.eval (.tmp 3) = .pointer (some ⟨gx, 0, none⟩) := hJ.eval_old 3 (by kernel_rfl)
      have hA183 := hJ.eval 7 (d := 183) (hn 7 (by simp)) rfl rfl rfl
      have hsz := Lib.hid hJ.size
      clear hed hJ hn
      refine opStep_yes rfl (d := 183) rfl (by rw [hsz.out]; rfl) hA183 ?_
      clear hsz
      refine oper_load_at 30 (.tmp 3) rfl ⟨gx, 0, none⟩ hA3 (mcL a m) _ (HB0.out.below hS).read Tryz.underlying30 rfl (mc_info a m) ?_
      exact hK _ hS
    refine sure_cons ?_ ?_
    · intro L ac W K hed hJ hS hK
      have hn := needs_spec (l := [7, 8, 9]) (by kernel_rfl) hed
      have hA184 := hJ.eval 8 (d := 184) (hn 8 (by simp)) rfl rfl rfl
      have hA185 := hJ.eval 9 (d := 185) (hn 9 (by simp)) rfl rfl rfl
      have hA183 := hJ.eval 7 (d := 183) (hn 7 (by simp)) rfl rfl rfl
      have hsz := Lib.hid hJ.size
      clear hed hJ hn
      refine opStep_yes rfl (d := 183) rfl (by rw [hsz.out]; rfl) hA183 ?_
      clear hsz
      unfold Oper.wp execOp
      have hN184 := evalN hA184
      have hN185 := evalN hA185
      go_simp
      refine (C3.out W hS).mono ?_
      rintro e W' ⟨rfl, hb⟩
      have hS2 := hS.trans (hb.mono hS.size)
      dsimp only
      exact hK W' hS2
    refine sure_cons ?_ ?_
    · intro L ac W K hed hJ hS hK
      have hn := needs_spec (l := [7]) (by kernel_rfl) hed
      have hA3 : ac.eval (.tmp 3) = .pointer (some ⟨gx, 0, none⟩) := hJ.eval_old 3 (by kernel_rfl)
      have hA183 := hJ.eval 7 (d := 183) (hn 7 (by simp)) rfl rfl rfl
      have hsz := Lib.hid hJ.size
      clear hed hJ hn
      refine opStep_yes rfl (d := 183) rfl (by rw [hsz.out]; rfl) hA183 ?_
      clear hsz
      refine oper_load_at 30 (.tmp 3) rfl ⟨gx, 0, none⟩ hA3 (mcL a m) _ (HB0.out.below hS).read Tryz.underlying30 rfl (mc_info a m) ?_
      exact hK _ hS
    refine sure_cons ?_ ?_
    · intro L ac W K hed hJ hS hK
      have hn := needs_spec (l := [7]) (by kernel_rfl) hed
      have hA4 : ac.eval (.tmp 4) = .pointer (some ⟨gx + 1, 0, none⟩) := hJ.eval_old 4 (by kernel_rfl)
      have hA183 := hJ.eval 7 (d := 183) (hn 7 (by simp)) rfl rfl rfl
      have hsz := Lib.hid hJ.size
      clear hed hJ hn
      refine opStep_yes rfl (d := 183) rfl (by rw [hsz.out]; rfl) hA183 ?_
      clear hsz
      refine oper_load_at 30 (.tmp 4) rfl ⟨gx + 1, 0, none⟩ hA4 (mcL b n) _ (HB1.out.below hS).read Tryz.underlying30 rfl (mc_info b n) ?_
      exact hK _ hS
    refine sure_cons ?_ ?_
    · intro L ac W K hed hJ hS hK
      have hn := needs_spec (l := [7, 11, 12]) (by kernel_rfl) hed
      have hA187 := hJ.eval 11 (d := 187) (hn 11 (by simp)) rfl rfl rfl
      have hA188 := hJ.eval 12 (d := 188) (hn 12 (by simp)) rfl rfl rfl
      have hA183 := hJ.eval 7 (d := 183) (hn 7 (by simp)) rfl rfl rfl
      have hsz := Lib.hid hJ.size
      clear hed hJ hn
      refine opStep_yes rfl (d := 183) rfl (by rw [hsz.out]; rfl) hA183 ?_
      clear hsz
      unfold Oper.wp execOp
      have hN187 := evalN hA187
      have hN188 := evalN hA188
      go_simp
      refine (C1.out W hS).mono ?_
      rintro e W' ⟨rfl, hb⟩
      have hS2 := hS.trans (hb.mono hS.size)
      dsimp only
      exact hK W' hS2
    refine sure_cons ?_ ?_
    · intro L ac W K hed hJ hS hK
      have hn := needs_spec (l := [7, 10, 13]) (by kernel_rfl) hed
      have hA186 := hJ.eval 10 (d := 186) (hn 10 (by simp)) rfl rfl rfl
      have hA189 := hJ.eval 13 (d := 189) (hn 13 (by simp)) rfl rfl rfl
      have hA183 := hJ.eval 7 (d := 183) (hn 7 (by simp)) rfl rfl rfl
      have hsz := Lib.hid hJ.size
      clear hed hJ hn
      refine opStep_yes rfl (d := 183) rfl (by rw [hsz.out]; rfl) hA183 ?_
      clear hsz
      unfold Oper.wp execOp
      have hN186 := evalN hA186
      have hN189 := evalN hA189
      go_simp
      exact hK _ hS
    refine sure_cons ?_ ?_
    · intro L ac W K hed hJ hS hK
      have hn := needs_spec (l := [7, 14]) (by kernel_rfl) hed
      have hA183 := hJ.eval 7 (d := 183) (hn 7 (by simp)) rfl rfl rfl
      have hA190 := hJ.eval 14 (d := 190) (hn 14 (by simp)) rfl rfl rfl
      clear hed hJ hn
      refine opStep_of rfl ?_
      unfold Oper.wp execOp
      have hN183 := evalN hA183
      have hN190 := evalN hA190
      go_simp
      exact hK _ hS
    refine sure_cons ?_ ?_
    · intro L ac W K hed hJ hS hK
      have hn := needs_spec (l := [15]) (by kernel_rfl) hed
      have hA191 := hJ.eval 15 (d := 191) (hn 15 (by simp)) rfl rfl rfl
      clear hed hJ hn
      refine opStep_of rfl ?_
      unfold Oper.wp execOp
      have hN191 := evalN hA191
      go_simp
      exact hK _ hS
    refine sure_cons ?_ ?_
    · intro L ac W K hed hJ hS hK
      have hn := needs_spec (l := [16]) (by kernel_rfl) hed
      have hA3 : ac.eval (.tmp 3) = .pointer (some ⟨gx, 0, none⟩) := hJ.eval_old 3 (by kernel_rfl)
      have hA192 := hJ.eval 16 (d := 192) (hn 16 (by simp)) rfl rfl rfl
      have hsz := Lib.hid hJ.size
      clear hed hJ hn
      refine opStep_yes rfl (d := 192) rfl (by rw [hsz.out]; rfl) hA192 ?_
      clear hsz
      refine oper_load_at 30 (.tmp 3) rfl ⟨gx, 0, none⟩ hA3 (mcL a m) _ (HB0.out.below hS).read Tryz.underlying30 rfl (mc_info a m) ?_
      exact hK _ hS
    refine sure_cons ?_ ?_
    · intro L ac W K hed hJ hS hK
      have hn := needs_spec (l := [16]) (by kernel_rfl) hed
      have hA3 : ac.eval (.tmp 3) = .pointer (some ⟨gx, 0, none⟩) := hJ.eval_old 3 (by kernel_rfl)
      have hA192 := hJ.eval 16 (d := 192) (hn 16 (by simp)) rfl rfl rfl
      have hsz := Lib.hid hJ.size
      clear hed hJ hn
      refine opStep_yes rfl (d := 192) rfl (by rw [hsz.out]; rfl) hA192 ?_
      clear hsz
      refine oper_load_at 30 (.tmp 3) rfl ⟨gx, 0, none⟩ hA3 (mcL a m) _ (HB0.out.below hS).read Tryz.underlying30 rfl (mc_info a m) ?_
      exact hK _ hS
    refine sure_cons ?_ ?_
    · intro L ac W K hed hJ hS hK
      have hn := needs_spec (l := [16, 17, 18]) (by kernel_rfl) hed
      have hA193 := hJ.eval 17 (d := 193) (hn 17 (by simp)) rfl rfl rfl
      have hA194 := hJ.eval 18 (d := 194) (hn 18 (by simp)) rfl rfl rfl
      have hA192 := hJ.eval 16 (d := 192) (hn 16 (by simp)) rfl rfl rfl
      have hsz := Lib.hid hJ.size
      clear hed hJ hn
      refine opStep_yes rfl (d := 192) rfl (by rw [hsz.out]; rfl) hA192 ?_
      clear hsz
      unfold Oper.wp execOp
      have hN193 := evalN hA193
      have hN194 := evalN hA194
      go_simp
      refine (C4.out W hS).mono ?_
      rintro e W' ⟨rfl, hb⟩
      have hS2 := hS.trans (hb.mono hS.size)
      dsimp only
      exact hK W' hS2
    refine sure_cons ?_ ?_
    · intro L ac W K hed hJ hS hK
      have hn := needs_spec (l := [16, 19]) (by kernel_rfl) hed
      have hA192 := hJ.eval 16 (d := 192) (hn 16 (by simp)) rfl rfl rfl
      have hA195 := hJ.eval 19 (d := 195) (hn 19 (by simp)) rfl rfl rfl
      clear hed hJ hn
      refine opStep_of rfl ?_
      unfold Oper.wp execOp
      have hN192 := evalN hA192
      have hN195 := evalN hA195
      go_simp
      exact hK _ hS
    refine sure_cons ?_ ?_
    · intro L ac W K hed hJ hS hK
      have hn := needs_spec (l := [20]) (by kernel_rfl) hed
      have hA196 := hJ.eval 20 (d := 196) (hn 20 (by simp)) rfl rfl rfl
      clear hed hJ hn
      refine opStep_of rfl ?_
      unfold Oper.wp execOp
      have hN196 := evalN hA196
      go_simp
      exact hK _ hS
    refine sure_cons ?_ ?_
    · intro L ac W K hed hJ hS hK
      have hn := needs_spec (l := [21]) (by kernel_rfl) hed
      have hA3 : ac.eval (.tmp 3) = .pointer (some ⟨gx, 0, none⟩) := hJ.eval_old 3 (by kernel_rfl)
      have hA197 := hJ.eval 21 (d := 197) (hn 21 (by simp)) rfl rfl rfl
      have hsz := Lib.hid hJ.size
      clear hed hJ hn
      refine opStep_yes rfl (d := 197) rfl (by rw [hsz.out]; rfl) hA197 ?_
      clear hsz
      refine oper_load_at 30 (.tmp 3) rfl ⟨gx, 0, none⟩ hA3 (mcL a m) _ (HB0.out.below hS).read Tryz.underlying30 rfl (mc_info a m) ?_
      exact hK _ hS
    refine sure_cons ?_ ?_
    · intro L ac W K hed hJ hS hK
      have hn := needs_spec (l := [21]) (by kernel_rfl) hed
      have hA7 : ac.eval (.tmp 7) = .pointer (some ⟨px, 0, none⟩) := hJ.eval_old 7 (by kernel_rfl)
      have hA197 := hJ.eval 21 (d := 197) (hn 21 (by simp)) rfl rfl rfl
      have hsz := Lib.hid hJ.size
      clear hed hJ hn
      refine opStep_yes rfl (d := 197) rfl (by rw [hsz.out]; rfl) hA197 ?_
      clear hsz
      refine oper_load_at 30 (.tmp 7) rfl ⟨px, 0, none⟩ hA7 (mcL ax x) _ (HXB.out.below hS).read Tryz.underlying30 rfl (mc_info ax x) ?_
      exact hK _ hS
    refine sure_cons ?_ ?_
    · intro L ac W K hed hJ hS hK
      have hn := needs_spec (l := [21, 22, 23]) (by kernel_rfl) hed
      have hA198 := hJ.eval 22 (d := 198) (hn 22 (by simp)) rfl rfl rfl
      have hA199 := hJ.eval 23 (d := 199) (hn 23 (by simp)) rfl rfl rfl
      have hA197 := hJ.eval 21 (d := 197) (hn 21 (by simp)) rfl rfl rfl
      have hsz := Lib.hid hJ.size
      clear hed hJ hn
      refine opStep_yes rfl (d := 197) rfl (by rw [hsz.out]; rfl) hA197 ?_
      clear hsz
      unfold Oper.wp execOp
      have hN198 := evalN hA198
      have hN199 := evalN hA199
      go_simp
      refine (C5.out W hS).mono ?_
      rintro e W' ⟨rfl, hb⟩
      have hS2 := hS.trans (hb.mono hS.size)
      dsimp only
      exact hK W' hS2
    refine sure_cons ?_ ?_
    · intro L ac W K hed hJ hS hK
      have hn := needs_spec (l := [21, 24]) (by kernel_rfl) hed
      have hA200 := hJ.eval 24 (d := 200) (hn 24 (by simp)) rfl rfl rfl
      have hA197 := hJ.eval 21 (d := 197) (hn 21 (by simp)) rfl rfl rfl
      have hsz := Lib.hid hJ.size
      clear hed hJ hn
      refine opStep_yes rfl (d := 197) rfl (by rw [hsz.out]; rfl) hA197 ?_
      clear hsz
      unfold Oper.wp execOp
      have hN200 := evalN hA200
      go_simp
      exact hK _ hS
    refine sure_cons ?_ ?_
    · intro L ac W K hed hJ hS hK
      have hn := needs_spec (l := [21, 25]) (by kernel_rfl) hed
      have hA197 := hJ.eval 21 (d := 197) (hn 21 (by simp)) rfl rfl rfl
      have hA201 := hJ.eval 25 (d := 201) (hn 25 (by simp)) rfl rfl rfl
      clear hed hJ hn
      refine opStep_of rfl ?_
      unfold Oper.wp execOp
      have hN197 := evalN hA197
      have hN201 := evalN hA201
      go_simp
      exact hK _ hS
    refine sure_cons ?_ ?_
    · intro L ac W K hed hJ hS hK
      have hn := needs_spec (l := [26]) (by kernel_rfl) hed
      have hA202 := hJ.eval 26 (d := 202) (hn 26 (by simp)) rfl rfl rfl
      clear hed hJ hn
      refine opStep_of rfl ?_
      unfold Oper.wp execOp
      have hN202 := evalN hA202
      go_simp
      exact hK _ hS
    refine sure_nil ?_
    intro W hS
    simp only [putAll, Act.put, List.setIfInBounds_toArray, List.set_cons_zero, List.set_cons_succ]
    have HE := Lib.hid (HV.out.trans (hS.mono HV.out.size))
    clear hS
    go_wp2_with fail
    go_ret
    exact ⟨rfl, by rw [HGX.out]; exact HW.out.trans (HE.out.mono (by omega))⟩
end Go.Proofs.YtfdflkddmgninaaGreatDoor
