/-
  Walk: hibernaclelaw34.FreezeBegins. (Printed by gen_fzbegins.py.)
-/
import Derived.Test.YtmmfcjkabpffeaaGreatDoorRestF
import Derived.Test.YtmmfcjkabpffeaaGreatDoorFzAliveZ
import Derived.Test.YtmmfcjkabpffeaaGreatDoorRFzBegin
import Derived.Test.YtmmfcjkabpffeaaGreatDoorMcA
namespace Go.Proofs.YtmmfcjkabpffeaaGreatDoor
open Go.RowKit

/-- a shot that has just begun -/
def ShR (ck : Int) (nf nb : Nat) (r : List UInt8) (W : World) (v : Value) : Prop :=
  ∃ G k G' k', v = .agg #[.int .u64 ck, .slice G (zerosK nf).length k, .slice G' (zerosK nb).length k', S r] ∧ Kps W W.heap.size G (zerosK nf) ∧ Kps W W.heap.size G' (zerosK nb)
theorem ShR.below {ck : Int} {nf nb : Nat} {r : List UInt8} {W W' : World} {v : Value} (h : ShR ck nf nb r W v) (hb : Below W.heap.size W W') : ShR ck nf nb r W' v := by
  obtain ⟨G, k, G', k', e, h1, h2⟩ := h
  exact ⟨G, k, G', k', e, (Lies.below h1 hb).wide hb.size, (Lies.below h2 hb).wide hb.size⟩
theorem fzbegin_any (w : World) (a : MA) (m : Mc) (hm : McOk m) (hpn : m.pend.length ≤ 4096) (hA : MAt w w.heap.size a m) (hT : STabs w) :
    Calls Tryz.prog 17 #[.agg (mcL a m).toArray] w fun e w' => (∃ v, e = .returned v ∧ ShR m.clock m.frames.length m.blocks.length (imR m) w' v) ∧ Below w.heap.size w w' := by
  refine (begin_cells w (.int .i64 m.quantum) (.int .i64 m.cur) (.int .i64 m.left) (.slice a.P m.procs.length a.cP) (.int .i64 m.next) (S m.init) (.slice a.Q m.pipes.length a.cQ) (.int .i64 m.newPipe) (S m.inp) (.bool m.fin) (.int .u64 m.told) (.slice a.N m.pend.length a.cN) (.int .i64 m.dleft) (.slice a.D m.dirty.length a.cD) a.F a.L a.cF a.cL m.frames m.blocks (imR m) m.clock hm.sizes.1 hm.sizes.2.2.2.1 fun W hW => ?_).mono ?_
  · refine (imageOf_any W a m hm hpn ((hA.below hW).wide hW.size) (hT.below (B := w.heap.size) (Nat.le_refl _) hW)).mono ?_
    rintro e w' ⟨⟨J, j, J', j', rfl, _, _, _, _⟩, hb⟩
    exact ⟨⟨J, _, j, J', _, j', rfl⟩, hb⟩
  · rintro e w' ⟨⟨G, k, G', k', rfl, h1, h2, _, _⟩, hb⟩
    exact ⟨⟨_, rfl, G, k, G', k', rfl, h1, h2⟩, hb⟩
theorem rfzbegin_any (w : World) (a : MA) (m : Mc) (hm : McOk m) (hpn : m.pend.length ≤ 4096) (hA : MAt w w.heap.size a m) :
    Calls Tryz.prog 18 #[.agg (mcL a m).toArray] w fun e w' => (∃ v, e = .returned v ∧ ShR m.clock m.frames.length m.blocks.length (imR m) w' v) ∧ Below w.heap.size w w' := by
  refine (rbegin_cells w (.int .i64 m.quantum) (.int .i64 m.cur) (.int .i64 m.left) (.slice a.P m.procs.length a.cP) (.int .i64 m.next) (S m.init) (.slice a.Q m.pipes.length a.cQ) (.int .i64 m.newPipe) (S m.inp) (.bool m.fin) (.int .u64 m.told) (.slice a.N m.pend.length a.cN) (.int .i64 m.dleft) (.slice a.D m.dirty.length a.cD) a.F a.L a.cF a.cL m.frames m.blocks (imR m) m.clock hm.sizes.1 hm.sizes.2.2.2.1 fun W hW => ?_).mono ?_
  · refine (rimageOf_any W a m hm hpn ((hA.below hW).wide hW.size)).mono ?_
    rintro e w' ⟨⟨J, j, J', j', rfl, _, _⟩, hb⟩
    exact ⟨⟨J, _, j, J', _, j', rfl⟩, hb⟩
  · rintro e w' ⟨⟨G, k, G', k', rfl, h1, h2, _, _⟩, hb⟩
    exact ⟨⟨_, rfl, G, k, G', k', rfl, h1, h2⟩, hb⟩
set_option maxRecDepth 100000 in
set_option maxHeartbeats 2000000 in
theorem mfgreat_any (w : World) (A A' : Option Addr) (c c' : Nat) (ck : Int) (fl bl : List Kp) (r : List UInt8) (a : MA) (m : Mc) :
    Calls Tryz.prog 15 #[.agg (mcL a m).toArray, .agg #[.int .u64 ck, .slice A fl.length c, .slice A' bl.length c', S r]] w fun e w' => (∃ g : Int, e = .returned (.int .i64 g) ∧ (g = 1 ∨ (g = 0 ∧ m.frames.length ≤ 70 ∧ m.blocks.length ≤ 260 ∧ fl.length ≤ 70 ∧ bl.length ≤ 260 ∧ m.pend.length ≤ 80 ∧ m.procs.length ≤ 10 ∧ m.dirty.length ≤ 40))) ∧ Below w.heap.size w w' := by
  have hs0 := (Whole.made w 30 (mcL a m).toArray).block (.cells #[.int .u64 ck, .slice A fl.length c, .slice A' bl.length c', S r] 43)
  have hs1 := Whole.made (w.alloc (.cells (mcL a m).toArray 30)) 43 #[.int .u64 ck, .slice A fl.length c, .slice A' bl.length c', S r]
  rw [show (w.alloc (.cells (mcL a m).toArray 30)).heap.size = w.heap.size + 1 by simp] at hs1
  have hb : Below w.heap.size w ((w.alloc (.cells (mcL a m).toArray 30)).alloc (.cells #[.int .u64 ck, .slice A fl.length c, .slice A' bl.length c', S r] 43)) := ((Below.refl _ _).alloc (by first | exact Nat.le_refl _ | simp | (simp; omega)) _).alloc (by first | exact Nat.le_refl _ | simp | (simp; omega)) _
  go_enter Tryz.func15, Tryz.ntmps15
  go_upto_region 1 with (fail)
  change Code.wp _ _ _ _ ((w.alloc (.cells (mcL a m).toArray 30)).alloc (.cells #[.int .u64 ck, .slice A fl.length c, .slice A' bl.length c', S r] 43))
  generalize ((w.alloc (.cells (mcL a m).toArray 30)).alloc (.cells #[.int .u64 ck, .slice A fl.length c, .slice A' bl.length c', S r] 43)) = w1 at *
  generalize hgx : w.heap.size = gx at *
  have HGX := Lib.hid hgx
  have HS0 := Lib.hid hs0
  have HS1 := Lib.hid hs1
  have HW := Lib.hid hb
  have hgl : gx + 1 < w1.heap.size := hs1.lt
  clear hgx hb hs0 hs1
  have m4 : w1.cell? ⟨gx, 4, none⟩ = some (.slice a.F m.frames.length a.cF) := HS0.out.cell 4
  have m5 : w1.cell? ⟨gx, 5, none⟩ = some (.slice a.P m.procs.length a.cP) := HS0.out.cell 5
  have m13 : w1.cell? ⟨gx, 13, none⟩ = some (.slice a.L m.blocks.length a.cL) := HS0.out.cell 13
  have m14 : w1.cell? ⟨gx, 14, none⟩ = some (.slice a.N m.pend.length a.cN) := HS0.out.cell 14
  have m16 : w1.cell? ⟨gx, 16, none⟩ = some (.slice a.D m.dirty.length a.cD) := HS0.out.cell 16
  have s1 : w1.cell? ⟨gx + 1, 1, none⟩ = some (.slice A fl.length c) := HS1.out.cell 1
  have s2 : w1.cell? ⟨gx + 1, 2, none⟩ = some (.slice A' bl.length c') := HS1.out.cell 2
  go_wp2_with fail
  all_goals
    go_ret
    refine ⟨⟨_, rfl, ?_⟩, by rw [HGX.out]; exact HW.out⟩
    first | exact .inl rfl | (refine .inr ⟨rfl, ?_⟩; omega)
set_option maxRecDepth 100000 in
set_option maxHeartbeats 4000000 in
theorem fbegins_any (w : World) (A A' : Option Addr) (c c' : Nat) (ck : Int) (fl bl : List Kp) (r : List UInt8) (a : MA) (m : Mc) (hm : McOk' m) (hMA : MAt w w.heap.size a m) (hA : Kps w w.heap.size A fl) (hA' : Kps w w.heap.size A' bl) (hT : STabs w) :
    Calls Tryz.prog 4 #[.agg (mcL a m).toArray, .agg #[.int .u64 ck, .slice A fl.length c, .slice A' bl.length c', S r]] w fun e w' => e = .returned (.bool true) ∧ Below w.heap.size w w' := by
  have hs0 := (Whole.made w 30 (mcL a m).toArray).block (.cells #[.int .u64 ck, .slice A fl.length c, .slice A' bl.length c', S r] 43)
  have hs1 := Whole.made (w.alloc (.cells (mcL a m).toArray 30)) 43 #[.int .u64 ck, .slice A fl.length c, .slice A' bl.length c', S r]
  rw [show (w.alloc (.cells (mcL a m).toArray 30)).heap.size = w.heap.size + 1 by simp] at hs1
  have hb : Below w.heap.size w ((w.alloc (.cells (mcL a m).toArray 30)).alloc (.cells #[.int .u64 ck, .slice A fl.length c, .slice A' bl.length c', S r] 43)) := ((Below.refl _ _).alloc (by first | exact Nat.le_refl _ | simp | (simp; omega)) _).alloc (by first | exact Nat.le_refl _ | simp | (simp; omega)) _
  go_enter Tryz.func4, Tryz.ntmps4
  go_upto_region 1 with (fail)
  change Code.wp _ _ _ _ ((w.alloc (.cells (mcL a m).toArray 30)).alloc (.cells #[.int .u64 ck, .slice A fl.length c, .slice A' bl.length c', S r] 43))
  generalize ((w.alloc (.cells (mcL a m).toArray 30)).alloc (.cells #[.int .u64 ck, .slice A fl.length c, .slice A' bl.length c', S r] 43)) = w1 at *
  generalize hgx : w.heap.size = gx at *
  have HGX := Lib.hid hgx
  have HS0 := Lib.hid hs0
  have HS1 := Lib.hid hs1
  have HW := Lib.hid hb
  have hgl : gx + 1 < w1.heap.size := hs1.lt
  clear hgx hb hs0 hs1
  have HA := Lib.hid (hMA.below HW.out)
  have HM0 := Lib.hid hm
  have HMA : Hid (∀ W, Below w1.heap.size w1 W → MAt W W.heap.size a m) := Lib.hid fun W hW => (HA.out.below (hW.mono (by omega))).wide (by have := hW.size; omega)
  have HKA := Lib.hid (Lies.below hA HW.out)
  have HKB := Lib.hid (Lies.below hA' HW.out)
  have HLL : Hid (∀ (W : World) (G : Option Addr) (xs : List Value), Below w1.heap.size w1 W → Lies w1 gx G xs → Lies W W.heap.size G xs) := Lib.hid fun W G xs hW h => (h.below (hW.mono (by omega))).wide (by have := hW.size; omega)
  have HC : Hid (∀ W, Below w1.heap.size w1 W → Whole W gx 30 (mcL a m).toArray) := Lib.hid fun W hW => HS0.out.below hW (by omega)
  have HCS : Hid (∀ W, Below w1.heap.size w1 W → Whole W (gx + 1) 43 #[.int .u64 ck, .slice A fl.length c, .slice A' bl.length c', S r]) := Lib.hid fun W hW => HS1.out.below hW hgl
  have HLM : Hid (∀ W, Below w1.heap.size w1 W → ∀ j v, (mcL a m)[j]? = some v → W.cell? ((⟨gx, 0, none⟩ : Addr).add j) = some v) := Lib.hid fun W hW => (HS0.out.below hW (by omega)).reads
  have MI : Hid ((Tryz.prog.info? 30).map (·.size) = some (mcL a m).length) := Lib.hid (by rw [mcL_length]; exact Tryz.sizeMc)
  have HTW : Hid (∀ W, Below w1.heap.size w1 W → STabs W) := Lib.hid fun W hW => hT.below (B := gx) (by rw [HGX.out]; exact Nat.le_refl _) (HW.out.trans (hW.mono (by omega)))
  clear hT hm hMA hA hA'
  go_wp2_with fail
  refine (alive_any w1).mono ?_
  rintro e w2 ⟨rfl, hb2⟩
  have HB2 := Lib.hid hb2
  have hs2 := HCS.out w2 hb2
  have s0 : w2.cell? ⟨gx + 1, 0, none⟩ = some (.int .u64 ck) := hs2.cell 0
  have s1 : w2.cell? ⟨gx + 1, 1, none⟩ = some (.slice A fl.length c) := hs2.cell 1
  have s2 : w2.cell? ⟨gx + 1, 2, none⟩ = some (.slice A' bl.length c') := hs2.cell 2
  have s3 : w2.cell? ⟨gx + 1, 3, none⟩ = some (S r) := hs2.cell 3
  have LM := Lib.hid (HLM.out w2 hb2)
  have CG := Lib.hid (mfgreat_any w2 A A' c c' ck fl bl r a m)
  clear hb2 hs2
  go_wp2_with (refine wpList_load_at rfl 30 (.tmp 2) rfl ⟨gx, 0, none⟩ rfl (mcL a m) _ LM.out Tryz.underlying30 rfl MI.out ?_)
  refine CG.out.mono ?_
  rintro e w3 ⟨⟨g, rfl, hg⟩, hb3⟩
  have HB3 := Lib.hid (HB2.out.trans (hb3.mono HB2.out.size))
  clear CG s0 s1 s2 s3 hb3 LM
  rcases hg with rfl | ⟨rfl, g1, g2, g3, g4, g5, g6, g7⟩
  · go_wp2_with fail
    go_ret
    exact ⟨rfl, by rw [HGX.out]; exact HW.out.trans (HB3.out.mono (by omega))⟩
  · have HM := Lib.hid (HM0.out.small (by omega) (by omega) (by omega) (by omega) (by omega))
    obtain ⟨rr, HRR⟩ : ∃ z, Hid (imR m = z) := ⟨_, Lib.hid rfl⟩
    have hz3 := HB3.out.size
    have HWW : Hid (∀ W, Below w3.heap.size w3 W → Below w1.heap.size w1 W) := Lib.hid fun W hW => HB3.out.trans (hW.mono hz3)
    have HST : Hid (∀ (j : Nat) v W W', (fun (_ : Nat) (v : Value) (W : World) => ShR m.clock m.frames.length m.blocks.length rr W v) j v W → Below W.heap.size W W' → (fun (_ : Nat) (v : Value) (W : World) => ShR m.clock m.frames.length m.blocks.length rr W v) j v W') := Lib.hid fun j v W W' h hb => ShR.below h hb
    have HPN := Lib.hid g5
    have CB : Hid (∀ W, Below w3.heap.size w3 W → Calls Tryz.prog 17 #[.agg (mcL a m).toArray] W fun e w' => (∃ v, e = .returned v ∧ (fun (_ : Nat) (v : Value) (W : World) => ShR m.clock m.frames.length m.blocks.length rr W v) 1 v w') ∧ Below W.heap.size W w') := Lib.hid fun W hS => by
      have h := fzbegin_any W a m HM.out (Nat.le_trans HPN.out (by decide)) (HMA.out W (HWW.out W hS)) (HTW.out W (HWW.out W hS))
      rw [HRR.out] at h
      exact h
    have CRB : Hid (∀ W, Below w3.heap.size w3 W → Calls Tryz.prog 18 #[.agg (mcL a m).toArray] W fun e w' => (∃ v, e = .returned v ∧ (fun (_ : Nat) (v : Value) (W : World) => ShR m.clock m.frames.length m.blocks.length rr W v) 3 v w') ∧ Below W.heap.size W w') := Lib.hid fun W hS => by
      have h := rfzbegin_any W a m HM.out (Nat.le_trans HPN.out (by decide)) (HMA.out W (HWW.out W hS))
      rw [HRR.out] at h
      exact h
    obtain ⟨nl, HNL⟩ : ∃ z : Int, Hid (((leftL fl + leftL bl : Nat) : Int) = z) := ⟨_, Lib.hid rfl⟩
    have CLF : Hid (∀ W, Below w3.heap.size w3 W → Calls Tryz.prog 19 #[.agg #[.int .u64 ck, .slice A fl.length c, .slice A' bl.length c', S r]] W fun e w' => e = .returned (.int .i64 nl) ∧ Below W.heap.size W w') := Lib.hid fun W hS => by
      have h := left_any W A A' c c' ck fl bl r (HLL.out W _ _ (HWW.out W hS) HKA.out) (HLL.out W _ _ (HWW.out W hS) HKB.out) (by omega) (by omega)
      rw [HNL.out] at h
      exact h
    have CRL : Hid (∀ W, Below w3.heap.size w3 W → Calls Tryz.prog 20 #[.agg #[.int .u64 ck, .slice A fl.length c, .slice A' bl.length c', S r]] W fun e w' => e = .returned (.int .i64 nl) ∧ Below W.heap.size W w') := Lib.hid fun W hS => by
      have h := rleftS_any W A A' c c' ck fl bl r (HLL.out W _ _ (HWW.out W hS) HKA.out) (HLL.out W _ _ (HWW.out W hS) HKB.out) (by omega) (by omega)
      rw [HNL.out] at h
      exact h
    have CLZ : Hid (∀ W G G' k k', Kps W W.heap.size G (zerosK m.frames.length) → Kps W W.heap.size G' (zerosK m.blocks.length) → Calls Tryz.prog 19 #[.agg #[.int .u64 m.clock, .slice G (zerosK m.frames.length).length k, .slice G' (zerosK m.blocks.length).length k', S rr]] W fun e w' => e = .returned (.int .i64 ((m.frames.length : Int) + (m.blocks.length : Int))) ∧ Below W.heap.size W w') := Lib.hid fun W G G' k k' h1 h2 => by
      have h := left_any W G G' k k' m.clock _ _ rr h1 h2 (by rw [zerosK_length]; omega) (by rw [zerosK_length]; omega)
      rw [leftL_zerosK, leftL_zerosK, Int.natCast_add] at h
      exact h
    have wr1 : IntKind.i64.wrap ((m.frames.length : Int) + (m.blocks.length : Int)) = (m.frames.length : Int) + (m.blocks.length : Int) := by rw [IntKind.wrap_i64]; omega
    go_upto_region 5 with (fail)
    refine' wp_region_sureX (by kernel_rfl) (PostX w3 [(1, 12), (3, 14), (14, 25)] (fun (_ : Nat) (v : Value) (W : World) => ShR m.clock m.frames.length m.blocks.length rr W v)) 26 [some _, none, some _, none, some _, some _, some _, some _, some _, some _, some _, some _, some _, some _, none, some _, some _, some _, some _, some _, some _, some _, some _, some _, some _, some _] [some 11, some 12, some 13, some 14, some 15, some 16, some 17, some 18, some 19, some 20, some 21, some 22, some 23, some 24, some 25, some 26, some 27, some 28, some 29, some 30, some 31, some 32, some 33, some 34, some 35, some 36] (by kernel_rfl) (by kernel_rfl) (by kernel_rfl) (by kernel_rfl) rfl (PostX.init (Below.refl _ _).drew) ?hs1
    case hs1 =>
      refine sureX_cons ?_ ?_
      · intro L ac W K hLi hed hJ hX hK
        have hS := hX.1
        have hA2 : ac.eval (.tmp 2) = .pointer (some ⟨gx, 0, none⟩) := hJ.eval_old 2 (by kernel_rfl)
        have hsz := Lib.hid hJ.size
        clear hLi hed hJ
        refine opStep_of rfl ?_
        refine oper_load_at 30 (.tmp 2) rfl ⟨gx, 0, none⟩ hA2 (mcL a m) _ (HLM.out W (HWW.out W hS)) Tryz.underlying30 rfl MI.out ?_
        refine hK _ _ ?_ (hX.step HST.out (Below.refl _ _) rfl rfl)
        exact Knows.known _
      refine sureX_cons ?_ ?_
      · intro L ac W K hLi hed hJ hX hK
        have hS := hX.1
        have hn := needs_spec (l := [0]) (by kernel_rfl) hed
        have hA11 := hJ.eval 0 (d := 11) (hn 0 (by simp)) rfl rfl rfl
        have hsz := Lib.hid hJ.size
        clear hLi hed hJ hn
        refine opStep_of rfl ?_
        unfold Oper.wp execOp
        have hN11 := evalN hA11
        go_simp
        refine (CB.out W hS).mono ?_
        rintro e W' ⟨⟨v, rfl, hv⟩, hb⟩
        have hX2 := hX.made (j := 1) (s := 12) HST.out hb rfl (by rw [hsz.out]; exact of_decide_eq_true rfl) hv
        dsimp only
        refine hK _ W' ?_ hX2
        exact Knows.free _
      refine sureX_cons ?_ ?_
      · intro L ac W K hLi hed hJ hX hK
        have hS := hX.1
        have hA2 : ac.eval (.tmp 2) = .pointer (some ⟨gx, 0, none⟩) := hJ.eval_old 2 (by kernel_rfl)
        have hsz := Lib.hid hJ.size
        clear hLi hed hJ
        refine opStep_of rfl ?_
        refine oper_load_at 30 (.tmp 2) rfl ⟨gx, 0, none⟩ hA2 (mcL a m) _ (HLM.out W (HWW.out W hS)) Tryz.underlying30 rfl MI.out ?_
        refine hK _ _ ?_ (hX.step HST.out (Below.refl _ _) rfl rfl)
        exact Knows.known _
      refine sureX_cons ?_ ?_
      · intro L ac W K hLi hed hJ hX hK
        have hS := hX.1
        have hn := needs_spec (l := [2]) (by kernel_rfl) hed
        have hA13 := hJ.eval 2 (d := 13) (hn 2 (by simp)) rfl rfl rfl
        have hsz := Lib.hid hJ.size
        clear hLi hed hJ hn
        refine opStep_of rfl ?_
        unfold Oper.wp execOp
        have hN13 := evalN hA13
        go_simp
        refine (CRB.out W hS).mono ?_
        rintro e W' ⟨⟨v, rfl, hv⟩, hb⟩
        have hX2 := hX.made (j := 3) (s := 14) HST.out hb rfl (by rw [hsz.out]; exact of_decide_eq_true rfl) hv
        dsimp only
        refine hK _ W' ?_ hX2
        exact Knows.free _
      refine sureX_cons ?_ ?_
      · intro L ac W K hLi hed hJ hX hK
        have hS := hX.1
        have hn := needs_spec (l := [1, 3]) (by kernel_rfl) hed
        have hF12 := hX.2 (1, 12) (by simp) (hn 1 (by simp))
        have hF14 := hX.2 (3, 14) (by simp) (hn 3 (by simp))
        have hsz := Lib.hid hJ.size
        clear hLi hed hJ hn
        refine opStep_of rfl ?_
        obtain ⟨G12, k12, H12, j12, hA12, K12, L12⟩ := hF12
        obtain ⟨G14, k14, H14, j14, hA14, K14, L14⟩ := hF14
        unfold Oper.wp execOp
        have hN12 := evalN hA12
        have hN14 := evalN hA14
        go_simp
        refine (rsame_true W _ _ _ _ _ _ _ _ _ _ _ _ K12 L12 K14 L14 (by rw [zerosK_length]; omega) (by rw [zerosK_length]; omega)).mono ?_
        rintro e W' ⟨rfl, hb⟩
        have hX2 := hX.step (i := 4) (d := some 15) (v := .bool true) HST.out hb rfl rfl
        dsimp only
        refine hK _ W' ?_ hX2
        exact Knows.known _
      refine sureX_cons ?_ ?_
      · intro L ac W K hLi hed hJ hX hK
        have hS := hX.1
        have hn := needs_spec (l := [4]) (by kernel_rfl) hed
        have hA15 := hJ.eval 4 (d := 15) (hn 4 (by simp)) rfl rfl rfl
        have hsz := Lib.hid hJ.size
        clear hLi hed hJ hn
        refine opStep_of rfl ?_
        unfold Oper.wp execOp
        have hN15 := evalN hA15
        go_simp
        refine hK _ _ ?_ (hX.step HST.out (Below.refl _ _) rfl rfl)
        exact Knows.known _
      refine sureX_cons ?_ ?_
      · intro L ac W K hLi hed hJ hX hK
        have hS := hX.1
        have hn := needs_spec (l := [5]) (by kernel_rfl) hed
        have hA3 : ac.eval (.tmp 3) = .pointer (some ⟨gx + 1, 0, none⟩) := hJ.eval_old 3 (by kernel_rfl)
        have hA16 := hJ.eval 5 (d := 16) (hn 5 (by simp)) rfl rfl rfl
        have hsz := Lib.hid hJ.size
        clear hLi hed hJ hn
        refine opStep_yes rfl (d := 16) rfl (by rw [hsz.out]; rfl) hA16 ?_
        have s0 : W.cell? ⟨gx + 1, 0, none⟩ = some (.int .u64 ck) := (HCS.out W (HWW.out W hS)).cell 0
        have s1 : W.cell? ⟨gx + 1, 1, none⟩ = some (.slice A fl.length c) := (HCS.out W (HWW.out W hS)).cell 1
        have s2 : W.cell? ⟨gx + 1, 2, none⟩ = some (.slice A' bl.length c') := (HCS.out W (HWW.out W hS)).cell 2
        have s3 : W.cell? ⟨gx + 1, 3, none⟩ = some (S r) := (HCS.out W (HWW.out W hS)).cell 3
        unfold Oper.wp execOp
        have hN3 := evalN hA3
        go_simp
        refine hK _ _ ?_ (hX.step HST.out (Below.refl _ _) rfl rfl)
        exact Knows.known _
      refine sureX_cons ?_ ?_
      · intro L ac W K hLi hed hJ hX hK
        have hS := hX.1
        have hn := needs_spec (l := [5, 6]) (by kernel_rfl) hed
        have hA17 := hJ.eval 6 (d := 17) (hn 6 (by simp)) rfl rfl rfl
        have hA16 := hJ.eval 5 (d := 16) (hn 5 (by simp)) rfl rfl rfl
        have hsz := Lib.hid hJ.size
        clear hLi hed hJ hn
        refine opStep_yes rfl (d := 16) rfl (by rw [hsz.out]; rfl) hA16 ?_
        unfold Oper.wp execOp
        have hN17 := evalN hA17
        go_simp
        refine (CLF.out W hS).mono ?_
        rintro e W' ⟨rfl, hb⟩
        have hX2 := hX.step (i := 7) (d := some 18) (v := .int .i64 nl) HST.out hb rfl rfl
        dsimp only
        refine hK _ W' ?_ hX2
        exact Knows.known _
      refine sureX_cons ?_ ?_
      · intro L ac W K hLi hed hJ hX hK
        have hS := hX.1
        have hn := needs_spec (l := [5]) (by kernel_rfl) hed
        have hA3 : ac.eval (.tmp 3) = .pointer (some ⟨gx + 1, 0, none⟩) := hJ.eval_old 3 (by kernel_rfl)
        have hA16 := hJ.eval 5 (d := 16) (hn 5 (by simp)) rfl rfl rfl
        have hsz := Lib.hid hJ.size
        clear hLi hed hJ hn
        refine opStep_yes rfl (d := 16) rfl (by rw [hsz.out]; rfl) hA16 ?_
        have s0 : W.cell? ⟨gx + 1, 0, none⟩ = some (.int .u64 ck) := (HCS.out W (HWW.out W hS)).cell 0
        have s1 : W.cell? ⟨gx + 1, 1, none⟩ = some (.slice A fl.length c) := (HCS.out W (HWW.out W hS)).cell 1
        have s2 : W.cell? ⟨gx + 1, 2, none⟩ = some (.slice A' bl.length c') := (HCS.out W (HWW.out W hS)).cell 2
        have s3 : W.cell? ⟨gx + 1, 3, none⟩ = some (S r) := (HCS.out W (HWW.out W hS)).cell 3
        unfold Oper.wp execOp
        have hN3 := evalN hA3
        go_simp
        refine hK _ _ ?_ (hX.step HST.out (Below.refl _ _) rfl rfl)
        exact Knows.known _
      refine sureX_cons ?_ ?_
      · intro L ac W K hLi hed hJ hX hK
        have hS := hX.1
        have hn := needs_spec (l := [5, 8]) (by kernel_rfl) hed
        have hA19 := hJ.eval 8 (d := 19) (hn 8 (by simp)) rfl rfl rfl
        have hA16 := hJ.eval 5 (d := 16) (hn 5 (by simp)) rfl rfl rfl
        have hsz := Lib.hid hJ.size
        clear hLi hed hJ hn
        refine opStep_yes rfl (d := 16) rfl (by rw [hsz.out]; rfl) hA16 ?_
        unfold Oper.wp execOp
        have hN19 := evalN hA19
        go_simp
        refine (CRL.out W hS).mono ?_
        rintro e W' ⟨rfl, hb⟩
        have hX2 := hX.step (i := 9) (d := some 20) (v := .int .i64 nl) HST.out hb rfl rfl
        dsimp only
        refine hK _ W' ?_ hX2
        exact Knows.known _
      refine sureX_cons ?_ ?_
      · intro L ac W K hLi hed hJ hX hK
        have hS := hX.1
        have hn := needs_spec (l := [5, 7, 9]) (by kernel_rfl) hed
        have hA18 := hJ.eval 7 (d := 18) (hn 7 (by simp)) rfl rfl rfl
        have hA20 := hJ.eval 9 (d := 20) (hn 9 (by simp)) rfl rfl rfl
        have hA16 := hJ.eval 5 (d := 16) (hn 5 (by simp)) rfl rfl rfl
        have hsz := Lib.hid hJ.size
        clear hLi hed hJ hn
        refine opStep_yes rfl (d := 16) rfl (by rw [hsz.out]; rfl) hA16 ?_
        unfold Oper.wp execOp
        have hN18 := evalN hA18
        have hN20 := evalN hA20
        go_simp
        refine hK _ _ ?_ (hX.step HST.out (Below.refl _ _) rfl rfl)
        exact Knows.known _
      refine sureX_cons ?_ ?_
      · intro L ac W K hLi hed hJ hX hK
        have hS := hX.1
        have hn := needs_spec (l := [5, 10]) (by kernel_rfl) hed
        have hA16 := hJ.eval 5 (d := 16) (hn 5 (by simp)) rfl rfl rfl
        have hA21 := hJ.eval 10 (d := 21) (hn 10 (by simp)) rfl rfl rfl
        have hsz := Lib.hid hJ.size
        clear hLi hed hJ hn
        refine opStep_of rfl ?_
        unfold Oper.wp execOp
        have hN16 := evalN hA16
        have hN21 := evalN hA21
        go_simp
        refine hK _ _ ?_ (hX.step HST.out (Below.refl _ _) rfl rfl)
        exact Knows.known _
      refine sureX_cons ?_ ?_
      · intro L ac W K hLi hed hJ hX hK
        have hS := hX.1
        have hn := needs_spec (l := [11]) (by kernel_rfl) hed
        have hA22 := hJ.eval 11 (d := 22) (hn 11 (by simp)) rfl rfl rfl
        have hsz := Lib.hid hJ.size
        clear hLi hed hJ hn
        refine opStep_of rfl ?_
        unfold Oper.wp execOp
        have hN22 := evalN hA22
        go_simp
        refine hK _ _ ?_ (hX.step HST.out (Below.refl _ _) rfl rfl)
        exact Knows.known _
      refine sureX_cons ?_ ?_
      · intro L ac W K hLi hed hJ hX hK
        have hS := hX.1
        have hn := needs_spec (l := [12]) (by kernel_rfl) hed
        have hA2 : ac.eval (.tmp 2) = .pointer (some ⟨gx, 0, none⟩) := hJ.eval_old 2 (by kernel_rfl)
        have hA23 := hJ.eval 12 (d := 23) (hn 12 (by simp)) rfl rfl rfl
        have hsz := Lib.hid hJ.size
        clear hLi hed hJ hn
        refine opStep_yes rfl (d := 23) rfl (by rw [hsz.out]; rfl) hA23 ?_
        refine oper_load_at 30 (.tmp 2) rfl ⟨gx, 0, none⟩ hA2 (mcL a m) _ (HLM.out W (HWW.out W hS)) Tryz.underlying30 rfl MI.out ?_
        refine hK _ _ ?_ (hX.step HST.out (Below.refl _ _) rfl rfl)
        exact Knows.known _
      refine sureX_cons ?_ ?_
      · intro L ac W K hLi hed hJ hX hK
        have hS := hX.1
        have hn := needs_spec (l := [12, 13]) (by kernel_rfl) hed
        have hA24 := hJ.eval 13 (d := 24) (hn 13 (by simp)) rfl rfl rfl
        have hA23 := hJ.eval 12 (d := 23) (hn 12 (by simp)) rfl rfl rfl
        have hsz := Lib.hid hJ.size
        clear hLi hed hJ hn
        refine opStep_yes rfl (d := 23) rfl (by rw [hsz.out]; rfl) hA23 ?_
        unfold Oper.wp execOp
        have hN24 := evalN hA24
        go_simp
        refine (CB.out W hS).mono ?_
        rintro e W' ⟨⟨v, rfl, hv⟩, hb⟩
        have hX2 := hX.made (j := 14) (s := 25) HST.out hb rfl (by rw [hsz.out]; exact of_decide_eq_true rfl) hv
        dsimp only
        refine hK _ W' ?_ hX2
        exact Knows.free _
      refine sureX_cons ?_ ?_
      · intro L ac W K hLi hed hJ hX hK
        have hS := hX.1
        have hn := needs_spec (l := [12, 14]) (by kernel_rfl) hed
        have hF25 := hX.2 (14, 25) (by simp) (hn 14 (by simp))
        have hA23 := hJ.eval 12 (d := 23) (hn 12 (by simp)) rfl rfl rfl
        have hsz := Lib.hid hJ.size
        clear hLi hed hJ hn
        refine opStep_yes rfl (d := 23) rfl (by rw [hsz.out]; rfl) hA23 ?_
        obtain ⟨G25, k25, H25, j25, hA25, K25, L25⟩ := hF25
        unfold Oper.wp execOp
        have hN25 := evalN hA25
        go_simp
        refine (CLZ.out W _ _ _ _ K25 L25).mono ?_
        rintro e W' ⟨rfl, hb⟩
        have hX2 := hX.step (i := 15) (d := some 26) (v := .int .i64 ((m.frames.length : Int) + (m.blocks.length : Int))) HST.out hb rfl rfl
        dsimp only
        refine hK _ W' ?_ hX2
        exact Knows.known _
      refine sureX_cons ?_ ?_
      · intro L ac W K hLi hed hJ hX hK
        have hS := hX.1
        have hn := needs_spec (l := [12]) (by kernel_rfl) hed
        have hA2 : ac.eval (.tmp 2) = .pointer (some ⟨gx, 0, none⟩) := hJ.eval_old 2 (by kernel_rfl)
        have hA23 := hJ.eval 12 (d := 23) (hn 12 (by simp)) rfl rfl rfl
        have hsz := Lib.hid hJ.size
        clear hLi hed hJ hn
        refine opStep_yes rfl (d := 23) rfl (by rw [hsz.out]; rfl) hA23 ?_
        unfold Oper.wp execOp
        have hN2 := evalN hA2
        go_simp
        refine hK _ _ ?_ (hX.step HST.out (Below.refl _ _) rfl rfl)
        exact Knows.known _
      refine sureX_cons ?_ ?_
      · intro L ac W K hLi hed hJ hX hK
        have hS := hX.1
        have hn := needs_spec (l := [12, 16]) (by kernel_rfl) hed
        have hA27 := hJ.eval 16 (d := 27) (hn 16 (by simp)) rfl rfl rfl
        have hA23 := hJ.eval 12 (d := 23) (hn 12 (by simp)) rfl rfl rfl
        have hsz := Lib.hid hJ.size
        clear hLi hed hJ hn
        refine opStep_yes rfl (d := 23) rfl (by rw [hsz.out]; rfl) hA23 ?_
        have cc : W.cell? ⟨gx, 4, none⟩ = some (.slice a.F m.frames.length a.cF) := (HC.out W (HWW.out W hS)).cell 4
        unfold Oper.wp execOp
        have hN27 := evalN hA27
        go_simp
        refine hK _ _ ?_ (hX.step HST.out (Below.refl _ _) rfl rfl)
        exact Knows.known _
      refine sureX_cons ?_ ?_
      · intro L ac W K hLi hed hJ hX hK
        have hS := hX.1
        have hn := needs_spec (l := [12, 17]) (by kernel_rfl) hed
        have hA28 := hJ.eval 17 (d := 28) (hn 17 (by simp)) rfl rfl rfl
        have hA23 := hJ.eval 12 (d := 23) (hn 12 (by simp)) rfl rfl rfl
        have hsz := Lib.hid hJ.size
        clear hLi hed hJ hn
        refine opStep_yes rfl (d := 23) rfl (by rw [hsz.out]; rfl) hA23 ?_
        unfold Oper.wp execOp
        have hN28 := evalN hA28
        go_simp
        refine hK _ _ ?_ (hX.step HST.out (Below.refl _ _) rfl rfl)
        exact Knows.known _
      refine sureX_cons ?_ ?_
      · intro L ac W K hLi hed hJ hX hK
        have hS := hX.1
        have hn := needs_spec (l := [12]) (by kernel_rfl) hed
        have hA2 : ac.eval (.tmp 2) = .pointer (some ⟨gx, 0, none⟩) := hJ.eval_old 2 (by kernel_rfl)
        have hA23 := hJ.eval 12 (d := 23) (hn 12 (by simp)) rfl rfl rfl
        have hsz := Lib.hid hJ.size
        clear hLi hed hJ hn
        refine opStep_yes rfl (d := 23) rfl (by rw [hsz.out]; rfl) hA23 ?_
        unfold Oper.wp execOp
        have hN2 := evalN hA2
        go_simp
        refine hK _ _ ?_ (hX.step HST.out (Below.refl _ _) rfl rfl)
        exact Knows.known _
      refine sureX_cons ?_ ?_
      · intro L ac W K hLi hed hJ hX hK
        have hS := hX.1
        have hn := needs_spec (l := [12, 19]) (by kernel_rfl) hed
        have hA30 := hJ.eval 19 (d := 30) (hn 19 (by simp)) rfl rfl rfl
        have hA23 := hJ.eval 12 (d := 23) (hn 12 (by simp)) rfl rfl rfl
        have hsz := Lib.hid hJ.size
        clear hLi hed hJ hn
        refine opStep_yes rfl (d := 23) rfl (by rw [hsz.out]; rfl) hA23 ?_
        unfold Oper.wp execOp
        have hN30 := evalN hA30
        go_simp
        refine hK _ _ ?_ (hX.step HST.out (Below.refl _ _) rfl rfl)
        exact Knows.known _
      refine sureX_cons ?_ ?_
      · intro L ac W K hLi hed hJ hX hK
        have hS := hX.1
        have hn := needs_spec (l := [12, 20]) (by kernel_rfl) hed
        have hA31 := hJ.eval 20 (d := 31) (hn 20 (by simp)) rfl rfl rfl
        have hA23 := hJ.eval 12 (d := 23) (hn 12 (by simp)) rfl rfl rfl
        have hsz := Lib.hid hJ.size
        clear hLi hed hJ hn
        refine opStep_yes rfl (d := 23) rfl (by rw [hsz.out]; rfl) hA23 ?_
        have cc : W.cell? ⟨gx, 13, none⟩ = some (.slice a.L m.blocks.length a.cL) := (HC.out W (HWW.out W hS)).cell 13
        unfold Oper.wp execOp
        have hN31 := evalN hA31
        go_simp
        refine hK _ _ ?_ (hX.step HST.out (Below.refl _ _) rfl rfl)
        exact Knows.known _
      refine sureX_cons ?_ ?_
      · intro L ac W K hLi hed hJ hX hK
        have hS := hX.1
        have hn := needs_spec (l := [12, 21]) (by kernel_rfl) hed
        have hA32 := hJ.eval 21 (d := 32) (hn 21 (by simp)) rfl rfl rfl
        have hA23 := hJ.eval 12 (d := 23) (hn 12 (by simp)) rfl rfl rfl
        have hsz := Lib.hid hJ.size
        clear hLi hed hJ hn
        refine opStep_yes rfl (d := 23) rfl (by rw [hsz.out]; rfl) hA23 ?_
        unfold Oper.wp execOp
        have hN32 := evalN hA32
        go_simp
        refine hK _ _ ?_ (hX.step HST.out (Below.refl _ _) rfl rfl)
        exact Knows.known _
      refine sureX_cons ?_ ?_
      · intro L ac W K hLi hed hJ hX hK
        have hS := hX.1
        have hn := needs_spec (l := [12, 18, 22]) (by kernel_rfl) hed
        have hA29 := hJ.eval 18 (d := 29) (hn 18 (by simp)) rfl rfl rfl
        have hA33 := hJ.eval 22 (d := 33) (hn 22 (by simp)) rfl rfl rfl
        have hA23 := hJ.eval 12 (d := 23) (hn 12 (by simp)) rfl rfl rfl
        have hsz := Lib.hid hJ.size
        clear hLi hed hJ hn
        refine opStep_yes rfl (d := 23) rfl (by rw [hsz.out]; rfl) hA23 ?_
        unfold Oper.wp execOp
        have hN29 := evalN hA29
        have hN33 := evalN hA33
        go_simp
        refine hK _ _ ?_ (hX.step HST.out (Below.refl _ _) rfl rfl)
        exact Knows.known _
      refine sureX_cons ?_ ?_
      · intro L ac W K hLi hed hJ hX hK
        have hS := hX.1
        have hn := needs_spec (l := [12, 15, 23]) (by kernel_rfl) hed
        have hA26 := hJ.eval 15 (d := 26) (hn 15 (by simp)) rfl rfl rfl
        have hA34 := hJ.eval 23 (d := 34) (hn 23 (by simp)) rfl rfl rfl
        have hA23 := hJ.eval 12 (d := 23) (hn 12 (by simp)) rfl rfl rfl
        have hsz := Lib.hid hJ.size
        clear hLi hed hJ hn
        refine opStep_yes rfl (d := 23) rfl (by rw [hsz.out]; rfl) hA23 ?_
        unfold Oper.wp execOp
        have hN26 := evalN hA26
        have hN34 := evalN hA34
        go_simp
        refine hK _ _ ?_ (hX.step HST.out (Below.refl _ _) rfl rfl)
        exact Knows.known _
      refine sureX_cons ?_ ?_
      · intro L ac W K hLi hed hJ hX hK
        have hS := hX.1
        have hn := needs_spec (l := [12, 24]) (by kernel_rfl) hed
        have hA23 := hJ.eval 12 (d := 23) (hn 12 (by simp)) rfl rfl rfl
        have hA35 := hJ.eval 24 (d := 35) (hn 24 (by simp)) rfl rfl rfl
        have hsz := Lib.hid hJ.size
        clear hLi hed hJ hn
        refine opStep_of rfl ?_
        unfold Oper.wp execOp
        have hN23 := evalN hA23
        have hN35 := evalN hA35
        go_simp
        refine hK _ _ ?_ (hX.step HST.out (Below.refl _ _) rfl rfl)
        exact Knows.known _
      refine sureX_nil ?_
      intro L ac W hL hX ha
      have hS := hX.1
      have hF12 := hX.2 (1, 12) (by simp) (hL 1 (by omega))
      have hF14 := hX.2 (3, 14) (by simp) (hL 3 (by omega))
      have hF25 := hX.2 (14, 25) (by simp) (hL 14 (by omega))
      rw [ha]
      simp only [mendAll, Option.getD_some, Option.getD_none, Option.map_some, putAll, Act.put, List.setIfInBounds_toArray, List.set_cons_zero, List.set_cons_succ]
      change ((fun (_ : Nat) (v : Value) (W : World) => ShR m.clock m.frames.length m.blocks.length rr W v)) 1 (ac.tmps.getD 12 undef) W at hF12
      generalize ac.tmps.getD 12 undef = us12 at *
      change ((fun (_ : Nat) (v : Value) (W : World) => ShR m.clock m.frames.length m.blocks.length rr W v)) 3 (ac.tmps.getD 14 undef) W at hF14
      generalize ac.tmps.getD 14 undef = us14 at *
      change ((fun (_ : Nat) (v : Value) (W : World) => ShR m.clock m.frames.length m.blocks.length rr W v)) 14 (ac.tmps.getD 25 undef) W at hF25
      generalize ac.tmps.getD 25 undef = us25 at *
      clear ha hX hL
      have HV := Lib.hid (HWW.out W hS)
      clear hF12 hF14 hF25 hS
      go_wp2_with fail
      go_ret
      exact ⟨rfl, by rw [HGX.out]; exact HW.out.trans (HV.out.mono (by omega))⟩
end Go.Proofs.YtmmfcjkabpffeaaGreatDoor
