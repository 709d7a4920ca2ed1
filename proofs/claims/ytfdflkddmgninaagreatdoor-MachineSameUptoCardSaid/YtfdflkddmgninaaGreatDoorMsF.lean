/-
  Walk: hibernacleref30.Feed; a machine in a box. (Printed by gen_msf.py.)
-/
import Derived.Test.YtfdflkddmgninaaGreatDoorCopQ
namespace Go.Proofs.YtfdflkddmgninaaGreatDoor
open Go.RowKit
attribute [local go_sem] concat_S

theorem Tryz.infoMc : (Tryz.prog.info? 30).map (fun i => (i.zero, i.size)) = some (some (.agg (mcL zeroMA zeroMc).toArray), 17) := by kernel_rfl
/-- a machine in a box, its lists in the world -/
def Bx (W : World) (p : Nat) (a : MA) (m : Mc) : Prop := Whole W p 30 (mcL a m).toArray ∧ MAt W W.heap.size a m
theorem Bx.below {W W' : World} {p : Nat} {a : MA} {m : Mc} (h : Bx W p a m) (hb : Below W.heap.size W W') : Bx W' p a m := ⟨h.1.below hb h.1.lt, (h.2.below hb).wide hb.size⟩
theorem Bx.made {w : World} {a : MA} {m : Mc} (h : MAt w w.heap.size a m) : Bx (w.alloc (.cells (mcL a m).toArray 30)) w.heap.size a m :=
  ⟨Whole.made w _ _, (h.below ((Below.refl w.heap.size w).alloc (Nat.le_refl _) _)).wide (by simp)⟩
theorem Bx.read {W : World} {p : Nat} {a : MA} {m : Mc} (h : Bx W p a m) : ∀ j v, (mcL a m)[j]? = some v → W.cell? ((⟨p, 0, none⟩ : Addr).add j) = some v := h.1.reads
theorem mc_info (a : MA) (m : Mc) : (Tryz.prog.info? 30).map (·.size) = some (mcL a m).length := by rw [mcL_length]; exact Tryz.sizeMc
set_option maxRecDepth 100000 in
set_option maxHeartbeats 4000000 in
theorem rfeed_any (w : World) (a : MA) (m : Mc) (s : List UInt8) (fin : Bool) (hm : McOk m) (hil : m.inp.length ≤ 1099511627776) (hA : MAt w w.heap.size a m) :
    Calls Tryz.prog 9 #[.agg (mcL a m).toArray, S s, .bool fin] w (FeedPost w (feedR m s fin)) := by
  have hs0 := (Whole.made w 30 (mcL a m).toArray).block (.cells #[.int .u64 0, .int .i64 0, .int .i64 0, .int .i64 0, .slice none 0 0, .slice none 0 0, .int .i64 0, S [], .slice none 0 0, .int .i64 0, S [], .bool false, .int .u64 0, .slice none 0 0, .slice none 0 0, .int .i64 0, .slice none 0 0] 30)
  have hs1 := Whole.made (w.alloc (.cells (mcL a m).toArray 30)) 30 #[.int .u64 0, .int .i64 0, .int .i64 0, .int .i64 0, .slice none 0 0, .slice none 0 0, .int .i64 0, S [], .slice none 0 0, .int .i64 0, S [], .bool false, .int .u64 0, .slice none 0 0, .slice none 0 0, .int .i64 0, .slice none 0 0]
  rw [show (w.alloc (.cells (mcL a m).toArray 30)).heap.size = w.heap.size + 1 by simp] at hs1
  have hb : Below w.heap.size w ((w.alloc (.cells (mcL a m).toArray 30)).alloc (.cells #[.int .u64 0, .int .i64 0, .int .i64 0, .int .i64 0, .slice none 0 0, .slice none 0 0, .int .i64 0, S [], .slice none 0 0, .int .i64 0, S [], .bool false, .int .u64 0, .slice none 0 0, .slice none 0 0, .int .i64 0, .slice none 0 0] 30)) := ((Below.refl _ _).alloc (by first | exact Nat.le_refl _ | simp | (simp; omega)) _).alloc (by first | exact Nat.le_refl _ | simp | (simp; omega)) _
  go_enter Tryz.func9, Tryz.ntmps9
  go_upto_region 1 with (fail)
  change Code.wp _ _ _ _ ((w.alloc (.cells (mcL a m).toArray 30)).alloc (.cells #[.int .u64 0, .int .i64 0, .int .i64 0, .int .i64 0, .slice none 0 0, .slice none 0 0, .int .i64 0, S [], .slice none 0 0, .int .i64 0, S [], .bool false, .int .u64 0, .slice none 0 0, .slice none 0 0, .int .i64 0, .slice none 0 0] 30))
  generalize ((w.alloc (.cells (mcL a m).toArray 30)).alloc (.cells #[.int .u64 0, .int .i64 0, .int .i64 0, .int .i64 0, .slice none 0 0, .slice none 0 0, .int .i64 0, S [], .slice none 0 0, .int .i64 0, S [], .bool false, .int .u64 0, .slice none 0 0, .slice none 0 0, .int .i64 0, .slice none 0 0] 30)) = w1 at *
  generalize hgx : w.heap.size = gx at *
  have HGX := Lib.hid hgx
  have HS0 := Lib.hid hs0
  have HS1 := Lib.hid hs1
  have HW := Lib.hid hb
  have hgl : gx + 1 < w1.heap.size := hs1.lt
  clear hgx hb hs0 hs1
  have HZ1 : Hid (Whole w1 (gx + 1) 30 zeroML.toArray) := Lib.hid HS1.out
  clear HS1
  have HA : Hid (MAt w1 gx a m) := Lib.hid (hA.below HW.out)
  have HM := Lib.hid hm
  clear hA
  have c11 : w1.cell? ⟨gx, 11, none⟩ = some (.bool m.fin) := HS0.out.cell 11
  have c10 : w1.cell? ⟨gx, 10, none⟩ = some (S m.inp) := HS0.out.cell 10
  have hgl0 : gx < w1.heap.size := by omega
  cases hfin : m.fin with
  | true =>
    rw [hfin] at c11
    have HQ : Hid (feedR m s fin = .error 14) := Lib.hid (by unfold feedR; rw [if_pos hfin])
    clear hfin c10
    go_wp2_with (refine wpList_store_all rfl 30 (.tmp 6) (.tmp 10) rfl rfl (gx + 1) rfl zeroML rfl Tryz.sizeMc zeroML 30 HZ1.out rfl (mcL_one _ _) ?_; intro wz hw hk)
    refine bodyPost_ret (v := .tuple #[.agg zeroML.toArray, .int .i64 14]) (results_cell_tmp rfl _ _ (gx + 1) 30 _ _ (0, 0) _ rfl rfl hw.out Tryz.underlying30 rfl Tryz.sizeMc) rfl ?_
    unfold FeedPost
    rw [HQ.out]
    exact ⟨rfl, by rw [HGX.out]; exact HW.out.grown hk.out (by omega) (fun q e => by injection e with e; omega)⟩
  | false =>
    rw [hfin] at c11
    have HFN := Lib.hid hfin
    clear hfin
    by_cases h1 : 4096 < s.length
    · have HQ : Hid (feedR m s fin = .error 6) := Lib.hid (by unfold feedR; rw [if_neg (by rw [HFN.out]; decide), if_pos (.inr (by omega))])
      have d1 : decide ((4096 : Int) < (s.length : Int)) = true := decide_eq_true (by omega)
      have d1' : decide (4096 < s.length) = true := decide_eq_true h1
      go_wp2_with (refine wpList_store_all rfl 30 (.tmp 6) (.tmp 23) rfl rfl (gx + 1) rfl zeroML rfl Tryz.sizeMc zeroML 30 HZ1.out rfl (mcL_one _ _) ?_; intro wz hw hk)
      refine bodyPost_ret (v := .tuple #[.agg zeroML.toArray, .int .i64 6]) (results_cell_tmp rfl _ _ (gx + 1) 30 _ _ (0, 0) _ rfl rfl hw.out Tryz.underlying30 rfl Tryz.sizeMc) rfl ?_
      unfold FeedPost
      rw [HQ.out]
      exact ⟨rfl, by rw [HGX.out]; exact HW.out.grown hk.out (by omega) (fun q e => by injection e with e; omega)⟩
    · have d1 : decide ((4096 : Int) < (s.length : Int)) = false := decide_eq_false (by omega)
      have d1' : decide (4096 < s.length) = false := decide_eq_false h1
      have mw : IntKind.i64.wrap (4096 - (s.length : Int)) = 4096 - (s.length : Int) := by rw [IntKind.wrap_i64]; omega
      by_cases h2 : 4096 - (s.length : Int) < m.inp.length
      · have HQ : Hid (feedR m s fin = .error 6) := Lib.hid (by
          unfold feedR
          rw [if_neg (by rw [HFN.out]; decide)]
          by_cases h3 : 4096 < m.inp.length
          · rw [if_pos (.inl h3)]
          · rw [if_pos (.inr (by omega))])
        have d2 : decide (4096 - (s.length : Int) < (m.inp.length : Int)) = true := decide_eq_true h2
        go_wp2_with (refine wpList_store_all rfl 30 (.tmp 6) (.tmp 23) rfl rfl (gx + 1) rfl zeroML rfl Tryz.sizeMc zeroML 30 HZ1.out rfl (mcL_one _ _) ?_; intro wz hw hk)
        refine bodyPost_ret (v := .tuple #[.agg zeroML.toArray, .int .i64 6]) (results_cell_tmp rfl _ _ (gx + 1) 30 _ _ (0, 0) _ rfl rfl hw.out Tryz.underlying30 rfl Tryz.sizeMc) rfl ?_
        unfold FeedPost
        rw [HQ.out]
        exact ⟨rfl, by rw [HGX.out]; exact HW.out.grown hk.out (by omega) (fun q e => by injection e with e; omega)⟩
      · have HQ : Hid (feedR m s fin = .ok ({ m with inp := m.inp ++ s, fin := fin } : Mc)) := Lib.hid (by unfold feedR; rw [if_neg (by rw [HFN.out]; decide), if_neg (by omega)])
        have d2 : decide (4096 - (s.length : Int) < (m.inp.length : Int)) = false := decide_eq_false h2
        go_upto_region 5 with (fail)
        clear d1 d1' d2 mw c11
        have y10 : w1.frozen? ⟨gx, 10, none⟩ = false := HS0.out.free 10
        have HB4 : Hid (Whole (w1.setCell ⟨gx, 10, none⟩ (S (m.inp ++ s))) gx 30 (mcL a ({ m with inp := m.inp ++ s } : Mc)).toArray) := Lib.hid (HS0.out.set 10 (S (m.inp ++ s)))
        have c11 : (w1.setCell ⟨gx, 10, none⟩ (S (m.inp ++ s))).cell? ⟨gx, 11, none⟩ = some (.bool m.fin) := HB4.out.cell 11
        have y11 : (w1.setCell ⟨gx, 10, none⟩ (S (m.inp ++ s))).frozen? ⟨gx, 11, none⟩ = false := HB4.out.free 11
        have HB5 : Hid (Whole ((w1.setCell ⟨gx, 10, none⟩ (S (m.inp ++ s))).setCell ⟨gx, 11, none⟩ (.bool fin)) gx 30 (mcL a ({ m with inp := m.inp ++ s, fin := fin } : Mc)).toArray) := Lib.hid (HB4.out.set 11 (.bool fin))
        have HZ5 := Lib.hid ((HZ1.out.far (p := ⟨gx, 10, none⟩) (by show gx + 1 ≠ gx; omega) (S (m.inp ++ s))).far (p := ⟨gx, 11, none⟩) (by show gx + 1 ≠ gx; omega) (.bool fin))
        have HV5 := Lib.hid ((HW.out.setCell (p := ⟨gx, 10, none⟩) (Nat.le_refl _) (S (m.inp ++ s))).setCell (p := ⟨gx, 11, none⟩) (Nat.le_refl _) (.bool fin))
        have HBG := Lib.hid ((Below.refl gx w1).setCell (p := ⟨gx, 10, none⟩) (Nat.le_refl _) (S (m.inp ++ s)) |>.setCell (p := ⟨gx, 11, none⟩) (Nat.le_refl _) (.bool fin))
        have hz5 : w1.heap.size ≤ ((w1.setCell ⟨gx, 10, none⟩ (S (m.inp ++ s))).setCell ⟨gx, 11, none⟩ (.bool fin)).heap.size := by simp [World.setCell]
        go_upto_region 7 with (fail)
        clear c10 y10 c11 y11 HB4 HZ1 HS0
        generalize ((w1.setCell ⟨gx, 10, none⟩ (S (m.inp ++ s))).setCell ⟨gx, 11, none⟩ (.bool fin)) = w5 at *
        have HM' : Hid (McOk ({ m with inp := m.inp ++ s, fin := fin } : Mc)) := Lib.hid ⟨hm.clock, hm.quantum, hm.cur, hm.left, hm.next, hm.newPipe, hm.told, hm.dleft, hm.procs, hm.pipes, hm.pend, hm.dirty, hm.sizes⟩
        have HA6 : Hid (MAt w5 gx a ({ m with inp := m.inp ++ s, fin := fin } : Mc)) := Lib.hid (by have h := HA.out.below HBG.out; exact ⟨h.F, h.P, h.Q, h.L, h.N, h.D, h.caps⟩)
        clear HBG HA
        generalize ({ m with inp := m.inp ++ s, fin := fin } : Mc) = m' at *
        have LD5 := Lib.hid HB5.out.reads
        have MI5 : Hid ((Tryz.prog.info? 30).map (·.size) = some (mcL a m').length) := Lib.hid (by rw [mcL_length]; exact Tryz.sizeMc)
        go_wp2_with (first
          | (refine wpList_load_at rfl 30 (.tmp 3) rfl ⟨gx, 0, none⟩ rfl (mcL a m') _ LD5.out Tryz.underlying30 rfl MI5.out ?_)
          | (refine wpList_store_all rfl 30 (.tmp 6) (.tmp 31) rfl rfl (gx + 1) rfl (mcL a m') rfl MI5.out zeroML 30 HZ5.out rfl (mcL_one _ _) ?_; intro wz hw hk))
        refine bodyPost_ret (v := .tuple #[.agg (mcL a m').toArray, .int .i64 0]) (results_cell_tmp rfl _ _ (gx + 1) 30 _ _ (0, 0) _ rfl rfl hw.out Tryz.underlying30 rfl (by rw [List.size_toArray]; exact MI5.out)) rfl ?_
        unfold FeedPost
        rw [HQ.out]
        have HK : Below gx w5 wz := (Below.refl _ _).grown hk.out (by omega) (fun q e => by injection e with e; omega)
        exact ⟨⟨a, rfl, (HA6.out.below HK).wide (by have := hk.out.size; omega), HM'.out⟩, by rw [HGX.out]; exact HV5.out.grown hk.out (by omega) (fun q e => by injection e with e; omega)⟩
end Go.Proofs.YtfdflkddmgninaaGreatDoor
