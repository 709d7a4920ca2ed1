/-
  Walk: hibernacleref32.Large. (Printed by gen_apa.py.)
-/
import Derived.Test.YtmmfcjkabpffeaaGreatDoorGreatZ
import Derived.Test.YtmmfcjkabpffeaaGreatDoorRestF
import Derived.Test.YtmmfcjkabpffeaaGreatDoorRestJ
import Derived.Test.YtmmfcjkabpffeaaGreatDoorMcA
namespace Go.Proofs.YtmmfcjkabpffeaaGreatDoor
open Go.RowKit

/-- a machine that is gone through -/
structure LargeOk (m : Mc) : Prop where
  procs : m.procs.length ≤ 8
  pend : m.pend.length ≤ 60
  dirty : m.dirty.length ≤ 32
  pipes : m.pipes.length ≤ 8
  inp : m.inp.length ≤ 300
  init : m.init.length ≤ 300
  small : Small32 m.frames m.blocks []
theorem LargeOk.ok {m : Mc} (h : LargeOk m) (hm : McOk' m) : McOk m := by
  obtain ⟨h1, h2, _⟩ := h.small
  have := h.procs; have := h.pend; have := h.dirty
  exact hm.small (by omega) (by omega) (by omega) (by omega) (by omega)
theorem rest_len {m : Mc} (hm : McOk m) (h : RestOk m) : (restB m).length ≤ 2147483648 := by
  have h1 := rest_size hm h
  have := rowB_le (restL m) (by omega)
  unfold restB; omega
set_option maxRecDepth 100000 in
set_option maxHeartbeats 2000000 in
theorem large_any (w : World) (a : MA) (m : Mc) (hA : MAt w w.heap.size a m) :
    Calls Tryz.prog 7 #[.agg (mcL a m).toArray] w fun e w' => (e = .returned (.int .i64 1) ∨ (e = .returned (.int .i64 0) ∧ LargeOk m)) ∧ Below w.heap.size w w' := by
  have hs0 := Whole.made w 30 (mcL a m).toArray
  have hb : Below w.heap.size w (w.alloc (.cells (mcL a m).toArray 30)) := (Below.refl _ _).alloc (Nat.le_refl _) _
  go_enter Tryz.func7, Tryz.ntmps7
  go_upto_region 1 with (fail)
  change Code.wp _ _ _ _ (w.alloc (.cells (mcL a m).toArray 30))
  generalize (w.alloc (.cells (mcL a m).toArray 30)) = w1 at *
  generalize hgx : w.heap.size = gx at *
  have HGX := Lib.hid hgx
  have HS0 := Lib.hid hs0
  have HW := Lib.hid hb
  have hgl : gx < w1.heap.size := hs0.lt
  clear hgx hb hs0
  have HA := Lib.hid (hA.below HW.out)
  have m4 : w1.cell? ⟨gx, 4, none⟩ = some (.slice a.F m.frames.length a.cF) := HS0.out.cell 4
  have m5 : w1.cell? ⟨gx, 5, none⟩ = some (.slice a.P m.procs.length a.cP) := HS0.out.cell 5
  have m7 : w1.cell? ⟨gx, 7, none⟩ = some (S m.init) := HS0.out.cell 7
  have m8 : w1.cell? ⟨gx, 8, none⟩ = some (.slice a.Q m.pipes.length a.cQ) := HS0.out.cell 8
  have m10 : w1.cell? ⟨gx, 10, none⟩ = some (S m.inp) := HS0.out.cell 10
  have m13 : w1.cell? ⟨gx, 13, none⟩ = some (.slice a.L m.blocks.length a.cL) := HS0.out.cell 13
  have m14 : w1.cell? ⟨gx, 14, none⟩ = some (.slice a.N m.pend.length a.cN) := HS0.out.cell 14
  have m16 : w1.cell? ⟨gx, 16, none⟩ = some (.slice a.D m.dirty.length a.cD) := HS0.out.cell 16
  have CG := Lib.hid (great32_any w1 a.F a.L a.cF a.cL m.frames m.blocks [] ((HA.out.wide (by omega)).F) ((HA.out.wide (by omega)).L))
  clear hA
  go_wp2_with fail
  all_goals first
    | (go_ret; exact ⟨.inl rfl, by rw [HGX.out]; exact HW.out⟩)
    | (refine CG.out.mono ?_
       rintro e w2 ⟨he, hb2⟩
       have HB2 := Lib.hid hb2
       clear hb2 CG
       rcases he with rfl | ⟨rfl, hs⟩
       · go_wp2_with fail
         go_ret
         exact ⟨.inl rfl, by rw [HGX.out]; exact HW.out.trans (HB2.out.mono (by omega))⟩
       · have HSM := Lib.hid hs
         clear hs
         go_wp2_with fail
         go_ret
         refine ⟨.inr ⟨rfl, ⟨?_, ?_, ?_, ?_, ?_, ?_, HSM.out⟩⟩, by rw [HGX.out]; exact HW.out.trans (HB2.out.mono (by omega))⟩ <;> omega)
end Go.Proofs.YtmmfcjkabpffeaaGreatDoor
