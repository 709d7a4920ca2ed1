/-
  Walks: hash.begin (without a key), (*hash.state).add, (*hash.state).end, hash.Sum.
-/
import Derived.Test.YtecamaceainfpaaDoorTake
import Derived.Test.YtecamaceainfpaaDoorLaws2
namespace Go.Proofs.YtecamaceainfpaaDoor
open Go.RowKit

theorem below_grown {B g : Nat} {a w w' : World} (h : Below B a w) (hf : w.grownBy w' (some g)) (hB : B ≤ w.heap.size) (hg : B ≤ g) : Below B a w' :=
  ⟨hf.os.trans h.os, hf.tape.trans h.tape, hf.output.trans h.output, Nat.le_trans h.size hf.size, fun i hi => (hf.block i (Nat.lt_of_lt_of_le hi hB) (by simp; omega)).trans (h.block i hi)⟩
def h0 : List UInt32 := IV.set 0 (ux (IV.getD 0 0) 16842784)
theorem h0_length : h0.length = 8 := rfl
set_option maxRecDepth 100000 in
set_option maxHeartbeats 1000000 in
theorem begin_any (w : World) (hT : Tabs w) :
    Calls Tryd.prog 66 #[.bool false] w fun e w' => e = .returned (.agg (stCells h0 (List.replicate 64 0) 0 0).toArray) ∧ Below w.heap.size w w' := by
  have hl := hT.lt0
  obtain ⟨⟨te, fe, he⟩, _⟩ := hT
  have he1 : ∀ o : Obj, (w.alloc o).heap[0]? = some (.cells #[.int .u32 1779033703, .int .u32 3144134277, .int .u32 1013904242, .int .u32 2773480762, .int .u32 1359893119, .int .u32 2600822924, .int .u32 528734635, .int .u32 1541459225] te fe) := fun o => (Below.heap_alloc w o _ hl).trans he
  have e1 : bits .xor .u32 1779033703 16842784 = 1795745351 := by decide
  clear he
  have z0 : Whole ((w.alloc (.cells Tryd.zeroCells99 99)).alloc (.cells Tryd.zeroCells99 99)) (w.heap.size + 1) 99 Tryd.zeroCells99.toList.toArray := by
    have := Whole.made (w.alloc (.cells Tryd.zeroCells99 99)) 99 Tryd.zeroCells99
    simpa using this
  have z1 : Whole ((w.alloc (.cells Tryd.zeroCells99 99)).alloc (.cells Tryd.zeroCells99 99)) w.heap.size 99 Tryd.zeroCells99.toList.toArray := by
    have := (Whole.made w 99 Tryd.zeroCells99).block (.cells Tryd.zeroCells99 99)
    simpa using this
  have b0 : Below w.heap.size w ((w.alloc (.cells Tryd.zeroCells99 99)).alloc (.cells Tryd.zeroCells99 99)) := ((Below.refl _ _).alloc (Nat.le_refl _) _).alloc (by simp) _
  have Z0 := Lib.hid z0
  have Z1 := Lib.hid z1
  have B0 := Lib.hid b0
  clear z0 z1 b0
  go_enter Tryd.func66, Tryd.ntmps66
  go_wp2_with (first
    | (refine wpList_load_row rfl 96 _ rfl 0 rfl te _ fe _ (he1 _) Tryd.underlying96 rfl (by kernel_rfl) ?_)
    | (refine wpList_store_at rfl 99 (.tmp 3) (.tmp 5) rfl rfl (w.heap.size + 1) 0 rfl (stCells IV (List.replicate 64 0) 0 0) (by kernel_rfl) (by kernel_rfl) _ 99 Z0.out (by decide) (by decide) ?_
       intro w2 H2 F2
       have c0 : w2.cell? ⟨w.heap.size + 1, 0, none⟩ = some (.int .u32 1779033703) := by rw [H2.out.cell]; rfl
       have f0 := H2.out.free 0
       have H3 : Hid (Whole (w2.setCell ⟨w.heap.size + 1, 0, none⟩ (.int .u32 1795745351)) (w.heap.size + 1) 99 (stCells h0 (List.replicate 64 0) 0 0).toArray) := Lib.hid (H2.out.set 0 (.int .u32 1795745351))
       have Z3 : Hid (Whole (w2.setCell ⟨w.heap.size + 1, 0, none⟩ (.int .u32 1795745351)) w.heap.size 99 Tryd.zeroCells99.toList.toArray) := Lib.hid ((Z1.out.other F2.out (by simp)).far (by simp) _)
       have B3 : Hid (Below w.heap.size w (w2.setCell ⟨w.heap.size + 1, 0, none⟩ (.int .u32 1795745351))) := Lib.hid ((below_grown B0.out F2.out (by simp; omega) (by omega)).setCell (by simp) _))
    | (refine wpList_load_row rfl 99 (.tmp 3) rfl (w.heap.size + 1) rfl 99 (stCells h0 (List.replicate 64 0) 0 0).toArray (0, 0) _ H3.out Tryd.underlying99 rfl (by kernel_rfl) ?_)
    | (refine wpList_store_at rfl 99 (.tmp 2) (.tmp 19) rfl rfl w.heap.size 0 rfl (stCells h0 (List.replicate 64 0) 0 0) rfl (by kernel_rfl) _ 99 Z3.out (by decide) (by decide) ?_
       intro w4 H4 F4
       have B4 : Hid (Below w.heap.size w w4) := Lib.hid (below_grown B3.out F4.out B3.out.size (Nat.le_refl _))))
  have h4 := H4.out
  rw [show (Tryd.zeroCells99.toList.take 0 ++ (stCells h0 (List.replicate 64 0) 0 0 ++ Tryd.zeroCells99.toList.drop (0 + (stCells h0 (List.replicate 64 0) 0 0).length))) = stCells h0 (List.replicate 64 0) 0 0 from by kernel_rfl] at h4
  exact bodyPost_ret (v := .agg (stCells h0 (List.replicate 64 0) 0 0).toArray) (results_cell_row rfl _ _ w.heap.size 99 _ (0, 0) _ rfl h4 Tryd.underlying99 rfl (by kernel_rfl)) rfl ⟨rfl, B4.out⟩
end Go.Proofs.YtecamaceainfpaaDoor
