/-
  Walks: the chapter's example of the calls. (Printed by gen_spz.py.)
-/
import Derived.Test.YtdhfblfnejmeiaaGreatDoorSpV
import Derived.Test.YtdhfblfnejmeiaaGreatDoorSpY
namespace Go.Proofs.YtdhfblfnejmeiaaGreatDoor
open Go.RowKit

theorem ls_small {bl : List (List UInt8)} (hbl : bl.length = 57) : LS (smallMc bl) smallP fds0 [] := by
  refine ⟨⟨rfl, rfl, rfl, ok_small, ⟨?_, ?_, ?_, ?_, ?_, ?_, ?_, ?_, fun q hq => ?_, fun q hq => ?_, fun q hq => ?_, fun q hq => ?_, ?_⟩⟩, rfl, rfl, rfl, rfl, rfl, rfl, fun f hf => ?_, rfl, rfl⟩
  · show inU64 0; unfold inU64; decide
  · show inJ8 3; unfold inJ8; decide
  · show inJ8 1; unfold inJ8; decide
  · show inJ8 3; unfold inJ8; decide
  · show inJ8 2; unfold inJ8; decide
  · show inJ8 1; unfold inJ8; decide
  · show inU64 0; unfold inU64; decide
  · show inJ8 (-1); unfold inJ8; decide
  · obtain rfl := List.mem_singleton.1 (show q ∈ [smallP] from hq); exact ok_small
  · cases hq
  · cases hq
  · cases hq
  · exact ⟨by show 4 ≤ _; decide, by show 1 ≤ _; decide, by show 0 ≤ _; decide, by show bl.length ≤ _; omega, by show 0 ≤ _; decide, by show 0 ≤ _; decide⟩
  · have : f = zeroF := by simpa [smallMc, bareMc] using hf
    rw [this]; rfl
theorem build_a3 (x y z : Int) (w : World) : (Instr.build 51 #[(0, .int .u32 x), (1, .int .u32 y), (2, .int .u32 z)]).run Tryz.prog w = .ok (.agg #[.int .u32 x, .int .u32 y, .int .u32 z]) w := by kernel_rfl
set_option maxRecDepth 100000 in
set_option maxHeartbeats 4000000 in
theorem alive_any (w : World) :
    Calls Tryz.prog 4 #[] w fun e w' => e = .returned (.bool true) ∧ Below w.heap.size w w' := by
  go_enter Tryz.func4, Tryz.ntmps4
  have HRw := Lib.hid (Below.refl w.heap.size w)
  have CS := Lib.hid (small_any w)
  go_wp2_with fail
  refine CS.out.mono ?_
  rintro e u1 ⟨⟨gF1, X1, cx1, gp1, bl1, rfl, hbl, hA⟩, hb⟩
  have HBu1 := Lib.hid (HRw.out.trans (hb.mono HRw.out.size))
  have hL := ls_small hbl
  have HL := Lib.hid (hL.arg (x0 := 1) (x1 := 0) (x2 := 2) (by unfold inU32; decide) (by unfold inU32; decide) (by unfold inU32; decide))
  have CC := Lib.hid (call_any u1 (smallMA gF1 X1 cx1 gp1) (smallMc bl1) smallP hL.good rfl hA 1 0 2 (by unfold inU32; decide) (by unfold inU32; decide) (by unfold inU32; decide))
  clear hb hbl hA hL CS
  go_wp2_with (refine wpList_build rfl 51 #[(0, .const (.int .u32 1)), (1, .const (.int .u32 0)), (2, .const (.int .u32 2))] rfl #[(0, .int .u32 1), (1, .int .u32 0), (2, .int .u32 2)] (by simp only [List.map_toArray, List.map_cons, List.map_nil]; rfl) _ (build_a3 _ _ _ _) ?_)
  refine CC.out.mono ?_
  rintro e u2 ⟨⟨a1, rfl, hA, _⟩, hb⟩
  have HBu2 := Lib.hid (HBu1.out.trans (hb.mono HBu1.out.size))
  have hr := argP_reg ok_small 1 0 2
  have CD := Lib.hid ((show Calls Tryz.prog 5 #[.agg (mcL a1 { smallMc bl1 with procs := [argP smallP 1 0 2 3] }).toArray, .int .u32 2] u2 (DoR u2 { smallMc bl1 with told := 2, procs := [((argP smallP 1 0 2 3).reg 1 2)] } ((argP smallP 1 0 2 3).reg 1 2) [0, 0]) from do_wout (f := zeroF) HL.out hA rfl rfl hr.1 hr.2.1 hr.2.2))
  clear hb hA hr CC HBu1
  go_wp2_with fail
  refine CD.out.mono ?_
  rintro e u3 ⟨⟨b1, rfl, hA, _, ⟨pb1, hpb⟩, _⟩, _, hb⟩
  have HBu3 := Lib.hid (HBu2.out.trans (hb.mono HBu2.out.size))
  have HP1 : Hid (∀ W, Below u3.heap.size u3 W → ∀ k v, (prCells ((argP smallP 1 0 2 3).reg 1 2))[k]? = some v → W.cell? ⟨pb1, k, none⟩ = some v) := Lib.hid fun W hS k v hv => (hA.below hS).pcell rfl hpb hv
  have IMC : Hid ((Tryz.prog.info? 31).map (fun i => (i.zero, i.size)) = some (some (.agg zeroML.toArray), (mcL b1 { smallMc bl1 with told := 2, procs := [((argP smallP 1 0 2 3).reg 1 2)] }).length)) := Lib.hid Tryz.infoMc
  have HM1 := Lib.hid (Whole.made u3 31 (mcL b1 { smallMc bl1 with told := 2, procs := [((argP smallP 1 0 2 3).reg 1 2)] }).toArray)
  have HBA1 : Hid (Below u3.heap.size u3 (u3.alloc (.cells (mcL b1 { smallMc bl1 with told := 2, procs := [((argP smallP 1 0 2 3).reg 1 2)] }).toArray 31))) := Lib.hid ((Below.refl _ _).alloc (Nat.le_refl _) _)
  have HP51 : Hid ((mcL b1 { smallMc bl1 with told := 2, procs := [((argP smallP 1 0 2 3).reg 1 2)] })[5]? = some (.slice (some ⟨pb1, 0, none⟩) 1 b1.cP)) := Lib.hid (by rw [← hpb]; rfl)
  clear hA hpb hb CD HL HBu2
  go_upto_region 2 with (refine wpList_fresh rfl rfl 31 1 (.tmp 10) rfl rfl rfl rfl (mcL b1 { smallMc bl1 with told := 2, procs := [((argP smallP 1 0 2 3).reg 1 2)] }) rfl rfl _ IMC.out rfl (mcL_one _ _) ?_)
  change Code.wp _ _ _ _ (u3.alloc (.cells (mcL b1 { smallMc bl1 with told := 2, procs := [((argP smallP 1 0 2 3).reg 1 2)] }).toArray 31))
  have HBu : Hid (Below w.heap.size w (u3.alloc (.cells (mcL b1 { smallMc bl1 with told := 2, procs := [((argP smallP 1 0 2 3).reg 1 2)] }).toArray 31))) := Lib.hid (HBu3.out.trans (HBA1.out.mono HBu3.out.size))
  have HP1 : Hid (∀ W, Below (u3.heap.size + 1) (u3.alloc (.cells (mcL b1 { smallMc bl1 with told := 2, procs := [((argP smallP 1 0 2 3).reg 1 2)] }).toArray 31)) W → ∀ k v, (prCells ((argP smallP 1 0 2 3).reg 1 2))[k]? = some v → W.cell? ⟨pb1, k, none⟩ = some v) := Lib.hid fun W hS => HP1.out W (HBA1.out.trans (hS.mono (by omega)))
  have HZ1 : Hid ((u3.alloc (.cells (mcL b1 { smallMc bl1 with told := 2, procs := [((argP smallP 1 0 2 3).reg 1 2)] }).toArray 31)).heap.size = u3.heap.size + 1) := Lib.hid (by simp)
  clear IMC HBA1 HBu3
  generalize u3.alloc (.cells (mcL b1 { smallMc bl1 with told := 2, procs := [((argP smallP 1 0 2 3).reg 1 2)] }).toArray 31) = u at *
  generalize u3.heap.size = g1 at *
  have HRu := Lib.hid (Below.refl u.heap.size u)
  have CS := Lib.hid (small_any u)
  go_wp2_with fail
  refine CS.out.mono ?_
  rintro e v1 ⟨⟨gF2, X2, cx2, gp2, bl2, rfl, hbl, hA⟩, hb⟩
  have HBv1 := Lib.hid (HRu.out.trans (hb.mono HRu.out.size))
  have hL := ls_small hbl
  have HL := Lib.hid (hL.arg (x0 := 0) (x1 := 0) (x2 := 2) (by unfold inU32; decide) (by unfold inU32; decide) (by unfold inU32; decide))
  have CC := Lib.hid (call_any v1 (smallMA gF2 X2 cx2 gp2) (smallMc bl2) smallP hL.good rfl hA 0 0 2 (by unfold inU32; decide) (by unfold inU32; decide) (by unfold inU32; decide))
  clear hb hbl hA hL CS
  go_wp2_with (refine wpList_build rfl 51 #[(0, .const (.int .u32 0)), (1, .const (.int .u32 0)), (2, .const (.int .u32 2))] rfl #[(0, .int .u32 0), (1, .int .u32 0), (2, .int .u32 2)] (by simp only [List.map_toArray, List.map_cons, List.map_nil]; rfl) _ (build_a3 _ _ _ _) ?_)
  refine CC.out.mono ?_
  rintro e v2 ⟨⟨a2, rfl, hA, _⟩, hb⟩
  have HBv2 := Lib.hid (HBv1.out.trans (hb.mono HBv1.out.size))
  have hr := argP_reg ok_small 0 0 2
  have CD := Lib.hid (do_rin HL.out hA hr.1 hr.2.1 hr.2.2)
  clear hb hA hr CC HBv1
  go_wp2_with fail
  refine CD.out.mono ?_
  rintro e v3 ⟨⟨b2, rfl, hA, _, ⟨pb2, hpb⟩, _⟩, _, hb⟩
  have HBv3 := Lib.hid (HBv2.out.trans (hb.mono HBv2.out.size))
  have HP2 : Hid (∀ W, Below v3.heap.size v3 W → ∀ k v, (prCells { argP smallP 0 0 2 3 with state := 2, why := 1, n := 0, pc := (argP smallP 0 0 2 3).pc - 4 })[k]? = some v → W.cell? ⟨pb2, k, none⟩ = some v) := Lib.hid fun W hS k v hv => (hA.below hS).pcell rfl hpb hv
  have IMC : Hid ((Tryz.prog.info? 31).map (fun i => (i.zero, i.size)) = some (some (.agg zeroML.toArray), (mcL b2 { smallMc bl2 with procs := [{ argP smallP 0 0 2 3 with state := 2, why := 1, n := 0, pc := (argP smallP 0 0 2 3).pc - 4 }] }).length)) := Lib.hid Tryz.infoMc
  have HM2 := Lib.hid (Whole.made v3 31 (mcL b2 { smallMc bl2 with procs := [{ argP smallP 0 0 2 3 with state := 2, why := 1, n := 0, pc := (argP smallP 0 0 2 3).pc - 4 }] }).toArray)
  have HBA2 : Hid (Below v3.heap.size v3 (v3.alloc (.cells (mcL b2 { smallMc bl2 with procs := [{ argP smallP 0 0 2 3 with state := 2, why := 1, n := 0, pc := (argP smallP 0 0 2 3).pc - 4 }] }).toArray 31))) := Lib.hid ((Below.refl _ _).alloc (Nat.le_refl _) _)
  have HP52 : Hid ((mcL b2 { smallMc bl2 with procs := [{ argP smallP 0 0 2 3 with state := 2, why := 1, n := 0, pc := (argP smallP 0 0 2 3).pc - 4 }] })[5]? = some (.slice (some ⟨pb2, 0, none⟩) 1 b2.cP)) := Lib.hid (by rw [← hpb]; rfl)
  clear hA hpb hb CD HL HBv2
  go_upto_region 3 with (refine wpList_fresh rfl rfl 31 3 (.tmp 17) rfl rfl rfl rfl (mcL b2 { smallMc bl2 with procs := [{ argP smallP 0 0 2 3 with state := 2, why := 1, n := 0, pc := (argP smallP 0 0 2 3).pc - 4 }] }) rfl rfl _ IMC.out rfl (mcL_one _ _) ?_)
  change Code.wp _ _ _ _ (v3.alloc (.cells (mcL b2 { smallMc bl2 with procs := [{ argP smallP 0 0 2 3 with state := 2, why := 1, n := 0, pc := (argP smallP 0 0 2 3).pc - 4 }] }).toArray 31))
  have HBv : Hid (Below u.heap.size u (v3.alloc (.cells (mcL b2 { smallMc bl2 with procs := [{ argP smallP 0 0 2 3 with state := 2, why := 1, n := 0, pc := (argP smallP 0 0 2 3).pc - 4 }] }).toArray 31))) := Lib.hid (HBv3.out.trans (HBA2.out.mono HBv3.out.size))
  have HP2 : Hid (∀ W, Below (v3.heap.size + 1) (v3.alloc (.cells (mcL b2 { smallMc bl2 with procs := [{ argP smallP 0 0 2 3 with state := 2, why := 1, n := 0, pc := (argP smallP 0 0 2 3).pc - 4 }] }).toArray 31)) W → ∀ k v, (prCells { argP smallP 0 0 2 3 with state := 2, why := 1, n := 0, pc := (argP smallP 0 0 2 3).pc - 4 })[k]? = some v → W.cell? ⟨pb2, k, none⟩ = some v) := Lib.hid fun W hS => HP2.out W (HBA2.out.trans (hS.mono (by omega)))
  have HZ2 : Hid ((v3.alloc (.cells (mcL b2 { smallMc bl2 with procs := [{ argP smallP 0 0 2 3 with state := 2, why := 1, n := 0, pc := (argP smallP 0 0 2 3).pc - 4 }] }).toArray 31)).heap.size = v3.heap.size + 1) := Lib.hid (by simp)
  clear IMC HBA2 HBv3
  generalize v3.alloc (.cells (mcL b2 { smallMc bl2 with procs := [{ argP smallP 0 0 2 3 with state := 2, why := 1, n := 0, pc := (argP smallP 0 0 2 3).pc - 4 }] }).toArray 31) = v at *
  generalize v3.heap.size = g2 at *
  have HM3 := HM1.out.below HBv.out HM1.out.lt
  have c15 : v.cell? ⟨g1, 5, none⟩ = some (.slice (some ⟨pb1, 0, none⟩) 1 b1.cP) := (HM3.cell 5).trans (by rw [List.getElem?_toArray]; exact HP51.out)
  have c12 : v.cell? ⟨g1, 12, none⟩ = some (.int .u64 2) := HM3.cell 12
  have c25 : v.cell? ⟨g2, 5, none⟩ = some (.slice (some ⟨pb2, 0, none⟩) 1 b2.cP) := (HM2.out.cell 5).trans (by rw [List.getElem?_toArray]; exact HP52.out)
  have k14 : v.cell? ⟨pb1, 4, none⟩ = some (.int .u32 2) := HP1.out v (by rw [← HZ1.out]; exact HBv.out) 4 _ rfl
  have hvv : Below (g2 + 1) v v := Below.refl _ _
  have k22 : v.cell? ⟨pb2, 2, none⟩ = some (.int .i64 2) := HP2.out v hvv 2 _ rfl
  have k94 : v.cell? ⟨pb2, 94, none⟩ = some (.int .i64 1) := HP2.out v hvv 94 _ rfl
  have k19 : v.cell? ⟨pb2, 19, none⟩ = some (.int .u32 4) := HP2.out v hvv 19 _ rfl
  have HVV : Hid (Below w.heap.size w v) := Lib.hid (HBu.out.trans (HBv.out.mono HBu.out.size))
  clear HM3 hvv HP1 HP2 HM1 HM2 HP51 HP52 HZ1 HZ2 HBu HBv
  go_wp2_with fail
  refine bodyPost_ret (v := .bool true) (by simp [results, Tryz.results4, go_sem]) rfl ?_
  exact ⟨rfl, HVV.out⟩
end Go.Proofs.YtdhfblfnejmeiaaGreatDoor
