/-
  Walks: the kernel's method write, on the console's output and on a pipe. (Printed by gen_spr.py.)
-/
import Derived.Test.YtdhfblfnejmeiaaGreatDoorSpQ
namespace Go.Proofs.YtdhfblfnejmeiaaGreatDoor
open Go.RowKit

set_option maxRecDepth 100000 in
set_option maxHeartbeats 4000000 in
theorem write_pipe {w : World} {B kb : Nat} {a : MA} {m : Mc} {p : Pr} {pb : Nat} {z : List Value} {a0 : MA} {m0 : Mc} {k ad n : Nat} {tl : List UInt8} (h : KS w B kb a m p pb z a0 m0 (k : Int) (ad : Int) (n : Int) tl) (hk : k < 8) (hn : 0 < n) (hn2 : n ≤ 128) (f : Fl) (hf : p.fds[k]? = some f) (hfk : f.kind = 5) (fr pl : Nat) (ff : List UInt8) (hs : Spot p.space m.frames ad n fr pl ff) (q : Nb) (hfn : f.n = q.1) (hq : m.pipes = [q]) (h64 : q.2.length + n ≤ 64) (he : endsF p.fds q.1 4 ≠ 0) :
    Calls Tryz.prog 35 #[.pointer (some ⟨kb, 0, none⟩)] w fun e w' => e = .returned (.tuple #[]) ∧ KE w' B kb { m with pipes := [(q.1, q.2 ++ ((ff.drop pl).take n))], procs := [p.reg 1 ((ff.drop pl).take n).length] } (p.reg 1 ((ff.drop pl).take n).length) (k : Int) (ad : Int) (n : Int) tl ∧ Below B w w' := by
  have HBK : Hid (B ≤ w.heap.size) := Lib.hid (by have := h.hB; have := h.kl; omega)
  have CH := Lib.hid (handed_any h hk hn2 f hf (by rw [hfk]; decide))
  have HK := Lib.hid h
  have HF := Lib.hid hf
  have HFK := Lib.hid hfk
  have HS := Lib.hid hs
  have HDL : Hid (((ff.drop pl).take n).length = n) := Lib.hid (by rw [List.length_take, List.length_drop, hs.fl]; have := hs.room; omega)
  have HFN := Lib.hid hfn
  have HQ := Lib.hid hq
  have HE := Lib.hid he
  have HQ64 := Lib.hid h64
  clear h hf hfk hs hfn hq he h64
  go_enter Tryz.func35, Tryz.ntmps35
  go_wp2_with fail
  refine CH.out.mono ?_
  rintro e w1 ⟨rfl, hb⟩
  have HK1 := Lib.hid ((HK.out.below hb).below ((Below.refl w1.heap.size w1).alloc (Nat.le_refl _) (.cells #[Value.int .i64 2, Value.int .i64 3, Value.int .i64 5] 3)))
  have HB1 := Lib.hid (hb.alloc hb.size (.cells #[Value.int .i64 2, Value.int .i64 3, Value.int .i64 5] 3))
  have CKK := Lib.hid (kind_any (w1.alloc (.cells #[Value.int .i64 2, Value.int .i64 3, Value.int .i64 5] 3)) (some ⟨w1.heap.size, 0, none⟩) 3 [2, 3, 5] (lies_three w1 2 3 5) (by simp) f (by rw [HFK.out]; simp) (.pointer (some ⟨kb, 0, none⟩)) pb (68 + k * 3) (by rw [← Nat.add_zero (68 + k * 3)]; exact HK1.out.fdc HF.out (j := 0) (by decide) rfl))
  clear hb CH HK
  go_wp2_with fail
  refine CKK.out.mono ?_
  rintro e w2 ⟨rfl, hb⟩
  have HK2 := Lib.hid (HK1.out.below hb)
  have HB2 := Lib.hid (HB1.out.trans (hb.mono HB1.out.size))
  have c36 : w2.cell? ⟨kb, 36, none⟩ = some (.int .u32 (ad : Int)) := HK2.out.ker.cell 36
  clear hb CKK HK1 HB1
  have CM := Lib.hid (memory_any HK2.out ad n fr pl ff HS.out hn)
  obtain ⟨dd, HDD⟩ : ∃ z, Hid ((ff.drop pl).take n = z) := ⟨_, Lib.hid rfl⟩
  rw [HDD.out] at CM HDL
  go_wp2_with fail
  refine CM.out.mono ?_
  rintro e w4 ⟨rfl, hb⟩
  have HK3 := Lib.hid (HK2.out.below hb)
  have HB3 := Lib.hid (HB2.out.trans (hb.mono HB2.out.size))
  clear hb CM HK2 HB2 c36
  have d0 : ((n : Int) == 0) = false := beq_eq_false_iff_ne.2 (by omega)
  have d0' : (n == 0) = false := beq_eq_false_iff_ne.2 (by omega)
  have c0 : w4.cell? ⟨pb, 68 + k * 3, none⟩ = some (.int .i64 5) := by rw [← Nat.add_zero (68 + k * 3), ← HFK.out]; exact HK3.out.fdc HF.out (j := 0) (by decide) rfl
  have c1 : w4.cell? ⟨pb, 68 + k * 3 + 1, none⟩ = some (.int .i64 q.1) := by rw [← HFN.out]; exact HK3.out.fdc HF.out (j := 1) (by decide) rfl
  have CE := Lib.hid (writePipe_any HK3.out q HQ.out dd (by rw [HDL.out]; exact HQ64.out) (by have := HQ64.out; omega) HE.out)
  go_wp2_with fail
  refine CE.out.mono ?_
  rintro e w5 ⟨rfl, hk, hb⟩
  have HK5 := Lib.hid hk
  have HB5 := Lib.hid ((HB3.out.mono HBK.out).trans hb)
  clear hk hb CE c0 c1
  go_wp2_with fail
  refine bodyPost_end (v := .tuple #[]) (by simp [results, Tryz.results35, go_sem]) rfl ?_
  exact ⟨rfl, by rw [HDD.out]; exact HK5.out, HB5.out⟩
theorem OM.told {w : World} {ok : Nat → Prop} {a : MA} {m : Mc} {p : Pr} {pb : Nat} {z : List Value} (h : OM w ok a m p pb z) (t : Int) : OM w ok a { m with told := t } p pb z := ⟨h.aP, h.pr, h.okp, h.F, h.Q, h.L, h.N, h.D, h.cap, h.one, h.qo⟩
set_option maxRecDepth 100000 in
set_option maxHeartbeats 4000000 in
theorem write_out {w : World} {B kb : Nat} {a : MA} {m : Mc} {p : Pr} {pb : Nat} {z : List Value} {a0 : MA} {m0 : Mc} {k ad n : Nat} {tl : List UInt8} (h : KS w B kb a m p pb z a0 m0 (k : Int) (ad : Int) (n : Int) tl) (hk : k < 8) (hn : 0 < n) (hn2 : n ≤ 128) (f : Fl) (hf : p.fds[k]? = some f) (hfk : f.kind = 2) (fr pl : Nat) (ff : List UInt8) (hs : Spot p.space m.frames ad n fr pl ff) (ht : m.told + (n : Int) ≤ 18446744073709551615) (hpl : m.pipes.length ≤ 1000) :
    Calls Tryz.prog 35 #[.pointer (some ⟨kb, 0, none⟩)] w fun e w' => e = .returned (.tuple #[]) ∧ KE w' B kb { m with told := m.told + n, procs := [p.reg 1 n] } (p.reg 1 n) (k : Int) (ad : Int) (n : Int) ((ff.drop pl).take n) ∧ Below B w w' := by
  have HBK : Hid (B ≤ w.heap.size) := Lib.hid (by have := h.hB; have := h.kl; omega)
  have CH := Lib.hid (handed_any h hk hn2 f hf (by rw [hfk]; decide))
  have HK := Lib.hid h
  have HF := Lib.hid hf
  have HFK := Lib.hid hfk
  have HS := Lib.hid hs
  have HDL : Hid (((ff.drop pl).take n).length = n) := Lib.hid (by rw [List.length_take, List.length_drop, hs.fl]; have := hs.room; omega)
  have HT := Lib.hid ht
  have HTI := Lib.hid h.good.mc.told
  clear h hf hfk hs ht
  go_enter Tryz.func35, Tryz.ntmps35
  go_wp2_with fail
  refine CH.out.mono ?_
  rintro e w1 ⟨rfl, hb⟩
  have HK1 := Lib.hid ((HK.out.below hb).below ((Below.refl w1.heap.size w1).alloc (Nat.le_refl _) (.cells #[Value.int .i64 2, Value.int .i64 3, Value.int .i64 5] 3)))
  have HB1 := Lib.hid (hb.alloc hb.size (.cells #[Value.int .i64 2, Value.int .i64 3, Value.int .i64 5] 3))
  have CKK := Lib.hid (kind_any (w1.alloc (.cells #[Value.int .i64 2, Value.int .i64 3, Value.int .i64 5] 3)) (some ⟨w1.heap.size, 0, none⟩) 3 [2, 3, 5] (lies_three w1 2 3 5) (by simp) f (by rw [HFK.out]; simp) (.pointer (some ⟨kb, 0, none⟩)) pb (68 + k * 3) (by rw [← Nat.add_zero (68 + k * 3)]; exact HK1.out.fdc HF.out (j := 0) (by decide) rfl))
  clear hb CH HK
  go_wp2_with fail
  refine CKK.out.mono ?_
  rintro e w2 ⟨rfl, hb⟩
  have HK2 := Lib.hid (HK1.out.below hb)
  have HB2 := Lib.hid (HB1.out.trans (hb.mono HB1.out.size))
  have c36 : w2.cell? ⟨kb, 36, none⟩ = some (.int .u32 (ad : Int)) := HK2.out.ker.cell 36
  clear hb CKK HK1 HB1
  have CM := Lib.hid (memory_any HK2.out ad n fr pl ff HS.out hn)
  obtain ⟨dd, HDD⟩ : ∃ z, Hid ((ff.drop pl).take n = z) := ⟨_, Lib.hid rfl⟩
  rw [HDD.out] at CM HDL
  go_wp2_with fail
  refine CM.out.mono ?_
  rintro e w4 ⟨rfl, hb⟩
  have HK3 := Lib.hid (HK2.out.below hb)
  have HB3 := Lib.hid (HB2.out.trans (hb.mono HB2.out.size))
  clear hb CM HK2 HB2 c36
  have d0 : ((n : Int) == 0) = false := beq_eq_false_iff_ne.2 (by omega)
  have d0' : (n == 0) = false := beq_eq_false_iff_ne.2 (by omega)
  have c0 : w4.cell? ⟨pb, 68 + k * 3, none⟩ = some (.int .i64 2) := by rw [← Nat.add_zero (68 + k * 3), ← HFK.out]; exact HK3.out.fdc HF.out (j := 0) (by decide) rfl
  have c38 : w4.cell? ⟨kb, 38, none⟩ = some (S tl) := HK3.out.ker.cell 38
  have y38 := HK3.out.ker.free 38
  have HK4 : Hid (KS (w4.setCell ⟨kb, 38, none⟩ (S dd)) B kb a m p pb z a0 m0 (k : Int) (ad : Int) (n : Int) dd) := Lib.hid (HK3.out.turn (grown_setK w4 kb 38 _) HK3.out.om (HK3.out.ker.set 38 (S dd)) HK3.out.good)
  have HB4 := Lib.hid ((HB3.out.mono HBK.out).setCell (p := ⟨kb, 38, none⟩) HK3.out.hB (S dd))
  go_upto_region 8 with (fail)
  clear c0 c38 y38 HK3 HB3
  generalize w4.setCell ⟨kb, 38, none⟩ (S dd) = w5 at *
  have c12 : w5.cell? ⟨kb, 12, none⟩ = some (.int .u64 m.told) := HK4.out.ker.cell 12
  have y12 := HK4.out.ker.free 12
  have hti := HTI.out
  unfold inU64 at hti
  have htt := HT.out
  have u1 : IntKind.u64.wrap (n : Int) = (n : Int) := by rw [IntKind.wrap_u64]; omega
  have u2 : IntKind.u64.wrap (m.told + (n : Int)) = m.told + (n : Int) := by rw [IntKind.wrap_u64]; omega
  have HG : Hid (Good { m with told := m.told + n } p) := Lib.hid (HK4.out.good.other m.frames m.pipes m.newPipe (m.told + n) HK4.out.good.mc.sizes.1 HK4.out.good.mc.pipes hpl HK4.out.good.mc.newPipe (by unfold inU64; omega))
  have HK6 : Hid (KS (w5.setCell ⟨kb, 12, none⟩ (.int .u64 (m.told + n))) B kb a { m with told := m.told + n } p pb z a0 m0 (k : Int) (ad : Int) (n : Int) dd) := Lib.hid (HK4.out.turn (grown_setK w5 kb 12 _) (HK4.out.om.told _) (HK4.out.ker.set 12 (.int .u64 (m.told + n))) HG.out)
  have HB6 := Lib.hid (HB4.out.setCell (p := ⟨kb, 12, none⟩) HK4.out.hB (.int .u64 (m.told + n)))
  go_upto_region 9 with (fail)
  clear c12 y12 u1 u2 HK4 HB4 htt hti
  generalize w5.setCell ⟨kb, 12, none⟩ (.int .u64 (m.told + n)) = w6 at *
  have CE := Lib.hid (answer_any HK6.out (n : Int) (by unfold inU32; omega))
  have u3 : IntKind.u32.wrap (n : Int) = (n : Int) := by rw [IntKind.wrap_u32]; omega
  go_wp2_with fail
  refine CE.out.mono ?_
  rintro e w7 ⟨rfl, hk, hb⟩
  have HK7 := Lib.hid hk
  have HB7 := Lib.hid (HB6.out.trans hb)
  clear hk hb CE
  go_wp2_with fail
  refine bodyPost_end (v := .tuple #[]) (by simp [results, Tryz.results35, go_sem]) rfl ?_
  exact ⟨rfl, by rw [HDD.out]; exact ⟨_, _, _, _, _, HK7.out⟩, HB7.out⟩
end Go.Proofs.YtdhfblfnejmeiaaGreatDoor
