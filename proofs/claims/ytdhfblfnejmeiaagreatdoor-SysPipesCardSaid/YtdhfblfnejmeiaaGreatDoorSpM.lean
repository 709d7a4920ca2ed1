/-
  Walks: the kernel's methods readPipe, writePipe, close. (Printed by gen_spm.py.)
-/
import Derived.Test.YtdhfblfnejmeiaaGreatDoorSpI
import Derived.Test.YtdhfblfnejmeiaaGreatDoorSpK
namespace Go.Proofs.YtdhfblfnejmeiaaGreatDoor
open Go.RowKit

/-- the kernel's machine is another one, stored whole -/
theorem KS.mach {w w' : World} {B kb : Nat} {a : MA} {m : Mc} {p : Pr} {pb : Nat} {z : List Value} {a0 : MA} {m0 : Mc} {x0 x1 x2 : Int} {tl : List UInt8} (h : KS w B kb a m p pb z a0 m0 x0 x1 x2 tl) (hk : w.grownBy w' (some kb)) {a' : MA} {m' : Mc} {p' : Pr} {pb' : Nat} {z' : List Value} (ho : OM w (fun g => B ≤ g ∧ g ≠ kb) a' m' p' pb' z')
    (hw : Whole w' kb 60 ((kcL a m a0 m0 x0 x1 x2 tl).take 0 ++ (mcL a' m' ++ (kcL a m a0 m0 x0 x1 x2 tl).drop (0 + (mcL a' m').length))).toArray) (hg : Good m' p') : KS w' B kb a' m' p' pb' z' a0 m0 x0 x1 x2 tl :=
  h.turn hk ho hw hg
theorem Good.pipe {m : Mc} {p : Pr} (h : Good m p) {i : Int} (hi : inJ8 i) (d : List UInt8) : Good { m with pipes := [(i, d)] } p :=
  ⟨h.one, h.pid, h.cur, h.ok, ⟨h.mc.clock, h.mc.quantum, h.mc.cur, h.mc.left, h.mc.next, h.mc.newPipe, h.mc.told, h.mc.dleft, h.mc.procs, fun q hq => by rw [List.mem_singleton.1 hq]; exact hi, h.mc.pend, h.mc.dirty, ⟨h.mc.sizes.1, h.mc.sizes.2.1, by simp, h.mc.sizes.2.2.2⟩⟩⟩
theorem kcL_length (a : MA) (m : Mc) (a0 : MA) (m0 : Mc) (x0 x1 x2 : Int) (tl : List UInt8) : (kcL a m a0 m0 x0 x1 x2 tl).length = 39 := rfl
set_option maxRecDepth 100000 in
set_option maxHeartbeats 4000000 in
theorem readPipe_any {w : World} {B kb : Nat} {a : MA} {m : Mc} {p : Pr} {pb : Nat} {z : List Value} {a0 : MA} {m0 : Mc} {x0 x1 x2 : Int} {tl : List UInt8} (h : KS w B kb a m p pb z a0 m0 x0 x1 x2 tl) (q : Nb) (hq : m.pipes = [q]) (ad n fr pl : Nat) (f : List UInt8) (hne : q.2 ≠ []) (hn : q.2.length ≤ n) (hn2 : n ≤ 128) (hs : Spot p.space m.frames ad q.2.length fr pl f) :
    Calls Tryz.prog 74 #[.pointer (some ⟨kb, 0, none⟩), .int .u32 (ad : Int), .int .i64 (n : Int), .int .i64 q.1] w fun e w' => e = .returned (.tuple #[]) ∧ KE w' B kb { m with pipes := [(q.1, [])], frames := m.frames.set fr (putF f pl q.2), procs := [p.reg 1 q.2.length] } (p.reg 1 q.2.length) x0 x1 x2 tl ∧ Below B w w' := by
  have HBK : Hid (B ≤ w.heap.size) := Lib.hid (by have := h.hB; have := h.kl; omega)
  have MI : Hid ((Tryz.prog.info? 31).map (·.size) = some (mcL a m).length) := Lib.hid Tryz.sizeMc
  have HK := Lib.hid h
  have HQ1 := Lib.hid hq
  have HNE := Lib.hid hne
  have HS := Lib.hid hs
  have HQI : Hid (inJ8 q.1) := Lib.hid (h.good.mc.pipes q (by rw [hq]; simp))
  clear h hq hs hne
  go_enter Tryz.func74, Tryz.ntmps74
  have CX := Lib.hid (spipe_any w a m q HQ1.out HK.out.om.mat)
  go_wp2_with (refine wpList_load_at rfl 31 (.tmp 17) rfl ⟨kb, 0, none⟩ rfl (mcL a m) _ HK.out.load Tryz.underlying31 rfl MI.out ?_)
  refine CX.out.mono ?_
  rintro e w2 ⟨rfl, hb⟩
  have HK2 := Lib.hid ((HK.out.below hb).below ((Below.refl w2.heap.size w2).alloc (Nat.le_refl _) (.cells (nbCells1 q).toArray 73)))
  have HB2 := Lib.hid ((hb.mono HBK.out).alloc (Nat.le_trans HBK.out hb.size) (.cells (nbCells1 q).toArray 73))
  have HQ2 := Lib.hid (Whole.made w2 73 (nbCells1 q).toArray)
  clear hb CX
  go_upto_region 1 with (refine wpList_fresh rfl rfl 73 8 (.tmp 21) rfl rfl rfl rfl (nbCells1 q) rfl rfl _ Tryz.infoPi rfl (nb_one q) ?_)
  change Code.wp _ _ _ _ (w2.alloc (.cells (nbCells1 q).toArray 73))
  generalize w2.alloc (.cells (nbCells1 q).toArray 73) = w3 at *
  generalize w2.heap.size = gq at *
  have CX := Lib.hid (sends_any w3 a m p HK2.out.good HK2.out.om.mat q.1)
  go_wp2_with (refine wpList_load_at rfl 31 (.tmp 26) rfl ⟨kb, 0, none⟩ rfl (mcL a m) _ HK2.out.load Tryz.underlying31 rfl MI.out ?_)
  refine CX.out.mono ?_
  rintro e w4 ⟨rfl, hb⟩
  have HK4 := Lib.hid (HK2.out.below hb)
  have HQ4 := Lib.hid (HQ2.out.below hb HQ2.out.lt)
  have HB4 := Lib.hid (HB2.out.trans (hb.mono (Nat.le_trans HBK.out HB2.out.size)))
  have c1 : w4.cell? ⟨gq, 1, none⟩ = some (S q.2) := HQ4.out.cell 1
  clear hb CX HK2 HQ2 HB2
  have hie : q.2.isEmpty = false := by cases hq : q.2 with
    | nil => exact absurd hq HNE.out
    | cons _ _ => rfl
  go_upto_region 4 with (fail)
  have CX := Lib.hid (stake_any w4 a m p q HK4.out.good HQ1.out HK4.out.om.mat n hn hn2)
  have MI5 : Hid (∀ x, (Tryz.prog.info? 31).map (·.size) = some (mcL x { m with pipes := [(q.1, [])] }).length) := Lib.hid fun _ => Tryz.sizeMc
  go_wp2_with (refine wpList_load_at rfl 31 (.tmp 43) rfl ⟨kb, 0, none⟩ rfl (mcL a m) _ HK4.out.load Tryz.underlying31 rfl MI.out ?_)
  refine CX.out.mono ?_
  rintro e w5 ⟨⟨a5, pb5, z5, rfl, ho⟩, hb⟩
  have HO5 := Lib.hid ((ho.mono (ok' := fun g => B ≤ g ∧ g ≠ kb) (fun g hg => by have := HK4.out.kl; have := HK4.out.hB; omega)).below ((Below.refl w5.heap.size w5).alloc (Nat.le_refl _) (.cells (mcL a5 { m with pipes := [(q.1, [])] }).toArray 31)))
  have HK5 := Lib.hid ((HK4.out.below hb).below ((Below.refl w5.heap.size w5).alloc (Nat.le_refl _) (.cells (mcL a5 { m with pipes := [(q.1, [])] }).toArray 31)))
  have HB5 := Lib.hid ((HB4.out.trans (hb.mono (Nat.le_trans HBK.out HB4.out.size))).alloc (Nat.le_trans (Nat.le_trans HBK.out HB4.out.size) hb.size) (.cells (mcL a5 { m with pipes := [(q.1, [])] }).toArray 31))
  have H12 := Lib.hid (Whole.made w5 31 (mcL a5 { m with pipes := [(q.1, [])] }).toArray)
  clear ho hb CX
  go_upto_region 5 with (refine wpList_fresh rfl rfl 31 12 (.tmp 48) rfl rfl rfl rfl (mcL a5 { m with pipes := [(q.1, [])] }) rfl rfl _ Tryz.infoMc rfl (mcL_one a5 _) ?_)
  change Code.wp _ _ _ _ (w5.alloc (.cells (mcL a5 { m with pipes := [(q.1, [])] }).toArray 31))
  generalize w5.alloc (.cells (mcL a5 { m with pipes := [(q.1, [])] }).toArray 31) = w6 at *
  generalize w5.heap.size = g12 at *
  have L12 := Lib.hid H12.out.reads
  have MI6 := Lib.hid (MI5.out a5)
  go_upto_region 6 with (first
    | (refine wpList_load_at rfl 31 (.tmp 12) rfl ⟨g12, 0, none⟩ rfl (mcL a5 { m with pipes := [(q.1, [])] }) _ L12.out Tryz.underlying31 rfl MI6.out ?_)
    | (refine wpList_store_at rfl 31 (.tmp 53) (.tmp 51) rfl rfl kb 0 rfl (mcL a5 { m with pipes := [(q.1, [])] }) rfl MI6.out (kcL a m a0 m0 x0 x1 x2 tl) 60 HK5.out.ker (by rw [mcL_length, kcL_length]; decide) (mcL_one a5 _) ?_; intro w7 hw hk))
  have HK7 := Lib.hid (HK5.out.mach hk.out HO5.out hw.out (HK4.out.good.pipe HQI.out []))
  have HB7 := Lib.hid (HB5.out.grown hk.out (Nat.le_trans HBK.out HB5.out.size) (fun q e => by injection e with e; have := HK5.out.hB; omega))
  clear hw hk HO5 HK5 HB5 H12 L12 MI6 MI5
  have CL := Lib.hid (lay_any HK7.out ad fr pl f q.2 HS.out (by cases hq : q.2 with
    | nil => exact absurd hq HNE.out
    | cons _ _ => simp))
  clear hie
  go_wp2_with fail
  refine CL.out.mono ?_
  rintro e w8 ⟨rfl, ⟨a8, hk⟩, hb⟩
  have HK8 := Lib.hid hk
  have HB8 := Lib.hid (HB7.out.trans hb)
  clear hk hb CL
  go_wp2_with fail
  refine bodyPost_end (v := .tuple #[]) (by simp [results, Tryz.results74, go_sem]) rfl ?_
  exact ⟨rfl, ⟨_, _, _, _, _, HK8.out⟩, HB8.out⟩
set_option maxRecDepth 100000 in
set_option maxHeartbeats 4000000 in
theorem readPipe_end {w : World} {B kb : Nat} {a : MA} {m : Mc} {p : Pr} {pb : Nat} {z : List Value} {a0 : MA} {m0 : Mc} {x0 x1 x2 : Int} {tl : List UInt8} (h : KS w B kb a m p pb z a0 m0 x0 x1 x2 tl) (q : Nb) (hq : m.pipes = [q]) (ad n : Int) (hne : q.2 = []) (he : endsF p.fds q.1 5 = 0) :
    Calls Tryz.prog 74 #[.pointer (some ⟨kb, 0, none⟩), .int .u32 ad, .int .i64 n, .int .i64 q.1] w fun e w' => e = .returned (.tuple #[]) ∧ KE w' B kb { m with procs := [p.reg 1 0] } (p.reg 1 0) x0 x1 x2 tl ∧ Below B w w' := by
  have HBK : Hid (B ≤ w.heap.size) := Lib.hid (by have := h.hB; have := h.kl; omega)
  have MI : Hid ((Tryz.prog.info? 31).map (·.size) = some (mcL a m).length) := Lib.hid Tryz.sizeMc
  have HK := Lib.hid h
  have HQ1 := Lib.hid hq
  have h5 : ((endsF p.fds q.1 5 : Int) == 0) = true := by rw [he]; rfl
  have H5 := Lib.hid h5
  clear h hq he h5
  go_enter Tryz.func74, Tryz.ntmps74
  have CX := Lib.hid (spipe_any w a m q HQ1.out HK.out.om.mat)
  go_wp2_with (refine wpList_load_at rfl 31 (.tmp 17) rfl ⟨kb, 0, none⟩ rfl (mcL a m) _ HK.out.load Tryz.underlying31 rfl MI.out ?_)
  refine CX.out.mono ?_
  rintro e w2 ⟨rfl, hb⟩
  have HK2 := Lib.hid ((HK.out.below hb).below ((Below.refl w2.heap.size w2).alloc (Nat.le_refl _) (.cells (nbCells1 q).toArray 73)))
  have HB2 := Lib.hid ((hb.mono HBK.out).alloc (Nat.le_trans HBK.out hb.size) (.cells (nbCells1 q).toArray 73))
  have HQ2 := Lib.hid (Whole.made w2 73 (nbCells1 q).toArray)
  clear hb CX
  go_upto_region 1 with (refine wpList_fresh rfl rfl 73 8 (.tmp 21) rfl rfl rfl rfl (nbCells1 q) rfl rfl _ Tryz.infoPi rfl (nb_one q) ?_)
  change Code.wp _ _ _ _ (w2.alloc (.cells (nbCells1 q).toArray 73))
  generalize w2.alloc (.cells (nbCells1 q).toArray 73) = w3 at *
  generalize w2.heap.size = gq at *
  have CX := Lib.hid (sends_any w3 a m p HK2.out.good HK2.out.om.mat q.1)
  go_wp2_with (refine wpList_load_at rfl 31 (.tmp 26) rfl ⟨kb, 0, none⟩ rfl (mcL a m) _ HK2.out.load Tryz.underlying31 rfl MI.out ?_)
  refine CX.out.mono ?_
  rintro e w4 ⟨rfl, hb⟩
  have HK4 := Lib.hid (HK2.out.below hb)
  have HQ4 := Lib.hid (HQ2.out.below hb HQ2.out.lt)
  have HB4 := Lib.hid (HB2.out.trans (hb.mono (Nat.le_trans HBK.out HB2.out.size)))
  have c1 : w4.cell? ⟨gq, 1, none⟩ = some (S q.2) := HQ4.out.cell 1
  clear hb CX HK2 HQ2 HB2
  have hie : q.2.isEmpty = true := by rw [hne]; rfl
  have h5 := H5.out
  have CL := Lib.hid (answer_any HK4.out 0 (by unfold inU32; omega))
  clear hne HQ4
  go_wp2_with fail
  refine CL.out.mono ?_
  rintro e w8 ⟨rfl, hk, hb⟩
  have HK8 := Lib.hid hk
  have HB8 := Lib.hid (HB4.out.trans hb)
  clear hk hb CL
  go_wp2_with fail
  refine bodyPost_end (v := .tuple #[]) (by simp [results, Tryz.results74, go_sem]) rfl ?_
  exact ⟨rfl, ⟨_, _, _, _, _, HK8.out⟩, HB8.out⟩
set_option maxRecDepth 100000 in
set_option maxHeartbeats 4000000 in
theorem writePipe_any {w : World} {B kb : Nat} {a : MA} {m : Mc} {p : Pr} {pb : Nat} {z : List Value} {a0 : MA} {m0 : Mc} {x0 x1 x2 : Int} {tl : List UInt8} (h : KS w B kb a m p pb z a0 m0 x0 x1 x2 tl) (q : Nb) (hq : m.pipes = [q]) (d : List UInt8) (hd : q.2.length + d.length ≤ 64) (hq64 : q.2.length < 64) (he : endsF p.fds q.1 4 ≠ 0) :
    Calls Tryz.prog 79 #[.pointer (some ⟨kb, 0, none⟩), S d, .int .i64 q.1] w fun e w' => e = .returned (.tuple #[]) ∧ KE w' B kb { m with pipes := [(q.1, q.2 ++ d)], procs := [p.reg 1 d.length] } (p.reg 1 d.length) x0 x1 x2 tl ∧ Below B w w' := by
  have HBK : Hid (B ≤ w.heap.size) := Lib.hid (by have := h.hB; have := h.kl; omega)
  have MI : Hid ((Tryz.prog.info? 31).map (·.size) = some (mcL a m).length) := Lib.hid Tryz.sizeMc
  have HK := Lib.hid h
  have HQ1 := Lib.hid hq
  have HQI : Hid (inJ8 q.1) := Lib.hid (h.good.mc.pipes q (by rw [hq]; simp))
  have HN := Lib.hid (fun W v c => need_any W v c)
  have HE := Lib.hid he
  clear h hq he
  go_enter Tryz.func79, Tryz.ntmps79
  have CX := Lib.hid (sends_any w a m p HK.out.good HK.out.om.mat q.1)
  go_wp2_with (refine wpList_load_at rfl 31 (.tmp 15) rfl ⟨kb, 0, none⟩ rfl (mcL a m) _ HK.out.load Tryz.underlying31 rfl MI.out ?_)
  refine CX.out.mono ?_
  rintro e w2 ⟨rfl, hb⟩
  have HK2 := Lib.hid (HK.out.below hb)
  have HB2 := Lib.hid (hb.mono HBK.out)
  have d1 : decide ((0 : Int) < (endsF p.fds q.1 4 : Int)) = true := decide_eq_true (by have := HE.out; omega)
  have d2 : decide (0 < endsF p.fds q.1 4) = true := decide_eq_true (by have := HE.out; omega)
  clear hb CX
  go_wp2_with fail
  refine (HN.out _ _ _).mono ?_
  rintro e w3 ⟨rfl, rfl⟩
  have CX := Lib.hid (spipe_any w3 a m q HQ1.out HK2.out.om.mat)
  clear d1 d2
  go_wp2_with (refine wpList_load_at rfl 31 (.tmp 28) rfl ⟨kb, 0, none⟩ rfl (mcL a m) _ HK2.out.load Tryz.underlying31 rfl MI.out ?_)
  refine CX.out.mono ?_
  rintro e w4 ⟨rfl, hb⟩
  have HK4 := Lib.hid ((HK2.out.below hb).below ((Below.refl w4.heap.size w4).alloc (Nat.le_refl _) (.cells (nbCells1 q).toArray 73)))
  have HB4 := Lib.hid ((HB2.out.trans (hb.mono (Nat.le_trans HBK.out HB2.out.size))).alloc (Nat.le_trans (Nat.le_trans HBK.out HB2.out.size) hb.size) (.cells (nbCells1 q).toArray 73))
  have HQ4 := Lib.hid (Whole.made w4 73 (nbCells1 q).toArray)
  clear hb CX HK2 HB2
  go_upto_region 3 with (refine wpList_fresh rfl rfl 73 8 (.tmp 32) rfl rfl rfl rfl (nbCells1 q) rfl rfl _ Tryz.infoPi rfl (nb_one q) ?_)
  change Code.wp _ _ _ _ (w4.alloc (.cells (nbCells1 q).toArray 73))
  generalize w4.alloc (.cells (nbCells1 q).toArray 73) = wa at *
  generalize w4.heap.size = gq at *
  have c1 : wa.cell? ⟨gq, 1, none⟩ = some (S q.2) := HQ4.out.cell 1
  have d1 : decide ((64 : Int) ≤ (q.2.length : Int)) = false := decide_eq_false (by omega)
  have d2 : decide (64 ≤ q.2.length) = false := decide_eq_false (by omega)
  have HDL : Hid (inU32 (d.length : Int)) := Lib.hid (by unfold inU32; omega)
  have HDD : Hid (q.2.length + d.length ≤ 64) := Lib.hid hd
  have cvd : IntKind.u32.wrap (d.length : Int) = (d.length : Int) := by rw [IntKind.wrap_u32]; omega
  clear hd hq64
  go_upto_region 5 with (fail)
  clear c1 d1 d2
  have CX := Lib.hid (sput_any wa a m p q HK4.out.good HQ1.out HK4.out.om.mat d HDD.out)
  have MI5 : Hid (∀ x, (Tryz.prog.info? 31).map (·.size) = some (mcL x { m with pipes := [(q.1, q.2 ++ d)] }).length) := Lib.hid fun _ => Tryz.sizeMc
  go_wp2_with (refine wpList_load_at rfl 31 (.tmp 48) rfl ⟨kb, 0, none⟩ rfl (mcL a m) _ HK4.out.load Tryz.underlying31 rfl MI.out ?_)
  refine CX.out.mono ?_
  rintro e w5 ⟨⟨a5, pb5, z5, rfl, ho⟩, hb⟩
  have HO5 := Lib.hid ((ho.mono (ok' := fun g => B ≤ g ∧ g ≠ kb) (fun g hg => by have := HK4.out.kl; have := HK4.out.hB; omega)).below ((Below.refl w5.heap.size w5).alloc (Nat.le_refl _) (.cells (mcL a5 { m with pipes := [(q.1, q.2 ++ d)] }).toArray 31)))
  have HK5 := Lib.hid ((HK4.out.below hb).below ((Below.refl w5.heap.size w5).alloc (Nat.le_refl _) (.cells (mcL a5 { m with pipes := [(q.1, q.2 ++ d)] }).toArray 31)))
  have HB5 := Lib.hid ((HB4.out.trans (hb.mono (Nat.le_trans HBK.out HB4.out.size))).alloc (Nat.le_trans (Nat.le_trans HBK.out HB4.out.size) hb.size) (.cells (mcL a5 { m with pipes := [(q.1, q.2 ++ d)] }).toArray 31))
  have H12 := Lib.hid (Whole.made w5 31 (mcL a5 { m with pipes := [(q.1, q.2 ++ d)] }).toArray)
  clear ho hb CX
  go_upto_region 6 with (refine wpList_fresh rfl rfl 31 10 (.tmp 53) rfl rfl rfl rfl (mcL a5 { m with pipes := [(q.1, q.2 ++ d)] }) rfl rfl _ Tryz.infoMc rfl (mcL_one a5 _) ?_)
  change Code.wp _ _ _ _ (w5.alloc (.cells (mcL a5 { m with pipes := [(q.1, q.2 ++ d)] }).toArray 31))
  generalize w5.alloc (.cells (mcL a5 { m with pipes := [(q.1, q.2 ++ d)] }).toArray 31) = w6 at *
  generalize w5.heap.size = g12 at *
  have L12 := Lib.hid H12.out.reads
  have MI6 := Lib.hid (MI5.out a5)
  go_upto_region 7 with (first
    | (refine wpList_load_at rfl 31 (.tmp 10) rfl ⟨g12, 0, none⟩ rfl (mcL a5 { m with pipes := [(q.1, q.2 ++ d)] }) _ L12.out Tryz.underlying31 rfl MI6.out ?_)
    | (refine wpList_store_at rfl 31 (.tmp 58) (.tmp 56) rfl rfl kb 0 rfl (mcL a5 { m with pipes := [(q.1, q.2 ++ d)] }) rfl MI6.out (kcL a m a0 m0 x0 x1 x2 tl) 60 HK5.out.ker (by rw [mcL_length, kcL_length]; decide) (mcL_one a5 _) ?_; intro w7 hw hk))
  have HK7 := Lib.hid (HK5.out.mach hk.out HO5.out hw.out (HK4.out.good.pipe HQI.out _))
  have HB7 := Lib.hid (HB5.out.grown hk.out (Nat.le_trans HBK.out HB5.out.size) (fun q e => by injection e with e; have := HK5.out.hB; omega))
  clear hw hk HO5 HK5 HB5 H12 L12 MI6 MI5
  have CL := Lib.hid (answer_any HK7.out (d.length : Int) HDL.out)
  go_wp2_with fail
  refine CL.out.mono ?_
  rintro e w8 ⟨rfl, hk, hb⟩
  have HK8 := Lib.hid hk
  have HB8 := Lib.hid (HB7.out.trans hb)
  clear hk hb CL
  go_wp2_with fail
  refine bodyPost_end (v := .tuple #[]) (by simp [results, Tryz.results79, go_sem]) rfl ?_
  exact ⟨rfl, ⟨_, _, _, _, _, HK8.out⟩, HB8.out⟩
end Go.Proofs.YtdhfblfnejmeiaaGreatDoor
