/-
  Walks: the kernel's methods close, free, pipe. (Printed by gen_spn.py.)
-/
import Derived.Test.YtdhfblfnejmeiaaGreatDoorSpM
namespace Go.Proofs.YtdhfblfnejmeiaaGreatDoor
open Go.RowKit

theorem Tryz.infoInt : (Tryz.prog.info? 3).map (fun i => (i.zero, i.size, i.bytes)) = some (some (.int .i64 0), 1, 8) := by kernel_rfl
theorem own_ge' {w : World} {base : Nat} {e : TypeId} {size n : Nat} {v : Value} {xs : List Value} (h : w.ownsRow base e size v n xs) : ∀ q, v.ownBlock = some q → base ≤ q := fun q e => (h.lt q e).1
/-- an open file is another one, stored whole -/
theorem KS.fdAt {w w' : World} {B kb : Nat} {a : MA} {m : Mc} {p : Pr} {pb : Nat} {z : List Value} {a0 : MA} {m0 : Mc} {x0 x1 x2 : Int} {tl : List UInt8} (h : KS w B kb a m p pb z a0 m0 x0 x1 x2 tl) (hk : w.grownBy w' (some pb)) {k : Nat} (hk8 : k < 8) {f : Fl} (hf : inJ8 f.kind ∧ inJ8 f.n ∧ inJ8 f.pos)
    (hw : Whole w' pb 47 ((prCells p ++ z).take (68 + k * 3) ++ (flCells1 f ++ (prCells p ++ z).drop (68 + k * 3 + (flCells1 f).length))).toArray) : KS w' B kb a { m with procs := [p.fdSet k f] } (p.fdSet k f) pb z a0 m0 x0 x1 x2 tl :=
  h.fd hk (p.fdSet k f) (by
    have e := pr_fd h.good.ok hk8 f z
    rw [Nat.mul_comm 3 k] at e
    rw [← e]; exact hw) (h.good.ok.setFd k hf) h.good.pid
theorem Good.opened {m : Mc} {p : Pr} (h : Good m p) (qs : List Nb) (np : Int) (hq : ∀ q ∈ qs, inJ8 q.1) (hl : qs.length ≤ 1000) (hn : inJ8 np) : Good { m with pipes := qs, newPipe := np } p :=
  h.other m.frames qs np m.told h.mc.sizes.1 hq hl hn h.mc.told
set_option maxRecDepth 100000 in
set_option maxHeartbeats 4000000 in
theorem close_any {w : World} {B kb : Nat} {a : MA} {m : Mc} {p : Pr} {pb : Nat} {z : List Value} {a0 : MA} {m0 : Mc} {x1 x2 : Int} {k : Nat} {tl : List UInt8} (h : KS w B kb a m p pb z a0 m0 (k : Int) x1 x2 tl) (q : Nb) (hq : m.pipes = [q]) (hk : k < 8) (f : Fl) (hf : p.fds[k]? = some f) (hfk : f.kind ≠ 0) (he : endsF (p.fdSet k ⟨0, 0, 0⟩).fds q.1 4 ≠ 0) :
    Calls Tryz.prog 37 #[.pointer (some ⟨kb, 0, none⟩)] w fun e w' => e = .returned (.tuple #[]) ∧ KE w' B kb { m with procs := [((p.fdSet k ⟨0, 0, 0⟩).reg 1 0)] } ((p.fdSet k ⟨0, 0, 0⟩).reg 1 0) (k : Int) x1 x2 tl ∧ Below B w w' := by
  have HBK : Hid (B ≤ w.heap.size) := Lib.hid (by have := h.hB; have := h.kl; omega)
  have HK := Lib.hid h
  have HQ1 := Lib.hid hq
  have HE := Lib.hid he
  have CX := Lib.hid (file_any h k hk f hf hfk)
  have HN := Lib.hid (fun W v c => need_any W v c)
  have c35 : w.cell? ⟨kb, 35, none⟩ = some (.int .u32 (k : Int)) := h.ker.cell 35
  have SZF : Hid ((Tryz.prog.info? 44).map (·.size) = some (flCells1 ⟨0, 0, 0⟩).length) := Lib.hid Tryz.sizeFl
  clear h hq he hf hfk
  go_enter Tryz.func37, Tryz.ntmps37
  go_wp2_with fail
  refine CX.out.mono ?_
  rintro e w1 ⟨rfl, hb⟩
  have HK1 := Lib.hid (HK.out.below hb)
  have HB1 := Lib.hid (hb.mono HBK.out)
  have hpl : 68 + k * 3 + 3 ≤ (prCells p ++ z).length := by rw [List.length_append, prCells_length HK1.out.good.ok]; omega
  clear hb CX HK c35
  go_wp2_with fail
  refine (HN.out _ _ _).mono ?_
  rintro e w2 ⟨rfl, rfl⟩
  go_upto_region 3 with (refine wpList_store_at rfl 44 (.tmp 19) (.tmp 18) rfl rfl pb (68 + k * 3) rfl (flCells1 ⟨0, 0, 0⟩) rfl SZF.out (prCells p ++ z) 47 HK1.out.om.pr hpl (fl_one _) ?_; intro w3 hw hkk)
  have HK3 := Lib.hid (HK1.out.fdAt hkk.out hk (by refine ⟨?_, ?_, ?_⟩ <;> unfold inJ8 <;> simp) hw.out)
  have HB3 := Lib.hid (HB1.out.grown hkk.out (Nat.le_trans HBK.out HB1.out.size) (fun q e => by injection e with e; have := HK1.out.pbB; omega))
  clear hw hkk HK1 HB1 hpl SZF
  obtain ⟨p1, HP1⟩ : ∃ z, Hid ((p.fdSet k ⟨0, 0, 0⟩) = z) := ⟨_, Lib.hid rfl⟩
  rw [HP1.out] at HK3 HE
  have CX := Lib.hid (ssweep_any w3 a { m with procs := [p1] } p1 q HK3.out.good HQ1.out HK3.out.om.mat HE.out)
  have MI : Hid ((Tryz.prog.info? 31).map (·.size) = some (mcL a { m with procs := [p1] }).length) := Lib.hid Tryz.sizeMc
  have MI5 : Hid (∀ x, (Tryz.prog.info? 31).map (·.size) = some (mcL x { m with procs := [p1] }).length) := Lib.hid fun _ => Tryz.sizeMc
  go_wp2_with (refine wpList_load_at rfl 31 (.tmp 23) rfl ⟨kb, 0, none⟩ rfl (mcL a { m with procs := [p1] }) _ HK3.out.load Tryz.underlying31 rfl MI.out ?_)
  refine CX.out.mono ?_
  rintro e w5 ⟨⟨a5, pb5, z5, rfl, ho⟩, hb⟩
  have HO5 := Lib.hid (ho.mono (ok' := fun g => B ≤ g ∧ g ≠ kb) (fun g hg => by have := HK3.out.kl; have := HK3.out.hB; omega))
  have HK5 := Lib.hid (HK3.out.below hb)
  have HB5 := Lib.hid (HB3.out.trans (hb.mono (Nat.le_trans HBK.out HB3.out.size)))
  have MI6 := Lib.hid (MI5.out a5)
  clear ho hb CX
  go_upto_region 4 with (refine wpList_store_at rfl 31 (.tmp 27) (.tmp 25) rfl rfl kb 0 rfl (mcL a5 { m with procs := [p1] }) rfl MI6.out (kcL a { m with procs := [p1] } a0 m0 (k : Int) x1 x2 tl) 60 HK5.out.ker (by rw [mcL_length, kcL_length]; decide) (mcL_one a5 _) ?_; intro w7 hw hk7)
  have HK7 := Lib.hid (HK5.out.mach hk7.out HO5.out hw.out HK5.out.good)
  have HB7 := Lib.hid (HB5.out.grown hk7.out (Nat.le_trans HBK.out HB5.out.size) (fun q e => by injection e with e; have := HK5.out.hB; omega))
  clear hw hk7 HO5 HK5 HB5 MI5 MI6
  have CL := Lib.hid (answer_any HK7.out 0 (by unfold inU32; omega))
  go_wp2_with fail
  refine CL.out.mono ?_
  rintro e w8 ⟨rfl, hk, hb⟩
  have HK8 := Lib.hid hk
  have HB8 := Lib.hid (HB7.out.trans hb)
  clear hk hb CL
  go_wp2_with fail
  refine bodyPost_end (v := .tuple #[]) (by simp [results, Tryz.results37, go_sem]) rfl ?_
  exact ⟨rfl, by rw [HP1.out]; exact ⟨_, _, _, _, _, HK8.out⟩, HB8.out⟩
set_option maxRecDepth 100000 in
set_option maxHeartbeats 4000000 in
theorem kfree_any {w : World} {B kb : Nat} {a : MA} {m : Mc} {p : Pr} {pb : Nat} {z : List Value} {a0 : MA} {m0 : Mc} {x0 x1 x2 : Int} {tl : List UInt8} (h : KS w B kb a m p pb z a0 m0 x0 x1 x2 tl) :
    Calls Tryz.prog 81 #[.pointer (some ⟨kb, 0, none⟩)] w fun e w' => (∃ v, e = .returned v ∧ w'.ownsRow w.heap.size 3 1 v (freeF p.fds 8).length ((freeF p.fds 8).map (Value.int .i64))) ∧ Below w.heap.size w w' := by
  have CX := Lib.hid (caller_any h)
  have HK := Lib.hid h
  have HXO := Lib.hid h.good.ok
  have HSF : Hid ((Tryz.prog.info? 45).map (·.size) = some (flCells p.fds).length) := Lib.hid (by rw [flCells_length, h.good.ok.fds]; kernel_rfl)
  obtain ⟨i0, hi0, hz0, hz1, hz2'⟩ := info_parts Tryz.infoInt
  clear h
  go_enter Tryz.func81, Tryz.ntmps81
  go_wp2_with fail
  refine CX.out.mono ?_
  rintro e w1 ⟨rfl, hb⟩
  have LF := Lib.hid (HK.out.below hb).fdl
  have HB1 := Lib.hid hb
  clear hb CX HK
  go_wp2_with (refine wpList_load_at rfl 45 (.tmp 9) rfl ⟨pb, 68, none⟩ rfl (flCells p.fds) _ LF.out Tryz.underlying45 rfl HSF.out ?_)
  clear LF
  go_loopw [3, 11] (fun v i wr => ∃ j : Nat, j ≤ 8 ∧ i = .int .i64 (j : Int) ∧ Hid (wr.ownsRow w.heap.size 3 1 v (freeF p.fds j).length ((freeF p.fds j).map (Value.int .i64))) ∧ Hid (Below w.heap.size w wr)) (fun _ i _ => 8 - (intOf i).toNat)
  case atStart => exact ⟨0, by omega, rfl, Lib.hid (World.ownsRow_nil _ _ _ _), HB1⟩
  case round =>
    clear HB1
    obtain ⟨j, hj, rfl, HO, HV⟩ := hrel
    by_cases hlj : j < 8
    · obtain ⟨f, hf⟩ := get_some (l := p.fds) (k := j) (by rw [HXO.out.fds]; exact hlj)
      have HFS := Lib.hid (freeF_succ hf)
      have HFR := Lib.hid (flat_row flCells1 3 p.fds (fun _ _ => rfl) hf)
      have hl1 : decide ((j : Int) < 8) = true := decide_eq_true (by omega)
      have hl2 : decide (j < 8) = true := decide_eq_true hlj
      have hgs : w.heap.size ≤ wr.heap.size := HV.out.size
      have HZZ := Lib.hid (Whole.made wr 44 [Value.int .i64 0, Value.int .i64 0, Value.int .i64 0].toArray)
      have HVz := Lib.hid (HV.out.alloc hgs (.cells #[.int .i64 0, .int .i64 0, .int .i64 0] 44))
      have HOz := Lib.hid (HO.out.alloc (.cells #[.int .i64 0, .int .i64 0, .int .i64 0] 44))
      have SZF : Hid ((Tryz.prog.info? 44).map (·.size) = some (flCells1 f).length) := Lib.hid Tryz.sizeFl
      have HNB : Hid (some wr.heap.size ≠ u3.ownBlock) := Lib.hid fun e => by have := (HO.out.lt _ e.symm).2; omega
      have HLE : Hid ((freeF p.fds j).length ≤ 8) := Lib.hid (by unfold freeF; rw [List.length_map]; exact Nat.le_trans (List.length_filter_le _ _) (by rw [List.length_range]; omega))
      clear hf
      go_upto_region 5 with (first
        | (refine wpList_index_structs rfl 45 (.tmp 10) (.tmp 11) rfl 44 _ 8 3 (flCells p.fds) .i64 j rfl rfl Tryz.underlying45 Tryz.underlying44 Tryz.sizeFl hlj (flCells1 f) HFR.out ?_)
        | (refine wpList_store_all rfl 44 (.tmp 5) (.tmp 14) rfl rfl wr.heap.size rfl (flCells1 f) rfl SZF.out [Value.int .i64 0, Value.int .i64 0, Value.int .i64 0] 44 HZZ.out rfl (fl_one f) ?_; intro w5 hw hk))
      have HO5 := Lib.hid (HOz.out.kept hk.out (.inr fun e => HNB.out e.symm))
      have HV5 := Lib.hid (HVz.out.grown hk.out (by simp; omega) (fun q e => by injection e with e; omega))
      have c0 : w5.cell? ⟨wr.heap.size, 0, none⟩ = some (.int .i64 f.kind) := hw.out.cell 0
      clear hw hk HZZ HVz HOz SZF HNB HO HV HFR hl1 hl2
      have hg5 : w.heap.size ≤ w5.heap.size := HV5.out.size
      generalize wr.heap.size = g5 at *
      by_cases hz : f.kind = 0
      · have e0 : (f.kind == 0) = true := beq_iff_eq.2 hz
        have HFJ : Hid (freeF p.fds (j + 1) = freeF p.fds j ++ [(j : Int)]) := Lib.hid (by rw [HFS.out, if_pos e0])
        have H63 : Hid ((freeF p.fds j).length + 1 ≤ maxLen) := Lib.hid (by unfold maxLen; have := HLE.out; omega)
        have HBY : Hid (((freeF p.fds j).length + 1) * 8 ≤ 140737488355328) := Lib.hid (by have := HLE.out; omega)
        have HNW : Hid (∀ i u, [Value.int .i64 (j : Int)][i]? = some u → (w5.alloc (.cells #[Value.int .i64 (j : Int)] 3)).cell? ((⟨w5.heap.size, 0, none⟩ : Addr).add i) = some u) := Lib.hid (Whole.made w5 3 [Value.int .i64 (j : Int)].toArray).reads
        have H1 : Hid (∀ u ∈ [Value.int .i64 (j : Int)], u.oneCell' = true) := Lib.hid (by simp [Value.oneCell'])
        have HBA : Hid (w.heap.size ≤ (w5.alloc (.cells #[Value.int .i64 (j : Int)] 3)).heap.size) := Lib.hid (by simp; omega)
        have HOA := Lib.hid (HO5.out.alloc (.cells #[Value.int .i64 (j : Int)] 3))
        have HVA := Lib.hid (HV5.out.alloc hg5 (.cells #[Value.int .i64 (j : Int)] 3))
        clear hz HFS HO5 HV5
        go_wp2_with (at_builtin; refine wpList_append_own _ rfl (.tmp 18) (.tmp 20) 133 rfl w.heap.size 3 i0 _ 1 8 Tryz.underlying133 hi0 hz0 hz1 hz2' rfl (by decide) _ _ _ rfl HOA.out ⟨w5.heap.size, 0, none⟩ 1 1 [Value.int .i64 (j : Int)] rfl rfl HNW.out H1.out H63.out HBY.out HBA.out ?_; intro v' w6 hown' hgrow _)
        have HO6 : Hid (w6.ownsRow w.heap.size 3 1 v' (freeF p.fds (j + 1)).length ((freeF p.fds (j + 1)).map (Value.int .i64))) := Lib.hid (by rw [HFJ.out, List.length_append, List.map_append]; exact hown')
        have HV6 : Hid (Below w.heap.size w w6) := Lib.hid (HVA.out.grown hgrow HBA.out (own_ge' HOA.out))
        clear hown' hgrow
        go_wp2_with fail
        go_roundw
        case rel =>
          have R : ∃ j' : Nat, j' ≤ 8 ∧ Value.int .i64 ((j : Int) + 1) = .int .i64 (j' : Int) ∧ Hid (w6.ownsRow w.heap.size 3 1 v' (freeF p.fds j').length ((freeF p.fds j').map (Value.int .i64))) ∧ Hid (Below w.heap.size w w6) := ⟨j + 1, by omega, by go_num, HO6, HV6⟩
          first | exact R | ((repeat apply Exists.intro); exact ⟨R, rfl⟩)
        case measure => simp [intOf]; omega
      · have e0 : (f.kind == 0) = false := beq_eq_false_iff_ne.2 hz
        have HFJ : Hid (freeF p.fds (j + 1) = freeF p.fds j) := Lib.hid (by rw [HFS.out, e0]; simp)
        clear hz HFS
        go_wp2_with fail
        go_roundw
        case rel =>
          have R : ∃ j' : Nat, j' ≤ 8 ∧ Value.int .i64 ((j : Int) + 1) = .int .i64 (j' : Int) ∧ Hid (w5.ownsRow w.heap.size 3 1 u3 (freeF p.fds j').length ((freeF p.fds j').map (Value.int .i64))) ∧ Hid (Below w.heap.size w w5) := ⟨j + 1, by omega, by go_num, Lib.hid (by rw [HFJ.out]; exact HO5.out), HV5⟩
          first | exact R | ((repeat apply Exists.intro); exact ⟨R, rfl⟩)
        case measure => simp [intOf]; omega
    · obtain rfl : j = 8 := by omega
      rw [show ((8 : Nat) : Int) = 8 from rfl]
      go_wp2_with fail
      go_ret
      exact ⟨⟨_, rfl, HO.out⟩, HV.out⟩
set_option maxRecDepth 100000 in
set_option maxHeartbeats 4000000 in
theorem answer_kept {w : World} {B kb : Nat} {a : MA} {m : Mc} {p : Pr} {pb : Nat} {z : List Value} {a0 : MA} {m0 : Mc} {x0 x1 x2 : Int} {tl : List UInt8} (h : KS w B kb a m p pb z a0 m0 x0 x1 x2 tl) (x : Int) (hx : inU32 x) :
    Calls Tryz.prog 25 #[.pointer (some ⟨kb, 0, none⟩), .int .u32 x] w fun e w' => e = .returned (.tuple #[]) ∧ KS w' B kb a { m with procs := [p.reg 1 x] } (p.reg 1 x) pb z a0 m0 x0 x1 x2 tl ∧ Below B w w' ∧ ∃ w1, Below w.heap.size w w1 ∧ w1.grownBy w' (some pb) := by
  have HBK : Hid (B ≤ w.heap.size) := Lib.hid (by have := h.hB; have := h.kl; omega)
  have CX := Lib.hid (caller_any h)
  have HK := Lib.hid h
  obtain ⟨r, hr⟩ : ∃ r, p.regs[1]? = some r := ⟨p.regs[1]'(by rw [h.good.ok.regs]; decide), List.getElem?_eq_getElem _⟩
  have hc : (prCells p)[3 + 1]? = some (.int .u32 r) := by rw [pr_reg h.good.ok (by decide)]; unfold rgCells; rw [List.getElem?_map, hr]; rfl
  have HC := Lib.hid hc
  have HX := Lib.hid hx
  clear h hr hc hx
  go_enter Tryz.func25, Tryz.ntmps25
  go_wp2_with fail
  refine CX.out.mono ?_
  rintro e w1 ⟨rfl, hb⟩
  have HK1 := Lib.hid (HK.out.below hb)
  have c4 : w1.cell? ⟨pb, 4, none⟩ = some (.int .u32 r) := HK1.out.om.cell HC.out
  have y4 := HK1.out.pfree 4
  have HB := Lib.hid hb
  clear hb CX HK
  go_wp2_with fail
  refine bodyPost_end (v := .tuple #[]) (by simp [results, Tryz.results25, go_sem]) rfl ?_
  have hB := HK1.out.pbB
  have hkl := HK1.out.kl
  exact ⟨rfl, HK1.out.set _ 4 (.int .u32 x) (by decide) (pr_set_reg HK1.out.good.ok (i := 1) (by decide) x) (HK1.out.good.ok.setReg 1 HX.out) HK1.out.good.pid, (HB.out.mono HBK.out).setCell (p := ⟨pb, 4, none⟩) hB _, w1, HB.out, grown_setK w1 pb 4 _⟩
set_option maxRecDepth 100000 in
set_option maxHeartbeats 4000000 in
theorem kpipe_any {w : World} {B kb : Nat} {a : MA} {m : Mc} {p : Pr} {pb : Nat} {z : List Value} {a0 : MA} {m0 : Mc} {x0 x1 x2 : Int} {tl : List UInt8} (h : KS w B kb a m p pb z a0 m0 x0 x1 x2 tl) (k0 k1 : Nat) (r : List Int) (hf : freeF p.fds 8 = (k0 : Int) :: (k1 : Int) :: r) (hk0 : k0 < 8) (hk1 : k1 < 8) (hpl : m.pipes.length < 64) (hnp : m.newPipe < 1000000000) :
    Calls Tryz.prog 38 #[.pointer (some ⟨kb, 0, none⟩)] w fun e w' => e = .returned (.tuple #[]) ∧ KE w' B kb { m with pipes := m.pipes ++ [(m.newPipe, [])], newPipe := m.newPipe + 1 , procs := [((((p.fdSet k0 ⟨4, m.newPipe, 0⟩).fdSet k1 ⟨5, m.newPipe, 0⟩).reg 1 k0).reg 2 k1)] } ((((p.fdSet k0 ⟨4, m.newPipe, 0⟩).fdSet k1 ⟨5, m.newPipe, 0⟩).reg 1 k0).reg 2 k1) x0 x1 x2 tl ∧ Below B w w' := by
  have HBK : Hid (B ≤ w.heap.size) := Lib.hid (by have := h.hB; have := h.kl; omega)
  have MI : Hid ((Tryz.prog.info? 31).map (·.size) = some (mcL a m).length) := Lib.hid Tryz.sizeMc
  have CX := Lib.hid (kfree_any h)
  have HK := Lib.hid h
  have HF := Lib.hid hf
  have HNI := Lib.hid h.good.mc.newPipe
  have HPI := Lib.hid h.good.mc.pipes
  have HN := Lib.hid (fun W v c => need_any W v c)
  clear h hf
  go_enter Tryz.func38, Tryz.ntmps38
  go_wp2_with fail
  refine CX.out.mono ?_
  rintro e w1 ⟨⟨v, rfl, ho⟩, hb⟩
  rw [HF.out] at ho
  obtain ⟨gv, cv, rfl⟩ : ∃ gv cv, v = .slice (some ⟨gv, 0, none⟩) (r.length + 2) cv := by
    rcases ho.2 with ⟨_, hx⟩ | ⟨g, cap, cur, e, _⟩
    · cases hx
    · exact ⟨g, cap, e⟩
  have HR1 : Hid (w1.ownsRow w.heap.size 3 1 (.slice (some ⟨gv, 0, none⟩) (r.length + 2) cv) (r.length + 2) (Value.int .i64 (k0 : Int) :: Value.int .i64 (k1 : Int) :: r.map (Value.int .i64))) := Lib.hid (by simpa using ho)
  have HK1 := Lib.hid (HK.out.below hb)
  have HB1 := Lib.hid (hb.mono HBK.out)
  have c8 : w1.cell? ⟨kb, 8, none⟩ = some (.slice a.Q m.pipes.length a.cQ) := HK1.out.ker.cell 8
  have c9 : w1.cell? ⟨kb, 9, none⟩ = some (.int .i64 m.newPipe) := HK1.out.ker.cell 9
  have d1 : decide ((2 : Int) ≤ ((r.length + 2 : Nat) : Int)) = true := decide_eq_true (by omega)
  have d1' : decide ((2 : Int) ≤ (r.length : Int) + 2) = true := decide_eq_true (by omega)
  have d1'' : decide (2 ≤ r.length + 2) = true := decide_eq_true (by omega)
  have d2 : decide ((m.pipes.length : Int) < 64) = true := decide_eq_true (by omega)
  have d2' : decide (m.pipes.length < 64) = true := decide_eq_true (by omega)
  have d3 : decide (m.newPipe < 1000000000) = true := decide_eq_true (by omega)
  have HP64 := Lib.hid hpl
  have HPL : Hid (m.pipes.length ≤ 1000) := Lib.hid (by omega)
  have HNP := Lib.hid hnp
  have hkw : kb < w.heap.size := HK.out.kl
  clear ho hb CX HK HF hpl hnp
  go_wp2_with fail
  refine (HN.out _ _ _).mono ?_
  rintro e w3 ⟨rfl, rfl⟩
  clear c8 c9 d1 d1' d1'' d2 d2' d3
  have CX := Lib.hid (sopen_any w3 a m p HK1.out.good HK1.out.om.mat HPL.out HNP.out)
  have MI5 : Hid (∀ x, (Tryz.prog.info? 31).map (·.size) = some (mcL x { m with pipes := m.pipes ++ [(m.newPipe, [])], newPipe := m.newPipe + 1 }).length) := Lib.hid fun _ => Tryz.sizeMc
  go_wp2_with (refine wpList_load_at rfl 31 (.tmp 33) rfl ⟨kb, 0, none⟩ rfl (mcL a m) _ HK1.out.load Tryz.underlying31 rfl MI.out ?_)
  refine CX.out.mono ?_
  rintro e w5 ⟨⟨a5, pb5, z5, rfl, ho⟩, hb⟩
  have HO5 := Lib.hid ((ho.mono (ok' := fun g => B ≤ g ∧ g ≠ kb) (fun g hg => by have := HK1.out.kl; have := HK1.out.hB; omega)).below ((Below.refl w5.heap.size w5).alloc (Nat.le_refl _) (.cells (mcL a5 { m with pipes := m.pipes ++ [(m.newPipe, [])], newPipe := m.newPipe + 1 }).toArray 31)))
  have HK5 := Lib.hid ((HK1.out.below hb).below ((Below.refl w5.heap.size w5).alloc (Nat.le_refl _) (.cells (mcL a5 { m with pipes := m.pipes ++ [(m.newPipe, [])], newPipe := m.newPipe + 1 }).toArray 31)))
  have HB5 := Lib.hid ((HB1.out.trans (hb.mono (Nat.le_trans HBK.out HB1.out.size))).alloc (Nat.le_trans (Nat.le_trans HBK.out HB1.out.size) hb.size) (.cells (mcL a5 { m with pipes := m.pipes ++ [(m.newPipe, [])], newPipe := m.newPipe + 1 }).toArray 31))
  have H12 := Lib.hid (Whole.made w5 31 (mcL a5 { m with pipes := m.pipes ++ [(m.newPipe, [])], newPipe := m.newPipe + 1 }).toArray)
  have HR5 := Lib.hid ((ownr_below HR1.out hb).alloc (.cells (mcL a5 { m with pipes := m.pipes ++ [(m.newPipe, [])], newPipe := m.newPipe + 1 }).toArray 31))
  clear ho hb CX
  go_upto_region 3 with (refine wpList_fresh rfl rfl 31 3 (.tmp 36) rfl rfl rfl rfl (mcL a5 { m with pipes := m.pipes ++ [(m.newPipe, [])], newPipe := m.newPipe + 1 }) rfl rfl _ Tryz.infoMc rfl (mcL_one a5 _) ?_)
  change Code.wp _ _ _ _ (w5.alloc (.cells (mcL a5 { m with pipes := m.pipes ++ [(m.newPipe, [])], newPipe := m.newPipe + 1 }).toArray 31))
  generalize w5.alloc (.cells (mcL a5 { m with pipes := m.pipes ++ [(m.newPipe, [])], newPipe := m.newPipe + 1 }).toArray 31) = w6 at *
  generalize w5.heap.size = g12 at *
  have L12 := Lib.hid H12.out.reads
  have MI6 := Lib.hid (MI5.out a5)
  go_upto_region 4 with (first
    | (refine wpList_load_at rfl 31 (.tmp 3) rfl ⟨g12, 0, none⟩ rfl (mcL a5 { m with pipes := m.pipes ++ [(m.newPipe, [])], newPipe := m.newPipe + 1 }) _ L12.out Tryz.underlying31 rfl MI6.out ?_)
    | (refine wpList_store_at rfl 31 (.tmp 41) (.tmp 39) rfl rfl kb 0 rfl (mcL a5 { m with pipes := m.pipes ++ [(m.newPipe, [])], newPipe := m.newPipe + 1 }) rfl MI6.out (kcL a m a0 m0 x0 x1 x2 tl) 60 HK5.out.ker (by rw [mcL_length, kcL_length]; decide) (mcL_one a5 _) ?_; intro w7 hw hk))
  have HK7 := Lib.hid (HK5.out.mach hk.out HO5.out hw.out (HK1.out.good.opened _ _ (fun q hq => (List.mem_append.1 hq).elim (HPI.out q) (fun h => by rw [List.mem_singleton.1 h]; exact HNI.out)) (by rw [List.length_append]; simp; have := HP64.out; omega) (by have := HNI.out; have := HNP.out; unfold inJ8 at *; omega)))
  have HB7 := Lib.hid (HB5.out.grown hk.out (Nat.le_trans HBK.out HB5.out.size) (fun q e => by injection e with e; have := HK5.out.hB; omega))
  have HR7 := Lib.hid (own_one HR5.out hk.out hkw)
  clear HR1 HR5
  clear hw hk HO5 HK5 HB5 H12 L12 MI6 MI5
  have CC := Lib.hid (caller_any HK7.out)
  go_wp2_with fail
  refine CC.out.mono ?_
  rintro e w8 ⟨rfl, hb⟩
  have HK8 := Lib.hid (HK7.out.below hb)
  have HR8 := Lib.hid (ownr_below HR7.out hb)
  have HB8 := Lib.hid (HB7.out.trans (hb.mono (Nat.le_trans HBK.out HB7.out.size)))
  clear hb CC HK7 HR7 HB7
  go_upto_region 5 with (fail)
  refine' wp_region_sure (by kernel_rfl) (fun W => Below w8.heap.size w8 W) 9 [_, _, _, .int .i64 (k0 : Int), _, _, _, _, _] [some 44, some 45, some 46, some 47, some 48, some 49, some 50, some 51, some 52] (by kernel_rfl) (by kernel_rfl) (by kernel_rfl) (by kernel_rfl) rfl (Below.refl _ _).drew ?hsa
  case hsa =>
    refine sure_cons ?_ ?_
    · intro L ac W K hed hJ hS hK
      have hA5 : ac.eval (.tmp 5) = .pointer (some ⟨pb5, 0, none⟩) := hJ.eval_old 5 (by kernel_rfl)
      clear hed hJ
      refine opStep_of rfl ?_
      unfold Oper.wp execOp
      have hN5 := evalN hA5
      go_simp
      exact hK _ hS
    refine sure_cons ?_ ?_
    · intro L ac W K hed hJ hS hK
      have hA2 : ac.eval (.tmp 2) = .slice (some ⟨gv, 0, none⟩) (r.length + 2) cv := hJ.eval_old 2 (by kernel_rfl)
      clear hed hJ
      refine opStep_of rfl ?_
      unfold Oper.wp execOp
      have hN2 := evalN hA2
      go_simp
      exact hK _ hS
    refine sure_cons ?_ ?_
    · intro L ac W K hed hJ hS hK
      have hn := needs_spec (l := [1]) (by kernel_rfl) hed
      have hA45 := hJ.eval 1 (d := 45) (hn 1 (by simp)) rfl rfl rfl
      clear hed hJ hn
      refine opStep_of rfl ?_
      have zz : (0 : Int) < (r.length : Int) + 2 := by omega
      unfold Oper.wp execOp
      have hN45 := evalN hA45
      go_simp
      exact hK _ hS
    refine sure_cons ?_ ?_
    · intro L ac W K hed hJ hS hK
      have hn := needs_spec (l := [2]) (by kernel_rfl) hed
      have hA46 := hJ.eval 2 (d := 46) (hn 2 (by simp)) rfl rfl rfl
      clear hed hJ hn
      refine opStep_of rfl ?_
      have cc : W.cell? ⟨gv, 0, none⟩ = some (.int .i64 (k0 : Int)) := (ownr_below HR8.out hS).cellAt 0 (by omega)
      unfold Oper.wp execOp
      have hN46 := evalN hA46
      go_simp
      exact hK _ hS
    refine sure_cons ?_ ?_
    · intro L ac W K hed hJ hS hK
      have hA4 : ac.eval (.tmp 4) = .int .i64 m.newPipe := hJ.eval_old 4 (by kernel_rfl)
      clear hed hJ
      refine opStep_of rfl ?_
      unfold Oper.wp execOp
      have hN4 := evalN hA4
      go_simp
      exact hK _ hS
    refine sure_cons ?_ ?_
    · intro L ac W K hed hJ hS hK
      have hn := needs_spec (l := [4]) (by kernel_rfl) hed
      have hA48 := hJ.eval 4 (d := 48) (hn 4 (by simp)) rfl rfl rfl
      clear hed hJ hn
      refine opStep_of rfl ?_
      unfold Oper.wp execOp
      have hN48 := evalN hA48
      go_simp
      exact hK _ hS
    refine sure_cons ?_ ?_
    · intro L ac W K hed hJ hS hK
      have hn := needs_spec (l := [0]) (by kernel_rfl) hed
      have hA44 := hJ.eval 0 (d := 44) (hn 0 (by simp)) rfl rfl rfl
      clear hed hJ hn
      refine opStep_of rfl ?_
      unfold Oper.wp execOp
      have hN44 := evalN hA44
      go_simp
      exact hK _ hS
    refine sure_cons ?_ ?_
    · intro L ac W K hed hJ hS hK
      have hn := needs_spec (l := [6]) (by kernel_rfl) hed
      have hA50 := hJ.eval 6 (d := 50) (hn 6 (by simp)) rfl rfl rfl
      clear hed hJ hn
      refine opStep_of rfl ?_
      unfold Oper.wp execOp
      have hN50 := evalN hA50
      go_simp
      exact hK _ hS
    refine sure_cons ?_ ?_
    · intro L ac W K hed hJ hS hK
      have hn := needs_spec (l := [3, 7]) (by kernel_rfl) hed
      have hA47 := hJ.eval 3 (d := 47) (hn 3 (by simp)) rfl rfl rfl
      have hA51 := hJ.eval 7 (d := 51) (hn 7 (by simp)) rfl rfl rfl
      clear hed hJ hn
      refine opStep_of rfl ?_
      have j0 : (0 : Int) ≤ (k0 : Int) := by omega
      have j1 : (k0 : Int) < 8 := by omega
      unfold Oper.wp execOp
      have hN47 := evalN hA47
      have hN51 := evalN hA51
      go_simp
      exact hK _ hS
    refine sure_nil ?_
    intro W hS
    simp only [putAll, Act.put, List.setIfInBounds_toArray, List.set_cons_zero, List.set_cons_succ]
    have HKx := Lib.hid (HK8.out.below hS)
    have HRx := Lib.hid (ownr_below HR8.out hS)
    have HBx := Lib.hid (HB8.out.trans (hS.mono (Nat.le_trans HBK.out HB8.out.size)))
    have hpl : 68 + k0 * 3 + 3 ≤ (prCells p ++ z5).length := by rw [List.length_append, prCells_length HKx.out.good.ok]; omega
    have SZF : Hid ((Tryz.prog.info? 44).map (·.size) = some (flCells1 ⟨4, m.newPipe, 0⟩).length) := Lib.hid Tryz.sizeFl
    clear hS HK8 HR8 HB8
    go_upto_region 6 with (refine wpList_store_at rfl 44 (.tmp 52) (.tmp 49) rfl rfl pb5 (68 + k0 * 3) rfl (flCells1 ⟨4, m.newPipe, 0⟩) rfl SZF.out (prCells p ++ z5) 47 HKx.out.om.pr hpl (fl_one _) ?_; intro wa hw hkk)
    have HKa := Lib.hid (HKx.out.fdAt (f := ⟨4, m.newPipe, 0⟩) hkk.out hk0 ⟨by unfold inJ8; simp, HNI.out, by unfold inJ8; simp⟩ hw.out)
    have HRa : Hid (wa.ownsRow w.heap.size 3 1 (.slice (some ⟨gv, 0, none⟩) (r.length + 2) cv) (r.length + 2) (Value.int .i64 (k0 : Int) :: Value.int .i64 (k1 : Int) :: r.map (Value.int .i64))) := Lib.hid (HRx.out.kept hkk.out (.inr (own_ne HRx.out HKx.out.om.pr (by decide)).symm))
    have HBa := Lib.hid (HBx.out.grown hkk.out (Nat.le_trans HBK.out HBx.out.size) (fun q e => by injection e with e; have := HKx.out.pbB; omega))
    clear hw hkk HKx HRx HBx hpl SZF
    refine' wp_region_sure (by kernel_rfl) (fun W => Below wa.heap.size wa W) 9 [_, _, _, .int .i64 (k1 : Int), _, _, _, _, _] [some 53, some 54, some 55, some 56, some 57, some 58, some 59, some 60, some 61] (by kernel_rfl) (by kernel_rfl) (by kernel_rfl) (by kernel_rfl) rfl (Below.refl _ _).drew ?hsb
    case hsb =>
      refine sure_cons ?_ ?_
      · intro L ac W K hed hJ hS hK
        have hA5 : ac.eval (.tmp 5) = .pointer (some ⟨pb5, 0, none⟩) := hJ.eval_old 5 (by kernel_rfl)
        clear hed hJ
        refine opStep_of rfl ?_
        unfold Oper.wp execOp
        have hN5 := evalN hA5
        go_simp
        exact hK _ hS
      refine sure_cons ?_ ?_
      · intro L ac W K hed hJ hS hK
        have hA2 : ac.eval (.tmp 2) = .slice (some ⟨gv, 0, none⟩) (r.length + 2) cv := hJ.eval_old 2 (by kernel_rfl)
        clear hed hJ
        refine opStep_of rfl ?_
        unfold Oper.wp execOp
        have hN2 := evalN hA2
        go_simp
        exact hK _ hS
      refine sure_cons ?_ ?_
      · intro L ac W K hed hJ hS hK
        have hn := needs_spec (l := [1]) (by kernel_rfl) hed
        have hA54 := hJ.eval 1 (d := 54) (hn 1 (by simp)) rfl rfl rfl
        clear hed hJ hn
        refine opStep_of rfl ?_
        have zz : (1 : Int) < (r.length : Int) + 2 := by omega
        unfold Oper.wp execOp
        have hN54 := evalN hA54
        go_simp
        exact hK _ hS
      refine sure_cons ?_ ?_
      · intro L ac W K hed hJ hS hK
        have hn := needs_spec (l := [2]) (by kernel_rfl) hed
        have hA55 := hJ.eval 2 (d := 55) (hn 2 (by simp)) rfl rfl rfl
        clear hed hJ hn
        refine opStep_of rfl ?_
        have cc : W.cell? ⟨gv, 1, none⟩ = some (.int .i64 (k1 : Int)) := (ownr_below HRa.out hS).cellAt 1 (by omega)
        unfold Oper.wp execOp
        have hN55 := evalN hA55
        go_simp
        exact hK _ hS
      refine sure_cons ?_ ?_
      · intro L ac W K hed hJ hS hK
        have hA4 : ac.eval (.tmp 4) = .int .i64 m.newPipe := hJ.eval_old 4 (by kernel_rfl)
        clear hed hJ
        refine opStep_of rfl ?_
        unfold Oper.wp execOp
        have hN4 := evalN hA4
        go_simp
        exact hK _ hS
      refine sure_cons ?_ ?_
      · intro L ac W K hed hJ hS hK
        have hn := needs_spec (l := [4]) (by kernel_rfl) hed
        have hA57 := hJ.eval 4 (d := 57) (hn 4 (by simp)) rfl rfl rfl
        clear hed hJ hn
        refine opStep_of rfl ?_
        unfold Oper.wp execOp
        have hN57 := evalN hA57
        go_simp
        exact hK _ hS
      refine sure_cons ?_ ?_
      · intro L ac W K hed hJ hS hK
        have hn := needs_spec (l := [0]) (by kernel_rfl) hed
        have hA53 := hJ.eval 0 (d := 53) (hn 0 (by simp)) rfl rfl rfl
        clear hed hJ hn
        refine opStep_of rfl ?_
        unfold Oper.wp execOp
        have hN53 := evalN hA53
        go_simp
        exact hK _ hS
      refine sure_cons ?_ ?_
      · intro L ac W K hed hJ hS hK
        have hn := needs_spec (l := [6]) (by kernel_rfl) hed
        have hA59 := hJ.eval 6 (d := 59) (hn 6 (by simp)) rfl rfl rfl
        clear hed hJ hn
        refine opStep_of rfl ?_
        unfold Oper.wp execOp
        have hN59 := evalN hA59
        go_simp
        exact hK _ hS
      refine sure_cons ?_ ?_
      · intro L ac W K hed hJ hS hK
        have hn := needs_spec (l := [3, 7]) (by kernel_rfl) hed
        have hA56 := hJ.eval 3 (d := 56) (hn 3 (by simp)) rfl rfl rfl
        have hA60 := hJ.eval 7 (d := 60) (hn 7 (by simp)) rfl rfl rfl
        clear hed hJ hn
        refine opStep_of rfl ?_
        have j0 : (0 : Int) ≤ (k1 : Int) := by omega
        have j1 : (k1 : Int) < 8 := by omega
        unfold Oper.wp execOp
        have hN56 := evalN hA56
        have hN60 := evalN hA60
        go_simp
        exact hK _ hS
      refine sure_nil ?_
      intro W hS
      simp only [putAll, Act.put, List.setIfInBounds_toArray, List.set_cons_zero, List.set_cons_succ]
      have HKx := Lib.hid (HKa.out.below hS)
      have HRx := Lib.hid (ownr_below HRa.out hS)
      have HBx := Lib.hid (HBa.out.trans (hS.mono (Nat.le_trans HBK.out HBa.out.size)))
      have hpl : 68 + k1 * 3 + 3 ≤ (prCells (p.fdSet k0 ⟨4, m.newPipe, 0⟩) ++ z5).length := by rw [List.length_append, prCells_length HKx.out.good.ok]; omega
      have SZF : Hid ((Tryz.prog.info? 44).map (·.size) = some (flCells1 ⟨5, m.newPipe, 0⟩).length) := Lib.hid Tryz.sizeFl
      clear hS HKa HRa HBa
      go_upto_region 7 with (refine wpList_store_at rfl 44 (.tmp 61) (.tmp 58) rfl rfl pb5 (68 + k1 * 3) rfl (flCells1 ⟨5, m.newPipe, 0⟩) rfl SZF.out (prCells (p.fdSet k0 ⟨4, m.newPipe, 0⟩) ++ z5) 47 HKx.out.om.pr hpl (fl_one _) ?_; intro wb hw hkk)
      have HKb := Lib.hid (HKx.out.fdAt (f := ⟨5, m.newPipe, 0⟩) hkk.out hk1 ⟨by unfold inJ8; simp, HNI.out, by unfold inJ8; simp⟩ hw.out)
      have HRb : Hid (wb.ownsRow w.heap.size 3 1 (.slice (some ⟨gv, 0, none⟩) (r.length + 2) cv) (r.length + 2) (Value.int .i64 (k0 : Int) :: Value.int .i64 (k1 : Int) :: r.map (Value.int .i64))) := Lib.hid (HRx.out.kept hkk.out (.inr (own_ne HRx.out HKx.out.om.pr (by decide)).symm))
      have HBb := Lib.hid (HBx.out.grown hkk.out (Nat.le_trans HBK.out HBx.out.size) (fun q e => by injection e with e; have := HKx.out.pbB; omega))
      clear hw hkk HKx HRx HBx hpl SZF
      have HKL : Hid (kb < wb.heap.size ∧ w.heap.size ≤ wb.heap.size) := Lib.hid ⟨HKb.out.kl, by have := (HRb.out.lt gv rfl); omega⟩
      have c0 : wb.cell? ⟨gv, 0, none⟩ = some (.int .i64 (k0 : Int)) := HRb.out.cellAt 0 (by omega)
      have v0 : IntKind.u32.wrap (k0 : Int) = (k0 : Int) := by rw [IntKind.wrap_u32]; omega
      have v1 : IntKind.u32.wrap (k1 : Int) = (k1 : Int) := by rw [IntKind.wrap_u32]; omega
      have z0 : (0 : Int) < (r.length : Int) + 2 := by omega
      have z1 : (1 : Int) < (r.length : Int) + 2 := by omega
      have CA := Lib.hid (answer_kept HKb.out (k0 : Int) (by unfold inU32; omega))
      go_wp2_with fail
      refine CA.out.mono ?_
      rintro e wc ⟨rfl, hk, hb, w9, hb9, hk9⟩
      have HKc := Lib.hid hk
      have HBc := Lib.hid (HBb.out.trans hb)
      have HRc : Hid (wc.ownsRow w.heap.size 3 1 (.slice (some ⟨gv, 0, none⟩) (r.length + 2) cv) (r.length + 2) (Value.int .i64 (k0 : Int) :: Value.int .i64 (k1 : Int) :: r.map (Value.int .i64))) := Lib.hid (by
        have h9 := ownr_below HRb.out hb9
        exact h9.kept hk9 (.inr (own_ne h9 (HKb.out.om.pr.below hb9 HKb.out.om.pr.lt) (by decide)).symm))
      clear hk hb hb9 hk9 CA HKb HBb HRb c0
      have c1 : wc.cell? ⟨gv, 1, none⟩ = some (.int .i64 (k1 : Int)) := HRc.out.cellAt 1 (by omega)
      have CA := Lib.hid (second_any HKc.out (k1 : Int) (by unfold inU32; omega))
      go_wp2_with fail
      refine CA.out.mono ?_
      rintro e wd ⟨rfl, hk, hb⟩
      have HKd := Lib.hid hk
      have HBd := Lib.hid (HBc.out.trans hb)
      clear hk hb CA c1
      go_wp2_with fail
      refine bodyPost_end (v := .tuple #[]) (by simp [results, Tryz.results38, go_sem]) rfl ?_
      exact ⟨rfl, ⟨_, _, _, _, _, HKd.out⟩, HBd.out⟩
end Go.Proofs.YtdhfblfnejmeiaaGreatDoor
