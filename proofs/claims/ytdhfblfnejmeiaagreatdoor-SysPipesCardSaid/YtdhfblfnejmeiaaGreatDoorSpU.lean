/-
  Walks: the law's Call, the document's Caller. (Printed by gen_spu.py.)
-/
import Derived.Test.YtdhfblfnejmeiaaGreatDoorSpT
namespace Go.Proofs.YtdhfblfnejmeiaaGreatDoor
open Go.RowKit

section
variable {P : Program}
theorem wpList_alloc_z {ops : Array Oper} {rest : List Oper} {o : Oper} {a : Act} {w : World} {Q : Exit → Act → World → Prop} (hgd : o.guard = none) (ty : TypeId) (ho : o.op = .alloc ty) (cs : Array Value) (n : Nat) (hi : (P.info? ty).map (fun i => (i.zero, i.size)) = some (some (.agg cs), n))
    (h : wpList P ops Q rest (a.put o.dst (.pointer (some ⟨w.heap.size, 0, none⟩))) (w.alloc (.cells cs ty))) : wpList P ops Q (o :: rest) a w :=
  wpList_plain hgd fun _ hK => by
    unfold Oper.wp execOp
    simp only [ho, Sem.run_bind, run_alloc_z w ty _ n hi, Result.andThen_ok, Sem.run_pure]
    exact hK _ _ h
end
theorem Tryz.sizeA3 : (Tryz.prog.info? 51).map (·.size) = some 3 := by kernel_rfl
set_option maxRecDepth 100000 in
set_option maxHeartbeats 4000000 in
theorem rcaller_any (w : World) (a : MA) (m : Mc) (p : Pr) (hG : Good m p) (hst : p.state = 1) (hA : MAt w w.heap.size a m) :
    Calls Tryz.prog 15 #[.agg (mcL a m).toArray] w fun e w' => e = .returned (.int .i64 0) ∧ Below w.heap.size w w' := by
  have hA' : Lies w w.heap.size a.P (prCells p) := by have := hA.P; rw [hG.one] at this; simpa [prsCells] using this
  have hml : m.procs.length = 1 := by rw [hG.one]; rfl
  have hs0 := Whole.made w 31 (mcL a m).toArray
  have hb : Below w.heap.size w (w.alloc (.cells (mcL a m).toArray 31)) := (Below.refl _ _).alloc (Nat.le_refl _) _
  go_enter Tryz.func15, Tryz.ntmps15
  go_upto_region 1 with (fail)
  change Code.wp _ _ _ _ (w.alloc (.cells (mcL a m).toArray 31))
  generalize (w.alloc (.cells (mcL a m).toArray 31)) = w1 at *
  generalize hgx : w.heap.size = gx at *
  have HGX := Lib.hid hgx
  have HS0 := Lib.hid hs0
  have HW := Lib.hid hb
  have hgl : gx < w1.heap.size := hs0.lt
  clear hgx hb hs0
  obtain ⟨ad, hadr, had, hc⟩ := Lies.row (f := prCells) (n := 96) (l := [p]) (by simpa using Lies.below hA' HW.out) (fun y hy => by rw [List.mem_singleton.1 hy]; exact prCells_length hG.ok) (by omega) (k := 0) rfl
  have LD : Hid (∀ j v, (prCells p)[j]? = some v → w1.cell? (ad.add j) = some v) := Lib.hid fun j v h => by
    have := hc j v h
    rwa [show ad.add (0 * 96) = ad by unfold Addr.add; simp] at this
  have c5 : w1.cell? ⟨gx, 5, none⟩ = some (.slice (some ad) 1 a.cP) := (HS0.out.cell 5).trans (by rw [← hadr, ← hml]; rfl)
  have hxl := prCells_length hG.ok
  have PIX : Hid ((Tryz.prog.info? 47).map (·.size) = some (prCells p).length) := Lib.hid (by rw [hxl]; exact Tryz.sizePr)
  have HLL : Hid ((prCells p).length = (prCells zeroPr).length) := Lib.hid (by rw [hxl]; rfl)
  have HZZ : Hid (Whole (w1.alloc (.cells (prCells zeroPr).toArray 47)) w1.heap.size 47 (prCells zeroPr).toArray) := Lib.hid (Whole.made w1 47 (prCells zeroPr).toArray)
  have HC2 : Hid (m.cur = p.pid ∧ p.state = 1) := Lib.hid ⟨by rw [hG.cur, hG.pid], hst⟩
  have HV1 : Hid (Below w1.heap.size w1 (w1.alloc (.cells (prCells zeroPr).toArray 47))) := Lib.hid ((Below.refl w1.heap.size w1).alloc (Nat.le_refl _) _)
  clear hA hA' hG hst hadr had hc hxl hml
  go_wp2_with fail
  clear c5
  go_loopw [8] (fun i wr => i = .int .i64 0 ∧ wr = w1) (fun _ _ => 1)
  case atStart => exact ⟨rfl, rfl⟩
  case round =>
    obtain ⟨rfl, hwe⟩ := hrel
    obtain rfl := hwe.symm
    go_upto_region 4 with (first
      | (refine wpList_load_at rfl 47 (.tmp 11) rfl ad (by simp [go_sem]) (prCells p) _ LD.out Tryz.underlying47 rfl PIX.out ?_)
      | (refine wpList_alloc_z rfl 47 rfl (prCells zeroPr).toArray 96 Tryz.infoPr ?_)
      | (refine wpList_store_all rfl 47 (.tmp 4) (.tmp 12) rfl rfl w1.heap.size rfl (prCells p) rfl PIX.out (prCells zeroPr) 47 HZZ.out HLL.out prCells_one ?_; intro w2 hw hk))
    have c0 : w2.cell? ⟨w1.heap.size, 0, none⟩ = some (.int .i64 p.pid) := hw.out.cell 0
    have c2 : w2.cell? ⟨w1.heap.size, 2, none⟩ = some (.int .i64 1) := (hw.out.cell 2).trans (by rw [← HC2.out.2]; rfl)
    have HB2 := Lib.hid (HV1.out.grown hk.out (by simp) (fun q e => by injection e with e; omega))
    have cc : w2.cell? ⟨gx, 2, none⟩ = some (.int .i64 p.pid) := ((HS0.out.below HB2.out hgl).cell 2).trans (by rw [← HC2.out.1]; rfl)
    have HV2 := Lib.hid (HW.out.trans (HB2.out.mono (by omega)))
    clear hw hk HV1 HZZ LD HB2
    go_wp2_with fail
    go_ret
    exact ⟨rfl, by rw [HGX.out]; exact HV2.out⟩
/-- the process with the first k arguments -/
def argP (p : Pr) (x0 x1 x2 : Int) : Nat → Pr
  | 0 => p
  | 1 => p.reg 1 x0
  | 2 => (p.reg 1 x0).reg 2 x1
  | _ => ((p.reg 1 x0).reg 2 x1).reg 3 x2
theorem argP_ok {p : Pr} (h : PrOk p) {x0 x1 x2 : Int} (h0 : inU32 x0) (h1 : inU32 x1) (h2 : inU32 x2) : ∀ k, PrOk (argP p x0 x1 x2 k)
  | 0 => h
  | 1 => h.setReg 1 h0
  | 2 => (h.setReg 1 h0).setReg 2 h1
  | _ + 3 => ((h.setReg 1 h0).setReg 2 h1).setReg 3 h2
theorem reg_some {p : Pr} (h : PrOk p) {i : Nat} (hi : i < 16) : ∃ x, p.regs[i]? = some x := ⟨p.regs[i]'(by rw [h.regs]; exact hi), List.getElem?_eq_getElem _⟩
theorem whole_reg {w : World} {pb : Nat} {z : List Value} {p : Pr} (h : PrOk p) (hw : Whole w pb 47 (prCells p ++ z).toArray) {i : Nat} (hi : i < 16) (x : Int) : Whole (w.setCell ⟨pb, 3 + i, none⟩ (.int .u32 x)) pb 47 (prCells (p.reg i x) ++ z).toArray := by
  have := hw.set (3 + i) (.int .u32 x)
  rwa [List.setIfInBounds_toArray, List.set_append_left _ _ (by rw [prCells_length h]; omega), pr_set_reg h hi] at this
theorem whole_cell {w : World} {pb : Nat} {z : List Value} {p : Pr} (h : PrOk p) (hw : Whole w pb 47 (prCells p ++ z).toArray) {i : Nat} (hi : i < 16) : ∃ x, w.cell? ⟨pb, 3 + i, none⟩ = some (.int .u32 x) := by
  obtain ⟨x, hx⟩ := reg_some h hi
  refine ⟨x, ?_⟩
  rw [hw.cell, List.getElem?_toArray, List.getElem?_append_left (by rw [prCells_length h]; omega), pr_reg h hi]
  unfold rgCells; rw [List.getElem?_map, hx]; rfl
set_option maxRecDepth 100000 in
set_option maxHeartbeats 4000000 in
theorem call_any (w : World) (a : MA) (m : Mc) (p : Pr) (hG : Good m p) (hst : p.state = 1) (hA : MAt w w.heap.size a m) (x0 x1 x2 : Int) (hx0 : inU32 x0) (hx1 : inU32 x1) (hx2 : inU32 x2) :
    Calls Tryz.prog 8 #[.agg (mcL a m).toArray, .agg #[.int .u32 x0, .int .u32 x1, .int .u32 x2]] w fun e w' => (∃ a', e = .returned (.agg (mcL a' { m with procs := [(argP p x0 x1 x2 3)] }).toArray) ∧ MAt w' w'.heap.size a' { m with procs := [(argP p x0 x1 x2 3)] } ∧ ∀ B, B ≤ w.heap.size → MB B a → MB B a') ∧ Below w.heap.size w w' := by
  obtain ⟨i0, hi0, hz0, hz1, hz2⟩ := info_proc
  have hml : m.procs.length = 1 := by rw [hG.one]; rfl
  have hs0 := ((Whole.made w 31 (mcL a m).toArray).block (.cells #[.int .u32 x0, .int .u32 x1, .int .u32 x2] 51)).block (.cells #[.int .u64 0, .int .i64 0, .int .i64 0, .int .i64 0, .slice none 0 0, .slice none 0 0, .int .i64 0, S [], .slice none 0 0, .int .i64 0, S [], .bool false, .int .u64 0, .slice none 0 0, .slice none 0 0, .int .i64 0, .slice none 0 0] 31)
  have hs1 := (Whole.made (w.alloc (.cells (mcL a m).toArray 31)) 51 #[.int .u32 x0, .int .u32 x1, .int .u32 x2]).block (.cells #[.int .u64 0, .int .i64 0, .int .i64 0, .int .i64 0, .slice none 0 0, .slice none 0 0, .int .i64 0, S [], .slice none 0 0, .int .i64 0, S [], .bool false, .int .u64 0, .slice none 0 0, .slice none 0 0, .int .i64 0, .slice none 0 0] 31)
  rw [show (w.alloc (.cells (mcL a m).toArray 31)).heap.size = w.heap.size + 1 by simp] at hs1
  have hs2 := Whole.made ((w.alloc (.cells (mcL a m).toArray 31)).alloc (.cells #[.int .u32 x0, .int .u32 x1, .int .u32 x2] 51)) 31 #[.int .u64 0, .int .i64 0, .int .i64 0, .int .i64 0, .slice none 0 0, .slice none 0 0, .int .i64 0, S [], .slice none 0 0, .int .i64 0, S [], .bool false, .int .u64 0, .slice none 0 0, .slice none 0 0, .int .i64 0, .slice none 0 0]
  rw [show ((w.alloc (.cells (mcL a m).toArray 31)).alloc (.cells #[.int .u32 x0, .int .u32 x1, .int .u32 x2] 51)).heap.size = w.heap.size + 1 + 1 by simp] at hs2
  have hb : Below w.heap.size w (((w.alloc (.cells (mcL a m).toArray 31)).alloc (.cells #[.int .u32 x0, .int .u32 x1, .int .u32 x2] 51)).alloc (.cells #[.int .u64 0, .int .i64 0, .int .i64 0, .int .i64 0, .slice none 0 0, .slice none 0 0, .int .i64 0, S [], .slice none 0 0, .int .i64 0, S [], .bool false, .int .u64 0, .slice none 0 0, .slice none 0 0, .int .i64 0, .slice none 0 0] 31)) := (((Below.refl _ _).alloc (by first | exact Nat.le_refl _ | (simp; done) | (simp; omega)) _).alloc (by first | exact Nat.le_refl _ | (simp; done) | (simp; omega)) _).alloc (by first | exact Nat.le_refl _ | (simp; done) | (simp; omega)) _
  go_enter Tryz.func8, Tryz.ntmps8
  go_upto_region 1 with (fail)
  change Code.wp _ _ _ _ (((w.alloc (.cells (mcL a m).toArray 31)).alloc (.cells #[.int .u32 x0, .int .u32 x1, .int .u32 x2] 51)).alloc (.cells #[.int .u64 0, .int .i64 0, .int .i64 0, .int .i64 0, .slice none 0 0, .slice none 0 0, .int .i64 0, S [], .slice none 0 0, .int .i64 0, S [], .bool false, .int .u64 0, .slice none 0 0, .slice none 0 0, .int .i64 0, .slice none 0 0] 31))
  generalize (((w.alloc (.cells (mcL a m).toArray 31)).alloc (.cells #[.int .u32 x0, .int .u32 x1, .int .u32 x2] 51)).alloc (.cells #[.int .u64 0, .int .i64 0, .int .i64 0, .int .i64 0, .slice none 0 0, .slice none 0 0, .int .i64 0, S [], .slice none 0 0, .int .i64 0, S [], .bool false, .int .u64 0, .slice none 0 0, .slice none 0 0, .int .i64 0, .slice none 0 0] 31)) = w1 at *
  generalize hgx : w.heap.size = gx at *
  have HGX := Lib.hid hgx
  have HS0 := Lib.hid hs0
  have HS1 := Lib.hid hs1
  have HS2 := Lib.hid hs2
  have HW := Lib.hid hb
  have hgl : gx + 1 + 1 < w1.heap.size := hs2.lt
  clear hgx hb hs0 hs1 hs2
  have HZ1 : Hid (Whole w1 (gx + 2) 31 zeroML.toArray) := Lib.hid HS2.out
  have LM := Lib.hid HS0.out.reads
  have MI : Hid ((Tryz.prog.info? 31).map (·.size) = some (mcL a m).length) := Lib.hid Tryz.sizeMc
  have HA := Lib.hid hA
  have CC := Lib.hid (rcaller_any w1 a m p hG hst ((hA.below HW.out).wide (by omega)))
  have HOK := Lib.hid hG.ok
  have HONE := Lib.hid hG.one
  have HML := Lib.hid hml
  have HX := Lib.hid (And.intro hx0 (And.intro hx1 hx2))
  clear hA hG hst hml hx0 hx1 hx2 HS2
  go_wp2_with (refine wpList_load_at rfl 31 (.tmp 2) rfl ⟨gx, 0, none⟩ rfl (mcL a m) _ LM.out Tryz.underlying31 rfl MI.out ?_)
  refine CC.out.mono ?_
  rintro e w2 ⟨rfl, hb⟩
  have HM2 := Lib.hid (HS0.out.below hb HS0.out.lt)
  have HA2 := Lib.hid (HS1.out.below hb HS1.out.lt)
  have HZ2 := Lib.hid (HZ1.out.below hb HZ1.out.lt)
  have HV2 := Lib.hid (HW.out.trans (hb.mono (by omega)))
  have hs2 : gx + 2 < w2.heap.size := HZ2.out.lt
  have c5 : (w2.alloc (.cells #[] 47)).cell? ⟨gx, 5, none⟩ = some (.slice a.P m.procs.length a.cP) := (HM2.out.block (.cells #[] 47)).cell 5
  have HAP : Hid (Lies (w2.alloc (.cells #[] 47)) (w2.alloc (.cells #[] 47)).heap.size a.P (prsCells m.procs)) := Lib.hid ((Lies.below (HA.out.below HV2.out).P ((Below.refl gx w2).alloc (by omega) _)).wide (by simp; omega))
  have HO : Hid ((w2.alloc (.cells #[] 47)).ownsRow w2.heap.size 47 96 (.slice (some ⟨w2.heap.size, 0, none⟩) 0 0) 0 []) := Lib.hid (World.ownsRow_lit w2 #[] 0 (Nat.le_refl _) (by unfold maxLen; omega) rfl)
  have hone := prsCells_one m.procs
  have hlen : (prsCells m.procs).length = m.procs.length * 96 := prsCells_length (fun y hy => by rw [HONE.out] at hy; rw [List.mem_singleton.1 hy]; exact HOK.out)
  have H63 : Hid (0 + m.procs.length ≤ maxLen) := Lib.hid (by rw [HML.out]; decide)
  have HBY : Hid ((0 + m.procs.length) * i0.bytes ≤ 140737488355328) := Lib.hid (by rw [HML.out]; omega)
  have HVA : Hid (Below w2.heap.size w2 (w2.alloc (.cells #[] 47))) := Lib.hid ((Below.refl w2.heap.size w2).alloc (Nat.le_refl _) _)
  clear hb CC LM HZ1 HW HS0 HS1
  go_upto_region 5 with (at_builtin; refine wpList_append_src rfl (.tmp 14) (.tmp 16) 25 rfl w2.heap.size 47 i0 _ 96 _ Tryz.underlying25 hi0 hz0 hz1 rfl (by kernel_rfl) (by decide) _ _ _ rfl HO.out (w2.alloc (.cells #[] 47)).heap.size a.P m.procs.length a.cP (prsCells m.procs) rfl hlen HAP.out hone H63.out HBY.out (by simp) ?_; intro v' w3 hown' hgrow; have hown2 : w3.ownsRow w2.heap.size 47 96 v' 1 (prCells p) := (by rw [HML.out, HONE.out] at hown'; simpa [prsCells] using hown'); obtain ⟨pb, cz, z, rfl, hpb, hwp, hcz⟩ := own_proc hown2)
  have HB3 : Hid (Below (gx + 3) w2 w3) := Lib.hid ((HVA.out.mono (by omega)).grown hgrow (by simp; omega) (fun q e => by have := (HO.out.lt q e).1; omega))
  have HP0 : Hid (Whole w3 pb 47 (prCells (argP p x0 x1 x2 0) ++ z).toArray) := Lib.hid hwp
  have HCZ := Lib.hid hcz
  have hA3 : w3.cell? ⟨gx + 1, 0, none⟩ = some (.int .u32 x0) := (HA2.out.below HB3.out (by omega)).cell 0
  have LA := Lib.hid (HA2.out.below HB3.out (by omega)).reads
  clear hown' hown2 hgrow hwp hcz c5 HAP HO hone hlen H63 HBY HVA hi0 hz0 hz1 hz2 hA3
  go_wp2_with (refine wpList_load_at rfl 51 (.tmp 3) rfl ⟨gx + 1, 0, none⟩ rfl [.int .u32 x0, .int .u32 x1, .int .u32 x2] _ LA.out Tryz.underlying51 rfl Tryz.sizeA3 ?_)
  clear LA
  go_loopw [19] (fun i wr => ∃ kk : Nat, kk ≤ 3 ∧ i = .int .i64 (kk : Int) ∧ Hid (Whole wr pb 47 (prCells (argP p x0 x1 x2 kk) ++ z).toArray) ∧ Hid (Below (gx + 3) w2 wr)) (fun i _ => 3 - (intOf i).toNat)
  case atStart => exact ⟨0, by decide, rfl, HP0, HB3⟩
  case round =>
    clear HP0 HB3
    obtain ⟨k, hk, rfl, HP, HV⟩ := hrel
    obtain rfl | rfl | rfl | rfl : k = 0 ∨ k = 1 ∨ k = 2 ∨ k = 3 := by omega
    · have HK := Lib.hid (argP_ok HOK.out HX.out.1 HX.out.2.1 HX.out.2.2 0)
      obtain ⟨rv, cr⟩ := whole_cell HK.out HP.out (i := 1) (by decide)
      have cr : wr.cell? ⟨pb, 4, none⟩ = some (.int .u32 rv) := cr
      have yr := HP.out.free 4
      have HP' : Hid (Whole (wr.setCell ⟨pb, 4, none⟩ (.int .u32 x0)) pb 47 (prCells (argP p x0 x1 x2 1) ++ z).toArray) := Lib.hid (whole_reg HK.out HP.out (i := 1) (by decide) x0)
      have HV' := Lib.hid (HV.out.setCell (p := ⟨pb, 4, none⟩) (by show gx + 2 < pb; omega) (.int .u32 x0))
      clear HP HV
      rw [show ((0 : Nat) : Int) = 0 from rfl]
      have hix : ∀ W, (Instr.index 51 (.agg #[.int .u32 x0, .int .u32 x1, .int .u32 x2]) (.int .i64 0)).run Tryz.prog W = .ok (.int .u32 x0) W := fun W => by kernel_rfl
      go_wp2_with fail
      go_roundw
      case rel =>
        have R : ∃ kk : Nat, kk ≤ 3 ∧ Value.int .i64 1 = .int .i64 (kk : Int) ∧ Hid (Whole (wr.setCell ⟨pb, 4, none⟩ (.int .u32 x0)) pb 47 (prCells (argP p x0 x1 x2 kk) ++ z).toArray) ∧ Hid (Below (gx + 3) w2 (wr.setCell ⟨pb, 4, none⟩ (.int .u32 x0))) := ⟨1, by decide, rfl, HP', HV'⟩
        first | exact R | ((repeat apply Exists.intro); exact ⟨R, rfl⟩)
      case measure => simp [intOf]
    · have HK := Lib.hid (argP_ok HOK.out HX.out.1 HX.out.2.1 HX.out.2.2 1)
      obtain ⟨rv, cr⟩ := whole_cell HK.out HP.out (i := 2) (by decide)
      have cr : wr.cell? ⟨pb, 5, none⟩ = some (.int .u32 rv) := cr
      have yr := HP.out.free 5
      have HP' : Hid (Whole (wr.setCell ⟨pb, 5, none⟩ (.int .u32 x1)) pb 47 (prCells (argP p x0 x1 x2 2) ++ z).toArray) := Lib.hid (whole_reg HK.out HP.out (i := 2) (by decide) x1)
      have HV' := Lib.hid (HV.out.setCell (p := ⟨pb, 5, none⟩) (by show gx + 2 < pb; omega) (.int .u32 x1))
      clear HP HV
      rw [show ((1 : Nat) : Int) = 1 from rfl]
      have hix : ∀ W, (Instr.index 51 (.agg #[.int .u32 x0, .int .u32 x1, .int .u32 x2]) (.int .i64 1)).run Tryz.prog W = .ok (.int .u32 x1) W := fun W => by kernel_rfl
      go_wp2_with fail
      go_roundw
      case rel =>
        have R : ∃ kk : Nat, kk ≤ 3 ∧ Value.int .i64 2 = .int .i64 (kk : Int) ∧ Hid (Whole (wr.setCell ⟨pb, 5, none⟩ (.int .u32 x1)) pb 47 (prCells (argP p x0 x1 x2 kk) ++ z).toArray) ∧ Hid (Below (gx + 3) w2 (wr.setCell ⟨pb, 5, none⟩ (.int .u32 x1))) := ⟨2, by decide, rfl, HP', HV'⟩
        first | exact R | ((repeat apply Exists.intro); exact ⟨R, rfl⟩)
      case measure => simp [intOf]
    · have HK := Lib.hid (argP_ok HOK.out HX.out.1 HX.out.2.1 HX.out.2.2 2)
      obtain ⟨rv, cr⟩ := whole_cell HK.out HP.out (i := 3) (by decide)
      have cr : wr.cell? ⟨pb, 6, none⟩ = some (.int .u32 rv) := cr
      have yr := HP.out.free 6
      have HP' : Hid (Whole (wr.setCell ⟨pb, 6, none⟩ (.int .u32 x2)) pb 47 (prCells (argP p x0 x1 x2 3) ++ z).toArray) := Lib.hid (whole_reg HK.out HP.out (i := 3) (by decide) x2)
      have HV' := Lib.hid (HV.out.setCell (p := ⟨pb, 6, none⟩) (by show gx + 2 < pb; omega) (.int .u32 x2))
      clear HP HV
      rw [show ((2 : Nat) : Int) = 2 from rfl]
      have hix : ∀ W, (Instr.index 51 (.agg #[.int .u32 x0, .int .u32 x1, .int .u32 x2]) (.int .i64 2)).run Tryz.prog W = .ok (.int .u32 x2) W := fun W => by kernel_rfl
      go_wp2_with fail
      go_roundw
      case rel =>
        have R : ∃ kk : Nat, kk ≤ 3 ∧ Value.int .i64 3 = .int .i64 (kk : Int) ∧ Hid (Whole (wr.setCell ⟨pb, 6, none⟩ (.int .u32 x2)) pb 47 (prCells (argP p x0 x1 x2 kk) ++ z).toArray) ∧ Hid (Below (gx + 3) w2 (wr.setCell ⟨pb, 6, none⟩ (.int .u32 x2))) := ⟨3, by decide, rfl, HP', HV'⟩
        first | exact R | ((repeat apply Exists.intro); exact ⟨R, rfl⟩)
      case measure => simp [intOf]
    · rw [show ((3 : Nat) : Int) = 3 from rfl]
      have HM3 := Lib.hid (HM2.out.below HV.out (by omega))
      have HZ3 := Lib.hid (HZ2.out.below HV.out (by omega))
      have HV3 := Lib.hid (HV2.out.trans (HV.out.mono (by omega)))
      have hz3 : gx + 2 < wr.heap.size := HZ3.out.lt
      have HOK3 := Lib.hid (argP_ok HOK.out HX.out.1 HX.out.2.1 HX.out.2.2 3)
      clear HM2 HZ2 HV2 HA2 HV
      have c5 : wr.cell? ⟨gx, 5, none⟩ = some (.slice a.P m.procs.length a.cP) := HM3.out.cell 5
      have y5 := HM3.out.free 5
      have HEQ : Hid ((mcL a m).set 5 (.slice (some ⟨pb, 0, none⟩) 1 cz) = mcL { a with P := some ⟨pb, 0, none⟩, cP := cz } { m with procs := [(argP p x0 x1 x2 3)] }) := Lib.hid rfl
      have HM4 : Hid (Whole (wr.setCell ⟨gx, 5, none⟩ (.slice (some ⟨pb, 0, none⟩) 1 cz)) gx 31 (mcL { a with P := some ⟨pb, 0, none⟩, cP := cz } { m with procs := [(argP p x0 x1 x2 3)] }).toArray) := Lib.hid (by
        have := HM3.out.set 5 (.slice (some ⟨pb, 0, none⟩) 1 cz)
        rwa [List.setIfInBounds_toArray, HEQ.out] at this)
      have HZ4 := Lib.hid (HZ3.out.far (p := ⟨gx, 5, none⟩) (by show gx + 2 ≠ gx; omega) (.slice (some ⟨pb, 0, none⟩) 1 cz))
      have HP4 := Lib.hid (HP.out.far (p := ⟨gx, 5, none⟩) (by show pb ≠ gx; omega) (.slice (some ⟨pb, 0, none⟩) 1 cz))
      have HV4 := Lib.hid (HV3.out.setCell (p := ⟨gx, 5, none⟩) (Nat.le_refl _) (.slice (some ⟨pb, 0, none⟩) 1 cz))
      clear HM3 HZ3 HP HV3 HEQ
      go_upto_region 11 with (fail)
      clear c5 y5
      generalize wr.setCell ⟨gx, 5, none⟩ (.slice (some ⟨pb, 0, none⟩) 1 cz) = w4 at *
      have L4 := Lib.hid HM4.out.reads
      have MI4 : Hid ((Tryz.prog.info? 31).map (·.size) = some (mcL { a with P := some ⟨pb, 0, none⟩, cP := cz } { m with procs := [(argP p x0 x1 x2 3)] }).length) := Lib.hid Tryz.sizeMc
      go_wp2_with (first
        | (refine wpList_load_at rfl 31 (.tmp 2) rfl ⟨gx, 0, none⟩ rfl (mcL { a with P := some ⟨pb, 0, none⟩, cP := cz } { m with procs := [(argP p x0 x1 x2 3)] }) _ L4.out Tryz.underlying31 rfl MI4.out ?_)
        | (refine wpList_store_all rfl 31 (.tmp 4) (.tmp 35) rfl rfl (gx + 2) rfl (mcL { a with P := some ⟨pb, 0, none⟩, cP := cz } { m with procs := [(argP p x0 x1 x2 3)] }) rfl MI4.out zeroML 31 HZ4.out rfl (mcL_one _ _) ?_; intro wz hw hk))
      refine bodyPost_ret (v := .agg (mcL { a with P := some ⟨pb, 0, none⟩, cP := cz } { m with procs := [(argP p x0 x1 x2 3)] }).toArray) (results_cell_row rfl _ _ (gx + 2) 31 _ (0, 0) _ rfl hw.out Tryz.underlying31 rfl (by rw [List.size_toArray]; exact MI4.out)) rfl ?_
      have HVZ := Lib.hid (HV4.out.grown hk.out (by have := HZ4.out.lt; omega) (fun q e => by injection e with e; omega))
      have HPZ := Lib.hid (HP4.out.other hk.out (by intro e; injection e with e; omega))
      have HAZ := Lib.hid (HA.out.below HVZ.out)
      have hsz : gx ≤ wz.heap.size := by have := HVZ.out.size; have := HGX.out; omega
      refine ⟨⟨{ a with P := some ⟨pb, 0, none⟩, cP := cz }, rfl, ⟨HAZ.out.F.wide hsz, fun k v hv => ?_, HAZ.out.Q.wide hsz, HAZ.out.L.wide hsz, HAZ.out.N.wide hsz, HAZ.out.D.wide hsz, HAZ.out.caps.1, HCZ.out, HAZ.out.caps.2.2⟩, fun B hB hm => ⟨hm.1, fun ad e => by injection e with e; subst e; show B ≤ pb; have := HGX.out; omega, hm.2.2⟩⟩, by rw [HGX.out]; exact HVZ.out⟩
      have hv' : (prCells (argP p x0 x1 x2 3))[k]? = some v := by simpa [prsCells] using hv
      exact ⟨_, rfl, HPZ.out.lt, HPZ.out.reads k v (by rw [List.getElem?_append_left (List.getElem?_eq_some_iff.1 hv').1]; exact hv')⟩
end Go.Proofs.YtdhfblfnejmeiaaGreatDoor
