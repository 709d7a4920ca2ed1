import Derived.Test.YtdkhnjjihbmlmaaGreatDoorYrA
namespace Go.Proofs.YtdkhnjjihbmlmaaGreatDoor
open Go.RowKit
theorem pr_cells' {w : World} {g : Nat} {t : TypeId} {p : Pr} (hp : PrOk p) (h : Whole w g t (prCells p).toArray) :
  w.cell? ⟨g,0,none⟩ = some (.int .i64 p.pid) ∧ w.cell? ⟨g,1,none⟩ = some (.int .i64 p.parent) ∧ w.cell? ⟨g,2,none⟩ = some (.int .i64 p.state) ∧ w.cell? ⟨g,3,none⟩ = some (.int .u32 (p.regs.getD 0 0)) ∧ w.cell? ⟨g,93,none⟩ = some (.int .u32 p.code) ∧ w.cell? ⟨g,94,none⟩ = some (.int .i64 p.why) ∧ w.cell? ⟨g,95,none⟩ = some (.int .u64 p.n):=by
 have hr0 : (prCells p)[3]? = some (.int .u32 (p.regs.getD 0 0)):=by
  rw [show 3 = 3 + 0 from rfl,pr_reg hp (by omega)];have:=hp.regs;cases h : p.regs with
  | nil => rw [h] at this;simp at this
  | cons x l => rfl
 obtain ⟨h2,h3,h93,h94,h95⟩:=hb2_cells h hr0 (pr_last hp 1) (pr_last hp 2) (pr_last hp 3);exact ⟨h.cell 0,h.cell 1,h2,h3,h93,h94,h95⟩
set_option maxRecDepth 100000 in
set_option maxHeartbeats 4000000 in
theorem rprocess_any (w : World) (a : MA) (m : Mc) (hm : McOk m) (hA : MAt w w.heap.size a m) (x : Pr) (hx : PrOk x) :
  Calls Tryz.prog 21 #[.agg (mcL a m).toArray,.agg (prCells x).toArray] w fun e w' => e = .returned (.bool (rprocB m x)) ∧ Below w.heap.size w w':=by
 have hsz:=pr_size hx;have hs0:=(Whole.made w 30 (mcL a m).toArray).block (.cells (prCells x).toArray 48);have hs1:=Whole.made (w.alloc (.cells (mcL a m).toArray 30)) 48 (prCells x).toArray;rw [show (w.alloc (.cells (mcL a m).toArray 30)).heap.size = w.heap.size + 1 by simp] at hs1;have hb : Below w.heap.size w ((w.alloc (.cells (mcL a m).toArray 30)).alloc (.cells (prCells x).toArray 48)):=((Below.refl _ _).alloc (by first | exact Nat.le_refl _ | simp | (simp;omega)) _).alloc (by first | exact Nat.le_refl _ | simp | (simp;omega)) _;go_enter Tryz.func21,Tryz.ntmps21;go_upto_region 1 with (fail);change Code.wp _ _ _ _ ((w.alloc (.cells (mcL a m).toArray 30)).alloc (.cells (prCells x).toArray 48));generalize ((w.alloc (.cells (mcL a m).toArray 30)).alloc (.cells (prCells x).toArray 48)) = w1 at *;generalize hgx : w.heap.size = gx at *;have HGX:=jj hgx;have HS0:=jj hs0;have HS1:=jj hs1;have HW:=jj hb;have hgl : gx + 1 < w1.heap.size:=hs1.lt;clear hgx hb hs0 hs1;have HA:=jj (hA.below HW.out);have HM:=jj hm;have HXO:=jj hx;have HMA : Hid (∀ W,Below w1.heap.size w1 W → MAt W W.heap.size a m):=jj fun W hW => (HA.out.below (hW.mono (by omega))).wide (by have:=hW.size;omega);have HC : Hid (∀ W,Below w1.heap.size w1 W → Whole W gx 30 (mcL a m).toArray):=jj fun W hW => HS0.out.below hW (by omega);have HP : Hid (∀ W,Below w1.heap.size w1 W → Whole W (gx + 1) 48 (prCells x).toArray):=jj fun W hW => HS1.out.below hW (by omega);have HLM : Hid (∀ W,Below w1.heap.size w1 W → ∀ j v,(mcL a m)[j]? = some v → W.cell? ((⟨gx,0,none⟩ : Addr).add j) = some v):=jj fun W hW => (HC.out W hW).reads;have MI : Hid ((Tryz.prog.info? 30).map (·.size) = some (mcL a m).length):=jj (by rw [mcL_length];exact Tryz.sizeMc);have SSP : Hid ((Tryz.prog.info? 43).map (·.size) = some (pgCells x.space).length):=jj (by rw [pgCells_length,hx.space];exact Tryz.sizeSpace);have SFS : Hid ((Tryz.prog.info? 46).map (·.size) = some (flCells x.fds).length):=jj (by rw [flCells_length,hx.fds];exact Tryz.sizeFds);have hsf:=hm.sizes.1;have HB0 : Hid (Below w1.heap.size w1 w1):=jj (Below.refl _ _);have H1D : Hid (rh1 m x = (decide (1 ≤ x.pid) && decide (x.pid < m.next) && (x.state == 1 || x.state == 2 || x.state == 3) && x.regs.getD 0 0 == 0)):=jj rfl;have H2D : Hid (rh2 m x = (livesAt m x.parent || (!(x.state == 3) && x.parent == 0))):=jj rfl
 have H3D : Hid (rh3 x = ((if (x.state == 2) = true then !(x.why == 0) else x.why == 0) && decide (0 ≤ x.why) && decide (x.why ≤ 5) && (x.state == 2 || x.n == 0) && (x.state == 3 || x.code == 0))):=jj (by unfold rh3;by_cases h : x.state = 2 <;> simp [h] <;> rfl);have HPD : Hid (∀ g,rpageB m x g = if g.is = true then !(x.state == 3) && decide (0 ≤ g.frame) && decide (g.frame < (m.frames.length : Int)) && usersL m.procs g.frame == 1 else !g.wr && g.frame == 0):=jj fun _ => rfl;have HFD : Hid (∀ f,rfB m x f = (rfdB m f && (!(x.state == 3) || f.kind == 0))):=jj fun _ => rfl;have HPC : Hid (∀ W,Below w1.heap.size w1 W → _):=jj fun W hW => pr_cells' HXO.out (HP.out W hW);have c6 : w1.cell? ⟨gx,6,none⟩ = some (.int .i64 m.next):=HS0.out.cell 6;obtain ⟨c0,c1,c2,c3,c93,c94,c95⟩:=HPC.out w1 (Below.refl _ _);have HLI:=jj (rlives_any w1 a m HM.out (HMA.out w1 (Below.refl _ _)) x.parent);have LM1:=jj (HLM.out w1 (Below.refl _ _));clear hm hA hx hsz;generalize x.state = st at *;generalize x.regs.getD 0 0 = r0 at *;go_upto_region 3 with (fail);generalize hdd : (st == 3) = dead at *;generalize hww : (st == 2) = waits at *;have HDD:=jj hdd;have HWW:=jj hww;clear hdd hww
 go_cut [47] (fun v wc => v = .bool (!rh1 m x) ∧ wc = w1)
 case first =>
  as_aux_lemma =>
  clear LM1 HLI c93 c94 c95 c1;cases dead <;> cases waits
  all_goals
   go_wp2_with fail
   all_goals
    go_meet
    case rel =>
     refine ⟨congrArg Value.bool ?_,rfl⟩;rw [H1D.out,Bool.eq_iff_iff];simp [*]
     try omega
 case rest =>
 as_aux_lemma =>
 obtain ⟨rfl,hwc⟩:=hcut;obtain rfl:=hwc.symm;cases hh1 : rh1 m x with
 | false => have H1:=jj (rproc_1 (m:=m) (p:=x) hh1);clear hh1;go_wp2_with fail;go_ret;exact ⟨ret_bool H1.out,by rw [HGX.out];exact HW.out.trans (HB0.out.mono (by omega))⟩
 | true =>
 have HH1:=jj hh1;clear hh1 H1D c0 c2 c3 c6 c1 c93 c94 c95;go_upto_region 5 with (fail)
 go_cut [60] (fun v wo => v = .bool (!rh2 m x) ∧ Hid (Below w1.heap.size w1 wo))
 case first =>
  as_aux_lemma =>
  have c1:=(HPC.out w1 (Below.refl _ _)).2.1;go_wp2_with (refine wpList_load_at rfl 30 (.tmp 2) rfl ⟨gx,0,none⟩ rfl (mcL a m) _ LM1.out Tryz.underlying30 rfl MI.out ?_);refine HLI.out.mono ?_;rintro e w2 ⟨rfl,hb2⟩;have HV2:=jj hb2;clear c1 LM1 HLI;have c1:=(HPC.out w2 hb2).2.1;clear hb2;generalize livesAt m x.parent = lv at *;cases dead <;> cases lv
  all_goals
   go_wp2_with fail
   all_goals
    go_meet
    case rel => refine ⟨congrArg Value.bool ?_,HV2⟩;rw [H2D.out,Bool.eq_iff_iff];simp [*]
 case rest =>
 as_aux_lemma =>
 obtain ⟨rfl,HV2⟩:=hcut;obtain ⟨w2,hw2⟩ : ∃ z : World,z = wc:=⟨_,rfl⟩;subst hw2;clear HLI LM1;cases hh2 : rh2 m x with
 | false => have H2:=jj (rproc_2 (m:=m) (p:=x) hh2);clear hh2;go_wp2_with fail;go_ret;exact ⟨ret_bool H2.out,by rw [HGX.out];exact HW.out.trans (HV2.out.mono (by omega))⟩
 | true =>
 have HH2:=jj hh2;clear hh2 H2D;go_upto_region 7 with (fail);obtain ⟨_,_,_,_,c93,c94,c95⟩:=HPC.out _ HV2.out
 go_cut [93] (fun v wo => v = .bool (!rh3 x) ∧ wo = w2)
 case first =>
  as_aux_lemma =>
  generalize x.why = wy at *;cases dead <;> cases waits
  all_goals
   go_wp2_with fail
   all_goals
    go_meet
    case rel =>
     refine ⟨congrArg Value.bool ?_,rfl⟩;rw [H3D.out,Bool.eq_iff_iff];simp [*]
     try omega
 case rest =>
 as_aux_lemma =>
 obtain ⟨rfl,hwc⟩:=hcut;obtain rfl:=hwc.symm;cases hh3 : rh3 x with
 | false => have H3:=jj (rproc_3 (m:=m) (p:=x) hh3);clear hh3;go_wp2_with fail;go_ret;exact ⟨ret_bool H3.out,by rw [HGX.out];exact HW.out.trans (HV2.out.mono (by omega))⟩
 | true =>
 have HH3:=jj hh3;clear hh3 H3D c93 c94 c95;have LSP:=jj (pr_space_cells HXO.out (HP.out w2 HV2.out));go_wp2_with (refine wpList_load_at rfl 43 (.tmp 94) rfl ⟨gx + 1,20,none⟩ rfl (pgCells x.space) _ LSP.out Tryz.underlying43 rfl SSP.out ?_);clear LSP
 go_loopw [96] (fun i wr => ∃ (j : Nat),j ≤ 16 ∧ i = .int .i64 (j : Int) ∧ Hid ((x.space.take j).all (rpageB m x) = true) ∧ Hid (Below w1.heap.size w1 wr)) (fun i _ => 16 - (intOf i).toNat)
 case atStart => exact ⟨0,by omega,rfl,jj rfl,HV2⟩
 case round =>
  clear HV2;obtain ⟨j,hj,rfl,HAL,HV⟩:=hrel;have hgs:=HV.out.size;by_cases hlj : j < 16
  ·obtain ⟨g,hg⟩:=get_some (l:=x.space) (k:=j) (by rw [HXO.out.space];exact hlj);have HALL:=jj (@all_on _ (rpageB m x) x.space j g hg HAL.out);have HBADP:=jj (fun h => rproc_4 (m:=m) (p:=x) (@all_bad _ (rpageB m x) x.space j g hg h));have HFR:=jj (flat_row pgCells1 3 x.space (fun _ _ => rfl) hg);have hl1 : decide ((j : Int) < 16) = true:=decide_eq_true (by omega);have hl2 : decide (j < 16) = true:=decide_eq_true hlj;have HVn:=jj (HV.out.alloc hgs (.cells (pgCells1 g).toArray 41));have HYn:=jj (Whole.made wr 41 (pgCells1 g).toArray);have HPG:=jj (HPD.out g);clear hg
   go_upto_region 12 with (first
    | (refine wpList_index_structs rfl 43 (.tmp 95) (.tmp 96) rfl 41 _ 16 3 (pgCells x.space) .i64 j rfl rfl Tryz.underlying43 Tryz.underlying41 Tryz.sizePg hlj (pgCells1 g) HFR.out ?_)
    | (refine wpList_fresh rfl rfl 41 8 (.tmp 98) rfl rfl rfl rfl (pgCells1 g) rfl rfl _ Tryz.infoPg rfl (pg_one g) ?_))
   change Code.wp _ _ _ _ (wr.alloc (.cells (pgCells1 g).toArray 41));clear HV HFR hl1 hl2;generalize wr.alloc (.cells (pgCells1 g).toArray 41) = w5 at *;generalize wr.heap.size = g3 at *;obtain ⟨gi,gw,gf⟩:=g;have y0 : w5.cell? ⟨g3,0,none⟩ = some (.bool gi):=HYn.out.cell 0;have y1 : w5.cell? ⟨g3,1,none⟩ = some (.bool gw):=HYn.out.cell 1;have y2 : w5.cell? ⟨g3,2,none⟩ = some (.int .i64 gf):=HYn.out.cell 2;have hyl:=HYn.out.lt;cases gi with
   | false =>
    have HPG' : Hid (rpageB m x ⟨false,gw,gf⟩ = (!gw && gf == 0)):=HPG;clear HPG;cases gw with
    | true => have HB:=jj (HBADP.out (by rw [HPG'.out];rfl));go_wp2_with fail;go_ret;exact ⟨ret_bool HB.out,by rw [HGX.out];exact HW.out.trans (HVn.out.mono (by omega))⟩
    | false =>
     by_cases hz : gf = 0
     ·subst hz;have HQ:=jj (HALL.out (by rw [HPG'.out];rfl));go_wp2_with fail
      go_roundw
      case rel =>
       have R : ∃ (j' : Nat),j' ≤ 16 ∧ Value.int .i64 ((j : Int) + 1) = .int .i64 (j' : Int) ∧ Hid ((x.space.take j').all (rpageB m x) = true) ∧ Hid (Below w1.heap.size w1 w5):=⟨j + 1,by omega,by go_num,HQ,HVn⟩
       first | exact R | ((repeat apply Exists.intro);exact ⟨R,rfl⟩)
      case measure => simp [intOf];omega
     ·have hz' : (gf == 0) = false:=beq_eq_false_iff_ne.2 hz;have HB:=jj (HBADP.out (by rw [HPG'.out,hz'];rfl));go_wp2_with fail;go_ret;exact ⟨ret_bool HB.out,by rw [HGX.out];exact HW.out.trans (HVn.out.mono (by omega))⟩
   | true =>
    have HPG' : Hid (rpageB m x ⟨true,gw,gf⟩ = (!dead && decide (0 ≤ gf) && decide (gf < (m.frames.length : Int)) && usersL m.procs gf == 1)):=HPG;clear HPG;have m4 : w5.cell? ⟨gx,4,none⟩ = some (.slice a.F m.frames.length a.cF):=(HC.out w5 HVn.out).cell 4;have LM5:=jj (HLM.out w5 HVn.out);have CU:=jj (users_any w5 a m HM.out (HMA.out w5 HVn.out) gf);cases dead with
    | true => have HB:=jj (HBADP.out (by rw [HPG'.out];rfl));clear CU LM5;go_wp2_with fail;go_ret;exact ⟨ret_bool HB.out,by rw [HGX.out];exact HW.out.trans (HVn.out.mono (by omega))⟩
    | false =>
    by_cases hf0 : gf < 0
    ·have HB:=jj (HBADP.out (by rw [HPG'.out,decide_eq_false (show ¬ 0 ≤ gf by omega)];rfl));have f1 : decide (gf < 0) = true:=decide_eq_true hf0;clear hf0 CU LM5;go_wp2_with fail;go_ret;exact ⟨ret_bool HB.out,by rw [HGX.out];exact HW.out.trans (HVn.out.mono (by omega))⟩
    have f1 : decide (gf < 0) = false:=decide_eq_false hf0;by_cases hf2 : (m.frames.length : Int) ≤ gf
    ·have HB:=jj (HBADP.out (by rw [HPG'.out,decide_eq_false (show ¬ gf < (m.frames.length : Int) by omega)];simp));have f2 : decide ((m.frames.length : Int) ≤ gf) = true:=decide_eq_true hf2;clear hf0 hf2 CU LM5;go_wp2_with fail;go_ret;exact ⟨ret_bool HB.out,by rw [HGX.out];exact HW.out.trans (HVn.out.mono (by omega))⟩
    have f2 : decide ((m.frames.length : Int) ≤ gf) = false:=decide_eq_false hf2;have HPU : Hid (rpageB m x ⟨true,gw,gf⟩ = (usersL m.procs gf == 1)):=jj (by rw [HPG'.out,decide_eq_true (show 0 ≤ gf by omega),decide_eq_true (show gf < (m.frames.length : Int) by omega)];rfl);clear hf0 hf2;generalize usersL m.procs gf = un at *;go_wp2_with (refine wpList_load_g rfl 30 (.tmp 2) rfl ⟨gx,0,none⟩ rfl (mcL a m) _ LM5.out Tryz.underlying30 rfl MI.out ?_);refine CU.out.mono ?_;rintro e w6 ⟨rfl,hb6⟩;have HV6:=jj (HVn.out.trans (hb6.mono HVn.out.size));clear hb6 CU LM5 y0 y1 y2 m4;by_cases hu : un = 1
    ·subst hu;have HQ:=jj (HALL.out (by rw [HPU.out];rfl));go_wp2_with fail
     go_roundw
     case rel =>
      have R : ∃ (j' : Nat),j' ≤ 16 ∧ Value.int .i64 ((j : Int) + 1) = .int .i64 (j' : Int) ∧ Hid ((x.space.take j').all (rpageB m x) = true) ∧ Hid (Below w1.heap.size w1 w6):=⟨j + 1,by omega,by go_num,HQ,HV6⟩
      first | exact R | ((repeat apply Exists.intro);exact ⟨R,rfl⟩)
     case measure => simp [intOf];omega
    ·have hu1 : ((un : Int) == 1) = false:=(by simp;omega);have hu2 : (un == 1) = false:=beq_eq_false_iff_ne.2 hu;have HB:=jj (HBADP.out (by rw [HPU.out,hu2]));go_wp2_with fail;go_ret;exact ⟨ret_bool HB.out,by rw [HGX.out];exact HW.out.trans (HV6.out.mono (by omega))⟩
  ·obtain rfl : j = 16:=(by omega);have HH4 : Hid (x.space.all (rpageB m x) = true):=jj (by have:=HAL.out;rwa [List.take_of_length_le (by rw [HXO.out.space];omega)] at this);clear HAL;have LFS:=jj (pr_fds_cells HXO.out (HP.out wr HV.out));rw [show ((16 : Nat) : Int) = 16 from rfl];go_wp2_with (refine wpList_load_at rfl 46 (.tmp 137) rfl ⟨gx + 1,68,none⟩ rfl (flCells x.fds) _ LFS.out Tryz.underlying46 rfl SFS.out ?_);clear LFS hlj hj hgs;obtain ⟨wo,hwo⟩ : ∃ wo : World,wo = wr:=⟨_,rfl⟩;subst hwo
   go_loopw [139] (fun i wr => ∃ (j : Nat),j ≤ 8 ∧ i = .int .i64 (j : Int) ∧ Hid ((x.fds.take j).all (rfB m x) = true) ∧ Hid (Below w1.heap.size w1 wr)) (fun i _ => 8 - (intOf i).toNat)
   case atStart => exact ⟨0,by omega,rfl,jj rfl,HV⟩
   case round =>
    clear HV;obtain ⟨j,hj,rfl,HAL,HV⟩:=hrel;have hgs:=HV.out.size;by_cases hlj : j < 8
    ·obtain ⟨f,hf⟩:=get_some (l:=x.fds) (k:=j) (by rw [HXO.out.fds];exact hlj);have HALL:=jj (@all_on _ (rfB m x) x.fds j f hf HAL.out);have HBADP:=jj (fun h => rproc_5 (m:=m) (p:=x) (@all_bad _ (rfB m x) x.fds j f hf h));have HFR:=jj (flat_row flCells1 3 x.fds (fun _ _ => rfl) hf);have hl1 : decide ((j : Int) < 8) = true:=decide_eq_true (by omega);have hl2 : decide (j < 8) = true:=decide_eq_true hlj;have HVn:=jj (HV.out.alloc hgs (.cells (flCells1 f).toArray 45));have HYn:=jj (Whole.made wr 45 (flCells1 f).toArray);have HFF:=jj (HFD.out f);clear hf
     go_upto_region 19 with (first
      | (refine wpList_index_structs rfl 46 (.tmp 138) (.tmp 139) rfl 45 _ 8 3 (flCells x.fds) .i64 j rfl rfl Tryz.underlying46 Tryz.underlying45 Tryz.sizeFl hlj (flCells1 f) HFR.out ?_)
      | (refine wpList_fresh rfl rfl 45 11 (.tmp 141) rfl rfl rfl rfl (flCells1 f) rfl rfl _ Tryz.infoFl rfl (fl_one f) ?_))
     change Code.wp _ _ _ _ (wr.alloc (.cells (flCells1 f).toArray 45));clear HV HFR hl1 hl2;generalize wr.alloc (.cells (flCells1 f).toArray 45) = w5 at *;generalize wr.heap.size = g3 at *;have hyl:=HYn.out.lt;have LM5:=jj (HLM.out w5 HVn.out);have LF5 : Hid (∀ j v,(flCells1 f)[j]? = some v → w5.cell? ((⟨g3,0,none⟩ : Addr).add j) = some v):=jj HYn.out.reads;have CF:=jj (rfd_any w5 a m HM.out (HMA.out w5 HVn.out) f);generalize rfdB m f = rb at *
     go_wp2_with (first
      | (refine wpList_load_at rfl 30 (.tmp 2) rfl ⟨gx,0,none⟩ rfl (mcL a m) _ LM5.out Tryz.underlying30 rfl MI.out ?_)
      | (refine wpList_load_at rfl 45 (.tmp 11) rfl ⟨g3,0,none⟩ rfl (flCells1 f) _ LF5.out Tryz.underlying45 rfl Tryz.sizeFl ?_))
     refine CF.out.mono ?_;rintro e w6 ⟨rfl,hb6⟩;have HV6:=jj (HVn.out.trans (hb6.mono HVn.out.size));have z0 : w6.cell? ⟨g3,0,none⟩ = some (.int .i64 f.kind):=(HYn.out.below hb6 hyl).cell 0;clear hb6 CF LM5 LF5;cases rb with
     | false => have HB:=jj (HBADP.out (by rw [HFF.out];rfl));go_wp2_with fail;go_ret;exact ⟨ret_bool HB.out,by rw [HGX.out];exact HW.out.trans (HV6.out.mono (by omega))⟩
     | true =>
      cases dead with
      | false =>
       have HQ:=jj (HALL.out (by rw [HFF.out];rfl));go_wp2_with fail
       go_roundw
       case rel =>
        have R : ∃ (j' : Nat),j' ≤ 8 ∧ Value.int .i64 ((j : Int) + 1) = .int .i64 (j' : Int) ∧ Hid ((x.fds.take j').all (rfB m x) = true) ∧ Hid (Below w1.heap.size w1 w6):=⟨j + 1,by omega,by go_num,HQ,HV6⟩
        first | exact R | ((repeat apply Exists.intro);exact ⟨R,rfl⟩)
       case measure => simp [intOf];omega
      | true =>
       by_cases hk : f.kind = 0
       ·have HQ:=jj (HALL.out (by rw [HFF.out,hk];rfl));rw [hk] at z0;clear hk;go_wp2_with fail
        go_roundw
        case rel =>
         have R : ∃ (j' : Nat),j' ≤ 8 ∧ Value.int .i64 ((j : Int) + 1) = .int .i64 (j' : Int) ∧ Hid ((x.fds.take j').all (rfB m x) = true) ∧ Hid (Below w1.heap.size w1 w6):=⟨j + 1,by omega,by go_num,HQ,HV6⟩
         first | exact R | ((repeat apply Exists.intro);exact ⟨R,rfl⟩)
        case measure => simp [intOf];omega
       ·have hk1 : (f.kind == 0) = false:=beq_eq_false_iff_ne.2 hk;have HB:=jj (HBADP.out (by rw [HFF.out,hk1];rfl));clear hk;go_wp2_with fail;go_ret;exact ⟨ret_bool HB.out,by rw [HGX.out];exact HW.out.trans (HV6.out.mono (by omega))⟩
    ·obtain rfl : j = 8:=(by omega);have HH5 : Hid (x.fds.all (rfB m x) = true):=jj (by have:=HAL.out;rwa [List.take_of_length_le (by rw [HXO.out.fds];omega)] at this);have HOK:=jj (rproc_ok (m:=m) (p:=x) HH1.out HH2.out HH3.out HH4.out HH5.out);rw [show ((8 : Nat) : Int) = 8 from rfl];go_wp2_with fail;go_ret;exact ⟨ret_bool HOK.out,by rw [HGX.out];exact HW.out.trans (HV.out.mono (by omega))⟩
end Go.Proofs.YtdkhnjjihbmlmaaGreatDoor
