import Derived.Test.YtdkhnjjihbmlmaaGreatDoorSyF
import Derived.Test.YtdkhnjjihbmlmaaGreatDoorYrV
import Derived.Test.YtdkhnjjihbmlmaaGreatDoorSureA
namespace Go.Proofs.YtdkhnjjihbmlmaaGreatDoor
open Go.RowKit
set_option maxRecDepth 100000 in
set_option maxHeartbeats 1000000 in
theorem rcaller_any (w : World) (a : MA) (m : Mc) (hm : McOk m) (hA : MAt w w.heap.size a m) :
  Calls Tryz.prog 6 #[.agg (mcL a m).toArray] w fun e w' => e = .returned (.int .i64 (callI m)) ∧ Below w.heap.size w w':=by
 obtain ⟨AP,hAP⟩ : ∃ x,a.P = x:=⟨_,rfl⟩;have hs0:=Whole.made w 30 (mcL a m).toArray;have hb : Below w.heap.size w (w.alloc (.cells (mcL a m).toArray 30)):=(Below.refl _ _).alloc (Nat.le_refl _) _;go_enter Tryz.func6,Tryz.ntmps6;go_upto_region 1 with (fail);change Code.wp _ _ _ _ (w.alloc (.cells (mcL a m).toArray 30));generalize (w.alloc (.cells (mcL a m).toArray 30)) = w1 at *;generalize hgx : w.heap.size = gx at *;have HGX:=jj hgx;have HS0:=jj hs0;have HW:=jj hb;have hgl : gx < w1.heap.size:=hs0.lt;clear hgx hb hs0;have c5 : w1.cell? ⟨gx,5,none⟩ = some (.slice AP m.procs.length a.cP):=(by rw [← hAP];exact HS0.out.cell 5);have HA : Hid (∀ W,Below w1.heap.size w1 W → Lies W W.heap.size AP (prsCells m.procs)):=jj fun W hW => (by rw [← hAP];exact (Lies.below (Lies.below hA.P HW.out) (hW.mono (by omega))).wide (by have:=hW.size;omega));have HC2 : Hid (∀ W,Below w1.heap.size w1 W → W.cell? ⟨gx,2,none⟩ = some (.int .i64 m.cur)):=jj fun W hW => (HS0.out.below hW HS0.out.lt).cell 2;have HM:=jj hm;have hsz:=hm.sizes.2.1;clear hA hm hAP;go_wp2_with fail;clear c5
 go_loopw [8] (fun i wr => ∃ k : Nat,k ≤ m.procs.length ∧ i = .int .i64 (k : Int) ∧ Hid (callI m = idxI (fun p : Pr => p.pid == m.cur && p.state == 1) (m.procs.drop k) k) ∧ Hid (Below w1.heap.size w1 wr)) (fun i _ => m.procs.length - (intOf i).toNat)
 case atStart => exact ⟨0,by omega,rfl,jj rfl,jj (Below.refl _ _)⟩
 case round =>
  obtain ⟨k,hk,rfl,HI,HB⟩:=hrel;have hzv:=HB.out.size;by_cases hlt : k < m.procs.length
  ·obtain ⟨p,hx⟩:=get_some hlt;have HD:=jj (drop_cons hx);obtain ⟨ad,hadr,had,hc⟩:=Lies.row (f:=prCells) (n:=96) (HA.out wr HB.out) (fun y hy => prCells_length (HM.out.procs y hy)) (by omega) hx;subst hadr;have hpo:=HM.out.procs p (List.mem_of_getElem? hx);have hxl:=prCells_length hpo;have LD : Hid (∀ j v,(prCells p)[j]? = some v → wr.cell? ((ad.add (k * 96)).add j) = some v):=jj hc;have PIX : Hid ((Tryz.prog.info? 48).map (·.size) = some (prCells p).length):=jj (by rw [hxl];exact Tryz.sizePr);have HLL : Hid ((prCells p).length = (prCells zeroPr).length):=jj (by rw [hxl];rfl);have HZZ : Hid (Whole (wr.alloc (.cells (prCells zeroPr).toArray 48)) wr.heap.size 48 (prCells zeroPr).toArray):=jj (Whole.made wr 48 (prCells zeroPr).toArray);have HV1 : Hid (Below w1.heap.size w1 (wr.alloc (.cells (prCells zeroPr).toArray 48))):=jj (HB.out.alloc hzv _);have i0 : (0 : Int) ≤ (k : Int):=(by omega);have i1 : (k : Int) < (m.procs.length : Int):=(by omega);clear hc hx hxl hpo had
   go_upto_region 4 with (first
    | (refine wpList_load_at rfl 48 (.tmp 11) rfl (ad.add (k * 96)) rfl (prCells p) _ LD.out Tryz.underlying48 rfl PIX.out ?_)
    | (refine wpList_alloc_z rfl 48 rfl (prCells zeroPr).toArray 96 Tryz.infoPr ?_)
    | (refine wpList_store_all rfl 48 (.tmp 4) (.tmp 12) rfl rfl wr.heap.size rfl (prCells p) rfl PIX.out (prCells zeroPr) 48 HZZ.out HLL.out prCells_one ?_;intro w2 hw hk2))
   have c0 : w2.cell? ⟨wr.heap.size,0,none⟩ = some (.int .i64 p.pid):=hw.out.cell 0;have c2 : w2.cell? ⟨wr.heap.size,2,none⟩ = some (.int .i64 p.state):=hw.out.cell 2;have HB2:=jj (HV1.out.grown hk2.out (by simp;omega) (fun q e => by injection e with e;omega));have cc:=HC2.out w2 HB2.out;clear hw hk2 HV1 HZZ LD PIX HLL HB;by_cases e1 : p.pid = m.cur
   ·by_cases e2 : p.state = 1
    ·have HE : Hid (callI m = (k : Int)):=jj (by rw [HI.out,HD.out,idxI,if_pos (by simp [e1,e2])]);have b1 : (p.pid == m.cur) = true:=(by simp [e1]);have b2 : (p.state == 1) = true:=(by simp [e2]);clear e1 e2;go_wp2_with fail;go_ret;exact ⟨by rw [HE.out];rfl,by rw [HGX.out];exact HW.out.trans (HB2.out.mono (by omega))⟩
    ·have HE : Hid (callI m = idxI (fun p : Pr => p.pid == m.cur && p.state == 1) (m.procs.drop (k + 1)) (k + 1)):=jj (by rw [HI.out,HD.out,idxI,if_neg (by simp [e2])]);have b1 : (p.pid == m.cur) = true:=(by simp [e1]);have b2 : (p.state == 1) = false:=(by simp [e2]);clear e1 e2;go_wp2_with fail;exact ⟨⟨k + 1,by omega,by go_num,HE,HB2⟩,by simp [intOf];omega⟩
   ·have HE : Hid (callI m = idxI (fun p : Pr => p.pid == m.cur && p.state == 1) (m.procs.drop (k + 1)) (k + 1)):=jj (by rw [HI.out,HD.out,idxI,if_neg (by simp [e1])]);have b1 : (p.pid == m.cur) = false:=(by simp [e1]);clear e1;go_wp2_with fail;exact ⟨⟨k + 1,by omega,by go_num,HE,HB2⟩,by simp [intOf];omega⟩
  ·obtain rfl : k = m.procs.length:=(by omega);have hd : decide (m.procs.length < m.procs.length) = false:=(by simp);have HE : Hid (callI m = -1):=jj (by rw [HI.out,drop_end];rfl);go_wp2_with fail;go_ret;exact ⟨by rw [HE.out];rfl,by rw [HGX.out];exact HW.out.trans (HB.out.mono (by omega))⟩
set_option maxRecDepth 100000 in
set_option maxHeartbeats 1000000 in
theorem rsame_eq (w : World) (A B : Option Addr) (c d : Nat) (ls : List (List UInt8)) (hA : Strs w w.heap.size A ls) (hB : Strs w w.heap.size B ls) (hl : ls.length ≤ 1099511627776) :
  Calls Tryz.prog 8 #[.slice A ls.length c,.slice B ls.length d] w fun e w' => e = .returned (.bool true) ∧ Below w.heap.size w w':=by
 have HA:=jj hA;have HB:=jj hB;have e0 : ((ls.length : Int) != (ls.length : Int)) = false:=(by simp);have e0' : (ls.length != ls.length) = false:=(by simp);clear hA hB;go_enter Tryz.func8,Tryz.ntmps8;go_wp2_with fail;clear e0 e0'
 go_loopw [13] (fun i wr => ∃ k : Nat,k ≤ ls.length ∧ i = .int .i64 (k : Int) ∧ Hid (Below w.heap.size w wr)) (fun i _ => ls.length - (intOf i).toNat)
 case atStart => exact ⟨0,by omega,rfl,jj (Below.refl _ _)⟩
 case round =>
  obtain ⟨k,hk,rfl,HV⟩:=hrel;by_cases hlt : k < ls.length
  ·obtain ⟨x,hx⟩:=get_some hlt;have hS : (ls.map S)[k]? = some (S x):=(by rw [List.getElem?_map,hx];rfl);obtain ⟨ad,hadr,had,hca⟩:=HA.out k (S x) hS;obtain ⟨bd,hbdr,hbd,hcb⟩:=HB.out k (S x) hS;subst hadr;subst hbdr;have i0 : (0 : Int) ≤ (k : Int):=(by omega);have i1 : (k : Int) < (ls.length : Int):=(by omega);have KA : Hid (∀ W,Below w.heap.size w W → W.cell? (ad.add k) = some (S x)):=jj fun W hW => (hW.cell (by rw [add_block];exact had)).trans hca;have KB : Hid (∀ W,Below w.heap.size w W → W.cell? (bd.add k) = some (S x)):=jj fun W hW => (hW.cell (by rw [add_block];exact hbd)).trans hcb;clear hca hcb had hbd hx hS;go_upto_region 6 with (fail);refine' wp_region_sure (by kernel_rfl) (fun W => Below w.heap.size w W) 9 [_,_,_,_,_,_,_,_,_] [some 16,some 17,some 18,some 19,some 20,some 21,some 22,some 23,some 24] (by kernel_rfl) (by kernel_rfl) (by kernel_rfl) (by kernel_rfl) rfl HV.out.drew ?hs1
   case hs1 =>
    refine sure_cons ?_ ?_
    ·intro L ac W K hed hJ hS hK;have hA0 : ac.eval (.tmp 0) = .slice (some ad) ls.length c:=hJ.eval_old 0 (by kernel_rfl);clear hed hJ;refine opStep_of rfl ?_;unfold Oper.wp execOp;have hN0:=evalN hA0;go_simp;exact hK _ hS
    refine sure_cons ?_ ?_
    ·intro L ac W K hed hJ hS hK;have hA5 : ac.eval (.tmp 5) = .int .i64 (k : Int):=hJ.eval_old 5 (by kernel_rfl);clear hed hJ;refine opStep_of rfl ?_;unfold Oper.wp execOp;have hN5:=evalN hA5;go_simp;exact hK _ hS
    refine sure_cons ?_ ?_
    ·intro L ac W K hed hJ hS hK;have hn:=needs_spec (l:=[0,1]) (by kernel_rfl) hed;have hA16:=hJ.eval 0 (d:=16) (hn 0 (by simp)) rfl rfl rfl;have hA17:=hJ.eval 1 (d:=17) (hn 1 (by simp)) rfl rfl rfl;clear hed hJ hn;refine opStep_of rfl ?_;unfold Oper.wp execOp;have hN16:=evalN hA16;have hN17:=evalN hA17;go_simp;exact hK _ hS
    refine sure_cons ?_ ?_
    ·intro L ac W K hed hJ hS hK;have hn:=needs_spec (l:=[2]) (by kernel_rfl) hed;have hA18:=hJ.eval 2 (d:=18) (hn 2 (by simp)) rfl rfl rfl;clear hed hJ hn;refine opStep_of rfl ?_;have cc:=KA.out W hS;unfold Oper.wp execOp;have hN18:=evalN hA18;go_simp;exact hK _ hS
    refine sure_cons ?_ ?_
    ·intro L ac W K hed hJ hS hK;have hA1 : ac.eval (.tmp 1) = .slice (some bd) ls.length d:=hJ.eval_old 1 (by kernel_rfl);clear hed hJ;refine opStep_of rfl ?_;unfold Oper.wp execOp;have hN1:=evalN hA1;go_simp;exact hK _ hS
    refine sure_cons ?_ ?_
    ·intro L ac W K hed hJ hS hK;have hA5 : ac.eval (.tmp 5) = .int .i64 (k : Int):=hJ.eval_old 5 (by kernel_rfl);clear hed hJ;refine opStep_of rfl ?_;unfold Oper.wp execOp;have hN5:=evalN hA5;go_simp;exact hK _ hS
    refine sure_cons ?_ ?_
    ·intro L ac W K hed hJ hS hK;have hn:=needs_spec (l:=[4,5]) (by kernel_rfl) hed;have hA20:=hJ.eval 4 (d:=20) (hn 4 (by simp)) rfl rfl rfl;have hA21:=hJ.eval 5 (d:=21) (hn 5 (by simp)) rfl rfl rfl;clear hed hJ hn;refine opStep_of rfl ?_;unfold Oper.wp execOp;have hN20:=evalN hA20;have hN21:=evalN hA21;go_simp;exact hK _ hS
    refine sure_cons ?_ ?_
    ·intro L ac W K hed hJ hS hK;have hn:=needs_spec (l:=[6]) (by kernel_rfl) hed;have hA22:=hJ.eval 6 (d:=22) (hn 6 (by simp)) rfl rfl rfl;clear hed hJ hn;refine opStep_of rfl ?_;have cc:=KB.out W hS;unfold Oper.wp execOp;have hN22:=evalN hA22;go_simp;exact hK _ hS
    refine sure_cons ?_ ?_
    ·intro L ac W K hed hJ hS hK;have hn:=needs_spec (l:=[3,7]) (by kernel_rfl) hed;have hA19:=hJ.eval 3 (d:=19) (hn 3 (by simp)) rfl rfl rfl;have hA23:=hJ.eval 7 (d:=23) (hn 7 (by simp)) rfl rfl rfl;clear hed hJ hn;refine opStep_of rfl ?_;unfold Oper.wp execOp;have hN19:=evalN hA19;have hN23:=evalN hA23;go_simp;exact hK _ hS
    refine sure_nil ?_;intro W hS;simp only [putAll,Act.put,List.setIfInBounds_toArray,List.set_cons_zero,List.set_cons_succ];have HS:=jj hS;clear hS;have ex : (x != x) = false:=(by simp);go_wp2_with fail;exact ⟨⟨k + 1,by omega,by go_num,HS⟩,by simp [intOf];omega⟩
  ·obtain rfl : k = ls.length:=(by omega);have hd : decide (ls.length < ls.length) = false:=(by simp);go_wp2_with fail;go_ret;exact ⟨rfl,HV.out⟩
set_option maxRecDepth 100000 in
set_option maxHeartbeats 2000000 in
theorem rview_any (w : World) (a : MA) (m : Mc) (hm : McOk m) (hA : MAt w w.heap.size a m) :
  Calls Tryz.prog 9 #[.agg (mcL a m).toArray] w fun e w' => (∃ v,e = .returned v ∧ OwnS w' w.heap.size v (volL m)) ∧ Below w.heap.size w w':=by
 obtain ⟨AD,hAD⟩ : ∃ x,a.D = x:=⟨_,rfl⟩;have HAD:=jj hAD;clear hAD;obtain ⟨i0,hi0,hz0,hz1,hz2⟩:=info_parts Tryz.infoStr';have hs0:=Whole.made w 30 (mcL a m).toArray;have hb : Below w.heap.size w (w.alloc (.cells (mcL a m).toArray 30)):=(Below.refl _ _).alloc (Nat.le_refl _) _;go_enter Tryz.func9,Tryz.ntmps9;go_upto_region 1 with (fail);change Code.wp _ _ _ _ (w.alloc (.cells (mcL a m).toArray 30));generalize (w.alloc (.cells (mcL a m).toArray 30)) = w1 at *;generalize hgx : w.heap.size = gx at *;have HGX:=jj hgx;have HS0:=jj hs0;have HW:=jj hb;have hgl : gx < w1.heap.size:=hs0.lt;clear hgx hb hs0;have HA:=jj (hA.below HW.out);have HM:=jj hm;have HMA : Hid (∀ W,Below w1.heap.size w1 W → MAt W W.heap.size a m):=jj fun W hW => (HA.out.below (hW.mono (by omega))).wide (by have:=hW.size;omega);have HC : Hid (∀ W,Below w1.heap.size w1 W → Whole W gx 30 (mcL a m).toArray):=jj fun W hW => HS0.out.below hW (by omega);have HVL : Hid (volL m = m.dirty.foldl setB (homeD m.blocks m.pend)):=jj rfl;have hsz4:=hm.sizes.2.2.2.1;have HB1:=jj ((Below.refl w1.heap.size w1).alloc (Nat.le_refl _) (.cells #[] 9));have HO1:=jj (own_lit w1);have LD0:=jj (mc_drive (HC.out _ HB1.out));have CH:=jj (rhome_any (w1.alloc (.cells #[] 9)) a.L a.N a.cL a.cN m.blocks m.pend m.dleft (HMA.out _ HB1.out).L (HMA.out _ HB1.out).N hsz4 hm.sizes.2.2.2.2.1)
 have HHL : Hid ((homeD m.blocks m.pend).length ≤ 274877906944):=jj (by
  unfold homeD;split
  ·rw [homeL_length];omega
  ·simp)
 have hdl:=hm.sizes;clear hm hA;generalize homeD m.blocks m.pend = hm0 at *
 go_upto_region 2 with (first
  | (refine wpList_buildSlice rfl 23 9 0 #[] rfl #[] i0 _ Tryz.underlying23 hi0 hz0 (by simp) (by simp [hz1]) (by simp) ?_)
  | (refine wpList_load_at rfl 28 (.tmp 7) rfl ⟨gx,13,none⟩ rfl (dvL a.L m.blocks.length a.cL a.N m.pend.length a.cN m.dleft) _ LD0.out Tryz.underlying28 rfl Tryz.sizeDv ?_))
 refine CH.out.mono ?_;rintro e w3 ⟨⟨vv,rfl,hown⟩,hb3⟩;have HV3:=jj (HB1.out.trans (hb3.mono HB1.out.size));have HO3:=jj (own_below HO1.out hb3);obtain ⟨A',c',hv,hlies,_⟩:=own_shape hown (by omega);subst hv;have HLA:=jj hlies;have hnbl:=HHL.out;have H63 : Hid (0 + hm0.length ≤ maxLen):=jj (by unfold maxLen;omega);have HBY : Hid ((0 + hm0.length) * 16 ≤ 140737488355328):=jj (by omega);have HBA : Hid (w1.heap.size ≤ w3.heap.size):=jj HV3.out.size;clear hown hb3 CH LD0 hlies hnbl;go_upto_region 2 with (at_builtin;refine wpList_append_src rfl (.tmp 6) (.tmp 9) 23 rfl w1.heap.size 9 i0 _ 1 16 Tryz.underlying23 hi0 hz0 hz1 hz2 rfl (by decide) _ _ _ rfl HO3.out w3.heap.size A' hm0.length c' (hm0.map S) rfl (by simp) HLA.out (S_one _) H63.out HBY.out HBA.out ?_;intro v' w4 hown' hgrow);obtain ⟨nb,hnb⟩ : ∃ z,hm0.length = z:=⟨_,rfl⟩;have HO4 : Hid (w4.ownsRow w1.heap.size 9 1 v' nb (hm0.map S)):=jj (by rw [← hnb];simpa using hown');have HV4 : Hid (Below w1.heap.size w1 w4):=jj (HV3.out.grown hgrow HBA.out (own_ge HO3.out));have HNB:=jj hnb;have HHL' : Hid (nb ≤ 274877906944):=jj (by rw [← hnb];exact HHL.out);obtain ⟨G,cap,hv',_,_⟩:=own_shape HO4.out (by omega);subst hv';clear hown' hgrow HLA H63 HBY HBA HO3 HV3 HO1 HB1 hnb HHL;have hnbl:=HHL'.out;have m16 : w4.cell? ⟨gx,16,none⟩ = some (.slice AD m.dirty.length a.cD):=(by rw [← HAD.out];exact (HC.out w4 HV4.out).cell 16);go_wp2_with fail;clear m16
 go_loopw [14] (fun i wr => ∃ (k : Nat) (x : List (List UInt8)),k ≤ m.dirty.length ∧ i = .int .i64 (k : Int) ∧ Hid (x.length = nb) ∧ Hid ((m.dirty.take k).foldl setB hm0 = x) ∧ Hid (wr.ownsRow w1.heap.size 9 1 (.slice G nb cap) nb (x.map S)) ∧ Hid (Below w1.heap.size w1 wr)) (fun i _ => m.dirty.length - (intOf i).toNat)
 case atStart => exact ⟨0,hm0,by omega,rfl,HNB,jj rfl,HO4,HV4⟩
 case round =>
  clear HO4 HV4;obtain ⟨k,x,hk,rfl,HXL,HF,HO,HV⟩:=hrel;by_cases hlt : k < m.dirty.length
  ·obtain ⟨p,hx⟩:=get_some hlt;have HF1:=jj (foldl_snoc setB hm0 hx);rw [HF.out] at HF1;have hLD : Lies wr wr.heap.size AD (nbCells m.dirty):=(by rw [← HAD.out];exact (HMA.out wr HV.out).D);have m16 : wr.cell? ⟨gx,16,none⟩ = some (.slice AD m.dirty.length a.cD):=(by rw [← HAD.out];exact (HC.out wr HV.out).cell 16);obtain ⟨bd,hbdr,hbd,hc⟩:=Lies.row (f:=nbCells1) (n:=2) hLD (fun y hy => rfl) (by omega) hx;subst hbdr;obtain ⟨id,dt⟩:=p
   have q0 : wr.cell? (bd.add (k * 2)) = some (.int .i64 id):=by
    have:=hc 0 (.int .i64 id) rfl
    rwa [show (bd.add (k * 2)).add 0 = bd.add (k * 2) by rw [Addr.add];simp] at this
   have q1' : wr.cell? ⟨(bd.add (k * 2)).block,(bd.add (k * 2)).off + 1,none⟩ = some (S dt):=by
    have:=hc 1 (S dt) rfl
    rwa [show (bd.add (k * 2)).add 1 = ⟨(bd.add (k * 2)).block,(bd.add (k * 2)).off + 1,none⟩ by rw [Addr.add];simp] at this
   clear hc hx hLD hbd;have i0 : (0 : Int) ≤ (k : Int):=(by omega);have i1 : (k : Int) < (m.dirty.length : Int):=(by omega);have hnl:=HHL'.out;by_cases h : 0 ≤ id ∧ id < (nb : Int)
   ·obtain ⟨q1,q2⟩:=h;obtain ⟨j,hj⟩ : ∃ j : Nat,id = (j : Int):=⟨id.toNat,by omega⟩;subst hj;have HS1 : Hid (setB x ((j : Int),dt) = x.set j dt):=jj (by unfold setB;rw [if_pos (by dsimp only;rw [HXL.out];omega)];rfl);obtain ⟨g,cap2,hv2,hgb,hgl'⟩:=HO.out.form (by omega);injection hv2 with hv2 _ hv4;subst hv2;subst hv4;have d0 : decide ((0 : Int) ≤ (j : Int)) = true:=decide_eq_true q1;have d2 : decide ((j : Int) < (nb : Int)) = true:=decide_eq_true q2;have d2' : decide (j < nb) = true:=decide_eq_true (by omega);have hjx : j < x.length:=(by have:=HXL.out;omega);have cj : wr.cell? ⟨g,j,none⟩ = some (S (x.getD j [])):=(HO.out.cellAt j (by have:=HXL.out;omega)).trans (by simp [hjx]);have fj:=HO.out.frozenAt j;obtain ⟨hst,hgr⟩:=HO.out.stored j (S dt);rw [← List.map_set] at hst;have HO5 : Hid ((wr.setCell ⟨g,j,none⟩ (S dt)).ownsRow w1.heap.size 9 1 (.slice (some ⟨g,0,none⟩) nb cap) nb ((x.set j dt).map S)):=jj hst;have HB5 : Hid (Below w1.heap.size w1 (wr.setCell ⟨g,j,none⟩ (S dt))):=jj (HV.out.setCell (p:=⟨g,j,none⟩) hgb _);have j0 : (0 : Int) ≤ (j : Int):=(by omega);have j1 : (j : Int) < (nb : Int):=(by omega);clear hst hgr q1 q2;go_wp2_with fail;exact ⟨⟨k + 1,x.set j dt,by omega,by go_num,jj (by rw [List.length_set];exact HXL.out),jj (by rw [HF1.out];exact HS1.out),HO5,HB5⟩,by simp [intOf];omega⟩
   ·have HS1 : Hid (setB x (id,dt) = x):=jj (by unfold setB;rw [if_neg (by dsimp only;rw [HXL.out];exact h)]);by_cases q1 : 0 ≤ id
    ·have d0 : decide ((0 : Int) ≤ id) = true:=decide_eq_true q1;have d2 : decide (id < (nb : Int)) = false:=decide_eq_false (by omega);clear h q1;go_wp2_with fail;exact ⟨⟨k + 1,x,by omega,by go_num,HXL,jj (by rw [HF1.out];exact HS1.out),HO,HV⟩,by simp [intOf];omega⟩
    ·have d0 : decide ((0 : Int) ≤ id) = false:=decide_eq_false q1;clear h q1;go_wp2_with fail;exact ⟨⟨k + 1,x,by omega,by go_num,HXL,jj (by rw [HF1.out];exact HS1.out),HO,HV⟩,by simp [intOf];omega⟩
  ·obtain rfl : k = m.dirty.length:=(by omega);have hd : decide (m.dirty.length < m.dirty.length) = false:=(by simp);rw [List.take_of_length_le (Nat.le_refl _)] at HF;have HXV : Hid (volL m = x):=jj (by rw [HVL.out,HF.out]);have HOX : Hid (OwnS wr w1.heap.size (.slice G nb cap) x):=jj (by unfold OwnS;rw [HXL.out];exact HO.out);go_wp2_with fail;go_ret;exact ⟨⟨_,rfl,by rw [HXV.out,HGX.out];exact own_wide HOX.out (by omega)⟩,by rw [HGX.out];exact HW.out.trans (HV.out.mono (by omega))⟩
end Go.Proofs.YtdkhnjjihbmlmaaGreatDoor
