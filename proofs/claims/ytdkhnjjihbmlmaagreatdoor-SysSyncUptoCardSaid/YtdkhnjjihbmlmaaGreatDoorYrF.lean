import Derived.Test.YtdkhnjjihbmlmaaGreatDoorYrB
import Derived.Test.YtdkhnjjihbmlmaaGreatDoorYrV
import Derived.Test.YtdkhnjjihbmlmaaGreatDoorYrA
import Derived.Test.YtdkhnjjihbmlmaaGreatDoorSureA
namespace Go.Proofs.YtdkhnjjihbmlmaaGreatDoor
open Go.RowKit
theorem rprocs_no {m : Mc} {last : Int} {x : Pr} {l : List Pr} (h : rprocB m x = false) : rprocsR m last (x :: l) = false:=by
 show (decide (last < x.pid) && rprocB m x && rprocsR m x.pid l) = false;rw [h];simp
theorem rprocs_low {m : Mc} {last : Int} {x : Pr} {l : List Pr} (h : x.pid ≤ last) : rprocsR m last (x :: l) = false:=by
 show (decide (last < x.pid) && rprocB m x && rprocsR m x.pid l) = false;rw [decide_eq_false (by omega)];rfl
theorem rproc_pid {m : Mc} {x : Pr} (h : rprocB m x = true) : 1 ≤ x.pid:=by
 unfold rprocB rh1 at h;simp only [Bool.and_eq_true,decide_eq_true_eq] at h;exact h.1.1.1.1.1.1.1
theorem rprocs_ok {m : Mc} {last : Int} {x : Pr} {l : List Pr} (h0 : last < x.pid ∨ last = 0) (h : rprocB m x = true) : rprocsR m last (x :: l) = rprocsR m x.pid l:=by
 have h1:=rproc_pid h;show (decide (last < x.pid) && rprocB m x && rprocsR m x.pid l) = _;rw [h,decide_eq_true (by omega)];rfl
set_option maxRecDepth 100000 in
set_option maxHeartbeats 4000000 in
theorem rcheck_any (w : World) (a : MA) (m : Mc) (hm : McOk m) (hA : MAt w w.heap.size a m) :
  Calls Tryz.prog 14 #[.agg (mcL a m).toArray] w fun e w' => e = .returned (.int .i64 (checkE m)) ∧ Below w.heap.size w w':=by
 have hs0:=Whole.made w 30 (mcL a m).toArray;have hb : Below w.heap.size w (w.alloc (.cells (mcL a m).toArray 30)):=(Below.refl _ _).alloc (Nat.le_refl _) _;go_enter Tryz.func14,Tryz.ntmps14;go_upto_region 1 with (fail);change Code.wp _ _ _ _ (w.alloc (.cells (mcL a m).toArray 30));generalize (w.alloc (.cells (mcL a m).toArray 30)) = w1 at *;generalize hgx : w.heap.size = gx at *;have HGX:=jj hgx;have HS0:=jj hs0;have HW:=jj hb;have hgl : gx < w1.heap.size:=hs0.lt;clear hgx hb hs0;have HA:=jj (hA.below HW.out);have HM:=jj hm;have HMA : Hid (∀ W,Below w1.heap.size w1 W → MAt W W.heap.size a m):=jj fun W hW => (HA.out.below (hW.mono (by omega))).wide (by have:=hW.size;omega);have HC : Hid (∀ W,Below w1.heap.size w1 W → Whole W gx 30 (mcL a m).toArray):=jj fun W hW => HS0.out.below hW (by omega);have MI : Hid ((Tryz.prog.info? 30).map (·.size) = some (mcL a m).length):=jj (by rw [mcL_length];exact Tryz.sizeMc);have HFE : Hid (checkE m = if numsE m ≠ 0 then numsE m else if framesE m ≠ 0 then framesE m else if procsE m ≠ 0 then procsE m else if pipesE m ≠ 0 then pipesE m else if textsE m ≠ 0 then textsE m else volE m):=jj rfl;have HNB : Hid (numsB m = (decide (1 ≤ m.quantum) && decide (m.quantum ≤ 1000) && decide (0 ≤ m.left) && decide (m.left ≤ m.quantum) && decide (0 ≤ m.cur) && decide (1 ≤ m.next) && decide (m.next ≤ 1000000000) && decide (1 ≤ m.newPipe) && decide (m.newPipe ≤ 1000000000))):=jj rfl;have hsz:=hm.sizes;have c1 : w1.cell? ⟨gx,1,none⟩ = some (.int .i64 m.quantum):=HS0.out.cell 1;have c2 : w1.cell? ⟨gx,2,none⟩ = some (.int .i64 m.cur):=HS0.out.cell 2;have c3 : w1.cell? ⟨gx,3,none⟩ = some (.int .i64 m.left):=HS0.out.cell 3;have c6 : w1.cell? ⟨gx,6,none⟩ = some (.int .i64 m.next):=HS0.out.cell 6;have c9 : w1.cell? ⟨gx,9,none⟩ = some (.int .i64 m.newPipe):=HS0.out.cell 9;have HB0 : Hid (Below w1.heap.size w1 w1):=jj (Below.refl _ _);clear hm hA;go_upto_region 2 with (fail)
 go_cut [56] (fun v wc => v = .bool (!numsB m) ∧ wc = w1)
 case first =>
  as_aux_lemma =>
  generalize m.quantum = y1 at *;generalize m.cur = y2 at *;generalize m.left = y3 at *;generalize m.next = y6 at *;generalize m.newPipe = y9 at *;go_wp2_with fail
  all_goals
   go_meet
   case rel =>
    refine ⟨congrArg Value.bool ?_,rfl⟩;rw [HNB.out,Bool.eq_iff_iff];simp [*]
    try omega
 case rest =>
 as_aux_lemma =>
 obtain ⟨rfl,hwc⟩:=hcut;obtain rfl:=hwc.symm;clear c1 c2 c3 c6 c9;cases hnb : numsB m with
 | false => have HE : Hid (2 = checkE m):=jj (by rw [HFE.out,if_pos (by unfold numsE;rw [hnb];simp)];unfold numsE;rw [hnb];rfl);clear hnb;go_wp2_with fail;go_ret;exact ⟨ret_int HE.out,by rw [HGX.out];exact HW.out.trans (HB0.out.mono (by omega))⟩
 | true =>
 have HFE1 : Hid (checkE m = if framesE m ≠ 0 then framesE m else if procsE m ≠ 0 then procsE m else if pipesE m ≠ 0 then pipesE m else if textsE m ≠ 0 then textsE m else volE m):=jj (by rw [HFE.out,if_neg (by unfold numsE;rw [hnb];simp)]);clear hnb HFE HNB;have c4 : w1.cell? ⟨gx,4,none⟩ = some (.slice a.F m.frames.length a.cF):=HS0.out.cell 4;have HFF : Hid (framesE m = if m.frames.length < 1 ∨ 64 < m.frames.length then 6 else if m.frames.all is128 = true then 0 else 3):=jj rfl;have HFA : Hid (Strs w1 w1.heap.size a.F m.frames):=jj (HMA.out w1 (Below.refl _ _)).F;by_cases h1 : m.frames.length < 1
 ·have HE : Hid (6 = checkE m):=jj (by have h6 : framesE m = 6:=(by rw [HFF.out,if_pos (.inl h1)]);rw [HFE1.out,h6];rfl);have d : decide ((m.frames.length : Int) < 1) = true:=decide_eq_true (by omega);have d' : decide (m.frames.length < 1) = true:=decide_eq_true h1;clear h1;go_wp2_with fail;go_ret;exact ⟨ret_int HE.out,by rw [HGX.out];exact HW.out.trans (HB0.out.mono (by omega))⟩
 have d : decide ((m.frames.length : Int) < 1) = false:=decide_eq_false (by omega);have d' : decide (m.frames.length < 1) = false:=decide_eq_false h1;by_cases h2 : 64 < m.frames.length
 ·have HE : Hid (6 = checkE m):=jj (by have h6 : framesE m = 6:=(by rw [HFF.out,if_pos (.inr h2)]);rw [HFE1.out,h6];rfl);have e : decide ((64 : Int) < (m.frames.length : Int)) = true:=decide_eq_true (by omega);have e' : decide (64 < m.frames.length) = true:=decide_eq_true h2;clear h1 h2;go_wp2_with fail;go_ret;exact ⟨ret_int HE.out,by rw [HGX.out];exact HW.out.trans (HB0.out.mono (by omega))⟩
 have HFF' : Hid (framesE m = if m.frames.all is128 = true then 0 else 3):=jj (by rw [HFF.out,if_neg (fun h => h.elim h1 h2)]);have e : decide ((64 : Int) < (m.frames.length : Int)) = false:=decide_eq_false (by omega);have e' : decide (64 < m.frames.length) = false:=decide_eq_false h2;have hl64 : m.frames.length ≤ 64:=(by omega);clear h1 h2 HFF;go_wp2_with fail;clear d d' e e' c4
 go_loopw [70] (fun i wr => ∃ k : Nat,k ≤ m.frames.length ∧ i = .int .i64 k ∧ Hid ((m.frames.take k).all is128 = true) ∧ Hid (Below w1.heap.size w1 wr)) (fun i _ => m.frames.length - (intOf i).toNat)
 case atStart => exact ⟨0,by omega,rfl,jj rfl,jj (Below.refl _ _)⟩
 case round =>
  obtain ⟨k,hk,rfl,HN,HV⟩:=hrel;by_cases hlt : k < m.frames.length
  ·obtain ⟨x,hx⟩:=get_some hlt;have HY:=jj (@all_on _ is128 m.frames k x hx HN.out);have HNO:=jj (@all_bad _ is128 m.frames k x hx);obtain ⟨ad,hadr,had,hc⟩:=Strs.at' HFA.out hlt;have hgd : m.frames.getD k [] = x:=(by rw [List.getD_eq_getElem?_getD,hx];rfl);rw [hgd] at hc;rw [hadr];have b0 : wr.cell? (ad.add k) = _:=(HV.out.cell (by rw [add_block];exact had)).trans hc;clear hc hx hgd;have i0 : (0 : Int) ≤ (k : Int):=(by omega);have i1 : (k : Int) < (m.frames.length : Int):=(by omega);by_cases h1 : x.length = 128
   ·have HQ:=jj (HY.out (by unfold is128;simp [h1]));have d : (x.length == 128) = true:=beq_iff_eq.2 h1;have d' : ((x.length : Int) != 128) = false:=(by simp [h1]);have d'' : (x.length != 128) = false:=(by simp [h1]);clear h1 HY HNO;go_wp2_with fail
    go_roundw
    case rel =>
     have R : ∃ k' : Nat,k' ≤ m.frames.length ∧ Value.int .i64 ((k : Int) + 1) = .int .i64 k' ∧ Hid ((m.frames.take k').all is128 = true) ∧ Hid (Below w1.heap.size w1 wr):=⟨k + 1,by omega,by go_num,HQ,HV⟩
     first | exact R | ((repeat apply Exists.intro);exact ⟨R,rfl⟩)
    case measure => simp [intOf];omega
   ·have HQ:=jj (HNO.out (by unfold is128;simp [h1]));have d' : ((x.length : Int) != 128) = true:=(by simp;omega);have d'' : (x.length != 128) = true:=(by simp [h1]);clear h1 HY HNO;go_wp2_with fail;have h3 : framesE m = 3:=(by rw [HFF'.out,if_neg (by rw [HQ.out];simp)]);have HE : Hid (3 = checkE m):=jj (by rw [HFE1.out,h3];rfl);clear h3;go_ret;exact ⟨ret_int HE.out,by rw [HGX.out];exact HW.out.trans (HV.out.mono (by omega))⟩
  ·obtain rfl : k = m.frames.length:=(by omega);have hd : decide (m.frames.length < m.frames.length) = false:=(by simp);rw [List.take_of_length_le (Nat.le_refl _)] at HN;have h0 : framesE m = 0:=(by rw [HFF'.out,if_pos HN.out]);have HFE2 : Hid (checkE m = if procsE m ≠ 0 then procsE m else if pipesE m ≠ 0 then pipesE m else if textsE m ≠ 0 then textsE m else volE m):=jj (by rw [HFE1.out,if_neg (by rw [h0];simp)]);clear h0 HFE1 HFF' HFA HN;have c5 : wr.cell? ⟨gx,5,none⟩ = some (.slice a.P m.procs.length a.cP):=(HC.out wr HV.out).cell 5;have HPF : Hid (procsE m = if 8 < m.procs.length then 6 else if rprocsR m 0 m.procs = true then 0 else 3):=jj (by unfold procsE;rw [procs_same]);by_cases h1 : 8 < m.procs.length
   ·have HE : Hid (6 = checkE m):=jj (by have h6 : procsE m = 6:=(by rw [HPF.out,if_pos h1]);rw [HFE2.out,h6];rfl);have d : decide ((8 : Int) < (m.procs.length : Int)) = true:=decide_eq_true (by omega);have d' : decide (8 < m.procs.length) = true:=decide_eq_true h1;clear h1;go_wp2_with fail;go_ret;exact ⟨ret_int HE.out,by rw [HGX.out];exact HW.out.trans (HV.out.mono (by omega))⟩
   have HPF' : Hid (procsE m = if rprocsR m 0 m.procs = true then 0 else 3):=jj (by rw [HPF.out,if_neg h1]);have d : decide ((8 : Int) < (m.procs.length : Int)) = false:=decide_eq_false (by omega);have d' : decide (8 < m.procs.length) = false:=decide_eq_false h1;have hp8 : m.procs.length ≤ 8:=(by omega);clear h1 HPF;go_wp2_with fail;clear d d' c5;obtain ⟨wo,hwo⟩ : ∃ wo : World,wo = wr:=⟨_,rfl⟩;subst hwo
   go_loopw [85] (fun i wr => ∃ (k : Nat),k ≤ m.procs.length ∧ i = .int .i64 (k : Int) ∧ Hid (∃ last : Int,(k = 0 → last = 0) ∧ (∀ q,k = q + 1 → ∃ y,m.procs[q]? = some y ∧ y.pid = last) ∧ rprocsR m 0 m.procs = rprocsR m last (m.procs.drop k)) ∧ Hid (Below w1.heap.size w1 wr)) (fun i _ => m.procs.length - (intOf i).toNat)
   case atStart => exact ⟨0,by omega,rfl,jj ⟨0,fun _ => rfl,fun q hq => by omega,rfl⟩,HV⟩
   case round =>
    clear HV;obtain ⟨k,hk,rfl,HI,HV⟩:=hrel;by_cases hlt : k < m.procs.length
    ·obtain ⟨x,hx⟩:=get_some hlt;have HXO:=jj (HM.out.procs x (List.mem_of_getElem? hx));have HD:=jj (drop_cons hx);have HXP:=jj hx;obtain ⟨last,hl0,hlq,hn⟩:=HI.out;have HN:=jj hn;rw [HD.out] at HN;obtain ⟨bd,hbdr,hbd,hc⟩:=Lies.row (f:=prCells) (n:=96) (HMA.out wr HV.out).P (fun y hy => prCells_length (HM.out.procs y hy)) (by omega) hx;have LD : Hid (∀ j v,(prCells x)[j]? = some v → wr.cell? ((bd.add (k * 96)).add j) = some v):=jj hc;have hzv:=HV.out.size;have hxl:=prCells_length HXO.out;have PIX : Hid ((Tryz.prog.info? 48).map (·.size) = some (prCells x).length):=jj (by rw [hxl];exact Tryz.sizePr);have HLX : Hid ((prCells x).length = (prCells zeroPr).length):=jj (by rw [hxl];rfl);have HZ : Hid (Whole (wr.alloc (.cells (prCells zeroPr).toArray 48)) wr.heap.size 48 (prCells zeroPr).toArray):=jj (Whole.made wr 48 (prCells zeroPr).toArray);have HVZ:=jj (HV.out.alloc hzv (.cells (prCells zeroPr).toArray 48));have HBD:=jj hbdr;rw [hbdr];clear hc hx hbdr hn hxl;have i0 : (0 : Int) ≤ (k : Int):=(by omega);have i1 : (k : Int) < (m.procs.length : Int):=(by omega)
     go_upto_region 17 with (first
      | (refine wpList_load_at rfl 48 (.tmp 88) rfl (bd.add (k * 96)) rfl (prCells x) _ LD.out Tryz.underlying48 rfl PIX.out ?_)
      | (refine wpList_store_all rfl 48 (.tmp 7) (.tmp 89) rfl rfl wr.heap.size rfl (prCells x) rfl PIX.out (prCells zeroPr) 48 HZ.out HLX.out prCells_one ?_;intro w4 HX HG4))
     have HV1 : Hid (Below w1.heap.size w1 w4):=jj (below_grown HVZ.out HG4.out HVZ.out.size hzv)
     have HPRE : Hid (∀ q,k = q + 1 → w4.cell? (bd.add (q * 96)) = some (.int .i64 last)):=jj (fun q hq => by
      obtain ⟨y,hy,hyl⟩:=hlq q hq;obtain ⟨bd',hbdr',_,hc'⟩:=Lies.row (f:=prCells) (n:=96) (HMA.out _ HV1.out).P (fun y hy => prCells_length (HM.out.procs y hy)) (by omega) hy;rw [HBD.out] at hbdr';injection hbdr' with hbb;subst hbb;have:=hc' 0 _ rfl;rw [Addr.add_zero',hyl] at this;exact this)
     have HPB : Hid (∀ q : Nat,(bd.add (q * 96)).block < w4.heap.size):=jj (fun q => by
      rw [add_block];have h1:=HG4.out.size;simp at h1;omega)
     have hg4:=HX.out.lt;have HLT0:=jj hl0;clear LD hzv HV HZ HVZ HG4 HLX hl0 hlq;generalize wr.heap.size = g4 at *;by_cases hq : ∃ q,k = q + 1 ∧ x.pid ≤ last
     ·obtain ⟨q,hq,hle⟩:=hq;subst hq;have d4 : decide ((0 : Int) < ((q + 1 : Nat) : Int)) = true:=decide_eq_true (by omega);have d4' : decide ((0 : Int) < (q : Int) + 1) = true:=decide_eq_true (by omega);have d5 : decide (x.pid ≤ last) = true:=decide_eq_true hle;have u1 : IntKind.i64.wrap ((q : Int) + 1 - 1) = (q : Int):=(by rw [show (q : Int) + 1 - 1 = (q : Int) by omega];exact IntWalk.i64_in _ (by omega));have u2 : IntKind.i64.wrap (q : Int) = (q : Int):=IntWalk.i64_in _ (by omega);have j0 : (0 : Int) ≤ (q : Int):=(by omega);have j1 : (q : Int) < (m.procs.length : Int):=(by omega);refine' wp_region_sure (by kernel_rfl) (fun W => Below w4.heap.size w4 W) 20 [_,_,_,_,_,_,_,_,_,_,_,_,_,_,_,undef,undef,undef,undef,_] [some 90,some 91,some 92,some 93,some 94,some 95,some 96,some 97,some 98,some 99,some 100,some 101,some 102,some 103,some 104,some 105,some 106,some 107,some 108,some 109] (by kernel_rfl) (by kernel_rfl) (by kernel_rfl) (by kernel_rfl) rfl (Below.refl _ _).drew ?hs1
      case hs1 =>
       refine sure_cons ?_ ?_
       ·intro L ac W K hed hJ hS hK;have hA6 : ac.eval (.tmp 6) = .int .i64 ((q + 1 : Nat) : Int):=hJ.eval_old 6 (by kernel_rfl);clear hed hJ;refine opStep_of rfl ?_;unfold Oper.wp execOp;have hN6:=evalN hA6;go_simp;exact hK _ hS
       refine sure_cons ?_ ?_
       ·intro L ac W K hed hJ hS hK;have hn:=needs_spec (l:=[0]) (by kernel_rfl) hed;have hA90:=hJ.eval 0 (d:=90) (hn 0 (by simp)) rfl rfl rfl;clear hed hJ hn;refine opStep_of rfl ?_;unfold Oper.wp execOp;have hN90:=evalN hA90;go_simp;exact hK _ hS
       refine sure_cons ?_ ?_
       ·intro L ac W K hed hJ hS hK;have hn:=needs_spec (l:=[1]) (by kernel_rfl) hed;have hA91:=hJ.eval 1 (d:=91) (hn 1 (by simp)) rfl rfl rfl;clear hed hJ hn;refine opStep_of rfl ?_;unfold Oper.wp execOp;have hN91:=evalN hA91;go_simp;exact hK _ hS
       refine sure_cons ?_ ?_
       ·intro L ac W K hed hJ hS hK;have hn:=needs_spec (l:=[2]) (by kernel_rfl) hed;have hA1 : ac.eval (.tmp 1) = .pointer (some ⟨gx,0,none⟩):=hJ.eval_old 1 (by kernel_rfl);have hA92:=hJ.eval 2 (d:=92) (hn 2 (by simp)) rfl rfl rfl;have hsz:=hJ.size;clear hed hJ hn;refine opStep_yes rfl (d:=92) rfl (by rw [hsz];rfl) hA92 ?_;clear hsz;unfold Oper.wp execOp;have hN1:=evalN hA1;go_simp;exact hK _ hS
       refine sure_cons ?_ ?_
       ·intro L ac W K hed hJ hS hK;have hn:=needs_spec (l:=[2,3]) (by kernel_rfl) hed;have hA93:=hJ.eval 3 (d:=93) (hn 3 (by simp)) rfl rfl rfl;have hA92:=hJ.eval 2 (d:=92) (hn 2 (by simp)) rfl rfl rfl;have hsz:=hJ.size;clear hed hJ hn;refine opStep_yes rfl (d:=92) rfl (by rw [hsz];rfl) hA92 ?_;clear hsz;have c5 : W.cell? ⟨gx,5,none⟩ = some (.slice (some bd) m.procs.length a.cP):=(by rw [← HBD.out];exact (HC.out W (HV1.out.trans (hS.mono HV1.out.size))).cell 5);unfold Oper.wp execOp;have hN93:=evalN hA93;go_simp;exact hK _ hS
       refine sure_cons ?_ ?_
       ·intro L ac W K hed hJ hS hK;have hn:=needs_spec (l:=[2]) (by kernel_rfl) hed;have hA6 : ac.eval (.tmp 6) = .int .i64 ((q + 1 : Nat) : Int):=hJ.eval_old 6 (by kernel_rfl);have hA92:=hJ.eval 2 (d:=92) (hn 2 (by simp)) rfl rfl rfl;have hsz:=hJ.size;clear hed hJ hn;refine opStep_yes rfl (d:=92) rfl (by rw [hsz];rfl) hA92 ?_;clear hsz;unfold Oper.wp execOp;have hN6:=evalN hA6;go_simp;exact hK _ hS
       refine sure_cons ?_ ?_
       ·intro L ac W K hed hJ hS hK;have hn:=needs_spec (l:=[2,5]) (by kernel_rfl) hed;have hA95:=hJ.eval 5 (d:=95) (hn 5 (by simp)) rfl rfl rfl;have hA92:=hJ.eval 2 (d:=92) (hn 2 (by simp)) rfl rfl rfl;have hsz:=hJ.size;clear hed hJ hn;refine opStep_yes rfl (d:=92) rfl (by rw [hsz];rfl) hA92 ?_;clear hsz;unfold Oper.wp execOp;have hN95:=evalN hA95;go_simp;exact hK _ hS
       refine sure_cons ?_ ?_
       ·intro L ac W K hed hJ hS hK;have hn:=needs_spec (l:=[2,4,6]) (by kernel_rfl) hed;have hA94:=hJ.eval 4 (d:=94) (hn 4 (by simp)) rfl rfl rfl;have hA96:=hJ.eval 6 (d:=96) (hn 6 (by simp)) rfl rfl rfl;have hA92:=hJ.eval 2 (d:=92) (hn 2 (by simp)) rfl rfl rfl;have hsz:=hJ.size;clear hed hJ hn;refine opStep_yes rfl (d:=92) rfl (by rw [hsz];rfl) hA92 ?_;clear hsz;unfold Oper.wp execOp;have hN94:=evalN hA94;have hN96:=evalN hA96;go_simp;exact hK _ hS
       refine sure_cons ?_ ?_
       ·intro L ac W K hed hJ hS hK;have hn:=needs_spec (l:=[2,7]) (by kernel_rfl) hed;have hA97:=hJ.eval 7 (d:=97) (hn 7 (by simp)) rfl rfl rfl;have hA92:=hJ.eval 2 (d:=92) (hn 2 (by simp)) rfl rfl rfl;have hsz:=hJ.size;clear hed hJ hn;refine opStep_yes rfl (d:=92) rfl (by rw [hsz];rfl) hA92 ?_;clear hsz;unfold Oper.wp execOp;have hN97:=evalN hA97;go_simp;exact hK _ hS
       refine sure_cons ?_ ?_
       ·intro L ac W K hed hJ hS hK;have hn:=needs_spec (l:=[2,8]) (by kernel_rfl) hed;have hA98:=hJ.eval 8 (d:=98) (hn 8 (by simp)) rfl rfl rfl;have hA92:=hJ.eval 2 (d:=92) (hn 2 (by simp)) rfl rfl rfl;have hsz:=hJ.size;clear hed hJ hn;refine opStep_yes rfl (d:=92) rfl (by rw [hsz];rfl) hA92 ?_;clear hsz;have xp : W.cell? (bd.add (q * 96)) = some (.int .i64 last):=(hS.cell (HPB.out q)).trans (HPRE.out q rfl);unfold Oper.wp execOp;have hN98:=evalN hA98;go_simp;exact hK _ hS
       refine sure_cons ?_ ?_
       ·intro L ac W K hed hJ hS hK;have hn:=needs_spec (l:=[2]) (by kernel_rfl) hed;have hA7 : ac.eval (.tmp 7) = .pointer (some ⟨g4,0,none⟩):=hJ.eval_old 7 (by kernel_rfl);have hA92:=hJ.eval 2 (d:=92) (hn 2 (by simp)) rfl rfl rfl;have hsz:=hJ.size;clear hed hJ hn;refine opStep_yes rfl (d:=92) rfl (by rw [hsz];rfl) hA92 ?_;clear hsz;unfold Oper.wp execOp;have hN7:=evalN hA7;go_simp;exact hK _ hS
       refine sure_cons ?_ ?_
       ·intro L ac W K hed hJ hS hK;have hn:=needs_spec (l:=[2,10]) (by kernel_rfl) hed;have hA100:=hJ.eval 10 (d:=100) (hn 10 (by simp)) rfl rfl rfl;have hA92:=hJ.eval 2 (d:=92) (hn 2 (by simp)) rfl rfl rfl;have hsz:=hJ.size;clear hed hJ hn;refine opStep_yes rfl (d:=92) rfl (by rw [hsz];rfl) hA92 ?_;clear hsz;have x0 : W.cell? ⟨g4,0,none⟩ = some (.int .i64 x.pid):=(HX.out.below hS hg4).cell 0;unfold Oper.wp execOp;have hN100:=evalN hA100;go_simp;exact hK _ hS
       refine sure_cons ?_ ?_
       ·intro L ac W K hed hJ hS hK;have hn:=needs_spec (l:=[2,9,11]) (by kernel_rfl) hed;have hA99:=hJ.eval 9 (d:=99) (hn 9 (by simp)) rfl rfl rfl;have hA101:=hJ.eval 11 (d:=101) (hn 11 (by simp)) rfl rfl rfl;have hA92:=hJ.eval 2 (d:=92) (hn 2 (by simp)) rfl rfl rfl;have hsz:=hJ.size;clear hed hJ hn;refine opStep_yes rfl (d:=92) rfl (by rw [hsz];rfl) hA92 ?_;clear hsz;unfold Oper.wp execOp;have hN99:=evalN hA99;have hN101:=evalN hA101;go_simp;exact hK _ hS
       refine sure_cons ?_ ?_
       ·intro L ac W K hed hJ hS hK;have hn:=needs_spec (l:=[2,12]) (by kernel_rfl) hed;have hA92:=hJ.eval 2 (d:=92) (hn 2 (by simp)) rfl rfl rfl;have hA102:=hJ.eval 12 (d:=102) (hn 12 (by simp)) rfl rfl rfl;clear hed hJ hn;refine opStep_of rfl ?_;unfold Oper.wp execOp;have hN92:=evalN hA92;have hN102:=evalN hA102;go_simp;exact hK _ hS
       refine sure_cons ?_ ?_
       ·intro L ac W K hed hJ hS hK;have hn:=needs_spec (l:=[13]) (by kernel_rfl) hed;have hA103:=hJ.eval 13 (d:=103) (hn 13 (by simp)) rfl rfl rfl;clear hed hJ hn;refine opStep_of rfl ?_;unfold Oper.wp execOp;have hN103:=evalN hA103;go_simp;exact hK _ hS
       refine sure_cons ?_ ?_
       ·intro L ac W K hed hJ hS hK;have hn:=needs_spec (l:=[14]) (by kernel_rfl) hed;have hA104:=hJ.eval 14 (d:=104) (hn 14 (by simp)) rfl rfl rfl;have hsz:=hJ.size;clear hed hJ hn;refine opStep_no rfl (d:=104) rfl (by rw [hsz];rfl) hA104 rfl ?_;exact hK _ hS
       refine sure_cons ?_ ?_
       ·intro L ac W K hed hJ hS hK;have hn:=needs_spec (l:=[14]) (by kernel_rfl) hed;have hA104:=hJ.eval 14 (d:=104) (hn 14 (by simp)) rfl rfl rfl;have hsz:=hJ.size;clear hed hJ hn;refine opStep_no rfl (d:=104) rfl (by rw [hsz];rfl) hA104 rfl ?_;exact hK _ hS
       refine sure_cons ?_ ?_
       ·intro L ac W K hed hJ hS hK;have hn:=needs_spec (l:=[14]) (by kernel_rfl) hed;have hA104:=hJ.eval 14 (d:=104) (hn 14 (by simp)) rfl rfl rfl;have hsz:=hJ.size;clear hed hJ hn;refine opStep_no rfl (d:=104) rfl (by rw [hsz];rfl) hA104 rfl ?_;exact hK _ hS
       refine sure_cons ?_ ?_
       ·intro L ac W K hed hJ hS hK;have hn:=needs_spec (l:=[14]) (by kernel_rfl) hed;have hA104:=hJ.eval 14 (d:=104) (hn 14 (by simp)) rfl rfl rfl;have hsz:=hJ.size;clear hed hJ hn;refine opStep_no rfl (d:=104) rfl (by rw [hsz];rfl) hA104 rfl ?_;exact hK _ hS
       refine sure_cons ?_ ?_
       ·intro L ac W K hed hJ hS hK;have hn:=needs_spec (l:=[14,18]) (by kernel_rfl) hed;have hA104:=hJ.eval 14 (d:=104) (hn 14 (by simp)) rfl rfl rfl;have hA108:=hJ.eval 18 (d:=108) (hn 18 (by simp)) rfl rfl rfl;clear hed hJ hn;refine opStep_of rfl ?_;unfold Oper.wp execOp;have hN104:=evalN hA104;have hN108:=evalN hA108;go_simp;exact hK _ hS
       refine sure_nil ?_;intro W hS;simp only [putAll,Act.put,List.setIfInBounds_toArray,List.set_cons_zero,List.set_cons_succ];have HV6 : Hid (Below w1.heap.size w1 W):=jj (HV1.out.trans (hS.mono HV1.out.size));clear hS;have HBAD : Hid (rprocsR m 0 m.procs = false):=jj (by rw [HN.out];exact rprocs_low hle);have HE : Hid (3 = checkE m):=jj (by have h3 : procsE m = 3:=(by rw [HPF'.out,HBAD.out];rfl);rw [HFE2.out,h3];rfl);clear hle d5;go_wp2_with fail;go_ret;exact ⟨ret_int HE.out,by rw [HGX.out];exact HW.out.trans (HV6.out.mono (by omega))⟩
     ·cases k with
      | zero =>
       have HLT : Hid (last < x.pid ∨ last = 0):=jj (.inr (HLT0.out rfl));clear hq;refine' wp_region_sure (by kernel_rfl) (fun W => Below w4.heap.size w4 W) 20 [_,_,_,undef,undef,undef,undef,undef,undef,undef,undef,undef,undef,_,_,_,_,_,_,_] [some 90,some 91,some 92,some 93,some 94,some 95,some 96,some 97,some 98,some 99,some 100,some 101,some 102,some 103,some 104,some 105,some 106,some 107,some 108,some 109] (by kernel_rfl) (by kernel_rfl) (by kernel_rfl) (by kernel_rfl) rfl (Below.refl _ _).drew ?hs2
       case hs2 =>
        refine sure_cons ?_ ?_
        ·intro L ac W K hed hJ hS hK;have hA6 : ac.eval (.tmp 6) = .int .i64 ((0 : Nat) : Int):=hJ.eval_old 6 (by kernel_rfl);clear hed hJ;refine opStep_of rfl ?_;unfold Oper.wp execOp;have hN6:=evalN hA6;go_simp;exact hK _ hS
        refine sure_cons ?_ ?_
        ·intro L ac W K hed hJ hS hK;have hn:=needs_spec (l:=[0]) (by kernel_rfl) hed;have hA90:=hJ.eval 0 (d:=90) (hn 0 (by simp)) rfl rfl rfl;clear hed hJ hn;refine opStep_of rfl ?_;unfold Oper.wp execOp;have hN90:=evalN hA90;go_simp;exact hK _ hS
        refine sure_cons ?_ ?_
        ·intro L ac W K hed hJ hS hK;have hn:=needs_spec (l:=[1]) (by kernel_rfl) hed;have hA91:=hJ.eval 1 (d:=91) (hn 1 (by simp)) rfl rfl rfl;clear hed hJ hn;refine opStep_of rfl ?_;unfold Oper.wp execOp;have hN91:=evalN hA91;go_simp;exact hK _ hS
        refine sure_cons ?_ ?_
        ·intro L ac W K hed hJ hS hK;have hn:=needs_spec (l:=[2]) (by kernel_rfl) hed;have hA92:=hJ.eval 2 (d:=92) (hn 2 (by simp)) rfl rfl rfl;have hsz:=hJ.size;clear hed hJ hn;refine opStep_no rfl (d:=92) rfl (by rw [hsz];rfl) hA92 rfl ?_;exact hK _ hS
        refine sure_cons ?_ ?_
        ·intro L ac W K hed hJ hS hK;have hn:=needs_spec (l:=[2]) (by kernel_rfl) hed;have hA92:=hJ.eval 2 (d:=92) (hn 2 (by simp)) rfl rfl rfl;have hsz:=hJ.size;clear hed hJ hn;refine opStep_no rfl (d:=92) rfl (by rw [hsz];rfl) hA92 rfl ?_;exact hK _ hS
        refine sure_cons ?_ ?_
        ·intro L ac W K hed hJ hS hK;have hn:=needs_spec (l:=[2]) (by kernel_rfl) hed;have hA92:=hJ.eval 2 (d:=92) (hn 2 (by simp)) rfl rfl rfl;have hsz:=hJ.size;clear hed hJ hn;refine opStep_no rfl (d:=92) rfl (by rw [hsz];rfl) hA92 rfl ?_;exact hK _ hS
        refine sure_cons ?_ ?_
        ·intro L ac W K hed hJ hS hK;have hn:=needs_spec (l:=[2]) (by kernel_rfl) hed;have hA92:=hJ.eval 2 (d:=92) (hn 2 (by simp)) rfl rfl rfl;have hsz:=hJ.size;clear hed hJ hn;refine opStep_no rfl (d:=92) rfl (by rw [hsz];rfl) hA92 rfl ?_;exact hK _ hS
        refine sure_cons ?_ ?_
        ·intro L ac W K hed hJ hS hK;have hn:=needs_spec (l:=[2]) (by kernel_rfl) hed;have hA92:=hJ.eval 2 (d:=92) (hn 2 (by simp)) rfl rfl rfl;have hsz:=hJ.size;clear hed hJ hn;refine opStep_no rfl (d:=92) rfl (by rw [hsz];rfl) hA92 rfl ?_;exact hK _ hS
        refine sure_cons ?_ ?_
        ·intro L ac W K hed hJ hS hK;have hn:=needs_spec (l:=[2]) (by kernel_rfl) hed;have hA92:=hJ.eval 2 (d:=92) (hn 2 (by simp)) rfl rfl rfl;have hsz:=hJ.size;clear hed hJ hn;refine opStep_no rfl (d:=92) rfl (by rw [hsz];rfl) hA92 rfl ?_;exact hK _ hS
        refine sure_cons ?_ ?_
        ·intro L ac W K hed hJ hS hK;have hn:=needs_spec (l:=[2]) (by kernel_rfl) hed;have hA92:=hJ.eval 2 (d:=92) (hn 2 (by simp)) rfl rfl rfl;have hsz:=hJ.size;clear hed hJ hn;refine opStep_no rfl (d:=92) rfl (by rw [hsz];rfl) hA92 rfl ?_;exact hK _ hS
        refine sure_cons ?_ ?_
        ·intro L ac W K hed hJ hS hK;have hn:=needs_spec (l:=[2]) (by kernel_rfl) hed;have hA92:=hJ.eval 2 (d:=92) (hn 2 (by simp)) rfl rfl rfl;have hsz:=hJ.size;clear hed hJ hn;refine opStep_no rfl (d:=92) rfl (by rw [hsz];rfl) hA92 rfl ?_;exact hK _ hS
        refine sure_cons ?_ ?_
        ·intro L ac W K hed hJ hS hK;have hn:=needs_spec (l:=[2]) (by kernel_rfl) hed;have hA92:=hJ.eval 2 (d:=92) (hn 2 (by simp)) rfl rfl rfl;have hsz:=hJ.size;clear hed hJ hn;refine opStep_no rfl (d:=92) rfl (by rw [hsz];rfl) hA92 rfl ?_;exact hK _ hS
        refine sure_cons ?_ ?_
        ·intro L ac W K hed hJ hS hK;have hn:=needs_spec (l:=[2]) (by kernel_rfl) hed;have hA92:=hJ.eval 2 (d:=92) (hn 2 (by simp)) rfl rfl rfl;have hsz:=hJ.size;clear hed hJ hn;refine opStep_no rfl (d:=92) rfl (by rw [hsz];rfl) hA92 rfl ?_;exact hK _ hS
        refine sure_cons ?_ ?_
        ·intro L ac W K hed hJ hS hK;have hn:=needs_spec (l:=[2,12]) (by kernel_rfl) hed;have hA92:=hJ.eval 2 (d:=92) (hn 2 (by simp)) rfl rfl rfl;have hA102:=hJ.eval 12 (d:=102) (hn 12 (by simp)) rfl rfl rfl;clear hed hJ hn;refine opStep_of rfl ?_;unfold Oper.wp execOp;have hN92:=evalN hA92;have hN102:=evalN hA102;go_simp;exact hK _ hS
        refine sure_cons ?_ ?_
        ·intro L ac W K hed hJ hS hK;have hn:=needs_spec (l:=[13]) (by kernel_rfl) hed;have hA103:=hJ.eval 13 (d:=103) (hn 13 (by simp)) rfl rfl rfl;clear hed hJ hn;refine opStep_of rfl ?_;unfold Oper.wp execOp;have hN103:=evalN hA103;go_simp;exact hK _ hS
        refine sure_cons ?_ ?_
        ·intro L ac W K hed hJ hS hK;have hn:=needs_spec (l:=[14]) (by kernel_rfl) hed;have hA1 : ac.eval (.tmp 1) = .pointer (some ⟨gx,0,none⟩):=hJ.eval_old 1 (by kernel_rfl);have hA104:=hJ.eval 14 (d:=104) (hn 14 (by simp)) rfl rfl rfl;have hsz:=hJ.size;clear hed hJ hn;refine opStep_yes rfl (d:=104) rfl (by rw [hsz];rfl) hA104 ?_;clear hsz;refine oper_load_at 30 (.tmp 1) rfl ⟨gx,0,none⟩ hA1 (mcL a m) _ (HC.out W (HV1.out.trans (hS.mono HV1.out.size))).reads Tryz.underlying30 rfl MI.out ?_;exact hK _ hS
        refine sure_cons ?_ ?_
        ·intro L ac W K hed hJ hS hK;have hn:=needs_spec (l:=[14]) (by kernel_rfl) hed;have hA7 : ac.eval (.tmp 7) = .pointer (some ⟨g4,0,none⟩):=hJ.eval_old 7 (by kernel_rfl);have hA104:=hJ.eval 14 (d:=104) (hn 14 (by simp)) rfl rfl rfl;have hsz:=hJ.size;clear hed hJ hn;refine opStep_yes rfl (d:=104) rfl (by rw [hsz];rfl) hA104 ?_;clear hsz;refine oper_load_at 48 (.tmp 7) rfl ⟨g4,0,none⟩ hA7 (prCells x) _ (HX.out.below hS hg4).reads Tryz.underlying48 rfl PIX.out ?_;exact hK _ hS
        refine sure_cons ?_ ?_
        ·intro L ac W K hed hJ hS hK;have hn:=needs_spec (l:=[14,15,16]) (by kernel_rfl) hed;have hA105:=hJ.eval 15 (d:=105) (hn 15 (by simp)) rfl rfl rfl;have hA106:=hJ.eval 16 (d:=106) (hn 16 (by simp)) rfl rfl rfl;have hA104:=hJ.eval 14 (d:=104) (hn 14 (by simp)) rfl rfl rfl;have hsz:=hJ.size;clear hed hJ hn;refine opStep_yes rfl (d:=104) rfl (by rw [hsz];rfl) hA104 ?_;clear hsz;unfold Oper.wp execOp;have hN105:=evalN hA105;have hN106:=evalN hA106;go_simp;refine (rprocess_any W a m HM.out (HMA.out W (HV1.out.trans (hS.mono HV1.out.size))) x HXO.out).mono ?_;rintro e W' ⟨rfl,hb⟩;have hS2:=hS.trans (hb.mono hS.size);dsimp only;exact hK W' hS2
        refine sure_cons ?_ ?_
        ·intro L ac W K hed hJ hS hK;have hn:=needs_spec (l:=[14,17]) (by kernel_rfl) hed;have hA107:=hJ.eval 17 (d:=107) (hn 17 (by simp)) rfl rfl rfl;have hA104:=hJ.eval 14 (d:=104) (hn 14 (by simp)) rfl rfl rfl;have hsz:=hJ.size;clear hed hJ hn;refine opStep_yes rfl (d:=104) rfl (by rw [hsz];rfl) hA104 ?_;clear hsz;unfold Oper.wp execOp;have hN107:=evalN hA107;go_simp;exact hK _ hS
        refine sure_cons ?_ ?_
        ·intro L ac W K hed hJ hS hK;have hn:=needs_spec (l:=[14,18]) (by kernel_rfl) hed;have hA104:=hJ.eval 14 (d:=104) (hn 14 (by simp)) rfl rfl rfl;have hA108:=hJ.eval 18 (d:=108) (hn 18 (by simp)) rfl rfl rfl;clear hed hJ hn;refine opStep_of rfl ?_;unfold Oper.wp execOp;have hN104:=evalN hA104;have hN108:=evalN hA108;go_simp;exact hK _ hS
        refine sure_nil ?_;intro W hS;simp only [putAll,Act.put,List.setIfInBounds_toArray,List.set_cons_zero,List.set_cons_succ];have HV6 : Hid (Below w1.heap.size w1 W):=jj (HV1.out.trans (hS.mono HV1.out.size));clear hS;cases hrp : rprocB m x with
        | false => have HBAD : Hid (rprocsR m 0 m.procs = false):=jj (by rw [HN.out];exact rprocs_no hrp);have HE : Hid (3 = checkE m):=jj (by have h3 : procsE m = 3:=(by rw [HPF'.out,HBAD.out];rfl);rw [HFE2.out,h3];rfl);rw [hrp] at *;clear hrp;go_wp2_with fail;go_ret;exact ⟨ret_int HE.out,by rw [HGX.out];exact HW.out.trans (HV6.out.mono (by omega))⟩
        | true =>
         have HQ:=jj (rprocs_ok (l:=m.procs.drop (0 + 1)) HLT.out hrp)
         have R : ∃ (k' : Nat),k' ≤ m.procs.length ∧ Value.int .i64 (((0 : Nat) : Int) + 1) = .int .i64 (k' : Int) ∧ Hid (∃ last : Int,(k' = 0 → last = 0) ∧ (∀ q,k' = q + 1 → ∃ y,m.procs[q]? = some y ∧ y.pid = last) ∧ rprocsR m 0 m.procs = rprocsR m last (m.procs.drop k')) ∧ Hid (Below w1.heap.size w1 W) :=
          ⟨0 + 1,by omega,by go_num,jj ⟨x.pid,fun h => by omega,fun q hq => ⟨x,(by rw [show q = 0 by omega];exact HXP.out),rfl⟩,HN.out.trans HQ.out⟩,HV6⟩
         rw [hrp] at *;clear hrp;go_wp2_with fail
         go_roundw
         case rel => first | exact R | ((repeat apply Exists.intro);exact ⟨R,rfl⟩)
         case measure => simp [intOf];omega
      | succ q =>
       have hlp : last < x.pid:=by
        rcases Int.lt_or_le last x.pid with h' | h'
        ·exact h'
        ·exact absurd ⟨q,rfl,h'⟩ hq
       have HLT : Hid (last < x.pid ∨ last = 0):=jj (.inl hlp);have d4 : decide ((0 : Int) < ((q + 1 : Nat) : Int)) = true:=decide_eq_true (by omega);have d4' : decide ((0 : Int) < (q : Int) + 1) = true:=decide_eq_true (by omega);have d5 : decide (x.pid ≤ last) = false:=decide_eq_false (by omega);have u1 : IntKind.i64.wrap ((q : Int) + 1 - 1) = (q : Int):=(by rw [show (q : Int) + 1 - 1 = (q : Int) by omega];exact IntWalk.i64_in _ (by omega));have u2 : IntKind.i64.wrap (q : Int) = (q : Int):=IntWalk.i64_in _ (by omega);have j0 : (0 : Int) ≤ (q : Int):=(by omega);have j1 : (q : Int) < (m.procs.length : Int):=(by omega);clear hlp hq;refine' wp_region_sure (by kernel_rfl) (fun W => Below w4.heap.size w4 W) 20 [_,_,_,_,_,_,_,_,_,_,_,_,_,_,_,_,_,_,_,_] [some 90,some 91,some 92,some 93,some 94,some 95,some 96,some 97,some 98,some 99,some 100,some 101,some 102,some 103,some 104,some 105,some 106,some 107,some 108,some 109] (by kernel_rfl) (by kernel_rfl) (by kernel_rfl) (by kernel_rfl) rfl (Below.refl _ _).drew ?hs3
       case hs3 =>
        refine sure_cons ?_ ?_
        ·intro L ac W K hed hJ hS hK;have hA6 : ac.eval (.tmp 6) = .int .i64 ((q + 1 : Nat) : Int):=hJ.eval_old 6 (by kernel_rfl);clear hed hJ;refine opStep_of rfl ?_;unfold Oper.wp execOp;have hN6:=evalN hA6;go_simp;exact hK _ hS
        refine sure_cons ?_ ?_
        ·intro L ac W K hed hJ hS hK;have hn:=needs_spec (l:=[0]) (by kernel_rfl) hed;have hA90:=hJ.eval 0 (d:=90) (hn 0 (by simp)) rfl rfl rfl;clear hed hJ hn;refine opStep_of rfl ?_;unfold Oper.wp execOp;have hN90:=evalN hA90;go_simp;exact hK _ hS
        refine sure_cons ?_ ?_
        ·intro L ac W K hed hJ hS hK;have hn:=needs_spec (l:=[1]) (by kernel_rfl) hed;have hA91:=hJ.eval 1 (d:=91) (hn 1 (by simp)) rfl rfl rfl;clear hed hJ hn;refine opStep_of rfl ?_;unfold Oper.wp execOp;have hN91:=evalN hA91;go_simp;exact hK _ hS
        refine sure_cons ?_ ?_
        ·intro L ac W K hed hJ hS hK;have hn:=needs_spec (l:=[2]) (by kernel_rfl) hed;have hA1 : ac.eval (.tmp 1) = .pointer (some ⟨gx,0,none⟩):=hJ.eval_old 1 (by kernel_rfl);have hA92:=hJ.eval 2 (d:=92) (hn 2 (by simp)) rfl rfl rfl;have hsz:=hJ.size;clear hed hJ hn;refine opStep_yes rfl (d:=92) rfl (by rw [hsz];rfl) hA92 ?_;clear hsz;unfold Oper.wp execOp;have hN1:=evalN hA1;go_simp;exact hK _ hS
        refine sure_cons ?_ ?_
        ·intro L ac W K hed hJ hS hK;have hn:=needs_spec (l:=[2,3]) (by kernel_rfl) hed;have hA93:=hJ.eval 3 (d:=93) (hn 3 (by simp)) rfl rfl rfl;have hA92:=hJ.eval 2 (d:=92) (hn 2 (by simp)) rfl rfl rfl;have hsz:=hJ.size;clear hed hJ hn;refine opStep_yes rfl (d:=92) rfl (by rw [hsz];rfl) hA92 ?_;clear hsz;have c5 : W.cell? ⟨gx,5,none⟩ = some (.slice (some bd) m.procs.length a.cP):=(by rw [← HBD.out];exact (HC.out W (HV1.out.trans (hS.mono HV1.out.size))).cell 5);unfold Oper.wp execOp;have hN93:=evalN hA93;go_simp;exact hK _ hS
        refine sure_cons ?_ ?_
        ·intro L ac W K hed hJ hS hK;have hn:=needs_spec (l:=[2]) (by kernel_rfl) hed;have hA6 : ac.eval (.tmp 6) = .int .i64 ((q + 1 : Nat) : Int):=hJ.eval_old 6 (by kernel_rfl);have hA92:=hJ.eval 2 (d:=92) (hn 2 (by simp)) rfl rfl rfl;have hsz:=hJ.size;clear hed hJ hn;refine opStep_yes rfl (d:=92) rfl (by rw [hsz];rfl) hA92 ?_;clear hsz;unfold Oper.wp execOp;have hN6:=evalN hA6;go_simp;exact hK _ hS
        refine sure_cons ?_ ?_
        ·intro L ac W K hed hJ hS hK;have hn:=needs_spec (l:=[2,5]) (by kernel_rfl) hed;have hA95:=hJ.eval 5 (d:=95) (hn 5 (by simp)) rfl rfl rfl;have hA92:=hJ.eval 2 (d:=92) (hn 2 (by simp)) rfl rfl rfl;have hsz:=hJ.size;clear hed hJ hn;refine opStep_yes rfl (d:=92) rfl (by rw [hsz];rfl) hA92 ?_;clear hsz;unfold Oper.wp execOp;have hN95:=evalN hA95;go_simp;exact hK _ hS
        refine sure_cons ?_ ?_
        ·intro L ac W K hed hJ hS hK;have hn:=needs_spec (l:=[2,4,6]) (by kernel_rfl) hed;have hA94:=hJ.eval 4 (d:=94) (hn 4 (by simp)) rfl rfl rfl;have hA96:=hJ.eval 6 (d:=96) (hn 6 (by simp)) rfl rfl rfl;have hA92:=hJ.eval 2 (d:=92) (hn 2 (by simp)) rfl rfl rfl;have hsz:=hJ.size;clear hed hJ hn;refine opStep_yes rfl (d:=92) rfl (by rw [hsz];rfl) hA92 ?_;clear hsz;unfold Oper.wp execOp;have hN94:=evalN hA94;have hN96:=evalN hA96;go_simp;exact hK _ hS
        refine sure_cons ?_ ?_
        ·intro L ac W K hed hJ hS hK;have hn:=needs_spec (l:=[2,7]) (by kernel_rfl) hed;have hA97:=hJ.eval 7 (d:=97) (hn 7 (by simp)) rfl rfl rfl;have hA92:=hJ.eval 2 (d:=92) (hn 2 (by simp)) rfl rfl rfl;have hsz:=hJ.size;clear hed hJ hn;refine opStep_yes rfl (d:=92) rfl (by rw [hsz];rfl) hA92 ?_;clear hsz;unfold Oper.wp execOp;have hN97:=evalN hA97;go_simp;exact hK _ hS
        refine sure_cons ?_ ?_
        ·intro L ac W K hed hJ hS hK;have hn:=needs_spec (l:=[2,8]) (by kernel_rfl) hed;have hA98:=hJ.eval 8 (d:=98) (hn 8 (by simp)) rfl rfl rfl;have hA92:=hJ.eval 2 (d:=92) (hn 2 (by simp)) rfl rfl rfl;have hsz:=hJ.size;clear hed hJ hn;refine opStep_yes rfl (d:=92) rfl (by rw [hsz];rfl) hA92 ?_;clear hsz;have xp : W.cell? (bd.add (q * 96)) = some (.int .i64 last):=(hS.cell (HPB.out q)).trans (HPRE.out q rfl);unfold Oper.wp execOp;have hN98:=evalN hA98;go_simp;exact hK _ hS
        refine sure_cons ?_ ?_
        ·intro L ac W K hed hJ hS hK;have hn:=needs_spec (l:=[2]) (by kernel_rfl) hed;have hA7 : ac.eval (.tmp 7) = .pointer (some ⟨g4,0,none⟩):=hJ.eval_old 7 (by kernel_rfl);have hA92:=hJ.eval 2 (d:=92) (hn 2 (by simp)) rfl rfl rfl;have hsz:=hJ.size;clear hed hJ hn;refine opStep_yes rfl (d:=92) rfl (by rw [hsz];rfl) hA92 ?_;clear hsz;unfold Oper.wp execOp;have hN7:=evalN hA7;go_simp;exact hK _ hS
        refine sure_cons ?_ ?_
        ·intro L ac W K hed hJ hS hK;have hn:=needs_spec (l:=[2,10]) (by kernel_rfl) hed;have hA100:=hJ.eval 10 (d:=100) (hn 10 (by simp)) rfl rfl rfl;have hA92:=hJ.eval 2 (d:=92) (hn 2 (by simp)) rfl rfl rfl;have hsz:=hJ.size;clear hed hJ hn;refine opStep_yes rfl (d:=92) rfl (by rw [hsz];rfl) hA92 ?_;clear hsz;have x0 : W.cell? ⟨g4,0,none⟩ = some (.int .i64 x.pid):=(HX.out.below hS hg4).cell 0;unfold Oper.wp execOp;have hN100:=evalN hA100;go_simp;exact hK _ hS
        refine sure_cons ?_ ?_
        ·intro L ac W K hed hJ hS hK;have hn:=needs_spec (l:=[2,9,11]) (by kernel_rfl) hed;have hA99:=hJ.eval 9 (d:=99) (hn 9 (by simp)) rfl rfl rfl;have hA101:=hJ.eval 11 (d:=101) (hn 11 (by simp)) rfl rfl rfl;have hA92:=hJ.eval 2 (d:=92) (hn 2 (by simp)) rfl rfl rfl;have hsz:=hJ.size;clear hed hJ hn;refine opStep_yes rfl (d:=92) rfl (by rw [hsz];rfl) hA92 ?_;clear hsz;unfold Oper.wp execOp;have hN99:=evalN hA99;have hN101:=evalN hA101;go_simp;exact hK _ hS
        refine sure_cons ?_ ?_
        ·intro L ac W K hed hJ hS hK;have hn:=needs_spec (l:=[2,12]) (by kernel_rfl) hed;have hA92:=hJ.eval 2 (d:=92) (hn 2 (by simp)) rfl rfl rfl;have hA102:=hJ.eval 12 (d:=102) (hn 12 (by simp)) rfl rfl rfl;clear hed hJ hn;refine opStep_of rfl ?_;unfold Oper.wp execOp;have hN92:=evalN hA92;have hN102:=evalN hA102;go_simp;exact hK _ hS
        refine sure_cons ?_ ?_
        ·intro L ac W K hed hJ hS hK;have hn:=needs_spec (l:=[13]) (by kernel_rfl) hed;have hA103:=hJ.eval 13 (d:=103) (hn 13 (by simp)) rfl rfl rfl;clear hed hJ hn;refine opStep_of rfl ?_;unfold Oper.wp execOp;have hN103:=evalN hA103;go_simp;exact hK _ hS
        refine sure_cons ?_ ?_
        ·intro L ac W K hed hJ hS hK;have hn:=needs_spec (l:=[14]) (by kernel_rfl) hed;have hA1 : ac.eval (.tmp 1) = .pointer (some ⟨gx,0,none⟩):=hJ.eval_old 1 (by kernel_rfl);have hA104:=hJ.eval 14 (d:=104) (hn 14 (by simp)) rfl rfl rfl;have hsz:=hJ.size;clear hed hJ hn;refine opStep_yes rfl (d:=104) rfl (by rw [hsz];rfl) hA104 ?_;clear hsz;refine oper_load_at 30 (.tmp 1) rfl ⟨gx,0,none⟩ hA1 (mcL a m) _ (HC.out W (HV1.out.trans (hS.mono HV1.out.size))).reads Tryz.underlying30 rfl MI.out ?_;exact hK _ hS
        refine sure_cons ?_ ?_
        ·intro L ac W K hed hJ hS hK;have hn:=needs_spec (l:=[14]) (by kernel_rfl) hed;have hA7 : ac.eval (.tmp 7) = .pointer (some ⟨g4,0,none⟩):=hJ.eval_old 7 (by kernel_rfl);have hA104:=hJ.eval 14 (d:=104) (hn 14 (by simp)) rfl rfl rfl;have hsz:=hJ.size;clear hed hJ hn;refine opStep_yes rfl (d:=104) rfl (by rw [hsz];rfl) hA104 ?_;clear hsz;refine oper_load_at 48 (.tmp 7) rfl ⟨g4,0,none⟩ hA7 (prCells x) _ (HX.out.below hS hg4).reads Tryz.underlying48 rfl PIX.out ?_;exact hK _ hS
        refine sure_cons ?_ ?_
        ·intro L ac W K hed hJ hS hK;have hn:=needs_spec (l:=[14,15,16]) (by kernel_rfl) hed;have hA105:=hJ.eval 15 (d:=105) (hn 15 (by simp)) rfl rfl rfl;have hA106:=hJ.eval 16 (d:=106) (hn 16 (by simp)) rfl rfl rfl;have hA104:=hJ.eval 14 (d:=104) (hn 14 (by simp)) rfl rfl rfl;have hsz:=hJ.size;clear hed hJ hn;refine opStep_yes rfl (d:=104) rfl (by rw [hsz];rfl) hA104 ?_;clear hsz;unfold Oper.wp execOp;have hN105:=evalN hA105;have hN106:=evalN hA106;go_simp;refine (rprocess_any W a m HM.out (HMA.out W (HV1.out.trans (hS.mono HV1.out.size))) x HXO.out).mono ?_;rintro e W' ⟨rfl,hb⟩;have hS2:=hS.trans (hb.mono hS.size);dsimp only;exact hK W' hS2
        refine sure_cons ?_ ?_
        ·intro L ac W K hed hJ hS hK;have hn:=needs_spec (l:=[14,17]) (by kernel_rfl) hed;have hA107:=hJ.eval 17 (d:=107) (hn 17 (by simp)) rfl rfl rfl;have hA104:=hJ.eval 14 (d:=104) (hn 14 (by simp)) rfl rfl rfl;have hsz:=hJ.size;clear hed hJ hn;refine opStep_yes rfl (d:=104) rfl (by rw [hsz];rfl) hA104 ?_;clear hsz;unfold Oper.wp execOp;have hN107:=evalN hA107;go_simp;exact hK _ hS
        refine sure_cons ?_ ?_
        ·intro L ac W K hed hJ hS hK;have hn:=needs_spec (l:=[14,18]) (by kernel_rfl) hed;have hA104:=hJ.eval 14 (d:=104) (hn 14 (by simp)) rfl rfl rfl;have hA108:=hJ.eval 18 (d:=108) (hn 18 (by simp)) rfl rfl rfl;clear hed hJ hn;refine opStep_of rfl ?_;unfold Oper.wp execOp;have hN104:=evalN hA104;have hN108:=evalN hA108;go_simp;exact hK _ hS
        refine sure_nil ?_;intro W hS;simp only [putAll,Act.put,List.setIfInBounds_toArray,List.set_cons_zero,List.set_cons_succ];have HV6 : Hid (Below w1.heap.size w1 W):=jj (HV1.out.trans (hS.mono HV1.out.size));clear hS;cases hrp : rprocB m x with
        | false => have HBAD : Hid (rprocsR m 0 m.procs = false):=jj (by rw [HN.out];exact rprocs_no hrp);have HE : Hid (3 = checkE m):=jj (by have h3 : procsE m = 3:=(by rw [HPF'.out,HBAD.out];rfl);rw [HFE2.out,h3];rfl);rw [hrp] at *;clear hrp;go_wp2_with fail;go_ret;exact ⟨ret_int HE.out,by rw [HGX.out];exact HW.out.trans (HV6.out.mono (by omega))⟩
        | true =>
         have HQ:=jj (rprocs_ok (l:=m.procs.drop (q + 1 + 1)) HLT.out hrp)
         have R : ∃ (k' : Nat),k' ≤ m.procs.length ∧ Value.int .i64 (((q + 1 : Nat) : Int) + 1) = .int .i64 (k' : Int) ∧ Hid (∃ last : Int,(k' = 0 → last = 0) ∧ (∀ q,k' = q + 1 → ∃ y,m.procs[q]? = some y ∧ y.pid = last) ∧ rprocsR m 0 m.procs = rprocsR m last (m.procs.drop k')) ∧ Hid (Below w1.heap.size w1 W) :=
          ⟨q + 1 + 1,by omega,by go_num,jj ⟨x.pid,fun h => by omega,fun q' hq => ⟨x,(by rw [show q' = q + 1 by omega];exact HXP.out),rfl⟩,HN.out.trans HQ.out⟩,HV6⟩
         rw [hrp] at *;clear hrp;go_wp2_with fail
         go_roundw
         case rel => first | exact R | ((repeat apply Exists.intro);exact ⟨R,rfl⟩)
         case measure => simp [intOf];omega
    ·obtain rfl : k = m.procs.length:=(by omega);have hd : decide (m.procs.length < m.procs.length) = false:=(by simp);obtain ⟨last,_,_,hn⟩:=HI.out;rw [drop_end] at hn;have HN:=jj hn;have h0 : procsE m = 0:=(by rw [HPF'.out,if_pos (by rw [HN.out];rfl)]);have HFE3 : Hid (checkE m = if pipesE m ≠ 0 then pipesE m else if textsE m ≠ 0 then textsE m else volE m):=jj (by rw [HFE2.out,if_neg (by rw [h0];simp)]);clear h0 HFE2 HPF' HN hn HI;have HPI : Hid (pipesE m = if 64 < m.pipes.length then 6 else if pipesB m.newPipe 0 m.pipes = true then 0 else 3):=jj rfl;have c8 : wr.cell? ⟨gx,8,none⟩ = some (.slice a.Q m.pipes.length a.cQ):=(HC.out wr HV.out).cell 8;by_cases h1 : 64 < m.pipes.length
     ·have HE : Hid (6 = checkE m):=jj (by have h6 : pipesE m = 6:=(by rw [HPI.out,if_pos h1]);rw [HFE3.out,h6];rfl);have d : decide ((64 : Int) < (m.pipes.length : Int)) = true:=decide_eq_true (by omega);have d' : decide (64 < m.pipes.length) = true:=decide_eq_true h1;clear h1;go_wp2_with fail;go_ret;exact ⟨ret_int HE.out,by rw [HGX.out];exact HW.out.trans (HV.out.mono (by omega))⟩
     have HPI' : Hid (pipesE m = if pipesB m.newPipe 0 m.pipes = true then 0 else 3):=jj (by rw [HPI.out,if_neg h1]);have d : decide ((64 : Int) < (m.pipes.length : Int)) = false:=decide_eq_false (by omega);have d' : decide (64 < m.pipes.length) = false:=decide_eq_false h1;have hpi : m.pipes.length ≤ 64:=(by omega);clear h1 HPI hlt hk;go_wp2_with fail;clear d d' c8 hd hp8;obtain ⟨wo2,hwo2⟩ : ∃ wo2 : World,wo2 = wr:=⟨_,rfl⟩;subst hwo2
     go_loopw [118] (fun i wr => ∃ (k : Nat),k ≤ m.pipes.length ∧ i = .int .i64 (k : Int) ∧ Hid (∃ last : Int,0 ≤ last ∧ (k = 0 → last = 0) ∧ (∀ q,k = q + 1 → 1 ≤ last ∧ ∃ y,m.pipes[q]? = some y ∧ y.1 = last) ∧ pipesB m.newPipe 0 m.pipes = pipesB m.newPipe last (m.pipes.drop k)) ∧ Hid (Below w1.heap.size w1 wr)) (fun i _ => m.pipes.length - (intOf i).toNat)
     case atStart => exact ⟨0,by omega,rfl,jj ⟨0,by omega,fun _ => rfl,fun q hq => by omega,rfl⟩,HV⟩
     case round =>
      clear HV;obtain ⟨k,hk,rfl,HI,HV⟩:=hrel;by_cases hlt : k < m.pipes.length
      ·obtain ⟨p,hx⟩:=get_some hlt;have HD:=jj (drop_cons hx);have HXP:=jj hx;obtain ⟨last,hla,hl0,hlq,HN⟩:=HI.out;rw [HD.out] at HN;obtain ⟨bd,hbdr,hbd,hc⟩:=Lies.row (f:=nbCells1) (n:=2) (HMA.out wr HV.out).Q (fun y hy => rfl) (by omega) hx;have LD : Hid (∀ j v,(nbCells1 p)[j]? = some v → wr.cell? ((bd.add (k * 2)).add j) = some v):=jj hc;have hzv:=HV.out.size;have HZ : Hid (Whole (wr.alloc (.cells #[.int .i64 0,.string { data:=#[] }] 72)) wr.heap.size 72 (nbCells1 (0,[])).toArray):=jj (Whole.made wr 72 (nbCells1 (0,[])).toArray);have HVZ:=jj (HV.out.alloc hzv (.cells #[.int .i64 0,.string { data:=#[] }] 72));have HBD:=jj hbdr;rw [hbdr];clear hc hx hbdr;have i0 : (0 : Int) ≤ (k : Int):=(by omega);have i1 : (k : Int) < (m.pipes.length : Int):=(by omega)
       go_upto_region 25 with (first
        | (refine wpList_load_at rfl 72 (.tmp 121) rfl (bd.add (k * 2)) rfl (nbCells1 p) _ LD.out Tryz.underlying72 rfl (by kernel_rfl) ?_)
        | (refine wpList_store_all rfl 72 (.tmp 9) (.tmp 122) rfl rfl wr.heap.size rfl (nbCells1 p) rfl (by kernel_rfl) (nbCells1 (0,[])) 72 HZ.out rfl (nb_one p) ?_;intro w4 HX HG4))
       have HV1 : Hid (Below w1.heap.size w1 w4):=jj (below_grown HVZ.out HG4.out HVZ.out.size hzv)
       have HPRE : Hid (∀ q,k = q + 1 → w4.cell? (bd.add (q * 2)) = some (.int .i64 last)):=jj (fun q hq => by
        obtain ⟨_,y,hy,hyl⟩:=hlq q hq;obtain ⟨bd',hbdr',_,hc'⟩:=Lies.row (f:=nbCells1) (n:=2) (HMA.out _ HV1.out).Q (fun y hy => rfl) (by omega) hy;rw [HBD.out] at hbdr';injection hbdr' with hbb;subst hbb;have:=hc' 0 _ rfl;rw [Addr.add_zero',hyl] at this;exact this)
       have m8 : w4.cell? ⟨gx,8,none⟩ = some (.slice (some bd) m.pipes.length a.cQ):=(by rw [← HBD.out];exact (HC.out _ HV1.out).cell 8);have m9 : w4.cell? ⟨gx,9,none⟩ = some (.int .i64 m.newPipe):=(HC.out _ HV1.out).cell 9;have HGE : Hid (w1.heap.size ≤ wr.heap.size):=jj hzv;clear LD hzv HV HZ HVZ HG4;generalize wr.heap.size = g4 at *;obtain ⟨id,dt⟩:=p;have x0 : w4.cell? ⟨g4,0,none⟩ = some (.int .i64 id):=HX.out.cell 0;have x1 : w4.cell? ⟨g4,1,none⟩ = some (S dt):=HX.out.cell 1;by_cases h : last < id ∧ id < m.newPipe ∧ dt.length ≤ 64
       ·have HQ:=jj (pipesB_yes (n:=m.newPipe) (last:=last) (p:=(id,dt)) (l:=m.pipes.drop (k + 1)) h.1 h.2.1 h.2.2);obtain ⟨q1,q2,q3⟩:=h;have R : ∀ M : Nat,∃ (k' : Nat),k' ≤ m.pipes.length ∧ Value.int .i64 ((k : Int) + 1) = .int .i64 (k' : Int) ∧ Hid (∃ last : Int,0 ≤ last ∧ (k' = 0 → last = 0) ∧ (∀ q,k' = q + 1 → 1 ≤ last ∧ ∃ y,m.pipes[q]? = some y ∧ y.1 = last) ∧ pipesB m.newPipe 0 m.pipes = pipesB m.newPipe last (m.pipes.drop k')) ∧ Hid (Below w1.heap.size w1 (w4.drewN M)):=fun M => ⟨k + 1,by omega,by go_num,jj ⟨id,by omega,fun h => by omega,fun q hq => ⟨by omega,(id,dt),(by rw [show q = k by omega];exact HXP.out),rfl⟩,HN.trans HQ.out⟩,jj (Below.draws HV1.out _)⟩;have d1 : decide (id < 1) = false:=decide_eq_false (by omega);have d2 : decide (m.newPipe ≤ id) = false:=decide_eq_false (by omega);have d3 : decide ((64 : Int) < (dt.length : Int)) = false:=decide_eq_false (by omega);have d3' : decide (64 < dt.length) = false:=decide_eq_false (by omega);cases k with
        | zero =>
         clear q1 q2 q3 hlq hl0;go_quiet (fail);go_wp2_with fail
         go_roundw
         case rel => first | exact R _ | ((repeat apply Exists.intro);exact ⟨R _,rfl⟩)
         case measure => simp [intOf];omega
        | succ q =>
         have d5 : decide (id ≤ last) = false:=decide_eq_false (by omega);have d4 : decide ((0 : Int) < ((q + 1 : Nat) : Int)) = true:=decide_eq_true (by omega);have d4' : decide ((0 : Int) < (q : Int) + 1) = true:=decide_eq_true (by omega);have xp:=HPRE.out q rfl;have u1 : IntKind.i64.wrap ((q : Int) + 1 - 1) = (q : Int):=(by rw [show (q : Int) + 1 - 1 = (q : Int) by omega];exact IntWalk.i64_in _ (by omega));have j0 : (0 : Int) ≤ (q : Int):=(by omega);have j1 : (q : Int) < (m.pipes.length : Int):=(by omega);clear q1 q2 q3 hlq hl0;go_quiet (fail);go_wp2_with fail
         go_roundw
         case rel => first | exact R _ | ((repeat apply Exists.intro);exact ⟨R _,rfl⟩)
         case measure => simp [intOf];omega
       ·have HE : Hid (3 = checkE m):=jj (by have h3 : pipesE m = 3:=(by rw [HPI'.out,HN,pipesB_no h];rfl);rw [HFE3.out,h3];rfl);by_cases q0 : id < 1
        ·have d1 : decide (id < 1) = true:=decide_eq_true q0;clear h q0 hlq hl0 hla;go_quiet (fail);go_wp2_with fail;go_ret;exact ⟨ret_int HE.out,by rw [HGX.out];exact HW.out.trans ((Below.draws HV1.out _).mono (by omega))⟩
        have d1 : decide (id < 1) = false:=decide_eq_false q0;by_cases q2 : m.newPipe ≤ id
        ·have d2 : decide (m.newPipe ≤ id) = true:=decide_eq_true q2;clear h q0 q2 hlq hl0 hla;go_quiet (fail);go_wp2_with fail;go_ret;exact ⟨ret_int HE.out,by rw [HGX.out];exact HW.out.trans ((Below.draws HV1.out _).mono (by omega))⟩
        have d2 : decide (m.newPipe ≤ id) = false:=decide_eq_false q2;cases k with
        | zero =>
         have hl:=hl0 rfl
         have d3 : decide ((64 : Int) < (dt.length : Int)) = true:=decide_eq_true (by
          rcases Nat.lt_or_ge 64 dt.length with h' | h'
          ·omega
          ·exact absurd ⟨by omega,by omega,h'⟩ h)
         have d3' : decide (64 < dt.length) = true:=decide_eq_true (by
          rcases Nat.lt_or_ge 64 dt.length with h' | h'
          ·exact h'
          ·exact absurd ⟨by omega,by omega,h'⟩ h)
         clear h q0 q2 hlq hl0 hla hl;go_quiet (fail);go_wp2_with fail;go_ret;exact ⟨ret_int HE.out,by rw [HGX.out];exact HW.out.trans ((Below.draws HV1.out _).mono (by omega))⟩
        | succ q =>
         by_cases q1 : id ≤ last
         ·have d5 : decide (id ≤ last) = true:=decide_eq_true q1;have d4 : decide ((0 : Int) < ((q + 1 : Nat) : Int)) = true:=decide_eq_true (by omega);have d4' : decide ((0 : Int) < (q : Int) + 1) = true:=decide_eq_true (by omega);have xp:=HPRE.out q rfl;have u1 : IntKind.i64.wrap ((q : Int) + 1 - 1) = (q : Int):=(by rw [show (q : Int) + 1 - 1 = (q : Int) by omega];exact IntWalk.i64_in _ (by omega));have j0 : (0 : Int) ≤ (q : Int):=(by omega);have j1 : (q : Int) < (m.pipes.length : Int):=(by omega);clear h q0 q1 q2 hlq hl0 hla;go_quiet (fail);go_wp2_with fail;go_ret;exact ⟨ret_int HE.out,by rw [HGX.out];exact HW.out.trans ((Below.draws HV1.out _).mono (by omega))⟩
         have d5 : decide (id ≤ last) = false:=decide_eq_false q1
         have d3 : decide ((64 : Int) < (dt.length : Int)) = true:=decide_eq_true (by
          rcases Nat.lt_or_ge 64 dt.length with h' | h'
          ·omega
          ·exact absurd ⟨by omega,by omega,h'⟩ h)
         have d3' : decide (64 < dt.length) = true:=decide_eq_true (by
          rcases Nat.lt_or_ge 64 dt.length with h' | h'
          ·exact h'
          ·exact absurd ⟨by omega,by omega,h'⟩ h)
         have d4 : decide ((0 : Int) < ((q + 1 : Nat) : Int)) = true:=decide_eq_true (by omega);have d4' : decide ((0 : Int) < (q : Int) + 1) = true:=decide_eq_true (by omega);have xp:=HPRE.out q rfl;have u1 : IntKind.i64.wrap ((q : Int) + 1 - 1) = (q : Int):=(by rw [show (q : Int) + 1 - 1 = (q : Int) by omega];exact IntWalk.i64_in _ (by omega));have j0 : (0 : Int) ≤ (q : Int):=(by omega);have j1 : (q : Int) < (m.pipes.length : Int):=(by omega);clear h q0 q1 q2 hlq hl0 hla;go_quiet (fail);go_wp2_with fail;go_ret;exact ⟨ret_int HE.out,by rw [HGX.out];exact HW.out.trans ((Below.draws HV1.out _).mono (by omega))⟩
      ·obtain rfl : k = m.pipes.length:=(by omega);have hd : decide (m.pipes.length < m.pipes.length) = false:=(by simp);obtain ⟨last,_,_,_,hn⟩:=HI.out;rw [drop_end] at hn;have h0 : pipesE m = 0:=(by rw [HPI'.out,if_pos (by rw [hn];rfl)]);have HFE4 : Hid (checkE m = if textsE m ≠ 0 then textsE m else volE m):=jj (by rw [HFE3.out,if_neg (by rw [h0];simp)]);have HTE : Hid (textsE m = if 65536 < m.inp.length ∨ 128 < m.init.length then 6 else 0):=jj rfl;have c10 : wr.cell? ⟨gx,10,none⟩ = some (S m.inp):=(HC.out wr HV.out).cell 10;have c7 : wr.cell? ⟨gx,7,none⟩ = some (S m.init):=(HC.out wr HV.out).cell 7;clear h0 HFE3 HPI' hn HI;by_cases h1 : 65536 < m.inp.length
       ·have HE : Hid (6 = checkE m):=jj (by have h6 : textsE m = 6:=(by rw [HTE.out,if_pos (.inl h1)]);rw [HFE4.out,h6];rfl);have d : decide ((65536 : Int) < (m.inp.length : Int)) = true:=decide_eq_true (by omega);have d' : decide (65536 < m.inp.length) = true:=decide_eq_true h1;clear h1;go_wp2_with fail;go_ret;exact ⟨ret_int HE.out,by rw [HGX.out];exact HW.out.trans (HV.out.mono (by omega))⟩
       have d : decide ((65536 : Int) < (m.inp.length : Int)) = false:=decide_eq_false (by omega);have d' : decide (65536 < m.inp.length) = false:=decide_eq_false h1;by_cases h2 : 128 < m.init.length
       ·have HE : Hid (6 = checkE m):=jj (by have h6 : textsE m = 6:=(by rw [HTE.out,if_pos (.inr h2)]);rw [HFE4.out,h6];rfl);have e : decide ((128 : Int) < (m.init.length : Int)) = true:=decide_eq_true (by omega);have e' : decide (128 < m.init.length) = true:=decide_eq_true h2;clear h1 h2;go_wp2_with fail;go_ret;exact ⟨ret_int HE.out,by rw [HGX.out];exact HW.out.trans (HV.out.mono (by omega))⟩
       have e : decide ((128 : Int) < (m.init.length : Int)) = false:=decide_eq_false (by omega);have e' : decide (128 < m.init.length) = false:=decide_eq_false h2;have HE : Hid (volE m = checkE m):=jj (by have h6 : textsE m = 0:=(by rw [HTE.out,if_neg (fun h => h.elim h1 h2)]);rw [HFE4.out,h6];rfl);have LM:=jj (HC.out wr HV.out).reads;have CV:=jj (rdisk_any wr a m HM.out (HMA.out wr HV.out));clear h1 h2;go_wp2_with (refine wpList_load_at rfl 30 (.tmp 1) rfl ⟨gx,0,none⟩ rfl (mcL a m) _ LM.out Tryz.underlying30 rfl MI.out ?_);refine CV.out.mono ?_;rintro e w5 ⟨rfl,hb5⟩;have HV5:=jj (HV.out.trans (hb5.mono HV.out.size));clear hb5 CV LM;go_wp2_with fail;go_ret;exact ⟨ret_int HE.out,by rw [HGX.out];exact HW.out.trans (HV5.out.mono (by omega))⟩
end Go.Proofs.YtdkhnjjihbmlmaaGreatDoor
