import Derived.Test.YtdkhnjjihbmlmaaGreatDoorYcA
import Derived.Test.YtdkhnjjihbmlmaaGreatDoorPlnA
namespace Go.Proofs.YtdkhnjjihbmlmaaGreatDoor
open Go.RowKit
set_option maxRecDepth 100000 in
set_option maxHeartbeats 2000000 in
theorem rlives_any (w : World) (a : MA) (m : Mc) (hm : McOk m) (hA : MAt w w.heap.size a m) (pid : Int) :
  Calls Tryz.prog 39 #[.agg (mcL a m).toArray,.int .i64 pid] w fun e w' => e = .returned (.bool (livesAt m pid)) ∧ Below w.heap.size w w':=by
 have hs0:=Whole.made w 30 (mcL a m).toArray;have hb : Below w.heap.size w (w.alloc (.cells (mcL a m).toArray 30)):=(Below.refl _ _).alloc (Nat.le_refl _) _;go_enter Tryz.func39,Tryz.ntmps39;go_upto_region 1 with (fail);change Code.wp _ _ _ _ (w.alloc (.cells (mcL a m).toArray 30));generalize (w.alloc (.cells (mcL a m).toArray 30)) = w1 at *;generalize hgx : w.heap.size = gx at *;have HGX:=jj hgx;have HS0:=jj hs0;have HW:=jj hb;have hgl : gx < w1.heap.size:=hs0.lt;clear hgx hb hs0;have HA:=jj (hA.below HW.out);have HM:=jj hm;have HMA : Hid (∀ W,Below w1.heap.size w1 W → MAt W W.heap.size a m):=jj fun W hW => (HA.out.below (hW.mono (by omega))).wide (by have:=hW.size;omega);have HC : Hid (∀ W,Below w1.heap.size w1 W → Whole W gx 30 (mcL a m).toArray):=jj fun W hW => HS0.out.below hW (by omega);clear hm hA;have c5 : w1.cell? ⟨gx,5,none⟩ = some (.slice a.P m.procs.length a.cP):=(HC.out w1 (Below.refl _ _)).cell 5;go_wp2_with fail;clear c5
 go_loopw [10] (fun i wr => ∃ k : Nat,k ≤ m.procs.length ∧ i = .int .i64 (k : Int) ∧ Hid ((m.procs.take k).any (fun q : Pr => q.pid == pid && livesB q) = false) ∧ Hid (Below w1.heap.size w1 wr)) (fun i _ => m.procs.length - (intOf i).toNat)
 case atStart => exact ⟨0,by omega,rfl,jj rfl,jj (Below.refl _ _)⟩
 case round =>
  obtain ⟨k,hk,rfl,HN,HV⟩:=hrel;have hk38:=HM.out.sizes.2.1;by_cases hlt : k < m.procs.length
  ·obtain ⟨x,hx⟩:=get_some hlt;have HXO:=jj (HM.out.procs x (List.mem_of_getElem? hx));obtain ⟨ad,hadr,had,hc⟩:=Lies.row (f:=prCells) (n:=96) (HMA.out wr HV.out).P (fun y hy => prCells_length (HM.out.procs y hy)) (by omega) hx;have LD : Hid (∀ j v,(prCells x)[j]? = some v → wr.cell? ((ad.add (k * 96)).add j) = some v):=jj hc;have hzv:=HV.out.size;have hxl:=prCells_length HXO.out;have PIX : Hid ((Tryz.prog.info? 48).map (·.size) = some (prCells x).length):=jj (by rw [hxl];exact Tryz.sizePr);have PIZ : Hid ((Tryz.prog.info? 48).map (fun i => (i.zero,i.size)) = some (some (.agg (prCells zeroPr).toArray),(prCells x).length)):=jj (by rw [hxl];exact Tryz.infoPr);have PZS : Hid ((Value.agg (prCells zeroPr).toArray).cells.size = (prCells x).length):=jj (by rw [hxl];rfl);have HX:=jj (Whole.made wr 48 (prCells x).toArray);have HV1:=jj (HV.out.alloc hzv (.cells (prCells x).toArray 48));have HY:=jj (@any_yes _ (fun q : Pr => q.pid == pid && livesB q) m.procs k x hx);have HNO:=jj (@any_no _ (fun q : Pr => q.pid == pid && livesB q) m.procs k x hx HN.out);clear hx;rw [hadr];clear hc hadr hxl;have i0 : (0 : Int) ≤ (k : Int):=(by omega);have i1 : (k : Int) < (m.procs.length : Int):=(by omega)
   go_upto_region 4 with (first
    | (refine wpList_load_at rfl 48 (.tmp 12) rfl (ad.add (k * 96)) rfl (prCells x) _ LD.out Tryz.underlying48 rfl PIX.out ?_)
    | (refine wpList_fresh rfl rfl 48 6 (.tmp 13) rfl rfl rfl rfl (prCells x) rfl rfl _ PIZ.out PZS.out prCells_one ?_))
   change Code.wp _ _ _ _ (wr.alloc (.cells (prCells x).toArray 48));have HGE : Hid (w1.heap.size ≤ wr.heap.size):=jj hzv;clear LD PIZ PZS HV hzv;generalize wr.alloc (.cells (prCells x).toArray 48) = w2 at *;generalize wr.heap.size = g2 at *;have hg2:=HX.out.lt;have x0 : w2.cell? ⟨g2,0,none⟩ = some (.int .i64 x.pid):=HX.out.cell 0;have x2 : w2.cell? ⟨g2,2,none⟩ = some (.int .i64 x.state):=HX.out.cell 2;have HLB : Hid (livesB x = (x.state == 1 || x.state == 2)):=jj rfl;generalize x.state = st at *;by_cases hp : x.pid = pid
   ·have e1 : (x.pid == pid) = true:=beq_iff_eq.2 hp;by_cases h1 : st = 1
    ·have HQ:=jj (HY.out (by rw [HLB.out,e1,h1];rfl));subst h1;clear hp HY HNO HLB;go_wp2_with fail;go_ret;exact ⟨ret_bool HQ.out.symm,by rw [HGX.out];exact HW.out.trans (HV1.out.mono (by omega))⟩
    ·have s1 : (st == 1) = false:=beq_eq_false_iff_ne.2 h1;by_cases h2 : st = 2
     ·have HQ:=jj (HY.out (by rw [HLB.out,e1,h2];rfl));subst h2;clear hp HY HNO HLB h1;go_wp2_with fail;go_ret;exact ⟨ret_bool HQ.out.symm,by rw [HGX.out];exact HW.out.trans (HV1.out.mono (by omega))⟩
     ·have s2 : (st == 2) = false:=beq_eq_false_iff_ne.2 h2;have HQ:=jj (HNO.out (by rw [HLB.out,s1,s2];simp));clear hp HY HNO HLB h1 h2;go_wp2_with fail
      go_roundw
      case rel =>
       have R : ∃ k' : Nat,k' ≤ m.procs.length ∧ Value.int .i64 ((k : Int) + 1) = .int .i64 (k' : Int) ∧ Hid ((m.procs.take k').any (fun q : Pr => q.pid == pid && livesB q) = false) ∧ Hid (Below w1.heap.size w1 w2):=⟨k + 1,by omega,by go_num,HQ,HV1⟩
       first | exact R | ((repeat apply Exists.intro);exact ⟨R,rfl⟩)
      case measure => simp [intOf];omega
   ·have e1 : (x.pid == pid) = false:=beq_eq_false_iff_ne.2 hp;have HQ:=jj (HNO.out (by rw [e1];rfl));clear hp HY HNO HLB;go_wp2_with fail
    go_roundw
    case rel =>
     have R : ∃ k' : Nat,k' ≤ m.procs.length ∧ Value.int .i64 ((k : Int) + 1) = .int .i64 (k' : Int) ∧ Hid ((m.procs.take k').any (fun q : Pr => q.pid == pid && livesB q) = false) ∧ Hid (Below w1.heap.size w1 w2):=⟨k + 1,by omega,by go_num,HQ,HV1⟩
     first | exact R | ((repeat apply Exists.intro);exact ⟨R,rfl⟩)
    case measure => simp [intOf];omega
  ·obtain rfl : k = m.procs.length:=(by omega);have hd : decide (m.procs.length < m.procs.length) = false:=(by simp);rw [List.take_of_length_le (Nat.le_refl _)] at HN;go_wp2_with fail;go_ret;exact ⟨ret_bool HN.out.symm,by rw [HGX.out];exact HW.out.trans (HV.out.mono (by omega))⟩
set_option maxRecDepth 100000 in
set_option maxHeartbeats 2000000 in
theorem users_any (w : World) (a : MA) (m : Mc) (hm : McOk m) (hA : MAt w w.heap.size a m) (f : Int) :
  Calls Tryz.prog 40 #[.agg (mcL a m).toArray,.int .i64 f] w fun e w' => e = .returned (.int .i64 (usersL m.procs f : Nat)) ∧ Below w.heap.size w w':=by
 have hs0:=Whole.made w 30 (mcL a m).toArray;have hb : Below w.heap.size w (w.alloc (.cells (mcL a m).toArray 30)):=(Below.refl _ _).alloc (Nat.le_refl _) _;go_enter Tryz.func40,Tryz.ntmps40;go_upto_region 1 with (fail);change Code.wp _ _ _ _ (w.alloc (.cells (mcL a m).toArray 30));generalize (w.alloc (.cells (mcL a m).toArray 30)) = w1 at *;generalize hgx : w.heap.size = gx at *;have HGX:=jj hgx;have HS0:=jj hs0;have HW:=jj hb;have hgl : gx < w1.heap.size:=hs0.lt;clear hgx hb hs0;have HA:=jj (hA.below HW.out);have HM:=jj hm;have HMA : Hid (∀ W,Below w1.heap.size w1 W → MAt W W.heap.size a m):=jj fun W hW => (HA.out.below (hW.mono (by omega))).wide (by have:=hW.size;omega);have HC : Hid (∀ W,Below w1.heap.size w1 W → Whole W gx 30 (mcL a m).toArray):=jj fun W hW => HS0.out.below hW (by omega);clear hm hA;have c5 : ∀ W,Below w1.heap.size w1 W → W.cell? ⟨gx,5,none⟩ = some (.slice a.P m.procs.length a.cP):=fun W hW => (HC.out W hW).cell 5;have HC5:=jj c5;clear c5;have c5:=HC5.out w1 (Below.refl _ _);have HALL : Hid (usersL m.procs f = usersL (m.procs.take m.procs.length) f):=jj (by rw [List.take_of_length_le (Nat.le_refl _)]);go_wp2_with fail;clear c5
 go_loopw [5,13] (fun n i wr => ∃ k z : Nat,k ≤ m.procs.length ∧ i = .int .i64 (k : Int) ∧ n = .int .i64 (z : Int) ∧ z ≤ 16 * k ∧ Hid (usersL (m.procs.take k) f = z) ∧ Hid (Below w1.heap.size w1 wr)) (fun _ i _ => m.procs.length - (intOf i).toNat)
 case atStart => exact ⟨0,0,by omega,rfl,rfl,by omega,jj rfl,jj (Below.refl _ _)⟩
 case round =>
  obtain ⟨k,z,hk,rfl,rfl,hz,HN,HV⟩:=hrel;have hk38:=HM.out.sizes.2.1;by_cases hlt : k < m.procs.length
  ·obtain ⟨x,hx⟩:=get_some hlt;have HXO:=jj (HM.out.procs x (List.mem_of_getElem? hx));obtain ⟨ad,hadr,had,hc⟩:=Lies.row (f:=prCells) (n:=96) (HMA.out wr HV.out).P (fun y hy => prCells_length (HM.out.procs y hy)) (by omega) hx;have LD : Hid (∀ j v,(prCells x)[j]? = some v → wr.cell? ((ad.add (k * 96)).add j) = some v):=jj hc;have hzv:=HV.out.size;have hxl:=prCells_length HXO.out;have PIX : Hid ((Tryz.prog.info? 48).map (·.size) = some (prCells x).length):=jj (by rw [hxl];exact Tryz.sizePr);have PIZ : Hid ((Tryz.prog.info? 48).map (fun i => (i.zero,i.size)) = some (some (.agg (prCells zeroPr).toArray),(prCells x).length)):=jj (by rw [hxl];exact Tryz.infoPr);have PZS : Hid ((Value.agg (prCells zeroPr).toArray).cells.size = (prCells x).length):=jj (by rw [hxl];rfl);have HX:=jj (Whole.made wr 48 (prCells x).toArray);have HV1:=jj (HV.out.alloc hzv (.cells (prCells x).toArray 48));have HSN:=jj (usersL_snoc hx f);rw [HN.out] at HSN;clear hx;rw [hadr];clear hc hadr hxl;have i0 : (0 : Int) ≤ (k : Int):=(by omega);have i1 : (k : Int) < (m.procs.length : Int):=(by omega)
   go_upto_region 5 with (first
    | (refine wpList_load_at rfl 48 (.tmp 15) rfl (ad.add (k * 96)) rfl (prCells x) _ LD.out Tryz.underlying48 rfl PIX.out ?_)
    | (refine wpList_fresh rfl rfl 48 7 (.tmp 16) rfl rfl rfl rfl (prCells x) rfl rfl _ PIZ.out PZS.out prCells_one ?_))
   change Code.wp _ _ _ _ (wr.alloc (.cells (prCells x).toArray 48));have HGE : Hid (w1.heap.size ≤ wr.heap.size):=jj hzv;clear LD PIZ PZS HV hzv;generalize wr.alloc (.cells (prCells x).toArray 48) = w2 at *;generalize wr.heap.size = g2 at *;have hg2:=HX.out.lt;have LSP:=jj (pr_space_cells HXO.out HX.out);have SSP : Hid ((Tryz.prog.info? 43).map (·.size) = some (pgCells x.space).length):=jj (by rw [pgCells_length,HXO.out.space];exact Tryz.sizeSpace);go_wp2_with (refine wpList_load_at rfl 43 (.tmp 17) rfl ⟨g2,20,none⟩ rfl (pgCells x.space) _ LSP.out Tryz.underlying43 rfl SSP.out ?_);clear LSP;obtain ⟨wo,hwo⟩ : ∃ wo : World,wo = wr:=⟨_,rfl⟩;subst hwo
   go_loopw [5,19] (fun n i wr => ∃ j z' : Nat,j ≤ 16 ∧ i = .int .i64 (j : Int) ∧ n = .int .i64 (z' : Int) ∧ z' ≤ 16 * k + j ∧ Hid (z + usersP (x.space.take j) f = z') ∧ Hid (Below w1.heap.size w1 wr)) (fun _ i _ => 16 - (intOf i).toNat)
   case atStart => exact ⟨0,z,by omega,rfl,rfl,by omega,jj rfl,HV1⟩
   case round =>
    clear HV1;obtain ⟨j,z',hj,rfl,rfl,hz',HP,HV⟩:=hrel;have hgs:=HV.out.size;by_cases hlj : j < 16
    ·obtain ⟨g,hg⟩:=get_some (l:=x.space) (k:=j) (by rw [HXO.out.space];exact hlj);have HPS:=jj (usersP_snoc hg f);have HFR:=jj (flat_row pgCells1 3 x.space (fun _ _ => rfl) hg);have hl1 : decide ((j : Int) < 16) = true:=decide_eq_true (by omega);have hl2 : decide (j < 16) = true:=decide_eq_true hlj;have HVn:=jj (HV.out.alloc hgs (.cells (pgCells1 g).toArray 41));have HYn:=jj (Whole.made wr 41 (pgCells1 g).toArray);clear hg
     go_upto_region 8 with (first
      | (refine wpList_index_structs rfl 43 (.tmp 18) (.tmp 19) rfl 41 _ 16 3 (pgCells x.space) .i64 j rfl rfl Tryz.underlying43 Tryz.underlying41 Tryz.sizePg hlj (pgCells1 g) HFR.out ?_)
      | (refine wpList_fresh rfl rfl 41 9 (.tmp 21) rfl rfl rfl rfl (pgCells1 g) rfl rfl _ Tryz.infoPg rfl (pg_one g) ?_))
     change Code.wp _ _ _ _ (wr.alloc (.cells (pgCells1 g).toArray 41));clear HV HFR hl1 hl2;generalize wr.alloc (.cells (pgCells1 g).toArray 41) = w5 at *;generalize wr.heap.size = g3 at *;obtain ⟨gi,gw,gf⟩:=g;have y0 : w5.cell? ⟨g3,0,none⟩ = some (.bool gi):=HYn.out.cell 0;have y2 : w5.cell? ⟨g3,2,none⟩ = some (.int .i64 gf):=HYn.out.cell 2;by_cases hh : gi = true ∧ gf = f
     ·obtain ⟨rfl,rfl⟩:=hh;have HQ : Hid (z + usersP (x.space.take (j + 1)) gf = z' + 1):=jj (by rw [HPS.out,if_pos ⟨rfl,rfl⟩,← HP.out];omega);go_wp2_with fail
      go_roundw
      case rel =>
       have R : ∃ j' z'' : Nat,j' ≤ 16 ∧ Value.int .i64 ((j : Int) + 1) = .int .i64 (j' : Int) ∧ Value.int .i64 ((z' : Int) + 1) = .int .i64 (z'' : Int) ∧ z'' ≤ 16 * k + j' ∧ Hid (z + usersP (x.space.take j') gf = z'') ∧ Hid (Below w1.heap.size w1 w5):=⟨j + 1,z' + 1,by omega,by go_num,by go_num,by omega,HQ,HVn⟩
       first | exact R | ((repeat apply Exists.intro);exact ⟨R,rfl⟩)
      case measure => simp [intOf];omega
     ·have HQ : Hid (z + usersP (x.space.take (j + 1)) f = z'):=jj (by rw [HPS.out,if_neg hh,← HP.out];omega);have R : ∃ j' z'' : Nat,j' ≤ 16 ∧ Value.int .i64 ((j : Int) + 1) = .int .i64 (j' : Int) ∧ Value.int .i64 (z' : Int) = .int .i64 (z'' : Int) ∧ z'' ≤ 16 * k + j' ∧ Hid (z + usersP (x.space.take j') f = z'') ∧ Hid (Below w1.heap.size w1 w5):=⟨j + 1,z',by omega,by go_num,rfl,by omega,HQ,HVn⟩;have HR:=jj R;clear R;cases gi with
      | false =>
       clear hh;go_wp2_with fail
       go_roundw
       case rel => first | exact HR.out | ((repeat apply Exists.intro);exact ⟨HR.out,rfl⟩)
       case measure => simp [intOf];omega
      | true =>
       have e1 : (gf == f) = false:=beq_eq_false_iff_ne.2 (fun h => hh ⟨rfl,h⟩);clear hh;go_wp2_with fail
       go_roundw
       case rel => first | exact HR.out | ((repeat apply Exists.intro);exact ⟨HR.out,rfl⟩)
       case measure => simp [intOf];omega
    ·obtain rfl : j = 16:=(by omega);have HQ : Hid (usersL (m.procs.take (k + 1)) f = z'):=jj (by rw [HSN.out,← HP.out,List.take_of_length_le (by rw [HXO.out.space];omega)]);rw [show ((16 : Nat) : Int) = 16 from rfl];go_wp2_with fail
     go_roundw
     case rel =>
      have R : ∃ k' z'' : Nat,k' ≤ m.procs.length ∧ Value.int .i64 ((k : Int) + 1) = .int .i64 (k' : Int) ∧ Value.int .i64 (z' : Int) = .int .i64 (z'' : Int) ∧ z'' ≤ 16 * k' ∧ Hid (usersL (m.procs.take k') f = z'') ∧ Hid (Below w1.heap.size w1 wr):=⟨k + 1,z',by omega,by go_num,rfl,by omega,HQ,HV⟩
      first | exact R | ((repeat apply Exists.intro);exact ⟨R,rfl⟩)
     case measure => simp [intOf];omega
  ·obtain rfl : k = m.procs.length:=(by omega);have hd : decide (m.procs.length < m.procs.length) = false:=(by simp);go_wp2_with fail;go_ret;exact ⟨ret_int (by rw [HALL.out,HN.out]),by rw [HGX.out];exact HW.out.trans (HV.out.mono (by omega))⟩
set_option maxRecDepth 100000 in
set_option maxHeartbeats 2000000 in
theorem rpipe_any (w : World) (a : MA) (m : Mc) (hm : McOk m) (hA : MAt w w.heap.size a m) (n : Int) :
  Calls Tryz.prog 78 #[.agg (mcL a m).toArray,.int .i64 n] w fun e w' => (∃ q : Nb,e = .returned (.tuple #[.agg (nbCells1 q).toArray,.bool (hasPipe m n)])) ∧ Below w.heap.size w w':=by
 have hs0:=(Whole.made w 30 (mcL a m).toArray).block (.cells #[.int .i64 0,S []] 72);have hs1:=Whole.made (w.alloc (.cells (mcL a m).toArray 30)) 72 #[.int .i64 0,S []];rw [show (w.alloc (.cells (mcL a m).toArray 30)).heap.size = w.heap.size + 1 by simp] at hs1;have hb : Below w.heap.size w ((w.alloc (.cells (mcL a m).toArray 30)).alloc (.cells #[.int .i64 0,S []] 72)):=((Below.refl _ _).alloc (Nat.le_refl _) _).alloc (by simp) _;go_enter Tryz.func78,Tryz.ntmps78;go_upto_region 1 with (fail);change Code.wp _ _ _ _ ((w.alloc (.cells (mcL a m).toArray 30)).alloc (.cells #[.int .i64 0,S []] 72));generalize (w.alloc (.cells (mcL a m).toArray 30)).alloc (.cells #[.int .i64 0,S []] 72) = w1 at *;generalize hgx : w.heap.size = gx at *;have HGX:=jj hgx;have HS0:=jj hs0;have HS1:=jj hs1;have HW:=jj hb;have hgl : gx + 1 < w1.heap.size:=hs1.lt;clear hgx hb hs0 hs1;have HA:=jj (hA.below HW.out);have HM:=jj hm;have HMA : Hid (∀ W,Below w1.heap.size w1 W → MAt W W.heap.size a m):=jj fun W hW => (HA.out.below (hW.mono (by omega))).wide (by have:=hW.size;omega);have HC : Hid (∀ W,Below w1.heap.size w1 W → Whole W gx 30 (mcL a m).toArray):=jj fun W hW => HS0.out.below hW (by omega);clear hm hA;have HZ : Hid (∀ W,Below w1.heap.size w1 W → Whole W (gx + 1) 72 (nbCells1 (0,[])).toArray):=jj fun W hW => HS1.out.below hW (by omega);have c8 : w1.cell? ⟨gx,8,none⟩ = some (.slice a.Q m.pipes.length a.cQ):=(HC.out w1 (Below.refl _ _)).cell 8;have HHP : Hid (hasPipe m n = m.pipes.any (fun q : Nb => q.1 == n)):=jj rfl;go_wp2_with fail;clear c8
 go_loopw [11] (fun i wr => ∃ k : Nat,k ≤ m.pipes.length ∧ i = .int .i64 (k : Int) ∧ Hid ((m.pipes.take k).any (fun q : Nb => q.1 == n) = false) ∧ Hid (Below w1.heap.size w1 wr)) (fun i _ => m.pipes.length - (intOf i).toNat)
 case atStart => exact ⟨0,by omega,rfl,jj rfl,jj (Below.refl _ _)⟩
 case round =>
  obtain ⟨k,hk,rfl,HN,HV⟩:=hrel;have hk38:=HM.out.sizes.2.2.1;by_cases hlt : k < m.pipes.length
  ·obtain ⟨x,hx⟩:=get_some hlt;obtain ⟨ad,hadr,had,hc⟩:=Lies.row (f:=nbCells1) (n:=2) (HMA.out wr HV.out).Q (fun y hy => rfl) (by omega) hx;have LD : Hid (∀ j v,(nbCells1 x)[j]? = some v → wr.cell? ((ad.add (k * 2)).add j) = some v):=jj hc;have HY:=jj (@any_yes _ (fun q : Nb => q.1 == n) m.pipes k x hx);have HNO:=jj (@any_no _ (fun q : Nb => q.1 == n) m.pipes k x hx HN.out);have hzv:=HV.out.size;have HX:=jj (Whole.made wr 72 (nbCells1 x).toArray);have HV1:=jj (HV.out.alloc hzv (.cells (nbCells1 x).toArray 72));rw [hadr];clear hc hx hadr;have i0 : (0 : Int) ≤ (k : Int):=(by omega);have i1 : (k : Int) < (m.pipes.length : Int):=(by omega)
   go_upto_region 4 with (first
    | (refine wpList_load_at rfl 72 (.tmp 13) rfl (ad.add (k * 2)) rfl (nbCells1 x) _ LD.out Tryz.underlying72 rfl (by kernel_rfl) ?_)
    | (refine wpList_fresh rfl rfl 72 7 (.tmp 14) rfl rfl rfl rfl (nbCells1 x) rfl rfl _ Tryz.infoPi rfl (nb_one x) ?_))
   change Code.wp _ _ _ _ (wr.alloc (.cells (nbCells1 x).toArray 72));have HGE : Hid (w1.heap.size ≤ wr.heap.size):=jj hzv;clear LD hzv HV;generalize wr.alloc (.cells (nbCells1 x).toArray 72) = w2 at *;generalize wr.heap.size = g2 at *;have x0 : w2.cell? ⟨g2,0,none⟩ = some (.int .i64 x.1):=HX.out.cell 0;have LX : Hid (∀ j v,(nbCells1 x)[j]? = some v → w2.cell? ((⟨g2,0,none⟩ : Addr).add j) = some v):=jj HX.out.reads;by_cases hp : x.1 = n
   ·have e1 : (x.1 == n) = true:=beq_iff_eq.2 hp;have HQ:=jj (HY.out e1);have x1 : w2.cell? ⟨g2,1,none⟩ = some (S x.2):=HX.out.cell 1;clear hp HY HNO
    go_wp2_with (first
     | (refine wpList_store_all rfl 72 (.tmp 4) (.tmp 19) rfl rfl (gx + 1) rfl (nbCells1 x) rfl (by kernel_rfl) (nbCells1 (0,[])) 72 (HZ.out _ HV1.out) rfl (nb_one x) ?_;intro w3 HS3 HG3))
    have q0:=HS3.out.cell 0;have q1:=HS3.out.cell 1;refine bodyPost_ret (v:=.tuple #[.agg #[.int .i64 x.1,S x.2],.bool true]) (by simp [results,Tryz.results78,go_sem,q0,q1,nbCells1]) rfl ⟨⟨x,by rw [HHP.out,HQ.out];rfl⟩,?_⟩;rw [HGX.out];exact below_grown (HW.out.trans (HV1.out.mono (by omega))) HG3.out (Nat.le_trans (by omega) HV1.out.size) (by omega)
   ·have e1 : (x.1 == n) = false:=beq_eq_false_iff_ne.2 hp;have HQ:=jj (HNO.out e1);clear hp HY HNO;go_wp2_with fail
    go_roundw
    case rel =>
     have R : ∃ k' : Nat,k' ≤ m.pipes.length ∧ Value.int .i64 ((k : Int) + 1) = .int .i64 (k' : Int) ∧ Hid ((m.pipes.take k').any (fun q : Nb => q.1 == n) = false) ∧ Hid (Below w1.heap.size w1 w2):=⟨k + 1,by omega,by go_num,HQ,HV1⟩
     first | exact R | ((repeat apply Exists.intro);exact ⟨R,rfl⟩)
    case measure => simp [intOf];omega
  ·obtain rfl : k = m.pipes.length:=(by omega);have hd : decide (m.pipes.length < m.pipes.length) = false:=(by simp);rw [List.take_of_length_le (Nat.le_refl _)] at HN
   go_wp2_with (first
    | (refine wpList_store_all rfl 72 (.tmp 4) (.tmp 21) rfl rfl (gx + 1) rfl (nbCells1 (0,[])) rfl (by kernel_rfl) (nbCells1 (0,[])) 72 (HZ.out _ HV.out) rfl (nb_one (0,[])) ?_;intro w3 HS3 HG3))
   have q0:=HS3.out.cell 0;have q1:=HS3.out.cell 1;refine bodyPost_ret (v:=.tuple #[.agg #[.int .i64 0,S []],.bool false]) (by simp [results,Tryz.results78,go_sem,q0,q1,nbCells1]) rfl ⟨⟨(0,[]),by rw [HHP.out,HN.out];rfl⟩,?_⟩;rw [HGX.out];exact below_grown (HW.out.trans (HV.out.mono (by omega))) HG3.out (Nat.le_trans (by omega) HV.out.size) (by omega)
def rfdB (m : Mc) (f : Fl) : Bool :=
 if f.kind = 0 ∨ f.kind = 1 ∨ f.kind = 2 then f.n == 0 && f.pos == 0
 else if f.kind = 3 then decide (1 ≤ f.n) && decide (f.n ≤ 64) && decide (0 ≤ f.pos) && decide (f.pos ≤ 8960)
 else if f.kind = 4 ∨ f.kind = 5 then f.pos == 0 && hasPipe m f.n
 else false
set_option maxRecDepth 100000 in
set_option maxHeartbeats 2000000 in
theorem rfd_any (w : World) (a : MA) (m : Mc) (hm : McOk m) (hA : MAt w w.heap.size a m) (f : Fl) :
  Calls Tryz.prog 41 #[.agg (mcL a m).toArray,.agg (flCells1 f).toArray] w fun e w' => e = .returned (.bool (rfdB m f)) ∧ Below w.heap.size w w':=by
 have hs0:=(Whole.made w 30 (mcL a m).toArray).block (.cells (flCells1 f).toArray 45);have hs1:=Whole.made (w.alloc (.cells (mcL a m).toArray 30)) 45 (flCells1 f).toArray;rw [show (w.alloc (.cells (mcL a m).toArray 30)).heap.size = w.heap.size + 1 by simp] at hs1;have hb : Below w.heap.size w ((w.alloc (.cells (mcL a m).toArray 30)).alloc (.cells (flCells1 f).toArray 45)):=((Below.refl _ _).alloc (by first | exact Nat.le_refl _ | simp | (simp;omega)) _).alloc (by first | exact Nat.le_refl _ | simp | (simp;omega)) _;go_enter Tryz.func41,Tryz.ntmps41;go_upto_region 1 with (fail);change Code.wp _ _ _ _ ((w.alloc (.cells (mcL a m).toArray 30)).alloc (.cells (flCells1 f).toArray 45));generalize ((w.alloc (.cells (mcL a m).toArray 30)).alloc (.cells (flCells1 f).toArray 45)) = w1 at *;generalize hgx : w.heap.size = gx at *;have HGX:=jj hgx;have HS0:=jj hs0;have HS1:=jj hs1;have HW:=jj hb;have hgl : gx + 1 < w1.heap.size:=hs1.lt;clear hgx hb hs0 hs1;have HA:=jj (hA.below HW.out);have HM:=jj hm;have HMA : Hid (∀ W,Below w1.heap.size w1 W → MAt W W.heap.size a m):=jj fun W hW => (HA.out.below (hW.mono (by omega))).wide (by have:=hW.size;omega);have HC : Hid (∀ W,Below w1.heap.size w1 W → Whole W gx 30 (mcL a m).toArray):=jj fun W hW => HS0.out.below hW (by omega);clear hm hA;have c1 : w1.cell? ⟨gx + 1,1,none⟩ = some (.int .i64 f.n):=HS1.out.cell 1;have MI : Hid ((Tryz.prog.info? 30).map (·.size) = some (mcL a m).length):=jj (by rw [mcL_length];exact Tryz.sizeMc);have LD : Hid (∀ j v,(mcL a m)[j]? = some v → w1.cell? ((⟨gx,0,none⟩ : Addr).add j) = some v):=jj (HS0.out.reads);have CP:=jj (rpipe_any w1 a m HM.out (HMA.out w1 (Below.refl _ _)) f.n);obtain ⟨kd,n,ps⟩:=f;dsimp only at c1 CP;generalize hhp : hasPipe m n = hp at *;have HHP:=jj hhp;clear hhp
 go_upto_region 2 with (first
  | (refine wpList_load_at rfl 30 (.tmp 2) rfl ⟨gx,0,none⟩ rfl (mcL a m) _ LD.out Tryz.underlying30 rfl MI.out ?_)
  | (go_at_call 78;refine CP.out.mono ?_;rintro e w3 ⟨⟨q,rfl⟩,hb3⟩)
  | (refine wpList_fresh rfl rfl 72 5 (.tmp 12) rfl rfl rfl rfl (nbCells1 q) rfl rfl _ Tryz.infoPi rfl (nb_one q) ?_))
 change Code.wp _ _ _ _ (w3.alloc (.cells (nbCells1 q).toArray 72));have HV:=jj (hb3.alloc hb3.size (.cells (nbCells1 q).toArray 72));have HSB:=jj (HS1.out.below HV.out (by omega));clear hb3 c1 CP LD MI;generalize w3.alloc (.cells (nbCells1 q).toArray 72) = w4 at *;have c0 : w4.cell? ⟨gx + 1,0,none⟩ = some (.int .i64 kd):=HSB.out.cell 0;have c1 : w4.cell? ⟨gx + 1,1,none⟩ = some (.int .i64 n):=HSB.out.cell 1;have c2 : w4.cell? ⟨gx + 1,2,none⟩ = some (.int .i64 ps):=HSB.out.cell 2;by_cases e0 : kd = 0
 ·subst e0
  skip
  go_wp2_with fail
  all_goals
   go_ret;refine ⟨ret_bool ?_,by rw [HGX.out];exact HW.out.trans (HV.out.mono (by omega))⟩;simp [rfdB, *]
   try omega
 by_cases e1 : kd = 1
 ·subst e1;clear e0;go_wp2_with fail
  all_goals
   go_ret;refine ⟨ret_bool ?_,by rw [HGX.out];exact HW.out.trans (HV.out.mono (by omega))⟩;simp [rfdB, *]
   try omega
 by_cases e2 : kd = 2
 ·subst e2;clear e0 e1;go_wp2_with fail
  all_goals
   go_ret;refine ⟨ret_bool ?_,by rw [HGX.out];exact HW.out.trans (HV.out.mono (by omega))⟩;simp [rfdB, *]
   try omega
 by_cases e3 : kd = 3
 ·subst e3;clear e0 e1 e2;go_wp2_with fail
  all_goals
   go_ret;refine ⟨ret_bool ?_,by rw [HGX.out];exact HW.out.trans (HV.out.mono (by omega))⟩;simp [rfdB, *]
   try omega
 have d0 : (kd == 0) = false:=beq_eq_false_iff_ne.2 e0;have d1 : (kd == 1) = false:=beq_eq_false_iff_ne.2 e1;have d2 : (kd == 2) = false:=beq_eq_false_iff_ne.2 e2;have d3 : (kd == 3) = false:=beq_eq_false_iff_ne.2 e3;by_cases e4 : kd = 4 ∨ kd = 5
 ·have HR : Hid (rfdB m ⟨kd,n,ps⟩ = (ps == 0 && hp)):=jj (by rw [← HHP.out];rcases e4 with rfl | rfl <;> simp [rfdB]);by_cases hps : ps = 0
  ·subst hps;rcases e4 with rfl | rfl
   all_goals
    clear d0 d1 d2 d3 e0 e1 e2 e3;go_wp2_with fail;go_ret;exact ⟨ret_bool (by rw [HR.out];rfl),by rw [HGX.out];exact HW.out.trans (HV.out.mono (by omega))⟩
  ·have dp : (ps == 0) = false:=beq_eq_false_iff_ne.2 hps;have HR' : Hid (false = rfdB m ⟨kd,n,ps⟩):=jj (by rw [HR.out,dp];rfl);rcases e4 with rfl | rfl
   all_goals
    clear d0 d1 d2 d3 e0 e1 e2 e3 hps;go_wp2_with fail;go_ret;exact ⟨ret_bool HR'.out,by rw [HGX.out];exact HW.out.trans (HV.out.mono (by omega))⟩
 ·have e5 : ¬ kd = 4:=fun h => e4 (.inl h);have e6 : ¬ kd = 5:=fun h => e4 (.inr h);have d4 : (kd == 4) = false:=beq_eq_false_iff_ne.2 e5;have d5 : (kd == 5) = false:=beq_eq_false_iff_ne.2 e6;have HE : Hid (rfdB m ⟨kd,n,ps⟩ = false):=jj (by simp [rfdB,e0,e1,e2,e3,e5,e6]);clear e0 e1 e2 e3 e4 e5 e6;go_wp2_with fail;go_ret;exact ⟨ret_bool HE.out.symm,by rw [HGX.out];exact HW.out.trans (HV.out.mono (by omega))⟩
end Go.Proofs.YtdkhnjjihbmlmaaGreatDoor
namespace Go.Proofs.YtdkhnjjihbmlmaaGreatDoor
open Go.RowKit
def rh1 (m : Mc) (p : Pr) : Bool:=decide (1 ≤ p.pid) && decide (p.pid < m.next) && (p.state == 1 || p.state == 2 || p.state == 3) && p.regs.getD 0 0 == 0
def rh2 (m : Mc) (p : Pr) : Bool:=livesAt m p.parent || (p.state != 3 && p.parent == 0)
def rh3 (p : Pr) : Bool:=(if p.state = 2 then p.why != 0 else p.why == 0) && decide (0 ≤ p.why) && decide (p.why ≤ 5) && (p.state == 2 || p.n == 0) && (p.state == 3 || p.code == 0)
def rpageB (m : Mc) (p : Pr) (g : Pg) : Bool :=
 if g.is = true then p.state != 3 && decide (0 ≤ g.frame) && decide (g.frame < (m.frames.length : Int)) && usersL m.procs g.frame == 1 else !g.wr && g.frame == 0
def rfB (m : Mc) (p : Pr) (f : Fl) : Bool:=rfdB m f && (p.state != 3 || f.kind == 0)
def rprocB (m : Mc) (p : Pr) : Bool:=rh1 m p && rh2 m p && rh3 p && p.space.all (rpageB m p) && p.fds.all (rfB m p)
theorem rproc_1 {m : Mc} {p : Pr} (h : rh1 m p = false) : false = rprocB m p:=by unfold rprocB;rw [h];rfl
theorem rproc_2 {m : Mc} {p : Pr} (h : rh2 m p = false) : false = rprocB m p:=by unfold rprocB;rw [h];simp
theorem rproc_3 {m : Mc} {p : Pr} (h : rh3 p = false) : false = rprocB m p:=by unfold rprocB;rw [h];simp
theorem rproc_4 {m : Mc} {p : Pr} (h : p.space.all (rpageB m p) = false) : false = rprocB m p:=by unfold rprocB;rw [h];simp
theorem rproc_5 {m : Mc} {p : Pr} (h : p.fds.all (rfB m p) = false) : false = rprocB m p:=by unfold rprocB;rw [h];simp
theorem rproc_ok {m : Mc} {p : Pr} (h1 : rh1 m p = true) (h2 : rh2 m p = true) (h3 : rh3 p = true) (h4 : p.space.all (rpageB m p) = true) (h5 : p.fds.all (rfB m p) = true) : true = rprocB m p:=by
 unfold rprocB;rw [h1,h2,h3,h4,h5];rfl
end Go.Proofs.YtdkhnjjihbmlmaaGreatDoor
namespace Go.Proofs.YtdkhnjjihbmlmaaGreatDoor
open Go.RowKit
def pageQ (m : Mc) (p : Pr) (g : Pg) : Bool :=
 if g.is = true then p.state != 3 && decide (0 ≤ g.frame) && decide (g.frame < (m.frames.length : Int)) else !g.wr && g.frame == 0
theorem usedP_is {g : Pg} {s : List Pg} (h : g.is = true) : usedP (g :: s) = g.frame :: usedP s:=by unfold usedP;simp [h]
theorem usedP_not {g : Pg} {s : List Pg} (h : g.is = false) : usedP (g :: s) = usedP s:=by unfold usedP;simp [h]
theorem pagesR_iff (m : Mc) (p : Pr) : ∀ (s : List Pg) (used : List Int),pagesR m p used s = true ↔ (∀ g ∈ s,pageQ m p g = true) ∧ (∀ x ∈ usedP s,x ∉ used) ∧ (usedP s).Nodup
 | [],used => by simp [pagesR,usedP]
 | g :: s,used => by
  have ih:=pagesR_iff m p s (addU used g);show (pageB m p used g && pagesR m p (addU used g) s) = true ↔ _;rw [Bool.and_eq_true,ih];cases h : g.is with
  | true =>
   have e1 : pageB m p used g = (pageQ m p g && !used.contains g.frame):=(by unfold pageB pageQ;rw [if_pos h,if_pos h]);have e2 : addU used g = used ++ [g.frame]:=(by unfold addU;rw [if_pos h]);rw [usedP_is h,e1,e2];simp only [Bool.and_eq_true,Bool.not_eq_true',List.mem_cons,List.nodup_cons,List.mem_append,List.not_mem_nil,or_false,not_or,forall_eq_or_imp];constructor
   ·rintro ⟨⟨h1,h2⟩,h3,h4,h5⟩;exact ⟨⟨h1,h3⟩,⟨by simpa using h2,fun x hx => (h4 x hx).1⟩,fun hf => (h4 _ hf).2 rfl,h5⟩
   ·rintro ⟨⟨h1,h3⟩,⟨h2,h4⟩,h5,h6⟩;exact ⟨⟨h1,by simpa using h2⟩,h3,fun x hx => ⟨h4 x hx,fun e => h5 (e ▸ hx)⟩,h6⟩
  | false =>
   have e1 : pageB m p used g = pageQ m p g:=(by unfold pageB pageQ;rw [if_neg (by simp [h]),if_neg (by simp [h])]);have e2 : addU used g = used:=(by unfold addU;rw [if_neg (by simp [h])]);rw [usedP_not h,e1,e2];simp only [List.mem_cons,forall_eq_or_imp];constructor
   ·rintro ⟨h1,h2,h3⟩;exact ⟨⟨h1,h2⟩,h3⟩
   ·rintro ⟨⟨h1,h2⟩,h3⟩;exact ⟨h1,h2,h3⟩
theorem usedR_eq : ∀ (s : List Pg) (u : List Int),usedR u s = u ++ usedP s
 | [],u => by simp [usedR,usedP]
 | g :: s,u => by
  show usedR (addU u g) s = _;rw [usedR_eq s];cases h : g.is with
  | true => rw [usedP_is h];unfold addU;rw [if_pos h];simp
  | false => rw [usedP_not h];unfold addU;rw [if_neg (by simp [h])]
def riseB : Int → List Pr → Bool
 | _,[] => true
 | last,p :: l => decide (last < p.pid) && riseB p.pid l
def qB (m : Mc) (p : Pr) : Bool:=decide (p.pid < m.next) && fieldsB p && parentB m p && p.space.all (pageQ m p) && p.fds.all (fdB m p)
def allU (l : List Pr) : List Int:=l.flatMap fun p => usedP p.space
theorem procsR_iff (m : Mc) : ∀ (l : List Pr) (last : Int) (used : List Int),procsR m last used l = true ↔ riseB last l = true ∧ (∀ p ∈ l,qB m p = true) ∧ (∀ x ∈ allU l,x ∉ used) ∧ (allU l).Nodup
 | [],last,used => by simp [procsR,riseB,allU]
 | p :: l,last,used => by
  have ih:=procsR_iff m l p.pid (usedR used p.space);have hu : allU (p :: l) = usedP p.space ++ allU l:=(by unfold allU;simp);show (headB m last p && pagesR m p used p.space && p.fds.all (fdB m p) && procsR m p.pid (usedR used p.space) l) = true ↔ (decide (last < p.pid) && riseB p.pid l) = true ∧ _;rw [Bool.and_eq_true,ih,Bool.and_eq_true,Bool.and_eq_true,pagesR_iff,usedR_eq,hu,List.nodup_append];unfold headB;simp only [Bool.and_eq_true,List.mem_cons,forall_eq_or_imp,List.mem_append,not_or,decide_eq_true_eq];have hq : qB m p = true ↔ p.pid < m.next ∧ fieldsB p = true ∧ parentB m p = true ∧ (∀ g ∈ p.space,pageQ m p g = true) ∧ p.fds.all (fdB m p) = true:=(by unfold qB;simp only [Bool.and_eq_true,decide_eq_true_eq,List.all_eq_true,and_assoc]);rw [hq];constructor
  ·rintro ⟨⟨⟨⟨⟨⟨a1,a2⟩,a3⟩,a4⟩,a5,a6,a7⟩,a8⟩,b1,b2,b3,b4⟩;refine ⟨⟨a1,b1⟩,⟨⟨a2,a3,a4,a5,a8⟩,b2⟩,?_,a7,b4,?_⟩
   ·rintro x (hx | hx)
    ·exact a6 x hx
    ·exact (b3 x hx).1
   ·intro x hx y hy e;subst e;exact (b3 x hy).2 hx
  ·rintro ⟨⟨a1,b1⟩,⟨⟨a2,a3,a4,a5,a8⟩,b2⟩,c1,a7,b4,c2⟩;exact ⟨⟨⟨⟨⟨⟨a1,a2⟩,a3⟩,a4⟩,a5,fun x hx => c1 x (.inl hx),a7⟩,a8⟩,b1,b2,fun x hx => ⟨c1 x (.inr hx),fun hy => c2 x hy x hx rfl⟩,b4⟩
theorem fd_same (m : Mc) (p : Pr) (f : Fl) : fdB m p f = rfB m p f:=by
 obtain ⟨k,n,q⟩:=f;unfold fdB rfB rfdB fileB;by_cases h0 : k = 0
 ·subst h0;rw [Bool.eq_iff_iff];simp
 ·rw [Bool.eq_iff_iff];by_cases h12 : k = 1 ∨ k = 2
  ·simp [h0,h12];exact And.comm
  ·by_cases h3 : k = 3
   ·subst h3;simp;exact And.comm
   ·by_cases h45 : k = 4 ∨ k = 5
    ·simp [h0,h12,h3,h45];exact And.comm
    ·simp [h0,h12,h3,h45]
theorem head_same (m : Mc) (p : Pr) (h : 1 ≤ p.pid) : (rh1 m p && rh2 m p && rh3 p) = (decide (p.pid < m.next) && fieldsB p && parentB m p):=by
 unfold rh1 rh2 rh3 fieldsB parentB livesAt livesB;rw [Bool.eq_iff_iff];by_cases s1 : p.state = 1
 ·simp [s1,h];constructor
  ·rintro ⟨⟨⟨a,b⟩,c⟩,⟨⟨⟨d,_⟩,_⟩,e⟩,f⟩;exact ⟨⟨a,⟨b,d,e⟩,f⟩,c.symm⟩
  ·rintro ⟨⟨a,⟨b,d,e⟩,f⟩,c⟩;exact ⟨⟨⟨a,b⟩,c.symm⟩,⟨⟨⟨d,by omega⟩,by omega⟩,e⟩,f⟩
 ·by_cases s2 : p.state = 2
  ·simp [s2,h];constructor
   ·rintro ⟨⟨⟨a,b⟩,c⟩,⟨⟨d1,d2⟩,d3⟩,f⟩;exact ⟨⟨a,⟨b,by omega,d3⟩,f⟩,c.symm⟩
   ·rintro ⟨⟨a,⟨b,d1,d2⟩,f⟩,c⟩;exact ⟨⟨⟨a,b⟩,c.symm⟩,⟨⟨by omega,by omega⟩,d2⟩,f⟩
  ·by_cases s3 : p.state = 3
   ·simp [s3,h];constructor
    ·rintro ⟨⟨⟨a,b⟩,c⟩,⟨⟨d,_⟩,_⟩,e⟩;exact ⟨⟨a,b,d,e⟩,c⟩
    ·rintro ⟨⟨a,b,d,e⟩,c⟩;exact ⟨⟨⟨a,b⟩,c⟩,⟨⟨d,by omega⟩,by omega⟩,e⟩
   ·simp [s1,s2,s3]
def rprocsR (m : Mc) : Int → List Pr → Bool
 | _,[] => true
 | last,p :: l => decide (last < p.pid) && rprocB m p && rprocsR m p.pid l
theorem rprocsR_iff (m : Mc) : ∀ (l : List Pr) (last : Int),rprocsR m last l = true ↔ riseB last l = true ∧ ∀ p ∈ l,rprocB m p = true
 | [],last => by simp [rprocsR,riseB]
 | p :: l,last => by
  have ih:=rprocsR_iff m l p.pid;show (decide (last < p.pid) && rprocB m p && rprocsR m p.pid l) = true ↔ (decide (last < p.pid) && riseB p.pid l) = true ∧ _;simp only [Bool.and_eq_true,ih,List.mem_cons,forall_eq_or_imp];constructor
  ·rintro ⟨⟨a,b⟩,c,d⟩;exact ⟨⟨a,c⟩,b,d⟩
  ·rintro ⟨⟨a,c⟩,b,d⟩;exact ⟨⟨a,b⟩,c,d⟩
theorem rise_pos : ∀ {l : List Pr} {last : Int},0 ≤ last → riseB last l = true → ∀ p ∈ l,1 ≤ p.pid
 | [],_,_,_,p,hp => by simp at hp
 | q :: l,last,h0,h,p,hp => by
  have h' : (decide (last < q.pid) && riseB q.pid l) = true:=h;rw [Bool.and_eq_true,decide_eq_true_eq] at h';rcases List.mem_cons.1 hp with rfl | hp
  ·omega
  ·exact rise_pos (by omega) h'.2 p hp
theorem usersL_eq (l : List Pr) (f : Int) : usersL l f = (allU l).count f:=rfl
theorem mem_allU {l : List Pr} {p : Pr} {g : Pg} (hp : p ∈ l) (hg : g ∈ p.space) (h : g.is = true) : g.frame ∈ allU l:=by
 unfold allU usedP;rw [List.mem_flatMap];exact ⟨p,hp,List.mem_map.2 ⟨g,List.mem_filter.2 ⟨hg,h⟩,rfl⟩⟩
theorem allU_mem {l : List Pr} {x : Int} (h : x ∈ allU l) : ∃ p ∈ l,∃ g ∈ p.space,g.is = true ∧ g.frame = x:=by
 unfold allU usedP at h;rw [List.mem_flatMap] at h;obtain ⟨p,hp,h⟩:=h;obtain ⟨g,hg,rfl⟩:=List.mem_map.1 h;obtain ⟨hg1,hg2⟩:=List.mem_filter.1 hg;exact ⟨p,hp,g,hg1,hg2,rfl⟩
theorem rpage_eq (m : Mc) (p : Pr) (g : Pg) : rpageB m p g = (pageQ m p g && (!g.is || usersL m.procs g.frame == 1)):=by
 unfold rpageB pageQ;cases h : g.is <;> simp
theorem rproc_eq (m : Mc) (p : Pr) (h : 1 ≤ p.pid) : rprocB m p = true ↔ qB m p = true ∧ ∀ g ∈ p.space,g.is = true → usersL m.procs g.frame = 1:=by
 have e1:=Bool.eq_iff_iff.1 (head_same m p h)
 have e2 : p.fds.all (rfB m p) = p.fds.all (fdB m p):=by
  congr 1
  funext f
  exact (fd_same m p f).symm
 unfold rprocB qB;rw [e2];simp only [Bool.and_eq_true] at e1 ⊢;rw [e1];simp only [List.all_eq_true,rpage_eq,Bool.and_eq_true,Bool.or_eq_true,Bool.not_eq_true',beq_iff_eq];constructor
 ·rintro ⟨⟨a,b⟩,c⟩
  exact ⟨⟨⟨a,fun g hg => (b g hg).1⟩,c⟩,fun g hg hi => by
   rcases (b g hg).2 with h' | h'
   ·rw [hi] at h';cases h'
   ·exact h'⟩
 ·rintro ⟨⟨⟨a,b⟩,c⟩,d⟩
  exact ⟨⟨a,fun g hg => ⟨b g hg,by
   cases hi : g.is
   ·exact .inl rfl
   ·exact .inr (d g hg hi)⟩⟩,c⟩
theorem procs_same (m : Mc) : rprocsR m 0 m.procs = procsR m 0 [] m.procs:=by
 rw [Bool.eq_iff_iff,rprocsR_iff,procsR_iff];constructor
 ·rintro ⟨h1,h2⟩;have hp:=rise_pos (Int.le_refl 0) h1;refine ⟨h1,fun p h => ((rproc_eq m p (hp p h)).1 (h2 p h)).1,fun x _ => by simp,List.nodup_iff_count.2 fun x => ?_⟩;by_cases hx : x ∈ allU m.procs
  ·obtain ⟨p,hpm,g,hg,hi,rfl⟩:=allU_mem hx;have:=((rproc_eq m p (hp p hpm)).1 (h2 p hpm)).2 g hg hi;rw [usersL_eq] at this;omega
  ·rw [List.count_eq_zero.2 hx];omega
 ·rintro ⟨h1,h2,_,h4⟩;have hp:=rise_pos (Int.le_refl 0) h1;refine ⟨h1,fun p h => (rproc_eq m p (hp p h)).2 ⟨h2 p h,fun g hg hi => ?_⟩⟩;rw [usersL_eq,h4.count,if_pos (mem_allU h hg hi)]
end Go.Proofs.YtdkhnjjihbmlmaaGreatDoor
