import Derived.Test.YtnbphabheikfeaaGreatDoorChAB
import Derived.Test.YtnbphabheikfeaaGreatDoorPlnM
namespace Go.Proofs.YtnbphabheikfeaaGreatDoor
open Go.RowKit
theorem pr_space_cells {w : World} {g : Nat} {t : TypeId} {p : Pr} (hp : PrOk p) (h : Whole w g t (prCells p).toArray) : ∀ j v,(pgCells p.space)[j]? = some v → w.cell? ((⟨g,20,none⟩ : Addr).add j) = some v :=
 mid_cells h 20 _ fun j v hv => by
  have hj : j < 48:=(by have:=(List.getElem?_eq_some_iff.1 hv).1;rw [pgCells_length,hp.space] at this;exact this);rw [pr_space hp hj];exact hv
theorem pr_fds_cells {w : World} {g : Nat} {t : TypeId} {p : Pr} (hp : PrOk p) (h : Whole w g t (prCells p).toArray) : ∀ j v,(flCells p.fds)[j]? = some v → w.cell? ((⟨g,68,none⟩ : Addr).add j) = some v :=
 mid_cells h 68 _ fun j v hv => by
  have hj : j < 24:=(by have:=(List.getElem?_eq_some_iff.1 hv).1;rw [flCells_length,hp.fds] at this;exact this);rw [pr_fds hp hj];exact hv
set_option maxRecDepth 100000 in
set_option maxHeartbeats 4000000 in
theorem procs_any (w : World) (a : MA) (m : Mc) (hm : McOk m) (hA : MAt w w.heap.size a m) :
  Calls Tryz.prog 51 #[.agg (mcL a m).toArray] w fun e w' => e = .returned (.int .i64 (procsE m)) ∧ Below w.heap.size w w':=by
 have hs0:=Whole.made w 30 (mcL a m).toArray;have hb : Below w.heap.size w (w.alloc (.cells (mcL a m).toArray 30)):=(Below.refl _ _).alloc (Nat.le_refl _) _;go_enter Tryz.func51,Tryz.ntmps51;go_upto_region 1 with (fail);change Code.wp _ _ _ _ (w.alloc (.cells (mcL a m).toArray 30));generalize (w.alloc (.cells (mcL a m).toArray 30)) = w1 at *;generalize hgx : w.heap.size = gx at *;have HGX:=jj hgx;have HS0:=jj hs0;have HW:=jj hb;have hgl : gx < w1.heap.size:=hs0.lt;clear hgx hb hs0;have HA:=jj (hA.below HW.out);have HM:=jj hm;have HMA : Hid (∀ W,Below w1.heap.size w1 W → MAt W W.heap.size a m):=jj fun W hW => (HA.out.below (hW.mono (by omega))).wide (by have:=hW.size;omega);have HC : Hid (∀ W,Below w1.heap.size w1 W → Whole W gx 30 (mcL a m).toArray):=jj fun W hW => HS0.out.below hW (by omega);have c5 : w1.cell? ⟨gx,5,none⟩ = some (.slice a.P m.procs.length a.cP):=HS0.out.cell 5;have HFE : Hid (procsE m = if 8 < m.procs.length then 6 else if procsR m 0 [] m.procs = true then 0 else 3):=jj rfl;have MI : Hid ((Tryz.prog.info? 30).map (·.size) = some (mcL a m).length):=jj (by rw [mcL_length];exact Tryz.sizeMc);clear hm hA;by_cases h8 : 8 < m.procs.length
 ·have HE : Hid (6 = procsE m):=jj (by rw [HFE.out,if_pos h8]);have e : decide ((8 : Int) < (m.procs.length : Int)) = true:=decide_eq_true (by omega);have e' : decide (8 < m.procs.length) = true:=decide_eq_true h8;clear h8;go_wp2_with fail;go_ret;exact ⟨ret_int HE.out,by rw [HGX.out];exact HW.out⟩
 have HFE' : Hid (procsE m = if procsR m 0 [] m.procs = true then 0 else 3):=jj (by rw [HFE.out,if_neg h8]);have e : decide ((8 : Int) < (m.procs.length : Int)) = false:=decide_eq_false (by omega);have e' : decide (8 < m.procs.length) = false:=decide_eq_false h8;have hl8 : m.procs.length ≤ 8:=(by omega);clear h8 HFE;have hmm:=@run_makeMap Tryz.prog;go_upto_region 4 with (fail);clear e e' c5 hmm;change Code.wp _ _ _ _ (w1.alloc (.map #[] 0));have HM0:=jj (Met.made w1);have HB0:=jj ((Below.refl w1.heap.size w1).alloc (Nat.le_refl _) (.map #[] 0));generalize hgb : w1.heap.size = gb at *;have HGB:=jj hgb;generalize w1.alloc (.map #[] 0) = wm at *;have c5 : wm.cell? ⟨gx,5,none⟩ = some (.slice a.P m.procs.length a.cP):=(HC.out wm HB0.out).cell 5;clear hgb;go_wp2_with fail;clear c5
 go_loopw [4,19] (fun s i wr => ∃ (k : Nat) (last : Int) (used : List Int),k ≤ m.procs.length ∧ i = .int .i64 (k : Int) ∧ s = .int .i64 last ∧ used.length ≤ 16 * k ∧ Hid (procsR m 0 [] m.procs = procsR m last used (m.procs.drop k)) ∧ Hid (Met wr gb used) ∧ Hid (Below gb w1 wr)) (fun _ i _ => m.procs.length - (intOf i).toNat)
 case atStart => exact ⟨0,0,[],by omega,rfl,rfl,by simp,jj rfl,HM0,HB0⟩
 case round =>
  clear HM0 HB0;obtain ⟨k,last,used,hk,rfl,rfl,hul,HN,HT,HV⟩:=hrel;by_cases hlt : k < m.procs.length
  ·obtain ⟨x,hx⟩:=get_some hlt;have HXO:=jj (HM.out.procs x (List.mem_of_getElem? hx));obtain ⟨ad,hadr,had,hc⟩:=Lies.row (f:=prCells) (n:=96) (HMA.out wr HV.out).P (fun y hy => prCells_length (HM.out.procs y hy)) (by omega) hx;have LD : Hid (∀ j v,(prCells x)[j]? = some v → wr.cell? ((ad.add (k * 96)).add j) = some v):=jj hc;have HD:=jj (drop_cons hx);rw [HD.out] at HN;have hzv : gb ≤ wr.heap.size:=(by have:=HV.out.size;have:=HGB.out;omega);have hxl:=prCells_length HXO.out;have PIX : Hid ((Tryz.prog.info? 64).map (·.size) = some (prCells x).length):=jj (by rw [hxl];exact Tryz.sizePr);have PIZ : Hid ((Tryz.prog.info? 64).map (fun i => (i.zero,i.size)) = some (some (.agg (prCells zeroPr).toArray),(prCells x).length)):=jj (by rw [hxl];exact Tryz.infoPr);have PZS : Hid ((Value.agg (prCells zeroPr).toArray).cells.size = (prCells x).length):=jj (by rw [hxl];rfl);have HX:=jj (Whole.made wr 64 (prCells x).toArray);have HV1:=jj (HV.out.alloc hzv (.cells (prCells x).toArray 64));have HT1:=jj (HT.out.alloc (.cells (prCells x).toArray 64));have hgbr:=HT.out.lt;rw [hadr];clear hc hx hadr hxl;have i0 : (0 : Int) ≤ (k : Int):=(by omega);have i1 : (k : Int) < (m.procs.length : Int):=(by omega)
   go_upto_region 8 with (first
    | (refine wpList_load_at rfl 64 (.tmp 21) rfl (ad.add (k * 96)) rfl (prCells x) _ LD.out Tryz.underlying64 rfl PIX.out ?_)
    | (refine wpList_fresh rfl rfl 64 6 (.tmp 22) rfl rfl rfl rfl (prCells x) rfl rfl _ PIZ.out PZS.out prCells_one ?_))
   change Code.wp _ _ _ _ (wr.alloc (.cells (prCells x).toArray 64));clear LD PIZ PZS HV HT;generalize wr.alloc (.cells (prCells x).toArray 64) = w2 at *;have HGR : Hid (gb ≤ wr.heap.size):=jj hzv;generalize wr.heap.size = g2 at *;have hg2:=HX.out.lt;have hge2 : gb ≤ w2.heap.size:=(by have:=HV1.out.size;have:=HGB.out;omega);have x0 : w2.cell? ⟨g2,0,none⟩ = some (.int .i64 x.pid):=HX.out.cell 0;have m6 : w2.cell? ⟨gx,6,none⟩ = some (.int .i64 m.next):=(HC.out w2 HV1.out).cell 6;have LDX : Hid (∀ j v,(prCells x)[j]? = some v → w2.cell? ((⟨g2,0,none⟩ : Addr).add j) = some v):=jj HX.out.reads;have CFD:=jj (fields_any w2 x HXO.out);have HHB : Hid (headB m last x = (decide (last < x.pid) && decide (x.pid < m.next) && fieldsB x && parentB m x)):=jj rfl;by_cases h1 : ¬ last < x.pid
   ·have HBAD : Hid (procsR m 0 [] m.procs = false):=jj (by rw [HN.out];exact procsR_head (by rw [HHB.out,decide_eq_false h1];rfl));have d1 : decide (x.pid ≤ last) = true:=decide_eq_true (by omega);clear h1;go_wp2_with fail;go_ret;exact ⟨ret_int (by rw [HFE'.out,HBAD.out];rfl),by rw [HGX.out];exact HW.out.trans (HV1.out.mono (by omega))⟩
   have d1 : decide (x.pid ≤ last) = false:=decide_eq_false (by omega);by_cases h2 : ¬ x.pid < m.next
   ·have HBAD : Hid (procsR m 0 [] m.procs = false):=jj (by rw [HN.out];exact procsR_head (by rw [HHB.out,decide_eq_false h2];simp));have d2 : decide (m.next ≤ x.pid) = true:=decide_eq_true (by omega);clear h1 h2;go_wp2_with fail;go_ret;exact ⟨ret_int (by rw [HFE'.out,HBAD.out];rfl),by rw [HGX.out];exact HW.out.trans (HV1.out.mono (by omega))⟩
   have d2 : decide (m.next ≤ x.pid) = false:=decide_eq_false (by omega);have HH2 : Hid (headB m last x = (fieldsB x && parentB m x)):=jj (by rw [HHB.out,decide_eq_true (Decidable.not_not.1 h1),decide_eq_true (Decidable.not_not.1 h2)];rfl);clear h1 h2;cases hf : fieldsB x with
   | false => have HBAD : Hid (procsR m 0 [] m.procs = false):=jj (by rw [HN.out];exact procsR_head (by rw [HH2.out,hf];rfl));rw [hf] at CFD;clear hf;go_wp2_with (first | (refine wpList_load_g (by simp [Region.wanted,yielded]) 64 (.tmp 6) rfl ⟨g2,0,none⟩ rfl (prCells x) _ LDX.out Tryz.underlying64 rfl PIX.out ?_) | (go_at_call 88;refine CFD.out.mono ?_;rintro e w3 ⟨rfl,hb3⟩;have HV3:=jj (HV1.out.trans (hb3.mono hge2));clear hb3));go_ret;exact ⟨ret_int (by rw [HFE'.out,HBAD.out];rfl),by rw [HGX.out];exact HW.out.trans (HV3.out.mono (by omega))⟩
   | true =>
   have HFB:=jj hf;rw [hf] at CFD;clear hf;have HLX : Hid (∀ W,Below w2.heap.size w2 W → ∀ j v,(prCells x)[j]? = some v → W.cell? ((⟨g2,0,none⟩ : Addr).add j) = some v):=jj fun W hW => (HX.out.below hW hg2).reads;have HLM : Hid (∀ W,Below gb w1 W → ∀ j v,(mcL a m)[j]? = some v → W.cell? ((⟨gx,0,none⟩ : Addr).add j) = some v):=jj fun W hW => (HC.out W hW).reads;go_wp2_with (refine wpList_load_g rfl 64 (.tmp 6) rfl ⟨g2,0,none⟩ rfl (prCells x) _ LDX.out Tryz.underlying64 rfl PIX.out ?_);refine CFD.out.mono ?_;rintro e w3 ⟨rfl,hb3⟩;have HB3:=jj hb3;have HV3:=jj (HV1.out.trans (hb3.mono hge2));have hge3 : gb ≤ w3.heap.size:=(by have:=hb3.size;omega);have LX3:=jj (HLX.out w3 hb3);have LM3:=jj (HLM.out w3 HV3.out);have CPA:=jj (parent_any w3 a m HM.out (HMA.out w3 HV3.out) x HXO.out);clear hb3 x0 m6 LDX CFD
   go_wp2_with (first
    | (refine wpList_load_g rfl 30 (.tmp 1) rfl ⟨gx,0,none⟩ rfl (mcL a m) _ LM3.out Tryz.underlying30 rfl MI.out ?_)
    | (refine wpList_load_g rfl 64 (.tmp 6) rfl ⟨g2,0,none⟩ rfl (prCells x) _ LX3.out Tryz.underlying64 rfl PIX.out ?_))
   refine CPA.out.mono ?_;rintro e w4 ⟨rfl,hb4⟩;have HV4:=jj (HV3.out.trans (hb4.mono hge3));have hge4 : gb ≤ w4.heap.size:=(by have:=hb4.size;omega);have HB24:=jj (HB3.out.trans (hb4.mono HB3.out.size));clear hb4 LX3 LM3 CPA d1 d2;cases hpb : parentB m x with
   | false => have HBAD : Hid (procsR m 0 [] m.procs = false):=jj (by rw [HN.out];exact procsR_head (by rw [HH2.out,HFB.out,hpb];rfl));clear hpb;go_wp2_with fail;go_ret;exact ⟨ret_int (by rw [HFE'.out,HBAD.out];rfl),by rw [HGX.out];exact HW.out.trans (HV4.out.mono (by omega))⟩
   | true =>
   have HHT : Hid (headB m last x = true):=jj (by rw [HH2.out,HFB.out,hpb];rfl);clear hpb;have HX4:=jj (HX.out.below HB24.out hg2);have HT4:=jj (HT1.out.below HB24.out HT1.out.lt);have hgg : gb < g2:=hgbr;have x0 : w4.cell? ⟨g2,0,none⟩ = some (.int .i64 x.pid):=HX4.out.cell 0;have LSP:=jj (pr_space_cells HXO.out HX4.out);have SSP : Hid ((Tryz.prog.info? 59).map (·.size) = some (pgCells x.space).length):=jj (by rw [pgCells_length,HXO.out.space];exact Tryz.sizeSpace);have SFS : Hid ((Tryz.prog.info? 62).map (·.size) = some (flCells x.fds).length):=jj (by rw [flCells_length,HXO.out.fds];exact Tryz.sizeFds);go_wp2_with (refine wpList_load_at rfl 59 (.tmp 47) rfl ⟨g2,20,none⟩ rfl (pgCells x.space) _ LSP.out Tryz.underlying59 rfl SSP.out ?_);clear x0 LSP;obtain ⟨wo,hwo⟩ : ∃ wo : World,wo = wr:=⟨_,rfl⟩;subst hwo
   go_loopw [49] (fun i wr => ∃ (j : Nat) (u : List Int),j ≤ 16 ∧ i = .int .i64 (j : Int) ∧ u.length ≤ 16 * k + j ∧ Hid (pagesR m x used x.space = pagesR m x u (x.space.drop j)) ∧ Hid (usedR used x.space = usedR u (x.space.drop j)) ∧ Hid (Met wr gb u) ∧ Hid (Whole wr g2 64 (prCells x).toArray) ∧ Hid (Below gb w1 wr)) (fun i _ => 16 - (intOf i).toNat)
   case atStart => exact ⟨0,used,by omega,rfl,by omega,jj rfl,jj rfl,HT4,HX4,HV4⟩
   case round =>
    clear HT4 HX4 HV4 HV3 HB3 HB24 HT1 HV1 HLX;obtain ⟨j,u,hj,rfl,hu,HPG,HUS,HT,HX,HV⟩:=hrel;have hgs : gb ≤ wr.heap.size:=(by have:=HV.out.size;have:=HGB.out;omega);have hg2s:=HX.out.lt;by_cases hlj : j < 16
    ·obtain ⟨g,hg⟩:=get_some (l:=x.space) (k:=j) (by rw [HXO.out.space];exact hlj);have HDG:=jj (drop_cons hg);rw [HDG.out] at HPG HUS;have hfr:=HXO.out.page g (List.mem_of_getElem? hg);have HFR:=jj (flat_row pgCells1 3 x.space (fun _ _ => rfl) hg);have hl1 : decide ((j : Int) < 16) = true:=decide_eq_true (by omega);have hl2 : decide (j < 16) = true:=decide_eq_true hlj;have HXn:=jj (HX.out.block (.cells (pgCells1 g).toArray 57));have HTn:=jj (HT.out.alloc (.cells (pgCells1 g).toArray 57));have HVn:=jj (HV.out.alloc hgs (.cells (pgCells1 g).toArray 57));have HYn:=jj (Whole.made wr 57 (pgCells1 g).toArray);clear hg
     go_upto_region 14 with (first
      | (refine wpList_index_structs rfl 59 (.tmp 48) (.tmp 49) rfl 57 _ 16 3 (pgCells x.space) .i64 j rfl rfl Tryz.underlying59 Tryz.underlying57 Tryz.sizePg hlj (pgCells1 g) HFR.out ?_)
      | (refine wpList_fresh rfl rfl 57 8 (.tmp 51) rfl rfl rfl rfl (pgCells1 g) rfl rfl _ Tryz.infoPg rfl (pg_one g) ?_))
     change Code.wp _ _ _ _ (wr.alloc (.cells (pgCells1 g).toArray 57));clear HX HT HV HFR hl1 hl2;generalize wr.alloc (.cells (pgCells1 g).toArray 57) = w5 at *;generalize wr.heap.size = g3 at *;have hge5 : gb ≤ w5.heap.size:=(by have:=HVn.out.size;have:=HGB.out;omega);have HX5:=HXn;clear HXn;obtain ⟨gi,gw,gf⟩:=g;have y0 : w5.cell? ⟨g3,0,none⟩ = some (.bool gi):=HYn.out.cell 0;have y1 : w5.cell? ⟨g3,1,none⟩ = some (.bool gw):=HYn.out.cell 1;have y2 : w5.cell? ⟨g3,2,none⟩ = some (.int .i64 gf):=HYn.out.cell 2;dsimp only at hfr;have HPB : Hid (pageB m x u ⟨gi,gw,gf⟩ = if gi = true then x.state != 3 && decide (0 ≤ gf) && decide (gf < (m.frames.length : Int)) && !u.contains gf else !gw && gf == 0):=jj rfl;cases gi with
     | false =>
      have HAU : Hid (addU u ⟨false,gw,gf⟩ = u):=jj rfl;have HPB' : Hid (pageB m x u ⟨false,gw,gf⟩ = (!gw && gf == 0)):=HPB;clear HPB;cases gw with
      | true => have HBAD : Hid (procsR m 0 [] m.procs = false):=jj (by rw [HN.out];exact procsR_pages (by rw [HPG.out];exact pagesR_bad (by rw [HPB'.out];rfl)));go_wp2_with fail;go_ret;exact ⟨ret_int (by rw [HFE'.out,HBAD.out];rfl),by rw [HGX.out];exact HW.out.trans (HVn.out.mono (by omega))⟩
      | false =>
       by_cases hz : gf = 0
       ·subst hz;have HOK:=jj (pagesR_ok (m:=m) (p:=x) (used:=u) (g:=⟨false,false,0⟩) (s:=x.space.drop (j + 1)) (by rw [HPB'.out];rfl));go_wp2_with fail
        go_roundw
        case rel =>
         have R : ∃ (j' : Nat) (u' : List Int),j' ≤ 16 ∧ Value.int .i64 ((j : Int) + 1) = .int .i64 (j' : Int) ∧ u'.length ≤ 16 * k + j' ∧ Hid (pagesR m x used x.space = pagesR m x u' (x.space.drop j')) ∧ Hid (usedR used x.space = usedR u' (x.space.drop j')) ∧ Hid (Met w5 gb u') ∧ Hid (Whole w5 g2 64 (prCells x).toArray) ∧ Hid (Below gb w1 w5):=⟨j + 1,u,by omega,by go_num,by omega,jj (by rw [HPG.out,HOK.out,HAU.out]),jj (by rw [HUS.out];show usedR (addU u _) _ = _;rw [HAU.out]),HTn,HX5,HVn⟩
         first | exact R | ((repeat apply Exists.intro);exact ⟨R,rfl⟩)
        case measure => simp [intOf];omega
       ·have HBAD : Hid (procsR m 0 [] m.procs = false):=jj (by rw [HN.out];exact procsR_pages (by rw [HPG.out];exact pagesR_bad (by rw [HPB'.out];simp [hz])));go_wp2_with fail;go_ret;exact ⟨ret_int (by rw [HFE'.out,HBAD.out];rfl),by rw [HGX.out];exact HW.out.trans (HVn.out.mono (by omega))⟩
     | true =>
      have HAU : Hid (addU u ⟨true,gw,gf⟩ = u ++ [gf]):=jj rfl;have HPB' : Hid (pageB m x u ⟨true,gw,gf⟩ = (x.state != 3 && decide (0 ≤ gf) && decide (gf < (m.frames.length : Int)) && !u.contains gf)):=HPB;have x2 : w5.cell? ⟨g2,2,none⟩ = some (.int .i64 x.state):=HX5.out.cell 2;have m4 : w5.cell? ⟨gx,4,none⟩ = some (.slice a.F m.frames.length a.cF):=(HC.out w5 HVn.out).cell 4;have hlk:=HTn.out.look hfr;have hul5 : u.length < maxLen:=(by unfold maxLen;omega);have HUL5:=jj hul5;clear HPB hul5;generalize hst : x.state = st at *;have HST:=jj hst;clear hst;by_cases hs3 : st = 3
      ·have HBAD : Hid (procsR m 0 [] m.procs = false):=jj (by rw [HN.out];exact procsR_pages (by rw [HPG.out];exact pagesR_bad (by rw [HPB'.out,hs3];rfl)));subst hs3;go_wp2_with fail;go_ret;exact ⟨ret_int (by rw [HFE'.out,HBAD.out];rfl),by rw [HGX.out];exact HW.out.trans (HVn.out.mono (by omega))⟩
      have s1 : (st == 3) = false:=beq_eq_false_iff_ne.2 hs3;by_cases hf0 : gf < 0
      ·have HBAD : Hid (procsR m 0 [] m.procs = false):=jj (by rw [HN.out];exact procsR_pages (by rw [HPG.out];exact pagesR_bad (by rw [HPB'.out,decide_eq_false (show ¬ 0 ≤ gf by omega)];simp)));have f1 : decide (gf < 0) = true:=decide_eq_true hf0;clear hs3 hf0;go_wp2_with fail;go_ret;exact ⟨ret_int (by rw [HFE'.out,HBAD.out];rfl),by rw [HGX.out];exact HW.out.trans (HVn.out.mono (by omega))⟩
      have f1 : decide (gf < 0) = false:=decide_eq_false hf0;by_cases hf2 : (m.frames.length : Int) ≤ gf
      ·have HBAD : Hid (procsR m 0 [] m.procs = false):=jj (by rw [HN.out];exact procsR_pages (by rw [HPG.out];exact pagesR_bad (by rw [HPB'.out,decide_eq_false (show ¬ gf < (m.frames.length : Int) by omega)];simp)));have f2 : decide ((m.frames.length : Int) ≤ gf) = true:=decide_eq_true hf2;clear hs3 hf0 hf2;go_wp2_with fail;go_ret;exact ⟨ret_int (by rw [HFE'.out,HBAD.out];rfl),by rw [HGX.out];exact HW.out.trans (HVn.out.mono (by omega))⟩
      have f2 : decide ((m.frames.length : Int) ≤ gf) = false:=decide_eq_false hf2;cases hct : u.contains gf with
      | true => have HBAD : Hid (procsR m 0 [] m.procs = false):=jj (by rw [HN.out];exact procsR_pages (by rw [HPG.out];exact pagesR_bad (by rw [HPB'.out,hct];simp)));rw [hct] at hlk;clear hs3 hf0 hf2 hct;go_wp2_with fail;go_ret;exact ⟨ret_int (by rw [HFE'.out,HBAD.out];rfl),by rw [HGX.out];exact HW.out.trans (HVn.out.mono (by omega))⟩
      | false =>
       have HOK:=jj (pagesR_ok (m:=m) (p:=x) (used:=u) (g:=⟨true,gw,gf⟩) (s:=x.space.drop (j + 1)) (by rw [HPB'.out,hct,decide_eq_true (show 0 ≤ gf by omega),decide_eq_true (show gf < (m.frames.length : Int) by omega)];simp [hs3]));rw [hct] at hlk;have HFRR:=jj hfr;clear hs3 hf0 hf2 hct;go_wp2_with (refine wpList_met_add rfl (.tmp 80) (.tmp 82) (.const (.bool true)) rfl rfl rfl rfl rfl HTn.out HFRR.out HUL5.out ?_;intro w6 HT6 HG6);have HX6:=jj (HX5.out.other HG6.out (by intro e;injection e with e;omega));have HV6:=jj (below_grown HVn.out HG6.out hge5 (Nat.le_refl _));go_wp2_with fail
       go_roundw
       case rel =>
        have R : ∃ (j' : Nat) (u' : List Int),j' ≤ 16 ∧ Value.int .i64 ((j : Int) + 1) = .int .i64 (j' : Int) ∧ u'.length ≤ 16 * k + j' ∧ Hid (pagesR m x used x.space = pagesR m x u' (x.space.drop j')) ∧ Hid (usedR used x.space = usedR u' (x.space.drop j')) ∧ Hid (Met w6 gb u') ∧ Hid (Whole w6 g2 64 (prCells x).toArray) ∧ Hid (Below gb w1 w6):=⟨j + 1,u ++ [gf],by omega,by go_num,by simp;omega,jj (by rw [HPG.out,HOK.out,HAU.out]),jj (by rw [HUS.out];show usedR (addU u _) _ = _;rw [HAU.out]),HT6,HX6,HV6⟩
        first | exact R | ((repeat apply Exists.intro);exact ⟨R,rfl⟩)
       case measure => simp [intOf];omega
    ·obtain rfl : j = 16:=(by omega);have hd16 : x.space.drop 16 = []:=List.drop_of_length_le (by rw [HXO.out.space];omega);rw [hd16] at HPG HUS;clear hd16;have LFS:=jj (pr_fds_cells HXO.out HX.out);rw [show ((16 : Nat) : Int) = 16 from rfl];go_wp2_with (refine wpList_load_at rfl 62 (.tmp 84) rfl ⟨g2,68,none⟩ rfl (flCells x.fds) _ LFS.out Tryz.underlying62 rfl SFS.out ?_);have HUE : Hid (usedR used x.space = u):=jj (by rw [HUS.out];rfl);have HPE : Hid (pagesR m x used x.space = true):=jj (by rw [HPG.out];rfl);have hu2 : u.length ≤ 16 * (k + 1):=(by omega);clear HPG HUS LFS hu hlj hj;obtain ⟨wo,hwo⟩ : ∃ wo : World,wo = wr:=⟨_,rfl⟩;subst hwo
     go_loopw [86] (fun i wr => ∃ (j : Nat),j ≤ 8 ∧ i = .int .i64 (j : Int) ∧ Hid ((x.fds.take j).all (fdB m x) = true) ∧ Hid (Met wr gb u) ∧ Hid (Whole wr g2 64 (prCells x).toArray) ∧ Hid (Below gb w1 wr)) (fun i _ => 8 - (intOf i).toNat)
     case atStart => exact ⟨0,by omega,rfl,jj rfl,HT,HX,HV⟩
     case round =>
      clear HT HX HV hg2s hgs;obtain ⟨j,hj,rfl,HFA,HT,HX,HV⟩:=hrel;have hgs : gb ≤ wr.heap.size:=(by have:=HV.out.size;have:=HGB.out;omega);have hg2s:=HX.out.lt;by_cases hlj : j < 8
      ·obtain ⟨f,hf⟩:=get_some (l:=x.fds) (k:=j) (by rw [HXO.out.fds];exact hlj);have HALL:=jj (@all_on _ (fdB m x) x.fds j f hf HFA.out);have HBADF:=jj (@all_bad _ (fdB m x) x.fds j f hf);have HFR:=jj (flat_row flCells1 3 x.fds (fun _ _ => rfl) hf);have hl1 : decide ((j : Int) < 8) = true:=decide_eq_true (by omega);have hl2 : decide (j < 8) = true:=decide_eq_true hlj;have HXn:=jj (HX.out.block (.cells (flCells1 f).toArray 61));have HTn:=jj (HT.out.alloc (.cells (flCells1 f).toArray 61));have HVn:=jj (HV.out.alloc hgs (.cells (flCells1 f).toArray 61));have HYn:=jj (Whole.made wr 61 (flCells1 f).toArray);clear hf
       go_upto_region 24 with (first
        | (refine wpList_index_structs rfl 62 (.tmp 85) (.tmp 86) rfl 61 _ 8 3 (flCells x.fds) .i64 j rfl rfl Tryz.underlying62 Tryz.underlying61 Tryz.sizeFl hlj (flCells1 f) HFR.out ?_)
        | (refine wpList_fresh rfl rfl 61 10 (.tmp 88) rfl rfl rfl rfl (flCells1 f) rfl rfl _ Tryz.infoFl rfl (fl_one f) ?_))
       change Code.wp _ _ _ _ (wr.alloc (.cells (flCells1 f).toArray 61));clear HX HT HV HFR hl1 hl2;generalize wr.alloc (.cells (flCells1 f).toArray 61) = w5 at *;generalize wr.heap.size = g3 at *;have hge5 : gb ≤ w5.heap.size:=(by have:=HVn.out.size;have:=HGB.out;omega);have hyl:=HYn.out.lt;have HFDD : Hid (fdB m x f = (decide (f = ⟨0,0,0⟩) || (x.state != 3 && fileB m f))):=jj rfl;have CF:=jj (file_any w5 a m HM.out (HMA.out w5 HVn.out) f);have LF5 : Hid (∀ j v,(flCells1 f)[j]? = some v → w5.cell? ((⟨g3,0,none⟩ : Addr).add j) = some v):=jj HYn.out.reads;have LM5:=jj (HLM.out w5 HVn.out);have x2 : w5.cell? ⟨g2,2,none⟩ = some (.int .i64 x.state):=HXn.out.cell 2;have y0 : w5.cell? ⟨g3,0,none⟩ = some (.int .i64 f.kind):=HYn.out.cell 0;have y1 : w5.cell? ⟨g3,1,none⟩ = some (.int .i64 f.n):=HYn.out.cell 1;have y2 : w5.cell? ⟨g3,2,none⟩ = some (.int .i64 f.pos):=HYn.out.cell 2;have HFS:=jj (show (f = ⟨0,0,0⟩) ↔ f.kind = 0 ∧ f.n = 0 ∧ f.pos = 0 from by cases f;simp);generalize hst : x.state = st at *;have HST:=jj hst;clear hst;generalize hfb : fileB m f = fb at *;have HFB2:=jj hfb;clear hfb;by_cases hz : f.kind = 0 ∧ f.n = 0 ∧ f.pos = 0
       ·obtain ⟨z1,z2,z3⟩:=hz;have HOK : Hid (fdB m x f = true):=jj (by rw [HFDD.out,decide_eq_true (HFS.out.2 ⟨z1,z2,z3⟩)];rfl);have HQ:=jj (HALL.out HOK.out);rw [z1] at y0;rw [z2] at y1;rw [z3] at y2;clear z1 z2 z3 LF5 LM5 CF;go_wp2_with fail
        go_roundw
        case rel =>
         have R : ∃ (j' : Nat),j' ≤ 8 ∧ Value.int .i64 ((j : Int) + 1) = .int .i64 (j' : Int) ∧ Hid ((x.fds.take j').all (fdB m x) = true) ∧ Hid (Met w5 gb u) ∧ Hid (Whole w5 g2 64 (prCells x).toArray) ∧ Hid (Below gb w1 w5):=⟨j + 1,by omega,by go_num,HQ,HTn,HXn,HVn⟩
         first | exact R | ((repeat apply Exists.intro);exact ⟨R,rfl⟩)
        case measure => simp [intOf];omega
       ·have HND : Hid (fdB m x f = (st != 3 && fb)):=jj (by rw [HFDD.out,decide_eq_false (fun h => hz (HFS.out.1 h))];rfl);have hz3 : ¬ f.kind = 0 ∨ (f.kind = 0 ∧ ¬ f.n = 0) ∨ (f.kind = 0 ∧ f.n = 0 ∧ ¬ f.pos = 0):=(by omega);clear hz HFS HFDD;rcases hz3 with z1 | ⟨z1,z2⟩ | ⟨z1,z2,z3⟩
        ·have e1 : (f.kind == 0) = false:=beq_eq_false_iff_ne.2 z1;by_cases hs3 : st = 3
         ·have HBAD : Hid (procsR m 0 [] m.procs = false):=jj (by rw [HN.out];exact procsR_fds (HBADF.out (by rw [HND.out,hs3];rfl)));subst hs3;clear LM5 LF5 CF;go_wp2_with fail;go_ret;exact ⟨ret_int (by rw [HFE'.out,HBAD.out];rfl),by rw [HGX.out];exact HW.out.trans (HVn.out.mono (by omega))⟩
         have s1 : (st == 3) = false:=beq_eq_false_iff_ne.2 hs3;have HS3:=jj hs3;clear hs3
         go_wp2_with (first
          | (refine wpList_load_g rfl 30 (.tmp 1) rfl ⟨gx,0,none⟩ rfl (mcL a m) _ LM5.out Tryz.underlying30 rfl MI.out ?_)
          | (refine wpList_load_g (o:=⟨some 98,_,_,_,_,_⟩) rfl 61 (.tmp 10) rfl ⟨g3,0,none⟩ rfl (flCells1 f) _ LF5.out Tryz.underlying61 rfl Tryz.sizeFl ?_))
         refine CF.out.mono ?_;rintro e w6 ⟨rfl,hb6⟩;have HX6:=jj (HXn.out.below hb6 (by omega));have HT6:=jj (HTn.out.below hb6 (by omega));have HV6:=jj (HVn.out.trans (hb6.mono hge5));clear hb6 LM5 LF5 CF;cases fb with
         | false => have HBAD : Hid (procsR m 0 [] m.procs = false):=jj (by rw [HN.out];exact procsR_fds (HBADF.out (by rw [HND.out];simp)));go_wp2_with fail;go_ret;exact ⟨ret_int (by rw [HFE'.out,HBAD.out];rfl),by rw [HGX.out];exact HW.out.trans (HV6.out.mono (by omega))⟩
         | true =>
          have HQ:=jj (HALL.out (by rw [HND.out];simp [HS3.out]));go_wp2_with fail
          go_roundw
          case rel =>
           have R : ∃ (j' : Nat),j' ≤ 8 ∧ Value.int .i64 ((j : Int) + 1) = .int .i64 (j' : Int) ∧ Hid ((x.fds.take j').all (fdB m x) = true) ∧ Hid (Met w6 gb u) ∧ Hid (Whole w6 g2 64 (prCells x).toArray) ∧ Hid (Below gb w1 w6):=⟨j + 1,by omega,by go_num,HQ,HT6,HX6,HV6⟩
           first | exact R | ((repeat apply Exists.intro);exact ⟨R,rfl⟩)
          case measure => simp [intOf];omega
        ·rw [z1] at y0;have e2 : (f.n == 0) = false:=beq_eq_false_iff_ne.2 z2;clear z1;by_cases hs3 : st = 3
         ·have HBAD : Hid (procsR m 0 [] m.procs = false):=jj (by rw [HN.out];exact procsR_fds (HBADF.out (by rw [HND.out,hs3];rfl)));subst hs3;clear LM5 LF5 CF;go_wp2_with fail;go_ret;exact ⟨ret_int (by rw [HFE'.out,HBAD.out];rfl),by rw [HGX.out];exact HW.out.trans (HVn.out.mono (by omega))⟩
         have s1 : (st == 3) = false:=beq_eq_false_iff_ne.2 hs3;have HS3:=jj hs3;clear hs3
         go_wp2_with (first
          | (refine wpList_load_g rfl 30 (.tmp 1) rfl ⟨gx,0,none⟩ rfl (mcL a m) _ LM5.out Tryz.underlying30 rfl MI.out ?_)
          | (refine wpList_load_g (o:=⟨some 98,_,_,_,_,_⟩) rfl 61 (.tmp 10) rfl ⟨g3,0,none⟩ rfl (flCells1 f) _ LF5.out Tryz.underlying61 rfl Tryz.sizeFl ?_))
         refine CF.out.mono ?_;rintro e w6 ⟨rfl,hb6⟩;have HX6:=jj (HXn.out.below hb6 (by omega));have HT6:=jj (HTn.out.below hb6 (by omega));have HV6:=jj (HVn.out.trans (hb6.mono hge5));clear hb6 LM5 LF5 CF;cases fb with
         | false => have HBAD : Hid (procsR m 0 [] m.procs = false):=jj (by rw [HN.out];exact procsR_fds (HBADF.out (by rw [HND.out];simp)));go_wp2_with fail;go_ret;exact ⟨ret_int (by rw [HFE'.out,HBAD.out];rfl),by rw [HGX.out];exact HW.out.trans (HV6.out.mono (by omega))⟩
         | true =>
          have HQ:=jj (HALL.out (by rw [HND.out];simp [HS3.out]));go_wp2_with fail
          go_roundw
          case rel =>
           have R : ∃ (j' : Nat),j' ≤ 8 ∧ Value.int .i64 ((j : Int) + 1) = .int .i64 (j' : Int) ∧ Hid ((x.fds.take j').all (fdB m x) = true) ∧ Hid (Met w6 gb u) ∧ Hid (Whole w6 g2 64 (prCells x).toArray) ∧ Hid (Below gb w1 w6):=⟨j + 1,by omega,by go_num,HQ,HT6,HX6,HV6⟩
           first | exact R | ((repeat apply Exists.intro);exact ⟨R,rfl⟩)
          case measure => simp [intOf];omega
        ·rw [z1] at y0;rw [z2] at y1;have e3 : (f.pos == 0) = false:=beq_eq_false_iff_ne.2 z3;clear z1 z2;by_cases hs3 : st = 3
         ·have HBAD : Hid (procsR m 0 [] m.procs = false):=jj (by rw [HN.out];exact procsR_fds (HBADF.out (by rw [HND.out,hs3];rfl)));subst hs3;clear LM5 LF5 CF;go_wp2_with fail;go_ret;exact ⟨ret_int (by rw [HFE'.out,HBAD.out];rfl),by rw [HGX.out];exact HW.out.trans (HVn.out.mono (by omega))⟩
         have s1 : (st == 3) = false:=beq_eq_false_iff_ne.2 hs3;have HS3:=jj hs3;clear hs3
         go_wp2_with (first
          | (refine wpList_load_g rfl 30 (.tmp 1) rfl ⟨gx,0,none⟩ rfl (mcL a m) _ LM5.out Tryz.underlying30 rfl MI.out ?_)
          | (refine wpList_load_g (o:=⟨some 98,_,_,_,_,_⟩) rfl 61 (.tmp 10) rfl ⟨g3,0,none⟩ rfl (flCells1 f) _ LF5.out Tryz.underlying61 rfl Tryz.sizeFl ?_))
         refine CF.out.mono ?_;rintro e w6 ⟨rfl,hb6⟩;have HX6:=jj (HXn.out.below hb6 (by omega));have HT6:=jj (HTn.out.below hb6 (by omega));have HV6:=jj (HVn.out.trans (hb6.mono hge5));clear hb6 LM5 LF5 CF;cases fb with
         | false => have HBAD : Hid (procsR m 0 [] m.procs = false):=jj (by rw [HN.out];exact procsR_fds (HBADF.out (by rw [HND.out];simp)));go_wp2_with fail;go_ret;exact ⟨ret_int (by rw [HFE'.out,HBAD.out];rfl),by rw [HGX.out];exact HW.out.trans (HV6.out.mono (by omega))⟩
         | true =>
          have HQ:=jj (HALL.out (by rw [HND.out];simp [HS3.out]));go_wp2_with fail
          go_roundw
          case rel =>
           have R : ∃ (j' : Nat),j' ≤ 8 ∧ Value.int .i64 ((j : Int) + 1) = .int .i64 (j' : Int) ∧ Hid ((x.fds.take j').all (fdB m x) = true) ∧ Hid (Met w6 gb u) ∧ Hid (Whole w6 g2 64 (prCells x).toArray) ∧ Hid (Below gb w1 w6):=⟨j + 1,by omega,by go_num,HQ,HT6,HX6,HV6⟩
           first | exact R | ((repeat apply Exists.intro);exact ⟨R,rfl⟩)
          case measure => simp [intOf];omega
      ·obtain rfl : j = 8:=(by omega);have HFE8 : Hid (x.fds.all (fdB m x) = true):=jj (by have:=HFA.out;rwa [List.take_of_length_le (by rw [HXO.out.fds];omega)] at this);have HNX:=jj (procsR_ok (m:=m) (last:=last) (used:=used) (p:=x) (l:=m.procs.drop (k + 1)) HHT.out HPE.out HFE8.out);rw [HUE.out] at HNX;rw [show ((8 : Nat) : Int) = 8 from rfl];go_wp2_with fail
       go_roundw
       case rel =>
        have R : ∃ (k' : Nat) (last' : Int) (used' : List Int),k' ≤ m.procs.length ∧ Value.int .i64 ((k : Int) + 1) = .int .i64 (k' : Int) ∧ Value.int .i64 x.pid = .int .i64 last' ∧ used'.length ≤ 16 * k' ∧ Hid (procsR m 0 [] m.procs = procsR m last' used' (m.procs.drop k')) ∧ Hid (Met wr gb used') ∧ Hid (Below gb w1 wr):=⟨k + 1,x.pid,u,by omega,by go_num,rfl,hu2,jj (by rw [HN.out,HNX.out]),HT,HV⟩
        first | exact R | ((repeat apply Exists.intro);exact ⟨R,rfl⟩)
       case measure => simp [intOf];omega
  ·obtain rfl : k = m.procs.length:=(by omega);have hd : decide (m.procs.length < m.procs.length) = false:=(by simp);rw [drop_end] at HN;go_wp2_with fail;go_ret;exact ⟨ret_int (by rw [HFE'.out,if_pos (by rw [HN.out];rfl)]),by rw [HGX.out];exact HW.out.trans (HV.out.mono (by omega))⟩
end Go.Proofs.YtnbphabheikfeaaGreatDoor
