import Derived.Test.YtnbphabheikfeaaGreatDoorPlnM
import Derived.Test.YtnbphabheikfeaaGreatDoorMcA
namespace Go.Proofs.YtnbphabheikfeaaGreatDoor
open Go.RowKit
theorem hb2_cells {w : World} {g : Nat} {t : TypeId} {p : Pr} {r0 : Int} (h : Whole w g t (prCells p).toArray) (h0 : (prCells p)[3]? = some (.int .u32 r0)) (h1 : (prCells p)[92 + 1]? = some (.int .u32 p.code)) (h2 : (prCells p)[92 + 2]? = some (.int .i64 p.why)) (h3 : (prCells p)[92 + 3]? = some (.int .u64 p.n)) :
  w.cell? ⟨g,2,none⟩ = some (.int .i64 p.state) ∧ w.cell? ⟨g,3,none⟩ = some (.int .u32 r0) ∧ w.cell? ⟨g,93,none⟩ = some (.int .u32 p.code) ∧ w.cell? ⟨g,94,none⟩ = some (.int .i64 p.why) ∧ w.cell? ⟨g,95,none⟩ = some (.int .u64 p.n) :=
 ⟨h.cell 2,(h.cell 3).trans (by rw [List.getElem?_toArray];exact h0),(h.cell 93).trans (by rw [List.getElem?_toArray];exact h1),(h.cell 94).trans (by rw [List.getElem?_toArray];exact h2),(h.cell 95).trans (by rw [List.getElem?_toArray];exact h3)⟩
theorem pr_size {p : Pr} (h : PrOk p) : (prCells p).toArray.size = 96:=by rw [List.size_toArray];exact prCells_length h
set_option maxRecDepth 100000 in
set_option maxHeartbeats 1000000 in
theorem lives_any (w : World) (p : Pr) (hp : PrOk p) :
  Calls Tryz.prog 131 #[.agg (prCells p).toArray] w fun e w' => e = .returned (.bool (livesB p)) ∧ Below w.heap.size w w':=by
 have hsz:=pr_size hp;have hs0:=Whole.made w 64 (prCells p).toArray;have hb : Below w.heap.size w (w.alloc (.cells (prCells p).toArray 64)):=(Below.refl _ _).alloc (Nat.le_refl _) _;go_enter Tryz.func131,Tryz.ntmps131;go_upto_region 1 with (fail);change Code.wp _ _ _ _ (w.alloc (.cells (prCells p).toArray 64));generalize (w.alloc (.cells (prCells p).toArray 64)) = w1 at *;generalize hgx : w.heap.size = gx at *;have HGX:=jj hgx;have HS0:=jj hs0;have HW:=jj hb;have hgl : gx < w1.heap.size:=hs0.lt;clear hgx hb hs0;have c2 : w1.cell? ⟨gx,2,none⟩ = some (.int .i64 p.state):=HS0.out.cell 2;clear hp hsz;go_wp2_with fail
 all_goals
  go_ret;refine ⟨ret_bool ?_,by rw [HGX.out];exact HW.out⟩;unfold livesB;simp [*]
set_option maxRecDepth 100000 in
set_option maxHeartbeats 1000000 in
theorem fields_any (w : World) (p : Pr) (hp : PrOk p) :
  Calls Tryz.prog 88 #[.agg (prCells p).toArray] w fun e w' => e = .returned (.bool (fieldsB p)) ∧ Below w.heap.size w w':=by
 have hsz:=pr_size hp
 have hr0 : (prCells p)[3]? = some (.int .u32 (p.regs.getD 0 0)):=by
  rw [show 3 = 3 + 0 from rfl,pr_reg hp (by omega)];have:=hp.regs;cases h : p.regs with
  | nil => rw [h] at this;simp at this
  | cons x l => rfl
 have hr1:=pr_last hp 1;have hr2:=pr_last hp 2;have hr3:=pr_last hp 3;have hs0:=Whole.made w 64 (prCells p).toArray;have hb : Below w.heap.size w (w.alloc (.cells (prCells p).toArray 64)):=(Below.refl _ _).alloc (Nat.le_refl _) _;go_enter Tryz.func88,Tryz.ntmps88;go_upto_region 1 with (fail);change Code.wp _ _ _ _ (w.alloc (.cells (prCells p).toArray 64));generalize (w.alloc (.cells (prCells p).toArray 64)) = w1 at *;generalize hgx : w.heap.size = gx at *;have HGX:=jj hgx;have HS0:=jj hs0;have HW:=jj hb;have hgl : gx < w1.heap.size:=hs0.lt;clear hgx hb hs0;obtain ⟨r0,hr⟩ : ∃ z,p.regs.getD 0 0 = z:=⟨_,rfl⟩;have HR:=jj hr;rw [hr] at hr0;clear hr;have HL:=jj (fun (W : World) (hW : Below w1.heap.size w1 W) => (HS0.out.below hW (by omega)).reads);have h2:=hb2_cells HS0.out hr0 hr1 hr2 hr3;obtain ⟨c2,c3,c93,c94,c95⟩:=h2;have CL:=jj (lives_any w1 p hp);have hpl:=prCells_length hp;have PI : Hid ((Tryz.prog.info? 64).map (·.size) = some (prCells p).length):=jj (by rw [hpl];exact Tryz.sizePr);have LD : Hid (∀ j v,(prCells p)[j]? = some v → w1.cell? ((⟨gx,0,none⟩ : Addr).add j) = some v):=jj (HS0.out.reads);clear hp hsz hr0 hr1 hr2 hr3 HL hpl;go_wp2_with (refine wpList_load_at rfl 64 (.tmp 1) rfl ⟨gx,0,none⟩ rfl (prCells p) _ LD.out Tryz.underlying64 rfl PI.out ?_);refine CL.out.mono ?_;rintro e w2 ⟨rfl,hb2⟩;have HB2:=jj (HW.out.trans (hb2.mono (by omega)));have k2:=hb2;have d2:=(hb2.cell (p:=⟨gx,2,none⟩) (by show gx < _;omega)).trans c2;have d3:=(hb2.cell (p:=⟨gx,3,none⟩) (by show gx < _;omega)).trans c3;have d93:=(hb2.cell (p:=⟨gx,93,none⟩) (by show gx < _;omega)).trans c93;have d94:=(hb2.cell (p:=⟨gx,94,none⟩) (by show gx < _;omega)).trans c94;have d95:=(hb2.cell (p:=⟨gx,95,none⟩) (by show gx < _;omega)).trans c95;clear hb2 k2 c2 c3 c93 c94 c95 LD PI CL;cases hl : livesB p with
 | true =>
  have HLV:=jj hl;clear hl;go_wp2_with fail
  all_goals
   go_ret;refine ⟨ret_bool ?_,by rw [HGX.out];exact HB2.out⟩;unfold fieldsB;rw [HLV.out,HR.out];simp only [bne_iff_ne,beq_iff_eq,bne_eq_false_iff_eq,beq_eq_false_iff_ne,ne_eq] at *;simp [*]
   try omega
 | false =>
  have HLV:=jj hl;clear hl;go_wp2_with fail
  all_goals
   go_ret;refine ⟨ret_bool ?_,by rw [HGX.out];exact HB2.out⟩;unfold fieldsB;rw [HLV.out,HR.out]
   try simp only [bne_iff_ne,bne_eq_false_iff_eq,ne_eq] at *
   simp [*]
   try omega
def parB (p q : Pr) : Bool:=q.pid == p.parent && livesB q
set_option maxRecDepth 100000 in
set_option maxHeartbeats 1000000 in
theorem par_any (w : World) (p q : Pr) (hq : PrOk q) (g : Nat) (hg : w.cell? ⟨g,1,none⟩ = some (.int .i64 p.parent)) (hgw : g < w.heap.size) :
  Calls Tryz.prog 132 #[.agg (prCells q).toArray,.pointer (some ⟨g,0,none⟩)] w fun e w' => e = .returned (.bool (parB p q)) ∧ Below w.heap.size w w':=by
 have hsz:=pr_size hq;have hs0:=Whole.made w 64 (prCells q).toArray;have hb : Below w.heap.size w (w.alloc (.cells (prCells q).toArray 64)):=(Below.refl _ _).alloc (Nat.le_refl _) _;go_enter Tryz.func132,Tryz.ntmps132;go_upto_region 1 with (fail);change Code.wp _ _ _ _ (w.alloc (.cells (prCells q).toArray 64));generalize (w.alloc (.cells (prCells q).toArray 64)) = w1 at *;generalize hgx : w.heap.size = gx at *;have HGX:=jj hgx;have HS0:=jj hs0;have HW:=jj hb;have hgl : gx < w1.heap.size:=hs0.lt;clear hgx hb hs0;have c0 : w1.cell? ⟨gx,0,none⟩ = some (.int .i64 q.pid):=HS0.out.cell 0;have c1 : w1.cell? ⟨g,1,none⟩ = some (.int .i64 p.parent):=(HW.out.cell (p:=⟨g,1,none⟩) hgw).trans hg;have CL:=jj (lives_any w1 q hq);have PI : Hid (∀ x : Pr,PrOk x → (Tryz.prog.info? 64).map (·.size) = some (prCells x).length):=jj fun x hx => (by rw [prCells_length hx];exact Tryz.sizePr);have LD : Hid (∀ j v,(prCells q)[j]? = some v → w1.cell? ((⟨gx,0,none⟩ : Addr).add j) = some v):=jj (HS0.out.reads);have HQ:=jj hq;clear hq hsz hg;by_cases hpp : q.pid = p.parent
 ·have HP:=jj hpp;have d : (q.pid == p.parent) = true:=beq_iff_eq.2 hpp;clear hpp;go_wp2_with (first | (refine wpList_load_g (by simp [Region.wanted,yielded]) 64 (.tmp 2) rfl ⟨gx,0,none⟩ rfl (prCells q) _ LD.out Tryz.underlying64 rfl (PI.out _ HQ.out) ?_));refine CL.out.mono ?_;rintro e w2 ⟨rfl,hb2⟩;have HB2:=jj (HW.out.trans (hb2.mono (by omega)));clear hb2 c0 c1 CL LD PI;go_wp2_with fail;go_ret;exact ⟨ret_bool (by unfold parB;rw [HP.out];simp),by rw [HGX.out];exact HB2.out⟩
 ·have HP:=jj hpp;have d : (q.pid == p.parent) = false:=beq_eq_false_iff_ne.2 hpp;clear hpp CL LD PI;go_wp2_with fail;go_ret;exact ⟨ret_bool (by unfold parB;simp [HP.out]),by rw [HGX.out];exact HW.out⟩
set_option maxRecDepth 100000 in
set_option maxHeartbeats 1000000 in
theorem indexPr_any (w : World) (A : Option Addr) (c : Nat) (l : List Pr) (hl : ∀ x ∈ l,PrOk x) (hA : Lies w w.heap.size A (prsCells l)) (hn : l.length ≤ 274877906944) (p : Pr) (g : Nat) (hg : w.cell? ⟨g,1,none⟩ = some (.int .i64 p.parent)) (hgw : g < w.heap.size) :
  Calls Tryz.prog 73 #[.slice A l.length c,.func (.func 132) #[] #[.pointer (some ⟨g,0,none⟩)]] w fun e w' => (∃ z : Int,e = .returned (.int .i64 z) ∧ decide (0 ≤ z) = l.any (parB p)) ∧ Below w.heap.size w w':=by
 have HA:=jj hA;clear hA;have HL:=jj hl;have HG:=jj hg;clear hg hl;have PI : Hid (∀ x : Pr,PrOk x → (Tryz.prog.info? 64).map (·.size) = some (prCells x).length):=jj fun x hx => (by rw [prCells_length hx];exact Tryz.sizePr);go_enter Tryz.func73,Tryz.ntmps73;go_wp2_with fail
 go_loopw [8] (fun i wr => ∃ k : Nat,k ≤ l.length ∧ i = .int .i64 k ∧ Hid ((l.take k).any (parB p) = false) ∧ Hid (Below w.heap.size w wr)) (fun i _ => l.length - (intOf i).toNat)
 case atStart => exact ⟨0,by omega,rfl,jj rfl,jj (Below.refl _ _)⟩
 case round =>
  obtain ⟨k,hk,rfl,HN,HW⟩:=hrel;by_cases hlt : k < l.length
  ·obtain ⟨x,hx⟩:=get_some hlt;have HY:=jj (@any_yes _ (parB p) l k x hx);have HNO:=jj (@any_no _ (parB p) l k x hx HN.out);obtain ⟨ad,rfl,had,hc⟩:=Lies.row (f:=prCells) (n:=96) HA.out (fun y hy => prCells_length (HL.out y hy)) (by omega) hx;have hxo:=jj (HL.out x (List.mem_of_getElem? hx));have LD : Hid (∀ j v,(prCells x)[j]? = some v → wr.cell? ((ad.add (k * 96)).add j) = some v):=jj fun j v h => (HW.out.cell (by rw [add_block,add_block];exact had)).trans (hc j v h);have CP:=jj (par_any wr p x hxo.out g ((HW.out.cell (p:=⟨g,1,none⟩) hgw).trans HG.out) (by have:=HW.out.size;omega));clear hc;clear hx;have i0 : (0 : Int) ≤ (k : Int):=(by omega);have i1 : (k : Int) < (l.length : Int):=(by omega);go_wp2_with (refine wpList_load_at rfl 64 (.tmp 14) rfl (ad.add (k * 96)) rfl (prCells x) _ LD.out Tryz.underlying64 rfl (PI.out _ hxo.out) ?_);refine CP.out.mono ?_;clear LD CP;rintro e w1 ⟨rfl,hb1⟩;have HW1:=jj (HW.out.trans (hb1.mono HW.out.size));clear hb1;cases hv : (parB p) x with
   | true => have HQ:=jj (HY.out hv);have hv' : (parB p x) = true:=hv;clear hv HY HNO;go_wp2_with fail;go_ret;exact ⟨⟨k,rfl,by rw [HQ.out];simp⟩,HW1.out⟩
   | false =>
    have HQ:=jj (HNO.out hv);have hv' : (parB p x) = false:=hv;clear hv HY HNO;go_wp2_with fail
    go_roundw
    case rel =>
     have R : ∃ k' : Nat,k' ≤ l.length ∧ Value.int .i64 ((k : Int) + 1) = .int .i64 k' ∧ Hid ((l.take k').any (parB p) = false) ∧ Hid (Below w.heap.size w w1):=⟨k + 1,by omega,by go_num,HQ,HW1⟩
     first | exact R | ((repeat apply Exists.intro);exact ⟨R,rfl⟩)
    case measure => simp [intOf];omega
  ·obtain rfl : k = l.length:=(by omega);have hd : decide (l.length < l.length) = false:=(by simp);rw [List.take_of_length_le (Nat.le_refl _)] at HN;go_wp2_with fail;go_ret;exact ⟨⟨-1,rfl,by rw [HN.out];rfl⟩,HW.out⟩
set_option maxRecDepth 100000 in
set_option maxHeartbeats 1000000 in
theorem containsPr_any (w : World) (A : Option Addr) (c : Nat) (l : List Pr) (hl : ∀ x ∈ l,PrOk x) (hA : Lies w w.heap.size A (prsCells l)) (hn : l.length ≤ 274877906944) (p : Pr) (g : Nat) (hg : w.cell? ⟨g,1,none⟩ = some (.int .i64 p.parent)) (hgw : g < w.heap.size) :
  Calls Tryz.prog 82 #[.slice A l.length c,.func (.func 132) #[] #[.pointer (some ⟨g,0,none⟩)]] w fun e w' => e = .returned (.bool (l.any (parB p))) ∧ Below w.heap.size w w':=by
 have HC:=jj (indexPr_any w A c l hl hA hn p g hg hgw);clear hl hA hg;go_enter Tryz.func82,Tryz.ntmps82;go_wp2_with fail;refine HC.out.mono ?_;rintro e w1 ⟨⟨z,rfl,hz⟩,hb⟩;have HZ:=jj hz;clear hz;go_wp2_with fail;go_ret;exact ⟨by rw [← HZ.out];rfl,hb⟩
set_option maxRecDepth 100000 in
set_option maxHeartbeats 1000000 in
theorem parent_any (w : World) (a : MA) (m : Mc) (hm : McOk m) (hA : MAt w w.heap.size a m) (p : Pr) (hp : PrOk p) :
  Calls Tryz.prog 89 #[.agg (mcL a m).toArray,.agg (prCells p).toArray] w fun e w' => e = .returned (.bool (parentB m p)) ∧ Below w.heap.size w w':=by
 have hsz:=pr_size hp;have hs0:=(Whole.made w 30 (mcL a m).toArray).block (.cells (prCells p).toArray 64);have hs1:=Whole.made (w.alloc (.cells (mcL a m).toArray 30)) 64 (prCells p).toArray;rw [show (w.alloc (.cells (mcL a m).toArray 30)).heap.size = w.heap.size + 1 by simp] at hs1;have hb : Below w.heap.size w ((w.alloc (.cells (mcL a m).toArray 30)).alloc (.cells (prCells p).toArray 64)):=((Below.refl _ _).alloc (by first | exact Nat.le_refl _ | simp | (simp;omega)) _).alloc (by first | exact Nat.le_refl _ | simp | (simp;omega)) _;go_enter Tryz.func89,Tryz.ntmps89;go_upto_region 1 with (fail);change Code.wp _ _ _ _ ((w.alloc (.cells (mcL a m).toArray 30)).alloc (.cells (prCells p).toArray 64));generalize ((w.alloc (.cells (mcL a m).toArray 30)).alloc (.cells (prCells p).toArray 64)) = w1 at *;generalize hgx : w.heap.size = gx at *;have HGX:=jj hgx;have HS0:=jj hs0;have HS1:=jj hs1;have HW:=jj hb;have hgl : gx + 1 < w1.heap.size:=hs1.lt;clear hgx hb hs0 hs1;have HA:=jj (hA.below HW.out);have HM:=jj hm;have HP:=jj hp;have c1 : w1.cell? ⟨gx + 1,1,none⟩ = some (.int .i64 p.parent):=HS1.out.cell 1;have m5 : w1.cell? ⟨gx,5,none⟩ = some (.slice a.P m.procs.length a.cP):=HS0.out.cell 5;have CL:=jj (lives_any w1 p hp);have PI : Hid (∀ x : Pr,PrOk x → (Tryz.prog.info? 64).map (·.size) = some (prCells x).length):=jj fun x hx => (by rw [prCells_length hx];exact Tryz.sizePr);have LD : Hid (∀ j v,(prCells p)[j]? = some v → w1.cell? ((⟨gx + 1,0,none⟩ : Addr).add j) = some v):=jj (HS1.out.reads)
 have CC : Hid (∀ W,Below w1.heap.size w1 W → Calls Tryz.prog 82 #[.slice a.P m.procs.length a.cP,.func (.func 132) #[] #[.pointer (some ⟨gx + 1,0,none⟩)]] W fun e w' => e = .returned (.bool (m.procs.any (parB p))) ∧ Below W.heap.size W w'):=jj fun W hW => containsPr_any W a.P a.cP m.procs HM.out.procs ((HA.out.P.below (hW.mono (by omega))).wide (by have:=hW.size;omega)) HM.out.sizes.2.1 p (gx + 1) ((hW.cell (p:=⟨gx + 1,1,none⟩) (by show gx + 1 < _;omega)).trans c1) (by have:=hW.size;omega);clear hA hm hp hsz;cases hpp : (p.parent == 0) with
 | true =>
  have hp0 : p.parent = 0:=beq_iff_eq.1 hpp;have HP0:=jj hpp;have c1' : w1.cell? ⟨gx + 1,1,none⟩ = some (.int .i64 0):=(by rw [c1,hp0]);clear c1 hp0 hpp;go_wp2_with (first | (refine wpList_load_g (by simp [Region.wanted,yielded]) 64 (.tmp 3) rfl ⟨gx + 1,0,none⟩ rfl (prCells p) _ LD.out Tryz.underlying64 rfl (PI.out _ HP.out) ?_));refine CL.out.mono ?_;rintro e w2 ⟨rfl,hb2⟩;have HB2:=jj hb2;have HW2:=jj (HW.out.trans (hb2.mono (by omega)));have n5:=(hb2.cell (p:=⟨gx,5,none⟩) (by show gx < _;omega)).trans m5;clear hb2 m5 c1' CL LD PI;cases hl : livesB p with
  | true => have HLV:=jj hl;clear hl;go_wp2_with fail;go_ret;exact ⟨ret_bool (by unfold parentB;rw [HP0.out,HLV.out];rfl),by rw [HGX.out];exact HW2.out⟩
  | false => have HLV:=jj hl;clear hl;go_wp2_with fail;refine (CC.out _ HB2.out).mono ?_;rintro e w3 ⟨rfl,hb3⟩;have HW3:=jj (HW2.out.trans (hb3.mono (by have:=HB2.out.size;omega)));clear hb3;go_wp2_with fail;go_ret;exact ⟨ret_bool (by unfold parentB;rw [HP0.out,HLV.out];rfl),by rw [HGX.out];exact HW3.out⟩
 | false => have HP0:=jj hpp;clear CL LD PI;go_wp2_with fail;refine (CC.out _ (Below.refl _ _)).mono ?_;rintro e w3 ⟨rfl,hb3⟩;have HW3:=jj (HW.out.trans (hb3.mono (by omega)));clear hb3;go_wp2_with fail;go_ret;exact ⟨ret_bool (by unfold parentB;rw [HP0.out];rfl),by rw [HGX.out];exact HW3.out⟩
set_option maxRecDepth 100000 in
set_option maxHeartbeats 1000000 in
theorem plc_any (w : World) (n : Int) (q : Nb) (g : Nat) (hg : w.cell? ⟨g,0,none⟩ = some (.int .i64 n)) (hgw : g < w.heap.size) :
  Calls Tryz.prog 165 #[.agg (nbCells1 q).toArray,.pointer (some ⟨g,0,none⟩)] w fun e w' => e = .returned (.bool (q.1 == n)) ∧ Below w.heap.size w w':=by
 have hs0:=Whole.made w 51 (nbCells1 q).toArray;have hb : Below w.heap.size w (w.alloc (.cells (nbCells1 q).toArray 51)):=(Below.refl _ _).alloc (Nat.le_refl _) _;go_enter Tryz.func165,Tryz.ntmps165;go_upto_region 1 with (fail);change Code.wp _ _ _ _ (w.alloc (.cells (nbCells1 q).toArray 51));generalize (w.alloc (.cells (nbCells1 q).toArray 51)) = w1 at *;generalize hgx : w.heap.size = gx at *;have HGX:=jj hgx;have HS0:=jj hs0;have HW:=jj hb;have hgl : gx < w1.heap.size:=hs0.lt;clear hgx hb hs0;have c0 : w1.cell? ⟨gx,0,none⟩ = some (.int .i64 q.1):=HS0.out.cell 0;have c1 : w1.cell? ⟨g,0,none⟩ = some (.int .i64 n):=(HW.out.cell (p:=⟨g,0,none⟩) hgw).trans hg;clear hg;go_wp2_with fail;go_ret;exact ⟨rfl,by rw [HGX.out];exact HW.out⟩
set_option maxRecDepth 100000 in
set_option maxHeartbeats 1000000 in
theorem indexNb_any (w : World) (A : Option Addr) (c : Nat) (l : List Nb)  (hA : Lies w w.heap.size A (nbCells l)) (hn : l.length ≤ 9223372036854775807) (n : Int) (g : Nat) (hg : w.cell? ⟨g,0,none⟩ = some (.int .i64 n)) (hgw : g < w.heap.size) :
  Calls Tryz.prog 163 #[.slice A l.length c,.func (.func 165) #[] #[.pointer (some ⟨g,0,none⟩)]] w fun e w' => (∃ z : Int,e = .returned (.int .i64 z) ∧ decide (0 ≤ z) = l.any (fun q => q.1 == n)) ∧ Below w.heap.size w w':=by
 have HA:=jj hA;clear hA;have HG:=jj hg;clear hg;go_enter Tryz.func163,Tryz.ntmps163;go_wp2_with fail
 go_loopw [8] (fun i wr => ∃ k : Nat,k ≤ l.length ∧ i = .int .i64 k ∧ Hid ((l.take k).any (fun q => q.1 == n) = false) ∧ Hid (Below w.heap.size w wr)) (fun i _ => l.length - (intOf i).toNat)
 case atStart => exact ⟨0,by omega,rfl,jj rfl,jj (Below.refl _ _)⟩
 case round =>
  obtain ⟨k,hk,rfl,HN,HW⟩:=hrel;by_cases hlt : k < l.length
  ·obtain ⟨x,hx⟩:=get_some hlt;have HY:=jj (@any_yes _ (fun q => q.1 == n) l k x hx);have HNO:=jj (@any_no _ (fun q => q.1 == n) l k x hx HN.out);obtain ⟨ad,rfl,had,hc⟩:=Lies.row (f:=nbCells1) (n:=2) HA.out (fun y hy => rfl) (by omega) hx;have LD : Hid (∀ j v,(nbCells1 x)[j]? = some v → wr.cell? ((ad.add (k * 2)).add j) = some v):=jj fun j v h => (HW.out.cell (by rw [add_block,add_block];exact had)).trans (hc j v h);have CP:=jj (plc_any wr n x g ((HW.out.cell (p:=⟨g,0,none⟩) hgw).trans HG.out) (by have:=HW.out.size;omega));clear hc;clear hx;have i0 : (0 : Int) ≤ (k : Int):=(by omega);have i1 : (k : Int) < (l.length : Int):=(by omega);go_wp2_with (refine wpList_load_at rfl 51 (.tmp 14) rfl (ad.add (k * 2)) rfl (nbCells1 x) _ LD.out Tryz.underlying51 rfl (by kernel_rfl) ?_);refine CP.out.mono ?_;clear LD CP;rintro e w1 ⟨rfl,hb1⟩;have HW1:=jj (HW.out.trans (hb1.mono HW.out.size));clear hb1;cases hv : (fun q => q.1 == n) x with
   | true => have HQ:=jj (HY.out hv);have hv' : (x.1 == n) = true:=hv;clear hv HY HNO;go_wp2_with fail;go_ret;exact ⟨⟨k,rfl,by rw [HQ.out];simp⟩,HW1.out⟩
   | false =>
    have HQ:=jj (HNO.out hv);have hv' : (x.1 == n) = false:=hv;clear hv HY HNO;go_wp2_with fail
    go_roundw
    case rel =>
     have R : ∃ k' : Nat,k' ≤ l.length ∧ Value.int .i64 ((k : Int) + 1) = .int .i64 k' ∧ Hid ((l.take k').any (fun q => q.1 == n) = false) ∧ Hid (Below w.heap.size w w1):=⟨k + 1,by omega,by go_num,HQ,HW1⟩
     first | exact R | ((repeat apply Exists.intro);exact ⟨R,rfl⟩)
    case measure => simp [intOf];omega
  ·obtain rfl : k = l.length:=(by omega);have hd : decide (l.length < l.length) = false:=(by simp);rw [List.take_of_length_le (Nat.le_refl _)] at HN;go_wp2_with fail;go_ret;exact ⟨⟨-1,rfl,by rw [HN.out];rfl⟩,HW.out⟩
set_option maxRecDepth 100000 in
set_option maxHeartbeats 1000000 in
theorem place_any (w : World) (a : MA) (m : Mc) (hm : McOk m) (hA : MAt w w.heap.size a m) (n : Int) :
  Calls Tryz.prog 133 #[.agg (mcL a m).toArray,.int .i64 n] w fun e w' => (∃ z : Int,e = .returned (.int .i64 z) ∧ decide (0 ≤ z) = hasPipe m n) ∧ Below w.heap.size w w':=by
 have hs0:=(Whole.made w 30 (mcL a m).toArray).block (.cells #[.int .i64 n] 3);have hs1:=Whole.made (w.alloc (.cells (mcL a m).toArray 30)) 3 #[.int .i64 n];rw [show (w.alloc (.cells (mcL a m).toArray 30)).heap.size = w.heap.size + 1 by simp] at hs1;have hb : Below w.heap.size w ((w.alloc (.cells (mcL a m).toArray 30)).alloc (.cells #[.int .i64 n] 3)):=((Below.refl _ _).alloc (by first | exact Nat.le_refl _ | simp | (simp;omega)) _).alloc (by first | exact Nat.le_refl _ | simp | (simp;omega)) _;go_enter Tryz.func133,Tryz.ntmps133;go_upto_region 1 with (fail);change Code.wp _ _ _ _ ((w.alloc (.cells (mcL a m).toArray 30)).alloc (.cells #[.int .i64 n] 3));generalize ((w.alloc (.cells (mcL a m).toArray 30)).alloc (.cells #[.int .i64 n] 3)) = w1 at *;generalize hgx : w.heap.size = gx at *;have HGX:=jj hgx;have HS0:=jj hs0;have HS1:=jj hs1;have HW:=jj hb;have hgl : gx + 1 < w1.heap.size:=hs1.lt;clear hgx hb hs0 hs1;have HA:=jj (hA.below HW.out);have HM:=jj hm;have c1 : w1.cell? ⟨gx + 1,0,none⟩ = some (.int .i64 n):=HS1.out.cell 0;have m8 : w1.cell? ⟨gx,8,none⟩ = some (.slice a.Q m.pipes.length a.cQ):=HS0.out.cell 8;have CC:=jj (indexNb_any w1 a.Q a.cQ m.pipes (HA.out.Q.wide (by omega)) HM.out.sizes.2.2.1 n (gx + 1) c1 (by omega));clear hA hm c1;go_wp2_with fail;refine CC.out.mono ?_;rintro e w3 ⟨⟨z,rfl,hz⟩,hb3⟩;have HZ:=jj hz;have HW3:=jj (HW.out.trans (hb3.mono (by omega)));clear hb3 hz;go_wp2_with fail;go_ret;exact ⟨⟨z,rfl,by rw [HZ.out];rfl⟩,by rw [HGX.out];exact HW3.out⟩
end Go.Proofs.YtnbphabheikfeaaGreatDoor
namespace Go.Proofs.YtnbphabheikfeaaGreatDoor
open Go.RowKit
set_option maxRecDepth 100000 in
set_option maxHeartbeats 2000000 in
theorem file_any (w : World) (a : MA) (m : Mc) (hm : McOk m) (hA : MAt w w.heap.size a m) (f : Fl) :
  Calls Tryz.prog 90 #[.agg (mcL a m).toArray,.agg (flCells1 f).toArray] w fun e w' => e = .returned (.bool (fileB m f)) ∧ Below w.heap.size w w':=by
 have hs0:=(Whole.made w 30 (mcL a m).toArray).block (.cells (flCells1 f).toArray 61);have hs1:=Whole.made (w.alloc (.cells (mcL a m).toArray 30)) 61 (flCells1 f).toArray;rw [show (w.alloc (.cells (mcL a m).toArray 30)).heap.size = w.heap.size + 1 by simp] at hs1;have hb : Below w.heap.size w ((w.alloc (.cells (mcL a m).toArray 30)).alloc (.cells (flCells1 f).toArray 61)):=((Below.refl _ _).alloc (by first | exact Nat.le_refl _ | simp | (simp;omega)) _).alloc (by first | exact Nat.le_refl _ | simp | (simp;omega)) _;go_enter Tryz.func90,Tryz.ntmps90;go_upto_region 1 with (fail);change Code.wp _ _ _ _ ((w.alloc (.cells (mcL a m).toArray 30)).alloc (.cells (flCells1 f).toArray 61));generalize ((w.alloc (.cells (mcL a m).toArray 30)).alloc (.cells (flCells1 f).toArray 61)) = w1 at *;generalize hgx : w.heap.size = gx at *;have HGX:=jj hgx;have HS0:=jj hs0;have HS1:=jj hs1;have HW:=jj hb;have hgl : gx + 1 < w1.heap.size:=hs1.lt;clear hgx hb hs0 hs1;have HA:=jj (hA.below HW.out);have HM:=jj hm;have c0 : w1.cell? ⟨gx + 1,0,none⟩ = some (.int .i64 f.kind):=HS1.out.cell 0;have c1 : w1.cell? ⟨gx + 1,1,none⟩ = some (.int .i64 f.n):=HS1.out.cell 1;have c2 : w1.cell? ⟨gx + 1,2,none⟩ = some (.int .i64 f.pos):=HS1.out.cell 2;have CC:=jj (place_any w1 a m hm (HA.out.wide (by omega)) f.n);have MI : Hid ((Tryz.prog.info? 30).map (·.size) = some (mcL a m).length):=jj (by rw [mcL_length];exact Tryz.sizeMc);have LD : Hid (∀ j v,(mcL a m)[j]? = some v → w1.cell? ((⟨gx,0,none⟩ : Addr).add j) = some v):=jj (HS0.out.reads);clear hA hm;obtain ⟨kd,n,ps⟩:=f;dsimp only at c0 c1 c2 CC;by_cases h4 : (kd = 4 ∨ kd = 5) ∧ ps = 0
 ·obtain ⟨hk,hp⟩:=h4;subst hp;rcases hk with rfl | rfl
  all_goals
   go_wp2_with (refine wpList_load_g (by simp [Region.wanted,yielded]) 30 (.tmp 2) rfl ⟨gx,0,none⟩ rfl (mcL a m) _ LD.out Tryz.underlying30 rfl MI.out ?_);refine CC.out.mono ?_;rintro e w3 ⟨⟨z,rfl,hz⟩,hb3⟩;have HZ:=jj hz;have HW3:=jj (HW.out.trans (hb3.mono (by omega)));clear hb3 hz c0 c1 c2;go_wp2_with fail;go_ret;exact ⟨ret_bool (by rw [HZ.out];simp [fileB]),by rw [HGX.out];exact HW3.out⟩
 ·have HQ:=jj h4;clear h4 CC LD MI;by_cases e1 : kd = 1
  ·subst e1;clear HQ;go_wp2_with fail
   all_goals
    go_ret;refine ⟨ret_bool ?_,by rw [HGX.out];exact HW.out⟩;simp [fileB, *]
  by_cases e2 : kd = 2
  ·subst e2;clear HQ e1;go_wp2_with fail
   all_goals
    go_ret;refine ⟨ret_bool ?_,by rw [HGX.out];exact HW.out⟩;simp [fileB, *]
  by_cases e3 : kd = 3
  ·subst e3;clear HQ e1 e2;go_wp2_with fail
   all_goals
    go_ret;refine ⟨ret_bool ?_,by rw [HGX.out];exact HW.out⟩;simp [fileB, *]
    try omega
  have d1 : (kd == 1) = false:=beq_eq_false_iff_ne.2 e1;have d2 : (kd == 2) = false:=beq_eq_false_iff_ne.2 e2;have d3 : (kd == 3) = false:=beq_eq_false_iff_ne.2 e3;by_cases e4 : kd = 4 ∨ kd = 5
  ·have hp : ¬ ps = 0:=fun h => HQ.out ⟨e4,h⟩;have dp : (ps == 0) = false:=beq_eq_false_iff_ne.2 hp;rcases e4 with rfl | rfl
   all_goals
    clear d1 d2 d3 e1 e2 e3 hp;go_wp2_with fail;go_ret;refine ⟨ret_bool ?_,by rw [HGX.out];exact HW.out⟩;simp [fileB,dp]
  ·have e5 : ¬ kd = 4:=fun h => e4 (.inl h);have e6 : ¬ kd = 5:=fun h => e4 (.inr h);have d4 : (kd == 4) = false:=beq_eq_false_iff_ne.2 e5;have d5 : (kd == 5) = false:=beq_eq_false_iff_ne.2 e6;have HE : Hid (fileB m ⟨kd,n,ps⟩ = false):=jj (by simp [fileB,e1,e2,e3,e5,e6]);clear e1 e2 e3 e4 e5 e6 HQ;go_wp2_with fail;go_ret;exact ⟨ret_bool HE.out.symm,by rw [HGX.out];exact HW.out⟩
set_option maxRecDepth 100000 in
set_option maxHeartbeats 2000000 in
theorem numbers_any (w : World) (a : MA) (m : Mc) :
  Calls Tryz.prog 49 #[.agg (mcL a m).toArray] w fun e w' => e = .returned (.int .i64 (numsE m)) ∧ Below w.heap.size w w':=by
 have hs0:=Whole.made w 30 (mcL a m).toArray;have hb : Below w.heap.size w (w.alloc (.cells (mcL a m).toArray 30)):=(Below.refl _ _).alloc (Nat.le_refl _) _;go_enter Tryz.func49,Tryz.ntmps49;go_upto_region 1 with (fail);change Code.wp _ _ _ _ (w.alloc (.cells (mcL a m).toArray 30));generalize (w.alloc (.cells (mcL a m).toArray 30)) = w1 at *;generalize hgx : w.heap.size = gx at *;have HGX:=jj hgx;have HS0:=jj hs0;have HW:=jj hb;have hgl : gx < w1.heap.size:=hs0.lt;clear hgx hb hs0;have c1 : w1.cell? ⟨gx,1,none⟩ = some (.int .i64 m.quantum):=HS0.out.cell 1;have c2 : w1.cell? ⟨gx,2,none⟩ = some (.int .i64 m.cur):=HS0.out.cell 2;have c3 : w1.cell? ⟨gx,3,none⟩ = some (.int .i64 m.left):=HS0.out.cell 3;have c6 : w1.cell? ⟨gx,6,none⟩ = some (.int .i64 m.next):=HS0.out.cell 6;have c9 : w1.cell? ⟨gx,9,none⟩ = some (.int .i64 m.newPipe):=HS0.out.cell 9;have HV : Hid ((numsB m = true) = (1 ≤ m.quantum ∧ m.quantum ≤ 1000 ∧ 0 ≤ m.left ∧ m.left ≤ m.quantum ∧ 0 ≤ m.cur ∧ 1 ≤ m.next ∧ m.next ≤ 1000000000 ∧ 1 ≤ m.newPipe ∧ m.newPipe ≤ 1000000000)):=jj (by simp [numsB,and_assoc]);generalize m.quantum = q at *;generalize m.cur = cu at *;generalize m.left = le at *;generalize m.next = nx at *;generalize m.newPipe = np at *;by_cases h : 1 ≤ q ∧ q ≤ 1000 ∧ 0 ≤ le ∧ le ≤ q ∧ 0 ≤ cu ∧ 1 ≤ nx ∧ nx ≤ 1000000000 ∧ 1 ≤ np ∧ np ≤ 1000000000
 ·have HE : Hid (0 = numsE m):=jj (by unfold numsE;rw [if_pos (HV.out ▸ h)]);obtain ⟨h1,h2,h3,h4,h5,h6,h7,h8,h9⟩:=h;have d1 : decide (q < 1) = false:=decide_eq_false (by omega);have d2 : decide (1000 < q) = false:=decide_eq_false (by omega);have d3 : decide (le < 0) = false:=decide_eq_false (by omega);have d4 : decide (q < le) = false:=decide_eq_false (by omega);have d5 : decide (cu < 0) = false:=decide_eq_false (by omega);have d6 : decide (nx < 1) = false:=decide_eq_false (by omega);have d7 : decide (1000000000 < nx) = false:=decide_eq_false (by omega);have d8 : decide (np < 1) = false:=decide_eq_false (by omega);have d9 : decide (1000000000 < np) = false:=decide_eq_false (by omega);clear HV;go_wp2_with fail;go_ret;exact ⟨ret_int HE.out,by rw [HGX.out];exact HW.out⟩
 ·have HE : Hid (2 = numsE m):=jj (by unfold numsE;rw [if_neg (HV.out ▸ h)]);have HQ:=jj h;clear h HV;go_wp2_with fail
  all_goals
   go_ret;refine ⟨?_,by rw [HGX.out];exact HW.out⟩
   first
    | exact ret_int HE.out
    | (exfalso
       have hq:=HQ.out;omega)
set_option maxRecDepth 100000 in
set_option maxHeartbeats 1000000 in
theorem texts25_any (w : World) (a : MA) (m : Mc) :
  Calls Tryz.prog 53 #[.agg (mcL a m).toArray] w fun e w' => e = .returned (.int .i64 (textsE m)) ∧ Below w.heap.size w w':=by
 have hs0:=Whole.made w 30 (mcL a m).toArray;have hb : Below w.heap.size w (w.alloc (.cells (mcL a m).toArray 30)):=(Below.refl _ _).alloc (Nat.le_refl _) _;go_enter Tryz.func53,Tryz.ntmps53;go_upto_region 1 with (fail);change Code.wp _ _ _ _ (w.alloc (.cells (mcL a m).toArray 30));generalize (w.alloc (.cells (mcL a m).toArray 30)) = w1 at *;generalize hgx : w.heap.size = gx at *;have HGX:=jj hgx;have HS0:=jj hs0;have HW:=jj hb;have hgl : gx < w1.heap.size:=hs0.lt;clear hgx hb hs0;have c7 : w1.cell? ⟨gx,7,none⟩ = some (S m.init):=HS0.out.cell 7;have c10 : w1.cell? ⟨gx,10,none⟩ = some (S m.inp):=HS0.out.cell 10;by_cases h1 : 65536 < m.inp.length
 ·have HE : Hid (6 = textsE m):=jj (by unfold textsE;rw [if_pos (.inl h1)]);have d : decide ((65536 : Int) < (m.inp.length : Int)) = true:=decide_eq_true (by omega);have d' : decide (65536 < m.inp.length) = true:=decide_eq_true h1;clear h1;go_wp2_with fail;go_ret;exact ⟨ret_int HE.out,by rw [HGX.out];exact HW.out⟩
 ·have d : decide ((65536 : Int) < (m.inp.length : Int)) = false:=decide_eq_false (by omega);have d' : decide (65536 < m.inp.length) = false:=decide_eq_false h1;by_cases h2 : 128 < m.init.length
  ·have HE : Hid (6 = textsE m):=jj (by unfold textsE;rw [if_pos (.inr h2)]);have e : decide ((128 : Int) < (m.init.length : Int)) = true:=decide_eq_true (by omega);have e' : decide (128 < m.init.length) = true:=decide_eq_true h2;clear h1 h2;go_wp2_with fail;go_ret;exact ⟨ret_int HE.out,by rw [HGX.out];exact HW.out⟩
  ·have HE : Hid (0 = textsE m):=jj (by unfold textsE;rw [if_neg (fun h => h.elim h1 h2)]);have e : decide ((128 : Int) < (m.init.length : Int)) = false:=decide_eq_false (by omega);have e' : decide (128 < m.init.length) = false:=decide_eq_false h2;clear h1 h2;go_wp2_with fail;go_ret;exact ⟨ret_int HE.out,by rw [HGX.out];exact HW.out⟩
set_option maxRecDepth 100000 in
set_option maxHeartbeats 1000000 in
theorem frames_any (w : World) (a : MA) (m : Mc) (hA : MAt w w.heap.size a m) :
  Calls Tryz.prog 50 #[.agg (mcL a m).toArray] w fun e w' => e = .returned (.int .i64 (framesE m)) ∧ Below w.heap.size w w':=by
 have hs0:=Whole.made w 30 (mcL a m).toArray;have hb : Below w.heap.size w (w.alloc (.cells (mcL a m).toArray 30)):=(Below.refl _ _).alloc (Nat.le_refl _) _;go_enter Tryz.func50,Tryz.ntmps50;go_upto_region 1 with (fail);change Code.wp _ _ _ _ (w.alloc (.cells (mcL a m).toArray 30));generalize (w.alloc (.cells (mcL a m).toArray 30)) = w1 at *;generalize hgx : w.heap.size = gx at *;have HGX:=jj hgx;have HS0:=jj hs0;have HW:=jj hb;have hgl : gx < w1.heap.size:=hs0.lt;clear hgx hb hs0;have HA:=jj (hA.below HW.out);have c4 : w1.cell? ⟨gx,4,none⟩ = some (.slice a.F m.frames.length a.cF):=HS0.out.cell 4;have HFE : Hid (framesE m = if m.frames.length < 1 ∨ 64 < m.frames.length then 6 else if m.frames.all is128 = true then 0 else 3):=jj rfl;have HFA : Hid (Strs w1 w1.heap.size a.F m.frames):=jj (Lies.wide HA.out.F (by omega))
 clear hA HA;generalize m.frames = fs at *;by_cases h1 : fs.length < 1
 ·have HE : Hid (6 = framesE m):=jj (by rw [HFE.out,if_pos (.inl h1)]);have d : decide ((fs.length : Int) < 1) = true:=decide_eq_true (by omega);have d' : decide (fs.length < 1) = true:=decide_eq_true h1;clear h1;go_wp2_with fail;go_ret;exact ⟨ret_int HE.out,by rw [HGX.out];exact HW.out⟩
 have d : decide ((fs.length : Int) < 1) = false:=decide_eq_false (by omega);have d' : decide (fs.length < 1) = false:=decide_eq_false h1;by_cases h2 : 64 < fs.length
 ·have HE : Hid (6 = framesE m):=jj (by rw [HFE.out,if_pos (.inr h2)]);have e : decide ((64 : Int) < (fs.length : Int)) = true:=decide_eq_true (by omega);have e' : decide (64 < fs.length) = true:=decide_eq_true h2;clear h1 h2;go_wp2_with fail;go_ret;exact ⟨ret_int HE.out,by rw [HGX.out];exact HW.out⟩
 have HFE' : Hid (framesE m = if fs.all is128 = true then 0 else 3):=jj (by rw [HFE.out,if_neg (fun h => h.elim h1 h2)]);have e : decide ((64 : Int) < (fs.length : Int)) = false:=decide_eq_false (by omega);have e' : decide (64 < fs.length) = false:=decide_eq_false h2;have hl64 : fs.length ≤ 64:=(by omega);clear h1 h2 HFE;go_wp2_with fail;clear d d' e e'
 go_loopw [18] (fun i wr => ∃ k : Nat,k ≤ fs.length ∧ i = .int .i64 k ∧ Hid ((fs.take k).all is128 = true) ∧ Hid (Below w1.heap.size w1 wr)) (fun i _ => fs.length - (intOf i).toNat)
 case atStart => exact ⟨0,by omega,rfl,jj rfl,jj (Below.refl _ _)⟩
 case round =>
  obtain ⟨k,hk,rfl,HN,HV⟩:=hrel;by_cases hlt : k < fs.length
  ·obtain ⟨x,hx⟩:=get_some hlt;have HY:=jj (@all_on _ is128 fs k x hx HN.out);have HNO:=jj (@all_bad _ is128 fs k x hx);obtain ⟨ad,hadr,had,hc⟩:=Strs.at' HFA.out hlt;have hgd : fs.getD k [] = x:=(by rw [List.getD_eq_getElem?_getD,hx];rfl);rw [hgd] at hc;rw [hadr];have b0 : wr.cell? (ad.add k) = _:=(HV.out.cell (by rw [add_block];exact had)).trans hc;clear hc hx hgd;have i0 : (0 : Int) ≤ (k : Int):=(by omega);have i1 : (k : Int) < (fs.length : Int):=(by omega);by_cases h1 : x.length = 128
   ·have HQ:=jj (HY.out (by unfold is128;simp [h1]));have d : (x.length == 128) = true:=beq_iff_eq.2 h1;have d' : ((x.length : Int) != 128) = false:=(by simp [h1]);have d'' : (x.length != 128) = false:=(by simp [h1]);clear h1 HY HNO;go_wp2_with fail
    go_roundw
    case rel =>
     have R : ∃ k' : Nat,k' ≤ fs.length ∧ Value.int .i64 ((k : Int) + 1) = .int .i64 k' ∧ Hid ((fs.take k').all is128 = true) ∧ Hid (Below w1.heap.size w1 wr):=⟨k + 1,by omega,by go_num,HQ,HV⟩
     first | exact R | ((repeat apply Exists.intro);exact ⟨R,rfl⟩)
    case measure => simp [intOf];omega
   ·have HQ:=jj (HNO.out (by unfold is128;simp [h1]));have d' : ((x.length : Int) != 128) = true:=(by simp;omega);have d'' : (x.length != 128) = true:=(by simp [h1]);clear h1 HY HNO;go_wp2_with fail;go_ret;exact ⟨ret_int (by rw [HFE'.out,if_neg (by rw [HQ.out];simp)]),by rw [HGX.out];exact HW.out.trans (HV.out.mono (by omega))⟩
  ·obtain rfl : k = fs.length:=(by omega);have hd : decide (fs.length < fs.length) = false:=(by simp);rw [List.take_of_length_le (Nat.le_refl _)] at HN;go_wp2_with fail;go_ret;exact ⟨ret_int (by rw [HFE'.out,if_pos HN.out]),by rw [HGX.out];exact HW.out.trans (HV.out.mono (by omega))⟩
theorem pipesB_yes {n last : Int} {p : Nb} {l : List Nb} (h1 : last < p.1) (h2 : p.1 < n) (h3 : p.2.length ≤ 64) : pipesB n last (p :: l) = pipesB n p.1 l:=by
 show (decide (last < p.1) && decide (p.1 < n) && decide (p.2.length ≤ 64) && pipesB n p.1 l) = _;simp [h1,h2,h3]
theorem pipesB_no {n last : Int} {p : Nb} {l : List Nb} (h : ¬ (last < p.1 ∧ p.1 < n ∧ p.2.length ≤ 64)) : pipesB n last (p :: l) = false:=by
 show (decide (last < p.1) && decide (p.1 < n) && decide (p.2.length ≤ 64) && pipesB n p.1 l) = _;rw [← Bool.not_eq_true];simp only [Bool.and_eq_true,decide_eq_true_eq];exact fun h' => h ⟨h'.1.1.1,h'.1.1.2,h'.1.2⟩
set_option maxRecDepth 100000 in
set_option maxHeartbeats 1000000 in
theorem pipes_any (w : World) (a : MA) (m : Mc) (hA : MAt w w.heap.size a m) :
  Calls Tryz.prog 52 #[.agg (mcL a m).toArray] w fun e w' => e = .returned (.int .i64 (pipesE m)) ∧ Below w.heap.size w w':=by
 have hs0:=Whole.made w 30 (mcL a m).toArray;have hb : Below w.heap.size w (w.alloc (.cells (mcL a m).toArray 30)):=(Below.refl _ _).alloc (Nat.le_refl _) _;go_enter Tryz.func52,Tryz.ntmps52;go_upto_region 1 with (fail);change Code.wp _ _ _ _ (w.alloc (.cells (mcL a m).toArray 30));generalize (w.alloc (.cells (mcL a m).toArray 30)) = w1 at *;generalize hgx : w.heap.size = gx at *;have HGX:=jj hgx;have HS0:=jj hs0;have HW:=jj hb;have hgl : gx < w1.heap.size:=hs0.lt;clear hgx hb hs0;have HA:=jj (hA.below HW.out);have c8 : w1.cell? ⟨gx,8,none⟩ = some (.slice a.Q m.pipes.length a.cQ):=HS0.out.cell 8;have HFE : Hid (pipesE m = if 64 < m.pipes.length then 6 else if pipesB m.newPipe 0 m.pipes = true then 0 else 3):=jj rfl;have HFA : Hid (Lies w1 w1.heap.size a.Q (nbCells m.pipes)):=jj (Lies.wide HA.out.Q (by omega));have HS:=jj (fun (W : World) (hW : Below w1.heap.size w1 W) => (HS0.out.below hW (by omega)).cell 9);have HC9 : Hid (∀ W,Below w1.heap.size w1 W → W.cell? ⟨gx,9,none⟩ = some (.int .i64 m.newPipe)):=HS;clear hA HA HS;generalize m.pipes = l at *;generalize m.newPipe = np at *;by_cases h2 : 64 < l.length
 ·have HE : Hid (6 = pipesE m):=jj (by rw [HFE.out,if_pos h2]);have e : decide ((64 : Int) < (l.length : Int)) = true:=decide_eq_true (by omega);have e' : decide (64 < l.length) = true:=decide_eq_true h2;clear h2;go_wp2_with fail;go_ret;exact ⟨ret_int HE.out,by rw [HGX.out];exact HW.out⟩
 have HFE' : Hid (pipesE m = if pipesB np 0 l = true then 0 else 3):=jj (by rw [HFE.out,if_neg h2]);have e : decide ((64 : Int) < (l.length : Int)) = false:=decide_eq_false (by omega);have e' : decide (64 < l.length) = false:=decide_eq_false h2;have hl64 : l.length ≤ 64:=(by omega);clear h2 HFE;go_wp2_with fail;clear e e'
 go_loopw [3,13] (fun s i wr => ∃ (k : Nat) (last : Int),k ≤ l.length ∧ i = .int .i64 k ∧ s = .int .i64 last ∧ Hid (pipesB np 0 l = pipesB np last (l.drop k)) ∧ Hid (Below w1.heap.size w1 wr)) (fun _ i _ => l.length - (intOf i).toNat)
 case atStart => exact ⟨0,0,by omega,rfl,rfl,jj rfl,jj (Below.refl _ _)⟩
 case round =>
  obtain ⟨k,last,hk,rfl,rfl,HN,HV⟩:=hrel;by_cases hlt : k < l.length
  ·obtain ⟨x,hx⟩:=get_some hlt;obtain ⟨ad,hadr,had,hc⟩:=Lies.row (f:=nbCells1) (n:=2) HFA.out (fun y hy => rfl) (by omega) hx;have LD : Hid (∀ j v,(nbCells1 x)[j]? = some v → wr.cell? ((ad.add (k * 2)).add j) = some v):=jj fun j v h => (HV.out.cell (by rw [add_block,add_block];exact had)).trans (hc j v h);have HD:=jj (drop_cons hx);have hzv:=HV.out.size;have c9 : (wr.alloc (.cells (nbCells1 x).toArray 51)).cell? ⟨gx,9,none⟩ = some (.int .i64 np):=HC9.out _ (HV.out.alloc hzv _);have HX:=jj (Whole.made wr 51 (nbCells1 x).toArray);have x0 : (wr.alloc (.cells (nbCells1 x).toArray 51)).cell? ⟨wr.heap.size,0,none⟩ = some (.int .i64 x.1):=HX.out.cell 0;have x1 : (wr.alloc (.cells (nbCells1 x).toArray 51)).cell? ⟨wr.heap.size,1,none⟩ = some (S x.2):=HX.out.cell 1;have HV1:=jj (HV.out.alloc hzv (.cells (nbCells1 x).toArray 51));rw [hadr];clear hc hx hadr;have i0 : (0 : Int) ≤ (k : Int):=(by omega);have i1 : (k : Int) < (l.length : Int):=(by omega)
   go_upto_region 7 with (first
    | (refine wpList_load_at rfl 51 (.tmp 15) rfl (ad.add (k * 2)) rfl (nbCells1 x) _ LD.out Tryz.underlying51 rfl (by kernel_rfl) ?_)
    | (refine wpList_fresh rfl rfl 51 5 (.tmp 16) rfl rfl rfl rfl (nbCells1 x) rfl rfl _ Tryz.infoPi rfl (nb_one x) ?_))
   change Code.wp _ _ _ _ (wr.alloc (.cells (nbCells1 x).toArray 51));have HGE : Hid (w1.heap.size ≤ wr.heap.size):=jj hzv;clear LD HX hzv;generalize wr.alloc (.cells (nbCells1 x).toArray 51) = w2 at *;generalize wr.heap.size = g2 at *;obtain ⟨id,dt⟩:=x;dsimp only at x0 x1;by_cases h : last < id ∧ id < np ∧ dt.length ≤ 64
   ·have HQ:=jj (pipesB_yes (n:=np) (last:=last) (p:=(id,dt)) (l:=l.drop (k + 1)) h.1 h.2.1 h.2.2);obtain ⟨h1,h2,h3⟩:=h;have d1 : decide (id ≤ last) = false:=decide_eq_false (by omega);have d2 : decide (np ≤ id) = false:=decide_eq_false (by omega);have d3 : decide ((64 : Int) < (dt.length : Int)) = false:=decide_eq_false (by omega);have d3' : decide (64 < dt.length) = false:=decide_eq_false (by omega);clear h1 h2 h3;go_wp2_with fail
    go_roundw
    case rel =>
     have R : ∃ (k' : Nat) (last' : Int),k' ≤ l.length ∧ Value.int .i64 ((k : Int) + 1) = .int .i64 k' ∧ Value.int .i64 id = .int .i64 last' ∧ Hid (pipesB np 0 l = pipesB np last' (l.drop k')) ∧ Hid (Below w1.heap.size w1 w2):=⟨k + 1,id,by omega,by go_num,rfl,jj (by rw [HN.out,HD.out];exact HQ.out),HV1⟩
     first | exact R | ((repeat apply Exists.intro);exact ⟨R,rfl⟩)
    case measure => simp [intOf];omega
   ·have HQ:=jj (pipesB_no (n:=np) (last:=last) (p:=(id,dt)) (l:=l.drop (k + 1)) h);have HZ:=jj h;clear h;have HE : Hid (3 = pipesE m):=jj (by rw [HFE'.out,if_neg];rw [HN.out,HD.out,HQ.out];simp);by_cases h1 : last < id
    ·have d1 : decide (id ≤ last) = false:=decide_eq_false (by omega);by_cases h2 : id < np
     ·have h3 : ¬ dt.length ≤ 64:=fun h => HZ.out ⟨h1,h2,h⟩;have d2 : decide (np ≤ id) = false:=decide_eq_false (by omega);have d3 : decide ((64 : Int) < (dt.length : Int)) = true:=decide_eq_true (by omega);have d3' : decide (64 < dt.length) = true:=decide_eq_true (by omega);clear h1 h2 h3;go_wp2_with fail;go_ret;exact ⟨ret_int HE.out,by rw [HGX.out];exact HW.out.trans (HV1.out.mono (by omega))⟩
     ·have d2 : decide (np ≤ id) = true:=decide_eq_true (by omega);clear h1 h2;go_wp2_with fail;go_ret;exact ⟨ret_int HE.out,by rw [HGX.out];exact HW.out.trans (HV1.out.mono (by omega))⟩
    ·have d1 : decide (id ≤ last) = true:=decide_eq_true (by omega);clear h1;go_wp2_with fail;go_ret;exact ⟨ret_int HE.out,by rw [HGX.out];exact HW.out.trans (HV1.out.mono (by omega))⟩
  ·obtain rfl : k = l.length:=(by omega);have hd : decide (l.length < l.length) = false:=(by simp);rw [drop_end] at HN;go_wp2_with fail;go_ret;exact ⟨ret_int (by rw [HFE'.out,if_pos (by rw [HN.out];rfl)]),by rw [HGX.out];exact HW.out.trans (HV.out.mono (by omega))⟩
end Go.Proofs.YtnbphabheikfeaaGreatDoor
