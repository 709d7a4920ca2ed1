import Derived.Test.YtdlnmdbonagchaaGreatDoorRcC
import Derived.Deep.RegionHeld3
namespace Go.Proofs.YtdlnmdbonagchaaGreatDoor
open Go.RowKit
def inSz (l : List InP) : Nat:=(l.map fun p => 100 + 2 * p.2.1.length).sum
def outSz (l : List OutP) : Nat:=(l.map fun p => 100 + 2 * p.2.length).sum
theorem inSz_mem {l : List InP} {p : InP} (h : p ∈ l) : 100 + 2 * p.2.1.length ≤ inSz l:=by
 induction l with
 | nil => cases h
 | cons q l ih =>
  have e : inSz (q :: l) = 100 + 2 * q.2.1.length + inSz l:=(by simp [inSz]);rcases List.mem_cons.1 h with rfl | h
  ·omega
  ·have:=ih h;omega
theorem outSz_mem {l : List OutP} {p : OutP} (h : p ∈ l) : 100 + 2 * p.2.length ≤ outSz l:=by
 induction l with
 | nil => cases h
 | cons q l ih =>
  have e : outSz (q :: l) = 100 + 2 * q.2.length + outSz l:=(by simp [outSz]);rcases List.mem_cons.1 h with rfl | h
  ·omega
  ·have:=ih h;omega
theorem inSz_len (l : List InP) : 100 * l.length ≤ inSz l:=by
 induction l with
 | nil => exact Nat.zero_le _
 | cons q l ih => have e : inSz (q :: l) = 100 + 2 * q.2.1.length + inSz l:=(by simp [inSz]);rw [e,List.length_cons];omega
theorem outSz_len (l : List OutP) : 100 * l.length ≤ outSz l:=by
 induction l with
 | nil => exact Nat.zero_le _
 | cons q l ih => have e : outSz (q :: l) = 100 + 2 * q.2.length + outSz l:=(by simp [outSz]);rw [e,List.length_cons];omega
theorem inRow_len {p : InP} (h : smol p.1) (hl : p.2.1.length ≤ 1073741824) : (inRow p).length ≤ 66 + 2 * p.2.1.length:=by
 have h1:=itoa_len (smol_in h);have h2:=endB_len p.2.2;have e : sizeOf [Lib.itoa p.1,p.2.1,endB p.2.2] = 12 + (Lib.itoa p.1).length + p.2.1.length + (endB p.2.2).length:=(by simp [sizeOf];omega);have h3:=rowB_le [Lib.itoa p.1,p.2.1,endB p.2.2] (by omega);unfold inRow;omega
theorem outRow_len {p : OutP} (h : smol p.1) (hl : p.2.length ≤ 1073741824) : (outRow p).length ≤ 66 + 2 * p.2.length:=by
 have h1:=itoa_len (smol_in h);have e : sizeOf [Lib.itoa p.1,p.2] = 8 + (Lib.itoa p.1).length + p.2.length:=(by simp [sizeOf];omega);have h3:=rowB_le [Lib.itoa p.1,p.2] (by omega);unfold outRow;omega
theorem inRows_size : ∀ {l : List InP},(∀ p ∈ l,smol p.1) → (∀ p ∈ l,p.2.1.length ≤ 1073741824) → sizeOf (l.map inRow) ≤ inSz l
 | [],_,_ => Nat.zero_le _
 | p :: l,h,hl => by
  have ih:=inRows_size (l:=l) (fun q hq => h q (List.mem_cons_of_mem _ hq)) (fun q hq => hl q (List.mem_cons_of_mem _ hq));have e1 : sizeOf ((p :: l).map inRow) = 4 + (inRow p).length + sizeOf (l.map inRow):=(by simp [sizeOf]);have e2 : inSz (p :: l) = 100 + 2 * p.2.1.length + inSz l:=(by simp [inSz]);have:=inRow_len (h p (List.mem_cons_self ..)) (hl p (List.mem_cons_self ..));omega
theorem outRows_size : ∀ {l : List OutP},(∀ p ∈ l,smol p.1) → (∀ p ∈ l,p.2.length ≤ 1073741824) → sizeOf (l.map outRow) ≤ outSz l
 | [],_,_ => Nat.zero_le _
 | p :: l,h,hl => by
  have ih:=outRows_size (l:=l) (fun q hq => h q (List.mem_cons_of_mem _ hq)) (fun q hq => hl q (List.mem_cons_of_mem _ hq));have e1 : sizeOf ((p :: l).map outRow) = 4 + (outRow p).length + sizeOf (l.map outRow):=(by simp [sizeOf]);have e2 : outSz (p :: l) = 100 + 2 * p.2.length + outSz l:=(by simp [outSz]);have:=outRow_len (h p (List.mem_cons_self ..)) (hl p (List.mem_cons_self ..));omega
structure TSz (t : TapeP) : Prop where
 F : t.F.length = 32
 T : t.T.length = 32
 pos : posT t
 ins : inSz t.ins ≤ 268435456
 outs : outSz t.outs ≤ 268435456
theorem TSz.ok {t : TapeP} (h : TSz t) : TOk t:=⟨h.F,h.T,by have:=inSz_len t.ins;have:=h.ins;omega,by have:=outSz_len t.outs;have:=h.outs;omega⟩
structure TRows (t : TapeP) : Prop where
 st : inI t.st
 ins : ∀ p ∈ t.ins,smol p.1
 insz : ∀ p ∈ t.ins,p.2.1.length ≤ 1073741824
 insr : sizeOf (t.ins.map inRow) ≤ 268435456
 outs : ∀ p ∈ t.outs,smol p.1
 outsz : ∀ p ∈ t.outs,p.2.length ≤ 1073741824
 outsr : sizeOf (t.outs.map outRow) ≤ 268435456
theorem TSz.rows {t : TapeP} (h : TSz t) (hm : mayB t = true) : TRows t:=by
 obtain ⟨⟨h1,h2⟩,h3,h4⟩:=mayB_parts hm;have a1 : ∀ p ∈ t.ins,smol p.1:=fun p hp => ⟨h.pos.1 p hp,by have:=h3 p hp;omega⟩;have b1 : ∀ p ∈ t.outs,smol p.1:=fun p hp => ⟨h.pos.2 p hp,by have:=h4 p hp;omega⟩;have a2 : ∀ p ∈ t.ins,p.2.1.length ≤ 1073741824:=fun p hp => (by have:=inSz_mem hp;have:=h.ins;omega);have b2 : ∀ p ∈ t.outs,p.2.length ≤ 1073741824:=fun p hp => (by have:=outSz_mem hp;have:=h.outs;omega);exact ⟨⟨by omega,by omega⟩,a1,a2,Nat.le_trans (inRows_size a1 a2) h.ins,b1,b2,Nat.le_trans (outRows_size b1 b2) h.outs⟩
theorem six_size {t0 t1 t2 t3 t4 t5 : List UInt8} : sizeOf [t0,t1,t2,t3,t4,t5] = 24 + t0.length + t1.length + t2.length + t3.length + t4.length + t5.length:=by simp [sizeOf];omega
theorem TRows.six {t : TapeP} (h : TRows t) (hF : t.F.length = 32) (hT : t.T.length = 32) : sizeOf [[104,105,98,116],t.F,rowB (t.ins.map inRow),Lib.itoa t.st,rowB (t.outs.map outRow),t.T] ≤ 2147483648:=by
 have h1:=rowB_le (t.ins.map inRow) (by have:=h.insr;omega);have h2:=rowB_le (t.outs.map outRow) (by have:=h.outsr;omega);have h3:=itoa_len h.st;have:=h.insr;have:=h.outsr;rw [six_size,hF,hT];simp only [List.length_cons,List.length_nil];omega
def btS (t : TapeP) : List UInt8:=match mayB t with
 | true => bytesT t
 | false => []
def btE (t : TapeP) : Int:=match mayB t with
 | true => 0
 | false => 3
theorem run_str_32 (W : World) (g o : Nat) (F : List UInt8) (hF : F.length = 32) (h : ∀ j v,(F.map B8)[j]? = some v → W.cell? ⟨g,o + j,none⟩ = some v) : (convert 57 9 (.slice (some ⟨g,o,none⟩) 32 32)).run Tryz.prog W = .ok (S F) W:=by
 have:=run_convert_bytes_back W 57 9 5 ⟨g,o,none⟩ 32 F Tryz.underlying57 Tryz.underlying5 Tryz.underlying9 fun j hj => ?_
 ·rw [hF] at this;exact this
 ·have:=h j (B8 (F[j])) (by simp [hj]);rw [show (⟨g,o,none⟩ : Addr).add j = ⟨g,o + j,none⟩ by simp [Addr.add]];exact this
set_option maxRecDepth 100000 in
set_option maxHeartbeats 4000000 in
theorem rbytes_any (w : World) (A D : Option Addr) (c d : Nat) (t : TapeP) (hA : TAt w w.heap.size A D t) (hz : TSz t) (hT : STabs w) :
  Calls Tryz.prog 6 #[.agg (tpC t A c D d).toArray] w fun e w' => e = .returned (.tuple #[S (btS t),.int .i64 (btE t)]) ∧ Below w.heap.size w w':=by
 have hs0:=Whole.made w 27 (tpC t A c D d).toArray;have hb : Below w.heap.size w (w.alloc (.cells (tpC t A c D d).toArray 27)):=(Below.refl _ _).alloc (Nat.le_refl _) _;go_enter Tryz.func6,Tryz.ntmps6;go_upto_region 1 with (fail);change Code.wp _ _ _ _ (w.alloc (.cells (tpC t A c D d).toArray 27));generalize (w.alloc (.cells (tpC t A c D d).toArray 27)) = w1 at *;generalize hgx : w.heap.size = gx at *;have HGX:=jj hgx;have HS0:=jj hs0;have HW:=jj hb;have hgl : gx < w1.heap.size:=hs0.lt;clear hgx hb hs0;have HA:=jj (hA.below HW.out);have HZ:=jj hz
 have HC : Hid (∀ W,Below w1.heap.size w1 W → W.cell? ⟨gx,32,none⟩ = some (.slice A t.ins.length c) ∧ W.cell? ⟨gx,33,none⟩ = some (.int .i64 t.st) ∧ W.cell? ⟨gx,34,none⟩ = some (.slice D t.outs.length d)):=jj fun W hW => by
  have h:=HS0.out.below hW hgl;exact ⟨by rw [h.cell,List.getElem?_toArray];exact tpL_32 HZ.out.F,by rw [h.cell,List.getElem?_toArray];exact tpL_33 HZ.out.F,by rw [h.cell,List.getElem?_toArray];exact tpL_34 HZ.out.F⟩
 have HCA : Hid (∀ W,Below w1.heap.size w1 W → ∀ j v,(tpC t A c D d)[j]? = some v → W.cell? ((⟨gx,0,none⟩ : Addr).add j) = some v):=jj fun W hW j v hv => by
  have h:=HS0.out.below hW hgl;rw [show (⟨gx,0,none⟩ : Addr).add j = ⟨gx,j,none⟩ by unfold Addr.add;by_cases h : j = 0 <;> simp [h]];rw [h.cell,List.getElem?_toArray];exact hv
 have HFF : Hid (∀ W,Below w1.heap.size w1 W → ∀ j v,(t.F.map B8)[j]? = some v → W.cell? ⟨gx,0 + j,none⟩ = some v):=jj fun W hW j v hv => by
  rw [(HS0.out.below hW hgl).cell,List.getElem?_toArray];exact tpL_from j v hv
 have HTT : Hid (∀ W,Below w1.heap.size w1 W → ∀ j v,(t.T.map B8)[j]? = some v → W.cell? ⟨gx,35 + j,none⟩ = some v):=jj fun W hW j v hv => by
  rw [(HS0.out.below hW hgl).cell,List.getElem?_toArray];exact tpL_to HZ.out.F j v hv
 have HSZ67 : Hid ((Tryz.prog.info? 27).map (·.size) = some (tpC t A c D d).length):=jj (by rw [tpL_length HZ.out.F HZ.out.T];kernel_rfl);have HAW : Hid (∀ W,Below w1.heap.size w1 W → TAt W W.heap.size A D t):=jj fun W hW => (HA.out.below (hW.mono (by omega))).wide (by have:=hW.size;omega);have HBW : Hid (∀ W,Below w1.heap.size w1 W → Below gx w W):=jj fun W hW => HW.out.trans (hW.mono (by omega));have HTW : Hid (∀ W,Below w1.heap.size w1 W → STabs W):=jj fun W hW => hT.below (by rw [HGX.out];exact Nat.le_refl _) (HBW.out W hW);clear hA hz hT;go_wp2_with (refine wpList_load_at rfl 27 (.tmp 1) rfl ⟨gx,0,none⟩ rfl (tpC t A c D d) _ (HCA.out w1 (Below.refl _ _)) Tryz.underlying27 rfl HSZ67.out ?_);refine (mayBe_any w1 A D c d t (HAW.out w1 (Below.refl _ _)) HZ.out.ok).mono ?_;rintro e w2 ⟨rfl,hb2⟩;have HB2:=jj hb2;clear hb2;cases hm : mayB t with
 | false => have HR : Hid (btS t = [] ∧ btE t = 3):=jj (by unfold btS btE;rw [hm];exact ⟨rfl,rfl⟩);clear hm;go_wp2_with fail;go_ret2;exact ⟨by rw [HR.out.1,HR.out.2];try rfl,by rw [HGX.out];exact HBW.out _ HB2.out⟩
 | true =>
  have HRW:=jj (HZ.out.rows hm);have HR : Hid (btS t = rowB [[104,105,98,116],t.F,rowB (t.ins.map inRow),Lib.itoa t.st,rowB (t.outs.map outRow),t.T] ∧ btE t = 0):=jj (by unfold btS btE;rw [hm];exact ⟨rfl,rfl⟩);have HS6 : Hid (sizeOf [[104,105,98,116],t.F,rowB (t.ins.map inRow),Lib.itoa t.st,rowB (t.outs.map outRow),t.T] ≤ 34359738368):=jj (by have:=HRW.out.six HZ.out.F HZ.out.T;omega);clear hm;have CI : Hid (∀ W,Below w2.heap.size w2 W → Calls Tryz.prog 16 #[.slice A t.ins.length c,.func (.func 17) #[] #[]] W fun e w' => e = .returned (S (rowB (t.ins.map inRow))) ∧ Below W.heap.size W w'):=jj fun W hS => inRows_any W A c t.ins (HAW.out W (HB2.out.trans (hS.mono HB2.out.size))).ins HZ.out.ok.ins HRW.out.ins HRW.out.insz (by have:=HRW.out.insr;omega) (HTW.out W (HB2.out.trans (hS.mono HB2.out.size)));have CO : Hid (∀ W,Below w2.heap.size w2 W → Calls Tryz.prog 19 #[.slice D t.outs.length d,.func (.func 20) #[] #[]] W fun e w' => e = .returned (S (rowB (t.outs.map outRow))) ∧ Below W.heap.size W w'):=jj fun W hS => outRows_any W D d t.outs (HAW.out W (HB2.out.trans (hS.mono HB2.out.size))).outs HZ.out.ok.outs HRW.out.outs HRW.out.outsz (by have:=HRW.out.outsr;omega) (HTW.out W (HB2.out.trans (hS.mono HB2.out.size)));have CD : Hid (∀ W,Below w2.heap.size w2 W → Calls Tryz.prog 18 #[.int .i64 t.st] W fun e w' => e = .returned (S (Lib.itoa t.st)) ∧ Below W.heap.size W w'):=jj fun W hS => dec_any W t.st HRW.out.st (HTW.out W (HB2.out.trans (hS.mono HB2.out.size)));have ws : IntKind.i64.wrap t.st = t.st:=(by rw [IntKind.wrap_i64];have:=HRW.out.st;unfold inI at this;omega);generalize rowB (t.ins.map inRow) = x1 at *;generalize Lib.itoa t.st = x2 at *;generalize rowB (t.outs.map outRow) = x3 at *;go_upto_region 3 with (fail);refine' wp_region_sure (by kernel_rfl) (fun W => Below w2.heap.size w2 W) 15 [_,_,_,_,_,_,_,_,_,_,_,_,_,_,_] [some 7,some 8,some 9,some 10,some 11,some 12,some 13,some 14,some 15,some 16,some 17,some 18,some 19,some 20,some 21] (by kernel_rfl) (by kernel_rfl) (by kernel_rfl) (by kernel_rfl) rfl (Below.refl _ _).drew ?hs1
  case hs1 =>
   refine sure_cons ?_ ?_
   ·intro L ac W K hed hJ hS hK;have hA1 : ac.eval (.tmp 1) = .pointer (some ⟨gx,0,none⟩):=hJ.eval_old 1 (by kernel_rfl);clear hed hJ;refine opStep_of rfl ?_;unfold Oper.wp execOp;have hN1:=evalN hA1;go_simp;exact hK _ hS
   refine sure_cons ?_ ?_
   ·intro L ac W K hed hJ hS hK;have hn:=needs_spec (l:=[0]) (by kernel_rfl) hed;have hA7:=hJ.eval 0 (d:=7) (hn 0 (by simp)) rfl rfl rfl;clear hed hJ hn;refine opStep_of rfl ?_;unfold Oper.wp execOp;have hN7:=evalN hA7;go_simp;exact hK _ hS
   refine sure_cons ?_ ?_
   ·intro L ac W K hed hJ hS hK;have hn:=needs_spec (l:=[1]) (by kernel_rfl) hed;have hA8:=hJ.eval 1 (d:=8) (hn 1 (by simp)) rfl rfl rfl;clear hed hJ hn;refine opStep_of rfl ?_;have cv:=run_str_32 W gx 0 t.F HZ.out.F (HFF.out W (HB2.out.trans (hS.mono HB2.out.size)));unfold Oper.wp execOp;have hN8:=evalN hA8;go_simp;exact hK _ hS
   refine sure_cons ?_ ?_
   ·intro L ac W K hed hJ hS hK;have hA1 : ac.eval (.tmp 1) = .pointer (some ⟨gx,0,none⟩):=hJ.eval_old 1 (by kernel_rfl);clear hed hJ;refine opStep_of rfl ?_;unfold Oper.wp execOp;have hN1:=evalN hA1;go_simp;exact hK _ hS
   refine sure_cons ?_ ?_
   ·intro L ac W K hed hJ hS hK;have hn:=needs_spec (l:=[3]) (by kernel_rfl) hed;have hA10:=hJ.eval 3 (d:=10) (hn 3 (by simp)) rfl rfl rfl;clear hed hJ hn;refine opStep_of rfl ?_;have cc:=(HC.out W (HB2.out.trans (hS.mono HB2.out.size))).1;unfold Oper.wp execOp;have hN10:=evalN hA10;go_simp;exact hK _ hS
   refine sure_cons ?_ ?_
   ·intro L ac W K hed hJ hS hK;have hn:=needs_spec (l:=[4]) (by kernel_rfl) hed;have hA11:=hJ.eval 4 (d:=11) (hn 4 (by simp)) rfl rfl rfl;clear hed hJ hn;refine opStep_of rfl ?_;unfold Oper.wp execOp;have hN11:=evalN hA11;go_simp;refine (CI.out W hS).mono ?_;rintro e W' ⟨rfl,hb⟩;have hS2:=hS.trans (hb.mono hS.size);dsimp only;exact hK W' hS2
   refine sure_cons ?_ ?_
   ·intro L ac W K hed hJ hS hK;have hA1 : ac.eval (.tmp 1) = .pointer (some ⟨gx,0,none⟩):=hJ.eval_old 1 (by kernel_rfl);clear hed hJ;refine opStep_of rfl ?_;unfold Oper.wp execOp;have hN1:=evalN hA1;go_simp;exact hK _ hS
   refine sure_cons ?_ ?_
   ·intro L ac W K hed hJ hS hK;have hn:=needs_spec (l:=[6]) (by kernel_rfl) hed;have hA13:=hJ.eval 6 (d:=13) (hn 6 (by simp)) rfl rfl rfl;clear hed hJ hn;refine opStep_of rfl ?_;have cc:=(HC.out W (HB2.out.trans (hS.mono HB2.out.size))).2.1;unfold Oper.wp execOp;have hN13:=evalN hA13;go_simp;exact hK _ hS
   refine sure_cons ?_ ?_
   ·intro L ac W K hed hJ hS hK;have hn:=needs_spec (l:=[7]) (by kernel_rfl) hed;have hA14:=hJ.eval 7 (d:=14) (hn 7 (by simp)) rfl rfl rfl;clear hed hJ hn;refine opStep_of rfl ?_;unfold Oper.wp execOp;have hN14:=evalN hA14;go_simp;refine (CD.out W hS).mono ?_;rintro e W' ⟨rfl,hb⟩;have hS2:=hS.trans (hb.mono hS.size);dsimp only;exact hK W' hS2
   refine sure_cons ?_ ?_
   ·intro L ac W K hed hJ hS hK;have hA1 : ac.eval (.tmp 1) = .pointer (some ⟨gx,0,none⟩):=hJ.eval_old 1 (by kernel_rfl);clear hed hJ;refine opStep_of rfl ?_;unfold Oper.wp execOp;have hN1:=evalN hA1;go_simp;exact hK _ hS
   refine sure_cons ?_ ?_
   ·intro L ac W K hed hJ hS hK;have hn:=needs_spec (l:=[9]) (by kernel_rfl) hed;have hA16:=hJ.eval 9 (d:=16) (hn 9 (by simp)) rfl rfl rfl;clear hed hJ hn;refine opStep_of rfl ?_;have cc:=(HC.out W (HB2.out.trans (hS.mono HB2.out.size))).2.2;unfold Oper.wp execOp;have hN16:=evalN hA16;go_simp;exact hK _ hS
   refine sure_cons ?_ ?_
   ·intro L ac W K hed hJ hS hK;have hn:=needs_spec (l:=[10]) (by kernel_rfl) hed;have hA17:=hJ.eval 10 (d:=17) (hn 10 (by simp)) rfl rfl rfl;clear hed hJ hn;refine opStep_of rfl ?_;unfold Oper.wp execOp;have hN17:=evalN hA17;go_simp;refine (CO.out W hS).mono ?_;rintro e W' ⟨rfl,hb⟩;have hS2:=hS.trans (hb.mono hS.size);dsimp only;exact hK W' hS2
   refine sure_cons ?_ ?_
   ·intro L ac W K hed hJ hS hK;have hA1 : ac.eval (.tmp 1) = .pointer (some ⟨gx,0,none⟩):=hJ.eval_old 1 (by kernel_rfl);clear hed hJ;refine opStep_of rfl ?_;unfold Oper.wp execOp;have hN1:=evalN hA1;go_simp;exact hK _ hS
   refine sure_cons ?_ ?_
   ·intro L ac W K hed hJ hS hK;have hn:=needs_spec (l:=[12]) (by kernel_rfl) hed;have hA19:=hJ.eval 12 (d:=19) (hn 12 (by simp)) rfl rfl rfl;clear hed hJ hn;refine opStep_of rfl ?_;unfold Oper.wp execOp;have hN19:=evalN hA19;go_simp;exact hK _ hS
   refine sure_cons ?_ ?_
   ·intro L ac W K hed hJ hS hK;have hn:=needs_spec (l:=[13]) (by kernel_rfl) hed;have hA20:=hJ.eval 13 (d:=20) (hn 13 (by simp)) rfl rfl rfl;clear hed hJ hn;refine opStep_of rfl ?_;have cv:=run_str_32 W gx 35 t.T HZ.out.T (HTT.out W (HB2.out.trans (hS.mono HB2.out.size)));unfold Oper.wp execOp;have hN20:=evalN hA20;go_simp;exact hK _ hS
   refine sure_nil ?_;intro W hS;simp only [putAll,Act.put,List.setIfInBounds_toArray,List.set_cons_zero,List.set_cons_succ];have HS:=jj hS;have CR : Calls Tryz.prog 15 #[.slice (some ⟨W.heap.size,0,none⟩) 6 6] (W.alloc (.cells #[.string ⟨#[104,105,98,116]⟩,S t.F,S x1,S x2,S x3,S t.T] 9)) _:=row_made W [[104,105,98,116],t.F,x1,x2,x3,t.T] HS6.out;have HCR:=jj CR;clear CR hS;go_wp2_with fail;refine HCR.out.mono ?_;rintro e w3 ⟨rfl,hb3⟩;have HV3:=jj (HB2.out.trans ((HS.out.trans (hb3.mono HS.out.size)).mono HB2.out.size));clear hb3 HCR;go_wp2_with fail;go_ret2;exact ⟨by rw [HR.out.1,HR.out.2];try rfl,by rw [HGX.out];exact HBW.out _ HV3.out⟩
section
attribute [local go_sem] concat_S
set_option maxRecDepth 100000 in
set_option maxHeartbeats 2000000 in
theorem rraw_any (w : World) (F : List UInt8) (hF : F.length = 32) :
  Calls Tryz.prog 24 #[.agg (F.map B8).toArray] w fun e w' => e = .returned (S F) ∧ Below w.heap.size w w':=by
 have hs0:=Whole.made w 23 (F.map B8).toArray;have hb : Below w.heap.size w (w.alloc (.cells (F.map B8).toArray 23)):=(Below.refl _ _).alloc (Nat.le_refl _) _;go_enter Tryz.func24,Tryz.ntmps24;go_upto_region 1 with (fail);change Code.wp _ _ _ _ (w.alloc (.cells (F.map B8).toArray 23));generalize (w.alloc (.cells (F.map B8).toArray 23)) = w1 at *;generalize hgx : w.heap.size = gx at *;have HGX:=jj hgx;have HS0:=jj hs0;have HW:=jj hb;have hgl : gx < w1.heap.size:=hs0.lt;clear hgx hb hs0;have HFL:=jj hF;clear hF;go_wp2_with fail
 go_loopw [3,4] (fun s i wr => ∃ k : Nat,k ≤ 32 ∧ i = .int .i64 k ∧ s = S (F.take k) ∧ Hid (Below w1.heap.size w1 wr)) (fun _ i _ => 32 - (intOf i).toNat)
 case atStart => exact ⟨0,by omega,rfl,rfl,jj (Below.refl _ _)⟩
 case round =>
  obtain ⟨k,hk,rfl,rfl,HV⟩:=hrel;by_cases hlt : k < 32
  ·have hd : decide ((k : Int) < 32) = true:=(by simp;omega);have hd' : decide (k < 32) = true:=(by simp;omega);have HTK : Hid (F.take (k + 1) = F.take k ++ [F.getD k 0]):=jj (by rw [List.take_add_one,List.getElem?_eq_getElem (by rw [HFL.out];exact hlt),List.getD_eq_getElem?_getD,List.getElem?_eq_getElem (by rw [HFL.out];exact hlt)];rfl);have hlk : (F.take k).length = k:=(by rw [List.length_take,HFL.out];omega);have cc : wr.cell? ⟨gx,k,none⟩ = some (B8 (F.getD k 0)):=(by rw [(HS0.out.below HV.out hgl).cell,List.getElem?_toArray,List.getElem?_map,List.getD_eq_getElem?_getD,List.getElem?_eq_getElem (by rw [HFL.out];exact hlt)];rfl);generalize F.getD k 0 = x at *;generalize F.take k = acc at *;have hcv:=fun W p c => run_str_one W p c (x.toNat : Int) x rfl;have hno : ¬ (9223372036854775807 < acc.length + [x].length):=(by simp;omega);have q0 : (0 : Int) ≤ (k : Int):=(by omega);have q1 : (k : Int) < 32:=(by omega);have HV2:=jj (HV.out.alloc HV.out.size (.cells #[B8 x] 5));have HLT:=jj hlt;clear HV hlt hk;go_wp2_with fail
   go_roundw
   case rel =>
    have R : ∃ k' : Nat,k' ≤ 32 ∧ Value.int .i64 ((k : Int) + 1) = .int .i64 k' ∧ S (acc ++ [x]) = S (F.take k') ∧ Hid (Below w1.heap.size w1 (wr.alloc (.cells #[B8 x] 5))):=⟨k + 1,by have:=HLT.out;omega,by go_num,by rw [HTK.out],HV2⟩
    first | exact R | ((repeat apply Exists.intro);exact ⟨R,rfl⟩)
   case measure => first | (simp [intOf];done) | (simp [intOf];have:=HLT.out;omega)
  ·have hd : decide ((k : Int) < 32) = false:=(by simp;omega);obtain rfl : k = 32:=(by omega);rw [List.take_of_length_le (by rw [HFL.out];exact Nat.le_refl _)];go_wp2_with fail;go_ret;exact ⟨rfl,by rw [HGX.out];exact HW.out.trans (HV.out.mono (by omega))⟩
end
theorem rrow_two (w : World) (a b : List UInt8) (h : sizeOf [a,b] ≤ 34359738368) :
  Calls Tryz.prog 22 #[.slice (some ⟨w.heap.size,0,none⟩) 2 2] (w.alloc (.cells #[S a,S b] 9)) fun e w' => e = .returned (S (rowB [a,b])) ∧ Below w.heap.size w w':=rrow_made w [a,b] h
theorem rrow_three (w : World) (a b c : List UInt8) (h : sizeOf [a,b,c] ≤ 34359738368) :
  Calls Tryz.prog 22 #[.slice (some ⟨w.heap.size,0,none⟩) 3 3] (w.alloc (.cells #[S a,S b,S c] 9)) fun e w' => e = .returned (S (rowB [a,b,c])) ∧ Below w.heap.size w w':=rrow_made w [a,b,c] h
set_option maxRecDepth 100000 in
set_option maxHeartbeats 8000000 in
theorem rrbytes_any (w : World) (A D : Option Addr) (c d : Nat) (t : TapeP) (hA : TAt w w.heap.size A D t) (hz : TSz t) (hT : STabs w) :
  Calls Tryz.prog 7 #[.agg (tpC t A c D d).toArray] w fun e w' => e = .returned (.tuple #[S (btS t),.int .i64 (btE t)]) ∧ Below w.heap.size w w':=by
 obtain ⟨i0,hi0,hz0,hz1,hz2⟩:=info_parts Tryz.infoStr';have hs0:=Whole.made w 27 (tpC t A c D d).toArray;have hb : Below w.heap.size w (w.alloc (.cells (tpC t A c D d).toArray 27)):=(Below.refl _ _).alloc (Nat.le_refl _) _;go_enter Tryz.func7,Tryz.ntmps7;go_upto_region 1 with (fail);change Code.wp _ _ _ _ (w.alloc (.cells (tpC t A c D d).toArray 27));generalize (w.alloc (.cells (tpC t A c D d).toArray 27)) = w1 at *;generalize hgx : w.heap.size = gx at *;have HGX:=jj hgx;have HS0:=jj hs0;have HW:=jj hb;have hgl : gx < w1.heap.size:=hs0.lt;clear hgx hb hs0;have HA:=jj (hA.below HW.out);have HZ:=jj hz
 have HC : Hid (∀ W,Below w1.heap.size w1 W → W.cell? ⟨gx,32,none⟩ = some (.slice A t.ins.length c) ∧ W.cell? ⟨gx,33,none⟩ = some (.int .i64 t.st) ∧ W.cell? ⟨gx,34,none⟩ = some (.slice D t.outs.length d)):=jj fun W hW => by
  have h:=HS0.out.below hW hgl;exact ⟨by rw [h.cell,List.getElem?_toArray];exact tpL_32 HZ.out.F,by rw [h.cell,List.getElem?_toArray];exact tpL_33 HZ.out.F,by rw [h.cell,List.getElem?_toArray];exact tpL_34 HZ.out.F⟩
 have HCA : Hid (∀ W,Below w1.heap.size w1 W → ∀ j v,(tpC t A c D d)[j]? = some v → W.cell? ((⟨gx,0,none⟩ : Addr).add j) = some v):=jj fun W hW j v hv => by
  have h:=HS0.out.below hW hgl;rw [show (⟨gx,0,none⟩ : Addr).add j = ⟨gx,j,none⟩ by unfold Addr.add;by_cases h : j = 0 <;> simp [h]];rw [h.cell,List.getElem?_toArray];exact hv
 have HFF : Hid (∀ W,Below w1.heap.size w1 W → ∀ j v,(t.F.map B8)[j]? = some v → W.cell? ⟨gx,0 + j,none⟩ = some v):=jj fun W hW j v hv => by
  rw [(HS0.out.below hW hgl).cell,List.getElem?_toArray];exact tpL_from j v hv
 have HTT : Hid (∀ W,Below w1.heap.size w1 W → ∀ j v,(t.T.map B8)[j]? = some v → W.cell? ⟨gx,35 + j,none⟩ = some v):=jj fun W hW j v hv => by
  rw [(HS0.out.below hW hgl).cell,List.getElem?_toArray];exact tpL_to HZ.out.F j v hv
 have HSZ67 : Hid ((Tryz.prog.info? 27).map (·.size) = some (tpC t A c D d).length):=jj (by rw [tpL_length HZ.out.F HZ.out.T];kernel_rfl);have HAW : Hid (∀ W,Below w1.heap.size w1 W → TAt W W.heap.size A D t):=jj fun W hW => (HA.out.below (hW.mono (by omega))).wide (by have:=hW.size;omega);have HBW : Hid (∀ W,Below w1.heap.size w1 W → Below gx w W):=jj fun W hW => HW.out.trans (hW.mono (by omega));have HTW : Hid (∀ W,Below w1.heap.size w1 W → STabs W):=jj fun W hW => hT.below (by rw [HGX.out];exact Nat.le_refl _) (HBW.out W hW);clear hA hz hT;go_wp2_with (refine wpList_load_at rfl 27 (.tmp 1) rfl ⟨gx,0,none⟩ rfl (tpC t A c D d) _ (HCA.out w1 (Below.refl _ _)) Tryz.underlying27 rfl HSZ67.out ?_);refine (rmay_any w1 A D c d t (HAW.out w1 (Below.refl _ _)) HZ.out.ok).mono ?_;rintro e w2 ⟨rfl,hb2⟩;have HB2:=jj hb2;clear hb2;cases hm : mayB t with
 | false => have HR : Hid (btS t = [] ∧ btE t = 3):=jj (by unfold btS btE;rw [hm];exact ⟨rfl,rfl⟩);clear hm;go_wp2_with fail;go_ret2;exact ⟨by rw [HR.out.1,HR.out.2];try rfl,by rw [HGX.out];exact HBW.out _ HB2.out⟩
 | true =>
  have HRW:=jj (HZ.out.rows hm);have HR : Hid (btS t = rowB [[104,105,98,116],t.F,rowB (t.ins.map inRow),Lib.itoa t.st,rowB (t.outs.map outRow),t.T] ∧ btE t = 0):=jj (by unfold btS btE;rw [hm];exact ⟨rfl,rfl⟩);have HS6 : Hid (sizeOf [[104,105,98,116],t.F,rowB (t.ins.map inRow),Lib.itoa t.st,rowB (t.outs.map outRow),t.T] ≤ 34359738368):=jj (by have:=HRW.out.six HZ.out.F HZ.out.T;omega);clear hm;have HLNI : Hid (t.ins.length ≤ 2684354):=jj (by have:=inSz_len t.ins;have:=HZ.out.ins;omega);have HLNO : Hid (t.outs.length ≤ 2684354):=jj (by have:=outSz_len t.outs;have:=HZ.out.outs;omega);have c32 : (w2.alloc (.cells #[] 9)).cell? ⟨gx,32,none⟩ = some (.slice A t.ins.length c):=(HC.out _ (HB2.out.alloc HB2.out.size _)).1;have HBB : Hid (∀ W,Below w2.heap.size w2 W → Below w1.heap.size w1 W):=jj fun W h => HB2.out.trans (h.mono HB2.out.size);have HLN:=HLNI;go_wp2_with fail;clear c32
  go_loopw [4,18] (fun v i wr => ∃ k : Nat,k ≤ t.ins.length ∧ i = .int .i64 k ∧ Hid (OwnS wr w2.heap.size v ((t.ins.take k).map inRow)) ∧ Hid (Below w2.heap.size w2 wr)) (fun _ i _ => t.ins.length - (intOf i).toNat)
  case atStart => exact ⟨0,by omega,rfl,jj (World.ownsRow_lit w2 #[] 0 (Nat.le_refl _) (by unfold maxLen;omega) rfl),jj ((Below.refl _ _).alloc (Nat.le_refl _) _)⟩
  case round =>
   obtain ⟨k,hk,rfl,HO,HV⟩:=hrel;by_cases hlt : k < t.ins.length
   ·obtain ⟨p,hp⟩:=get_some hlt;have HLT:=jj hlt;have hWB:=HBB.out wr HV.out;obtain ⟨bd,hbq,hbd,hc⟩:=Lies.row (f:=inCells) (n:=3) (HAW.out wr hWB).ins (fun y hy => rfl) (by omega) hp;have hpn:=HRW.out.ins p (List.mem_of_getElem? hp);have hpy:=HRW.out.insz p (List.mem_of_getElem? hp);have HTK : Hid ((t.ins.take (k + 1)).map inRow = (t.ins.take k).map inRow ++ [inRow p]):=jj (by rw [List.take_add_one,hp,List.map_append];rfl);have hlk : ((t.ins.take k).map inRow).length = k:=(by simp;omega);generalize (t.ins.take k).map inRow = acc at *;obtain ⟨n,y,b⟩:=p;have HPN : Hid (smol n):=jj hpn;have HSZ:=jj (inRow_size (b:=b) hpn hpy);have HLK:=jj hlk;have CD1:=jj (fun W : World => rdec33_any W n (smol_in hpn));have m1 : IntKind.i64.wrap n = n:=(by rw [IntKind.wrap_i64];have:=hpn;omega);have HTK' : Hid ((t.ins.take (k + 1)).map inRow = acc ++ [rowB [Lib.itoa n,y,endB b]]):=HTK;clear hlk hpn hpy HTK;have HTK:=HTK';clear HTK';generalize Lib.itoa n = x at *;have q0 : (0 : Int) ≤ (k : Int):=(by omega);have q1 : (k : Int) < (t.ins.length : Int):=(by omega);have LD : Hid (∀ j v,(inCells (n,y,b))[j]? = some v → wr.cell? ((bd.add (k * 3)).add j) = some v):=jj hc;have HX:=jj (Whole.made wr 50 (inCells (n,y,b)).toArray);have HW1:=jj (HV.out.alloc HV.out.size (.cells (inCells (n,y,b)).toArray 50));have HO1:=jj (HO.out.alloc (.cells (inCells (n,y,b)).toArray 50));have HOL : Hid (∀ g,u4.ownBlock = some g → g < wr.heap.size):=jj (own_lt HO.out);have H63 : Hid (acc.length + 1 ≤ maxLen):=jj (by rw [HLK.out];unfold maxLen;have:=HLN.out;have:=HLT.out;omega);have HBY : Hid ((acc.length + 1) * 16 ≤ 140737488355328):=jj (by rw [HLK.out];have:=HLN.out;have:=HLT.out;omega);have hln:=HLN.out;rw [hbq];clear hc hp hbq hWB HO
    go_upto_region 7 with (first
     | (refine wpList_load_at rfl 50 (.tmp 20) rfl (bd.add (k * 3)) rfl (inCells (n,y,b)) _ LD.out Tryz.underlying50 rfl (by kernel_rfl) ?_)
     | (refine wpList_fresh rfl rfl 50 6 (.tmp 21) rfl rfl rfl rfl (inCells (n,y,b)) rfl rfl _ Tryz.infoIn rfl (in_one (n,y,b)) ?_))
    change Code.wp _ _ _ _ (wr.alloc (.cells (inCells (n,y,b)).toArray 50));generalize wr.alloc (.cells (inCells (n,y,b)).toArray 50) = w4 at *;generalize wr.heap.size = g1 at *;have HGL:=jj HX.out.lt;have HXC : Hid (∀ W,Below w4.heap.size w4 W → W.cell? ⟨g1,0,none⟩ = some (.int .u64 n) ∧ W.cell? ⟨g1,1,none⟩ = some (S y)):=jj fun W hW => ⟨(HX.out.below hW HX.out.lt).cell 0,(HX.out.below hW HX.out.lt).cell 1⟩;clear LD HV;have c2 : w4.cell? ⟨g1,2,none⟩ = some (.bool b):=HX.out.cell 2;cases b with
    | false =>
     go_upto_region 10 with (fail);clear c2;obtain ⟨b0',b1'⟩:=HXC.out w4 (Below.refl _ _)
     go_region_held3 (fun w' => w'.cell? ⟨g1,0,none⟩ = some (.int .u64 n) ∧ w'.cell? ⟨g1,1,none⟩ = some (S y))
      (first
       | (exact ⟨b0',b1'⟩)
       | (exact HXC.out _ BK)
       | (exact HXC.out _ (BK.alloc BK.size _))
       | (exact C5))
      (first
       | (go_at_call 23;refine (CD1.out _).mono ?_;rintro e w5 ⟨rfl,hbl⟩;have BB : Below w2.heap.size w2 w5:=HW1.out.drew.trans (hbl.mono HW1.out.size);have BK : Below w4.heap.size w4 w5:=(Below.refl _ _).drew.trans hbl;have O2 : Hid (OwnS w5 w2.heap.size u4 acc):=jj (own_below HO1.out (((Below.refl _ _).drew).trans hbl));clear hbl)
       | (go_at_call 22;refine (rrow_three w5 x y (endB false) HSZ.out).mono ?_;rintro e w6 ⟨rfl,hbl⟩;have B4 : Below w2.heap.size w2 w6:=BB.trans (hbl.mono BB.size);have K4:=BK.trans (hbl.mono BK.size);clear BB BK;have BB:=B4;have BK:=K4;have O4:=jj (own_below O2.out hbl);clear hbl;generalize rowB [x,y,endB false] = z at *)
       | (refine step_append_own rfl (.tmp 24) (.tmp 34) 38 rfl w2.heap.size 9 i0 _ 1 16 Tryz.underlying38 hi0 hz0 hz1 hz2 rfl (by decide) _ _ _ rfl (O4.out.alloc (.cells #[S z] 9)) ⟨w6.heap.size,0,none⟩ 1 1 [S z] rfl rfl (fun i u hu => by
         obtain ⟨ad',e',_,hc'⟩:=lies_made w6 9 [S z] (w6.heap.size + 1) (by omega) i u hu;injection e' with e';subst e';exact hc') (by simp [Value.oneCell']) H63.out HBY.out (by have:=B4.size;simp;omega) ?_;intro v' w7 hown' hgrow _;clear BB;have BB:=(B4.alloc B4.size (.cells #[S z] 9)).grown hgrow (by have:=B4.size;simp;omega) (own_ge O4.out);have X5:=((HX.out.below BK HGL.out).block (.cells #[S z] 9)).other hgrow (fun e => absurd (HOL.out _ e.symm) (Nat.lt_irrefl _));have C5:=And.intro (X5.cell 0) (X5.cell 1)))
     have HO6 : Hid (OwnS w7 w2.heap.size v' (acc ++ [z])):=jj (by have:=hown';rw [show (acc.map S ++ [S z]) = (acc ++ [z]).map S by simp] at this;unfold OwnS;rw [List.length_append];exact this);have HB6:=jj BB;rw [← HTK.out] at HO6;clear hown' hgrow BB BK B4 K4 b0' b1' O2 O4 C5 X5;go_wp2_with fail
     go_roundw
     case rel =>
      have R : ∃ k' : Nat,k' ≤ t.ins.length ∧ Value.int .i64 ((k : Int) + 1) = .int .i64 k' ∧ Hid (OwnS w7 w2.heap.size v' ((t.ins.take k').map inRow)) ∧ Hid (Below w2.heap.size w2 w7):=⟨k + 1,by have:=HLT.out;omega,by go_num,HO6,HB6⟩
      first | exact R | ((repeat apply Exists.intro);exact ⟨R,rfl⟩)
     case measure => first | (simp [intOf];done) | (simp [intOf];have:=HLT.out;omega)
    | true =>
     go_upto_region 10 with (fail);clear c2;obtain ⟨b0',b1'⟩:=HXC.out w4 (Below.refl _ _)
     go_region_held3 (fun w' => w'.cell? ⟨g1,0,none⟩ = some (.int .u64 n) ∧ w'.cell? ⟨g1,1,none⟩ = some (S y))
      (first
       | (exact ⟨b0',b1'⟩)
       | (exact HXC.out _ BK)
       | (exact HXC.out _ (BK.alloc BK.size _))
       | (exact C5))
      (first
       | (go_at_call 23;refine (CD1.out _).mono ?_;rintro e w5 ⟨rfl,hbl⟩;have BB : Below w2.heap.size w2 w5:=HW1.out.drew.trans (hbl.mono HW1.out.size);have BK : Below w4.heap.size w4 w5:=(Below.refl _ _).drew.trans hbl;have O2 : Hid (OwnS w5 w2.heap.size u4 acc):=jj (own_below HO1.out (((Below.refl _ _).drew).trans hbl));clear hbl)
       | (go_at_call 22;refine (rrow_three w5 x y (endB true) HSZ.out).mono ?_;rintro e w6 ⟨rfl,hbl⟩;have B4 : Below w2.heap.size w2 w6:=BB.trans (hbl.mono BB.size);have K4:=BK.trans (hbl.mono BK.size);clear BB BK;have BB:=B4;have BK:=K4;have O4:=jj (own_below O2.out hbl);clear hbl;generalize rowB [x,y,endB true] = z at *)
       | (refine step_append_own rfl (.tmp 24) (.tmp 34) 38 rfl w2.heap.size 9 i0 _ 1 16 Tryz.underlying38 hi0 hz0 hz1 hz2 rfl (by decide) _ _ _ rfl (O4.out.alloc (.cells #[S z] 9)) ⟨w6.heap.size,0,none⟩ 1 1 [S z] rfl rfl (fun i u hu => by
         obtain ⟨ad',e',_,hc'⟩:=lies_made w6 9 [S z] (w6.heap.size + 1) (by omega) i u hu;injection e' with e';subst e';exact hc') (by simp [Value.oneCell']) H63.out HBY.out (by have:=B4.size;simp;omega) ?_;intro v' w7 hown' hgrow _;clear BB;have BB:=(B4.alloc B4.size (.cells #[S z] 9)).grown hgrow (by have:=B4.size;simp;omega) (own_ge O4.out);have X5:=((HX.out.below BK HGL.out).block (.cells #[S z] 9)).other hgrow (fun e => absurd (HOL.out _ e.symm) (Nat.lt_irrefl _));have C5:=And.intro (X5.cell 0) (X5.cell 1)))
     have HO6 : Hid (OwnS w7 w2.heap.size v' (acc ++ [z])):=jj (by have:=hown';rw [show (acc.map S ++ [S z]) = (acc ++ [z]).map S by simp] at this;unfold OwnS;rw [List.length_append];exact this);have HB6:=jj BB;rw [← HTK.out] at HO6;clear hown' hgrow BB BK B4 K4 b0' b1' O2 O4 C5 X5;go_wp2_with fail
     go_roundw
     case rel =>
      have R : ∃ k' : Nat,k' ≤ t.ins.length ∧ Value.int .i64 ((k : Int) + 1) = .int .i64 k' ∧ Hid (OwnS w7 w2.heap.size v' ((t.ins.take k').map inRow)) ∧ Hid (Below w2.heap.size w2 w7):=⟨k + 1,by have:=HLT.out;omega,by go_num,HO6,HB6⟩
      first | exact R | ((repeat apply Exists.intro);exact ⟨R,rfl⟩)
     case measure => first | (simp [intOf];done) | (simp [intOf];have:=HLT.out;omega)
   ·obtain rfl : k = t.ins.length:=(by omega);have hd : decide (t.ins.length < t.ins.length) = false:=(by simp);rw [List.take_of_length_le (Nat.le_refl _)] at HO;obtain ⟨A1,a1,rfl,hlies,_⟩:=own_shape HO.out (by omega);simp only [List.length_map];obtain ⟨wE,hwe⟩ : ∃ z : World,z = wr:=⟨_,rfl⟩;subst hwe;have HLin:=jj hlies;have HBwE:=HV;clear hlies HO HV hlt hk;have HBE : Hid (∀ W,Below wE.heap.size wE W → Below w1.heap.size w1 W):=jj fun W h => HBB.out W (HBwE.out.trans (h.mono HBwE.out.size));clear HBB HLN;have HBB:=HBE;have HLN:=HLNO;have c34 : (wE.alloc (.cells #[] 9)).cell? ⟨gx,34,none⟩ = some (.slice D t.outs.length d):=(HC.out _ (HBE.out _ ((Below.refl _ _).alloc (Nat.le_refl _) _))).2.2;go_wp2_with fail;clear c34
    go_loopw [8,41] (fun v i wr => ∃ k : Nat,k ≤ t.outs.length ∧ i = .int .i64 k ∧ Hid (OwnS wr wE.heap.size v ((t.outs.take k).map outRow)) ∧ Hid (Below wE.heap.size wE wr)) (fun _ i _ => t.outs.length - (intOf i).toNat)
    case atStart => exact ⟨0,by omega,rfl,jj (World.ownsRow_lit wE #[] 0 (Nat.le_refl _) (by unfold maxLen;omega) rfl),jj ((Below.refl _ _).alloc (Nat.le_refl _) _)⟩
    case round =>
     obtain ⟨k,hk,rfl,HO,HV⟩:=hrel;by_cases hlt : k < t.outs.length
     ·obtain ⟨p,hp⟩:=get_some hlt;have HLT:=jj hlt;have hWB:=HBB.out wr HV.out;obtain ⟨bd,hbq,hbd,hc⟩:=Lies.row (f:=outCells) (n:=2) (HAW.out wr hWB).outs (fun y hy => rfl) (by omega) hp;have hpn:=HRW.out.outs p (List.mem_of_getElem? hp);have hpy:=HRW.out.outsz p (List.mem_of_getElem? hp);have HTK : Hid ((t.outs.take (k + 1)).map outRow = (t.outs.take k).map outRow ++ [outRow p]):=jj (by rw [List.take_add_one,hp,List.map_append];rfl);have hlk : ((t.outs.take k).map outRow).length = k:=(by simp;omega);generalize (t.outs.take k).map outRow = acc at *;obtain ⟨n,y⟩:=p;have HPN : Hid (smol n):=jj hpn;have HSZ:=jj (outRow_size hpn hpy);have HLK:=jj hlk;have CD1:=jj (fun W : World => rdec33_any W n (smol_in hpn));have m1 : IntKind.i64.wrap n = n:=(by rw [IntKind.wrap_i64];have:=hpn;omega);have HTK' : Hid ((t.outs.take (k + 1)).map outRow = acc ++ [rowB [Lib.itoa n,y]]):=HTK;clear hlk hpn hpy HTK;have HTK:=HTK';clear HTK';generalize Lib.itoa n = x at *;have q0 : (0 : Int) ≤ (k : Int):=(by omega);have q1 : (k : Int) < (t.outs.length : Int):=(by omega);have LD : Hid (∀ j v,(outCells (n,y))[j]? = some v → wr.cell? ((bd.add (k * 2)).add j) = some v):=jj hc;have HX:=jj (Whole.made wr 54 (outCells (n,y)).toArray);have HW1:=jj (HV.out.alloc HV.out.size (.cells (outCells (n,y)).toArray 54));have HO1:=jj (HO.out.alloc (.cells (outCells (n,y)).toArray 54));have HOL : Hid (∀ g,u8.ownBlock = some g → g < wr.heap.size):=jj (own_lt HO.out);have H63 : Hid (acc.length + 1 ≤ maxLen):=jj (by rw [HLK.out];unfold maxLen;have:=HLN.out;have:=HLT.out;omega);have HBY : Hid ((acc.length + 1) * 16 ≤ 140737488355328):=jj (by rw [HLK.out];have:=HLN.out;have:=HLT.out;omega);have hln:=HLN.out;rw [hbq];clear hc hp hbq hWB HO
      go_upto_region 16 with (first
       | (refine wpList_load_at rfl 54 (.tmp 43) rfl (bd.add (k * 2)) rfl (outCells (n,y)) _ LD.out Tryz.underlying54 rfl (by kernel_rfl) ?_)
       | (refine wpList_fresh rfl rfl 54 10 (.tmp 44) rfl rfl rfl rfl (outCells (n,y)) rfl rfl _ Tryz.infoOut rfl (out_one (n,y)) ?_))
      change Code.wp _ _ _ _ (wr.alloc (.cells (outCells (n,y)).toArray 54));generalize wr.alloc (.cells (outCells (n,y)).toArray 54) = w4 at *;generalize wr.heap.size = g1 at *;have HGL:=jj HX.out.lt;have HXC : Hid (∀ W,Below w4.heap.size w4 W → W.cell? ⟨g1,0,none⟩ = some (.int .u64 n) ∧ W.cell? ⟨g1,1,none⟩ = some (S y)):=jj fun W hW => ⟨(HX.out.below hW HX.out.lt).cell 0,(HX.out.below hW HX.out.lt).cell 1⟩;clear LD HV;obtain ⟨b0',b1'⟩:=HXC.out w4 (Below.refl _ _)
      go_region_held3 (fun w' => w'.cell? ⟨g1,0,none⟩ = some (.int .u64 n) ∧ w'.cell? ⟨g1,1,none⟩ = some (S y))
       (first
        | (exact ⟨b0',b1'⟩)
        | (exact HXC.out _ BK)
        | (exact HXC.out _ (BK.alloc BK.size _))
        | (exact C5))
       (first
        | (go_at_call 23;refine (CD1.out _).mono ?_;rintro e w5 ⟨rfl,hbl⟩;have BB : Below wE.heap.size wE w5:=HW1.out.drew.trans (hbl.mono HW1.out.size);have BK : Below w4.heap.size w4 w5:=(Below.refl _ _).drew.trans hbl;have O2 : Hid (OwnS w5 wE.heap.size u8 acc):=jj (own_below HO1.out (((Below.refl _ _).drew).trans hbl));clear hbl)
        | (go_at_call 22;refine (rrow_two w5 x y HSZ.out).mono ?_;rintro e w6 ⟨rfl,hbl⟩;have B4 : Below wE.heap.size wE w6:=BB.trans (hbl.mono BB.size);have K4:=BK.trans (hbl.mono BK.size);clear BB BK;have BB:=B4;have BK:=K4;have O4:=jj (own_below O2.out hbl);clear hbl;generalize rowB [x,y] = z at *)
        | (refine step_append_own rfl (.tmp 45) (.tmp 54) 38 rfl wE.heap.size 9 i0 _ 1 16 Tryz.underlying38 hi0 hz0 hz1 hz2 rfl (by decide) _ _ _ rfl (O4.out.alloc (.cells #[S z] 9)) ⟨w6.heap.size,0,none⟩ 1 1 [S z] rfl rfl (fun i u hu => by
          obtain ⟨ad',e',_,hc'⟩:=lies_made w6 9 [S z] (w6.heap.size + 1) (by omega) i u hu;injection e' with e';subst e';exact hc') (by simp [Value.oneCell']) H63.out HBY.out (by have:=B4.size;simp;omega) ?_;intro v' w7 hown' hgrow _;clear BB;have BB:=(B4.alloc B4.size (.cells #[S z] 9)).grown hgrow (by have:=B4.size;simp;omega) (own_ge O4.out);have X5:=((HX.out.below BK HGL.out).block (.cells #[S z] 9)).other hgrow (fun e => absurd (HOL.out _ e.symm) (Nat.lt_irrefl _));have C5:=And.intro (X5.cell 0) (X5.cell 1)))
      have HO6 : Hid (OwnS w7 wE.heap.size v' (acc ++ [z])):=jj (by have:=hown';rw [show (acc.map S ++ [S z]) = (acc ++ [z]).map S by simp] at this;unfold OwnS;rw [List.length_append];exact this);have HB6:=jj BB;rw [← HTK.out] at HO6;clear hown' hgrow BB BK B4 K4 b0' b1' O2 O4 C5 X5;go_wp2_with fail
      go_roundw
      case rel =>
       have R : ∃ k' : Nat,k' ≤ t.outs.length ∧ Value.int .i64 ((k : Int) + 1) = .int .i64 k' ∧ Hid (OwnS w7 wE.heap.size v' ((t.outs.take k').map outRow)) ∧ Hid (Below wE.heap.size wE w7):=⟨k + 1,by have:=HLT.out;omega,by go_num,HO6,HB6⟩
       first | exact R | ((repeat apply Exists.intro);exact ⟨R,rfl⟩)
      case measure => first | (simp [intOf];done) | (simp [intOf];have:=HLT.out;omega)
     ·obtain rfl : k = t.outs.length:=(by omega);have hd : decide (t.outs.length < t.outs.length) = false:=(by simp);rw [List.take_of_length_le (Nat.le_refl _)] at HO;obtain ⟨D1,d1,rfl,hlies,_⟩:=own_shape HO.out (by omega);simp only [List.length_map];obtain ⟨wF,hwe⟩ : ∃ z : World,z = wr:=⟨_,rfl⟩;subst hwe;have HLout:=jj hlies;have HBwF:=HV;clear hlies HO HV hlt hk;have HBF : Hid (∀ W,Below wF.heap.size wF W → Below w1.heap.size w1 W):=jj fun W h => HBE.out W (HBwF.out.trans (h.mono HBwF.out.size));have hri : Strs wF wF.heap.size A1 (t.ins.map inRow):=(Lies.below HLin.out HBwF.out).wide HBwF.out.size
      have CRI : Hid (∀ W,Below wF.heap.size wF W → Calls Tryz.prog 22 #[.slice A1 t.ins.length a1] W fun e w' => e = .returned (S (rowB (t.ins.map inRow))) ∧ Below W.heap.size W w'):=jj fun W hW => by
       have:=rrow_any W A1 a1 (t.ins.map inRow) ((Lies.below hri hW).wide hW.size) (by have:=HRW.out.insr;omega)
       rwa [List.length_map] at this
      have CRO : Hid (∀ W,Below wF.heap.size wF W → Calls Tryz.prog 22 #[.slice D1 t.outs.length d1] W fun e w' => e = .returned (S (rowB (t.outs.map outRow))) ∧ Below W.heap.size W w'):=jj fun W hW => by
       have:=rrow_any W D1 d1 (t.outs.map outRow) ((Lies.below HLout.out hW).wide hW.size) (by have:=HRW.out.outsr;omega)
       rwa [List.length_map] at this
      have CD:=jj (fun W : World => rdec33_any W t.st HRW.out.st);have CRF:=jj (fun W : World => rraw_any W t.F HZ.out.F);have CRT:=jj (fun W : World => rraw_any W t.T HZ.out.T);have HSF : Hid ((Tryz.prog.info? 23).map (·.size) = some (t.F.map B8).length):=jj (by rw [List.length_map,HZ.out.F];kernel_rfl);have HST : Hid ((Tryz.prog.info? 23).map (·.size) = some (t.T.map B8).length):=jj (by rw [List.length_map,HZ.out.T];kernel_rfl);clear hri;generalize rowB (t.ins.map inRow) = x1 at *;generalize Lib.itoa t.st = x2 at *;generalize rowB (t.outs.map outRow) = x3 at *;go_upto_region 18 with (fail);refine' wp_region_sure (by kernel_rfl) (fun W => Below wF.heap.size wF W) 13 [_,_,_,_,_,_,_,_,_,_,_,_,_] [some 57,some 58,some 59,some 60,some 61,some 62,some 63,some 64,some 65,some 66,some 67,some 68,some 69] (by kernel_rfl) (by kernel_rfl) (by kernel_rfl) (by kernel_rfl) rfl (Below.refl _ _).drew ?hsf
      case hsf =>
       refine sure_cons ?_ ?_
       ·intro L ac W K hed hJ hS hK;have hA1 : ac.eval (.tmp 1) = .pointer (some ⟨gx,0,none⟩):=hJ.eval_old 1 (by kernel_rfl);clear hed hJ;refine opStep_of rfl ?_;unfold Oper.wp execOp;have hN1:=evalN hA1;go_simp;exact hK _ hS
       refine sure_cons ?_ ?_
       ·intro L ac W K hed hJ hS hK;have hn:=needs_spec (l:=[0]) (by kernel_rfl) hed;have hA57:=hJ.eval 0 (d:=57) (hn 0 (by simp)) rfl rfl rfl;clear hed hJ hn;refine opStep_of rfl ?_;refine oper_load_at 23 (.tmp 57) rfl ⟨gx,0,none⟩ hA57 (t.F.map B8) _ (fun j v hv => by rw [show (⟨gx,0,none⟩ : Addr).add j = ⟨gx,0 + j,none⟩ by unfold Addr.add;by_cases h : j = 0 <;> simp [h]];exact HFF.out W (HBF.out W hS) j v hv) Tryz.underlying23 rfl HSF.out ?_;exact hK _ hS
       refine sure_cons ?_ ?_
       ·intro L ac W K hed hJ hS hK;have hn:=needs_spec (l:=[1]) (by kernel_rfl) hed;have hA58:=hJ.eval 1 (d:=58) (hn 1 (by simp)) rfl rfl rfl;clear hed hJ hn;refine opStep_of rfl ?_;unfold Oper.wp execOp;have hN58:=evalN hA58;go_simp;refine (CRF.out W).mono ?_;rintro e W' ⟨rfl,hb⟩;have hS2:=hS.trans (hb.mono hS.size);dsimp only;exact hK W' hS2
       refine sure_cons ?_ ?_
       ·intro L ac W K hed hJ hS hK;have hA4 : ac.eval (.tmp 4) = .slice A1 t.ins.length a1:=hJ.eval_old 4 (by kernel_rfl);clear hed hJ;refine opStep_of rfl ?_;unfold Oper.wp execOp;have hN4:=evalN hA4;go_simp;exact hK _ hS
       refine sure_cons ?_ ?_
       ·intro L ac W K hed hJ hS hK;have hn:=needs_spec (l:=[3]) (by kernel_rfl) hed;have hA60:=hJ.eval 3 (d:=60) (hn 3 (by simp)) rfl rfl rfl;clear hed hJ hn;refine opStep_of rfl ?_;unfold Oper.wp execOp;have hN60:=evalN hA60;go_simp;refine (CRI.out W hS).mono ?_;rintro e W' ⟨rfl,hb⟩;have hS2:=hS.trans (hb.mono hS.size);dsimp only;exact hK W' hS2
       refine sure_cons ?_ ?_
       ·intro L ac W K hed hJ hS hK;have hA1 : ac.eval (.tmp 1) = .pointer (some ⟨gx,0,none⟩):=hJ.eval_old 1 (by kernel_rfl);clear hed hJ;refine opStep_of rfl ?_;unfold Oper.wp execOp;have hN1:=evalN hA1;go_simp;exact hK _ hS
       refine sure_cons ?_ ?_
       ·intro L ac W K hed hJ hS hK;have hn:=needs_spec (l:=[5]) (by kernel_rfl) hed;have hA62:=hJ.eval 5 (d:=62) (hn 5 (by simp)) rfl rfl rfl;clear hed hJ hn;refine opStep_of rfl ?_;have cc:=(HC.out W (HBF.out W hS)).2.1;unfold Oper.wp execOp;have hN62:=evalN hA62;go_simp;exact hK _ hS
       refine sure_cons ?_ ?_
       ·intro L ac W K hed hJ hS hK;have hn:=needs_spec (l:=[6]) (by kernel_rfl) hed;have hA63:=hJ.eval 6 (d:=63) (hn 6 (by simp)) rfl rfl rfl;clear hed hJ hn;refine opStep_of rfl ?_;unfold Oper.wp execOp;have hN63:=evalN hA63;go_simp;refine (CD.out W).mono ?_;rintro e W' ⟨rfl,hb⟩;have hS2:=hS.trans (hb.mono hS.size);dsimp only;exact hK W' hS2
       refine sure_cons ?_ ?_
       ·intro L ac W K hed hJ hS hK;have hA8 : ac.eval (.tmp 8) = .slice D1 t.outs.length d1:=hJ.eval_old 8 (by kernel_rfl);clear hed hJ;refine opStep_of rfl ?_;unfold Oper.wp execOp;have hN8:=evalN hA8;go_simp;exact hK _ hS
       refine sure_cons ?_ ?_
       ·intro L ac W K hed hJ hS hK;have hn:=needs_spec (l:=[8]) (by kernel_rfl) hed;have hA65:=hJ.eval 8 (d:=65) (hn 8 (by simp)) rfl rfl rfl;clear hed hJ hn;refine opStep_of rfl ?_;unfold Oper.wp execOp;have hN65:=evalN hA65;go_simp;refine (CRO.out W hS).mono ?_;rintro e W' ⟨rfl,hb⟩;have hS2:=hS.trans (hb.mono hS.size);dsimp only;exact hK W' hS2
       refine sure_cons ?_ ?_
       ·intro L ac W K hed hJ hS hK;have hA1 : ac.eval (.tmp 1) = .pointer (some ⟨gx,0,none⟩):=hJ.eval_old 1 (by kernel_rfl);clear hed hJ;refine opStep_of rfl ?_;unfold Oper.wp execOp;have hN1:=evalN hA1;go_simp;exact hK _ hS
       refine sure_cons ?_ ?_
       ·intro L ac W K hed hJ hS hK;have hn:=needs_spec (l:=[10]) (by kernel_rfl) hed;have hA67:=hJ.eval 10 (d:=67) (hn 10 (by simp)) rfl rfl rfl;clear hed hJ hn;refine opStep_of rfl ?_;refine oper_load_at 23 (.tmp 67) rfl ⟨gx,35,none⟩ hA67 (t.T.map B8) _ (fun j v hv => by rw [show (⟨gx,35,none⟩ : Addr).add j = ⟨gx,35 + j,none⟩ by unfold Addr.add;by_cases h : j = 0 <;> simp [h]];exact HTT.out W (HBF.out W hS) j v hv) Tryz.underlying23 rfl HST.out ?_;exact hK _ hS
       refine sure_cons ?_ ?_
       ·intro L ac W K hed hJ hS hK;have hn:=needs_spec (l:=[11]) (by kernel_rfl) hed;have hA68:=hJ.eval 11 (d:=68) (hn 11 (by simp)) rfl rfl rfl;clear hed hJ hn;refine opStep_of rfl ?_;unfold Oper.wp execOp;have hN68:=evalN hA68;go_simp;refine (CRT.out W).mono ?_;rintro e W' ⟨rfl,hb⟩;have hS2:=hS.trans (hb.mono hS.size);dsimp only;exact hK W' hS2
       refine sure_nil ?_;intro W hS;simp only [putAll,Act.put,List.setIfInBounds_toArray,List.set_cons_zero,List.set_cons_succ];have HS:=jj hS;have CR : Calls Tryz.prog 22 #[.slice (some ⟨W.heap.size,0,none⟩) 6 6] (W.alloc (.cells #[.string ⟨#[104,105,98,116]⟩,S t.F,S x1,S x2,S x3,S t.T] 9)) _:=rrow_made W [[104,105,98,116],t.F,x1,x2,x3,t.T] HS6.out;have HCR:=jj CR;clear CR hS;go_wp2_with fail;refine HCR.out.mono ?_;rintro e w8 ⟨rfl,hb8⟩;have HV8:=jj (HBF.out w8 (HS.out.trans (hb8.mono HS.out.size)));clear hb8 HCR;go_wp2_with fail;go_ret2;exact ⟨by rw [HR.out.1,HR.out.2];try rfl,by rw [HGX.out];exact HBW.out _ HV8.out⟩
end Go.Proofs.YtdlnmdbonagchaaGreatDoor
