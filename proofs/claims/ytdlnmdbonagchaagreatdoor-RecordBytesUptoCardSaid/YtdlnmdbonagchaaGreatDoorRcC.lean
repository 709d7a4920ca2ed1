import Derived.Test.YtdlnmdbonagchaaGreatDoorRcB
import Derived.Test.YtdlnmdbonagchaaGreatDoorDecB
import Derived.Test.YtdlnmdbonagchaaGreatDoorRowS
import Derived.Test.YtdlnmdbonagchaaGreatDoorRRowZ
namespace Go.Proofs.YtdlnmdbonagchaaGreatDoor
open Go.RowKit
theorem row_made (w : World) (ls : List (List UInt8)) (h : sizeOf ls ≤ 34359738368) :
  Calls Tryz.prog 15 #[.slice (some ⟨w.heap.size,0,none⟩) ls.length ls.length] (w.alloc (.cells (ls.map S).toArray 9)) fun e w' => e = .returned (S (rowB ls)) ∧ Below w.heap.size w w' :=
 (row_any (w.alloc (.cells (ls.map S).toArray 9)) (some ⟨w.heap.size,0,none⟩) ls.length ls (lies_made w 9 (ls.map S) _ (by simp)) h).mono fun e w' hw => ⟨hw.1,((Below.refl w.heap.size w).alloc (Nat.le_refl _) _).trans (hw.2.mono (by simp))⟩
theorem rrow_made (w : World) (ls : List (List UInt8)) (h : sizeOf ls ≤ 34359738368) :
  Calls Tryz.prog 22 #[.slice (some ⟨w.heap.size,0,none⟩) ls.length ls.length] (w.alloc (.cells (ls.map S).toArray 9)) fun e w' => e = .returned (S (rowB ls)) ∧ Below w.heap.size w w' :=
 (rrow_any (w.alloc (.cells (ls.map S).toArray 9)) (some ⟨w.heap.size,0,none⟩) ls.length ls (lies_made w 9 (ls.map S) _ (by simp)) h).mono fun e w' hw => ⟨hw.1,((Below.refl w.heap.size w).alloc (Nat.le_refl _) _).trans (hw.2.mono (by simp))⟩
set_option maxRecDepth 100000 in
theorem rdec33_any (w : World) (n : Int) (hn : inI n) :
  Calls Tryz.prog 23 #[.int .i64 n] w fun e w' => e = .returned (S (Lib.itoa n)) ∧ Below w.heap.size w w':=by
 have HC:=jj (rdec_any n w hn);clear hn;go_enter Tryz.func23,Tryz.ntmps23;go_wp2_with fail;refine HC.out.mono ?_;rintro e w1 ⟨rfl,hb⟩;go_wp2_with fail;go_ret;exact ⟨rfl,hb⟩
abbrev smol (n : Int) : Prop:=0 ≤ n ∧ n ≤ 100000
theorem smol_in {n : Int} (h : smol n) : inI n:=⟨by omega,by omega⟩
theorem inRow_size {n : Int} {y : List UInt8} {b : Bool} (hn : smol n) (hy : y.length ≤ 1073741824) : sizeOf [Lib.itoa n,y,endB b] ≤ 34359738368:=by
 have:=itoa_len (smol_in hn);have:=endB_len b;simp [sizeOf];omega
theorem outRow_size {n : Int} {y : List UInt8} (hn : smol n) (hy : y.length ≤ 1073741824) : sizeOf [Lib.itoa n,y] ≤ 34359738368:=by
 have:=itoa_len (smol_in hn);simp [sizeOf];omega
set_option maxRecDepth 100000 in
set_option maxHeartbeats 2000000 in
theorem inRow_any (w : World) (n : Int) (y : List UInt8) (b : Bool) (hn : smol n) (hy : y.length ≤ 1073741824) (hT : STabs w) :
  Calls Tryz.prog 17 #[.agg (inCells (n,y,b)).toArray] w fun e w' => e = .returned (S (inRow (n,y,b))) ∧ Below w.heap.size w w':=by
 have hs0:=Whole.made w 50 (inCells (n,y,b)).toArray;have hb : Below w.heap.size w (w.alloc (.cells (inCells (n,y,b)).toArray 50)):=(Below.refl _ _).alloc (Nat.le_refl _) _;go_enter Tryz.func17,Tryz.ntmps17;go_upto_region 1 with (fail);change Code.wp _ _ _ _ (w.alloc (.cells (inCells (n,y,b)).toArray 50));generalize (w.alloc (.cells (inCells (n,y,b)).toArray 50)) = w1 at *;generalize hgx : w.heap.size = gx at *;have HGX:=jj hgx;have HS0:=jj hs0;have HW:=jj hb;have hgl : gx < w1.heap.size:=hs0.lt;clear hgx hb hs0;have m1 : IntKind.i64.wrap n = n:=(by rw [IntKind.wrap_i64];omega);have HR : Hid (inRow (n,y,b) = rowB [Lib.itoa n,y,endB b]):=jj rfl;have HSZ:=jj (inRow_size (b:=b) hn hy);have HC : Hid (∀ W,Below w1.heap.size w1 W → W.cell? ⟨gx,0,none⟩ = some (.int .u64 n) ∧ W.cell? ⟨gx,1,none⟩ = some (S y)):=jj fun W hW => ⟨(HS0.out.below hW hgl).cell 0,(HS0.out.below hW hgl).cell 1⟩;have HD : Hid (∀ W,Below w1.heap.size w1 W → Calls Tryz.prog 18 #[.int .i64 n] W fun e w' => e = .returned (S (Lib.itoa n)) ∧ Below W.heap.size W w'):=jj fun W hW => dec_any W n (smol_in hn) (hT.below (by rw [HGX.out];exact Nat.le_refl _) (HW.out.trans (hW.mono (by omega))));clear hn hT;have c2 : w1.cell? ⟨gx,2,none⟩ = some (.bool b):=HS0.out.cell 2;generalize Lib.itoa n = x at *;cases b with
 | false =>
  go_upto_region 4 with (fail);clear c2;refine' wp_region_sure (by kernel_rfl) (fun W => Below w1.heap.size w1 W) 7 [_,_,_,_,_,_,_] [some 6,some 7,some 8,some 9,some 10,some 11,some 12] (by kernel_rfl) (by kernel_rfl) (by kernel_rfl) (by kernel_rfl) rfl (Below.refl _ _).drew ?hs1
  case hs1 =>
   refine sure_cons ?_ ?_
   ·intro L ac W K hed hJ hS hK;have hA1 : ac.eval (.tmp 1) = .pointer (some ⟨gx,0,none⟩):=hJ.eval_old 1 (by kernel_rfl);clear hed hJ;refine opStep_of rfl ?_;unfold Oper.wp execOp;have hN1:=evalN hA1;go_simp;exact hK _ hS
   refine sure_cons ?_ ?_
   ·intro L ac W K hed hJ hS hK;have hn:=needs_spec (l:=[0]) (by kernel_rfl) hed;have hA6:=hJ.eval 0 (d:=6) (hn 0 (by simp)) rfl rfl rfl;clear hed hJ hn;refine opStep_of rfl ?_;have cc:=(HC.out W hS).1;unfold Oper.wp execOp;have hN6:=evalN hA6;go_simp;exact hK _ hS
   refine sure_cons ?_ ?_
   ·intro L ac W K hed hJ hS hK;have hn:=needs_spec (l:=[1]) (by kernel_rfl) hed;have hA7:=hJ.eval 1 (d:=7) (hn 1 (by simp)) rfl rfl rfl;clear hed hJ hn;refine opStep_of rfl ?_;unfold Oper.wp execOp;have hN7:=evalN hA7;go_simp;exact hK _ hS
   refine sure_cons ?_ ?_
   ·intro L ac W K hed hJ hS hK;have hn:=needs_spec (l:=[2]) (by kernel_rfl) hed;have hA8:=hJ.eval 2 (d:=8) (hn 2 (by simp)) rfl rfl rfl;clear hed hJ hn;refine opStep_of rfl ?_;unfold Oper.wp execOp;have hN8:=evalN hA8;go_simp;refine (HD.out W hS).mono ?_;rintro e W' ⟨rfl,hb⟩;have hS2:=hS.trans (hb.mono hS.size);dsimp only;exact hK W' hS2
   refine sure_cons ?_ ?_
   ·intro L ac W K hed hJ hS hK;have hA1 : ac.eval (.tmp 1) = .pointer (some ⟨gx,0,none⟩):=hJ.eval_old 1 (by kernel_rfl);clear hed hJ;refine opStep_of rfl ?_;unfold Oper.wp execOp;have hN1:=evalN hA1;go_simp;exact hK _ hS
   refine sure_cons ?_ ?_
   ·intro L ac W K hed hJ hS hK;have hn:=needs_spec (l:=[4]) (by kernel_rfl) hed;have hA10:=hJ.eval 4 (d:=10) (hn 4 (by simp)) rfl rfl rfl;clear hed hJ hn;refine opStep_of rfl ?_;have cc:=(HC.out W hS).2;unfold Oper.wp execOp;have hN10:=evalN hA10;go_simp;exact hK _ hS
   refine sure_cons ?_ ?_
   ·intro L ac W K hed hJ hS hK;have hA3 : ac.eval (.tmp 3) = S (endB false):=hJ.eval_old 3 (by kernel_rfl);clear hed hJ;refine opStep_of rfl ?_;unfold Oper.wp execOp;have hN3:=evalN hA3;go_simp;exact hK _ hS
   refine sure_nil ?_;intro W hS;simp only [putAll,Act.put,List.setIfInBounds_toArray,List.set_cons_zero,List.set_cons_succ];have HS:=jj hS;have CR : Calls Tryz.prog 15 #[.slice (some ⟨W.heap.size,0,none⟩) 3 3] (W.alloc (.cells #[S x,S y,S (endB false)] 9)) _:=row_made W [x,y,endB false] HSZ.out;have HCR:=jj CR;clear CR hS;go_wp2_with fail;refine HCR.out.mono ?_;rintro e w2 ⟨rfl,hb2⟩;have HV2:=jj (HS.out.trans (hb2.mono HS.out.size));clear hb2 HCR;go_wp2_with fail;go_ret;exact ⟨by rw [HR.out];rfl,by rw [HGX.out];exact HW.out.trans (HV2.out.mono (by omega))⟩
 | true =>
  go_upto_region 4 with (fail);clear c2;refine' wp_region_sure (by kernel_rfl) (fun W => Below w1.heap.size w1 W) 7 [_,_,_,_,_,_,_] [some 6,some 7,some 8,some 9,some 10,some 11,some 12] (by kernel_rfl) (by kernel_rfl) (by kernel_rfl) (by kernel_rfl) rfl (Below.refl _ _).drew ?hs1
  case hs1 =>
   refine sure_cons ?_ ?_
   ·intro L ac W K hed hJ hS hK;have hA1 : ac.eval (.tmp 1) = .pointer (some ⟨gx,0,none⟩):=hJ.eval_old 1 (by kernel_rfl);clear hed hJ;refine opStep_of rfl ?_;unfold Oper.wp execOp;have hN1:=evalN hA1;go_simp;exact hK _ hS
   refine sure_cons ?_ ?_
   ·intro L ac W K hed hJ hS hK;have hn:=needs_spec (l:=[0]) (by kernel_rfl) hed;have hA6:=hJ.eval 0 (d:=6) (hn 0 (by simp)) rfl rfl rfl;clear hed hJ hn;refine opStep_of rfl ?_;have cc:=(HC.out W hS).1;unfold Oper.wp execOp;have hN6:=evalN hA6;go_simp;exact hK _ hS
   refine sure_cons ?_ ?_
   ·intro L ac W K hed hJ hS hK;have hn:=needs_spec (l:=[1]) (by kernel_rfl) hed;have hA7:=hJ.eval 1 (d:=7) (hn 1 (by simp)) rfl rfl rfl;clear hed hJ hn;refine opStep_of rfl ?_;unfold Oper.wp execOp;have hN7:=evalN hA7;go_simp;exact hK _ hS
   refine sure_cons ?_ ?_
   ·intro L ac W K hed hJ hS hK;have hn:=needs_spec (l:=[2]) (by kernel_rfl) hed;have hA8:=hJ.eval 2 (d:=8) (hn 2 (by simp)) rfl rfl rfl;clear hed hJ hn;refine opStep_of rfl ?_;unfold Oper.wp execOp;have hN8:=evalN hA8;go_simp;refine (HD.out W hS).mono ?_;rintro e W' ⟨rfl,hb⟩;have hS2:=hS.trans (hb.mono hS.size);dsimp only;exact hK W' hS2
   refine sure_cons ?_ ?_
   ·intro L ac W K hed hJ hS hK;have hA1 : ac.eval (.tmp 1) = .pointer (some ⟨gx,0,none⟩):=hJ.eval_old 1 (by kernel_rfl);clear hed hJ;refine opStep_of rfl ?_;unfold Oper.wp execOp;have hN1:=evalN hA1;go_simp;exact hK _ hS
   refine sure_cons ?_ ?_
   ·intro L ac W K hed hJ hS hK;have hn:=needs_spec (l:=[4]) (by kernel_rfl) hed;have hA10:=hJ.eval 4 (d:=10) (hn 4 (by simp)) rfl rfl rfl;clear hed hJ hn;refine opStep_of rfl ?_;have cc:=(HC.out W hS).2;unfold Oper.wp execOp;have hN10:=evalN hA10;go_simp;exact hK _ hS
   refine sure_cons ?_ ?_
   ·intro L ac W K hed hJ hS hK;have hA3 : ac.eval (.tmp 3) = S (endB true):=hJ.eval_old 3 (by kernel_rfl);clear hed hJ;refine opStep_of rfl ?_;unfold Oper.wp execOp;have hN3:=evalN hA3;go_simp;exact hK _ hS
   refine sure_nil ?_;intro W hS;simp only [putAll,Act.put,List.setIfInBounds_toArray,List.set_cons_zero,List.set_cons_succ];have HS:=jj hS;have CR : Calls Tryz.prog 15 #[.slice (some ⟨W.heap.size,0,none⟩) 3 3] (W.alloc (.cells #[S x,S y,S (endB true)] 9)) _:=row_made W [x,y,endB true] HSZ.out;have HCR:=jj CR;clear CR hS;go_wp2_with fail;refine HCR.out.mono ?_;rintro e w2 ⟨rfl,hb2⟩;have HV2:=jj (HS.out.trans (hb2.mono HS.out.size));clear hb2 HCR;go_wp2_with fail;go_ret;exact ⟨by rw [HR.out];rfl,by rw [HGX.out];exact HW.out.trans (HV2.out.mono (by omega))⟩
set_option maxRecDepth 100000 in
set_option maxHeartbeats 2000000 in
theorem outRow_any (w : World) (n : Int) (y : List UInt8) (hn : smol n) (hy : y.length ≤ 1073741824) (hT : STabs w) :
  Calls Tryz.prog 20 #[.agg (outCells (n,y)).toArray] w fun e w' => e = .returned (S (outRow (n,y))) ∧ Below w.heap.size w w':=by
 have hs0:=Whole.made w 54 (outCells (n,y)).toArray;have hb : Below w.heap.size w (w.alloc (.cells (outCells (n,y)).toArray 54)):=(Below.refl _ _).alloc (Nat.le_refl _) _;go_enter Tryz.func20,Tryz.ntmps20;go_upto_region 1 with (fail);change Code.wp _ _ _ _ (w.alloc (.cells (outCells (n,y)).toArray 54));generalize (w.alloc (.cells (outCells (n,y)).toArray 54)) = w1 at *;generalize hgx : w.heap.size = gx at *;have HGX:=jj hgx;have HS0:=jj hs0;have HW:=jj hb;have hgl : gx < w1.heap.size:=hs0.lt;clear hgx hb hs0;have m1 : IntKind.i64.wrap n = n:=(by rw [IntKind.wrap_i64];omega);have HR : Hid (outRow (n,y) = rowB [Lib.itoa n,y]):=jj rfl;have HSZ:=jj (outRow_size hn hy);have HC : Hid (∀ W,Below w1.heap.size w1 W → W.cell? ⟨gx,0,none⟩ = some (.int .u64 n) ∧ W.cell? ⟨gx,1,none⟩ = some (S y)):=jj fun W hW => ⟨(HS0.out.below hW hgl).cell 0,(HS0.out.below hW hgl).cell 1⟩;have HD : Hid (∀ W,Below w1.heap.size w1 W → Calls Tryz.prog 18 #[.int .i64 n] W fun e w' => e = .returned (S (Lib.itoa n)) ∧ Below W.heap.size W w'):=jj fun W hW => dec_any W n (smol_in hn) (hT.below (by rw [HGX.out];exact Nat.le_refl _) (HW.out.trans (hW.mono (by omega))));clear hn hT;generalize Lib.itoa n = x at *;refine' wp_region_sure (by kernel_rfl) (fun W => Below w1.heap.size w1 W) 6 [_,_,_,_,_,_] [some 3,some 4,some 5,some 6,some 7,some 8] (by kernel_rfl) (by kernel_rfl) (by kernel_rfl) (by kernel_rfl) rfl (Below.refl _ _).drew ?hs1
 case hs1 =>
  refine sure_cons ?_ ?_
  ·intro L ac W K hed hJ hS hK;have hA1 : ac.eval (.tmp 1) = .pointer (some ⟨gx,0,none⟩):=hJ.eval_old 1 (by kernel_rfl);clear hed hJ;refine opStep_of rfl ?_;unfold Oper.wp execOp;have hN1:=evalN hA1;go_simp;exact hK _ hS
  refine sure_cons ?_ ?_
  ·intro L ac W K hed hJ hS hK;have hn:=needs_spec (l:=[0]) (by kernel_rfl) hed;have hA3:=hJ.eval 0 (d:=3) (hn 0 (by simp)) rfl rfl rfl;clear hed hJ hn;refine opStep_of rfl ?_;have cc:=(HC.out W hS).1;unfold Oper.wp execOp;have hN3:=evalN hA3;go_simp;exact hK _ hS
  refine sure_cons ?_ ?_
  ·intro L ac W K hed hJ hS hK;have hn:=needs_spec (l:=[1]) (by kernel_rfl) hed;have hA4:=hJ.eval 1 (d:=4) (hn 1 (by simp)) rfl rfl rfl;clear hed hJ hn;refine opStep_of rfl ?_;unfold Oper.wp execOp;have hN4:=evalN hA4;go_simp;exact hK _ hS
  refine sure_cons ?_ ?_
  ·intro L ac W K hed hJ hS hK;have hn:=needs_spec (l:=[2]) (by kernel_rfl) hed;have hA5:=hJ.eval 2 (d:=5) (hn 2 (by simp)) rfl rfl rfl;clear hed hJ hn;refine opStep_of rfl ?_;unfold Oper.wp execOp;have hN5:=evalN hA5;go_simp;refine (HD.out W hS).mono ?_;rintro e W' ⟨rfl,hb⟩;have hS2:=hS.trans (hb.mono hS.size);dsimp only;exact hK W' hS2
  refine sure_cons ?_ ?_
  ·intro L ac W K hed hJ hS hK;have hA1 : ac.eval (.tmp 1) = .pointer (some ⟨gx,0,none⟩):=hJ.eval_old 1 (by kernel_rfl);clear hed hJ;refine opStep_of rfl ?_;unfold Oper.wp execOp;have hN1:=evalN hA1;go_simp;exact hK _ hS
  refine sure_cons ?_ ?_
  ·intro L ac W K hed hJ hS hK;have hn:=needs_spec (l:=[4]) (by kernel_rfl) hed;have hA7:=hJ.eval 4 (d:=7) (hn 4 (by simp)) rfl rfl rfl;clear hed hJ hn;refine opStep_of rfl ?_;have cc:=(HC.out W hS).2;unfold Oper.wp execOp;have hN7:=evalN hA7;go_simp;exact hK _ hS
  refine sure_nil ?_;intro W hS;simp only [putAll,Act.put,List.setIfInBounds_toArray,List.set_cons_zero,List.set_cons_succ];have HS:=jj hS;have CR : Calls Tryz.prog 15 #[.slice (some ⟨W.heap.size,0,none⟩) 2 2] (W.alloc (.cells #[S x,S y] 9)) _:=row_made W [x,y] HSZ.out;have HCR:=jj CR;clear CR hS;go_wp2_with fail;refine HCR.out.mono ?_;rintro e w2 ⟨rfl,hb2⟩;have HV2:=jj (HS.out.trans (hb2.mono HS.out.size));clear hb2 HCR;go_wp2_with fail;go_ret;exact ⟨by rw [HR.out];rfl,by rw [HGX.out];exact HW.out.trans (HV2.out.mono (by omega))⟩
set_option maxRecDepth 100000 in
set_option maxHeartbeats 4000000 in
theorem inRows_any (w : World) (A : Option Addr) (c : Nat) (l : List InP) (hA : Ins w w.heap.size A l) (hl : l.length ≤ 1099511627776) (hp : ∀ p ∈ l,smol p.1) (hz : ∀ p ∈ l,p.2.1.length ≤ 1073741824) (hs : sizeOf (l.map inRow) ≤ 34359738368) (hT : STabs w) :
  Calls Tryz.prog 16 #[.slice A l.length c,.func (.func 17) #[] #[]] w fun e w' => e = .returned (S (rowB (l.map inRow))) ∧ Below w.heap.size w w':=by
 obtain ⟨i0,hi0,hz0,hz1,hz2⟩:=info_parts Tryz.infoStr';have HA:=jj hA;have HP:=jj hp;have HZ:=jj hz;have HS:=jj hs;have HT:=jj hT;clear hA hp hz hs hT;go_enter Tryz.func16,Tryz.ntmps16;go_wp2_with (at_make;refine wpList_make_own _ rfl _ _ 38 rfl w.heap.size 9 i0 _ 1 Tryz.underlying38 hi0 hz0 hz1 .i64 .i64 _ l.length rfl rfl rfl (by rw [hz2];omega) (by unfold maxLen;omega) (Nat.le_refl _) ?_;intro w0 hown0 hgrow0);have HO0:=jj hown0;have HB0 : Hid (Below w.heap.size w w0):=jj ⟨hgrow0.os,hgrow0.tape,hgrow0.output,hgrow0.size,fun i hi => hgrow0.block i hi (by simp)⟩;clear hown0 hgrow0;go_wp2_with fail
 go_loopw [5,13] (fun v i wr => ∃ k : Nat,k ≤ l.length ∧ i = .int .i64 k ∧ Hid (OwnS wr w.heap.size v ((l.take k).map inRow)) ∧ Hid (Below w.heap.size w wr)) (fun _ i _ => l.length - (intOf i).toNat)
 case atStart => exact ⟨0,by omega,rfl,HO0,HB0⟩
 case round =>
  obtain ⟨k,hk,rfl,HO,HW⟩:=hrel;clear HO0 HB0;by_cases hlt : k < l.length
  ·obtain ⟨p,hp⟩:=get_some hlt;have HLT:=jj hlt;obtain ⟨bd,rfl,hbd,hc⟩:=Lies.row (f:=inCells) (n:=3) HA.out (fun y hy => rfl) (by omega) hp;have hpn:=HP.out p (List.mem_of_getElem? hp);have hpy:=HZ.out p (List.mem_of_getElem? hp);have HTK : Hid ((l.take (k + 1)).map inRow = (l.take k).map inRow ++ [inRow p]):=jj (by rw [List.take_add_one,hp,List.map_append];rfl);have hlk : ((l.take k).map inRow).length = k:=(by simp;omega);generalize (l.take k).map inRow = acc at *;obtain ⟨n,y,b⟩:=p;have HPN : Hid (smol n):=jj hpn;have HPY : Hid (y.length ≤ 1073741824):=jj hpy;have HLK:=jj hlk;clear hlk hpn hpy;have q0 : (0 : Int) ≤ (k : Int):=(by omega);have q1 : (k : Int) < (l.length : Int):=(by omega);have LD : Hid (∀ j v,(inCells (n,y,b))[j]? = some v → wr.cell? ((bd.add (k * 3)).add j) = some v):=jj fun j v hv => (HW.out.cell (by show ((bd.add (k * 3)).add j).block < _;rw [add_block,add_block];exact hbd)).trans (hc j v hv);have HX:=jj (Whole.made wr 50 (inCells (n,y,b)).toArray);have HW1:=jj (HW.out.alloc HW.out.size (.cells (inCells (n,y,b)).toArray 50));have HO1:=jj (HO.out.alloc (.cells (inCells (n,y,b)).toArray 50));clear hc hp
   go_upto_region 5 with (first
    | (refine wpList_load_at rfl 50 (.tmp 15) rfl (bd.add (k * 3)) rfl (inCells (n,y,b)) _ LD.out Tryz.underlying50 rfl (by kernel_rfl) ?_)
    | (refine wpList_fresh rfl rfl 50 7 (.tmp 16) rfl rfl rfl rfl (inCells (n,y,b)) rfl rfl _ Tryz.infoIn rfl (in_one (n,y,b)) ?_))
   change Code.wp _ _ _ _ (wr.alloc (.cells (inCells (n,y,b)).toArray 50));generalize wr.alloc (.cells (inCells (n,y,b)).toArray 50) = w1 at *;generalize wr.heap.size = g1 at *
   have LD1 : Hid (∀ j v,(inCells (n,y,b))[j]? = some v → w1.cell? ((⟨g1,0,none⟩ : Addr).add j) = some v):=jj fun j v hv => by
    rw [show (⟨g1,0,none⟩ : Addr).add j = ⟨g1,j,none⟩ by unfold Addr.add;by_cases h : j = 0 <;> simp [h]];rw [HX.out.cell j,List.getElem?_toArray];exact hv
   clear LD HW HO;go_wp2_with (refine wpList_load_at rfl 50 (.tmp 7) rfl ⟨g1,0,none⟩ rfl (inCells (n,y,b)) _ LD1.out Tryz.underlying50 rfl (by kernel_rfl) ?_);refine (inRow_any w1 n y b HPN.out HPY.out (HT.out.below (Nat.le_refl _) HW1.out)).mono ?_;rintro e w2 ⟨rfl,hb2⟩;have HO2:=jj (own_below HO1.out hb2);have HW2:=jj (HW1.out.trans (hb2.mono HW1.out.size));clear hb2 HO1 HW1 LD1;generalize inRow (n,y,b) = x at *
   have HNW : Hid (∀ i u,[S x][i]? = some u → (w2.alloc (.cells #[S x] 9)).cell? ((⟨w2.heap.size,0,none⟩ : Addr).add i) = some u):=jj (fun i u hu => by
    obtain ⟨ad',e',_,hc'⟩:=lies_made w2 9 [S x] (w2.heap.size + 1) (by omega) i u hu;injection e' with e';subst e';exact hc')
   have H1 : Hid (∀ u ∈ [S x],u.oneCell' = true):=jj (by simp [Value.oneCell']);have H63 : Hid (acc.length + 1 ≤ maxLen):=jj (by rw [HLK.out];unfold maxLen;omega);have HBY : Hid ((acc.length + 1) * 16 ≤ 140737488355328):=jj (by rw [HLK.out];omega);have HBA : Hid (w.heap.size ≤ (w2.alloc (.cells #[S x] 9)).heap.size):=jj (by have:=HW2.out.size;simp;omega);have HOA:=jj (HO2.out.alloc (.cells #[S x] 9));go_wp2_with (at_builtin;refine wpList_append_own _ rfl (.tmp 17) (.tmp 21) 38 rfl w.heap.size 9 i0 _ 1 16 Tryz.underlying38 hi0 hz0 hz1 hz2 rfl (by decide) _ _ _ rfl HOA.out ⟨w2.heap.size,0,none⟩ 1 1 [S x] rfl rfl HNW.out H1.out H63.out HBY.out HBA.out ?_;intro v' w4 hown' hgrow _);have HO4 : Hid (OwnS w4 w.heap.size v' (acc ++ [x])):=jj (by have:=hown';rw [show (acc.map S ++ [S x]) = (acc ++ [x]).map S by simp] at this;unfold OwnS;rw [List.length_append];exact this);have HB4 : Hid (Below w.heap.size w w4):=jj ((HW2.out.alloc HW2.out.size _).grown hgrow HBA.out (own_ge HOA.out));clear hown' hgrow HOA HNW;rw [← HTK.out] at HO4;go_wp2_with fail
   go_roundw
   case rel =>
    have R : ∃ k' : Nat,k' ≤ l.length ∧ Value.int .i64 ((k : Int) + 1) = .int .i64 k' ∧ Hid (OwnS w4 w.heap.size v' ((l.take k').map inRow)) ∧ Hid (Below w.heap.size w w4):=⟨k + 1,by have:=HLT.out;omega,by go_num,HO4,HB4⟩
    first | exact R | ((repeat apply Exists.intro);exact ⟨R,rfl⟩)
   case measure => first | (simp [intOf];done) | (simp [intOf];have:=HLT.out;omega)
  ·obtain rfl : k = l.length:=(by omega);have hd : decide (l.length < l.length) = false:=(by simp);rw [List.take_of_length_le (Nat.le_refl _)] at HO;obtain ⟨A',c',rfl,hlies,_⟩:=own_shape HO.out (by omega);have hrw:=row_any wr A' c' (l.map inRow) hlies HS.out;rw [List.length_map] at hrw;have HRW:=jj hrw;clear hrw;clear hlies HO;go_wp2_with fail;refine HRW.out.mono ?_;rintro e w2 ⟨rfl,hb2⟩;have HW2:=jj (HW.out.trans (hb2.mono HW.out.size));clear hb2 HRW;go_wp2_with fail;go_ret;exact ⟨rfl,HW2.out⟩
set_option maxRecDepth 100000 in
set_option maxHeartbeats 4000000 in
theorem outRows_any (w : World) (A : Option Addr) (c : Nat) (l : List OutP) (hA : Outs w w.heap.size A l) (hl : l.length ≤ 1099511627776) (hp : ∀ p ∈ l,smol p.1) (hz : ∀ p ∈ l,p.2.length ≤ 1073741824) (hs : sizeOf (l.map outRow) ≤ 34359738368) (hT : STabs w) :
  Calls Tryz.prog 19 #[.slice A l.length c,.func (.func 20) #[] #[]] w fun e w' => e = .returned (S (rowB (l.map outRow))) ∧ Below w.heap.size w w':=by
 obtain ⟨i0,hi0,hz0,hz1,hz2⟩:=info_parts Tryz.infoStr';have HA:=jj hA;have HP:=jj hp;have HZ:=jj hz;have HS:=jj hs;have HT:=jj hT;clear hA hp hz hs hT;go_enter Tryz.func19,Tryz.ntmps19;go_wp2_with (at_make;refine wpList_make_own _ rfl _ _ 38 rfl w.heap.size 9 i0 _ 1 Tryz.underlying38 hi0 hz0 hz1 .i64 .i64 _ l.length rfl rfl rfl (by rw [hz2];omega) (by unfold maxLen;omega) (Nat.le_refl _) ?_;intro w0 hown0 hgrow0);have HO0:=jj hown0;have HB0 : Hid (Below w.heap.size w w0):=jj ⟨hgrow0.os,hgrow0.tape,hgrow0.output,hgrow0.size,fun i hi => hgrow0.block i hi (by simp)⟩;clear hown0 hgrow0;go_wp2_with fail
 go_loopw [5,13] (fun v i wr => ∃ k : Nat,k ≤ l.length ∧ i = .int .i64 k ∧ Hid (OwnS wr w.heap.size v ((l.take k).map outRow)) ∧ Hid (Below w.heap.size w wr)) (fun _ i _ => l.length - (intOf i).toNat)
 case atStart => exact ⟨0,by omega,rfl,HO0,HB0⟩
 case round =>
  obtain ⟨k,hk,rfl,HO,HW⟩:=hrel;clear HO0 HB0;by_cases hlt : k < l.length
  ·obtain ⟨p,hp⟩:=get_some hlt;have HLT:=jj hlt;obtain ⟨bd,rfl,hbd,hc⟩:=Lies.row (f:=outCells) (n:=2) HA.out (fun y hy => rfl) (by omega) hp;have hpn:=HP.out p (List.mem_of_getElem? hp);have hpy:=HZ.out p (List.mem_of_getElem? hp);have HTK : Hid ((l.take (k + 1)).map outRow = (l.take k).map outRow ++ [outRow p]):=jj (by rw [List.take_add_one,hp,List.map_append];rfl);have hlk : ((l.take k).map outRow).length = k:=(by simp;omega);generalize (l.take k).map outRow = acc at *;obtain ⟨n,y⟩:=p;have HPN : Hid (smol n):=jj hpn;have HPY : Hid (y.length ≤ 1073741824):=jj hpy;have HLK:=jj hlk;clear hlk hpn hpy;have q0 : (0 : Int) ≤ (k : Int):=(by omega);have q1 : (k : Int) < (l.length : Int):=(by omega);have LD : Hid (∀ j v,(outCells (n,y))[j]? = some v → wr.cell? ((bd.add (k * 2)).add j) = some v):=jj fun j v hv => (HW.out.cell (by show ((bd.add (k * 2)).add j).block < _;rw [add_block,add_block];exact hbd)).trans (hc j v hv);have HX:=jj (Whole.made wr 54 (outCells (n,y)).toArray);have HW1:=jj (HW.out.alloc HW.out.size (.cells (outCells (n,y)).toArray 54));have HO1:=jj (HO.out.alloc (.cells (outCells (n,y)).toArray 54));clear hc hp
   go_upto_region 5 with (first
    | (refine wpList_load_at rfl 54 (.tmp 15) rfl (bd.add (k * 2)) rfl (outCells (n,y)) _ LD.out Tryz.underlying54 rfl (by kernel_rfl) ?_)
    | (refine wpList_fresh rfl rfl 54 7 (.tmp 16) rfl rfl rfl rfl (outCells (n,y)) rfl rfl _ Tryz.infoOut rfl (out_one (n,y)) ?_))
   change Code.wp _ _ _ _ (wr.alloc (.cells (outCells (n,y)).toArray 54));generalize wr.alloc (.cells (outCells (n,y)).toArray 54) = w1 at *;generalize wr.heap.size = g1 at *
   have LD1 : Hid (∀ j v,(outCells (n,y))[j]? = some v → w1.cell? ((⟨g1,0,none⟩ : Addr).add j) = some v):=jj fun j v hv => by
    rw [show (⟨g1,0,none⟩ : Addr).add j = ⟨g1,j,none⟩ by unfold Addr.add;by_cases h : j = 0 <;> simp [h]];rw [HX.out.cell j,List.getElem?_toArray];exact hv
   clear LD HW HO;go_wp2_with (refine wpList_load_at rfl 54 (.tmp 7) rfl ⟨g1,0,none⟩ rfl (outCells (n,y)) _ LD1.out Tryz.underlying54 rfl (by kernel_rfl) ?_);refine (outRow_any w1 n y HPN.out HPY.out (HT.out.below (Nat.le_refl _) HW1.out)).mono ?_;rintro e w2 ⟨rfl,hb2⟩;have HO2:=jj (own_below HO1.out hb2);have HW2:=jj (HW1.out.trans (hb2.mono HW1.out.size));clear hb2 HO1 HW1 LD1;generalize outRow (n,y) = x at *
   have HNW : Hid (∀ i u,[S x][i]? = some u → (w2.alloc (.cells #[S x] 9)).cell? ((⟨w2.heap.size,0,none⟩ : Addr).add i) = some u):=jj (fun i u hu => by
    obtain ⟨ad',e',_,hc'⟩:=lies_made w2 9 [S x] (w2.heap.size + 1) (by omega) i u hu;injection e' with e';subst e';exact hc')
   have H1 : Hid (∀ u ∈ [S x],u.oneCell' = true):=jj (by simp [Value.oneCell']);have H63 : Hid (acc.length + 1 ≤ maxLen):=jj (by rw [HLK.out];unfold maxLen;omega);have HBY : Hid ((acc.length + 1) * 16 ≤ 140737488355328):=jj (by rw [HLK.out];omega);have HBA : Hid (w.heap.size ≤ (w2.alloc (.cells #[S x] 9)).heap.size):=jj (by have:=HW2.out.size;simp;omega);have HOA:=jj (HO2.out.alloc (.cells #[S x] 9));go_wp2_with (at_builtin;refine wpList_append_own _ rfl (.tmp 17) (.tmp 21) 38 rfl w.heap.size 9 i0 _ 1 16 Tryz.underlying38 hi0 hz0 hz1 hz2 rfl (by decide) _ _ _ rfl HOA.out ⟨w2.heap.size,0,none⟩ 1 1 [S x] rfl rfl HNW.out H1.out H63.out HBY.out HBA.out ?_;intro v' w4 hown' hgrow _);have HO4 : Hid (OwnS w4 w.heap.size v' (acc ++ [x])):=jj (by have:=hown';rw [show (acc.map S ++ [S x]) = (acc ++ [x]).map S by simp] at this;unfold OwnS;rw [List.length_append];exact this);have HB4 : Hid (Below w.heap.size w w4):=jj ((HW2.out.alloc HW2.out.size _).grown hgrow HBA.out (own_ge HOA.out));clear hown' hgrow HOA HNW;rw [← HTK.out] at HO4;go_wp2_with fail
   go_roundw
   case rel =>
    have R : ∃ k' : Nat,k' ≤ l.length ∧ Value.int .i64 ((k : Int) + 1) = .int .i64 k' ∧ Hid (OwnS w4 w.heap.size v' ((l.take k').map outRow)) ∧ Hid (Below w.heap.size w w4):=⟨k + 1,by have:=HLT.out;omega,by go_num,HO4,HB4⟩
    first | exact R | ((repeat apply Exists.intro);exact ⟨R,rfl⟩)
   case measure => first | (simp [intOf];done) | (simp [intOf];have:=HLT.out;omega)
  ·obtain rfl : k = l.length:=(by omega);have hd : decide (l.length < l.length) = false:=(by simp);rw [List.take_of_length_le (Nat.le_refl _)] at HO;obtain ⟨A',c',rfl,hlies,_⟩:=own_shape HO.out (by omega);have hrw:=row_any wr A' c' (l.map outRow) hlies HS.out;rw [List.length_map] at hrw;have HRW:=jj hrw;clear hrw;clear hlies HO;go_wp2_with fail;refine HRW.out.mono ?_;rintro e w2 ⟨rfl,hb2⟩;have HW2:=jj (HW.out.trans (hb2.mono HW.out.size));clear hb2 HRW;go_wp2_with fail;go_ret;exact ⟨rfl,HW2.out⟩
end Go.Proofs.YtdlnmdbonagchaaGreatDoor
