import Derived.Test.YtdkhnjjihbmlmaaGreatDoorYdA
import Derived.Great.BuildSlice
namespace Go.Proofs.YtdkhnjjihbmlmaaGreatDoor
open Go.RowKit
def Gr25 (w : World) (m : Mc) (e : Ending) (w' : World) : Prop:=(e = .returned (.int .i64 1) ∨ (e = .returned (.int .i64 0) ∧ m.pend.length ≤ 250)) ∧ Below w.heap.size w w'
set_option maxRecDepth 100000 in
set_option maxHeartbeats 2000000 in
theorem great25_any (w : World) (a : MA) (m : Mc) (hb : m.frames.length ≤ 1048576 ∧ m.procs.length ≤ 1048576 ∧ m.pipes.length ≤ 1048576 ∧ m.dirty.length ≤ 1048576 ∧ m.blocks.length ≤ 1048576 ∧ m.pend.length ≤ 1048576 ∧ m.inp.length ≤ 1048576 ∧ m.init.length ≤ 1048576) (hA : MAt w w.heap.size a m) :
  Calls Tryz.prog 13 #[.agg (mcL a m).toArray] w (Gr25 w m):=by
 have hs0:=Whole.made w 30 (mcL a m).toArray;have hb : Below w.heap.size w (w.alloc (.cells (mcL a m).toArray 30)):=(Below.refl _ _).alloc (Nat.le_refl _) _;go_enter Tryz.func13,Tryz.ntmps13;go_upto_region 1 with (fail);change Code.wp _ _ _ _ (w.alloc (.cells (mcL a m).toArray 30));generalize (w.alloc (.cells (mcL a m).toArray 30)) = w1 at *;generalize hgx : w.heap.size = gx at *;have HGX:=jj hgx;have HS0:=jj hs0;have HW:=jj hb;have hgl : gx < w1.heap.size:=hs0.lt;clear hgx hb hs0;obtain ⟨b1,b2,b3,b4,b5,b6,b7,b8⟩:=hb;have HA:=jj hA;have m4 : w1.cell? ⟨gx,4,none⟩ = some (.slice a.F m.frames.length a.cF):=HS0.out.cell 4;have m5 : w1.cell? ⟨gx,5,none⟩ = some (.slice a.P m.procs.length a.cP):=HS0.out.cell 5;have m7 : w1.cell? ⟨gx,7,none⟩ = some (S m.init):=HS0.out.cell 7;have m8 : w1.cell? ⟨gx,8,none⟩ = some (.slice a.Q m.pipes.length a.cQ):=HS0.out.cell 8;have m10 : w1.cell? ⟨gx,10,none⟩ = some (S m.inp):=HS0.out.cell 10;have m13 : w1.cell? ⟨gx,13,none⟩ = some (.slice a.L m.blocks.length a.cL):=HS0.out.cell 13;have m14 : w1.cell? ⟨gx,14,none⟩ = some (.slice a.N m.pend.length a.cN):=HS0.out.cell 14;have m16 : w1.cell? ⟨gx,16,none⟩ = some (.slice a.D m.dirty.length a.cD):=HS0.out.cell 16;have v1 : IntKind.i64.wrap ((m.frames.length : Int) + (m.procs.length : Int)) = (m.frames.length : Int) + (m.procs.length : Int):=(by rw [IntKind.wrap_i64];omega);have v2 : IntKind.i64.wrap ((m.frames.length : Int) + (m.procs.length : Int) + (m.pipes.length : Int)) = (m.frames.length : Int) + (m.procs.length : Int) + (m.pipes.length : Int):=(by rw [IntKind.wrap_i64];omega);have v3 : IntKind.i64.wrap ((m.frames.length : Int) + (m.procs.length : Int) + (m.pipes.length : Int) + (m.dirty.length : Int)) = (m.frames.length : Int) + (m.procs.length : Int) + (m.pipes.length : Int) + (m.dirty.length : Int):=(by rw [IntKind.wrap_i64];omega);have v4 : IntKind.i64.wrap ((m.frames.length : Int) + (m.procs.length : Int) + (m.pipes.length : Int) + (m.dirty.length : Int) + (m.blocks.length : Int)) = (m.frames.length : Int) + (m.procs.length : Int) + (m.pipes.length : Int) + (m.dirty.length : Int) + (m.blocks.length : Int):=(by rw [IntKind.wrap_i64];omega);have v5 : IntKind.i64.wrap ((m.frames.length : Int) + (m.procs.length : Int) + (m.pipes.length : Int) + (m.dirty.length : Int) + (m.blocks.length : Int) + (m.pend.length : Int)) = (m.frames.length : Int) + (m.procs.length : Int) + (m.pipes.length : Int) + (m.dirty.length : Int) + (m.blocks.length : Int) + (m.pend.length : Int):=(by rw [IntKind.wrap_i64];omega)
 have v6 : IntKind.i64.wrap ((m.inp.length : Int) + (m.init.length : Int)) = (m.inp.length : Int) + (m.init.length : Int):=(by rw [IntKind.wrap_i64];omega);obtain ⟨tq,htq⟩ : ∃ t,((m.inp.length : Int) + (m.init.length : Int)).tdiv 64 = t:=⟨_,rfl⟩;have htq0 : 0 ≤ tq ∧ tq ≤ 67108864:=(by rw [← htq,Int.tdiv_eq_ediv_of_nonneg (by omega)];omega);clear hA;go_upto_region 2 with fail
 have ONE : ∀ wr : World,Below gx w wr → Gr25 w m (.returned (.int .i64 1)) wr:=fun wr h => ⟨.inl rfl,by rw [HGX.out];exact h⟩;clear v1 v2 v3 v4 v5 v6 htq m7 m10;by_cases h1 : (250 : Int) < (m.frames.length : Int) + (m.procs.length : Int) + (m.pipes.length : Int) + (m.dirty.length : Int) + (m.blocks.length : Int) + (m.pend.length : Int) + tq
 ·have d1 : decide ((250 : Int) < (m.frames.length : Int) + (m.procs.length : Int) + (m.pipes.length : Int) + (m.dirty.length : Int) + (m.blocks.length : Int) + (m.pend.length : Int) + tq) = true:=decide_eq_true h1;clear h1;go_wp2_with fail;go_ret;exact ONE _ HW.out
 have d1 : decide ((250 : Int) < (m.frames.length : Int) + (m.procs.length : Int) + (m.pipes.length : Int) + (m.dirty.length : Int) + (m.blocks.length : Int) + (m.pend.length : Int) + tq) = false:=decide_eq_false h1;have hpd : Hid (m.pend.length ≤ 250):=jj (by omega);by_cases h2 : 12 < m.procs.length
 ·have d2 : decide ((12 : Int) < (m.procs.length : Int)) = true:=decide_eq_true (by omega);have d2' : decide (12 < m.procs.length) = true:=decide_eq_true h2;clear h1 h2;go_wp2_with fail;go_ret;exact ONE _ HW.out
 have d2 : decide ((12 : Int) < (m.procs.length : Int)) = false:=decide_eq_false (by omega);have d2' : decide (12 < m.procs.length) = false:=decide_eq_false h2;clear h1 h2 htq0;have hgw : gx ≤ w1.heap.size:=Nat.le_of_lt hgl;have HX2:=jj (Whole.made w1 23 #[.slice a.F m.frames.length a.cF,.slice a.L m.blocks.length a.cL]);have HV2:=jj (HW.out.alloc hgw (.cells #[.slice a.F m.frames.length a.cF,.slice a.L m.blocks.length a.cL] 23));have hg2 : w1.heap.size < (w1.alloc (.cells #[.slice a.F m.frames.length a.cF,.slice a.L m.blocks.length a.cL] 23)).heap.size:=HX2.out.lt;replace HS0:=jj (HS0.out.block (.cells #[.slice a.F m.frames.length a.cF,.slice a.L m.blocks.length a.cL] 23));go_wp2_with fail;clear d1 d2 d2' m4 m5 m13 m14 m16 m8;generalize w1.alloc (.cells #[.slice a.F m.frames.length a.cF,.slice a.L m.blocks.length a.cL] 23) = w2 at *;generalize w1.heap.size = g2 at *
 go_loopw [63] (fun kv wr => (∃ k : Nat,k ≤ 2 ∧ kv = .int .i64 (k : Int)) ∧ wr = w2) (fun kv _ => 2 - (intOf kv).toNat)
 case atStart => exact ⟨⟨0,by omega,rfl⟩,rfl⟩
 case round =>
  obtain ⟨⟨k,hk,rfl⟩,hwr⟩:=hrel;subst hwr;by_cases hlt : k < 2
  ·obtain ⟨A,c,ls,hcell,hls,hbl⟩ : ∃ (A : Option Addr) (c : Nat) (ls : List (List UInt8)),wr.cell? ⟨g2,k,none⟩ = some (.slice A ls.length c) ∧ Strs wr gx A ls ∧ ls.length ≤ 1048576:=by
    rcases (show k = 0 ∨ k = 1 by omega) with rfl | rfl
    ·exact ⟨a.F,a.cF,m.frames,HX2.out.cell 0,Lies.below HA.out.F HV2.out,b1⟩
    ·exact ⟨a.L,a.cL,m.blocks,HX2.out.cell 1,Lies.below HA.out.L HV2.out,b5⟩
   have HLS:=jj hls;have k0 : (0 : Int) ≤ (k : Int):=(by omega);have k1 : (k : Int) < 2:=(by omega);have e1 : decide ((k : Int) < 2) = true:=decide_eq_true k1;have e2 : decide (k < 2) = true:=decide_eq_true hlt;clear hls;go_wp2_with fail;clear hcell e1 e2
   go_loopw [69] (fun jv wq => (∃ j : Nat,j ≤ ls.length ∧ jv = .int .i64 (j : Int)) ∧ wq = wr) (fun jv _ => ls.length - (intOf jv).toNat)
   case atStart => exact ⟨⟨0,by omega,rfl⟩,rfl⟩
   case round =>
    obtain ⟨⟨j,hj,rfl⟩,hwq⟩:=hrel;subst hwq;by_cases hlj : j < ls.length
    ·obtain ⟨t,ht⟩:=dget_some hlj;obtain ⟨ad,rfl,had,hc⟩:=HLS.out j (S t) (by rw [List.getElem?_map,ht];rfl);have j0 : (0 : Int) ≤ (j : Int):=(by omega);have j1 : (j : Int) < (ls.length : Int):=(by omega);clear ht had;by_cases h3 : 300 < t.length
     ·have e3 : decide ((300 : Int) < (t.length : Int)) = true:=decide_eq_true (by omega);have e3' : decide (300 < t.length) = true:=decide_eq_true h3;clear h3;go_wp2_with fail;go_ret;exact ONE _ HV2.out
     ·have e3 : decide ((300 : Int) < (t.length : Int)) = false:=decide_eq_false (by omega);have e3' : decide (300 < t.length) = false:=decide_eq_false h3;clear h3;go_wp2_with fail
      go_roundw
      case rel =>
       have R : (∃ j' : Nat,j' ≤ ls.length ∧ Value.int .i64 ((j : Int) + 1) = .int .i64 (j' : Int)) ∧ wr = wr:=⟨⟨j + 1,by omega,by go_num⟩,rfl⟩
       first | exact R | ((repeat apply Exists.intro);exact ⟨R,rfl⟩) | ((repeat apply Exists.intro);exact ⟨R.1,trivial⟩)
      case measure => simp [intOf];omega
    ·obtain rfl : j = ls.length:=(by omega);have hd : decide (ls.length < ls.length) = false:=(by simp);go_wp2_with fail
     go_roundw
     case rel =>
      have R : (∃ k' : Nat,k' ≤ 2 ∧ Value.int .i64 ((k : Int) + 1) = .int .i64 (k' : Int)) ∧ wr = wr:=⟨⟨k + 1,by omega,by go_num⟩,rfl⟩
      first | exact R | ((repeat apply Exists.intro);exact ⟨R,rfl⟩) | ((repeat apply Exists.intro);exact ⟨R.1,trivial⟩)
     case measure => simp [intOf];omega
  ·obtain rfl : k = 2:=(by omega);have m13 : wr.cell? ⟨gx,13,none⟩ = some (.slice a.L m.blocks.length a.cL):=HS0.out.cell 13;have m14 : wr.cell? ⟨gx,14,none⟩ = some (.slice a.N m.pend.length a.cN):=HS0.out.cell 14;have m16 : wr.cell? ⟨gx,16,none⟩ = some (.slice a.D m.dirty.length a.cD):=HS0.out.cell 16;go_wp2_with fail;have HX3:=jj (Whole.made wr 26 #[.slice a.D m.dirty.length a.cD,.slice a.N m.pend.length a.cN]);have HVX:=jj (HV2.out.alloc (by omega) (.cells #[.slice a.D m.dirty.length a.cD,.slice a.N m.pend.length a.cN] 26));have hg3 : wr.heap.size < (wr.alloc (.cells #[.slice a.D m.dirty.length a.cD,.slice a.N m.pend.length a.cN] 26)).heap.size:=HX3.out.lt;replace HS0:=jj (HS0.out.block (.cells #[.slice a.D m.dirty.length a.cD,.slice a.N m.pend.length a.cN] 26));clear m13 m14 m16 HV2 HX2 HW;generalize wr.alloc (.cells #[.slice a.D m.dirty.length a.cD,.slice a.N m.pend.length a.cN] 26) = w3 at *;generalize wr.heap.size = g3 at *
   go_loopw [85] (fun kv wq => (∃ k : Nat,k ≤ 2 ∧ kv = .int .i64 (k : Int)) ∧ Hid (Below w3.heap.size w3 wq)) (fun kv _ => 2 - (intOf kv).toNat)
   case atStart => exact ⟨⟨0,by omega,rfl⟩,jj (Below.refl _ _)⟩
   case round =>
    obtain ⟨⟨k,hk,rfl⟩,HK⟩:=hrel;by_cases hlt : k < 2
    ·obtain ⟨A,c,ls,hcell,hls,hbl⟩ : ∃ (A : Option Addr) (c : Nat) (ls : List Nb),wr.cell? ⟨g3,k,none⟩ = some (.slice A ls.length c) ∧ Lies w3 gx A (nbCells ls) ∧ ls.length ≤ 1048576:=by
      rcases (show k = 0 ∨ k = 1 by omega) with rfl | rfl
      ·exact ⟨a.D,a.cD,m.dirty,(HK.out.cell (p:=⟨g3,0,none⟩) hg3).trans (HX3.out.cell 0),HA.out.D.below HVX.out,b4⟩
      ·exact ⟨a.N,a.cN,m.pend,(HK.out.cell (p:=⟨g3,1,none⟩) hg3).trans (HX3.out.cell 1),HA.out.N.below HVX.out,b6⟩
     have HLS:=jj hls;have k0 : (0 : Int) ≤ (k : Int):=(by omega);have k1 : (k : Int) < 2:=(by omega);have e1 : decide ((k : Int) < 2) = true:=decide_eq_true k1;have e2 : decide (k < 2) = true:=decide_eq_true hlt;clear hls;go_wp2_with fail;clear hcell e1 e2
     go_loopw [91] (fun jv wq => (∃ j : Nat,j ≤ ls.length ∧ jv = .int .i64 (j : Int)) ∧ Hid (Below w3.heap.size w3 wq)) (fun jv _ => ls.length - (intOf jv).toNat)
     case atStart => exact ⟨⟨0,by omega,rfl⟩,HK⟩
     case round =>
      clear HK;obtain ⟨⟨j,hj,rfl⟩,HQ⟩:=hrel;by_cases hlj : j < ls.length
      ·have hwb : gx ≤ w3.heap.size:=(by omega);obtain ⟨t,ht⟩:=dget_some hlj;obtain ⟨ad,rfl,had,hc⟩:=Lies.row (f:=nbCells1) (n:=2) HLS.out (fun _ _ => rfl) (by omega) ht;have LD : Hid (∀ i v,(nbCells1 t)[i]? = some v → wr.cell? ((ad.add (j * 2)).add i) = some v):=jj fun i v hv => (HQ.out.cell (by rw [add_block,add_block];have:=hwb;omega)).trans (hc i v hv);have PIX : Hid ((Tryz.prog.info? 66).map (·.size) = some (nbCells1 t).length):=jj (by kernel_rfl);have PIZ : Hid ((Tryz.prog.info? 66).map (fun i => (i.zero,i.size)) = some (some (.agg #[.int .i64 0,.string ⟨#[]⟩]),(nbCells1 t).length)):=jj (by kernel_rfl);have HY1 : Hid (∀ v ∈ nbCells1 t,v.oneCell' = true):=jj (fun v hv => nbCells_one [t] v (by simpa [nbCells] using hv));have HY:=jj (Whole.made wr 66 (nbCells1 t).toArray);have HQ2:=jj (HQ.out.alloc HQ.out.size (.cells (nbCells1 t).toArray 66));have j0 : (0 : Int) ≤ (j : Int):=(by omega);have j1 : (j : Int) < (ls.length : Int):=(by omega);clear ht had hc HQ
       go_upto_region 20 with (first
        | (refine wpList_load_at rfl 66 (.tmp 93) rfl (ad.add (j * 2)) rfl (nbCells1 t) _ LD.out Tryz.underlying66 rfl PIX.out ?_)
        | (refine wpList_fresh rfl rfl 66 11 (.tmp 94) rfl rfl rfl rfl (nbCells1 t) rfl rfl _ PIZ.out rfl HY1.out ?_))
       change Code.wp _ _ _ _ (wr.alloc (.cells (nbCells1 t).toArray 66));clear LD PIX PIZ HY1;generalize wr.alloc (.cells (nbCells1 t).toArray 66) = w9 at *;generalize wr.heap.size = b9 at *;have y1 : w9.cell? ⟨b9,1,none⟩ = some (S t.2):=HY.out.cell 1;have HQ9:=HQ2;clear HQ2;by_cases h3 : 300 < t.2.length
       ·have e3 : decide ((300 : Int) < (t.2.length : Int)) = true:=decide_eq_true (by omega);have e3' : decide (300 < t.2.length) = true:=decide_eq_true h3;clear h3;go_wp2_with fail;go_ret;exact ONE _ (HVX.out.trans (HQ9.out.mono (by omega)))
       ·have e3 : decide ((300 : Int) < (t.2.length : Int)) = false:=decide_eq_false (by omega);have e3' : decide (300 < t.2.length) = false:=decide_eq_false h3;clear h3;go_wp2_with fail
        go_roundw
        case rel =>
         have R : (∃ j' : Nat,j' ≤ ls.length ∧ Value.int .i64 ((j : Int) + 1) = .int .i64 (j' : Int)) ∧ Hid (Below w3.heap.size w3 w9):=⟨⟨j + 1,by omega,by go_num⟩,HQ9⟩
         first | exact R | ((repeat apply Exists.intro);exact ⟨R,rfl⟩)
        case measure => simp [intOf];omega
      ·obtain rfl : j = ls.length:=(by omega);have hd : decide (ls.length < ls.length) = false:=(by simp);go_wp2_with fail
       go_roundw
       case rel =>
        have R : (∃ k' : Nat,k' ≤ 2 ∧ Value.int .i64 ((k : Int) + 1) = .int .i64 (k' : Int)) ∧ Hid (Below w3.heap.size w3 wr):=⟨⟨k + 1,by omega,by go_num⟩,HQ⟩
        first | exact R | ((repeat apply Exists.intro);exact ⟨R,rfl⟩)
       case measure => simp [intOf];omega
    ·obtain rfl : k = 2:=(by omega);have m8 : wr.cell? ⟨gx,8,none⟩ = some (.slice a.Q m.pipes.length a.cQ):=(HK.out.cell (p:=⟨gx,8,none⟩) (by show gx < w3.heap.size;omega)).trans (HS0.out.cell 8);have hls:=HA.out.Q.below HVX.out;obtain ⟨AQ,hAQ⟩ : ∃ z,a.Q = z:=⟨_,rfl⟩;rw [hAQ] at m8 hls;have HLS:=jj hls;clear hls hAQ;go_wp2_with fail;clear m8
     go_loopw [104] (fun jv wq => (∃ j : Nat,j ≤ m.pipes.length ∧ jv = .int .i64 (j : Int)) ∧ Hid (Below w3.heap.size w3 wq)) (fun jv _ => m.pipes.length - (intOf jv).toNat)
     case atStart => exact ⟨⟨0,by omega,rfl⟩,HK⟩
     case round =>
      clear HK;obtain ⟨⟨j,hj,rfl⟩,HQ⟩:=hrel;by_cases hlj : j < m.pipes.length
      ·have hwb : gx ≤ w3.heap.size:=(by omega);obtain ⟨t,ht⟩:=dget_some hlj;obtain ⟨ad,rfl,had,hc⟩:=Lies.row (f:=nbCells1) (n:=2) HLS.out (fun _ _ => rfl) (by omega) ht;have LD : Hid (∀ i v,(nbCells1 t)[i]? = some v → wr.cell? ((ad.add (j * 2)).add i) = some v):=jj fun i v hv => (HQ.out.cell (by rw [add_block,add_block];have:=hwb;omega)).trans (hc i v hv);have PIX : Hid ((Tryz.prog.info? 72).map (·.size) = some (nbCells1 t).length):=jj (by kernel_rfl);have PIZ : Hid ((Tryz.prog.info? 72).map (fun i => (i.zero,i.size)) = some (some (.agg #[.int .i64 0,.string ⟨#[]⟩]),(nbCells1 t).length)):=jj (by kernel_rfl);have HY1 : Hid (∀ v ∈ nbCells1 t,v.oneCell' = true):=jj (fun v hv => nbCells_one [t] v (by simpa [nbCells] using hv));have HY:=jj (Whole.made wr 72 (nbCells1 t).toArray);have HQ2:=jj (HQ.out.alloc HQ.out.size (.cells (nbCells1 t).toArray 72));have j0 : (0 : Int) ≤ (j : Int):=(by omega);have j1 : (j : Int) < (m.pipes.length : Int):=(by omega);clear ht had hc HQ
       go_upto_region 27 with (first
        | (refine wpList_load_at rfl 72 (.tmp 106) rfl (ad.add (j * 2)) rfl (nbCells1 t) _ LD.out Tryz.underlying72 rfl PIX.out ?_)
        | (refine wpList_fresh rfl rfl 72 13 (.tmp 107) rfl rfl rfl rfl (nbCells1 t) rfl rfl _ PIZ.out rfl HY1.out ?_))
       change Code.wp _ _ _ _ (wr.alloc (.cells (nbCells1 t).toArray 72));clear LD PIX PIZ HY1;generalize wr.alloc (.cells (nbCells1 t).toArray 72) = w9 at *;generalize wr.heap.size = b9 at *;have y1 : w9.cell? ⟨b9,1,none⟩ = some (S t.2):=HY.out.cell 1;have HQ9:=HQ2;clear HQ2;by_cases h3 : 300 < t.2.length
       ·have e3 : decide ((300 : Int) < (t.2.length : Int)) = true:=decide_eq_true (by omega);have e3' : decide (300 < t.2.length) = true:=decide_eq_true h3;clear h3;go_wp2_with fail;go_ret;exact ONE _ (HVX.out.trans (HQ9.out.mono (by omega)))
       ·have e3 : decide ((300 : Int) < (t.2.length : Int)) = false:=decide_eq_false (by omega);have e3' : decide (300 < t.2.length) = false:=decide_eq_false h3;clear h3;go_wp2_with fail
        go_roundw
        case rel =>
         have R : (∃ j' : Nat,j' ≤ m.pipes.length ∧ Value.int .i64 ((j : Int) + 1) = .int .i64 (j' : Int)) ∧ Hid (Below w3.heap.size w3 w9):=⟨⟨j + 1,by omega,by go_num⟩,HQ9⟩
         first | exact R | ((repeat apply Exists.intro);exact ⟨R,rfl⟩)
        case measure => simp [intOf];omega
      ·obtain rfl : j = m.pipes.length:=(by omega);have hd : decide (m.pipes.length < m.pipes.length) = false:=(by simp);go_wp2_with fail;go_ret;exact ⟨.inr ⟨rfl,hpd.out⟩,by rw [HGX.out];exact HVX.out.trans (HQ.out.mono (by omega))⟩
end Go.Proofs.YtdkhnjjihbmlmaaGreatDoor
