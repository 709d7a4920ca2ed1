import Derived.Test.YtnbphabheikfeaaGreatDoorDsA
import Derived.Great.BuildSlice
import Derived.Test.YtnbphabheikfeaaGreatDoorDtDG
import Derived.Test.YtnbphabheikfeaaGreatDoorCopR
import Derived.Test.YtnbphabheikfeaaGreatDoorResF
import Derived.Test.YtnbphabheikfeaaGreatDoorDeltaZ
import Derived.Test.YtnbphabheikfeaaGreatDoorHashT
import Derived.Test.YtnbphabheikfeaaGreatDoorDecX
import Derived.Test.YtnbphabheikfeaaGreatDoorRows
import Derived.Lib.SmallJoins
import Derived.Lib.LaidTab
namespace Go.Proofs.YtnbphabheikfeaaGreatDoor
open Go.RowKit
def Gr25 (w : World) (m : Mc) (e : Ending) (w' : World) : Prop:=(e = .returned (.int .i64 1) ∨ (e = .returned (.int .i64 0) ∧ m.pend.length ≤ 250)) ∧ Below w.heap.size w w'
set_option maxRecDepth 100000 in
set_option maxHeartbeats 2000000 in
theorem great25_any (w : World) (a : MA) (m : Mc) (hb : m.frames.length ≤ 1048576 ∧ m.procs.length ≤ 1048576 ∧ m.pipes.length ≤ 1048576 ∧ m.dirty.length ≤ 1048576 ∧ m.blocks.length ≤ 1048576 ∧ m.pend.length ≤ 1048576 ∧ m.inp.length ≤ 1048576 ∧ m.init.length ≤ 1048576) (hA : MAt w w.heap.size a m) :
  Calls Tryz.prog 4 #[.agg (mcL a m).toArray] w (Gr25 w m):=by
 have hs0:=Whole.made w 30 (mcL a m).toArray;have hb : Below w.heap.size w (w.alloc (.cells (mcL a m).toArray 30)):=(Below.refl _ _).alloc (Nat.le_refl _) _;go_enter Tryz.func4,Tryz.ntmps4;go_upto_region 1 with (fail);change Code.wp _ _ _ _ (w.alloc (.cells (mcL a m).toArray 30));generalize (w.alloc (.cells (mcL a m).toArray 30)) = w1 at *;generalize hgx : w.heap.size = gx at *;have HGX:=jj hgx;have HS0:=jj hs0;have HW:=jj hb;have hgl : gx < w1.heap.size:=hs0.lt;clear hgx hb hs0;obtain ⟨b1,b2,b3,b4,b5,b6,b7,b8⟩:=hb;have HA:=jj hA;have m4 : w1.cell? ⟨gx,4,none⟩ = some (.slice a.F m.frames.length a.cF):=HS0.out.cell 4;have m5 : w1.cell? ⟨gx,5,none⟩ = some (.slice a.P m.procs.length a.cP):=HS0.out.cell 5;have m7 : w1.cell? ⟨gx,7,none⟩ = some (S m.init):=HS0.out.cell 7;have m8 : w1.cell? ⟨gx,8,none⟩ = some (.slice a.Q m.pipes.length a.cQ):=HS0.out.cell 8;have m10 : w1.cell? ⟨gx,10,none⟩ = some (S m.inp):=HS0.out.cell 10;have m13 : w1.cell? ⟨gx,13,none⟩ = some (.slice a.L m.blocks.length a.cL):=HS0.out.cell 13;have m14 : w1.cell? ⟨gx,14,none⟩ = some (.slice a.N m.pend.length a.cN):=HS0.out.cell 14;have m16 : w1.cell? ⟨gx,16,none⟩ = some (.slice a.D m.dirty.length a.cD):=HS0.out.cell 16;have v1 : IntKind.i64.wrap ((m.frames.length : Int) + (m.procs.length : Int)) = (m.frames.length : Int) + (m.procs.length : Int):=(by rw [IntKind.wrap_i64];omega);have v2 : IntKind.i64.wrap ((m.frames.length : Int) + (m.procs.length : Int) + (m.pipes.length : Int)) = (m.frames.length : Int) + (m.procs.length : Int) + (m.pipes.length : Int):=(by rw [IntKind.wrap_i64];omega);have v3 : IntKind.i64.wrap ((m.frames.length : Int) + (m.procs.length : Int) + (m.pipes.length : Int) + (m.dirty.length : Int)) = (m.frames.length : Int) + (m.procs.length : Int) + (m.pipes.length : Int) + (m.dirty.length : Int):=(by rw [IntKind.wrap_i64];omega);have v4 : IntKind.i64.wrap ((m.frames.length : Int) + (m.procs.length : Int) + (m.pipes.length : Int) + (m.dirty.length : Int) + (m.blocks.length : Int)) = (m.frames.length : Int) + (m.procs.length : Int) + (m.pipes.length : Int) + (m.dirty.length : Int) + (m.blocks.length : Int):=(by rw [IntKind.wrap_i64];omega);have v5 : IntKind.i64.wrap ((m.frames.length : Int) + (m.procs.length : Int) + (m.pipes.length : Int) + (m.dirty.length : Int) + (m.blocks.length : Int) + (m.pend.length : Int)) = (m.frames.length : Int) + (m.procs.length : Int) + (m.pipes.length : Int) + (m.dirty.length : Int) + (m.blocks.length : Int) + (m.pend.length : Int):=(by rw [IntKind.wrap_i64];omega)
 have v6 : IntKind.i64.wrap ((m.inp.length : Int) + (m.init.length : Int)) = (m.inp.length : Int) + (m.init.length : Int):=(by rw [IntKind.wrap_i64];omega);obtain ⟨tq,htq⟩ : ∃ t,((m.inp.length : Int) + (m.init.length : Int)).tdiv 64 = t:=⟨_,rfl⟩;have htq0 : 0 ≤ tq ∧ tq ≤ 67108864:=(by rw [← htq,Int.tdiv_eq_ediv_of_nonneg (by omega)];omega);clear hA;go_upto_region 2 with fail
 have ONE : ∀ wr : World,Below gx w wr → Gr25 w m (.returned (.int .i64 1)) wr:=fun wr h => ⟨.inl rfl,by rw [HGX.out];exact h⟩;clear v1 v2 v3 v4 v5 v6 htq m7 m10;by_cases h1 : (250 : Int) < (m.frames.length : Int) + (m.procs.length : Int) + (m.pipes.length : Int) + (m.dirty.length : Int) + (m.blocks.length : Int) + (m.pend.length : Int) + tq
 ·have d1 : decide ((250 : Int) < (m.frames.length : Int) + (m.procs.length : Int) + (m.pipes.length : Int) + (m.dirty.length : Int) + (m.blocks.length : Int) + (m.pend.length : Int) + tq) = true:=decide_eq_true h1;clear h1;go_wp2_with fail;go_ret;exact ONE _ HW.out
 have d1 : decide ((250 : Int) < (m.frames.length : Int) + (m.procs.length : Int) + (m.pipes.length : Int) + (m.dirty.length : Int) + (m.blocks.length : Int) + (m.pend.length : Int) + tq) = false:=decide_eq_false h1;have hpd : Hid (m.pend.length ≤ 250):=jj (by omega);by_cases h2 : 12 < m.procs.length
 ·have d2 : decide ((12 : Int) < (m.procs.length : Int)) = true:=decide_eq_true (by omega);have d2' : decide (12 < m.procs.length) = true:=decide_eq_true h2;clear h1 h2;go_wp2_with fail;go_ret;exact ONE _ HW.out
 have d2 : decide ((12 : Int) < (m.procs.length : Int)) = false:=decide_eq_false (by omega);have d2' : decide (12 < m.procs.length) = false:=decide_eq_false h2;clear h1 h2 htq0;have hgw : gx ≤ w1.heap.size:=Nat.le_of_lt hgl;have HX2:=jj (Whole.made w1 23 #[.slice a.F m.frames.length a.cF,.slice a.L m.blocks.length a.cL]);have HV2:=jj (HW.out.alloc hgw (.cells #[.slice a.F m.frames.length a.cF,.slice a.L m.blocks.length a.cL] 23));have hg2 : w1.heap.size < (w1.alloc (.cells #[.slice a.F m.frames.length a.cF,.slice a.L m.blocks.length a.cL] 23)).heap.size:=HX2.out.lt;replace HS0:=jj (HS0.out.block (.cells #[.slice a.F m.frames.length a.cF,.slice a.L m.blocks.length a.cL] 23));go_wp2_with fail;clear d1 d2 d2' m4 m5 m13 m14 m16 m8;generalize w1.alloc (.cells #[.slice a.F m.frames.length a.cF,.slice a.L m.blocks.length a.cL] 23) = w2 at *;generalize w1.heap.size = g2 at *
 go_loopw [63] (fun kv wr => (∃ k : Nat,k ≤ 2 ∧ kv = .int .i64 (k : Int)) ∧ wr = w2) (fun kv _ => 2 - (intOf kv).toNat)
 case atStart => exact ⟨⟨0,by omega,rfl⟩,rfl⟩
 case round =>
  obtain ⟨⟨k,hk,rfl⟩,hwr⟩:=hrel;subst hwr;by_cases hlt : k < 2
  ·obtain ⟨A,c,ls,hcell,hls,hbl⟩ : ∃ (A : Option Addr) (c : Nat) (ls : List (List UInt8)),wr.cell? ⟨g2,k,none⟩ = some (.slice A ls.length c) ∧ Strs wr gx A ls ∧ ls.length ≤ 1048576:=by
    rcases (show k = 0 ∨ k = 1 by omega) with rfl | rfl
    ·exact ⟨a.F,a.cF,m.frames,HX2.out.cell 0,Lies.below HA.out.F HV2.out,b1⟩
    ·exact ⟨a.L,a.cL,m.blocks,HX2.out.cell 1,Lies.below HA.out.L HV2.out,b5⟩
   have HLS:=jj hls;have k0 : (0 : Int) ≤ (k : Int):=(by omega);have k1 : (k : Int) < 2:=(by omega);have e1 : decide ((k : Int) < 2) = true:=decide_eq_true k1;have e2 : decide (k < 2) = true:=decide_eq_true hlt;clear hls;go_wp2_with fail;clear hcell e1 e2
   go_loopw [69] (fun jv wq => (∃ j : Nat,j ≤ ls.length ∧ jv = .int .i64 (j : Int)) ∧ wq = wr) (fun jv _ => ls.length - (intOf jv).toNat)
   case atStart => exact ⟨⟨0,by omega,rfl⟩,rfl⟩
   case round =>
    obtain ⟨⟨j,hj,rfl⟩,hwq⟩:=hrel;subst hwq;by_cases hlj : j < ls.length
    ·obtain ⟨t,ht⟩:=dget_some hlj;obtain ⟨ad,rfl,had,hc⟩:=HLS.out j (S t) (by rw [List.getElem?_map,ht];rfl);have j0 : (0 : Int) ≤ (j : Int):=(by omega);have j1 : (j : Int) < (ls.length : Int):=(by omega);clear ht had;by_cases h3 : 300 < t.length
     ·have e3 : decide ((300 : Int) < (t.length : Int)) = true:=decide_eq_true (by omega);have e3' : decide (300 < t.length) = true:=decide_eq_true h3;clear h3;go_wp2_with fail;go_ret;exact ONE _ HV2.out
     ·have e3 : decide ((300 : Int) < (t.length : Int)) = false:=decide_eq_false (by omega);have e3' : decide (300 < t.length) = false:=decide_eq_false h3;clear h3;go_wp2_with fail
      go_roundw
      case rel =>
       have R : (∃ j' : Nat,j' ≤ ls.length ∧ Value.int .i64 ((j : Int) + 1) = .int .i64 (j' : Int)) ∧ wr = wr:=⟨⟨j + 1,by omega,by go_num⟩,rfl⟩
       first | exact R | ((repeat apply Exists.intro);exact ⟨R,rfl⟩) | ((repeat apply Exists.intro);exact ⟨R.1,trivial⟩)
      case measure => simp [intOf];omega
    ·obtain rfl : j = ls.length:=(by omega);have hd : decide (ls.length < ls.length) = false:=(by simp);go_wp2_with fail
     go_roundw
     case rel =>
      have R : (∃ k' : Nat,k' ≤ 2 ∧ Value.int .i64 ((k : Int) + 1) = .int .i64 (k' : Int)) ∧ wr = wr:=⟨⟨k + 1,by omega,by go_num⟩,rfl⟩
      first | exact R | ((repeat apply Exists.intro);exact ⟨R,rfl⟩) | ((repeat apply Exists.intro);exact ⟨R.1,trivial⟩)
     case measure => simp [intOf];omega
  ·obtain rfl : k = 2:=(by omega);have m13 : wr.cell? ⟨gx,13,none⟩ = some (.slice a.L m.blocks.length a.cL):=HS0.out.cell 13;have m14 : wr.cell? ⟨gx,14,none⟩ = some (.slice a.N m.pend.length a.cN):=HS0.out.cell 14;have m16 : wr.cell? ⟨gx,16,none⟩ = some (.slice a.D m.dirty.length a.cD):=HS0.out.cell 16;go_wp2_with fail;have HX3:=jj (Whole.made wr 26 #[.slice a.D m.dirty.length a.cD,.slice a.N m.pend.length a.cN]);have HVX:=jj (HV2.out.alloc (by omega) (.cells #[.slice a.D m.dirty.length a.cD,.slice a.N m.pend.length a.cN] 26));have hg3 : wr.heap.size < (wr.alloc (.cells #[.slice a.D m.dirty.length a.cD,.slice a.N m.pend.length a.cN] 26)).heap.size:=HX3.out.lt;replace HS0:=jj (HS0.out.block (.cells #[.slice a.D m.dirty.length a.cD,.slice a.N m.pend.length a.cN] 26));clear m13 m14 m16 HV2 HX2 HW;generalize wr.alloc (.cells #[.slice a.D m.dirty.length a.cD,.slice a.N m.pend.length a.cN] 26) = w3 at *;generalize wr.heap.size = g3 at *
   go_loopw [85] (fun kv wq => (∃ k : Nat,k ≤ 2 ∧ kv = .int .i64 (k : Int)) ∧ Hid (Below w3.heap.size w3 wq)) (fun kv _ => 2 - (intOf kv).toNat)
   case atStart => exact ⟨⟨0,by omega,rfl⟩,jj (Below.refl _ _)⟩
   case round =>
    obtain ⟨⟨k,hk,rfl⟩,HK⟩:=hrel;by_cases hlt : k < 2
    ·obtain ⟨A,c,ls,hcell,hls,hbl⟩ : ∃ (A : Option Addr) (c : Nat) (ls : List Nb),wr.cell? ⟨g3,k,none⟩ = some (.slice A ls.length c) ∧ Lies w3 gx A (nbCells ls) ∧ ls.length ≤ 1048576:=by
      rcases (show k = 0 ∨ k = 1 by omega) with rfl | rfl
      ·exact ⟨a.D,a.cD,m.dirty,(HK.out.cell (p:=⟨g3,0,none⟩) hg3).trans (HX3.out.cell 0),HA.out.D.below HVX.out,b4⟩
      ·exact ⟨a.N,a.cN,m.pend,(HK.out.cell (p:=⟨g3,1,none⟩) hg3).trans (HX3.out.cell 1),HA.out.N.below HVX.out,b6⟩
     have HLS:=jj hls;have k0 : (0 : Int) ≤ (k : Int):=(by omega);have k1 : (k : Int) < 2:=(by omega);have e1 : decide ((k : Int) < 2) = true:=decide_eq_true k1;have e2 : decide (k < 2) = true:=decide_eq_true hlt;clear hls;go_wp2_with fail;clear hcell e1 e2
     go_loopw [91] (fun jv wq => (∃ j : Nat,j ≤ ls.length ∧ jv = .int .i64 (j : Int)) ∧ Hid (Below w3.heap.size w3 wq)) (fun jv _ => ls.length - (intOf jv).toNat)
     case atStart => exact ⟨⟨0,by omega,rfl⟩,HK⟩
     case round =>
      clear HK;obtain ⟨⟨j,hj,rfl⟩,HQ⟩:=hrel;by_cases hlj : j < ls.length
      ·have hwb : gx ≤ w3.heap.size:=(by omega);obtain ⟨t,ht⟩:=dget_some hlj;obtain ⟨ad,rfl,had,hc⟩:=Lies.row (f:=nbCells1) (n:=2) HLS.out (fun _ _ => rfl) (by omega) ht;have LD : Hid (∀ i v,(nbCells1 t)[i]? = some v → wr.cell? ((ad.add (j * 2)).add i) = some v):=jj fun i v hv => (HQ.out.cell (by rw [add_block,add_block];have:=hwb;omega)).trans (hc i v hv);have PIX : Hid ((Tryz.prog.info? 49).map (·.size) = some (nbCells1 t).length):=jj (by kernel_rfl);have PIZ : Hid ((Tryz.prog.info? 49).map (fun i => (i.zero,i.size)) = some (some (.agg #[.int .i64 0,.string ⟨#[]⟩]),(nbCells1 t).length)):=jj (by kernel_rfl);have HY1 : Hid (∀ v ∈ nbCells1 t,v.oneCell' = true):=jj (fun v hv => nbCells_one [t] v (by simpa [nbCells] using hv));have HY:=jj (Whole.made wr 49 (nbCells1 t).toArray);have HQ2:=jj (HQ.out.alloc HQ.out.size (.cells (nbCells1 t).toArray 49));have j0 : (0 : Int) ≤ (j : Int):=(by omega);have j1 : (j : Int) < (ls.length : Int):=(by omega);clear ht had hc HQ
       go_upto_region 20 with (first
        | (refine wpList_load_at rfl 49 (.tmp 93) rfl (ad.add (j * 2)) rfl (nbCells1 t) _ LD.out Tryz.underlying49 rfl PIX.out ?_)
        | (refine wpList_fresh rfl rfl 49 11 (.tmp 94) rfl rfl rfl rfl (nbCells1 t) rfl rfl _ PIZ.out rfl HY1.out ?_))
       change Code.wp _ _ _ _ (wr.alloc (.cells (nbCells1 t).toArray 49));clear LD PIX PIZ HY1;generalize wr.alloc (.cells (nbCells1 t).toArray 49) = w9 at *;generalize wr.heap.size = b9 at *;have y1 : w9.cell? ⟨b9,1,none⟩ = some (S t.2):=HY.out.cell 1;have HQ9:=HQ2;clear HQ2;by_cases h3 : 300 < t.2.length
       ·have e3 : decide ((300 : Int) < (t.2.length : Int)) = true:=decide_eq_true (by omega);have e3' : decide (300 < t.2.length) = true:=decide_eq_true h3;clear h3;go_wp2_with fail;go_ret;exact ONE _ (HVX.out.trans (HQ9.out.mono (by omega)))
       ·have e3 : decide ((300 : Int) < (t.2.length : Int)) = false:=decide_eq_false (by omega);have e3' : decide (300 < t.2.length) = false:=decide_eq_false h3;clear h3;go_wp2_with fail
        go_roundw
        case rel =>
         have R : (∃ j' : Nat,j' ≤ ls.length ∧ Value.int .i64 ((j : Int) + 1) = .int .i64 (j' : Int)) ∧ Hid (Below w3.heap.size w3 w9):=⟨⟨j + 1,by omega,by go_num⟩,HQ9⟩
         first | exact R | ((repeat apply Exists.intro);exact ⟨R,rfl⟩)
        case measure => simp [intOf];omega
      ·obtain rfl : j = ls.length:=(by omega);have hd : decide (ls.length < ls.length) = false:=(by simp);go_wp2_with fail
       go_roundw
       case rel =>
        have R : (∃ k' : Nat,k' ≤ 2 ∧ Value.int .i64 ((k : Int) + 1) = .int .i64 (k' : Int)) ∧ Hid (Below w3.heap.size w3 wr):=⟨⟨k + 1,by omega,by go_num⟩,HQ⟩
        first | exact R | ((repeat apply Exists.intro);exact ⟨R,rfl⟩)
       case measure => simp [intOf];omega
    ·obtain rfl : k = 2:=(by omega);have m8 : wr.cell? ⟨gx,8,none⟩ = some (.slice a.Q m.pipes.length a.cQ):=(HK.out.cell (p:=⟨gx,8,none⟩) (by show gx < w3.heap.size;omega)).trans (HS0.out.cell 8);have hls:=HA.out.Q.below HVX.out;obtain ⟨AQ,hAQ⟩ : ∃ z,a.Q = z:=⟨_,rfl⟩;rw [hAQ] at m8 hls;have HLS:=jj hls;clear hls hAQ;go_wp2_with fail;clear m8
     go_loopw [104] (fun jv wq => (∃ j : Nat,j ≤ m.pipes.length ∧ jv = .int .i64 (j : Int)) ∧ Hid (Below w3.heap.size w3 wq)) (fun jv _ => m.pipes.length - (intOf jv).toNat)
     case atStart => exact ⟨⟨0,by omega,rfl⟩,HK⟩
     case round =>
      clear HK;obtain ⟨⟨j,hj,rfl⟩,HQ⟩:=hrel;by_cases hlj : j < m.pipes.length
      ·have hwb : gx ≤ w3.heap.size:=(by omega);obtain ⟨t,ht⟩:=dget_some hlj;obtain ⟨ad,rfl,had,hc⟩:=Lies.row (f:=nbCells1) (n:=2) HLS.out (fun _ _ => rfl) (by omega) ht;have LD : Hid (∀ i v,(nbCells1 t)[i]? = some v → wr.cell? ((ad.add (j * 2)).add i) = some v):=jj fun i v hv => (HQ.out.cell (by rw [add_block,add_block];have:=hwb;omega)).trans (hc i v hv);have PIX : Hid ((Tryz.prog.info? 51).map (·.size) = some (nbCells1 t).length):=jj (by kernel_rfl);have PIZ : Hid ((Tryz.prog.info? 51).map (fun i => (i.zero,i.size)) = some (some (.agg #[.int .i64 0,.string ⟨#[]⟩]),(nbCells1 t).length)):=jj (by kernel_rfl);have HY1 : Hid (∀ v ∈ nbCells1 t,v.oneCell' = true):=jj (fun v hv => nbCells_one [t] v (by simpa [nbCells] using hv));have HY:=jj (Whole.made wr 51 (nbCells1 t).toArray);have HQ2:=jj (HQ.out.alloc HQ.out.size (.cells (nbCells1 t).toArray 51));have j0 : (0 : Int) ≤ (j : Int):=(by omega);have j1 : (j : Int) < (m.pipes.length : Int):=(by omega);clear ht had hc HQ
       go_upto_region 27 with (first
        | (refine wpList_load_at rfl 51 (.tmp 106) rfl (ad.add (j * 2)) rfl (nbCells1 t) _ LD.out Tryz.underlying51 rfl PIX.out ?_)
        | (refine wpList_fresh rfl rfl 51 13 (.tmp 107) rfl rfl rfl rfl (nbCells1 t) rfl rfl _ PIZ.out rfl HY1.out ?_))
       change Code.wp _ _ _ _ (wr.alloc (.cells (nbCells1 t).toArray 51));clear LD PIX PIZ HY1;generalize wr.alloc (.cells (nbCells1 t).toArray 51) = w9 at *;generalize wr.heap.size = b9 at *;have y1 : w9.cell? ⟨b9,1,none⟩ = some (S t.2):=HY.out.cell 1;have HQ9:=HQ2;clear HQ2;by_cases h3 : 300 < t.2.length
       ·have e3 : decide ((300 : Int) < (t.2.length : Int)) = true:=decide_eq_true (by omega);have e3' : decide (300 < t.2.length) = true:=decide_eq_true h3;clear h3;go_wp2_with fail;go_ret;exact ONE _ (HVX.out.trans (HQ9.out.mono (by omega)))
       ·have e3 : decide ((300 : Int) < (t.2.length : Int)) = false:=decide_eq_false (by omega);have e3' : decide (300 < t.2.length) = false:=decide_eq_false h3;clear h3;go_wp2_with fail
        go_roundw
        case rel =>
         have R : (∃ j' : Nat,j' ≤ m.pipes.length ∧ Value.int .i64 ((j : Int) + 1) = .int .i64 (j' : Int)) ∧ Hid (Below w3.heap.size w3 w9):=⟨⟨j + 1,by omega,by go_num⟩,HQ9⟩
         first | exact R | ((repeat apply Exists.intro);exact ⟨R,rfl⟩)
        case measure => simp [intOf];omega
      ·obtain rfl : j = m.pipes.length:=(by omega);have hd : decide (m.pipes.length < m.pipes.length) = false:=(by simp);go_wp2_with fail;go_ret;exact ⟨.inr ⟨rfl,hpd.out⟩,by rw [HGX.out];exact HVX.out.trans (HQ.out.mono (by omega))⟩
end Go.Proofs.YtnbphabheikfeaaGreatDoor
namespace Go.Proofs.YtnbphabheikfeaaGreatDoor
open Go.RowKit
set_option maxRecDepth 100000 in
set_option maxHeartbeats 2000000 in
theorem mchStep_any (w : World) (a : MA) (m : Mc) (hm : McOk m) (hprl : m.procs.length ≤ 4294967296) (hpil : m.pipes.length ≤ 1099511627776) (hfs : m.frames.length ≤ 1099511627776) (hnc : callM m = false) (hWT : WTab w) (hA : MAt w w.heap.size a m) :
  Calls Tryz.prog 8 #[.agg (mcL a m).toArray] w (MStep w m):=by
 have hs0:=(Whole.made w 30 (mcL a m).toArray).block (.cells [.int .u64 0,.int .i64 0,.int .i64 0,.int .i64 0,.slice none 0 0,.slice none 0 0,.int .i64 0,S [],.slice none 0 0,.int .i64 0,S [],.bool false,.int .u64 0,.slice none 0 0,.slice none 0 0,.int .i64 0,.slice none 0 0].toArray 30);have hs1:=Whole.made (w.alloc (.cells (mcL a m).toArray 30)) 30 [.int .u64 0,.int .i64 0,.int .i64 0,.int .i64 0,.slice none 0 0,.slice none 0 0,.int .i64 0,S [],.slice none 0 0,.int .i64 0,S [],.bool false,.int .u64 0,.slice none 0 0,.slice none 0 0,.int .i64 0,.slice none 0 0].toArray;rw [show (w.alloc (.cells (mcL a m).toArray 30)).heap.size = w.heap.size + 1 by simp] at hs1;have hb : Below w.heap.size w ((w.alloc (.cells (mcL a m).toArray 30)).alloc (.cells [.int .u64 0,.int .i64 0,.int .i64 0,.int .i64 0,.slice none 0 0,.slice none 0 0,.int .i64 0,S [],.slice none 0 0,.int .i64 0,S [],.bool false,.int .u64 0,.slice none 0 0,.slice none 0 0,.int .i64 0,.slice none 0 0].toArray 30)):=((Below.refl _ _).alloc (by first | exact Nat.le_refl _ | simp | (simp;omega)) _).alloc (by first | exact Nat.le_refl _ | simp | (simp;omega)) _;go_enter Tryz.func8,Tryz.ntmps8;go_upto_region 1 with (fail);change Code.wp _ _ _ _ ((w.alloc (.cells (mcL a m).toArray 30)).alloc (.cells [.int .u64 0,.int .i64 0,.int .i64 0,.int .i64 0,.slice none 0 0,.slice none 0 0,.int .i64 0,S [],.slice none 0 0,.int .i64 0,S [],.bool false,.int .u64 0,.slice none 0 0,.slice none 0 0,.int .i64 0,.slice none 0 0].toArray 30));generalize ((w.alloc (.cells (mcL a m).toArray 30)).alloc (.cells [.int .u64 0,.int .i64 0,.int .i64 0,.int .i64 0,.slice none 0 0,.slice none 0 0,.int .i64 0,S [],.slice none 0 0,.int .i64 0,S [],.bool false,.int .u64 0,.slice none 0 0,.slice none 0 0,.int .i64 0,.slice none 0 0].toArray 30)) = w1 at *;generalize hgx : w.heap.size = gx at *;have HGX:=jj hgx;have HS0:=jj hs0;have HS1:=jj hs1;have HW:=jj hb;have hgl : gx + 1 < w1.heap.size:=hs1.lt;clear hgx hb hs0 hs1;have hgw : w.heap.size ≤ gx:=(by have:=HGX.out;omega);have CC:=jj (copied_any w1 a m hm hprl hpil ((hA.below HW.out).wide (by omega)));have HWT:=jj hWT;have MI1 : Hid ((Tryz.prog.info? 30).map (·.size) = some (mcL a m).length):=jj Tryz.sizeMc;have LM:=jj HS0.out.reads;clear hA hWT;go_wp2_with (refine wpList_load_at rfl 30 (.tmp 1) rfl ⟨gx,0,none⟩ rfl (mcL a m) _ LM.out Tryz.underlying30 rfl MI1.out ?_)
 refine CC.out.mono ?_;rintro e w3 ⟨⟨a1,rfl,ho,hc⟩,hb3⟩;have CS:=jj (mstep_any w3 a1 m hm hprl hpil hfs hnc (HWT.out.below hgw (HW.out.trans (hb3.mono (by omega)))) (ho.at hc));have HS3:=jj (HS1.out.below hb3 HS1.out.lt);have HW3:=jj (HW.out.trans (hb3.mono (by omega)));have hgl3 : gx + 1 < w3.heap.size:=HS3.out.lt;clear CC LM hb3 ho hc HS0 HS1;go_wp2_with fail;refine CS.out.mono ?_;rintro e w4 ⟨⟨k,a2,s,hk,hn,rfl,hat,hfar⟩,hb4⟩;have HS4:=jj (HS3.out.below hb4 hgl3);have HW4:=jj (HW3.out.trans (hb4.mono (by omega)));have HAT:=jj hat
 have HFAR:=jj hfar;have HK:=jj hk;have HN:=jj hn;have MJ : Hid ((Tryz.prog.info? 30).map (·.size) = some (mcL a2 k).length):=jj Tryz.sizeMc;clear CS hb4 hat hfar hk hn;go_wp2_with (refine wpList_store_all rfl 30 (.tmp 2) (.tmp 7) rfl rfl (gx + 1) rfl (mcL a2 k) rfl MJ.out [.int .u64 0,.int .i64 0,.int .i64 0,.int .i64 0,.slice none 0 0,.slice none 0 0,.int .i64 0,S [],.slice none 0 0,.int .i64 0,S [],.bool false,.int .u64 0,.slice none 0 0,.slice none 0 0,.int .i64 0,.slice none 0 0] 30 HS4.out rfl (mcL_one a2 k) ?_;intro wz hw hkk);refine bodyPost_ret (v:=.tuple #[.agg (mcL a2 k).toArray,S s]) (results_cell_tmp rfl _ _ (gx + 1) 30 _ _ (0,0) _ rfl rfl hw.out Tryz.underlying30 rfl (by rw [List.size_toArray];exact MJ.out)) rfl ?_;exact ⟨⟨k,a2,s,HK.out,HN.out,rfl,MAt.keep HAT.out hkk.out (fun ad h => by have:=HFAR.out ad h;omega),fun ad h => by have:=HFAR.out ad h;have:=HGX.out;omega⟩,by rw [HGX.out];exact HW4.out.grown hkk.out (by have:=HW4.out.size;have:=HGX.out;omega) (fun q e => by injection e with e;omega)⟩
end Go.Proofs.YtnbphabheikfeaaGreatDoor
namespace Go.Proofs.YtnbphabheikfeaaGreatDoor
open Go.RowKit
theorem others_set (a : List (List UInt8)) (i : Nat) (x : List UInt8) : ∀ k,k ≤ a.length → (othersTo a (a.set i x) k).length ≤ if i < k then 1 else 0
 | 0,_ => by simp [othersTo]
 | k + 1,hk => by
  have ih:=others_set a i x k (by omega);by_cases e : a.getD k [] = (a.set i x).getD k []
  ·rw [othersTo_same (by omega) e];by_cases h1 : i < k
   ·rw [if_pos h1] at ih;rw [if_pos (by omega)];exact ih
   ·rw [if_neg h1] at ih;split <;> omega
  ·have hi : i = k:=(by apply Classical.byContradiction;intro hn;apply e;simp [List.getD,List.getElem?_set_ne hn]);rw [othersTo_new (by simp only [e,and_false,not_false_eq_true]),List.length_append];rw [if_neg (by omega)] at ih;rw [if_pos (show i < k + 1 by omega)];simp only [List.length_singleton];omega
theorem OneOff.others {a b : List (List UInt8)} (h : OneOff a b) : (othersTo a b b.length).length ≤ 1:=by
 obtain ⟨i,x,rfl⟩:=h;have:=others_set a i x (a.set i x).length (by simp);split at this <;> omega
theorem others_none (a : List (List UInt8)) : othersTo a a a.length = []:=by
 have h:=others_set a a.length [] a.length (by omega);rw [if_neg (by omega)] at h;have e : a.set a.length [] = a:=List.set_eq_of_length_le (Nat.le_refl _);rw [e] at h;exact List.length_eq_zero_iff.1 (by omega)
theorem size_128 : ∀ (ls : List (List UInt8)),(∀ l ∈ ls,l.length = 128) → sizeOf ls = ls.length * 132
 | [],_ => rfl
 | x :: r,h => by
  rw [sizeOf_cons,size_128 r fun l hl => h l (by simp [hl]),h x (by simp),List.length_cons];omega
theorem im_size {m : Mc} (hm : McOk m) (hp : m.pend.length ≤ 250) : sizeOf (imF m) + sizeOf (imB m) + (imR m).length ≤ 4294967296:=by
 unfold imF imB imR;by_cases h : checkE m = 0
 ·simp only [if_pos h];obtain ⟨_,e2,_,_,_,e6⟩:=checkE_zero h;obtain ⟨f1,f2⟩:=frames_zero e2;obtain ⟨b1,b2,_⟩:=drive_zero (vol_zero e6).1;have h1:=size_128 _ f2;have h2:=size_128 _ b2;have h3:=rest_size hm (rest_ok h (Nat.le_trans hp (by decide)));have h4:=rowB_le (restL m) (by omega);have h5 : (restB m).length ≤ 2 * sizeOf (restL m):=h4;omega
 ·simp only [if_neg h,sizeOf_nil,List.length_nil];omega
def IsImg (m : Mc) (v : Value) (W : World) : Prop:=∃ A c B d,v = .agg #[.slice A (imF m).length c,.slice B (imB m).length d,S (imR m)] ∧ Strs W W.heap.size A (imF m) ∧ Strs W W.heap.size B (imB m)
theorem IsImg.below {m : Mc} {v : Value} {W W' : World} (h : IsImg m v W) (hb : Below W.heap.size W W') : IsImg m v W':=by
 obtain ⟨A,c,B,d,e,h1,h2⟩:=h;exact ⟨A,c,B,d,e,(Lies.below h1 hb).wide hb.size,(Lies.below h2 hb).wide hb.size⟩
def IsDel (v : Value) : Prop:=∃ (f : List UInt8) (G : Option Addr) (n c : Nat) (G' : Option Addr) (n' c' : Nat) (r t : List UInt8),f.length = 32 ∧ t.length = 32 ∧ n ≤ 1 ∧ n' = 0 ∧ v = .agg (dCells f (.slice G n c) (.slice G' n' c') r t).toArray
theorem img_each (w : World) (a : MA) (m : Mc) (hm : McOk m) (hp : m.pend.length ≤ 250) (hA : MAt w w.heap.size a m) (hT : STabs w) :
  Calls Tryz.prog 10 #[.agg (mcL a m).toArray] w fun e w' => (∃ v,e = .returned v ∧ IsImg m v w') ∧ Below w.heap.size w w' :=
 (imageOf_any w a m hm (Nat.le_trans hp (by decide)) hA hT).mono fun e w' h => by
  obtain ⟨⟨A,c,B,d,he,h1,h2,_,_⟩,hb⟩:=h;exact ⟨⟨_,he,A,c,B,d,rfl,h1,h2⟩,hb⟩
theorem near_others {m k : Mc} (hc : checkE m = 0) (hn : Near m k) (l : Bool) (hl : l = less (imF m) (imB m) (imF k) (imB k)) :
  (othersTo (onto l (imF m)) (imF k) (imF k).length).length ≤ 1 ∧ (othersTo (onto l (imB m)) (imB k) (imB k).length).length = 0:=by
 by_cases h : checkE k = 0
 ·have e1 : imF m = m.frames:=(by unfold imF;rw [if_pos hc]);have e2 : imB m = m.blocks:=(by unfold imB;rw [if_pos hc]);have e3 : imF k = k.frames:=(by unfold imF;rw [if_pos h]);have e4 : imB k = m.blocks:=(by unfold imB;rw [if_pos h,hn.b]);rw [e1,e2,e3,e4] at hl;have hlf : l = false:=(by rw [hl];unfold less;rw [hn.f.length];simp);rw [e1,e2,e3,e4,hlf,onto_false,onto_false,others_none];exact ⟨hn.f.others,rfl⟩
 ·have e3 : imF k = []:=(by unfold imF;rw [if_neg h]);have e4 : imB k = []:=(by unfold imB;rw [if_neg h]);rw [e3,e4];exact ⟨by simp [othersTo],by simp [othersTo]⟩
theorem del_each (w : World) (m k : Mc) (hm : McOk m) (hk : McOk k) (hp : m.pend.length ≤ 250) (hc : checkE m = 0) (hn : Near m k) (hT : Tabs w) (A B C D : Option Addr) (c d c' d' : Nat) (h1 : Strs w w.heap.size A (imF m)) (h2 : Strs w w.heap.size B (imB m))
  (h3 : Strs w w.heap.size C (imF k)) (h4 : Strs w w.heap.size D (imB k)) :
  Calls Tryz.prog 9 #[.agg #[.slice A (imF m).length c,.slice B (imB m).length d,S (imR m)],.agg #[.slice C (imF k).length c',.slice D (imB k).length d',S (imR k)]] w fun e w' => (∃ v,e = .returned v ∧ IsDel v) ∧ Below w.heap.size w w':=by
 refine (of_any w A B C D c d c' d' (imF m) (imB m) (imF k) (imB k) (imR m) (imR k) hT h1 h2 h3 h4 (im_size hm hp) (im_size hk (by rw [hn.n];exact hp))).mono fun e w' h => ?_;obtain ⟨⟨G,q,G',q',he,_⟩,hb⟩:=h;obtain ⟨n1,n2⟩:=near_others hc hn _ rfl;exact ⟨⟨_,he,_,G,_,q,G',_,q',_,_,dig_length _,dig_length _,n1,n2,rfl⟩,hb⟩
end Go.Proofs.YtnbphabheikfeaaGreatDoor
namespace Go.Proofs.YtnbphabheikfeaaGreatDoor
open Go.RowKit
def zeroDl : List Value:=[.int .u8 0,.int .u8 0,.int .u8 0,.int .u8 0,.int .u8 0,.int .u8 0,.int .u8 0,.int .u8 0,.int .u8 0,.int .u8 0,.int .u8 0,.int .u8 0,.int .u8 0,.int .u8 0,.int .u8 0,.int .u8 0,.int .u8 0,.int .u8 0,.int .u8 0,.int .u8 0,.int .u8 0,.int .u8 0,.int .u8 0,.int .u8 0,.int .u8 0,.int .u8 0,.int .u8 0,.int .u8 0,.int .u8 0,.int .u8 0,.int .u8 0,.int .u8 0,.slice none 0 0,.slice none 0 0,S [],.int .u8 0,.int .u8 0,.int .u8 0,.int .u8 0,.int .u8 0,.int .u8 0,.int .u8 0,.int .u8 0,.int .u8 0,.int .u8 0,.int .u8 0,.int .u8 0,.int .u8 0,.int .u8 0,.int .u8 0,.int .u8 0,.int .u8 0,.int .u8 0,.int .u8 0,.int .u8 0,.int .u8 0,.int .u8 0,.int .u8 0,.int .u8 0,.int .u8 0,.int .u8 0,.int .u8 0,.int .u8 0,.int .u8 0,.int .u8 0,.int .u8 0,.int .u8 0]
theorem Tryz.infoDl : (Tryz.prog.info? 41).map (fun i => (i.zero,i.size)) = some (some (.agg zeroDl.toArray),67):=by kernel_rfl
theorem Tryz.infoMc' : (Tryz.prog.info? 30).map (fun i => (i.zero,i.size)) = some (some (.agg [.int .u64 0,.int .i64 0,.int .i64 0,.int .i64 0,.slice none 0 0,.slice none 0 0,.int .i64 0,S [],.slice none 0 0,.int .i64 0,S [],.bool false,.int .u64 0,.slice none 0 0,.slice none 0 0,.int .i64 0,.slice none 0 0].toArray),17):=by kernel_rfl
theorem Tryz.sizeDl : (Tryz.prog.info? 41).map (·.size) = some 67:=by kernel_rfl
structure DeR (b : Nat) (m k : Mc) (j : Nat) (v : Value) (W : World) : Prop where
 a : j = 1 → IsImg m v W
 c : j = 3 → IsImg k v W
 d : j = 4 → IsDel v
 e : j = 5 → ∃ g,v = .pointer (some ⟨g,0,none⟩) ∧ b ≤ g ∧ Whole W g 41 zeroDl.toArray
theorem DeR.below (b : Nat) (m k : Mc) : ∀ j v W W',DeR b m k j v W → Below W.heap.size W W' → DeR b m k j v W':=fun j v W W' h hb =>
 ⟨fun e => (h.a e).below hb,fun e => (h.c e).below hb,h.d,fun e => by
  obtain ⟨g,h1,h2,h3⟩:=h.e e;exact ⟨g,h1,h2,h3.below hb h3.lt⟩⟩
theorem DeR.t1 {b : Nat} {m k : Mc} {v : Value} {W : World} (h : IsImg m v W) : DeR b m k 1 v W:=⟨fun _ => h,fun e => by omega,fun e => by omega,fun e => by omega⟩
theorem DeR.t3 {b : Nat} {m k : Mc} {v : Value} {W : World} (h : IsImg k v W) : DeR b m k 3 v W:=⟨fun e => by omega,fun _ => h,fun e => by omega,fun e => by omega⟩
theorem DeR.t4 {b : Nat} {m k : Mc} {v : Value} {W : World} (h : IsDel v) : DeR b m k 4 v W:=⟨fun e => by omega,fun e => by omega,fun _ => h,fun e => by omega⟩
theorem DeR.t5 {b : Nat} {m k : Mc} {g : Nat} {W : World} (h1 : b ≤ g) (h : Whole W g 41 zeroDl.toArray) : DeR b m k 5 (.pointer (some ⟨g,0,none⟩)) W:=⟨fun e => by omega,fun e => by omega,fun e => by omega,fun _ => ⟨g,rfl,h1,h⟩⟩
set_option maxRecDepth 100000 in
set_option maxHeartbeats 4000000 in
theorem dstep_any (w : World) (a : MA) (m : Mc) (hm : McOk m) (hb8 : m.frames.length ≤ 1048576 ∧ m.procs.length ≤ 1048576 ∧ m.pipes.length ≤ 1048576 ∧ m.dirty.length ≤ 1048576 ∧ m.blocks.length ≤ 1048576 ∧ m.pend.length ≤ 1048576 ∧ m.inp.length ≤ 1048576 ∧ m.init.length ≤ 1048576) (hT : Tabs w) (hST : STabs w) (hN : NTab w) (hWT : WTab w) (hA : MAt w w.heap.size a m) :
  Calls Tryz.prog 3 #[.agg (mcL a m).toArray] w fun e w' => e = .returned (.bool true) ∧ Below w.heap.size w w':=by
 have hs0:=Whole.made w 30 (mcL a m).toArray;have hb : Below w.heap.size w (w.alloc (.cells (mcL a m).toArray 30)):=(Below.refl _ _).alloc (Nat.le_refl _) _;go_enter Tryz.func3,Tryz.ntmps3;go_upto_region 1 with (fail);change Code.wp _ _ _ _ (w.alloc (.cells (mcL a m).toArray 30));generalize (w.alloc (.cells (mcL a m).toArray 30)) = w1 at *;generalize hgx : w.heap.size = gx at *;have HGX:=jj hgx;have HS0:=jj hs0;have HW:=jj hb;have hgl : gx < w1.heap.size:=hs0.lt;clear hgx hb hs0;have hgw : w.heap.size ≤ gx:=(by have:=HGX.out;omega);have HMA : Hid (∀ W,Below w1.heap.size w1 W → MAt W W.heap.size a m):=jj fun W hW => (hA.below (HW.out.trans (hW.mono (Nat.le_of_lt hgl)))).wide (by have:=hW.size;omega);have HLM : Hid (∀ W,Below w1.heap.size w1 W → ∀ j v,(mcL a m)[j]? = some v → W.cell? ((⟨gx,0,none⟩ : Addr).add j) = some v):=jj fun W hW => (HS0.out.below hW hgl).reads;have HTD : Hid (∀ W,Below w1.heap.size w1 W → Tabs W):=jj fun W hW => hT.below hgw (HW.out.trans (hW.mono (Nat.le_of_lt hgl)));have HSD : Hid (∀ W,Below w1.heap.size w1 W → STabs W):=jj fun W hW => hST.below hgw (HW.out.trans (hW.mono (Nat.le_of_lt hgl)));have HND : Hid (∀ W,Below w1.heap.size w1 W → NTab W):=jj fun W hW => hN.below hgw (HW.out.trans (hW.mono (Nat.le_of_lt hgl)));have HWD : Hid (∀ W,Below w1.heap.size w1 W → WTab W):=jj fun W hW => hWT.below hgw (HW.out.trans (hW.mono (Nat.le_of_lt hgl)));have HM:=jj hm;have HL:=jj hb8;have MI : Hid ((Tryz.prog.info? 30).map (·.size) = some (mcL a m).length):=jj Tryz.sizeMc;have LM1:=jj (HLM.out w1 (Below.refl _ _));have CG:=jj (great25_any w1 a m hb8 (HMA.out w1 (Below.refl _ _)));have hprl : m.procs.length ≤ 4294967296:=(by omega);have hpil : m.pipes.length ≤ 1099511627776:=(by omega);have hfs : m.frames.length ≤ 1099511627776:=(by omega);clear hA hT hST hN hWT hm hb8 HS0;go_wp2_with (refine wpList_load_at rfl 30 (.tmp 1) rfl ⟨gx,0,none⟩ rfl (mcL a m) _ LM1.out Tryz.underlying30 rfl MI.out ?_);refine CG.out.mono ?_;rintro e w2 ⟨rfl | ⟨rfl,hpn⟩,hb2⟩
 ·as_aux_lemma => have HB2:=jj hb2;clear hb2 CG LM1;have CX:=jj (fixed_any w2 (HTD.out w2 HB2.out));go_wp2_with fail;refine CX.out.mono ?_;rintro e wy ⟨rfl,hby⟩;have HBY:=jj (HB2.out.trans (hby.mono HB2.out.size));clear hby CX;go_wp2_with fail;go_ret;exact ⟨rfl,by rw [HGX.out];exact HW.out.trans (HBY.out.mono (Nat.le_of_lt hgl))⟩
 have HB2:=jj hb2;have LM2:=jj (HLM.out w2 hb2);have CC:=jj (rcheck_any w2 a m HM.out (HMA.out w2 hb2));have HPN:=jj hpn;obtain ⟨ce,HCE⟩ : ∃ z,Hid (checkE m = z):=⟨_,jj rfl⟩;rw [HCE.out] at CC;clear hb2 CG LM1 hpn;go_wp2_with (refine wpList_load_g (o:=⟨some 10,_,_,_,_,_⟩) rfl 30 (.tmp 1) rfl ⟨gx,0,none⟩ rfl (mcL a m) _ LM2.out Tryz.underlying30 rfl MI.out ?_);refine CC.out.mono ?_;rintro e w3 ⟨rfl,hb3⟩;have HB3:=jj (HB2.out.trans (hb3.mono HB2.out.size));clear hb3 CC LM2 HB2;by_cases hc : ce = 0
 case neg =>
  as_aux_lemma =>
  have e1 : (ce != 0) = true:=(by simpa using hc);clear hc;have CX:=jj (fixed_any w3 (HTD.out w3 HB3.out));go_wp2_with fail;refine CX.out.mono ?_;rintro e wy ⟨rfl,hby⟩;have HBY:=jj (HB3.out.trans (hby.mono HB3.out.size));clear hby CX;go_wp2_with fail;go_ret;exact ⟨rfl,by rw [HGX.out];exact HW.out.trans (HBY.out.mono (Nat.le_of_lt hgl))⟩
 subst hc;have LM3:=jj (HLM.out w3 HB3.out);have CK:=jj (calls_any w3 a m HM.out hprl hpil hfs (HND.out w3 HB3.out) (HMA.out w3 HB3.out));obtain ⟨cb,HCB⟩ : ∃ z,Hid (callM m = z):=⟨_,jj rfl⟩;rw [HCB.out] at CK;go_wp2_with (refine wpList_load_g (o:=⟨some 15,_,_,_,_,_⟩) rfl 30 (.tmp 1) rfl ⟨gx,0,none⟩ rfl (mcL a m) _ LM3.out Tryz.underlying30 rfl MI.out ?_);refine CK.out.mono ?_;rintro e w4 ⟨rfl,hb4⟩;have HB4:=jj (HB3.out.trans (hb4.mono HB3.out.size));clear hb4 CK LM3 HB3;cases cb with
 | true =>
  as_aux_lemma =>
  have CX:=jj (fixed_any w4 (HTD.out w4 HB4.out));go_wp2_with fail;refine CX.out.mono ?_;rintro e wy ⟨rfl,hby⟩;have HBY:=jj (HB4.out.trans (hby.mono HB4.out.size));clear hby CX;go_wp2_with fail;go_ret;exact ⟨rfl,by rw [HGX.out];exact HW.out.trans (HBY.out.mono (Nat.le_of_lt hgl))⟩
 | false =>
  have LM4:=jj (HLM.out w4 HB4.out);have CS:=jj (mchStep_any w4 a m HM.out hprl hpil hfs HCB.out (HWD.out w4 HB4.out) (HMA.out w4 HB4.out));go_upto_region 3 with fail
  go_wp2_with (refine wpList_load_at rfl 30 (.tmp 1) rfl ⟨gx,0,none⟩ rfl (mcL a m) _ LM4.out Tryz.underlying30 rfl MI.out ?_);refine CS.out.mono ?_;rintro e w5 ⟨⟨k,a2,s,hk,hn,rfl,hat,-⟩,hb5⟩;have hal:=(Below.refl w5.heap.size w5).alloc (Nat.le_refl _) (.cells (mcL a2 k).toArray 30);have HAK:=jj ((hat.below hal).wide hal.size);have HK3:=jj (Whole.made w5 30 (mcL a2 k).toArray);have HB5:=jj (HB4.out.trans (hb5.mono HB4.out.size));have HB6:=jj (HB5.out.trans (hal.mono HB5.out.size));have HK:=jj hk;have HN:=jj hn;clear hb5 hat hk hn hal CS LM4 HB4 HB5;go_upto_region 4 with (refine wpList_fresh rfl rfl 30 3 (.tmp 22) rfl rfl rfl rfl (mcL a2 k) rfl rfl _ Tryz.infoMc' rfl (mcL_one _ _) ?_);change Code.wp _ _ _ _ (w5.alloc (.cells (mcL a2 k).toArray 30));have MJ : Hid ((Tryz.prog.info? 30).map (·.size) = some (mcL a2 k).length):=jj Tryz.sizeMc;have hg3 : w5.heap.size < (w5.alloc (.cells (mcL a2 k).toArray 30)).heap.size:=HK3.out.lt;generalize w5.alloc (.cells (mcL a2 k).toArray 30) = w6 at *;generalize w5.heap.size = g3 at *;have HLK : Hid (∀ W,Below w6.heap.size w6 W → ∀ j v,(mcL a2 k)[j]? = some v → W.cell? ((⟨g3,0,none⟩ : Addr).add j) = some v):=jj fun W hW => (HK3.out.below hW hg3).reads
  have CI1 : Hid (∀ W,Below w6.heap.size w6 W → Calls Tryz.prog 10 #[.agg (mcL a m).toArray] W fun e w' => (∃ v,e = .returned v ∧ DeR w6.heap.size m k 1 v w') ∧ Below W.heap.size W w'):=jj fun W hW => (img_each W a m HM.out HPN.out (HMA.out W (HB6.out.trans (hW.mono HB6.out.size))) (HSD.out W (HB6.out.trans (hW.mono HB6.out.size)))).mono fun e w' ⟨⟨v,h1,h2⟩,h3⟩ => ⟨⟨v,h1,.t1 h2⟩,h3⟩;have CI3 : Hid (∀ W,Below w6.heap.size w6 W → Calls Tryz.prog 10 #[.agg (mcL a2 k).toArray] W fun e w' => (∃ v,e = .returned v ∧ DeR w6.heap.size m k 3 v w') ∧ Below W.heap.size W w'):=jj fun W hW => (img_each W a2 k HK.out (by rw [HN.out.n];exact HPN.out) ((HAK.out.below hW).wide hW.size) (HSD.out W (HB6.out.trans (hW.mono HB6.out.size)))).mono fun e w' ⟨⟨v,h1,h2⟩,h3⟩ => ⟨⟨v,h1,.t3 h2⟩,h3⟩
  have CD4 : Hid (∀ W,Below w6.heap.size w6 W → ∀ (A B C D : Option Addr) (c d c' d' : Nat),Strs W W.heap.size A (imF m) → Strs W W.heap.size B (imB m) → Strs W W.heap.size C (imF k) → Strs W W.heap.size D (imB k) →
    Calls Tryz.prog 9 #[.agg #[.slice A (imF m).length c,.slice B (imB m).length d,S (imR m)],.agg #[.slice C (imF k).length c',.slice D (imB k).length d',S (imR k)]] W fun e w' => (∃ v,e = .returned v ∧ DeR w6.heap.size m k 4 v w') ∧ Below W.heap.size W w'):=jj fun W hW A B C D c d c' d' h1 h2 h3 h4 =>
   (del_each W m k HM.out HK.out HPN.out HCE.out HN.out (HTD.out W (HB6.out.trans (hW.mono HB6.out.size))) A B C D c d c' d' h1 h2 h3 h4).mono fun e w' ⟨⟨v,q1,q2⟩,q3⟩ => ⟨⟨v,q1,.t4 q2⟩,q3⟩
  clear HK3 HCB HPN HM HL HSD HND HWD hprl hpil hfs;refine' wp_region_sureX (by kernel_rfl) (PostX w6 [(1,25),(3,27),(4,28),(5,5)] (DeR w6.heap.size m k)) 6 [some _,none,some _,none,none,none] [some 24,some 25,some 26,some 27,some 28,some 5] (by kernel_rfl) (by kernel_rfl) (by kernel_rfl) (by kernel_rfl) rfl (PostX.init (Below.refl _ _).drew) ?hs
  case hs =>
   refine sureX_cons ?_ ?_
   ·intro L ac W K hLi hed hJ hX hK;have hS:=hX.1;have hA1 : ac.eval (.tmp 1) = .pointer (some ⟨gx,0,none⟩):=hJ.eval_old 1 (by kernel_rfl);have hsz:=jj hJ.size;clear hLi hed hJ;refine opStep_of rfl ?_;refine oper_load_at 30 (.tmp 1) rfl ⟨gx,0,none⟩ hA1 (mcL a m) _ (HLM.out W (HB6.out.trans (hS.mono HB6.out.size))) Tryz.underlying30 rfl MI.out ?_;refine hK _ _ ?_ (hX.step (DeR.below _ _ _) (Below.refl _ _) rfl rfl);exact Knows.known _
   refine sureX_cons ?_ ?_
   ·intro L ac W K hLi hed hJ hX hK;have hS:=hX.1;have hn:=needs_spec (l:=[0]) (by kernel_rfl) hed;have hA24:=hJ.eval 0 (d:=24) (hn 0 (by simp)) rfl rfl rfl;have hsz:=jj hJ.size;clear hLi hed hJ hn;refine opStep_of rfl ?_;unfold Oper.wp execOp;have hN24:=evalN hA24;go_simp;refine (CI1.out W hS).mono ?_;rintro e W' ⟨⟨v,rfl,hv⟩,hb⟩;have hX2:=hX.made (j:=1) (s:=25) (DeR.below _ _ _) hb rfl (by rw [hsz.out];exact of_decide_eq_true rfl) hv;dsimp only;refine hK _ W' ?_ hX2;exact Knows.free _
   refine sureX_cons ?_ ?_
   ·intro L ac W K hLi hed hJ hX hK;have hS:=hX.1;have hA3 : ac.eval (.tmp 3) = .pointer (some ⟨g3,0,none⟩):=hJ.eval_old 3 (by kernel_rfl);have hsz:=jj hJ.size;clear hLi hed hJ;refine opStep_of rfl ?_;refine oper_load_at 30 (.tmp 3) rfl ⟨g3,0,none⟩ hA3 (mcL a2 k) _ (HLK.out W hS) Tryz.underlying30 rfl MJ.out ?_;refine hK _ _ ?_ (hX.step (DeR.below _ _ _) (Below.refl _ _) rfl rfl);exact Knows.known _
   refine sureX_cons ?_ ?_
   ·intro L ac W K hLi hed hJ hX hK;have hS:=hX.1;have hn:=needs_spec (l:=[2]) (by kernel_rfl) hed;have hA26:=hJ.eval 2 (d:=26) (hn 2 (by simp)) rfl rfl rfl;have hsz:=jj hJ.size;clear hLi hed hJ hn;refine opStep_of rfl ?_;unfold Oper.wp execOp;have hN26:=evalN hA26;go_simp;refine (CI3.out W hS).mono ?_;rintro e W' ⟨⟨v,rfl,hv⟩,hb⟩;have hX2:=hX.made (j:=3) (s:=27) (DeR.below _ _ _) hb rfl (by rw [hsz.out];exact of_decide_eq_true rfl) hv;dsimp only;refine hK _ W' ?_ hX2;exact Knows.free _
   refine sureX_cons ?_ ?_
   ·intro L ac W K hLi hed hJ hX hK;have hS:=hX.1;have hn:=needs_spec (l:=[1,3]) (by kernel_rfl) hed;have hF25:=hX.2 (1,25) (by simp) (hn 1 (by simp));have hF27:=hX.2 (3,27) (by simp) (hn 3 (by simp));have hsz:=jj hJ.size;clear hLi hed hJ hn;refine opStep_of rfl ?_;obtain ⟨A1,c1,B1,d1,hA25,i1,i2⟩:=hF25.a rfl;obtain ⟨A3,c3,B3,d3,hA27,i3,i4⟩:=hF27.c rfl;unfold Oper.wp execOp;have hN25:=evalN hA25;have hN27:=evalN hA27;go_simp;refine (CD4.out W hS A1 B1 A3 B3 c1 d1 c3 d3 i1 i2 i3 i4).mono ?_;rintro e W' ⟨⟨v,rfl,hv⟩,hb⟩;have hX2:=hX.made (j:=4) (s:=28) (DeR.below _ _ _) hb rfl (by rw [hsz.out];exact of_decide_eq_true rfl) hv;dsimp only;refine hK _ W' ?_ hX2;exact Knows.free _
   refine sureX_cons ?_ ?_
   ·intro L ac W K hLi hed hJ hX hK;have hS:=hX.1;have hsz:=jj hJ.size;clear hLi hed hJ;refine opStep_of rfl ?_;unfold Oper.wp execOp;simp only [Sem.run_bind,run_alloc_z W 41 (.agg zeroDl.toArray) 67 Tryz.infoDl,Result.andThen_ok,Sem.run_pure];refine hK _ _ ?_ (hX.made (j:=5) (s:=5) (DeR.below _ _ _) ((Below.refl _ _).alloc (Nat.le_refl _) _) rfl (by rw [hsz.out];exact of_decide_eq_true rfl) (DeR.t5 hS.size (Whole.made W 41 zeroDl.toArray)));exact Knows.free _
   refine sureX_nil ?_;intro L ac W hL hX ha;have hS:=hX.1;have hF25:=hX.2 (1,25) (by simp) (hL 1 (by omega));have hF27:=hX.2 (3,27) (by simp) (hL 3 (by omega));have hF28:=hX.2 (4,28) (by simp) (hL 4 (by omega));have hF5:=hX.2 (5,5) (by simp) (hL 5 (by omega));rw [ha];simp only [mendAll,Option.getD_some,Option.getD_none,Option.map_some,putAll,Act.put,List.setIfInBounds_toArray,List.set_cons_zero,List.set_cons_succ];change ((DeR w6.heap.size m k)) 1 (ac.tmps.getD 25 undef) W at hF25;generalize ac.tmps.getD 25 undef = us25 at *;change ((DeR w6.heap.size m k)) 3 (ac.tmps.getD 27 undef) W at hF27;generalize ac.tmps.getD 27 undef = us27 at *;change ((DeR w6.heap.size m k)) 4 (ac.tmps.getD 28 undef) W at hF28;generalize ac.tmps.getD 28 undef = us28 at *;change ((DeR w6.heap.size m k)) 5 (ac.tmps.getD 5 undef) W at hF5;generalize ac.tmps.getD 5 undef = us5 at *;clear ha hX hL;obtain ⟨g5,rfl,hg5,hw5⟩:=hF5.e rfl;obtain ⟨f,G,n,c,G',n',c',r,t,hf,ht,hn1,rfl,rfl⟩:=hF28.d rfl;have HW5:=jj hw5;have HF:=jj hf;have HTL:=jj ht;have HS6:=jj hS;have hDl : (dCells f (.slice G n c) (.slice G' 0 c') r t).length = 67:=dCells_length hf ht _ _ _;have ID : Hid ((Tryz.prog.info? 41).map (·.size) = some (dCells f (.slice G n c) (.slice G' 0 c') r t).length):=jj (by rw [hDl];exact Tryz.sizeDl);have LE : Hid ((dCells f (.slice G n c) (.slice G' 0 c') r t).length = zeroDl.length):=jj (by rw [hDl];rfl);clear hw5 hf ht hS hF25 hF27 hF28 hF5 hDl;go_upto_region 5 with (refine wpList_store_all rfl 41 (.tmp 5) (.tmp 28) rfl rfl g5 rfl (dCells f (.slice G n c) (.slice G' 0 c') r t) rfl ID.out zeroDl 41 HW5.out LE.out (dCells_one f G G' n c 0 c' r t) ?_;intro wz hw hk);have HBZ:=jj ((HB6.out.trans (HS6.out.mono HB6.out.size)).grown hk.out (by have:=HS6.out.size;have:=HB6.out.size;omega) (fun q e => by injection e with e;have:=HB6.out.size;omega));have HD:=jj hw.out;clear hw hk HW5 HS6 ID LE;have CX:=jj (fixed_any wz (HTD.out wz HBZ.out));have hg5z : g5 < wz.heap.size:=HD.out.lt;go_wp2_with fail;refine CX.out.mono ?_;rintro e wy ⟨rfl,hby⟩;have HBY:=jj (HBZ.out.trans (hby.mono HBZ.out.size));have HDY:=jj (HD.out.below hby hg5z);have c32 : wy.cell? ⟨g5,32,none⟩ = some (.slice G n c):=(HDY.out.cell 32).trans (by rw [List.getElem?_toArray];unfold dCells;rw [List.getElem?_append_right (by simp [HF.out])];simp [HF.out]);have c33 : wy.cell? ⟨g5,33,none⟩ = some (.slice G' 0 c'):=(HDY.out.cell 33).trans (by rw [List.getElem?_toArray];unfold dCells;rw [List.getElem?_append_right (by simp [HF.out])];simp [HF.out])
   have e1 : decide ((n : Int) ≤ 1) = true:=decide_eq_true (by omega);have e2 : decide (n ≤ 1) = true:=decide_eq_true hn1;clear hby CX HD HDY;go_wp2_with fail;go_ret;exact ⟨rfl,by rw [HGX.out];exact HW.out.trans (HBY.out.mono (Nat.le_of_lt hgl))⟩
end Go.Proofs.YtnbphabheikfeaaGreatDoor
namespace Go.Proofs.YtnbphabheikfeaaGreatDoor
open Go.RowKit Go.ChangeShapes Go.WideShapes
section
theorem cells_of_tabs {H : Type} {enc : TypeId × Value → H} {P : Program} {w : World} {base : Nat} {sp : Nat → Bool} {held : Bool} {fuel : Nat} {t e f : TypeId} {n m : Nat} {k : IntKind} {cs : List Value} {zss : List (List Int)} {p : List MemPlace}
  (ht : P.underlying t = some (.array n e)) (he : P.underlying e = some (.array m f)) (hf : P.underlying f = some (.int k)) (hcf : P.cellsOf f = 1) (hce : P.cellsOf e = m) (hct : P.cellsOf t = n * m) (hz : ∀ zs ∈ zss,zs.length = m)
  (h : DataW.trod enc P w base sp held fuel t cs = some (.agg (zss.map fun zs => Lib.tabData k zs),p)) : cs = zss.flatten.map fun z => Value.int k z:=by
 cases fuel with
 | zero => simp [DataW.trod] at h
 | succ fuel =>
  simp only [DataW.trod,ht,hce,hct] at h;split at h
  ·rename_i hl;obtain ⟨xs,hm,hx⟩:=Option.map_eq_some_iff.1 h
   have hxs : xs.map (·.1) = zss.map fun zs => (Lib.tabData k zs : DataW H):=by
    have:=congrArg Prod.fst hx
    simpa using this
   have hxl : xs.length = n:=(by simpa using Lib.mapM_length hm);have hzl : zss.length = n:=(by have:=congrArg List.length hxs;simp at this;omega)
   have hrow : ∀ i (hi : i < n),(cs.drop (i * m)).take m = (zss[i]'(by omega)).map fun z => Value.int k z:=by intro i hi;obtain ⟨b,hb,hfb⟩:=Lib.mapM_at hm i i (by simp [hi]);have h2 : (xs.map (·.1))[i]? = some b.1:=(by simp [hb]);rw [hxs] at h2;have hb1 : b.1 = Lib.tabData k (zss[i]'(by omega)):=(by simpa [List.getElem?_eq_getElem (show i < zss.length by omega)] using h2.symm);have hfb' : DataW.trod enc P w base sp held fuel e (List.take m (List.drop (i * m) cs)) = some (Lib.tabData k (zss[i]'(by omega)),b.2):=(by rw [hfb,← hb1]);exact Lib.cells_of_tab he hf hcf hce hfb'
   have hlen : cs.length = n * m:=(by simpa using hl);clear hm hx hxs h hl
   -- cs,cut into n rows of m
   have key : ∀ (zss : List (List Int)) (cs : List Value),(∀ zs ∈ zss,zs.length = m) → cs.length = zss.length * m → (∀ i (hi : i < zss.length),(cs.drop (i * m)).take m = (zss[i]).map fun z => Value.int k z) → cs = zss.flatten.map fun z => Value.int k z:=by
    intro zss;induction zss with
    | nil => intro cs _ hl _;simpa using hl
    | cons z r ih =>
     intro cs hz hl hr;have h0:=hr 0 (by simp);simp only [Nat.zero_mul,List.drop_zero,List.getElem_cons_zero] at h0
     have h1:=ih (cs.drop m) (fun zs hzs => hz zs (List.mem_cons_of_mem _ hzs)) (by simp only [List.length_drop,hl,List.length_cons,Nat.add_mul];omega) (fun i hi => by
      have:=hr (i + 1) (by simpa using hi);rw [List.drop_drop,show m + i * m = (i + 1) * m by rw [Nat.add_mul];omega]
      simpa using this)
     rw [← List.take_append_drop m cs,h0,h1];simp
   exact key zss cs hz (by rw [hlen,hzl]) (fun i hi => hrow i (by omega))
  ·cases h
end
theorem block_of_var {P : Program} {W : World} {n : String} {g : Nat} {cs : Array Value} (hg : P.globalNamed n = some g) (h : W.var? P n = some cs) : ∃ t fr,W.heap[g]? = some (.cells cs t fr):=by
 unfold World.var? at h;rw [hg] at h;simp only [Option.bind_some] at h;cases hh : W.heap[g]? with
 | none => rw [hh] at h;cases h
 | some o =>
  rw [hh] at h;cases o with
  | cells c t fr => injection h with h;subst h;exact ⟨t,fr,rfl⟩
  | _ => cases h
theorem tabs_of_laid {W : World} {rest : List (String × DataW Unit)} (h : laidMet Tryz.prog (("hibernacle/hash.eight", Rows.laid_hibernacle_hash_eight) :: ("hibernacle/hash.rows", Rows.laid_hibernacle_hash_rows) :: rest) W) : Tabs W := by
 obtain ⟨ps, ⟨g, t, cs, fuel, p, q, hg, ht, hvar, hd, ⟨g', t', cs', fuel', p', q', hg', ht', hvar', hd', _, _⟩, _⟩, _⟩ := h; have eg : Tryz.prog.globalNamed "hibernacle/hash.eight" = some 2 := (by kernel_rfl); have eg' : Tryz.prog.globalNamed "hibernacle/hash.rows" = some 3 := (by kernel_rfl); obtain rfl := Option.some.inj (eg.symm.trans hg); obtain rfl := Option.some.inj (eg'.symm.trans hg'); have et : (Tryz.prog.globals[2]?).map (·.type) = some 151 := (by kernel_rfl); have et' : (Tryz.prog.globals[3]?).map (·.type) = some 197 := (by kernel_rfl); obtain rfl := Option.some.inj (et.symm.trans ht); obtain rfl := Option.some.inj (et'.symm.trans ht'); have hd1 : DataW.trod (fun _ => ()) Tryz.prog W 0 (fun _ => true) false fuel 151 cs.toList = some (Lib.tabData .u32 (IV.map fun x => (x.toNat : Int)), p) := hd; have hd2 : DataW.trod (fun _ => ()) Tryz.prog W 0 (fun _ => true) false fuel' 197 cs'.toList = some (.agg ((SIG.map fun l => l.map fun (n : Nat) => (n : Int)).map fun zs => Lib.tabData .u8 zs), p') := hd'; have c1 : cs.toList = (IV.map fun x => (x.toNat : Int)).map fun z => Value.int .u32 z := Lib.cells_of_tab Tryz.underlying151 Tryz.underlying52 (by kernel_rfl) (by kernel_rfl) hd1; have c2 : cs'.toList = (SIG.map fun l => l.map fun (n : Nat) => (n : Int)).flatten.map fun z => Value.int .u8 z := cells_of_tabs Tryz.underlying197 Tryz.underlying196 Tryz.underlying5 (by kernel_rfl) (by kernel_rfl) (by kernel_rfl) (by decide) hd2
 have a1 : cs = eightV:=(by have:=congrArg List.toArray c1;rw [Array.toArray_toList] at this;rw [this];rfl);have a2 : cs' = rowsV:=(by have:=congrArg List.toArray c2;rw [Array.toArray_toList] at this;rw [this];rfl);refine ⟨?_,?_⟩
 ·obtain ⟨t,fr,h⟩:=block_of_var eg hvar;exact ⟨t,fr,by rw [h,a1]⟩
 ·obtain ⟨t,fr,h⟩:=block_of_var eg' hvar';exact ⟨t,fr,by rw [h,a2]⟩
theorem stabs_of_pow {W : World} {rest : List (String × DataW Unit)} (h : laidMet Tryz.prog (("internal/strconv.uint64pow10", Rows.laid_internal_strconv_uint64pow10) :: rest) W) : STabs W :=
 Lib.tabIs_of_head (g:=5) (by kernel_rfl) (by kernel_rfl) Tryz.underlying319 Tryz.underlying22 (by kernel_rfl) (by kernel_rfl) h
theorem cells_of_texts {H : Type} {enc : TypeId × Value → H} {P : Program} {w : World} {base : Nat} {sp : Nat → Bool} {held : Bool} {fuel : Nat} {t e : TypeId} {n : Nat} {cs : List Value} {ls : List (List UInt8)} {p : List MemPlace}
  (ht : P.underlying t = some (.array n e)) (he : P.underlying e = some .string) (hce : P.cellsOf e = 1) (hct : P.cellsOf t = n)
  (h : DataW.trod enc P w base sp held fuel t cs = some (.agg (ls.map fun l => .lit (.string l)),p)) : cs = ls.map S:=by
 cases fuel with
 | zero => simp [DataW.trod] at h
 | succ fuel =>
  simp only [DataW.trod,ht,hce,hct,Nat.mul_one] at h;split at h
  ·rename_i hl;obtain ⟨xs,hm,hx⟩:=Option.map_eq_some_iff.1 h
   have hxs : xs.map (·.1) = ls.map fun l => (DataW.lit (.string l) : DataW H):=by
    have:=congrArg Prod.fst hx
    simpa using this
   have hxl : xs.length = n:=(by simpa using Lib.mapM_length hm);have hzl : ls.length = n:=(by have:=congrArg List.length hxs;simp at this;omega);apply List.ext_getElem?;intro i;by_cases hi : i < n
   ·obtain ⟨b,hb,hf⟩:=Lib.mapM_at hm i i (by simp [hi]);obtain ⟨z,hc,hbz,_⟩:=DataW.trod_string he hf
    have h1 : cs[i]? = some (.string z):=by
     have:=congrArg (·[0]?) hc
     simpa [List.getElem?_take,List.getElem?_drop] using this
    have h2 : (xs.map (·.1))[i]? = some (DataW.lit (.string z.data.toList) : DataW H):=(by simp [hb,hbz]);rw [hxs] at h2;simp only [List.getElem?_map,Option.map_eq_some_iff,DataW.lit.injEq,Lit.string.injEq] at h2;obtain ⟨z',hz',hzz⟩:=h2;rw [h1,List.getElem?_map,hz',Option.map_some];subst hzz;rfl
   ·rw [List.getElem?_eq_none (by omega),List.getElem?_eq_none (by simp;omega)]
  ·cases h
theorem names_of_laid {W : World} {rest : List (String × DataW Unit)} (h : laidMet Tryz.prog (("hibernacle/isa.names", Rows.laid_hibernacle_isa_names) :: rest) W) : NTab W := by
 obtain ⟨ps, ⟨g, t, cs, fuel, p, q, hg, ht, hvar, hd, _⟩, _⟩ := h; have eg : Tryz.prog.globalNamed "hibernacle/isa.names" = some 0 := (by kernel_rfl); obtain rfl := Option.some.inj (eg.symm.trans hg); have et : (Tryz.prog.globals[0]?).map (·.type) = some 104 := (by kernel_rfl); obtain rfl := Option.some.inj (et.symm.trans ht); have hd1 : DataW.trod (fun _ => ()) Tryz.prog W 0 (fun _ => true) false fuel 104 cs.toList = some (.agg (namesL.map fun l => .lit (.string l)), p) := hd; have c1 := cells_of_texts Tryz.underlying104 Tryz.underlying9 (by kernel_rfl) (by kernel_rfl) hd1
 have a1 : cs = (namesL.map S).toArray:=by
  have:=congrArg List.toArray c1
  rwa [Array.toArray_toList] at this
 obtain ⟨t,fr,h⟩:=block_of_var eg hvar;exact ⟨t,fr,by rw [h,a1]⟩
theorem wtab_of_laid {W : World} {rest : List (String × DataW Unit)} (h : laidMet Tryz.prog (("hibernacle/cpu.withNumber", Rows.laid_hibernacle_cpu_withNumber) :: rest) W) : WTab W := by
 obtain ⟨ps, ⟨g, t, cs, fuel, p, q, hg, ht, hvar, hd, _⟩, _⟩ := h; have eg : Tryz.prog.globalNamed "hibernacle/cpu.withNumber" = some 1 := (by kernel_rfl); obtain rfl := Option.some.inj (eg.symm.trans hg); have et : (Tryz.prog.globals[1]?).map (·.type) = some 139 := (by kernel_rfl); obtain rfl := Option.some.inj (et.symm.trans ht); have hd1 : DataW.trod (fun _ => ()) Tryz.prog W 0 (fun _ => true) false fuel 139 cs.toList = some (Lib.tabData .u8 [1, 6, 7, 8, 12], p) := hd; have c1 := Lib.cells_of_tab Tryz.underlying139 Tryz.underlying5 (by kernel_rfl) (by kernel_rfl) hd1; have a1 : cs = #[.int .u8 1, .int .u8 6, .int .u8 7, .int .u8 8, .int .u8 12] := (by have := congrArg List.toArray c1; rw [Array.toArray_toList] at this; rw [this]; rfl); obtain ⟨t, fr, h⟩ := block_of_var eg hvar; exact ⟨t, fr, by rw [h, a1]⟩
end Go.Proofs.YtnbphabheikfeaaGreatDoor
