import Derived.Test.YtnbphabheikfeaaGreatDoorRstV
import Derived.Test.YtnbphabheikfeaaGreatDoorSureA
import Derived.Test.YtnbphabheikfeaaGreatDoorDecX
import Derived.Test.YtnbphabheikfeaaGreatDoorRowS
namespace Go.Proofs.YtnbphabheikfeaaGreatDoor
open Go.RowKit
set_option maxRecDepth 100000 in
theorem idec_any (w : World) (n : Int) (hn : inI n) (hT : STabs w) :
  Calls Tryz.prog 56 #[.int .i64 n] w fun e w' => e = .returned (S (Lib.itoa n)) ∧ Below w.heap.size w w':=by
 have HC:=jj (dec_any w n hn hT);clear hn hT;go_enter Tryz.func56,Tryz.ntmps56;go_wp2_with fail;refine HC.out.mono ?_;rintro e w1 ⟨rfl,hb⟩;go_wp2_with fail;go_ret;exact ⟨rfl,hb⟩
theorem iflag_any (w : World) (b : Bool) :
  Calls Tryz.prog 59 #[.bool b] w fun e w' => e = .returned (S (flagL b)) ∧ Below w.heap.size w w':=by
 go_enter Tryz.func59,Tryz.ntmps59;cases b
 all_goals
  go_wp2_with fail;go_ret;exact ⟨rfl,Below.refl _ _⟩
theorem row_two (w : World) (a b : List UInt8) (h : sizeOf [a,b] ≤ 34359738368) :
  Calls Tryz.prog 55 #[.slice (some ⟨w.heap.size,0,none⟩) 2 2] (w.alloc (.cells #[S a,S b] 9)) fun e w' => e = .returned (S (rowB [a,b])) ∧ Below w.heap.size w w' :=
 (row_any (w.alloc (.cells #[S a,S b] 9)) (some ⟨w.heap.size,0,none⟩) 2 [a,b] (lies_made w 9 [S a,S b] _ (by simp)) h).mono fun e w' hw => ⟨hw.1,((Below.refl w.heap.size w).alloc (Nat.le_refl _) _).trans (hw.2.mono (by simp))⟩
theorem own_lt {w : World} {base : Nat} {e : TypeId} {size : Nat} {v : Value} {n : Nat} {xs : List Value} (h : w.ownsRow base e size v n xs) : ∀ g,v.ownBlock = some g → g < w.heap.size:=fun g hg => by
 rcases h.2 with ⟨rfl,_⟩ | ⟨g',cap,cur,rfl,_,hc,_⟩
 ·cases hg
 ·have e : g' = g:=(by have:=hg;simp only [Value.ownBlock] at this;injection this);subst e;exact (Array.getElem?_eq_some_iff.1 hc).1
theorem nbs_step {l : List Nb} {k : Nat} {p : Nb} (h : l[k]? = some p) : (l.take (k + 1)).map nbRow = (l.take k).map nbRow ++ [nbRow p]:=by
 rw [List.take_add_one,h,List.map_append];rfl
set_option maxRecDepth 100000 in
set_option maxHeartbeats 2000000 in
theorem writeRows_any (w : World) (B : Option Addr) (d : Nat) (l : List Nb) (hB : Lies w w.heap.size B (nbCells l)) (hl : l.length ≤ 4096) (hr : ∀ p ∈ l,inI p.1) (hs : ∀ p ∈ l,p.2.length ≤ 4096) (hT : STabs w) :
  Calls Tryz.prog 60 #[.slice B l.length d] w fun e w' => e = .returned (S (nbsRow l)) ∧ Below w.heap.size w w':=by
 obtain ⟨i0,hi0,hz0,hz1,hz2⟩:=info_parts Tryz.infoStr';have HB:=jj hB;have HR:=jj hr;have HS:=jj hs;have HT:=jj hT;clear hB hr hs hT;go_enter Tryz.func60,Tryz.ntmps60;go_wp2_with (at_make;refine wpList_make_own _ rfl _ _ 23 rfl w.heap.size 9 i0 _ 1 Tryz.underlying23 hi0 hz0 hz1 .i64 .i64 _ l.length rfl rfl rfl (by rw [hz2];omega) (by unfold maxLen;omega) (Nat.le_refl _) ?_;intro w0 hown0 hgrow0);have HO0:=jj hown0;have HB0 : Hid (Below w.heap.size w w0):=jj ⟨hgrow0.os,hgrow0.tape,hgrow0.output,hgrow0.size,fun i hi => hgrow0.block i hi (by simp)⟩;clear hown0 hgrow0;go_wp2_with fail
 go_loopw [3,11] (fun v i wr => ∃ k : Nat,k ≤ l.length ∧ i = .int .i64 k ∧ Hid (OwnS wr w.heap.size v ((l.take k).map nbRow)) ∧ Hid (Below w.heap.size w wr)) (fun _ i _ => l.length - (intOf i).toNat)
 case atStart => exact ⟨0,by omega,rfl,HO0,HB0⟩
 case round =>
  obtain ⟨k,hk,rfl,HO,HW⟩:=hrel;clear HO0 HB0;by_cases hlt : k < l.length
  ·obtain ⟨p,hp⟩:=get_some hlt;obtain ⟨bd,rfl,hbd,hc⟩:=Lies.row (f:=nbCells1) (n:=2) HB.out (fun y hy => rfl) (by omega) hp;have hri : inI p.1:=HR.out p (List.mem_of_getElem? hp);have hry : p.2.length ≤ 4096:=HS.out p (List.mem_of_getElem? hp);have HTK:=jj (nbs_step hp);have hlk : ((l.take k).map nbRow).length = k:=(by simp;omega);generalize (l.take k).map nbRow = acc at *;obtain ⟨n,y⟩:=p;have HE : Hid (nbRow (n,y) = rowB [Lib.itoa n,y]):=jj rfl;have hln:=itoa_len hri;have HSZ : Hid (sizeOf [Lib.itoa n,y] ≤ 34359738368):=jj (by have h : sizeOf [Lib.itoa n,y] ≤ 4124:=nb_size hri hry;omega);have HRI:=jj hri;have HLK:=jj hlk;clear hlk hri hry;have q0 : (0 : Int) ≤ (k : Int):=(by omega);have q1 : (k : Int) < (l.length : Int):=(by omega);have H63 : Hid (acc.length + 1 ≤ maxLen):=jj (by rw [HLK.out];unfold maxLen;omega);have HBY : Hid ((acc.length + 1) * 16 ≤ 140737488355328):=jj (by rw [HLK.out];omega);have LD : Hid (∀ j v,(nbCells1 (n,y))[j]? = some v → wr.cell? ((bd.add (k * 2)).add j) = some v):=jj fun j v hv => (HW.out.cell (by show ((bd.add (k * 2)).add j).block < _;rw [add_block,add_block];exact hbd)).trans (hc j v hv);have HX:=jj (Whole.made wr 49 (nbCells1 (n,y)).toArray);have HW1:=jj (HW.out.alloc HW.out.size (.cells (nbCells1 (n,y)).toArray 49));have HO1:=jj (HO.out.alloc (.cells (nbCells1 (n,y)).toArray 49));clear hc hp
   go_upto_region 5 with (first
    | (refine wpList_load_at rfl 49 (.tmp 13) rfl (bd.add (k * 2)) rfl (nbCells1 (n,y)) _ LD.out Tryz.underlying49 rfl (by kernel_rfl) ?_)
    | (refine wpList_fresh rfl rfl 49 5 (.tmp 14) rfl rfl rfl rfl (nbCells1 (n,y)) rfl rfl _ Tryz.infoWr rfl (nb_one (n,y)) ?_))
   change Code.wp _ _ _ _ (wr.alloc (.cells (nbCells1 (n,y)).toArray 49));generalize wr.alloc (.cells (nbCells1 (n,y)).toArray 49) = w1 at *;have HGE : Hid (w.heap.size ≤ wr.heap.size):=jj HW.out.size;have HOL : Hid (∀ g,u3.ownBlock = some g → g < wr.heap.size):=jj (own_lt HO.out);generalize wr.heap.size = g1 at *;have HGL:=jj HX.out.lt;have HBD : Hid (∀ W,Below w1.heap.size w1 W → W.cell? ⟨g1,0,none⟩ = some (.int .i64 n) ∧ W.cell? ⟨g1,1,none⟩ = some (S y)):=jj fun W hW => ⟨(HX.out.below hW HGL.out).cell 0,(HX.out.below hW HGL.out).cell 1⟩;obtain ⟨b0',b1'⟩:=HBD.out w1 (Below.refl _ _);clear HO HW LD
   go_region_held3 (fun w' => w'.cell? ⟨g1,0,none⟩ = some (.int .i64 n) ∧ w'.cell? ⟨g1,1,none⟩ = some (S y))
    (first
     | (exact ⟨b0',b1'⟩)
     | (exact HBD.out _ BK)
     | (exact HBD.out _ (BK.alloc BK.size _))
     | (exact C5))
    (first
     | (go_at_call 56;refine (idec_any _ n HRI.out (HT.out.below (Nat.le_refl _) HW1.out.drew)).mono ?_;rintro e w2 ⟨rfl,hbl⟩;have BB : Below w.heap.size w w2:=HW1.out.drew.trans (hbl.mono HW1.out.size);have BK : Below w1.heap.size w1 w2:=(Below.refl _ _).drew.trans hbl;have O2 : Hid (OwnS w2 w.heap.size u3 acc):=jj (own_below HO1.out (((Below.refl _ _).drew).trans hbl));clear hbl)
     | (go_at_call 55;refine (row_two w2 (Lib.itoa n) y HSZ.out).mono ?_;rintro e w4 ⟨rfl,hbl⟩;have B4 : Below w.heap.size w w4:=BB.trans (hbl.mono BB.size);have K4:=BK.trans (hbl.mono BK.size);clear BB BK;have BB:=B4;have BK:=K4;have O4:=jj (own_below O2.out hbl);clear hbl;generalize rowB [Lib.itoa n,y] = z at *)
     | (refine step_append_own rfl (.tmp 15) (.tmp 23) 23 rfl w.heap.size 9 i0 _ 1 16 Tryz.underlying23 hi0 hz0 hz1 hz2 rfl (by decide) _ _ _ rfl (O4.out.alloc (.cells #[S z] 9)) ⟨w4.heap.size,0,none⟩ 1 1 [S z] rfl rfl (fun i u hu => by
       obtain ⟨ad',e',_,hc'⟩:=lies_made w4 9 [S z] (w4.heap.size + 1) (by omega) i u hu;injection e' with e';subst e';exact hc') (by simp [Value.oneCell']) H63.out HBY.out (by have:=B4.size;simp;omega) ?_;intro v' w5 hown' hgrow _;clear BB;have BB:=(B4.alloc B4.size (.cells #[S z] 9)).grown hgrow (by have:=B4.size;simp;omega) (own_ge O4.out);have X5:=((HX.out.below BK HGL.out).block (.cells #[S z] 9)).other hgrow (fun e => absurd (HOL.out _ e.symm) (Nat.lt_irrefl _));have C5:=And.intro (X5.cell 0) (X5.cell 1)))
   have HO5 : Hid (OwnS w5 w.heap.size v' (acc ++ [z])):=jj (by have:=hown';rw [show (acc.map S ++ [S z]) = (acc ++ [z]).map S by simp] at this;unfold OwnS;rw [List.length_append];exact this);have HB5:=jj BB;rw [← HE.out,← HTK.out] at HO5;clear hown' hgrow BB BK B4 K4 b0' b1' O2 O4 C5 X5;go_wp2_with fail
   go_roundw
   case rel =>
    have R : ∃ k' : Nat,k' ≤ l.length ∧ Value.int .i64 ((k : Int) + 1) = .int .i64 k' ∧ Hid (OwnS w5 w.heap.size v' ((l.take k').map nbRow)) ∧ Hid (Below w.heap.size w w5):=⟨k + 1,by omega,by go_num,HO5,HB5⟩
    first | exact R | ((repeat apply Exists.intro);exact ⟨R,rfl⟩)
   case measure => simp [intOf];omega
  ·obtain rfl : k = l.length:=(by omega);have hd : decide (l.length < l.length) = false:=(by simp);rw [List.take_of_length_le (Nat.le_refl _)] at HO;obtain ⟨A,c,rfl,hlies,_⟩:=own_shape HO.out (by omega);have hls:=nbs_size hl HR.out HS.out;have HLI:=jj hlies;obtain ⟨acc,HACC⟩ : ∃ z,Hid (l.map nbRow = z):=⟨_,jj rfl⟩;have HGO : Hid (nbsRow l = rowB acc):=jj (by unfold nbsRow;rw [HACC.out]);rw [HACC.out] at HLI hls;rw [HACC.out];clear hlies;go_wp2_with fail;refine (row_any wr A c acc HLI.out (by omega)).mono ?_;rintro e w2 ⟨rfl,hb2⟩;have HB2:=jj (HW.out.trans (hb2.mono HW.out.size));clear hb2;go_wp2_with fail;go_ret;exact ⟨by rw [HGO.out];rfl,HB2.out⟩
end Go.Proofs.YtnbphabheikfeaaGreatDoor
