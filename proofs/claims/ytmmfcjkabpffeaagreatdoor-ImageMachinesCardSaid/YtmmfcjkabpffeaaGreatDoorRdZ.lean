import Derived.Test.YtmmfcjkabpffeaaGreatDoorRowS
import Derived.Test.YtmmfcjkabpffeaaGreatDoorMcA
import Derived.Deep.RegionHeld3
import Derived.Test.YtmmfcjkabpffeaaGreatDoorTextZ
namespace Go.Proofs.YtmmfcjkabpffeaaGreatDoor
open Go.RowKit
theorem row_four (w : World) (a b c d : List UInt8) (hs : sizeOf [a,b,c,d] ≤ 34359738368) :
  Calls Tryz.prog 28 #[.slice (some ⟨w.heap.size,0,none⟩) 4 4] (w.alloc (.cells #[S a,S b,S c,S d] 9)) fun e w' => e = .returned (S (rowB [a,b,c,d])) ∧ Below w.heap.size w w' :=
 (row_any (w.alloc (.cells #[S a,S b,S c,S d] 9)) (some ⟨w.heap.size,0,none⟩) 4 [a,b,c,d] (lies_made w 9 [S a,S b,S c,S d] _ (by simp)) hs).mono fun _ _ h => ⟨h.1,((Below.refl _ _).alloc (Nat.le_refl _) _).trans (h.2.mono (by simp))⟩
def imgB (fs bs : List (List UInt8)) (r : List UInt8) : List UInt8:=rowB [[104,105,98,105],rowB fs,rowB bs,r]
theorem imgB_size (fs bs : List (List UInt8)) (r : List UInt8) (h : sizeOf fs + sizeOf bs + r.length ≤ 4294967296) : sizeOf [[104,105,98,105],rowB fs,rowB bs,r] ≤ 34359738368:=by
 have h1:=rowB_le fs (by omega);have h2:=rowB_le bs (by omega);simp only [sizeOf,List.map_cons,List.map_nil,List.sum_cons,List.sum_nil,List.length_cons,List.length_nil];unfold sizeOf at h1 h2 h;omega
set_option maxRecDepth 100000 in
set_option maxHeartbeats 2000000 in
theorem imgBytes_any (w : World) (A A' : Option Addr) (c c' : Nat) (fs bs : List (List UInt8)) (r : List UInt8) (hA : Strs w w.heap.size A fs) (hA' : Strs w w.heap.size A' bs) (hs : sizeOf fs + sizeOf bs + r.length ≤ 4294967296) :
  Calls Tryz.prog 13 #[.agg #[.slice A fs.length c,.slice A' bs.length c',S r]] w fun e w' => e = .returned (S (imgB fs bs r)) ∧ Below w.heap.size w w':=by
 have HA:=jj hA;have HA':=jj hA';clear hA hA';have HS:=jj (imgB_size fs bs r hs);go_enter Tryz.func13,Tryz.ntmps13;go_wp2_with fail;have hx:=Whole.made w 36 #[.slice A fs.length c,.slice A' bs.length c',S r];have hb:=(Below.refl w.heap.size w).alloc (Nat.le_refl _) (.cells #[.slice A fs.length c,.slice A' bs.length c',S r] 36);have hz : (w.alloc (.cells #[.slice A fs.length c,.slice A' bs.length c',S r] 36)).heap.size = w.heap.size + 1:=(by simp);have c0:=hx.cell 0;have c1:=hx.cell 1;have c2:=hx.cell 2;simp only [List.getElem?_toArray,List.getElem?_cons_zero,List.getElem?_cons_succ] at c0 c1 c2;have HB:=jj hb;have HZ:=jj hz;have C0:=jj c0;have C1:=jj c1;have C2:=jj c2;clear hx hb hz;generalize w.alloc (.cells #[.slice A fs.length c,.slice A' bs.length c',S r] 36) = w1 at *;have hlt : w.heap.size < w1.heap.size:=(by have:=HZ.out;omega);generalize hgx : w.heap.size = gx at *;have HGX:=jj hgx;clear hgx;have rowF : ∀ W : World,Below (gx + 1) w1 W → Calls Tryz.prog 28 #[.slice A fs.length c] W fun e w' => e = .returned (S (rowB fs)) ∧ Below W.heap.size W w':=fun W hW => row_any W A c fs (((HA.out.below HB.out).below (hW.mono (by omega))).wide (by have:=hW.size;omega)) (by omega);have rowG : ∀ W : World,Below (gx + 1) w1 W → Calls Tryz.prog 28 #[.slice A' bs.length c'] W fun e w' => e = .returned (S (rowB bs)) ∧ Below W.heap.size W w':=fun W hW => row_any W A' c' bs (((HA'.out.below HB.out).below (hW.mono (by omega))).wide (by have:=hW.size;omega)) (by omega);have RF:=jj rowF;have RG:=jj rowG;clear rowF rowG
 go_region_held3 (fun w' => w'.cell? ⟨gx,0,none⟩ = some (.slice A fs.length c) ∧ w'.cell? ⟨gx,1,none⟩ = some (.slice A' bs.length c') ∧ w'.cell? ⟨gx,2,none⟩ = some (S r))
  (first
   | go_keep
   | (exact ⟨(BB.cell (p:=⟨gx,0,none⟩) (Nat.lt_succ_self _)).trans C0.out,(BB.cell (p:=⟨gx,1,none⟩) (Nat.lt_succ_self _)).trans C1.out,(BB.cell (p:=⟨gx,2,none⟩) (Nat.lt_succ_self _)).trans C2.out⟩))
  (first
   | (go_at_call_of 28 (Value.slice A fs.length c);refine (RF.out _ ?_).mono ?_;(exact (Below.refl _ _).drew);rintro e w2 ⟨rfl,hbl⟩;have B2 : Below (gx + 1) w1 w2:=((Below.refl _ _).drew).trans (hbl.mono hlt);have BB:=B2;have hlt2 : gx < w2.heap.size:=Nat.lt_of_lt_of_le hlt hbl.size)
   | (go_at_call_of 28 (Value.slice A' bs.length c');refine (RG.out _ ?_).mono ?_;(exact B2);rintro e w3 ⟨rfl,hbl⟩;have B3 : Below (gx + 1) w1 w3:=B2.trans (hbl.mono hlt2);have BB:=B3;have hlt3 : gx < w3.heap.size:=Nat.lt_of_lt_of_le hlt2 hbl.size)
   | (go_at_call 28;refine (row_four w3 [104,105,98,105] (rowB fs) (rowB bs) r HS.out).mono ?_;rintro e w4 ⟨rfl,hbl⟩;have B4 : Below (gx + 1) w1 w4:=B3.trans (hbl.mono hlt3);have BB:=B4))
 go_wp2
 go_ret;refine ⟨rfl,?_⟩;rw [HGX.out];exact HB.out.trans (B4.mono (by omega))
end Go.Proofs.YtmmfcjkabpffeaaGreatDoor
namespace Go.Proofs.YtmmfcjkabpffeaaGreatDoor
open Go.RowKit
theorem read_lies3 {w : World} {p : Nat} {A : Option Addr} {xs : List Value} {a' b' c' : Value} (h : Lies w w.heap.size A xs) (hg : ∀ ad,A = some ad → p < ad.block) :
  Lies (((w.setCell ⟨p,0,none⟩ a').setCell ⟨p,1,none⟩ b').setCell ⟨p,2,none⟩ c') (((w.setCell ⟨p,0,none⟩ a').setCell ⟨p,1,none⟩ b').setCell ⟨p,2,none⟩ c').heap.size A xs:=fun k u hu => by
 obtain ⟨ad,e,hb,hc⟩:=h k u hu;have hp:=hg ad e;refine ⟨ad,e,by simpa [World.setCell] using hb,?_⟩
 have hn : ∀ o,(⟨p,o,none⟩ : Addr) ≠ ad.add k:=fun o e2 => by
  have:=congrArg Addr.block e2;rw [add_block] at this;simp only at this;omega
 rw [World.cell?_setCell_other _ _ _ _ (hn 2),World.cell?_setCell_other _ _ _ _ (hn 1),World.cell?_setCell_other _ _ _ _ (hn 0)];exact hc
theorem read_below3 {B p : Nat} {w0 w : World} {a' b' c' : Value} (h : Below B w0 w) (hp : B ≤ p) : Below B w0 (((w.setCell ⟨p,0,none⟩ a').setCell ⟨p,1,none⟩ b').setCell ⟨p,2,none⟩ c'):=((h.setCell (p:=⟨p,0,none⟩) hp a').setCell (p:=⟨p,1,none⟩) hp b').setCell (p:=⟨p,2,none⟩) hp c'
def readL (b : List UInt8) : Option (List (List UInt8) × List (List UInt8) × List UInt8) :=
 match textsA [] b with
 | .ok [t0,t1,t2,t3] =>
  if t0 = [104,105,98,105] then
   match textsA [] t1,textsA [] t2 with
   | .ok f,.ok g => some (f,g,t3)
   | _,_ => none
  else none
 | _ => none
def ReadPost (w : World) (q : Option (List (List UInt8) × List (List UInt8) × List UInt8)) (e : Ending) (w' : World) : Prop :=
 (match q with
  | none => e = .returned (.tuple #[.agg #[.slice none 0 0,.slice none 0 0,S []],.int .i64 3])
  | some (f,g,r) => ∃ G k G' k',e = .returned (.tuple #[.agg #[.slice G f.length k,.slice G' g.length k',S r],.int .i64 0]) ∧ Strs w' w'.heap.size G f ∧ Strs w' w'.heap.size G' g) ∧ Below w.heap.size w w'
theorem readL_err {b : List UInt8} {x : Int} (h : textsA [] b = .error x) : readL b = none:=by unfold readL;rw [h]
theorem readL_len {b : List UInt8} {ls : List (List UInt8)} (h : textsA [] b = .ok ls) (hl : ls.length ≠ 4) : readL b = none:=by
 unfold readL;rw [h]
 match ls,hl with
 | [],_ => rfl
 | [_],_ => rfl
 | [_,_],_ => rfl
 | [_,_,_],_ => rfl
 | [_,_,_,_],h => exact absurd rfl h
 | _ :: _ :: _ :: _ :: _ :: _,_ => rfl
theorem readL_word {b : List UInt8} {t0 t1 t2 t3 : List UInt8} (h : textsA [] b = .ok [t0,t1,t2,t3]) (hl : t0 ≠ [104,105,98,105]) : readL b = none:=by
 unfold readL;rw [h];dsimp only;rw [if_neg hl]
theorem readL_one {b : List UInt8} {t0 t1 t2 t3 : List UInt8} {x : Int} (h : textsA [] b = .ok [t0,t1,t2,t3]) (h1 : textsA [] t1 = .error x) : readL b = none:=by
 unfold readL;rw [h];dsimp only;split
 ·rw [h1]
 ·rfl
theorem readL_two {b : List UInt8} {t0 t1 t2 t3 : List UInt8} {x : Int} (h : textsA [] b = .ok [t0,t1,t2,t3]) (h1 : textsA [] t2 = .error x) : readL b = none:=by
 unfold readL;rw [h];dsimp only;split
 ·rw [h1];cases textsA [] t1 <;> rfl
 ·rfl
theorem readL_ok {b : List UInt8} {t0 t1 t2 t3 : List UInt8} {f g : List (List UInt8)} (h : textsA [] b = .ok [t0,t1,t2,t3]) (h0 : t0 = [104,105,98,105]) (h1 : textsA [] t1 = .ok f) (h2 : textsA [] t2 = .ok g) : readL b = some (f,g,t3):=by
 unfold readL;rw [h];dsimp only;rw [if_pos h0,h1,h2]
theorem texts_mem {b : List UInt8} {ls : List (List UInt8)} (h : textsA [] b = .ok ls) : ∀ l ∈ ls,l.length ≤ b.length:=by
 rw [texts_len h];intro l hl;obtain ⟨x,y,rfl⟩:=List.append_of_mem hl;rw [rowB_append,rowB_cons];simp only [List.length_append];omega
theorem texts_count {b : List UInt8} {ls : List (List UInt8)} (h : textsA [] b = .ok ls) : ls.length ≤ b.length:=by
 rw [texts_len h];clear h;induction ls with
 | nil => simp
 | cons l ls ih => rw [rowB_cons];have:=List.length_pos_iff.2 (lenB_ne l.length);simp only [List.length_append,List.length_cons];omega
theorem Strs.four {w : World} {B : Nat} {A : Option Addr} {t0 t1 t2 t3 : List UInt8} (h : Strs w B A [t0,t1,t2,t3]) :
  ∃ ad,A = some ad ∧ ad.block < B ∧ w.cell? (ad.add 0) = some (S t0) ∧ w.cell? (ad.add 1) = some (S t1) ∧ w.cell? (ad.add 2) = some (S t2) ∧ w.cell? (ad.add 3) = some (S t3):=by
 obtain ⟨ad,rfl,hb,c0⟩:=h 0 _ rfl;obtain ⟨a1,e1,_,c1⟩:=h 1 _ rfl;obtain ⟨a2,e2,_,c2⟩:=h 2 _ rfl;obtain ⟨a3,e3,_,c3⟩:=h 3 _ rfl;injection e1 with e1;injection e2 with e2;injection e3 with e3;subst e1 e2 e3;exact ⟨ad,rfl,hb,c0,c1,c2,c3⟩
set_option maxRecDepth 100000 in
set_option maxHeartbeats 2000000 in
theorem read_any (w : World) (b : List UInt8) (hb : b.length ≤ 4294967296) :
  Calls Tryz.prog 27 #[S b] w (ReadPost w (readL b)):=by
 have HZ:=jj (Whole.made w 36 #[.slice none 0 0,.slice none 0 0,S []]);have HW:=jj ((Below.refl w.heap.size w).alloc (Nat.le_refl _) (.cells #[.slice none 0 0,.slice none 0 0,S []] 36));go_enter Tryz.func27,Tryz.ntmps27;go_wp2_with fail;change Calls _ _ _ (w.alloc (.cells #[.slice none 0 0,.slice none 0 0,S []] 36)) _;generalize w.alloc (.cells #[.slice none 0 0,.slice none 0 0,S []] 36) = w1 at *;generalize hgx : w.heap.size = gx at *;have HGX:=jj hgx;clear hgx;have FIN : Hid (∀ W : World,Whole W gx 36 #[.slice none 0 0,.slice none 0 0,S []] → W.cell? ⟨gx,0,none⟩ = some (Value.slice none 0 0) ∧ W.cell? ⟨gx,1,none⟩ = some (Value.slice none 0 0) ∧ W.cell? ⟨gx,2,none⟩ = some (S []) ∧ W.frozen? ⟨gx,0,none⟩ = false ∧ W.frozen? ⟨gx,1,none⟩ = false ∧ W.frozen? ⟨gx,2,none⟩ = false):=jj fun W h => ⟨h.cell 0,h.cell 1,h.cell 2,h.free 0,h.free 1,h.free 2⟩;refine (texts_any w1 b (by omega)).mono ?_;rintro e w2 ⟨hm,hb2⟩;have HZ2:=jj (HZ.out.below hb2 HZ.out.lt);have HW2:=jj (HW.out.trans (hb2.mono (by have:=HZ.out.lt;omega)));have hgl:=HZ.out.lt;clear hb2 HZ HW;cases hT : textsA [] b with
 | error x =>
  have HQ:=jj (readL_err hT);have hx:=textsA_err' _ _ _ _ (Nat.le_refl _) hT;have hx0 : (x != 0) = true:=by rcases hx with rfl | rfl <;> rfl
  rw [hT] at hm;dsimp only at hm;subst hm;clear hT hx;obtain ⟨z0,z1,z2,y0,y1,y2⟩:=FIN.out w2 HZ2.out;go_wp2_with fail;refine bodyPost_ret (v:=.tuple #[.agg #[.slice none 0 0,.slice none 0 0,S []],.int .i64 3]) (by simp [results,Tryz.results27,go_sem,z0,z1,z2]) rfl ?_;unfold ReadPost;rw [HQ.out,HGX.out];exact ⟨rfl,read_below3 HW2.out (Nat.le_refl _)⟩
 | ok ls =>
  rw [hT] at hm;obtain ⟨v,rfl,ho⟩:=hm;obtain ⟨G,kg,rfl,hlies,_⟩:=own_shape ho (by omega);clear ho;by_cases hl : ls.length = 4
  ·obtain ⟨t0,t1,t2,t3,rfl⟩ : ∃ t0 t1 t2 t3,ls = [t0,t1,t2,t3]:=by
    match ls,hl with
    | [t0,t1,t2,t3],_ => exact ⟨t0,t1,t2,t3,rfl⟩
   obtain ⟨ad,rfl,had,c0,c1,c2,c3⟩:=Strs.four hlies;have m1:=texts_mem hT t1 (by simp);have m2:=texts_mem hT t2 (by simp);have HTT:=jj hT;clear hl hlies hT
   have HCC : Hid (∀ W,Below w2.heap.size w2 W → W.cell? ad = some (S t0) ∧ W.cell? (ad.add 0) = some (S t0) ∧ W.cell? (ad.add 1) = some (S t1) ∧ W.cell? (ad.add 2) = some (S t2) ∧ W.cell? (ad.add 3) = some (S t3) ∧ W.cell? ⟨ad.block,ad.off + 1,none⟩ = some (S t1) ∧ W.cell? ⟨ad.block,ad.off + 2,none⟩ = some (S t2) ∧ W.cell? ⟨ad.block,ad.off + 3,none⟩ = some (S t3)):=jj fun W hW => by
    have k0:=(hW.cell (p:=ad.add 0) (by rw [add_block];exact had)).trans c0;have k1:=(hW.cell (p:=ad.add 1) (by rw [add_block];exact had)).trans c1;have k2:=(hW.cell (p:=ad.add 2) (by rw [add_block];exact had)).trans c2;have k3:=(hW.cell (p:=ad.add 3) (by rw [add_block];exact had)).trans c3;exact ⟨k0,k0,k1,k2,k3,k1,k2,k3⟩
   clear c0 c1 c2 c3;by_cases hw : t0 = [104,105,98,105]
   ·subst hw;obtain ⟨c0,c0',c1,c2,c3,c1',c2',c3'⟩:=HCC.out w2 (Below.refl _ _);go_wp2_with fail;refine (texts_any w2 t1 (by omega)).mono ?_;rintro e w3 ⟨hm,hb3⟩;have HZ3:=jj (HZ2.out.below hb3 HZ2.out.lt);have HW3:=jj (HW2.out.trans (hb3.mono (by have:=HZ2.out.lt;omega)));have HB3:=jj hb3;have hl3:=hb3.size;clear hb3 c0 c0' c1 c2 c3 c1' c2' c3';cases hT1 : textsA [] t1 with
    | error x =>
     have HQ:=jj (readL_one HTT.out hT1);have hx:=textsA_err' _ _ _ _ (Nat.le_refl _) hT1;have hx0 : (x != 0) = true:=by rcases hx with rfl | rfl <;> rfl
     rw [hT1] at hm;dsimp only at hm;subst hm;clear hT1 hx;obtain ⟨z0,z1,z2,y0,y1,y2⟩:=FIN.out w3 HZ3.out;go_wp2_with fail;refine bodyPost_ret (v:=.tuple #[.agg #[.slice none 0 0,.slice none 0 0,S []],.int .i64 3]) (by simp [results,Tryz.results27,go_sem,z0,z1,z2]) rfl ?_;unfold ReadPost;rw [HQ.out,HGX.out];exact ⟨rfl,read_below3 HW3.out (Nat.le_refl _)⟩
    | ok f =>
     rw [hT1] at hm;obtain ⟨v,rfl,ho⟩:=hm;obtain ⟨F,kf,rfl,hlf,hfb⟩:=own_shape ho (by omega);have HTF:=jj hT1;have HLF:=jj hlf;have NF : Hid (∀ ad,F = some ad → gx < ad.block):=jj (fun ad e => by have:=hfb ad e;have:=HZ2.out.lt;omega);clear ho hT1 hlf hfb;obtain ⟨c0,c0',c1,c2,c3,c1',c2',c3'⟩:=HCC.out w3 HB3.out;go_wp2_with fail;refine (texts_any w3 t2 (by omega)).mono ?_;rintro e w4 ⟨hm,hb4⟩;have HZ4:=jj (HZ3.out.below hb4 HZ3.out.lt);have HW4:=jj (HW3.out.trans (hb4.mono (by have:=HZ3.out.lt;omega)));have HB4:=jj (HB3.out.trans (hb4.mono hl3));have HLF4:=jj (Lies.wide (Lies.below HLF.out hb4) hb4.size);clear hb4 c0 c0' c1 c2 c3 c1' c2' c3';cases hT2 : textsA [] t2 with
     | error x =>
      have HQ:=jj (readL_two HTT.out hT2);have hx:=textsA_err' _ _ _ _ (Nat.le_refl _) hT2;have hx0 : (x != 0) = true:=by rcases hx with rfl | rfl <;> rfl
      rw [hT2] at hm;dsimp only at hm;subst hm;clear hT2 hx;obtain ⟨z0,z1,z2,y0,y1,y2⟩:=FIN.out w4 HZ4.out;go_wp2_with fail;refine bodyPost_ret (v:=.tuple #[.agg #[.slice none 0 0,.slice none 0 0,S []],.int .i64 3]) (by simp [results,Tryz.results27,go_sem,z0,z1,z2]) rfl ?_;unfold ReadPost;rw [HQ.out,HGX.out];exact ⟨rfl,read_below3 HW4.out (Nat.le_refl _)⟩
     | ok g => rw [hT2] at hm;obtain ⟨v,rfl,ho⟩:=hm;obtain ⟨F',kf',rfl,hlg,hgb⟩:=own_shape ho (by omega);have HQ:=jj (readL_ok HTT.out rfl HTF.out hT2);have HLG:=jj hlg;have NF' : Hid (∀ ad,F' = some ad → gx < ad.block):=jj (fun ad e => by have:=hgb ad e;have:=HZ3.out.lt;omega);clear ho hT2 hlg hgb;obtain ⟨c0,c0',c1,c2,c3,c1',c2',c3'⟩:=HCC.out w4 HB4.out;obtain ⟨z0,z1,z2,y0,y1,y2⟩:=FIN.out w4 HZ4.out;go_wp2_with fail;refine bodyPost_ret (v:=.tuple #[.agg #[.slice F f.length kf,.slice F' g.length kf',S t3],.int .i64 0]) (by simp [results,Tryz.results27,go_sem,z0,z1,z2]) rfl ?_;unfold ReadPost;rw [HQ.out,HGX.out];exact ⟨⟨F,kf,F',kf',rfl,read_lies3 HLF4.out NF.out,read_lies3 HLG.out NF'.out⟩,read_below3 HW4.out (Nat.le_refl _)⟩
   ·have HQ:=jj (readL_word HTT.out hw);have hbe : (t0 == [104,105,98,105]) = false:=beq_eq_false_iff_ne.2 hw;have hbn : (t0 != [104,105,98,105]) = true:=(by simp [bne,hbe]);clear hw;obtain ⟨c0,c0',c1,c2,c3,c1',c2',c3'⟩:=HCC.out w2 (Below.refl _ _);obtain ⟨z0,z1,z2,y0,y1,y2⟩:=FIN.out w2 HZ2.out;go_wp2_with fail;refine bodyPost_ret (v:=.tuple #[.agg #[.slice none 0 0,.slice none 0 0,S []],.int .i64 3]) (by simp [results,Tryz.results27,go_sem,z0,z1,z2]) rfl ?_;unfold ReadPost;rw [HQ.out,HGX.out];exact ⟨rfl,read_below3 HW2.out (Nat.le_refl _)⟩
  ·have HQ:=jj (readL_len hT hl);have e4 : ((ls.length : Int) != 4) = true:=(by simp;omega);clear hT hl;obtain ⟨z0,z1,z2,y0,y1,y2⟩:=FIN.out w2 HZ2.out;go_wp2_with fail;refine bodyPost_ret (v:=.tuple #[.agg #[.slice none 0 0,.slice none 0 0,S []],.int .i64 3]) (by simp [results,Tryz.results27,go_sem,z0,z1,z2]) rfl ?_;unfold ReadPost;rw [HQ.out,HGX.out];exact ⟨rfl,read_below3 HW2.out (Nat.le_refl _)⟩
end Go.Proofs.YtmmfcjkabpffeaaGreatDoor
namespace Go.Proofs.YtmmfcjkabpffeaaGreatDoor
open Go.RowKit
def imgEq (fa ba : List (List UInt8)) (ra : List UInt8) (fb bb : List (List UInt8)) (rb : List UInt8) : Bool:=decide (ra = rb ∧ fa = fb ∧ ba = bb)
set_option maxRecDepth 100000 in
set_option maxHeartbeats 1000000 in
theorem texts32_any (w : World) (A B : Option Addr) (c d : Nat) (a b : List (List UInt8)) (hA : Strs w w.heap.size A a) (hB : Strs w w.heap.size B b) (ha : a.length ≤ 1099511627776) (hb : b.length ≤ 1099511627776) :
  Calls Tryz.prog 32 #[.slice A a.length c,.slice B b.length d] w fun e w' => e = .returned (.bool (decide (a = b))) ∧ Below w.heap.size w w':=by
 have HA:=jj hA;have HB:=jj hB;clear hA hB;by_cases hl : a.length = b.length
 ·have n1 : ((a.length : Int) != (b.length : Int)) = false:=(by simp [hl]);have n2 : (a.length != b.length) = false:=(by simp [hl]);have HL:=jj hl;clear hl;go_enter Tryz.func32,Tryz.ntmps32;go_wp2_with fail;clear n1 n2
  go_loopw [13] (fun i wr => ∃ k : Nat,k ≤ a.length ∧ i = .int .i64 k ∧ Hid (a.take k = b.take k) ∧ Hid (Below w.heap.size w wr)) (fun i _ => a.length - (intOf i).toNat)
  case atStart => exact ⟨0,by omega,rfl,jj rfl,jj (Below.refl _ _)⟩
  case round =>
   obtain ⟨k,hk,rfl,HE,HW⟩:=hrel;by_cases hlt : k < a.length
   ·have hltb : k < b.length:=(by rw [← HL.out];exact hlt);obtain ⟨ad,rfl,had,a0⟩:=HA.out.at' hlt;obtain ⟨bd,rfl,hbd,b0⟩:=HB.out.at' hltb;have a0' : wr.cell? (ad.add k) = _:=(HW.out.cell (by rw [add_block];exact had)).trans a0;have b0' : wr.cell? (bd.add k) = _:=(HW.out.cell (by rw [add_block];exact hbd)).trans b0;clear a0 b0;have TA : Hid (a.take (k + 1) = a.take k ++ [a.getD k []]):=jj (by rw [List.take_succ_eq_append_getElem hlt];simp [List.getD,hlt]);have TB : Hid (b.take (k + 1) = b.take k ++ [b.getD k []]):=jj (by rw [List.take_succ_eq_append_getElem hltb];simp [List.getD,hltb]);have HN : Hid (a.getD k [] ≠ b.getD k [] → decide (a = b) = false):=jj (fun hne => by simp;rintro rfl;exact hne rfl);generalize a.getD k [] = x at *;generalize b.getD k [] = y at *;have i0 : (0 : Int) ≤ (k : Int):=(by omega);have i1 : (k : Int) < (a.length : Int):=(by omega);have i2 : (k : Int) < (b.length : Int):=(by omega);by_cases h2 : x = y
    ·subst h2;clear HN;go_wp2_with fail;go_quiet (fail);go_wp2_with fail
     go_roundw
     case rel =>
      have R : ∀ M : Nat,∃ k' : Nat,k' ≤ a.length ∧ Value.int .i64 ((k : Int) + 1) = .int .i64 k' ∧ Hid (a.take k' = b.take k') ∧ Hid (Below w.heap.size w (wr.drewN M)):=fun M => ⟨k + 1,by omega,by go_num,jj (by rw [TA.out,TB.out,HE.out]),jj (Below.draws HW.out _)⟩
      first | exact R _ | ((repeat apply Exists.intro);exact ⟨R _,rfl⟩)
     case measure => simp [intOf];omega
    ·have hbe : (x == y) = false:=beq_eq_false_iff_ne.2 h2;have hbn : (x != y) = true:=(by simp [bne,hbe]);have HNN:=jj (HN.out h2);clear HN;go_wp2_with fail;go_quiet (fail);go_wp2_with fail;go_ret;exact ⟨by rw [HNN.out];rfl,Below.draws HW.out _⟩
   ·obtain rfl : k = a.length:=(by omega);have hd : decide (a.length < a.length) = false:=(by simp);have HQ : Hid (decide (a = b) = true):=jj (decide_eq_true (take_eq_of HL.out HE.out));go_wp2_with fail;go_ret;exact ⟨by rw [HQ.out];rfl,HW.out⟩
 ·have n1 : ((a.length : Int) != (b.length : Int)) = true:=(by simp;omega);have n2 : (a.length != b.length) = true:=(by simp [hl]);have HQ : Hid (decide (a = b) = false):=jj (by simp;rintro rfl;exact hl rfl);clear hl;go_enter Tryz.func32,Tryz.ntmps32;go_wp2_with fail;go_ret;exact ⟨by rw [HQ.out];rfl,Below.refl _ _⟩
set_option maxRecDepth 100000 in
set_option maxHeartbeats 1000000 in
theorem same32_any (w : World) (A A' B B' : Option Addr) (c c' d d' : Nat) (fa ba fb bb : List (List UInt8)) (ra rb : List UInt8) (hA : Strs w w.heap.size A fa) (hA' : Strs w w.heap.size A' ba) (hB : Strs w w.heap.size B fb) (hB' : Strs w w.heap.size B' bb)
  (la : fa.length ≤ 1099511627776) (la' : ba.length ≤ 1099511627776) (lb : fb.length ≤ 1099511627776) (lb' : bb.length ≤ 1099511627776) :
  Calls Tryz.prog 12 #[.agg #[.slice A fa.length c,.slice A' ba.length c',S ra],.agg #[.slice B fb.length d,.slice B' bb.length d',S rb]] w fun e w' => e = .returned (.bool (imgEq fa ba ra fb bb rb)) ∧ Below w.heap.size w w':=by
 have HA:=jj hA;have HA':=jj hA';have HB:=jj hB;have HB':=jj hB';clear hA hA' hB hB';have hX:=(Whole.made w 36 #[.slice A fa.length c,.slice A' ba.length c',S ra]).block (.cells #[.slice B fb.length d,.slice B' bb.length d',S rb] 36);have hY:=Whole.made (w.alloc (.cells #[.slice A fa.length c,.slice A' ba.length c',S ra] 36)) 36 #[.slice B fb.length d,.slice B' bb.length d',S rb];have hW : Below w.heap.size w ((w.alloc (.cells #[.slice A fa.length c,.slice A' ba.length c',S ra] 36)).alloc (.cells #[.slice B fb.length d,.slice B' bb.length d',S rb] 36)):=((Below.refl _ _).alloc (Nat.le_refl _) _).alloc (by simp) _;rw [show (w.alloc (.cells #[.slice A fa.length c,.slice A' ba.length c',S ra] 36)).heap.size = w.heap.size + 1 by simp] at hY;go_enter Tryz.func12,Tryz.ntmps12;go_upto_region 1 with (fail);have hlw : w.heap.size + 1 < ((w.alloc (.cells #[.slice A fa.length c,.slice A' ba.length c',S ra] 36)).alloc (.cells #[.slice B fb.length d,.slice B' bb.length d',S rb] 36)).heap.size:=hY.lt;have x0 : _ = some (Value.slice A fa.length c):=hX.cell 0;have x1 : _ = some (Value.slice A' ba.length c'):=hX.cell 1;have x2 : _ = some (S ra):=hX.cell 2;have y0 : _ = some (Value.slice B fb.length d):=hY.cell 0;have y1 : _ = some (Value.slice B' bb.length d'):=hY.cell 1;have y2 : _ = some (S rb):=hY.cell 2;clear hX hY;generalize ((w.alloc (.cells #[.slice A fa.length c,.slice A' ba.length c',S ra] 36)).alloc (.cells #[.slice B fb.length d,.slice B' bb.length d',S rb] 36)) = w1 at *;have HWB:=jj hW;have X1:=jj x1;have Y1:=jj y1;clear hW;have X2:=jj x2;have Y2:=jj y2;go_wp2_with fail;refine (texts32_any w1 A B c d fa fb ((HA.out.below HWB.out).wide HWB.out.size) ((HB.out.below HWB.out).wide HWB.out.size) la lb).mono ?_;rintro e w2 ⟨rfl,hb2⟩;have x1' : w2.cell? ⟨w.heap.size,1,none⟩ = _:=(hb2.cell (by show w.heap.size < _;omega)).trans X1.out;have y1' : w2.cell? ⟨w.heap.size + 1,1,none⟩ = _:=(hb2.cell (by show w.heap.size + 1 < _;omega)).trans Y1.out;have X2':=jj ((hb2.cell (p:=⟨w.heap.size,2,none⟩) (by show w.heap.size < _;omega)).trans X2.out);have Y2':=jj ((hb2.cell (p:=⟨w.heap.size + 1,2,none⟩) (by show w.heap.size + 1 < _;omega)).trans Y2.out);have HWB2 : Hid (Below w.heap.size w w2):=jj (HWB.out.trans (hb2.mono (by omega)));have hlw2 : w.heap.size + 1 < w2.heap.size:=Nat.lt_of_lt_of_le hlw hb2.size
 clear hb2 x0 x1 x2 y0 y1 y2 hlw;by_cases hf : fa = fb
 ·have HF:=jj hf;rw [show decide (fa = fb) = true from decide_eq_true hf];clear hf;go_wp2_with fail;refine (texts32_any w2 A' B' c' d' ba bb ((HA'.out.below HWB2.out).wide HWB2.out.size) ((HB'.out.below HWB2.out).wide HWB2.out.size) la' lb').mono ?_;rintro e w3 ⟨rfl,hb3⟩;have x2' : w3.cell? ⟨w.heap.size,2,none⟩ = some (S ra):=(hb3.cell (by show w.heap.size < _;omega)).trans X2'.out;have y2' : w3.cell? ⟨w.heap.size + 1,2,none⟩ = some (S rb):=(hb3.cell (by show w.heap.size + 1 < _;omega)).trans Y2'.out;have HWB3 : Hid (Below w.heap.size w w3):=jj (HWB2.out.trans (hb3.mono HWB2.out.size));clear hb3 x1' y1';by_cases hg : ba = bb
  ·rw [show decide (ba = bb) = true from decide_eq_true hg];by_cases hr : ra = rb
   ·have e1 : (ra == rb) = true:=beq_iff_eq.2 hr;have HQ : Hid (imgEq fa ba ra fb bb rb = true):=jj (by simp [imgEq,HF.out,hg,hr]);clear hr hg;go_wp2_with fail;go_ret;exact ⟨by rw [HQ.out];rfl,HWB3.out⟩
   ·have e1 : (ra == rb) = false:=beq_eq_false_iff_ne.2 hr;have HQ : Hid (imgEq fa ba ra fb bb rb = false):=jj (by simp [imgEq,hr]);clear hr hg;go_wp2_with fail;go_ret;exact ⟨by rw [HQ.out];rfl,HWB3.out⟩
  ·rw [show decide (ba = bb) = false from decide_eq_false hg];have HQ : Hid (imgEq fa ba ra fb bb rb = false):=jj (by simp [imgEq,hg]);clear hg;go_wp2_with fail;go_ret;exact ⟨by rw [HQ.out];rfl,HWB3.out⟩
 ·have HQ : Hid (imgEq fa ba ra fb bb rb = false):=jj (by simp [imgEq,hf]);rw [show decide (fa = fb) = false from decide_eq_false hf];clear hf;go_wp2_with fail;go_ret;exact ⟨by rw [HQ.out];rfl,HWB2.out⟩
end Go.Proofs.YtmmfcjkabpffeaaGreatDoor
