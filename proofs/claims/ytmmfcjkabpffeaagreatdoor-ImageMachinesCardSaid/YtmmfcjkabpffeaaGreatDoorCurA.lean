import Derived.Test.YtmmfcjkabpffeaaGreatDoorRdZ
import Derived.Test.YtmmfcjkabpffeaaGreatDoorDecB
import Derived.Test.YtmmfcjkabpffeaaGreatDoorNumG
import Derived.Test.YtmmfcjkabpffeaaGreatDoorRestA
namespace Go.Proofs.YtmmfcjkabpffeaaGreatDoor
open Go.RowKit
def Cur (w : World) (lo g B : Nat) (l : List (List UInt8)) : Prop :=
 (lo ≤ g ∧ g < B) ∧ ∃ A c,Whole w g 177 #[.slice A l.length c] ∧ Strs w B A l ∧ (∀ ad,A = some ad → ad.block ≠ g ∧ lo ≤ ad.block) ∧ l.length ≤ c ∧ l.length ≤ 274877906944
abbrev curV (g : Nat) : Value:=.pointer (some ⟨g,0,none⟩)
abbrev bentV : Value:=.iface 128 (.agg #[])
abbrev bentE : Ending:=.panicked [{ v:=bentV,recovered:=false }]
theorem own_cap {w : World} {base : Nat} {e : TypeId} {size n c : Nat} {A : Option Addr} {xs : List Value} (h : w.ownsRow base e size (.slice A n c) n xs) : n ≤ c:=by
 rcases h.2 with ⟨h,_⟩ | ⟨g,cap,cur,h,_,_,hc,_⟩
 ·injection h with _ h1 h2;omega
 ·injection h with _ h1 h2;omega
theorem own_apart {w : World} {base : Nat} {e : TypeId} {size n c : Nat} {A : Option Addr} {xs : List Value} (h : w.ownsRow base e size (.slice A n c) n xs) {ad : Addr} (ha : A = some ad) : ad.block ≠ w.heap.size:=fun k => by
 subst ha;have:=own_lt h ad.block rfl;omega
theorem grown_refl (w : World) (X : Option Nat) : w.grownBy w X:=⟨rfl,rfl,rfl,Nat.le_refl _,fun _ _ _ => rfl⟩
theorem grown_trans {a b c : World} {X : Option Nat} (h : a.grownBy b X) (k : b.grownBy c X) : a.grownBy c X :=
 ⟨k.os.trans h.os,k.tape.trans h.tape,k.output.trans h.output,Nat.le_trans h.size k.size,fun i hi hx => (k.block i (Nat.lt_of_lt_of_le hi h.size) hx).trans (h.block i hi hx)⟩
theorem grown_of_below {a b : World} {X : Option Nat} (h : Below a.heap.size a b) : a.grownBy b X:=⟨h.os,h.tape,h.output,h.size,fun i hi _ => h.block i hi⟩
theorem Cur.below {w w' : World} {lo g B : Nat} {l : List (List UInt8)} (h : Cur w lo g B l) (k : Below B w w') : Cur w' lo g B l:=by
 obtain ⟨hg,A,c,hw,hs,hn,hc,hl2⟩:=h;exact ⟨hg,A,c,hw.below k hg.2,Lies.below hs k,hn,hc,hl2⟩
theorem Cur.lower {w w' : World} {lo g B x : Nat} {l : List (List UInt8)} (h : Cur w lo g B l) (k : w.grownBy w' (some x)) (hx : x < lo) (hB : B ≤ w.heap.size) : Cur w' lo g B l:=by
 obtain ⟨hg,A,c,hw,hs,hn,hc,hl2⟩:=h;refine ⟨hg,A,c,hw.other k (by intro e;injection e with e;omega),fun j u hu => ?_,hn,hc,hl2⟩;obtain ⟨ad,e,hb,hcell⟩:=hs j u hu;refine ⟨ad,e,hb,?_⟩;have h2:=(hn ad e).2;rw [← hcell];unfold World.cell?;rw [add_block,k.block ad.block (by omega) (by intro e2;injection e2 with e2;omega)]
set_option maxRecDepth 100000 in
set_option maxHeartbeats 1000000 in
theorem more_any {lo : Nat} (w : World) (g B : Nat) (l : List (List UInt8)) (h : Cur w lo g B l) :
  Calls Tryz.prog 86 #[curV g] w fun e w' => e = .returned (.bool (!l.isEmpty)) ∧ w' = w:=by
 obtain ⟨hg,A,c,hw,hs,hn,hc,hl⟩:=h;have c0 : w.cell? ⟨g,0,none⟩ = some (.slice A l.length c):=hw.cell 0;go_enter Tryz.func86,Tryz.ntmps86;go_wp2_with fail;go_ret;exact ⟨by cases l <;> simp,rfl⟩
theorem grown_set1 (w : World) (g : Nat) (v : Value) : w.grownBy (w.setCell ⟨g,0,none⟩ v) (some g) :=
 ⟨rfl,rfl,rfl,by simp [World.setCell],fun i _ hx => Below.heap_setCell w ⟨g,0,none⟩ v i (fun e => hx (by rw [e]))⟩
theorem cur_next {w : World} {lo g B c k : Nat} {ad : Addr} {x : List UInt8} {l : List (List UInt8)} {A : Option Addr} (hw : Whole w g 177 #[.slice (some ad) (x :: l).length c]) (hg : lo ≤ g ∧ g < B) (hs : Strs w B (some ad) (x :: l)) (hn : ad.block ≠ g ∧ lo ≤ ad.block) (hA : l ≠ [] → A = some ⟨ad.block,ad.off + 1,none⟩) (hb : ∀ a,A = some a → a.block ≠ g ∧ lo ≤ a.block) (hk : l.length ≤ k) (hl : l.length ≤ 274877906944) :
  Cur (w.setCell ⟨g,0,none⟩ (.slice A l.length k)) lo g B l:=by
 refine ⟨hg,A,k,hw.set 0 _,fun j u hu => ?_,hb,hk,hl⟩;have hne : l ≠ []:=(by rintro rfl;simp at hu);rw [hA hne];obtain ⟨ad',e,hbk,hc⟩:=hs (j + 1) u (by simpa using hu);injection e with e;subst e
 have ea : ad.add (j + 1) = (⟨ad.block,ad.off + 1,none⟩ : Addr).add j:=by
  unfold Addr.add;by_cases h : j = 0
  ·simp [h]
  ·simp [h];omega
 refine ⟨_,rfl,hbk,?_⟩;rw [← ea,World.cell?_setCell_other _ _ _ _ (fun e2 => hn.1 (by rw [← add_block ad (j + 1),← e2]))];exact hc
def CurPost (w : World) (lo g B : Nat) (r : Option (Value × List (List UInt8))) (e : Ending) (w' : World) : Prop :=
 (match r with
  | none => e = bentE
  | some p => e = .returned p.1 ∧ Cur w' lo g B p.2) ∧ w.grownBy w' (some g)
def textR : List (List UInt8) → Option (Value × List (List UInt8))
 | [] => none
 | x :: l => some (S x,l)
def fixedR (n : Nat) : List (List UInt8) → Option (Value × List (List UInt8))
 | [] => none
 | x :: l => if x.length = n then some (S x,l) else none
def bytesR (n : Nat) : List (List UInt8) → Option (Value × List (List UInt8))
 | [] => none
 | x :: l => if x.length = n then some (.int .u64 (getL x),l) else none
def decR : List (List UInt8) → Option (Value × List (List UInt8))
 | [] => none
 | x :: l => (intP x).map fun n => (.int .i64 n,l)
def flagR : List (List UInt8) → Option (Value × List (List UInt8))
 | [] => none
 | x :: l => if x = [49] then some (.bool true,l) else if x = [48] then some (.bool false,l) else none
set_option maxRecDepth 100000 in
set_option maxHeartbeats 1000000 in
theorem text_any {lo : Nat} (w : World) (g B : Nat) (l : List (List UInt8)) (h : Cur w lo g B l) :
  Calls Tryz.prog 81 #[curV g] w (CurPost w lo g B (textR l)):=by
 have HM:=jj (more_any w g B l h);obtain ⟨hg,A,c,hw,hs,hn,hc,hl⟩:=h;have c0 : w.cell? ⟨g,0,none⟩ = some (.slice A l.length c):=hw.cell 0;have y0:=hw.free 0;cases l with
 | nil => clear c0 y0;go_enter Tryz.func81,Tryz.ntmps81;go_wp2_with fail;refine HM.out.mono ?_;rintro e w2 ⟨rfl,rfl⟩;go_wp2_with fail;exact ⟨rfl,rfl,grown_refl _ _⟩
 | cons x l =>
  have HS:=jj hs;have HW:=jj hw;have HG:=jj hg;obtain ⟨ad,rfl,had,e0⟩:=Strs.at' hs (k:=0) (by simp);have HN:=jj (hn ad rfl);have HL:=jj hl;have HCP:=jj hc;rw [Addr.add_zero'] at e0;have e0' : w.cell? ad = some (S x):=e0;have i1 : (0 : Int) < ((x :: l).length : Int):=(by simp);clear hs hw hn e0 hl hc hg;by_cases hc1 : c = 1
  ·subst hc1;go_enter Tryz.func81,Tryz.ntmps81;go_wp2_with fail;refine HM.out.mono ?_;rintro e w2 ⟨rfl,rfl⟩;go_wp2_with fail;go_ret;have hl0 : l = []:=(by have:=HCP.out;simp at this;exact this);exact ⟨⟨rfl,cur_next HW.out HG.out HS.out HN.out (fun h => absurd hl0 h) (fun a e => by injection e with e;subst e;exact HN.out) (by simp [hl0]) (by simp [hl0])⟩,grown_set1 _ _ _⟩
  ·go_enter Tryz.func81,Tryz.ntmps81;go_wp2_with fail;refine HM.out.mono ?_;rintro e w2 ⟨rfl,rfl⟩;go_wp2_with fail;go_ret;have hcp:=HCP.out;have hl:=HL.out;simp only [List.length_cons] at hcp hl;exact ⟨⟨rfl,cur_next HW.out HG.out HS.out HN.out (fun _ => rfl) (fun a e => by injection e with e;subst e;exact HN.out) (by omega) (by omega)⟩,grown_set1 _ _ _⟩
set_option maxRecDepth 100000 in
set_option maxHeartbeats 1000000 in
theorem fixed_any {lo : Nat} (w : World) (g B : Nat) (l : List (List UInt8)) (h : Cur w lo g B l) (n : Nat) (hn : n ≤ 1000000) :
  Calls Tryz.prog 125 #[curV g,.int .i64 (n : Int)] w (CurPost w lo g B (fixedR n l)):=by
 have HT:=jj (text_any w g B l h);clear h;go_enter Tryz.func125,Tryz.ntmps125;go_wp2_with fail;refine HT.out.mono ?_;rintro e w2 ⟨he,hb⟩;cases l with
 | nil => obtain rfl : e = bentE:=he;go_wp2_with fail;exact ⟨rfl,rfl,hb⟩
 | cons x l =>
  obtain ⟨rfl,hC⟩ : e = .returned (S x) ∧ Cur w2 lo g B l:=he;have HB:=jj hb;have HC:=jj hC;clear hb hC HT;by_cases hx : x.length = n
  ·have HQ : Hid (fixedR n (x :: l) = some (S x,l)):=jj (if_pos hx);subst hx;have hn : ((x.length : Int) != (x.length : Int)) = false:=(by simp);go_wp2_with fail;go_ret;unfold CurPost;rw [HQ.out];exact ⟨⟨rfl,HC.out⟩,HB.out⟩
  ·have HQ : Hid (fixedR n (x :: l) = none):=jj (if_neg hx);have hb1 : ((x.length : Int) == (n : Int)) = false:=beq_eq_false_iff_ne.2 (by omega);have hb2 : (x.length == n) = false:=beq_eq_false_iff_ne.2 hx;clear hx;go_wp2_with fail;refine ⟨rfl,?_⟩;unfold CurPost;rw [HQ.out];exact ⟨rfl,HB.out⟩
set_option maxRecDepth 100000 in
set_option maxHeartbeats 1000000 in
theorem bytes_any {lo : Nat} (w : World) (g B : Nat) (l : List (List UInt8)) (h : Cur w lo g B l) (n : Nat) (hn : n ≤ 1000000) :
  Calls Tryz.prog 82 #[curV g,.int .i64 (n : Int)] w (CurPost w lo g B (bytesR n l)):=by
 have HT:=jj (fixed_any w g B l h n hn);have HN:=jj hn;clear h hn;go_enter Tryz.func82,Tryz.ntmps82;go_wp2_with fail;refine HT.out.mono ?_;rintro e w2 ⟨he,hb⟩;have HB:=jj hb;clear hb HT;cases l with
 | nil => obtain rfl : e = bentE:=he;go_wp2_with fail;exact ⟨rfl,rfl,HB.out⟩
 | cons x l =>
  by_cases hx : x.length = n
  ·rw [show fixedR n (x :: l) = some (S x,l) from if_pos hx] at he;obtain ⟨rfl,hC⟩:=he;have HC:=jj hC;have HQ : Hid (bytesR n (x :: l) = some (.int .u64 (getL x),l)):=jj (if_pos hx);have CG:=jj (get_any w2 x (by have:=HN.out;omega));clear hC hx;go_wp2_with fail;refine CG.out.mono ?_;rintro e w3 ⟨rfl,rfl⟩;go_wp2_with fail;go_ret;unfold CurPost;rw [HQ.out];exact ⟨⟨rfl,HC.out⟩,HB.out⟩
  ·rw [show fixedR n (x :: l) = none from if_neg hx] at he;obtain rfl : e = bentE:=he;have HQ : Hid (bytesR n (x :: l) = none):=jj (if_neg hx);go_wp2_with fail;refine ⟨rfl,?_⟩;unfold CurPost;rw [HQ.out];exact ⟨rfl,HB.out⟩
set_option maxRecDepth 100000 in
set_option maxHeartbeats 1000000 in
theorem cdec_any {lo : Nat} (w : World) (g B : Nat) (l : List (List UInt8)) (h : Cur w lo g B l) (hBw : B ≤ w.heap.size) (hl : ∀ x ∈ l,x.length ≤ 1099511627776) (hI : ∀ W,w.grownBy W (some g) → ITabs W) :
  Calls Tryz.prog 83 #[curV g] w (CurPost w lo g B (decR l)):=by
 have HT:=jj (text_any w g B l h);have HIT:=jj hI;have HL:=jj hl;have HBW:=jj hBw;clear h hI hl hBw;go_enter Tryz.func83,Tryz.ntmps83;go_wp2_with fail;refine HT.out.mono ?_;rintro e w2 ⟨he,hb⟩;have HB:=jj hb;clear HT;cases l with
 | nil => obtain rfl : e = bentE:=he;clear hb;go_wp2_with fail;exact ⟨rfl,rfl,HB.out⟩
 | cons x l =>
  obtain ⟨rfl,hC⟩ : e = .returned (S x) ∧ Cur w2 lo g B l:=he;have HC:=jj hC;have HBS : Hid (B ≤ w2.heap.size):=jj (Nat.le_trans HBW.out hb.size);have CI:=jj (int_any w2 x (HL.out x (by simp)) (HIT.out w2 hb));clear hC hb;go_wp2_with fail;refine CI.out.mono ?_;rintro e w3 ⟨he,hb3⟩;have HC3:=jj (HC.out.below (hb3.mono (HBS.out)));have HB3:=jj (grown_trans HB.out (grown_of_below hb3));clear hb3 CI;cases hq : intP x with
  | none => rw [hq] at he;have HQ : Hid (decR (x :: l) = none):=jj (by show (intP x).map _ = _;rw [hq];rfl);obtain rfl : e = .returned (.tuple #[.int .i64 0,.bool false]):=he;clear hq;go_wp2_with fail;refine ⟨rfl,?_⟩;unfold CurPost;rw [HQ.out];exact ⟨rfl,HB3.out⟩
  | some n => rw [hq] at he;have HQ : Hid (decR (x :: l) = some (.int .i64 n,l)):=jj (by show (intP x).map _ = _;rw [hq];rfl);obtain rfl : e = .returned (.tuple #[.int .i64 n,.bool true]):=he;clear hq;go_wp2_with fail;go_ret;unfold CurPost;rw [HQ.out];exact ⟨⟨rfl,HC3.out⟩,HB3.out⟩
set_option maxRecDepth 100000 in
set_option maxHeartbeats 1000000 in
theorem cflag_any {lo : Nat} (w : World) (g B : Nat) (l : List (List UInt8)) (h : Cur w lo g B l) :
  Calls Tryz.prog 84 #[curV g] w (CurPost w lo g B (flagR l)):=by
 have HT:=jj (text_any w g B l h);clear h;go_enter Tryz.func84,Tryz.ntmps84;go_wp2_with fail;refine HT.out.mono ?_;rintro e w2 ⟨he,hb⟩;have HB:=jj hb;clear hb HT;cases l with
 | nil => obtain rfl : e = bentE:=he;go_wp2_with fail;exact ⟨rfl,rfl,HB.out⟩
 | cons x l =>
  obtain ⟨rfl,hC⟩ : e = .returned (S x) ∧ Cur w2 lo g B l:=he;have HC:=jj hC;clear hC;by_cases h1 : x = [49]
  ·have HQ : Hid (flagR (x :: l) = some (.bool true,l)):=jj (if_pos h1);subst h1;go_wp2_with fail;go_ret;unfold CurPost;rw [HQ.out];exact ⟨⟨rfl,HC.out⟩,HB.out⟩
  ·by_cases h0 : x = [48]
   ·have HQ : Hid (flagR (x :: l) = some (.bool false,l)):=jj ((if_neg h1).trans (if_pos h0));subst h0;clear h1;go_wp2_with fail;go_ret;unfold CurPost;rw [HQ.out];exact ⟨⟨rfl,HC.out⟩,HB.out⟩
   ·have HQ : Hid (flagR (x :: l) = none):=jj ((if_neg h1).trans (if_neg h0));have b1 : (x == [49]) = false:=beq_eq_false_iff_ne.2 h1;have b0 : (x == [48]) = false:=beq_eq_false_iff_ne.2 h0;clear h1 h0;go_wp2_with fail;refine ⟨rfl,?_⟩;unfold CurPost;rw [HQ.out];exact ⟨rfl,HB.out⟩
def OpenPost (w : World) (r : Option (List (List UInt8))) (e : Ending) (w' : World) : Prop :=
 (match r with
  | none => e = bentE
  | some l => ∃ g,e = .returned (curV g) ∧ Cur w' w.heap.size g w'.heap.size l ∧ w.heap.size ≤ g) ∧ Below w.heap.size w w'
def openR (b : List UInt8) (n : Int) : Option (List (List UInt8)) :=
 match textsA [] b with
 | .error _ => none
 | .ok l => if 0 ≤ n ∧ (l.length : Int) ≠ n then none else some l
set_option maxRecDepth 100000 in
set_option maxHeartbeats 1000000 in
theorem open_any (w : World) (b : List UInt8) (n : Int) (hb : b.length ≤ 274877906944) (hn : inJ8 n) :
  Calls Tryz.prog 80 #[S b,.int .i64 n] w (OpenPost w (openR b n)):=by
 have HT:=jj (texts_any w b (by omega));have HN:=jj hn;have HBL:=jj hb;clear hb hn;go_enter Tryz.func80,Tryz.ntmps80;go_wp2_with fail;refine HT.out.mono ?_;rintro e w2 ⟨he,hb2⟩;have HB2:=jj hb2;clear hb2 HT;cases hq : textsA [] b with
 | error x =>
  rw [hq] at he;obtain rfl : e = .returned (.tuple #[.slice none 0 0,.int .i64 x]):=he
  have hx0 : (x == 0) = false:=by
   rcases textsA_err' _ _ _ _ (Nat.le_refl _) hq with rfl | rfl <;> rfl
  have hx1 : (x != 0) = true:=(by simp [bne,hx0]);have HQ : Hid (openR b n = none):=jj (by unfold openR;rw [hq]);clear hq;go_wp2_with fail;refine ⟨rfl,?_⟩;unfold OpenPost;rw [HQ.out];exact ⟨rfl,HB2.out⟩
 | ok l =>
  rw [hq] at he;obtain ⟨v,rfl,ho⟩:=he;obtain ⟨A,c,rfl,hl,hge⟩:=own_shape ho (by decide);have HO:=jj ho;have HL:=jj hl;have hll:=texts_count hq;have HLL:=jj hll;have HGE:=jj hge;have hbl:=HBL.out;have hcap : l.length ≤ c:=own_cap ho;have HQ0 : Hid (openR b n = if 0 ≤ n ∧ (l.length : Int) ≠ n then none else some l):=jj (by unfold openR;rw [hq]);have HCAP:=jj hcap;clear ho hl hge hq hll hcap;by_cases hc : 0 ≤ n ∧ (l.length : Int) ≠ n
  ·have d1 : decide ((0 : Int) ≤ n) = true:=decide_eq_true hc.1;have d2 : ((l.length : Int) == n) = false:=beq_eq_false_iff_ne.2 hc.2;have HC:=jj hc;clear hc;go_wp2_with fail;refine ⟨rfl,?_⟩;unfold OpenPost;rw [HQ0.out,if_pos HC.out];exact ⟨rfl,HB2.out⟩
  ·have HC:=jj hc;have HW:=jj (Whole.made w2 177 #[.slice A l.length c]);have HB3:=jj (HB2.out.alloc HB2.out.size (.cells #[.slice A l.length c] 177));have FIN : Hid (OpenPost w (openR b n) (.returned (curV w2.heap.size)) (w2.alloc (.cells #[.slice A l.length c] 177))):=jj (by unfold OpenPost;rw [HQ0.out,if_neg HC.out];refine ⟨⟨w2.heap.size,rfl,⟨⟨HB2.out.size,HW.out.lt⟩,A,c,HW.out,Lies.block' HL.out _,fun ad e => ⟨own_apart HO.out e,HGE.out ad e⟩,HCAP.out,?_⟩,HB2.out.size⟩,HB3.out⟩;have:=HLL.out;omega);by_cases h0 : 0 ≤ n
   ·have hln : (l.length : Int) = n:=Classical.byContradiction fun h => hc ⟨h0,h⟩;clear hc h0;subst hln;go_wp2_with fail;go_ret;exact FIN.out
   ·have d1 : decide ((0 : Int) ≤ n) = false:=decide_eq_false h0;clear hc h0;go_wp2_with fail;go_ret;exact FIN.out
end Go.Proofs.YtmmfcjkabpffeaaGreatDoor
namespace Go.Proofs.YtmmfcjkabpffeaaGreatDoor
open Go.RowKit
abbrev OwnNb (w : World) (base : Nat) (v : Value) (l : List Nb) : Prop:=w.ownsRow base 95 2 v l.length (nbCells l)
theorem Tryz.infoWr3 : (Tryz.prog.info? 95).map (fun i => (i.zero,i.size,i.bytes)) = some (some (.agg #[.int .i64 0,.string ⟨#[]⟩]),2,24):=by kernel_rfl
theorem own_other {w w' : World} {base : Nat} {e : TypeId} {size n : Nat} {v : Value} {xs : List Value} {X : Option Nat} (h : w.ownsRow base e size v n xs) (k : w.grownBy w' X) (hX : ∀ g,v.ownBlock = some g → some g ≠ X) : w'.ownsRow base e size v n xs:=by
 refine ⟨h.1,?_⟩;rcases h.2 with hn | ⟨g,cap,cur,rfl,hb,hc,rest⟩
 ·exact .inl hn
 ·exact .inr ⟨g,cap,cur,rfl,hb,(k.block g (Array.getElem?_eq_some_iff.1 hc).1 (hX g rfl)).trans hc,rest⟩
theorem below_one {B g : Nat} {a b c : World} (h : Below B a b) (hB : B ≤ b.heap.size) (k : b.grownBy c (some g)) (hg : B ≤ g) : Below B a c:=h.grown k hB fun q e => by injection e with e;omega
def curLen (w : World) (g : Nat) : Nat:=match w.cell? ⟨g,0,none⟩ with
 | some (.slice _ n _) => n
 | _ => 0
theorem Cur.len {w : World} {lo g B : Nat} {l : List (List UInt8)} (h : Cur w lo g B l) : curLen w g = l.length:=by
 obtain ⟨_,A,c,hw,_⟩:=h;have e : w.cell? ⟨g,0,none⟩ = some (.slice A l.length c):=hw.cell 0;unfold curLen;rw [e]
def nbR (x : List UInt8) : Option Nb:=match openR x 2 with
 | some [a,b] => (intP a).map fun n => (n,b)
 | _ => none
def nbsR (b : List UInt8) : Option (List Nb):=(openR b (-1)).bind fun l => l.mapM nbR
theorem mapM_snoc {α β : Type} {f : α → Option β} : ∀ {l : List α} {ys : List β} {x : α},l.mapM f = some ys → (l ++ [x]).mapM f = (f x).map fun y => ys ++ [y]
 | [],ys,x,h => by
  obtain rfl : ys = []:=(by simpa using h.symm);cases hx : f x <;> simp [hx]
 | a :: l,ys,x,h => by
  rw [List.mapM_cons] at h;cases ha : f a with
  | none => rw [ha] at h;cases h
  | some b =>
   rw [ha] at h;cases hl : l.mapM f with
   | none => rw [hl] at h;cases h
   | some bs => rw [hl] at h;obtain rfl : b :: bs = ys:=(by simpa using h);rw [List.cons_append,List.mapM_cons,ha,mapM_snoc hl];cases hx : f x <;> simp
theorem mapM_none {α β : Type} {f : α → Option β} : ∀ {l r : List α} {x : α},f x = none → (l ++ x :: r).mapM f = none
 | [],r,x,h => by simp [h]
 | a :: l,r,x,h => by
  rw [List.cons_append,List.mapM_cons];cases ha : f a with
  | none => rfl
  | some b => rw [mapM_none (l:=l) (r:=r) h];rfl
theorem mapM_len {α β : Type} {f : α → Option β} : ∀ {l : List α} {ys : List β},l.mapM f = some ys → ys.length = l.length
 | [],ys,h => by
  obtain rfl : ys = []:=(by simpa using h.symm);rfl
 | a :: l,ys,h => by
  rw [List.mapM_cons] at h;cases ha : f a with
  | none => rw [ha] at h;cases h
  | some b =>
   rw [ha] at h;cases hl : l.mapM f with
   | none => rw [hl] at h;cases h
   | some bs => rw [hl] at h;obtain rfl : b :: bs = ys:=(by simpa using h);simp [mapM_len hl]
theorem openR_ok {b : List UInt8} {n : Int} {l : List (List UInt8)} (h : openR b n = some l) : textsA [] b = .ok l ∧ (0 ≤ n → (l.length : Int) = n):=by
 unfold openR at h;cases hq : textsA [] b with
 | error x => rw [hq] at h;cases h
 | ok m =>
  rw [hq] at h;dsimp only at h;split at h
  ·cases h
  ·rename_i hc;injection h with h;subst h;exact ⟨rfl,fun h0 => Classical.byContradiction fun h1 => hc ⟨h0,h1⟩⟩
theorem nbCells_snoc (l : List Nb) (p : Nb) : nbCells (l ++ [p]) = nbCells l ++ nbCells1 p:=by simp [nbCells]
def NbsPost (w : World) (r : Option (List Nb)) (e : Ending) (w' : World) : Prop :=
 (match r with
  | none => e = bentE
  | some l => ∃ A c,e = .returned (.slice A l.length c) ∧ Lies w' w'.heap.size A (nbCells l) ∧ l.length ≤ c ∧ ∀ ad,A = some ad → w.heap.size ≤ ad.block) ∧ Below w.heap.size w w'
set_option maxRecDepth 100000 in
set_option maxHeartbeats 4000000 in
theorem readWrites_any (w : World) (b : List UInt8) (hb : b.length ≤ 4294967296) (hT : ITabs w) :
  Calls Tryz.prog 85 #[S b] w (NbsPost w (nbsR b)):=by
 obtain ⟨i0,hi0,hz0,hz1,hz2'⟩:=info_parts Tryz.infoWr3;have HT:=jj hT;have CO:=jj (open_any w b (-1) (by omega) (by unfold inJ8;omega));have HBL:=jj hb;clear hT hb;go_enter Tryz.func85,Tryz.ntmps85;go_wp2_with fail;refine CO.out.mono ?_;rintro e w2 ⟨he,hb2⟩;have HB2:=jj hb2;clear hb2 CO;cases hq : openR b (-1) with
 | none => rw [hq] at he;obtain rfl : e = bentE:=he;have HR : Hid (nbsR b = none):=jj (by unfold nbsR;rw [hq];rfl);clear hq;go_wp2_with fail;refine ⟨rfl,?_⟩;unfold NbsPost;rw [HR.out];exact ⟨rfl,HB2.out⟩
 | some all =>
  rw [hq] at he;obtain ⟨g,rfl,hC,hge⟩:=he;have HR : Hid (nbsR b = all.mapM nbR):=jj (by unfold nbsR;rw [hq];rfl);have HMM:=jj (texts_mem (openR_ok hq).1);have HNN:=jj (texts_count (openR_ok hq).1);have HC:=jj hC;have hgl:=hC.1.2;have hz2:=HB2.out.size;clear hq hC;go_wp2_with fail
  go_loopw [3] (fun v wr => ∃ (done rest : List (List UInt8)) (acc : List Nb),all = done ++ rest ∧ Hid (done.mapM nbR = some acc) ∧ Hid (Cur wr w.heap.size g w2.heap.size rest) ∧ Hid (OwnNb wr w2.heap.size v acc) ∧ Hid (Below w.heap.size w wr) ∧ w2.heap.size ≤ wr.heap.size) (fun _ wr => curLen wr g)
  case atStart => exact ⟨[],all,[],rfl,jj rfl,HC,jj (World.ownsRow_nil _ _ _ _),HB2,Nat.le_refl _⟩
  case round =>
   obtain ⟨done,rest,acc,hall,HD,HCr,HO,HV,hzr⟩:=hrel;have HLEN:=jj HCr.out.len;have HALL:=jj hall;have HAC:=jj (mapM_len HD.out);clear hall HC;have CM:=jj (more_any wr g w2.heap.size rest HCr.out);cases rest with
   | nil => go_wp2_with fail;refine CM.out.mono ?_;rintro e w3 ⟨rfl,rfl⟩;obtain ⟨A,c,rfl,hlies,hbase⟩:=own_shape HO.out (by omega);have HLI:=jj hlies;have HBA:=jj hbase;have HCP:=jj (own_cap HO.out);have HQ : Hid (nbsR b = some acc):=jj (by rw [HR.out,HALL.out,List.append_nil];exact HD.out);clear hlies hbase;go_wp2_with fail;go_ret;unfold NbsPost;rw [HQ.out];exact ⟨⟨A,c,rfl,HLI.out,HCP.out,fun ad e => Nat.le_trans hz2 (HBA.out ad e)⟩,HV.out⟩
   | cons x rest =>
    have hxl : x.length ≤ b.length:=HMM.out x (by rw [HALL.out];simp);have HXL:=jj hxl;have hbl:=HBL.out;have CT:=jj (text_any wr g w2.heap.size (x :: rest) HCr.out);go_wp2_with fail;refine CM.out.mono ?_;rintro e wq ⟨rfl,rfl⟩;go_wp2_with fail;refine CT.out.mono ?_;rintro e w3 ⟨he,hk3⟩;obtain ⟨rfl,hC3⟩ : e = .returned (S x) ∧ Cur w3 w.heap.size g w2.heap.size rest:=he;have HC3:=jj hC3;have HV3:=jj (below_one HV.out HV.out.size hk3 hge);have HO3 : Hid (OwnNb w3 w2.heap.size u3 acc):=jj (own_other HO.out hk3 fun q e => by have:=own_ge HO.out q e;intro h;injection h with h;omega);have hz3 : w2.heap.size ≤ w3.heap.size:=Nat.le_trans hzr hk3.size;have CO2:=jj (open_any w3 x 2 (by omega) (by unfold inJ8;omega));clear hC3 hk3 CT CM HCr HO HV;go_wp2_with fail;refine CO2.out.mono ?_;rintro e w4 ⟨he,hb4⟩;have HV4:=jj (HV3.out.trans (hb4.mono HV3.out.size));cases hq : openR x 2 with
    | none => rw [hq] at he;obtain rfl : e = bentE:=he;have HQ : Hid (nbsR b = none):=jj (by rw [HR.out,HALL.out];exact mapM_none (by unfold nbR;rw [hq]));clear hq hb4;go_wp2_with fail;refine ⟨rfl,?_⟩;unfold NbsPost;rw [HQ.out];exact ⟨rfl,HV4.out⟩
    | some l2 =>
     rw [hq] at he;obtain ⟨g1,rfl,hC4,hge1⟩:=he;have hl2:=(openR_ok hq).2 (by omega);have hm2:=texts_mem (openR_ok hq).1
     match l2,hl2 with
     | [s0,s1],_ =>
      have HNB : Hid (nbR x = (intP s0).map fun n => (n,s1)):=jj (by unfold nbR;rw [hq]);have HC4:=jj hC4;have HM2:=jj hm2;have HO4 : Hid (OwnNb w4 w2.heap.size u3 acc):=jj (own_below HO3.out hb4);have HOL : Hid (∀ q,u3.ownBlock = some q → q < g1):=jj fun q e => Nat.lt_of_lt_of_le (own_lt HO3.out q e) hge1;have HC4' : Hid (Cur w4 w.heap.size g w2.heap.size rest):=jj (HC3.out.below (hb4.mono hz3));have hz4 : w2.heap.size ≤ w4.heap.size:=Nat.le_trans hz3 hb4.size;have hg1 : w2.heap.size ≤ g1:=Nat.le_trans hz3 hge1;have CD:=jj (cdec_any w4 g1 w4.heap.size [s0,s1] hC4 (Nat.le_refl _) (fun y hy => by have:=hm2 y hy;omega) fun W hW => HT.out.below (Nat.le_refl _) (below_one HV4.out HV4.out.size hW (by omega)));clear hq hb4 hC4 hm2 hl2 HC3 HO3 CO2;go_wp2_with fail;refine CD.out.mono ?_;rintro e w5 ⟨he,hk5⟩;have HV5:=jj (below_one HV4.out HV4.out.size hk5 (by omega));cases hi : intP s0 with
      | none => rw [show decR [s0,s1] = none by show (intP s0).map _ = _;rw [hi];rfl] at he;obtain rfl : e = bentE:=he;have HQ : Hid (nbsR b = none):=jj (by rw [HR.out,HALL.out];exact mapM_none (by rw [HNB.out,hi];rfl));clear hi hk5;go_wp2_with fail;refine ⟨rfl,?_⟩;unfold NbsPost;rw [HQ.out];exact ⟨rfl,HV5.out⟩
      | some n =>
       rw [show decR [s0,s1] = some (.int .i64 n,[s1]) by show (intP s0).map _ = _;rw [hi];rfl] at he;obtain ⟨rfl,hC5⟩:=he;have HNB2 : Hid (nbR x = some (n,s1)):=jj (by rw [HNB.out,hi];rfl);have HO5 : Hid (OwnNb w5 w2.heap.size u3 acc):=jj (own_other HO4.out hk5 fun q e => by have:=HOL.out q e;intro h;injection h with h;omega);have HC5' : Hid (Cur w5 w.heap.size g w2.heap.size rest):=jj (HC4'.out.below (below_one (Below.refl _ _) hz4 hk5 hg1));have hz5 : w2.heap.size ≤ w5.heap.size:=Nat.le_trans hz4 hk5.size;have CT:=jj (text_any w5 g1 w4.heap.size [s1] hC5);clear hi hk5 hC5 CD HO4 HC4';go_wp2_with fail;refine CT.out.mono ?_;rintro e w6 ⟨he,hk6⟩;obtain ⟨rfl,_⟩ : e = .returned (S s1) ∧ Cur w6 w3.heap.size g1 w4.heap.size []:=he;have HV6:=jj (below_one HV5.out HV5.out.size hk6 (by omega));have HO6 : Hid (OwnNb w6 w2.heap.size u3 acc):=jj (own_other HO5.out hk6 fun q e => by have:=HOL.out q e;intro h;injection h with h;omega);have HC6 : Hid (Cur w6 w.heap.size g w2.heap.size rest):=jj (HC5'.out.below (below_one (Below.refl _ _) hz5 hk6 hg1));have hz6 : w2.heap.size ≤ w6.heap.size:=Nat.le_trans hz5 hk6.size;have HV6':=jj HV6.out.size;have hal : acc.length + 1 ≤ 274877906944:=(by have h1:=HAC.out;have h2 : all.length = (done ++ x :: rest).length:=congrArg List.length HALL.out;have h3:=HNN.out;simp only [List.length_append,List.length_cons] at h2;omega);have H63 : Hid (acc.length + 1 ≤ maxLen):=jj (by unfold maxLen;omega);have HBY : Hid ((acc.length + 1) * 24 ≤ 140737488355328):=jj (by omega)
       have HNW : Hid (∀ i u,(nbCells1 (n,s1))[i]? = some u → (w6.alloc (.cells (nbCells1 (n,s1)).toArray 95)).cell? ((⟨w6.heap.size,0,none⟩ : Addr).add i) = some u):=jj (fun i u hu => by
        obtain ⟨ad',e',_,hc'⟩:=lies_made w6 95 (nbCells1 (n,s1)) (w6.heap.size + 1) (by omega) i u hu;injection e' with e';subst e';exact hc')
       have H1 : Hid (∀ u ∈ nbCells1 (n,s1),u.oneCell' = true):=jj (nb_one (n,s1));have HBA : Hid (w2.heap.size ≤ (w6.alloc (.cells (nbCells1 (n,s1)).toArray 95)).heap.size):=jj (by simp;omega);have HOA:=jj (HO6.out.alloc (.cells (nbCells1 (n,s1)).toArray 95));clear hk6 CT HO5 HC5' hal hz3 hz4 hz5;go_wp2_with (at_builtin;refine wpList_append_own _ rfl (.tmp 16) (.tmp 21) 26 rfl w2.heap.size 95 i0 _ 2 24 Tryz.underlying26 hi0 hz0 hz1 hz2' rfl (by decide) _ _ _ rfl HOA.out ⟨w6.heap.size,0,none⟩ 1 1 (nbCells1 (n,s1)) rfl rfl HNW.out H1.out H63.out HBY.out HBA.out ?_;intro v' w8 hown' hgrow _);have HC8 : Hid (Cur w8 w.heap.size g w2.heap.size rest):=jj (HC6.out.below (((Below.refl _ _).alloc hz6 _).grown hgrow HBA.out (own_ge HOA.out)));have HV8 : Hid (Below w.heap.size w w8):=jj ((HV6.out.alloc HV6.out.size _).grown hgrow (by have:=HV6'.out;simp;omega) (fun q e => Nat.le_trans hz2 (own_ge HOA.out q e)));have HO8 : Hid (OwnNb w8 w2.heap.size v' (acc ++ [(n,s1)])):=jj (by have:=hown';rw [← nbCells_snoc] at this;unfold OwnNb;rw [List.length_append];exact this);have hz8 : w2.heap.size ≤ w8.heap.size:=Nat.le_trans HBA.out hgrow.size;have HD8 : Hid ((done ++ [x]).mapM nbR = some (acc ++ [(n,s1)])):=jj (by rw [mapM_snoc HD.out,HNB2.out];rfl);have HL8:=jj HC8.out.len;clear hown' hgrow HOA HBA HNW HC6 HO6;go_wp2_with fail
       go_roundw
       case rel =>
        have R : ∃ (done rest : List (List UInt8)) (acc : List Nb),all = done ++ rest ∧ Hid (done.mapM nbR = some acc) ∧ Hid (Cur w8 w.heap.size g w2.heap.size rest) ∧ Hid (OwnNb w8 w2.heap.size v' acc) ∧ Hid (Below w.heap.size w w8) ∧ w2.heap.size ≤ w8.heap.size:=⟨done ++ [x],rest,acc ++ [(n,s1)],by rw [HALL.out];simp,HD8,HC8,HO8,HV8,hz8⟩
        first | exact R | ((repeat apply Exists.intro);exact ⟨R,rfl⟩)
       case measure => rw [HLEN.out,HL8.out];simp
end Go.Proofs.YtmmfcjkabpffeaaGreatDoor
namespace Go.Proofs.YtmmfcjkabpffeaaGreatDoor
open Go.RowKit
def zeroPg : Pg:=⟨false,false,0⟩
def pgR (k f : UInt8) : Option Pg:=if k = 0 ∧ f = 0 then some zeroPg else if k = 1 ∨ k = 2 then some ⟨true,k == 2,(f.toNat : Int)⟩ else none
def spaceR (b : List UInt8) : Option (List Pg):=(List.range 16).mapM fun i => pgR (b.getD (2 * i) 0) (b.getD (2 * i + 1) 0)
theorem range_cut (n k : Nat) (h : k < n) : List.range n = List.range k ++ k :: List.range' (k + 1) (n - k - 1):=by
 rw [List.range_eq_range',List.range_eq_range',show n = k + (n - k) by omega,← List.range'_append_1];congr 1;rw [show k + (n - k) - k - 1 = (n - k) - 1 by omega,Nat.zero_add];rw [show n - k = (n - k - 1) + 1 by omega,List.range'_succ];rfl
theorem range_snoc (k : Nat) : List.range (k + 1) = List.range k ++ [k]:=List.range_succ
theorem pg_put {l : List Pg} {k n : Nat} {p : Pg} (hk : l.length = k) (hn : k < n) :
  (pgCells (l ++ List.replicate (n - k) zeroPg)).take (k * 3) ++ (pgCells1 p ++ (pgCells (l ++ List.replicate (n - k) zeroPg)).drop (k * 3 + 3)) = pgCells ((l ++ [p]) ++ List.replicate (n - (k + 1)) zeroPg):=by
 subst hk;have h1 : (pgCells l).length = l.length * 3:=pgCells_length l;have e : pgCells (l ++ List.replicate (n - l.length) zeroPg) = pgCells l ++ (pgCells1 zeroPg ++ pgCells (List.replicate (n - (l.length + 1)) zeroPg)):=(by rw [show n - l.length = (n - (l.length + 1)) + 1 by omega,List.replicate_succ];simp [pgCells])
 have hd : ∀ R : List Value,(pgCells l ++ (pgCells1 zeroPg ++ R)).drop (l.length * 3 + 3) = R:=fun R => by
  rw [← List.append_assoc];exact List.drop_left' (by rw [List.length_append,h1];rfl)
 rw [e,List.take_left' h1,hd];simp [pgCells]
theorem pgs_one (l : List Pg) : ∀ v ∈ pgCells l,v.oneCell' = true:=by
 intro v hv;obtain ⟨g,_,h⟩:=List.mem_flatMap.1 hv;exact pg_one g v h
theorem zero_keep (acc : List Pg) {k : Nat} (h : k < 16) : acc ++ List.replicate (16 - k) zeroPg = (acc ++ [zeroPg]) ++ List.replicate (16 - (k + 1)) zeroPg:=by
 rw [show 16 - k = (16 - (k + 1)) + 1 by omega,List.replicate_succ];simp
theorem u8_ne {a b : UInt8} (h : a ≠ b) : ((a.toNat : Int) == (b.toNat : Int)) = false:=beq_eq_false_iff_ne.2 fun e => h (UInt8.toNat_inj.1 (by omega))
theorem Tryz.sizeSpace' : (Tryz.prog.info? 62).map (·.size) = some 48:=by kernel_rfl
def SpacePost (w : World) (r : Option (List Pg)) (e : Ending) (w' : World) : Prop :=
 (match r with
  | none => e = bentE
  | some l => e = .returned (.agg (pgCells l).toArray) ∧ l.length = 16 ∧ ∀ g ∈ l,inJ8 g.frame) ∧ Below w.heap.size w w'
set_option maxRecDepth 100000 in
set_option maxHeartbeats 4000000 in
theorem readSpace_any (w : World) (b : List UInt8) (hb : b.length = 32) :
  Calls Tryz.prog 127 #[S b] w (SpacePost w (spaceR b)):=by
 have hs0:=(Whole.made w 62 (pgCells (List.replicate 16 zeroPg)).toArray).block (.cells (pgCells (List.replicate 16 zeroPg)).toArray 62);have hs1:=Whole.made (w.alloc (.cells (pgCells (List.replicate 16 zeroPg)).toArray 62)) 62 (pgCells (List.replicate 16 zeroPg)).toArray;rw [show (w.alloc (.cells (pgCells (List.replicate 16 zeroPg)).toArray 62)).heap.size = w.heap.size + 1 by simp] at hs1;have hb : Below w.heap.size w ((w.alloc (.cells (pgCells (List.replicate 16 zeroPg)).toArray 62)).alloc (.cells (pgCells (List.replicate 16 zeroPg)).toArray 62)):=((Below.refl _ _).alloc (by first | exact Nat.le_refl _ | simp | (simp;omega)) _).alloc (by first | exact Nat.le_refl _ | simp | (simp;omega)) _;go_enter Tryz.func127,Tryz.ntmps127;go_upto_region 2 with (fail);change Code.wp _ _ _ _ ((w.alloc (.cells (pgCells (List.replicate 16 zeroPg)).toArray 62)).alloc (.cells (pgCells (List.replicate 16 zeroPg)).toArray 62));generalize ((w.alloc (.cells (pgCells (List.replicate 16 zeroPg)).toArray 62)).alloc (.cells (pgCells (List.replicate 16 zeroPg)).toArray 62)) = w1 at *;generalize hgx : w.heap.size = gx at *;have HGX:=jj hgx;have HS0:=jj hs0;have HS1:=jj hs1;have HW:=jj hb;have hgl : gx + 1 < w1.heap.size:=hs1.lt;clear hgx hb hs0 hs1;have HL:=jj hb;clear hb;go_wp2_with fail
 go_loopw [7] (fun i wr => ∃ (k : Nat) (acc : List Pg),k ≤ 16 ∧ i = .int .i64 (k : Int) ∧ Hid ((List.range k).mapM (fun i => pgR (b.getD (2 * i) 0) (b.getD (2 * i + 1) 0)) = some acc) ∧ Hid (Whole wr (gx + 1) 62 (pgCells (acc ++ List.replicate (16 - k) zeroPg)).toArray) ∧ Hid (Below gx w1 wr) ∧ Hid (Whole wr gx 62 (pgCells (List.replicate 16 zeroPg)).toArray) ∧ Hid (∀ g ∈ acc,inJ8 g.frame)) (fun i _ => 16 - (intOf i).toNat)
 case atStart => exact ⟨0,[],by omega,rfl,jj rfl,HS1,jj (Below.refl _ _),HS0,jj (by simp)⟩
 case round =>
  obtain ⟨k,acc,hk,rfl,HD,HB,HV,HZ,HJ⟩:=hrel;have HAC : Hid (acc.length = k):=jj (by rw [mapM_len HD.out,List.length_range]);have hll:=HL.out;by_cases hlt : k < 16
  ·have hx:=fun W => run_index_S b .i64 (2 * (k : Int)) (2 * k) (by omega) (by omega) W;have hy:=fun W => run_index_S b .i64 (2 * (k : Int) + 1) (2 * k + 1) (by omega) (by omega) W;have HMP : Hid (∀ p,pgR (b.getD (2 * k) 0) (b.getD (2 * k + 1) 0) = some p → (List.range (k + 1)).mapM (fun i => pgR (b.getD (2 * i) 0) (b.getD (2 * i + 1) 0)) = some (acc ++ [p])):=jj fun p hp => (by rw [range_snoc,mapM_snoc HD.out,hp];rfl);have HMN : Hid (pgR (b.getD (2 * k) 0) (b.getD (2 * k + 1) 0) = none → spaceR b = none):=jj fun hp => (by unfold spaceR;rw [range_cut 16 k hlt];exact mapM_none hp);generalize b.getD (2 * k) 0 = bk at *;generalize b.getD (2 * k + 1) 0 = bf at *;have d1 : decide ((k : Int) < 16) = true:=decide_eq_true (by omega);have d2 : decide (k < 16) = true:=decide_eq_true hlt;have w1' : IntKind.i64.wrap (2 * (k : Int)) = 2 * (k : Int):=(by rw [IntKind.wrap_i64];omega);have w2' : IntKind.i64.wrap (2 * (k : Int) + 1) = 2 * (k : Int) + 1:=(by rw [IntKind.wrap_i64];omega);have hfl : (bf.toNat : Int) < 256:=(by have:=bf.toNat_lt;omega);clear hll;go_upto_region 5 with (fail);refine' wp_region_sure (by kernel_rfl) (fun W => Below wr.heap.size wr W) 12 [_,_,_,_,_,_,_,_,_,_,_,_] [some 10,some 11,some 12,some 13,some 14,some 15,some 16,some 17,some 18,some 19,some 5,some 6] (by kernel_rfl) (by kernel_rfl) (by kernel_rfl) (by kernel_rfl) rfl (Below.refl _ _).drew ?hs5
   case hs5 =>
    refine sure_cons ?_ ?_
    ·intro L ac W K hed hJ hS hK;have hA0 : ac.eval (.tmp 0) = S b:=hJ.eval_old 0 (by kernel_rfl);clear hed hJ;refine opStep_of rfl ?_;unfold Oper.wp execOp;have hN0:=evalN hA0;go_simp;exact hK _ hS
    refine sure_cons ?_ ?_
    ·intro L ac W K hed hJ hS hK;have hA4 : ac.eval (.tmp 4) = .int .i64 (k : Int):=hJ.eval_old 4 (by kernel_rfl);clear hed hJ;refine opStep_of rfl ?_;unfold Oper.wp execOp;have hN4:=evalN hA4;go_simp;exact hK _ hS
    refine sure_cons ?_ ?_
    ·intro L ac W K hed hJ hS hK;have hn:=needs_spec (l:=[1]) (by kernel_rfl) hed;have hA11:=hJ.eval 1 (d:=11) (hn 1 (by simp)) rfl rfl rfl;clear hed hJ hn;refine opStep_of rfl ?_;unfold Oper.wp execOp;have hN11:=evalN hA11;go_simp;exact hK _ hS
    refine sure_cons ?_ ?_
    ·intro L ac W K hed hJ hS hK;have hn:=needs_spec (l:=[0,2]) (by kernel_rfl) hed;have hA10:=hJ.eval 0 (d:=10) (hn 0 (by simp)) rfl rfl rfl;have hA12:=hJ.eval 2 (d:=12) (hn 2 (by simp)) rfl rfl rfl;clear hed hJ hn;refine opStep_of rfl ?_;have hcv:=hx W;unfold Oper.wp execOp;have hN10:=evalN hA10;have hN12:=evalN hA12;go_simp;exact hK _ hS
    refine sure_cons ?_ ?_
    ·intro L ac W K hed hJ hS hK;have hA0 : ac.eval (.tmp 0) = S b:=hJ.eval_old 0 (by kernel_rfl);clear hed hJ;refine opStep_of rfl ?_;unfold Oper.wp execOp;have hN0:=evalN hA0;go_simp;exact hK _ hS
    refine sure_cons ?_ ?_
    ·intro L ac W K hed hJ hS hK;have hA4 : ac.eval (.tmp 4) = .int .i64 (k : Int):=hJ.eval_old 4 (by kernel_rfl);clear hed hJ;refine opStep_of rfl ?_;unfold Oper.wp execOp;have hN4:=evalN hA4;go_simp;exact hK _ hS
    refine sure_cons ?_ ?_
    ·intro L ac W K hed hJ hS hK;have hn:=needs_spec (l:=[5]) (by kernel_rfl) hed;have hA15:=hJ.eval 5 (d:=15) (hn 5 (by simp)) rfl rfl rfl;clear hed hJ hn;refine opStep_of rfl ?_;unfold Oper.wp execOp;have hN15:=evalN hA15;go_simp;exact hK _ hS
    refine sure_cons ?_ ?_
    ·intro L ac W K hed hJ hS hK;have hn:=needs_spec (l:=[6]) (by kernel_rfl) hed;have hA16:=hJ.eval 6 (d:=16) (hn 6 (by simp)) rfl rfl rfl;clear hed hJ hn;refine opStep_of rfl ?_;unfold Oper.wp execOp;have hN16:=evalN hA16;go_simp;exact hK _ hS
    refine sure_cons ?_ ?_
    ·intro L ac W K hed hJ hS hK;have hn:=needs_spec (l:=[4,7]) (by kernel_rfl) hed;have hA14:=hJ.eval 4 (d:=14) (hn 4 (by simp)) rfl rfl rfl;have hA17:=hJ.eval 7 (d:=17) (hn 7 (by simp)) rfl rfl rfl;clear hed hJ hn;refine opStep_of rfl ?_;have hcv:=hy W;unfold Oper.wp execOp;have hN14:=evalN hA14;have hN17:=evalN hA17;go_simp;exact hK _ hS
    refine sure_cons ?_ ?_
    ·intro L ac W K hed hJ hS hK;have hn:=needs_spec (l:=[8]) (by kernel_rfl) hed;have hA18:=hJ.eval 8 (d:=18) (hn 8 (by simp)) rfl rfl rfl;clear hed hJ hn;refine opStep_of rfl ?_;unfold Oper.wp execOp;have hN18:=evalN hA18;go_simp;exact hK _ hS
    refine sure_cons ?_ ?_
    ·intro L ac W K hed hJ hS hK;have hn:=needs_spec (l:=[3]) (by kernel_rfl) hed;have hA13:=hJ.eval 3 (d:=13) (hn 3 (by simp)) rfl rfl rfl;clear hed hJ hn;refine opStep_of rfl ?_;unfold Oper.wp execOp;have hN13:=evalN hA13;go_simp;exact hK _ hS
    refine sure_cons ?_ ?_
    ·intro L ac W K hed hJ hS hK;have hn:=needs_spec (l:=[9]) (by kernel_rfl) hed;have hA19:=hJ.eval 9 (d:=19) (hn 9 (by simp)) rfl rfl rfl;clear hed hJ hn;refine opStep_of rfl ?_;unfold Oper.wp execOp;have hN19:=evalN hA19;go_simp;exact hK _ hS
    refine sure_nil ?_;intro W hS;simp only [putAll,Act.put,List.setIfInBounds_toArray,List.set_cons_zero,List.set_cons_succ];have HV5:=jj (HV.out.trans (hS.mono (by have:=HV.out.size;omega)));have HB5:=jj (HB.out.below hS HB.out.lt);have HZ5:=jj (HZ.out.below hS HZ.out.lt);clear hS hx hy w1' w2' HV HB HZ;by_cases h0 : bk = 0
    ·subst h0;by_cases hf : bf = 0
     ·subst hf;have HD2:=jj (HMP.out zeroPg (by decide));have HJ2 : Hid (∀ g ∈ acc ++ [zeroPg],inJ8 g.frame):=jj fun g hg => (List.mem_append.1 hg).elim (HJ.out g) fun h => (by rw [List.mem_singleton.1 h];unfold inJ8;decide);have HB6 : Hid (Whole W (gx + 1) 62 (pgCells ((acc ++ [zeroPg]) ++ List.replicate (16 - (k + 1)) zeroPg)).toArray):=jj (by rw [← zero_keep acc hlt];exact HB5.out);go_wp2_with fail
      go_roundw
      case rel =>
       have R : ∃ (k' : Nat) (acc' : List Pg),k' ≤ 16 ∧ Value.int .i64 ((k : Int) + 1) = .int .i64 (k' : Int) ∧ Hid ((List.range k').mapM (fun i => pgR (b.getD (2 * i) 0) (b.getD (2 * i + 1) 0)) = some acc') ∧ Hid (Whole W (gx + 1) 62 (pgCells (acc' ++ List.replicate (16 - k') zeroPg)).toArray) ∧ Hid (Below gx w1 W) ∧ Hid (Whole W gx 62 (pgCells (List.replicate 16 zeroPg)).toArray) ∧ Hid (∀ g ∈ acc',inJ8 g.frame):=⟨k + 1,acc ++ [zeroPg],by omega,by go_num,HD2,HB6,HV5,HZ5,HJ2⟩
       first | exact R | ((repeat apply Exists.intro);exact ⟨R,rfl⟩)
      case measure => simp [intOf];omega
     ·have HQN:=jj (HMN.out (by unfold pgR;rw [if_neg (fun h => hf h.2),if_neg (by decide)]));have b1 : ((bf.toNat : Int) == 0) = false:=u8_ne hf;have b2 : (bf.toNat == 0) = false:=beq_eq_false_iff_ne.2 (fun e => hf (by apply UInt8.toNat_inj.1;simpa using e));have b3 : (bf == 0) = false:=beq_eq_false_iff_ne.2 hf;clear hf;go_wp2_with fail;refine ⟨rfl,?_⟩;unfold SpacePost;rw [HQN.out];exact ⟨rfl,by rw [HGX.out];exact HW.out.trans (HV5.out.mono (by omega))⟩
    ·by_cases h1 : bk = 1
     ·subst h1;have P : Pg:=⟨true,false,(bf.toNat : Int)⟩;clear P;go_upto_region 10 with (refine wpList_store_at rfl 60 (.tmp 41) (.tmp 40) rfl rfl (gx + 1) (k * 3) (by first | rfl | (simp [Act.eval];done)) (pgCells1 (⟨true,false,(bf.toNat : Int)⟩ : Pg)) (by first | rfl | (simp [Act.eval,pgCells1];done)) Tryz.sizePg _ _ HB5.out (by rw [pgCells_length];simp [pgCells1];have:=HAC.out;omega) (pg_one (⟨true,false,(bf.toNat : Int)⟩ : Pg)) ?_;intro w6 hw6 hk6);have HB6 : Hid (Whole w6 (gx + 1) 62 (pgCells ((acc ++ [(⟨true,false,(bf.toNat : Int)⟩ : Pg)]) ++ List.replicate (16 - (k + 1)) zeroPg)).toArray):=jj (by have h:=hw6.out;rw [show k * 3 + (pgCells1 (⟨true,false,(bf.toNat : Int)⟩ : Pg)).length = k * 3 + 3 from rfl,pg_put HAC.out hlt] at h;exact h);have HV6 : Hid (Below gx w1 w6):=jj (HV5.out.grown hk6.out (by have:=HV5.out.size;omega) (fun q e => by injection e with e;omega));have HZ6:=jj (HZ5.out.other hk6.out (by intro e;injection e with e;omega));clear hw6 hk6;have HD2:=jj (HMP.out (⟨true,false,(bf.toNat : Int)⟩ : Pg) (by unfold pgR;rw [if_neg (fun h => absurd h.1 (by decide)),if_pos (.inl rfl)];rfl));have HJ2 : Hid (∀ g ∈ acc ++ [(⟨true,false,(bf.toNat : Int)⟩ : Pg)],inJ8 g.frame):=jj fun g hg => (List.mem_append.1 hg).elim (HJ.out g) fun h => (by rw [List.mem_singleton.1 h];unfold inJ8;dsimp only;omega);go_wp2_with fail
      go_roundw
      case rel =>
       have R : ∃ (k' : Nat) (acc' : List Pg),k' ≤ 16 ∧ Value.int .i64 ((k : Int) + 1) = .int .i64 (k' : Int) ∧ Hid ((List.range k').mapM (fun i => pgR (b.getD (2 * i) 0) (b.getD (2 * i + 1) 0)) = some acc') ∧ Hid (Whole w6 (gx + 1) 62 (pgCells (acc' ++ List.replicate (16 - k') zeroPg)).toArray) ∧ Hid (Below gx w1 w6) ∧ Hid (Whole w6 gx 62 (pgCells (List.replicate 16 zeroPg)).toArray) ∧ Hid (∀ g ∈ acc',inJ8 g.frame):=⟨k + 1,acc ++ [(⟨true,false,(bf.toNat : Int)⟩ : Pg)],by omega,by go_num,HD2,HB6,HV6,HZ6,HJ2⟩
       first | exact R | ((repeat apply Exists.intro);exact ⟨R,rfl⟩)
      case measure => simp [intOf];omega
     ·by_cases h2 : bk = 2
      ·subst h2;go_upto_region 10 with (refine wpList_store_at rfl 60 (.tmp 41) (.tmp 40) rfl rfl (gx + 1) (k * 3) (by first | rfl | (simp [Act.eval];done)) (pgCells1 (⟨true,true,(bf.toNat : Int)⟩ : Pg)) (by first | rfl | (simp [Act.eval,pgCells1];done)) Tryz.sizePg _ _ HB5.out (by rw [pgCells_length];simp [pgCells1];have:=HAC.out;omega) (pg_one (⟨true,true,(bf.toNat : Int)⟩ : Pg)) ?_;intro w6 hw6 hk6);have HB6 : Hid (Whole w6 (gx + 1) 62 (pgCells ((acc ++ [(⟨true,true,(bf.toNat : Int)⟩ : Pg)]) ++ List.replicate (16 - (k + 1)) zeroPg)).toArray):=jj (by have h:=hw6.out;rw [show k * 3 + (pgCells1 (⟨true,true,(bf.toNat : Int)⟩ : Pg)).length = k * 3 + 3 from rfl,pg_put HAC.out hlt] at h;exact h);have HV6 : Hid (Below gx w1 w6):=jj (HV5.out.grown hk6.out (by have:=HV5.out.size;omega) (fun q e => by injection e with e;omega));have HZ6:=jj (HZ5.out.other hk6.out (by intro e;injection e with e;omega));clear hw6 hk6;have HD2:=jj (HMP.out (⟨true,true,(bf.toNat : Int)⟩ : Pg) (by unfold pgR;rw [if_neg (fun h => absurd h.1 (by decide)),if_pos (.inr rfl)];rfl));have HJ2 : Hid (∀ g ∈ acc ++ [(⟨true,true,(bf.toNat : Int)⟩ : Pg)],inJ8 g.frame):=jj fun g hg => (List.mem_append.1 hg).elim (HJ.out g) fun h => (by rw [List.mem_singleton.1 h];unfold inJ8;dsimp only;omega);go_wp2_with fail
       go_roundw
       case rel =>
        have R : ∃ (k' : Nat) (acc' : List Pg),k' ≤ 16 ∧ Value.int .i64 ((k : Int) + 1) = .int .i64 (k' : Int) ∧ Hid ((List.range k').mapM (fun i => pgR (b.getD (2 * i) 0) (b.getD (2 * i + 1) 0)) = some acc') ∧ Hid (Whole w6 (gx + 1) 62 (pgCells (acc' ++ List.replicate (16 - k') zeroPg)).toArray) ∧ Hid (Below gx w1 w6) ∧ Hid (Whole w6 gx 62 (pgCells (List.replicate 16 zeroPg)).toArray) ∧ Hid (∀ g ∈ acc',inJ8 g.frame):=⟨k + 1,acc ++ [(⟨true,true,(bf.toNat : Int)⟩ : Pg)],by omega,by go_num,HD2,HB6,HV6,HZ6,HJ2⟩
        first | exact R | ((repeat apply Exists.intro);exact ⟨R,rfl⟩)
       case measure => simp [intOf];omega
      ·have HQN:=jj (HMN.out (by unfold pgR;rw [if_neg (fun h => h0 h.1),if_neg (fun h => h.elim h1 h2)]));have a0 : (bk == 0) = false:=beq_eq_false_iff_ne.2 h0;have a1 : (bk == 1) = false:=beq_eq_false_iff_ne.2 h1;have a2 : (bk == 2) = false:=beq_eq_false_iff_ne.2 h2;have n0 : ((bk.toNat : Int) == 0) = false:=u8_ne h0;have n1 : ((bk.toNat : Int) == 1) = false:=u8_ne h1;have n2 : ((bk.toNat : Int) == 2) = false:=u8_ne h2;clear h0 h1 h2;go_wp2_with fail;refine ⟨rfl,?_⟩;unfold SpacePost;rw [HQN.out];exact ⟨rfl,by rw [HGX.out];exact HW.out.trans (HV5.out.mono (by omega))⟩
  ·obtain rfl : k = 16:=(by omega);have HQ : Hid (spaceR b = some acc):=jj HD.out;have HB' : Hid (Whole wr (gx + 1) 62 (pgCells acc).toArray):=jj (by have h:=HB.out;rw [Nat.sub_self,List.replicate_zero,List.append_nil] at h;exact h);have LR:=jj HB'.out.reads;have SZ : Hid ((Tryz.prog.info? 62).map (·.size) = some (pgCells acc).length):=jj (by rw [pgCells_length,HAC.out];exact Tryz.sizeSpace');have FIT : Hid ((pgCells acc).length = (pgCells (List.replicate 16 zeroPg)).length):=jj (by rw [pgCells_length,pgCells_length,HAC.out,List.length_replicate]);rw [show ((16 : Nat) : Int) = 16 from rfl]
   go_wp2_with (first
    | (refine wpList_load_at rfl 62 (.tmp 3) rfl ⟨gx + 1,0,none⟩ rfl (pgCells acc) _ LR.out Tryz.underlying62 rfl SZ.out ?_)
    | (refine wpList_store_all rfl 62 (.tmp 2) (.tmp 43) rfl rfl gx rfl (pgCells acc) rfl SZ.out _ _ HZ.out FIT.out (pgs_one acc) ?_;intro w6 hw6 hk6))
   refine bodyPost_ret (v:=.agg (pgCells acc).toArray) (results_cell_row rfl _ _ gx 62 _ (0,0) _ rfl hw6.out Tryz.underlying62 rfl (by rw [List.size_toArray];exact SZ.out)) rfl ?_;unfold SpacePost;rw [HQ.out];exact ⟨⟨rfl,HAC.out,HJ.out⟩,by rw [HGX.out];exact HW.out.trans (HV.out.grown hk6.out (by have:=HV.out.size;omega) (fun q e => by injection e with e;omega))⟩
end Go.Proofs.YtmmfcjkabpffeaaGreatDoor
namespace Go.Proofs.YtmmfcjkabpffeaaGreatDoor
open Go.RowKit
structure PrLen (p : Pr) : Prop where
 regs : p.regs.length = 16
 space : p.space.length = 16
 fds : p.fds.length = 8
theorem pr_set_reg {p : Pr} (h : PrLen p) {j : Nat} (hj : j < 16) (r : Int) : (prCells p).set (3 + j) (.int .u32 r) = prCells { p with regs:=p.regs.set j r }:=by
 unfold prCells;rw [show 3 + j = j + 1 + 1 + 1 by omega,List.set_cons_succ,List.set_cons_succ,List.set_cons_succ,List.set_append_left _ _ (by simp [rgCells,h.regs,hj])];simp [rgCells,List.map_set]
theorem pr_set_pc {p : Pr} (h : PrLen p) (r : Int) : (prCells p).set 19 (.int .u32 r) = prCells { p with pc:=r }:=by
 have hl : (rgCells p.regs).length = 16:=(by simp [rgCells,h.regs]);unfold prCells;rw [List.set_cons_succ,List.set_cons_succ,List.set_cons_succ,List.set_append_right _ _ (by omega),hl];rfl
def prA (p : Pr) : List Value:=.int .i64 p.pid :: .int .i64 p.parent :: .int .i64 p.state :: (rgCells p.regs ++ [.int .u32 p.pc])
theorem prA_len {p : Pr} (h : PrLen p) : (prA p).length = 20:=by simp [prA,rgCells,h.regs]
def prZ (p : Pr) : List Value:=[.bool p.mask,.int .u32 p.code,.int .i64 p.why,.int .u64 p.n]
theorem pr_parts (p : Pr) : prCells p = prA p ++ (pgCells p.space ++ (flCells p.fds ++ prZ p)):=by simp [prCells,prA,prZ]
theorem drop_two (A S C : List Value) {n : Nat} (h : A.length + S.length = n) : (A ++ (S ++ C)).drop n = C:=by
 rw [← List.append_assoc];exact List.drop_left' (by rw [List.length_append,h])
theorem pr_put_space {p : Pr} (h : PrLen p) {s : List Pg} (hs : s.length = 16) : (prCells p).take 20 ++ (pgCells s ++ (prCells p).drop (20 + (pgCells s).length)) = prCells { p with space:=s }:=by
 have h1:=prA_len h;have h2 : (pgCells p.space).length = 48:=(by rw [pgCells_length,h.space]);have h3 : (pgCells s).length = 48:=(by rw [pgCells_length,hs]);rw [pr_parts p,List.take_left' h1,h3,drop_two _ _ _ (by rw [h1,h2]),pr_parts { p with space:=s }];rfl
theorem pr_put_fd {p : Pr} (h : PrLen p) {j : Nat} (hj : j < 8) (f : Fl) : (prCells p).take (68 + j * 3) ++ (flCells1 f ++ (prCells p).drop (68 + j * 3 + 3)) = prCells { p with fds:=p.fds.set j f }:=by
 have h1:=prA_len h;have h2 : (pgCells p.space).length = 48:=(by rw [pgCells_length,h.space]);have hf:=h.fds;have e1 : p.fds = p.fds.take j ++ (p.fds[j] :: p.fds.drop (j + 1)):=(by rw [← List.drop_eq_getElem_cons (by omega),List.take_append_drop]);have h4 : (flCells (p.fds.take j)).length = j * 3:=(by rw [flCells_length,List.length_take];omega);have e2 : flCells p.fds = flCells (p.fds.take j) ++ (flCells1 p.fds[j] ++ flCells (p.fds.drop (j + 1))):=(by exact (congrArg flCells e1).trans (by unfold flCells;rw [List.flatMap_append,List.flatMap_cons]));have e3 : p.fds.set j f = p.fds.take j ++ (f :: p.fds.drop (j + 1)):=(by rw [List.set_eq_take_append_cons_drop,if_pos (by omega)]);have e4 : prCells p = (prA p ++ (pgCells p.space ++ flCells (p.fds.take j))) ++ (flCells1 p.fds[j] ++ (flCells (p.fds.drop (j + 1)) ++ prZ p)):=(by rw [pr_parts p,e2];simp);have h5 : (prA p ++ (pgCells p.space ++ flCells (p.fds.take j))).length = 68 + j * 3:=(by rw [List.length_append,List.length_append,h1,h2,h4];omega);rw [e4,List.take_left' h5,drop_two _ _ _ (by rw [h5];rfl),pr_parts { p with fds:=p.fds.set j f }];show _ = prA p ++ (pgCells p.space ++ (flCells (p.fds.set j f) ++ prZ p));rw [e3];simp [flCells]
theorem pr_last_parts (p : Pr) (h : PrLen p) : ∃ A : List Value,A.length = 92 ∧ (∀ q : Pr,q.pid = p.pid → q.parent = p.parent → q.state = p.state → q.regs = p.regs → q.pc = p.pc → q.space = p.space → q.fds = p.fds → prCells q = A ++ prZ q):=by
 refine ⟨prA p ++ (pgCells p.space ++ flCells p.fds),by rw [List.length_append,List.length_append,prA_len h,pgCells_length,flCells_length,h.space,h.fds],fun q a1 a2 a3 a4 a5 a6 a7 => ?_⟩;rw [pr_parts q,a6,a7];have : prA q = prA p:=(by unfold prA;rw [a1,a2,a3,a4,a5]);rw [this];simp
theorem pr_set_mask {p : Pr} (h : PrLen p) (b : Bool) : (prCells p).set 92 (.bool b) = prCells { p with mask:=b }:=by
 obtain ⟨A,hA,hq⟩:=pr_last_parts p h;rw [hq p rfl rfl rfl rfl rfl rfl rfl,hq { p with mask:=b } rfl rfl rfl rfl rfl rfl rfl,List.set_append_right _ _ (by omega),hA];rfl
theorem pr_set_code {p : Pr} (h : PrLen p) (n : Int) : (prCells p).set 93 (.int .u32 n) = prCells { p with code:=n }:=by
 obtain ⟨A,hA,hq⟩:=pr_last_parts p h;rw [hq p rfl rfl rfl rfl rfl rfl rfl,hq { p with code:=n } rfl rfl rfl rfl rfl rfl rfl,List.set_append_right _ _ (by omega),hA];rfl
theorem pr_set_why {p : Pr} (h : PrLen p) (n : Int) : (prCells p).set 94 (.int .i64 n) = prCells { p with why:=n }:=by
 obtain ⟨A,hA,hq⟩:=pr_last_parts p h;rw [hq p rfl rfl rfl rfl rfl rfl rfl,hq { p with why:=n } rfl rfl rfl rfl rfl rfl rfl,List.set_append_right _ _ (by omega),hA];rfl
theorem pr_set_n {p : Pr} (h : PrLen p) (n : Int) : (prCells p).set 95 (.int .u64 n) = prCells { p with n:=n }:=by
 obtain ⟨A,hA,hq⟩:=pr_last_parts p h;rw [hq p rfl rfl rfl rfl rfl rfl rfl,hq { p with n:=n } rfl rfl rfl rfl rfl rfl rfl,List.set_append_right _ _ (by omega),hA];rfl
def regR (s : List UInt8) (i : Nat) : Int:=(getL ((s.drop (4 * i)).take 4) : Int) % 4294967296
def i64Of (n : Nat) : Int:=IntKind.i64.wrap (n : Int)
def fdR (s : List UInt8) (i : Nat) : Fl:=⟨((s.getD (17 * i) 0).toNat : Int),i64Of (getL ((s.drop (17 * i + 1)).take 8)),i64Of (getL ((s.drop (17 * i + 9)).take 8))⟩
def flagP (x : List UInt8) : Option Bool:=if x = [49] then some true else if x = [48] then some false else none
def procOf (s0 s1 s2 s3 s4 s5 s6 s7 s8 s9 : List UInt8) : Option Pr :=
 (intP s0).bind fun pid => (intP s1).bind fun par => (intP s2).bind fun st => if s3.length = 68 then (if s4.length = 32 then (spaceR s4).bind fun sp => if s5.length = 136 then (flagP s6).bind fun mk => if s7.length = 4 then (intP s8).bind fun wy => if s9.length = 8 then
  some ⟨pid,par,st,(List.range 16).map (regR s3),regR s3 16,sp,(List.range 8).map (fdR s5),mk,(getL s7 : Int) % 4294967296,wy,(getL s9 : Int)⟩ else none else none else none else none) else none
def procR (b : List UInt8) : Option Pr:=match openR b 10 with
 | some [s0,s1,s2,s3,s4,s5,s6,s7,s8,s9] => procOf s0 s1 s2 s3 s4 s5 s6 s7 s8 s9
 | _ => none
def ProcPost (w : World) (r : Option Pr) (e : Ending) (w' : World) : Prop :=
 (match r with
  | none => e = bentE
  | some p => e = .returned (.agg (prCells p).toArray) ∧ PrOk p) ∧ Below w.heap.size w w'
end Go.Proofs.YtmmfcjkabpffeaaGreatDoor
namespace Go.Proofs.YtmmfcjkabpffeaaGreatDoor
open Go.RowKit
theorem whole_set {w : World} {g K : Nat} {t : TypeId} {cs cs' : List Value} {v : Value} (h : Whole w g t cs.toArray) (e : cs.set K v = cs') : Whole (w.setCell ⟨g,K,none⟩ v) g t cs'.toArray:=by
 have h2:=h.set K v;rw [List.setIfInBounds_toArray,e] at h2;exact h2
theorem pr_lastL {p : Pr} (h : PrLen p) (j : Nat) : (prCells p)[92 + j]? = (prZ p)[j]?:=by
 obtain ⟨A,hA,hq⟩:=pr_last_parts p h;rw [hq p rfl rfl rfl rfl rfl rfl rfl,List.getElem?_append_right (by omega),hA,Nat.add_sub_cancel_left]
theorem pr_regL {p : Pr} (h : PrLen p) {j : Nat} (hj : j < 16) : (prCells p)[3 + j]? = (rgCells p.regs)[j]?:=by
 unfold prCells;rw [show 3 + j = j + 1 + 1 + 1 by omega,List.getElem?_cons_succ,List.getElem?_cons_succ,List.getElem?_cons_succ,List.getElem?_append_left (by simp [rgCells,h.regs,hj])]
theorem pr_pcL {p : Pr} (h : PrLen p) : (prCells p)[19]? = some (.int .u32 p.pc):=by
 unfold prCells;rw [List.getElem?_cons_succ,List.getElem?_cons_succ,List.getElem?_cons_succ,List.getElem?_append_right (by simp [rgCells,h.regs])];simp [rgCells,h.regs]
theorem fill_len {α : Type} (f : Nat → α) (z : α) {k n : Nat} (h : k ≤ n) : ((List.range k).map f ++ List.replicate (n - k) z).length = n:=by simp;omega
theorem fill_set {α : Type} (f : Nat → α) (z : α) {k n : Nat} (h : k < n) : ((List.range k).map f ++ List.replicate (n - k) z).set k (f k) = (List.range (k + 1)).map f ++ List.replicate (n - (k + 1)) z:=by
 rw [List.set_append_right _ _ (by simp),List.length_map,List.length_range,Nat.sub_self,show n - k = (n - (k + 1)) + 1 by omega,List.replicate_succ,List.set_cons_zero,List.range_succ,List.map_append];simp
theorem fill_at {α : Type} (f : Nat → α) (z : α) {k n : Nat} (h : k < n) : ((List.range k).map f ++ List.replicate (n - k) z)[k]? = some z:=by
 rw [List.getElem?_append_right (by simp),List.length_map,List.length_range,Nat.sub_self,show n - k = (n - (k + 1)) + 1 by omega,List.replicate_succ];rfl
theorem cut_at (s : List UInt8) {k m i : Nat} (h : i < m) : ((s.drop k).take m).getD i 0 = s.getD (k + i) 0:=by
 rw [List.getD_eq_getElem?_getD,List.getD_eq_getElem?_getD,List.getElem?_take,if_pos h,List.getElem?_drop]
theorem cut_cut (s : List UInt8) {k m i n : Nat} (h : i + n ≤ m) : (((s.drop k).take m).drop i).take n = (s.drop (k + i)).take n:=by
 rw [List.drop_take,List.take_take,Nat.min_eq_left (by omega),List.drop_drop]
theorem flagR_eq (x : List UInt8) (l : List (List UInt8)) : flagR (x :: l) = (flagP x).map fun b => (.bool b,l):=by
 show (if x = [49] then some (Value.bool true,l) else if x = [48] then some (Value.bool false,l) else none) = _;unfold flagP;by_cases h1 : x = [49]
 ·rw [if_pos h1,if_pos h1];rfl
 ·rw [if_neg h1,if_neg h1];by_cases h0 : x = [48]
  ·rw [if_pos h0,if_pos h0];rfl
  ·rw [if_neg h0,if_neg h0];rfl
theorem i64Of_in (n : Nat) : inJ8 (i64Of n):=by unfold i64Of inJ8;rw [IntKind.wrap_i64];omega
set_option maxRecDepth 100000 in
set_option maxHeartbeats 4000000 in
theorem readProc_any (w : World) (b : List UInt8) (hb : b.length ≤ 4294967296) (hT : ITabs w) :
  Calls Tryz.prog 87 #[S b] w (ProcPost w (procR b)):=by
 have hs0:=Whole.made w 67 (prCells zeroPr).toArray;have hb : Below w.heap.size w (w.alloc (.cells (prCells zeroPr).toArray 67)):=(Below.refl _ _).alloc (Nat.le_refl _) _;go_enter Tryz.func87,Tryz.ntmps87;go_upto_region 1 with (fail);change Code.wp _ _ _ _ (w.alloc (.cells (prCells zeroPr).toArray 67));generalize (w.alloc (.cells (prCells zeroPr).toArray 67)) = w1 at *;generalize hgx : w.heap.size = gx at *;have HGX:=jj hgx;have HS0:=jj hs0;have HW:=jj hb;have hgl : gx < w1.heap.size:=hs0.lt;clear hgx hb hs0;have CO:=jj (open_any w1 b 10 (by omega) (by unfold inJ8;omega));have HIT : Hid (∀ W,Below w1.heap.size w1 W → ITabs W):=jj fun W hW => hT.below (B:=gx) (by rw [HGX.out];exact Nat.le_refl _) (HW.out.trans (hW.mono (by omega)));have HBL:=jj hb;clear hT hb;go_wp2_with fail;refine CO.out.mono ?_;rintro e w2 ⟨he,hb2⟩;have HB2:=jj hb2;clear hb2 CO;have hbl:=HBL.out;cases hq : openR b 10 with
 | none => rw [hq] at he;obtain rfl : e = bentE:=he;have HQ : Hid (procR b = none):=jj (by unfold procR;rw [hq]);clear hq;go_wp2_with fail;refine ⟨rfl,?_⟩;unfold ProcPost;rw [HQ.out];exact ⟨rfl,by rw [HGX.out];exact HW.out.trans (HB2.out.mono (by omega))⟩
 | some l =>
  rw [hq] at he;obtain ⟨g,rfl,hC,hge⟩:=he;have hll:=(openR_ok hq).2 (by omega);have hm:=texts_mem (openR_ok hq).1
  match l,hll with
  | [s0,s1,s2,s3,s4,s5,s6,s7,s8,s9],_ =>
   have HPR : Hid (procR b = procOf s0 s1 s2 s3 s4 s5 s6 s7 s8 s9):=jj (by unfold procR;rw [hq]);have HML : Hid (∀ y ∈ [s0,s1,s2,s3,s4,s5,s6,s7,s8,s9],y.length ≤ 1099511627776):=jj fun y hy => (by have:=hm y hy;omega);have hgB : g < w2.heap.size:=hC.1.2;have hgx : w1.heap.size ≤ g:=hge;have HC3:=jj (hC.below ((Below.refl _ _).alloc (Nat.le_refl _) (.cells (prCells zeroPr).toArray 67)));have HP3:=jj (Whole.made w2 67 (prCells zeroPr).toArray);have HZ3:=jj ((HS0.out.below HB2.out hgl).block (.cells (prCells zeroPr).toArray 67));have HV3:=jj (HB2.out.alloc HB2.out.size (.cells (prCells zeroPr).toArray 67));have hz3 : w2.heap.size ≤ (w2.alloc (.cells (prCells zeroPr).toArray 67)).heap.size:=(by simp);clear hq hC hll hm hge;go_upto_region 3 with (fail);change Code.wp _ _ _ _ (w2.alloc (.cells (prCells zeroPr).toArray 67));generalize w2.alloc (.cells (prCells zeroPr).toArray 67) = w3 at *;have CX:=jj (cdec_any w3 g w2.heap.size [s0,s1,s2,s3,s4,s5,s6,s7,s8,s9] HC3.out hz3 (fun y hy => HML.out y (List.mem_of_mem_drop (i:=0) (show y ∈ [s0,s1,s2,s3,s4,s5,s6,s7,s8,s9].drop 0 from hy))) fun W hW => HIT.out W (below_one HV3.out HV3.out.size hW hgx));go_wp2_with fail;refine CX.out.mono ?_;rintro e w4 ⟨he,hk⟩;have HV4:=jj (below_one HV3.out HV3.out.size hk hgx);have HP4:=jj (HP3.out.other hk (by intro e;injection e with e;omega));have HZ4:=jj (HZ3.out.other hk (by intro e;injection e with e;omega));have hz4 : w2.heap.size ≤ w4.heap.size:=Nat.le_trans hz3 hk.size;clear hk;clear CX HP3 HZ3 HV3 hz3 HC3;cases hi : intP s0 with
   | none => rw [show decR [s0,s1,s2,s3,s4,s5,s6,s7,s8,s9] = none by show (intP s0).map _ = _;rw [hi];rfl] at he;obtain rfl : e = bentE:=he;have HQ : Hid (procR b = none):=jj (by rw [HPR.out];unfold procOf;simp [hi]);go_wp2_with fail;refine ⟨rfl,?_⟩;unfold ProcPost;rw [HQ.out];exact ⟨rfl,by rw [HGX.out];exact HW.out.trans (HV4.out.mono (by omega))⟩
   | some pid =>
    rw [show decR [s0,s1,s2,s3,s4,s5,s6,s7,s8,s9] = some (.int .i64 pid,[s1,s2,s3,s4,s5,s6,s7,s8,s9]) by show (intP s0).map _ = _;rw [hi];rfl] at he;obtain ⟨rfl,hC⟩:=he;have HC4:=jj hC;have F0:=jj hi;clear hi hC;have CX:=jj (cdec_any w4 g w2.heap.size [s1,s2,s3,s4,s5,s6,s7,s8,s9] HC4.out hz4 (fun y hy => HML.out y (List.mem_of_mem_drop (i:=1) (show y ∈ [s0,s1,s2,s3,s4,s5,s6,s7,s8,s9].drop 1 from hy))) fun W hW => HIT.out W (below_one HV4.out HV4.out.size hW hgx));go_wp2_with fail;refine CX.out.mono ?_;rintro e w5 ⟨he,hk⟩;have HV5:=jj (below_one HV4.out HV4.out.size hk hgx);have HP5:=jj (HP4.out.other hk (by intro e;injection e with e;omega));have HZ5:=jj (HZ4.out.other hk (by intro e;injection e with e;omega));have hz5 : w2.heap.size ≤ w5.heap.size:=Nat.le_trans hz4 hk.size;clear hk;clear CX HP4 HZ4 HV4 hz4 HC4;cases hi : intP s1 with
    | none => rw [show decR [s1,s2,s3,s4,s5,s6,s7,s8,s9] = none by show (intP s1).map _ = _;rw [hi];rfl] at he;obtain rfl : e = bentE:=he;have HQ : Hid (procR b = none):=jj (by rw [HPR.out];unfold procOf;simp [F0.out,hi]);go_wp2_with fail;refine ⟨rfl,?_⟩;unfold ProcPost;rw [HQ.out];exact ⟨rfl,by rw [HGX.out];exact HW.out.trans (HV5.out.mono (by omega))⟩
    | some par =>
     rw [show decR [s1,s2,s3,s4,s5,s6,s7,s8,s9] = some (.int .i64 par,[s2,s3,s4,s5,s6,s7,s8,s9]) by show (intP s1).map _ = _;rw [hi];rfl] at he;obtain ⟨rfl,hC⟩:=he;have HC5:=jj hC;have F1:=jj hi;clear hi hC;have CX:=jj (cdec_any w5 g w2.heap.size [s2,s3,s4,s5,s6,s7,s8,s9] HC5.out hz5 (fun y hy => HML.out y (List.mem_of_mem_drop (i:=2) (show y ∈ [s0,s1,s2,s3,s4,s5,s6,s7,s8,s9].drop 2 from hy))) fun W hW => HIT.out W (below_one HV5.out HV5.out.size hW hgx));go_wp2_with fail;refine CX.out.mono ?_;rintro e w6 ⟨he,hk⟩;have HV6:=jj (below_one HV5.out HV5.out.size hk hgx);have HP6:=jj (HP5.out.other hk (by intro e;injection e with e;omega));have HZ6:=jj (HZ5.out.other hk (by intro e;injection e with e;omega));have hz6 : w2.heap.size ≤ w6.heap.size:=Nat.le_trans hz5 hk.size;clear hk;clear CX HP5 HZ5 HV5 hz5 HC5;cases hi : intP s2 with
     | none => rw [show decR [s2,s3,s4,s5,s6,s7,s8,s9] = none by show (intP s2).map _ = _;rw [hi];rfl] at he;obtain rfl : e = bentE:=he;have HQ : Hid (procR b = none):=jj (by rw [HPR.out];unfold procOf;simp [F0.out,F1.out,hi]);go_wp2_with fail;refine ⟨rfl,?_⟩;unfold ProcPost;rw [HQ.out];exact ⟨rfl,by rw [HGX.out];exact HW.out.trans (HV6.out.mono (by omega))⟩
     | some st =>
      rw [show decR [s2,s3,s4,s5,s6,s7,s8,s9] = some (.int .i64 st,[s3,s4,s5,s6,s7,s8,s9]) by show (intP s2).map _ = _;rw [hi];rfl] at he;obtain ⟨rfl,hC⟩:=he;have HC6:=jj hC;have F2:=jj hi;clear hi hC;have cs0 : w6.cell? ⟨w2.heap.size,0,none⟩ = some (.int .i64 0):=HP6.out.cell 0;have ys0 : w6.frozen? ⟨w2.heap.size,0,none⟩ = false:=HP6.out.free 0;have cs1 : w6.cell? ⟨w2.heap.size,1,none⟩ = some (.int .i64 0):=HP6.out.cell 1;have ys1 : w6.frozen? ⟨w2.heap.size,1,none⟩ = false:=HP6.out.free 1;have cs2 : w6.cell? ⟨w2.heap.size,2,none⟩ = some (.int .i64 0):=HP6.out.cell 2;have ys2 : w6.frozen? ⟨w2.heap.size,2,none⟩ = false:=HP6.out.free 2;have HP7 : Hid (Whole _ w2.heap.size 67 (prCells (⟨pid,par,st,(List.replicate 16 0),0,(List.replicate 16 zeroPg),(List.replicate 8 (⟨0,0,0⟩ : Fl)),false,0,0,0⟩ : Pr)).toArray):=jj (whole_set (K:=2) (v:=.int .i64 st) (cs':=prCells (⟨pid,par,st,(List.replicate 16 0),0,(List.replicate 16 zeroPg),(List.replicate 8 (⟨0,0,0⟩ : Fl)),false,0,0,0⟩ : Pr)) (whole_set (K:=1) (v:=.int .i64 par) (cs':=prCells (⟨pid,par,0,(List.replicate 16 0),0,(List.replicate 16 zeroPg),(List.replicate 8 (⟨0,0,0⟩ : Fl)),false,0,0,0⟩ : Pr)) (whole_set (K:=0) (v:=.int .i64 pid) (cs':=prCells (⟨pid,0,0,(List.replicate 16 0),0,(List.replicate 16 zeroPg),(List.replicate 8 (⟨0,0,0⟩ : Fl)),false,0,0,0⟩ : Pr)) HP6.out rfl) rfl) rfl);have HZ7:=jj (((HZ6.out.far (p:=⟨w2.heap.size,0,none⟩) (by show gx ≠ w2.heap.size;omega) (.int .i64 pid)).far (p:=⟨w2.heap.size,1,none⟩) (by show gx ≠ w2.heap.size;omega) (.int .i64 par)).far (p:=⟨w2.heap.size,2,none⟩) (by show gx ≠ w2.heap.size;omega) (.int .i64 st));have HV7:=jj (((HV6.out.setCell (p:=⟨w2.heap.size,0,none⟩) (by show w1.heap.size ≤ w2.heap.size;omega) (.int .i64 pid)).setCell (p:=⟨w2.heap.size,1,none⟩) (by show w1.heap.size ≤ w2.heap.size;omega) (.int .i64 par)).setCell (p:=⟨w2.heap.size,2,none⟩) (by show w1.heap.size ≤ w2.heap.size;omega) (.int .i64 st));have HC7:=jj (HC6.out.below ((((Below.refl w2.heap.size w6).setCell (p:=⟨w2.heap.size,0,none⟩) (Nat.le_refl _) (.int .i64 pid)).setCell (p:=⟨w2.heap.size,1,none⟩) (Nat.le_refl _) (.int .i64 par)).setCell (p:=⟨w2.heap.size,2,none⟩) (Nat.le_refl _) (.int .i64 st)));have hz7 : w2.heap.size ≤ (((w6.setCell ⟨w2.heap.size,0,none⟩ (.int .i64 pid)).setCell ⟨w2.heap.size,1,none⟩ (.int .i64 par)).setCell ⟨w2.heap.size,2,none⟩ (.int .i64 st)).heap.size:=(by simpa [World.setCell] using hz6)
      go_upto_region 4 with (fail);clear cs0 cs1 cs2 ys0 ys1 ys2 HP6 HZ6 HV6 HC6 hz6;generalize (((w6.setCell ⟨w2.heap.size,0,none⟩ (.int .i64 pid)).setCell ⟨w2.heap.size,1,none⟩ (.int .i64 par)).setCell ⟨w2.heap.size,2,none⟩ (.int .i64 st)) = w7 at *;have CX:=jj (fixed_any w7 g w2.heap.size [s3,s4,s5,s6,s7,s8,s9] HC7.out 68 (by omega));go_wp2_with fail;refine CX.out.mono ?_;rintro e w8 ⟨he,hk⟩;have HV8:=jj (below_one HV7.out HV7.out.size hk hgx);have HP8:=jj (HP7.out.other hk (by intro e;injection e with e;omega));have HZ8:=jj (HZ7.out.other hk (by intro e;injection e with e;omega));have hz8 : w2.heap.size ≤ w8.heap.size:=Nat.le_trans hz7 hk.size;clear hk;clear CX HP7 HZ7 HV7 hz7 HC7;by_cases hi : s3.length = 68
      ·rw [show fixedR 68 [s3,s4,s5,s6,s7,s8,s9] = some (S s3,[s4,s5,s6,s7,s8,s9]) from if_pos hi] at he;obtain ⟨rfl,hC⟩:=he;have HC8:=jj hC;have F3:=jj hi;clear hi hC;go_wp2_with fail
       go_loopw [23] (fun i wr => ∃ k : Nat,k ≤ 16 ∧ i = .int .i64 (k : Int) ∧ Hid (Whole wr w2.heap.size 67 (prCells (⟨pid,par,st,((List.range k).map (regR s3) ++ List.replicate (16 - k) 0),0,(List.replicate 16 zeroPg),(List.replicate 8 (⟨0,0,0⟩ : Fl)),false,0,0,0⟩ : Pr)).toArray) ∧ Hid (Whole wr gx 67 (prCells zeroPr).toArray) ∧ Hid (Below w1.heap.size w1 wr) ∧ Hid (Cur wr w1.heap.size g w2.heap.size [s4,s5,s6,s7,s8,s9]) ∧ w2.heap.size ≤ wr.heap.size) (fun i _ => 16 - (intOf i).toNat)
       case atStart => exact ⟨0,by omega,rfl,HP8,HZ8,HV8,HC8,hz8⟩
       case round =>
        obtain ⟨k,hk16,rfl,HPr,HZr,HVr,HCr,hzr⟩:=hrel;clear HP8 HZ8 HV8 HC8 hz8;have h68:=F3.out;by_cases hlt : k < 16
        ·have HCUT:=jj (fun W => run_cut_S s3 .i64 .i64 (4 * (k : Int)) (4 * (k : Int) + 4) (4 * k) (4 * k + 4) (by omega) (by omega) (by omega) (by omega) W);have hcv : ∀ W,(Instr.slice 9 (S s3) (some (.int .i64 (4 * (k : Int)))) (some (.int .i64 (4 * (k : Int) + 4))) none).run Tryz.prog W = .ok (S ((s3.drop (4 * k)).take 4)) W:=fun W => (by rw [HCUT.out W];rw [show 4 * k + 4 - 4 * k = 4 by omega]);have m4 : IntKind.i64.wrap (4 * (k : Int)) = 4 * (k : Int):=(by rw [IntKind.wrap_i64];omega);have m5 : IntKind.i64.wrap (4 * (k : Int) + 4) = 4 * (k : Int) + 4:=(by rw [IntKind.wrap_i64];omega);have CG:=jj (get_any wr ((s3.drop (4 * k)).take 4) (by simp;omega));have mR : IntKind.u32.wrap ((getL ((s3.drop (4 * k)).take 4) : Nat) : Int) = regR s3 k:=(by rw [IntKind.wrap_u32];rfl);have HPL : Hid (PrLen (⟨pid,par,st,((List.range k).map (regR s3) ++ List.replicate (16 - k) 0),0,(List.replicate 16 zeroPg),(List.replicate 8 (⟨0,0,0⟩ : Fl)),false,0,0,0⟩ : Pr)):=jj ⟨fill_len _ _ hk16,by simp,by simp⟩;have cs : wr.cell? ⟨w2.heap.size,3 + k,none⟩ = some (.int .u32 0):=(HPr.out.cell (3 + k)).trans (by rw [List.getElem?_toArray,pr_regL HPL.out hlt];show (rgCells ((List.range k).map (regR s3) ++ List.replicate (16 - k) 0))[k]? = _;unfold rgCells;rw [List.getElem?_map,fill_at _ _ hlt];rfl);have ys : wr.frozen? ⟨w2.heap.size,3 + k,none⟩ = false:=HPr.out.free (3 + k)
         have FIN : Hid ((Whole (wr.setCell ⟨w2.heap.size,3 + k,none⟩ (.int .u32 (regR s3 k))) w2.heap.size 67 (prCells (⟨pid,par,st,((List.range (k + 1)).map (regR s3) ++ List.replicate (16 - (k + 1)) 0),0,(List.replicate 16 zeroPg),(List.replicate 8 (⟨0,0,0⟩ : Fl)),false,0,0,0⟩ : Pr)).toArray) ∧ Whole (wr.setCell ⟨w2.heap.size,3 + k,none⟩ (.int .u32 (regR s3 k))) gx 67 (prCells zeroPr).toArray ∧ Below w1.heap.size w1 (wr.setCell ⟨w2.heap.size,3 + k,none⟩ (.int .u32 (regR s3 k))) ∧ Cur (wr.setCell ⟨w2.heap.size,3 + k,none⟩ (.int .u32 (regR s3 k))) w1.heap.size g w2.heap.size [s4,s5,s6,s7,s8,s9] ∧ w2.heap.size ≤ (wr.setCell ⟨w2.heap.size,3 + k,none⟩ (.int .u32 (regR s3 k))).heap.size):=jj
          ⟨whole_set HPr.out (by rw [pr_set_reg HPL.out hlt];show prCells ⟨pid,par,st,((List.range k).map (regR s3) ++ List.replicate (16 - k) 0).set k (regR s3 k),_,_,_,_,_,_,_⟩ = _;rw [fill_set _ _ hlt]),HZr.out.far (p:=⟨w2.heap.size,3 + k,none⟩) (by show gx ≠ w2.heap.size;omega) _,HVr.out.setCell (p:=⟨w2.heap.size,3 + k,none⟩) (by show w1.heap.size ≤ w2.heap.size;omega) _,HCr.out.below ((Below.refl w2.heap.size wr).setCell (p:=⟨w2.heap.size,3 + k,none⟩) (Nat.le_refl _) _),by simpa [World.setCell] using hzr⟩
         have d1 : decide ((k : Int) < 16) = true:=decide_eq_true (by omega);have d2 : decide (k < 16) = true:=decide_eq_true hlt;have i0 : (0 : Int) ≤ (k : Int):=(by omega);have i1 : (k : Int) < 16:=(by omega);generalize regR s3 k = rk at *;generalize (s3.drop (4 * k)).take 4 = cut at *;clear h68 HPr HZr HVr HCr HPL HCUT;go_wp2_with fail;refine CG.out.mono ?_;rintro e wq ⟨rfl,rfl⟩;go_wp2_with fail
         go_roundw
         case rel =>
          have R : ∃ k' : Nat,k' ≤ 16 ∧ Value.int .i64 ((k : Int) + 1) = .int .i64 (k' : Int) ∧ Hid (Whole (wq.setCell ⟨w2.heap.size,3 + k,none⟩ (.int .u32 rk)) w2.heap.size 67 (prCells (⟨pid,par,st,((List.range k').map (regR s3) ++ List.replicate (16 - k') 0),0,(List.replicate 16 zeroPg),(List.replicate 8 (⟨0,0,0⟩ : Fl)),false,0,0,0⟩ : Pr)).toArray) ∧ Hid (Whole (wq.setCell ⟨w2.heap.size,3 + k,none⟩ (.int .u32 rk)) gx 67 (prCells zeroPr).toArray) ∧ Hid (Below w1.heap.size w1 (wq.setCell ⟨w2.heap.size,3 + k,none⟩ (.int .u32 rk))) ∧ Hid (Cur (wq.setCell ⟨w2.heap.size,3 + k,none⟩ (.int .u32 rk)) w1.heap.size g w2.heap.size [s4,s5,s6,s7,s8,s9]) ∧ w2.heap.size ≤ (wq.setCell ⟨w2.heap.size,3 + k,none⟩ (.int .u32 rk)).heap.size:=⟨k + 1,by omega,by go_num,jj FIN.out.1,jj FIN.out.2.1,jj FIN.out.2.2.1,jj FIN.out.2.2.2.1,FIN.out.2.2.2.2⟩
          first | exact R | ((repeat apply Exists.intro);exact ⟨R,rfl⟩)
         case measure => simp [intOf];omega
        ·obtain rfl : k = 16:=(by omega);have HP9 : Hid (Whole wr w2.heap.size 67 (prCells (⟨pid,par,st,((List.range 16).map (regR s3)),0,(List.replicate 16 zeroPg),(List.replicate 8 (⟨0,0,0⟩ : Fl)),false,0,0,0⟩ : Pr)).toArray):=jj (by have h:=HPr.out;rw [Nat.sub_self,List.replicate_zero,List.append_nil] at h;exact h);clear HPr hlt hk16;rw [show ((16 : Nat) : Int) = 16 from rfl];have HZ9:=HZr;have HV9:=HVr;have HC9:=HCr;have hz9:=hzr;clear HZr HVr HCr hzr;obtain ⟨w9,hw9⟩ : ∃ z : World,z = wr:=⟨_,rfl⟩;subst hw9;have hcv:=fun W => run_from_S s3 .i64 64 64 rfl (by omega) W;have CG:=jj (get_any w9 (s3.drop 64) (by simp;omega))
         have mR : IntKind.u32.wrap ((getL (s3.drop 64) : Nat) : Int) = regR s3 16:=(by rw [IntKind.wrap_u32];unfold regR;rw [show 4 * 16 = 64 from rfl,List.take_of_length_le (by simp;omega)]);have HPL : Hid (PrLen (⟨pid,par,st,((List.range 16).map (regR s3)),0,(List.replicate 16 zeroPg),(List.replicate 8 (⟨0,0,0⟩ : Fl)),false,0,0,0⟩ : Pr)):=jj ⟨by simp,by simp,by simp⟩;have cs : w9.cell? ⟨w2.heap.size,19,none⟩ = some (.int .u32 0):=(HP9.out.cell 19).trans (by rw [List.getElem?_toArray];exact pr_pcL HPL.out);have ys : w9.frozen? ⟨w2.heap.size,19,none⟩ = false:=HP9.out.free 19;have HP10 : Hid (Whole _ w2.heap.size 67 (prCells (⟨pid,par,st,((List.range 16).map (regR s3)),(regR s3 16),(List.replicate 16 zeroPg),(List.replicate 8 (⟨0,0,0⟩ : Fl)),false,0,0,0⟩ : Pr)).toArray):=jj (whole_set (K:=19) (v:=.int .u32 (regR s3 16)) HP9.out (pr_set_pc HPL.out _));have HZ10:=jj (HZ9.out.far (p:=⟨w2.heap.size,19,none⟩) (by show gx ≠ w2.heap.size;omega) (.int .u32 (regR s3 16)));have HV10:=jj (HV9.out.setCell (p:=⟨w2.heap.size,19,none⟩) (by show w1.heap.size ≤ w2.heap.size;omega) (.int .u32 (regR s3 16)));have HC10:=jj (HC9.out.below ((Below.refl w2.heap.size w9).setCell (p:=⟨w2.heap.size,19,none⟩) (Nat.le_refl _) (.int .u32 (regR s3 16))));have hz10 : w2.heap.size ≤ (w9.setCell ⟨w2.heap.size,19,none⟩ (.int .u32 (regR s3 16))).heap.size:=(by simpa [World.setCell] using hz9);clear h68;go_wp2_with fail;refine CG.out.mono ?_;rintro e wq ⟨rfl,rfl⟩;go_upto_region 11 with (fail);clear cs ys hcv CG mR HPL HP9 HZ9 HV9 HC9 hz9;generalize wq.setCell ⟨w2.heap.size,19,none⟩ (.int .u32 (regR s3 16)) = w10 at *;have CX:=jj (fixed_any w10 g w2.heap.size [s4,s5,s6,s7,s8,s9] HC10.out 32 (by omega));go_wp2_with fail;refine CX.out.mono ?_;rintro e w11 ⟨he,hk⟩;have HV11:=jj (below_one HV10.out HV10.out.size hk hgx);have HP11:=jj (HP10.out.other hk (by intro e;injection e with e;omega));have HZ11:=jj (HZ10.out.other hk (by intro e;injection e with e;omega));have hz11 : w2.heap.size ≤ w11.heap.size:=Nat.le_trans hz10 hk.size;clear hk;clear CX HP10 HZ10 HV10 hz10 HC10;by_cases hi : s4.length = 32
         ·rw [show fixedR 32 [s4,s5,s6,s7,s8,s9] = some (S s4,[s5,s6,s7,s8,s9]) from if_pos hi] at he;obtain ⟨rfl,hC⟩:=he;have HC11:=jj hC;have F4:=jj hi;clear hi hC;have CX:=jj (readSpace_any w11 s4 F4.out);go_wp2_with fail;refine CX.out.mono ?_;rintro e w12 ⟨he,hb⟩;have hkk:=hb.mono hz11;have HV12:=jj (HV11.out.trans (hb.mono HV11.out.size));have HP12:=jj (HP11.out.below hb HP11.out.lt);have HZ12:=jj (HZ11.out.below hb HZ11.out.lt);have HC12:=jj (HC11.out.below hkk);have hz12 : w2.heap.size ≤ w12.heap.size:=Nat.le_trans hz11 hb.size;clear CX hb hkk HP11 HZ11 HV11 HC11 hz11;cases hi : spaceR s4 with
          | none => rw [hi] at he;obtain rfl : e = bentE:=he;have HQ : Hid (procR b = none):=jj (by rw [HPR.out];unfold procOf;simp [F0.out,F1.out,F2.out,F3.out,F4.out,hi]);go_wp2_with fail;refine ⟨rfl,?_⟩;unfold ProcPost;rw [HQ.out];exact ⟨rfl,by rw [HGX.out];exact HW.out.trans (HV12.out.mono (by omega))⟩
          | some sp =>
           rw [hi] at he;obtain ⟨rfl,hsp⟩:=he;have HSP:=jj hsp;have FS:=jj hi;have SZ : Hid ((Tryz.prog.info? 62).map (·.size) = some (pgCells sp).length):=jj (by rw [pgCells_length,HSP.out.1];exact Tryz.sizeSpace');have HPL : Hid (PrLen (⟨pid,par,st,((List.range 16).map (regR s3)),(regR s3 16),(List.replicate 16 zeroPg),(List.replicate 8 (⟨0,0,0⟩ : Fl)),false,0,0,0⟩ : Pr)):=jj ⟨by simp,by simp,by simp⟩;have FIT : Hid (20 + (pgCells sp).length ≤ (prCells (⟨pid,par,st,((List.range 16).map (regR s3)),(regR s3 16),(List.replicate 16 zeroPg),(List.replicate 8 (⟨0,0,0⟩ : Fl)),false,0,0,0⟩ : Pr)).length):=jj (by rw [pr_parts,List.length_append,List.length_append,prA_len HPL.out,pgCells_length,pgCells_length,HSP.out.1];simp;omega);clear hi hsp;go_upto_region 12 with (refine wpList_store_at rfl 62 (.tmp 49) (.tmp 48) rfl rfl w2.heap.size 20 rfl (pgCells sp) rfl SZ.out _ _ HP12.out FIT.out (pgs_one sp) ?_;intro w13 hw hk');have hk:=hk'.out;have HP13 : Hid (Whole w13 w2.heap.size 67 (prCells (⟨pid,par,st,((List.range 16).map (regR s3)),(regR s3 16),sp,(List.replicate 8 (⟨0,0,0⟩ : Fl)),false,0,0,0⟩ : Pr)).toArray):=jj (by have h:=hw.out;rw [pr_put_space HPL.out HSP.out.1] at h;exact h);have HV13:=jj (below_one HV12.out HV12.out.size hk (by omega));have HZ13:=jj (HZ12.out.other hk (by intro e;injection e with e;omega));have HC13:=jj (HC12.out.below (below_one (Below.refl _ _) hz12 hk (Nat.le_refl _)));have hz13 : w2.heap.size ≤ w13.heap.size:=Nat.le_trans hz12 hk.size;clear hw hk hk' SZ FIT HPL HP12 HZ12 HV12 HC12 hz12;have CX:=jj (fixed_any w13 g w2.heap.size [s5,s6,s7,s8,s9] HC13.out 136 (by omega));go_wp2_with fail;refine CX.out.mono ?_;rintro e w14 ⟨he,hk⟩;have HV14:=jj (below_one HV13.out HV13.out.size hk hgx);have HP14:=jj (HP13.out.other hk (by intro e;injection e with e;omega));have HZ14:=jj (HZ13.out.other hk (by intro e;injection e with e;omega));have hz14 : w2.heap.size ≤ w14.heap.size:=Nat.le_trans hz13 hk.size;clear hk;clear CX HP13 HZ13 HV13 hz13 HC13;by_cases hi : s5.length = 136
           ·rw [show fixedR 136 [s5,s6,s7,s8,s9] = some (S s5,[s6,s7,s8,s9]) from if_pos hi] at he;obtain ⟨rfl,hC⟩:=he;have HC14:=jj hC;have F5:=jj hi;clear hi hC;go_wp2_with fail
            go_loopw [52] (fun i wr => ∃ k : Nat,k ≤ 8 ∧ i = .int .i64 (k : Int) ∧ Hid (Whole wr w2.heap.size 67 (prCells (⟨pid,par,st,((List.range 16).map (regR s3)),(regR s3 16),sp,((List.range k).map (fdR s5) ++ List.replicate (8 - k) (⟨0,0,0⟩ : Fl)),false,0,0,0⟩ : Pr)).toArray) ∧ Hid (Whole wr gx 67 (prCells zeroPr).toArray) ∧ Hid (Below w1.heap.size w1 wr) ∧ Hid (Cur wr w1.heap.size g w2.heap.size [s6,s7,s8,s9]) ∧ w2.heap.size ≤ wr.heap.size) (fun i _ => 8 - (intOf i).toNat)
            case atStart => exact ⟨0,by omega,rfl,HP14,HZ14,HV14,HC14,hz14⟩
            case round =>
             obtain ⟨k,hk8,rfl,HPr,HZr,HVr,HCr,hzr⟩:=hrel;clear HP14 HZ14 HV14 HC14 hz14;by_cases hlt : k < 8
             ·have h136:=F5.out;have HCUT:=jj (fun W => run_cut_S s5 .i64 .i64 (17 * (k : Int)) (17 * ((k : Int) + 1)) (17 * k) (17 * (k + 1)) (by omega) (by omega) (by omega) (by omega) W);have hcv : ∀ W,(Instr.slice 9 (S s5) (some (.int .i64 (17 * (k : Int)))) (some (.int .i64 (17 * ((k : Int) + 1)))) none).run Tryz.prog W = .ok (S ((s5.drop (17 * k)).take 17)) W:=fun W => (by rw [HCUT.out W];rw [show 17 * (k + 1) - 17 * k = 17 by omega]);have m4 : IntKind.i64.wrap (17 * (k : Int)) = 17 * (k : Int):=(by rw [IntKind.wrap_i64];omega);have m5 : IntKind.i64.wrap ((k : Int) + 1) = (k : Int) + 1:=(by rw [IntKind.wrap_i64];omega);have m6 : IntKind.i64.wrap (17 * ((k : Int) + 1)) = 17 * ((k : Int) + 1):=(by rw [IntKind.wrap_i64];omega);have HPL : Hid (PrLen (⟨pid,par,st,((List.range 16).map (regR s3)),(regR s3 16),sp,((List.range k).map (fdR s5) ++ List.replicate (8 - k) (⟨0,0,0⟩ : Fl)),false,0,0,0⟩ : Pr)):=jj ⟨by simp,HSP.out.1,fill_len _ _ hk8⟩;have FIT : Hid (68 + k * 3 + (flCells1 (⟨0,0,0⟩ : Fl)).length ≤ (prCells (⟨pid,par,st,((List.range 16).map (regR s3)),(regR s3 16),sp,((List.range k).map (fdR s5) ++ List.replicate (8 - k) (⟨0,0,0⟩ : Fl)),false,0,0,0⟩ : Pr)).length):=jj (by have h2 : (pgCells sp).length = 48:=(by rw [pgCells_length,HSP.out.1]);have h3 : (flCells ((List.range k).map (fdR s5) ++ List.replicate (8 - k) (⟨0,0,0⟩ : Fl))).length = 24:=(by rw [flCells_length,fill_len _ _ hk8]);rw [pr_parts,List.length_append,List.length_append,List.length_append,prA_len HPL.out];show 68 + k * 3 + 3 ≤ 20 + ((pgCells sp).length + ((flCells ((List.range k).map (fdR s5) ++ List.replicate (8 - k) (⟨0,0,0⟩ : Fl))).length + (prZ _).length));rw [h2,h3];simp [prZ];omega);have HFD0 : Hid (fdR s5 k = ⟨((((s5.drop (17 * k)).take 17).getD 0 0).toNat : Int),i64Of (getL ((((s5.drop (17 * k)).take 17).drop 1).take 8)),i64Of (getL ((((s5.drop (17 * k)).take 17).drop 9).take 8))⟩):=jj (by rw [cut_at s5 (by omega),cut_cut s5 (by omega),cut_cut s5 (by omega)];rfl);have hcl : ((s5.drop (17 * k)).take 17).length = 17:=(by rw [List.length_take,List.length_drop];omega);have d1 : decide ((k : Int) < 8) = true:=decide_eq_true (by omega);have d2 : decide (k < 8) = true:=decide_eq_true hlt;have i0 : (0 : Int) ≤ (k : Int):=(by omega);have i1 : (k : Int) < 8:=(by omega);generalize (s5.drop (17 * k)).take 17 = c at *;clear h136 HCUT;go_upto_region 17 with (fail);have HX0:=jj (fun W => run_index_S c .i64 0 0 rfl (by omega) W);have HX1 : Hid (∀ W,(Instr.slice 9 (S c) (some (.int .i64 1)) (some (.int .i64 9)) none).run Tryz.prog W = .ok (S ((c.drop 1).take 8)) W):=jj (fun W => run_cut_S c .i64 .i64 1 9 1 9 rfl rfl (by omega) (by omega) W);have HX2 : Hid (∀ W,(Instr.slice 9 (S c) (some (.int .i64 9)) (some (.int .i64 17)) none).run Tryz.prog W = .ok (S ((c.drop 9).take 8)) W):=jj (fun W => run_cut_S c .i64 .i64 9 17 9 17 rfl rfl (by omega) (by omega) W);have CG1 : Hid (∀ W,Calls Tryz.prog 124 #[S ((c.drop 1).take 8)] W fun e w' => e = .returned (.int .u64 (getL ((c.drop 1).take 8) : Nat)) ∧ Below W.heap.size W w'):=jj fun W => (get_any W _ (by simp;omega)).mono fun e w' h => ⟨h.1,by rw [h.2];exact Below.refl _ _⟩;have CG2 : Hid (∀ W,Calls Tryz.prog 124 #[S ((c.drop 9).take 8)] W fun e w' => e = .returned (.int .u64 (getL ((c.drop 9).take 8) : Nat)) ∧ Below W.heap.size W w'):=jj fun W => (get_any W _ (by simp;omega)).mono fun e w' h => ⟨h.1,by rw [h.2];exact Below.refl _ _⟩;have mN : IntKind.i64.wrap ((getL ((c.drop 1).take 8) : Nat) : Int) = i64Of (getL ((c.drop 1).take 8)):=rfl;have mP : IntKind.i64.wrap ((getL ((c.drop 9).take 8) : Nat) : Int) = i64Of (getL ((c.drop 9).take 8)):=rfl;have HFD:=HFD0;have mK : IntKind.i64.wrap ((c.getD 0 0).toNat : Int) = ((c.getD 0 0).toNat : Int):=(by have:=(c.getD 0 0).toNat_lt;rw [IntKind.wrap_i64];omega);generalize c.getD 0 0 = bk at *;generalize (c.drop 1).take 8 = x1 at *;generalize (c.drop 9).take 8 = x2 at *;clear hcv m4 m5 m6 hcl HFD0;refine' wp_region_sure (by kernel_rfl) (fun W => Below wr.heap.size wr W) 15 [_,_,_,_,_,_,_,_,_,_,_,_,_,_,_] [some 62,some 63,some 64,some 65,some 66,some 67,some 68,some 69,some 70,some 71,some 72,some 73,some 74,some 75,some 76] (by kernel_rfl) (by kernel_rfl) (by kernel_rfl) (by kernel_rfl) rfl (Below.refl _ _).drew ?hs17
              case hs17 =>
               refine sure_cons ?_ ?_
               ·intro L ac W K hed hJ hS hK;have hA8 : ac.eval (.tmp 8) = .int .i64 (k : Int):=hJ.eval_old 8 (by kernel_rfl);clear hed hJ;refine opStep_of rfl ?_;unfold Oper.wp execOp;have hN8:=evalN hA8;go_simp;exact hK _ hS
               refine sure_cons ?_ ?_
               ·intro L ac W K hed hJ hS hK;have hA9 : ac.eval (.tmp 9) = S c:=hJ.eval_old 9 (by kernel_rfl);clear hed hJ;refine opStep_of rfl ?_;unfold Oper.wp execOp;have hN9:=evalN hA9;go_simp;exact hK _ hS
               refine sure_cons ?_ ?_
               ·intro L ac W K hed hJ hS hK;have hn:=needs_spec (l:=[1]) (by kernel_rfl) hed;have hA63:=hJ.eval 1 (d:=63) (hn 1 (by simp)) rfl rfl rfl;clear hed hJ hn;refine opStep_of rfl ?_;have hcv:=HX0.out W;unfold Oper.wp execOp;have hN63:=evalN hA63;go_simp;exact hK _ hS
               refine sure_cons ?_ ?_
               ·intro L ac W K hed hJ hS hK;have hn:=needs_spec (l:=[2]) (by kernel_rfl) hed;have hA64:=hJ.eval 2 (d:=64) (hn 2 (by simp)) rfl rfl rfl;clear hed hJ hn;refine opStep_of rfl ?_;unfold Oper.wp execOp;have hN64:=evalN hA64;go_simp;exact hK _ hS
               refine sure_cons ?_ ?_
               ·intro L ac W K hed hJ hS hK;have hA9 : ac.eval (.tmp 9) = S c:=hJ.eval_old 9 (by kernel_rfl);clear hed hJ;refine opStep_of rfl ?_;unfold Oper.wp execOp;have hN9:=evalN hA9;go_simp;exact hK _ hS
               refine sure_cons ?_ ?_
               ·intro L ac W K hed hJ hS hK;have hn:=needs_spec (l:=[4]) (by kernel_rfl) hed;have hA66:=hJ.eval 4 (d:=66) (hn 4 (by simp)) rfl rfl rfl;clear hed hJ hn;refine opStep_of rfl ?_;have hcv:=HX1.out W;unfold Oper.wp execOp;have hN66:=evalN hA66;go_simp;exact hK _ hS
               refine sure_cons ?_ ?_
               ·intro L ac W K hed hJ hS hK;have hn:=needs_spec (l:=[5]) (by kernel_rfl) hed;have hA67:=hJ.eval 5 (d:=67) (hn 5 (by simp)) rfl rfl rfl;clear hed hJ hn;refine opStep_of rfl ?_;unfold Oper.wp execOp;have hN67:=evalN hA67;go_simp;refine (CG1.out W).mono ?_;rintro e W' ⟨rfl,hb⟩;have hS2:=hS.trans (hb.mono hS.size);dsimp only;exact hK W' hS2
               refine sure_cons ?_ ?_
               ·intro L ac W K hed hJ hS hK;have hn:=needs_spec (l:=[6]) (by kernel_rfl) hed;have hA68:=hJ.eval 6 (d:=68) (hn 6 (by simp)) rfl rfl rfl;clear hed hJ hn;refine opStep_of rfl ?_;unfold Oper.wp execOp;have hN68:=evalN hA68;go_simp;exact hK _ hS
               refine sure_cons ?_ ?_
               ·intro L ac W K hed hJ hS hK;have hA9 : ac.eval (.tmp 9) = S c:=hJ.eval_old 9 (by kernel_rfl);clear hed hJ;refine opStep_of rfl ?_;unfold Oper.wp execOp;have hN9:=evalN hA9;go_simp;exact hK _ hS
               refine sure_cons ?_ ?_
               ·intro L ac W K hed hJ hS hK;have hn:=needs_spec (l:=[8]) (by kernel_rfl) hed;have hA70:=hJ.eval 8 (d:=70) (hn 8 (by simp)) rfl rfl rfl;clear hed hJ hn;refine opStep_of rfl ?_;have hcv:=HX2.out W;unfold Oper.wp execOp;have hN70:=evalN hA70;go_simp;exact hK _ hS
               refine sure_cons ?_ ?_
               ·intro L ac W K hed hJ hS hK;have hn:=needs_spec (l:=[9]) (by kernel_rfl) hed;have hA71:=hJ.eval 9 (d:=71) (hn 9 (by simp)) rfl rfl rfl;clear hed hJ hn;refine opStep_of rfl ?_;unfold Oper.wp execOp;have hN71:=evalN hA71;go_simp;refine (CG2.out W).mono ?_;rintro e W' ⟨rfl,hb⟩;have hS2:=hS.trans (hb.mono hS.size);dsimp only;exact hK W' hS2
               refine sure_cons ?_ ?_
               ·intro L ac W K hed hJ hS hK;have hn:=needs_spec (l:=[10]) (by kernel_rfl) hed;have hA72:=hJ.eval 10 (d:=72) (hn 10 (by simp)) rfl rfl rfl;clear hed hJ hn;refine opStep_of rfl ?_;unfold Oper.wp execOp;have hN72:=evalN hA72;go_simp;exact hK _ hS
               refine sure_cons ?_ ?_
               ·intro L ac W K hed hJ hS hK;have hn:=needs_spec (l:=[3,7,11]) (by kernel_rfl) hed;have hA65:=hJ.eval 3 (d:=65) (hn 3 (by simp)) rfl rfl rfl;have hA69:=hJ.eval 7 (d:=69) (hn 7 (by simp)) rfl rfl rfl;have hA73:=hJ.eval 11 (d:=73) (hn 11 (by simp)) rfl rfl rfl;clear hed hJ hn;refine opStep_of rfl ?_;unfold Oper.wp execOp;have hN65:=evalN hA65;have hN69:=evalN hA69;have hN73:=evalN hA73;go_simp;exact hK _ hS
               refine sure_cons ?_ ?_
               ·intro L ac W K hed hJ hS hK;have hA4 : ac.eval (.tmp 4) = .pointer (some ⟨w2.heap.size,0,none⟩):=hJ.eval_old 4 (by kernel_rfl);clear hed hJ;refine opStep_of rfl ?_;unfold Oper.wp execOp;have hN4:=evalN hA4;go_simp;exact hK _ hS
               refine sure_cons ?_ ?_
               ·intro L ac W K hed hJ hS hK;have hn:=needs_spec (l:=[0,13]) (by kernel_rfl) hed;have hA62:=hJ.eval 0 (d:=62) (hn 0 (by simp)) rfl rfl rfl;have hA75:=hJ.eval 13 (d:=75) (hn 13 (by simp)) rfl rfl rfl;clear hed hJ hn;refine opStep_of rfl ?_;unfold Oper.wp execOp;have hN62:=evalN hA62;have hN75:=evalN hA75;go_simp;exact hK _ hS
               refine sure_nil ?_;intro W hS;simp only [putAll,Act.put,List.setIfInBounds_toArray,List.set_cons_zero,List.set_cons_succ];have hSB:=hS;have HPs : Hid (Whole W w2.heap.size 67 (prCells (⟨pid,par,st,((List.range 16).map (regR s3)),(regR s3 16),sp,((List.range k).map (fdR s5) ++ List.replicate (8 - k) (⟨0,0,0⟩ : Fl)),false,0,0,0⟩ : Pr)).toArray):=jj (HPr.out.below hSB HPr.out.lt);have HZs:=jj (HZr.out.below hSB HZr.out.lt);have HVs:=jj (HVr.out.trans (hSB.mono HVr.out.size));have HCs:=jj (HCr.out.below (hSB.mono hzr));have hzs : w2.heap.size ≤ W.heap.size:=Nat.le_trans hzr hSB.size;clear hS hSB;go_upto_region 18 with (refine wpList_store_at rfl 64 (.tmp 76) (.tmp 74) rfl rfl w2.heap.size (68 + k * 3) (by first | rfl | (simp [Act.eval];done)) (flCells1 (⟨(bk.toNat : Int),i64Of (getL x1),i64Of (getL x2)⟩ : Fl)) (by first | rfl | (simp [Act.eval,flCells1];done)) Tryz.sizeFl _ _ HPs.out FIT.out (fl_one (⟨(bk.toNat : Int),i64Of (getL x1),i64Of (getL x2)⟩ : Fl)) ?_;intro wn hw hk');have hk:=hk'.out
               have HPn : Hid (Whole wn w2.heap.size 67 (prCells (⟨pid,par,st,((List.range 16).map (regR s3)),(regR s3 16),sp,((List.range (k + 1)).map (fdR s5) ++ List.replicate (8 - (k + 1)) (⟨0,0,0⟩ : Fl)),false,0,0,0⟩ : Pr)).toArray):=jj (by have h:=hw.out;rw [show 68 + k * 3 + (flCells1 (⟨(bk.toNat : Int),i64Of (getL x1),i64Of (getL x2)⟩ : Fl)).length = 68 + k * 3 + 3 from rfl,pr_put_fd HPL.out hlt,← HFD.out] at h;have e : ((⟨pid,par,st,((List.range 16).map (regR s3)),(regR s3 16),sp,((List.range k).map (fdR s5) ++ List.replicate (8 - k) (⟨0,0,0⟩ : Fl)),false,0,0,0⟩ : Pr)).fds.set k (fdR s5 k) = ((List.range (k + 1)).map (fdR s5) ++ List.replicate (8 - (k + 1)) (⟨0,0,0⟩ : Fl)):=fill_set (fdR s5) _ hlt;rw [e] at h;exact h);have HVn:=jj (below_one HVs.out HVs.out.size hk (by omega));have HZn:=jj (HZs.out.other hk (by intro e;injection e with e;omega));have HCn:=jj (HCs.out.below (below_one (Below.refl _ _) hzs hk (Nat.le_refl _)));have hzn : w2.heap.size ≤ wn.heap.size:=Nat.le_trans hzs hk.size;clear hw hk hk';go_wp2_with fail
               go_roundw
               case rel =>
                have R : ∃ k' : Nat,k' ≤ 8 ∧ Value.int .i64 ((k : Int) + 1) = .int .i64 (k' : Int) ∧ Hid (Whole wn w2.heap.size 67 (prCells (⟨pid,par,st,((List.range 16).map (regR s3)),(regR s3 16),sp,((List.range k').map (fdR s5) ++ List.replicate (8 - k') (⟨0,0,0⟩ : Fl)),false,0,0,0⟩ : Pr)).toArray) ∧ Hid (Whole wn gx 67 (prCells zeroPr).toArray) ∧ Hid (Below w1.heap.size w1 wn) ∧ Hid (Cur wn w1.heap.size g w2.heap.size [s6,s7,s8,s9]) ∧ w2.heap.size ≤ wn.heap.size:=⟨k + 1,by omega,by go_num,HPn,HZn,HVn,HCn,hzn⟩
                first | exact R | ((repeat apply Exists.intro);exact ⟨R,rfl⟩)
               case measure => simp [intOf];omega
             ·obtain rfl : k = 8:=(by omega);have HP15 : Hid (Whole wr w2.heap.size 67 (prCells (⟨pid,par,st,((List.range 16).map (regR s3)),(regR s3 16),sp,((List.range 8).map (fdR s5)),false,0,0,0⟩ : Pr)).toArray):=jj (by have h:=HPr.out;rw [Nat.sub_self,List.replicate_zero,List.append_nil] at h;exact h);have HZ15:=HZr;have HV15:=HVr;have HC15:=HCr;have hz15:=hzr;clear HPr HZr HVr HCr hzr hlt hk8;rw [show ((8 : Nat) : Int) = 8 from rfl];obtain ⟨w15,hw15⟩ : ∃ z : World,z = wr:=⟨_,rfl⟩;subst hw15;have CX:=jj (cflag_any w15 g w2.heap.size [s6,s7,s8,s9] HC15.out);go_wp2_with fail;refine CX.out.mono ?_;rintro e w16 ⟨he,hk⟩;have HV16:=jj (below_one HV15.out HV15.out.size hk hgx);have HP16:=jj (HP15.out.other hk (by intro e;injection e with e;omega));have HZ16:=jj (HZ15.out.other hk (by intro e;injection e with e;omega));have hz16 : w2.heap.size ≤ w16.heap.size:=Nat.le_trans hz15 hk.size;clear hk;clear CX HP15 HZ15 HV15 hz15 HC15;rw [flagR_eq] at he;cases hi : flagP s6 with
              | none => rw [hi] at he;obtain rfl : e = bentE:=he;have HQ : Hid (procR b = none):=jj (by rw [HPR.out];unfold procOf;simp [F0.out,F1.out,F2.out,F3.out,F4.out,FS.out,F5.out,hi]);go_wp2_with fail;refine ⟨rfl,?_⟩;unfold ProcPost;rw [HQ.out];exact ⟨rfl,by rw [HGX.out];exact HW.out.trans (HV16.out.mono (by omega))⟩
              | some mk =>
               rw [hi] at he;obtain ⟨rfl,hC⟩:=he;have HC16:=jj hC;have F6:=jj hi;clear hi hC;have HPL : Hid (PrLen (⟨pid,par,st,((List.range 16).map (regR s3)),(regR s3 16),sp,((List.range 8).map (fdR s5)),false,0,0,0⟩ : Pr)):=jj ⟨by simp,HSP.out.1,by simp⟩;have cs : w16.cell? ⟨w2.heap.size,92,none⟩ = some (.bool false):=(HP16.out.cell 92).trans (by rw [List.getElem?_toArray];exact (pr_lastL HPL.out 0).trans rfl);have ys : w16.frozen? ⟨w2.heap.size,92,none⟩ = false:=HP16.out.free 92;have HP17 : Hid (Whole _ w2.heap.size 67 (prCells (⟨pid,par,st,((List.range 16).map (regR s3)),(regR s3 16),sp,((List.range 8).map (fdR s5)),mk,0,0,0⟩ : Pr)).toArray):=jj (whole_set (K:=92) (v:=(.bool mk)) HP16.out (pr_set_mask HPL.out _));have HZ17:=jj (HZ16.out.far (p:=⟨w2.heap.size,92,none⟩) (by show gx ≠ w2.heap.size;omega) (.bool mk));have HV17:=jj (HV16.out.setCell (p:=⟨w2.heap.size,92,none⟩) (by show w1.heap.size ≤ w2.heap.size;omega) (.bool mk));have HC17:=jj (HC16.out.below ((Below.refl w2.heap.size w16).setCell (p:=⟨w2.heap.size,92,none⟩) (Nat.le_refl _) (.bool mk)));have hz17 : w2.heap.size ≤ (w16.setCell ⟨w2.heap.size,92,none⟩ (.bool mk)).heap.size:=(by simpa [World.setCell] using hz16);go_upto_region 20 with (fail);clear cs ys HP16 HZ16 HV16 HC16 hz16;generalize (w16.setCell ⟨w2.heap.size,92,none⟩ (.bool mk)) = w17 at *;clear HPL;have CX:=jj (bytes_any w17 g w2.heap.size [s7,s8,s9] HC17.out 4 (by omega));go_wp2_with fail;refine CX.out.mono ?_;rintro e w18 ⟨he,hk⟩;have HV18:=jj (below_one HV17.out HV17.out.size hk hgx);have HP18:=jj (HP17.out.other hk (by intro e;injection e with e;omega));have HZ18:=jj (HZ17.out.other hk (by intro e;injection e with e;omega));have hz18 : w2.heap.size ≤ w18.heap.size:=Nat.le_trans hz17 hk.size;clear hk;clear CX HP17 HZ17 HV17 hz17 HC17;by_cases hi : s7.length = 4
               ·rw [show bytesR 4 [s7,s8,s9] = some (.int .u64 (getL s7),[s8,s9]) from if_pos hi] at he;obtain ⟨rfl,hC⟩:=he;have HC18:=jj hC;have F7:=jj hi;clear hi hC;have HPL : Hid (PrLen (⟨pid,par,st,((List.range 16).map (regR s3)),(regR s3 16),sp,((List.range 8).map (fdR s5)),mk,0,0,0⟩ : Pr)):=jj ⟨by simp,HSP.out.1,by simp⟩;have mC : IntKind.u32.wrap ((getL s7 : Nat) : Int) = (getL s7 : Int) % 4294967296:=IntKind.wrap_u32 _;have cs : w18.cell? ⟨w2.heap.size,93,none⟩ = some (.int .u32 0):=(HP18.out.cell 93).trans (by rw [List.getElem?_toArray];exact (pr_lastL HPL.out 1).trans rfl);have ys : w18.frozen? ⟨w2.heap.size,93,none⟩ = false:=HP18.out.free 93;have HP19 : Hid (Whole _ w2.heap.size 67 (prCells (⟨pid,par,st,((List.range 16).map (regR s3)),(regR s3 16),sp,((List.range 8).map (fdR s5)),mk,((getL s7 : Int) % 4294967296),0,0⟩ : Pr)).toArray):=jj (whole_set (K:=93) (v:=(.int .u32 ((getL s7 : Int) % 4294967296))) HP18.out (pr_set_code HPL.out _));have HZ19:=jj (HZ18.out.far (p:=⟨w2.heap.size,93,none⟩) (by show gx ≠ w2.heap.size;omega) (.int .u32 ((getL s7 : Int) % 4294967296)));have HV19:=jj (HV18.out.setCell (p:=⟨w2.heap.size,93,none⟩) (by show w1.heap.size ≤ w2.heap.size;omega) (.int .u32 ((getL s7 : Int) % 4294967296)));have HC19:=jj (HC18.out.below ((Below.refl w2.heap.size w18).setCell (p:=⟨w2.heap.size,93,none⟩) (Nat.le_refl _) (.int .u32 ((getL s7 : Int) % 4294967296))));have hz19 : w2.heap.size ≤ (w18.setCell ⟨w2.heap.size,93,none⟩ (.int .u32 ((getL s7 : Int) % 4294967296))).heap.size:=(by simpa [World.setCell] using hz18);go_upto_region 21 with (fail);clear cs ys HP18 HZ18 HV18 HC18 hz18;generalize (w18.setCell ⟨w2.heap.size,93,none⟩ (.int .u32 ((getL s7 : Int) % 4294967296))) = w19 at *;clear HPL;have CX:=jj (cdec_any w19 g w2.heap.size [s8,s9] HC19.out hz19 (fun y hy => HML.out y (List.mem_of_mem_drop (i:=8) (show y ∈ [s0,s1,s2,s3,s4,s5,s6,s7,s8,s9].drop 8 from hy))) fun W hW => HIT.out W (below_one HV19.out HV19.out.size hW hgx));go_wp2_with fail;refine CX.out.mono ?_;rintro e w20 ⟨he,hk⟩;have HV20:=jj (below_one HV19.out HV19.out.size hk hgx);have HP20:=jj (HP19.out.other hk (by intro e;injection e with e;omega));have HZ20:=jj (HZ19.out.other hk (by intro e;injection e with e;omega));have hz20 : w2.heap.size ≤ w20.heap.size:=Nat.le_trans hz19 hk.size
                clear hk;clear CX HP19 HZ19 HV19 hz19 HC19;cases hi : intP s8 with
                | none => rw [show decR [s8,s9] = none by show (intP s8).map _ = _;rw [hi];rfl] at he;obtain rfl : e = bentE:=he;have HQ : Hid (procR b = none):=jj (by rw [HPR.out];unfold procOf;simp [F0.out,F1.out,F2.out,F3.out,F4.out,FS.out,F5.out,F6.out,F7.out,hi]);go_wp2_with fail;refine ⟨rfl,?_⟩;unfold ProcPost;rw [HQ.out];exact ⟨rfl,by rw [HGX.out];exact HW.out.trans (HV20.out.mono (by omega))⟩
                | some wy =>
                 rw [show decR [s8,s9] = some (.int .i64 wy,[s9]) by show (intP s8).map _ = _;rw [hi];rfl] at he;obtain ⟨rfl,hC⟩:=he;have HC20:=jj hC;have F8:=jj hi;clear hi hC;have HPL : Hid (PrLen (⟨pid,par,st,((List.range 16).map (regR s3)),(regR s3 16),sp,((List.range 8).map (fdR s5)),mk,((getL s7 : Int) % 4294967296),0,0⟩ : Pr)):=jj ⟨by simp,HSP.out.1,by simp⟩;have cs : w20.cell? ⟨w2.heap.size,94,none⟩ = some (.int .i64 0):=(HP20.out.cell 94).trans (by rw [List.getElem?_toArray];exact (pr_lastL HPL.out 2).trans rfl);have ys : w20.frozen? ⟨w2.heap.size,94,none⟩ = false:=HP20.out.free 94;have HP21 : Hid (Whole _ w2.heap.size 67 (prCells (⟨pid,par,st,((List.range 16).map (regR s3)),(regR s3 16),sp,((List.range 8).map (fdR s5)),mk,((getL s7 : Int) % 4294967296),wy,0⟩ : Pr)).toArray):=jj (whole_set (K:=94) (v:=(.int .i64 wy)) HP20.out (pr_set_why HPL.out _));have HZ21:=jj (HZ20.out.far (p:=⟨w2.heap.size,94,none⟩) (by show gx ≠ w2.heap.size;omega) (.int .i64 wy));have HV21:=jj (HV20.out.setCell (p:=⟨w2.heap.size,94,none⟩) (by show w1.heap.size ≤ w2.heap.size;omega) (.int .i64 wy));have HC21:=jj (HC20.out.below ((Below.refl w2.heap.size w20).setCell (p:=⟨w2.heap.size,94,none⟩) (Nat.le_refl _) (.int .i64 wy)));have hz21 : w2.heap.size ≤ (w20.setCell ⟨w2.heap.size,94,none⟩ (.int .i64 wy)).heap.size:=(by simpa [World.setCell] using hz20);go_upto_region 22 with (fail);clear cs ys HP20 HZ20 HV20 HC20 hz20;generalize (w20.setCell ⟨w2.heap.size,94,none⟩ (.int .i64 wy)) = w21 at *;clear HPL;have CX:=jj (bytes_any w21 g w2.heap.size [s9] HC21.out 8 (by omega));go_wp2_with fail;refine CX.out.mono ?_;rintro e w22 ⟨he,hk⟩;have HV22:=jj (below_one HV21.out HV21.out.size hk hgx);have HP22:=jj (HP21.out.other hk (by intro e;injection e with e;omega));have HZ22:=jj (HZ21.out.other hk (by intro e;injection e with e;omega));have hz22 : w2.heap.size ≤ w22.heap.size:=Nat.le_trans hz21 hk.size;clear hk;clear CX HP21 HZ21 HV21 hz21 HC21;by_cases hi : s9.length = 8
                 ·rw [show bytesR 8 [s9] = some (.int .u64 (getL s9),[]) from if_pos hi] at he;obtain ⟨rfl,hC⟩:=he;have HC22:=jj hC;have F9:=jj hi;clear hi hC;have HPL : Hid (PrLen (⟨pid,par,st,((List.range 16).map (regR s3)),(regR s3 16),sp,((List.range 8).map (fdR s5)),mk,((getL s7 : Int) % 4294967296),wy,0⟩ : Pr)):=jj ⟨by simp,HSP.out.1,by simp⟩;have cs : w22.cell? ⟨w2.heap.size,95,none⟩ = some (.int .u64 0):=(HP22.out.cell 95).trans (by rw [List.getElem?_toArray];exact (pr_lastL HPL.out 3).trans rfl);have ys : w22.frozen? ⟨w2.heap.size,95,none⟩ = false:=HP22.out.free 95;have HP23 : Hid (Whole _ w2.heap.size 67 (prCells (⟨pid,par,st,((List.range 16).map (regR s3)),(regR s3 16),sp,((List.range 8).map (fdR s5)),mk,((getL s7 : Int) % 4294967296),wy,(getL s9 : Int)⟩ : Pr)).toArray):=jj (whole_set (K:=95) (v:=(.int .u64 (getL s9 : Int))) HP22.out (pr_set_n HPL.out _));have HZ23:=jj (HZ22.out.far (p:=⟨w2.heap.size,95,none⟩) (by show gx ≠ w2.heap.size;omega) (.int .u64 (getL s9 : Int)));have HV23:=jj (HV22.out.setCell (p:=⟨w2.heap.size,95,none⟩) (by show w1.heap.size ≤ w2.heap.size;omega) (.int .u64 (getL s9 : Int)));have HC23:=jj (HC22.out.below ((Below.refl w2.heap.size w22).setCell (p:=⟨w2.heap.size,95,none⟩) (Nat.le_refl _) (.int .u64 (getL s9 : Int))));have hz23 : w2.heap.size ≤ (w22.setCell ⟨w2.heap.size,95,none⟩ (.int .u64 (getL s9 : Int))).heap.size:=(by simpa [World.setCell] using hz22);go_upto_region 23 with (fail);clear cs ys HP22 HZ22 HV22 HC22 hz22;generalize (w22.setCell ⟨w2.heap.size,95,none⟩ (.int .u64 (getL s9 : Int))) = w23 at *;clear HPL;have LR:=jj HP23.out.reads;have HPL : Hid (PrLen (⟨pid,par,st,((List.range 16).map (regR s3)),(regR s3 16),sp,((List.range 8).map (fdR s5)),mk,((getL s7 : Int) % 4294967296),wy,(getL s9 : Int)⟩ : Pr)):=jj ⟨by simp,HSP.out.1,by simp⟩
                  have hlen : (prCells (⟨pid,par,st,((List.range 16).map (regR s3)),(regR s3 16),sp,((List.range 8).map (fdR s5)),mk,((getL s7 : Int) % 4294967296),wy,(getL s9 : Int)⟩ : Pr)).length = 96:=(by rw [pr_parts,List.length_append,List.length_append,List.length_append,prA_len HPL.out,pgCells_length,flCells_length,HSP.out.1];simp [prZ]);have SZ : Hid ((Tryz.prog.info? 67).map (·.size) = some (prCells (⟨pid,par,st,((List.range 16).map (regR s3)),(regR s3 16),sp,((List.range 8).map (fdR s5)),mk,((getL s7 : Int) % 4294967296),wy,(getL s9 : Int)⟩ : Pr)).length):=jj (by rw [hlen];exact Tryz.sizePr);have FIT : Hid ((prCells (⟨pid,par,st,((List.range 16).map (regR s3)),(regR s3 16),sp,((List.range 8).map (fdR s5)),mk,((getL s7 : Int) % 4294967296),wy,(getL s9 : Int)⟩ : Pr)).length = (prCells zeroPr).length):=jj (by rw [hlen];rfl);have HQ : Hid (procR b = some (⟨pid,par,st,((List.range 16).map (regR s3)),(regR s3 16),sp,((List.range 8).map (fdR s5)),mk,((getL s7 : Int) % 4294967296),wy,(getL s9 : Int)⟩ : Pr)):=jj (by rw [HPR.out];unfold procOf;simp [F0.out,F1.out,F2.out,F3.out,F4.out,FS.out,F5.out,F6.out,F7.out,F8.out,F9.out])
                  have HOK : Hid (PrOk (⟨pid,par,st,((List.range 16).map (regR s3)),(regR s3 16),sp,((List.range 8).map (fdR s5)),mk,((getL s7 : Int) % 4294967296),wy,(getL s9 : Int)⟩ : Pr)):=jj {
                   regs:=HPL.out.regs,space:=HPL.out.space,fds:=HPL.out.fds
                   pid:=(intP_some F0.out).2,parent:=(intP_some F1.out).2,state:=(intP_some F2.out).2
                   reg:=fun r hr => by
                    obtain ⟨i,_,rfl⟩:=List.mem_map.1 hr;unfold regR inU32;omega
                   pc:=by show inU32 (regR s3 16);unfold regR inU32;omega
                   page:=HSP.out.2
                   fd:=fun f hf => by
                    obtain ⟨i,_,rfl⟩:=List.mem_map.1 hf;refine ⟨?_,i64Of_in _,i64Of_in _⟩;unfold fdR inJ8;have:=(s5.getD (17 * i) 0).toNat_lt;dsimp only;omega
                   code:=by show inU32 ((getL s7 : Int) % 4294967296);unfold inU32;omega
                   why:=(intP_some F8.out).2
                   n:=by show inU64 (getL s9 : Int);unfold inU64;have:=getL_lt s9;omega }
                  clear hlen
                  go_wp2_with (first
                   | (refine wpList_load_at rfl 67 (.tmp 4) rfl ⟨w2.heap.size,0,none⟩ rfl (prCells (⟨pid,par,st,((List.range 16).map (regR s3)),(regR s3 16),sp,((List.range 8).map (fdR s5)),mk,((getL s7 : Int) % 4294967296),wy,(getL s9 : Int)⟩ : Pr)) _ LR.out Tryz.underlying67 rfl SZ.out ?_)
                   | (refine wpList_store_all rfl 67 (.tmp 2) (.tmp 91) rfl rfl gx rfl (prCells (⟨pid,par,st,((List.range 16).map (regR s3)),(regR s3 16),sp,((List.range 8).map (fdR s5)),mk,((getL s7 : Int) % 4294967296),wy,(getL s9 : Int)⟩ : Pr)) rfl SZ.out _ _ HZ23.out FIT.out prCells_one ?_;intro wf hwf hkf))
                  refine bodyPost_ret (v:=.agg (prCells (⟨pid,par,st,((List.range 16).map (regR s3)),(regR s3 16),sp,((List.range 8).map (fdR s5)),mk,((getL s7 : Int) % 4294967296),wy,(getL s9 : Int)⟩ : Pr)).toArray) (results_cell_row rfl _ _ gx 67 _ (0,0) _ rfl hwf.out Tryz.underlying67 rfl (by rw [List.size_toArray];exact SZ.out)) rfl ?_;unfold ProcPost;rw [HQ.out];exact ⟨⟨rfl,HOK.out⟩,by rw [HGX.out];exact (HW.out.trans (HV23.out.mono (by omega))).grown hkf.out (by have:=HV23.out.size;omega) (fun q e => by injection e with e;omega)⟩
                 ·rw [show bytesR 8 [s9] = none from if_neg hi] at he;obtain rfl : e = bentE:=he;have HQ : Hid (procR b = none):=jj (by rw [HPR.out];unfold procOf;simp [F0.out,F1.out,F2.out,F3.out,F4.out,FS.out,F5.out,F6.out,F7.out,F8.out,hi]);go_wp2_with fail;refine ⟨rfl,?_⟩;unfold ProcPost;rw [HQ.out];exact ⟨rfl,by rw [HGX.out];exact HW.out.trans (HV22.out.mono (by omega))⟩
               ·rw [show bytesR 4 [s7,s8,s9] = none from if_neg hi] at he;obtain rfl : e = bentE:=he;have HQ : Hid (procR b = none):=jj (by rw [HPR.out];unfold procOf;simp [F0.out,F1.out,F2.out,F3.out,F4.out,FS.out,F5.out,F6.out,hi]);go_wp2_with fail;refine ⟨rfl,?_⟩;unfold ProcPost;rw [HQ.out];exact ⟨rfl,by rw [HGX.out];exact HW.out.trans (HV18.out.mono (by omega))⟩
           ·rw [show fixedR 136 [s5,s6,s7,s8,s9] = none from if_neg hi] at he;obtain rfl : e = bentE:=he;have HQ : Hid (procR b = none):=jj (by rw [HPR.out];unfold procOf;simp [F0.out,F1.out,F2.out,F3.out,F4.out,FS.out,hi]);go_wp2_with fail;refine ⟨rfl,?_⟩;unfold ProcPost;rw [HQ.out];exact ⟨rfl,by rw [HGX.out];exact HW.out.trans (HV14.out.mono (by omega))⟩
         ·rw [show fixedR 32 [s4,s5,s6,s7,s8,s9] = none from if_neg hi] at he;obtain rfl : e = bentE:=he;have HQ : Hid (procR b = none):=jj (by rw [HPR.out];unfold procOf;simp [F0.out,F1.out,F2.out,F3.out,hi]);go_wp2_with fail;refine ⟨rfl,?_⟩;unfold ProcPost;rw [HQ.out];exact ⟨rfl,by rw [HGX.out];exact HW.out.trans (HV11.out.mono (by omega))⟩
      ·rw [show fixedR 68 [s3,s4,s5,s6,s7,s8,s9] = none from if_neg hi] at he;obtain rfl : e = bentE:=he;have HQ : Hid (procR b = none):=jj (by rw [HPR.out];unfold procOf;simp [F0.out,F1.out,F2.out,hi]);go_wp2_with fail;refine ⟨rfl,?_⟩;unfold ProcPost;rw [HQ.out];exact ⟨rfl,by rw [HGX.out];exact HW.out.trans (HV8.out.mono (by omega))⟩
end Go.Proofs.YtmmfcjkabpffeaaGreatDoor
