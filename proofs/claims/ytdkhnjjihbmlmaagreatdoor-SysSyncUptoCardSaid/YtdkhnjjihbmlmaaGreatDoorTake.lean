import Derived.Test.YtdkhnjjihbmlmaaGreatDoorHashA
import Derived.KernelRfl
import Derived.Test.YtdkhnjjihbmlmaaGreatDoorBase
import Derived.Laws.CopyOwn
import Derived.Deep.DeepCutAuto
namespace Go.Proofs.YtdkhnjjihbmlmaaGreatDoor
open Go.RowKit
def wordsTo (wt : List UInt8) (k : Nat) : List UInt32:=(words wt).take k ++ List.replicate (16 - k) 0
theorem wordsTo_zero (wt : List UInt8) : wordsTo wt 0 = List.replicate 16 0:=by simp [wordsTo]
theorem wordsTo_all (wt : List UInt8) : wordsTo wt 16 = words wt:=by simp [wordsTo,List.take_of_length_le,words_length]
theorem wordsTo_length (wt : List UInt8) {k : Nat} (hk : k ≤ 16) : (wordsTo wt k).length = 16:=by simp [wordsTo,words_length];omega
theorem wordsTo_set (wt : List UInt8) {k : Nat} (hk : k < 16) (x : UInt32) (hx : (words wt).getD k 0 = x) : (wordsTo wt k).set k x = wordsTo wt (k + 1):=by
 unfold wordsTo;have hl : k < (words wt).length:=(by rw [words_length];exact hk);rw [List.set_append,if_neg (by simp [words_length];omega),List.take_succ_eq_append_getElem hl,List.append_assoc];congr 1;have e : 16 - k = (16 - (k + 1)) + 1:=(by omega);rw [e,List.replicate_succ,show k - (List.take k (words wt)).length = 0 by simp [words_length];omega,List.set_cons_zero];have hx' : (words wt)[k] = x:=(by rw [← hx];simp [hl]);rw [hx'];rfl
def eightV : Array Value:=(IV.map U).toArray
def rowsV : Array Value:=(SIG.flatten.map fun (n : Nat) => Value.int .u8 (n : Int)).toArray
def Tabs (w : World) : Prop :=
 (∃ t fr,w.heap[1]? = some (.cells eightV t fr)) ∧ (∃ t fr,w.heap[2]? = some (.cells rowsV t fr))
theorem Tabs.lt0 {w : World} (h : Tabs w) : 1 < w.heap.size:=by
 obtain ⟨⟨t,fr,h⟩,_⟩:=h;exact (Array.getElem?_eq_some_iff.1 h).1
theorem Tabs.lt1 {w : World} (h : Tabs w) : 2 < w.heap.size:=by
 obtain ⟨_,⟨t,fr,h⟩⟩:=h;exact (Array.getElem?_eq_some_iff.1 h).1
theorem Tabs.below {w w' : World} {B : Nat} (h : Tabs w) (hB : w.heap.size ≤ B) (hb : Below B w w') : Tabs w':=by
 have h0:=h.lt0;have h1:=h.lt1;obtain ⟨⟨t0,f0,e0⟩,⟨t1,f1,e1⟩⟩:=h;exact ⟨⟨t0,f0,(hb.block _ (by omega)).trans e0⟩,⟨t1,f1,(hb.block _ (by omega)).trans e1⟩⟩
theorem put_U {w : World} {g : Nat} {t : TypeId} {v : List UInt32} (hg : Whole w g t (v.map U).toArray) (a : Nat) (x : UInt32) : Whole (w.setCell ⟨g,a,none⟩ (U x)) g t ((v.set a x).map U).toArray:=by
 have h:=hg.set a (U x);rw [List.map_set]
 simpa using h
theorem xor_wrap (x : UInt32) (n : Nat) : bits .xor .u32 (x.toNat : Int) (IntKind.u32.wrap (n : Int)) = ((ux x (UInt32.ofNat n)).toNat : Int):=by
 rw [← u_xor,IntKind.wrap_u32];congr 1
theorem xor_wrap_hi (x : UInt32) (n : Nat) : bits .xor .u32 (x.toNat : Int) (IntKind.u32.wrap ((n : Int) / 4294967296)) = ((ux x (UInt32.ofNat (n / 4294967296))).toNat : Int):=by
 rw [← xor_wrap];rfl
theorem not_eq (x : UInt32) : bits .xor .u32 IntKind.u32.max (x.toNat : Int) = ((~~~ x).toNat : Int):=by
 have e : (4294967295 : UInt32) ^^^ x = ~~~ x:=(by apply UInt32.eq_of_toBitVec_eq;show BitVec.allOnes 32 ^^^ x.toBitVec = ~~~ x.toBitVec;exact BitVec.allOnes_xor);have h:=u_xor 4294967295 x;unfold ux at h;rw [e] at h;exact h
def rowV (k : Nat) : Value:=.agg #[.int .u8 (sg k 0 : Int),.int .u8 (sg k 1 : Int),.int .u8 (sg k 2 : Int),.int .u8 (sg k 3 : Int),.int .u8 (sg k 4 : Int),.int .u8 (sg k 5 : Int),.int .u8 (sg k 6 : Int),.int .u8 (sg k 7 : Int),.int .u8 (sg k 8 : Int),.int .u8 (sg k 9 : Int),.int .u8 (sg k 10 : Int),.int .u8 (sg k 11 : Int),.int .u8 (sg k 12 : Int),.int .u8 (sg k 13 : Int),.int .u8 (sg k 14 : Int),.int .u8 (sg k 15 : Int)]
theorem sig_row {k : Nat} (hk : k < 10) : Value.agg (rowsV.extract (k * 16) (k * 16 + 16)) = rowV k:=by
 exact match k,hk with
 | 0,_ => by kernel_rfl
 | 1,_ => by kernel_rfl
 | 2,_ => by kernel_rfl
 | 3,_ => by kernel_rfl
 | 4,_ => by kernel_rfl
 | 5,_ => by kernel_rfl
 | 6,_ => by kernel_rfl
 | 7,_ => by kernel_rfl
 | 8,_ => by kernel_rfl
 | 9,_ => by kernel_rfl
 | n + 10,h => absurd h (by omega)
theorem mix_0 (w : World) (g : Nat) (t : TypeId) (v : List UInt32) (x y : UInt32) (hg : Whole w g t (v.map U).toArray) (hv : v.length = 16) :
  Calls Tryz.prog 294 #[.pointer (some ⟨g,0,none⟩),.int .i64 0,.int .i64 4,.int .i64 8,.int .i64 12,U x,U y] w fun e w' => e = .returned (.tuple #[]) ∧ Whole w' g t ((mixL v 0 4 8 12 x y).map U).toArray ∧ w.grownBy w' (some g) :=
 mix_any w g t v 0 4 8 12 x y hg hv (by omega) (by omega) (by omega) (by omega) (by omega) (by omega) (by omega)
theorem mix_1 (w : World) (g : Nat) (t : TypeId) (v : List UInt32) (x y : UInt32) (hg : Whole w g t (v.map U).toArray) (hv : v.length = 16) :
  Calls Tryz.prog 294 #[.pointer (some ⟨g,0,none⟩),.int .i64 1,.int .i64 5,.int .i64 9,.int .i64 13,U x,U y] w fun e w' => e = .returned (.tuple #[]) ∧ Whole w' g t ((mixL v 1 5 9 13 x y).map U).toArray ∧ w.grownBy w' (some g) :=
 mix_any w g t v 1 5 9 13 x y hg hv (by omega) (by omega) (by omega) (by omega) (by omega) (by omega) (by omega)
theorem mix_2 (w : World) (g : Nat) (t : TypeId) (v : List UInt32) (x y : UInt32) (hg : Whole w g t (v.map U).toArray) (hv : v.length = 16) :
  Calls Tryz.prog 294 #[.pointer (some ⟨g,0,none⟩),.int .i64 2,.int .i64 6,.int .i64 10,.int .i64 14,U x,U y] w fun e w' => e = .returned (.tuple #[]) ∧ Whole w' g t ((mixL v 2 6 10 14 x y).map U).toArray ∧ w.grownBy w' (some g) :=
 mix_any w g t v 2 6 10 14 x y hg hv (by omega) (by omega) (by omega) (by omega) (by omega) (by omega) (by omega)
theorem mix_3 (w : World) (g : Nat) (t : TypeId) (v : List UInt32) (x y : UInt32) (hg : Whole w g t (v.map U).toArray) (hv : v.length = 16) :
  Calls Tryz.prog 294 #[.pointer (some ⟨g,0,none⟩),.int .i64 3,.int .i64 7,.int .i64 11,.int .i64 15,U x,U y] w fun e w' => e = .returned (.tuple #[]) ∧ Whole w' g t ((mixL v 3 7 11 15 x y).map U).toArray ∧ w.grownBy w' (some g) :=
 mix_any w g t v 3 7 11 15 x y hg hv (by omega) (by omega) (by omega) (by omega) (by omega) (by omega) (by omega)
theorem mix_4 (w : World) (g : Nat) (t : TypeId) (v : List UInt32) (x y : UInt32) (hg : Whole w g t (v.map U).toArray) (hv : v.length = 16) :
  Calls Tryz.prog 294 #[.pointer (some ⟨g,0,none⟩),.int .i64 0,.int .i64 5,.int .i64 10,.int .i64 15,U x,U y] w fun e w' => e = .returned (.tuple #[]) ∧ Whole w' g t ((mixL v 0 5 10 15 x y).map U).toArray ∧ w.grownBy w' (some g) :=
 mix_any w g t v 0 5 10 15 x y hg hv (by omega) (by omega) (by omega) (by omega) (by omega) (by omega) (by omega)
theorem mix_5 (w : World) (g : Nat) (t : TypeId) (v : List UInt32) (x y : UInt32) (hg : Whole w g t (v.map U).toArray) (hv : v.length = 16) :
  Calls Tryz.prog 294 #[.pointer (some ⟨g,0,none⟩),.int .i64 1,.int .i64 6,.int .i64 11,.int .i64 12,U x,U y] w fun e w' => e = .returned (.tuple #[]) ∧ Whole w' g t ((mixL v 1 6 11 12 x y).map U).toArray ∧ w.grownBy w' (some g) :=
 mix_any w g t v 1 6 11 12 x y hg hv (by omega) (by omega) (by omega) (by omega) (by omega) (by omega) (by omega)
theorem mix_6 (w : World) (g : Nat) (t : TypeId) (v : List UInt32) (x y : UInt32) (hg : Whole w g t (v.map U).toArray) (hv : v.length = 16) :
  Calls Tryz.prog 294 #[.pointer (some ⟨g,0,none⟩),.int .i64 2,.int .i64 7,.int .i64 8,.int .i64 13,U x,U y] w fun e w' => e = .returned (.tuple #[]) ∧ Whole w' g t ((mixL v 2 7 8 13 x y).map U).toArray ∧ w.grownBy w' (some g) :=
 mix_any w g t v 2 7 8 13 x y hg hv (by omega) (by omega) (by omega) (by omega) (by omega) (by omega) (by omega)
theorem mix_7 (w : World) (g : Nat) (t : TypeId) (v : List UInt32) (x y : UInt32) (hg : Whole w g t (v.map U).toArray) (hv : v.length = 16) :
  Calls Tryz.prog 294 #[.pointer (some ⟨g,0,none⟩),.int .i64 3,.int .i64 4,.int .i64 9,.int .i64 14,U x,U y] w fun e w' => e = .returned (.tuple #[]) ∧ Whole w' g t ((mixL v 3 4 9 14 x y).map U).toArray ∧ w.grownBy w' (some g) :=
 mix_any w g t v 3 4 9 14 x y hg hv (by omega) (by omega) (by omega) (by omega) (by omega) (by omega) (by omega)
theorem below_only {B : Nat} {a w w' : World} (h : Below B a w) (hB : B ≤ w.heap.size) (hf : w.grownBy w' (some B)) : Below B a w' :=
 ⟨hf.os.trans h.os,hf.tape.trans h.tape,hf.output.trans h.output,Nat.le_trans h.size hf.size,fun i hi => (hf.block i (Nat.lt_of_lt_of_le hi hB) (by simp;omega)).trans (h.block i hi)⟩
def hTo (h v : List UInt32) (k : Nat) : List UInt32:=(List.range 8).map fun i => if i < k then ux (h.getD i 0) (ux (v.getD i 0) (v.getD (i + 8) 0)) else h.getD i 0
theorem hTo_length {h : List UInt32} (_hh : h.length = 8) (v : List UInt32) {k : Nat} (_hk : k ≤ 8) : (hTo h v k).length = 8:=by simp [hTo]
theorem hTo_zero {h v : List UInt32} (hh : h.length = 8) : hTo h v 0 = h:=by
 apply List.ext_getElem (by simp [hTo,hh]);intro i h1 h2;simp [hTo,h2]
theorem hTo_all {h v : List UInt32} (_hh : h.length = 8) : hTo h v 8 = (List.range 8).map fun i => ux (h.getD i 0) (ux (v.getD i 0) (v.getD (i + 8) 0)):=by
 unfold hTo;apply List.map_congr_left;intro i hi;rw [if_pos (List.mem_range.1 hi)]
theorem hTo_at {h v : List UInt32} (_hh : h.length = 8) {k : Nat} (hk : k < 8) : (hTo h v k).getD k 0 = h.getD k 0:=by
 simp [hTo,hk]
theorem hTo_set {h v : List UInt32} (_hh : h.length = 8) {k : Nat} (_hk : k < 8) : (hTo h v k).set k (ux (h.getD k 0) (ux (v.getD k 0) (v.getD (k + 8) 0))) = hTo h v (k + 1):=by
 apply List.ext_getElem (by simp [hTo]);intro i h1 h2;rw [List.getElem_set];by_cases e : k = i
 ·subst e;simp [hTo]
 ·rw [if_neg e];simp only [hTo,List.getElem_map,List.getElem_range];by_cases l : i < k
  ·rw [if_pos l,if_pos (by omega)]
  ·rw [if_neg l,if_neg (by omega)]
theorem grown_of {a w w' : World} {g : Nat} (h : Below a.heap.size a w) (hf : w.grownBy w' (some g)) (_hg : g < a.heap.size) : a.grownBy w' (some g) :=
 ⟨hf.os.trans h.os,hf.tape.trans h.tape,hf.output.trans h.output,Nat.le_trans h.size hf.size,fun i hi hne => (hf.block i (Nat.lt_of_lt_of_le hi h.size) hne).trans (h.block i hi)⟩
theorem eightTo_set {h : List UInt32} (hh : h.length = 8) {k : Nat} (hk : k < 8) : (h ++ (IV.take k ++ List.replicate (8 - k) 0)).set (8 + k) (IV.getD k 0) = h ++ (IV.take (k + 1) ++ List.replicate (8 - (k + 1)) 0):=by
 have hl : k < IV.length:=(by simp [IV];omega);have hl8 : IV.length = 8:=rfl;rw [List.set_append,if_neg (by omega),List.set_append,if_neg (by simp [hl8];omega),List.take_succ_eq_append_getElem hl,List.append_assoc];congr 2;have e : 8 - k = (8 - (k + 1)) + 1:=(by omega);rw [e,List.replicate_succ,show 8 + k - h.length - (List.take k IV).length = 0 by simp [hl8];omega,List.set_cons_zero];simp [hl]
set_option maxRecDepth 100000 in
set_option maxHeartbeats 4000000 in
theorem take_any (w : World) (g : Nat) (t : TypeId) (h : List UInt32) (wt : List UInt8) (f n : Nat) (last : Bool) (hT : Tabs w) (hg : Whole w g t (stCells h wt f n).toArray) (hh : h.length = 8) (hw : wt.length = 64) :
  Calls Tryz.prog 287 #[.pointer (some ⟨g,0,none⟩),.bool last] w fun e w' => e = .returned (.tuple #[]) ∧ Whole w' g t (stCells (takeL h wt n last) wt f n).toArray ∧ w.grownBy w' (some g):=by
 have HG:=jj hg;have HH:=jj hh;have HW:=jj hw;have HT:=jj hT;have hgl:=hg.lt;clear hg hh hw hT;go_enter Tryz.func287,Tryz.ntmps287
 go_wp2
 go_loopw [13] (fun i wr => ∃ k : Nat,k ≤ 16 ∧ i = .int .i64 k ∧ Hid (Whole wr w.heap.size 37 ((wordsTo wt k).map U).toArray) ∧ Hid (Below w.heap.size w wr)) (fun i _ => 16 - (intOf i).toNat)
 case atStart => exact ⟨0,by omega,rfl,jj (by rw [wordsTo_zero];exact Whole.made w _ _),jj ((Below.refl _ _).alloc (Nat.le_refl _) _)⟩
 case round =>
  obtain ⟨k,hk,rfl,HM,HB⟩:=hrel;by_cases hlt : k < 16
  ·-- part 1: a word
   have hgr:=HG.out.below HB.out hgl;have c0 : wr.cell? ⟨g,8 + (4 * k),none⟩ = some (B8 (wt.getD (4 * k) 0)):=(by rw [hgr.cell];simpa using stCells_w HH.out HW.out (i:=4 * k) (by omega));have c1 : wr.cell? ⟨g,8 + (4 * k + 1),none⟩ = some (B8 (wt.getD (4 * k + 1) 0)):=(by rw [hgr.cell];simpa using stCells_w HH.out HW.out (i:=4 * k + 1) (by omega));have c2 : wr.cell? ⟨g,8 + (4 * k + 2),none⟩ = some (B8 (wt.getD (4 * k + 2) 0)):=(by rw [hgr.cell];simpa using stCells_w HH.out HW.out (i:=4 * k + 2) (by omega));have c3 : wr.cell? ⟨g,8 + (4 * k + 3),none⟩ = some (B8 (wt.getD (4 * k + 3) 0)):=(by rw [hgr.cell];simpa using stCells_w HH.out HW.out (i:=4 * k + 3) (by omega));clear hgr;have z0 : 0 ≤ 4 * (k : Int):=(by omega);have i0 : 4 * (k : Int) < 64:=(by omega);have n0 : (4 * (k : Int)).toNat = 4 * k:=(by omega);obtain ⟨b0,HB0⟩ : ∃ b,Hid (wt.getD (4 * k) 0 = b):=⟨_,jj rfl⟩;rw [HB0.out] at c0;have l0 : b0.toNat < 256:=b0.toNat_lt;have w1 : IntKind.i64.wrap (4 * (k : Int) + 1) = 4 * (k : Int) + 1:=IntWalk.i64_in _ (by omega);have z1 : 0 ≤ 4 * (k : Int) + 1:=(by omega);have i1 : 4 * (k : Int) + 1 < 64:=(by omega);have n1 : (4 * (k : Int) + 1).toNat = 4 * k + 1:=(by omega);obtain ⟨b1,HB1⟩ : ∃ b,Hid (wt.getD (4 * k + 1) 0 = b):=⟨_,jj rfl⟩;rw [HB1.out] at c1;have l1 : b1.toNat < 256:=b1.toNat_lt;have w2 : IntKind.i64.wrap (4 * (k : Int) + 2) = 4 * (k : Int) + 2:=IntWalk.i64_in _ (by omega);have z2 : 0 ≤ 4 * (k : Int) + 2:=(by omega);have i2 : 4 * (k : Int) + 2 < 64:=(by omega);have n2 : (4 * (k : Int) + 2).toNat = 4 * k + 2:=(by omega);obtain ⟨b2,HB2⟩ : ∃ b,Hid (wt.getD (4 * k + 2) 0 = b):=⟨_,jj rfl⟩;rw [HB2.out] at c2;have l2 : b2.toNat < 256:=b2.toNat_lt;have w3 : IntKind.i64.wrap (4 * (k : Int) + 3) = 4 * (k : Int) + 3:=IntWalk.i64_in _ (by omega);have z3 : 0 ≤ 4 * (k : Int) + 3:=(by omega);have i3 : 4 * (k : Int) + 3 < 64:=(by omega);have n3 : (4 * (k : Int) + 3).toNat = 4 * k + 3:=(by omega);obtain ⟨b3,HB3⟩ : ∃ b,Hid (wt.getD (4 * k + 3) 0 = b):=⟨_,jj rfl⟩;rw [HB3.out] at c3;have l3 : b3.toNat < 256:=b3.toNat_lt;have ik : (k : Int) < 16:=(by omega)
   go_wp2
   go_still_tail 39,(by kernel_rfl)
   rw [le_eq'];have hx : (words wt).getD k 0 = le32 b0 b1 b2 b3:=(by rw [words_at wt hlt,HB0.out,HB1.out,HB2.out,HB3.out]);have HX:=jj hx;clear hx c0 c1 c2 c3 HB0 HB1 HB2 HB3 w1 w2 w3 z0 z1 z2 z3 i0 i1 i2 i3 n0 n1 n2 n3 l0 l1 l2 l3;generalize le32 b0 b1 b2 b3 = x at *;have cm:=cell_U HM.out (a:=k) (by rw [wordsTo_length wt hk];exact hlt);have fm:=HM.out.free k;show wpList _ _ _ _ _ wr.drew
   go_wp2
   go_roundw
   case rel => exact ⟨k + 1,by omega,by go_num,jj (by rw [← wordsTo_set wt hlt x HX.out];exact set_U HM.out k x),jj ((HB.out.setCell (p:=⟨w.heap.size,k,none⟩) (Nat.le_refl _) _).drew)⟩
   case measure => simp [intOf];omega
  ·-- behind the words
   have hd16 : decide ((k : Int) < 16) = false:=(by simp;omega)
   go_wp2
   obtain rfl : k = 16:=(by omega);have hv:=Whole.made wr 37 ((List.replicate 16 (0 : UInt32)).map U).toArray;have hm : Whole wr w.heap.size 37 ((words wt).map U).toArray:=(by have:=HM.out;rwa [wordsTo_all] at this);have hml:=hm.lt;have hm1:=hm.block (.cells ((List.replicate 16 (0 : UInt32)).map U).toArray 37);have hb1:=HB.out.alloc (Nat.le_of_lt hml) (.cells ((List.replicate 16 (0 : UInt32)).map U).toArray 37);have HM1:=jj hm1;have HV1:=jj hv;have HB1:=jj hb1;clear hm1 hv hb1 hm HM HB hlt hk;change Code.wp _ _ _ _ (wr.alloc (.cells ((List.replicate 16 (0 : UInt32)).map U).toArray 37));generalize wr.alloc (.cells ((List.replicate 16 (0 : UInt32)).map U).toArray 37) = w1 at *;generalize wr.heap.size = gv at *;clear wr;have c73 : True:=trivial
   go_still_tail 5,(by kernel_rfl)
   change wpList _ _ _ _ _ w1.drew;have hg1:=HG.out.below HB1.out hgl;refine wpList_copy_splice rfl (.tmp 58) (.tmp 62) 164 164 rfl 36 Tryz.underlying164 (by kernel_rfl) (some ⟨gv,0,none⟩) (some ⟨g,0,none⟩) 8 16 8 8 rfl rfl gv 0 ((List.replicate 16 (0 : UInt32)).map U) 37 HV1.out (h.map U) (by simp [HH.out]) ?_ ?_ ?_ gv w1 ((Below.refl _ _).drew) (Nat.le_refl _) ?_
   ·intro _;refine ⟨rfl,_,rfl,fun j v hj => ?_⟩
    have hjl : j < 8:=by
     have:=(List.getElem?_eq_some_iff.1 hj).1
     simpa [HH.out] using this
    have ha : (⟨g,0,none⟩ : Addr).add j = ⟨g,j,none⟩:=(by unfold Addr.add;split <;> simp_all);rw [ha];show w1.cell? _ = _;rw [hg1.cell,← hj];have:=stCells_h (wt:=wt) (f:=f) (n:=n) HH.out hjl;simp [this,HH.out,hjl]
   ·simp [HH.out]
   ·intro v hv;obtain ⟨x,_,rfl⟩:=List.mem_map.1 hv;rfl
   intro w2 HV2 hb2
   have hv2 : Whole w2 gv 37 ((h ++ (IV.take 0 ++ List.replicate (8 - 0) 0)).map U).toArray:=by
    have:=HV2.out
    simpa [splice,HH.out,Whole] using this
   have hm2:=HM1.out.below hb2 hml;have hgl2 : g < gv:=(by omega);have hg2:=hg1.below hb2 hgl2;have hB2 : Below w.heap.size w w2:=HB1.out.trans (hb2.mono (Nat.le_of_lt hml));have HV:=jj hv2;have HM:=jj hm2;have HB:=jj hB2;clear HV2 hb2 hv2 hm2 hg2 hB2 hg1 HM1 HV1 HB1;have hT2:=HT.out.below (Nat.le_refl _) HB.out;obtain ⟨⟨te,fe,he⟩,_⟩:=hT2;go_wp2_with (refine wpList_load_row rfl 321 _ rfl 1 rfl te _ fe _ he Tryz.underlying321 rfl (by kernel_rfl) ?_);clear he;clear c73;have hgvl : gv < w2.heap.size:=HV.out.lt
   go_loopw [65] (fun i wr => ∃ k : Nat,k ≤ 8 ∧ i = .int .i64 k ∧ Hid (Whole wr gv 37 ((h ++ (IV.take k ++ List.replicate (8 - k) 0)).map U).toArray) ∧ Hid (Below gv w2 wr)) (fun i _ => 8 - (intOf i).toNat)
   case atStart => exact ⟨0,by omega,rfl,HV,jj (Below.refl _ _)⟩
   case round =>
    obtain ⟨k,hk,rfl,HVr,HBr⟩:=hrel;by_cases hlt : k < 8
    ·have hix : ∀ W : World,(Instr.index 321 (.agg eightV) (.int .i64 (k : Int))).run Tryz.prog W = .ok (U (IV.getD k 0)) W:=fun W => by
      exact run_index_ints W 321 36 8 _ .i64 .u32 k _ Tryz.underlying321 Tryz.underlying36 (by kernel_rfl) hlt (by have : k < IV.length:=hlt;simp [eightV,this])
     have cv:=cell_U HVr.out (a:=8 + k) (by simp [HH.out,IV];omega);have fv:=HVr.out.free (8 + k);have i8 : (8 + (k : Int)).toNat = 8 + k:=(by omega);have j8 : 8 + (k : Int) < 16:=(by omega)
     go_wp2
     go_roundw
     case rel => exact ⟨k + 1,by omega,by go_num,jj (by rw [← eightTo_set HH.out hlt];exact put_U HVr.out (8 + k) _),jj (HBr.out.setCell (p:=⟨gv,8 + k,none⟩) (Nat.le_refl _) _)⟩
     case measure => simp [intOf];omega
    ·have hd8 : decide ((k : Int) < 8) = false:=(by simp;omega);obtain rfl : k = 8:=(by omega)
     have hv3 : Whole wr gv 37 ((h ++ IV).map U).toArray:=by
      have:=HVr.out
      simpa [IV] using this
     have hm3:=HM.out.below HBr.out hml;have hB3 : Below w.heap.size w wr:=HB.out.trans (HBr.out.mono (Nat.le_of_lt hml));have hg3:=HG.out.below hB3 hgl;have HV3:=jj hv3;have HM3:=jj hm3;have HB3:=jj hB3;have HG3:=jj hg3;clear HVr HBr hv3 hm3 hB3 hg3 HV HM HB hlt hk
     go_wp2
     -- v[12] and v[13]
     have vl : (h ++ IV).length = 16:=(by simp [HH.out,IV]);have VL:=jj vl;clear vl;have c12:=cell_U HV3.out (a:=12) (by rw [VL.out];omega);have c73 : wr.cell? ⟨g,73,none⟩ = some (.int .u64 (n : Int)):=(by rw [HG3.out.cell];simpa using stCells_n HH.out HW.out);generalize hx12 : (h ++ IV).getD 12 0 = x12 at *;have HX12:=jj hx12;clear hx12
     go_still_tail 9,(by kernel_rfl)
     rw [xor_wrap];have f12:=HV3.out.free 12;change wpList _ _ _ _ _ wr.drew
     go_wp2
     have hv4:=set_U HV3.out 12 (ux x12 (UInt32.ofNat n));have far4:=far_U (w:=wr) (g:=gv) 12 (ux x12 (UInt32.ofNat n));have HV4:=jj hv4;have HF4:=jj far4;clear hv4 far4 f12 c12 c73;generalize (wr.setCell ⟨gv,12,none⟩ (U (ux x12 (UInt32.ofNat n)))).drew = w4 at *;have hne : some g ≠ some gv:=(by simp;omega);have HG4:=jj (HG3.out.other HF4.out hne);have c13:=cell_U HV4.out (a:=13) (by rw [List.length_set,VL.out];omega);have c73 : w4.cell? ⟨g,73,none⟩ = some (.int .u64 (n : Int)):=(by rw [HG4.out.cell];simpa using stCells_n HH.out HW.out);generalize hx13 : ((h ++ IV).set 12 (ux x12 (UInt32.ofNat n))).getD 13 0 = x13 at *;have HX13:=jj hx13;clear hx13 hne
     go_still_tail 10,(by kernel_rfl)
     rw [xor_wrap_hi];have f13:=HV4.out.free 13;change wpList _ _ _ _ _ w4.drew
     go_upto_if 93 with (fail)
     have hv5:=set_U HV4.out 13 (ux x13 (UInt32.ofNat (n / 4294967296)));have far5:=far_U (w:=w4) (g:=gv) 13 (ux x13 (UInt32.ofNat (n / 4294967296)));rw [← HX13.out,← HX12.out] at hv5;have HV5 : Hid (Whole _ gv 37 ((vstart h n).map U).toArray):=jj hv5;have HF5:=jj (HF4.out.trans far5);rw [HX12.out,HX13.out] at HV5;clear hv5 far5 f13 c13 c73 HG4 HV4 HF4 HV3;generalize (w4.setCell ⟨gv,13,none⟩ (U (ux x13 (UInt32.ofNat (n / 4294967296))))).drew = w5 at *;clear HX12 HX13 w4 VL
     go_cut [] (fun wc => Hid (Whole wc gv 37 ((vlast (vstart h n) last).map U).toArray) ∧ Hid (wr.grownBy wc (some gv)))
     case first =>
      cases last with
      | false =>
       go_wp2
       go_meet
       exact ⟨HV5,HF5⟩
      | true =>
       have c14:=cell_U HV5.out (a:=14) (by rw [vstart_length HH.out];omega);have f14:=HV5.out.free 14;generalize hx14 : (vstart h n).getD 14 0 = x14 at *;have HX14:=jj hx14;clear hx14
       go_wp2
       go_meet
       rw [not_eq];refine ⟨jj ?_,jj (HF5.out.trans ⟨rfl,rfl,rfl,by simp [World.setCell],fun i _ hne => Below.heap_setCell w5 ⟨gv,14,none⟩ _ i (fun e => hne (by rw [e]))⟩)⟩;have:=put_U HV5.out 14 (~~~ x14);unfold vlast;rw [if_pos rfl,HX14.out];exact this
     case rest =>
      obtain ⟨HV6,HF6⟩:=hcut
      -- the worlds so far are forgotten: what is known of wc
      have hne : some g ≠ some gv:=(by simp;omega);have hnem : some w.heap.size ≠ some gv:=(by simp;omega);have HG6:=jj (HG3.out.other HF6.out hne);have HM6:=jj (HM3.out.other HF6.out hnem);have HB6 : Hid (Below w.heap.size w wc):=jj ⟨HF6.out.os.trans HB3.out.os,HF6.out.tape.trans HB3.out.tape,HF6.out.output.trans HB3.out.output,Nat.le_trans HB3.out.size HF6.out.size,fun i hi => (HF6.out.block i (Nat.lt_of_lt_of_le hi HB3.out.size) (by simp;omega)).trans (HB3.out.block i hi)⟩;have hT6:=HT.out.below (Nat.le_refl _) HB6.out;clear HF6 HV5 HF5 HG3 HM3 HB3 hne hnem;obtain ⟨_,⟨te,fe,he⟩⟩:=hT6;have hgv6:=HV6.out.lt;go_wp2_with (refine wpList_load_row rfl 347 _ rfl 2 rfl te _ fe _ he Tryz.underlying347 rfl (by kernel_rfl) ?_);clear he;have vl6 : (vlast (vstart h n) last).length = 16:=(by rw [vlast_length,vstart_length HH.out]);generalize hv0 : vlast (vstart h n) last = v0 at *;have HV0:=jj hv0;have VL6:=jj vl6;clear hv0 vl6
      go_loopw [99] (fun i wr => ∃ k : Nat,k ≤ 10 ∧ i = .int .i64 k ∧ Hid (Whole wr gv 37 ((rounds (words wt) v0 k).map U).toArray) ∧ Hid (Below gv wc wr)) (fun i _ => 10 - (intOf i).toNat)
      case atStart => exact ⟨0,by omega,rfl,HV6,jj (Below.refl _ _)⟩
      case round =>
       obtain ⟨k,hk,rfl,HVr,HBr⟩:=hrel;by_cases hlt : k < 10
       ·have hix : ∀ W : World,(Instr.index 347 (.agg rowsV) (.int .i64 (k : Int))).run Tryz.prog W = .ok (rowV k) W:=fun W => by
         rw [← sig_row hlt];exact run_index_rows W 347 346 _ 10 16 _ .i64 k Tryz.underlying347 Tryz.underlying346 (by kernel_rfl) hlt
        unfold rowV at hix
        go_wp2
        clear hix;have hra:=Whole.made wr 346 #[.int .u8 (sg k 0 : Int),.int .u8 (sg k 1 : Int),.int .u8 (sg k 2 : Int),.int .u8 (sg k 3 : Int),.int .u8 (sg k 4 : Int),.int .u8 (sg k 5 : Int),.int .u8 (sg k 6 : Int),.int .u8 (sg k 7 : Int),.int .u8 (sg k 8 : Int),.int .u8 (sg k 9 : Int),.int .u8 (sg k 10 : Int),.int .u8 (sg k 11 : Int),.int .u8 (sg k 12 : Int),.int .u8 (sg k 13 : Int),.int .u8 (sg k 14 : Int),.int .u8 (sg k 15 : Int)];have hma:=(HM6.out.below HBr.out hml).block (.cells #[.int .u8 (sg k 0 : Int),.int .u8 (sg k 1 : Int),.int .u8 (sg k 2 : Int),.int .u8 (sg k 3 : Int),.int .u8 (sg k 4 : Int),.int .u8 (sg k 5 : Int),.int .u8 (sg k 6 : Int),.int .u8 (sg k 7 : Int),.int .u8 (sg k 8 : Int),.int .u8 (sg k 9 : Int),.int .u8 (sg k 10 : Int),.int .u8 (sg k 11 : Int),.int .u8 (sg k 12 : Int),.int .u8 (sg k 13 : Int),.int .u8 (sg k 14 : Int),.int .u8 (sg k 15 : Int)] 346);have hva:=HVr.out.block (.cells #[.int .u8 (sg k 0 : Int),.int .u8 (sg k 1 : Int),.int .u8 (sg k 2 : Int),.int .u8 (sg k 3 : Int),.int .u8 (sg k 4 : Int),.int .u8 (sg k 5 : Int),.int .u8 (sg k 6 : Int),.int .u8 (sg k 7 : Int),.int .u8 (sg k 8 : Int),.int .u8 (sg k 9 : Int),.int .u8 (sg k 10 : Int),.int .u8 (sg k 11 : Int),.int .u8 (sg k 12 : Int),.int .u8 (sg k 13 : Int),.int .u8 (sg k 14 : Int),.int .u8 (sg k 15 : Int)] 346);have hba:=HBr.out.alloc (Nat.le_of_lt HVr.out.lt) (.cells #[.int .u8 (sg k 0 : Int),.int .u8 (sg k 1 : Int),.int .u8 (sg k 2 : Int),.int .u8 (sg k 3 : Int),.int .u8 (sg k 4 : Int),.int .u8 (sg k 5 : Int),.int .u8 (sg k 6 : Int),.int .u8 (sg k 7 : Int),.int .u8 (sg k 8 : Int),.int .u8 (sg k 9 : Int),.int .u8 (sg k 10 : Int),.int .u8 (sg k 11 : Int),.int .u8 (sg k 12 : Int),.int .u8 (sg k 13 : Int),.int .u8 (sg k 14 : Int),.int .u8 (sg k 15 : Int)] 346);have hgr:=HVr.out.lt;have VLr : Hid ((rounds (words wt) v0 k).length = 16):=jj (by rw [rounds_length];exact VL6.out);have HR:=jj hra;have HMa:=jj hma;have HVa:=jj hva;have HBa:=jj hba;clear hra hma hva hba HVr HBr;generalize wr.alloc (.cells #[.int .u8 (sg k 0 : Int),.int .u8 (sg k 1 : Int),.int .u8 (sg k 2 : Int),.int .u8 (sg k 3 : Int),.int .u8 (sg k 4 : Int),.int .u8 (sg k 5 : Int),.int .u8 (sg k 6 : Int),.int .u8 (sg k 7 : Int),.int .u8 (sg k 8 : Int),.int .u8 (sg k 9 : Int),.int .u8 (sg k 10 : Int),.int .u8 (sg k 11 : Int),.int .u8 (sg k 12 : Int),.int .u8 (sg k 13 : Int),.int .u8 (sg k 14 : Int),.int .u8 (sg k 15 : Int)] 346) = wa0 at *
        generalize wr.heap.size = gr at *;clear wr;obtain ⟨vv0,HW0⟩ : ∃ z,Hid (rounds (words wt) v0 k = z):=⟨_,jj rfl⟩;rw [HW0.out] at HVa VLr
        -- mix 0
        have r0 : ((sg k 0 : Nat) : Int) < 16:=(by have:=sg_lt k 0;omega);have r1 : ((sg k 1 : Nat) : Int) < 16:=(by have:=sg_lt k 1;omega);have cr0 : wa0.cell? ⟨gr,0,none⟩ = some (.int .u8 (sg k 0 : Int)):=HR.out.cell 0;have cr1 : wa0.cell? ⟨gr,1,none⟩ = some (.int .u8 (sg k 1 : Int)):=HR.out.cell 1;have cm0:=cell_U HMa.out (a:=sg k 0) (by rw [words_length];exact sg_lt k 0);have cm1:=cell_U HMa.out (a:=sg k 1) (by rw [words_length];exact sg_lt k 1);obtain ⟨x0,HX0⟩ : ∃ z,Hid ((words wt).getD (sg k 0) 0 = z):=⟨_,jj rfl⟩;obtain ⟨x1,HX1⟩ : ∃ z,Hid ((words wt).getD (sg k 1) 0 = z):=⟨_,jj rfl⟩;rw [HX0.out] at cm0;rw [HX1.out] at cm1
        go_still_tail 8,(by kernel_rfl)
        change wpList _ _ _ _ _ wa0.drew;clear cr0 cr1 cm0 cm1 r0 r1;go_wp2_with (go_at_call 294;refine (mix_0 _ gv 37 vv0 x0 x1 HVa.out.draw VLr.out).mono ?_;rintro e wa1 ⟨rfl,hv',hf'⟩;have HVn:=jj hv';have HFn:=jj hf';clear hv' hf');have HRn:=jj (HR.out.draw.other HFn.out (by simp;omega));have HMn:=jj (HMa.out.draw.other HFn.out (by simp;omega));have HBn : Hid (Below gv wc wa1):=jj (below_only HBa.out.drew (Nat.le_of_lt HVa.out.lt) HFn.out);have VLn : Hid ((mixL vv0 0 4 8 12 x0 x1).length = 16):=jj (by rw [mixL_length];exact VLr.out);rw [← HX0.out,← HX1.out] at HVn VLn;obtain ⟨vv1,HW1⟩ : ∃ z,Hid (mixL vv0 0 4 8 12 ((words wt).getD (sg k 0) 0) ((words wt).getD (sg k 1) 0) = z):=⟨_,jj rfl⟩;rw [HW1.out] at HVn VLn;clear HR HMa HVa HBa VLr HFn HX0 HX1;have HR:=HRn;have HMa:=HMn;have HVa:=HVn;have HBa:=HBn;have VLr:=VLn;clear HRn HMn HVn HBn VLn
        -- mix 1
        have r0 : ((sg k 2 : Nat) : Int) < 16:=(by have:=sg_lt k 2;omega);have r1 : ((sg k 3 : Nat) : Int) < 16:=(by have:=sg_lt k 3;omega);have cr0 : wa1.cell? ⟨gr,2,none⟩ = some (.int .u8 (sg k 2 : Int)):=HR.out.cell 2;have cr1 : wa1.cell? ⟨gr,3,none⟩ = some (.int .u8 (sg k 3 : Int)):=HR.out.cell 3;have cm0:=cell_U HMa.out (a:=sg k 2) (by rw [words_length];exact sg_lt k 2);have cm1:=cell_U HMa.out (a:=sg k 3) (by rw [words_length];exact sg_lt k 3);obtain ⟨x0,HX0⟩ : ∃ z,Hid ((words wt).getD (sg k 2) 0 = z):=⟨_,jj rfl⟩;obtain ⟨x1,HX1⟩ : ∃ z,Hid ((words wt).getD (sg k 3) 0 = z):=⟨_,jj rfl⟩;rw [HX0.out] at cm0;rw [HX1.out] at cm1
        go_still_tail 8,(by kernel_rfl)
        change wpList _ _ _ _ _ wa1.drew;clear cr0 cr1 cm0 cm1 r0 r1;go_wp2_with (go_at_call 294;refine (mix_1 _ gv 37 vv1 x0 x1 HVa.out.draw VLr.out).mono ?_;rintro e wa2 ⟨rfl,hv',hf'⟩;have HVn:=jj hv';have HFn:=jj hf';clear hv' hf');have HRn:=jj (HR.out.draw.other HFn.out (by simp;omega));have HMn:=jj (HMa.out.draw.other HFn.out (by simp;omega));have HBn : Hid (Below gv wc wa2):=jj (below_only HBa.out.drew (Nat.le_of_lt HVa.out.lt) HFn.out);have VLn : Hid ((mixL vv1 1 5 9 13 x0 x1).length = 16):=jj (by rw [mixL_length];exact VLr.out);rw [← HX0.out,← HX1.out] at HVn VLn;obtain ⟨vv2,HW2⟩ : ∃ z,Hid (mixL vv1 1 5 9 13 ((words wt).getD (sg k 2) 0) ((words wt).getD (sg k 3) 0) = z):=⟨_,jj rfl⟩;rw [HW2.out] at HVn VLn;clear HR HMa HVa HBa VLr HFn HX0 HX1;have HR:=HRn;have HMa:=HMn;have HVa:=HVn;have HBa:=HBn;have VLr:=VLn;clear HRn HMn HVn HBn VLn
        -- mix 2
        have r0 : ((sg k 4 : Nat) : Int) < 16:=(by have:=sg_lt k 4;omega);have r1 : ((sg k 5 : Nat) : Int) < 16:=(by have:=sg_lt k 5;omega);have cr0 : wa2.cell? ⟨gr,4,none⟩ = some (.int .u8 (sg k 4 : Int)):=HR.out.cell 4;have cr1 : wa2.cell? ⟨gr,5,none⟩ = some (.int .u8 (sg k 5 : Int)):=HR.out.cell 5;have cm0:=cell_U HMa.out (a:=sg k 4) (by rw [words_length];exact sg_lt k 4);have cm1:=cell_U HMa.out (a:=sg k 5) (by rw [words_length];exact sg_lt k 5);obtain ⟨x0,HX0⟩ : ∃ z,Hid ((words wt).getD (sg k 4) 0 = z):=⟨_,jj rfl⟩;obtain ⟨x1,HX1⟩ : ∃ z,Hid ((words wt).getD (sg k 5) 0 = z):=⟨_,jj rfl⟩;rw [HX0.out] at cm0;rw [HX1.out] at cm1
        go_still_tail 8,(by kernel_rfl)
        change wpList _ _ _ _ _ wa2.drew;clear cr0 cr1 cm0 cm1 r0 r1;go_wp2_with (go_at_call 294;refine (mix_2 _ gv 37 vv2 x0 x1 HVa.out.draw VLr.out).mono ?_;rintro e wa3 ⟨rfl,hv',hf'⟩;have HVn:=jj hv';have HFn:=jj hf';clear hv' hf');have HRn:=jj (HR.out.draw.other HFn.out (by simp;omega));have HMn:=jj (HMa.out.draw.other HFn.out (by simp;omega));have HBn : Hid (Below gv wc wa3):=jj (below_only HBa.out.drew (Nat.le_of_lt HVa.out.lt) HFn.out);have VLn : Hid ((mixL vv2 2 6 10 14 x0 x1).length = 16):=jj (by rw [mixL_length];exact VLr.out);rw [← HX0.out,← HX1.out] at HVn VLn;obtain ⟨vv3,HW3⟩ : ∃ z,Hid (mixL vv2 2 6 10 14 ((words wt).getD (sg k 4) 0) ((words wt).getD (sg k 5) 0) = z):=⟨_,jj rfl⟩;rw [HW3.out] at HVn VLn;clear HR HMa HVa HBa VLr HFn HX0 HX1;have HR:=HRn;have HMa:=HMn;have HVa:=HVn;have HBa:=HBn;have VLr:=VLn;clear HRn HMn HVn HBn VLn
        -- mix 3
        have r0 : ((sg k 6 : Nat) : Int) < 16:=(by have:=sg_lt k 6;omega);have r1 : ((sg k 7 : Nat) : Int) < 16:=(by have:=sg_lt k 7;omega);have cr0 : wa3.cell? ⟨gr,6,none⟩ = some (.int .u8 (sg k 6 : Int)):=HR.out.cell 6;have cr1 : wa3.cell? ⟨gr,7,none⟩ = some (.int .u8 (sg k 7 : Int)):=HR.out.cell 7;have cm0:=cell_U HMa.out (a:=sg k 6) (by rw [words_length];exact sg_lt k 6);have cm1:=cell_U HMa.out (a:=sg k 7) (by rw [words_length];exact sg_lt k 7);obtain ⟨x0,HX0⟩ : ∃ z,Hid ((words wt).getD (sg k 6) 0 = z):=⟨_,jj rfl⟩;obtain ⟨x1,HX1⟩ : ∃ z,Hid ((words wt).getD (sg k 7) 0 = z):=⟨_,jj rfl⟩;rw [HX0.out] at cm0;rw [HX1.out] at cm1
        go_still_tail 8,(by kernel_rfl)
        change wpList _ _ _ _ _ wa3.drew;clear cr0 cr1 cm0 cm1 r0 r1;go_wp2_with (go_at_call 294;refine (mix_3 _ gv 37 vv3 x0 x1 HVa.out.draw VLr.out).mono ?_;rintro e wa4 ⟨rfl,hv',hf'⟩;have HVn:=jj hv';have HFn:=jj hf';clear hv' hf');have HRn:=jj (HR.out.draw.other HFn.out (by simp;omega));have HMn:=jj (HMa.out.draw.other HFn.out (by simp;omega));have HBn : Hid (Below gv wc wa4):=jj (below_only HBa.out.drew (Nat.le_of_lt HVa.out.lt) HFn.out);have VLn : Hid ((mixL vv3 3 7 11 15 x0 x1).length = 16):=jj (by rw [mixL_length];exact VLr.out);rw [← HX0.out,← HX1.out] at HVn VLn;obtain ⟨vv4,HW4⟩ : ∃ z,Hid (mixL vv3 3 7 11 15 ((words wt).getD (sg k 6) 0) ((words wt).getD (sg k 7) 0) = z):=⟨_,jj rfl⟩;rw [HW4.out] at HVn VLn;clear HR HMa HVa HBa VLr HFn HX0 HX1;have HR:=HRn;have HMa:=HMn;have HVa:=HVn;have HBa:=HBn;have VLr:=VLn;clear HRn HMn HVn HBn VLn
        -- mix 4
        have r0 : ((sg k 8 : Nat) : Int) < 16:=(by have:=sg_lt k 8;omega);have r1 : ((sg k 9 : Nat) : Int) < 16:=(by have:=sg_lt k 9;omega);have cr0 : wa4.cell? ⟨gr,8,none⟩ = some (.int .u8 (sg k 8 : Int)):=HR.out.cell 8;have cr1 : wa4.cell? ⟨gr,9,none⟩ = some (.int .u8 (sg k 9 : Int)):=HR.out.cell 9;have cm0:=cell_U HMa.out (a:=sg k 8) (by rw [words_length];exact sg_lt k 8);have cm1:=cell_U HMa.out (a:=sg k 9) (by rw [words_length];exact sg_lt k 9);obtain ⟨x0,HX0⟩ : ∃ z,Hid ((words wt).getD (sg k 8) 0 = z):=⟨_,jj rfl⟩;obtain ⟨x1,HX1⟩ : ∃ z,Hid ((words wt).getD (sg k 9) 0 = z):=⟨_,jj rfl⟩;rw [HX0.out] at cm0;rw [HX1.out] at cm1
        go_still_tail 8,(by kernel_rfl)
        change wpList _ _ _ _ _ wa4.drew;clear cr0 cr1 cm0 cm1 r0 r1;go_wp2_with (go_at_call 294;refine (mix_4 _ gv 37 vv4 x0 x1 HVa.out.draw VLr.out).mono ?_;rintro e wa5 ⟨rfl,hv',hf'⟩;have HVn:=jj hv';have HFn:=jj hf';clear hv' hf');have HRn:=jj (HR.out.draw.other HFn.out (by simp;omega));have HMn:=jj (HMa.out.draw.other HFn.out (by simp;omega));have HBn : Hid (Below gv wc wa5):=jj (below_only HBa.out.drew (Nat.le_of_lt HVa.out.lt) HFn.out);have VLn : Hid ((mixL vv4 0 5 10 15 x0 x1).length = 16):=jj (by rw [mixL_length];exact VLr.out);rw [← HX0.out,← HX1.out] at HVn VLn;obtain ⟨vv5,HW5⟩ : ∃ z,Hid (mixL vv4 0 5 10 15 ((words wt).getD (sg k 8) 0) ((words wt).getD (sg k 9) 0) = z):=⟨_,jj rfl⟩;rw [HW5.out] at HVn VLn;clear HR HMa HVa HBa VLr HFn HX0 HX1;have HR:=HRn;have HMa:=HMn;have HVa:=HVn;have HBa:=HBn;have VLr:=VLn;clear HRn HMn HVn HBn VLn
        -- mix 5
        have r0 : ((sg k 10 : Nat) : Int) < 16:=(by have:=sg_lt k 10;omega);have r1 : ((sg k 11 : Nat) : Int) < 16:=(by have:=sg_lt k 11;omega);have cr0 : wa5.cell? ⟨gr,10,none⟩ = some (.int .u8 (sg k 10 : Int)):=HR.out.cell 10;have cr1 : wa5.cell? ⟨gr,11,none⟩ = some (.int .u8 (sg k 11 : Int)):=HR.out.cell 11;have cm0:=cell_U HMa.out (a:=sg k 10) (by rw [words_length];exact sg_lt k 10);have cm1:=cell_U HMa.out (a:=sg k 11) (by rw [words_length];exact sg_lt k 11);obtain ⟨x0,HX0⟩ : ∃ z,Hid ((words wt).getD (sg k 10) 0 = z):=⟨_,jj rfl⟩;obtain ⟨x1,HX1⟩ : ∃ z,Hid ((words wt).getD (sg k 11) 0 = z):=⟨_,jj rfl⟩;rw [HX0.out] at cm0;rw [HX1.out] at cm1
        go_still_tail 8,(by kernel_rfl)
        change wpList _ _ _ _ _ wa5.drew;clear cr0 cr1 cm0 cm1 r0 r1;go_wp2_with (go_at_call 294;refine (mix_5 _ gv 37 vv5 x0 x1 HVa.out.draw VLr.out).mono ?_;rintro e wa6 ⟨rfl,hv',hf'⟩;have HVn:=jj hv';have HFn:=jj hf';clear hv' hf');have HRn:=jj (HR.out.draw.other HFn.out (by simp;omega));have HMn:=jj (HMa.out.draw.other HFn.out (by simp;omega));have HBn : Hid (Below gv wc wa6):=jj (below_only HBa.out.drew (Nat.le_of_lt HVa.out.lt) HFn.out);have VLn : Hid ((mixL vv5 1 6 11 12 x0 x1).length = 16):=jj (by rw [mixL_length];exact VLr.out);rw [← HX0.out,← HX1.out] at HVn VLn;obtain ⟨vv6,HW6⟩ : ∃ z,Hid (mixL vv5 1 6 11 12 ((words wt).getD (sg k 10) 0) ((words wt).getD (sg k 11) 0) = z):=⟨_,jj rfl⟩;rw [HW6.out] at HVn VLn;clear HR HMa HVa HBa VLr HFn HX0 HX1;have HR:=HRn;have HMa:=HMn;have HVa:=HVn;have HBa:=HBn;have VLr:=VLn;clear HRn HMn HVn HBn VLn
        -- mix 6
        have r0 : ((sg k 12 : Nat) : Int) < 16:=(by have:=sg_lt k 12;omega);have r1 : ((sg k 13 : Nat) : Int) < 16:=(by have:=sg_lt k 13;omega);have cr0 : wa6.cell? ⟨gr,12,none⟩ = some (.int .u8 (sg k 12 : Int)):=HR.out.cell 12;have cr1 : wa6.cell? ⟨gr,13,none⟩ = some (.int .u8 (sg k 13 : Int)):=HR.out.cell 13;have cm0:=cell_U HMa.out (a:=sg k 12) (by rw [words_length];exact sg_lt k 12);have cm1:=cell_U HMa.out (a:=sg k 13) (by rw [words_length];exact sg_lt k 13);obtain ⟨x0,HX0⟩ : ∃ z,Hid ((words wt).getD (sg k 12) 0 = z):=⟨_,jj rfl⟩;obtain ⟨x1,HX1⟩ : ∃ z,Hid ((words wt).getD (sg k 13) 0 = z):=⟨_,jj rfl⟩;rw [HX0.out] at cm0;rw [HX1.out] at cm1
        go_still_tail 8,(by kernel_rfl)
        change wpList _ _ _ _ _ wa6.drew;clear cr0 cr1 cm0 cm1 r0 r1;go_wp2_with (go_at_call 294;refine (mix_6 _ gv 37 vv6 x0 x1 HVa.out.draw VLr.out).mono ?_;rintro e wa7 ⟨rfl,hv',hf'⟩;have HVn:=jj hv';have HFn:=jj hf';clear hv' hf');have HRn:=jj (HR.out.draw.other HFn.out (by simp;omega));have HMn:=jj (HMa.out.draw.other HFn.out (by simp;omega));have HBn : Hid (Below gv wc wa7):=jj (below_only HBa.out.drew (Nat.le_of_lt HVa.out.lt) HFn.out);have VLn : Hid ((mixL vv6 2 7 8 13 x0 x1).length = 16):=jj (by rw [mixL_length];exact VLr.out);rw [← HX0.out,← HX1.out] at HVn VLn;obtain ⟨vv7,HW7⟩ : ∃ z,Hid (mixL vv6 2 7 8 13 ((words wt).getD (sg k 12) 0) ((words wt).getD (sg k 13) 0) = z):=⟨_,jj rfl⟩;rw [HW7.out] at HVn VLn;clear HR HMa HVa HBa VLr HFn HX0 HX1;have HR:=HRn;have HMa:=HMn;have HVa:=HVn;have HBa:=HBn;have VLr:=VLn;clear HRn HMn HVn HBn VLn
        -- mix 7
        have r0 : ((sg k 14 : Nat) : Int) < 16:=(by have:=sg_lt k 14;omega);have r1 : ((sg k 15 : Nat) : Int) < 16:=(by have:=sg_lt k 15;omega);have cr0 : wa7.cell? ⟨gr,14,none⟩ = some (.int .u8 (sg k 14 : Int)):=HR.out.cell 14;have cr1 : wa7.cell? ⟨gr,15,none⟩ = some (.int .u8 (sg k 15 : Int)):=HR.out.cell 15;have cm0:=cell_U HMa.out (a:=sg k 14) (by rw [words_length];exact sg_lt k 14);have cm1:=cell_U HMa.out (a:=sg k 15) (by rw [words_length];exact sg_lt k 15);obtain ⟨x0,HX0⟩ : ∃ z,Hid ((words wt).getD (sg k 14) 0 = z):=⟨_,jj rfl⟩;obtain ⟨x1,HX1⟩ : ∃ z,Hid ((words wt).getD (sg k 15) 0 = z):=⟨_,jj rfl⟩;rw [HX0.out] at cm0;rw [HX1.out] at cm1
        go_still_tail 8,(by kernel_rfl)
        change wpList _ _ _ _ _ wa7.drew;clear cr0 cr1 cm0 cm1 r0 r1;go_wp2_with (go_at_call 294;refine (mix_7 _ gv 37 vv7 x0 x1 HVa.out.draw VLr.out).mono ?_;rintro e wa8 ⟨rfl,hv',hf'⟩;have HVn:=jj hv';have HFn:=jj hf';clear hv' hf');have HRn:=jj (HR.out.draw.other HFn.out (by simp;omega));have HMn:=jj (HMa.out.draw.other HFn.out (by simp;omega));have HBn : Hid (Below gv wc wa8):=jj (below_only HBa.out.drew (Nat.le_of_lt HVa.out.lt) HFn.out);have VLn : Hid ((mixL vv7 3 4 9 14 x0 x1).length = 16):=jj (by rw [mixL_length];exact VLr.out);rw [← HX0.out,← HX1.out] at HVn VLn;obtain ⟨vv8,HW8⟩ : ∃ z,Hid (mixL vv7 3 4 9 14 ((words wt).getD (sg k 14) 0) ((words wt).getD (sg k 15) 0) = z):=⟨_,jj rfl⟩;rw [HW8.out] at HVn VLn;clear HR HMa HVa HBa VLr HFn HX0 HX1;have HR:=HRn;have HMa:=HMn;have HVa:=HVn;have HBa:=HBn;have VLr:=VLn;clear HRn HMn HVn HBn VLn;refine ⟨⟨k + 1,by omega,by go_num,jj ?_,HBa⟩,by simp [intOf];omega⟩;rw [rounds,HW0.out];unfold round;dsimp only;rw [HW1.out,HW2.out,HW3.out,HW4.out,HW5.out,HW6.out,HW7.out,HW8.out];exact HVa.out
       ·have hd10 : decide ((k : Int) < 10) = false:=(by simp;omega);obtain rfl : k = 10:=(by omega);have VL10 : Hid ((rounds (words wt) v0 10).length = 16):=jj (by rw [rounds_length];exact VL6.out);have HGl:=jj (HG6.out.below HBr.out (by omega));have HBl : Hid (Below w.heap.size w wr):=jj (HB6.out.trans (HBr.out.mono (Nat.le_of_lt hml)));obtain ⟨v9,HV9⟩ : ∃ z,Hid (rounds (words wt) v0 10 = z):=⟨_,jj rfl⟩;rw [HV9.out] at HVr VL10;rw [← HV0.out] at HV9;clear HBr HG6 HM6 HB6 HV6 HV0 VL6 hlt hk;obtain ⟨wl,HWL⟩ : ∃ z,Hid (wr = z):=⟨_,jj rfl⟩;rw [HWL.out] at HGl HVr HBl
        go_wp2
        rw [HWL.out];clear HWL wr
        go_loopw [175] (fun i wr => ∃ k : Nat,k ≤ 8 ∧ i = .int .i64 k ∧ Hid (Whole wr g t (stCells (hTo h v9 k) wt f n).toArray) ∧ Hid (wl.grownBy wr (some g))) (fun i _ => 8 - (intOf i).toNat)
        case atStart => exact ⟨0,by omega,rfl,by rw [hTo_zero HH.out];exact HGl,jj (World.grownBy.refl _ _)⟩
        case round =>
         obtain ⟨k,hk,rfl,HGr,HFr⟩:=hrel;by_cases hlt : k < 8
         ·have hvr:=HVr.out.other HFr.out (by simp;omega);have hl:=hTo_length HH.out v9 hk;have cv:=cell_U hvr (a:=k) (by rw [VL10.out];omega);have cv8:=cell_U hvr (a:=k + 8) (by rw [VL10.out];omega)
          have ch : wr.cell? ⟨g,k,none⟩ = some (U (h.getD k 0)):=by
           rw [HGr.out.cell];have:=stCells_h (wt:=wt) (f:=f) (n:=n) hl hlt;rw [hTo_at HH.out hlt] at this
           simpa using this
          have fh:=HGr.out.free k;have ws : IntKind.i64.wrap ((k : Int) + 8) = (k : Int) + 8:=IntWalk.i64_in _ (by omega);have is : ((k : Int) + 8).toNat = k + 8:=(by omega);have js : (k : Int) + 8 < 16:=(by omega);have ks : (0 : Int) ≤ (k : Int) + 8:=(by omega);have ls : (k : Int) < 16:=(by omega);have ms : (k : Int) < 8:=(by omega);clear hl hvr;obtain ⟨y0,HY0⟩ : ∃ z,Hid (h.getD k 0 = z):=⟨_,jj rfl⟩;obtain ⟨y1,HY1⟩ : ∃ z,Hid (v9.getD k 0 = z):=⟨_,jj rfl⟩;obtain ⟨y2,HY2⟩ : ∃ z,Hid (v9.getD (k + 8) 0 = z):=⟨_,jj rfl⟩;rw [HY0.out] at ch;rw [HY1.out] at cv;rw [HY2.out] at cv8
          go_wp2
          go_still_tail 18,(by kernel_rfl)
          rw [u_xor,u_xor];change wpList _ _ _ _ _ wr.drew;clear ws is js ks cv cv8
          go_wp2
          have R : ∃ k' : Nat,k' ≤ 8 ∧ Value.int .i64 ((k : Int) + 1) = .int .i64 k' ∧ Hid (Whole (wr.setCell ⟨g,k,none⟩ (U (ux y0 (ux y1 y2)))).drew g t (stCells (hTo h v9 k') wt f n).toArray) ∧ Hid (wl.grownBy (wr.setCell ⟨g,k,none⟩ (U (ux y0 (ux y1 y2)))).drew (some g)):=(by refine ⟨k + 1,by omega,by go_num,jj ?_,jj (HFr.out.trans (far_U (w:=wr) (g:=g) k _))⟩;have h1:=(HGr.out.set k (U (ux y0 (ux y1 y2)))).draw;rw [List.setIfInBounds_toArray,stCells_set_h (hTo_length HH.out v9 hk) hlt,← HY0.out,← HY1.out,← HY2.out,hTo_set HH.out hlt] at h1;rw [← HY0.out,← HY1.out,← HY2.out];exact h1)
          go_roundw
          case rel => first | exact R | ((repeat apply Exists.intro);exact ⟨R,rfl⟩)
          case measure => simp [intOf];omega
         ·obtain rfl : k = 8:=(by omega)
          go_wp2
          go_end0
          refine ⟨rfl,?_,?_⟩
          ·have h1:=HGr.out;rw [hTo_all HH.out,← HV9.out] at h1;exact h1
          ·exact grown_of HBl.out HFr.out (by omega)
end Go.Proofs.YtdkhnjjihbmlmaaGreatDoor
