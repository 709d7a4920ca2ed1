import Derived.Test.YtdkhnjjihbmlmaaGreatDoorSyA
import Derived.Test.YtdkhnjjihbmlmaaGreatDoorShelfB
import Derived.Shelf.Strings.BuilderK
namespace Go.Proofs.YtdkhnjjihbmlmaaGreatDoor
open Go.RowKit
theorem Tryz.infoBo : (Tryz.prog.info? 4).map (fun i => (i.zero,i.size,i.bytes)) = some (some (.bool false),1,1):=by kernel_rfl
def boB (x : List Bool) : List Value:=x.map Value.bool
theorem make_bool (W : World) (n : Nat) (hn : n ≤ 1099511627776) : (Instr.makeSlice 306 (.int .i64 n) (.int .i64 n)).run Tryz.prog W = .ok (.slice (some ⟨W.heap.size,0,none⟩) n n) (W.alloc (.cells (boB (List.replicate n false)).toArray 4)):=by
 obtain ⟨i0,hi0,hz0,hz1,hz2⟩:=info_parts Tryz.infoBo;have:=run_make (P:=Tryz.prog) W 306 4 i0 _ Tryz.underlying306 hi0 hz0 .i64 .i64 (n : Int) (n : Int) (by omega) (Int.le_refl _) (by rw [hz2];omega) (by omega);rw [this,hz1]
 have e : madeCells (Value.bool false).cells n = (boB (List.replicate n false)).toArray:=by
  apply Array.ext';apply List.ext_getElem?;intro j;have hc : (Value.bool false).cells = #[Value.bool false]:=rfl;rw [hc];unfold madeCells boB;simp only [List.getElem?_map,List.getElem?_replicate,Array.toList_map,Array.toList_range];by_cases hj : j < n
  ·simp [hj,Nat.mod_one]
  ·simp [hj]
 simp [e]
theorem wpList_made {P : Program} {ops : Array Oper} {rest : List Oper} {o : Oper} {a : Act} {w w' : World} {Q : Exit → Act → World → Prop} (hgd : o.guard = none) (t : TypeId) (x y : Operand) (ho : o.op = .makeSlice t x y) (v : Value) (hr : (Instr.makeSlice t (a.eval x) (a.eval y)).run P w = .ok v w') (h : wpList P ops Q rest (a.put o.dst v) w') : wpList P ops Q (o :: rest) a w :=
 wpList_plain hgd fun _ hK => by
  unfold Oper.wp execOp;simp only [ho,Sem.run_bind,hr,Result.andThen_ok,Sem.run_pure];exact hK _ _ h
set_option maxRecDepth 100000 in
set_option maxHeartbeats 1000000 in
theorem allowed_any (w : World) (n : Nat) (A : Option Addr) (c : Nat) (l : List Nb) (hL : Lies w w.heap.size A (nbCells l)) (hn : n ≤ 1048576) (hok : LOk n l) (hr : dirtyR n (-1) l = true) :
  Calls Tryz.prog 210 #[.int .i64 (n : Int),.slice A l.length c] w fun e w' => e = .returned (.int .i64 0) ∧ Below w.heap.size w w':=by
 have HL:=jj hL;have HOK:=jj hok;have HDR:=jj hr;have hfew:=hok.few;have MB:=jj (make_bool w n (by omega));have d0 : decide ((32 : Int) < (l.length : Int)) = false:=decide_eq_false (by omega);have d0' : decide (32 < l.length) = false:=decide_eq_false (by omega);clear hL hok hr;go_enter Tryz.func210,Tryz.ntmps210;go_upto_region 4 with (at_make;refine wpList_made rfl 306 (.tmp 11) (.tmp 11) rfl _ MB.out ?_);have HX0:=jj (Whole.made w 4 (boB (List.replicate n false)).toArray);have HB0 : Hid (Below w.heap.size w (w.alloc (.cells (boB (List.replicate n false)).toArray 4))):=jj ((Below.refl w.heap.size w).alloc (Nat.le_refl _) _);change Code.wp _ _ _ _ (w.alloc (.cells (boB (List.replicate n false)).toArray 4));clear MB d0 d0';generalize w.alloc (.cells (boB (List.replicate n false)).toArray 4) = w1 at *;generalize hgg : w.heap.size = g at *;have HGG:=jj hgg;clear hgg;go_wp2_with fail
 go_loopw [15] (fun i wr => ∃ (k : Nat) (x : List Bool),k ≤ l.length ∧ i = .int .i64 (k : Int) ∧ Hid (x.length = n ∧ ∀ p ∈ l.drop k,x[p.1.toNat]? = some false) ∧ Hid (Whole wr g 4 (boB x).toArray) ∧ Hid (Below g w wr)) (fun i _ => l.length - (intOf i).toNat)
 case atStart => refine ⟨0,List.replicate n false,by omega,rfl,jj ⟨by simp,fun p hp => ?_⟩,HX0,HB0⟩;have h:=HOK.out.ok p (by simpa using hp);obtain ⟨h0,h1,_⟩:=h;rw [List.getElem?_replicate,if_pos (by omega)]
 case round =>
  clear HX0 HB0;obtain ⟨k,x,hk,rfl,HX,HW,HB⟩:=hrel;have hzv : g ≤ wr.heap.size:=(by have:=HB.out.size;have:=HGG.out;omega);by_cases hlt : k < l.length
  ·obtain ⟨p,hx⟩:=get_some hlt;have hpk:=HOK.out.ok p (List.mem_of_getElem? hx);have hxp:=HX.out.2 p (by rw [drop_cons hx];simp)
   have hnx : ∀ q ∈ l.drop (k + 1),q.1.toNat ≠ p.1.toNat ∧ x[q.1.toNat]? = some false:=fun q hq => by
    obtain ⟨i,hi⟩:=List.mem_iff_getElem?.1 hq;rw [List.getElem?_drop] at hi;have:=dirtyR_two HDR.out (i:=k) (j:=k + 1 + i) (by omega) hx hi;have h0:=hpk.1;exact ⟨by omega,HX.out.2 q (by rw [drop_cons hx];simp [hq])⟩
   have HNX : Hid ((x.set p.1.toNat true).length = n ∧ ∀ q ∈ l.drop (k + 1),(x.set p.1.toNat true)[q.1.toNat]? = some false):=jj ⟨by rw [List.length_set];exact HX.out.1,fun q hq => by
    obtain ⟨h1,h2⟩:=hnx q hq;rw [List.getElem?_set_ne (Ne.symm h1)];exact h2⟩
   obtain ⟨bd,hbdr,hbd,hc⟩:=Lies.row (f:=nbCells1) (n:=2) (Lies.below HL.out HB.out) (fun y hy => rfl) (by omega) hx;subst hbdr;have LDN : Hid (∀ j v,(nbCells1 p)[j]? = some v → wr.cell? ((bd.add (k * 2)).add j) = some v):=jj hc;have HP:=jj (Whole.made wr 66 (nbCells1 p).toArray);have HW1:=jj (HW.out.block (.cells (nbCells1 p).toArray 66));have HB1 : Hid (Below g w (wr.alloc (.cells (nbCells1 p).toArray 66))):=jj (HB.out.alloc (by omega) _);have hgr : g < wr.heap.size:=HW.out.lt;clear hc hx hnx HW HB HX;have i0' : (0 : Int) ≤ (k : Int):=(by omega);have i1 : (k : Int) < (l.length : Int):=(by omega)
   go_upto_region 7 with (first
    | (refine wpList_load_at rfl 66 (.tmp 17) rfl (bd.add (k * 2)) rfl (nbCells1 p) _ LDN.out Tryz.underlying66 rfl (by kernel_rfl) ?_)
    | (refine wpList_fresh rfl rfl 66 7 (.tmp 18) rfl rfl rfl rfl (nbCells1 p) rfl rfl _ Tryz.infoWr rfl (nb_one p) ?_))
   change Code.wp _ _ _ _ (wr.alloc (.cells (nbCells1 p).toArray 66));clear LDN;generalize wr.alloc (.cells (nbCells1 p).toArray 66) = w5 at *;generalize wr.heap.size = g5 at *;obtain ⟨id,dt⟩:=p;obtain ⟨p0,p1,p2⟩:=hpk;dsimp only at p0 p1 p2 hxp HNX;obtain ⟨j,hj⟩ : ∃ j : Nat,id = (j : Int):=⟨id.toNat,by omega⟩;subst hj;rw [Int.toNat_natCast] at hxp HNX;have x0 : w5.cell? ⟨g5,0,none⟩ = some (.int .i64 (j : Int)):=HP.out.cell 0;have x1 : w5.cell? ⟨g5,1,none⟩ = some (S dt):=HP.out.cell 1;have y0 : w5.cell? ⟨g,j,none⟩ = some (.bool false):=(HW1.out.cell j).trans (by rw [List.getElem?_toArray,boB,List.getElem?_map,hxp];rfl);have y1:=HW1.out.free j;have d1 : decide ((j : Int) < 0) = false:=decide_eq_false (by omega);have d2 : decide ((n : Int) ≤ (j : Int)) = false:=decide_eq_false (by omega);have d2' : decide (n ≤ j) = false:=decide_eq_false (by omega);have d3 : ((dt.length : Int) != 128) = false:=(by simp [p2]);have d3' : (dt.length != 128) = false:=(by simp [p2]);have j0 : (0 : Int) ≤ (j : Int):=(by omega);have j1 : (j : Int) < (n : Int):=(by omega)
   have HW2 : Hid (Whole (w5.setCell ⟨g,j,none⟩ (.bool true)) g 4 (boB (x.set j true)).toArray):=jj (by
    have:=HW1.out.set j (.bool true);rw [List.setIfInBounds_toArray] at this
    rwa [boB,List.map_set])
   have HB2 : Hid (Below g w (w5.setCell ⟨g,j,none⟩ (.bool true))):=jj (HB1.out.setCell (p:=⟨g,j,none⟩) (Nat.le_refl _) _);clear p0 p1 p2 hxp HW1 HB1 HP;go_wp2_with fail;refine ⟨⟨k + 1,x.set j true,by omega,by go_num,HNX,HW2,HB2⟩,by simp [intOf];omega⟩
  ·obtain rfl : k = l.length:=(by omega);have hd : decide (l.length < l.length) = false:=(by simp);go_wp2_with fail;go_ret;exact ⟨rfl,by rw [HGG.out];exact HB.out⟩
attribute [local go_sem] concat_S
set_option maxRecDepth 100000 in
set_option maxHeartbeats 1000000 in
theorem filled_any (w : World) (s : List UInt8) (n : Nat) (hs : s.length ≤ n) (hn : n ≤ 1048576) :
  Calls Tryz.prog 249 #[S s,.int .i64 (n : Int)] w fun e w' => (∃ t,e = .returned (S t) ∧ t.length = n) ∧ Below w.heap.size w w':=by
 by_cases h : s.length < n
 ·have CR : Hid (Calls Tryz.prog 38 #[.string ⟨#[0]⟩,.int .i64 ((n : Int) - (s.length : Int))] w fun e w' => e = .returned (S (List.replicate (n - s.length) 0)) ∧ Below w.heap.size w w'):=jj (by
   have hs : (⟨#[0]⟩ : ByteArray).size = 1:=rfl;have:=Tryz.strings_Repeat ⟨#[0]⟩ (n - s.length) w (by omega) (by rw [hs];omega);rw [show ((n - s.length : Nat) : Int) = (n : Int) - (s.length : Int) by omega] at this;refine this.mono ?_;rintro e w' ⟨rfl,hb⟩;refine ⟨?_,hb⟩
   have er : ∀ k,Lib.repeatL [(0 : UInt8)] k = List.replicate k 0:=fun k => by
    induction k with
    | zero => rfl
    | succ k ih => rw [Lib.repeatL_add,ih,← List.replicate_append_replicate];congr 1
   show Ending.returned (.string ⟨(Lib.repeatL [(0 : UInt8)] _).toArray⟩) = _;rw [er])
  have d1 : decide ((n : Int) ≤ (s.length : Int)) = false:=decide_eq_false (by omega);have d1' : decide (n ≤ s.length) = false:=decide_eq_false (by omega);have wv : IntKind.i64.wrap ((n : Int) - (s.length : Int)) = (n : Int) - (s.length : Int):=(by rw [IntKind.wrap_i64];omega);have hl : (s ++ List.replicate (n - s.length) (0 : UInt8)).length = n:=(by simp;omega);have hno : ¬ (9223372036854775807 < s.length + (List.replicate (n - s.length) (0 : UInt8)).length):=(by simp;omega);have HLL:=jj hl;generalize List.replicate (n - s.length) (0 : UInt8) = z at *;clear hl;go_enter Tryz.func249,Tryz.ntmps249;go_wp2_with fail;refine CR.out.mono ?_;rintro e w2 ⟨rfl,hb⟩;have HB:=jj hb;clear hb CR;go_wp2_with fail;go_ret;exact ⟨⟨s ++ z,by simp,HLL.out⟩,HB.out⟩
 ·have d1 : decide ((n : Int) ≤ (s.length : Int)) = true:=decide_eq_true (by omega);have d1' : decide (n ≤ s.length) = true:=decide_eq_true (by omega);go_enter Tryz.func249,Tryz.ntmps249;go_wp2_with fail;go_ret;exact ⟨⟨s,rfl,by omega⟩,Below.refl _ _⟩
end Go.Proofs.YtdkhnjjihbmlmaaGreatDoor
namespace Go.Proofs
open Go.Shelf
def Tryz.lays166_ren : Go.Shelf.Ren:=⟨fun | 166 => 75 | 240 => 122 | 276 => 174 | n => n,fun | 0 => 0 | 3 => 3 | 4 => 4 | 9 => 9 | 20 => 20 | 37 => 89 | 70 => 117 | 72 => 119 | 75 => 122 | 164 => 239 | 80 => 126 | n => n,fun | n => n⟩
theorem Tryz.lays166 : Go.Proofs.Lays.n166 Tryz.prog Tryz.lays166_ren:={
 mixed:=by kernel_rfl
 f166:=Tryz.func75.trans (congrArg some (by kernel_rfl))
 f240:=Tryz.func122.trans (congrArg some (by kernel_rfl))
 f276:=Tryz.func174.trans (congrArg some (by kernel_rfl))
 t0:=Tryz.underlying0
 a0:=Tryz.isAgg0
 z0:=Tryz.sizeOf0
 v0:=Tryz.zeroValue0
 t3:=Tryz.underlying3
 a3:=Tryz.isAgg3
 z3:=Tryz.sizeOf3
 v3:=Tryz.zeroValue3
 t4:=Tryz.underlying4
 a4:=Tryz.isAgg4
 z4:=Tryz.sizeOf4
 v4:=Tryz.zeroValue4
 t9:=Tryz.underlying9
 a9:=Tryz.isAgg9
 z9:=Tryz.sizeOf9
 v9:=Tryz.zeroValue9
 t20:=Tryz.underlying20
 a20:=Tryz.isAgg20
 z20:=Tryz.sizeOf20
 v20:=Tryz.zeroValue20
 t37:=Tryz.underlying89
 a37:=Tryz.isAgg89
 z37:=Tryz.sizeOf89
 v37:=Tryz.zeroValue89
 t70:=Tryz.underlying117
 a70:=Tryz.isAgg117
 z70:=Tryz.sizeOf117
 v70:=Tryz.zeroValue117
 t72:=Tryz.underlying119
 a72:=Tryz.isAgg119
 z72:=Tryz.sizeOf119
 v72:=Tryz.zeroValue119
 t75:=Tryz.underlying122
 a75:=Tryz.isAgg122
 z75:=Tryz.sizeOf122
 v75:=Tryz.zeroValue122
 t164:=Tryz.underlying239
 a164:=Tryz.isAgg239
 z164:=Tryz.sizeOf239
 v164:=Tryz.zeroValue239 }
theorem Tryz.Builder_Extra_166 : Builder.Extra Tryz.prog Tryz.lays166_ren:={
 sizeBuilder:=by kernel_rfl
 liesBuilder:=by kernel_rfl
 t5:=Tryz.underlying5
 a5:=Tryz.isAgg5
 z5:=Tryz.sizeOf5
 v5:=Tryz.zeroValue5
 infoByte:=by kernel_rfl
 cellsByte:=by kernel_rfl
 sizeByte:=by kernel_rfl
 neB5:=by decide }
open Go.RowKit in
theorem Tryz.Builder_WriteString_k (B b : Nat) (bs : List Value) (s : ByteArray) (w : World) (h : Lib.IsBuilderF 119 5 B b bs w) (hl : bs.length + s.size ≤ 140737488355328) (hB : B ≤ w.heap.size) :
  Calls Tryz.prog 75 #[.pointer (some ⟨b,0,none⟩),.string s] w fun e w' => e = .returned (.tuple #[.int .i64 s.size,.nilIface]) ∧ (Lib.BuilderAtF 119 5 B b (.pointer (some ⟨b,0,none⟩)) (bs ++ Lib.strCells s) w' ∧ Below B w w' ∧ Lib.OthersKept 5 (some b) w w') :=
 Any.Builder_WriteString_k Tryz.lays166 Tryz.Builder_Extra_166 B b bs s w h hl hB
open Go.RowKit in
theorem Tryz.Builder_String_k (B b : Nat) (l : List UInt8) (w : World) (h : Lib.IsBuilderF 119 5 B b (Lib.byteCells l) w) (hB : B ≤ w.heap.size) :
  Calls Tryz.prog 77 #[.pointer (some ⟨b,0,none⟩)] w fun e w' => e = .returned (.string ⟨l.toArray⟩) ∧ (Lib.IsBuilderF 119 5 B b (Lib.byteCells l) w' ∧ Below B w w' ∧ Lib.OthersKept 5 (some b) w w') :=
 Any.Builder_String_any_k Tryz.lays169 Tryz.Builder_Extra_169 B b l w h hB
end Go.Proofs
namespace Go.Proofs.YtdkhnjjihbmlmaaGreatDoor
open Go.RowKit
abbrev BldF (B b : Nat) (l : List UInt8) (w : World) : Prop:=Lib.IsBuilderF 119 5 B b (Lib.byteCells l) w
section
variable {B b : Nat} {l : List UInt8} {w w' : World}
theorem BldF.keep (h : BldF B b l w) {X : Option Nat} (hk : w.grownBy w' X) (hX : ∀ g,X = some g → ∃ T,Typed w g T ∧ T ≠ 119 ∧ T ≠ 5) : BldF B b l w':=by
 have key : ∀ p,Lib.BuilderAtF 119 5 B b p (Lib.byteCells l) w → Lib.BuilderAtF 119 5 B b p (Lib.byteCells l) w':=by
  rintro p ⟨hB,v,hb,hown,hne⟩;refine ⟨hB,v,(hk.block b (Array.getElem?_eq_some_iff.1 hb).1 fun e => ?_).trans hb,hown.kept hk ?_,hne⟩
  ·obtain ⟨T,⟨cs,fr,h1⟩,h2,_⟩:=hX b e.symm;rw [hb] at h1;injection h1 with h1;injection h1 with _ h1;exact h2 h1.symm
  ·rcases hown.2 with ⟨rfl,_⟩ | ⟨g,cap,cur,fz,rfl,_,hg,_⟩
   ·exact .inl rfl
   ·refine .inr fun e => ?_;obtain ⟨T,⟨cs,fr,h1⟩,_,h3⟩:=hX g e.symm;rw [hg] at h1;injection h1 with h1;injection h1 with _ h1;exact h3 h1.symm
 rcases h with h | h
 ·exact .inl (key _ h)
 ·exact .inr (key _ h)
theorem BldF.below (h : BldF B b l w) (hb : Below w.heap.size w w') : BldF B b l w':=h.keep (X:=none) ⟨hb.os,hb.tape,hb.output,hb.size,fun i hi _ => hb.block i hi⟩ (fun g e => by cases e)
theorem BldF.at' (h : BldF B b l w) : Typed w b 119:=by
 rcases h with ⟨_,v,h,_⟩ | ⟨_,v,h,_⟩
 ·exact ⟨_,_,h⟩
 ·exact ⟨_,_,h⟩
theorem RW.others {B0 k n c : Nat} {T : TypeId} {A : Option Addr} {xs : List Value} (h : RW B0 T k w A n c xs) (ho : Lib.OthersKept 5 (some b) w w') (hT : T ≠ 5) (hb : Typed w b 119) (hT2 : T ≠ 119) : RW B0 T k w' A n c xs:=by
 refine ⟨h.1,?_⟩;rcases h.2 with h1 | ⟨g,cap,cur,e,hg,hh,r⟩
 ·exact .inl h1
 ·refine .inr ⟨g,cap,cur,e,hg,ho g _ hh (fun e => ?_) (fun c fz e => ?_),r⟩
  ·injection e with e;subst e;exact Typed.ne ⟨_,_,hh⟩ hb hT2 rfl
  ·injection e with _ e;exact hT e
theorem byteCells_app (a b : List UInt8) : Lib.byteCells a ++ Lib.strCells ⟨b.toArray⟩ = Lib.byteCells (a ++ b):=by
 simp [Lib.byteCells,Lib.strCells]
theorem bwrite_any (B b : Nat) (l s : List UInt8) (w : World) (h : BldF B b l w) (hl : l.length + s.length ≤ 1048576) (hB : B ≤ w.heap.size) :
  Calls Tryz.prog 75 #[.pointer (some ⟨b,0,none⟩),S s] w fun e w' => e = .returned (.tuple #[.int .i64 s.length,.nilIface]) ∧ BldF B b (l ++ s) w' ∧ Below B w w' ∧ Lib.OthersKept 5 (some b) w w':=by
 refine (Tryz.Builder_WriteString_k B b (Lib.byteCells l) ⟨s.toArray⟩ w h (by simp [Lib.byteCells,size_S];omega) hB).mono ?_;rintro e w' ⟨rfl,h1,h2,h3⟩;rw [byteCells_app] at h1;exact ⟨by rw [size_S],.inr h1,h2,h3⟩
end
end Go.Proofs.YtdkhnjjihbmlmaaGreatDoor
