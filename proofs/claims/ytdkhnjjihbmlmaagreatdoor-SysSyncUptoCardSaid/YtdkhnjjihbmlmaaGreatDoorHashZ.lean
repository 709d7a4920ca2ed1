import Derived.Test.YtdkhnjjihbmlmaaGreatDoorGenA
import Derived.Test.YtdkhnjjihbmlmaaGreatDoorTake
namespace Go.Proofs.YtdkhnjjihbmlmaaGreatDoor
open Go.RowKit
def h0 : List UInt32:=IV.set 0 (ux (IV.getD 0 0) 16842784)
theorem h0_length : h0.length = 8:=rfl
set_option maxRecDepth 100000 in
set_option maxHeartbeats 1000000 in
theorem begin_any (w : World) (hT : Tabs w) :
  Calls Tryz.prog 269 #[.bool false] w fun e w' => e = .returned (.agg (stCells h0 (List.replicate 64 0) 0 0).toArray) ∧ Below w.heap.size w w':=by
 have hl:=hT.lt0;obtain ⟨⟨te,fe,he⟩,_⟩:=hT;have he1 : ∀ o : Obj,(w.alloc o).heap[1]? = some (.cells #[.int .u32 1779033703,.int .u32 3144134277,.int .u32 1013904242,.int .u32 2773480762,.int .u32 1359893119,.int .u32 2600822924,.int .u32 528734635,.int .u32 1541459225] te fe):=fun o => (Below.heap_alloc w o _ hl).trans he;have e1 : bits .xor .u32 1779033703 16842784 = 1795745351:=(by decide);clear he
 have z0 : Whole ((w.alloc (.cells Tryz.zeroCells324 324)).alloc (.cells Tryz.zeroCells324 324)) (w.heap.size + 1) 324 Tryz.zeroCells324.toList.toArray:=by
  have:=Whole.made (w.alloc (.cells Tryz.zeroCells324 324)) 324 Tryz.zeroCells324
  simpa using this
 have z1 : Whole ((w.alloc (.cells Tryz.zeroCells324 324)).alloc (.cells Tryz.zeroCells324 324)) w.heap.size 324 Tryz.zeroCells324.toList.toArray:=by
  have:=(Whole.made w 324 Tryz.zeroCells324).block (.cells Tryz.zeroCells324 324)
  simpa using this
 have b0 : Below w.heap.size w ((w.alloc (.cells Tryz.zeroCells324 324)).alloc (.cells Tryz.zeroCells324 324)):=((Below.refl _ _).alloc (Nat.le_refl _) _).alloc (by simp) _;have Z0:=jj z0;have Z1:=jj z1;have B0:=jj b0;clear z0 z1 b0;go_enter Tryz.func269,Tryz.ntmps269
 go_wp2_with (first
  | (refine wpList_load_row rfl 321 _ rfl 1 rfl te _ fe _ (he1 _) Tryz.underlying321 rfl (by kernel_rfl) ?_)
  | (refine wpList_store_at rfl 324 (.tmp 3) (.tmp 5) rfl rfl (w.heap.size + 1) 0 rfl (stCells IV (List.replicate 64 0) 0 0) (by kernel_rfl) (by kernel_rfl) _ 324 Z0.out (by decide) (by decide) ?_
     intro w2 H2 F2;have c0 : w2.cell? ⟨w.heap.size + 1,0,none⟩ = some (.int .u32 1779033703):=(by rw [H2.out.cell];rfl);have f0:=H2.out.free 0;have H3 : Hid (Whole (w2.setCell ⟨w.heap.size + 1,0,none⟩ (.int .u32 1795745351)) (w.heap.size + 1) 324 (stCells h0 (List.replicate 64 0) 0 0).toArray):=jj (H2.out.set 0 (.int .u32 1795745351));have Z3 : Hid (Whole (w2.setCell ⟨w.heap.size + 1,0,none⟩ (.int .u32 1795745351)) w.heap.size 324 Tryz.zeroCells324.toList.toArray):=jj ((Z1.out.other F2.out (by simp)).far (by simp) _);have B3 : Hid (Below w.heap.size w (w2.setCell ⟨w.heap.size + 1,0,none⟩ (.int .u32 1795745351))):=jj ((below_grown B0.out F2.out (by simp;omega) (by omega)).setCell (by simp) _))
  | (refine wpList_load_row rfl 324 (.tmp 3) rfl (w.heap.size + 1) rfl 324 (stCells h0 (List.replicate 64 0) 0 0).toArray (0,0) _ H3.out Tryz.underlying324 rfl (by kernel_rfl) ?_)
  | (refine wpList_store_at rfl 324 (.tmp 2) (.tmp 19) rfl rfl w.heap.size 0 rfl (stCells h0 (List.replicate 64 0) 0 0) rfl (by kernel_rfl) _ 324 Z3.out (by decide) (by decide) ?_
     intro w4 H4 F4;have B4 : Hid (Below w.heap.size w w4):=jj (below_grown B3.out F4.out B3.out.size (Nat.le_refl _))))
 have h4:=H4.out;rw [show (Tryz.zeroCells324.toList.take 0 ++ (stCells h0 (List.replicate 64 0) 0 0 ++ Tryz.zeroCells324.toList.drop (0 + (stCells h0 (List.replicate 64 0) 0 0).length))) = stCells h0 (List.replicate 64 0) 0 0 from by kernel_rfl] at h4;exact bodyPost_ret (v:=.agg (stCells h0 (List.replicate 64 0) 0 0).toArray) (results_cell_row rfl _ _ w.heap.size 324 _ (0,0) _ rfl h4 Tryz.underlying324 rfl (by kernel_rfl)) rfl ⟨rfl,B4.out⟩
end Go.Proofs.YtdkhnjjihbmlmaaGreatDoor
namespace Go.Proofs.YtdkhnjjihbmlmaaGreatDoor
open Go.RowKit
theorem str_mid (q : List UInt8) (m n : Nat) : Value.string ((⟨q.toArray⟩ : ByteArray).extract m n) = S ((q.drop m).take (n - m)):=by
 unfold S;congr 1;apply ByteArray.ext;rw [ByteArray.data_extract];simp [List.extract_toArray,List.extract_eq_take_drop]
theorem str_drop (q : List UInt8) (m : Nat) : Value.string ((⟨q.toArray⟩ : ByteArray).extract m q.length) = S (q.drop m):=by
 rw [str_mid,List.take_of_length_le (by simp)]
def strLen : Value → Nat
 | .string s => s.size
 | _ => 0
theorem strLen_S (l : List UInt8) : strLen (S l) = l.length:=by simp [strLen,ByteArray.size]
theorem Tabs.only {w w' : World} {g : Nat} (h : Tabs w) (hf : w.grownBy w' (some g)) (h0 : g ≠ 1) (h1 : g ≠ 2) : Tabs w':=by
 have l0:=h.lt0;have l1:=h.lt1;obtain ⟨⟨t0,f0,e0⟩,⟨t1,f1,e1⟩⟩:=h;exact ⟨⟨t0,f0,(hf.block _ l0 (by simp;omega)).trans e0⟩,⟨t1,f1,(hf.block _ l1 (by simp;omega)).trans e1⟩⟩
theorem only_put {w : World} {g : Nat} (i : Nat) (v : Value) : w.grownBy (w.setCell ⟨g,i,none⟩ v) (some g) :=
 ⟨rfl,rfl,rfl,by simp [World.setCell],fun j _ hne => Below.heap_setCell w ⟨g,i,none⟩ v j (fun e => hne (by rw [e]))⟩
theorem only_draw (w : World) (row : Option Nat) : w.grownBy w.drew row:=⟨rfl,rfl,rfl,Nat.le_refl _,fun _ _ _ => rfl⟩
set_option maxRecDepth 100000 in
set_option maxHeartbeats 2000000 in
theorem add_any (w : World) (g : Nat) (t : TypeId) (hs : List UInt32) (pre p : List UInt8) (h : List UInt32) (wt : List UInt8) (f n : Nat) (hT : Tabs w) (hg : Whole w g t (stCells h wt f n).toArray) (hg0 : g ≠ 1) (hg1 : g ≠ 2)
  (hh : hs.length = 8) (hr : Rep hs pre h wt f n) (ha : Alive f n) (hl : pre.length + p.length ≤ 1099511627776) :
  Calls Tryz.prog 270 #[.pointer (some ⟨g,0,none⟩),S p] w fun e w' => e = .returned (.tuple #[]) ∧ (∃ h' wt' f' n',Whole w' g t (stCells h' wt' f' n').toArray ∧ Rep hs (pre ++ p) h' wt' f' n' ∧ Alive f' n') ∧ w.grownBy w' (some g):=by
 have HG:=jj hg;have HR:=jj hr;have HA:=jj ha;have HT:=jj hT;have HH:=jj hh;clear hg hr ha hT hh;go_enter Tryz.func270,Tryz.ntmps270
 go_wp2
 go_loopw [1] (fun s wr => ∃ (j : Nat) (h : List UInt32) (wt : List UInt8) (f n : Nat),j ≤ p.length ∧ s = S (p.drop j) ∧ Hid (Whole wr g t (stCells h wt f n).toArray) ∧ Hid (Rep hs (pre ++ p.take j) h wt f n) ∧ Hid (Alive f n) ∧ Hid (w.grownBy wr (some g))) (fun s _ => strLen s)
 case atStart => exact ⟨0,h,wt,f,n,by omega,by simp,HG,by simpa using HR,HA,jj (World.grownBy.refl _ _)⟩
 case round =>
  clear HG HR HA h wt f n;obtain ⟨j,h,wt,f,n,hj,rfl,HG,HR,HA,HF⟩:=hrel;have hf:=HR.out.f_le;have hln:=HR.out.len;have hn1 : n ≤ 1099511627776:=(by rw [List.length_append,List.length_take] at hln;omega);clear hln;have H8 : Hid (h.length = 8):=jj (HR.out.h_length HH.out);have H64 : Hid (wt.length = 64):=jj HR.out.w_length;have c72 : wr.cell? ⟨g,72,none⟩ = some (.int .i64 (f : Int)):=(by rw [HG.out.cell];simpa using stCells_f H8.out H64.out);have c73 : wr.cell? ⟨g,73,none⟩ = some (.int .u64 (n : Int)):=(by rw [HG.out.cell];simpa using stCells_n H8.out H64.out);have f72:=HG.out.free 72;have f73:=HG.out.free 73;by_cases hlt : j < p.length
  ·have hpos : 0 < (p.drop j).length:=(by simp;omega);obtain ⟨q,HQ⟩ : ∃ z,Hid (p.drop j = z):=⟨_,jj rfl⟩;rw [HQ.out] at hpos;have hql : q.length ≤ 1099511627776:=(by rw [← HQ.out,List.length_drop];omega);rw [HQ.out]
   go_upto_if 12 with (fail)
   go_cut [] (fun wc => ∃ (h' : List UInt32) (f' n' : Nat),f' < 64 ∧ n' ≤ 1099511627776 + 64 ∧ Hid (h'.length = 8) ∧ Hid (Whole wc g t (stCells h' wt f' n').toArray) ∧ Hid (Rep hs (pre ++ p.take j) h' wt f' n') ∧ Hid (w.grownBy wc (some g)))
   case first =>
    by_cases h64 : f = 64
    ·subst h64;have hw1 : Whole (wr.setCell ⟨g,73,none⟩ (.int .u64 ((n : Int) + 64))) g t (stCells h wt 64 (n + 64)).toArray:=(by have:=HG.out.set 73 (.int .u64 ((n : Int) + 64));rw [List.setIfInBounds_toArray,show ((n : Int) + 64) = ((n + 64 : Nat) : Int) by omega,stCells_set_n H8.out H64.out] at this;rw [show ((n : Int) + 64) = ((n + 64 : Nat) : Int) by omega];exact this);have hf1:=HF.out.trans (only_put (w:=wr) (g:=g) 73 (.int .u64 ((n : Int) + 64)));have HW1:=jj hw1;have HF1:=jj hf1;clear hw1 hf1;go_wp2_with fail;refine (take_any _ g t h wt 64 (n + 64) false (HT.out.only HF1.out hg0 hg1) HW1.out H8.out H64.out).mono ?_;rintro e w2 ⟨rfl,hw2,hf2⟩;have HW2:=jj hw2;have HF2:=jj hf2;clear hw2 hf2;have k72 : w2.cell? ⟨g,72,none⟩ = some (.int .i64 64):=(by rw [HW2.out.cell];simpa using stCells_f (f:=64) (n:=n + 64) (takeL_length h wt (n + 64) false) H64.out);have k72f:=HW2.out.free 72
     go_wp2
     go_meet
     refine ⟨_,0,n + 64,by omega,by omega,jj (takeL_length h wt (n + 64) false),jj ?_,jj HR.out.full,jj ((HF1.out.trans HF2.out).trans (only_put 72 _))⟩;have:=HW2.out.set 72 (.int .i64 ((0 : Nat) : Int));rw [List.setIfInBounds_toArray,stCells_set_f (takeL_length _ _ _ _) H64.out] at this;exact this
    ·have hne : ((f : Int) == 64) = false:=(by simp;omega)
     go_wp2
     go_meet
     exact ⟨h,f,n,by omega,by omega,H8,HG,HR,HF⟩
   case rest =>
    clear c72 c73 f72 f73 HG HR HA HF hf hn1 H8;obtain ⟨h',f',n',hf',hn',H8,HG,HR,HF⟩:=hcut;have c72 : wc.cell? ⟨g,72,none⟩ = some (.int .i64 (f' : Int)):=(by rw [HG.out.cell];simpa using stCells_f H8.out H64.out);have if0 : (0 : Int) ≤ (f' : Int):=(by omega);have if1 : (f' : Int) ≤ 64:=(by omega);have hne64 : ¬ (64 = f'):=(by omega)
    go_wp2
    go_still_tail 9,(by kernel_rfl)
    change wpList _ _ _ _ _ wc.drew;refine wpList_copy_str rfl (.tmp 32) (.tmp 33) 89 9 rfl 5 Tryz.underlying89 (by kernel_rfl) g (8 + f') (64 - f') (64 - f') q rfl rfl (stCells h' wt f' n') t HG.out.draw (by rw [stCells_length H8.out H64.out];omega) ?_;intro w3 H3 F3;have hxl : (q.take (64 - f')).length ≤ 64 - f':=List.length_take_le _ _;have hxp : 0 < (q.take (64 - f')).length:=(by rw [List.length_take];omega);have hxq : (q.take (64 - f')).length ≤ q.length:=(by rw [List.length_take];omega);have HX : Hid (q.take (q.take (64 - f')).length = q.take (64 - f')):=jj (by rw [List.length_take];by_cases hh : 64 - f' ≤ q.length;(rw [Nat.min_eq_left hh]);(rw [Nat.min_eq_right (by omega),List.take_of_length_le (Nat.le_refl _),List.take_of_length_le (by omega)]));have HG3 : Hid (Whole w3 g t (stCells h' (wt.take f' ++ (q.take (64 - f') ++ wt.drop (f' + (q.take (64 - f')).length))) f' n').toArray):=jj (by rw [← stCells_put H8.out H64.out f' _ (by omega)];exact H3.out);have HR3:=jj (HR.out.put (q.take (64 - f')) (by omega));have HF3:=jj (HF.out.trans ((only_draw wc _).trans F3.out));clear H3 F3 HG HR HF c72;generalize q.take (64 - f') = x at *;have H64' : Hid ((wt.take f' ++ (x ++ wt.drop (f' + x.length))).length = 64):=jj HR3.out.w_length;generalize wt.take f' ++ (x ++ wt.drop (f' + x.length)) = wt' at *;have c72 : w3.cell? ⟨g,72,none⟩ = some (.int .i64 (f' : Int)):=(by rw [HG3.out.cell];simpa using stCells_f H8.out H64'.out);have f72:=HG3.out.free 72
    go_wp2
    go_roundw
    case rel =>
     have R : ∃ (j : Nat) (h : List UInt32) (wt : List UInt8) (f n : Nat),j ≤ p.length ∧ S (q.drop x.length) = S (p.drop j) ∧ Hid (Whole (w3.setCell ⟨g,72,none⟩ (.int .i64 ((f' : Int) + (x.length : Int)))) g t (stCells h wt f n).toArray) ∧ Hid (Rep hs (pre ++ p.take j) h wt f n) ∧ Hid (Alive f n) ∧ Hid (w.grownBy (w3.setCell ⟨g,72,none⟩ (.int .i64 ((f' : Int) + (x.length : Int)))) (some g)):=by
      refine ⟨j + x.length,h',wt',f' + x.length,n',?_,?_,jj ?_,jj ?_,jj (fun _ => by omega),jj (HF3.out.trans (only_put 72 _))⟩
      ·have : q.length = p.length - j:=(by rw [← HQ.out,List.length_drop]);omega
      ·rw [← HQ.out,List.drop_drop]
      ·have:=HG3.out.set 72 (.int .i64 ((f' + x.length : Nat) : Int));rw [List.setIfInBounds_toArray,stCells_set_f H8.out H64'.out] at this;rw [show ((f' : Int) + (x.length : Int)) = ((f' + x.length : Nat) : Int) by omega];exact this
      ·have hx2 : p.take (j + x.length) = p.take j ++ x:=(by rw [List.take_add,HQ.out,HX.out]);rw [hx2,← List.append_assoc];exact HR3.out
     rw [str_drop]
     first | exact R | ((repeat apply Exists.intro);exact ⟨R,rfl⟩)
    case measure => rw [str_drop,strLen_S,strLen_S,List.length_drop];omega
  ·have hz : p.drop j = []:=List.drop_of_length_le (by omega);rw [hz]
   go_wp2
   go_end0
   have hp : p.take j = p:=List.take_of_length_le (by omega);rw [hp] at HR;exact ⟨rfl,⟨h,wt,f,n,HG.out,HR.out,HA.out⟩,HF.out⟩
end Go.Proofs.YtdkhnjjihbmlmaaGreatDoor
namespace Go.Proofs.YtdkhnjjihbmlmaaGreatDoor
open Go.RowKit
theorem only_new (w : World) (o : Obj) (row : Option Nat) : w.grownBy (w.alloc o) row:=⟨rfl,rfl,rfl,by simp,fun i hi _ => Below.heap_alloc w o i hi⟩
theorem grown_two {a w w' w'' : World} {g g1 g2 : Nat} (h : a.grownBy w (some g)) (h1 : w.grownBy w' (some g1)) (h2 : w'.grownBy w'' (some g2)) (_hg : g < a.heap.size) (hg1 : a.heap.size ≤ g1) (hg2 : a.heap.size ≤ g2) : a.grownBy w'' (some g) :=
 ⟨h2.os.trans (h1.os.trans h.os),h2.tape.trans (h1.tape.trans h.tape),h2.output.trans (h1.output.trans h.output),Nat.le_trans h.size (Nat.le_trans h1.size h2.size),fun i hi hne => (h2.block i (Nat.lt_of_lt_of_le hi (Nat.le_trans h.size h1.size)) (by simp;omega)).trans ((h1.block i (Nat.lt_of_lt_of_le hi h.size) (by simp;omega)).trans (h.block i hi hne))⟩
def digTo (D : List UInt8) (k : Nat) : List UInt8:=D.take k ++ List.replicate (32 - k) 0
theorem digTo_set {D : List UInt8} (hD : D.length = 32) {k : Nat} (hk : k < 32) (x : UInt8) (hx : D.getD k 0 = x) : (digTo D k).set k x = digTo D (k + 1):=by
 unfold digTo;have hl : k < D.length:=(by omega);rw [List.set_append,if_neg (by simp;omega),List.take_succ_eq_append_getElem hl,List.append_assoc];congr 1;have e : 32 - k = (32 - (k + 1)) + 1:=(by omega);rw [e,List.replicate_succ,show k - (List.take k D).length = 0 by simp;omega,List.set_cons_zero];have hx' : D[k] = x:=(by rw [← hx];simp [hl]);rw [hx'];rfl
theorem digTo_all {D : List UInt8} (hD : D.length = 32) : digTo D 32 = D:=by simp [digTo,List.take_of_length_le,hD]
theorem flat4_at : ∀ (l : List UInt32) (i j : Nat),i < l.length → j < 4 → (l.flatMap bytes4).getD (4 * i + j) 0 = UInt8.ofNat ((l.getD i 0).toNat / 2 ^ (8 * j))
 | [],i,j,hi,_ => by simp at hi
 | x :: l,0,j,_,hj => by
  rw [List.flatMap_cons,List.getD_eq_getElem?_getD,List.getElem?_append_left (by rw [bytes4_length];omega)];simp [bytes4,hj]
 | x :: l,i + 1,j,hi,hj => by
  have:=flat4_at l i j (by simpa using hi) hj;rw [List.flatMap_cons,List.getD_eq_getElem?_getD,List.getElem?_append_right (by rw [bytes4_length];omega),bytes4_length,show 4 * (i + 1) + j - 4 = 4 * i + j by omega,← List.getD_eq_getElem?_getD,this];simp
theorem byte_of (x : UInt32) (j : Nat) : IntKind.u8.wrap ((x.toNat : Int) / 2 ^ (8 * j)) = ((UInt8.ofNat (x.toNat / 2 ^ (8 * j))).toNat : Int):=by
 rw [IntKind.wrap_u8,UInt8.toNat_ofNat'];have : ((x.toNat : Int) / 2 ^ (8 * j)) = ((x.toNat / 2 ^ (8 * j) : Nat) : Int):=(by rw [Int.natCast_ediv];congr 1);rw [this];rfl
theorem at_U {l : List UInt32} {i : Nat} (h : i < l.length) : (l.map U).toArray[i]? = some (U (l.getD i 0)):=by simp [h]
theorem cell_B {w : World} {g : Nat} {t : TypeId} {v : List UInt8} {a : Nat} (hg : Whole w g t (v.map B8).toArray) (ha : a < v.length) : w.cell? ⟨g,a,none⟩ = some (B8 (v.getD a 0)):=by
 rw [hg.cell];simp [ha]
theorem put_B {w : World} {g : Nat} {t : TypeId} {v : List UInt8} (hg : Whole w g t (v.map B8).toArray) (a : Nat) (x : UInt8) : Whole (w.setCell ⟨g,a,none⟩ (B8 x)) g t ((v.set a x).map B8).toArray:=by
 have h:=hg.set a (B8 x);rw [List.map_set]
 simpa using h
set_option maxRecDepth 100000 in
set_option maxHeartbeats 2000000 in
theorem end_any (w : World) (g : Nat) (t : TypeId) (hs : List UInt32) (pre : List UInt8) (h : List UInt32) (wt : List UInt8) (f n : Nat) (hT : Tabs w) (hg : Whole w g t (stCells h wt f n).toArray) (hg0 : g ≠ 1) (hg1 : g ≠ 2)
  (hh : hs.length = 8) (hr : Rep hs pre h wt f n) (ha : Alive f n) (hl : pre.length ≤ 1099511627776) :
  Calls Tryz.prog 271 #[.pointer (some ⟨g,0,none⟩)] w fun e w' => e = .returned (.agg ((digL hs pre).map B8).toArray) ∧ w.grownBy w' (some g):=by
 have hf:=hr.f_le;have hln:=hr.len;have hn1 : n ≤ 1099511627776:=(by omega);have HLN:=jj hln;have hgl:=hg.lt;clear hln;have H8 : Hid (h.length = 8):=jj (hr.h_length hh);have H64 : Hid (wt.length = 64):=jj hr.w_length;have HS:=jj (hr.end_ ha);have HT:=jj hT;clear hr ha hT hh;have z0:=Whole.made w 309 ((List.replicate 32 (0 : UInt8)).map B8).toArray;have g0:=hg.block (.cells ((List.replicate 32 (0 : UInt8)).map B8).toArray 309);have b0:=(Below.refl w.heap.size w).alloc (Nat.le_refl _) (.cells ((List.replicate 32 (0 : UInt8)).map B8).toArray 309);have HZ:=jj z0;have HG:=jj g0;have HB:=jj b0;clear z0 g0 b0 hg;go_enter Tryz.func271,Tryz.ntmps271
 go_wp2
 change Code.wp _ _ _ _ (w.alloc (.cells ((List.replicate 32 (0 : UInt8)).map B8).toArray 309));generalize w.alloc (.cells ((List.replicate 32 (0 : UInt8)).map B8).toArray 309) = w1 at *;have c72 : w1.cell? ⟨g,72,none⟩ = some (.int .i64 (f : Int)):=(by rw [HG.out.cell];simpa using stCells_f H8.out H64.out);have c73 : w1.cell? ⟨g,73,none⟩ = some (.int .u64 (n : Int)):=(by rw [HG.out.cell];simpa using stCells_n H8.out H64.out);have f73:=HG.out.free 73;have wf : IntKind.u64.wrap (f : Int) = (f : Int):=(by rw [IntKind.wrap_u64];omega);have wn : IntKind.u64.wrap ((n : Int) + (f : Int)) = (n : Int) + (f : Int):=(by rw [IntKind.wrap_u64];omega)
 go_still_tail 12,(by kernel_rfl)
 change wpList _ _ _ _ _ w1.drew;clear wf wn
 go_wp2
 have hg2 : Whole (w1.setCell ⟨g,73,none⟩ (.int .u64 ((n : Int) + (f : Int)))).drew g t (stCells h wt f (n + f)).toArray:=(by have:=(HG.out.set 73 (.int .u64 ((n + f : Nat) : Int))).draw;rw [List.setIfInBounds_toArray,stCells_set_n H8.out H64.out] at this;rw [show ((n : Int) + (f : Int)) = ((n + f : Nat) : Int) by omega];exact this);have hf2 : w1.grownBy (w1.setCell ⟨g,73,none⟩ (.int .u64 ((n : Int) + (f : Int)))).drew (some g):=(only_put 73 _).trans (only_draw _ _);have HG2:=jj hg2;have HF2:=jj hf2;clear hg2 hf2 f73 c72 c73;generalize (w1.setCell ⟨g,73,none⟩ (.int .u64 ((n : Int) + (f : Int)))).drew = w2 at *;have c72 : w2.cell? ⟨g,72,none⟩ = some (.int .i64 (f : Int)):=(by rw [HG2.out.cell];simpa using stCells_f H8.out H64.out);have if0 : (0 : Int) ≤ (f : Int):=(by omega);have if1 : (f : Int) ≤ 64:=(by omega)
 go_still_tail 8,(by kernel_rfl)
 change wpList _ _ _ _ _ w2.drew;clear c72;refine wpList_clear_bytes rfl (.tmp 26) 89 rfl rfl 5 Tryz.underlying89 (fun _ => by kernel_rfl) g (if 64 = f then 8 else 8 + f) (64 - f) (64 - f) ?_ (stCells h wt f (n + f)) t HG2.out.draw ?_ ?_
 ·show Value.slice (some (if 64 = f then _ else _)) _ _ = _;split <;> rfl
 ·rw [stCells_length H8.out H64.out];split <;> omega
 intro w3 H3 F3;have HL64 : Hid ((wt.take f ++ List.replicate (64 - f) 0).length = 64):=jj (by simp [H64.out];omega)
 have HG3 : Hid (Whole w3 g t (stCells h (wt.take f ++ List.replicate (64 - f) 0) f (n + f)).toArray):=jj (by
  have h3:=H3.out;by_cases e : 64 = f
  ·subst e;rw [if_pos rfl] at h3;simp only [Nat.sub_self,List.replicate_zero,List.append_nil,List.nil_append,Nat.add_zero,List.take_append_drop] at h3 ⊢;rw [List.take_of_length_le (by rw [H64.out];omega)];exact h3
  ·rw [if_neg e] at h3;have e2:=stCells_put (f:=f) (n:=n + f) H8.out H64.out f (List.replicate (64 - f) 0) (by simp;omega);rw [List.map_replicate,List.length_replicate] at e2;rw [e2,List.drop_of_length_le (by rw [H64.out];omega),List.append_nil] at h3;exact h3)
 have HF3 : Hid (w1.grownBy w3 (some g)):=jj ((HF2.out.trans (only_draw _ _)).trans F3.out);clear H3 F3 HG2 HF2 HG;have HT3:=jj ((HT.out.below (Nat.le_refl _) HB.out).only HF3.out hg0 hg1);generalize wt.take f ++ List.replicate (64 - f) 0 = wt2 at *;generalize Value.slice (some (if 64 = f then (⟨g,8,none⟩ : Addr) else ⟨g,8 + f,none⟩)) (64 - f) (64 - f) = junk;go_wp2_with fail;refine (take_any _ g t h wt2 f (n + f) true HT3.out HG3.out H8.out HL64.out).mono ?_;rintro e w4 ⟨rfl,hw4,hf4⟩;rw [HS.out] at hw4;have HG4:=jj hw4;have HF4:=jj (HF3.out.trans hf4);have HZ4:=jj (HZ.out.other HF4.out (by simp;omega));have HFw : Hid (w.grownBy w4 (some g)):=jj (grown_of HB.out HF4.out hgl);clear hw4 hf4 HG3 HF3 HT3 HZ HF4 HB;have hg4:=HG4.out.block (.cells ((List.replicate 32 (0 : UInt8)).map B8).toArray 309);have hz4:=HZ4.out.block (.cells ((List.replicate 32 (0 : UInt8)).map B8).toArray 309);have hd4:=Whole.made w4 309 ((List.replicate 32 (0 : UInt8)).map B8).toArray;have hf5:=HFw.out.trans (only_new w4 (.cells ((List.replicate 32 (0 : UInt8)).map B8).toArray 309) (some g));have hzl:=HZ4.out.lt;have hgl4:=HG4.out.lt;have HG5:=jj hg4;have HZ5:=jj hz4;have HD5:=jj hd4;have HF5:=jj hf5;clear hg4 hz4 hd4 hf5 HG4 HZ4 HFw
 have hch : ∀ j v,((sumL hs pre).map U)[j]? = some v → (w4.alloc (.cells ((List.replicate 32 (0 : UInt8)).map B8).toArray 309)).cell? ((⟨g,0,none⟩ : Addr).add j) = some v:=by
  intro j v hj
  have hjl : j < 8:=by
   have:=(List.getElem?_eq_some_iff.1 hj).1
   simpa [sumL_length] using this
  have ha : (⟨g,0,none⟩ : Addr).add j = ⟨g,j,none⟩:=(by unfold Addr.add;split <;> simp_all);rw [ha,HG5.out.cell,← hj];have:=stCells_h (wt:=wt2) (f:=f) (n:=n + f) (sumL_length hs pre) hjl;simp [this,sumL_length,hjl]
 have HCH:=jj hch;clear hch;go_wp2_with (refine wpList_load_at rfl 321 (.tmp 31) rfl ⟨g,0,none⟩ rfl ((sumL hs pre).map U) _ HCH.out Tryz.underlying321 rfl ?hsz ?_)
 case hsz => rw [List.length_map,sumL_length];kernel_rfl
 clear HCH HG5;change Code.wp _ _ _ _ (w4.alloc (.cells ((List.replicate 32 (0 : UInt8)).map B8).toArray 309));generalize w4.alloc (.cells ((List.replicate 32 (0 : UInt8)).map B8).toArray 309) = w5 at *;generalize w4.heap.size = gd at *;clear w4;obtain ⟨hh,HHs⟩ : ∃ z,Hid (sumL hs pre = z):=⟨_,jj rfl⟩;have H8s : Hid (hh.length = 8):=jj (by rw [← HHs.out];exact sumL_length hs pre);have HDD : Hid (digL hs pre = hh.flatMap bytes4):=jj (by unfold digL;rw [HHs.out]);have HDL : Hid ((digL hs pre).length = 32):=jj (digL_length hs pre);rw [HHs.out];obtain ⟨D,HDn⟩ : ∃ z,Hid (digL hs pre = z):=⟨_,jj rfl⟩;rw [HDn.out] at HDD HDL;obtain ⟨av,HAV⟩ : ∃ z,Hid (Value.agg (hh.map U).toArray = z):=⟨_,jj rfl⟩;rw [HAV.out]
 go_loopw [33] (fun s wr => ∃ i : Nat,i ≤ 8 ∧ s = .int .i64 i ∧ Hid (Whole wr gd 309 ((digTo D (4 * i)).map B8).toArray) ∧ Hid (w5.grownBy wr (some gd))) (fun s _ => 8 - (intOf s).toNat)
 case atStart => exact ⟨0,by omega,rfl,by simpa [digTo] using HD5,jj (World.grownBy.refl _ _)⟩
 case round =>
  obtain ⟨i,hi,rfl,HDr,HFr⟩:=hrel;by_cases hlt : i < 8
  ·have hix : ∀ W : World,(Instr.index 321 av (.int .i64 (i : Int))).run Tryz.prog W = .ok (U (hh.getD i 0)) W:=fun W => by
    rw [← HAV.out];exact run_index_ints W 321 36 8 _ .i64 .u32 i _ Tryz.underlying321 Tryz.underlying36 (by kernel_rfl) hlt (at_U (by rw [H8s.out];exact hlt))
   obtain ⟨x,HX⟩ : ∃ z,Hid (hh.getD i 0 = z):=⟨_,jj rfl⟩;rw [HX.out] at hix
   go_wp2
   clear hix;obtain ⟨wi,HWI⟩ : ∃ z,Hid (wr = z):=⟨_,jj rfl⟩;rw [HWI.out] at HDr HFr;rw [HWI.out];clear HWI wr
   go_loopw [37] (fun s wr => ∃ j : Nat,j ≤ 4 ∧ s = .int .i64 j ∧ Hid (Whole wr gd 309 ((digTo D (4 * i + j)).map B8).toArray) ∧ Hid (w5.grownBy wr (some gd))) (fun s _ => 4 - (intOf s).toNat)
   case atStart => exact ⟨0,by omega,rfl,HDr,HFr⟩
   case round =>
    obtain ⟨j,hj,rfl,HDj,HFj⟩:=hrel;by_cases hjl : j < 4
    ·have cd:=cell_B HDj.out (a:=4 * i + j) (by simp [digTo,HDL.out];omega);have fd:=HDj.out.free (4 * i + j);have s8 : (8 * (j : Int)).toNat = 8 * j:=(by omega);have m8 : min (8 * j) 32 = 8 * j:=(by omega);have t4 : (4 * (i : Int) + (j : Int)).toNat = 4 * i + j:=(by omega)
     go_wp2
     have hx : D.getD (4 * i + j) 0 = UInt8.ofNat (x.toNat / 2 ^ (8 * j)):=(by rw [HDD.out,flat4_at hh i j (by rw [H8s.out];exact hlt) hjl,HX.out]);have hv : ((x.toNat : Int) / 2 ^ (8 * j) % 256) = ((UInt8.ofNat (x.toNat / 2 ^ (8 * j))).toNat : Int):=(by rw [← byte_of,IntKind.wrap_u8]);rw [hv];refine ⟨⟨j + 1,by omega,by go_num,jj ?_,jj (HFj.out.trans (only_put _ _))⟩,by simp [intOf];omega⟩;have:=put_B HDj.out (4 * i + j) (UInt8.ofNat (x.toNat / 2 ^ (8 * j)));rw [digTo_set HDL.out (by omega) _ hx] at this;exact this
    ·have hd4 : decide ((j : Int) < 4) = false:=(by simp;omega);obtain rfl : j = 4:=(by omega)
     go_wp2
     go_roundw
     case rel =>
      have R : ∃ i' : Nat,i' ≤ 8 ∧ Value.int .i64 ((i : Int) + 1) = .int .i64 i' ∧ Hid (Whole wr gd 309 ((digTo D (4 * i')).map B8).toArray) ∧ Hid (w5.grownBy wr (some gd)):=⟨i + 1,by omega,by go_num,HDj,HFj⟩
      first | exact R | ((repeat apply Exists.intro);exact ⟨R,rfl⟩)
     case measure => simp [intOf];omega
  ·have hd8 : decide ((i : Int) < 8) = false:=(by simp;omega);obtain rfl : i = 8:=(by omega);have HD8 : Hid (Whole wr gd 309 (D.map B8).toArray):=jj (by have:=HDr.out;rwa [digTo_all HDL.out] at this);have HZ8 : Hid (Whole wr w.heap.size 309 ((List.replicate 32 (0 : UInt8)).map B8).toArray):=jj (HZ5.out.other HFr.out (by simp;omega));have hDi : (Tryz.prog.info? 309).map (·.size) = some (D.map B8).toArray.size:=(by rw [List.size_toArray,List.length_map,HDL.out];kernel_rfl);have hDl : (Tryz.prog.info? 309).map (·.size) = some (D.map B8).length:=(by rw [List.length_map,HDL.out];kernel_rfl);have HC1 : Hid (0 + (D.map B8).length ≤ ((List.replicate 32 (0 : UInt8)).map B8).length):=jj (by rw [List.length_map,List.length_map,HDL.out];decide);have HDi:=jj hDi;have HDl:=jj hDl;clear hDi hDl HDr
   go_wp2_with (first
    | (refine wpList_load_row rfl 309 (.tmp 3) rfl gd rfl 309 (D.map B8).toArray (0,0) _ HD8.out Tryz.underlying309 rfl HDi.out ?_)
    | (refine wpList_store_at rfl 309 (.tmp 2) (.tmp 52) rfl rfl w.heap.size 0 rfl (D.map B8) rfl HDl.out ((List.replicate 32 (0 : UInt8)).map B8) 309 HZ8.out HC1.out (B8_one _) ?_
       intro w6 H6 F6))
   have h6 : Whole w6 w.heap.size 309 (D.map B8).toArray:=by
    have:=H6.out;rw [List.length_map,HDL.out] at this
    simpa using this
   rw [HDn.out];refine bodyPost_ret (v:=.agg (D.map B8).toArray) (results_cell_row rfl _ _ w.heap.size 309 _ (0,0) _ rfl h6 Tryz.underlying309 rfl HDi.out) rfl ⟨rfl,?_⟩;exact grown_two HF5.out HFr.out F6.out hgl (by omega) (Nat.le_refl _)
end Go.Proofs.YtdkhnjjihbmlmaaGreatDoor
namespace Go.Proofs.YtdkhnjjihbmlmaaGreatDoor
open Go.RowKit
def dig (s : List UInt8) : List UInt8:=digL h0 s
theorem dig_length (s : List UInt8) : (dig s).length = 32:=digL_length _ _
abbrev D32 (d : List UInt8) : Value:=.agg (d.map B8).toArray
theorem flat_le (ls : List (List UInt8)) (k : Nat) : (ls.take k).flatten.length ≤ ls.flatten.length:=by
 conv => rhs;rw [← List.take_append_drop k ls]
 simp only [List.flatten_append,List.length_append];omega
theorem flat_snoc (ls : List (List UInt8)) (k : Nat) (h : k < ls.length) : (ls.take (k + 1)).flatten = (ls.take k).flatten ++ ls.getD k []:=by
 rw [List.take_succ_eq_append_getElem h,List.flatten_append];simp [h]
set_option maxRecDepth 100000 in
set_option maxHeartbeats 2000000 in
theorem sum_any (w : World) (A : Option Addr) (c : Nat) (ls : List (List UInt8)) (hT : Tabs w) (hA : Strs w w.heap.size A ls) (hn : ls.length ≤ 1099511627776) (hl : ls.flatten.length ≤ 1099511627776) :
  Calls Tryz.prog 250 #[.slice A ls.length c] w fun e w' => e = .returned (D32 (dig ls.flatten)) ∧ Below w.heap.size w w':=by
 have HT:=jj hT;have HA:=jj hA;have hlt0:=hT.lt0;have hlt1:=hT.lt1;have z0:=Whole.made w 309 ((List.replicate 32 (0 : UInt8)).map B8).toArray;have b0:=(Below.refl w.heap.size w).alloc (Nat.le_refl _) (.cells ((List.replicate 32 (0 : UInt8)).map B8).toArray 309);have HZ:=jj z0;have HB:=jj b0;clear z0 b0 hT hA;go_enter Tryz.func250,Tryz.ntmps250;go_wp2_with fail;change Calls _ _ _ (w.alloc (.cells ((List.replicate 32 (0 : UInt8)).map B8).toArray 309)) _;generalize w.alloc (.cells ((List.replicate 32 (0 : UInt8)).map B8).toArray 309) = w1 at *;refine (begin_any w1 (HT.out.below (Nat.le_refl _) HB.out)).mono ?_;rintro e w2 ⟨rfl,hb2⟩;have hzl:=HZ.out.lt;have HZ2:=jj (HZ.out.below hb2 hzl);have HB2 : Hid (Below w.heap.size w w2):=jj (HB.out.trans (hb2.mono (Nat.le_of_lt hzl)));have hs2:=hb2.size;clear hb2 HZ HB
 have zs : Whole (w2.alloc (.cells Tryz.zeroCells324 324)) w2.heap.size 324 Tryz.zeroCells324.toList.toArray:=by
  have:=Whole.made w2 324 Tryz.zeroCells324
  simpa using this
 have HS:=jj zs;clear zs;go_wp2_with (refine wpList_store_at rfl 324 (.tmp 3) (.tmp 6) rfl rfl w2.heap.size 0 rfl (stCells h0 (List.replicate 64 0) 0 0) rfl (by kernel_rfl) _ 324 HS.out (by decide) (by decide) ?_;intro w3 H3 F3);have HG3 : Hid (Whole w3 w2.heap.size 324 (stCells h0 (List.replicate 64 0) 0 0).toArray):=jj (by have h3:=H3.out;rw [show (Tryz.zeroCells324.toList.take 0 ++ (stCells h0 (List.replicate 64 0) 0 0 ++ Tryz.zeroCells324.toList.drop (0 + (stCells h0 (List.replicate 64 0) 0 0).length))) = stCells h0 (List.replicate 64 0) 0 0 from by kernel_rfl] at h3;exact h3);have HF3 : Hid (w2.grownBy w3 (some w2.heap.size)):=jj ((only_new w2 _ _).trans F3.out);have HB3 : Hid (Below w.heap.size w w3):=jj (below_grown HB2.out HF3.out (by omega) (by omega));have HZ3:=jj (HZ2.out.other HF3.out (by simp;omega));generalize w2.heap.size = g at *;clear HS H3 F3 HF3 HB2 HZ2;have hgl : w.heap.size < g:=(by omega);generalize Value.agg _ = jk
 go_loopw [9] (fun s wr => ∃ (k : Nat) (h : List UInt32) (wt : List UInt8) (f n : Nat),k ≤ ls.length ∧ s = .int .i64 k ∧ Hid (Whole wr g 324 (stCells h wt f n).toArray) ∧ Hid (Rep h0 (ls.take k).flatten h wt f n) ∧ Hid (Alive f n) ∧ Hid (w3.grownBy wr (some g))) (fun s _ => ls.length - (intOf s).toNat)
 case atStart => exact ⟨0,h0,List.replicate 64 0,0,0,by omega,rfl,HG3,jj (Rep.empty h0 _ (by simp)),jj (fun h => h),jj (World.grownBy.refl _ _)⟩
 case round =>
  obtain ⟨k,h,wt,f,n,hk,rfl,HGr,HRr,HAr,HFr⟩:=hrel;have HBr : Hid (Below w.heap.size w wr):=jj (below_grown HB3.out HFr.out HB3.out.size (by omega));have HTr:=jj (HT.out.below (Nat.le_refl _) HBr.out);by_cases hlt : k < ls.length
  ·obtain ⟨ad,rfl,had,hc⟩:=HA.out.at' hlt;have hcr : wr.cell? (ad.add k) = some (S (ls.getD k [])):=(HBr.out.cell (by unfold Addr.add;split <;> exact had)).trans hc;clear hc;have hlen:=flat_le ls (k + 1);rw [flat_snoc ls k hlt,List.length_append] at hlen;have HSN:=jj (flat_snoc ls k hlt);generalize ls.getD k [] = p at *;go_wp2_with fail;refine (add_any wr g 324 h0 (ls.take k).flatten p h wt f n HTr.out HGr.out (by omega) (by omega) h0_length HRr.out HAr.out (by omega)).mono ?_;rintro e w4 ⟨rfl,⟨h',wt',f',n',hw4,hr4,ha4⟩,hf4⟩;have HG4:=jj hw4;have HR4:=jj hr4;have HA4:=jj ha4;have HF4:=jj (HFr.out.trans hf4);clear hw4 hr4 ha4 hf4
   go_wp2
   go_roundw
   case rel => exact ⟨k + 1,h',wt',f',n',by omega,by go_num,HG4,by rw [HSN.out];exact HR4,HA4,HF4⟩
   case measure => simp [intOf];omega
  ·have hd : decide ((k : Int) < (ls.length : Int)) = false:=(by simp;omega);have hd' : decide (k < ls.length) = false:=(by simp;omega);have hall : ls.take k = ls:=List.take_of_length_le (by omega);rw [hall] at HRr;clear hall;go_wp2_with fail;refine (end_any wr g 324 h0 ls.flatten h wt f n HTr.out HGr.out (by omega) (by omega) h0_length HRr.out HAr.out hl).mono ?_;rintro e w5 ⟨rfl,hf5⟩;have HZr:=HZ3.out.other HFr.out (by simp;omega);have HZ5:=jj (HZr.other hf5 (by simp;omega));have HB5 : Hid (Below w.heap.size w w5):=jj (below_grown HBr.out hf5 HBr.out.size (by omega));clear hf5 HZr;have HDL:=jj (dig_length ls.flatten);change Hid ((dig ls.flatten).length = 32) at HDL;generalize hD : digL h0 ls.flatten = D at *;have HDD : Hid (dig ls.flatten = D):=jj hD;rw [HDD.out] at HDL;clear hD;have HDi : Hid ((Tryz.prog.info? 309).map (·.size) = some (D.map B8).toArray.size):=jj (by rw [List.size_toArray,List.length_map,HDL.out];kernel_rfl);have HDl : Hid ((Tryz.prog.info? 309).map (·.size) = some (D.map B8).length):=jj (by rw [List.length_map,HDL.out];kernel_rfl);have HC1 : Hid (0 + (D.map B8).length ≤ ((List.replicate 32 (0 : UInt8)).map B8).length):=jj (by rw [List.length_map,List.length_map,HDL.out];decide);go_wp2_with (refine wpList_store_at rfl 309 (.tmp 2) (.tmp 16) rfl rfl w.heap.size 0 rfl (D.map B8) rfl HDl.out ((List.replicate 32 (0 : UInt8)).map B8) 309 HZ5.out HC1.out (B8_one _) ?_;intro w6 H6 F6)
   have h6 : Whole w6 w.heap.size 309 (D.map B8).toArray:=by
    have:=H6.out;rw [List.length_map,HDL.out] at this
    simpa using this
   rw [HDD.out];exact bodyPost_ret (v:=.agg (D.map B8).toArray) (results_cell_row rfl _ _ w.heap.size 309 _ (0,0) _ rfl h6 Tryz.underlying309 rfl HDi.out) rfl ⟨rfl,below_grown HB5.out F6.out HB5.out.size (Nat.le_refl _)⟩
end Go.Proofs.YtdkhnjjihbmlmaaGreatDoor
