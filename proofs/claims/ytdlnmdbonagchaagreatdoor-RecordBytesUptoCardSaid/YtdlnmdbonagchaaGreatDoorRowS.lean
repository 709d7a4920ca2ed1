import Derived.Shelf.Strings.Builder1
import Derived.Test.YtdlnmdbonagchaaGreatDoorRowL
import Derived.Test.YtdlnmdbonagchaaGreatDoorShelfB
namespace Go.Proofs
open Go.Shelf
def Tryz.lays167_ren : Go.Shelf.Ren:=⟨fun | 167 => 51 | 240 => 83 | 276 => 108 | n => n,fun | 0 => 0 | 4 => 4 | 5 => 5 | 9 => 9 | 20 => 20 | 37 => 57 | 70 => 96 | 72 => 98 | 75 => 101 | 164 => 177 | 80 => 106 | n => n,fun | n => n⟩
theorem Tryz.lays167 : Go.Proofs.Lays.n167 Tryz.prog Tryz.lays167_ren:={
 mixed:=by kernel_rfl
 f167:=Tryz.func51.trans (congrArg some (by kernel_rfl))
 f240:=Tryz.func83.trans (congrArg some (by kernel_rfl))
 f276:=Tryz.func108.trans (congrArg some (by kernel_rfl))
 t0:=Tryz.underlying0
 a0:=Tryz.isAgg0
 z0:=Tryz.sizeOf0
 v0:=Tryz.zeroValue0
 t4:=Tryz.underlying4
 a4:=Tryz.isAgg4
 z4:=Tryz.sizeOf4
 v4:=Tryz.zeroValue4
 t5:=Tryz.underlying5
 a5:=Tryz.isAgg5
 z5:=Tryz.sizeOf5
 v5:=Tryz.zeroValue5
 t9:=Tryz.underlying9
 a9:=Tryz.isAgg9
 z9:=Tryz.sizeOf9
 v9:=Tryz.zeroValue9
 t20:=Tryz.underlying20
 a20:=Tryz.isAgg20
 z20:=Tryz.sizeOf20
 v20:=Tryz.zeroValue20
 t37:=Tryz.underlying57
 a37:=Tryz.isAgg57
 z37:=Tryz.sizeOf57
 v37:=Tryz.zeroValue57
 t70:=Tryz.underlying96
 a70:=Tryz.isAgg96
 z70:=Tryz.sizeOf96
 v70:=Tryz.zeroValue96
 t72:=Tryz.underlying98
 a72:=Tryz.isAgg98
 z72:=Tryz.sizeOf98
 v72:=Tryz.zeroValue98
 t75:=Tryz.underlying101
 a75:=Tryz.isAgg101
 z75:=Tryz.sizeOf101
 v75:=Tryz.zeroValue101
 t164:=Tryz.underlying177
 a164:=Tryz.isAgg177
 z164:=Tryz.sizeOf177
 v164:=Tryz.zeroValue177 }
theorem Tryz.Builder_Extra_167 : Builder.Extra Tryz.prog Tryz.lays167_ren:={
 sizeBuilder:=by kernel_rfl
 liesBuilder:=by kernel_rfl
 t5:=Tryz.underlying5
 a5:=Tryz.isAgg5
 z5:=Tryz.sizeOf5
 v5:=Tryz.zeroValue5
 infoByte:=by kernel_rfl
 cellsByte:=by kernel_rfl
 sizeByte:=by kernel_rfl
 neB5:=by decide }
def Tryz.lays166_ren : Go.Shelf.Ren:=⟨fun | 166 => 52 | 240 => 83 | 276 => 108 | n => n,fun | 0 => 0 | 3 => 3 | 4 => 4 | 9 => 9 | 20 => 20 | 37 => 57 | 70 => 96 | 72 => 98 | 75 => 101 | 164 => 177 | 80 => 106 | n => n,fun | n => n⟩
theorem Tryz.lays166 : Go.Proofs.Lays.n166 Tryz.prog Tryz.lays166_ren:={
 mixed:=by kernel_rfl
 f166:=Tryz.func52.trans (congrArg some (by kernel_rfl))
 f240:=Tryz.func83.trans (congrArg some (by kernel_rfl))
 f276:=Tryz.func108.trans (congrArg some (by kernel_rfl))
 t0:=Tryz.underlying0
 a0:=Tryz.isAgg0
 z0:=Tryz.sizeOf0
 v0:=Tryz.zeroValue0
 t3:=Tryz.underlying3
 a3:=Tryz.isAgg3
 z3:=Tryz.sizeOf3
 v3:=Tryz.zeroValue3
 t4:=Tryz.underlying4
 a4:=Tryz.isAgg4
 z4:=Tryz.sizeOf4
 v4:=Tryz.zeroValue4
 t9:=Tryz.underlying9
 a9:=Tryz.isAgg9
 z9:=Tryz.sizeOf9
 v9:=Tryz.zeroValue9
 t20:=Tryz.underlying20
 a20:=Tryz.isAgg20
 z20:=Tryz.sizeOf20
 v20:=Tryz.zeroValue20
 t37:=Tryz.underlying57
 a37:=Tryz.isAgg57
 z37:=Tryz.sizeOf57
 v37:=Tryz.zeroValue57
 t70:=Tryz.underlying96
 a70:=Tryz.isAgg96
 z70:=Tryz.sizeOf96
 v70:=Tryz.zeroValue96
 t72:=Tryz.underlying98
 a72:=Tryz.isAgg98
 z72:=Tryz.sizeOf98
 v72:=Tryz.zeroValue98
 t75:=Tryz.underlying101
 a75:=Tryz.isAgg101
 z75:=Tryz.sizeOf101
 v75:=Tryz.zeroValue101
 t164:=Tryz.underlying177
 a164:=Tryz.isAgg177
 z164:=Tryz.sizeOf177
 v164:=Tryz.zeroValue177 }
theorem Tryz.Builder_Extra_166 : Builder.Extra Tryz.prog Tryz.lays166_ren:={
 sizeBuilder:=by kernel_rfl
 liesBuilder:=by kernel_rfl
 t5:=Tryz.underlying5
 a5:=Tryz.isAgg5
 z5:=Tryz.sizeOf5
 v5:=Tryz.zeroValue5
 infoByte:=by kernel_rfl
 cellsByte:=by kernel_rfl
 sizeByte:=by kernel_rfl
 neB5:=by decide }
open Go.RowKit in
theorem Tryz.Builder_WriteByte (B b : Nat) (bs : List Value) (c : Int) (w : World) (h : Lib.IsBuilder 98 5 B b bs w) (hl : bs.length + 1 ≤ 140737488355328) (hB : B ≤ w.heap.size) :
  Calls Tryz.prog 51 #[.pointer (some ⟨b,0,none⟩),.int .u8 c] w fun e w' => e = .returned .nilIface ∧ Lib.BuilderAt 98 5 B b (.pointer (some ⟨b,0,none⟩)) (bs ++ [.int .u8 c]) w' ∧ Below B w w' :=
 Any.Builder_WriteByte Tryz.lays167 Tryz.Builder_Extra_167 B b bs c w h hl hB
open Go.RowKit in
theorem Tryz.Builder_WriteString (B b : Nat) (bs : List Value) (s : ByteArray) (w : World) (h : Lib.IsBuilder 98 5 B b bs w) (hl : bs.length + s.size ≤ 140737488355328) (hB : B ≤ w.heap.size) :
  Calls Tryz.prog 52 #[.pointer (some ⟨b,0,none⟩),.string s] w fun e w' => e = .returned (.tuple #[.int .i64 s.size,.nilIface]) ∧ Lib.BuilderAt 98 5 B b (.pointer (some ⟨b,0,none⟩)) (bs ++ Lib.strCells s) w' ∧ Below B w w' :=
 Any.Builder_WriteString Tryz.lays166 Tryz.Builder_Extra_166 B b bs s w h hl hB
end Go.Proofs
namespace Go.Proofs.YtdlnmdbonagchaaGreatDoor
open Go.RowKit
theorem or128' (m : Nat) : bits .or .u8 ((m : Int) % 128) 128 = ((UInt8.ofNat (m % 128 + 128)).toNat : Int):=by
 rw [← or128,IntKind.wrap_u8];congr 1;omega
theorem str_size (x : List UInt8) : (⟨x.toArray⟩ : ByteArray).size = x.length:=by simp [ByteArray.size]
set_option maxRecDepth 100000 in
set_option maxHeartbeats 2000000 in
theorem row_any (w : World) (A : Option Addr) (c : Nat) (ls : List (List UInt8)) (hA : Strs w w.heap.size A ls) (hs : sizeOf ls ≤ 34359738368) :
  Calls Tryz.prog 15 #[.slice A ls.length c] w fun e w' => e = .returned (S (rowB ls)) ∧ Below w.heap.size w w':=by
 have HA:=jj hA;clear hA;have hn : ls.length ≤ 34359738368:=(by have:=length_le_sizeOf ls;omega);go_enter Tryz.func15,Tryz.ntmps15
 go_wp2
 go_loop [3,12] (fun s i => ∃ k : Nat,k ≤ ls.length ∧ i = .int .i64 k ∧ s = .int .i64 (sizeOf (ls.take k))) (fun _ i => ls.length - (intOf i).toNat)
 case atStart => exact ⟨0,Nat.zero_le _,rfl,rfl⟩
 case round =>
  obtain ⟨k,hk,rfl,rfl⟩:=hrel;by_cases hlt : k < ls.length
  ·obtain ⟨ad,rfl,_,hc⟩:=HA.out.at' hlt;have hg:=getD_le ls k hlt;have ht:=sizeOf_take_le ls k;have HS:=jj (sizeOf_snoc ls k hlt);generalize ls.getD k [] = x at *
   go_wp2
   go_round
   case rel => exact ⟨k + 1,by omega,by go_num,by rw [HS.out];go_num⟩
   case measure => simp [intOf];omega
  ·have hd : decide (k < ls.length) = false:=(by simp;omega);have hall : ls.take k = ls:=List.take_of_length_le (by omega);rw [hall];clear hall;have hb0 : (w.alloc (.cells #[.pointer none,.slice none 0 0] 98)).heap[w.heap.size]? = some (.cells #[.pointer none,.slice none 0 0] 98 (0,0)):=heap_alloc_new w _;have HB0:=jj hb0;clear hb0;go_wp2_with fail;refine (Tryz.Builder_Grow_fresh w.heap.size w.heap.size (sizeOf ls) _ (Nat.le_refl _) HB0.out (by simp) (by omega)).mono ?_;rintro e w1 ⟨rfl,hb1,hbl1⟩;have HB1:=jj hb1;have HL1 : Hid (Below w.heap.size w w1):=jj (((Below.refl w.heap.size w).alloc (Nat.le_refl _) _).trans hbl1);clear hb1 hbl1 HB0
   go_wp2
   generalize hgb : w.heap.size = B at *;clear hd hlt hk
   go_loopw [26] (fun i wr => ∃ k : Nat,k ≤ ls.length ∧ i = .int .i64 k ∧ Hid (Lib.BuilderAt 98 5 B B (.pointer (some ⟨B,0,none⟩)) ((rowB (ls.take k)).map B8) wr) ∧ Hid (Below B w wr)) (fun i _ => ls.length - (intOf i).toNat)
   case atStart => exact ⟨0,by omega,rfl,HB1,HL1⟩
   case round =>
    obtain ⟨k,hk,rfl,HBk,HLk⟩:=hrel;by_cases hlt : k < ls.length
    ·obtain ⟨ad,rfl,had,hc⟩:=HA.out.at' hlt;have hcr : wr.cell? (ad.add k) = some (S (ls.getD k [])):=(HLk.out.cell (by unfold Addr.add;split <;> exact had)).trans hc;clear hc;have hg:=getD_le ls k hlt;have ht : (rowB (ls.take (k + 1))).length ≤ 2 * sizeOf ls:=(by have h1:=rowB_le (ls.take (k + 1)) (Nat.le_trans (sizeOf_take_le ls (k + 1)) hs);have h2:=sizeOf_take_le ls (k + 1);omega);rw [rowB_snoc ls k hlt,List.length_append,List.length_append] at ht;have HS:=jj (rowB_snoc ls k hlt);generalize ls.getD k [] = x at *;obtain ⟨pre,HP⟩ : ∃ z,Hid (rowB (ls.take k) = z):=⟨_,jj rfl⟩;rw [HP.out] at HBk HS ht
     go_wp2
     obtain ⟨wi,HWI⟩ : ∃ z,Hid (wr = z):=⟨_,jj rfl⟩;rw [HWI.out] at HBk HLk hcr;rw [HWI.out];clear HWI wr
     go_loopw [9] (fun s wr => ∃ (m : Nat) (done : List UInt8),m ≤ x.length ∧ s = .int .i64 m ∧ Hid (done ++ lenB m = lenB x.length) ∧ Hid (Lib.BuilderAt 98 5 B B (.pointer (some ⟨B,0,none⟩)) ((pre ++ done).map B8) wr) ∧ Hid (Below B w wr)) (fun s _ => (intOf s).toNat)
     case atStart => exact ⟨x.length,[],Nat.le_refl _,rfl,jj rfl,by simpa using HBk,HLk⟩
     case round =>
      clear HBk HLk hcr;obtain ⟨m,done,hm,rfl,HD,HBm,HLm⟩:=hrel;have hbs : B ≤ wr.heap.size:=(by have:=HLm.out.size;omega);have hdl : done.length + (lenB m).length = (lenB x.length).length:=(by rw [← HD.out,List.length_append]);by_cases hbig : 128 ≤ m
      ·have e1 : bits .and .i64 (m : Int) 127 = ((m % 128 : Nat) : Int):=and127 m (by omega);have hbig' : ¬ m < 128:=(by omega);rw [lenB_big hbig'] at HD;rw [lenB_big hbig',List.length_cons] at hdl;go_wp2_with fail;refine (Tryz.Builder_WriteByte B B ((pre ++ done).map B8) _ _ (Or.inr HBm.out) (by rw [List.length_map,List.length_append];omega) hbs).mono ?_;rintro e w2 ⟨rfl,hb2,hbl2⟩;have HB2 : Hid (Lib.BuilderAt 98 5 B B (.pointer (some ⟨B,0,none⟩)) ((pre ++ (done ++ [UInt8.ofNat (m % 128 + 128)])).map B8) w2):=jj (by rw [or128'] at hb2;rw [← List.append_assoc,List.map_append (l₁:=pre ++ done)];exact hb2);have HL2:=jj (HLm.out.trans hbl2);clear hb2 hbl2
       go_wp2
       go_roundw
       case rel => exact ⟨m / 128,done ++ [UInt8.ofNat (m % 128 + 128)],by omega,by go_num,by simpa using HD,HB2,HL2⟩
       case measure => simp [intOf];omega
      ·have hsm : m < 128:=(by omega);rw [lenB_small hsm] at HD;rw [lenB_small hsm] at hdl;simp only [List.length_cons,List.length_nil] at hdl;have hge : decide (128 ≤ (m : Int)) = false:=(by simp;omega);have e1 : IntKind.u8.wrap (m : Int) = ((UInt8.ofNat m).toNat : Int):=byte_small hsm;have e2 : (m : Int) = ((UInt8.ofNat m).toNat : Int):=(by rw [UInt8.toNat_ofNat'];omega);have E2:=jj e2;clear e2 e1;go_wp2_with fail;refine (Tryz.Builder_WriteByte B B ((pre ++ done).map B8) _ _ (Or.inr HBm.out) (by rw [List.length_map,List.length_append];omega) hbs).mono ?_;rintro e w2 ⟨rfl,hb2,hbl2⟩;have HB2 : Hid (Lib.BuilderAt 98 5 B B (.pointer (some ⟨B,0,none⟩)) ((pre ++ lenB x.length).map B8) w2):=jj (by rw [E2.out] at hb2;rw [← HD.out,← List.append_assoc,List.map_append (l₁:=pre ++ done)];exact hb2);have hbs2 : B ≤ w2.heap.size:=Nat.le_trans hbs hbl2.size;have HL2:=jj (HLm.out.trans hbl2);clear hb2 hbl2;go_wp2_with fail;refine (Tryz.Builder_WriteString B B ((pre ++ lenB x.length).map B8) _ _ (Or.inr HB2.out) (by rw [List.length_map,List.length_append,str_size];omega) hbs2).mono ?_;rintro e w3 ⟨rfl,hb3,hbl3⟩;have HB3 : Hid (Lib.BuilderAt 98 5 B B (.pointer (some ⟨B,0,none⟩)) ((pre ++ lenB x.length ++ x).map B8) w3):=jj (by rw [List.map_append (l₁:=pre ++ lenB x.length)];exact hb3);have HL3:=jj (HL2.out.trans hbl3);clear hb3 hbl3
       go_wp2
       go_roundw
       case rel =>
        have R : ∃ k' : Nat,k' ≤ ls.length ∧ Value.int .i64 ((k : Int) + 1) = .int .i64 k' ∧ Hid (Lib.BuilderAt 98 5 B B (.pointer (some ⟨B,0,none⟩)) ((rowB (ls.take k')).map B8) w3) ∧ Hid (Below B w w3):=⟨k + 1,by omega,by go_num,by rw [HS.out];exact HB3,HL3⟩
        first | exact R | ((repeat apply Exists.intro);exact ⟨R,rfl⟩)
       case measure => simp [intOf];omega
    ·have hd2 : decide (k < ls.length) = false:=(by simp;omega);have hall : ls.take k = ls:=List.take_of_length_le (by omega);rw [hall] at HBk;clear hall;have hbs : B ≤ wr.heap.size:=(by have:=HLk.out.size;omega);go_wp2_with fail;refine (Tryz.Builder_String_any B B (rowB ls) _ (Or.inr HBk.out) hbs).mono ?_;rintro e w2 ⟨rfl,hbl2⟩;have HL2:=jj (HLk.out.trans hbl2);clear hbl2
     go_wp2
     go_ret;exact ⟨rfl,by rw [hgb];exact HL2.out⟩
end Go.Proofs.YtdlnmdbonagchaaGreatDoor
