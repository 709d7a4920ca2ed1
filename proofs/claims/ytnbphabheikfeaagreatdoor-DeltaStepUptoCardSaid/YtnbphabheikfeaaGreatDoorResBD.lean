import Derived.Test.YtnbphabheikfeaaGreatDoorResA
import Derived.Test.YtnbphabheikfeaaGreatDoorChkE
import Derived.Test.YtnbphabheikfeaaGreatDoorSureA
import Derived.Lib.AppendStr
namespace Go.Proofs.YtnbphabheikfeaaGreatDoor
open Go.RowKit
attribute [local go_sem] concat_S
theorem regs_snoc {l : List Int} {k : Nat} {r : Int} (h : l[k]? = some r) : (l.take (k + 1)).flatMap regB = (l.take k).flatMap regB ++ regB r:=by
 rw [List.take_add_one,h,List.flatMap_append];simp
theorem pgs_snoc {l : List Pg} {k : Nat} {r : Pg} (h : l[k]? = some r) : (l.take (k + 1)).flatMap pgB = (l.take k).flatMap pgB ++ pgB r:=by
 rw [List.take_add_one,h,List.flatMap_append];simp
theorem fls_snoc {l : List Fl} {k : Nat} {r : Fl} (h : l[k]? = some r) : (l.take (k + 1)).flatMap flB = (l.take k).flatMap flB ++ flB r:=by
 rw [List.take_add_one,h,List.flatMap_append];simp
theorem u32_nat {r : Int} (h : inU32 r) : ∃ n : Nat,r = (n : Int) ∧ n ≤ 4294967295:=⟨r.toNat,by unfold inU32 at h;omega,by unfold inU32 at h;omega⟩
end Go.Proofs.YtnbphabheikfeaaGreatDoor
namespace Go.Proofs.YtnbphabheikfeaaGreatDoor
open Go.RowKit
theorem pr_lasts {w : World} {g : Nat} {t : TypeId} {p : Pr} (hp : PrOk p) (h : Whole w g t (prCells p).toArray) :
  w.cell? ⟨g,92,none⟩ = some (.bool p.mask) ∧ w.cell? ⟨g,93,none⟩ = some (.int .u32 p.code) ∧ w.cell? ⟨g,94,none⟩ = some (.int .i64 p.why) ∧ w.cell? ⟨g,95,none⟩ = some (.int .u64 p.n) :=
 ⟨h.reads 92 _ (pr_last hp 0),h.reads 93 _ (pr_last hp 1),h.reads 94 _ (pr_last hp 2),h.reads 95 _ (pr_last hp 3)⟩
theorem u64_nat {r : Int} (h : inU64 r) : ∃ n : Nat,r = (n : Int) ∧ n < 18446744073709551616:=⟨r.toNat,by unfold inU64 at h;omega,by unfold inU64 at h;omega⟩
theorem row_made (w : World) (ls : List (List UInt8)) (h : sizeOf ls ≤ 34359738368) :
  Calls Tryz.prog 55 #[.slice (some ⟨w.heap.size,0,none⟩) ls.length ls.length] (w.alloc (.cells (ls.map S).toArray 9)) fun e w' => e = .returned (S (rowB ls)) ∧ Below w.heap.size w w' :=
 (row_any (w.alloc (.cells (ls.map S).toArray 9)) (some ⟨w.heap.size,0,none⟩) ls.length ls (lies_made w 9 (ls.map S) _ (by simp)) h).mono fun e w' hw => ⟨hw.1,((Below.refl w.heap.size w).alloc (Nat.le_refl _) _).trans (hw.2.mono (by simp))⟩
theorem procs_snoc {l : List Pr} {k : Nat} {p : Pr} (h : l[k]? = some p) : (l.take (k + 1)).map procRow = (l.take k).map procRow ++ [procRow p]:=by
 rw [List.take_add_one,h,List.map_append];rfl
end Go.Proofs.YtnbphabheikfeaaGreatDoor
namespace Go.Proofs.YtnbphabheikfeaaGreatDoor
open Go.RowKit
abbrev OwnB (w : World) (base : Nat) (v : Value) (l : List UInt8) : Prop:=w.ownsRow base 5 1 v l.length (l.map B8)
theorem OwnB.none (w : World) (base : Nat) : OwnB w base (.slice Option.none 0 0) []:=World.ownsRow_nil w base _ _
theorem Tryz.sizeRegs : (Tryz.prog.info? 53).map (·.size) = some 16:=by kernel_rfl
theorem Tryz.infoU8 : (Tryz.prog.info? 5).map (fun i => (i.zero,i.size,i.bytes)) = some (some (.int .u8 0),1,1):=by kernel_rfl
theorem info_parts8 {P : Program} {ty : TypeId} {z : Value} {n m : Nat} (h : (P.info? ty).map (fun i => (i.zero,i.size,i.bytes)) = some (some z,n,m)) : ∃ i,P.info? ty = some i ∧ i.zero = some z ∧ i.size = n ∧ i.bytes = m:=by
 cases hq : P.info? ty with
 | none => rw [hq] at h;simp at h
 | some i => rw [hq] at h;simp at h;exact ⟨i,rfl,h.1,h.2.1,h.2.2⟩
theorem own_conv {w : World} {base : Nat} {v : Value} {l : List UInt8} (h : OwnB w base v l) (hl : l ≠ []) : ∃ ad c,v = .slice (some ad) l.length c ∧ ∀ W,Below w.heap.size w W → (convert 160 9 (.slice (some ad) l.length c)).run Tryz.prog W = .ok (S l) W:=by
 obtain ⟨A,c,rfl,hlies,_⟩:=own_shape h (by omega);cases A with
 | none =>
  cases l with
  | nil => exact absurd rfl hl
  | cons x l => obtain ⟨ad,e,_⟩:=hlies 0 _ rfl;cases e
 | some ad => refine ⟨ad,c,rfl,fun W hW => run_convert_bytes_back W 160 9 5 ad c l Tryz.underlying160 Tryz.underlying5 Tryz.underlying9 fun j hj => ?_⟩;obtain ⟨ad',e,hb,hc⟩:=hlies j (B8 l[j]) (by simp [hj]);injection e with e;subst e;exact (hW.cell (by rw [add_block];exact hb)).trans hc
theorem ownB_app {w : World} {base : Nat} {v : Value} {l l2 : List UInt8} {n : Nat} {xs : List Value} (h : w.ownsRow base 5 1 v n xs) (hn : n = l.length + l2.length) (hx : xs = l.map B8 ++ l2.map B8) : OwnB w base v (l ++ l2):=by
 subst hn hx;show w.ownsRow base _ 1 v (l ++ l2).length ((l ++ l2).map B8);rw [List.length_append,List.map_append];exact h
theorem b8_one (l : List UInt8) : ∀ u ∈ l.map B8,u.oneCell' = true:=by
 intro v hv;obtain ⟨b,_,rfl⟩:=List.mem_map.1 hv;rfl
theorem strCells_S (t : List UInt8) : Lib.strCells ⟨t.toArray⟩ = t.map B8:=by simp [Lib.strCells]
theorem str_sz (t : List UInt8) : (⟨t.toArray⟩ : ByteArray).size = t.length:=by simp [ByteArray.size]
theorem own_ne {w : World} {base g : Nat} {e t : TypeId} {size n : Nat} {v : Value} {xs : List Value} {cs : Array Value} (h : w.ownsRow base e size v n xs) (hw : Whole w g t cs) (hne : t ≠ e) : some g ≠ v.ownBlock:=fun k => by
 rcases h.2 with ⟨rfl,_⟩ | ⟨g',cap,cur,rfl,_,hc,_⟩
 ·cases k
 ·have e2 : g = g':=(by simp only [Value.ownBlock] at k;injection k);subst e2;unfold Whole at hw;rw [hw] at hc;injection hc with hc;injection hc with _ ht _;exact hne ht
theorem lies_lit8 (w : World) (l : List UInt8) : ∀ j u,(l.map B8)[j]? = some u → (w.alloc (.cells (l.map B8).toArray 5)).cell? ((⟨w.heap.size,0,none⟩ : Addr).add j) = some u:=fun j u hu => by
 obtain ⟨ad',e',_,hc'⟩:=lies_made w 5 (l.map B8) (w.heap.size + 1) (by omega) j u hu;injection e' with e';subst e';exact hc'
set_option maxRecDepth 100000 in
set_option maxHeartbeats 4000000 in
theorem procRow_any (w : World) (p : Pr) (hp : PrOk p) (hT : STabs w) :
  Calls Tryz.prog 57 #[.agg (prCells p).toArray] w fun e w' => e = .returned (S (procRow p)) ∧ Below w.heap.size w w':=by
 obtain ⟨i8,hi8,hz8,hs8,hb8⟩:=info_parts8 Tryz.infoU8;have hs0:=Whole.made w 64 (prCells p).toArray;have hb : Below w.heap.size w (w.alloc (.cells (prCells p).toArray 64)):=(Below.refl _ _).alloc (Nat.le_refl _) _;go_enter Tryz.func57,Tryz.ntmps57;go_upto_region 1 with (fail);change Code.wp _ _ _ _ (w.alloc (.cells (prCells p).toArray 64));generalize (w.alloc (.cells (prCells p).toArray 64)) = w1 at *;generalize hgx : w.heap.size = gx at *;have HGX:=jj hgx;have HS0:=jj hs0;have HW:=jj hb;have hgl : gx < w1.heap.size:=hs0.lt;clear hgx hb hs0;have HP:=jj hp;have HT:=jj hT;have HCL : Hid (∀ W,Below w1.heap.size w1 W → Whole W gx 64 (prCells p).toArray):=jj fun W hW => HS0.out.below hW hgl;have HLS:=jj (fun W hW => pr_lasts HP.out (HCL.out W hW));have HTW : Hid (∀ W,Below w1.heap.size w1 W → STabs W):=jj fun W hW => HT.out.below (B:=gx) (by rw [HGX.out];exact Nat.le_refl _) (HW.out.trans (hW.mono (by omega)));have hrl:=hp.regs;have hsl:=hp.space;have hfl:=hp.fds
 have LR0 : Hid (∀ j v,(rgCells p.regs)[j]? = some v → w1.cell? ((⟨gx,3,none⟩ : Addr).add j) = some v):=jj (mid_cells HS0.out 3 _ fun j v hv => by
  have hj : j < 16:=(by have:=(List.getElem?_eq_some_iff.1 hv).1;simp only [rgCells,List.length_map,hrl] at this;exact this);rw [pr_reg HP.out hj];exact hv)
 have SRG : Hid ((Tryz.prog.info? 53).map (·.size) = some (rgCells p.regs).length):=jj (by have e : (rgCells p.regs).length = 16:=(by simp [rgCells,hrl]);rw [e];exact Tryz.sizeRegs);clear hp hT;go_wp2_with (refine wpList_load_at rfl 53 (.tmp 13) rfl ⟨gx,3,none⟩ rfl (rgCells p.regs) _ LR0.out Tryz.underlying53 rfl SRG.out ?_);clear LR0 SRG
 go_loopw [3,15] (fun v i wr => ∃ (k : Nat),k ≤ 16 ∧ i = .int .i64 (k : Int) ∧ Hid (OwnB wr w1.heap.size v ((p.regs.take k).flatMap regB)) ∧ Hid (Below w1.heap.size w1 wr)) (fun _ i _ => 16 - (intOf i).toNat)
 case atStart => exact ⟨0,by omega,rfl,jj (OwnB.none _ _),jj (Below.refl _ _)⟩
 case round =>
  obtain ⟨k,hk,rfl,HO,HV⟩:=hrel;have hzv:=HV.out.size;have hln:=regs_length (p.regs.take k);rw [List.length_take,hrl,Nat.min_eq_left hk] at hln;by_cases hlt : k < 16
  ·obtain ⟨r,hr⟩:=get_some (l:=p.regs) (k:=k) (by omega);have HSN:=jj (regs_snoc hr);have hri:=HP.out.reg r (List.mem_of_getElem? hr);have HRB : Hid (regB r = putL r.toNat 4):=jj rfl;have hix:=fun W => run_index_ints W 53 52 16 (rgCells p.regs).toArray .i64 .u32 k (.int .u32 r) Tryz.underlying53 Tryz.underlying52 (by kernel_rfl) hlt (by simp [rgCells,hr]);clear hr;obtain ⟨n,rfl,hn⟩:=u32_nat hri;rw [show ((n : Int)).toNat = n by omega] at HRB;rw [HRB.out] at HSN;have hlp:=putL_length n 4;have CP:=jj (put_any wr n 4 (by omega) (by omega));generalize (p.regs.take k).flatMap regB = s at *;generalize putL n 4 = t at *;have hsle : s.length ≤ 64:=(by omega);have htle : t.length ≤ 4:=(by omega);have d1 : decide ((k : Int) < 16) = true:=decide_eq_true (by omega);have d2 : decide (k < 16) = true:=decide_eq_true hlt;have m1 : IntKind.u64.wrap (n : Int) = (n : Int):=(by rw [IntKind.wrap_u64];omega);have i0 : (0 : Int) ≤ (k : Int):=(by omega);have i1 : (k : Int) < 16:=(by omega);clear hri hln hlp;go_wp2_with fail;refine CP.out.mono ?_;rintro e w2 ⟨rfl,hb2⟩;have HV2:=jj (HV.out.trans (hb2.mono hzv));have HO2:=jj (own_below HO.out hb2);have hz2:=HV2.out.size;clear hb2 CP;go_wp2_with (at_builtin;refine Lib.wpList_append_own_string _ rfl (.tmp 18) (.tmp 21) 160 9 rfl w1.heap.size 5 i8 Tryz.underlying160 Tryz.underlying9 hi8 hz8 hs8 hb8 _ s.length (s.map B8) rfl HO2.out ⟨t.toArray⟩ rfl (by rw [str_sz];unfold maxLen;omega) (by rw [str_sz];omega) hz2 ?_;intro v3 w3 hown' hgrow _)
   have HV3:=jj (HV2.out.grown hgrow hz2 (own_ge HO2.out));have HO3 : Hid (OwnB w3 w1.heap.size v3 (s ++ t)):=jj (ownB_app hown' (by rw [str_sz]) (by rw [strCells_S]));rw [← HSN.out] at HO3;clear hown' hgrow;go_wp2_with fail
   go_roundw
   case rel =>
    have R : ∃ (k' : Nat),k' ≤ 16 ∧ Value.int .i64 ((k : Int) + 1) = .int .i64 (k' : Int) ∧ Hid (OwnB w3 w1.heap.size v3 ((p.regs.take k').flatMap regB)) ∧ Hid (Below w1.heap.size w1 w3):=⟨k + 1,by omega,by go_num,HO3,HV3⟩
    first | exact R | ((repeat apply Exists.intro);exact ⟨R,rfl⟩)
   case measure => simp [intOf];omega
  ·obtain rfl : k = 16:=(by omega);rw [List.take_of_length_le (by omega)] at HO hln;have hcc:=(HCL.out wr HV.out).reads 19 _ (pr_pc HP.out);have hc2 : wr.cell? ⟨gx,19,none⟩ = some (.int .u32 p.pc):=hcc;have hri:=HP.out.pc;have HCB : Hid (cpuB p = p.regs.flatMap regB ++ putL p.pc.toNat 4):=jj rfl;generalize p.pc = r at *;obtain ⟨n,rfl,hn⟩:=u32_nat hri;rw [show ((n : Int)).toNat = n by omega] at HCB;have hlp:=putL_length n 4;have CP:=jj (put_any wr n 4 (by omega) (by omega));generalize p.regs.flatMap regB = s at *;generalize putL n 4 = t at *;have hcl : (cpuB p).length ≤ 68 ∧ 68 ≤ (cpuB p).length:=(by rw [HCB.out,List.length_append];omega);have hsle : s.length ≤ 64:=(by omega);have htle : t.length ≤ 4:=(by omega);have m1 : IntKind.u64.wrap (n : Int) = (n : Int):=(by rw [IntKind.wrap_u64];omega);clear hri hcc hln hlp;rw [show ((16 : Nat) : Int) = 16 from rfl];go_wp2_with fail;refine CP.out.mono ?_;rintro e w2 ⟨rfl,hb2⟩;have HV2:=jj (HV.out.trans (hb2.mono hzv));have HO2:=jj (own_below HO.out hb2);have hz2:=HV2.out.size;clear hb2 CP hc2;go_upto_region 8 with (at_builtin;refine Lib.wpList_append_own_string _ rfl (.tmp 24) (.tmp 29) 160 9 rfl w1.heap.size 5 i8 Tryz.underlying160 Tryz.underlying9 hi8 hz8 hs8 hb8 _ s.length (s.map B8) rfl HO2.out ⟨t.toArray⟩ rfl (by rw [str_sz];unfold maxLen;omega) (by rw [str_sz];omega) hz2 ?_;intro v3 w3 hown' hgrow _);have HV3:=jj (HV2.out.grown hgrow hz2 (own_ge HO2.out));have HO3 : Hid (OwnB w3 w1.heap.size v3 (cpuB p)):=jj (by rw [HCB.out];exact ownB_app hown' (by rw [str_sz]) (by rw [strCells_S]));obtain ⟨ad3,c3,hv3,hcv3⟩:=own_conv HO3.out (by intro e;rw [e] at hcl;simp at hcl);subst hv3;obtain ⟨cb,HCQ⟩ : ∃ z,Hid (cpuB p = z):=⟨_,jj rfl⟩;rw [HCQ.out] at hcv3;rw [HCQ.out];have HCV3:=jj hcv3;have hz3:=HV3.out.size;clear hown' hgrow hcv3 HO3 HO2 HV2 hz2 HCB HO HV hzv hsle htle hlt hk hn m1 hcl;have LSP:=jj (pr_space_cells HP.out (HCL.out w3 HV3.out));have SSP : Hid ((Tryz.prog.info? 59).map (·.size) = some (pgCells p.space).length):=jj (by rw [pgCells_length,hsl];exact Tryz.sizeSpace)
   go_wp2_with (refine wpList_load_at rfl 59 (.tmp 31) rfl ⟨gx,20,none⟩ rfl (pgCells p.space) _ LSP.out Tryz.underlying59 rfl SSP.out ?_);clear LSP SSP
   go_loopw [4,33] (fun v i wr => ∃ (j : Nat),j ≤ 16 ∧ i = .int .i64 (j : Int) ∧ Hid (OwnB wr w3.heap.size v ((p.space.take j).flatMap pgB)) ∧ Hid (Below w3.heap.size w3 wr)) (fun _ i _ => 16 - (intOf i).toNat)
   case atStart => exact ⟨0,by omega,rfl,jj (OwnB.none _ _),jj (Below.refl _ _)⟩
   case round =>
    obtain ⟨j,hj,rfl,HO,HV⟩:=hrel;have hzv:=HV.out.size;have hln:=pgs_length (p.space.take j);rw [List.length_take,hsl,Nat.min_eq_left hj] at hln;by_cases hlj : j < 16
    ·obtain ⟨g,hg⟩:=get_some (l:=p.space) (k:=j) (by omega);have HSN:=jj (pgs_snoc hg);have HFR:=jj (flat_row pgCells1 3 p.space (fun _ _ => rfl) hg);generalize (p.space.take j).flatMap pgB = s at *;have hsle : s.length ≤ 32:=(by omega);have HV5:=jj (HV.out.alloc hzv (.cells (pgCells1 g).toArray 57));have HO5:=jj (HO.out.alloc (.cells (pgCells1 g).toArray 57));have HYn:=jj (Whole.made wr 57 (pgCells1 g).toArray);have d1 : decide ((j : Int) < 16) = true:=decide_eq_true (by omega);have d2 : decide (j < 16) = true:=decide_eq_true hlj;clear hg hln
     go_upto_region 12 with (first
      | (refine wpList_index_structs rfl 59 (.tmp 32) (.tmp 33) rfl 57 _ 16 3 (pgCells p.space) .i64 j rfl rfl Tryz.underlying59 Tryz.underlying57 Tryz.sizePg hlj (pgCells1 g) HFR.out ?_)
      | (refine wpList_fresh rfl rfl 57 9 (.tmp 35) rfl rfl rfl rfl (pgCells1 g) rfl rfl _ Tryz.infoPg rfl (pg_one g) ?_))
     change Code.wp _ _ _ _ (wr.alloc (.cells (pgCells1 g).toArray 57));clear HV HO HFR;generalize wr.alloc (.cells (pgCells1 g).toArray 57) = w5 at *;generalize wr.heap.size = g3 at *;obtain ⟨gi,gw,gf⟩:=g;have y0 : w5.cell? ⟨g3,0,none⟩ = some (.bool gi):=HYn.out.cell 0;have y1 : w5.cell? ⟨g3,1,none⟩ = some (.bool gw):=HYn.out.cell 1;have y2 : w5.cell? ⟨g3,2,none⟩ = some (.int .i64 gf):=HYn.out.cell 2;have hz5 : w3.heap.size ≤ w5.heap.size:=HV5.out.size;have m1 : IntKind.u8.wrap gf = ((byteOf gf).toNat : Int):=(by rw [IntKind.wrap_u8];unfold byteOf;rw [UInt8.toNat_ofNat'];omega);have HP2 : pgB ⟨true,true,gf⟩ = [2,byteOf gf]:=rfl;have HP1 : pgB ⟨true,false,gf⟩ = [1,byteOf gf]:=rfl;generalize byteOf gf = bb at *;cases gi with
     | false =>
      have HP0 : Hid (pgB ⟨false,gw,gf⟩ = [0,0]):=jj rfl;clear HP1 HP2;have HOA:=jj (HO5.out.alloc (.cells (([0,0] : List UInt8).map B8).toArray 5));have HBA : w3.heap.size ≤ (w5.alloc (.cells (([0,0] : List UInt8).map B8).toArray 5)).heap.size:=(by simp;omega);go_wp2_with (at_builtin;refine wpList_append_own _ rfl (.tmp 46) (.tmp 47) 160 rfl w3.heap.size 5 i8 _ 1 1 Tryz.underlying160 hi8 hz8 hs8 hb8 rfl (by decide) _ s.length (s.map B8) rfl HOA.out ⟨w5.heap.size,0,none⟩ 2 2 (([0,0] : List UInt8).map B8) rfl rfl (lies_lit8 w5 ([0,0] : List UInt8)) (b8_one ([0,0] : List UInt8)) (by unfold maxLen;omega) (by omega) HBA ?_;intro v6 w6 hown' hgrow _);have HV6:=jj ((HV5.out.alloc hz5 (.cells (([0,0] : List UInt8).map B8).toArray 5)).grown hgrow HBA (own_ge HOA.out));have HO6 : Hid (OwnB w6 w3.heap.size v6 (s ++ ([0,0] : List UInt8))):=jj (ownB_app hown' rfl rfl);rw [← HP0.out,← HSN.out] at HO6;clear hown' hgrow HOA HBA HO5 HV5;go_wp2_with fail
      go_roundw
      case rel =>
       have R : ∃ (j' : Nat),j' ≤ 16 ∧ Value.int .i64 ((j : Int) + 1) = .int .i64 (j' : Int) ∧ Hid (OwnB w6 w3.heap.size v6 ((p.space.take j').flatMap pgB)) ∧ Hid (Below w3.heap.size w3 w6):=⟨j + 1,by omega,by go_num,HO6,HV6⟩
       first | exact R | ((repeat apply Exists.intro);exact ⟨R,rfl⟩)
      case measure => simp [intOf];omega
     | true =>
      cases gw with
      | true =>
       have HP0:=jj HP2;clear HP1 HP2;have HOA:=jj (HO5.out.alloc (.cells (([2,bb] : List UInt8).map B8).toArray 5));have HBA : w3.heap.size ≤ (w5.alloc (.cells (([2,bb] : List UInt8).map B8).toArray 5)).heap.size:=(by simp;omega);go_wp2_with (at_builtin;refine wpList_append_own _ rfl (.tmp 52) (.tmp 56) 160 rfl w3.heap.size 5 i8 _ 1 1 Tryz.underlying160 hi8 hz8 hs8 hb8 rfl (by decide) _ s.length (s.map B8) rfl HOA.out ⟨w5.heap.size,0,none⟩ 2 2 (([2,bb] : List UInt8).map B8) rfl rfl (lies_lit8 w5 ([2,bb] : List UInt8)) (b8_one ([2,bb] : List UInt8)) (by unfold maxLen;omega) (by omega) HBA ?_;intro v6 w6 hown' hgrow _);have HV6:=jj ((HV5.out.alloc hz5 (.cells (([2,bb] : List UInt8).map B8).toArray 5)).grown hgrow HBA (own_ge HOA.out));have HO6 : Hid (OwnB w6 w3.heap.size v6 (s ++ ([2,bb] : List UInt8))):=jj (ownB_app hown' rfl rfl);rw [← HP0.out,← HSN.out] at HO6;clear hown' hgrow HOA HBA HO5 HV5;go_wp2_with fail
       go_roundw
       case rel =>
        have R : ∃ (j' : Nat),j' ≤ 16 ∧ Value.int .i64 ((j : Int) + 1) = .int .i64 (j' : Int) ∧ Hid (OwnB w6 w3.heap.size v6 ((p.space.take j').flatMap pgB)) ∧ Hid (Below w3.heap.size w3 w6):=⟨j + 1,by omega,by go_num,HO6,HV6⟩
        first | exact R | ((repeat apply Exists.intro);exact ⟨R,rfl⟩)
       case measure => simp [intOf];omega
      | false =>
       have HP0:=jj HP1;clear HP1 HP2;have HOA:=jj (HO5.out.alloc (.cells (([1,bb] : List UInt8).map B8).toArray 5));have HBA : w3.heap.size ≤ (w5.alloc (.cells (([1,bb] : List UInt8).map B8).toArray 5)).heap.size:=(by simp;omega);go_wp2_with (at_builtin;refine wpList_append_own _ rfl (.tmp 36) (.tmp 40) 160 rfl w3.heap.size 5 i8 _ 1 1 Tryz.underlying160 hi8 hz8 hs8 hb8 rfl (by decide) _ s.length (s.map B8) rfl HOA.out ⟨w5.heap.size,0,none⟩ 2 2 (([1,bb] : List UInt8).map B8) rfl rfl (lies_lit8 w5 ([1,bb] : List UInt8)) (b8_one ([1,bb] : List UInt8)) (by unfold maxLen;omega) (by omega) HBA ?_;intro v6 w6 hown' hgrow _);have HV6:=jj ((HV5.out.alloc hz5 (.cells (([1,bb] : List UInt8).map B8).toArray 5)).grown hgrow HBA (own_ge HOA.out));have HO6 : Hid (OwnB w6 w3.heap.size v6 (s ++ ([1,bb] : List UInt8))):=jj (ownB_app hown' rfl rfl);rw [← HP0.out,← HSN.out] at HO6;clear hown' hgrow HOA HBA HO5 HV5;go_wp2_with fail
       go_roundw
       case rel =>
        have R : ∃ (j' : Nat),j' ≤ 16 ∧ Value.int .i64 ((j : Int) + 1) = .int .i64 (j' : Int) ∧ Hid (OwnB w6 w3.heap.size v6 ((p.space.take j').flatMap pgB)) ∧ Hid (Below w3.heap.size w3 w6):=⟨j + 1,by omega,by go_num,HO6,HV6⟩
        first | exact R | ((repeat apply Exists.intro);exact ⟨R,rfl⟩)
       case measure => simp [intOf];omega
    ·obtain rfl : j = 16:=(by omega);rw [List.take_of_length_le (by omega)] at HO hln;have HVA:=jj (HV3.out.trans (HV.out.mono hz3));obtain ⟨ad4,c4,hv4,hcv4⟩:=own_conv HO.out (by intro e;rw [e] at hln;simp at hln);subst hv4;obtain ⟨pb,HPQ⟩ : ∃ z,Hid (p.space.flatMap pgB = z):=⟨_,jj rfl⟩;rw [HPQ.out] at hcv4;rw [HPQ.out];have HCV4:=jj hcv4;have HCV3' : Hid (∀ W,Below wr.heap.size wr W → (convert 160 9 (.slice (some ad3) cb.length c3)).run Tryz.prog W = .ok (S cb) W):=jj fun W hW => HCV3.out W (HV.out.trans (hW.mono hzv));have hz4 : w1.heap.size ≤ wr.heap.size:=HVA.out.size;have LFS:=jj (pr_fds_cells HP.out (HCL.out wr HVA.out));have SFS : Hid ((Tryz.prog.info? 62).map (·.size) = some (flCells p.fds).length):=jj (by rw [flCells_length,hfl];exact Tryz.sizeFds);clear hcv4 HO HV hln hlj hj HCV3 hz3 HV3;rw [show ((16 : Nat) : Int) = 16 from rfl];go_wp2_with (refine wpList_load_at rfl 62 (.tmp 59) rfl ⟨gx,68,none⟩ rfl (flCells p.fds) _ LFS.out Tryz.underlying62 rfl SFS.out ?_);clear LFS SFS;obtain ⟨w4,hw4⟩ : ∃ z : World,z = wr:=⟨_,rfl⟩;subst hw4
     go_loopw [5,61] (fun v i wr => ∃ (q : Nat),q ≤ 8 ∧ i = .int .i64 (q : Int) ∧ Hid (OwnB wr w4.heap.size v ((p.fds.take q).flatMap flB)) ∧ Hid (Below w4.heap.size w4 wr)) (fun _ i _ => 8 - (intOf i).toNat)
     case atStart => exact ⟨0,by omega,rfl,jj (OwnB.none _ _),jj (Below.refl _ _)⟩
     case round =>
      obtain ⟨q,hq,rfl,HO,HV⟩:=hrel;have hzv:=HV.out.size;have hln:=fls_length (p.fds.take q);rw [List.length_take,hfl,Nat.min_eq_left hq] at hln;by_cases hlq : q < 8
      ·obtain ⟨f,hf⟩:=get_some (l:=p.fds) (k:=q) (by omega);have HSN:=jj (fls_snoc hf);have HFR:=jj (flat_row flCells1 3 p.fds (fun _ _ => rfl) hf);generalize (p.fds.take q).flatMap flB = s at *;have hsle : s.length ≤ 136:=(by omega);have HV5:=jj (HV.out.alloc hzv (.cells (flCells1 f).toArray 61));have HO5:=jj (HO.out.alloc (.cells (flCells1 f).toArray 61));have HYn:=jj (Whole.made wr 61 (flCells1 f).toArray);have d1 : decide ((q : Int) < 8) = true:=decide_eq_true (by omega);have d2 : decide (q < 8) = true:=decide_eq_true hlq;clear hf hln
       go_upto_region 20 with (first
        | (refine wpList_index_structs rfl 62 (.tmp 60) (.tmp 61) rfl 61 _ 8 3 (flCells p.fds) .i64 q rfl rfl Tryz.underlying62 Tryz.underlying61 Tryz.sizeFl hlq (flCells1 f) HFR.out ?_)
        | (refine wpList_fresh rfl rfl 61 11 (.tmp 63) rfl rfl rfl rfl (flCells1 f) rfl rfl _ Tryz.infoFl rfl (fl_one f) ?_))
       change Code.wp _ _ _ _ (wr.alloc (.cells (flCells1 f).toArray 61));clear HV HO HFR;generalize wr.alloc (.cells (flCells1 f).toArray 61) = w5 at *;generalize wr.heap.size = g3 at *;obtain ⟨fk,fn,fp⟩:=f;have y0 : w5.cell? ⟨g3,0,none⟩ = some (.int .i64 fk):=HYn.out.cell 0;have hz5 : w4.heap.size ≤ w5.heap.size:=HV5.out.size;have HFB : Hid (flB ⟨fk,fn,fp⟩ = byteOf fk :: (putL (u64Of fn) 8 ++ putL (u64Of fp) 8)):=jj rfl;have m0 : IntKind.u8.wrap fk = ((byteOf fk).toNat : Int):=(by rw [IntKind.wrap_u8];unfold byteOf;rw [UInt8.toNat_ofNat'];omega);have m1 : IntKind.u64.wrap fn = ((u64Of fn : Nat) : Int):=(by rw [IntKind.wrap_u64];unfold u64Of;omega);have m2 : IntKind.u64.wrap fp = ((u64Of fp : Nat) : Int):=(by rw [IntKind.wrap_u64];unfold u64Of;omega);have CN:=jj (fun W => put_any W (u64Of fn) 8 (by unfold u64Of;omega) (by omega));have CP:=jj (fun W => put_any W (u64Of fp) 8 (by unfold u64Of;omega) (by omega));have hl1:=putL_length (u64Of fn) 8;have hl2:=putL_length (u64Of fp) 8;generalize putL (u64Of fn) 8 = t1 at *;generalize putL (u64Of fp) 8 = t2 at *;generalize u64Of fn = un at *;generalize u64Of fp = up at *;generalize byteOf fk = bb at *;have ht1 : t1.length ≤ 8:=(by omega);have ht2 : t2.length ≤ 8:=(by omega);clear hl1 hl2;have HOA:=jj (HO5.out.alloc (.cells (([bb] : List UInt8).map B8).toArray 5));have HYA:=jj (HYn.out.block (.cells (([bb] : List UInt8).map B8).toArray 5));have HBA : w4.heap.size ≤ (w5.alloc (.cells (([bb] : List UInt8).map B8).toArray 5)).heap.size:=(by simp;omega);go_upto_region 21 with (at_builtin;refine wpList_append_own _ rfl (.tmp 64) (.tmp 68) 160 rfl w4.heap.size 5 i8 _ 1 1 Tryz.underlying160 hi8 hz8 hs8 hb8 rfl (by decide) _ s.length (s.map B8) rfl HOA.out ⟨w5.heap.size,0,none⟩ 1 1 (([bb] : List UInt8).map B8) rfl rfl (lies_lit8 w5 ([bb] : List UInt8)) (b8_one ([bb] : List UInt8)) (by unfold maxLen;omega) (by omega) HBA ?_;intro v6 w6 hown' hgrow _);have HV6:=jj ((HV5.out.alloc hz5 (.cells (([bb] : List UInt8).map B8).toArray 5)).grown hgrow HBA (own_ge HOA.out));have HO6 : Hid (OwnB w6 w4.heap.size v6 (s ++ [bb])):=jj (ownB_app hown' rfl rfl);have HY6:=jj (HYA.out.other hgrow (own_ne HOA.out HYA.out (by decide)));clear hown' hgrow HOA HYA HBA HO5 HV5 HYn y0;have y1 : w6.cell? ⟨g3,1,none⟩ = some (.int .i64 fn):=HY6.out.cell 1;have hz6:=HV6.out.size;go_wp2_with fail;refine (CN.out w6).mono ?_
       rintro e w7 ⟨rfl,hb7⟩;have HV7:=jj (HV6.out.trans (hb7.mono hz6));have HO7:=jj (own_below HO6.out hb7);have HY7:=jj (HY6.out.below hb7 HY6.out.lt);have hz7:=HV7.out.size;have hsb : (s ++ [bb]).length ≤ 137:=(by simp;omega);clear hb7 CN y1 HV6 HO6 HY6 hz6;go_upto_region 22 with (at_builtin;refine Lib.wpList_append_own_string _ rfl (.tmp 70) (.tmp 74) 160 9 rfl w4.heap.size 5 i8 Tryz.underlying160 Tryz.underlying9 hi8 hz8 hs8 hb8 _ (s ++ [bb]).length ((s ++ [bb]).map B8) rfl HO7.out ⟨t1.toArray⟩ rfl (by rw [str_sz];unfold maxLen;omega) (by rw [str_sz];omega) hz7 ?_;intro v8 w8 hown' hgrow _);have HV8:=jj (HV7.out.grown hgrow hz7 (own_ge HO7.out));have HO8 : Hid (OwnB w8 w4.heap.size v8 (s ++ [bb] ++ t1)):=jj (ownB_app hown' (by rw [str_sz]) (by rw [strCells_S]));have HY8:=jj (HY7.out.other hgrow (own_ne HO7.out HY7.out (by decide)));clear hown' hgrow HV7 HO7 HY7 hz7;have y2 : w8.cell? ⟨g3,2,none⟩ = some (.int .i64 fp):=HY8.out.cell 2;have hz8:=HV8.out.size;go_wp2_with fail;refine (CP.out w8).mono ?_;rintro e w9 ⟨rfl,hb9⟩;have HV9:=jj (HV8.out.trans (hb9.mono hz8));have HO9:=jj (own_below HO8.out hb9);have hz9:=HV9.out.size;have hsc : (s ++ [bb] ++ t1).length ≤ 145:=(by simp;omega);clear hb9 CP y2 HV8 HO8 HY8 hz8;go_wp2_with (at_builtin;refine Lib.wpList_append_own_string _ rfl (.tmp 76) (.tmp 80) 160 9 rfl w4.heap.size 5 i8 Tryz.underlying160 Tryz.underlying9 hi8 hz8 hs8 hb8 _ (s ++ [bb] ++ t1).length ((s ++ [bb] ++ t1).map B8) rfl HO9.out ⟨t2.toArray⟩ rfl (by rw [str_sz];unfold maxLen;omega) (by rw [str_sz];omega) hz9 ?_;intro v10 w10 hown' hgrow _);have HVX:=jj (HV9.out.grown hgrow hz9 (own_ge HO9.out))
       have HOX : Hid (OwnB w10 w4.heap.size v10 (s ++ flB ⟨fk,fn,fp⟩)):=jj (by
        have h:=ownB_app (l2:=t2) hown' (by rw [str_sz]) (by rw [strCells_S]);rw [HFB.out]
        simpa using h)
       rw [← HSN.out] at HOX;clear hown' hgrow HV9 HO9 hz9;go_wp2_with fail
       go_roundw
       case rel =>
        have R : ∃ (q' : Nat),q' ≤ 8 ∧ Value.int .i64 ((q : Int) + 1) = .int .i64 (q' : Int) ∧ Hid (OwnB w10 w4.heap.size v10 ((p.fds.take q').flatMap flB)) ∧ Hid (Below w4.heap.size w4 w10):=⟨q + 1,by omega,by go_num,HOX,HVX⟩
        first | exact R | ((repeat apply Exists.intro);exact ⟨R,rfl⟩)
       case measure => simp [intOf];omega
      ·obtain rfl : q = 8:=(by omega);rw [List.take_of_length_le (by omega)] at HO hln;have HVB:=jj (HVA.out.trans (HV.out.mono hz4));obtain ⟨ad5,c5,hv5,hcv5⟩:=own_conv HO.out (by intro e;rw [e] at hln;simp at hln);subst hv5;obtain ⟨fb,HFQ⟩ : ∃ z,Hid (p.fds.flatMap flB = z):=⟨_,jj rfl⟩;rw [HFQ.out] at hcv5;rw [HFQ.out];have K3 : Hid (∀ W,Below wr.heap.size wr W → (convert 160 9 (.slice (some ad3) cb.length c3)).run Tryz.prog W = .ok (S cb) W):=jj fun W hW => HCV3'.out W (HV.out.trans (hW.mono hzv));have K4 : Hid (∀ W,Below wr.heap.size wr W → (convert 160 9 (.slice (some ad4) pb.length c4)).run Tryz.prog W = .ok (S pb) W):=jj fun W hW => HCV4.out W (HV.out.trans (hW.mono hzv));have K5:=jj hcv5;have HWB : Hid (∀ W,Below wr.heap.size wr W → Below w1.heap.size w1 W):=jj fun W hW => HVB.out.trans (hW.mono HVB.out.size);clear hcv5 HO HV hln hlq hq HCV3' HCV4 hz4 HVA hzv;rw [show ((8 : Nat) : Int) = 8 from rfl];go_upto_region 24 with (fail);clear hrl hsl hfl;obtain ⟨cn,hcn,hcl⟩:=u32_nat HP.out.code;obtain ⟨nn,hnn,hnl⟩:=u64_nat HP.out.n
       have HR : Hid (procRow p = rowB [Lib.itoa p.pid,Lib.itoa p.parent,Lib.itoa p.state,cb,pb,fb,flagL p.mask,putL cn 4,Lib.itoa p.why,putL nn 8]):=jj (by unfold procRow procL;rw [HCQ.out,HPQ.out,HFQ.out,show p.code.toNat = cn by omega,show p.n.toNat = nn by omega]);have HSZ : Hid (sizeOf [Lib.itoa p.pid,Lib.itoa p.parent,Lib.itoa p.state,cb,pb,fb,flagL p.mask,putL cn 4,Lib.itoa p.why,putL nn 8] ≤ 34359738368):=jj (by have h : sizeOf (procL p) ≤ 400:=proc_size HP.out;unfold procL at h;rw [HCQ.out,HPQ.out,HFQ.out,show p.code.toNat = cn by omega,show p.n.toNat = nn by omega] at h;exact Nat.le_trans h (by decide))
       have HLQ : Hid (∀ W,Below wr.heap.size wr W → W.cell? ⟨gx,92,none⟩ = some (.bool p.mask) ∧ W.cell? ⟨gx,93,none⟩ = some (.int .u32 (cn : Int)) ∧ W.cell? ⟨gx,94,none⟩ = some (.int .i64 p.why) ∧ W.cell? ⟨gx,95,none⟩ = some (.int .u64 (nn : Int))):=jj fun W hW => by
        have h:=HLS.out W (HWB.out W hW);rw [hcn,hnn] at h;exact h
       have m1 : IntKind.u64.wrap (cn : Int) = (cn : Int):=(by rw [IntKind.wrap_u64];omega);have C1:=jj (fun (W : World) (hW : Below wr.heap.size wr W) => idec_any W p.pid HP.out.pid (HTW.out W (HWB.out W hW)));have C2:=jj (fun (W : World) (hW : Below wr.heap.size wr W) => idec_any W p.parent HP.out.parent (HTW.out W (HWB.out W hW)));have C3:=jj (fun (W : World) (hW : Below wr.heap.size wr W) => idec_any W p.state HP.out.state (HTW.out W (HWB.out W hW)));have C7:=jj (fun W : World => iflag_any W p.mask);have C8:=jj (fun W : World => put_any W cn 4 (by omega) (by omega));have C9:=jj (fun (W : World) (hW : Below wr.heap.size wr W) => idec_any W p.why HP.out.why (HTW.out W (HWB.out W hW)));have C10:=jj (fun W : World => put_any W nn 8 (by omega) (by omega));clear hcn hnn HLS;generalize Lib.itoa p.pid = x1 at *;generalize Lib.itoa p.parent = x2 at *;generalize Lib.itoa p.state = x3 at *;generalize flagL p.mask = x7 at *;generalize putL cn 4 = x8 at *;generalize Lib.itoa p.why = x9 at *;generalize putL nn 8 = x10 at *;refine' wp_region_sure (by kernel_rfl) (fun W => Below wr.heap.size wr W) 28 [_,_,_,_,_,_,_,_,_,_,_,_,_,_,_,_,_,_,_,_,_,_,_,_,_,_,_,_] [some 83,some 84,some 85,some 86,some 87,some 88,some 89,some 90,some 91,some 92,some 93,some 94,some 95,some 96,some 97,some 98,some 99,some 100,some 101,some 102,some 103,some 104,some 105,some 106,some 107,some 108,some 109,some 110] (by kernel_rfl) (by kernel_rfl) (by kernel_rfl) (by kernel_rfl) rfl (Below.refl _ _).drew ?hs1
       case hs1 =>
        refine sure_cons ?_ ?_
        ·intro L ac W K hed hJ hS hK;have hA1 : ac.eval (.tmp 1) = .pointer (some ⟨gx,0,none⟩):=hJ.eval_old 1 (by kernel_rfl);clear hed hJ;refine opStep_of rfl ?_;unfold Oper.wp execOp;have hN1:=evalN hA1;go_simp;exact hK _ hS
        refine sure_cons ?_ ?_
        ·intro L ac W K hed hJ hS hK;have hn:=needs_spec (l:=[0]) (by kernel_rfl) hed;have hA83:=hJ.eval 0 (d:=83) (hn 0 (by simp)) rfl rfl rfl;clear hed hJ hn;refine opStep_of rfl ?_;have cc : W.cell? ⟨gx,0,none⟩ = some (.int .i64 p.pid):=(HCL.out W (HWB.out W hS)).cell 0;unfold Oper.wp execOp;have hN83:=evalN hA83;go_simp;exact hK _ hS
        refine sure_cons ?_ ?_
        ·intro L ac W K hed hJ hS hK;have hn:=needs_spec (l:=[1]) (by kernel_rfl) hed;have hA84:=hJ.eval 1 (d:=84) (hn 1 (by simp)) rfl rfl rfl;clear hed hJ hn;refine opStep_of rfl ?_;unfold Oper.wp execOp;have hN84:=evalN hA84;go_simp;refine (C1.out W hS).mono ?_;rintro e W' ⟨rfl,hb⟩;have hS2:=hS.trans (hb.mono hS.size);dsimp only;exact hK W' hS2
        refine sure_cons ?_ ?_
        ·intro L ac W K hed hJ hS hK;have hA1 : ac.eval (.tmp 1) = .pointer (some ⟨gx,0,none⟩):=hJ.eval_old 1 (by kernel_rfl);clear hed hJ;refine opStep_of rfl ?_;unfold Oper.wp execOp;have hN1:=evalN hA1;go_simp;exact hK _ hS
        refine sure_cons ?_ ?_
        ·intro L ac W K hed hJ hS hK;have hn:=needs_spec (l:=[3]) (by kernel_rfl) hed;have hA86:=hJ.eval 3 (d:=86) (hn 3 (by simp)) rfl rfl rfl;clear hed hJ hn;refine opStep_of rfl ?_;have cc : W.cell? ⟨gx,1,none⟩ = some (.int .i64 p.parent):=(HCL.out W (HWB.out W hS)).cell 1;unfold Oper.wp execOp;have hN86:=evalN hA86;go_simp;exact hK _ hS
        refine sure_cons ?_ ?_
        ·intro L ac W K hed hJ hS hK;have hn:=needs_spec (l:=[4]) (by kernel_rfl) hed;have hA87:=hJ.eval 4 (d:=87) (hn 4 (by simp)) rfl rfl rfl;clear hed hJ hn;refine opStep_of rfl ?_;unfold Oper.wp execOp;have hN87:=evalN hA87;go_simp;refine (C2.out W hS).mono ?_;rintro e W' ⟨rfl,hb⟩;have hS2:=hS.trans (hb.mono hS.size);dsimp only;exact hK W' hS2
        refine sure_cons ?_ ?_
        ·intro L ac W K hed hJ hS hK;have hA1 : ac.eval (.tmp 1) = .pointer (some ⟨gx,0,none⟩):=hJ.eval_old 1 (by kernel_rfl);clear hed hJ;refine opStep_of rfl ?_;unfold Oper.wp execOp;have hN1:=evalN hA1;go_simp;exact hK _ hS
        refine sure_cons ?_ ?_
        ·intro L ac W K hed hJ hS hK;have hn:=needs_spec (l:=[6]) (by kernel_rfl) hed;have hA89:=hJ.eval 6 (d:=89) (hn 6 (by simp)) rfl rfl rfl;clear hed hJ hn;refine opStep_of rfl ?_;have cc : W.cell? ⟨gx,2,none⟩ = some (.int .i64 p.state):=(HCL.out W (HWB.out W hS)).cell 2;unfold Oper.wp execOp;have hN89:=evalN hA89;go_simp;exact hK _ hS
        refine sure_cons ?_ ?_
        ·intro L ac W K hed hJ hS hK;have hn:=needs_spec (l:=[7]) (by kernel_rfl) hed;have hA90:=hJ.eval 7 (d:=90) (hn 7 (by simp)) rfl rfl rfl;clear hed hJ hn;refine opStep_of rfl ?_;unfold Oper.wp execOp;have hN90:=evalN hA90;go_simp;refine (C3.out W hS).mono ?_;rintro e W' ⟨rfl,hb⟩;have hS2:=hS.trans (hb.mono hS.size);dsimp only;exact hK W' hS2
        refine sure_cons ?_ ?_
        ·intro L ac W K hed hJ hS hK;have hA3 : ac.eval (.tmp 3) = .slice (some ad3) cb.length c3:=hJ.eval_old 3 (by kernel_rfl);clear hed hJ;refine opStep_of rfl ?_;unfold Oper.wp execOp;have hN3:=evalN hA3;go_simp;exact hK _ hS
        refine sure_cons ?_ ?_
        ·intro L ac W K hed hJ hS hK;have hn:=needs_spec (l:=[9]) (by kernel_rfl) hed;have hA92:=hJ.eval 9 (d:=92) (hn 9 (by simp)) rfl rfl rfl;clear hed hJ hn;refine opStep_of rfl ?_;have hcv:=K3.out W hS;unfold Oper.wp execOp;have hN92:=evalN hA92;go_simp;exact hK _ hS
        refine sure_cons ?_ ?_
        ·intro L ac W K hed hJ hS hK;have hA4 : ac.eval (.tmp 4) = .slice (some ad4) pb.length c4:=hJ.eval_old 4 (by kernel_rfl);clear hed hJ;refine opStep_of rfl ?_;unfold Oper.wp execOp;have hN4:=evalN hA4;go_simp;exact hK _ hS
        refine sure_cons ?_ ?_
        ·intro L ac W K hed hJ hS hK;have hn:=needs_spec (l:=[11]) (by kernel_rfl) hed;have hA94:=hJ.eval 11 (d:=94) (hn 11 (by simp)) rfl rfl rfl;clear hed hJ hn;refine opStep_of rfl ?_;have hcv:=K4.out W hS;unfold Oper.wp execOp;have hN94:=evalN hA94;go_simp;exact hK _ hS
        refine sure_cons ?_ ?_
        ·intro L ac W K hed hJ hS hK;have hA5 : ac.eval (.tmp 5) = .slice (some ad5) fb.length c5:=hJ.eval_old 5 (by kernel_rfl);clear hed hJ;refine opStep_of rfl ?_;unfold Oper.wp execOp;have hN5:=evalN hA5;go_simp;exact hK _ hS
        refine sure_cons ?_ ?_
        ·intro L ac W K hed hJ hS hK;have hn:=needs_spec (l:=[13]) (by kernel_rfl) hed;have hA96:=hJ.eval 13 (d:=96) (hn 13 (by simp)) rfl rfl rfl;clear hed hJ hn;refine opStep_of rfl ?_;have hcv:=K5.out W hS;unfold Oper.wp execOp;have hN96:=evalN hA96;go_simp;exact hK _ hS
        refine sure_cons ?_ ?_
        ·intro L ac W K hed hJ hS hK;have hA1 : ac.eval (.tmp 1) = .pointer (some ⟨gx,0,none⟩):=hJ.eval_old 1 (by kernel_rfl);clear hed hJ;refine opStep_of rfl ?_;unfold Oper.wp execOp;have hN1:=evalN hA1;go_simp;exact hK _ hS
        refine sure_cons ?_ ?_
        ·intro L ac W K hed hJ hS hK;have hn:=needs_spec (l:=[15]) (by kernel_rfl) hed;have hA98:=hJ.eval 15 (d:=98) (hn 15 (by simp)) rfl rfl rfl;clear hed hJ hn;refine opStep_of rfl ?_;have cc : W.cell? ⟨gx,92,none⟩ = some (.bool p.mask):=(HLQ.out W hS).1;unfold Oper.wp execOp;have hN98:=evalN hA98;go_simp;exact hK _ hS
        refine sure_cons ?_ ?_
        ·intro L ac W K hed hJ hS hK;have hn:=needs_spec (l:=[16]) (by kernel_rfl) hed;have hA99:=hJ.eval 16 (d:=99) (hn 16 (by simp)) rfl rfl rfl;clear hed hJ hn;refine opStep_of rfl ?_;unfold Oper.wp execOp;have hN99:=evalN hA99;go_simp;refine (C7.out W).mono ?_;rintro e W' ⟨rfl,hb⟩;have hS2:=hS.trans (hb.mono hS.size);dsimp only;exact hK W' hS2
        refine sure_cons ?_ ?_
        ·intro L ac W K hed hJ hS hK;have hA1 : ac.eval (.tmp 1) = .pointer (some ⟨gx,0,none⟩):=hJ.eval_old 1 (by kernel_rfl);clear hed hJ;refine opStep_of rfl ?_;unfold Oper.wp execOp;have hN1:=evalN hA1;go_simp;exact hK _ hS
        refine sure_cons ?_ ?_
        ·intro L ac W K hed hJ hS hK;have hn:=needs_spec (l:=[18]) (by kernel_rfl) hed;have hA101:=hJ.eval 18 (d:=101) (hn 18 (by simp)) rfl rfl rfl;clear hed hJ hn;refine opStep_of rfl ?_;have cc : W.cell? ⟨gx,93,none⟩ = some (.int .u32 (cn : Int)):=(HLQ.out W hS).2.1;unfold Oper.wp execOp;have hN101:=evalN hA101;go_simp;exact hK _ hS
        refine sure_cons ?_ ?_
        ·intro L ac W K hed hJ hS hK;have hn:=needs_spec (l:=[19]) (by kernel_rfl) hed;have hA102:=hJ.eval 19 (d:=102) (hn 19 (by simp)) rfl rfl rfl;clear hed hJ hn;refine opStep_of rfl ?_;unfold Oper.wp execOp;have hN102:=evalN hA102;go_simp;exact hK _ hS
        refine sure_cons ?_ ?_
        ·intro L ac W K hed hJ hS hK;have hn:=needs_spec (l:=[20]) (by kernel_rfl) hed;have hA103:=hJ.eval 20 (d:=103) (hn 20 (by simp)) rfl rfl rfl;clear hed hJ hn;refine opStep_of rfl ?_;unfold Oper.wp execOp;have hN103:=evalN hA103;go_simp;refine (C8.out W).mono ?_;rintro e W' ⟨rfl,hb⟩;have hS2:=hS.trans (hb.mono hS.size);dsimp only;exact hK W' hS2
        refine sure_cons ?_ ?_
        ·intro L ac W K hed hJ hS hK;have hA1 : ac.eval (.tmp 1) = .pointer (some ⟨gx,0,none⟩):=hJ.eval_old 1 (by kernel_rfl);clear hed hJ;refine opStep_of rfl ?_;unfold Oper.wp execOp;have hN1:=evalN hA1;go_simp;exact hK _ hS
        refine sure_cons ?_ ?_
        ·intro L ac W K hed hJ hS hK;have hn:=needs_spec (l:=[22]) (by kernel_rfl) hed;have hA105:=hJ.eval 22 (d:=105) (hn 22 (by simp)) rfl rfl rfl;clear hed hJ hn;refine opStep_of rfl ?_;have cc : W.cell? ⟨gx,94,none⟩ = some (.int .i64 p.why):=(HLQ.out W hS).2.2.1;unfold Oper.wp execOp;have hN105:=evalN hA105;go_simp;exact hK _ hS
        refine sure_cons ?_ ?_
        ·intro L ac W K hed hJ hS hK;have hn:=needs_spec (l:=[23]) (by kernel_rfl) hed;have hA106:=hJ.eval 23 (d:=106) (hn 23 (by simp)) rfl rfl rfl;clear hed hJ hn;refine opStep_of rfl ?_;unfold Oper.wp execOp;have hN106:=evalN hA106;go_simp;refine (C9.out W hS).mono ?_;rintro e W' ⟨rfl,hb⟩;have hS2:=hS.trans (hb.mono hS.size);dsimp only;exact hK W' hS2
        refine sure_cons ?_ ?_
        ·intro L ac W K hed hJ hS hK;have hA1 : ac.eval (.tmp 1) = .pointer (some ⟨gx,0,none⟩):=hJ.eval_old 1 (by kernel_rfl);clear hed hJ;refine opStep_of rfl ?_;unfold Oper.wp execOp;have hN1:=evalN hA1;go_simp;exact hK _ hS
        refine sure_cons ?_ ?_
        ·intro L ac W K hed hJ hS hK;have hn:=needs_spec (l:=[25]) (by kernel_rfl) hed;have hA108:=hJ.eval 25 (d:=108) (hn 25 (by simp)) rfl rfl rfl;clear hed hJ hn;refine opStep_of rfl ?_;have cc : W.cell? ⟨gx,95,none⟩ = some (.int .u64 (nn : Int)):=(HLQ.out W hS).2.2.2;unfold Oper.wp execOp;have hN108:=evalN hA108;go_simp;exact hK _ hS
        refine sure_cons ?_ ?_
        ·intro L ac W K hed hJ hS hK;have hn:=needs_spec (l:=[26]) (by kernel_rfl) hed;have hA109:=hJ.eval 26 (d:=109) (hn 26 (by simp)) rfl rfl rfl;clear hed hJ hn;refine opStep_of rfl ?_;unfold Oper.wp execOp;have hN109:=evalN hA109;go_simp;refine (C10.out W).mono ?_;rintro e W' ⟨rfl,hb⟩;have hS2:=hS.trans (hb.mono hS.size);dsimp only;exact hK W' hS2
        refine sure_nil ?_;intro W hS;simp only [putAll,Act.put,List.setIfInBounds_toArray,List.set_cons_zero,List.set_cons_succ];have HS:=jj (HVB.out.trans (hS.mono HVB.out.size));have CR : Calls Tryz.prog 55 #[.slice (some ⟨W.heap.size,0,none⟩) 10 10] (W.alloc (.cells #[S x1,S x2,S x3,S cb,S pb,S fb,S x7,S x8,S x9,S x10] 9)) _:=row_made W [x1,x2,x3,cb,pb,fb,x7,x8,x9,x10] HSZ.out;have HCR:=jj CR;clear CR hS;go_wp2_with fail;refine HCR.out.mono ?_;rintro e wf ⟨rfl,hb2⟩;have HVF:=jj (HS.out.trans (hb2.mono HS.out.size));clear hb2 HCR;go_wp2_with fail;go_ret;exact ⟨by rw [HR.out];rfl,by rw [HGX.out];exact HW.out.trans (HVF.out.mono (by omega))⟩
end Go.Proofs.YtnbphabheikfeaaGreatDoor
