import Derived.Test.YtdlnmdbonagchaaGreatDoorRcD
import Derived.Great.BuildSlice
namespace Go.Proofs.YtdlnmdbonagchaaGreatDoor
open Go.RowKit
theorem results_cell_tmp {P : Program} {fn : Func} {p q : Tmp} {ty : TypeId} (hr : fn.results = #[.cell p ty,.tmp q]) (tmps : Array Value) (w : World) (g : Nat) (t : TypeId) (cs : Array Value) (fr : Nat × Nat) (d : TypeDesc) (v : Value)
  (hp : tmps.getD p undef = .pointer (some ⟨g,0,none⟩)) (hq : tmps.getD q undef = v) (hg : w.heap[g]? = some (.cells cs t fr))
  (hu : P.underlying ty = some d) (hd : (match d with | .struct _ | .array _ _ => true | _ => false) = true) (hi : (P.info? ty).map (·.size) = some cs.size) :
  (results fn tmps).run P w = .ok (.tuple #[.agg cs,v]) w:=by
 have hp' : tmps[p]?.getD undef = .pointer (some ⟨g,0,none⟩):=(by simpa using hp);have hq' : tmps[q]?.getD undef = v:=(by simpa using hq);simp [results,hr,hp',hq',asAddr,run_loadVar_row w g t ty cs fr d hg hu hd hi]
theorem Strs.two {w : World} {B : Nat} {A : Option Addr} {t0 t1 : List UInt8} (h : Strs w B A [t0,t1]) :
  ∃ ad,A = some ad ∧ ad.block < B ∧ w.cell? (ad.add 0) = some (S t0) ∧ w.cell? (ad.add 1) = some (S t1):=by
 obtain ⟨ad,rfl,hb,c0⟩:=h 0 _ rfl;obtain ⟨a1,e1,_,c1⟩:=h 1 _ rfl;injection e1 with e1;subst e1;exact ⟨ad,rfl,hb,c0,c1⟩
theorem Strs.three {w : World} {B : Nat} {A : Option Addr} {t0 t1 t2 : List UInt8} (h : Strs w B A [t0,t1,t2]) :
  ∃ ad,A = some ad ∧ ad.block < B ∧ w.cell? (ad.add 0) = some (S t0) ∧ w.cell? (ad.add 1) = some (S t1) ∧ w.cell? (ad.add 2) = some (S t2):=by
 obtain ⟨ad,rfl,hb,c0⟩:=h 0 _ rfl;obtain ⟨a1,e1,_,c1⟩:=h 1 _ rfl;obtain ⟨a2,e2,_,c2⟩:=h 2 _ rfl;injection e1 with e1;injection e2 with e2;subst e1 e2;exact ⟨ad,rfl,hb,c0,c1,c2⟩
def OneOf {α : Type} (cells : α → List Value) (w : World) (r : Option α) (e : Ending) (w' : World) : Prop :=
 (∃ (q : α) (ok : Bool),e = .returned (.tuple #[.agg (cells q).toArray,.bool ok]) ∧ (match ok with | true => r = some q | false => r = none)) ∧ Below w.heap.size w w'
theorem Tryz.sizeIn : (Tryz.prog.info? 50).map (·.size) = some 3:=by kernel_rfl
theorem Tryz.sizeOut : (Tryz.prog.info? 54).map (·.size) = some 2:=by kernel_rfl
theorem Tryz.infoInB : (Tryz.prog.info? 50).map (fun i => (i.zero,i.size,i.bytes)) = some (some (.agg #[.int .u64 0,.string ⟨#[]⟩,.bool false]),3,32):=by kernel_rfl
theorem Tryz.infoOutB : (Tryz.prog.info? 54).map (fun i => (i.zero,i.size,i.bytes)) = some (some (.agg #[.int .u64 0,.string ⟨#[]⟩]),2,24):=by kernel_rfl
theorem inP_len {ls : List (List UInt8)} (h : ls.length ≠ 3) : inP ls = none:=by
 match ls,h with
 | [],_ => rfl
 | [_],_ => rfl
 | [_,_],_ => rfl
 | [_,_,_],h => exact absurd rfl h
 | _ :: _ :: _ :: _ :: _,_ => rfl
theorem outP_len {ls : List (List UInt8)} (h : ls.length ≠ 2) : outP ls = none:=by
 match ls,h with
 | [],_ => rfl
 | [_],_ => rfl
 | [_,_],h => exact absurd rfl h
 | _ :: _ :: _ :: _,_ => rfl
set_option maxRecDepth 100000 in
set_option maxHeartbeats 4000000 in
theorem inOf_any (w : World) (A : Option Addr) (c : Nat) (ls : List (List UInt8)) (hA : Strs w w.heap.size A ls) (hl : ∀ x ∈ ls,x.length ≤ 1099511627776) (hT : ITabs w) :
  Calls Tryz.prog 28 #[.slice A ls.length c] w (OneOf inCells w (inP ls)):=by
 have HA:=jj hA;have HLE:=jj hl;have HT:=jj hT;have HH:=jj (Whole.made w 50 (inCells (0,[],false)).toArray);have HV:=jj ((Below.refl w.heap.size w).alloc (Nat.le_refl _) (.cells (inCells (0,[],false)).toArray 50));clear hA hl hT;go_enter Tryz.func28,Tryz.ntmps28;go_upto_region 1 with (fail);change Code.wp _ _ _ _ (w.alloc (.cells (inCells (0,[],false)).toArray 50));generalize w.alloc (.cells (inCells (0,[],false)).toArray 50) = w1 at *;generalize hgx : w.heap.size = gx at *;have HGX:=jj hgx;clear hgx;have HVZ : Hid (Whole w1 gx 50 (inCells (0,[],false)).toArray):=HH;have hgl:=HVZ.out.lt;by_cases hl3 : ls.length = 3
 ·obtain ⟨a,d,b,rfl⟩ : ∃ a d b,ls = [a,d,b]:=by
   match ls,hl3 with
   | [a,d,b],_ => exact ⟨a,d,b,rfl⟩
  obtain ⟨ad,rfl,had,k0,k1,k2⟩:=Strs.three HA.out;have hla:=HLE.out a (by simp)
  have HCC : Hid (∀ W,Below w1.heap.size w1 W → W.cell? ad = some (S a) ∧ W.cell? (ad.add 0) = some (S a) ∧ W.cell? (ad.add 1) = some (S d) ∧ W.cell? ⟨ad.block,ad.off + 1,none⟩ = some (S d) ∧ W.cell? (ad.add 2) = some (S b) ∧ W.cell? ⟨ad.block,ad.off + 2,none⟩ = some (S b)):=jj fun W hW => by
   have hB:=HV.out.trans (hW.mono (by omega));have j0:=(hB.cell (p:=ad.add 0) (by rw [add_block];exact had)).trans k0;have j1:=(hB.cell (p:=ad.add 1) (by rw [add_block];exact had)).trans k1;have j2:=(hB.cell (p:=ad.add 2) (by rw [add_block];exact had)).trans k2;exact ⟨j0,j0,j1,j1,j2,j2⟩
  clear k0 k1 k2 HA HLE hl3;by_cases h0 : b = [48]
  ·subst h0;obtain ⟨c0,c0',c1,c1',c2,c2'⟩:=HCC.out w1 (Below.refl _ _);go_wp2_with fail;refine (int_any w1 a (by omega) (HT.out.below (by rw [HGX.out];exact Nat.le_refl _) HV.out)).mono ?_;rintro e w2 ⟨hm,hb2⟩;have HV2:=jj (HV.out.trans (hb2.mono (by omega)));have HV2Z : Hid (Whole w2 gx 50 (inCells (0,[],false)).toArray):=jj (HVZ.out.below hb2 hgl);have HB2:=jj hb2;clear hb2 c0 c0' c1 c1' c2 c2';cases hi : intP a with
   | none => have HQ : Hid (inP [a,d,[48]] = none):=jj (by show inP3 a d [48] = none;unfold inP3;rw [if_pos (by simp),hi]);rw [hi] at hm;dsimp only at hm;subst hm;clear hi;go_wp2_with (refine wpList_store_all rfl 50 (.tmp 2) (.tmp 35) rfl rfl gx rfl (inCells (0,[],false)) rfl Tryz.sizeIn (inCells (0,[],false)) 50 HV2Z.out rfl (in_one _) ?_;intro w9 N9 F9);have HB9:=jj (below_grown HV2.out F9.out (by have:=HV2Z.out.lt;have:=HV2.out.size;omega) (Nat.le_refl _));refine bodyPost_ret (v:=.tuple #[.agg ((inCells (0,[],false))).toArray,.bool false]) (results_cell_tmp rfl _ _ gx 50 _ (0,0) _ _ rfl rfl N9.out Tryz.underlying50 rfl Tryz.sizeIn) rfl ?_;exact ⟨⟨_,false,rfl,HQ.out⟩,by rw [HGX.out];exact HB9.out⟩
   | some n =>
    rw [hi] at hm;dsimp only at hm;subst hm;by_cases hn : n < 0
    ·have HQ : Hid (inP [a,d,[48]] = none):=jj (by show inP3 a d [48] = none;unfold inP3;rw [if_pos (by simp),hi];dsimp only;rw [if_pos hn]);have dn : decide (n < 0) = true:=decide_eq_true hn;clear hi hn;go_wp2_with (refine wpList_store_all rfl 50 (.tmp 2) (.tmp 35) rfl rfl gx rfl (inCells (0,[],false)) rfl Tryz.sizeIn (inCells (0,[],false)) 50 HV2Z.out rfl (in_one _) ?_;intro w9 N9 F9);have HB9:=jj (below_grown HV2.out F9.out (by have:=HV2Z.out.lt;have:=HV2.out.size;omega) (Nat.le_refl _));refine bodyPost_ret (v:=.tuple #[.agg ((inCells (0,[],false))).toArray,.bool false]) (results_cell_tmp rfl _ _ gx 50 _ (0,0) _ _ rfl rfl N9.out Tryz.underlying50 rfl Tryz.sizeIn) rfl ?_;exact ⟨⟨_,false,rfl,HQ.out⟩,by rw [HGX.out];exact HB9.out⟩
    ·have hin:=(intP_some hi).2;have HQ : Hid (inP [a,d,[48]] = some (n,d,false)):=jj (by show inP3 a d [48] = _;unfold inP3;rw [if_pos (by simp),hi];dsimp only;rw [if_neg hn];rfl);have dn : decide (n < 0) = false:=decide_eq_false hn;have mw : IntKind.u64.wrap n = n:=(by rw [IntKind.wrap_u64];unfold inI at hin;omega);clear hi hn hin;go_upto_region 6 with (fail);refine' wp_region_sure (by kernel_rfl) (fun W => Below w2.heap.size w2 W) 9 [_,_,_,_,_,_,_,_,_] [some 36,some 37,some 38,some 39,some 40,some 41,some 42,some 43,some 44] (by kernel_rfl) (by kernel_rfl) (by kernel_rfl) (by kernel_rfl) rfl (Below.refl _ _).drew ?hszfalse
     case hszfalse =>
      refine sure_cons ?_ ?_
      ·intro L ac W K hed hJ hS hK;have hA4 : ac.eval (.tmp 4) = .int .i64 n:=hJ.eval_old 4 (by kernel_rfl);clear hed hJ;refine opStep_of rfl ?_;unfold Oper.wp execOp;have hN4:=evalN hA4;go_simp;exact hK _ hS
      refine sure_cons ?_ ?_
      ·intro L ac W K hed hJ hS hK;have hn:=needs_spec (l:=[0]) (by kernel_rfl) hed;have hA36:=hJ.eval 0 (d:=36) (hn 0 (by simp)) rfl rfl rfl;clear hed hJ hn;refine opStep_of rfl ?_;unfold Oper.wp execOp;have hN36:=evalN hA36;go_simp;exact hK _ hS
      refine sure_cons ?_ ?_
      ·intro L ac W K hed hJ hS hK;have hA0 : ac.eval (.tmp 0) = .slice (some ad) 3 c:=hJ.eval_old 0 (by kernel_rfl);clear hed hJ;refine opStep_of rfl ?_;unfold Oper.wp execOp;have hN0:=evalN hA0;go_simp;exact hK _ hS
      refine sure_cons ?_ ?_
      ·intro L ac W K hed hJ hS hK;have hn:=needs_spec (l:=[2]) (by kernel_rfl) hed;have hA38:=hJ.eval 2 (d:=38) (hn 2 (by simp)) rfl rfl rfl;clear hed hJ hn;refine opStep_of rfl ?_;unfold Oper.wp execOp;have hN38:=evalN hA38;go_simp;exact hK _ hS
      refine sure_cons ?_ ?_
      ·intro L ac W K hed hJ hS hK;have hn:=needs_spec (l:=[3]) (by kernel_rfl) hed;have hA39:=hJ.eval 3 (d:=39) (hn 3 (by simp)) rfl rfl rfl;clear hed hJ hn;refine opStep_of rfl ?_;obtain ⟨_,_,cc,cc',_,_⟩:=HCC.out W (HB2.out.trans (hS.mono HB2.out.size));unfold Oper.wp execOp;have hN39:=evalN hA39;go_simp;exact hK _ hS
      refine sure_cons ?_ ?_
      ·intro L ac W K hed hJ hS hK;have hA0 : ac.eval (.tmp 0) = .slice (some ad) 3 c:=hJ.eval_old 0 (by kernel_rfl);clear hed hJ;refine opStep_of rfl ?_;unfold Oper.wp execOp;have hN0:=evalN hA0;go_simp;exact hK _ hS
      refine sure_cons ?_ ?_
      ·intro L ac W K hed hJ hS hK;have hn:=needs_spec (l:=[5]) (by kernel_rfl) hed;have hA41:=hJ.eval 5 (d:=41) (hn 5 (by simp)) rfl rfl rfl;clear hed hJ hn;refine opStep_of rfl ?_;unfold Oper.wp execOp;have hN41:=evalN hA41;go_simp;exact hK _ hS
      refine sure_cons ?_ ?_
      ·intro L ac W K hed hJ hS hK;have hn:=needs_spec (l:=[6]) (by kernel_rfl) hed;have hA42:=hJ.eval 6 (d:=42) (hn 6 (by simp)) rfl rfl rfl;clear hed hJ hn;refine opStep_of rfl ?_;obtain ⟨_,_,_,_,cc,cc'⟩:=HCC.out W (HB2.out.trans (hS.mono HB2.out.size));unfold Oper.wp execOp;have hN42:=evalN hA42;go_simp;exact hK _ hS
      refine sure_cons ?_ ?_
      ·intro L ac W K hed hJ hS hK;have hn:=needs_spec (l:=[7]) (by kernel_rfl) hed;have hA43:=hJ.eval 7 (d:=43) (hn 7 (by simp)) rfl rfl rfl;clear hed hJ hn;refine opStep_of rfl ?_;unfold Oper.wp execOp;have hN43:=evalN hA43;go_simp;exact hK _ hS
      refine sure_nil ?_;intro W hS;simp only [putAll,Act.put,List.setIfInBounds_toArray,List.set_cons_zero,List.set_cons_succ];have HS:=jj hS;have HV3:=jj (HV2.out.trans (hS.mono (by have:=HV2Z.out.lt;omega)));have HV3Z : Hid (Whole W gx 50 (inCells (0,[],false)).toArray):=jj (HV2Z.out.below hS HV2Z.out.lt);clear hS;go_wp2_with (refine wpList_store_all rfl 50 (.tmp 2) (.tmp 45) rfl rfl gx rfl (inCells (n,d,false)) rfl Tryz.sizeIn (inCells (0,[],false)) 50 HV3Z.out rfl (in_one _) ?_;intro w9 N9 F9);have HB9:=jj (below_grown HV3.out F9.out (by have:=HV3Z.out.lt;have:=HV3.out.size;omega) (Nat.le_refl _));refine bodyPost_ret (v:=.tuple #[.agg ((inCells (n,d,false))).toArray,.bool true]) (results_cell_tmp rfl _ _ gx 50 _ (0,0) _ _ rfl rfl N9.out Tryz.underlying50 rfl Tryz.sizeIn) rfl ?_;exact ⟨⟨_,true,rfl,HQ.out⟩,by rw [HGX.out];exact HB9.out⟩
  ·have e0 : (b == [48]) = false:=(by simpa using h0);by_cases h1 : b = [49]
   ·subst h1;clear e0 h0;obtain ⟨c0,c0',c1,c1',c2,c2'⟩:=HCC.out w1 (Below.refl _ _);go_wp2_with fail;refine (int_any w1 a (by omega) (HT.out.below (by rw [HGX.out];exact Nat.le_refl _) HV.out)).mono ?_;rintro e w2 ⟨hm,hb2⟩;have HV2:=jj (HV.out.trans (hb2.mono (by omega)));have HV2Z : Hid (Whole w2 gx 50 (inCells (0,[],false)).toArray):=jj (HVZ.out.below hb2 hgl);have HB2:=jj hb2;clear hb2 c0 c0' c1 c1' c2 c2';cases hi : intP a with
    | none => have HQ : Hid (inP [a,d,[49]] = none):=jj (by show inP3 a d [49] = none;unfold inP3;rw [if_pos (by simp),hi]);rw [hi] at hm;dsimp only at hm;subst hm;clear hi;go_wp2_with (refine wpList_store_all rfl 50 (.tmp 2) (.tmp 35) rfl rfl gx rfl (inCells (0,[],false)) rfl Tryz.sizeIn (inCells (0,[],false)) 50 HV2Z.out rfl (in_one _) ?_;intro w9 N9 F9);have HB9:=jj (below_grown HV2.out F9.out (by have:=HV2Z.out.lt;have:=HV2.out.size;omega) (Nat.le_refl _));refine bodyPost_ret (v:=.tuple #[.agg ((inCells (0,[],false))).toArray,.bool false]) (results_cell_tmp rfl _ _ gx 50 _ (0,0) _ _ rfl rfl N9.out Tryz.underlying50 rfl Tryz.sizeIn) rfl ?_;exact ⟨⟨_,false,rfl,HQ.out⟩,by rw [HGX.out];exact HB9.out⟩
    | some n =>
     rw [hi] at hm;dsimp only at hm;subst hm;by_cases hn : n < 0
     ·have HQ : Hid (inP [a,d,[49]] = none):=jj (by show inP3 a d [49] = none;unfold inP3;rw [if_pos (by simp),hi];dsimp only;rw [if_pos hn]);have dn : decide (n < 0) = true:=decide_eq_true hn;clear hi hn;go_wp2_with (refine wpList_store_all rfl 50 (.tmp 2) (.tmp 35) rfl rfl gx rfl (inCells (0,[],false)) rfl Tryz.sizeIn (inCells (0,[],false)) 50 HV2Z.out rfl (in_one _) ?_;intro w9 N9 F9);have HB9:=jj (below_grown HV2.out F9.out (by have:=HV2Z.out.lt;have:=HV2.out.size;omega) (Nat.le_refl _));refine bodyPost_ret (v:=.tuple #[.agg ((inCells (0,[],false))).toArray,.bool false]) (results_cell_tmp rfl _ _ gx 50 _ (0,0) _ _ rfl rfl N9.out Tryz.underlying50 rfl Tryz.sizeIn) rfl ?_;exact ⟨⟨_,false,rfl,HQ.out⟩,by rw [HGX.out];exact HB9.out⟩
     ·have hin:=(intP_some hi).2;have HQ : Hid (inP [a,d,[49]] = some (n,d,true)):=jj (by show inP3 a d [49] = _;unfold inP3;rw [if_pos (by simp),hi];dsimp only;rw [if_neg hn];rfl);have dn : decide (n < 0) = false:=decide_eq_false hn;have mw : IntKind.u64.wrap n = n:=(by rw [IntKind.wrap_u64];unfold inI at hin;omega);clear hi hn hin;go_upto_region 6 with (fail);refine' wp_region_sure (by kernel_rfl) (fun W => Below w2.heap.size w2 W) 9 [_,_,_,_,_,_,_,_,_] [some 36,some 37,some 38,some 39,some 40,some 41,some 42,some 43,some 44] (by kernel_rfl) (by kernel_rfl) (by kernel_rfl) (by kernel_rfl) rfl (Below.refl _ _).drew ?hsztrue
      case hsztrue =>
       refine sure_cons ?_ ?_
       ·intro L ac W K hed hJ hS hK;have hA4 : ac.eval (.tmp 4) = .int .i64 n:=hJ.eval_old 4 (by kernel_rfl);clear hed hJ;refine opStep_of rfl ?_;unfold Oper.wp execOp;have hN4:=evalN hA4;go_simp;exact hK _ hS
       refine sure_cons ?_ ?_
       ·intro L ac W K hed hJ hS hK;have hn:=needs_spec (l:=[0]) (by kernel_rfl) hed;have hA36:=hJ.eval 0 (d:=36) (hn 0 (by simp)) rfl rfl rfl;clear hed hJ hn;refine opStep_of rfl ?_;unfold Oper.wp execOp;have hN36:=evalN hA36;go_simp;exact hK _ hS
       refine sure_cons ?_ ?_
       ·intro L ac W K hed hJ hS hK;have hA0 : ac.eval (.tmp 0) = .slice (some ad) 3 c:=hJ.eval_old 0 (by kernel_rfl);clear hed hJ;refine opStep_of rfl ?_;unfold Oper.wp execOp;have hN0:=evalN hA0;go_simp;exact hK _ hS
       refine sure_cons ?_ ?_
       ·intro L ac W K hed hJ hS hK;have hn:=needs_spec (l:=[2]) (by kernel_rfl) hed;have hA38:=hJ.eval 2 (d:=38) (hn 2 (by simp)) rfl rfl rfl;clear hed hJ hn;refine opStep_of rfl ?_;unfold Oper.wp execOp;have hN38:=evalN hA38;go_simp;exact hK _ hS
       refine sure_cons ?_ ?_
       ·intro L ac W K hed hJ hS hK;have hn:=needs_spec (l:=[3]) (by kernel_rfl) hed;have hA39:=hJ.eval 3 (d:=39) (hn 3 (by simp)) rfl rfl rfl;clear hed hJ hn;refine opStep_of rfl ?_;obtain ⟨_,_,cc,cc',_,_⟩:=HCC.out W (HB2.out.trans (hS.mono HB2.out.size));unfold Oper.wp execOp;have hN39:=evalN hA39;go_simp;exact hK _ hS
       refine sure_cons ?_ ?_
       ·intro L ac W K hed hJ hS hK;have hA0 : ac.eval (.tmp 0) = .slice (some ad) 3 c:=hJ.eval_old 0 (by kernel_rfl);clear hed hJ;refine opStep_of rfl ?_;unfold Oper.wp execOp;have hN0:=evalN hA0;go_simp;exact hK _ hS
       refine sure_cons ?_ ?_
       ·intro L ac W K hed hJ hS hK;have hn:=needs_spec (l:=[5]) (by kernel_rfl) hed;have hA41:=hJ.eval 5 (d:=41) (hn 5 (by simp)) rfl rfl rfl;clear hed hJ hn;refine opStep_of rfl ?_;unfold Oper.wp execOp;have hN41:=evalN hA41;go_simp;exact hK _ hS
       refine sure_cons ?_ ?_
       ·intro L ac W K hed hJ hS hK;have hn:=needs_spec (l:=[6]) (by kernel_rfl) hed;have hA42:=hJ.eval 6 (d:=42) (hn 6 (by simp)) rfl rfl rfl;clear hed hJ hn;refine opStep_of rfl ?_;obtain ⟨_,_,_,_,cc,cc'⟩:=HCC.out W (HB2.out.trans (hS.mono HB2.out.size));unfold Oper.wp execOp;have hN42:=evalN hA42;go_simp;exact hK _ hS
       refine sure_cons ?_ ?_
       ·intro L ac W K hed hJ hS hK;have hn:=needs_spec (l:=[7]) (by kernel_rfl) hed;have hA43:=hJ.eval 7 (d:=43) (hn 7 (by simp)) rfl rfl rfl;clear hed hJ hn;refine opStep_of rfl ?_;unfold Oper.wp execOp;have hN43:=evalN hA43;go_simp;exact hK _ hS
       refine sure_nil ?_;intro W hS;simp only [putAll,Act.put,List.setIfInBounds_toArray,List.set_cons_zero,List.set_cons_succ];have HS:=jj hS;have HV3:=jj (HV2.out.trans (hS.mono (by have:=HV2Z.out.lt;omega)));have HV3Z : Hid (Whole W gx 50 (inCells (0,[],false)).toArray):=jj (HV2Z.out.below hS HV2Z.out.lt);clear hS;go_wp2_with (refine wpList_store_all rfl 50 (.tmp 2) (.tmp 45) rfl rfl gx rfl (inCells (n,d,true)) rfl Tryz.sizeIn (inCells (0,[],false)) 50 HV3Z.out rfl (in_one _) ?_;intro w9 N9 F9);have HB9:=jj (below_grown HV3.out F9.out (by have:=HV3Z.out.lt;have:=HV3.out.size;omega) (Nat.le_refl _));refine bodyPost_ret (v:=.tuple #[.agg ((inCells (n,d,true))).toArray,.bool true]) (results_cell_tmp rfl _ _ gx 50 _ (0,0) _ _ rfl rfl N9.out Tryz.underlying50 rfl Tryz.sizeIn) rfl ?_;exact ⟨⟨_,true,rfl,HQ.out⟩,by rw [HGX.out];exact HB9.out⟩
   ·have e1 : (b == [49]) = false:=(by simpa using h1);have HQ : Hid (inP [a,d,b] = none):=jj (by show inP3 a d b = none;unfold inP3;rw [if_neg (fun h => h.elim h0 h1)]);clear h0 h1;obtain ⟨c0,c0',c1,c1',c2,c2'⟩:=HCC.out w1 (Below.refl _ _);go_wp2_with (refine wpList_store_all rfl 50 (.tmp 2) (.tmp 21) rfl rfl gx rfl (inCells (0,[],false)) rfl Tryz.sizeIn (inCells (0,[],false)) 50 HVZ.out rfl (in_one _) ?_;intro w9 N9 F9);have HB9:=jj (below_grown HV.out F9.out (by have:=HVZ.out.lt;have:=HV.out.size;omega) (Nat.le_refl _));refine bodyPost_ret (v:=.tuple #[.agg ((inCells (0,[],false))).toArray,.bool false]) (results_cell_tmp rfl _ _ gx 50 _ (0,0) _ _ rfl rfl N9.out Tryz.underlying50 rfl Tryz.sizeIn) rfl ?_;exact ⟨⟨_,false,rfl,HQ.out⟩,by rw [HGX.out];exact HB9.out⟩
 ·have HQ : Hid (inP ls = none):=jj (inP_len hl3);have dl : ((ls.length : Int) != 3) = true:=(by simp;omega);clear hl3;go_wp2_with (refine wpList_store_all rfl 50 (.tmp 2) (.tmp 21) rfl rfl gx rfl (inCells (0,[],false)) rfl Tryz.sizeIn (inCells (0,[],false)) 50 HVZ.out rfl (in_one _) ?_;intro w9 N9 F9);have HB9:=jj (below_grown HV.out F9.out (by have:=HVZ.out.lt;have:=HV.out.size;omega) (Nat.le_refl _));refine bodyPost_ret (v:=.tuple #[.agg ((inCells (0,[],false))).toArray,.bool false]) (results_cell_tmp rfl _ _ gx 50 _ (0,0) _ _ rfl rfl N9.out Tryz.underlying50 rfl Tryz.sizeIn) rfl ?_;exact ⟨⟨_,false,rfl,HQ.out⟩,by rw [HGX.out];exact HB9.out⟩
set_option maxRecDepth 100000 in
set_option maxHeartbeats 4000000 in
theorem outOf_any (w : World) (A : Option Addr) (c : Nat) (ls : List (List UInt8)) (hA : Strs w w.heap.size A ls) (hl : ∀ x ∈ ls,x.length ≤ 1099511627776) (hT : ITabs w) :
  Calls Tryz.prog 30 #[.slice A ls.length c] w (OneOf outCells w (outP ls)):=by
 have HA:=jj hA;have HLE:=jj hl;have HT:=jj hT;have HH:=jj (Whole.made w 54 (outCells (0,[])).toArray);have HV:=jj ((Below.refl w.heap.size w).alloc (Nat.le_refl _) (.cells (outCells (0,[])).toArray 54));clear hA hl hT;go_enter Tryz.func30,Tryz.ntmps30;go_upto_region 1 with (fail);change Code.wp _ _ _ _ (w.alloc (.cells (outCells (0,[])).toArray 54));generalize w.alloc (.cells (outCells (0,[])).toArray 54) = w1 at *;generalize hgx : w.heap.size = gx at *;have HGX:=jj hgx;clear hgx;have HVZ : Hid (Whole w1 gx 54 (outCells (0,[])).toArray):=HH;have hgl:=HVZ.out.lt;by_cases hl3 : ls.length = 2
 ·obtain ⟨a,d,rfl⟩ : ∃ a d,ls = [a,d]:=by
   match ls,hl3 with
   | [a,d],_ => exact ⟨a,d,rfl⟩
  obtain ⟨ad,rfl,had,k0,k1⟩:=Strs.two HA.out;have hla:=HLE.out a (by simp)
  have HCC : Hid (∀ W,Below w1.heap.size w1 W → W.cell? ad = some (S a) ∧ W.cell? (ad.add 0) = some (S a) ∧ W.cell? (ad.add 1) = some (S d) ∧ W.cell? ⟨ad.block,ad.off + 1,none⟩ = some (S d)):=jj fun W hW => by
   have hB:=HV.out.trans (hW.mono (by omega));have j0:=(hB.cell (p:=ad.add 0) (by rw [add_block];exact had)).trans k0;have j1:=(hB.cell (p:=ad.add 1) (by rw [add_block];exact had)).trans k1;exact ⟨j0,j0,j1,j1⟩
  clear k0 k1 HA HLE hl3;obtain ⟨c0,c0',c1,c1'⟩:=HCC.out w1 (Below.refl _ _);go_wp2_with fail;refine (int_any w1 a (by omega) (HT.out.below (by rw [HGX.out];exact Nat.le_refl _) HV.out)).mono ?_;rintro e w2 ⟨hm,hb2⟩;have HV2:=jj (HV.out.trans (hb2.mono (by omega)));have HV2Z : Hid (Whole w2 gx 54 (outCells (0,[])).toArray):=jj (HVZ.out.below hb2 hgl);have HB2:=jj hb2;clear hb2 c0 c0' c1 c1';cases hi : intP a with
  | none => have HQ : Hid (outP [a,d] = none):=jj (by show outP2 a d = none;unfold outP2;rw [hi]);rw [hi] at hm;dsimp only at hm;subst hm;clear hi;go_wp2_with (refine wpList_store_all rfl 54 (.tmp 2) (.tmp 23) rfl rfl gx rfl (outCells (0,[])) rfl Tryz.sizeOut (outCells (0,[])) 54 HV2Z.out rfl (out_one _) ?_;intro w9 N9 F9);have HB9:=jj (below_grown HV2.out F9.out (by have:=HV2Z.out.lt;have:=HV2.out.size;omega) (Nat.le_refl _));refine bodyPost_ret (v:=.tuple #[.agg ((outCells (0,[]))).toArray,.bool false]) (results_cell_tmp rfl _ _ gx 54 _ (0,0) _ _ rfl rfl N9.out Tryz.underlying54 rfl Tryz.sizeOut) rfl ?_;exact ⟨⟨_,false,rfl,HQ.out⟩,by rw [HGX.out];exact HB9.out⟩
  | some n =>
   rw [hi] at hm;dsimp only at hm;subst hm;by_cases hn : n < 0
   ·have HQ : Hid (outP [a,d] = none):=jj (by show outP2 a d = none;unfold outP2;rw [hi];dsimp only;rw [if_pos hn]);have dn : decide (n < 0) = true:=decide_eq_true hn;clear hi hn;go_wp2_with (refine wpList_store_all rfl 54 (.tmp 2) (.tmp 23) rfl rfl gx rfl (outCells (0,[])) rfl Tryz.sizeOut (outCells (0,[])) 54 HV2Z.out rfl (out_one _) ?_;intro w9 N9 F9);have HB9:=jj (below_grown HV2.out F9.out (by have:=HV2Z.out.lt;have:=HV2.out.size;omega) (Nat.le_refl _));refine bodyPost_ret (v:=.tuple #[.agg ((outCells (0,[]))).toArray,.bool false]) (results_cell_tmp rfl _ _ gx 54 _ (0,0) _ _ rfl rfl N9.out Tryz.underlying54 rfl Tryz.sizeOut) rfl ?_;exact ⟨⟨_,false,rfl,HQ.out⟩,by rw [HGX.out];exact HB9.out⟩
   ·have hin:=(intP_some hi).2;have HQ : Hid (outP [a,d] = some (n,d)):=jj (by show outP2 a d = _;unfold outP2;rw [hi];dsimp only;rw [if_neg hn]);have dn : decide (n < 0) = false:=decide_eq_false hn;have mw : IntKind.u64.wrap n = n:=(by rw [IntKind.wrap_u64];unfold inI at hin;omega);clear hi hn hin;obtain ⟨c0,c0',c1,c1'⟩:=HCC.out w2 HB2.out;go_wp2_with (refine wpList_store_all rfl 54 (.tmp 2) (.tmp 29) rfl rfl gx rfl (outCells (n,d)) rfl Tryz.sizeOut (outCells (0,[])) 54 HV2Z.out rfl (out_one _) ?_;intro w9 N9 F9);have HB9:=jj (below_grown HV2.out F9.out (by have:=HV2Z.out.lt;have:=HV2.out.size;omega) (Nat.le_refl _));refine bodyPost_ret (v:=.tuple #[.agg ((outCells (n,d))).toArray,.bool true]) (results_cell_tmp rfl _ _ gx 54 _ (0,0) _ _ rfl rfl N9.out Tryz.underlying54 rfl Tryz.sizeOut) rfl ?_;exact ⟨⟨_,true,rfl,HQ.out⟩,by rw [HGX.out];exact HB9.out⟩
 ·have HQ : Hid (outP ls = none):=jj (outP_len hl3);have dl : ((ls.length : Int) != 2) = true:=(by simp;omega);clear hl3;go_wp2_with (refine wpList_store_all rfl 54 (.tmp 2) (.tmp 9) rfl rfl gx rfl (outCells (0,[])) rfl Tryz.sizeOut (outCells (0,[])) 54 HVZ.out rfl (out_one _) ?_;intro w9 N9 F9);have HB9:=jj (below_grown HV.out F9.out (by have:=HVZ.out.lt;have:=HV.out.size;omega) (Nat.le_refl _));refine bodyPost_ret (v:=.tuple #[.agg ((outCells (0,[]))).toArray,.bool false]) (results_cell_tmp rfl _ _ gx 54 _ (0,0) _ _ rfl rfl N9.out Tryz.underlying54 rfl Tryz.sizeOut) rfl ?_;exact ⟨⟨_,false,rfl,HQ.out⟩,by rw [HGX.out];exact HB9.out⟩
theorem wpList_made_in {ops : Array Oper} {rest : List Oper} {o : Oper} {a : Act} {w : World} {Q : Exit → Act → World → Prop} (hgd : o.guard = none) (x : Nat) (ho : o.op = .buildSlice 24 1 #[(0,.tmp x)]) (p : InP) (hx : a.eval (.tmp x) = .agg (inCells p).toArray)
  (h : wpList Tryz.prog ops Q rest (a.put o.dst (.slice (some ⟨w.heap.size,0,none⟩) 1 1)) (w.alloc (.cells (inCells p).toArray 50))) : wpList Tryz.prog ops Q (o :: rest) a w:=by
 obtain ⟨i,hi,hz,hs,_⟩:=info_parts Tryz.infoInB;refine wpList_buildSlice hgd 24 50 1 _ ho (inCells p).toArray i _ Tryz.underlying24 hi hz (by rw [hs];decide) (by rw [hs];decide) ?_ h;rw [hs]
 have:=Great.fill_whole (s:=3) (by decide) [.agg (inCells p).toArray] ((Array.range (1 * 3)).map ((Value.agg #[.int .u64 0,.string ⟨#[]⟩,.bool false]).cells[· % (Value.agg #[.int .u64 0,.string ⟨#[]⟩,.bool false]).cells.size]!)) (fun v hv => by
  obtain rfl : v = .agg (inCells p).toArray:=(by simpa using hv);rfl) (by simp)
 simpa [hx,Value.cells] using this
theorem wpList_made_out {ops : Array Oper} {rest : List Oper} {o : Oper} {a : Act} {w : World} {Q : Exit → Act → World → Prop} (hgd : o.guard = none) (x : Nat) (ho : o.op = .buildSlice 25 1 #[(0,.tmp x)]) (p : OutP) (hx : a.eval (.tmp x) = .agg (outCells p).toArray)
  (h : wpList Tryz.prog ops Q rest (a.put o.dst (.slice (some ⟨w.heap.size,0,none⟩) 1 1)) (w.alloc (.cells (outCells p).toArray 54))) : wpList Tryz.prog ops Q (o :: rest) a w:=by
 obtain ⟨i,hi,hz,hs,_⟩:=info_parts Tryz.infoOutB;refine wpList_buildSlice hgd 25 54 1 _ ho (outCells p).toArray i _ Tryz.underlying25 hi hz (by rw [hs];decide) (by rw [hs];decide) ?_ h;rw [hs]
 have:=Great.fill_whole (s:=2) (by decide) [.agg (outCells p).toArray] ((Array.range (1 * 2)).map ((Value.agg #[.int .u64 0,.string ⟨#[]⟩]).cells[· % (Value.agg #[.int .u64 0,.string ⟨#[]⟩]).cells.size]!)) (fun v hv => by
  obtain rfl : v = .agg (outCells p).toArray:=(by simpa using hv);rfl) (by simp)
 simpa [hx,Value.cells] using this
def ListPost {α : Type} (T : TypeId) (n : Nat) (cells : α → List Value) (w : World) (r : Option (List α)) (e : Ending) (w' : World) : Prop :=
 (match r with
  | none => e = .returned (.tuple #[.slice none 0 0,.bool false])
  | some l => ∃ v,e = .returned (.tuple #[v,.bool true]) ∧ w'.ownsRow w.heap.size T n v l.length (l.flatMap cells)) ∧ Below w.heap.size w w'
theorem texts_mem {b : List UInt8} {ls : List (List UInt8)} (h : textsA [] b = .ok ls) : ∀ l ∈ ls,l.length ≤ b.length:=fun l hl => by
 rw [texts_len h];exact mem_len hl
theorem rowB_count : ∀ ls : List (List UInt8),ls.length ≤ (rowB ls).length
 | [] => by simp
 | l :: ls => by
  have ih:=rowB_count ls;have:=List.length_pos_iff.2 (lenB_ne l.length);rw [rowB_cons];simp only [List.length_append,List.length_cons] at *;omega
theorem texts_count {b : List UInt8} {ls : List (List UInt8)} (h : textsA [] b = .ok ls) : ls.length ≤ b.length:=by
 rw [texts_len h];exact rowB_count ls
set_option maxRecDepth 100000 in
set_option maxHeartbeats 4000000 in
theorem inList_any (w : World) (b : List UInt8) (hb : b.length ≤ 4294967296) (hT : ITabs w) :
  Calls Tryz.prog 27 #[S b,.func (.func 28) #[] #[]] w (ListPost 50 3 inCells w (listP inP b)):=by
 obtain ⟨i0,hi0,hz0,hz1,hz2⟩:=info_parts Tryz.infoInB;have HT:=jj hT;clear hT;go_enter Tryz.func27,Tryz.ntmps27;go_wp2_with fail;refine (texts_any w b (by omega)).mono ?_;rintro e w1 ⟨hm,hb1⟩;have HB1:=jj hb1;clear hb1;cases hT : textsA [] b with
 | error x =>
  have HQ : Hid (listP inP b = none):=jj (listP_err hT);have hx:=textsA_err' _ _ _ _ (Nat.le_refl _) hT;have hx0 : (x != 0) = true:=by rcases hx with rfl | rfl <;> rfl
  rw [hT] at hm;dsimp only at hm;subst hm;clear hT hx;go_wp2_with fail;go_ret2;unfold ListPost;rw [HQ.out];exact ⟨rfl,HB1.out⟩
 | ok ls =>
  rw [hT] at hm;obtain ⟨v,rfl,ho⟩:=hm;have hlc:=texts_count hT;have HLE : Hid (∀ x ∈ ls,x.length ≤ b.length):=jj (texts_mem hT);have HWL : Hid (listP inP b = mapO (rowP inP) ls):=jj (listP_ok hT);have HRO : Hid (OwnS w1 w.heap.size v ls):=jj ho;obtain ⟨G,kg,rfl,_,_⟩:=own_shape ho (by omega);clear ho hT;go_wp2_with (at_make;refine wpList_make_own _ rfl _ _ 24 rfl w.heap.size 50 i0 _ 3 Tryz.underlying24 hi0 hz0 hz1 .i64 .i64 _ ls.length rfl rfl rfl (by rw [hz2];omega) (by unfold maxLen;omega) HB1.out.size ?_;intro w2 hown2 hgrow2);have HO2:=jj hown2;have hbl : Below w1.heap.size w1 w2:=⟨hgrow2.os,hgrow2.tape,hgrow2.output,hgrow2.size,fun i hi => hgrow2.block i hi (by simp)⟩;have HB2:=jj (HB1.out.trans (hbl.mono HB1.out.size));have HR2:=jj (own_below HRO.out hbl);clear hown2 hgrow2 hbl HRO HB1;go_wp2_with fail
  go_loopw [8,27] (fun v i wr => ∃ (k : Nat) (acc : List InP),k ≤ ls.length ∧ i = .int .i64 k ∧ acc.length = k ∧ Hid (mapO (rowP inP) (ls.take k) = some acc) ∧ Hid (wr.ownsRow w.heap.size 50 3 v acc.length (acc.flatMap inCells)) ∧ Hid (OwnS wr w.heap.size (.slice G ls.length kg) ls) ∧ Hid (Below w.heap.size w wr)) (fun _ i _ => ls.length - (intOf i).toNat)
  case atStart => exact ⟨0,[],by omega,rfl,rfl,jj rfl,HO2,HR2,HB2⟩
  case round =>
   obtain ⟨k,acc,hk,rfl,hac,HD,HO,HR,HW⟩:=hrel;have HAC:=jj hac;have hal : acc.length ≤ ls.length:=(by omega);clear hac HO2 HR2 HB2;by_cases hlt : k < ls.length
   ·obtain ⟨G1,kg1,e1,hlies,_⟩:=own_shape HR.out (by omega);injection e1 with e1 _ e2;subst e1 e2;obtain ⟨ad,rfl,had,hc⟩:=Strs.at' hlies hlt;have hrl:=HLE.out (ls.getD k []) (by rw [List.getD_eq_getElem?_getD,List.getElem?_eq_getElem hlt];exact List.getElem_mem hlt);have HNO:=jj (@mapO_none _ (rowP inP) ls k hlt);have HYES:=jj (fun p => @mapO_snoc _ (rowP inP) ls k acc p hlt HD.out);clear hlies;generalize ls.getD k [] = r at *;have q0 : (0 : Int) ≤ (k : Int):=(by omega);have q1 : (k : Int) < (ls.length : Int):=(by omega);go_wp2_with fail;refine (texts_any wr r (by omega)).mono ?_;rintro e w3 ⟨hm,hb3⟩;have HW3:=jj (HW.out.trans (hb3.mono HW.out.size));have HO3:=jj (own_below HO.out hb3);have HR3:=jj (own_below HR.out hb3);clear hb3 hc HW HO HR;obtain ⟨ov,hov⟩ : ∃ A m c,u8 = .slice A m c:=(by obtain ⟨A,c,e,_,_⟩:=own_shape HO3.out (by omega);exact ⟨A,_,c,e⟩);obtain ⟨om,oc,rfl⟩:=hov;cases hT : textsA [] r with
    | error x =>
     have HQ : Hid (listP inP b = none):=jj (by rw [HWL.out];exact HNO.out (rowP_err hT));have hx:=textsA_err' _ _ _ _ (Nat.le_refl _) hT;have hx0 : (x != 0) = true:=by rcases hx with rfl | rfl <;> rfl
     rw [hT] at hm;dsimp only at hm;subst hm;clear hT hx;go_wp2_with fail;go_ret2;unfold ListPost;rw [HQ.out];exact ⟨rfl,HW3.out⟩
    | ok ps =>
     rw [hT] at hm;obtain ⟨v,rfl,ho⟩:=hm;obtain ⟨P,kp,rfl,hlp,_⟩:=own_shape ho (by omega);have HLP:=jj hlp;have HRP : Hid (rowP inP r = inP ps):=jj (rowP_ok hT);have HPS : Hid (∀ x ∈ ps,x.length ≤ 1099511627776):=jj (fun x hx => by have:=texts_mem hT x hx;omega);clear ho hlp hT;go_wp2_with fail;refine (inOf_any w3 P kp ps HLP.out HPS.out (HT.out.below (Nat.le_refl _) HW3.out)).mono ?_;rintro e w4 ⟨⟨q,ok,rfl,hq⟩,hb4⟩;have HW4:=jj (HW3.out.trans (hb4.mono HW3.out.size));have HO4:=jj (own_below HO3.out hb4);have HR4:=jj (own_below HR3.out hb4);clear hb4 HW3 HO3 HR3 HLP;have HX:=jj (Whole.made w4 50 (inCells q).toArray);have HW5:=jj (HW4.out.alloc HW4.out.size (.cells (inCells q).toArray 50));have HO5:=jj (HO4.out.alloc (.cells (inCells q).toArray 50));have HR5:=jj (HR4.out.alloc (.cells (inCells q).toArray 50));clear HO4 HR4;go_upto_region 12 with (refine wpList_fresh rfl rfl 50 13 (.tmp 42) rfl rfl rfl rfl (inCells q) rfl rfl _ Tryz.infoIn rfl (in_one q) ?_);change Code.wp _ _ _ _ (w4.alloc (.cells (inCells q).toArray 50));generalize w4.alloc (.cells (inCells q).toArray 50) = w5 at *;generalize w4.heap.size = g1 at *
     have LD1 : Hid (∀ j v,(inCells q)[j]? = some v → w5.cell? ((⟨g1,0,none⟩ : Addr).add j) = some v):=jj fun j v hv => by
      rw [show (⟨g1,0,none⟩ : Addr).add j = ⟨g1,j,none⟩ by unfold Addr.add;by_cases h : j = 0 <;> simp [h]];rw [HX.out.cell j,List.getElem?_toArray];exact hv
     clear HW4 HX;cases ok with
     | false => have HQ : Hid (listP inP b = none):=jj (by rw [HWL.out];exact HNO.out (HRP.out.trans hq));clear hq;go_wp2_with fail;go_ret2;unfold ListPost;rw [HQ.out];exact ⟨rfl,HW5.out⟩
     | true =>
      have HQ : Hid (mapO (rowP inP) (ls.take (k + 1)) = some (acc ++ [q])):=jj (HYES.out q (HRP.out.trans hq));clear hq
      have HNW : Hid (∀ i u,(inCells q)[i]? = some u → (w5.alloc (.cells (inCells q).toArray 50)).cell? ((⟨w5.heap.size,0,none⟩ : Addr).add i) = some u):=jj (fun i u hu => by
       obtain ⟨ad',e',_,hc'⟩:=lies_made w5 50 (inCells q) (w5.heap.size + 1) (by omega) i u hu;injection e' with e';subst e';exact hc')
      have H1:=jj (in_one q);have H63 : Hid (acc.length + 1 ≤ maxLen):=jj (by unfold maxLen;omega);have HBY : Hid ((acc.length + 1) * 32 ≤ 140737488355328):=jj (by omega);have HBA : Hid (w.heap.size ≤ (w5.alloc (.cells (inCells q).toArray 50)).heap.size):=jj (by have:=HW5.out.size;simp;omega);have HOA:=jj (HO5.out.alloc (.cells (inCells q).toArray 50));have HRA:=jj (HR5.out.alloc (.cells (inCells q).toArray 50))
      go_wp2_with (first
       | (refine wpList_load_at rfl 50 (.tmp 13) rfl ⟨g1,0,none⟩ rfl (inCells q) _ LD1.out Tryz.underlying50 rfl (by kernel_rfl) ?_)
       | (refine wpList_made_in rfl 47 rfl q rfl ?_)
       | (at_builtin;refine wpList_append_own _ rfl (.tmp 46) (.tmp 48) 24 rfl w.heap.size 50 i0 _ 3 32 Tryz.underlying24 hi0 hz0 hz1 hz2 rfl (by decide) _ _ _ rfl HOA.out ⟨w5.heap.size,0,none⟩ 1 1 (inCells q) rfl rfl HNW.out H1.out H63.out HBY.out HBA.out ?_;intro v' w6 hown' hgrow _))
      have HO6 : Hid (w6.ownsRow w.heap.size 50 3 v' (acc ++ [q]).length ((acc ++ [q]).flatMap inCells)):=jj (by
       rw [List.length_append,List.flatMap_append]
       simpa using hown')
      have HR6:=jj (own_kept HRA.out HOA.out (by decide) hgrow);have HB6 : Hid (Below w.heap.size w w6):=jj ((HW5.out.alloc HW5.out.size _).grown hgrow HBA.out (own_ge HOA.out));have HAL : Hid ((acc ++ [q]).length = k + 1):=jj (by rw [List.length_append,HAC.out];rfl);clear hown' hgrow HOA HRA HNW;generalize acc ++ [q] = acc' at *;go_wp2_with fail
      go_roundw
      case rel =>
       have R : ∃ (k' : Nat) (a' : List InP),k' ≤ ls.length ∧ Value.int .i64 ((k : Int) + 1) = .int .i64 k' ∧ a'.length = k' ∧ Hid (mapO (rowP inP) (ls.take k') = some a') ∧ Hid (w6.ownsRow w.heap.size 50 3 v' a'.length (a'.flatMap inCells)) ∧ Hid (OwnS w6 w.heap.size (.slice (some ad) ls.length kg) ls) ∧ Hid (Below w.heap.size w w6):=⟨k + 1,acc',by omega,by go_num,HAL.out,HQ,HO6,HR6,HB6⟩
       first | exact R | ((repeat apply Exists.intro);exact ⟨R,rfl⟩)
      case measure => simp [intOf];omega
   ·obtain rfl : k = ls.length:=(by omega);have hd : decide (ls.length < ls.length) = false:=(by simp);rw [List.take_of_length_le (Nat.le_refl _)] at HD;go_wp2_with fail;go_ret2;unfold ListPost;rw [HWL.out,HD.out];exact ⟨⟨_,rfl,HO.out⟩,HW.out⟩
set_option maxRecDepth 100000 in
set_option maxHeartbeats 4000000 in
theorem outList_any (w : World) (b : List UInt8) (hb : b.length ≤ 4294967296) (hT : ITabs w) :
  Calls Tryz.prog 29 #[S b,.func (.func 30) #[] #[]] w (ListPost 54 2 outCells w (listP outP b)):=by
 obtain ⟨i0,hi0,hz0,hz1,hz2⟩:=info_parts Tryz.infoOutB;have HT:=jj hT;clear hT;go_enter Tryz.func29,Tryz.ntmps29;go_wp2_with fail;refine (texts_any w b (by omega)).mono ?_;rintro e w1 ⟨hm,hb1⟩;have HB1:=jj hb1;clear hb1;cases hT : textsA [] b with
 | error x =>
  have HQ : Hid (listP outP b = none):=jj (listP_err hT);have hx:=textsA_err' _ _ _ _ (Nat.le_refl _) hT;have hx0 : (x != 0) = true:=by rcases hx with rfl | rfl <;> rfl
  rw [hT] at hm;dsimp only at hm;subst hm;clear hT hx;go_wp2_with fail;go_ret2;unfold ListPost;rw [HQ.out];exact ⟨rfl,HB1.out⟩
 | ok ls =>
  rw [hT] at hm;obtain ⟨v,rfl,ho⟩:=hm;have hlc:=texts_count hT;have HLE : Hid (∀ x ∈ ls,x.length ≤ b.length):=jj (texts_mem hT);have HWL : Hid (listP outP b = mapO (rowP outP) ls):=jj (listP_ok hT);have HRO : Hid (OwnS w1 w.heap.size v ls):=jj ho;obtain ⟨G,kg,rfl,_,_⟩:=own_shape ho (by omega);clear ho hT;go_wp2_with (at_make;refine wpList_make_own _ rfl _ _ 25 rfl w.heap.size 54 i0 _ 2 Tryz.underlying25 hi0 hz0 hz1 .i64 .i64 _ ls.length rfl rfl rfl (by rw [hz2];omega) (by unfold maxLen;omega) HB1.out.size ?_;intro w2 hown2 hgrow2);have HO2:=jj hown2;have hbl : Below w1.heap.size w1 w2:=⟨hgrow2.os,hgrow2.tape,hgrow2.output,hgrow2.size,fun i hi => hgrow2.block i hi (by simp)⟩;have HB2:=jj (HB1.out.trans (hbl.mono HB1.out.size));have HR2:=jj (own_below HRO.out hbl);clear hown2 hgrow2 hbl HRO HB1;go_wp2_with fail
  go_loopw [8,27] (fun v i wr => ∃ (k : Nat) (acc : List OutP),k ≤ ls.length ∧ i = .int .i64 k ∧ acc.length = k ∧ Hid (mapO (rowP outP) (ls.take k) = some acc) ∧ Hid (wr.ownsRow w.heap.size 54 2 v acc.length (acc.flatMap outCells)) ∧ Hid (OwnS wr w.heap.size (.slice G ls.length kg) ls) ∧ Hid (Below w.heap.size w wr)) (fun _ i _ => ls.length - (intOf i).toNat)
  case atStart => exact ⟨0,[],by omega,rfl,rfl,jj rfl,HO2,HR2,HB2⟩
  case round =>
   obtain ⟨k,acc,hk,rfl,hac,HD,HO,HR,HW⟩:=hrel;have HAC:=jj hac;have hal : acc.length ≤ ls.length:=(by omega);clear hac HO2 HR2 HB2;by_cases hlt : k < ls.length
   ·obtain ⟨G1,kg1,e1,hlies,_⟩:=own_shape HR.out (by omega);injection e1 with e1 _ e2;subst e1 e2;obtain ⟨ad,rfl,had,hc⟩:=Strs.at' hlies hlt;have hrl:=HLE.out (ls.getD k []) (by rw [List.getD_eq_getElem?_getD,List.getElem?_eq_getElem hlt];exact List.getElem_mem hlt);have HNO:=jj (@mapO_none _ (rowP outP) ls k hlt);have HYES:=jj (fun p => @mapO_snoc _ (rowP outP) ls k acc p hlt HD.out);clear hlies;generalize ls.getD k [] = r at *;have q0 : (0 : Int) ≤ (k : Int):=(by omega);have q1 : (k : Int) < (ls.length : Int):=(by omega);go_wp2_with fail;refine (texts_any wr r (by omega)).mono ?_;rintro e w3 ⟨hm,hb3⟩;have HW3:=jj (HW.out.trans (hb3.mono HW.out.size));have HO3:=jj (own_below HO.out hb3);have HR3:=jj (own_below HR.out hb3);clear hb3 hc HW HO HR;obtain ⟨ov,hov⟩ : ∃ A m c,u8 = .slice A m c:=(by obtain ⟨A,c,e,_,_⟩:=own_shape HO3.out (by omega);exact ⟨A,_,c,e⟩);obtain ⟨om,oc,rfl⟩:=hov;cases hT : textsA [] r with
    | error x =>
     have HQ : Hid (listP outP b = none):=jj (by rw [HWL.out];exact HNO.out (rowP_err hT));have hx:=textsA_err' _ _ _ _ (Nat.le_refl _) hT;have hx0 : (x != 0) = true:=by rcases hx with rfl | rfl <;> rfl
     rw [hT] at hm;dsimp only at hm;subst hm;clear hT hx;go_wp2_with fail;go_ret2;unfold ListPost;rw [HQ.out];exact ⟨rfl,HW3.out⟩
    | ok ps =>
     rw [hT] at hm;obtain ⟨v,rfl,ho⟩:=hm;obtain ⟨P,kp,rfl,hlp,_⟩:=own_shape ho (by omega);have HLP:=jj hlp;have HRP : Hid (rowP outP r = outP ps):=jj (rowP_ok hT);have HPS : Hid (∀ x ∈ ps,x.length ≤ 1099511627776):=jj (fun x hx => by have:=texts_mem hT x hx;omega);clear ho hlp hT;go_wp2_with fail;refine (outOf_any w3 P kp ps HLP.out HPS.out (HT.out.below (Nat.le_refl _) HW3.out)).mono ?_;rintro e w4 ⟨⟨q,ok,rfl,hq⟩,hb4⟩;have HW4:=jj (HW3.out.trans (hb4.mono HW3.out.size));have HO4:=jj (own_below HO3.out hb4);have HR4:=jj (own_below HR3.out hb4);clear hb4 HW3 HO3 HR3 HLP;have HX:=jj (Whole.made w4 54 (outCells q).toArray);have HW5:=jj (HW4.out.alloc HW4.out.size (.cells (outCells q).toArray 54));have HO5:=jj (HO4.out.alloc (.cells (outCells q).toArray 54));have HR5:=jj (HR4.out.alloc (.cells (outCells q).toArray 54));clear HO4 HR4;go_upto_region 12 with (refine wpList_fresh rfl rfl 54 13 (.tmp 42) rfl rfl rfl rfl (outCells q) rfl rfl _ Tryz.infoOut rfl (out_one q) ?_);change Code.wp _ _ _ _ (w4.alloc (.cells (outCells q).toArray 54));generalize w4.alloc (.cells (outCells q).toArray 54) = w5 at *;generalize w4.heap.size = g1 at *
     have LD1 : Hid (∀ j v,(outCells q)[j]? = some v → w5.cell? ((⟨g1,0,none⟩ : Addr).add j) = some v):=jj fun j v hv => by
      rw [show (⟨g1,0,none⟩ : Addr).add j = ⟨g1,j,none⟩ by unfold Addr.add;by_cases h : j = 0 <;> simp [h]];rw [HX.out.cell j,List.getElem?_toArray];exact hv
     clear HW4 HX;cases ok with
     | false => have HQ : Hid (listP outP b = none):=jj (by rw [HWL.out];exact HNO.out (HRP.out.trans hq));clear hq;go_wp2_with fail;go_ret2;unfold ListPost;rw [HQ.out];exact ⟨rfl,HW5.out⟩
     | true =>
      have HQ : Hid (mapO (rowP outP) (ls.take (k + 1)) = some (acc ++ [q])):=jj (HYES.out q (HRP.out.trans hq));clear hq
      have HNW : Hid (∀ i u,(outCells q)[i]? = some u → (w5.alloc (.cells (outCells q).toArray 54)).cell? ((⟨w5.heap.size,0,none⟩ : Addr).add i) = some u):=jj (fun i u hu => by
       obtain ⟨ad',e',_,hc'⟩:=lies_made w5 54 (outCells q) (w5.heap.size + 1) (by omega) i u hu;injection e' with e';subst e';exact hc')
      have H1:=jj (out_one q);have H63 : Hid (acc.length + 1 ≤ maxLen):=jj (by unfold maxLen;omega);have HBY : Hid ((acc.length + 1) * 24 ≤ 140737488355328):=jj (by omega);have HBA : Hid (w.heap.size ≤ (w5.alloc (.cells (outCells q).toArray 54)).heap.size):=jj (by have:=HW5.out.size;simp;omega);have HOA:=jj (HO5.out.alloc (.cells (outCells q).toArray 54));have HRA:=jj (HR5.out.alloc (.cells (outCells q).toArray 54))
      go_wp2_with (first
       | (refine wpList_load_at rfl 54 (.tmp 13) rfl ⟨g1,0,none⟩ rfl (outCells q) _ LD1.out Tryz.underlying54 rfl (by kernel_rfl) ?_)
       | (refine wpList_made_out rfl 47 rfl q rfl ?_)
       | (at_builtin;refine wpList_append_own _ rfl (.tmp 46) (.tmp 48) 25 rfl w.heap.size 54 i0 _ 2 24 Tryz.underlying25 hi0 hz0 hz1 hz2 rfl (by decide) _ _ _ rfl HOA.out ⟨w5.heap.size,0,none⟩ 1 1 (outCells q) rfl rfl HNW.out H1.out H63.out HBY.out HBA.out ?_;intro v' w6 hown' hgrow _))
      have HO6 : Hid (w6.ownsRow w.heap.size 54 2 v' (acc ++ [q]).length ((acc ++ [q]).flatMap outCells)):=jj (by
       rw [List.length_append,List.flatMap_append]
       simpa using hown')
      have HR6:=jj (own_kept HRA.out HOA.out (by decide) hgrow);have HB6 : Hid (Below w.heap.size w w6):=jj ((HW5.out.alloc HW5.out.size _).grown hgrow HBA.out (own_ge HOA.out));have HAL : Hid ((acc ++ [q]).length = k + 1):=jj (by rw [List.length_append,HAC.out];rfl);clear hown' hgrow HOA HRA HNW;generalize acc ++ [q] = acc' at *;go_wp2_with fail
      go_roundw
      case rel =>
       have R : ∃ (k' : Nat) (a' : List OutP),k' ≤ ls.length ∧ Value.int .i64 ((k : Int) + 1) = .int .i64 k' ∧ a'.length = k' ∧ Hid (mapO (rowP outP) (ls.take k') = some a') ∧ Hid (w6.ownsRow w.heap.size 54 2 v' a'.length (a'.flatMap outCells)) ∧ Hid (OwnS w6 w.heap.size (.slice (some ad) ls.length kg) ls) ∧ Hid (Below w.heap.size w w6):=⟨k + 1,acc',by omega,by go_num,HAL.out,HQ,HO6,HR6,HB6⟩
       first | exact R | ((repeat apply Exists.intro);exact ⟨R,rfl⟩)
      case measure => simp [intOf];omega
   ·obtain rfl : k = ls.length:=(by omega);have hd : decide (ls.length < ls.length) = false:=(by simp);rw [List.take_of_length_le (Nat.le_refl _)] at HD;go_wp2_with fail;go_ret2;unfold ListPost;rw [HWL.out,HD.out];exact ⟨⟨_,rfl,HO.out⟩,HW.out⟩
end Go.Proofs.YtdlnmdbonagchaaGreatDoor
