import Derived.Test.YtdlnmdbonagchaaGreatDoorRcP
import Derived.Test.YtdlnmdbonagchaaGreatDoorSureA
import Derived.Test.YtdlnmdbonagchaaGreatDoorMcA
import Derived.Test.YtdlnmdbonagchaaGreatDoorPlnQ
namespace Go.Proofs.YtdlnmdbonagchaaGreatDoor
open Go.RowKit
def inCells (p : InP) : List Value:=[.int .u64 p.1,S p.2.1,.bool p.2.2]
def outCells (p : OutP) : List Value:=[.int .u64 p.1,S p.2]
abbrev Ins (w : World) (B : Nat) (A : Option Addr) (l : List InP) : Prop:=Lies w B A (l.flatMap inCells)
abbrev Outs (w : World) (B : Nat) (A : Option Addr) (l : List OutP) : Prop:=Lies w B A (l.flatMap outCells)
theorem in_one (p : InP) : ∀ v ∈ inCells p,v.oneCell' = true:=by intro v hv;simp only [inCells,List.mem_cons,List.not_mem_nil,or_false] at hv;rcases hv with rfl | rfl | rfl <;> rfl
theorem out_one (p : OutP) : ∀ v ∈ outCells p,v.oneCell' = true:=by intro v hv;simp only [outCells,List.mem_cons,List.not_mem_nil,or_false] at hv;rcases hv with rfl | rfl <;> rfl
theorem Tryz.infoIn : (Tryz.prog.info? 50).map (fun i => (i.zero,i.size)) = some (some (.agg #[.int .u64 0,.string ⟨#[]⟩,.bool false]),3):=by kernel_rfl
theorem Tryz.infoOut : (Tryz.prog.info? 54).map (fun i => (i.zero,i.size)) = some (some (.agg #[.int .u64 0,.string ⟨#[]⟩]),2):=by kernel_rfl
theorem own_lt {w : World} {base : Nat} {e : TypeId} {size : Nat} {v : Value} {n : Nat} {xs : List Value} (h : w.ownsRow base e size v n xs) : ∀ g,v.ownBlock = some g → g < w.heap.size:=fun g hg => by
 rcases h.2 with ⟨rfl,_⟩ | ⟨g',cap,cur,rfl,_,hc,_⟩
 ·cases hg
 ·have e : g' = g:=(by have:=hg;simp only [Value.ownBlock] at this;injection this);subst e;exact (Array.getElem?_eq_some_iff.1 hc).1
theorem opStep_un {P : Program} {ops : Array Oper} {Q : Exit → Act → World → Prop} {j : Nat} {b : Bool} {o : Oper} {K : Act → World → Prop} {a : Act} {w : World} (hg : o.guard = some (j,b)) {d : Nat} (hd : dstAt ops j = some d) (hv : a.eval (.tmp d) = undef) (h : K (a.put o.dst undef) w) : opStep P ops Q o K a w:=by
 have hy : yielded ops a.tmps j = none:=by
  unfold yielded;unfold dstAt at hd;rw [hd];have hv : a.tmps.getD d undef = undef:=hv;rw [Array.getD_eq_getD_getElem?] at hv;simp only [Option.bind_some];cases ht : a.tmps[d]? with
  | none => rfl
  | some v => rw [ht] at hv;have hv : v = undef:=hv;rw [hv];rfl
 have hw : Region.wanted o (yielded ops a.tmps) = false:=(by simp [Region.wanted,hg,hy]);unfold opStep;rw [hw];exact h
theorem map_getD {α : Type} (f : α → Int) {l : List α} {k : Nat} {p : α} (h : l[k]? = some p) : (l.map f).getD k 0 = f p:=by
 rw [List.getD_eq_getElem?_getD,List.getElem?_map,h];rfl
theorem stepB_no1 {α : Type} (f : α → Int) {l : List α} {k : Nat} {s : Int} {p : α} (h : l[k]? = some p) (h1 : ¬ f p < s) : stepB (l.map f) s k = false:=by
 unfold stepB;rw [map_getD f h,decide_eq_false h1];rfl
theorem stepB_no2 {α : Type} (f : α → Int) {l : List α} {k : Nat} {s : Int} {p q : α} (h : l[k + 1]? = some p) (h' : l[k]? = some q) (h1 : ¬ f q < f p) : stepB (l.map f) s (k + 1) = false:=by
 unfold stepB;rw [map_getD f h,Nat.add_sub_cancel,map_getD f h',decide_eq_false h1,Bool.or_false];simp
theorem stepB_zero {α : Type} (f : α → Int) {l : List α} {s : Int} {p : α} (h : l[0]? = some p) (h1 : f p < s) : stepB (l.map f) s 0 = true:=by
 unfold stepB;rw [map_getD f h,decide_eq_true h1];rfl
theorem stepB_succ {α : Type} (f : α → Int) {l : List α} {k : Nat} {s : Int} {p q : α} (h : l[k + 1]? = some p) (h' : l[k]? = some q) (h0 : f p < s) (h1 : f q < f p) : stepB (l.map f) s (k + 1) = true:=by
 unfold stepB;rw [map_getD f h,Nat.add_sub_cancel,map_getD f h',decide_eq_true h0,decide_eq_true h1];simp
set_option maxRecDepth 100000 in
theorem inAt_any (w : World) (n : Int) (y : List UInt8) (b : Bool) : Calls Tryz.prog 39 #[.agg (inCells (n,y,b)).toArray] w fun e w' => e = .returned (.int .u64 n) ∧ Below w.heap.size w w':=by
 have hx:=Whole.made w 50 (inCells (n,y,b)).toArray;have c0 : (w.alloc (.cells (inCells (n,y,b)).toArray 50)).cell? ⟨w.heap.size,0,none⟩ = some (.int .u64 n):=hx.cell 0;clear hx;go_enter Tryz.func39,Tryz.ntmps39;go_wp2_with fail;go_ret;exact ⟨rfl,(Below.refl _ _).alloc (Nat.le_refl _) _⟩
set_option maxRecDepth 100000 in
theorem outAt_any (w : World) (n : Int) (y : List UInt8) : Calls Tryz.prog 47 #[.agg (outCells (n,y)).toArray] w fun e w' => e = .returned (.int .u64 n) ∧ Below w.heap.size w w':=by
 have hx:=Whole.made w 54 (outCells (n,y)).toArray;have c0 : (w.alloc (.cells (outCells (n,y)).toArray 54)).cell? ⟨w.heap.size,0,none⟩ = some (.int .u64 n):=hx.cell 0;clear hx;go_enter Tryz.func47,Tryz.ntmps47;go_wp2_with fail;go_ret;exact ⟨rfl,(Below.refl _ _).alloc (Nat.le_refl _) _⟩
set_option maxRecDepth 100000 in
set_option maxHeartbeats 4000000 in
theorem riseIn_any (w : World) (A : Option Addr) (c : Nat) (l : List InP) (s : Int) (hA : Ins w w.heap.size A l) (hl : l.length ≤ 1099511627776) (hs : 0 ≤ s ∧ s ≤ 100000) :
  Calls Tryz.prog 38 #[.slice A l.length c,.int .i64 s,.func (.func 39) #[] #[]] w fun e w' => e = .returned (.bool (riseB (l.map (·.1)) s)) ∧ Below w.heap.size w w':=by
 have HA:=jj hA;clear hA;have hsw : IntKind.u64.wrap s = s:=(by rw [IntKind.wrap_u64];omega);have HS:=jj hs;clear hs;go_enter Tryz.func38,Tryz.ntmps38;go_wp2_with fail
 go_loopw [11] (fun i wr => ∃ k : Nat,k ≤ l.length ∧ i = .int .i64 k ∧ Hid (∀ j,j < k → stepB (l.map (·.1)) s j = true) ∧ Hid (Below w.heap.size w wr)) (fun i _ => l.length - (intOf i).toNat)
 case atStart => exact ⟨0,by omega,rfl,jj (fun j hj => absurd hj (Nat.not_lt_zero j)),jj (Below.refl _ _)⟩
 case round =>
  obtain ⟨k,hk,rfl,HK,HW⟩:=hrel;by_cases hlt : k < l.length
  ·obtain ⟨p,hp⟩:=get_some hlt;have HLT:=jj hlt;obtain ⟨bd,rfl,hbd,hc⟩:=Lies.row (f:=inCells) (n:=3) HA.out (fun y hy => rfl) (by omega) hp;have HP:=jj hp;obtain ⟨n,y,b⟩:=p;have q0 : (0 : Int) ≤ (k : Int):=(by omega);have q1 : (k : Int) < (l.length : Int):=(by omega);have LD : Hid (∀ j v,(inCells (n,y,b))[j]? = some v → wr.cell? ((bd.add (k * 3)).add j) = some v):=jj fun j v hv => (HW.out.cell (by show ((bd.add (k * 3)).add j).block < _;rw [add_block,add_block];exact hbd)).trans (hc j v hv);have HZ:=jj (Whole.made wr 50 [Value.int .u64 0,S [],Value.bool false].toArray);have HWA:=jj (HW.out.alloc HW.out.size (.cells [Value.int .u64 0,S [],Value.bool false].toArray 50));have HGE : Hid (w.heap.size ≤ wr.heap.size):=jj HW.out.size;clear hc hp
   go_upto_region 4 with (first
    | (refine wpList_load_at rfl 50 (.tmp 14) rfl (bd.add (k * 3)) rfl (inCells (n,y,b)) _ LD.out Tryz.underlying50 rfl (by kernel_rfl) ?_)
    | (refine wpList_store_all rfl 50 (.tmp 8) (.tmp 15) rfl rfl wr.heap.size rfl (inCells (n,y,b)) rfl (by kernel_rfl) [Value.int .u64 0,S [],Value.bool false] 50 HZ.out rfl (in_one (n,y,b)) ?_
       intro w1 HX HF))
   have HW1:=jj (below_grown HWA.out HF.out (by simp;have:=HGE.out;omega) HGE.out);clear HF HZ HWA;generalize wr.heap.size = g1 at *
   have HXC : Hid (∀ W,Below w1.heap.size w1 W → ∀ j v,(inCells (n,y,b))[j]? = some v → W.cell? ((⟨g1,0,none⟩ : Addr).add j) = some v):=jj fun W hW j v hv => by
    rw [show (⟨g1,0,none⟩ : Addr).add j = ⟨g1,j,none⟩ by unfold Addr.add;by_cases h : j = 0 <;> simp [h]];rw [(HX.out.below hW HX.out.lt).cell j,List.getElem?_toArray];exact hv
   have C1:=jj (fun W : World => inAt_any W n y b);clear LD HW;by_cases h1 : n < s
   ·have d1 : decide (s ≤ n) = false:=(by simp;omega);have d1' : decide (n ≥ s) = false:=d1;by_cases hk0 : k = 0
    ·subst hk0;have HST:=jj (stepB_zero (·.1) HP.out h1);clear h1;refine' wp_region_sure (by kernel_rfl) (fun W => Below w1.heap.size w1 W) 23 [_,_,_,_,_,_,_,_,_,_,undef,undef,undef,undef,undef,undef,undef,undef,undef,undef,undef,_,_] [some 16,some 17,some 18,some 19,some 20,some 21,some 22,some 23,some 24,some 25,some 26,some 27,some 28,some 29,some 30,some 31,some 32,some 33,some 34,some 35,some 36,some 37,some 38] (by kernel_rfl) (by kernel_rfl) (by kernel_rfl) (by kernel_rfl) rfl (Below.refl _ _).drew ?hsa
     case hsa =>
      refine sure_cons ?_ ?_
      ·intro L ac W K hed hJ hS hK;have hA2 : ac.eval (.tmp 2) = .func (.func 39) #[] #[]:=hJ.eval_old 2 (by kernel_rfl);clear hed hJ;refine opStep_of rfl ?_;unfold Oper.wp execOp;have hN2:=evalN hA2;go_simp;exact hK _ hS
      refine sure_cons ?_ ?_
      ·intro L ac W K hed hJ hS hK;have hA8 : ac.eval (.tmp 8) = .pointer (some ⟨g1,0,none⟩):=hJ.eval_old 8 (by kernel_rfl);clear hed hJ;refine opStep_of rfl ?_;refine oper_load_at 50 (.tmp 8) rfl ⟨g1,0,none⟩ hA8 (inCells (n,y,b)) _ (HXC.out W hS) Tryz.underlying50 rfl (by kernel_rfl) ?_;exact hK _ hS
      refine sure_cons ?_ ?_
      ·intro L ac W K hed hJ hS hK;have hn:=needs_spec (l:=[0,1]) (by kernel_rfl) hed;have hA16:=hJ.eval 0 (d:=16) (hn 0 (by simp)) rfl rfl rfl;have hA17:=hJ.eval 1 (d:=17) (hn 1 (by simp)) rfl rfl rfl;clear hed hJ hn;refine opStep_of rfl ?_;unfold Oper.wp execOp;have hN16:=evalN hA16;have hN17:=evalN hA17;go_simp;refine (C1.out W).mono ?_;rintro e W' ⟨rfl,hb⟩;have hS2:=hS.trans (hb.mono hS.size);dsimp only;exact hK W' hS2
      refine sure_cons ?_ ?_
      ·intro L ac W K hed hJ hS hK;have hA1 : ac.eval (.tmp 1) = .int .i64 s:=hJ.eval_old 1 (by kernel_rfl);clear hed hJ;refine opStep_of rfl ?_;unfold Oper.wp execOp;have hN1:=evalN hA1;go_simp;exact hK _ hS
      refine sure_cons ?_ ?_
      ·intro L ac W K hed hJ hS hK;have hn:=needs_spec (l:=[3]) (by kernel_rfl) hed;have hA19:=hJ.eval 3 (d:=19) (hn 3 (by simp)) rfl rfl rfl;clear hed hJ hn;refine opStep_of rfl ?_;unfold Oper.wp execOp;have hN19:=evalN hA19;go_simp;exact hK _ hS
      refine sure_cons ?_ ?_
      ·intro L ac W K hed hJ hS hK;have hn:=needs_spec (l:=[2,4]) (by kernel_rfl) hed;have hA18:=hJ.eval 2 (d:=18) (hn 2 (by simp)) rfl rfl rfl;have hA20:=hJ.eval 4 (d:=20) (hn 4 (by simp)) rfl rfl rfl;clear hed hJ hn;refine opStep_of rfl ?_;unfold Oper.wp execOp;have hN18:=evalN hA18;have hN20:=evalN hA20;go_simp;exact hK _ hS
      refine sure_cons ?_ ?_
      ·intro L ac W K hed hJ hS hK;have hn:=needs_spec (l:=[5]) (by kernel_rfl) hed;have hA21:=hJ.eval 5 (d:=21) (hn 5 (by simp)) rfl rfl rfl;clear hed hJ hn;refine opStep_of rfl ?_;unfold Oper.wp execOp;have hN21:=evalN hA21;go_simp;exact hK _ hS
      refine sure_cons ?_ ?_
      ·intro L ac W K hed hJ hS hK;have hn:=needs_spec (l:=[6]) (by kernel_rfl) hed;have hA7 : ac.eval (.tmp 7) = .int .i64 (0 : Int):=hJ.eval_old 7 (by kernel_rfl);have hA22:=hJ.eval 6 (d:=22) (hn 6 (by simp)) rfl rfl rfl;have hsz:=jj hJ.size;clear hed hJ hn;refine opStep_yes rfl (d:=22) rfl (by rw [hsz.out];rfl) hA22 ?_;clear hsz;unfold Oper.wp execOp;have hN7:=evalN hA7;go_simp;exact hK _ hS
      refine sure_cons ?_ ?_
      ·intro L ac W K hed hJ hS hK;have hn:=needs_spec (l:=[6,7]) (by kernel_rfl) hed;have hA23:=hJ.eval 7 (d:=23) (hn 7 (by simp)) rfl rfl rfl;have hA22:=hJ.eval 6 (d:=22) (hn 6 (by simp)) rfl rfl rfl;have hsz:=jj hJ.size;clear hed hJ hn;refine opStep_yes rfl (d:=22) rfl (by rw [hsz.out];rfl) hA22 ?_;clear hsz;unfold Oper.wp execOp;have hN23:=evalN hA23;go_simp;exact hK _ hS
      refine sure_cons ?_ ?_
      ·intro L ac W K hed hJ hS hK;have hn:=needs_spec (l:=[6,8]) (by kernel_rfl) hed;have hA24:=hJ.eval 8 (d:=24) (hn 8 (by simp)) rfl rfl rfl;have hA22:=hJ.eval 6 (d:=22) (hn 6 (by simp)) rfl rfl rfl;have hsz:=jj hJ.size;clear hed hJ hn;refine opStep_yes rfl (d:=22) rfl (by rw [hsz.out];rfl) hA22 ?_;clear hsz;unfold Oper.wp execOp;have hN24:=evalN hA24;go_simp;exact hK _ hS
      refine sure_cons ?_ ?_
      ·intro L ac W K hed hJ hS hK;have hn:=needs_spec (l:=[9]) (by kernel_rfl) hed;have hA25:=hJ.eval 9 (d:=25) (hn 9 (by simp)) rfl rfl rfl;have hsz:=jj hJ.size;clear hed hJ hn;refine opStep_no rfl (d:=25) rfl (by rw [hsz.out];rfl) hA25 rfl ?_;exact hK _ hS
      refine sure_cons ?_ ?_
      ·intro L ac W K hed hJ hS hK;have hn:=needs_spec (l:=[9]) (by kernel_rfl) hed;have hA25:=hJ.eval 9 (d:=25) (hn 9 (by simp)) rfl rfl rfl;have hsz:=jj hJ.size;clear hed hJ hn;refine opStep_no rfl (d:=25) rfl (by rw [hsz.out];rfl) hA25 rfl ?_;exact hK _ hS
      refine sure_cons ?_ ?_
      ·intro L ac W K hed hJ hS hK;have hn:=needs_spec (l:=[9]) (by kernel_rfl) hed;have hA25:=hJ.eval 9 (d:=25) (hn 9 (by simp)) rfl rfl rfl;have hsz:=jj hJ.size;clear hed hJ hn;refine opStep_no rfl (d:=25) rfl (by rw [hsz.out];rfl) hA25 rfl ?_;exact hK _ hS
      refine sure_cons ?_ ?_
      ·intro L ac W K hed hJ hS hK;have hn:=needs_spec (l:=[9]) (by kernel_rfl) hed;have hA25:=hJ.eval 9 (d:=25) (hn 9 (by simp)) rfl rfl rfl;have hsz:=jj hJ.size;clear hed hJ hn;refine opStep_no rfl (d:=25) rfl (by rw [hsz.out];rfl) hA25 rfl ?_;exact hK _ hS
      refine sure_cons ?_ ?_
      ·intro L ac W K hed hJ hS hK;have hn:=needs_spec (l:=[9]) (by kernel_rfl) hed;have hA25:=hJ.eval 9 (d:=25) (hn 9 (by simp)) rfl rfl rfl;have hsz:=jj hJ.size;clear hed hJ hn;refine opStep_no rfl (d:=25) rfl (by rw [hsz.out];rfl) hA25 rfl ?_;exact hK _ hS
      refine sure_cons ?_ ?_
      ·intro L ac W K hed hJ hS hK;have hn:=needs_spec (l:=[9]) (by kernel_rfl) hed;have hA25:=hJ.eval 9 (d:=25) (hn 9 (by simp)) rfl rfl rfl;have hsz:=jj hJ.size;clear hed hJ hn;refine opStep_no rfl (d:=25) rfl (by rw [hsz.out];rfl) hA25 rfl ?_;exact hK _ hS
      refine sure_cons ?_ ?_
      ·intro L ac W K hed hJ hS hK;have hn:=needs_spec (l:=[9]) (by kernel_rfl) hed;have hA25:=hJ.eval 9 (d:=25) (hn 9 (by simp)) rfl rfl rfl;have hsz:=jj hJ.size;clear hed hJ hn;refine opStep_no rfl (d:=25) rfl (by rw [hsz.out];rfl) hA25 rfl ?_;exact hK _ hS
      refine sure_cons ?_ ?_
      ·intro L ac W K hed hJ hS hK;have hn:=needs_spec (l:=[9]) (by kernel_rfl) hed;have hA25:=hJ.eval 9 (d:=25) (hn 9 (by simp)) rfl rfl rfl;have hsz:=jj hJ.size;clear hed hJ hn;refine opStep_no rfl (d:=25) rfl (by rw [hsz.out];rfl) hA25 rfl ?_;exact hK _ hS
      refine sure_cons ?_ ?_
      ·intro L ac W K hed hJ hS hK;have hn:=needs_spec (l:=[9]) (by kernel_rfl) hed;have hA25:=hJ.eval 9 (d:=25) (hn 9 (by simp)) rfl rfl rfl;have hsz:=jj hJ.size;clear hed hJ hn;refine opStep_no rfl (d:=25) rfl (by rw [hsz.out];rfl) hA25 rfl ?_;exact hK _ hS
      refine sure_cons ?_ ?_
      ·intro L ac W K hed hJ hS hK;have hn:=needs_spec (l:=[9]) (by kernel_rfl) hed;have hA25:=hJ.eval 9 (d:=25) (hn 9 (by simp)) rfl rfl rfl;have hsz:=jj hJ.size;clear hed hJ hn;refine opStep_no rfl (d:=25) rfl (by rw [hsz.out];rfl) hA25 rfl ?_;exact hK _ hS
      refine sure_cons ?_ ?_
      ·intro L ac W K hed hJ hS hK;have hn:=needs_spec (l:=[9]) (by kernel_rfl) hed;have hA25:=hJ.eval 9 (d:=25) (hn 9 (by simp)) rfl rfl rfl;have hsz:=jj hJ.size;clear hed hJ hn;refine opStep_no rfl (d:=25) rfl (by rw [hsz.out];rfl) hA25 rfl ?_;exact hK _ hS
      refine sure_cons ?_ ?_
      ·intro L ac W K hed hJ hS hK;have hn:=needs_spec (l:=[6,9,20]) (by kernel_rfl) hed;have hA25:=hJ.eval 9 (d:=25) (hn 9 (by simp)) rfl rfl rfl;have hA36:=hJ.eval 20 (d:=36) (hn 20 (by simp)) rfl rfl rfl;have hA22:=hJ.eval 6 (d:=22) (hn 6 (by simp)) rfl rfl rfl;have hsz:=jj hJ.size;clear hed hJ hn;refine opStep_yes rfl (d:=22) rfl (by rw [hsz.out];rfl) hA22 ?_;clear hsz;unfold Oper.wp execOp;have hN25:=evalN hA25;have hN36:=evalN hA36;go_simp;exact hK _ hS
      refine sure_cons ?_ ?_
      ·intro L ac W K hed hJ hS hK;have hn:=needs_spec (l:=[6,21]) (by kernel_rfl) hed;have hA22:=hJ.eval 6 (d:=22) (hn 6 (by simp)) rfl rfl rfl;have hA37:=hJ.eval 21 (d:=37) (hn 21 (by simp)) rfl rfl rfl;clear hed hJ hn;refine opStep_of rfl ?_;unfold Oper.wp execOp;have hN22:=evalN hA22;have hN37:=evalN hA37;go_simp;exact hK _ hS
      refine sure_nil ?_;intro W hS;simp only [putAll,Act.put,List.setIfInBounds_toArray,List.set_cons_zero,List.set_cons_succ];have HV:=jj (HW1.out.trans (hS.mono HW1.out.size));clear hS;go_wp2_with fail
      go_roundw
      case rel =>
       have R : ∃ k' : Nat,k' ≤ l.length ∧ Value.int .i64 ((0 : Nat) + 1 : Int) = .int .i64 k' ∧ Hid (∀ j,j < k' → stepB (l.map (·.1)) s j = true) ∧ Hid (Below w.heap.size w W):=⟨0 + 1,by have:=HLT.out;omega,by go_num,jj (fun j hj => by
        rcases Nat.lt_or_ge j (0) with h | h
        ·exact HK.out j h
        ·obtain rfl : j = 0:=(by omega);exact HST.out),HV⟩
       first | exact R | ((repeat apply Exists.intro);exact ⟨R,rfl⟩)
      case measure => first | (simp [intOf];done) | (simp [intOf];have:=HLT.out;omega)
    ·obtain ⟨kk,rfl⟩ : ∃ kk,k = kk + 1:=⟨k - 1,by omega⟩;obtain ⟨q,hq⟩:=get_some (l:=l) (k:=kk) (by omega);obtain ⟨bd',e,_,hc⟩:=Lies.row (f:=inCells) (n:=3) HA.out (fun y hy => rfl) (by omega) hq;injection e with e;subst e;have HQ:=jj hq;obtain ⟨n2,y2,b2⟩:=q;have C2:=jj (fun W : World => inAt_any W n2 y2 b2);have HPC : Hid (∀ W,Below w1.heap.size w1 W → ∀ j v,(inCells (n2,y2,b2))[j]? = some v → W.cell? ((bd.add (kk * 3)).add j) = some v):=jj fun W hW j v hv => ((HW1.out.trans (hW.mono HW1.out.size)).cell (by show ((bd.add (kk * 3)).add j).block < _;rw [add_block,add_block];exact hbd)).trans (hc j v hv);have e1 : ((kk + 1 : Nat) : Int) - 1 = (kk : Int):=(by omega);have z1 : (0 : Int) ≤ (kk : Int):=(by omega);have e2 : IntKind.i64.wrap (kk : Int) = (kk : Int):=(by rw [IntKind.wrap_i64];omega);have z2 : (kk : Int) < (l.length : Int):=(by omega);have d2 : decide (((kk + 1 : Nat) : Int) > 0) = true:=(by simp);clear hc hq;by_cases h2 : n2 < n
     ·have d3 : decide (n ≤ n2) = false:=(by simp;omega);have HST:=jj (stepB_succ (·.1) HP.out HQ.out h1 h2);clear h1 h2;refine' wp_region_sure (by kernel_rfl) (fun W => Below w1.heap.size w1 W) 23 [_,_,_,_,_,_,_,_,_,_,_,_,_,_,_,_,_,_,_,_,_,_,_] [some 16,some 17,some 18,some 19,some 20,some 21,some 22,some 23,some 24,some 25,some 26,some 27,some 28,some 29,some 30,some 31,some 32,some 33,some 34,some 35,some 36,some 37,some 38] (by kernel_rfl) (by kernel_rfl) (by kernel_rfl) (by kernel_rfl) rfl (Below.refl _ _).drew ?hsb
      case hsb =>
       refine sure_cons ?_ ?_
       ·intro L ac W K hed hJ hS hK;have hA2 : ac.eval (.tmp 2) = .func (.func 39) #[] #[]:=hJ.eval_old 2 (by kernel_rfl);clear hed hJ;refine opStep_of rfl ?_;unfold Oper.wp execOp;have hN2:=evalN hA2;go_simp;exact hK _ hS
       refine sure_cons ?_ ?_
       ·intro L ac W K hed hJ hS hK;have hA8 : ac.eval (.tmp 8) = .pointer (some ⟨g1,0,none⟩):=hJ.eval_old 8 (by kernel_rfl);clear hed hJ;refine opStep_of rfl ?_;refine oper_load_at 50 (.tmp 8) rfl ⟨g1,0,none⟩ hA8 (inCells (n,y,b)) _ (HXC.out W hS) Tryz.underlying50 rfl (by kernel_rfl) ?_;exact hK _ hS
       refine sure_cons ?_ ?_
       ·intro L ac W K hed hJ hS hK;have hn:=needs_spec (l:=[0,1]) (by kernel_rfl) hed;have hA16:=hJ.eval 0 (d:=16) (hn 0 (by simp)) rfl rfl rfl;have hA17:=hJ.eval 1 (d:=17) (hn 1 (by simp)) rfl rfl rfl;clear hed hJ hn;refine opStep_of rfl ?_;unfold Oper.wp execOp;have hN16:=evalN hA16;have hN17:=evalN hA17;go_simp;refine (C1.out W).mono ?_;rintro e W' ⟨rfl,hb⟩;have hS2:=hS.trans (hb.mono hS.size);dsimp only;exact hK W' hS2
       refine sure_cons ?_ ?_
       ·intro L ac W K hed hJ hS hK;have hA1 : ac.eval (.tmp 1) = .int .i64 s:=hJ.eval_old 1 (by kernel_rfl);clear hed hJ;refine opStep_of rfl ?_;unfold Oper.wp execOp;have hN1:=evalN hA1;go_simp;exact hK _ hS
       refine sure_cons ?_ ?_
       ·intro L ac W K hed hJ hS hK;have hn:=needs_spec (l:=[3]) (by kernel_rfl) hed;have hA19:=hJ.eval 3 (d:=19) (hn 3 (by simp)) rfl rfl rfl;clear hed hJ hn;refine opStep_of rfl ?_;unfold Oper.wp execOp;have hN19:=evalN hA19;go_simp;exact hK _ hS
       refine sure_cons ?_ ?_
       ·intro L ac W K hed hJ hS hK;have hn:=needs_spec (l:=[2,4]) (by kernel_rfl) hed;have hA18:=hJ.eval 2 (d:=18) (hn 2 (by simp)) rfl rfl rfl;have hA20:=hJ.eval 4 (d:=20) (hn 4 (by simp)) rfl rfl rfl;clear hed hJ hn;refine opStep_of rfl ?_;unfold Oper.wp execOp;have hN18:=evalN hA18;have hN20:=evalN hA20;go_simp;exact hK _ hS
       refine sure_cons ?_ ?_
       ·intro L ac W K hed hJ hS hK;have hn:=needs_spec (l:=[5]) (by kernel_rfl) hed;have hA21:=hJ.eval 5 (d:=21) (hn 5 (by simp)) rfl rfl rfl;clear hed hJ hn;refine opStep_of rfl ?_;unfold Oper.wp execOp;have hN21:=evalN hA21;go_simp;exact hK _ hS
       refine sure_cons ?_ ?_
       ·intro L ac W K hed hJ hS hK;have hn:=needs_spec (l:=[6]) (by kernel_rfl) hed;have hA7 : ac.eval (.tmp 7) = .int .i64 ((kk + 1 : Nat) : Int):=hJ.eval_old 7 (by kernel_rfl);have hA22:=hJ.eval 6 (d:=22) (hn 6 (by simp)) rfl rfl rfl;have hsz:=jj hJ.size;clear hed hJ hn;refine opStep_yes rfl (d:=22) rfl (by rw [hsz.out];rfl) hA22 ?_;clear hsz;unfold Oper.wp execOp;have hN7:=evalN hA7;go_simp;exact hK _ hS
       refine sure_cons ?_ ?_
       ·intro L ac W K hed hJ hS hK;have hn:=needs_spec (l:=[6,7]) (by kernel_rfl) hed;have hA23:=hJ.eval 7 (d:=23) (hn 7 (by simp)) rfl rfl rfl;have hA22:=hJ.eval 6 (d:=22) (hn 6 (by simp)) rfl rfl rfl;have hsz:=jj hJ.size;clear hed hJ hn;refine opStep_yes rfl (d:=22) rfl (by rw [hsz.out];rfl) hA22 ?_;clear hsz;unfold Oper.wp execOp;have hN23:=evalN hA23;go_simp;exact hK _ hS
       refine sure_cons ?_ ?_
       ·intro L ac W K hed hJ hS hK;have hn:=needs_spec (l:=[6,8]) (by kernel_rfl) hed;have hA24:=hJ.eval 8 (d:=24) (hn 8 (by simp)) rfl rfl rfl;have hA22:=hJ.eval 6 (d:=22) (hn 6 (by simp)) rfl rfl rfl;have hsz:=jj hJ.size;clear hed hJ hn;refine opStep_yes rfl (d:=22) rfl (by rw [hsz.out];rfl) hA22 ?_;clear hsz;unfold Oper.wp execOp;have hN24:=evalN hA24;go_simp;exact hK _ hS
       refine sure_cons ?_ ?_
       ·intro L ac W K hed hJ hS hK;have hn:=needs_spec (l:=[9]) (by kernel_rfl) hed;have hA2 : ac.eval (.tmp 2) = .func (.func 39) #[] #[]:=hJ.eval_old 2 (by kernel_rfl);have hA25:=hJ.eval 9 (d:=25) (hn 9 (by simp)) rfl rfl rfl;have hsz:=jj hJ.size;clear hed hJ hn;refine opStep_yes rfl (d:=25) rfl (by rw [hsz.out];rfl) hA25 ?_;clear hsz;unfold Oper.wp execOp;have hN2:=evalN hA2;go_simp;exact hK _ hS
       refine sure_cons ?_ ?_
       ·intro L ac W K hed hJ hS hK;have hn:=needs_spec (l:=[9]) (by kernel_rfl) hed;have hA8 : ac.eval (.tmp 8) = .pointer (some ⟨g1,0,none⟩):=hJ.eval_old 8 (by kernel_rfl);have hA25:=hJ.eval 9 (d:=25) (hn 9 (by simp)) rfl rfl rfl;have hsz:=jj hJ.size;clear hed hJ hn;refine opStep_yes rfl (d:=25) rfl (by rw [hsz.out];rfl) hA25 ?_;clear hsz;refine oper_load_at 50 (.tmp 8) rfl ⟨g1,0,none⟩ hA8 (inCells (n,y,b)) _ (HXC.out W hS) Tryz.underlying50 rfl (by kernel_rfl) ?_;exact hK _ hS
       refine sure_cons ?_ ?_
       ·intro L ac W K hed hJ hS hK;have hn:=needs_spec (l:=[9,10,11]) (by kernel_rfl) hed;have hA26:=hJ.eval 10 (d:=26) (hn 10 (by simp)) rfl rfl rfl;have hA27:=hJ.eval 11 (d:=27) (hn 11 (by simp)) rfl rfl rfl;have hA25:=hJ.eval 9 (d:=25) (hn 9 (by simp)) rfl rfl rfl;have hsz:=jj hJ.size;clear hed hJ hn;refine opStep_yes rfl (d:=25) rfl (by rw [hsz.out];rfl) hA25 ?_;clear hsz;unfold Oper.wp execOp;have hN26:=evalN hA26;have hN27:=evalN hA27;go_simp;refine (C1.out W).mono ?_;rintro e W' ⟨rfl,hb⟩;have hS2:=hS.trans (hb.mono hS.size);dsimp only;exact hK W' hS2
       refine sure_cons ?_ ?_
       ·intro L ac W K hed hJ hS hK;have hn:=needs_spec (l:=[9]) (by kernel_rfl) hed;have hA2 : ac.eval (.tmp 2) = .func (.func 39) #[] #[]:=hJ.eval_old 2 (by kernel_rfl);have hA25:=hJ.eval 9 (d:=25) (hn 9 (by simp)) rfl rfl rfl;have hsz:=jj hJ.size;clear hed hJ hn;refine opStep_yes rfl (d:=25) rfl (by rw [hsz.out];rfl) hA25 ?_;clear hsz;unfold Oper.wp execOp;have hN2:=evalN hA2;go_simp;exact hK _ hS
       refine sure_cons ?_ ?_
       ·intro L ac W K hed hJ hS hK;have hn:=needs_spec (l:=[9]) (by kernel_rfl) hed;have hA0 : ac.eval (.tmp 0) = .slice (some bd) l.length c:=hJ.eval_old 0 (by kernel_rfl);have hA25:=hJ.eval 9 (d:=25) (hn 9 (by simp)) rfl rfl rfl;have hsz:=jj hJ.size;clear hed hJ hn;refine opStep_yes rfl (d:=25) rfl (by rw [hsz.out];rfl) hA25 ?_;clear hsz;unfold Oper.wp execOp;have hN0:=evalN hA0;go_simp;exact hK _ hS
       refine sure_cons ?_ ?_
       ·intro L ac W K hed hJ hS hK;have hn:=needs_spec (l:=[9]) (by kernel_rfl) hed;have hA7 : ac.eval (.tmp 7) = .int .i64 ((kk + 1 : Nat) : Int):=hJ.eval_old 7 (by kernel_rfl);have hA25:=hJ.eval 9 (d:=25) (hn 9 (by simp)) rfl rfl rfl;have hsz:=jj hJ.size;clear hed hJ hn;refine opStep_yes rfl (d:=25) rfl (by rw [hsz.out];rfl) hA25 ?_;clear hsz;unfold Oper.wp execOp;have hN7:=evalN hA7;go_simp;exact hK _ hS
       refine sure_cons ?_ ?_
       ·intro L ac W K hed hJ hS hK;have hn:=needs_spec (l:=[9,15]) (by kernel_rfl) hed;have hA31:=hJ.eval 15 (d:=31) (hn 15 (by simp)) rfl rfl rfl;have hA25:=hJ.eval 9 (d:=25) (hn 9 (by simp)) rfl rfl rfl;have hsz:=jj hJ.size;clear hed hJ hn;refine opStep_yes rfl (d:=25) rfl (by rw [hsz.out];rfl) hA25 ?_;clear hsz;unfold Oper.wp execOp;have hN31:=evalN hA31;go_simp;exact hK _ hS
       refine sure_cons ?_ ?_
       ·intro L ac W K hed hJ hS hK;have hn:=needs_spec (l:=[9,14,16]) (by kernel_rfl) hed;have hA30:=hJ.eval 14 (d:=30) (hn 14 (by simp)) rfl rfl rfl;have hA32:=hJ.eval 16 (d:=32) (hn 16 (by simp)) rfl rfl rfl;have hA25:=hJ.eval 9 (d:=25) (hn 9 (by simp)) rfl rfl rfl;have hsz:=jj hJ.size;clear hed hJ hn;refine opStep_yes rfl (d:=25) rfl (by rw [hsz.out];rfl) hA25 ?_;clear hsz;unfold Oper.wp execOp;have hN30:=evalN hA30;have hN32:=evalN hA32;go_simp;exact hK _ hS
       refine sure_cons ?_ ?_
       ·intro L ac W K hed hJ hS hK;have hn:=needs_spec (l:=[9,17]) (by kernel_rfl) hed;have hA33:=hJ.eval 17 (d:=33) (hn 17 (by simp)) rfl rfl rfl;have hA25:=hJ.eval 9 (d:=25) (hn 9 (by simp)) rfl rfl rfl;have hsz:=jj hJ.size;clear hed hJ hn;refine opStep_yes rfl (d:=25) rfl (by rw [hsz.out];rfl) hA25 ?_;clear hsz;refine oper_load_at 50 (.tmp 33) rfl (bd.add (kk * 3)) hA33 (inCells (n2,y2,b2)) _ (HPC.out W hS) Tryz.underlying50 rfl (by kernel_rfl) ?_;exact hK _ hS
       refine sure_cons ?_ ?_
       ·intro L ac W K hed hJ hS hK;have hn:=needs_spec (l:=[9,13,18]) (by kernel_rfl) hed;have hA29:=hJ.eval 13 (d:=29) (hn 13 (by simp)) rfl rfl rfl;have hA34:=hJ.eval 18 (d:=34) (hn 18 (by simp)) rfl rfl rfl;have hA25:=hJ.eval 9 (d:=25) (hn 9 (by simp)) rfl rfl rfl;have hsz:=jj hJ.size;clear hed hJ hn;refine opStep_yes rfl (d:=25) rfl (by rw [hsz.out];rfl) hA25 ?_;clear hsz;unfold Oper.wp execOp;have hN29:=evalN hA29;have hN34:=evalN hA34;go_simp;refine (C2.out W).mono ?_;rintro e W' ⟨rfl,hb⟩;have hS2:=hS.trans (hb.mono hS.size);dsimp only;exact hK W' hS2
       refine sure_cons ?_ ?_
       ·intro L ac W K hed hJ hS hK;have hn:=needs_spec (l:=[9,12,19]) (by kernel_rfl) hed;have hA28:=hJ.eval 12 (d:=28) (hn 12 (by simp)) rfl rfl rfl;have hA35:=hJ.eval 19 (d:=35) (hn 19 (by simp)) rfl rfl rfl;have hA25:=hJ.eval 9 (d:=25) (hn 9 (by simp)) rfl rfl rfl;have hsz:=jj hJ.size;clear hed hJ hn;refine opStep_yes rfl (d:=25) rfl (by rw [hsz.out];rfl) hA25 ?_;clear hsz;unfold Oper.wp execOp;have hN28:=evalN hA28;have hN35:=evalN hA35;go_simp;exact hK _ hS
       refine sure_cons ?_ ?_
       ·intro L ac W K hed hJ hS hK;have hn:=needs_spec (l:=[6,9,20]) (by kernel_rfl) hed;have hA25:=hJ.eval 9 (d:=25) (hn 9 (by simp)) rfl rfl rfl;have hA36:=hJ.eval 20 (d:=36) (hn 20 (by simp)) rfl rfl rfl;have hA22:=hJ.eval 6 (d:=22) (hn 6 (by simp)) rfl rfl rfl;have hsz:=jj hJ.size;clear hed hJ hn;refine opStep_yes rfl (d:=22) rfl (by rw [hsz.out];rfl) hA22 ?_;clear hsz;unfold Oper.wp execOp;have hN25:=evalN hA25;have hN36:=evalN hA36;go_simp;exact hK _ hS
       refine sure_cons ?_ ?_
       ·intro L ac W K hed hJ hS hK;have hn:=needs_spec (l:=[6,21]) (by kernel_rfl) hed;have hA22:=hJ.eval 6 (d:=22) (hn 6 (by simp)) rfl rfl rfl;have hA37:=hJ.eval 21 (d:=37) (hn 21 (by simp)) rfl rfl rfl;clear hed hJ hn;refine opStep_of rfl ?_;unfold Oper.wp execOp;have hN22:=evalN hA22;have hN37:=evalN hA37;go_simp;exact hK _ hS
       refine sure_nil ?_;intro W hS;simp only [putAll,Act.put,List.setIfInBounds_toArray,List.set_cons_zero,List.set_cons_succ];have HV:=jj (HW1.out.trans (hS.mono HW1.out.size));clear hS;go_wp2_with fail
       go_roundw
       case rel =>
        have R : ∃ k' : Nat,k' ≤ l.length ∧ Value.int .i64 ((kk + 1 : Nat) + 1 : Int) = .int .i64 k' ∧ Hid (∀ j,j < k' → stepB (l.map (·.1)) s j = true) ∧ Hid (Below w.heap.size w W):=⟨kk + 1 + 1,by have:=HLT.out;omega,by go_num,jj (fun j hj => by
         rcases Nat.lt_or_ge j (kk + 1) with h | h
         ·exact HK.out j h
         ·obtain rfl : j = kk + 1:=(by omega);exact HST.out),HV⟩
        first | exact R | ((repeat apply Exists.intro);exact ⟨R,rfl⟩)
       case measure => first | (simp [intOf];done) | (simp [intOf];have:=HLT.out;omega)
     ·have d3 : decide (n ≤ n2) = true:=(by simp;omega);have HST:=jj (stepB_no2 (s:=s) (·.1) HP.out HQ.out h2);clear h1 h2;refine' wp_region_sure (by kernel_rfl) (fun W => Below w1.heap.size w1 W) 23 [_,_,_,_,_,_,_,_,_,_,_,_,_,_,_,_,_,_,_,_,_,_,_] [some 16,some 17,some 18,some 19,some 20,some 21,some 22,some 23,some 24,some 25,some 26,some 27,some 28,some 29,some 30,some 31,some 32,some 33,some 34,some 35,some 36,some 37,some 38] (by kernel_rfl) (by kernel_rfl) (by kernel_rfl) (by kernel_rfl) rfl (Below.refl _ _).drew ?hsc
      case hsc =>
       refine sure_cons ?_ ?_
       ·intro L ac W K hed hJ hS hK;have hA2 : ac.eval (.tmp 2) = .func (.func 39) #[] #[]:=hJ.eval_old 2 (by kernel_rfl);clear hed hJ;refine opStep_of rfl ?_;unfold Oper.wp execOp;have hN2:=evalN hA2;go_simp;exact hK _ hS
       refine sure_cons ?_ ?_
       ·intro L ac W K hed hJ hS hK;have hA8 : ac.eval (.tmp 8) = .pointer (some ⟨g1,0,none⟩):=hJ.eval_old 8 (by kernel_rfl);clear hed hJ;refine opStep_of rfl ?_;refine oper_load_at 50 (.tmp 8) rfl ⟨g1,0,none⟩ hA8 (inCells (n,y,b)) _ (HXC.out W hS) Tryz.underlying50 rfl (by kernel_rfl) ?_;exact hK _ hS
       refine sure_cons ?_ ?_
       ·intro L ac W K hed hJ hS hK;have hn:=needs_spec (l:=[0,1]) (by kernel_rfl) hed;have hA16:=hJ.eval 0 (d:=16) (hn 0 (by simp)) rfl rfl rfl;have hA17:=hJ.eval 1 (d:=17) (hn 1 (by simp)) rfl rfl rfl;clear hed hJ hn;refine opStep_of rfl ?_;unfold Oper.wp execOp;have hN16:=evalN hA16;have hN17:=evalN hA17;go_simp;refine (C1.out W).mono ?_;rintro e W' ⟨rfl,hb⟩;have hS2:=hS.trans (hb.mono hS.size);dsimp only;exact hK W' hS2
       refine sure_cons ?_ ?_
       ·intro L ac W K hed hJ hS hK;have hA1 : ac.eval (.tmp 1) = .int .i64 s:=hJ.eval_old 1 (by kernel_rfl);clear hed hJ;refine opStep_of rfl ?_;unfold Oper.wp execOp;have hN1:=evalN hA1;go_simp;exact hK _ hS
       refine sure_cons ?_ ?_
       ·intro L ac W K hed hJ hS hK;have hn:=needs_spec (l:=[3]) (by kernel_rfl) hed;have hA19:=hJ.eval 3 (d:=19) (hn 3 (by simp)) rfl rfl rfl;clear hed hJ hn;refine opStep_of rfl ?_;unfold Oper.wp execOp;have hN19:=evalN hA19;go_simp;exact hK _ hS
       refine sure_cons ?_ ?_
       ·intro L ac W K hed hJ hS hK;have hn:=needs_spec (l:=[2,4]) (by kernel_rfl) hed;have hA18:=hJ.eval 2 (d:=18) (hn 2 (by simp)) rfl rfl rfl;have hA20:=hJ.eval 4 (d:=20) (hn 4 (by simp)) rfl rfl rfl;clear hed hJ hn;refine opStep_of rfl ?_;unfold Oper.wp execOp;have hN18:=evalN hA18;have hN20:=evalN hA20;go_simp;exact hK _ hS
       refine sure_cons ?_ ?_
       ·intro L ac W K hed hJ hS hK;have hn:=needs_spec (l:=[5]) (by kernel_rfl) hed;have hA21:=hJ.eval 5 (d:=21) (hn 5 (by simp)) rfl rfl rfl;clear hed hJ hn;refine opStep_of rfl ?_;unfold Oper.wp execOp;have hN21:=evalN hA21;go_simp;exact hK _ hS
       refine sure_cons ?_ ?_
       ·intro L ac W K hed hJ hS hK;have hn:=needs_spec (l:=[6]) (by kernel_rfl) hed;have hA7 : ac.eval (.tmp 7) = .int .i64 ((kk + 1 : Nat) : Int):=hJ.eval_old 7 (by kernel_rfl);have hA22:=hJ.eval 6 (d:=22) (hn 6 (by simp)) rfl rfl rfl;have hsz:=jj hJ.size;clear hed hJ hn;refine opStep_yes rfl (d:=22) rfl (by rw [hsz.out];rfl) hA22 ?_;clear hsz;unfold Oper.wp execOp;have hN7:=evalN hA7;go_simp;exact hK _ hS
       refine sure_cons ?_ ?_
       ·intro L ac W K hed hJ hS hK;have hn:=needs_spec (l:=[6,7]) (by kernel_rfl) hed;have hA23:=hJ.eval 7 (d:=23) (hn 7 (by simp)) rfl rfl rfl;have hA22:=hJ.eval 6 (d:=22) (hn 6 (by simp)) rfl rfl rfl;have hsz:=jj hJ.size;clear hed hJ hn;refine opStep_yes rfl (d:=22) rfl (by rw [hsz.out];rfl) hA22 ?_;clear hsz;unfold Oper.wp execOp;have hN23:=evalN hA23;go_simp;exact hK _ hS
       refine sure_cons ?_ ?_
       ·intro L ac W K hed hJ hS hK;have hn:=needs_spec (l:=[6,8]) (by kernel_rfl) hed;have hA24:=hJ.eval 8 (d:=24) (hn 8 (by simp)) rfl rfl rfl;have hA22:=hJ.eval 6 (d:=22) (hn 6 (by simp)) rfl rfl rfl;have hsz:=jj hJ.size;clear hed hJ hn;refine opStep_yes rfl (d:=22) rfl (by rw [hsz.out];rfl) hA22 ?_;clear hsz;unfold Oper.wp execOp;have hN24:=evalN hA24;go_simp;exact hK _ hS
       refine sure_cons ?_ ?_
       ·intro L ac W K hed hJ hS hK;have hn:=needs_spec (l:=[9]) (by kernel_rfl) hed;have hA2 : ac.eval (.tmp 2) = .func (.func 39) #[] #[]:=hJ.eval_old 2 (by kernel_rfl);have hA25:=hJ.eval 9 (d:=25) (hn 9 (by simp)) rfl rfl rfl;have hsz:=jj hJ.size;clear hed hJ hn;refine opStep_yes rfl (d:=25) rfl (by rw [hsz.out];rfl) hA25 ?_;clear hsz;unfold Oper.wp execOp;have hN2:=evalN hA2;go_simp;exact hK _ hS
       refine sure_cons ?_ ?_
       ·intro L ac W K hed hJ hS hK;have hn:=needs_spec (l:=[9]) (by kernel_rfl) hed;have hA8 : ac.eval (.tmp 8) = .pointer (some ⟨g1,0,none⟩):=hJ.eval_old 8 (by kernel_rfl);have hA25:=hJ.eval 9 (d:=25) (hn 9 (by simp)) rfl rfl rfl;have hsz:=jj hJ.size;clear hed hJ hn;refine opStep_yes rfl (d:=25) rfl (by rw [hsz.out];rfl) hA25 ?_;clear hsz;refine oper_load_at 50 (.tmp 8) rfl ⟨g1,0,none⟩ hA8 (inCells (n,y,b)) _ (HXC.out W hS) Tryz.underlying50 rfl (by kernel_rfl) ?_;exact hK _ hS
       refine sure_cons ?_ ?_
       ·intro L ac W K hed hJ hS hK;have hn:=needs_spec (l:=[9,10,11]) (by kernel_rfl) hed;have hA26:=hJ.eval 10 (d:=26) (hn 10 (by simp)) rfl rfl rfl;have hA27:=hJ.eval 11 (d:=27) (hn 11 (by simp)) rfl rfl rfl;have hA25:=hJ.eval 9 (d:=25) (hn 9 (by simp)) rfl rfl rfl;have hsz:=jj hJ.size;clear hed hJ hn;refine opStep_yes rfl (d:=25) rfl (by rw [hsz.out];rfl) hA25 ?_;clear hsz;unfold Oper.wp execOp;have hN26:=evalN hA26;have hN27:=evalN hA27;go_simp;refine (C1.out W).mono ?_;rintro e W' ⟨rfl,hb⟩;have hS2:=hS.trans (hb.mono hS.size);dsimp only;exact hK W' hS2
       refine sure_cons ?_ ?_
       ·intro L ac W K hed hJ hS hK;have hn:=needs_spec (l:=[9]) (by kernel_rfl) hed;have hA2 : ac.eval (.tmp 2) = .func (.func 39) #[] #[]:=hJ.eval_old 2 (by kernel_rfl);have hA25:=hJ.eval 9 (d:=25) (hn 9 (by simp)) rfl rfl rfl;have hsz:=jj hJ.size;clear hed hJ hn;refine opStep_yes rfl (d:=25) rfl (by rw [hsz.out];rfl) hA25 ?_;clear hsz;unfold Oper.wp execOp;have hN2:=evalN hA2;go_simp;exact hK _ hS
       refine sure_cons ?_ ?_
       ·intro L ac W K hed hJ hS hK;have hn:=needs_spec (l:=[9]) (by kernel_rfl) hed;have hA0 : ac.eval (.tmp 0) = .slice (some bd) l.length c:=hJ.eval_old 0 (by kernel_rfl);have hA25:=hJ.eval 9 (d:=25) (hn 9 (by simp)) rfl rfl rfl;have hsz:=jj hJ.size;clear hed hJ hn;refine opStep_yes rfl (d:=25) rfl (by rw [hsz.out];rfl) hA25 ?_;clear hsz;unfold Oper.wp execOp;have hN0:=evalN hA0;go_simp;exact hK _ hS
       refine sure_cons ?_ ?_
       ·intro L ac W K hed hJ hS hK;have hn:=needs_spec (l:=[9]) (by kernel_rfl) hed;have hA7 : ac.eval (.tmp 7) = .int .i64 ((kk + 1 : Nat) : Int):=hJ.eval_old 7 (by kernel_rfl);have hA25:=hJ.eval 9 (d:=25) (hn 9 (by simp)) rfl rfl rfl;have hsz:=jj hJ.size;clear hed hJ hn;refine opStep_yes rfl (d:=25) rfl (by rw [hsz.out];rfl) hA25 ?_;clear hsz;unfold Oper.wp execOp;have hN7:=evalN hA7;go_simp;exact hK _ hS
       refine sure_cons ?_ ?_
       ·intro L ac W K hed hJ hS hK;have hn:=needs_spec (l:=[9,15]) (by kernel_rfl) hed;have hA31:=hJ.eval 15 (d:=31) (hn 15 (by simp)) rfl rfl rfl;have hA25:=hJ.eval 9 (d:=25) (hn 9 (by simp)) rfl rfl rfl;have hsz:=jj hJ.size;clear hed hJ hn;refine opStep_yes rfl (d:=25) rfl (by rw [hsz.out];rfl) hA25 ?_;clear hsz;unfold Oper.wp execOp;have hN31:=evalN hA31;go_simp;exact hK _ hS
       refine sure_cons ?_ ?_
       ·intro L ac W K hed hJ hS hK;have hn:=needs_spec (l:=[9,14,16]) (by kernel_rfl) hed;have hA30:=hJ.eval 14 (d:=30) (hn 14 (by simp)) rfl rfl rfl;have hA32:=hJ.eval 16 (d:=32) (hn 16 (by simp)) rfl rfl rfl;have hA25:=hJ.eval 9 (d:=25) (hn 9 (by simp)) rfl rfl rfl;have hsz:=jj hJ.size;clear hed hJ hn;refine opStep_yes rfl (d:=25) rfl (by rw [hsz.out];rfl) hA25 ?_;clear hsz;unfold Oper.wp execOp;have hN30:=evalN hA30;have hN32:=evalN hA32;go_simp;exact hK _ hS
       refine sure_cons ?_ ?_
       ·intro L ac W K hed hJ hS hK;have hn:=needs_spec (l:=[9,17]) (by kernel_rfl) hed;have hA33:=hJ.eval 17 (d:=33) (hn 17 (by simp)) rfl rfl rfl;have hA25:=hJ.eval 9 (d:=25) (hn 9 (by simp)) rfl rfl rfl;have hsz:=jj hJ.size;clear hed hJ hn;refine opStep_yes rfl (d:=25) rfl (by rw [hsz.out];rfl) hA25 ?_;clear hsz;refine oper_load_at 50 (.tmp 33) rfl (bd.add (kk * 3)) hA33 (inCells (n2,y2,b2)) _ (HPC.out W hS) Tryz.underlying50 rfl (by kernel_rfl) ?_;exact hK _ hS
       refine sure_cons ?_ ?_
       ·intro L ac W K hed hJ hS hK;have hn:=needs_spec (l:=[9,13,18]) (by kernel_rfl) hed;have hA29:=hJ.eval 13 (d:=29) (hn 13 (by simp)) rfl rfl rfl;have hA34:=hJ.eval 18 (d:=34) (hn 18 (by simp)) rfl rfl rfl;have hA25:=hJ.eval 9 (d:=25) (hn 9 (by simp)) rfl rfl rfl;have hsz:=jj hJ.size;clear hed hJ hn;refine opStep_yes rfl (d:=25) rfl (by rw [hsz.out];rfl) hA25 ?_;clear hsz;unfold Oper.wp execOp;have hN29:=evalN hA29;have hN34:=evalN hA34;go_simp;refine (C2.out W).mono ?_;rintro e W' ⟨rfl,hb⟩;have hS2:=hS.trans (hb.mono hS.size);dsimp only;exact hK W' hS2
       refine sure_cons ?_ ?_
       ·intro L ac W K hed hJ hS hK;have hn:=needs_spec (l:=[9,12,19]) (by kernel_rfl) hed;have hA28:=hJ.eval 12 (d:=28) (hn 12 (by simp)) rfl rfl rfl;have hA35:=hJ.eval 19 (d:=35) (hn 19 (by simp)) rfl rfl rfl;have hA25:=hJ.eval 9 (d:=25) (hn 9 (by simp)) rfl rfl rfl;have hsz:=jj hJ.size;clear hed hJ hn;refine opStep_yes rfl (d:=25) rfl (by rw [hsz.out];rfl) hA25 ?_;clear hsz;unfold Oper.wp execOp;have hN28:=evalN hA28;have hN35:=evalN hA35;go_simp;exact hK _ hS
       refine sure_cons ?_ ?_
       ·intro L ac W K hed hJ hS hK;have hn:=needs_spec (l:=[6,9,20]) (by kernel_rfl) hed;have hA25:=hJ.eval 9 (d:=25) (hn 9 (by simp)) rfl rfl rfl;have hA36:=hJ.eval 20 (d:=36) (hn 20 (by simp)) rfl rfl rfl;have hA22:=hJ.eval 6 (d:=22) (hn 6 (by simp)) rfl rfl rfl;have hsz:=jj hJ.size;clear hed hJ hn;refine opStep_yes rfl (d:=22) rfl (by rw [hsz.out];rfl) hA22 ?_;clear hsz;unfold Oper.wp execOp;have hN25:=evalN hA25;have hN36:=evalN hA36;go_simp;exact hK _ hS
       refine sure_cons ?_ ?_
       ·intro L ac W K hed hJ hS hK;have hn:=needs_spec (l:=[6,21]) (by kernel_rfl) hed;have hA22:=hJ.eval 6 (d:=22) (hn 6 (by simp)) rfl rfl rfl;have hA37:=hJ.eval 21 (d:=37) (hn 21 (by simp)) rfl rfl rfl;clear hed hJ hn;refine opStep_of rfl ?_;unfold Oper.wp execOp;have hN22:=evalN hA22;have hN37:=evalN hA37;go_simp;exact hK _ hS
       refine sure_nil ?_;intro W hS;simp only [putAll,Act.put,List.setIfInBounds_toArray,List.set_cons_zero,List.set_cons_succ];have HV:=jj (HW1.out.trans (hS.mono HW1.out.size));clear hS;go_wp2_with fail;go_ret;exact ⟨by rw [riseB_no (by rw [List.length_map];exact HLT.out) HST.out];rfl,HV.out⟩
   ·have d1 : decide (s ≤ n) = true:=(by simp;omega);have d1' : decide (n ≥ s) = true:=d1;have HST:=jj (stepB_no1 (·.1) HP.out h1);clear h1;obtain ⟨kk,hkk⟩ : ∃ kk : Int,kk = (k : Int):=⟨_,rfl⟩;refine' wp_region_sure (by kernel_rfl) (fun W => Below w1.heap.size w1 W) 23 [_,_,_,_,_,_,_,undef,undef,undef,undef,undef,undef,undef,undef,undef,undef,undef,undef,undef,undef,undef,_] [some 16,some 17,some 18,some 19,some 20,some 21,some 22,some 23,some 24,some 25,some 26,some 27,some 28,some 29,some 30,some 31,some 32,some 33,some 34,some 35,some 36,some 37,some 38] (by kernel_rfl) (by kernel_rfl) (by kernel_rfl) (by kernel_rfl) rfl (Below.refl _ _).drew ?hsd
    case hsd =>
     refine sure_cons ?_ ?_
     ·intro L ac W K hed hJ hS hK;have hA2 : ac.eval (.tmp 2) = .func (.func 39) #[] #[]:=hJ.eval_old 2 (by kernel_rfl);clear hed hJ;refine opStep_of rfl ?_;unfold Oper.wp execOp;have hN2:=evalN hA2;go_simp;exact hK _ hS
     refine sure_cons ?_ ?_
     ·intro L ac W K hed hJ hS hK;have hA8 : ac.eval (.tmp 8) = .pointer (some ⟨g1,0,none⟩):=hJ.eval_old 8 (by kernel_rfl);clear hed hJ;refine opStep_of rfl ?_;refine oper_load_at 50 (.tmp 8) rfl ⟨g1,0,none⟩ hA8 (inCells (n,y,b)) _ (HXC.out W hS) Tryz.underlying50 rfl (by kernel_rfl) ?_;exact hK _ hS
     refine sure_cons ?_ ?_
     ·intro L ac W K hed hJ hS hK;have hn:=needs_spec (l:=[0,1]) (by kernel_rfl) hed;have hA16:=hJ.eval 0 (d:=16) (hn 0 (by simp)) rfl rfl rfl;have hA17:=hJ.eval 1 (d:=17) (hn 1 (by simp)) rfl rfl rfl;clear hed hJ hn;refine opStep_of rfl ?_;unfold Oper.wp execOp;have hN16:=evalN hA16;have hN17:=evalN hA17;go_simp;refine (C1.out W).mono ?_;rintro e W' ⟨rfl,hb⟩;have hS2:=hS.trans (hb.mono hS.size);dsimp only;exact hK W' hS2
     refine sure_cons ?_ ?_
     ·intro L ac W K hed hJ hS hK;have hA1 : ac.eval (.tmp 1) = .int .i64 s:=hJ.eval_old 1 (by kernel_rfl);clear hed hJ;refine opStep_of rfl ?_;unfold Oper.wp execOp;have hN1:=evalN hA1;go_simp;exact hK _ hS
     refine sure_cons ?_ ?_
     ·intro L ac W K hed hJ hS hK;have hn:=needs_spec (l:=[3]) (by kernel_rfl) hed;have hA19:=hJ.eval 3 (d:=19) (hn 3 (by simp)) rfl rfl rfl;clear hed hJ hn;refine opStep_of rfl ?_;unfold Oper.wp execOp;have hN19:=evalN hA19;go_simp;exact hK _ hS
     refine sure_cons ?_ ?_
     ·intro L ac W K hed hJ hS hK;have hn:=needs_spec (l:=[2,4]) (by kernel_rfl) hed;have hA18:=hJ.eval 2 (d:=18) (hn 2 (by simp)) rfl rfl rfl;have hA20:=hJ.eval 4 (d:=20) (hn 4 (by simp)) rfl rfl rfl;clear hed hJ hn;refine opStep_of rfl ?_;unfold Oper.wp execOp;have hN18:=evalN hA18;have hN20:=evalN hA20;go_simp;exact hK _ hS
     refine sure_cons ?_ ?_
     ·intro L ac W K hed hJ hS hK;have hn:=needs_spec (l:=[5]) (by kernel_rfl) hed;have hA21:=hJ.eval 5 (d:=21) (hn 5 (by simp)) rfl rfl rfl;clear hed hJ hn;refine opStep_of rfl ?_;unfold Oper.wp execOp;have hN21:=evalN hA21;go_simp;exact hK _ hS
     refine sure_cons ?_ ?_
     ·intro L ac W K hed hJ hS hK;have hn:=needs_spec (l:=[6]) (by kernel_rfl) hed;have hA22:=hJ.eval 6 (d:=22) (hn 6 (by simp)) rfl rfl rfl;have hsz:=jj hJ.size;clear hed hJ hn;refine opStep_no rfl (d:=22) rfl (by rw [hsz.out];rfl) hA22 rfl ?_;exact hK _ hS
     refine sure_cons ?_ ?_
     ·intro L ac W K hed hJ hS hK;have hn:=needs_spec (l:=[6]) (by kernel_rfl) hed;have hA22:=hJ.eval 6 (d:=22) (hn 6 (by simp)) rfl rfl rfl;have hsz:=jj hJ.size;clear hed hJ hn;refine opStep_no rfl (d:=22) rfl (by rw [hsz.out];rfl) hA22 rfl ?_;exact hK _ hS
     refine sure_cons ?_ ?_
     ·intro L ac W K hed hJ hS hK;have hn:=needs_spec (l:=[6]) (by kernel_rfl) hed;have hA22:=hJ.eval 6 (d:=22) (hn 6 (by simp)) rfl rfl rfl;have hsz:=jj hJ.size;clear hed hJ hn;refine opStep_no rfl (d:=22) rfl (by rw [hsz.out];rfl) hA22 rfl ?_;exact hK _ hS
     refine sure_cons ?_ ?_
     ·intro L ac W K hed hJ hS hK;have hn:=needs_spec (l:=[9]) (by kernel_rfl) hed;have hA25:=hJ.eval 9 (d:=25) (hn 9 (by simp)) rfl rfl rfl;have hsz:=jj hJ.size;clear hed hJ hn;refine opStep_un rfl (d:=25) rfl hA25 ?_;exact hK _ hS
     refine sure_cons ?_ ?_
     ·intro L ac W K hed hJ hS hK;have hn:=needs_spec (l:=[9]) (by kernel_rfl) hed;have hA25:=hJ.eval 9 (d:=25) (hn 9 (by simp)) rfl rfl rfl;have hsz:=jj hJ.size;clear hed hJ hn;refine opStep_un rfl (d:=25) rfl hA25 ?_;exact hK _ hS
     refine sure_cons ?_ ?_
     ·intro L ac W K hed hJ hS hK;have hn:=needs_spec (l:=[9]) (by kernel_rfl) hed;have hA25:=hJ.eval 9 (d:=25) (hn 9 (by simp)) rfl rfl rfl;have hsz:=jj hJ.size;clear hed hJ hn;refine opStep_un rfl (d:=25) rfl hA25 ?_;exact hK _ hS
     refine sure_cons ?_ ?_
     ·intro L ac W K hed hJ hS hK;have hn:=needs_spec (l:=[9]) (by kernel_rfl) hed;have hA25:=hJ.eval 9 (d:=25) (hn 9 (by simp)) rfl rfl rfl;have hsz:=jj hJ.size;clear hed hJ hn;refine opStep_un rfl (d:=25) rfl hA25 ?_;exact hK _ hS
     refine sure_cons ?_ ?_
     ·intro L ac W K hed hJ hS hK;have hn:=needs_spec (l:=[9]) (by kernel_rfl) hed;have hA25:=hJ.eval 9 (d:=25) (hn 9 (by simp)) rfl rfl rfl;have hsz:=jj hJ.size;clear hed hJ hn;refine opStep_un rfl (d:=25) rfl hA25 ?_;exact hK _ hS
     refine sure_cons ?_ ?_
     ·intro L ac W K hed hJ hS hK;have hn:=needs_spec (l:=[9]) (by kernel_rfl) hed;have hA25:=hJ.eval 9 (d:=25) (hn 9 (by simp)) rfl rfl rfl;have hsz:=jj hJ.size;clear hed hJ hn;refine opStep_un rfl (d:=25) rfl hA25 ?_;exact hK _ hS
     refine sure_cons ?_ ?_
     ·intro L ac W K hed hJ hS hK;have hn:=needs_spec (l:=[9]) (by kernel_rfl) hed;have hA25:=hJ.eval 9 (d:=25) (hn 9 (by simp)) rfl rfl rfl;have hsz:=jj hJ.size;clear hed hJ hn;refine opStep_un rfl (d:=25) rfl hA25 ?_;exact hK _ hS
     refine sure_cons ?_ ?_
     ·intro L ac W K hed hJ hS hK;have hn:=needs_spec (l:=[9]) (by kernel_rfl) hed;have hA25:=hJ.eval 9 (d:=25) (hn 9 (by simp)) rfl rfl rfl;have hsz:=jj hJ.size;clear hed hJ hn;refine opStep_un rfl (d:=25) rfl hA25 ?_;exact hK _ hS
     refine sure_cons ?_ ?_
     ·intro L ac W K hed hJ hS hK;have hn:=needs_spec (l:=[9]) (by kernel_rfl) hed;have hA25:=hJ.eval 9 (d:=25) (hn 9 (by simp)) rfl rfl rfl;have hsz:=jj hJ.size;clear hed hJ hn;refine opStep_un rfl (d:=25) rfl hA25 ?_;exact hK _ hS
     refine sure_cons ?_ ?_
     ·intro L ac W K hed hJ hS hK;have hn:=needs_spec (l:=[9]) (by kernel_rfl) hed;have hA25:=hJ.eval 9 (d:=25) (hn 9 (by simp)) rfl rfl rfl;have hsz:=jj hJ.size;clear hed hJ hn;refine opStep_un rfl (d:=25) rfl hA25 ?_;exact hK _ hS
     refine sure_cons ?_ ?_
     ·intro L ac W K hed hJ hS hK;have hn:=needs_spec (l:=[9]) (by kernel_rfl) hed;have hA25:=hJ.eval 9 (d:=25) (hn 9 (by simp)) rfl rfl rfl;have hsz:=jj hJ.size;clear hed hJ hn;refine opStep_un rfl (d:=25) rfl hA25 ?_;exact hK _ hS
     refine sure_cons ?_ ?_
     ·intro L ac W K hed hJ hS hK;have hn:=needs_spec (l:=[6]) (by kernel_rfl) hed;have hA22:=hJ.eval 6 (d:=22) (hn 6 (by simp)) rfl rfl rfl;have hsz:=jj hJ.size;clear hed hJ hn;refine opStep_no rfl (d:=22) rfl (by rw [hsz.out];rfl) hA22 rfl ?_;exact hK _ hS
     refine sure_cons ?_ ?_
     ·intro L ac W K hed hJ hS hK;have hn:=needs_spec (l:=[6,21]) (by kernel_rfl) hed;have hA22:=hJ.eval 6 (d:=22) (hn 6 (by simp)) rfl rfl rfl;have hA37:=hJ.eval 21 (d:=37) (hn 21 (by simp)) rfl rfl rfl;clear hed hJ hn;refine opStep_of rfl ?_;unfold Oper.wp execOp;have hN22:=evalN hA22;have hN37:=evalN hA37;go_simp;exact hK _ hS
     refine sure_nil ?_;intro W hS;simp only [putAll,Act.put,List.setIfInBounds_toArray,List.set_cons_zero,List.set_cons_succ];have HV:=jj (HW1.out.trans (hS.mono HW1.out.size));clear hS;go_wp2_with fail;go_ret;exact ⟨by rw [riseB_no (by rw [List.length_map];exact HLT.out) HST.out];rfl,HV.out⟩
  ·obtain rfl : k = l.length:=(by omega);have hd : decide (l.length < l.length) = false:=(by simp);go_wp2_with fail;go_ret;exact ⟨by rw [riseB_yes (by rw [List.length_map];exact HK.out)];rfl,HW.out⟩
set_option maxRecDepth 100000 in
set_option maxHeartbeats 4000000 in
theorem riseOut_any (w : World) (A : Option Addr) (c : Nat) (l : List OutP) (s : Int) (hA : Outs w w.heap.size A l) (hl : l.length ≤ 1099511627776) (hs : 0 ≤ s ∧ s ≤ 100000) :
  Calls Tryz.prog 46 #[.slice A l.length c,.int .i64 s,.func (.func 47) #[] #[]] w fun e w' => e = .returned (.bool (riseB (l.map (·.1)) s)) ∧ Below w.heap.size w w':=by
 have HA:=jj hA;clear hA;have hsw : IntKind.u64.wrap s = s:=(by rw [IntKind.wrap_u64];omega);have HS:=jj hs;clear hs;go_enter Tryz.func46,Tryz.ntmps46;go_wp2_with fail
 go_loopw [11] (fun i wr => ∃ k : Nat,k ≤ l.length ∧ i = .int .i64 k ∧ Hid (∀ j,j < k → stepB (l.map (·.1)) s j = true) ∧ Hid (Below w.heap.size w wr)) (fun i _ => l.length - (intOf i).toNat)
 case atStart => exact ⟨0,by omega,rfl,jj (fun j hj => absurd hj (Nat.not_lt_zero j)),jj (Below.refl _ _)⟩
 case round =>
  obtain ⟨k,hk,rfl,HK,HW⟩:=hrel;by_cases hlt : k < l.length
  ·obtain ⟨p,hp⟩:=get_some hlt;have HLT:=jj hlt;obtain ⟨bd,rfl,hbd,hc⟩:=Lies.row (f:=outCells) (n:=2) HA.out (fun y hy => rfl) (by omega) hp;have HP:=jj hp;obtain ⟨n,y⟩:=p;have q0 : (0 : Int) ≤ (k : Int):=(by omega);have q1 : (k : Int) < (l.length : Int):=(by omega);have LD : Hid (∀ j v,(outCells (n,y))[j]? = some v → wr.cell? ((bd.add (k * 2)).add j) = some v):=jj fun j v hv => (HW.out.cell (by show ((bd.add (k * 2)).add j).block < _;rw [add_block,add_block];exact hbd)).trans (hc j v hv);have HZ:=jj (Whole.made wr 54 [Value.int .u64 0,S []].toArray);have HWA:=jj (HW.out.alloc HW.out.size (.cells [Value.int .u64 0,S []].toArray 54));have HGE : Hid (w.heap.size ≤ wr.heap.size):=jj HW.out.size;clear hc hp
   go_upto_region 4 with (first
    | (refine wpList_load_at rfl 54 (.tmp 14) rfl (bd.add (k * 2)) rfl (outCells (n,y)) _ LD.out Tryz.underlying54 rfl (by kernel_rfl) ?_)
    | (refine wpList_store_all rfl 54 (.tmp 8) (.tmp 15) rfl rfl wr.heap.size rfl (outCells (n,y)) rfl (by kernel_rfl) [Value.int .u64 0,S []] 54 HZ.out rfl (out_one (n,y)) ?_
       intro w1 HX HF))
   have HW1:=jj (below_grown HWA.out HF.out (by simp;have:=HGE.out;omega) HGE.out);clear HF HZ HWA;generalize wr.heap.size = g1 at *
   have HXC : Hid (∀ W,Below w1.heap.size w1 W → ∀ j v,(outCells (n,y))[j]? = some v → W.cell? ((⟨g1,0,none⟩ : Addr).add j) = some v):=jj fun W hW j v hv => by
    rw [show (⟨g1,0,none⟩ : Addr).add j = ⟨g1,j,none⟩ by unfold Addr.add;by_cases h : j = 0 <;> simp [h]];rw [(HX.out.below hW HX.out.lt).cell j,List.getElem?_toArray];exact hv
   have C1:=jj (fun W : World => outAt_any W n y);clear LD HW;by_cases h1 : n < s
   ·have d1 : decide (s ≤ n) = false:=(by simp;omega);have d1' : decide (n ≥ s) = false:=d1;by_cases hk0 : k = 0
    ·subst hk0;have HST:=jj (stepB_zero (·.1) HP.out h1);clear h1;refine' wp_region_sure (by kernel_rfl) (fun W => Below w1.heap.size w1 W) 23 [_,_,_,_,_,_,_,_,_,_,undef,undef,undef,undef,undef,undef,undef,undef,undef,undef,undef,_,_] [some 16,some 17,some 18,some 19,some 20,some 21,some 22,some 23,some 24,some 25,some 26,some 27,some 28,some 29,some 30,some 31,some 32,some 33,some 34,some 35,some 36,some 37,some 38] (by kernel_rfl) (by kernel_rfl) (by kernel_rfl) (by kernel_rfl) rfl (Below.refl _ _).drew ?hsa
     case hsa =>
      refine sure_cons ?_ ?_
      ·intro L ac W K hed hJ hS hK;have hA2 : ac.eval (.tmp 2) = .func (.func 47) #[] #[]:=hJ.eval_old 2 (by kernel_rfl);clear hed hJ;refine opStep_of rfl ?_;unfold Oper.wp execOp;have hN2:=evalN hA2;go_simp;exact hK _ hS
      refine sure_cons ?_ ?_
      ·intro L ac W K hed hJ hS hK;have hA8 : ac.eval (.tmp 8) = .pointer (some ⟨g1,0,none⟩):=hJ.eval_old 8 (by kernel_rfl);clear hed hJ;refine opStep_of rfl ?_;refine oper_load_at 54 (.tmp 8) rfl ⟨g1,0,none⟩ hA8 (outCells (n,y)) _ (HXC.out W hS) Tryz.underlying54 rfl (by kernel_rfl) ?_;exact hK _ hS
      refine sure_cons ?_ ?_
      ·intro L ac W K hed hJ hS hK;have hn:=needs_spec (l:=[0,1]) (by kernel_rfl) hed;have hA16:=hJ.eval 0 (d:=16) (hn 0 (by simp)) rfl rfl rfl;have hA17:=hJ.eval 1 (d:=17) (hn 1 (by simp)) rfl rfl rfl;clear hed hJ hn;refine opStep_of rfl ?_;unfold Oper.wp execOp;have hN16:=evalN hA16;have hN17:=evalN hA17;go_simp;refine (C1.out W).mono ?_;rintro e W' ⟨rfl,hb⟩;have hS2:=hS.trans (hb.mono hS.size);dsimp only;exact hK W' hS2
      refine sure_cons ?_ ?_
      ·intro L ac W K hed hJ hS hK;have hA1 : ac.eval (.tmp 1) = .int .i64 s:=hJ.eval_old 1 (by kernel_rfl);clear hed hJ;refine opStep_of rfl ?_;unfold Oper.wp execOp;have hN1:=evalN hA1;go_simp;exact hK _ hS
      refine sure_cons ?_ ?_
      ·intro L ac W K hed hJ hS hK;have hn:=needs_spec (l:=[3]) (by kernel_rfl) hed;have hA19:=hJ.eval 3 (d:=19) (hn 3 (by simp)) rfl rfl rfl;clear hed hJ hn;refine opStep_of rfl ?_;unfold Oper.wp execOp;have hN19:=evalN hA19;go_simp;exact hK _ hS
      refine sure_cons ?_ ?_
      ·intro L ac W K hed hJ hS hK;have hn:=needs_spec (l:=[2,4]) (by kernel_rfl) hed;have hA18:=hJ.eval 2 (d:=18) (hn 2 (by simp)) rfl rfl rfl;have hA20:=hJ.eval 4 (d:=20) (hn 4 (by simp)) rfl rfl rfl;clear hed hJ hn;refine opStep_of rfl ?_;unfold Oper.wp execOp;have hN18:=evalN hA18;have hN20:=evalN hA20;go_simp;exact hK _ hS
      refine sure_cons ?_ ?_
      ·intro L ac W K hed hJ hS hK;have hn:=needs_spec (l:=[5]) (by kernel_rfl) hed;have hA21:=hJ.eval 5 (d:=21) (hn 5 (by simp)) rfl rfl rfl;clear hed hJ hn;refine opStep_of rfl ?_;unfold Oper.wp execOp;have hN21:=evalN hA21;go_simp;exact hK _ hS
      refine sure_cons ?_ ?_
      ·intro L ac W K hed hJ hS hK;have hn:=needs_spec (l:=[6]) (by kernel_rfl) hed;have hA7 : ac.eval (.tmp 7) = .int .i64 (0 : Int):=hJ.eval_old 7 (by kernel_rfl);have hA22:=hJ.eval 6 (d:=22) (hn 6 (by simp)) rfl rfl rfl;have hsz:=jj hJ.size;clear hed hJ hn;refine opStep_yes rfl (d:=22) rfl (by rw [hsz.out];rfl) hA22 ?_;clear hsz;unfold Oper.wp execOp;have hN7:=evalN hA7;go_simp;exact hK _ hS
      refine sure_cons ?_ ?_
      ·intro L ac W K hed hJ hS hK;have hn:=needs_spec (l:=[6,7]) (by kernel_rfl) hed;have hA23:=hJ.eval 7 (d:=23) (hn 7 (by simp)) rfl rfl rfl;have hA22:=hJ.eval 6 (d:=22) (hn 6 (by simp)) rfl rfl rfl;have hsz:=jj hJ.size;clear hed hJ hn;refine opStep_yes rfl (d:=22) rfl (by rw [hsz.out];rfl) hA22 ?_;clear hsz;unfold Oper.wp execOp;have hN23:=evalN hA23;go_simp;exact hK _ hS
      refine sure_cons ?_ ?_
      ·intro L ac W K hed hJ hS hK;have hn:=needs_spec (l:=[6,8]) (by kernel_rfl) hed;have hA24:=hJ.eval 8 (d:=24) (hn 8 (by simp)) rfl rfl rfl;have hA22:=hJ.eval 6 (d:=22) (hn 6 (by simp)) rfl rfl rfl;have hsz:=jj hJ.size;clear hed hJ hn;refine opStep_yes rfl (d:=22) rfl (by rw [hsz.out];rfl) hA22 ?_;clear hsz;unfold Oper.wp execOp;have hN24:=evalN hA24;go_simp;exact hK _ hS
      refine sure_cons ?_ ?_
      ·intro L ac W K hed hJ hS hK;have hn:=needs_spec (l:=[9]) (by kernel_rfl) hed;have hA25:=hJ.eval 9 (d:=25) (hn 9 (by simp)) rfl rfl rfl;have hsz:=jj hJ.size;clear hed hJ hn;refine opStep_no rfl (d:=25) rfl (by rw [hsz.out];rfl) hA25 rfl ?_;exact hK _ hS
      refine sure_cons ?_ ?_
      ·intro L ac W K hed hJ hS hK;have hn:=needs_spec (l:=[9]) (by kernel_rfl) hed;have hA25:=hJ.eval 9 (d:=25) (hn 9 (by simp)) rfl rfl rfl;have hsz:=jj hJ.size;clear hed hJ hn;refine opStep_no rfl (d:=25) rfl (by rw [hsz.out];rfl) hA25 rfl ?_;exact hK _ hS
      refine sure_cons ?_ ?_
      ·intro L ac W K hed hJ hS hK;have hn:=needs_spec (l:=[9]) (by kernel_rfl) hed;have hA25:=hJ.eval 9 (d:=25) (hn 9 (by simp)) rfl rfl rfl;have hsz:=jj hJ.size;clear hed hJ hn;refine opStep_no rfl (d:=25) rfl (by rw [hsz.out];rfl) hA25 rfl ?_;exact hK _ hS
      refine sure_cons ?_ ?_
      ·intro L ac W K hed hJ hS hK;have hn:=needs_spec (l:=[9]) (by kernel_rfl) hed;have hA25:=hJ.eval 9 (d:=25) (hn 9 (by simp)) rfl rfl rfl;have hsz:=jj hJ.size;clear hed hJ hn;refine opStep_no rfl (d:=25) rfl (by rw [hsz.out];rfl) hA25 rfl ?_;exact hK _ hS
      refine sure_cons ?_ ?_
      ·intro L ac W K hed hJ hS hK;have hn:=needs_spec (l:=[9]) (by kernel_rfl) hed;have hA25:=hJ.eval 9 (d:=25) (hn 9 (by simp)) rfl rfl rfl;have hsz:=jj hJ.size;clear hed hJ hn;refine opStep_no rfl (d:=25) rfl (by rw [hsz.out];rfl) hA25 rfl ?_;exact hK _ hS
      refine sure_cons ?_ ?_
      ·intro L ac W K hed hJ hS hK;have hn:=needs_spec (l:=[9]) (by kernel_rfl) hed;have hA25:=hJ.eval 9 (d:=25) (hn 9 (by simp)) rfl rfl rfl;have hsz:=jj hJ.size;clear hed hJ hn;refine opStep_no rfl (d:=25) rfl (by rw [hsz.out];rfl) hA25 rfl ?_;exact hK _ hS
      refine sure_cons ?_ ?_
      ·intro L ac W K hed hJ hS hK;have hn:=needs_spec (l:=[9]) (by kernel_rfl) hed;have hA25:=hJ.eval 9 (d:=25) (hn 9 (by simp)) rfl rfl rfl;have hsz:=jj hJ.size;clear hed hJ hn;refine opStep_no rfl (d:=25) rfl (by rw [hsz.out];rfl) hA25 rfl ?_;exact hK _ hS
      refine sure_cons ?_ ?_
      ·intro L ac W K hed hJ hS hK;have hn:=needs_spec (l:=[9]) (by kernel_rfl) hed;have hA25:=hJ.eval 9 (d:=25) (hn 9 (by simp)) rfl rfl rfl;have hsz:=jj hJ.size;clear hed hJ hn;refine opStep_no rfl (d:=25) rfl (by rw [hsz.out];rfl) hA25 rfl ?_;exact hK _ hS
      refine sure_cons ?_ ?_
      ·intro L ac W K hed hJ hS hK;have hn:=needs_spec (l:=[9]) (by kernel_rfl) hed;have hA25:=hJ.eval 9 (d:=25) (hn 9 (by simp)) rfl rfl rfl;have hsz:=jj hJ.size;clear hed hJ hn;refine opStep_no rfl (d:=25) rfl (by rw [hsz.out];rfl) hA25 rfl ?_;exact hK _ hS
      refine sure_cons ?_ ?_
      ·intro L ac W K hed hJ hS hK;have hn:=needs_spec (l:=[9]) (by kernel_rfl) hed;have hA25:=hJ.eval 9 (d:=25) (hn 9 (by simp)) rfl rfl rfl;have hsz:=jj hJ.size;clear hed hJ hn;refine opStep_no rfl (d:=25) rfl (by rw [hsz.out];rfl) hA25 rfl ?_;exact hK _ hS
      refine sure_cons ?_ ?_
      ·intro L ac W K hed hJ hS hK;have hn:=needs_spec (l:=[9]) (by kernel_rfl) hed;have hA25:=hJ.eval 9 (d:=25) (hn 9 (by simp)) rfl rfl rfl;have hsz:=jj hJ.size;clear hed hJ hn;refine opStep_no rfl (d:=25) rfl (by rw [hsz.out];rfl) hA25 rfl ?_;exact hK _ hS
      refine sure_cons ?_ ?_
      ·intro L ac W K hed hJ hS hK;have hn:=needs_spec (l:=[6,9,20]) (by kernel_rfl) hed;have hA25:=hJ.eval 9 (d:=25) (hn 9 (by simp)) rfl rfl rfl;have hA36:=hJ.eval 20 (d:=36) (hn 20 (by simp)) rfl rfl rfl;have hA22:=hJ.eval 6 (d:=22) (hn 6 (by simp)) rfl rfl rfl;have hsz:=jj hJ.size;clear hed hJ hn;refine opStep_yes rfl (d:=22) rfl (by rw [hsz.out];rfl) hA22 ?_;clear hsz;unfold Oper.wp execOp;have hN25:=evalN hA25;have hN36:=evalN hA36;go_simp;exact hK _ hS
      refine sure_cons ?_ ?_
      ·intro L ac W K hed hJ hS hK;have hn:=needs_spec (l:=[6,21]) (by kernel_rfl) hed;have hA22:=hJ.eval 6 (d:=22) (hn 6 (by simp)) rfl rfl rfl;have hA37:=hJ.eval 21 (d:=37) (hn 21 (by simp)) rfl rfl rfl;clear hed hJ hn;refine opStep_of rfl ?_;unfold Oper.wp execOp;have hN22:=evalN hA22;have hN37:=evalN hA37;go_simp;exact hK _ hS
      refine sure_nil ?_;intro W hS;simp only [putAll,Act.put,List.setIfInBounds_toArray,List.set_cons_zero,List.set_cons_succ];have HV:=jj (HW1.out.trans (hS.mono HW1.out.size));clear hS;go_wp2_with fail
      go_roundw
      case rel =>
       have R : ∃ k' : Nat,k' ≤ l.length ∧ Value.int .i64 ((0 : Nat) + 1 : Int) = .int .i64 k' ∧ Hid (∀ j,j < k' → stepB (l.map (·.1)) s j = true) ∧ Hid (Below w.heap.size w W):=⟨0 + 1,by have:=HLT.out;omega,by go_num,jj (fun j hj => by
        rcases Nat.lt_or_ge j (0) with h | h
        ·exact HK.out j h
        ·obtain rfl : j = 0:=(by omega);exact HST.out),HV⟩
       first | exact R | ((repeat apply Exists.intro);exact ⟨R,rfl⟩)
      case measure => first | (simp [intOf];done) | (simp [intOf];have:=HLT.out;omega)
    ·obtain ⟨kk,rfl⟩ : ∃ kk,k = kk + 1:=⟨k - 1,by omega⟩;obtain ⟨q,hq⟩:=get_some (l:=l) (k:=kk) (by omega);obtain ⟨bd',e,_,hc⟩:=Lies.row (f:=outCells) (n:=2) HA.out (fun y hy => rfl) (by omega) hq;injection e with e;subst e;have HQ:=jj hq;obtain ⟨n2,y2⟩:=q;have C2:=jj (fun W : World => outAt_any W n2 y2);have HPC : Hid (∀ W,Below w1.heap.size w1 W → ∀ j v,(outCells (n2,y2))[j]? = some v → W.cell? ((bd.add (kk * 2)).add j) = some v):=jj fun W hW j v hv => ((HW1.out.trans (hW.mono HW1.out.size)).cell (by show ((bd.add (kk * 2)).add j).block < _;rw [add_block,add_block];exact hbd)).trans (hc j v hv);have e1 : ((kk + 1 : Nat) : Int) - 1 = (kk : Int):=(by omega);have z1 : (0 : Int) ≤ (kk : Int):=(by omega);have e2 : IntKind.i64.wrap (kk : Int) = (kk : Int):=(by rw [IntKind.wrap_i64];omega);have z2 : (kk : Int) < (l.length : Int):=(by omega);have d2 : decide (((kk + 1 : Nat) : Int) > 0) = true:=(by simp);clear hc hq;by_cases h2 : n2 < n
     ·have d3 : decide (n ≤ n2) = false:=(by simp;omega);have HST:=jj (stepB_succ (·.1) HP.out HQ.out h1 h2);clear h1 h2;refine' wp_region_sure (by kernel_rfl) (fun W => Below w1.heap.size w1 W) 23 [_,_,_,_,_,_,_,_,_,_,_,_,_,_,_,_,_,_,_,_,_,_,_] [some 16,some 17,some 18,some 19,some 20,some 21,some 22,some 23,some 24,some 25,some 26,some 27,some 28,some 29,some 30,some 31,some 32,some 33,some 34,some 35,some 36,some 37,some 38] (by kernel_rfl) (by kernel_rfl) (by kernel_rfl) (by kernel_rfl) rfl (Below.refl _ _).drew ?hsb
      case hsb =>
       refine sure_cons ?_ ?_
       ·intro L ac W K hed hJ hS hK;have hA2 : ac.eval (.tmp 2) = .func (.func 47) #[] #[]:=hJ.eval_old 2 (by kernel_rfl);clear hed hJ;refine opStep_of rfl ?_;unfold Oper.wp execOp;have hN2:=evalN hA2;go_simp;exact hK _ hS
       refine sure_cons ?_ ?_
       ·intro L ac W K hed hJ hS hK;have hA8 : ac.eval (.tmp 8) = .pointer (some ⟨g1,0,none⟩):=hJ.eval_old 8 (by kernel_rfl);clear hed hJ;refine opStep_of rfl ?_;refine oper_load_at 54 (.tmp 8) rfl ⟨g1,0,none⟩ hA8 (outCells (n,y)) _ (HXC.out W hS) Tryz.underlying54 rfl (by kernel_rfl) ?_;exact hK _ hS
       refine sure_cons ?_ ?_
       ·intro L ac W K hed hJ hS hK;have hn:=needs_spec (l:=[0,1]) (by kernel_rfl) hed;have hA16:=hJ.eval 0 (d:=16) (hn 0 (by simp)) rfl rfl rfl;have hA17:=hJ.eval 1 (d:=17) (hn 1 (by simp)) rfl rfl rfl;clear hed hJ hn;refine opStep_of rfl ?_;unfold Oper.wp execOp;have hN16:=evalN hA16;have hN17:=evalN hA17;go_simp;refine (C1.out W).mono ?_;rintro e W' ⟨rfl,hb⟩;have hS2:=hS.trans (hb.mono hS.size);dsimp only;exact hK W' hS2
       refine sure_cons ?_ ?_
       ·intro L ac W K hed hJ hS hK;have hA1 : ac.eval (.tmp 1) = .int .i64 s:=hJ.eval_old 1 (by kernel_rfl);clear hed hJ;refine opStep_of rfl ?_;unfold Oper.wp execOp;have hN1:=evalN hA1;go_simp;exact hK _ hS
       refine sure_cons ?_ ?_
       ·intro L ac W K hed hJ hS hK;have hn:=needs_spec (l:=[3]) (by kernel_rfl) hed;have hA19:=hJ.eval 3 (d:=19) (hn 3 (by simp)) rfl rfl rfl;clear hed hJ hn;refine opStep_of rfl ?_;unfold Oper.wp execOp;have hN19:=evalN hA19;go_simp;exact hK _ hS
       refine sure_cons ?_ ?_
       ·intro L ac W K hed hJ hS hK;have hn:=needs_spec (l:=[2,4]) (by kernel_rfl) hed;have hA18:=hJ.eval 2 (d:=18) (hn 2 (by simp)) rfl rfl rfl;have hA20:=hJ.eval 4 (d:=20) (hn 4 (by simp)) rfl rfl rfl;clear hed hJ hn;refine opStep_of rfl ?_;unfold Oper.wp execOp;have hN18:=evalN hA18;have hN20:=evalN hA20;go_simp;exact hK _ hS
       refine sure_cons ?_ ?_
       ·intro L ac W K hed hJ hS hK;have hn:=needs_spec (l:=[5]) (by kernel_rfl) hed;have hA21:=hJ.eval 5 (d:=21) (hn 5 (by simp)) rfl rfl rfl;clear hed hJ hn;refine opStep_of rfl ?_;unfold Oper.wp execOp;have hN21:=evalN hA21;go_simp;exact hK _ hS
       refine sure_cons ?_ ?_
       ·intro L ac W K hed hJ hS hK;have hn:=needs_spec (l:=[6]) (by kernel_rfl) hed;have hA7 : ac.eval (.tmp 7) = .int .i64 ((kk + 1 : Nat) : Int):=hJ.eval_old 7 (by kernel_rfl);have hA22:=hJ.eval 6 (d:=22) (hn 6 (by simp)) rfl rfl rfl;have hsz:=jj hJ.size;clear hed hJ hn;refine opStep_yes rfl (d:=22) rfl (by rw [hsz.out];rfl) hA22 ?_;clear hsz;unfold Oper.wp execOp;have hN7:=evalN hA7;go_simp;exact hK _ hS
       refine sure_cons ?_ ?_
       ·intro L ac W K hed hJ hS hK;have hn:=needs_spec (l:=[6,7]) (by kernel_rfl) hed;have hA23:=hJ.eval 7 (d:=23) (hn 7 (by simp)) rfl rfl rfl;have hA22:=hJ.eval 6 (d:=22) (hn 6 (by simp)) rfl rfl rfl;have hsz:=jj hJ.size;clear hed hJ hn;refine opStep_yes rfl (d:=22) rfl (by rw [hsz.out];rfl) hA22 ?_;clear hsz;unfold Oper.wp execOp;have hN23:=evalN hA23;go_simp;exact hK _ hS
       refine sure_cons ?_ ?_
       ·intro L ac W K hed hJ hS hK;have hn:=needs_spec (l:=[6,8]) (by kernel_rfl) hed;have hA24:=hJ.eval 8 (d:=24) (hn 8 (by simp)) rfl rfl rfl;have hA22:=hJ.eval 6 (d:=22) (hn 6 (by simp)) rfl rfl rfl;have hsz:=jj hJ.size;clear hed hJ hn;refine opStep_yes rfl (d:=22) rfl (by rw [hsz.out];rfl) hA22 ?_;clear hsz;unfold Oper.wp execOp;have hN24:=evalN hA24;go_simp;exact hK _ hS
       refine sure_cons ?_ ?_
       ·intro L ac W K hed hJ hS hK;have hn:=needs_spec (l:=[9]) (by kernel_rfl) hed;have hA2 : ac.eval (.tmp 2) = .func (.func 47) #[] #[]:=hJ.eval_old 2 (by kernel_rfl);have hA25:=hJ.eval 9 (d:=25) (hn 9 (by simp)) rfl rfl rfl;have hsz:=jj hJ.size;clear hed hJ hn;refine opStep_yes rfl (d:=25) rfl (by rw [hsz.out];rfl) hA25 ?_;clear hsz;unfold Oper.wp execOp;have hN2:=evalN hA2;go_simp;exact hK _ hS
       refine sure_cons ?_ ?_
       ·intro L ac W K hed hJ hS hK;have hn:=needs_spec (l:=[9]) (by kernel_rfl) hed;have hA8 : ac.eval (.tmp 8) = .pointer (some ⟨g1,0,none⟩):=hJ.eval_old 8 (by kernel_rfl);have hA25:=hJ.eval 9 (d:=25) (hn 9 (by simp)) rfl rfl rfl;have hsz:=jj hJ.size;clear hed hJ hn;refine opStep_yes rfl (d:=25) rfl (by rw [hsz.out];rfl) hA25 ?_;clear hsz;refine oper_load_at 54 (.tmp 8) rfl ⟨g1,0,none⟩ hA8 (outCells (n,y)) _ (HXC.out W hS) Tryz.underlying54 rfl (by kernel_rfl) ?_;exact hK _ hS
       refine sure_cons ?_ ?_
       ·intro L ac W K hed hJ hS hK;have hn:=needs_spec (l:=[9,10,11]) (by kernel_rfl) hed;have hA26:=hJ.eval 10 (d:=26) (hn 10 (by simp)) rfl rfl rfl;have hA27:=hJ.eval 11 (d:=27) (hn 11 (by simp)) rfl rfl rfl;have hA25:=hJ.eval 9 (d:=25) (hn 9 (by simp)) rfl rfl rfl;have hsz:=jj hJ.size;clear hed hJ hn;refine opStep_yes rfl (d:=25) rfl (by rw [hsz.out];rfl) hA25 ?_;clear hsz;unfold Oper.wp execOp;have hN26:=evalN hA26;have hN27:=evalN hA27;go_simp;refine (C1.out W).mono ?_;rintro e W' ⟨rfl,hb⟩;have hS2:=hS.trans (hb.mono hS.size);dsimp only;exact hK W' hS2
       refine sure_cons ?_ ?_
       ·intro L ac W K hed hJ hS hK;have hn:=needs_spec (l:=[9]) (by kernel_rfl) hed;have hA2 : ac.eval (.tmp 2) = .func (.func 47) #[] #[]:=hJ.eval_old 2 (by kernel_rfl);have hA25:=hJ.eval 9 (d:=25) (hn 9 (by simp)) rfl rfl rfl;have hsz:=jj hJ.size;clear hed hJ hn;refine opStep_yes rfl (d:=25) rfl (by rw [hsz.out];rfl) hA25 ?_;clear hsz;unfold Oper.wp execOp;have hN2:=evalN hA2;go_simp;exact hK _ hS
       refine sure_cons ?_ ?_
       ·intro L ac W K hed hJ hS hK;have hn:=needs_spec (l:=[9]) (by kernel_rfl) hed;have hA0 : ac.eval (.tmp 0) = .slice (some bd) l.length c:=hJ.eval_old 0 (by kernel_rfl);have hA25:=hJ.eval 9 (d:=25) (hn 9 (by simp)) rfl rfl rfl;have hsz:=jj hJ.size;clear hed hJ hn;refine opStep_yes rfl (d:=25) rfl (by rw [hsz.out];rfl) hA25 ?_;clear hsz;unfold Oper.wp execOp;have hN0:=evalN hA0;go_simp;exact hK _ hS
       refine sure_cons ?_ ?_
       ·intro L ac W K hed hJ hS hK;have hn:=needs_spec (l:=[9]) (by kernel_rfl) hed;have hA7 : ac.eval (.tmp 7) = .int .i64 ((kk + 1 : Nat) : Int):=hJ.eval_old 7 (by kernel_rfl);have hA25:=hJ.eval 9 (d:=25) (hn 9 (by simp)) rfl rfl rfl;have hsz:=jj hJ.size;clear hed hJ hn;refine opStep_yes rfl (d:=25) rfl (by rw [hsz.out];rfl) hA25 ?_;clear hsz;unfold Oper.wp execOp;have hN7:=evalN hA7;go_simp;exact hK _ hS
       refine sure_cons ?_ ?_
       ·intro L ac W K hed hJ hS hK;have hn:=needs_spec (l:=[9,15]) (by kernel_rfl) hed;have hA31:=hJ.eval 15 (d:=31) (hn 15 (by simp)) rfl rfl rfl;have hA25:=hJ.eval 9 (d:=25) (hn 9 (by simp)) rfl rfl rfl;have hsz:=jj hJ.size;clear hed hJ hn;refine opStep_yes rfl (d:=25) rfl (by rw [hsz.out];rfl) hA25 ?_;clear hsz;unfold Oper.wp execOp;have hN31:=evalN hA31;go_simp;exact hK _ hS
       refine sure_cons ?_ ?_
       ·intro L ac W K hed hJ hS hK;have hn:=needs_spec (l:=[9,14,16]) (by kernel_rfl) hed;have hA30:=hJ.eval 14 (d:=30) (hn 14 (by simp)) rfl rfl rfl;have hA32:=hJ.eval 16 (d:=32) (hn 16 (by simp)) rfl rfl rfl;have hA25:=hJ.eval 9 (d:=25) (hn 9 (by simp)) rfl rfl rfl;have hsz:=jj hJ.size;clear hed hJ hn;refine opStep_yes rfl (d:=25) rfl (by rw [hsz.out];rfl) hA25 ?_;clear hsz;unfold Oper.wp execOp;have hN30:=evalN hA30;have hN32:=evalN hA32;go_simp;exact hK _ hS
       refine sure_cons ?_ ?_
       ·intro L ac W K hed hJ hS hK;have hn:=needs_spec (l:=[9,17]) (by kernel_rfl) hed;have hA33:=hJ.eval 17 (d:=33) (hn 17 (by simp)) rfl rfl rfl;have hA25:=hJ.eval 9 (d:=25) (hn 9 (by simp)) rfl rfl rfl;have hsz:=jj hJ.size;clear hed hJ hn;refine opStep_yes rfl (d:=25) rfl (by rw [hsz.out];rfl) hA25 ?_;clear hsz;refine oper_load_at 54 (.tmp 33) rfl (bd.add (kk * 2)) hA33 (outCells (n2,y2)) _ (HPC.out W hS) Tryz.underlying54 rfl (by kernel_rfl) ?_;exact hK _ hS
       refine sure_cons ?_ ?_
       ·intro L ac W K hed hJ hS hK;have hn:=needs_spec (l:=[9,13,18]) (by kernel_rfl) hed;have hA29:=hJ.eval 13 (d:=29) (hn 13 (by simp)) rfl rfl rfl;have hA34:=hJ.eval 18 (d:=34) (hn 18 (by simp)) rfl rfl rfl;have hA25:=hJ.eval 9 (d:=25) (hn 9 (by simp)) rfl rfl rfl;have hsz:=jj hJ.size;clear hed hJ hn;refine opStep_yes rfl (d:=25) rfl (by rw [hsz.out];rfl) hA25 ?_;clear hsz;unfold Oper.wp execOp;have hN29:=evalN hA29;have hN34:=evalN hA34;go_simp;refine (C2.out W).mono ?_;rintro e W' ⟨rfl,hb⟩;have hS2:=hS.trans (hb.mono hS.size);dsimp only;exact hK W' hS2
       refine sure_cons ?_ ?_
       ·intro L ac W K hed hJ hS hK;have hn:=needs_spec (l:=[9,12,19]) (by kernel_rfl) hed;have hA28:=hJ.eval 12 (d:=28) (hn 12 (by simp)) rfl rfl rfl;have hA35:=hJ.eval 19 (d:=35) (hn 19 (by simp)) rfl rfl rfl;have hA25:=hJ.eval 9 (d:=25) (hn 9 (by simp)) rfl rfl rfl;have hsz:=jj hJ.size;clear hed hJ hn;refine opStep_yes rfl (d:=25) rfl (by rw [hsz.out];rfl) hA25 ?_;clear hsz;unfold Oper.wp execOp;have hN28:=evalN hA28;have hN35:=evalN hA35;go_simp;exact hK _ hS
       refine sure_cons ?_ ?_
       ·intro L ac W K hed hJ hS hK;have hn:=needs_spec (l:=[6,9,20]) (by kernel_rfl) hed;have hA25:=hJ.eval 9 (d:=25) (hn 9 (by simp)) rfl rfl rfl;have hA36:=hJ.eval 20 (d:=36) (hn 20 (by simp)) rfl rfl rfl;have hA22:=hJ.eval 6 (d:=22) (hn 6 (by simp)) rfl rfl rfl;have hsz:=jj hJ.size;clear hed hJ hn;refine opStep_yes rfl (d:=22) rfl (by rw [hsz.out];rfl) hA22 ?_;clear hsz;unfold Oper.wp execOp;have hN25:=evalN hA25;have hN36:=evalN hA36;go_simp;exact hK _ hS
       refine sure_cons ?_ ?_
       ·intro L ac W K hed hJ hS hK;have hn:=needs_spec (l:=[6,21]) (by kernel_rfl) hed;have hA22:=hJ.eval 6 (d:=22) (hn 6 (by simp)) rfl rfl rfl;have hA37:=hJ.eval 21 (d:=37) (hn 21 (by simp)) rfl rfl rfl;clear hed hJ hn;refine opStep_of rfl ?_;unfold Oper.wp execOp;have hN22:=evalN hA22;have hN37:=evalN hA37;go_simp;exact hK _ hS
       refine sure_nil ?_;intro W hS;simp only [putAll,Act.put,List.setIfInBounds_toArray,List.set_cons_zero,List.set_cons_succ];have HV:=jj (HW1.out.trans (hS.mono HW1.out.size));clear hS;go_wp2_with fail
       go_roundw
       case rel =>
        have R : ∃ k' : Nat,k' ≤ l.length ∧ Value.int .i64 ((kk + 1 : Nat) + 1 : Int) = .int .i64 k' ∧ Hid (∀ j,j < k' → stepB (l.map (·.1)) s j = true) ∧ Hid (Below w.heap.size w W):=⟨kk + 1 + 1,by have:=HLT.out;omega,by go_num,jj (fun j hj => by
         rcases Nat.lt_or_ge j (kk + 1) with h | h
         ·exact HK.out j h
         ·obtain rfl : j = kk + 1:=(by omega);exact HST.out),HV⟩
        first | exact R | ((repeat apply Exists.intro);exact ⟨R,rfl⟩)
       case measure => first | (simp [intOf];done) | (simp [intOf];have:=HLT.out;omega)
     ·have d3 : decide (n ≤ n2) = true:=(by simp;omega);have HST:=jj (stepB_no2 (s:=s) (·.1) HP.out HQ.out h2);clear h1 h2;refine' wp_region_sure (by kernel_rfl) (fun W => Below w1.heap.size w1 W) 23 [_,_,_,_,_,_,_,_,_,_,_,_,_,_,_,_,_,_,_,_,_,_,_] [some 16,some 17,some 18,some 19,some 20,some 21,some 22,some 23,some 24,some 25,some 26,some 27,some 28,some 29,some 30,some 31,some 32,some 33,some 34,some 35,some 36,some 37,some 38] (by kernel_rfl) (by kernel_rfl) (by kernel_rfl) (by kernel_rfl) rfl (Below.refl _ _).drew ?hsc
      case hsc =>
       refine sure_cons ?_ ?_
       ·intro L ac W K hed hJ hS hK;have hA2 : ac.eval (.tmp 2) = .func (.func 47) #[] #[]:=hJ.eval_old 2 (by kernel_rfl);clear hed hJ;refine opStep_of rfl ?_;unfold Oper.wp execOp;have hN2:=evalN hA2;go_simp;exact hK _ hS
       refine sure_cons ?_ ?_
       ·intro L ac W K hed hJ hS hK;have hA8 : ac.eval (.tmp 8) = .pointer (some ⟨g1,0,none⟩):=hJ.eval_old 8 (by kernel_rfl);clear hed hJ;refine opStep_of rfl ?_;refine oper_load_at 54 (.tmp 8) rfl ⟨g1,0,none⟩ hA8 (outCells (n,y)) _ (HXC.out W hS) Tryz.underlying54 rfl (by kernel_rfl) ?_;exact hK _ hS
       refine sure_cons ?_ ?_
       ·intro L ac W K hed hJ hS hK;have hn:=needs_spec (l:=[0,1]) (by kernel_rfl) hed;have hA16:=hJ.eval 0 (d:=16) (hn 0 (by simp)) rfl rfl rfl;have hA17:=hJ.eval 1 (d:=17) (hn 1 (by simp)) rfl rfl rfl;clear hed hJ hn;refine opStep_of rfl ?_;unfold Oper.wp execOp;have hN16:=evalN hA16;have hN17:=evalN hA17;go_simp;refine (C1.out W).mono ?_;rintro e W' ⟨rfl,hb⟩;have hS2:=hS.trans (hb.mono hS.size);dsimp only;exact hK W' hS2
       refine sure_cons ?_ ?_
       ·intro L ac W K hed hJ hS hK;have hA1 : ac.eval (.tmp 1) = .int .i64 s:=hJ.eval_old 1 (by kernel_rfl);clear hed hJ;refine opStep_of rfl ?_;unfold Oper.wp execOp;have hN1:=evalN hA1;go_simp;exact hK _ hS
       refine sure_cons ?_ ?_
       ·intro L ac W K hed hJ hS hK;have hn:=needs_spec (l:=[3]) (by kernel_rfl) hed;have hA19:=hJ.eval 3 (d:=19) (hn 3 (by simp)) rfl rfl rfl;clear hed hJ hn;refine opStep_of rfl ?_;unfold Oper.wp execOp;have hN19:=evalN hA19;go_simp;exact hK _ hS
       refine sure_cons ?_ ?_
       ·intro L ac W K hed hJ hS hK;have hn:=needs_spec (l:=[2,4]) (by kernel_rfl) hed;have hA18:=hJ.eval 2 (d:=18) (hn 2 (by simp)) rfl rfl rfl;have hA20:=hJ.eval 4 (d:=20) (hn 4 (by simp)) rfl rfl rfl;clear hed hJ hn;refine opStep_of rfl ?_;unfold Oper.wp execOp;have hN18:=evalN hA18;have hN20:=evalN hA20;go_simp;exact hK _ hS
       refine sure_cons ?_ ?_
       ·intro L ac W K hed hJ hS hK;have hn:=needs_spec (l:=[5]) (by kernel_rfl) hed;have hA21:=hJ.eval 5 (d:=21) (hn 5 (by simp)) rfl rfl rfl;clear hed hJ hn;refine opStep_of rfl ?_;unfold Oper.wp execOp;have hN21:=evalN hA21;go_simp;exact hK _ hS
       refine sure_cons ?_ ?_
       ·intro L ac W K hed hJ hS hK;have hn:=needs_spec (l:=[6]) (by kernel_rfl) hed;have hA7 : ac.eval (.tmp 7) = .int .i64 ((kk + 1 : Nat) : Int):=hJ.eval_old 7 (by kernel_rfl);have hA22:=hJ.eval 6 (d:=22) (hn 6 (by simp)) rfl rfl rfl;have hsz:=jj hJ.size;clear hed hJ hn;refine opStep_yes rfl (d:=22) rfl (by rw [hsz.out];rfl) hA22 ?_;clear hsz;unfold Oper.wp execOp;have hN7:=evalN hA7;go_simp;exact hK _ hS
       refine sure_cons ?_ ?_
       ·intro L ac W K hed hJ hS hK;have hn:=needs_spec (l:=[6,7]) (by kernel_rfl) hed;have hA23:=hJ.eval 7 (d:=23) (hn 7 (by simp)) rfl rfl rfl;have hA22:=hJ.eval 6 (d:=22) (hn 6 (by simp)) rfl rfl rfl;have hsz:=jj hJ.size;clear hed hJ hn;refine opStep_yes rfl (d:=22) rfl (by rw [hsz.out];rfl) hA22 ?_;clear hsz;unfold Oper.wp execOp;have hN23:=evalN hA23;go_simp;exact hK _ hS
       refine sure_cons ?_ ?_
       ·intro L ac W K hed hJ hS hK;have hn:=needs_spec (l:=[6,8]) (by kernel_rfl) hed;have hA24:=hJ.eval 8 (d:=24) (hn 8 (by simp)) rfl rfl rfl;have hA22:=hJ.eval 6 (d:=22) (hn 6 (by simp)) rfl rfl rfl;have hsz:=jj hJ.size;clear hed hJ hn;refine opStep_yes rfl (d:=22) rfl (by rw [hsz.out];rfl) hA22 ?_;clear hsz;unfold Oper.wp execOp;have hN24:=evalN hA24;go_simp;exact hK _ hS
       refine sure_cons ?_ ?_
       ·intro L ac W K hed hJ hS hK;have hn:=needs_spec (l:=[9]) (by kernel_rfl) hed;have hA2 : ac.eval (.tmp 2) = .func (.func 47) #[] #[]:=hJ.eval_old 2 (by kernel_rfl);have hA25:=hJ.eval 9 (d:=25) (hn 9 (by simp)) rfl rfl rfl;have hsz:=jj hJ.size;clear hed hJ hn;refine opStep_yes rfl (d:=25) rfl (by rw [hsz.out];rfl) hA25 ?_;clear hsz;unfold Oper.wp execOp;have hN2:=evalN hA2;go_simp;exact hK _ hS
       refine sure_cons ?_ ?_
       ·intro L ac W K hed hJ hS hK;have hn:=needs_spec (l:=[9]) (by kernel_rfl) hed;have hA8 : ac.eval (.tmp 8) = .pointer (some ⟨g1,0,none⟩):=hJ.eval_old 8 (by kernel_rfl);have hA25:=hJ.eval 9 (d:=25) (hn 9 (by simp)) rfl rfl rfl;have hsz:=jj hJ.size;clear hed hJ hn;refine opStep_yes rfl (d:=25) rfl (by rw [hsz.out];rfl) hA25 ?_;clear hsz;refine oper_load_at 54 (.tmp 8) rfl ⟨g1,0,none⟩ hA8 (outCells (n,y)) _ (HXC.out W hS) Tryz.underlying54 rfl (by kernel_rfl) ?_;exact hK _ hS
       refine sure_cons ?_ ?_
       ·intro L ac W K hed hJ hS hK;have hn:=needs_spec (l:=[9,10,11]) (by kernel_rfl) hed;have hA26:=hJ.eval 10 (d:=26) (hn 10 (by simp)) rfl rfl rfl;have hA27:=hJ.eval 11 (d:=27) (hn 11 (by simp)) rfl rfl rfl;have hA25:=hJ.eval 9 (d:=25) (hn 9 (by simp)) rfl rfl rfl;have hsz:=jj hJ.size;clear hed hJ hn;refine opStep_yes rfl (d:=25) rfl (by rw [hsz.out];rfl) hA25 ?_;clear hsz;unfold Oper.wp execOp;have hN26:=evalN hA26;have hN27:=evalN hA27;go_simp;refine (C1.out W).mono ?_;rintro e W' ⟨rfl,hb⟩;have hS2:=hS.trans (hb.mono hS.size);dsimp only;exact hK W' hS2
       refine sure_cons ?_ ?_
       ·intro L ac W K hed hJ hS hK;have hn:=needs_spec (l:=[9]) (by kernel_rfl) hed;have hA2 : ac.eval (.tmp 2) = .func (.func 47) #[] #[]:=hJ.eval_old 2 (by kernel_rfl);have hA25:=hJ.eval 9 (d:=25) (hn 9 (by simp)) rfl rfl rfl;have hsz:=jj hJ.size;clear hed hJ hn;refine opStep_yes rfl (d:=25) rfl (by rw [hsz.out];rfl) hA25 ?_;clear hsz;unfold Oper.wp execOp;have hN2:=evalN hA2;go_simp;exact hK _ hS
       refine sure_cons ?_ ?_
       ·intro L ac W K hed hJ hS hK;have hn:=needs_spec (l:=[9]) (by kernel_rfl) hed;have hA0 : ac.eval (.tmp 0) = .slice (some bd) l.length c:=hJ.eval_old 0 (by kernel_rfl);have hA25:=hJ.eval 9 (d:=25) (hn 9 (by simp)) rfl rfl rfl;have hsz:=jj hJ.size;clear hed hJ hn;refine opStep_yes rfl (d:=25) rfl (by rw [hsz.out];rfl) hA25 ?_;clear hsz;unfold Oper.wp execOp;have hN0:=evalN hA0;go_simp;exact hK _ hS
       refine sure_cons ?_ ?_
       ·intro L ac W K hed hJ hS hK;have hn:=needs_spec (l:=[9]) (by kernel_rfl) hed;have hA7 : ac.eval (.tmp 7) = .int .i64 ((kk + 1 : Nat) : Int):=hJ.eval_old 7 (by kernel_rfl);have hA25:=hJ.eval 9 (d:=25) (hn 9 (by simp)) rfl rfl rfl;have hsz:=jj hJ.size;clear hed hJ hn;refine opStep_yes rfl (d:=25) rfl (by rw [hsz.out];rfl) hA25 ?_;clear hsz;unfold Oper.wp execOp;have hN7:=evalN hA7;go_simp;exact hK _ hS
       refine sure_cons ?_ ?_
       ·intro L ac W K hed hJ hS hK;have hn:=needs_spec (l:=[9,15]) (by kernel_rfl) hed;have hA31:=hJ.eval 15 (d:=31) (hn 15 (by simp)) rfl rfl rfl;have hA25:=hJ.eval 9 (d:=25) (hn 9 (by simp)) rfl rfl rfl;have hsz:=jj hJ.size;clear hed hJ hn;refine opStep_yes rfl (d:=25) rfl (by rw [hsz.out];rfl) hA25 ?_;clear hsz;unfold Oper.wp execOp;have hN31:=evalN hA31;go_simp;exact hK _ hS
       refine sure_cons ?_ ?_
       ·intro L ac W K hed hJ hS hK;have hn:=needs_spec (l:=[9,14,16]) (by kernel_rfl) hed;have hA30:=hJ.eval 14 (d:=30) (hn 14 (by simp)) rfl rfl rfl;have hA32:=hJ.eval 16 (d:=32) (hn 16 (by simp)) rfl rfl rfl;have hA25:=hJ.eval 9 (d:=25) (hn 9 (by simp)) rfl rfl rfl;have hsz:=jj hJ.size;clear hed hJ hn;refine opStep_yes rfl (d:=25) rfl (by rw [hsz.out];rfl) hA25 ?_;clear hsz;unfold Oper.wp execOp;have hN30:=evalN hA30;have hN32:=evalN hA32;go_simp;exact hK _ hS
       refine sure_cons ?_ ?_
       ·intro L ac W K hed hJ hS hK;have hn:=needs_spec (l:=[9,17]) (by kernel_rfl) hed;have hA33:=hJ.eval 17 (d:=33) (hn 17 (by simp)) rfl rfl rfl;have hA25:=hJ.eval 9 (d:=25) (hn 9 (by simp)) rfl rfl rfl;have hsz:=jj hJ.size;clear hed hJ hn;refine opStep_yes rfl (d:=25) rfl (by rw [hsz.out];rfl) hA25 ?_;clear hsz;refine oper_load_at 54 (.tmp 33) rfl (bd.add (kk * 2)) hA33 (outCells (n2,y2)) _ (HPC.out W hS) Tryz.underlying54 rfl (by kernel_rfl) ?_;exact hK _ hS
       refine sure_cons ?_ ?_
       ·intro L ac W K hed hJ hS hK;have hn:=needs_spec (l:=[9,13,18]) (by kernel_rfl) hed;have hA29:=hJ.eval 13 (d:=29) (hn 13 (by simp)) rfl rfl rfl;have hA34:=hJ.eval 18 (d:=34) (hn 18 (by simp)) rfl rfl rfl;have hA25:=hJ.eval 9 (d:=25) (hn 9 (by simp)) rfl rfl rfl;have hsz:=jj hJ.size;clear hed hJ hn;refine opStep_yes rfl (d:=25) rfl (by rw [hsz.out];rfl) hA25 ?_;clear hsz;unfold Oper.wp execOp;have hN29:=evalN hA29;have hN34:=evalN hA34;go_simp;refine (C2.out W).mono ?_;rintro e W' ⟨rfl,hb⟩;have hS2:=hS.trans (hb.mono hS.size);dsimp only;exact hK W' hS2
       refine sure_cons ?_ ?_
       ·intro L ac W K hed hJ hS hK;have hn:=needs_spec (l:=[9,12,19]) (by kernel_rfl) hed;have hA28:=hJ.eval 12 (d:=28) (hn 12 (by simp)) rfl rfl rfl;have hA35:=hJ.eval 19 (d:=35) (hn 19 (by simp)) rfl rfl rfl;have hA25:=hJ.eval 9 (d:=25) (hn 9 (by simp)) rfl rfl rfl;have hsz:=jj hJ.size;clear hed hJ hn;refine opStep_yes rfl (d:=25) rfl (by rw [hsz.out];rfl) hA25 ?_;clear hsz;unfold Oper.wp execOp;have hN28:=evalN hA28;have hN35:=evalN hA35;go_simp;exact hK _ hS
       refine sure_cons ?_ ?_
       ·intro L ac W K hed hJ hS hK;have hn:=needs_spec (l:=[6,9,20]) (by kernel_rfl) hed;have hA25:=hJ.eval 9 (d:=25) (hn 9 (by simp)) rfl rfl rfl;have hA36:=hJ.eval 20 (d:=36) (hn 20 (by simp)) rfl rfl rfl;have hA22:=hJ.eval 6 (d:=22) (hn 6 (by simp)) rfl rfl rfl;have hsz:=jj hJ.size;clear hed hJ hn;refine opStep_yes rfl (d:=22) rfl (by rw [hsz.out];rfl) hA22 ?_;clear hsz;unfold Oper.wp execOp;have hN25:=evalN hA25;have hN36:=evalN hA36;go_simp;exact hK _ hS
       refine sure_cons ?_ ?_
       ·intro L ac W K hed hJ hS hK;have hn:=needs_spec (l:=[6,21]) (by kernel_rfl) hed;have hA22:=hJ.eval 6 (d:=22) (hn 6 (by simp)) rfl rfl rfl;have hA37:=hJ.eval 21 (d:=37) (hn 21 (by simp)) rfl rfl rfl;clear hed hJ hn;refine opStep_of rfl ?_;unfold Oper.wp execOp;have hN22:=evalN hA22;have hN37:=evalN hA37;go_simp;exact hK _ hS
       refine sure_nil ?_;intro W hS;simp only [putAll,Act.put,List.setIfInBounds_toArray,List.set_cons_zero,List.set_cons_succ];have HV:=jj (HW1.out.trans (hS.mono HW1.out.size));clear hS;go_wp2_with fail;go_ret;exact ⟨by rw [riseB_no (by rw [List.length_map];exact HLT.out) HST.out];rfl,HV.out⟩
   ·have d1 : decide (s ≤ n) = true:=(by simp;omega);have d1' : decide (n ≥ s) = true:=d1;have HST:=jj (stepB_no1 (·.1) HP.out h1);clear h1;obtain ⟨kk,hkk⟩ : ∃ kk : Int,kk = (k : Int):=⟨_,rfl⟩;refine' wp_region_sure (by kernel_rfl) (fun W => Below w1.heap.size w1 W) 23 [_,_,_,_,_,_,_,undef,undef,undef,undef,undef,undef,undef,undef,undef,undef,undef,undef,undef,undef,undef,_] [some 16,some 17,some 18,some 19,some 20,some 21,some 22,some 23,some 24,some 25,some 26,some 27,some 28,some 29,some 30,some 31,some 32,some 33,some 34,some 35,some 36,some 37,some 38] (by kernel_rfl) (by kernel_rfl) (by kernel_rfl) (by kernel_rfl) rfl (Below.refl _ _).drew ?hsd
    case hsd =>
     refine sure_cons ?_ ?_
     ·intro L ac W K hed hJ hS hK;have hA2 : ac.eval (.tmp 2) = .func (.func 47) #[] #[]:=hJ.eval_old 2 (by kernel_rfl);clear hed hJ;refine opStep_of rfl ?_;unfold Oper.wp execOp;have hN2:=evalN hA2;go_simp;exact hK _ hS
     refine sure_cons ?_ ?_
     ·intro L ac W K hed hJ hS hK;have hA8 : ac.eval (.tmp 8) = .pointer (some ⟨g1,0,none⟩):=hJ.eval_old 8 (by kernel_rfl);clear hed hJ;refine opStep_of rfl ?_;refine oper_load_at 54 (.tmp 8) rfl ⟨g1,0,none⟩ hA8 (outCells (n,y)) _ (HXC.out W hS) Tryz.underlying54 rfl (by kernel_rfl) ?_;exact hK _ hS
     refine sure_cons ?_ ?_
     ·intro L ac W K hed hJ hS hK;have hn:=needs_spec (l:=[0,1]) (by kernel_rfl) hed;have hA16:=hJ.eval 0 (d:=16) (hn 0 (by simp)) rfl rfl rfl;have hA17:=hJ.eval 1 (d:=17) (hn 1 (by simp)) rfl rfl rfl;clear hed hJ hn;refine opStep_of rfl ?_;unfold Oper.wp execOp;have hN16:=evalN hA16;have hN17:=evalN hA17;go_simp;refine (C1.out W).mono ?_;rintro e W' ⟨rfl,hb⟩;have hS2:=hS.trans (hb.mono hS.size);dsimp only;exact hK W' hS2
     refine sure_cons ?_ ?_
     ·intro L ac W K hed hJ hS hK;have hA1 : ac.eval (.tmp 1) = .int .i64 s:=hJ.eval_old 1 (by kernel_rfl);clear hed hJ;refine opStep_of rfl ?_;unfold Oper.wp execOp;have hN1:=evalN hA1;go_simp;exact hK _ hS
     refine sure_cons ?_ ?_
     ·intro L ac W K hed hJ hS hK;have hn:=needs_spec (l:=[3]) (by kernel_rfl) hed;have hA19:=hJ.eval 3 (d:=19) (hn 3 (by simp)) rfl rfl rfl;clear hed hJ hn;refine opStep_of rfl ?_;unfold Oper.wp execOp;have hN19:=evalN hA19;go_simp;exact hK _ hS
     refine sure_cons ?_ ?_
     ·intro L ac W K hed hJ hS hK;have hn:=needs_spec (l:=[2,4]) (by kernel_rfl) hed;have hA18:=hJ.eval 2 (d:=18) (hn 2 (by simp)) rfl rfl rfl;have hA20:=hJ.eval 4 (d:=20) (hn 4 (by simp)) rfl rfl rfl;clear hed hJ hn;refine opStep_of rfl ?_;unfold Oper.wp execOp;have hN18:=evalN hA18;have hN20:=evalN hA20;go_simp;exact hK _ hS
     refine sure_cons ?_ ?_
     ·intro L ac W K hed hJ hS hK;have hn:=needs_spec (l:=[5]) (by kernel_rfl) hed;have hA21:=hJ.eval 5 (d:=21) (hn 5 (by simp)) rfl rfl rfl;clear hed hJ hn;refine opStep_of rfl ?_;unfold Oper.wp execOp;have hN21:=evalN hA21;go_simp;exact hK _ hS
     refine sure_cons ?_ ?_
     ·intro L ac W K hed hJ hS hK;have hn:=needs_spec (l:=[6]) (by kernel_rfl) hed;have hA22:=hJ.eval 6 (d:=22) (hn 6 (by simp)) rfl rfl rfl;have hsz:=jj hJ.size;clear hed hJ hn;refine opStep_no rfl (d:=22) rfl (by rw [hsz.out];rfl) hA22 rfl ?_;exact hK _ hS
     refine sure_cons ?_ ?_
     ·intro L ac W K hed hJ hS hK;have hn:=needs_spec (l:=[6]) (by kernel_rfl) hed;have hA22:=hJ.eval 6 (d:=22) (hn 6 (by simp)) rfl rfl rfl;have hsz:=jj hJ.size;clear hed hJ hn;refine opStep_no rfl (d:=22) rfl (by rw [hsz.out];rfl) hA22 rfl ?_;exact hK _ hS
     refine sure_cons ?_ ?_
     ·intro L ac W K hed hJ hS hK;have hn:=needs_spec (l:=[6]) (by kernel_rfl) hed;have hA22:=hJ.eval 6 (d:=22) (hn 6 (by simp)) rfl rfl rfl;have hsz:=jj hJ.size;clear hed hJ hn;refine opStep_no rfl (d:=22) rfl (by rw [hsz.out];rfl) hA22 rfl ?_;exact hK _ hS
     refine sure_cons ?_ ?_
     ·intro L ac W K hed hJ hS hK;have hn:=needs_spec (l:=[9]) (by kernel_rfl) hed;have hA25:=hJ.eval 9 (d:=25) (hn 9 (by simp)) rfl rfl rfl;have hsz:=jj hJ.size;clear hed hJ hn;refine opStep_un rfl (d:=25) rfl hA25 ?_;exact hK _ hS
     refine sure_cons ?_ ?_
     ·intro L ac W K hed hJ hS hK;have hn:=needs_spec (l:=[9]) (by kernel_rfl) hed;have hA25:=hJ.eval 9 (d:=25) (hn 9 (by simp)) rfl rfl rfl;have hsz:=jj hJ.size;clear hed hJ hn;refine opStep_un rfl (d:=25) rfl hA25 ?_;exact hK _ hS
     refine sure_cons ?_ ?_
     ·intro L ac W K hed hJ hS hK;have hn:=needs_spec (l:=[9]) (by kernel_rfl) hed;have hA25:=hJ.eval 9 (d:=25) (hn 9 (by simp)) rfl rfl rfl;have hsz:=jj hJ.size;clear hed hJ hn;refine opStep_un rfl (d:=25) rfl hA25 ?_;exact hK _ hS
     refine sure_cons ?_ ?_
     ·intro L ac W K hed hJ hS hK;have hn:=needs_spec (l:=[9]) (by kernel_rfl) hed;have hA25:=hJ.eval 9 (d:=25) (hn 9 (by simp)) rfl rfl rfl;have hsz:=jj hJ.size;clear hed hJ hn;refine opStep_un rfl (d:=25) rfl hA25 ?_;exact hK _ hS
     refine sure_cons ?_ ?_
     ·intro L ac W K hed hJ hS hK;have hn:=needs_spec (l:=[9]) (by kernel_rfl) hed;have hA25:=hJ.eval 9 (d:=25) (hn 9 (by simp)) rfl rfl rfl;have hsz:=jj hJ.size;clear hed hJ hn;refine opStep_un rfl (d:=25) rfl hA25 ?_;exact hK _ hS
     refine sure_cons ?_ ?_
     ·intro L ac W K hed hJ hS hK;have hn:=needs_spec (l:=[9]) (by kernel_rfl) hed;have hA25:=hJ.eval 9 (d:=25) (hn 9 (by simp)) rfl rfl rfl;have hsz:=jj hJ.size;clear hed hJ hn;refine opStep_un rfl (d:=25) rfl hA25 ?_;exact hK _ hS
     refine sure_cons ?_ ?_
     ·intro L ac W K hed hJ hS hK;have hn:=needs_spec (l:=[9]) (by kernel_rfl) hed;have hA25:=hJ.eval 9 (d:=25) (hn 9 (by simp)) rfl rfl rfl;have hsz:=jj hJ.size;clear hed hJ hn;refine opStep_un rfl (d:=25) rfl hA25 ?_;exact hK _ hS
     refine sure_cons ?_ ?_
     ·intro L ac W K hed hJ hS hK;have hn:=needs_spec (l:=[9]) (by kernel_rfl) hed;have hA25:=hJ.eval 9 (d:=25) (hn 9 (by simp)) rfl rfl rfl;have hsz:=jj hJ.size;clear hed hJ hn;refine opStep_un rfl (d:=25) rfl hA25 ?_;exact hK _ hS
     refine sure_cons ?_ ?_
     ·intro L ac W K hed hJ hS hK;have hn:=needs_spec (l:=[9]) (by kernel_rfl) hed;have hA25:=hJ.eval 9 (d:=25) (hn 9 (by simp)) rfl rfl rfl;have hsz:=jj hJ.size;clear hed hJ hn;refine opStep_un rfl (d:=25) rfl hA25 ?_;exact hK _ hS
     refine sure_cons ?_ ?_
     ·intro L ac W K hed hJ hS hK;have hn:=needs_spec (l:=[9]) (by kernel_rfl) hed;have hA25:=hJ.eval 9 (d:=25) (hn 9 (by simp)) rfl rfl rfl;have hsz:=jj hJ.size;clear hed hJ hn;refine opStep_un rfl (d:=25) rfl hA25 ?_;exact hK _ hS
     refine sure_cons ?_ ?_
     ·intro L ac W K hed hJ hS hK;have hn:=needs_spec (l:=[9]) (by kernel_rfl) hed;have hA25:=hJ.eval 9 (d:=25) (hn 9 (by simp)) rfl rfl rfl;have hsz:=jj hJ.size;clear hed hJ hn;refine opStep_un rfl (d:=25) rfl hA25 ?_;exact hK _ hS
     refine sure_cons ?_ ?_
     ·intro L ac W K hed hJ hS hK;have hn:=needs_spec (l:=[6]) (by kernel_rfl) hed;have hA22:=hJ.eval 6 (d:=22) (hn 6 (by simp)) rfl rfl rfl;have hsz:=jj hJ.size;clear hed hJ hn;refine opStep_no rfl (d:=22) rfl (by rw [hsz.out];rfl) hA22 rfl ?_;exact hK _ hS
     refine sure_cons ?_ ?_
     ·intro L ac W K hed hJ hS hK;have hn:=needs_spec (l:=[6,21]) (by kernel_rfl) hed;have hA22:=hJ.eval 6 (d:=22) (hn 6 (by simp)) rfl rfl rfl;have hA37:=hJ.eval 21 (d:=37) (hn 21 (by simp)) rfl rfl rfl;clear hed hJ hn;refine opStep_of rfl ?_;unfold Oper.wp execOp;have hN22:=evalN hA22;have hN37:=evalN hA37;go_simp;exact hK _ hS
     refine sure_nil ?_;intro W hS;simp only [putAll,Act.put,List.setIfInBounds_toArray,List.set_cons_zero,List.set_cons_succ];have HV:=jj (HW1.out.trans (hS.mono HW1.out.size));clear hS;go_wp2_with fail;go_ret;exact ⟨by rw [riseB_no (by rw [List.length_map];exact HLT.out) HST.out];rfl,HV.out⟩
  ·obtain rfl : k = l.length:=(by omega);have hd : decide (l.length < l.length) = false:=(by simp);go_wp2_with fail;go_ret;exact ⟨by rw [riseB_yes (by rw [List.length_map];exact HK.out)];rfl,HW.out⟩
end Go.Proofs.YtdlnmdbonagchaaGreatDoor
