import Derived.Test.YtdkhnjjihbmlmaaGreatDoorSyF
import Derived.Test.YtdkhnjjihbmlmaaGreatDoorSureA
namespace Go.Proofs.YtdkhnjjihbmlmaaGreatDoor
open Go.RowKit
theorem prs_set {l : List Pr} (hl : ∀ x ∈ l,(prCells x).length = 96) {k j : Nat} {x y : Pr} {v : Value} (hk : l[k]? = some x) (hx : (prCells x).set j v = prCells y) (hj : j < 96) : (prsCells l).set (k * 96 + j) v = prsCells (l.set k y):=by
 induction l generalizing k with
 | nil => cases hk
 | cons z t ih =>
  cases k with
  | zero => obtain rfl : z = x:=(by simpa using hk);show (prCells z ++ t.flatMap prCells).set (0 * 96 + j) v = prCells y ++ t.flatMap prCells;rw [Nat.zero_mul,Nat.zero_add,List.set_append_left _ _ (by rw [hl z (by simp)];exact hj),hx]
  | succ k => show (prCells z ++ t.flatMap prCells).set ((k + 1) * 96 + j) v = prCells z ++ (t.set k y).flatMap prCells;have hz : (prCells z).length = 96:=hl z (by simp);rw [List.set_append_right _ _ (by rw [hz];omega),hz,show (k + 1) * 96 + j - 96 = k * 96 + j by omega];exact congrArg _ (ih (fun x hx => hl x (List.mem_cons_of_mem _ hx)) (by simpa using hk))
def kcM (a : MA) (m : Mc) (a0 : MA) (m0 : Mc) (pid x0 x1 x2 : Int) (tl : List UInt8) : List Value:=mcL a m ++ (mcL a0 m0 ++ [.int .i64 pid,.int .u32 x0,.int .u32 x1,.int .u32 x2,S tl])
structure KM (w : World) (B kb : Nat) (a : MA) (m : Mc) (a0 : MA) (m0 : Mc) (pid x0 x1 x2 : Int) (tl : List UInt8) : Prop where
 own : OwnG B w a m
 ker : Whole w kb 62 (kcM a m a0 m0 pid x0 x1 x2 tl).toArray
 ok : McOk m
section
variable {w w' : World} {B kb : Nat} {a : MA} {m : Mc} {a0 : MA} {m0 : Mc} {pid x0 x1 x2 : Int} {tl : List UInt8}
theorem KM.below (h : KM w B kb a m a0 m0 pid x0 x1 x2 tl) (hb : Below w.heap.size w w') : KM w' B kb a m a0 m0 pid x0 x1 x2 tl:=⟨h.own.below hb,h.ker.below hb h.ker.lt,h.ok⟩
theorem KM.load (h : KM w B kb a m a0 m0 pid x0 x1 x2 tl) : ∀ j v,(mcL a m)[j]? = some v → w.cell? ((⟨kb,0,none⟩ : Addr).add j) = some v:=fun j v hv => by
 refine h.ker.reads j v ?_;unfold kcM;rw [List.getElem?_append_left (List.getElem?_eq_some_iff.1 hv).1];exact hv
structure KAt (m : Mc) (pid : Int) (k : Nat) (p : Pr) : Prop where
 f : findB m pid = true ∧ findI m pid = (k : Int)
 at' : m.procs[k]? = some p
theorem KAt.lt {k : Nat} {p : Pr} (h : KAt m pid k p) : k < m.procs.length:=(List.getElem?_eq_some_iff.1 h.at').1
theorem OwnG.row {k : Nat} {p : Pr} (h : OwnG B w a m) (hk : KAt m pid k p) : ∃ g,a.P = some ⟨g,0,none⟩ ∧ B ≤ g:=by
 rcases h.P.2 with ⟨e,h0⟩ | ⟨g,cap,cur,e,hb,_⟩
 ·have:=hk.lt;omega
 ·injection e with e;exact ⟨g,e,hb⟩
end
theorem pr_reg1 {p : Pr} (h : PrOk p) (x : Int) : (prCells p).set 4 (.int .u32 x) = prCells { p with regs:=p.regs.set 1 x }:=by
 unfold prCells;rw [show (4 : Nat) = 1 + 1 + 1 + 1 by rfl,List.set_cons_succ,List.set_cons_succ,List.set_cons_succ,List.set_append_left _ _ (by simp [rgCells,h.regs])];simp [rgCells,List.map_set]
theorem pr_reg4 {p : Pr} (h : PrOk p) : ∃ r,(prCells p)[4]? = some (.int .u32 r):=by
 have hr:=h.regs;refine ⟨p.regs[1]'(by omega),?_⟩;unfold prCells;rw [show (4 : Nat) = 1 + 1 + 1 + 1 by rfl,List.getElem?_cons_succ,List.getElem?_cons_succ,List.getElem?_cons_succ,List.getElem?_append_left (by simp [rgCells,hr])];simp [rgCells,hr]
set_option maxRecDepth 100000 in
set_option maxHeartbeats 4000000 in
theorem caller_km {w : World} {B kb : Nat} {a : MA} {m : Mc} {a0 : MA} {m0 : Mc} {pid x0 x1 x2 : Int} {tl : List UInt8} (h : KM w B kb a m a0 m0 pid x0 x1 x2 tl) {k : Nat} {p : Pr} (hk : KAt m pid k p) {g : Nat} (hg : a.P = some ⟨g,0,none⟩) :
  Calls Tryz.prog 45 #[.pointer (some ⟨kb,0,none⟩)] w fun e w' => e = .returned (.pointer (some ⟨g,k * 96,none⟩)) ∧ Below w.heap.size w w':=by
 have HK:=jj h
 have CF : Hid (∀ W,Below w.heap.size w W → Calls Tryz.prog 15 #[.agg (mcL a m).toArray,.int .i64 pid] W fun e w' => e = .returned (.tuple #[.int .i64 (k : Int),.bool true]) ∧ Below W.heap.size W w'):=jj fun W hS => by
  have:=find_any W a m h.ok (h.below hS).own.at pid
  rwa [hk.f.1,hk.f.2] at this
 have HL : Hid (∀ W,Below w.heap.size w W → ∀ j v,(mcL a m)[j]? = some v → W.cell? ((⟨kb,0,none⟩ : Addr).add j) = some v):=jj fun W hS => (h.below hS).load;have H34 : Hid (∀ W,Below w.heap.size w W → W.cell? ⟨kb,34,none⟩ = some (.int .i64 pid)):=jj fun W hS => (h.below hS).ker.cell 34
 have H5 : Hid (∀ W,Below w.heap.size w W → W.cell? ⟨kb,5,none⟩ = some (.slice (some ⟨g,0,none⟩) m.procs.length a.cP)):=jj fun W hS => by
  have:=(h.below hS).ker.cell 5;rw [this,← hg];rfl
 have MI : Hid ((Tryz.prog.info? 30).map (·.size) = some (mcL a m).length):=jj Tryz.sizeMc;have i0 : (0 : Int) ≤ (k : Int):=(by omega);have i1 : (k : Int) < (m.procs.length : Int):=(by have:=hk.lt;omega);clear h hk hg;go_enter Tryz.func45,Tryz.ntmps45;go_upto_region 1 with (fail);refine' wp_region_sure (by kernel_rfl) (fun W => Below w.heap.size w W) 14 [_,_,_,_,_,_,_,_,_,_,_,_,_,_] [some 6,some 7,some 8,some 9,some 10,some 11,some 12,some 13,some 14,some 5,some 15,some 16,some 3,some 4] (by kernel_rfl) (by kernel_rfl) (by kernel_rfl) (by kernel_rfl) rfl (Below.refl _ _).drew ?hs1
 case hs1 =>
  refine sure_cons ?_ ?_
  ·intro L ac W K hed hJ hS hK;have hA0 : ac.eval (.tmp 0) = .pointer (some ⟨kb,0,none⟩):=hJ.eval_old 0 (by kernel_rfl);clear hed hJ;refine opStep_of rfl ?_;unfold Oper.wp execOp;have hN0:=evalN hA0;go_simp;exact hK _ hS
  refine sure_cons ?_ ?_
  ·intro L ac W K hed hJ hS hK;have hn:=needs_spec (l:=[0]) (by kernel_rfl) hed;have hA6:=hJ.eval 0 (d:=6) (hn 0 (by simp)) rfl rfl rfl;clear hed hJ hn;refine opStep_of rfl ?_;unfold Oper.wp execOp;have hN6:=evalN hA6;go_simp;exact hK _ hS
  refine sure_cons ?_ ?_
  ·intro L ac W K hed hJ hS hK;have hn:=needs_spec (l:=[1]) (by kernel_rfl) hed;have hA7:=hJ.eval 1 (d:=7) (hn 1 (by simp)) rfl rfl rfl;clear hed hJ hn;refine opStep_of rfl ?_;unfold Oper.wp execOp;have hN7:=evalN hA7;go_simp;exact hK _ hS
  refine sure_cons ?_ ?_
  ·intro L ac W K hed hJ hS hK;have hn:=needs_spec (l:=[2]) (by kernel_rfl) hed;have hA8:=hJ.eval 2 (d:=8) (hn 2 (by simp)) rfl rfl rfl;clear hed hJ hn;refine opStep_of rfl ?_;refine oper_load_at 30 (.tmp 8) rfl ⟨kb,0,none⟩ hA8 (mcL a m) _ (HL.out W hS) Tryz.underlying30 rfl MI.out ?_;exact hK _ hS
  refine sure_cons ?_ ?_
  ·intro L ac W K hed hJ hS hK;have hA0 : ac.eval (.tmp 0) = .pointer (some ⟨kb,0,none⟩):=hJ.eval_old 0 (by kernel_rfl);clear hed hJ;refine opStep_of rfl ?_;unfold Oper.wp execOp;have hN0:=evalN hA0;go_simp;exact hK _ hS
  refine sure_cons ?_ ?_
  ·intro L ac W K hed hJ hS hK;have hn:=needs_spec (l:=[4]) (by kernel_rfl) hed;have hA10:=hJ.eval 4 (d:=10) (hn 4 (by simp)) rfl rfl rfl;clear hed hJ hn;refine opStep_of rfl ?_;unfold Oper.wp execOp;have hN10:=evalN hA10;go_simp;exact hK _ hS
  refine sure_cons ?_ ?_
  ·intro L ac W K hed hJ hS hK;have hn:=needs_spec (l:=[5]) (by kernel_rfl) hed;have hA11:=hJ.eval 5 (d:=11) (hn 5 (by simp)) rfl rfl rfl;clear hed hJ hn;refine opStep_of rfl ?_;unfold Oper.wp execOp;have hN11:=evalN hA11;go_simp;exact hK _ hS
  refine sure_cons ?_ ?_
  ·intro L ac W K hed hJ hS hK;have hn:=needs_spec (l:=[6]) (by kernel_rfl) hed;have hA12:=hJ.eval 6 (d:=12) (hn 6 (by simp)) rfl rfl rfl;clear hed hJ hn;refine opStep_of rfl ?_;have cc:=H34.out W hS;unfold Oper.wp execOp;have hN12:=evalN hA12;go_simp;exact hK _ hS
  refine sure_cons ?_ ?_
  ·intro L ac W K hed hJ hS hK;have hn:=needs_spec (l:=[3,7]) (by kernel_rfl) hed;have hA9:=hJ.eval 3 (d:=9) (hn 3 (by simp)) rfl rfl rfl;have hA13:=hJ.eval 7 (d:=13) (hn 7 (by simp)) rfl rfl rfl;clear hed hJ hn;refine opStep_of rfl ?_;unfold Oper.wp execOp;have hN9:=evalN hA9;have hN13:=evalN hA13;go_simp;refine (CF.out W hS).mono ?_;rintro e W' ⟨rfl,hb⟩;have hS2:=hS.trans (hb.mono hS.size);dsimp only;exact hK W' hS2
  refine sure_cons ?_ ?_
  ·intro L ac W K hed hJ hS hK;have hn:=needs_spec (l:=[8]) (by kernel_rfl) hed;have hA14:=hJ.eval 8 (d:=14) (hn 8 (by simp)) rfl rfl rfl;clear hed hJ hn;refine opStep_of rfl ?_;unfold Oper.wp execOp;have hN14:=evalN hA14;go_simp;exact hK _ hS
  refine sure_cons ?_ ?_
  ·intro L ac W K hed hJ hS hK;have hn:=needs_spec (l:=[9]) (by kernel_rfl) hed;have hA5:=hJ.eval 9 (d:=5) (hn 9 (by simp)) rfl rfl rfl;clear hed hJ hn;refine opStep_of rfl ?_;unfold Oper.wp execOp;have hN5:=evalN hA5;go_simp;exact hK _ hS
  refine sure_cons ?_ ?_
  ·intro L ac W K hed hJ hS hK;have hn:=needs_spec (l:=[9]) (by kernel_rfl) hed;have hA5:=hJ.eval 9 (d:=5) (hn 9 (by simp)) rfl rfl rfl;clear hed hJ hn;refine opStep_of rfl ?_;unfold Oper.wp execOp;have hN5:=evalN hA5;go_simp;exact hK _ hS
  refine sure_cons ?_ ?_
  ·intro L ac W K hed hJ hS hK;have hn:=needs_spec (l:=[10]) (by kernel_rfl) hed;have hA15:=hJ.eval 10 (d:=15) (hn 10 (by simp)) rfl rfl rfl;clear hed hJ hn;refine opStep_of rfl ?_;unfold Oper.wp execOp;have hN15:=evalN hA15;go_simp;exact hK _ hS
  refine sure_cons ?_ ?_
  ·intro L ac W K hed hJ hS hK;have hn:=needs_spec (l:=[11]) (by kernel_rfl) hed;have hA16:=hJ.eval 11 (d:=16) (hn 11 (by simp)) rfl rfl rfl;clear hed hJ hn;refine opStep_of rfl ?_;unfold Oper.wp execOp;have hN16:=evalN hA16;go_simp;exact hK _ hS
  refine sure_nil ?_;intro W hS;simp only [putAll,Act.put,List.setIfInBounds_toArray,List.set_cons_zero,List.set_cons_succ];have c5:=H5.out W hS;have HS:=jj hS;clear hS;go_wp2_with fail;go_ret;exact ⟨rfl,HS.out⟩
theorem ans_ok {m : Mc} {k : Nat} {p : Pr} (h : McOk m) (hk : m.procs[k]? = some p) : McOk { m with procs:=m.procs.set k p.ans } :=
 ⟨h.clock,h.quantum,h.cur,h.left,h.next,h.newPipe,h.told,h.dleft,fun x hx => by
  rcases List.mem_or_eq_of_mem_set hx with h1 | rfl
  ·exact h.procs x h1
  ·have q:=h.procs p (List.mem_of_getElem? hk);exact ⟨by simp [Pr.ans,q.regs],q.space,q.fds,q.pid,q.parent,q.state,fun r hr => (List.mem_or_eq_of_mem_set hr).elim (q.reg r) (fun e => by rw [e];exact ⟨by decide,by decide⟩),q.pc,q.page,q.fd,q.code,q.why,q.n⟩,h.pipes,h.pend,h.dirty,by have:=h.sizes;simpa using this⟩
set_option maxRecDepth 100000 in
set_option maxHeartbeats 1000000 in
theorem answer_km {w : World} {B kb : Nat} {a : MA} {m : Mc} {a0 : MA} {m0 : Mc} {pid x0 x1 x2 : Int} {tl : List UInt8} (h : KM w B kb a m a0 m0 pid x0 x1 x2 tl) {k : Nat} {p : Pr} (hk : KAt m pid k p) (hB : B ≤ w.heap.size) :
  Calls Tryz.prog 31 #[.pointer (some ⟨kb,0,none⟩),.int .u32 0] w fun e w' => e = .returned (.tuple #[]) ∧ KM w' B kb a { m with procs:=m.procs.set k p.ans } a0 m0 pid x0 x1 x2 tl ∧ Below B w w':=by
 obtain ⟨g,hg,hgb⟩:=h.own.row hk;have CX:=jj (caller_km h hk hg);have HK:=jj h;have hpo:=h.ok.procs p (List.mem_of_getElem? hk.at');obtain ⟨r,hr⟩:=pr_reg4 hpo;have HKA:=jj hk;have HPO:=jj hpo;have HR:=jj hr;have HG:=jj hg;clear h hk hg hpo hr;go_enter Tryz.func31,Tryz.ntmps31;go_wp2_with fail;refine CX.out.mono ?_;rintro e w1 ⟨rfl,hb⟩;have HK1:=jj (HK.out.below hb);have HB:=jj (hb.mono hB);clear hb CX HK;have HP : Hid (w1.ownsRow B 48 96 (.slice (some ⟨g,0,none⟩) m.procs.length a.cP) m.procs.length (prsCells m.procs)):=jj (by rw [← HG.out];exact HK1.out.own.P);have hl96 : ∀ x ∈ m.procs,(prCells x).length = 96:=fun x hx => prCells_length (HK1.out.ok.procs x hx)
 have c4 : w1.cell? ⟨g,k * 96 + 4,none⟩ = some (.int .u32 r):=by
  have:=HP.out.cells (g:=g) rfl (k * 96 + 4) (.int .u32 r) ((flat_at prCells 96 _ hl96 HKA.out.at' (by decide)).trans HR.out)
  rwa [show (⟨g,0,none⟩ : Addr).add (k * 96 + 4) = ⟨g,k * 96 + 4,none⟩ by rw [Addr.add];split <;> simp_all] at this
 have f4:=HP.out.frozenAt (k * 96 + 4);obtain ⟨hst,hgr⟩:=HP.out.stored (k * 96 + 4) (.int .u32 0);rw [prs_set hl96 HKA.out.at' (pr_reg1 HPO.out 0) (by decide)] at hst;have HST : Hid (RW B 48 96 (w1.setCell ⟨g,k * 96 + 4,none⟩ (.int .u32 0)) (some ⟨g,0,none⟩) m.procs.length a.cP (prsCells (m.procs.set k p.ans))):=jj hst;have HGR:=jj hgr;clear hst hgr;have hz1:=HB.out.size;go_wp2_with fail;refine bodyPost_end (v:=.tuple #[]) (by simp [results,Tryz.results31,go_sem]) rfl ?_;have HPR : RW B 48 96 w1 (some ⟨g,0,none⟩) m.procs.length a.cP (prsCells m.procs):=HP.out;have hO:=HK1.out.own;refine ⟨rfl,⟨⟨hO.F.beside HPR (by decide) HGR.out,?_,hO.Q.beside HPR (by decide) HGR.out,hO.L.beside HPR (by decide) HGR.out,hO.N.beside HPR (by decide) HGR.out,hO.D.beside HPR (by decide) HGR.out⟩,?_,?_⟩,HB.out.setCell (p:=⟨g,k * 96 + 4,none⟩) hgb _⟩
 ·show RW B 48 96 _ a.P (m.procs.set k p.ans).length a.cP _;rw [HG.out,List.length_set];exact HST.out
 ·have e : kcM a { m with procs:=m.procs.set k p.ans } a0 m0 pid x0 x1 x2 tl = kcM a m a0 m0 pid x0 x1 x2 tl:=(by unfold kcM mcL;simp only [List.length_set]);rw [e];exact HPR.whole HK1.out.ker (by decide) HGR.out
 ·exact ans_ok HK1.out.ok HKA.out.at'
theorem commM_ok {m : Mc} {d : Dv} (h : McOk m) (h1 : d.1.length ≤ 274877906944) (h2 : d.2.length ≤ 274877906944) (h3 : ∀ p ∈ d.2,inJ8 p.1) : McOk (commM m d) :=
 ⟨h.clock,h.quantum,h.cur,h.left,h.next,h.newPipe,h.told,h.dleft,h.procs,h.pipes,h3,fun p hp => by simp [commM] at hp,by have:=h.sizes;exact ⟨this.1,this.2.1,this.2.2.1,h1,h2,by show ([] : List Nb).length ≤ _;simp⟩⟩
theorem commK_ok {m : Mc} {hd : List UInt8} (h : McOk m) : McOk (commM m (commitK m.dirty hd (m.blocks,m.pend))):=by
 unfold commitK;by_cases hl : m.dirty = []
 ·rw [if_pos hl];exact commM_ok h h.sizes.2.2.2.1 h.sizes.2.2.2.2.1 h.pend
 ·rw [if_neg hl,commitD_eq];refine commM_ok h ?_ (by show ([] : List Nb).length ≤ _;simp) (fun p hp => by simp at hp);dsimp only;rw [setBs_length,setBs_length];exact h.sizes.2.2.2.1
theorem sync_eq {m : Mc} {k : Nat} {p : Pr} {hd : List UInt8} (h : m.dleft = -1) : { commM m (commitK m.dirty hd (m.blocks,m.pend)) with procs:=m.procs.set k p.ans } = syncM m k p hd:=by
 unfold syncM commM;rw [← h]
theorem KAt.comm {m : Mc} {pid : Int} {k : Nat} {p : Pr} (h : KAt m pid k p) (d : Dv) : KAt (commM m d) pid k p:=⟨h.f,h.at'⟩
set_option maxRecDepth 100000 in
set_option maxHeartbeats 1000000 in
theorem sync_km {w : World} {B kb : Nat} {a : MA} {m : Mc} {a0 : MA} {m0 : Mc} {pid x0 x1 x2 : Int} {tl : List UInt8} (h : KM w B kb a m a0 m0 pid x0 x1 x2 tl) {k : Nat} {p : Pr} (hk : KAt m pid k p) (hB : B ≤ w.heap.size) (hkb : B ≤ kb) (hsz : m.procs.length ≤ 4294967296 ∧ m.pipes.length ≤ 1099511627776 ∧ m.pend.length ≤ 4096) (hT : Tabs w) (hv : volE m = 0) (hl : m.dleft = -1) :
  Calls Tryz.prog 58 #[.pointer (some ⟨kb,0,none⟩)] w fun e w' => e = .returned (.tuple #[]) ∧ ∃ hd,hd.length = 128 ∧ ∃ a',KM w' B kb a' (syncM m k p hd) a0 m0 pid x0 x1 x2 tl ∧ Below B w w':=by
 have hkl:=h.ker.lt;have LD : Hid (∀ j v,(mcL a m)[j]? = some v → w.cell? ((⟨kb,0,none⟩ : Addr).add j) = some v):=jj h.load;have MI : Hid ((Tryz.prog.info? 30).map (·.size) = some (mcL a m).length):=jj Tryz.sizeMc;have CS:=jj (csync_any w a m h.ok hsz h.own.at hT hv hl);have HK:=jj h;have HKA:=jj hk;have HLF:=jj hl;clear h hk hsz hT hv hl;go_enter Tryz.func58,Tryz.ntmps58;go_wp2_with (refine wpList_load_at rfl 30 (.tmp 7) rfl ⟨kb,0,none⟩ rfl (mcL a m) _ LD.out Tryz.underlying30 rfl MI.out ?_);refine CS.out.mono ?_;rintro e w1 ⟨hd,hhd,⟨a',rfl,ho⟩,hb⟩;have HHD:=jj hhd;have HO:=jj ho;have hs1:=hb.size;have HKE:=jj (HK.out.ker.below hb hkl);have HB:=jj hb;have HCK:=jj (commK_ok (hd:=hd) HK.out.ok);clear hhd ho hb CS LD HK;generalize hcd : commitK m.dirty hd (m.blocks,m.pend) = d at *;have MJ : Hid ((Tryz.prog.info? 30).map (fun i => (i.zero,i.size)) = some (some (.agg #[.int .u64 0,.int .i64 0,.int .i64 0,.int .i64 0,.slice none 0 0,.slice none 0 0,.int .i64 0,S [],.slice none 0 0,.int .i64 0,S [],.bool false,.int .u64 0,.slice none 0 0,.slice none 0 0,.int .i64 0,.slice none 0 0]),(mcL a' (commM m d)).length)):=jj (by kernel_rfl);have MO:=jj (mcL_one a' (commM m d));go_upto_region 1 with (refine wpList_fresh rfl rfl 30 2 (.tmp 10) rfl rfl rfl rfl (mcL a' (commM m d)) rfl rfl _ MJ.out rfl MO.out ?_);have b2:=(Below.refl w1.heap.size w1).alloc (Nat.le_refl _) (.cells (mcL a' (commM m d)).toArray 30);have W2:=jj (Whole.made w1 30 (mcL a' (commM m d)).toArray);have HO2:=jj (HO.out.below b2);have HKE2:=jj (HKE.out.below b2 HKE.out.lt);have HB2:=jj (HB.out.trans (b2.mono hs1));change Code.wp _ _ _ _ (w1.alloc (.cells (mcL a' (commM m d)).toArray 30));clear b2 HO HKE HB;generalize w1.alloc (.cells (mcL a' (commM m d)).toArray 30) = w2 at *;generalize w1.heap.size = g2 at *;have LD2:=jj W2.out.reads;have MR : Hid ((Tryz.prog.info? 30).map (·.size) = some (mcL a' (commM m d)).length):=jj Tryz.sizeMc;have hkc : (kcM a m a0 m0 pid x0 x1 x2 tl).length = 39:=rfl
 go_upto_region 4 with (first
  | (refine wpList_load_at rfl 30 (.tmp 2) rfl ⟨g2,0,none⟩ rfl (mcL a' (commM m d)) _ LD2.out Tryz.underlying30 rfl MR.out ?_)
  | (refine wpList_store_at rfl 30 (.tmp 21) (.tmp 19) rfl rfl kb 0 rfl (mcL a' (commM m d)) rfl MR.out (kcM a m a0 m0 pid x0 x1 x2 tl) 62 HKE2.out (show 0 + 17 ≤ 39 by decide) MO.out ?_;intro w3 hw hk))
 have hz2:=HB2.out.size;have HB3:=jj ((HB2.out.mono hB).grown hk.out (by omega) (fun q e => by injection e with e;omega));have HKM : Hid (KM w3 B kb a' (commM m d) a0 m0 pid x0 x1 x2 tl):=jj ⟨(HO2.out.one hk.out hkl).mono hB,hw.out,HCK.out⟩;clear hw hk HO2 HKE2 HB2 LD2 MR W2 MO MJ;have hz3:=HB3.out.size;have CA:=jj (answer_km HKM.out (HKA.out.comm d) (by omega : B ≤ w3.heap.size));go_wp2_with fail;refine CA.out.mono ?_;rintro e w4 ⟨rfl,hk4,hb4⟩;have HK4:=jj hk4;have HB4:=jj (HB3.out.trans hb4);clear hk4 hb4 CA;go_wp2_with fail;refine bodyPost_end (v:=.tuple #[]) (by simp [results,Tryz.results58,go_sem]) rfl ?_;have hhd:=HHD.out;have h4:=HK4.out;rw [← hcd] at h4;refine ⟨rfl,hd,hhd,a',?_,HB4.out⟩;rw [← sync_eq HLF.out];exact h4
set_option maxRecDepth 100000 in
set_option maxHeartbeats 1000000 in
theorem call_13 (w : World) (kb : Nat) (Q : World → Prop) (hc : Calls Tryz.prog 58 #[.pointer (some ⟨kb,0,none⟩)] w fun e w' => e = .returned (.tuple #[]) ∧ Q w') :
  Calls Tryz.prog 32 #[.pointer (some ⟨kb,0,none⟩),.int .u32 13] w fun e w' => e = .returned (.tuple #[]) ∧ Q w':=by
 have HC:=jj hc;clear hc;go_enter Tryz.func32,Tryz.ntmps32;go_wp2_with fail;refine HC.out.mono ?_;rintro e w1 ⟨rfl,hq⟩;have HQ:=jj hq;clear hq HC;go_wp2_with fail;refine bodyPost_end (v:=.tuple #[]) (by simp [results,Tryz.results32,go_sem]) rfl ?_;exact ⟨rfl,HQ.out⟩
end Go.Proofs.YtdkhnjjihbmlmaaGreatDoor
