import Derived.Test.YtdlnmdbonagchaaGreatDoorRcJ
import Derived.Test.YtdlnmdbonagchaaGreatDoorRows
import Derived.WalkKit
import Derived.ProofKit
import Derived.OpenShut
import Derived.Carry
import Derived.Lib.SmallJoins
import Derived.Deep.DeepHandedRow
import Derived.Lib.LaidTab
import Derived.Stop.LaidErr
import Derived.Deep.Matrix
namespace Go.Proofs.YtdlnmdbonagchaaGreatDoor
open Go.ChangeShapes Go.WideShapes Go.ChangeAt Go.RowKit
theorem Tryz.cellsString : Tryz.prog.cellsOf 9 = 1:=by kernel_rfl
theorem choose_list {α : Type} {P : Nat → α → Prop} : ∀ n,(∀ i,i < n → ∃ x,P i x) → ∃ l : List α,l.length = n ∧ ∀ i x,l[i]? = some x → P i x
 | 0,_ => ⟨[],rfl,fun i x h => by simp at h⟩
 | n + 1,h => by
  obtain ⟨l,hl,hp⟩:=choose_list n fun i hi => h i (by omega)
  obtain ⟨x,hx⟩:=h n (by omega);refine ⟨l ++ [x],by simp [hl],fun i y hy => ?_⟩;by_cases hi : i < n
  ·rw [List.getElem?_append_left (by omega)] at hy;exact hp i y hy
  ·rw [List.getElem?_append_right (by omega)] at hy;have h0 : i - l.length = 0:=(by have:=(List.getElem?_eq_some_iff.1 hy).1;simp at this;omega);rw [h0] at hy;simp only [List.getElem?_cons_zero,Option.some.injEq] at hy;subst hy;obtain rfl : i = n:=(by omega);exact hx
theorem u8_wf {n : Int} (h : (Lit.int .u8 n).wf = true) : 0 ≤ n ∧ n < 256:=by
 simp only [Lit.wf,Bool.and_eq_true,decide_eq_true_eq] at h;have h1 : (0 : Int) ≤ n:=h.1;have h2 : n ≤ 255:=h.2;omega
theorem u64_pos {n : Int} (h : (Lit.int .u64 n).wf = true) : 0 ≤ n:=by
 simp only [Lit.wf,Bool.and_eq_true,decide_eq_true_eq] at h;exact h.1
section
variable {H : Type} {enc : TypeId × Value → H} {W : World}
theorem open_bytes32 {sp : Nat → Bool} {held : Bool} {fuel : Nat} {cs : List Value} {y : DataW H × List MemPlace} (hl : cs.length = 32) (h : DataW.trod enc Tryz.prog W 0 sp held fuel 23 cs = some y) :
  ∃ F : List UInt8,F.length = 32 ∧ cs = F.map B8:=by
 have hc1 : Tryz.prog.cellsOf 5 = 1:=(by kernel_rfl)
 have key : ∀ i,i < 32 → ∃ x : UInt8,cs[i]? = some (B8 x):=by
  intro i hi;cases fuel with
  | zero => simp [DataW.trod] at h
  | succ fuel =>
   simp only [DataW.trod,Tryz.underlying23,hc1] at h;split at h
   ·obtain ⟨xs,hm,hx⟩:=Option.map_eq_some_iff.1 h;obtain ⟨b,hb,hfb⟩:=Lib.mapM_at hm i i (by simp [hi]);obtain ⟨z,hz,_,hwf⟩:=DataW.trod_int Tryz.underlying5 hfb
    have hz2 : cs[i]? = some (.int .u8 z):=by
     have:=congrArg (·[0]?) hz
     simpa [List.getElem?_take,List.getElem?_drop] using this
    have hw:=u8_wf hwf;refine ⟨UInt8.ofNat z.toNat,?_⟩;rw [hz2];simp only [B8,UInt8.toNat_ofNat'];rw [show ((z.toNat % 2 ^ 8 : Nat) : Int) = z by omega]
   ·cases h
 obtain ⟨F,hF,hp⟩:=choose_list 32 key;refine ⟨F,hF,List.ext_getElem? fun i => ?_⟩;by_cases hi : i < 32
 ·have h1 : F[i]? = some (F[i]'(by omega)):=List.getElem?_eq_getElem (by omega);rw [hp i _ h1,List.getElem?_map,h1];rfl
 ·rw [List.getElem?_eq_none (by omega),List.getElem?_eq_none (by simp;omega)]
theorem bulk_sum {α : Type} {g : α → Nat} : ∀ (l : List α) (es : List (DataW H)),l.length = es.length → (∀ (i : Nat) (x : α) (e : DataW H),l[i]? = some x → es[i]? = some e → g x ≤ Rows.uptoBulk e) → (l.map g).sum ≤ Rows.uptoBulkAll es
 | [],[],_,_ => Nat.le_refl _
 | x :: l,e :: es,hl,h => by
  have h0:=h 0 x e rfl rfl;have ih:=bulk_sum l es (by simpa using hl) fun i y f hy hf => h (i + 1) y f (by simpa using hy) (by simpa using hf);simp only [List.map_cons,List.sum_cons,Rows.uptoBulkAll];omega
 | [],_ :: _,hl,_ => by simp at hl
 | _ :: _,[],hl,_ => by simp at hl
variable {sp : Nat → Bool} {held : Bool}
theorem open_rowsB {α : Type} {f : α → List Value} {Q : α → Prop} {k : Nat} {t e : TypeId} (hu : Tryz.prog.underlying t = some (.slice e)) (hk : Tryz.prog.cellsOf e = k) (hfk : ∀ x,Q x → (f x).length = k) (hk0 : 0 < k)
  (g : α → Nat) (hel : ∀ fuel cs y,DataW.trod enc Tryz.prog W 0 sp held fuel e cs = some y → ∃ x,cs = f x ∧ Q x ∧ g x ≤ Rows.uptoBulk y.1) {fuel : Nat} {v : Value} {y : DataW H × List MemPlace} (h : DataW.trod enc Tryz.prog W 0 sp held fuel t [v] = some y) :
  ∃ (A : Option Addr) (c : Nat) (l : List α),v = .slice A l.length c ∧ Lies W W.heap.size A (l.flatMap f) ∧ (∀ x ∈ l,Q x) ∧ (l.map g).sum ≤ Rows.uptoBulk y.1:=by
 rcases DataW.trod_slice hu h with ⟨hcs,rfl⟩ | ⟨a,len,cap,elems,rest,n,rfl,hcs,rfl,_,hlc,hm,hlen,hel2,_,_⟩
 ·injection hcs with hcs;subst hcs;exact ⟨none,0,[],rfl,fun k u hu => by simp at hu,by simp,by simp⟩
 ·injection hcs with hcs;subst hcs;rw [hk] at hel2
  have key : ∀ i,i < len → ∃ x,(∀ j u,(f x)[j]? = some u → W.cell? ((a.add (i * k)).add j) = some u) ∧ Q x ∧ ∀ e,(elems.map (·.1))[i]? = some e → g x ≤ Rows.uptoBulk e:=by
   intro i hi;have h1:=hel2 i hi;rw [List.getElem?_eq_getElem (show i < elems.length by omega)] at h1;obtain ⟨cs,hcs,htr⟩:=Option.bind_eq_some_iff.1 h1;obtain ⟨_,hl2,hcell⟩:=World.cells?_some hcs;obtain ⟨x,rfl,q,hb⟩:=hel _ _ _ htr
   exact ⟨x,fun j u hu => (hcell j (by have:=(List.getElem?_eq_some_iff.1 hu).1;omega)).trans hu,q,fun e he => by
    rw [List.getElem?_map,List.getElem?_eq_getElem (show i < elems.length by omega)] at he;injection he with he;subst he;exact hb⟩
  obtain ⟨l,hl,hp⟩:=choose_list len key
  have hQ : ∀ x ∈ l,Q x:=fun x hx => by
   obtain ⟨i,hi⟩:=List.getElem?_of_mem hx;exact (hp i x hi).2.1
  refine ⟨some a,cap,l,by rw [hl],fun j u hu => ?_,hQ,by
   have:=bulk_sum (g:=g) l (elems.map (·.1)) (by rw [List.length_map];omega) fun i x e hx he => (hp i x hx).2.2 e he;simp only [Rows.uptoBulk];omega⟩
  have hjl : j < l.length * k:=by
   have:=(List.getElem?_eq_some_iff.1 hu).1
   rwa [flat_len f k l fun x hx => hfk x (hQ x hx)] at this
  have hi : j / k < l.length:=(by rw [Nat.div_lt_iff_lt_mul hk0];exact hjl);have hjr : j = j / k * k + j % k:=(by rw [Nat.mul_comm];exact (Nat.div_add_mod j k).symm);have hx : l[j / k]? = some (l[j / k]):=List.getElem?_eq_getElem hi;have h2:=flat_at f k l (fun x hx => hfk x (hQ x hx)) hx (j:=j % k) (Nat.mod_lt _ hk0);rw [← hjr,hu] at h2;have h3:=(hp _ _ hx).1 _ _ h2.symm
  have e : (a.add (j / k * k)).add (j % k) = a.add j:=by
   conv => rhs;rw [hjr]
   unfold Addr.add;by_cases h1 : j / k * k = 0 <;> by_cases h2 : j % k = 0 <;> simp [h1,h2,Nat.add_assoc]
  rw [e] at h3;have hblk:=World.block_lt_of_cell? W _ h3;rw [add_block] at hblk;exact ⟨a,rfl,hblk,h3⟩
theorem len3 {cs : List Value} (h : cs.length = 3) : ∃ a b c,cs = [a,b,c]:=by
 match cs,h with
 | [a,b,c],_ => exact ⟨a,b,c,rfl⟩
theorem len2 {cs : List Value} (h : cs.length = 2) : ∃ a b,cs = [a,b]:=by
 match cs,h with
 | [a,b],_ => exact ⟨a,b,rfl⟩
theorem open_in (fuel : Nat) (cs : List Value) (y : DataW H × List MemPlace) (h : DataW.trod enc Tryz.prog W 0 sp held fuel 50 cs = some y) : ∃ x : InP,cs = inCells x ∧ 0 ≤ x.1 ∧ x.2.1.length + 1 ≤ Rows.uptoBulk y.1:=by
 have hc : Tryz.prog.cellsOf 50 = 3:=(by kernel_rfl);have hci : Tryz.prog.cellsOf 37 = 1:=(by kernel_rfl);have hcb : Tryz.prog.cellsOf 4 = 1:=(by kernel_rfl);obtain ⟨xs,m,_,hx,hlen,hxl,hf⟩:=DataW.trod_struct Tryz.underlying50 h;rw [hc] at hlen;have f0:=hf 0 _ rfl;have f1:=hf 1 _ rfl;have f2:=hf 2 _ rfl;obtain ⟨c0,c1,c2,rfl⟩:=len3 hlen;clear hlen
 match xs,hxl with
 | [x0,x1,x2],_ => change DataW.trod _ _ _ _ _ _ _ 37 (([c0,c1,c2].drop 0).take (Tryz.prog.cellsOf 37)) = some x0 at f0;change DataW.trod _ _ _ _ _ _ _ 9 (([c0,c1,c2].drop 1).take (Tryz.prog.cellsOf 9)) = some x1 at f1;change DataW.trod _ _ _ _ _ _ _ 4 (([c0,c1,c2].drop 2).take (Tryz.prog.cellsOf 4)) = some x2 at f2;rw [hci] at f0;rw [Tryz.cellsString] at f1;rw [hcb] at f2;obtain ⟨z,hz,rfl,hwf⟩:=DataW.trod_int Tryz.underlying37 f0;obtain ⟨s,hs,rfl,_⟩:=DataW.trod_string Tryz.underlying9 f1;obtain ⟨b,hb,rfl⟩:=DataW.trod_bool Tryz.underlying4 f2;injection hz with hz;injection hs with hs;injection hb with hb;subst hz hs hb;refine ⟨(z,s.data.toList,b),by unfold inCells;rw [S_of],u64_pos hwf,?_⟩;rw [hx];simp only [Rows.uptoBulk,Rows.uptoBulkAll,List.map_cons,List.map_nil];omega
theorem open_out (fuel : Nat) (cs : List Value) (y : DataW H × List MemPlace) (h : DataW.trod enc Tryz.prog W 0 sp held fuel 54 cs = some y) : ∃ x : OutP,cs = outCells x ∧ 0 ≤ x.1 ∧ x.2.length + 1 ≤ Rows.uptoBulk y.1:=by
 have hc : Tryz.prog.cellsOf 54 = 2:=(by kernel_rfl);have hci : Tryz.prog.cellsOf 37 = 1:=(by kernel_rfl);obtain ⟨xs,m,_,hx,hlen,hxl,hf⟩:=DataW.trod_struct Tryz.underlying54 h;rw [hc] at hlen;have f0:=hf 0 _ rfl;have f1:=hf 1 _ rfl;obtain ⟨c0,c1,rfl⟩:=len2 hlen;clear hlen
 match xs,hxl with
 | [x0,x1],_ => change DataW.trod _ _ _ _ _ _ _ 37 (([c0,c1].drop 0).take (Tryz.prog.cellsOf 37)) = some x0 at f0;change DataW.trod _ _ _ _ _ _ _ 9 (([c0,c1].drop 1).take (Tryz.prog.cellsOf 9)) = some x1 at f1;rw [hci] at f0;rw [Tryz.cellsString] at f1;obtain ⟨z,hz,rfl,hwf⟩:=DataW.trod_int Tryz.underlying37 f0;obtain ⟨s,hs,rfl,_⟩:=DataW.trod_string Tryz.underlying9 f1;injection hz with hz;injection hs with hs;subst hz hs;refine ⟨(z,s.data.toList),by unfold outCells;rw [S_of],u64_pos hwf,?_⟩;rw [hx];simp only [Rows.uptoBulk,Rows.uptoBulkAll,List.map_cons,List.map_nil];omega
set_option maxRecDepth 100000 in
theorem open_tape {r : Reach} {b0 : Nat} {v : Value} {d : DataW H} {p : List MemPlace} (hv : Value.okWide Tryz.prog W r b0 27 v) (h : DataW.Trod enc Tryz.prog W 0 sp held 27 v d p) :
  ∃ (t : TapeP) (V : List Value),v = .agg V.toArray ∧ t.F.length = 32 ∧ t.T.length = 32 ∧ IsT t W V ∧ posT t ∧ gIn t.ins + gOut t.outs ≤ Rows.uptoBulk d:=by
 have hcd : Tryz.prog.cellsOf 27 = 67:=(by kernel_rfl);have hcg : Tryz.prog.cellsOf 23 = 32:=(by kernel_rfl);have hcw : Tryz.prog.cellsOf 24 = 1:=(by kernel_rfl);have hcx : Tryz.prog.cellsOf 25 = 1:=(by kernel_rfl);have hci : Tryz.prog.cellsOf 3 = 1:=(by kernel_rfl);obtain ⟨cs,rfl,hsz⟩:=okWide_struct Tryz.underlying27 hv;obtain ⟨l⟩:=cs;obtain ⟨fuel,hf⟩:=h;have hf' : DataW.trod enc Tryz.prog W 0 sp held fuel 27 l = some (d,p):=hf;obtain ⟨xs,n,_,hx,hlen,hxl,hg⟩:=DataW.trod_struct Tryz.underlying27 hf';rw [hcd] at hlen;have f0:=hg 0 _ rfl;have f1:=hg 1 _ rfl;have f2:=hg 2 _ rfl;have f3:=hg 3 _ rfl;have f4:=hg 4 _ rfl
 match xs,hxl with
 | [x0,x1,x2,x3,x4],_ =>
  change DataW.trod _ _ _ _ _ _ _ 23 ((l.drop 0).take (Tryz.prog.cellsOf 23)) = some x0 at f0;change DataW.trod _ _ _ _ _ _ _ 24 ((l.drop 32).take (Tryz.prog.cellsOf 24)) = some x1 at f1;change DataW.trod _ _ _ _ _ _ _ 3 ((l.drop 33).take (Tryz.prog.cellsOf 3)) = some x2 at f2;change DataW.trod _ _ _ _ _ _ _ 25 ((l.drop 34).take (Tryz.prog.cellsOf 25)) = some x3 at f3;change DataW.trod _ _ _ _ _ _ _ 23 ((l.drop 35).take (Tryz.prog.cellsOf 23)) = some x4 at f4;rw [hcg] at f0 f4;rw [hcw] at f1;rw [hcx] at f3;rw [hci] at f2;obtain ⟨F,hF,eF⟩:=open_bytes32 (by rw [List.length_take,List.length_drop];omega) f0;obtain ⟨T,hT,eT⟩:=open_bytes32 (by rw [List.length_take,List.length_drop];omega) f4
  have one : ∀ k,k < 67 → (l.drop k).take 1 = [l.getD k undef]:=fun k hk => by
   rw [List.drop_eq_getElem_cons (by omega),List.getD_eq_getElem?_getD,List.getElem?_eq_getElem (by omega)];rfl
  rw [one 32 (by omega)] at f1;rw [one 33 (by omega)] at f2;rw [one 34 (by omega)] at f3;obtain ⟨A,c,li,e1,hA,i1,s1⟩:=open_rowsB (f:=inCells) (Q:=fun x => 0 ≤ x.1) (k:=3) Tryz.underlying24 (by kernel_rfl) (fun _ _ => rfl) (by decide) (fun x => x.2.1.length + 1) open_in f1;obtain ⟨D,c',lo,e2,hD,i2,s2⟩:=open_rowsB (f:=outCells) (Q:=fun x => 0 ≤ x.1) (k:=2) Tryz.underlying25 (by kernel_rfl) (fun _ _ => rfl) (by decide) (fun x => x.2.length + 1) open_out f3;obtain ⟨z,e3,rfl,_⟩:=DataW.trod_int Tryz.underlying3 f2;injection e3 with e3;refine ⟨⟨F,li,z,lo,T⟩,l,rfl,hF,hT,⟨A,c,D,c',?_,hA,hD⟩,⟨i1,i2⟩,?_⟩
  ·have c1 : l = l.take 32 ++ ((l.drop 32).take 1 ++ ((l.drop 33).take 1 ++ ((l.drop 34).take 1 ++ (l.drop 35).take 32))):=by have e67 : (l.drop 35).take 32 = l.drop 35:=List.take_of_length_le (by rw [List.length_drop];omega);rw [e67];have s34 : (l.drop 34).take 1 ++ l.drop 35 = l.drop 34:=(by have:=List.take_append_drop 1 (l.drop 34);rwa [List.drop_drop] at this);have s33 : (l.drop 33).take 1 ++ l.drop 34 = l.drop 33:=(by have:=List.take_append_drop 1 (l.drop 33);rwa [List.drop_drop] at this);have s32 : (l.drop 32).take 1 ++ l.drop 33 = l.drop 32:=(by have:=List.take_append_drop 1 (l.drop 32);rwa [List.drop_drop] at this);rw [s34,s33,s32,List.take_append_drop]
   rw [List.drop_zero] at eF;rw [c1,eF,eT,one 32 (by omega),one 33 (by omega),one 34 (by omega),e1,e2,e3];rfl
  ·have hd : d = .agg [x0.1,x1.1,(.lit (.int .i64 z) : DataW H),x3.1,x4.1]:=by
    have:=congrArg Prod.fst hx
    simpa using this
   subst hd;simp only [Rows.uptoBulk,Rows.uptoBulkAll];have g1 : gIn li = (li.map fun x => x.2.1.length + 1).sum:=rfl;have g2 : gOut lo = (lo.map fun x => x.2.length + 1).sum:=rfl;show gIn li + gOut lo ≤ _;omega
end
section
theorem cells_of_tabs {H : Type} {enc : TypeId × Value → H} {P : Program} {w : World} {base : Nat} {sp : Nat → Bool} {held : Bool} {fuel : Nat} {t e f : TypeId} {n m : Nat} {k : IntKind} {cs : List Value} {zss : List (List Int)} {p : List MemPlace}
  (ht : P.underlying t = some (.array n e)) (he : P.underlying e = some (.array m f)) (hf : P.underlying f = some (.int k)) (hcf : P.cellsOf f = 1) (hce : P.cellsOf e = m) (hct : P.cellsOf t = n * m) (hz : ∀ zs ∈ zss,zs.length = m)
  (h : DataW.trod enc P w base sp held fuel t cs = some (.agg (zss.map fun zs => Lib.tabData k zs),p)) : cs = zss.flatten.map fun z => Value.int k z:=by
 cases fuel with
 | zero => simp [DataW.trod] at h
 | succ fuel =>
  simp only [DataW.trod,ht,hce,hct] at h;split at h
  ·rename_i hl;obtain ⟨xs,hm,hx⟩:=Option.map_eq_some_iff.1 h
   have hxs : xs.map (·.1) = zss.map fun zs => (Lib.tabData k zs : DataW H):=by
    have:=congrArg Prod.fst hx
    simpa using this
   have hxl : xs.length = n:=(by simpa using Lib.mapM_length hm);have hzl : zss.length = n:=(by have:=congrArg List.length hxs;simp at this;omega)
   have hrow : ∀ i (hi : i < n),(cs.drop (i * m)).take m = (zss[i]'(by omega)).map fun z => Value.int k z:=by intro i hi;obtain ⟨b,hb,hfb⟩:=Lib.mapM_at hm i i (by simp [hi]);have h2 : (xs.map (·.1))[i]? = some b.1:=(by simp [hb]);rw [hxs] at h2;have hb1 : b.1 = Lib.tabData k (zss[i]'(by omega)):=(by simpa [List.getElem?_eq_getElem (show i < zss.length by omega)] using h2.symm);have hfb' : DataW.trod enc P w base sp held fuel e (List.take m (List.drop (i * m) cs)) = some (Lib.tabData k (zss[i]'(by omega)),b.2):=(by rw [hfb,← hb1]);exact Lib.cells_of_tab he hf hcf hce hfb'
   have hlen : cs.length = n * m:=(by simpa using hl);clear hm hx hxs h hl
   -- cs,cut into n rows of m
   have key : ∀ (zss : List (List Int)) (cs : List Value),(∀ zs ∈ zss,zs.length = m) → cs.length = zss.length * m → (∀ i (hi : i < zss.length),(cs.drop (i * m)).take m = (zss[i]).map fun z => Value.int k z) → cs = zss.flatten.map fun z => Value.int k z:=by
    intro zss;induction zss with
    | nil => intro cs _ hl _;simpa using hl
    | cons z r ih =>
     intro cs hz hl hr;have h0:=hr 0 (by simp);simp only [Nat.zero_mul,List.drop_zero,List.getElem_cons_zero] at h0
     have h1:=ih (cs.drop m) (fun zs hzs => hz zs (List.mem_cons_of_mem _ hzs)) (by simp only [List.length_drop,hl,List.length_cons,Nat.add_mul];omega) (fun i hi => by
      have:=hr (i + 1) (by simpa using hi);rw [List.drop_drop,show m + i * m = (i + 1) * m by rw [Nat.add_mul];omega]
      simpa using this)
     rw [← List.take_append_drop m cs,h0,h1];simp
   exact key zss cs hz (by rw [hlen,hzl]) (fun i hi => hrow i (by omega))
  ·cases h
end
theorem block_of_var {P : Program} {W : World} {n : String} {g : Nat} {cs : Array Value} (hg : P.globalNamed n = some g) (h : W.var? P n = some cs) : ∃ t fr,W.heap[g]? = some (.cells cs t fr):=by
 unfold World.var? at h;rw [hg] at h;simp only [Option.bind_some] at h;cases hh : W.heap[g]? with
 | none => rw [hh] at h;cases h
 | some o =>
  rw [hh] at h;cases o with
  | cells c t fr => injection h with h;subst h;exact ⟨t,fr,rfl⟩
  | _ => cases h
theorem tabs_of_laid {W : World} {rest : List (String × DataW Unit)} (h : laidMet Tryz.prog (("hibernacle/hash.eight", Rows.laid_hibernacle_hash_eight) :: ("hibernacle/hash.rows", Rows.laid_hibernacle_hash_rows) :: rest) W) : Tabs W := by
 obtain ⟨ps, ⟨g, t, cs, fuel, p, q, hg, ht, hvar, hd, ⟨g', t', cs', fuel', p', q', hg', ht', hvar', hd', _, _⟩, _⟩, _⟩ := h; have eg : Tryz.prog.globalNamed "hibernacle/hash.eight" = some 0 := (by kernel_rfl); have eg' : Tryz.prog.globalNamed "hibernacle/hash.rows" = some 5 := (by kernel_rfl); obtain rfl := Option.some.inj (eg.symm.trans hg); obtain rfl := Option.some.inj (eg'.symm.trans hg'); have et : (Tryz.prog.globals[0]?).map (·.type) = some 166 := (by kernel_rfl); have et' : (Tryz.prog.globals[5]?).map (·.type) = some 227 := (by kernel_rfl); obtain rfl := Option.some.inj (et.symm.trans ht); obtain rfl := Option.some.inj (et'.symm.trans ht'); have hd1 : DataW.trod (fun _ => ()) Tryz.prog W 0 (fun _ => true) false fuel 166 cs.toList = some (Lib.tabData .u32 (IV.map fun x => (x.toNat : Int)), p) := hd; have hd2 : DataW.trod (fun _ => ()) Tryz.prog W 0 (fun _ => true) false fuel' 227 cs'.toList = some (.agg ((SIG.map fun l => l.map fun (n : Nat) => (n : Int)).map fun zs => Lib.tabData .u8 zs), p') := hd'; have c1 : cs.toList = (IV.map fun x => (x.toNat : Int)).map fun z => Value.int .u32 z := Lib.cells_of_tab Tryz.underlying166 Tryz.underlying138 (by kernel_rfl) (by kernel_rfl) hd1; have c2 : cs'.toList = (SIG.map fun l => l.map fun (n : Nat) => (n : Int)).flatten.map fun z => Value.int .u8 z := cells_of_tabs Tryz.underlying227 Tryz.underlying226 Tryz.underlying5 (by kernel_rfl) (by kernel_rfl) (by kernel_rfl) (by decide) hd2
 have a1 : cs = eightV:=(by have:=congrArg List.toArray c1;rw [Array.toArray_toList] at this;rw [this];rfl);have a2 : cs' = rowsV:=(by have:=congrArg List.toArray c2;rw [Array.toArray_toList] at this;rw [this];rfl);refine ⟨?_,?_⟩
 ·obtain ⟨t,fr,h⟩:=block_of_var eg hvar;exact ⟨t,fr,by rw [h,a1]⟩
 ·obtain ⟨t,fr,h⟩:=block_of_var eg' hvar';exact ⟨t,fr,by rw [h,a2]⟩
theorem star : "*" ++ "errors.errorString" = "*errors.errorString" := by decide
theorem errName (u : TypeId) (h : Tryz.prog.typeName? 3 u = some "*errors.errorString") : u = 250 :=
 typeName_ptr_named (nm := "errors.errorString") (by rw [star]; kernel_rfl) (by kernel_rfl) (by decide) u (by rw [star]; exact h)
theorem itabs_of_laid {W : World} {rest : List (String × DataW Unit)} (h : laidMet Tryz.prog (("internal/strconv.uint64pow10", Rows.laid_internal_strconv_uint64pow10) :: ("strconv.ErrRange", Rows.laid_strconv_ErrRange) :: ("strconv.ErrSyntax", Rows.laid_strconv_ErrSyntax) :: rest) W) : ITabs W := by
 refine ⟨?_,?_,?_⟩
 ·exact Lib.tabIs_of_head (g:=2) (by kernel_rfl) (by kernel_rfl) Tryz.underlying212 Tryz.underlying37 (by kernel_rfl) (by kernel_rfl) h
 ·obtain ⟨a,s,hv,_⟩:=laid_sentinel (g:=3) (tp:=250) h.tail.tail (by kernel_rfl) (by kernel_rfl) Tryz.underlying101 errName Tryz.underlying250 Tryz.underlying252 rfl rfl Tryz.underlying9 (by kernel_rfl) (by kernel_rfl);exact ⟨_,_,hv⟩
 ·obtain ⟨a,s,hv,_⟩:=laid_sentinel (g:=4) (tp:=250) h.tail (by kernel_rfl) (by kernel_rfl) Tryz.underlying101 errName Tryz.underlying250 Tryz.underlying252 rfl rfl Tryz.underlying9 (by kernel_rfl) (by kernel_rfl);exact ⟨_,_,hv⟩
theorem amb_of {w : World} (h : Tabs w) (h' : STabs w) : Ex.Amb w:=by
 have eg : Tryz.prog.globalNamed "internal/strconv.uint64pow10" = some 2 := (by kernel_rfl); have hv : w.var? Tryz.prog "internal/strconv.uint64pow10" = some Ex.powW := h'; obtain ⟨t, fr, hw⟩ := block_of_var eg hv; exact ⟨h.1, h.2, ⟨t, fr, hw⟩⟩
end Go.Proofs.YtdlnmdbonagchaaGreatDoor
