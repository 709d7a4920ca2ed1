import Derived.Test.YtdkhnjjihbmlmaaGreatDoorRows
import Derived.Test.YtdkhnjjihbmlmaaGreatDoorGenA
import Derived.WalkKit
import Derived.ProofKit
import Derived.OpenShut
import Derived.Carry
import Derived.Lib.SmallJoins
import Derived.Deep.DeepHandedRow
import Derived.Lib.LaidTab
import Derived.Test.YtdkhnjjihbmlmaaGreatDoorMcA
namespace Go.Proofs.YtdkhnjjihbmlmaaGreatDoor
open Go.ChangeShapes Go.WideShapes Go.ChangeAt Go.RowKit
theorem Tryz.cellsMachine : Tryz.prog.cellsOf 30 = 17:=by kernel_rfl
theorem choose_list {α : Type} {P : Nat → α → Prop} : ∀ n,(∀ i,i < n → ∃ x,P i x) → ∃ l : List α,l.length = n ∧ ∀ i x,l[i]? = some x → P i x
 | 0,_ => ⟨[],rfl,fun i x h => by simp at h⟩
 | n + 1,h => by
  obtain ⟨l,hl,hp⟩:=choose_list n fun i hi => h i (by omega)
  obtain ⟨x,hx⟩:=h n (by omega);refine ⟨l ++ [x],by simp [hl],fun i y hy => ?_⟩;by_cases hi : i < n
  ·rw [List.getElem?_append_left (by omega)] at hy;exact hp i y hy
  ·rw [List.getElem?_append_right (by omega)] at hy;have h0 : i - l.length = 0:=(by have:=(List.getElem?_eq_some_iff.1 hy).1;simp at this;omega);rw [h0] at hy;simp only [List.getElem?_cons_zero,Option.some.injEq] at hy;subst hy;obtain rfl : i = n:=(by omega);exact hx
end Go.Proofs.YtdkhnjjihbmlmaaGreatDoor
namespace Go.Proofs.YtdkhnjjihbmlmaaGreatDoor
open Go.ChangeShapes Go.WideShapes Go.ChangeAt Go.RowKit
theorem chunks {α : Type} {f : α → List Value} {Q : α → Prop} {k : Nat} : ∀ (n : Nat) (cs : List Value),cs.length = n * k → (∀ i,i < n → ∃ x,(cs.drop (i * k)).take k = f x ∧ Q x) → ∃ l : List α,l.length = n ∧ cs = l.flatMap f ∧ ∀ x ∈ l,Q x
 | 0,cs,h,_ => ⟨[],rfl,by simpa using h,by simp⟩
 | n + 1,cs,h,hi => by
  obtain ⟨x,hx,qx⟩:=hi 0 (by omega)
  obtain ⟨l,hl,hc,hq⟩:=chunks (f:=f) (Q:=Q) (k:=k) n (cs.drop k) (by rw [List.length_drop,h,Nat.add_mul];omega) fun i hin => by
   obtain ⟨y,hy,qy⟩:=hi (i + 1) (by omega);exact ⟨y,by rw [List.drop_drop,show k + i * k = (i + 1) * k by rw [Nat.add_mul];omega];exact hy,qy⟩
  refine ⟨x :: l,by simp [hl],?_,fun y hy => (List.mem_cons.1 hy).elim (fun e => e ▸ qx) (hq y)⟩;rw [List.flatMap_cons,← hc,← hx,Nat.zero_mul,List.drop_zero,List.take_append_drop]
theorem u32_wf {n : Int} (h : (Lit.int .u32 n).wf = true) : inU32 n:=by
 simp only [Lit.wf,Bool.and_eq_true,decide_eq_true_eq] at h;exact h
theorem u64_wf {n : Int} (h : (Lit.int .u64 n).wf = true) : inU64 n:=by
 simp only [Lit.wf,Bool.and_eq_true,decide_eq_true_eq] at h;exact h
theorem j8_wf {n : Int} (h : (Lit.int .i64 n).wf = true) : inJ8 n:=by
 simp only [Lit.wf,Bool.and_eq_true,decide_eq_true_eq] at h;exact h
theorem drop_split {α : Type} (cs : List α) (i n : Nat) : cs.drop i = (cs.drop i).take n ++ cs.drop (i + n):=by
 rw [← List.drop_drop];exact (List.take_append_drop n (cs.drop i)).symm
section
variable {H : Type} {enc : TypeId × Value → H} {W : World} {sp : Nat → Bool} {held : Bool}
theorem open_arr {α : Type} {f : α → List Value} {Q : α → Prop} {k n : Nat} {t e : TypeId} (hu : Tryz.prog.underlying t = some (.array n e)) (hk : Tryz.prog.cellsOf e = k) (hct : Tryz.prog.cellsOf t = n * k)
  (hel : ∀ fuel cs y,DataW.trod enc Tryz.prog W 0 sp held fuel e cs = some y → ∃ x,cs = f x ∧ Q x) {fuel : Nat} {cs : List Value} {y : DataW H × List MemPlace} (h : DataW.trod enc Tryz.prog W 0 sp held fuel t cs = some y) :
  ∃ l : List α,l.length = n ∧ cs = l.flatMap f ∧ ∀ x ∈ l,Q x:=by
 obtain ⟨xs,m,rfl,rfl,hlen,hxl,hi⟩:=DataW.trod_array hu h;refine chunks n cs (by rw [hlen,hct]) fun i hin => ?_;have h1:=hi i hin;rw [hk,List.getElem?_eq_getElem (by omega)] at h1;exact hel _ _ _ h1
theorem open_rows {α : Type} {f : α → List Value} {Q : α → Prop} {k : Nat} {t e : TypeId} (hu : Tryz.prog.underlying t = some (.slice e)) (hk : Tryz.prog.cellsOf e = k) (hfk : ∀ x,Q x → (f x).length = k) (hk0 : 0 < k)
  (hel : ∀ fuel cs y,DataW.trod enc Tryz.prog W 0 sp held fuel e cs = some y → ∃ x,cs = f x ∧ Q x) {fuel : Nat} {v : Value} {y : DataW H × List MemPlace} (h : DataW.trod enc Tryz.prog W 0 sp held fuel t [v] = some y) :
  ∃ (A : Option Addr) (c : Nat) (l : List α),v = .slice A l.length c ∧ Lies W W.heap.size A (l.flatMap f) ∧ (∀ x ∈ l,Q x) ∧ l.length ≤ c ∧ l.length ≤ 9223372036854775807:=by
 rcases DataW.trod_slice hu h with ⟨hcs,rfl⟩ | ⟨a,len,cap,elems,rest,n,rfl,hcs,rfl,_,hlc,hm,hlen,hel2,_,_⟩
 ·injection hcs with hcs;subst hcs;exact ⟨none,0,[],rfl,fun k u hu => by simp at hu,by simp,by simp,by simp⟩
 ·injection hcs with hcs;subst hcs;rw [hk] at hel2;have key : ∀ i,i < len → ∃ x,(∀ j u,(f x)[j]? = some u → W.cell? ((a.add (i * k)).add j) = some u) ∧ Q x:=(by intro i hi;have h1:=hel2 i hi;rw [List.getElem?_eq_getElem (show i < elems.length by omega)] at h1;obtain ⟨cs,hcs,htr⟩:=Option.bind_eq_some_iff.1 h1;obtain ⟨_,hl2,hcell⟩:=World.cells?_some hcs;obtain ⟨x,rfl,q⟩:=hel _ _ _ htr;exact ⟨x,fun j u hu => (hcell j (by have:=(List.getElem?_eq_some_iff.1 hu).1;omega)).trans hu,q⟩);obtain ⟨l,hl,hp⟩:=choose_list len key
  have hQ : ∀ x ∈ l,Q x:=fun x hx => by
   obtain ⟨i,hi⟩:=List.getElem?_of_mem hx;exact (hp i x hi).2
  refine ⟨some a,cap,l,by rw [hl],fun j u hu => ?_,hQ,by omega,by rw [hl];unfold maxLen at hm;omega⟩
  have hjl : j < l.length * k:=by
   have:=(List.getElem?_eq_some_iff.1 hu).1
   rwa [flat_len f k l fun x hx => hfk x (hQ x hx)] at this
  have hi : j / k < l.length:=(by rw [Nat.div_lt_iff_lt_mul hk0];exact hjl);have hjr : j = j / k * k + j % k:=(by rw [Nat.mul_comm];exact (Nat.div_add_mod j k).symm);have hx : l[j / k]? = some (l[j / k]):=List.getElem?_eq_getElem hi;have h2:=flat_at f k l (fun x hx => hfk x (hQ x hx)) hx (j:=j % k) (Nat.mod_lt _ hk0);rw [← hjr,hu] at h2;have h3:=(hp _ _ hx).1 _ _ h2.symm
  have e : (a.add (j / k * k)).add (j % k) = a.add j:=by
   conv => rhs;rw [hjr]
   unfold Addr.add;by_cases h1 : j / k * k = 0 <;> by_cases h2 : j % k = 0 <;> simp [h1,h2,Nat.add_assoc]
  rw [e] at h3;have hblk:=World.block_lt_of_cell? W _ h3;rw [add_block] at hblk;exact ⟨a,rfl,hblk,h3⟩
theorem open_s1 (fuel : Nat) (cs : List Value) (y : DataW H × List MemPlace) (h : DataW.trod enc Tryz.prog W 0 sp held fuel 9 cs = some y) : ∃ x : List UInt8,cs = [S x] ∧ True:=by
 obtain ⟨s,hs,rfl,_⟩:=DataW.trod_string Tryz.underlying9 h;exact ⟨s.data.toList,by rw [hs,S_of],trivial⟩
theorem open_reg (fuel : Nat) (cs : List Value) (y : DataW H × List MemPlace) (h : DataW.trod enc Tryz.prog W 0 sp held fuel 36 cs = some y) : ∃ n : Int,cs = [.int .u32 n] ∧ inU32 n:=by
 obtain ⟨n,hs,rfl,hw⟩:=DataW.trod_int Tryz.underlying36 h;exact ⟨n,hs,u32_wf hw⟩
set_option maxRecDepth 100000 in
set_option maxHeartbeats 1000000 in
theorem open_pg (fuel : Nat) (cs : List Value) (y : DataW H × List MemPlace) (h : DataW.trod enc Tryz.prog W 0 sp held fuel 41 cs = some y) : ∃ g : Pg,cs = pgCells1 g ∧ inJ8 g.frame:=by
 obtain ⟨xs,m,rfl,rfl,hlen,hxl,hf⟩:=DataW.trod_struct Tryz.underlying41 h;rw [show Tryz.prog.cellsOf 41 = 3 by kernel_rfl] at hlen;have f0:=hf 0 _ rfl;have f1:=hf 1 _ rfl;have f2:=hf 2 _ rfl
 match xs,hxl with
 | [x0,x1,x2],_ =>
  change DataW.trod _ _ _ _ _ _ _ 4 ((cs.drop 0).take (Tryz.prog.cellsOf 4)) = some x0 at f0;rw [show Tryz.prog.cellsOf 4 = 1 by kernel_rfl] at f0;change DataW.trod _ _ _ _ _ _ _ 4 ((cs.drop 1).take (Tryz.prog.cellsOf 4)) = some x1 at f1;rw [show Tryz.prog.cellsOf 4 = 1 by kernel_rfl] at f1;change DataW.trod _ _ _ _ _ _ _ 3 ((cs.drop 2).take (Tryz.prog.cellsOf 3)) = some x2 at f2;rw [show Tryz.prog.cellsOf 3 = 1 by kernel_rfl] at f2;obtain ⟨za,eza,_⟩:=DataW.trod_bool Tryz.underlying4 f0;obtain ⟨zb,ezb,_⟩:=DataW.trod_bool Tryz.underlying4 f1;obtain ⟨zc,ezc,_,wzc⟩:=DataW.trod_int Tryz.underlying3 f2
  match cs,hlen with
  | [c0,c1,c2],_ => change [c0] = _ at eza;injection eza with eza _;change [c1] = _ at ezb;injection ezb with ezb _;change [c2] = _ at ezc;injection ezc with ezc _;subst eza ezb ezc;exact ⟨⟨za,zb,zc⟩,rfl,j8_wf wzc⟩
set_option maxRecDepth 100000 in
set_option maxHeartbeats 1000000 in
theorem open_fl (fuel : Nat) (cs : List Value) (y : DataW H × List MemPlace) (h : DataW.trod enc Tryz.prog W 0 sp held fuel 45 cs = some y) : ∃ g : Fl,cs = flCells1 g ∧ (inJ8 g.kind ∧ inJ8 g.n ∧ inJ8 g.pos):=by
 obtain ⟨xs,m,rfl,rfl,hlen,hxl,hf⟩:=DataW.trod_struct Tryz.underlying45 h;rw [show Tryz.prog.cellsOf 45 = 3 by kernel_rfl] at hlen;have f0:=hf 0 _ rfl;have f1:=hf 1 _ rfl;have f2:=hf 2 _ rfl
 match xs,hxl with
 | [x0,x1,x2],_ =>
  change DataW.trod _ _ _ _ _ _ _ 3 ((cs.drop 0).take (Tryz.prog.cellsOf 3)) = some x0 at f0;rw [show Tryz.prog.cellsOf 3 = 1 by kernel_rfl] at f0;change DataW.trod _ _ _ _ _ _ _ 3 ((cs.drop 1).take (Tryz.prog.cellsOf 3)) = some x1 at f1;rw [show Tryz.prog.cellsOf 3 = 1 by kernel_rfl] at f1;change DataW.trod _ _ _ _ _ _ _ 3 ((cs.drop 2).take (Tryz.prog.cellsOf 3)) = some x2 at f2;rw [show Tryz.prog.cellsOf 3 = 1 by kernel_rfl] at f2;obtain ⟨za,eza,_,wza⟩:=DataW.trod_int Tryz.underlying3 f0;obtain ⟨zb,ezb,_,wzb⟩:=DataW.trod_int Tryz.underlying3 f1;obtain ⟨zc,ezc,_,wzc⟩:=DataW.trod_int Tryz.underlying3 f2
  match cs,hlen with
  | [c0,c1,c2],_ => change [c0] = _ at eza;injection eza with eza _;change [c1] = _ at ezb;injection ezb with ezb _;change [c2] = _ at ezc;injection ezc with ezc _;subst eza ezb ezc;exact ⟨⟨za,zb,zc⟩,rfl,j8_wf wza,j8_wf wzb,j8_wf wzc⟩
set_option maxRecDepth 100000 in
set_option maxHeartbeats 1000000 in
theorem open_wr (fuel : Nat) (cs : List Value) (y : DataW H × List MemPlace) (h : DataW.trod enc Tryz.prog W 0 sp held fuel 66 cs = some y) : ∃ g : Nb,cs = nbCells1 g ∧ inJ8 g.1:=by
 obtain ⟨xs,m,rfl,rfl,hlen,hxl,hf⟩:=DataW.trod_struct Tryz.underlying66 h;rw [show Tryz.prog.cellsOf 66 = 2 by kernel_rfl] at hlen;have f0:=hf 0 _ rfl;have f1:=hf 1 _ rfl
 match xs,hxl with
 | [x0,x1],_ =>
  change DataW.trod _ _ _ _ _ _ _ 3 ((cs.drop 0).take (Tryz.prog.cellsOf 3)) = some x0 at f0;rw [show Tryz.prog.cellsOf 3 = 1 by kernel_rfl] at f0;change DataW.trod _ _ _ _ _ _ _ 9 ((cs.drop 1).take (Tryz.prog.cellsOf 9)) = some x1 at f1;rw [show Tryz.prog.cellsOf 9 = 1 by kernel_rfl] at f1;obtain ⟨za,eza,_,wza⟩:=DataW.trod_int Tryz.underlying3 f0;obtain ⟨zb,ezb,_⟩:=open_s1 _ _ _ f1
  match cs,hlen with
  | [c0,c1],_ => change [c0] = _ at eza;injection eza with eza _;change [c1] = _ at ezb;injection ezb with ezb _;subst eza ezb;exact ⟨⟨za,zb⟩,rfl,j8_wf wza⟩
set_option maxRecDepth 100000 in
set_option maxHeartbeats 1000000 in
theorem open_pi (fuel : Nat) (cs : List Value) (y : DataW H × List MemPlace) (h : DataW.trod enc Tryz.prog W 0 sp held fuel 72 cs = some y) : ∃ g : Nb,cs = nbCells1 g ∧ inJ8 g.1:=by
 obtain ⟨xs,m,rfl,rfl,hlen,hxl,hf⟩:=DataW.trod_struct Tryz.underlying72 h;rw [show Tryz.prog.cellsOf 72 = 2 by kernel_rfl] at hlen;have f0:=hf 0 _ rfl;have f1:=hf 1 _ rfl
 match xs,hxl with
 | [x0,x1],_ =>
  change DataW.trod _ _ _ _ _ _ _ 3 ((cs.drop 0).take (Tryz.prog.cellsOf 3)) = some x0 at f0;rw [show Tryz.prog.cellsOf 3 = 1 by kernel_rfl] at f0;change DataW.trod _ _ _ _ _ _ _ 9 ((cs.drop 1).take (Tryz.prog.cellsOf 9)) = some x1 at f1;rw [show Tryz.prog.cellsOf 9 = 1 by kernel_rfl] at f1;obtain ⟨za,eza,_,wza⟩:=DataW.trod_int Tryz.underlying3 f0;obtain ⟨zb,ezb,_⟩:=open_s1 _ _ _ f1
  match cs,hlen with
  | [c0,c1],_ => change [c0] = _ at eza;injection eza with eza _;change [c1] = _ at ezb;injection ezb with ezb _;subst eza ezb;exact ⟨⟨za,zb⟩,rfl,j8_wf wza⟩
set_option maxRecDepth 100000 in
set_option maxHeartbeats 1000000 in
theorem open_cpu (fuel : Nat) (cs : List Value) (y : DataW H × List MemPlace) (h : DataW.trod enc Tryz.prog W 0 sp held fuel 39 cs = some y) : ∃ (l : List Int) (pc : Int),cs = rgCells l ++ [.int .u32 pc] ∧ l.length = 16 ∧ (∀ r ∈ l,inU32 r) ∧ inU32 pc:=by
 obtain ⟨xs,m,rfl,rfl,hlen,hxl,hf⟩:=DataW.trod_struct Tryz.underlying39 h;rw [show Tryz.prog.cellsOf 39 = 17 by kernel_rfl] at hlen;have f0:=hf 0 _ rfl;have f1:=hf 1 _ rfl
 match xs,hxl with
 | [x0,x1],_ => change DataW.trod _ _ _ _ _ _ _ 37 ((cs.drop 0).take (Tryz.prog.cellsOf 37)) = some x0 at f0;rw [show Tryz.prog.cellsOf 37 = 16 by kernel_rfl] at f0;change DataW.trod _ _ _ _ _ _ _ 36 ((cs.drop 16).take (Tryz.prog.cellsOf 36)) = some x1 at f1;rw [show Tryz.prog.cellsOf 36 = 1 by kernel_rfl] at f1;obtain ⟨l,hl,hc,hq⟩:=open_arr (f:=fun n : Int => [Value.int .u32 n]) Tryz.underlying37 (k:=1) (by kernel_rfl) (by kernel_rfl) open_reg f0;obtain ⟨pc,hp,hi⟩:=open_reg _ _ _ f1;refine ⟨l,pc,?_,hl,hq,hi⟩;have e:=drop_split cs 0 16;have e2:=drop_split cs 16 1;rw [List.drop_zero] at e;have e3 : cs.drop 17 = []:=List.drop_of_length_le (by omega);rw [List.drop_zero] at hc;rw [e,Nat.zero_add,hc,e2,hp,e3,List.append_nil];congr 1;unfold rgCells;rw [List.map_eq_flatMap]
set_option maxRecDepth 100000 in
set_option maxHeartbeats 1000000 in
theorem open_pr (fuel : Nat) (cs : List Value) (y : DataW H × List MemPlace) (h : DataW.trod enc Tryz.prog W 0 sp held fuel 48 cs = some y) : ∃ p : Pr,cs = prCells p ∧ PrOk p:=by
 obtain ⟨xs,m,rfl,rfl,hlen,hxl,hf⟩:=DataW.trod_struct Tryz.underlying48 h;rw [show Tryz.prog.cellsOf 48 = 96 by kernel_rfl] at hlen;have f0:=hf 0 _ rfl;have f1:=hf 1 _ rfl;have f2:=hf 2 _ rfl;have f3:=hf 3 _ rfl;have f4:=hf 4 _ rfl;have f5:=hf 5 _ rfl;have f6:=hf 6 _ rfl;have f7:=hf 7 _ rfl;have f8:=hf 8 _ rfl;have f9:=hf 9 _ rfl
 match xs,hxl with
 | [x0,x1,x2,x3,x4,x5,x6,x7,x8,x9],_ =>
  change DataW.trod _ _ _ _ _ _ _ 3 ((cs.drop 0).take (Tryz.prog.cellsOf 3)) = some x0 at f0;rw [show Tryz.prog.cellsOf 3 = 1 by kernel_rfl] at f0;change DataW.trod _ _ _ _ _ _ _ 3 ((cs.drop 1).take (Tryz.prog.cellsOf 3)) = some x1 at f1;rw [show Tryz.prog.cellsOf 3 = 1 by kernel_rfl] at f1;change DataW.trod _ _ _ _ _ _ _ 3 ((cs.drop 2).take (Tryz.prog.cellsOf 3)) = some x2 at f2;rw [show Tryz.prog.cellsOf 3 = 1 by kernel_rfl] at f2;change DataW.trod _ _ _ _ _ _ _ 39 ((cs.drop 3).take (Tryz.prog.cellsOf 39)) = some x3 at f3;rw [show Tryz.prog.cellsOf 39 = 17 by kernel_rfl] at f3;change DataW.trod _ _ _ _ _ _ _ 43 ((cs.drop 20).take (Tryz.prog.cellsOf 43)) = some x4 at f4;rw [show Tryz.prog.cellsOf 43 = 48 by kernel_rfl] at f4;change DataW.trod _ _ _ _ _ _ _ 46 ((cs.drop 68).take (Tryz.prog.cellsOf 46)) = some x5 at f5;rw [show Tryz.prog.cellsOf 46 = 24 by kernel_rfl] at f5;change DataW.trod _ _ _ _ _ _ _ 4 ((cs.drop 92).take (Tryz.prog.cellsOf 4)) = some x6 at f6;rw [show Tryz.prog.cellsOf 4 = 1 by kernel_rfl] at f6;change DataW.trod _ _ _ _ _ _ _ 36 ((cs.drop 93).take (Tryz.prog.cellsOf 36)) = some x7 at f7;rw [show Tryz.prog.cellsOf 36 = 1 by kernel_rfl] at f7;change DataW.trod _ _ _ _ _ _ _ 3 ((cs.drop 94).take (Tryz.prog.cellsOf 3)) = some x8 at f8;rw [show Tryz.prog.cellsOf 3 = 1 by kernel_rfl] at f8;change DataW.trod _ _ _ _ _ _ _ 22 ((cs.drop 95).take (Tryz.prog.cellsOf 22)) = some x9 at f9;rw [show Tryz.prog.cellsOf 22 = 1 by kernel_rfl] at f9;obtain ⟨pid,epid,_,wpid⟩:=DataW.trod_int Tryz.underlying3 f0;obtain ⟨par,epar,_,wpar⟩:=DataW.trod_int Tryz.underlying3 f1;obtain ⟨st,est,_,wst⟩:=DataW.trod_int Tryz.underlying3 f2;obtain ⟨rg,pc,ecpu,hr1,hr2,hpc⟩:=open_cpu _ _ _ f3;obtain ⟨pg,hg1,epg,hg2⟩:=open_arr (f:=pgCells1) Tryz.underlying43 (k:=3) (by kernel_rfl) (by kernel_rfl) open_pg f4;obtain ⟨fl,hf1,efl,hf2⟩:=open_arr (f:=flCells1) Tryz.underlying46 (k:=3) (by kernel_rfl) (by kernel_rfl) open_fl f5;obtain ⟨mk,emk,_⟩:=DataW.trod_bool Tryz.underlying4 f6;obtain ⟨cd,ecd,_,wcd⟩:=DataW.trod_int Tryz.underlying36 f7;obtain ⟨wy,ewy,_,wwy⟩:=DataW.trod_int Tryz.underlying3 f8;obtain ⟨nn,enn,_,wnn⟩:=DataW.trod_int Tryz.underlying22 f9;have e:=drop_split cs 0 1;rw [List.drop_zero] at e;have q1:=drop_split cs 1 1;have q2:=drop_split cs 2 1;have q3:=drop_split cs 3 17;have q4:=drop_split cs 20 48;have q5:=drop_split cs 68 24;have q6:=drop_split cs 92 1;have q7:=drop_split cs 93 1
  have q8:=drop_split cs 94 1;have q9:=drop_split cs 95 1;have qz : cs.drop 96 = []:=List.drop_of_length_le (by omega);refine ⟨⟨pid,par,st,rg,pc,pg,fl,mk,cd,wy,nn⟩,?_,⟨hr1,hg1,hf1,j8_wf wpid,j8_wf wpar,j8_wf wst,hr2,hpc,hg2,hf2,u32_wf wcd,j8_wf wwy,u64_wf wnn⟩⟩;rw [e,Nat.zero_add,q1,q2,q3,q4,q5,q6,q7,q8,q9,qz];rw [List.drop_zero] at epid;rw [epid,epar,est,ecpu,epg,efl,emk,ecd,ewy,enn];simp [prCells,pgCells,flCells]
set_option maxRecDepth 100000 in
set_option maxHeartbeats 2000000 in
theorem open_mc {r : Reach} {b0 : Nat} {v : Value} {d : DataW H} {p : List MemPlace} (hv : Value.okWide Tryz.prog W r b0 30 v) (h : DataW.Trod enc Tryz.prog W 0 sp held 30 v d p) :
  ∃ (a : MA) (m : Mc),v = .agg (mcL a m).toArray ∧ MAt W W.heap.size a m ∧ McOk' m:=by
 obtain ⟨cs,rfl,hsz⟩:=okWide_struct Tryz.underlying30 hv;obtain ⟨l⟩:=cs;obtain ⟨fuel,hf⟩:=h;have hf' : DataW.trod enc Tryz.prog W 0 sp held fuel 30 l = some (d,p):=hf;obtain ⟨xs,n,_,hx,hlen,hxl,hg⟩:=DataW.trod_struct Tryz.underlying30 hf';rw [Tryz.cellsMachine] at hlen;have f0:=hg 0 _ rfl;have f1:=hg 1 _ rfl;have f2:=hg 2 _ rfl;have f3:=hg 3 _ rfl;have f4:=hg 4 _ rfl;have f5:=hg 5 _ rfl;have f6:=hg 6 _ rfl;have f7:=hg 7 _ rfl;have f8:=hg 8 _ rfl;have f9:=hg 9 _ rfl;have f10:=hg 10 _ rfl;have f11:=hg 11 _ rfl;have f12:=hg 12 _ rfl;have f13:=hg 13 _ rfl;have f14:=hg 14 _ rfl
 match xs,hxl with
 | [x0,x1,x2,x3,x4,x5,x6,x7,x8,x9,x10,x11,x12,x13,x14],_ =>
  change DataW.trod _ _ _ _ _ _ _ 22 ((l.drop 0).take (Tryz.prog.cellsOf 22)) = some x0 at f0;rw [show Tryz.prog.cellsOf 22 = 1 by kernel_rfl] at f0;change DataW.trod _ _ _ _ _ _ _ 3 ((l.drop 1).take (Tryz.prog.cellsOf 3)) = some x1 at f1;rw [show Tryz.prog.cellsOf 3 = 1 by kernel_rfl] at f1;change DataW.trod _ _ _ _ _ _ _ 3 ((l.drop 2).take (Tryz.prog.cellsOf 3)) = some x2 at f2;rw [show Tryz.prog.cellsOf 3 = 1 by kernel_rfl] at f2;change DataW.trod _ _ _ _ _ _ _ 3 ((l.drop 3).take (Tryz.prog.cellsOf 3)) = some x3 at f3;rw [show Tryz.prog.cellsOf 3 = 1 by kernel_rfl] at f3;change DataW.trod _ _ _ _ _ _ _ 23 ((l.drop 4).take (Tryz.prog.cellsOf 23)) = some x4 at f4;rw [show Tryz.prog.cellsOf 23 = 1 by kernel_rfl] at f4;change DataW.trod _ _ _ _ _ _ _ 24 ((l.drop 5).take (Tryz.prog.cellsOf 24)) = some x5 at f5;rw [show Tryz.prog.cellsOf 24 = 1 by kernel_rfl] at f5;change DataW.trod _ _ _ _ _ _ _ 3 ((l.drop 6).take (Tryz.prog.cellsOf 3)) = some x6 at f6;rw [show Tryz.prog.cellsOf 3 = 1 by kernel_rfl] at f6;change DataW.trod _ _ _ _ _ _ _ 9 ((l.drop 7).take (Tryz.prog.cellsOf 9)) = some x7 at f7;rw [show Tryz.prog.cellsOf 9 = 1 by kernel_rfl] at f7;change DataW.trod _ _ _ _ _ _ _ 25 ((l.drop 8).take (Tryz.prog.cellsOf 25)) = some x8 at f8;rw [show Tryz.prog.cellsOf 25 = 1 by kernel_rfl] at f8;change DataW.trod _ _ _ _ _ _ _ 3 ((l.drop 9).take (Tryz.prog.cellsOf 3)) = some x9 at f9;rw [show Tryz.prog.cellsOf 3 = 1 by kernel_rfl] at f9;change DataW.trod _ _ _ _ _ _ _ 9 ((l.drop 10).take (Tryz.prog.cellsOf 9)) = some x10 at f10;rw [show Tryz.prog.cellsOf 9 = 1 by kernel_rfl] at f10;change DataW.trod _ _ _ _ _ _ _ 4 ((l.drop 11).take (Tryz.prog.cellsOf 4)) = some x11 at f11;rw [show Tryz.prog.cellsOf 4 = 1 by kernel_rfl] at f11;change DataW.trod _ _ _ _ _ _ _ 22 ((l.drop 12).take (Tryz.prog.cellsOf 22)) = some x12 at f12;rw [show Tryz.prog.cellsOf 22 = 1 by kernel_rfl] at f12;change DataW.trod _ _ _ _ _ _ _ 28 ((l.drop 13).take (Tryz.prog.cellsOf 28)) = some x13 at f13;rw [show Tryz.prog.cellsOf 28 = 3 by kernel_rfl] at f13;change DataW.trod _ _ _ _ _ _ _ 26 ((l.drop 16).take (Tryz.prog.cellsOf 26)) = some x14 at f14;rw [show Tryz.prog.cellsOf 26 = 1 by kernel_rfl] at f14
  match l,hlen with
  | [c0,c1,c2,c3,c4,c5,c6,c7,c8,c9,c10,c11,c12,c13,c14,c15,c16],_ =>
   change DataW.trod _ _ _ _ _ _ _ 22 [c0] = some x0 at f0;change DataW.trod _ _ _ _ _ _ _ 3 [c1] = some x1 at f1;change DataW.trod _ _ _ _ _ _ _ 3 [c2] = some x2 at f2;change DataW.trod _ _ _ _ _ _ _ 3 [c3] = some x3 at f3;change DataW.trod _ _ _ _ _ _ _ 23 [c4] = some x4 at f4;change DataW.trod _ _ _ _ _ _ _ 24 [c5] = some x5 at f5;change DataW.trod _ _ _ _ _ _ _ 3 [c6] = some x6 at f6;change DataW.trod _ _ _ _ _ _ _ 9 [c7] = some x7 at f7;change DataW.trod _ _ _ _ _ _ _ 25 [c8] = some x8 at f8;change DataW.trod _ _ _ _ _ _ _ 3 [c9] = some x9 at f9;change DataW.trod _ _ _ _ _ _ _ 9 [c10] = some x10 at f10;change DataW.trod _ _ _ _ _ _ _ 4 [c11] = some x11 at f11;change DataW.trod _ _ _ _ _ _ _ 22 [c12] = some x12 at f12;change DataW.trod _ _ _ _ _ _ _ 26 [c16] = some x14 at f14;change DataW.trod _ _ _ _ _ _ _ 28 [c13,c14,c15] = some x13 at f13;obtain ⟨zs,n',_,_,hl3,hzl,hz⟩:=DataW.trod_struct Tryz.underlying28 f13;have g0:=hz 0 _ rfl;have g1:=hz 1 _ rfl;have g2:=hz 2 _ rfl
   match zs,hzl with
   | [z0,z1,z2],_ =>
    change DataW.trod _ _ _ _ _ _ _ 23 (([c13,c14,c15].drop 0).take (Tryz.prog.cellsOf 23)) = some z0 at g0;rw [show Tryz.prog.cellsOf 23 = 1 by kernel_rfl] at g0;change DataW.trod _ _ _ _ _ _ _ 23 [c13] = some z0 at g0;change DataW.trod _ _ _ _ _ _ _ 26 (([c13,c14,c15].drop 1).take (Tryz.prog.cellsOf 26)) = some z1 at g1;rw [show Tryz.prog.cellsOf 26 = 1 by kernel_rfl] at g1;change DataW.trod _ _ _ _ _ _ _ 26 [c14] = some z1 at g1;change DataW.trod _ _ _ _ _ _ _ 3 (([c13,c14,c15].drop 2).take (Tryz.prog.cellsOf 3)) = some z2 at g2;rw [show Tryz.prog.cellsOf 3 = 1 by kernel_rfl] at g2;change DataW.trod _ _ _ _ _ _ _ 3 [c15] = some z2 at g2;obtain ⟨ck,eck,_,wck⟩:=DataW.trod_int Tryz.underlying22 f0;injection eck with eck _;subst eck;obtain ⟨qu,equ,_,wqu⟩:=DataW.trod_int Tryz.underlying3 f1;injection equ with equ _;subst equ;obtain ⟨cu,ecu,_,wcu⟩:=DataW.trod_int Tryz.underlying3 f2;injection ecu with ecu _;subst ecu;obtain ⟨le,ele,_,wle⟩:=DataW.trod_int Tryz.underlying3 f3;injection ele with ele _;subst ele;obtain ⟨nx,enx,_,wnx⟩:=DataW.trod_int Tryz.underlying3 f6;injection enx with enx _;subst enx;obtain ⟨np,enp,_,wnp⟩:=DataW.trod_int Tryz.underlying3 f9;injection enp with enp _;subst enp;obtain ⟨td,etd,_,wtd⟩:=DataW.trod_int Tryz.underlying22 f12;injection etd with etd _;subst etd;obtain ⟨dl,edl,_,wdl⟩:=DataW.trod_int Tryz.underlying3 g2;injection edl with edl _;subst edl;obtain ⟨ini,eini,_⟩:=open_s1 _ _ _ f7;injection eini with eini _;subst eini;obtain ⟨inp,einp,_⟩:=open_s1 _ _ _ f10;injection einp with einp _;subst einp;obtain ⟨fin,efin,_⟩:=DataW.trod_bool Tryz.underlying4 f11;injection efin with efin _;subst efin;obtain ⟨AF,dF,lF,rfl,hF,qF,bF,sF⟩:=open_rows (f:=fun x : List UInt8 => [S x]) Tryz.underlying23 (k:=1) (by kernel_rfl) (fun _ _ => rfl) (by omega) open_s1 f4;obtain ⟨AP,dP,lP,rfl,hP,qP,bP,sP⟩:=open_rows (f:=prCells) Tryz.underlying24 (k:=96) (by kernel_rfl) (fun _ h => prCells_length h) (by omega) open_pr f5;obtain ⟨AQ,dQ,lQ,rfl,hQ,qQ,bQ,sQ⟩:=open_rows (f:=nbCells1) Tryz.underlying25 (k:=2) (by kernel_rfl) (fun _ _ => rfl) (by omega) open_pi f8;obtain ⟨AD,dD,lD,rfl,hD,qD,bD,sD⟩:=open_rows (f:=nbCells1) Tryz.underlying26 (k:=2) (by kernel_rfl) (fun _ _ => rfl) (by omega) open_wr f14;obtain ⟨AL,dL,lL,rfl,hL,qL,bL,sL⟩:=open_rows (f:=fun x : List UInt8 => [S x]) Tryz.underlying23 (k:=1) (by kernel_rfl) (fun _ _ => rfl) (by omega) open_s1 g0
    obtain ⟨AN,dN,lN,rfl,hN,qN,bN,sN⟩:=open_rows (f:=nbCells1) Tryz.underlying26 (k:=2) (by kernel_rfl) (fun _ _ => rfl) (by omega) open_wr g1;rw [← List.map_eq_flatMap] at hF hL;exact ⟨⟨AF,AP,AQ,AL,AN,AD,dF,dP,dQ,dL,dN,dD⟩,⟨ck,qu,cu,le,lF,lP,nx,ini,lQ,np,inp,fin,td,lL,lN,dl,lD⟩,rfl,⟨hF,hP,hQ,hL,hN,hD,bF,bP,bQ,bL,bN,bD⟩,⟨u64_wf wck,j8_wf wqu,j8_wf wcu,j8_wf wle,j8_wf wnx,j8_wf wnp,u64_wf wtd,j8_wf wdl,qP,qQ,qN,qD,sF,sP,sQ,sL,sN,sD⟩⟩
end
end Go.Proofs.YtdkhnjjihbmlmaaGreatDoor
namespace Go.Proofs.YtdkhnjjihbmlmaaGreatDoor
open Go.ChangeShapes Go.WideShapes Go.ChangeAt Go.RowKit
section
variable {H : Type} {enc : TypeId × Value → H} {W : World} {sp : Nat → Bool} {held : Bool}
theorem bulk_pos (d : DataW H) : 1 ≤ Rows.uptoBulk d:=by
 cases d with
 | lit l => cases l <;> simp [Rows.uptoBulk]
 | _ => simp [Rows.uptoBulk]
theorem bulk_len : ∀ l : List (DataW H),l.length ≤ Rows.uptoBulkAll l
 | [] => by simp [Rows.uptoBulkAll]
 | d :: l => by
  have h1:=bulk_pos d;have h2:=bulk_len l;simp only [List.length_cons,Rows.uptoBulkAll];omega
theorem bulk_slice {fuel : Nat} {t e : TypeId} {A : Option Addr} {n c : Nat} {y : DataW H × List MemPlace} (hu : Tryz.prog.underlying t = some (.slice e)) (h : DataW.trod enc Tryz.prog W 0 sp held fuel t [.slice A n c] = some y) : n ≤ Rows.uptoBulk y.1:=by
 rcases DataW.trod_slice hu h with ⟨hcs,_⟩ | ⟨a,len,cap,elems,rest,_,_,hcs,rfl,_,_,_,hl,_⟩
 ·injection hcs with hcs;injection hcs with _ h2;omega
 ·injection hcs with hcs;injection hcs with _ h2;have:=bulk_len (elems.map (·.1));rw [List.length_map] at this;simp only [Rows.uptoBulk];omega
theorem bulk_text {fuel : Nat} {s : List UInt8} {y : DataW H × List MemPlace} (h : DataW.trod enc Tryz.prog W 0 sp held fuel 9 [S s] = some y) : s.length ≤ Rows.uptoBulk y.1:=by
 obtain ⟨b,hb,rfl,_⟩:=DataW.trod_string Tryz.underlying9 h;injection hb with hb;injection hb with hb;subst hb;simp [Rows.uptoBulk]
theorem bulk_mem : ∀ {l : List (DataW H × List MemPlace)} {k : Nat} {x : DataW H × List MemPlace},l[k]? = some x → Rows.uptoBulk x.1 ≤ Rows.uptoBulkAll (l.map (·.1))
 | [],_,_,h => by simp at h
 | y :: l,0,x,h => by
  obtain rfl : y = x:=(by simpa using h);simp only [List.map_cons,Rows.uptoBulkAll];omega
 | y :: l,k + 1,x,h => by
  have:=bulk_mem (l:=l) (k:=k) (x:=x) (by simpa using h);simp only [List.map_cons,Rows.uptoBulkAll];omega
structure Bk (m : Mc) (n : Nat) : Prop where
 frames : m.frames.length ≤ n
 procs : m.procs.length ≤ n
 pipes : m.pipes.length ≤ n
 inp : m.inp.length ≤ n
 blocks : m.blocks.length ≤ n
 pend : m.pend.length ≤ n
 dirty : m.dirty.length ≤ n
 init : m.init.length ≤ n
set_option maxRecDepth 100000 in
set_option maxHeartbeats 1000000 in
theorem bulk_mc {a : MA} {m : Mc} {d : DataW H} {p : List MemPlace} (h : DataW.Trod enc Tryz.prog W 0 sp held 30 (.agg (mcL a m).toArray) d p) : Bk m (Rows.uptoBulk d):=by
 obtain ⟨fuel,hf⟩:=h;have hf' : DataW.trod enc Tryz.prog W 0 sp held fuel 30 (mcL a m) = some (d,p):=hf;obtain ⟨xs,n,_,hx,hlen,hxl,hg⟩:=DataW.trod_struct Tryz.underlying30 hf';have f4:=hg 4 _ rfl;have f5:=hg 5 _ rfl;have f7:=hg 7 _ rfl;have f8:=hg 8 _ rfl;have f10:=hg 10 _ rfl;have f13:=hg 13 _ rfl;have f14:=hg 14 _ rfl;have hd : d = .agg (xs.map (·.1)):=congrArg Prod.fst hx
 have hall : ∀ (k : Nat) (x : DataW H × List MemPlace),xs[k]? = some x → Rows.uptoBulk x.1 ≤ Rows.uptoBulk d:=fun k x hk => by
  have:=bulk_mem hk;rw [hd];simp only [Rows.uptoBulk];omega
 clear hd hx hf hf' hg
 match xs,hxl with
 | [x0,x1,x2,x3,x4,x5,x6,x7,x8,x9,x10,x11,x12,x13,x14],_ =>
  change DataW.trod _ _ _ _ _ _ _ 23 (((mcL a m).drop 4).take (Tryz.prog.cellsOf 23)) = some x4 at f4;rw [show Tryz.prog.cellsOf 23 = 1 by kernel_rfl] at f4;change DataW.trod _ _ _ _ _ _ _ 23 [.slice a.F m.frames.length a.cF] = some x4 at f4;change DataW.trod _ _ _ _ _ _ _ 24 (((mcL a m).drop 5).take (Tryz.prog.cellsOf 24)) = some x5 at f5;rw [show Tryz.prog.cellsOf 24 = 1 by kernel_rfl] at f5;change DataW.trod _ _ _ _ _ _ _ 24 [.slice a.P m.procs.length a.cP] = some x5 at f5;change DataW.trod _ _ _ _ _ _ _ 9 (((mcL a m).drop 7).take (Tryz.prog.cellsOf 9)) = some x7 at f7;rw [show Tryz.prog.cellsOf 9 = 1 by kernel_rfl] at f7;change DataW.trod _ _ _ _ _ _ _ 9 [S m.init] = some x7 at f7;change DataW.trod _ _ _ _ _ _ _ 25 (((mcL a m).drop 8).take (Tryz.prog.cellsOf 25)) = some x8 at f8;rw [show Tryz.prog.cellsOf 25 = 1 by kernel_rfl] at f8;change DataW.trod _ _ _ _ _ _ _ 25 [.slice a.Q m.pipes.length a.cQ] = some x8 at f8;change DataW.trod _ _ _ _ _ _ _ 9 (((mcL a m).drop 10).take (Tryz.prog.cellsOf 9)) = some x10 at f10;rw [show Tryz.prog.cellsOf 9 = 1 by kernel_rfl] at f10;change DataW.trod _ _ _ _ _ _ _ 9 [S m.inp] = some x10 at f10;change DataW.trod _ _ _ _ _ _ _ 28 (((mcL a m).drop 13).take (Tryz.prog.cellsOf 28)) = some x13 at f13;rw [show Tryz.prog.cellsOf 28 = 3 by kernel_rfl] at f13;change DataW.trod _ _ _ _ _ _ _ 28 [.slice a.L m.blocks.length a.cL,.slice a.N m.pend.length a.cN,.int .i64 m.dleft] = some x13 at f13;change DataW.trod _ _ _ _ _ _ _ 26 (((mcL a m).drop 16).take (Tryz.prog.cellsOf 26)) = some x14 at f14;rw [show Tryz.prog.cellsOf 26 = 1 by kernel_rfl] at f14;change DataW.trod _ _ _ _ _ _ _ 26 [.slice a.D m.dirty.length a.cD] = some x14 at f14;have q4:=Nat.le_trans (bulk_slice Tryz.underlying23 f4) (hall 4 x4 rfl);have q5:=Nat.le_trans (bulk_slice Tryz.underlying24 f5) (hall 5 x5 rfl);have q7:=Nat.le_trans (bulk_text f7) (hall 7 x7 rfl);have q8:=Nat.le_trans (bulk_slice Tryz.underlying25 f8) (hall 8 x8 rfl);have q10:=Nat.le_trans (bulk_text f10) (hall 10 x10 rfl);have q14:=Nat.le_trans (bulk_slice Tryz.underlying26 f14) (hall 14 x14 rfl);have q13:=hall 13 x13 rfl;obtain ⟨zs,n',_,hz,_,hzl,hzg⟩:=DataW.trod_struct Tryz.underlying28 f13;have g0:=hzg 0 _ rfl;have g1:=hzg 1 _ rfl;have hd2 : x13.1 = .agg (zs.map (·.1)):=congrArg Prod.fst hz
  have hall2 : ∀ (k : Nat) (x : DataW H × List MemPlace),zs[k]? = some x → Rows.uptoBulk x.1 ≤ Rows.uptoBulk x13.1:=fun k x hk => by
   have:=bulk_mem hk;rw [hd2];simp only [Rows.uptoBulk];omega
  clear hd2 hz hzg
  match zs,hzl with
  | [z0,z1,z2],_ => change DataW.trod _ _ _ _ _ _ _ 23 (([Value.slice a.L m.blocks.length a.cL,.slice a.N m.pend.length a.cN,.int .i64 m.dleft].drop 0).take (Tryz.prog.cellsOf 23)) = some z0 at g0;rw [show Tryz.prog.cellsOf 23 = 1 by kernel_rfl] at g0;change DataW.trod _ _ _ _ _ _ _ 23 [.slice a.L m.blocks.length a.cL] = some z0 at g0;change DataW.trod _ _ _ _ _ _ _ 26 (([Value.slice a.L m.blocks.length a.cL,.slice a.N m.pend.length a.cN,.int .i64 m.dleft].drop 1).take (Tryz.prog.cellsOf 26)) = some z1 at g1;rw [show Tryz.prog.cellsOf 26 = 1 by kernel_rfl] at g1;change DataW.trod _ _ _ _ _ _ _ 26 [.slice a.N m.pend.length a.cN] = some z1 at g1;have r0:=Nat.le_trans (bulk_slice Tryz.underlying23 g0) (hall2 0 z0 rfl);have r1:=Nat.le_trans (bulk_slice Tryz.underlying26 g1) (hall2 1 z1 rfl);exact ⟨q4,q5,q8,q10,Nat.le_trans r0 q13,Nat.le_trans r1 q13,q14,q7⟩
end
theorem McOk'.bulk {m : Mc} {n : Nat} (h : McOk' m) (b : Bk m n) (hn : n ≤ 1048576) : McOk m:=by
 have h1:=b.frames;have h2:=b.procs;have h3:=b.blocks;have h4:=b.pend;have h5:=b.dirty;exact h.small (by omega) (by omega) (by omega) (by omega) (by omega)
end Go.Proofs.YtdkhnjjihbmlmaaGreatDoor
