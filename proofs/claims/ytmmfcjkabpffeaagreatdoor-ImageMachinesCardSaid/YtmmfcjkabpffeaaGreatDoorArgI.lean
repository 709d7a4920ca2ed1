import Derived.Test.YtmmfcjkabpffeaaGreatDoorRows
import Derived.Test.YtmmfcjkabpffeaaGreatDoorGenA
import Derived.WalkKit
import Derived.ProofKit
import Derived.OpenShut
import Derived.Carry
import Derived.Lib.SmallJoins
import Derived.Deep.DeepHandedRow
import Derived.Lib.LaidTab
import Derived.Test.YtmmfcjkabpffeaaGreatDoorMcA
namespace Go.Proofs.YtmmfcjkabpffeaaGreatDoor
open Go.ChangeShapes Go.WideShapes Go.ChangeAt Go.RowKit
theorem choose_list {α : Type} {P : Nat → α → Prop} : ∀ n,(∀ i,i < n → ∃ x,P i x) → ∃ l : List α,l.length = n ∧ ∀ i x,l[i]? = some x → P i x
 | 0,_ => ⟨[],rfl,fun i x h => by simp at h⟩
 | n + 1,h => by
  obtain ⟨l,hl,hp⟩:=choose_list n fun i hi => h i (by omega)
  obtain ⟨x,hx⟩:=h n (by omega);refine ⟨l ++ [x],by simp [hl],fun i y hy => ?_⟩;by_cases hi : i < n
  ·rw [List.getElem?_append_left (by omega)] at hy;exact hp i y hy
  ·rw [List.getElem?_append_right (by omega)] at hy;have h0 : i - l.length = 0:=(by have:=(List.getElem?_eq_some_iff.1 hy).1;simp at this;omega);rw [h0] at hy;simp only [List.getElem?_cons_zero,Option.some.injEq] at hy;subst hy;obtain rfl : i = n:=(by omega);exact hx
end Go.Proofs.YtmmfcjkabpffeaaGreatDoor
namespace Go.Proofs.YtmmfcjkabpffeaaGreatDoor
open Go.ChangeShapes Go.WideShapes Go.ChangeAt Go.RowKit
section
variable {H : Type} {enc : TypeId × Value → H} {W : World} {sp : Nat → Bool} {held : Bool}
theorem open_rows {α : Type} {f : α → List Value} {Q : α → Prop} {k : Nat} {t e : TypeId} (hu : Tryz.prog.underlying t = some (.slice e)) (hk : Tryz.prog.cellsOf e = k) (hfk : ∀ x,Q x → (f x).length = k) (hk0 : 0 < k)
  (hel : ∀ fuel cs y,DataW.trod enc Tryz.prog W 0 sp held fuel e cs = some y → ∃ x,cs = f x ∧ Q x) {fuel : Nat} {v : Value} {y : DataW H × List MemPlace} (h : DataW.trod enc Tryz.prog W 0 sp held fuel t [v] = some y) :
  ∃ (A : Option Addr) (c : Nat) (l : List α),v = .slice A l.length c ∧ Lies W W.heap.size A (l.flatMap f) ∧ (∀ x ∈ l,Q x) ∧ l.length ≤ c ∧ l.length ≤ 9223372036854775807:=by
 rcases DataW.trod_slice hu h with ⟨hcs,rfl⟩ | ⟨a,len,cap,elems,rest,n,rfl,hcs,rfl,_,hlc,hm,hlen,hel2,_,_⟩
 ·injection hcs with hcs;subst hcs;exact ⟨none,0,[],rfl,fun k u hu => by simp at hu,by simp,by simp,by simp⟩
 ·injection hcs with hcs;subst hcs;rw [hk] at hel2;have key : ∀ i,i < len → ∃ x,(∀ j u,(f x)[j]? = some u → W.cell? ((a.add (i * k)).add j) = some u) ∧ Q x:=(by intro i hi;have h1:=hel2 i hi;rw [List.getElem?_eq_getElem (show i < elems.length by omega)] at h1;obtain ⟨cs,hcs,htr⟩:=Option.bind_eq_some_iff.1 h1;obtain ⟨_,hl2,hcell⟩:=World.cells?_some hcs;obtain ⟨x,rfl,q⟩:=hel _ _ _ htr;exact ⟨x,fun j u hu => (hcell j (by have:=(List.getElem?_eq_some_iff.1 hu).1;omega)).trans hu,q⟩);obtain ⟨l,hl,hp⟩:=choose_list len key
  have hQ : ∀ x ∈ l,Q x:=fun x hx => by
   obtain ⟨i,hi⟩:=List.getElem?_of_mem hx;exact (hp i x hi).2
  refine ⟨some a,cap,l,by rw [hl],fun j u hu => ?_,hQ,by omega,by rw [hl];unfold maxLen at hm;omega⟩
  have hjl : j < l.length * k:=by
   have:=(List.getElem?_eq_some_iff.1 hu).1
   rwa [flat_len f k l fun x hx => hfk x (hQ x hx)] at this
  have hi : j / k < l.length:=(by rw [Nat.div_lt_iff_lt_mul hk0];exact hjl);have hjr : j = j / k * k + j % k:=(by rw [Nat.mul_comm];exact (Nat.div_add_mod j k).symm);have hx : l[j / k]? = some (l[j / k]):=List.getElem?_eq_getElem hi;have h2:=flat_at f k l (fun x hx => hfk x (hQ x hx)) hx (j:=j % k) (Nat.mod_lt _ hk0);rw [← hjr,hu] at h2;have h3:=(hp _ _ hx).1 _ _ h2.symm
  have e : (a.add (j / k * k)).add (j % k) = a.add j:=by
   conv => rhs;rw [hjr]
   unfold Addr.add;by_cases h1 : j / k * k = 0 <;> by_cases h2 : j % k = 0 <;> simp [h1,h2,Nat.add_assoc]
  rw [e] at h3;have hblk:=World.block_lt_of_cell? W _ h3;rw [add_block] at hblk;exact ⟨a,rfl,hblk,h3⟩
theorem open_s1 (fuel : Nat) (cs : List Value) (y : DataW H × List MemPlace) (h : DataW.trod enc Tryz.prog W 0 sp held fuel 9 cs = some y) : ∃ x : List UInt8,cs = [S x] ∧ True:=by
 obtain ⟨s,hs,rfl,_⟩:=DataW.trod_string Tryz.underlying9 h;exact ⟨s.data.toList,by rw [hs,S_of],trivial⟩
theorem Tryz.cellsImage : Tryz.prog.cellsOf 36 = 3:=by kernel_rfl
set_option maxRecDepth 100000 in
theorem open_im {r : Reach} {b0 : Nat} {v : Value} {d : DataW H} {p : List MemPlace} (hv : Value.okWide Tryz.prog W r b0 36 v) (h : DataW.Trod enc Tryz.prog W 0 sp held 36 v d p) :
  ∃ (A B : Option Addr) (c e : Nat) (fs bs : List (List UInt8)) (t : List UInt8),v = .agg #[.slice A fs.length c,.slice B bs.length e,S t] ∧ Strs W W.heap.size A fs ∧ Strs W W.heap.size B bs ∧ fs.length ≤ c ∧ bs.length ≤ e:=by
 obtain ⟨v0,v1,v2,y0,y1,y2,n,rfl,rfl,rfl,h0,h1,h2⟩:=Joins.open_agg3 Tryz.underlying36 (by kernel_rfl) Tryz.cellsImage hv h;have e : ∀ l : List (List UInt8),l.flatMap (fun x => [S x]) = l.map S:=fun l => (by induction l <;> simp_all);obtain ⟨A,c,fs,rfl,hA,_,hc,_⟩:=open_rows (f:=fun x : List UInt8 => [S x]) Tryz.underlying23 (k:=1) (by kernel_rfl) (fun _ _ => rfl) (by omega) open_s1 h0;obtain ⟨B,e2,bs,rfl,hB,_,hd,_⟩:=open_rows (f:=fun x : List UInt8 => [S x]) Tryz.underlying23 (k:=1) (by kernel_rfl) (fun _ _ => rfl) (by omega) open_s1 h1;obtain ⟨x,hx,_⟩:=open_s1 _ _ _ h2;injection hx with hx;subst hx;rw [e] at hA hB;exact ⟨A,B,c,e2,fs,bs,x,rfl,hA,hB,hc,hd⟩
end
end Go.Proofs.YtmmfcjkabpffeaaGreatDoor
