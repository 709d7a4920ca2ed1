import Derived.WalkKit
import Derived.WalkSpells
import Derived.WalkLawsBesides
import Derived.Lib.Hide
import Derived.Laws.OwnMore
import Derived.Deep.AppendLies
import Derived.Deep.Draws
import Derived.Maps.AppendAt
import Derived.Laws.CopyRow
namespace Go.Proofs.YtmmfcjkabpffeaaGreatDoor
open Go.RowKit
theorem jj {p:Prop} (h:p):Hid p:=Lib.hid h
abbrev S (l : List UInt8) : Value:=.string ⟨l.toArray⟩
theorem ret_int {k : IntKind} {a b : Int} (h : a = b) : Ending.returned (.int k a) = .returned (.int k b):=by rw [h]
theorem S_of (s : ByteArray) : Value.string s = S s.data.toList:=by cases s;simp [S]
def Lies (w : World) (B : Nat) (A : Option Addr) (xs : List Value) : Prop :=
 ∀ k u,xs[k]? = some u → ∃ ad,A = some ad ∧ ad.block < B ∧ w.cell? (ad.add k) = some u
section
variable {w w' : World} {B B' : Nat} {A : Option Addr} {xs : List Value}
theorem Lies.none (w : World) (B : Nat) (A : Option Addr) : Lies w B A []:=fun k u h => by simp at h
theorem Lies.same (h : Lies w B A xs) (hk : ∀ p : Addr,p.block < B → w'.cell? p = w.cell? p) : Lies w' B A xs:=fun k u hu => by
 obtain ⟨ad,e,hb,hc⟩:=h k u hu;exact ⟨ad,e,hb,(hk _ (by unfold Addr.add;split <;> exact hb)).trans hc⟩
theorem Lies.wide (h : Lies w B A xs) (hB : B ≤ B') : Lies w B' A xs:=fun k u hu => by
 obtain ⟨ad,e,hb,hc⟩:=h k u hu;exact ⟨ad,e,Nat.lt_of_lt_of_le hb hB,hc⟩
theorem Lies.below (h : Lies w B A xs) (hb : Below B w w') : Lies w' B A xs:=h.same fun _ hp => hb.cell hp
theorem Lies.block (h : Lies w B A xs) (hB : B ≤ w.heap.size) (o : Obj) : Lies (w.alloc o) B A xs:=h.same fun p hp => World.cell?_alloc_lt w o p (by omega)
end
def Whole (w : World) (g : Nat) (t : TypeId) (cs : Array Value) : Prop:=w.heap[g]? = some (.cells cs t (0,0))
section
variable {w w' : World} {g : Nat} {t : TypeId} {cs : Array Value}
theorem Whole.lt (h : Whole w g t cs) : g < w.heap.size:=by
 apply Decidable.byContradiction;intro hn;unfold Whole at h;rw [Array.getElem?_eq_none (by omega)] at h;cases h
theorem Whole.cell (h : Whole w g t cs) (i : Nat) : w.cell? ⟨g,i,none⟩ = cs[i]?:=cell_of_row w g i cs t (0,0) h
theorem Whole.free (h : Whole w g t cs) (i : Nat) : w.frozen? ⟨g,i,none⟩ = false:=by
 unfold Whole at h;simp [World.frozen?,h]
theorem Whole.made (w : World) (t : TypeId) (cs : Array Value) : Whole (w.alloc (.cells cs t)) w.heap.size t cs:=heap_alloc_new w _
theorem Whole.block (h : Whole w g t cs) (o : Obj) : Whole (w.alloc o) g t cs:=(Below.heap_alloc w o g h.lt).trans h
theorem Whole.set (h : Whole w g t cs) (i : Nat) (u : Value) : Whole (w.setCell ⟨g,i,none⟩ u) g t (cs.setIfInBounds i u):=by
 unfold Whole at h ⊢;simp [World.setCell,Array.getElem?_modify,h]
theorem Whole.far (h : Whole w g t cs) {p : Addr} (hp : g ≠ p.block) (u : Value) : Whole (w.setCell p u) g t cs:=(Below.heap_setCell w p u g hp).trans h
theorem Whole.below {B : Nat} (h : Whole w g t cs) (hb : Below B w w') (hg : g < B) : Whole w' g t cs:=(hb.block g hg).trans h
theorem Whole.other {row : Option Nat} (h : Whole w g t cs) (hb : w.grownBy w' row) (hg : some g ≠ row) : Whole w' g t cs:=(hb.block g h.lt hg).trans h
end
theorem Below.draws {B : Nat} {a w : World} (h : Below B a w) (n : Nat) : Below B a (w.drewN n):=⟨h.os,h.tape,h.output,h.size,h.block⟩
abbrev Strs (w : World) (B : Nat) (A : Option Addr) (ls : List (List UInt8)) : Prop:=Lies w B A (ls.map S)
theorem Strs.at' {w : World} {B k : Nat} {A : Option Addr} {ls : List (List UInt8)} (h : Strs w B A ls) (hk : k < ls.length) : ∃ ad,A = some ad ∧ ad.block < B ∧ w.cell? (ad.add k) = some (S (ls.getD k [])) :=
 h k _ (by simp [hk])
end Go.Proofs.YtmmfcjkabpffeaaGreatDoor
namespace Go.Proofs.YtmmfcjkabpffeaaGreatDoor
open Go.RowKit
def ua (x y : UInt32) : UInt32:=x + y
def ux (x y : UInt32) : UInt32:=x ^^^ y
def R16 (x : UInt32) : UInt32:=(x >>> 16) ||| (x <<< 16)
def R12 (x : UInt32) : UInt32:=(x >>> 12) ||| (x <<< 20)
def R8 (x : UInt32) : UInt32:=(x >>> 8) ||| (x <<< 24)
def R7 (x : UInt32) : UInt32:=(x >>> 7) ||| (x <<< 25)
def mixL (v : List UInt32) (a b c d : Nat) (x y : UInt32) : List UInt32 :=
 let a1:=ua (v.getD a 0) (ua (v.getD b 0) x)
 let d1:=R16 (ux (v.getD d 0) a1)
 let c1:=ua (v.getD c 0) d1
 let b1:=R12 (ux (v.getD b 0) c1)
 let a2:=ua a1 (ua b1 y)
 let d2:=R8 (ux d1 a2)
 let c2:=ua c1 d2
 let b2:=R7 (ux b1 c2)
 (((v.set a a2).set d d2).set c c2).set b b2
end Go.Proofs.YtmmfcjkabpffeaaGreatDoor
namespace Go.Proofs.YtmmfcjkabpffeaaGreatDoor
open Go.RowKit
abbrev B8 (b : UInt8) : Value:=.int .u8 (b.toNat : Int)
def IV : List UInt32:=[1779033703,3144134277,1013904242,2773480762,1359893119,2600822924,528734635,1541459225]
def SIG : List (List Nat):=[
 [0,1,2,3,4,5,6,7,8,9,10,11,12,13,14,15],
 [14,10,4,8,9,15,13,6,1,12,0,2,11,7,5,3],
 [11,8,12,0,5,2,15,13,10,14,3,6,7,1,9,4],
 [7,9,3,1,13,12,11,14,2,6,5,10,4,0,15,8],
 [9,0,5,7,2,4,10,15,14,1,11,12,6,8,3,13],
 [2,12,6,10,0,11,8,3,4,13,7,5,15,14,1,9],
 [12,5,1,15,14,13,4,10,0,7,6,3,9,2,8,11],
 [13,11,7,14,12,1,3,9,5,0,15,4,8,6,2,10],
 [6,15,14,9,11,3,0,8,12,2,13,7,1,4,10,5],
 [10,2,8,4,7,6,1,5,15,11,9,14,3,12,13,0]]
def sg (k j : Nat) : Nat:=(SIG.getD k []).getD j 0
def le32 (a b c d : UInt8) : UInt32:=UInt32.ofNat (a.toNat + 256 * b.toNat + 65536 * c.toNat + 16777216 * d.toNat)
def words (wt : List UInt8) : List UInt32:=(List.range 16).map fun i => le32 (wt.getD (4 * i) 0) (wt.getD (4 * i + 1) 0) (wt.getD (4 * i + 2) 0) (wt.getD (4 * i + 3) 0)
def round (m : List UInt32) (k : Nat) (v0 : List UInt32) : List UInt32 :=
 let v1:=mixL v0 0 4 8 12 (m.getD (sg k 0) 0) (m.getD (sg k 1) 0)
 let v2:=mixL v1 1 5 9 13 (m.getD (sg k 2) 0) (m.getD (sg k 3) 0)
 let v3:=mixL v2 2 6 10 14 (m.getD (sg k 4) 0) (m.getD (sg k 5) 0)
 let v4:=mixL v3 3 7 11 15 (m.getD (sg k 6) 0) (m.getD (sg k 7) 0)
 let v5:=mixL v4 0 5 10 15 (m.getD (sg k 8) 0) (m.getD (sg k 9) 0)
 let v6:=mixL v5 1 6 11 12 (m.getD (sg k 10) 0) (m.getD (sg k 11) 0)
 let v7:=mixL v6 2 7 8 13 (m.getD (sg k 12) 0) (m.getD (sg k 13) 0)
 mixL v7 3 4 9 14 (m.getD (sg k 14) 0) (m.getD (sg k 15) 0)
def rounds (m v : List UInt32) : Nat → List UInt32
 | 0 => v
 | k + 1 => round m k (rounds m v k)
def vstart (h : List UInt32) (n : Nat) : List UInt32 :=
 let v:=h ++ IV
 let v1:=v.set 12 (ux (v.getD 12 0) (UInt32.ofNat n))
 v1.set 13 (ux (v1.getD 13 0) (UInt32.ofNat (n / 4294967296)))
def vlast (v : List UInt32) (last : Bool) : List UInt32:=if last then v.set 14 (~~~ (v.getD 14 0)) else v
def takeL (h : List UInt32) (wt : List UInt8) (n : Nat) (last : Bool) : List UInt32 :=
 let v:=rounds (words wt) (vlast (vstart h n) last) 10
 (List.range 8).map fun i => ux (h.getD i 0) (ux (v.getD i 0) (v.getD (i + 8) 0))
end Go.Proofs.YtmmfcjkabpffeaaGreatDoor
namespace Go.Proofs.YtmmfcjkabpffeaaGreatDoor
open Go.RowKit
section
variable {P : Program}
theorem run_loadVar_at (w : World) (ad : Addr) (ty : TypeId) (cs : List Value) (d : TypeDesc) (hc : ∀ j v,cs[j]? = some v → w.cell? (ad.add j) = some v)
  (hu : P.underlying ty = some d) (hd : (match d with | .struct _ | .array _ _ => true | _ => false) = true) (hi : (P.info? ty).map (·.size) = some cs.length) :
  (loadVar ty ad).run P w = .ok (.agg cs.toArray) w:=by
 have hl : (loadCells ad cs.length).run P w = .ok cs.toArray w:=run_loadCells_list (P:=P) w ad cs hc;cases hq : P.info? ty with
 | none => simp [hq] at hi
 | some i => have hs : i.size = cs.length:=(by simpa [hq] using hi);have hagg : (isAgg ty).run P w = .ok true w:=(by unfold isAgg;rw [Sem.run_bind,run_underlying hu w];cases d <;> simp_all);simp [loadVar,Sem.run_bind,hagg,sizeOf,typeInfo,hq,hs,hl]
theorem wpList_load_at {ops : Array Oper} {rest : List Oper} {o : Oper} {a : Act} {w : World} {Q : Exit → Act → World → Prop} (hgd : o.guard = none) (ty : TypeId) (x : Operand) (ho : o.op = .load ty x)
  (ad : Addr) (hx : a.eval x = .pointer (some ad)) (cs : List Value) (d : TypeDesc) (hc : ∀ j v,cs[j]? = some v → w.cell? (ad.add j) = some v)
  (hu : P.underlying ty = some d) (hd : (match d with | .struct _ | .array _ _ => true | _ => false) = true) (hi : (P.info? ty).map (·.size) = some cs.length)
  (h : wpList P ops Q rest (a.put o.dst (.agg cs.toArray)) w) : wpList P ops Q (o :: rest) a w :=
 wpList_plain hgd fun _ hK => by
  unfold Oper.wp execOp;simp only [ho,hx,Instr.loadAt,Instr.sureAddr,Sem.run_bind,Sem.run_pure,Result.andThen_ok,run_loadVar_at w ad ty cs d hc hu hd hi];exact hK _ _ h
theorem run_index_ints (w : World) (t e : TypeId) (n : Nat) (cs : Array Value) (k k' : IntKind) (i : Nat) (v : Value) (h : P.underlying t = some (.array n e)) (he : P.underlying e = some (.int k')) (hs : (P.info? e).map (·.size) = some 1)
  (hi : i < n) (hv : cs[i]? = some v) : (Instr.index t (.agg cs) (.int k (i : Int))).run P w = .ok v w:=by
 have hin : (0 : Int) ≤ (i : Int) ∧ (i : Int) < (n : Int):=(by omega);cases hq : P.info? e with
 | none => simp [hq] at hs
 | some j => have hj : j.size = 1:=(by simpa [hq] using hs);have hagg : (isAgg e).run P w = .ok false w:=(by unfold isAgg;rw [Sem.run_bind,run_underlying he w];simp);simp [Instr.index,run_underlying h,asIntOf,hin,sizeOf,typeInfo,hq,hj,part,hagg,hv,go_sem];intro hh;omega
end
end Go.Proofs.YtmmfcjkabpffeaaGreatDoor
namespace Go.Proofs.YtmmfcjkabpffeaaGreatDoor
open Go.RowKit
section
variable {P : Program}
theorem run_storeVar_at (w : World) (ty : TypeId) (g off : Nat) (cs : List Value) (hi : (P.info? ty).map (·.size) = some cs.length)
  (cur : List Value) (t : TypeId) (hg : Whole w g t cur.toArray) (hfit : off + cs.length ≤ cur.length) (h1 : ∀ v ∈ cs,v.oneCell' = true) :
  (storeVar ty ⟨g,off,none⟩ (.agg cs.toArray)).run P w = .ok () (w.setRow g (cur.take off ++ (cs ++ cur.drop (off + cs.length))).toArray):=by
 cases hq : P.info? ty with
 | none => simp [hq] at hi
 | some i => have hs : i.size = cs.length:=(by simpa [hq] using hi);have hrun:=run_storeCells_at (P:=P) g off t cs 0 cur.toArray w hg (by simpa using hfit) h1;simp only [Nat.add_zero,List.append_assoc] at hrun;simp [storeVar,sizeOf,typeInfo,hq,hs,Value.cells,hrun]
theorem wpList_store_at {ops : Array Oper} {rest : List Oper} {o : Oper} {a : Act} {w : World} {Q : Exit → Act → World → Prop} (hgd : o.guard = none) (ty : TypeId) (x y : Operand) (ho : o.op = .store ty x y) (hdst : o.dst = none)
  (g off : Nat) (hx : a.eval x = .pointer (some ⟨g,off,none⟩)) (cs : List Value) (hy : a.eval y = .agg cs.toArray) (hi : (P.info? ty).map (·.size) = some cs.length)
  (cur : List Value) (t : TypeId) (hg : Whole w g t cur.toArray) (hfit : off + cs.length ≤ cur.length) (h1 : ∀ v ∈ cs,v.oneCell' = true)
  (h : ∀ w',Hid (Whole w' g t (cur.take off ++ (cs ++ cur.drop (off + cs.length))).toArray) → Hid (w.grownBy w' (some g)) → wpList P ops Q rest a w') : wpList P ops Q (o :: rest) a w :=
 wpList_plain hgd fun _ hK => by
  have hrun:=run_storeVar_at w ty g off cs hi cur t hg hfit h1;have hw' : Whole (w.setRow g (cur.take off ++ (cs ++ cur.drop (off + cs.length))).toArray) g t (cur.take off ++ (cs ++ cur.drop (off + cs.length))).toArray:=setRow_heap w g _ _ t _ hg
  have hf : w.grownBy (w.setRow g (cur.take off ++ (cs ++ cur.drop (off + cs.length))).toArray) (some g) :=
   ⟨rfl,rfl,rfl,by simp [World.setRow],fun j _ hne => by simp only [World.setRow,Array.getElem?_modify];rw [if_neg (fun e => hne (by rw [e]))]⟩
  have hk:=hK _ _ (h _ (jj hw') (jj hf));unfold Oper.wp execOp;simp only [ho,hx,hy,Instr.storeAt,Instr.sureAddr,Sem.run_bind,Sem.run_pure,Result.andThen_ok,hrun]
  simpa [Oper.upon,Act.put,hdst] using hk
end
end Go.Proofs.YtmmfcjkabpffeaaGreatDoor
namespace Go.Proofs.YtmmfcjkabpffeaaGreatDoor
open Go.RowKit
section
variable {P : Program}
theorem setRow_whole {w : World} {g : Nat} {t : TypeId} {cur : Array Value} (hg : Whole w g t cur) (cs : Array Value) : Whole (w.setRow g cs) g t cs:=setRow_heap w g _ _ t _ hg
theorem setRow_only (w : World) (g : Nat) (cs : Array Value) : w.grownBy (w.setRow g cs) (some g) :=
 ⟨rfl,rfl,rfl,by simp [World.setRow],fun j _ hne => by simp only [World.setRow,Array.getElem?_modify];rw [if_neg (fun e => hne (by rw [e]))]⟩
end
end Go.Proofs.YtmmfcjkabpffeaaGreatDoor
namespace Go.Proofs.YtmmfcjkabpffeaaGreatDoor
open Go.RowKit
def blk (s : List UInt8) (k : Nat) : List UInt8:=(s.drop (64 * k)).take 64
def hq (hs : List UInt32) (s : List UInt8) : Nat → List UInt32
 | 0 => hs
 | k + 1 => takeL (hq hs s k) (blk s k) (64 * (k + 1)) false
def ahead (s : List UInt8) : Nat:=(s.length - 1) / 64
end Go.Proofs.YtmmfcjkabpffeaaGreatDoor
