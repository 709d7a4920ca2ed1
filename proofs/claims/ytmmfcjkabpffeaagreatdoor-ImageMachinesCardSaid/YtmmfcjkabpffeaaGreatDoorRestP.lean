import Derived.Test.YtmmfcjkabpffeaaGreatDoorNumG
import Derived.Test.YtmmfcjkabpffeaaGreatDoorRowD
import Derived.Test.YtmmfcjkabpffeaaGreatDoorPlnA
namespace Go.Proofs.YtmmfcjkabpffeaaGreatDoor
open Go.RowKit
def flagL (b : Bool) : List UInt8:=if b = true then [49] else [48]
def byteOf (n : Int) : UInt8:=UInt8.ofNat (n % 256).toNat
def u64Of (n : Int) : Nat:=(n % 18446744073709551616).toNat
def nbRow (p : Nb) : List UInt8:=rowB [Lib.itoa p.1,p.2]
def nbsRow (l : List Nb) : List UInt8:=rowB (l.map nbRow)
def regB (r : Int) : List UInt8:=putL r.toNat 4
def cpuB (p : Pr) : List UInt8:=p.regs.flatMap regB ++ regB p.pc
def pgB (g : Pg) : List UInt8:=if g.is = true then (if g.wr = true then [2,byteOf g.frame] else [1,byteOf g.frame]) else [0,0]
def flB (f : Fl) : List UInt8:=byteOf f.kind :: (putL (u64Of f.n) 8 ++ putL (u64Of f.pos) 8)
def procL (p : Pr) : List (List UInt8):=[Lib.itoa p.pid,Lib.itoa p.parent,Lib.itoa p.state,cpuB p,p.space.flatMap pgB,p.fds.flatMap flB,flagL p.mask,putL p.code.toNat 4,Lib.itoa p.why,putL p.n.toNat 8]
def procRow (p : Pr) : List UInt8:=rowB (procL p)
def procsRow (l : List Pr) : List UInt8:=rowB (l.map procRow)
def mark2 : List UInt8:=[104,105,98,50]
def restL (m : Mc) : List (List UInt8) :=
 [mark2,putL m.clock.toNat 8,Lib.itoa m.quantum,Lib.itoa m.cur,Lib.itoa m.left,Lib.itoa m.next,m.init,Lib.itoa m.newPipe,m.inp,flagL m.fin,putL m.told.toNat 8,Lib.itoa m.dleft,nbsRow m.pend,nbsRow m.dirty,nbsRow m.pipes,procsRow m.procs]
def restB (m : Mc) : List UInt8:=rowB (restL m)
theorem flagL_length (b : Bool) : (flagL b).length = 1:=by cases b <;> rfl
theorem regs_length (l : List Int) : (l.flatMap regB).length = 4 * l.length:=by
 induction l with
 | nil => rfl
 | cons a l ih => rw [List.flatMap_cons,List.length_append,ih];simp [regB,putL_length];omega
theorem pgB_length (g : Pg) : (pgB g).length = 2:=by unfold pgB;split <;> (try split) <;> rfl
theorem pgs_length (l : List Pg) : (l.flatMap pgB).length = 2 * l.length:=by
 induction l with
 | nil => rfl
 | cons a l ih => rw [List.flatMap_cons,List.length_append,ih,pgB_length];simp;omega
theorem flB_length (f : Fl) : (flB f).length = 17:=by unfold flB;simp [putL_length]
theorem fls_length (l : List Fl) : (l.flatMap flB).length = 17 * l.length:=by
 induction l with
 | nil => rfl
 | cons a l ih => rw [List.flatMap_cons,List.length_append,ih,flB_length];simp;omega
structure RestOk (m : Mc) : Prop where
 init : m.init.length ≤ 65536
 inp : m.inp.length ≤ 65536
 pend : m.pend.length ≤ 4096 ∧ ∀ p ∈ m.pend,p.2.length ≤ 4096
 dirty : m.dirty.length ≤ 4096 ∧ ∀ p ∈ m.dirty,p.2.length ≤ 4096
 pipes : m.pipes.length ≤ 4096 ∧ ∀ p ∈ m.pipes,p.2.length ≤ 4096
 procs : m.procs.length ≤ 4096
theorem sizeOf_cons (x : List UInt8) (l : List (List UInt8)) : sizeOf (x :: l) = 4 + x.length + sizeOf l:=by simp [sizeOf]
theorem sizeOf_nil : sizeOf [] = 0:=rfl
theorem sizeOf_map_le {α : Type} (f : α → List UInt8) (b : Nat) : ∀ (l : List α),(∀ x ∈ l,(f x).length ≤ b) → sizeOf (l.map f) ≤ l.length * (4 + b)
 | [],_ => by simp [sizeOf]
 | x :: l,h => by
  have h1:=h x (by simp);have h2:=sizeOf_map_le f b l fun y hy => h y (by simp [hy]);rw [List.map_cons,sizeOf_cons,List.length_cons,Nat.add_mul];omega
theorem nb_size {p : Nb} (h1 : inI p.1) (h2 : p.2.length ≤ 4096) : sizeOf [Lib.itoa p.1,p.2] ≤ 4124:=by
 have:=itoa_len h1;rw [sizeOf_cons,sizeOf_cons,sizeOf_nil];omega
theorem nbRow_le {p : Nb} (h1 : inI p.1) (h2 : p.2.length ≤ 4096) : (nbRow p).length ≤ 8248:=by
 have h:=nb_size h1 h2;have:=rowB_le [Lib.itoa p.1,p.2] (by omega);unfold nbRow;omega
theorem nbs_size {l : List Nb} (hl : l.length ≤ 4096) (h1 : ∀ p ∈ l,inI p.1) (h2 : ∀ p ∈ l,p.2.length ≤ 4096) : sizeOf (l.map nbRow) ≤ 33800192:=by
 have:=sizeOf_map_le nbRow 8248 l fun p hp => nbRow_le (h1 p hp) (h2 p hp);have h3 : l.length * (4 + 8248) ≤ 4096 * (4 + 8248):=Nat.mul_le_mul_right _ hl;omega
theorem nbsRow_le {l : List Nb} (hl : l.length ≤ 4096) (h1 : ∀ p ∈ l,inI p.1) (h2 : ∀ p ∈ l,p.2.length ≤ 4096) : (nbsRow l).length ≤ 67600384:=by
 have h:=nbs_size hl h1 h2;have:=rowB_le (l.map nbRow) (by omega);unfold nbsRow;omega
theorem proc_size {p : Pr} (h : PrOk p) : sizeOf (procL p) ≤ 400:=by
 have e1 : (cpuB p).length = 68:=(by unfold cpuB;rw [List.length_append,regs_length,h.regs];simp [regB,putL_length]);have e2 : (p.space.flatMap pgB).length = 32:=(by rw [pgs_length,h.space]);have e3 : (p.fds.flatMap flB).length = 136:=(by rw [fls_length,h.fds]);have i1 : (Lib.itoa p.pid).length ≤ 20:=itoa_len h.pid;have i2 : (Lib.itoa p.parent).length ≤ 20:=itoa_len h.parent;have i3 : (Lib.itoa p.state).length ≤ 20:=itoa_len h.state;have i4 : (Lib.itoa p.why).length ≤ 20:=itoa_len h.why;unfold procL;simp only [sizeOf_cons,sizeOf_nil,e1,e2,e3,flagL_length,putL_length];generalize (Lib.itoa p.pid).length = q1 at *;generalize (Lib.itoa p.parent).length = q2 at *;generalize (Lib.itoa p.state).length = q3 at *;generalize (Lib.itoa p.why).length = q4 at *;omega
theorem procRow_le {p : Pr} (h : PrOk p) : (procRow p).length ≤ 800:=by
 have h1:=proc_size h;have:=rowB_le (procL p) (by omega);unfold procRow;omega
theorem procs_size {l : List Pr} (hl : l.length ≤ 4096) (h : ∀ p ∈ l,PrOk p) : sizeOf (l.map procRow) ≤ 3293184:=by
 have:=sizeOf_map_le procRow 800 l fun p hp => procRow_le (h p hp);have h3 : l.length * (4 + 800) ≤ 4096 * (4 + 800):=Nat.mul_le_mul_right _ hl;omega
theorem procsRow_le {l : List Pr} (hl : l.length ≤ 4096) (h : ∀ p ∈ l,PrOk p) : (procsRow l).length ≤ 6586368:=by
 have h1:=procs_size hl h;have:=rowB_le (l.map procRow) (by omega);unfold procsRow;omega
theorem rest_size {m : Mc} (hm : McOk m) (h : RestOk m) : sizeOf (restL m) ≤ 1073741824:=by
 have i1 : (Lib.itoa m.quantum).length ≤ 20:=itoa_len hm.quantum;have i2 : (Lib.itoa m.cur).length ≤ 20:=itoa_len hm.cur;have i3 : (Lib.itoa m.left).length ≤ 20:=itoa_len hm.left;have i4 : (Lib.itoa m.next).length ≤ 20:=itoa_len hm.next;have i5 : (Lib.itoa m.newPipe).length ≤ 20:=itoa_len hm.newPipe;have i6 : (Lib.itoa m.dleft).length ≤ 20:=itoa_len hm.dleft;have n1:=nbsRow_le h.pend.1 hm.pend h.pend.2;have n2:=nbsRow_le h.dirty.1 hm.dirty h.dirty.2;have n3:=nbsRow_le h.pipes.1 hm.pipes h.pipes.2;have n4:=procsRow_le h.procs hm.procs;have a1:=h.init;have a2:=h.inp;have a3 : mark2.length = 4:=rfl;unfold restL;simp only [sizeOf_cons,sizeOf_nil,flagL_length,putL_length,a3];generalize (Lib.itoa m.quantum).length = q1 at *;generalize (Lib.itoa m.cur).length = q2 at *;generalize (Lib.itoa m.left).length = q3 at *;generalize (Lib.itoa m.next).length = q4 at *;generalize (Lib.itoa m.newPipe).length = q5 at *;generalize (Lib.itoa m.dleft).length = q6 at *;generalize (nbsRow m.pend).length = q7 at *;generalize (nbsRow m.dirty).length = q8 at *;generalize (nbsRow m.pipes).length = q9 at *;generalize (procsRow m.procs).length = q10 at *;generalize m.init.length = q11 at *;generalize m.inp.length = q12 at *;clear a3 hm h
 grind
end Go.Proofs.YtmmfcjkabpffeaaGreatDoor
