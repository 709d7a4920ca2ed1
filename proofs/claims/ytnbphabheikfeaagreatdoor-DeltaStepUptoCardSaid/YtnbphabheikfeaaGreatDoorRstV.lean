import Derived.Test.YtnbphabheikfeaaGreatDoorNumG
import Derived.Test.YtnbphabheikfeaaGreatDoorDecX
import Derived.Test.YtnbphabheikfeaaGreatDoorPlnM
namespace Go.Proofs.YtnbphabheikfeaaGreatDoor
open Go.RowKit
def flagL (b : Bool) : List UInt8:=if b = true then [49] else [48]
def byteOf (n : Int) : UInt8:=UInt8.ofNat (n % 256).toNat
def u64Of (n : Int) : Nat:=(n % 18446744073709551616).toNat
def nbRow (p : Nb) : List UInt8:=rowB [Lib.itoa p.1,p.2]
def nbsRow (l : List Nb) : List UInt8:=rowB (l.map nbRow)
def regB (r : Int) : List UInt8:=putL r.toNat 4
def cpuB (p : Pr) : List UInt8:=p.regs.flatMap regB ++ regB p.pc
def pgB (g : Pg) : List UInt8:=if g.is = true then (if g.wr = true then [2,byteOf g.frame] else [1,byteOf g.frame]) else [0,0]
def flB (f : Fl) : List UInt8:=byteOf f.kind :: (putL (u64Of f.n) 8 ++ putL (u64Of f.pos) 8)
def procL (p : Pr) : List (List UInt8):=[Lib.itoa p.pid,Lib.itoa p.parent,Lib.itoa p.state,cpuB p,p.space.flatMap pgB,p.fds.flatMap flB,flagL p.mask,putL p.code.toNat 4,Lib.itoa p.why,putL p.n.toNat 8]
def procRow (p : Pr) : List UInt8:=rowB (procL p)
def procsRow (l : List Pr) : List UInt8:=rowB (l.map procRow)
def mark2 : List UInt8:=[104,105,98,50]
def restL (m : Mc) : List (List UInt8) :=
 [mark2,putL m.clock.toNat 8,Lib.itoa m.quantum,Lib.itoa m.cur,Lib.itoa m.left,Lib.itoa m.next,m.init,Lib.itoa m.newPipe,m.inp,flagL m.fin,putL m.told.toNat 8,Lib.itoa m.dleft,nbsRow m.pend,nbsRow m.dirty,nbsRow m.pipes,procsRow m.procs]
def restB (m : Mc) : List UInt8:=rowB (restL m)
theorem flagL_length (b : Bool) : (flagL b).length = 1:=by cases b <;> rfl
theorem regs_length (l : List Int) : (l.flatMap regB).length = 4 * l.length:=by
 induction l with
 | nil => rfl
 | cons a l ih => rw [List.flatMap_cons,List.length_append,ih];simp [regB,putL_length];omega
theorem pgB_length (g : Pg) : (pgB g).length = 2:=by unfold pgB;split <;> (try split) <;> rfl
theorem pgs_length (l : List Pg) : (l.flatMap pgB).length = 2 * l.length:=by
 induction l with
 | nil => rfl
 | cons a l ih => rw [List.flatMap_cons,List.length_append,ih,pgB_length];simp;omega
theorem flB_length (f : Fl) : (flB f).length = 17:=by unfold flB;simp [putL_length]
theorem fls_length (l : List Fl) : (l.flatMap flB).length = 17 * l.length:=by
 induction l with
 | nil => rfl
 | cons a l ih => rw [List.flatMap_cons,List.length_append,ih,flB_length];simp;omega
structure RestOk (m : Mc) : Prop where
 init : m.init.length ≤ 65536
 inp : m.inp.length ≤ 65536
 pend : m.pend.length ≤ 4096 ∧ ∀ p ∈ m.pend,p.2.length ≤ 4096
 dirty : m.dirty.length ≤ 4096 ∧ ∀ p ∈ m.dirty,p.2.length ≤ 4096
 pipes : m.pipes.length ≤ 4096 ∧ ∀ p ∈ m.pipes,p.2.length ≤ 4096
 procs : m.procs.length ≤ 4096
theorem sizeOf_cons (x : List UInt8) (l : List (List UInt8)) : sizeOf (x :: l) = 4 + x.length + sizeOf l:=by simp [sizeOf]
theorem sizeOf_nil : sizeOf [] = 0:=rfl
theorem sizeOf_map_le {α : Type} (f : α → List UInt8) (b : Nat) : ∀ (l : List α),(∀ x ∈ l,(f x).length ≤ b) → sizeOf (l.map f) ≤ l.length * (4 + b)
 | [],_ => by simp [sizeOf]
 | x :: l,h => by
  have h1:=h x (by simp);have h2:=sizeOf_map_le f b l fun y hy => h y (by simp [hy]);rw [List.map_cons,sizeOf_cons,List.length_cons,Nat.add_mul];omega
theorem nb_size {p : Nb} (h1 : inI p.1) (h2 : p.2.length ≤ 4096) : sizeOf [Lib.itoa p.1,p.2] ≤ 4124:=by
 have:=itoa_len h1;rw [sizeOf_cons,sizeOf_cons,sizeOf_nil];omega
theorem nbRow_le {p : Nb} (h1 : inI p.1) (h2 : p.2.length ≤ 4096) : (nbRow p).length ≤ 8248:=by
 have h:=nb_size h1 h2;have:=rowB_le [Lib.itoa p.1,p.2] (by omega);unfold nbRow;omega
theorem nbs_size {l : List Nb} (hl : l.length ≤ 4096) (h1 : ∀ p ∈ l,inI p.1) (h2 : ∀ p ∈ l,p.2.length ≤ 4096) : sizeOf (l.map nbRow) ≤ 33800192:=by
 have:=sizeOf_map_le nbRow 8248 l fun p hp => nbRow_le (h1 p hp) (h2 p hp);have h3 : l.length * (4 + 8248) ≤ 4096 * (4 + 8248):=Nat.mul_le_mul_right _ hl;omega
theorem nbsRow_le {l : List Nb} (hl : l.length ≤ 4096) (h1 : ∀ p ∈ l,inI p.1) (h2 : ∀ p ∈ l,p.2.length ≤ 4096) : (nbsRow l).length ≤ 67600384:=by
 have h:=nbs_size hl h1 h2;have:=rowB_le (l.map nbRow) (by omega);unfold nbsRow;omega
theorem proc_size {p : Pr} (h : PrOk p) : sizeOf (procL p) ≤ 400:=by
 have e1 : (cpuB p).length = 68:=(by unfold cpuB;rw [List.length_append,regs_length,h.regs];simp [regB,putL_length]);have e2 : (p.space.flatMap pgB).length = 32:=(by rw [pgs_length,h.space]);have e3 : (p.fds.flatMap flB).length = 136:=(by rw [fls_length,h.fds]);have i1 : (Lib.itoa p.pid).length ≤ 20:=itoa_len h.pid;have i2 : (Lib.itoa p.parent).length ≤ 20:=itoa_len h.parent;have i3 : (Lib.itoa p.state).length ≤ 20:=itoa_len h.state;have i4 : (Lib.itoa p.why).length ≤ 20:=itoa_len h.why;unfold procL;simp only [sizeOf_cons,sizeOf_nil,e1,e2,e3,flagL_length,putL_length];generalize (Lib.itoa p.pid).length = q1 at *;generalize (Lib.itoa p.parent).length = q2 at *;generalize (Lib.itoa p.state).length = q3 at *;generalize (Lib.itoa p.why).length = q4 at *;omega
theorem procRow_le {p : Pr} (h : PrOk p) : (procRow p).length ≤ 800:=by
 have h1:=proc_size h;have:=rowB_le (procL p) (by omega);unfold procRow;omega
theorem procs_size {l : List Pr} (hl : l.length ≤ 4096) (h : ∀ p ∈ l,PrOk p) : sizeOf (l.map procRow) ≤ 3293184:=by
 have:=sizeOf_map_le procRow 800 l fun p hp => procRow_le (h p hp);have h3 : l.length * (4 + 800) ≤ 4096 * (4 + 800):=Nat.mul_le_mul_right _ hl;omega
theorem procsRow_le {l : List Pr} (hl : l.length ≤ 4096) (h : ∀ p ∈ l,PrOk p) : (procsRow l).length ≤ 6586368:=by
 have h1:=procs_size hl h;have:=rowB_le (l.map procRow) (by omega);unfold procsRow;omega
theorem rest_size {m : Mc} (hm : McOk m) (h : RestOk m) : sizeOf (restL m) ≤ 1073741824:=by
 have i1 : (Lib.itoa m.quantum).length ≤ 20:=itoa_len hm.quantum;have i2 : (Lib.itoa m.cur).length ≤ 20:=itoa_len hm.cur;have i3 : (Lib.itoa m.left).length ≤ 20:=itoa_len hm.left;have i4 : (Lib.itoa m.next).length ≤ 20:=itoa_len hm.next;have i5 : (Lib.itoa m.newPipe).length ≤ 20:=itoa_len hm.newPipe;have i6 : (Lib.itoa m.dleft).length ≤ 20:=itoa_len hm.dleft;have n1:=nbsRow_le h.pend.1 hm.pend h.pend.2;have n2:=nbsRow_le h.dirty.1 hm.dirty h.dirty.2;have n3:=nbsRow_le h.pipes.1 hm.pipes h.pipes.2;have n4:=procsRow_le h.procs hm.procs;have a1:=h.init;have a2:=h.inp;have a3 : mark2.length = 4:=rfl;unfold restL;simp only [sizeOf_cons,sizeOf_nil,flagL_length,putL_length,a3];generalize (Lib.itoa m.quantum).length = q1 at *;generalize (Lib.itoa m.cur).length = q2 at *;generalize (Lib.itoa m.left).length = q3 at *;generalize (Lib.itoa m.next).length = q4 at *;generalize (Lib.itoa m.newPipe).length = q5 at *;generalize (Lib.itoa m.dleft).length = q6 at *;generalize (nbsRow m.pend).length = q7 at *;generalize (nbsRow m.dirty).length = q8 at *;generalize (nbsRow m.pipes).length = q9 at *;generalize (procsRow m.procs).length = q10 at *;generalize m.init.length = q11 at *;generalize m.inp.length = q12 at *;clear a3 hm h
 grind
end Go.Proofs.YtnbphabheikfeaaGreatDoor
namespace Go.Proofs.YtnbphabheikfeaaGreatDoor
open Go.RowKit
def geo0 : List Int:=[0,0,0,0,0,0]
def planE (b i : Int) : Int:=if b < 16 ∨ 223 < b ∨ i < 4 ∨ 64 < i then 2 else if b ≤ 3 + (i + 1) / 2 then 10 else 0
def planL (b i : Int) : List Int:=if planE b i = 0 then [b,i,1,2,3,3 + (i + 1) / 2] else geo0
theorem planE_zero {b i : Int} : planE b i = 0 ↔ 16 ≤ b ∧ b ≤ 223 ∧ 4 ≤ i ∧ i ≤ 64 ∧ 3 + (i + 1) / 2 < b:=by
 unfold planE;by_cases h : b < 16 ∨ 223 < b ∨ i < 4 ∨ 64 < i
 ·rw [if_pos h];simp;omega
 ·rw [if_neg h];by_cases h2 : b ≤ 3 + (i + 1) / 2
  ·rw [if_pos h2];simp;omega
  ·rw [if_neg h2];simp;omega
theorem planL_six (b i : Int) : ∃ g0 g1 g2 g3 g4 g5,planL b i = [g0,g1,g2,g3,g4,g5]:=by
 unfold planL;split
 ·exact ⟨_,_,_,_,_,_,rfl⟩
 ·exact ⟨_,_,_,_,_,_,rfl⟩
def geoV (l : List Int) : List Value:=l.map fun n => .int .i64 n
def headL (b i : Nat) : List UInt8:=[104,105,98,49] ++ putL b 2 ++ putL i 2 ++ List.replicate 120 0
def bitB (s : List UInt8) (i : Nat) : Bool:=(s.getD (i / 8) 0).toNat / 2 ^ (i % 8) % 2 == 1
def mapB (s : List UInt8) (d b : Int) (i : Nat) : Bool:=!(decide ((i : Int) < d) && !bitB s i) && !(decide (b ≤ (i : Int)) && bitB s i)
def mapAll (s : List UInt8) (d b : Int) (k : Nat) : Bool:=(List.range k).all (mapB s d b)
theorem mapAll_succ (s : List UInt8) (d b : Int) (k : Nat) : mapAll s d b (k + 1) = (mapAll s d b k && mapB s d b k):=by
 unfold mapAll;rw [List.range_succ,List.all_append];simp
theorem mapAll_bad {s : List UInt8} {d b : Int} {k n : Nat} (hk : k < n) (h : mapB s d b k = false) : mapAll s d b n = false:=by
 unfold mapAll;rw [← Bool.not_eq_true,List.all_eq_true];intro h2;rw [h2 k (List.mem_range.2 hk)] at h;cases h
def inoL (v : List (List UInt8)) : Nat:=getL (((v.getD 0 []).drop 6).take 2)
def blkL (v : List (List UInt8)) : Nat:=getL (((v.getD 0 []).drop 4).take 2)
def geomB (v : List (List UInt8)) : Bool :=
 v.all is128 && decide (16 ≤ v.length) && decide (planE v.length (inoL v) = 0) && decide (v.getD 0 [] = headL v.length (inoL v)) && mapAll (v.getD 2 []) (3 + ((inoL v : Int) + 1) / 2) v.length 1024
def geomE (v : List (List UInt8)) : Int:=if geomB v = true then 0 else 3
def geomL (v : List (List UInt8)) : List Int:=if geomB v = true then planL v.length (inoL v) else geo0
theorem putL_two (n : Nat) : putL n 2 = [UInt8.ofNat (n % 256),UInt8.ofNat (n / 256 % 256)]:=by simp [putL,List.range_succ]
theorem getL_putL_two {n : Nat} (h : n < 65536) : getL (putL n 2) = n:=by
 rw [putL_two];simp [getL,getF];omega
theorem headL_blk {b i : Nat} (hb : b < 65536) : getL (((headL b i).drop 4).take 2) = b:=by
 rw [show ((headL b i).drop 4).take 2 = putL b 2 by simp [headL,putL_two]];exact getL_putL_two hb
end Go.Proofs.YtnbphabheikfeaaGreatDoor
namespace Go.Proofs.YtnbphabheikfeaaGreatDoor
open Go.RowKit
def dirtyR (n : Nat) : Int → List Nb → Bool
 | _,[] => true
 | last,p :: l => decide (last < p.1) && decide (p.1 < (n : Int)) && decide (p.2.length = 128) && dirtyR n p.1 l
theorem dirtyR_ok {n : Nat} {last : Int} {p : Nb} {l : List Nb} (h1 : last < p.1) (h2 : p.1 < (n : Int)) (h3 : p.2.length = 128) : dirtyR n last (p :: l) = dirtyR n p.1 l:=by
 show (decide (last < p.1) && decide (p.1 < (n : Int)) && decide (p.2.length = 128) && dirtyR n p.1 l) = _;simp [h1,h2,h3]
theorem dirtyR_bad {n : Nat} {last : Int} {p : Nb} {l : List Nb} (h : ¬ (last < p.1 ∧ p.1 < (n : Int) ∧ p.2.length = 128)) : dirtyR n last (p :: l) = false:=by
 show (decide (last < p.1) && decide (p.1 < (n : Int)) && decide (p.2.length = 128) && dirtyR n p.1 l) = _;rw [← Bool.not_eq_true];simp only [Bool.and_eq_true,decide_eq_true_eq];exact fun h' => h ⟨h'.1.1.1,h'.1.1.2,h'.1.2⟩
def setB (v : List (List UInt8)) (p : Nb) : List (List UInt8):=if 0 ≤ p.1 ∧ p.1 < (v.length : Int) then v.set p.1.toNat p.2 else v
theorem setB_length (v : List (List UInt8)) (p : Nb) : (setB v p).length = v.length:=by unfold setB;split <;> simp
def volL (m : Mc) : List (List UInt8):=m.dirty.foldl setB (homeD m.blocks m.pend)
def volE (m : Mc) : Int :=
 if driveE m.blocks m.pend ≠ 0 then driveE m.blocks m.pend
 else if homeD m.blocks m.pend = [] then 3
 else if 32 < m.dirty.length then 6
 else if dirtyR (homeD m.blocks m.pend).length (-1) m.dirty = true then geomE (volL m) else 3
def checkE (m : Mc) : Int :=
 if numsE m ≠ 0 then numsE m else if framesE m ≠ 0 then framesE m else if procsE m ≠ 0 then procsE m else if pipesE m ≠ 0 then pipesE m else if textsE m ≠ 0 then textsE m else volE m
theorem geomL_length (v : List (List UInt8)) : (geomL v).length = 6:=by
 unfold geomL;split
 ·obtain ⟨_,_,_,_,_,_,h⟩:=planL_six (v.length : Int) (inoL v);rw [h];rfl
 ·rfl
end Go.Proofs.YtnbphabheikfeaaGreatDoor
namespace Go.Proofs.YtnbphabheikfeaaGreatDoor
open Go.RowKit
def usedP (s : List Pg) : List Int:=(s.filter fun g => g.is).map fun g => g.frame
def usersP (s : List Pg) (f : Int) : Nat:=(usedP s).count f
def usersL (l : List Pr) (f : Int) : Nat:=(l.flatMap fun p => usedP p.space).count f
theorem usersP_snoc {s : List Pg} {j : Nat} {g : Pg} (h : s[j]? = some g) (f : Int) : usersP (s.take (j + 1)) f = usersP (s.take j) f + if g.is = true ∧ g.frame = f then 1 else 0:=by
 obtain ⟨hj,rfl⟩:=List.getElem?_eq_some_iff.1 h;unfold usersP usedP;rw [List.take_succ_eq_append_getElem hj,List.filter_append,List.map_append,List.count_append];congr 1;cases hi : s[j].is
 ·simp [hi]
 ·simp [hi,List.count_singleton]
theorem usersL_snoc {l : List Pr} {k : Nat} {p : Pr} (h : l[k]? = some p) (f : Int) : usersL (l.take (k + 1)) f = usersL (l.take k) f + usersP p.space f:=by
 obtain ⟨hk,rfl⟩:=List.getElem?_eq_some_iff.1 h;unfold usersL usersP;rw [List.take_succ_eq_append_getElem hk,List.flatMap_append,List.count_append];simp
def livesAt (m : Mc) (pid : Int) : Bool:=m.procs.any fun q => q.pid == pid && livesB q
end Go.Proofs.YtnbphabheikfeaaGreatDoor
namespace Go.Proofs.YtnbphabheikfeaaGreatDoor
open Go.RowKit
theorem checkE_zero {m : Mc} (h : checkE m = 0) : numsE m = 0 ∧ framesE m = 0 ∧ procsE m = 0 ∧ pipesE m = 0 ∧ textsE m = 0 ∧ volE m = 0:=by
 unfold checkE at h;by_cases h1 : numsE m = 0
 ·rw [if_neg (by simp [h1])] at h;by_cases h2 : framesE m = 0
  ·rw [if_neg (by simp [h2])] at h;by_cases h3 : procsE m = 0
   ·rw [if_neg (by simp [h3])] at h;by_cases h4 : pipesE m = 0
    ·rw [if_neg (by simp [h4])] at h;by_cases h5 : textsE m = 0
     ·rw [if_neg (by simp [h5])] at h;exact ⟨h1,h2,h3,h4,h5,h⟩
     ·rw [if_pos h5] at h;exact absurd h h5
    ·rw [if_pos h4] at h;exact absurd h h4
   ·rw [if_pos h3] at h;exact absurd h h3
  ·rw [if_pos h2] at h;exact absurd h h2
 ·rw [if_pos h1] at h;exact absurd h h1
theorem texts_zero {m : Mc} (h : textsE m = 0) : m.inp.length ≤ 65536 ∧ m.init.length ≤ 128:=by
 unfold textsE at h;split at h
 ·cases h
 ·omega
theorem pipesB_all {n : Int} : ∀ {l : List Nb} {last : Int},pipesB n last l = true → ∀ p ∈ l,p.2.length ≤ 64
 | [],_,_,p,hp => by simp at hp
 | q :: l,last,h,p,hp => by
  unfold pipesB at h;simp only [Bool.and_eq_true,decide_eq_true_eq] at h;rcases List.mem_cons.1 hp with rfl | hp
  ·exact h.1.2
  ·exact pipesB_all h.2 p hp
theorem pipes_zero {m : Mc} (h : pipesE m = 0) : m.pipes.length ≤ 64 ∧ ∀ p ∈ m.pipes,p.2.length ≤ 64:=by
 unfold pipesE at h;split at h
 ·cases h
 ·split at h
  ·rename_i h1 h2;exact ⟨by omega,pipesB_all h2⟩
  ·cases h
theorem dirtyR_all {n : Nat} : ∀ {l : List Nb} {last : Int},dirtyR n last l = true → ∀ p ∈ l,p.2.length = 128
 | [],_,_,p,hp => by simp at hp
 | q :: l,last,h,p,hp => by
  unfold dirtyR at h;simp only [Bool.and_eq_true,decide_eq_true_eq] at h;rcases List.mem_cons.1 hp with rfl | hp
  ·exact h.1.2
  ·exact dirtyR_all h.2 p hp
theorem drive_zero {bl : List (List UInt8)} {pd : List Nb} (h : driveE bl pd = 0) : bl.length ≤ 256 ∧ (∀ l ∈ bl,l.length = 128) ∧ ∀ p ∈ pd,p.2.length = 128:=by
 unfold driveE at h;split at h
 ·cases h
 ·split at h
  ·rename_i h1 h2;refine ⟨by omega,fun l hl => ?_,fun p hp => (pendE_zero h p hp).2.2⟩;have:=List.all_eq_true.1 h2 l hl
   simpa [is128] using this
  ·cases h
theorem vol_zero {m : Mc} (h : volE m = 0) : driveE m.blocks m.pend = 0 ∧ m.dirty.length ≤ 32 ∧ ∀ p ∈ m.dirty,p.2.length = 128:=by
 unfold volE at h;by_cases h1 : driveE m.blocks m.pend = 0
 ·rw [if_neg (by simp [h1])] at h;split at h
  ·cases h
  ·split at h
   ·cases h
   ·split at h
    ·rename_i h2 h3 h4;exact ⟨h1,by omega,dirtyR_all h4⟩
    ·cases h
 ·rw [if_pos h1] at h;exact absurd h h1
theorem frames_zero {m : Mc} (h : framesE m = 0) : m.frames.length ≤ 64 ∧ ∀ l ∈ m.frames,l.length = 128:=by
 unfold framesE at h;split at h
 ·cases h
 ·split at h
  ·rename_i h1 h2;refine ⟨by omega,fun l hl => ?_⟩;have:=List.all_eq_true.1 h2 l hl
   simpa [is128] using this
  ·cases h
structure PrS (p : Pr) : Prop where
 space : ∀ g ∈ p.space,0 ≤ g.frame ∧ g.frame < 256 ∧ (g.is = false → g.wr = false ∧ g.frame = 0)
 fds : ∀ f ∈ p.fds,0 ≤ f.kind ∧ f.kind < 256
theorem pagesR_all {m : Mc} {p : Pr} (hf : m.frames.length ≤ 64) : ∀ {s : List Pg} {used : List Int},pagesR m p used s = true → ∀ g ∈ s,0 ≤ g.frame ∧ g.frame < 256 ∧ (g.is = false → g.wr = false ∧ g.frame = 0)
 | [],_,_,g,hg => by simp at hg
 | x :: s,used,h,g,hg => by
  unfold pagesR at h;simp only [Bool.and_eq_true] at h;rcases List.mem_cons.1 hg with rfl | hg
  ·have h1:=h.1;unfold pageB at h1;by_cases hi : g.is = true
   ·rw [if_pos hi] at h1;simp only [Bool.and_eq_true,decide_eq_true_eq] at h1;exact ⟨h1.1.1.2,by omega,fun e => by rw [hi] at e;cases e⟩
   ·rw [if_neg hi] at h1;simp only [Bool.and_eq_true,Bool.not_eq_true',beq_iff_eq] at h1;exact ⟨by omega,by omega,fun _ => ⟨h1.1,h1.2⟩⟩
  ·exact pagesR_all hf h.2 g hg
theorem fdB_kind {m : Mc} {p : Pr} {f : Fl} (h : fdB m p f = true) : 0 ≤ f.kind ∧ f.kind < 256:=by
 unfold fdB at h;simp only [Bool.or_eq_true,decide_eq_true_eq,Bool.and_eq_true] at h;rcases h with rfl | ⟨_,h⟩
 ·exact ⟨by decide,by decide⟩
 ·unfold fileB at h;split at h
  ·omega
  ·split at h
   ·omega
   ·split at h
    ·omega
    ·cases h
theorem procsR_all {m : Mc} (hf : m.frames.length ≤ 64) : ∀ {l : List Pr} {last : Int} {used : List Int},procsR m last used l = true → ∀ p ∈ l,PrS p
 | [],_,_,_,p,hp => by simp at hp
 | q :: l,last,used,h,p,hp => by
  unfold procsR at h;simp only [Bool.and_eq_true] at h;rcases List.mem_cons.1 hp with rfl | hp
  ·exact ⟨pagesR_all hf h.1.1.2,fun f hf => fdB_kind (List.all_eq_true.1 h.1.2 f hf)⟩
  ·exact procsR_all hf h.2 p hp
theorem procs_zero {m : Mc} (hf : m.frames.length ≤ 64) (h : procsE m = 0) : m.procs.length ≤ 8 ∧ ∀ p ∈ m.procs,PrS p:=by
 unfold procsE at h;split at h
 ·cases h
 ·split at h
  ·rename_i h1 h2;exact ⟨by omega,procsR_all hf h2⟩
  ·cases h
theorem rest_ok {m : Mc} (h : checkE m = 0) (hp : m.pend.length ≤ 4096) : RestOk m:=by
 obtain ⟨_,h2,h3,h4,h5,h6⟩:=checkE_zero h;obtain ⟨f1,_⟩:=frames_zero h2;obtain ⟨p1,_⟩:=procs_zero f1 h3;obtain ⟨q1,q2⟩:=pipes_zero h4;obtain ⟨t1,t2⟩:=texts_zero h5;obtain ⟨d0,d1,d2⟩:=vol_zero h6;obtain ⟨_,_,e2⟩:=drive_zero d0;exact ⟨by omega,by omega,⟨hp,fun p h => by have:=e2 p h;omega⟩,⟨by omega,fun p h => by have:=d2 p h;omega⟩,⟨by omega,fun p h => by have:=q2 p h;omega⟩,by omega⟩
end Go.Proofs.YtnbphabheikfeaaGreatDoor
