import Derived.Test.YtdkhnjjihbmlmaaGreatDoorPlnA
import Derived.Test.YtdkhnjjihbmlmaaGreatDoorYdA
namespace Go.Proofs.YtdkhnjjihbmlmaaGreatDoor
open Go.RowKit
abbrev Ca:=Option Nb
abbrev Dv:=List (List UInt8) × List Nb
def runC (d : Dv) : Ca → Dv
 | some p => (d.1,d.2 ++ [p])
 | none => (d.2.foldl setB d.1,[])
def jourK (l : List Nb) (k : Nat) : List Nb:=(List.range k).map fun i => (((1 + i : Nat) : Int),(l.getD i (0,[])).2)
def homeK (l : List Nb) : List Nb:=l.map fun p => (33 + p.1,p.2)
def commitC (l : List Nb) (hd : List UInt8) : List Ca:=(jourK l l.length ++ [((0 : Int),hd)]).map some ++ (none :: ((homeK l).map some ++ [none]))
def commitD (l : List Nb) (hd : List UInt8) (d : Dv) : Dv:=(commitC l hd).foldl runC d
theorem jourK_succ (l : List Nb) (k : Nat) : jourK l (k + 1) = jourK l k ++ [(((1 + k : Nat) : Int),(l.getD k (0,[])).2)]:=by unfold jourK;rw [List.range_succ,List.map_append];rfl
theorem jourK_length (l : List Nb) (k : Nat) : (jourK l k).length = k:=by simp [jourK]
theorem homeK_length (l : List Nb) : (homeK l).length = l.length:=by simp [homeK]
theorem runs_puts : ∀ (q : List Nb) (d : Dv),(q.map some).foldl runC d = (d.1,d.2 ++ q)
 | [],d => by simp
 | p :: q,d => by
  rw [List.map_cons,List.foldl_cons,runs_puts q];simp [runC]
theorem commitD_eq (l : List Nb) (hd : List UInt8) (bl : List (List UInt8)) (pd : List Nb) :
  commitD l hd (bl,pd) = ((homeK l).foldl setB ((pd ++ (jourK l l.length ++ [((0 : Int),hd)])).foldl setB bl),[]):=by
 unfold commitD commitC;rw [List.foldl_append,runs_puts,List.foldl_cons,List.foldl_append,runs_puts];simp [runC]
def WOk (n : Nat) (p : Nb) : Prop:=0 ≤ p.1 ∧ p.1 < (n : Int) ∧ p.2.length = 128
theorem setBs_length : ∀ (q : List Nb) (v : List (List UInt8)),(q.foldl setB v).length = v.length
 | [],_ => rfl
 | p :: q,v => by rw [List.foldl_cons,setBs_length q,setB_length]
theorem setB_sizes {v : List (List UInt8)} {p : Nb} (hv : ∀ b ∈ v,b.length = 128) (hp : p.2.length = 128) : ∀ b ∈ setB v p,b.length = 128:=by
 unfold setB;split
 ·intro b hb;rcases List.mem_or_eq_of_mem_set hb with h | rfl
  ·exact hv b h
  ·exact hp
 ·exact hv
theorem setBs_sizes : ∀ {q : List Nb} {v : List (List UInt8)},(∀ b ∈ v,b.length = 128) → (∀ p ∈ q,p.2.length = 128) → ∀ b ∈ q.foldl setB v,b.length = 128
 | [],_,hv,_ => hv
 | p :: q,v,hv,hq => by
  rw [List.foldl_cons];exact setBs_sizes (setB_sizes hv (hq p (by simp))) fun r hr => hq r (by simp [hr])
theorem setB_drop {v : List (List UInt8)} {p : Nb} (hp : WOk v.length p) : (setB v p).drop 33 = putB (v.drop 33) p:=by
 unfold setB putB;rw [if_pos ⟨hp.1,hp.2.1⟩,List.drop_set];have h0:=hp.1;by_cases h : 33 ≤ p.1
 ·rw [if_neg (by omega),if_pos h,show (p.1 - 33).toNat = p.1.toNat - 33 by omega]
 ·rw [if_pos (by omega),if_neg h]
theorem setBs_drop : ∀ {q : List Nb} {v : List (List UInt8)},(∀ p ∈ q,WOk v.length p) → (q.foldl setB v).drop 33 = q.foldl putB (v.drop 33)
 | [],_,_ => rfl
 | p :: q,v,h => by
  rw [List.foldl_cons,List.foldl_cons,setBs_drop fun r hr => by rw [setB_length];exact h r (by simp [hr]),setB_drop (h p (by simp))]
theorem putBs_low : ∀ {q : List Nb} {v : List (List UInt8)},(∀ p ∈ q,p.1 < 33) → q.foldl putB v = v
 | [],_,_ => rfl
 | p :: q,v,h => by
  have h0:=h p (by simp);have e : putB v p = v:=(by unfold putB;rw [if_neg (by omega)]);rw [List.foldl_cons,e];exact putBs_low fun r hr => h r (by simp [hr])
theorem putBs_home : ∀ {l : List Nb} {v : List (List UInt8)},(∀ p ∈ l,0 ≤ p.1 ∧ p.1 < (v.length : Int)) → (homeK l).foldl putB v = l.foldl setB v
 | [],_,_ => rfl
 | p :: l,v,h => by
  obtain ⟨h0,h1⟩:=h p (by simp);have e : putB v (33 + p.1,p.2) = setB v p:=(by unfold putB setB;rw [if_pos (by show 33 ≤ 33 + p.1;omega),if_pos ⟨h0,h1⟩,show (33 + p.1 - 33 : Int) = p.1 by omega]);show (homeK l).foldl putB (putB v (33 + p.1,p.2)) = _;rw [e,List.foldl_cons];exact putBs_home fun r hr => (by rw [setB_length];exact h r (by simp [hr]))
theorem jourK_mem {l : List Nb} {k : Nat} (hk : k ≤ l.length) {p : Nb} (h : p ∈ jourK l k) : 1 ≤ p.1 ∧ p.1 ≤ (k : Int) ∧ ∃ q ∈ l,p.2 = q.2:=by
 unfold jourK at h;obtain ⟨i,hi,rfl⟩:=List.mem_map.1 h;have hi:=List.mem_range.1 hi;refine ⟨by show 1 ≤ ((1 + i : Nat) : Int);omega,by show ((1 + i : Nat) : Int) ≤ k;omega,l.getD i (0,[]),?_,rfl⟩;rw [List.getD_eq_getElem?_getD,List.getElem?_eq_getElem (by omega)];exact List.getElem_mem _
structure LOk (n : Nat) (l : List Nb) : Prop where
 few : l.length ≤ 32
 ok : ∀ p ∈ l,WOk n p
theorem pendE_ok {n : Nat} : ∀ {l : List Nb},(∀ p ∈ l,WOk n p) → pendE n l = 0
 | [],_ => rfl
 | p :: l,h => by
  obtain ⟨h0,h1,h2⟩:=h p (by simp);unfold pendE;rw [if_neg (by omega),if_neg (by simp [h2])];exact pendE_ok fun r hr => h r (by simp [hr])
theorem driveE_ok {bl : List (List UInt8)} {pd : List Nb} (h1 : bl.length ≤ 256) (h2 : ∀ b ∈ bl,b.length = 128) (h3 : ∀ p ∈ pd,WOk bl.length p) : driveE bl pd = 0:=by
 unfold driveE;rw [if_neg (by omega),if_pos (by rw [List.all_eq_true];intro b hb;simp [is128,h2 b hb])];exact pendE_ok h3
section
variable {bl : List (List UInt8)} {pd l : List Nb} {hd : List UInt8}
theorem commit_may (hj : journE bl pd = 0) (hl : LOk (bl.length - 33) l) (hh : hd.length = 128) : (∀ p ∈ jourK l l.length ++ [((0 : Int),hd)],WOk bl.length p ∧ p.1 < 33) ∧ ∀ p ∈ homeK l,WOk bl.length p:=by
 unfold journE at hj
 have hg : 33 < bl.length:=by
  by_cases h : driveE bl pd = 0
  ·rw [if_pos h] at hj;by_cases h2 : bl.length ≤ 33
   ·rw [if_pos h2] at hj;cases hj
   ·omega
  ·rw [if_neg h] at hj;exact absurd hj h
 have hf:=hl.few;refine ⟨fun p hp => ?_,fun p hp => ?_⟩
 ·rcases List.mem_append.1 hp with h | h
  ·obtain ⟨h1,h2,q,hq,e⟩:=jourK_mem (Nat.le_refl _) h;exact ⟨⟨by omega,by omega,by rw [e];exact (hl.ok q hq).2.2⟩,by omega⟩
  ·obtain rfl : p = ((0 : Int),hd):=(by simpa using h);exact ⟨⟨by show (0 : Int) ≤ 0;omega,by show (0 : Int) < _;omega,hh⟩,by show (0 : Int) < 33;omega⟩
 ·unfold homeK at hp;obtain ⟨q,hq,rfl⟩:=List.mem_map.1 hp;obtain ⟨h1,h2,h3⟩:=hl.ok q hq;exact ⟨by show 0 ≤ 33 + q.1;omega,by show 33 + q.1 < _;omega,h3⟩
theorem journE_parts (hj : journE bl pd = 0) : 33 < bl.length ∧ bl.length ≤ 256 ∧ (∀ b ∈ bl,b.length = 128) ∧ ∀ p ∈ pd,WOk bl.length p:=by
 unfold journE at hj;by_cases h : driveE bl pd = 0
 ·rw [if_pos h] at hj;obtain ⟨h1,h2,h3⟩:=driveE_zero h;refine ⟨?_,h1,h2,fun p hp => h3 p hp⟩;by_cases h2 : bl.length ≤ 33
  ·rw [if_pos h2] at hj;cases hj
  ·omega
 ·rw [if_neg h] at hj;exact absurd hj h
theorem commit_home (hj : journE bl pd = 0) (hl : LOk (bl.length - 33) l) (hh : hd.length = 128) :
  journE (commitD l hd (bl,pd)).1 [] = 0 ∧ homeD (commitD l hd (bl,pd)).1 [] = l.foldl setB (homeD bl pd) ∧ (commitD l hd (bl,pd)).2 = [] ∧ (commitD l hd (bl,pd)).1.length = bl.length:=by
 obtain ⟨h1,h2,h3,h4⟩:=journE_parts hj;obtain ⟨m1,m2⟩:=commit_may hj hl hh;rw [commitD_eq];have hlen : ((homeK l).foldl setB ((pd ++ (jourK l l.length ++ [((0 : Int),hd)])).foldl setB bl)).length = bl.length:=(by rw [setBs_length,setBs_length])
 have hsz : ∀ b ∈ (homeK l).foldl setB ((pd ++ (jourK l l.length ++ [((0 : Int),hd)])).foldl setB bl),b.length = 128:=by
  refine setBs_sizes (setBs_sizes h3 fun p hp => ?_) fun p hp => (m2 p hp).2.2;rcases List.mem_append.1 hp with h | h
  ·exact (h4 p h).2.2
  ·exact (m1 p h).1.2.2
 have hj' : journE ((homeK l).foldl setB ((pd ++ (jourK l l.length ++ [((0 : Int),hd)])).foldl setB bl)) [] = 0:=(by unfold journE;rw [if_pos (driveE_ok (by rw [hlen];exact h2) hsz (fun p hp => by simp at hp)),if_neg (by rw [hlen];omega)]);refine ⟨hj',?_,rfl,hlen⟩;show homeD _ [] = _;unfold homeD;rw [if_pos hj',if_pos hj];show List.foldl putB _ [] = _
 rw [List.foldl_nil,setBs_drop (fun p hp => by rw [setBs_length];exact m2 p hp),setBs_drop (fun p hp => by
  rcases List.mem_append.1 hp with h | h
  ·exact h4 p h
  ·exact (m1 p h).1),List.foldl_append,putBs_low (q:=jourK l l.length ++ [((0 : Int),hd)]) fun p hp => (m1 p hp).2]
 refine putBs_home fun p hp => ?_;have:=hl.ok p hp;rw [putBs_length,List.length_drop];exact ⟨this.1,this.2.1⟩
end
theorem dirtyR_all {n : Nat} : ∀ {last : Int} {l : List Nb},dirtyR n last l = true → ∀ p ∈ l,last < p.1 ∧ p.1 < (n : Int) ∧ p.2.length = 128
 | _,[],_,p,hp => by simp at hp
 | last,q :: l,h,p,hp => by
  have h' : (decide (last < q.1) && decide (q.1 < (n : Int)) && decide (q.2.length = 128) && dirtyR n q.1 l) = true:=h;simp only [Bool.and_eq_true,decide_eq_true_eq] at h';obtain ⟨⟨⟨h1,h2⟩,h3⟩,h4⟩:=h';rcases List.mem_cons.1 hp with rfl | hp
  ·exact ⟨h1,h2,h3⟩
  ·have:=dirtyR_all h4 p hp;exact ⟨by omega,this.2⟩
theorem dirtyR_two {n : Nat} : ∀ {last : Int} {l : List Nb},dirtyR n last l = true → ∀ {i j : Nat} {p q : Nb},i < j → l[i]? = some p → l[j]? = some q → p.1 < q.1
 | _,[],_,i,j,p,q,_,hi,_ => by simp at hi
 | last,r :: l,h,i,j,p,q,hij,hi,hj => by
  have h' : (decide (last < r.1) && decide (r.1 < (n : Int)) && decide (r.2.length = 128) && dirtyR n r.1 l) = true:=h;simp only [Bool.and_eq_true,decide_eq_true_eq] at h'
  match i,j,hij with
  | 0,j + 1,_ => have e : r = p:=(by simpa using hi);subst e;exact (dirtyR_all h'.2 q (List.mem_of_getElem? (by simpa using hj))).1
  | i + 1,j + 1,hij => exact dirtyR_two h'.2 (i:=i) (j:=j) (by omega) (by simpa using hi) (by simpa using hj)
theorem volE_zero {m : Mc} (h : volE m = 0) : journE m.blocks m.pend = 0 ∧ LOk (m.blocks.length - 33) m.dirty ∧ dirtyR (m.blocks.length - 33) (-1) m.dirty = true:=by
 unfold volE at h;by_cases h1 : driveE m.blocks m.pend ≠ 0
 ·rw [if_pos h1] at h;exact absurd h h1
 rw [if_neg h1] at h;by_cases h2 : homeD m.blocks m.pend = []
 ·rw [if_pos h2] at h;cases h
 rw [if_neg h2] at h;by_cases h3 : 32 < m.dirty.length
 ·rw [if_pos h3] at h;cases h
 rw [if_neg h3] at h
 have hj : journE m.blocks m.pend = 0:=by
  by_cases hj : journE m.blocks m.pend = 0
  ·exact hj
  ·exact absurd (by unfold homeD;rw [if_neg hj]) h2
 have hl : (homeD m.blocks m.pend).length = m.blocks.length - 33:=(by unfold homeD;rw [if_pos hj,homeL_length]);rw [hl] at h;by_cases h4 : dirtyR (m.blocks.length - 33) (-1) m.dirty = true
 ·refine ⟨hj,⟨by omega,fun p hp => ?_⟩,h4⟩;have:=dirtyR_all h4 p hp;exact ⟨by omega,this.2.1,this.2.2⟩
 ·rw [if_neg h4] at h;cases h
end Go.Proofs.YtdkhnjjihbmlmaaGreatDoor
namespace Go.Proofs.YtdkhnjjihbmlmaaGreatDoor
open Go.RowKit
def callI (m : Mc) : Int:=idxI (fun p : Pr => p.pid == m.cur && p.state == 1) m.procs 0
theorem call_cases (m : Mc) : callI m = -1 ∨ ∃ (k : Nat) (p : Pr),m.procs[k]? = some p ∧ p.pid = m.cur ∧ p.state = 1 ∧ callI m = (k : Int):=by
 rcases idx_cases (fun p : Pr => p.pid == m.cur && p.state == 1) m.procs with ⟨h,_⟩ | ⟨k,p,h1,h2,h3⟩
 ·exact .inl h
 ·simp only [Bool.and_eq_true,beq_iff_eq] at h2;exact .inr ⟨k,p,h1,h2.1,h2.2,h3⟩
theorem procsR_gt {m : Mc} : ∀ {l : List Pr} {last : Int} {used : List Int},procsR m last used l = true → ∀ p ∈ l,last < p.pid
 | [],_,_,_,p,hp => by simp at hp
 | q :: l,last,used,h,p,hp => by
  have h' : (headB m last q && pagesR m q used q.space && q.fds.all (fdB m q) && procsR m q.pid (usedR used q.space) l) = true:=h;simp only [Bool.and_eq_true] at h';obtain ⟨⟨⟨h1,_⟩,_⟩,h4⟩:=h';unfold headB at h1;simp only [Bool.and_eq_true,decide_eq_true_eq] at h1;rcases List.mem_cons.1 hp with rfl | hp
  ·exact h1.1.1.1
  ·have:=procsR_gt h4 p hp;have:=h1.1.1.1;omega
theorem procsR_two {m : Mc} : ∀ {l : List Pr} {last : Int} {used : List Int},procsR m last used l = true → ∀ {i j : Nat} {p q : Pr},i < j → l[i]? = some p → l[j]? = some q → p.pid < q.pid
 | [],_,_,_,i,j,p,q,_,hi,_ => by simp at hi
 | r :: l,last,used,h,i,j,p,q,hij,hi,hj => by
  have h' : (headB m last r && pagesR m r used r.space && r.fds.all (fdB m r) && procsR m r.pid (usedR used r.space) l) = true:=h;simp only [Bool.and_eq_true] at h'
  match i,j,hij with
  | 0,j + 1,_ => have e : r = p:=(by simpa using hi);subst e;exact procsR_gt h'.2 q (List.mem_of_getElem? (by simpa using hj))
  | i + 1,j + 1,hij => exact procsR_two h'.2 (i:=i) (j:=j) (by omega) (by simpa using hi) (by simpa using hj)
theorem pagesR_all {m : Mc} {p : Pr} : ∀ {l : List Pg} {used : List Int},pagesR m p used l = true → ∀ g ∈ l,g.is = true → 0 ≤ g.frame ∧ g.frame < (m.frames.length : Int)
 | [],_,_,g,hg,_ => by simp at hg
 | x :: l,used,h,g,hg,hi => by
  have h' : (pageB m p used x && pagesR m p (addU used x) l) = true:=h;simp only [Bool.and_eq_true] at h';rcases List.mem_cons.1 hg with rfl | hg
  ·have:=h'.1;unfold pageB at this;rw [if_pos hi] at this;simp only [Bool.and_eq_true,decide_eq_true_eq] at this;exact ⟨this.1.1.2,this.1.2⟩
  ·exact pagesR_all h'.2 g hg hi
theorem procsR_pgs {m : Mc} : ∀ {l : List Pr} {last : Int} {used : List Int},procsR m last used l = true → ∀ p ∈ l,∀ g ∈ p.space,g.is = true → 0 ≤ g.frame ∧ g.frame < (m.frames.length : Int)
 | [],_,_,_,p,hp => by simp at hp
 | q :: l,last,used,h,p,hp => by
  have h' : (headB m last q && pagesR m q used q.space && q.fds.all (fdB m q) && procsR m q.pid (usedR used q.space) l) = true:=h;simp only [Bool.and_eq_true] at h';rcases List.mem_cons.1 hp with rfl | hp
  ·exact pagesR_all h'.1.1.2
  ·exact procsR_pgs h'.2 p hp
theorem checkE_parts {m : Mc} (h : checkE m = 0) : framesE m = 0 ∧ procsE m = 0 ∧ volE m = 0:=by
 unfold checkE at h;by_cases h1 : numsE m = 0
 ·rw [if_neg (by simp [h1])] at h;by_cases h2 : framesE m = 0
  ·rw [if_neg (by simp [h2])] at h;by_cases h3 : procsE m = 0
   ·rw [if_neg (by simp [h3])] at h;by_cases h4 : pipesE m = 0
    ·rw [if_neg (by simp [h4])] at h;by_cases h5 : textsE m = 0
     ·rw [if_neg (by simp [h5])] at h;exact ⟨h2,h3,h⟩
     ·rw [if_pos h5] at h;exact absurd h h5
    ·rw [if_pos h4] at h;exact absurd h h4
   ·rw [if_pos h3] at h;exact absurd h h3
  ·rw [if_pos h2] at h;exact absurd h h2
 ·rw [if_pos h1] at h;exact absurd h h1
theorem procsE_parts {m : Mc} (h : procsE m = 0) : m.procs.length ≤ 8 ∧ procsR m 0 [] m.procs = true:=by
 unfold procsE at h;by_cases h1 : 8 < m.procs.length
 ·rw [if_pos h1] at h;cases h
 ·rw [if_neg h1] at h;by_cases h2 : procsR m 0 [] m.procs = true
  ·exact ⟨by omega,h2⟩
  ·rw [if_neg h2] at h;cases h
theorem framesE_parts {m : Mc} (h : framesE m = 0) : m.frames.length ≤ 64 ∧ ∀ f ∈ m.frames,f.length = 128:=by
 unfold framesE at h;by_cases h1 : m.frames.length < 1 ∨ 64 < m.frames.length
 ·rw [if_pos h1] at h;cases h
 ·rw [if_neg h1] at h;by_cases h2 : m.frames.all is128 = true
  ·refine ⟨by omega,fun f hf => ?_⟩;have:=List.all_eq_true.1 h2 f hf
   simpa [is128] using this
  ·rw [if_neg h2] at h;cases h
structure Fine (m : Mc) (k : Nat) (p : Pr) : Prop where
 at' : m.procs[k]? = some p
 pid : p.pid = m.cur
 run : p.state = 1
 two : ∀ {i j : Nat} {x y : Pr},m.procs[i]? = some x → m.procs[j]? = some y → x.pid = y.pid → i = j
 few : m.procs.length ≤ 8
 fr : m.frames.length ≤ 64 ∧ ∀ f ∈ m.frames,f.length = 128
 pg : ∀ x ∈ m.procs,∀ g ∈ x.space,g.is = true → 0 ≤ g.frame ∧ g.frame < (m.frames.length : Int)
 vol : volE m = 0
theorem fine_of {m : Mc} (h : checkE m = 0) {k : Nat} {p : Pr} (h1 : m.procs[k]? = some p) (h2 : p.pid = m.cur) (h3 : p.state = 1) : Fine m k p:=by
 obtain ⟨a,b,c⟩:=checkE_parts h;obtain ⟨b1,b2⟩:=procsE_parts b;refine ⟨h1,h2,h3,?_,b1,framesE_parts a,procsR_pgs b2,c⟩;intro i j x y hi hj e;rcases Nat.lt_trichotomy i j with hl | hl | hl
 ·have:=procsR_two b2 hl hi hj;omega
 ·exact hl
 ·have:=procsR_two b2 hl hj hi;omega
theorem Fine.find {m : Mc} {k : Nat} {p : Pr} (h : Fine m k p) : findB m m.cur = true ∧ findI m m.cur = (k : Int):=by
 rcases find_cases m m.cur with ⟨_,_,h3⟩ | ⟨j,x,h1,h2,h3,h4⟩
 ·exact absurd h.pid (h3 p (List.mem_of_getElem? h.at'))
 ·have:=h.two h1 h.at' (h2.trans h.pid.symm);subst this;exact ⟨h3,h4⟩
def Pr.ans (p : Pr) : Pr:={ p with regs:=p.regs.set 1 0 }
def commitK (l : List Nb) (hd : List UInt8) (d : Dv) : Dv:=if l = [] then d else commitD l hd d
def syncM (m : Mc) (k : Nat) (p : Pr) (hd : List UInt8) : Mc:={ m with procs:=m.procs.set k p.ans,blocks:=(commitK m.dirty hd (m.blocks,m.pend)).1,pend:=(commitK m.dirty hd (m.blocks,m.pend)).2,dirty:=[],dleft:=-1 }
theorem sync_home {m : Mc} (h : volE m = 0) {hd : List UInt8} (hh : hd.length = 128) : homeD (commitK m.dirty hd (m.blocks,m.pend)).1 (commitK m.dirty hd (m.blocks,m.pend)).2 = volL m:=by
 obtain ⟨h1,h2,_⟩:=volE_zero h;unfold volL commitK;by_cases hl : m.dirty = []
 ·rw [if_pos hl,hl];rfl
 ·rw [if_neg hl];obtain ⟨_,e1,e2,_⟩:=commit_home h1 h2 hh;rw [e2];exact e1
theorem Fine.sync {m : Mc} {k : Nat} {p : Pr} (h : Fine m k p) (hd : List UInt8) : callI (syncM m k p hd) = (k : Int):=by
 have hk : k < m.procs.length:=(List.getElem?_eq_some_iff.1 h.at').1;refine idx_at (b:=0) (x:=p.ans) (fun y hy => ?_) (by show (m.procs.set k p.ans)[k]? = _;simp [hk]) (by show (p.pid == m.cur && p.state == 1) = true;simp [h.pid,h.run]) |>.trans (by simp)
 have hy' : y ∈ (m.procs.set k p.ans).take k:=hy;rw [List.take_set_of_le (Nat.le_refl _)] at hy';obtain ⟨i,hi⟩:=List.mem_iff_getElem?.1 hy';have hik : i < k:=(by have:=(List.getElem?_eq_some_iff.1 hi).1;rw [List.length_take] at this;omega);rw [List.getElem?_take_of_lt hik] at hi;show (y.pid == m.cur && y.state == 1) = false;by_cases e : y.pid = m.cur
 ·have:=h.two hi h.at' (e.trans h.pid.symm);omega
 ·simp [e]
theorem Fine.other {m : Mc} {k j : Nat} {p x : Pr} (h : Fine m k p) (hj : m.procs[j]? = some x) (hx : x.pid ≠ m.cur) : (m.procs.set k p.ans)[j]? = some x:=by
 have hne : k ≠ j:=by rintro rfl;have e:=h.at';rw [hj] at e;injection e with e;exact hx (e ▸ h.pid)
 rw [List.getElem?_set_ne hne];exact hj
end Go.Proofs.YtdkhnjjihbmlmaaGreatDoor
