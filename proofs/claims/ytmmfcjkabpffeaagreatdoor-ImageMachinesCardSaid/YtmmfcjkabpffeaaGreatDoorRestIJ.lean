import Derived.Test.YtmmfcjkabpffeaaGreatDoorRestP
import Derived.Test.YtmmfcjkabpffeaaGreatDoorVolA
namespace Go.Proofs.YtmmfcjkabpffeaaGreatDoor
open Go.RowKit
theorem checkE_zero {m : Mc} (h : checkE m = 0) : numsE m = 0 ∧ framesE m = 0 ∧ procsE m = 0 ∧ pipesE m = 0 ∧ textsE m = 0 ∧ volE m = 0:=by
 unfold checkE at h;by_cases h1 : numsE m = 0
 ·rw [if_neg (by simp [h1])] at h;by_cases h2 : framesE m = 0
  ·rw [if_neg (by simp [h2])] at h;by_cases h3 : procsE m = 0
   ·rw [if_neg (by simp [h3])] at h;by_cases h4 : pipesE m = 0
    ·rw [if_neg (by simp [h4])] at h;by_cases h5 : textsE m = 0
     ·rw [if_neg (by simp [h5])] at h;exact ⟨h1,h2,h3,h4,h5,h⟩
     ·rw [if_pos h5] at h;exact absurd h h5
    ·rw [if_pos h4] at h;exact absurd h h4
   ·rw [if_pos h3] at h;exact absurd h h3
  ·rw [if_pos h2] at h;exact absurd h h2
 ·rw [if_pos h1] at h;exact absurd h h1
theorem texts_zero {m : Mc} (h : textsE m = 0) : m.inp.length ≤ 65536 ∧ m.init.length ≤ 128:=by
 unfold textsE at h;split at h
 ·cases h
 ·omega
theorem pipesB_all {n : Int} : ∀ {l : List Nb} {last : Int},pipesB n last l = true → ∀ p ∈ l,p.2.length ≤ 64
 | [],_,_,p,hp => by simp at hp
 | q :: l,last,h,p,hp => by
  unfold pipesB at h;simp only [Bool.and_eq_true,decide_eq_true_eq] at h;rcases List.mem_cons.1 hp with rfl | hp
  ·exact h.1.2
  ·exact pipesB_all h.2 p hp
theorem pipes_zero {m : Mc} (h : pipesE m = 0) : m.pipes.length ≤ 64 ∧ ∀ p ∈ m.pipes,p.2.length ≤ 64:=by
 unfold pipesE at h;split at h
 ·cases h
 ·split at h
  ·rename_i h1 h2;exact ⟨by omega,pipesB_all h2⟩
  ·cases h
theorem dirtyR_all {n : Nat} : ∀ {l : List Nb} {last : Int},dirtyR n last l = true → ∀ p ∈ l,p.2.length = 128
 | [],_,_,p,hp => by simp at hp
 | q :: l,last,h,p,hp => by
  unfold dirtyR at h;simp only [Bool.and_eq_true,decide_eq_true_eq] at h;rcases List.mem_cons.1 hp with rfl | hp
  ·exact h.1.2
  ·exact dirtyR_all h.2 p hp
theorem drive_zero {bl : List (List UInt8)} {pd : List Nb} (h : driveE bl pd = 0) : bl.length ≤ 256 ∧ (∀ l ∈ bl,l.length = 128) ∧ ∀ p ∈ pd,p.2.length = 128:=by
 unfold driveE at h;split at h
 ·cases h
 ·split at h
  ·rename_i h1 h2;refine ⟨by omega,fun l hl => ?_,fun p hp => (pendE_zero h p hp).2.2⟩;have:=List.all_eq_true.1 h2 l hl
   simpa [is128] using this
  ·cases h
theorem vol_zero {m : Mc} (h : volE m = 0) : driveE m.blocks m.pend = 0 ∧ m.dirty.length ≤ 32 ∧ ∀ p ∈ m.dirty,p.2.length = 128:=by
 unfold volE at h;by_cases h1 : driveE m.blocks m.pend = 0
 ·rw [if_neg (by simp [h1])] at h;split at h
  ·cases h
  ·split at h
   ·cases h
   ·split at h
    ·rename_i h2 h3 h4;exact ⟨h1,by omega,dirtyR_all h4⟩
    ·cases h
 ·rw [if_pos h1] at h;exact absurd h h1
theorem frames_zero {m : Mc} (h : framesE m = 0) : m.frames.length ≤ 64 ∧ ∀ l ∈ m.frames,l.length = 128:=by
 unfold framesE at h;split at h
 ·cases h
 ·split at h
  ·rename_i h1 h2;refine ⟨by omega,fun l hl => ?_⟩;have:=List.all_eq_true.1 h2 l hl
   simpa [is128] using this
  ·cases h
structure PrS (p : Pr) : Prop where
 space : ∀ g ∈ p.space,0 ≤ g.frame ∧ g.frame < 256 ∧ (g.is = false → g.wr = false ∧ g.frame = 0)
 fds : ∀ f ∈ p.fds,0 ≤ f.kind ∧ f.kind < 256
theorem pagesR_all {m : Mc} {p : Pr} (hf : m.frames.length ≤ 64) : ∀ {s : List Pg} {used : List Int},pagesR m p used s = true → ∀ g ∈ s,0 ≤ g.frame ∧ g.frame < 256 ∧ (g.is = false → g.wr = false ∧ g.frame = 0)
 | [],_,_,g,hg => by simp at hg
 | x :: s,used,h,g,hg => by
  unfold pagesR at h;simp only [Bool.and_eq_true] at h;rcases List.mem_cons.1 hg with rfl | hg
  ·have h1:=h.1;unfold pageB at h1;by_cases hi : g.is = true
   ·rw [if_pos hi] at h1;simp only [Bool.and_eq_true,decide_eq_true_eq] at h1;exact ⟨h1.1.1.2,by omega,fun e => by rw [hi] at e;cases e⟩
   ·rw [if_neg hi] at h1;simp only [Bool.and_eq_true,Bool.not_eq_true',beq_iff_eq] at h1;exact ⟨by omega,by omega,fun _ => ⟨h1.1,h1.2⟩⟩
  ·exact pagesR_all hf h.2 g hg
theorem fdB_kind {m : Mc} {p : Pr} {f : Fl} (h : fdB m p f = true) : 0 ≤ f.kind ∧ f.kind < 256:=by
 unfold fdB at h;simp only [Bool.or_eq_true,decide_eq_true_eq,Bool.and_eq_true] at h;rcases h with rfl | ⟨_,h⟩
 ·exact ⟨by decide,by decide⟩
 ·unfold fileB at h;split at h
  ·omega
  ·split at h
   ·omega
   ·split at h
    ·omega
    ·cases h
theorem procsR_all {m : Mc} (hf : m.frames.length ≤ 64) : ∀ {l : List Pr} {last : Int} {used : List Int},procsR m last used l = true → ∀ p ∈ l,PrS p
 | [],_,_,_,p,hp => by simp at hp
 | q :: l,last,used,h,p,hp => by
  unfold procsR at h;simp only [Bool.and_eq_true] at h;rcases List.mem_cons.1 hp with rfl | hp
  ·exact ⟨pagesR_all hf h.1.1.2,fun f hf => fdB_kind (List.all_eq_true.1 h.1.2 f hf)⟩
  ·exact procsR_all hf h.2 p hp
theorem procs_zero {m : Mc} (hf : m.frames.length ≤ 64) (h : procsE m = 0) : m.procs.length ≤ 8 ∧ ∀ p ∈ m.procs,PrS p:=by
 unfold procsE at h;split at h
 ·cases h
 ·split at h
  ·rename_i h1 h2;exact ⟨by omega,procsR_all hf h2⟩
  ·cases h
theorem rest_ok {m : Mc} (h : checkE m = 0) (hp : m.pend.length ≤ 4096) : RestOk m:=by
 obtain ⟨_,h2,h3,h4,h5,h6⟩:=checkE_zero h;obtain ⟨f1,_⟩:=frames_zero h2;obtain ⟨p1,_⟩:=procs_zero f1 h3;obtain ⟨q1,q2⟩:=pipes_zero h4;obtain ⟨t1,t2⟩:=texts_zero h5;obtain ⟨d0,d1,d2⟩:=vol_zero h6;obtain ⟨_,_,e2⟩:=drive_zero d0;exact ⟨by omega,by omega,⟨hp,fun p h => by have:=e2 p h;omega⟩,⟨by omega,fun p h => by have:=d2 p h;omega⟩,⟨by omega,fun p h => by have:=q2 p h;omega⟩,by omega⟩
end Go.Proofs.YtmmfcjkabpffeaaGreatDoor
namespace Go.Proofs.YtmmfcjkabpffeaaGreatDoor
open Go.RowKit
theorem lenB_ne (n : Nat) : lenB n ≠ []:=by
 by_cases h : n < 128
 ·rw [lenB_small h];simp
 ·rw [lenB_big h];simp
end Go.Proofs.YtmmfcjkabpffeaaGreatDoor
