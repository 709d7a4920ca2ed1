/-
  Plain: which machines may be. No program in sight.
-/
import Derived.Test.YtmdciljpcnokcaaGreatDoorMcA
namespace Go.Proofs.YtmdciljpcnokcaaGreatDoor
open Go.RowKit

def livesB (p : Pr) : Bool := p.state == 1 || p.state == 2
def fieldsB (p : Pr) : Bool :=
  (livesB p || p.state == 3) && p.regs.getD 0 0 == 0 && (if p.state = 2 then decide (1 ≤ p.why) && decide (p.why ≤ 5) else p.why == 0 && p.n == 0) && (p.state == 3 || p.code == 0)
def parentB (m : Mc) (p : Pr) : Bool := (p.parent == 0 && livesB p) || m.procs.any fun q => q.pid == p.parent && livesB q
def hasPipe (m : Mc) (n : Int) : Bool := m.pipes.any fun q => q.1 == n
def fileB (m : Mc) (f : Fl) : Bool :=
  if f.kind = 1 ∨ f.kind = 2 then f.n == 0 && f.pos == 0
  else if f.kind = 3 then decide (1 ≤ f.n) && decide (f.n ≤ 64) && decide (0 ≤ f.pos) && decide (f.pos ≤ 8960)
  else if f.kind = 4 ∨ f.kind = 5 then f.pos == 0 && hasPipe m f.n
  else false
def numsB (m : Mc) : Bool := decide (1 ≤ m.quantum) && decide (m.quantum ≤ 1000) && decide (0 ≤ m.left) && decide (m.left ≤ m.quantum) && decide (0 ≤ m.cur) && decide (1 ≤ m.next) && decide (m.next ≤ 1000000000) && decide (1 ≤ m.newPipe) && decide (m.newPipe ≤ 1000000000)
def numsE (m : Mc) : Int := if numsB m = true then 0 else 2
def is128 (s : List UInt8) : Bool := s.length == 128
def framesE (m : Mc) : Int := if m.frames.length < 1 ∨ 64 < m.frames.length then 6 else if m.frames.all is128 = true then 0 else 3
def textsE (m : Mc) : Int := if 65536 < m.inp.length ∨ 128 < m.init.length then 6 else 0
/-- pipes by rising numbers, below n, none too long -/
def pipesB (n : Int) : Int → List Nb → Bool
  | _, [] => true
  | last, p :: l => decide (last < p.1) && decide (p.1 < n) && decide (p.2.length ≤ 64) && pipesB n p.1 l
def pipesE (m : Mc) : Int := if 64 < m.pipes.length then 6 else if pipesB m.newPipe 0 m.pipes = true then 0 else 3
/-- pending writes: the first one that may not be -/
def pendE (n : Nat) : List Nb → Int
  | [] => 0
  | p :: l => if p.1 < 0 ∨ (n : Int) ≤ p.1 then 2 else if p.2.length ≠ 128 then 3 else pendE n l
def driveE (bl : List (List UInt8)) (pend : List Nb) : Int := if 256 < bl.length then 6 else if bl.all is128 = true then pendE bl.length pend else 3
theorem pendE_zero {n : Nat} : ∀ {l : List Nb}, pendE n l = 0 → ∀ p ∈ l, 0 ≤ p.1 ∧ p.1 < n ∧ p.2.length = 128
  | [], _, p, hp => by simp at hp
  | q :: l, h, p, hp => by
    unfold pendE at h
    by_cases h1 : q.1 < 0 ∨ (n : Int) ≤ q.1
    · rw [if_pos h1] at h; cases h
    rw [if_neg h1] at h
    by_cases h2 : q.2.length ≠ 128
    · rw [if_pos h2] at h; cases h
    rw [if_neg h2] at h
    rcases List.mem_cons.1 hp with rfl | hp
    · exact ⟨by omega, by omega, by simpa using h2⟩
    · exact pendE_zero h p hp
theorem driveE_zero {bl : List (List UInt8)} {pd : List Nb} (h : driveE bl pd = 0) : bl.length ≤ 256 ∧ (∀ b ∈ bl, b.length = 128) ∧ ∀ p ∈ pd, 0 ≤ p.1 ∧ p.1 < bl.length ∧ p.2.length = 128 := by
  unfold driveE at h
  by_cases h1 : 256 < bl.length
  · rw [if_pos h1] at h; cases h
  rw [if_neg h1] at h
  by_cases h2 : bl.all is128 = true
  · rw [if_pos h2] at h
    refine ⟨by omega, fun b hb => ?_, pendE_zero h⟩
    have := List.all_eq_true.1 h2 b hb
    simpa [is128] using this
  · rw [if_neg h2] at h; cases h
def journE (bl : List (List UInt8)) (pd : List Nb) : Int := if driveE bl pd = 0 then (if bl.length ≤ 33 then 2 else 0) else driveE bl pd
/-- a write comes to its block of the volume -/
def putB (v : List (List UInt8)) (p : Nb) : List (List UInt8) := if 33 ≤ p.1 then v.set (p.1 - 33).toNat p.2 else v
def homeL (bl : List (List UInt8)) (pd : List Nb) : List (List UInt8) := pd.foldl putB (bl.drop 33)
def homeD (bl : List (List UInt8)) (pd : List Nb) : List (List UInt8) := if journE bl pd = 0 then homeL bl pd else []
/-- a block as it was last written -/
def getB (bl : List (List UInt8)) (pd : List Nb) (i : Nat) : List UInt8 := pd.foldl (fun s p => if p.1 = (i : Int) then p.2 else s) (bl.getD i [])
theorem putB_length (v : List (List UInt8)) (p : Nb) : (putB v p).length = v.length := by unfold putB; split <;> simp
theorem putBs_length : ∀ (pd : List Nb) (v : List (List UInt8)), (pd.foldl putB v).length = v.length
  | [], _ => rfl
  | p :: pd, v => by rw [List.foldl_cons, putBs_length pd, putB_length]
theorem homeL_length (bl : List (List UInt8)) (pd : List Nb) : (homeL bl pd).length = bl.length - 33 := by unfold homeL; rw [putBs_length, List.length_drop]
theorem putB_getD (v : List (List UInt8)) (p : Nb) (j : Nat) (hj : j < v.length) : (putB v p).getD j [] = if p.1 = ((33 + j : Nat) : Int) then p.2 else v.getD j [] := by
  unfold putB
  by_cases h : 33 ≤ p.1
  · rw [if_pos h, List.getD_eq_getElem?_getD, List.getElem?_set]
    by_cases e : (p.1 - 33).toNat = j
    · rw [if_pos e, if_pos (by omega), if_pos (by omega)]; rfl
    · rw [if_neg e, if_neg (by omega), List.getD_eq_getElem?_getD]
  · rw [if_neg h, if_neg (by omega)]
theorem putBs_getD (j : Nat) : ∀ (pd : List Nb) (v : List (List UInt8)), j < v.length → (pd.foldl putB v).getD j [] = pd.foldl (fun s p => if p.1 = ((33 + j : Nat) : Int) then p.2 else s) (v.getD j [])
  | [], _, _ => rfl
  | p :: pd, v, h => by
    rw [List.foldl_cons, List.foldl_cons, putBs_getD j pd _ (by rw [putB_length]; exact h), putB_getD v p j h]
theorem home_getD (bl : List (List UInt8)) (pd : List Nb) (j : Nat) (hj : 33 + j < bl.length) : (homeL bl pd).getD j [] = getB bl pd (33 + j) := by
  unfold homeL getB
  rw [putBs_getD j pd _ (by rw [List.length_drop]; omega)]
  congr 1
  simp [List.getD_eq_getElem?_getD]
/-- the first k blocks of the volume, one by one -/
def homeTo (bl : List (List UInt8)) (pd : List Nb) (k : Nat) : List (List UInt8) := (List.range k).map fun j => getB bl pd (33 + j)
theorem homeTo_succ (bl : List (List UInt8)) (pd : List Nb) (k : Nat) : homeTo bl pd (k + 1) = homeTo bl pd k ++ [getB bl pd (33 + k)] := by unfold homeTo; rw [List.range_succ, List.map_append]; rfl
theorem homeTo_length (bl : List (List UInt8)) (pd : List Nb) (k : Nat) : (homeTo bl pd k).length = k := by simp [homeTo]
theorem homeTo_all (bl : List (List UInt8)) (pd : List Nb) : homeTo bl pd (bl.length - 33) = homeL bl pd := by
  apply List.ext_getElem
  · rw [homeTo_length, homeL_length]
  · intro j h1 h2
    have hj : 33 + j < bl.length := by rw [homeTo_length] at h1; omega
    have := home_getD bl pd j hj
    rw [List.getD_eq_getElem?_getD, List.getElem?_eq_getElem h2] at this
    simp only [Option.getD_some] at this
    rw [this]
    simp [homeTo]
theorem foldl_snoc {α β : Type} (f : β → α → β) (b : β) {l : List α} {k : Nat} {x : α} (hx : l[k]? = some x) : (l.take (k + 1)).foldl f b = f ((l.take k).foldl f b) x := by
  obtain ⟨hk, rfl⟩ := List.getElem?_eq_some_iff.1 hx
  rw [List.take_succ_eq_append_getElem hk, List.foldl_append]
  rfl
theorem drop_cons {α : Type} {l : List α} {k : Nat} {x : α} (hx : l[k]? = some x) : l.drop k = x :: l.drop (k + 1) := by
  obtain ⟨hk, rfl⟩ := List.getElem?_eq_some_iff.1 hx
  exact List.drop_eq_getElem_cons hk
theorem drop_end {α : Type} {l : List α} : l.drop l.length = [] := List.drop_length
theorem any_no {α : Type} {f : α → Bool} {l : List α} {k : Nat} {x : α} (hx : l[k]? = some x) (h : (l.take k).any f = false) (h2 : f x = false) : (l.take (k + 1)).any f = false := by
  obtain ⟨hk, rfl⟩ := List.getElem?_eq_some_iff.1 hx
  rw [List.take_succ_eq_append_getElem hk, List.any_append, h]
  simp [h2]
theorem any_yes {α : Type} {f : α → Bool} {l : List α} {k : Nat} {x : α} (hx : l[k]? = some x) (h2 : f x = true) : l.any f = true :=
  List.any_eq_true.2 ⟨x, List.mem_of_getElem? hx, h2⟩
theorem all_on {α : Type} {f : α → Bool} {l : List α} {k : Nat} {x : α} (hx : l[k]? = some x) (h : (l.take k).all f = true) (h2 : f x = true) : (l.take (k + 1)).all f = true := by
  obtain ⟨hk, rfl⟩ := List.getElem?_eq_some_iff.1 hx
  rw [List.take_succ_eq_append_getElem hk, List.all_append, h]
  simp [h2]
theorem all_bad {α : Type} {f : α → Bool} {l : List α} {k : Nat} {x : α} (hx : l[k]? = some x) (h2 : f x = false) : l.all f = false := by
  rw [← Bool.not_eq_true, List.all_eq_true]
  intro h
  rw [h x (List.mem_of_getElem? hx)] at h2
  cases h2
theorem get_some {α : Type} {l : List α} {k : Nat} (h : k < l.length) : ∃ x, l[k]? = some x := ⟨_, List.getElem?_eq_getElem h⟩
end Go.Proofs.YtmdciljpcnokcaaGreatDoor
/-
  Plain: which processes may be. No program in sight.
-/
namespace Go.Proofs.YtmdciljpcnokcaaGreatDoor
open Go.RowKit

def pageB (m : Mc) (p : Pr) (used : List Int) (g : Pg) : Bool :=
  if g.is = true then p.state != 3 && decide (0 ≤ g.frame) && decide (g.frame < (m.frames.length : Int)) && !used.contains g.frame else !g.wr && g.frame == 0
def addU (used : List Int) (g : Pg) : List Int := if g.is = true then used ++ [g.frame] else used
def pagesR (m : Mc) (p : Pr) : List Int → List Pg → Bool
  | _, [] => true
  | used, g :: s => pageB m p used g && pagesR m p (addU used g) s
def usedR : List Int → List Pg → List Int
  | u, [] => u
  | u, g :: s => usedR (addU u g) s
def fdB (m : Mc) (p : Pr) (f : Fl) : Bool := decide (f = ⟨0, 0, 0⟩) || (p.state != 3 && fileB m f)
def headB (m : Mc) (last : Int) (p : Pr) : Bool := decide (last < p.pid) && decide (p.pid < m.next) && fieldsB p && parentB m p
def procsR (m : Mc) : Int → List Int → List Pr → Bool
  | _, _, [] => true
  | last, used, p :: l => headB m last p && pagesR m p used p.space && p.fds.all (fdB m p) && procsR m p.pid (usedR used p.space) l
def procsE (m : Mc) : Int := if 8 < m.procs.length then 6 else if procsR m 0 [] m.procs = true then 0 else 3
theorem addU_length (used : List Int) (g : Pg) : (addU used g).length ≤ used.length + 1 := by
  unfold addU; split <;> simp
theorem usedR_length : ∀ (s : List Pg) (u : List Int), (usedR u s).length ≤ u.length + s.length
  | [], u => by simp [usedR]
  | g :: s, u => by
    have h1 := usedR_length s (addU u g)
    have h2 := addU_length u g
    simp only [usedR, List.length_cons]
    omega
theorem pagesR_bad {m : Mc} {p : Pr} {used : List Int} {g : Pg} {s : List Pg} (h : pageB m p used g = false) : pagesR m p used (g :: s) = false := by
  show (pageB m p used g && _) = false
  rw [h]; rfl
theorem pagesR_ok {m : Mc} {p : Pr} {used : List Int} {g : Pg} {s : List Pg} (h : pageB m p used g = true) : pagesR m p used (g :: s) = pagesR m p (addU used g) s := by
  show (pageB m p used g && _) = _
  rw [h]; rfl
theorem procsR_head {m : Mc} {last : Int} {used : List Int} {p : Pr} {l : List Pr} (h : headB m last p = false) : procsR m last used (p :: l) = false := by
  show (headB m last p && _ && _ && _) = false
  rw [h]; rfl
theorem procsR_pages {m : Mc} {last : Int} {used : List Int} {p : Pr} {l : List Pr} (h : pagesR m p used p.space = false) : procsR m last used (p :: l) = false := by
  show (headB m last p && pagesR m p used p.space && _ && _) = false
  rw [h]; simp
theorem procsR_fds {m : Mc} {last : Int} {used : List Int} {p : Pr} {l : List Pr} (h : p.fds.all (fdB m p) = false) : procsR m last used (p :: l) = false := by
  show (headB m last p && pagesR m p used p.space && p.fds.all (fdB m p) && _) = false
  rw [h]; simp
theorem procsR_ok {m : Mc} {last : Int} {used : List Int} {p : Pr} {l : List Pr} (h1 : headB m last p = true) (h2 : pagesR m p used p.space = true) (h3 : p.fds.all (fdB m p) = true) : procsR m last used (p :: l) = procsR m p.pid (usedR used p.space) l := by
  show (headB m last p && pagesR m p used p.space && p.fds.all (fdB m p) && _) = _
  rw [h1, h2, h3]; rfl
end Go.Proofs.YtmdciljpcnokcaaGreatDoor
