/-
  Plain: where things are on a volume. No program in sight.
-/
import Derived.Test.YtmdciljpcnokcaaGreatDoorPlnA
import Derived.Test.YtmdciljpcnokcaaGreatDoorNumG
namespace Go.Proofs.YtmdciljpcnokcaaGreatDoor
open Go.RowKit

def geo0 : List Int := [0, 0, 0, 0, 0, 0]
def planE (b i : Int) : Int := if b < 16 ∨ 223 < b ∨ i < 4 ∨ 64 < i then 2 else if b ≤ 3 + (i + 1) / 2 then 10 else 0
def planL (b i : Int) : List Int := if planE b i = 0 then [b, i, 1, 2, 3, 3 + (i + 1) / 2] else geo0
theorem planE_zero {b i : Int} : planE b i = 0 ↔ 16 ≤ b ∧ b ≤ 223 ∧ 4 ≤ i ∧ i ≤ 64 ∧ 3 + (i + 1) / 2 < b := by
  unfold planE
  by_cases h : b < 16 ∨ 223 < b ∨ i < 4 ∨ 64 < i
  · rw [if_pos h]; simp; omega
  · rw [if_neg h]
    by_cases h2 : b ≤ 3 + (i + 1) / 2
    · rw [if_pos h2]; simp; omega
    · rw [if_neg h2]; simp; omega
theorem planL_six (b i : Int) : ∃ g0 g1 g2 g3 g4 g5, planL b i = [g0, g1, g2, g3, g4, g5] := by
  unfold planL
  split
  · exact ⟨_, _, _, _, _, _, rfl⟩
  · exact ⟨_, _, _, _, _, _, rfl⟩
def geoV (l : List Int) : List Value := l.map fun n => .int .i64 n
/-- block 0 of a volume -/
def headL (b i : Nat) : List UInt8 := [104, 105, 98, 49] ++ putL b 2 ++ putL i 2 ++ List.replicate 120 0
theorem headL_length (b i : Nat) : (headL b i).length = 128 := by simp [headL, putL_length]
def bitB (s : List UInt8) (i : Nat) : Bool := (s.getD (i / 8) 0).toNat / 2 ^ (i % 8) % 2 == 1
def mapB (s : List UInt8) (d b : Int) (i : Nat) : Bool := !(decide ((i : Int) < d) && !bitB s i) && !(decide (b ≤ (i : Int)) && bitB s i)
def mapAll (s : List UInt8) (d b : Int) (k : Nat) : Bool := (List.range k).all (mapB s d b)
theorem mapAll_succ (s : List UInt8) (d b : Int) (k : Nat) : mapAll s d b (k + 1) = (mapAll s d b k && mapB s d b k) := by
  unfold mapAll; rw [List.range_succ, List.all_append]; simp
theorem mapAll_bad {s : List UInt8} {d b : Int} {k n : Nat} (hk : k < n) (h : mapB s d b k = false) : mapAll s d b n = false := by
  unfold mapAll
  rw [← Bool.not_eq_true, List.all_eq_true]
  intro h2
  rw [h2 k (List.mem_range.2 hk)] at h
  cases h
def inoL (v : List (List UInt8)) : Nat := getL (((v.getD 0 []).drop 6).take 2)
def blkL (v : List (List UInt8)) : Nat := getL (((v.getD 0 []).drop 4).take 2)
def geomB (v : List (List UInt8)) : Bool :=
  v.all is128 && decide (16 ≤ v.length) && decide (planE v.length (inoL v) = 0) && decide (v.getD 0 [] = headL v.length (inoL v)) && mapAll (v.getD 2 []) (3 + ((inoL v : Int) + 1) / 2) v.length 1024
def geomE (v : List (List UInt8)) : Int := if geomB v = true then 0 else 3
def geomL (v : List (List UInt8)) : List Int := if geomB v = true then planL v.length (inoL v) else geo0
theorem putL_two (n : Nat) : putL n 2 = [UInt8.ofNat (n % 256), UInt8.ofNat (n / 256 % 256)] := by simp [putL, List.range_succ]
theorem getL_putL_two {n : Nat} (h : n < 65536) : getL (putL n 2) = n := by
  rw [putL_two]
  simp [getL, getF]
  omega
theorem headL_blk {b i : Nat} (hb : b < 65536) : getL (((headL b i).drop 4).take 2) = b := by
  rw [show ((headL b i).drop 4).take 2 = putL b 2 by simp [headL, putL_two]]
  exact getL_putL_two hb
end Go.Proofs.YtmdciljpcnokcaaGreatDoor
/-
  Plain: which volumes, and which machines, may be. No program in sight.
-/
namespace Go.Proofs.YtmdciljpcnokcaaGreatDoor
open Go.RowKit

/-- writes by rising numbers, each on the volume, each of one block -/
def dirtyR (n : Nat) : Int → List Nb → Bool
  | _, [] => true
  | last, p :: l => decide (last < p.1) && decide (p.1 < (n : Int)) && decide (p.2.length = 128) && dirtyR n p.1 l
theorem dirtyR_ok {n : Nat} {last : Int} {p : Nb} {l : List Nb} (h1 : last < p.1) (h2 : p.1 < (n : Int)) (h3 : p.2.length = 128) : dirtyR n last (p :: l) = dirtyR n p.1 l := by
  show (decide (last < p.1) && decide (p.1 < (n : Int)) && decide (p.2.length = 128) && dirtyR n p.1 l) = _
  simp [h1, h2, h3]
theorem dirtyR_bad {n : Nat} {last : Int} {p : Nb} {l : List Nb} (h : ¬ (last < p.1 ∧ p.1 < (n : Int) ∧ p.2.length = 128)) : dirtyR n last (p :: l) = false := by
  show (decide (last < p.1) && decide (p.1 < (n : Int)) && decide (p.2.length = 128) && dirtyR n p.1 l) = _
  rw [← Bool.not_eq_true]
  simp only [Bool.and_eq_true, decide_eq_true_eq]
  exact fun h' => h ⟨h'.1.1.1, h'.1.1.2, h'.1.2⟩
/-- a write comes to its block -/
def setB (v : List (List UInt8)) (p : Nb) : List (List UInt8) := if 0 ≤ p.1 ∧ p.1 < (v.length : Int) then v.set p.1.toNat p.2 else v
theorem setB_length (v : List (List UInt8)) (p : Nb) : (setB v p).length = v.length := by unfold setB; split <;> simp
/-- a machine's volume -/
def volL (m : Mc) : List (List UInt8) := m.dirty.foldl setB (homeD m.blocks m.pend)
def volE (m : Mc) : Int :=
  if driveE m.blocks m.pend ≠ 0 then driveE m.blocks m.pend
  else if homeD m.blocks m.pend = [] then 3
  else if 32 < m.dirty.length then 6
  else if dirtyR (homeD m.blocks m.pend).length (-1) m.dirty = true then geomE (volL m) else 3
/-- why a machine may not be -/
def checkE (m : Mc) : Int :=
  if numsE m ≠ 0 then numsE m else if framesE m ≠ 0 then framesE m else if procsE m ≠ 0 then procsE m else if pipesE m ≠ 0 then pipesE m else if textsE m ≠ 0 then textsE m else volE m
theorem geomL_length (v : List (List UInt8)) : (geomL v).length = 6 := by
  unfold geomL
  split
  · obtain ⟨_, _, _, _, _, _, h⟩ := planL_six (v.length : Int) (inoL v)
    rw [h]; rfl
  · rfl
end Go.Proofs.YtmdciljpcnokcaaGreatDoor
/-
  Plain: how many pages have a frame. No program in sight.
-/
namespace Go.Proofs.YtmdciljpcnokcaaGreatDoor
open Go.RowKit

def usedP (s : List Pg) : List Int := (s.filter fun g => g.is).map fun g => g.frame
def usersP (s : List Pg) (f : Int) : Nat := (usedP s).count f
def usersL (l : List Pr) (f : Int) : Nat := (l.flatMap fun p => usedP p.space).count f
theorem usersP_snoc {s : List Pg} {j : Nat} {g : Pg} (h : s[j]? = some g) (f : Int) : usersP (s.take (j + 1)) f = usersP (s.take j) f + if g.is = true ∧ g.frame = f then 1 else 0 := by
  obtain ⟨hj, rfl⟩ := List.getElem?_eq_some_iff.1 h
  unfold usersP usedP
  rw [List.take_succ_eq_append_getElem hj, List.filter_append, List.map_append, List.count_append]
  congr 1
  cases hi : s[j].is
  · simp [hi]
  · simp [hi, List.count_singleton]
theorem usersL_snoc {l : List Pr} {k : Nat} {p : Pr} (h : l[k]? = some p) (f : Int) : usersL (l.take (k + 1)) f = usersL (l.take k) f + usersP p.space f := by
  obtain ⟨hk, rfl⟩ := List.getElem?_eq_some_iff.1 h
  unfold usersL usersP
  rw [List.take_succ_eq_append_getElem hk, List.flatMap_append, List.count_append]
  simp
theorem usersP_le (s : List Pg) (f : Int) : usersP s f ≤ s.length := by
  unfold usersP usedP
  have h1 := List.count_le_length (a := f) (l := (s.filter fun g => g.is).map fun g => g.frame)
  have h2 := List.length_filter_le (fun g : Pg => g.is) s
  rw [List.length_map] at h1
  omega
def livesAt (m : Mc) (pid : Int) : Bool := m.procs.any fun q => q.pid == pid && livesB q
end Go.Proofs.YtmdciljpcnokcaaGreatDoor
