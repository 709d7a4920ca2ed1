import Derived.Test.YtdlnmdbonagchaaGreatDoorPlnQ
import Derived.Test.YtdlnmdbonagchaaGreatDoorNumQ
namespace Go.Proofs.YtdlnmdbonagchaaGreatDoor
open Go.RowKit
def geo0 : List Int:=[0,0,0,0,0,0]
def planE (b i : Int) : Int:=if b < 16 ∨ 223 < b ∨ i < 4 ∨ 64 < i then 2 else if b ≤ 3 + (i + 1) / 2 then 10 else 0
def planL (b i : Int) : List Int:=if planE b i = 0 then [b,i,1,2,3,3 + (i + 1) / 2] else geo0
theorem planE_zero {b i : Int} : planE b i = 0 ↔ 16 ≤ b ∧ b ≤ 223 ∧ 4 ≤ i ∧ i ≤ 64 ∧ 3 + (i + 1) / 2 < b:=by
 unfold planE;by_cases h : b < 16 ∨ 223 < b ∨ i < 4 ∨ 64 < i
 ·rw [if_pos h];simp;omega
 ·rw [if_neg h];by_cases h2 : b ≤ 3 + (i + 1) / 2
  ·rw [if_pos h2];simp;omega
  ·rw [if_neg h2];simp;omega
theorem planL_six (b i : Int) : ∃ g0 g1 g2 g3 g4 g5,planL b i = [g0,g1,g2,g3,g4,g5]:=by
 unfold planL;split
 ·exact ⟨_,_,_,_,_,_,rfl⟩
 ·exact ⟨_,_,_,_,_,_,rfl⟩
def geoV (l : List Int) : List Value:=l.map fun n => .int .i64 n
def headL (b i : Nat) : List UInt8:=[104,105,98,49] ++ putL b 2 ++ putL i 2 ++ List.replicate 120 0
def bitB (s : List UInt8) (i : Nat) : Bool:=(s.getD (i / 8) 0).toNat / 2 ^ (i % 8) % 2 == 1
def mapB (s : List UInt8) (d b : Int) (i : Nat) : Bool:=!(decide ((i : Int) < d) && !bitB s i) && !(decide (b ≤ (i : Int)) && bitB s i)
def mapAll (s : List UInt8) (d b : Int) (k : Nat) : Bool:=(List.range k).all (mapB s d b)
theorem mapAll_succ (s : List UInt8) (d b : Int) (k : Nat) : mapAll s d b (k + 1) = (mapAll s d b k && mapB s d b k):=by
 unfold mapAll;rw [List.range_succ,List.all_append];simp
theorem mapAll_bad {s : List UInt8} {d b : Int} {k n : Nat} (hk : k < n) (h : mapB s d b k = false) : mapAll s d b n = false:=by
 unfold mapAll;rw [← Bool.not_eq_true,List.all_eq_true];intro h2;rw [h2 k (List.mem_range.2 hk)] at h;cases h
def inoL (v : List (List UInt8)) : Nat:=getL (((v.getD 0 []).drop 6).take 2)
def blkL (v : List (List UInt8)) : Nat:=getL (((v.getD 0 []).drop 4).take 2)
def geomB (v : List (List UInt8)) : Bool :=
 v.all is128 && decide (16 ≤ v.length) && decide (planE v.length (inoL v) = 0) && decide (v.getD 0 [] = headL v.length (inoL v)) && mapAll (v.getD 2 []) (3 + ((inoL v : Int) + 1) / 2) v.length 1024
def geomE (v : List (List UInt8)) : Int:=if geomB v = true then 0 else 3
def geomL (v : List (List UInt8)) : List Int:=if geomB v = true then planL v.length (inoL v) else geo0
theorem putL_two (n : Nat) : putL n 2 = [UInt8.ofNat (n % 256),UInt8.ofNat (n / 256 % 256)]:=by simp [putL,List.range_succ]
theorem getL_putL_two {n : Nat} (h : n < 65536) : getL (putL n 2) = n:=by
 rw [putL_two];simp [getL,getF];omega
theorem headL_blk {b i : Nat} (hb : b < 65536) : getL (((headL b i).drop 4).take 2) = b:=by
 rw [show ((headL b i).drop 4).take 2 = putL b 2 by simp [headL,putL_two]];exact getL_putL_two hb
end Go.Proofs.YtdlnmdbonagchaaGreatDoor
namespace Go.Proofs.YtdlnmdbonagchaaGreatDoor
open Go.RowKit
end Go.Proofs.YtdlnmdbonagchaaGreatDoor
namespace Go.Proofs.YtdlnmdbonagchaaGreatDoor
open Go.RowKit
end Go.Proofs.YtdlnmdbonagchaaGreatDoor
