/-
  Plain: a digest over bytes that come in pieces. No program in sight.
-/
import Derived.Test.YtecamaceainfpaaDoorBlake
namespace Go.Proofs.YtecamaceainfpaaDoor
open Go.RowKit

/-- block k of a text -/
def blk (s : List UInt8) (k : Nat) : List UInt8 := (s.drop (64 * k)).take 64
/-- the eight numbers, q blocks taken in -/
def hq (hs : List UInt32) (s : List UInt8) : Nat → List UInt32
  | 0 => hs
  | k + 1 => takeL (hq hs s k) (blk s k) (64 * (k + 1)) false
theorem hq_length {hs : List UInt32} (hh : hs.length = 8) (s : List UInt8) (k : Nat) : (hq hs s k).length = 8 := by
  cases k with
  | zero => exact hh
  | succ k => exact takeL_length _ _ _ _
theorem blk_append (s x : List UInt8) {k : Nat} (h : 64 * (k + 1) ≤ s.length) : blk (s ++ x) k = blk s k := by
  unfold blk
  rw [List.drop_append_of_le_length (by omega), List.take_append_of_le_length (by simp; omega)]
theorem hq_append (hs : List UInt32) (s x : List UInt8) : ∀ k, 64 * k ≤ s.length → hq hs (s ++ x) k = hq hs s k
  | 0, _ => rfl
  | k + 1, h => by rw [hq, hq, hq_append hs s x k (by omega), blk_append s x h]

/-- the state (h, wt, f, n) stands for the bytes 'pre' -/
def Rep (hs : List UInt32) (pre : List UInt8) (h : List UInt32) (wt : List UInt8) (f n : Nat) : Prop :=
  ∃ q, n = 64 * q ∧ f + 64 * q = pre.length ∧ f ≤ 64 ∧ h = hq hs pre q ∧ wt.length = 64 ∧ wt.take f = pre.drop (64 * q)
/-- and a block that was taken is not the last one -/
def Alive (f n : Nat) : Prop := 0 < n → 0 < f

theorem Rep.empty (hs : List UInt32) (wt : List UInt8) (hw : wt.length = 64) : Rep hs [] hs wt 0 0 := ⟨0, rfl, rfl, by omega, rfl, hw, by simp⟩
theorem Rep.full {hs : List UInt32} {pre : List UInt8} {h : List UInt32} {wt : List UInt8} {n : Nat} (r : Rep hs pre h wt 64 n) : Rep hs pre (takeL h wt (n + 64) false) wt 0 (n + 64) := by
  obtain ⟨q, rfl, hl, _, rfl, hw, ht⟩ := r
  refine ⟨q + 1, by omega, by omega, by omega, ?_, hw, ?_⟩
  · rw [hq, show 64 * q + 64 = 64 * (q + 1) by omega]
    congr 1
    unfold blk
    rw [← ht, List.take_of_length_le (by omega : wt.length ≤ 64), List.take_of_length_le (by omega)]
  · rw [List.drop_of_length_le (by omega)]; simp
theorem Rep.put {hs : List UInt32} {pre : List UInt8} {h : List UInt32} {wt : List UInt8} {f n : Nat} (r : Rep hs pre h wt f n) (x : List UInt8) (hx : f + x.length ≤ 64) :
    Rep hs (pre ++ x) h (wt.take f ++ (x ++ wt.drop (f + x.length))) (f + x.length) n := by
  obtain ⟨q, rfl, hl, hf, rfl, hw, ht⟩ := r
  refine ⟨q, rfl, by simp; omega, hx, ?_, ?_, ?_⟩
  · rw [hq_append hs pre x q (by omega)]
  · simp [hw]; omega
  · have hl2 : (wt.take f).length = f := by simp [hw]; omega
    rw [← List.append_assoc, List.take_append_of_le_length (by simp; omega), List.take_of_length_le (by simp; omega), ht, List.drop_append_of_le_length (by omega)]
theorem Rep.h_length {hs : List UInt32} {pre : List UInt8} {h : List UInt32} {wt : List UInt8} {f n : Nat} (r : Rep hs pre h wt f n) (hh : hs.length = 8) : h.length = 8 := by
  obtain ⟨q, _, _, _, rfl, _⟩ := r; exact hq_length hh pre q
theorem Rep.w_length {hs : List UInt32} {pre : List UInt8} {h : List UInt32} {wt : List UInt8} {f n : Nat} (r : Rep hs pre h wt f n) : wt.length = 64 := by
  obtain ⟨q, _, _, _, _, hw, _⟩ := r; exact hw
theorem Rep.f_le {hs : List UInt32} {pre : List UInt8} {h : List UInt32} {wt : List UInt8} {f n : Nat} (r : Rep hs pre h wt f n) : f ≤ 64 := by
  obtain ⟨q, _, _, hf, _⟩ := r; exact hf
theorem Rep.len {hs : List UInt32} {pre : List UInt8} {h : List UInt32} {wt : List UInt8} {f n : Nat} (r : Rep hs pre h wt f n) : f + n = pre.length := by
  obtain ⟨q, rfl, hl, _⟩ := r; exact hl

/-- a text's last block, filled up with zeros -/
def lastBlk (s : List UInt8) (q : Nat) : List UInt8 := s.drop (64 * q) ++ List.replicate (64 - (s.length - 64 * q)) 0
/-- how many blocks stand ahead of the last one -/
def ahead (s : List UInt8) : Nat := (s.length - 1) / 64
/-- the eight numbers of the digest of a text -/
def sumL (hs : List UInt32) (s : List UInt8) : List UInt32 := takeL (hq hs s (ahead s)) (lastBlk s (ahead s)) s.length true
theorem Rep.end_ {hs : List UInt32} {pre : List UInt8} {h : List UInt32} {wt : List UInt8} {f n : Nat} (r : Rep hs pre h wt f n) (ha : Alive f n) :
    takeL h (wt.take f ++ List.replicate (64 - f) 0) (n + f) true = sumL hs pre := by
  obtain ⟨q, rfl, hl, hf, rfl, hw, ht⟩ := r
  have hq' : ahead pre = q := by
    unfold ahead
    unfold Alive at ha
    by_cases h0 : q = 0
    · subst h0; omega
    · have := ha (by omega); omega
  unfold sumL lastBlk
  rw [hq', ht, show 64 * q + f = pre.length by omega, show 64 - (pre.length - 64 * q) = 64 - f by omega]

/-- a 32-bit number's four bytes, the lowest one first -/
def bytes4 (x : UInt32) : List UInt8 := (List.range 4).map fun j => UInt8.ofNat (x.toNat / 2 ^ (8 * j))
/-- the digest of a text -/
def digL (hs : List UInt32) (s : List UInt8) : List UInt8 := (sumL hs s).flatMap bytes4
theorem bytes4_length (x : UInt32) : (bytes4 x).length = 4 := by simp [bytes4]
theorem sumL_length (hs : List UInt32) (s : List UInt8) : (sumL hs s).length = 8 := takeL_length _ _ _ _
theorem digL_length (hs : List UInt32) (s : List UInt8) : (digL hs s).length = 32 := by
  unfold digL
  rw [List.length_flatMap]
  have : (sumL hs s).map (fun a => (bytes4 a).length) = List.replicate 8 4 := by
    rw [List.eq_replicate_iff]
    exact ⟨by simp [sumL_length], by intro b hb; obtain ⟨a, _, rfl⟩ := List.mem_map.1 hb; exact bytes4_length a⟩
  rw [this]; rfl

theorem stCells_set_n {h : List UInt32} {wt : List UInt8} {f n : Nat} (hh : h.length = 8) (hw : wt.length = 64) (m : Nat) : (stCells h wt f n).set 73 (Value.int .u64 (m : Int)) = stCells h wt f m := by
  unfold stCells; rw [List.set_append, if_neg (by simp; omega), List.set_append, if_neg (by simp; omega)]; simp [hh, hw]
theorem stCells_set_f {h : List UInt32} {wt : List UInt8} {f n : Nat} (hh : h.length = 8) (hw : wt.length = 64) (m : Nat) : (stCells h wt f n).set 72 (Value.int .i64 (m : Int)) = stCells h wt m n := by
  unfold stCells; rw [List.set_append, if_neg (by simp; omega), List.set_append, if_neg (by simp; omega)]; simp [hh, hw]
/-- bytes laid into those that wait -/
theorem stCells_put {h : List UInt32} {wt : List UInt8} {f n : Nat} (hh : h.length = 8) (hw : wt.length = 64) (o : Nat) (x : List UInt8) (hx : o + x.length ≤ 64) :
    (stCells h wt f n).take (8 + o) ++ (x.map B8 ++ (stCells h wt f n).drop (8 + o + x.length)) = stCells h (wt.take o ++ (x ++ wt.drop (o + x.length))) f n := by
  unfold stCells
  have e1 : (h.map U).length = 8 := by simp [hh]
  rw [List.take_append, List.drop_append, e1, List.take_of_length_le (by omega), List.drop_of_length_le (by omega), List.nil_append, show 8 + o - 8 = o by omega, show 8 + o + x.length - 8 = o + x.length by omega]
  rw [List.take_append_of_le_length (by simp; omega), List.drop_append_of_le_length (by simp; omega)]
  simp [List.map_append, List.map_take, List.map_drop, List.append_assoc]
theorem stCells_length {h : List UInt32} {wt : List UInt8} {f n : Nat} (hh : h.length = 8) (hw : wt.length = 64) : (stCells h wt f n).length = 74 := by
  simp [stCells, hh, hw]
end Go.Proofs.YtecamaceainfpaaDoor
