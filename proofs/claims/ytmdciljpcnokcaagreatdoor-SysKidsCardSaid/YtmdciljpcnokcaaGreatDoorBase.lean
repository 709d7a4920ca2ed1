/-
  Words for memory that all walks of this family share: a list of cells that lies behind a slice; a block that is known whole; strings as lists of bytes. Plain lemmas on worlds, no program in sight.
-/
import Derived.WalkKit
import Derived.WalkSpells
import Derived.WalkLawsBesides
import Derived.Lib.Hide
import Derived.Laws.OwnMore
import Derived.Deep.AppendLies
import Derived.Deep.Draws
import Derived.Maps.AppendAt
import Derived.Laws.CopyRow
namespace Go.Proofs.YtmdciljpcnokcaaGreatDoor
open Go.RowKit

/-- a string, by the list of its bytes -/
abbrev S (l : List UInt8) : Value := .string ⟨l.toArray⟩
theorem ret_int {k : IntKind} {a b : Int} (h : a = b) : Ending.returned (.int k a) = .returned (.int k b) := by rw [h]
theorem S_of (s : ByteArray) : Value.string s = S s.data.toList := by cases s; simp [S]

/-- the cells xs lie behind the address A, one behind the other, in a block below B -/
def Lies (w : World) (B : Nat) (A : Option Addr) (xs : List Value) : Prop :=
  ∀ k u, xs[k]? = some u → ∃ ad, A = some ad ∧ ad.block < B ∧ w.cell? (ad.add k) = some u

section
variable {w w' : World} {B B' : Nat} {A : Option Addr} {xs : List Value}
theorem Lies.none (w : World) (B : Nat) (A : Option Addr) : Lies w B A [] := fun k u h => by simp at h
theorem Lies.same (h : Lies w B A xs) (hk : ∀ p : Addr, p.block < B → w'.cell? p = w.cell? p) : Lies w' B A xs := fun k u hu => by
  obtain ⟨ad, e, hb, hc⟩ := h k u hu
  exact ⟨ad, e, hb, (hk _ (by unfold Addr.add; split <;> exact hb)).trans hc⟩
theorem Lies.wide (h : Lies w B A xs) (hB : B ≤ B') : Lies w B' A xs := fun k u hu => by
  obtain ⟨ad, e, hb, hc⟩ := h k u hu
  exact ⟨ad, e, Nat.lt_of_lt_of_le hb hB, hc⟩
theorem Lies.below (h : Lies w B A xs) (hb : Below B w w') : Lies w' B A xs := h.same fun _ hp => hb.cell hp
theorem Lies.draws (h : Lies w B A xs) (n : Nat) : Lies (w.drewN n) B A xs := h
theorem Lies.draw (h : Lies w B A xs) : Lies w.drew B A xs := h
theorem Lies.block (h : Lies w B A xs) (hB : B ≤ w.heap.size) (o : Obj) : Lies (w.alloc o) B A xs := h.same fun p hp => World.cell?_alloc_lt w o p (by omega)
theorem Lies.put (h : Lies w B A xs) {p : Addr} (hB : B ≤ p.block) (u : Value) : Lies (w.setCell p u) B A xs :=
  h.same fun q hq => World.cell?_setCell_other w p q u (fun e => by subst e; omega)
end

/-- block g is the cells cs of element type t, none of them frozen -/
def Whole (w : World) (g : Nat) (t : TypeId) (cs : Array Value) : Prop := w.heap[g]? = some (.cells cs t (0, 0))

section
variable {w w' : World} {g : Nat} {t : TypeId} {cs : Array Value}
theorem Whole.lt (h : Whole w g t cs) : g < w.heap.size := by
  apply Decidable.byContradiction
  intro hn
  unfold Whole at h
  rw [Array.getElem?_eq_none (by omega)] at h
  cases h
theorem Whole.cell (h : Whole w g t cs) (i : Nat) : w.cell? ⟨g, i, none⟩ = cs[i]? := cell_of_row w g i cs t (0, 0) h
theorem Whole.free (h : Whole w g t cs) (i : Nat) : w.frozen? ⟨g, i, none⟩ = false := by
  unfold Whole at h
  simp [World.frozen?, h]
theorem Whole.made (w : World) (t : TypeId) (cs : Array Value) : Whole (w.alloc (.cells cs t)) w.heap.size t cs := heap_alloc_new w _
theorem Whole.block (h : Whole w g t cs) (o : Obj) : Whole (w.alloc o) g t cs := (Below.heap_alloc w o g h.lt).trans h
theorem Whole.draws (h : Whole w g t cs) (n : Nat) : Whole (w.drewN n) g t cs := h
theorem Whole.draw (h : Whole w g t cs) : Whole w.drew g t cs := h
theorem Whole.set (h : Whole w g t cs) (i : Nat) (u : Value) : Whole (w.setCell ⟨g, i, none⟩ u) g t (cs.setIfInBounds i u) := by
  unfold Whole at h ⊢
  simp [World.setCell, Array.getElem?_modify, h]
theorem Whole.far (h : Whole w g t cs) {p : Addr} (hp : g ≠ p.block) (u : Value) : Whole (w.setCell p u) g t cs := (Below.heap_setCell w p u g hp).trans h
theorem Whole.below {B : Nat} (h : Whole w g t cs) (hb : Below B w w') (hg : g < B) : Whole w' g t cs := (hb.block g hg).trans h
theorem Whole.other {row : Option Nat} (h : Whole w g t cs) (hb : w.grownBy w' row) (hg : some g ≠ row) : Whole w' g t cs := (hb.block g h.lt hg).trans h
end

theorem Below.draws {B : Nat} {a w : World} (h : Below B a w) (n : Nat) : Below B a (w.drewN n) := ⟨h.os, h.tape, h.output, h.size, h.block⟩

/-- a slice of strings, by the lists of their bytes -/
abbrev Strs (w : World) (B : Nat) (A : Option Addr) (ls : List (List UInt8)) : Prop := Lies w B A (ls.map S)
theorem Strs.at' {w : World} {B k : Nat} {A : Option Addr} {ls : List (List UInt8)} (h : Strs w B A ls) (hk : k < ls.length) : ∃ ad, A = some ad ∧ ad.block < B ∧ w.cell? (ad.add k) = some (S (ls.getD k [])) :=
  h k _ (by simp [hk])
end Go.Proofs.YtmdciljpcnokcaaGreatDoor
/-
  Plain numbers: 32-bit words as the model's integers. No program in sight.
-/
namespace Go.Proofs.YtmdciljpcnokcaaGreatDoor
open Go.RowKit

/-- a 32-bit number as a value -/
abbrev U (x : UInt32) : Value := .int .u32 (x.toNat : Int)

/-- sums and unlikenesses of 32-bit numbers, behind names that no simp set opens -/
def ua (x y : UInt32) : UInt32 := x + y
def ux (x y : UInt32) : UInt32 := x ^^^ y
def R16 (x : UInt32) : UInt32 := (x >>> 16) ||| (x <<< 16)
def R12 (x : UInt32) : UInt32 := (x >>> 12) ||| (x <<< 20)
def R8 (x : UInt32) : UInt32 := (x >>> 8) ||| (x <<< 24)
def R7 (x : UInt32) : UInt32 := (x >>> 7) ||| (x <<< 25)

theorem u_add (x y : UInt32) : ((x.toNat : Int) + (y.toNat : Int)) % 4294967296 = ((ua x y).toNat : Int) := by
  unfold ua; rw [UInt32.toNat_add]; omega
theorem u_wadd (x y : UInt32) : IntKind.u32.wrap ((x.toNat : Int) + (y.toNat : Int)) = ((ua x y).toNat : Int) := by
  rw [IntKind.wrap_u32]; exact u_add x y
theorem u_xor (x y : UInt32) : bits .xor .u32 (x.toNat : Int) (y.toNat : Int) = ((ux x y).toNat : Int) := by
  unfold ux; rw [u32_xor_nat _ _ x.toNat_lt y.toNat_lt, UInt32.toNat_xor]
theorem u_not (x : UInt32) : (4294967295 - (x.toNat : Int)) = ((~~~ x).toNat : Int) := by
  have := x.toNat_lt
  rw [UInt32.toNat_not]; simp [UInt32.size]; omega

theorem u_or_parts (x y : Nat) (hx : x < 4294967296) (hy : y < 4294967296) (i j : Int) (hi : i = (x : Int)) (hj : j = (y : Int)) : bits .or .u32 i j = ((x ||| y : Nat) : Int) := by
  subst hi hj; exact u32_or_nat x y hx hy

theorem rot_of (x : UInt32) (p q : Nat) (r : UInt32) (hr : r.toNat = (x.toNat / p) ||| (x.toNat * q % 4294967296)) :
    bits .or .u32 ((x.toNat : Int) * (q : Int) % 4294967296) ((x.toNat : Int) / (p : Int)) = (r.toNat : Int) := by
  have hx := x.toNat_lt
  have h1 : x.toNat / p < 4294967296 := Nat.lt_of_le_of_lt (Nat.div_le_self _ _) hx
  rw [u_or_parts (x.toNat * q % 4294967296) (x.toNat / p) (Nat.mod_lt _ (by decide)) h1 _ _ (by rw [Int.natCast_emod, Int.natCast_mul]; rfl) (by rw [Int.natCast_ediv]), hr, Nat.or_comm]

theorem rot16_eq (x : UInt32) : bits .or .u32 ((x.toNat : Int) * 65536 % 4294967296) ((x.toNat : Int) / 65536) = ((R16 x).toNat : Int) :=
  rot_of x 65536 65536 _ (by simp [R16, Nat.shiftRight_eq_div_pow, Nat.shiftLeft_eq])
theorem rot12_eq (x : UInt32) : bits .or .u32 ((x.toNat : Int) * 1048576 % 4294967296) ((x.toNat : Int) / 4096) = ((R12 x).toNat : Int) :=
  rot_of x 4096 1048576 _ (by simp [R12, Nat.shiftRight_eq_div_pow, Nat.shiftLeft_eq])
theorem rot8_eq (x : UInt32) : bits .or .u32 ((x.toNat : Int) * 16777216 % 4294967296) ((x.toNat : Int) / 256) = ((R8 x).toNat : Int) :=
  rot_of x 256 16777216 _ (by simp [R8, Nat.shiftRight_eq_div_pow, Nat.shiftLeft_eq])
theorem rot7_eq (x : UInt32) : bits .or .u32 ((x.toNat : Int) * 33554432 % 4294967296) ((x.toNat : Int) / 128) = ((R7 x).toNat : Int) :=
  rot_of x 128 33554432 _ (by simp [R7, Nat.shiftRight_eq_div_pow, Nat.shiftLeft_eq])

/-- what mix does to sixteen numbers -/
def mixL (v : List UInt32) (a b c d : Nat) (x y : UInt32) : List UInt32 :=
  let a1 := ua (v.getD a 0) (ua (v.getD b 0) x)
  let d1 := R16 (ux (v.getD d 0) a1)
  let c1 := ua (v.getD c 0) d1
  let b1 := R12 (ux (v.getD b 0) c1)
  let a2 := ua a1 (ua b1 y)
  let d2 := R8 (ux d1 a2)
  let c2 := ua c1 d2
  let b2 := R7 (ux b1 c2)
  (((v.set a a2).set d d2).set c c2).set b b2
theorem mixL_length (v : List UInt32) (a b c d : Nat) (x y : UInt32) : (mixL v a b c d x y).length = v.length := by simp [mixL]
end Go.Proofs.YtmdciljpcnokcaaGreatDoor
/-
  The digest as a plain function on lists: what hash.take computes. No program in sight.
-/
namespace Go.Proofs.YtmdciljpcnokcaaGreatDoor
open Go.RowKit

/-- a byte as a value -/
abbrev B8 (b : UInt8) : Value := .int .u8 (b.toNat : Int)

def IV : List UInt32 := [1779033703, 3144134277, 1013904242, 2773480762, 1359893119, 2600822924, 528734635, 1541459225]
def SIG : List (List Nat) := [
  [0, 1, 2, 3, 4, 5, 6, 7, 8, 9, 10, 11, 12, 13, 14, 15],
  [14, 10, 4, 8, 9, 15, 13, 6, 1, 12, 0, 2, 11, 7, 5, 3],
  [11, 8, 12, 0, 5, 2, 15, 13, 10, 14, 3, 6, 7, 1, 9, 4],
  [7, 9, 3, 1, 13, 12, 11, 14, 2, 6, 5, 10, 4, 0, 15, 8],
  [9, 0, 5, 7, 2, 4, 10, 15, 14, 1, 11, 12, 6, 8, 3, 13],
  [2, 12, 6, 10, 0, 11, 8, 3, 4, 13, 7, 5, 15, 14, 1, 9],
  [12, 5, 1, 15, 14, 13, 4, 10, 0, 7, 6, 3, 9, 2, 8, 11],
  [13, 11, 7, 14, 12, 1, 3, 9, 5, 0, 15, 4, 8, 6, 2, 10],
  [6, 15, 14, 9, 11, 3, 0, 8, 12, 2, 13, 7, 1, 4, 10, 5],
  [10, 2, 8, 4, 7, 6, 1, 5, 15, 11, 9, 14, 3, 12, 13, 0]]
/-- the row of round k, number j -/
def sg (k j : Nat) : Nat := (SIG.getD k []).getD j 0
theorem sg_lt (k j : Nat) : sg k j < 16 := by
  have h : ∀ k < 10, ∀ j < 16, sg k j < 16 := by decide
  by_cases hk : k < 10
  · by_cases hj : j < 16
    · exact h k hk j hj
    · have : (SIG.getD k []).length ≤ 16 := by
        have h2 : ∀ k < 10, (SIG.getD k []).length = 16 := by decide
        rw [h2 k hk]; omega
      unfold sg; rw [List.getD_eq_getElem?_getD, List.getElem?_eq_none (by omega)]; decide
  · unfold sg; rw [List.getD_eq_getElem?_getD, List.getD_eq_getElem?_getD, List.getElem?_eq_none (l := SIG) (by simp [SIG]; omega)]; simp
theorem sig_length {k : Nat} (hk : k < 10) : (SIG.getD k []).length = 16 := by
  have h2 : ∀ k < 10, (SIG.getD k []).length = 16 := by decide
  exact h2 k hk

/-- four bytes as a number -/
def le32 (a b c d : UInt8) : UInt32 := UInt32.ofNat (a.toNat + 256 * b.toNat + 65536 * c.toNat + 16777216 * d.toNat)
/-- a block's sixteen numbers -/
def words (wt : List UInt8) : List UInt32 := (List.range 16).map fun i => le32 (wt.getD (4 * i) 0) (wt.getD (4 * i + 1) 0) (wt.getD (4 * i + 2) 0) (wt.getD (4 * i + 3) 0)
theorem words_length (wt : List UInt8) : (words wt).length = 16 := by simp [words]
theorem words_at (wt : List UInt8) {k : Nat} (hk : k < 16) : (words wt).getD k 0 = le32 (wt.getD (4 * k) 0) (wt.getD (4 * k + 1) 0) (wt.getD (4 * k + 2) 0) (wt.getD (4 * k + 3) 0) := by
  simp [words, hk]

/-- one round: eight mixes -/
def round (m : List UInt32) (k : Nat) (v0 : List UInt32) : List UInt32 :=
  let v1 := mixL v0 0 4 8 12 (m.getD (sg k 0) 0) (m.getD (sg k 1) 0)
  let v2 := mixL v1 1 5 9 13 (m.getD (sg k 2) 0) (m.getD (sg k 3) 0)
  let v3 := mixL v2 2 6 10 14 (m.getD (sg k 4) 0) (m.getD (sg k 5) 0)
  let v4 := mixL v3 3 7 11 15 (m.getD (sg k 6) 0) (m.getD (sg k 7) 0)
  let v5 := mixL v4 0 5 10 15 (m.getD (sg k 8) 0) (m.getD (sg k 9) 0)
  let v6 := mixL v5 1 6 11 12 (m.getD (sg k 10) 0) (m.getD (sg k 11) 0)
  let v7 := mixL v6 2 7 8 13 (m.getD (sg k 12) 0) (m.getD (sg k 13) 0)
  mixL v7 3 4 9 14 (m.getD (sg k 14) 0) (m.getD (sg k 15) 0)
theorem round_length (m : List UInt32) (k : Nat) (v : List UInt32) : (round m k v).length = v.length := by simp [round, mixL_length]
def rounds (m v : List UInt32) : Nat → List UInt32
  | 0 => v
  | k + 1 => round m k (rounds m v k)
theorem rounds_length (m v : List UInt32) (k : Nat) : (rounds m v k).length = v.length := by
  induction k with
  | zero => rfl
  | succ k ih => rw [rounds, round_length, ih]

def vstart (h : List UInt32) (n : Nat) : List UInt32 :=
  let v := h ++ IV
  let v1 := v.set 12 (ux (v.getD 12 0) (UInt32.ofNat n))
  v1.set 13 (ux (v1.getD 13 0) (UInt32.ofNat (n / 4294967296)))
def vlast (v : List UInt32) (last : Bool) : List UInt32 := if last then v.set 14 (~~~ (v.getD 14 0)) else v
theorem vstart_length {h : List UInt32} (hh : h.length = 8) (n : Nat) : (vstart h n).length = 16 := by simp [vstart, hh, IV]
theorem vlast_length (v : List UInt32) (b : Bool) : (vlast v b).length = v.length := by unfold vlast; split <;> simp
/-- the digest's eight numbers, a block taken in -/
def takeL (h : List UInt32) (wt : List UInt8) (n : Nat) (last : Bool) : List UInt32 :=
  let v := rounds (words wt) (vlast (vstart h n) last) 10
  (List.range 8).map fun i => ux (h.getD i 0) (ux (v.getD i 0) (v.getD (i + 8) 0))
theorem takeL_length (h : List UInt32) (wt : List UInt8) (n : Nat) (last : Bool) : (takeL h wt n last).length = 8 := by simp [takeL]

/-- a digest that is being made, as cells: its eight numbers, the bytes that wait, how many they are, how many went -/
def stCells (h : List UInt32) (wt : List UInt8) (f n : Nat) : List Value := h.map U ++ (wt.map B8 ++ [Value.int .i64 (f : Int), Value.int .u64 (n : Int)])
theorem stCells_h {h : List UInt32} {wt : List UInt8} {f n : Nat} (hh : h.length = 8) {i : Nat} (hi : i < 8) : (stCells h wt f n)[i]? = some (U (h.getD i 0)) := by
  unfold stCells; rw [List.getElem?_append_left (by simp; omega)]; simp [hh, hi]
theorem stCells_w {h : List UInt32} {wt : List UInt8} {f n : Nat} (hh : h.length = 8) (hw : wt.length = 64) {i : Nat} (hi : i < 64) : (stCells h wt f n)[8 + i]? = some (B8 (wt.getD i 0)) := by
  unfold stCells; rw [List.getElem?_append_right (by simp; omega), List.getElem?_append_left (by simp; omega)]; simp [hh, hw, hi]
theorem stCells_f {h : List UInt32} {wt : List UInt8} {f n : Nat} (hh : h.length = 8) (hw : wt.length = 64) : (stCells h wt f n)[72]? = some (Value.int .i64 (f : Int)) := by
  unfold stCells; rw [List.getElem?_append_right (by simp; omega), List.getElem?_append_right (by simp; omega)]; simp [hh, hw]
theorem stCells_n {h : List UInt32} {wt : List UInt8} {f n : Nat} (hh : h.length = 8) (hw : wt.length = 64) : (stCells h wt f n)[73]? = some (Value.int .u64 (n : Int)) := by
  unfold stCells; rw [List.getElem?_append_right (by simp; omega), List.getElem?_append_right (by simp; omega)]; simp [hh, hw]
theorem stCells_set_h {h : List UInt32} {wt : List UInt8} {f n : Nat} (hh : h.length = 8) {i : Nat} (hi : i < 8) (x : UInt32) : (stCells h wt f n).set i (U x) = stCells (h.set i x) wt f n := by
  unfold stCells; rw [List.set_append, if_pos (by simp; omega), ← List.map_set]

theorem le_eq (a b c d : UInt8) :
    bits .or .u32 (bits .or .u32 (bits .or .u32 (a.toNat : Int) ((b.toNat : Int) * 256 % 4294967296)) ((c.toNat : Int) * 65536 % 4294967296)) ((d.toNat : Int) * 16777216 % 4294967296) = ((le32 a b c d).toNat : Int) := by
  have ha := a.toNat_lt; have hb := b.toNat_lt; have hc := c.toNat_lt; have hd := d.toNat_lt
  have e1 : (b.toNat : Int) * 256 % 4294967296 = ((2 ^ 8 * b.toNat : Nat) : Int) := by omega
  have e2 : (c.toNat : Int) * 65536 % 4294967296 = ((2 ^ 16 * c.toNat : Nat) : Int) := by omega
  have e3 : (d.toNat : Int) * 16777216 % 4294967296 = ((2 ^ 24 * d.toNat : Nat) : Int) := by omega
  rw [e1, e2, e3, u32_or_nat _ _ (by omega) (by omega), Nat.or_comm, ← Nat.two_pow_add_eq_or_of_lt (by omega : a.toNat < 2 ^ 8)]
  rw [u32_or_nat _ _ (by omega) (by omega), Nat.or_comm, ← Nat.two_pow_add_eq_or_of_lt (by omega : 2 ^ 8 * b.toNat + a.toNat < 2 ^ 16)]
  rw [u32_or_nat _ _ (by omega) (by omega), Nat.or_comm, ← Nat.two_pow_add_eq_or_of_lt (by omega : 2 ^ 16 * c.toNat + (2 ^ 8 * b.toNat + a.toNat) < 2 ^ 24)]
  unfold le32
  rw [UInt32.toNat_ofNat']
  omega
theorem u32_byte (b : UInt8) : IntKind.u32.wrap (b.toNat : Int) = (b.toNat : Int) := by
  have := b.toNat_lt
  rw [IntKind.wrap_u32]; omega
theorem le_eq' (a b c d : UInt8) :
    bits .or .u32 (bits .or .u32 (bits .or .u32 (IntKind.u32.wrap (a.toNat : Int)) (IntKind.u32.wrap (IntKind.u32.wrap (b.toNat : Int) * 256))) (IntKind.u32.wrap (IntKind.u32.wrap (c.toNat : Int) * 65536))) (IntKind.u32.wrap (IntKind.u32.wrap (d.toNat : Int) * 16777216)) = ((le32 a b c d).toNat : Int) := by
  rw [u32_byte, u32_byte, u32_byte, u32_byte, IntKind.wrap_u32, IntKind.wrap_u32, IntKind.wrap_u32]
  exact le_eq a b c d
end Go.Proofs.YtmdciljpcnokcaaGreatDoor
/-
  Laws of the model that the walks want and that the library has not in this form: an array loaded out of the middle of a block, an element of an array that is a value. Over any program.
-/
namespace Go.Proofs.YtmdciljpcnokcaaGreatDoor
open Go.RowKit

section
variable {P : Program}
theorem run_loadVar_at (w : World) (ad : Addr) (ty : TypeId) (cs : List Value) (d : TypeDesc) (hc : ∀ j v, cs[j]? = some v → w.cell? (ad.add j) = some v)
    (hu : P.underlying ty = some d) (hd : (match d with | .struct _ | .array _ _ => true | _ => false) = true) (hi : (P.info? ty).map (·.size) = some cs.length) :
    (loadVar ty ad).run P w = .ok (.agg cs.toArray) w := by
  have hl : (loadCells ad cs.length).run P w = .ok cs.toArray w := run_loadCells_list (P := P) w ad cs hc
  cases hq : P.info? ty with
  | none => simp [hq] at hi
  | some i =>
    have hs : i.size = cs.length := by simpa [hq] using hi
    have hagg : (isAgg ty).run P w = .ok true w := by
      unfold isAgg
      rw [Sem.run_bind, run_underlying hu w]
      cases d <;> simp_all
    simp [loadVar, Sem.run_bind, hagg, sizeOf, typeInfo, hq, hs, hl]
theorem wpList_load_at {ops : Array Oper} {rest : List Oper} {o : Oper} {a : Act} {w : World} {Q : Exit → Act → World → Prop} (hgd : o.guard = none) (ty : TypeId) (x : Operand) (ho : o.op = .load ty x)
    (ad : Addr) (hx : a.eval x = .pointer (some ad)) (cs : List Value) (d : TypeDesc) (hc : ∀ j v, cs[j]? = some v → w.cell? (ad.add j) = some v)
    (hu : P.underlying ty = some d) (hd : (match d with | .struct _ | .array _ _ => true | _ => false) = true) (hi : (P.info? ty).map (·.size) = some cs.length)
    (h : wpList P ops Q rest (a.put o.dst (.agg cs.toArray)) w) : wpList P ops Q (o :: rest) a w :=
  wpList_plain hgd fun _ hK => by
    unfold Oper.wp execOp
    simp only [ho, hx, Instr.loadAt, Instr.sureAddr, Sem.run_bind, Sem.run_pure, Result.andThen_ok, run_loadVar_at w ad ty cs d hc hu hd hi]
    exact hK _ _ h
/-- 'a[i]' of an array by value, its elements integers -/
theorem run_index_ints (w : World) (t e : TypeId) (n : Nat) (cs : Array Value) (k k' : IntKind) (i : Nat) (v : Value) (h : P.underlying t = some (.array n e)) (he : P.underlying e = some (.int k')) (hs : (P.info? e).map (·.size) = some 1)
    (hi : i < n) (hv : cs[i]? = some v) : (Instr.index t (.agg cs) (.int k (i : Int))).run P w = .ok v w := by
  have hin : (0 : Int) ≤ (i : Int) ∧ (i : Int) < (n : Int) := by omega
  cases hq : P.info? e with
  | none => simp [hq] at hs
  | some j =>
    have hj : j.size = 1 := by simpa [hq] using hs
    have hagg : (isAgg e).run P w = .ok false w := by
      unfold isAgg
      rw [Sem.run_bind, run_underlying he w]
      simp
    simp [Instr.index, run_underlying h, asIntOf, hin, sizeOf, typeInfo, hq, hj, part, hagg, hv, go_sem]
    intro hh; omega
/-- 'a[i]' of an array by value, its elements arrays -/
theorem run_index_rows (w : World) (t e e' : TypeId) (n m : Nat) (cs : Array Value) (k : IntKind) (i : Nat) (h : P.underlying t = some (.array n e)) (he : P.underlying e = some (.array m e')) (hs : (P.info? e).map (·.size) = some m)
    (hi : i < n) : (Instr.index t (.agg cs) (.int k (i : Int))).run P w = .ok (.agg (cs.extract (i * m) (i * m + m))) w := by
  have hin : (0 : Int) ≤ (i : Int) ∧ (i : Int) < (n : Int) := by omega
  cases hq : P.info? e with
  | none => simp [hq] at hs
  | some j =>
    have hj : j.size = m := by simpa [hq] using hs
    have hagg : (isAgg e).run P w = .ok true w := by
      unfold isAgg
      rw [Sem.run_bind, run_underlying he w]
      simp
    simp [Instr.index, run_underlying h, asIntOf, hin, sizeOf, typeInfo, hq, hj, part, hagg, go_sem]
    intro hh; omega
end
end Go.Proofs.YtmdciljpcnokcaaGreatDoor
/-
  More laws over any program: a whole array or struct stored into a block that is known whole.
-/
namespace Go.Proofs.YtmdciljpcnokcaaGreatDoor
open Go.RowKit
section
variable {P : Program}
theorem run_storeVar_at (w : World) (ty : TypeId) (g off : Nat) (cs : List Value) (hi : (P.info? ty).map (·.size) = some cs.length)
    (cur : List Value) (t : TypeId) (hg : Whole w g t cur.toArray) (hfit : off + cs.length ≤ cur.length) (h1 : ∀ v ∈ cs, v.oneCell' = true) :
    (storeVar ty ⟨g, off, none⟩ (.agg cs.toArray)).run P w = .ok () (w.setRow g (cur.take off ++ (cs ++ cur.drop (off + cs.length))).toArray) := by
  cases hq : P.info? ty with
  | none => simp [hq] at hi
  | some i =>
    have hs : i.size = cs.length := by simpa [hq] using hi
    have hrun := run_storeCells_at (P := P) g off t cs 0 cur.toArray w hg (by simpa using hfit) h1
    simp only [Nat.add_zero, List.append_assoc] at hrun
    simp [storeVar, sizeOf, typeInfo, hq, hs, Value.cells, hrun]
/-- a whole array or struct stored into a block that is known whole -/
theorem wpList_store_at {ops : Array Oper} {rest : List Oper} {o : Oper} {a : Act} {w : World} {Q : Exit → Act → World → Prop} (hgd : o.guard = none) (ty : TypeId) (x y : Operand) (ho : o.op = .store ty x y) (hdst : o.dst = none)
    (g off : Nat) (hx : a.eval x = .pointer (some ⟨g, off, none⟩)) (cs : List Value) (hy : a.eval y = .agg cs.toArray) (hi : (P.info? ty).map (·.size) = some cs.length)
    (cur : List Value) (t : TypeId) (hg : Whole w g t cur.toArray) (hfit : off + cs.length ≤ cur.length) (h1 : ∀ v ∈ cs, v.oneCell' = true)
    (h : ∀ w', Hid (Whole w' g t (cur.take off ++ (cs ++ cur.drop (off + cs.length))).toArray) → Hid (w.grownBy w' (some g)) → wpList P ops Q rest a w') : wpList P ops Q (o :: rest) a w :=
  wpList_plain hgd fun _ hK => by
    have hrun := run_storeVar_at w ty g off cs hi cur t hg hfit h1
    have hw' : Whole (w.setRow g (cur.take off ++ (cs ++ cur.drop (off + cs.length))).toArray) g t (cur.take off ++ (cs ++ cur.drop (off + cs.length))).toArray := setRow_heap w g _ _ t _ hg
    have hf : w.grownBy (w.setRow g (cur.take off ++ (cs ++ cur.drop (off + cs.length))).toArray) (some g) :=
      ⟨rfl, rfl, rfl, by simp [World.setRow], fun j _ hne => by simp only [World.setRow, Array.getElem?_modify]; rw [if_neg (fun e => hne (by rw [e]))]⟩
    have hk := hK _ _ (h _ (Lib.hid hw') (Lib.hid hf))
    unfold Oper.wp execOp
    simp only [ho, hx, hy, Instr.storeAt, Instr.sureAddr, Sem.run_bind, Sem.run_pure, Result.andThen_ok, hrun]
    simpa [Oper.upon, Act.put, hdst] using hk
end
end Go.Proofs.YtmdciljpcnokcaaGreatDoor
/-
  Laws over any program: copy of a string into bytes of a block that is known whole; clear of such bytes.
-/
namespace Go.Proofs.YtmdciljpcnokcaaGreatDoor
open Go.RowKit
section
variable {P : Program}
theorem setRow_whole {w : World} {g : Nat} {t : TypeId} {cur : Array Value} (hg : Whole w g t cur) (cs : Array Value) : Whole (w.setRow g cs) g t cs := setRow_heap w g _ _ t _ hg
theorem setRow_only (w : World) (g : Nat) (cs : Array Value) : w.grownBy (w.setRow g cs) (some g) :=
  ⟨rfl, rfl, rfl, by simp [World.setRow], fun j _ hne => by simp only [World.setRow, Array.getElem?_modify]; rw [if_neg (fun e => hne (by rw [e]))]⟩
theorem B8_one (p : List UInt8) : ∀ v ∈ p.map B8, v.oneCell' = true := by
  intro v hv
  obtain ⟨b, _, rfl⟩ := List.mem_map.1 hv
  rfl
theorem run_copy_str (w : World) (dT sT ty elem : TypeId) (g o dLen dCap : Nat) (p : List UInt8) (cur : List Value) (t : TypeId)
    (hu : P.underlying dT = some (.slice elem)) (hs : (P.info? elem).map (·.size) = some 1) (hg : Whole w g t cur.toArray) (hfit : o + dLen ≤ cur.length) :
    (Builtin.copy_ #[dT, sT] ty #[.slice (some ⟨g, o, none⟩) dLen dCap, S p]).run P w =
      .ok (goInt ((p.take dLen).length : Nat)) (w.setRow g (cur.take o ++ ((p.take dLen).map B8 ++ cur.drop (o + (p.take dLen).length))).toArray) := by
  have hst := run_storeCells_at P g o t ((p.take dLen).map B8) 0 cur.toArray w hg (by simp; omega) (B8_one _)
  simp only [Nat.add_zero, List.length_map, List.append_assoc] at hst
  have hmin : Nat.min p.length dLen = (p.take dLen).length := by rw [List.length_take, Nat.min_comm]
  have hex : (((⟨p.toArray⟩ : ByteArray).extract 0 (Nat.min p.length dLen)).data.map fun b => Value.int .u8 b.toNat).toList = (p.take dLen).map B8 := by
    rw [ByteArray.data_extract]
    simp only [Array.toList_map, Array.toList_extract, List.extract_eq_take_drop, List.drop_zero, Nat.sub_zero]
    congr 1
    show List.take (min p.length dLen) p = _
    by_cases hh : p.length ≤ dLen
    · rw [Nat.min_eq_left hh, List.take_of_length_le (Nat.le_refl _), List.take_of_length_le hh]
    · rw [Nat.min_eq_right (by omega)]
  have hsz : (⟨p.toArray⟩ : ByteArray).size = p.length := by simp [ByteArray.size]
  cases hq : P.info? elem with
  | none => simp [hq] at hs
  | some i =>
    have hi : i.size = 1 := by simpa [hq] using hs
    simp only [Builtin.copy_, run_underlying hu, Builtin.lenOf, Builtin.firstCells, sizeOf, typeInfo, S, hsz, Sem.run_bind, Sem.run_pure, Result.andThen_ok, List.getElem?_toArray, List.getElem?_cons_zero, List.getElem?_cons_succ]
    rw [hex, hmin]
    generalize p.take dLen = q at *
    simp [hq, hst]
theorem wpList_copy_str {ops : Array Oper} {rest : List Oper} {o : Oper} {a : Act} {w : World} {Q : Exit → Act → World → Prop} (hgd : o.guard = none) (d s : Operand) (dT sT : TypeId)
    (ho : o.op = .call { callee := .builtin .copy, args := #[d, s], argTypes := #[dT, sT] }) (elem : TypeId) (hu : P.underlying dT = some (.slice elem)) (hs : (P.info? elem).map (·.size) = some 1)
    (g off dLen dCap : Nat) (p : List UInt8) (hd : a.eval d = .slice (some ⟨g, off, none⟩) dLen dCap) (hp : a.eval s = S p) (cur : List Value) (t : TypeId) (hg : Whole w g t cur.toArray) (hfit : off + dLen ≤ cur.length)
    (h : ∀ w', Hid (Whole w' g t (cur.take off ++ ((p.take dLen).map B8 ++ cur.drop (off + (p.take dLen).length))).toArray) → Hid (w.grownBy w' (some g)) → wpList P ops Q rest (a.put o.dst (goInt ((p.take dLen).length : Nat))) w') : wpList P ops Q (o :: rest) a w :=
  wpList_plain hgd fun _ hK => by
    have hrun := run_copy_str (P := P) w dT sT o.type elem g off dLen dCap p cur t hu hs hg hfit
    unfold Oper.wp execOp
    simp only [ho, resolve, invoke, builtin, Sem.run_bind, Sem.run_pure, Result.andThen_ok, List.map_toArray, List.map_cons, List.map_nil, hd, hp, hrun]
    exact hK _ _ (h _ (Lib.hid (setRow_whole hg _)) (Lib.hid (setRow_only w g _)))
theorem run_clear_bytes (w : World) (t ty elem : TypeId) (g o n c : Nat) (cur : List Value) (bt : TypeId) (hu : P.underlying t = some (.slice elem)) (hz : ∀ w, (zeroValue elem).run P w = .ok (B8 0) w) (hg : Whole w g bt cur.toArray) (hfit : o + n ≤ cur.length) :
    (Builtin.clear_ #[t] ty #[.slice (some ⟨g, o, none⟩) n c]).run P w = .ok (.tuple #[]) (w.setRow g (cur.take o ++ (List.replicate n (B8 0) ++ cur.drop (o + n))).toArray) := by
  have hst := run_storeCells_at P g o bt (List.replicate n (B8 0)) 0 cur.toArray w hg (by simpa using hfit) (fun v hv => by rw [List.eq_of_mem_replicate hv]; rfl)
  simp only [Nat.add_zero, List.length_replicate, List.append_assoc] at hst
  have hzc : (Builtin.zeroCells (B8 0).cells n).toList = List.replicate n (B8 0) := by
    apply List.ext_getElem
    · simp [Builtin.zeroCells, Value.cells]
    · intro i h1 h2
      simp [Builtin.zeroCells, Value.cells, Nat.mod_one]
  cases n with
  | zero =>
    have e : (cur.take o ++ (List.replicate 0 (B8 0) ++ cur.drop (o + 0))) = cur := by simp
    rw [e, setRow_self w g cur.toArray bt (0, 0) hg]
    simp [Builtin.clear_, run_underlying hu]
  | succ n => simp [Builtin.clear_, run_underlying hu, hz, hzc, hst]
theorem wpList_clear_bytes {ops : Array Oper} {rest : List Oper} {o : Oper} {a : Act} {w : World} {Q : Exit → Act → World → Prop} (hgd : o.guard = none) (s : Operand) (t : TypeId) (hdst : o.dst = none)
    (ho : o.op = .call { callee := .builtin .clear, args := #[s], argTypes := #[t] }) (elem : TypeId) (hu : P.underlying t = some (.slice elem)) (hz : ∀ w, (zeroValue elem).run P w = .ok (B8 0) w)
    (g off n c : Nat) (hs : a.eval s = .slice (some ⟨g, off, none⟩) n c) (cur : List Value) (bt : TypeId) (hg : Whole w g bt cur.toArray) (hfit : off + n ≤ cur.length)
    (h : ∀ w', Hid (Whole w' g bt (cur.take off ++ (List.replicate n (B8 0) ++ cur.drop (off + n))).toArray) → Hid (w.grownBy w' (some g)) → wpList P ops Q rest a w') : wpList P ops Q (o :: rest) a w :=
  wpList_plain hgd fun _ hK => by
    have hrun := run_clear_bytes (P := P) w t o.type elem g off n c cur bt hu hz hg hfit
    unfold Oper.wp execOp
    simp only [ho, resolve, invoke, builtin, Sem.run_bind, Sem.run_pure, Result.andThen_ok, List.map_toArray, List.map_cons, List.map_nil, hs, hrun]
    have := hK _ _ (h _ (Lib.hid (setRow_whole hg _)) (Lib.hid (setRow_only w g _)))
    simpa [Oper.upon, Act.put, hdst] using this
end
end Go.Proofs.YtmdciljpcnokcaaGreatDoor
/-
  Plain: a digest over bytes that come in pieces. No program in sight.
-/
namespace Go.Proofs.YtmdciljpcnokcaaGreatDoor
open Go.RowKit

/-- block k of a text -/
def blk (s : List UInt8) (k : Nat) : List UInt8 := (s.drop (64 * k)).take 64
/-- the eight numbers, q blocks taken in -/
def hq (hs : List UInt32) (s : List UInt8) : Nat → List UInt32
  | 0 => hs
  | k + 1 => takeL (hq hs s k) (blk s k) (64 * (k + 1)) false
theorem hq_length {hs : List UInt32} (hh : hs.length = 8) (s : List UInt8) (k : Nat) : (hq hs s k).length = 8 := by
  cases k with
  | zero => exact hh
  | succ k => exact takeL_length _ _ _ _
theorem blk_append (s x : List UInt8) {k : Nat} (h : 64 * (k + 1) ≤ s.length) : blk (s ++ x) k = blk s k := by
  unfold blk
  rw [List.drop_append_of_le_length (by omega), List.take_append_of_le_length (by simp; omega)]
theorem hq_append (hs : List UInt32) (s x : List UInt8) : ∀ k, 64 * k ≤ s.length → hq hs (s ++ x) k = hq hs s k
  | 0, _ => rfl
  | k + 1, h => by rw [hq, hq, hq_append hs s x k (by omega), blk_append s x h]

/-- the state (h, wt, f, n) stands for the bytes 'pre' -/
def Rep (hs : List UInt32) (pre : List UInt8) (h : List UInt32) (wt : List UInt8) (f n : Nat) : Prop :=
  ∃ q, n = 64 * q ∧ f + 64 * q = pre.length ∧ f ≤ 64 ∧ h = hq hs pre q ∧ wt.length = 64 ∧ wt.take f = pre.drop (64 * q)
/-- and a block that was taken is not the last one -/
def Alive (f n : Nat) : Prop := 0 < n → 0 < f

theorem Rep.empty (hs : List UInt32) (wt : List UInt8) (hw : wt.length = 64) : Rep hs [] hs wt 0 0 := ⟨0, rfl, rfl, by omega, rfl, hw, by simp⟩
theorem Rep.full {hs : List UInt32} {pre : List UInt8} {h : List UInt32} {wt : List UInt8} {n : Nat} (r : Rep hs pre h wt 64 n) : Rep hs pre (takeL h wt (n + 64) false) wt 0 (n + 64) := by
  obtain ⟨q, rfl, hl, _, rfl, hw, ht⟩ := r
  refine ⟨q + 1, by omega, by omega, by omega, ?_, hw, ?_⟩
  · rw [hq, show 64 * q + 64 = 64 * (q + 1) by omega]
    congr 1
    unfold blk
    rw [← ht, List.take_of_length_le (by omega : wt.length ≤ 64), List.take_of_length_le (by omega)]
  · rw [List.drop_of_length_le (by omega)]; simp
theorem Rep.put {hs : List UInt32} {pre : List UInt8} {h : List UInt32} {wt : List UInt8} {f n : Nat} (r : Rep hs pre h wt f n) (x : List UInt8) (hx : f + x.length ≤ 64) :
    Rep hs (pre ++ x) h (wt.take f ++ (x ++ wt.drop (f + x.length))) (f + x.length) n := by
  obtain ⟨q, rfl, hl, hf, rfl, hw, ht⟩ := r
  refine ⟨q, rfl, by simp; omega, hx, ?_, ?_, ?_⟩
  · rw [hq_append hs pre x q (by omega)]
  · simp [hw]; omega
  · have hl2 : (wt.take f).length = f := by simp [hw]; omega
    rw [← List.append_assoc, List.take_append_of_le_length (by simp; omega), List.take_of_length_le (by simp; omega), ht, List.drop_append_of_le_length (by omega)]
theorem Rep.h_length {hs : List UInt32} {pre : List UInt8} {h : List UInt32} {wt : List UInt8} {f n : Nat} (r : Rep hs pre h wt f n) (hh : hs.length = 8) : h.length = 8 := by
  obtain ⟨q, _, _, _, rfl, _⟩ := r; exact hq_length hh pre q
theorem Rep.w_length {hs : List UInt32} {pre : List UInt8} {h : List UInt32} {wt : List UInt8} {f n : Nat} (r : Rep hs pre h wt f n) : wt.length = 64 := by
  obtain ⟨q, _, _, _, _, hw, _⟩ := r; exact hw
theorem Rep.f_le {hs : List UInt32} {pre : List UInt8} {h : List UInt32} {wt : List UInt8} {f n : Nat} (r : Rep hs pre h wt f n) : f ≤ 64 := by
  obtain ⟨q, _, _, hf, _⟩ := r; exact hf
theorem Rep.len {hs : List UInt32} {pre : List UInt8} {h : List UInt32} {wt : List UInt8} {f n : Nat} (r : Rep hs pre h wt f n) : f + n = pre.length := by
  obtain ⟨q, rfl, hl, _⟩ := r; exact hl

/-- a text's last block, filled up with zeros -/
def lastBlk (s : List UInt8) (q : Nat) : List UInt8 := s.drop (64 * q) ++ List.replicate (64 - (s.length - 64 * q)) 0
/-- how many blocks stand ahead of the last one -/
def ahead (s : List UInt8) : Nat := (s.length - 1) / 64
/-- the eight numbers of the digest of a text -/
def sumL (hs : List UInt32) (s : List UInt8) : List UInt32 := takeL (hq hs s (ahead s)) (lastBlk s (ahead s)) s.length true
theorem Rep.end_ {hs : List UInt32} {pre : List UInt8} {h : List UInt32} {wt : List UInt8} {f n : Nat} (r : Rep hs pre h wt f n) (ha : Alive f n) :
    takeL h (wt.take f ++ List.replicate (64 - f) 0) (n + f) true = sumL hs pre := by
  obtain ⟨q, rfl, hl, hf, rfl, hw, ht⟩ := r
  have hq' : ahead pre = q := by
    unfold ahead
    unfold Alive at ha
    by_cases h0 : q = 0
    · subst h0; omega
    · have := ha (by omega); omega
  unfold sumL lastBlk
  rw [hq', ht, show 64 * q + f = pre.length by omega, show 64 - (pre.length - 64 * q) = 64 - f by omega]

/-- a 32-bit number's four bytes, the lowest one first -/
def bytes4 (x : UInt32) : List UInt8 := (List.range 4).map fun j => UInt8.ofNat (x.toNat / 2 ^ (8 * j))
/-- the digest of a text -/
def digL (hs : List UInt32) (s : List UInt8) : List UInt8 := (sumL hs s).flatMap bytes4
theorem bytes4_length (x : UInt32) : (bytes4 x).length = 4 := by simp [bytes4]
theorem sumL_length (hs : List UInt32) (s : List UInt8) : (sumL hs s).length = 8 := takeL_length _ _ _ _
theorem digL_length (hs : List UInt32) (s : List UInt8) : (digL hs s).length = 32 := by
  unfold digL
  rw [List.length_flatMap]
  have : (sumL hs s).map (fun a => (bytes4 a).length) = List.replicate 8 4 := by
    rw [List.eq_replicate_iff]
    exact ⟨by simp [sumL_length], by intro b hb; obtain ⟨a, _, rfl⟩ := List.mem_map.1 hb; exact bytes4_length a⟩
  rw [this]; rfl

theorem stCells_set_n {h : List UInt32} {wt : List UInt8} {f n : Nat} (hh : h.length = 8) (hw : wt.length = 64) (m : Nat) : (stCells h wt f n).set 73 (Value.int .u64 (m : Int)) = stCells h wt f m := by
  unfold stCells; rw [List.set_append, if_neg (by simp; omega), List.set_append, if_neg (by simp; omega)]; simp [hh, hw]
theorem stCells_set_f {h : List UInt32} {wt : List UInt8} {f n : Nat} (hh : h.length = 8) (hw : wt.length = 64) (m : Nat) : (stCells h wt f n).set 72 (Value.int .i64 (m : Int)) = stCells h wt m n := by
  unfold stCells; rw [List.set_append, if_neg (by simp; omega), List.set_append, if_neg (by simp; omega)]; simp [hh, hw]
/-- bytes laid into those that wait -/
theorem stCells_put {h : List UInt32} {wt : List UInt8} {f n : Nat} (hh : h.length = 8) (hw : wt.length = 64) (o : Nat) (x : List UInt8) (hx : o + x.length ≤ 64) :
    (stCells h wt f n).take (8 + o) ++ (x.map B8 ++ (stCells h wt f n).drop (8 + o + x.length)) = stCells h (wt.take o ++ (x ++ wt.drop (o + x.length))) f n := by
  unfold stCells
  have e1 : (h.map U).length = 8 := by simp [hh]
  rw [List.take_append, List.drop_append, e1, List.take_of_length_le (by omega), List.drop_of_length_le (by omega), List.nil_append, show 8 + o - 8 = o by omega, show 8 + o + x.length - 8 = o + x.length by omega]
  rw [List.take_append_of_le_length (by simp; omega), List.drop_append_of_le_length (by simp; omega)]
  simp [List.map_append, List.map_take, List.map_drop, List.append_assoc]
theorem stCells_length {h : List UInt32} {wt : List UInt8} {f n : Nat} (hh : h.length = 8) (hw : wt.length = 64) : (stCells h wt f n).length = 74 := by
  simp [stCells, hh, hw]
end Go.Proofs.YtmdciljpcnokcaaGreatDoor
