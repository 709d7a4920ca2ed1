/-
  Words for memory that all walks of this family share: a list of cells that lies behind a slice; a block that is known whole; strings as lists of bytes. Plain lemmas on worlds, no program in sight.
-/
import Derived.WalkKit
import Derived.WalkSpells
import Derived.WalkLawsBesides
import Derived.Lib.Hide
import Derived.Laws.OwnMore
import Derived.Deep.AppendLies
import Derived.Deep.Draws
import Derived.Maps.AppendAt
namespace Go.Proofs.YtecamaceainfpaaDoor
open Go.RowKit

/-- a string, by the list of its bytes -/
abbrev S (l : List UInt8) : Value := .string ⟨l.toArray⟩
theorem ret_int {k : IntKind} {a b : Int} (h : a = b) : Ending.returned (.int k a) = .returned (.int k b) := by rw [h]
theorem S_of (s : ByteArray) : Value.string s = S s.data.toList := by cases s; simp [S]

/-- the cells xs lie behind the address A, one behind the other, in a block below B -/
def Lies (w : World) (B : Nat) (A : Option Addr) (xs : List Value) : Prop :=
  ∀ k u, xs[k]? = some u → ∃ ad, A = some ad ∧ ad.block < B ∧ w.cell? (ad.add k) = some u

section
variable {w w' : World} {B B' : Nat} {A : Option Addr} {xs : List Value}
theorem Lies.none (w : World) (B : Nat) (A : Option Addr) : Lies w B A [] := fun k u h => by simp at h
theorem Lies.same (h : Lies w B A xs) (hk : ∀ p : Addr, p.block < B → w'.cell? p = w.cell? p) : Lies w' B A xs := fun k u hu => by
  obtain ⟨ad, e, hb, hc⟩ := h k u hu
  exact ⟨ad, e, hb, (hk _ (by unfold Addr.add; split <;> exact hb)).trans hc⟩
theorem Lies.wide (h : Lies w B A xs) (hB : B ≤ B') : Lies w B' A xs := fun k u hu => by
  obtain ⟨ad, e, hb, hc⟩ := h k u hu
  exact ⟨ad, e, Nat.lt_of_lt_of_le hb hB, hc⟩
theorem Lies.below (h : Lies w B A xs) (hb : Below B w w') : Lies w' B A xs := h.same fun _ hp => hb.cell hp
theorem Lies.draws (h : Lies w B A xs) (n : Nat) : Lies (w.drewN n) B A xs := h
theorem Lies.draw (h : Lies w B A xs) : Lies w.drew B A xs := h
theorem Lies.block (h : Lies w B A xs) (hB : B ≤ w.heap.size) (o : Obj) : Lies (w.alloc o) B A xs := h.same fun p hp => World.cell?_alloc_lt w o p (by omega)
theorem Lies.put (h : Lies w B A xs) {p : Addr} (hB : B ≤ p.block) (u : Value) : Lies (w.setCell p u) B A xs :=
  h.same fun q hq => World.cell?_setCell_other w p q u (fun e => by subst e; omega)
end

/-- block g is the cells cs of element type t, none of them frozen -/
def Whole (w : World) (g : Nat) (t : TypeId) (cs : Array Value) : Prop := w.heap[g]? = some (.cells cs t (0, 0))

section
variable {w w' : World} {g : Nat} {t : TypeId} {cs : Array Value}
theorem Whole.lt (h : Whole w g t cs) : g < w.heap.size := by
  apply Decidable.byContradiction
  intro hn
  unfold Whole at h
  rw [Array.getElem?_eq_none (by omega)] at h
  cases h
theorem Whole.cell (h : Whole w g t cs) (i : Nat) : w.cell? ⟨g, i, none⟩ = cs[i]? := cell_of_row w g i cs t (0, 0) h
theorem Whole.free (h : Whole w g t cs) (i : Nat) : w.frozen? ⟨g, i, none⟩ = false := by
  unfold Whole at h
  simp [World.frozen?, h]
theorem Whole.made (w : World) (t : TypeId) (cs : Array Value) : Whole (w.alloc (.cells cs t)) w.heap.size t cs := heap_alloc_new w _
theorem Whole.block (h : Whole w g t cs) (o : Obj) : Whole (w.alloc o) g t cs := (Below.heap_alloc w o g h.lt).trans h
theorem Whole.draws (h : Whole w g t cs) (n : Nat) : Whole (w.drewN n) g t cs := h
theorem Whole.draw (h : Whole w g t cs) : Whole w.drew g t cs := h
theorem Whole.set (h : Whole w g t cs) (i : Nat) (u : Value) : Whole (w.setCell ⟨g, i, none⟩ u) g t (cs.setIfInBounds i u) := by
  unfold Whole at h ⊢
  simp [World.setCell, Array.getElem?_modify, h]
theorem Whole.far (h : Whole w g t cs) {p : Addr} (hp : g ≠ p.block) (u : Value) : Whole (w.setCell p u) g t cs := (Below.heap_setCell w p u g hp).trans h
theorem Whole.below {B : Nat} (h : Whole w g t cs) (hb : Below B w w') (hg : g < B) : Whole w' g t cs := (hb.block g hg).trans h
theorem Whole.other {row : Option Nat} (h : Whole w g t cs) (hb : w.grownBy w' row) (hg : some g ≠ row) : Whole w' g t cs := (hb.block g h.lt hg).trans h
end

theorem Below.draws {B : Nat} {a w : World} (h : Below B a w) (n : Nat) : Below B a (w.drewN n) := ⟨h.os, h.tape, h.output, h.size, h.block⟩

/-- a slice of strings, by the lists of their bytes -/
abbrev Strs (w : World) (B : Nat) (A : Option Addr) (ls : List (List UInt8)) : Prop := Lies w B A (ls.map S)
theorem Strs.at' {w : World} {B k : Nat} {A : Option Addr} {ls : List (List UInt8)} (h : Strs w B A ls) (hk : k < ls.length) : ∃ ad, A = some ad ∧ ad.block < B ∧ w.cell? (ad.add k) = some (S (ls.getD k [])) :=
  h k _ (by simp [hk])
end Go.Proofs.YtecamaceainfpaaDoor
