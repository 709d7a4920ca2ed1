/-
  Things that are kept, in memory; walk: slices.Clone at them.
-/
import Derived.Test.YtmmfcjkabpffeaaDoorGen
import Derived.Test.YtmmfcjkabpffeaaDoorFreezeP
import Derived.Lib.AppendZerosOnto
import Derived.Lib.SliceRun
import Derived.Lib.Walk
import Derived.Deep.Onto
namespace Go.Proofs.YtmmfcjkabpffeaaDoor
open Go.RowKit

/-- the cells of a list of kept things -/
def kCells (l : List Kp) : List Value := l.flatMap fun k => [.bool k.1, S k.2]
theorem kCells_cons (k : Kp) (l : List Kp) : kCells (k :: l) = .bool k.1 :: S k.2 :: kCells l := rfl
theorem kCells_append (a b : List Kp) : kCells (a ++ b) = kCells a ++ kCells b := by simp [kCells]
theorem kCells_length : ∀ l : List Kp, (kCells l).length = l.length * 2
  | [] => rfl
  | k :: l => by rw [kCells_cons, List.length_cons, List.length_cons, kCells_length l, List.length_cons]; omega
theorem kCells_at : ∀ (l : List Kp) {k : Nat}, k < l.length → (kCells l)[k * 2]? = some (.bool (l.getD k (false, [])).1) ∧ (kCells l)[k * 2 + 1]? = some (S (l.getD k (false, [])).2)
  | [], _, h => by simp at h
  | a :: l, 0, _ => ⟨rfl, rfl⟩
  | a :: l, k + 1, h => by
    have ih := kCells_at l (k := k) (by simpa using h)
    rw [kCells_cons, show (k + 1) * 2 = k * 2 + 1 + 1 by omega, List.getElem?_cons_succ, List.getElem?_cons_succ, List.getElem?_cons_succ, List.getElem?_cons_succ, List.getD_cons_succ]
    exact ih
theorem kCells_set : ∀ (l : List Kp) {k : Nat} (b : Bool) (s : List UInt8), k < l.length → ((kCells l).set (k * 2) (.bool b)).set (k * 2 + 1) (S s) = kCells (l.set k (b, s))
  | [], _, _, _, h => by simp at h
  | a :: l, 0, b, s, _ => rfl
  | a :: l, k + 1, b, s, h => by
    have ih := kCells_set l (k := k) b s (by simpa using h)
    rw [kCells_cons, show (k + 1) * 2 = k * 2 + 1 + 1 by omega, List.set_cons_succ, List.set_cons_succ, List.set_cons_succ, List.set_cons_succ, ih, List.set_cons_succ, kCells_cons]
theorem kCells_one (l : List Kp) : ∀ u ∈ kCells l, u.oneCell' = true := fun u hu => by
  obtain ⟨k, _, h⟩ := List.mem_flatMap.1 hu
  simp only [List.mem_cons, List.not_mem_nil, or_false] at h
  rcases h with rfl | rfl <;> rfl
/-- a slice of kept things -/
abbrev Kps (w : World) (B : Nat) (A : Option Addr) (l : List Kp) : Prop := Lies w B A (kCells l)
theorem Kps.at' {w : World} {B k : Nat} {A : Option Addr} {l : List Kp} (h : Kps w B A l) (hk : k < l.length) :
    ∃ ad, A = some ad ∧ ad.block < B ∧ w.cell? (ad.add (k * 2)) = some (.bool (l.getD k (false, [])).1) ∧ w.cell? ⟨(ad.add (k * 2)).block, (ad.add (k * 2)).off + 1, none⟩ = some (S (l.getD k (false, [])).2) := by
  obtain ⟨h0, h1⟩ := kCells_at l hk
  obtain ⟨ad, rfl, hb, c0⟩ := h _ _ h0
  obtain ⟨ad', e', _, c1⟩ := h _ _ h1
  obtain rfl : ad = ad' := by injection e'
  refine ⟨ad, rfl, hb, c0, ?_⟩
  rw [show (⟨(ad.add (k * 2)).block, (ad.add (k * 2)).off + 1, none⟩ : Addr) = ad.add (k * 2 + 1) by unfold Addr.add; by_cases h : k * 2 = 0 <;> simp [h, Nat.add_assoc]]
  exact c1
theorem Tryd.infoKept : (Tryd.prog.info? 48).map (fun i => (i.zero, i.size, i.bytes)) = some (some (.agg #[.bool false, .string ⟨#[]⟩]), 2, 24) := by kernel_rfl
abbrev OwnK (w : World) (base : Nat) (v : Value) (l : List Kp) : Prop := w.ownsRow base 48 2 v l.length (kCells l)
set_option maxRecDepth 100000 in
set_option maxHeartbeats 1000000 in
theorem cloneK_any (w : World) (A : Option Addr) (c : Nat) (ls : List Kp) (hA : Kps w w.heap.size A ls) (hn : ls.length ≤ 1099511627776) :
    Calls Tryd.prog 37 #[.slice A ls.length c] w fun e w' => (∃ v, e = .returned v ∧ OwnK w' w.heap.size v ls) ∧ Below w.heap.size w w' := by
  obtain ⟨i0, hi0, hz0, hz1, hz2⟩ := info_parts Tryd.infoKept
  cases A with
  | none =>
    have hls : ls = [] := by
      cases ls with
      | nil => rfl
      | cons l r => obtain ⟨ad, e, _⟩ := hA.at' (k := 0) (by simp); cases e
    subst hls
    have he : ∀ W : World, (binOp .eql 23 (.slice none 0 c) (.slice none 0 0)).run Tryd.prog W = .ok (.bool true) W := fun W => Lib.run_eql_slice_nil W 23 48 none 0 c 0 0 Tryd.underlying23
    go_enter Tryd.func37, Tryd.ntmps37
    go_wp2
    go_ret
    exact ⟨⟨_, rfl, World.ownsRow_nil _ _ _ _⟩, Below.refl _ _⟩
  | some ad =>
    have he : ∀ W : World, (binOp .eql 23 (.slice (some ad) ls.length c) (.slice none 0 0)).run Tryd.prog W = .ok (.bool false) W := fun W => Lib.run_eql_slice_nil W 23 48 (some ad) ls.length c 0 0 Tryd.underlying23
    have HQ := Lib.hid (Lies.block hA (Nat.le_refl _) (.cells #[] 48))
    have HO : Hid (OwnK (w.alloc (.cells #[] 48)) w.heap.size (.slice (some ⟨w.heap.size, 0, none⟩) 0 0) []) := Lib.hid (World.ownsRow_lit w #[] 0 (Nat.le_refl _) (by unfold maxLen; omega) rfl)
    have HS1 : Hid ((kCells ls).length = ls.length * 2) := Lib.hid (kCells_length ls)
    have H63 : Hid (0 + ls.length ≤ maxLen) := Lib.hid (by unfold maxLen; omega)
    have HBY : Hid ((0 + ls.length) * 24 ≤ 140737488355328) := Lib.hid (by omega)
    have HBA : Hid (w.heap.size ≤ (w.alloc (.cells #[] 48)).heap.size) := Lib.hid (by simp)
    clear hA
    go_enter Tryd.func37, Tryd.ntmps37
    go_wp2_with (at_builtin; refine wpList_append_src rfl (.tmp 5) (.tmp 6) 23 rfl w.heap.size 48 i0 _ 2 24 Tryd.underlying23 hi0 hz0 hz1 hz2 rfl (by decide) _ _ _ rfl HO.out w.heap.size (some ad) ls.length c (kCells ls) rfl HS1.out HQ.out (kCells_one ls) H63.out HBY.out HBA.out ?_; intro v' w1 hown' hgrow)
    have hown2 := hown'
    rw [show ([] : List Kp).length + ls.length = ls.length by simp, show kCells [] ++ kCells ls = kCells ls by simp [kCells]] at hown2
    go_ret
    exact ⟨⟨_, rfl, hown2⟩, ((Below.refl _ _).alloc (Nat.le_refl _) _).grown hgrow HBA.out (own_ge HO.out)⟩
end Go.Proofs.YtmmfcjkabpffeaaDoor
