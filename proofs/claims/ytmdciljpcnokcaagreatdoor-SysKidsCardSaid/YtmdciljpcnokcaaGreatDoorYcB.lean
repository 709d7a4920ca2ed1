/-
  Walks: state.file, numbers, frames, texts, pipes. (Printed by gen_chkb.py.)
-/
import Derived.Test.YtmdciljpcnokcaaGreatDoorYcA
namespace Go.Proofs.YtmdciljpcnokcaaGreatDoor
open Go.RowKit

theorem pipesB_yes {n last : Int} {p : Nb} {l : List Nb} (h1 : last < p.1) (h2 : p.1 < n) (h3 : p.2.length ≤ 64) : pipesB n last (p :: l) = pipesB n p.1 l := by
  show (decide (last < p.1) && decide (p.1 < n) && decide (p.2.length ≤ 64) && pipesB n p.1 l) = _
  simp [h1, h2, h3]
theorem pipesB_no {n last : Int} {p : Nb} {l : List Nb} (h : ¬ (last < p.1 ∧ p.1 < n ∧ p.2.length ≤ 64)) : pipesB n last (p :: l) = false := by
  show (decide (last < p.1) && decide (p.1 < n) && decide (p.2.length ≤ 64) && pipesB n p.1 l) = _
  rw [← Bool.not_eq_true]
  simp only [Bool.and_eq_true, decide_eq_true_eq]
  exact fun h' => h ⟨h'.1.1.1, h'.1.1.2, h'.1.2⟩
end Go.Proofs.YtmdciljpcnokcaaGreatDoor
