import Derived.Test.YtdkhnjjihbmlmaaGreatDoorPlnA
import Derived.Test.YtdkhnjjihbmlmaaGreatDoorMcA
import Derived.Maps.Own
import Derived.Maps.OwnSet
import Derived.Maps.Views
import Derived.Maps.Keyed
namespace Go.Proofs.YtdkhnjjihbmlmaaGreatDoor
open Go.RowKit
theorem hb2_cells {w : World} {g : Nat} {t : TypeId} {p : Pr} {r0 : Int} (h : Whole w g t (prCells p).toArray) (h0 : (prCells p)[3]? = some (.int .u32 r0)) (h1 : (prCells p)[92 + 1]? = some (.int .u32 p.code)) (h2 : (prCells p)[92 + 2]? = some (.int .i64 p.why)) (h3 : (prCells p)[92 + 3]? = some (.int .u64 p.n)) :
  w.cell? ⟨g,2,none⟩ = some (.int .i64 p.state) ∧ w.cell? ⟨g,3,none⟩ = some (.int .u32 r0) ∧ w.cell? ⟨g,93,none⟩ = some (.int .u32 p.code) ∧ w.cell? ⟨g,94,none⟩ = some (.int .i64 p.why) ∧ w.cell? ⟨g,95,none⟩ = some (.int .u64 p.n) :=
 ⟨h.cell 2,(h.cell 3).trans (by rw [List.getElem?_toArray];exact h0),(h.cell 93).trans (by rw [List.getElem?_toArray];exact h1),(h.cell 94).trans (by rw [List.getElem?_toArray];exact h2),(h.cell 95).trans (by rw [List.getElem?_toArray];exact h3)⟩
theorem pr_size {p : Pr} (h : PrOk p) : (prCells p).toArray.size = 96:=by rw [List.size_toArray];exact prCells_length h
end Go.Proofs.YtdkhnjjihbmlmaaGreatDoor
namespace Go.Proofs.YtdkhnjjihbmlmaaGreatDoor
open Go.RowKit
theorem pipesB_yes {n last : Int} {p : Nb} {l : List Nb} (h1 : last < p.1) (h2 : p.1 < n) (h3 : p.2.length ≤ 64) : pipesB n last (p :: l) = pipesB n p.1 l:=by
 show (decide (last < p.1) && decide (p.1 < n) && decide (p.2.length ≤ 64) && pipesB n p.1 l) = _;simp [h1,h2,h3]
theorem pipesB_no {n last : Int} {p : Nb} {l : List Nb} (h : ¬ (last < p.1 ∧ p.1 < n ∧ p.2.length ≤ 64)) : pipesB n last (p :: l) = false:=by
 show (decide (last < p.1) && decide (p.1 < n) && decide (p.2.length ≤ 64) && pipesB n p.1 l) = _;rw [← Bool.not_eq_true];simp only [Bool.and_eq_true,decide_eq_true_eq];exact fun h' => h ⟨h'.1.1.1,h'.1.1.2,h'.1.2⟩
end Go.Proofs.YtdkhnjjihbmlmaaGreatDoor
namespace Go.Proofs.YtdkhnjjihbmlmaaGreatDoor
open Go.RowKit Go.Maps
end Go.Proofs.YtdkhnjjihbmlmaaGreatDoor
namespace Go.Proofs.YtdkhnjjihbmlmaaGreatDoor
open Go.RowKit
theorem pr_space_cells {w : World} {g : Nat} {t : TypeId} {p : Pr} (hp : PrOk p) (h : Whole w g t (prCells p).toArray) : ∀ j v,(pgCells p.space)[j]? = some v → w.cell? ((⟨g,20,none⟩ : Addr).add j) = some v :=
 mid_cells h 20 _ fun j v hv => by
  have hj : j < 48:=(by have:=(List.getElem?_eq_some_iff.1 hv).1;rw [pgCells_length,hp.space] at this;exact this);rw [pr_space hp hj];exact hv
theorem pr_fds_cells {w : World} {g : Nat} {t : TypeId} {p : Pr} (hp : PrOk p) (h : Whole w g t (prCells p).toArray) : ∀ j v,(flCells p.fds)[j]? = some v → w.cell? ((⟨g,68,none⟩ : Addr).add j) = some v :=
 mid_cells h 68 _ fun j v hv => by
  have hj : j < 24:=(by have:=(List.getElem?_eq_some_iff.1 hv).1;rw [flCells_length,hp.fds] at this;exact this);rw [pr_fds hp hj];exact hv
end Go.Proofs.YtdkhnjjihbmlmaaGreatDoor
