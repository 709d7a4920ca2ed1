/-
  Laws of no function, gathered out of other texts (pick.py).
-/
import Derived.Test.YtmmfcjkabpffeaaDoorProg
import Derived.Test.YtmmfcjkabpffeaaDoorBase
import Derived.Deep.AppendLies
import Derived.StillTailTactics
import Derived.Deep.RegionHeld3
import Derived.Deep.RegionWith
import Derived.Deep.AppendSrc
import Derived.BigQuiet
import Derived.Deep.QuietTactic
namespace Go.Proofs.YtmmfcjkabpffeaaDoor
open Go.RowKit

variable {P : Program} {W : World}
theorem add_block (a : Addr) (n : Nat) : (a.add n).block = a.block := by unfold Addr.add; split <;> rfl
theorem take_eq_of {α : Type} {a b : List α} (h : a.length = b.length) (he : a.take a.length = b.take a.length) : a = b := by
  rw [List.take_of_length_le (Nat.le_refl _), List.take_of_length_le (by omega)] at he; exact he
/-- cells of a part of a block that is known whole -/
theorem mid_cells {w : World} {g : Nat} {t : TypeId} {xs : List Value} (h : Whole w g t xs.toArray) (o : Nat) (cs : List Value) (hc : ∀ j v, cs[j]? = some v → xs[o + j]? = some v) : ∀ j v, cs[j]? = some v → w.cell? ((⟨g, o, none⟩ : Addr).add j) = some v := fun j v hv => by
  rw [show (⟨g, o, none⟩ : Addr).add j = ⟨g, o + j, none⟩ by unfold Addr.add; split <;> simp_all]
  rw [h.cell, List.getElem?_toArray]; exact hc j v hv
theorem S_one (l : List (List UInt8)) : ∀ v ∈ l.map S, v.oneCell' = true := by
  intro v hv
  obtain ⟨b, _, rfl⟩ := List.mem_map.1 hv
  rfl
theorem own_ge {w : World} {base : Nat} {e : TypeId} {size n : Nat} {v : Value} {xs : List Value} (h : w.ownsRow base e size v n xs) : ∀ g, v.ownBlock = some g → base ≤ g := by
  intro g hg
  rcases h.2 with ⟨rfl, _⟩ | ⟨g', cap, cur, rfl, hb, _⟩
  · simp [Value.ownBlock] at hg
  · have : g' = g := by simpa [Value.ownBlock] using hg
    subst this; exact hb
theorem own_shape {w : World} {base : Nat} {e : TypeId} {size n : Nat} {v : Value} {xs : List Value} (h : w.ownsRow base e size v n xs) (_hs : 0 < size) : ∃ A c, v = .slice A n c ∧ Lies w w.heap.size A xs ∧ ∀ ad, A = some ad → base ≤ ad.block := by
  rcases h.2 with ⟨rfl, hx⟩ | ⟨g, cap, cur, rfl, hb, hh, hnc, hcur⟩
  · subst hx
    obtain rfl : xs = [] := List.eq_nil_of_length_eq_zero (by have := h.1; omega)
    exact ⟨none, 0, rfl, Lies.none _ _ _, fun _ h => by cases h⟩
  · exact ⟨_, _, rfl, fun k u hu => ⟨_, rfl, (Array.getElem?_eq_some_iff.1 hh).1, h.cells (g := g) rfl k u hu⟩, fun ad h => by injection h with h; subst h; exact hb⟩
theorem lies_lt {w : World} {A : Option Addr} {xs : List Value} (h : Lies w w.heap.size A xs) {ad : Addr} (e : A = some ad) (hne : xs ≠ []) : ad.block < w.heap.size := by
  obtain ⟨v, hv⟩ : ∃ v, xs[0]? = some v := by cases hc : xs with | nil => exact absurd hc hne | cons a b => exact ⟨a, rfl⟩
  obtain ⟨ad', e', hlt, _⟩ := h 0 v hv
  rw [e] at e'; injection e' with e'; subst e'; exact hlt
theorem Lies.block' {w : World} {A : Option Addr} {xs : List Value} (h : Lies w w.heap.size A xs) (o : Obj) : Lies (w.alloc o) (w.alloc o).heap.size A xs := (h.block (Nat.le_refl _) o).wide (by simp)
theorem lies_after {w w' : World} {g : Nat} {A : Option Addr} {xs : List Value} (h : Lies w w.heap.size A xs) (hf : w.grownBy w' (some g)) (hg : ∀ ad, A = some ad → xs ≠ [] → ad.block ≠ g) : Lies w' w'.heap.size A xs := fun k u hu => by
  obtain ⟨ad, e, hb, hc⟩ := h k u hu
  have hne : ad.block ≠ g := hg ad e (by rintro rfl; simp at hu)
  refine ⟨ad, e, Nat.lt_of_lt_of_le hb hf.size, ?_⟩
  have hbl : (ad.add k).block = ad.block := by unfold Addr.add; split <;> rfl
  rw [← hc]
  exact World.cell?_of_block (hf.block _ (by rw [hbl]; exact hb) (by rw [hbl]; intro e2; injection e2 with e2; exact hne e2))
/-- cells that a new block holds -/
theorem lies_made (w : World) (t : TypeId) (xs : List Value) (B : Nat) (hB : w.heap.size < B) : Lies (w.alloc (.cells xs.toArray t)) B (some ⟨w.heap.size, 0, none⟩) xs := fun k u hu => by
  refine ⟨_, rfl, hB, ?_⟩
  have ha : (⟨w.heap.size, 0, none⟩ : Addr).add k = ⟨w.heap.size, k, none⟩ := by unfold Addr.add; split <;> simp_all
  rw [ha, (Whole.made w t xs.toArray).cell]
  simpa using hu
theorem below_grown {B g : Nat} {a w w' : World} (h : Below B a w) (hf : w.grownBy w' (some g)) (hB : B ≤ w.heap.size) (hg : B ≤ g) : Below B a w' :=
  ⟨hf.os.trans h.os, hf.tape.trans h.tape, hf.output.trans h.output, Nat.le_trans h.size hf.size, fun i hi => (hf.block i (Nat.lt_of_lt_of_le hi hB) (by simp; omega)).trans (h.block i hi)⟩
theorem own_below {w w' : World} {base : Nat} {e : TypeId} {size n : Nat} {v : Value} {xs : List Value} (h : w.ownsRow base e size v n xs) (hb : Below w.heap.size w w') : w'.ownsRow base e size v n xs := by
  refine ⟨h.1, ?_⟩
  rcases h.2 with h1 | ⟨g, cap, cur, rfl, h2, h3, h4⟩
  · exact .inl h1
  · exact .inr ⟨g, cap, cur, rfl, h2, (hb.block g (Array.getElem?_eq_some_iff.1 h3).1).trans h3, h4⟩
/-- two rows of the call's own, of elements of two types: one grows, the other stays -/
theorem own_kept {w w' : World} {base base2 : Nat} {e e2 : TypeId} {size n size2 n2 : Nat} {v v2 : Value} {xs xs2 : List Value} (h : w.ownsRow base e size v n xs) (h2 : w.ownsRow base2 e2 size2 v2 n2 xs2) (hne : e ≠ e2) (hg : w.grownBy w' v2.ownBlock) : w'.ownsRow base e size v n xs := by
  refine ⟨h.1, ?_⟩
  rcases h.2 with h1 | ⟨g, cap, cur, rfl, hb, h3, h4⟩
  · exact .inl h1
  · refine .inr ⟨g, cap, cur, rfl, hb, (hg.block g (Array.getElem?_eq_some_iff.1 h3).1 ?_).trans h3, h4⟩
    intro he
    rcases h2.2 with ⟨rfl, _⟩ | ⟨g2, cap2, cur2, rfl, _, h5, _⟩
    · cases he
    · have : g = g2 := by simpa [Value.ownBlock] using he
      subst this
      rw [h3] at h5
      injection h5 with h5
      injection h5 with _ h6
      exact hne h6
theorem wpList_wanted {ops : Array Oper} {rest : List Oper} {o : Oper} {a : Act} {w : World} {Q : Exit → Act → World → Prop} (hw : Region.wanted o (yielded ops a.tmps) = true)
    (h : ∀ K : Act → World → Prop, (∀ a w, wpList P ops Q rest a w → K a w) → o.wp P a w K Q) : wpList P ops Q (o :: rest) a w :=
  wpList_step fun K hK => by rw [if_pos hw]; exact h K hK
/-- a whole array loaded, the operation guarded and wanted -/
theorem wpList_load_g {ops : Array Oper} {rest : List Oper} {o : Oper} {a : Act} {w : World} {Q : Exit → Act → World → Prop} (hw : Region.wanted o (yielded ops a.tmps) = true) (ty : TypeId) (x : Operand) (ho : o.op = .load ty x)
    (ad : Addr) (hx : a.eval x = .pointer (some ad)) (cs : List Value) (d : TypeDesc) (hc : ∀ j v, cs[j]? = some v → w.cell? (ad.add j) = some v)
    (hu : P.underlying ty = some d) (hd : (match d with | .struct _ | .array _ _ => true | _ => false) = true) (hi : (P.info? ty).map (·.size) = some cs.length)
    (h : wpList P ops Q rest (a.put o.dst (.agg cs.toArray)) w) : wpList P ops Q (o :: rest) a w :=
  wpList_wanted hw fun _ hK => by
    unfold Oper.wp execOp
    simp only [ho, hx, Instr.loadAt, Instr.sureAddr, Sem.run_bind, Sem.run_pure, Result.andThen_ok, run_loadVar_at w ad ty cs d hc hu hd hi]
    exact hK _ _ h
theorem zero_size (z : Value) (hz : z.cells.size = 2) (k : Nat) : (Builtin.zeroCells z.cells k).size = k * 2 := by simp [Builtin.zeroCells, hz]
/-- append onto a row of the call's own, the source nil or not -/
theorem wpList_append_src {w : World} {ops : Array Oper} {rest : List Oper} {o : Oper} {a : Act} {Q : Exit → Act → World → Prop} (hgd : o.guard = none) (s x : Operand) (t : TypeId)
    (ho : o.op = .call { callee := .builtin .append, args := #[s, x], argTypes := #[t, t] })
    (base : Nat) (e : TypeId) (i : TypeInfo) (z : Value) (size bytes : Nat) (ht : P.underlying t = some (.slice e)) (hi : P.info? e = some i) (hz : i.zero = some z)
    (hsize : i.size = size) (hby : i.bytes = bytes) (hzs : z.cells.size = size) (hsz : 0 < size)
    (v : Value) (n : Nat) (xs : List Value) (hs : a.eval s = v) (hown : w.ownsRow base e size v n xs)
    (B : Nat) (A : Option Addr) (m c : Nat) (news : List Value) (hx : a.eval x = .slice A m c) (hl : news.length = m * size) (hr : Lies w B A news) (h1 : ∀ u ∈ news, u.oneCell' = true)
    (h63 : n + m ≤ maxLen) (hbytes : (n + m) * bytes ≤ 140737488355328) (hbase : base ≤ w.heap.size)
    (h : ∀ v' w', w'.ownsRow base e size v' (n + m) (xs ++ news) → w.grownBy w' v.ownBlock → wpList P ops Q rest (a.put o.dst v') w') : wpList P ops Q (o :: rest) a w := by
  cases A with
  | some ad =>
    refine wpList_append_own w hgd s x t ho base e i z size bytes ht hi hz hsize hby hzs hsz v n xs hs hown ad m c news hx hl (fun j u hu => ?_) h1 h63 hbytes hbase fun v' w' h2 h3 _ => h v' w' h2 h3
    obtain ⟨ad', e', _, hc⟩ := hr j u hu
    injection e' with e'; subst e'
    exact hc
  | none =>
    have hn : news = [] := by
      cases news with
      | nil => rfl
      | cons u r => obtain ⟨ad, e', _⟩ := hr 0 u rfl; cases e'
    subst hn
    obtain rfl : m = 0 := by
      have : m * size = 0 := by simpa using hl.symm
      rcases Nat.mul_eq_zero.1 this with h | h <;> omega
    refine wpList_plain hgd fun K hK => ?_
    have hrun : (Builtin.append_ #[t, t] o.type #[v, .slice none 0 c]).run P w = .ok v w := by
      rcases hown.2 with ⟨rfl, rfl⟩ | ⟨g, cap, cur, rfl, _, _, hnc, _⟩
      · simp [Builtin.append_, run_underlying ht, Go.sizeOf, typeInfo, hi, Builtin.lenOf, Builtin.firstCells]
      · simp [Builtin.append_, run_underlying ht, Go.sizeOf, typeInfo, hi, Builtin.lenOf, Builtin.firstCells, hnc, storeCells]
    unfold Oper.wp execOp
    simp only [ho, resolve, invoke, builtin, Sem.run_bind, Sem.run_pure, Result.andThen_ok, List.map_toArray, List.map_cons, List.map_nil, hs, hx, hrun]
    exact hK _ _ (h v w (by simpa using hown) (World.grownBy.refl w _))
theorem step_append_own {ops : Array Oper} {o : Oper} {a : Act} {w : World} {K : Act → World → Prop} {Q : Exit → Act → World → Prop} {E : Prop} (hgd : o.guard = none) (s x : Operand) (t : TypeId)
    (ho : o.op = .call { callee := .builtin .append, args := #[s, x], argTypes := #[t, t] })
    (base : Nat) (e : TypeId) (i : TypeInfo) (z : Value) (size bytes : Nat) (ht : P.underlying t = some (.slice e)) (hi : P.info? e = some i) (hz : i.zero = some z)
    (hsize : i.size = size) (hby : i.bytes = bytes) (hzs : z.cells.size = size) (hsz : 0 < size)
    (v : Value) (n : Nat) (xs : List Value) (hs : a.eval s = v) (hown : w.ownsRow base e size v n xs)
    (ad : Addr) (m c : Nat) (news : List Value) (hx : a.eval x = .slice (some ad) m c) (hl : news.length = m * size) (hnews : ∀ j u, news[j]? = some u → w.cell? (ad.add j) = some u) (h1 : ∀ u ∈ news, u.oneCell' = true)
    (h63 : n + m ≤ maxLen) (hbytes : (n + m) * bytes ≤ 140737488355328) (hbase : base ≤ w.heap.size)
    (h : ∀ v' w', w'.ownsRow base e size v' (n + m) (xs ++ news) → w.grownBy w' v.ownBlock → (v' = .slice none 0 0 ↔ v = .slice none 0 0 ∧ m = 0) → K (a.put o.dst v') w') :
    if Region.wanted o (yielded ops a.tmps) = true then Oper.wp P o a w K Q else E := by
  have hw : Region.wanted o (yielded ops a.tmps) = true := by simp [Region.wanted, hgd]
  rw [if_pos hw]
  exact wp_append_own w s x t ho base e i z size bytes ht hi hz hsize hby hzs hsz v n xs hs hown ad m c news hx hl hnews h1 h63 hbytes hbase h
theorem ret_bool {a b : Bool} (h : a = b) : Ending.returned (.bool a) = .returned (.bool b) := by rw [h]
theorem Whole.reads {g : Nat} {t : TypeId} {cs : List Value} (h : Whole W g t cs.toArray) : ∀ j v, cs[j]? = some v → W.cell? ((⟨g, 0, none⟩ : Addr).add j) = some v :=
  mid_cells h 0 cs fun j v hv => by rw [Nat.zero_add]; exact hv
end Go.Proofs.YtmmfcjkabpffeaaDoor
