/-
  Laws of no function, gathered out of other texts (pick.py).
-/
import Derived.Test.YtmdciljpcnokcaaGreatDoorProg
import Derived.Test.YtmdciljpcnokcaaGreatDoorBase
import Derived.Deep.AppendLies
import Derived.StillTailTactics
import Derived.Deep.RegionHeld3
import Derived.Deep.RegionWith
import Derived.Deep.AppendSrc
import Derived.BigQuiet
import Derived.Deep.QuietTactic
import Derived.Deep.DeepCutAuto
namespace Go.Proofs.YtmdciljpcnokcaaGreatDoor
open Go.RowKit

variable {P : Program} {W : World}
theorem add_block (a : Addr) (n : Nat) : (a.add n).block = a.block := by unfold Addr.add; split <;> rfl
theorem take_eq_of {α : Type} {a b : List α} (h : a.length = b.length) (he : a.take a.length = b.take a.length) : a = b := by
  rw [List.take_of_length_le (Nat.le_refl _), List.take_of_length_le (by omega)] at he; exact he
/-- cells of a part of a block that is known whole -/
theorem mid_cells {w : World} {g : Nat} {t : TypeId} {xs : List Value} (h : Whole w g t xs.toArray) (o : Nat) (cs : List Value) (hc : ∀ j v, cs[j]? = some v → xs[o + j]? = some v) : ∀ j v, cs[j]? = some v → w.cell? ((⟨g, o, none⟩ : Addr).add j) = some v := fun j v hv => by
  rw [show (⟨g, o, none⟩ : Addr).add j = ⟨g, o + j, none⟩ by unfold Addr.add; split <;> simp_all]
  rw [h.cell, List.getElem?_toArray]; exact hc j v hv
theorem S_one (l : List (List UInt8)) : ∀ v ∈ l.map S, v.oneCell' = true := by
  intro v hv
  obtain ⟨b, _, rfl⟩ := List.mem_map.1 hv
  rfl
theorem own_ge {w : World} {base : Nat} {e : TypeId} {size n : Nat} {v : Value} {xs : List Value} (h : w.ownsRow base e size v n xs) : ∀ g, v.ownBlock = some g → base ≤ g := by
  intro g hg
  rcases h.2 with ⟨rfl, _⟩ | ⟨g', cap, cur, rfl, hb, _⟩
  · simp [Value.ownBlock] at hg
  · have : g' = g := by simpa [Value.ownBlock] using hg
    subst this; exact hb
theorem own_shape {w : World} {base : Nat} {e : TypeId} {size n : Nat} {v : Value} {xs : List Value} (h : w.ownsRow base e size v n xs) (_hs : 0 < size) : ∃ A c, v = .slice A n c ∧ Lies w w.heap.size A xs ∧ ∀ ad, A = some ad → base ≤ ad.block := by
  rcases h.2 with ⟨rfl, hx⟩ | ⟨g, cap, cur, rfl, hb, hh, hnc, hcur⟩
  · subst hx
    obtain rfl : xs = [] := List.eq_nil_of_length_eq_zero (by have := h.1; omega)
    exact ⟨none, 0, rfl, Lies.none _ _ _, fun _ h => by cases h⟩
  · exact ⟨_, _, rfl, fun k u hu => ⟨_, rfl, (Array.getElem?_eq_some_iff.1 hh).1, h.cells (g := g) rfl k u hu⟩, fun ad h => by injection h with h; subst h; exact hb⟩
theorem lies_lt {w : World} {A : Option Addr} {xs : List Value} (h : Lies w w.heap.size A xs) {ad : Addr} (e : A = some ad) (hne : xs ≠ []) : ad.block < w.heap.size := by
  obtain ⟨v, hv⟩ : ∃ v, xs[0]? = some v := by cases hc : xs with | nil => exact absurd hc hne | cons a b => exact ⟨a, rfl⟩
  obtain ⟨ad', e', hlt, _⟩ := h 0 v hv
  rw [e] at e'; injection e' with e'; subst e'; exact hlt
theorem Lies.block' {w : World} {A : Option Addr} {xs : List Value} (h : Lies w w.heap.size A xs) (o : Obj) : Lies (w.alloc o) (w.alloc o).heap.size A xs := (h.block (Nat.le_refl _) o).wide (by simp)
theorem lies_after {w w' : World} {g : Nat} {A : Option Addr} {xs : List Value} (h : Lies w w.heap.size A xs) (hf : w.grownBy w' (some g)) (hg : ∀ ad, A = some ad → xs ≠ [] → ad.block ≠ g) : Lies w' w'.heap.size A xs := fun k u hu => by
  obtain ⟨ad, e, hb, hc⟩ := h k u hu
  have hne : ad.block ≠ g := hg ad e (by rintro rfl; simp at hu)
  refine ⟨ad, e, Nat.lt_of_lt_of_le hb hf.size, ?_⟩
  have hbl : (ad.add k).block = ad.block := by unfold Addr.add; split <;> rfl
  rw [← hc]
  exact World.cell?_of_block (hf.block _ (by rw [hbl]; exact hb) (by rw [hbl]; intro e2; injection e2 with e2; exact hne e2))
/-- cells that a new block holds -/
theorem lies_made (w : World) (t : TypeId) (xs : List Value) (B : Nat) (hB : w.heap.size < B) : Lies (w.alloc (.cells xs.toArray t)) B (some ⟨w.heap.size, 0, none⟩) xs := fun k u hu => by
  refine ⟨_, rfl, hB, ?_⟩
  have ha : (⟨w.heap.size, 0, none⟩ : Addr).add k = ⟨w.heap.size, k, none⟩ := by unfold Addr.add; split <;> simp_all
  rw [ha, (Whole.made w t xs.toArray).cell]
  simpa using hu
theorem below_grown {B g : Nat} {a w w' : World} (h : Below B a w) (hf : w.grownBy w' (some g)) (hB : B ≤ w.heap.size) (hg : B ≤ g) : Below B a w' :=
  ⟨hf.os.trans h.os, hf.tape.trans h.tape, hf.output.trans h.output, Nat.le_trans h.size hf.size, fun i hi => (hf.block i (Nat.lt_of_lt_of_le hi hB) (by simp; omega)).trans (h.block i hi)⟩
theorem own_below {w w' : World} {base : Nat} {e : TypeId} {size n : Nat} {v : Value} {xs : List Value} (h : w.ownsRow base e size v n xs) (hb : Below w.heap.size w w') : w'.ownsRow base e size v n xs := by
  refine ⟨h.1, ?_⟩
  rcases h.2 with h1 | ⟨g, cap, cur, rfl, h2, h3, h4⟩
  · exact .inl h1
  · exact .inr ⟨g, cap, cur, rfl, h2, (hb.block g (Array.getElem?_eq_some_iff.1 h3).1).trans h3, h4⟩
/-- two rows of the call's own, of elements of two types: one grows, the other stays -/
theorem own_kept {w w' : World} {base base2 : Nat} {e e2 : TypeId} {size n size2 n2 : Nat} {v v2 : Value} {xs xs2 : List Value} (h : w.ownsRow base e size v n xs) (h2 : w.ownsRow base2 e2 size2 v2 n2 xs2) (hne : e ≠ e2) (hg : w.grownBy w' v2.ownBlock) : w'.ownsRow base e size v n xs := by
  refine ⟨h.1, ?_⟩
  rcases h.2 with h1 | ⟨g, cap, cur, rfl, hb, h3, h4⟩
  · exact .inl h1
  · refine .inr ⟨g, cap, cur, rfl, hb, (hg.block g (Array.getElem?_eq_some_iff.1 h3).1 ?_).trans h3, h4⟩
    intro he
    rcases h2.2 with ⟨rfl, _⟩ | ⟨g2, cap2, cur2, rfl, _, h5, _⟩
    · cases he
    · have : g = g2 := by simpa [Value.ownBlock] using he
      subst this
      rw [h3] at h5
      injection h5 with h5
      injection h5 with _ h6
      exact hne h6
theorem wpList_wanted {ops : Array Oper} {rest : List Oper} {o : Oper} {a : Act} {w : World} {Q : Exit → Act → World → Prop} (hw : Region.wanted o (yielded ops a.tmps) = true)
    (h : ∀ K : Act → World → Prop, (∀ a w, wpList P ops Q rest a w → K a w) → o.wp P a w K Q) : wpList P ops Q (o :: rest) a w :=
  wpList_step fun K hK => by rw [if_pos hw]; exact h K hK
/-- a whole array loaded, the operation guarded and wanted -/
theorem wpList_load_g {ops : Array Oper} {rest : List Oper} {o : Oper} {a : Act} {w : World} {Q : Exit → Act → World → Prop} (hw : Region.wanted o (yielded ops a.tmps) = true) (ty : TypeId) (x : Operand) (ho : o.op = .load ty x)
    (ad : Addr) (hx : a.eval x = .pointer (some ad)) (cs : List Value) (d : TypeDesc) (hc : ∀ j v, cs[j]? = some v → w.cell? (ad.add j) = some v)
    (hu : P.underlying ty = some d) (hd : (match d with | .struct _ | .array _ _ => true | _ => false) = true) (hi : (P.info? ty).map (·.size) = some cs.length)
    (h : wpList P ops Q rest (a.put o.dst (.agg cs.toArray)) w) : wpList P ops Q (o :: rest) a w :=
  wpList_wanted hw fun _ hK => by
    unfold Oper.wp execOp
    simp only [ho, hx, Instr.loadAt, Instr.sureAddr, Sem.run_bind, Sem.run_pure, Result.andThen_ok, run_loadVar_at w ad ty cs d hc hu hd hi]
    exact hK _ _ h
theorem zero_size (z : Value) (hz : z.cells.size = 2) (k : Nat) : (Builtin.zeroCells z.cells k).size = k * 2 := by simp [Builtin.zeroCells, hz]
/-- append onto a row of the call's own, the source nil or not -/
theorem wpList_append_src {w : World} {ops : Array Oper} {rest : List Oper} {o : Oper} {a : Act} {Q : Exit → Act → World → Prop} (hgd : o.guard = none) (s x : Operand) (t : TypeId)
    (ho : o.op = .call { callee := .builtin .append, args := #[s, x], argTypes := #[t, t] })
    (base : Nat) (e : TypeId) (i : TypeInfo) (z : Value) (size bytes : Nat) (ht : P.underlying t = some (.slice e)) (hi : P.info? e = some i) (hz : i.zero = some z)
    (hsize : i.size = size) (hby : i.bytes = bytes) (hzs : z.cells.size = size) (hsz : 0 < size)
    (v : Value) (n : Nat) (xs : List Value) (hs : a.eval s = v) (hown : w.ownsRow base e size v n xs)
    (B : Nat) (A : Option Addr) (m c : Nat) (news : List Value) (hx : a.eval x = .slice A m c) (hl : news.length = m * size) (hr : Lies w B A news) (h1 : ∀ u ∈ news, u.oneCell' = true)
    (h63 : n + m ≤ maxLen) (hbytes : (n + m) * bytes ≤ 140737488355328) (hbase : base ≤ w.heap.size)
    (h : ∀ v' w', w'.ownsRow base e size v' (n + m) (xs ++ news) → w.grownBy w' v.ownBlock → wpList P ops Q rest (a.put o.dst v') w') : wpList P ops Q (o :: rest) a w := by
  cases A with
  | some ad =>
    refine wpList_append_own w hgd s x t ho base e i z size bytes ht hi hz hsize hby hzs hsz v n xs hs hown ad m c news hx hl (fun j u hu => ?_) h1 h63 hbytes hbase fun v' w' h2 h3 _ => h v' w' h2 h3
    obtain ⟨ad', e', _, hc⟩ := hr j u hu
    injection e' with e'; subst e'
    exact hc
  | none =>
    have hn : news = [] := by
      cases news with
      | nil => rfl
      | cons u r => obtain ⟨ad, e', _⟩ := hr 0 u rfl; cases e'
    subst hn
    obtain rfl : m = 0 := by
      have : m * size = 0 := by simpa using hl.symm
      rcases Nat.mul_eq_zero.1 this with h | h <;> omega
    refine wpList_plain hgd fun K hK => ?_
    have hrun : (Builtin.append_ #[t, t] o.type #[v, .slice none 0 c]).run P w = .ok v w := by
      rcases hown.2 with ⟨rfl, rfl⟩ | ⟨g, cap, cur, rfl, _, _, hnc, _⟩
      · simp [Builtin.append_, run_underlying ht, Go.sizeOf, typeInfo, hi, Builtin.lenOf, Builtin.firstCells]
      · simp [Builtin.append_, run_underlying ht, Go.sizeOf, typeInfo, hi, Builtin.lenOf, Builtin.firstCells, hnc, storeCells]
    unfold Oper.wp execOp
    simp only [ho, resolve, invoke, builtin, Sem.run_bind, Sem.run_pure, Result.andThen_ok, List.map_toArray, List.map_cons, List.map_nil, hs, hx, hrun]
    exact hK _ _ (h v w (by simpa using hown) (World.grownBy.refl w _))
theorem step_append_own {ops : Array Oper} {o : Oper} {a : Act} {w : World} {K : Act → World → Prop} {Q : Exit → Act → World → Prop} {E : Prop} (hgd : o.guard = none) (s x : Operand) (t : TypeId)
    (ho : o.op = .call { callee := .builtin .append, args := #[s, x], argTypes := #[t, t] })
    (base : Nat) (e : TypeId) (i : TypeInfo) (z : Value) (size bytes : Nat) (ht : P.underlying t = some (.slice e)) (hi : P.info? e = some i) (hz : i.zero = some z)
    (hsize : i.size = size) (hby : i.bytes = bytes) (hzs : z.cells.size = size) (hsz : 0 < size)
    (v : Value) (n : Nat) (xs : List Value) (hs : a.eval s = v) (hown : w.ownsRow base e size v n xs)
    (ad : Addr) (m c : Nat) (news : List Value) (hx : a.eval x = .slice (some ad) m c) (hl : news.length = m * size) (hnews : ∀ j u, news[j]? = some u → w.cell? (ad.add j) = some u) (h1 : ∀ u ∈ news, u.oneCell' = true)
    (h63 : n + m ≤ maxLen) (hbytes : (n + m) * bytes ≤ 140737488355328) (hbase : base ≤ w.heap.size)
    (h : ∀ v' w', w'.ownsRow base e size v' (n + m) (xs ++ news) → w.grownBy w' v.ownBlock → (v' = .slice none 0 0 ↔ v = .slice none 0 0 ∧ m = 0) → K (a.put o.dst v') w') :
    if Region.wanted o (yielded ops a.tmps) = true then Oper.wp P o a w K Q else E := by
  have hw : Region.wanted o (yielded ops a.tmps) = true := by simp [Region.wanted, hgd]
  rw [if_pos hw]
  exact wp_append_own w s x t ho base e i z size bytes ht hi hz hsize hby hzs hsz v n xs hs hown ad m c news hx hl hnews h1 h63 hbytes hbase h
theorem ret_bool {a b : Bool} (h : a = b) : Ending.returned (.bool a) = .returned (.bool b) := by rw [h]
theorem Whole.reads {g : Nat} {t : TypeId} {cs : List Value} (h : Whole W g t cs.toArray) : ∀ j v, cs[j]? = some v → W.cell? ((⟨g, 0, none⟩ : Addr).add j) = some v :=
  mid_cells h 0 cs fun j v hv => by rw [Nat.zero_add]; exact hv
end Go.Proofs.YtmdciljpcnokcaaGreatDoor
/-
  A drawn region by a predicate on the SET of operations that have run (XStable and a part of XPair, gathered by pick_gens.sh).
-/
namespace Go.Proofs.YtmdciljpcnokcaaGreatDoor
open Go.RowKit

section
variable {P : Program} {ops : Array Oper} {Q : Exit → Act → World → Prop}
/-- the set L, and i -/
def also (L : Nat → Bool) (i : Nat) : Nat → Bool := fun j => j == i || L j
theorem also_same (L : Nat → Bool) (i : Nat) : also L i i = true := by simp [also]
theorem also_other {L : Nat → Bool} {i j : Nat} (h : j ≠ i) : also L i j = L j := by simp [also, h]

theorem wpAny_set (J : (Nat → Bool) → Act → World → Prop)
    (hafter : ∀ (i : Nat) (o : Oper), ops[i]? = some o → ∀ e ∈ o.after, Region.binds .any e = true → e.on < i)
    (hops : ∀ (i : Nat) (o : Oper), ops[i]? = some o → ∀ (L : Nat → Bool) (a : Act) (w : World), L i = false → (∀ e ∈ o.after, Region.binds .any e = true → L e.on = true) → J L a w → wpOp P ops Q i (J (also L i)) a w)
    (hend : ∀ (L : Nat → Bool) (a : Act) (w : World), (∀ i, i < ops.size → L i = true) → J L a w → Q .normal a w) :
    ∀ (fuel : Nat) (listed : Array Bool) (L : Nat → Bool) (a : Act) (w : World), listed.size = ops.size → (∀ i, i < ops.size → listed.getD i true = L i) → (∀ i, i < ops.size → listed.getD i false = L i) →
      ((List.range ops.size).filter fun i => !L i).length ≤ fuel → J L a w → wpAny P .any ops Q fuel listed a w := by
  have hnil : ∀ (listed : Array Bool) (L : Nat → Bool), (∀ i, i < ops.size → listed.getD i true = L i) → (∀ i, i < ops.size → listed.getD i false = L i) → Region.ready .any ops listed = [] → ∀ n i, i < n → i < ops.size → L i = true := by
    intro listed L h1 h2 hr n
    induction n with
    | zero => intro i hi; omega
    | succ n ih =>
      intro i hi hs
      rcases Nat.lt_or_ge i n with h | h
      · exact ih i h hs
      obtain rfl : i = n := by omega
      cases hL : L i with
      | true => rfl
      | false =>
        exfalso
        have hm : i ∈ Region.ready .any ops listed := by
          refine mem_ready.2 ⟨(h1 i hs).trans hL, ops[i], Array.getElem?_eq_getElem hs, fun e he hb => ?_⟩
          have hlt := hafter i _ (Array.getElem?_eq_getElem hs) e he hb
          rw [h2 _ (by omega)]
          exact ih _ hlt (by omega)
        rw [hr] at hm
        cases hm
  intro fuel
  induction fuel with
  | zero =>
    intro listed L a w hsz h1 h2 hc hJ
    have hall : ∀ i, i < ops.size → L i = true := by
      intro i hi
      cases hL : L i with
      | true => rfl
      | false =>
        exfalso
        have : i ∈ (List.range ops.size).filter fun i => !L i := List.mem_filter.2 ⟨List.mem_range.2 hi, by simp [hL]⟩
        have := List.length_pos_of_mem this
        omega
    refine ⟨?_, hend L a w hall hJ⟩
    unfold Region.ready
    rw [List.filter_eq_nil_iff]
    intro i hi
    rw [h1 i (List.mem_range.1 hi), hall i (List.mem_range.1 hi)]
    simp
  | succ fuel ih =>
    intro listed L a w hsz h1 h2 hc hJ
    refine ⟨fun hr => hend L a w (fun i hi => hnil listed L h1 h2 hr (i + 1) i (by omega) hi) hJ, fun i hi => ?_⟩
    obtain ⟨hli, o, ho, hd⟩ := mem_ready.1 hi
    have his : i < ops.size := (Array.getElem?_eq_some_iff.1 ho).1
    have hLi : L i = false := (h1 i his).symm.trans hli
    refine wpOp_mono (fun a' w' h => ih _ (also L i) a' w' (by simp [hsz]) ?_ ?_ ?_ h) (hops i o ho L a w hLi (fun e he hb => ?_) hJ)
    · intro j hj
      by_cases hji : j = i
      · subst hji; rw [also_same]; simp [Array.getD_eq_getD_getElem?, hsz, hj]
      · rw [getD_set_ne _ (fun e => hji e.symm), also_other hji]; exact h1 j hj
    · intro j hj
      by_cases hji : j = i
      · subst hji; rw [also_same]; simp [Array.getD_eq_getD_getElem?, hsz, hj]
      · rw [getD_set_ne _ (fun e => hji e.symm), also_other hji]; exact h2 j hj
    · have hlt : ((List.range ops.size).filter fun j => !also L i j).length < ((List.range ops.size).filter fun j => !L j).length := by
        have e1 : ((List.range ops.size).filter fun j => !also L i j) = ((List.range ops.size).filter fun j => !L j).filter fun j => !(j == i) := by
          rw [List.filter_filter]
          congr 1
          funext j
          simp [also, Bool.not_or]
        rw [e1]
        refine Nat.lt_of_le_of_ne (List.length_filter_le _ _) fun he => ?_
        have := List.filter_eq_self.1 (List.filter_sublist.eq_of_length he) i (List.mem_filter.2 ⟨List.mem_range.2 his, by simp [hLi]⟩)
        simp at this
      omega
    · rw [← h2 _ (by have := hafter i o ho e he hb; omega)]
      exact hd e he hb

/-- a region that draws its order, by a predicate on the set of the operations that have run -/
theorem wp_region_set {id : Nat} {a : Act} {w : World} (hm : P.follows .mixedOrders = true) (J : (Nat → Bool) → Act → World → Prop)
    (hafter : ∀ (i : Nat) (o : Oper), ops[i]? = some o → ∀ e ∈ o.after, Region.binds .any e = true → e.on < i)
    (h0 : J (fun _ => false) a w.drew)
    (hops : ∀ (i : Nat) (o : Oper), ops[i]? = some o → ∀ (L : Nat → Bool) (a : Act) (w : World), L i = false → (∀ e ∈ o.after, Region.binds .any e = true → L e.on = true) → J L a w → wpOp P ops Q i (J (also L i)) a w)
    (hend : ∀ (L : Nat → Bool) (a : Act) (w : World), (∀ i, i < ops.size → L i = true) → J L a w → Q .normal a w) : (Code.region id ops true).wp P Q a w :=
  wp_region_any hm (wpAny_set J hafter hops hend ops.size _ (fun _ => false) a _ (by simp) (fun i hi => by simp [Array.getD_eq_getD_getElem?, hi]) (fun i hi => by simp [Array.getD_eq_getD_getElem?, hi])
    (Nat.le_trans (List.length_filter_le _ _) (by simp)) h0)

theorem wpOp_of {i : Nat} {o : Oper} {K : Act → World → Prop} {a : Act} {w : World} (ho : ops[i]? = some o) (hg : o.guard = none) (h : o.wp P a w K Q) : wpOp P ops Q i K a w := by
  unfold wpOp
  simp only [ho]
  have hw : Region.wanted o (yielded ops a.tmps) = true := by simp [Region.wanted, hg]
  rw [if_pos hw]
  exact .inl h
end
/-- of each operation: behind which ones it comes at least -/
def downOk (ops : Array Oper) : Bool := ops.toList.zipIdx.all fun x => x.1.after.all fun e => !Region.binds .any e || decide (e.on < x.2)
def needs (o : Oper) (l : List Nat) : Bool := l.all fun j => o.after.any fun e => Region.binds .any e && e.on == j
theorem needs_spec {o : Oper} {l : List Nat} (h : needs o l = true) {L : Nat → Bool} (hL : ∀ e ∈ o.after, Region.binds .any e = true → L e.on = true) : ∀ j ∈ l, L j = true := fun j hj => by
  have := List.all_eq_true.1 h j hj
  obtain ⟨k, hk, hh⟩ := Array.any_eq_true.1 this
  have he : o.after[k] ∈ o.after := Array.getElem_mem hk
  generalize o.after[k] = e at hh he
  simp only [Bool.and_eq_true, beq_iff_eq] at hh
  rw [← hh.2]
  exact hL e he hh.1
theorem downOk_spec {ops : Array Oper} (h : downOk ops = true) : ∀ (i : Nat) (o : Oper), ops[i]? = some o → ∀ e ∈ o.after, Region.binds .any e = true → e.on < i := fun i o ho e he hb => by
  have hm : (o, i) ∈ ops.toList.zipIdx := by
    rw [List.mem_iff_getElem?]
    exact ⟨i, by simp [List.getElem?_zipIdx, ho]⟩
  have := Array.all_eq_true_iff_forall_mem.1 (List.all_eq_true.1 h _ hm) e he
  simpa [hb] using this

theorem also_of {L : Nat → Bool} {i j : Nat} (h : L j = true) : also L i j = true := by simp [also, h]
theorem also_all {L : Nat → Bool} {i j : Nat} (hj : j < i) (h : ∀ k ∈ List.range i, L k = true) : also L i j = true := also_of (h j (List.mem_range.2 hj))
end Go.Proofs.YtmdciljpcnokcaaGreatDoor
