/-
  A drawn region by a predicate on the SET of operations that have run (XStable and a part of XPair, gathered by pick_gens.sh).
-/
import Derived.Test.YtmmfcjkabpffeaaDoorGen
import Derived.Deep.DeepCutAuto
namespace Go.Proofs.YtmmfcjkabpffeaaDoor
open Go.RowKit

section
variable {P : Program} {ops : Array Oper} {Q : Exit → Act → World → Prop}
/-- the set L, and i -/
def also (L : Nat → Bool) (i : Nat) : Nat → Bool := fun j => j == i || L j
theorem also_same (L : Nat → Bool) (i : Nat) : also L i i = true := by simp [also]
theorem also_other {L : Nat → Bool} {i j : Nat} (h : j ≠ i) : also L i j = L j := by simp [also, h]

theorem wpAny_set (J : (Nat → Bool) → Act → World → Prop)
    (hafter : ∀ (i : Nat) (o : Oper), ops[i]? = some o → ∀ e ∈ o.after, Region.binds .any e = true → e.on < i)
    (hops : ∀ (i : Nat) (o : Oper), ops[i]? = some o → ∀ (L : Nat → Bool) (a : Act) (w : World), L i = false → (∀ e ∈ o.after, Region.binds .any e = true → L e.on = true) → J L a w → wpOp P ops Q i (J (also L i)) a w)
    (hend : ∀ (L : Nat → Bool) (a : Act) (w : World), (∀ i, i < ops.size → L i = true) → J L a w → Q .normal a w) :
    ∀ (fuel : Nat) (listed : Array Bool) (L : Nat → Bool) (a : Act) (w : World), listed.size = ops.size → (∀ i, i < ops.size → listed.getD i true = L i) → (∀ i, i < ops.size → listed.getD i false = L i) →
      ((List.range ops.size).filter fun i => !L i).length ≤ fuel → J L a w → wpAny P .any ops Q fuel listed a w := by
  have hnil : ∀ (listed : Array Bool) (L : Nat → Bool), (∀ i, i < ops.size → listed.getD i true = L i) → (∀ i, i < ops.size → listed.getD i false = L i) → Region.ready .any ops listed = [] → ∀ n i, i < n → i < ops.size → L i = true := by
    intro listed L h1 h2 hr n
    induction n with
    | zero => intro i hi; omega
    | succ n ih =>
      intro i hi hs
      rcases Nat.lt_or_ge i n with h | h
      · exact ih i h hs
      obtain rfl : i = n := by omega
      cases hL : L i with
      | true => rfl
      | false =>
        exfalso
        have hm : i ∈ Region.ready .any ops listed := by
          refine mem_ready.2 ⟨(h1 i hs).trans hL, ops[i], Array.getElem?_eq_getElem hs, fun e he hb => ?_⟩
          have hlt := hafter i _ (Array.getElem?_eq_getElem hs) e he hb
          rw [h2 _ (by omega)]
          exact ih _ hlt (by omega)
        rw [hr] at hm
        cases hm
  intro fuel
  induction fuel with
  | zero =>
    intro listed L a w hsz h1 h2 hc hJ
    have hall : ∀ i, i < ops.size → L i = true := by
      intro i hi
      cases hL : L i with
      | true => rfl
      | false =>
        exfalso
        have : i ∈ (List.range ops.size).filter fun i => !L i := List.mem_filter.2 ⟨List.mem_range.2 hi, by simp [hL]⟩
        have := List.length_pos_of_mem this
        omega
    refine ⟨?_, hend L a w hall hJ⟩
    unfold Region.ready
    rw [List.filter_eq_nil_iff]
    intro i hi
    rw [h1 i (List.mem_range.1 hi), hall i (List.mem_range.1 hi)]
    simp
  | succ fuel ih =>
    intro listed L a w hsz h1 h2 hc hJ
    refine ⟨fun hr => hend L a w (fun i hi => hnil listed L h1 h2 hr (i + 1) i (by omega) hi) hJ, fun i hi => ?_⟩
    obtain ⟨hli, o, ho, hd⟩ := mem_ready.1 hi
    have his : i < ops.size := (Array.getElem?_eq_some_iff.1 ho).1
    have hLi : L i = false := (h1 i his).symm.trans hli
    refine wpOp_mono (fun a' w' h => ih _ (also L i) a' w' (by simp [hsz]) ?_ ?_ ?_ h) (hops i o ho L a w hLi (fun e he hb => ?_) hJ)
    · intro j hj
      by_cases hji : j = i
      · subst hji; rw [also_same]; simp [Array.getD_eq_getD_getElem?, hsz, hj]
      · rw [getD_set_ne _ (fun e => hji e.symm), also_other hji]; exact h1 j hj
    · intro j hj
      by_cases hji : j = i
      · subst hji; rw [also_same]; simp [Array.getD_eq_getD_getElem?, hsz, hj]
      · rw [getD_set_ne _ (fun e => hji e.symm), also_other hji]; exact h2 j hj
    · have hlt : ((List.range ops.size).filter fun j => !also L i j).length < ((List.range ops.size).filter fun j => !L j).length := by
        have e1 : ((List.range ops.size).filter fun j => !also L i j) = ((List.range ops.size).filter fun j => !L j).filter fun j => !(j == i) := by
          rw [List.filter_filter]
          congr 1
          funext j
          simp [also, Bool.not_or]
        rw [e1]
        refine Nat.lt_of_le_of_ne (List.length_filter_le _ _) fun he => ?_
        have := List.filter_eq_self.1 (List.filter_sublist.eq_of_length he) i (List.mem_filter.2 ⟨List.mem_range.2 his, by simp [hLi]⟩)
        simp at this
      omega
    · rw [← h2 _ (by have := hafter i o ho e he hb; omega)]
      exact hd e he hb

/-- a region that draws its order, by a predicate on the set of the operations that have run -/
theorem wp_region_set {id : Nat} {a : Act} {w : World} (hm : P.follows .mixedOrders = true) (J : (Nat → Bool) → Act → World → Prop)
    (hafter : ∀ (i : Nat) (o : Oper), ops[i]? = some o → ∀ e ∈ o.after, Region.binds .any e = true → e.on < i)
    (h0 : J (fun _ => false) a w.drew)
    (hops : ∀ (i : Nat) (o : Oper), ops[i]? = some o → ∀ (L : Nat → Bool) (a : Act) (w : World), L i = false → (∀ e ∈ o.after, Region.binds .any e = true → L e.on = true) → J L a w → wpOp P ops Q i (J (also L i)) a w)
    (hend : ∀ (L : Nat → Bool) (a : Act) (w : World), (∀ i, i < ops.size → L i = true) → J L a w → Q .normal a w) : (Code.region id ops true).wp P Q a w :=
  wp_region_any hm (wpAny_set J hafter hops hend ops.size _ (fun _ => false) a _ (by simp) (fun i hi => by simp [Array.getD_eq_getD_getElem?, hi]) (fun i hi => by simp [Array.getD_eq_getD_getElem?, hi])
    (Nat.le_trans (List.length_filter_le _ _) (by simp)) h0)

theorem wpOp_of {i : Nat} {o : Oper} {K : Act → World → Prop} {a : Act} {w : World} (ho : ops[i]? = some o) (hg : o.guard = none) (h : o.wp P a w K Q) : wpOp P ops Q i K a w := by
  unfold wpOp
  simp only [ho]
  have hw : Region.wanted o (yielded ops a.tmps) = true := by simp [Region.wanted, hg]
  rw [if_pos hw]
  exact .inl h
end
/-- of each operation: behind which ones it comes at least -/
def downOk (ops : Array Oper) : Bool := ops.toList.zipIdx.all fun x => x.1.after.all fun e => !Region.binds .any e || decide (e.on < x.2)
def needs (o : Oper) (l : List Nat) : Bool := l.all fun j => o.after.any fun e => Region.binds .any e && e.on == j
theorem needs_spec {o : Oper} {l : List Nat} (h : needs o l = true) {L : Nat → Bool} (hL : ∀ e ∈ o.after, Region.binds .any e = true → L e.on = true) : ∀ j ∈ l, L j = true := fun j hj => by
  have := List.all_eq_true.1 h j hj
  obtain ⟨k, hk, hh⟩ := Array.any_eq_true.1 this
  have he : o.after[k] ∈ o.after := Array.getElem_mem hk
  generalize o.after[k] = e at hh he
  simp only [Bool.and_eq_true, beq_iff_eq] at hh
  rw [← hh.2]
  exact hL e he hh.1
theorem downOk_spec {ops : Array Oper} (h : downOk ops = true) : ∀ (i : Nat) (o : Oper), ops[i]? = some o → ∀ e ∈ o.after, Region.binds .any e = true → e.on < i := fun i o ho e he hb => by
  have hm : (o, i) ∈ ops.toList.zipIdx := by
    rw [List.mem_iff_getElem?]
    exact ⟨i, by simp [List.getElem?_zipIdx, ho]⟩
  have := Array.all_eq_true_iff_forall_mem.1 (List.all_eq_true.1 h _ hm) e he
  simpa [hb] using this

theorem also_of {L : Nat → Bool} {i j : Nat} (h : L j = true) : also L i j = true := by simp [also, h]
theorem also_all {L : Nat → Bool} {i j : Nat} (hj : j < i) (h : ∀ k ∈ List.range i, L k = true) : also L i j = true := also_of (h j (List.mem_range.2 hj))
end Go.Proofs.YtmmfcjkabpffeaaDoor
