/-
  A law of 'x, y := f(..), g(..)' whose results lie in boxes of their own: a region that draws its order, in which the boxes may be made ahead of, between or behind the calls. Over any program.
-/
import Derived.Test.YtecamaceainfpaaDoorStable
import Derived.Test.YtecamaceainfpaaDoorOf
namespace Go.Proofs.YtecamaceainfpaaDoor
open Go.RowKit

/-- lists that lie behind slices -/
abbrev Rows' := List (Option Addr × List Value)
def Held (w : World) (ps : Rows') : Prop := ∀ x ∈ ps, Lies w w.heap.size x.1 x.2
def Fresh (B : Nat) (ps : Rows') : Prop := ∀ x ∈ ps, ∀ ad, x.1 = some ad → B ≤ ad.block
def Off (p : Nat) (ps : Rows') : Prop := ∀ x ∈ ps, ∀ ad, x.1 = some ad → x.2 ≠ [] → ad.block ≠ p
theorem Held.below {w w' : World} {ps : Rows'} (h : Held w ps) (hb : Below w.heap.size w w') : Held w' ps := fun x hx => ((h x hx).below hb).wide hb.size
theorem Held.block {w : World} {ps : Rows'} (h : Held w ps) (o : Obj) : Held (w.alloc o) ps := fun x hx => ((h x hx).block (Nat.le_refl _) o).wide (by simp)
theorem Held.after {w w' : World} {g : Nat} {ps : Rows'} (h : Held w ps) (hf : w.grownBy w' (some g)) (ho : Off g ps) : Held w' ps := fun x hx => lies_after (h x hx) hf (ho x hx)
theorem Held.off_new {w : World} {ps : Rows'} (h : Held w ps) : Off w.heap.size ps := fun x hx ad e hne => by
  obtain ⟨v, hv⟩ : ∃ v, x.2[0]? = some v := by cases hc : x.2 with | nil => exact absurd hc hne | cons a b => exact ⟨a, rfl⟩
  obtain ⟨ad', e', hlt, _⟩ := h x hx 0 v hv
  rw [e] at e'; injection e' with e'; subst e'; omega
theorem Fresh.off {B p : Nat} {ps : Rows'} (h : Fresh B ps) (hp : p < B) : Off p ps := fun x hx ad e _ => by have := h x hx ad e; omega

/-- what holds while the region runs -/
def PairJ (Fr : Value → Value → Value → Value → Value → Value → Value → Value → Act) (w0 : World) (B : Nat) (x6 x7 x9 x10 : Value) (T : TypeId) (n : Nat) (R1 R2 : List Value → Rows' → Prop) (L : Nat → Bool) (a : Act) (w : World) : Prop :=
  ∃ v2 v3 v6 v7 v8 v9 v10 v11, ∃ (p q : Nat) (c1 c2 : List Value) (ps1 ps2 : Rows') (d1 d2 : List Value), a = Fr v2 v3 v6 v7 v8 v9 v10 v11 ∧ Below B w0 w ∧ B ≤ w.heap.size ∧
    (L 0 = true → v6 = x6) ∧ (L 1 = true → v7 = x7) ∧ (L 3 = true → v9 = x9) ∧ (L 4 = true → v10 = x10) ∧
    (L 2 = true → v8 = .agg c1.toArray ∧ R1 c1 ps1 ∧ Held w ps1) ∧ (L 5 = true → v11 = .agg c2.toArray ∧ R2 c2 ps2 ∧ Held w ps2) ∧
    (L 6 = true → v2 = .pointer (some ⟨p, 0, none⟩) ∧ B ≤ p ∧ Whole w p T d1.toArray ∧ d1.length = n ∧ (L 8 = true → d1 = c1)) ∧
    (L 7 = true → v3 = .pointer (some ⟨q, 0, none⟩) ∧ B ≤ q ∧ Whole w q T d2.toArray ∧ d2.length = n ∧ (L 9 = true → d2 = c2)) ∧
    (L 6 = true → L 7 = true → p ≠ q) ∧ (L 2 = true → L 6 = true → Off p ps1) ∧ (L 2 = true → L 7 = true → Off q ps1) ∧ (L 5 = true → L 6 = true → Off p ps2) ∧ (L 5 = true → L 7 = true → Off q ps2) ∧
    (L 8 = true → L 2 = true ∧ L 5 = true ∧ L 6 = true ∧ L 7 = true) ∧ (L 9 = true → L 2 = true ∧ L 5 = true ∧ L 6 = true ∧ L 7 = true)

/-- of each operation: behind which ones it comes at least -/
def downOk (ops : Array Oper) : Bool := ops.toList.zipIdx.all fun x => x.1.after.all fun e => !Region.binds .any e || decide (e.on < x.2)
def needs (o : Oper) (l : List Nat) : Bool := l.all fun j => o.after.any fun e => Region.binds .any e && e.on == j
theorem needs_spec {o : Oper} {l : List Nat} (h : needs o l = true) {L : Nat → Bool} (hL : ∀ e ∈ o.after, Region.binds .any e = true → L e.on = true) : ∀ j ∈ l, L j = true := fun j hj => by
  have := List.all_eq_true.1 h j hj
  obtain ⟨k, hk, hh⟩ := Array.any_eq_true.1 this
  have he : o.after[k] ∈ o.after := Array.getElem_mem hk
  generalize o.after[k] = e at hh he
  simp only [Bool.and_eq_true, beq_iff_eq] at hh
  rw [← hh.2]
  exact hL e he hh.1
theorem downOk_spec {ops : Array Oper} (h : downOk ops = true) : ∀ (i : Nat) (o : Oper), ops[i]? = some o → ∀ e ∈ o.after, Region.binds .any e = true → e.on < i := fun i o ho e he hb => by
  have hm : (o, i) ∈ ops.toList.zipIdx := by
    rw [List.mem_iff_getElem?]
    exact ⟨i, by simp [List.getElem?_zipIdx, ho]⟩
  have := Array.all_eq_true_iff_forall_mem.1 (List.all_eq_true.1 h _ hm) e he
  simpa [hb] using this

theorem wp_pair {P : Program} {Q : Exit → Act → World → Prop} {id : Nat} {a : Act} {w w0 : World} {o0 o1 o2 o3 o4 o5 o6 o7 o8 o9 : Oper} (hm : P.follows .mixedOrders = true)
    (Fr : Value → Value → Value → Value → Value → Value → Value → Value → Act) {u2 u3 u6 u7 u8 u9 u10 u11 : Value} (ha : a = Fr u2 u3 u6 u7 u8 u9 u10 u11)
    (B : Nat) (hB : Below B w0 w) (hBs : B ≤ w.heap.size) (x6 x7 x9 x10 : Value) (T : TypeId) (n : Nat) (R1 R2 : List Value → Rows' → Prop)
    (hdown : downOk #[o0, o1, o2, o3, o4, o5, o6, o7, o8, o9] = true) (hguard : (#[o0, o1, o2, o3, o4, o5, o6, o7, o8, o9].all fun o => o.guard.isNone) = true)
    (n2 : needs o2 [0, 1] = true) (n5 : needs o5 [3, 4] = true) (n8 : needs o8 [2, 5, 6, 7] = true) (n9 : needs o9 [2, 5, 6, 7, 8] = true)
    (s0 : ∀ v2 v3 v6 v7 v8 v9 v10 v11 W (K : Act → World → Prop), Below B w0 W → K (Fr v2 v3 x6 v7 v8 v9 v10 v11) W → o0.wp P (Fr v2 v3 v6 v7 v8 v9 v10 v11) W K Q)
    (s1 : ∀ v2 v3 v6 v7 v8 v9 v10 v11 W (K : Act → World → Prop), Below B w0 W → K (Fr v2 v3 v6 x7 v8 v9 v10 v11) W → o1.wp P (Fr v2 v3 v6 v7 v8 v9 v10 v11) W K Q)
    (s3 : ∀ v2 v3 v6 v7 v8 v9 v10 v11 W (K : Act → World → Prop), Below B w0 W → K (Fr v2 v3 v6 v7 v8 x9 v10 v11) W → o3.wp P (Fr v2 v3 v6 v7 v8 v9 v10 v11) W K Q)
    (s4 : ∀ v2 v3 v6 v7 v8 v9 v10 v11 W (K : Act → World → Prop), Below B w0 W → K (Fr v2 v3 v6 v7 v8 v9 x10 v11) W → o4.wp P (Fr v2 v3 v6 v7 v8 v9 v10 v11) W K Q)
    (s2 : ∀ v2 v3 v8 v9 v10 v11 W (K : Act → World → Prop), Below B w0 W → (∀ c ps w', R1 c ps → Held w' ps → Fresh W.heap.size ps → Below W.heap.size W w' → K (Fr v2 v3 x6 x7 (.agg c.toArray) v9 v10 v11) w') → o2.wp P (Fr v2 v3 x6 x7 v8 v9 v10 v11) W K Q)
    (s5 : ∀ v2 v3 v6 v7 v8 v11 W (K : Act → World → Prop), Below B w0 W → (∀ c ps w', R2 c ps → Held w' ps → Fresh W.heap.size ps → Below W.heap.size W w' → K (Fr v2 v3 v6 v7 v8 x9 x10 (.agg c.toArray)) w') → o5.wp P (Fr v2 v3 v6 v7 v8 x9 x10 v11) W K Q)
    (Z : List Value) (hZ : Z.length = n)
    (s6 : ∀ v2 v3 v6 v7 v8 v9 v10 v11 W (K : Act → World → Prop), K (Fr (.pointer (some ⟨W.heap.size, 0, none⟩)) v3 v6 v7 v8 v9 v10 v11) (W.alloc (.cells Z.toArray T)) → o6.wp P (Fr v2 v3 v6 v7 v8 v9 v10 v11) W K Q)
    (s7 : ∀ v2 v3 v6 v7 v8 v9 v10 v11 W (K : Act → World → Prop), K (Fr v2 (.pointer (some ⟨W.heap.size, 0, none⟩)) v6 v7 v8 v9 v10 v11) (W.alloc (.cells Z.toArray T)) → o7.wp P (Fr v2 v3 v6 v7 v8 v9 v10 v11) W K Q)
    (s8 : ∀ (p : Nat) (c d : List Value) (ps : Rows') v3 v6 v7 v9 v10 v11 W (K : Act → World → Prop), R1 c ps → Whole W p T d.toArray → d.length = n → (∀ w', Whole w' p T c.toArray → W.grownBy w' (some p) → K (Fr (.pointer (some ⟨p, 0, none⟩)) v3 v6 v7 (.agg c.toArray) v9 v10 v11) w') → o8.wp P (Fr (.pointer (some ⟨p, 0, none⟩)) v3 v6 v7 (.agg c.toArray) v9 v10 v11) W K Q)
    (s9 : ∀ (q : Nat) (c d : List Value) (ps : Rows') v2 v6 v7 v8 v9 v10 W (K : Act → World → Prop), R2 c ps → Whole W q T d.toArray → d.length = n → (∀ w', Whole w' q T c.toArray → W.grownBy w' (some q) → K (Fr v2 (.pointer (some ⟨q, 0, none⟩)) v6 v7 v8 v9 v10 (.agg c.toArray)) w') → o9.wp P (Fr v2 (.pointer (some ⟨q, 0, none⟩)) v6 v7 v8 v9 v10 (.agg c.toArray)) W K Q)
    (l1 : ∀ c ps, R1 c ps → c.length = n) (l2 : ∀ c ps, R2 c ps → c.length = n)
    (hend : ∀ (p q : Nat) (c1 c2 : List Value) (ps1 ps2 : Rows') W, Below B w0 W → B ≤ p → B ≤ q → p ≠ q → R1 c1 ps1 → R2 c2 ps2 → Held W ps1 → Held W ps2 → Whole W p T c1.toArray → Whole W q T c2.toArray →
      Off p ps1 → Off q ps1 → Off p ps2 → Off q ps2 →
      Q .normal (Fr (.pointer (some ⟨p, 0, none⟩)) (.pointer (some ⟨q, 0, none⟩)) x6 x7 (.agg c1.toArray) x9 x10 (.agg c2.toArray)) W) :
    (Code.region id #[o0, o1, o2, o3, o4, o5, o6, o7, o8, o9] true).wp P Q a w := by
  have hg : ∀ o ∈ #[o0, o1, o2, o3, o4, o5, o6, o7, o8, o9], o.guard = none := fun o ho => by
    have := Array.all_eq_true_iff_forall_mem.1 hguard o ho
    simpa using this
  refine wp_region_set hm (PairJ Fr w0 B x6 x7 x9 x10 T n R1 R2) (downOk_spec hdown) ?_ ?_ ?_
  · refine ⟨u2, u3, u6, u7, u8, u9, u10, u11, 0, 0, [], [], [], [], [], [], ha, hB.drew, hBs, ?_⟩
    simp
  · intro i o ho L a' W hLi hed hJ
    have hoa : o ∈ #[o0, o1, o2, o3, o4, o5, o6, o7, o8, o9] := Array.mem_of_getElem? ho
    refine wpOp_of ho (hg o hoa) ?_
    obtain ⟨v2, v3, v6, v7, v8, v9, v10, v11, p, q, c1, c2, ps1, ps2, d1, d2, rfl, hb, hbs, h6, h7, h9, h10, hr1, hr2, hp, hq, hpq, f1p, f1q, f2p, f2q, k8, k9⟩ := hJ
    match i, ho with
    | 0, ho =>
      obtain rfl : o0 = o := by simpa using ho
      refine s0 _ _ _ _ _ _ _ _ _ _ hb ⟨v2, v3, x6, v7, v8, v9, v10, v11, p, q, c1, c2, ps1, ps2, d1, d2, rfl, hb, hbs, ?_⟩
      exact ⟨fun _ => rfl, h7, h9, h10, hr1, hr2, hp, hq, hpq, f1p, f1q, f2p, f2q, k8, k9⟩
    | 1, ho =>
      obtain rfl : o1 = o := by simpa using ho
      refine s1 _ _ _ _ _ _ _ _ _ _ hb ⟨v2, v3, v6, x7, v8, v9, v10, v11, p, q, c1, c2, ps1, ps2, d1, d2, rfl, hb, hbs, ?_⟩
      exact ⟨h6, fun _ => rfl, h9, h10, hr1, hr2, hp, hq, hpq, f1p, f1q, f2p, f2q, k8, k9⟩
    | 3, ho =>
      obtain rfl : o3 = o := by simpa using ho
      refine s3 _ _ _ _ _ _ _ _ _ _ hb ⟨v2, v3, v6, v7, v8, x9, v10, v11, p, q, c1, c2, ps1, ps2, d1, d2, rfl, hb, hbs, ?_⟩
      exact ⟨h6, h7, fun _ => rfl, h10, hr1, hr2, hp, hq, hpq, f1p, f1q, f2p, f2q, k8, k9⟩
    | 4, ho =>
      obtain rfl : o4 = o := by simpa using ho
      refine s4 _ _ _ _ _ _ _ _ _ _ hb ⟨v2, v3, v6, v7, v8, v9, x10, v11, p, q, c1, c2, ps1, ps2, d1, d2, rfl, hb, hbs, ?_⟩
      exact ⟨h6, h7, h9, fun _ => rfl, hr1, hr2, hp, hq, hpq, f1p, f1q, f2p, f2q, k8, k9⟩
    | 2, ho =>
      obtain rfl : o2 = o := by simpa using ho
      have hn := needs_spec n2 hed
      obtain rfl := h6 (hn 0 (by simp))
      obtain rfl := h7 (hn 1 (by simp))
      have l8 : L 8 = true → False := fun h => by rw [(k8 h).1] at hLi; cases hLi
      have l9 : L 9 = true → False := fun h => by rw [(k9 h).1] at hLi; cases hLi
      refine s2 _ _ _ _ _ _ _ _ hb fun c ps w' hR hH hF hbl => ⟨v2, v3, v6, v7, _, v9, v10, v11, p, q, c, c2, ps, ps2, d1, d2, rfl, hb.trans (hbl.mono hbs), Nat.le_trans hbs hbl.size, ?_⟩
      refine ⟨h6, h7, h9, h10, fun _ => ⟨rfl, hR, hH⟩, fun h => ?_, fun h => ?_, fun h => ?_, hpq, fun _ h => ?_, fun _ h => ?_, f2p, f2q, fun h => (l8 h).elim, fun h => (l9 h).elim⟩
      · obtain ⟨e1, e2, e3⟩ := hr2 h; exact ⟨e1, e2, e3.below hbl⟩
      · obtain ⟨e1, e2, e3, e4, e5⟩ := hp h
        exact ⟨e1, e2, e3.below hbl e3.lt, e4, fun h8 => (l8 h8).elim⟩
      · obtain ⟨e1, e2, e3, e4, e5⟩ := hq h
        exact ⟨e1, e2, e3.below hbl e3.lt, e4, e5⟩
      · exact hF.off (hp h).2.2.1.lt
      · exact hF.off (hq h).2.2.1.lt
    | 5, ho =>
      obtain rfl : o5 = o := by simpa using ho
      have hn := needs_spec n5 hed
      obtain rfl := h9 (hn 3 (by simp))
      obtain rfl := h10 (hn 4 (by simp))
      have l8 : L 8 = true → False := fun h => by rw [(k8 h).2.1] at hLi; cases hLi
      have l9 : L 9 = true → False := fun h => by rw [(k9 h).2.1] at hLi; cases hLi
      refine s5 _ _ _ _ _ _ _ _ hb fun c ps w' hR hH hF hbl => ⟨v2, v3, v6, v7, v8, v9, v10, _, p, q, c1, c, ps1, ps, d1, d2, rfl, hb.trans (hbl.mono hbs), Nat.le_trans hbs hbl.size, ?_⟩
      refine ⟨h6, h7, h9, h10, fun h => ?_, fun _ => ⟨rfl, hR, hH⟩, fun h => ?_, fun h => ?_, hpq, f1p, f1q, fun _ h => ?_, fun _ h => ?_, fun h => (l8 h).elim, fun h => (l9 h).elim⟩
      · obtain ⟨e1, e2, e3⟩ := hr1 h; exact ⟨e1, e2, e3.below hbl⟩
      · obtain ⟨e1, e2, e3, e4, e5⟩ := hp h
        exact ⟨e1, e2, e3.below hbl e3.lt, e4, e5⟩
      · obtain ⟨e1, e2, e3, e4, e5⟩ := hq h
        exact ⟨e1, e2, e3.below hbl e3.lt, e4, fun h9 => (l9 h9).elim⟩
      · exact hF.off (hp h).2.2.1.lt
      · exact hF.off (hq h).2.2.1.lt
    | 6, ho =>
      obtain rfl : o6 = o := by simpa using ho
      have l8 : L 8 = true → False := fun h => by rw [(k8 h).2.2.1] at hLi; cases hLi
      have l9 : L 9 = true → False := fun h => by rw [(k9 h).2.2.1] at hLi; cases hLi
      refine s6 _ _ _ _ _ _ _ _ _ _ ⟨_, v3, v6, v7, v8, v9, v10, v11, W.heap.size, q, c1, c2, ps1, ps2, Z, d2, rfl, hb.alloc hbs _, by simp; omega, ?_⟩
      refine ⟨h6, h7, h9, h10, fun h => ?_, fun h => ?_, fun h => ?_, fun h => ?_, fun _ h => ?_, fun h _ => ?_, f1q, fun h _ => ?_, f2q, fun h => (l8 h).elim, fun h => (l9 h).elim⟩
      · obtain ⟨e1, e2, e3⟩ := hr1 h; exact ⟨e1, e2, e3.block _⟩
      · obtain ⟨e1, e2, e3⟩ := hr2 h; exact ⟨e1, e2, e3.block _⟩
      · exact ⟨rfl, hbs, Whole.made _ _ _, hZ, fun h8 => (l8 h8).elim⟩
      · obtain ⟨e1, e2, e3, e4, e5⟩ := hq h
        exact ⟨e1, e2, e3.block _, e4, e5⟩
      · have := (hq h).2.2.1.lt; omega
      · exact (hr1 h).2.2.off_new
      · exact (hr2 h).2.2.off_new
    | 7, ho =>
      obtain rfl : o7 = o := by simpa using ho
      have l8 : L 8 = true → False := fun h => by rw [(k8 h).2.2.2] at hLi; cases hLi
      have l9 : L 9 = true → False := fun h => by rw [(k9 h).2.2.2] at hLi; cases hLi
      refine s7 _ _ _ _ _ _ _ _ _ _ ⟨v2, _, v6, v7, v8, v9, v10, v11, p, W.heap.size, c1, c2, ps1, ps2, d1, Z, rfl, hb.alloc hbs _, by simp; omega, ?_⟩
      refine ⟨h6, h7, h9, h10, fun h => ?_, fun h => ?_, fun h => ?_, fun h => ?_, fun h _ => ?_, f1p, fun h _ => ?_, f2p, fun h _ => ?_, fun h => (l8 h).elim, fun h => (l9 h).elim⟩
      · obtain ⟨e1, e2, e3⟩ := hr1 h; exact ⟨e1, e2, e3.block _⟩
      · obtain ⟨e1, e2, e3⟩ := hr2 h; exact ⟨e1, e2, e3.block _⟩
      · obtain ⟨e1, e2, e3, e4, e5⟩ := hp h
        exact ⟨e1, e2, e3.block _, e4, e5⟩
      · exact ⟨rfl, hbs, Whole.made _ _ _, hZ, fun h9 => (l9 h9).elim⟩
      · have := (hp h).2.2.1.lt; omega
      · exact (hr1 h).2.2.off_new
      · exact (hr2 h).2.2.off_new
    | 8, ho =>
      obtain rfl : o8 = o := by simpa using ho
      have hn := needs_spec n8 hed
      have t2 := hn 2 (by simp)
      have t5 := hn 5 (by simp)
      have t6 := hn 6 (by simp)
      have t7 := hn 7 (by simp)
      obtain ⟨rfl, hR1, hH1⟩ := hr1 t2
      obtain ⟨e1, hR2, hH2⟩ := hr2 t5
      obtain ⟨rfl, hBp, hWp, hlp, hdp⟩ := hp t6
      obtain ⟨e2, hBq, hWq, hlq, hdq⟩ := hq t7
      refine s8 p c1 d1 ps1 _ _ _ _ _ _ _ _ hR1 hWp hlp fun w' hw' hgr => ⟨_, v3, v6, v7, _, v9, v10, v11, p, q, c1, c2, ps1, ps2, c1, d2, rfl, below_grown hb hgr hbs hBp, Nat.le_trans hbs hgr.size, ?_⟩
      exact ⟨h6, h7, h9, h10, fun _ => ⟨rfl, hR1, hH1.after hgr (f1p t2 t6)⟩, fun _ => ⟨e1, hR2, hH2.after hgr (f2p t5 t6)⟩, fun _ => ⟨rfl, hBp, hw', l1 _ _ hR1, fun _ => rfl⟩,
        fun _ => ⟨e2, hBq, hWq.other hgr (fun e => hpq t6 t7 (by injection e with e; exact e.symm)), hlq, hdq⟩, hpq, f1p, f1q, f2p, f2q, fun _ => ⟨t2, t5, t6, t7⟩, k9⟩
    | 9, ho =>
      obtain rfl : o9 = o := by simpa using ho
      have hn := needs_spec n9 hed
      have t2 := hn 2 (by simp)
      have t5 := hn 5 (by simp)
      have t6 := hn 6 (by simp)
      have t7 := hn 7 (by simp)
      obtain ⟨e1, hR1, hH1⟩ := hr1 t2
      obtain ⟨rfl, hR2, hH2⟩ := hr2 t5
      obtain ⟨e2, hBp, hWp, hlp, hdp⟩ := hp t6
      obtain ⟨rfl, hBq, hWq, hlq, hdq⟩ := hq t7
      refine s9 q c2 d2 ps2 _ _ _ _ _ _ _ _ hR2 hWq hlq fun w' hw' hgr => ⟨v2, _, v6, v7, v8, v9, v10, _, p, q, c1, c2, ps1, ps2, d1, c2, rfl, below_grown hb hgr hbs hBq, Nat.le_trans hbs hgr.size, ?_⟩
      exact ⟨h6, h7, h9, h10, fun _ => ⟨e1, hR1, hH1.after hgr (f1q t2 t7)⟩, fun _ => ⟨rfl, hR2, hH2.after hgr (f2q t5 t7)⟩,
        fun _ => ⟨e2, hBp, hWp.other hgr (fun e => hpq t6 t7 (by injection e with e)), hlp, hdp⟩, fun _ => ⟨rfl, hBq, hw', l2 _ _ hR2, fun _ => rfl⟩, hpq, f1p, f1q, f2p, f2q, k8, fun _ => ⟨t2, t5, t6, t7⟩⟩
    | i + 10, ho => simp at ho
  · rintro L a' W hL ⟨v2, v3, v6, v7, v8, v9, v10, v11, p, q, c1, c2, ps1, ps2, d1, d2, rfl, hb, hbs, h6, h7, h9, h10, hr1, hr2, hp, hq, hpq, f1p, f1q, f2p, f2q, _, _⟩
    have e : ∀ i, i < 10 → L i = true := fun i hi => hL i (by simpa using hi)
    obtain rfl := h6 (e 0 (by omega))
    obtain rfl := h7 (e 1 (by omega))
    obtain rfl := h9 (e 3 (by omega))
    obtain rfl := h10 (e 4 (by omega))
    obtain ⟨rfl, hR1, hH1⟩ := hr1 (e 2 (by omega))
    obtain ⟨rfl, hR2, hH2⟩ := hr2 (e 5 (by omega))
    obtain ⟨rfl, hBp, hWp, _, hdp⟩ := hp (e 6 (by omega))
    obtain ⟨rfl, hBq, hWq, _, hdq⟩ := hq (e 7 (by omega))
    obtain rfl := hdp (e 8 (by omega))
    obtain rfl := hdq (e 9 (by omega))
    exact hend p q _ _ ps1 ps2 W hb hBp hBq (hpq (e 6 (by omega)) (e 7 (by omega))) hR1 hR2 hH1 hH2 hWp hWq (f1p (e 2 (by omega)) (e 6 (by omega))) (f1q (e 2 (by omega)) (e 7 (by omega))) (f2p (e 5 (by omega)) (e 6 (by omega))) (f2q (e 5 (by omega)) (e 7 (by omega)))
end Go.Proofs.YtecamaceainfpaaDoor
