/-
  Plain: the last write of each number, by two roads. No program in sight.
-/
import Derived.Test.YtecamaceainfpaaDoorPut
namespace Go.Proofs.YtecamaceainfpaaDoor
open Go.RowKit

/-- by strictly rising numbers -/
def Str (l : List Wr) : Prop := l.Pairwise fun a b => a.1 < b.1
theorem Str.ext : ∀ {l l' : List Wr}, Str l → Str l' → (∀ p, p ∈ l ↔ p ∈ l') → l = l'
  | [], [], _, _, _ => rfl
  | [], q :: l', _, _, h => by have := (h q).2 (by simp); simp at this
  | p :: l, [], _, _, h => by have := (h p).1 (by simp); simp at this
  | p :: l, q :: l', h1, h2, h => by
    have hp : ∀ x ∈ l, p.1 < x.1 := (List.pairwise_cons.1 h1).1
    have hq : ∀ x ∈ l', q.1 < x.1 := (List.pairwise_cons.1 h2).1
    have e : p = q := by
      rcases List.mem_cons.1 ((h p).1 (by simp)) with e | e
      · exact e
      · rcases List.mem_cons.1 ((h q).2 (by simp)) with e' | e'
        · exact e'.symm
        · have := hq p e; have := hp q e'; omega
    subst e
    congr 1
    refine Str.ext (List.pairwise_cons.1 h1).2 (List.pairwise_cons.1 h2).2 fun r => ⟨fun hr => ?_, fun hr => ?_⟩
    · rcases List.mem_cons.1 ((h r).1 (List.mem_cons_of_mem _ hr)) with e | e
      · subst e; have := hp r hr; omega
      · exact e
    · rcases List.mem_cons.1 ((h r).2 (List.mem_cons_of_mem _ hr)) with e | e
      · subst e; have := hq r hr; omega
      · exact e
/-- one write put in, in place of that of its number -/
def putF (l : List Wr) (w : Wr) : List Wr := l.filter (fun x => decide (x.1 < w.1)) ++ w :: l.filter (fun x => decide (w.1 < x.1))
theorem putF_str {l : List Wr} (h : Str l) (w : Wr) : Str (putF l w) := by
  refine List.pairwise_append.2 ⟨List.Pairwise.filter _ h, List.pairwise_cons.2 ⟨fun x hx => by have := (List.mem_filter.1 hx).2; simpa using this, List.Pairwise.filter _ h⟩, fun x hx y hy => ?_⟩
  have h1 : x.1 < w.1 := by have := (List.mem_filter.1 hx).2; simpa using this
  rcases List.mem_cons.1 hy with rfl | hy
  · exact h1
  · have h2 : w.1 < y.1 := by have := (List.mem_filter.1 hy).2; simpa using this
    omega
theorem putF_mem {l : List Wr} {w p : Wr} : p ∈ putF l w ↔ p = w ∨ (p ∈ l ∧ p.1 ≠ w.1) := by
  unfold putF
  rw [List.mem_append, List.mem_cons, List.mem_filter, List.mem_filter]
  simp only [decide_eq_true_eq]
  constructor
  · rintro (⟨h1, h2⟩ | h | ⟨h1, h2⟩)
    · exact .inr ⟨h1, by omega⟩
    · exact .inl h
    · exact .inr ⟨h1, by omega⟩
  · rintro (h | ⟨h1, h2⟩)
    · exact .inr (.inl h)
    · rcases Int.lt_or_gt_of_ne h2 with h | h
      · exact .inl ⟨h1, h⟩
      · exact .inr (.inr ⟨h1, h⟩)
theorem filter_lt_all {l : List Wr} {w : Wr} (h : ∀ x ∈ l, x.1 < w.1) : l.filter (fun x => decide (x.1 < w.1)) = l ∧ l.filter (fun x => decide (w.1 < x.1)) = [] :=
  ⟨List.filter_eq_self.2 fun x hx => by simpa using h x hx, List.filter_eq_nil_iff.2 fun x hx => by have := h x hx; simp; omega⟩
theorem putP_inv {l : List Wr} (hs : Str l) (w : Wr) : ∀ k, k ≤ l.length → ((∀ x ∈ l.take k, x.1 < w.1) ∧ putP l w k = (l.take k, false)) ∨ ((∃ x ∈ l.take k, w.1 ≤ x.1) ∧ putP l w k = (putF (l.take k) w, true))
  | 0, _ => .inl ⟨fun x hx => by simp at hx, rfl⟩
  | k + 1, hk => by
    have hk' : k < l.length := by omega
    have hgd : l.getD k (0, []) = l[k] := by simp [List.getD, hk']
    have hK : K l k = (l[k]).1 := by unfold K; rw [hgd]
    have hlt : ∀ x ∈ l.take k, x.1 < (l[k]).1 := fun x hx => by
      obtain ⟨i, hi, e⟩ := List.mem_iff_getElem.1 hx
      rw [List.length_take] at hi
      rw [List.getElem_take] at e
      subst e
      exact List.pairwise_iff_getElem.1 hs i k (by omega) hk' (by omega)
    rw [List.take_succ_eq_append_getElem hk']
    have happ : ∀ P : Wr → Bool, (l.take k ++ [l[k]]).filter P = (l.take k).filter P ++ if P l[k] then [l[k]] else [] := fun P => by
      rw [List.filter_append]; congr 1; simp [List.filter_cons]
    rcases putP_inv hs w k (by omega) with ⟨h1, h2⟩ | ⟨⟨x, hx, hx'⟩, h2⟩
    · obtain ⟨f1, f2⟩ := filter_lt_all h1
      rw [putP, h2, hK, hgd]
      by_cases he : (l[k]).1 = w.1
      · right
        refine ⟨⟨l[k], List.mem_append_right _ (List.mem_singleton.2 rfl), by omega⟩, ?_⟩
        rw [if_pos he]
        unfold putF
        rw [happ, happ, f1, f2, if_neg (by simp; omega), if_neg (by simp; omega)]
        simp
      · rw [if_neg he]
        by_cases hl : w.1 < (l[k]).1
        · right
          refine ⟨⟨l[k], List.mem_append_right _ (List.mem_singleton.2 rfl), by omega⟩, ?_⟩
          rw [if_pos ⟨rfl, hl⟩]
          unfold putF
          rw [happ, happ, f1, f2, if_neg (by simp; omega), if_pos (by simpa using hl)]
          simp
        · left
          refine ⟨fun y hy => ?_, by rw [if_neg (fun h => hl h.2)]⟩
          rcases List.mem_append.1 hy with hy | hy
          · exact h1 y hy
          · simp only [List.mem_singleton] at hy; subst hy; omega
    · right
      have hgt : w.1 < (l[k]).1 := by have := hlt x hx; omega
      refine ⟨⟨x, List.mem_append_left _ hx, hx'⟩, ?_⟩
      rw [putP, h2, hK, hgd, if_neg (by omega), if_neg (fun h => by cases h.1)]
      unfold putF
      rw [happ, happ, if_neg (by simp; omega), if_pos (by simpa using hgt)]
      simp
theorem putL_eq {l : List Wr} (hs : Str l) (w : Wr) : putL l w = putF l w := by
  have h := putP_inv hs w l.length (Nat.le_refl _)
  rw [List.take_of_length_le (Nat.le_refl _)] at h
  unfold putL
  rcases h with ⟨h1, h2⟩ | ⟨_, h2⟩
  · rw [h2, if_neg (by simp)]
    obtain ⟨f1, f2⟩ := filter_lt_all h1
    unfold putF
    rw [f1, f2]
  · rw [h2, if_pos rfl]
theorem lastStep_eq {acc : List Wr} (hs : Str acc) (w : Wr) (hle : ∀ x ∈ acc, x.1 ≤ w.1) : lastStep acc w = putF acc w := by
  have hgt : acc.filter (fun x => decide (w.1 < x.1)) = [] := List.filter_eq_nil_iff.2 fun x hx => by have := hle x hx; simp; omega
  unfold lastStep putF
  rw [hgt]
  rcases List.eq_nil_or_concat acc with rfl | ⟨u, q, rfl⟩
  · rfl
  · rw [List.concat_eq_append] at *
    have hq : K (u ++ [q]) ((u ++ [q]).length - 1) = q.1 := by
      unfold K; rw [getD_app_right (by simp)]; simp
    have hu : ∀ x ∈ u, x.1 < q.1 := fun x hx => (List.pairwise_append.1 hs).2.2 x hx q (by simp)
    have hqw := hle q (by simp)
    rw [hq]
    by_cases he : q.1 = w.1
    · rw [if_pos ⟨by simp, he⟩, List.filter_append]
      have f1 := (filter_lt_all (l := u) (w := w) fun x hx => by have := hu x hx; omega).1
      rw [f1, show List.filter (fun x => decide (x.1 < w.1)) [q] = [] by simp [List.filter_cons]; omega]
      simp
    · rw [if_neg fun h => he h.2]
      have f1 := (filter_lt_all (l := u ++ [q]) (w := w) fun x hx => by
        rcases List.mem_append.1 hx with hx | hx
        · have := hu x hx; omega
        · simp only [List.mem_singleton] at hx; subst hx; omega).1
      rw [f1]
/-- the last write of its number -/
def LastOf (l : List Wr) (p : Wr) : Prop := (l.filter (fun x => x.1 == p.1)).getLast? = some p
theorem lastOf_snoc {l : List Wr} {w p : Wr} : LastOf (l ++ [w]) p ↔ p = w ∨ (LastOf l p ∧ p.1 ≠ w.1) := by
  unfold LastOf
  rw [List.filter_append]
  by_cases h : w.1 = p.1
  · rw [show List.filter (fun x => x.1 == p.1) [w] = [w] by simp [h], List.getLast?_append]
    simp only [List.getLast?_singleton, Option.some_or, Option.some.injEq]
    constructor
    · intro e; exact .inl e.symm
    · rintro (e | ⟨_, e⟩)
      · exact e.symm
      · exact absurd h.symm e
  · rw [show List.filter (fun x => x.1 == p.1) [w] = [] by simp [h], List.append_nil]
    constructor
    · intro e; exact .inr ⟨e, fun e' => h e'.symm⟩
    · rintro (e | ⟨e, _⟩)
      · subst e; exact absurd rfl h
      · exact e
theorem snoc_induction {P : List Wr → Prop} (h0 : P []) (h1 : ∀ l w, P l → P (l ++ [w])) (l : List Wr) : P l := by
  have h : ∀ n (l : List Wr), l.length = n → P l := by
    intro n
    induction n with
    | zero => intro l hl; rw [List.eq_nil_of_length_eq_zero hl]; exact h0
    | succ n ih =>
      intro l hl
      rcases List.eq_nil_or_concat l with rfl | ⟨u, q, rfl⟩
      · simp at hl
      · rw [List.concat_eq_append] at *
        exact h1 u q (ih u (by simp at hl; omega))
  exact h _ l rfl
theorem putF_fold (l : List Wr) : Str (l.foldl putF []) ∧ ∀ p, p ∈ l.foldl putF [] ↔ LastOf l p := by
  refine snoc_induction (P := fun l => Str (l.foldl putF []) ∧ ∀ p, p ∈ l.foldl putF [] ↔ LastOf l p) ?_ ?_ l
  · exact ⟨List.Pairwise.nil, fun p => by simp [LastOf]⟩
  · intro l w ih
    rw [List.foldl_append]
    refine ⟨putF_str ih.1 w, fun p => ?_⟩
    show p ∈ putF _ w ↔ _
    rw [putF_mem, lastOf_snoc, ih.2 p]
theorem putL_fold (l : List Wr) : bothFrom [] l = l.foldl putF [] := by
  refine snoc_induction (P := fun l => bothFrom [] l = l.foldl putF []) ?_ ?_ l
  · rfl
  · intro l w ih
    unfold bothFrom at ih ⊢
    rw [List.foldl_append, List.foldl_append, ih]
    exact putL_eq (putF_fold l).1 w
theorem last_fold (l : List Wr) : Srt l → lastL l = l.foldl putF [] := by
  refine snoc_induction (P := fun l => Srt l → lastL l = l.foldl putF []) ?_ ?_ l
  · intro _; rfl
  · intro l w ih hs
    have h := ih hs.parts.1
    unfold lastL at h ⊢
    rw [List.foldl_append, List.foldl_append, h]
    refine lastStep_eq (putF_fold l).1 w fun x hx => ?_
    have hx' := (putF_fold l).2 x |>.1 hx
    have hm : x ∈ l := (List.mem_filter.1 (List.mem_of_getLast? hx')).1
    exact hs.parts.2.2 x hm w (by simp)
/-- the two roads come to the same writes -/
theorem last_both {a b ls : List Wr} (h : StEq (a ++ b) ls) (hs : Srt ls) : lastL ls = bothL a b := by
  have e : bothL a b = (a ++ b).foldl putF [] := by
    rw [← putL_fold]
    unfold bothL bothFrom
    rw [List.foldl_append]
  rw [e, last_fold ls hs]
  refine Str.ext (putF_fold ls).1 (putF_fold (a ++ b)).1 fun p => ?_
  rw [(putF_fold ls).2, (putF_fold (a ++ b)).2]
  unfold LastOf
  rw [h p.1]
theorem both_facts (a b : List Wr) : Str (bothL a b) ∧ ∀ p, p ∈ bothL a b ↔ LastOf (a ++ b) p := by
  have e : bothL a b = (a ++ b).foldl putF [] := by
    rw [← putL_fold]
    unfold bothL bothFrom
    rw [List.foldl_append]
  rw [e]
  exact putF_fold (a ++ b)
end Go.Proofs.YtecamaceainfpaaDoor
