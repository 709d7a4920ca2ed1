/-
  Plain: what became of an image, and then of that, joined, and done on the first one, is the third one. No program in sight.
-/
import Derived.Test.YtecamaceainfpaaDoorBackP
import Derived.Test.YtecamaceainfpaaDoorJoin
namespace Go.Proofs.YtecamaceainfpaaDoor
open Go.RowKit

theorem last_app (a : List Wr) {b : List Wr} (h : b ≠ []) : (a ++ b).getLast? = b.getLast? := by
  rw [List.getLast?_append, List.getLast?_eq_some_getLast h]; rfl
theorem others_iff (a b : List (List UInt8)) (k : Nat) (p : Wr) : p ∈ othersTo a b k ↔ ∃ i, i < k ∧ ¬ (i < a.length ∧ a.getD i [] = b.getD i []) ∧ p = ((i : Int), b.getD i []) := by
  unfold othersTo
  rw [List.mem_filterMap]
  constructor
  · rintro ⟨i, hi, he⟩
    by_cases hs : i < a.length ∧ a.getD i [] = b.getD i []
    · rw [if_pos hs] at he; cases he
    · rw [if_neg hs] at he
      exact ⟨i, List.mem_range.1 hi, hs, (Option.some.inj he).symm⟩
  · rintro ⟨i, hi, hs, rfl⟩
    exact ⟨i, List.mem_range.2 hi, if_neg hs⟩
/-- one write at the place that has come -/
theorem step_at {a b : List (List UInt8)} {k : Nat} (hk : k < b.length) : step1 (b.take k ++ a.drop k) ((k : Int), b.getD k []) = some (b.take (k + 1) ++ a.drop (k + 1)) := by
  have hb : b.take (k + 1) = b.take k ++ [b.getD k []] := by rw [List.take_succ_eq_append_getElem hk]; simp [List.getD, hk]
  have hl : (b.take k).length = k := by rw [List.length_take]; omega
  by_cases ha : k < a.length
  · rw [step1_in (j := k) rfl (by rw [List.length_append, hl, List.length_drop]; omega), hb, List.set_append, if_neg (by omega), hl, Nat.sub_self, List.drop_eq_getElem_cons ha, List.set_cons_zero, List.append_assoc]
    rfl
  · rw [List.drop_eq_nil_of_le (by omega), List.append_nil, step1_end (by rw [hl]), hb, List.drop_eq_nil_of_le (by omega), List.append_nil]
theorem step_same {a b : List (List UInt8)} {k : Nat} (hk : k < b.length) (ha : k < a.length) (he : a.getD k [] = b.getD k []) : b.take k ++ a.drop k = b.take (k + 1) ++ a.drop (k + 1) := by
  have hb : b.take (k + 1) = b.take k ++ [b.getD k []] := by rw [List.take_succ_eq_append_getElem hk]; simp [List.getD, hk]
  rw [hb, List.append_assoc, List.drop_eq_getElem_cons ha]
  have : a[k] = b.getD k [] := by rw [← he]; simp [List.getD, ha]
  rw [this]; rfl
/-- writes by rising numbers, all of the third list's texts, and at least those that are others in the first -/
theorem done_str {x z : List (List UInt8)} (hxz : x.length ≤ z.length) : ∀ (n k : Nat) (l : List Wr), k + n = z.length → Str l → (∀ p ∈ l, ∃ i, k ≤ i ∧ i < z.length ∧ p = ((i : Int), z.getD i [])) →
    (∀ i, k ≤ i → i < z.length → ¬ (i < x.length ∧ x.getD i [] = z.getD i []) → ((i : Int), z.getD i []) ∈ l) → doneL (z.take k ++ x.drop k) l = some z
  | 0, k, l, hn, _, h1, _ => by
    have : l = [] := by
      cases l with
      | nil => rfl
      | cons p l => obtain ⟨i, h, h', _⟩ := h1 p (by simp); omega
    subst this
    rw [doneL_nil, List.take_of_length_le (by omega), List.drop_eq_nil_of_le (by omega), List.append_nil]
  | n + 1, k, l, hn, hs, h1, h2 => by
    have hk : k < z.length := by omega
    by_cases hm : ((k : Int), z.getD k []) ∈ l
    · cases l with
      | nil => simp at hm
      | cons p l =>
        have hp : ∀ y ∈ l, p.1 < y.1 := (List.pairwise_cons.1 hs).1
        have e : p = ((k : Int), z.getD k []) := by
          rcases List.mem_cons.1 hm with e | e
          · exact e.symm
          · have := hp _ e
            obtain ⟨i, hi, _, rfl⟩ := h1 p (by simp)
            simp only at this
            omega
        subst e
        have hd : doneL (z.take k ++ x.drop k) (((k : Int), z.getD k []) :: l) = doneL (z.take (k + 1) ++ x.drop (k + 1)) l := by
          unfold doneL
          rw [List.foldlM_cons, step_at hk]
          rfl
        rw [hd]
        refine done_str hxz n (k + 1) l (by omega) (List.pairwise_cons.1 hs).2 (fun q hq => ?_) fun i hi hi' hne => ?_
        · obtain ⟨i, hi, hi', rfl⟩ := h1 q (List.mem_cons_of_mem _ hq)
          have := hp _ hq
          simp only at this
          exact ⟨i, by omega, hi', rfl⟩
        · rcases List.mem_cons.1 (h2 i (by omega) hi' hne) with e | e
          · have := congrArg Prod.fst e
            simp only at this
            omega
          · exact e
    · have hsm : k < x.length ∧ x.getD k [] = z.getD k [] := Classical.byContradiction fun h => hm (h2 k (Nat.le_refl _) hk h)
      rw [step_same hk hsm.1 hsm.2]
      refine done_str hxz n (k + 1) l (by omega) hs (fun q hq => ?_) fun i hi hi' hne => h2 i (by omega) hi' hne
      obtain ⟨i, hi, hi', rfl⟩ := h1 q hq
      refine ⟨i, ?_, hi', rfl⟩
      rcases Nat.eq_or_lt_of_le hi with e | e
      · subst e; exact absurd hq hm
      · omega
theorem both_done {x y z : List (List UInt8)} (hxy : x.length ≤ y.length) (hyz : y.length ≤ z.length) : doneL x (bothL (othersTo x y y.length) (othersTo y z z.length)) = some z := by
  obtain ⟨hs, hm⟩ := both_facts (othersTo x y y.length) (othersTo y z z.length)
  have key := done_str (x := x) (z := z) (by omega) z.length 0 (bothL (othersTo x y y.length) (othersTo y z z.length)) (by omega) hs
  rw [List.take_zero, List.drop_zero, List.nil_append] at key
  refine key (fun p hp => ?_) fun i _ hi hne => ?_
  · have hl := (hm p).1 hp
    unfold LastOf at hl
    rw [List.filter_append] at hl
    by_cases hY : (othersTo y z z.length).filter (fun q => q.1 == p.1) = []
    · rw [hY, List.append_nil] at hl
      have hX := (List.mem_filter.1 (List.mem_of_getLast? hl)).1
      obtain ⟨i, hi, hne, rfl⟩ := (others_iff _ _ _ _).1 hX
      have hsame : i < y.length ∧ y.getD i [] = z.getD i [] := Classical.byContradiction fun h => by
        have h1 : ((i : Int), z.getD i []) ∈ othersTo y z z.length := (others_iff _ _ _ _).2 ⟨i, by omega, h, rfl⟩
        have h2 : ((i : Int), z.getD i []) ∈ (othersTo y z z.length).filter (fun q => q.1 == ((i : Int), y.getD i []).1) := List.mem_filter.2 ⟨h1, by simp⟩
        rw [hY] at h2
        simp at h2
      exact ⟨i, Nat.zero_le _, by omega, by rw [hsame.2]⟩
    · rw [last_app _ hY] at hl
      have hX := (List.mem_filter.1 (List.mem_of_getLast? hl)).1
      obtain ⟨i, hi, hne, rfl⟩ := (others_iff _ _ _ _).1 hX
      exact ⟨i, Nat.zero_le _, hi, rfl⟩
  · rw [hm]
    unfold LastOf
    rw [List.filter_append]
    by_cases hsame : i < y.length ∧ y.getD i [] = z.getD i []
    · have hY : (othersTo y z z.length).filter (fun q => q.1 == ((i : Int), z.getD i []).1) = [] := by
        refine List.filter_eq_nil_iff.2 fun q hq => ?_
        obtain ⟨j, hj, hne', rfl⟩ := (others_iff _ _ _ _).1 hq
        simp only [beq_iff_eq]
        intro e
        obtain rfl : j = i := by omega
        exact hne' hsame
      rw [hY, List.append_nil]
      have h1 : ((i : Int), y.getD i []) ∈ othersTo x y y.length := (others_iff _ _ _ _).2 ⟨i, hsame.1, fun h => hne ⟨h.1, h.2.trans hsame.2⟩, rfl⟩
      have h2 : ((i : Int), y.getD i []) ∈ (othersTo x y y.length).filter (fun q => q.1 == ((i : Int), z.getD i []).1) := List.mem_filter.2 ⟨h1, by simp⟩
      cases hg : ((othersTo x y y.length).filter (fun q => q.1 == ((i : Int), z.getD i []).1)).getLast? with
      | none => rw [List.getLast?_eq_none_iff.1 hg] at h2; simp at h2
      | some q =>
        have hq := List.mem_filter.1 (List.mem_of_getLast? hg)
        obtain ⟨j, hj, _, rfl⟩ := (others_iff _ _ _ _).1 hq.1
        have e := hq.2
        simp only [beq_iff_eq] at e
        obtain rfl : j = i := by omega
        rw [hsame.2]
    · have h1 : ((i : Int), z.getD i []) ∈ othersTo y z z.length := (others_iff _ _ _ _).2 ⟨i, hi, hsame, rfl⟩
      have h2 : ((i : Int), z.getD i []) ∈ (othersTo y z z.length).filter (fun q => q.1 == ((i : Int), z.getD i []).1) := List.mem_filter.2 ⟨h1, by simp⟩
      rw [last_app _ (List.ne_nil_of_mem h2)]
      cases hg : ((othersTo y z z.length).filter (fun q => q.1 == ((i : Int), z.getD i []).1)).getLast? with
      | none => rw [List.getLast?_eq_none_iff.1 hg] at h2; simp at h2
      | some q =>
        have hq := List.mem_filter.1 (List.mem_of_getLast? hg)
        obtain ⟨j, hj, _, rfl⟩ := (others_iff _ _ _ _).1 hq.1
        have e := hq.2
        simp only [beq_iff_eq] at e
        obtain rfl : j = i := by omega
        rfl
/-- how many bytes, about, two lists of writes, joined, have -/
theorem wSize_two (P Q : Wr → Bool) (h : ∀ x, P x = true → Q x = false) : ∀ l : List Wr, wSize (l.filter P) + wSize (l.filter Q) ≤ wSize l
  | [] => by simp [wSize]
  | x :: l => by
    have ih := wSize_two P Q h l
    have hx := h x
    rw [List.filter_cons, List.filter_cons]
    cases hP : P x <;> cases hQ : Q x <;> simp_all [wSize] <;> omega
theorem wSize_putF (l : List Wr) (w : Wr) : wSize (putF l w) ≤ wSize l + wSize [w] := by
  have := wSize_two (fun x => decide (x.1 < w.1)) (fun x => decide (w.1 < x.1)) (fun x h => by simp only [decide_eq_true_eq, decide_eq_false_iff_not] at *; omega) l
  unfold putF
  rw [wSize_append, show w :: l.filter (fun x => decide (w.1 < x.1)) = [w] ++ l.filter (fun x => decide (w.1 < x.1)) from rfl, wSize_append]
  omega
theorem wSize_both (a b : List Wr) : wSize (bothL a b) ≤ wSize a + wSize b := by
  have e : bothL a b = (a ++ b).foldl putF [] := by
    rw [← putL_fold]
    unfold bothL bothFrom
    rw [List.foldl_append]
  rw [e, ← wSize_append]
  refine snoc_induction (P := fun l => wSize (l.foldl putF []) ≤ wSize l) ?_ ?_ (a ++ b)
  · simp [wSize]
  · intro l w ih
    rw [List.foldl_append, wSize_append]
    have := wSize_putF (l.foldl putF []) w
    show wSize (putF _ w) ≤ _
    omega
section
variable (fa ba fb bb fc bc : List (List UInt8)) (ra rb rc : List UInt8)
theorem joins_join (ap : apartL [imgB [] [] [], imgB fa ba ra, imgB fb bb rb, imgB fc bc rc]) :
    ∃ jF jf jb, joinD (fromD fa ba fb bb ra) (dig (imgB fb bb rb)) (othersTo (onto (less fa ba fb bb) fa) fb fb.length) (othersTo (onto (less fa ba fb bb) ba) bb bb.length) (fromD fb bb fc bc rb) (dig (imgB fc bc rc)) rc (othersTo (onto (less fb bb fc bc) fb) fc fc.length) (othersTo (onto (less fb bb fc bc) bb) bc bc.length) = (0, jF, dig (imgB fc bc rc), rc, jf, jb) ∧
      jF.length = 32 ∧ wSize jf ≤ wSize (othersTo (onto (less fa ba fb bb) fa) fb fb.length) + wSize (othersTo (onto (less fb bb fc bc) fb) fc fc.length) ∧ wSize jb ≤ wSize (othersTo (onto (less fa ba fb bb) ba) bb bb.length) + wSize (othersTo (onto (less fb bb fc bc) bb) bc bc.length) ∧
      applyL fa ba ra jF jf jb rc (dig (imgB fc bc rc)) = (0, fc, bc, rc) := by
  have a10 := apart_two ap (i := 1) (k := 0) (by simp) (by omega)
  have a20 := apart_two ap (i := 2) (k := 0) (by simp) (by omega)
  simp only [List.getD_cons_zero, List.getD_cons_succ] at a10 a20
  -- what is begun from nothing
  have new : ∀ jf jb, doneL [] jf = some fc → doneL [] jb = some bc → applyL fa ba ra (dig (imgB [] [] [])) jf jb rc (dig (imgB fc bc rc)) = (0, fc, bc, rc) := fun jf jb h1 h2 => by
    have hC : (if dig (imgB fa ba ra) = dig (imgB [] [] []) then fa else []) = [] ∧ (if dig (imgB fa ba ra) = dig (imgB [] [] []) then ba else []) = [] := by
      by_cases hc : dig (imgB fa ba ra) = dig (imgB [] [] [])
      · rw [if_pos hc, if_pos hc]
        obtain ⟨h1, h2, _⟩ := imgB_inj (a10 hc)
        exact ⟨h1, h2⟩
      · rw [if_neg hc, if_neg hc]; exact ⟨rfl, rfl⟩
    unfold applyL
    rw [if_neg (fun hh => hh.2 rfl), hC.1, hC.2, h1, h2]
    simp
  by_cases hE : fromD fb bb fc bc rb = E0
  · have hB : onto (less fb bb fc bc) fb = [] ∧ onto (less fb bb fc bc) bb = [] := by
      unfold fromD E0 at hE
      cases hl : less fb bb fc bc with
      | true => exact ⟨rfl, rfl⟩
      | false =>
        rw [hl] at hE
        obtain ⟨h1, h2, _⟩ := imgB_inj (a20 hE)
        exact ⟨h1, h2⟩
    refine ⟨fromD fb bb fc bc rb, othersTo (onto (less fb bb fc bc) fb) fc fc.length, othersTo (onto (less fb bb fc bc) bb) bc bc.length, by unfold joinD; rw [if_pos hE], dig_length _, by omega, by omega, ?_⟩
    rw [hE, hB.1, hB.2]
    exact new _ _ (others_done (by simp)) (others_done (by simp))
  · have hl : less fb bb fc bc = false := by
      cases hl : less fb bb fc bc with
      | true => exact absurd (by unfold fromD E0; rw [hl]; rfl) hE
      | false => rfl
    have hF : fromD fb bb fc bc rb = dig (imgB fb bb rb) := by unfold fromD; rw [hl]; rfl
    refine ⟨fromD fa ba fb bb ra, bothL (othersTo (onto (less fa ba fb bb) fa) fb fb.length) (othersTo (onto (less fb bb fc bc) fb) fc fc.length), bothL (othersTo (onto (less fa ba fb bb) ba) bb bb.length) (othersTo (onto (less fb bb fc bc) bb) bc bc.length), by unfold joinD; rw [if_neg hE, if_neg (fun h => h hF)], dig_length _, wSize_both _ _, wSize_both _ _, ?_⟩
    have hlen : fb.length ≤ fc.length ∧ bb.length ≤ bc.length := by
      unfold less at hl
      simp only [Bool.or_eq_false_iff, decide_eq_false_iff_not] at hl
      omega
    rw [hl, show onto false fb = fb from rfl, show onto false bb = bb from rfl]
    cases hl' : less fa ba fb bb with
    | true =>
      rw [show fromD fa ba fb bb ra = dig (imgB [] [] []) by unfold fromD; rw [hl']; rfl, show onto true fa = [] from rfl, show onto true ba = [] from rfl]
      exact new _ _ (both_done (by simp) hlen.1) (both_done (by simp) hlen.2)
    | false =>
      have hlen' : fa.length ≤ fb.length ∧ ba.length ≤ bb.length := by
        unfold less at hl'
        simp only [Bool.or_eq_false_iff, decide_eq_false_iff_not] at hl'
        omega
      rw [show fromD fa ba fb bb ra = dig (imgB fa ba ra) by unfold fromD; rw [hl']; rfl, show onto false fa = fa from rfl, show onto false ba = ba from rfl]
      unfold applyL
      rw [if_neg (fun hh => hh.1 rfl), if_pos rfl, if_pos rfl, both_done hlen'.1 hlen.1, both_done hlen'.2 hlen.2]
      simp
end
end Go.Proofs.YtecamaceainfpaaDoor
