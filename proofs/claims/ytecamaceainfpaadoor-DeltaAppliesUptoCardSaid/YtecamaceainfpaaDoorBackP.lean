/-
  Plain: what became of an image, done on it, is the other one. No program in sight.
-/
import Derived.Test.YtecamaceainfpaaDoorToldA
import Derived.Test.YtecamaceainfpaaDoorDBytesP
namespace Go.Proofs.YtecamaceainfpaaDoor
open Go.RowKit

section
variable (fa ba fb bb : List (List UInt8)) (ra rb : List UInt8)
theorem back_ok (ap : apartL [imgB [] [] [], imgB fa ba ra, imgB fb bb rb]) :
    applyL fa ba ra (fromD fa ba fb bb ra) (othersTo (onto (less fa ba fb bb) fa) fb fb.length) (othersTo (onto (less fa ba fb bb) ba) bb bb.length) rb (dig (imgB fb bb rb)) = (0, fb, bb, rb) := by
  cases hl : less fa ba fb bb with
  | true =>
    have hF : fromD fa ba fb bb ra = dig (imgB [] [] []) := by unfold fromD; rw [hl]; rfl
    have hC : (if dig (imgB fa ba ra) = fromD fa ba fb bb ra then fa else []) = [] ∧ (if dig (imgB fa ba ra) = fromD fa ba fb bb ra then ba else []) = [] := by
      by_cases hc : dig (imgB fa ba ra) = fromD fa ba fb bb ra
      · rw [if_pos hc, if_pos hc]
        rw [hF] at hc
        have := apart_two ap (i := 1) (k := 0) (by simp) (by omega) hc
        obtain ⟨h1, h2, _⟩ := imgB_inj this
        exact ⟨h1, h2⟩
      · rw [if_neg hc, if_neg hc]; exact ⟨rfl, rfl⟩
    unfold applyL
    rw [if_neg (fun hh => hh.2 hF.symm), hC.1, hC.2, show onto true fa = [] from rfl, show onto true ba = [] from rfl, others_done (by simp), others_done (by simp)]
    simp
  | false =>
    have hF : fromD fa ba fb bb ra = dig (imgB fa ba ra) := by unfold fromD; rw [hl]; rfl
    have hlen : fa.length ≤ fb.length ∧ ba.length ≤ bb.length := by
      unfold less at hl
      simp only [Bool.or_eq_false_iff, decide_eq_false_iff_not] at hl
      omega
    unfold applyL
    rw [hF, if_neg (fun hh => hh.1 rfl), if_pos rfl, if_pos rfl, show onto false fa = fa from rfl, show onto false ba = ba from rfl, others_done hlen.1, others_done hlen.2]
    simp
end
theorem others_mem (a b : List (List UInt8)) : ∀ k, ∀ p ∈ othersTo a b k, 0 ≤ p.1 ∧ p.1 < k
  | 0, p, hp => by simp [othersTo] at hp
  | k + 1, p, hp => by
    by_cases hs : k < a.length ∧ a.getD k [] = b.getD k []
    · rw [othersTo_same hs.1 hs.2] at hp
      have := others_mem a b k p hp
      omega
    · rw [othersTo_new hs, List.mem_append] at hp
      rcases hp with hp | hp
      · have := others_mem a b k p hp
        omega
      · obtain rfl := List.mem_singleton.1 hp
        show (0 : Int) ≤ (k : Int) ∧ (k : Int) < _
        omega
theorem others_in {a b : List (List UInt8)} {k : Nat} (hk : k ≤ 4294967296) : (∀ p ∈ othersTo a b k, inI p.1) ∧ negs (othersTo a b k) = false := by
  refine ⟨fun p hp => ?_, ?_⟩
  · have := others_mem a b k p hp
    unfold inI; omega
  · unfold negs
    refine List.any_eq_false.2 fun p hp => ?_
    have := others_mem a b k p hp
    simp only [decide_eq_true_eq]; omega
end Go.Proofs.YtecamaceainfpaaDoor
