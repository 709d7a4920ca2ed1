/-
  Plain: what became of an image, done on a third one. No program in sight.
-/
import Derived.Test.YtecamaceainfpaaDoorApart
import Derived.Test.YtecamaceainfpaaDoorOf
import Derived.Test.YtecamaceainfpaaDoorImages
namespace Go.Proofs.YtecamaceainfpaaDoor
open Go.RowKit

/-- of four texts: what apart says -/
theorem apart_two {ls : List (List UInt8)} (h : apartL ls) {i k : Nat} (hi : i < ls.length) (hk : k < i) (hd : dig (ls.getD i []) = dig (ls.getD k [])) : ls.getD i [] = ls.getD k [] := h i k hk (.inl hi) hd
theorem onto_nil {α : Type} (l : Bool) : onto l ([] : List α) = [] := by cases l <;> rfl
section
variable (fa ba fb bb fc bc : List (List UInt8)) (ra rb rc : List UInt8)
/-- the digest from which the delta from a to b goes on -/
def fromD : List UInt8 := dig (imgB (onto (less fa ba fb bb) fa) (onto (less fa ba fb bb) ba) (onto (less fa ba fb bb) ra))
theorem told_new (ap : apartL [imgB [] [] [], imgB fa ba ra, imgB fb bb rb, imgB fc bc rc]) (h : fromD fa ba fb bb ra = dig (imgB [] [] [])) :
    applyL fc bc rc (fromD fa ba fb bb ra) (othersTo (onto (less fa ba fb bb) fa) fb fb.length) (othersTo (onto (less fa ba fb bb) ba) bb bb.length) rb (dig (imgB fb bb rb)) = (0, fb, bb, rb) := by
  have hA : onto (less fa ba fb bb) fa = [] ∧ onto (less fa ba fb bb) ba = [] := by
    unfold fromD at h
    cases hl : less fa ba fb bb with
    | true => exact ⟨rfl, rfl⟩
    | false =>
      rw [hl] at h
      have := apart_two ap (i := 1) (k := 0) (by simp) (by omega) h
      obtain ⟨h1, h2, _⟩ := imgB_inj this
      exact ⟨h1, h2⟩
  have hC : (if dig (imgB fc bc rc) = fromD fa ba fb bb ra then fc else []) = [] ∧ (if dig (imgB fc bc rc) = fromD fa ba fb bb ra then bc else []) = [] := by
    by_cases hc : dig (imgB fc bc rc) = fromD fa ba fb bb ra
    · rw [if_pos hc, if_pos hc]
      rw [h] at hc
      have := apart_two ap (i := 3) (k := 0) (by simp) (by omega) hc
      obtain ⟨h1, h2, _⟩ := imgB_inj this
      exact ⟨h1, h2⟩
    · rw [if_neg hc, if_neg hc]; exact ⟨rfl, rfl⟩
  unfold applyL
  rw [if_neg (fun hh => hh.2 h.symm), hC.1, hC.2, hA.1, hA.2, others_done (by simp), others_done (by simp)]
  simp
theorem told_diff (hn : imgEq fa ba ra fc bc rc = false) (ap : apartL [imgB [] [] [], imgB fa ba ra, imgB fb bb rb, imgB fc bc rc]) (h : fromD fa ba fb bb ra ≠ dig (imgB [] [] [])) :
    applyL fc bc rc (fromD fa ba fb bb ra) (othersTo (onto (less fa ba fb bb) fa) fb fb.length) (othersTo (onto (less fa ba fb bb) ba) bb bb.length) rb (dig (imgB fb bb rb)) = (23, [], [], []) := by
  have hA : fromD fa ba fb bb ra = dig (imgB fa ba ra) := by
    unfold fromD at h ⊢
    cases hl : less fa ba fb bb with
    | true => rw [hl] at h; exact absurd rfl h
    | false => rfl
  have hC : dig (imgB fc bc rc) ≠ fromD fa ba fb bb ra := fun hc => by
    rw [hA] at hc
    have := apart_two ap (i := 3) (k := 1) (by simp) (by omega) hc
    obtain ⟨h1, h2, h3⟩ := imgB_inj this
    subst h1 h2 h3
    simp [imgEq] at hn
  unfold applyL
  rw [if_pos ⟨hC, fun e => h e.symm⟩]
end
end Go.Proofs.YtecamaceainfpaaDoor
