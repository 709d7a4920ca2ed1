/-
  A run of closed code by the kernel: which contracts are used, and that they are so; the kernel's frame that mends what panics.
-/
import Derived.Test.YtmdciljpcnokcaaGreatDoorEzJ
import Derived.Test.YtmdciljpcnokcaaGreatDoorEzM
import Derived.Test.YtmdciljpcnokcaaGreatDoorSyT
namespace Go.Proofs.YtmdciljpcnokcaaGreatDoor.Ex
open Go.RowKit
/-- the contracts, but for the kernel's frame -/
noncomputable def irsB (f : Nat) : Option Ir :=
  selI f 157 irTwo (selI f 197 (irDel zP 96) (selI f 241 irGeom (selI f 57 irGeom
    (selI f 39 irZ (selI f 55 irZ (selI f 237 irIdx
      (irs0 153 93 52 151 5 f)))))))
noncomputable def CP : Cmp := cmpOf Go.Proofs.Tryz.prog
noncomputable def irsT (f : Nat) : Option Ir := selI f 24 (irTry (Dn CP irsB 200) 49) (irsB f)
theorem mixed_any : Go.Proofs.Tryz.prog.follows .mixedOrders = true := by kernel_rfl
theorem CP_ok [Sig] : CmpOk CP := cmpOf_ok mixed_any
theorem sel_some [Sig] {f g : Nat} {i j : Ir} {rest : Option Ir} (h : selI f g i rest = some j) : (f = g ∧ i = j) ∨ rest = some j := by
  unfold selI at h
  cases hb : Nat.beq f g with
  | true => rw [hb] at h; exact .inl ⟨beq_true hb, Option.some.inj h⟩
  | false => rw [hb] at h; exact .inr h
theorem sel_pure [Sig] {f g : Nat} {i : Ir} {rest : Option Ir} (hg : pureF g = false) (hr : pureF f = true → ∃ i, rest = some i ∧ IrStill i) (hf : pureF f = true) : ∃ j, selI f g i rest = some j ∧ IrStill j := by
  obtain ⟨j, h1, h2⟩ := hr hf
  refine ⟨j, ?_, h2⟩
  unfold selI
  cases hb : Nat.beq f g with
  | true => rw [beq_true hb, hg] at hf; cases hf
  | false => exact h1
theorem irsB_sound [Sig] : ∀ f i, irsB f = some i → IrSound Go.Proofs.Tryz.prog f i := by
  intro f i h
  unfold irsB irs0 at h
  rcases sel_some h with ⟨rfl, rfl⟩ | h
  · exact irTwo_sound
  rcases sel_some h with ⟨rfl, rfl⟩ | h
  · exact irDel_sound
  rcases sel_some h with ⟨rfl, rfl⟩ | h
  · exact irGeom_sound
  rcases sel_some h with ⟨rfl, rfl⟩ | h
  · exact irGeom17_sound
  rcases sel_some h with ⟨rfl, rfl⟩ | h
  · exact irZ16_sound
  rcases sel_some h with ⟨rfl, rfl⟩ | h
  · exact irZ17_sound
  rcases sel_some h with ⟨rfl, rfl⟩ | h
  · exact irIdx_sound
  rcases sel_some h with ⟨rfl, rfl⟩ | h
  · exact irRep_sound
  rcases sel_some h with ⟨rfl, rfl⟩ | h
  · exact irCopy_sound
  rcases sel_some h with ⟨rfl, rfl⟩ | h
  · exact irStr_sound
  cases h
theorem irsB_pure [Sig] (f : Nat) (hf : pureF f = true) : ∃ i, irsB f = some i ∧ IrStill i := by
  have : f = 157 := beq_true hf
  subst this
  exact ⟨irTwo, rfl, irTwo_still⟩
theorem irTry_sound [Sig] {D : Dt} (hD : DS Go.Proofs.Tryz.prog D) : IrSound Go.Proofs.Tryz.prog 24 (irTry D 49) := by
  intro vs H k h
  obtain ⟨x, y, rfl, h1⟩ := arg2_true (show arg2 vs _ = true from h)
  obtain ⟨b, off, rfl, h1⟩ := asPtr_true h1
  obtain ⟨v, H', h2, h3⟩ := hD.go _ _ _ _ h1
  cases v with
  | s => cases h2
  | g => cases h2
  | t l =>
    cases l with
    | cons => cases h2
    | nil =>
      have h2 : k (.t []) H' = true := h2
      refine ⟨_, _, h2, fun ι w args hv hH => ⟨callFunc_enter (by decide +kernel) args w, ?_⟩⟩
      have hv' := hv
      obtain ⟨p, n, e1, ⟨q, _, rfl⟩, _⟩ := RL2 hv'
      have e1 : args = #[.pointer (some ⟨q.block, q.base + off, none⟩), n] := Array.ext' e1
      subst e1
      refine Calls.mono (try_gen w (some ⟨q.block, q.base + off, none⟩) n (Behind ι H w (.t []) H' (.tuple #[])) fun W hW => ?_) ?_
      · obtain ⟨hR, hE⟩ := hH.below hW
        refine Calls.mono (h3 ι W _ hv hR).2 ?_
        rintro e w' ⟨v, rfl, ι', hE', hR', us, rfl, hu⟩
        have : us = #[] := by
          cases us with
          | mk l =>
            cases l with
            | nil => rfl
            | cons => exact hu.elim
        subst this
        exact ⟨rfl, ι', hE.trans hE', hR', _, rfl, trivial⟩
      · rintro e w' ⟨rfl, h⟩
        exact ⟨_, rfl, h⟩
theorem irsT_sound [Sig] : ∀ f i, irsT f = some i → IrSound Go.Proofs.Tryz.prog f i := by
  intro f i h
  unfold irsT at h
  rcases sel_some h with ⟨rfl, rfl⟩ | h
  · exact irTry_sound (Dn_sound CP_ok irsB_sound irsB_pure _)
  exact irsB_sound f i h
theorem irsT_pure [Sig] (f : Nat) (hf : pureF f = true) : ∃ i, irsT f = some i ∧ IrStill i := sel_pure (by decide) (irsB_pure f) hf
noncomputable def isT (v : Va) : Bool := asB v fun b => b
/-- true, and nothing else is changed -/
noncomputable def irT : Ir := ⟨fun vs H k => List.rec (k (.s (.bool true)) H) (fun _ _ _ => false) vs⟩
def inj0 : Inj := ⟨fun _ => none, fun _ => none⟩
theorem hr0 [Sig] (w : World) : HR inj0 ⟨0, .lf⟩ w :=
  ⟨⟨fun b o h => (by cases h), fun _ _ => ⟨rfl, rfl, rfl⟩, fun b b' o o' x x' h => (by cases h), fun b x h => (by cases h)⟩, ⟨trivial⟩, fun b x h => (by cases h)⟩
end Go.Proofs.YtmdciljpcnokcaaGreatDoor.Ex
