/-
  A run of closed code by the kernel: the calls' example runs to true.
-/
import Derived.Test.YtmdciljpcnokcaaGreatDoorEzK
namespace Go.Proofs.YtmdciljpcnokcaaGreatDoor.Ex
open Go.RowKit
theorem alive_run : Dn CP irsT 200 (.fn 5) [] ⟨0, .lf⟩ (fun v _ => isT v) = true := by
  decide +kernel
theorem alive_any [Sig] (w : World) : Calls Go.Proofs.Tryz.prog 5 #[] w fun e w' => e = .returned (.bool true) ∧ Below w.heap.size w w' := by
  obtain ⟨x, H', h1, h2⟩ := (Dn_sound CP_ok irsT_sound irsT_pure _).go _ _ _ _ alive_run
  obtain ⟨b, rfl, h3⟩ := asB_true (show asB x (fun b => b) = true from h1)
  subst h3
  obtain ⟨_, h4⟩ := h2 inj0 w #[] trivial (hr0 w)
  refine Calls.mono h4 fun e w' he => ?_
  obtain ⟨v, rfl, ι', hE, _, hv⟩ := he
  have hv : v = .bool true := hv
  subst hv
  exact ⟨rfl, hE.same.1, hE.same.2.1, hE.same.2.2, hE.size, fun k hk => hE.keep k hk fun b o x hb => (by cases hb)⟩
theorem irT_sound [Sig] : IrSound Go.Proofs.Tryz.prog 5 irT := by
  intro vs H k h
  cases vs with
  | cons => cases h
  | nil =>
    refine ⟨_, H, h, fun ι w args hv hH => ⟨callFunc_enter (by decide +kernel) args w, ?_⟩⟩
    have e1 : args = #[] := by
      cases args with
      | mk l =>
        cases l with
        | nil => rfl
        | cons => exact hv.elim
    subst e1
    refine Calls.mono (alive_any w) fun e w' he => ?_
    obtain ⟨rfl, hB⟩ := he
    obtain ⟨r1, r2⟩ := hH.below hB
    exact ⟨_, rfl, ι, r2, r1, rfl⟩
end Go.Proofs.YtmdciljpcnokcaaGreatDoor.Ex
