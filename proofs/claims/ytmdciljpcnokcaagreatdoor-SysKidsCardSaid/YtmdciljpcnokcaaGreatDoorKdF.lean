/-
  A run of closed code by the kernel: SysKids' contracts.
-/
import Derived.Test.YtmdciljpcnokcaaGreatDoorKdB
import Derived.Test.YtmdciljpcnokcaaGreatDoorKdC
import Derived.Test.YtmdciljpcnokcaaGreatDoorKdD
import Derived.Test.YtmdciljpcnokcaaGreatDoorKdE
namespace Go.Proofs.YtmdciljpcnokcaaGreatDoor.Kd
open Go.Proofs.YtmdciljpcnokcaaGreatDoor.Ex
noncomputable def irNo : Ir := ⟨fun _ _ _ => false⟩
theorem irNo_sound [Sig] {P : Program} (f : Nat) : IrSound P f irNo := fun _ _ _ h => (by cases h)
noncomputable def irP : Ir := (irMem mP irNo)
noncomputable def irS : Ir := (irMem mS1 (irMem mS2 (irMem mS3 (irMem mS4 (irMem mK1_2_0 (irMem mK1_2_1 (irMem mW1_2_0 (irMem mW1_2_1 (irMem mZ1 (irMem mK2_2_0 (irMem mK2_2_1 (irMem mW2_2_0 (irMem mW2_2_1 (irMem mK2_3_0 (irMem mK2_3_1 (irMem mW2_3_0 (irMem mW2_3_1 (irMem mZ2 (irMem mK3_2_0 (irMem mK3_2_1 (irMem mW3_2_0 (irMem mW3_2_1 (irMem mK3_3_0 (irMem mK3_3_1 (irMem mW3_3_0 (irMem mW3_3_1 (irMem mK3_4_0 (irMem mK3_4_1 (irMem mW3_4_0 (irMem mW3_4_1 (irMem mZ3 (irMem mK4_2_0 (irMem mK4_2_1 (irMem mW4_2_0 (irMem mW4_2_1 (irMem mK4_3_0 (irMem mK4_3_1 (irMem mW4_3_0 (irMem mW4_3_1 (irMem mK4_4_0 (irMem mK4_4_1 (irMem mW4_4_0 (irMem mW4_4_1 (irMem mK4_5_0 (irMem mK4_5_1 (irMem mW4_5_0 (irMem mW4_5_1 (irMem mZ4 irNo))))))))))))))))))))))))))))))))))))))))))))))))
noncomputable def irF : Ir := (irMem mF1 (irMem mF2 (irMem mF3 (irMem mF4 (irMem mF5 (irMem mG1 (irMem mG2 (irMem mG3 (irMem mG4 irNo)))))))))
theorem irP_sound [Sig] [SigW] : IrSound Go.Proofs.Tryz.prog 6 irP := (irMem_sound DK_ok mP_ran (irNo_sound _))
theorem irS_sound [Sig] [SigW] : IrSound Go.Proofs.Tryz.prog 12 irS := (irMem_sound DK_ok mS1_ran (irMem_sound DK_ok mS2_ran (irMem_sound DK_ok mS3_ran (irMem_sound DK_ok mS4_ran (irMem_sound DK_ok mK1_2_0_ran (irMem_sound DK_ok mK1_2_1_ran (irMem_sound DK_ok mW1_2_0_ran (irMem_sound DK_ok mW1_2_1_ran (irMem_sound DK_ok mZ1_ran (irMem_sound DK_ok mK2_2_0_ran (irMem_sound DK_ok mK2_2_1_ran (irMem_sound DK_ok mW2_2_0_ran (irMem_sound DK_ok mW2_2_1_ran (irMem_sound DK_ok mK2_3_0_ran (irMem_sound DK_ok mK2_3_1_ran (irMem_sound DK_ok mW2_3_0_ran (irMem_sound DK_ok mW2_3_1_ran (irMem_sound DK_ok mZ2_ran (irMem_sound DK_ok mK3_2_0_ran (irMem_sound DK_ok mK3_2_1_ran (irMem_sound DK_ok mW3_2_0_ran (irMem_sound DK_ok mW3_2_1_ran (irMem_sound DK_ok mK3_3_0_ran (irMem_sound DK_ok mK3_3_1_ran (irMem_sound DK_ok mW3_3_0_ran (irMem_sound DK_ok mW3_3_1_ran (irMem_sound DK_ok mK3_4_0_ran (irMem_sound DK_ok mK3_4_1_ran (irMem_sound DK_ok mW3_4_0_ran (irMem_sound DK_ok mW3_4_1_ran (irMem_sound DK_ok mZ3_ran (irMem_sound DK_ok mK4_2_0_ran (irMem_sound DK_ok mK4_2_1_ran (irMem_sound DK_ok mW4_2_0_ran (irMem_sound DK_ok mW4_2_1_ran (irMem_sound DK_ok mK4_3_0_ran (irMem_sound DK_ok mK4_3_1_ran (irMem_sound DK_ok mW4_3_0_ran (irMem_sound DK_ok mW4_3_1_ran (irMem_sound DK_ok mK4_4_0_ran (irMem_sound DK_ok mK4_4_1_ran (irMem_sound DK_ok mW4_4_0_ran (irMem_sound DK_ok mW4_4_1_ran (irMem_sound DK_ok mK4_5_0_ran (irMem_sound DK_ok mK4_5_1_ran (irMem_sound DK_ok mW4_5_0_ran (irMem_sound DK_ok mW4_5_1_ran (irMem_sound DK_ok mZ4_ran (irNo_sound _)))))))))))))))))))))))))))))))))))))))))))))))))
theorem irF_sound [Sig] [SigW] : IrSound Go.Proofs.Tryz.prog 13 irF := (irMem_sound DK_ok mF1_ran (irMem_sound DK_ok mF2_ran (irMem_sound DK_ok mF3_ran (irMem_sound DK_ok mF4_ran (irMem_sound DK_ok mF5_ran (irMem_sound DK_ok mG1_ran (irMem_sound DK_ok mG2_ran (irMem_sound DK_ok mG3_ran (irMem_sound DK_ok mG4_ran (irNo_sound _))))))))))
noncomputable def irsQ (f : Nat) : Option Ir := selI f 5 irT (selI f 6 irP (selI f 12 irS (selI f 13 irF (irsK f))))
theorem irsQ_pure [Sig] (f : Nat) (hf : pureF f = true) : ∃ i, irsQ f = some i ∧ IrStill i := sel_pure (by decide) (sel_pure (by decide) (sel_pure (by decide) (sel_pure (by decide) (irsK_pure f)))) hf
theorem irsQ_sound [Sig] [SigW] : ∀ f i, irsQ f = some i → IrSound Go.Proofs.Tryz.prog f i := by
  intro f i h
  unfold irsQ at h
  rcases sel_some h with ⟨rfl, rfl⟩ | h
  · exact irT_sound
  rcases sel_some h with ⟨rfl, rfl⟩ | h
  · exact irP_sound
  rcases sel_some h with ⟨rfl, rfl⟩ | h
  · exact irS_sound
  rcases sel_some h with ⟨rfl, rfl⟩ | h
  · exact irF_sound
  exact irsK_sound f i h
/-- the row of signals: each one's parity -/
noncomputable def sigC (ps : List Nat) : List Sc := List.rec (fun _ => []) (fun p _ ih j => .oth (.byt (65668 + (16 * j + 8 * p))) :: ih (Nat.succ j)) ps 0
noncomputable def kids (r : Nat) (sg : Sc) (H : Hp) : Bool := Dn CP irsQ 200 (.fn 4) [.s (.oth (.byt 65606)), .s (.oth (.byt (65540 + 8 * r))), .s sg] H fun v _ => isT v
noncomputable def kidsR (r len : Nat) (ps : List Nat) : Bool := kids r (.sl 0 0 len 1 none) ⟨1, .nd (some (.cells (sigC ps) true none)) .lf .lf⟩
end Go.Proofs.YtmdciljpcnokcaaGreatDoor.Kd
