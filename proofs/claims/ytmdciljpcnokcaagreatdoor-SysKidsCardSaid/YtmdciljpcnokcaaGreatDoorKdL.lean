/-
  A run of closed code by the kernel: SysKids runs to true, whatever the signals' parities.
-/
import Derived.Test.YtmdciljpcnokcaaGreatDoorKdF
namespace Go.Proofs.YtmdciljpcnokcaaGreatDoor.Kd
open Go.Proofs.YtmdciljpcnokcaaGreatDoor.Ex
theorem kidsNil1 : kids 0 (.oth .nils) ⟨1, .lf⟩ = true := by decide +kernel
theorem kidsEmp1 : kids 0 (.oth .emp) ⟨1, .lf⟩ = true := by decide +kernel
theorem kids1x_0 (x : Nat) : kidsR 0 (x + 1) [0] = true := by kernel_rfl
theorem kids1x_1 (x : Nat) : kidsR 0 (x + 1) [1] = true := by kernel_rfl
theorem kidsNil2 : kids 1 (.oth .nils) ⟨1, .lf⟩ = true := by decide +kernel
theorem kidsEmp2 : kids 1 (.oth .emp) ⟨1, .lf⟩ = true := by decide +kernel
theorem kids2_1_0 : kidsR 1 1 [0] = true := by decide +kernel
theorem kids2_1_1 : kidsR 1 1 [1] = true := by decide +kernel
theorem kids2x_00 (x : Nat) : kidsR 1 (x + 2) [0, 0] = true := by kernel_rfl
theorem kids2x_01 (x : Nat) : kidsR 1 (x + 2) [0, 1] = true := by kernel_rfl
theorem kids2x_10 (x : Nat) : kidsR 1 (x + 2) [1, 0] = true := by kernel_rfl
theorem kids2x_11 (x : Nat) : kidsR 1 (x + 2) [1, 1] = true := by kernel_rfl
theorem kidsNil3 : kids 2 (.oth .nils) ⟨1, .lf⟩ = true := by decide +kernel
theorem kidsEmp3 : kids 2 (.oth .emp) ⟨1, .lf⟩ = true := by decide +kernel
theorem kids3_1_0 : kidsR 2 1 [0] = true := by decide +kernel
theorem kids3_1_1 : kidsR 2 1 [1] = true := by decide +kernel
theorem kids3_2_00 : kidsR 2 2 [0, 0] = true := by decide +kernel
theorem kids3_2_01 : kidsR 2 2 [0, 1] = true := by decide +kernel
theorem kids3_2_10 : kidsR 2 2 [1, 0] = true := by decide +kernel
theorem kids3_2_11 : kidsR 2 2 [1, 1] = true := by decide +kernel
theorem kids3x_000 (x : Nat) : kidsR 2 (x + 3) [0, 0, 0] = true := by kernel_rfl
theorem kids3x_001 (x : Nat) : kidsR 2 (x + 3) [0, 0, 1] = true := by kernel_rfl
theorem kids3x_010 (x : Nat) : kidsR 2 (x + 3) [0, 1, 0] = true := by kernel_rfl
theorem kids3x_011 (x : Nat) : kidsR 2 (x + 3) [0, 1, 1] = true := by kernel_rfl
theorem kids3x_100 (x : Nat) : kidsR 2 (x + 3) [1, 0, 0] = true := by kernel_rfl
theorem kids3x_101 (x : Nat) : kidsR 2 (x + 3) [1, 0, 1] = true := by kernel_rfl
theorem kids3x_110 (x : Nat) : kidsR 2 (x + 3) [1, 1, 0] = true := by kernel_rfl
theorem kids3x_111 (x : Nat) : kidsR 2 (x + 3) [1, 1, 1] = true := by kernel_rfl
theorem kidsNil4 : kids 3 (.oth .nils) ⟨1, .lf⟩ = true := by decide +kernel
theorem kidsEmp4 : kids 3 (.oth .emp) ⟨1, .lf⟩ = true := by decide +kernel
theorem kids4_1_0 : kidsR 3 1 [0] = true := by decide +kernel
theorem kids4_1_1 : kidsR 3 1 [1] = true := by decide +kernel
theorem kids4_2_00 : kidsR 3 2 [0, 0] = true := by decide +kernel
theorem kids4_2_01 : kidsR 3 2 [0, 1] = true := by decide +kernel
theorem kids4_2_10 : kidsR 3 2 [1, 0] = true := by decide +kernel
theorem kids4_2_11 : kidsR 3 2 [1, 1] = true := by decide +kernel
theorem kids4_3_000 : kidsR 3 3 [0, 0, 0] = true := by decide +kernel
theorem kids4_3_001 : kidsR 3 3 [0, 0, 1] = true := by decide +kernel
theorem kids4_3_010 : kidsR 3 3 [0, 1, 0] = true := by decide +kernel
theorem kids4_3_011 : kidsR 3 3 [0, 1, 1] = true := by decide +kernel
theorem kids4_3_100 : kidsR 3 3 [1, 0, 0] = true := by decide +kernel
theorem kids4_3_101 : kidsR 3 3 [1, 0, 1] = true := by decide +kernel
theorem kids4_3_110 : kidsR 3 3 [1, 1, 0] = true := by decide +kernel
theorem kids4_3_111 : kidsR 3 3 [1, 1, 1] = true := by decide +kernel
theorem kids4x_0000 (x : Nat) : kidsR 3 (x + 4) [0, 0, 0, 0] = true := by kernel_rfl
theorem kids4x_0001 (x : Nat) : kidsR 3 (x + 4) [0, 0, 0, 1] = true := by kernel_rfl
theorem kids4x_0010 (x : Nat) : kidsR 3 (x + 4) [0, 0, 1, 0] = true := by kernel_rfl
theorem kids4x_0011 (x : Nat) : kidsR 3 (x + 4) [0, 0, 1, 1] = true := by kernel_rfl
theorem kids4x_0100 (x : Nat) : kidsR 3 (x + 4) [0, 1, 0, 0] = true := by kernel_rfl
theorem kids4x_0101 (x : Nat) : kidsR 3 (x + 4) [0, 1, 0, 1] = true := by kernel_rfl
theorem kids4x_0110 (x : Nat) : kidsR 3 (x + 4) [0, 1, 1, 0] = true := by kernel_rfl
theorem kids4x_0111 (x : Nat) : kidsR 3 (x + 4) [0, 1, 1, 1] = true := by kernel_rfl
theorem kids4x_1000 (x : Nat) : kidsR 3 (x + 4) [1, 0, 0, 0] = true := by kernel_rfl
theorem kids4x_1001 (x : Nat) : kidsR 3 (x + 4) [1, 0, 0, 1] = true := by kernel_rfl
theorem kids4x_1010 (x : Nat) : kidsR 3 (x + 4) [1, 0, 1, 0] = true := by kernel_rfl
theorem kids4x_1011 (x : Nat) : kidsR 3 (x + 4) [1, 0, 1, 1] = true := by kernel_rfl
theorem kids4x_1100 (x : Nat) : kidsR 3 (x + 4) [1, 1, 0, 0] = true := by kernel_rfl
theorem kids4x_1101 (x : Nat) : kidsR 3 (x + 4) [1, 1, 0, 1] = true := by kernel_rfl
theorem kids4x_1110 (x : Nat) : kidsR 3 (x + 4) [1, 1, 1, 0] = true := by kernel_rfl
theorem kids4x_1111 (x : Nat) : kidsR 3 (x + 4) [1, 1, 1, 1] = true := by kernel_rfl
end Go.Proofs.YtmdciljpcnokcaaGreatDoor.Kd
