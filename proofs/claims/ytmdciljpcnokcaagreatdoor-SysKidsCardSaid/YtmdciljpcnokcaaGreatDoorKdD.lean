/-
  A run of closed code by the kernel: calls of SysKids that were run once: they are so (D).
-/
import Derived.Test.YtmdciljpcnokcaaGreatDoorKdA
namespace Go.Proofs.YtmdciljpcnokcaaGreatDoor.Kd
open Go.Proofs.YtmdciljpcnokcaaGreatDoor.Ex
theorem mK1_2_0_ran : mK1_2_0.ran DK 12 = true := by decide +kernel
theorem mK1_2_1_ran : mK1_2_1.ran DK 12 = true := by decide +kernel
theorem mW1_2_0_ran : mW1_2_0.ran DK 12 = true := by decide +kernel
theorem mW1_2_1_ran : mW1_2_1.ran DK 12 = true := by decide +kernel
theorem mZ1_ran : mZ1.ran DK 12 = true := by decide +kernel
theorem mK2_2_0_ran : mK2_2_0.ran DK 12 = true := by decide +kernel
theorem mK2_2_1_ran : mK2_2_1.ran DK 12 = true := by decide +kernel
theorem mW2_2_0_ran : mW2_2_0.ran DK 12 = true := by decide +kernel
theorem mW2_2_1_ran : mW2_2_1.ran DK 12 = true := by decide +kernel
theorem mK2_3_0_ran : mK2_3_0.ran DK 12 = true := by decide +kernel
theorem mK2_3_1_ran : mK2_3_1.ran DK 12 = true := by decide +kernel
theorem mW2_3_0_ran : mW2_3_0.ran DK 12 = true := by decide +kernel
theorem mW2_3_1_ran : mW2_3_1.ran DK 12 = true := by decide +kernel
theorem mZ2_ran : mZ2.ran DK 12 = true := by decide +kernel
theorem mK3_2_0_ran : mK3_2_0.ran DK 12 = true := by decide +kernel
theorem mK3_2_1_ran : mK3_2_1.ran DK 12 = true := by decide +kernel
theorem mW3_2_0_ran : mW3_2_0.ran DK 12 = true := by decide +kernel
theorem mW3_2_1_ran : mW3_2_1.ran DK 12 = true := by decide +kernel
theorem mK3_3_0_ran : mK3_3_0.ran DK 12 = true := by decide +kernel
theorem mK3_3_1_ran : mK3_3_1.ran DK 12 = true := by decide +kernel
theorem mW3_3_0_ran : mW3_3_0.ran DK 12 = true := by decide +kernel
theorem mW3_3_1_ran : mW3_3_1.ran DK 12 = true := by decide +kernel
theorem mK3_4_0_ran : mK3_4_0.ran DK 12 = true := by decide +kernel
theorem mK3_4_1_ran : mK3_4_1.ran DK 12 = true := by decide +kernel
theorem mW3_4_0_ran : mW3_4_0.ran DK 12 = true := by decide +kernel
theorem mW3_4_1_ran : mW3_4_1.ran DK 12 = true := by decide +kernel
theorem mZ3_ran : mZ3.ran DK 12 = true := by decide +kernel
end Go.Proofs.YtmdciljpcnokcaaGreatDoor.Kd
