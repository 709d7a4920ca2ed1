/-
  A run of closed code by the kernel: calls of SysKids that were run once: they are so (E).
-/
import Derived.Test.YtmdciljpcnokcaaGreatDoorKdA
namespace Go.Proofs.YtmdciljpcnokcaaGreatDoor.Kd
open Go.Proofs.YtmdciljpcnokcaaGreatDoor.Ex
theorem mK4_2_0_ran : mK4_2_0.ran DK 12 = true := by decide +kernel
theorem mK4_2_1_ran : mK4_2_1.ran DK 12 = true := by decide +kernel
theorem mW4_2_0_ran : mW4_2_0.ran DK 12 = true := by decide +kernel
theorem mW4_2_1_ran : mW4_2_1.ran DK 12 = true := by decide +kernel
theorem mK4_3_0_ran : mK4_3_0.ran DK 12 = true := by decide +kernel
theorem mK4_3_1_ran : mK4_3_1.ran DK 12 = true := by decide +kernel
theorem mW4_3_0_ran : mW4_3_0.ran DK 12 = true := by decide +kernel
theorem mW4_3_1_ran : mW4_3_1.ran DK 12 = true := by decide +kernel
theorem mK4_4_0_ran : mK4_4_0.ran DK 12 = true := by decide +kernel
theorem mK4_4_1_ran : mK4_4_1.ran DK 12 = true := by decide +kernel
theorem mW4_4_0_ran : mW4_4_0.ran DK 12 = true := by decide +kernel
theorem mW4_4_1_ran : mW4_4_1.ran DK 12 = true := by decide +kernel
theorem mK4_5_0_ran : mK4_5_0.ran DK 12 = true := by decide +kernel
theorem mK4_5_1_ran : mK4_5_1.ran DK 12 = true := by decide +kernel
theorem mW4_5_0_ran : mW4_5_0.ran DK 12 = true := by decide +kernel
theorem mW4_5_1_ran : mW4_5_1.ran DK 12 = true := by decide +kernel
theorem mZ4_ran : mZ4.ran DK 12 = true := by decide +kernel
end Go.Proofs.YtmdciljpcnokcaaGreatDoor.Kd
