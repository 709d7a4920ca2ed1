/-
  A run of closed code by the kernel: calls of SysKids that were run once: they are so (C).
-/
import Derived.Test.YtmdciljpcnokcaaGreatDoorKdA
namespace Go.Proofs.YtmdciljpcnokcaaGreatDoor.Kd
open Go.Proofs.YtmdciljpcnokcaaGreatDoor.Ex
theorem mF1_ran : mF1.ran DK 13 = true := by decide +kernel
theorem mF2_ran : mF2.ran DK 13 = true := by decide +kernel
theorem mF3_ran : mF3.ran DK 13 = true := by decide +kernel
theorem mF4_ran : mF4.ran DK 13 = true := by decide +kernel
theorem mF5_ran : mF5.ran DK 13 = true := by decide +kernel
theorem mG1_ran : mG1.ran DK 13 = true := by decide +kernel
theorem mG2_ran : mG2.ran DK 13 = true := by decide +kernel
theorem mG3_ran : mG3.ran DK 13 = true := by decide +kernel
theorem mG4_ran : mG4.ran DK 13 = true := by decide +kernel
end Go.Proofs.YtmdciljpcnokcaaGreatDoor.Kd
