/-
  A run of closed code by the kernel: calls of SysKids that were run once: they are so (B).
-/
import Derived.Test.YtmdciljpcnokcaaGreatDoorKdA
namespace Go.Proofs.YtmdciljpcnokcaaGreatDoor.Kd
open Go.Proofs.YtmdciljpcnokcaaGreatDoor.Ex
theorem mP_ran : mP.ran DK 6 = true := by decide +kernel
theorem mS1_ran : mS1.ran DK 12 = true := by decide +kernel
theorem mS2_ran : mS2.ran DK 12 = true := by decide +kernel
theorem mS3_ran : mS3.ran DK 12 = true := by decide +kernel
theorem mS4_ran : mS4.ran DK 12 = true := by decide +kernel
end Go.Proofs.YtmdciljpcnokcaaGreatDoor.Kd
