/-
  A run of closed code by the kernel: SysTalk with 1 to 6 bytes that may be any.
-/
import Derived.Test.YtmdciljpcnokcaaGreatDoorEzN
namespace Go.Proofs.YtmdciljpcnokcaaGreatDoor.Ex
theorem pack1 : packN 0 1 = 256 := by decide +kernel
theorem talk1 : talks 1 256 = true := by decide +kernel
theorem pack2 : packN 0 2 = 16843008 := by decide +kernel
theorem talk2 : talks 2 16843008 = true := by decide +kernel
theorem pack3 : packN 0 3 = 1108118405376 := by decide +kernel
theorem talk3 : talks 3 1108118405376 = true := by decide +kernel
theorem pack4 : packN 0 4 = 72903127086465280 := by decide +kernel
theorem talk4 : talks 4 72903127086465280 = true := by decide +kernel
theorem pack5 : packN 0 5 = 4796226362291569885440 := by decide +kernel
theorem talk5 : talks 5 4796226362291569885440 = true := by decide +kernel
theorem pack6 : packN 0 6 = 315534435145780506168197376 := by decide +kernel
theorem talk6 : talks 6 315534435145780506168197376 = true := by decide +kernel
end Go.Proofs.YtmdciljpcnokcaaGreatDoor.Ex
