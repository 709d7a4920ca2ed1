/-
  A run of closed code by the kernel: SysTalk with 7 to 12 bytes that may be any.
-/
import Derived.Test.YtmdciljpcnokcaaGreatDoorEzN
namespace Go.Proofs.YtmdciljpcnokcaaGreatDoor.Ex
theorem pack7 : packN 0 7 = 20758094113172402230014683185408 := by decide +kernel
theorem talk7 : talks 7 20758094113172402230014683185408 = true := by decide +kernel
theorem pack8 : packN 0 8 = 1365594831888772838705750549268070656 := by decide +kernel
theorem talk8 : talks 8 1365594831888772838705750549268070656 = true := by decide +kernel
theorem pack9 : packN 0 9 = 89835910461959643127169602112536075895040 := by decide +kernel
theorem talk9 : talks 9 89835910461959643127169602112536075895040 = true := by decide +kernel
theorem pack10 : packN 0 10 = 5909787313521077092150092511853928335160705280 := by decide +kernel
theorem talk10 : talks 10 5909787313521077092150092511853928335160705280 = true := by decide +kernel
theorem pack11 : packN 0 11 = 388765345317333697319272315595043137156813217136896 := by decide +kernel
theorem talk11 : talks 11 388765345317333697319272315595043137156813217136896 = true := by decide +kernel
theorem pack12 : packN 0 12 = 25573908103544837657552235287886379544774865914655998208 := by decide +kernel
theorem talk12 : talks 12 25573908103544837657552235287886379544774865914655998208 = true := by decide +kernel
end Go.Proofs.YtmdciljpcnokcaaGreatDoor.Ex
