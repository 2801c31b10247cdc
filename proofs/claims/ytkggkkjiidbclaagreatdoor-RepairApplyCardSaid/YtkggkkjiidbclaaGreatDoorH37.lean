/- Part 37 of the texts that lead to repairApplyCard_holds. No condition. -/
import Derived.Test.YtkggkkjiidbclaaGreatDoorH34
set_option linter.unusedSimpArgs false
set_option linter.unusedVariables false
set_option linter.unnecessarySimpa false
namespace Go.Proofs
open Go Go.Abs
theorem r53 : run [e5] e53 = true := by kernel_rfl
theorem r55 : run [e53, e13, e14] e55 = true := by kernel_rfl
theorem r56 : run [] e56 = true := by kernel_rfl
theorem r61 : run [e5] e61 = true := by kernel_rfl
theorem r63 : run [e56, e61, e13, e14] e63 = true := by kernel_rfl
theorem r64 : run [] e64 = true := by kernel_rfl
theorem r68 : run [e5] e68 = true := by kernel_rfl
end Go.Proofs
namespace Go.Proofs
open Go Go.Abs
theorem r204 : run [e5] e204 = true := by kernel_rfl
theorem r206 : run [e204, e181, e14] e206 = true := by kernel_rfl
theorem r212 : run [e5] e212 = true := by kernel_rfl
theorem r214 : run [e212, e181, e14] e214 = true := by kernel_rfl
theorem r220 : run [e5] e220 = true := by kernel_rfl
theorem r222 : run [e220, e181, e14] e222 = true := by kernel_rfl
end Go.Proofs
namespace Go.Proofs
open Go Go.Abs
theorem r442 : run [e384] e442 = true := by kernel_rfl
end Go.Proofs
namespace Go.Proofs
open Go Go.Abs
theorem r974 : run [] e974 = true := by kernel_rfl
theorem r985 : run [] e985 = true := by kernel_rfl
theorem r1001 : run [] e1001 = true := by kernel_rfl
theorem r1012 : run [] e1012 = true := by kernel_rfl
theorem r1029 : run [] e1029 = true := by kernel_rfl
theorem r1040 : run [] e1040 = true := by kernel_rfl
end Go.Proofs
namespace Go.Proofs
open Go Go.Abs
theorem r1764 : run [] e1764 = true := by kernel_rfl
theorem r1780 : run [] e1780 = true := by kernel_rfl
theorem r1817 : run [] e1817 = true := by kernel_rfl
theorem r1833 : run [] e1833 = true := by kernel_rfl
end Go.Proofs
namespace Go.Proofs
open Go Go.Abs
theorem r2399 : run [e2394] e2399 = true := by kernel_rfl
theorem r2414 : run [] e2414 = true := by kernel_rfl
theorem r2430 : run [] e2430 = true := by kernel_rfl
theorem r2432 : run [e2414, e2430] e2432 = true := by kernel_rfl
theorem r2439 : run [e2432] e2439 = true := by kernel_rfl
theorem r2450 : run [] e2450 = true := by kernel_rfl
theorem r2461 : run [] e2461 = true := by kernel_rfl
theorem r2466 : run [] e2466 = true := by kernel_rfl
theorem r2474 : run [] e2474 = true := by kernel_rfl
theorem r2484 : run [] e2484 = true := by kernel_rfl
theorem r2491 : run [] e2491 = true := by kernel_rfl
end Go.Proofs
namespace Go.Proofs
open Go Go.Abs
theorem r2936 : run [] e2936 = true := by kernel_rfl
end Go.Proofs
namespace Go.Proofs
open Go Go.Abs
theorem r3180 : run [] e3180 = true := by kernel_rfl
theorem r3183 : run [e3165] e3183 = true := by kernel_rfl
theorem r3190 : run [] e3190 = true := by kernel_rfl
theorem r3191 : run [] e3191 = true := by kernel_rfl
end Go.Proofs
namespace Go.Proofs
open Go Go.Abs
theorem r3317 : run [e2466, e2461, e2474, e2484, e2491] e3317 = true := by kernel_rfl
end Go.Proofs
