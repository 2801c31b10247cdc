/- Part 38 of the texts that lead to repairApplyCard_holds. No condition. -/
import Derived.Test.YtkggkkjiidbclaaGreatDoorH34
set_option linter.unusedSimpArgs false
set_option linter.unusedVariables false
set_option linter.unnecessarySimpa false
namespace Go.Proofs
open Go Go.Abs
theorem r70 : run [e64, e68, e13, e14] e70 = true := by kernel_rfl
theorem r71 : run [] e71 = true := by kernel_rfl
theorem r75 : run [e5] e75 = true := by kernel_rfl
theorem r77 : run [e71, e75, e13, e14] e77 = true := by kernel_rfl
theorem r78 : run [] e78 = true := by kernel_rfl
theorem r82 : run [e5] e82 = true := by kernel_rfl
theorem r84 : run [e78, e82, e13, e14] e84 = true := by kernel_rfl
theorem r85 : run [] e85 = true := by kernel_rfl
end Go.Proofs
namespace Go.Proofs
open Go Go.Abs
theorem r228 : run [e5] e228 = true := by kernel_rfl
theorem r233 : run [e228, e14] e233 = true := by kernel_rfl
theorem r234 : run [] e234 = true := by kernel_rfl
theorem r239 : run [e5] e239 = true := by kernel_rfl
theorem r240 : run [e239, e194] e240 = true := by kernel_rfl
theorem r247 : run [e5] e247 = true := by kernel_rfl
end Go.Proofs
namespace Go.Proofs
open Go Go.Abs
theorem r490 : run [e0, e15, e23, e31, e39, e47, e55, e56, e63, e64, e70, e71, e77, e78, e84, e85, e91, e92, e98, e99, e106, e107, e113, e114, e120, e121, e127, e128, e134, e135, e141, e142, e148, e149, e155, e156, e162, e163, e172, e184, e185, e14, e181, e187, e196, e198, e206, e214, e222, e233, e234, e240, e249, e257, e265, e273, e280, e288, e296, e304, e312, e320, e328, e336, e340, e348, e356, e364, e489] e490 = true := by kernel_rfl
end Go.Proofs
namespace Go.Proofs
open Go Go.Abs
theorem r1058 : run [] e1058 = true := by kernel_rfl
theorem r1069 : run [] e1069 = true := by kernel_rfl
theorem r1088 : run [] e1088 = true := by kernel_rfl
theorem r1099 : run [] e1099 = true := by kernel_rfl
theorem r1119 : run [] e1119 = true := by kernel_rfl
theorem r1130 : run [] e1130 = true := by kernel_rfl
end Go.Proofs
namespace Go.Proofs
open Go Go.Abs
theorem r1871 : run [] e1871 = true := by kernel_rfl
theorem r1887 : run [] e1887 = true := by kernel_rfl
theorem r1926 : run [] e1926 = true := by kernel_rfl
theorem r1942 : run [] e1942 = true := by kernel_rfl
end Go.Proofs
namespace Go.Proofs
open Go Go.Abs
theorem r2530 : run [e2461, e2466, e2474, e2484, e2491] e2530 = true := by kernel_rfl
end Go.Proofs
namespace Go.Proofs
open Go Go.Abs
theorem r3023 : run [] e3023 = true := by kernel_rfl
end Go.Proofs
namespace Go.Proofs
open Go Go.Abs
theorem r3192 : run [] e3192 = true := by kernel_rfl
theorem r3193 : run [] e3193 = true := by kernel_rfl
theorem r3194 : run [] e3194 = true := by kernel_rfl
theorem r3195 : run [e3190, e3192, e3193, e3194] e3195 = true := by kernel_rfl
end Go.Proofs
namespace Go.Proofs
open Go Go.Abs
theorem r3335 : run [] e3335 = true := by kernel_rfl
theorem r3336 : run [e3335] e3336 = true := by kernel_rfl
theorem r3337 : run [e3336] e3337 = true := by kernel_rfl
end Go.Proofs
