/- Part 35 of the texts that lead to bestWeakenCard_holds. No condition. -/
import Derived.Test.YthoonenhakbkgaaGreatDoorH31
set_option linter.unusedSimpArgs false
set_option linter.unusedVariables false
set_option linter.unnecessarySimpa false
namespace Go.Proofs
open Go Go.Abs
theorem r70 : run [e64, e68, e13, e14] e70 = true := by kernel_rfl
theorem r71 : run [] e71 = true := by kernel_rfl
theorem r75 : run [e5] e75 = true := by kernel_rfl
theorem r77 : run [e71, e75, e13, e14] e77 = true := by kernel_rfl
theorem r78 : run [] e78 = true := by kernel_rfl
theorem r82 : run [e5] e82 = true := by kernel_rfl
theorem r84 : run [e78, e82, e13, e14] e84 = true := by kernel_rfl
theorem r85 : run [] e85 = true := by kernel_rfl
end Go.Proofs
namespace Go.Proofs
open Go Go.Abs
theorem r228 : run [e5] e228 = true := by kernel_rfl
theorem r233 : run [e228, e14] e233 = true := by kernel_rfl
theorem r234 : run [] e234 = true := by kernel_rfl
theorem r239 : run [e5] e239 = true := by kernel_rfl
theorem r240 : run [e239, e194] e240 = true := by kernel_rfl
theorem r247 : run [e5] e247 = true := by kernel_rfl
end Go.Proofs
namespace Go.Proofs
open Go Go.Abs
theorem r490 : run [e0, e15, e23, e31, e39, e47, e55, e56, e63, e64, e70, e71, e77, e78, e84, e85, e91, e92, e98, e99, e106, e107, e113, e114, e120, e121, e127, e128, e134, e135, e141, e142, e148, e149, e155, e156, e162, e163, e172, e184, e185, e14, e181, e187, e196, e198, e206, e214, e222, e233, e234, e240, e249, e257, e265, e273, e280, e288, e296, e304, e312, e320, e328, e336, e340, e348, e356, e364, e489] e490 = true := by kernel_rfl
end Go.Proofs
namespace Go.Proofs
open Go Go.Abs
theorem r1146 : run [] e1146 = true := by kernel_rfl
theorem r1157 : run [] e1157 = true := by kernel_rfl
theorem r1176 : run [] e1176 = true := by kernel_rfl
theorem r1187 : run [] e1187 = true := by kernel_rfl
theorem r1207 : run [] e1207 = true := by kernel_rfl
theorem r1218 : run [] e1218 = true := by kernel_rfl
end Go.Proofs
namespace Go.Proofs
open Go Go.Abs
theorem r1959 : run [] e1959 = true := by kernel_rfl
theorem r1975 : run [] e1975 = true := by kernel_rfl
theorem r2014 : run [] e2014 = true := by kernel_rfl
theorem r2029 : run [] e2029 = true := by kernel_rfl
end Go.Proofs
namespace Go.Proofs
open Go Go.Abs
theorem r2612 : run [e2534, e2544, e2551, e2556, e2559, e2563, e2566, e2580, e2583, e2587, e2590] e2612 = true := by kernel_rfl
end Go.Proofs
namespace Go.Proofs
open Go Go.Abs
theorem r3015 : run [] e3015 = true := by kernel_rfl
end Go.Proofs
namespace Go.Proofs
open Go Go.Abs
theorem r3269 : run [] e3269 = true := by kernel_rfl
end Go.Proofs
namespace Go.Proofs
open Go Go.Abs
theorem r3508 : run [e3433, e3440] e3508 = true := by kernel_rfl
end Go.Proofs
namespace Go.Proofs
open Go Go.Abs
theorem r3704 : run [e2534, e2544, e2551, e2556, e2559, e2563, e2566, e2580, e2583, e2587, e2590] e3704 = true := by kernel_rfl
end Go.Proofs
