/- Part 25 of the texts that lead to repairNearestCard_holds. No condition. -/
import Derived.Test.YtcjckmnhlfbdlaaGreatDoorH23
set_option linter.all false
namespace Go.Proofs
open Go Go.Abs
theorem r31 : run [e29, e13, e14] e31 = true := by kernel_rfl
theorem r37 : run [e5] e37 = true := by kernel_rfl
theorem r39 : run [e37, e13, e14] e39 = true := by kernel_rfl
theorem r45 : run [e5] e45 = true := by kernel_rfl
theorem r47 : run [e45, e13, e14] e47 = true := by kernel_rfl
end Go.Proofs
namespace Go.Proofs
open Go Go.Abs
theorem r141 : run [e135, e139, e13, e14] e141 = true := by kernel_rfl
theorem r142 : run [] e142 = true := by kernel_rfl
theorem r146 : run [e5] e146 = true := by kernel_rfl
theorem r148 : run [e142, e146, e13, e14] e148 = true := by kernel_rfl
theorem r149 : run [] e149 = true := by kernel_rfl
theorem r153 : run [e5] e153 = true := by kernel_rfl
theorem r155 : run [e149, e153, e13, e14] e155 = true := by kernel_rfl
theorem r156 : run [] e156 = true := by kernel_rfl
end Go.Proofs
namespace Go.Proofs
open Go Go.Abs
theorem r273 : run [e271, e181, e14] e273 = true := by kernel_rfl
theorem r278 : run [e5] e278 = true := by kernel_rfl
theorem r280 : run [e278, e181, e14] e280 = true := by kernel_rfl
theorem r286 : run [e5] e286 = true := by kernel_rfl
theorem r288 : run [e286, e181, e14] e288 = true := by kernel_rfl
theorem r294 : run [e5] e294 = true := by kernel_rfl
end Go.Proofs
namespace Go.Proofs
open Go Go.Abs
theorem r490 : run [e0, e15, e23, e31, e39, e47, e55, e56, e63, e64, e70, e71, e77, e78, e84, e85, e91, e92, e98, e99, e106, e107, e113, e114, e120, e121, e127, e128, e134, e135, e141, e142, e148, e149, e155, e156, e162, e163, e172, e184, e185, e14, e181, e187, e196, e198, e206, e214, e222, e233, e234, e240, e249, e257, e265, e273, e280, e288, e296, e304, e312, e320, e328, e336, e340, e348, e356, e364, e489] e490 = true := by kernel_rfl
end Go.Proofs
namespace Go.Proofs
open Go Go.Abs
theorem r882 : run [] e882 = true := by kernel_rfl
theorem r894 : run [] e894 = true := by kernel_rfl
theorem r910 : run [] e910 = true := by kernel_rfl
theorem r923 : run [] e923 = true := by kernel_rfl
theorem r934 : run [] e934 = true := by kernel_rfl
theorem r948 : run [] e948 = true := by kernel_rfl
theorem r959 : run [] e959 = true := by kernel_rfl
end Go.Proofs
namespace Go.Proofs
open Go Go.Abs
theorem r1472 : run [] e1472 = true := by kernel_rfl
theorem r1488 : run [] e1488 = true := by kernel_rfl
theorem r1519 : run [] e1519 = true := by kernel_rfl
theorem r1535 : run [] e1535 = true := by kernel_rfl
end Go.Proofs
namespace Go.Proofs
open Go Go.Abs
theorem r2097 : run [] e2097 = true := by kernel_rfl
theorem r2113 : run [] e2113 = true := by kernel_rfl
theorem r2156 : run [] e2156 = true := by kernel_rfl
end Go.Proofs
namespace Go.Proofs
open Go Go.Abs
theorem r2530 : run [e2461, e2466, e2474, e2484, e2491] e2530 = true := by kernel_rfl
end Go.Proofs
namespace Go.Proofs
open Go Go.Abs
theorem r2844 : run [] e2844 = true := by kernel_rfl
end Go.Proofs
namespace Go.Proofs
open Go Go.Abs
theorem r3038 : run [] e3038 = true := by kernel_rfl
end Go.Proofs
namespace Go.Proofs
open Go Go.Abs
theorem r3200 : run [] e3200 = true := by kernel_rfl
theorem r3201 : run [] e3201 = true := by kernel_rfl
theorem r3202 : run [] e3202 = true := by kernel_rfl
theorem r3203 : run [e3190, e3200, e3201, e3202] e3203 = true := by kernel_rfl
theorem r3204 : run [] e3204 = true := by kernel_rfl
end Go.Proofs
namespace Go.Proofs
open Go Go.Abs
theorem r3335 : run [] e3335 = true := by kernel_rfl
theorem r3336 : run [e3335] e3336 = true := by kernel_rfl
theorem r3337 : run [e3336] e3337 = true := by kernel_rfl
end Go.Proofs
