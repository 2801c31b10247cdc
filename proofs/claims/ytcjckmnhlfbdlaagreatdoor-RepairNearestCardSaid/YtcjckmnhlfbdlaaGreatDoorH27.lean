/- Part 27 of the texts that lead to repairNearestCard_holds. No condition. -/
import Derived.Test.YtcjckmnhlfbdlaaGreatDoorH23
set_option linter.all false
namespace Go.Proofs
open Go Go.Abs
theorem r70 : run [e64, e68, e13, e14] e70 = true := by kernel_rfl
theorem r71 : run [] e71 = true := by kernel_rfl
theorem r75 : run [e5] e75 = true := by kernel_rfl
theorem r77 : run [e71, e75, e13, e14] e77 = true := by kernel_rfl
theorem r78 : run [] e78 = true := by kernel_rfl
theorem r82 : run [e5] e82 = true := by kernel_rfl
theorem r84 : run [e78, e82, e13, e14] e84 = true := by kernel_rfl
theorem r85 : run [] e85 = true := by kernel_rfl
end Go.Proofs
namespace Go.Proofs
open Go Go.Abs
theorem r184 : run [e177, e181, e14] e184 = true := by kernel_rfl
theorem r185 : run [] e185 = true := by kernel_rfl
theorem r187 : run [e177] e187 = true := by kernel_rfl
theorem r194 : run [e5] e194 = true := by kernel_rfl
theorem r196 : run [e194, e181, e14] e196 = true := by kernel_rfl
theorem r198 : run [e194, e181, e14] e198 = true := by kernel_rfl
end Go.Proofs
namespace Go.Proofs
open Go Go.Abs
theorem r320 : run [e318, e181, e14] e320 = true := by kernel_rfl
theorem r326 : run [e5] e326 = true := by kernel_rfl
theorem r328 : run [e326, e181, e14] e328 = true := by kernel_rfl
theorem r334 : run [e5] e334 = true := by kernel_rfl
theorem r336 : run [e334, e181, e14] e336 = true := by kernel_rfl
theorem r340 : run [e239, e181, e14] e340 = true := by kernel_rfl
end Go.Proofs
namespace Go.Proofs
open Go Go.Abs
theorem r578 : run [e573] e578 = true := by kernel_rfl
theorem r586 : run [] e586 = true := by kernel_rfl
theorem r592 : run [e552, e578, e586] e592 = true := by kernel_rfl
end Go.Proofs
namespace Go.Proofs
open Go Go.Abs
theorem r1058 : run [] e1058 = true := by kernel_rfl
theorem r1069 : run [] e1069 = true := by kernel_rfl
theorem r1088 : run [] e1088 = true := by kernel_rfl
theorem r1099 : run [] e1099 = true := by kernel_rfl
theorem r1119 : run [] e1119 = true := by kernel_rfl
theorem r1130 : run [] e1130 = true := by kernel_rfl
end Go.Proofs
namespace Go.Proofs
open Go Go.Abs
theorem r1666 : run [] e1666 = true := by kernel_rfl
theorem r1682 : run [] e1682 = true := by kernel_rfl
theorem r1717 : run [] e1717 = true := by kernel_rfl
theorem r1728 : run [] e1728 = true := by kernel_rfl
end Go.Proofs
namespace Go.Proofs
open Go Go.Abs
theorem r2267 : run [] e2267 = true := by kernel_rfl
theorem r2283 : run [] e2283 = true := by kernel_rfl
theorem r2329 : run [] e2329 = true := by kernel_rfl
end Go.Proofs
namespace Go.Proofs
open Go Go.Abs
theorem r2564 : run [e2563] e2564 = true := by kernel_rfl
end Go.Proofs
namespace Go.Proofs
open Go Go.Abs
theorem r3023 : run [] e3023 = true := by kernel_rfl
end Go.Proofs
namespace Go.Proofs
open Go Go.Abs
theorem r3125 : run [e3111] e3125 = true := by kernel_rfl
theorem r3132 : run [] e3132 = true := by kernel_rfl
theorem r3141 : run [e3132] e3141 = true := by kernel_rfl
theorem r3152 : run [e3141, e3132] e3152 = true := by kernel_rfl
theorem r3153 : run [e3086, e3125, e3152] e3153 = true := by kernel_rfl
theorem r3165 : run [e3132] e3165 = true := by kernel_rfl
end Go.Proofs
namespace Go.Proofs
open Go Go.Abs
theorem r3212 : run [e3190, e3191, e3195, e3199, e3203, e3207, e3192, e3196, e3200, e3204] e3212 = true := by kernel_rfl
end Go.Proofs
namespace Go.Proofs
open Go Go.Abs
theorem r3346 : run [] e3346 = true := by kernel_rfl
theorem r3347 : run [e3342, e3344, e3345, e3346] e3347 = true := by kernel_rfl
theorem r3348 : run [] e3348 = true := by kernel_rfl
theorem r3349 : run [] e3349 = true := by kernel_rfl
theorem r3350 : run [] e3350 = true := by kernel_rfl
theorem r3351 : run [e3342, e3348, e3349, e3350] e3351 = true := by kernel_rfl
theorem r3352 : run [] e3352 = true := by kernel_rfl
end Go.Proofs
