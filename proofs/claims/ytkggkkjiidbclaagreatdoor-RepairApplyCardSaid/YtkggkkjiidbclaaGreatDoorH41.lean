/- Part 41 of the texts that lead to repairApplyCard_holds. No condition. -/
import Derived.Test.YtkggkkjiidbclaaGreatDoorH34
set_option linter.unusedSimpArgs false
set_option linter.unusedVariables false
set_option linter.unnecessarySimpa false
namespace Go.Proofs
open Go Go.Abs
theorem r125 : run [e5] e125 = true := by kernel_rfl
theorem r127 : run [e121, e125, e13, e14] e127 = true := by kernel_rfl
theorem r128 : run [] e128 = true := by kernel_rfl
theorem r132 : run [e5] e132 = true := by kernel_rfl
theorem r134 : run [e128, e132, e13, e14] e134 = true := by kernel_rfl
theorem r135 : run [] e135 = true := by kernel_rfl
theorem r139 : run [e5] e139 = true := by kernel_rfl
end Go.Proofs
namespace Go.Proofs
open Go Go.Abs
theorem r296 : run [e294, e181, e14] e296 = true := by kernel_rfl
theorem r302 : run [e5] e302 = true := by kernel_rfl
theorem r304 : run [e302, e181, e14] e304 = true := by kernel_rfl
theorem r310 : run [e5] e310 = true := by kernel_rfl
theorem r312 : run [e310, e181, e14] e312 = true := by kernel_rfl
theorem r318 : run [e5] e318 = true := by kernel_rfl
end Go.Proofs
namespace Go.Proofs
open Go Go.Abs
theorem r611 : run [] e611 = true := by kernel_rfl
theorem r630 : run [] e630 = true := by kernel_rfl
end Go.Proofs
namespace Go.Proofs
open Go Go.Abs
theorem r1381 : run [] e1381 = true := by kernel_rfl
theorem r1397 : run [] e1397 = true := by kernel_rfl
theorem r1426 : run [] e1426 = true := by kernel_rfl
theorem r1442 : run [] e1442 = true := by kernel_rfl
end Go.Proofs
namespace Go.Proofs
open Go Go.Abs
theorem r2162 : run [] e2162 = true := by kernel_rfl
theorem r2206 : run [] e2206 = true := by kernel_rfl
theorem r2222 : run [] e2222 = true := by kernel_rfl
end Go.Proofs
namespace Go.Proofs
open Go Go.Abs
theorem r2565 : run [e2564] e2565 = true := by kernel_rfl
theorem r2568 : run [] e2568 = true := by kernel_rfl
theorem r2578 : run [] e2578 = true := by kernel_rfl
end Go.Proofs
namespace Go.Proofs
open Go Go.Abs
theorem r3035 : run [] e3035 = true := by kernel_rfl
end Go.Proofs
namespace Go.Proofs
open Go Go.Abs
theorem r3205 : run [] e3205 = true := by kernel_rfl
theorem r3206 : run [] e3206 = true := by kernel_rfl
theorem r3207 : run [e3190, e3204, e3205, e3206] e3207 = true := by kernel_rfl
end Go.Proofs
namespace Go.Proofs
open Go Go.Abs
theorem r3353 : run [] e3353 = true := by kernel_rfl
theorem r3354 : run [] e3354 = true := by kernel_rfl
theorem r3355 : run [e3342, e3352, e3353, e3354] e3355 = true := by kernel_rfl
theorem r3359 : run [e3342, e3343, e3347, e3351, e3355, e3344, e3348, e3352] e3359 = true := by kernel_rfl
theorem r3364 : run [e490, e592, e639, e635, e611, e3255, e3359, e2399, e3338, e3153] e3364 = true := by kernel_rfl
end Go.Proofs
