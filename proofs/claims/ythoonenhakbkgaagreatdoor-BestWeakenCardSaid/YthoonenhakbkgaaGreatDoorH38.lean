/- Part 38 of the texts that lead to bestWeakenCard_holds. No condition. -/
import Derived.Test.YthoonenhakbkgaaGreatDoorH31
set_option linter.unusedSimpArgs false
set_option linter.unusedVariables false
set_option linter.unnecessarySimpa false
namespace Go.Proofs
open Go Go.Abs
theorem r125 : run [e5] e125 = true := by kernel_rfl
theorem r127 : run [e121, e125, e13, e14] e127 = true := by kernel_rfl
theorem r128 : run [] e128 = true := by kernel_rfl
theorem r132 : run [e5] e132 = true := by kernel_rfl
theorem r134 : run [e128, e132, e13, e14] e134 = true := by kernel_rfl
theorem r135 : run [] e135 = true := by kernel_rfl
theorem r139 : run [e5] e139 = true := by kernel_rfl
end Go.Proofs
namespace Go.Proofs
open Go Go.Abs
theorem r296 : run [e294, e181, e14] e296 = true := by kernel_rfl
theorem r302 : run [e5] e302 = true := by kernel_rfl
theorem r304 : run [e302, e181, e14] e304 = true := by kernel_rfl
theorem r310 : run [e5] e310 = true := by kernel_rfl
theorem r312 : run [e310, e181, e14] e312 = true := by kernel_rfl
theorem r318 : run [e5] e318 = true := by kernel_rfl
end Go.Proofs
namespace Go.Proofs
open Go Go.Abs
theorem r675 : run [] e675 = true := by kernel_rfl
theorem r702 : run [] e702 = true := by kernel_rfl
theorem r718 : run [e702] e718 = true := by kernel_rfl
theorem r724 : run [e718, e702] e724 = true := by kernel_rfl
end Go.Proofs
namespace Go.Proofs
open Go Go.Abs
theorem r1469 : run [] e1469 = true := by kernel_rfl
theorem r1485 : run [] e1485 = true := by kernel_rfl
theorem r1514 : run [] e1514 = true := by kernel_rfl
theorem r1530 : run [] e1530 = true := by kernel_rfl
end Go.Proofs
namespace Go.Proofs
open Go Go.Abs
theorem r2250 : run [] e2250 = true := by kernel_rfl
theorem r2294 : run [] e2294 = true := by kernel_rfl
theorem r2310 : run [] e2310 = true := by kernel_rfl
end Go.Proofs
namespace Go.Proofs
open Go Go.Abs
theorem r2734 : run [] e2734 = true := by kernel_rfl
end Go.Proofs
namespace Go.Proofs
open Go Go.Abs
theorem r3021 : run [] e3021 = true := by kernel_rfl
end Go.Proofs
namespace Go.Proofs
open Go Go.Abs
theorem r3287 : run [e2482, e3269, e3179, e3278, e3275] e3287 = true := by kernel_rfl
theorem r3297 : run [e2482] e3297 = true := by kernel_rfl
theorem r3303 : run [] e3303 = true := by kernel_rfl
theorem r3311 : run [e2487, e2637, e2638, e3075, e3303, e3297, e3287] e3311 = true := by kernel_rfl
end Go.Proofs
namespace Go.Proofs
open Go Go.Abs
theorem r3569 : run [] e3569 = true := by kernel_rfl
theorem r3575 : roomQ [] e3575 1 none = true := by kernel_rfl
theorem rr3575 : roomQ [] e3575 1 (some 1) = true := by kernel_rfl
theorem r3577 : run [e3575] e3577 = true := by kernel_rfl
end Go.Proofs
namespace Go.Proofs
open Go Go.Abs
theorem r3723 : run [e3722] e3723 = true := by kernel_rfl
theorem r3725 : run [e2487, e3723, e3704, e3663, e3652, e3512] e3725 = true := by kernel_rfl
end Go.Proofs
