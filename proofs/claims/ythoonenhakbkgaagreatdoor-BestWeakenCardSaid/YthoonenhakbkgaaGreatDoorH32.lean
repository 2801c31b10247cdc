/- Part 32 of the texts that lead to bestWeakenCard_holds. No condition. -/
import Derived.Test.YthoonenhakbkgaaGreatDoorH31
set_option linter.unusedSimpArgs false
set_option linter.unusedVariables false
set_option linter.unnecessarySimpa false
namespace Go.Proofs
open Go Go.Abs
theorem r5 : run [] e5 = true := by kernel_rfl
theorem r9 : run [e5] e9 = true := by kernel_rfl
theorem r13 : run [] e13 = true := by kernel_rfl
theorem r14 : run [] e14 = true := by kernel_rfl
theorem r15 : run [e9, e13, e14] e15 = true := by kernel_rfl
theorem r21 : run [e5] e21 = true := by kernel_rfl
theorem r23 : run [e21, e13, e14] e23 = true := by kernel_rfl
theorem r29 : run [e5] e29 = true := by kernel_rfl
end Go.Proofs
namespace Go.Proofs
open Go Go.Abs
theorem r160 : run [e5] e160 = true := by kernel_rfl
theorem r162 : run [e156, e160, e13, e14] e162 = true := by kernel_rfl
theorem r163 : run [] e163 = true := by kernel_rfl
theorem r167 : run [e5] e167 = true := by kernel_rfl
theorem r172 : run [e163, e167, e14] e172 = true := by kernel_rfl
theorem r177 : run [e5] e177 = true := by kernel_rfl
theorem r181 : run [] e181 = true := by kernel_rfl
end Go.Proofs
namespace Go.Proofs
open Go Go.Abs
theorem r346 : run [e5] e346 = true := by kernel_rfl
theorem r348 : run [e346, e181, e14] e348 = true := by kernel_rfl
theorem r354 : run [e5] e354 = true := by kernel_rfl
theorem r356 : run [e354, e181, e14] e356 = true := by kernel_rfl
theorem r362 : run [e5] e362 = true := by kernel_rfl
theorem r364 : run [e362, e181, e14] e364 = true := by kernel_rfl
theorem r372 : run [] e372 = true := by kernel_rfl
end Go.Proofs
namespace Go.Proofs
open Go Go.Abs
theorem r870 : run [] e870 = true := by kernel_rfl
theorem r888 : run [] e888 = true := by kernel_rfl
theorem r907 : run [] e907 = true := by kernel_rfl
theorem r927 : run [] e927 = true := by kernel_rfl
theorem r948 : run [] e948 = true := by kernel_rfl
theorem r959 : run [] e959 = true := by kernel_rfl
end Go.Proofs
namespace Go.Proofs
open Go Go.Abs
theorem r1655 : run [] e1655 = true := by kernel_rfl
theorem r1671 : run [] e1671 = true := by kernel_rfl
theorem r1704 : run [] e1704 = true := by kernel_rfl
theorem r1720 : run [] e1720 = true := by kernel_rfl
end Go.Proofs
namespace Go.Proofs
open Go Go.Abs
theorem r2433 : run [] e2433 = true := by kernel_rfl
theorem r2480 : run [] e2480 = true := by kernel_rfl
end Go.Proofs
namespace Go.Proofs
open Go Go.Abs
theorem r2913 : run [] e2913 = true := by kernel_rfl
end Go.Proofs
namespace Go.Proofs
open Go Go.Abs
theorem r3027 : run [] e3027 = true := by kernel_rfl
end Go.Proofs
namespace Go.Proofs
open Go Go.Abs
theorem r3373 : run [e3335, e3320, e3347, e3368] e3373 = true := by kernel_rfl
theorem r3380 : run [e2029] e3380 = true := by kernel_rfl
theorem r3390 : run [e3380] e3390 = true := by kernel_rfl
theorem r3394 : run [] e3394 = true := by kernel_rfl
theorem r3399 : run [e3390, e3394] e3399 = true := by kernel_rfl
end Go.Proofs
namespace Go.Proofs
open Go Go.Abs
theorem r3618 : run [e3608, e3615] e3618 = true := by kernel_rfl
theorem r3621 : run [e3608, e3615] e3621 = true := by kernel_rfl
theorem r3626 : run [e3433, e3440] e3626 = true := by kernel_rfl
theorem r3627 : run [e3513, e3567, e3569, e3577, e3618, e3621, e3626] e3627 = true := by kernel_rfl
end Go.Proofs
namespace Go.Proofs
open Go Go.Abs
theorem r3808 : run [] e3808 = true := by kernel_rfl
theorem r3813 : run [e3808] e3813 = true := by kernel_rfl
end Go.Proofs
