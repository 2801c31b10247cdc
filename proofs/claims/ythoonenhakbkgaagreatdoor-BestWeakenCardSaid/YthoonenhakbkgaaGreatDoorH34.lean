/- Part 34 of the texts that lead to bestWeakenCard_holds. No condition. -/
import Derived.Test.YthoonenhakbkgaaGreatDoorH31
set_option linter.unusedSimpArgs false
set_option linter.unusedVariables false
set_option linter.unnecessarySimpa false
namespace Go.Proofs
open Go Go.Abs
theorem r53 : run [e5] e53 = true := by kernel_rfl
theorem r55 : run [e53, e13, e14] e55 = true := by kernel_rfl
theorem r56 : run [] e56 = true := by kernel_rfl
theorem r61 : run [e5] e61 = true := by kernel_rfl
theorem r63 : run [e56, e61, e13, e14] e63 = true := by kernel_rfl
theorem r64 : run [] e64 = true := by kernel_rfl
theorem r68 : run [e5] e68 = true := by kernel_rfl
end Go.Proofs
namespace Go.Proofs
open Go Go.Abs
theorem r204 : run [e5] e204 = true := by kernel_rfl
theorem r206 : run [e204, e181, e14] e206 = true := by kernel_rfl
theorem r212 : run [e5] e212 = true := by kernel_rfl
theorem r214 : run [e212, e181, e14] e214 = true := by kernel_rfl
theorem r220 : run [e5] e220 = true := by kernel_rfl
theorem r222 : run [e220, e181, e14] e222 = true := by kernel_rfl
end Go.Proofs
namespace Go.Proofs
open Go Go.Abs
theorem r442 : run [e384] e442 = true := by kernel_rfl
end Go.Proofs
namespace Go.Proofs
open Go Go.Abs
theorem r1062 : run [] e1062 = true := by kernel_rfl
theorem r1073 : run [] e1073 = true := by kernel_rfl
theorem r1089 : run [] e1089 = true := by kernel_rfl
theorem r1100 : run [] e1100 = true := by kernel_rfl
theorem r1117 : run [] e1117 = true := by kernel_rfl
theorem r1128 : run [] e1128 = true := by kernel_rfl
end Go.Proofs
namespace Go.Proofs
open Go Go.Abs
theorem r1852 : run [] e1852 = true := by kernel_rfl
theorem r1868 : run [] e1868 = true := by kernel_rfl
theorem r1905 : run [] e1905 = true := by kernel_rfl
theorem r1921 : run [] e1921 = true := by kernel_rfl
end Go.Proofs
namespace Go.Proofs
open Go Go.Abs
theorem r2487 : run [e2482] e2487 = true := by kernel_rfl
theorem r2500 : run [] e2500 = true := by kernel_rfl
theorem r2502 : run [e653, e2500] e2502 = true := by kernel_rfl
theorem r2511 : run [e2502] e2511 = true := by kernel_rfl
theorem r2526 : run [] e2526 = true := by kernel_rfl
theorem r2534 : run [] e2534 = true := by kernel_rfl
theorem r2544 : run [] e2544 = true := by kernel_rfl
theorem r2551 : run [] e2551 = true := by kernel_rfl
theorem r2556 : run [] e2556 = true := by kernel_rfl
theorem r2559 : run [] e2559 = true := by kernel_rfl
theorem r2563 : run [] e2563 = true := by kernel_rfl
theorem r2566 : run [] e2566 = true := by kernel_rfl
theorem r2580 : run [] e2580 = true := by kernel_rfl
theorem r2583 : run [] e2583 = true := by kernel_rfl
theorem r2587 : run [] e2587 = true := by kernel_rfl
theorem r2590 : run [] e2590 = true := by kernel_rfl
end Go.Proofs
namespace Go.Proofs
open Go Go.Abs
theorem r3011 : run [] e3011 = true := by kernel_rfl
end Go.Proofs
namespace Go.Proofs
open Go Go.Abs
theorem r3179 : run [] e3179 = true := by kernel_rfl
end Go.Proofs
namespace Go.Proofs
open Go Go.Abs
theorem r3467 : run [e3433, e3440, e3455] e3467 = true := by kernel_rfl
end Go.Proofs
namespace Go.Proofs
open Go Go.Abs
theorem r3643 : run [] e3643 = true := by kernel_rfl
theorem r3645 : run [e732, e3643] e3645 = true := by kernel_rfl
theorem r3652 : run [e3645] e3652 = true := by kernel_rfl
theorem r3663 : run [] e3663 = true := by kernel_rfl
end Go.Proofs
