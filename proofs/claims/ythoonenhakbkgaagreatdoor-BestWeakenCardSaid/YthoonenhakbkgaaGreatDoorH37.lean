/- Part 37 of the texts that lead to bestWeakenCard_holds. No condition. -/
import Derived.Test.YthoonenhakbkgaaGreatDoorH31
set_option linter.unusedSimpArgs false
set_option linter.unusedVariables false
set_option linter.unnecessarySimpa false
namespace Go.Proofs
open Go Go.Abs
theorem r106 : run [e99, e104, e13, e14] e106 = true := by kernel_rfl
theorem r107 : run [] e107 = true := by kernel_rfl
theorem r111 : run [e5] e111 = true := by kernel_rfl
theorem r113 : run [e107, e111, e13, e14] e113 = true := by kernel_rfl
theorem r114 : run [] e114 = true := by kernel_rfl
theorem r118 : run [e5] e118 = true := by kernel_rfl
theorem r120 : run [e114, e118, e13, e14] e120 = true := by kernel_rfl
theorem r121 : run [] e121 = true := by kernel_rfl
end Go.Proofs
namespace Go.Proofs
open Go Go.Abs
theorem r273 : run [e271, e181, e14] e273 = true := by kernel_rfl
theorem r278 : run [e5] e278 = true := by kernel_rfl
theorem r280 : run [e278, e181, e14] e280 = true := by kernel_rfl
theorem r286 : run [e5] e286 = true := by kernel_rfl
theorem r288 : run [e286, e181, e14] e288 = true := by kernel_rfl
theorem r294 : run [e5] e294 = true := by kernel_rfl
end Go.Proofs
namespace Go.Proofs
open Go Go.Abs
theorem r625 : run [e608, e609] e625 = true := by kernel_rfl
theorem r631 : run [e625, e609] e631 = true := by kernel_rfl
theorem r653 : run [] e653 = true := by kernel_rfl
theorem r660 : run [e548, e631, e653] e660 = true := by kernel_rfl
end Go.Proofs
namespace Go.Proofs
open Go Go.Abs
theorem r1354 : run [] e1354 = true := by kernel_rfl
theorem r1382 : run [] e1382 = true := by kernel_rfl
theorem r1398 : run [] e1398 = true := by kernel_rfl
theorem r1425 : run [] e1425 = true := by kernel_rfl
theorem r1441 : run [] e1441 = true := by kernel_rfl
end Go.Proofs
namespace Go.Proofs
open Go Go.Abs
theorem r2185 : run [] e2185 = true := by kernel_rfl
theorem r2201 : run [] e2201 = true := by kernel_rfl
theorem r2244 : run [] e2244 = true := by kernel_rfl
end Go.Proofs
namespace Go.Proofs
open Go Go.Abs
theorem r2631 : run [e2630] e2631 = true := by kernel_rfl
theorem r2637 : run [] e2637 = true := by kernel_rfl
theorem r2638 : run [] e2638 = true := by kernel_rfl
theorem r2647 : run [e2482, e2638] e2647 = true := by kernel_rfl
end Go.Proofs
namespace Go.Proofs
open Go Go.Abs
theorem r3018 : run [] e3018 = true := by kernel_rfl
end Go.Proofs
namespace Go.Proofs
open Go Go.Abs
theorem r3278 : run [] e3278 = true := by kernel_rfl
end Go.Proofs
namespace Go.Proofs
open Go Go.Abs
theorem r3567 : run [] e3567 = true := by kernel_rfl
end Go.Proofs
namespace Go.Proofs
open Go Go.Abs
theorem r3722 : run [e3721] e3722 = true := by kernel_rfl
end Go.Proofs
