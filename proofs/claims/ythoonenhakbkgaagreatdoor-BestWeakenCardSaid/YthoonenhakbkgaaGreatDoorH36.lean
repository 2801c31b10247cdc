/- Part 36 of the texts that lead to bestWeakenCard_holds. No condition. -/
import Derived.Test.YthoonenhakbkgaaGreatDoorH31
set_option linter.unusedSimpArgs false
set_option linter.unusedVariables false
set_option linter.unnecessarySimpa false
namespace Go.Proofs
open Go Go.Abs
theorem r89 : run [e5] e89 = true := by kernel_rfl
theorem r91 : run [e85, e89, e13, e14] e91 = true := by kernel_rfl
theorem r92 : run [] e92 = true := by kernel_rfl
theorem r96 : run [e5] e96 = true := by kernel_rfl
theorem r98 : run [e92, e96, e13, e14] e98 = true := by kernel_rfl
theorem r99 : run [] e99 = true := by kernel_rfl
theorem r104 : run [e5] e104 = true := by kernel_rfl
end Go.Proofs
namespace Go.Proofs
open Go Go.Abs
theorem r249 : run [e247, e181, e14] e249 = true := by kernel_rfl
theorem r255 : run [e5] e255 = true := by kernel_rfl
theorem r257 : run [e255, e181, e14] e257 = true := by kernel_rfl
theorem r263 : run [e5] e263 = true := by kernel_rfl
theorem r265 : run [e263, e181, e14] e265 = true := by kernel_rfl
theorem r271 : run [e5] e271 = true := by kernel_rfl
end Go.Proofs
namespace Go.Proofs
open Go Go.Abs
theorem r548 : run [] e548 = true := by kernel_rfl
theorem r588 : run [] e588 = true := by kernel_rfl
theorem r604 : run [e588] e604 = true := by kernel_rfl
theorem r608 : run [e604, e588] e608 = true := by kernel_rfl
theorem r609 : run [] e609 = true := by kernel_rfl
end Go.Proofs
namespace Go.Proofs
open Go Go.Abs
theorem r1239 : run [] e1239 = true := by kernel_rfl
theorem r1250 : run [] e1250 = true := by kernel_rfl
theorem r1272 : run [] e1272 = true := by kernel_rfl
theorem r1299 : run [] e1299 = true := by kernel_rfl
theorem r1325 : run [] e1325 = true := by kernel_rfl
end Go.Proofs
namespace Go.Proofs
open Go Go.Abs
theorem r2070 : run [] e2070 = true := by kernel_rfl
theorem r2086 : run [] e2086 = true := by kernel_rfl
theorem r2127 : run [] e2127 = true := by kernel_rfl
theorem r2143 : run [] e2143 = true := by kernel_rfl
end Go.Proofs
namespace Go.Proofs
open Go Go.Abs
theorem r2629 : run [] e2629 = true := by kernel_rfl
theorem r2630 : run [e2629] e2630 = true := by kernel_rfl
end Go.Proofs
namespace Go.Proofs
open Go Go.Abs
theorem r3017 : run [e2734, e2913, e3003, e2824, e3011, e3015] e3017 = true := by kernel_rfl
end Go.Proofs
namespace Go.Proofs
open Go Go.Abs
theorem r3275 : run [] e3275 = true := by kernel_rfl
end Go.Proofs
namespace Go.Proofs
open Go Go.Abs
theorem r3511 : run [e3467, e3347, e3394, e3508] e3511 = true := by kernel_rfl
theorem r3512 : run [e3311, e3373, e3399, e3426, e3511] e3512 = true := by kernel_rfl
theorem r3513 : run [e2487, e2631, e2612, e2526, e2511, e3512] e3513 = true := by kernel_rfl
end Go.Proofs
namespace Go.Proofs
open Go Go.Abs
theorem r3721 : run [] e3721 = true := by kernel_rfl
end Go.Proofs
