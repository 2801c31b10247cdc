/- Part 39 of the texts that lead to bestWeakenCard_holds. No condition. -/
import Derived.Test.YthoonenhakbkgaaGreatDoorH31
set_option linter.unusedSimpArgs false
set_option linter.unusedVariables false
set_option linter.unnecessarySimpa false
namespace Go.Proofs
open Go Go.Abs
theorem r141 : run [e135, e139, e13, e14] e141 = true := by kernel_rfl
theorem r142 : run [] e142 = true := by kernel_rfl
theorem r146 : run [e5] e146 = true := by kernel_rfl
theorem r148 : run [e142, e146, e13, e14] e148 = true := by kernel_rfl
theorem r149 : run [] e149 = true := by kernel_rfl
theorem r153 : run [e5] e153 = true := by kernel_rfl
theorem r155 : run [e149, e153, e13, e14] e155 = true := by kernel_rfl
theorem r156 : run [] e156 = true := by kernel_rfl
end Go.Proofs
namespace Go.Proofs
open Go Go.Abs
theorem r320 : run [e318, e181, e14] e320 = true := by kernel_rfl
theorem r326 : run [e5] e326 = true := by kernel_rfl
theorem r328 : run [e326, e181, e14] e328 = true := by kernel_rfl
theorem r334 : run [e5] e334 = true := by kernel_rfl
theorem r336 : run [e334, e181, e14] e336 = true := by kernel_rfl
theorem r340 : run [e239, e181, e14] e340 = true := by kernel_rfl
end Go.Proofs
namespace Go.Proofs
open Go Go.Abs
theorem r732 : run [] e732 = true := by kernel_rfl
theorem r736 : run [e675, e724, e732] e736 = true := by kernel_rfl
theorem r753 : run [] e753 = true := by kernel_rfl
theorem r770 : run [] e770 = true := by kernel_rfl
theorem r780 : run [] e780 = true := by kernel_rfl
theorem r807 : run [] e807 = true := by kernel_rfl
theorem r819 : run [] e819 = true := by kernel_rfl
theorem r848 : run [] e848 = true := by kernel_rfl
end Go.Proofs
namespace Go.Proofs
open Go Go.Abs
theorem r1560 : run [] e1560 = true := by kernel_rfl
theorem r1576 : run [] e1576 = true := by kernel_rfl
theorem r1607 : run [] e1607 = true := by kernel_rfl
theorem r1623 : run [] e1623 = true := by kernel_rfl
end Go.Proofs
namespace Go.Proofs
open Go Go.Abs
theorem r2355 : run [] e2355 = true := by kernel_rfl
theorem r2371 : run [] e2371 = true := by kernel_rfl
theorem r2417 : run [] e2417 = true := by kernel_rfl
end Go.Proofs
namespace Go.Proofs
open Go Go.Abs
theorem r2824 : run [] e2824 = true := by kernel_rfl
end Go.Proofs
namespace Go.Proofs
open Go Go.Abs
theorem r3024 : run [] e3024 = true := by kernel_rfl
end Go.Proofs
namespace Go.Proofs
open Go Go.Abs
theorem r3320 : run [e2029] e3320 = true := by kernel_rfl
theorem r3335 : run [e3320, e2638] e3335 = true := by kernel_rfl
theorem r3347 : run [] e3347 = true := by kernel_rfl
theorem r3365 : run [e2029] e3365 = true := by kernel_rfl
theorem r3368 : run [e3365] e3368 = true := by kernel_rfl
end Go.Proofs
namespace Go.Proofs
open Go Go.Abs
theorem r3608 : run [e3433, e3440] e3608 = true := by kernel_rfl
theorem r3615 : run [] e3615 = true := by kernel_rfl
end Go.Proofs
namespace Go.Proofs
open Go Go.Abs
theorem r3779 : run [] e3779 = true := by kernel_rfl
end Go.Proofs
