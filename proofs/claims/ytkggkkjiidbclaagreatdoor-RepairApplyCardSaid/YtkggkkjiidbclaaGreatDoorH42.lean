/- Part 42 of the texts that lead to repairApplyCard_holds. No condition. -/
import Derived.Test.YtkggkkjiidbclaaGreatDoorH34
set_option linter.unusedSimpArgs false
set_option linter.unusedVariables false
set_option linter.unnecessarySimpa false
namespace Go.Proofs
open Go Go.Abs
theorem r141 : run [e135, e139, e13, e14] e141 = true := by kernel_rfl
theorem r142 : run [] e142 = true := by kernel_rfl
theorem r146 : run [e5] e146 = true := by kernel_rfl
theorem r148 : run [e142, e146, e13, e14] e148 = true := by kernel_rfl
theorem r149 : run [] e149 = true := by kernel_rfl
theorem r153 : run [e5] e153 = true := by kernel_rfl
theorem r155 : run [e149, e153, e13, e14] e155 = true := by kernel_rfl
theorem r156 : run [] e156 = true := by kernel_rfl
end Go.Proofs
namespace Go.Proofs
open Go Go.Abs
theorem r320 : run [e318, e181, e14] e320 = true := by kernel_rfl
theorem r326 : run [e5] e326 = true := by kernel_rfl
theorem r328 : run [e326, e181, e14] e328 = true := by kernel_rfl
theorem r334 : run [e5] e334 = true := by kernel_rfl
theorem r336 : run [e334, e181, e14] e336 = true := by kernel_rfl
theorem r340 : run [e239, e181, e14] e340 = true := by kernel_rfl
end Go.Proofs
namespace Go.Proofs
open Go Go.Abs
theorem r635 : run [e630] e635 = true := by kernel_rfl
theorem r639 : run [] e639 = true := by kernel_rfl
theorem r665 : run [] e665 = true := by kernel_rfl
theorem r682 : run [] e682 = true := by kernel_rfl
theorem r692 : run [] e692 = true := by kernel_rfl
theorem r719 : run [] e719 = true := by kernel_rfl
theorem r731 : run [] e731 = true := by kernel_rfl
end Go.Proofs
namespace Go.Proofs
open Go Go.Abs
theorem r1472 : run [] e1472 = true := by kernel_rfl
theorem r1488 : run [] e1488 = true := by kernel_rfl
theorem r1519 : run [] e1519 = true := by kernel_rfl
theorem r1535 : run [] e1535 = true := by kernel_rfl
end Go.Proofs
namespace Go.Proofs
open Go Go.Abs
theorem r2267 : run [] e2267 = true := by kernel_rfl
theorem r2283 : run [] e2283 = true := by kernel_rfl
theorem r2329 : run [] e2329 = true := by kernel_rfl
end Go.Proofs
namespace Go.Proofs
open Go Go.Abs
theorem r2666 : run [] e2666 = true := by kernel_rfl
end Go.Proofs
namespace Go.Proofs
open Go Go.Abs
theorem r3038 : run [] e3038 = true := by kernel_rfl
end Go.Proofs
namespace Go.Proofs
open Go Go.Abs
theorem r3212 : run [e3190, e3191, e3195, e3199, e3203, e3207, e3192, e3196, e3200, e3204] e3212 = true := by kernel_rfl
end Go.Proofs
