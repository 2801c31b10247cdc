/- Part 35 of the texts that lead to repairApplyCard_holds. No condition. -/
import Derived.Test.YtkggkkjiidbclaaGreatDoorH34
set_option linter.unusedSimpArgs false
set_option linter.unusedVariables false
set_option linter.unnecessarySimpa false
namespace Go.Proofs
open Go Go.Abs
theorem r5 : run [] e5 = true := by kernel_rfl
theorem r9 : run [e5] e9 = true := by kernel_rfl
theorem r13 : run [] e13 = true := by kernel_rfl
theorem r14 : run [] e14 = true := by kernel_rfl
theorem r15 : run [e9, e13, e14] e15 = true := by kernel_rfl
theorem r21 : run [e5] e21 = true := by kernel_rfl
theorem r23 : run [e21, e13, e14] e23 = true := by kernel_rfl
theorem r29 : run [e5] e29 = true := by kernel_rfl
end Go.Proofs
namespace Go.Proofs
open Go Go.Abs
theorem r160 : run [e5] e160 = true := by kernel_rfl
theorem r162 : run [e156, e160, e13, e14] e162 = true := by kernel_rfl
theorem r163 : run [] e163 = true := by kernel_rfl
theorem r167 : run [e5] e167 = true := by kernel_rfl
theorem r172 : run [e163, e167, e14] e172 = true := by kernel_rfl
theorem r177 : run [e5] e177 = true := by kernel_rfl
theorem r181 : run [] e181 = true := by kernel_rfl
end Go.Proofs
namespace Go.Proofs
open Go Go.Abs
theorem r346 : run [e5] e346 = true := by kernel_rfl
theorem r348 : run [e346, e181, e14] e348 = true := by kernel_rfl
theorem r354 : run [e5] e354 = true := by kernel_rfl
theorem r356 : run [e354, e181, e14] e356 = true := by kernel_rfl
theorem r362 : run [e5] e362 = true := by kernel_rfl
theorem r364 : run [e362, e181, e14] e364 = true := by kernel_rfl
theorem r372 : run [] e372 = true := by kernel_rfl
end Go.Proofs
namespace Go.Proofs
open Go Go.Abs
theorem r760 : run [] e760 = true := by kernel_rfl
theorem r782 : run [] e782 = true := by kernel_rfl
theorem r800 : run [] e800 = true := by kernel_rfl
theorem r819 : run [] e819 = true := by kernel_rfl
theorem r839 : run [] e839 = true := by kernel_rfl
theorem r860 : run [] e860 = true := by kernel_rfl
theorem r871 : run [] e871 = true := by kernel_rfl
end Go.Proofs
namespace Go.Proofs
open Go Go.Abs
theorem r1567 : run [] e1567 = true := by kernel_rfl
theorem r1583 : run [] e1583 = true := by kernel_rfl
theorem r1616 : run [] e1616 = true := by kernel_rfl
theorem r1632 : run [] e1632 = true := by kernel_rfl
end Go.Proofs
namespace Go.Proofs
open Go Go.Abs
theorem r2345 : run [] e2345 = true := by kernel_rfl
theorem r2392 : run [] e2392 = true := by kernel_rfl
end Go.Proofs
namespace Go.Proofs
open Go Go.Abs
theorem r2753 : run [] e2753 = true := by kernel_rfl
end Go.Proofs
namespace Go.Proofs
open Go Go.Abs
theorem r3045 : run [e3031, e3038, e3035] e3045 = true := by kernel_rfl
theorem r3061 : run [e2394] e3061 = true := by kernel_rfl
theorem r3071 : run [] e3071 = true := by kernel_rfl
theorem r3080 : run [e2399, e3045, e3030, e2394, e2578, e3061, e3071] e3080 = true := by kernel_rfl
theorem r3086 : run [e2399, e2568, e3080] e3086 = true := by kernel_rfl
theorem r3108 : run [] e3108 = true := by kernel_rfl
theorem r3111 : run [e3108] e3111 = true := by kernel_rfl
end Go.Proofs
namespace Go.Proofs
open Go Go.Abs
theorem r3214 : run [e3191] e3214 = true := by kernel_rfl
theorem r3241 : run [] e3241 = true := by kernel_rfl
theorem r3252 : run [e3241] e3252 = true := by kernel_rfl
end Go.Proofs
