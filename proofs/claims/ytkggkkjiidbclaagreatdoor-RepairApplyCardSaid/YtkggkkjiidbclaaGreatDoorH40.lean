/- Part 40 of the texts that lead to repairApplyCard_holds. No condition. -/
import Derived.Test.YtkggkkjiidbclaaGreatDoorH34
set_option linter.unusedSimpArgs false
set_option linter.unusedVariables false
set_option linter.unnecessarySimpa false
namespace Go.Proofs
open Go Go.Abs
theorem r106 : run [e99, e104, e13, e14] e106 = true := by kernel_rfl
theorem r107 : run [] e107 = true := by kernel_rfl
theorem r111 : run [e5] e111 = true := by kernel_rfl
theorem r113 : run [e107, e111, e13, e14] e113 = true := by kernel_rfl
theorem r114 : run [] e114 = true := by kernel_rfl
theorem r118 : run [e5] e118 = true := by kernel_rfl
theorem r120 : run [e114, e118, e13, e14] e120 = true := by kernel_rfl
theorem r121 : run [] e121 = true := by kernel_rfl
end Go.Proofs
namespace Go.Proofs
open Go Go.Abs
theorem r273 : run [e271, e181, e14] e273 = true := by kernel_rfl
theorem r278 : run [e5] e278 = true := by kernel_rfl
theorem r280 : run [e278, e181, e14] e280 = true := by kernel_rfl
theorem r286 : run [e5] e286 = true := by kernel_rfl
theorem r288 : run [e286, e181, e14] e288 = true := by kernel_rfl
theorem r294 : run [e5] e294 = true := by kernel_rfl
end Go.Proofs
namespace Go.Proofs
open Go Go.Abs
theorem r578 : run [e573] e578 = true := by kernel_rfl
theorem r586 : run [] e586 = true := by kernel_rfl
theorem r592 : run [e552, e578, e586] e592 = true := by kernel_rfl
end Go.Proofs
namespace Go.Proofs
open Go Go.Abs
theorem r1266 : run [] e1266 = true := by kernel_rfl
theorem r1294 : run [] e1294 = true := by kernel_rfl
theorem r1310 : run [] e1310 = true := by kernel_rfl
theorem r1337 : run [] e1337 = true := by kernel_rfl
theorem r1353 : run [] e1353 = true := by kernel_rfl
end Go.Proofs
namespace Go.Proofs
open Go Go.Abs
theorem r2097 : run [] e2097 = true := by kernel_rfl
theorem r2113 : run [] e2113 = true := by kernel_rfl
theorem r2156 : run [] e2156 = true := by kernel_rfl
end Go.Proofs
namespace Go.Proofs
open Go Go.Abs
theorem r2564 : run [e2563] e2564 = true := by kernel_rfl
end Go.Proofs
namespace Go.Proofs
open Go Go.Abs
theorem r3031 : run [] e3031 = true := by kernel_rfl
end Go.Proofs
namespace Go.Proofs
open Go Go.Abs
theorem r3200 : run [] e3200 = true := by kernel_rfl
theorem r3201 : run [] e3201 = true := by kernel_rfl
theorem r3202 : run [] e3202 = true := by kernel_rfl
theorem r3203 : run [e3190, e3200, e3201, e3202] e3203 = true := by kernel_rfl
theorem r3204 : run [] e3204 = true := by kernel_rfl
end Go.Proofs
namespace Go.Proofs
open Go Go.Abs
theorem r3346 : run [] e3346 = true := by kernel_rfl
theorem r3347 : run [e3342, e3344, e3345, e3346] e3347 = true := by kernel_rfl
theorem r3348 : run [] e3348 = true := by kernel_rfl
theorem r3349 : run [] e3349 = true := by kernel_rfl
theorem r3350 : run [] e3350 = true := by kernel_rfl
theorem r3351 : run [e3342, e3348, e3349, e3350] e3351 = true := by kernel_rfl
theorem r3352 : run [] e3352 = true := by kernel_rfl
end Go.Proofs
