/- Part 39 of the texts that lead to repairApplyCard_holds. No condition. -/
import Derived.Test.YtkggkkjiidbclaaGreatDoorH34
set_option linter.unusedSimpArgs false
set_option linter.unusedVariables false
set_option linter.unnecessarySimpa false
namespace Go.Proofs
open Go Go.Abs
theorem r89 : run [e5] e89 = true := by kernel_rfl
theorem r91 : run [e85, e89, e13, e14] e91 = true := by kernel_rfl
theorem r92 : run [] e92 = true := by kernel_rfl
theorem r96 : run [e5] e96 = true := by kernel_rfl
theorem r98 : run [e92, e96, e13, e14] e98 = true := by kernel_rfl
theorem r99 : run [] e99 = true := by kernel_rfl
theorem r104 : run [e5] e104 = true := by kernel_rfl
end Go.Proofs
namespace Go.Proofs
open Go Go.Abs
theorem r249 : run [e247, e181, e14] e249 = true := by kernel_rfl
theorem r255 : run [e5] e255 = true := by kernel_rfl
theorem r257 : run [e255, e181, e14] e257 = true := by kernel_rfl
theorem r263 : run [e5] e263 = true := by kernel_rfl
theorem r265 : run [e263, e181, e14] e265 = true := by kernel_rfl
theorem r271 : run [e5] e271 = true := by kernel_rfl
end Go.Proofs
namespace Go.Proofs
open Go Go.Abs
theorem r552 : run [] e552 = true := by kernel_rfl
theorem r573 : run [] e573 = true := by kernel_rfl
end Go.Proofs
namespace Go.Proofs
open Go Go.Abs
theorem r1151 : run [] e1151 = true := by kernel_rfl
theorem r1162 : run [] e1162 = true := by kernel_rfl
theorem r1184 : run [] e1184 = true := by kernel_rfl
theorem r1211 : run [] e1211 = true := by kernel_rfl
theorem r1237 : run [] e1237 = true := by kernel_rfl
end Go.Proofs
namespace Go.Proofs
open Go Go.Abs
theorem r1982 : run [] e1982 = true := by kernel_rfl
theorem r1998 : run [] e1998 = true := by kernel_rfl
theorem r2039 : run [] e2039 = true := by kernel_rfl
theorem r2055 : run [] e2055 = true := by kernel_rfl
end Go.Proofs
namespace Go.Proofs
open Go Go.Abs
theorem r2563 : run [] e2563 = true := by kernel_rfl
end Go.Proofs
namespace Go.Proofs
open Go Go.Abs
theorem r3030 : run [e2666, e2753, e2936, e3023, e2844] e3030 = true := by kernel_rfl
end Go.Proofs
namespace Go.Proofs
open Go Go.Abs
theorem r3196 : run [] e3196 = true := by kernel_rfl
theorem r3197 : run [] e3197 = true := by kernel_rfl
theorem r3198 : run [] e3198 = true := by kernel_rfl
theorem r3199 : run [e3190, e3196, e3197, e3198] e3199 = true := by kernel_rfl
end Go.Proofs
namespace Go.Proofs
open Go Go.Abs
theorem r3338 : run [e3275, e3317, e3337] e3338 = true := by kernel_rfl
theorem r3342 : run [] e3342 = true := by kernel_rfl
theorem r3343 : run [] e3343 = true := by kernel_rfl
theorem r3344 : run [] e3344 = true := by kernel_rfl
theorem r3345 : run [] e3345 = true := by kernel_rfl
end Go.Proofs
