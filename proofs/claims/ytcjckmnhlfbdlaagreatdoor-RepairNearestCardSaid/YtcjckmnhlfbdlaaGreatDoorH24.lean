/- Part 24 of the texts that lead to repairNearestCard_holds. No condition. -/
import Derived.Test.YtcjckmnhlfbdlaaGreatDoorH23
set_option linter.all false
namespace Go.Proofs
open Go Go.Abs
theorem r5 : run [] e5 = true := by kernel_rfl
theorem r9 : run [e5] e9 = true := by kernel_rfl
theorem r13 : run [] e13 = true := by kernel_rfl
theorem r14 : run [] e14 = true := by kernel_rfl
theorem r15 : run [e9, e13, e14] e15 = true := by kernel_rfl
theorem r21 : run [e5] e21 = true := by kernel_rfl
theorem r23 : run [e21, e13, e14] e23 = true := by kernel_rfl
theorem r29 : run [e5] e29 = true := by kernel_rfl
end Go.Proofs
namespace Go.Proofs
open Go Go.Abs
theorem r125 : run [e5] e125 = true := by kernel_rfl
theorem r127 : run [e121, e125, e13, e14] e127 = true := by kernel_rfl
theorem r128 : run [] e128 = true := by kernel_rfl
theorem r132 : run [e5] e132 = true := by kernel_rfl
theorem r134 : run [e128, e132, e13, e14] e134 = true := by kernel_rfl
theorem r135 : run [] e135 = true := by kernel_rfl
theorem r139 : run [e5] e139 = true := by kernel_rfl
end Go.Proofs
namespace Go.Proofs
open Go Go.Abs
theorem r249 : run [e247, e181, e14] e249 = true := by kernel_rfl
theorem r255 : run [e5] e255 = true := by kernel_rfl
theorem r257 : run [e255, e181, e14] e257 = true := by kernel_rfl
theorem r263 : run [e5] e263 = true := by kernel_rfl
theorem r265 : run [e263, e181, e14] e265 = true := by kernel_rfl
theorem r271 : run [e5] e271 = true := by kernel_rfl
end Go.Proofs
namespace Go.Proofs
open Go Go.Abs
theorem r442 : run [e384] e442 = true := by kernel_rfl
end Go.Proofs
namespace Go.Proofs
open Go Go.Abs
theorem r760 : run [] e760 = true := by kernel_rfl
theorem r782 : run [] e782 = true := by kernel_rfl
theorem r800 : run [] e800 = true := by kernel_rfl
theorem r819 : run [] e819 = true := by kernel_rfl
theorem r839 : run [] e839 = true := by kernel_rfl
theorem r860 : run [] e860 = true := by kernel_rfl
theorem r871 : run [] e871 = true := by kernel_rfl
end Go.Proofs
namespace Go.Proofs
open Go Go.Abs
theorem r1381 : run [] e1381 = true := by kernel_rfl
theorem r1397 : run [] e1397 = true := by kernel_rfl
theorem r1426 : run [] e1426 = true := by kernel_rfl
theorem r1442 : run [] e1442 = true := by kernel_rfl
end Go.Proofs
namespace Go.Proofs
open Go Go.Abs
theorem r1982 : run [] e1982 = true := by kernel_rfl
theorem r1998 : run [] e1998 = true := by kernel_rfl
theorem r2039 : run [] e2039 = true := by kernel_rfl
theorem r2055 : run [] e2055 = true := by kernel_rfl
end Go.Proofs
namespace Go.Proofs
open Go Go.Abs
theorem r2399 : run [e2394] e2399 = true := by kernel_rfl
theorem r2414 : run [] e2414 = true := by kernel_rfl
theorem r2430 : run [] e2430 = true := by kernel_rfl
theorem r2432 : run [e2414, e2430] e2432 = true := by kernel_rfl
theorem r2439 : run [e2432] e2439 = true := by kernel_rfl
theorem r2450 : run [] e2450 = true := by kernel_rfl
theorem r2461 : run [] e2461 = true := by kernel_rfl
theorem r2466 : run [] e2466 = true := by kernel_rfl
theorem r2474 : run [] e2474 = true := by kernel_rfl
theorem r2484 : run [] e2484 = true := by kernel_rfl
theorem r2491 : run [] e2491 = true := by kernel_rfl
end Go.Proofs
namespace Go.Proofs
open Go Go.Abs
theorem r2753 : run [] e2753 = true := by kernel_rfl
end Go.Proofs
namespace Go.Proofs
open Go Go.Abs
theorem r3035 : run [] e3035 = true := by kernel_rfl
end Go.Proofs
namespace Go.Proofs
open Go Go.Abs
theorem r3196 : run [] e3196 = true := by kernel_rfl
theorem r3197 : run [] e3197 = true := by kernel_rfl
theorem r3198 : run [] e3198 = true := by kernel_rfl
theorem r3199 : run [e3190, e3196, e3197, e3198] e3199 = true := by kernel_rfl
end Go.Proofs
namespace Go.Proofs
open Go Go.Abs
theorem r3317 : run [e2466, e2461, e2474, e2484, e2491] e3317 = true := by kernel_rfl
end Go.Proofs
