/- Part 26 of the texts that lead to repairNearestCard_holds. No condition. -/
import Derived.Test.YtcjckmnhlfbdlaaGreatDoorH23
set_option linter.all false
namespace Go.Proofs
open Go Go.Abs
theorem r53 : run [e5] e53 = true := by kernel_rfl
theorem r55 : run [e53, e13, e14] e55 = true := by kernel_rfl
theorem r56 : run [] e56 = true := by kernel_rfl
theorem r61 : run [e5] e61 = true := by kernel_rfl
theorem r63 : run [e56, e61, e13, e14] e63 = true := by kernel_rfl
theorem r64 : run [] e64 = true := by kernel_rfl
theorem r68 : run [e5] e68 = true := by kernel_rfl
end Go.Proofs
namespace Go.Proofs
open Go Go.Abs
theorem r160 : run [e5] e160 = true := by kernel_rfl
theorem r162 : run [e156, e160, e13, e14] e162 = true := by kernel_rfl
theorem r163 : run [] e163 = true := by kernel_rfl
theorem r167 : run [e5] e167 = true := by kernel_rfl
theorem r172 : run [e163, e167, e14] e172 = true := by kernel_rfl
theorem r177 : run [e5] e177 = true := by kernel_rfl
theorem r181 : run [] e181 = true := by kernel_rfl
end Go.Proofs
namespace Go.Proofs
open Go Go.Abs
theorem r296 : run [e294, e181, e14] e296 = true := by kernel_rfl
theorem r302 : run [e5] e302 = true := by kernel_rfl
theorem r304 : run [e302, e181, e14] e304 = true := by kernel_rfl
theorem r310 : run [e5] e310 = true := by kernel_rfl
theorem r312 : run [e310, e181, e14] e312 = true := by kernel_rfl
theorem r318 : run [e5] e318 = true := by kernel_rfl
end Go.Proofs
namespace Go.Proofs
open Go Go.Abs
theorem r552 : run [] e552 = true := by kernel_rfl
theorem r573 : run [] e573 = true := by kernel_rfl
end Go.Proofs
namespace Go.Proofs
open Go Go.Abs
theorem r974 : run [] e974 = true := by kernel_rfl
theorem r985 : run [] e985 = true := by kernel_rfl
theorem r1001 : run [] e1001 = true := by kernel_rfl
theorem r1012 : run [] e1012 = true := by kernel_rfl
theorem r1029 : run [] e1029 = true := by kernel_rfl
theorem r1040 : run [] e1040 = true := by kernel_rfl
end Go.Proofs
namespace Go.Proofs
open Go Go.Abs
theorem r1567 : run [] e1567 = true := by kernel_rfl
theorem r1583 : run [] e1583 = true := by kernel_rfl
theorem r1616 : run [] e1616 = true := by kernel_rfl
theorem r1632 : run [] e1632 = true := by kernel_rfl
end Go.Proofs
namespace Go.Proofs
open Go Go.Abs
theorem r2162 : run [] e2162 = true := by kernel_rfl
theorem r2206 : run [] e2206 = true := by kernel_rfl
theorem r2222 : run [] e2222 = true := by kernel_rfl
end Go.Proofs
namespace Go.Proofs
open Go Go.Abs
theorem r2563 : run [] e2563 = true := by kernel_rfl
end Go.Proofs
namespace Go.Proofs
open Go Go.Abs
theorem r2936 : run [] e2936 = true := by kernel_rfl
end Go.Proofs
namespace Go.Proofs
open Go Go.Abs
theorem r3045 : run [e3031, e3038, e3035] e3045 = true := by kernel_rfl
theorem r3061 : run [e2394] e3061 = true := by kernel_rfl
theorem r3071 : run [] e3071 = true := by kernel_rfl
theorem r3080 : run [e2399, e3045, e3030, e2394, e2578, e3061, e3071] e3080 = true := by kernel_rfl
theorem r3086 : run [e2399, e2568, e3080] e3086 = true := by kernel_rfl
theorem r3108 : run [] e3108 = true := by kernel_rfl
theorem r3111 : run [e3108] e3111 = true := by kernel_rfl
end Go.Proofs
namespace Go.Proofs
open Go Go.Abs
theorem r3205 : run [] e3205 = true := by kernel_rfl
theorem r3206 : run [] e3206 = true := by kernel_rfl
theorem r3207 : run [e3190, e3204, e3205, e3206] e3207 = true := by kernel_rfl
end Go.Proofs
namespace Go.Proofs
open Go Go.Abs
theorem r3338 : run [e3275, e3317, e3337] e3338 = true := by kernel_rfl
theorem r3342 : run [] e3342 = true := by kernel_rfl
theorem r3343 : run [] e3343 = true := by kernel_rfl
theorem r3344 : run [] e3344 = true := by kernel_rfl
theorem r3345 : run [] e3345 = true := by kernel_rfl
end Go.Proofs
