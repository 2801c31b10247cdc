/- Part 28 of the texts that lead to repairNearestCard_holds. No condition. -/
import Derived.Test.YtcjckmnhlfbdlaaGreatDoorH23
set_option linter.all false
namespace Go.Proofs
open Go Go.Abs
theorem r89 : run [e5] e89 = true := by kernel_rfl
theorem r91 : run [e85, e89, e13, e14] e91 = true := by kernel_rfl
theorem r92 : run [] e92 = true := by kernel_rfl
theorem r96 : run [e5] e96 = true := by kernel_rfl
theorem r98 : run [e92, e96, e13, e14] e98 = true := by kernel_rfl
theorem r99 : run [] e99 = true := by kernel_rfl
theorem r104 : run [e5] e104 = true := by kernel_rfl
end Go.Proofs
namespace Go.Proofs
open Go Go.Abs
theorem r204 : run [e5] e204 = true := by kernel_rfl
theorem r206 : run [e204, e181, e14] e206 = true := by kernel_rfl
theorem r212 : run [e5] e212 = true := by kernel_rfl
theorem r214 : run [e212, e181, e14] e214 = true := by kernel_rfl
theorem r220 : run [e5] e220 = true := by kernel_rfl
theorem r222 : run [e220, e181, e14] e222 = true := by kernel_rfl
end Go.Proofs
namespace Go.Proofs
open Go Go.Abs
theorem r346 : run [e5] e346 = true := by kernel_rfl
theorem r348 : run [e346, e181, e14] e348 = true := by kernel_rfl
theorem r354 : run [e5] e354 = true := by kernel_rfl
theorem r356 : run [e354, e181, e14] e356 = true := by kernel_rfl
theorem r362 : run [e5] e362 = true := by kernel_rfl
theorem r364 : run [e362, e181, e14] e364 = true := by kernel_rfl
theorem r372 : run [] e372 = true := by kernel_rfl
end Go.Proofs
namespace Go.Proofs
open Go Go.Abs
theorem r611 : run [] e611 = true := by kernel_rfl
theorem r630 : run [] e630 = true := by kernel_rfl
end Go.Proofs
namespace Go.Proofs
open Go Go.Abs
theorem r1151 : run [] e1151 = true := by kernel_rfl
theorem r1162 : run [] e1162 = true := by kernel_rfl
theorem r1184 : run [] e1184 = true := by kernel_rfl
theorem r1211 : run [] e1211 = true := by kernel_rfl
theorem r1237 : run [] e1237 = true := by kernel_rfl
end Go.Proofs
namespace Go.Proofs
open Go Go.Abs
theorem r1764 : run [] e1764 = true := by kernel_rfl
theorem r1780 : run [] e1780 = true := by kernel_rfl
theorem r1817 : run [] e1817 = true := by kernel_rfl
theorem r1833 : run [] e1833 = true := by kernel_rfl
end Go.Proofs
namespace Go.Proofs
open Go Go.Abs
theorem r2345 : run [] e2345 = true := by kernel_rfl
theorem r2392 : run [] e2392 = true := by kernel_rfl
end Go.Proofs
namespace Go.Proofs
open Go Go.Abs
theorem r2565 : run [e2564] e2565 = true := by kernel_rfl
theorem r2568 : run [] e2568 = true := by kernel_rfl
theorem r2578 : run [] e2578 = true := by kernel_rfl
end Go.Proofs
namespace Go.Proofs
open Go Go.Abs
theorem r3030 : run [e2666, e2753, e2936, e3023, e2844] e3030 = true := by kernel_rfl
end Go.Proofs
namespace Go.Proofs
open Go Go.Abs
theorem r3180 : run [] e3180 = true := by kernel_rfl
theorem r3183 : run [e3165] e3183 = true := by kernel_rfl
theorem r3190 : run [] e3190 = true := by kernel_rfl
theorem r3191 : run [] e3191 = true := by kernel_rfl
end Go.Proofs
namespace Go.Proofs
open Go Go.Abs
theorem r3214 : run [e3191] e3214 = true := by kernel_rfl
theorem r3241 : run [] e3241 = true := by kernel_rfl
theorem r3252 : run [e3241] e3252 = true := by kernel_rfl
end Go.Proofs
namespace Go.Proofs
open Go Go.Abs
theorem r3353 : run [] e3353 = true := by kernel_rfl
theorem r3354 : run [] e3354 = true := by kernel_rfl
theorem r3355 : run [e3342, e3352, e3353, e3354] e3355 = true := by kernel_rfl
theorem r3359 : run [e3342, e3343, e3347, e3351, e3355, e3344, e3348, e3352] e3359 = true := by kernel_rfl
theorem r3364 : run [e490, e592, e639, e635, e611, e3255, e3359, e2399, e3338, e3153] e3364 = true := by kernel_rfl
end Go.Proofs
