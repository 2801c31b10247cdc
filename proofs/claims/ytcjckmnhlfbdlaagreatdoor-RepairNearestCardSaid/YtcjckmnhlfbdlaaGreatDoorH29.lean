/- Part 29 of the texts that lead to repairNearestCard_holds. No condition. -/
import Derived.Test.YtcjckmnhlfbdlaaGreatDoorH23
set_option linter.all false
namespace Go.Proofs
open Go Go.Abs
theorem r106 : run [e99, e104, e13, e14] e106 = true := by kernel_rfl
theorem r107 : run [] e107 = true := by kernel_rfl
theorem r111 : run [e5] e111 = true := by kernel_rfl
theorem r113 : run [e107, e111, e13, e14] e113 = true := by kernel_rfl
theorem r114 : run [] e114 = true := by kernel_rfl
theorem r118 : run [e5] e118 = true := by kernel_rfl
theorem r120 : run [e114, e118, e13, e14] e120 = true := by kernel_rfl
theorem r121 : run [] e121 = true := by kernel_rfl
end Go.Proofs
namespace Go.Proofs
open Go Go.Abs
theorem r228 : run [e5] e228 = true := by kernel_rfl
theorem r233 : run [e228, e14] e233 = true := by kernel_rfl
theorem r234 : run [] e234 = true := by kernel_rfl
theorem r239 : run [e5] e239 = true := by kernel_rfl
theorem r240 : run [e239, e194] e240 = true := by kernel_rfl
theorem r247 : run [e5] e247 = true := by kernel_rfl
end Go.Proofs
namespace Go.Proofs
open Go Go.Abs
theorem r375 : run [] e375 = true := by kernel_rfl
theorem r381 : run [] e381 = true := by kernel_rfl
theorem r384 : run [] e384 = true := by kernel_rfl
theorem r390 : run [] e390 = true := by kernel_rfl
theorem r396 : run [e390] e396 = true := by kernel_rfl
theorem r402 : run [e390] e402 = true := by kernel_rfl
theorem r403 : run [] e403 = true := by kernel_rfl
theorem r409 : run [e403] e409 = true := by kernel_rfl
theorem r415 : run [e403] e415 = true := by kernel_rfl
theorem r425 : run [] e425 = true := by kernel_rfl
theorem r436 : run [e384] e436 = true := by kernel_rfl
theorem r439 : run [e384] e439 = true := by kernel_rfl
end Go.Proofs
namespace Go.Proofs
open Go Go.Abs
theorem r635 : run [e630] e635 = true := by kernel_rfl
theorem r639 : run [] e639 = true := by kernel_rfl
theorem r665 : run [] e665 = true := by kernel_rfl
theorem r682 : run [] e682 = true := by kernel_rfl
theorem r692 : run [] e692 = true := by kernel_rfl
theorem r719 : run [] e719 = true := by kernel_rfl
theorem r731 : run [] e731 = true := by kernel_rfl
end Go.Proofs
namespace Go.Proofs
open Go Go.Abs
theorem r1266 : run [] e1266 = true := by kernel_rfl
theorem r1294 : run [] e1294 = true := by kernel_rfl
theorem r1310 : run [] e1310 = true := by kernel_rfl
theorem r1337 : run [] e1337 = true := by kernel_rfl
theorem r1353 : run [] e1353 = true := by kernel_rfl
end Go.Proofs
namespace Go.Proofs
open Go Go.Abs
theorem r1871 : run [] e1871 = true := by kernel_rfl
theorem r1887 : run [] e1887 = true := by kernel_rfl
theorem r1926 : run [] e1926 = true := by kernel_rfl
theorem r1942 : run [] e1942 = true := by kernel_rfl
end Go.Proofs
namespace Go.Proofs
open Go Go.Abs
theorem r2394 : run [e665, e682, e692, e719, e731, e760, e782, e800, e819, e839, e860, e871, e882, e894, e910, e923, e934, e948, e959, e974, e985, e1001, e1012, e1029, e1040, e1058, e1069, e1088, e1099, e1119, e1130, e1151, e1162, e1184, e1211, e1237, e1266, e1294, e1310, e1337, e1353, e1381, e1397, e1426, e1442, e1472, e1488, e1519, e1535, e1567, e1583, e1616, e1632, e1666, e1682, e1717, e1728, e1764, e1780, e1817, e1833, e1871, e1887, e1926, e1942, e1982, e1998, e2039, e2055, e2097, e2113, e2156, e2162, e2206, e2222, e2267, e2283, e2329, e2345, e2392] e2394 = true := by kernel_rfl
end Go.Proofs
namespace Go.Proofs
open Go Go.Abs
theorem r2666 : run [] e2666 = true := by kernel_rfl
end Go.Proofs
namespace Go.Proofs
open Go Go.Abs
theorem r3031 : run [] e3031 = true := by kernel_rfl
end Go.Proofs
namespace Go.Proofs
open Go Go.Abs
theorem r3192 : run [] e3192 = true := by kernel_rfl
theorem r3193 : run [] e3193 = true := by kernel_rfl
theorem r3194 : run [] e3194 = true := by kernel_rfl
theorem r3195 : run [e3190, e3192, e3193, e3194] e3195 = true := by kernel_rfl
end Go.Proofs
namespace Go.Proofs
open Go Go.Abs
theorem r3253 : run [e3252] e3253 = true := by kernel_rfl
theorem r3255 : run [e3153, e2439, e2450, e2530, e2565, e2399, e3183, e3180, e3165, e3212, e3253, e3214] e3255 = true := by kernel_rfl
theorem r3263 : run [] e3263 = true := by kernel_rfl
theorem r3275 : run [e3263] e3275 = true := by kernel_rfl
end Go.Proofs
