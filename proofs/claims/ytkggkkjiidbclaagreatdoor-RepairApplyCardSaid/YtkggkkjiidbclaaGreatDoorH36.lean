/- Part 36 of the texts that lead to repairApplyCard_holds. No condition. -/
import Derived.Test.YtkggkkjiidbclaaGreatDoorH34
set_option linter.unusedSimpArgs false
set_option linter.unusedVariables false
set_option linter.unnecessarySimpa false
namespace Go.Proofs
open Go Go.Abs
theorem r31 : run [e29, e13, e14] e31 = true := by kernel_rfl
theorem r37 : run [e5] e37 = true := by kernel_rfl
theorem r39 : run [e37, e13, e14] e39 = true := by kernel_rfl
theorem r45 : run [e5] e45 = true := by kernel_rfl
theorem r47 : run [e45, e13, e14] e47 = true := by kernel_rfl
end Go.Proofs
namespace Go.Proofs
open Go Go.Abs
theorem r184 : run [e177, e181, e14] e184 = true := by kernel_rfl
theorem r185 : run [] e185 = true := by kernel_rfl
theorem r187 : run [e177] e187 = true := by kernel_rfl
theorem r194 : run [e5] e194 = true := by kernel_rfl
theorem r196 : run [e194, e181, e14] e196 = true := by kernel_rfl
theorem r198 : run [e194, e181, e14] e198 = true := by kernel_rfl
end Go.Proofs
namespace Go.Proofs
open Go Go.Abs
theorem r375 : run [] e375 = true := by kernel_rfl
theorem r381 : run [] e381 = true := by kernel_rfl
theorem r384 : run [] e384 = true := by kernel_rfl
theorem r390 : run [] e390 = true := by kernel_rfl
theorem r396 : run [e390] e396 = true := by kernel_rfl
theorem r402 : run [e390] e402 = true := by kernel_rfl
theorem r403 : run [] e403 = true := by kernel_rfl
theorem r409 : run [e403] e409 = true := by kernel_rfl
theorem r415 : run [e403] e415 = true := by kernel_rfl
theorem r425 : run [] e425 = true := by kernel_rfl
theorem r436 : run [e384] e436 = true := by kernel_rfl
theorem r439 : run [e384] e439 = true := by kernel_rfl
end Go.Proofs
namespace Go.Proofs
open Go Go.Abs
theorem r882 : run [] e882 = true := by kernel_rfl
theorem r894 : run [] e894 = true := by kernel_rfl
theorem r910 : run [] e910 = true := by kernel_rfl
theorem r923 : run [] e923 = true := by kernel_rfl
theorem r934 : run [] e934 = true := by kernel_rfl
theorem r948 : run [] e948 = true := by kernel_rfl
theorem r959 : run [] e959 = true := by kernel_rfl
end Go.Proofs
namespace Go.Proofs
open Go Go.Abs
theorem r1666 : run [] e1666 = true := by kernel_rfl
theorem r1682 : run [] e1682 = true := by kernel_rfl
theorem r1717 : run [] e1717 = true := by kernel_rfl
theorem r1728 : run [] e1728 = true := by kernel_rfl
end Go.Proofs
namespace Go.Proofs
open Go Go.Abs
theorem r2394 : run [e665, e682, e692, e719, e731, e760, e782, e800, e819, e839, e860, e871, e882, e894, e910, e923, e934, e948, e959, e974, e985, e1001, e1012, e1029, e1040, e1058, e1069, e1088, e1099, e1119, e1130, e1151, e1162, e1184, e1211, e1237, e1266, e1294, e1310, e1337, e1353, e1381, e1397, e1426, e1442, e1472, e1488, e1519, e1535, e1567, e1583, e1616, e1632, e1666, e1682, e1717, e1728, e1764, e1780, e1817, e1833, e1871, e1887, e1926, e1942, e1982, e1998, e2039, e2055, e2097, e2113, e2156, e2162, e2206, e2222, e2267, e2283, e2329, e2345, e2392] e2394 = true := by kernel_rfl
end Go.Proofs
namespace Go.Proofs
open Go Go.Abs
theorem r2844 : run [] e2844 = true := by kernel_rfl
end Go.Proofs
namespace Go.Proofs
open Go Go.Abs
theorem r3125 : run [e3111] e3125 = true := by kernel_rfl
theorem r3132 : run [] e3132 = true := by kernel_rfl
theorem r3141 : run [e3132] e3141 = true := by kernel_rfl
theorem r3152 : run [e3141, e3132] e3152 = true := by kernel_rfl
theorem r3153 : run [e3086, e3125, e3152] e3153 = true := by kernel_rfl
theorem r3165 : run [e3132] e3165 = true := by kernel_rfl
end Go.Proofs
namespace Go.Proofs
open Go Go.Abs
theorem r3253 : run [e3252] e3253 = true := by kernel_rfl
theorem r3255 : run [e3153, e2439, e2450, e2530, e2565, e2399, e3183, e3180, e3165, e3212, e3253, e3214] e3255 = true := by kernel_rfl
theorem r3263 : run [] e3263 = true := by kernel_rfl
theorem r3275 : run [e3263] e3275 = true := by kernel_rfl
end Go.Proofs
