/- Part 33 of the texts that lead to bestWeakenCard_holds. No condition. -/
import Derived.Test.YthoonenhakbkgaaGreatDoorH31
set_option linter.unusedSimpArgs false
set_option linter.unusedVariables false
set_option linter.unnecessarySimpa false
namespace Go.Proofs
open Go Go.Abs
theorem r31 : run [e29, e13, e14] e31 = true := by kernel_rfl
theorem r37 : run [e5] e37 = true := by kernel_rfl
theorem r39 : run [e37, e13, e14] e39 = true := by kernel_rfl
theorem r45 : run [e5] e45 = true := by kernel_rfl
theorem r47 : run [e45, e13, e14] e47 = true := by kernel_rfl
end Go.Proofs
namespace Go.Proofs
open Go Go.Abs
theorem r184 : run [e177, e181, e14] e184 = true := by kernel_rfl
theorem r185 : run [] e185 = true := by kernel_rfl
theorem r187 : run [e177] e187 = true := by kernel_rfl
theorem r194 : run [e5] e194 = true := by kernel_rfl
theorem r196 : run [e194, e181, e14] e196 = true := by kernel_rfl
theorem r198 : run [e194, e181, e14] e198 = true := by kernel_rfl
end Go.Proofs
namespace Go.Proofs
open Go Go.Abs
theorem r375 : run [] e375 = true := by kernel_rfl
theorem r381 : run [] e381 = true := by kernel_rfl
theorem r384 : run [] e384 = true := by kernel_rfl
theorem r390 : run [] e390 = true := by kernel_rfl
theorem r396 : run [e390] e396 = true := by kernel_rfl
theorem r402 : run [e390] e402 = true := by kernel_rfl
theorem r403 : run [] e403 = true := by kernel_rfl
theorem r409 : run [e403] e409 = true := by kernel_rfl
theorem r415 : run [e403] e415 = true := by kernel_rfl
theorem r425 : run [] e425 = true := by kernel_rfl
theorem r436 : run [e384] e436 = true := by kernel_rfl
theorem r439 : run [e384] e439 = true := by kernel_rfl
end Go.Proofs
namespace Go.Proofs
open Go Go.Abs
theorem r970 : run [] e970 = true := by kernel_rfl
theorem r982 : run [] e982 = true := by kernel_rfl
theorem r998 : run [] e998 = true := by kernel_rfl
theorem r1011 : run [] e1011 = true := by kernel_rfl
theorem r1022 : run [] e1022 = true := by kernel_rfl
theorem r1036 : run [] e1036 = true := by kernel_rfl
theorem r1047 : run [] e1047 = true := by kernel_rfl
end Go.Proofs
namespace Go.Proofs
open Go Go.Abs
theorem r1754 : run [] e1754 = true := by kernel_rfl
theorem r1770 : run [] e1770 = true := by kernel_rfl
theorem r1805 : run [] e1805 = true := by kernel_rfl
theorem r1816 : run [] e1816 = true := by kernel_rfl
end Go.Proofs
namespace Go.Proofs
open Go Go.Abs
theorem r2482 : run [e753, e770, e780, e807, e819, e848, e870, e888, e907, e927, e948, e959, e970, e982, e998, e1011, e1022, e1036, e1047, e1062, e1073, e1089, e1100, e1117, e1128, e1146, e1157, e1176, e1187, e1207, e1218, e1239, e1250, e1272, e1299, e1325, e1354, e1382, e1398, e1425, e1441, e1469, e1485, e1514, e1530, e1560, e1576, e1607, e1623, e1655, e1671, e1704, e1720, e1754, e1770, e1805, e1816, e1852, e1868, e1905, e1921, e1959, e1975, e2014, e2029, e2070, e2086, e2127, e2143, e2185, e2201, e2244, e2250, e2294, e2310, e2355, e2371, e2417, e2433, e2480] e2482 = true := by kernel_rfl
end Go.Proofs
namespace Go.Proofs
open Go Go.Abs
theorem r3003 : run [] e3003 = true := by kernel_rfl
end Go.Proofs
namespace Go.Proofs
open Go Go.Abs
theorem r3032 : run [e3021, e3027, e3024] e3032 = true := by kernel_rfl
theorem r3053 : run [e2482] e3053 = true := by kernel_rfl
theorem r3064 : run [] e3064 = true := by kernel_rfl
theorem r3075 : run [e2487, e3018, e3032, e3017, e2647, e2638, e3053, e3064] e3075 = true := by kernel_rfl
end Go.Proofs
namespace Go.Proofs
open Go Go.Abs
theorem r3413 : run [] e3413 = true := by kernel_rfl
theorem r3417 : run [] e3417 = true := by kernel_rfl
theorem r3426 : run [e3413, e3417, e3394] e3426 = true := by kernel_rfl
theorem r3433 : run [] e3433 = true := by kernel_rfl
theorem r3440 : run [] e3440 = true := by kernel_rfl
theorem r3455 : run [e3433] e3455 = true := by kernel_rfl
end Go.Proofs
namespace Go.Proofs
open Go Go.Abs
theorem r3634 : run [e3513, e3567] e3634 = true := by kernel_rfl
end Go.Proofs
namespace Go.Proofs
open Go Go.Abs
theorem r3815 : run [e490, e660, e736, e3627, e3634, e3779, e3725, e3813, e3513] e3815 = true := by kernel_rfl
end Go.Proofs
