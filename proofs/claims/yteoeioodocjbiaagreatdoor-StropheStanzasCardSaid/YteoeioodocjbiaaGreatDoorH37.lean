/- Part 37 of the texts that lead to stropheStanzasCard_holds. No condition. -/
import Derived.Test.YteoeioodocjbiaaGreatDoorH35
set_option linter.unusedSimpArgs false
set_option linter.unusedVariables false
set_option linter.unnecessarySimpa false
namespace Go.Proofs
open Go Go.Abs
theorem r119 : run [] e119 = true := by kernel_rfl
theorem r149 : run [] e149 = true := by kernel_rfl
theorem r165 : run [e149] e165 = true := by kernel_rfl
theorem r175 : run [] e175 = true := by kernel_rfl
end Go.Proofs
namespace Go.Proofs
open Go Go.Abs
theorem r432 : run [e425, e430, e382, e383] e432 = true := by kernel_rfl
theorem r433 : run [] e433 = true := by kernel_rfl
theorem r437 : run [e374] e437 = true := by kernel_rfl
theorem r439 : run [e433, e437, e382, e383] e439 = true := by kernel_rfl
theorem r440 : run [] e440 = true := by kernel_rfl
theorem r444 : run [e374] e444 = true := by kernel_rfl
theorem r446 : run [e440, e444, e382, e383] e446 = true := by kernel_rfl
theorem r447 : run [] e447 = true := by kernel_rfl
end Go.Proofs
namespace Go.Proofs
open Go Go.Abs
theorem r565 : run [e563, e550, e383] e565 = true := by kernel_rfl
theorem r567 : run [e563, e550, e383] e567 = true := by kernel_rfl
theorem r573 : run [e374] e573 = true := by kernel_rfl
theorem r575 : run [e573, e550, e383] e575 = true := by kernel_rfl
theorem r581 : run [e374] e581 = true := by kernel_rfl
end Go.Proofs
namespace Go.Proofs
open Go Go.Abs
theorem r725 : run [e723, e550, e383] e725 = true := by kernel_rfl
theorem r731 : run [e374] e731 = true := by kernel_rfl
theorem r733 : run [e731, e550, e383] e733 = true := by kernel_rfl
theorem r741 : run [] e741 = true := by kernel_rfl
theorem r744 : run [] e744 = true := by kernel_rfl
theorem r750 : run [] e750 = true := by kernel_rfl
theorem r753 : run [] e753 = true := by kernel_rfl
theorem r759 : run [] e759 = true := by kernel_rfl
theorem r765 : run [e759] e765 = true := by kernel_rfl
theorem r771 : run [e759] e771 = true := by kernel_rfl
theorem r772 : run [] e772 = true := by kernel_rfl
end Go.Proofs
namespace Go.Proofs
open Go Go.Abs
theorem r1311 : run [] e1311 = true := by kernel_rfl
theorem r1331 : run [] e1331 = true := by kernel_rfl
theorem r1342 : run [] e1342 = true := by kernel_rfl
theorem r1363 : run [] e1363 = true := by kernel_rfl
theorem r1374 : run [] e1374 = true := by kernel_rfl
end Go.Proofs
namespace Go.Proofs
open Go Go.Abs
theorem r2029 : run [] e2029 = true := by kernel_rfl
theorem r2045 : run [] e2045 = true := by kernel_rfl
theorem r2083 : run [] e2083 = true := by kernel_rfl
theorem r2098 : run [] e2098 = true := by kernel_rfl
end Go.Proofs
namespace Go.Proofs
open Go Go.Abs
theorem r2606 : run [e877, e894, e904, e931, e943, e972, e994, e1012, e1031, e1051, e1072, e1083, e1094, e1106, e1122, e1135, e1146, e1160, e1171, e1186, e1197, e1213, e1224, e1241, e1252, e1270, e1281, e1300, e1311, e1331, e1342, e1363, e1374, e1396, e1423, e1449, e1478, e1506, e1522, e1549, e1565, e1593, e1609, e1638, e1654, e1684, e1700, e1731, e1747, e1779, e1795, e1828, e1844, e1878, e1894, e1929, e1940, e1976, e1992, e2029, e2045, e2083, e2098, e2138, e2154, e2194, e2210, e2251, e2267, e2309, e2325, e2368, e2374, e2418, e2434, e2479, e2495, e2541, e2557, e2604] e2606 = true := by kernel_rfl
end Go.Proofs
namespace Go.Proofs
open Go Go.Abs
theorem r2904 : run [] e2904 = true := by kernel_rfl
end Go.Proofs
namespace Go.Proofs
open Go Go.Abs
theorem r3148 : run [e2606, e3130, e3040, e3139, e3136] e3148 = true := by kernel_rfl
theorem r3158 : run [e2606] e3158 = true := by kernel_rfl
theorem r3164 : run [] e3164 = true := by kernel_rfl
theorem r3170 : run [e2609, e2712, e2938, e2926, e2916, e3164, e3158, e3148] e3170 = true := by kernel_rfl
theorem r3179 : run [e2098] e3179 = true := by kernel_rfl
end Go.Proofs
