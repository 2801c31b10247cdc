/- Part 39 of the texts that lead to stropheStanzasCard_holds. No condition. -/
import Derived.Test.YteoeioodocjbiaaGreatDoorH35
set_option linter.unusedSimpArgs false
set_option linter.unusedVariables false
set_option linter.unnecessarySimpa false
namespace Go.Proofs
open Go Go.Abs
theorem r248 : run [] e248 = true := by kernel_rfl
theorem r275 : run [] e275 = true := by kernel_rfl
theorem r279 : run [e248, e275] e279 = true := by kernel_rfl
theorem r283 : run [e279] e283 = true := by kernel_rfl
theorem r288 : run [e279] e288 = true := by kernel_rfl
end Go.Proofs
namespace Go.Proofs
open Go Go.Abs
theorem r467 : run [e461, e465, e382, e383] e467 = true := by kernel_rfl
theorem r468 : run [] e468 = true := by kernel_rfl
theorem r473 : run [e374] e473 = true := by kernel_rfl
theorem r475 : run [e468, e473, e382, e383] e475 = true := by kernel_rfl
theorem r476 : run [] e476 = true := by kernel_rfl
theorem r480 : run [e374] e480 = true := by kernel_rfl
theorem r482 : run [e476, e480, e382, e383] e482 = true := by kernel_rfl
theorem r483 : run [] e483 = true := by kernel_rfl
end Go.Proofs
namespace Go.Proofs
open Go Go.Abs
theorem r603 : run [] e603 = true := by kernel_rfl
theorem r608 : run [e374] e608 = true := by kernel_rfl
theorem r609 : run [e608, e563] e609 = true := by kernel_rfl
theorem r616 : run [e374] e616 = true := by kernel_rfl
theorem r618 : run [e616, e550, e383] e618 = true := by kernel_rfl
theorem r624 : run [e374] e624 = true := by kernel_rfl
theorem r626 : run [e624, e550, e383] e626 = true := by kernel_rfl
end Go.Proofs
namespace Go.Proofs
open Go Go.Abs
theorem r859 : run [e369, e384, e392, e400, e408, e416, e424, e425, e432, e433, e439, e440, e446, e447, e453, e454, e460, e461, e467, e468, e475, e476, e482, e483, e489, e490, e496, e497, e503, e504, e510, e511, e517, e518, e524, e525, e531, e532, e541, e553, e554, e383, e550, e556, e565, e567, e575, e583, e591, e602, e603, e609, e618, e626, e634, e642, e649, e657, e665, e673, e681, e689, e697, e705, e709, e717, e725, e733, e858] e859 = true := by kernel_rfl
end Go.Proofs
namespace Go.Proofs
open Go Go.Abs
theorem r1506 : run [] e1506 = true := by kernel_rfl
theorem r1522 : run [] e1522 = true := by kernel_rfl
theorem r1549 : run [] e1549 = true := by kernel_rfl
theorem r1565 : run [] e1565 = true := by kernel_rfl
theorem r1593 : run [] e1593 = true := by kernel_rfl
end Go.Proofs
namespace Go.Proofs
open Go Go.Abs
theorem r2251 : run [] e2251 = true := by kernel_rfl
theorem r2267 : run [] e2267 = true := by kernel_rfl
theorem r2309 : run [] e2309 = true := by kernel_rfl
end Go.Proofs
namespace Go.Proofs
open Go Go.Abs
theorem r2686 : run [e2638] e2686 = true := by kernel_rfl
end Go.Proofs
namespace Go.Proofs
open Go Go.Abs
theorem r2916 : run [e2606, e2898, e2808, e2907, e2904] e2916 = true := by kernel_rfl
theorem r2926 : run [e2606] e2926 = true := by kernel_rfl
theorem r2938 : run [] e2938 = true := by kernel_rfl
end Go.Proofs
namespace Go.Proofs
open Go Go.Abs
theorem r3265 : run [e3242] e3265 = true := by kernel_rfl
theorem r3284 : run [e3242] e3284 = true := by kernel_rfl
end Go.Proofs
