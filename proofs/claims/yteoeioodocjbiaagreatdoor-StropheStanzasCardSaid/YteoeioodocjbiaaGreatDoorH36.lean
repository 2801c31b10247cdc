/- Part 36 of the texts that lead to stropheStanzasCard_holds. No condition. -/
import Derived.Test.YteoeioodocjbiaaGreatDoorH35
set_option linter.unusedSimpArgs false
set_option linter.unusedVariables false
set_option linter.unnecessarySimpa false
namespace Go.Proofs
open Go Go.Abs
theorem r40 : run [] e40 = true := by kernel_rfl
theorem r61 : run [] e61 = true := by kernel_rfl
theorem r77 : run [e61] e77 = true := by kernel_rfl
theorem r83 : run [e77, e61] e83 = true := by kernel_rfl
theorem r94 : run [e40, e83] e94 = true := by kernel_rfl
end Go.Proofs
namespace Go.Proofs
open Go Go.Abs
theorem r414 : run [e374] e414 = true := by kernel_rfl
theorem r416 : run [e414, e382, e383] e416 = true := by kernel_rfl
theorem r422 : run [e374] e422 = true := by kernel_rfl
theorem r424 : run [e422, e382, e383] e424 = true := by kernel_rfl
theorem r425 : run [] e425 = true := by kernel_rfl
theorem r430 : run [e374] e430 = true := by kernel_rfl
end Go.Proofs
namespace Go.Proofs
open Go Go.Abs
theorem r541 : run [e532, e536, e383] e541 = true := by kernel_rfl
theorem r546 : run [e374] e546 = true := by kernel_rfl
theorem r550 : run [] e550 = true := by kernel_rfl
theorem r553 : run [e546, e550, e383] e553 = true := by kernel_rfl
theorem r554 : run [] e554 = true := by kernel_rfl
theorem r556 : run [e546] e556 = true := by kernel_rfl
theorem r563 : run [e374] e563 = true := by kernel_rfl
end Go.Proofs
namespace Go.Proofs
open Go Go.Abs
theorem r703 : run [e374] e703 = true := by kernel_rfl
theorem r705 : run [e703, e550, e383] e705 = true := by kernel_rfl
theorem r709 : run [e608, e550, e383] e709 = true := by kernel_rfl
theorem r715 : run [e374] e715 = true := by kernel_rfl
theorem r717 : run [e715, e550, e383] e717 = true := by kernel_rfl
theorem r723 : run [e374] e723 = true := by kernel_rfl
end Go.Proofs
namespace Go.Proofs
open Go Go.Abs
theorem r1224 : run [] e1224 = true := by kernel_rfl
theorem r1241 : run [] e1241 = true := by kernel_rfl
theorem r1252 : run [] e1252 = true := by kernel_rfl
theorem r1270 : run [] e1270 = true := by kernel_rfl
theorem r1281 : run [] e1281 = true := by kernel_rfl
theorem r1300 : run [] e1300 = true := by kernel_rfl
end Go.Proofs
namespace Go.Proofs
open Go Go.Abs
theorem r1929 : run [] e1929 = true := by kernel_rfl
theorem r1940 : run [] e1940 = true := by kernel_rfl
theorem r1976 : run [] e1976 = true := by kernel_rfl
theorem r1992 : run [] e1992 = true := by kernel_rfl
end Go.Proofs
namespace Go.Proofs
open Go Go.Abs
theorem r2604 : run [] e2604 = true := by kernel_rfl
end Go.Proofs
namespace Go.Proofs
open Go Go.Abs
theorem r2898 : run [] e2898 = true := by kernel_rfl
end Go.Proofs
namespace Go.Proofs
open Go Go.Abs
theorem r3139 : run [] e3139 = true := by kernel_rfl
end Go.Proofs
namespace Go.Proofs
open Go Go.Abs
theorem r3362 : run [e3288, e2707, e2609, e3318, e3320, e3324, e3361] e3362 = true := by kernel_rfl
theorem r3364 : run [e3362, e279] e3364 = true := by kernel_rfl
theorem r3368 : run [e94, e228, e237, e283, e288, e368, e859, e3364] e3368 = true := by kernel_rfl
end Go.Proofs
