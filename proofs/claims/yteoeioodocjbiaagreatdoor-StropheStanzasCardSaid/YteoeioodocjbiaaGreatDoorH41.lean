/- Part 41 of the texts that lead to stropheStanzasCard_holds. No condition. -/
import Derived.Test.YteoeioodocjbiaaGreatDoorH35
set_option linter.unusedSimpArgs false
set_option linter.unusedVariables false
set_option linter.unnecessarySimpa false
namespace Go.Proofs
open Go Go.Abs
theorem r368 : run [e317, e336, e367] e368 = true := by kernel_rfl
theorem r374 : run [] e374 = true := by kernel_rfl
theorem r378 : run [e374] e378 = true := by kernel_rfl
theorem r382 : run [] e382 = true := by kernel_rfl
theorem r383 : run [] e383 = true := by kernel_rfl
theorem r384 : run [e378, e382, e383] e384 = true := by kernel_rfl
theorem r390 : run [e374] e390 = true := by kernel_rfl
end Go.Proofs
namespace Go.Proofs
open Go Go.Abs
theorem r503 : run [e497, e501, e382, e383] e503 = true := by kernel_rfl
theorem r504 : run [] e504 = true := by kernel_rfl
theorem r508 : run [e374] e508 = true := by kernel_rfl
theorem r510 : run [e504, e508, e382, e383] e510 = true := by kernel_rfl
theorem r511 : run [] e511 = true := by kernel_rfl
theorem r515 : run [e374] e515 = true := by kernel_rfl
theorem r517 : run [e511, e515, e382, e383] e517 = true := by kernel_rfl
theorem r518 : run [] e518 = true := by kernel_rfl
end Go.Proofs
namespace Go.Proofs
open Go Go.Abs
theorem r655 : run [e374] e655 = true := by kernel_rfl
theorem r657 : run [e655, e550, e383] e657 = true := by kernel_rfl
theorem r663 : run [e374] e663 = true := by kernel_rfl
theorem r665 : run [e663, e550, e383] e665 = true := by kernel_rfl
theorem r671 : run [e374] e671 = true := by kernel_rfl
theorem r673 : run [e671, e550, e383] e673 = true := by kernel_rfl
end Go.Proofs
namespace Go.Proofs
open Go Go.Abs
theorem r1051 : run [] e1051 = true := by kernel_rfl
theorem r1072 : run [] e1072 = true := by kernel_rfl
theorem r1083 : run [] e1083 = true := by kernel_rfl
theorem r1094 : run [] e1094 = true := by kernel_rfl
theorem r1106 : run [] e1106 = true := by kernel_rfl
theorem r1122 : run [] e1122 = true := by kernel_rfl
theorem r1135 : run [] e1135 = true := by kernel_rfl
end Go.Proofs
namespace Go.Proofs
open Go Go.Abs
theorem r1700 : run [] e1700 = true := by kernel_rfl
theorem r1731 : run [] e1731 = true := by kernel_rfl
theorem r1747 : run [] e1747 = true := by kernel_rfl
theorem r1779 : run [] e1779 = true := by kernel_rfl
theorem r1795 : run [] e1795 = true := by kernel_rfl
end Go.Proofs
namespace Go.Proofs
open Go Go.Abs
theorem r2418 : run [] e2418 = true := by kernel_rfl
theorem r2434 : run [] e2434 = true := by kernel_rfl
theorem r2479 : run [] e2479 = true := by kernel_rfl
end Go.Proofs
namespace Go.Proofs
open Go Go.Abs
theorem r2707 : run [e2619, e2686, e2706] e2707 = true := by kernel_rfl
theorem r2712 : run [] e2712 = true := by kernel_rfl
end Go.Proofs
namespace Go.Proofs
open Go Go.Abs
theorem r3130 : run [] e3130 = true := by kernel_rfl
end Go.Proofs
namespace Go.Proofs
open Go Go.Abs
theorem r3318 : run [] e3318 = true := by kernel_rfl
theorem r3320 : run [] e3320 = true := by kernel_rfl
theorem r3324 : roomQ [] e3324 1 none = true := by kernel_rfl
theorem rr3324 : roomQ [] e3324 1 (some 1) = true := by kernel_rfl
end Go.Proofs
