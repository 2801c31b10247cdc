/- Part 42 of the texts that lead to stropheStanzasCard_holds. No condition. -/
import Derived.Test.YteoeioodocjbiaaGreatDoorH35
set_option linter.unusedSimpArgs false
set_option linter.unusedVariables false
set_option linter.unnecessarySimpa false
namespace Go.Proofs
open Go Go.Abs
theorem r392 : run [e390, e382, e383] e392 = true := by kernel_rfl
theorem r398 : run [e374] e398 = true := by kernel_rfl
theorem r400 : run [e398, e382, e383] e400 = true := by kernel_rfl
theorem r406 : run [e374] e406 = true := by kernel_rfl
theorem r408 : run [e406, e382, e383] e408 = true := by kernel_rfl
end Go.Proofs
namespace Go.Proofs
open Go Go.Abs
theorem r522 : run [e374] e522 = true := by kernel_rfl
theorem r524 : run [e518, e522, e382, e383] e524 = true := by kernel_rfl
theorem r525 : run [] e525 = true := by kernel_rfl
theorem r529 : run [e374] e529 = true := by kernel_rfl
theorem r531 : run [e525, e529, e382, e383] e531 = true := by kernel_rfl
theorem r532 : run [] e532 = true := by kernel_rfl
theorem r536 : run [e374] e536 = true := by kernel_rfl
end Go.Proofs
namespace Go.Proofs
open Go Go.Abs
theorem r679 : run [e374] e679 = true := by kernel_rfl
theorem r681 : run [e679, e550, e383] e681 = true := by kernel_rfl
theorem r687 : run [e374] e687 = true := by kernel_rfl
theorem r689 : run [e687, e550, e383] e689 = true := by kernel_rfl
theorem r695 : run [e374] e695 = true := by kernel_rfl
theorem r697 : run [e695, e550, e383] e697 = true := by kernel_rfl
end Go.Proofs
namespace Go.Proofs
open Go Go.Abs
theorem r1146 : run [] e1146 = true := by kernel_rfl
theorem r1160 : run [] e1160 = true := by kernel_rfl
theorem r1171 : run [] e1171 = true := by kernel_rfl
theorem r1186 : run [] e1186 = true := by kernel_rfl
theorem r1197 : run [] e1197 = true := by kernel_rfl
theorem r1213 : run [] e1213 = true := by kernel_rfl
end Go.Proofs
namespace Go.Proofs
open Go Go.Abs
theorem r1828 : run [] e1828 = true := by kernel_rfl
theorem r1844 : run [] e1844 = true := by kernel_rfl
theorem r1878 : run [] e1878 = true := by kernel_rfl
theorem r1894 : run [] e1894 = true := by kernel_rfl
end Go.Proofs
namespace Go.Proofs
open Go Go.Abs
theorem r2495 : run [] e2495 = true := by kernel_rfl
theorem r2541 : run [] e2541 = true := by kernel_rfl
theorem r2557 : run [] e2557 = true := by kernel_rfl
end Go.Proofs
namespace Go.Proofs
open Go Go.Abs
theorem r2808 : run [] e2808 = true := by kernel_rfl
end Go.Proofs
namespace Go.Proofs
open Go Go.Abs
theorem r3136 : run [] e3136 = true := by kernel_rfl
end Go.Proofs
namespace Go.Proofs
open Go Go.Abs
theorem r3352 : run [e3242] e3352 = true := by kernel_rfl
theorem r3358 : run [] e3358 = true := by kernel_rfl
theorem r3361 : run [e3352, e3358] e3361 = true := by kernel_rfl
end Go.Proofs
