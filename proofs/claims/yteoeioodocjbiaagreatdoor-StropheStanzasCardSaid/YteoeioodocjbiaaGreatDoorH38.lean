/- Part 38 of the texts that lead to stropheStanzasCard_holds. No condition. -/
import Derived.Test.YteoeioodocjbiaaGreatDoorH35
set_option linter.unusedSimpArgs false
set_option linter.unusedVariables false
set_option linter.unnecessarySimpa false
namespace Go.Proofs
open Go Go.Abs
theorem r194 : run [e175] e194 = true := by kernel_rfl
theorem r200 : run [e165, e149, e194, e175] e200 = true := by kernel_rfl
theorem r218 : run [] e218 = true := by kernel_rfl
theorem r227 : run [e218] e227 = true := by kernel_rfl
theorem r228 : run [e119, e200, e227] e228 = true := by kernel_rfl
theorem r237 : run [] e237 = true := by kernel_rfl
end Go.Proofs
namespace Go.Proofs
open Go Go.Abs
theorem r451 : run [e374] e451 = true := by kernel_rfl
theorem r453 : run [e447, e451, e382, e383] e453 = true := by kernel_rfl
theorem r454 : run [] e454 = true := by kernel_rfl
theorem r458 : run [e374] e458 = true := by kernel_rfl
theorem r460 : run [e454, e458, e382, e383] e460 = true := by kernel_rfl
theorem r461 : run [] e461 = true := by kernel_rfl
theorem r465 : run [e374] e465 = true := by kernel_rfl
end Go.Proofs
namespace Go.Proofs
open Go Go.Abs
theorem r583 : run [e581, e550, e383] e583 = true := by kernel_rfl
theorem r589 : run [e374] e589 = true := by kernel_rfl
theorem r591 : run [e589, e550, e383] e591 = true := by kernel_rfl
theorem r597 : run [e374] e597 = true := by kernel_rfl
theorem r602 : run [e597, e383] e602 = true := by kernel_rfl
end Go.Proofs
namespace Go.Proofs
open Go Go.Abs
theorem r778 : run [e772] e778 = true := by kernel_rfl
theorem r784 : run [e772] e784 = true := by kernel_rfl
theorem r794 : run [] e794 = true := by kernel_rfl
theorem r805 : run [e753] e805 = true := by kernel_rfl
theorem r808 : run [e753] e808 = true := by kernel_rfl
theorem r811 : run [e753] e811 = true := by kernel_rfl
end Go.Proofs
namespace Go.Proofs
open Go Go.Abs
theorem r1396 : run [] e1396 = true := by kernel_rfl
theorem r1423 : run [] e1423 = true := by kernel_rfl
theorem r1449 : run [] e1449 = true := by kernel_rfl
theorem r1478 : run [] e1478 = true := by kernel_rfl
end Go.Proofs
namespace Go.Proofs
open Go Go.Abs
theorem r2138 : run [] e2138 = true := by kernel_rfl
theorem r2154 : run [] e2154 = true := by kernel_rfl
theorem r2194 : run [] e2194 = true := by kernel_rfl
theorem r2210 : run [] e2210 = true := by kernel_rfl
end Go.Proofs
namespace Go.Proofs
open Go Go.Abs
theorem r2609 : run [e2606] e2609 = true := by kernel_rfl
theorem r2619 : run [e275] e2619 = true := by kernel_rfl
theorem r2638 : run [] e2638 = true := by kernel_rfl
end Go.Proofs
namespace Go.Proofs
open Go Go.Abs
theorem r2907 : run [] e2907 = true := by kernel_rfl
end Go.Proofs
namespace Go.Proofs
open Go Go.Abs
theorem r3200 : run [e3179] e3200 = true := by kernel_rfl
theorem r3217 : run [e2098] e3217 = true := by kernel_rfl
theorem r3225 : run [] e3225 = true := by kernel_rfl
theorem r3235 : run [e3217, e3225] e3235 = true := by kernel_rfl
theorem r3242 : run [] e3242 = true := by kernel_rfl
end Go.Proofs
