/- Part 46 of the texts that lead to stropheStanzasCard_holds. No condition. -/
import Derived.Test.YteoeioodocjbiaaGreatDoorH35
set_option linter.unusedSimpArgs false
set_option linter.unusedVariables false
set_option linter.unnecessarySimpa false
namespace Go.Proofs
open Go Go.Abs
theorem c858_0 : headQ [e741, e744, e750, e753, e759, e765, e771, e772, e778, e784, e794, e805, e808, e811] e858 s858_0g s858_0h = true := by kernel_rfl
theorem c858_1 : itsQ [e741, e744, e750, e753, e759, e765, e771, e772, e778, e784, e794, e805, e808, e811] e858.f e858.i.length 18 s858_0g s858_0h s858_1g s858_1h = true := by kernel_rfl
end Go.Proofs
namespace Go.Proofs
open Go Go.Abs
theorem c858_6 : itsQ [e741, e744, e750, e753, e759, e765, e771, e772, e778, e784, e794, e805, e808, e811] e858.f e858.i.length 4 s858_5g s858_5h s858_6g s858_6h = true := by kernel_rfl
end Go.Proofs
