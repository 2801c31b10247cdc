/- Part 47 of the texts that lead to stropheStanzasCard_holds. No condition. -/
import Derived.Test.YteoeioodocjbiaaGreatDoorH35
set_option linter.unusedSimpArgs false
set_option linter.unusedVariables false
set_option linter.unnecessarySimpa false
namespace Go.Proofs
open Go Go.Abs
theorem c858_2 : itsQ [e741, e744, e750, e753, e759, e765, e771, e772, e778, e784, e794, e805, e808, e811] e858.f e858.i.length 8 s858_1g s858_1h s858_2g s858_2h = true := by kernel_rfl
end Go.Proofs
namespace Go.Proofs
open Go Go.Abs
theorem c858_e : lastQ [e741, e744, e750, e753, e759, e765, e771, e772, e778, e784, e794, e805, e808, e811] e858 s858_6g s858_6h = true := by kernel_rfl
end Go.Proofs
