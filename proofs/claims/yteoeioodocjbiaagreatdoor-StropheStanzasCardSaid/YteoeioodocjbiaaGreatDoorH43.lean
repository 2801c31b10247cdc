/- Part 43 of the texts that lead to stropheStanzasCard_holds. No condition. -/
import Derived.Test.YteoeioodocjbiaaGreatDoorH35
set_option linter.unusedSimpArgs false
set_option linter.unusedVariables false
set_option linter.unnecessarySimpa false
namespace Go.Proofs
open Go Go.Abs
theorem c369_0 : headQ [] e369 s369_0g s369_0h = true := by kernel_rfl
theorem c369_1 : itsQ [] e369.f e369.i.length 302 s369_0g s369_0h s369_1g s369_1h = true := by kernel_rfl
end Go.Proofs
namespace Go.Proofs
open Go Go.Abs
theorem c858_3 : itsQ [e741, e744, e750, e753, e759, e765, e771, e772, e778, e784, e794, e805, e808, e811] e858.f e858.i.length 6 s858_2g s858_2h s858_3g s858_3h = true := by kernel_rfl
end Go.Proofs
