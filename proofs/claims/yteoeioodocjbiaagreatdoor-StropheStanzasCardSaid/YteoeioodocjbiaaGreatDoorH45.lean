/- Part 45 of the texts that lead to stropheStanzasCard_holds. No condition. -/
import Derived.Test.YteoeioodocjbiaaGreatDoorH35
set_option linter.unusedSimpArgs false
set_option linter.unusedVariables false
set_option linter.unnecessarySimpa false
namespace Go.Proofs
open Go Go.Abs
theorem c369_e : lastQ [] e369 s369_2g s369_2h = true := by kernel_rfl
end Go.Proofs
namespace Go.Proofs
open Go Go.Abs
theorem c858_5 : itsQ [e741, e744, e750, e753, e759, e765, e771, e772, e778, e784, e794, e805, e808, e811] e858.f e858.i.length 4 s858_4g s858_4h s858_5g s858_5h = true := by kernel_rfl
end Go.Proofs
