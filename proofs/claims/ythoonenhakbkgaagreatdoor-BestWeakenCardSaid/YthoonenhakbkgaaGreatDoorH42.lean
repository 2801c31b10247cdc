/- Part 42 of the texts that lead to bestWeakenCard_holds. No condition. -/
import Derived.Test.YthoonenhakbkgaaGreatDoorH31
set_option linter.unusedSimpArgs false
set_option linter.unusedVariables false
set_option linter.unnecessarySimpa false
namespace Go.Proofs
open Go Go.Abs
theorem c0_e : lastQ [] e0 s0_2g s0_2h = true := by kernel_rfl
end Go.Proofs
namespace Go.Proofs
open Go Go.Abs
theorem c489_5 : itsQ [e372, e375, e381, e384, e390, e396, e402, e403, e409, e415, e425, e436, e439, e442] e489.f e489.i.length 4 s489_4g s489_4h s489_5g s489_5h = true := by kernel_rfl
end Go.Proofs
