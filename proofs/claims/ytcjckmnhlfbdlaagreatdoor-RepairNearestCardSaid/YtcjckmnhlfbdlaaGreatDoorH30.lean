/- Part 30 of the texts that lead to repairNearestCard_holds. No condition. -/
import Derived.Test.YtcjckmnhlfbdlaaGreatDoorH23
set_option linter.all false
namespace Go.Proofs
open Go Go.Abs
theorem c0_0 : headQ [] e0 s0_0g s0_0h = true := by kernel_rfl
theorem c0_1 : itsQ [] e0.f e0.i.length 302 s0_0g s0_0h s0_1g s0_1h = true := by kernel_rfl
end Go.Proofs
namespace Go.Proofs
open Go Go.Abs
theorem c489_3 : itsQ [e372, e375, e381, e384, e390, e396, e402, e403, e409, e415, e425, e436, e439, e442] e489.f e489.i.length 6 s489_2g s489_2h s489_3g s489_3h = true := by kernel_rfl
end Go.Proofs
