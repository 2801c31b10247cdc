/- Part 31 of the texts that lead to repairNearestCard_holds. No condition. -/
import Derived.Test.YtcjckmnhlfbdlaaGreatDoorH23
set_option linter.all false
namespace Go.Proofs
open Go Go.Abs
theorem c0_2 : itsQ [] e0.f e0.i.length 301 s0_1g s0_1h s0_2g s0_2h = true := by kernel_rfl
end Go.Proofs
namespace Go.Proofs
open Go Go.Abs
theorem c489_4 : itsQ [e372, e375, e381, e384, e390, e396, e402, e403, e409, e415, e425, e436, e439, e442] e489.f e489.i.length 5 s489_3g s489_3h s489_4g s489_4h = true := by kernel_rfl
end Go.Proofs
