/- Part 32 of the texts that lead to repairNearestCard_holds. No condition. -/
import Derived.Test.YtcjckmnhlfbdlaaGreatDoorH23
set_option linter.all false
namespace Go.Proofs
open Go Go.Abs
theorem c0_e : lastQ [] e0 s0_2g s0_2h = true := by kernel_rfl
end Go.Proofs
namespace Go.Proofs
open Go Go.Abs
theorem c489_5 : itsQ [e372, e375, e381, e384, e390, e396, e402, e403, e409, e415, e425, e436, e439, e442] e489.f e489.i.length 4 s489_4g s489_4h s489_5g s489_5h = true := by kernel_rfl
end Go.Proofs
