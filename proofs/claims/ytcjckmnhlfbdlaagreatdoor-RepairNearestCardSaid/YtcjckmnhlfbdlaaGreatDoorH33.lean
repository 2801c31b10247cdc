/- Part 33 of the texts that lead to repairNearestCard_holds. No condition. -/
import Derived.Test.YtcjckmnhlfbdlaaGreatDoorH23
set_option linter.all false
namespace Go.Proofs
open Go Go.Abs
theorem c489_0 : headQ [e372, e375, e381, e384, e390, e396, e402, e403, e409, e415, e425, e436, e439, e442] e489 s489_0g s489_0h = true := by kernel_rfl
theorem c489_1 : itsQ [e372, e375, e381, e384, e390, e396, e402, e403, e409, e415, e425, e436, e439, e442] e489.f e489.i.length 18 s489_0g s489_0h s489_1g s489_1h = true := by kernel_rfl
end Go.Proofs
namespace Go.Proofs
open Go Go.Abs
theorem c489_6 : itsQ [e372, e375, e381, e384, e390, e396, e402, e403, e409, e415, e425, e436, e439, e442] e489.f e489.i.length 4 s489_5g s489_5h s489_6g s489_6h = true := by kernel_rfl
end Go.Proofs
