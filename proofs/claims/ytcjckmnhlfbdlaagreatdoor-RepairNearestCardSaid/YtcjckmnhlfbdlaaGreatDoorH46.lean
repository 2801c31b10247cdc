/- Part 46 of the texts that lead to repairNearestCard_holds. No condition. -/
import Derived.Test.YtcjckmnhlfbdlaaGreatDoorRows
import Derived.JoinedOf
import Derived.KernelRfl
set_option linter.all false
namespace Go.Proofs.YtcjckmnhlfbdlaaGreatDoor
open Go
set_option maxRecDepth 1000000
theorem fa3 : (mapsRowed Tryz.prog) = true := by kernel_rfl
theorem fa7 : ((Tryz.prog.stops == [])) = true := by kernel_rfl
theorem fa11 : ((Rows.repairNearestRow.unfollowed == Tryz.prog.unfollowed 3)) = true := by kernel_rfl
theorem fa15 : ((Rows.repairNearestRow.ifaces == (Tryz.f3.params.toList ++ Rows.repairNearestSpec.plain.varTypes Tryz.prog).any (Tryz.prog.ifacesRec ·))) = true := by kernel_rfl
theorem fa19 : (Rows.repairNearestSpec.vars.all (Tryz.prog.varReadable ·)) = true := by kernel_rfl
theorem fa23 : ((Rows.repairNearestRow.plainKeys == Tryz.prog.plainKeys)) = true := by kernel_rfl
theorem fa27 : ((Rows.repairNearestRow.lifted == Tryz.prog.liftsFinal)) = true := by kernel_rfl
theorem fa31 : ((Rows.repairNearestRow.veiled == (Tryz.f3.params.toList ++ Rows.repairNearestSpec.plain.varTypes Tryz.prog ++ Tryz.f3.resultTypes.toList).any (Tryz.prog.veiledRec ·))) = true := by kernel_rfl
end Go.Proofs.YtcjckmnhlfbdlaaGreatDoor
namespace Go.Proofs.YtcjckmnhlfbdlaaGreatDoor
open Go
set_option maxRecDepth 1000000
theorem fa4 : (Tryz.f3.params.all (Tryz.prog.readableRec ·)) = true := by kernel_rfl
theorem fa8 : ((Rows.repairNearestRow.knobs == [])) = true := by kernel_rfl
theorem fa12 : ((Rows.repairNearestRow.recurses == Tryz.prog.recurses 3)) = true := by kernel_rfl
theorem fa16 : ((Rows.repairNearestRow.mapsOut == Tryz.prog.mapsAmong Tryz.f3.resultTypes.toList)) = true := by kernel_rfl
theorem fa20 : (Tryz.f3.resultTypes.all (fun t => Tryz.prog.readableRec t && decide (t < Tryz.prog.types.size))) = true := by kernel_rfl
theorem fa24 : (Rows.repairNearestRow.shortTexts.isNone) = true := by kernel_rfl
theorem fa28 : ((Tryz.prog.make == some Rows.repairNearestRow.make)) = true := by kernel_rfl
theorem fa32 : (Rows.repairNearestRow.veiledFits Tryz.prog Tryz.f3.params.toList (Tryz.f3.params.toList ++ Rows.repairNearestSpec.plain.varTypes Tryz.prog ++ Tryz.f3.resultTypes.toList)) = true := by kernel_rfl
end Go.Proofs.YtcjckmnhlfbdlaaGreatDoor
