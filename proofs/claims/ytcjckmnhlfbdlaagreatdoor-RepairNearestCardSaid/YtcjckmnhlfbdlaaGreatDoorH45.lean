/- Part 45 of the texts that lead to repairNearestCard_holds. No condition. -/
import Derived.Test.YtcjckmnhlfbdlaaGreatDoorRows
import Derived.JoinedOf
import Derived.KernelRfl
set_option linter.all false
namespace Go.Proofs.YtcjckmnhlfbdlaaGreatDoor
open Go
set_option maxRecDepth 1000000
theorem fa1 : (Rows.repairNearestRow.wf (OpenSpec.ofChange Rows.repairNearestSpec)) = true := by kernel_rfl
theorem fa5 : (namedTie Tryz.prog Rows.repairNearestRow.named Rows.repairNearestSpec.vars) = true := by kernel_rfl
theorem fa9 : ((Tryz.prog.stopKnobs == [])) = true := by kernel_rfl
theorem fa13 : ((Rows.repairNearestRow.named == Tryz.prog.varsNamed 3)) = true := by kernel_rfl
theorem fa17 : ((Rows.repairNearestRow.loops == (Tryz.f3.params.toList ++ Rows.repairNearestSpec.plain.varTypes Tryz.prog).any (Tryz.prog.loopsFrom ·))) = true := by kernel_rfl
theorem fa21 : ((Rows.repairNearestRow.ifacesOut == Tryz.f3.resultTypes.toList.any (Tryz.prog.ifacesRec ·))) = true := by kernel_rfl
theorem fa25 : (Tryz.prog.stopsHeard) = true := by kernel_rfl
theorem fa29 : ((Rows.repairNearestRow.kinds == (if Rows.repairNearestRow.domain.isEmpty then [] else Tryz.f3.params.toList.map fun t => match Tryz.prog.underlying t with | some (.int k) => some k | _ => none))) = true := by kernel_rfl
end Go.Proofs.YtcjckmnhlfbdlaaGreatDoor
namespace Go.Proofs.YtcjckmnhlfbdlaaGreatDoor
open Go
set_option maxRecDepth 1000000
theorem fa2 : (laidOutB Tryz.prog) = true := by kernel_rfl
theorem fa6 : ((Rows.repairNearestRow.stops == [])) = true := by kernel_rfl
theorem fa10 : ((Rows.repairNearestRow.inPlace == Tryz.prog.inPlace 3)) = true := by kernel_rfl
theorem fa14 : ((Rows.repairNearestRow.maps == (Tryz.f3.params.toList ++ Rows.repairNearestSpec.plain.varTypes Tryz.prog).any (Tryz.prog.mapsRec ·))) = true := by kernel_rfl
theorem fa18 : ((Rows.repairNearestRow.wideKeys == (Tryz.f3.params.toList ++ Rows.repairNearestSpec.plain.varTypes Tryz.prog ++ Tryz.f3.resultTypes.toList).any (Tryz.prog.wideKeysFrom ·))) = true := by kernel_rfl
theorem fa22 : ((Rows.repairNearestRow.loopsOut == Tryz.f3.resultTypes.toList.any (Tryz.prog.loopsFrom ·))) = true := by kernel_rfl
theorem fa26 : (Tryz.prog.mayEnter) = true := by kernel_rfl
theorem fa30 : ((Rows.repairNearestRow.pinned == Rows.repairNearestRow.pinnedBy)) = true := by kernel_rfl
end Go.Proofs.YtcjckmnhlfbdlaaGreatDoor
