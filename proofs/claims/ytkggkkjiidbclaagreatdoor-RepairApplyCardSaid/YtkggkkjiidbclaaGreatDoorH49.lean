/- Part 49 of the texts that lead to repairApplyCard_holds. No condition. -/
import Derived.Test.YtkggkkjiidbclaaGreatDoorRows
import Derived.JoinedOf
import Derived.KernelRfl
set_option linter.unusedSimpArgs false
set_option linter.unusedVariables false
set_option linter.unnecessarySimpa false
namespace Go.Proofs.YtkggkkjiidbclaaGreatDoor
open Go
set_option maxRecDepth 1000000
theorem fa1 : (Rows.repairApplyRow.wf (OpenSpec.ofChange Rows.repairApplySpec)) = true := by kernel_rfl
theorem fa5 : (namedTie Tryz.prog Rows.repairApplyRow.named Rows.repairApplySpec.vars) = true := by kernel_rfl
theorem fa9 : ((Tryz.prog.stopKnobs == [])) = true := by kernel_rfl
theorem fa13 : ((Rows.repairApplyRow.named == Tryz.prog.varsNamed 3)) = true := by kernel_rfl
theorem fa17 : ((Rows.repairApplyRow.loops == (Tryz.f3.params.toList ++ Rows.repairApplySpec.plain.varTypes Tryz.prog).any (Tryz.prog.loopsFrom ·))) = true := by kernel_rfl
theorem fa21 : ((Rows.repairApplyRow.ifacesOut == Tryz.f3.resultTypes.toList.any (Tryz.prog.ifacesRec ·))) = true := by kernel_rfl
theorem fa25 : (Tryz.prog.stopsHeard) = true := by kernel_rfl
theorem fa29 : ((Rows.repairApplyRow.kinds == (if Rows.repairApplyRow.domain.isEmpty then [] else Tryz.f3.params.toList.map fun t => match Tryz.prog.underlying t with | some (.int k) => some k | _ => none))) = true := by kernel_rfl
end Go.Proofs.YtkggkkjiidbclaaGreatDoor
namespace Go.Proofs.YtkggkkjiidbclaaGreatDoor
open Go
set_option maxRecDepth 1000000
theorem fa2 : (laidOutB Tryz.prog) = true := by kernel_rfl
theorem fa6 : ((Rows.repairApplyRow.stops == [])) = true := by kernel_rfl
theorem fa10 : ((Rows.repairApplyRow.inPlace == Tryz.prog.inPlace 3)) = true := by kernel_rfl
theorem fa14 : ((Rows.repairApplyRow.maps == (Tryz.f3.params.toList ++ Rows.repairApplySpec.plain.varTypes Tryz.prog).any (Tryz.prog.mapsRec ·))) = true := by kernel_rfl
theorem fa18 : ((Rows.repairApplyRow.wideKeys == (Tryz.f3.params.toList ++ Rows.repairApplySpec.plain.varTypes Tryz.prog ++ Tryz.f3.resultTypes.toList).any (Tryz.prog.wideKeysFrom ·))) = true := by kernel_rfl
theorem fa22 : ((Rows.repairApplyRow.loopsOut == Tryz.f3.resultTypes.toList.any (Tryz.prog.loopsFrom ·))) = true := by kernel_rfl
theorem fa26 : (Tryz.prog.mayEnter) = true := by kernel_rfl
theorem fa30 : ((Rows.repairApplyRow.pinned == Rows.repairApplyRow.pinnedBy)) = true := by kernel_rfl
end Go.Proofs.YtkggkkjiidbclaaGreatDoor
