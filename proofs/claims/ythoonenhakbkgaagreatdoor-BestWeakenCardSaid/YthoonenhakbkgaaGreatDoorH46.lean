/- Part 46 of the texts that lead to bestWeakenCard_holds. No condition. -/
import Derived.Test.YthoonenhakbkgaaGreatDoorRows
import Derived.JoinedOf
import Derived.KernelRfl
set_option linter.unusedSimpArgs false
set_option linter.unusedVariables false
set_option linter.unnecessarySimpa false
namespace Go.Proofs.YthoonenhakbkgaaGreatDoor
open Go
set_option maxRecDepth 1000000
theorem fa1 : (Rows.bestWeakenRow.wf (OpenSpec.ofChange Rows.bestWeakenSpec)) = true := by kernel_rfl
theorem fa5 : (namedTie Tryz.prog Rows.bestWeakenRow.named Rows.bestWeakenSpec.vars) = true := by kernel_rfl
theorem fa9 : ((Tryz.prog.stopKnobs == [])) = true := by kernel_rfl
theorem fa13 : ((Rows.bestWeakenRow.named == Tryz.prog.varsNamed 3)) = true := by kernel_rfl
theorem fa17 : ((Rows.bestWeakenRow.loops == (Tryz.f3.params.toList ++ Rows.bestWeakenSpec.plain.varTypes Tryz.prog).any (Tryz.prog.loopsFrom ·))) = true := by kernel_rfl
theorem fa21 : ((Rows.bestWeakenRow.ifacesOut == Tryz.f3.resultTypes.toList.any (Tryz.prog.ifacesRec ·))) = true := by kernel_rfl
theorem fa25 : (Tryz.prog.stopsHeard) = true := by kernel_rfl
theorem fa29 : ((Rows.bestWeakenRow.kinds == (if Rows.bestWeakenRow.domain.isEmpty then [] else Tryz.f3.params.toList.map fun t => match Tryz.prog.underlying t with | some (.int k) => some k | _ => none))) = true := by kernel_rfl
end Go.Proofs.YthoonenhakbkgaaGreatDoor
namespace Go.Proofs.YthoonenhakbkgaaGreatDoor
open Go
set_option maxRecDepth 1000000
theorem fa2 : (laidOutB Tryz.prog) = true := by kernel_rfl
theorem fa6 : ((Rows.bestWeakenRow.stops == [])) = true := by kernel_rfl
theorem fa10 : ((Rows.bestWeakenRow.inPlace == Tryz.prog.inPlace 3)) = true := by kernel_rfl
theorem fa14 : ((Rows.bestWeakenRow.maps == (Tryz.f3.params.toList ++ Rows.bestWeakenSpec.plain.varTypes Tryz.prog).any (Tryz.prog.mapsRec ·))) = true := by kernel_rfl
theorem fa18 : ((Rows.bestWeakenRow.wideKeys == (Tryz.f3.params.toList ++ Rows.bestWeakenSpec.plain.varTypes Tryz.prog ++ Tryz.f3.resultTypes.toList).any (Tryz.prog.wideKeysFrom ·))) = true := by kernel_rfl
theorem fa22 : ((Rows.bestWeakenRow.loopsOut == Tryz.f3.resultTypes.toList.any (Tryz.prog.loopsFrom ·))) = true := by kernel_rfl
theorem fa26 : (Tryz.prog.mayEnter) = true := by kernel_rfl
theorem fa30 : ((Rows.bestWeakenRow.pinned == Rows.bestWeakenRow.pinnedBy)) = true := by kernel_rfl
end Go.Proofs.YthoonenhakbkgaaGreatDoor
