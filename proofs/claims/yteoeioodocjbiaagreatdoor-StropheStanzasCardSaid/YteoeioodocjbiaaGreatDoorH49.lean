/- Part 49 of the texts that lead to stropheStanzasCard_holds. No condition. -/
import Derived.Test.YteoeioodocjbiaaGreatDoorRows
import Derived.JoinedOf
import Derived.KernelRfl
set_option linter.unusedSimpArgs false
set_option linter.unusedVariables false
set_option linter.unnecessarySimpa false
namespace Go.Proofs.YteoeioodocjbiaaGreatDoor
open Go
set_option maxRecDepth 1000000
theorem fa1 : (Rows.stropheStanzasRow.wf (OpenSpec.ofChange Rows.stropheStanzasSpec)) = true := by kernel_rfl
theorem fa5 : (namedTie Tryz.prog Rows.stropheStanzasRow.named Rows.stropheStanzasSpec.vars) = true := by kernel_rfl
theorem fa9 : ((Tryz.prog.stopKnobs == [])) = true := by kernel_rfl
theorem fa13 : ((Rows.stropheStanzasRow.named == Tryz.prog.varsNamed 3)) = true := by kernel_rfl
theorem fa17 : ((Rows.stropheStanzasRow.loops == (Tryz.f3.params.toList ++ Rows.stropheStanzasSpec.plain.varTypes Tryz.prog).any (Tryz.prog.loopsFrom ·))) = true := by kernel_rfl
theorem fa21 : ((Rows.stropheStanzasRow.ifacesOut == Tryz.f3.resultTypes.toList.any (Tryz.prog.ifacesRec ·))) = true := by kernel_rfl
theorem fa25 : (Tryz.prog.stopsHeard) = true := by kernel_rfl
theorem fa29 : ((Rows.stropheStanzasRow.kinds == (if Rows.stropheStanzasRow.domain.isEmpty then [] else Tryz.f3.params.toList.map fun t => match Tryz.prog.underlying t with | some (.int k) => some k | _ => none))) = true := by kernel_rfl
end Go.Proofs.YteoeioodocjbiaaGreatDoor
namespace Go.Proofs.YteoeioodocjbiaaGreatDoor
open Go
set_option maxRecDepth 1000000
theorem fa2 : (laidOutB Tryz.prog) = true := by kernel_rfl
theorem fa6 : ((Rows.stropheStanzasRow.stops == [])) = true := by kernel_rfl
theorem fa10 : ((Rows.stropheStanzasRow.inPlace == Tryz.prog.inPlace 3)) = true := by kernel_rfl
theorem fa14 : ((Rows.stropheStanzasRow.maps == (Tryz.f3.params.toList ++ Rows.stropheStanzasSpec.plain.varTypes Tryz.prog).any (Tryz.prog.mapsRec ·))) = true := by kernel_rfl
theorem fa18 : ((Rows.stropheStanzasRow.wideKeys == (Tryz.f3.params.toList ++ Rows.stropheStanzasSpec.plain.varTypes Tryz.prog ++ Tryz.f3.resultTypes.toList).any (Tryz.prog.wideKeysFrom ·))) = true := by kernel_rfl
theorem fa22 : ((Rows.stropheStanzasRow.loopsOut == Tryz.f3.resultTypes.toList.any (Tryz.prog.loopsFrom ·))) = true := by kernel_rfl
theorem fa26 : (Tryz.prog.mayEnter) = true := by kernel_rfl
theorem fa30 : ((Rows.stropheStanzasRow.pinned == Rows.stropheStanzasRow.pinnedBy)) = true := by kernel_rfl
end Go.Proofs.YteoeioodocjbiaaGreatDoor
