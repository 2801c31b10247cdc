/- Part 50 of the texts that lead to stropheStanzasCard_holds. No condition. -/
import Derived.Test.YteoeioodocjbiaaGreatDoorRows
import Derived.JoinedOf
import Derived.KernelRfl
set_option linter.unusedSimpArgs false
set_option linter.unusedVariables false
set_option linter.unnecessarySimpa false
namespace Go.Proofs.YteoeioodocjbiaaGreatDoor
open Go
set_option maxRecDepth 1000000
theorem fa3 : (mapsRowed Tryz.prog) = true := by kernel_rfl
theorem fa7 : ((Tryz.prog.stops == [])) = true := by kernel_rfl
theorem fa11 : ((Rows.stropheStanzasRow.unfollowed == Tryz.prog.unfollowed 3)) = true := by kernel_rfl
theorem fa15 : ((Rows.stropheStanzasRow.ifaces == (Tryz.f3.params.toList ++ Rows.stropheStanzasSpec.plain.varTypes Tryz.prog).any (Tryz.prog.ifacesRec ·))) = true := by kernel_rfl
theorem fa19 : (Rows.stropheStanzasSpec.vars.all (Tryz.prog.varReadable ·)) = true := by kernel_rfl
theorem fa23 : ((Rows.stropheStanzasRow.plainKeys == Tryz.prog.plainKeys)) = true := by kernel_rfl
theorem fa27 : ((Rows.stropheStanzasRow.lifted == Tryz.prog.liftsFinal)) = true := by kernel_rfl
theorem fa31 : ((Rows.stropheStanzasRow.veiled == (Tryz.f3.params.toList ++ Rows.stropheStanzasSpec.plain.varTypes Tryz.prog ++ Tryz.f3.resultTypes.toList).any (Tryz.prog.veiledRec ·))) = true := by kernel_rfl
end Go.Proofs.YteoeioodocjbiaaGreatDoor
namespace Go.Proofs.YteoeioodocjbiaaGreatDoor
open Go
set_option maxRecDepth 1000000
theorem fa4 : (Tryz.f3.params.all (Tryz.prog.readableRec ·)) = true := by kernel_rfl
theorem fa8 : ((Rows.stropheStanzasRow.knobs == [])) = true := by kernel_rfl
theorem fa12 : ((Rows.stropheStanzasRow.recurses == Tryz.prog.recurses 3)) = true := by kernel_rfl
theorem fa16 : ((Rows.stropheStanzasRow.mapsOut == Tryz.prog.mapsAmong Tryz.f3.resultTypes.toList)) = true := by kernel_rfl
theorem fa20 : (Tryz.f3.resultTypes.all (fun t => Tryz.prog.readableRec t && decide (t < Tryz.prog.types.size))) = true := by kernel_rfl
theorem fa24 : (Rows.stropheStanzasRow.shortTexts.isNone) = true := by kernel_rfl
theorem fa28 : ((Tryz.prog.make == some Rows.stropheStanzasRow.make)) = true := by kernel_rfl
theorem fa32 : (Rows.stropheStanzasRow.veiledFits Tryz.prog Tryz.f3.params.toList (Tryz.f3.params.toList ++ Rows.stropheStanzasSpec.plain.varTypes Tryz.prog ++ Tryz.f3.resultTypes.toList)) = true := by kernel_rfl
end Go.Proofs.YteoeioodocjbiaaGreatDoor
