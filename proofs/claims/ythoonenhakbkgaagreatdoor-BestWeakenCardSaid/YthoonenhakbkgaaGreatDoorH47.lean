/- Part 47 of the texts that lead to bestWeakenCard_holds. No condition. -/
import Derived.Test.YthoonenhakbkgaaGreatDoorRows
import Derived.JoinedOf
import Derived.KernelRfl
set_option linter.unusedSimpArgs false
set_option linter.unusedVariables false
set_option linter.unnecessarySimpa false
namespace Go.Proofs.YthoonenhakbkgaaGreatDoor
open Go
set_option maxRecDepth 1000000
theorem fa3 : (mapsRowed Tryz.prog) = true := by kernel_rfl
theorem fa7 : ((Tryz.prog.stops == [])) = true := by kernel_rfl
theorem fa11 : ((Rows.bestWeakenRow.unfollowed == Tryz.prog.unfollowed 3)) = true := by kernel_rfl
theorem fa15 : ((Rows.bestWeakenRow.ifaces == (Tryz.f3.params.toList ++ Rows.bestWeakenSpec.plain.varTypes Tryz.prog).any (Tryz.prog.ifacesRec ·))) = true := by kernel_rfl
theorem fa19 : (Rows.bestWeakenSpec.vars.all (Tryz.prog.varReadable ·)) = true := by kernel_rfl
theorem fa23 : ((Rows.bestWeakenRow.plainKeys == Tryz.prog.plainKeys)) = true := by kernel_rfl
theorem fa27 : ((Rows.bestWeakenRow.lifted == Tryz.prog.liftsFinal)) = true := by kernel_rfl
theorem fa31 : ((Rows.bestWeakenRow.veiled == (Tryz.f3.params.toList ++ Rows.bestWeakenSpec.plain.varTypes Tryz.prog ++ Tryz.f3.resultTypes.toList).any (Tryz.prog.veiledRec ·))) = true := by kernel_rfl
end Go.Proofs.YthoonenhakbkgaaGreatDoor
namespace Go.Proofs.YthoonenhakbkgaaGreatDoor
open Go
set_option maxRecDepth 1000000
theorem fa4 : (Tryz.f3.params.all (Tryz.prog.readableRec ·)) = true := by kernel_rfl
theorem fa8 : ((Rows.bestWeakenRow.knobs == [])) = true := by kernel_rfl
theorem fa12 : ((Rows.bestWeakenRow.recurses == Tryz.prog.recurses 3)) = true := by kernel_rfl
theorem fa16 : ((Rows.bestWeakenRow.mapsOut == Tryz.prog.mapsAmong Tryz.f3.resultTypes.toList)) = true := by kernel_rfl
theorem fa20 : (Tryz.f3.resultTypes.all (fun t => Tryz.prog.readableRec t && decide (t < Tryz.prog.types.size))) = true := by kernel_rfl
theorem fa24 : (Rows.bestWeakenRow.shortTexts.isNone) = true := by kernel_rfl
theorem fa28 : ((Tryz.prog.make == some Rows.bestWeakenRow.make)) = true := by kernel_rfl
theorem fa32 : (Rows.bestWeakenRow.veiledFits Tryz.prog Tryz.f3.params.toList (Tryz.f3.params.toList ++ Rows.bestWeakenSpec.plain.varTypes Tryz.prog ++ Tryz.f3.resultTypes.toList)) = true := by kernel_rfl
end Go.Proofs.YthoonenhakbkgaaGreatDoor
