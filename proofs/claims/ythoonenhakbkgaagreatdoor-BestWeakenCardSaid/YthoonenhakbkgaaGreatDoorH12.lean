/- Part 12 of the texts that lead to bestWeakenCard_holds. No condition. -/
import Derived.Test.YthoonenhakbkgaaGreatDoorProg
import Derived.KernelRfl
import Derived.Test.YthoonenhakbkgaaGreatDoorH11
set_option linter.unusedSimpArgs false
set_option linter.unusedVariables false
set_option linter.unnecessarySimpa false
namespace Go.Proofs.YthoonenhakbkgaaGreatDoor
open Go Go.Abs
@[go_sem] theorem ti3 : ti Tryz.prog 3 = some ⟨.int .i64, 1, 8, [.int .i64 0]⟩ := by kernel_rfl
@[go_sem] theorem ti22 : ti Tryz.prog 22 = some ⟨.slice 32, 1, 24, [.slice none 0 0]⟩ := by kernel_rfl
@[go_sem] theorem ti24 : ti Tryz.prog 24 = some ⟨.struct #[⟨ "Cost", 3, 0, false, "", "", 0⟩, ⟨ "Bounds", 22, 1, false, "", "", 8⟩], 2, 32, [.int .i64 0, .slice none 0 0]⟩ := by kernel_rfl
@[go_sem] theorem ti32 : ti Tryz.prog 32 = some ⟨.struct #[⟨ "Place", 3, 0, false, "", "", 0⟩, ⟨ "State", 3, 1, false, "", "", 8⟩, ⟨ "Value", 3, 2, false, "", "", 16⟩], 3, 24, [.int .i64 0, .int .i64 0, .int .i64 0]⟩ := by kernel_rfl
end Go.Proofs.YthoonenhakbkgaaGreatDoor
