/- Part 12 of the texts that lead to repairApplyCard_holds. No condition. -/
import Derived.Test.YtkggkkjiidbclaaGreatDoorProg
import Derived.KernelRfl
import Derived.Test.YtkggkkjiidbclaaGreatDoorH11
set_option linter.unusedSimpArgs false
set_option linter.unusedVariables false
set_option linter.unnecessarySimpa false
namespace Go.Proofs.YtkggkkjiidbclaaGreatDoor
open Go Go.Abs
@[go_sem] theorem ti3 : ti Tryz.prog 3 = some ⟨.int .i64, 1, 8, [.int .i64 0]⟩ := by kernel_rfl
@[go_sem] theorem ti4 : ti Tryz.prog 4 = some ⟨.bool, 1, 1, [.bool false]⟩ := by kernel_rfl
@[go_sem] theorem ti9 : ti Tryz.prog 9 = some ⟨.string, 1, 16, [.string ⟨#[]⟩]⟩ := by kernel_rfl
@[go_sem] theorem ti22 : ti Tryz.prog 22 = some ⟨.slice 3, 1, 24, [.slice none 0 0]⟩ := by kernel_rfl
@[go_sem] theorem ti23 : ti Tryz.prog 23 = some ⟨.slice 31, 1, 24, [.slice none 0 0]⟩ := by kernel_rfl
@[go_sem] theorem ti25 : ti Tryz.prog 25 = some ⟨.int .i64, 1, 8, [.int .i64 0]⟩ := by kernel_rfl
@[go_sem] theorem ti31 : ti Tryz.prog 31 = some ⟨.struct #[⟨ "Kind", 3, 0, false, "", "", 0⟩, ⟨ "At", 3, 1, false, "", "", 8⟩, ⟨ "Letter", 3, 2, false, "", "", 16⟩], 3, 24, [.int .i64 0, .int .i64 0, .int .i64 0]⟩ := by kernel_rfl
end Go.Proofs.YtkggkkjiidbclaaGreatDoor
