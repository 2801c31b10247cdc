/- Part 12 of the texts that lead to stropheStanzasCard_holds. No condition. -/
import Derived.Test.YteoeioodocjbiaaGreatDoorProg
import Derived.KernelRfl
import Derived.Test.YteoeioodocjbiaaGreatDoorH11
set_option linter.unusedSimpArgs false
set_option linter.unusedVariables false
set_option linter.unnecessarySimpa false
namespace Go.Proofs.YteoeioodocjbiaaGreatDoor
open Go Go.Abs
@[go_sem] theorem ti3 : ti Tryz.prog 3 = some ⟨.int .i64, 1, 8, [.int .i64 0]⟩ := by kernel_rfl
@[go_sem] theorem ti9 : ti Tryz.prog 9 = some ⟨.string, 1, 16, [.string ⟨#[]⟩]⟩ := by kernel_rfl
@[go_sem] theorem ti22 : ti Tryz.prog 22 = some ⟨.slice 9, 1, 24, [.slice none 0 0]⟩ := by kernel_rfl
@[go_sem] theorem ti24 : ti Tryz.prog 24 = some ⟨.slice 22, 1, 24, [.slice none 0 0]⟩ := by kernel_rfl
end Go.Proofs.YteoeioodocjbiaaGreatDoor
