/- Part 36 of the texts that lead to repairNearestCard_holds. No condition. -/
import Derived.Test.YtcjckmnhlfbdlaaGreatDoorProg
import Derived.KernelRfl
import Derived.Test.YtcjckmnhlfbdlaaGreatDoorH8
set_option linter.all false
namespace Go.Proofs.YtcjckmnhlfbdlaaGreatDoor
open Go Go.Abs
@[go_sem] theorem ti3 : ti Tryz.prog 3 = some ⟨.int .i64, 1, 8, [.int .i64 0]⟩ := by kernel_rfl
@[go_sem] theorem ti4 : ti Tryz.prog 4 = some ⟨.bool, 1, 1, [.bool false]⟩ := by kernel_rfl
@[go_sem] theorem ti22 : ti Tryz.prog 22 = some ⟨.slice 26, 1, 24, [.slice none 0 0]⟩ := by kernel_rfl
@[go_sem] theorem ti23 : ti Tryz.prog 23 = some ⟨.slice 4, 1, 24, [.slice none 0 0]⟩ := by kernel_rfl
@[go_sem] theorem ti25 : ti Tryz.prog 25 = some ⟨.struct #[⟨ "Letters", 3, 0, false, "", "", 0⟩, ⟨ "Start", 3, 1, false, "", "", 8⟩, ⟨ "Next", 22, 2, false, "", "", 16⟩, ⟨ "Accept", 23, 3, false, "", "", 40⟩], 4, 64, [.int .i64 0, .int .i64 0, .slice none 0 0, .slice none 0 0]⟩ := by kernel_rfl
@[go_sem] theorem ti26 : ti Tryz.prog 26 = some ⟨.slice 3, 1, 24, [.slice none 0 0]⟩ := by kernel_rfl
@[go_sem] theorem ti29 : ti Tryz.prog 29 = some ⟨.slice 68, 1, 24, [.slice none 0 0]⟩ := by kernel_rfl
@[go_sem] theorem ti68 : ti Tryz.prog 68 = some ⟨.struct #[⟨ "Kind", 3, 0, false, "", "", 0⟩, ⟨ "At", 3, 1, false, "", "", 8⟩, ⟨ "Letter", 3, 2, false, "", "", 16⟩], 3, 24, [.int .i64 0, .int .i64 0, .int .i64 0]⟩ := by kernel_rfl
@[go_sem] theorem ti71 : ti Tryz.prog 71 = some ⟨.slice 29, 1, 24, [.slice none 0 0]⟩ := by kernel_rfl
@[go_sem] theorem ti105 : ti Tryz.prog 105 = some ⟨.pointer 107, 1, 8, [.pointer none]⟩ := by kernel_rfl
@[go_sem] theorem ti107 : ti Tryz.prog 107 = some ⟨.struct #[⟨ "a", 25, 0, false, "", "anceps/repair", 0⟩, ⟨ "letters", 26, 4, false, "", "anceps/repair", 64⟩, ⟨ "table", 22, 5, false, "", "anceps/repair", 88⟩, ⟨ "most", 3, 6, false, "", "anceps/repair", 112⟩, ⟨ "found", 71, 7, false, "", "anceps/repair", 120⟩], 8, 144, [.int .i64 0, .int .i64 0, .slice none 0 0, .slice none 0 0, .slice none 0 0, .slice none 0 0, .int .i64 0, .slice none 0 0]⟩ := by kernel_rfl
@[go_sem] theorem ti114 : ti Tryz.prog 114 = some ⟨.array 3 3, 3, 24, [.int .i64 0, .int .i64 0, .int .i64 0]⟩ := by kernel_rfl
end Go.Proofs.YtcjckmnhlfbdlaaGreatDoor
