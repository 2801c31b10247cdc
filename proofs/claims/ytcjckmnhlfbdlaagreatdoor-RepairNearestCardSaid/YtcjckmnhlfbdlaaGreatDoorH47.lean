/- Part 47 of the texts that lead to repairNearestCard_holds. No condition. -/
import Derived.Test.YtcjckmnhlfbdlaaGreatDoorH45
import Derived.Test.YtcjckmnhlfbdlaaGreatDoorH46
set_option linter.all false
namespace Go.Proofs.YtcjckmnhlfbdlaaGreatDoor
open Go
set_option maxRecDepth 1000000
theorem and2 {a b : Bool} (h1 : a = true) (h2 : b = true) : (a && b) = true := by rw [h1, h2]; rfl
theorem closedRow : joinedFacts Tryz.prog 3 Tryz.f3 Rows.repairNearestSpec Rows.repairNearestRow = true := by
 unfold joinedFacts
 exact (and2 (and2 (and2 (and2 (and2 (and2 (and2 (and2 (and2 (and2 (and2 (and2 (and2 (and2 (and2 (and2 (and2 (and2 (and2 (and2 (and2 (and2 (and2 (and2 (and2 (and2 (and2 (and2 (and2 (and2 (and2 fa1 fa2) fa3) fa4) fa5) fa6) fa7) fa8) fa9) fa10) fa11) fa12) fa13) fa14) fa15) fa16) fa17) fa18) fa19) fa20) fa21) fa22) fa23) fa24) fa25) fa26) fa27) fa28) fa29) fa30) fa31) fa32)
theorem fnRow : Tryz.pinned.checked.prog.funcNamed Rows.repairNearestRow.func = some 3 := by kernel_rfl
theorem fn3 : Tryz.prog.funcs[3]? = some Tryz.f3 := by kernel_rfl
theorem instRow : Tryz.f3.isInstance Tryz.pinned.checked.prog Rows.repairNearestRow.origin Rows.repairNearestRow.targs := of_decide_eq_true (by kernel_rfl)
theorem wrapRow : Tryz.f3.isWrapper Tryz.pinned.checked.prog Rows.repairNearestRow.wrapper Rows.repairNearestRow.mainSum := by unfold Func.isWrapper; first | (rw [if_pos (by decide +kernel)]; kernel_rfl) | (rw [if_neg (by decide +kernel)]; exact ⟨rfl, rfl⟩)
end Go.Proofs.YtcjckmnhlfbdlaaGreatDoor
