/- Part 48 of the texts that lead to repairNearestCard_holds. No condition. -/
import Derived.Test.YtcjckmnhlfbdlaaGreatDoorRows
import Derived.KernelRfl
import GoSem.ClaimGoes
set_option linter.all false
namespace Go.Proofs.YtcjckmnhlfbdlaaGreatDoor
open Go
set_option maxRecDepth 1000000
theorem goes_none {P : Program} (h : P.funcs.toList.any Func.goes = false) (f : FuncId) : P.goes f = false := by
 have h2 : P.funcs.any Func.goes = false := by rw [← Array.any_toList]; exact h
 unfold Program.goes
 rw [h2, Bool.and_false, Bool.or_false]
 rw [List.any_eq_false]
 intro g _
 cases hg : P.funcs[g]? with
 | none => simp
 | some fn =>
  have := (List.any_eq_false.1 h) fn (by rw [Array.mem_toList_iff]; exact Array.mem_of_getElem? hg)
  simpa using this
theorem allGoes : Tryz.prog.funcs.toList.any Func.goes = false := by kernel_rfl
theorem goesRow : false = Rows.repairNearestRow.goesBy Tryz.pinned.checked.prog := by
 have e : Rows.repairNearestRow.goesBy Tryz.pinned.checked.prog = (Tryz.prog.funcNamed Rows.repairNearestRow.func).any Tryz.prog.goes := by
  show (Tryz.prog.goesFrom Rows.repairNearestRow.func || false) = _
  rw [Bool.or_false]; rfl
 rw [e]
 cases Tryz.prog.funcNamed Rows.repairNearestRow.func with
 | none => rfl
 | some f =>
  rw [Option.any_some, goes_none allGoes]
end Go.Proofs.YtcjckmnhlfbdlaaGreatDoor
