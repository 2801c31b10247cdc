/-
  DERIVED. GIVEN WITH THE SEED: THE CARDS: each row of YtkggkkjiidbclaaGreatDoorRows.lean that lists a variable, with what it lists TIED to the program's text (the seventh form; the later family's looks); each row that meets fmt, with fmt's text TOLD by the authors' own Lean function (tested against real Go, not proved from fmt's source: count such statements apart). THE CARD IS WHAT COUNTS. Prove the row's statement (the work); the ties are given (YtkggkkjiidbclaaGreatDoorTie.lean); close each card by the builder's one call (the guide's Derived/Test/ToyasCard.lean, 'card_holds'). Laid BY PROGRAM, IN A SANDBOX (cutbox-door.mjs). By AI agents, Wed Nov 11 2026. No macro, syntax, notation, axiom, sorry.
-/
import Derived.Test.YtkggkkjiidbclaaGreatDoorRows
import GoSem.ClaimSeven
namespace Go.Proofs.YtkggkkjiidbclaaGreatDoor
namespace Rows

/-- THE TIED CARD OF 'ancepslaw34.RepairApply'. -/
def repairApplyCard : Claim7 := { stood := { row := repairApplyRow, standIns := [], harness := (true, "d3541d0d4b5f5f5cd1a1c92762fbb0fb9be8498bca2b291e8cf0d4593980e630"), looks := false }, kinds := [], alts := [], laidByText := true, laidKinds := [.data, .data, .data], laidTests := true, laidLooks := .later }
def RepairApplyCardSaid : Prop := Claim7.holds Tryz.pinned (.plain (OpenSpec.ofChange repairApplySpec)) repairApplyCard

/-- THE SECOND FORM's CARD OF 'ancepslaw34.RepairApply'. -/
def repairApplyUptoCard : Claim7 := { stood := { row := repairApplyUptoRow, standIns := [], harness := (true, "d3541d0d4b5f5f5cd1a1c92762fbb0fb9be8498bca2b291e8cf0d4593980e630"), looks := false }, kinds := [], alts := [], laidByText := true, laidKinds := [.data, .data, .data], laidTests := true, laidLooks := .later }
def RepairApplyUptoCardSaid : Prop := Claim7.holds Tryz.pinned (.plain (OpenSpec.upto repairApplySpec)) repairApplyUptoCard
end Rows
end Go.Proofs.YtkggkkjiidbclaaGreatDoor
