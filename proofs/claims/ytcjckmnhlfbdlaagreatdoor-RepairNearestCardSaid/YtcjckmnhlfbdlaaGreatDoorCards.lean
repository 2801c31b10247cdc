/-
  DERIVED. GIVEN WITH THE SEED: THE CARDS: each row of YtcjckmnhlfbdlaaGreatDoorRows.lean that lists a variable, with what it lists TIED to the program's text (the seventh form; the later family's looks); each row that meets fmt, with fmt's text TOLD by the authors' own Lean function (tested against real Go, not proved from fmt's source: count such statements apart). THE CARD IS WHAT COUNTS. Prove the row's statement (the work); the ties are given (YtcjckmnhlfbdlaaGreatDoorTie.lean); close each card by the builder's one call (the guide's Derived/Test/ToyasCard.lean, 'card_holds'). Laid BY PROGRAM, IN A SANDBOX (cutbox-door.mjs). By AI agents, Wed Nov 11 2026. No macro, syntax, notation, axiom, sorry.
-/
import Derived.Test.YtcjckmnhlfbdlaaGreatDoorRows
import GoSem.ClaimSeven
namespace Go.Proofs.YtcjckmnhlfbdlaaGreatDoor
namespace Rows

/-- THE TIED CARD OF 'ancepslaw34.RepairNearest'. -/
def repairNearestCard : Claim7 := { stood := { row := repairNearestRow, standIns := [], harness := (true, "dac4f2a1c3dc7c16aa03eeff651b64efd58509cf2fd4a11cec6abd2fd7f76bf9"), looks := false }, kinds := [], alts := [], laidByText := true, laidKinds := [.data, .data, .data], laidTests := true, laidLooks := .later }
def RepairNearestCardSaid : Prop := Claim7.holds Tryz.pinned (.plain (OpenSpec.ofChange repairNearestSpec)) repairNearestCard

/-- THE SECOND FORM's CARD OF 'ancepslaw34.RepairNearest'. -/
def repairNearestUptoCard : Claim7 := { stood := { row := repairNearestUptoRow, standIns := [], harness := (true, "dac4f2a1c3dc7c16aa03eeff651b64efd58509cf2fd4a11cec6abd2fd7f76bf9"), looks := false }, kinds := [], alts := [], laidByText := true, laidKinds := [.data, .data, .data], laidTests := true, laidLooks := .later }
def RepairNearestUptoCardSaid : Prop := Claim7.holds Tryz.pinned (.plain (OpenSpec.upto repairNearestSpec)) repairNearestUptoCard
end Rows
end Go.Proofs.YtcjckmnhlfbdlaaGreatDoor
