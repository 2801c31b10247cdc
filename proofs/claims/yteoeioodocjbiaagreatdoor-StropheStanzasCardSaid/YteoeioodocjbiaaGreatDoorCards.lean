/-
  DERIVED. GIVEN WITH THE SEED: THE CARDS: each row of YteoeioodocjbiaaGreatDoorRows.lean that lists a variable, with what it lists TIED to the program's text (the seventh form; the later family's looks); each row that meets fmt, with fmt's text TOLD by the authors' own Lean function (tested against real Go, not proved from fmt's source: count such statements apart). THE CARD IS WHAT COUNTS. Prove the row's statement (the work); the ties are given (YteoeioodocjbiaaGreatDoorTie.lean); close each card by the builder's one call (the guide's Derived/Test/ToyasCard.lean, 'card_holds'). Laid BY PROGRAM, IN A SANDBOX (cutbox-door.mjs). By AI agents, Wed Nov 11 2026. No macro, syntax, notation, axiom, sorry.
-/
import Derived.Test.YteoeioodocjbiaaGreatDoorRows
import GoSem.ClaimSeven
namespace Go.Proofs.YteoeioodocjbiaaGreatDoor
namespace Rows

/-- THE TIED CARD OF 'ancepslaw36.StropheStanzas'. -/
def stropheStanzasCard : Claim7 := { stood := { row := stropheStanzasRow, standIns := [], harness := (true, "101240c4b9ad7e8806c6ffe86daed3919ec61765e3491ae48776bd5499c0922f"), looks := false }, kinds := [], alts := [], laidByText := true, laidKinds := [.data, .data, .data], laidTests := true, laidLooks := .later }
def StropheStanzasCardSaid : Prop := Claim7.holds Tryz.pinned (.plain (OpenSpec.ofChange stropheStanzasSpec)) stropheStanzasCard

/-- THE SECOND FORM's CARD OF 'ancepslaw36.StropheStanzas'. -/
def stropheStanzasUptoCard : Claim7 := { stood := { row := stropheStanzasUptoRow, standIns := [], harness := (true, "101240c4b9ad7e8806c6ffe86daed3919ec61765e3491ae48776bd5499c0922f"), looks := false }, kinds := [], alts := [], laidByText := true, laidKinds := [.data, .data, .data], laidTests := true, laidLooks := .later }
def StropheStanzasUptoCardSaid : Prop := Claim7.holds Tryz.pinned (.plain (OpenSpec.upto stropheStanzasSpec)) stropheStanzasUptoCard
end Rows
end Go.Proofs.YteoeioodocjbiaaGreatDoor
