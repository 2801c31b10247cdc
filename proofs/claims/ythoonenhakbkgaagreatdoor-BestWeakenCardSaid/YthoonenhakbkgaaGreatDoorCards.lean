/-
  DERIVED. GIVEN WITH THE SEED: THE CARDS: each row of YthoonenhakbkgaaGreatDoorRows.lean that lists a variable, with what it lists TIED to the program's text (the seventh form; the later family's looks); each row that meets fmt, with fmt's text TOLD by the authors' own Lean function (tested against real Go, not proved from fmt's source: count such statements apart). THE CARD IS WHAT COUNTS. Prove the row's statement (the work); the ties are given (YthoonenhakbkgaaGreatDoorTie.lean); close each card by the builder's one call (the guide's Derived/Test/ToyasCard.lean, 'card_holds'). Laid BY PROGRAM, IN A SANDBOX (cutbox-door.mjs). By AI agents, Wed Nov 11 2026. No macro, syntax, notation, axiom, sorry.
-/
import Derived.Test.YthoonenhakbkgaaGreatDoorRows
import GoSem.ClaimSeven
namespace Go.Proofs.YthoonenhakbkgaaGreatDoor
namespace Rows

/-- THE TIED CARD OF 'ancepslaw32.BestWeaken'. -/
def bestWeakenCard : Claim7 := { stood := { row := bestWeakenRow, standIns := [], harness := (true, "58b93cef7e99518cba58e060639a5a079b795fe821570469b5733649bcac8e83"), looks := false }, kinds := [], alts := [], laidByText := true, laidKinds := [.data, .data, .data], laidTests := true, laidLooks := .later }
def BestWeakenCardSaid : Prop := Claim7.holds Tryz.pinned (.plain (OpenSpec.ofChange bestWeakenSpec)) bestWeakenCard

/-- THE SECOND FORM's CARD OF 'ancepslaw32.BestWeaken'. -/
def bestWeakenUptoCard : Claim7 := { stood := { row := bestWeakenUptoRow, standIns := [], harness := (true, "58b93cef7e99518cba58e060639a5a079b795fe821570469b5733649bcac8e83"), looks := false }, kinds := [], alts := [], laidByText := true, laidKinds := [.data, .data, .data], laidTests := true, laidLooks := .later }
def BestWeakenUptoCardSaid : Prop := Claim7.holds Tryz.pinned (.plain (OpenSpec.upto bestWeakenSpec)) bestWeakenUptoCard
end Rows
end Go.Proofs.YthoonenhakbkgaaGreatDoor
