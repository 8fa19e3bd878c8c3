/-
  DERIVED. GIVEN WITH THE SEED: THE CARDS: each row of YtdhmidpgfohkeaaGreatDoorRows.lean that lists a variable, with what it lists TIED to the program's text (the seventh form; the later family's looks); each row that meets fmt, with fmt's text TOLD by the authors' own Lean function (tested against real Go, not proved from fmt's source: count such statements apart). THE CARD IS WHAT COUNTS. Prove the row's statement (the work); the ties are given (YtdhmidpgfohkeaaGreatDoorTie.lean); close each card by the builder's one call (the guide's Derived/Test/ToyasCard.lean, 'card_holds'). Laid BY PROGRAM, IN A SANDBOX (cutbox-door.mjs). By AI agents, Wed Nov 11 2026. No macro, syntax, notation, axiom, sorry.
-/
import Derived.Test.YtdhmidpgfohkeaaGreatDoorRows
import GoSem.ClaimSeven
namespace Go.Proofs.YtdhmidpgfohkeaaGreatDoor
namespace Rows

/-- THE TIED CARD OF 'sedimentlaw20.PlanOne'. -/
def planOneCard : Claim7 := { stood := { row := planOneRow, standIns := [], harness := (true, "5f8bab99664d960d821dd5e47c60e2364798488199704de4a76b99fcb2af8348"), looks := false }, kinds := [], alts := [], laidByText := true, laidKinds := [.data, .data, .data], laidTests := true, laidLooks := .later }
def PlanOneCardSaid : Prop := Claim7.holds Tryz.pinned (.plain (OpenSpec.ofChange planOneSpec)) planOneCard

/-- THE SECOND FORM's CARD OF 'sedimentlaw20.PlanOne'. -/
def planOneUptoCard : Claim7 := { stood := { row := planOneUptoRow, standIns := [], harness := (true, "5f8bab99664d960d821dd5e47c60e2364798488199704de4a76b99fcb2af8348"), looks := false }, kinds := [], alts := [], laidByText := true, laidKinds := [.data, .data, .data], laidTests := true, laidLooks := .later }
def PlanOneUptoCardSaid : Prop := Claim7.holds Tryz.pinned (.plain (OpenSpec.upto planOneSpec)) planOneUptoCard
end Rows
end Go.Proofs.YtdhmidpgfohkeaaGreatDoor
