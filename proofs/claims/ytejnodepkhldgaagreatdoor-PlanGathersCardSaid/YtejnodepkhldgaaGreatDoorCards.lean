/-
  DERIVED. GIVEN WITH THE SEED: THE CARDS: each row of YtejnodepkhldgaaGreatDoorRows.lean that lists a variable, with what it lists TIED to the program's text (the seventh form; the later family's looks); each row that meets fmt, with fmt's text TOLD by the authors' own Lean function (tested against real Go, not proved from fmt's source: count such statements apart). THE CARD IS WHAT COUNTS. Prove the row's statement (the work); the ties are given (YtejnodepkhldgaaGreatDoorTie.lean); close each card by the builder's one call (the guide's Derived/Test/ToyasCard.lean, 'card_holds'). Laid BY PROGRAM, IN A SANDBOX (cutbox-door.mjs). By AI agents, Wed Nov 11 2026. No macro, syntax, notation, axiom, sorry.
-/
import Derived.Test.YtejnodepkhldgaaGreatDoorRows
import GoSem.ClaimSeven
namespace Go.Proofs.YtejnodepkhldgaaGreatDoor
namespace Rows

/-- THE TIED CARD OF 'sedimentlaw20.PlanGathers'. -/
def planGathersCard : Claim7 := { stood := { row := planGathersRow, standIns := [], harness := (true, "f483cc5cfa9e8b9d5ad033148eab5f05636e45d933196b5f8479871f160292a7"), looks := false }, kinds := [], alts := [], laidByText := true, laidKinds := [.data, .data, .data], laidTests := true, laidLooks := .later }
def PlanGathersCardSaid : Prop := Claim7.holds Tryz.pinned (.plain (OpenSpec.ofChange planGathersSpec)) planGathersCard
end Rows
end Go.Proofs.YtejnodepkhldgaaGreatDoor
