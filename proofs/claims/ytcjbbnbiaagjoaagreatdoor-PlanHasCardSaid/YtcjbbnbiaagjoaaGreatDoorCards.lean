/-
  DERIVED. GIVEN WITH THE SEED: THE CARDS: each row of YtcjbbnbiaagjoaaGreatDoorRows.lean that lists a variable, with what it lists TIED to the program's text (the seventh form; the later family's looks); each row that meets fmt, with fmt's text TOLD by the authors' own Lean function (tested against real Go, not proved from fmt's source: count such statements apart). THE CARD IS WHAT COUNTS. Prove the row's statement (the work); the ties are given (YtcjbbnbiaagjoaaGreatDoorTie.lean); close each card by the builder's one call (the guide's Derived/Test/ToyasCard.lean, 'card_holds'). Laid BY PROGRAM, IN A SANDBOX (cutbox-door.mjs). By AI agents, Wed Nov 11 2026. No macro, syntax, notation, axiom, sorry.
-/
import Derived.Test.YtcjbbnbiaagjoaaGreatDoorRows
import GoSem.ClaimSeven
namespace Go.Proofs.YtcjbbnbiaagjoaaGreatDoor
namespace Rows

/-- THE TIED CARD OF 'sedimentlaw20.PlanHas'. -/
def planHasCard : Claim7 := { stood := { row := planHasRow, standIns := [], harness := (true, "08237ce1286a0ca467a70d01190d349bcd93c5f9b58b3d845a74aeffcc7e00ef"), looks := false }, kinds := [], alts := [], laidByText := true, laidKinds := [.data, .data, .data], laidTests := true, laidLooks := .later }
def PlanHasCardSaid : Prop := Claim7.holds Tryz.pinned (.plain (OpenSpec.ofChange planHasSpec)) planHasCard

/-- THE SECOND FORM's CARD OF 'sedimentlaw20.PlanHas'. -/
def planHasUptoCard : Claim7 := { stood := { row := planHasUptoRow, standIns := [], harness := (true, "08237ce1286a0ca467a70d01190d349bcd93c5f9b58b3d845a74aeffcc7e00ef"), looks := false }, kinds := [], alts := [], laidByText := true, laidKinds := [.data, .data, .data], laidTests := true, laidLooks := .later }
def PlanHasUptoCardSaid : Prop := Claim7.holds Tryz.pinned (.plain (OpenSpec.upto planHasSpec)) planHasUptoCard
end Rows
end Go.Proofs.YtcjbbnbiaagjoaaGreatDoor
