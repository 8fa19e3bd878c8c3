/-
  DERIVED. GIVEN WITH THE SEED: THE CARDS: each row of YtldgnkgllhmnbaaGreatDoorRows.lean that lists a variable, with what it lists TIED to the program's text (the seventh form; the later family's looks); each row that meets fmt, with fmt's text TOLD by the authors' own Lean function (tested against real Go, not proved from fmt's source: count such statements apart). THE CARD IS WHAT COUNTS. Prove the row's statement (the work); the ties are given (YtldgnkgllhmnbaaGreatDoorTie.lean); close each card by the builder's one call (the guide's Derived/Test/ToyasCard.lean, 'card_holds'). Laid BY PROGRAM, IN A SANDBOX (cutbox-door.mjs). By AI agents, Wed Nov 11 2026. No macro, syntax, notation, axiom, sorry.
-/
import Derived.Test.YtldgnkgllhmnbaaGreatDoorRows
import GoSem.ClaimSeven
namespace Go.Proofs.YtldgnkgllhmnbaaGreatDoor
namespace Rows

/-- THE TIED CARD OF 'sedimentlaw17.BookPlays'. -/
def bookPlaysCard : Claim7 := { stood := { row := bookPlaysRow, standIns := [], harness := (true, "b2454e258ef5bb4bb7ceae0b1818c766564d8018905893b24fb57870d8bd1101"), looks := true }, kinds := [], alts := [], laidByText := true, laidKinds := [.data, .data], laidTests := true, laidLooks := .later }
def BookPlaysCardSaid : Prop := Claim7.holds Tryz.pinned (.plain (OpenSpec.ofChange bookPlaysSpec)) bookPlaysCard

/-- THE SECOND FORM's CARD OF 'sedimentlaw17.BookPlays'. -/
def bookPlaysUptoCard : Claim7 := { stood := { row := bookPlaysUptoRow, standIns := [], harness := (true, "b2454e258ef5bb4bb7ceae0b1818c766564d8018905893b24fb57870d8bd1101"), looks := true }, kinds := [], alts := [], laidByText := true, laidKinds := [.data, .data], laidTests := true, laidLooks := .later }
def BookPlaysUptoCardSaid : Prop := Claim7.holds Tryz.pinned (.plain (OpenSpec.upto bookPlaysSpec)) bookPlaysUptoCard
end Rows
end Go.Proofs.YtldgnkgllhmnbaaGreatDoor
