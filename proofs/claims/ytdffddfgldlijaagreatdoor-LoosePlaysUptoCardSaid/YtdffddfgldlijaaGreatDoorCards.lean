/-
  DERIVED. GIVEN WITH THE SEED: THE CARDS: each row of YtdffddfgldlijaaGreatDoorRows.lean that lists a variable, with what it lists TIED to the program's text (the seventh form; the later family's looks); each row that meets fmt, with fmt's text TOLD by the authors' own Lean function (tested against real Go, not proved from fmt's source: count such statements apart). THE CARD IS WHAT COUNTS. Prove the row's statement (the work); the ties are given (YtdffddfgldlijaaGreatDoorTie.lean); close each card by the builder's one call (the guide's Derived/Test/ToyasCard.lean, 'card_holds'). Laid BY PROGRAM, IN A SANDBOX (cutbox-door.mjs). By AI agents, Wed Nov 11 2026. No macro, syntax, notation, axiom, sorry.
-/
import Derived.Test.YtdffddfgldlijaaGreatDoorRows
import GoSem.ClaimSeven
namespace Go.Proofs.YtdffddfgldlijaaGreatDoor
namespace Rows

/-- THE TIED CARD OF 'sedimentlaw15.LoosePlays'. -/
def loosePlaysCard : Claim7 := { stood := { row := loosePlaysRow, standIns := [], harness := (true, "f662c8acb1646d324a4be99f5c063906759faef38056641eb96a10a6e0923e1d"), looks := true }, kinds := [], alts := [], laidByText := true, laidKinds := [.data, .data, .data, .data], laidTests := true, laidLooks := .later }
def LoosePlaysCardSaid : Prop := Claim7.holds Tryz.pinned (.plain (OpenSpec.ofChange loosePlaysSpec)) loosePlaysCard

/-- THE SECOND FORM's CARD OF 'sedimentlaw15.LoosePlays'. -/
def loosePlaysUptoCard : Claim7 := { stood := { row := loosePlaysUptoRow, standIns := [], harness := (true, "f662c8acb1646d324a4be99f5c063906759faef38056641eb96a10a6e0923e1d"), looks := true }, kinds := [], alts := [], laidByText := true, laidKinds := [.data, .data, .data, .data], laidTests := true, laidLooks := .later }
def LoosePlaysUptoCardSaid : Prop := Claim7.holds Tryz.pinned (.plain (OpenSpec.upto loosePlaysSpec)) loosePlaysUptoCard
end Rows
end Go.Proofs.YtdffddfgldlijaaGreatDoor
