/-
  DERIVED. GIVEN WITH THE SEED: THE CARDS: each row of YteppologbikipaaGreatDoorRows.lean that lists a variable, with what it lists TIED to the program's text (the seventh form; the later family's looks); each row that meets fmt, with fmt's text TOLD by the authors' own Lean function (tested against real Go, not proved from fmt's source: count such statements apart). THE CARD IS WHAT COUNTS. Prove the row's statement (the work); the ties are given (YteppologbikipaaGreatDoorTie.lean); close each card by the builder's one call (the guide's Derived/Test/ToyasCard.lean, 'card_holds'). Laid BY PROGRAM, IN A SANDBOX (cutbox-door.mjs). By AI agents, Wed Nov 11 2026. No macro, syntax, notation, axiom, sorry.
-/
import Derived.Test.YteppologbikipaaGreatDoorRows
import GoSem.ClaimSeven
namespace Go.Proofs.YteppologbikipaaGreatDoor
namespace Rows

/-- THE TIED CARD OF 'sedimentlaw16.RefsRights'. -/
def refsRightsCard : Claim7 := { stood := { row := refsRightsRow, standIns := [], harness := (true, "6406c9846c93fd536c3581e5ddd783e29bfcf0b9af27de12e2cc8116e8f3bda5"), looks := false }, kinds := [], alts := [], laidByText := true, laidKinds := [.data], laidTests := true, laidLooks := .later }
def RefsRightsCardSaid : Prop := Claim7.holds Tryz.pinned (.plain (OpenSpec.ofChange refsRightsSpec)) refsRightsCard

/-- THE SECOND FORM's CARD OF 'sedimentlaw16.RefsRights'. -/
def refsRightsUptoCard : Claim7 := { stood := { row := refsRightsUptoRow, standIns := [], harness := (true, "6406c9846c93fd536c3581e5ddd783e29bfcf0b9af27de12e2cc8116e8f3bda5"), looks := false }, kinds := [], alts := [], laidByText := true, laidKinds := [.data], laidTests := true, laidLooks := .later }
def RefsRightsUptoCardSaid : Prop := Claim7.holds Tryz.pinned (.plain (OpenSpec.upto refsRightsSpec)) refsRightsUptoCard
end Rows
end Go.Proofs.YteppologbikipaaGreatDoor
