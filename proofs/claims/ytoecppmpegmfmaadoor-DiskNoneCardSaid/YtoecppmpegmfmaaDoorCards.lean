/-
  DERIVED. GIVEN WITH THE SEED: THE CARDS: each row of YtoecppmpegmfmaaDoorRows.lean that lists a variable, with what it lists TIED to the program's text (the seventh form; the later family's looks); each row that meets fmt, with fmt's text TOLD by the authors' own Lean function (tested against real Go, not proved from fmt's source: count such statements apart). THE CARD IS WHAT COUNTS. Prove the row's statement (the work); the ties are given (YtoecppmpegmfmaaDoorTie.lean); close each card by the builder's one call (the guide's Derived/Test/ToyasCard.lean, 'card_holds'). Laid BY PROGRAM, IN A SANDBOX (cutbox-door.mjs). By AI agents, Wed Nov 11 2026. No macro, syntax, notation, axiom, sorry.
-/
import Derived.Test.YtoecppmpegmfmaaDoorRows
import GoSem.ClaimSeven
namespace Go.Proofs.YtoecppmpegmfmaaDoor
namespace Rows

/-- THE TIED CARD OF 'sedimentlaw13.DiskNone'. -/
def diskNoneCard : Claim7 := { stood := { row := diskNoneRow, standIns := [], harness := (true, "debaa48d86dcd07b998fa8446645b5217caae880ab87b07fcd9e2e7f8baba9ce"), looks := true }, kinds := [], alts := [], laidByText := true, laidKinds := [.data], laidTests := true, laidLooks := .later }
def DiskNoneCardSaid : Prop := Claim7.holds Tryd.pinned (.plain (OpenSpec.ofChange diskNoneSpec)) diskNoneCard

/-- THE SECOND FORM's CARD OF 'sedimentlaw13.DiskNone'. -/
def diskNoneUptoCard : Claim7 := { stood := { row := diskNoneUptoRow, standIns := [], harness := (true, "debaa48d86dcd07b998fa8446645b5217caae880ab87b07fcd9e2e7f8baba9ce"), looks := true }, kinds := [], alts := [], laidByText := true, laidKinds := [.data], laidTests := true, laidLooks := .later }
def DiskNoneUptoCardSaid : Prop := Claim7.holds Tryd.pinned (.plain (OpenSpec.upto diskNoneSpec)) diskNoneUptoCard
end Rows
end Go.Proofs.YtoecppmpegmfmaaDoor
