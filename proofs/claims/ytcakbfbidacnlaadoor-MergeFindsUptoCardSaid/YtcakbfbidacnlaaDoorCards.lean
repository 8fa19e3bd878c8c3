/-
  DERIVED. GIVEN WITH THE SEED: THE CARDS: each row of YtcakbfbidacnlaaDoorRows.lean that lists a variable, with what it lists TIED to the program's text (the seventh form; the later family's looks); each row that meets fmt, with fmt's text TOLD by the authors' own Lean function (tested against real Go, not proved from fmt's source: count such statements apart). THE CARD IS WHAT COUNTS. Prove the row's statement (the work); the ties are given (YtcakbfbidacnlaaDoorTie.lean); close each card by the builder's one call (the guide's Derived/Test/ToyasCard.lean, 'card_holds'). Laid BY PROGRAM, IN A SANDBOX (cutbox-door.mjs). By AI agents, Wed Nov 11 2026. No macro, syntax, notation, axiom, sorry.
-/
import Derived.Test.YtcakbfbidacnlaaDoorRows
import GoSem.ClaimSeven
namespace Go.Proofs.YtcakbfbidacnlaaDoor
namespace Rows

/-- THE TIED CARD OF 'sedimentlaw12.MergeOrder'. -/
def mergeOrderCard : Claim7 := { stood := { row := mergeOrderRow, standIns := [], harness := (true, "a8499d3d3d249d9d13d5f1a7bfb4366fcac1f915cd98547c04a29eebc8188643"), looks := false }, kinds := [], alts := [], laidByText := true, laidKinds := [.data], laidTests := true, laidLooks := .later }
def MergeOrderCardSaid : Prop := Claim7.holds Tryd.pinned (.plain (OpenSpec.ofChange mergeOrderSpec)) mergeOrderCard

/-- THE TIED CARD OF 'sedimentlaw12.MergeFinds'. -/
def mergeFindsCard : Claim7 := { stood := { row := mergeFindsRow, standIns := [], harness := (true, "a8499d3d3d249d9d13d5f1a7bfb4366fcac1f915cd98547c04a29eebc8188643"), looks := false }, kinds := [], alts := [], laidByText := true, laidKinds := [.data], laidTests := true, laidLooks := .later }
def MergeFindsCardSaid : Prop := Claim7.holds Tryd.pinned (.plain (OpenSpec.ofChange mergeFindsSpec)) mergeFindsCard

/-- THE SECOND FORM's CARD OF 'sedimentlaw12.MergeOrder'. -/
def mergeOrderUptoCard : Claim7 := { stood := { row := mergeOrderUptoRow, standIns := [], harness := (true, "a8499d3d3d249d9d13d5f1a7bfb4366fcac1f915cd98547c04a29eebc8188643"), looks := false }, kinds := [], alts := [], laidByText := true, laidKinds := [.data], laidTests := true, laidLooks := .later }
def MergeOrderUptoCardSaid : Prop := Claim7.holds Tryd.pinned (.plain (OpenSpec.upto mergeOrderSpec)) mergeOrderUptoCard

/-- THE SECOND FORM's CARD OF 'sedimentlaw12.MergeFinds'. -/
def mergeFindsUptoCard : Claim7 := { stood := { row := mergeFindsUptoRow, standIns := [], harness := (true, "a8499d3d3d249d9d13d5f1a7bfb4366fcac1f915cd98547c04a29eebc8188643"), looks := false }, kinds := [], alts := [], laidByText := true, laidKinds := [.data], laidTests := true, laidLooks := .later }
def MergeFindsUptoCardSaid : Prop := Claim7.holds Tryd.pinned (.plain (OpenSpec.upto mergeFindsSpec)) mergeFindsUptoCard
end Rows
end Go.Proofs.YtcakbfbidacnlaaDoor
