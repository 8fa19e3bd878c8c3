/-
  DERIVED. GIVEN WITH THE SEED: THE CARDS: each row of YtooklcgflocbcaaGreatDoorRows.lean that lists a variable, with what it lists TIED to the program's text (the seventh form; the later family's looks); each row that meets fmt, with fmt's text TOLD by the authors' own Lean function (tested against real Go, not proved from fmt's source: count such statements apart). THE CARD IS WHAT COUNTS. Prove the row's statement (the work); the ties are given (YtooklcgflocbcaaGreatDoorTie.lean); close each card by the builder's one call (the guide's Derived/Test/ToyasCard.lean, 'card_holds'). Laid BY PROGRAM, IN A SANDBOX (cutbox-door.mjs). By AI agents, Wed Nov 11 2026. No macro, syntax, notation, axiom, sorry.
-/
import Derived.Test.YtooklcgflocbcaaGreatDoorRows
import GoSem.ClaimSeven
namespace Go.Proofs.YtooklcgflocbcaaGreatDoor
namespace Rows

/-- THE TIED CARD OF 'sedimentlaw10.PackWrites'. -/
def packWritesCard : Claim7 := { stood := { row := packWritesRow, standIns := [], harness := (true, "04124f4f46d5da6829674f282f219c61b8f0523cffa1337e797c2f0afcbd87ca"), looks := false }, kinds := [], alts := [], laidByText := true, laidKinds := [.data, .data, .data], laidTests := true, laidLooks := .later }
def PackWritesCardSaid : Prop := Claim7.holds Tryz.pinned (.plain (OpenSpec.ofChange packWritesSpec)) packWritesCard

/-- THE TIED CARD OF 'sedimentlaw10.PackOpens'. -/
def packOpensCard : Claim7 := { stood := { row := packOpensRow, standIns := [], harness := (true, "04124f4f46d5da6829674f282f219c61b8f0523cffa1337e797c2f0afcbd87ca"), looks := false }, kinds := [], alts := [], laidByText := true, laidKinds := [.data, .data, .data], laidTests := true, laidLooks := .later }
def PackOpensCardSaid : Prop := Claim7.holds Tryz.pinned (.plain (OpenSpec.ofChange packOpensSpec)) packOpensCard

/-- THE TIED CARD OF 'sedimentlaw12.MergeMakes'. -/
def mergeMakesCard : Claim7 := { stood := { row := mergeMakesRow, standIns := [], harness := (true, "04124f4f46d5da6829674f282f219c61b8f0523cffa1337e797c2f0afcbd87ca"), looks := false }, kinds := [], alts := [], laidByText := true, laidKinds := [.data], laidTests := true, laidLooks := .later }
def MergeMakesCardSaid : Prop := Claim7.holds Tryz.pinned (.plain (OpenSpec.ofChange mergeMakesSpec)) mergeMakesCard

/-- THE TIED CARD OF 'sedimentlaw12.MergeOpens'. -/
def mergeOpensCard : Claim7 := { stood := { row := mergeOpensRow, standIns := [], harness := (true, "04124f4f46d5da6829674f282f219c61b8f0523cffa1337e797c2f0afcbd87ca"), looks := false }, kinds := [], alts := [], laidByText := true, laidKinds := [.data], laidTests := true, laidLooks := .later }
def MergeOpensCardSaid : Prop := Claim7.holds Tryz.pinned (.plain (OpenSpec.ofChange mergeOpensSpec)) mergeOpensCard

/-- THE TIED CARD OF 'sedimentlaw11.IndexWrites'. -/
def indexWritesCard : Claim7 := { stood := { row := indexWritesRow, standIns := [], harness := (true, "04124f4f46d5da6829674f282f219c61b8f0523cffa1337e797c2f0afcbd87ca"), looks := false }, kinds := [], alts := [], laidByText := true, laidKinds := [.data, .data, .data], laidTests := true, laidLooks := .later }
def IndexWritesCardSaid : Prop := Claim7.holds Tryz.pinned (.plain (OpenSpec.ofChange indexWritesSpec)) indexWritesCard

/-- THE TIED CARD OF 'sedimentlaw11.IndexMakes'. -/
def indexMakesCard : Claim7 := { stood := { row := indexMakesRow, standIns := [], harness := (true, "04124f4f46d5da6829674f282f219c61b8f0523cffa1337e797c2f0afcbd87ca"), looks := false }, kinds := [], alts := [], laidByText := true, laidKinds := [.data, .data, .data], laidTests := true, laidLooks := .later }
def IndexMakesCardSaid : Prop := Claim7.holds Tryz.pinned (.plain (OpenSpec.ofChange indexMakesSpec)) indexMakesCard

/-- THE TIED CARD OF 'sedimentlaw11.IndexOpens'. -/
def indexOpensCard : Claim7 := { stood := { row := indexOpensRow, standIns := [], harness := (true, "04124f4f46d5da6829674f282f219c61b8f0523cffa1337e797c2f0afcbd87ca"), looks := false }, kinds := [], alts := [], laidByText := true, laidKinds := [.data, .data, .data], laidTests := true, laidLooks := .later }
def IndexOpensCardSaid : Prop := Claim7.holds Tryz.pinned (.plain (OpenSpec.ofChange indexOpensSpec)) indexOpensCard

/-- THE TIED CARD OF 'sedimentlaw11.IndexBack'. -/
def indexBackCard : Claim7 := { stood := { row := indexBackRow, standIns := [], harness := (true, "04124f4f46d5da6829674f282f219c61b8f0523cffa1337e797c2f0afcbd87ca"), looks := false }, kinds := [], alts := [], laidByText := true, laidKinds := [.data, .data, .data], laidTests := true, laidLooks := .later }
def IndexBackCardSaid : Prop := Claim7.holds Tryz.pinned (.plain (OpenSpec.ofChange indexBackSpec)) indexBackCard

/-- THE TIED CARD OF 'sedimentlaw11.IndexFinds'. -/
def indexFindsCard : Claim7 := { stood := { row := indexFindsRow, standIns := [], harness := (true, "04124f4f46d5da6829674f282f219c61b8f0523cffa1337e797c2f0afcbd87ca"), looks := false }, kinds := [], alts := [], laidByText := true, laidKinds := [.data, .data, .data], laidTests := true, laidLooks := .later }
def IndexFindsCardSaid : Prop := Claim7.holds Tryz.pinned (.plain (OpenSpec.ofChange indexFindsSpec)) indexFindsCard

/-- THE SECOND FORM's CARD OF 'sedimentlaw10.PackWrites'. -/
def packWritesUptoCard : Claim7 := { stood := { row := packWritesUptoRow, standIns := [], harness := (true, "04124f4f46d5da6829674f282f219c61b8f0523cffa1337e797c2f0afcbd87ca"), looks := false }, kinds := [], alts := [], laidByText := true, laidKinds := [.data, .data, .data], laidTests := true, laidLooks := .later }
def PackWritesUptoCardSaid : Prop := Claim7.holds Tryz.pinned (.plain (OpenSpec.upto packWritesSpec)) packWritesUptoCard

/-- THE SECOND FORM's CARD OF 'sedimentlaw10.PackOpens'. -/
def packOpensUptoCard : Claim7 := { stood := { row := packOpensUptoRow, standIns := [], harness := (true, "04124f4f46d5da6829674f282f219c61b8f0523cffa1337e797c2f0afcbd87ca"), looks := false }, kinds := [], alts := [], laidByText := true, laidKinds := [.data, .data, .data], laidTests := true, laidLooks := .later }
def PackOpensUptoCardSaid : Prop := Claim7.holds Tryz.pinned (.plain (OpenSpec.upto packOpensSpec)) packOpensUptoCard

/-- THE SECOND FORM's CARD OF 'sedimentlaw12.MergeMakes'. -/
def mergeMakesUptoCard : Claim7 := { stood := { row := mergeMakesUptoRow, standIns := [], harness := (true, "04124f4f46d5da6829674f282f219c61b8f0523cffa1337e797c2f0afcbd87ca"), looks := false }, kinds := [], alts := [], laidByText := true, laidKinds := [.data], laidTests := true, laidLooks := .later }
def MergeMakesUptoCardSaid : Prop := Claim7.holds Tryz.pinned (.plain (OpenSpec.upto mergeMakesSpec)) mergeMakesUptoCard

/-- THE SECOND FORM's CARD OF 'sedimentlaw12.MergeOpens'. -/
def mergeOpensUptoCard : Claim7 := { stood := { row := mergeOpensUptoRow, standIns := [], harness := (true, "04124f4f46d5da6829674f282f219c61b8f0523cffa1337e797c2f0afcbd87ca"), looks := false }, kinds := [], alts := [], laidByText := true, laidKinds := [.data], laidTests := true, laidLooks := .later }
def MergeOpensUptoCardSaid : Prop := Claim7.holds Tryz.pinned (.plain (OpenSpec.upto mergeOpensSpec)) mergeOpensUptoCard

/-- THE SECOND FORM's CARD OF 'sedimentlaw11.IndexWrites'. -/
def indexWritesUptoCard : Claim7 := { stood := { row := indexWritesUptoRow, standIns := [], harness := (true, "04124f4f46d5da6829674f282f219c61b8f0523cffa1337e797c2f0afcbd87ca"), looks := false }, kinds := [], alts := [], laidByText := true, laidKinds := [.data, .data, .data], laidTests := true, laidLooks := .later }
def IndexWritesUptoCardSaid : Prop := Claim7.holds Tryz.pinned (.plain (OpenSpec.upto indexWritesSpec)) indexWritesUptoCard

/-- THE SECOND FORM's CARD OF 'sedimentlaw11.IndexMakes'. -/
def indexMakesUptoCard : Claim7 := { stood := { row := indexMakesUptoRow, standIns := [], harness := (true, "04124f4f46d5da6829674f282f219c61b8f0523cffa1337e797c2f0afcbd87ca"), looks := false }, kinds := [], alts := [], laidByText := true, laidKinds := [.data, .data, .data], laidTests := true, laidLooks := .later }
def IndexMakesUptoCardSaid : Prop := Claim7.holds Tryz.pinned (.plain (OpenSpec.upto indexMakesSpec)) indexMakesUptoCard

/-- THE SECOND FORM's CARD OF 'sedimentlaw11.IndexOpens'. -/
def indexOpensUptoCard : Claim7 := { stood := { row := indexOpensUptoRow, standIns := [], harness := (true, "04124f4f46d5da6829674f282f219c61b8f0523cffa1337e797c2f0afcbd87ca"), looks := false }, kinds := [], alts := [], laidByText := true, laidKinds := [.data, .data, .data], laidTests := true, laidLooks := .later }
def IndexOpensUptoCardSaid : Prop := Claim7.holds Tryz.pinned (.plain (OpenSpec.upto indexOpensSpec)) indexOpensUptoCard

/-- THE SECOND FORM's CARD OF 'sedimentlaw11.IndexBack'. -/
def indexBackUptoCard : Claim7 := { stood := { row := indexBackUptoRow, standIns := [], harness := (true, "04124f4f46d5da6829674f282f219c61b8f0523cffa1337e797c2f0afcbd87ca"), looks := false }, kinds := [], alts := [], laidByText := true, laidKinds := [.data, .data, .data], laidTests := true, laidLooks := .later }
def IndexBackUptoCardSaid : Prop := Claim7.holds Tryz.pinned (.plain (OpenSpec.upto indexBackSpec)) indexBackUptoCard

/-- THE SECOND FORM's CARD OF 'sedimentlaw11.IndexFinds'. -/
def indexFindsUptoCard : Claim7 := { stood := { row := indexFindsUptoRow, standIns := [], harness := (true, "04124f4f46d5da6829674f282f219c61b8f0523cffa1337e797c2f0afcbd87ca"), looks := false }, kinds := [], alts := [], laidByText := true, laidKinds := [.data, .data, .data], laidTests := true, laidLooks := .later }
def IndexFindsUptoCardSaid : Prop := Claim7.holds Tryz.pinned (.plain (OpenSpec.upto indexFindsSpec)) indexFindsUptoCard
end Rows
end Go.Proofs.YtooklcgflocbcaaGreatDoor
