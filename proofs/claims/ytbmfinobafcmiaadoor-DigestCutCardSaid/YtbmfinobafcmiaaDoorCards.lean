/-
  DERIVED. GIVEN WITH THE SEED: THE CARDS: each row of YtbmfinobafcmiaaDoorRows.lean that lists a variable, with what it lists TIED to the program's text (the seventh form; the later family's looks); each row that meets fmt, with fmt's text TOLD by the authors' own Lean function (tested against real Go, not proved from fmt's source: count such statements apart). THE CARD IS WHAT COUNTS. Prove the row's statement (the work); the ties are given (YtbmfinobafcmiaaDoorTie.lean); close each card by the builder's one call (the guide's Derived/Test/ToyasCard.lean, 'card_holds'). Laid BY PROGRAM, IN A SANDBOX (cutbox-door.mjs). By AI agents, Wed Nov 11 2026. No macro, syntax, notation, axiom, sorry.
-/
import Derived.Test.YtbmfinobafcmiaaDoorRows
import GoSem.ClaimSeven
namespace Go.Proofs.YtbmfinobafcmiaaDoor
namespace Rows

/-- THE TIED CARD OF 'sedimentlaw01.DigestSums'. -/
def digestSumsCard : Claim7 := { stood := { row := digestSumsRow, standIns := [], harness := (true, "bc0ae03880b3d4469adbf9dc8e50ac49c94c8dba30057cdc120dd57d573646af"), looks := false }, kinds := [], alts := [], laidByText := true, laidKinds := [.data, .data], laidTests := true, laidLooks := .later }
def DigestSumsCardSaid : Prop := Claim7.holds Tryd.pinned (.plain (OpenSpec.ofChange digestSumsSpec)) digestSumsCard

/-- THE TIED CARD OF 'sedimentlaw01.DigestCut'. -/
def digestCutCard : Claim7 := { stood := { row := digestCutRow, standIns := [], harness := (true, "bc0ae03880b3d4469adbf9dc8e50ac49c94c8dba30057cdc120dd57d573646af"), looks := false }, kinds := [], alts := [], laidByText := true, laidKinds := [.data, .data], laidTests := true, laidLooks := .later }
def DigestCutCardSaid : Prop := Claim7.holds Tryd.pinned (.plain (OpenSpec.ofChange digestCutSpec)) digestCutCard

/-- THE TIED CARD OF 'sedimentlaw01.DigestTexts'. -/
def digestTextsCard : Claim7 := { stood := { row := digestTextsRow, standIns := [], harness := (true, "bc0ae03880b3d4469adbf9dc8e50ac49c94c8dba30057cdc120dd57d573646af"), looks := false }, kinds := [], alts := [], laidByText := true, laidKinds := [.data, .data], laidTests := true, laidLooks := .later }
def DigestTextsCardSaid : Prop := Claim7.holds Tryd.pinned (.plain (OpenSpec.ofChange digestTextsSpec)) digestTextsCard

/-- THE TIED CARD OF 'sedimentlaw01.DigestBack'. -/
def digestBackCard : Claim7 := { stood := { row := digestBackRow, standIns := [], harness := (true, "bc0ae03880b3d4469adbf9dc8e50ac49c94c8dba30057cdc120dd57d573646af"), looks := false }, kinds := [], alts := [], laidByText := true, laidKinds := [.data, .data], laidTests := true, laidLooks := .later }
def DigestBackCardSaid : Prop := Claim7.holds Tryd.pinned (.plain (OpenSpec.ofChange digestBackSpec)) digestBackCard

/-- THE TIED CARD OF 'sedimentlaw01.DigestGrows'. -/
def digestGrowsCard : Claim7 := { stood := { row := digestGrowsRow, standIns := [], harness := (true, "bc0ae03880b3d4469adbf9dc8e50ac49c94c8dba30057cdc120dd57d573646af"), looks := false }, kinds := [], alts := [], laidByText := true, laidKinds := [.data, .data], laidTests := true, laidLooks := .later }
def DigestGrowsCardSaid : Prop := Claim7.holds Tryd.pinned (.plain (OpenSpec.ofChange digestGrowsSpec)) digestGrowsCard

/-- THE SECOND FORM's CARD OF 'sedimentlaw01.DigestSums'. -/
def digestSumsUptoCard : Claim7 := { stood := { row := digestSumsUptoRow, standIns := [], harness := (true, "bc0ae03880b3d4469adbf9dc8e50ac49c94c8dba30057cdc120dd57d573646af"), looks := false }, kinds := [], alts := [], laidByText := true, laidKinds := [.data, .data], laidTests := true, laidLooks := .later }
def DigestSumsUptoCardSaid : Prop := Claim7.holds Tryd.pinned (.plain (OpenSpec.upto digestSumsSpec)) digestSumsUptoCard

/-- THE SECOND FORM's CARD OF 'sedimentlaw01.DigestCut'. -/
def digestCutUptoCard : Claim7 := { stood := { row := digestCutUptoRow, standIns := [], harness := (true, "bc0ae03880b3d4469adbf9dc8e50ac49c94c8dba30057cdc120dd57d573646af"), looks := false }, kinds := [], alts := [], laidByText := true, laidKinds := [.data, .data], laidTests := true, laidLooks := .later }
def DigestCutUptoCardSaid : Prop := Claim7.holds Tryd.pinned (.plain (OpenSpec.upto digestCutSpec)) digestCutUptoCard

/-- THE SECOND FORM's CARD OF 'sedimentlaw01.DigestTexts'. -/
def digestTextsUptoCard : Claim7 := { stood := { row := digestTextsUptoRow, standIns := [], harness := (true, "bc0ae03880b3d4469adbf9dc8e50ac49c94c8dba30057cdc120dd57d573646af"), looks := false }, kinds := [], alts := [], laidByText := true, laidKinds := [.data, .data], laidTests := true, laidLooks := .later }
def DigestTextsUptoCardSaid : Prop := Claim7.holds Tryd.pinned (.plain (OpenSpec.upto digestTextsSpec)) digestTextsUptoCard

/-- THE SECOND FORM's CARD OF 'sedimentlaw01.DigestBack'. -/
def digestBackUptoCard : Claim7 := { stood := { row := digestBackUptoRow, standIns := [], harness := (true, "bc0ae03880b3d4469adbf9dc8e50ac49c94c8dba30057cdc120dd57d573646af"), looks := false }, kinds := [], alts := [], laidByText := true, laidKinds := [.data, .data], laidTests := true, laidLooks := .later }
def DigestBackUptoCardSaid : Prop := Claim7.holds Tryd.pinned (.plain (OpenSpec.upto digestBackSpec)) digestBackUptoCard

/-- THE SECOND FORM's CARD OF 'sedimentlaw01.DigestGrows'. -/
def digestGrowsUptoCard : Claim7 := { stood := { row := digestGrowsUptoRow, standIns := [], harness := (true, "bc0ae03880b3d4469adbf9dc8e50ac49c94c8dba30057cdc120dd57d573646af"), looks := false }, kinds := [], alts := [], laidByText := true, laidKinds := [.data, .data], laidTests := true, laidLooks := .later }
def DigestGrowsUptoCardSaid : Prop := Claim7.holds Tryd.pinned (.plain (OpenSpec.upto digestGrowsSpec)) digestGrowsUptoCard
end Rows
end Go.Proofs.YtbmfinobafcmiaaDoor
