/-
  DERIVED. GIVEN WITH THE SEED: THE CARDS: each row of YtcakbfbidacnlaaGreatDoorRows.lean that lists a variable, with what it lists TIED to the program's text (the seventh form; the later family's looks); each row that meets fmt, with fmt's text TOLD by the authors' own Lean function (tested against real Go, not proved from fmt's source: count such statements apart). THE CARD IS WHAT COUNTS. Prove the row's statement (the work); the ties are given (YtcakbfbidacnlaaGreatDoorTie.lean); close each card by the builder's one call (the guide's Derived/Test/ToyasCard.lean, 'card_holds'). Laid BY PROGRAM, IN A SANDBOX (cutbox-door.mjs). By AI agents, Wed Nov 11 2026. No macro, syntax, notation, axiom, sorry.
-/
import Derived.Test.YtcakbfbidacnlaaGreatDoorRows
import GoSem.ClaimSeven
namespace Go.Proofs.YtcakbfbidacnlaaGreatDoor
namespace Rows

/-- THE TIED CARD OF 'sedimentlaw13.DiskSettles'. -/
def diskSettlesCard : Claim7 := { stood := { row := diskSettlesRow, standIns := [], harness := (true, "0f3be0d6265c70241fcc94a044fd0251040a2155759a81b57f40df28656d5608"), looks := true }, kinds := [], alts := [], laidByText := true, laidKinds := [.data], laidTests := true, laidLooks := .later }
def DiskSettlesCardSaid : Prop := Claim7.holds Tryz.pinned (.plain (OpenSpec.ofChange diskSettlesSpec)) diskSettlesCard

/-- THE TIED CARD OF 'sedimentlaw13.DiskRefuses'. -/
def diskRefusesCard : Claim7 := { stood := { row := diskRefusesRow, standIns := [], harness := (true, "0f3be0d6265c70241fcc94a044fd0251040a2155759a81b57f40df28656d5608"), looks := true }, kinds := [], alts := [], laidByText := true, laidKinds := [.data], laidTests := true, laidLooks := .later }
def DiskRefusesCardSaid : Prop := Claim7.holds Tryz.pinned (.plain (OpenSpec.ofChange diskRefusesSpec)) diskRefusesCard

/-- THE TIED CARD OF 'sedimentlaw13.DiskPlays'. -/
def diskPlaysCard : Claim7 := { stood := { row := diskPlaysRow, standIns := [], harness := (true, "0f3be0d6265c70241fcc94a044fd0251040a2155759a81b57f40df28656d5608"), looks := true }, kinds := [], alts := [], laidByText := true, laidKinds := [.data], laidTests := true, laidLooks := .later }
def DiskPlaysCardSaid : Prop := Claim7.holds Tryz.pinned (.plain (OpenSpec.ofChange diskPlaysSpec)) diskPlaysCard

/-- THE TIED CARD OF 'sedimentlaw13.DiskBegins'. -/
def diskBeginsCard : Claim7 := { stood := { row := diskBeginsRow, standIns := [], harness := (true, "0f3be0d6265c70241fcc94a044fd0251040a2155759a81b57f40df28656d5608"), looks := true }, kinds := [], alts := [], laidByText := true, laidKinds := [.data], laidTests := true, laidLooks := .later }
def DiskBeginsCardSaid : Prop := Claim7.holds Tryz.pinned (.plain (OpenSpec.ofChange diskBeginsSpec)) diskBeginsCard

/-- THE TIED CARD OF 'sedimentlaw12.MergeMakes'. -/
def mergeMakesCard : Claim7 := { stood := { row := mergeMakesRow, standIns := [], harness := (true, "0f3be0d6265c70241fcc94a044fd0251040a2155759a81b57f40df28656d5608"), looks := true }, kinds := [], alts := [], laidByText := true, laidKinds := [.data], laidTests := true, laidLooks := .later }
def MergeMakesCardSaid : Prop := Claim7.holds Tryz.pinned (.plain (OpenSpec.ofChange mergeMakesSpec)) mergeMakesCard

/-- THE TIED CARD OF 'sedimentlaw12.MergeOpens'. -/
def mergeOpensCard : Claim7 := { stood := { row := mergeOpensRow, standIns := [], harness := (true, "0f3be0d6265c70241fcc94a044fd0251040a2155759a81b57f40df28656d5608"), looks := true }, kinds := [], alts := [], laidByText := true, laidKinds := [.data], laidTests := true, laidLooks := .later }
def MergeOpensCardSaid : Prop := Claim7.holds Tryz.pinned (.plain (OpenSpec.ofChange mergeOpensSpec)) mergeOpensCard

/-- THE SECOND FORM's CARD OF 'sedimentlaw13.DiskSettles'. -/
def diskSettlesUptoCard : Claim7 := { stood := { row := diskSettlesUptoRow, standIns := [], harness := (true, "0f3be0d6265c70241fcc94a044fd0251040a2155759a81b57f40df28656d5608"), looks := true }, kinds := [], alts := [], laidByText := true, laidKinds := [.data], laidTests := true, laidLooks := .later }
def DiskSettlesUptoCardSaid : Prop := Claim7.holds Tryz.pinned (.plain (OpenSpec.upto diskSettlesSpec)) diskSettlesUptoCard

/-- THE SECOND FORM's CARD OF 'sedimentlaw13.DiskRefuses'. -/
def diskRefusesUptoCard : Claim7 := { stood := { row := diskRefusesUptoRow, standIns := [], harness := (true, "0f3be0d6265c70241fcc94a044fd0251040a2155759a81b57f40df28656d5608"), looks := true }, kinds := [], alts := [], laidByText := true, laidKinds := [.data], laidTests := true, laidLooks := .later }
def DiskRefusesUptoCardSaid : Prop := Claim7.holds Tryz.pinned (.plain (OpenSpec.upto diskRefusesSpec)) diskRefusesUptoCard

/-- THE SECOND FORM's CARD OF 'sedimentlaw13.DiskPlays'. -/
def diskPlaysUptoCard : Claim7 := { stood := { row := diskPlaysUptoRow, standIns := [], harness := (true, "0f3be0d6265c70241fcc94a044fd0251040a2155759a81b57f40df28656d5608"), looks := true }, kinds := [], alts := [], laidByText := true, laidKinds := [.data], laidTests := true, laidLooks := .later }
def DiskPlaysUptoCardSaid : Prop := Claim7.holds Tryz.pinned (.plain (OpenSpec.upto diskPlaysSpec)) diskPlaysUptoCard

/-- THE SECOND FORM's CARD OF 'sedimentlaw13.DiskBegins'. -/
def diskBeginsUptoCard : Claim7 := { stood := { row := diskBeginsUptoRow, standIns := [], harness := (true, "0f3be0d6265c70241fcc94a044fd0251040a2155759a81b57f40df28656d5608"), looks := true }, kinds := [], alts := [], laidByText := true, laidKinds := [.data], laidTests := true, laidLooks := .later }
def DiskBeginsUptoCardSaid : Prop := Claim7.holds Tryz.pinned (.plain (OpenSpec.upto diskBeginsSpec)) diskBeginsUptoCard

/-- THE SECOND FORM's CARD OF 'sedimentlaw12.MergeMakes'. -/
def mergeMakesUptoCard : Claim7 := { stood := { row := mergeMakesUptoRow, standIns := [], harness := (true, "0f3be0d6265c70241fcc94a044fd0251040a2155759a81b57f40df28656d5608"), looks := true }, kinds := [], alts := [], laidByText := true, laidKinds := [.data], laidTests := true, laidLooks := .later }
def MergeMakesUptoCardSaid : Prop := Claim7.holds Tryz.pinned (.plain (OpenSpec.upto mergeMakesSpec)) mergeMakesUptoCard

/-- THE SECOND FORM's CARD OF 'sedimentlaw12.MergeOpens'. -/
def mergeOpensUptoCard : Claim7 := { stood := { row := mergeOpensUptoRow, standIns := [], harness := (true, "0f3be0d6265c70241fcc94a044fd0251040a2155759a81b57f40df28656d5608"), looks := true }, kinds := [], alts := [], laidByText := true, laidKinds := [.data], laidTests := true, laidLooks := .later }
def MergeOpensUptoCardSaid : Prop := Claim7.holds Tryz.pinned (.plain (OpenSpec.upto mergeOpensSpec)) mergeOpensUptoCard
end Rows
end Go.Proofs.YtcakbfbidacnlaaGreatDoor
