/-
  DERIVED. GIVEN WITH THE SEED: THE CARDS: each row of YtjjiclcgdngfdaaGreatDoorRows.lean that lists a variable, with what it lists TIED to the program's text (the seventh form; the later family's looks); each row that meets fmt, with fmt's text TOLD by the authors' own Lean function (tested against real Go, not proved from fmt's source: count such statements apart). THE CARD IS WHAT COUNTS. Prove the row's statement (the work); the ties are given (YtjjiclcgdngfdaaGreatDoorTie.lean); close each card by the builder's one call (the guide's Derived/Test/ToyasCard.lean, 'card_holds'). Laid BY PROGRAM, IN A SANDBOX (cutbox-door.mjs). By AI agents, Wed Nov 11 2026. No macro, syntax, notation, axiom, sorry.
-/
import Derived.Test.YtjjiclcgdngfdaaGreatDoorRows
import GoSem.ClaimSeven
namespace Go.Proofs.YtjjiclcgdngfdaaGreatDoor
namespace Rows

/-- THE TIED CARD OF 'sedimentlaw13.DiskSettles'. -/
def diskSettlesCard : Claim7 := { stood := { row := diskSettlesRow, standIns := [], harness := (true, "1a078d8e42d9919004de96bb248d091fd0118d7e92f9b42dd7cd18c4e07dfb04"), looks := true }, kinds := [], alts := [], laidByText := true, laidKinds := [.data], laidTests := true, laidLooks := .later }
def DiskSettlesCardSaid : Prop := Claim7.holds Tryz.pinned (.plain (OpenSpec.ofChange diskSettlesSpec)) diskSettlesCard

/-- THE TIED CARD OF 'sedimentlaw13.DiskRefuses'. -/
def diskRefusesCard : Claim7 := { stood := { row := diskRefusesRow, standIns := [], harness := (true, "1a078d8e42d9919004de96bb248d091fd0118d7e92f9b42dd7cd18c4e07dfb04"), looks := true }, kinds := [], alts := [], laidByText := true, laidKinds := [.data], laidTests := true, laidLooks := .later }
def DiskRefusesCardSaid : Prop := Claim7.holds Tryz.pinned (.plain (OpenSpec.ofChange diskRefusesSpec)) diskRefusesCard

/-- THE TIED CARD OF 'sedimentlaw13.DiskPlays'. -/
def diskPlaysCard : Claim7 := { stood := { row := diskPlaysRow, standIns := [], harness := (true, "1a078d8e42d9919004de96bb248d091fd0118d7e92f9b42dd7cd18c4e07dfb04"), looks := true }, kinds := [], alts := [], laidByText := true, laidKinds := [.data], laidTests := true, laidLooks := .later }
def DiskPlaysCardSaid : Prop := Claim7.holds Tryz.pinned (.plain (OpenSpec.ofChange diskPlaysSpec)) diskPlaysCard

/-- THE TIED CARD OF 'sedimentlaw13.DiskBegins'. -/
def diskBeginsCard : Claim7 := { stood := { row := diskBeginsRow, standIns := [], harness := (true, "1a078d8e42d9919004de96bb248d091fd0118d7e92f9b42dd7cd18c4e07dfb04"), looks := true }, kinds := [], alts := [], laidByText := true, laidKinds := [.data], laidTests := true, laidLooks := .later }
def DiskBeginsCardSaid : Prop := Claim7.holds Tryz.pinned (.plain (OpenSpec.ofChange diskBeginsSpec)) diskBeginsCard

/-- THE TIED CARD OF 'sedimentlaw14.PublishWhole'. -/
def publishWholeCard : Claim7 := { stood := { row := publishWholeRow, standIns := [], harness := (true, "1a078d8e42d9919004de96bb248d091fd0118d7e92f9b42dd7cd18c4e07dfb04"), looks := true }, kinds := [], alts := [], laidByText := true, laidKinds := [.data], laidTests := true, laidLooks := .later }
def PublishWholeCardSaid : Prop := Claim7.holds Tryz.pinned (.plain (OpenSpec.ofChange publishWholeSpec)) publishWholeCard

/-- THE TIED CARD OF 'sedimentlaw14.PublishRuns'. -/
def publishRunsCard : Claim7 := { stood := { row := publishRunsRow, standIns := [], harness := (true, "1a078d8e42d9919004de96bb248d091fd0118d7e92f9b42dd7cd18c4e07dfb04"), looks := true }, kinds := [], alts := [], laidByText := true, laidKinds := [.data], laidTests := true, laidLooks := .later }
def PublishRunsCardSaid : Prop := Claim7.holds Tryz.pinned (.plain (OpenSpec.ofChange publishRunsSpec)) publishRunsCard

/-- THE TIED CARD OF 'sedimentlaw14.PublishFails'. -/
def publishFailsCard : Claim7 := { stood := { row := publishFailsRow, standIns := [], harness := (true, "1a078d8e42d9919004de96bb248d091fd0118d7e92f9b42dd7cd18c4e07dfb04"), looks := true }, kinds := [], alts := [], laidByText := true, laidKinds := [.data], laidTests := true, laidLooks := .later }
def PublishFailsCardSaid : Prop := Claim7.holds Tryz.pinned (.plain (OpenSpec.ofChange publishFailsSpec)) publishFailsCard

/-- THE TIED CARD OF 'sedimentlaw15.LooseReads'. -/
def looseReadsCard : Claim7 := { stood := { row := looseReadsRow, standIns := [], harness := (true, "1a078d8e42d9919004de96bb248d091fd0118d7e92f9b42dd7cd18c4e07dfb04"), looks := true }, kinds := [], alts := [], laidByText := true, laidKinds := [.data, .data, .data, .data], laidTests := true, laidLooks := .later }
def LooseReadsCardSaid : Prop := Claim7.holds Tryz.pinned (.plain (OpenSpec.ofChange looseReadsSpec)) looseReadsCard

/-- THE TIED CARD OF 'sedimentlaw15.LooseKeeps'. -/
def looseKeepsCard : Claim7 := { stood := { row := looseKeepsRow, standIns := [], harness := (true, "1a078d8e42d9919004de96bb248d091fd0118d7e92f9b42dd7cd18c4e07dfb04"), looks := true }, kinds := [], alts := [], laidByText := true, laidKinds := [.data, .data, .data, .data], laidTests := true, laidLooks := .later }
def LooseKeepsCardSaid : Prop := Claim7.holds Tryz.pinned (.plain (OpenSpec.ofChange looseKeepsSpec)) looseKeepsCard

/-- THE TIED CARD OF 'sedimentlaw15.LooseRight'. -/
def looseRightCard : Claim7 := { stood := { row := looseRightRow, standIns := [], harness := (true, "1a078d8e42d9919004de96bb248d091fd0118d7e92f9b42dd7cd18c4e07dfb04"), looks := true }, kinds := [], alts := [], laidByText := true, laidKinds := [.data, .data, .data, .data], laidTests := true, laidLooks := .later }
def LooseRightCardSaid : Prop := Claim7.holds Tryz.pinned (.plain (OpenSpec.ofChange looseRightSpec)) looseRightCard

/-- THE TIED CARD OF 'sedimentlaw15.LoosePlays'. -/
def loosePlaysCard : Claim7 := { stood := { row := loosePlaysRow, standIns := [], harness := (true, "1a078d8e42d9919004de96bb248d091fd0118d7e92f9b42dd7cd18c4e07dfb04"), looks := true }, kinds := [], alts := [], laidByText := true, laidKinds := [.data, .data, .data, .data], laidTests := true, laidLooks := .later }
def LoosePlaysCardSaid : Prop := Claim7.holds Tryz.pinned (.plain (OpenSpec.ofChange loosePlaysSpec)) loosePlaysCard

/-- THE SECOND FORM's CARD OF 'sedimentlaw13.DiskSettles'. -/
def diskSettlesUptoCard : Claim7 := { stood := { row := diskSettlesUptoRow, standIns := [], harness := (true, "1a078d8e42d9919004de96bb248d091fd0118d7e92f9b42dd7cd18c4e07dfb04"), looks := true }, kinds := [], alts := [], laidByText := true, laidKinds := [.data], laidTests := true, laidLooks := .later }
def DiskSettlesUptoCardSaid : Prop := Claim7.holds Tryz.pinned (.plain (OpenSpec.upto diskSettlesSpec)) diskSettlesUptoCard

/-- THE SECOND FORM's CARD OF 'sedimentlaw13.DiskRefuses'. -/
def diskRefusesUptoCard : Claim7 := { stood := { row := diskRefusesUptoRow, standIns := [], harness := (true, "1a078d8e42d9919004de96bb248d091fd0118d7e92f9b42dd7cd18c4e07dfb04"), looks := true }, kinds := [], alts := [], laidByText := true, laidKinds := [.data], laidTests := true, laidLooks := .later }
def DiskRefusesUptoCardSaid : Prop := Claim7.holds Tryz.pinned (.plain (OpenSpec.upto diskRefusesSpec)) diskRefusesUptoCard

/-- THE SECOND FORM's CARD OF 'sedimentlaw13.DiskPlays'. -/
def diskPlaysUptoCard : Claim7 := { stood := { row := diskPlaysUptoRow, standIns := [], harness := (true, "1a078d8e42d9919004de96bb248d091fd0118d7e92f9b42dd7cd18c4e07dfb04"), looks := true }, kinds := [], alts := [], laidByText := true, laidKinds := [.data], laidTests := true, laidLooks := .later }
def DiskPlaysUptoCardSaid : Prop := Claim7.holds Tryz.pinned (.plain (OpenSpec.upto diskPlaysSpec)) diskPlaysUptoCard

/-- THE SECOND FORM's CARD OF 'sedimentlaw13.DiskBegins'. -/
def diskBeginsUptoCard : Claim7 := { stood := { row := diskBeginsUptoRow, standIns := [], harness := (true, "1a078d8e42d9919004de96bb248d091fd0118d7e92f9b42dd7cd18c4e07dfb04"), looks := true }, kinds := [], alts := [], laidByText := true, laidKinds := [.data], laidTests := true, laidLooks := .later }
def DiskBeginsUptoCardSaid : Prop := Claim7.holds Tryz.pinned (.plain (OpenSpec.upto diskBeginsSpec)) diskBeginsUptoCard

/-- THE SECOND FORM's CARD OF 'sedimentlaw14.PublishWhole'. -/
def publishWholeUptoCard : Claim7 := { stood := { row := publishWholeUptoRow, standIns := [], harness := (true, "1a078d8e42d9919004de96bb248d091fd0118d7e92f9b42dd7cd18c4e07dfb04"), looks := true }, kinds := [], alts := [], laidByText := true, laidKinds := [.data], laidTests := true, laidLooks := .later }
def PublishWholeUptoCardSaid : Prop := Claim7.holds Tryz.pinned (.plain (OpenSpec.upto publishWholeSpec)) publishWholeUptoCard

/-- THE SECOND FORM's CARD OF 'sedimentlaw14.PublishRuns'. -/
def publishRunsUptoCard : Claim7 := { stood := { row := publishRunsUptoRow, standIns := [], harness := (true, "1a078d8e42d9919004de96bb248d091fd0118d7e92f9b42dd7cd18c4e07dfb04"), looks := true }, kinds := [], alts := [], laidByText := true, laidKinds := [.data], laidTests := true, laidLooks := .later }
def PublishRunsUptoCardSaid : Prop := Claim7.holds Tryz.pinned (.plain (OpenSpec.upto publishRunsSpec)) publishRunsUptoCard

/-- THE SECOND FORM's CARD OF 'sedimentlaw14.PublishFails'. -/
def publishFailsUptoCard : Claim7 := { stood := { row := publishFailsUptoRow, standIns := [], harness := (true, "1a078d8e42d9919004de96bb248d091fd0118d7e92f9b42dd7cd18c4e07dfb04"), looks := true }, kinds := [], alts := [], laidByText := true, laidKinds := [.data], laidTests := true, laidLooks := .later }
def PublishFailsUptoCardSaid : Prop := Claim7.holds Tryz.pinned (.plain (OpenSpec.upto publishFailsSpec)) publishFailsUptoCard

/-- THE SECOND FORM's CARD OF 'sedimentlaw15.LooseReads'. -/
def looseReadsUptoCard : Claim7 := { stood := { row := looseReadsUptoRow, standIns := [], harness := (true, "1a078d8e42d9919004de96bb248d091fd0118d7e92f9b42dd7cd18c4e07dfb04"), looks := true }, kinds := [], alts := [], laidByText := true, laidKinds := [.data, .data, .data, .data], laidTests := true, laidLooks := .later }
def LooseReadsUptoCardSaid : Prop := Claim7.holds Tryz.pinned (.plain (OpenSpec.upto looseReadsSpec)) looseReadsUptoCard

/-- THE SECOND FORM's CARD OF 'sedimentlaw15.LooseKeeps'. -/
def looseKeepsUptoCard : Claim7 := { stood := { row := looseKeepsUptoRow, standIns := [], harness := (true, "1a078d8e42d9919004de96bb248d091fd0118d7e92f9b42dd7cd18c4e07dfb04"), looks := true }, kinds := [], alts := [], laidByText := true, laidKinds := [.data, .data, .data, .data], laidTests := true, laidLooks := .later }
def LooseKeepsUptoCardSaid : Prop := Claim7.holds Tryz.pinned (.plain (OpenSpec.upto looseKeepsSpec)) looseKeepsUptoCard

/-- THE SECOND FORM's CARD OF 'sedimentlaw15.LooseRight'. -/
def looseRightUptoCard : Claim7 := { stood := { row := looseRightUptoRow, standIns := [], harness := (true, "1a078d8e42d9919004de96bb248d091fd0118d7e92f9b42dd7cd18c4e07dfb04"), looks := true }, kinds := [], alts := [], laidByText := true, laidKinds := [.data, .data, .data, .data], laidTests := true, laidLooks := .later }
def LooseRightUptoCardSaid : Prop := Claim7.holds Tryz.pinned (.plain (OpenSpec.upto looseRightSpec)) looseRightUptoCard

/-- THE SECOND FORM's CARD OF 'sedimentlaw15.LoosePlays'. -/
def loosePlaysUptoCard : Claim7 := { stood := { row := loosePlaysUptoRow, standIns := [], harness := (true, "1a078d8e42d9919004de96bb248d091fd0118d7e92f9b42dd7cd18c4e07dfb04"), looks := true }, kinds := [], alts := [], laidByText := true, laidKinds := [.data, .data, .data, .data], laidTests := true, laidLooks := .later }
def LoosePlaysUptoCardSaid : Prop := Claim7.holds Tryz.pinned (.plain (OpenSpec.upto loosePlaysSpec)) loosePlaysUptoCard
end Rows
end Go.Proofs.YtjjiclcgdngfdaaGreatDoor
