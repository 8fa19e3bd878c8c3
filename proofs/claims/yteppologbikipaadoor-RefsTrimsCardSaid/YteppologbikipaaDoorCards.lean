/-
  DERIVED. GIVEN WITH THE SEED: THE CARDS: each row of YteppologbikipaaDoorRows.lean that lists a variable, with what it lists TIED to the program's text (the seventh form; the later family's looks); each row that meets fmt, with fmt's text TOLD by the authors' own Lean function (tested against real Go, not proved from fmt's source: count such statements apart). THE CARD IS WHAT COUNTS. Prove the row's statement (the work); the ties are given (YteppologbikipaaDoorTie.lean); close each card by the builder's one call (the guide's Derived/Test/ToyasCard.lean, 'card_holds'). Laid BY PROGRAM, IN A SANDBOX (cutbox-door.mjs). By AI agents, Wed Nov 11 2026. No macro, syntax, notation, axiom, sorry.
-/
import Derived.Test.YteppologbikipaaDoorRows
import GoSem.ClaimSeven
namespace Go.Proofs.YteppologbikipaaDoor
namespace Rows

/-- THE TIED CARD OF 'sedimentlaw16.RefsReads'. -/
def refsReadsCard : Claim7 := { stood := { row := refsReadsRow, standIns := [], harness := (true, "d19bddc23dcae8412217a111f8db6621df5933f8e9f5690eeebb61a7323400d3"), looks := false }, kinds := [], alts := [], laidByText := true, laidKinds := [.data], laidTests := true, laidLooks := .later }
def RefsReadsCardSaid : Prop := Claim7.holds Tryd.pinned (.plain (OpenSpec.ofChange refsReadsSpec)) refsReadsCard

/-- THE TIED CARD OF 'sedimentlaw16.RefsCut'. -/
def refsCutCard : Claim7 := { stood := { row := refsCutRow, standIns := [], harness := (true, "d19bddc23dcae8412217a111f8db6621df5933f8e9f5690eeebb61a7323400d3"), looks := false }, kinds := [], alts := [], laidByText := true, laidKinds := [.data], laidTests := true, laidLooks := .later }
def RefsCutCardSaid : Prop := Claim7.holds Tryd.pinned (.plain (OpenSpec.ofChange refsCutSpec)) refsCutCard

/-- THE TIED CARD OF 'sedimentlaw06.ObjectRights'. -/
def objectRightsCard : Claim7 := { stood := { row := objectRightsRow, standIns := [], harness := (true, "d19bddc23dcae8412217a111f8db6621df5933f8e9f5690eeebb61a7323400d3"), looks := false }, kinds := [], alts := [], laidByText := true, laidKinds := [.data, .data], laidTests := true, laidLooks := .later }
def ObjectRightsCardSaid : Prop := Claim7.holds Tryd.pinned (.plain (OpenSpec.ofChange objectRightsSpec)) objectRightsCard

/-- THE TIED CARD OF 'sedimentlaw16.RefsAdds'. -/
def refsAddsCard : Claim7 := { stood := { row := refsAddsRow, standIns := [], harness := (true, "d19bddc23dcae8412217a111f8db6621df5933f8e9f5690eeebb61a7323400d3"), looks := false }, kinds := [], alts := [], laidByText := true, laidKinds := [.data], laidTests := true, laidLooks := .later }
def RefsAddsCardSaid : Prop := Claim7.holds Tryd.pinned (.plain (OpenSpec.ofChange refsAddsSpec)) refsAddsCard

/-- THE TIED CARD OF 'sedimentlaw16.RefsTrims'. -/
def refsTrimsCard : Claim7 := { stood := { row := refsTrimsRow, standIns := [], harness := (true, "d19bddc23dcae8412217a111f8db6621df5933f8e9f5690eeebb61a7323400d3"), looks := false }, kinds := [], alts := [], laidByText := true, laidKinds := [.data], laidTests := true, laidLooks := .later }
def RefsTrimsCardSaid : Prop := Claim7.holds Tryd.pinned (.plain (OpenSpec.ofChange refsTrimsSpec)) refsTrimsCard

/-- THE SECOND FORM's CARD OF 'sedimentlaw16.RefsReads'. -/
def refsReadsUptoCard : Claim7 := { stood := { row := refsReadsUptoRow, standIns := [], harness := (true, "d19bddc23dcae8412217a111f8db6621df5933f8e9f5690eeebb61a7323400d3"), looks := false }, kinds := [], alts := [], laidByText := true, laidKinds := [.data], laidTests := true, laidLooks := .later }
def RefsReadsUptoCardSaid : Prop := Claim7.holds Tryd.pinned (.plain (OpenSpec.upto refsReadsSpec)) refsReadsUptoCard

/-- THE SECOND FORM's CARD OF 'sedimentlaw16.RefsCut'. -/
def refsCutUptoCard : Claim7 := { stood := { row := refsCutUptoRow, standIns := [], harness := (true, "d19bddc23dcae8412217a111f8db6621df5933f8e9f5690eeebb61a7323400d3"), looks := false }, kinds := [], alts := [], laidByText := true, laidKinds := [.data], laidTests := true, laidLooks := .later }
def RefsCutUptoCardSaid : Prop := Claim7.holds Tryd.pinned (.plain (OpenSpec.upto refsCutSpec)) refsCutUptoCard

/-- THE SECOND FORM's CARD OF 'sedimentlaw06.ObjectRights'. -/
def objectRightsUptoCard : Claim7 := { stood := { row := objectRightsUptoRow, standIns := [], harness := (true, "d19bddc23dcae8412217a111f8db6621df5933f8e9f5690eeebb61a7323400d3"), looks := false }, kinds := [], alts := [], laidByText := true, laidKinds := [.data, .data], laidTests := true, laidLooks := .later }
def ObjectRightsUptoCardSaid : Prop := Claim7.holds Tryd.pinned (.plain (OpenSpec.upto objectRightsSpec)) objectRightsUptoCard

/-- THE SECOND FORM's CARD OF 'sedimentlaw16.RefsAdds'. -/
def refsAddsUptoCard : Claim7 := { stood := { row := refsAddsUptoRow, standIns := [], harness := (true, "d19bddc23dcae8412217a111f8db6621df5933f8e9f5690eeebb61a7323400d3"), looks := false }, kinds := [], alts := [], laidByText := true, laidKinds := [.data], laidTests := true, laidLooks := .later }
def RefsAddsUptoCardSaid : Prop := Claim7.holds Tryd.pinned (.plain (OpenSpec.upto refsAddsSpec)) refsAddsUptoCard

/-- THE SECOND FORM's CARD OF 'sedimentlaw16.RefsTrims'. -/
def refsTrimsUptoCard : Claim7 := { stood := { row := refsTrimsUptoRow, standIns := [], harness := (true, "d19bddc23dcae8412217a111f8db6621df5933f8e9f5690eeebb61a7323400d3"), looks := false }, kinds := [], alts := [], laidByText := true, laidKinds := [.data], laidTests := true, laidLooks := .later }
def RefsTrimsUptoCardSaid : Prop := Claim7.holds Tryd.pinned (.plain (OpenSpec.upto refsTrimsSpec)) refsTrimsUptoCard
end Rows
end Go.Proofs.YteppologbikipaaDoor
