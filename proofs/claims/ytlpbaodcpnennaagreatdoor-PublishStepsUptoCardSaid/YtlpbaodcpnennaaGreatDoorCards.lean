/-
  DERIVED. GIVEN WITH THE SEED: THE CARDS: each row of YtlpbaodcpnennaaGreatDoorRows.lean that lists a variable, with what it lists TIED to the program's text (the seventh form; the later family's looks); each row that meets fmt, with fmt's text TOLD by the authors' own Lean function (tested against real Go, not proved from fmt's source: count such statements apart). THE CARD IS WHAT COUNTS. Prove the row's statement (the work); the ties are given (YtlpbaodcpnennaaGreatDoorTie.lean); close each card by the builder's one call (the guide's Derived/Test/ToyasCard.lean, 'card_holds'). Laid BY PROGRAM, IN A SANDBOX (cutbox-door.mjs). By AI agents, Wed Nov 11 2026. No macro, syntax, notation, axiom, sorry.
-/
import Derived.Test.YtlpbaodcpnennaaGreatDoorRows
import GoSem.ClaimSeven
namespace Go.Proofs.YtlpbaodcpnennaaGreatDoor
namespace Rows

/-- THE TIED CARD OF 'sedimentlaw14.PublishSteps'. -/
def publishStepsCard : Claim7 := { stood := { row := publishStepsRow, standIns := [], harness := (true, "7611e384ae1041752804480f4391349be42ca6efc60604a8ae1ec838d4613358"), looks := true }, kinds := [], alts := [], laidByText := true, laidKinds := [.data], laidTests := true, laidLooks := .later }
def PublishStepsCardSaid : Prop := Claim7.holds Tryz.pinned (.plain (OpenSpec.ofChange publishStepsSpec)) publishStepsCard

/-- THE SECOND FORM's CARD OF 'sedimentlaw14.PublishSteps'. -/
def publishStepsUptoCard : Claim7 := { stood := { row := publishStepsUptoRow, standIns := [], harness := (true, "7611e384ae1041752804480f4391349be42ca6efc60604a8ae1ec838d4613358"), looks := true }, kinds := [], alts := [], laidByText := true, laidKinds := [.data], laidTests := true, laidLooks := .later }
def PublishStepsUptoCardSaid : Prop := Claim7.holds Tryz.pinned (.plain (OpenSpec.upto publishStepsSpec)) publishStepsUptoCard
end Rows
end Go.Proofs.YtlpbaodcpnennaaGreatDoor
