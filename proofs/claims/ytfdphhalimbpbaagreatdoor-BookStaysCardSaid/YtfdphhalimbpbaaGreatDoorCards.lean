/-
  DERIVED. GIVEN WITH THE SEED: THE CARDS: each row of YtfdphhalimbpbaaGreatDoorRows.lean that lists a variable, with what it lists TIED to the program's text (the seventh form; the later family's looks); each row that meets fmt, with fmt's text TOLD by the authors' own Lean function (tested against real Go, not proved from fmt's source: count such statements apart). THE CARD IS WHAT COUNTS. Prove the row's statement (the work); the ties are given (YtfdphhalimbpbaaGreatDoorTie.lean); close each card by the builder's one call (the guide's Derived/Test/ToyasCard.lean, 'card_holds'). Laid BY PROGRAM, IN A SANDBOX (cutbox-door.mjs). By AI agents, Wed Nov 11 2026. No macro, syntax, notation, axiom, sorry.
-/
import Derived.Test.YtfdphhalimbpbaaGreatDoorRows
import GoSem.ClaimSeven
namespace Go.Proofs.YtfdphhalimbpbaaGreatDoor
namespace Rows

/-- THE TIED CARD OF 'sedimentlaw19.MarkSource'. -/
def markSourceCard : Claim7 := { stood := { row := markSourceRow, standIns := [], harness := (true, "b72c119eab6311ecd91192f1d19e127f4521be469ca9e97283615bbfb84676bb"), looks := true }, kinds := [], alts := [], laidByText := true, laidKinds := [.data, .data], laidTests := true, laidLooks := .later }
def MarkSourceCardSaid : Prop := Claim7.holds Tryz.pinned (.plain (OpenSpec.ofChange markSourceSpec)) markSourceCard

/-- THE TIED CARD OF 'sedimentlaw19.MarkWalks'. -/
def markWalksCard : Claim7 := { stood := { row := markWalksRow, standIns := [], harness := (true, "b72c119eab6311ecd91192f1d19e127f4521be469ca9e97283615bbfb84676bb"), looks := true }, kinds := [], alts := [], laidByText := true, laidKinds := [.data, .data], laidTests := true, laidLooks := .later }
def MarkWalksCardSaid : Prop := Claim7.holds Tryz.pinned (.plain (OpenSpec.ofChange markWalksSpec)) markWalksCard

/-- THE TIED CARD OF 'sedimentlaw19.MarkCloses'. -/
def markClosesCard : Claim7 := { stood := { row := markClosesRow, standIns := [], harness := (true, "b72c119eab6311ecd91192f1d19e127f4521be469ca9e97283615bbfb84676bb"), looks := true }, kinds := [], alts := [], laidByText := true, laidKinds := [.data, .data], laidTests := true, laidLooks := .later }
def MarkClosesCardSaid : Prop := Claim7.holds Tryz.pinned (.plain (OpenSpec.ofChange markClosesSpec)) markClosesCard

/-- THE TIED CARD OF 'sedimentlaw19.MarkClosed'. -/
def markClosedCard : Claim7 := { stood := { row := markClosedRow, standIns := [], harness := (true, "b72c119eab6311ecd91192f1d19e127f4521be469ca9e97283615bbfb84676bb"), looks := true }, kinds := [], alts := [], laidByText := true, laidKinds := [.data, .data], laidTests := true, laidLooks := .later }
def MarkClosedCardSaid : Prop := Claim7.holds Tryz.pinned (.plain (OpenSpec.ofChange markClosedSpec)) markClosedCard

/-- THE TIED CARD OF 'sedimentlaw19.MarkOrder'. -/
def markOrderCard : Claim7 := { stood := { row := markOrderRow, standIns := [], harness := (true, "b72c119eab6311ecd91192f1d19e127f4521be469ca9e97283615bbfb84676bb"), looks := true }, kinds := [], alts := [], laidByText := true, laidKinds := [.data, .data], laidTests := true, laidLooks := .later }
def MarkOrderCardSaid : Prop := Claim7.holds Tryz.pinned (.plain (OpenSpec.ofChange markOrderSpec)) markOrderCard

/-- THE TIED CARD OF 'sedimentlaw19.MarkAgain'. -/
def markAgainCard : Claim7 := { stood := { row := markAgainRow, standIns := [], harness := (true, "b72c119eab6311ecd91192f1d19e127f4521be469ca9e97283615bbfb84676bb"), looks := true }, kinds := [], alts := [], laidByText := true, laidKinds := [.data, .data], laidTests := true, laidLooks := .later }
def MarkAgainCardSaid : Prop := Claim7.holds Tryz.pinned (.plain (OpenSpec.ofChange markAgainSpec)) markAgainCard

/-- THE TIED CARD OF 'sedimentlaw17.BookNone'. -/
def bookNoneCard : Claim7 := { stood := { row := bookNoneRow, standIns := [], harness := (true, "b72c119eab6311ecd91192f1d19e127f4521be469ca9e97283615bbfb84676bb"), looks := true }, kinds := [], alts := [], laidByText := true, laidKinds := [.data, .data], laidTests := true, laidLooks := .later }
def BookNoneCardSaid : Prop := Claim7.holds Tryz.pinned (.plain (OpenSpec.ofChange bookNoneSpec)) bookNoneCard

/-- THE TIED CARD OF 'sedimentlaw17.BookStays'. -/
def bookStaysCard : Claim7 := { stood := { row := bookStaysRow, standIns := [], harness := (true, "b72c119eab6311ecd91192f1d19e127f4521be469ca9e97283615bbfb84676bb"), looks := true }, kinds := [], alts := [], laidByText := true, laidKinds := [.data, .data], laidTests := true, laidLooks := .later }
def BookStaysCardSaid : Prop := Claim7.holds Tryz.pinned (.plain (OpenSpec.ofChange bookStaysSpec)) bookStaysCard

/-- THE TIED CARD OF 'sedimentlaw17.BookPlays'. -/
def bookPlaysCard : Claim7 := { stood := { row := bookPlaysRow, standIns := [], harness := (true, "b72c119eab6311ecd91192f1d19e127f4521be469ca9e97283615bbfb84676bb"), looks := true }, kinds := [], alts := [], laidByText := true, laidKinds := [.data, .data], laidTests := true, laidLooks := .later }
def BookPlaysCardSaid : Prop := Claim7.holds Tryz.pinned (.plain (OpenSpec.ofChange bookPlaysSpec)) bookPlaysCard

/-- THE TIED CARD OF 'sedimentlaw17.BookTwice'. -/
def bookTwiceCard : Claim7 := { stood := { row := bookTwiceRow, standIns := [], harness := (true, "b72c119eab6311ecd91192f1d19e127f4521be469ca9e97283615bbfb84676bb"), looks := true }, kinds := [], alts := [], laidByText := true, laidKinds := [.data, .data], laidTests := true, laidLooks := .later }
def BookTwiceCardSaid : Prop := Claim7.holds Tryz.pinned (.plain (OpenSpec.ofChange bookTwiceSpec)) bookTwiceCard

/-- THE SECOND FORM's CARD OF 'sedimentlaw19.MarkSource'. -/
def markSourceUptoCard : Claim7 := { stood := { row := markSourceUptoRow, standIns := [], harness := (true, "b72c119eab6311ecd91192f1d19e127f4521be469ca9e97283615bbfb84676bb"), looks := true }, kinds := [], alts := [], laidByText := true, laidKinds := [.data, .data], laidTests := true, laidLooks := .later }
def MarkSourceUptoCardSaid : Prop := Claim7.holds Tryz.pinned (.plain (OpenSpec.upto markSourceSpec)) markSourceUptoCard

/-- THE SECOND FORM's CARD OF 'sedimentlaw19.MarkWalks'. -/
def markWalksUptoCard : Claim7 := { stood := { row := markWalksUptoRow, standIns := [], harness := (true, "b72c119eab6311ecd91192f1d19e127f4521be469ca9e97283615bbfb84676bb"), looks := true }, kinds := [], alts := [], laidByText := true, laidKinds := [.data, .data], laidTests := true, laidLooks := .later }
def MarkWalksUptoCardSaid : Prop := Claim7.holds Tryz.pinned (.plain (OpenSpec.upto markWalksSpec)) markWalksUptoCard

/-- THE SECOND FORM's CARD OF 'sedimentlaw19.MarkCloses'. -/
def markClosesUptoCard : Claim7 := { stood := { row := markClosesUptoRow, standIns := [], harness := (true, "b72c119eab6311ecd91192f1d19e127f4521be469ca9e97283615bbfb84676bb"), looks := true }, kinds := [], alts := [], laidByText := true, laidKinds := [.data, .data], laidTests := true, laidLooks := .later }
def MarkClosesUptoCardSaid : Prop := Claim7.holds Tryz.pinned (.plain (OpenSpec.upto markClosesSpec)) markClosesUptoCard

/-- THE SECOND FORM's CARD OF 'sedimentlaw19.MarkClosed'. -/
def markClosedUptoCard : Claim7 := { stood := { row := markClosedUptoRow, standIns := [], harness := (true, "b72c119eab6311ecd91192f1d19e127f4521be469ca9e97283615bbfb84676bb"), looks := true }, kinds := [], alts := [], laidByText := true, laidKinds := [.data, .data], laidTests := true, laidLooks := .later }
def MarkClosedUptoCardSaid : Prop := Claim7.holds Tryz.pinned (.plain (OpenSpec.upto markClosedSpec)) markClosedUptoCard

/-- THE SECOND FORM's CARD OF 'sedimentlaw19.MarkOrder'. -/
def markOrderUptoCard : Claim7 := { stood := { row := markOrderUptoRow, standIns := [], harness := (true, "b72c119eab6311ecd91192f1d19e127f4521be469ca9e97283615bbfb84676bb"), looks := true }, kinds := [], alts := [], laidByText := true, laidKinds := [.data, .data], laidTests := true, laidLooks := .later }
def MarkOrderUptoCardSaid : Prop := Claim7.holds Tryz.pinned (.plain (OpenSpec.upto markOrderSpec)) markOrderUptoCard

/-- THE SECOND FORM's CARD OF 'sedimentlaw19.MarkAgain'. -/
def markAgainUptoCard : Claim7 := { stood := { row := markAgainUptoRow, standIns := [], harness := (true, "b72c119eab6311ecd91192f1d19e127f4521be469ca9e97283615bbfb84676bb"), looks := true }, kinds := [], alts := [], laidByText := true, laidKinds := [.data, .data], laidTests := true, laidLooks := .later }
def MarkAgainUptoCardSaid : Prop := Claim7.holds Tryz.pinned (.plain (OpenSpec.upto markAgainSpec)) markAgainUptoCard

/-- THE SECOND FORM's CARD OF 'sedimentlaw17.BookNone'. -/
def bookNoneUptoCard : Claim7 := { stood := { row := bookNoneUptoRow, standIns := [], harness := (true, "b72c119eab6311ecd91192f1d19e127f4521be469ca9e97283615bbfb84676bb"), looks := true }, kinds := [], alts := [], laidByText := true, laidKinds := [.data, .data], laidTests := true, laidLooks := .later }
def BookNoneUptoCardSaid : Prop := Claim7.holds Tryz.pinned (.plain (OpenSpec.upto bookNoneSpec)) bookNoneUptoCard

/-- THE SECOND FORM's CARD OF 'sedimentlaw17.BookStays'. -/
def bookStaysUptoCard : Claim7 := { stood := { row := bookStaysUptoRow, standIns := [], harness := (true, "b72c119eab6311ecd91192f1d19e127f4521be469ca9e97283615bbfb84676bb"), looks := true }, kinds := [], alts := [], laidByText := true, laidKinds := [.data, .data], laidTests := true, laidLooks := .later }
def BookStaysUptoCardSaid : Prop := Claim7.holds Tryz.pinned (.plain (OpenSpec.upto bookStaysSpec)) bookStaysUptoCard

/-- THE SECOND FORM's CARD OF 'sedimentlaw17.BookPlays'. -/
def bookPlaysUptoCard : Claim7 := { stood := { row := bookPlaysUptoRow, standIns := [], harness := (true, "b72c119eab6311ecd91192f1d19e127f4521be469ca9e97283615bbfb84676bb"), looks := true }, kinds := [], alts := [], laidByText := true, laidKinds := [.data, .data], laidTests := true, laidLooks := .later }
def BookPlaysUptoCardSaid : Prop := Claim7.holds Tryz.pinned (.plain (OpenSpec.upto bookPlaysSpec)) bookPlaysUptoCard

/-- THE SECOND FORM's CARD OF 'sedimentlaw17.BookTwice'. -/
def bookTwiceUptoCard : Claim7 := { stood := { row := bookTwiceUptoRow, standIns := [], harness := (true, "b72c119eab6311ecd91192f1d19e127f4521be469ca9e97283615bbfb84676bb"), looks := true }, kinds := [], alts := [], laidByText := true, laidKinds := [.data, .data], laidTests := true, laidLooks := .later }
def BookTwiceUptoCardSaid : Prop := Claim7.holds Tryz.pinned (.plain (OpenSpec.upto bookTwiceSpec)) bookTwiceUptoCard
end Rows
end Go.Proofs.YtfdphhalimbpbaaGreatDoor
