/-
  NARROWER THAN 'FOR EVERY INPUT', by the rows' own cells (each row's printed sentence says how): DiskSettles: laid · DiskRefuses: laid · DiskPlays: laid · DiskBegins: laid · MergeMakes: laid · MergeOpens: laid.
  DERIVED. THE GIVEN ROWS OF THIS SEAT. 6 by the template 'for every input the law returns true; each argument reads behind the call as it read before'; 0 by the template 'total and deterministic' (their statements: YtcakbfbidacnlaaGreatDoorTotals.lean).
  GIVEN WITH THE SEED: the statements are not yours to turn. If you find one false, say at which input.
  Laid BY PROGRAM, IN A SANDBOX (cutbox-rows.mjs): the forced cells as the released guide's own fill.sh prints them over the translation 29ac1a8c6d1aa2a1… (all of the seat's roots in one cut). By AI agents, Wed Nov 11 2026. No macro, syntax, notation, axiom, sorry.
-/
import Derived.Test.YtcakbfbidacnlaaGreatDoorChecked
import GoSem.Claim
import GoSem.ClaimJoined
import GoSem.ClaimMapViews
import Derived.JoinedTies
import Derived.KernelRfl
namespace Go.Proofs.YtcakbfbidacnlaaGreatDoor
/- THE CELL 'sum', in the pinned program and in every row, IS THE sha256 OF THE DUMP (.gsa) THAT YtcakbfbidacnlaaGreatDoorProg.lean LOADS. Nothing in Lean hashes anything: it is a label: what it is worth is what the hold of that sum in a sandbox is worth. -/
noncomputable def Tryz.pinned : Pinned := { name := "ytcakbfbidacnlaagreatdoor", sum := "29ac1a8c6d1aa2a1e9d2043c1172019ee29997ea36f687f3cb98ec3e41fae640", checked := Tryz.checked }
namespace Rows
def none {H : Type} : Left H := { results := [], args := [] }

/- WHAT THE LISTED PACKAGE-LEVEL VARIABLES READ AS WHEN THE CALL BEGINS. Each datum BY PROGRAM (the guide's laid-datum.mjs) off the statement by which the dump's own 'gosem.cut.vars' lays the variable. In a bare row this is a premise. The card (YtcakbfbidacnlaaGreatDoorCards.lean) ties it to the program's text. -/
def laid_sediment_disk_order {H : Type} : DataW H := .agg [.lit (.string [108, 111, 111, 115, 101]), .lit (.string [112, 97, 99, 107]), .lit (.string [114, 101, 102])]
def laid_sediment_crc_halves {H : Type} : DataW H := .agg [.lit (.int .u32 0), .lit (.int .u32 498536548), .lit (.int .u32 997073096), .lit (.int .u32 651767980), .lit (.int .u32 1994146192), .lit (.int .u32 1802195444), .lit (.int .u32 1303535960), .lit (.int .u32 1342533948), .lit (.int .u32 3988292384), .lit (.int .u32 4027552580), .lit (.int .u32 3604390888), .lit (.int .u32 3412177804), .lit (.int .u32 2607071920), .lit (.int .u32 2262029012), .lit (.int .u32 2685067896), .lit (.int .u32 3183342108)]

/-- 'sedimentlaw13.DiskSettles': WHATEVER THE INPUT: true; the input reads as it did. -/
def diskSettlesSpec : ChangeSpec := { name := "diskSettles", fn := fun _ => fun
  | [d1, d2, d3, d4, d5] => { results := [.lit (.bool true)], args := [d1, d2, d3, d4, d5] }
  | _ => none }
def diskSettlesRow : OpenClaim := { program := "ytcakbfbidacnlaagreatdoor", sum := "29ac1a8c6d1aa2a1e9d2043c1172019ee29997ea36f687f3cb98ec3e41fae640", func := "sediment/sedimentlaw13.DiskSettles", spec := "diskSettles", inPlace := ["maps.clone"], unfollowed := true, recurses := true, named := ["sediment/disk.order"], plainKeys := false, apart := false, laid := [("sediment/disk.order", laid_sediment_disk_order)] }
def DiskSettlesSaid : Prop := diskSettlesRow.holds Tryz.pinned (OpenSpec.ofChange diskSettlesSpec)

/-- ITS FALSE NEIGHBOUR: 'it returns false'. Refute it at one input. -/
def diskSettlesWrong : ChangeSpec := { name := "diskSettles", fn := fun _ => fun
  | [d1, d2, d3, d4, d5] => { results := [.lit (.bool false)], args := [d1, d2, d3, d4, d5] }
  | _ => none }
def DiskSettlesWrongFalsely : Prop := diskSettlesRow.holds Tryz.pinned (OpenSpec.ofChange diskSettlesWrong)

/-- 'sedimentlaw13.DiskRefuses': WHATEVER THE INPUT: true; the input reads as it did. -/
def diskRefusesSpec : ChangeSpec := { name := "diskRefuses", fn := fun _ => fun
  | [d1, d2, d3] => { results := [.lit (.bool true)], args := [d1, d2, d3] }
  | _ => none }
def diskRefusesRow : OpenClaim := { program := "ytcakbfbidacnlaagreatdoor", sum := "29ac1a8c6d1aa2a1e9d2043c1172019ee29997ea36f687f3cb98ec3e41fae640", func := "sediment/sedimentlaw13.DiskRefuses", spec := "diskRefuses", inPlace := ["maps.clone"], unfollowed := true, recurses := true, named := ["sediment/disk.order"], plainKeys := false, apart := false, laid := [("sediment/disk.order", laid_sediment_disk_order)] }
def DiskRefusesSaid : Prop := diskRefusesRow.holds Tryz.pinned (OpenSpec.ofChange diskRefusesSpec)

/-- ITS FALSE NEIGHBOUR: 'it returns false'. Refute it at one input. -/
def diskRefusesWrong : ChangeSpec := { name := "diskRefuses", fn := fun _ => fun
  | [d1, d2, d3] => { results := [.lit (.bool false)], args := [d1, d2, d3] }
  | _ => none }
def DiskRefusesWrongFalsely : Prop := diskRefusesRow.holds Tryz.pinned (OpenSpec.ofChange diskRefusesWrong)

/-- 'sedimentlaw13.DiskPlays': WHATEVER THE INPUT: true; the input reads as it did. -/
def diskPlaysSpec : ChangeSpec := { name := "diskPlays", fn := fun _ => fun
  | [d1, d2, d3] => { results := [.lit (.bool true)], args := [d1, d2, d3] }
  | _ => none }
def diskPlaysRow : OpenClaim := { program := "ytcakbfbidacnlaagreatdoor", sum := "29ac1a8c6d1aa2a1e9d2043c1172019ee29997ea36f687f3cb98ec3e41fae640", func := "sediment/sedimentlaw13.DiskPlays", spec := "diskPlays", inPlace := ["maps.clone"], unfollowed := true, recurses := true, named := ["sediment/disk.order"], plainKeys := false, apart := false, laid := [("sediment/disk.order", laid_sediment_disk_order)] }
def DiskPlaysSaid : Prop := diskPlaysRow.holds Tryz.pinned (OpenSpec.ofChange diskPlaysSpec)

/-- ITS FALSE NEIGHBOUR: 'it returns false'. Refute it at one input. -/
def diskPlaysWrong : ChangeSpec := { name := "diskPlays", fn := fun _ => fun
  | [d1, d2, d3] => { results := [.lit (.bool false)], args := [d1, d2, d3] }
  | _ => none }
def DiskPlaysWrongFalsely : Prop := diskPlaysRow.holds Tryz.pinned (OpenSpec.ofChange diskPlaysWrong)

/-- 'sedimentlaw13.DiskBegins': WHATEVER THE INPUT: true; the input reads as it did. -/
def diskBeginsSpec : ChangeSpec := { name := "diskBegins", fn := fun _ => fun
  | [d1, d2, d3, d4] => { results := [.lit (.bool true)], args := [d1, d2, d3, d4] }
  | _ => none }
def diskBeginsRow : OpenClaim := { program := "ytcakbfbidacnlaagreatdoor", sum := "29ac1a8c6d1aa2a1e9d2043c1172019ee29997ea36f687f3cb98ec3e41fae640", func := "sediment/sedimentlaw13.DiskBegins", spec := "diskBegins", inPlace := ["maps.clone"], unfollowed := true, recurses := true, named := ["sediment/disk.order"], plainKeys := false, apart := false, laid := [("sediment/disk.order", laid_sediment_disk_order)] }
def DiskBeginsSaid : Prop := diskBeginsRow.holds Tryz.pinned (OpenSpec.ofChange diskBeginsSpec)

/-- ITS FALSE NEIGHBOUR: 'it returns false'. Refute it at one input. -/
def diskBeginsWrong : ChangeSpec := { name := "diskBegins", fn := fun _ => fun
  | [d1, d2, d3, d4] => { results := [.lit (.bool false)], args := [d1, d2, d3, d4] }
  | _ => none }
def DiskBeginsWrongFalsely : Prop := diskBeginsRow.holds Tryz.pinned (OpenSpec.ofChange diskBeginsWrong)

/-- 'sedimentlaw12.MergeMakes': WHATEVER THE INPUT: true; the input reads as it did. -/
def mergeMakesSpec : ChangeSpec := { name := "mergeMakes", fn := fun _ => fun
  | [d] => { results := [.lit (.bool true)], args := [d] }
  | _ => none }
def mergeMakesRow : OpenClaim := { program := "ytcakbfbidacnlaagreatdoor", sum := "29ac1a8c6d1aa2a1e9d2043c1172019ee29997ea36f687f3cb98ec3e41fae640", func := "sediment/sedimentlaw12.MergeMakes", spec := "mergeMakes", inPlace := ["internal/bytealg.Compare", "internal/abi.NoEscape"], unfollowed := true, recurses := true, named := ["sediment/crc.halves"], plainKeys := false, apart := false, laid := [("sediment/crc.halves", laid_sediment_crc_halves)] }
def MergeMakesSaid : Prop := mergeMakesRow.holds Tryz.pinned (OpenSpec.ofChange mergeMakesSpec)

/-- ITS FALSE NEIGHBOUR: 'it returns false'. Refute it at one input. -/
def mergeMakesWrong : ChangeSpec := { name := "mergeMakes", fn := fun _ => fun
  | [d] => { results := [.lit (.bool false)], args := [d] }
  | _ => none }
def MergeMakesWrongFalsely : Prop := mergeMakesRow.holds Tryz.pinned (OpenSpec.ofChange mergeMakesWrong)

/-- 'sedimentlaw12.MergeOpens': WHATEVER THE INPUT: true; the input reads as it did. -/
def mergeOpensSpec : ChangeSpec := { name := "mergeOpens", fn := fun _ => fun
  | [d1, d2] => { results := [.lit (.bool true)], args := [d1, d2] }
  | _ => none }
def mergeOpensRow : OpenClaim := { program := "ytcakbfbidacnlaagreatdoor", sum := "29ac1a8c6d1aa2a1e9d2043c1172019ee29997ea36f687f3cb98ec3e41fae640", func := "sediment/sedimentlaw12.MergeOpens", spec := "mergeOpens", inPlace := ["internal/bytealg.Compare", "internal/abi.NoEscape"], unfollowed := true, recurses := true, named := ["sediment/crc.halves"], plainKeys := false, apart := false, laid := [("sediment/crc.halves", laid_sediment_crc_halves)] }
def MergeOpensSaid : Prop := mergeOpensRow.holds Tryz.pinned (OpenSpec.ofChange mergeOpensSpec)

/-- ITS FALSE NEIGHBOUR: 'it returns false'. Refute it at one input. -/
def mergeOpensWrong : ChangeSpec := { name := "mergeOpens", fn := fun _ => fun
  | [d1, d2] => { results := [.lit (.bool false)], args := [d1, d2] }
  | _ => none }
def MergeOpensWrongFalsely : Prop := mergeOpensRow.holds Tryz.pinned (OpenSpec.ofChange mergeOpensWrong)

/- THE SECOND FORM. 'bulk': how many values and letters a reading holds, each counted each time it is reached (what is shared counts as often as it is met; a slice's spare places count too). A statement '..UptoSaid' is the law's where the arguments, and the package variables that the reading takes, are together of bulk at most 1048576: NARROWER than '..Said'. Prove '..Said' where nothing that the law and all that it calls make is longer than what came in: it says more and counts as full. Else prove '..UptoSaid'. A law counts once. -/
mutual
def uptoBulk {H : Type} : DataW H → Nat
  | .lit (.string bytes) => bytes.length + 1
  | .lit _ => 1
  | .nil => 1
  | .ptr d => uptoBulk d + 1
  | .slice elems spare => uptoBulkAll elems + uptoBulkAll spare + 1
  | .agg parts => uptoBulkAll parts + 1
  | .iface _ d => uptoBulk d + 1
  | .map entries => uptoBulkEntries entries + 1
  | .held _ => 1
def uptoBulkAll {H : Type} : List (DataW H) → Nat
  | [] => 0
  | d :: r => uptoBulk d + uptoBulkAll r
def uptoBulkEntries {H : Type} : List (Lit × DataW H) → Nat
  | [] => 0
  | x :: r => uptoBulkEntry x + uptoBulkEntries r
def uptoBulkEntry {H : Type} : Lit × DataW H → Nat
  | (.string bytes, d) => bytes.length + uptoBulk d + 1
  | (_, d) => uptoBulk d + 1
 end
def uptoSmall : (H : Type) → List (DataW H) → Bool := fun _ ds => decide (uptoBulkAll ds ≤ 1048576)
def OpenSpec.upto (s : _root_.Go.ChangeSpec) : _root_.Go.OpenSpec := { _root_.Go.OpenSpec.ofChange s with cond := some uptoSmall }

/-- 'sedimentlaw13.DiskSettles', WHERE WHAT IT READS IS OF BULK AT MOST 1048576: true; the input reads as it did. -/
def diskSettlesUptoRow : OpenClaim := { program := "ytcakbfbidacnlaagreatdoor", sum := "29ac1a8c6d1aa2a1e9d2043c1172019ee29997ea36f687f3cb98ec3e41fae640", func := "sediment/sedimentlaw13.DiskSettles", spec := "diskSettles", inPlace := ["maps.clone"], unfollowed := true, recurses := true, named := ["sediment/disk.order"], plainKeys := false, apart := false, laid := [("sediment/disk.order", laid_sediment_disk_order)], narrowed := true }
def DiskSettlesUptoSaid : Prop := diskSettlesUptoRow.holds Tryz.pinned (OpenSpec.upto diskSettlesSpec)

/-- 'sedimentlaw13.DiskRefuses', WHERE WHAT IT READS IS OF BULK AT MOST 1048576: true; the input reads as it did. -/
def diskRefusesUptoRow : OpenClaim := { program := "ytcakbfbidacnlaagreatdoor", sum := "29ac1a8c6d1aa2a1e9d2043c1172019ee29997ea36f687f3cb98ec3e41fae640", func := "sediment/sedimentlaw13.DiskRefuses", spec := "diskRefuses", inPlace := ["maps.clone"], unfollowed := true, recurses := true, named := ["sediment/disk.order"], plainKeys := false, apart := false, laid := [("sediment/disk.order", laid_sediment_disk_order)], narrowed := true }
def DiskRefusesUptoSaid : Prop := diskRefusesUptoRow.holds Tryz.pinned (OpenSpec.upto diskRefusesSpec)

/-- 'sedimentlaw13.DiskPlays', WHERE WHAT IT READS IS OF BULK AT MOST 1048576: true; the input reads as it did. -/
def diskPlaysUptoRow : OpenClaim := { program := "ytcakbfbidacnlaagreatdoor", sum := "29ac1a8c6d1aa2a1e9d2043c1172019ee29997ea36f687f3cb98ec3e41fae640", func := "sediment/sedimentlaw13.DiskPlays", spec := "diskPlays", inPlace := ["maps.clone"], unfollowed := true, recurses := true, named := ["sediment/disk.order"], plainKeys := false, apart := false, laid := [("sediment/disk.order", laid_sediment_disk_order)], narrowed := true }
def DiskPlaysUptoSaid : Prop := diskPlaysUptoRow.holds Tryz.pinned (OpenSpec.upto diskPlaysSpec)

/-- 'sedimentlaw13.DiskBegins', WHERE WHAT IT READS IS OF BULK AT MOST 1048576: true; the input reads as it did. -/
def diskBeginsUptoRow : OpenClaim := { program := "ytcakbfbidacnlaagreatdoor", sum := "29ac1a8c6d1aa2a1e9d2043c1172019ee29997ea36f687f3cb98ec3e41fae640", func := "sediment/sedimentlaw13.DiskBegins", spec := "diskBegins", inPlace := ["maps.clone"], unfollowed := true, recurses := true, named := ["sediment/disk.order"], plainKeys := false, apart := false, laid := [("sediment/disk.order", laid_sediment_disk_order)], narrowed := true }
def DiskBeginsUptoSaid : Prop := diskBeginsUptoRow.holds Tryz.pinned (OpenSpec.upto diskBeginsSpec)

/-- 'sedimentlaw12.MergeMakes', WHERE WHAT IT READS IS OF BULK AT MOST 1048576: true; the input reads as it did. -/
def mergeMakesUptoRow : OpenClaim := { program := "ytcakbfbidacnlaagreatdoor", sum := "29ac1a8c6d1aa2a1e9d2043c1172019ee29997ea36f687f3cb98ec3e41fae640", func := "sediment/sedimentlaw12.MergeMakes", spec := "mergeMakes", inPlace := ["internal/bytealg.Compare", "internal/abi.NoEscape"], unfollowed := true, recurses := true, named := ["sediment/crc.halves"], plainKeys := false, apart := false, laid := [("sediment/crc.halves", laid_sediment_crc_halves)], narrowed := true }
def MergeMakesUptoSaid : Prop := mergeMakesUptoRow.holds Tryz.pinned (OpenSpec.upto mergeMakesSpec)

/-- 'sedimentlaw12.MergeOpens', WHERE WHAT IT READS IS OF BULK AT MOST 1048576: true; the input reads as it did. -/
def mergeOpensUptoRow : OpenClaim := { program := "ytcakbfbidacnlaagreatdoor", sum := "29ac1a8c6d1aa2a1e9d2043c1172019ee29997ea36f687f3cb98ec3e41fae640", func := "sediment/sedimentlaw12.MergeOpens", spec := "mergeOpens", inPlace := ["internal/bytealg.Compare", "internal/abi.NoEscape"], unfollowed := true, recurses := true, named := ["sediment/crc.halves"], plainKeys := false, apart := false, laid := [("sediment/crc.halves", laid_sediment_crc_halves)], narrowed := true }
def MergeOpensUptoSaid : Prop := mergeOpensUptoRow.holds Tryz.pinned (OpenSpec.upto mergeOpensSpec)

end Rows
end Go.Proofs.YtcakbfbidacnlaaGreatDoor
