/-
  No cell of these rows narrows 'for every input' (looked for: loops, veiled, ifaces, maps, wideKeys, modest, calm, conditions, laid).
  DERIVED. THE GIVEN ROWS OF THIS SEAT. 5 by the template 'for every input the law returns true; each argument reads behind the call as it read before'; 0 by the template 'total and deterministic' (their statements: YteppologbikipaaTotals.lean).
  GIVEN WITH THE SEED: the statements are not yours to turn. If you find one false, say at which input.
  Laid BY PROGRAM, IN A SANDBOX (cutbox-rows.mjs): the forced cells as the released guide's own fill.sh prints them over the translation 85cfe97ea8dbaec7… (all of the seat's roots in one cut). By AI agents, Wed Nov 11 2026. No macro, syntax, notation, axiom, sorry.
-/
import Derived.Test.YteppologbikipaaChecked
import GoSem.Claim
import GoSem.ClaimJoined
import GoSem.ClaimMapViews
import Derived.JoinedTies
import Derived.KernelRfl
namespace Go.Proofs.Yteppologbikipaa
/- THE CELL 'sum', in the pinned program and in every row, IS THE sha256 OF THE DUMP (.gsa) THAT YteppologbikipaaProg.lean LOADS. Nothing in Lean hashes anything: it is a label: what it is worth is what the hold of that sum in a sandbox is worth. -/
noncomputable def Try.pinned : Pinned := { name := "yteppologbikipaa", sum := "85cfe97ea8dbaec76b9d3d1e4a151b2147bb2f1e0125a2139e75412386929e61", checked := Try.checked }
namespace Rows
def none {H : Type} : Left H := { results := [], args := [] }

/-- 'sedimentlaw06.ObjectMakes': WHATEVER THE INPUT: true; the input reads as it did. -/
def objectMakesSpec : ChangeSpec := { name := "objectMakes", fn := fun _ => fun
  | [d1, d2, d3] => { results := [.lit (.bool true)], args := [d1, d2, d3] }
  | _ => none }
def objectMakesRow : OpenClaim := { program := "yteppologbikipaa", sum := "85cfe97ea8dbaec76b9d3d1e4a151b2147bb2f1e0125a2139e75412386929e61", func := "sediment/sedimentlaw06.ObjectMakes", spec := "objectMakes", inPlace := ["internal/abi.NoEscape"], unfollowed := true, recurses := true, apart := false }
def ObjectMakesSaid : Prop := objectMakesRow.holds Try.pinned (OpenSpec.ofChange objectMakesSpec)

/-- ITS FALSE NEIGHBOUR: 'it returns false'. Refute it at one input. -/
def objectMakesWrong : ChangeSpec := { name := "objectMakes", fn := fun _ => fun
  | [d1, d2, d3] => { results := [.lit (.bool false)], args := [d1, d2, d3] }
  | _ => none }
def ObjectMakesWrongFalsely : Prop := objectMakesRow.holds Try.pinned (OpenSpec.ofChange objectMakesWrong)

/-- 'sedimentlaw06.ObjectKeeps': WHATEVER THE INPUT: true; the input reads as it did. -/
def objectKeepsSpec : ChangeSpec := { name := "objectKeeps", fn := fun _ => fun
  | [d1, d2] => { results := [.lit (.bool true)], args := [d1, d2] }
  | _ => none }
def objectKeepsRow : OpenClaim := { program := "yteppologbikipaa", sum := "85cfe97ea8dbaec76b9d3d1e4a151b2147bb2f1e0125a2139e75412386929e61", func := "sediment/sedimentlaw06.ObjectKeeps", spec := "objectKeeps", inPlace := ["internal/abi.NoEscape"], unfollowed := true, recurses := true, apart := false }
def ObjectKeepsSaid : Prop := objectKeepsRow.holds Try.pinned (OpenSpec.ofChange objectKeepsSpec)

/-- ITS FALSE NEIGHBOUR: 'it returns false'. Refute it at one input. -/
def objectKeepsWrong : ChangeSpec := { name := "objectKeeps", fn := fun _ => fun
  | [d1, d2] => { results := [.lit (.bool false)], args := [d1, d2] }
  | _ => none }
def ObjectKeepsWrongFalsely : Prop := objectKeepsRow.holds Try.pinned (OpenSpec.ofChange objectKeepsWrong)

/-- 'sedimentlaw06.ObjectTells': WHATEVER THE INPUT: true; the input reads as it did. -/
def objectTellsSpec : ChangeSpec := { name := "objectTells", fn := fun _ => fun
  | [d1, d2] => { results := [.lit (.bool true)], args := [d1, d2] }
  | _ => none }
def objectTellsRow : OpenClaim := { program := "yteppologbikipaa", sum := "85cfe97ea8dbaec76b9d3d1e4a151b2147bb2f1e0125a2139e75412386929e61", func := "sediment/sedimentlaw06.ObjectTells", spec := "objectTells", inPlace := ["internal/abi.NoEscape"], unfollowed := true, recurses := true, apart := false }
def ObjectTellsSaid : Prop := objectTellsRow.holds Try.pinned (OpenSpec.ofChange objectTellsSpec)

/-- ITS FALSE NEIGHBOUR: 'it returns false'. Refute it at one input. -/
def objectTellsWrong : ChangeSpec := { name := "objectTells", fn := fun _ => fun
  | [d1, d2] => { results := [.lit (.bool false)], args := [d1, d2] }
  | _ => none }
def ObjectTellsWrongFalsely : Prop := objectTellsRow.holds Try.pinned (OpenSpec.ofChange objectTellsWrong)

/-- 'sedimentlaw06.ObjectReads': WHATEVER THE INPUT: true; the input reads as it did. -/
def objectReadsSpec : ChangeSpec := { name := "objectReads", fn := fun _ => fun
  | [d] => { results := [.lit (.bool true)], args := [d] }
  | _ => none }
def objectReadsRow : OpenClaim := { program := "yteppologbikipaa", sum := "85cfe97ea8dbaec76b9d3d1e4a151b2147bb2f1e0125a2139e75412386929e61", func := "sediment/sedimentlaw06.ObjectReads", spec := "objectReads", inPlace := ["internal/abi.NoEscape", "internal/bytealg.IndexByteString", "internal/bytealg.IndexString"], unfollowed := true, recurses := true, named := ["internal/bytealg.MaxLen"], apart := false }
def ObjectReadsSaid : Prop := objectReadsRow.holds Try.pinned (OpenSpec.ofChange objectReadsSpec)

/-- ITS FALSE NEIGHBOUR: 'it returns false'. Refute it at one input. -/
def objectReadsWrong : ChangeSpec := { name := "objectReads", fn := fun _ => fun
  | [d] => { results := [.lit (.bool false)], args := [d] }
  | _ => none }
def ObjectReadsWrongFalsely : Prop := objectReadsRow.holds Try.pinned (OpenSpec.ofChange objectReadsWrong)

/-- 'sedimentlaw06.ObjectBack': WHATEVER THE INPUT: true; the input reads as it did. -/
def objectBackSpec : ChangeSpec := { name := "objectBack", fn := fun _ => fun
  | [d1, d2] => { results := [.lit (.bool true)], args := [d1, d2] }
  | _ => none }
def objectBackRow : OpenClaim := { program := "yteppologbikipaa", sum := "85cfe97ea8dbaec76b9d3d1e4a151b2147bb2f1e0125a2139e75412386929e61", func := "sediment/sedimentlaw06.ObjectBack", spec := "objectBack", inPlace := ["internal/abi.NoEscape", "internal/bytealg.IndexByteString", "internal/bytealg.IndexString"], unfollowed := true, recurses := true, named := ["internal/bytealg.MaxLen"], apart := false }
def ObjectBackSaid : Prop := objectBackRow.holds Try.pinned (OpenSpec.ofChange objectBackSpec)

/-- ITS FALSE NEIGHBOUR: 'it returns false'. Refute it at one input. -/
def objectBackWrong : ChangeSpec := { name := "objectBack", fn := fun _ => fun
  | [d1, d2] => { results := [.lit (.bool false)], args := [d1, d2] }
  | _ => none }
def ObjectBackWrongFalsely : Prop := objectBackRow.holds Try.pinned (OpenSpec.ofChange objectBackWrong)

/- THE SECOND FORM. 'bulk': how many values and letters a reading holds, each counted each time it is reached (what is shared counts as often as it is met; a slice's spare places count too). A statement '..UptoSaid' is the law's where the arguments, and the package variables that the reading takes, are together of bulk at most 1048576: NARROWER than '..Said'. Prove '..Said' where nothing that the law and all that it calls make is longer than what came in: it says more and counts as full. Else prove '..UptoSaid'. A law counts once. -/
mutual
def uptoBulk {H : Type} : DataW H → Nat
  | .lit (.string bytes) => bytes.length + 1
  | .lit _ => 1
  | .nil => 1
  | .ptr d => uptoBulk d + 1
  | .slice elems spare => uptoBulkAll elems + uptoBulkAll spare + 1
  | .agg parts => uptoBulkAll parts + 1
  | .iface _ d => uptoBulk d + 1
  | .map entries => uptoBulkEntries entries + 1
  | .held _ => 1
def uptoBulkAll {H : Type} : List (DataW H) → Nat
  | [] => 0
  | d :: r => uptoBulk d + uptoBulkAll r
def uptoBulkEntries {H : Type} : List (Lit × DataW H) → Nat
  | [] => 0
  | x :: r => uptoBulkEntry x + uptoBulkEntries r
def uptoBulkEntry {H : Type} : Lit × DataW H → Nat
  | (.string bytes, d) => bytes.length + uptoBulk d + 1
  | (_, d) => uptoBulk d + 1
 end
def uptoSmall : (H : Type) → List (DataW H) → Bool := fun _ ds => decide (uptoBulkAll ds ≤ 1048576)
def OpenSpec.upto (s : _root_.Go.ChangeSpec) : _root_.Go.OpenSpec := { _root_.Go.OpenSpec.ofChange s with cond := some uptoSmall }

/-- 'sedimentlaw06.ObjectMakes', WHERE WHAT IT READS IS OF BULK AT MOST 1048576: true; the input reads as it did. -/
def objectMakesUptoRow : OpenClaim := { program := "yteppologbikipaa", sum := "85cfe97ea8dbaec76b9d3d1e4a151b2147bb2f1e0125a2139e75412386929e61", func := "sediment/sedimentlaw06.ObjectMakes", spec := "objectMakes", inPlace := ["internal/abi.NoEscape"], unfollowed := true, recurses := true, apart := false, narrowed := true }
def ObjectMakesUptoSaid : Prop := objectMakesUptoRow.holds Try.pinned (OpenSpec.upto objectMakesSpec)

/-- 'sedimentlaw06.ObjectKeeps', WHERE WHAT IT READS IS OF BULK AT MOST 1048576: true; the input reads as it did. -/
def objectKeepsUptoRow : OpenClaim := { program := "yteppologbikipaa", sum := "85cfe97ea8dbaec76b9d3d1e4a151b2147bb2f1e0125a2139e75412386929e61", func := "sediment/sedimentlaw06.ObjectKeeps", spec := "objectKeeps", inPlace := ["internal/abi.NoEscape"], unfollowed := true, recurses := true, apart := false, narrowed := true }
def ObjectKeepsUptoSaid : Prop := objectKeepsUptoRow.holds Try.pinned (OpenSpec.upto objectKeepsSpec)

/-- 'sedimentlaw06.ObjectTells', WHERE WHAT IT READS IS OF BULK AT MOST 1048576: true; the input reads as it did. -/
def objectTellsUptoRow : OpenClaim := { program := "yteppologbikipaa", sum := "85cfe97ea8dbaec76b9d3d1e4a151b2147bb2f1e0125a2139e75412386929e61", func := "sediment/sedimentlaw06.ObjectTells", spec := "objectTells", inPlace := ["internal/abi.NoEscape"], unfollowed := true, recurses := true, apart := false, narrowed := true }
def ObjectTellsUptoSaid : Prop := objectTellsUptoRow.holds Try.pinned (OpenSpec.upto objectTellsSpec)

/-- 'sedimentlaw06.ObjectReads', WHERE WHAT IT READS IS OF BULK AT MOST 1048576: true; the input reads as it did. -/
def objectReadsUptoRow : OpenClaim := { program := "yteppologbikipaa", sum := "85cfe97ea8dbaec76b9d3d1e4a151b2147bb2f1e0125a2139e75412386929e61", func := "sediment/sedimentlaw06.ObjectReads", spec := "objectReads", inPlace := ["internal/abi.NoEscape", "internal/bytealg.IndexByteString", "internal/bytealg.IndexString"], unfollowed := true, recurses := true, named := ["internal/bytealg.MaxLen"], apart := false, narrowed := true }
def ObjectReadsUptoSaid : Prop := objectReadsUptoRow.holds Try.pinned (OpenSpec.upto objectReadsSpec)

/-- 'sedimentlaw06.ObjectBack', WHERE WHAT IT READS IS OF BULK AT MOST 1048576: true; the input reads as it did. -/
def objectBackUptoRow : OpenClaim := { program := "yteppologbikipaa", sum := "85cfe97ea8dbaec76b9d3d1e4a151b2147bb2f1e0125a2139e75412386929e61", func := "sediment/sedimentlaw06.ObjectBack", spec := "objectBack", inPlace := ["internal/abi.NoEscape", "internal/bytealg.IndexByteString", "internal/bytealg.IndexString"], unfollowed := true, recurses := true, named := ["internal/bytealg.MaxLen"], apart := false, narrowed := true }
def ObjectBackUptoSaid : Prop := objectBackUptoRow.holds Try.pinned (OpenSpec.upto objectBackSpec)

end Rows
end Go.Proofs.Yteppologbikipaa
