/-
  The law answers true for every input, and its arguments read as they did.
  No conditions.
-/
import Derived.Test.YtldgnkgllhmnbaaGreatDoorEUA
import Derived.Test.YtldgnkgllhmnbaaGreatDoorRows
import Derived.Test.YtldgnkgllhmnbaaGreatDoorCards
import Derived.Test.YtldgnkgllhmnbaaGreatDoorTie
import Derived.Deep.DeepHandedRow
set_option linter.unusedVariables false
set_option linter.defProp false
set_option maxRecDepth 100000
set_option maxHeartbeats 40000000
open Go.Proofs.Tryz
namespace Go.Proofs.YtldgnkgllhmnbaaGreatDoor.bookPlays
open Go Go.Proofs Go.Sx
open Go.ChangeShapes Go.WideShapes Go.ChangeAt Go.RowKit Go.ChangeMaps
def RW:joinedFacts Tryz.pinned.checked.prog 3 Tryz.f3 (Rows.OpenSpec.upto Rows.bookPlaysSpec).bare Rows.bookPlaysUptoRow=true:=by apply Mv<;>as_aux_lemma=>kernel_rfl
def said:Rows.BookPlaysUptoSaid:=
 OpenClaim.holds_of_cond 3 Tryz.f3 rfl rfl rfl rfl rfl rfl rfl ⟨rfl,rfl,rfl,rfl,rfl⟩ rfl rfl rfl rfl rfl kR func3 RW
  (Zu kR) (by unfold Func.isWrapper;first| (rw[Vb (by decide+kernel)];kernel_rfl) | (rw[tr (by decide+kernel)];exact⟨rfl,rfl⟩))
  (fun os a H enc _ F=>by rw[OpenClaim.pre_eq_preRow];exact lifted os a H enc F)
end Go.Proofs.YtldgnkgllhmnbaaGreatDoor.bookPlays
