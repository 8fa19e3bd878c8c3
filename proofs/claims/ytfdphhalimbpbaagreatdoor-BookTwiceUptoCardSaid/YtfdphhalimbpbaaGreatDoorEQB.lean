/-
  The law answers true for every input, and its arguments read as they did.
  No conditions.
-/
import Derived.Test.YtfdphhalimbpbaaGreatDoorEQA
import Derived.Test.YtfdphhalimbpbaaGreatDoorRows
import Derived.Test.YtfdphhalimbpbaaGreatDoorCards
import Derived.Test.YtfdphhalimbpbaaGreatDoorTie
import Derived.Deep.DeepHandedRow
set_option linter.defProp false
set_option maxRecDepth 100000
set_option maxHeartbeats 40000000
open Go.Proofs.Tryz
namespace Go.Proofs.YtfdphhalimbpbaaGreatDoor.bookTwice
open Go Go.Proofs Go.Sx
open Go.ChangeShapes Go.WideShapes Go.ChangeAt Go.RowKit Go.ChangeMaps
def ZV:joinedFacts Tryz.pinned.checked.prog 12 f12 (Rows.OpenSpec.upto Rows.bookTwiceSpec).bare Rows.bookTwiceUptoRow=true:=by
 apply UQ<;>as_aux_lemma=>kernel_rfl
def said:Rows.BookTwiceUptoSaid:=
 OpenClaim.holds_of_cond 12 f12 rfl rfl rfl rfl rfl rfl rfl ⟨rfl,rfl,rfl,rfl,rfl⟩ rfl rfl rfl rfl rfl kR func12 ZV
  (of_decide_eq_true kR) (by unfold Func.isWrapper;first| (rw[if_pos (by decide+kernel)];kernel_rfl) | (rw[if_neg (by decide+kernel)];exact⟨rfl,rfl⟩))
  (fun os started H enc _ F=>by rw[OpenClaim.pre_eq_preRow];exact lifted os started H enc F)
end Go.Proofs.YtfdphhalimbpbaaGreatDoor.bookTwice
