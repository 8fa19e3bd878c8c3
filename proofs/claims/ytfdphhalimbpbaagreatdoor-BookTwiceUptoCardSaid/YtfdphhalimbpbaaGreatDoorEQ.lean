/-
  The law answers true for every input, and its arguments read as they did.
  No conditions.
-/
import Derived.Test.YtfdphhalimbpbaaGreatDoorEQB
import Derived.Test.YtfdphhalimbpbaaGreatDoorRows
import Derived.Test.YtfdphhalimbpbaaGreatDoorCards
import Derived.Test.YtfdphhalimbpbaaGreatDoorTie
import Derived.Deep.DeepHandedRow
set_option linter.defProp false
set_option maxRecDepth 100000
set_option maxHeartbeats 40000000
open Go.Proofs.Tryz
namespace Go.Proofs.YtfdphhalimbpbaaGreatDoor.bookTwice
open Go Go.Proofs Go.Sx
open Go.ChangeShapes Go.WideShapes Go.ChangeAt Go.RowKit Go.ChangeMaps
def plain (f:FuncId) (fn:Func) (hf:Tryz.pinned.checked.prog.funcNamed "sediment/sedimentlaw17.BookTwice" =some f) (dh:Tryz.pinned.checked.prog.funcs[f]? =some fn):
  true=Tryz.pinned.checked.prog.looks []∧ ∀ (j:Nat) t,fn.params[j]? =some t→Tryz.pinned.checked.prog.wantsStandIn t=false:=by
 obtain rfl:f=12:=Option.some.inj ((show Tryz.prog.funcNamed "sediment/sedimentlaw17.BookTwice" =some 12 by kernel_rfl).symm.trans hf) |>.symm
 obtain rfl:fn=f12:=(Option.some.inj (Tryz.func12.symm.trans dh)).symm
 refine⟨by kernel_rfl,fun j t ht=> ?_⟩
 rw[params12] at ht
 have hm:t=81∨t=94∨t=5∨t=65:=by
  have ht:=Array.mem_of_getElem? ht
  first|simpa using ht| (simp at ht;rcases ht with h|h|h|h<;>simp[h])
 rcases hm with rfl|rfl|rfl|rfl
 ·exact(show Tryz.prog.wantsStandIn 81=false by kernel_rfl)
 ·exact(show Tryz.prog.wantsStandIn 94=false by kernel_rfl)
 ·exact(show Tryz.prog.wantsStandIn 5=false by kernel_rfl)
 exact(show Tryz.prog.wantsStandIn 65=false by kernel_rfl)
theorem card:Rows.BookTwiceUptoCardSaid:=
 Claim7.holds_tied_plain_at .later [] _ _ _ _ said (fun _ h=>by cases h) kR (fun _ h=>by cases h) bookTwiceUpto_row_tie rfl ⟨rfl,rfl⟩ kR rfl plain kR
end Go.Proofs.YtfdphhalimbpbaaGreatDoor.bookTwice
