/-
  The law answers true for every input, and its arguments read as they did.
  No conditions.
-/
import Derived.Test.YtldgnkgllhmnbaaGreatDoorEUB
import Derived.Test.YtldgnkgllhmnbaaGreatDoorRows
import Derived.Test.YtldgnkgllhmnbaaGreatDoorCards
import Derived.Test.YtldgnkgllhmnbaaGreatDoorTie
import Derived.Deep.DeepHandedRow
set_option linter.unusedVariables false
set_option linter.defProp false
set_option maxRecDepth 100000
set_option maxHeartbeats 40000000
open Go.Proofs.Tryz
namespace Go.Proofs.YtldgnkgllhmnbaaGreatDoor.bookPlays
open Go Go.Proofs Go.Sx
open Go.ChangeShapes Go.WideShapes Go.ChangeAt Go.RowKit Go.ChangeMaps
def plain(f:FuncId)(b:Func)(c:Tryz.pinned.checked.prog.funcNamed "sediment/sedimentlaw17.BookPlays" =some f)(d:Tryz.pinned.checked.prog.funcs[f]? =some b):
  true=Tryz.pinned.checked.prog.looks []/\ ∀ (j:Nat) t,b.params[j]? =some t->Tryz.pinned.checked.prog.wantsStandIn t=false:=by
 obtain rfl:f=3:=XD ((show Tryz.prog.funcNamed "sediment/sedimentlaw17.BookPlays" =some 3 by kernel_rfl).symm.trans c) |>.symm;obtain rfl:b=Tryz.f3:=(XD (Tryz.func3.symm.trans d)).symm;refine⟨by kernel_rfl,fun j t a=>?_⟩;rw[params3] at a;have e:t=3\/t=22\/t=23:=by
  have a:=Array.mem_of_getElem? a
  first|simpa using a| (simp at a;rcases a with h|h|h<;>simp[h])
 rcases e with rfl|rfl|rfl
 .exact(show Tryz.prog.wantsStandIn 3=false by kernel_rfl)
 .exact(show Tryz.prog.wantsStandIn 22=false by kernel_rfl)
 exact(show Tryz.prog.wantsStandIn 23=false by kernel_rfl)
theorem card:Rows.BookPlaysUptoCardSaid:=
 Claim7.holds_tied_plain_at .later [] _ _ _ _ said (fun _ h=>by cases h) kR (fun _ h=>by cases h) bookPlaysUpto_row_tie rfl ⟨rfl,rfl⟩ kR rfl plain kR
end Go.Proofs.YtldgnkgllhmnbaaGreatDoor.bookPlays
