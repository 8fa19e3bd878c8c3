/-
  The law answers true for every input, and its arguments read as they did.
  No conditions.
-/
import Derived.Test.YtoecppmpegmfmaaDoorK2
import Derived.Test.YtoecppmpegmfmaaDoorRows
import Derived.Test.YtoecppmpegmfmaaDoorCards
import Derived.Test.YtoecppmpegmfmaaDoorTie
import Derived.Deep.DeepHandedRow
namespace Go.Proofs.YtoecppmpegmfmaaDoor.diskNone
open Go Go.Proofs Go.Sx
open Go.ChangeShapes Go.WideShapes Go.ChangeAt Go.RowKit Go.ChangeMaps
set_option maxRecDepth 100000
set_option maxHeartbeats 40000000
theorem aa6_ {H:Type} {d:DataW H}: ∀ {l:List (DataW H)},d∈l→Rows.uptoBulk d≤Rows.uptoBulkAll l
 |e::r,h=>by
  rw[Rows.uptoBulkAll]
  rcases List.mem_cons.1 h with rfl|h
  ·omega
  ·have:=aa6_ h
   omega
theorem abn_ {H:Type} (d:DataW H):1≤Rows.uptoBulk d:=by
 cases d with
 |lit l=>cases l<;>simp[Rows.uptoBulk]
 |_=>simp[Rows.uptoBulk]
theorem aaD_ {H:Type}: ∀ (l:List (DataW H)),l.length≤Rows.uptoBulkAll l
 | []=>Nat.zero_le _
 |e::r=>by
  rw[Rows.uptoBulkAll,List.length_cons]
  have:=abn_ e
  have:=aaD_ r
  omega
theorem own:ownKnob Tryd.prog.godebug=none:=by kernel_rfl
theorem adb_:laidOutB Tryd.prog=true:=by kernel_rfl
theorem acR_ {H:Type}: (Rows.laid_sediment_disk_order:DataW H)= .agg [.lit (.string zt_), .lit (.string jP_), .lit (.string JD_)]:=by rfl
theorem glob {W:World} (h:laidMet Tryd.prog [("sediment/disk.order",Rows.laid_sediment_disk_order)] W):vU_ W:=by
 obtain⟨ps,hv,-⟩:=h
 exact xq_ hv (by rw[acR_];exact .head _)
def ad2_ (a:Array Value):Obj→Obj
 | .cells _ t frozen=> .cells a t frozen
 |o=>o
noncomputable def kt_ (os:Os):World:=
 {World.holding Tryd.prog os ⟨#[], #[],[]⟩ with heap:=((World.holding Tryd.prog os ⟨#[], #[],[]⟩).heap.modify 0 (ad2_ #[vs zt_,vs jP_,vs JD_]))}
theorem abf_: ∀t∈Tryd.f3.params.toList,Tryd.prog.readableRec t=true∧t<Tryd.prog.types.size:=by
 intro t ht
 have hm:t=22:=by
  rw[Tryd.params3] at ht
  first|simpa using ht| (simp at ht;rcases ht with h<;>simp[h])
 subst hm
 exact⟨by kernel_rfl,of_decide_eq_true (by kernel_rfl)⟩
theorem resultTypes:Tryd.f3.resultTypes= #[4]:=by kernel_rfl
theorem abo_ (H:Type) (enc:TypeId×Value→H) (W:World) (base:Nat) (args:Array Value) (ds gs:List (DataW H)) (before:List MemPlace)
  (hval: ∀ (j:Nat) t v,Tryd.f3.params[j]? =some t→args[j]? =some v→Value.okWide Tryd.prog W .any base t v)
  (hW:DataW.Whole enc Tryd.prog Tryd.f3.params.toList Rows.diskNoneSpec.vars false W args.toList ds gs before) (hL:laidMetH Tryd.prog Rows.diskNoneRow.laid W):
  Calls Tryd.prog 3 args W fun e W'=> ∃v,e= .returned v∧Rows.diskNoneSpec.post enc Tryd.prog Tryd.f3 false true false false W args v W':=by
 have hW':=hW
 obtain⟨p,q,hA0,hV,rfl,hfz,hnd⟩:=hW
 have hA:DataW.TrodAll enc Tryd.prog W 0 (fun _=>true) true Tryd.f3.params.toList args.toList ds p:=hA0
 rw[Tryd.params3] at hA hval
 obtain⟨v0,vs0,d0,ds0,p0,q0,hargs,rfl,rfl,h0,r0⟩:=trodAll_cons hA
 obtain⟨rfl,rfl,rfl⟩:=trodAll_nil r0
 obtain rfl:args= #[v0]:=by cases args;simp_all
 obtain⟨l0,hl0,hx0⟩:=Wq_ (hval 0 22 v0 rfl rfl) h0
 have hG:=glob hL
 refine Calls.mono (wK_ v0 l0 W hG hl0) ?_
 rintro e W' ⟨v,D,rfl,hp,rfl,rfl⟩
 exact⟨_,rfl,Ww_ adb_ hW' rfl abf_ resultTypes Tryd.underlying4 rfl hp⟩
def wit:Array Value:= #[.slice none 0 0]
theorem abB_ (os:Os):laidMet Tryd.prog Rows.diskNoneRow.laid ((kt_ os).forCall (fun _ _=>0) ⟨#[],wit,[]⟩).memory:=
 laidMet_of_run' 8 (by kernel_rfl) (by kernel_rfl)
theorem aeU_ (os:Os) {H:Type} (enc:TypeId×Value→H): ∃places,DataW.whole enc Tryd.prog ((kt_ os).forCall (fun _ _=>0) ⟨#[],wit,[]⟩).memory Tryd.f3.params.toList Rows.diskNoneSpec.vars false wit.toList 8=some ([.nil],[],places):=
 ⟨[],by kernel_rfl⟩
theorem lifted (os:Os) (started:os.Started) (H:Type) (enc:TypeId×Value→H) (F:Stop.Interp):
  ReturnsInHanded {} Tryd.checked os 3 .any ((OpenSpec.ofChange Rows.diskNoneSpec).preRow enc Tryd.prog Tryd.f3 Rows.diskNoneRow.domain false Rows.diskNoneRow.laid) (((OpenSpec.ofChange Rows.diskNoneSpec).at F).post enc Tryd.prog Tryd.f3 false true false false):=by
 obtain⟨places,hx⟩:=aeU_ os enc
 refine returnsInHanded_of_row (C:=Tryd.checked) (s:=OpenSpec.ofChange Rows.diskNoneSpec) own started (by kernel_rfl) Tryd.func3
  (witness_row_at (enc:=enc) (C:=Tryd.checked) false (kt_ os) wit rfl (by kernel_rfl) (by kernel_rfl) (by kernel_rfl)
   (OpenSpec.preRow_of_cond 8 hx (by kernel_rfl) (fun k hk=>by cases hk) (by kernel_rfl) (abB_ os))) ?_
 intro W base args ds gs before hval hW _ _ _ hL _ _
 exact abo_ H enc W base args ds gs before hval hW hL
theorem adI_:joinedFacts Tryd.pinned.checked.prog 3 Tryd.f3 (OpenSpec.ofChange Rows.diskNoneSpec).bare Rows.diskNoneRow=true:=by
 apply aan_<;>as_aux_lemma=>kernel_rfl
theorem said:Rows.DiskNoneSaid:=
 OpenClaim.holds_of_cond 3 Tryd.f3 rfl rfl rfl rfl rfl rfl rfl ⟨rfl,rfl,rfl,rfl,rfl⟩ rfl rfl rfl rfl rfl (by kernel_rfl) Tryd.func3 adI_
  (of_decide_eq_true (by kernel_rfl)) (by unfold Func.isWrapper;first| (rw[if_pos (by decide+kernel)];kernel_rfl) | (rw[if_neg (by decide+kernel)];exact⟨rfl,rfl⟩))
  (fun os started H enc _ F=>by rw[OpenClaim.pre_eq_preRow];exact lifted os started H enc F)
theorem plain (f:FuncId) (fn:Func) (hf:Tryd.pinned.checked.prog.funcNamed "sediment/sedimentlaw13.DiskNone" =some f) (hfn:Tryd.pinned.checked.prog.funcs[f]? =some fn):
  true=Tryd.pinned.checked.prog.looks []∧ ∀ (j:Nat) t,fn.params[j]? =some t→Tryd.pinned.checked.prog.wantsStandIn t=false:=by
 obtain rfl:f=3:=Option.some.inj ((show Tryd.prog.funcNamed "sediment/sedimentlaw13.DiskNone" =some 3 by kernel_rfl).symm.trans hf) |>.symm
 obtain rfl:fn=Tryd.f3:=(Option.some.inj (Tryd.func3.symm.trans hfn)).symm
 refine⟨by kernel_rfl,fun j t ht=> ?_⟩
 rw[Tryd.params3] at ht
 have hm:t=22:=by
  have ht:=Array.mem_of_getElem? ht
  first|simpa using ht| (simp at ht;rcases ht with h<;>simp[h])
 subst hm
 exact(show Tryd.prog.wantsStandIn 22=false by kernel_rfl)
theorem card:Rows.DiskNoneCardSaid:=
 Claim7.holds_tied_plain_at .later [] _ _ _ _ said (fun _ h=>by cases h) (by kernel_rfl) (fun _ h=>by cases h) diskNone_row_tie rfl ⟨rfl,rfl⟩ (by kernel_rfl) rfl plain (by kernel_rfl)
end Go.Proofs.YtoecppmpegmfmaaDoor.diskNone
