/-
  The law answers true for every input, and its arguments read as they did.
  No conditions.
-/
import Derived.Test.YtfdphhalimbpbaaGreatDoorB3
import Derived.Test.YtfdphhalimbpbaaGreatDoorRows
import Derived.Test.YtfdphhalimbpbaaGreatDoorCards
import Derived.Test.YtfdphhalimbpbaaGreatDoorTie
import Derived.Deep.DeepHandedRow
namespace Go.Proofs.YtfdphhalimbpbaaGreatDoor.bookNone
open Go Go.Proofs Go.Sx
open Go.ChangeShapes Go.WideShapes Go.ChangeAt Go.RowKit Go.ChangeMaps
set_option maxRecDepth 100000
set_option maxHeartbeats 40000000
theorem agT_ {H:Type} {d:DataW H}: ∀ {l:List (DataW H)},d∈l→Rows.uptoBulk d≤Rows.uptoBulkAll l
 |e::r,h=>by
  rw[Rows.uptoBulkAll]
  rcases List.mem_cons.1 h with rfl|h
  ·omega
  ·have:=agT_ h
   omega
theorem ahf_ {H:Type} (d:DataW H):1≤Rows.uptoBulk d:=by
 cases d with
 |lit l=>cases l<;>simp[Rows.uptoBulk]
 |_=>simp[Rows.uptoBulk]
theorem agc_ {H:Type}: ∀ (l:List (DataW H)),l.length≤Rows.uptoBulkAll l
 | []=>Nat.zero_le _
 |e::r=>by
  rw[Rows.uptoBulkAll,List.length_cons]
  have:=ahf_ e
  have:=agc_ r
  omega
theorem own:ownKnob Tryz.prog.godebug=none:=by kernel_rfl
theorem ajl_:laidOutB Tryz.prog=true:=by kernel_rfl
def hvZ:List Int:=hvL.map fun x=>(x.toNat:Int)
theorem ahl_ {H:Type}: (Rows.laid_sediment_crc_halves:DataW H)=Lib.tabData .u32 hvZ:=by rfl
theorem aiX_ {H:Type}: (Rows.laid_sediment_disk_order:DataW H)= .agg [.lit (.string xj_), .lit (.string vv_), .lit (.string jc_)]:=by rfl
theorem aiq_:Tryz.prog.cellsOf 414=16:=by kernel_rfl
theorem ake_:Tryz.prog.cellsOf 250=1:=by kernel_rfl
theorem glob {W:World} (h:laidMet Tryz.prog [("sediment/crc.halves",Rows.laid_sediment_crc_halves),("sediment/disk.order",Rows.laid_sediment_disk_order)] W):Jr_ W∧GlobC W:=by
 obtain⟨ps,hv,-⟩:=h
 obtain⟨e0,f0,h0⟩:=Wh_ (P:=Tryz.prog) (g:=4) (by kernel_rfl) (QA_ (P:=Tryz.prog) (name:= "sediment/crc.halves") (k:= .u32) (zs:=hvZ) (t:=414) (e:=250) (n:=16) (g:=4) (by kernel_rfl) (by kernel_rfl) Tryz.underlying414 Tryz.underlying250 ake_ aiq_ hv (by rw[←ahl_];exact .head _))
 refine⟨vO_ hv (by rw[aiX_];exact .tail _ (.head _)),e0,f0, ?_⟩
 rw[h0,hvZ,List.map_map];rfl
def ah1_ (a:Array Value):Obj→Obj
 | .cells _ t frozen=> .cells a t frozen
 |o=>o
noncomputable def Zz_ (os:Os):World:=
 {World.holding Tryz.prog os ⟨#[], #[],[]⟩ with heap:=((World.holding Tryz.prog os ⟨#[], #[],[]⟩).heap.modify 4 (ah1_ (a32 hvL))).modify 0 (ah1_ #[vs xj_,vs vv_,vs jc_])}
theorem ag5_: ∀t∈Tryz.f9.params.toList,Tryz.prog.readableRec t=true∧t<Tryz.prog.types.size:=by
 intro t ht
 have hm:t=67:=by
  rw[Tryz.params9] at ht
  first|simpa using ht| (simp at ht;rcases ht with h<;>simp[h])
 subst hm
 exact⟨by kernel_rfl,of_decide_eq_true (by kernel_rfl)⟩
theorem resultTypes:Tryz.f9.resultTypes= #[4]:=by kernel_rfl
theorem ahg_ (H:Type) (enc:TypeId×Value→H) (W:World) (base:Nat) (args:Array Value) (ds gs:List (DataW H)) (before:List MemPlace)
  (hval: ∀ (j:Nat) t v,Tryz.f9.params[j]? =some t→args[j]? =some v→Value.okWide Tryz.prog W .any base t v)
  (hW:DataW.Whole enc Tryz.prog Tryz.f9.params.toList Rows.bookNoneSpec.vars false W args.toList ds gs before) (hL:laidMetH Tryz.prog Rows.bookNoneRow.laid W):
  Calls Tryz.prog 9 args W fun e W'=> ∃v,e= .returned v∧Rows.bookNoneSpec.post enc Tryz.prog Tryz.f9 false true false false W args v W':=by
 have hW':=hW
 obtain⟨p,q,hA0,hV,rfl,hfz,hnd⟩:=hW
 have hA:DataW.TrodAll enc Tryz.prog W 0 (fun _=>true) true Tryz.f9.params.toList args.toList ds p:=hA0
 rw[Tryz.params9] at hA hval
 obtain⟨v0,vs0,d0,ds0,p0,q0,hargs,rfl,rfl,h0,r0⟩:=trodAll_cons hA
 obtain⟨rfl,rfl,rfl⟩:=trodAll_nil r0
 obtain rfl:args= #[v0]:=by cases args;simp_all
 obtain⟨k0,rfl,hp0,hi0⟩:=ada_ (hval 0 67 v0 rfl rfl) h0
 have hG:=glob hL
 refine Calls.mono (afw_ k0 W hG hp0) ?_
 rintro e W' ⟨v,D,rfl,hp,rfl,rfl⟩
 exact⟨_,rfl,aeS_ ajl_ hW' rfl ag5_ resultTypes Tryz.underlying4 rfl hp⟩
def wit:Array Value:= #[.agg (#[.int .i64 0, .int .i64 0, .string ByteArray.empty]++Array.replicate 32 (.int .u8 0)++ #[.bool false, .slice none 0 0])]
theorem ahv_ (os:Os):laidMet Tryz.prog Rows.bookNoneRow.laid ((Zz_ os).forCall (fun _ _=>0) ⟨#[],wit,[]⟩).memory:=
 laidMet_of_run' 8 (by kernel_rfl) (by kernel_rfl)
theorem alv_ (os:Os) {H:Type} (enc:TypeId×Value→H): ∃places,DataW.whole enc Tryz.prog ((Zz_ os).forCall (fun _ _=>0) ⟨#[],wit,[]⟩).memory Tryz.f9.params.toList Rows.bookNoneSpec.vars false wit.toList 8=some ([.agg [.lit (.int .i64 0), .lit (.int .i64 0), .lit (.string []), .agg (List.replicate 32 (.lit (.int .u8 0))), .lit (.bool false), .nil]],[],places):=
 ⟨[],by kernel_rfl⟩
theorem lifted (os:Os) (started:os.Started) (H:Type) (enc:TypeId×Value→H) (F:Stop.Interp):
  ReturnsInHanded {} Tryz.checked os 9 .any ((OpenSpec.ofChange Rows.bookNoneSpec).preRow enc Tryz.prog Tryz.f9 Rows.bookNoneRow.domain false Rows.bookNoneRow.laid) (((OpenSpec.ofChange Rows.bookNoneSpec).at F).post enc Tryz.prog Tryz.f9 false true false false):=by
 obtain⟨places,hx⟩:=alv_ os enc
 refine returnsInHanded_of_row (C:=Tryz.checked) (s:=OpenSpec.ofChange Rows.bookNoneSpec) own started (by kernel_rfl) Tryz.func9
  (witness_row_at (enc:=enc) (C:=Tryz.checked) false (Zz_ os) wit rfl (by kernel_rfl) (by kernel_rfl) (by kernel_rfl)
   (OpenSpec.preRow_of_cond 8 hx (by kernel_rfl) (fun k hk=>by cases hk) (by kernel_rfl) (ahv_ os))) ?_
 intro W base args ds gs before hval hW _ _ _ hL _ _
 exact ahg_ H enc W base args ds gs before hval hW hL
theorem aj4_:joinedFacts Tryz.pinned.checked.prog 9 Tryz.f9 (OpenSpec.ofChange Rows.bookNoneSpec).bare Rows.bookNoneRow=true:=by
 apply afR_<;>as_aux_lemma=>kernel_rfl
theorem said:Rows.BookNoneSaid:=
 OpenClaim.holds_of_cond 9 Tryz.f9 rfl rfl rfl rfl rfl rfl rfl ⟨rfl,rfl,rfl,rfl,rfl⟩ rfl rfl rfl rfl rfl (by kernel_rfl) Tryz.func9 aj4_
  (of_decide_eq_true (by kernel_rfl)) (by unfold Func.isWrapper;first| (rw[if_pos (by decide+kernel)];kernel_rfl) | (rw[if_neg (by decide+kernel)];exact⟨rfl,rfl⟩))
  (fun os started H enc _ F=>by rw[OpenClaim.pre_eq_preRow];exact lifted os started H enc F)
theorem plain (f:FuncId) (fn:Func) (hf:Tryz.pinned.checked.prog.funcNamed "sediment/sedimentlaw17.BookNone" =some f) (hfn:Tryz.pinned.checked.prog.funcs[f]? =some fn):
  true=Tryz.pinned.checked.prog.looks []∧ ∀ (j:Nat) t,fn.params[j]? =some t→Tryz.pinned.checked.prog.wantsStandIn t=false:=by
 obtain rfl:f=9:=Option.some.inj ((show Tryz.prog.funcNamed "sediment/sedimentlaw17.BookNone" =some 9 by kernel_rfl).symm.trans hf) |>.symm
 obtain rfl:fn=Tryz.f9:=(Option.some.inj (Tryz.func9.symm.trans hfn)).symm
 refine⟨by kernel_rfl,fun j t ht=> ?_⟩
 rw[Tryz.params9] at ht
 have hm:t=67:=by
  have ht:=Array.mem_of_getElem? ht
  first|simpa using ht| (simp at ht;rcases ht with h<;>simp[h])
 subst hm
 exact(show Tryz.prog.wantsStandIn 67=false by kernel_rfl)
theorem card:Rows.BookNoneCardSaid:=
 Claim7.holds_tied_plain_at .later [] _ _ _ _ said (fun _ h=>by cases h) (by kernel_rfl) (fun _ h=>by cases h) bookNone_row_tie rfl ⟨rfl,rfl⟩ (by kernel_rfl) rfl plain (by kernel_rfl)
end Go.Proofs.YtfdphhalimbpbaaGreatDoor.bookNone
