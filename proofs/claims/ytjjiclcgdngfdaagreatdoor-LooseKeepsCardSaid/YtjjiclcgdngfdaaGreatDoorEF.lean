/-
  The law answers true for every input, and its arguments read as they did.
  No conditions.
-/
import Derived.Test.YtjjiclcgdngfdaaGreatDoorM5
import Derived.Test.YtjjiclcgdngfdaaGreatDoorRows
import Derived.Test.YtjjiclcgdngfdaaGreatDoorCards
import Derived.Test.YtjjiclcgdngfdaaGreatDoorTie
import Derived.Deep.DeepHandedRow
namespace Go.Proofs.YtjjiclcgdngfdaaGreatDoor.looseKeeps
open Go Go.Proofs Go.Sx Go.Dig
open Go.ChangeShapes Go.WideShapes Go.ChangeAt Go.RowKit Go.ChangeMaps
set_option maxRecDepth 100000
set_option maxHeartbeats 40000000
theorem aoz_ {H:Type} {d:DataW H}: ∀ {l:List (DataW H)},d∈l→Rows.uptoBulk d≤Rows.uptoBulkAll l
 |e::r,h=>by
  rw[Rows.uptoBulkAll]
  rcases List.mem_cons.1 h with rfl|h
  ·omega
  ·have:=aoz_ h
   omega
theorem own:ownKnob Tryz.prog.godebug=none:=by kernel_rfl
theorem arv_:laidOutB Tryz.prog=true:=by kernel_rfl
def kZ:List Int:=kL.map fun x=>(x.toNat:Int)
def arZ_:List Int:=initL.map fun x=>(x.toNat:Int)
def hvZ:List Int:=hvL.map fun x=>(x.toNat:Int)
theorem anX_ {H:Type}: (Rows.laid_sediment_digest_rounds:DataW H)=Lib.tabData .u32 kZ:=by rfl
theorem arp_ {H:Type}: (Rows.laid_sediment_digest_first:DataW H)=Lib.tabData .u32 arZ_:=by rfl
theorem ao4_ {H:Type}: (Rows.laid_sediment_crc_halves:DataW H)=Lib.tabData .u32 hvZ:=by rfl
theorem aq3_ {H:Type}: (Rows.laid_sediment_disk_order:DataW H)= .agg [.lit (.string zf_), .lit (.string Qc_), .lit (.string refD)]:=by rfl
theorem asX_:Tryz.prog.cellsOf 227=8:=by kernel_rfl
theorem ar9_:Tryz.prog.cellsOf 256=64:=by kernel_rfl
theorem aqt_:Tryz.prog.cellsOf 294=16:=by kernel_rfl
theorem agm_:Tryz.prog.cellsOf 207=1:=by kernel_rfl
theorem glob {W:World} (h:laidMet Tryz.prog [("sediment/crc.halves",Rows.laid_sediment_crc_halves),("sediment/digest.rounds",Rows.laid_sediment_digest_rounds),("sediment/digest.first",Rows.laid_sediment_digest_first),("sediment/disk.order",Rows.laid_sediment_disk_order)] W):GlbA W W.heap.size:=by
 obtain⟨ps,hv,-⟩:=h
 obtain⟨e0,f0,h0⟩:=ZR_ (P:=Tryz.prog) (g:=3) (by kernel_rfl) (v6_ (P:=Tryz.prog) (name:= "sediment/digest.first") (k:= .u32) (zs:=arZ_) (t:=227) (e:=207) (n:=8) (g:=3) (by kernel_rfl) (by kernel_rfl) Tryz.underlying227 Tryz.underlying207 agm_ asX_ hv (by rw[←arp_];exact .tail _ (.tail _ (.head _))))
 obtain⟨e1,f1,h1⟩:=ZR_ (P:=Tryz.prog) (g:=4) (by kernel_rfl) (v6_ (P:=Tryz.prog) (name:= "sediment/digest.rounds") (k:= .u32) (zs:=kZ) (t:=256) (e:=207) (n:=64) (g:=4) (by kernel_rfl) (by kernel_rfl) Tryz.underlying256 Tryz.underlying207 agm_ ar9_ hv (by rw[←anX_];exact .tail _ (.head _)))
 obtain⟨e2,f2,h2⟩:=ZR_ (P:=Tryz.prog) (g:=2) (by kernel_rfl) (v6_ (P:=Tryz.prog) (name:= "sediment/crc.halves") (k:= .u32) (zs:=hvZ) (t:=294) (e:=207) (n:=16) (g:=2) (by kernel_rfl) (by kernel_rfl) Tryz.underlying294 Tryz.underlying207 agm_ aqt_ hv (by rw[←ao4_];exact .head _))
 refine GlbA.mk0 ⟨e2,f2, ?_⟩ ⟨e0,e1,f0,f1, ?_, ?_⟩ (Qv_ hv (by rw[aq3_];exact .tail _ (.tail _ (.tail _ (.head _)))))
 ·rw[h2,hvZ,List.map_map];rfl
 ·rw[h0,arZ_,List.map_map];rfl
 ·rw[h1,kZ,List.map_map];rfl
def ahu_ (a:Array Value):Obj→Obj
 | .cells _ t frozen=> .cells a t frozen
 |o=>o
noncomputable def XQ_ (os:Os):World:=
 {World.holding Tryz.prog os ⟨#[], #[],[]⟩ with heap:=((((World.holding Tryz.prog os ⟨#[], #[],[]⟩).heap.modify 3 (ahu_ (a32 initL))).modify 4 (ahu_ (a32 kL))).modify 2 (ahu_ (a32 hvL))).modify 0 (ahu_ #[vs zf_,vs Qc_,vs refD])}
theorem aoN_: ∀t∈Tryz.f11.params.toList,Tryz.prog.readableRec t=true∧t<Tryz.prog.types.size:=by
 intro t ht
 have hm:t=93:=by
  rw[Tryz.params11] at ht
  first|simpa using ht| (simp at ht;rcases ht with h<;>simp[h])
 subst hm
 exact⟨by kernel_rfl,of_decide_eq_true (by kernel_rfl)⟩
theorem resultTypes:Tryz.f11.resultTypes= #[4]:=by kernel_rfl
theorem aoY_ (H:Type) (enc:TypeId×Value→H) (W:World) (base:Nat) (args:Array Value) (ds gs:List (DataW H)) (before:List MemPlace)
  (hval: ∀ (j:Nat) t v,Tryz.f11.params[j]? =some t→args[j]? =some v→Value.okWide Tryz.prog W .any base t v)
  (hW:DataW.Whole enc Tryz.prog Tryz.f11.params.toList Rows.looseKeepsSpec.vars false W args.toList ds gs before) (hL:laidMetH Tryz.prog Rows.looseKeepsRow.laid W):
  Calls Tryz.prog 11 args W fun e W'=> ∃v,e= .returned v∧Rows.looseKeepsSpec.post enc Tryz.prog Tryz.f11 false true false false W args v W':=by
 have hW':=hW
 obtain⟨p,q,hA0,hV,rfl,hfz,hnd⟩:=hW
 have hA:DataW.TrodAll enc Tryz.prog W 0 (fun _=>true) true Tryz.f11.params.toList args.toList ds p:=hA0
 rw[Tryz.params11] at hA hval
 obtain⟨v0,vs0,d0,ds0,p0,q0,hargs,rfl,rfl,h0,r0⟩:=trodAll_cons hA
 obtain⟨rfl,rfl,rfl⟩:=trodAll_nil r0
 obtain rfl:args= #[v0]:=by cases args;simp_all
 obtain⟨l0,hl0,hx0⟩:=afe_ (hval 0 93 v0 rfl rfl) h0
 have hG:=glob hL
 refine Calls.mono (Vg_ v0 l0 _ W hG hl0 hx0) ?_
 rintro e W' ⟨v,D,rfl,hp,rfl,rfl⟩
 exact⟨_,rfl,amg_ arv_ hW' rfl aoN_ resultTypes Tryz.underlying4 rfl hp⟩
def wit:Array Value:= #[.slice none 0 0]
theorem api_ (os:Os):laidMet Tryz.prog Rows.looseKeepsRow.laid ((XQ_ os).forCall (fun _ _=>0) ⟨#[],wit,[]⟩).memory:=
 laidMet_of_run' 8 (by kernel_rfl) (by kernel_rfl)
theorem at2_ (os:Os) {H:Type} (enc:TypeId×Value→H): ∃places,DataW.whole enc Tryz.prog ((XQ_ os).forCall (fun _ _=>0) ⟨#[],wit,[]⟩).memory Tryz.f11.params.toList Rows.looseKeepsSpec.vars false wit.toList 8=some ([.nil],[],places):=
 ⟨[],by kernel_rfl⟩
theorem lifted (os:Os) (started:os.Started) (H:Type) (enc:TypeId×Value→H) (F:Stop.Interp):
  ReturnsInHanded {} Tryz.checked os 11 .any ((OpenSpec.ofChange Rows.looseKeepsSpec).preRow enc Tryz.prog Tryz.f11 Rows.looseKeepsRow.domain false Rows.looseKeepsRow.laid) (((OpenSpec.ofChange Rows.looseKeepsSpec).at F).post enc Tryz.prog Tryz.f11 false true false false):=by
 obtain⟨places,hx⟩:=at2_ os enc
 refine returnsInHanded_of_row (C:=Tryz.checked) (s:=OpenSpec.ofChange Rows.looseKeepsSpec) own started (by kernel_rfl) Tryz.func11
  (witness_row_at (enc:=enc) (C:=Tryz.checked) false (XQ_ os) wit rfl (by kernel_rfl) (by kernel_rfl) (by kernel_rfl)
   (OpenSpec.preRow_of_cond 8 hx (by kernel_rfl) (fun k hk=>by cases hk) (by kernel_rfl) (api_ os))) ?_
 intro W base args ds gs before hval hW _ _ _ hL _ _
 exact aoY_ H enc W base args ds gs before hval hW hL
theorem asu_:joinedFacts Tryz.pinned.checked.prog 11 Tryz.f11 (OpenSpec.ofChange Rows.looseKeepsSpec).bare Rows.looseKeepsRow=true:=by
 apply anx_<;>as_aux_lemma=>kernel_rfl
theorem said:Rows.LooseKeepsSaid:=
 OpenClaim.holds_of_cond 11 Tryz.f11 rfl rfl rfl rfl rfl rfl rfl ⟨rfl,rfl,rfl,rfl,rfl⟩ rfl rfl rfl rfl rfl (by kernel_rfl) Tryz.func11 asu_
  (of_decide_eq_true (by kernel_rfl)) (by unfold Func.isWrapper;first| (rw[if_pos (by decide+kernel)];kernel_rfl) | (rw[if_neg (by decide+kernel)];exact⟨rfl,rfl⟩))
  (fun os started H enc _ F=>by rw[OpenClaim.pre_eq_preRow];exact lifted os started H enc F)
theorem plain (f:FuncId) (fn:Func) (hf:Tryz.pinned.checked.prog.funcNamed "sediment/sedimentlaw15.LooseKeeps" =some f) (hfn:Tryz.pinned.checked.prog.funcs[f]? =some fn):
  true=Tryz.pinned.checked.prog.looks []∧ ∀ (j:Nat) t,fn.params[j]? =some t→Tryz.pinned.checked.prog.wantsStandIn t=false:=by
 obtain rfl:f=11:=Option.some.inj ((show Tryz.prog.funcNamed "sediment/sedimentlaw15.LooseKeeps" =some 11 by kernel_rfl).symm.trans hf) |>.symm
 obtain rfl:fn=Tryz.f11:=(Option.some.inj (Tryz.func11.symm.trans hfn)).symm
 refine⟨by kernel_rfl,fun j t ht=> ?_⟩
 rw[Tryz.params11] at ht
 have hm:t=93:=by
  have ht:=Array.mem_of_getElem? ht
  first|simpa using ht| (simp at ht;rcases ht with h<;>simp[h])
 subst hm
 exact(show Tryz.prog.wantsStandIn 93=false by kernel_rfl)
theorem card:Rows.LooseKeepsCardSaid:=
 Claim7.holds_tied_plain_at .later [] _ _ _ _ said (fun _ h=>by cases h) (by kernel_rfl) (fun _ h=>by cases h) looseKeeps_row_tie rfl ⟨rfl,rfl⟩ (by kernel_rfl) rfl plain (by kernel_rfl)
end Go.Proofs.YtjjiclcgdngfdaaGreatDoor.looseKeeps
