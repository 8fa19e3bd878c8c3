/-
  The law answers true for every input, and its arguments read as they did.
  No conditions.
-/
import Derived.Test.YtjjiclcgdngfdaaGreatDoorL4
import Derived.Test.YtjjiclcgdngfdaaGreatDoorRows
import Derived.Test.YtjjiclcgdngfdaaGreatDoorCards
import Derived.Test.YtjjiclcgdngfdaaGreatDoorTie
import Derived.Deep.DeepHandedRow
namespace Go.Proofs.YtjjiclcgdngfdaaGreatDoor.looseReads
open Go Go.Proofs Go.Sx Go.Dig
open Go.ChangeShapes Go.WideShapes Go.ChangeAt Go.RowKit Go.ChangeMaps
set_option maxRecDepth 100000
set_option maxHeartbeats 40000000
theorem any_ {H:Type} {d:DataW H}: ∀ {l:List (DataW H)},d∈l→Rows.uptoBulk d≤Rows.uptoBulkAll l
 |e::r,h=>by
  rw[Rows.uptoBulkAll]
  rcases List.mem_cons.1 h with rfl|h
  ·omega
  ·have:=any_ h
   omega
theorem own:ownKnob Tryz.prog.godebug=none:=by kernel_rfl
theorem aqQ_:laidOutB Tryz.prog=true:=by kernel_rfl
def kZ:List Int:=kL.map fun x=>(x.toNat:Int)
def arh_:List Int:=initL.map fun x=>(x.toNat:Int)
def hvZ:List Int:=hvL.map fun x=>(x.toNat:Int)
theorem amS_ {H:Type}: (Rows.laid_sediment_digest_rounds:DataW H)=Lib.tabData .u32 kZ:=by rfl
theorem aqL_ {H:Type}: (Rows.laid_sediment_digest_first:DataW H)=Lib.tabData .u32 arh_:=by rfl
theorem an3_ {H:Type}: (Rows.laid_sediment_crc_halves:DataW H)=Lib.tabData .u32 hvZ:=by rfl
theorem aqg_ {H:Type}: (Rows.laid_sediment_disk_order:DataW H)= .agg [.lit (.string zg_), .lit (.string Zv_), .lit (.string refD)]:=by rfl
theorem aso_:Tryz.prog.cellsOf 227=8:=by kernel_rfl
theorem arp_:Tryz.prog.cellsOf 256=64:=by kernel_rfl
theorem apF_:Tryz.prog.cellsOf 294=16:=by kernel_rfl
theorem afl_:Tryz.prog.cellsOf 207=1:=by kernel_rfl
theorem glob {W:World} (h:laidMet Tryz.prog [("sediment/crc.halves",Rows.laid_sediment_crc_halves),("sediment/digest.rounds",Rows.laid_sediment_digest_rounds),("sediment/digest.first",Rows.laid_sediment_digest_first),("sediment/disk.order",Rows.laid_sediment_disk_order)] W):GlbA W W.heap.size:=by
 obtain⟨ps,hv,-⟩:=h
 obtain⟨e0,f0,h0⟩:=ZJ_ (P:=Tryz.prog) (g:=3) (by kernel_rfl) (vY_ (P:=Tryz.prog) (name:= "sediment/digest.first") (k:= .u32) (zs:=arh_) (t:=227) (e:=207) (n:=8) (g:=3) (by kernel_rfl) (by kernel_rfl) Tryz.underlying227 Tryz.underlying207 afl_ aso_ hv (by rw[←aqL_];exact .tail _ (.tail _ (.head _))))
 obtain⟨e1,f1,h1⟩:=ZJ_ (P:=Tryz.prog) (g:=4) (by kernel_rfl) (vY_ (P:=Tryz.prog) (name:= "sediment/digest.rounds") (k:= .u32) (zs:=kZ) (t:=256) (e:=207) (n:=64) (g:=4) (by kernel_rfl) (by kernel_rfl) Tryz.underlying256 Tryz.underlying207 afl_ arp_ hv (by rw[←amS_];exact .tail _ (.head _)))
 obtain⟨e2,f2,h2⟩:=ZJ_ (P:=Tryz.prog) (g:=2) (by kernel_rfl) (vY_ (P:=Tryz.prog) (name:= "sediment/crc.halves") (k:= .u32) (zs:=hvZ) (t:=294) (e:=207) (n:=16) (g:=2) (by kernel_rfl) (by kernel_rfl) Tryz.underlying294 Tryz.underlying207 afl_ apF_ hv (by rw[←an3_];exact .head _))
 refine GlbA.mk0 ⟨e2,f2, ?_⟩ ⟨e0,e1,f0,f1, ?_, ?_⟩ (Qk_ hv (by rw[aqg_];exact .tail _ (.tail _ (.tail _ (.head _)))))
 ·rw[h2,hvZ,List.map_map];rfl
 ·rw[h0,arh_,List.map_map];rfl
 ·rw[h1,kZ,List.map_map];rfl
def agx_ (a:Array Value):Obj→Obj
 | .cells _ t frozen=> .cells a t frozen
 |o=>o
noncomputable def XA_ (os:Os):World:=
 {World.holding Tryz.prog os ⟨#[], #[],[]⟩ with heap:=((((World.holding Tryz.prog os ⟨#[], #[],[]⟩).heap.modify 3 (agx_ (a32 initL))).modify 4 (agx_ (a32 kL))).modify 2 (agx_ (a32 hvL))).modify 0 (agx_ #[vs zg_,vs Zv_,vs refD])}
theorem anL_: ∀t∈Tryz.f10.params.toList,Tryz.prog.readableRec t=true∧t<Tryz.prog.types.size:=by
 intro t ht
 have hm:t=82∨t=9∨t=84:=by
  rw[Tryz.params10] at ht
  first|simpa using ht| (simp at ht;rcases ht with h|h|h|h|h<;>simp[h]) | (simp at ht;rcases ht with h|h|h|h<;>simp[h]) | (simp at ht;rcases ht with h|h|h<;>simp[h])
 rcases hm with rfl|rfl|rfl
 ·exact⟨by kernel_rfl,of_decide_eq_true (by kernel_rfl)⟩
 ·exact⟨by kernel_rfl,of_decide_eq_true (by kernel_rfl)⟩
 ·exact⟨by kernel_rfl,of_decide_eq_true (by kernel_rfl)⟩
theorem resultTypes:Tryz.f10.resultTypes= #[4]:=by kernel_rfl
theorem anW_ (H:Type) (enc:TypeId×Value→H) (W:World) (base:Nat) (args:Array Value) (ds gs:List (DataW H)) (before:List MemPlace)
  (hval: ∀ (j:Nat) t v,Tryz.f10.params[j]? =some t→args[j]? =some v→Value.okWide Tryz.prog W .any base t v)
  (hW:DataW.Whole enc Tryz.prog Tryz.f10.params.toList Rows.looseReadsSpec.vars false W args.toList ds gs before) (hL:laidMetH Tryz.prog Rows.looseReadsRow.laid W):
  Calls Tryz.prog 10 args W fun e W'=> ∃v,e= .returned v∧Rows.looseReadsSpec.post enc Tryz.prog Tryz.f10 false true false false W args v W':=by
 have hW':=hW
 obtain⟨p,q,hA0,hV,rfl,hfz,hnd⟩:=hW
 have hA:DataW.TrodAll enc Tryz.prog W 0 (fun _=>true) true Tryz.f10.params.toList args.toList ds p:=hA0
 rw[Tryz.params10] at hA hval
 obtain⟨v0,vs0,d0,ds0,p0,q0,hargs,rfl,rfl,h0,r0⟩:=trodAll_cons hA
 obtain⟨v1,vs1,d1,ds1,p1,q1,rfl,rfl,rfl,h1,r1⟩:=trodAll_cons r0
 obtain⟨v2,vs2,d2,ds2,p2,q2,rfl,rfl,rfl,h2,r2⟩:=trodAll_cons r1
 obtain⟨v3,vs3,d3,ds3,p3,q3,rfl,rfl,rfl,h3,r3⟩:=trodAll_cons r2
 obtain⟨rfl,rfl,rfl⟩:=trodAll_nil r3
 obtain rfl:args= #[v0,v1,v2,v3]:=by cases args;simp_all
 obtain⟨k0,t0,rfl⟩:=aow_ (hval 0 82 v0 rfl rfl) h0
 obtain⟨s1,rfl,rfl,rfl,hs1⟩:=open_string Tryz.underlying9 (hval 1 9 v1 rfl rfl) h1
 obtain⟨s2,rfl,rfl,rfl,hs2⟩:=open_string Tryz.underlying9 (hval 2 9 v2 rfl rfl) h2
 obtain⟨fu3,hf3⟩:=h3
 obtain⟨i3,rfl⟩:=aq8_ (hval 3 84 v3 rfl rfl) hf3
 have hG:=glob hL
 refine Calls.mono (XJ_ k0 t0 s1.data.toList s2.data.toList i3 _ W hG) ?_
 rintro e W' ⟨v,D,rfl,hp,rfl,rfl⟩
 exact⟨_,rfl,ala_ aqQ_ hW' rfl anL_ resultTypes Tryz.underlying4 rfl hp⟩
def wit:Array Value:= #[.agg #[.int .i64 0, .string ByteArray.empty], .string ByteArray.empty, .string ByteArray.empty, .agg (Array.replicate 32 (.int .u8 0))]
theorem aok_ (os:Os):laidMet Tryz.prog Rows.looseReadsRow.laid ((XA_ os).forCall (fun _ _=>0) ⟨#[],wit,[]⟩).memory:=
 laidMet_of_run' 8 (by kernel_rfl) (by kernel_rfl)
theorem atD_ (os:Os) {H:Type} (enc:TypeId×Value→H): ∃places,DataW.whole enc Tryz.prog ((XA_ os).forCall (fun _ _=>0) ⟨#[],wit,[]⟩).memory Tryz.f10.params.toList Rows.looseReadsSpec.vars false wit.toList 8=some ([.agg [.lit (.int .i64 0), .lit (.string [])], .lit (.string []), .lit (.string []), .agg (List.replicate 32 (.lit (.int .u8 0)))],[],places):=
 ⟨[],by kernel_rfl⟩
theorem lifted (os:Os) (started:os.Started) (H:Type) (enc:TypeId×Value→H) (F:Stop.Interp):
  ReturnsInHanded {} Tryz.checked os 10 .any ((OpenSpec.ofChange Rows.looseReadsSpec).preRow enc Tryz.prog Tryz.f10 Rows.looseReadsRow.domain false Rows.looseReadsRow.laid) (((OpenSpec.ofChange Rows.looseReadsSpec).at F).post enc Tryz.prog Tryz.f10 false true false false):=by
 obtain⟨places,hx⟩:=atD_ os enc
 refine returnsInHanded_of_row (C:=Tryz.checked) (s:=OpenSpec.ofChange Rows.looseReadsSpec) own started (by kernel_rfl) Tryz.func10
  (witness_row_at (enc:=enc) (C:=Tryz.checked) false (XA_ os) wit rfl (by kernel_rfl) (by kernel_rfl) (by kernel_rfl)
   (OpenSpec.preRow_of_cond 8 hx (by kernel_rfl) (fun k hk=>by cases hk) (by kernel_rfl) (aok_ os))) ?_
 intro W base args ds gs before hval hW _ _ _ hL _ _
 exact anW_ H enc W base args ds gs before hval hW hL
theorem arM_:joinedFacts Tryz.pinned.checked.prog 10 Tryz.f10 (OpenSpec.ofChange Rows.looseReadsSpec).bare Rows.looseReadsRow=true:=
 amr_ (by as_aux_lemma=>kernel_rfl) (by as_aux_lemma=>kernel_rfl) (by as_aux_lemma=>kernel_rfl) (by as_aux_lemma=>kernel_rfl) (by as_aux_lemma=>kernel_rfl) (by as_aux_lemma=>kernel_rfl) (by as_aux_lemma=>kernel_rfl) (by as_aux_lemma=>kernel_rfl) (by as_aux_lemma=>kernel_rfl) (by as_aux_lemma=>kernel_rfl) (by as_aux_lemma=>kernel_rfl) (by as_aux_lemma=>kernel_rfl) (by as_aux_lemma=>kernel_rfl) (by as_aux_lemma=>kernel_rfl) (by as_aux_lemma=>kernel_rfl) (by as_aux_lemma=>kernel_rfl) (by as_aux_lemma=>kernel_rfl) (by as_aux_lemma=>kernel_rfl) (by as_aux_lemma=>kernel_rfl) (by as_aux_lemma=>kernel_rfl) (by as_aux_lemma=>kernel_rfl) (by as_aux_lemma=>kernel_rfl) (by as_aux_lemma=>kernel_rfl) (by as_aux_lemma=>kernel_rfl) (by as_aux_lemma=>kernel_rfl) (by as_aux_lemma=>kernel_rfl) (by as_aux_lemma=>kernel_rfl) (by as_aux_lemma=>kernel_rfl) (by as_aux_lemma=>kernel_rfl) (by as_aux_lemma=>kernel_rfl) (by as_aux_lemma=>kernel_rfl) (by as_aux_lemma=>kernel_rfl)
theorem said:Rows.LooseReadsSaid:=
 OpenClaim.holds_of_cond 10 Tryz.f10 rfl rfl rfl rfl rfl rfl rfl ⟨rfl,rfl,rfl,rfl,rfl⟩ rfl rfl rfl rfl rfl (by kernel_rfl) Tryz.func10 arM_
  (of_decide_eq_true (by kernel_rfl)) (by unfold Func.isWrapper;first| (rw[if_pos (by decide+kernel)];kernel_rfl) | (rw[if_neg (by decide+kernel)];exact⟨rfl,rfl⟩))
  (fun os started H enc _ F=>by rw[OpenClaim.pre_eq_preRow];exact lifted os started H enc F)
theorem plain (f:FuncId) (fn:Func) (hf:Tryz.pinned.checked.prog.funcNamed "sediment/sedimentlaw15.LooseReads" =some f) (hfn:Tryz.pinned.checked.prog.funcs[f]? =some fn):
  true=Tryz.pinned.checked.prog.looks []∧ ∀ (j:Nat) t,fn.params[j]? =some t→Tryz.pinned.checked.prog.wantsStandIn t=false:=by
 obtain rfl:f=10:=Option.some.inj ((show Tryz.prog.funcNamed "sediment/sedimentlaw15.LooseReads" =some 10 by kernel_rfl).symm.trans hf) |>.symm
 obtain rfl:fn=Tryz.f10:=(Option.some.inj (Tryz.func10.symm.trans hfn)).symm
 refine⟨by kernel_rfl,fun j t ht=> ?_⟩
 rw[Tryz.params10] at ht
 have hm:t=82∨t=9∨t=84:=by
  have ht:=Array.mem_of_getElem? ht
  first|simpa using ht| (simp at ht;rcases ht with h|h|h|h|h<;>simp[h]) | (simp at ht;rcases ht with h|h|h|h<;>simp[h]) | (simp at ht;rcases ht with h|h|h<;>simp[h])
 rcases hm with rfl|rfl|rfl
 ·exact(show Tryz.prog.wantsStandIn 82=false by kernel_rfl)
 ·exact(show Tryz.prog.wantsStandIn 9=false by kernel_rfl)
 ·exact(show Tryz.prog.wantsStandIn 84=false by kernel_rfl)
theorem card:Rows.LooseReadsCardSaid:=
 Claim7.holds_tied_plain_at .later [] _ _ _ _ said (fun _ h=>by cases h) (by kernel_rfl) (fun _ h=>by cases h) looseReads_row_tie rfl ⟨rfl,rfl⟩ (by kernel_rfl) rfl plain (by kernel_rfl)
end Go.Proofs.YtjjiclcgdngfdaaGreatDoor.looseReads
