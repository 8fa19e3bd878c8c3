/-
  The law answers true for every input, and its arguments read as they did.
  No conditions.
-/
import Derived.Test.YtooklcgflocbcaaGreatDoorI4
import Derived.Test.YtooklcgflocbcaaGreatDoorRows
import Derived.Test.YtooklcgflocbcaaGreatDoorCards
import Derived.Test.YtooklcgflocbcaaGreatDoorTie
import Derived.Deep.DeepHandedRow
namespace Go.Proofs.YtooklcgflocbcaaGreatDoor.indexFinds
open Go Go.Proofs Go.Sx Go.Dig
open Go.ChangeShapes Go.WideShapes Go.ChangeAt Go.RowKit Go.ChangeMaps
set_option maxRecDepth 100000
theorem own:ownKnob Tryz.prog.godebug=none:=by kernel_rfl
theorem aaq_:laidOutB Tryz.prog=true:=by kernel_rfl
def kZ:List Int:=kL.map fun x=>(x.toNat:Int)
def aav_:List Int:=initL.map fun x=>(x.toNat:Int)
def hvZ:List Int:=hvL.map fun x=>(x.toNat:Int)
theorem KE_ {H:Type}: (Rows.laid_sediment_digest_rounds:DataW H)=Lib.tabData .u32 kZ:=by rfl
theorem abb_ {H:Type}: (Rows.laid_sediment_digest_first:DataW H)=Lib.tabData .u32 aav_:=by rfl
theorem KB_ {H:Type}: (Rows.laid_sediment_crc_halves:DataW H)=Lib.tabData .u32 hvZ:=by rfl
theorem afw_:Tryz.prog.cellsOf 244=8:=by kernel_rfl
theorem aaK_:Tryz.prog.cellsOf 274=64:=by kernel_rfl
theorem abm_:Tryz.prog.cellsOf 297=16:=by kernel_rfl
theorem wF_:Tryz.prog.cellsOf 202=1:=by kernel_rfl
theorem glob {W:World} (h:laidMet Tryz.prog [("sediment/crc.halves",Rows.laid_sediment_crc_halves),("sediment/digest.rounds",Rows.laid_sediment_digest_rounds),("sediment/digest.first",Rows.laid_sediment_digest_first)] W):GlobE W∧GlobC W:=by
 obtain⟨ps,hv,-⟩:=h
 obtain⟨e0,f0,h0⟩:=j0_ (P:=Tryz.prog) (g:=2) (by kernel_rfl) (jy_ (P:=Tryz.prog) (name:= "sediment/digest.first") (k:= .u32) (zs:=aav_) (t:=244) (e:=202) (n:=8) (g:=2) (by kernel_rfl) (by kernel_rfl) Tryz.underlying244 Tryz.underlying202 wF_ afw_ hv (by rw[←abb_];exact .tail _ (.tail _ (.head _))))
 obtain⟨e1,f1,h1⟩:=j0_ (P:=Tryz.prog) (g:=3) (by kernel_rfl) (jy_ (P:=Tryz.prog) (name:= "sediment/digest.rounds") (k:= .u32) (zs:=kZ) (t:=274) (e:=202) (n:=64) (g:=3) (by kernel_rfl) (by kernel_rfl) Tryz.underlying274 Tryz.underlying202 wF_ aaK_ hv (by rw[←KE_];exact .tail _ (.head _)))
 obtain⟨e2,f2,h2⟩:=j0_ (P:=Tryz.prog) (g:=1) (by kernel_rfl) (jy_ (P:=Tryz.prog) (name:= "sediment/crc.halves") (k:= .u32) (zs:=hvZ) (t:=297) (e:=202) (n:=16) (g:=1) (by kernel_rfl) (by kernel_rfl) Tryz.underlying297 Tryz.underlying202 wF_ abm_ hv (by rw[←KB_];exact .head _))
 refine⟨⟨e0,e1,f0,f1, ?_, ?_⟩,e2,f2, ?_⟩
 ·rw[h0,aav_,List.map_map];rfl
 ·rw[h1,kZ,List.map_map];rfl
 ·rw[h2,hvZ,List.map_map];rfl
def QU_ (a:Array Value):Obj→Obj
 | .cells _ t frozen=> .cells a t frozen
 |o=>o
noncomputable def xR_ (os:Os):World:=
 {World.holding Tryz.prog os ⟨#[], #[],[]⟩ with heap:=(((World.holding Tryz.prog os ⟨#[], #[],[]⟩).heap.modify 2 (QU_ (a32 initL))).modify 3 (QU_ (a32 kL))).modify 1 (QU_ (a32 hvL))}
theorem K6_: ∀t∈Tryz.f11.params.toList,Tryz.prog.readableRec t=true∧t<Tryz.prog.types.size:=by
 intro t ht
 have hm:t=22∨t=37:=by
  rw[Tryz.params11] at ht
  simpa using ht
 rcases hm with rfl|rfl
 ·exact⟨by kernel_rfl,of_decide_eq_true (by kernel_rfl)⟩
 ·exact⟨by kernel_rfl,of_decide_eq_true (by kernel_rfl)⟩
theorem resultTypes:Tryz.f11.resultTypes= #[4]:=by kernel_rfl
theorem K8_ (H:Type) (enc:TypeId×Value→H) (W:World) (base:Nat) (args:Array Value) (ds gs:List (DataW H)) (before:List MemPlace)
  (hval: ∀ (j:Nat) t v,Tryz.f11.params[j]? =some t→args[j]? =some v→Value.okWide Tryz.prog W .any base t v)
  (hW:DataW.Whole enc Tryz.prog Tryz.f11.params.toList Rows.indexFindsSpec.vars false W args.toList ds gs before) (hL:laidMetH Tryz.prog Rows.indexFindsRow.laid W):
  Calls Tryz.prog 11 args W fun e W'=> ∃v,e= .returned v∧Rows.indexFindsSpec.post enc Tryz.prog Tryz.f11 false true false false W args v W':=by
 have hW':=hW
 obtain⟨p,q,hA0,hV,rfl,hfz,hnd⟩:=hW
 have hA:DataW.TrodAll enc Tryz.prog W 0 (fun _=>true) true Tryz.f11.params.toList args.toList ds p:=hA0
 rw[Tryz.params11] at hA hval
 obtain⟨v0,vs0,d0,ds0,p0,q0,hargs,rfl,rfl,h0,r0⟩:=trodAll_cons hA
 obtain⟨v1,vs1,d1,ds1,p1,q1,rfl,rfl,rfl,h1,r1⟩:=trodAll_cons r0
 obtain⟨rfl,rfl,rfl⟩:=trodAll_nil r1
 obtain rfl:args= #[v0,v1]:=by cases args;simp_all
 obtain⟨l0,hl0⟩:=aeF_ (hval 0 22 v0 rfl rfl) h0
 obtain⟨fu1,hf1⟩:=h1
 obtain⟨i1,rfl⟩:=ali_ (hval 1 37 v1 rfl rfl) hf1
 have hG:=glob hL
 refine Calls.mono (JM_ v0 l0 i1 W hG.1 hG.2 hl0.1 hl0.2) ?_
 rintro e W' ⟨v,D,rfl,hp,rfl,rfl⟩
 exact⟨_,rfl,VL_ aaq_ hW' rfl K6_ resultTypes Tryz.underlying4 rfl hp⟩
def wit:Array Value:= #[.slice none 0 0, .agg (Array.replicate 32 (.int .u8 0))]
theorem KZ_ (os:Os):laidMet Tryz.prog Rows.indexFindsRow.laid ((xR_ os).forCall (fun _ _=>0) ⟨#[],wit,[]⟩).memory:=
 laidMet_of_run' 8 (by kernel_rfl) (by kernel_rfl)
theorem alC_ (os:Os) {H:Type} (enc:TypeId×Value→H): ∃places,DataW.whole enc Tryz.prog ((xR_ os).forCall (fun _ _=>0) ⟨#[],wit,[]⟩).memory Tryz.f11.params.toList Rows.indexFindsSpec.vars false wit.toList 8=some ([.nil, .agg (List.replicate 32 (.lit (.int .u8 0)))],[],places):=
 ⟨[],by kernel_rfl⟩
theorem aif_ (os:Os) (started:os.Started) (H:Type) (enc:TypeId×Value→H) (F:Stop.Interp):
  ReturnsInHanded {} Tryz.checked os 11 .any ((OpenSpec.ofChange Rows.indexFindsSpec).preRow enc Tryz.prog Tryz.f11 Rows.indexFindsRow.domain false Rows.indexFindsRow.laid) (((OpenSpec.ofChange Rows.indexFindsSpec).at F).post enc Tryz.prog Tryz.f11 false true false false):=by
 obtain⟨places,hx⟩:=alC_ os enc
 refine returnsInHanded_of_row (C:=Tryz.checked) (s:=OpenSpec.ofChange Rows.indexFindsSpec) own started (by kernel_rfl) Tryz.func11
  (witness_row_at (enc:=enc) (C:=Tryz.checked) false (xR_ os) wit rfl (by kernel_rfl) (by kernel_rfl) (by kernel_rfl)
   (OpenSpec.preRow_of_cond 8 hx (by kernel_rfl) (fun k hk=>by cases hk) (by kernel_rfl) (KZ_ os))) ?_
 intro W base args ds gs before hval hW _ _ _ hL _ _
 exact K8_ H enc W base args ds gs before hval hW hL
theorem said:Rows.IndexFindsSaid:=
 OpenClaim.holds_of_cond 11 Tryz.f11 rfl rfl rfl rfl rfl rfl rfl ⟨rfl,rfl,rfl,rfl,rfl⟩ rfl rfl rfl rfl rfl (by kernel_rfl) Tryz.func11 (by kernel_rfl)
  (of_decide_eq_true (by kernel_rfl)) (by unfold Func.isWrapper;first| (rw[if_pos (by decide+kernel)];kernel_rfl) | (rw[if_neg (by decide+kernel)];exact⟨rfl,rfl⟩))
  (fun os started H enc _ F=>by rw[OpenClaim.pre_eq_preRow];exact aif_ os started H enc F)
theorem plain (f:FuncId) (fn:Func) (hf:Tryz.pinned.checked.prog.funcNamed "sediment/sedimentlaw11.IndexFinds" =some f) (hfn:Tryz.pinned.checked.prog.funcs[f]? =some fn):
  false=Tryz.pinned.checked.prog.looks []∧ ∀ (j:Nat) t,fn.params[j]? =some t→Tryz.pinned.checked.prog.wantsStandIn t=false:=by
 obtain rfl:f=11:=Option.some.inj ((show Tryz.prog.funcNamed "sediment/sedimentlaw11.IndexFinds" =some 11 by kernel_rfl).symm.trans hf) |>.symm
 obtain rfl:fn=Tryz.f11:=(Option.some.inj (Tryz.func11.symm.trans hfn)).symm
 refine⟨by kernel_rfl,fun j t ht=> ?_⟩
 rw[Tryz.params11] at ht
 have hm:t=22∨t=37:=by
  have:=Array.mem_of_getElem? ht
  simpa using this
 rcases hm with rfl|rfl
 ·exact(show Tryz.prog.wantsStandIn 22=false by kernel_rfl)
 ·exact(show Tryz.prog.wantsStandIn 37=false by kernel_rfl)
theorem card:Rows.IndexFindsCardSaid:=
 Claim7.holds_tied_plain_at .later [] _ _ _ _ said (fun _ h=>by cases h) (by kernel_rfl) (fun _ h=>by cases h) indexFinds_row_tie rfl ⟨rfl,rfl⟩ (by kernel_rfl) rfl plain (by kernel_rfl)
end Go.Proofs.YtooklcgflocbcaaGreatDoor.indexFinds
