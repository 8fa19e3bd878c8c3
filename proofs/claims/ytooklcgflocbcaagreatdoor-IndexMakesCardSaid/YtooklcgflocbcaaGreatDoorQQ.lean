/-
  The law answers true for every input, and its arguments read as they did.
  No conditions.
-/
import Derived.Test.YtooklcgflocbcaaGreatDoorL4
import Derived.Test.YtooklcgflocbcaaGreatDoorRows
import Derived.Test.YtooklcgflocbcaaGreatDoorCards
import Derived.Test.YtooklcgflocbcaaGreatDoorTie
import Derived.Deep.DeepHandedRow
namespace Go.Proofs.YtooklcgflocbcaaGreatDoor.indexMakes
open Go Go.Proofs Go.Sx Go.Dig
open Go.ChangeShapes Go.WideShapes Go.ChangeAt Go.RowKit Go.ChangeMaps
set_option maxRecDepth 100000
theorem own:ownKnob Tryz.prog.godebug=none:=by kernel_rfl
theorem api_:laidOutB Tryz.prog=true:=by kernel_rfl
def kZ:List Int:=kL.map fun x=>(x.toNat:Int)
def app_:List Int:=initL.map fun x=>(x.toNat:Int)
def hvZ:List Int:=hvL.map fun x=>(x.toNat:Int)
theorem al0_ {H:Type}: (Rows.laid_sediment_digest_rounds:DataW H)=Lib.tabData .u32 kZ:=by rfl
theorem apb_ {H:Type}: (Rows.laid_sediment_digest_first:DataW H)=Lib.tabData .u32 app_:=by rfl
theorem ank_ {H:Type}: (Rows.laid_sediment_crc_halves:DataW H)=Lib.tabData .u32 hvZ:=by rfl
theorem aqd_:Tryz.prog.cellsOf 244=8:=by kernel_rfl
theorem ao2_:Tryz.prog.cellsOf 274=64:=by kernel_rfl
theorem aoL_:Tryz.prog.cellsOf 297=16:=by kernel_rfl
theorem ade_:Tryz.prog.cellsOf 202=1:=by kernel_rfl
theorem glob {W:World} (h:laidMet Tryz.prog [("sediment/crc.halves",Rows.laid_sediment_crc_halves),("sediment/digest.rounds",Rows.laid_sediment_digest_rounds),("sediment/digest.first",Rows.laid_sediment_digest_first)] W):GlobE W∧GlobC W:=by
 obtain⟨ps,hv,-⟩:=h
 obtain⟨e0,f0,h0⟩:=ZP_ (P:=Tryz.prog) (g:=2) (by kernel_rfl) (vK_ (P:=Tryz.prog) (name:= "sediment/digest.first") (k:= .u32) (zs:=app_) (t:=244) (e:=202) (n:=8) (g:=2) (by kernel_rfl) (by kernel_rfl) Tryz.underlying244 Tryz.underlying202 ade_ aqd_ hv (by rw[←apb_];exact .tail _ (.tail _ (.head _))))
 obtain⟨e1,f1,h1⟩:=ZP_ (P:=Tryz.prog) (g:=3) (by kernel_rfl) (vK_ (P:=Tryz.prog) (name:= "sediment/digest.rounds") (k:= .u32) (zs:=kZ) (t:=274) (e:=202) (n:=64) (g:=3) (by kernel_rfl) (by kernel_rfl) Tryz.underlying274 Tryz.underlying202 ade_ ao2_ hv (by rw[←al0_];exact .tail _ (.head _)))
 obtain⟨e2,f2,h2⟩:=ZP_ (P:=Tryz.prog) (g:=1) (by kernel_rfl) (vK_ (P:=Tryz.prog) (name:= "sediment/crc.halves") (k:= .u32) (zs:=hvZ) (t:=297) (e:=202) (n:=16) (g:=1) (by kernel_rfl) (by kernel_rfl) Tryz.underlying297 Tryz.underlying202 ade_ aoL_ hv (by rw[←ank_];exact .head _))
 refine⟨⟨e0,e1,f0,f1, ?_, ?_⟩,e2,f2, ?_⟩
 ·rw[h0,app_,List.map_map];rfl
 ·rw[h1,kZ,List.map_map];rfl
 ·rw[h2,hvZ,List.map_map];rfl
def akK_ (a:Array Value):Obj→Obj
 | .cells _ t frozen=> .cells a t frozen
 |o=>o
noncomputable def Kr_ (os:Os):World:=
 {World.holding Tryz.prog os ⟨#[], #[],[]⟩ with heap:=(((World.holding Tryz.prog os ⟨#[], #[],[]⟩).heap.modify 2 (akK_ (a32 initL))).modify 3 (akK_ (a32 kL))).modify 1 (akK_ (a32 hvL))}
theorem alu_: ∀t∈Tryz.f8.params.toList,Tryz.prog.readableRec t=true∧t<Tryz.prog.types.size:=by
 intro t ht
 have hm:t=9:=by
  rw[Tryz.params8] at ht
  first|simpa using ht| (simp at ht;rcases ht with h|h|h<;>simp[h])
 subst hm
 exact⟨by kernel_rfl,of_decide_eq_true (by kernel_rfl)⟩
theorem resultTypes:Tryz.f8.resultTypes= #[4]:=by kernel_rfl
theorem amX_ (H:Type) (enc:TypeId×Value→H) (W:World) (base:Nat) (args:Array Value) (ds gs:List (DataW H)) (before:List MemPlace)
  (hval: ∀ (j:Nat) t v,Tryz.f8.params[j]? =some t→args[j]? =some v→Value.okWide Tryz.prog W .any base t v)
  (hW:DataW.Whole enc Tryz.prog Tryz.f8.params.toList Rows.indexMakesSpec.vars false W args.toList ds gs before) (hL:laidMetH Tryz.prog Rows.indexMakesRow.laid W):
  Calls Tryz.prog 8 args W fun e W'=> ∃v,e= .returned v∧Rows.indexMakesSpec.post enc Tryz.prog Tryz.f8 false true false false W args v W':=by
 have hW':=hW
 obtain⟨p,q,hA0,hV,rfl,hfz,hnd⟩:=hW
 have hA:DataW.TrodAll enc Tryz.prog W 0 (fun _=>true) true Tryz.f8.params.toList args.toList ds p:=hA0
 rw[Tryz.params8] at hA hval
 obtain⟨v0,vs0,d0,ds0,p0,q0,hargs,rfl,rfl,h0,r0⟩:=trodAll_cons hA
 obtain⟨rfl,rfl,rfl⟩:=trodAll_nil r0
 obtain rfl:args= #[v0]:=by cases args;simp_all
 obtain⟨s0,rfl,rfl,rfl,hs0⟩:=open_string Tryz.underlying9 (hval 0 9 v0 rfl rfl) h0
 have hG:=glob hL
 refine Calls.mono (X1_ s0.data.toList W hG.1 hG.2) ?_
 rintro e W' ⟨v,D,rfl,hp,rfl,rfl⟩
 exact⟨_,rfl,ajd_ api_ hW' rfl alu_ resultTypes Tryz.underlying4 rfl hp⟩
def wit:Array Value:= #[.string ByteArray.empty]
theorem amd_ (os:Os):laidMet Tryz.prog Rows.indexMakesRow.laid ((Kr_ os).forCall (fun _ _=>0) ⟨#[],wit,[]⟩).memory:=
 laidMet_of_run' 8 (by kernel_rfl) (by kernel_rfl)
theorem arv_ (os:Os) {H:Type} (enc:TypeId×Value→H): ∃places,DataW.whole enc Tryz.prog ((Kr_ os).forCall (fun _ _=>0) ⟨#[],wit,[]⟩).memory Tryz.f8.params.toList Rows.indexMakesSpec.vars false wit.toList 8=some ([.lit (.string [])],[],places):=
 ⟨[],by kernel_rfl⟩
theorem apM_ (os:Os) (started:os.Started) (H:Type) (enc:TypeId×Value→H) (F:Stop.Interp):
  ReturnsInHanded {} Tryz.checked os 8 .any ((OpenSpec.ofChange Rows.indexMakesSpec).preRow enc Tryz.prog Tryz.f8 Rows.indexMakesRow.domain false Rows.indexMakesRow.laid) (((OpenSpec.ofChange Rows.indexMakesSpec).at F).post enc Tryz.prog Tryz.f8 false true false false):=by
 obtain⟨places,hx⟩:=arv_ os enc
 refine returnsInHanded_of_row (C:=Tryz.checked) (s:=OpenSpec.ofChange Rows.indexMakesSpec) own started (by kernel_rfl) Tryz.func8
  (witness_row_at (enc:=enc) (C:=Tryz.checked) false (Kr_ os) wit rfl (by kernel_rfl) (by kernel_rfl) (by kernel_rfl)
   (OpenSpec.preRow_of_cond 8 hx (by kernel_rfl) (fun k hk=>by cases hk) (by kernel_rfl) (amd_ os))) ?_
 intro W base args ds gs before hval hW _ _ _ hL _ _
 exact amX_ H enc W base args ds gs before hval hW hL
theorem said:Rows.IndexMakesSaid:=
 OpenClaim.holds_of_cond 8 Tryz.f8 rfl rfl rfl rfl rfl rfl rfl ⟨rfl,rfl,rfl,rfl,rfl⟩ rfl rfl rfl rfl rfl (by kernel_rfl) Tryz.func8 (by kernel_rfl)
  (of_decide_eq_true (by kernel_rfl)) (by unfold Func.isWrapper;first| (rw[if_pos (by decide+kernel)];kernel_rfl) | (rw[if_neg (by decide+kernel)];exact⟨rfl,rfl⟩))
  (fun os started H enc _ F=>by rw[OpenClaim.pre_eq_preRow];exact apM_ os started H enc F)
theorem plain (f:FuncId) (fn:Func) (hf:Tryz.pinned.checked.prog.funcNamed "sediment/sedimentlaw11.IndexMakes" =some f) (hfn:Tryz.pinned.checked.prog.funcs[f]? =some fn):
  false=Tryz.pinned.checked.prog.looks []∧ ∀ (j:Nat) t,fn.params[j]? =some t→Tryz.pinned.checked.prog.wantsStandIn t=false:=by
 obtain rfl:f=8:=Option.some.inj ((show Tryz.prog.funcNamed "sediment/sedimentlaw11.IndexMakes" =some 8 by kernel_rfl).symm.trans hf) |>.symm
 obtain rfl:fn=Tryz.f8:=(Option.some.inj (Tryz.func8.symm.trans hfn)).symm
 refine⟨by kernel_rfl,fun j t ht=> ?_⟩
 rw[Tryz.params8] at ht
 have hm:t=9:=by
  have ht:=Array.mem_of_getElem? ht
  first|simpa using ht| (simp at ht;rcases ht with h|h|h<;>simp[h])
 subst hm
 exact(show Tryz.prog.wantsStandIn 9=false by kernel_rfl)
theorem card:Rows.IndexMakesCardSaid:=
 Claim7.holds_tied_plain_at .later [] _ _ _ _ said (fun _ h=>by cases h) (by kernel_rfl) (fun _ h=>by cases h) indexMakes_row_tie rfl ⟨rfl,rfl⟩ (by kernel_rfl) rfl plain (by kernel_rfl)
end Go.Proofs.YtooklcgflocbcaaGreatDoor.indexMakes
