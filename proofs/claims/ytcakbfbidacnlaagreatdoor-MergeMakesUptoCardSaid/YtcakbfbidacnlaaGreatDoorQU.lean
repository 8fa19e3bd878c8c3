/-
  The law answers true for every input, and its arguments read as they did.
  No conditions.
-/
import Derived.Test.YtcakbfbidacnlaaGreatDoorG4
import Derived.Test.YtcakbfbidacnlaaGreatDoorRows
import Derived.Test.YtcakbfbidacnlaaGreatDoorCards
import Derived.Test.YtcakbfbidacnlaaGreatDoorTie
import Derived.Deep.DeepHandedRow
namespace Go.Proofs.YtcakbfbidacnlaaGreatDoor.mergeMakes
open Go Go.Proofs Go.Sx
open Go.ChangeShapes Go.WideShapes Go.ChangeAt Go.RowKit Go.ChangeMaps
set_option maxRecDepth 100000
theorem Jp_ {H:Type}: ∀a b:List (DataW H),Rows.uptoBulkAll (a++b)=Rows.uptoBulkAll a+Rows.uptoBulkAll b
 | [],b=>by simp[Rows.uptoBulkAll]
 |d::a,b=>by
  rw[List.cons_append,Rows.uptoBulkAll,Rows.uptoBulkAll,Jp_ a b]
  omega
theorem acR_ {H:Type} {d:DataW H}: ∀ {l:List (DataW H)},d∈l→Rows.uptoBulk d≤Rows.uptoBulkAll l
 |e::r,h=>by
  rw[Rows.uptoBulkAll]
  rcases List.mem_cons.1 h with rfl|h
  ·omega
  ·have:=acR_ h
   omega
theorem own:ownKnob Tryz.prog.godebug=none:=by kernel_rfl
theorem acF_:laidOutB Tryz.prog=true:=by kernel_rfl
def hvZ:List Int:=hvL.map fun x=>(x.toNat:Int)
theorem KR_ {H:Type}: (Rows.laid_sediment_crc_halves:DataW H)=Lib.tabData .u32 hvZ:=by rfl
theorem ab5_:Tryz.prog.cellsOf 313=16:=by kernel_rfl
theorem agp_:Tryz.prog.cellsOf 218=1:=by kernel_rfl
theorem glob {W:World} (h:laidMet Tryz.prog [("sediment/crc.halves",Rows.laid_sediment_crc_halves)] W):GlobC W:=by
 obtain⟨ps,hv,-⟩:=h
 obtain⟨e0,f0,h0⟩:=Jh_ (P:=Tryz.prog) (g:=2) (by kernel_rfl) (wJ_ (P:=Tryz.prog) (name:= "sediment/crc.halves") (k:= .u32) (zs:=hvZ) (t:=313) (e:=218) (n:=16) (g:=2) (by kernel_rfl) (by kernel_rfl) Tryz.underlying313 Tryz.underlying218 agp_ ab5_ hv (by rw[←KR_];exact .head _))
 refine⟨e0,f0, ?_⟩
 rw[h0,hvZ,List.map_map];rfl
def ahs_ (a:Array Value):Obj→Obj
 | .cells _ t frozen=> .cells a t frozen
 |o=>o
noncomputable def x5_ (os:Os):World:=
 {World.holding Tryz.prog os ⟨#[], #[],[]⟩ with heap:=((World.holding Tryz.prog os ⟨#[], #[],[]⟩).heap.modify 2 (ahs_ (a32 hvL)))}
theorem Vf_: ∀t∈Tryz.f7.params.toList,Tryz.prog.readableRec t=true∧t<Tryz.prog.types.size:=by
 intro t ht
 have hm:t=65:=by
  rw[Tryz.params7] at ht
  simpa using ht
 subst hm
 exact⟨by kernel_rfl,of_decide_eq_true (by kernel_rfl)⟩
theorem resultTypes:Tryz.f7.resultTypes= #[4]:=by kernel_rfl
theorem Vs_ (H:Type) (enc:TypeId×Value→H) (W:World) (base:Nat) (args:Array Value) (ds gs:List (DataW H)) (before:List MemPlace)
  (hval: ∀ (j:Nat) t v,Tryz.f7.params[j]? =some t→args[j]? =some v→Value.okWide Tryz.prog W .any base t v)
  (hW:DataW.Whole enc Tryz.prog Tryz.f7.params.toList Rows.mergeMakesSpec.vars false W args.toList ds gs before) (hK: ∀k,(Rows.OpenSpec.upto Rows.mergeMakesSpec).cond=some k→k H (ds++gs)=true) (hL:laidMetH Tryz.prog Rows.mergeMakesUptoRow.laid W):
  Calls Tryz.prog 7 args W fun e W'=> ∃v,e= .returned v∧Rows.mergeMakesSpec.post enc Tryz.prog Tryz.f7 false true false false W args v W':=by
 have hW':=hW
 obtain⟨p,q,hA0,hV,rfl,hfz,hnd⟩:=hW
 have hA:DataW.TrodAll enc Tryz.prog W 0 (fun _=>true) true Tryz.f7.params.toList args.toList ds p:=hA0
 rw[Tryz.params7] at hA hval
 obtain⟨v0,vs0,d0,ds0,p0,q0,hargs,rfl,rfl,h0,r0⟩:=trodAll_cons hA
 obtain⟨rfl,rfl,rfl⟩:=trodAll_nil r0
 obtain rfl:args= #[v0]:=by cases args;simp_all
 obtain⟨l0,hl0,hr0⟩:=W9_ (hval 0 65 v0 rfl rfl) h0
 have hG:=glob hL
 have hB:Rows.uptoBulkAll ([d0]++gs)≤1048576:=of_decide_eq_true (hK _ rfl)
 rw[Jp_] at hB
 have hx:BndS l0:=by
  rcases hr0 with rfl| ⟨es,sp',rfl,hes⟩
  ·intro s hs;cases hs
  ·intro s hs
   obtain⟨g,hg,rfl⟩:=List.getElem_of_mem hs
   obtain⟨e,he,rfl⟩:=hes g hg
   have h1:=acR_ he
   rw[show l0.getD g sh0=l0[g] from by rw[List.getD_eq_getElem?_getD,List.getElem?_eq_getElem hg];rfl] at h1
   simp only[Rows.uptoBulk,Rows.uptoBulkAll] at h1 hB
   omega
 refine Calls.mono (QS_ v0 l0 W hG hl0 hx) ?_
 rintro e W' ⟨v,D,rfl,hp,rfl,rfl⟩
 exact⟨_,rfl,WI_ acF_ hW' rfl Vf_ resultTypes Tryz.underlying4 rfl hp⟩
def wit:Array Value:= #[.slice none 0 0]
theorem K6_ (os:Os):laidMet Tryz.prog Rows.mergeMakesUptoRow.laid ((x5_ os).forCall (fun _ _=>0) ⟨#[],wit,[]⟩).memory:=
 laidMet_of_run' 8 (by kernel_rfl) (by kernel_rfl)
theorem all_ (os:Os) {H:Type} (enc:TypeId×Value→H): ∃places,DataW.whole enc Tryz.prog ((x5_ os).forCall (fun _ _=>0) ⟨#[],wit,[]⟩).memory Tryz.f7.params.toList Rows.mergeMakesSpec.vars false wit.toList 8=some ([.nil],[],places):=
 ⟨[],by kernel_rfl⟩
theorem ae0_ (os:Os) (started:os.Started) (H:Type) (enc:TypeId×Value→H) (F:Stop.Interp):
  ReturnsInHanded {} Tryz.checked os 7 .any ((Rows.OpenSpec.upto Rows.mergeMakesSpec).preRow enc Tryz.prog Tryz.f7 Rows.mergeMakesUptoRow.domain false Rows.mergeMakesUptoRow.laid) (((Rows.OpenSpec.upto Rows.mergeMakesSpec).at F).post enc Tryz.prog Tryz.f7 false true false false):=by
 obtain⟨places,hx⟩:=all_ os enc
 refine returnsInHanded_of_row (C:=Tryz.checked) (s:=Rows.OpenSpec.upto Rows.mergeMakesSpec) own started (by kernel_rfl) Tryz.func7
  (witness_row_at (enc:=enc) (C:=Tryz.checked) false (x5_ os) wit rfl (by kernel_rfl) (by kernel_rfl) (by kernel_rfl)
   (OpenSpec.preRow_of_cond 8 hx (by kernel_rfl) (fun k hk=>by cases hk;kernel_rfl) (by kernel_rfl) (K6_ os))) ?_
 intro W base args ds gs before hval hW _ hK _ hL _ _
 exact Vs_ H enc W base args ds gs before hval hW hK hL
theorem said:Rows.MergeMakesUptoSaid:=
 OpenClaim.holds_of_cond 7 Tryz.f7 rfl rfl rfl rfl rfl rfl rfl ⟨rfl,rfl,rfl,rfl,rfl⟩ rfl rfl rfl rfl rfl (by kernel_rfl) Tryz.func7 (by kernel_rfl)
  (of_decide_eq_true (by kernel_rfl)) (by unfold Func.isWrapper;first| (rw[if_pos (by decide+kernel)];kernel_rfl) | (rw[if_neg (by decide+kernel)];exact⟨rfl,rfl⟩))
  (fun os started H enc _ F=>by rw[OpenClaim.pre_eq_preRow];exact ae0_ os started H enc F)
theorem plain (f:FuncId) (fn:Func) (hf:Tryz.pinned.checked.prog.funcNamed "sediment/sedimentlaw12.MergeMakes" =some f) (hfn:Tryz.pinned.checked.prog.funcs[f]? =some fn):
  true=Tryz.pinned.checked.prog.looks []∧ ∀ (j:Nat) t,fn.params[j]? =some t→Tryz.pinned.checked.prog.wantsStandIn t=false:=by
 obtain rfl:f=7:=Option.some.inj ((show Tryz.prog.funcNamed "sediment/sedimentlaw12.MergeMakes" =some 7 by kernel_rfl).symm.trans hf) |>.symm
 obtain rfl:fn=Tryz.f7:=(Option.some.inj (Tryz.func7.symm.trans hfn)).symm
 refine⟨by kernel_rfl,fun j t ht=> ?_⟩
 rw[Tryz.params7] at ht
 have hm:t=65:=by
  have ht:=Array.mem_of_getElem? ht
  simpa using ht
 subst hm
 exact(show Tryz.prog.wantsStandIn 65=false by kernel_rfl)
theorem card:Rows.MergeMakesUptoCardSaid:=
 Claim7.holds_tied_plain_at .later [] _ _ _ _ said (fun _ h=>by cases h) (by kernel_rfl) (fun _ h=>by cases h) mergeMakesUpto_row_tie rfl ⟨rfl,rfl⟩ (by kernel_rfl) rfl plain (by kernel_rfl)
end Go.Proofs.YtcakbfbidacnlaaGreatDoor.mergeMakes
