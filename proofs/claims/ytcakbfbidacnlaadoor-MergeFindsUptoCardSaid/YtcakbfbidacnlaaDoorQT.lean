/-
  The law answers true for every input, and its arguments read as they did.
  No conditions.
-/
import Derived.Test.YtcakbfbidacnlaaDoorF3
import Derived.Test.YtcakbfbidacnlaaDoorRows
import Derived.Test.YtcakbfbidacnlaaDoorCards
import Derived.Test.YtcakbfbidacnlaaDoorTie
import Derived.Deep.DeepHandedRow
namespace Go.Proofs.YtcakbfbidacnlaaDoor.mergeFinds
open Go Go.Proofs Go.Sx
open Go.ChangeShapes Go.WideShapes Go.ChangeAt Go.RowKit Go.ChangeMaps
set_option maxRecDepth 100000
theorem ZM_ {H:Type}: ∀a b:List (DataW H),Rows.uptoBulkAll (a++b)=Rows.uptoBulkAll a+Rows.uptoBulkAll b
 | [],b=>by simp[Rows.uptoBulkAll]
 |d::a,b=>by
  rw[List.cons_append,Rows.uptoBulkAll,Rows.uptoBulkAll,ZM_ a b]
  omega
theorem abp_ {H:Type} {d:DataW H}: ∀ {l:List (DataW H)},d∈l→Rows.uptoBulk d≤Rows.uptoBulkAll l
 |e::r,h=>by
  rw[Rows.uptoBulkAll]
  rcases List.mem_cons.1 h with rfl|h
  ·omega
  ·have:=abp_ h
   omega
theorem own:ownKnob Tryd.prog.godebug=none:=by kernel_rfl
theorem aiU_:laidOutB Tryd.prog=true:=by kernel_rfl
def hvZ:List Int:=hvL.map fun x=>(x.toNat:Int)
theorem agE_ {H:Type}: (Rows.laid_sediment_crc_halves:DataW H)=Lib.tabData .u32 hvZ:=by rfl
theorem ajc_:Tryd.prog.cellsOf 152=16:=by kernel_rfl
theorem aj7_:Tryd.prog.cellsOf 121=1:=by kernel_rfl
theorem glob {W:World} (h:laidMet Tryd.prog [("sediment/crc.halves",Rows.laid_sediment_crc_halves)] W):GlobC W:=by
 obtain⟨ps,hv,-⟩:=h
 obtain⟨e0,f0,h0⟩:=WV_ (P:=Tryd.prog) (g:=1) (by kernel_rfl) (QD_ (P:=Tryd.prog) (name:= "sediment/crc.halves") (k:= .u32) (zs:=hvZ) (t:=152) (e:=121) (n:=16) (g:=1) (by kernel_rfl) (by kernel_rfl) Tryd.underlying152 Tryd.underlying121 aj7_ ajc_ hv (by rw[←agE_];exact .head _))
 refine⟨e0,f0, ?_⟩
 rw[h0,hvZ,List.map_map];rfl
def akf_ (a:Array Value):Obj→Obj
 | .cells _ t frozen=> .cells a t frozen
 |o=>o
noncomputable def Z5_ (os:Os):World:=
 {World.holding Tryd.prog os ⟨#[], #[],[]⟩ with heap:=((World.holding Tryd.prog os ⟨#[], #[],[]⟩).heap.modify 1 (akf_ (a32 hvL)))}
theorem agQ_: ∀t∈Tryd.f4.params.toList,Tryd.prog.readableRec t=true∧t<Tryd.prog.types.size:=by
 intro t ht
 have hm:t=22∨t=31:=by
  rw[Tryd.params4] at ht
  first|simpa using ht| (simp at ht;rcases ht with h|h|h<;>simp[h])
 rcases hm with rfl|rfl
 ·exact⟨by kernel_rfl,of_decide_eq_true (by kernel_rfl)⟩
 ·exact⟨by kernel_rfl,of_decide_eq_true (by kernel_rfl)⟩
theorem resultTypes:Tryd.f4.resultTypes= #[4]:=by kernel_rfl
theorem afY_ (H:Type) (enc:TypeId×Value→H) (W:World) (base:Nat) (args:Array Value) (ds gs:List (DataW H)) (before:List MemPlace)
  (hval: ∀ (j:Nat) t v,Tryd.f4.params[j]? =some t→args[j]? =some v→Value.okWide Tryd.prog W .any base t v)
  (hW:DataW.Whole enc Tryd.prog Tryd.f4.params.toList Rows.mergeFindsSpec.vars false W args.toList ds gs before) (hK: ∀k,(Rows.OpenSpec.upto Rows.mergeFindsSpec).cond=some k→k H (ds++gs)=true) (hL:laidMetH Tryd.prog Rows.mergeFindsUptoRow.laid W):
  Calls Tryd.prog 4 args W fun e W'=> ∃v,e= .returned v∧Rows.mergeFindsSpec.post enc Tryd.prog Tryd.f4 false true false false W args v W':=by
 have hW':=hW
 obtain⟨p,q,hA0,hV,rfl,hfz,hnd⟩:=hW
 have hA:DataW.TrodAll enc Tryd.prog W 0 (fun _=>true) true Tryd.f4.params.toList args.toList ds p:=hA0
 rw[Tryd.params4] at hA hval
 obtain⟨v0,vs0,d0,ds0,p0,q0,hargs,rfl,rfl,h0,r0⟩:=trodAll_cons hA
 obtain⟨v1,vs1,d1,ds1,p1,q1,rfl,rfl,rfl,h1,r1⟩:=trodAll_cons r0
 obtain⟨rfl,rfl,rfl⟩:=trodAll_nil r1
 obtain rfl:args= #[v0,v1]:=by cases args;simp_all
 obtain⟨l0,hl0,hr0⟩:=KZ_ (hval 0 22 v0 rfl rfl) h0
 obtain⟨l1,hl1⟩:=ago_ (hval 1 31 v1 rfl rfl) h1
 have hG:=glob hL
 have hB:Rows.uptoBulkAll ([d0,d1]++gs)≤1048576:=of_decide_eq_true (hK _ rfl)
 rw[ZM_] at hB
 have hx:BndS l0:=by
  rcases hr0 with rfl| ⟨es,sp',rfl,hes⟩
  ·intro s hs;cases hs
  ·intro s hs
   obtain⟨g,hg,rfl⟩:=List.getElem_of_mem hs
   obtain⟨e,he,rfl⟩:=hes g hg
   have h1:=abp_ he
   rw[show l0.getD g sh0=l0[g] from by rw[List.getD_eq_getElem?_getD,List.getElem?_eq_getElem hg];rfl] at h1
   simp only[Rows.uptoBulk,Rows.uptoBulkAll] at h1 hB
   omega
 refine Calls.mono (Qp_ v0 l0 v1 l1 W hG hl0 hl1 hx) ?_
 rintro e W' ⟨v,D,rfl,hp,rfl,rfl⟩
 exact⟨_,rfl,aeA_ aiU_ hW' rfl agQ_ resultTypes Tryd.underlying4 rfl hp⟩
def wit:Array Value:= #[.slice none 0 0, .slice none 0 0]
theorem agq_ (os:Os):laidMet Tryd.prog Rows.mergeFindsUptoRow.laid ((Z5_ os).forCall (fun _ _=>0) ⟨#[],wit,[]⟩).memory:=
 laidMet_of_run' 8 (by kernel_rfl) (by kernel_rfl)
theorem alq_ (os:Os) {H:Type} (enc:TypeId×Value→H): ∃places,DataW.whole enc Tryd.prog ((Z5_ os).forCall (fun _ _=>0) ⟨#[],wit,[]⟩).memory Tryd.f4.params.toList Rows.mergeFindsSpec.vars false wit.toList 8=some ([.nil, .nil],[],places):=
 ⟨[],by kernel_rfl⟩
theorem aky_ (os:Os) (started:os.Started) (H:Type) (enc:TypeId×Value→H) (F:Stop.Interp):
  ReturnsInHanded {} Tryd.checked os 4 .any ((Rows.OpenSpec.upto Rows.mergeFindsSpec).preRow enc Tryd.prog Tryd.f4 Rows.mergeFindsUptoRow.domain false Rows.mergeFindsUptoRow.laid) (((Rows.OpenSpec.upto Rows.mergeFindsSpec).at F).post enc Tryd.prog Tryd.f4 false true false false):=by
 obtain⟨places,hx⟩:=alq_ os enc
 refine returnsInHanded_of_row (C:=Tryd.checked) (s:=Rows.OpenSpec.upto Rows.mergeFindsSpec) own started (by kernel_rfl) Tryd.func4
  (witness_row_at (enc:=enc) (C:=Tryd.checked) false (Z5_ os) wit rfl (by kernel_rfl) (by kernel_rfl) (by kernel_rfl)
   (OpenSpec.preRow_of_cond 8 hx (by kernel_rfl) (fun k hk=>by cases hk;kernel_rfl) (by kernel_rfl) (agq_ os))) ?_
 intro W base args ds gs before hval hW _ hK _ hL _ _
 exact afY_ H enc W base args ds gs before hval hW hK hL
theorem said:Rows.MergeFindsUptoSaid:=
 OpenClaim.holds_of_cond 4 Tryd.f4 rfl rfl rfl rfl rfl rfl rfl ⟨rfl,rfl,rfl,rfl,rfl⟩ rfl rfl rfl rfl rfl (by kernel_rfl) Tryd.func4 (by kernel_rfl)
  (of_decide_eq_true (by kernel_rfl)) (by unfold Func.isWrapper;first| (rw[if_pos (by decide+kernel)];kernel_rfl) | (rw[if_neg (by decide+kernel)];exact⟨rfl,rfl⟩))
  (fun os started H enc _ F=>by rw[OpenClaim.pre_eq_preRow];exact aky_ os started H enc F)
theorem plain (f:FuncId) (fn:Func) (hf:Tryd.pinned.checked.prog.funcNamed "sediment/sedimentlaw12.MergeFinds" =some f) (hfn:Tryd.pinned.checked.prog.funcs[f]? =some fn):
  false=Tryd.pinned.checked.prog.looks []∧ ∀ (j:Nat) t,fn.params[j]? =some t→Tryd.pinned.checked.prog.wantsStandIn t=false:=by
 obtain rfl:f=4:=Option.some.inj ((show Tryd.prog.funcNamed "sediment/sedimentlaw12.MergeFinds" =some 4 by kernel_rfl).symm.trans hf) |>.symm
 obtain rfl:fn=Tryd.f4:=(Option.some.inj (Tryd.func4.symm.trans hfn)).symm
 refine⟨by kernel_rfl,fun j t ht=> ?_⟩
 rw[Tryd.params4] at ht
 have hm:t=22∨t=31:=by
  have ht:=Array.mem_of_getElem? ht
  first|simpa using ht| (simp at ht;rcases ht with h|h|h<;>simp[h])
 rcases hm with rfl|rfl
 ·exact(show Tryd.prog.wantsStandIn 22=false by kernel_rfl)
 ·exact(show Tryd.prog.wantsStandIn 31=false by kernel_rfl)
theorem card:Rows.MergeFindsUptoCardSaid:=
 Claim7.holds_tied_plain_at .later [] _ _ _ _ said (fun _ h=>by cases h) (by kernel_rfl) (fun _ h=>by cases h) mergeFindsUpto_row_tie rfl ⟨rfl,rfl⟩ (by kernel_rfl) rfl plain (by kernel_rfl)
end Go.Proofs.YtcakbfbidacnlaaDoor.mergeFinds
