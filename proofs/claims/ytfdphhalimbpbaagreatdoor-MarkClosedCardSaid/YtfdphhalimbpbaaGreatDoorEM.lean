/-
  The law answers true for every input, and its arguments read as they did.
  No conditions.
-/
import Derived.Test.YtfdphhalimbpbaaGreatDoorR4
import Derived.Test.YtfdphhalimbpbaaGreatDoorRows
import Derived.Test.YtfdphhalimbpbaaGreatDoorCards
import Derived.Test.YtfdphhalimbpbaaGreatDoorTie
import Derived.Deep.DeepHandedRow
namespace Go.Proofs.YtfdphhalimbpbaaGreatDoor.markClosed
open Go Go.Proofs Go.Sx Go.Dig
open Go.ChangeShapes Go.WideShapes Go.ChangeAt Go.RowKit Go.ChangeMaps
set_option maxRecDepth 100000
set_option maxHeartbeats 40000000
theorem ah5_ {H:Type} {d:DataW H}: ∀ {l:List (DataW H)},d∈l→Rows.uptoBulk d≤Rows.uptoBulkAll l
 |e::r,h=>by
  rw[Rows.uptoBulkAll]
  rcases List.mem_cons.1 h with rfl|h
  ·omega
  ·have:=ah5_ h
   omega
theorem own:ownKnob Tryz.prog.godebug=none:=by kernel_rfl
theorem akC_:laidOutB Tryz.prog=true:=by kernel_rfl
def kZ:List Int:=kL.map fun x=>(x.toNat:Int)
def akX_:List Int:=initL.map fun x=>(x.toNat:Int)
theorem ahy_ {H:Type}: (Rows.laid_sediment_digest_rounds:DataW H)=Lib.tabData .u32 kZ:=by rfl
theorem akx_ {H:Type}: (Rows.laid_sediment_digest_first:DataW H)=Lib.tabData .u32 akX_:=by rfl
theorem alE_:Tryz.prog.cellsOf 251=8:=by kernel_rfl
theorem ak3_:Tryz.prog.cellsOf 307=64:=by kernel_rfl
theorem agI_:Tryz.prog.cellsOf 250=1:=by kernel_rfl
theorem glob {W:World} (h:laidMet Tryz.prog [("sediment/digest.rounds",Rows.laid_sediment_digest_rounds),("sediment/digest.first",Rows.laid_sediment_digest_first)] W):GlobE W:=by
 obtain⟨ps,hv,-⟩:=h
 obtain⟨e0,f0,h0⟩:=Qp_ (P:=Tryz.prog) (g:=2) (by kernel_rfl) (v9_ (P:=Tryz.prog) (name:= "sediment/digest.first") (k:= .u32) (zs:=akX_) (t:=251) (e:=250) (n:=8) (g:=2) (by kernel_rfl) (by kernel_rfl) Tryz.underlying251 Tryz.underlying250 agI_ alE_ hv (by rw[←akx_];exact .tail _ (.head _)))
 obtain⟨e1,f1,h1⟩:=Qp_ (P:=Tryz.prog) (g:=3) (by kernel_rfl) (v9_ (P:=Tryz.prog) (name:= "sediment/digest.rounds") (k:= .u32) (zs:=kZ) (t:=307) (e:=250) (n:=64) (g:=3) (by kernel_rfl) (by kernel_rfl) Tryz.underlying307 Tryz.underlying250 agI_ ak3_ hv (by rw[←ahy_];exact .head _))
 refine⟨e0,e1,f0,f1, ?_, ?_⟩
 ·rw[h0,akX_,List.map_map];rfl
 ·rw[h1,kZ,List.map_map];rfl
def ajj_ (a:Array Value):Obj→Obj
 | .cells _ t frozen=> .cells a t frozen
 |o=>o
noncomputable def Qn_ (os:Os):World:=
 {World.holding Tryz.prog os ⟨#[], #[],[]⟩ with heap:=((World.holding Tryz.prog os ⟨#[], #[],[]⟩).heap.modify 2 (ajj_ (a32 initL))).modify 3 (ajj_ (a32 kL))}
theorem aik_: ∀t∈Tryz.f6.params.toList,Tryz.prog.readableRec t=true∧t<Tryz.prog.types.size:=by
 intro t ht
 have hm:t=22∨t=30:=by
  rw[Tryz.params6] at ht
  first|simpa using ht| (simp at ht;rcases ht with h|h|h<;>simp[h])
 rcases hm with rfl|rfl
 ·exact⟨by kernel_rfl,of_decide_eq_true (by kernel_rfl)⟩
 ·exact⟨by kernel_rfl,of_decide_eq_true (by kernel_rfl)⟩
theorem resultTypes:Tryz.f6.resultTypes= #[4]:=by kernel_rfl
theorem ais_ (H:Type) (enc:TypeId×Value→H) (W:World) (base:Nat) (args:Array Value) (ds gs:List (DataW H)) (before:List MemPlace)
  (hval: ∀ (j:Nat) t v,Tryz.f6.params[j]? =some t→args[j]? =some v→Value.okWide Tryz.prog W .any base t v)
  (hW:DataW.Whole enc Tryz.prog Tryz.f6.params.toList Rows.markClosedSpec.vars false W args.toList ds gs before) (hL:laidMetH Tryz.prog Rows.markClosedRow.laid W):
  Calls Tryz.prog 6 args W fun e W'=> ∃v,e= .returned v∧Rows.markClosedSpec.post enc Tryz.prog Tryz.f6 false true false false W args v W':=by
 have hW':=hW
 obtain⟨p,q,hA0,hV,rfl,hfz,hnd⟩:=hW
 have hA:DataW.TrodAll enc Tryz.prog W 0 (fun _=>true) true Tryz.f6.params.toList args.toList ds p:=hA0
 rw[Tryz.params6] at hA hval
 obtain⟨v0,vs0,d0,ds0,p0,q0,hargs,rfl,rfl,h0,r0⟩:=trodAll_cons hA
 obtain⟨v1,vs1,d1,ds1,p1,q1,rfl,rfl,rfl,h1,r1⟩:=trodAll_cons r0
 obtain⟨v2,vs2,d2,ds2,p2,q2,rfl,rfl,rfl,h2,r2⟩:=trodAll_cons r1
 obtain⟨rfl,rfl,rfl⟩:=trodAll_nil r2
 obtain rfl:args= #[v0,v1,v2]:=by cases args;simp_all
 obtain⟨l0,hl0⟩:=afC_ (hval 0 22 v0 rfl rfl) h0
 obtain⟨l1,hl1⟩:=acm_ (hval 1 30 v1 rfl rfl) h1
 obtain⟨l2,hl2⟩:=acm_ (hval 2 30 v2 rfl rfl) h2
 have hG:=glob hL
 refine Calls.mono (Ql_ v0 v1 v2 l0 l1 l2 W hG hl0 hl1 hl2) ?_
 rintro e W' ⟨v,D,rfl,hp,rfl,rfl⟩
 exact⟨_,rfl,af5_ akC_ hW' rfl aik_ resultTypes Tryz.underlying4 rfl hp⟩
def wit:Array Value:= #[.slice none 0 0, .slice none 0 0, .slice none 0 0]
theorem aiH_ (os:Os):laidMet Tryz.prog Rows.markClosedRow.laid ((Qn_ os).forCall (fun _ _=>0) ⟨#[],wit,[]⟩).memory:=
 laidMet_of_run' 8 (by kernel_rfl) (by kernel_rfl)
theorem amv_ (os:Os) {H:Type} (enc:TypeId×Value→H): ∃places,DataW.whole enc Tryz.prog ((Qn_ os).forCall (fun _ _=>0) ⟨#[],wit,[]⟩).memory Tryz.f6.params.toList Rows.markClosedSpec.vars false wit.toList 8=some ([.nil, .nil, .nil],[],places):=
 ⟨[],by kernel_rfl⟩
theorem lifted (os:Os) (started:os.Started) (H:Type) (enc:TypeId×Value→H) (F:Stop.Interp):
  ReturnsInHanded {} Tryz.checked os 6 .any ((OpenSpec.ofChange Rows.markClosedSpec).preRow enc Tryz.prog Tryz.f6 Rows.markClosedRow.domain false Rows.markClosedRow.laid) (((OpenSpec.ofChange Rows.markClosedSpec).at F).post enc Tryz.prog Tryz.f6 false true false false):=by
 obtain⟨places,hx⟩:=amv_ os enc
 refine returnsInHanded_of_row (C:=Tryz.checked) (s:=OpenSpec.ofChange Rows.markClosedSpec) own started (by kernel_rfl) Tryz.func6
  (witness_row_at (enc:=enc) (C:=Tryz.checked) false (Qn_ os) wit rfl (by kernel_rfl) (by kernel_rfl) (by kernel_rfl)
   (OpenSpec.preRow_of_cond 8 hx (by kernel_rfl) (fun k hk=>by cases hk) (by kernel_rfl) (aiH_ os))) ?_
 intro W base args ds gs before hval hW _ _ _ hL _ _
 exact ais_ H enc W base args ds gs before hval hW hL
theorem alh_:joinedFacts Tryz.pinned.checked.prog 6 Tryz.f6 (OpenSpec.ofChange Rows.markClosedSpec).bare Rows.markClosedRow=true:=by
 apply ag8_<;>as_aux_lemma=>kernel_rfl
theorem said:Rows.MarkClosedSaid:=
 OpenClaim.holds_of_cond 6 Tryz.f6 rfl rfl rfl rfl rfl rfl rfl ⟨rfl,rfl,rfl,rfl,rfl⟩ rfl rfl rfl rfl rfl (by kernel_rfl) Tryz.func6 alh_
  (of_decide_eq_true (by kernel_rfl)) (by unfold Func.isWrapper;first| (rw[if_pos (by decide+kernel)];kernel_rfl) | (rw[if_neg (by decide+kernel)];exact⟨rfl,rfl⟩))
  (fun os started H enc _ F=>by rw[OpenClaim.pre_eq_preRow];exact lifted os started H enc F)
theorem plain (f:FuncId) (fn:Func) (hf:Tryz.pinned.checked.prog.funcNamed "sediment/sedimentlaw19.MarkClosed" =some f) (hfn:Tryz.pinned.checked.prog.funcs[f]? =some fn):
  true=Tryz.pinned.checked.prog.looks []∧ ∀ (j:Nat) t,fn.params[j]? =some t→Tryz.pinned.checked.prog.wantsStandIn t=false:=by
 obtain rfl:f=6:=Option.some.inj ((show Tryz.prog.funcNamed "sediment/sedimentlaw19.MarkClosed" =some 6 by kernel_rfl).symm.trans hf) |>.symm
 obtain rfl:fn=Tryz.f6:=(Option.some.inj (Tryz.func6.symm.trans hfn)).symm
 refine⟨by kernel_rfl,fun j t ht=> ?_⟩
 rw[Tryz.params6] at ht
 have hm:t=22∨t=30:=by
  have ht:=Array.mem_of_getElem? ht
  first|simpa using ht| (simp at ht;rcases ht with h|h|h<;>simp[h])
 rcases hm with rfl|rfl
 ·exact(show Tryz.prog.wantsStandIn 22=false by kernel_rfl)
 ·exact(show Tryz.prog.wantsStandIn 30=false by kernel_rfl)
theorem card:Rows.MarkClosedCardSaid:=
 Claim7.holds_tied_plain_at .later [] _ _ _ _ said (fun _ h=>by cases h) (by kernel_rfl) (fun _ h=>by cases h) markClosed_row_tie rfl ⟨rfl,rfl⟩ (by kernel_rfl) rfl plain (by kernel_rfl)
end Go.Proofs.YtfdphhalimbpbaaGreatDoor.markClosed
