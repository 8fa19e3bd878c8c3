/-
  The law answers true for every input, and its arguments read as they did.
  No conditions.
-/
import Derived.Test.YtfdphhalimbpbaaGreatDoorP4
import Derived.Test.YtfdphhalimbpbaaGreatDoorRows
import Derived.Test.YtfdphhalimbpbaaGreatDoorCards
import Derived.Test.YtfdphhalimbpbaaGreatDoorTie
import Derived.Deep.DeepHandedRow
namespace Go.Proofs.YtfdphhalimbpbaaGreatDoor.markWalks
open Go Go.Proofs Go.Sx Go.Dig
open Go.ChangeShapes Go.WideShapes Go.ChangeAt Go.RowKit Go.ChangeMaps
set_option maxRecDepth 100000
set_option maxHeartbeats 40000000
theorem aiC_ {H:Type} {d:DataW H}: ∀ {l:List (DataW H)},d∈l→Rows.uptoBulk d≤Rows.uptoBulkAll l
 |e::r,h=>by
  rw[Rows.uptoBulkAll]
  rcases List.mem_cons.1 h with rfl|h
  ·omega
  ·have:=aiC_ h
   omega
theorem own:ownKnob Tryz.prog.godebug=none:=by kernel_rfl
theorem ak8_:laidOutB Tryz.prog=true:=by kernel_rfl
def kZ:List Int:=kL.map fun x=>(x.toNat:Int)
def alv_:List Int:=initL.map fun x=>(x.toNat:Int)
theorem ah2_ {H:Type}: (Rows.laid_sediment_digest_rounds:DataW H)=Lib.tabData .u32 kZ:=by rfl
theorem ak3_ {H:Type}: (Rows.laid_sediment_digest_first:DataW H)=Lib.tabData .u32 alv_:=by rfl
theorem amh_:Tryz.prog.cellsOf 251=8:=by kernel_rfl
theorem alB_:Tryz.prog.cellsOf 307=64:=by kernel_rfl
theorem ahd_:Tryz.prog.cellsOf 250=1:=by kernel_rfl
theorem glob {W:World} (h:laidMet Tryz.prog [("sediment/digest.rounds",Rows.laid_sediment_digest_rounds),("sediment/digest.first",Rows.laid_sediment_digest_first)] W):GlobE W:=by
 obtain⟨ps,hv,-⟩:=h
 obtain⟨e0,f0,h0⟩:=QW_ (P:=Tryz.prog) (g:=2) (by kernel_rfl) (wE_ (P:=Tryz.prog) (name:= "sediment/digest.first") (k:= .u32) (zs:=alv_) (t:=251) (e:=250) (n:=8) (g:=2) (by kernel_rfl) (by kernel_rfl) Tryz.underlying251 Tryz.underlying250 ahd_ amh_ hv (by rw[←ak3_];exact .tail _ (.head _)))
 obtain⟨e1,f1,h1⟩:=QW_ (P:=Tryz.prog) (g:=3) (by kernel_rfl) (wE_ (P:=Tryz.prog) (name:= "sediment/digest.rounds") (k:= .u32) (zs:=kZ) (t:=307) (e:=250) (n:=64) (g:=3) (by kernel_rfl) (by kernel_rfl) Tryz.underlying307 Tryz.underlying250 ahd_ alB_ hv (by rw[←ah2_];exact .head _))
 refine⟨e0,e1,f0,f1, ?_, ?_⟩
 ·rw[h0,alv_,List.map_map];rfl
 ·rw[h1,kZ,List.map_map];rfl
def ajS_ (a:Array Value):Obj→Obj
 | .cells _ t frozen=> .cells a t frozen
 |o=>o
noncomputable def QU_ (os:Os):World:=
 {World.holding Tryz.prog os ⟨#[], #[],[]⟩ with heap:=((World.holding Tryz.prog os ⟨#[], #[],[]⟩).heap.modify 2 (ajS_ (a32 initL))).modify 3 (ajS_ (a32 kL))}
theorem aiR_: ∀t∈Tryz.f4.params.toList,Tryz.prog.readableRec t=true∧t<Tryz.prog.types.size:=by
 intro t ht
 have hm:t=22∨t=30∨t=5:=by
  rw[Tryz.params4] at ht
  first|simpa using ht| (simp at ht;rcases ht with h|h|h|h<;>simp[h])
 rcases hm with rfl|rfl|rfl
 ·exact⟨by kernel_rfl,of_decide_eq_true (by kernel_rfl)⟩
 ·exact⟨by kernel_rfl,of_decide_eq_true (by kernel_rfl)⟩
 ·exact⟨by kernel_rfl,of_decide_eq_true (by kernel_rfl)⟩
theorem resultTypes:Tryz.f4.resultTypes= #[4]:=by kernel_rfl
theorem aiZ_ (H:Type) (enc:TypeId×Value→H) (W:World) (base:Nat) (args:Array Value) (ds gs:List (DataW H)) (before:List MemPlace)
  (hval: ∀ (j:Nat) t v,Tryz.f4.params[j]? =some t→args[j]? =some v→Value.okWide Tryz.prog W .any base t v)
  (hW:DataW.Whole enc Tryz.prog Tryz.f4.params.toList Rows.markWalksSpec.vars false W args.toList ds gs before) (hL:laidMetH Tryz.prog Rows.markWalksRow.laid W):
  Calls Tryz.prog 4 args W fun e W'=> ∃v,e= .returned v∧Rows.markWalksSpec.post enc Tryz.prog Tryz.f4 false true false false W args v W':=by
 have hW':=hW
 obtain⟨p,q,hA0,hV,rfl,hfz,hnd⟩:=hW
 have hA:DataW.TrodAll enc Tryz.prog W 0 (fun _=>true) true Tryz.f4.params.toList args.toList ds p:=hA0
 rw[Tryz.params4] at hA hval
 obtain⟨v0,vs0,d0,ds0,p0,q0,hargs,rfl,rfl,h0,r0⟩:=trodAll_cons hA
 obtain⟨v1,vs1,d1,ds1,p1,q1,rfl,rfl,rfl,h1,r1⟩:=trodAll_cons r0
 obtain⟨v2,vs2,d2,ds2,p2,q2,rfl,rfl,rfl,h2,r2⟩:=trodAll_cons r1
 obtain⟨v3,vs3,d3,ds3,p3,q3,rfl,rfl,rfl,h3,r3⟩:=trodAll_cons r2
 obtain⟨rfl,rfl,rfl⟩:=trodAll_nil r3
 obtain rfl:args= #[v0,v1,v2,v3]:=by cases args;simp_all
 obtain⟨l0,hl0⟩:=af5_ (hval 0 22 v0 rfl rfl) h0
 obtain⟨l1,hl1⟩:=acR_ (hval 1 30 v1 rfl rfl) h1
 obtain⟨l2,hl2⟩:=acR_ (hval 2 30 v2 rfl rfl) h2
 obtain⟨n3,rfl,rfl,rfl,hw3⟩:=open_int Tryz.underlying5 (hval 3 5 v3 rfl rfl) h3
 obtain⟨c3,hc3⟩:=amE_ hw3
 rw[hc3] at hW' ⊢
 have hG:=glob hL
 refine Calls.mono (XY_ v0 v1 v2 l0 l1 l2 c3 W hG hl0 hl1 hl2) ?_
 rintro e W' ⟨v,D,rfl,hp,rfl,rfl⟩
 exact⟨_,rfl,agy_ ak8_ hW' rfl aiR_ resultTypes Tryz.underlying4 rfl hp⟩
def wit:Array Value:= #[.slice none 0 0, .slice none 0 0, .slice none 0 0, .int .u8 0]
theorem ajf_ (os:Os):laidMet Tryz.prog Rows.markWalksRow.laid ((QU_ os).forCall (fun _ _=>0) ⟨#[],wit,[]⟩).memory:=
 laidMet_of_run' 8 (by kernel_rfl) (by kernel_rfl)
theorem anb_ (os:Os) {H:Type} (enc:TypeId×Value→H): ∃places,DataW.whole enc Tryz.prog ((QU_ os).forCall (fun _ _=>0) ⟨#[],wit,[]⟩).memory Tryz.f4.params.toList Rows.markWalksSpec.vars false wit.toList 8=some ([.nil, .nil, .nil, .lit (.int .u8 0)],[],places):=
 ⟨[],by kernel_rfl⟩
theorem lifted (os:Os) (started:os.Started) (H:Type) (enc:TypeId×Value→H) (F:Stop.Interp):
  ReturnsInHanded {} Tryz.checked os 4 .any ((OpenSpec.ofChange Rows.markWalksSpec).preRow enc Tryz.prog Tryz.f4 Rows.markWalksRow.domain false Rows.markWalksRow.laid) (((OpenSpec.ofChange Rows.markWalksSpec).at F).post enc Tryz.prog Tryz.f4 false true false false):=by
 obtain⟨places,hx⟩:=anb_ os enc
 refine returnsInHanded_of_row (C:=Tryz.checked) (s:=OpenSpec.ofChange Rows.markWalksSpec) own started (by kernel_rfl) Tryz.func4
  (witness_row_at (enc:=enc) (C:=Tryz.checked) false (QU_ os) wit rfl (by kernel_rfl) (by kernel_rfl) (by kernel_rfl)
   (OpenSpec.preRow_of_cond 8 hx (by kernel_rfl) (fun k hk=>by cases hk) (by kernel_rfl) (ajf_ os))) ?_
 intro W base args ds gs before hval hW _ _ _ hL _ _
 exact aiZ_ H enc W base args ds gs before hval hW hL
theorem alR_:joinedFacts Tryz.pinned.checked.prog 4 Tryz.f4 (OpenSpec.ofChange Rows.markWalksSpec).bare Rows.markWalksRow=true:=by
 apply ahB_<;>as_aux_lemma=>kernel_rfl
theorem said:Rows.MarkWalksSaid:=
 OpenClaim.holds_of_cond 4 Tryz.f4 rfl rfl rfl rfl rfl rfl rfl ⟨rfl,rfl,rfl,rfl,rfl⟩ rfl rfl rfl rfl rfl (by kernel_rfl) Tryz.func4 alR_
  (of_decide_eq_true (by kernel_rfl)) (by unfold Func.isWrapper;first| (rw[if_pos (by decide+kernel)];kernel_rfl) | (rw[if_neg (by decide+kernel)];exact⟨rfl,rfl⟩))
  (fun os started H enc _ F=>by rw[OpenClaim.pre_eq_preRow];exact lifted os started H enc F)
theorem plain (f:FuncId) (fn:Func) (hf:Tryz.pinned.checked.prog.funcNamed "sediment/sedimentlaw19.MarkWalks" =some f) (hfn:Tryz.pinned.checked.prog.funcs[f]? =some fn):
  true=Tryz.pinned.checked.prog.looks []∧ ∀ (j:Nat) t,fn.params[j]? =some t→Tryz.pinned.checked.prog.wantsStandIn t=false:=by
 obtain rfl:f=4:=Option.some.inj ((show Tryz.prog.funcNamed "sediment/sedimentlaw19.MarkWalks" =some 4 by kernel_rfl).symm.trans hf) |>.symm
 obtain rfl:fn=Tryz.f4:=(Option.some.inj (Tryz.func4.symm.trans hfn)).symm
 refine⟨by kernel_rfl,fun j t ht=> ?_⟩
 rw[Tryz.params4] at ht
 have hm:t=22∨t=30∨t=5:=by
  have ht:=Array.mem_of_getElem? ht
  first|simpa using ht| (simp at ht;rcases ht with h|h|h|h<;>simp[h])
 rcases hm with rfl|rfl|rfl
 ·exact(show Tryz.prog.wantsStandIn 22=false by kernel_rfl)
 ·exact(show Tryz.prog.wantsStandIn 30=false by kernel_rfl)
 ·exact(show Tryz.prog.wantsStandIn 5=false by kernel_rfl)
theorem card:Rows.MarkWalksCardSaid:=
 Claim7.holds_tied_plain_at .later [] _ _ _ _ said (fun _ h=>by cases h) (by kernel_rfl) (fun _ h=>by cases h) markWalks_row_tie rfl ⟨rfl,rfl⟩ (by kernel_rfl) rfl plain (by kernel_rfl)
end Go.Proofs.YtfdphhalimbpbaaGreatDoor.markWalks
