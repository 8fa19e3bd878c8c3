/-
  The law answers true for every input, and its arguments read as they did.
  No conditions.
-/
import Derived.Test.YtjjiclcgdngfdaaGreatDoorV5
import Derived.Test.YtjjiclcgdngfdaaGreatDoorRows
import Derived.Test.YtjjiclcgdngfdaaGreatDoorCards
import Derived.Test.YtjjiclcgdngfdaaGreatDoorTie
import Derived.Deep.DeepHandedRow
namespace Go.Proofs.YtjjiclcgdngfdaaGreatDoor.publishRuns
open Go Go.Proofs Go.Sx
open Go.ChangeShapes Go.WideShapes Go.ChangeAt Go.RowKit Go.ChangeMaps
set_option maxRecDepth 100000
set_option maxHeartbeats 40000000
theorem vu {H:Type} {d:DataW H}: ∀ {l:List (DataW H)},d∈l→Rows.uptoBulk d≤Rows.uptoBulkAll l
 |e::r,h=>by
  rw[Rows.uptoBulkAll]
  rcases List.mem_cons.1 h with rfl|h
  ·omega
  ·have:=vu h
   omega
theorem own:ownKnob Tryz.prog.godebug=none:=by kernel_rfl
theorem Q3:laidOutB Tryz.prog=true:=by kernel_rfl
theorem Oy {H:Type}: (Rows.laid_sediment_disk_order:DataW H)= .agg [.lit (.string fB), .lit (.string jV), .lit (.string jC)]:=by rfl
theorem glob {W:World} (h:laidMet Tryz.prog [("sediment/disk.order",Rows.laid_sediment_disk_order)] W):mX W:=by
 obtain⟨ps,hv,-⟩:=h
 exact W0 hv (by rw[Oy];exact .head _)
def Qx (a:Array Value):Obj→Obj
 | .cells _ t frozen=> .cells a t frozen
 |o=>o
noncomputable def EG (os:Os):World:=
 {World.holding Tryz.prog os ⟨#[], #[],[]⟩ with heap:=((World.holding Tryz.prog os ⟨#[], #[],[]⟩).heap.modify 0 (Qx #[vs fB,vs jV,vs jC]))}
theorem O4: ∀t∈Tryz.f8.params.toList,Tryz.prog.readableRec t=true∧t<Tryz.prog.types.size:=by
 intro t ht
 have hm:t=3∨t=22∨t=71∨t=72:=by
  rw[Tryz.params8] at ht
  first|simpa using ht| (simp at ht;rcases ht with h|h|h|h|h<;>simp[h]) | (simp at ht;rcases ht with h|h|h|h<;>simp[h]) | (simp at ht;rcases ht with h|h|h<;>simp[h])
 rcases hm with rfl|rfl|rfl|rfl
 ·exact⟨by kernel_rfl,of_decide_eq_true (by kernel_rfl)⟩
 ·exact⟨by kernel_rfl,of_decide_eq_true (by kernel_rfl)⟩
 ·exact⟨by kernel_rfl,of_decide_eq_true (by kernel_rfl)⟩
 ·exact⟨by kernel_rfl,of_decide_eq_true (by kernel_rfl)⟩
theorem resultTypes:Tryz.f8.resultTypes= #[4]:=by kernel_rfl
theorem NN (H:Type) (enc:TypeId×Value→H) (W:World) (base:Nat) (args:Array Value) (ds gs:List (DataW H)) (before:List MemPlace)
  (dH: ∀ (j:Nat) t v,Tryz.f8.params[j]? =some t→args[j]? =some v→Value.okWide Tryz.prog W .any base t v)
  (hW:DataW.Whole enc Tryz.prog Tryz.f8.params.toList Rows.publishRunsSpec.vars false W args.toList ds gs before) (hK: ∀k,(Rows.OpenSpec.upto Rows.publishRunsSpec).cond=some k→k H (ds++gs)=true) (hL:laidMetH Tryz.prog Rows.publishRunsUptoRow.laid W):
  Calls Tryz.prog 8 args W fun e W'=> ∃v,e= .returned v∧Rows.publishRunsSpec.post enc Tryz.prog Tryz.f8 false true false false W args v W':=by
 have hW':=hW
 obtain⟨p,q,A5,hV,rfl,We,av⟩:=hW
 have hA:DataW.TrodAll enc Tryz.prog W 0 (fun _=>true) true Tryz.f8.params.toList args.toList ds p:=A5
 rw[Tryz.params8] at hA dH
 obtain⟨v0,vs0,d0,ds0,p0,q0,nV,rfl,rfl,h0,r0⟩:=trodAll_cons hA
 obtain⟨v1,vs1,d1,ds1,p1,q1,rfl,rfl,rfl,h1,r1⟩:=trodAll_cons r0
 obtain⟨v2,vs2,d2,ds2,p2,q2,rfl,rfl,rfl,h2,r2⟩:=trodAll_cons r1
 obtain⟨v3,vs3,d3,ds3,p3,q3,rfl,rfl,rfl,h3,r3⟩:=trodAll_cons r2
 obtain⟨v4,vs4,d4,ds4,p4,q4,rfl,rfl,rfl,h4,r4⟩:=trodAll_cons r3
 obtain⟨rfl,rfl,rfl⟩:=trodAll_nil r4
 obtain rfl:args= #[v0,v1,v2,v3,v4]:=by cases args;simp_all
 have hB:Rows.uptoBulkAll ([d0,d1,d2,d3,d4]++gs)≤1048576:=of_decide_eq_true (hK _ rfl)
 obtain⟨n0,rfl,rfl,rfl,db⟩:=open_int Tryz.underlying3 (dH 0 3 v0 rfl rfl) h0
 have To: -9223372036854775808≤n0∧n0<9223372036854775808:=by
  simp only[Lit.wf,Bool.and_eq_true,decide_eq_true_eq] at db
  have g1: (-9223372036854775808:Int)≤n0:=by simpa [IntKind.min,IntKind.bits,IntKind.signed] using db.1
  have g2:n0≤9223372036854775807:=by simpa [IntKind.max,IntKind.bits,IntKind.signed] using db.2
  exact⟨g1,by omega⟩
 have bE:=Nat.le_trans (vu (d:=d1) (by simp)) hB
 obtain⟨l1,jH,rR⟩:=Hl (dH 1 22 v1 rfl rfl) h1
 have hx1:FiB l1:=by
  rcases rR with rfl| ⟨es,sp',rfl,ga⟩
  ·intro s hs;cases hs
  ·intro s hs
   obtain⟨g,hg,rfl⟩:=List.getElem_of_mem hs
   obtain⟨e,he,rfl⟩:=ga g hg
   have h1:=vu he
   rw[show l1.getD g fi0=l1[g] from by rw[List.getD_eq_getElem?_getD,List.getElem?_eq_getElem hg];rfl] at h1
   simp only[Rows.uptoBulk,Rows.uptoBulkAll] at h1 bE
   omega
 obtain⟨n2,rfl,rfl,rfl,cU⟩:=open_int Tryz.underlying3 (dH 2 3 v2 rfl rfl) h2
 have Ww: -9223372036854775808≤n2∧n2<9223372036854775808:=by
  simp only[Lit.wf,Bool.and_eq_true,decide_eq_true_eq] at cU
  have g1: (-9223372036854775808:Int)≤n2:=by simpa [IntKind.min,IntKind.bits,IntKind.signed] using cU.1
  have g2:n2≤9223372036854775807:=by simpa [IntKind.max,IntKind.bits,IntKind.signed] using cU.2
  exact⟨g1,by omega⟩
 have gM:=Nat.le_trans (vu (d:=d3) (by simp)) hB
 obtain⟨l3,ml,-⟩:=Lr (dH 3 71 v3 rfl rfl) h3
 have mi:=Nat.le_trans (vu (d:=d4) (by simp)) hB
 obtain⟨l4,lU,rU⟩:=KI (dH 4 72 v4 rfl rfl) h4
 have XE: ∀s,s∈l4→s.length<1099511627776:=by
  rcases rU with rfl| ⟨es,sp',rfl,ga⟩
  ·intro s hs;cases hs
  ·intro s hs
   obtain⟨g,hg,rfl⟩:=List.getElem_of_mem hs
   obtain⟨e,he,rfl⟩:=ga g hg
   have h1:=vu he
   rw[show l4.getD g []=l4[g] from by rw[List.getD_eq_getElem?_getD,List.getElem?_eq_getElem hg];rfl] at h1
   simp only[Rows.uptoBulk] at h1 mi
   omega
 have hG:=glob hL
 refine Calls.mono (YA n0 v1 l1 n2 v3 v4 l3 l4 W hG To jH hx1 Ww ml lU XE) ?_
 rintro e W' ⟨v,D,rfl,hp,rfl,rfl⟩
 exact⟨_,rfl,LM Q3 hW' rfl O4 resultTypes Tryz.underlying4 rfl hp⟩
def wit:Array Value:= #[.int .i64 0, .slice none 0 0, .int .i64 0, .slice none 0 0, .slice none 0 0]
theorem NA (os:Os):laidMet Tryz.prog Rows.publishRunsUptoRow.laid ((EG os).forCall (fun _ _=>0) ⟨#[],wit,[]⟩).memory:=
 laidMet_of_run' 8 (by kernel_rfl) (by kernel_rfl)
theorem RD (os:Os) {H:Type} (enc:TypeId×Value→H): ∃places,DataW.whole enc Tryz.prog ((EG os).forCall (fun _ _=>0) ⟨#[],wit,[]⟩).memory Tryz.f8.params.toList Rows.publishRunsSpec.vars false wit.toList 8=some ([.lit (.int .i64 0), .nil, .lit (.int .i64 0), .nil, .nil],[],places):=
 ⟨[],by kernel_rfl⟩
theorem lifted (os:Os) (started:os.Started) (H:Type) (enc:TypeId×Value→H) (F:Stop.Interp):
  ReturnsInHanded {} Tryz.checked os 8 .any ((Rows.OpenSpec.upto Rows.publishRunsSpec).preRow enc Tryz.prog Tryz.f8 Rows.publishRunsUptoRow.domain false Rows.publishRunsUptoRow.laid) (((Rows.OpenSpec.upto Rows.publishRunsSpec).at F).post enc Tryz.prog Tryz.f8 false true false false):=by
 obtain⟨places,hx⟩:=RD os enc
 refine returnsInHanded_of_row (C:=Tryz.checked) (s:=Rows.OpenSpec.upto Rows.publishRunsSpec) own started (by kernel_rfl) Tryz.func8
  (witness_row_at (enc:=enc) (C:=Tryz.checked) false (EG os) wit rfl (by kernel_rfl) (by kernel_rfl) (by kernel_rfl)
   (OpenSpec.preRow_of_cond 8 hx (by kernel_rfl) (fun k hk=>by cases hk;kernel_rfl) (by kernel_rfl) (NA os))) ?_
 intro W base args ds gs before dH hW _ hK _ hL _ _
 exact NN H enc W base args ds gs before dH hW hK hL
theorem PU:joinedFacts Tryz.pinned.checked.prog 8 Tryz.f8 (Rows.OpenSpec.upto Rows.publishRunsSpec).bare Rows.publishRunsUptoRow=true:=
 My (by as_aux_lemma=>kernel_rfl) (by as_aux_lemma=>kernel_rfl) (by as_aux_lemma=>kernel_rfl) (by as_aux_lemma=>kernel_rfl) (by as_aux_lemma=>kernel_rfl) (by as_aux_lemma=>kernel_rfl) (by as_aux_lemma=>kernel_rfl) (by as_aux_lemma=>kernel_rfl) (by as_aux_lemma=>kernel_rfl) (by as_aux_lemma=>kernel_rfl) (by as_aux_lemma=>kernel_rfl) (by as_aux_lemma=>kernel_rfl) (by as_aux_lemma=>kernel_rfl) (by as_aux_lemma=>kernel_rfl) (by as_aux_lemma=>kernel_rfl) (by as_aux_lemma=>kernel_rfl) (by as_aux_lemma=>kernel_rfl) (by as_aux_lemma=>kernel_rfl) (by as_aux_lemma=>kernel_rfl) (by as_aux_lemma=>kernel_rfl) (by as_aux_lemma=>kernel_rfl) (by as_aux_lemma=>kernel_rfl) (by as_aux_lemma=>kernel_rfl) (by as_aux_lemma=>kernel_rfl) (by as_aux_lemma=>kernel_rfl) (by as_aux_lemma=>kernel_rfl) (by as_aux_lemma=>kernel_rfl) (by as_aux_lemma=>kernel_rfl) (by as_aux_lemma=>kernel_rfl) (by as_aux_lemma=>kernel_rfl) (by as_aux_lemma=>kernel_rfl) (by as_aux_lemma=>kernel_rfl)
theorem said:Rows.PublishRunsUptoSaid:=
 OpenClaim.holds_of_cond 8 Tryz.f8 rfl rfl rfl rfl rfl rfl rfl ⟨rfl,rfl,rfl,rfl,rfl⟩ rfl rfl rfl rfl rfl (by kernel_rfl) Tryz.func8 PU
  (of_decide_eq_true (by kernel_rfl)) (by unfold Func.isWrapper;first| (rw[if_pos (by decide+kernel)];kernel_rfl) | (rw[if_neg (by decide+kernel)];exact⟨rfl,rfl⟩))
  (fun os started H enc _ F=>by rw[OpenClaim.pre_eq_preRow];exact lifted os started H enc F)
theorem plain (f:FuncId) (fn:Func) (hf:Tryz.pinned.checked.prog.funcNamed "sediment/sedimentlaw14.PublishRuns" =some f) (eu:Tryz.pinned.checked.prog.funcs[f]? =some fn):
  true=Tryz.pinned.checked.prog.looks []∧ ∀ (j:Nat) t,fn.params[j]? =some t→Tryz.pinned.checked.prog.wantsStandIn t=false:=by
 obtain rfl:f=8:=Option.some.inj ((show Tryz.prog.funcNamed "sediment/sedimentlaw14.PublishRuns" =some 8 by kernel_rfl).symm.trans hf) |>.symm
 obtain rfl:fn=Tryz.f8:=(Option.some.inj (Tryz.func8.symm.trans eu)).symm
 refine⟨by kernel_rfl,fun j t ht=> ?_⟩
 rw[Tryz.params8] at ht
 have hm:t=3∨t=22∨t=71∨t=72:=by
  have ht:=Array.mem_of_getElem? ht
  first|simpa using ht| (simp at ht;rcases ht with h|h|h|h|h<;>simp[h]) | (simp at ht;rcases ht with h|h|h|h<;>simp[h]) | (simp at ht;rcases ht with h|h|h<;>simp[h])
 rcases hm with rfl|rfl|rfl|rfl
 ·exact(show Tryz.prog.wantsStandIn 3=false by kernel_rfl)
 ·exact(show Tryz.prog.wantsStandIn 22=false by kernel_rfl)
 ·exact(show Tryz.prog.wantsStandIn 71=false by kernel_rfl)
 ·exact(show Tryz.prog.wantsStandIn 72=false by kernel_rfl)
theorem card:Rows.PublishRunsUptoCardSaid:=
 Claim7.holds_tied_plain_at .later [] _ _ _ _ said (fun _ h=>by cases h) (by kernel_rfl) (fun _ h=>by cases h) publishRunsUpto_row_tie rfl ⟨rfl,rfl⟩ (by kernel_rfl) rfl plain (by kernel_rfl)
end Go.Proofs.YtjjiclcgdngfdaaGreatDoor.publishRuns
