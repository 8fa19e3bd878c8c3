/-
  The law answers true for every input, and its arguments read as they did.
  No conditions.
-/
import Derived.Test.YtlpbaodcpnennaaGreatDoorS4
import Derived.Test.YtlpbaodcpnennaaGreatDoorRows
import Derived.Test.YtlpbaodcpnennaaGreatDoorCards
import Derived.Test.YtlpbaodcpnennaaGreatDoorTie
import Derived.Deep.DeepHandedRow
namespace Go.Proofs.YtlpbaodcpnennaaGreatDoor.publishSteps
open Go Go.Proofs Go.Sx
open Go.ChangeShapes Go.WideShapes Go.ChangeAt Go.RowKit Go.ChangeMaps
set_option maxRecDepth 100000
set_option maxHeartbeats 40000000
theorem Jf_ {H:Type} {d:DataW H}: ∀ {l:List (DataW H)},d∈l→Rows.uptoBulk d≤Rows.uptoBulkAll l
 |e::r,h=>by
  rw[Rows.uptoBulkAll]
  rcases List.mem_cons.1 h with rfl|h
  ·omega
  ·have:=Jf_ h
   omega
theorem own:ownKnob Tryz.prog.godebug=none:=by kernel_rfl
theorem apb_:laidOutB Tryz.prog=true:=by kernel_rfl
theorem aoK_ {H:Type}: (Rows.laid_sediment_disk_order:DataW H)= .agg [.lit (.string qB_), .lit (.string vx_), .lit (.string WR_)]:=by rfl
theorem glob {W:World} (h:laidMet Tryz.prog [("sediment/disk.order",Rows.laid_sediment_disk_order)] W):QX_ W:=by
 obtain⟨ps,hv,-⟩:=h
 exact Zk_ hv (by rw[aoK_];exact .head _)
def aqi_ (a:Array Value):Obj→Obj
 | .cells _ t frozen=> .cells a t frozen
 |o=>o
noncomputable def Jw_ (os:Os):World:=
 {World.holding Tryz.prog os ⟨#[], #[],[]⟩ with heap:=((World.holding Tryz.prog os ⟨#[], #[],[]⟩).heap.modify 0 (aqi_ #[vs qB_,vs vx_,vs WR_]))}
theorem amm_: ∀t∈Tryz.f3.params.toList,Tryz.prog.readableRec t=true∧t<Tryz.prog.types.size:=by
 intro t ht
 have hm:t=3∨t=22∨t=24:=by
  rw[Tryz.params3] at ht
  first|simpa using ht| (simp at ht;rcases ht with h|h|h|h<;>simp[h])
 rcases hm with rfl|rfl|rfl
 ·exact⟨by kernel_rfl,of_decide_eq_true (by kernel_rfl)⟩
 ·exact⟨by kernel_rfl,of_decide_eq_true (by kernel_rfl)⟩
 ·exact⟨by kernel_rfl,of_decide_eq_true (by kernel_rfl)⟩
theorem resultTypes:Tryz.f3.resultTypes= #[4]:=by kernel_rfl
theorem amv_ (H:Type) (enc:TypeId×Value→H) (W:World) (base:Nat) (args:Array Value) (ds gs:List (DataW H)) (before:List MemPlace)
  (hval: ∀ (j:Nat) t v,Tryz.f3.params[j]? =some t→args[j]? =some v→Value.okWide Tryz.prog W .any base t v)
  (hW:DataW.Whole enc Tryz.prog Tryz.f3.params.toList Rows.publishStepsSpec.vars false W args.toList ds gs before) (hK: ∀k,(Rows.OpenSpec.upto Rows.publishStepsSpec).cond=some k→k H (ds++gs)=true) (hL:laidMetH Tryz.prog Rows.publishStepsUptoRow.laid W):
  Calls Tryz.prog 3 args W fun e W'=> ∃v,e= .returned v∧Rows.publishStepsSpec.post enc Tryz.prog Tryz.f3 false true false false W args v W':=by
 have hW':=hW
 obtain⟨p,q,hA0,hV,rfl,hfz,hnd⟩:=hW
 have hA:DataW.TrodAll enc Tryz.prog W 0 (fun _=>true) true Tryz.f3.params.toList args.toList ds p:=hA0
 rw[Tryz.params3] at hA hval
 obtain⟨v0,vs0,d0,ds0,p0,q0,hargs,rfl,rfl,h0,r0⟩:=trodAll_cons hA
 obtain⟨v1,vs1,d1,ds1,p1,q1,rfl,rfl,rfl,h1,r1⟩:=trodAll_cons r0
 obtain⟨v2,vs2,d2,ds2,p2,q2,rfl,rfl,rfl,h2,r2⟩:=trodAll_cons r1
 obtain⟨v3,vs3,d3,ds3,p3,q3,rfl,rfl,rfl,h3,r3⟩:=trodAll_cons r2
 obtain⟨rfl,rfl,rfl⟩:=trodAll_nil r3
 obtain rfl:args= #[v0,v1,v2,v3]:=by cases args;simp_all
 have hB:Rows.uptoBulkAll ([d0,d1,d2,d3]++gs)≤1048576:=of_decide_eq_true (hK _ rfl)
 obtain⟨n0,rfl,rfl,rfl,hw0⟩:=open_int Tryz.underlying3 (hval 0 3 v0 rfl rfl) h0
 have hq0: -9223372036854775808≤n0∧n0<9223372036854775808:=by
  simp only[Lit.wf,Bool.and_eq_true,decide_eq_true_eq] at hw0
  have g1: (-9223372036854775808:Int)≤n0:=by simpa [IntKind.min,IntKind.bits,IntKind.signed] using hw0.1
  have g2:n0≤9223372036854775807:=by simpa [IntKind.max,IntKind.bits,IntKind.signed] using hw0.2
  exact⟨g1,by omega⟩
 have hb1:=Nat.le_trans (Jf_ (d:=d1) (by simp)) hB
 obtain⟨l1,hl1,hr1⟩:=adn_ (hval 1 22 v1 rfl rfl) h1
 have hx1:FiB l1:=by
  rcases hr1 with rfl| ⟨es,sp',rfl,hes⟩
  ·intro s hs;cases hs
  ·intro s hs
   obtain⟨g,hg,rfl⟩:=List.getElem_of_mem hs
   obtain⟨e,he,rfl⟩:=hes g hg
   have h1:=Jf_ he
   rw[show l1.getD g fi0=l1[g] from by rw[List.getD_eq_getElem?_getD,List.getElem?_eq_getElem hg];rfl] at h1
   simp only[Rows.uptoBulk,Rows.uptoBulkAll] at h1 hb1
   omega
 obtain⟨n2,rfl,rfl,rfl,hw2⟩:=open_int Tryz.underlying3 (hval 2 3 v2 rfl rfl) h2
 have hq2: -9223372036854775808≤n2∧n2<9223372036854775808:=by
  simp only[Lit.wf,Bool.and_eq_true,decide_eq_true_eq] at hw2
  have g1: (-9223372036854775808:Int)≤n2:=by simpa [IntKind.min,IntKind.bits,IntKind.signed] using hw2.1
  have g2:n2≤9223372036854775807:=by simpa [IntKind.max,IntKind.bits,IntKind.signed] using hw2.2
  exact⟨g1,by omega⟩
 have hb3:=Nat.le_trans (Jf_ (d:=d3) (by simp)) hB
 obtain⟨k3,rfl⟩:=amD_ (hval 3 24 v3 rfl rfl) h3
 have hG:=glob hL
 refine Calls.mono (Z9_ n0 v1 l1 n2 k3 W hG hq0 hl1 hx1 hq2) ?_
 rintro e W' ⟨v,D,rfl,hp,rfl,rfl⟩
 exact⟨_,rfl,ajG_ apb_ hW' rfl amm_ resultTypes Tryz.underlying4 rfl hp⟩
def wit:Array Value:= #[.int .i64 0, .slice none 0 0, .int .i64 0, .agg #[.string ByteArray.empty, .string ByteArray.empty, .string ByteArray.empty, .bool false]]
theorem amQ_ (os:Os):laidMet Tryz.prog Rows.publishStepsUptoRow.laid ((Jw_ os).forCall (fun _ _=>0) ⟨#[],wit,[]⟩).memory:=
 laidMet_of_run' 8 (by kernel_rfl) (by kernel_rfl)
theorem arx_ (os:Os) {H:Type} (enc:TypeId×Value→H): ∃places,DataW.whole enc Tryz.prog ((Jw_ os).forCall (fun _ _=>0) ⟨#[],wit,[]⟩).memory Tryz.f3.params.toList Rows.publishStepsSpec.vars false wit.toList 8=some ([.lit (.int .i64 0), .nil, .lit (.int .i64 0), .agg [.lit (.string []), .lit (.string []), .lit (.string []), .lit (.bool false)]],[],places):=
 ⟨[],by kernel_rfl⟩
theorem lifted (os:Os) (started:os.Started) (H:Type) (enc:TypeId×Value→H) (F:Stop.Interp):
  ReturnsInHanded {} Tryz.checked os 3 .any ((Rows.OpenSpec.upto Rows.publishStepsSpec).preRow enc Tryz.prog Tryz.f3 Rows.publishStepsUptoRow.domain false Rows.publishStepsUptoRow.laid) (((Rows.OpenSpec.upto Rows.publishStepsSpec).at F).post enc Tryz.prog Tryz.f3 false true false false):=by
 obtain⟨places,hx⟩:=arx_ os enc
 refine returnsInHanded_of_row (C:=Tryz.checked) (s:=Rows.OpenSpec.upto Rows.publishStepsSpec) own started (by kernel_rfl) Tryz.func3
  (witness_row_at (enc:=enc) (C:=Tryz.checked) false (Jw_ os) wit rfl (by kernel_rfl) (by kernel_rfl) (by kernel_rfl)
   (OpenSpec.preRow_of_cond 8 hx (by kernel_rfl) (fun k hk=>by cases hk;kernel_rfl) (by kernel_rfl) (amQ_ os))) ?_
 intro W base args ds gs before hval hW _ hK _ hL _ _
 exact amv_ H enc W base args ds gs before hval hW hK hL
theorem apW_:joinedFacts Tryz.pinned.checked.prog 3 Tryz.f3 (Rows.OpenSpec.upto Rows.publishStepsSpec).bare Rows.publishStepsUptoRow=true:=by
 apply ak7_<;>as_aux_lemma=>kernel_rfl
theorem said:Rows.PublishStepsUptoSaid:=
 OpenClaim.holds_of_cond 3 Tryz.f3 rfl rfl rfl rfl rfl rfl rfl ⟨rfl,rfl,rfl,rfl,rfl⟩ rfl rfl rfl rfl rfl (by kernel_rfl) Tryz.func3 apW_
  (of_decide_eq_true (by kernel_rfl)) (by unfold Func.isWrapper;first| (rw[if_pos (by decide+kernel)];kernel_rfl) | (rw[if_neg (by decide+kernel)];exact⟨rfl,rfl⟩))
  (fun os started H enc _ F=>by rw[OpenClaim.pre_eq_preRow];exact lifted os started H enc F)
theorem plain (f:FuncId) (fn:Func) (hf:Tryz.pinned.checked.prog.funcNamed "sediment/sedimentlaw14.PublishSteps" =some f) (hfn:Tryz.pinned.checked.prog.funcs[f]? =some fn):
  true=Tryz.pinned.checked.prog.looks []∧ ∀ (j:Nat) t,fn.params[j]? =some t→Tryz.pinned.checked.prog.wantsStandIn t=false:=by
 obtain rfl:f=3:=Option.some.inj ((show Tryz.prog.funcNamed "sediment/sedimentlaw14.PublishSteps" =some 3 by kernel_rfl).symm.trans hf) |>.symm
 obtain rfl:fn=Tryz.f3:=(Option.some.inj (Tryz.func3.symm.trans hfn)).symm
 refine⟨by kernel_rfl,fun j t ht=> ?_⟩
 rw[Tryz.params3] at ht
 have hm:t=3∨t=22∨t=24:=by
  have ht:=Array.mem_of_getElem? ht
  first|simpa using ht| (simp at ht;rcases ht with h|h|h|h<;>simp[h])
 rcases hm with rfl|rfl|rfl
 ·exact(show Tryz.prog.wantsStandIn 3=false by kernel_rfl)
 ·exact(show Tryz.prog.wantsStandIn 22=false by kernel_rfl)
 ·exact(show Tryz.prog.wantsStandIn 24=false by kernel_rfl)
theorem card:Rows.PublishStepsUptoCardSaid:=
 Claim7.holds_tied_plain_at .later [] _ _ _ _ said (fun _ h=>by cases h) (by kernel_rfl) (fun _ h=>by cases h) publishStepsUpto_row_tie rfl ⟨rfl,rfl⟩ (by kernel_rfl) rfl plain (by kernel_rfl)
end Go.Proofs.YtlpbaodcpnennaaGreatDoor.publishSteps
