/-
  The law answers true for every input, and its arguments read as they did.
  No conditions.
-/
import Derived.Test.YtjjiclcgdngfdaaGreatDoorD4
import Derived.Test.YtjjiclcgdngfdaaGreatDoorRows
import Derived.Test.YtjjiclcgdngfdaaGreatDoorCards
import Derived.Test.YtjjiclcgdngfdaaGreatDoorTie
import Derived.Deep.DeepHandedRow
namespace Go.Proofs.YtjjiclcgdngfdaaGreatDoor.diskSettles
open Go Go.Proofs Go.Sx
open Go.ChangeShapes Go.WideShapes Go.ChangeAt Go.RowKit Go.ChangeMaps
set_option maxRecDepth 100000
set_option maxHeartbeats 40000000
theorem qB_ {H:Type} {d:DataW H}: ∀ {l:List (DataW H)},d∈l→Rows.uptoBulk d≤Rows.uptoBulkAll l
 |e::r,h=>by
  rw[Rows.uptoBulkAll]
  rcases List.mem_cons.1 h with rfl|h
  ·omega
  ·have:=qB_ h
   omega
theorem own:ownKnob Tryz.prog.godebug=none:=by kernel_rfl
theorem Xj_:laidOutB Tryz.prog=true:=by kernel_rfl
theorem Xn_ {H:Type}: (Rows.laid_sediment_disk_order:DataW H)= .agg [.lit (.string z1_), .lit (.string kI_), .lit (.string WL_)]:=by rfl
theorem glob {W:World} (h:laidMet Tryz.prog [("sediment/disk.order",Rows.laid_sediment_disk_order)] W):wR_ W:=by
 obtain⟨ps,hv,-⟩:=h
 exact xU_ hv (by rw[Xn_];exact .head _)
def abw_ (a:Array Value):Obj→Obj
 | .cells _ t frozen=> .cells a t frozen
 |o=>o
noncomputable def jl_ (os:Os):World:=
 {World.holding Tryz.prog os ⟨#[], #[],[]⟩ with heap:=((World.holding Tryz.prog os ⟨#[], #[],[]⟩).heap.modify 0 (abw_ #[vs z1_,vs kI_,vs WL_]))}
theorem Zk_: ∀t∈Tryz.f3.params.toList,Tryz.prog.readableRec t=true∧t<Tryz.prog.types.size:=by
 intro t ht
 have hm:t=22∨t=23∨t=5∨t=24:=by
  rw[Tryz.params3] at ht
  first|simpa using ht| (simp at ht;rcases ht with h|h|h|h|h<;>simp[h]) | (simp at ht;rcases ht with h|h|h|h<;>simp[h]) | (simp at ht;rcases ht with h|h|h<;>simp[h])
 rcases hm with rfl|rfl|rfl|rfl
 ·exact⟨by kernel_rfl,of_decide_eq_true (by kernel_rfl)⟩
 ·exact⟨by kernel_rfl,of_decide_eq_true (by kernel_rfl)⟩
 ·exact⟨by kernel_rfl,of_decide_eq_true (by kernel_rfl)⟩
 ·exact⟨by kernel_rfl,of_decide_eq_true (by kernel_rfl)⟩
theorem resultTypes:Tryz.f3.resultTypes= #[4]:=by kernel_rfl
theorem ZK_ (H:Type) (enc:TypeId×Value→H) (W:World) (base:Nat) (args:Array Value) (ds gs:List (DataW H)) (before:List MemPlace)
  (hval: ∀ (j:Nat) t v,Tryz.f3.params[j]? =some t→args[j]? =some v→Value.okWide Tryz.prog W .any base t v)
  (hW:DataW.Whole enc Tryz.prog Tryz.f3.params.toList Rows.diskSettlesSpec.vars false W args.toList ds gs before) (hK: ∀k,(Rows.OpenSpec.upto Rows.diskSettlesSpec).cond=some k→k H (ds++gs)=true) (hL:laidMetH Tryz.prog Rows.diskSettlesUptoRow.laid W):
  Calls Tryz.prog 3 args W fun e W'=> ∃v,e= .returned v∧Rows.diskSettlesSpec.post enc Tryz.prog Tryz.f3 false true false false W args v W':=by
 have hW':=hW
 obtain⟨p,q,hA0,hV,rfl,hfz,hnd⟩:=hW
 have hA:DataW.TrodAll enc Tryz.prog W 0 (fun _=>true) true Tryz.f3.params.toList args.toList ds p:=hA0
 rw[Tryz.params3] at hA hval
 obtain⟨v0,vs0,d0,ds0,p0,q0,hargs,rfl,rfl,h0,r0⟩:=trodAll_cons hA
 obtain⟨v1,vs1,d1,ds1,p1,q1,rfl,rfl,rfl,h1,r1⟩:=trodAll_cons r0
 obtain⟨v2,vs2,d2,ds2,p2,q2,rfl,rfl,rfl,h2,r2⟩:=trodAll_cons r1
 obtain⟨v3,vs3,d3,ds3,p3,q3,rfl,rfl,rfl,h3,r3⟩:=trodAll_cons r2
 obtain⟨v4,vs4,d4,ds4,p4,q4,rfl,rfl,rfl,h4,r4⟩:=trodAll_cons r3
 obtain⟨rfl,rfl,rfl⟩:=trodAll_nil r4
 obtain rfl:args= #[v0,v1,v2,v3,v4]:=by cases args;simp_all
 have hB:Rows.uptoBulkAll ([d0,d1,d2,d3,d4]++gs)≤1048576:=of_decide_eq_true (hK _ rfl)
 have hb0:=Nat.le_trans (qB_ (d:=d0) (by simp)) hB
 obtain⟨l0,hl0,hr0⟩:=w6_ (hval 0 22 v0 rfl rfl) h0
 have hx0:FiB l0:=by
  rcases hr0 with rfl| ⟨es,sp',rfl,hes⟩
  ·intro s hs;cases hs
  ·intro s hs
   obtain⟨g,hg,rfl⟩:=List.getElem_of_mem hs
   obtain⟨e,he,rfl⟩:=hes g hg
   have h1:=qB_ he
   rw[show l0.getD g fi0=l0[g] from by rw[List.getD_eq_getElem?_getD,List.getElem?_eq_getElem hg];rfl] at h1
   simp only[Rows.uptoBulk,Rows.uptoBulkAll] at h1 hb0
   omega
 have hb1:=Nat.le_trans (qB_ (d:=d1) (by simp)) hB
 obtain⟨l1,hl1,hx1⟩:=Zm_ (hval 1 23 v1 rfl rfl) h1
 have hb2:=Nat.le_trans (qB_ (d:=d2) (by simp)) hB
 obtain⟨l2,hl2,hx2⟩:=Zm_ (hval 2 23 v2 rfl rfl) h2
 obtain⟨n3,rfl,rfl,rfl,hw3⟩:=open_int Tryz.underlying5 (hval 3 5 v3 rfl rfl) h3
 obtain⟨c3,hc3⟩:=apL_ hw3
 rw[hc3] at hW' ⊢
 have hb4:=Nat.le_trans (qB_ (d:=d4) (by simp)) hB
 obtain⟨k4,rfl,hx4⟩:=JF_ h4 (Qa_ (hval 4 24 v4 rfl rfl))
 have hG:=glob hL
 refine Calls.mono (Q9_ v0 v1 v2 l0 l1 l2 c3 k4 W hG hl0 hx0 hl1 hx1 hl2 hx2 hx4) ?_
 rintro e W' ⟨v,D,rfl,hp,rfl,rfl⟩
 exact⟨_,rfl,JX_ Xj_ hW' rfl Zk_ resultTypes Tryz.underlying4 rfl hp⟩
def wit:Array Value:= #[.slice none 0 0, .slice none 0 0, .slice none 0 0, .int .u8 0, .slice none 0 0]
theorem ZX_ (os:Os):laidMet Tryz.prog Rows.diskSettlesUptoRow.laid ((jl_ os).forCall (fun _ _=>0) ⟨#[],wit,[]⟩).memory:=
 laidMet_of_run' 8 (by kernel_rfl) (by kernel_rfl)
theorem ajL_ (os:Os) {H:Type} (enc:TypeId×Value→H): ∃places,DataW.whole enc Tryz.prog ((jl_ os).forCall (fun _ _=>0) ⟨#[],wit,[]⟩).memory Tryz.f3.params.toList Rows.diskSettlesSpec.vars false wit.toList 8=some ([.nil, .nil, .nil, .lit (.int .u8 0), .nil],[],places):=
 ⟨[],by kernel_rfl⟩
theorem lifted (os:Os) (started:os.Started) (H:Type) (enc:TypeId×Value→H) (F:Stop.Interp):
  ReturnsInHanded {} Tryz.checked os 3 .any ((Rows.OpenSpec.upto Rows.diskSettlesSpec).preRow enc Tryz.prog Tryz.f3 Rows.diskSettlesUptoRow.domain false Rows.diskSettlesUptoRow.laid) (((Rows.OpenSpec.upto Rows.diskSettlesSpec).at F).post enc Tryz.prog Tryz.f3 false true false false):=by
 obtain⟨places,hx⟩:=ajL_ os enc
 refine returnsInHanded_of_row (C:=Tryz.checked) (s:=Rows.OpenSpec.upto Rows.diskSettlesSpec) own started (by kernel_rfl) Tryz.func3
  (witness_row_at (enc:=enc) (C:=Tryz.checked) false (jl_ os) wit rfl (by kernel_rfl) (by kernel_rfl) (by kernel_rfl)
   (OpenSpec.preRow_of_cond 8 hx (by kernel_rfl) (fun k hk=>by cases hk;kernel_rfl) (by kernel_rfl) (ZX_ os))) ?_
 intro W base args ds gs before hval hW _ hK _ hL _ _
 exact ZK_ H enc W base args ds gs before hval hW hK hL
theorem abq_:joinedFacts Tryz.pinned.checked.prog 3 Tryz.f3 (Rows.OpenSpec.upto Rows.diskSettlesSpec).bare Rows.diskSettlesUptoRow=true:=
 Kd_ (by as_aux_lemma=>kernel_rfl) (by as_aux_lemma=>kernel_rfl) (by as_aux_lemma=>kernel_rfl) (by as_aux_lemma=>kernel_rfl) (by as_aux_lemma=>kernel_rfl) (by as_aux_lemma=>kernel_rfl) (by as_aux_lemma=>kernel_rfl) (by as_aux_lemma=>kernel_rfl) (by as_aux_lemma=>kernel_rfl) (by as_aux_lemma=>kernel_rfl) (by as_aux_lemma=>kernel_rfl) (by as_aux_lemma=>kernel_rfl) (by as_aux_lemma=>kernel_rfl) (by as_aux_lemma=>kernel_rfl) (by as_aux_lemma=>kernel_rfl) (by as_aux_lemma=>kernel_rfl) (by as_aux_lemma=>kernel_rfl) (by as_aux_lemma=>kernel_rfl) (by as_aux_lemma=>kernel_rfl) (by as_aux_lemma=>kernel_rfl) (by as_aux_lemma=>kernel_rfl) (by as_aux_lemma=>kernel_rfl) (by as_aux_lemma=>kernel_rfl) (by as_aux_lemma=>kernel_rfl) (by as_aux_lemma=>kernel_rfl) (by as_aux_lemma=>kernel_rfl) (by as_aux_lemma=>kernel_rfl) (by as_aux_lemma=>kernel_rfl) (by as_aux_lemma=>kernel_rfl) (by as_aux_lemma=>kernel_rfl) (by as_aux_lemma=>kernel_rfl) (by as_aux_lemma=>kernel_rfl)
theorem said:Rows.DiskSettlesUptoSaid:=
 OpenClaim.holds_of_cond 3 Tryz.f3 rfl rfl rfl rfl rfl rfl rfl ⟨rfl,rfl,rfl,rfl,rfl⟩ rfl rfl rfl rfl rfl (by kernel_rfl) Tryz.func3 abq_
  (of_decide_eq_true (by kernel_rfl)) (by unfold Func.isWrapper;first| (rw[if_pos (by decide+kernel)];kernel_rfl) | (rw[if_neg (by decide+kernel)];exact⟨rfl,rfl⟩))
  (fun os started H enc _ F=>by rw[OpenClaim.pre_eq_preRow];exact lifted os started H enc F)
theorem plain (f:FuncId) (fn:Func) (hf:Tryz.pinned.checked.prog.funcNamed "sediment/sedimentlaw13.DiskSettles" =some f) (hfn:Tryz.pinned.checked.prog.funcs[f]? =some fn):
  true=Tryz.pinned.checked.prog.looks []∧ ∀ (j:Nat) t,fn.params[j]? =some t→Tryz.pinned.checked.prog.wantsStandIn t=false:=by
 obtain rfl:f=3:=Option.some.inj ((show Tryz.prog.funcNamed "sediment/sedimentlaw13.DiskSettles" =some 3 by kernel_rfl).symm.trans hf) |>.symm
 obtain rfl:fn=Tryz.f3:=(Option.some.inj (Tryz.func3.symm.trans hfn)).symm
 refine⟨by kernel_rfl,fun j t ht=> ?_⟩
 rw[Tryz.params3] at ht
 have hm:t=22∨t=23∨t=5∨t=24:=by
  have ht:=Array.mem_of_getElem? ht
  first|simpa using ht| (simp at ht;rcases ht with h|h|h|h|h<;>simp[h]) | (simp at ht;rcases ht with h|h|h|h<;>simp[h]) | (simp at ht;rcases ht with h|h|h<;>simp[h])
 rcases hm with rfl|rfl|rfl|rfl
 ·exact(show Tryz.prog.wantsStandIn 22=false by kernel_rfl)
 ·exact(show Tryz.prog.wantsStandIn 23=false by kernel_rfl)
 ·exact(show Tryz.prog.wantsStandIn 5=false by kernel_rfl)
 ·exact(show Tryz.prog.wantsStandIn 24=false by kernel_rfl)
theorem card:Rows.DiskSettlesUptoCardSaid:=
 Claim7.holds_tied_plain_at .later [] _ _ _ _ said (fun _ h=>by cases h) (by kernel_rfl) (fun _ h=>by cases h) diskSettlesUpto_row_tie rfl ⟨rfl,rfl⟩ (by kernel_rfl) rfl plain (by kernel_rfl)
end Go.Proofs.YtjjiclcgdngfdaaGreatDoor.diskSettles
