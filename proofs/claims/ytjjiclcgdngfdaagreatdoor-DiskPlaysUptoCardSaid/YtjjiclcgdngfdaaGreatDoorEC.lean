/-
  The law answers true for every input, and its arguments read as they did.
  No conditions.
-/
import Derived.Test.YtjjiclcgdngfdaaGreatDoorW4
import Derived.Test.YtjjiclcgdngfdaaGreatDoorRows
import Derived.Test.YtjjiclcgdngfdaaGreatDoorCards
import Derived.Test.YtjjiclcgdngfdaaGreatDoorTie
import Derived.Deep.DeepHandedRow
namespace Go.Proofs.YtjjiclcgdngfdaaGreatDoor.diskPlays
open Go Go.Proofs Go.Sx
open Go.ChangeShapes Go.WideShapes Go.ChangeAt Go.RowKit Go.ChangeMaps
set_option maxRecDepth 100000
set_option maxHeartbeats 40000000
theorem JQ_ {H:Type} {d:DataW H}: ∀ {l:List (DataW H)},d∈l→Rows.uptoBulk d≤Rows.uptoBulkAll l
 |e::r,h=>by
  rw[Rows.uptoBulkAll]
  rcases List.mem_cons.1 h with rfl|h
  ·omega
  ·have:=JQ_ h
   omega
theorem own:ownKnob Tryz.prog.godebug=none:=by kernel_rfl
theorem ao5_:laidOutB Tryz.prog=true:=by kernel_rfl
theorem aoD_ {H:Type}: (Rows.laid_sediment_disk_order:DataW H)= .agg [.lit (.string z9_), .lit (.string vT_), .lit (.string refD)]:=by rfl
theorem glob {W:World} (h:laidMet Tryz.prog [("sediment/disk.order",Rows.laid_sediment_disk_order)] W):Qg_ W:=by
 obtain⟨ps,hv,-⟩:=h
 exact ZZ_ hv (by rw[aoD_];exact .head _)
def aqk_ (a:Array Value):Obj→Obj
 | .cells _ t frozen=> .cells a t frozen
 |o=>o
noncomputable def J9_ (os:Os):World:=
 {World.holding Tryz.prog os ⟨#[], #[],[]⟩ with heap:=((World.holding Tryz.prog os ⟨#[], #[],[]⟩).heap.modify 0 (aqk_ #[vs z9_,vs vT_,vs refD]))}
theorem amf_: ∀t∈Tryz.f5.params.toList,Tryz.prog.readableRec t=true∧t<Tryz.prog.types.size:=by
 intro t ht
 have hm:t=3∨t=22∨t=23:=by
  rw[Tryz.params5] at ht
  first|simpa using ht| (simp at ht;rcases ht with h|h|h|h|h<;>simp[h]) | (simp at ht;rcases ht with h|h|h|h<;>simp[h]) | (simp at ht;rcases ht with h|h|h<;>simp[h])
 rcases hm with rfl|rfl|rfl
 ·exact⟨by kernel_rfl,of_decide_eq_true (by kernel_rfl)⟩
 ·exact⟨by kernel_rfl,of_decide_eq_true (by kernel_rfl)⟩
 ·exact⟨by kernel_rfl,of_decide_eq_true (by kernel_rfl)⟩
theorem resultTypes:Tryz.f5.resultTypes= #[4]:=by kernel_rfl
theorem amq_ (H:Type) (enc:TypeId×Value→H) (W:World) (base:Nat) (args:Array Value) (ds gs:List (DataW H)) (before:List MemPlace)
  (hval: ∀ (j:Nat) t v,Tryz.f5.params[j]? =some t→args[j]? =some v→Value.okWide Tryz.prog W .any base t v)
  (hW:DataW.Whole enc Tryz.prog Tryz.f5.params.toList Rows.diskPlaysSpec.vars false W args.toList ds gs before) (hK: ∀k,(Rows.OpenSpec.upto Rows.diskPlaysSpec).cond=some k→k H (ds++gs)=true) (hL:laidMetH Tryz.prog Rows.diskPlaysUptoRow.laid W):
  Calls Tryz.prog 5 args W fun e W'=> ∃v,e= .returned v∧Rows.diskPlaysSpec.post enc Tryz.prog Tryz.f5 false true false false W args v W':=by
 have hW':=hW
 obtain⟨p,q,hA0,hV,rfl,hfz,hnd⟩:=hW
 have hA:DataW.TrodAll enc Tryz.prog W 0 (fun _=>true) true Tryz.f5.params.toList args.toList ds p:=hA0
 rw[Tryz.params5] at hA hval
 obtain⟨v0,vs0,d0,ds0,p0,q0,hargs,rfl,rfl,h0,r0⟩:=trodAll_cons hA
 obtain⟨v1,vs1,d1,ds1,p1,q1,rfl,rfl,rfl,h1,r1⟩:=trodAll_cons r0
 obtain⟨v2,vs2,d2,ds2,p2,q2,rfl,rfl,rfl,h2,r2⟩:=trodAll_cons r1
 obtain⟨rfl,rfl,rfl⟩:=trodAll_nil r2
 obtain rfl:args= #[v0,v1,v2]:=by cases args;simp_all
 have hB:Rows.uptoBulkAll ([d0,d1,d2]++gs)≤1048576:=of_decide_eq_true (hK _ rfl)
 obtain⟨n0,rfl,rfl,rfl,hw0⟩:=open_int Tryz.underlying3 (hval 0 3 v0 rfl rfl) h0
 have hq0: -9223372036854775808≤n0∧n0<9223372036854775808:=by
  simp only[Lit.wf,Bool.and_eq_true,decide_eq_true_eq] at hw0
  have g1: (-9223372036854775808:Int)≤n0:=by simpa [IntKind.min,IntKind.bits,IntKind.signed] using hw0.1
  have g2:n0≤9223372036854775807:=by simpa [IntKind.max,IntKind.bits,IntKind.signed] using hw0.2
  exact⟨g1,by omega⟩
 have hb1:=Nat.le_trans (JQ_ (d:=d1) (by simp)) hB
 obtain⟨l1,hl1,hr1⟩:=ady_ (hval 1 22 v1 rfl rfl) h1
 have hx1:FiB l1:=by
  rcases hr1 with rfl| ⟨es,sp',rfl,hes⟩
  ·intro s hs;cases hs
  ·intro s hs
   obtain⟨g,hg,rfl⟩:=List.getElem_of_mem hs
   obtain⟨e,he,rfl⟩:=hes g hg
   have h1:=JQ_ he
   rw[show l1.getD g fi0=l1[g] from by rw[List.getD_eq_getElem?_getD,List.getElem?_eq_getElem hg];rfl] at h1
   simp only[Rows.uptoBulk,Rows.uptoBulkAll] at h1 hb1
   omega
 have hb2:=Nat.le_trans (JQ_ (d:=d2) (by simp)) hB
 obtain⟨l2,hl2,hx2⟩:=ajg_ (hval 2 23 v2 rfl rfl) h2
 have hG:=glob hL
 refine Calls.mono (K4_ n0 v1 v2 l1 l2 W hG hq0 hl1 hx1 hl2 hx2) ?_
 rintro e W' ⟨v,D,rfl,hp,rfl,rfl⟩
 exact⟨_,rfl,ajy_ ao5_ hW' rfl amf_ resultTypes Tryz.underlying4 rfl hp⟩
def wit:Array Value:= #[.int .i64 0, .slice none 0 0, .slice none 0 0]
theorem amL_ (os:Os):laidMet Tryz.prog Rows.diskPlaysUptoRow.laid ((J9_ os).forCall (fun _ _=>0) ⟨#[],wit,[]⟩).memory:=
 laidMet_of_run' 8 (by kernel_rfl) (by kernel_rfl)
theorem arM_ (os:Os) {H:Type} (enc:TypeId×Value→H): ∃places,DataW.whole enc Tryz.prog ((J9_ os).forCall (fun _ _=>0) ⟨#[],wit,[]⟩).memory Tryz.f5.params.toList Rows.diskPlaysSpec.vars false wit.toList 8=some ([.lit (.int .i64 0), .nil, .nil],[],places):=
 ⟨[],by kernel_rfl⟩
theorem lifted (os:Os) (started:os.Started) (H:Type) (enc:TypeId×Value→H) (F:Stop.Interp):
  ReturnsInHanded {} Tryz.checked os 5 .any ((Rows.OpenSpec.upto Rows.diskPlaysSpec).preRow enc Tryz.prog Tryz.f5 Rows.diskPlaysUptoRow.domain false Rows.diskPlaysUptoRow.laid) (((Rows.OpenSpec.upto Rows.diskPlaysSpec).at F).post enc Tryz.prog Tryz.f5 false true false false):=by
 obtain⟨places,hx⟩:=arM_ os enc
 refine returnsInHanded_of_row (C:=Tryz.checked) (s:=Rows.OpenSpec.upto Rows.diskPlaysSpec) own started (by kernel_rfl) Tryz.func5
  (witness_row_at (enc:=enc) (C:=Tryz.checked) false (J9_ os) wit rfl (by kernel_rfl) (by kernel_rfl) (by kernel_rfl)
   (OpenSpec.preRow_of_cond 8 hx (by kernel_rfl) (fun k hk=>by cases hk;kernel_rfl) (by kernel_rfl) (amL_ os))) ?_
 intro W base args ds gs before hval hW _ hK _ hL _ _
 exact amq_ H enc W base args ds gs before hval hW hK hL
theorem apS_:joinedFacts Tryz.pinned.checked.prog 5 Tryz.f5 (Rows.OpenSpec.upto Rows.diskPlaysSpec).bare Rows.diskPlaysUptoRow=true:=
 akV_ (by as_aux_lemma=>kernel_rfl) (by as_aux_lemma=>kernel_rfl) (by as_aux_lemma=>kernel_rfl) (by as_aux_lemma=>kernel_rfl) (by as_aux_lemma=>kernel_rfl) (by as_aux_lemma=>kernel_rfl) (by as_aux_lemma=>kernel_rfl) (by as_aux_lemma=>kernel_rfl) (by as_aux_lemma=>kernel_rfl) (by as_aux_lemma=>kernel_rfl) (by as_aux_lemma=>kernel_rfl) (by as_aux_lemma=>kernel_rfl) (by as_aux_lemma=>kernel_rfl) (by as_aux_lemma=>kernel_rfl) (by as_aux_lemma=>kernel_rfl) (by as_aux_lemma=>kernel_rfl) (by as_aux_lemma=>kernel_rfl) (by as_aux_lemma=>kernel_rfl) (by as_aux_lemma=>kernel_rfl) (by as_aux_lemma=>kernel_rfl) (by as_aux_lemma=>kernel_rfl) (by as_aux_lemma=>kernel_rfl) (by as_aux_lemma=>kernel_rfl) (by as_aux_lemma=>kernel_rfl) (by as_aux_lemma=>kernel_rfl) (by as_aux_lemma=>kernel_rfl) (by as_aux_lemma=>kernel_rfl) (by as_aux_lemma=>kernel_rfl) (by as_aux_lemma=>kernel_rfl) (by as_aux_lemma=>kernel_rfl) (by as_aux_lemma=>kernel_rfl) (by as_aux_lemma=>kernel_rfl)
theorem said:Rows.DiskPlaysUptoSaid:=
 OpenClaim.holds_of_cond 5 Tryz.f5 rfl rfl rfl rfl rfl rfl rfl ⟨rfl,rfl,rfl,rfl,rfl⟩ rfl rfl rfl rfl rfl (by kernel_rfl) Tryz.func5 apS_
  (of_decide_eq_true (by kernel_rfl)) (by unfold Func.isWrapper;first| (rw[if_pos (by decide+kernel)];kernel_rfl) | (rw[if_neg (by decide+kernel)];exact⟨rfl,rfl⟩))
  (fun os started H enc _ F=>by rw[OpenClaim.pre_eq_preRow];exact lifted os started H enc F)
theorem plain (f:FuncId) (fn:Func) (hf:Tryz.pinned.checked.prog.funcNamed "sediment/sedimentlaw13.DiskPlays" =some f) (hfn:Tryz.pinned.checked.prog.funcs[f]? =some fn):
  true=Tryz.pinned.checked.prog.looks []∧ ∀ (j:Nat) t,fn.params[j]? =some t→Tryz.pinned.checked.prog.wantsStandIn t=false:=by
 obtain rfl:f=5:=Option.some.inj ((show Tryz.prog.funcNamed "sediment/sedimentlaw13.DiskPlays" =some 5 by kernel_rfl).symm.trans hf) |>.symm
 obtain rfl:fn=Tryz.f5:=(Option.some.inj (Tryz.func5.symm.trans hfn)).symm
 refine⟨by kernel_rfl,fun j t ht=> ?_⟩
 rw[Tryz.params5] at ht
 have hm:t=3∨t=22∨t=23:=by
  have ht:=Array.mem_of_getElem? ht
  first|simpa using ht| (simp at ht;rcases ht with h|h|h|h|h<;>simp[h]) | (simp at ht;rcases ht with h|h|h|h<;>simp[h]) | (simp at ht;rcases ht with h|h|h<;>simp[h])
 rcases hm with rfl|rfl|rfl
 ·exact(show Tryz.prog.wantsStandIn 3=false by kernel_rfl)
 ·exact(show Tryz.prog.wantsStandIn 22=false by kernel_rfl)
 ·exact(show Tryz.prog.wantsStandIn 23=false by kernel_rfl)
theorem card:Rows.DiskPlaysUptoCardSaid:=
 Claim7.holds_tied_plain_at .later [] _ _ _ _ said (fun _ h=>by cases h) (by kernel_rfl) (fun _ h=>by cases h) diskPlaysUpto_row_tie rfl ⟨rfl,rfl⟩ (by kernel_rfl) rfl plain (by kernel_rfl)
end Go.Proofs.YtjjiclcgdngfdaaGreatDoor.diskPlays
