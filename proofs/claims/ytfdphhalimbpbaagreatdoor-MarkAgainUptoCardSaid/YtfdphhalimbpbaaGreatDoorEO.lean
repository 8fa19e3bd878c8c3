/-
  The law answers true for every input, and its arguments read as they did.
  No conditions.
-/
import Derived.Test.YtfdphhalimbpbaaGreatDoorA5
import Derived.Test.YtfdphhalimbpbaaGreatDoorRows
import Derived.Test.YtfdphhalimbpbaaGreatDoorCards
import Derived.Test.YtfdphhalimbpbaaGreatDoorTie
import Derived.Deep.DeepHandedRow
namespace Go.Proofs.YtfdphhalimbpbaaGreatDoor.markAgain
open Go Go.Proofs Go.Sx Go.Dig
open Go.ChangeShapes Go.WideShapes Go.ChangeAt Go.RowKit Go.ChangeMaps
set_option maxRecDepth 100000
set_option maxHeartbeats 40000000
theorem Vl_ {H:Type} {d:DataW H}: ∀ {l:List (DataW H)},d∈l→Rows.uptoBulk d≤Rows.uptoBulkAll l
 |e::r,h=>by
  rw[Rows.uptoBulkAll]
  rcases List.mem_cons.1 h with rfl|h
  ·omega
  ·have:=Vl_ h
   omega
theorem ajA_ {H:Type} (d:DataW H):1≤Rows.uptoBulk d:=by
 cases d with
 |lit l=>cases l<;>simp[Rows.uptoBulk]
 |_=>simp[Rows.uptoBulk]
theorem KR_ {H:Type}: ∀ (l:List (DataW H)),l.length≤Rows.uptoBulkAll l
 | []=>Nat.zero_le _
 |e::r=>by
  rw[Rows.uptoBulkAll,List.length_cons]
  have:=ajA_ e
  have:=KR_ r
  omega
theorem own:ownKnob Tryz.prog.godebug=none:=by kernel_rfl
theorem alN_:laidOutB Tryz.prog=true:=by kernel_rfl
def kZ:List Int:=kL.map fun x=>(x.toNat:Int)
def ama_:List Int:=initL.map fun x=>(x.toNat:Int)
theorem aiF_ {H:Type}: (Rows.laid_sediment_digest_rounds:DataW H)=Lib.tabData .u32 kZ:=by rfl
theorem alI_ {H:Type}: (Rows.laid_sediment_digest_first:DataW H)=Lib.tabData .u32 ama_:=by rfl
theorem am4_:Tryz.prog.cellsOf 251=8:=by kernel_rfl
theorem amh_:Tryz.prog.cellsOf 307=64:=by kernel_rfl
theorem ahO_:Tryz.prog.cellsOf 250=1:=by kernel_rfl
theorem glob {W:World} (h:laidMet Tryz.prog [("sediment/digest.rounds",Rows.laid_sediment_digest_rounds),("sediment/digest.first",Rows.laid_sediment_digest_first)] W):GlobE W:=by
 obtain⟨ps,hv,-⟩:=h
 obtain⟨e0,f0,h0⟩:=Jc_ (P:=Tryz.prog) (g:=2) (by kernel_rfl) (wT_ (P:=Tryz.prog) (name:= "sediment/digest.first") (k:= .u32) (zs:=ama_) (t:=251) (e:=250) (n:=8) (g:=2) (by kernel_rfl) (by kernel_rfl) Tryz.underlying251 Tryz.underlying250 ahO_ am4_ hv (by rw[←alI_];exact .tail _ (.head _)))
 obtain⟨e1,f1,h1⟩:=Jc_ (P:=Tryz.prog) (g:=3) (by kernel_rfl) (wT_ (P:=Tryz.prog) (name:= "sediment/digest.rounds") (k:= .u32) (zs:=kZ) (t:=307) (e:=250) (n:=64) (g:=3) (by kernel_rfl) (by kernel_rfl) Tryz.underlying307 Tryz.underlying250 ahO_ amh_ hv (by rw[←aiF_];exact .head _))
 refine⟨e0,e1,f0,f1, ?_, ?_⟩
 ·rw[h0,ama_,List.map_map];rfl
 ·rw[h1,kZ,List.map_map];rfl
def aky_ (a:Array Value):Obj→Obj
 | .cells _ t frozen=> .cells a t frozen
 |o=>o
noncomputable def Q9_ (os:Os):World:=
 {World.holding Tryz.prog os ⟨#[], #[],[]⟩ with heap:=((World.holding Tryz.prog os ⟨#[], #[],[]⟩).heap.modify 2 (aky_ (a32 initL))).modify 3 (aky_ (a32 kL))}
theorem ajr_: ∀t∈Tryz.f8.params.toList,Tryz.prog.readableRec t=true∧t<Tryz.prog.types.size:=by
 intro t ht
 have hm:t=22∨t=30∨t=5:=by
  rw[Tryz.params8] at ht
  first|simpa using ht| (simp at ht;rcases ht with h|h|h|h<;>simp[h])
 rcases hm with rfl|rfl|rfl
 ·exact⟨by kernel_rfl,of_decide_eq_true (by kernel_rfl)⟩
 ·exact⟨by kernel_rfl,of_decide_eq_true (by kernel_rfl)⟩
 ·exact⟨by kernel_rfl,of_decide_eq_true (by kernel_rfl)⟩
theorem resultTypes:Tryz.f8.resultTypes= #[4]:=by kernel_rfl
theorem ajB_ (H:Type) (enc:TypeId×Value→H) (W:World) (base:Nat) (args:Array Value) (ds gs:List (DataW H)) (before:List MemPlace)
  (hval: ∀ (j:Nat) t v,Tryz.f8.params[j]? =some t→args[j]? =some v→Value.okWide Tryz.prog W .any base t v)
  (hW:DataW.Whole enc Tryz.prog Tryz.f8.params.toList Rows.markAgainSpec.vars false W args.toList ds gs before) (hK: ∀k,(Rows.OpenSpec.upto Rows.markAgainSpec).cond=some k→k H (ds++gs)=true) (hL:laidMetH Tryz.prog Rows.markAgainUptoRow.laid W):
  Calls Tryz.prog 8 args W fun e W'=> ∃v,e= .returned v∧Rows.markAgainSpec.post enc Tryz.prog Tryz.f8 false true false false W args v W':=by
 have hW':=hW
 obtain⟨p,q,hA0,hV,rfl,hfz,hnd⟩:=hW
 have hA:DataW.TrodAll enc Tryz.prog W 0 (fun _=>true) true Tryz.f8.params.toList args.toList ds p:=hA0
 rw[Tryz.params8] at hA hval
 obtain⟨v0,vs0,d0,ds0,p0,q0,hargs,rfl,rfl,h0,r0⟩:=trodAll_cons hA
 obtain⟨v1,vs1,d1,ds1,p1,q1,rfl,rfl,rfl,h1,r1⟩:=trodAll_cons r0
 obtain⟨v2,vs2,d2,ds2,p2,q2,rfl,rfl,rfl,h2,r2⟩:=trodAll_cons r1
 obtain⟨v3,vs3,d3,ds3,p3,q3,rfl,rfl,rfl,h3,r3⟩:=trodAll_cons r2
 obtain⟨rfl,rfl,rfl⟩:=trodAll_nil r3
 obtain rfl:args= #[v0,v1,v2,v3]:=by cases args;simp_all
 have hB:Rows.uptoBulkAll ([d0,d1,d2,d3]++gs)≤1048576:=of_decide_eq_true (hK _ rfl)
 have hb0:=Nat.le_trans (Vl_ (d:=d0) (by simp)) hB
 obtain⟨l0,hl0,hr0⟩:=Ko_ (hval 0 22 v0 rfl rfl) h0
 have hx0:l0.length≤1048576:=by
  rcases hr0 with rfl| ⟨es,sp',rfl,hes⟩
  ·exact Nat.zero_le _
  ·have h1:=KR_ es
   simp only[Rows.uptoBulk] at hb0
   omega
 have hb1:=Nat.le_trans (Vl_ (d:=d1) (by simp)) hB
 obtain⟨l1,hl1,hr1⟩:=Ko_ (hval 1 22 v1 rfl rfl) h1
 have hx1:l1.length≤1048576:=by
  rcases hr1 with rfl| ⟨es,sp',rfl,hes⟩
  ·exact Nat.zero_le _
  ·have h1:=KR_ es
   simp only[Rows.uptoBulk] at hb1
   omega
 obtain⟨l2,hl2⟩:=aiG_ (hval 2 30 v2 rfl rfl) h2
 obtain⟨n3,rfl,rfl,rfl,hw3⟩:=open_int Tryz.underlying5 (hval 3 5 v3 rfl rfl) h3
 obtain⟨c3,hc3⟩:=ans_ hw3
 rw[hc3] at hW' ⊢
 have hG:=glob hL
 refine Calls.mono (Xx_ v0 v1 v2 l0 l1 l2 c3 W hG hl0 hl1 hl2 hx0 hx1) ?_
 rintro e W' ⟨v,D,rfl,hp,rfl,rfl⟩
 exact⟨_,rfl,ag9_ alN_ hW' rfl ajr_ resultTypes Tryz.underlying4 rfl hp⟩
def wit:Array Value:= #[.slice none 0 0, .slice none 0 0, .slice none 0 0, .int .u8 0]
theorem ajS_ (os:Os):laidMet Tryz.prog Rows.markAgainUptoRow.laid ((Q9_ os).forCall (fun _ _=>0) ⟨#[],wit,[]⟩).memory:=
 laidMet_of_run' 8 (by kernel_rfl) (by kernel_rfl)
theorem anV_ (os:Os) {H:Type} (enc:TypeId×Value→H): ∃places,DataW.whole enc Tryz.prog ((Q9_ os).forCall (fun _ _=>0) ⟨#[],wit,[]⟩).memory Tryz.f8.params.toList Rows.markAgainSpec.vars false wit.toList 8=some ([.nil, .nil, .nil, .lit (.int .u8 0)],[],places):=
 ⟨[],by kernel_rfl⟩
theorem lifted (os:Os) (started:os.Started) (H:Type) (enc:TypeId×Value→H) (F:Stop.Interp):
  ReturnsInHanded {} Tryz.checked os 8 .any ((Rows.OpenSpec.upto Rows.markAgainSpec).preRow enc Tryz.prog Tryz.f8 Rows.markAgainUptoRow.domain false Rows.markAgainUptoRow.laid) (((Rows.OpenSpec.upto Rows.markAgainSpec).at F).post enc Tryz.prog Tryz.f8 false true false false):=by
 obtain⟨places,hx⟩:=anV_ os enc
 refine returnsInHanded_of_row (C:=Tryz.checked) (s:=Rows.OpenSpec.upto Rows.markAgainSpec) own started (by kernel_rfl) Tryz.func8
  (witness_row_at (enc:=enc) (C:=Tryz.checked) false (Q9_ os) wit rfl (by kernel_rfl) (by kernel_rfl) (by kernel_rfl)
   (OpenSpec.preRow_of_cond 8 hx (by kernel_rfl) (fun k hk=>by cases hk;kernel_rfl) (by kernel_rfl) (ajS_ os))) ?_
 intro W base args ds gs before hval hW _ hK _ hL _ _
 exact ajB_ H enc W base args ds gs before hval hW hK hL
theorem amA_:joinedFacts Tryz.pinned.checked.prog 8 Tryz.f8 (Rows.OpenSpec.upto Rows.markAgainSpec).bare Rows.markAgainUptoRow=true:=by
 apply aie_<;>as_aux_lemma=>kernel_rfl
theorem said:Rows.MarkAgainUptoSaid:=
 OpenClaim.holds_of_cond 8 Tryz.f8 rfl rfl rfl rfl rfl rfl rfl ⟨rfl,rfl,rfl,rfl,rfl⟩ rfl rfl rfl rfl rfl (by kernel_rfl) Tryz.func8 amA_
  (of_decide_eq_true (by kernel_rfl)) (by unfold Func.isWrapper;first| (rw[if_pos (by decide+kernel)];kernel_rfl) | (rw[if_neg (by decide+kernel)];exact⟨rfl,rfl⟩))
  (fun os started H enc _ F=>by rw[OpenClaim.pre_eq_preRow];exact lifted os started H enc F)
theorem plain (f:FuncId) (fn:Func) (hf:Tryz.pinned.checked.prog.funcNamed "sediment/sedimentlaw19.MarkAgain" =some f) (hfn:Tryz.pinned.checked.prog.funcs[f]? =some fn):
  true=Tryz.pinned.checked.prog.looks []∧ ∀ (j:Nat) t,fn.params[j]? =some t→Tryz.pinned.checked.prog.wantsStandIn t=false:=by
 obtain rfl:f=8:=Option.some.inj ((show Tryz.prog.funcNamed "sediment/sedimentlaw19.MarkAgain" =some 8 by kernel_rfl).symm.trans hf) |>.symm
 obtain rfl:fn=Tryz.f8:=(Option.some.inj (Tryz.func8.symm.trans hfn)).symm
 refine⟨by kernel_rfl,fun j t ht=> ?_⟩
 rw[Tryz.params8] at ht
 have hm:t=22∨t=30∨t=5:=by
  have ht:=Array.mem_of_getElem? ht
  first|simpa using ht| (simp at ht;rcases ht with h|h|h|h<;>simp[h])
 rcases hm with rfl|rfl|rfl
 ·exact(show Tryz.prog.wantsStandIn 22=false by kernel_rfl)
 ·exact(show Tryz.prog.wantsStandIn 30=false by kernel_rfl)
 ·exact(show Tryz.prog.wantsStandIn 5=false by kernel_rfl)
theorem card:Rows.MarkAgainUptoCardSaid:=
 Claim7.holds_tied_plain_at .later [] _ _ _ _ said (fun _ h=>by cases h) (by kernel_rfl) (fun _ h=>by cases h) markAgainUpto_row_tie rfl ⟨rfl,rfl⟩ (by kernel_rfl) rfl plain (by kernel_rfl)
end Go.Proofs.YtfdphhalimbpbaaGreatDoor.markAgain
