/-
  The law answers true for every input, and its arguments read as they did.
  No conditions.
-/
import Derived.Test.YtjjiclcgdngfdaaGreatDoorR5
import Derived.Test.YtjjiclcgdngfdaaGreatDoorRows
import Derived.Test.YtjjiclcgdngfdaaGreatDoorCards
import Derived.Test.YtjjiclcgdngfdaaGreatDoorTie
import Derived.Deep.DeepHandedRow
namespace Go.Proofs.YtjjiclcgdngfdaaGreatDoor.looseRight
open Go Go.Proofs Go.Sx Go.Dig
open Go.ChangeShapes Go.WideShapes Go.ChangeAt Go.RowKit Go.ChangeMaps
set_option maxRecDepth 100000
set_option maxHeartbeats 40000000
theorem tu {H:Type} {d:DataW H}: ∀ {l:List (DataW H)},d∈l→Rows.uptoBulk d≤Rows.uptoBulkAll l
 |e::r,h=>by
  rw[Rows.uptoBulkAll]
  rcases List.mem_cons.1 h with rfl|h
  ·omega
  ·have:=tu h
   omega
theorem own:ownKnob Tryz.prog.godebug=none:=by kernel_rfl
theorem UE:laidOutB Tryz.prog=true:=by kernel_rfl
def kZ:List Int:=kL.map fun x=>(x.toNat:Int)
def uk:List Int:=initL.map fun x=>(x.toNat:Int)
def hvZ:List Int:=hvL.map fun x=>(x.toNat:Int)
theorem QR {H:Type}: (Rows.laid_sediment_digest_rounds:DataW H)=Lib.tabData .u32 kZ:=by rfl
theorem U9 {H:Type}: (Rows.laid_sediment_digest_first:DataW H)=Lib.tabData .u32 uk:=by rfl
theorem RO {H:Type}: (Rows.laid_sediment_crc_halves:DataW H)=Lib.tabData .u32 hvZ:=by rfl
theorem T7 {H:Type}: (Rows.laid_sediment_disk_order:DataW H)= .agg [.lit (.string aG), .lit (.string kh), .lit (.string refD)]:=by rfl
theorem Ul:Tryz.prog.cellsOf 227=8:=by kernel_rfl
theorem U4:Tryz.prog.cellsOf 256=64:=by kernel_rfl
theorem TH:Tryz.prog.cellsOf 294=16:=by kernel_rfl
theorem uE:Tryz.prog.cellsOf 207=1:=by kernel_rfl
theorem glob {W:World} (h:laidMet Tryz.prog [("sediment/crc.halves",Rows.laid_sediment_crc_halves),("sediment/digest.rounds",Rows.laid_sediment_digest_rounds),("sediment/digest.first",Rows.laid_sediment_digest_first),("sediment/disk.order",Rows.laid_sediment_disk_order)] W):GlbA W W.heap.size:=by
 obtain⟨ps,hv,-⟩:=h
 obtain⟨e0,f0,h0⟩:=Hv (P:=Tryz.prog) (g:=3) (by kernel_rfl) (Ga (P:=Tryz.prog) (name:= "sediment/digest.first") (k:= .u32) (zs:=uk) (t:=227) (e:=207) (n:=8) (g:=3) (by kernel_rfl) (by kernel_rfl) Tryz.underlying227 Tryz.underlying207 uE Ul hv (by rw[←U9];exact .tail _ (.tail _ (.head _))))
 obtain⟨e1,f1,h1⟩:=Hv (P:=Tryz.prog) (g:=4) (by kernel_rfl) (Ga (P:=Tryz.prog) (name:= "sediment/digest.rounds") (k:= .u32) (zs:=kZ) (t:=256) (e:=207) (n:=64) (g:=4) (by kernel_rfl) (by kernel_rfl) Tryz.underlying256 Tryz.underlying207 uE U4 hv (by rw[←QR];exact .tail _ (.head _)))
 obtain⟨e2,f2,h2⟩:=Hv (P:=Tryz.prog) (g:=2) (by kernel_rfl) (Ga (P:=Tryz.prog) (name:= "sediment/crc.halves") (k:= .u32) (zs:=hvZ) (t:=294) (e:=207) (n:=16) (g:=2) (by kernel_rfl) (by kernel_rfl) Tryz.underlying294 Tryz.underlying207 uE TH hv (by rw[←RO];exact .head _))
 refine GlbA.mk0 ⟨e2,f2, ?_⟩ ⟨e0,e1,f0,f1, ?_, ?_⟩ (YQ hv (by rw[T7];exact .tail _ (.tail _ (.tail _ (.head _)))))
 ·rw[h2,hvZ,List.map_map];rfl
 ·rw[h0,uk,List.map_map];rfl
 ·rw[h1,kZ,List.map_map];rfl
def qW (a:Array Value):Obj→Obj
 | .cells _ t frozen=> .cells a t frozen
 |o=>o
noncomputable def HN (os:Os):World:=
 {World.holding Tryz.prog os ⟨#[], #[],[]⟩ with heap:=((((World.holding Tryz.prog os ⟨#[], #[],[]⟩).heap.modify 3 (qW (a32 initL))).modify 4 (qW (a32 kL))).modify 2 (qW (a32 hvL))).modify 0 (qW #[vs aG,vs kh,vs refD])}
theorem Rv: ∀t∈Tryz.f12.params.toList,Tryz.prog.readableRec t=true∧t<Tryz.prog.types.size:=by
 intro t ht
 have hm:t=22∨t=93∨t=5∨t=24:=by
  rw[Tryz.params12] at ht
  first|simpa using ht| (simp at ht;rcases ht with h|h|h|h<;>simp[h])
 rcases hm with rfl|rfl|rfl|rfl
 ·exact⟨by kernel_rfl,of_decide_eq_true (by kernel_rfl)⟩
 ·exact⟨by kernel_rfl,of_decide_eq_true (by kernel_rfl)⟩
 ·exact⟨by kernel_rfl,of_decide_eq_true (by kernel_rfl)⟩
 ·exact⟨by kernel_rfl,of_decide_eq_true (by kernel_rfl)⟩
theorem resultTypes:Tryz.f12.resultTypes= #[4]:=by kernel_rfl
theorem RK (H:Type) (enc:TypeId×Value→H) (W:World) (base:Nat) (args:Array Value) (ds gs:List (DataW H)) (before:List MemPlace)
  (dv: ∀ (j:Nat) t v,Tryz.f12.params[j]? =some t→args[j]? =some v→Value.okWide Tryz.prog W .any base t v)
  (hW:DataW.Whole enc Tryz.prog Tryz.f12.params.toList Rows.looseRightSpec.vars false W args.toList ds gs before) (hK: ∀k,(Rows.OpenSpec.upto Rows.looseRightSpec).cond=some k→k H (ds++gs)=true) (hL:laidMetH Tryz.prog Rows.looseRightUptoRow.laid W):
  Calls Tryz.prog 12 args W fun e W'=> ∃v,e= .returned v∧Rows.looseRightSpec.post enc Tryz.prog Tryz.f12 false true false false W args v W':=by
 have Zf:=hW
 obtain⟨p,q,Vv,hV,rfl,x5,bE⟩:=hW
 have hA:DataW.TrodAll enc Tryz.prog W 0 (fun _=>true) true Tryz.f12.params.toList args.toList ds p:=Vv
 rw[Tryz.params12] at hA dv
 obtain⟨v0,vs0,d0,ds0,p0,q0,oA,rfl,rfl,h0,r0⟩:=trodAll_cons hA
 obtain⟨v1,vs1,d1,ds1,p1,q1,rfl,rfl,rfl,h1,r1⟩:=trodAll_cons r0
 obtain⟨v2,vs2,d2,ds2,p2,q2,rfl,rfl,rfl,h2,r2⟩:=trodAll_cons r1
 obtain⟨v3,vs3,d3,ds3,p3,q3,rfl,rfl,rfl,h3,r3⟩:=trodAll_cons r2
 obtain⟨rfl,rfl,rfl⟩:=trodAll_nil r3
 obtain rfl:args= #[v0,v1,v2,v3]:=by cases args;simp_all
 have hB:Rows.uptoBulkAll ([d0,d1,d2,d3]++gs)≤1048576:=of_decide_eq_true (hK _ rfl)
 have fT:=Nat.le_trans (tu (d:=d0) (by simp)) hB
 obtain⟨l0,xA,oV⟩:=KZ (dv 0 22 v0 rfl rfl) h0
 have rR:FiB l0:=by
  rcases oV with rfl| ⟨es,sp',rfl,iO⟩
  ·intro s hs;cases hs
  ·intro s hs
   obtain⟨g,hg,rfl⟩:=List.getElem_of_mem hs
   obtain⟨e,he,rfl⟩:=iO g hg
   have h1:=tu he
   rw[show l0.getD g fi0=l0[g] from by rw[List.getD_eq_getElem?_getD,List.getElem?_eq_getElem hg];rfl] at h1
   simp only[Rows.uptoBulk,Rows.uptoBulkAll] at h1 fT
   omega
 obtain⟨l1,js,hx1⟩:=KH (dv 1 93 v1 rfl rfl) h1
 obtain⟨n2,rfl,rfl,rfl,bH⟩:=open_int Tryz.underlying5 (dv 2 5 v2 rfl rfl) h2
 obtain⟨c2,dL⟩:=Vb bH
 rw[dL] at Zf ⊢
 obtain⟨k3,rfl,hx3⟩:=Pg h3 (NK (dv 3 24 v3 rfl rfl))
 have hG:=glob hL
 refine Calls.mono (VQ_ v0 l0 v1 l1 c2 k3 _ W hG xA rR js hx1 hx3) ?_
 rintro e W' ⟨v,D,rfl,hp,rfl,rfl⟩
 exact⟨_,rfl,PE UE Zf rfl Rv resultTypes Tryz.underlying4 rfl hp⟩
def wit:Array Value:= #[.slice none 0 0, .slice none 0 0, .int .u8 0, .slice none 0 0]
theorem Rc (os:Os):laidMet Tryz.prog Rows.looseRightUptoRow.laid ((HN os).forCall (fun _ _=>0) ⟨#[],wit,[]⟩).memory:=
 laidMet_of_run' 8 (by kernel_rfl) (by kernel_rfl)
theorem VL (os:Os) {H:Type} (enc:TypeId×Value→H): ∃places,DataW.whole enc Tryz.prog ((HN os).forCall (fun _ _=>0) ⟨#[],wit,[]⟩).memory Tryz.f12.params.toList Rows.looseRightSpec.vars false wit.toList 8=some ([.nil, .nil, .lit (.int .u8 0), .nil],[],places):=
 ⟨[],by kernel_rfl⟩
theorem lifted (os:Os) (started:os.Started) (H:Type) (enc:TypeId×Value→H) (F:Stop.Interp):
  ReturnsInHanded {} Tryz.checked os 12 .any ((Rows.OpenSpec.upto Rows.looseRightSpec).preRow enc Tryz.prog Tryz.f12 Rows.looseRightUptoRow.domain false Rows.looseRightUptoRow.laid) (((Rows.OpenSpec.upto Rows.looseRightSpec).at F).post enc Tryz.prog Tryz.f12 false true false false):=by
 obtain⟨places,hx⟩:=VL os enc
 refine returnsInHanded_of_row (C:=Tryz.checked) (s:=Rows.OpenSpec.upto Rows.looseRightSpec) own started (by kernel_rfl) Tryz.func12
  (witness_row_at (enc:=enc) (C:=Tryz.checked) false (HN os) wit rfl (by kernel_rfl) (by kernel_rfl) (by kernel_rfl)
   (OpenSpec.preRow_of_cond 8 hx (by kernel_rfl) (fun k hk=>by cases hk;kernel_rfl) (by kernel_rfl) (Rc os))) ?_
 intro W base args ds gs before dv hW _ hK _ hL _ _
 exact RK H enc W base args ds gs before dv hW hK hL
theorem Uu:joinedFacts Tryz.pinned.checked.prog 12 Tryz.f12 (Rows.OpenSpec.upto Rows.looseRightSpec).bare Rows.looseRightUptoRow=true:=by
 apply Qo<;>as_aux_lemma=>kernel_rfl
theorem said:Rows.LooseRightUptoSaid:=
 OpenClaim.holds_of_cond 12 Tryz.f12 rfl rfl rfl rfl rfl rfl rfl ⟨rfl,rfl,rfl,rfl,rfl⟩ rfl rfl rfl rfl rfl (by kernel_rfl) Tryz.func12 Uu
  (of_decide_eq_true (by kernel_rfl)) (by unfold Func.isWrapper;first| (rw[if_pos (by decide+kernel)];kernel_rfl) | (rw[if_neg (by decide+kernel)];exact⟨rfl,rfl⟩))
  (fun os started H enc _ F=>by rw[OpenClaim.pre_eq_preRow];exact lifted os started H enc F)
theorem plain (f:FuncId) (fn:Func) (hf:Tryz.pinned.checked.prog.funcNamed "sediment/sedimentlaw15.LooseRight" =some f) (gE:Tryz.pinned.checked.prog.funcs[f]? =some fn):
  true=Tryz.pinned.checked.prog.looks []∧ ∀ (j:Nat) t,fn.params[j]? =some t→Tryz.pinned.checked.prog.wantsStandIn t=false:=by
 obtain rfl:f=12:=Option.some.inj ((show Tryz.prog.funcNamed "sediment/sedimentlaw15.LooseRight" =some 12 by kernel_rfl).symm.trans hf) |>.symm
 obtain rfl:fn=Tryz.f12:=(Option.some.inj (Tryz.func12.symm.trans gE)).symm
 refine⟨by kernel_rfl,fun j t ht=> ?_⟩
 rw[Tryz.params12] at ht
 have hm:t=22∨t=93∨t=5∨t=24:=by
  have ht:=Array.mem_of_getElem? ht
  first|simpa using ht| (simp at ht;rcases ht with h|h|h|h<;>simp[h])
 rcases hm with rfl|rfl|rfl|rfl
 ·exact(show Tryz.prog.wantsStandIn 22=false by kernel_rfl)
 ·exact(show Tryz.prog.wantsStandIn 93=false by kernel_rfl)
 ·exact(show Tryz.prog.wantsStandIn 5=false by kernel_rfl)
 ·exact(show Tryz.prog.wantsStandIn 24=false by kernel_rfl)
theorem card:Rows.LooseRightUptoCardSaid:=
 Claim7.holds_tied_plain_at .later [] _ _ _ _ said (fun _ h=>by cases h) (by kernel_rfl) (fun _ h=>by cases h) looseRightUpto_row_tie rfl ⟨rfl,rfl⟩ (by kernel_rfl) rfl plain (by kernel_rfl)
end Go.Proofs.YtjjiclcgdngfdaaGreatDoor.looseRight
