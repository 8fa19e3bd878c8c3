/-
  The law answers true for every input, and its arguments read as they did.
  No conditions.
-/
import Derived.Test.YtooklcgflocbcaaGreatDoorK4
import Derived.Test.YtooklcgflocbcaaGreatDoorRows
import Derived.Test.YtooklcgflocbcaaGreatDoorCards
import Derived.Test.YtooklcgflocbcaaGreatDoorTie
import Derived.Deep.DeepHandedRow
namespace Go.Proofs.YtooklcgflocbcaaGreatDoor.indexOpens
open Go Go.Proofs Go.Sx Go.Dig
open Go.ChangeShapes Go.WideShapes Go.ChangeAt Go.RowKit Go.ChangeMaps
set_option maxRecDepth 100000
theorem own:ownKnob Tryz.prog.godebug=none:=by kernel_rfl
theorem ac4_:laidOutB Tryz.prog=true:=by kernel_rfl
def kZ:List Int:=kL.map fun x=>(x.toNat:Int)
def acT_:List Int:=initL.map fun x=>(x.toNat:Int)
def hvZ:List Int:=hvL.map fun x=>(x.toNat:Int)
theorem Vk_ {H:Type}: (Rows.laid_sediment_digest_rounds:DataW H)=Lib.tabData .u32 kZ:=by rfl
theorem abt_ {H:Type}: (Rows.laid_sediment_digest_first:DataW H)=Lib.tabData .u32 acT_:=by rfl
theorem KQ_ {H:Type}: (Rows.laid_sediment_crc_halves:DataW H)=Lib.tabData .u32 hvZ:=by rfl
theorem agP_:Tryz.prog.cellsOf 244=8:=by kernel_rfl
theorem ac3_:Tryz.prog.cellsOf 274=64:=by kernel_rfl
theorem abA_:Tryz.prog.cellsOf 297=16:=by kernel_rfl
theorem wX_:Tryz.prog.cellsOf 202=1:=by kernel_rfl
theorem glob {W:World} (h:laidMet Tryz.prog [("sediment/crc.halves",Rows.laid_sediment_crc_halves),("sediment/digest.rounds",Rows.laid_sediment_digest_rounds),("sediment/digest.first",Rows.laid_sediment_digest_first)] W):GlobE W∧GlobC W:=by
 obtain⟨ps,hv,-⟩:=h
 obtain⟨e0,f0,h0⟩:=j9_ (P:=Tryz.prog) (g:=2) (by kernel_rfl) (jM_ (P:=Tryz.prog) (name:= "sediment/digest.first") (k:= .u32) (zs:=acT_) (t:=244) (e:=202) (n:=8) (g:=2) (by kernel_rfl) (by kernel_rfl) Tryz.underlying244 Tryz.underlying202 wX_ agP_ hv (by rw[←abt_];exact .tail _ (.tail _ (.head _))))
 obtain⟨e1,f1,h1⟩:=j9_ (P:=Tryz.prog) (g:=3) (by kernel_rfl) (jM_ (P:=Tryz.prog) (name:= "sediment/digest.rounds") (k:= .u32) (zs:=kZ) (t:=274) (e:=202) (n:=64) (g:=3) (by kernel_rfl) (by kernel_rfl) Tryz.underlying274 Tryz.underlying202 wX_ ac3_ hv (by rw[←Vk_];exact .tail _ (.head _)))
 obtain⟨e2,f2,h2⟩:=j9_ (P:=Tryz.prog) (g:=1) (by kernel_rfl) (jM_ (P:=Tryz.prog) (name:= "sediment/crc.halves") (k:= .u32) (zs:=hvZ) (t:=297) (e:=202) (n:=16) (g:=1) (by kernel_rfl) (by kernel_rfl) Tryz.underlying297 Tryz.underlying202 wX_ abA_ hv (by rw[←KQ_];exact .head _))
 refine⟨⟨e0,e1,f0,f1, ?_, ?_⟩,e2,f2, ?_⟩
 ·rw[h0,acT_,List.map_map];rfl
 ·rw[h1,kZ,List.map_map];rfl
 ·rw[h2,hvZ,List.map_map];rfl
def Xf_ (a:Array Value):Obj→Obj
 | .cells _ t frozen=> .cells a t frozen
 |o=>o
noncomputable def kr_ (os:Os):World:=
 {World.holding Tryz.prog os ⟨#[], #[],[]⟩ with heap:=(((World.holding Tryz.prog os ⟨#[], #[],[]⟩).heap.modify 2 (Xf_ (a32 initL))).modify 3 (Xf_ (a32 kL))).modify 1 (Xf_ (a32 hvL))}
theorem Vw_: ∀t∈Tryz.f9.params.toList,Tryz.prog.readableRec t=true∧t<Tryz.prog.types.size:=by
 intro t ht
 have hm:t=9∨t=30:=by
  rw[Tryz.params9] at ht
  first|simpa using ht| (simp at ht;rcases ht with h|h|h<;>simp[h])
 rcases hm with rfl|rfl
 ·exact⟨by kernel_rfl,of_decide_eq_true (by kernel_rfl)⟩
 ·exact⟨by kernel_rfl,of_decide_eq_true (by kernel_rfl)⟩
theorem resultTypes:Tryz.f9.resultTypes= #[4]:=by kernel_rfl
theorem V0_ (H:Type) (enc:TypeId×Value→H) (W:World) (base:Nat) (args:Array Value) (ds gs:List (DataW H)) (before:List MemPlace)
  (hval: ∀ (j:Nat) t v,Tryz.f9.params[j]? =some t→args[j]? =some v→Value.okWide Tryz.prog W .any base t v)
  (hW:DataW.Whole enc Tryz.prog Tryz.f9.params.toList Rows.indexOpensSpec.vars false W args.toList ds gs before) (hL:laidMetH Tryz.prog Rows.indexOpensRow.laid W):
  Calls Tryz.prog 9 args W fun e W'=> ∃v,e= .returned v∧Rows.indexOpensSpec.post enc Tryz.prog Tryz.f9 false true false false W args v W':=by
 have hW':=hW
 obtain⟨p,q,hA0,hV,rfl,hfz,hnd⟩:=hW
 have hA:DataW.TrodAll enc Tryz.prog W 0 (fun _=>true) true Tryz.f9.params.toList args.toList ds p:=hA0
 rw[Tryz.params9] at hA hval
 obtain⟨v0,vs0,d0,ds0,p0,q0,hargs,rfl,rfl,h0,r0⟩:=trodAll_cons hA
 obtain⟨v1,vs1,d1,ds1,p1,q1,rfl,rfl,rfl,h1,r1⟩:=trodAll_cons r0
 obtain⟨v2,vs2,d2,ds2,p2,q2,rfl,rfl,rfl,h2,r2⟩:=trodAll_cons r1
 obtain⟨rfl,rfl,rfl⟩:=trodAll_nil r2
 obtain rfl:args= #[v0,v1,v2]:=by cases args;simp_all
 obtain⟨s0,rfl,rfl,rfl,hs0⟩:=open_string Tryz.underlying9 (hval 0 9 v0 rfl rfl) h0
 obtain⟨l1,hl1⟩:=alx_ (hval 1 30 v1 rfl rfl) h1
 obtain⟨s2,rfl,rfl,rfl,hs2⟩:=open_string Tryz.underlying9 (hval 2 9 v2 rfl rfl) h2
 have hG:=glob hL
 refine Calls.mono (JE_ s0.data.toList v1 l1 s2.data.toList W hG.1 hG.2 hl1) ?_
 rintro e W' ⟨v,D,rfl,hp,rfl,rfl⟩
 exact⟨_,rfl,aan_ ac4_ hW' rfl Vw_ resultTypes Tryz.underlying4 rfl hp⟩
def wit:Array Value:= #[.string ByteArray.empty, .slice none 0 0, .string ByteArray.empty]
theorem K1_ (os:Os):laidMet Tryz.prog Rows.indexOpensRow.laid ((kr_ os).forCall (fun _ _=>0) ⟨#[],wit,[]⟩).memory:=
 laidMet_of_run' 8 (by kernel_rfl) (by kernel_rfl)
theorem amj_ (os:Os) {H:Type} (enc:TypeId×Value→H): ∃places,DataW.whole enc Tryz.prog ((kr_ os).forCall (fun _ _=>0) ⟨#[],wit,[]⟩).memory Tryz.f9.params.toList Rows.indexOpensSpec.vars false wit.toList 8=some ([.lit (.string []), .nil, .lit (.string [])],[],places):=
 ⟨[],by kernel_rfl⟩
theorem aiM_ (os:Os) (started:os.Started) (H:Type) (enc:TypeId×Value→H) (F:Stop.Interp):
  ReturnsInHanded {} Tryz.checked os 9 .any ((OpenSpec.ofChange Rows.indexOpensSpec).preRow enc Tryz.prog Tryz.f9 Rows.indexOpensRow.domain false Rows.indexOpensRow.laid) (((OpenSpec.ofChange Rows.indexOpensSpec).at F).post enc Tryz.prog Tryz.f9 false true false false):=by
 obtain⟨places,hx⟩:=amj_ os enc
 refine returnsInHanded_of_row (C:=Tryz.checked) (s:=OpenSpec.ofChange Rows.indexOpensSpec) own started (by kernel_rfl) Tryz.func9
  (witness_row_at (enc:=enc) (C:=Tryz.checked) false (kr_ os) wit rfl (by kernel_rfl) (by kernel_rfl) (by kernel_rfl)
   (OpenSpec.preRow_of_cond 8 hx (by kernel_rfl) (fun k hk=>by cases hk) (by kernel_rfl) (K1_ os))) ?_
 intro W base args ds gs before hval hW _ _ _ hL _ _
 exact V0_ H enc W base args ds gs before hval hW hL
theorem said:Rows.IndexOpensSaid:=
 OpenClaim.holds_of_cond 9 Tryz.f9 rfl rfl rfl rfl rfl rfl rfl ⟨rfl,rfl,rfl,rfl,rfl⟩ rfl rfl rfl rfl rfl (by kernel_rfl) Tryz.func9 (by kernel_rfl)
  (of_decide_eq_true (by kernel_rfl)) (by unfold Func.isWrapper;first| (rw[if_pos (by decide+kernel)];kernel_rfl) | (rw[if_neg (by decide+kernel)];exact⟨rfl,rfl⟩))
  (fun os started H enc _ F=>by rw[OpenClaim.pre_eq_preRow];exact aiM_ os started H enc F)
theorem plain (f:FuncId) (fn:Func) (hf:Tryz.pinned.checked.prog.funcNamed "sediment/sedimentlaw11.IndexOpens" =some f) (hfn:Tryz.pinned.checked.prog.funcs[f]? =some fn):
  false=Tryz.pinned.checked.prog.looks []∧ ∀ (j:Nat) t,fn.params[j]? =some t→Tryz.pinned.checked.prog.wantsStandIn t=false:=by
 obtain rfl:f=9:=Option.some.inj ((show Tryz.prog.funcNamed "sediment/sedimentlaw11.IndexOpens" =some 9 by kernel_rfl).symm.trans hf) |>.symm
 obtain rfl:fn=Tryz.f9:=(Option.some.inj (Tryz.func9.symm.trans hfn)).symm
 refine⟨by kernel_rfl,fun j t ht=> ?_⟩
 rw[Tryz.params9] at ht
 have hm:t=9∨t=30:=by
  have ht:=Array.mem_of_getElem? ht
  first|simpa using ht| (simp at ht;rcases ht with h|h|h<;>simp[h])
 rcases hm with rfl|rfl
 ·exact(show Tryz.prog.wantsStandIn 9=false by kernel_rfl)
 ·exact(show Tryz.prog.wantsStandIn 30=false by kernel_rfl)
theorem card:Rows.IndexOpensCardSaid:=
 Claim7.holds_tied_plain_at .later [] _ _ _ _ said (fun _ h=>by cases h) (by kernel_rfl) (fun _ h=>by cases h) indexOpens_row_tie rfl ⟨rfl,rfl⟩ (by kernel_rfl) rfl plain (by kernel_rfl)
end Go.Proofs.YtooklcgflocbcaaGreatDoor.indexOpens
