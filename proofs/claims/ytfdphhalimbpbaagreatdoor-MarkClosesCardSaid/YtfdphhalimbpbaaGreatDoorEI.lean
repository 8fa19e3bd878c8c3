/-
  The law answers true for every input, and its arguments read as they did.
  No conditions.
-/
import Derived.Test.YtfdphhalimbpbaaGreatDoorM4
import Derived.Test.YtfdphhalimbpbaaGreatDoorRows
import Derived.Test.YtfdphhalimbpbaaGreatDoorCards
import Derived.Test.YtfdphhalimbpbaaGreatDoorTie
import Derived.Deep.DeepHandedRow
namespace Go.Proofs.YtfdphhalimbpbaaGreatDoor.markCloses
open Go Go.Proofs Go.Sx Go.Dig
open Go.ChangeShapes Go.WideShapes Go.ChangeAt Go.RowKit Go.ChangeMaps
set_option maxRecDepth 100000
set_option maxHeartbeats 40000000
theorem G4 {H:Type} {d:DataW H}: ∀ {l:List (DataW H)},d∈l→Rows.uptoBulk d≤Rows.uptoBulkAll l
 |e::r,h=>by
  rw[Rows.uptoBulkAll]
  rcases List.mem_cons.1 h with rfl|h
  ·omega
  ·have:=G4 h
   omega
theorem own:ownKnob Tryz.prog.godebug=none:=by kernel_rfl
theorem Ga:laidOutB Tryz.prog=true:=by kernel_rfl
def kZ:List Int:=kL.map fun x=>(x.toNat:Int)
def ol:List Int:=initL.map fun x=>(x.toNat:Int)
theorem Em {H:Type}: (Rows.laid_sediment_digest_rounds:DataW H)=Lib.tabData .u32 kZ:=by rfl
theorem Gy {H:Type}: (Rows.laid_sediment_digest_first:DataW H)=Lib.tabData .u32 ol:=by rfl
theorem IK:Tryz.prog.cellsOf 251=8:=by kernel_rfl
theorem I3:Tryz.prog.cellsOf 307=64:=by kernel_rfl
theorem sd:Tryz.prog.cellsOf 250=1:=by kernel_rfl
theorem glob {W:World} (h:laidMet Tryz.prog [("sediment/digest.rounds",Rows.laid_sediment_digest_rounds),("sediment/digest.first",Rows.laid_sediment_digest_first)] W):GlobE W:=by
 obtain⟨ps,hv,-⟩:=h
 obtain⟨e0,f0,h0⟩:=LB (P:=Tryz.prog) (g:=2) (by kernel_rfl) (KS (P:=Tryz.prog) (name:= "sediment/digest.first") (k:= .u32) (zs:=ol) (t:=251) (e:=250) (n:=8) (g:=2) (by kernel_rfl) (by kernel_rfl) Tryz.underlying251 Tryz.underlying250 sd IK hv (by rw[←Gy];exact .tail _ (.head _)))
 obtain⟨e1,f1,h1⟩:=LB (P:=Tryz.prog) (g:=3) (by kernel_rfl) (KS (P:=Tryz.prog) (name:= "sediment/digest.rounds") (k:= .u32) (zs:=kZ) (t:=307) (e:=250) (n:=64) (g:=3) (by kernel_rfl) (by kernel_rfl) Tryz.underlying307 Tryz.underlying250 sd I3 hv (by rw[←Em];exact .head _))
 refine⟨e0,e1,f0,f1, ?_, ?_⟩
 ·rw[h0,ol,List.map_map];rfl
 ·rw[h1,kZ,List.map_map];rfl
def tB (a:Array Value):Obj→Obj
 | .cells _ t frozen=> .cells a t frozen
 |o=>o
noncomputable def yL (os:Os):World:=
 {World.holding Tryz.prog os ⟨#[], #[],[]⟩ with heap:=((World.holding Tryz.prog os ⟨#[], #[],[]⟩).heap.modify 2 (tB (a32 initL))).modify 3 (tB (a32 kL))}
theorem FV: ∀t∈Tryz.f5.params.toList,Tryz.prog.readableRec t=true∧t<Tryz.prog.types.size:=by
 intro t ht
 have hm:t=22∨t=30:=by
  rw[Tryz.params5] at ht
  first|simpa using ht| (simp at ht;rcases ht with h|h<;>simp[h])
 rcases hm with rfl|rfl
 ·exact⟨by kernel_rfl,of_decide_eq_true (by kernel_rfl)⟩
 ·exact⟨by kernel_rfl,of_decide_eq_true (by kernel_rfl)⟩
theorem resultTypes:Tryz.f5.resultTypes= #[4]:=by kernel_rfl
theorem Fd (H:Type) (enc:TypeId×Value→H) (W:World) (base:Nat) (args:Array Value) (ds gs:List (DataW H)) (before:List MemPlace)
  (dm: ∀ (j:Nat) t v,Tryz.f5.params[j]? =some t→args[j]? =some v→Value.okWide Tryz.prog W .any base t v)
  (hW:DataW.Whole enc Tryz.prog Tryz.f5.params.toList Rows.markClosesSpec.vars false W args.toList ds gs before) (hL:laidMetH Tryz.prog Rows.markClosesRow.laid W):
  Calls Tryz.prog 5 args W fun e W'=> ∃v,e= .returned v∧Rows.markClosesSpec.post enc Tryz.prog Tryz.f5 false true false false W args v W':=by
 have tz:=hW
 obtain⟨p,q,Qh,hV,rfl,N1,dh⟩:=hW
 have hA:DataW.TrodAll enc Tryz.prog W 0 (fun _=>true) true Tryz.f5.params.toList args.toList ds p:=Qh
 rw[Tryz.params5] at hA dm
 obtain⟨v0,vs0,d0,ds0,p0,q0,kH,rfl,rfl,h0,r0⟩:=trodAll_cons hA
 obtain⟨v1,vs1,d1,ds1,p1,q1,rfl,rfl,rfl,h1,r1⟩:=trodAll_cons r0
 obtain⟨rfl,rfl,rfl⟩:=trodAll_nil r1
 obtain rfl:args= #[v0,v1]:=by cases args;simp_all
 obtain⟨l0,uQ⟩:=DD (dm 0 22 v0 rfl rfl) h0
 obtain⟨l1,jl⟩:=En (dm 1 30 v1 rfl rfl) h1
 have hG:=glob hL
 refine Calls.mono (O2 v0 v1 l0 l1 W hG uQ jl) ?_
 rintro e W' ⟨v,D,rfl,hp,rfl,rfl⟩
 exact⟨_,rfl,EC Ga tz rfl FV resultTypes Tryz.underlying4 rfl hp⟩
def wit:Array Value:= #[.slice none 0 0, .slice none 0 0]
theorem GE (os:Os):laidMet Tryz.prog Rows.markClosesRow.laid ((yL os).forCall (fun _ _=>0) ⟨#[],wit,[]⟩).memory:=
 laidMet_of_run' 8 (by kernel_rfl) (by kernel_rfl)
theorem I8 (os:Os) {H:Type} (enc:TypeId×Value→H): ∃places,DataW.whole enc Tryz.prog ((yL os).forCall (fun _ _=>0) ⟨#[],wit,[]⟩).memory Tryz.f5.params.toList Rows.markClosesSpec.vars false wit.toList 8=some ([.nil, .nil],[],places):=
 ⟨[],by kernel_rfl⟩
theorem lifted (os:Os) (started:os.Started) (H:Type) (enc:TypeId×Value→H) (F:Stop.Interp):
  ReturnsInHanded {} Tryz.checked os 5 .any ((OpenSpec.ofChange Rows.markClosesSpec).preRow enc Tryz.prog Tryz.f5 Rows.markClosesRow.domain false Rows.markClosesRow.laid) (((OpenSpec.ofChange Rows.markClosesSpec).at F).post enc Tryz.prog Tryz.f5 false true false false):=by
 obtain⟨places,hx⟩:=I8 os enc
 refine returnsInHanded_of_row (C:=Tryz.checked) (s:=OpenSpec.ofChange Rows.markClosesSpec) own started (by kernel_rfl) Tryz.func5
  (witness_row_at (enc:=enc) (C:=Tryz.checked) false (yL os) wit rfl (by kernel_rfl) (by kernel_rfl) (by kernel_rfl)
   (OpenSpec.preRow_of_cond 8 hx (by kernel_rfl) (fun k hk=>by cases hk) (by kernel_rfl) (GE os))) ?_
 intro W base args ds gs before dm hW _ _ _ hL _ _
 exact Fd H enc W base args ds gs before dm hW hL
theorem Hb:joinedFacts Tryz.pinned.checked.prog 5 Tryz.f5 (OpenSpec.ofChange Rows.markClosesSpec).bare Rows.markClosesRow=true:=by
 apply F7<;>as_aux_lemma=>kernel_rfl
theorem said:Rows.MarkClosesSaid:=
 OpenClaim.holds_of_cond 5 Tryz.f5 rfl rfl rfl rfl rfl rfl rfl ⟨rfl,rfl,rfl,rfl,rfl⟩ rfl rfl rfl rfl rfl (by kernel_rfl) Tryz.func5 Hb
  (of_decide_eq_true (by kernel_rfl)) (by unfold Func.isWrapper;first| (rw[if_pos (by decide+kernel)];kernel_rfl) | (rw[if_neg (by decide+kernel)];exact⟨rfl,rfl⟩))
  (fun os started H enc _ F=>by rw[OpenClaim.pre_eq_preRow];exact lifted os started H enc F)
theorem plain (f:FuncId) (fn:Func) (hf:Tryz.pinned.checked.prog.funcNamed "sediment/sedimentlaw19.MarkCloses" =some f) (ir:Tryz.pinned.checked.prog.funcs[f]? =some fn):
  true=Tryz.pinned.checked.prog.looks []∧ ∀ (j:Nat) t,fn.params[j]? =some t→Tryz.pinned.checked.prog.wantsStandIn t=false:=by
 obtain rfl:f=5:=Option.some.inj ((show Tryz.prog.funcNamed "sediment/sedimentlaw19.MarkCloses" =some 5 by kernel_rfl).symm.trans hf) |>.symm
 obtain rfl:fn=Tryz.f5:=(Option.some.inj (Tryz.func5.symm.trans ir)).symm
 refine⟨by kernel_rfl,fun j t ht=> ?_⟩
 rw[Tryz.params5] at ht
 have hm:t=22∨t=30:=by
  have ht:=Array.mem_of_getElem? ht
  first|simpa using ht| (simp at ht;rcases ht with h|h<;>simp[h])
 rcases hm with rfl|rfl
 ·exact(show Tryz.prog.wantsStandIn 22=false by kernel_rfl)
 ·exact(show Tryz.prog.wantsStandIn 30=false by kernel_rfl)
theorem card:Rows.MarkClosesCardSaid:=
 Claim7.holds_tied_plain_at .later [] _ _ _ _ said (fun _ h=>by cases h) (by kernel_rfl) (fun _ h=>by cases h) markCloses_row_tie rfl ⟨rfl,rfl⟩ (by kernel_rfl) rfl plain (by kernel_rfl)
end Go.Proofs.YtfdphhalimbpbaaGreatDoor.markCloses
