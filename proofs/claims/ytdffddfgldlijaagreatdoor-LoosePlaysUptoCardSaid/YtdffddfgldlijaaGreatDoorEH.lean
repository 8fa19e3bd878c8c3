/-
  The law answers true for every input, and its arguments read as they did.
  No conditions.
-/
import Derived.Test.YtdffddfgldlijaaGreatDoorL6
import Derived.Test.YtdffddfgldlijaaGreatDoorRows
import Derived.Test.YtdffddfgldlijaaGreatDoorCards
import Derived.Test.YtdffddfgldlijaaGreatDoorTie
import Derived.Deep.DeepHandedRow
set_option linter.defProp false
set_option maxRecDepth 100000
set_option maxHeartbeats 40000000
open Go.Proofs.Tryz
namespace Go.Proofs.YtdffddfgldlijaaGreatDoor.loosePlays
open Go Go.Proofs Go.Sx Go.Dig
open Go.ChangeShapes Go.WideShapes Go.ChangeAt Go.RowKit Go.ChangeMaps
theorem wo {H:Type} {d:DataW H}: ∀ {l:List (DataW H)},d∈l→Rows.uptoBulk d≤Rows.uptoBulkAll l
 |e::r,h=>by
  rw[Rows.uptoBulkAll]
  rcases List.mem_cons.1 h with rfl|h
  ·omega
  have:=wo h
  omega
def own:ownKnob Tryz.prog.godebug=none:=by kernel_rfl
def XU:laidOutB prog=true:=by kernel_rfl
def kZ:List Int:=kL.map fun x=>(x.toNat:Int)
def xn:List Int:=initL.map fun x=>(x.toNat:Int)
def hvZ:List Int:=hvL.map fun x=>(x.toNat:Int)
def UR {H:Type}: (Rows.laid_sediment_digest_rounds:DataW H)=Lib.tabData .u32 kZ:=by rfl
def XO {H:Type}: (Rows.laid_sediment_digest_first:DataW H)=Lib.tabData .u32 xn:=by rfl
def Ur {H:Type}: (Rows.laid_sediment_crc_halves:DataW H)=Lib.tabData .u32 hvZ:=by rfl
def Xk {H:Type}: (Rows.laid_sediment_disk_order:DataW H)= .agg [.lit (.string aD), .lit (.string lN), .lit (.string refD)]:=by rfl
def ZE:Tryz.prog.cellsOf 151=8:=by kernel_rfl
def Yf:Tryz.prog.cellsOf 185=64:=by kernel_rfl
def WU:Tryz.prog.cellsOf 273=16:=by kernel_rfl
def xH:Tryz.prog.cellsOf 150=1:=by kernel_rfl
def glob {W:World} (h:laidMet prog [("sediment/crc.halves",Rows.laid_sediment_crc_halves),("sediment/digest.rounds",Rows.laid_sediment_digest_rounds),("sediment/digest.first",Rows.laid_sediment_digest_first),("sediment/disk.order",Rows.laid_sediment_disk_order)] W):GlbA W W.heap.size:=by
 obtain⟨ps,hv,-⟩:=h
 obtain⟨e0,f0,h0⟩:=Kd (P:=prog) (g:=1) kR (JT (P:=prog) (name:= "sediment/digest.first") (k:= .u32) (zs:=xn) (t:=151) (e:=150) (n:=8) (g:=1) kR kR underlying151 underlying150 xH ZE hv (by rw[←XO];exact .tail _ (.tail _ (.head _))))
 obtain⟨e1,f1,h1⟩:=Kd (P:=prog) (g:=3) kR (JT (P:=prog) (name:= "sediment/digest.rounds") (k:= .u32) (zs:=kZ) (t:=185) (e:=150) (n:=64) (g:=3) kR kR underlying185 underlying150 xH Yf hv (by rw[←UR];exact .tail _ (.head _)))
 obtain⟨e2,f2,h2⟩:=Kd (P:=prog) (g:=4) kR (JT (P:=prog) (name:= "sediment/crc.halves") (k:= .u32) (zs:=hvZ) (t:=273) (e:=150) (n:=16) (g:=4) kR kR underlying273 underlying150 xH WU hv (by rw[←Ur];exact .head _))
 refine GlbA.mk0 ⟨e2,f2, ?_⟩ ⟨e0,e1,f0,f1, ?_, ?_⟩ (J4_ hv (by rw[Xk];exact .tail _ (.tail _ (.tail _ (.head _)))))
 ·rw[h2,hvZ,List.map_map];rfl
 ·rw[h0,xn,List.map_map];rfl
 rw[h1,kZ,List.map_map];rfl
def tP (a:Array Value):Obj→Obj
 | .cells _ t frozen=> .cells a t frozen
 |o=>o
noncomputable def LS (os:Os):World:=
 {World.holding prog os ⟨#[], #[],[]⟩ with heap:=((((World.holding prog os ⟨#[], #[],[]⟩).heap.modify 1 (tP (a32 initL))).modify 3 (tP (a32 kL))).modify 4 (tP (a32 hvL))).modify 0 (tP #[vs aD,vs lN,vs refD])}
def V8: ∀t∈Tryz.f3.params.toList,Tryz.prog.readableRec t=true∧t<Tryz.prog.types.size:=by
 intro t ht
 have hm:t=3∨t=22∨t=23:=by
  rw[params3] at ht
  first|simpa using ht| (simp at ht;rcases ht with h|h|h<;>simp[h])
 rcases hm with rfl|rfl|rfl
 ·exact⟨by kernel_rfl,of_decide_eq_true kR⟩
 ·exact⟨by kernel_rfl,of_decide_eq_true kR⟩
 exact⟨by kernel_rfl,of_decide_eq_true kR⟩
theorem resultTypes:Tryz.f3.resultTypes= #[4]:=by kernel_rfl
def VI (H:Type) (enc:TypeId×Value→H) (W:World) (base:Nat) (args:Array Value) (ds gs:List (DataW H)) (before:List MemPlace)
  (g7: ∀ (j:Nat) t v,Tryz.f3.params[j]? =some t→args[j]? =some v→Value.okWide prog W .any base t v)
  (hW:DataW.Whole enc prog Tryz.f3.params.toList Rows.loosePlaysSpec.vars false W args.toList ds gs before) (hK: ∀k,(Rows.OpenSpec.upto Rows.loosePlaysSpec).cond=some k→k H (ds++gs)=true) (hL:laidMetH prog Rows.loosePlaysUptoRow.laid W):
  Calls prog 3 args W fun e W'=> ∃v,e= .returned v∧Rows.loosePlaysSpec.post enc prog Tryz.f3 false true false false W args v W':=by
 have hW':=hW
 obtain⟨p,q,hA0,hV,rfl,hfz,bA⟩:=hW
 have hA:DataW.TrodAll enc prog W 0 (fun _=>true) true Tryz.f3.params.toList args.toList ds p:=hA0
 rw[params3] at hA g7
 obtain⟨v0,vs0,d0,ds0,p0,q0,r7,rfl,rfl,h0,r0⟩:=trodAll_cons hA
 obtain⟨v1,vs1,d1,ds1,p1,q1,rfl,rfl,rfl,h1,r1⟩:=trodAll_cons r0
 obtain⟨v2,vs2,d2,ds2,p2,q2,rfl,rfl,rfl,h2,r2⟩:=trodAll_cons r1
 obtain⟨rfl,rfl,rfl⟩:=trodAll_nil r2
 obtain rfl:args= #[v0,v1,v2]:=by cases args;simp_all
 have hB:Rows.uptoBulkAll ([d0,d1,d2]++gs)≤1048576:=of_decide_eq_true (hK _ rfl)
 obtain⟨n0,rfl,rfl,rfl,eP⟩:=open_int underlying3 (g7 0 3 v0 rfl rfl) h0
 have hq0: -9223372036854775808≤n0∧n0<9223372036854775808:=by
  simp only[Lit.wf,Bool.and_eq_true,decide_eq_true_eq] at eP
  have g1: (-9223372036854775808:Int)≤n0:=by simpa [IntKind.min,IntKind.bits,IntKind.signed] using eP.1
  have g2:n0≤9223372036854775807:=by simpa [IntKind.max,IntKind.bits,IntKind.signed] using eP.2
  exact⟨g1,by omega⟩
 have aW:=Nat.le_trans (wo (d:=d1) (by simp)) hB
 obtain⟨l1,fq,rY⟩:=Ob (g7 1 22 v1 rfl rfl) h1
 have hx1:FiB l1:=by
  rcases rY with rfl| ⟨es,sp',rfl,j'⟩
  ·intro s hs;cases hs
  intro s hs
  obtain⟨g,hg,rfl⟩:=List.getElem_of_mem hs
  obtain⟨e,he,rfl⟩:=j' g hg
  have h1:=wo he
  rw[show l1.getD g fi0=l1[g] from by rw[List.getD_eq_getElem?_getD,List.getElem?_eq_getElem hg];rfl] at h1
  simp only[Rows.uptoBulk,Rows.uptoBulkAll] at h1 aW
  omega
 obtain⟨l2,gp,uW⟩:=O' (g7 2 23 v2 rfl rfl) h2
 have hG:=glob hL
 refine Calls.mono (VB_ n0 v1 l1 v2 l2 _ W hG hq0 fq hx1 gp uW) ?_
 rintro e W' ⟨v,D,rfl,hp,rfl,rfl⟩
 exact⟨_,rfl,T2 XU hW' rfl V8 resultTypes underlying4 rfl hp⟩
def wit:Array Value:= #[.int .i64 0, .slice none 0 0, .slice none 0 0]
def W3 (os:Os):laidMet prog Rows.loosePlaysUptoRow.laid ((LS os).forCall (fun _ _=>0) ⟨#[],wit,[]⟩).memory:=
 laidMet_of_run' 8 kR kR
def ZX (os:Os) {H:Type} (enc:TypeId×Value→H): ∃places,DataW.whole enc prog ((LS os).forCall (fun _ _=>0) ⟨#[],wit,[]⟩).memory Tryz.f3.params.toList Rows.loosePlaysSpec.vars false wit.toList 8=some ([.lit (.int .i64 0), .nil, .nil],[],places):=
 ⟨[],by kernel_rfl⟩
def lifted (os:Os) (started:os.Started) (H:Type) (enc:TypeId×Value→H) (F:Stop.Interp):
  ReturnsInHanded {} checked os 3 .any ((Rows.OpenSpec.upto Rows.loosePlaysSpec).preRow enc prog Tryz.f3 Rows.loosePlaysUptoRow.domain false Rows.loosePlaysUptoRow.laid) (((Rows.OpenSpec.upto Rows.loosePlaysSpec).at F).post enc prog Tryz.f3 false true false false):=by
 obtain⟨places,hx⟩:=ZX os enc
 refine returnsInHanded_of_row (C:=checked) (s:=Rows.OpenSpec.upto Rows.loosePlaysSpec) own started kR func3
  (witness_row_at (enc:=enc) (C:=checked) false (LS os) wit rfl kR kR kR
   (OpenSpec.preRow_of_cond 8 hx kR (fun k hk=>by cases hk;kernel_rfl) kR (W3 os))) ?_
 intro W base args ds gs before g7 hW _ hK _ hL _ _
 exact VI H enc W base args ds gs before g7 hW hK hL
def YJ:joinedFacts Tryz.pinned.checked.prog 3 Tryz.f3 (Rows.OpenSpec.upto Rows.loosePlaysSpec).bare Rows.loosePlaysUptoRow=true:=by
 apply Uf<;>as_aux_lemma=>kernel_rfl
def said:Rows.LoosePlaysUptoSaid:=
 OpenClaim.holds_of_cond 3 Tryz.f3 rfl rfl rfl rfl rfl rfl rfl ⟨rfl,rfl,rfl,rfl,rfl⟩ rfl rfl rfl rfl rfl kR func3 YJ
  (of_decide_eq_true kR) (by unfold Func.isWrapper;first| (rw[if_pos (by decide+kernel)];kernel_rfl) | (rw[if_neg (by decide+kernel)];exact⟨rfl,rfl⟩))
  (fun os started H enc _ F=>by rw[OpenClaim.pre_eq_preRow];exact lifted os started H enc F)
def plain (f:FuncId) (fn:Func) (hf:Tryz.pinned.checked.prog.funcNamed "sediment/sedimentlaw15.LoosePlays" =some f) (fG:Tryz.pinned.checked.prog.funcs[f]? =some fn):
  true=Tryz.pinned.checked.prog.looks []∧ ∀ (j:Nat) t,fn.params[j]? =some t→Tryz.pinned.checked.prog.wantsStandIn t=false:=by
 obtain rfl:f=3:=Option.some.inj ((show Tryz.prog.funcNamed "sediment/sedimentlaw15.LoosePlays" =some 3 by kernel_rfl).symm.trans hf) |>.symm
 obtain rfl:fn=Tryz.f3:=(Option.some.inj (Tryz.func3.symm.trans fG)).symm
 refine⟨by kernel_rfl,fun j t ht=> ?_⟩
 rw[params3] at ht
 have hm:t=3∨t=22∨t=23:=by
  have ht:=Array.mem_of_getElem? ht
  first|simpa using ht| (simp at ht;rcases ht with h|h|h<;>simp[h])
 rcases hm with rfl|rfl|rfl
 ·exact(show Tryz.prog.wantsStandIn 3=false by kernel_rfl)
 ·exact(show Tryz.prog.wantsStandIn 22=false by kernel_rfl)
 exact(show Tryz.prog.wantsStandIn 23=false by kernel_rfl)
theorem card:Rows.LoosePlaysUptoCardSaid:=
 Claim7.holds_tied_plain_at .later [] _ _ _ _ said (fun _ h=>by cases h) kR (fun _ h=>by cases h) loosePlaysUpto_row_tie rfl ⟨rfl,rfl⟩ kR rfl plain kR
end Go.Proofs.YtdffddfgldlijaaGreatDoor.loosePlays
