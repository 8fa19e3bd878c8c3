/-
  The law answers true for every input, and its arguments read as they did.
  No conditions.
-/
import Derived.Test.YtdhmidpgfohkeaaGreatDoorJ5
import Derived.Test.YtdhmidpgfohkeaaGreatDoorRows
import Derived.Test.YtdhmidpgfohkeaaGreatDoorCards
import Derived.Test.YtdhmidpgfohkeaaGreatDoorTie
import Derived.Deep.DeepHandedRow
import Derived.Lay
import Derived.LaidMore
set_option linter.unusedVariables false
namespace Go.Proofs.YtdhmidpgfohkeaaGreatDoor.planOne
open Go Go.Proofs Go.Sx Go.Dig
open Go.ChangeShapes Go.WideShapes Go.ChangeAt Go.RowKit Go.ChangeMaps
set_option maxRecDepth 100000
set_option maxHeartbeats 40000000
theorem own:ownKnob Tryz.prog.godebug=none:=by kernel_rfl
theorem aol_:laidOutB Tryz.prog=true:=by kernel_rfl
def kZ:List Int:=kL.map fun x=>(x.toNat:Int)
def aoH_:List Int:=initL.map fun x=>(x.toNat:Int)
def hvZ:List Int:=hvL.map fun x=>(x.toNat:Int)
theorem akI_ {H:Type}: (Rows.laid_sediment_digest_rounds:DataW H)=Lib.tabData .u32 kZ:=by rfl
theorem aod_ {H:Type}: (Rows.laid_sediment_digest_first:DataW H)=Lib.tabData .u32 aoH_:=by rfl
theorem alN_ {H:Type}: (Rows.laid_sediment_crc_halves:DataW H)=Lib.tabData .u32 hvZ:=by rfl
theorem apF_:Tryz.prog.cellsOf 127=8:=by kernel_rfl
theorem aoP_:Tryz.prog.cellsOf 164=64:=by kernel_rfl
theorem ani_:Tryz.prog.cellsOf 219=16:=by kernel_rfl
theorem adf_:Tryz.prog.cellsOf 126=1:=by kernel_rfl
theorem glob {W:World} (h:laidMet Tryz.prog [("sediment/crc.halves",Rows.laid_sediment_crc_halves),("sediment/digest.rounds",Rows.laid_sediment_digest_rounds),("sediment/digest.first",Rows.laid_sediment_digest_first)] W):GlobE W∧GlobC W:=by
 obtain⟨ps,hv,-⟩:=h
 obtain⟨e0,f0,h0⟩:=wb_ (P:=Tryz.prog) (g:=1) (by kernel_rfl) (kH_ (P:=Tryz.prog) (name:= "sediment/digest.first") (k:= .u32) (zs:=aoH_) (t:=127) (e:=126) (n:=8) (g:=1) (by kernel_rfl) (by kernel_rfl) Tryz.underlying127 Tryz.underlying126 adf_ apF_ hv (by rw[←aod_];exact .tail _ (.tail _ (.head _))))
 obtain⟨e1,f1,h1⟩:=wb_ (P:=Tryz.prog) (g:=3) (by kernel_rfl) (kH_ (P:=Tryz.prog) (name:= "sediment/digest.rounds") (k:= .u32) (zs:=kZ) (t:=164) (e:=126) (n:=64) (g:=3) (by kernel_rfl) (by kernel_rfl) Tryz.underlying164 Tryz.underlying126 adf_ aoP_ hv (by rw[←akI_];exact .tail _ (.head _)))
 obtain⟨e2,f2,h2⟩:=wb_ (P:=Tryz.prog) (g:=2) (by kernel_rfl) (kH_ (P:=Tryz.prog) (name:= "sediment/crc.halves") (k:= .u32) (zs:=hvZ) (t:=219) (e:=126) (n:=16) (g:=2) (by kernel_rfl) (by kernel_rfl) Tryz.underlying219 Tryz.underlying126 adf_ ani_ hv (by rw[←alN_];exact .head _))
 refine⟨⟨e0,e1,f0,f1, ?_, ?_⟩,e2,f2, ?_⟩
 ·rw[h0,aoH_,List.map_map];rfl
 ·rw[h1,kZ,List.map_map];rfl
 ·rw[h2,hvZ,List.map_map];rfl
def ala_ (P:Program) (w:World) (t:TypeId) (v:Value):Bool:=
 match P.underlying t,v with
 |some (.complex .f64), .complex .f64 re im=>decide (re<2^64)&&decide (im<2^64)
 |_,_=>Cell.okRefB P w t v
theorem ac4_ {P:Program} {w:World} {base:Nat} {t:TypeId} {v:Value} (h:ala_ P w t v=true):Cell.ok P w .any base t v:=by
 unfold ala_ at h
 split at h
 ·rename_i re im ht
  simp only[Bool.and_eq_true,decide_eq_true_eq] at h
  unfold Cell.ok
  rw[ht]
  exact⟨rfl,h.1,h.2⟩
 ·exact Cell.ok_of_okRefB h
def zipC (P:Program) (w:World):List Value→List TypeId→Bool
 | [],[]=>true
 |v::vs,u::us=>ala_ P w u v&&zipC P w vs us
 |_,_=>false
theorem ahb_ {P:Program} {w:World}: ∀ (vs:List Value) (us:List TypeId),zipC P w vs us=true→vs.length=us.length∧ ∀ (i:Nat) v,vs[i]? =some v→ ∃u,us[i]? =some u∧ala_ P w u v=true
 | [],[],_=>⟨rfl,fun _ _ h=>by cases h⟩
 | [],_::_,h=>by cases h
 |_::_,[],h=>by cases h
 |v::vs,u::us,h=>by
  simp only[zipC,Bool.and_eq_true] at h
  obtain⟨a,b⟩:=ahb_ vs us h.2
  refine⟨by simp[a],fun i x hx=> ?_⟩
  cases i with
  |zero=>cases hx;exact⟨u,rfl,h.1⟩
  |succ i=>exact b i x hx
def ap2_ (P:Program) (w:World):Bool:=
 let w₀:=(begin P (fun _ _=>0) default).world
 (List.range P.globals.size).all fun g=>
  match(w₀.heap[g]?).bind Obj.row? with
  |none=>true
  |some (zero,t)=>
   match w.heap[g]? with
   |some (.cells cs t' frozen)=>decide (t'=t)&&decide (frozen=(0,0))&&cs.size==zero.size&& (!P.buildable t||match P.cellTypes P.depth t with|some ts=>zipC P w cs.toList ts|none=>false)
   |_=>false
theorem ab8_ {P:Program} {w:World} (hv:ap2_ P w=true)
  (hr: (w.heap.toList.drop P.globals.size).take ((begin P (fun _ _=>0) default).world.heap.size - P.globals.size)=
   (begin P (fun _ _=>0) default).world.heap.toList.drop P.globals.size):w.Shaped P:=by
 refine⟨fun g zero t hg hz=> ?_,fun k h1 h2=> ?_⟩
 case refine_2=>
  have:=congrArg (·[k - P.globals.size]?) hr
  simp only[List.getElem?_take,List.getElem?_drop,Array.getElem?_toList] at this
  rw[if_pos (by omega),Nat.add_sub_cancel' h1] at this
  exact this
 unfold ap2_ at hv
 simp only[List.all_eq_true,List.mem_range] at hv
 have:=hv g hg
 rw[hz] at this
 simp only at this
 split at this
 ·rename_i cs t' fr hw
  simp only[Bool.and_eq_true,decide_eq_true_eq,beq_iff_eq,Bool.or_eq_true,Bool.not_eq_true'] at this
  obtain⟨⟨⟨rfl,rfl⟩,hs⟩,hb⟩:=this
  refine⟨cs,hw,hs,fun hbuild=> ?_⟩
  rcases hb with hb|hb
  ·rw[hbuild] at hb;cases hb
  ·split at hb
   ·rename_i ts hts
    obtain⟨a,b⟩:=ahb_ _ _ hb
    have a':cs.size=ts.length:=by simpa using a
    refine⟨ts,hts,⟨1,by omega⟩,fun i v hi=> ?_⟩
    have hlt:i<cs.size:=(Array.getElem?_eq_some_iff.1 hi).1
    obtain⟨u,hu,hok⟩:=b i v (by simpa using hi)
    exact⟨u,by rw[Nat.mod_eq_of_lt (by omega)];exact hu,ac4_ hok⟩
   ·cases hb
 ·cases this
theorem aly_: ∀t∈Tryz.f3.params.toList,Tryz.prog.readableRec t=true∧t<Tryz.prog.types.size:=by
 intro t ht
 have hm:t=22∨t=5:=by
  rw[Tryz.params3] at ht
  first|simpa using ht| (simp at ht;rcases ht with h|h<;>simp[h])
 rcases hm with rfl|rfl
 ·exact⟨by kernel_rfl,of_decide_eq_true (by kernel_rfl)⟩
 ·exact⟨by kernel_rfl,of_decide_eq_true (by kernel_rfl)⟩
theorem resultTypes:Tryz.f3.resultTypes= #[4]:=by kernel_rfl
theorem alI_ (H:Type) (enc:TypeId×Value→H) (W:World) (base:Nat) (args:Array Value) (ds gs:List (DataW H)) (before:List MemPlace)
  (hval: ∀ (j:Nat) t v,Tryz.f3.params[j]? =some t→args[j]? =some v→Value.okWide Tryz.prog W .any base t v)
  (hW:DataW.Whole enc Tryz.prog Tryz.f3.params.toList Rows.planOneSpec.vars false W args.toList ds gs before) (hL:laidMetH Tryz.prog Rows.planOneRow.laid W) (hS:W.ShapedOpen Tryz.prog):
  Calls Tryz.prog 3 args W fun e W'=> ∃v,e= .returned v∧Rows.planOneSpec.post enc Tryz.prog Tryz.f3 false true false false W args v W':=by
 have hW':=hW
 obtain⟨p,q,hA0,hV,rfl,hfz,hnd⟩:=hW
 have hA:DataW.TrodAll enc Tryz.prog W 0 (fun _=>true) true Tryz.f3.params.toList args.toList ds p:=hA0
 rw[Tryz.params3] at hA hval
 obtain⟨v0,vs0,d0,ds0,p0,q0,hargs,rfl,rfl,h0,r0⟩:=trodAll_cons hA
 obtain⟨v1,vs1,d1,ds1,p1,q1,rfl,rfl,rfl,h1,r1⟩:=trodAll_cons r0
 obtain⟨rfl,rfl,rfl⟩:=trodAll_nil r1
 obtain rfl:args= #[v0,v1]:=by cases args;simp_all
 obtain⟨l0,hl0⟩:=aiq_ (hval 0 22 v0 rfl rfl) h0
 obtain⟨n1,rfl,rfl,rfl,hw1⟩:=open_int Tryz.underlying5 (hval 1 5 v1 rfl rfl) h1
 obtain⟨c1,hc1⟩:=aqd_ hw1
 rw[hc1] at hW' ⊢
 have hG:=glob hL
 obtain⟨T,hT⟩:=arr_ hS
 refine Calls.mono (aaI_ T v0 l0 c1 W hG.1 hG.2 hT hl0) ?_
 rintro e W' ⟨v,D,rfl,hp,rfl,rfl⟩
 exact⟨_,rfl,ai0_ aol_ hW' rfl aly_ resultTypes Tryz.underlying4 rfl hp⟩
def wit:Array Value:= #[.slice none 0 0, .int .u8 0]
theorem aqL_ (os:Os) {H:Type} (enc:TypeId×Value→H): ∃places,DataW.whole enc Tryz.prog ((World.laidAll Tryz.prog os Rows.planOneRow.laid).forCall (fun _ _=>0) ⟨#[],wit,[]⟩).memory Tryz.f3.params.toList Rows.planOneSpec.vars false wit.toList 8=some ([.nil, .lit (.int .u8 0)],[],places):=
 ⟨[],by kernel_rfl⟩
theorem lifted (os:Os) (started:os.Started) (H:Type) (enc:TypeId×Value→H) (F:Stop.Interp):
  ReturnsInHanded {} Tryz.checked os 3 .any ((OpenSpec.ofChange Rows.planOneSpec).preRow enc Tryz.prog Tryz.f3 Rows.planOneRow.domain false Rows.planOneRow.laid) (((OpenSpec.ofChange Rows.planOneSpec).at F).post enc Tryz.prog Tryz.f3 false true false false):=by
 obtain⟨places,hx⟩:=aqL_ os enc
 have hok:Input.okWideB Tryz.checked.prog ((World.laidAll Tryz.prog os Rows.planOneRow.laid).forCall (fun _ _=>0) ⟨#[],wit,[]⟩) 3 ⟨#[],wit,[]⟩=true:=by kernel_rfl
 refine returnsInHanded_of_row (C:=Tryz.checked) (s:=OpenSpec.ofChange Rows.planOneSpec) own started (by kernel_rfl) Tryz.func3
  ⟨World.laidAll Tryz.prog os Rows.planOneRow.laid,fun _ _=>0,⟨#[],wit,[]⟩,World.laidAll_os _ _ _,ab8_ (by kernel_rfl) (by kernel_rfl),(Input.okWide_of_okWideB (base:=0) hok).1,(Input.okWide_of_okWideB hok).2,
   OpenSpec.preRow_of_cond 8 hx (by kernel_rfl) (fun k hk=>by cases hk) (by kernel_rfl) (laidMet_laidAll _ (by kernel_rfl) (by kernel_rfl)),by simp only[Assume.holds];simp⟩ ?_
 intro W base args ds gs before hval hW _ _ _ hL hS _
 exact alI_ H enc W base args ds gs before hval hW hL hS
theorem apc_:joinedFacts Tryz.pinned.checked.prog 3 Tryz.f3 (OpenSpec.ofChange Rows.planOneSpec).bare Rows.planOneRow=true:=by
 apply akf_<;>as_aux_lemma=>kernel_rfl
theorem said:Rows.PlanOneSaid:=
 OpenClaim.holds_of_cond 3 Tryz.f3 rfl rfl rfl rfl rfl rfl rfl ⟨rfl,rfl,rfl,rfl,rfl⟩ rfl rfl rfl rfl rfl (by kernel_rfl) Tryz.func3 apc_
  (of_decide_eq_true (by kernel_rfl)) (by unfold Func.isWrapper;first| (rw[if_pos (by decide+kernel)];kernel_rfl) | (rw[if_neg (by decide+kernel)];exact⟨rfl,rfl⟩))
  (fun os started H enc _ F=>by rw[OpenClaim.pre_eq_preRow];exact lifted os started H enc F)
theorem plain (f:FuncId) (fn:Func) (hf:Tryz.pinned.checked.prog.funcNamed "sediment/sedimentlaw20.PlanOne" =some f) (hfn:Tryz.pinned.checked.prog.funcs[f]? =some fn):
  false=Tryz.pinned.checked.prog.looks []∧ ∀ (j:Nat) t,fn.params[j]? =some t→Tryz.pinned.checked.prog.wantsStandIn t=false:=by
 obtain rfl:f=3:=Option.some.inj ((show Tryz.prog.funcNamed "sediment/sedimentlaw20.PlanOne" =some 3 by kernel_rfl).symm.trans hf) |>.symm
 obtain rfl:fn=Tryz.f3:=(Option.some.inj (Tryz.func3.symm.trans hfn)).symm
 refine⟨by kernel_rfl,fun j t ht=> ?_⟩
 rw[Tryz.params3] at ht
 have hm:t=22∨t=5:=by
  have ht:=Array.mem_of_getElem? ht
  first|simpa using ht| (simp at ht;rcases ht with h|h<;>simp[h])
 rcases hm with rfl|rfl
 ·exact(show Tryz.prog.wantsStandIn 22=false by kernel_rfl)
 ·exact(show Tryz.prog.wantsStandIn 5=false by kernel_rfl)
theorem card:Rows.PlanOneCardSaid:=
 Claim7.holds_tied_plain_at .later [] _ _ _ _ said (fun _ h=>by cases h) (by kernel_rfl) (fun _ h=>by cases h) planOne_row_tie rfl ⟨rfl,rfl⟩ (by kernel_rfl) rfl plain (by kernel_rfl)
end Go.Proofs.YtdhmidpgfohkeaaGreatDoor.planOne
