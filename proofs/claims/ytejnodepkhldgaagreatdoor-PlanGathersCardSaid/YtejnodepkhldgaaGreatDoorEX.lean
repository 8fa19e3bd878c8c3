/-
  The law answers true for every input, and its arguments read as they did.
  No conditions.
-/
import Derived.Test.YtejnodepkhldgaaGreatDoorG4
import Derived.Test.YtejnodepkhldgaaGreatDoorRows
import Derived.Test.YtejnodepkhldgaaGreatDoorCards
import Derived.Test.YtejnodepkhldgaaGreatDoorTie
import Derived.Deep.DeepHandedRow
import Derived.Clock
import Derived.Lay
import Derived.LaidMore
set_option linter.unusedVariables false
namespace Go.Proofs.YtejnodepkhldgaaGreatDoor.planGathers
open Go Go.Proofs Go.Sx Go.Dig
open Go.Clock Go.ChangeShapes Go.WideShapes Go.ChangeAt Go.RowKit Go.ChangeMaps
set_option maxRecDepth 100000
set_option maxHeartbeats 40000000
theorem own:ownKnob Tryz.prog.godebug=none:=by kernel_rfl
theorem eaktQ_:laidOutB Tryz.prog=true:=by kernel_rfl
def kZ:List Int:=kL.map fun x=>(x.toNat:Int)
def eakUQ_:List Int:=initL.map fun x=>(x.toNat:Int)
def hvZ:List Int:=hvL.map fun x=>(x.toNat:Int)
theorem eag1Q_ {H:Type}: (Rows.laid_sediment_digest_rounds:DataW H)=Lib.tabData .u32 kZ:=by rfl
theorem eakmQ_ {H:Type}: (Rows.laid_sediment_digest_first:DataW H)=Lib.tabData .u32 eakUQ_:=by rfl
theorem eah7Q_ {H:Type}: (Rows.laid_sediment_crc_halves:DataW H)=Lib.tabData .u32 hvZ:=by rfl
theorem ealKQ_:Tryz.prog.cellsOf 149=8:=by kernel_rfl
theorem eak1Q_:Tryz.prog.cellsOf 186=64:=by kernel_rfl
theorem eajsQ_:Tryz.prog.cellsOf 242=16:=by kernel_rfl
theorem eaaAQ_:Tryz.prog.cellsOf 148=1:=by kernel_rfl
theorem glob {W:World} (h:laidMet Tryz.prog [("sediment/crc.halves",Rows.laid_sediment_crc_halves),("sediment/digest.rounds",Rows.laid_sediment_digest_rounds),("sediment/digest.first",Rows.laid_sediment_digest_first)] W):GlobE W∧GlobC W:=by
 obtain⟨ps,hv,-⟩:=h
 obtain⟨e0,f0,h0⟩:=vX_ (P:=Tryz.prog) (g:=1) (by kernel_rfl) (ky_ (P:=Tryz.prog) (name:= "sediment/digest.first") (k:= .u32) (zs:=eakUQ_) (t:=149) (e:=148) (n:=8) (g:=1) (by kernel_rfl) (by kernel_rfl) Tryz.underlying149 Tryz.underlying148 eaaAQ_ ealKQ_ hv (by rw[←eakmQ_];exact .tail _ (.tail _ (.head _))))
 obtain⟨e1,f1,h1⟩:=vX_ (P:=Tryz.prog) (g:=2) (by kernel_rfl) (ky_ (P:=Tryz.prog) (name:= "sediment/digest.rounds") (k:= .u32) (zs:=kZ) (t:=186) (e:=148) (n:=64) (g:=2) (by kernel_rfl) (by kernel_rfl) Tryz.underlying186 Tryz.underlying148 eaaAQ_ eak1Q_ hv (by rw[←eag1Q_];exact .tail _ (.head _)))
 obtain⟨e2,f2,h2⟩:=vX_ (P:=Tryz.prog) (g:=3) (by kernel_rfl) (ky_ (P:=Tryz.prog) (name:= "sediment/crc.halves") (k:= .u32) (zs:=hvZ) (t:=242) (e:=148) (n:=16) (g:=3) (by kernel_rfl) (by kernel_rfl) Tryz.underlying242 Tryz.underlying148 eaaAQ_ eajsQ_ hv (by rw[←eah7Q_];exact .head _))
 refine⟨⟨e0,e1,f0,f1, ?_, ?_⟩,e2,f2, ?_⟩
 ·rw[h0,eakUQ_,List.map_map];rfl
 ·rw[h1,kZ,List.map_map];rfl
 ·rw[h2,hvZ,List.map_map];rfl
def eahqQ_ (P:Program) (w:World) (t:TypeId) (v:Value):Bool:=
 match P.underlying t,v with
 |some (.complex .f64), .complex .f64 re im=>decide (re<2^64)&&decide (im<2^64)
 |_,_=>Cell.okRefB P w t v
theorem eaasQ_ {P:Program} {w:World} {base:Nat} {t:TypeId} {v:Value} (h:eahqQ_ P w t v=true):Cell.ok P w .any base t v:=by
 unfold eahqQ_ at h
 split at h
 ·rename_i re im ht
  simp only[Bool.and_eq_true,decide_eq_true_eq] at h
  unfold Cell.ok
  rw[ht]
  exact⟨rfl,h.1,h.2⟩
 ·exact Cell.ok_of_okRefB h
def zipC (P:Program) (w:World):List Value→List TypeId→Bool
 | [],[]=>true
 |v::vs,u::us=>eahqQ_ P w u v&&zipC P w vs us
 |_,_=>false
theorem eadXQ_ {P:Program} {w:World}: ∀ (vs:List Value) (us:List TypeId),zipC P w vs us=true→vs.length=us.length∧ ∀ (i:Nat) v,vs[i]? =some v→ ∃u,us[i]? =some u∧eahqQ_ P w u v=true
 | [],[],_=>⟨rfl,fun _ _ h=>by cases h⟩
 | [],_::_,h=>by cases h
 |_::_,[],h=>by cases h
 |v::vs,u::us,h=>by
  simp only[zipC,Bool.and_eq_true] at h
  obtain⟨a,b⟩:=eadXQ_ vs us h.2
  refine⟨by simp[a],fun i x hx=> ?_⟩
  cases i with
  |zero=>cases hx;exact⟨u,rfl,h.1⟩
  |succ i=>exact b i x hx
def eambQ_ (P:Program) (w:World):Bool:=
 let w₀:=(begin P (fun _ _=>0) default).world
 (List.range P.globals.size).all fun g=>
  match(w₀.heap[g]?).bind Obj.row? with
  |none=>true
  |some (zero,t)=>
   match w.heap[g]? with
   |some (.cells cs t' frozen)=>decide (t'=t)&&decide (frozen=(0,0))&&cs.size==zero.size&& (!P.buildable t||match P.cellTypes P.depth t with|some ts=>zipC P w cs.toList ts|none=>false)
   |_=>false
theorem eWPQ_ {P:Program} {w:World} (hv:eambQ_ P w=true)
  (hr: (w.heap.toList.drop P.globals.size).take ((begin P (fun _ _=>0) default).world.heap.size - P.globals.size)=
   (begin P (fun _ _=>0) default).world.heap.toList.drop P.globals.size):w.Shaped P:=by
 refine⟨fun g zero t hg hz=> ?_,fun k h1 h2=> ?_⟩
 case refine_2=>
  have:=congrArg (·[k - P.globals.size]?) hr
  simp only[List.getElem?_take,List.getElem?_drop,Array.getElem?_toList] at this
  rw[if_pos (by omega),Nat.add_sub_cancel' h1] at this
  exact this
 unfold eambQ_ at hv
 simp only[List.all_eq_true,List.mem_range] at hv
 have:=hv g hg
 rw[hz] at this
 simp only at this
 split at this
 ·rename_i cs t' fr hw
  simp only[Bool.and_eq_true,decide_eq_true_eq,beq_iff_eq,Bool.or_eq_true,Bool.not_eq_true'] at this
  obtain⟨⟨⟨rfl,rfl⟩,hs⟩,hb⟩:=this
  refine⟨cs,hw,hs,fun hbuild=> ?_⟩
  rcases hb with hb|hb
  ·rw[hbuild] at hb;cases hb
  ·split at hb
   ·rename_i ts hts
    obtain⟨a,b⟩:=eadXQ_ _ _ hb
    have a':cs.size=ts.length:=by simpa using a
    refine⟨ts,hts,⟨1,by omega⟩,fun i v hi=> ?_⟩
    have hlt:i<cs.size:=(Array.getElem?_eq_some_iff.1 hi).1
    obtain⟨u,hu,hok⟩:=b i v (by simpa using hi)
    exact⟨u,by rw[Nat.mod_eq_of_lt (by omega)];exact hu,eaasQ_ hok⟩
   ·cases hb
 ·cases this
theorem eahSQ_: ∀t∈Tryz.f3.params.toList,Tryz.prog.readableRec t=true∧t<Tryz.prog.types.size:=by
 intro t ht
 have hm:t=22∨t=23∨t=5:=by
  rw[Tryz.params3] at ht
  first|simpa using ht| (simp at ht;rcases ht with h|h|h<;>simp[h])
 rcases hm with rfl|rfl|rfl
 ·exact⟨by kernel_rfl,of_decide_eq_true (by kernel_rfl)⟩
 ·exact⟨by kernel_rfl,of_decide_eq_true (by kernel_rfl)⟩
 ·exact⟨by kernel_rfl,of_decide_eq_true (by kernel_rfl)⟩
theorem resultTypes:Tryz.f3.resultTypes= #[4]:=by kernel_rfl
theorem eah2Q_ (H:Type) (enc:TypeId×Value→H) (W:World) (base:Nat) (args:Array Value) (ds gs:List (DataW H)) (before:List MemPlace)
  (hval: ∀ (j:Nat) t v,Tryz.f3.params[j]? =some t→args[j]? =some v→Value.okWide Tryz.prog W .any base t v)
  (hW:DataW.Whole enc Tryz.prog Tryz.f3.params.toList Rows.planGathersSpec.vars false W args.toList ds gs before) (hL:laidMetH Tryz.prog Rows.planGathersRow.laid W):
  Calls Tryz.prog 3 args W fun e W'=> ∃v,e= .returned v∧Rows.planGathersSpec.post enc Tryz.prog Tryz.f3 false true false false W args v {W' with os:=W.os}∧Later W.os W'.os:=by
 have hW':=hW
 obtain⟨p,q,hA0,hV,rfl,hfz,hnd⟩:=hW
 have hA:DataW.TrodAll enc Tryz.prog W 0 (fun _=>true) true Tryz.f3.params.toList args.toList ds p:=hA0
 rw[Tryz.params3] at hA hval
 obtain⟨v0,vs0,d0,ds0,p0,q0,hargs,rfl,rfl,h0,r0⟩:=trodAll_cons hA
 obtain⟨v1,vs1,d1,ds1,p1,q1,rfl,rfl,rfl,h1,r1⟩:=trodAll_cons r0
 obtain⟨v2,vs2,d2,ds2,p2,q2,rfl,rfl,rfl,h2,r2⟩:=trodAll_cons r1
 obtain⟨rfl,rfl,rfl⟩:=trodAll_nil r2
 obtain rfl:args= #[v0,v1,v2]:=by cases args;simp_all
 obtain⟨l0,hl0⟩:=aeZ_ (hval 0 22 v0 rfl rfl) h0
 obtain⟨l1,hl1⟩:=ag3_ (hval 1 23 v1 rfl rfl) h1
 obtain⟨n2,rfl,rfl,rfl,hw2⟩:=open_int Tryz.underlying5 (hval 2 5 v2 rfl rfl) h2
 obtain⟨c2,hc2⟩:=amn_ hw2
 rw[hc2] at hW' ⊢
 have hG:=glob hL
 refine Calls.mono (Zo_ v0 v1 l0 l1 c2 W hG.1 hG.2 hl0 hl1) ?_
 rintro e W' ⟨v,D,rfl,hp,rfl,rfl⟩
 have ho:=hp.os
 have e: ({W' with os:=W.os}:World)=W':=by rw[←ho]
 rw[e]
 exact⟨_,rfl,afr_ eaktQ_ hW' rfl eahSQ_ resultTypes Tryz.underlying4 rfl hp,ho▸Later.refl _⟩
def wit:Array Value:= #[.slice none 0 0, .slice none 0 0, .int .u8 0]
theorem lifted (os:Os) (started:os.Started) (H:Type) (enc:TypeId×Value→H) (F:Stop.Interp):
  ReturnsInHanded {calm:=true} Tryz.checked os 3 .any (fun w args=>(Rows.planGathersSpec.pre enc Tryz.prog Tryz.f3 [] false w args∧laidMetH Tryz.prog Rows.planGathersRow.laid w)∧sizedMet enc Tryz.prog Tryz.f3 (OpenSpec.ofChange Rows.planGathersSpec) false w args)
   ((OpenSpec.ofChange Rows.planGathersSpec).postWith enc Tryz.prog Tryz.f3 F (outsideKept [.timePasses]) false true false):=by
 refine returns_of_change (C:=Tryz.checked) (X:=fun w _=>laidMetH Tryz.prog Rows.planGathersRow.laid w) (fun _ _ _ hh h=>h.of_heap hh) own started (by kernel_rfl) Tryz.func3
  (witness_at (enc:=enc) (C:=Tryz.checked) (X:=fun w _=>laidMetH Tryz.prog Rows.planGathersRow.laid w) (World.laidAll Tryz.prog os Rows.planGathersRow.laid) wit 8 (World.laidAll_os _ _ _) (eWPQ_ (by kernel_rfl) (by kernel_rfl)) (by kernel_rfl) (by kernel_rfl) (by kernel_rfl)
   (by rw[MakeChecks.laidMetH_plain _ _ _ (by kernel_rfl)];exact laidMet_laidAll _ (by kernel_rfl) (by kernel_rfl))) ?_
 intro W base args ds gs before hval hW _ _ hL _
 exact eah2Q_ H enc W base args ds gs before hval hW hL
theorem ealjQ_:joinedFacts Tryz.pinned.checked.prog 3 Tryz.f3 Rows.planGathersSpec Rows.planGathersRow=true:=by
 apply agz_<;>as_aux_lemma=>kernel_rfl
theorem said:Rows.PlanGathersSaid:=
 holds_of_wide_time 3 Tryz.f3 rfl rfl rfl rfl rfl rfl rfl ⟨rfl,rfl,rfl,rfl,rfl⟩ rfl rfl rfl rfl rfl (by kernel_rfl) Tryz.func3 ealjQ_
  (of_decide_eq_true (by kernel_rfl)) (by unfold Func.isWrapper;first| (rw[if_pos (by decide+kernel)];kernel_rfl) | (rw[if_neg (by decide+kernel)];exact⟨rfl,rfl⟩))
  (fun os started H enc _ F=>lifted os started H enc F)
theorem plain (f:FuncId) (fn:Func) (hf:Tryz.pinned.checked.prog.funcNamed "sediment/sedimentlaw20.PlanGathers" =some f) (hfn:Tryz.pinned.checked.prog.funcs[f]? =some fn):
  false=Tryz.pinned.checked.prog.looks []∧ ∀ (j:Nat) t,fn.params[j]? =some t→Tryz.pinned.checked.prog.wantsStandIn t=false:=by
 obtain rfl:f=3:=Option.some.inj ((show Tryz.prog.funcNamed "sediment/sedimentlaw20.PlanGathers" =some 3 by kernel_rfl).symm.trans hf) |>.symm
 obtain rfl:fn=Tryz.f3:=(Option.some.inj (Tryz.func3.symm.trans hfn)).symm
 refine⟨by kernel_rfl,fun j t ht=> ?_⟩
 rw[Tryz.params3] at ht
 have hm:t=22∨t=23∨t=5:=by
  have ht:=Array.mem_of_getElem? ht
  first|simpa using ht| (simp at ht;rcases ht with h|h|h<;>simp[h])
 rcases hm with rfl|rfl|rfl
 ·exact(show Tryz.prog.wantsStandIn 22=false by kernel_rfl)
 ·exact(show Tryz.prog.wantsStandIn 23=false by kernel_rfl)
 ·exact(show Tryz.prog.wantsStandIn 5=false by kernel_rfl)
theorem card:Rows.PlanGathersCardSaid:=
 Claim7.holds_tied_plain_at .later [] _ _ _ _ said (fun _ h=>by cases h) (by kernel_rfl) (fun _ h=>by cases h) planGathers_row_tie rfl ⟨rfl,rfl⟩ (by kernel_rfl) rfl plain (by kernel_rfl)
end Go.Proofs.YtejnodepkhldgaaGreatDoor.planGathers
