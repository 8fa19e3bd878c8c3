/-
  Part 3 of the walk: contracts of the functions that the law reaches, and the calculus they stand on.
  No conditions.
-/
import Derived.Test.YtcakbfbidacnlaaDoorF2
import Derived.Shelf.SlLaysF0
import Derived.Ground.SlsfProg
import Derived.Maps.RangeRun
import Derived.ProofKit
import Derived.OpenShut
import Derived.WideKeyArgs
import Derived.ChangeSame
import Derived.ChangeMaps5
import Derived.Lib.LaidTab
import Derived.SliceStrings
import Derived.DataReads
import Derived.Deep.Strs
section
open Go Go.Proofs Go.Sx Go.StP Go.Flo
namespace Go.Proofs
set_option maxRecDepth 10000
set_option maxHeartbeats 1000000
set_option linter.unusedSimpArgs false
theorem akK_ (b o:Nat):qC_ Tryd.prog .eql 32 (vp b o) (.pointer none)=some (.bool false):=by
 simp[qC_,eqX,qy_,qg_,Tryd.underlying32,vp]
theorem ahP_:qC_ Tryd.prog .eql 32 (.pointer none) (.pointer none)=some (.bool true):=by
 simp[qC_,eqX,qy_,qg_,Tryd.underlying32]
set_option linter.defProp false
def Jv_:=And.intro (@ze_) (@zd_)
theorem abo_ (b o n c:Nat):qC_ Tryd.prog .eql 51 (vsl b o n c) (.slice none 0 0)=some (.bool false):=by
 simp[qC_,eqX,qy_,qg_,Tryd.underlying51,vsl]
theorem Xo_:qC_ Tryd.prog .eql 51 (.slice none 0 0) (.slice none 0 0)=some (.bool true):=by
 simp[qC_,eqX,qy_,qg_,Tryd.underlying51]
theorem Vj_ (v:Value) (ls:List LnL) (w:World) (hv:LnSl w v ls) (hl:ls.length<1000000):
  Rets Tryd.prog 45 #[v] w (XS w [] (fun v D=>Gr D 38 35 v ls.length (ls.map lnC).flatten)):=by
 obtain⟨b,off,c,arr,E,fz,hr,hc,⟨rfl,rfl,rfl⟩ | ⟨rfl,hb,hsz⟩⟩:=hv
 ·refine Rets.enterX Tryd.func45 rfl (rs:= [.tmp 2]) Tryd.results45 Tryd.ntmps45 (fun p hp=>by cases hp) (by simp[keys]) ?_
  refine kf ?_
  first|with_reducible refine ks [] (And.intro @Jv_ (And.intro @abo_ (@Xo_))) ?_|refine kp (And.intro @Jv_ (And.intro @abo_ (@Xo_))) ?_
  refine⟨_,(ke @Jv_), ?_⟩
  exact⟨Ext.refl _ _,Gr.nl⟩
 ·have hbl:=(Array.getElem?_eq_some_iff.1 hb).1
  have hv:LnSl w (vsl b off ls.length c) ls:=⟨b,off,c,arr,E,fz,hr,hc, .inr ⟨rfl,hb,hsz⟩⟩
  refine Rets.enterX Tryd.func45 rfl (rs:= [.tmp 2]) Tryd.results45 Tryd.ntmps45 (fun p hp=>by cases hp) (by simp[keys]) ?_
  refine kf ?_
  first|with_reducible refine ks [] (And.intro @Jv_ (And.intro @abo_ (@Xo_))) ?_|refine kp (And.intro @Jv_ (And.intro @abo_ (@Xo_))) ?_
  refine Ow.buildSlice (e:=38) #[] rfl rfl (by kernel_rfl) fun b1 hb1 hw1=> ?_
  refine ko @Jv_ ?_
  refine Ow.appendG (e:=38) (k:=ls.length) (new:=(ls.map lnC).flatten) (vsl b1 0 0 0) rfl rfl rfl Tryd.underlying51 Tryd.ag38 (by kernel_rfl) Kc_ (by rw[q7_,List.size_toArray,qc_]) Tryd.underlying51 (by intro k h;cases h) (.inr ⟨rfl,rfl,b1,rfl,vp_ hb1⟩) (fun w' hw'=>(hv.oldN hw' ⟨hw1,trivial⟩).appX qc_ Z0_) (ki_ qc_ ls) (by omega) (fun v2 L2 hB hB2 hG hS=> ?_)
  rw[Nat.zero_add,List.nil_append] at hB
  refine ko @Jv_ ?_
  first|with_reducible refine ks [] @Jv_ ?_|refine kp @Jv_ ?_
  refine⟨_,(ke @Jv_), ?_⟩
  exact⟨((Ext.refl w []).app (o:=Obj.cells #[] 38 (0,0)) hw1).grew hG,hB⟩
set_option linter.defProp false
def abY_:=And.intro (And.intro (@ze_) (And.intro (@zd_) (@k6_))) (And.intro (And.intro (@wc_) (@k2_)) (And.intro (@akK_) (@ahP_)))
theorem Wo_ (b:Nat) (names sums:List (List UInt8)) (lines:List LnL) (w:World) (h:MgIn w b names sums lines) (hl:lines.length<1000000):
  Rets Tryd.prog 13 #[vp b 0] w (XS w [] (fun v D=>GrI D 38 35 v lines.length (lines.map lnC).flatten)):=by
 obtain⟨v0,v1,v2,h1,h2,h3,h4⟩:=id h
 refine Rets.enterX Tryd.func13 rfl (rs:= [.tmp 2]) Tryd.results13 Tryd.ntmps13 (fun p hp=>by cases hp) (by simp[keys]) ?_
 refine kf ?_
 first|with_reducible refine ks [] (And.intro @abY_ @h1) ?_|refine kp (And.intro @abY_ @h1) ?_
 refine Ow.callX (Y:= []) (by simp) rfl rfl Tryd.call45 (fun w' hw' hX hn=>Vj_ _ lines w' (h4.oldN hw' trivial) hl) (fun v2 D2 hC2 hS2=> ?_)
 rw[List.append_nil]
 refine ko @abY_ ?_
 first|with_reducible refine ks [] @abY_ ?_|refine kp @abY_ ?_
 refine⟨_,(ke @abY_), ?_⟩
 exact⟨Ext.of_new (New.of_le fun c hc=>(hC2.new c hc).elim (fun h=>by cases h) fun h=>h.2),Gr.i hS2 fun p hp=>hp⟩
def qO_ (l:List LnL) (x:IdL):LnL×Bool:=match l.find? (fun r=>r.id.l==x.l) with
 |some r=>(r,true)
 |none=>(Go.Proofs.ln0,false)
theorem abx_ {l:List LnL} {i:Nat} (h:i<l.length):l.getD i Go.Proofs.ln0=l[i]:=by rw[List.getD_eq_getElem?_getD,List.getElem?_eq_getElem h];rfl
theorem W1_ {l:List LnL} {n:Nat} (h:w2_ (wM_ l) n=true) {i:Nat}: ∀ {j:Nat},i<j→j<n→ltB (l.getD i Go.Proofs.ln0).id.l (l.getD j Go.Proofs.ln0).id.l=true
 |0,hij,_=>absurd hij (Nat.not_lt_zero _)
 |j+1,hij,hj=>by
  have h2:ltB (l.getD j Go.Proofs.ln0).id.l (l.getD (j+1) Go.Proofs.ln0).id.l=true:=by
   have h3:=kK_ (k:=j+2) (by omega) h
   unfold w2_ at h3
   rw[Bool.and_eq_true,Bool.or_eq_true,decide_eq_true_eq,decide_eq_true_eq] at h3
   rcases h3.2 with h4|h4
   ·omega
   ·exact cmpI_lt.1 h4
  by_cases e:i=j
  ·subst e;exact h2
  ·exact q1_ (W1_ h (by omega) (by omega)) h2
theorem aje_ {l:List LnL} (h:w2_ (wM_ l) l.length=true) (x:IdL) {p:Nat} (h2:p≤l.length) (h3:p=0∨ltB (l.getD (p - 1) Go.Proofs.ln0).id.l x.l=true) (h4:p=l.length∨ltB (l.getD p Go.Proofs.ln0).id.l x.l=false):
  qO_ l x=if p<l.length∧(l.getD p Go.Proofs.ln0).id.l=x.l then(l.getD p Go.Proofs.ln0,true) else(Go.Proofs.ln0,false):=by
 have key: ∀j,j<l.length→(l.getD j Go.Proofs.ln0).id.l=x.l→j=p:=by
  intro j hj e
  rcases Nat.lt_trichotomy j p with hlt|e'|hlt
  ·rcases h3 with h3|h3
   ·omega
   ·by_cases e2:j=p - 1
    ·subst e2;rw[e,qp_] at h3;cases h3
    ·have:=W1_ h (show j<p - 1 by omega) (by omega)
     rw[e] at this
     have:=q1_ this h3
     rw[qp_] at this;cases this
  ·exact e'
  ·rcases h4 with h4|h4
   ·omega
   ·have:=W1_ h hlt hj
    rw[e,h4] at this;cases this
 unfold qO_
 by_cases hc:p<l.length∧(l.getD p Go.Proofs.ln0).id.l=x.l
 ·rw[if_pos hc]
  have hm:l.getD p Go.Proofs.ln0∈l:=by rw[abx_ hc.1];exact List.getElem_mem hc.1
  cases hf:l.find? (fun r=>r.id.l==x.l) with
  |none=>
   have:=List.find?_eq_none.1 hf _ hm
   rw[hc.2] at this
   exact absurd (beq_self_eq_true x.l) this
  |some r=>
   have h5:=List.find?_some hf
   obtain⟨j,hj,rfl⟩:=List.getElem_of_mem (List.mem_of_find?_eq_some hf)
   rw[←abx_ hj] at h5 ⊢
   have:=key j hj (by simpa using h5)
   subst this;rfl
 ·rw[if_neg hc]
  cases hf:l.find? (fun r=>r.id.l==x.l) with
  |none=>rfl
  |some r=>
   have h5:=List.find?_some hf
   obtain⟨j,hj,rfl⟩:=List.getElem_of_mem (List.mem_of_find?_eq_some hf)
   rw[←abx_ hj] at h5
   have h6:=key j hj (by simpa using h5)
   refine absurd ⟨by omega, ?_⟩ hc
   rw[←h6];simpa using h5
theorem adb_ (a b:IdL): (wO_ a b==0)=(a.l==b.l):=by
 unfold wO_ WL_
 cases h:ltB a.l b.l with
 |true=>
  have:=ac6_ h
  rw[if_pos rfl,beq_eq_false_iff_ne.2 this];rfl
 |false=>
  rw[if_neg (by simp)]
  cases h2:ltB b.l a.l with
  |true=>
   have:=ac6_ h2
   rw[if_pos rfl,beq_eq_false_iff_ne.2 (Ne.symm this)];rfl
  |false=>
   rw[if_neg (by simp)]
   have:a.l=b.l:=Decidable.byContradiction fun hne=>by rw[kE_ h hne] at h2;cases h2
   rw[this];exact(beq_self_eq_true _).symm
def askM (l:List LnL) (x:IdL) (k:Nat):Bool:=decide (0≤wO_ (l.getD k Go.Proofs.ln0).id x)
set_option linter.defProp false
def jt_:=And.intro (And.intro (@ze_) (@zd_)) (And.intro (@vX_) (And.intro (@q7_) (@wC_)))
theorem aev_ (v:Value) (l:List LnL) (y:LnL) (w:World) (hv:LnSl w v l) (hl:l.length<1000000):Rets Tryd.prog 29 #[v, .agg (lnC y).toArray, .func (.func 30) #[] #[]] w (fun v' D=>v'= .tuple #[vi (Zm_ (askM l y.id) 0 l.length:Nat), .bool (decide (Zm_ (askM l y.id) 0 l.length<l.length)&& ((l.getD (Zm_ (askM l y.id) 0 l.length) Go.Proofs.ln0).id.l==y.id.l))]∧D= []):=by
 obtain⟨rb,off,arr,E,fz,hr⟩:=hv.row
 have ln:=hv.len
 refine Rets.enterV Tryd.func29 rfl (rs:= [.tmp 6, .tmp 7]) Tryd.results29 Tryd.ntmps29 ?_
 refine kf ?_
 obtain⟨R,hR⟩: ∃r,r=Zm_ (askM l y.id) 0 l.length:=⟨_,rfl⟩
 have hRn:R≤l.length:=by rw[hR];exact(kS_ (askM l y.id) _ 0 l.length (Nat.le_refl _) (Nat.zero_le _)).2.1
 rw[←hR]
 first|with_reducible refine ks [] @jt_ ?_|refine kp @jt_ ?_
 refine Ow.box rfl rfl fun b4 hb4 hw4=> ?_
 simp only[jL_,jr_,jq_,zg_,List.nil_append,List.cons_append]
 refine Ow.go rfl ?_
 simp(disch:=(first|assumption|omega| (simp only[xN_,xT_,UInt64.reduceToNat];try omega))) only[↓Sx.S0,Sx.S1,Tryd.fx,jt_,Nat.reduceAdd,Nat.reducePow,Int.reducePow,Nat.reduceBEq, ↓reduceIte,UInt8.reduceToNat,UInt16.reduceToNat,UInt32.reduceToNat,UInt64.reduceToNat,Int.reduceToNat]
 have hN:New w.heap.size [(b4,Obj.cells (lnC y).toArray 38 (0,0))]:=⟨hw4,trivial⟩
 first|with_reducible refine ks [] (And.intro @jt_ @ln) ?_|refine kp (And.intro @jt_ @ln) ?_
 refine Cw.loopG (G:=SrG) [15,16,17,18,19,20,21,22,23,11,24,25,26,27,28,29,30,31,32,33,9,34,10] (fun g=> [(6,vi 0),(7, .bool false),(9,vi g.i),(10,vi g.j)]) (fun g=> [(b4, .cells (lnC y).toArray 38 (0,0))]) (fun g=>g.i≤g.j∧g.j≤l.length∧R=Zm_ (askM l y.id) g.i g.j) (fun g=>g.j - g.i) ⟨0,l.length⟩ rfl rfl ?_ ?_
 ·exact⟨Nat.zero_le _,Nat.le_refl _,hR⟩
 intro g j hg
 refine kv ?_
 obtain⟨i,j⟩:=g
 simp only at hg ⊢
 obtain⟨h1,h2,h3⟩:=hg
 by_cases hlt:i<j
 ·have d1:decide ((i:Int)< (j:Int))=true:=decide_eq_true (by omega)
  rw[Zm_,if_pos hlt] at h3
  have hm: (i+j) / 2<l.length:=by omega
  have hb:=hr.has (by omega)
  have hrl:=hr.lt (by omega)
  have hn4:b4≠rb:=by omega
  have ix:=hr.idx true ((i+j) / 2) hm
  have ld:=hr.load qc_ (by omega) hm
  first|with_reducible refine ks [] (And.intro @jt_ @d1) ?_|refine kp (And.intro @jt_ @d1) ?_
  refine Cw.regionS [b4,rb] [0,1,2,3,4,5,6,7] [] (by kernel_rfl) (by kernel_rfl) (by kernel_rfl) ?_
  simp only[zj_, ↓zf_, ↓zb_, ↓zp_, ↓zq_,zc_]
  refine kq (And.intro @jt_ (And.intro @hb (And.intro @ix (@ld)))) ?_
  refine Ow.soft rfl rfl rfl ?_
  refine Ow.callFn2 (v:=vi (wO_ (l.getD ((i+j) / 2) Go.Proofs.ln0).id y.id)) rfl rfl rfl rfl Tryd.call30 (fun w' hw'=>vF_ _ y w') ?_
  with_reducible refine Ow.nil ?_
  refine⟨by intro b hb;simp only[List.mem_cons,List.not_mem_nil,or_false] at hb;(try subst hb);rfl, ?_⟩
  cases hp:askM l y.id ((i+j) / 2) with
  |true=>
   rw[hp,if_pos rfl] at h3
   have hc:decide (wO_ (l.getD ((i+j) / 2) Go.Proofs.ln0).id y.id<0)=false:=decide_eq_false (by have:=of_decide_eq_true (show decide _=true from hp);omega)
   refine kq (And.intro @jt_ @hc) ?_
   try with_reducible refine Ow.nil ?_
   first|with_reducible refine ks [] @jt_ ?_|refine kp @jt_ ?_
   exact Again.mk ⟨i,(i+j) / 2⟩ (by show(i+j) / 2 - i<j - i;omega) ⟨by show i≤ (i+j) / 2;omega,by show(i+j) / 2≤l.length;omega,h3⟩ rfl rfl
  |false=>
   rw[hp,if_neg (by simp)] at h3
   have hc:decide (wO_ (l.getD ((i+j) / 2) Go.Proofs.ln0).id y.id<0)=true:=decide_eq_true (by have:=of_decide_eq_false (show decide _=false from hp);omega)
   refine kq (And.intro @jt_ @hc) ?_
   try with_reducible refine Ow.nil ?_
   first|with_reducible refine ks [] @jt_ ?_|refine kp @jt_ ?_
   exact Again.mk ⟨(i+j) / 2+1,j⟩ (by show j - ((i+j) / 2+1)<j - i;omega) ⟨by show(i+j) / 2+1≤j;omega,h2,h3⟩ rfl rfl
 ·have d1:decide ((i:Int)< (j:Int))=false:=decide_eq_false (by omega)
  rw[Zm_,if_neg hlt] at h3
  subst h3
  by_cases hk:R<l.length
  ·have d2:decide ((R:Int)< (l.length:Int))=true:=decide_eq_true (by omega)
   have hb:=hr.has (by omega)
   have hrl:=hr.lt (by omega)
   have hn4:b4≠rb:=by omega
   have ix:=hr.idx true R hk
   have ld:=hr.load qc_ (by omega) hk
   rw[decide_eq_true hk,Bool.true_and,←adb_]
   first|with_reducible refine ks [] (And.intro @jt_ @d1) ?_|refine kp (And.intro @jt_ @d1) ?_
   refine Cw.regionS [b4,rb] [0,1,2,3,4,5,6,7,8,9,10,11,12,13,14,15] [] (by kernel_rfl) (by kernel_rfl) (by kernel_rfl) ?_
   simp only[zj_, ↓zf_, ↓zb_, ↓zp_, ↓zq_,zc_]
   refine kq (And.intro @jt_ (And.intro @d2 (And.intro @hb (And.intro @ix (@ld))))) ?_
   refine Ow.soft rfl rfl rfl ?_
   refine Ow.callFn2 (v:=vi (wO_ (l.getD R Go.Proofs.ln0).id y.id)) rfl rfl rfl rfl Tryd.call30 (fun w' hw'=>vF_ _ y w') ?_
   with_reducible refine Ow.nil ?_
   refine⟨by intro b hb;simp only[List.mem_cons,List.not_mem_nil,or_false] at hb;(try subst hb);rfl, ?_⟩
   refine kq @jt_ ?_
   try with_reducible refine Ow.nil ?_
   first|with_reducible refine ks [] @jt_ ?_|refine kp @jt_ ?_
   refine⟨_,(ke @jt_),hN, ?_⟩
   rfl
  ·have d2:decide ((R:Int)< (l.length:Int))=false:=decide_eq_false (by omega)
   rw[decide_eq_false hk,Bool.false_and]
   first|with_reducible refine ks [] (And.intro @jt_ @d1) ?_|refine kp (And.intro @jt_ @d1) ?_
   refine Cw.regionS [b4] [0,1,2,3,4,5,6,7,8,9,10,11,12,13,14,15] [] (by kernel_rfl) (by kernel_rfl) (by kernel_rfl) ?_
   simp only[zj_, ↓zf_, ↓zb_, ↓zp_, ↓zq_,zc_]
   refine kq (And.intro @jt_ @d2) ?_
   try with_reducible refine Ow.nil ?_
   first|with_reducible refine ks [] @jt_ ?_|refine kp @jt_ ?_
   refine⟨_,(ke @jt_),hN, ?_⟩
   rfl
end Go.Proofs
end
section
open Go Go.Proofs Go.Sx Go.StP Go.Flo
namespace Go.Proofs
set_option maxRecDepth 10000
set_option maxHeartbeats 1000000
set_option linter.unusedSimpArgs false
def afD_ (names:List (List UInt8)) (r:LnL×Bool):List UInt8:=if r.2 then names.getD r.1.share.toNat [] else []
def Vw_ (names:List (List UInt8)) (lines:List LnL) (x:IdL):Value:= .tuple #[vs (afD_ names (qO_ lines x)), .agg (lnC (qO_ lines x).1).toArray, .bool (qO_ lines x).2]
set_option linter.defProp false
def jM_:=And.intro (And.intro (And.intro (@qH_) (And.intro (@ze_) (@zd_))) (And.intro (And.intro (@vX_) (@q7_)) (And.intro (@wC_) (@kd_)))) (And.intro (And.intro (And.intro (@k8_) (@xp_)) (And.intro (@k6_) (@k2_))) (And.intro (And.intro (@akK_) (@ahP_)) (And.intro (@Sx.tup2_0) (@Sx.tup2_1))))
theorem Xk_ (b:Nat) (names sums:List (List UInt8)) (lines:List LnL) (x:IdL) (w:World) (h:MgIn w b names sums lines) (hok:qn_ names lines=true) (hn:names.length<1000000) (hl:lines.length<1000000):
  Rets Tryd.prog 9 #[vp b 0, .agg (a8 x.l)] w (fun v D=>v=Vw_ names lines x∧D= []):=by
 obtain⟨v0,v1,v2,h1,h2,h3,h4⟩:=id h
 obtain⟨rb,off,arr,E,fz,hr⟩:=h4.row
 obtain⟨sb,soff,sarr,SE,sfz,hsr⟩:=h2.row
 have hbil:=(Array.getElem?_eq_some_iff.1 h1).1
 unfold qn_ at hok
 rw[Bool.and_eq_true,Bool.and_eq_true,Bool.and_eq_true] at hok
 obtain⟨⟨-,hris⟩,hall⟩:=hok
 rw[Bool.and_eq_true] at hall
 have hlin:=hall.1
 have hbs:=kS_ (askM lines x) _ 0 lines.length (Nat.le_refl _) (Nat.zero_le _)
 generalize hat:Zm_ (askM lines x) 0 lines.length=R at hbs
 have hfa:=aje_ hris x (p:=R) hbs.2.1 (by
  rcases hbs.2.2.1 with e|e
  ·left;omega
  ·by_cases h0:R=0
   ·left;omega
   ·right
    unfold askM at e
    rw[decide_eq_false_iff_not] at e
    exact cmpI_lt.1 (Int.not_le.1 e)) (by
  rcases hbs.2.2.2 with e|e
  ·left;omega
  ·right
   unfold askM at e
   rw[decide_eq_true_eq] at e
   exact cmpI_ge.1 e)
 unfold Vw_
 rw[hfa]
 refine Rets.enterV Tryd.func9 rfl (rs:= [.tmp 4, .cell 5 38, .tmp 6]) Tryd.results9 Tryd.ntmps9 ?_
 refine kf ?_
 first|with_reducible refine ks [] @jM_ ?_|refine kp @jM_ ?_
 refine Ow.box rfl rfl fun b2 hb2 hw2=> ?_
 simp only[jL_,jr_,jq_,zg_,List.nil_append,List.cons_append]
 refine Ow.go rfl ?_
 simp(disch:=(first|assumption|omega| (simp only[xN_,xT_,UInt64.reduceToNat];try omega))) only[↓Sx.S0,Sx.S1,Tryd.fx,jM_,Nat.reduceAdd,Nat.reducePow,Int.reducePow,Nat.reduceBEq, ↓reduceIte,UInt8.reduceToNat,UInt16.reduceToNat,UInt32.reduceToNat,UInt64.reduceToNat,Int.reduceToNat]
 refine Ow.alloc rfl rfl Kc_ fun b3 hb3 hw3=> ?_
 simp only[zg_,List.nil_append,List.cons_append]
 obtain⟨h23,-⟩:=hb3
 refine Ow.permL (M:= [(b3, .cells (lnC Go.Proofs.ln0).toArray 38 (0,0)),(b2, .cells (a8 x.l) 36 (0,0))]) (by classical exact List.perm_iff_count.2 fun a=>by simp only[List.count_append,List.count_cons,List.count_nil]<;>omega) ?_
 refine ko @jM_ ?_
 have hN3:New w.heap.size [(b3,Obj.cells (lnC Go.Proofs.ln0).toArray 38 (0,0)),(b2, .cells (a8 x.l) 36 (0,0))]:=⟨hw3,hw2,trivial⟩
 have hn2b:b2≠b:=by omega
 have hn3b:b3≠b:=by omega
 first|with_reducible refine ks [] @jM_ ?_|refine kp @jM_ ?_
 refine Cw.regionS [b2,b] [0,1,2,3,4,5,6,7,8,9,10,11] [] (by kernel_rfl) (by kernel_rfl) (by kernel_rfl) ?_
 simp only[zj_, ↓zf_, ↓zb_, ↓zp_, ↓zq_,zc_]
 refine kq (And.intro @jM_ @h1) ?_
 refine Ow.build (.agg (lnC ⟨x,0,0,0⟩).toArray) rfl (Qq_ ⟨x,0,0,0⟩) ?_
 refine kq @jM_ ?_
 refine Ow.soft rfl rfl rfl ?_
 refine Ow.callFV rfl Tryd.call29 (fun w' hw'=>aev_ v2 lines ⟨x,0,0,0⟩ w' (h4.oldN hw' hN3) hl) ?_
 rw[hat]
 with_reducible refine Ow.nil ?_
 refine⟨by intro b hb;simp only[List.mem_cons,List.not_mem_nil,or_false] at hb;(try subst hb);rfl, ?_⟩
 refine kq @jM_ ?_
 try with_reducible refine Ow.nil ?_
 by_cases hc:R<lines.length∧(lines.getD R Go.Proofs.ln0).id.l=x.l
 ·rw[if_pos hc]
  obtain⟨hRl,hRe⟩:=hc
  have hb:=hr.has (by omega)
  have hrl:=hr.lt (by omega)
  have ix:=hr.idx true R hRl
  have ld:=hr.load qc_ (by omega) hRl
  have hmem:lines.getD R Go.Proofs.ln0∈lines:=by rw[abx_ hRl];exact List.getElem_mem hRl
  have hln:=List.all_eq_true.1 hlin _ hmem
  rw[decide_eq_true hRl,Bool.true_and,show((lines.getD R Go.Proofs.ln0).id.l==x.l)=true from by rw[hRe];exact beq_self_eq_true _]
  generalize lines.getD R Go.Proofs.ln0=r at*
  unfold jJ_ at hln
  rw[Bool.and_eq_true,Bool.and_eq_true,Bool.and_eq_true,Bool.not_eq_true',Bool.not_eq_true',decide_eq_false_iff_not,decide_eq_false_iff_not] at hln
  obtain⟨i,sh,pl,sp⟩:=r
  simp only at hln hRe
  obtain⟨sn,rfl⟩: ∃sn:Nat,sh=(sn:Int):=⟨sh.toNat,by omega⟩
  have hsn:sn<names.length:=by omega
  have hsb:=hsr.has (by omega)
  have hsl:=hsr.lt (by omega)
  have isx:=hsr.idx false sn hsn
  have sd:=fun n=>wI_ hsr hsn n
  have hn2:b2≠rb:=by omega
  have hn3:b3≠rb:=by omega
  first|with_reducible refine ks [] (And.intro @jM_ (And.intro @h1 (And.intro @ix (And.intro @hb (@ld))))) ?_|refine kp (And.intro @jM_ (And.intro @h1 (And.intro @ix (And.intro @hb (@ld))))) ?_
  refine Ow.alloc rfl rfl Kc_ fun b9 hb9 hw9=> ?_
  simp only[zg_,List.nil_append,List.cons_append]
  obtain⟨h92,h93,-⟩:=hb9
  refine Ow.permL (M:= [(b9, .cells (lnC Go.Proofs.ln0).toArray 38 (0,0)),(b3, .cells (lnC Go.Proofs.ln0).toArray 38 (0,0)),(b2, .cells (a8 x.l) 36 (0,0))]) (by classical exact List.perm_iff_count.2 fun a=>by simp only[List.count_append,List.count_cons,List.count_nil]<;>omega) ?_
  refine ko @jM_ ?_
  have hn9:b9≠rb:=by omega
  have hn9b:b9≠b:=by omega
  have hn9s:b9≠sb:=by omega
  have hn3s:b3≠sb:=by omega
  have hn2s:b2≠sb:=by omega
  first|with_reducible refine ks [] @jM_ ?_|refine kp @jM_ ?_
  refine Cw.regionS [b9,b2,b3,b,sb] [0,1,2,4,3,5,6,7,9,8,10,11] [10] (by kernel_rfl) (by kernel_rfl) (by kernel_rfl) ?_
  simp only[zj_, ↓zf_, ↓zb_, ↓zp_, ↓zq_,zc_]
  refine kq (And.intro @jM_ (And.intro @h1 (And.intro @isx (And.intro @hsb (@sd))))) ?_
  refine Ow.store rfl rfl rfl (ke @jM_) ?_
  refine ko @jM_ ?_
  first|with_reducible refine ks [] @jM_ ?_|refine kp @jM_ ?_
  refine⟨_,(ke @jM_),⟨hw9,hw3,hw2,trivial⟩, ?_⟩
  (unfold afD_;rfl)
 ·rw[if_neg hc]
  have hf: (decide (R<lines.length)&& ((lines.getD R Go.Proofs.ln0).id.l==x.l))=false:=by
   rw[Bool.and_eq_false_iff,decide_eq_false_iff_not,beq_eq_false_iff_ne]
   exact Decidable.not_and_iff_or_not.1 hc
  rw[hf]
  first|with_reducible refine ks [] @jM_ ?_|refine kp @jM_ ?_
  refine Ow.build (.agg (lnC Go.Proofs.ln0).toArray) rfl (by rw[show QW_ Tryd.prog 38=some [(0,32),(32,1),(33,1),(34,1)] from id (by kernel_rfl),Kc_];simp[jb_,Sx.fillV]) ?_
  refine ko @jM_ ?_
  first|with_reducible refine ks [] @jM_ ?_|refine kp @jM_ ?_
  refine⟨_,(ke @jM_),hN3, ?_⟩
  rfl
def kj_ (a b:ShL):Int:=WL_ a.name b.name
theorem j5_ (a b:ShL) (w:World):Rets Tryd.prog 16 #[.agg (shC a).toArray, .agg (shC b).toArray] w (fun v D=>v=vi (kj_ a b)∧D= []):=acE_ a b w
end Go.Proofs
end
section
open Go Go.Proofs Go.Sx Go.StP
namespace Go.Proofs
set_option maxRecDepth 10000
set_option maxHeartbeats 4000000
set_option linter.unusedSimpArgs false
abbrev zu_ (rest:List Value) (d:List ShL):Obj:=rowO shC 26 rest d
theorem xc_ {rest:List Value} {d:List ShL} (k:Nat) (hk:k<d.length):zn_ (some (true,2)) (some (zu_ rest d)) (k*2)=some (.agg (shC (d.getD k sh0)).toArray):=abL_ (z:=sh0) jj_ k hk
theorem jB_ {rest:List Value} {d:List ShL} (k:Nat) (x:ShL) (a:Bool) (hk:k<d.length):zl_ (some (a,2)) (some (zu_ rest d)) (k*2) (.agg (shC x).toArray)=some (zu_ rest (d.set k x)):=Ks_ jj_ VW_ k x a hk
set_option linter.defProp false
def xy_:=And.intro (And.intro (@xc_) (@jB_)) (And.intro (@vB_) (And.intro (@xZ_) (@xa_)))
theorem ji_ (rb n c:Nat) (A X M Y C:List ShL) (rest:List Value) (fv:Value) (a b k:Nat) (w:World) (hX:X.length=k) (hY:Y.length=k) (ha:A.length=a) (hb:b=a+k+M.length) (hn:n=a+k+M.length+k+C.length) (hs:n<1000000)
  (ho:w.heap[rb]? =some (zu_ rest (A++ (X++ (M++ (Y++C)))))):
  Rets Tryd.prog 89 #[vsl rb 0 n c,vi a,vi b,vi k,fv] w (fun v D=> ∃o,D= [(rb,o)]∧v= .tuple #[]∧o=zu_ rest (A++ (Y++ (M++ (X++C))))):=by
 refine Rets.enterM Tryd.func89 rfl (rs:= []) Tryd.results89 Tryd.ntmps89 ho ?_
 refine kf ?_
 first|with_reducible refine ks [] @xy_ ?_|refine kp @xy_ ?_
 subst ha hb hn
 refine Cw.loopG (G:=Nat) [11,12,13,16,17,18,19,20,21,22,23,24,25,26,27,28,29,30,31,32,33,34,35,36,37,14,15,10] (fun g=> [(10,vi g)]) (fun g=> [(rb,zu_ rest (swp A X M Y C g))]) (fun g=>g≤k) (fun g=>k - g) 0 rfl rfl ?_ ?_
 ·exact Nat.zero_le _
 ·intro g j hg
  refine kv ?_
  by_cases hlt:g<k
  ·first|with_reducible refine ks [] @xy_ ?_|refine kp @xy_ ?_
   have hl:=afv_ (a:=A) (m:=M) (c:=C) hX hY hg
   have h1:=aj1_ (a:=A) (m:=M) (c:=C) (z:=sh0) hX hY hlt rfl
   have h2:=ajG_ (a:=A) (m:=M) (c:=C) (z:=sh0) hX hY hlt rfl
   refine Cw.regionS [rb] [0,1,2,3,4,5,6,7,8,9,10,11,12,14,15,16,17,18,13,19,20,21,22,23] [21,23] (by kernel_rfl) (by kernel_rfl) (by kernel_rfl) ?_
   simp only[zj_, ↓zf_, ↓zb_, ↓zp_, ↓zq_,zc_]
   refine kq @xy_ ?_
   refine Ow.store rfl rfl rfl (ke @xy_) ?_
   refine ko @xy_ ?_
   rw[h1,h2]
   refine Again.mk (g+1) (by omega) (by omega) ?_ rfl
   rw[aaY_ hX hY hlt rfl rfl]
  ·obtain rfl:g=k:=by omega
   first|with_reducible refine ks [] @xy_ ?_|refine kp @xy_ ?_
   refine⟨_,_,_,(ke @xy_),rfl,trivial, ?_⟩
   exact⟨rfl,by unfold swp;rw[List.take_of_length_le (by omega),List.take_of_length_le (by omega),List.drop_eq_nil_of_le (by omega),List.drop_eq_nil_of_le (by omega),List.append_nil,List.append_nil]⟩
structure shs_RotG where
 A:List ShL
 U:List ShL
 V:List ShL
 B:List ShL
theorem ZH_ (rb n c:Nat) (A U V B:List ShL) (rest:List Value) (fv:Value) (a m b:Nat) (w:World) (hU:0<U.length) (hV:0<V.length) (ha:A.length=a) (hm:m=a+U.length) (hb:b=m+V.length) (hn:n=b+B.length) (hs:n<1000000)
  (ho:w.heap[rb]? =some (zu_ rest (A++ (U++ (V++B))))):
  Rets Tryd.prog 75 #[vsl rb 0 n c,vi a,vi m,vi b,fv] w (fun v D=> ∃o,D= [(rb,o)]∧v= .tuple #[]∧o=zu_ rest (A++ (V++ (U++B)))):=by
 have e1: (m:Int) - a=(U.length:Nat):=by omega
 have e2: (b:Int) - m=(V.length:Nat):=by omega
 refine Rets.enterM Tryd.func75 rfl (rs:= []) Tryd.results75 Tryd.ntmps75 ho ?_
 refine kf ?_
 first|with_reducible refine ks [] (And.intro @xy_ (And.intro @e1 (@e2))) ?_|refine kp (And.intro @xy_ (And.intro @e1 (@e2))) ?_
 refine Cw.loopG (G:=shs_RotG) [18,19,20,21,22,23,24,25,26,27,28,29,30,31,32,33,34,10,35,36,37,38,39,40,41,42,43,44,45,46,47,48,49,11] (fun g=> [(10,vi g.U.length),(11,vi g.V.length)]) (fun g=> [(rb,zu_ rest (g.A++ (g.U++ (g.V++g.B))))]) (fun g=>0<g.U.length∧0<g.V.length∧g.A.length+g.U.length=m∧g.A++ (g.V++ (g.U++g.B))=A++ (V++ (U++B))∧m+g.V.length+g.B.length=n) (fun g=>g.U.length+g.V.length) ⟨A,U,V,B⟩ rfl rfl ?_ ?_
 ·exact⟨hU,hV,by show A.length+U.length=m;omega,rfl,by show m+V.length+B.length=n;omega⟩
 ·intro g j hg
  refine kv ?_
  obtain⟨A',U',V',B'⟩:=g
  obtain⟨hu,hv,hA,hT,hN⟩:=hg
  dsimp only at hu hv hA hT hN ⊢
  have e3: (m:Int) - U'.length=(A'.length:Nat):=by omega
  by_cases h1:U'.length=V'.length
  ·first|with_reducible refine ks [] (And.intro @xy_ @e3) ?_|refine kp (And.intro @xy_ @e3) ?_
   refine Ow.callM rfl rfl Tryd.call89 (by simp[keys]) (fun w' hw'=>ji_ rb n c A' U' [] V' B' rest fv A'.length m U'.length w' rfl h1.symm rfl (by simp only[List.length_nil];omega) (by simp only[List.length_nil];omega) hs (hw'.has _ _ List.mem_cons_self)) ?_
   refine ko @xy_ ?_
   refine⟨_,_,_,(ke @xy_),rfl,trivial, ?_⟩
   exact⟨rfl,congrArg (zu_ rest) hT⟩
  ·by_cases h2:V'.length<U'.length
   ·obtain⟨U1,U2,rfl,hU1⟩:=JM_ U' (Nat.le_of_lt h2)
    rw[List.length_append] at hA h2 hu h1
    have e4: (m:Int) - (U1++U2).length=(A'.length:Nat):=by rw[List.length_append];omega
    first|with_reducible refine ks [] (And.intro @xy_ @e4) ?_|refine kp (And.intro @xy_ @e4) ?_
    refine Ow.callM rfl rfl Tryd.call89 (by simp[keys]) (fun w' hw'=>ji_ rb n c A' U1 U2 V' B' rest fv A'.length m V'.length w' hU1 rfl rfl (by omega) (by omega) hs (by rw[←List.append_assoc U1];exact hw'.has _ _ List.mem_cons_self)) ?_
    have e5: ((U1++U2).length:Int) - (V'.length:Int)=(U2.length:Nat):=by rw[List.length_append];omega
    refine ko (And.intro @xy_ @e5) ?_
    refine Again.mk ⟨A'++V',U2,U1,B'⟩ (by simp only[List.length_append];omega) ⟨by show 0<U2.length;omega,by show 0<U1.length;omega,by simp only[List.length_append];omega, ?_,by show m+U1.length+B'.length=n;omega⟩ ?_ ?_
    ·rw[←hT];simp only[List.append_assoc]
    ·simp only[List.append_assoc]
    ·dsimp only;rw[hU1];rfl
   ·obtain⟨V1,V2,rfl,hV1⟩:=JM_ V' (show V'.length - U'.length≤V'.length by omega)
    rw[List.length_append] at hN h2 hv h1 hV1
    have e4: (m:Int)+ (V1++V2).length - U'.length=((A'.length+U'.length+V1.length:Nat):Int):=by rw[List.length_append];omega
    first|with_reducible refine ks [] (And.intro @xy_ (And.intro @e3 (@e4))) ?_|refine kp (And.intro @xy_ (And.intro @e3 (@e4))) ?_
    refine Ow.callM rfl rfl Tryd.call89 (by simp[keys]) (fun w' hw'=>ji_ rb n c A' U' V1 V2 B' rest fv A'.length (A'.length+U'.length+V1.length) U'.length w' rfl (by omega) rfl (by omega) (by omega) hs (by rw[←List.append_assoc V1];exact hw'.has _ _ List.mem_cons_self)) ?_
    have e5: ((V1++V2).length:Int) - (U'.length:Int)=(V1.length:Nat):=by rw[List.length_append];omega
    have e6:V2.length=U'.length:=by omega
    refine ko (And.intro @xy_ @e5) ?_
    refine Again.mk ⟨A',V2,V1,U'++B'⟩ (by simp only[List.length_append];omega) ⟨by show 0<V2.length;omega,by show 0<V1.length;omega,by show A'.length+V2.length=m;omega, ?_,by simp only[List.length_append];omega⟩ ?_ ?_
    ·rw[←hT];simp only[List.append_assoc]
    ·simp only[List.append_assoc]
    ·dsimp only;rw[e6];rfl
end Go.Proofs
end
section
open Go Go.Proofs Go.Sx Go.StP
namespace Go.Proofs
set_option maxRecDepth 10000
set_option maxHeartbeats 4000000
set_option linter.unusedSimpArgs false
abbrev qK_ (a b:ShL):Bool:=StP.lt (fun r:ShL=>r.name) a b
abbrev zw_ (l:List ShL):Prop:=StP.Sorted (fun r:ShL=>r.name) l
abbrev q9_ (l l':List ShL):Prop:=StP.St (fun r:ShL=>r.name) l l'
theorem vM_ (a b:ShL):decide (kj_ a b<0)=qK_ a b:=by
 unfold kj_ WL_ qK_ StP.lt
 cases h:ltB a.name b.name
 ·rw[if_neg (by simp)]
  split<;>rfl
 ·rw[if_pos rfl];rfl
structure shs_InsG where
 S:List ShL
 R:List ShL
set_option linter.defProp false
def jF_:=And.intro (And.intro (@xc_) (And.intro (@jB_) (@vB_))) (And.intro (@xZ_) (And.intro (@xa_) (@vM_)))
theorem xB_ (rb n c:Nat) (A M B:List ShL) (rest:List Value) (a b:Nat) (w:World) (ha:A.length=a) (hb:b=a+M.length) (hn:n=b+B.length) (hs:n<1000000)
  (ho:w.heap[rb]? =some (zu_ rest (A++ (M++B)))):
  Rets Tryd.prog 66 #[vsl rb 0 n c,vi a,vi b, .func (.func 16) #[] #[]] w (fun v D=> ∃o,D= [(rb,o)]∧v= .tuple #[]∧ ∃M',o=zu_ rest (A++ (M'++B))∧M'.length=M.length∧zw_ M'∧q9_ M M'):=by
 cases M with
 |nil=>
  simp only[List.length_nil,Nat.add_zero] at hb
  subst hb
  refine Rets.enterM Tryd.func66 rfl (rs:= []) Tryd.results66 Tryd.ntmps66 ho ?_
  refine kf ?_
  first|with_reducible refine ks [] @jF_ ?_|refine kp @jF_ ?_
  refine Cw.loopG (G:=Unit) [12,13,14,17,9,18,19,20,21,22,23,24,25,26,27,28,29,30,31,32,33,34,37,38,39,40,41,42,43,44,45,46,47,48,49,50,51,52,35,36,15,16,8] (fun g=> [(8,vi (b+1))]) (fun g=> [(rb,zu_ rest (A++ ([]++B)))]) (fun g=>True) (fun g=>0) () rfl rfl ?_ ?_
  ·trivial
  ·intro g j hg
   refine kv ?_
   first|with_reducible refine ks [] @jF_ ?_|refine kp @jF_ ?_
   refine⟨_,_,_,(ke @jF_),rfl,trivial, ?_⟩
   exact⟨rfl,[],rfl,rfl,List.Pairwise.nil,StP.St.refl _ _⟩
 |cons x0 M=>
  refine Rets.enterM Tryd.func66 rfl (rs:= []) Tryd.results66 Tryd.ntmps66 ho ?_
  refine kf ?_
  first|with_reducible refine ks [] @jF_ ?_|refine kp @jF_ ?_
  have e0: (a:Int)+1=((a+ [x0].length:Nat):Int):=by simp
  rw[e0]
  refine Cw.loopG (G:=shs_InsG) [12,13,14,17,9,18,19,20,21,22,23,24,25,26,27,28,29,30,31,32,33,34,37,38,39,40,41,42,43,44,45,46,47,48,49,50,51,52,35,36,15,16,8] (fun g=> [(8,vi (a+g.S.length:Nat))]) (fun g=> [(rb,zu_ rest (A++ (g.S++ (g.R++B))))]) (fun g=> ∃M1,x0::M=M1++g.R∧g.S.length=M1.length∧zw_ g.S∧q9_ M1 g.S) (fun g=>g.R.length) ⟨[x0],M⟩ rfl rfl ?_ ?_
  ·exact⟨[x0],rfl,rfl,List.pairwise_singleton _ _,StP.St.refl _ _⟩
  ·intro g j hg
   refine kv ?_
   obtain⟨S,R⟩:=g
   obtain⟨M1,hM,hS1,hS2,hS3⟩:=hg
   dsimp only at hM hS1 hS2 hS3 ⊢
   have hlen:=congrArg List.length hM
   rw[List.length_cons,List.length_append] at hlen
   rw[List.length_cons] at hb
   cases R with
   |nil=>
    rw[List.length_nil] at hlen
    first|with_reducible refine ks [] @jF_ ?_|refine kp @jF_ ?_
    refine⟨_,_,_,(ke @jF_),rfl,trivial, ?_⟩
    exact⟨rfl,S,rfl,by show S.length=M.length+1;omega,hS2,by rw[show x0::M=M1 from by rw[hM,List.append_nil]];exact hS3⟩
   |cons x R=>
    rw[List.length_cons] at hlen
    have e1:A++ (S++ (x::R++B))=zV_ A S x (R++B) S.length:=by rw[wd_ _ _ _ _ (Nat.le_refl _)];simp only[List.append_assoc,List.cons_append,List.nil_append]
    rw[e1]
    first|with_reducible refine ks [] @jF_ ?_|refine kp @jF_ ?_
    refine Cw.loopG (G:=Nat) [18,19,20,21,22,23,24,25,26,27,28,29,30,31,32,33,34,37,38,39,40,41,42,43,44,45,46,47,48,49,50,51,52,35,36,9] (fun g=> [(9,vi (a+g:Nat))]) (fun g=> [(rb,zu_ rest (zV_ A S x (R++B) g))]) (fun g=>g≤S.length∧(S.length≤g∨qK_ x (S.getD g sh0)=true)) (fun g=>g) S.length rfl rfl ?_ ?_
    ·exact⟨Nat.le_refl _, .inl (Nat.le_refl _)⟩
    ·intro k jk hk
     refine kv ?_
     obtain⟨hk1,hk2⟩:=hk
     have hl:=q2_ A S x (R++B) k
     rw[List.length_append] at hl
     have done: (k=0∨qK_ x (S.getD (k - 1) sh0)=false)→q9_ (M1++ [x]) (S.take k++x::S.drop k)∧zw_ (S.take k++x::S.drop k):=fun h=>by
      obtain⟨q1,q2⟩:=xD_ (z:=sh0) hS2 hk1 h hk2
      exact⟨(StP.St.app hS3 (StP.St.refl _ _)).trans q2,q1⟩
     first|with_reducible refine ks [] @jF_ ?_|refine kp @jF_ ?_
     by_cases hk0:k=0
     ·have e2:decide ((a:Int)< ((a+k:Nat):Int))=false:=decide_eq_false (by omega)
      refine Cw.regionS [rb] [0,1,2,3,4,5,6,7,9,10,11,12,8,13,14,15,16] [] (by kernel_rfl) (by kernel_rfl) (by kernel_rfl) ?_
      simp only[zj_, ↓zf_, ↓zb_, ↓zp_, ↓zq_,zc_]
      refine kq (And.intro @jF_ @e2) ?_
      first|with_reducible refine ks [] @jF_ ?_|refine kp @jF_ ?_
      obtain⟨d1,d2⟩:=done (.inl hk0)
      refine Again.mk ⟨S.take k++x::S.drop k,R⟩ (by show R.length< (x::R).length;simp) ⟨M1++ [x],by rw[hM];simp,by simp only[List.length_append,List.length_cons,List.length_nil,List.length_take,List.length_drop];omega,d2,d1⟩ ?_ ?_
      ·rw[jO_]
      ·dsimp only
       rw[show(S.take k++x::S.drop k).length=S.length+1 by simp only[List.length_append,List.length_cons,List.length_take,List.length_drop];omega]
       rfl
     ·have e2:decide ((a:Int)< ((a+k:Nat):Int))=true:=decide_eq_true (by omega)
      refine Cw.regionS [rb] [0,1,2,3,4,5,6,7,9,10,11,12,8,13,14,15,16] [] (by kernel_rfl) (by kernel_rfl) (by kernel_rfl) ?_
      simp only[zj_, ↓zf_, ↓zb_, ↓zp_, ↓zq_,zc_]
      refine kq (And.intro @jF_ @e2) ?_
      refine Ow.callFn2 (v:=vi (kj_ x (S.getD (k - 1) sh0))) rfl rfl (by
       show Value.agg _=Value.agg (shC x).toArray
       rw[jP_ (z:=sh0) hk1 (by rw[ha])]) (by
       show Value.agg _=Value.agg (shC (S.getD (k - 1) sh0)).toArray
       rw[show k=(k - 1)+1 by omega,wW_ (z:=sh0) (k:=k - 1) (by omega) (by rw[ha];omega)];rfl) Tryd.call16 (fun w' hw'=>j5_ x (S.getD (k - 1) sh0) w') ?_
      refine kq @jF_ ?_
      cases hc:qK_ x (S.getD (k - 1) sh0)
      ·first|with_reducible refine ks [] @jF_ ?_|refine kp @jF_ ?_
       obtain⟨d1,d2⟩:=done (.inr hc)
       refine Again.mk ⟨S.take k++x::S.drop k,R⟩ (by show R.length< (x::R).length;simp) ⟨M1++ [x],by rw[hM];simp,by simp only[List.length_append,List.length_cons,List.length_nil,List.length_take,List.length_drop];omega,d2,d1⟩ ?_ ?_
       ·rw[jO_]
       ·dsimp only
        rw[show(S.take k++x::S.drop k).length=S.length+1 by simp only[List.length_append,List.length_cons,List.length_take,List.length_drop];omega]
        rfl
      ·first|with_reducible refine ks [] @jF_ ?_|refine kp @jF_ ?_
       obtain⟨k,rfl⟩: ∃q,k=q+1:=⟨k - 1,by omega⟩
       have h1:=jP_ (z:=sh0) (a:=A) (b:=R++B) (x:=x) hk1 (show a+ (k+1)=A.length+ (k+1) by omega)
       have h2:=wW_ (z:=sh0) (a:=A) (b:=R++B) (x:=x) (k:=k) (s:=S) (by omega) (show a+k=A.length+k by omega)
       have e3:a+ (k+1) - 1=a+k:=by omega
       refine Cw.regionS [rb] [0,1,2,3,4,5,6,7,8,10,11,12,9,13,14,15,16,17] [15,17] (by kernel_rfl) (by kernel_rfl) (by kernel_rfl) ?_
       simp only[zj_, ↓zf_, ↓zb_, ↓zp_, ↓zq_,zc_]
       refine kq (And.intro @jF_ (And.intro @e3 (And.intro @h1 (@h2)))) ?_
       refine Ow.store rfl rfl rfl (ke (And.intro @jF_ (And.intro @e3 (And.intro @h1 (@h2))))) ?_
       refine ko (And.intro @jF_ (And.intro @e3 (And.intro @h1 (@h2)))) ?_
       rw[vO_ (by omega),←Nat.add_assoc,vi_ (z:=sh0) (by omega) (by rw[ha])]
       refine Again.mk k (by omega) ⟨by omega, .inr hc⟩ rfl ?_
       rw[show(((a+k+1:Nat):Int)) - 1=((a+k:Nat):Int) by omega]
       rfl
end Go.Proofs
end
section
open Go Go.Proofs Go.Sx Go.StP
namespace Go.Proofs
set_option maxRecDepth 10000
set_option maxHeartbeats 4000000
set_option linter.unusedSimpArgs false
abbrev qm_:Value:= .func (.func 16) #[] #[]
def wH_ (rb:Nat) (A X Y B:List ShL) (rest:List Value) (v:Value) (D:za_):Prop:=
 ∃o,D= [(rb,o)]∧v= .tuple #[]∧ ∃Z,o=zu_ rest (A++ (Z++B))∧Z.length=X.length+Y.length∧zw_ Z∧q9_ (X++Y) Z
set_option linter.defProp false
def xW_:=And.intro (And.intro (@xc_) (And.intro (@jB_) (@vB_))) (And.intro (And.intro (@xZ_) (@xa_)) (And.intro (@vM_) (@vX_)))
theorem XL_ (rb n c:Nat) (A:List ShL) (x:ShL) (Y B:List ShL) (rest:List Value) (a m b:Nat) (w:World) (ha:A.length=a) (hm:m=a+1) (hb:b=m+Y.length) (hn:n=b+B.length) (hs:n<1000000) (hY:zw_ Y)
  (ho:w.heap[rb]? =some (zu_ rest (A++ ([x]++ (Y++B))))):
  Rets Tryd.prog 67 #[vsl rb 0 n c,vi a,vi m,vi b,qm_] w (wH_ rb A [x] Y B rest):=by
 subst hb
 refine Rets.enterM Tryd.func67 rfl (rs:= []) Tryd.results67 Tryd.ntmps67 ho ?_
 refine kf ?_
 first|with_reducible refine ks [] @xW_ ?_|refine kp @xW_ ?_
 have e0:A++x:: (Y++B)=zV_ A Y x B 0:=by rw[JX_];simp only[List.append_assoc,List.cons_append,List.nil_append]
 rw[e0]
 refine Cw.loopG (G:=BsG) [31,32,33,34,35,36,37,38,39,12,40,41,42,43,44,45,46,47,48,49,50,51,52,10,53,11] (fun g=> [(10,vi (m+g.i:Nat)),(11,vi (m+g.j:Nat))]) (fun g=> [(rb,zu_ rest (zV_ A Y x B 0))]) (fun g=>g.i≤g.j∧g.j≤Y.length∧(g.i=0∨qK_ (Y.getD (g.i - 1) sh0) x=true)∧(Y.length≤g.j∨qK_ (Y.getD g.j sh0) x=false)) (fun g=>g.j - g.i) ⟨0,Y.length⟩ rfl rfl ?_ ?_
 ·exact⟨Nat.zero_le _,Nat.le_refl _, .inl rfl, .inl (Nat.le_refl _)⟩
 ·intro g j hg
  refine kv ?_
  obtain⟨i,j⟩:=g
  obtain⟨h1,h2,h3,h4⟩:=hg
  dsimp only at h1 h2 h3 h4 ⊢
  by_cases hij:i<j
  ·have e1: (m+i+ (m+j)) / 2=m+ (i+j) / 2:=by omega
   have hl:=q2_ A Y x B 0
   first|with_reducible refine ks [] (And.intro @xW_ @e1) ?_|refine kp (And.intro @xW_ @e1) ?_
   have g1: (zV_ A Y x B 0).getD (m+ (i+j) / 2) sh0=Y.getD ((i+j) / 2) sh0:=abl_ (Nat.zero_le _) (by omega) (by omega)
   have g2: (zV_ A Y x B 0).getD a sh0=x:=jP_ (Nat.zero_le _) (by omega)
   refine Cw.regionS [rb] [0,1,2,3,5,6,7,4,8,9,10] [] (by kernel_rfl) (by kernel_rfl) (by kernel_rfl) ?_
   simp only[zj_, ↓zf_, ↓zb_, ↓zp_, ↓zq_,zc_]
   refine kq (And.intro @xW_ (And.intro @g1 (@g2))) ?_
   refine Ow.callFn2 (v:=vi (kj_ (Y.getD ((i+j) / 2) sh0) x)) rfl rfl rfl rfl Tryd.call16 (fun w' hw'=>j5_ _ _ w') ?_
   refine kq @xW_ ?_
   cases hc:qK_ (Y.getD ((i+j) / 2) sh0) x
   ·first|with_reducible refine ks [] @xW_ ?_|refine kp @xW_ ?_
    refine Again.mk ⟨i,(i+j) / 2⟩ (by show(i+j) / 2 - i<j - i;omega) ⟨by show i≤ (i+j) / 2;omega,by show(i+j) / 2≤Y.length;omega,h3, .inr hc⟩ rfl rfl
   ·first|with_reducible refine ks [] @xW_ ?_|refine kp @xW_ ?_
    refine Again.mk ⟨(i+j) / 2+1,j⟩ (by show j - ((i+j) / 2+1)<j - i;omega) ⟨by show(i+j) / 2+1≤j;omega,h2, .inr hc,h4⟩ rfl rfl
  ·obtain rfl:i=j:=by omega
   first|with_reducible refine ks [] @xW_ ?_|refine kp @xW_ ?_
   refine Cw.loopG (G:=Nat) [55,56,57,58,61,62,63,64,65,66,67,68,69,70,71,72,73,74,75,76,59,60,13] (fun g=> [(13,vi (a+g:Nat))]) (fun g=> [(rb,zu_ rest (zV_ A Y x B g))]) (fun g=>g≤i) (fun g=>i - g) 0 rfl rfl ?_ ?_
   ·exact Nat.zero_le _
   ·intro k jk hk
    refine kv ?_
    by_cases hk1:k<i
    ·first|with_reducible refine ks [] @xW_ ?_|refine kp @xW_ ?_
     have hl:=q2_ A Y x B k
     have g1: (zV_ A Y x B k).getD (a+k) sh0=x:=jP_ (by omega) (by omega)
     have g2: (zV_ A Y x B k).getD (a+k+1) sh0=Y.getD k sh0:=afI_ (by omega) (by omega)
     refine Cw.regionS [rb] [0,1,2,3,4,5,6,7,8,10,11,12,9,13,14,15,16,17] [15,17] (by kernel_rfl) (by kernel_rfl) (by kernel_rfl) ?_
     simp only[zj_, ↓zf_, ↓zb_, ↓zp_, ↓zq_,zc_]
     refine kq (And.intro @xW_ (And.intro @g1 (@g2))) ?_
     refine Ow.store rfl rfl rfl (ke (And.intro @xW_ (And.intro @g1 (@g2)))) ?_
     refine ko (And.intro @xW_ (And.intro @g1 (@g2))) ?_
     rw[aa1_ (z:=sh0) (by omega) (by omega)]
     exact Again.mk (k+1) (by omega) (by omega) rfl rfl
    ·obtain rfl:k=i:=by omega
     first|with_reducible refine ks [] @xW_ ?_|refine kp @xW_ ?_
     have hz:=vT_ (z:=sh0) hY h2 h3 h4
     refine⟨_,_,_,(ke @xW_),rfl,trivial, ?_⟩
     exact⟨rfl,_,by rw[jO_],by simp only[List.length_append,List.length_cons,List.length_nil,List.length_take,List.length_drop];omega,hz.1,hz.2⟩
end Go.Proofs
end
section
open Go Go.Proofs Go.Sx Go.StP
namespace Go.Proofs
set_option maxRecDepth 10000
set_option maxHeartbeats 4000000
set_option linter.unusedSimpArgs false
set_option linter.defProp false
def zM_:=And.intro (And.intro (@xc_) (And.intro (@jB_) (@vB_))) (And.intro (And.intro (@xZ_) (@xa_)) (And.intro (@vM_) (@vX_)))
theorem Jt_ (rb n c:Nat) (A X:List ShL) (y:ShL) (B:List ShL) (rest:List Value) (a m b:Nat) (w:World) (ha:A.length=a) (hm:m=a+X.length) (hX2:X.length≠1) (hb:b=m+1) (hn:n=b+B.length) (hs:n<1000000) (hX:zw_ X)
  (ho:w.heap[rb]? =some (zu_ rest (A++ (X++ ([y]++B))))):
  Rets Tryd.prog 67 #[vsl rb 0 n c,vi a,vi m,vi b,qm_] w (wH_ rb A X [y] B rest):=by
 subst hm
 refine Rets.enterM Tryd.func67 rfl (rs:= []) Tryd.results67 Tryd.ntmps67 ho ?_
 refine kf ?_
 first|with_reducible refine ks [] @zM_ ?_|refine kp @zM_ ?_
 have e0:A++ (X++y::B)=zV_ A X y B X.length:=by rw[wd_ _ _ _ _ (Nat.le_refl _)];simp only[List.append_assoc,List.cons_append,List.nil_append]
 rw[e0]
 refine Cw.loopG (G:=BsG) [83,84,85,86,87,88,89,90,91,16,92,93,94,95,96,97,98,99,100,101,102,103,104,105,14,106,15] (fun g=> [(14,vi (a+g.i:Nat)),(15,vi (a+g.j:Nat))]) (fun g=> [(rb,zu_ rest (zV_ A X y B X.length))]) (fun g=>g.i≤g.j∧g.j≤X.length∧(g.i=0∨qK_ y (X.getD (g.i - 1) sh0)=false)∧(X.length≤g.j∨qK_ y (X.getD g.j sh0)=true)) (fun g=>g.j - g.i) ⟨0,X.length⟩ rfl rfl ?_ ?_
 ·exact⟨Nat.zero_le _,Nat.le_refl _, .inl rfl, .inl (Nat.le_refl _)⟩
 ·intro g j hg
  refine kv ?_
  obtain⟨i,j⟩:=g
  obtain⟨h1,h2,h3,h4⟩:=hg
  dsimp only at h1 h2 h3 h4 ⊢
  by_cases hij:i<j
  ·have e1: (a+i+ (a+j)) / 2=a+ (i+j) / 2:=by omega
   have hl:=q2_ A X y B X.length
   first|with_reducible refine ks [] (And.intro @zM_ @e1) ?_|refine kp (And.intro @zM_ @e1) ?_
   have g1: (zV_ A X y B X.length).getD (a+ (i+j) / 2) sh0=X.getD ((i+j) / 2) sh0:=abq_ (by omega) (by omega) (by omega)
   have g2: (zV_ A X y B X.length).getD (a+X.length) sh0=y:=jP_ (Nat.le_refl _) (by omega)
   refine Cw.regionS [rb] [0,1,2,3,5,6,7,4,8,9,10,11] [] (by kernel_rfl) (by kernel_rfl) (by kernel_rfl) ?_
   simp only[zj_, ↓zf_, ↓zb_, ↓zp_, ↓zq_,zc_]
   refine kq (And.intro @zM_ (And.intro @g1 (@g2))) ?_
   refine Ow.callFn2 (v:=vi (kj_ y (X.getD ((i+j) / 2) sh0))) rfl rfl rfl rfl Tryd.call16 (fun w' hw'=>j5_ _ _ w') ?_
   refine kq @zM_ ?_
   cases hc:qK_ y (X.getD ((i+j) / 2) sh0)
   ·first|with_reducible refine ks [] @zM_ ?_|refine kp @zM_ ?_
    refine Again.mk ⟨(i+j) / 2+1,j⟩ (by show j - ((i+j) / 2+1)<j - i;omega) ⟨by show(i+j) / 2+1≤j;omega,h2, .inr hc,h4⟩ rfl rfl
   ·first|with_reducible refine ks [] @zM_ ?_|refine kp @zM_ ?_
    refine Again.mk ⟨i,(i+j) / 2⟩ (by show(i+j) / 2 - i<j - i;omega) ⟨by show i≤ (i+j) / 2;omega,by show(i+j) / 2≤X.length;omega,h3, .inr hc⟩ rfl rfl
  ·obtain rfl:i=j:=by omega
   first|with_reducible refine ks [] @zM_ ?_|refine kp @zM_ ?_
   refine Cw.loopG (G:=Nat) [108,109,110,113,114,115,116,117,118,119,120,121,122,123,124,125,126,127,128,111,112,17] (fun g=> [(17,vi (a+g:Nat))]) (fun g=> [(rb,zu_ rest (zV_ A X y B g))]) (fun g=>i≤g∧g≤X.length) (fun g=>g) X.length rfl rfl ?_ ?_
   ·exact⟨h2,Nat.le_refl _⟩
   ·intro k jk hk
    refine kv ?_
    obtain⟨hk1,hk2⟩:=hk
    by_cases hk:i<k
    ·obtain⟨k,rfl⟩: ∃q,k=q+1:=⟨k - 1,by omega⟩
     first|with_reducible refine ks [] @zM_ ?_|refine kp @zM_ ?_
     have hl:=q2_ A X y B (k+1)
     have g1: (zV_ A X y B (k+1)).getD (a+ (k+1)) sh0=y:=jP_ (by omega) (by omega)
     have g2: (zV_ A X y B (k+1)).getD (a+k) sh0=X.getD k sh0:=wW_ (by omega) (by omega)
     have e3:a+ (k+1) - 1=a+k:=by omega
     refine Cw.regionS [rb] [0,1,2,3,4,5,6,7,8,10,11,12,9,13,14,15,16,17] [15,17] (by kernel_rfl) (by kernel_rfl) (by kernel_rfl) ?_
     simp only[zj_, ↓zf_, ↓zb_, ↓zp_, ↓zq_,zc_]
     refine kq (And.intro @zM_ (And.intro @e3 (And.intro @g1 (@g2)))) ?_
     refine Ow.store rfl rfl rfl (ke (And.intro @zM_ (And.intro @e3 (And.intro @g1 (@g2))))) ?_
     refine ko (And.intro @zM_ (And.intro @e3 (And.intro @g1 (@g2)))) ?_
     rw[vO_ (by omega),←Nat.add_assoc,vi_ (z:=sh0) (by omega) (by omega)]
     refine Again.mk k (by omega) ⟨by omega,by omega⟩ rfl ?_
     rw[show(((a+k+1:Nat):Int)) - 1=((a+k:Nat):Int) by omega]
     rfl
    ·obtain rfl:k=i:=by omega
     first|with_reducible refine ks [] @zM_ ?_|refine kp @zM_ ?_
     have hz:=xD_ (z:=sh0) hX h2 h3 h4
     refine⟨_,_,_,(ke @zM_),rfl,trivial, ?_⟩
     exact⟨rfl,_,by rw[jO_],by simp only[List.length_append,List.length_cons,List.length_nil,List.length_take,List.length_drop];omega,hz.1,hz.2⟩
theorem adN_ {A X C:List ShL} {h i:Nat} (hh:h<X.length) (e:i=A.length+h): (A++ (X++C)).getD i sh0=X.getD h sh0:=by
 subst e
 rw[qf_ (by omega),Nat.add_sub_cancel_left,qq_ hh]
theorem adG_ {A X Y C:List ShL} {h i:Nat} (hh:h<Y.length) (e:i=A.length+X.length+h): (A++ (X++ (Y++C))).getD i sh0=Y.getD h sh0:=by
 subst e
 rw[qf_ (by omega),qf_ (by omega),qq_ (by omega)]
 congr 1;omega
theorem xY_ (q:Nat): ∀ (rb n c:Nat) (A X Y B:List ShL) (rest:List Value) (a m b:Nat) (w:World) (_ha:A.length=a) (_hm:m=a+X.length) (_hb:b=m+Y.length) (_hn:n=b+B.length) (_hs:n<1000000) (_hX:zw_ X) (_hY:zw_ Y) (_hx0:0<X.length) (_hy0:0<Y.length) (_hq:X.length+Y.length≤q)
  (_ho:w.heap[rb]? =some (zu_ rest (A++ (X++ (Y++B))))),
  Rets Tryd.prog 67 #[vsl rb 0 n c,vi a,vi m,vi b,qm_] w (wH_ rb A X Y B rest):=by
 induction q with
 |zero=>intros;omega
 |succ q ih=>
  intro rb n c A X Y B rest a m b w ha hm hb hn hs hX hY hx0 hy0 hq ho
  by_cases hX1:X.length=1
  ·obtain⟨x,rfl⟩:=List.length_eq_one_iff.1 hX1
   exact XL_ rb n c A x Y B rest a m b w ha hm hb hn hs hY ho
  by_cases hY1:Y.length=1
  ·obtain⟨y,rfl⟩:=List.length_eq_one_iff.1 hY1
   exact Jt_ rb n c A X y B rest a m b w ha hm hX1 hb hn hs hX ho
  have e1: (m:Int) - a=(X.length:Nat):=by omega
  have e2: (b:Int) - m=(Y.length:Nat):=by omega
  refine Rets.enterM Tryd.func67 rfl (rs:= []) Tryd.results67 Tryd.ntmps67 ho ?_
  refine kf ?_
  obtain⟨mid,hmd⟩: ∃q,q=(a+b) / 2:=⟨_,rfl⟩
  obtain⟨nn,hnn⟩: ∃q,q=mid+m:=⟨_,rfl⟩
  have e3: (mid:Int)+ (m:Int)=(nn:Nat):=by omega
  have e5: (nn:Int) - 1=((nn - 1:Nat):Int):=by omega
  have hl: (A++ (X++ (Y++B))).length=n:=by simp only[List.length_append];omega
  ((try with_reducible refine Cw.go [1000027] ?_);(try simp(disch:=(first|assumption|omega| (simp only[xN_,xT_,UInt64.reduceToNat];try omega))) only[↓Sx.S0,Sx.S1,Tryd.fx,zM_,Nat.reduceAdd,Nat.reducePow,Int.reducePow,Nat.reduceBEq, ↓reduceIte,UInt8.reduceToNat,UInt16.reduceToNat,UInt32.reduceToNat,UInt64.reduceToNat,Int.reduceToNat,e1,e2,←hmd,e3,e5]))
  refine Cw.cut (G:=BsG) 220 (fun g=> [(0,vsl rb 0 n c),(1,vi a),(2,vi m),(3,vi b),(4,qm_),(18,vi mid),(19,vi nn),(20,vi g.i),(21,vi g.j)]) (fun g=> [(rb,zu_ rest (A++ (X++ (Y++B))))]) (fun g=>g.i≤g.j∧g.j≤m∧nn≤b+g.i∧m+g.j≤nn∧a≤g.i∧(g.i=a∨nn=b+g.i)∧(g.j=m∨m+g.j=nn)) ?_ ?_
  ·by_cases hmid:mid<m
   ·have e4: (nn:Int) - (b:Int)=((nn - b:Nat):Int):=by omega
    first|with_reducible refine ks [] (And.intro @zM_ @e4) ?_|refine kp (And.intro @zM_ @e4) ?_
    exact CutM.mk ⟨nn - b,mid⟩ ⟨by show nn - b≤mid;omega,by show mid≤m;omega,by show nn≤b+ (nn - b);omega,by show m+mid≤nn;omega,by show a≤nn - b;omega, .inr (by show nn=b+ (nn - b);omega), .inr (by show m+mid=nn;omega)⟩ rfl rfl
   ·first|with_reducible refine ks [] @zM_ ?_|refine kp @zM_ ?_
    exact CutM.mk ⟨a,m⟩ ⟨by show a≤m;omega,by show m≤m;omega,by show nn≤b+a;omega,by show m+m≤nn;omega,by show a≤a;omega, .inl rfl, .inl rfl⟩ rfl rfl
  ·intro g j hg
   simp only[JL_,JP_,pin,kC_,kv_,Nat.reduceAdd]
   obtain⟨s0,r0⟩:=g
   obtain⟨f1,f2,f3,f4,f5,f6,f7⟩:=hg
   dsimp only at f1 f2 f3 f4 f5 f6 f7 ⊢
   first|with_reducible refine ks [1000039,1000041] (And.intro @zM_ @e5) ?_|refine kp (And.intro @zM_ @e5) ?_
   refine Cw.loopG (G:=BsG) [149,150,151,152,153,154,155,156,157,23,158,159,160,161,162,163,164,165,166,167,168,169,170,171,172,173,20,174,21] (fun g=> [(20,vi g.i),(21,vi g.j)]) (fun g=> [(rb,zu_ rest (A++ (X++ (Y++B))))]) (fun g=>s0≤g.i∧g.i≤g.j∧g.j≤r0∧(g.i=s0∨qK_ ((A++ (X++ (Y++B))).getD (nn - g.i) sh0) ((A++ (X++ (Y++B))).getD (g.i - 1) sh0)=false)∧(g.j=r0∨qK_ ((A++ (X++ (Y++B))).getD (nn - 1 - g.j) sh0) ((A++ (X++ (Y++B))).getD g.j sh0)=true)) (fun g=>g.j - g.i) ⟨s0,r0⟩ rfl rfl ?_ ?_
   ·exact⟨Nat.le_refl _,f1,Nat.le_refl _, .inl rfl, .inl rfl⟩
   ·intro g j hg
    refine kv ?_
    obtain⟨i,j⟩:=g
    obtain⟨h1,h2,h3,h4,h5⟩:=hg
    dsimp only at h1 h2 h3 h4 h5 ⊢
    by_cases hij:i<j
    ·obtain⟨h,hh⟩: ∃q,q=(i+j) / 2:=⟨_,rfl⟩
     have e6: ((nn - 1:Nat):Int) - (h:Int)=((nn - 1 - h:Nat):Int):=by omega
     ((try with_reducible refine Cw.go [] ?_);(try simp(disch:=(first|assumption|omega| (simp only[xN_,xT_,UInt64.reduceToNat];try omega))) only[↓Sx.S0,Sx.S1,Tryd.fx,zM_,Nat.reduceAdd,Nat.reducePow,Int.reducePow,Nat.reduceBEq, ↓reduceIte,UInt8.reduceToNat,UInt16.reduceToNat,UInt32.reduceToNat,UInt64.reduceToNat,Int.reduceToNat,←hh]))
     refine Cw.regionS [rb] [0,1,2,3,4,5,7,8,9,6,10,11,12,13] [] (by kernel_rfl) (by kernel_rfl) (by kernel_rfl) ?_
     simp only[zj_, ↓zf_, ↓zb_, ↓zp_, ↓zq_,zc_]
     refine kq (And.intro @zM_ @e6) ?_
     refine Ow.callFn2 (v:=vi (kj_ ((A++ (X++ (Y++B))).getD (nn - 1 - h) sh0) ((A++ (X++ (Y++B))).getD h sh0))) rfl rfl rfl rfl Tryd.call16 (fun w' hw'=>j5_ _ _ w') ?_
     refine kq @zM_ ?_
     cases hc:qK_ ((A++ (X++ (Y++B))).getD (nn - 1 - h) sh0) ((A++ (X++ (Y++B))).getD h sh0)
     ·first|with_reducible refine ks [] @zM_ ?_|refine kp @zM_ ?_
      refine Again.mk ⟨h+1,j⟩ (by show j - (h+1)<j - i;omega) ⟨by show s0≤h+1;omega,by show h+1≤j;omega,h3, .inr ?_,h5⟩ rfl rfl
      show qK_ ((A++ (X++ (Y++B))).getD (nn - (h+1)) sh0) ((A++ (X++ (Y++B))).getD (h+1 - 1) sh0)=false
      rw[show nn - (h+1)=nn - 1 - h by omega,Nat.add_sub_cancel];exact hc
     ·first|with_reducible refine ks [] @zM_ ?_|refine kp @zM_ ?_
      refine Again.mk ⟨i,h⟩ (by show h - i<j - i;omega) ⟨h1,by show i≤h;omega,by show h≤r0;omega,h4, .inr hc⟩ rfl rfl
    ·obtain rfl:i=j:=by omega
     obtain⟨ix,hix⟩: ∃q,q=i - a:=⟨_,rfl⟩
     obtain⟨jy,hjy⟩: ∃q,q=nn - i - m:=⟨_,rfl⟩
     have q1:jy=0∨X.length≤ix∨qK_ (Y.getD (jy - 1) sh0) (X.getD ix sh0)=true:=by
      by_cases c1:jy=0
      ·exact .inl c1
      by_cases c2:X.length≤ix
      ·exact .inr (.inl c2)
      rcases h5 with h5|h5
      ·omega
      ·rw[adG_ (h:=jy - 1) (by omega) (by omega),adN_ (h:=ix) (by omega) (by omega)] at h5
       exact .inr (.inr h5)
     have q2:ix=0∨Y.length≤jy∨qK_ (Y.getD jy sh0) (X.getD (ix - 1) sh0)=false:=by
      by_cases c1:ix=0
      ·exact .inl c1
      by_cases c2:Y.length≤jy
      ·exact .inr (.inl c2)
      rcases h4 with h4|h4
      ·omega
      ·rw[adG_ (h:=jy) (by omega) (by omega),adN_ (h:=ix - 1) (by omega) (by omega)] at h4
       exact .inr (.inr h4)
     have hmc:=fun x1 x2=>KQ_ (z:=sh0) (x1:=x1) (x2:=x2) hX hY (show ix≤X.length by omega) (show jy≤Y.length by omega) q1 q2
     have sX1:zw_ (X.take ix):=StP.Sorted.left (b:=X.drop ix) (by rw[List.take_append_drop];exact hX)
     have sX2:zw_ (X.drop ix):=StP.Sorted.right (a:=X.take ix) (by rw[List.take_append_drop];exact hX)
     have sY1:zw_ (Y.take jy):=StP.Sorted.left (b:=Y.drop jy) (by rw[List.take_append_drop];exact hY)
     have sY2:zw_ (Y.drop jy):=StP.Sorted.right (a:=Y.take jy) (by rw[List.take_append_drop];exact hY)
     have hrow:A++ (X++ (Y++B))=A++ (X.take ix++ (X.drop ix++ (Y.take jy++ (Y.drop jy++B)))):=by
      rw[←List.append_assoc (X.take ix),List.take_append_drop,←List.append_assoc (Y.take jy),List.take_append_drop]
     have lX1: (X.take ix).length=ix:=by rw[List.length_take];omega
     have lX2: (X.drop ix).length=m - i:=by rw[List.length_drop];omega
     have lY1: (Y.take jy).length=jy:=by rw[List.length_take];omega
     have lY2: (Y.drop jy).length=b - m - jy:=by rw[List.length_drop];omega
     have e7: (nn:Int) - (i:Int)=((m+jy:Nat):Int):=by omega
     first|with_reducible refine ks [] (And.intro @zM_ @e7) ?_|refine kp (And.intro @zM_ @e7) ?_
     rw[hrow]
     generalize X.take ix=X1 at*
     generalize X.drop ix=X2 at*
     generalize Y.take jy=Y1 at*
     generalize Y.drop jy=Y2 at*
     have em:mid=i+jy:=by omega
     refine Cw.cut (G:=Unit) 220 (fun g=> [(0,vsl rb 0 n c),(1,vi a),(2,vi m),(3,vi b),(4,qm_),(18,vi mid),(20,vi i),(24,vi (m+jy:Nat))]) (fun g=> [(rb,zu_ rest (A++ (X1++ (Y1++ (X2++ (Y2++B))))))]) (fun g=>True) ?_ ?_
     ·by_cases c1:i<m
      ·have d1:decide ((i:Int)< (m:Int))=true:=decide_eq_true (by omega)
       by_cases c2:0<jy
       ·have d2:decide ((m:Int)< ((m+jy:Nat):Int))=true:=decide_eq_true (by omega)
        first|with_reducible refine ks [] (And.intro @zM_ (And.intro @d1 (@d2))) ?_|refine kp (And.intro @zM_ (And.intro @d1 (@d2))) ?_
        refine Ow.callM rfl rfl Tryd.call75 (by simp[keys]) (fun w' hw'=>ZH_ rb n c (A++X1) X2 Y1 (Y2++B) rest qm_ i m (m+jy) w' (by omega) (by omega) (by rw[List.length_append];omega) (by omega) (by omega) (by rw[List.length_append];omega) hs (by rw[List.append_assoc];exact hw'.has _ _ List.mem_cons_self)) ?_
        refine ko @zM_ ?_
        exact CutM.mk () trivial (by simp only[List.append_assoc]) rfl
       ·have d2:decide ((m:Int)< ((m+jy:Nat):Int))=false:=decide_eq_false (by omega)
        first|with_reducible refine ks [] (And.intro @zM_ (And.intro @d1 (@d2))) ?_|refine kp (And.intro @zM_ (And.intro @d1 (@d2))) ?_
        obtain rfl:Y1= []:=List.eq_nil_of_length_eq_zero (by omega)
        exact CutM.mk () trivial (by simp only[List.nil_append]) rfl
      ·have d1:decide ((i:Int)< (m:Int))=false:=decide_eq_false (by omega)
       first|with_reducible refine ks [] (And.intro @zM_ @d1) ?_|refine kp (And.intro @zM_ @d1) ?_
       obtain rfl:X2= []:=List.eq_nil_of_length_eq_zero (by omega)
       exact CutM.mk () trivial (by simp only[List.nil_append]) rfl
     ·intro u ju hu
      simp only[JL_,JP_,pin,kC_,kv_,Nat.reduceAdd]
      first|with_reducible refine ks [1000041,1000043] @zM_ ?_|refine kp @zM_ ?_
      refine Cw.cut (G:=(List ShL)) 220 (fun g=> [(0,vsl rb 0 n c),(3,vi b),(4,qm_),(18,vi mid),(24,vi (m+jy:Nat))]) (fun g=> [(rb,zu_ rest (A++ (g++ (X2++ (Y2++B)))))]) (fun g=>g.length=ix+jy∧zw_ g∧q9_ (X1++Y1) g) ?_ ?_
      ·by_cases c1:a<i
       ·have d1:decide ((a:Int)< (i:Int))=true:=decide_eq_true (by omega)
        by_cases c2:0<jy
        ·have d2:decide ((i:Int)< (mid:Int))=true:=decide_eq_true (by omega)
         first|with_reducible refine ks [] (And.intro @zM_ (And.intro @d1 (@d2))) ?_|refine kp (And.intro @zM_ (And.intro @d1 (@d2))) ?_
         refine Ow.callE rfl rfl Tryd.call67 (by simp[keys]) (fun w' hw'=>ih rb n c A X1 Y1 (X2++ (Y2++B)) rest a i mid w' ha (by omega) (by omega) (by simp only[List.length_append];omega) hs sX1 sY1 (by omega) (by omega) (by omega) (hw'.has _ _ List.mem_cons_self)) (fun v1 o1 hS1=> ?_)
         obtain⟨rfl,Z1,rfl,z1,z2,z3⟩:=hS1
         refine ko @zM_ ?_
         exact CutM.mk Z1 ⟨by omega,z2,z3⟩ rfl rfl
        ·have d2:decide ((i:Int)< (mid:Int))=false:=decide_eq_false (by omega)
         first|with_reducible refine ks [] (And.intro @zM_ (And.intro @d1 (@d2))) ?_|refine kp (And.intro @zM_ (And.intro @d1 (@d2))) ?_
         obtain rfl:Y1= []:=List.eq_nil_of_length_eq_zero (by omega)
         exact CutM.mk X1 ⟨by omega,sX1,by rw[List.append_nil];exact StP.St.refl _ _⟩ rfl rfl
       ·have d1:decide ((a:Int)< (i:Int))=false:=decide_eq_false (by omega)
        first|with_reducible refine ks [] (And.intro @zM_ @d1) ?_|refine kp (And.intro @zM_ @d1) ?_
        obtain rfl:X1= []:=List.eq_nil_of_length_eq_zero (by omega)
        exact CutM.mk Y1 ⟨by omega,sY1,StP.St.refl _ _⟩ (by simp only[List.nil_append]) rfl
      ·intro Z1 jZ1 hZ1
       simp only[JL_,JP_,pin,kC_,kv_,Nat.reduceAdd]
       obtain⟨z1,z2,z3⟩:=hZ1
       by_cases c1:i<m
       ·have d1:decide ((mid:Int)< ((m+jy:Nat):Int))=true:=decide_eq_true (by omega)
        by_cases c2:m+jy<b
        ·have d2:decide (((m+jy:Nat):Int)< (b:Int))=true:=decide_eq_true (by omega)
         first|with_reducible refine ks [] (And.intro @zM_ (And.intro @d1 (@d2))) ?_|refine kp (And.intro @zM_ (And.intro @d1 (@d2))) ?_
         refine Ow.callE rfl rfl Tryd.call67 (by simp[keys]) (fun w' hw'=>ih rb n c (A++Z1) X2 Y2 B rest mid (m+jy) b w' (by rw[List.length_append];omega) (by omega) (by omega) hn hs sX2 sY2 (by omega) (by omega) (by omega) (by rw[List.append_assoc];exact hw'.has _ _ List.mem_cons_self)) (fun v2 o2 hS2=> ?_)
         obtain⟨rfl,Z2,rfl,y1,y2,y3⟩:=hS2
         obtain⟨r1,r2⟩:=hmc Z1 Z2 z2 z3 y2 y3
         refine ko @zM_ ?_
         refine⟨_,_,_,(ke @zM_),rfl,trivial, ?_⟩
         exact⟨rfl,Z1++Z2,by simp only[List.append_assoc],by rw[List.length_append];omega,r1,r2⟩
        ·have d2:decide (((m+jy:Nat):Int)< (b:Int))=false:=decide_eq_false (by omega)
         first|with_reducible refine ks [] (And.intro @zM_ (And.intro @d1 (@d2))) ?_|refine kp (And.intro @zM_ (And.intro @d1 (@d2))) ?_
         obtain rfl:Y2= []:=List.eq_nil_of_length_eq_zero (by omega)
         obtain⟨r1,r2⟩:=hmc Z1 X2 z2 z3 sX2 (by rw[List.append_nil];exact StP.St.refl _ _)
         refine⟨_,_,_,(ke @zM_),rfl,trivial, ?_⟩
         exact⟨rfl,Z1++X2,by simp only[List.append_assoc,List.nil_append],by rw[List.length_append];omega,r1,r2⟩
       ·have d1:decide ((mid:Int)< ((m+jy:Nat):Int))=false:=decide_eq_false (by omega)
        first|with_reducible refine ks [] (And.intro @zM_ @d1) ?_|refine kp (And.intro @zM_ @d1) ?_
        obtain rfl:X2= []:=List.eq_nil_of_length_eq_zero (by omega)
        obtain⟨r1,r2⟩:=hmc Z1 Y2 z2 z3 sY2 (StP.St.refl _ _)
        refine⟨_,_,_,(ke @zM_),rfl,trivial, ?_⟩
        exact⟨rfl,Z1++Y2,by simp only[List.append_assoc,List.nil_append],by rw[List.length_append];omega,r1,r2⟩
end Go.Proofs
end
section
open Go Go.Proofs Go.Sx Go.StP
namespace Go.Proofs
set_option maxRecDepth 10000
set_option maxHeartbeats 4000000
set_option linter.unusedSimpArgs false
def shs_Blks (k:Nat) (ls:List (List ShL)):Prop:= ∀x,x∈ls→x.length=k∧zw_ x
theorem shs_Blks.snoc {k:Nat} {ls:List (List ShL)} {x:List ShL} (h:shs_Blks k ls) (hx:x.length=k) (hs:zw_ x):shs_Blks k (ls++ [x]):=by
 intro y hy
 rcases List.mem_append.1 hy with hy|hy
 ·exact h y hy
 ·rw[List.mem_singleton] at hy;subst hy;exact⟨hx,hs⟩
structure shs_StG where
 k:Nat
 ls:List (List ShL)
 r:List ShL
structure shs_StH where
 l2:List (List ShL)
 ls:List (List ShL)
theorem Z7_ (rb n c:Nat) (d:List ShL) (rest:List Value) (w:World) (hn:n=d.length) (hs:n<1000000)
  (ho:w.heap[rb]? =some (zu_ rest d)):
  Rets Tryd.prog 46 #[vsl rb 0 n c,vi n,qm_] w (fun v D=> ∃o,D= [(rb,o)]∧v= .tuple #[]∧ ∃Z,o=zu_ rest Z∧Z.length=d.length∧zw_ Z∧q9_ d Z):=by
 refine Rets.enterM Tryd.func46 rfl (rs:= []) Tryd.results46 Tryd.ntmps46 ho ?_
 refine kf ?_
 first|with_reducible refine ks [1000006] @Nat.add_zero ?_|refine kp @Nat.add_zero ?_
 refine Cw.loopG (G:=shs_StG) [11,12,13,14,15,16,17,18,19,7,20,21,22,8] (fun g=> [(7,vi g.ls.flatten.length),(8,vi (g.ls.flatten.length+20:Nat))]) (fun g=> [(rb,zu_ rest (g.ls.flatten++g.r))]) (fun g=>shs_Blks 20 g.ls∧q9_ d (g.ls.flatten++g.r)∧g.ls.flatten.length+g.r.length=n) (fun g=>g.r.length) ⟨20,[],d⟩ rfl rfl ?_ ?_
 ·refine⟨fun x hx=> ?_,StP.St.refl _ _,by show 0+d.length=n;omega⟩
  exact absurd hx (by simp)
 ·intro g j hg
  refine kv ?_
  obtain⟨_,ls,r⟩:=g
  obtain⟨h1,h2,h3⟩:=hg
  dsimp only at h1 h2 h3 ⊢
  by_cases hb:ls.flatten.length+20≤n
  ·obtain⟨M,R,rfl,hM⟩:=JM_ r (show 20≤r.length by omega)
   rw[List.length_append] at h3
   first|with_reducible refine ks [] @Nat.add_zero ?_|refine kp @Nat.add_zero ?_
   refine Ow.callE rfl rfl Tryd.call66 (by simp[keys]) (fun w' hw'=>xB_ rb n c ls.flatten M R rest ls.flatten.length (ls.flatten.length+20) w' rfl (by omega) (by omega) hs (hw'.has _ _ List.mem_cons_self)) (fun v1 o1 hS1=> ?_)
   obtain⟨rfl,M',rfl,l1,s1,t1⟩:=hS1
   refine ko @Nat.add_zero ?_
   have e1: (ls++ [M']).flatten=ls.flatten++M':=by simp
   refine Again.mk ⟨20,ls++ [M'],R⟩ (by show R.length< (M++R).length;rw[List.length_append];omega) ⟨h1.snoc (by omega) s1, ?_, ?_⟩ ?_ ?_
   ·show q9_ d ((ls++ [M']).flatten++R)
    rw[e1,List.append_assoc]
    exact h2.trans (StP.St.app (StP.St.refl _ _) (StP.St.app t1 (StP.St.refl _ _)))
   ·show(ls++ [M']).flatten.length+R.length=n
    rw[e1,List.length_append];omega
   ·rw[e1,List.append_assoc]
   ·dsimp only
    rw[e1,show(ls.flatten++M').length=ls.flatten.length+20 by rw[List.length_append];omega]
    rfl
  ·first|with_reducible refine ks [] @Nat.add_zero ?_|refine kp @Nat.add_zero ?_
   have e0:ls.flatten++r=ls.flatten++ (r++ []):=by rw[List.append_nil]
   rw[e0]
   first|with_reducible refine ks [1000007] @Nat.add_zero ?_|refine kp @Nat.add_zero ?_
   refine Ow.callE rfl rfl Tryd.call66 (by simp[keys]) (fun w' hw'=>xB_ rb n c ls.flatten r [] rest ls.flatten.length n w' rfl (by omega) (by simp) hs (hw'.has _ _ List.mem_cons_self)) (fun v1 o1 hS1=> ?_)
   obtain⟨rfl,r',rfl,l1,s1,t1⟩:=hS1
   rw[show r'++ []=r' from List.append_nil r']
   refine ko @Nat.add_zero ?_
   refine Cw.loopG (G:=shs_StG) [28,29,30,31,32,7,8,33,34,35,36,37,38,39,40,41,42,43,44,45,46,47,48,49,50,51,9,52,53,54,55,56,57,58,59,60,61,62,6] (fun g=> [(6,vi g.k)]) (fun g=> [(rb,zu_ rest (g.ls.flatten++g.r))]) (fun g=>0<g.k∧shs_Blks g.k g.ls∧zw_ g.r∧g.r.length<g.k∧q9_ d (g.ls.flatten++g.r)∧g.ls.flatten.length+g.r.length=n) (fun g=>n - g.k) ⟨20,ls,r'⟩ rfl rfl ?_ ?_
   ·exact⟨by show 0<20;omega,h1,s1,by show r'.length<20;omega,h2.trans (StP.St.app (StP.St.refl _ _) t1),by show ls.flatten.length+r'.length=n;omega⟩
   ·intro g j hg
    refine kv ?_
    clear h1 h2 h3 hb e0 l1 s1 t1
    obtain⟨k,ls,r⟩:=g
    obtain⟨h0,h1,h2,h3,h4,h5⟩:=hg
    dsimp only at h0 h1 h2 h3 h4 h5 ⊢
    by_cases hk:k<n
    ·have e1:2* (k:Int)=((2*k:Nat):Int):=by omega
     first|with_reducible refine ks [1000013] @e1 ?_|refine kp @e1 ?_
     refine Cw.loopG (G:=shs_StH) [33,34,35,36,37,38,39,40,41,42,43,44,7,45,46,47,48,8] (fun g=> [(7,vi g.l2.flatten.length),(8,vi (2*k+g.l2.flatten.length:Nat))]) (fun g=> [(rb,zu_ rest (g.l2.flatten++ (g.ls.flatten++r)))]) (fun g=>shs_Blks (2*k) g.l2∧shs_Blks k g.ls∧q9_ d (g.l2.flatten++ (g.ls.flatten++r))∧g.l2.flatten.length+ (g.ls.flatten.length+r.length)=n) (fun g=>g.ls.length) ⟨[],ls⟩ rfl rfl ?_ ?_
     ·refine⟨fun x hx=> ?_,h1,h4,by show 0+ (ls.flatten.length+r.length)=n;omega⟩
      exact absurd hx (by simp)
     ·clear h1 h4 h5
      intro g j hg
      refine kv ?_
      obtain⟨l2,ls⟩:=g
      obtain⟨g1,g2,g3,g4⟩:=hg
      dsimp only at g1 g2 g3 g4 ⊢
      by_cases hb:2*k+l2.flatten.length≤n
      ·have hls: ∃x y t,ls=x::y::t:=by
        cases ls with
        |nil=>rw[List.flatten_nil,List.length_nil] at g4;omega
        |cons x t=>
         have hx:=(g2 x List.mem_cons_self).1
         cases t with
         |nil=>rw[List.flatten_cons,List.flatten_nil,List.append_nil] at g4;omega
         |cons y t=>exact⟨x,y,t,rfl⟩
       obtain⟨x,y,t,rfl⟩:=hls
       have hx:=g2 x List.mem_cons_self
       have hy:=g2 y (by simp)
       have ht:shs_Blks k t:=fun u hu=>g2 u (by simp[hu])
       rw[List.flatten_cons,List.flatten_cons] at g3 g4
       simp only[List.length_append,List.append_assoc] at g3 g4
       have e2: (x::y::t).flatten++r=x++ (y++ (t.flatten++r)):=by simp
       rw[e2]
       have e3: (l2.flatten.length:Int)+ (k:Int)=((l2.flatten.length+k:Nat):Int):=by omega
       first|with_reducible refine ks [] @e3 ?_|refine kp @e3 ?_
       refine Ow.callE rfl rfl Tryd.call67 (by simp[keys]) (fun w' hw'=>xY_ (2*k) rb n c l2.flatten x y (t.flatten++r) rest l2.flatten.length (l2.flatten.length+k) (2*k+l2.flatten.length) w' rfl (by omega) (by omega) (by rw[List.length_append];omega) hs hx.2 hy.2 (by omega) (by omega) (by omega) (hw'.has _ _ List.mem_cons_self)) (fun v1 o1 hS1=> ?_)
       obtain⟨rfl,Z,rfl,z1,z2,z3⟩:=hS1
       have e4: ((2*k+l2.flatten.length:Nat):Int)+ ((2*k:Nat):Int)=((2*k+ (l2.flatten.length+2*k):Nat):Int):=by omega
       refine ko (And.intro @e1 @e4) ?_
       have e5: (l2++ [Z]).flatten=l2.flatten++Z:=by simp
       have e6: (l2.flatten++Z).length=2*k+l2.flatten.length:=by rw[List.length_append];omega
       refine Again.mk ⟨l2++ [Z],t⟩ (by show t.length< (x::y::t).length;simp only[List.length_cons];omega) ⟨g1.snoc (by omega) z2,ht, ?_, ?_⟩ ?_ ?_
       ·show q9_ d ((l2++ [Z]).flatten++ (t.flatten++r))
        rw[e5,List.append_assoc]
        refine g3.trans (StP.St.app (StP.St.refl _ _) ?_)
        rw[←List.append_assoc]
        exact StP.St.app z3 (StP.St.refl _ _)
       ·show(l2++ [Z]).flatten.length+ (t.flatten.length+r.length)=n
        rw[e5,e6];omega
       ·rw[e5,List.append_assoc]
       ·dsimp only
        rw[e5,e6,show l2.flatten.length+2*k=2*k+l2.flatten.length by omega]
        rfl
      ·have e7: (k:Int)*2=((2*k:Nat):Int):=by omega
       have e3: (l2.flatten.length:Int)+ (k:Int)=((l2.flatten.length+k:Nat):Int):=by omega
       have hls:ls= []∨ ∃x,ls= [x]:=by
        cases ls with
        |nil=>exact .inl rfl
        |cons x t=>
         have hx:=(g2 x List.mem_cons_self).1
         cases t with
         |nil=>exact .inr ⟨x,rfl⟩
         |cons y t=>
          have hy:=(g2 y (by simp)).1
          rw[List.flatten_cons,List.flatten_cons,List.length_append,List.length_append] at g4
          omega
       have fin: ∀r',(ls.flatten++r).length=r'.length→q9_ (ls.flatten++r) r'→q9_ d (l2.flatten++r')∧l2.flatten.length+r'.length=n:=by
        intro r' hl ht'
        rw[List.length_append] at hl
        exact⟨g3.trans (StP.St.app (StP.St.refl _ _) ht'),by omega⟩
       rcases hls with rfl| ⟨x,rfl⟩
       ·rw[List.flatten_nil,List.length_nil] at g4
        first|with_reducible refine ks [] @Nat.add_zero ?_|refine kp @Nat.add_zero ?_
        first|with_reducible refine ks [] (And.intro @e3 @e7) ?_|refine kp (And.intro @e3 @e7) ?_
        obtain⟨w1,w2⟩:=fin r rfl (StP.St.refl _ _)
        refine Again.mk ⟨2*k,l2,r⟩ (by show n - 2*k<n - k;omega) ⟨by show 0<2*k;omega,g1,h2,by show r.length<2*k;omega,w1,w2⟩ rfl rfl
       ·have hx:=g2 x List.mem_cons_self
        rw[List.flatten_cons,List.flatten_nil,List.append_nil] at g4 fin
        rw[List.flatten_cons,List.flatten_nil,List.append_nil]
        by_cases hr:r.length=0
        ·obtain rfl:r= []:=List.eq_nil_of_length_eq_zero hr
         first|with_reducible refine ks [] @Nat.add_zero ?_|refine kp @Nat.add_zero ?_
         first|with_reducible refine ks [] (And.intro @e3 @e7) ?_|refine kp (And.intro @e3 @e7) ?_
         obtain⟨w1,w2⟩:=fin x (by rw[List.append_nil]) (by rw[List.append_nil];exact StP.St.refl _ _)
         refine Again.mk ⟨2*k,l2,x⟩ (by show n - 2*k<n - k;omega) ⟨by show 0<2*k;omega,g1,hx.2,by show x.length<2*k;omega,w1,w2⟩ ?_ rfl
         rw[List.append_nil]
        ·have e8:x++r=x++ (r++ []):=by rw[List.append_nil]
         rw[e8]
         first|with_reducible refine ks [] @Nat.add_zero ?_|refine kp @Nat.add_zero ?_
         first|with_reducible refine ks [] (And.intro @e3 @e7) ?_|refine kp (And.intro @e3 @e7) ?_
         refine Ow.callE rfl rfl Tryd.call67 (by simp[keys]) (fun w' hw'=>xY_ (2*k) rb n c l2.flatten x r [] rest l2.flatten.length (l2.flatten.length+k) n w' rfl (by omega) (by omega) (by simp) hs hx.2 h2 (by omega) (by omega) (by omega) (hw'.has _ _ List.mem_cons_self)) (fun v1 o1 hS1=> ?_)
         obtain⟨rfl,Z,rfl,z1,z2,z3⟩:=hS1
         rw[show Z++ []=Z from List.append_nil Z]
         refine ko @e7 ?_
         obtain⟨w1,w2⟩:=fin Z (by rw[List.length_append];omega) z3
         refine Again.mk ⟨2*k,l2,Z⟩ (by show n - 2*k<n - k;omega) ⟨by show 0<2*k;omega,g1,z2,by show Z.length<2*k;omega,w1,w2⟩ rfl rfl
    ·first|with_reducible refine ks [] @Nat.add_zero ?_|refine kp @Nat.add_zero ?_
     have hZ:zw_ (ls.flatten++r):=by
      cases ls with
      |nil=>exact h2
      |cons x ls=>
       have hx:=h1 x List.mem_cons_self
       rw[List.flatten_cons,List.length_append] at h5
       obtain rfl:r= []:=List.eq_nil_of_length_eq_zero (by omega)
       cases ls with
       |nil=>simpa using hx.2
       |cons y ls=>
        have hy:=h1 y (by simp)
        rw[List.flatten_cons,List.length_append] at h5
        omega
     have hZl: (ls.flatten++r).length=d.length:=by rw[List.length_append];omega
     refine⟨_,_,_,(ke @Nat.add_zero),rfl,trivial, ?_⟩
     exact⟨rfl,_,rfl,hZl,hZ,h4⟩
end Go.Proofs
end
section
open Go Go.Proofs Go.Sx Go.StP
namespace Go.Proofs
set_option maxRecDepth 10000
set_option maxHeartbeats 4000000
set_option linter.unusedSimpArgs false
theorem wB_ (w:World):Rets Tryd.prog 66 #[.slice none 0 0,vi 0,vi 0,qm_] w (fun v D=>v= .tuple #[]∧D= []):=by
 refine Rets.enterV Tryd.func66 rfl (rs:= []) Tryd.results66 Tryd.ntmps66 ?_
 refine kf ?_
 first|with_reducible refine ks [] @Nat.add_zero ?_|refine kp @Nat.add_zero ?_
 refine Cw.loopG (G:=Unit) [12,13,14,17,9,18,19,20,21,22,23,24,25,26,27,28,29,30,31,32,33,34,37,38,39,40,41,42,43,44,45,46,47,48,49,50,51,52,35,36,15,16,8] (fun g=> [(8,vi 1)]) (fun g=> []) (fun g=>True) (fun g=>0) () rfl rfl ?_ ?_
 ·trivial
 ·intro g j hg
  refine kv ?_
  first|with_reducible refine ks [] @Nat.add_zero ?_|refine kp @Nat.add_zero ?_
  refine⟨_,(ke @Nat.add_zero),trivial, ?_⟩
  rfl
theorem Ju_ (w:World):Rets Tryd.prog 46 #[.slice none 0 0,vi 0,qm_] w (fun v D=>v= .tuple #[]∧D= []):=by
 refine Rets.enterV Tryd.func46 rfl (rs:= []) Tryd.results46 Tryd.ntmps46 ?_
 refine kf ?_
 first|with_reducible refine ks [] @Nat.add_zero ?_|refine kp @Nat.add_zero ?_
 refine Cw.loopG (G:=Unit) [11,12,13,14,15,16,17,18,19,7,20,21,22,8] (fun g=> [(7,vi 0),(8,vi 20)]) (fun g=> []) (fun g=>True) (fun g=>0) () rfl rfl ?_ ?_
 ·trivial
 ·intro g j hg
  refine kv ?_
  first|with_reducible refine ks [] @Nat.add_zero ?_|refine kp @Nat.add_zero ?_
  refine Ow.callFV rfl Tryd.call66 (fun w' hw'=>wB_ w') ?_
  refine ko @Nat.add_zero ?_
  refine Cw.loopG (G:=Unit) [28,29,30,31,32,7,8,33,34,35,36,37,38,39,40,41,42,43,44,45,46,47,48,49,50,51,9,52,53,54,55,56,57,58,59,60,61,62,6] (fun g=> [(6,vi 20)]) (fun g=> []) (fun g=>True) (fun g=>0) () rfl rfl ?_ ?_
  ·trivial
  ·intro u ju hu
   refine kv ?_
   first|with_reducible refine ks [] @Nat.add_zero ?_|refine kp @Nat.add_zero ?_
   refine⟨_,(ke @Nat.add_zero),trivial, ?_⟩
   rfl
theorem wg_ (w:World):Rets Tryd.prog 15 #[.slice none 0 0,qm_] w (fun v D=>v= .tuple #[]∧D= []):=by
 refine Rets.enterV Tryd.func15 rfl (rs:= []) Tryd.results15 Tryd.ntmps15 ?_
 refine kf ?_
 first|with_reducible refine ks [] @XD_ ?_|refine kp @XD_ ?_
 refine Ow.callFV rfl Tryd.call46 (fun w' hw'=>Ju_ w') ?_
 refine ko @Nat.add_zero ?_
 refine⟨_,(ke @Nat.add_zero),trivial, ?_⟩
 rfl
theorem xh_ (rb n c:Nat) (d:List ShL) (rest:List Value) (w:World) (hn:n=d.length) (hs:n<1000000) (ho:w.heap[rb]? =some (zu_ rest d)):
  Rets Tryd.prog 15 #[vsl rb 0 n c,qm_] w (fun v D=> ∃o,D= [(rb,o)]∧v= .tuple #[]∧ ∃Z,o=zu_ rest Z∧Z.length=d.length∧zw_ Z∧q9_ d Z):=by
 refine Rets.enterM Tryd.func15 rfl (rs:= []) Tryd.results15 Tryd.ntmps15 ho ?_
 refine kf ?_
 first|with_reducible refine ks [] @Nat.add_zero ?_|refine kp @Nat.add_zero ?_
 refine Ow.callE rfl rfl Tryd.call46 (by simp[keys]) (fun w' hw'=>Z7_ rb n c d rest w' hn hs (hw'.has _ _ List.mem_cons_self)) (fun v1 o1 hS1=> ?_)
 obtain⟨rfl,Z,rfl,z1,z2,z3⟩:=hS1
 refine ko @Nat.add_zero ?_
 refine⟨_,_,_,(ke @Nat.add_zero),rfl,trivial, ?_⟩
 exact⟨rfl,Z,rfl,z1,z2,z3⟩
def shs_SortOf (l Z:List ShL):Prop:=Z.length=l.length∧zw_ Z∧q9_ l Z
theorem shs_SortOf.eq {l Z Z':List ShL} (h:shs_SortOf l Z) (h':shs_SortOf l Z'):Z=Z':=StP.St.eq h.2.1 h'.2.1 (h.2.2.symm.trans h'.2.2)
end Go.Proofs
end
section
namespace Go.Proofs
open Go Go.Shelf
set_option maxRecDepth 100000
def Tryd.sortLn_ren:Go.Shelf.Ren:=⟨fun|6=>55|15=>70|14=>69|28=>84|29=>85|20=>76|21=>77|22=>78|23=>79|24=>80|25=>81|26=>82|27=>83|46=>90|47=>91|48=>92|49=>93|50=>94|57=>96|n=>n,fun|22=>51|24=>38|25=>73|3=>3|39=>113|0=>0|53=>121|55=>142|4=>4|46=>135|45=>134|50=>71|5=>5|9=>9|66=>146|70=>150|76=>153|77=>79|n=>n,fun|n=>n⟩
theorem Tryd.sortLn:Go.Proofs.SlLaysF0.n6 Tryd.prog Tryd.sortLn_ren:={
 mixed:=by kernel_rfl
 f6:=⟨Tryd.f55.name,by decide,Tryd.func55.trans (congrArg some (by kernel_rfl))⟩
 f14:=⟨Tryd.f69.name,by decide,Tryd.func69.trans (congrArg some (by kernel_rfl))⟩
 f15:=Tryd.func70.trans (congrArg some (by kernel_rfl))
 f20:=⟨Tryd.f76.name,by decide,Tryd.func76.trans (congrArg some (by kernel_rfl))⟩
 f21:=⟨Tryd.f77.name,by decide,Tryd.func77.trans (congrArg some (by kernel_rfl))⟩
 f22:=⟨Tryd.f78.name,by decide,Tryd.func78.trans (congrArg some (by kernel_rfl))⟩
 f23:=⟨Tryd.f79.name,by decide,Tryd.func79.trans (congrArg some (by kernel_rfl))⟩
 f24:=⟨Tryd.f80.name,by decide,Tryd.func80.trans (congrArg some (by kernel_rfl))⟩
 f25:=⟨Tryd.f81.name,by decide,Tryd.func81.trans (congrArg some (by kernel_rfl))⟩
 f26:=⟨Tryd.f82.name,by decide,Tryd.func82.trans (congrArg some (by kernel_rfl))⟩
 f27:=⟨Tryd.f83.name,by decide,Tryd.func83.trans (congrArg some (by kernel_rfl))⟩
 f28:=Tryd.func84.trans (congrArg some (by kernel_rfl))
 f29:=Tryd.func85.trans (congrArg some (by kernel_rfl))
 f46:=⟨Tryd.f90.name,by decide,Tryd.func90.trans (congrArg some (by kernel_rfl))⟩
 f47:=Tryd.func91.trans (congrArg some (by kernel_rfl))
 f48:=Tryd.func92.trans (congrArg some (by kernel_rfl))
 f49:=⟨Tryd.f93.name,by decide,Tryd.func93.trans (congrArg some (by kernel_rfl))⟩
 f50:=⟨Tryd.f94.name,by decide,Tryd.func94.trans (congrArg some (by kernel_rfl))⟩
 f57:=⟨Tryd.f96.name,by decide,Tryd.func96.trans (congrArg some (by kernel_rfl))⟩
 t0:=Tryd.underlying0
 a0:=Tryd.isAgg0
 z0:=Tryd.sizeOf0
 v0:=Tryd.zeroValue0
 t3:=Tryd.underlying3
 a3:=Tryd.isAgg3
 z3:=Tryd.sizeOf3
 v3:=Tryd.zeroValue3
 t4:=Tryd.underlying4
 a4:=Tryd.isAgg4
 z4:=Tryd.sizeOf4
 v4:=Tryd.zeroValue4
 t5:=Tryd.underlying5
 a5:=Tryd.isAgg5
 z5:=Tryd.sizeOf5
 v5:=Tryd.zeroValue5
 t9:=Tryd.underlying9
 a9:=Tryd.isAgg9
 z9:=Tryd.sizeOf9
 v9:=Tryd.zeroValue9
 t22:=Tryd.underlying51
 a22:=Tryd.isAgg51
 z22:=Tryd.sizeOf51
 v22:=Tryd.zeroValue51
 t25:=Tryd.underlying73
 a25:=Tryd.isAgg73
 z25:=Tryd.sizeOf73
 v25:=Tryd.zeroValue73
 t39:=Tryd.underlying113
 a39:=Tryd.isAgg113
 z39:=Tryd.sizeOf113
 v39:=Tryd.zeroValue113
 t45:=Tryd.underlying134
 a45:=Tryd.isAgg134
 z45:=Tryd.sizeOf134
 v45:=Tryd.zeroValue134
 t46:=Tryd.underlying135
 a46:=Tryd.isAgg135
 z46:=Tryd.sizeOf135
 v46:=Tryd.zeroValue135
 t50:=Tryd.underlying71
 a50:=Tryd.isAgg71
 z50:=Tryd.sizeOf71
 v50:=Tryd.zeroValue71
 t53:=Tryd.underlying121
 a53:=Tryd.isAgg121
 z53:=Tryd.sizeOf121
 v53:=Tryd.zeroValue121
 t55:=Tryd.underlying142
 a55:=Tryd.isAgg142
 z55:=Tryd.sizeOf142
 v55:=Tryd.zeroValue142
 t66:=Tryd.underlying146
 a66:=Tryd.isAgg146
 z66:=Tryd.sizeOf146
 v66:=Tryd.zeroValue146
 t70:=Tryd.underlying150
 a70:=Tryd.isAgg150
 z70:=Tryd.sizeOf150
 v70:=Tryd.zeroValue150
 t76:=Tryd.underlying153
 a76:=Tryd.isAgg153
 z76:=Tryd.sizeOf153
 v76:=Tryd.zeroValue153
 t77:=Tryd.underlying79
 a77:=Tryd.isAgg79
 z77:=Tryd.sizeOf79
 v77:=Tryd.zeroValue79}
end Go.Proofs
end
namespace Go.Sx
open Go
def kv (e:MapEntry):Value×Value:=(e.key,e.val)
def ItR (o:Obj) (bm:Nat) (om:Obj) (m dn lf:Vy_):Prop:=
 ∃es clock,∃ds:List MapEntry,om= .map es clock∧(es.toList.map (·.born)++ [clock]).Pairwise (· < ·)∧o= .mapIter (some bm) clock (ds.map (·.born)).toArray clock∧
  ds.map kv=dn.map vq_∧(∀d,d∈ds→d∈es.toList)∧((es.toList.filter fun e=> !(ds.map (·.born)).contains e.born).map kv=lf.map vq_)∧(dn++lf).Perm m
theorem wD_ {l:List MapEntry} {c:Nat} (h: (l.map (·.born)++ [c]).Pairwise (· < ·)): (l.map (·.born)).Nodup:=
 ((List.pairwise_append.1 h).1).imp fun h=>Nat.ne_of_lt h
theorem ah4_ {l:List MapEntry} {c:Nat} (h: (l.map (·.born)++ [c]).Pairwise (· < ·)): ∀x,x∈l→x.born<c:=fun x hx=>
 (List.pairwise_append.1 h).2.2 _ (List.mem_map.2 ⟨x,hx,rfl⟩) c (List.mem_singleton.2 rfl)
theorem Vf_ (es:Array MapEntry) (ds:List MapEntry): (leftOf es (ds.map (·.born)).toArray).toList=es.toList.filter fun e=> !(ds.map (·.born)).contains e.born:=by
 unfold leftOf
 rw[Array.toList_filter]
 simp
theorem ItR.start {bm:Nat} {om:Obj} {m:Vy_} (h:MapR om m): ∃es clock,om= .map es clock∧ItR (.mapIter (some bm) clock #[] clock) bm om m [] m:=by
 obtain⟨es,clock,rfl,h1,h2⟩:=h
 refine⟨es,clock,rfl,es,clock,[],rfl,h2,rfl,rfl,(fun d hd=>by cases hd), ?_,by rw[List.nil_append]⟩
 rw[show(es.toList.filter fun e=> !(([]:List MapEntry).map (·.born)).contains e.born)=es.toList from List.filter_eq_self.2 (fun _ _=>rfl)]
 exact h1
theorem ItR.step {bm:Nat} {om:Obj} {m dn lf:Vy_} {es:Array MapEntry} {clock:Nat} {ds:List MapEntry} {e:MapEntry} (hb: (es.toList.map (·.born)++ [clock]).Pairwise (· < ·))
  (hd:ds.map kv=dn.map vq_) (hm: ∀d,d∈ds→d∈es.toList) (hl: (es.toList.filter fun e=> !(ds.map (·.born)).contains e.born).map kv=lf.map vq_) (hp: (dn++lf).Perm m)
  (he:e∈es.toList.filter fun e=> !(ds.map (·.born)).contains e.born) (hom:om= .map es clock):
  ∃p lf',kv e=vq_ p∧lf.length=lf'.length+1∧ItR (.mapIter (some bm) clock ((ds.map (·.born)).toArray.push e.born) clock) bm om m (dn++ [p]) lf':=by
 obtain⟨A,C,hAC⟩:=List.append_of_mem he
 rw[hAC,List.map_append,List.map_cons] at hl
 obtain⟨l1,l2,rfl,h1,h2⟩:=List.append_eq_map_iff.1 hl
 obtain⟨p,l3,rfl,h3,h4⟩:=(List.map_eq_cons_iff.1 h2)
 refine⟨p,l1++l3,h3.symm,by simp;omega,es,clock,ds++ [e],hom,hb,by simp,by simp[hd,h3], ?_, ?_, ?_⟩
 ·intro d hd'
  rcases List.mem_append.1 hd' with h|h
  ·exact hm d h
  ·rw[List.mem_singleton] at h;subst h;exact(List.mem_filter.1 he).1
 ·have hnd: ((A++e::C).map (·.born)).Nodup:=by
   rw[←hAC]
   exact(wD_ hb).sublist ((List.filter_sublist).map _)
  have e1: (es.toList.filter fun x=> !((ds++ [e]).map (·.born)).contains x.born)=(A++e::C).filter fun x=> !(x.born==e.born):=by
   rw[←hAC,List.filter_filter]
   refine List.filter_congr fun x hx=> ?_
   simp only[List.map_append,List.map_cons,List.map_nil,List.contains_append,List.contains_cons,List.contains_nil,Bool.or_false,Bool.not_or]
   rw[Bool.and_comm]
  rw[List.map_append,List.map_cons,List.nodup_append] at hnd
  obtain⟨-,hn2,hn3⟩:=hnd
  rw[List.nodup_cons] at hn2
  have e2: ((A++e::C).filter fun x=> !(x.born==e.born))=A++C:=by
   rw[List.filter_append,List.filter_cons]
   simp only[beq_self_eq_true,Bool.not_true,Bool.false_eq_true, ↓reduceIte]
   congr 1
   ·refine List.filter_eq_self.2 fun x hx=> ?_
    have:=hn3 x.born (List.mem_map.2 ⟨x,hx,rfl⟩) e.born List.mem_cons_self
    simpa using this
   ·refine List.filter_eq_self.2 fun x hx=> ?_
    have:x.born≠e.born:=fun h=>hn2.1 (h▸List.mem_map.2 ⟨x,hx,rfl⟩)
    simpa using this
  rw[e1,e2,List.map_append,List.map_append,h1,h4]
 ·refine List.Perm.trans ?_ hp
  rw[List.append_assoc]
  refine List.Perm.append_left dn ?_
  rw[List.singleton_append]
  exact List.perm_middle.symm
section
variable {P:Program} {w0:World} {f:Fr} {L:za_} {N:Fr→za_→Prop} {ops:Array Oper} {rest:List Oper} {md:Md}
 {d:Option Tmp} {ty:TypeId} {ps:String} {af:Array Edge} {g:Option (Nat×Bool)}
def itv (b:Nat):Value:= .pointer (some ⟨b,0,none⟩)
end
end Go.Sx
namespace Go.Sx
open Go
def ItG {α β:Type} (encK:α→Value) (encV:β→Value) (o:Obj) (bm:Nat) (om:Obj) (m dn lf:List (α×β)):Prop:=
 ∃es clock,∃ds:List MapEntry,om= .map es clock∧(es.toList.map (·.born)++ [clock]).Pairwise (· < ·)∧o= .mapIter (some bm) clock (ds.map (·.born)).toArray clock∧
  ds.map kv=dn.map (xO_ encK encV)∧(∀d,d∈ds→d∈es.toList)∧((es.toList.filter fun e=> !(ds.map (·.born)).contains e.born).map kv=lf.map (xO_ encK encV))∧(dn++lf).Perm m
theorem ItG.start {α β:Type} {encK:α→Value} {encV:β→Value} {bm:Nat} {om:Obj} {m:List (α×β)} (h:MapG encK encV om m): ∃es clock,om= .map es clock∧ItG encK encV (.mapIter (some bm) clock #[] clock) bm om m [] m:=by
 obtain⟨es,clock,rfl,h1,h2⟩:=h
 refine⟨es,clock,rfl,es,clock,[],rfl,h2,rfl,rfl,(fun d hd=>by cases hd), ?_,by rw[List.nil_append]⟩
 rw[show(es.toList.filter fun e=> !(([]:List MapEntry).map (·.born)).contains e.born)=es.toList from List.filter_eq_self.2 (fun _ _=>rfl)]
 exact h1
theorem ItG.step {α β:Type} {encK:α→Value} {encV:β→Value} {bm:Nat} {om:Obj} {m dn lf:List (α×β)} {es:Array MapEntry} {clock:Nat} {ds:List MapEntry} {e:MapEntry} (hb: (es.toList.map (·.born)++ [clock]).Pairwise (· < ·))
  (hd:ds.map kv=dn.map (xO_ encK encV)) (hm: ∀d,d∈ds→d∈es.toList) (hl: (es.toList.filter fun e=> !(ds.map (·.born)).contains e.born).map kv=lf.map (xO_ encK encV)) (hp: (dn++lf).Perm m)
  (he:e∈es.toList.filter fun e=> !(ds.map (·.born)).contains e.born) (hom:om= .map es clock):
  ∃p lf',kv e=xO_ encK encV p∧lf.length=lf'.length+1∧ItG encK encV (.mapIter (some bm) clock ((ds.map (·.born)).toArray.push e.born) clock) bm om m (dn++ [p]) lf':=by
 obtain⟨A,C,hAC⟩:=List.append_of_mem he
 rw[hAC,List.map_append,List.map_cons] at hl
 obtain⟨l1,l2,rfl,h1,h2⟩:=List.append_eq_map_iff.1 hl
 obtain⟨p,l3,rfl,h3,h4⟩:=(List.map_eq_cons_iff.1 h2)
 refine⟨p,l1++l3,h3.symm,by simp;omega,es,clock,ds++ [e],hom,hb,by simp,by simp[hd,h3], ?_, ?_, ?_⟩
 ·intro d hd'
  rcases List.mem_append.1 hd' with h|h
  ·exact hm d h
  ·rw[List.mem_singleton] at h;subst h;exact(List.mem_filter.1 he).1
 ·have hnd: ((A++e::C).map (·.born)).Nodup:=by
   rw[←hAC]
   exact(wD_ hb).sublist ((List.filter_sublist).map _)
  have e1: (es.toList.filter fun x=> !((ds++ [e]).map (·.born)).contains x.born)=(A++e::C).filter fun x=> !(x.born==e.born):=by
   rw[←hAC,List.filter_filter]
   refine List.filter_congr fun x hx=> ?_
   simp only[List.map_append,List.map_cons,List.map_nil,List.contains_append,List.contains_cons,List.contains_nil,Bool.or_false,Bool.not_or]
   rw[Bool.and_comm]
  rw[List.map_append,List.map_cons,List.nodup_append] at hnd
  obtain⟨-,hn2,hn3⟩:=hnd
  rw[List.nodup_cons] at hn2
  have e2: ((A++e::C).filter fun x=> !(x.born==e.born))=A++C:=by
   rw[List.filter_append,List.filter_cons]
   simp only[beq_self_eq_true,Bool.not_true,Bool.false_eq_true, ↓reduceIte]
   congr 1
   ·refine List.filter_eq_self.2 fun x hx=> ?_
    have:=hn3 x.born (List.mem_map.2 ⟨x,hx,rfl⟩) e.born List.mem_cons_self
    simpa using this
   ·refine List.filter_eq_self.2 fun x hx=> ?_
    have:x.born≠e.born:=fun h=>hn2.1 (h▸List.mem_map.2 ⟨x,hx,rfl⟩)
    simpa using this
  rw[e1,e2,List.map_append,List.map_append,h1,h4]
 ·refine List.Perm.trans ?_ hp
  rw[List.append_assoc]
  refine List.Perm.append_left dn ?_
  rw[List.singleton_append]
  exact List.perm_middle.symm
section
variable {α β:Type} {encK:α→Value} {encV:β→Value} {P:Program} {w0:World} {f:Fr} {L:za_} {N:Fr→za_→Prop} {ops:Array Oper} {rest:List Oper} {md:Md}
 {d:Option Tmp} {ty:TypeId} {ps:String} {af:Array Edge} {g:Option (Nat×Bool)}
theorem Ow.rangeMapG {t kt vt:TypeId} {x:Operand} {bm:Nat} {om:Obj} {m:List (α×β)} {md':Md} (he:md.turn=some md') (hs:zk_ ops f ⟨d, .range t x,ty,ps,af,g⟩=false) (hu:P.underlying t=some (.map kt vt))
  (hx:ev f x=vm bm) (hl:zy_ w0 L bm=some om) (hm:MapG encK encV om m)
  (hn: ∀b o,jS_ L b→w0.heap.size≤b→ItG encK encV o bm om m [] m→Ow P w0 ops md' rest (qj_ f d (itv b)) (L++ [(b,o)]) N):
  Ow P w0 ops md (⟨d, .range t x,ty,ps,af,g⟩::rest) f L N:=by
 obtain⟨es,clock,rfl,hI⟩:=ItG.start (bm:=bm) hm
 refine Ow.step he rfl hs fun w hw=> .inl ⟨itv w.heap.size,w.alloc (.mapIter (some bm) clock #[] clock),_, ?_,hw.alloc _,hn _ _ (qi_ fun b hb=>hw.lt hb) hw.size hI⟩
 have hb:=hw.read hl
 have: (Instr.range t (vm bm)).run P w= .ok (itv w.heap.size) (w.alloc (.mapIter (some bm) clock #[] clock)):=by
  simp only[Instr.range,vm,Sem.run_bind,run_underlying hu w,Result.andThen_ok,jw_ hb]
  rfl
 simp only[execOp,Sem.run_bind,hx]
 rw[this];rfl
theorem Ow.nextMapG {x:Operand} {r bm:Nat} {o om:Obj} {m dn lf:List (α×β)} {md':Md} (he:md.turn=some md') (hs:zk_ ops f ⟨d, .next x false,ty,ps,af,g⟩=false)
  (hx:ev f x=itv r) (hl:look L r=some o) (hlm:zy_ w0 L bm=some om) (hI:ItG encK encV o bm om m dn lf)
  (h0:lf= []→Ow P w0 ops md' rest (qj_ f d (.tuple #[.bool false])) L N)
  (h1: ∀p o' lf',lf.length=lf'.length+1→ItG encK encV o' bm om m (dn++ [p]) lf'→Ow P w0 ops md' rest (qj_ f d (.tuple #[.bool true,encK p.1,encV p.2])) (setB L r o') N):
  Ow P w0 ops md (⟨d, .next x false,ty,ps,af,g⟩::rest) f L N:=by
 refine Ow.step he rfl hs fun w hw=> ?_
 have hr:=hw.has _ _ (zF_ hl)
 have hb:=hw.read hlm
 obtain⟨es,clock,ds,rfl,hbo,rfl,hd,hm,hlf,hp⟩:=hI
 rcases run_next_at (P:=P) w ty r bm clock clock (ds.map (·.born)).toArray es clock hr hb (ah4_ hbo) (Nat.le_refl _) with⟨hz,hrun⟩ | ⟨e,hem,w1,hw1,hrun⟩
 ·refine .inl ⟨.tuple #[.bool false],w,L, ?_,hw,h0 ?_⟩
  ·simp only[execOp,Sem.run_bind,hx,itv]
   rw[hrun];rfl
  ·have: (leftOf es (ds.map (·.born)).toArray).toList= []:=by
    rw[Array.toList_eq_nil_iff];exact Array.eq_empty_of_size_eq_zero hz
   rw[Vf_] at this
   rw[this] at hlf
   exact(List.map_eq_nil_iff.1 hlf.symm)
 ·rw[Vf_] at hem
  obtain⟨p,lf',hk,hlen,hI'⟩:=ItG.step (bm:=bm) hbo hd hm hlf hp hem rfl
  simp only[kv,xO_,Prod.mk.injEq] at hk
  have hw1':Hp w0 L w1:=by rcases hw1 with rfl|rfl;exact hw;exact hw.drew
  refine .inl ⟨.tuple #[.bool true,encK p.1,encV p.2],ChangeMaps.setBlock w1 r (.mapIter (some bm) clock ((ds.map (·.born)).toArray.push e.born) clock),_, ?_,hw1'.set (zo_ hl) rfl rfl rfl rfl,h1 p _ lf' hlen hI'⟩
  simp only[execOp,Sem.run_bind,hx,itv]
  rw[hrun,hk.1,hk.2];rfl
theorem Ow.entryMapG {x:Operand} {r bm:Nat} {o om:Obj} {m dn lf:List (α×β)} {p:α×β} {md':Md} (he:md.turn=some md') (hs:zk_ ops f ⟨d, .entry x,ty,ps,af,g⟩=false)
  (hx:ev f x=itv r) (hl:zy_ w0 L r=some o) (hlm:zy_ w0 L bm=some om) (hI:ItG encK encV o bm om m (dn++ [p]) lf)
  (hn:Ow P w0 ops md' rest (qj_ f d (.tuple #[encK p.1,encV p.2])) L N):
  Ow P w0 ops md (⟨d, .entry x,ty,ps,af,g⟩::rest) f L N:=by
 refine Ow.step he rfl hs fun w hw=> .inl ⟨_,w,L, ?_,hw,hn⟩
 have hr:=hw.read hl
 have hb:=hw.read hlm
 obtain⟨es,clock,ds,rfl,hbo,rfl,hd,hm,hlf,hp⟩:=hI
 rw[List.map_append,List.map_cons,List.map_nil] at hd
 obtain⟨d1,d2,rfl,-,h2⟩:=List.map_eq_append_iff.1 hd
 obtain⟨e,d3,rfl,h3,h4⟩:=List.map_eq_cons_iff.1 h2
 obtain rfl:=List.map_eq_nil_iff.1 h4
 simp only[kv,xO_,Prod.mk.injEq] at h3
 have hs': ((d1++ [e]).map (·.born)).toArray=(d1.map (·.born)).toArray.push e.born:=by simp
 rw[hs'] at hr
 have hrun:=run_entry_at (P:=P) w r bm clock (d1.map (·.born)).toArray es clock e hr hb (hm e (by simp)) (wD_ hbo)
 simp only[execOp,Sem.run_bind,hx,itv]
 rw[hrun,h3.1,h3.2];rfl
end
theorem WM_ (l:List UInt8):Instr.sameBits 10000 (.agg (a8 l)) (.agg (a8 l))=true:=by
 show Instr.sameBits (9999+1) _ _=true
 unfold Instr.sameBits
 simp only[beq_self_eq_true,Bool.true_and,List.all_eq_true]
 intro p hp
 obtain⟨i,hi,rfl⟩:=List.getElem_of_mem hp
 rw[List.getElem_zip]
 simp[a8,Instr.sameBits]
theorem Kn_ {P:Program} {t e:TypeId} {n:Nat} (hu:P.underlying t=some (.array n e)) (he:P.underlying e=some (.int .u8)) (hm:qr_ P e=some (false,1)) (l l':List UInt8) (hl:l.length=n) (hl':l'.length=n) (w:World):
  (Op.equal t (.agg (a8 l)) (.agg (a8 l'))).run P w= .ok (l==l') w:=
 afr_ P 8 9992 t _ _ _ (afp_ (d:=6) hu he hm l l' hl hl') w
theorem QO_ {P:Program} {t e:TypeId} {n:Nat} (hu:P.underlying t=some (.array n e)) (he:P.underlying e=some (.int .u8)) (hm:qr_ P e=some (false,1)) (l:List UInt8) (hl:l.length=n) (em:Bool) (w:World):
  (Instr.checkKey em 10000 t (.agg (a8 l))).run P w= .ok () w:=by
 show(Instr.checkKey em (9999+1) t (.agg (a8 l))).run P w= .ok () w
 rw[Instr.checkKey]
 simp only[Sem.run_bind,run_underlying hu,Result.andThen_ok]
 simp only[Std.Legacy.Range.forIn_eq_forIn_range',Std.Legacy.Range.size,Nat.sub_zero,Nat.add_one_sub_one,Nat.div_one]
 have each: ∀j,j∈List.range' 0 n→j<l.length:=by
  intro j hj
  rw[List.mem_range'] at hj
  obtain⟨i,hi,rfl⟩:=hj
  omega
 generalize List.range' 0 n=is at each
 induction is with
 |nil=>simp
 |cons j is ih=>
  have hj:=each j (by simp)
  have p1: (part e (a8 l) (j*1)).run P w= .ok (v8 (l.getD j 0)) w:=by
   refine jd_ hm ?_ w
   simp[vW_,a8,v8,hj]
  have p2: (Instr.checkKey em 9999 e (v8 (l.getD j 0))).run P w= .ok () w:=by
   show(Instr.checkKey em (9998+1) e (v8 (l.getD j 0))).run P w= .ok () w
   rw[Instr.checkKey]
   simp only[Sem.run_bind,run_underlying he,Result.andThen_ok,v8]
   rfl
  simp only[List.forIn_cons,Sem.run_bind,zt_ hm w,Result.andThen_ok,p1,p2,Sem.run_pure]
  exact ih (fun y hy=>each y (by simp[hy]))
theorem ab7_ {n:Nat} {e:TypeId} (x:Value): ∀ (es:List MapEntry) (i:Nat),es≠ []→Instr.findNow (.array n e) x es i=none
 | [],_,h=>absurd rfl h
 |_::_,_,_=>by cases x<;>rfl
theorem Zb_ {α β:Type} [BEq α] {P:Program} {kt:TypeId} {encK:α→Value} {encV:β→Value} (he: ∀a b w,(Op.equal kt (encK a) (encK b)).run P w= .ok (a==b) w) (w:World) (k:α): ∀ (es:List MapEntry) (m:List (α×β)) (i:Nat),es.map (fun e=>(e.key,e.val))=m.map (xO_ encK encV)→
  (Instr.findAsking kt (encK k) es i).run P w= .ok ((KH_ k m i).map fun p=>(p.1,encV p.2)) w
 | [],[],_,_=>rfl
 | [],_::_,_,h=>by cases h
 |_::_,[],_,h=>by cases h
 |e::es,p::m,i,h=>by
  simp only[List.map_cons,List.cons.injEq,xO_,Prod.mk.injEq] at h
  obtain⟨⟨h1,h2⟩,h3⟩:=h
  unfold Instr.findAsking KH_
  rw[Sem.run_bind,h1,he]
  simp only[Result.andThen_ok]
  cases hk: (k==p.1)
  ·simp only[Bool.false_eq_true, ↓reduceIte]
   exact Zb_ he w k es m (i+1) h3
  ·simp[h2]
theorem KeyOk.arr {α:Type} [BEq α] {P:Program} {kt e:TypeId} {n:Nat} (hu:P.underlying kt=some (.array n e)) (he:P.underlying e=some (.int .u8)) (hm:qr_ P e=some (false,1)) (bs:α→List UInt8) (hb: ∀a,(bs a).length=n) (hq: ∀a b,(bs a==bs b)=(a==b)):
  KeyOk P kt (fun a:α=> .agg (a8 (bs a))) where
 find encV w k es m h:=by
  cases es with
  |nil=>
   cases m with
   |nil=>simp only[Instr.findKey,Sem.run_bind,run_underlying hu w,Result.andThen_ok];rfl
   |cons=>cases h
  |cons e0 es=>
   simp only[Instr.findKey,Sem.run_bind,run_underlying hu w,Result.andThen_ok]
   rw[ab7_ _ _ _ (by simp)]
   exact Zb_ (encK:=fun a:α=> .agg (a8 (bs a))) (fun a b w=>by rw[Kn_ hu he hm _ _ (hb a) (hb b) w,hq]) w k _ m 0 h
 check w e k:=QO_ hu he hm _ (hb k) e w
 bits k:=WM_ _
section
variable {α β:Type} [BEq α] [LawfulBEq α] {encK:α→Value} {encV:β→Value} {P:Program} {w0:World} {f:Fr} {L:za_} {N:Fr→za_→Prop} {ops:Array Oper} {rest:List Oper} {md:Md}
 {d:Option Tmp} {ty:TypeId} {ps:String} {af:Array Edge} {g:Option (Nat×Bool)}
def Xe_ (k:α) (m:List (α×β)):Bool:=m.any fun p=>k==p.1
omit [LawfulBEq α] in
theorem Ow.mapGet2G {t kt vt:TypeId} {x y:Operand} {b:Nat} {o:Obj} {m:List (α×β)} {k:α} {z:β} {md':Md} (he:md.turn=some md') (hs:zk_ ops f ⟨d, .lookup t x y true,ty,ps,af,g⟩=false) (hu:P.underlying t=some (.map kt vt)) (hk:KeyOk P kt encK)
  (hz:qd_ P vt=some (encV z)) (hx:ev f x=vm b) (hy:ev f y=encK k) (hl:zy_ w0 L b=some o) (hm:MapG encK encV o m)
  (hn:Ow P w0 ops md' rest (qj_ f d (.tuple #[encV (getG k z m), .bool (Xe_ k m)])) L N):
  Ow P w0 ops md (⟨d, .lookup t x y true,ty,ps,af,g⟩::rest) f L N:=by
 obtain⟨es,c,rfl,hes,-⟩:=hm
 refine Ow.step he rfl hs fun w hw=> ?_
 have hb:=hw.read hl
 have hfk:=hk.find encV w k es.toList m hes
 refine .inl ⟨.tuple #[encV (getG k z m), .bool (Xe_ k m)],w,L, ?_,hw,hn⟩
 have hff:=Ky_ k m 0
 have hh:Xe_ k m=(m.find? fun p=>k==p.1).isSome:=by
  unfold Xe_;rw[Bool.eq_iff_iff,List.find?_isSome,List.any_eq_true]
 have: (Instr.lookup t (vm b) (encK k) true).run P w= .ok (.tuple #[encV (getG k z m), .bool (Xe_ k m)]) w:=by
  cases hf:KH_ k m 0 with
  |none=>
   rw[hf] at hfk hff
   cases h:m.find? fun p=>k==p.1 with
   |some q=>rw[h] at hff;cases hff
   |none=>
    have hg:getG k z m=z:=by unfold getG;rw[h]
    rw[h] at hh
    simp only[Instr.lookup,vm,Sem.run_bind,run_underlying hu w,Result.andThen_ok,jw_ hb,Sem.run_pure,hk.check,hfk,Option.map_none,jG_ hz w,hg,hh, ↓reduceIte,Option.isSome_none]
  |some p=>
   obtain⟨j,a⟩:=p
   rw[hf] at hfk hff
   cases h:m.find? fun p=>k==p.1 with
   |none=>rw[h] at hff;cases hff
   |some q=>
    have hg:getG k z m=a:=by
     unfold getG
     rw[h] at hff ⊢
     simp only[Option.map_some,Option.some.injEq] at hff;exact hff.symm
    rw[h] at hh
    simp only[Instr.lookup,vm,Sem.run_bind,run_underlying hu w,Result.andThen_ok,jw_ hb,Sem.run_pure,hk.check,hfk,Option.map_some,hg,hh, ↓reduceIte,Option.isSome_some]
 simp only[execOp,Sem.run_bind,hx,hy]
 rw[this];rfl
end
end Go.Sx
section
open Go Go.Proofs Go.Sx Go.StP Go.Flo Go.Shelf Go.Sort
namespace Go.Proofs
set_option maxRecDepth 10000
set_option maxHeartbeats 1000000
set_option linter.unusedSimpArgs false
theorem akI_ {b o1 k1 c o2 k2:Nat} {x y:IdL} {a1 a2:Array Value} {E E2:TypeId} {f1 f2:Nat×Nat} {w:World} (hb:w.heap[b]? =some (.cells a1 E f1)) (h1:ju_ a1 o1 x.l) (hc:w.heap[c]? =some (.cells a2 E2 f2)) (h2:ju_ a2 o2 y.l):
  Calls Tryd.prog 36 #[vsl b o1 32 k1,vsl c o2 32 k2] w fun e w'=>e= .returned (vi (wO_ x y))∧w'=w:=by
 have hr:=Kf_ (k1:=k1) (k2:=k2) hb h1 hc h2
 rw[x.h,y.h] at hr
 have e:Lib.compareBytes x.l y.l=wO_ x y:=WP_ _ _
 rw[e] at hr
 clear e
 generalize wO_ x y=r at hr ⊢
 generalize vsl b o1 32 k1=u at hr ⊢
 generalize vsl c o2 32 k2=v at hr ⊢
 go_enter Tryd.func36,Tryd.ntmps36
 go_wp2
 go_ret
 exact⟨rfl,rfl⟩
theorem ab4_ (x y:LnL) (W:World):Calls Tryd.prog 30 #[.agg (lnC x).toArray, .agg (lnC y).toArray] W fun e w'=>e= .returned (.int .i64 (wO_ x.id y.id))∧ ∃q os',w'=Go.Sort.grow (W.drewN q) os':=by
 have hx: (Value.agg (lnC x).toArray).cells=(lnC x).toArray:=rfl
 have hy: (Value.agg (lnC y).toArray).cells=(lnC y).toArray:=rfl
 go_enter Tryd.func30,Tryd.ntmps30
 go_wp2
 have h0: ((W.alloc (Obj.cells (lnC x).toArray 38)).alloc (Obj.cells (lnC y).toArray 38)).heap[W.heap.size]? =some (.cells (lnC x).toArray 38 (0,0)):=by
  show((W.heap.push _).push _)[W.heap.size]? =_
  rw[Array.getElem?_push,if_neg (by simp),Array.getElem?_push,if_pos rfl]
 have h1: ((W.alloc (Obj.cells (lnC x).toArray 38)).alloc (Obj.cells (lnC y).toArray 38)).heap[W.heap.size+1]? =some (.cells (lnC y).toArray 38 (0,0)):=by
  show((W.heap.push _).push _)[W.heap.size+1]? =_
  rw[Array.getElem?_push,if_pos (by simp)]
 refine wp_region_quiet_lit (by kernel_rfl) (by kernel_rfl) ?_
 quiet_step (skip)
 quiet_step (skip)
 quiet_step (skip)
 quiet_step (skip)
 refine wpQuiet_step (fun K hK=> ?_)
 go_simp
 refine⟨.int .i64 (wO_ x.id y.id),fun n=>Calls.quiet_of_same (akI_ h0 (Zz_ x) h1 (Zz_ y)),hK _ ?_⟩
 clear hK K
 quiet_step (skip)
 refine wpQuiet_nil ?_
 intro _ hw'
 obtain⟨nq,rfl⟩:=hw'
 go_wp2
 go_ret
 exact⟨rfl,nq,_,by rw[Go.Sort.alloc_eq_grow,Go.Sort.alloc_eq_grow,Go.Sort.grow_grow];rfl⟩
theorem ltLn (x y:LnL):ltOf (fun x y:LnL=>wO_ x.id y.id) x y=ltB x.id.l y.id.l:=by
 unfold ltOf
 rw[Bool.eq_iff_iff,decide_eq_true_eq,cmpI_lt]
theorem alo_:SWO (ltOf fun x y:LnL=>wO_ x.id y.id) where
 irrefl x:=by rw[ltLn];exact qp_ x.id.l
 trans x y z h1 h2:=by rw[ltLn] at*;exact q1_ h1 h2
 ntrans x y z h1 h2:=by
  rw[ltLn] at*
  cases h:ltB x.id.l z.id.l
  ·rfl
  ·by_cases hxy:x.id.l=y.id.l
   ·rw[hxy,h2] at h;cases h
   ·rw[q1_ (kE_ h1 fun e=>hxy e) h] at h2
    cases h2
theorem ac0_ (x:LnL): ∀v∈lnC x,v.oneCell'=true:=fun v hv=>List.all_eq_true.1 (Z0_ x) v hv
def abN_ (l Z:List LnL):Prop:=Z.Perm l∧Z.Pairwise (fun x y=>ltB y.id.l x.id.l=false)
theorem WC_ {b c:Nat} {l:List LnL} {rest:List Value} {E:TypeId} (w:World) (hb:w.heap[b]? =some (rowO lnC E rest l)) (hsz:l.length<4611686018427387904):
  Rets Tryd.prog 55 #[vsl b 0 l.length c, .func (.func 30) #[] #[]] w
   (fun v D=> ∃o,D= [(b,o)]∧v= .tuple #[]∧ ∃Z:List LnL,abN_ l Z∧o=rowO lnC E rest Z):=by
 have h:= @ade_ LnL ⟨Go.Proofs.ln0⟩ lnC 35 Tryd.prog Tryd.sortLn_ren Tryd.sortLn Tryd.isAgg38 Tryd.sizeOf38 qc_ ac0_ (fun x y=>wO_ x.id y.id) alo_ 30 Tryd.call30 ab4_ w b c E l rest hb hsz
 refine Rets.mono h ?_
 rintro v D ⟨o,rfl,rfl,l',hp,hs,rfl⟩
 exact⟨_,rfl,rfl,l',⟨hp,hs.imp fun{x y} h=>(ltLn y x).symm.trans h⟩,rfl⟩
theorem QU_ (p:Option Addr) (c:Nat) (fv:Value) (w:World):Rets Tryd.prog 55 #[.slice p 0 c,fv] w (fun v D=>v= .tuple #[]∧D= []):=
 @ad8_ Tryd.prog Tryd.sortLn_ren Tryd.sortLn p c fv w
theorem ajg_ (v:Value) (X:za_) (l:List LnL) (w:World) (hG:Gr X 38 35 v l.length (l.map lnC).flatten) (hX: ∀p,p∈X→w.heap[p.1]? =some p.2) (hn: (keys X).Nodup) (hl:l.length<1000000):
  Rets Tryd.prog 55 #[v, .func (.func 30) #[] #[]] w (XS w X (fun v' D=>v'= .tuple #[]∧ ∃Z,abN_ l Z∧Gr D 38 35 v l.length (Z.map lnC).flatten)):=by
 rcases hG with hS| ⟨h0,h1,rb,rfl,hlk⟩
 ·rcases hS.inv with⟨rfl,h0,h1⟩ | ⟨rb,c,rest,rfl,hlk,-,hc,hc0,hr⟩
  ·obtain rfl:l= []:=List.eq_nil_of_length_eq_zero h0
   refine(Rets.chunkV hX hn (QU_ none 0 _ w)).mono ?_
   rintro v' D ⟨hE,rfl,hv⟩
   exact⟨hE,hv,[],⟨List.Perm.nil,List.Pairwise.nil⟩,Gr.nl⟩
  ·refine(Rets.chunk hX hn (zo_ hlk) (WC_ (c:=c) w (hX _ (zF_ hlk)) (by omega))).mono ?_
   rintro v' D ⟨hE,o,rfl,hv,Z,hZ,rfl⟩
   refine⟨hE,hv,Z,hZ, .inl ?_⟩
   have z1:=hZ.1.length_eq
   rw[←z1]
   exact Buf.at_ (q0_ hlk) (by rw[ki_ qc_]) (by rw[z1];exact hr) (by omega) hc0
 ·obtain rfl:l= []:=List.eq_nil_of_length_eq_zero h0
  refine(Rets.chunkV hX hn (QU_ (some ⟨rb,0,none⟩) 0 _ w)).mono ?_
  rintro v' D ⟨hE,rfl,hv⟩
  exact⟨hE,hv,[],⟨List.Perm.nil,List.Pairwise.nil⟩, .inr ⟨rfl,rfl,rb,rfl,hlk⟩⟩
abbrev MpL:=List (IdL×LnL)
abbrev keyI (x:IdL):Value:= .agg (a8 x.l)
abbrev valL (r:LnL):Value:= .agg (lnC r).toArray
def ww_ (k:Nat) (m:MpL) (r:RwL):MpL:=if Xe_ r.id m then m else updG r.id ⟨r.id,(k:Int),r.place,r.spot⟩ m
def j9_ (k:Nat) (m:MpL) (l:List RwL):MpL:=l.foldl (ww_ k) m
def jp_ (ls:List (List UInt8×List RwL)):Nat→MpL
 |0=> []
 |n+1=>j9_ n (jp_ ls n) (ls.getD n ([],[])).2
theorem adm_ (k:Nat) (m:MpL) (r:RwL): (ww_ k m r).length≤m.length+1:=by
 unfold ww_
 split
 ·omega
 ·have: ∀ (x:IdL) (v:LnL) (m:MpL),(updG x v m).length≤m.length+1:=by
   intro x v m
   induction m with
   |nil=>exact Nat.le_refl _
   |cons p q ih=>
    unfold updG
    split
    ·simp
    ·simp only[List.length_cons];omega
  exact this _ _ _
theorem Vg_ (k:Nat): ∀ (l:List RwL) (m:MpL),(j9_ k m l).length≤m.length+l.length
 | [],m=>Nat.le_refl _
 |r::l,m=>by
  have h1:=Vg_ k l (ww_ k m r)
  have h2:=adm_ k m r
  show(j9_ k (ww_ k m r) l).length≤_
  rw[List.length_cons];omega
theorem ab9_ (k:Nat) (m:MpL) (l:List RwL) {j:Nat} (h:j<l.length):j9_ k m (l.take (j+1))=ww_ k (j9_ k m (l.take j)) (l.getD j rw0):=by
 unfold j9_
 rw[StP.take_snoc (z:=rw0) h,List.foldl_append];rfl
theorem Qo_ (ls:List (List UInt8×List RwL)) (hs: ∀p,p∈ls→p.2.length≤10000): ∀n,n≤ls.length→(jp_ ls n).length≤n*10000
 |0,_=>Nat.le_refl _
 |n+1,h=>by
  have h1:=Qo_ ls hs n (by omega)
  have h2:=Vg_ n (ls.getD n ([],[])).2 (jp_ ls n)
  have h3: (ls.getD n ([],[])).2.length≤10000:=hs _ (by rw[List.getD_eq_getElem?_getD,List.getElem?_eq_getElem (show n<ls.length by omega)];exact List.getElem_mem _)
  show(j9_ n (jp_ ls n) (ls.getD n ([],[])).2).length≤_
  omega
def ptC (p:Nat):List Value:= [vp p 0]
def PkIn (w:World) (v:Value) (ls:List (List UInt8×List RwL)):Prop:= ∃ps:List Nat,ps.length=ls.length∧SlV 1 ptC 0 w v ps∧ ∀k,k<ls.length→IxIn w (ps.getD k 0) (ls.getD k ([],[])).1 (ls.getD k ([],[])).2
end Go.Proofs
end
section
open Go Go.Proofs Go.Sx Go.StP Go.Flo
namespace Go.Proofs
set_option maxRecDepth 10000
set_option maxHeartbeats 1000000
set_option linter.unusedSimpArgs false
def ak4_ (ls:List (List UInt8×List RwL)) (v:Value) (D:za_):Prop:= ∃Z,abN_ ((jp_ ls ls.length).map Prod.snd) Z∧GrI D 38 35 v Z.length (Z.map lnC).flatten
structure Ga1 where
 k:Nat
 o:Obj
 D:za_
structure Ga2 where
 dn:MpL
 lf:MpL
 it:Obj
 v:Value
 D1:za_
 DG:za_
theorem adT_:KeyOk Tryd.prog 36 keyI:=KeyOk.arr Tryd.underlying36 Tryd.underlying5 (id (by kernel_rfl):qr_ Tryd.prog 5=some (false,1)) IdL.l (fun a=>a.h) (fun a b=>by
 rw[Bool.eq_iff_iff,beq_iff_eq,beq_iff_eq]
 exact⟨fun h=>by cases a;cases b;simp only at h;subst h;rfl,fun h=>by rw[h]⟩)
theorem tuq1 (a:Value): (#[a]:Array Value)[0]? =some a:=(rfl)
set_option linter.defProp false
def zW_:=And.intro (And.intro (And.intro (And.intro (@tuq1) (@Sx.tup3_0)) (And.intro (@Sx.tup3_1) (And.intro (@Sx.tup3_2) (@ze_)))) (And.intro (And.intro (@zd_) (@qH_)) (And.intro (@q7_) (And.intro (@wC_) (@kd_))))) (And.intro (And.intro (And.intro (@k8_) (@xp_)) (And.intro (@kg_) (And.intro (@vc_) (@k0_)))) (And.intro (And.intro (@vj_) (@qQ_)) (And.intro (@q6_) (And.intro (@Sx.tup2_0) (@Sx.tup2_1)))))
theorem W9_ (v:Value) (ls:List (List UInt8×List RwL)) (w:World) (hv:PkIn w v ls) (hl:ls.length≤50) (hr: ∀p,p∈ls→p.2.length≤10000):
  Rets Tryd.prog 20 #[v] w (XS w [] (ak4_ ls)):=by
 obtain⟨ps,hpl,hps,hix⟩:=hv
 have ln:=hps.len
 rw[hpl] at ln
 obtain⟨pb,poff,parr,PE,pfz,hpr⟩:=hps.row
 refine Rets.enterX Tryd.func20 rfl (rs:= [.tmp 2]) Tryd.results20 Tryd.ntmps20 (fun p hp=>by cases hp) (by simp[keys]) ?_
 refine kf ?_
 first|with_reducible refine ks [] @zW_ ?_|refine kp @zW_ ?_
 refine Ow.makeMapG (encK:=keyI) (encV:=valL) rfl rfl fun bm o hbm hwm hm0=> ?_
 refine ko @zW_ ?_
 first|with_reducible refine ks [] (And.intro @zW_ @ln) ?_|refine kp (And.intro @zW_ @ln) ?_
 refine Cw.loopG (G:=Ga1) [17,18,19,20,4,5,21,22,23,24,25,26,27,7,29,30,31,32,28,33,34,8,9,35,36,37,38,39,40,41,42,43,44,45,46,47,48,49,16] (fun g=> [(16,vi g.k)]) (fun g=>(bm,g.o)::g.D) (fun g=>g.k≤ls.length∧MapG keyI valL g.o (jp_ ls g.k)∧New w.heap.size g.D) (fun g=>ls.length - g.k) ⟨0,o,[]⟩ rfl rfl ?_ ?_
 ·exact⟨Nat.zero_le _,hm0,trivial⟩
 intro g j hg
 refine kv ?_
 obtain⟨k,om,DG⟩:=g
 simp only at hg ⊢
 obtain⟨hk,hM,hNG⟩:=hg
 by_cases hlt:k<ls.length
 ·have d1:decide ((k:Int)< (ls.length:Int))=true:=decide_eq_true (by omega)
  have ix:=hpr.idx false k (by omega)
  have ld: ∀n,zn_ (some (false,n)) (some (.cells parr PE pfz)) (poff+k)=some (vp (ps.getD k 0) 0):=fun n=>by
   have:=hpr.cell (j:=0) (n:=n) (k:=k) (by omega) (by omega)
   rwa [Nat.mul_one,Nat.add_zero] at this
  have hpb:=hpr.has (by omega)
  have hii:=hix k hlt
  have hlen: (ls.getD k ([],[])).2.length≤10000:=hr _ (by rw[List.getD_eq_getElem?_getD,List.getElem?_eq_getElem hlt];exact List.getElem_mem _)
  have hsn:jp_ ls (k+1)=j9_ k (jp_ ls k) (ls.getD k ([],[])).2:=rfl
  generalize ls.getD k ([],[])=q at*
  obtain⟨qs,ql⟩:=q
  simp only at hii hlen hsn
  have hN0:New w.heap.size ((bm,om)::DG):=⟨hwm,hNG⟩
  have hpl':=hpr.lt (by omega)
  have rdp:zy_ w ((bm,om)::DG) pb=some (.cells parr PE pfz):=by
   rw[zA_ _ _ _ _ _ (by omega),qx_ (hNG.not hpl')];exact hpb
  first|with_reducible refine ks [] (And.intro @zW_ (And.intro @d1 (And.intro @ix (And.intro @rdp (@ld))))) ?_|refine kp (And.intro @zW_ (And.intro @d1 (And.intro @ix (And.intro @rdp (@ld))))) ?_
  refine Ow.callC rfl rfl Tryd.call54 (fun w' hw'=>acy_ (ps.getD k 0) qs ql w' (hii.old hw' hN0) (by omega)) (fun B1 v9 D9 hA9 hB9 hN9 hS9=> ?_)
  have hN:New w.heap.size D9:=hN9.mono hB9
  have ln9:=ads_ hS9
  refine ko (And.intro @zW_ @ln9) ?_
  refine Cw.world fun w1 hw1=> ?_
  obtain⟨rb,off,arr,E,fz,hr9,hlk⟩:=hS9.rowL (z:=rw0) rfl ((hw1.perm (M:=D9++ ((bm,om)::DG)) List.perm_append_comm).part) z1_
  have hbB:bm<B1:=zz_ hA9 (by simp[keys])
  have hlk': ∀ (o':Obj) (G:za_),0<ql.length→zy_ w ((bm,o'):: (D9++G)) rb=some (.cells arr E fz):=by
   intro o' G h0
   have h1:=hlk h0
   have h2:=hN9.le rb (zo_ h1)
   rw[zA_ _ _ _ _ _ (by omega)]
   exact jf_ (jA_ h1)
  clear hw1 hS9 hN9 hA9 hbB hlk
  refine Cw.permL (M:=(bm,om):: (D9++DG)) (by classical exact List.perm_iff_count.2 fun a=>by simp only[List.count_append,List.count_cons,List.count_nil]<;>omega) ?_
  refine Cw.loopG (G:=Ga1) [25,26,27,7,29,30,31,32,28,33,34,8,9,35,36,37,38,39,40,41,42,43,44,45,46,47,48,24] (fun g=> [(24,vi g.k)]) (fun g=>(bm,g.o):: (D9++g.D)) (fun g=>g.k≤ql.length∧MapG keyI valL g.o (j9_ k (jp_ ls k) (ql.take g.k))∧New w.heap.size g.D) (fun g=>ql.length - g.k) ⟨0,om,DG⟩ rfl rfl ?_ ?_
  ·exact⟨Nat.zero_le _,hM,hNG⟩
  intro g j hg
  refine kv ?_
  clear hM hNG hN0
  obtain⟨j,o1,DG1⟩:=g
  simp only at hg ⊢
  obtain⟨hj,hM,hNG⟩:=hg
  by_cases hjt:j<ql.length
  ·have d2:decide ((j:Int)< (ql.length:Int))=true:=decide_eq_true (by omega)
   have ix9:=hr9.idx true j hjt
   have ld9:=hr9.load z1_ (by omega) hjt
   have rd9:=hlk' o1 DG1 (by omega)
   have hts:=ab9_ k (jp_ ls k) ql hjt
   generalize ql.getD j rw0=r at*
   first|with_reducible refine ks [11] (And.intro @zW_ (And.intro @d2 (And.intro @ix9 (And.intro @ld9 (@rd9))))) ?_|refine kp (And.intro @zW_ (And.intro @d2 (And.intro @ix9 (And.intro @ld9 (@rd9))))) ?_
   refine Ow.alloc rfl rfl zrRw fun b7 hb7 hw7=> ?_
   simp only[zg_,List.nil_append,List.cons_append]
   have h7m:bm<b7:=zz_ hb7 (by simp[keys])
   refine Ow.permL (M:=(b7, .cells (rwC rw0).toArray 45 (0,0)):: ((bm,o1):: (D9++DG1))) (by classical exact List.perm_iff_count.2 fun a=>by simp only[List.count_append,List.count_cons,List.count_nil]<;>omega) ?_
   refine ko @zW_ ?_
   first|with_reducible refine ks [] @zW_ ?_|refine kp @zW_ ?_
   refine Ow.mapGet2G (encK:=keyI) (encV:=valL) (k:=r.id) (z:=Go.Proofs.ln0) rfl rfl Tryd.underlying105 adT_ Kc_ rfl rfl (by rw[zA_ _ _ _ _ _ (by omega)];exact zR_ _ _ _ _) hM ?_
   refine ko @zW_ ?_
   first|with_reducible refine ks [] @zW_ ?_|refine kp @zW_ ?_
   refine Ow.alloc rfl rfl Kc_ fun b8 hb8 hw8=> ?_
   simp only[zg_,List.nil_append,List.cons_append]
   refine Ow.permL (M:=(b8, .cells (lnC Go.Proofs.ln0).toArray 38 (0,0)):: ((b7, .cells (rwC r).toArray 45 (0,0)):: ((bm,o1):: (D9++DG1)))) (by classical exact List.perm_iff_count.2 fun a=>by simp only[List.count_append,List.count_cons,List.count_nil]<;>omega) ?_
   refine ko @zW_ ?_
   have h87:b7<b8:=zz_ hb8 (by simp[keys])
   cases hh:Xe_ r.id (j9_ k (jp_ ls k) (ql.take j)) with
   |true=>
    have hg1:j9_ k (jp_ ls k) (ql.take (j+1))=j9_ k (jp_ ls k) (ql.take j):=by rw[hts];unfold ww_;rw[if_pos hh]
    first|with_reducible refine ks [] @zW_ ?_|refine kp @zW_ ?_
    refine Cw.permL (M:=(bm,o1):: (D9++ ((b8, .cells (lnC (getG r.id Go.Proofs.ln0 (j9_ k (jp_ ls k) (ql.take j)))).toArray 38 (0,0)):: ((b7, .cells (rwC r).toArray 45 (0,0))::DG1)))) (by classical exact List.perm_iff_count.2 fun a=>by simp only[List.count_append,List.count_cons,List.count_nil]<;>omega) ?_
    first|with_reducible refine ks [] @zW_ ?_|refine kp @zW_ ?_
    exact Again.mk ⟨j+1,o1,((b8, .cells (lnC (getG r.id Go.Proofs.ln0 (j9_ k (jp_ ls k) (ql.take j)))).toArray 38 (0,0)):: ((b7, .cells (rwC r).toArray 45 (0,0))::DG1))⟩ (by show ql.length - (j+1)<ql.length - j;omega) ⟨hjt,by rw[hg1];exact hM,⟨hw8,hw7,hNG⟩⟩ rfl rfl
   |false=>
    have hg1:j9_ k (jp_ ls k) (ql.take (j+1))=updG r.id ⟨r.id,(k:Int),r.place,r.spot⟩ (j9_ k (jp_ ls k) (ql.take j)):=by rw[hts];unfold ww_;rw[if_neg (by rw[hh];simp)]
    first|with_reducible refine ks [] @zW_ ?_|refine kp @zW_ ?_
    refine Ow.build (.agg (lnC ⟨r.id,(k:Int),r.place,r.spot⟩).toArray) rfl (agI_ ⟨r.id,(k:Int),r.place,r.spot⟩) ?_
    refine ko @zW_ ?_
    refine Ow.permL (M:=(bm,o1):: (D9++ ((b8, .cells (lnC (getG r.id Go.Proofs.ln0 (j9_ k (jp_ ls k) (ql.take j)))).toArray 38 (0,0)):: ((b7, .cells (rwC r).toArray 45 (0,0))::DG1)))) (by classical exact List.perm_iff_count.2 fun a=>by simp only[List.count_append,List.count_cons,List.count_nil]<;>omega) ?_
    refine Ow.mapUpdateG (encK:=keyI) (encV:=valL) (k:=r.id) (v:=⟨r.id,(k:Int),r.place,r.spot⟩) rfl rfl Tryd.underlying105 adT_ rfl rfl rfl (jg_ _ _ _) hM (fun o2 hM2=> ?_)
    refine kn ?_
    refine ko @zW_ ?_
    first|with_reducible refine ks [] @zW_ ?_|refine kp @zW_ ?_
    exact Again.mk ⟨j+1,o2,((b8, .cells (lnC (getG r.id Go.Proofs.ln0 (j9_ k (jp_ ls k) (ql.take j)))).toArray 38 (0,0)):: ((b7, .cells (rwC r).toArray 45 (0,0))::DG1))⟩ (by show ql.length - (j+1)<ql.length - j;omega) ⟨hjt,by rw[hg1];exact hM2,⟨hw8,hw7,hNG⟩⟩ rfl rfl
  ·obtain rfl:j=ql.length:=by omega
   have d2:decide ((ql.length:Int)< (ql.length:Int))=false:=decide_eq_false (by omega)
   rw[List.take_length] at hM
   first|with_reducible refine ks [] (And.intro @zW_ @d2) ?_|refine kp (And.intro @zW_ @d2) ?_
   exact Again.mk ⟨k+1,o1,D9++DG1⟩ (by show ls.length - (k+1)<ls.length - k;omega) ⟨hlt,by rw[hsn];exact hM,hN.app hNG⟩ rfl rfl
 ·obtain rfl:k=ls.length:=by omega
  have d1:decide ((ls.length:Int)< (ls.length:Int))=false:=decide_eq_false (by omega)
  have hml:=Qo_ ls hr ls.length (Nat.le_refl _)
  generalize hmm:jp_ ls ls.length=m at*
  first|with_reducible refine ks [] (And.intro @zW_ @d1) ?_|refine kp (And.intro @zW_ @d1) ?_
  refine Ow.rangeMapG (encK:=keyI) (encV:=valL) rfl rfl Tryd.underlying105 rfl (zR_ _ _ _ _) hM fun bi oi hbi hwi hI=> ?_
  have him:bm<bi:=zz_ hbi (by simp[keys])
  refine Ow.permL (M:=(bi,oi):: (bm,om):: ([]++DG)) (by classical exact List.perm_iff_count.2 fun a=>by simp only[List.count_append,List.count_cons,List.count_nil]<;>omega) ?_
  refine ko @zW_ ?_
  first|with_reducible refine ks [] @zW_ ?_|refine kp @zW_ ?_
  refine Cw.loopG (G:=Ga2) [52,53,54,55,12,56,57,58,59,10] (fun g=> [(10,g.v)]) (fun g=>(bi,g.it):: (bm,om):: (g.D1++g.DG)) (fun g=>New w.heap.size g.D1∧New w.heap.size g.DG∧Gr g.D1 38 35 g.v (g.dn.map Prod.snd).length ((g.dn.map Prod.snd).map lnC).flatten∧ItG keyI valL g.it bm om m g.dn g.lf∧g.dn.length+g.lf.length=m.length) (fun g=>g.lf.length) ⟨[],m,oi, .slice none 0 0,[],DG⟩ rfl rfl ?_ ?_
  ·exact⟨trivial,hNG,Gr.nl,hI,by simp⟩
  intro g j hg
  refine kv ?_
  obtain⟨dn,lf,it,v1,D1,DG1⟩:=g
  simp only at hg ⊢
  obtain⟨hN1,hN2,hG1,hI,hdl⟩:=hg
  have rdm: ∀x (Y:za_),zy_ w ((bi,x):: ((bm,om)::Y)) bm=some om:=fun x Y=>by
   rw[zA_ _ _ _ _ _ (by omega)];exact zR_ _ _ _ _
  first|with_reducible refine ks [] @zW_ ?_|refine kp @zW_ ?_
  refine Ow.nextMapG rfl rfl rfl (jg_ _ _ _) (rdm _ _) hI (fun hlf=> ?_) (fun p it' lf' hl' hI'=> ?_)
  ·subst hlf
   have hoo:dn.Perm m:=by
    obtain⟨es,clock,ds,-,-,-,-,-,-,hperm⟩:=hI
    rw[List.append_nil] at hperm;exact hperm
   refine Ow.permL (M:=D1++ ((bi,it):: (bm,om)::DG1)) (by classical exact List.perm_iff_count.2 fun a=>by simp only[List.count_append,List.count_cons,List.count_nil]<;>omega) ?_
   refine ko @zW_ ?_
   first|with_reducible refine ks [] @zW_ ?_|refine kp @zW_ ?_
   refine Ow.callX (Y:=(bi,it):: (bm,om)::DG1) (by simp) rfl rfl Tryd.call55 (fun w' hw' hX hn=>ajg_ v1 D1 (dn.map Prod.snd) w' hG1 hX hn (by rw[List.length_map,hoo.length_eq];omega)) (fun v14 D14 hC14 hS14=> ?_)
   obtain⟨rfl,Z,hZ,hG⟩:=hS14
   have hN14:New w.heap.size D14:=zQ_ hC14 hN1
   refine ko @zW_ ?_
   first|with_reducible refine ks [] @zW_ ?_|refine kp @zW_ ?_
   refine⟨_,(ke @zW_), ?_⟩
   refine⟨Ext.of_new (hN14.app ⟨hwi,hwm,hN2⟩),Z, ?_, ?_⟩
   ·rw[hmm]
    exact⟨hZ.1.trans (hoo.map _),hZ.2⟩
   ·rw[←hZ.1.length_eq] at hG
    exact Gr.i hG fun p hp=>List.mem_append_left _ hp
  ·refine kn ?_
   refine ko @zW_ ?_
   first|with_reducible refine ks [] @zW_ ?_|refine kp @zW_ ?_
   refine Ow.entryMapG (encK:=keyI) (encV:=valL) rfl rfl rfl (zR_ _ _ _ _) (rdm _ _) hI' ?_
   refine ko @zW_ ?_
   first|with_reducible refine ks [] @zW_ ?_|refine kp @zW_ ?_
   refine Ow.alloc rfl rfl Kc_ fun b12 hb12 hw12=> ?_
   simp only[zg_,List.nil_append,List.cons_append]
   obtain⟨pk,pv⟩:=p
   refine Ow.permL (M:=(b12, .cells (lnC Go.Proofs.ln0).toArray 38 (0,0)):: ((bi,it'):: (bm,om):: (D1++DG1))) (by classical exact List.perm_iff_count.2 fun a=>by simp only[List.count_append,List.count_cons,List.count_nil]<;>omega) ?_
   refine ko @zW_ ?_
   first|with_reducible refine ks [] @zW_ ?_|refine kp @zW_ ?_
   refine Ow.buildSlice (e:=38) (lnC pv).toArray rfl rfl (wb_ Tryd.underlying51 afS_ Kc_ (by decide) (qc_ _)) fun ba hba hwa=> ?_
   refine Ow.permL (M:=D1++ ((b12, .cells (lnC pv).toArray 38 (0,0)):: ((bi,it'):: (bm,om):: (DG1++ [(ba, .cells (lnC pv).toArray 38 (0,0))])))) (by classical exact List.perm_iff_count.2 fun a=>by simp only[List.count_append,List.count_cons,List.count_nil]<;>omega) ?_
   refine Ow.appendXG (e:=38) (k:=1) (new:=lnC pv) (X:=D1) v1 rfl rfl rfl rfl Tryd.underlying51 afS_ (by kernel_rfl) Kc_ (by rw[q7_,List.size_toArray,qc_]) Tryd.underlying51 (by intro k h;cases h) hG1 (fun w' hw'=>AppX.one1 (hw'.has ba (.cells (lnC pv).toArray 38 (0,0)) (by simp)) (qc_ _) (Z0_ _)) (by rw[List.length_map];omega) (fun B4 v4 D4 hA4 hB4 hG4 hk41 hk42 hlk4=> ?_)
   have hN4:New w.heap.size D4:=New.of_le fun q hq=>by
    rcases hk42 q hq with h|h
    ·exact hN1.le q h
    ·omega
   refine Ow.permL (M:=(bi,it'):: (bm,om):: (D4++ ((b12, .cells (lnC pv).toArray 38 (0,0)):: (DG1++ [(ba, .cells (lnC pv).toArray 38 (0,0))])))) (by classical exact List.perm_iff_count.2 fun a=>by simp only[List.count_append,List.count_cons,List.count_nil]<;>omega) ?_
   refine ko @zW_ ?_
   first|with_reducible refine ks [] @zW_ ?_|refine kp @zW_ ?_
   refine Again.mk ⟨dn++ [(pk,pv)],lf',it',v4,D4,(b12, .cells (lnC pv).toArray 38 (0,0)):: (DG1++ [(ba, .cells (lnC pv).toArray 38 (0,0))])⟩ (by show lf'.length<lf.length;omega) ⟨hN4,⟨hw12,hN2.app ⟨hwa,trivial⟩⟩, ?_,hI',by show(dn++ [(pk,pv)]).length+lf'.length=m.length;rw[List.length_append,List.length_singleton];omega⟩ rfl rfl
   show Gr D4 38 35 v4 ((dn++ [(pk,pv)]).map Prod.snd).length (((dn++ [(pk,pv)]).map Prod.snd).map lnC).flatten
   rw[List.map_append,List.length_append,show([(pk,pv)].map Prod.snd).length=1 from rfl]
   simpa only[List.map_append,List.map_cons,List.map_nil,List.flatten_append,List.flatten_cons,List.flatten_nil,List.append_nil] using hG4
end Go.Proofs
end
section
open Go Go.Proofs Go.Sx Go.StP Go.Flo
namespace Go.Proofs
set_option maxRecDepth 10000
set_option maxHeartbeats 1000000
set_option linter.unusedSimpArgs false
set_option linter.defProp false
def Jx_:=And.intro (@ze_) (@zd_)
abbrev ShSl (w:World) (v:Value) (l:List ShL):Prop:=SlV 2 shC sh0 w v l
theorem abI_ (b o n c:Nat):qC_ Tryd.prog .eql 22 (vsl b o n c) (.slice none 0 0)=some (.bool false):=by
 simp[qC_,eqX,qy_,qg_,Tryd.underlying22,vsl]
theorem Xn_:qC_ Tryd.prog .eql 22 (.slice none 0 0) (.slice none 0 0)=some (.bool true):=by
 simp[qC_,eqX,qy_,qg_,Tryd.underlying22]
theorem Vp_ (v:Value) (ls:List ShL) (w:World) (hv:ShSl w v ls) (hl:ls.length<1000000):
  Rets Tryd.prog 14 #[v] w (XS w [] (fun v D=>Gr D 26 2 v ls.length (ls.map shC).flatten)):=by
 obtain⟨b,off,c,arr,E,fz,hr,hc,⟨rfl,rfl,rfl⟩ | ⟨rfl,hb,hsz⟩⟩:=hv
 ·refine Rets.enterX Tryd.func14 rfl (rs:= [.tmp 2]) Tryd.results14 Tryd.ntmps14 (fun p hp=>by cases hp) (by simp[keys]) ?_
  refine kf ?_
  first|with_reducible refine ks [] (And.intro @Jx_ (And.intro @abI_ (@Xn_))) ?_|refine kp (And.intro @Jx_ (And.intro @abI_ (@Xn_))) ?_
  refine⟨_,(ke @Jx_), ?_⟩
  exact⟨Ext.refl _ _,Gr.nl⟩
 ·have hbl:=(Array.getElem?_eq_some_iff.1 hb).1
  have hv:ShSl w (vsl b off ls.length c) ls:=⟨b,off,c,arr,E,fz,hr,hc, .inr ⟨rfl,hb,hsz⟩⟩
  refine Rets.enterX Tryd.func14 rfl (rs:= [.tmp 2]) Tryd.results14 Tryd.ntmps14 (fun p hp=>by cases hp) (by simp[keys]) ?_
  refine kf ?_
  first|with_reducible refine ks [] (And.intro @Jx_ (And.intro @abI_ (@Xn_))) ?_|refine kp (And.intro @Jx_ (And.intro @abI_ (@Xn_))) ?_
  refine Ow.buildSlice (e:=26) #[] rfl rfl (by kernel_rfl) fun b1 hb1 hw1=> ?_
  refine ko @Jx_ ?_
  refine Ow.appendG (e:=26) (k:=ls.length) (new:=(ls.map shC).flatten) (vsl b1 0 0 0) rfl rfl rfl Tryd.underlying22 Tryd.ag26 (by kernel_rfl) zrSh (by rw[xa_,List.size_toArray,jj_]) Tryd.underlying22 (by intro k h;cases h) (.inr ⟨rfl,rfl,b1,rfl,vp_ hb1⟩) (fun w' hw'=>(hv.oldN hw' ⟨hw1,trivial⟩).appX jj_ VW_) (ki_ jj_ ls) (by omega) (fun v2 L2 hB hB2 hG hS=> ?_)
  rw[Nat.zero_add,List.nil_append] at hB
  refine ko @Jx_ ?_
  first|with_reducible refine ks [] @Jx_ ?_|refine kp @Jx_ ?_
  refine⟨_,(ke @Jx_), ?_⟩
  exact⟨((Ext.refl w []).app (o:=Obj.cells #[] 26 (0,0)) hw1).grew hG,hB⟩
theorem afm_ (v:Value) (X:za_) (l:List ShL) (w:World) (hG:Gr X 26 2 v l.length (l.map shC).flatten) (hX: ∀p,p∈X→w.heap[p.1]? =some p.2) (hn: (keys X).Nodup) (hl:l.length<1000000):
  Rets Tryd.prog 15 #[v,qm_] w (XS w X (fun v' D=>v'= .tuple #[]∧ ∃Z,shs_SortOf l Z∧Gr D 26 2 v l.length (Z.map shC).flatten)):=by
 rcases hG with hS| ⟨h0,h1,rb,rfl,hlk⟩
 ·rcases hS.inv with⟨rfl,h0,h1⟩ | ⟨rb,c,rest,rfl,hlk,-,hc,hc0,hr⟩
  ·obtain rfl:l= []:=List.eq_nil_of_length_eq_zero h0
   refine(Rets.chunkV hX hn (wg_ w)).mono ?_
   rintro v' D ⟨hE,rfl,hv⟩
   exact⟨hE,hv,[],⟨rfl,List.Pairwise.nil,StP.St.refl _ _⟩,Gr.nl⟩
  ·refine(Rets.chunk hX hn (zo_ hlk) (xh_ rb l.length c l rest w rfl hl (hX _ (zF_ hlk)))).mono ?_
   rintro v' D ⟨hE,o,rfl,hv,Z,rfl,z1,z2,z3⟩
   refine⟨hE,hv,Z,⟨z1,z2,z3⟩, .inl ?_⟩
   rw[←z1]
   exact Buf.at_ (q0_ hlk) (by rw[ki_ jj_]) (by rw[z1];exact hr) (by omega) hc0
 ·obtain rfl:l= []:=List.eq_nil_of_length_eq_zero h0
  refine(Rets.chunk hX hn (zo_ hlk) (xh_ rb 0 0 [] [] w rfl (by omega) (hX _ (zF_ hlk)))).mono ?_
  rintro v' D ⟨hE,o,rfl,hv,Z,rfl,z1,z2,z3⟩
  obtain rfl:Z= []:=List.eq_nil_of_length_eq_zero z1
  exact⟨hE,hv,[],⟨rfl,List.Pairwise.nil,StP.St.refl _ _⟩, .inr ⟨rfl,rfl,rb,rfl,q0_ hlk⟩⟩
def jW_ (l:List ShL):Nat→Option (List (List UInt8×List RwL))
 |0=>some []
 |k+1=>match jW_ l k,j3_ (l.getD k sh0).bytes with
  |some q,some p=>some (q++ [p])
  |_,_=>none
theorem JS_ {l:List ShL} {k:Nat} (h:jW_ l k=none): ∀ {n:Nat},k≤n→jW_ l n=none
 |0,hk=>by
  obtain rfl:k=0:=by omega
  exact h
 |n+1,hk=>by
  by_cases e:k=n+1
  ·subst e;exact h
  ·unfold jW_;rw[JS_ h (show k≤n by omega)]
theorem ky_ {l:List ShL}: ∀ {n:Nat} {q:List (List UInt8×List RwL)},jW_ l n=some q→q.length=n
 |0,q,h=>by cases h;rfl
 |n+1,q,h=>by
  unfold jW_ at h
  cases h1:jW_ l n with
  |none=>rw[h1] at h;cases h
  |some q1=>
   rw[h1] at h
   cases h2:j3_ (l.getD n sh0).bytes with
   |none=>rw[h2] at h;cases h
   |some p=>
    rw[h2] at h
    simp only[Option.some.injEq] at h
    subst h
    rw[List.length_append,ky_ h1];rfl
theorem aeP_ {b s:List UInt8} {l:List RwL} (h:j3_ b=some (s,l)):l.length≤200∧s.length=4:=by
 have h1:=(openI_iff.1 h).1
 unfold jn_ at h1
 simp only[Bool.and_eq_true,decide_eq_true_eq] at h1
 exact⟨h1.2.2,h1.2.1⟩
theorem Qd_ {l:List ShL}: ∀ {n:Nat} {q:List (List UInt8×List RwL)},jW_ l n=some q→ ∀p,p∈q→p.2.length≤200∧p.1.length=4
 |0,q,h=>by cases h;intro p hp;cases hp
 |n+1,q,h=>by
  unfold jW_ at h
  cases h1:jW_ l n with
  |none=>rw[h1] at h;cases h
  |some q1=>
   rw[h1] at h
   cases h2:j3_ (l.getD n sh0).bytes with
   |none=>rw[h2] at h;cases h
   |some p=>
    rw[h2] at h
    simp only[Option.some.injEq] at h
    subst h
    intro p' hp'
    rcases List.mem_append.1 hp' with h3|h3
    ·exact Qd_ h1 p' h3
    ·rw[List.mem_singleton] at h3
     subst h3
     exact aeP_ (s:=p'.1) (l:=p'.2) h2
def Jz_ (Z:List ShL) (L:List LnL):List UInt8×Int:=
 if 40<Z.length then([],4) else if qn_ (Z.map ShL.name) []=false then([],1) else match jW_ Z Z.length with
 |none=>([],2)
 |some q=>if qn_ (Z.map ShL.name) L=false then([],4) else(qh_ (kY_ (Z.map ShL.name) (q.map Prod.fst) L),0)
def wi_ (l:List ShL) (v:Value):Prop:=if 40<l.length then v= .tuple #[vs [],vi 4] else∃Z L,shs_SortOf l Z∧(qn_ (Z.map ShL.name) []=true→ ∀q,jW_ Z Z.length=some q→abN_ ((jp_ q q.length).map Prod.snd) L)∧v= .tuple #[vs (Jz_ Z L).1,vi (Jz_ Z L).2]
theorem qq_ {α:Type} {a b:List α} (z:α) (k:Nat) (h:k<a.length): (a++b).getD k z=a.getD k z:=by
 rw[List.getD_eq_getElem?_getD,List.getElem?_append_left h,←List.getD_eq_getElem?_getD]
theorem Qv_ {α:Type} {a:List α} (z x:α) {k:Nat} (h:a.length=k): (a++ [x]).getD k z=x:=by
 subst h
 rw[List.getD_eq_getElem?_getD,List.getElem?_append_right (Nat.le_refl _),Nat.sub_self];rfl
structure Mk1 where
 k:Nat
 v0:Value
 D1:za_
 DG:za_
structure Mk2 where
 q:List (List UInt8×List RwL)
 ps:List Nat
 vp:Value
 v1:Value
 DP:za_
 D2:za_
 D3:za_
 DG:za_
set_option linter.defProp false
def zC_:=And.intro (And.intro (And.intro (@ze_) (And.intro (@zd_) (@k6_))) (And.intro (@wc_) (And.intro (@k2_) (@xa_)))) (And.intro (And.intro (@vB_) (And.intro (@XK_) (@abB_))) (And.intro (@xZ_) (And.intro (@Sx.tup2_0) (@Sx.tup2_1))))
theorem JT_ (v:Value) (l:List ShL) (w:World) (hC:GlobC w) (hv:ShSl w v l) (hl:l.length<1000000) (hs: ∀s,s∈l→s.name.length<1099511627776∧s.bytes.length<1099511627776):
  Rets Tryd.prog 7 #[v] w (fun v' D=>wi_ l v'∧D= []):=by
 have ln:=hv.len
 refine Rets.enterV Tryd.func7 rfl (rs:= [.tmp 2, .tmp 3]) Tryd.results7 Tryd.ntmps7 ?_
 refine kf ?_
 by_cases h4:40<l.length
 ·have d1:decide ((40:Int)< (l.length:Int))=true:=decide_eq_true (by omega)
  first|with_reducible refine ks [] (And.intro @zC_ (And.intro @ln (@d1))) ?_|refine kp (And.intro @zC_ (And.intro @ln (@d1))) ?_
  refine⟨_,(ke @zC_),trivial, ?_⟩
  (unfold wi_;rw[if_pos h4];rfl)
 ·have d1:decide ((40:Int)< (l.length:Int))=false:=decide_eq_false (by omega)
  first|with_reducible refine ks [1000005] (And.intro @zC_ (And.intro @ln (@d1))) ?_|refine kp (And.intro @zC_ (And.intro @ln (@d1))) ?_
  refine Ow.callX (Y:= []) (by simp) rfl rfl Tryd.call14 (fun w' hw' hX hn=>Vp_ v l w' (hv.oldN hw' trivial) hl) (fun v12 D12 hC12 hS12=> ?_)
  have hN12:New w.heap.size D12:=zQ_ hC12 trivial
  rw[List.append_nil]
  refine ko @zC_ ?_
  first|with_reducible refine ks [] @zC_ ?_|refine kp @zC_ ?_
  refine Ow.callX (Y:= []) (by simp) rfl rfl Tryd.call15 (fun w' hw' hX hn=>afm_ v12 D12 l w' hS12 hX hn hl) (fun v14 D14 hC14 hS14=> ?_)
  obtain⟨rfl,Z,hZ,hG⟩:=hS14
  have hN14:New w.heap.size D14:=zQ_ hC14 hN12
  have hZl:=hZ.1
  rw[List.append_nil]
  refine ko @zC_ ?_
  refine Cw.rebaseV hN14 (by rfl) fun w1 hw1=> ?_
  have hZ1:ShSl w1 v12 Z:=hG.slV hw1 hZl rfl jj_
  have hC1:=hC.newP hw1 hN14
  have hmem: ∀x,x∈Z→x∈l:=fun x hx=>(StP.St.mem hZ.2.2 x).1 hx
  have hZs: ∀s,s∈Z→s.name.length<1099511627776∧s.bytes.length<1099511627776:=fun s hsm=>hs s (hmem s hsm)
  have hZ40:Z.length≤40:=by omega
  have hpost: ∀L (v':Value),(qn_ (Z.map ShL.name) []=true→ ∀q,jW_ Z Z.length=some q→abN_ ((jp_ q q.length).map Prod.snd) L)→v'= .tuple #[vs (Jz_ Z L).1,vi (Jz_ Z L).2]→wi_ l v':=by
   intro L v' h1 h2
   unfold wi_;rw[if_neg h4];exact⟨Z,L,hZ,h1,h2⟩
  clear hw1 hG hN14 hv ln
  have lnz:=hZ1.len
  obtain⟨rb,off,arr,E,fz,hzr⟩:=hZ1.row
  first|with_reducible refine ks [] @zC_ ?_|refine kp @zC_ ?_
  refine Ow.build (.agg #[.slice none 0 0, .slice none 0 0, .slice none 0 0]) rfl K5_ ?_
  refine ko @zC_ ?_
  refine Ow.box rfl rfl fun bm hbm hwm=> ?_
  simp only[jL_,jr_,jq_,zg_]
  rw[List.nil_append]
  refine ko @zC_ ?_
  first|with_reducible refine ks [] (And.intro @zC_ @lnz) ?_|refine kp (And.intro @zC_ @lnz) ?_
  refine Cw.loopG (G:=Mk1) [24,25,26,6,27,28,29,30,31,32,33,34,35,36,37,38,23] (fun g=> [(23,vi g.k)]) (fun g=>(bm,mgO g.v0 (.slice none 0 0) (.slice none 0 0)):: (g.D1++g.DG)) (fun g=>g.k≤Z.length∧New w1.heap.size g.D1∧New w1.heap.size g.DG∧Gr g.D1 9 1 g.v0 g.k (((Z.take g.k).map ShL.name).map VS_).flatten) (fun g=>Z.length - g.k) ⟨0, .slice none 0 0,[],[]⟩ rfl rfl ?_ ?_
  ·exact⟨Nat.zero_le _,trivial,trivial,Gr.nl⟩
  intro g j hg
  refine kv ?_
  obtain⟨k,v0,D1,DG⟩:=g
  simp only at hg ⊢
  obtain⟨hk,hN1,hNG,hG1⟩:=hg
  by_cases hlt:k<Z.length
  ·have d2:decide ((k:Int)< (Z.length:Int))=true:=decide_eq_true (by omega)
   have ixz:=hzr.idx true k hlt
   have ldz:=hzr.load jj_ (by omega) hlt
   have hzb:=hzr.lt (by omega)
   have rdz:zy_ w1 ((bm,mgO v0 (.slice none 0 0) (.slice none 0 0)):: (D1++DG)) rb=some (.cells arr E fz):=by
    rw[zA_ _ _ _ _ _ (by omega),qx_ ((hN1.app hNG).not hzb)];exact hzr.has (by omega)
   have hts: (Z.take (k+1)).map ShL.name=(Z.take k).map ShL.name++ [(Z.getD k sh0).name]:=by
    rw[StP.take_snoc (z:=sh0) hlt,List.map_append];rfl
   generalize Z.getD k sh0=r at*
   first|with_reducible refine ks [10] (And.intro @zC_ (And.intro @d2 (And.intro @ixz (And.intro @rdz (@ldz))))) ?_|refine kp (And.intro @zC_ (And.intro @d2 (And.intro @ixz (And.intro @rdz (@ldz))))) ?_
   refine Ow.alloc rfl rfl zrSh fun b6 hb6 hw6=> ?_
   simp only[zg_,List.nil_append,List.cons_append]
   have h6m:bm<b6:=zz_ hb6 (by simp[keys])
   refine Ow.permL (M:=(b6, .cells (shC sh0).toArray 26 (0,0)):: ((bm,mgO v0 (.slice none 0 0) (.slice none 0 0)):: (D1++DG))) (by classical exact List.perm_iff_count.2 fun a=>by simp only[List.count_append,List.count_cons,List.count_nil]<;>omega) ?_
   refine ko @zC_ ?_
   first|with_reducible refine ks [] @zC_ ?_|refine kp @zC_ ?_
   have hb6n:b6≠bm:=by omega
   have hbm6:bm≠b6:=by omega
   refine Cw.regionS [b6,bm] [0,1,2,3,5,4,6,7,8,9,10,11] [11] (by kernel_rfl) (by kernel_rfl) (by kernel_rfl) ?_
   simp only[zj_, ↓zf_, ↓zb_, ↓zp_, ↓zq_,zc_]
   refine kq @zC_ ?_
   refine Ow.soft rfl rfl rfl ?_
   refine Ow.buildSlice (e:=9) #[vs r.name] rfl rfl (by kernel_rfl) fun ba hba hwa=> ?_
   have hba6:b6<ba:=zz_ hba (by simp[keys])
   with_reducible refine Ow.nil ?_
   refine⟨(fun x hx=>by simp only[List.mem_cons,List.not_mem_nil,or_false] at hx;rcases hx with rfl|rfl<;>simp(disch:=omega) only[List.cons_append,List.nil_append,zR_,zA_]), ?_⟩
   refine kq @zC_ ?_
   refine Ow.soft rfl rfl rfl ?_
   refine Ow.permL (M:=D1++ ((b6, .cells (shC r).toArray 26 (0,0)):: ((bm,mgO v0 (.slice none 0 0) (.slice none 0 0)):: (DG++ [(ba, .cells #[vs r.name] 9 (0,0))])))) (by classical exact List.perm_iff_count.2 fun a=>by simp only[List.count_append,List.count_cons,List.count_nil]<;>omega) ?_
   refine Ow.appendXG (e:=9) (k:=1) (new:=VS_ r.name) (X:=D1) v0 rfl rfl rfl rfl Tryd.underlying57 (id (by kernel_rfl):qr_ Tryd.prog 9=some (false,1)) (by kernel_rfl) (id (by kernel_rfl):qd_ Tryd.prog 9=some (vs [])) rfl Tryd.underlying57 (by intro k h;cases h) hG1 (fun w' hw'=>AppX.one1 (hw'.has ba (.cells #[vs r.name] 9 (0,0)) (by simp)) rfl rfl) (by omega) (fun B4 v4 D4 hA4 hB4 hG4 hk41 hk42 hlk4=> ?_)
   have hN4:New w1.heap.size D4:=New.of_le fun q hq=>by
    rcases hk42 q hq with h|h
    ·exact hN1.le q h
    ·omega
   refine Ow.permL (M:=(b6, .cells (shC r).toArray 26 (0,0)):: ((bm,mgO v0 (.slice none 0 0) (.slice none 0 0)):: (D4++ (DG++ [(ba, .cells #[vs r.name] 9 (0,0))])))) (by classical exact List.perm_iff_count.2 fun a=>by simp only[List.count_append,List.count_cons,List.count_nil]<;>omega) ?_
   with_reducible refine Ow.nil ?_
   refine⟨(fun x hx=>by simp only[List.mem_cons,List.not_mem_nil,or_false] at hx;rcases hx with rfl|rfl<;>simp(disch:=omega) only[List.cons_append,List.nil_append,zR_,zA_]), ?_⟩
   have st4: ∀a,zl_ (some (a,1)) (some (mgO v0 (.slice none 0 0) (.slice none 0 0))) 0 v4=some (mgO v4 (.slice none 0 0) (.slice none 0 0)):=fun a=>KF_ v0 _ _ v4 a hG4.cell
   refine kq @zC_ ?_
   refine Ow.store rfl rfl rfl (ke (And.intro @zC_ @st4)) ?_
   refine ko @zC_ ?_
   refine Cw.permL (M:=(bm,mgO v4 (.slice none 0 0) (.slice none 0 0)):: (D4++ ((b6, .cells (shC r).toArray 26 (0,0)):: (DG++ [(ba, .cells #[vs r.name] 9 (0,0))])))) (by classical exact List.perm_iff_count.2 fun a=>by simp only[List.count_append,List.count_cons,List.count_nil]<;>omega) ?_
   first|with_reducible refine ks [] @zC_ ?_|refine kp @zC_ ?_
   refine Again.mk ⟨k+1,v4,D4,(b6, .cells (shC r).toArray 26 (0,0)):: (DG++ [(ba, .cells #[vs r.name] 9 (0,0))])⟩ (by show Z.length - (k+1)<Z.length - k;omega) ⟨hlt,hN4,⟨hw6,hNG.app ⟨hwa,trivial⟩⟩, ?_⟩ rfl rfl
   show Gr D4 9 1 v4 (k+1) (((Z.take (k+1)).map ShL.name).map VS_).flatten
   rw[hts]
   simpa only[List.map_append,List.map_cons,List.map_nil,List.flatten_append,List.flatten_cons,List.flatten_nil,List.append_nil] using hG4
  ·obtain rfl:k=Z.length:=by omega
   have d2:decide ((Z.length:Int)< (Z.length:Int))=false:=decide_eq_false (by omega)
   rw[List.take_length] at hG1
   have hNm:New w1.heap.size ((bm,mgO v0 (.slice none 0 0) (.slice none 0 0)):: (D1++DG)):=⟨hwm,hN1.app hNG⟩
   have hshort:aeB_ (Z.map ShL.name):=by
    intro s hs'
    obtain⟨x,hx,rfl⟩:=List.mem_map.1 hs'
    exact(hZs x hx).1
   have hmg:MgD ((bm,mgO v0 (.slice none 0 0) (.slice none 0 0)):: (D1++DG)) bm (Z.map ShL.name) [] []:=⟨v0,_,_,List.mem_cons_self,by rw[List.length_map];exact Gr.i hG1 fun p hp=>List.mem_cons_of_mem _ (List.mem_append_left _ hp),(Gr.nl (L:= [])).i fun q hq=>(by cases hq),(Gr.nl (L:= [])).i fun q hq=>(by cases hq)⟩
   first|with_reducible refine ks [] (And.intro @zC_ @d2) ?_|refine kp (And.intro @zC_ @d2) ?_
   refine Ow.callFV rfl Tryd.call18 (fun w' hw'=>vH_ bm (Z.map ShL.name) [] [] w' (hmg.inW hw') (by rw[List.length_map];omega) (by simp) hshort) ?_
   cases hrt:qn_ (Z.map ShL.name) [] with
   |false=>
    refine ko @zC_ ?_
    first|with_reducible refine ks [] @zC_ ?_|refine kp @zC_ ?_
    refine⟨_,(ke @zC_),hNm, ?_⟩
    skip
    refine hpost [] _ (fun h=>by rw[hrt] at h;cases h) ?_
    unfold Jz_
    rw[if_neg (by omega),if_pos hrt];rfl
   |true=>
    refine ko @zC_ ?_
    first|with_reducible refine ks [] (And.intro @zC_ @lnz) ?_|refine kp (And.intro @zC_ @lnz) ?_
    refine Cw.loopG (G:=Mk2) [45,46,47,9,49,50,51,48,52,53,10,11,54,55,56,2,3,57,58,59,60,61,62,63,64,65,66,67,68,69,7,70,71,72,44] (fun g=> [(7,g.vp),(44,vi g.q.length)]) (fun g=>(bm,mgO v0 g.v1 (.slice none 0 0)):: (D1++ (g.DP++ (g.D2++ (g.D3++g.DG))))) (fun g=>g.q.length≤Z.length∧jW_ Z g.q.length=some g.q∧g.ps.length=g.q.length∧New w1.heap.size g.DP∧New w1.heap.size g.D2∧New w1.heap.size g.D3∧New w1.heap.size g.DG∧Gr g.DP 41 1 g.vp g.ps.length (g.ps.map ptC).flatten∧Gr g.D2 9 1 g.v1 g.q.length ((g.q.map Prod.fst).map VS_).flatten∧(∀k,k<g.q.length→IxD g.D3 (g.ps.getD k 0) (g.q.getD k ([],[])).1 (g.q.getD k ([],[])).2)) (fun g=>Z.length - g.q.length) ⟨[],[], .slice none 0 0, .slice none 0 0,[],[],[],DG⟩ rfl rfl ?_ ?_
    ·exact⟨Nat.zero_le _,rfl,rfl,trivial,trivial,trivial,hNG,Gr.nl,Gr.nl,fun k hk=>absurd hk (Nat.not_lt_zero _)⟩
    intro g j hg
    refine kv ?_
    clear hmg hNm hNG
    obtain⟨q,ps,vp',v1,DP,D2,D3,DG2⟩:=g
    simp only at hg ⊢
    obtain⟨hq,hop,hpl,hNP,hN2,hN3,hNG,hGP,hG2,hIx⟩:=hg
    have hNall:New w1.heap.size (D1++ (DP++ (D2++ (D3++DG2)))):=hN1.app (hNP.app (hN2.app (hN3.app hNG)))
    by_cases hlt:q.length<Z.length
    ·have d2:decide ((q.length:Int)< (Z.length:Int))=true:=decide_eq_true (by omega)
     have ixz:=hzr.idx true q.length hlt
     have ldz:=hzr.load jj_ (by omega) hlt
     have hzb:=hzr.lt (by omega)
     have rdz:zy_ w1 ((bm,mgO v0 v1 (.slice none 0 0)):: (D1++ (DP++ (D2++ (D3++DG2))))) rb=some (.cells arr E fz):=by
      rw[zA_ _ _ _ _ _ (by omega),qx_ (hNall.not hzb)];exact hzr.has (by omega)
     have hsb:=hZs (Z.getD q.length sh0) (by rw[List.getD_eq_getElem?_getD,List.getElem?_eq_getElem hlt];exact List.getElem_mem _)
     have hos:jW_ Z (q.length+1)=match some q,j3_ (Z.getD q.length sh0).bytes with|some q,some p=>some (q++ [p]) |_,_=>none:=by rw[←hop];rfl
     generalize Z.getD q.length sh0=r at*
     first|with_reducible refine ks [21] (And.intro @zC_ (And.intro @d2 (And.intro @ixz (And.intro @rdz (@ldz))))) ?_|refine kp (And.intro @zC_ (And.intro @d2 (And.intro @ixz (And.intro @rdz (@ldz))))) ?_
     refine Ow.alloc rfl rfl zrSh fun b9 hb9 hw9=> ?_
     simp only[zg_,List.nil_append,List.cons_append]
     have h9m:bm<b9:=zz_ hb9 (by simp[keys])
     refine Ow.permL (M:=(b9, .cells (shC sh0).toArray 26 (0,0)):: ((bm,mgO v0 v1 (.slice none 0 0)):: (D1++ (DP++ (D2++ (D3++DG2)))))) (by classical exact List.perm_iff_count.2 fun a=>by simp only[List.count_append,List.count_cons,List.count_nil]<;>omega) ?_
     refine ko @zC_ ?_
     first|with_reducible refine ks [] @zC_ ?_|refine kp @zC_ ?_
     refine Ow.callC rfl rfl Tryd.call10 (fun w' hw'=>wx_ r.bytes w' (hC1.newP hw' ⟨hw9,hwm,hNall⟩) (by omega)) (fun B1 vq Dq hAq hBq hNq hSq=> ?_)
     unfold Kr_ at hSq
     cases hoi:j3_ r.bytes with
     |none=>
      rw[hoi] at hSq hos
      subst hSq
      have e2: ((2:Int) !=0)=true:=rfl
      refine ko @zC_ ?_
      first|with_reducible refine ks [] (And.intro @zC_ @e2) ?_|refine kp (And.intro @zC_ @e2) ?_
      have hfin:jW_ Z Z.length=none:=JS_ hos (by omega)
      refine⟨_,(ke @zC_),(show New w1.heap.size (((b9, .cells (shC r).toArray 26 (0,0)):: ((bm,mgO v0 v1 (.slice none 0 0)):: (D1++ (DP++ (D2++ (D3++DG2))))))++Dq) from New.app ⟨hw9,hwm,hNall⟩ (hNq.mono hBq)), ?_⟩
      skip
      refine hpost [] _ (fun h q1 hq1=>by rw[hfin] at hq1;cases hq1) ?_
      unfold Jz_
      rw[if_neg (by omega),if_neg (by rw[hrt];simp),hfin];rfl
     |some p=>
      rw[hoi] at hSq hos
      obtain⟨bi,rfl,hID⟩:=hSq
      obtain⟨psm,prw⟩:=p
      simp only at hID
      have e0: ((0:Int) !=0)=false:=rfl
      have hNq':=hNq.mono hBq
      refine ko @zC_ ?_
      first|with_reducible refine ks [] (And.intro @zC_ @e0) ?_|refine kp (And.intro @zC_ @e0) ?_
      refine Cw.permL (M:=(bm,mgO v0 v1 (.slice none 0 0)):: (D1++ (DP++ (D2++ (Dq++ (D3++ ((b9, .cells (shC r).toArray 26 (0,0))::DG2))))))) (by classical exact List.perm_iff_count.2 fun a=>by simp only[List.count_append,List.count_cons,List.count_nil]<;>omega) ?_
      refine Cw.regionS [bm] [0,1,2,5,6,7,9,8,3,4,10,11,12,13,14,15,16] [16] (by kernel_rfl) (by kernel_rfl) (by kernel_rfl) ?_
      simp only[zj_, ↓zf_, ↓zb_, ↓zp_, ↓zq_,zc_]
      refine kq @zC_ ?_
      refine Ow.soft rfl rfl rfl ?_
      refine Ow.buildSlice (e:=41) #[vp bi 0] rfl rfl (by kernel_rfl) fun ba hba hwa=> ?_
      with_reducible refine Ow.nil ?_
      refine⟨(fun x hx=>by rw[List.mem_singleton] at hx;subst hx;simp(disch:=omega) only[List.cons_append,List.nil_append,zR_,zA_]), ?_⟩
      refine kq @zC_ ?_
      refine Ow.soft rfl rfl rfl ?_
      refine Ow.permL (M:=DP++ ((bm,mgO v0 v1 (.slice none 0 0)):: (D1++ (D2++ (Dq++ (D3++ ((b9, .cells (shC r).toArray 26 (0,0)):: (DG2++ [(ba, .cells #[vp bi 0] 41 (0,0))])))))))) (by classical exact List.perm_iff_count.2 fun a=>by simp only[List.count_append,List.count_cons,List.count_nil]<;>omega) ?_
      refine Ow.appendXG (e:=41) (k:=1) (new:=ptC bi) (X:=DP) vp' rfl rfl rfl rfl Tryd.underlying60 (id (by kernel_rfl):qr_ Tryd.prog 41=some (false,1)) (by kernel_rfl) (id (by kernel_rfl):qd_ Tryd.prog 41=some (.pointer none)) rfl Tryd.underlying60 (by intro k h;cases h) hGP (fun w' hw'=>AppX.one1 (hw'.has ba (.cells #[vp bi 0] 41 (0,0)) (by simp)) rfl rfl) (by omega) (fun B4 v4 D4 hA4 hB4 hG4 hk41 hk42 hlk4=> ?_)
      have hN4:New w1.heap.size D4:=New.of_le fun q hq=>by
       rcases hk42 q hq with h|h
       ·exact hNP.le q h
       ·omega
      refine Ow.permL (M:=(bm,mgO v0 v1 (.slice none 0 0)):: (D1++ (D4++ (D2++ (Dq++ (D3++ ((b9, .cells (shC r).toArray 26 (0,0)):: (DG2++ [(ba, .cells #[vp bi 0] 41 (0,0))])))))))) (by classical exact List.perm_iff_count.2 fun a=>by simp only[List.count_append,List.count_cons,List.count_nil]<;>omega) ?_
      with_reducible refine Ow.nil ?_
      refine⟨(fun x hx=>by rw[List.mem_singleton] at hx;subst hx;simp(disch:=omega) only[List.cons_append,List.nil_append,zR_,zA_]), ?_⟩
      refine kq @zC_ ?_
      refine Ow.soft rfl rfl rfl ?_
      refine Ow.callFV rfl Tryd.call19 (fun w' hw'=>ado_ bi psm prw w' ((hID.mono (D':=(bm,mgO v0 v1 (.slice none 0 0)):: (D1++ (D4++ (D2++ (Dq++ (D3++ ((b9, .cells (shC r).toArray 26 (0,0)):: (DG2++ [(ba, .cells #[vp bi 0] 41 (0,0))])))))))) fun p hp=>by simp[hp]).inW hw')) ?_
      with_reducible refine Ow.nil ?_
      refine⟨by intro b hb;simp only[List.mem_cons,List.not_mem_nil,or_false] at hb;(try subst hb);rfl, ?_⟩
      refine kq @zC_ ?_
      refine Ow.soft rfl rfl rfl ?_
      refine Ow.buildSlice (e:=9) #[vs psm] rfl rfl (by kernel_rfl) fun bc hbc hwc=> ?_
      with_reducible refine Ow.nil ?_
      refine⟨(fun x hx=>by rw[List.mem_singleton] at hx;subst hx;simp(disch:=omega) only[List.cons_append,List.nil_append,zR_,zA_]), ?_⟩
      refine kq @zC_ ?_
      refine Ow.soft rfl rfl rfl ?_
      refine Ow.permL (M:=D2++ ((bm,mgO v0 v1 (.slice none 0 0)):: (D1++ (D4++ (Dq++ (D3++ ((b9, .cells (shC r).toArray 26 (0,0)):: (DG2++ [(ba, .cells #[vp bi 0] 41 (0,0)),(bc, .cells #[vs psm] 9 (0,0))])))))))) (by classical exact List.perm_iff_count.2 fun a=>by simp only[List.count_append,List.count_cons,List.count_nil]<;>omega) ?_
      refine Ow.appendXG (e:=9) (k:=1) (new:=VS_ psm) (X:=D2) v1 rfl rfl rfl rfl Tryd.underlying57 (id (by kernel_rfl):qr_ Tryd.prog 9=some (false,1)) (by kernel_rfl) (id (by kernel_rfl):qd_ Tryd.prog 9=some (vs [])) rfl Tryd.underlying57 (by intro k h;cases h) hG2 (fun w' hw'=>AppX.one1 (hw'.has bc (.cells #[vs psm] 9 (0,0)) (by simp)) rfl rfl) (by omega) (fun B5 v5 D5 hA5 hB5 hG5 hk51 hk52 hlk5=> ?_)
      have hN5:New w1.heap.size D5:=New.of_le fun q hq=>by
       rcases hk52 q hq with h|h
       ·exact hN2.le q h
       ·omega
      refine Ow.permL (M:=(bm,mgO v0 v1 (.slice none 0 0)):: (D1++ (D4++ (D5++ ((Dq++D3)++ ((b9, .cells (shC r).toArray 26 (0,0)):: (DG2++ [(ba, .cells #[vp bi 0] 41 (0,0)),(bc, .cells #[vs psm] 9 (0,0))]))))))) (by classical exact List.perm_iff_count.2 fun a=>by simp only[List.count_append,List.count_cons,List.count_nil]<;>omega) ?_
      with_reducible refine Ow.nil ?_
      refine⟨(fun x hx=>by rw[List.mem_singleton] at hx;subst hx;simp(disch:=omega) only[List.cons_append,List.nil_append,zR_,zA_]), ?_⟩
      have st4: ∀a,zl_ (some (a,1)) (some (mgO v0 v1 (.slice none 0 0))) 1 v5=some (mgO v0 v5 (.slice none 0 0)):=fun a=>VR_ v0 v1 _ v5 a hG5.cell
      refine kq @zC_ ?_
      refine Ow.store rfl rfl rfl (ke (And.intro @zC_ @st4)) ?_
      refine ko @zC_ ?_
      first|with_reducible refine ks [] @zC_ ?_|refine kp @zC_ ?_
      have hlt2: (q++ [(psm,prw)]).length=q.length+1:=by simp
      have hqs:jW_ Z (q++ [(psm,prw)]).length=some (q++ [(psm,prw)]):=by rw[List.length_append];exact hos
      refine Again.mk ⟨q++ [(psm,prw)],ps++ [bi],v4,v5,D4,D5,Dq++D3,((b9, .cells (shC r).toArray 26 (0,0)):: (DG2++ [(ba, .cells #[vp bi 0] 41 (0,0)),(bc, .cells #[vs psm] 9 (0,0))]))⟩ (by show Z.length - (q++ [(psm,prw)]).length<Z.length - q.length;rw[List.length_append,List.length_singleton];omega) ⟨by show(q++ [(psm,prw)]).length≤Z.length;rw[List.length_append,List.length_singleton];omega,hqs,by show(ps++ [bi]).length=(q++ [(psm,prw)]).length;rw[List.length_append,List.length_append,hpl];rfl,hN4,hN5,hNq'.app hN3,⟨hw9,hNG.app ⟨hwa,hwc,trivial⟩⟩, ?_, ?_, ?_⟩ rfl (by simp only[hlt2];rfl)
      ·show Gr D4 41 1 v4 (ps++ [bi]).length ((ps++ [bi]).map ptC).flatten
       rw[List.length_append,List.length_singleton]
       simpa only[List.map_append,List.map_cons,List.map_nil,List.flatten_append,List.flatten_cons,List.flatten_nil,List.append_nil] using hG4
      ·show Gr D5 9 1 v5 (q++ [(psm,prw)]).length (((q++ [(psm,prw)]).map Prod.fst).map VS_).flatten
       rw[hlt2]
       simpa only[List.map_append,List.map_cons,List.map_nil,List.flatten_append,List.flatten_cons,List.flatten_nil,List.append_nil] using hG5
      ·intro k hk
       show IxD (Dq++D3) ((ps++ [bi]).getD k 0) ((q++ [(psm,prw)]).getD k ([],[])).1 ((q++ [(psm,prw)]).getD k ([],[])).2
       have hk':k<q.length+1:=by rw[←hlt2];exact hk
       by_cases he:k<q.length
       ·rw[qq_ _ _ he,qq_ _ _ (by omega)]
        exact(hIx k he).mono fun p hp=>List.mem_append_right _ hp
       ·obtain rfl:k=q.length:=by omega
        rw[Qv_ _ _ rfl,Qv_ _ _ hpl]
        exact hID.mono fun p hp=>List.mem_append_left _ hp
    ·have hql:q.length=Z.length:=by omega
     have d2:decide ((q.length:Int)< (Z.length:Int))=false:=decide_eq_false (by omega)
     have hop':jW_ Z Z.length=some q:=by rw[←hql];exact hop
     have hall:=Qd_ hop
     have hNm:New w1.heap.size ((bm,mgO v0 v1 (.slice none 0 0)):: (D1++ (DP++ (D2++ (D3++DG2))))):=⟨hwm,hNall⟩
     have hpk: ∀w',Hp w1 ((bm,mgO v0 v1 (.slice none 0 0)):: (D1++ (DP++ (D2++ (D3++DG2))))) w'→PkIn w' vp' q:=fun w' hw'=>by
      refine⟨ps,hpl,(Gr.i hGP fun p hp=>by simp[hp]).slV hw' rfl rfl (fun _=>rfl),fun k hk=> ?_⟩
      exact((hIx k hk).mono fun p hp=>by simp[hp]).inW hw'
     first|with_reducible refine ks [23] (And.intro @zC_ @d2) ?_|refine kp (And.intro @zC_ @d2) ?_
     refine Ow.callC rfl rfl Tryd.call20 (fun w' hw'=>W9_ vp' q w' (hpk w' hw') (by omega) (fun p hp=>by have:=hall p hp;omega)) (fun B1 v9 D9 hA9 hB9 hN9 hS9=> ?_)
     obtain⟨L,hL,hGL⟩:=hS9
     have hN9':=hN9.mono hB9
     have st4: ∀a,zl_ (some (a,1)) (some (mgO v0 v1 (.slice none 0 0))) 2 v9=some (mgO v0 v1 v9):=fun a=>Ve_ v0 v1 _ v9 a (by obtain⟨X,-,hX⟩:=hGL;exact hX.cell)
     rw[List.cons_append]
     refine ko (And.intro @zC_ @st4) ?_
     have hNe:New w1.heap.size ((bm,mgO v0 v1 v9):: ((D1++ (DP++ (D2++ (D3++DG2))))++D9)):=⟨hwm,hNall.app hN9'⟩
     have hmg:MgD ((bm,mgO v0 v1 v9):: ((D1++ (DP++ (D2++ (D3++DG2))))++D9)) bm (Z.map ShL.name) (q.map Prod.fst) L:=⟨v0,v1,v9,List.mem_cons_self,by rw[List.length_map];exact Gr.i hG1 fun p hp=>by simp[hp],by rw[List.length_map];exact Gr.i hG2 fun p hp=>by simp[hp],hGL.mono fun p hp=>by simp[hp]⟩
     have hLl:L.length<1000000:=by
      have h1:=hL.1.length_eq
      have h2:=Qo_ q (fun p hp=>by have:=hall p hp;omega) q.length (Nat.le_refl _)
      rw[List.length_map] at h1
      omega
     first|with_reducible refine ks [] @zC_ ?_|refine kp @zC_ ?_
     refine Ow.callFV rfl Tryd.call18 (fun w' hw'=>vH_ bm (Z.map ShL.name) (q.map Prod.fst) L w' (hmg.inW hw') (by rw[List.length_map];omega) hLl hshort) ?_
     cases hrt2:qn_ (Z.map ShL.name) L with
     |false=>
      refine ko @zC_ ?_
      first|with_reducible refine ks [] @zC_ ?_|refine kp @zC_ ?_
      refine⟨_,(ke @zC_),hNe, ?_⟩
      skip
      refine hpost L _ (fun _ q1 hq1=>by rw[hop'] at hq1;cases hq1;exact hL) ?_
      unfold Jz_
      rw[if_neg (by omega),if_neg (by rw[hrt];simp),hop']
      simp only
      rw[if_pos hrt2];rfl
     |true=>
      have hr2:=hrt2
      unfold qn_ at hr2
      simp only[Bool.and_eq_true,Bool.not_eq_true',decide_eq_false_iff_not] at hr2
      have hns:Most 1000 (Z.map ShL.name):=fun s hs'=>by
       have h3:=List.all_eq_true.1 hr2.2.2 s hs'
       unfold xS_ at h3
       simp only[Bool.and_eq_true,decide_eq_true_eq] at h3
       omega
      have hss:Most 1000 (q.map Prod.fst):=fun s hs'=>by
       obtain⟨p,hp,rfl⟩:=List.mem_map.1 hs'
       have:=hall p hp
       omega
      refine ko @zC_ ?_
      first|with_reducible refine ks [] @zC_ ?_|refine kp @zC_ ?_
      refine Ow.callFV rfl Tryd.call21 (fun w' hw'=>ZT_ bm (Z.map ShL.name) (q.map Prod.fst) L w' (hC1.newP hw' hNe) (hmg.inW hw') (by rw[List.length_map,List.length_map];omega) (by rw[List.length_map];omega) (by omega) hns hss) ?_
      refine ko @zC_ ?_
      first|with_reducible refine ks [] @zC_ ?_|refine kp @zC_ ?_
      refine⟨_,(ke @zC_),hNe, ?_⟩
      skip
      refine hpost L _ (fun _ q1 hq1=>by rw[hop'] at hq1;cases hq1;exact hL) ?_
      unfold Jz_
      rw[if_neg (by omega),if_neg (by rw[hrt];simp),hop']
      simp only
      rw[if_neg (by rw[hrt2];simp)];rfl
end Go.Proofs
end
section
open Go Go.Proofs Go.Sx Go.StP Go.Flo
namespace Go.Proofs
set_option maxRecDepth 10000
set_option maxHeartbeats 400000
set_option linter.unusedSimpArgs false
theorem aib_ (A x:List UInt8) {n:Nat} {r:LnL} (hn:n≤40) (h:jJ_ n r=true):lnR (A++ (Zp_ r++x)) (A.length,0)=(r,A.length+ (Zp_ r).length,0):=by
 obtain⟨i,sh,pl,sp⟩:=r
 unfold jJ_ numM at h
 simp only[Bool.and_eq_true,Bool.not_eq_true',decide_eq_false_iff_not,decide_eq_true_eq] at h
 obtain⟨⟨⟨h1,h2⟩,h3⟩,h4⟩:=h
 obtain⟨s,rfl⟩: ∃s:Nat,sh=(s:Int):=⟨sh.toNat,by omega⟩
 obtain⟨p,rfl⟩: ∃s:Nat,pl=(s:Int):=⟨pl.toNat,by omega⟩
 obtain⟨q,rfl⟩: ∃s:Nat,sp=(s:Int):=⟨sp.toNat,by omega⟩
 have e:Zp_ ⟨i,(s:Int),(p:Int),(q:Int)⟩=i.l++ (z9_ s++ (z9_ p++z9_ q)):=by
  unfold Zp_;rw[qA_ (show s≤1099511627775 by omega),qA_ (show p≤1099511627775 by omega),qA_ (show q≤1099511627775 by omega)]
 have e2:A++ (Zp_ ⟨i,(s:Int),(p:Int),(q:Int)⟩++x)=A++ (i.l++ (z9_ s++ (z9_ p++ (z9_ q++x)))):=by rw[e];simp only[List.append_assoc]
 have a1:=abe_ A (z9_ s++ (z9_ p++ (z9_ q++x))) i
 have a2:=q3_ (A++i.l) (z9_ p++ (z9_ q++x)) s 40 (by omega) (by omega)
 have a3:=q3_ (A++ (i.l++z9_ s)) (z9_ q++x) p 1099511627775 (by omega) (by omega)
 have a4:=q3_ (A++ (i.l++ (z9_ s++z9_ p))) x q 1099511627775 (by omega) (by omega)
 simp only[List.append_assoc,List.length_append,i.h] at a2 a3 a4
 unfold lnR QX_
 rw[e2]
 simp only
 rw[a1]
 simp only
 rw[a2]
 simp only
 rw[Nat.add_assoc,a3]
 simp only
 rw[show A.length+ (32+ (z9_ s).length)+ (z9_ p).length=A.length+ (32+ ((z9_ s).length+ (z9_ p).length)) by omega,a4,aeN_,e]
 simp only[List.length_append,i.h,Nat.add_assoc]
theorem abz_ (x:List UInt8) {n:Nat} (hn:n≤40): ∀ (l:List LnL) (A:List UInt8),(∀r,r∈l→jJ_ n r=true)→VV_ (A++ (qF_ l++x)) l.length (A.length,0)=(l,A.length+ (qF_ l).length,0)
 | [],A,_=>by simp[VV_,qF_]
 |r::l,A,h=>by
  have h1:=aib_ A (qF_ l++x) hn (h r List.mem_cons_self)
  have h2:=abz_ x hn l (A++Zp_ r) fun y hy=>h y (List.mem_cons_of_mem _ hy)
  have e:qF_ (r::l)=Zp_ r++qF_ l:=by simp[qF_]
  simp only[List.append_assoc,List.length_append] at h2
  rw[List.length_cons,e,List.append_assoc]
  unfold VV_
  rw[h1]
  simp only
  rw[h2,List.length_append,Nat.add_assoc]
theorem Kp_ (n u:List UInt8) (ns us:List (List UInt8)): ∀k,ku_ (n::ns) (u::us) (k+1)=j7_ n++ (u++ku_ ns us k)
 |0=>by simp[ku_]
 |k+1=>by
  have h:=Kp_ n u ns us k
  show ku_ (n::ns) (u::us) (k+1)++ (j7_ ((n::ns).getD (k+1) [])++ (u::us).getD (k+1) [])=_
  rw[h,List.getD_cons_succ,List.getD_cons_succ]
  simp only[ku_,List.append_assoc]
theorem aaT_ (x:List UInt8): ∀ (ns us:List (List UInt8)) (A:List UInt8),us.length=ns.length→Most 40 ns→(∀u,u∈us→u.length=4)→ZU_ (A++ (ku_ ns us ns.length++x)) ns.length (A.length,0)=(ns,us,A.length+ (ku_ ns us ns.length).length,0)
 | [],[],A,_,_,_=>by simp[ZU_,ku_]
 | [],_::_,_,h,_,_=>by cases h
 |_::_,[],_,h,_,_=>by cases h
 |n::ns,u::us,A,h,hn,hu=>by
  have hl:=hn n List.mem_cons_self
  have h4:=hu u List.mem_cons_self
  have a1:=acT_ A n (u++ (ku_ ns us ns.length++x)) 40 (by omega) (by omega)
  have a2:=kP_ (A++j7_ n) u (ku_ ns us ns.length++x)
  have a3:=aaT_ x ns us (A++ (j7_ n++u)) (by simpa using h) (fun y hy=>hn y (List.mem_cons_of_mem _ hy)) (fun y hy=>hu y (List.mem_cons_of_mem _ hy))
  rw[h4] at a2
  simp only[List.append_assoc,List.length_append,h4] at a2 a3
  rw[List.length_cons,Kp_]
  simp only[List.append_assoc]
  have e:nmR (A++ (j7_ n++ (u++ (ku_ ns us ns.length++x)))) (A.length,0)=(n,u,A.length+ (j7_ n).length+4,0):=by
   unfold nmR
   simp only
   rw[a1]
   simp only
   rw[show(4:Int)=((4:Nat):Int) from rfl,a2]
  unfold ZU_
  rw[e]
  simp only
  rw[Nat.add_assoc,a3]
  simp only[List.length_append,h4,Nat.add_assoc]
theorem QI_ {names:List (List UInt8)} {lines:List LnL} (h:qn_ names lines=true):names.length≤40∧lines.length≤8000∧(∀r,r∈lines→jJ_ names.length r=true)∧Most 40 names:=by
 unfold qn_ at h
 simp only[Bool.and_eq_true,Bool.not_eq_true',decide_eq_false_iff_not] at h
 refine⟨by omega,by omega,fun r hr=>List.all_eq_true.1 h.2.1 r hr,fun s hs=> ?_⟩
 have h3:=List.all_eq_true.1 h.2.2 s hs
 unfold xS_ at h3
 simp only[Bool.and_eq_true,decide_eq_true_eq] at h3
 exact h3.2.2
theorem ad4_ {names sums:List (List UInt8)} {lines:List LnL} (h:qn_ names lines=true) (hs:sums.length=names.length) (hu: ∀u,u∈sums→u.length=4):vD_ (kY_ names sums lines) (4,0)=(names,sums,lines,(kY_ names sums lines).length,0):=by
 obtain⟨h1,h2,h3,h4⟩:=QI_ h
 have e:kY_ names sums lines=magM++ (z9_ names.length++ (ku_ names sums names.length++ (z9_ lines.length++qF_ lines))):=by
  unfold kY_;rw[qA_ (show names.length≤1099511627775 by omega),qA_ (show lines.length≤1099511627775 by omega)];simp only[List.append_assoc]
 have a1:=q3_ magM (ku_ names sums names.length++ (z9_ lines.length++qF_ lines)) names.length 40 (by omega) (by omega)
 have a2:=aaT_ (z9_ lines.length++qF_ lines) names sums (magM++z9_ names.length) hs h4 hu
 have a3:=q3_ (magM++ (z9_ names.length++ku_ names sums names.length)) (qF_ lines) lines.length 8000 (by omega) (by omega)
 have a4:=abz_ [] h1 lines (magM++ (z9_ names.length++ (ku_ names sums names.length++z9_ lines.length))) h3
 simp only[List.append_assoc,List.length_append,List.append_nil,show magM.length=4 from rfl] at a1 a2 a3 a4
 unfold vD_
 have e1:J8_ (kY_ names sums lines) (4,0)=(names,sums,4+ (z9_ names.length).length+ (ku_ names sums names.length).length,0):=by
  unfold J8_
  simp only
  rw[e,a1]
  simp only[Int.toNat_natCast]
  rw[a2]
 have e2:abG_ (kY_ names sums lines) (4+ (z9_ names.length).length+ (ku_ names sums names.length).length,0)=(lines,(kY_ names sums lines).length,0):=by
  unfold abG_
  simp only
  rw[e,show 4+ (z9_ names.length).length+ (ku_ names sums names.length).length=4+ ((z9_ names.length).length+ (ku_ names sums names.length).length) by omega,a3]
  simp only[Int.toNat_natCast]
  rw[show 4+ ((z9_ names.length).length+ (ku_ names sums names.length).length)+ (z9_ lines.length).length=4+ ((z9_ names.length).length+ ((ku_ names sums names.length).length+ (z9_ lines.length).length)) by omega,a4]
  simp only[List.length_append,show magM.length=4 from rfl,Nat.add_assoc]
 rw[e1]
 simp only
 rw[e2]
theorem QM_ {names sums:List (List UInt8)} {lines:List LnL} (h:qn_ names lines=true) (hs:sums.length=names.length) (hu: ∀u,u∈sums→u.length=4):Wp_ (qh_ (kY_ names sums lines))=some (names,sums,lines):=by
 have e:qz_ (kY_ names sums lines) 0 0 4=(magM,4,0):=by
  have:=kP_ [] magM (z9_ (zP_ (names.length:Int))++ (ku_ names sums names.length++ (z9_ (zP_ (lines.length:Int))++qF_ lines)))
  unfold kY_
  simp only[List.append_assoc]
  rw[List.nil_append,List.length_nil,Nat.zero_add] at this
  exact this
 refine(aa7_ (b:=qh_ (kY_ names sums lines)) (s:=kY_ names sums lines) (by rw[w9_]) (by rw[e];exact ad4_ h hs hu)).1 ⟨afJ_ _,h,rfl⟩
end Go.Proofs
end
section
open Go Go.Proofs Go.Sx Go.StP Go.Flo
namespace Go.Proofs
set_option maxRecDepth 10000
set_option maxHeartbeats 1000000
set_option linter.unusedSimpArgs false
def id1:IdL:=⟨1::List.replicate 31 0,by simp⟩
theorem Kj_:jb_ (QW_ Tryd.prog 36) (qd_ Tryd.prog 36) [(0,v8 1)]=some (.agg (a8 id1.l)):=id (by kernel_rfl)
def am4:List UInt8:= [97,98,99,100]
def amR:RwL:=⟨id1,2,3⟩
def amN:List UInt8:= [112]
def amL:LnL:=⟨id1,0,2,3⟩
theorem abA_:jn_ am4 [amR]=true:=by rfl
theorem aek_ {r:RwL} {Z:List RwL} (h:rws_SortOf [r] Z):Z= [r]:=h.eq ⟨rfl,List.pairwise_singleton _ _,StP.St.refl _ _⟩
theorem adf_ {r:ShL} {Z:List ShL} (h:shs_SortOf [r] Z):Z= [r]:=h.eq ⟨rfl,List.pairwise_singleton _ _,StP.St.refl _ _⟩
theorem J2_:qn_ [amN] []=true:=by rfl
theorem Qi_:qn_ [amN] [amL]=true:=by rfl
theorem aiq_:jp_ [(am4,[amR])] 1= [(id1,amL)]:=by rfl
theorem aik_ {w:World} {b:Nat} {p:RwL} (h:w.heap[b]? =some (.cells (rwC p).toArray 45 (0,0))):RwSl w (vsl b 0 1 1) [p]:=
 SlV.sl (l:= [p]) h (fun k hk j hj=>by
  obtain rfl:k=0:=by simpa using hk
  rw[Nat.zero_mul,Nat.zero_add,List.getElem?_toArray];rfl) (Nat.le_refl 1) (by rw[List.size_toArray,z1_];exact Nat.le_refl _)
theorem adh_ {w:World} {b:Nat} {p:ShL} (h:w.heap[b]? =some (.cells (shC p).toArray 26 (0,0))):ShSl w (vsl b 0 1 1) [p]:=
 SlV.sl (l:= [p]) h (fun k hk j hj=>by
  obtain rfl:k=0:=by simpa using hk
  rw[Nat.zero_mul,Nat.zero_add,List.getElem?_toArray];rfl) (Nat.le_refl 1) (by rw[List.size_toArray,jj_];exact Nat.le_refl _)
theorem ai8_ {s:List UInt8} (hs:j3_ s=some (am4,[amR])) {v:Value} (h:wi_ [⟨amN,s⟩] v):v= .tuple #[vs (qh_ (kY_ [amN] [am4] [amL])),vi 0]:=by
 unfold wi_ at h
 rw[if_neg (by simp)] at h
 obtain⟨Z,L,hZ,hL,rfl⟩:=h
 obtain rfl:=adf_ hZ
 have ho:jW_ [⟨amN,s⟩] [(⟨amN,s⟩:ShL)].length=some [(am4,[amR])]:=by
  show(match some [],j3_ s with|some q,some p=>some (q++ [p]) |_,_=>none)=_
  rw[hs];rfl
 have h1:=hL J2_ _ ho
 rw[show [(am4,[amR])].length=1 from rfl,aiq_] at h1
 have h2:L= [amL]:=List.perm_singleton.1 h1.1
 subst h2
 unfold Jz_
 rw[if_neg (by simp),if_neg (by rw[show [(⟨amN,s⟩:ShL)].map ShL.name= [amN] from rfl,J2_];simp),ho]
 simp only[List.map_cons,List.map_nil]
 rw[if_neg (by rw[Qi_];simp)]
theorem ah7_:Vw_ [amN] [amL] id1= .tuple #[vs amN, .agg (lnC amL).toArray, .bool true]:=by
 unfold Vw_
 have:qO_ [amL] id1=(amL,true):=by
  unfold qO_
  rw[List.find?_cons,show(amL.id.l==id1.l)=true from beq_self_eq_true _]
 rw[this];rfl
theorem ajf_:Wp_ (qh_ (kY_ [amN] [am4] [amL]))=some ([amN],[am4],[amL]):=QM_ Qi_ rfl (by intro u hu;rw[List.mem_singleton] at hu;subst hu;rfl)
set_option linter.defProp false
def xn_:=And.intro (And.intro (And.intro (@ze_) (@zd_)) (And.intro (@Sx.tup2_0) (And.intro (@Sx.tup2_1) (@Sx.tup3_0)))) (And.intro (And.intro (@Sx.tup3_1) (@Sx.tup3_2)) (And.intro (@q7_) (And.intro (@v0_) (@xp_))))
theorem xr_ (w:World) (hC:GlobC w):Rets Tryd.prog 5 #[] w (fun v D=>v= .bool true∧D= []):=by
 have hoi:=Ww_ abA_
 have hwi:v1_ am4 [amR]=(qh_ (wY_ am4 [amR]),0):=by unfold v1_;rw[if_pos abA_]
 have hil: (qh_ (wY_ am4 [amR])).length<1000000:=by
  have h1:=Z8_ [amR] 1 (by decide)
  have h2:=zm_ (([amR].length:Nat):Int)
  have h3:=ZP_ (JJ_ (xI_ [amR]))
  rw[kx_,k7_] at h3
  rw[List.take_of_length_le (by decide)] at h1
  rw[wf_]
  unfold wY_ ks_
  rw[List.length_append,List.length_append,List.length_append,List.length_append,show am4.length=4 from rfl,show magI.length=4 from rfl]
  omega
 have hml: (qh_ (kY_ [amN] [am4] [amL])).length<1000000:=by
  have h1:=Zv_ (names:= [amN]) (sums:= [am4]) (fun s hs=>by rw[List.mem_singleton] at hs;subst hs;decide) (fun s hs=>by rw[List.mem_singleton] at hs;subst hs;decide) 1
  have h2:=vm_ [amL] 1 (by decide)
  have h3:=zm_ (([amN].length:Nat):Int)
  have h4:=zm_ (([amL].length:Nat):Int)
  rw[List.take_of_length_le (by decide)] at h2
  rw[wf_]
  unfold kY_
  rw[List.length_append,List.length_append,List.length_append,List.length_append,show magM.length=4 from rfl]
  rw[show [amN].length=1 from rfl] at*
  omega
 refine Rets.enterV Tryd.func5 rfl (rs:= [.tmp 0]) Tryd.results5 Tryd.ntmps5 ?_
 refine kf ?_
 first|with_reducible refine ks [] @xn_ ?_|refine kp @xn_ ?_
 refine Ow.build (.agg (a8 id1.l)) rfl Kj_ ?_
 refine ko @xn_ ?_
 refine Ow.build (.agg (rwC amR).toArray) rfl (agl_ amR) ?_
 refine ko @xn_ ?_
 refine Ow.buildSlice (e:=45) (rwC amR).toArray rfl rfl (by kernel_rfl) fun b10 hb10 hw10=> ?_
 refine ko @xn_ ?_
 have hN10:New w.heap.size [(b10,Obj.cells (rwC amR).toArray 45 (0,0))]:=⟨hw10,trivial⟩
 refine Ow.callFV rfl Tryd.call12 (fun w' hw'=>(QT_ am4 (vsl b10 0 1 1) [amR] w' (hC.newP hw' hN10) (aik_ (hw'.has b10 _ List.mem_cons_self)) (by decide) (by decide)).mono (S':=fun v D=>v= .tuple #[vs (qh_ (wY_ am4 [amR])),vi 0]∧D= []) (fun v D h=>by obtain⟨⟨Z,hZ,rfl⟩,rfl⟩:=h;obtain rfl:=aek_ hZ;rw[hwi];exact⟨rfl,rfl⟩)) ?_
 generalize qh_ (wY_ am4 [amR])=s at*
 have hmk:=fun v (h:wi_ [⟨amN,s⟩] v)=>ai8_ hoi h
 have hop:=ajf_
 generalize qh_ (kY_ [amN] [am4] [amL])=b at*
 refine ko @xn_ ?_
 refine Ow.build (.agg (shC ⟨amN,s⟩).toArray) rfl (ag0_ ⟨amN,s⟩) ?_
 refine ko @xn_ ?_
 refine Ow.buildSlice (e:=26) (shC ⟨amN,s⟩).toArray rfl rfl (by kernel_rfl) fun b20 hb20 hw20=> ?_
 refine Ow.permL (M:= [(b20, .cells (shC ⟨amN,s⟩).toArray 26 (0,0)),(b10, .cells (rwC amR).toArray 45 (0,0))]) (by classical exact List.perm_iff_count.2 fun a=>by simp only[List.count_append,List.count_cons,List.count_nil]<;>omega) ?_
 refine ko @xn_ ?_
 have hN20:New w.heap.size [(b20,Obj.cells (shC ⟨amN,s⟩).toArray 26 (0,0)),(b10,Obj.cells (rwC amR).toArray 45 (0,0))]:=⟨hw20,hw10,trivial⟩
 refine Ow.callFV rfl Tryd.call7 (fun w' hw'=>(JT_ (vsl b20 0 1 1) [⟨amN,s⟩] w' (hC.newP hw' hN20) (adh_ (hw'.has b20 _ List.mem_cons_self)) (by simp) (fun x hx=>by rw[List.mem_singleton] at hx;subst hx;exact⟨by show amN.length<_;decide,by show s.length<_;omega⟩)).mono (S':=fun v D=>v= .tuple #[vs b,vi 0]∧D= []) (fun v D h=>⟨hmk v h.1,h.2⟩)) ?_
 refine ko @xn_ ?_
 first|with_reducible refine ks [] @xn_ ?_|refine kp @xn_ ?_
 refine Ow.callC rfl rfl Tryd.call8 (fun w' hw'=>J0_ b w' (hC.newP hw' hN20) (by omega)) (fun B2 v2 D2 hA2 hB2 hN2 hS2=> ?_)
 unfold abd_ at hS2
 rw[hop] at hS2
 obtain⟨bi,rfl,hM⟩:=hS2
 simp only at hM
 have hN:=hN20.app (hN2.mono hB2)
 refine ko @xn_ ?_
 first|with_reducible refine ks [] @xn_ ?_|refine kp @xn_ ?_
 refine Ow.build (.agg (a8 id1.l)) rfl Kj_ ?_
 refine ko @xn_ ?_
 refine Ow.callFV rfl Tryd.call9 (fun w' hw'=>Xk_ bi [amN] [am4] [amL] id1 w' ((hM.mono (fun q hq=>by simp[hq])).inW hw') Qi_ (by simp) (by simp)) ?_
 rw[ah7_]
 refine ko @xn_ ?_
 refine Ow.alloc rfl rfl Kc_ fun b8 hb8 hw8=> ?_
 simp only[zg_,List.nil_append,List.cons_append]
 refine Ow.permL (M:=(b8, .cells (lnC Go.Proofs.ln0).toArray 38 (0,0)):: ([(b20,Obj.cells (shC ⟨amN,s⟩).toArray 26 (0,0)),(b10,Obj.cells (rwC amR).toArray 45 (0,0))]++D2)) (by classical exact List.perm_iff_count.2 fun a=>by simp only[List.count_append,List.count_cons,List.count_nil]<;>omega) ?_
 have e2: ((2:Int)==2)=true:=rfl
 have e1: ((([amL].length:Nat):Int)==1)=true:=rfl
 have en: (amN== [112])=true:=rfl
 have e0: ((0:Int)==0)=true:=rfl
 have ep:amL.place=2:=rfl
 have hN8:New w.heap.size ((b8,Obj.cells (lnC amL).toArray 38 (0,0)):: ([(b20,Obj.cells (shC ⟨amN,s⟩).toArray 26 (0,0)),(b10,Obj.cells (rwC amR).toArray 45 (0,0))]++D2)):=⟨hw8,hN⟩
 refine ko (And.intro @xn_ (And.intro @e0 (And.intro @e1 (And.intro @e2 (And.intro @en (@ep)))))) ?_
 first|with_reducible refine ks [] (And.intro @xn_ (And.intro @e0 (And.intro @e1 (And.intro @e2 (And.intro @en (@ep)))))) ?_|refine kp (And.intro @xn_ (And.intro @e0 (And.intro @e1 (And.intro @e2 (And.intro @en (@ep)))))) ?_
 refine Ow.callC rfl rfl Tryd.call13 (fun w' hw'=>Wo_ bi [amN] [am4] [amL] w' ((hM.mono (fun q hq=>by simp[hq])).inW hw') (by simp)) (fun B4 v4 D4 hA4 hB4 hN4 hS4=> ?_)
 have ln4:=ads_ hS4
 refine ko (And.intro @xn_ (And.intro @ln4 (@e1))) ?_
 first|with_reducible refine ks [] @xn_ ?_|refine kp @xn_ ?_
 refine⟨_,(ke @xn_),(hN8.app (hN4.mono hB4)), ?_⟩
 rfl
end Go.Proofs
end
section
open Go Go.Proofs Go.Sx Go.StP Go.Flo
namespace Go.Proofs
set_option maxRecDepth 10000
set_option maxHeartbeats 1000000
set_option linter.unusedSimpArgs false
def BndS (l:List ShL):Prop:= ∀s,s∈l→s.name.length<1099511627776∧s.bytes.length<1099511627776
def sumS (l:List ShL):Nat:=(l.map fun s=>s.bytes.length+s.name.length).sum
def grtS (l:List ShL):Bool:=decide (45<l.length) ||decide (20000<sumS l)
theorem aeg_ (l:List ShL) {k:Nat} (h:k<l.length):sumS (l.take (k+1))=sumS (l.take k)+ (l.getD k sh0).bytes.length+ (l.getD k sh0).name.length:=by
 unfold sumS
 rw[StP.take_snoc (z:=sh0) h,List.map_append,List.sum_append,List.map_singleton,List.sum_singleton,Nat.add_assoc]
theorem aiL_ (l:List ShL) (k:Nat):sumS (l.take k)≤sumS l:=by
 have:sumS l=sumS (l.take k)+sumS (l.drop k):=by
  unfold sumS
  rw[←List.sum_append,←List.map_append,List.take_append_drop]
 omega
structure GrG where
 k:Nat
 n:Nat
set_option linter.defProp false
def vs_:=And.intro (@ze_) (@zd_)
theorem VH_ (v:Value) (l:List ShL) (w:World) (hv:ShSl w v l) (hb:BndS l):
  Rets Tryd.prog 6 #[v] w (fun v D=>v= .bool (grtS l)∧D= []):=by
 have ln:=hv.len
 obtain⟨rb,off,arr,E,fz,hr⟩:=hv.row
 refine Rets.enterV Tryd.func6 rfl (rs:= [.tmp 2]) Tryd.results6 Tryd.ntmps6 ?_
 refine kf ?_
 by_cases h45:45<l.length
 ·have d1:decide ((45:Int)< (l.length:Int))=true:=decide_eq_true (by omega)
  first|with_reducible refine ks [] (And.intro @vs_ (And.intro @ln (@d1))) ?_|refine kp (And.intro @vs_ (And.intro @ln (@d1))) ?_
  refine⟨_,(ke @vs_),trivial, ?_⟩
  (unfold grtS;rw[decide_eq_true h45];rfl)
 ·have d1:decide ((45:Int)< (l.length:Int))=false:=decide_eq_false (by omega)
  first|with_reducible refine ks [] (And.intro @vs_ (And.intro @ln (@d1))) ?_|refine kp (And.intro @vs_ (And.intro @ln (@d1))) ?_
  refine Cw.loopG (G:=GrG) [8,9,10,11,14,15,16,17,18,19,20,21,22,23,24,25,26,27,28,3,29,30,2,12,13,4] (fun g=> [(3,vi g.n),(4,vi g.k)]) (fun g=> []) (fun g=>g.k≤l.length∧g.n≤20000∧g.n=sumS (l.take g.k)) (fun g=>l.length - g.k) ⟨0,0⟩ rfl rfl ?_ ?_
  ·exact⟨Nat.zero_le _,Nat.zero_le _,rfl⟩
  intro g j hg
  refine kv ?_
  obtain⟨k,n⟩:=g
  simp only at hg ⊢
  obtain⟨hk,hn,hs⟩:=hg
  by_cases hlt:k<l.length
  ·have d2:decide ((k:Int)< (l.length:Int))=true:=decide_eq_true (by omega)
   have ix:=hr.idx true k hlt
   have hh:=hr.has (by omega)
   have ld0: ∀n,zn_ (some (false,n)) (some (.cells arr E fz)) (off+k*2)=some (vs (l.getD k sh0).name):=fun n=>X5_ hr hlt n
   have ld1:=fun n=>Wf_ hr hlt n
   have hbs:=hb (l.getD k sh0) (by rw[List.getD_eq_getElem?_getD,List.getElem?_eq_getElem hlt];exact List.getElem_mem _)
   have hsn:=aeg_ l hlt
   have hsl:=aiL_ l (k+1)
   generalize l.getD k sh0=r at*
   have es: ((n:Int)+ (r.bytes.length:Int))+ (r.name.length:Int)=((n+r.bytes.length+r.name.length:Nat):Int):=by omega
   first|with_reducible refine ks [] (And.intro @vs_ (And.intro @ln (@d2))) ?_|refine kp (And.intro @vs_ (And.intro @ln (@d2))) ?_
   refine Cw.regionS [rb] [0,1,2,3,4,8,9,10,11,5,6,7,12,13,14,15] [] (by kernel_rfl) (by kernel_rfl) (by kernel_rfl) ?_
   simp only[zj_, ↓zf_, ↓zb_, ↓zp_, ↓zq_,zc_]
   refine kq (And.intro @vs_ (And.intro @ln (And.intro @ix (And.intro @hh (And.intro @ld0 (And.intro @ld1 (@es))))))) ?_
   by_cases hgt:20000<n+r.bytes.length+r.name.length
   ·have d3:decide ((20000:Int)< ((n+r.bytes.length+r.name.length:Nat):Int))=true:=decide_eq_true (by omega)
    first|with_reducible refine ks [] (And.intro @vs_ @d3) ?_|refine kp (And.intro @vs_ @d3) ?_
    refine⟨_,(ke @vs_),trivial, ?_⟩
    (unfold grtS;rw[decide_eq_true (show 20000<sumS l by omega),Bool.or_true];rfl)
   ·have d3:decide ((20000:Int)< ((n+r.bytes.length+r.name.length:Nat):Int))=false:=decide_eq_false (by omega)
    first|with_reducible refine ks [] (And.intro @vs_ @d3) ?_|refine kp (And.intro @vs_ @d3) ?_
    exact Again.mk ⟨k+1,n+r.bytes.length+r.name.length⟩ (by show l.length - (k+1)<l.length - k;omega) ⟨hlt,by show n+r.bytes.length+r.name.length≤20000;omega,by show n+r.bytes.length+r.name.length=sumS (l.take (k+1));omega⟩ rfl rfl
  ·have d2:decide ((k:Int)< (l.length:Int))=false:=decide_eq_false (by omega)
   first|with_reducible refine ks [] (And.intro @vs_ (And.intro @ln (@d2))) ?_|refine kp (And.intro @vs_ (And.intro @ln (@d2))) ?_
   rw[show l.take k=l from List.take_of_length_le (by omega)] at hs
   refine⟨_,(ke @vs_),trivial, ?_⟩
   (unfold grtS;rw[decide_eq_false h45,decide_eq_false (show¬20000<sumS l by omega)];rfl)
end Go.Proofs
end
section
open Go Go.Proofs Go.Sx Go.StP Go.Flo
namespace Go.Proofs
set_option maxRecDepth 10000
set_option maxHeartbeats 400000
set_option linter.unusedSimpArgs false
theorem cmpS_lt {x y:List UInt8}:WL_ x y<0↔ltB x y=true:=by
 unfold WL_
 cases h1:ltB x y<;>cases h2:ltB y x<;>simp
theorem aeX_ {l:List (List UInt8)} {n:Nat} (h:w2_ (wX_ l) n=true) {i:Nat}: ∀ {j:Nat},i<j→j<n→ltB (l.getD i []) (l.getD j [])=true
 |0,hij,_=>absurd hij (Nat.not_lt_zero _)
 |j+1,hij,hj=>by
  have h2:ltB (l.getD j []) (l.getD (j+1) [])=true:=by
   have h3:=kK_ (k:=j+2) (by omega) h
   unfold w2_ at h3
   rw[Bool.and_eq_true,Bool.or_eq_true,decide_eq_true_eq,decide_eq_true_eq] at h3
   rcases h3.2 with h4|h4
   ·omega
   ·exact cmpS_lt.1 h4
  by_cases e:i=j
  ·subst e;exact h2
  ·exact q1_ (aeX_ h (by omega) (by omega)) h2
end Go.Proofs
end
section
open Go Go.Proofs Go.Sx Go.StP Go.Flo
namespace Go.Proofs
set_option maxRecDepth 10000
set_option maxHeartbeats 1000000
set_option linter.unusedSimpArgs false
def rotS (l:List ShL) (m:Nat):List ShL:=l.drop m++l.take m
structure MoG where
 j:Nat
 v:Value
 D1:za_
 DG:za_
set_option linter.defProp false
def anU_:=And.intro (And.intro (@ze_) (And.intro (@zd_) (@xa_))) (And.intro (And.intro (@vB_) (@xZ_)) (And.intro (@Sx.tup2_0) (@Sx.tup2_1)))
end Go.Proofs
end
namespace Go.Sx
open Go Go.ChangeShapes Go.WideShapes Go.RowKit
theorem Hp.same0 {W W':World} (h:Hp W [] W') {b:Nat} (hb:b<W.heap.size):W'.heap[b]? =W.heap[b]? :=h.old b hb (fun hm=>by cases hm)
theorem Hp.kept {W W':World} (h:Hp W [] W') (may:MemPlace→Prop):W.keptBut W' may:=by
 refine⟨h.os,h.output,fun i hi=> ?_⟩
 rw[h.same0 hi]
 cases ho:W.heap[i]? with
 |none=>rfl
 |some o=>
  cases o<;>first
   |exact⟨rfl,rfl,rfl,fun _ _=>rfl⟩
   |exact .inr ⟨rfl,rfl⟩
   |rfl
theorem Hp.sameAt {W W':World} (h:Hp W [] W') {p:MemPlace} (hp:p.block<W.heap.size):W.sameAt W' p:=by
 cases p with
 |cell b off=>
  have:=h.same0 (b:=b) hp
  simp only[World.sameAt,World.cell?,this]
 |map b=>exact h.same0 hp
theorem Hp.frozen {W W':World} (h:Hp W [] W') {a:Addr} (ha:a.block<W.heap.size):W'.frozen? a=W.frozen? a:=by
 simp only[World.frozen?,h.same0 ha]
section
variable {H:Type} {enc:TypeId×Value→H} {P:Program}
theorem v7_ (hl:laidOutB P=true) {W W':World} {sp:Nat→Bool} (hp:Hp W [] W'): ∀ {ts:List TypeId} {vs:List Value} {ds:List (DataW H)} {ps:List MemPlace},
  (∀t∈ts,P.readableRec t=true∧t<P.types.size)→(∀p∈ps,p.block<W.heap.size)→(∀p∈ps,sp p.block=true)→
  DataW.TrodAll enc P W 0 (fun _=>true) true ts vs ds ps→DataW.TrodAll enc P W' 0 sp true ts vs ds ps
 | [],_,_,_,_,_,_,h=>by
  obtain⟨rfl,rfl,rfl⟩:=trodAll_nil h
  exact trodAll_mk0
 |t::ts,_,_,_,ht,hlt,hs,h=>by
  obtain⟨v,vs,d,ds,p,q,rfl,rfl,rfl,h1,h2⟩:=trodAll_cons h
  have hlt1: ∀x∈p,x.block<W.heap.size:=fun x hx=>hlt x (List.mem_append_left _ hx)
  exact trodAll_cons_mk (WideElems.Trod_stays hl (ht t List.mem_cons_self).1 (ht t List.mem_cons_self).2 h1 (fun x hx=>hp.sameAt (hlt1 x hx)) (fun x hx=>hs x (List.mem_append_left _ hx)))
   (v7_ hl hp (fun u hu=>ht u (List.mem_cons_of_mem _ hu)) (fun x hx=>hlt x (List.mem_append_right _ hx)) (fun x hx=>hs x (List.mem_append_right _ hx)) h2)
theorem aeA_ {f:Func} {s:ChangeSpec} {W W':World} {args:Array Value} {ds gs:List (DataW H)} {before:List MemPlace} {tb:TypeId} (hl:laidOutB P=true)
  (hW:DataW.Whole enc P f.params.toList s.vars false W args.toList ds gs before) (hv:s.vars= []) (hpar: ∀t∈f.params.toList,P.readableRec t=true∧t<P.types.size)
  (hr:f.resultTypes= #[tb]) (htb:P.underlying tb=some .bool) (hfn:s.fn H ds={results:= [.lit (.bool true)],args:=ds}) (hp:Hp W [] W'):
  s.post enc P f false true false false W args (.bool true) W':=by
 have hlt:=hW.lt
 have hW0:=hW
 obtain⟨p,q,hA,hV,rfl,hz,hn⟩:=hW
 rw[hv] at hV
 obtain⟨rfl,rfl⟩:=trodVars_none hV
 rw[List.append_nil] at hW0 hlt hz
 have hargs: ∀sp:Nat→Bool,(∀x∈p,sp x.block=true)→DataW.TrodAll enc P W' 0 sp true f.params.toList args.toList (s.fn H (ds++ [])).args p:=fun sp hs=>by
  rw[List.append_nil,hfn]
  exact v7_ hl hp hpar hlt hs hA
 have hvars: ∀sp:Nat→Bool,DataW.TrodVars enc P W' sp s.vars (s.fn H (ds++ [])).vars []:=fun sp=>by
  rw[List.append_nil,hfn,hv];rfl
 have hres: ∀ (b:Nat) (sp:Nat→Bool) (hd:Bool),DataW.TrodAll enc P W' b sp hd f.resultTypes.toList ((Value.bool true).resultList f.resultTypes.size) (s.fn H (ds++ [])).results []:=fun b sp hd=>by
  rw[List.append_nil,hfn,hr]
  exact trodAll_cons_mk (shut_bool htb true) trodAll_mk0
 have hold: ∀x∈p,(fun b=>decide (b<W.heap.size)) x.block=true:=fun x hx=>by simpa using hlt x hx
 refine⟨ds,[],p,[],p,[],hW0,hres _ _ _,hargs _ hold,hvars _,hp.kept _,fun _=> ?_⟩
 refine⟨ok_one hr rfl (okWide_bool_mk htb true),_,_,([]++p)++ [],⟨[]++p,[],trodAll_append (hargs _ (fun _ _=>rfl)) (hres _ _ _),hvars _,rfl, ?_,fun h=>by cases h⟩, ?_⟩
 ·intro b off hx
  have hx':MemPlace.cell b off∈p:=by simpa using hx
  rw[hp.frozen (hlt _ hx')]
  exact hz b off hx'
 ·intro x hx _
  simpa using hx
end
section
variable {P:Program} {W:World} {name:String} {k:IntKind} {zs:List Int}
theorem QD_ {t e:TypeId} {g n:Nat} (hg:P.globalNamed name=some g) (hty: (P.globals[g]?).map (·.type)=some t) (ht:P.underlying t=some (.array n e)) (he:P.underlying e=some (.int k)) (hce:P.cellsOf e=1) (hct:P.cellsOf t=n):
  ∀ {laid:List (String×DataW Unit)} {ps:List MemPlace},DataW.LaidVars P W laid ps→(name,Lib.tabData k zs)∈laid→Lib.TabIs P W name k zs
 | [],_,_,hm=>by cases hm
 | (n',d')::rest,ps,h,hm=>by
  obtain⟨g',t',cs,fuel,p,q,hg',ht',hvar,hd,hr,-⟩:=h
  rcases List.mem_cons.1 hm with hm|hm
  ·cases hm
   obtain rfl:=Option.some.inj (hg.symm.trans hg')
   obtain rfl:=Option.some.inj (hty.symm.trans ht')
   unfold Lib.TabIs
   rw[hvar,←Lib.cells_of_tab ht he hce hct hd]
  ·exact QD_ hg hty ht he hce hct hr hm
theorem WV_ {g:Nat} (hg:P.globalNamed name=some g) (h:Lib.TabIs P W name k zs): ∃e f,W.heap[g]? =some (.cells (zs.map fun z=>Value.int k z).toArray e f):=by
 unfold Lib.TabIs at h
 simp only[World.var?,hg,Option.bind_some] at h
 split at h
 ·rename_i cs e f hb
  cases h
  exact⟨e,f,hb⟩
 ·cases h
end
section
variable {H:Type} {enc:TypeId×Value→H} {P:Program}
end
end Go.Sx
namespace Go.Sx
open Go
section
variable {P:Program}
theorem agf_ {fits:TypeId→Bool} {d:Nat} {e:TypeId} {count off n:Nat} (h:rowAt P fits d e count off n=true):off≤count*P.cellsOf e:=by
 cases d with
 |zero=>simp[rowAt] at h
 |succ d=>
  unfold rowAt at h
  simp only at h
  split at h
  ·cases h
  ·rename_i hs
   have hs':0<P.cellsOf e:=Nat.pos_of_ne_zero hs
   have hd:=Nat.div_add_mod off (P.cellsOf e)
   have hm:=Nat.mod_lt off hs'
   rw[Bool.or_eq_true] at h
   rcases h with h|h
   ·simp only[Bool.and_eq_true,beq_iff_eq,decide_eq_true_eq] at h
    have:off / P.cellsOf e*P.cellsOf e≤count*P.cellsOf e:=Nat.mul_le_mul_right _ (by omega)
    rw[Nat.mul_comm (P.cellsOf e)] at hd
    omega
   ·simp only[Bool.and_eq_true,decide_eq_true_eq] at h
    have: (off / P.cellsOf e+1)*P.cellsOf e≤count*P.cellsOf e:=Nat.mul_le_mul_right _ (by omega)
    rw[Nat.add_mul,Nat.one_mul] at this
    rw[Nat.mul_comm (P.cellsOf e)] at hd
    omega
theorem KL_ {e:TypeId} {count off:Nat}: ∀ {d:Nat} {u:TypeId} {n:Nat},liesAt P d e count off u n=true→off≤count*P.cellsOf e
 |0,u,n,h=>by simp[liesAt] at h
 |d+1,u,n,h=>by
  unfold liesAt at h
  rw[Bool.or_eq_true] at h
  rcases h with h|h
  ·exact agf_ h
  ·split at h
   ·exact KL_ h
   ·cases h
theorem akH_ {W:World} {r:Reach} {base:Nat} {a:Addr} {e:TypeId} {n:Nat} (h:W.has P r base a e n):a.spot=none∧ ∃arr E fz,W.heap[a.block]? =some (.cells arr E fz)∧a.off≤arr.size:=by
 obtain⟨-,hs,row,cells,hsh,hl⟩:=h
 refine⟨hs, ?_⟩
 unfold World.shape? at hsh
 split at hsh
 ·rename_i c el fz hh
  cases hsh
  refine⟨c,_,fz,hh,Nat.le_trans (KL_ hl) ?_⟩
  exact Nat.div_mul_le_self _ _
 ·cases hsh
theorem KD_ {W:World} {r:Reach} {base:Nat} {t e:TypeId} {v:Value} (ht:P.underlying t=some (.slice e)) (h:Value.okWide P W r base t v):
  v= .slice none 0 0∨ ∃b off len cap arr E fz,v=vsl b off len cap∧len≤cap∧W.heap[b]? =some (.cells arr E fz)∧off≤arr.size:=by
 obtain⟨a,len,cap,rfl⟩:=Go.WideShapes.okWide_slice ht h
 unfold Value.okWide at h
 rw[ht] at h
 unfold Cell.okWide at h
 rw[ht] at h
 simp only at h
 unfold Cell.ok at h
 rw[ht] at h
 cases a with
 |none=>
  left
  simp only at h
  split at h
  all_goals first| (cases h;done) |simp_all
 |some a=>
  right
  simp only at h
  obtain⟨hle,-,hh⟩:=h
  obtain⟨hs,arr,E,fz,hb,ho⟩:=akH_ hh
  obtain⟨b,off,sp⟩:=a
  simp only at hs
  subst hs
  exact⟨b,off,len,cap,arr,E,fz,rfl,hle,hb,ho⟩
theorem ahI_ {α:Type} {enc:α→List Value} {z:α} {m:Nat} {W:World} {base b off c:Nat} {l:List α} {arr:Array Value} {E:TypeId} {fz:Nat×Nat} (hm0:0<m) (hm: ∀x,(enc x).length=m)
  (hcells: ∀i,i<l.length→W.cells? base ((Addr.mk b off none).add (i*m)) m=some (enc (l.getD i z))) (hheap:W.heap[b]? =some (.cells arr E fz)) (hoff:off≤arr.size) (hc:l.length≤c):SlV m enc z W (vsl b off l.length c) l:=by
 have get: ∀k,k<l.length→ ∀j,j<m→arr[off+k*m+j]? =(enc (l.getD k z))[j]? :=by
  intro k hk j hj
  obtain⟨-,hl,hg⟩:=World.cells?_some (hcells k hk)
  have:=hg j (by omega)
  rw[qP_,qP_] at this
  simp only[World.cell?,hheap,Option.isSome_none,Bool.false_eq_true,if_false] at this
  exact this
 refine SlV.sl hheap get hc ?_
 by_cases h0:l.length=0
 ·rw[h0];omega
 ·have h1:=get (l.length - 1) (by omega) (m - 1) (by omega)
  rw[List.getElem?_eq_getElem (by rw[hm];omega)] at h1
  have h2:=(Array.getElem?_eq_some_iff.1 h1).1
  have h3: (l.length - 1)*m+m=l.length*m:=by
   rw[←Nat.succ_mul];congr 1;omega
  omega
theorem ag4_ {H:Type} {tell:TypeId×Value→H} {α:Type} {enc:α→List Value} {z:α} {m:Nat} {W:World} {r:Reach} {base b0:Nat} {sp:Nat→Bool} {held:Bool} {fuel:Nat} {t e:TypeId} {v:Value} {x:DataW H×List MemPlace}
  (ht:P.underlying t=some (.slice e)) (he:P.cellsOf e=m) (hm0:0<m) (hm: ∀x,(enc x).length=m) (hval:Value.okWide P W r b0 t v)
  (hdec: ∀n cs y,DataW.trod tell P W base sp held n e cs=some y→ ∃a,cs=enc a) (hd:DataW.trod tell P W base sp held fuel t [v]=some x): ∃l,SlV m enc z W v l:=by
 rcases DataW.trod_slice ht hd with⟨hcs,-⟩ | ⟨a,len,cap,elems,rest,n,-,hcs,-,-,hl,-,hlen,hel,-,-⟩
 ·simp only[List.cons.injEq,and_true] at hcs
  subst hcs
  exact⟨[],SlV.nil W⟩
 ·simp only[List.cons.injEq,and_true] at hcs
  subst hcs
  rcases KD_ ht hval with h0| ⟨b,off,len',cap',arr,E,fz,h1,-,hb,ho⟩
  ·cases h0
  ·unfold vsl at h1
   cases h1
   rw[he] at hel
   have hex: ∀i,i<len→ ∃q,W.cells? base ((Addr.mk b off none).add (i*m)) m=some (enc q):=by
    intro i hi
    have h2:=hel i hi
    rw[List.getElem?_eq_getElem (by omega)] at h2
    cases hc:W.cells? base ((Addr.mk b off none).add (i*m)) m with
    |none=>rw[hc] at h2;cases h2
    |some cs=>
     rw[hc] at h2
     obtain⟨q,rfl⟩:=hdec _ _ _ h2
     exact⟨q,rfl⟩
   obtain⟨f,hf⟩: ∃f:Nat→α,∀i,i<len→W.cells? base ((Addr.mk b off none).add (i*m)) m=some (enc (f i)):=by
    classical
    refine⟨fun i=>if h:i<len then Classical.choose (hex i h) else z,fun i hi=> ?_⟩
    simp only[dif_pos hi]
    exact Classical.choose_spec (hex i hi)
   have hll: ((List.range len).map f).length=len:=by simp
   refine⟨(List.range len).map f, ?_⟩
   have:=ahI_ (W:=W) (base:=base) (b:=b) (off:=off) (c:=cap) (l:=(List.range len).map f) (z:=z) hm0 hm (fun i hi=>by
    rw[hll] at hi
    rw[hf i hi]
    congr 2
    rw[List.getD_eq_getElem?_getD,List.getElem?_map,List.getElem?_range hi];rfl) hb ho (by rw[hll];exact hl)
   rw[hll] at this
   exact this
end
end Go.Sx
section
open Go Go.Proofs Go.Sx Go.StP Go.Flo
open Go.ChangeShapes Go.WideShapes Go.ChangeAt Go.RowKit Go.ChangeMaps
namespace Go.Proofs
set_option maxRecDepth 10000
set_option maxHeartbeats 1000000
set_option linter.unusedSimpArgs false
theorem agS_ {H:Type} {tell:TypeId×Value→H} {α:Type} {enc:α→List Value} {z:α} {m:Nat} {W:World} {r:Reach} {base b0:Nat} {sp:Nat→Bool} {held:Bool} {fuel:Nat} {t e:TypeId} {v:Value} {x:DataW H×List MemPlace} {R:α→DataW H→Prop}
  (ht: (Tryd.prog).underlying t=some (.slice e)) (he: (Tryd.prog).cellsOf e=m) (hm0:0<m) (hm: ∀x,(enc x).length=m) (hval:Value.okWide Tryd.prog W r b0 t v)
  (hdec: ∀n cs y,DataW.trod tell Tryd.prog W base sp held n e cs=some y→ ∃a,cs=enc a∧R a y.1) (hd:DataW.trod tell Tryd.prog W base sp held fuel t [v]=some x):
  ∃l,SlV m enc z W v l∧(l= []∨ ∃es sp',x.1= .slice es sp'∧ ∀i,i<l.length→ ∃d,d∈es∧R (l.getD i z) d):=by
 rcases DataW.trod_slice ht hd with⟨hcs,-⟩ | ⟨a,len,cap,elems,rest,n,-,hcs,hx,-,hl,-,hlen,hel,-,-⟩
 ·simp only[List.cons.injEq,and_true] at hcs
  subst hcs
  exact⟨[],SlV.nil W, .inl rfl⟩
 ·simp only[List.cons.injEq,and_true] at hcs
  subst hcs
  rcases KD_ ht hval with h0| ⟨b,off,len',cap',arr,E,fz,h1,-,hb,ho⟩
  ·cases h0
  ·unfold vsl at h1
   cases h1
   rw[he] at hel
   have hex: ∀i,i<len→ ∃q,W.cells? base ((Addr.mk b off none).add (i*m)) m=some (enc q)∧ ∃d,d∈elems.map (·.1)∧R q d:=by
    intro i hi
    have h2:=hel i hi
    rw[List.getElem?_eq_getElem (by omega)] at h2
    cases hc:W.cells? base ((Addr.mk b off none).add (i*m)) m with
    |none=>rw[hc] at h2;cases h2
    |some cs=>
     rw[hc] at h2
     obtain⟨q,rfl,hR⟩:=hdec _ _ _ h2
     exact⟨q,rfl,_,List.mem_map_of_mem (List.getElem_mem (by omega)),hR⟩
   obtain⟨f,hf⟩: ∃f:Nat→α,∀i,i<len→W.cells? base ((Addr.mk b off none).add (i*m)) m=some (enc (f i))∧ ∃d,d∈elems.map (·.1)∧R (f i) d:=by
    classical
    refine⟨fun i=>if h:i<len then Classical.choose (hex i h) else z,fun i hi=> ?_⟩
    simp only[dif_pos hi]
    exact Classical.choose_spec (hex i hi)
   have hll: ((List.range len).map f).length=len:=by simp
   have hgd: ∀i,i<len→((List.range len).map f).getD i z=f i:=fun i hi=>by
    rw[List.getD_eq_getElem?_getD,List.getElem?_map,List.getElem?_range hi];rfl
   refine⟨(List.range len).map f, ?_, .inr ⟨_,_,by rw[hx],fun i hi=> ?_⟩⟩
   ·have:=ahI_ (W:=W) (base:=base) (b:=b) (off:=off) (c:=cap) (l:=(List.range len).map f) (z:=z) hm0 hm (fun i hi=>by
     rw[hll] at hi
     rw[(hf i hi).1,hgd i hi]) hb ho (by rw[hll];exact hl)
    rw[hll] at this
    exact this
   ·rw[hll] at hi
    rw[hgd i hi]
    exact(hf i hi).2
theorem aiN_ {H:Type} {tell:TypeId×Value→H} {W:World} {base:Nat} {sp:Nat→Bool} {held:Bool} (n:Nat) (cs:List Value) (y:DataW H×List MemPlace)
  (h:DataW.trod tell Tryd.prog W base sp held n 26 cs=some y): ∃a:ShL,cs=shC a∧y.1= .agg [.lit (.string a.name), .lit (.string a.bytes)]:=by
 obtain⟨y0,y1,n',hy,hlen,h0,h1⟩:=ChangeShapes.trod_struct2 Tryd.underlying26 h
 have hc: (Tryd.prog).cellsOf 26=2:=by kernel_rfl
 have hc0: (Tryd.prog).cellsOf 9=1:=by kernel_rfl
 simp only at h0 h1
 rw[hc0,List.drop_zero] at h0
 rw[hc0] at h1
 rw[hc] at hlen
 obtain⟨s,hs,hys,-⟩:=DataW.trod_string Tryd.underlying9 h0
 obtain⟨u,hu,hyu,-⟩:=DataW.trod_string Tryd.underlying9 h1
 refine⟨⟨s.data.toList,u.data.toList⟩, ?_,by rw[hy,hys,hyu]⟩
 have hd:cs=cs.take 1++ (cs.drop 1).take 1:=by
  rw[show(cs.drop 1).take 1=cs.drop 1 from List.take_of_length_le (by rw[List.length_drop];omega),List.take_append_drop]
 rw[hd,hs,hu]
 rfl
theorem KZ_ {H:Type} {enc:TypeId×Value→H} {W:World} {r:Reach} {b0 base:Nat} {sp:Nat→Bool} {held:Bool} {v:Value} {d:DataW H} {p:List MemPlace}
  (hval:Value.okWide Tryd.prog W r b0 22 v) (hd:DataW.Trod enc Tryd.prog W base sp held 22 v d p):
  ∃l,ShSl W v l∧(l= []∨ ∃es sp',d= .slice es sp'∧ ∀i,i<l.length→ ∃e,e∈es∧e= .agg [.lit (.string (l.getD i sh0).name), .lit (.string (l.getD i sh0).bytes)]):=by
 obtain⟨a0,len,cap,rfl⟩:=WideShapes.okWide_slice Tryd.underlying22 hval
 obtain⟨fu,hf⟩:=hd
 exact agS_ (z:=sh0) (R:=fun a e=>e= .agg [.lit (.string a.name), .lit (.string a.bytes)]) Tryd.underlying22 (by kernel_rfl) (by decide) jj_ hval aiN_ hf
end Go.Proofs
end
section
open Go Go.Proofs Go.Sx Go.StP Go.Flo
namespace Go.Proofs
set_option maxRecDepth 10000
set_option maxHeartbeats 1000000
set_option linter.unusedSimpArgs false
theorem hasG_iff {x:IdL} {m:MpL}:Xe_ x m=true↔ ∃p,p∈m∧p.1=x:=by
 unfold Xe_
 rw[List.any_eq_true]
 constructor
 ·rintro⟨p,hp,h⟩;exact⟨p,hp,(eq_of_beq h).symm⟩
 ·rintro⟨p,hp,rfl⟩;exact⟨p,hp,beq_self_eq_true _⟩
theorem ZB_ {k:IdL} {v:LnL}: ∀ {m:MpL},Xe_ k m=false→updG k v m=m++ [(k,v)]
 | [],_=>rfl
 |p::r,h=>by
  unfold Xe_ at h
  rw[List.any_cons,Bool.or_eq_false_iff] at h
  have h2:updG k v r=r++ [(k,v)]:=ZB_ h.2
  unfold updG
  rw[if_neg (by rw[h.1];simp),h2];rfl
theorem K2_ {k:Nat} {m:MpL} {r:RwL} {p:IdL×LnL} (h:p∈m):p∈ww_ k m r:=by
 unfold ww_
 split
 ·exact h
 ·rename_i hh
  rw[ZB_ (by simpa using hh)]
  exact List.mem_append_left _ h
theorem ae7_ (k:Nat) (m:MpL) (r:RwL):Xe_ r.id (ww_ k m r)=true:=by
 unfold ww_
 split
 ·rename_i hh;exact hh
 ·rename_i hh
  rw[ZB_ (by simpa using hh)]
  exact hasG_iff.2 ⟨_,List.mem_append_right _ (List.mem_singleton.2 rfl),rfl⟩
theorem Qz_ (k:Nat) {p:IdL×LnL}: ∀ (l:List RwL) (m:MpL),p∈m→p∈j9_ k m l
 | [],_,h=>h
 |_::l,_,h=>Qz_ k l _ (K2_ h)
theorem Xr_ {x:IdL} {m m':MpL} (h: ∀p,p∈m→p∈m') (hx:Xe_ x m=true):Xe_ x m'=true:=by
 obtain⟨p,hp,e⟩:=hasG_iff.1 hx
 exact hasG_iff.2 ⟨p,h p hp,e⟩
theorem Ko_ (k:Nat) {r:RwL}: ∀ (l:List RwL) (m:MpL),r∈l→Xe_ r.id (j9_ k m l)=true
 | [],_,h=>by cases h
 |q::l,m,h=>by
  rcases List.mem_cons.1 h with rfl|h
  ·exact Xr_ (fun p hp=>Qz_ k l _ hp) (ae7_ k m r)
  ·exact Ko_ k l _ h
theorem Kl_ (k:Nat) {p:IdL×LnL}: ∀ (l:List RwL) (m:MpL),p∈j9_ k m l→p∈m∨ ∃r,r∈l∧p=(r.id,⟨r.id,(k:Int),r.place,r.spot⟩)∧Xe_ r.id m=false
 | [],_,h=> .inl h
 |q::l,m,h=>by
  rcases Kl_ k l _ (show p∈j9_ k (ww_ k m q) l from h) with h2| ⟨r,hr,hp,hn⟩
  ·unfold ww_ at h2
   split at h2
   ·exact .inl h2
   ·rename_i hh
    have hh:Xe_ q.id m=false:=by simpa using hh
    rw[ZB_ hh] at h2
    rcases List.mem_append.1 h2 with h3|h3
    ·exact .inl h3
    ·exact .inr ⟨q,List.mem_cons_self,List.mem_singleton.1 h3,hh⟩
  ·refine .inr ⟨r,List.mem_cons_of_mem _ hr,hp, ?_⟩
   cases e:Xe_ r.id m with
   |false=>rfl
   |true=>rw[Xr_ (fun p hp=>K2_ hp) e] at hn;cases hn
theorem Qj_ (ls:List (List UInt8×List RwL)) {k:Nat} {r:RwL} (hr:r∈ (ls.getD k ([],[])).2): ∀n,k<n→Xe_ r.id (jp_ ls n)=true
 |0,h=>absurd h (Nat.not_lt_zero _)
 |n+1,h=>by
  show Xe_ r.id (j9_ n (jp_ ls n) (ls.getD n ([],[])).2)=true
  by_cases e:k=n
  ·subst e;exact Ko_ _ _ _ hr
  ·exact Xr_ (fun p hp=>Qz_ _ _ _ hp) (Qj_ ls hr n (by omega))
theorem ZF_ (ls:List (List UInt8×List RwL)) {p:IdL×LnL}: ∀n,p∈jp_ ls n→ ∃k,k<n∧ ∃r,r∈ (ls.getD k ([],[])).2∧p=(r.id,⟨r.id,(k:Int),r.place,r.spot⟩)∧ ∀j,j<k→ ∀r',r'∈ (ls.getD j ([],[])).2→r'.id≠r.id
 |0,h=>by cases h
 |n+1,h=>by
  rcases Kl_ n _ _ (show p∈j9_ n (jp_ ls n) (ls.getD n ([],[])).2 from h) with h2| ⟨r,hr,hp,hn⟩
  ·obtain⟨k,hk,hh⟩:=ZF_ ls n h2
   exact⟨k,by omega,hh⟩
  ·refine⟨n,by omega,r,hr,hp,fun j hj r' hr' e=> ?_⟩
   have:=Qj_ ls hr' n hj
   rw[e,hn] at this;cases this
end Go.Proofs
end
section
open Go Go.Proofs Go.Sx Go.StP Go.Flo
namespace Go.Proofs
set_option maxRecDepth 10000
set_option maxHeartbeats 1000000
set_option linter.unusedSimpArgs false
theorem wt_ {l:List ShL}: ∀ {n:Nat} {q:List (List UInt8×List RwL)},jW_ l n=some q→ ∀k,k<n→j3_ (l.getD k sh0).bytes=some (q.getD k ([],[]))
 |0,_,_,k,hk=>absurd hk (Nat.not_lt_zero _)
 |n+1,q,h,k,hk=>by
  unfold jW_ at h
  cases h1:jW_ l n with
  |none=>rw[h1] at h;cases h
  |some q1=>
   rw[h1] at h
   cases h2:j3_ (l.getD n sh0).bytes with
   |none=>rw[h2] at h;cases h
   |some p=>
    rw[h2] at h
    simp only[Option.some.injEq] at h
    subst h
    have hl:=ky_ h1
    by_cases e:k=n
    ·subst e;rw[Qv_ _ _ hl,h2]
    ·rw[qq_ _ _ (by omega)];exact wt_ h1 k (by omega)
theorem wV_ {Z:List RwL} (h:Zi_ Z Z.length=true) {r:RwL} (hr:r∈Z):xj_ Z r.id=(r,true):=by
 unfold xj_
 cases hf:Z.find? (fun q=>q.id.l==r.id.l) with
 |none=>
  have:=List.find?_eq_none.1 hf _ hr
  exact absurd (beq_self_eq_true r.id.l) this
 |some q=>
  have h5:=List.find?_some hf
  have h6:q.id.l=r.id.l:=by simpa using h5
  obtain⟨i,hi,rfl⟩:=List.getElem_of_mem (List.mem_of_find?_eq_some hf)
  obtain⟨j,hj,rfl⟩:=List.getElem_of_mem hr
  rw[←ka_ hi,←ka_ hj] at h6 ⊢
  have:i=j:=by
   rcases Nat.lt_trichotomy i j with hlt|e|hlt
   ·have:=vG_ h hlt hj;rw[h6,qp_] at this;cases this
   ·exact e
   ·have:=vG_ h hlt hi;rw[h6,qp_] at this;cases this
  subst this;rfl
def Ki_ (x:IdL) (s:ShL):Bool:=match j3_ s.bytes with|some p=>(xj_ p.2 x).2|none=>false
def rowX (x:IdL) (s:ShL):RwL:=match j3_ s.bytes with|some p=>(xj_ p.2 x).1|none=>rw0
theorem afz_ {l:List RwL} {x:IdL} (h: (xj_ l x).2=true): ∃r,r∈l∧r.id=x∧xj_ l x=(r,true):=by
 unfold xj_ at h ⊢
 cases hf:l.find? (fun r=>r.id.l==x.l) with
 |none=>rw[hf] at h;cases h
 |some r=>exact⟨r,List.mem_of_find?_eq_some hf,afk_ (by simpa using List.find?_some hf),rfl⟩
theorem Xb_ {l:List LnL} {x:IdL} (h: (qO_ l x).2=true): ∃r,r∈l∧r.id=x∧qO_ l x=(r,true):=by
 unfold qO_ at h ⊢
 cases hf:l.find? (fun r=>r.id.l==x.l) with
 |none=>rw[hf] at h;cases h
 |some r=>exact⟨r,List.mem_of_find?_eq_some hf,afk_ (by simpa using List.find?_some hf),rfl⟩
theorem aed_ {l:List LnL} {x:IdL} (h: (qO_ l x).2=false): ∀r,r∈l→r.id≠x:=by
 intro r hr e
 unfold qO_ at h
 cases hf:l.find? (fun r=>r.id.l==x.l) with
 |none=>
  have:=List.find?_eq_none.1 hf r hr
  rw[e] at this
  exact this (beq_self_eq_true _)
 |some q=>rw[hf] at h;cases h
structure Mgd (l Z:List ShL) (q:List (List UInt8×List RwL)) (L:List LnL):Prop where
 hZ:shs_SortOf l Z
 hq:jW_ Z Z.length=some q
 hL:abN_ ((jp_ q q.length).map Prod.snd) L
 hr:qn_ (Z.map ShL.name) L=true
theorem Mgd.mem {l Z:List ShL} {q:List (List UInt8×List RwL)} {L:List LnL} (h:Mgd l Z q L) (s:ShL):s∈Z↔s∈l:=h.hZ.2.2.mem s
theorem Mgd.opens {l Z:List ShL} {q:List (List UInt8×List RwL)} {L:List LnL} (h:Mgd l Z q L) {s:ShL} (hs:s∈l): ∃k,k<Z.length∧Z.getD k sh0=s∧j3_ s.bytes=some (q.getD k ([],[])):=by
 obtain⟨k,hk,rfl⟩:=List.getElem_of_mem ((h.mem s).2 hs)
 have e:Z.getD k sh0=Z[k]:=by rw[List.getD_eq_getElem?_getD,List.getElem?_eq_getElem hk];rfl
 exact⟨k,hk,e,by rw[←e];exact wt_ h.hq k hk⟩
theorem Mgd.line {l Z:List ShL} {q:List (List UInt8×List RwL)} {L:List LnL} (h:Mgd l Z q L) {r:LnL} (hr:r∈L): ∃k,k<Z.length∧ ∃w,w∈ (q.getD k ([],[])).2∧r=⟨w.id,(k:Int),w.place,w.spot⟩∧ ∀j,j<k→ ∀r',r'∈ (q.getD j ([],[])).2→r'.id≠w.id:=by
 obtain⟨p,hp,rfl⟩:=List.mem_map.1 (h.hL.1.mem_iff.1 hr)
 obtain⟨k,hk,w,hw,rfl,hj⟩:=ZF_ q _ hp
 rw[ky_ h.hq] at hk
 exact⟨k,hk,w,hw,rfl,hj⟩
theorem Mgd.has {l Z:List ShL} {q:List (List UInt8×List RwL)} {L:List LnL} (h:Mgd l Z q L) {k:Nat} (hk:k<Z.length) {w:RwL} (hw:w∈ (q.getD k ([],[])).2): ∃r,r∈L∧r.id=w.id:=by
 obtain⟨p,hp,e⟩:=hasG_iff.1 (Qj_ q hw q.length (by rw[ky_ h.hq];exact hk))
 refine⟨p.2,h.hL.1.mem_iff.2 (List.mem_map_of_mem hp), ?_⟩
 obtain⟨k',-,w',-,rfl,-⟩:=ZF_ q _ hp
 exact e
theorem Mgd.no {l Z:List ShL} {q:List (List UInt8×List RwL)} {L:List LnL} (h:Mgd l Z q L) {x:IdL} (hn: ∀s,s∈l→Ki_ x s=false):qO_ L x=(Go.Proofs.ln0,false):=by
 cases e: (qO_ L x).2 with
 |false=>
  unfold qO_ at e ⊢
  cases hf:L.find? (fun r=>r.id.l==x.l) with
  |none=>rfl
  |some r=>rw[hf] at e;cases e
 |true=>
  obtain⟨r,hr,rfl,-⟩:=Xb_ e
  obtain⟨k,hk,w,hw,rfl,-⟩:=h.line hr
  have hm:Z.getD k sh0∈l:=(h.mem _).1 (by rw[List.getD_eq_getElem?_getD,List.getElem?_eq_getElem hk];exact List.getElem_mem hk)
  have h1:=hn _ hm
  unfold Ki_ at h1
  rw[wt_ h.hq k hk] at h1
  have h2:j3_ (Z.getD k sh0).bytes=some ((q.getD k ([],[])).1,(q.getD k ([],[])).2):=wt_ h.hq k hk
  simp only at h1
  rw[wV_ (q4_ (openI_iff.1 h2).1).1 hw] at h1
  cases h1
theorem Mgd.yes {l Z:List ShL} {q:List (List UInt8×List RwL)} {L:List LnL} (h:Mgd l Z q L) {x:IdL} {s:ShL} (hs:s∈l) (hx:Ki_ x s=true) (hm: ∀t,t∈l→Ki_ x t=true→ltB t.name s.name=false):
  (qO_ L x).2=true∧(qO_ L x).1.place=(rowX x s).place∧(qO_ L x).1.spot=(rowX x s).spot∧afD_ (Z.map ShL.name) (qO_ L x)=s.name:=by
 obtain⟨k0,hk0,e0,ho0⟩:=h.opens hs
 have ho0':j3_ s.bytes=some ((q.getD k0 ([],[])).1,(q.getD k0 ([],[])).2):=ho0
 have hok0:=(q4_ (openI_iff.1 ho0').1).1
 unfold Ki_ at hx
 rw[ho0] at hx
 obtain⟨r0,hr0,rfl,hf0⟩:=afz_ hx
 have hrx:rowX r0.id s=r0:=by unfold rowX;rw[ho0];show(xj_ _ _).1=_;rw[hf0]
 rw[hrx]
 have hy: (qO_ L r0.id).2=true:=by
  cases e: (qO_ L r0.id).2 with
  |true=>rfl
  |false=>
   obtain⟨r,hr,e2⟩:=h.has hk0 hr0
   exact absurd e2 (aed_ e r hr)
 obtain⟨r,hr,e1,hf⟩:=Xb_ hy
 obtain⟨k,hk,w,hw,rfl,hj⟩:=h.line hr
 simp only at e1
 rw[hf]
 have hle:k≤k0:=by
  refine Nat.le_of_not_lt fun hlt=>hj k0 hlt r0 hr0 e1.symm
 have hkk:k=k0:=by
  by_cases hlt:k<k0
  ·exfalso
   have hris:w2_ (wX_ (Z.map ShL.name)) (Z.map ShL.name).length=true:=by
    have h1:=h.hr
    unfold qn_ at h1
    simp only[Bool.and_eq_true] at h1
    exact h1.1.1.2
   have h2:=aeX_ hris hlt (by rw[List.length_map];exact hk0)
   have en: ∀j,j<Z.length→(Z.map ShL.name).getD j []=(Z.getD j sh0).name:=fun j hj=>by
    rw[List.getD_eq_getElem?_getD,List.getElem?_map,List.getElem?_eq_getElem hj,List.getD_eq_getElem?_getD,List.getElem?_eq_getElem hj];rfl
   rw[en k hk,en k0 hk0,e0] at h2
   have hm1:Z.getD k sh0∈l:=(h.mem _).1 (by rw[List.getD_eq_getElem?_getD,List.getElem?_eq_getElem hk];exact List.getElem_mem hk)
   have h3:=hm _ hm1 (by
    unfold Ki_
    have ho:j3_ (Z.getD k sh0).bytes=some ((q.getD k ([],[])).1,(q.getD k ([],[])).2):=wt_ h.hq k hk
    rw[ho]
    show(xj_ _ _).2=true
    rw[←e1,wV_ (q4_ (openI_iff.1 ho).1).1 hw])
   rw[h2] at h3;cases h3
  ·omega
 subst hkk
 have hwr:w=r0:=by
  have a:=wV_ hok0 hw
  rw[e1,hf0] at a
  exact(congrArg Prod.fst a).symm
 subst hwr
 refine⟨rfl,rfl,rfl, ?_⟩
 unfold afD_
 rw[if_pos rfl]
 show(Z.map ShL.name).getD (k:Int).toNat []=_
 rw[Int.toNat_natCast,List.getD_eq_getElem?_getD,List.getElem?_map,List.getElem?_eq_getElem hk]
 rw[←e0,List.getD_eq_getElem?_getD,List.getElem?_eq_getElem hk];rfl
theorem adE_ {l:List ShL} {v:Value} (h:wi_ l v): (∃e:Int,v= .tuple #[vs [],vi e]∧e≠0)∨ ∃Z q L b,Mgd l Z q L∧v= .tuple #[vs b,vi 0]∧Wp_ b=some (Z.map ShL.name,q.map Prod.fst,L)∧b.length<1000000:=by
 unfold wi_ at h
 split at h
 ·exact .inl ⟨4,h,by decide⟩
 ·rename_i h40
  obtain⟨Z,L,hZ,hL,rfl⟩:=h
  unfold Jz_
  rw[if_neg (by have:Z.length=l.length:=hZ.1;omega)]
  split
  ·exact .inl ⟨1,rfl,by decide⟩
  ·rename_i h1
   cases hq:jW_ Z Z.length with
   |none=>exact .inl ⟨2,rfl,by decide⟩
   |some q=>
    simp only
    split
    ·exact .inl ⟨4,rfl,by decide⟩
    ·rename_i h2
     have hr:qn_ (Z.map ShL.name) L=true:=by simpa using h2
     have h4:=Qd_ hq
     have hu: ∀u,u∈q.map Prod.fst→u.length=4:=by
      intro u hu
      obtain⟨p,hp,rfl⟩:=List.mem_map.1 hu
      exact(h4 p hp).2
     refine .inr ⟨Z,q,L,_,⟨hZ,hq,hL (by simpa using h1) q hq,hr⟩,rfl,QM_ hr (by rw[List.length_map,List.length_map];exact ky_ hq) hu, ?_⟩
     obtain⟨a1,a2,a3,a4⟩:=QI_ hr
     have h1:=Zv_ (names:=Z.map ShL.name) (sums:=q.map Prod.fst) (a4.mono (by omega)) (fun s hs=>by rw[hu s hs];omega) (Z.map ShL.name).length
     have h2:=vm_ L L.length (Nat.le_refl _)
     have h3:=zm_ (((Z.map ShL.name).length:Nat):Int)
     have h4:=zm_ ((L.length:Nat):Int)
     rw[List.take_length] at h2
     rw[wf_]
     unfold kY_
     rw[List.length_append,List.length_append,List.length_append,List.length_append,show magM.length=4 from rfl]
     omega
end Go.Proofs
end
section
open Go Go.Proofs Go.Sx Go.StP Go.Flo
namespace Go.Proofs
set_option maxRecDepth 10000
set_option maxHeartbeats 1000000
set_option linter.unusedSimpArgs false
def Frst (l:List ShL) (x:IdL) (k F:Nat):Prop:=(F=0∧ ∀i,i<k→Ki_ x (l.getD i sh0)=false)∨(F≠0∧F≤k∧Ki_ x (l.getD (F - 1) sh0)=true∧ ∀i,i<k→Ki_ x (l.getD i sh0)=true→ltB (l.getD i sh0).name (l.getD (F - 1) sh0).name=false)
theorem Frst.skip {l:List ShL} {x:IdL} {k F:Nat} (h:Frst l x k F) (hn:Ki_ x (l.getD k sh0)=false):Frst l x (k+1) F:=by
 rcases h with⟨h0,h1⟩ | ⟨h0,h1,h2,h3⟩
 ·refine .inl ⟨h0,fun i hi=> ?_⟩
  rcases Nat.lt_succ_iff_lt_or_eq.1 hi with h|rfl
  ·exact h1 i h
  ·exact hn
 ·refine .inr ⟨h0,by omega,h2,fun i hi hh=> ?_⟩
  rcases Nat.lt_succ_iff_lt_or_eq.1 hi with h|rfl
  ·exact h3 i h hh
  ·rw[hn] at hh;cases hh
theorem Frst.new {l:List ShL} {x:IdL} {k F:Nat} (h:Frst l x k F) (hx:Ki_ x (l.getD k sh0)=true) (hl:F=0∨ltB (l.getD k sh0).name (l.getD (F - 1) sh0).name=true):Frst l x (k+1) (k+1):=by
 refine .inr ⟨by omega,Nat.le_refl _,by rw[Nat.add_sub_cancel];exact hx,fun i hi hh=> ?_⟩
 rw[Nat.add_sub_cancel]
 rcases Nat.lt_succ_iff_lt_or_eq.1 hi with hi|rfl
 ·rcases h with⟨h0,h1⟩ | ⟨h0,h1,h2,h3⟩
  ·rw[h1 i hi] at hh;cases hh
  ·rcases hl with hl|hl
   ·exact absurd hl h0
   ·have h4:=h3 i hi hh
    cases e:ltB (l.getD i sh0).name (l.getD k sh0).name with
    |false=>rfl
    |true=>rw[q1_ e hl] at h4;cases h4
 ·exact qp_ _
theorem Frst.keep {l:List ShL} {x:IdL} {k F:Nat} (h:Frst l x k F) (h0:F≠0) (hl:ltB (l.getD k sh0).name (l.getD (F - 1) sh0).name=false):Frst l x (k+1) F:=by
 rcases h with⟨h1,-⟩ | ⟨-,h1,h2,h3⟩
 ·exact absurd h1 h0
 ·refine .inr ⟨h0,by omega,h2,fun i hi hh=> ?_⟩
  rcases Nat.lt_succ_iff_lt_or_eq.1 hi with h|rfl
  ·exact h3 i h hh
  ·exact hl
theorem outK {P:Program} {w0:World} {c:Code} {f:Fr} {L:za_} {K:j1_} (h:Cw P w0 c f L K):Cw P w0 c f L (bsK K):=h
theorem akE_ (a b c:Value): #[a,b,c][0]? =some a:=rfl
theorem ajV_ (a b c:Value): #[a,b,c][1]? =some b:=rfl
theorem ajZ_ (a b c:Value): #[a,b,c][2]? =some c:=rfl
structure MfG where
 i:Nat
 DG:za_
structure MfK where
 k:Nat
 F:Nat
 DG:za_
set_option linter.defProp false
def zr_:=And.intro (And.intro (And.intro (And.intro (@ze_) (@zd_)) (And.intro (@xa_) (And.intro (@vB_) (@XK_)))) (And.intro (And.intro (@abB_) (And.intro (@qQ_) (@vc_))) (And.intro (@k0_) (And.intro (@vj_) (@q6_))))) (And.intro (And.intro (And.intro (@q7_) (@kd_)) (And.intro (@k8_) (And.intro (@v0_) (@Zw_)))) (And.intro (And.intro (@xp_) (And.intro (@Sx.tup2_0) (@Sx.tup2_1))) (And.intro (@akE_) (And.intro (@ajV_) (@ajZ_)))))
theorem Qp_ (v:Value) (l:List ShL) (v1:Value) (ids:List IdL) (w:World) (hC:GlobC w) (hv:ShSl w v l) (hi:SlV 32 idLC id0 w v1 ids) (hb:BndS l):
  Rets Tryd.prog 4 #[v,v1] w (fun v D=>v= .bool true∧D= []):=by
 have ln:=hv.len
 have lni:=hi.len
 refine Rets.enterV Tryd.func4 rfl (rs:= [.tmp 4]) Tryd.results4 Tryd.ntmps4 ?_
 refine kf ?_
 first|with_reducible refine ks [1000011] @zr_ ?_|refine kp @zr_ ?_
 refine Ow.callFV rfl Tryd.call5 (fun w' hw'=>xr_ w' (hC.newP hw' trivial)) ?_
 refine ko @zr_ ?_
 first|with_reducible refine ks [] @zr_ ?_|refine kp @zr_ ?_
 refine Ow.callFV rfl Tryd.call6 (fun w' hw'=>VH_ v l w' (hv.oldN hw' trivial) hb) ?_
 have hg45:grtS l=false→l.length≤45:=fun h=>by
  unfold grtS at h
  rw[Bool.or_eq_false_iff,decide_eq_false_iff_not] at h
  omega
 cases hgr:grtS l with
 |true=>
  refine ko @zr_ ?_
  first|with_reducible refine ks [] @zr_ ?_|refine kp @zr_ ?_
  refine Ow.callFV rfl Tryd.call5 (fun w' hw'=>xr_ w' (hC.newP hw' trivial)) ?_
  refine ko @zr_ ?_
  first|with_reducible refine ks [] @zr_ ?_|refine kp @zr_ ?_
  refine⟨_,(ke @zr_),trivial, ?_⟩
  rfl
 |false=>
  have hl45:=hg45 hgr
  by_cases h60:60<ids.length
  ·have d60:decide ((60:Int)< (ids.length:Int))=true:=decide_eq_true (by omega)
   refine ko (And.intro @zr_ (And.intro @lni (@d60))) ?_
   first|with_reducible refine ks [] @zr_ ?_|refine kp @zr_ ?_
   refine Ow.callFV rfl Tryd.call5 (fun w' hw'=>xr_ w' (hC.newP hw' trivial)) ?_
   refine ko @zr_ ?_
   first|with_reducible refine ks [] @zr_ ?_|refine kp @zr_ ?_
   refine⟨_,(ke @zr_),trivial, ?_⟩
   rfl
  have d60:decide ((60:Int)< (ids.length:Int))=false:=decide_eq_false (by omega)
  refine ko (And.intro @zr_ (And.intro @lni (@d60))) ?_
  first|with_reducible refine ks [] @zr_ ?_|refine kp @zr_ ?_
  refine Ow.callC rfl rfl Tryd.call7 (fun w' hw'=>Rets.toX (JT_ v l w' (hC.newP hw' trivial) (hv.oldN hw' trivial) (by omega) hb)) (fun B1 va Da hAa hBa hNa' hSa=> ?_)
  obtain⟨rfl,hSa⟩:=hSa
  rw[List.append_nil]
  rcases adE_ hSa with⟨e,rfl,he⟩ | ⟨Z,q,L,b,hM,rfl,hop,hbl⟩
  ·have e1: (e !=0)=true:=bne_iff_ne.2 he
   have e2: (([]:List UInt8)== [])=true:=rfl
   refine ko @zr_ ?_
   first|with_reducible refine ks [] (And.intro @zr_ @e1) ?_|refine kp (And.intro @zr_ @e1) ?_
   refine Ow.callFV rfl Tryd.call5 (fun w' hw'=>xr_ w' (hC.newP hw' trivial)) ?_
   refine ko (And.intro @zr_ @e2) ?_
   first|with_reducible refine ks [] @zr_ ?_|refine kp @zr_ ?_
   refine⟨_,(ke @zr_),trivial, ?_⟩
   rfl
  have e0: ((0:Int) !=0)=false:=rfl
  refine ko @zr_ ?_
  first|with_reducible refine ks [] (And.intro @zr_ @e0) ?_|refine kp (And.intro @zr_ @e0) ?_
  refine Ow.callC rfl rfl Tryd.call8 (fun w' hw'=>J0_ b w' (hC.newP hw' trivial) (by omega)) (fun B2 v2 D2 hA2 hB2 hN2 hS2=> ?_)
  unfold abd_ at hS2
  rw[hop] at hS2
  obtain⟨bm,rfl,hMD⟩:=hS2
  simp only at hMD
  have hD2:=hN2.mono hB2
  rw[List.nil_append]
  refine ko @zr_ ?_
  first|with_reducible refine ks [1000011] (And.intro @zr_ @e0) ?_|refine kp (And.intro @zr_ @e0) ?_
  refine outK (outK ?_)
  refine Cw.rebaseV hD2 (by rfl) fun w1 hw1=> ?_
  have hC1:=hC.newP hw1 hD2
  have hm1:=hMD.inW hw1
  have hv1:=hv.oldN hw1 hD2
  have hi1:=hi.oldN hw1 hD2
  obtain⟨a1,a2,a3,a4⟩:=QI_ hM.hr
  clear hw1 hMD hD2 hN2 hC hv hi hop hSa hA2
  obtain⟨rb,off,arr,E,fz,hr⟩:=hv1.row
  obtain⟨ib,ioff,iarr,iE,ifz,hir⟩:=hi1.row
  first|with_reducible refine ks [] @zr_ ?_|refine kp @zr_ ?_
  refine Cw.loopG (G:=MfG) [52,53,54,55,59,60,61,62,63,64,58,65,66,67,11,10,12,13,14,68,69,70,71,75,76,77,78,79,80,74,81,82,15,16,84,85,86,87,88,89,83,90,91,17,18,92,93,94,95,96,97,98,99,100,101,102,103,104,105,106,107,108,109,110,72,73,111,112,113,4,115,116,117,118,119,120,114,121,122,19,20,124,125,126,127,128,129,123,130,131,21,22,132,133,134,135,136,137,138,139,140,141,142,143,144,145,146,147,148,149,150,151,152,153,154,155,156,56,57,9] (fun g=> [(4, .bool false),(9,vi g.i)]) (fun g=>g.DG) (fun g=>g.i≤ids.length∧New w1.heap.size g.DG) (fun g=>ids.length - g.i) ⟨0,[]⟩ rfl rfl ?_ ?_
  ·exact⟨Nat.zero_le _,trivial⟩
  intro g j hg
  refine kv ?_
  obtain⟨i,DG⟩:=g
  simp only at hg ⊢
  obtain⟨hil,hN⟩:=hg
  by_cases hlt:i<ids.length
  ·have d1:decide ((i:Int)< (ids.length:Int))=true:=decide_eq_true (by omega)
   have ixi:=hir.idx true i hlt
   have ldi:=aj4_ hir hlt
   have hibl:=hir.lt (by omega)
   have rdi: ∀X,New w1.heap.size X→zy_ w1 X ib=some (.cells iarr iE ifz):=fun X hX=>by rw[qx_ (hX.not hibl)];exact hir.has (by omega)
   have rdi1:=rdi _ hN
   generalize ids.getD i id0=x at*
   first|with_reducible refine ks [] (And.intro @zr_ (And.intro @lni (And.intro @d1 (And.intro @ixi (And.intro @ldi (@rdi1)))))) ?_|refine kp (And.intro @zr_ (And.intro @lni (And.intro @d1 (And.intro @ixi (And.intro @ldi (@rdi1)))))) ?_
   refine Ow.callFV rfl Tryd.call9 (fun w' hw'=>Xk_ bm (Z.map ShL.name) (q.map Prod.fst) L x w' (hm1.old hw' hN) hM.hr (by omega) (by omega)) ?_
   unfold Vw_
   have hno:=fun h=>hM.no (x:=x) h
   have hyes:=fun s hs hx hm=>hM.yes (x:=x) (s:=s) hs hx hm
   generalize afD_ (Z.map ShL.name) (qO_ L x)=nm at*
   generalize qO_ L x=FL at*
   obtain⟨Fl,Fb⟩:=FL
   simp only at hno hyes ⊢
   refine ko @zr_ ?_
   refine Ow.alloc rfl rfl Kc_ fun b11 hb11 hw11=> ?_
   simp only[zg_,List.nil_append,List.cons_append]
   refine Ow.permL (M:=(b11, .cells (lnC Go.Proofs.ln0).toArray 38 (0,0))::DG) (by classical exact List.perm_iff_count.2 fun a=>by simp only[List.count_append,List.count_cons,List.count_nil]<;>omega) ?_
   refine ko @zr_ ?_
   first|with_reducible refine ks [] @zr_ ?_|refine kp @zr_ ?_
   refine Cw.loopG (G:=MfK) [68,69,70,71,75,76,77,78,79,80,74,81,82,15,16,84,85,86,87,88,89,83,90,91,17,18,92,93,94,95,96,97,98,99,100,101,102,103,104,105,106,107,108,109,110,13,72,73,14] (fun p=> [(13,vi ((p.F:Int) - 1)),(14,vi p.k)]) (fun p=>(b11, .cells (lnC Fl).toArray 38 (0,0))::p.DG) (fun p=>p.k≤l.length∧New w1.heap.size p.DG∧Frst l x p.k p.F) (fun p=>l.length - p.k) ⟨0,0,DG⟩ rfl rfl ?_ ?_
   ·exact⟨Nat.zero_le _,hN, .inl ⟨rfl,fun i hi=>absurd hi (Nat.not_lt_zero _)⟩⟩
   intro p jp hp
   refine kv ?_
   obtain⟨k,F,DK⟩:=p
   simp only at hp ⊢
   obtain⟨hk,hNK,hF⟩:=hp
   have hN2:New w1.heap.size ((b11,Obj.cells (lnC Fl).toArray 38 (0,0))::DK):=⟨hw11,hNK⟩
   by_cases hkl:k<l.length
   ·have d2:decide ((k:Int)< (l.length:Int))=true:=decide_eq_true (by omega)
    have ixs:=hr.idx true k hkl
    have lds0: ∀n,zn_ (some (false,n)) (some (.cells arr E fz)) (off+k*2)=some (vs (l.getD k sh0).name):=fun n=>X5_ hr hkl n
    have lds1: ∀n,zn_ (some (false,n)) (some (.cells arr E fz)) (off+k*2+1)=some (vs (l.getD k sh0).bytes):=fun n=>Wf_ hr hkl n
    have hrl:=hr.lt (by omega)
    have rds: ∀X,New w1.heap.size X→zy_ w1 X rb=some (.cells arr E fz):=fun X hX=>by rw[qx_ (hX.not hrl)];exact hr.has (by omega)
    have rds1:=rds _ hN2
    have rds0:=rds _ hNK
    have hsl:l.getD k sh0∈l:=by rw[List.getD_eq_getElem?_getD,List.getElem?_eq_getElem hkl];exact List.getElem_mem _
    have hsb:=hb _ hsl
    obtain⟨j,hj,hej,hoi⟩:=hM.opens hsl
    have hskip:=hF.skip
    have hnew:=hF.new
    have hkeep:=hF.keep
    have hhas: (xj_ (q.getD j ([],[])).2 x).2=Ki_ x (l.getD k sh0):=by unfold Ki_;rw[hoi]
    have hoi':j3_ (l.getD k sh0).bytes=some ((q.getD j ([],[])).1,(q.getD j ([],[])).2):=hoi
    have hok:=q4_ (openI_iff.1 hoi').1
    generalize q.getD j ([],[])=qj at*
    obtain⟨qs,ql⟩:=qj
    simp only at hhas hok
    generalize l.getD k sh0=s at*
    first|with_reducible refine ks [] (And.intro @zr_ (And.intro @ln (And.intro @d2 (And.intro @ixs (And.intro @rds1 (And.intro @rds0 (@lds1))))))) ?_|refine kp (And.intro @zr_ (And.intro @ln (And.intro @d2 (And.intro @ixs (And.intro @rds1 (And.intro @rds0 (@lds1))))))) ?_
    refine Ow.callC rfl rfl Tryd.call10 (fun w' hw'=>wx_ s.bytes w' (hC1.newP hw' hN2) (by omega)) (fun B5 v5 D5 hA5 hB5 hN5 hS5=> ?_)
    unfold Kr_ at hS5
    rw[hoi] at hS5
    obtain⟨bi,rfl,hID⟩:=hS5
    simp only at hID
    have hN5':=hN5.mono hB5
    have hN3:=hN2.app hN5'
    have rdi2:=rdi _ (hNK.app hN5')
    refine ko @zr_ ?_
    first|with_reducible refine ks [] (And.intro @zr_ (And.intro @ixi (And.intro @ldi (@rdi2)))) ?_|refine kp (And.intro @zr_ (And.intro @ixi (And.intro @ldi (@rdi2)))) ?_
    refine Ow.callFV rfl Tryd.call11 (fun w' hw'=>JO_ bi qs ql x w' ((hID.mono (D':=((b11,Obj.cells (lnC Fl).toArray 38 (0,0))::DK)++D5) fun p hp=>List.mem_append_right _ hp).inW hw') hok.1 (by omega)) ?_
    rw[hhas]
    refine ko @zr_ ?_
    refine Ow.alloc rfl rfl zrRw fun b17 hb17 hw17=> ?_
    simp only[zg_,List.nil_append,List.cons_append]
    refine Ow.permL (M:=(b17, .cells (rwC rw0).toArray 45 (0,0)):: ((b11, .cells (lnC Fl).toArray 38 (0,0)):: (DK++D5))) (by classical exact List.perm_iff_count.2 fun a=>by simp only[List.count_append,List.count_cons,List.count_nil]<;>omega) ?_
    refine ko @zr_ ?_
    refine Cw.permL (M:=(b11, .cells (lnC Fl).toArray 38 (0,0)):: ((b17, .cells (rwC (xj_ ql x).1).toArray 45 (0,0)):: (DK++D5))) (by classical exact List.perm_iff_count.2 fun a=>by simp only[List.count_append,List.count_cons,List.count_nil]<;>omega) ?_
    have hN17:New w1.heap.size ((b17,Obj.cells (rwC (xj_ ql x).1).toArray 45 (0,0)):: (DK++D5)):=⟨hw17,hNK.app hN5'⟩
    have rds3:=rds _ (hNK.app hN5')
    have rds2:=rds _ (show New w1.heap.size ((b11,Obj.cells (lnC Fl).toArray 38 (0,0)):: ((b17,Obj.cells (rwC (xj_ ql x).1).toArray 45 (0,0)):: (DK++D5))) from⟨hw11,hN17⟩)
    cases hx2:Ki_ x s with
    |false=>
     rw[hx2] at hskip
     first|with_reducible refine ks [] @zr_ ?_|refine kp @zr_ ?_
     refine Cw.regionS [rb] [0,1,2,3,4,5,6,7,8,10,11,12,13,9,14,15,16,17] [] (by kernel_rfl) (by kernel_rfl) (by kernel_rfl) ?_
     simp only[zj_, ↓zf_, ↓zb_, ↓zp_, ↓zq_,zc_]
     refine kq @zr_ ?_
     try with_reducible refine Ow.nil ?_
     first|with_reducible refine ks [] @zr_ ?_|refine kp @zr_ ?_
     exact Again.mk (MfK.mk (k+1) F ((b17, .cells (rwC (xj_ ql x).1).toArray 45 (0,0)):: (DK++D5))) (by show l.length - (k+1)<l.length - k;omega) ⟨hkl,hN17,hskip rfl⟩ rfl rfl
    |true=>
     rw[hx2] at hnew
     by_cases hF0:F=0
     ·have dF:decide ((F:Int) - 1<0)=true:=decide_eq_true (by omega)
      have eK': ((k+1:Nat):Int) - 1=(k:Int):=by omega
      first|with_reducible refine ks [] @zr_ ?_|refine kp @zr_ ?_
      refine Cw.regionS [rb] [0,1,2,3,4,5,6,7,8,10,11,12,13,9,14,15,16,17] [] (by kernel_rfl) (by kernel_rfl) (by kernel_rfl) ?_
      simp only[zj_, ↓zf_, ↓zb_, ↓zp_, ↓zq_,zc_]
      refine kq (And.intro @zr_ @dF) ?_
      try with_reducible refine Ow.nil ?_
      first|with_reducible refine ks [] @zr_ ?_|refine kp @zr_ ?_
      exact Again.mk (MfK.mk (k+1) (k+1) ((b17, .cells (rwC (xj_ ql x).1).toArray 45 (0,0)):: (DK++D5))) (by show l.length - (k+1)<l.length - k;omega) ⟨hkl,hN17,hnew rfl (.inl hF0)⟩ rfl (by simp only[eK'];rfl)
     ·have dF:decide ((F:Int) - 1<0)=false:=decide_eq_false (by omega)
      have hFk:F≤k:=by
       rcases hF with⟨h,-⟩ | ⟨-,h,-⟩
       ·exact absurd h hF0
       ·exact h
      have eF: (F:Int) - 1=((F - 1:Nat):Int):=by omega
      have dF':decide (((F - 1:Nat):Int)<0)=false:=decide_eq_false (by omega)
      have ixf:=hr.idx true (F - 1) (by omega)
      have ldf0: ∀n,zn_ (some (false,n)) (some (.cells arr E fz)) (off+ (F - 1)*2)=some (vs (l.getD (F - 1) sh0).name):=fun n=>X5_ hr (by omega) n
      cases hl3:ltB s.name (l.getD (F - 1) sh0).name with
      |true=>
       have hl4:Op.bytesLess s.name (l.getD (F - 1) sh0).name=true:=hl3
       have eK': ((k+1:Nat):Int) - 1=(k:Int):=by omega
       first|with_reducible refine ks [] @zr_ ?_|refine kp @zr_ ?_
       refine Cw.regionS [rb] [0,1,2,3,4,5,6,7,8,10,11,12,13,9,14,15,16,17] [] (by kernel_rfl) (by kernel_rfl) (by kernel_rfl) ?_
       simp only[zj_, ↓zf_, ↓zb_, ↓zp_, ↓zq_,zc_]
       refine kq (And.intro @zr_ (And.intro @dF (And.intro @dF' (And.intro @eF (And.intro @ixs (And.intro @ixf (And.intro @rds2 (And.intro @rds3 (And.intro @lds0 (And.intro @ldf0 (@hl4))))))))))) ?_
       try with_reducible refine Ow.nil ?_
       first|with_reducible refine ks [] @zr_ ?_|refine kp @zr_ ?_
       exact Again.mk (MfK.mk (k+1) (k+1) ((b17, .cells (rwC (xj_ ql x).1).toArray 45 (0,0)):: (DK++D5))) (by show l.length - (k+1)<l.length - k;omega) ⟨hkl,hN17,hnew rfl (.inr hl3)⟩ rfl (by simp only[eK'];rfl)
      |false=>
       have hl4:Op.bytesLess s.name (l.getD (F - 1) sh0).name=false:=hl3
       first|with_reducible refine ks [] @zr_ ?_|refine kp @zr_ ?_
       refine Cw.regionS [rb] [0,1,2,3,4,5,6,7,8,10,11,12,13,9,14,15,16,17] [] (by kernel_rfl) (by kernel_rfl) (by kernel_rfl) ?_
       simp only[zj_, ↓zf_, ↓zb_, ↓zp_, ↓zq_,zc_]
       refine kq (And.intro @zr_ (And.intro @dF (And.intro @dF' (And.intro @eF (And.intro @ixs (And.intro @ixf (And.intro @rds2 (And.intro @rds3 (And.intro @lds0 (And.intro @ldf0 (@hl4))))))))))) ?_
       try with_reducible refine Ow.nil ?_
       first|with_reducible refine ks [] @zr_ ?_|refine kp @zr_ ?_
       exact Again.mk (MfK.mk (k+1) F ((b17, .cells (rwC (xj_ ql x).1).toArray 45 (0,0)):: (DK++D5))) (by show l.length - (k+1)<l.length - k;omega) ⟨hkl,hN17,hkeep hF0 hl3⟩ rfl (by simp only[eF];rfl)
   ·obtain rfl:k=l.length:=by omega
    have d2:decide ((l.length:Int)< (l.length:Int))=false:=decide_eq_false (by omega)
    by_cases hF0:F=0
    ·have dF:decide ((F:Int) - 1<0)=true:=decide_eq_true (by omega)
     have hall: ∀s,s∈l→Ki_ x s=false:=by
      intro s hs
      obtain⟨t,ht,rfl⟩:=List.getElem_of_mem hs
      rcases hF with⟨-,h⟩ | ⟨h,-⟩
      ·have:=h t ht
       rwa [List.getD_eq_getElem?_getD,List.getElem?_eq_getElem ht] at this
      ·exact absurd hF0 h
     obtain rfl:Fb=false:=congrArg Prod.snd (hno hall)
     first|with_reducible refine ks [] (And.intro @zr_ (And.intro @ln (And.intro @d2 (@dF)))) ?_|refine kp (And.intro @zr_ (And.intro @ln (And.intro @d2 (@dF)))) ?_
     exact Again.mk ⟨i+1,(b11, .cells (lnC Fl).toArray 38 (0,0))::DK⟩ (by show ids.length - (i+1)<ids.length - i;omega) ⟨hlt,hN2⟩ rfl rfl
    ·have dF:decide ((F:Int) - 1<0)=false:=decide_eq_false (by omega)
     obtain⟨hFk,hFx,hFm⟩:F≤l.length∧Ki_ x (l.getD (F - 1) sh0)=true∧ ∀i,i<l.length→Ki_ x (l.getD i sh0)=true→ltB (l.getD i sh0).name (l.getD (F - 1) sh0).name=false:=by
      rcases hF with⟨h,-⟩ | ⟨-,h⟩
      ·exact absurd h hF0
      ·exact h
     have hkl:F - 1<l.length:=by omega
     have eF: (F:Int) - 1=((F - 1:Nat):Int):=by omega
     have dF':decide (((F - 1:Nat):Int)<0)=false:=decide_eq_false (by omega)
     have ixs:=hr.idx true (F - 1) hkl
     have lds0: ∀n,zn_ (some (false,n)) (some (.cells arr E fz)) (off+ (F - 1)*2)=some (vs (l.getD (F - 1) sh0).name):=fun n=>X5_ hr hkl n
     have lds1: ∀n,zn_ (some (false,n)) (some (.cells arr E fz)) (off+ (F - 1)*2+1)=some (vs (l.getD (F - 1) sh0).bytes):=fun n=>Wf_ hr hkl n
     have hrl:=hr.lt (by omega)
     have rds: ∀X,New w1.heap.size X→zy_ w1 X rb=some (.cells arr E fz):=fun X hX=>by rw[qx_ (hX.not hrl)];exact hr.has (by omega)
     have rds1:=rds _ hN2
     have rds0:=rds _ hNK
     have hsl:l.getD (F - 1) sh0∈l:=by rw[List.getD_eq_getElem?_getD,List.getElem?_eq_getElem hkl];exact List.getElem_mem _
     have hsb:=hb _ hsl
     obtain⟨hy1,hy2,hy3,hy4⟩:=hyes _ hsl hFx (fun t ht hx=>by
      obtain⟨m,hm,rfl⟩:=List.getElem_of_mem ht
      have e:l.getD m sh0=l[m]:=by rw[List.getD_eq_getElem?_getD,List.getElem?_eq_getElem hm];rfl
      rw[←e] at hx ⊢
      exact hFm m hm hx)
     subst hy1 hy4
     obtain⟨j,hj,hej,hoi⟩:=hM.opens hsl
     have hrow:rowX x (l.getD (F - 1) sh0)=(xj_ (q.getD j ([],[])).2 x).1:=by unfold rowX;rw[hoi]
     have hoi':j3_ (l.getD (F - 1) sh0).bytes=some ((q.getD j ([],[])).1,(q.getD j ([],[])).2):=hoi
     have hok:=q4_ (openI_iff.1 hoi').1
     rw[hrow] at hy2 hy3
     generalize q.getD j ([],[])=qj at*
     obtain⟨qs,ql⟩:=qj
     simp only at hok hy2 hy3
     generalize l.getD (F - 1) sh0=s at*
     first|with_reducible refine ks [] (And.intro @zr_ (And.intro @ln (And.intro @d2 (And.intro @dF (And.intro @dF' (And.intro @eF (And.intro @ixs (And.intro @rds1 (And.intro @rds0 (@lds1)))))))))) ?_|refine kp (And.intro @zr_ (And.intro @ln (And.intro @d2 (And.intro @dF (And.intro @dF' (And.intro @eF (And.intro @ixs (And.intro @rds1 (And.intro @rds0 (@lds1)))))))))) ?_
     refine Ow.callC rfl rfl Tryd.call10 (fun w' hw'=>wx_ s.bytes w' (hC1.newP hw' hN2) (by omega)) (fun B5 v5 D5 hA5 hB5 hN5 hS5=> ?_)
     unfold Kr_ at hS5
     rw[hoi] at hS5
     obtain⟨bi,rfl,hID⟩:=hS5
     simp only at hID
     have hN5':=hN5.mono hB5
     have hN3:=hN2.app hN5'
     have rdi2:=rdi _ (hNK.app hN5')
     refine ko @zr_ ?_
     first|with_reducible refine ks [] (And.intro @zr_ (And.intro @ixi (And.intro @ldi (@rdi2)))) ?_|refine kp (And.intro @zr_ (And.intro @ixi (And.intro @ldi (@rdi2)))) ?_
     refine Ow.callFV rfl Tryd.call11 (fun w' hw'=>JO_ bi qs ql x w' ((hID.mono (D':=((b11,Obj.cells (lnC Fl).toArray 38 (0,0))::DK)++D5) fun p hp=>List.mem_append_right _ hp).inW hw') hok.1 (by omega)) ?_
     generalize xj_ ql x=fr at*
     refine ko @zr_ ?_
     refine Ow.alloc rfl rfl zrRw fun b21 hb21 hw21=> ?_
     simp only[zg_,List.nil_append,List.cons_append]
     have h1121:b11<b21:=zz_ hb21 (by simp[keys])
     refine Ow.permL (M:=(b21, .cells (rwC rw0).toArray 45 (0,0)):: ((b11, .cells (lnC Fl).toArray 38 (0,0)):: (DK++D5))) (by classical exact List.perm_iff_count.2 fun a=>by simp only[List.count_append,List.count_cons,List.count_nil]<;>omega) ?_
     refine ko @zr_ ?_
     have hN21:New w1.heap.size ((b21,Obj.cells (rwC fr.1).toArray 45 (0,0)):: ((b11, .cells (lnC Fl).toArray 38 (0,0)):: (DK++D5))):=⟨hw21,hw11,hNK.app hN5'⟩
     have rds3:=rds _ (hNK.app hN5')
     have rds2:=rds _ hN21
     have e4: (s.name !=s.name)=false:=bne_self_eq_false _
     have e5: (Fl.place !=fr.1.place)=false:=by rw[hy2];exact bne_self_eq_false _
     have e6: (Fl.spot !=fr.1.spot)=false:=by rw[hy3];exact bne_self_eq_false _
     first|with_reducible refine ks [] (And.intro @zr_ (And.intro @eF (And.intro @ixs (And.intro @lds0 (And.intro @rds2 (And.intro @rds3 (And.intro @e4 (And.intro @e5 (@e6))))))))) ?_|refine kp (And.intro @zr_ (And.intro @eF (And.intro @ixs (And.intro @lds0 (And.intro @rds2 (And.intro @rds3 (And.intro @e4 (And.intro @e5 (@e6))))))))) ?_
     exact Again.mk ⟨i+1,(b21,Obj.cells (rwC fr.1).toArray 45 (0,0)):: ((b11, .cells (lnC Fl).toArray 38 (0,0)):: (DK++D5))⟩ (by show ids.length - (i+1)<ids.length - i;omega) ⟨hlt,hN21⟩ rfl rfl
  ·obtain rfl:i=ids.length:=by omega
   have d1:decide ((ids.length:Int)< (ids.length:Int))=false:=decide_eq_false (by omega)
   first|with_reducible refine ks [] (And.intro @zr_ (And.intro @lni (@d1))) ?_|refine kp (And.intro @zr_ (And.intro @lni (@d1))) ?_
   refine Ow.callFV rfl Tryd.call5 (fun w' hw'=>xr_ w' (hC1.newP hw' hN)) ?_
   refine ko @zr_ ?_
   first|with_reducible refine ks [] @zr_ ?_|refine kp @zr_ ?_
   refine⟨_,(ke @zr_),hN, ?_⟩
   rfl
end Go.Proofs
end
section
open Go Go.Proofs Go.Sx Go.StP Go.Flo
namespace Go.Proofs
set_option maxRecDepth 10000
set_option maxHeartbeats 400000
set_option linter.unusedSimpArgs false
set_option linter.defProp false
def ann_:=And.intro (@ze_) (And.intro (@zd_) (@Vn_))
def cpR (p:PcL) (b:Int):Value:=match cpV p b with
 |some q=> .tuple #[vi q.1,vi q.2, .bool true]
 |none=>if(1≤p.n∧p.n≤4099)∧p.x= []∧(p.n:Int)≤b then .tuple #[vi 0,vi p.n, .bool false] else .tuple #[vi 0,vi 0, .bool false]
set_option linter.defProp false
def anf_:=And.intro (And.intro (And.intro (And.intro (@ze_) (@zd_)) (And.intro (@jC_) (@jD_))) (And.intro (And.intro (@xJ_) (@jE_)) (And.intro (@ZN_) (@cxz)))) (And.intro (And.intro (And.intro (@Kb_) (@XQ_)) (And.intro (@xl_) (@Sx.tup2_0))) (And.intro (And.intro (@Sx.tup2_1) (@Sx.tup3_0)) (And.intro (@Sx.tup3_1) (@Sx.tup3_2))))
end Go.Proofs
end
section
open Go Go.Proofs Go.Sx Go.StP Go.Flo
namespace Go.Proofs
set_option maxRecDepth 10000
set_option maxHeartbeats 400000
set_option linter.unusedSimpArgs false
set_option linter.defProp false
def an1_:=And.intro (And.intro (And.intro (And.intro (@ze_) (@zd_)) (And.intro (@jC_) (@jD_))) (And.intro (And.intro (@xJ_) (@jE_)) (And.intro (@ZN_) (@cxz)))) (And.intro (And.intro (And.intro (@Kb_) (@XQ_)) (And.intro (@xl_) (@Sx.tup2_0))) (And.intro (And.intro (@Sx.tup2_1) (@Sx.tup3_0)) (And.intro (@Sx.tup3_1) (@Sx.tup3_2))))
end Go.Proofs
end
section
open Go Go.Proofs Go.Sx Go.StP Go.Flo
namespace Go.Proofs
set_option maxRecDepth 10000
set_option maxHeartbeats 400000
set_option linter.unusedSimpArgs false
set_option linter.defProp false
def anY_:=And.intro (And.intro (And.intro (@ze_) (@zd_)) (And.intro (@jC_) (And.intro (@jD_) (@xJ_)))) (And.intro (And.intro (@jE_) (And.intro (@Sx.tup2_0) (@Sx.tup2_1))) (And.intro (@Sx.tup3_0) (And.intro (@Sx.tup3_1) (@Sx.tup3_2))))
end Go.Proofs
end
section
open Go Go.Proofs Go.Sx Go.StP Go.Flo
namespace Go.Proofs
set_option maxRecDepth 10000
set_option maxHeartbeats 400000
set_option linter.unusedSimpArgs false
set_option linter.defProp false
def amQ_:=And.intro (And.intro (And.intro (@ze_) (@zd_)) (And.intro (@jC_) (And.intro (@jD_) (@xJ_)))) (And.intro (And.intro (@jE_) (And.intro (@Sx.tup2_0) (@Sx.tup2_1))) (And.intro (@Sx.tup3_0) (And.intro (@Sx.tup3_1) (@Sx.tup3_2))))
end Go.Proofs
end
section
open Go Go.Proofs Go.Sx Go.StP Go.Flo
namespace Go.Proofs
set_option maxRecDepth 10000
set_option maxHeartbeats 400000
set_option linter.unusedSimpArgs false
structure RrG where
 a:Nat
 e:Int
 out:List PcL
 v:Value
 D:za_
 DG:za_
set_option linter.defProp false
def amR_:=And.intro (And.intro (And.intro (@ze_) (And.intro (@zd_) (@jC_))) (And.intro (@jD_) (And.intro (@xJ_) (@jE_)))) (And.intro (And.intro (@Sx.tup2_0) (And.intro (@Sx.tup2_1) (@Sx.tup3_0))) (And.intro (@Sx.tup3_1) (And.intro (@Sx.tup3_2) (@xl_))))
end Go.Proofs
end
section
open Go Go.Proofs Go.Sx Go.StP Go.Flo
namespace Go.Proofs
set_option maxRecDepth 10000
set_option maxHeartbeats 400000
set_option linter.unusedSimpArgs false
set_option linter.defProp false
def amq_:=And.intro (And.intro (And.intro (@ze_) (@zd_)) (And.intro (@jC_) (And.intro (@jD_) (@xJ_)))) (And.intro (And.intro (@jE_) (And.intro (@Sx.tup2_0) (@Sx.tup2_1))) (And.intro (@Sx.tup3_0) (And.intro (@Sx.tup3_1) (@Sx.tup3_2))))
structure PrG where
 at_:Nat
 out:List Nat
 v:Value
 D:za_
 DG:za_
set_option linter.defProp false
def anB_:=And.intro (And.intro (And.intro (@ze_) (@zd_)) (And.intro (@qX_) (@qU_))) (And.intro (And.intro (@qT_) (@qB_)) (And.intro (@Sx.tup2_0) (@Sx.tup2_1)))
end Go.Proofs
end
section
open Go Go.Proofs Go.Sx Go.StP Go.Flo
namespace Go.Proofs
set_option maxRecDepth 10000
set_option maxHeartbeats 400000
set_option linter.unusedSimpArgs false
def BndD (l:List PartL):Prop:= ∀g,g<l.length→(l.getD g wS_).x.length<100000000
structure TrG where
 n:Nat
 s:List UInt8
 DG:za_
set_option linter.defProp false
def anZ_:=And.intro (And.intro (And.intro (@ze_) (@zd_)) (And.intro (@qX_) (@qU_))) (And.intro (And.intro (@qT_) (@qB_)) (And.intro (@Sx.tup2_0) (@Sx.tup2_1)))
end Go.Proofs
end
section
open Go Go.Proofs Go.Sx Go.StP Go.Flo
namespace Go.Proofs
set_option maxRecDepth 10000
set_option maxHeartbeats 400000
set_option linter.unusedSimpArgs false
structure A9G where
 ts:List (List UInt8)
 v:Value
 D:za_
 DG:za_
set_option linter.defProp false
def an7_:=And.intro (And.intro (@ze_) (@zd_)) (And.intro (@Sx.tup2_0) (@Sx.tup2_1))
end Go.Proofs
end
section
open Go Go.Proofs Go.Sx Go.StP Go.Flo
namespace Go.Proofs
set_option maxRecDepth 10000
set_option maxHeartbeats 400000
set_option linter.unusedSimpArgs false
set_option linter.defProp false
def amZ_:=And.intro (And.intro (@ze_) (@zd_)) (And.intro (@qH_) (@adS_))
end Go.Proofs
end
section
open Go Go.Proofs Go.Sx Go.StP Go.Flo
namespace Go.Proofs
set_option maxRecDepth 10000
set_option maxHeartbeats 1000000
set_option linter.unusedSimpArgs false
def mkV (v0 v1 v2 v3:Value):Value:= .agg #[v0,v1,v2,v3]
abbrev OneC (q:Value):Prop:=Value.oneCell' q=true∧q.cells= #[q]
set_option linter.defProp false
def aoc_:=And.intro (And.intro (And.intro (@ze_) (@zd_)) (And.intro (@Sx.tup2_0) (@Sx.tup2_1))) (And.intro (And.intro (@qv_) (@z4_)) (And.intro (@z6_) (And.intro (@qb_) (@qH_))))
end Go.Proofs
end
section
open Go Go.Proofs Go.Sx Go.StP Go.Flo
namespace Go.Proofs
set_option maxRecDepth 10000
set_option maxHeartbeats 400000
set_option linter.unusedSimpArgs false
structure SvG where
 k:Nat
 out:List ObL
 v6:Value
 D6:za_
 DG:za_
set_option linter.defProp false
def amY_:=And.intro (And.intro (And.intro (@ze_) (@zd_)) (And.intro (@Sx.tup2_0) (@Sx.tup2_1))) (And.intro (And.intro (@qv_) (@z4_)) (And.intro (@z6_) (@qb_)))
end Go.Proofs
end
section
open Go Go.Proofs Go.Sx Go.StP Go.Flo
namespace Go.Proofs
set_option maxRecDepth 10000
set_option maxHeartbeats 400000
set_option linter.unusedSimpArgs false
def ajJ_:Nat→List PartL→Nat→Nat
 |_,[],_=>0
 |i,p::r,j=>if(abv_ i p).length≤j then ajJ_ (i+1) r (j - (abv_ i p).length)+1 else 0
def endG (a i:Nat) (l:List PartL) (k:Nat):Nat:=a+ (aff_ i (l.take (k+1))).length
end Go.Proofs
end
section
open Go Go.Proofs Go.Sx Go.StP Go.Flo
namespace Go.Proofs
set_option maxRecDepth 10000
set_option maxHeartbeats 400000
set_option linter.unusedSimpArgs false
def sumX (l:List PartL):Nat:=(l.map fun p=>p.x.length).sum
def sumW (l:List PartL):Nat→Int
 |0=>0
 |k+1=>IntKind.i64.wrap (sumW l k+ (l.getD k wS_).x.length)
def aml_ (l:List PartL):Bool:=decide (210<l.length) || (List.range l.length).any fun k=>decide (30000<sumW l (k+1))
set_option linter.defProp false
def anX_:=And.intro (And.intro (@ze_) (And.intro (@zd_) (@qX_))) (And.intro (@qU_) (And.intro (@qT_) (@vb_)))
end Go.Proofs
end
section
open Go Go.Proofs Go.Sx Go.StP Go.Flo
namespace Go.Proofs
set_option maxRecDepth 10000
set_option maxHeartbeats 400000
set_option linter.unusedSimpArgs false
def abS:List UInt8:= [98,2,97,98]
def abP:PartL:=⟨false,0,abS⟩
set_option linter.defProp false
def an3_:=And.intro (And.intro (And.intro (@ze_) (@zd_)) (And.intro (@Sx.tup2_0) (@Sx.tup2_1))) (And.intro (And.intro (@qv_) (@z4_)) (And.intro (@z6_) (And.intro (@qb_) (@qB_))))
end Go.Proofs
end
section
open Go Go.Proofs Go.Sx Go.StP Go.Flo
namespace Go.Proofs
set_option maxRecDepth 10000
set_option maxHeartbeats 400000
set_option linter.unusedSimpArgs false
set_option linter.defProp false
def an8_:=And.intro (And.intro (@ze_) (@zd_)) (And.intro (@Sx.tup2_0) (@Sx.tup2_1))
end Go.Proofs
end
namespace Go.Sx
def kB (c:Bool):BitVec 32:=bif c then 3988292384#32 else 0#32
def stB (x:BitVec 32):BitVec 32:=(x>>>1)^^^kB (x.getLsbD 0)
def hvB:List (BitVec 32):= [0x00000000,0x1db71064,0x3b6e20c8,0x26d930ac,0x76dc4190,0x6b6b51f4,0x4db26158,0x5005713c,0xedb88320,0xf00f9344,0xd6d6a3e8,0xcb61b38c,0x9b64c2b0,0x86d3d2d4,0xa00ae278,0xbdbdf21c]
end Go.Sx
section
open Go Go.Proofs Go.Sx
namespace Go.Proofs
set_option maxRecDepth 10000
set_option maxHeartbeats 4000000
set_option linter.unusedSimpArgs false
def ak6_ (n:UInt32):UInt32:=if n%2==1 then n / 2^^^3988292384 else n / 2
def alz_ (n:UInt32):Nat→UInt32
 |0=>n
 |k+1=>ak6_ (alz_ n k)
set_option linter.defProp false
def anI_:=And.intro (And.intro (@ze_) (@ve_)) (And.intro (@k3_) (And.intro (@k4_) (@zd_)))
end Go.Proofs
end
section
open Go Go.Proofs Go.Sx Go.StP Go.Flo
namespace Go.Proofs
set_option maxRecDepth 10000
set_option maxHeartbeats 1000000
set_option linter.unusedSimpArgs false
set_option linter.defProp false
def amV_:=And.intro (And.intro (@ze_) (And.intro (@zd_) (@qX_))) (And.intro (@qU_) (And.intro (@qT_) (@qB_)))
end Go.Proofs
end
section
open Go Go.Proofs Go.Sx Go.StP Go.Flo
namespace Go.Proofs
set_option maxRecDepth 10000
set_option maxHeartbeats 1000000
set_option linter.unusedSimpArgs false
structure RdDG where
 l:List PartL
 sp:List Nat
 a:Nat
 v1:Value
 v2:Value
 D1:za_
 D2:za_
 DG:za_
set_option linter.defProp false
def amN_:=And.intro (And.intro (@ze_) (@zd_)) (And.intro (@qB_) (@vb_))
end Go.Proofs
end
section
open Go Go.Proofs Go.Sx Go.StP Go.Flo
namespace Go.Proofs
set_option maxRecDepth 10000
set_option maxHeartbeats 1000000
set_option linter.unusedSimpArgs false
theorem aj6_ (a b c d e:Value): #[a,b,c,d,e][0]? =some a:=rfl
theorem ajC_ (a b c d e:Value): #[a,b,c,d,e][1]? =some b:=rfl
theorem akw_ (a b c d e:Value): #[a,b,c,d,e][2]? =some c:=rfl
theorem aj0_ (a b c d e:Value): #[a,b,c,d,e][3]? =some d:=rfl
theorem ajT_ (a b c d e:Value): #[a,b,c,d,e][4]? =some e:=rfl
set_option linter.defProp false
def anW_:=And.intro (And.intro (And.intro (@ze_) (@zd_)) (And.intro (@Sx.tup2_0) (@Sx.tup2_1))) (And.intro (And.intro (@aj6_) (@ajC_)) (And.intro (@akw_) (And.intro (@aj0_) (@ajT_))))
end Go.Proofs
end
section
open Go Go.Proofs Go.Sx Go.StP Go.Flo
namespace Go.Proofs
set_option maxRecDepth 10000
set_option maxHeartbeats 1000000
set_option linter.unusedSimpArgs false
set_option linter.defProp false
def aoj_:=And.intro (And.intro (@ze_) (And.intro (@zd_) (@qv_))) (And.intro (And.intro (@z4_) (@z6_)) (And.intro (@qb_) (@qH_)))
end Go.Proofs
end
section
open Go Go.Proofs Go.Sx Go.StP Go.Flo
namespace Go.Proofs
set_option maxRecDepth 10000
set_option maxHeartbeats 1000000
set_option linter.unusedSimpArgs false
structure SmG where
 i:Nat
 DG:za_
set_option linter.defProp false
def am4_:=And.intro (And.intro (And.intro (@ze_) (@zd_)) (And.intro (@qv_) (And.intro (@z4_) (@z6_)))) (And.intro (And.intro (@qb_) (@qH_)) (And.intro (@W3_) (And.intro (@Sx.tup2_0) (@Sx.tup2_1))))
end Go.Proofs
end
section
open Go Go.Proofs Go.Sx Go.StP Go.Flo
namespace Go.Proofs
set_option maxRecDepth 10000
set_option maxHeartbeats 1000000
set_option linter.unusedSimpArgs false
def Dst (l:List IdL):Prop:= ∀k,k<l.length→idxG (l.getD k id0) l 0=(k:Int)
set_option linter.defProp false
def am0_:=And.intro (And.intro (And.intro (@ze_) (@zd_)) (And.intro (@qv_) (And.intro (@z4_) (@z6_)))) (And.intro (And.intro (@qb_) (@qH_)) (And.intro (@W3_) (And.intro (@Sx.tup2_0) (@Sx.tup2_1))))
end Go.Proofs
end
section
open Go Go.Proofs Go.Sx Go.StP Go.ChangeShapes
namespace Go.Proofs
set_option maxRecDepth 10000
set_option maxHeartbeats 400000
end Go.Proofs
end
section
open Go Go.Proofs Go.Sx
namespace Go.Proofs
set_option maxRecDepth 10000
set_option maxHeartbeats 400000
theorem ah0_ {H:Type} {tell:TypeId×Value→H} {W:World} {base:Nat} {sp:Nat→Bool} {held:Bool} {n:Nat} {cs:List Value} {y:DataW H×List MemPlace}
  (h:DataW.trod tell Tryd.prog W base sp held n 36 cs=some y): ∃i:IdL,cs=i.l.map v8:=by
 obtain⟨xs,m,-,-,hlen,hxl,hel⟩:=DataW.trod_array Tryd.underlying36 h
 have hc: (Tryd.prog).cellsOf 36=32:=by kernel_rfl
 have h1: (Tryd.prog).cellsOf 5=1:=by kernel_rfl
 rw[hc] at hlen
 rw[h1] at hel
 have hex: ∀i (hi:i<cs.length),∃x:UInt8,cs[i]=v8 x:=by
  intro i hi
  have h2:=hel i (by omega)
  rw[List.getElem?_eq_getElem (by omega),Nat.mul_one,List.drop_eq_getElem_cons hi,List.take_succ_cons,List.take_zero] at h2
  obtain⟨z,hz,-,hw⟩:=DataW.trod_int Tryd.underlying5 h2
  simp only[List.cons.injEq,and_true] at hz
  rw[hz]
  simp only[Lit.wf,Bool.and_eq_true,decide_eq_true_eq] at hw
  have hw1:0≤z:=by simpa [IntKind.min,IntKind.bits,IntKind.signed] using hw.1
  have hw2:z≤255:=by simpa [IntKind.max,IntKind.bits,IntKind.signed] using hw.2
  refine⟨UInt8.ofNat z.toNat, ?_⟩
  unfold v8
  rw[UInt8.toNat_ofNat',Nat.mod_eq_of_lt (by omega)]
  congr 1;omega
 have hl: ∃l:List UInt8,cs=l.map v8:=by
  clear hel hlen hxl h
  induction cs with
  |nil=>exact⟨[],rfl⟩
  |cons c r ih=>
   obtain⟨x,hx⟩:=hex 0 (by simp)
   obtain⟨l,hl⟩:=ih (fun i hi=>by have:=hex (i+1) (by simpa using hi);simpa using this)
   exact⟨x::l,by rw[hl];simp at hx;simp[hx]⟩
 obtain⟨l,rfl⟩:=hl
 exact⟨⟨l,by simpa using hlen⟩,rfl⟩
end Go.Proofs
end
section
open Go Go.Proofs Go.Sx Go.StP Go.ChangeShapes
namespace Go.Proofs
set_option maxRecDepth 10000
set_option maxHeartbeats 400000
theorem ago_ {H:Type} {enc:TypeId×Value→H} {W:World} {r:Reach} {b0 base:Nat} {sp:Nat→Bool} {held:Bool} {v:Value} {d:DataW H} {p:List MemPlace}
  (hval:Value.okWide Tryd.prog W r b0 31 v) (hd:DataW.Trod enc Tryd.prog W base sp held 31 v d p): ∃l,SlV 32 idLC id0 W v l:=by
 obtain⟨a0,len,cap,rfl⟩:=WideShapes.okWide_slice Tryd.underlying31 hval
 obtain⟨fu,hf⟩:=hd
 exact ag4_ (z:=id0) Tryd.underlying31 (by kernel_rfl) (by decide) Vz_ hval (fun n cs y h=>by obtain⟨i,hi⟩:=ah0_ h;exact⟨i,hi⟩) hf
end Go.Proofs
end
