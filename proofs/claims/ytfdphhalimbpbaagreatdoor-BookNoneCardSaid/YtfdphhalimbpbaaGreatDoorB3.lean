/-
  Part 3 of the walk: contracts of the functions that the law reaches, and the calculus they stand on.
  No conditions.
-/
import Derived.Test.YtfdphhalimbpbaaGreatDoorB2
import Derived.ProofKit
import Derived.OpenShut
import Derived.WideKeyArgs
import Derived.ChangeSame
import Derived.ChangeMaps5
import Derived.Lib.LaidTab
import Derived.SliceStrings
import Derived.DataReads
import Derived.Deep.Strs
section
open Go Go.Proofs Go.Sx
namespace Go.Proofs
set_option maxRecDepth 10000
set_option maxHeartbeats 4000000
set_option linter.unusedSimpArgs false
set_option linter.defProp false
def z3_:=And.intro (And.intro (@zw_) (@qx_)) (And.intro (@qw_) (And.intro (@qu_) (@zv_)))
theorem Jo_ (s p:List UInt8) (w:World) (_hs:s.length<1099511627776):Rets Tryz.prog 295 #[vs s,vs p] w (fun v D=>v= .bool (decide (p.length≤s.length)&& (s.take p.length==p))∧D= []):=by
 refine Rets.enterV Tryz.func295 rfl (rs:= [.tmp 4]) Tryz.results295 Tryz.ntmps295 ?_
 refine kf ?_
 by_cases h:p.length≤s.length
 ·have e1:decide ((p.length:Int)≤ (s.length:Int))=true:=decide_eq_true (by omega)
  first|with_reducible refine ks [] (And.intro @z3_ @e1) ?_|refine kp (And.intro @z3_ @e1) ?_
  refine⟨_,(ke @z3_),trivial, ?_⟩
  simp[xq_,h]
 ·have e1:decide ((p.length:Int)≤ (s.length:Int))=false:=decide_eq_false (by omega)
  first|with_reducible refine ks [] (And.intro @z3_ @e1) ?_|refine kp (And.intro @z3_ @e1) ?_
  refine⟨_,(ke @z3_),trivial, ?_⟩
  simp[xq_,h]
def cutP (s p:List UInt8):List UInt8×Bool:=if(decide (p.length≤s.length)&& (s.take p.length==p))=true then(s.drop p.length,true) else(s,false)
theorem ZI_ (s p:List UInt8) (w:World) (hs:s.length<1099511627776):Rets Tryz.prog 253 #[vs s,vs p] w (fun v D=>v= .tuple #[vs (cutP s p).1, .bool (cutP s p).2]∧D= []):=by
 refine Rets.enterV Tryz.func253 rfl (rs:= [.tmp 4, .tmp 5]) Tryz.results253 Tryz.ntmps253 ?_
 refine kf ?_
 first|with_reducible refine ks [] @z3_ ?_|refine kp @z3_ ?_
 refine Ow.callFV rfl Tryz.call295 (fun w' hw'=>Jo_ s p w' hs) ?_
 refine ko @z3_ ?_
 unfold cutP
 cases h: (decide (p.length≤s.length)&& (s.take p.length==p))
 ·first|with_reducible refine ks [] @z3_ ?_|refine kp @z3_ ?_
  refine⟨_,(ke @z3_),trivial, ?_⟩
  rfl
 ·have hle:p.length≤s.length:=by
   rw[Bool.and_eq_true,decide_eq_true_eq] at h;exact h.1
  first|with_reducible refine ks [] @z3_ ?_|refine kp @z3_ ?_
  refine⟨_,(ke @z3_),trivial, ?_⟩
  rfl
theorem JI_ (s p:List UInt8) (w:World) (hs:s.length<1099511627776):Rets Tryz.prog 217 #[vs s,vs p] w (fun v D=>v= .tuple #[vs (cutP s p).1, .bool (cutP s p).2]∧D= []):=by
 refine Rets.enterV Tryz.func217 rfl (rs:= [.tmp 4, .tmp 5]) Tryz.results217 Tryz.ntmps217 ?_
 refine kf ?_
 first|with_reducible refine ks [] @z3_ ?_|refine kp @z3_ ?_
 refine Ow.callFV rfl Tryz.call253 (fun w' hw'=>ZI_ s p w' hs) ?_
 refine Ow.go rfl ?_
 simp(disch:=(first|assumption|omega| (simp only[qP_,qM_,UInt64.reduceToNat];try omega))) only[↓Sx.S0,Sx.S1,Tryz.fx,z3_,Nat.reduceAdd,Nat.reducePow,Int.reducePow,Nat.reduceBEq, ↓reduceIte,UInt8.reduceToNat,UInt16.reduceToNat,UInt32.reduceToNat,UInt64.reduceToNat,Int.reduceToNat,Sx.tup2_0,Sx.tup2_1]
 first|with_reducible refine ks [] @z3_ ?_|refine kp @z3_ ?_
 refine⟨_,(ke @z3_),trivial, ?_⟩
 rfl
def v9_ (c:Int):Bool:=decide (c<33) ||decide (126<c) || (c==47)
def j1_ (b:UInt8):Bool:=decide (b.toNat<33) ||decide (126<b.toNat) || (b.toNat==47)
theorem al5_ (a b:Bool):qy_ Tryz.prog .eql 4 (.bool a) (.bool b)=some (.bool (a==b)):=by
 simp[qy_,eqX,qk_,qp_,Tryz.underlying4]
theorem ahc_ (a:Value): (#[a]:Array Value)[0]? =some a:=(rfl)
set_option linter.defProp false
def zj_:=And.intro (And.intro (And.intro (@zw_) (And.intro (@qx_) (@qw_))) (And.intro (And.intro (@qu_) (@zv_)) (And.intro (@XT_) (@vn_)))) (And.intro (And.intro (And.intro (@vy_) (@vk_)) (And.intro (@WV_) (@ahc_))) (And.intro (And.intro (@Sx.tup3_0) (@Sx.tup3_1)) (And.intro (@Sx.tup3_2) (@al5_))))
theorem Jp_ (c:Int) (w:World):Rets Tryz.prog 205 #[Zg_ c] w (fun v D=>v= .bool (v9_ c)∧D= []):=by
 refine Rets.enterV Tryz.func205 rfl (rs:= [.tmp 2]) Tryz.results205 Tryz.ntmps205 ?_
 refine kf ?_
 unfold v9_
 cases h1:decide (c<33)
 ·cases h2:decide (126<c)
  ·first|with_reducible refine ks [] (And.intro @zj_ (And.intro @h1 (@h2))) ?_|refine kp (And.intro @zj_ (And.intro @h1 (@h2))) ?_
   refine⟨_,(ke @zj_),trivial, ?_⟩
   simp[xq_]
  ·first|with_reducible refine ks [] (And.intro @zj_ (And.intro @h1 (@h2))) ?_|refine kp (And.intro @zj_ (And.intro @h1 (@h2))) ?_
   refine⟨_,(ke @zj_),trivial, ?_⟩
   simp[xq_]
 ·first|with_reducible refine ks [] (And.intro @zj_ @h1) ?_|refine kp (And.intro @zj_ @h1) ?_
  refine⟨_,(ke @zj_),trivial, ?_⟩
  simp[xq_]
theorem acU_ (l:List UInt8) (i:Nat) (h:i<l.length):v9_ ((Utf8.decode ⟨l.toArray⟩ i).1:Nat)=j1_ (l.getD i 0)∧(j1_ (l.getD i 0)=false→(Utf8.decode ⟨l.toArray⟩ i).2=1):=by
 obtain⟨h0,h1,h2⟩:=ZK_ l i h
 by_cases hc: (l.getD i 0).toNat<128
 ·rw[h1 hc]
  refine⟨?_,fun _=>rfl⟩
  unfold v9_ j1_
  congr 1
  ·congr 1
   ·apply decide_eq_decide.2;omega
   ·apply decide_eq_decide.2;omega
  ·rw[Bool.eq_iff_iff,beq_iff_eq,beq_iff_eq];omega
 ·have h2':=h2 (by omega)
  have hb:j1_ (l.getD i 0)=true:=by
   unfold j1_
   rw[decide_eq_true (show 126< (l.getD i 0).toNat by omega)];simp
  rw[hb]
  refine⟨?_,fun h=>by cases h⟩
  unfold v9_
  rw[decide_eq_true (show(126:Int)< (((Utf8.decode ⟨l.toArray⟩ i).1:Nat):Int) by omega)];simp
theorem w9_ (s:List UInt8) (k:FuncId) (hk: ∀a w,(callFunc k a).run Tryz.prog w= .ok (.enter k a) w) (hc: ∀c w,Rets Tryz.prog k #[Zg_ c] w (fun v D=>v= .bool (v9_ c)∧D= [])) (w:World) (hs:s.length<1099511627776):
  Rets Tryz.prog 256 #[vs s, .func (.func k) #[] #[], .bool true] w (fun v D=> ∃n:Int,v=vi n∧(0≤n↔s.any j1_=true)∧D= []):=by
 refine Rets.mono (S:=fun v D=>(∃n:Int,v=vi n∧(0≤n↔s.any j1_=true))∧D= []) ?_ (by rintro v D ⟨⟨n,h1,h2⟩,h3⟩;exact⟨n,h1,h2,h3⟩)
 refine Rets.enterV Tryz.func256 rfl (rs:= [.tmp 6]) Tryz.results256 Tryz.ntmps256 ?_
 refine kf ?_
 first|with_reducible refine ks [] @zj_ ?_|refine kp @zj_ ?_
 refine Ow.rangeText rfl rfl Tryz.underlying9 rfl fun b1 hb1 hw1=> ?_
 refine ko @zj_ ?_
 first|with_reducible refine ks [] @zj_ ?_|refine kp @zj_ ?_
 refine Cw.loopG (G:=Nat) [11,12,13,14,7,8,15,16,17,18,19,20,6] (fun g=> []) (fun g=> [(b1, .stringIter ⟨s.toArray⟩ g)]) (fun g=>g≤s.length∧ ∀i,i<g→j1_ (s.getD i 0)=false) (fun g=>s.length - g) 0 rfl rfl ?_ ?_
 ·exact⟨by omega,fun i hi=>by omega⟩
 intro g j hg
 refine kv ?_
 obtain⟨hgL,hgood⟩:=hg
 by_cases hlt:g<s.length
 ·have hbr:=acU_ s g hlt
  first|with_reducible refine ks [] @zj_ ?_|refine kp @zj_ ?_
  refine Ow.nextText rfl rfl rfl (zB_ _ _ _) hlt ?_
  rw[qC_]
  generalize hdd:Utf8.decode ⟨s.toArray⟩ g=dd at*
  obtain⟨c,n⟩:=dd
  simp only at hbr ⊢
  refine ko @zj_ ?_
  first|with_reducible refine ks [] @zj_ ?_|refine kp @zj_ ?_
  refine Ow.callFn1 (v:= .bool (v9_ c)) (k:=k) rfl rfl rfl hk (fun w' hw'=>hc _ w') ?_
  rw[hbr.1]
  refine ko @zj_ ?_
  cases hbb:j1_ (s.getD g 0)
  ·first|with_reducible refine ks [] @zj_ ?_|refine kp @zj_ ?_
   refine Again.mk (g+1) (by omega) ⟨by omega,fun i hi=> ?_⟩ ?_ rfl
   ·by_cases hig:i=g
    ·rw[hig];exact hbb
    ·exact hgood i (by omega)
   ·rw[hbr.2 hbb]
  ·first|with_reducible refine ks [] @zj_ ?_|refine kp @zj_ ?_
   refine⟨_,(ke @zj_),⟨hw1,trivial⟩, ?_⟩
   refine⟨(g:Int),rfl,⟨fun _=> ?_,fun _=>by omega⟩⟩
   rw[List.any_eq_true]
   refine⟨s.getD g 0, ?_,hbb⟩
   rw[List.getD_eq_getElem?_getD,List.getElem?_eq_getElem hlt]
   exact List.getElem_mem hlt
 ·obtain rfl:g=s.length:=by omega
  first|with_reducible refine ks [] @zj_ ?_|refine kp @zj_ ?_
  refine Ow.nextOver rfl rfl rfl (zB_ _ _ _) hlt ?_
  refine ko @zj_ ?_
  first|with_reducible refine ks [] @zj_ ?_|refine kp @zj_ ?_
  refine⟨_,(ke @zj_),⟨hw1,trivial⟩, ?_⟩
  refine⟨-1,rfl,⟨fun h=>by omega,fun h=> ?_⟩⟩
  rw[List.any_eq_true] at h
  obtain⟨x,hx,hxb⟩:=h
  obtain⟨i,hi,rfl⟩:=List.getElem_of_mem hx
  have:=hgood i hi
  rw[List.getD_eq_getElem?_getD,List.getElem?_eq_getElem hi] at this
  exact absurd hxb (by simpa using this)
theorem Zc_ (s:List UInt8) (k:FuncId) (hk: ∀a w,(callFunc k a).run Tryz.prog w= .ok (.enter k a) w) (hc: ∀c w,Rets Tryz.prog k #[Zg_ c] w (fun v D=>v= .bool (v9_ c)∧D= [])) (w:World) (hs:s.length<1099511627776):
  Rets Tryz.prog 223 #[vs s, .func (.func k) #[] #[]] w (fun v D=> ∃n:Int,v=vi n∧(0≤n↔s.any j1_=true)∧D= []):=by
 refine Rets.mono (S:=fun v D=>(∃n:Int,v=vi n∧(0≤n↔s.any j1_=true))∧D= []) ?_ (by rintro v D ⟨⟨n,h1,h2⟩,h3⟩;exact⟨n,h1,h2,h3⟩)
 refine Rets.enterV Tryz.func223 rfl (rs:= [.tmp 4]) Tryz.results223 Tryz.ntmps223 ?_
 refine kf ?_
 first|with_reducible refine ks [] @zj_ ?_|refine kp @zj_ ?_
 refine Ow.callF rfl rfl Tryz.call256 (S:=fun _ v D=> ∃n:Int,v=vi n∧(0≤n↔s.any j1_=true)∧D= []) (fun w' hw'=>w9_ s k hk hc w' hs) ?_
 rintro B v D - - ⟨n,rfl,hn,rfl⟩
 refine⟨_,Mrg.nil, ?_⟩
 refine ko @zj_ ?_
 first|with_reducible refine ks [] @zj_ ?_|refine kp @zj_ ?_
 refine⟨_,(ke @zj_),trivial, ?_⟩
 exact⟨n,rfl,hn⟩
theorem vo_ (s:List UInt8) (k:FuncId) (hk: ∀a w,(callFunc k a).run Tryz.prog w= .ok (.enter k a) w) (hc: ∀c w,Rets Tryz.prog k #[Zg_ c] w (fun v D=>v= .bool (v9_ c)∧D= [])) (w:World) (hs:s.length<1099511627776):
  Rets Tryz.prog 170 #[vs s, .func (.func k) #[] #[]] w (fun v D=>v= .bool (s.any j1_)∧D= []):=by
 refine Rets.enterV Tryz.func170 rfl (rs:= [.tmp 4]) Tryz.results170 Tryz.ntmps170 ?_
 refine kf ?_
 first|with_reducible refine ks [] @zj_ ?_|refine kp @zj_ ?_
 refine Ow.callF rfl rfl Tryz.call223 (S:=fun _ v D=> ∃n:Int,v=vi n∧(0≤n↔s.any j1_=true)∧D= []) (fun w' hw'=>Zc_ s k hk hc w' hs) ?_
 rintro B v D - - ⟨n,rfl,hn,rfl⟩
 refine⟨_,Mrg.nil, ?_⟩
 refine ko @zj_ ?_
 first|with_reducible refine ks [] @zj_ ?_|refine kp @zj_ ?_
 refine⟨_,(ke @zj_),trivial, ?_⟩
 exact congrArg Value.bool (by rw[Bool.eq_iff_iff,decide_eq_true_eq];exact hn)
theorem Ko_ (s:List UInt8) (w:World) (hs:s.length<1099511627776):
  Rets Tryz.prog 149 #[vs s] w (fun v D=>v= .bool (!(s== [])&&decide (s.length≤32)&& !(s.any j1_))∧D= []):=by
 refine Rets.enterV Tryz.func149 rfl (rs:= [.tmp 2]) Tryz.results149 Tryz.ntmps149 ?_
 refine kf ?_
 cases h0: (s != [])
 ·have e0: (s== [])=true:=by simpa using h0
  first|with_reducible refine ks [] (And.intro @zj_ @h0) ?_|refine kp (And.intro @zj_ @h0) ?_
  refine⟨_,(ke @zj_),trivial, ?_⟩
  simp[xq_,e0]
 ·have e0: (s== [])=false:=by simpa using h0
  cases h1:decide ((s.length:Int)≤32)
  ·have e1:decide (s.length≤32)=false:=decide_eq_false (by have:=of_decide_eq_false h1;omega)
   first|with_reducible refine ks [] (And.intro @zj_ (And.intro @h0 (@h1))) ?_|refine kp (And.intro @zj_ (And.intro @h0 (@h1))) ?_
   refine⟨_,(ke @zj_),trivial, ?_⟩
   simp only[xq_,e0,e1,Bool.not_false,Bool.true_and,Bool.false_and,Bool.and_false]
  ·have e1:decide (s.length≤32)=true:=decide_eq_true (by have:=of_decide_eq_true h1;omega)
   first|with_reducible refine ks [] (And.intro @zj_ (And.intro @h0 (@h1))) ?_|refine kp (And.intro @zj_ (And.intro @h0 (@h1))) ?_
   refine Ow.callFV rfl Tryz.call170 (fun w' hw'=>vo_ s 205 Tryz.call205 Jp_ w' hs) ?_
   refine ko @zj_ ?_
   first|with_reducible refine ks [] @zj_ ?_|refine kp @zj_ ?_
   refine⟨_,(ke @zj_),trivial, ?_⟩
   simp only[xq_,e0,e1,Bool.not_false,Bool.true_and]
end Go.Proofs
end
section
open Go Go.Proofs Go.Sx
namespace Go.Proofs
set_option maxRecDepth 10000
set_option maxHeartbeats 4000000
set_option linter.unusedSimpArgs false
set_option linter.defProp false
def zP_ (s:List UInt8):Bool:= !(s== [])&&decide (s.length≤32)&& !(s.any j1_)
end Go.Proofs
end
section
open Go Go.Proofs Go.Sx
namespace Go.Proofs
set_option maxRecDepth 10000
set_option maxHeartbeats 4000000
set_option linter.unusedSimpArgs false
structure RefL where
 name:List UInt8
 id:IdL
def zH_ (r:RefL):List Value:=vs r.name::r.id.l.map v8
theorem zF_ (r:RefL): (zH_ r).length=33:=by simp[zH_,r.id.h]
theorem jA_ (r:RefL) (E:TypeId) (n:Nat):zD_ (some (false,n)) (some (.cells (zH_ r).toArray E (0,0))) 0=some (vs r.name):=(rfl)
theorem jw_ (r:RefL) (E:TypeId):zD_ (some (true,32)) (some (.cells (zH_ r).toArray E (0,0))) 1=some (.agg (a8 r.id.l)):=by
 have hs:1+32≤ (zH_ r).toArray.size:=by rw[List.size_toArray,zF_];decide
 simp only[zD_,hs, ↓reduceIte]
 congr 2
 show(zH_ r).toArray.extract 1 33=(r.id.l.map v8).toArray
 rw[List.extract_toArray]
 congr 1
 unfold zH_
 rw[List.extract_eq_take_drop,List.drop_succ_cons,List.drop_zero,List.take_of_length_le (by simp[r.id.h])]
theorem ql_ (r:RefL):Value.cells (.agg (zH_ r).toArray)=(zH_ r).toArray:=zg_ _
theorem eqId (l l':List UInt8) (h:l.length=32∧l'.length=32):qy_ Tryz.prog .eql 24 (.agg (a8 l)) (.agg (a8 l'))=some (.bool (l==l')):=
 aiN_ Tryz.underlying24 Tryz.underlying5 Tryz.ag5 (by kernel_rfl) l l' h
set_option linter.defProp false
def zV_:=And.intro (And.intro (And.intro (@zw_) (@qx_)) (And.intro (@qw_) (@qu_))) (And.intro (And.intro (@zv_) (@jA_)) (And.intro (@jw_) (And.intro (@ql_) (@eqId))))
def abX_ (r:RefL) (m:qB_):qB_:=if r.id.l==z32 then delV r.name (Vm_ r.name r.id.l m) else Vm_ r.name r.id.l m
theorem XK_ (b:Nat) (o:Obj) (m:qB_) (r:RefL) (w:World) (ho:w.heap[b]? =some o) (hm:MapR o m):
  Rets Tryz.prog 158 #[vm b, .agg (zH_ r).toArray] w (fun v D=> ∃o',D= [(b,o')]∧v= .bool (decide ((abX_ r m).length≤16))∧MapR o' (abX_ r m)):=by
 have hbl:=(Array.getElem?_eq_some_iff.1 ho).1
 refine Rets.enterM Tryz.func158 rfl (rs:= [.tmp 4]) Tryz.results158 Tryz.ntmps158 ho ?_
 refine kf ?_
 first|with_reducible refine ks [] @zV_ ?_|refine kp @zV_ ?_
 refine Ow.box rfl rfl fun b1 hb1 hw1=> ?_
 obtain⟨h01,-⟩:=hb1
 refine ko @zV_ ?_
 first|with_reducible refine ks [] @zV_ ?_|refine kp @zV_ ?_
 refine Ow.mapUpdate rfl rfl Tryz.underlying162 Tryz.underlying9 rfl rfl rfl (zB_ _ _ _) hm (fun o1 hm1=> ?_)
 rw[qC_]
 have hil:=r.id.h
 have hz:=show z32.length=32 by simp[z32]
 refine ko @zV_ ?_
 first|with_reducible refine ks [] @zV_ ?_|refine kp @zV_ ?_
 refine Ow.build (.agg (a8 z32)) rfl (by kernel_rfl) ?_
 refine ko @zV_ ?_
 unfold abX_
 cases hid: (r.id.l==z32)
 ·rw[if_neg Bool.false_ne_true]
  first|with_reducible refine ks [] @zV_ ?_|refine kp @zV_ ?_
  refine Ow.lenMap rfl rfl Tryz.underlying162 rfl (xl_ _ _ _ _) hm1 ?_
  refine ko @zV_ ?_
  first|with_reducible refine ks [] @zV_ ?_|refine kp @zV_ ?_
  refine⟨_,_,_,(by simp(disch:=omega) only[kZ_,vI_,Zm_,z5_,qe_,k0_];rfl),rfl,⟨hw1,trivial⟩, ?_,hm1⟩
  exact congrArg Value.bool (decide_eq_decide.2 (by omega))
 ·rw[if_pos rfl]
  first|with_reducible refine ks [] @zV_ ?_|refine kp @zV_ ?_
  refine Ow.mapDelete rfl rfl Tryz.underlying162 Tryz.underlying9 rfl rfl (zB_ _ _ _) hm1 (fun o2 hm2=> ?_)
  rw[qC_]
  refine ko @zV_ ?_
  first|with_reducible refine ks [] @zV_ ?_|refine kp @zV_ ?_
  refine Ow.lenMap rfl rfl Tryz.underlying162 rfl (xl_ _ _ _ _) hm2 ?_
  refine ko @zV_ ?_
  first|with_reducible refine ks [] @zV_ ?_|refine kp @zV_ ?_
  refine⟨_,_,_,(by simp(disch:=omega) only[kZ_,vI_,Zm_,z5_,qe_,k0_];rfl),rfl,⟨hw1,trivial⟩, ?_,hm2⟩
  exact congrArg Value.bool (decide_eq_decide.2 (by omega))
end Go.Proofs
end
section
open Go Go.Proofs Go.Sx
namespace Go.Proofs
set_option maxRecDepth 10000
set_option maxHeartbeats 4000000
set_option linter.unusedSimpArgs false
theorem K1_ (n:List UInt8) (id:IdL):jD_ (Zl_ Tryz.prog 149) (zY_ Tryz.prog 149) [(0,vs n),(1, .agg (a8 id.l))]=some (.agg (zH_ ⟨n,id⟩).toArray):=by
 have hz:zY_ Tryz.prog 149=some (.agg (vs []:: (List.replicate 32 (0:UInt8)).map v8).toArray):=Tryz.zr149
 rw[Tryz.pc149,hz]
 have h1: (Value.cells (vs n))= #[vs n]:=rfl
 have h2:Value.cells (.agg (a8 id.l))=(id.l.map v8).toArray:=zg_ _
 have hp1:k3_ (vs []:: (List.replicate 32 (0:UInt8)).map v8).toArray 0 [vs n]=(vs n:: (List.replicate 32 (0:UInt8)).map v8).toArray:=rfl
 have hp2:=we_ (id.l.map v8) [vs n] ((List.replicate 32 (0:UInt8)).map v8) (by simp[id.h])
 simp only[List.cons_append,List.nil_append,List.length_cons,List.length_nil,Nat.zero_add] at hp2
 have hd:List.drop (id.l.map v8).length ((List.replicate 32 (0:UInt8)).map v8)= []:=List.drop_eq_nil_of_le (by simp[id.h])
 rw[hd,List.append_nil] at hp2
 have s1: (vs []:: (List.replicate 32 (0:UInt8)).map v8).toArray.size=33:=by simp
 have s2: (vs n:: (List.replicate 32 (0:UInt8)).map v8).toArray.size=33:=by simp
 have s3: (id.l.map v8).toArray.size=32:=by simp[id.h]
 simp only[jD_,Sx.fillV,List.getElem?_cons_zero,List.getElem?_cons_succ,h1,h2,s3]
 rw[if_pos ⟨rfl,by rw[s1];decide⟩,if_pos ⟨trivial,by rw[hp1,s2];decide⟩,hp1,hp2]
 rfl
theorem Kq_ {s:List UInt8} {a:Nat} {e:Int} (_ha:a≤s.length): (idR s a e).1.length=32:=by
 unfold idR
 simp only
 split
 ·assumption
 ·simp[z32]
theorem akT_ {s:List UInt8} {a:Nat} {e:Int} (ha:a≤s.length):a≤ (idR s a e).2.1∧(idR s a e).2.1≤s.length:=Z1_ ha
theorem x5_ {s:List UInt8} {a:Nat} {e most:Int} (ha:a≤s.length):a≤ (z8_ s a e most).2.1∧(z8_ s a e most).2.1≤s.length:=by
 have hp:=wD_ (e:=e) (most:=most) ha
 have hq:=Z1_ (e:=(qF_ s a e most).2.2) (n:=(qF_ s a e most).1) hp.2
 unfold z8_
 simp only
 split
 ·exact⟨Nat.le_refl _,ha⟩
 ·exact⟨by omega,hq.2⟩
theorem afK_ (old:Array Value) (r:RefL) (E:TypeId) (h:old.size=33):zz_ (some (true,33)) (some (.cells old E (0,0))) 0 (.agg (zH_ r).toArray)=some (.cells (zH_ r).toArray E (0,0)):=by
 have h1:Value.cells (.agg (zH_ r).toArray)=(zH_ r).toArray:=zg_ _
 have hp:=we_ (zH_ r) [] old.toList (by rw[zF_,Array.length_toList,h];exact Nat.le_refl _)
 simp only[List.nil_append,List.length_nil,Array.toArray_toList] at hp
 have hd:List.drop (zH_ r).length old.toList= []:=List.drop_eq_nil_of_le (by rw[zF_,Array.length_toList,h];exact Nat.le_refl _)
 rw[hd,List.append_nil] at hp
 have ho: (zH_ r).all Value.oneCell'=true:=by
  unfold zH_
  rw[List.all_cons,List.all_map,Bool.and_eq_true]
  exact⟨rfl,List.all_eq_true.2 fun x _=>rfl⟩
 unfold zz_
 simp only[h1]
 rw[if_pos ⟨by rw[List.size_toArray,zF_],by omega, .inl (Nat.le_refl 0),ho⟩,hp]
theorem x4_ (r:RefL) (E:TypeId):zD_ (some (true,33)) (some (.cells (zH_ r).toArray E (0,0))) 0=some (.agg (zH_ r).toArray):=k1_ _ E (0,0) 33 (by rw[List.size_toArray,zF_])
theorem kd_ (r r':RefL) (E:TypeId):zz_ (some (true,33)) (some (.cells (zH_ r').toArray E (0,0))) 0 (.agg (zH_ r).toArray)=some (.cells (zH_ r).toArray E (0,0)):=afK_ _ _ _ (by rw[List.size_toArray,zF_])
def xr_:RefL:=⟨[],id0⟩
theorem ZH_:zY_ Tryz.prog 149=some (.agg (zH_ xr_).toArray):=Tryz.zr149
def oneR (s:List UInt8) (a:Nat) (e:Int) (ha:a≤s.length):RefL×Nat×Int:=
 (⟨(z8_ s a e 32).1,⟨(idR s (z8_ s a e 32).2.1 (z8_ s a e 32).2.2).1,Kq_ (x5_ ha).2⟩⟩,(idR s (z8_ s a e 32).2.1 (z8_ s a e 32).2.2).2)
set_option linter.defProp false
def jQ_:=And.intro (And.intro (And.intro (@zw_) (@qx_)) (And.intro (@qw_) (And.intro (@qu_) (@zv_)))) (And.intro (And.intro (@jA_) (And.intro (@jw_) (@ql_))) (And.intro (@eqId) (And.intro (@kd_) (@x4_))))
theorem abq_ (b:Nat) (s:List UInt8) (a:Nat) (e:Int) (w:World) (ha:a≤s.length) (hs:s.length<1099511627776) (ho:w.heap[b]? =some (.cells #[vs s,vi a,vi e] 314 (0,0))):
  Rets Tryz.prog 166 #[vp b 0] w (fun v D=> ∃o,D= [(b,o)]∧v= .agg (zH_ (oneR s a e ha).1).toArray∧o= .cells #[vs s,vi (oneR s a e ha).2.1,vi (oneR s a e ha).2.2] 314 (0,0)):=by
 have hbl:=(Array.getElem?_eq_some_iff.1 ho).1
 have ht:=x5_ (e:=e) (most:=32) ha
 unfold oneR
 refine Rets.enterM Tryz.func166 rfl (rs:= [.cell 2 149]) Tryz.results166 Tryz.ntmps166 ho ?_
 refine kf ?_
 first|with_reducible refine ks [] @jQ_ ?_|refine kp @jQ_ ?_
 refine Ow.alloc rfl rfl ZH_ fun b1 hb1 hw1=> ?_
 rw[ql_]
 obtain⟨h01,-⟩:=hb1
 refine ko @jQ_ ?_
 first|with_reducible refine ks [] @jQ_ ?_|refine kp @jQ_ ?_
 refine Ow.callM rfl rfl Tryz.call202 (by simp[keys]) (fun w' hw'=>JQ_ b s a e 32 w' ha (by omega) (hw'.has _ _ List.mem_cons_self)) ?_
 refine ko @jQ_ ?_
 refine Ow.callM rfl rfl Tryz.call203 (by simp[keys]) (fun w' hw'=>agy_ b s _ _ w' ht.2 (by omega) (hw'.has _ _ List.mem_cons_self)) ?_
 rw[qC_]
 refine Ow.build _ rfl (K1_ (z8_ s a e 32).1 ⟨(idR s (z8_ s a e 32).2.1 (z8_ s a e 32).2.2).1,Kq_ (x5_ ha).2⟩) ?_
 generalize (⟨(z8_ s a e 32).1,⟨(idR s (z8_ s a e 32).2.1 (z8_ s a e 32).2.2).1,Kq_ (x5_ ha).2⟩⟩:RefL)=r
 generalize hq: (idR s (z8_ s a e 32).2.1 (z8_ s a e 32).2.2).2=q
 refine ko @jQ_ ?_
 first|with_reducible refine ks [] @jQ_ ?_|refine kp @jQ_ ?_
 refine⟨_,_,_,(ke @jQ_),rfl,⟨hw1,trivial⟩, ?_⟩
 exact⟨rfl,rfl⟩
def kg_ (s:List UInt8) (a:Nat) (e:Int) (p:List UInt8):Option (List UInt8)×Nat×Int:=
 let t:=z8_ s a e 65536
 let u:=xE_ t.1
 let c:=cutP u.1 p
 (if u.2=true∧c.2=true∧t.2.2=0 then some c.1 else none,t.2)
end Go.Proofs
end
section
open Go Go.Proofs Go.Sx
namespace Go.Proofs
set_option maxRecDepth 10000
set_option maxHeartbeats 4000000
set_option linter.unusedSimpArgs false
set_option linter.defProp false
def zK_:=And.intro (And.intro (And.intro (And.intro (@zw_) (@qx_)) (And.intro (@qw_) (@qu_))) (And.intro (And.intro (@zv_) (@vJ_)) (And.intro (@vV_) (@wj_)))) (And.intro (And.intro (And.intro (@kw_) (@kM_)) (And.intro (@nilR) (@adc_))) (And.intro (And.intro (@agb_) (@abY_)) (And.intro (@Sx.tup2_0) (@Sx.tup2_1))))
theorem Ql_ {s:List UInt8} {a:Nat} {e most:Int} (hs:s.length<1099511627776): (z8_ s a e most).1.length<1099511627776:=by
 have: ∀ (b:Nat) (e n:Int),(w3_ s b e n).1.length≤s.length:=by
  intro b e n
  unfold w3_
  split
  ·simp
  ·split
   ·simp
   ·split
    ·simp
    ·simp only[List.length_take,List.length_drop];omega
 unfold z8_
 simp only
 split
 ·simp
 ·exact Nat.lt_of_le_of_lt (this _ _ _) hs
theorem ZB_ (s:List UInt8): (xE_ s).1.length≤s.length:=by
 unfold xE_
 split
 ·simp
 ·split
  ·simp only[List.length_take];omega
  ·simp
def RecS (s:List UInt8) (a:Nat) (e:Int) (p:List UInt8) (b n:Nat) (v:Value) (D:za_):Prop:=
 ((kg_ s a e p).1=none∧v= .pointer none∧D= [(b, .cells #[vs s,vi (kg_ s a e p).2.1,vi (kg_ s a e p).2.2] 314 (0,0))])∨
 ∃b' c,(kg_ s a e p).1=some c∧v=vp b' 0∧n≤b'∧b≠b'∧D= [(b, .cells #[vs s,vi (kg_ s a e p).2.1,vi (kg_ s a e p).2.2] 314 (0,0)),(b', .cells #[vs c,vi 0,vi 0] 314 (0,0))]
theorem abN_ {s:List UInt8} {a:Nat} {e:Int} {p c:List UInt8} (hs:s.length<1099511627776) (h: (kg_ s a e p).1=some c):c.length<1099511627776:=by
 have h1:=Ql_ (a:=a) (e:=e) (most:=65536) hs
 have h2:=ZB_ (z8_ s a e 65536).1
 unfold kg_ at h
 simp only at h
 split at h
 ·simp only[Option.some.injEq] at h
  subst h
  unfold cutP
  split
  ·simp only[List.length_drop];omega
  ·simp only;omega
 ·cases h
theorem abn_ {s:List UInt8} {a:Nat} {e:Int} {p c:List UInt8} (h: (kg_ s a e p).1=some c): (kg_ s a e p).2.2=0:=by
 unfold kg_ at h ⊢
 simp only at h ⊢
 split at h
 ·rename_i hh;exact hh.2.2
 ·cases h
theorem wf_ (b:Nat) (s:List UInt8) (a:Nat) (e:Int) (p:List UInt8) (w:World) (hG:GlobC w) (hbg:b≠4) (ha:a≤s.length) (hs:s.length<1099511627776) (ho:w.heap[b]? =some (.cells #[vs s,vi a,vi e] 314 (0,0))):
  Rets Tryz.prog 164 #[vp b 0,vs p] w (XS w [(b, .cells #[vs s,vi a,vi e] 314 (0,0))] (RecS s a e p b 0)):=by
 have hbl:=(Array.getElem?_eq_some_iff.1 ho).1
 have htl:=Ql_ (a:=a) (e:=e) (most:=65536) hs
 have hul:=ZB_ (z8_ s a e 65536).1
 have hr:kg_ s a e p=(if(xE_ (z8_ s a e 65536).1).2=true∧(cutP (xE_ (z8_ s a e 65536).1).1 p).2=true∧(z8_ s a e 65536).2.2=0 then some (cutP (xE_ (z8_ s a e 65536).1).1 p).1 else none,(z8_ s a e 65536).2):=rfl
 unfold RecS
 rw[hr]
 have hX0: ∀q,q∈ [(b,Obj.cells #[vs s,vi a,vi e] 314 (0,0))]→w.heap[q.1]? =some q.2:=by
  intro q hq
  obtain rfl:=List.mem_singleton.1 hq
  exact ho
 refine Rets.enterX Tryz.func164 rfl (rs:= [.tmp 4]) Tryz.results164 Tryz.ntmps164 hX0 (by simp[keys]) ?_
 refine kf ?_
 first|with_reducible refine ks [] @zK_ ?_|refine kp @zK_ ?_
 refine Ow.callM rfl rfl Tryz.call202 (by simp[keys]) (fun w' hw'=>JQ_ b s a e 65536 w' ha (by omega) (hw'.has _ _ List.mem_cons_self)) ?_
 rw[qC_]
 generalize z8_ s a e 65536=t at*
 obtain⟨t,a2,e2⟩:=t
 simp only at htl hul ⊢
 refine ko @zK_ ?_
 refine Ow.callFV rfl Tryz.call216 (fun w' hw'=>KS_ t w' (GlobC.of hG hw' (by simp[keys];omega)) htl) ?_
 generalize xE_ t=u at*
 obtain⟨u,ok⟩:=u
 simp only at hul ⊢
 refine ko @zK_ ?_
 first|with_reducible refine ks [] @zK_ ?_|refine kp @zK_ ?_
 refine Ow.callFV rfl Tryz.call217 (fun w' hw'=>JI_ u p w' (by omega)) ?_
 generalize cutP u p=c at*
 obtain⟨c,is⟩:=c
 simp only
 refine ko @zK_ ?_
 first|with_reducible refine ks [] @zK_ ?_|refine kp @zK_ ?_
 cases ok
 ·first|with_reducible refine ks [] @zK_ ?_|refine kp @zK_ ?_
  refine⟨_,(ke @zK_), ?_⟩
  exact⟨Ext.refl _ _|>.keys rfl, .inl ⟨by simp,rfl,rfl⟩⟩
 ·cases is
  ·first|with_reducible refine ks [] @zK_ ?_|refine kp @zK_ ?_
   refine⟨_,(ke @zK_), ?_⟩
   exact⟨Ext.refl _ _|>.keys rfl, .inl ⟨by simp,rfl,rfl⟩⟩
  ·first|with_reducible refine ks [] @zK_ ?_|refine kp @zK_ ?_
   refine Ow.callFV rfl Tryz.call218 (fun w' hw'=>kC_ b s _ e2 w' (hw'.has _ _ List.mem_cons_self)) ?_
   refine ko @zK_ ?_
   by_cases he:e2=0
   ·first|with_reducible refine ks [] @zK_ ?_|refine kp @zK_ ?_
    refine Ow.callF rfl rfl Tryz.call147 (S:=fun B v D=> ∃b',B≤b'∧v=vp b' 0∧D= [(b', .cells #[vs c,vi 0,vi 0] 314 (0,0))]) (fun w' hw'=>KE_ c w') ?_
    rintro B v D hab hB ⟨b',hb',rfl,rfl⟩
    refine⟨_,Mrg.fresh (by intro q hq;simp only[keys,List.map_cons,List.map_nil,List.mem_singleton] at hq;omega), ?_⟩
    obtain⟨hab1,-⟩:=hab
    refine ko @zK_ ?_
    first|with_reducible refine ks [] @zK_ ?_|refine kp @zK_ ?_
    refine⟨_,(ke @zK_), ?_⟩
    refine⟨?_, .inr ⟨b',c,by simp[he],rfl,by omega,by omega,rfl⟩⟩
    ·exact(Ext.refl _ _|>.keys rfl:Ext w [(b,Obj.cells #[vs s,vi a,vi e] 314 (0,0))] [(b,Obj.cells #[vs s,vi a2,vi e2] 314 (0,0))]).app (by omega)
   ·first|with_reducible refine ks [] @zK_ ?_|refine kp @zK_ ?_
    refine⟨_,(ke @zK_), ?_⟩
    exact⟨Ext.refl _ _|>.keys rfl, .inl ⟨by simp[he],rfl,rfl⟩⟩
end Go.Proofs
end
section
open Go Go.Proofs Go.Sx
namespace Go.Proofs
set_option maxRecDepth 10000
set_option maxHeartbeats 4000000
set_option linter.unusedSimpArgs false
theorem Zv_ (r:RefL): (zH_ r).all Value.oneCell'=true:=by
 unfold zH_
 rw[List.all_cons,List.all_map,Bool.and_eq_true]
 exact⟨rfl,List.all_eq_true.2 fun x _=>rfl⟩
set_option linter.defProp false
def jN_:=And.intro (And.intro (@zw_) (@qx_)) (And.intro (@qw_) (And.intro (@qu_) (@zv_)))
abbrev xB_ (w:World) (v:Value) (l:List RefL):Prop:=SlV 33 zH_ xr_ w v l
theorem X8_ (b o n c:Nat):qy_ Tryz.prog .eql 71 (vsl b o n c) (.slice none 0 0)=some (.bool false):=by
 simp[qy_,eqX,qk_,qp_,Tryz.underlying71,vsl]
theorem Zu_:qy_ Tryz.prog .eql 71 (.slice none 0 0) (.slice none 0 0)=some (.bool true):=by
 simp[qy_,eqX,qk_,qp_,Tryz.underlying71]
theorem qt_ (v:Value) (ls:List RefL) (w:World) (hv:xB_ w v ls) (hl:ls.length<1000000):
  Rets Tryz.prog 81 #[v] w (XS w [] (fun v D=>Gr D 149 33 v ls.length (ls.map zH_).flatten)):=by
 obtain⟨b,off,c,arr,E,fz,hr,hc,⟨rfl,rfl,rfl⟩ | ⟨rfl,hb,hsz⟩⟩:=hv
 ·refine Rets.enterX Tryz.func81 rfl (rs:= [.tmp 2]) Tryz.results81 Tryz.ntmps81 (fun p hp=>by cases hp) (by simp[keys]) ?_
  refine kf ?_
  first|with_reducible refine ks [] (And.intro @jN_ (And.intro @X8_ (@Zu_))) ?_|refine kp (And.intro @jN_ (And.intro @X8_ (@Zu_))) ?_
  refine⟨_,(ke @jN_), ?_⟩
  exact⟨Ext.refl _ _,Gr.nl⟩
 ·have hbl:=(Array.getElem?_eq_some_iff.1 hb).1
  have hv:xB_ w (vsl b off ls.length c) ls:=⟨b,off,c,arr,E,fz,hr,hc, .inr ⟨rfl,hb,hsz⟩⟩
  refine Rets.enterX Tryz.func81 rfl (rs:= [.tmp 2]) Tryz.results81 Tryz.ntmps81 (fun p hp=>by cases hp) (by simp[keys]) ?_
  refine kf ?_
  first|with_reducible refine ks [] (And.intro @jN_ (And.intro @X8_ (@Zu_))) ?_|refine kp (And.intro @jN_ (And.intro @X8_ (@Zu_))) ?_
  refine Ow.buildSlice (e:=149) #[] rfl rfl (by kernel_rfl) fun b1 hb1 hw1=> ?_
  refine ko @jN_ ?_
  refine Ow.appendG (e:=149) (k:=ls.length) (new:=(ls.map zH_).flatten) (vsl b1 0 0 0) rfl rfl rfl Tryz.underlying71 Tryz.ag149 (by kernel_rfl) ZH_ (by rw[ql_,List.size_toArray,zF_]) Tryz.underlying71 (by intro k h;cases h) (.inr ⟨rfl,rfl,b1,rfl,qs_ hb1⟩) (fun w' hw'=>(hv.oldN hw' ⟨hw1,trivial⟩).appX zF_ Zv_) (agh_ zF_ ls) (by omega) (fun v2 L2 hB hB2 hG hS=> ?_)
  rw[Nat.zero_add,List.nil_append] at hB
  refine ko @jN_ ?_
  first|with_reducible refine ks [] @jN_ ?_|refine kp @jN_ ?_
  refine⟨_,(ke @jN_), ?_⟩
  exact⟨((Ext.refl w []).app (o:=Obj.cells #[] 149 (0,0)) hw1).grew hG,hB⟩
end Go.Proofs
end
section
open Go Go.Proofs Go.Sx
namespace Go.Proofs
set_option maxRecDepth 10000
set_option maxHeartbeats 4000000
set_option linter.unusedSimpArgs false
theorem GlobC.ofE {w w':World} {X L:za_} (h:GlobC w) (hE:Ext w X L) (hw:Hp w L w') (hn: (4:Nat)∉keys X):GlobC w':=by
 have hlt: (4:Nat)<w.heap.size:=by obtain⟨e,f,h⟩:=h;exact(Array.getElem?_eq_some_iff.1 h).1
 exact GlobC.of h hw (hE.not hlt hn)
theorem BldAt.zero (b:Nat) {L:za_} (h:Sx.look L b=some (.cells #[.pointer none, .slice none 0 0] 236 (0,0))):BldAt b [] L:=
 ⟨_,_,h, .inl rfl, .nl,fun h=>by cases h⟩
def zO_ (l:List UInt8):List UInt8:=xa_ (xD_ l)
theorem Qp_ (b:Nat) (X:za_) (l:List UInt8) (w:World) (hG:GlobC w) (hg: (4:Nat)∉keys X) (hB:BldAt b l X) (hX: ∀p,p∈X→w.heap[p.1]? =some p.2) (hn: (keys X).Nodup) (hl:l.length<1073741824):
  Rets Tryz.prog 155 #[vp b 0] w (XS w X (fun v _=>v=vs (zO_ l))):=by
 refine Rets.enterX Tryz.func155 rfl (rs:= [.tmp 2]) Tryz.results155 Tryz.ntmps155 hX hn ?_
 refine kf ?_
 first|with_reducible refine ks [] @Nat.add_zero ?_|refine kp @Nat.add_zero ?_
 refine Ow.alloc rfl rfl Tryz.zr236 fun b1 hb1 hw1=> ?_
 refine ko @Nat.add_zero ?_
 have hE0:=(Ext.refl w X).app (o:= .cells #[.pointer none, .slice none 0 0] 236 (0,0)) hw1
 first|with_reducible refine ks [] @Nat.add_zero ?_|refine kp @Nat.add_zero ?_
 refine Ow.callX (Y:= [(b1, .cells #[.pointer none, .slice none 0 0] 236 (0,0))]) (by simp) rfl rfl Tryz.call126 (fun w' hw' hX hn=>w2_ b X l w' hB hX hn (by omega)) (fun v2 D2 hC hS2=> ?_)
 subst hS2
 have hE2:=hE0.came hC
 have hb1D:b1∉keys D2:=fun hm=>by
  rcases hC.new b1 hm with h| ⟨h,-⟩
  ·exact Nat.lt_irrefl _ (zi_ hb1 h)
  ·exact Nat.lt_irrefl _ (zi_ h (by rw[zc_];exact List.mem_append_right _ List.mem_cons_self))
 have hZ:BldAt b1 [] (D2++ [(b1, .cells #[.pointer none, .slice none 0 0] 236 (0,0))]):=BldAt.zero b1 (by rw[zG_ hb1D];exact zB_ _ _ _)
 generalize D2++ [(b1,Obj.cells #[.pointer none, .slice none 0 0] 236 (0,0))]=D3 at*
 refine ko @Nat.add_zero ?_
 refine Ow.callFV rfl Tryz.call209 (fun w' hw'=>J9_ l w' (GlobC.ofE hG hE2 hw' hg) (by omega)) ?_
 refine ko @Nat.add_zero ?_
 have hsl:=v7_ l
 refine Ow.buildSlice (e:=9) #[vs (xD_ l)] rfl rfl (by kernel_rfl) fun b4 hb4 hw4=> ?_
 refine ko @Nat.add_zero ?_
 have htl: (jR_ [xD_ l])=zO_ l:=by simp[jR_,zO_]
 have hnl:=zE_ ((xD_ l).length:Int)
 have hrl: (zO_ l).length=(Zp_ (jt_ (xD_ l).length)).length+ (xD_ l).length:=by unfold zO_ xa_;rw[List.length_append]
 refine Ow.callX (Y:= [(b4, .cells #[vs (xD_ l)] 9 (0,0))]) (by simp) rfl rfl Tryz.call124 (fun w' hw' hX hn=>wr_ b1 D3 [] _ b4 0 [xD_ l] _ _ _ w' hZ hX hn (StrS.lit [xD_ l] rfl rfl (hw'.has _ _ (List.mem_append_right _ List.mem_cons_self))) (fun _ hm=>Nat.lt_irrefl _ (zi_ hb4 hm)) (by rw[htl];simp only[List.length_nil];omega) (by simp)) (fun v5 D5 hC5 hS5=> ?_)
 obtain⟨rfl,hB5⟩:=hS5
 rw[htl,List.nil_append] at hB5
 have hE5:=(hE2.app (o:= .cells #[vs (xD_ l)] 9 (0,0)) hw4).came hC5
 have hB6:=BldAt.app (Y:= [(b4, .cells #[vs (xD_ l)] 9 (0,0))]) hB5
 generalize D5++ [(b4,Obj.cells #[vs (xD_ l)] 9 (0,0))]=D6 at*
 refine ko @Nat.add_zero ?_
 first|with_reducible refine ks [] @Nat.add_zero ?_|refine kp @Nat.add_zero ?_
 refine Ow.callX (Y:= []) (by simp) rfl rfl Tryz.call126 (fun w' hw' hX hn=>w2_ b1 D6 (zO_ l) w' hB6 hX hn (by omega)) (fun v7 D7 hC7 hS7=> ?_)
 subst hS7
 rw[List.append_nil]
 refine ko @Nat.add_zero ?_
 first|with_reducible refine ks [] @Nat.add_zero ?_|refine kp @Nat.add_zero ?_
 refine⟨_,(ke @Nat.add_zero), ?_⟩
 exact⟨hE5.came0 hC7,rfl⟩
end Go.Proofs
end
section
open Go Go.Proofs Go.Sx
namespace Go.Proofs
set_option maxRecDepth 10000
set_option maxHeartbeats 4000000
set_option linter.unusedSimpArgs false
theorem Cw.perm {P:Program} {w0:World} {c:Code} {f:Fr} {L:za_} {K:j9_} (M:za_) (hs: ∀p,p∈M↔p∈L) (hn: (keys M).Nodup) (h:Cw P w0 c f M K):Cw P w0 c f L K:=fun w hw=>h w (hw.same hs hn)
theorem abU_ (id:IdL):vX_ Tryz.prog 30 1 [(0, .agg (a8 id.l))]=some (24,a8 id.l):=by
 have h2:Value.cells (.agg (a8 id.l))=(id.l.map v8).toArray:=zg_ _
 have hz:zY_ Tryz.prog 24=some (.agg ((List.replicate 32 (0:UInt8)).map v8).toArray):=Tryz.zr24
 have s3: (id.l.map v8).toArray.size=32:=by simp[id.h]
 have hp2:=we_ (id.l.map v8) [] ((List.replicate 32 (0:UInt8)).map v8) (by simp[id.h])
 have hd:List.drop (id.l.map v8).length ((List.replicate 32 (0:UInt8)).map v8)= []:=List.drop_eq_nil_of_le (by simp[id.h])
 rw[hd,List.append_nil,List.nil_append] at hp2
 have hzz: ((Array.range (1*32)).map fun x=>(Value.cells (.agg ((List.replicate 32 (0:UInt8)).map v8).toArray))[x% (Value.cells (.agg ((List.replicate 32 (0:UInt8)).map v8).toArray)).size]!)=((List.replicate 32 (0:UInt8)).map v8).toArray:=by kernel_rfl
 simp only[vX_,Tryz.underlying30,Tryz.ag24,hz,Option.map_some]
 rw[if_neg (by decide),if_neg (by decide)]
 simp only
 rw[hzz]
 have hfl:Instr.fill (fun i=>some (i*32,32)) ((List.replicate 32 (0:UInt8)).map v8).toArray [(0,Value.agg (a8 id.l))]=some (a8 id.l):=by
  have s4: (((List.replicate 32 (0:UInt8)).map v8).toArray).size=32:=by simp
  unfold Instr.fill
  simp only[h2,s3,s4,Nat.zero_mul,ne_eq,not_true_eq_false,decide_false,Bool.false_or,Nat.zero_add,Nat.lt_irrefl,gt_iff_lt,Bool.false_eq_true, ↓reduceIte]
  unfold Instr.fill
  congr 1
  have hz:=k7_ (id.l.map v8) 0 0 ((List.replicate 32 (0:UInt8)).map v8).toArray
  have hp:k3_ ((List.replicate 32 (0:UInt8)).map v8).toArray 0 (id.l.map v8)=(id.l.map v8).toArray:=hp2
  rw[Nat.add_zero,hp] at hz
  simp only[Nat.zero_add] at hz
  rw[←Array.foldl_toList,Array.toList_zipIdx]
  exact hz
 rw[hfl]
 rfl
def qI_ (r:RefL):List UInt8:= [69]++xa_ r.name++r.id.l
set_option linter.defProp false
def zN_:=And.intro (And.intro (And.intro (@zw_) (@qx_)) (And.intro (@qw_) (@qu_))) (And.intro (And.intro (@zv_) (@jA_)) (And.intro (@jw_) (And.intro (@ql_) (@eqId))))
theorem kl_ (r:RefL) (w:World) (hG:GlobC w) (hr:r.name.length<1000000):
  Rets Tryz.prog 150 #[.agg (zH_ r).toArray] w (XS w [] (fun v _=>v=vs (zO_ (qI_ r)))):=by
 have hg3: (4:Nat)<w.heap.size:=by obtain⟨e,f,h⟩:=hG;exact(Array.getElem?_eq_some_iff.1 h).1
 refine Rets.enterX Tryz.func150 rfl (rs:= [.tmp 2]) Tryz.results150 Tryz.ntmps150 (fun p hp=>by cases hp) (by simp[keys]) ?_
 refine kf ?_
 first|with_reducible refine ks [] @zN_ ?_|refine kp @zN_ ?_
 refine Ow.box rfl rfl fun b0 hb0 hw0=> ?_
 simp only[qf_,z5_,ql_,List.nil_append]
 refine ko @zN_ ?_
 first|with_reducible refine ks [] @zN_ ?_|refine kp @zN_ ?_
 refine Ow.alloc rfl rfl Tryz.zr236 fun b1 hb1 hw1=> ?_
 obtain⟨h01,-⟩:=hb1
 refine ko @zN_ ?_
 refine Ow.permL (List.Perm.swap _ _ _) ?_
 have hE0:Ext w [] [(b1,Obj.cells #[.pointer none, .slice none 0 0] 236 (0,0)),(b0,Obj.cells (zH_ r).toArray 149 (0,0))]:=
  ((Ext.refl w []).app hw1).app hw0
 have hZ:BldAt b1 [] [(b1, .cells #[.pointer none, .slice none 0 0] 236 (0,0))]:=BldAt.zero b1 (zB_ _ _ _)
 first|with_reducible refine ks [] @zN_ ?_|refine kp @zN_ ?_
 refine Ow.buildSlice (e:=9) #[vs [69]] rfl rfl (by kernel_rfl) fun b2 hb2 hw2=> ?_
 obtain⟨h12,h02,-⟩:=hb2
 have hE1:=hE0.app (o:= .cells #[vs [69]] 9 (0,0)) hw2
 refine ko @zN_ ?_
 refine Ow.callX (Y:= [(b0, .cells (zH_ r).toArray 149 (0,0)),(b2, .cells #[vs [69]] 9 (0,0))]) (by simp) rfl rfl Tryz.call154 (fun w' hw' hX hn=>wi_ b1 [(b1, .cells #[.pointer none, .slice none 0 0] 236 (0,0))] [] _ b2 0 [[69]] _ _ _ w' hZ hX hn (StrS.lit [[69]] rfl rfl (hw'.has _ _ (List.mem_cons_of_mem _ (List.mem_cons_of_mem _ List.mem_cons_self)))) (fun _ hm=>by simp[keys] at hm;omega) (by simp) (by simp)) (fun v3 D3 hC3 hS3=> ?_)
 obtain⟨rfl,hB3⟩:=hS3
 have hE3:=Ext.came (D:= [(b1,Obj.cells #[.pointer none, .slice none 0 0] 236 (0,0))]) (Y:= [(b0,Obj.cells (zH_ r).toArray 149 (0,0)),(b2, .cells #[vs [69]] 9 (0,0))]) hE1 hC3
 have hb0D:b0∉keys D3:=fun hm=>by
  rcases hC3.new b0 hm with h| ⟨h,-⟩
  ·simp[keys] at h;omega
  ·exact Nat.lt_irrefl _ (zi_ h (by simp[keys]))
 simp only[List.flatten_cons,List.flatten_nil,List.append_nil,List.nil_append] at hB3
 have rd0:zs_ w (D3++ [(b0,Obj.cells (zH_ r).toArray 149 (0,0)),(b2, .cells #[vs [69]] 9 (0,0))]) b0=some (.cells (zH_ r).toArray 149 (0,0)):=zb_ (by rw[zG_ hb0D];exact zB_ _ _ _)
 refine ko @zN_ ?_
 first|with_reducible refine ks [] (And.intro @zN_ @rd0) ?_|refine kp (And.intro @zN_ @rd0) ?_
 refine Ow.buildSlice (e:=9) #[vs r.name] rfl rfl (by kernel_rfl) fun b4 hb4 hw4=> ?_
 have hnl:=zE_ (r.name.length:Int)
 have htl:jR_ [r.name]=xa_ r.name:=by simp[jR_]
 have htn: (xa_ r.name).length=(Zp_ (jt_ r.name.length)).length+r.name.length:=by unfold xa_;rw[List.length_append]
 have hb14:b1∈keys D3:=hC3.all b1 (by simp[keys])
 have hE4:=hE3.app (o:= .cells #[vs r.name] 9 (0,0)) hw4
 refine ko @zN_ ?_
 refine Ow.callX (Y:= [(b0, .cells (zH_ r).toArray 149 (0,0)),(b2, .cells #[vs [69]] 9 (0,0)),(b4, .cells #[vs r.name] 9 (0,0))]) (by simp) rfl rfl Tryz.call124 (fun w' hw' hX hn=>wr_ b1 D3 [69] _ b4 0 [r.name] _ _ _ w' hB3 hX hn (StrS.lit [r.name] rfl rfl (hw'.has _ _ (List.mem_append_right _ List.mem_cons_self))) (fun _ hm=>Nat.lt_irrefl _ (zi_ hb4 (by rw[zc_];exact List.mem_append_left _ hm))) (by rw[htl];simp only[List.length_cons,List.length_nil];omega) (by simp)) (fun v5 D5 hC5 hS5=> ?_)
 obtain⟨rfl,hB5⟩:=hS5
 rw[htl] at hB5
 have hE5:=Ext.came (D:=D3) (Y:= [(b0,Obj.cells (zH_ r).toArray 149 (0,0)),(b2, .cells #[vs [69]] 9 (0,0)),(b4, .cells #[vs r.name] 9 (0,0))]) (by simpa using hE4) hC5
 have hb0D5:b0∉keys D5:=fun hm=>by
  rcases hC5.new b0 hm with h| ⟨h,-⟩
  ·exact hb0D h
  ·exact Nat.lt_irrefl _ (zi_ h (by simp[keys]))
 have rd5:zs_ w (D5++ [(b0,Obj.cells (zH_ r).toArray 149 (0,0)),(b2, .cells #[vs [69]] 9 (0,0)),(b4, .cells #[vs r.name] 9 (0,0))]) b0=some (.cells (zH_ r).toArray 149 (0,0)):=zb_ (by rw[zG_ hb0D5];exact zB_ _ _ _)
 refine ko @zN_ ?_
 first|with_reducible refine ks [] (And.intro @zN_ @rd5) ?_|refine kp (And.intro @zN_ @rd5) ?_
 refine Ow.buildSlice (e:=24) (a8 r.id.l) rfl rfl (abU_ r.id) fun b6 hb6 hw6=> ?_
 have hE6:=hE5.app (o:= .cells (a8 r.id.l) 24 (0,0)) hw6
 have hS6: ∀w',w'.heap[b6]? =some (.cells (a8 r.id.l) 24 (0,0))→RowS 32 idLC id0 w' (vsl b6 0 1 1) [r.id] b6 0 (a8 r.id.l) 24 (0,0):=fun w' h=>RowS.sl rfl h (by
  intro k hk j hj
  obtain rfl:k=0:=by simpa using hk
  simp only[Nat.zero_mul,Nat.zero_add,List.getD_cons_zero]
  rw[←V4_,List.getElem?_toArray])
 have hil:=XN_ [r.id]
 refine ko @zN_ ?_
 refine Ow.callX (Y:= [(b0, .cells (zH_ r).toArray 149 (0,0)),(b2, .cells #[vs [69]] 9 (0,0)),(b4, .cells #[vs r.name] 9 (0,0)),(b6, .cells (a8 r.id.l) 24 (0,0))]) (by simp) rfl rfl Tryz.call125 (fun w' hw' hX hn=>aa8_ b1 D5 _ _ b6 0 [r.id] _ _ _ w' hB5 hX hn (hS6 w' (hw'.has _ _ (List.mem_append_right _ List.mem_cons_self))) (fun _ hm=>Nat.lt_irrefl _ (zi_ hb6 (by rw[zc_];exact List.mem_append_left _ hm))) (by simp only[List.length_append,List.length_cons,List.length_nil];omega)) (fun v7 D7 hC7 hS7=> ?_)
 obtain⟨rfl,hB7⟩:=hS7
 have hE7:=Ext.came (D:=D5) (Y:= [(b0,Obj.cells (zH_ r).toArray 149 (0,0)),(b2, .cells #[vs [69]] 9 (0,0)),(b4, .cells #[vs r.name] 9 (0,0)),(b6, .cells (a8 r.id.l) 24 (0,0))]) (by simpa using hE6) hC7
 have hB8:=BldAt.app (Y:= [(b0,Obj.cells (zH_ r).toArray 149 (0,0)),(b2, .cells #[vs [69]] 9 (0,0)),(b4, .cells #[vs r.name] 9 (0,0)),(b6, .cells (a8 r.id.l) 24 (0,0))]) hB7
 rw[show [69]++xa_ r.name++idsL [r.id]=qI_ r by simp[idsL,qI_]] at hB8
 have hel: (qI_ r).length=1+ (xa_ r.name).length+r.id.l.length:=by simp[qI_];omega
 have hil2:=r.id.h
 generalize D7++ [(b0,Obj.cells (zH_ r).toArray 149 (0,0)),(b2, .cells #[vs [69]] 9 (0,0)),(b4, .cells #[vs r.name] 9 (0,0)),(b6, .cells (a8 r.id.l) 24 (0,0))]=D8 at*
 refine ko @zN_ ?_
 first|with_reducible refine ks [] @zN_ ?_|refine kp @zN_ ?_
 refine Ow.callX (Y:= []) (by simp) rfl rfl Tryz.call155 (fun w' hw' hX hn=>Qp_ b1 D8 (qI_ r) w' (GlobC.ofE hG hE7 hw' (by simp[keys])) (hE7.not hg3 (by simp[keys])) hB8 hX hn (by omega)) (fun v9 D9 hC9 hS9=> ?_)
 subst hS9
 rw[List.append_nil]
 refine ko @zN_ ?_
 first|with_reducible refine ks [] @zN_ ?_|refine kp @zN_ ?_
 refine⟨_,(ke @zN_), ?_⟩
 exact⟨hE7.came0 hC9,rfl⟩
end Go.Proofs
end
section
open Go Go.Proofs Go.Sx
namespace Go.Proofs
set_option maxRecDepth 10000
theorem ajS_ (r:RefL): (zH_ r).toArray.extract 1 33=a8 r.id.l:=by
 show(zH_ r).toArray.extract 1 33=(r.id.l.map v8).toArray
 rw[List.extract_toArray]
 congr 1
 unfold zH_
 rw[List.extract_eq_take_drop,List.drop_succ_cons,List.drop_zero,List.take_of_length_le (by simp[r.id.h])]
theorem ag9_:Tryz.prog.stoodInHeld 149=false:=by kernel_rfl
theorem ags_:Tryz.prog.eqGuardType Tryz.prog.depth 149=false:=by kernel_rfl
theorem akU_:zL_ Tryz.prog 9=some (false,1):=by kernel_rfl
theorem alD_:zL_ Tryz.prog 24=some (true,32):=by kernel_rfl
theorem akJ_ (r r':RefL):eqD Tryz.prog 8 149 (.agg (zH_ r).toArray) (.agg (zH_ r').toArray)=some (r.name==r'.name&&r.id.l==r'.id.l):=by
 have hn:eqD Tryz.prog 7 9 (vs r.name) (vs r'.name)=some (r.name==r'.name):=by
  unfold eqD
  rw[Tryz.underlying9]
  simp only[vs,VA_]
 have hi:eqD Tryz.prog 7 24 (.agg (a8 r.id.l)) (.agg (a8 r'.id.l))=some (r.id.l==r'.id.l):=
  abd_ (d:=5) Tryz.underlying24 Tryz.underlying5 Tryz.ag5 _ _ r.id.h r'.id.h
 unfold eqD
 rw[Tryz.underlying149]
 simp only
 rw[ag9_]
 have p0: ∀ (r:RefL),Sx.vA_ (false,1) (zH_ r).toArray 0=some (vs r.name):=fun r=>rfl
 have p1: ∀ (r:RefL),Sx.vA_ (true,32) (zH_ r).toArray 1=some (.agg (a8 r.id.l)):=fun r=>by
  show some (Value.agg ((zH_ r).toArray.extract 1 33))=_
  rw[ajS_]
 simp only[Bool.false_eq_true, ↓reduceIte,kG_,akU_,alD_,kE_,p0,p1,hn,hi]
 cases(r.name==r'.name)<;>cases(r.id.l==r'.id.l)<;>simp
theorem amf_ (r r':RefL):qy_ Tryz.prog .neq 149 (.agg (zH_ r).toArray) (.agg (zH_ r').toArray)=some (.bool (!(r.name==r'.name&&r.id.l==r'.id.l))):=by
 unfold qy_ eqX
 rw[ags_]
 simp[qk_,akJ_]
end Go.Proofs
end
section
open Go Go.Proofs Go.Sx
namespace Go.Proofs
set_option maxRecDepth 10000
set_option maxHeartbeats 4000000
set_option linter.unusedSimpArgs false
def keyR (r:RefL):List UInt8×List UInt8:=(r.name,r.id.l)
def wo_ (a b:List RefL):Bool:=a.map keyR==b.map keyR
theorem agX_ {a b:List RefL} {i:Nat} (ha:i<a.length) (hb:i<b.length) (h: (((a.getD i xr_).name==(b.getD i xr_).name)&& ((a.getD i xr_).id.l==(b.getD i xr_).id.l))=false):wo_ a b=false:=by
 unfold wo_
 rw[beq_eq_false_iff_ne]
 intro e
 have:=congrArg (·[i]?) e
 simp only[List.getElem?_map,List.getElem?_eq_getElem ha,List.getElem?_eq_getElem hb,Option.map_some,Option.some.injEq,keyR,Prod.mk.injEq] at this
 rw[List.getD_eq_getElem?_getD,List.getD_eq_getElem?_getD,List.getElem?_eq_getElem ha,List.getElem?_eq_getElem hb] at h
 simp[this.1,this.2] at h
theorem adY_ {a b:List RefL} (hl:a.length=b.length) (h: ∀i,i<a.length→(((a.getD i xr_).name==(b.getD i xr_).name)&& ((a.getD i xr_).id.l==(b.getD i xr_).id.l))=true):wo_ a b=true:=by
 unfold wo_
 rw[beq_iff_eq]
 apply List.ext_getElem?
 intro i
 rw[List.getElem?_map,List.getElem?_map]
 by_cases hi:i<a.length
 ·have hi':i<b.length:=by omega
  have:=h i hi
  rw[List.getD_eq_getElem?_getD,List.getD_eq_getElem?_getD,List.getElem?_eq_getElem hi,List.getElem?_eq_getElem hi'] at this
  simp only[Option.getD_some,Bool.and_eq_true,beq_iff_eq] at this
  rw[List.getElem?_eq_getElem hi,List.getElem?_eq_getElem hi']
  simp[keyR,this.1,this.2]
 ·rw[List.getElem?_eq_none (by omega),List.getElem?_eq_none (by omega)]
set_option linter.defProp false
def qT_:=And.intro (And.intro (@zw_) (And.intro (@qx_) (@qw_))) (And.intro (@qu_) (And.intro (@zv_) (@amf_)))
theorem Xz_ (x y:Value) (b1 o1 b2 o2:Nat) (l1 l2:List RefL) (a1 a2:Array Value) (E1 E2:TypeId) (f1 f2:Nat×Nat) (w:World) (h1:RowS 33 zH_ xr_ w x l1 b1 o1 a1 E1 f1) (h2:RowS 33 zH_ xr_ w y l2 b2 o2 a2 E2 f2) (hl1:l1.length<1000000) (_hl2:l2.length<1000000):
  Rets Tryz.prog 51 #[x,y] w (fun v D=>v= .bool (wo_ l1 l2)∧D= []):=by
 refine Rets.enterV Tryz.func51 rfl (rs:= [.tmp 4]) Tryz.results51 Tryz.ntmps51 ?_
 refine kf ?_
 ((try with_reducible refine Cw.go [] ?_);(try simp(disch:=(first|assumption|omega| (simp only[qP_,qM_,UInt64.reduceToNat];try omega))) only[↓Sx.S0,Sx.S1,Tryz.fx,qT_,Nat.reduceAdd,Nat.reducePow,Int.reducePow,Nat.reduceBEq, ↓reduceIte,UInt8.reduceToNat,UInt16.reduceToNat,UInt32.reduceToNat,UInt64.reduceToNat,Int.reduceToNat,h1.len,h2.len]))
 by_cases hle:l1.length=l2.length
 ·((try with_reducible refine Cw.go [] ?_);(try simp(disch:=(first|assumption|omega| (simp only[qP_,qM_,UInt64.reduceToNat];try omega))) only[↓Sx.S0,Sx.S1,Tryz.fx,qT_,Nat.reduceAdd,Nat.reducePow,Int.reducePow,Nat.reduceBEq, ↓reduceIte,UInt8.reduceToNat,UInt16.reduceToNat,UInt32.reduceToNat,UInt64.reduceToNat,Int.reduceToNat,h1.len,h2.len]))
  refine Cw.loopG (G:=Nat) [11,12,13,14,17,18,19,20,21,22,23,24,25,4,15,16,5] (fun g=> [(5,vi g)]) (fun g=> []) (fun g=>g≤l1.length∧ ∀i,i<g→(((l1.getD i xr_).name==(l2.getD i xr_).name)&& ((l1.getD i xr_).id.l==(l2.getD i xr_).id.l))=true) (fun g=>l1.length - g) 0 rfl rfl ?_ ?_
  ·exact⟨by omega,fun i hi=>by omega⟩
  intro g j hg
  refine kv ?_
  obtain⟨hgL,hgood⟩:=hg
  by_cases hlt:g<l1.length
  ·have hlt2:g<l2.length:=by omega
   have hb1:=h1.has (by omega)
   have hb2:=h2.has (by omega)
   have ld1:=h1.load zF_ (by omega) hlt
   have ld2:=h2.load zF_ (by omega) hlt2
   ((try with_reducible refine Cw.go [] ?_);(try simp(disch:=(first|assumption|omega| (simp only[qP_,qM_,UInt64.reduceToNat];try omega))) only[↓Sx.S0,Sx.S1,Tryz.fx,qT_,Nat.reduceAdd,Nat.reducePow,Int.reducePow,Nat.reduceBEq, ↓reduceIte,UInt8.reduceToNat,UInt16.reduceToNat,UInt32.reduceToNat,UInt64.reduceToNat,Int.reduceToNat,h1.len]))
   refine Cw.regionS [b1,b2] [0,1,2,4,5,6,3,7,8] [] (by kernel_rfl) (by kernel_rfl) (by kernel_rfl) ?_
   simp only[zI_, ↓zr_, ↓zk_, ↓z0_, ↓zZ_,zl_]
   refine Ow.goQ ?_
   simp(disch:=(first|assumption|omega| (simp only[qP_,qM_,UInt64.reduceToNat];try omega))) only[↓Sx.S0,Sx.S1,Tryz.fx,qT_,Nat.reduceAdd,Nat.reducePow,Int.reducePow,Nat.reduceBEq, ↓reduceIte,UInt8.reduceToNat,UInt16.reduceToNat,UInt32.reduceToNat,UInt64.reduceToNat,Int.reduceToNat,h1.idx,h2.idx,hb1,hb2,ld1,ld2]
   try with_reducible refine Ow.nil ?_
   cases hq: (((l1.getD g xr_).name==(l2.getD g xr_).name)&& ((l1.getD g xr_).id.l==(l2.getD g xr_).id.l))
   ·first|with_reducible refine ks [] @qT_ ?_|refine kp @qT_ ?_
    refine⟨_,(ke @qT_),trivial, ?_⟩
    rw[agX_ hlt hlt2 hq];rfl
   ·first|with_reducible refine ks [] @qT_ ?_|refine kp @qT_ ?_
    refine Again.mk (g+1) (by omega) ⟨by omega,fun i hi=> ?_⟩ rfl rfl
    by_cases hig:i=g
    ·rw[hig];exact hq
    ·exact hgood i (by omega)
  ·obtain rfl:g=l1.length:=by omega
   ((try with_reducible refine Cw.go [] ?_);(try simp(disch:=(first|assumption|omega| (simp only[qP_,qM_,UInt64.reduceToNat];try omega))) only[↓Sx.S0,Sx.S1,Tryz.fx,qT_,Nat.reduceAdd,Nat.reducePow,Int.reducePow,Nat.reduceBEq, ↓reduceIte,UInt8.reduceToNat,UInt16.reduceToNat,UInt32.reduceToNat,UInt64.reduceToNat,Int.reduceToNat,h1.len]))
   rw[adY_ hle hgood]
   refine⟨_,(ke @qT_),trivial, ?_⟩
   rfl
 ·first|with_reducible refine ks [] @qT_ ?_|refine kp @qT_ ?_
  have:wo_ l1 l2=false:=by
   unfold wo_
   rw[beq_eq_false_iff_ne]
   intro e
   exact hle (by simpa using congrArg List.length e)
  rw[this]
  refine⟨_,(ke @qT_),trivial, ?_⟩
  rfl
end Go.Proofs
end
namespace Go.RefP
open Go Go.Sx
abbrev Pr:=List UInt8×List UInt8
def zp:Pr:=([],[])
def wl_ (z:List UInt8) (r:Pr) (m:qB_):qB_:=if r.2==z then delV r.1 (Vm_ r.1 r.2 m) else Vm_ r.1 r.2 m
def Qd_ (x:Pr):qB_→Bool→qB_
 | [],dn=>if dn then [] else [x]
 |p::r,dn=>if p.1==x.1 then Qd_ x r dn else if !dn&& !(ltB p.1 x.1||p.1==x.1) then x::p::Qd_ x r true else p::Qd_ x r dn
def setL (z:List UInt8) (l:qB_) (x:Pr):qB_:=Qd_ x l (x.2==z)
def Rising (l:qB_):Prop:=l.Pairwise fun a b=>ltB a.1 b.1=true
def ku_ (m:qB_):Prop:=(m.map Prod.fst).Nodup
theorem Rising.nd {l:qB_} (h:Rising l):ku_ l:=by
 unfold ku_ List.Nodup
 rw[List.pairwise_map]
 exact List.Pairwise.imp (fun hab=>aj5_ hab) h
def but (k:List UInt8) (m:qB_):qB_:=m.filter fun p=> !(p.1==k)
theorem Xp_ {k:List UInt8} {m:qB_} (h:k∉m.map Prod.fst):but k m=m:=by
 unfold but
 refine List.filter_eq_self.2 fun p hp=> ?_
 have:p.1≠k:=fun e=>h (List.mem_map.2 ⟨p,hp,e⟩)
 simp[this]
theorem KA_ (k:List UInt8) (m:qB_):k∉ (but k m).map Prod.fst:=by
 intro h
 obtain⟨p,hp,rfl⟩:=List.mem_map.1 h
 simp[but] at hp
theorem vS_ {k v:List UInt8}: ∀ {m:qB_},ku_ m→(Vm_ k v m).Perm ((k,v)::but k m)
 | [],_=>List.Perm.refl _
 |p::r,h=>by
  simp only[ku_,List.map_cons,List.nodup_cons] at h
  unfold Vm_
  cases hk: (k==p.1)
  ·simp only[Bool.false_eq_true, ↓reduceIte]
   have hk': (p.1==k)=false:=by
    rw[beq_eq_false_iff_ne] at hk ⊢;exact fun e=>hk e.symm
   have ih:=vS_ (k:=k) (v:=v) (m:=r) h.2
   have:but k (p::r)=p::but k r:=by unfold but;rw[List.filter_cons];simp[hk']
   rw[this]
   exact(List.Perm.cons p ih).trans (List.Perm.swap _ _ _)
  ·simp only[↓reduceIte]
   have e:k=p.1:=by simpa using hk
   subst e
   have:but p.1 (p::r)=r:=by
    have h2:=Xp_ h.1
    unfold but at h2 ⊢;rw[List.filter_cons];simp[h2]
   rw[this]
theorem ajd_ {k v:List UInt8} {m:qB_} (h:ku_ m):ku_ (Vm_ k v m):=by
 have hp:=(vS_ (k:=k) (v:=v) h).map Prod.fst
 refine(List.Perm.nodup_iff hp).2 ?_
 simp only[List.map_cons,List.nodup_cons]
 refine⟨KA_ k m, ?_⟩
 exact List.Nodup.sublist (List.Sublist.map _ List.filter_sublist) h
theorem afg_ {k:List UInt8}: ∀ {m:qB_},ku_ m→delV k m=but k m
 | [],_=>rfl
 |p::r,h=>by
  simp only[ku_,List.map_cons,List.nodup_cons] at h
  unfold delV
  cases hk: (k==p.1)
  ·have hk': (p.1==k)=false:=by
    rw[beq_eq_false_iff_ne] at hk ⊢;exact fun e=>hk e.symm
   simp only[Bool.false_eq_true, ↓reduceIte,afg_ h.2]
   unfold but;rw[List.filter_cons];simp[hk']
  ·have e:k=p.1:=by simpa using hk
   subst e
   simp only[↓reduceIte]
   have h2:=Xp_ h.1
   unfold but at h2 ⊢;rw[List.filter_cons];simp[h2]
theorem aip_ {k v:List UInt8} {m:qB_} (h:ku_ m): (but k (Vm_ k v m)).Perm (but k m):=by
 have hp:=(vS_ (k:=k) (v:=v) h).filter fun p=> !(p.1==k)
 have e1:List.filter (fun p=> !(p.1==k)) ((k,v)::but k m)=but k m:=by
  rw[List.filter_cons]
  simp only[beq_self_eq_true,Bool.not_true,Bool.false_eq_true, ↓reduceIte]
  exact Xp_ (KA_ k m)
 rw[e1] at hp
 exact hp
theorem afk_ {z:List UInt8} {r:Pr} {m:qB_} (h:ku_ m): (wl_ z r m).Perm (if r.2==z then but r.1 m else r::but r.1 m):=by
 unfold wl_
 split
 ·rw[afg_ (ajd_ h)];exact aip_ h
 ·exact vS_ h
theorem xc_ (x:Pr): ∀ (l:qB_),Qd_ x l true=but x.1 l
 | []=>rfl
 |p::r=>by
  unfold Qd_
  cases h: (p.1==x.1)
  ·simp only[Bool.false_eq_true, ↓reduceIte,Bool.not_true,Bool.false_and,xc_ x r]
   unfold but;rw[List.filter_cons];simp[h]
  ·simp only[↓reduceIte,xc_ x r]
   unfold but;rw[List.filter_cons];simp[h]
theorem kV_ (x:Pr): ∀ (l:qB_),(Qd_ x l false).Perm (x::but x.1 l)
 | []=>List.Perm.refl _
 |p::r=>by
  unfold Qd_
  cases h: (p.1==x.1)
  ·have e:but x.1 (p::r)=p::but x.1 r:=by unfold but;rw[List.filter_cons];simp[h]
   simp only[Bool.false_eq_true, ↓reduceIte,Bool.not_false,Bool.true_and,Bool.or_false]
   rw[e]
   split
   ·rw[xc_]
   ·exact(List.Perm.cons p (kV_ x r)).trans (List.Perm.swap _ _ _)
  ·have e:but x.1 (p::r)=but x.1 r:=by unfold but;rw[List.filter_cons];simp[h]
   simp only[↓reduceIte]
   rw[e]
   exact kV_ x r
theorem ae8_ (z:List UInt8) (l:qB_) (x:Pr): (setL z l x).Perm (if x.2==z then but x.1 l else x::but x.1 l):=by
 unfold setL
 cases x.2==z
 ·exact kV_ x l
 ·rw[xc_];exact List.Perm.refl _
theorem JV_ {k:List UInt8} {l:qB_} (h:Rising l):Rising (but k l):=List.Pairwise.sublist List.filter_sublist h
theorem adt_ {x p:Pr} {l:qB_} (h:p∈Qd_ x l false):p=x∨p∈l:=by
 have:=(kV_ x l).mem_iff.1 h
 rcases List.mem_cons.1 this with rfl|h2
 ·exact .inl rfl
 ·exact .inr (List.mem_filter.1 h2).1
theorem kB_ (x:Pr): ∀ {l:qB_},Rising l→Rising (Qd_ x l false)
 | [],_=>List.pairwise_singleton _ _
 |p::r,h=>by
  have h':=List.pairwise_cons.1 h
  unfold Qd_
  cases hk: (p.1==x.1)
  ·simp only[Bool.false_eq_true, ↓reduceIte,Bool.not_false,Bool.true_and,Bool.or_false]
   have hne:p.1≠x.1:=by simpa using hk
   cases hl:ltB p.1 x.1
   ·have hx:=Qk_ hl hne
    simp only[Bool.not_false, ↓reduceIte]
    rw[xc_]
    refine List.pairwise_cons.2 ⟨?_,List.pairwise_cons.2 ⟨?_,JV_ h'.2⟩⟩
    ·intro q hq
     rcases List.mem_cons.1 hq with rfl|hq
     ·exact hx
     ·exact Z6_ hx (h'.1 q (List.mem_filter.1 hq).1)
    ·intro q hq
     exact h'.1 q (List.mem_filter.1 hq).1
   ·simp only[Bool.not_true,Bool.false_eq_true, ↓reduceIte]
    refine List.pairwise_cons.2 ⟨?_,kB_ x h'.2⟩
    intro q hq
    rcases adt_ hq with rfl|hq
    ·exact hl
    ·exact h'.1 q hq
  ·simp only[↓reduceIte]
   exact kB_ x h'.2
theorem aaK_ {z:List UInt8} {l:qB_} {x:Pr} (h:Rising l):Rising (setL z l x):=by
 unfold setL
 cases x.2==z
 ·exact kB_ x h
 ·rw[xc_];exact JV_ h
def Rel (m l:qB_):Prop:=m.Perm l∧Rising l
theorem Rel.nd {m l:qB_} (h:Rel m l):ku_ m:=(List.Perm.nodup_iff (h.1.map Prod.fst)).2 h.2.nd
theorem Rel.set {z:List UInt8} {m l:qB_} {x:Pr} (h:Rel m l):Rel (wl_ z x m) (setL z l x):=by
 refine⟨?_,aaK_ h.2⟩
 have hb: (but x.1 m).Perm (but x.1 l):=h.1.filter _
 refine(afk_ h.nd).trans (List.Perm.trans ?_ (ae8_ z l x).symm)
 split
 ·exact hb
 ·exact List.Perm.cons _ hb
def ZA_ (nm:List UInt8→Bool) (z:List UInt8) (t:qB_) (g:Nat):Bool:=
 nm (t.getD g zp).1&& !((t.getD g zp).2==z)&& (g==0||ltB (t.getD (g - 1) zp).1 (t.getD g zp).1)
def Wi_ (nm:List UInt8→Bool) (z:List UInt8) (t:qB_):Nat→Option qB_
 |0=>some []
 |g+1=>(Wi_ nm z t g).bind fun m=>if(ZA_ nm z t g&&decide ((wl_ z (t.getD g zp) m).length≤16))=true then some (wl_ z (t.getD g zp) m) else none
def logM (nm:List UInt8→Bool) (z:List UInt8) (l:qB_) (m0:qB_):Nat→Option qB_
 |0=>some m0
 |g+1=>(logM nm z l m0 g).bind fun m=>if(nm (l.getD g zp).1&&decide ((wl_ z (l.getD g zp) m).length≤16))=true then some (wl_ z (l.getD g zp) m) else none
def ofM (nm:List UInt8→Bool) (z:List UInt8) (t l:qB_) (k:Nat):Option qB_:=(Wi_ nm z t t.length).bind fun m=>logM nm z l m k
def akK_ (nm:List UInt8→Bool) (z:List UInt8) (t:qB_):Bool:=(List.range t.length).all (ZA_ nm z t)
theorem aeo_ {nm:List UInt8→Bool} {z:List UInt8} {l m0:qB_} {g:Nat} (h:logM nm z l m0 g=none): ∀k,g≤k→logM nm z l m0 k=none:=by
 intro k hk
 induction hk with
 |refl=>exact h
 |step _ ih=>unfold logM;rw[ih];rfl
theorem adK_ {nm:List UInt8→Bool} {z:List UInt8} {t:qB_} {g:Nat} (h:Wi_ nm z t g=none): ∀k,g≤k→Wi_ nm z t k=none:=by
 intro k hk
 induction hk with
 |refl=>exact h
 |step _ ih=>unfold Wi_;rw[ih];rfl
def adM_ (nm:List UInt8→Bool) (z:List UInt8) (t l:qB_):Bool:=(ofM nm z t l l.length).isSome&&decide (l.length≤100)
theorem XG_ {k v:List UInt8}: ∀ {m:qB_} {p:Pr},p∈Vm_ k v m→p.2=v∨p∈m
 | [],p,h=>by simp only[Vm_,List.mem_singleton] at h;exact .inl (by rw[h])
 |q::r,p,h=>by
  unfold Vm_ at h
  split at h
  ·rcases List.mem_cons.1 h with rfl|h
   ·exact .inl rfl
   ·exact .inr (List.mem_cons_of_mem _ h)
  ·rcases List.mem_cons.1 h with rfl|h
   ·exact .inr List.mem_cons_self
   ·rcases XG_ h with h|h
    ·exact .inl h
    ·exact .inr (List.mem_cons_of_mem _ h)
theorem abb_ {k:List UInt8}: ∀ {m:qB_} {p:Pr},p∈delV k m→p∈m
 | [],_,h=>h
 |q::r,p,h=>by
  unfold delV at h
  split at h
  ·exact List.mem_cons_of_mem _ h
  ·rcases List.mem_cons.1 h with rfl|h
   ·exact List.mem_cons_self
   ·exact List.mem_cons_of_mem _ (abb_ h)
theorem agW_ {z:List UInt8} {r p:Pr} {m:qB_} (h:p∈wl_ z r m):p.2=r.2∨p∈m:=by
 unfold wl_ at h
 split at h
 ·exact XG_ (abb_ h)
 ·exact XG_ h
def AllLen (m:qB_):Prop:= ∀p,p∈m→p.2.length=32
theorem AllLen.set {z:List UInt8} {r:Pr} {m:qB_} (h:AllLen m) (hr:r.2.length=32):AllLen (wl_ z r m):=by
 intro p hp
 rcases agW_ hp with e|h2
 ·rw[e];exact hr
 ·exact h p h2
theorem aa6_ {nm:List UInt8→Bool} {z:List UInt8} {t:qB_} (ht: ∀g,g<t.length→(t.getD g zp).2.length=32): ∀ (g:Nat) (m:qB_),g≤t.length→Wi_ nm z t g=some m→AllLen m
 |0,m,_,h=>by cases h;intro p hp;cases hp
 |g+1,m,hg,h=>by
  unfold Wi_ at h
  cases h1:Wi_ nm z t g with
  |none=>rw[h1] at h;cases h
  |some m1=>
   rw[h1,Option.bind_some] at h
   split at h
   ·cases h
    exact(aa6_ ht g m1 (by omega) h1).set (ht g (by omega))
   ·cases h
theorem abh_ {nm:List UInt8→Bool} {z:List UInt8} {l m0:qB_} (hl: ∀g,g<l.length→(l.getD g zp).2.length=32) (h0:AllLen m0): ∀ (g:Nat) (m:qB_),g≤l.length→logM nm z l m0 g=some m→AllLen m
 |0,m,_,h=>by cases h;exact h0
 |g+1,m,hg,h=>by
  unfold logM at h
  cases h1:logM nm z l m0 g with
  |none=>rw[h1] at h;cases h
  |some m1=>
   rw[h1,Option.bind_some] at h
   split at h
   ·cases h
    exact(abh_ hl h0 g m1 (by omega) h1).set (hl g (by omega))
   ·cases h
theorem aeE_ {nm:List UInt8→Bool} {z:List UInt8} {t l:qB_} {k:Nat} {m:qB_} (ht: ∀g,g<t.length→(t.getD g zp).2.length=32) (hl: ∀g,g<l.length→(l.getD g zp).2.length=32) (hk:k≤l.length) (h:ofM nm z t l k=some m):AllLen m:=by
 unfold ofM at h
 cases h1:Wi_ nm z t t.length with
 |none=>rw[h1] at h;cases h
 |some m1=>
  rw[h1,Option.bind_some] at h
  exact abh_ hl (aa6_ ht _ _ (Nat.le_refl _) h1) k m hk h
end Go.RefP
section
open Go Go.Proofs Go.Sx Go.RefP
namespace Go.Proofs
set_option maxRecDepth 10000
set_option maxHeartbeats 4000000
def mkId (l:List UInt8):IdL:=if h:l.length=32 then⟨l,h⟩ else id0
theorem aja_ {l:List UInt8} (h:l.length=32):mkId l=⟨l,h⟩:=by unfold mkId;rw[dif_pos h]
def JX_ (s:List UInt8) (a:Nat) (e:Int):RefL×Nat×Int:=
 (⟨(z8_ s a e 32).1,mkId (idR s (z8_ s a e 32).2.1 (z8_ s a e 32).2.2).1⟩,(idR s (z8_ s a e 32).2.1 (z8_ s a e 32).2.2).2)
theorem aeD_ (s:List UInt8) (a:Nat) (e:Int) (ha:a≤s.length):oneR s a e ha=JX_ s a e:=by
 unfold oneR JX_
 rw[aja_ (Kq_ (x5_ ha).2)]
theorem ad5_ {s:List UInt8} {a:Nat} {e:Int} (ha:a≤s.length):a≤ (JX_ s a e).2.1∧(JX_ s a e).2.1≤s.length:=by
 have h1:=x5_ (e:=e) (most:=32) ha
 have h2:=akT_ (e:=(z8_ s a e 32).2.2) h1.2
 unfold JX_
 exact⟨by simp only;omega,h2.2⟩
def qN_ (s:List UInt8) (a:Nat) (e:Int):Nat→List RefL×Nat×Int
 |0=>([],a,e)
 |g+1=>((qN_ s a e g).1++ [(JX_ s (qN_ s a e g).2.1 (qN_ s a e g).2.2).1],(JX_ s (qN_ s a e g).2.1 (qN_ s a e g).2.2).2)
theorem abv_ {s:List UInt8} {a:Nat} {e:Int} (ha:a≤s.length): ∀g,a≤ (qN_ s a e g).2.1∧(qN_ s a e g).2.1≤s.length
 |0=>⟨Nat.le_refl _,ha⟩
 |g+1=>by
  have ih:=abv_ (e:=e) ha g
  have h:=ad5_ (e:=(qN_ s a e g).2.2) ih.2
  unfold qN_
  exact⟨by simp only;omega,h.2⟩
theorem jq_ (s:List UInt8) (a:Nat) (e:Int): ∀g,(qN_ s a e g).1.length=g
 |0=>rfl
 |g+1=>by unfold qN_;simp[jq_ s a e g]
def endR (s:List UInt8) (a:Nat) (e:Int):Int:=if e≠0 then e else if(a:Int)<s.length then 5 else 0
def prs (l:List RefL):qB_:=l.map fun r=>(r.name,r.id.l)
theorem kD_ (l:List RefL): (prs l).length=l.length:=by simp[prs]
theorem Zi_ (l:List RefL) (g:Nat) (h:g<l.length): (prs l).getD g zp=((l.getD g xr_).name,(l.getD g xr_).id.l):=by
 unfold prs
 rw[List.getD_eq_getElem?_getD,List.getD_eq_getElem?_getD,List.getElem?_map,List.getElem?_eq_getElem h];rfl
def qj_ (t l:List RefL):Bool:=adM_ zP_ z32 (prs t) (prs l)
def vw_ (s:List UInt8):Option (List RefL×Nat):=
 match kg_ s 0 0 [72] with
 | (none,_)=>none
 | (some c,at_,_)=>
  let n:=qF_ c 0 0 16
  let tb:=qN_ c n.2.1 n.2.2 n.1.toNat
  if endR c tb.2.1 tb.2.2=0∧qj_ tb.1 []=true then some (tb.1,at_) else none
def Kh_ (s:List UInt8) (tb:List RefL) (log:List RefL) (at_:Nat):Option (List RefL×Nat):=
 match kg_ s at_ 0 [69] with
 | (none,_)=>none
 | (some c,to,_)=>if endR c (JX_ c 0 0).2.1 (JX_ c 0 0).2.2=0∧qj_ tb (log++ [(JX_ c 0 0).1])=true then some (log++ [(JX_ c 0 0).1],to) else none
def Qr_ (s:List UInt8) (tb:List RefL):Nat→List RefL→Nat→List RefL×Nat
 |0,log,at_=>(log,at_)
 |n+1,log,at_=>match Kh_ s tb log at_ with
  |none=>(log,at_)
  |some p=>Qr_ s tb n p.1 p.2
def Qb_ (s:List UInt8):Option (List RefL×List RefL×Nat):=(vw_ s).map fun h=>(h.1,Qr_ s h.1 101 [] h.2)
theorem JN_ {t l:List RefL} (h:qj_ t l=true):l.length≤100:=by
 unfold qj_ adM_ at h
 rw[Bool.and_eq_true,decide_eq_true_eq,kD_] at h
 exact h.2
theorem ad2_ {s:List UInt8} {tb log:List RefL} {at_:Nat} {p:List RefL×Nat} (h:Kh_ s tb log at_=some p):p.1.length=log.length+1∧p.1.length≤100:=by
 unfold Kh_ at h
 split at h
 ·cases h
 ·split at h
  ·rename_i h2
   cases h
   exact⟨by simp,JN_ h2.2⟩
  ·cases h
theorem Xh_ (s:List UInt8) (tb:List RefL): ∀ (n m:Nat) (log:List RefL) (at_:Nat),101≤n+log.length→101≤m+log.length→log.length≤100→Qr_ s tb n log at_=Qr_ s tb m log at_
 |0,_,log,at_,h1,_,h3=>by omega
 |n+1,0,log,at_,_,h2,h3=>by omega
 |n+1,m+1,log,at_,h1,h2,h3=>by
  unfold Qr_
  cases hn:Kh_ s tb log at_ with
  |none=>rfl
  |some p=>
   have:=ad2_ hn
   exact Xh_ s tb n m p.1 p.2 (by omega) (by omega) this.2
end Go.Proofs
end
section
open Go Go.Proofs Go.Sx Go.RefP
namespace Go.Proofs
set_option maxRecDepth 10000
set_option maxHeartbeats 1000000
set_option linter.unusedSimpArgs false
theorem W9_ (r:RefL) (m:qB_):abX_ r m=wl_ z32 (r.name,r.id.l) m:=rfl
theorem kX_ (a b:Value) (E:TypeId) (n:Nat):zD_ (some (false,n)) (some (.cells #[a,b] E (0,0))) 0=some a:=(rfl)
theorem k8_ (a b:Value) (E:TypeId) (n:Nat):zD_ (some (false,n)) (some (.cells #[a,b] E (0,0))) 1=some b:=(rfl)
theorem acH_ (l:List UInt8) (h:l.length=32):qy_ Tryz.prog .eql 24 (.agg (a8 l)) (.agg (a8 z32))=some (.bool (l==z32)):=eqId l z32 ⟨h,by simp[z32]⟩
theorem xF_ (s:List UInt8) (w:World) (hs:s.length<1099511627776):
  Rets Tryz.prog 149 #[vs s] w (fun v D=>v= .bool (zP_ s)∧D= []):=Ko_ s w hs
structure OG where
 g:Nat
 m:qB_
 o:Obj
set_option linter.defProp false
def zf_:=And.intro (And.intro (And.intro (@zw_) (And.intro (@qx_) (@qw_))) (And.intro (@qu_) (And.intro (@zv_) (@jA_)))) (And.intro (And.intro (@jw_) (And.intro (@ql_) (@acH_))) (And.intro (And.intro (@kd_) (@x4_)) (And.intro (@kX_) (@k8_))))
def OfSRf (n:Nat) (t l:List RefL) (k:Nat) (v:Value) (D:za_):Prop:=
 match ofM zP_ z32 (prs t) (prs l) k with
 |some m=> ∃b o,v= .tuple #[vm b, .bool (decide (l.length≤100))]∧D= [(b,o)]∧MapR o m∧n≤b
 |none=>v= .tuple #[.map none, .bool false]∧New n D
theorem xo_ {nm:List UInt8→Bool} {z:List UInt8} {t m:qB_} {g:Nat} (h:Wi_ nm z t g=some m):Wi_ nm z t (g+1)=if(ZA_ nm z t g&&decide ((wl_ z (t.getD g zp) m).length≤16))=true then some (wl_ z (t.getD g zp) m) else none:=by
 rw[Wi_,h];rfl
theorem QG_ {nm:List UInt8→Bool} {z:List UInt8} {l m0 m:qB_} {g:Nat} (h:logM nm z l m0 g=some m):logM nm z l m0 (g+1)=if(nm (l.getD g zp).1&&decide ((wl_ z (l.getD g zp) m).length≤16))=true then some (wl_ z (l.getD g zp) m) else none:=by
 rw[logM,h];rfl
theorem OfSRf.tab {n:Nat} {t l:List RefL} {k g:Nat} (h:Wi_ zP_ z32 (prs t) (g+1)=none) (hg:g<t.length) {D:za_} (hD:New n D):OfSRf n t l k (.tuple #[.map none, .bool false]) D:=by
 unfold OfSRf ofM
 rw[adK_ h _ (by rw[kD_];exact hg)]
 exact⟨rfl,hD⟩
theorem OfSRf.log {n:Nat} {t l:List RefL} {k g:Nat} {m:qB_} (ht:Wi_ zP_ z32 (prs t) t.length=some m) (h:logM zP_ z32 (prs l) m (g+1)=none) (hg:g<k) {D:za_} (hD:New n D):OfSRf n t l k (.tuple #[.map none, .bool false]) D:=by
 unfold OfSRf ofM
 rw[kD_,ht,Option.bind_some,aeo_ h _ hg]
 exact⟨rfl,hD⟩
theorem OfSRf.new {n:Nat} {t l:List RefL} {k:Nat} {v:Value} {D:za_} (h:OfSRf n t l k v D):New n D:=by
 unfold OfSRf at h
 split at h
 ·obtain⟨b,o,-,rfl,-,hb⟩:=h
  exact⟨hb,trivial⟩
 ·exact h.2
theorem adF_ (vt vl:Value) (t l:List RefL) (k:Nat) (w:World) (ht:xB_ w vt t) (hl:xB_ w vl l) (htl:t.length<1000000) (hll:l.length<1000000) (hk:k≤l.length)
  (hnt: ∀g,g<t.length→(t.getD g xr_).name.length<1099511627776) (hnl: ∀g,g<l.length→(l.getD g xr_).name.length<1099511627776):
  Rets Tryz.prog 89 #[.agg #[vt,vl],vi k] w (OfSRf w.heap.size t l k):=by
 refine Rets.enter Tryz.func89 rfl (rs:= [.tmp 4, .tmp 5]) Tryz.results89 Tryz.ntmps89 ?_
 refine kf ?_
 obtain⟨b1,o1,a1,E1,f1,h1⟩:=ht.row
 first|with_reducible refine ks [1000014] @zf_ ?_|refine kp @zf_ ?_
 refine Ow.box rfl rfl fun bx hbx hwx=> ?_
 simp only[qf_,z5_,qe_,zg_,List.nil_append,List.cons_append]
 refine Ow.go rfl ?_
 simp(disch:=(first|assumption|omega| (simp only[qP_,qM_,UInt64.reduceToNat];try omega))) only[↓Sx.S0,Sx.S1,Tryz.fx,zf_,Nat.reduceAdd,Nat.reducePow,Int.reducePow,Nat.reduceBEq, ↓reduceIte,UInt8.reduceToNat,UInt16.reduceToNat,UInt32.reduceToNat,UInt64.reduceToNat,Int.reduceToNat]
 first|with_reducible refine ks [] @zf_ ?_|refine kp @zf_ ?_
 refine Ow.makeMap rfl rfl fun bm o hbm hwm hm0=> ?_
 obtain⟨hxm,-⟩:=hbm
 rw[List.cons_append,List.nil_append]
 refine ko @zf_ ?_
 ((try with_reducible refine Cw.go [] ?_);(try simp(disch:=(first|assumption|omega| (simp only[qP_,qM_,UInt64.reduceToNat];try omega))) only[↓Sx.S0,Sx.S1,Tryz.fx,zf_,Nat.reduceAdd,Nat.reducePow,Int.reducePow,Nat.reduceBEq, ↓reduceIte,UInt8.reduceToNat,UInt16.reduceToNat,UInt32.reduceToNat,UInt64.reduceToNat,Int.reduceToNat,ht.len]))
 refine Cw.loopG (G:=OG) [16,17,18,19,8,7,20,21,22,23,24,25,26,27,28,29,30,31,32,33,34,35,36,37,38,39,40,41,42,43,44,45,46,47,48,49,50,51,4,5,52,15] (fun g=> [(15,vi g.g)]) (fun g=> [(bx, .cells #[vt,vl] 73 (0,0)),(bm,g.o)]) (fun g=>g.g≤t.length∧Wi_ zP_ z32 (prs t) g.g=some g.m∧MapR g.o g.m) (fun g=>t.length - g.g) ⟨0,[],o⟩ rfl rfl ?_ ?_
 ·exact⟨Nat.zero_le _,rfl,hm0⟩
 intro g j hg
 refine kv ?_
 obtain⟨g,m,o⟩:=g
 simp only at hg ⊢
 obtain⟨hgl,hgm,hgo⟩:=hg
 by_cases hlt:g<t.length
 ·have hb1:=h1.has (by omega)
  have hb1l:=h1.lt (by omega)
  have ld1:=h1.load zF_ (by omega) hlt
  ((try with_reducible refine Cw.go [7] ?_);(try simp(disch:=(first|assumption|omega| (simp only[qP_,qM_,UInt64.reduceToNat];try omega))) only[↓Sx.S0,Sx.S1,Tryz.fx,zf_,Nat.reduceAdd,Nat.reducePow,Int.reducePow,Nat.reduceBEq, ↓reduceIte,UInt8.reduceToNat,UInt16.reduceToNat,UInt32.reduceToNat,UInt64.reduceToNat,Int.reduceToNat,ht.len,h1.idx,hb1,ld1]))
  refine Ow.alloc rfl rfl ZH_ fun b5 hb5 hw5=> ?_
  simp only[zg_,List.nil_append,List.cons_append]
  obtain⟨hx5,hm5,-⟩:=hb5
  refine ko @zf_ ?_
  first|with_reducible refine ks [] @zf_ ?_|refine kp @zf_ ?_
  have hil:=(t.getD g xr_).id.h
  have hnm:=hnt g hlt
  have hpg:=Zi_ t g hlt
  generalize hr:t.getD g xr_=r at*
  refine Cw.regionS [bx,b1,b5] [0,1,2,3,4,5,7,6,8,9,10,11,12,13,14,16,17,21,15,18,19,20,22,23,24,25,26,27,28,29,30,31] [] (by kernel_rfl) (by kernel_rfl) (by kernel_rfl) ?_
  simp only[zI_, ↓zr_, ↓zk_, ↓z0_, ↓zZ_,zl_]
  refine kq @zf_ ?_
  refine Ow.callFV rfl Tryz.call149 (fun w' hw'=>xF_ r.name w' hnm) ?_
  cases hn:zP_ r.name
  ·have hok:ZA_ zP_ z32 (prs t) g=false:=by unfold ZA_;rw[hpg];simp only[hn,Bool.false_and]
   refine kq @zf_ ?_
   try with_reducible refine Ow.nil ?_
   first|with_reducible refine ks [] @zf_ ?_|refine kp @zf_ ?_
   refine⟨_,(ke @zf_), ?_⟩
   exact OfSRf.tab (by rw[xo_ hgm,hok];rfl) hlt ⟨hwx,hwm,hw5,trivial⟩
  ·refine kq @zf_ ?_
   refine Ow.build (.agg (a8 z32)) rfl (by kernel_rfl) ?_
   cases hz: (r.id.l==z32)
   ·by_cases h0:g=0
    ·have hd:decide ((0:Int)< (g:Int))=false:=by simp[h0]
     have hok:ZA_ zP_ z32 (prs t) g=true:=by unfold ZA_;rw[hpg];simp only[hn,hz,h0,beq_self_eq_true,Bool.true_or,Bool.not_false,Bool.and_self]
     refine kq (And.intro @zf_ (And.intro @hz (@hd))) ?_
     refine Ow.soft rfl rfl rfl ?_
     refine Ow.callE rfl rfl Tryz.call158 (by simp[keys]) (fun w' hw'=>XK_ bm o m r w' (hw'.has _ _ (List.mem_cons_of_mem _ List.mem_cons_self)) hgo) (fun v o' hS=> ?_)
     with_reducible refine Ow.nil ?_
     refine⟨fun b hb=>jT_ (by simp only[List.mem_cons,List.not_mem_nil,or_false] at hb;omega), ?_⟩
     refine kn ?_
     obtain⟨rfl,hm'⟩:=hS
     rw[W9_] at hm' ⊢
     by_cases h16: (wl_ z32 (r.name,r.id.l) m).length≤16
     ·have hd2:decide ((wl_ z32 (r.name,r.id.l) m).length≤16)=true:=by simpa using h16
      refine kq (And.intro @zf_ @hd2) ?_
      try with_reducible refine Ow.nil ?_
      refine Cw.forgetN [(bx, .cells #[vt,vl] 73 (0,0)),(bm,o')] (by exact⟨hwx,hwm,hw5,trivial⟩) (by intro p hp;simp only[List.mem_cons,List.not_mem_nil,or_false] at hp ⊢;all_goals (first| (rcases hp with rfl|hp<;>simp_all) | (subst hp;simp) |simp_all)) (by simp[keys]<;>omega) ?_
      first|with_reducible refine ks [] @zf_ ?_|refine kp @zf_ ?_
      refine Again.mk ⟨g+1,wl_ z32 (r.name,r.id.l) m,o'⟩ (by simp only;omega) ⟨hlt, ?_,hm'⟩ rfl rfl
      rw[xo_ hgm,hok,hpg,Bool.true_and,hd2,if_pos rfl]
     ·have hd2:decide ((wl_ z32 (r.name,r.id.l) m).length≤16)=false:=by simpa using h16
      refine kq (And.intro @zf_ @hd2) ?_
      try with_reducible refine Ow.nil ?_
      first|with_reducible refine ks [] @zf_ ?_|refine kp @zf_ ?_
      refine⟨_,(ke @zf_), ?_⟩
      exact OfSRf.tab (by rw[xo_ hgm,hpg,hd2,Bool.and_false];rfl) hlt ⟨hwx,hwm,hw5,trivial⟩
    ·have hd:decide ((0:Int)< (g:Int))=true:=by simp;omega
     have ld2:zD_ (some (false,1)) (some (.cells a1 E1 f1)) (o1+ (g - 1)*33)=some (vs (t.getD (g - 1) xr_).name):=h1.cell (j:=0) (n:=1) (show g - 1<t.length by omega) (by omega)
     have hix:qh_ (.sl (true,33)) vt (some ((g:Int) - 1))=some (vp b1 (o1+ (g - 1)*33)):=by
      have:=h1.idx true (g - 1) (by omega)
      rw[show((g - 1:Nat):Int)=(g:Int) - 1 by omega] at this
      exact this
     have hpp:=Zi_ t (g - 1) (show g - 1<t.length by omega)
     have hg0: (g==0)=false:=by simpa using h0
     have hok:ZA_ zP_ z32 (prs t) g=ltB (t.getD (g - 1) xr_).name r.name:=by unfold ZA_;rw[hpg,hpp];simp only[hn,hz,hg0,Bool.false_or,Bool.not_false,Bool.true_and]
     cases hq:Op.bytesLess (t.getD (g - 1) xr_).name r.name
     ·refine kq (And.intro @zf_ (And.intro @hz (And.intro @hd (And.intro @hix (And.intro @hb1 (And.intro @ld2 (@hq))))))) ?_
      try with_reducible refine Ow.nil ?_
      first|with_reducible refine ks [] @zf_ ?_|refine kp @zf_ ?_
      refine⟨_,(ke @zf_), ?_⟩
      exact OfSRf.tab (by rw[xo_ hgm,hok,show ltB (t.getD (g - 1) xr_).name r.name=false from hq];rfl) hlt ⟨hwx,hwm,hw5,trivial⟩
     ·refine kq (And.intro @zf_ (And.intro @hz (And.intro @hd (And.intro @hix (And.intro @hb1 (And.intro @ld2 (@hq))))))) ?_
      refine Ow.soft rfl rfl rfl ?_
      refine Ow.callE rfl rfl Tryz.call158 (by simp[keys]) (fun w' hw'=>XK_ bm o m r w' (hw'.has _ _ (List.mem_cons_of_mem _ List.mem_cons_self)) hgo) (fun v o' hS=> ?_)
      with_reducible refine Ow.nil ?_
      refine⟨fun b hb=>jT_ (by simp only[List.mem_cons,List.not_mem_nil,or_false] at hb;omega), ?_⟩
      refine kn ?_
      obtain⟨rfl,hm'⟩:=hS
      rw[W9_] at hm' ⊢
      by_cases h16: (wl_ z32 (r.name,r.id.l) m).length≤16
      ·have hd2:decide ((wl_ z32 (r.name,r.id.l) m).length≤16)=true:=by simpa using h16
       refine kq (And.intro @zf_ @hd2) ?_
       try with_reducible refine Ow.nil ?_
       refine Cw.forgetN [(bx, .cells #[vt,vl] 73 (0,0)),(bm,o')] (by exact⟨hwx,hwm,hw5,trivial⟩) (by intro p hp;simp only[List.mem_cons,List.not_mem_nil,or_false] at hp ⊢;all_goals (first| (rcases hp with rfl|hp<;>simp_all) | (subst hp;simp) |simp_all)) (by simp[keys]<;>omega) ?_
       first|with_reducible refine ks [] @zf_ ?_|refine kp @zf_ ?_
       refine Again.mk ⟨g+1,wl_ z32 (r.name,r.id.l) m,o'⟩ (by simp only;omega) ⟨hlt, ?_,hm'⟩ rfl rfl
       rw[xo_ hgm,hok,hpg,hd2,Bool.and_true]
       exact if_pos hq
      ·have hd2:decide ((wl_ z32 (r.name,r.id.l) m).length≤16)=false:=by simpa using h16
       refine kq (And.intro @zf_ @hd2) ?_
       try with_reducible refine Ow.nil ?_
       first|with_reducible refine ks [] @zf_ ?_|refine kp @zf_ ?_
       refine⟨_,(ke @zf_), ?_⟩
       exact OfSRf.tab (by rw[xo_ hgm,hpg,hd2,Bool.and_false];rfl) hlt ⟨hwx,hwm,hw5,trivial⟩
   ·have hok:ZA_ zP_ z32 (prs t) g=false:=by unfold ZA_;rw[hpg];simp only[hz,Bool.not_true,Bool.and_false,Bool.false_and]
    refine kq (And.intro @zf_ @hz) ?_
    try with_reducible refine Ow.nil ?_
    first|with_reducible refine ks [] @zf_ ?_|refine kp @zf_ ?_
    refine⟨_,(ke @zf_), ?_⟩
    exact OfSRf.tab (by rw[xo_ hgm,hok];rfl) hlt ⟨hwx,hwm,hw5,trivial⟩
 ·obtain rfl:g=t.length:=by omega
  obtain⟨b2,o2,a2,E2,f2,h2⟩:=hl.row
  obtain⟨vl',hsl,hlk,-⟩:=hl.take hk true
  obtain⟨b3,o3,a3,E3,f3,h3⟩:=hlk.row
  have hkl: (l.take k).length=k:=by simp;omega
  have hlen3:=hlk.len
  rw[hkl] at hlen3
  ((try with_reducible refine Cw.go [] ?_);(try simp(disch:=(first|assumption|omega| (simp only[qP_,qM_,UInt64.reduceToNat];try omega))) only[↓Sx.S0,Sx.S1,Tryz.fx,zf_,Nat.reduceAdd,Nat.reducePow,Int.reducePow,Nat.reduceBEq, ↓reduceIte,UInt8.reduceToNat,UInt16.reduceToNat,UInt32.reduceToNat,UInt64.reduceToNat,Int.reduceToNat,ht.len,hl.len,hsl,hlen3]))
  refine Cw.loopG (G:=OG) [59,60,61,10,62,63,64,65,66,67,68,69,70,71,4,5,72,58] (fun g=> [(58,vi g.g)]) (fun g=> [(bx, .cells #[vt,vl] 73 (0,0)),(bm,g.o)]) (fun g=>g.g≤k∧logM zP_ z32 (prs l) m g.g=some g.m∧MapR g.o g.m) (fun g=>k - g.g) ⟨0,m,o⟩ rfl rfl ?_ ?_
  ·exact⟨Nat.zero_le _,rfl,hgo⟩
  intro g j hg
  refine kv ?_
  obtain⟨g,mm,o⟩:=g
  simp only at hg ⊢
  obtain⟨hgl2,hgm2,hgo2⟩:=hg
  by_cases hlt2:g<k
  ·have hb3:=h3.has (by omega)
   have hb3l:=h3.lt (by omega)
   have ld3:=h3.load zF_ (by omega) (show g< (l.take k).length by omega)
   have hgt: (l.take k).getD g xr_=l.getD g xr_:=by rw[List.getD_eq_getElem?_getD,List.getD_eq_getElem?_getD,List.getElem?_take_of_lt hlt2]
   rw[hgt] at ld3
   have hix3:=h3.idx true g (by omega)
   have hil:=(l.getD g xr_).id.h
   have hnm:=hnl g (by omega)
   have hpg:=Zi_ l g (by omega)
   generalize hr:l.getD g xr_=r at*
   first|with_reducible refine ks [13] (And.intro @zf_ (And.intro @hix3 (And.intro @hb3 (@ld3)))) ?_|refine kp (And.intro @zf_ (And.intro @hix3 (And.intro @hb3 (@ld3)))) ?_
   refine Ow.alloc rfl rfl ZH_ fun b5 hb5 hw5=> ?_
   simp only[zg_,List.nil_append,List.cons_append]
   obtain⟨hx5,hm5,-⟩:=hb5
   refine ko @zf_ ?_
   first|with_reducible refine ks [] @zf_ ?_|refine kp @zf_ ?_
   refine Ow.callFV rfl Tryz.call149 (fun w' hw'=>xF_ r.name w' hnm) ?_
   cases hn:zP_ r.name
   ·refine ko @zf_ ?_
    try with_reducible refine Ow.nil ?_
    first|with_reducible refine ks [] @zf_ ?_|refine kp @zf_ ?_
    refine⟨_,(ke @zf_), ?_⟩
    exact OfSRf.log hgm (by rw[QG_ hgm2,hpg];simp only[hn,Bool.false_and,Bool.false_eq_true, ↓reduceIte]) hlt2 ⟨hwx,hwm,hw5,trivial⟩
   ·refine ko @zf_ ?_
    refine Ow.callE rfl rfl Tryz.call158 (by simp[keys]) (fun w' hw'=>XK_ bm o mm r w' (hw'.has _ _ (List.mem_cons_of_mem _ List.mem_cons_self)) hgo2) (fun v o' hS=> ?_)
    refine kn ?_
    obtain⟨rfl,hm'⟩:=hS
    rw[W9_] at hm' ⊢
    by_cases h16: (wl_ z32 (r.name,r.id.l) mm).length≤16
    ·have hd2:decide ((wl_ z32 (r.name,r.id.l) mm).length≤16)=true:=by simpa using h16
     refine ko (And.intro @zf_ @hd2) ?_
     try with_reducible refine Ow.nil ?_
     refine Cw.forgetN [(bx, .cells #[vt,vl] 73 (0,0)),(bm,o')] (by exact⟨hwx,hwm,hw5,trivial⟩) (by intro p hp;simp only[List.mem_cons,List.not_mem_nil,or_false] at hp ⊢;all_goals (first| (rcases hp with rfl|hp<;>simp_all) | (subst hp;simp) |simp_all)) (by simp[keys]<;>omega) ?_
     first|with_reducible refine ks [] @zf_ ?_|refine kp @zf_ ?_
     refine Again.mk ⟨g+1,wl_ z32 (r.name,r.id.l) mm,o'⟩ (by simp only;omega) ⟨hlt2, ?_,hm'⟩ rfl rfl
     rw[QG_ hgm2,hpg]
     simp only[hn,hd2,Bool.and_true, ↓reduceIte]
    ·have hd2:decide ((wl_ z32 (r.name,r.id.l) mm).length≤16)=false:=by simpa using h16
     refine ko (And.intro @zf_ @hd2) ?_
     try with_reducible refine Ow.nil ?_
     first|with_reducible refine ks [] @zf_ ?_|refine kp @zf_ ?_
     refine⟨_,(ke @zf_), ?_⟩
     exact OfSRf.log hgm (by rw[QG_ hgm2,hpg];simp only[hd2,Bool.and_false,Bool.false_eq_true, ↓reduceIte]) hlt2 ⟨hwx,hwm,hw5,trivial⟩
  ·obtain rfl:g=k:=by omega
   ((try with_reducible refine Cw.go [1000014] ?_);(try simp(disch:=(first|assumption|omega| (simp only[qP_,qM_,UInt64.reduceToNat];try omega))) only[↓Sx.S0,Sx.S1,Tryz.fx,zf_,Nat.reduceAdd,Nat.reducePow,Int.reducePow,Nat.reduceBEq, ↓reduceIte,UInt8.reduceToNat,UInt16.reduceToNat,UInt32.reduceToNat,UInt64.reduceToNat,Int.reduceToNat,hl.len]))
   refine Cw.seq ?_
   refine Cw.regionS [bx] [0,1,5,2,3,4,6] [] (by kernel_rfl) (by kernel_rfl) (by kernel_rfl) ?_
   simp only[zI_, ↓zr_, ↓zk_, ↓z0_, ↓zZ_,zl_]
   refine Ow.goQ ?_
   simp(disch:=(first|assumption|omega| (simp only[qP_,qM_,UInt64.reduceToNat];try omega))) only[↓Sx.S0,Sx.S1,Tryz.fx,zf_,Nat.reduceAdd,Nat.reducePow,Int.reducePow,Nat.reduceBEq, ↓reduceIte,UInt8.reduceToNat,UInt16.reduceToNat,UInt32.reduceToNat,UInt64.reduceToNat,Int.reduceToNat,hl.len]
   try with_reducible refine Ow.nil ?_
   refine Cw.forgetN [(bm,o)] (by exact⟨hwx,hwm,trivial⟩) (by intro p hp;simp only[List.mem_cons,List.not_mem_nil,or_false] at hp ⊢;all_goals (first| (rcases hp with rfl|hp<;>simp_all) | (subst hp;simp) |simp_all)) (by simp[keys]<;>omega) ?_
   first|with_reducible refine ks [] @zf_ ?_|refine kp @zf_ ?_
   refine⟨_,(ke @zf_), ?_⟩
   unfold OfSRf ofM
   rw[kD_,hgm,Option.bind_some,hgm2]
   exact⟨bm,o,congrArg (fun b=>Value.tuple #[vm bm, .bool b]) (decide_eq_decide.2 (by omega)),rfl,hgo2,hwm⟩
end Go.Proofs
end
section
open Go Go.Proofs Go.Sx Go.RefP
namespace Go.Proofs
set_option maxRecDepth 10000
set_option maxHeartbeats 4000000
set_option linter.unusedSimpArgs false
set_option linter.defProp false
def zu_:=And.intro (And.intro (And.intro (@zw_) (And.intro (@qx_) (@qw_))) (And.intro (And.intro (@qu_) (@zv_)) (And.intro (@jA_) (@jw_)))) (And.intro (And.intro (And.intro (@ql_) (@acH_)) (And.intro (@kd_) (@x4_))) (And.intro (And.intro (@kX_) (@k8_)) (And.intro (@tup2_0) (@tup2_1))))
theorem qR_ (a b:Value) (E:TypeId):zD_ (some (true,2)) (some (.cells #[a,b] E (0,0))) 0=some (.agg #[a,b]):=k1_ _ E (0,0) 2 rfl
def jo_ (l:List RefL):Prop:= ∀g,g<l.length→(l.getD g xr_).name.length<1099511627776
theorem xP_ (vt vl:Value) (t l:List RefL) (w:World) (ht:xB_ w vt t) (hl:xB_ w vl l) (htl:t.length<1000000) (hll:l.length<1000000) (hnt:jo_ t) (hnl:jo_ l):
  Rets Tryz.prog 88 #[.agg #[vt,vl]] w (fun v D=>v= .bool (qj_ t l)∧D= []):=by
 unfold qj_ adM_
 rw[kD_]
 refine Rets.enterV Tryz.func88 rfl (rs:= [.tmp 2]) Tryz.results88 Tryz.ntmps88 ?_
 refine kf ?_
 first|with_reducible refine ks [] @zu_ ?_|refine kp @zu_ ?_
 refine Ow.box rfl rfl fun bx hbx hwx=> ?_
 simp only[qf_,z5_,qe_,zg_,List.nil_append,List.cons_append]
 refine Ow.go rfl ?_
 simp(disch:=(first|assumption|omega| (simp only[qP_,qM_,UInt64.reduceToNat];try omega))) only[↓Sx.S0,Sx.S1,Tryz.fx,zu_,Nat.reduceAdd,Nat.reducePow,Int.reducePow,Nat.reduceBEq, ↓reduceIte,UInt8.reduceToNat,UInt16.reduceToNat,UInt32.reduceToNat,UInt64.reduceToNat,Int.reduceToNat]
 ((try with_reducible refine Cw.go [] ?_);(try simp(disch:=(first|assumption|omega| (simp only[qP_,qM_,UInt64.reduceToNat];try omega))) only[↓Sx.S0,Sx.S1,Tryz.fx,zu_,Nat.reduceAdd,Nat.reducePow,Int.reducePow,Nat.reduceBEq, ↓reduceIte,UInt8.reduceToNat,UInt16.reduceToNat,UInt32.reduceToNat,UInt64.reduceToNat,Int.reduceToNat,hl.len,qR_]))
 refine Ow.callN rfl rfl Tryz.call89 (S:=(fun B v D=>OfSRf B t l l.length v D)) (fun w' hw'=>adF_ vt vl t l l.length w' (ht.oldN hw' ⟨hwx,trivial⟩) (hl.oldN hw' ⟨hwx,trivial⟩) htl hll (Nat.le_refl _) hnt hnl) (fun B v D h=>h.new) (fun B v D hA hB hS=> ?_)
 have hnew:=hS.new
 unfold OfSRf at hS
 cases ho:ofM zP_ z32 (prs t) (prs l) l.length with
 |none=>
  rw[ho] at hS
  obtain⟨rfl,hD⟩:=hS
  refine ko @zu_ ?_
  first|with_reducible refine ks [] @zu_ ?_|refine kp @zu_ ?_
  refine⟨_,(ke @zu_),⟨hwx,hnew.mono hB⟩, ?_⟩
  rfl
 |some m=>
  rw[ho] at hS
  obtain⟨b,o,rfl,rfl,hm,hb⟩:=hS
  refine ko @zu_ ?_
  first|with_reducible refine ks [] @zu_ ?_|refine kp @zu_ ?_
  refine⟨_,(ke @zu_),⟨hwx,Nat.le_trans hB hb,trivial⟩, ?_⟩
  simp[xq_]
theorem aa7_ {m:qB_} {n z:List UInt8} (h:AllLen m) (hz:z.length=32): (getV n z m).length=32:=by
 unfold getV
 cases hf:m.find? fun p=>n==p.1 with
 |none=>exact hz
 |some p=>exact h p (List.mem_of_find?_eq_some hf)
theorem XQ_ (l:List RefL): ∀g,g< (prs l).length→((prs l).getD g zp).2.length=32:=by
 intro g hg
 rw[kD_] at hg
 rw[Zi_ l g hg]
 exact(l.getD g xr_).id.h
def xM_ (t l:List RefL) (n:List UInt8):List UInt8:=
 match ofM zP_ z32 (prs t) (prs l) l.length with
 |some m=>if l.length≤100 then getV n z32 m else z32
 |none=>z32
theorem J2_ (vt vl:Value) (t l:List RefL) (n:List UInt8) (w:World) (ht:xB_ w vt t) (hl:xB_ w vl l) (htl:t.length<1000000) (hll:l.length<1000000) (hnt:jo_ t) (hnl:jo_ l):
  Rets Tryz.prog 82 #[.agg #[vt,vl],vs n] w (fun v D=>v= .agg (a8 (xM_ t l n))∧D= []):=by
 refine Rets.enterV Tryz.func82 rfl (rs:= [.cell 4 24]) Tryz.results82 Tryz.ntmps82 ?_
 refine kf ?_
 first|with_reducible refine ks [] @zu_ ?_|refine kp @zu_ ?_
 refine Ow.box rfl rfl fun bx hbx hwx=> ?_
 simp only[qf_,z5_,qe_,zg_,List.nil_append,List.cons_append]
 refine Ow.go rfl ?_
 simp(disch:=(first|assumption|omega| (simp only[qP_,qM_,UInt64.reduceToNat];try omega))) only[↓Sx.S0,Sx.S1,Tryz.fx,zu_,Nat.reduceAdd,Nat.reducePow,Int.reducePow,Nat.reduceBEq, ↓reduceIte,UInt8.reduceToNat,UInt16.reduceToNat,UInt32.reduceToNat,UInt64.reduceToNat,Int.reduceToNat]
 have zrId:zY_ Tryz.prog 24=some (.agg (a8 (List.replicate 32 0))):=Tryz.zr24
 rw[show(List.replicate 32 (0:UInt8))=z32 from rfl] at zrId
 have hzl:z32.length=32:=by simp[z32]
 refine Ow.alloc rfl rfl zrId fun b1 hb1 hw1=> ?_
 simp only[zg_,List.nil_append,List.cons_append]
 obtain⟨hx1,-⟩:=hb1
 refine ko @zu_ ?_
 ((try with_reducible refine Cw.go [] ?_);(try simp(disch:=(first|assumption|omega| (simp only[qP_,qM_,UInt64.reduceToNat];try omega))) only[↓Sx.S0,Sx.S1,Tryz.fx,zu_,Nat.reduceAdd,Nat.reducePow,Int.reducePow,Nat.reduceBEq, ↓reduceIte,UInt8.reduceToNat,UInt16.reduceToNat,UInt32.reduceToNat,UInt64.reduceToNat,Int.reduceToNat,hl.len,qR_]))
 refine Ow.callN rfl rfl Tryz.call89 (S:=(fun B v D=>OfSRf B t l l.length v D)) (fun w' hw'=>adF_ vt vl t l l.length w' (ht.oldN hw' ⟨hwx,hw1,trivial⟩) (hl.oldN hw' ⟨hwx,hw1,trivial⟩) htl hll (Nat.le_refl _) hnt hnl) (fun B v D h=>h.new) (fun B v D hA hB hS=> ?_)
 have hnew:=hS.new
 unfold OfSRf at hS
 unfold xM_
 cases ho:ofM zP_ z32 (prs t) (prs l) l.length with
 |none=>
  rw[ho] at hS
  obtain⟨rfl,hD⟩:=hS
  refine ko @zu_ ?_
  first|with_reducible refine ks [] @zu_ ?_|refine kp @zu_ ?_
  refine Ow.build (.agg (a8 z32)) rfl (by kernel_rfl) ?_
  refine ko @zu_ ?_
  first|with_reducible refine ks [] @zu_ ?_|refine kp @zu_ ?_
  refine⟨_,(ke @zu_),⟨hwx,hw1,hnew.mono hB⟩, ?_⟩
  rfl
 |some m=>
  rw[ho] at hS
  obtain⟨b,o,rfl,rfl,hm,hb⟩:=hS
  obtain⟨hxb,h1b,-⟩:=hA
  have hwb:=Nat.le_trans hB hb
  by_cases h100:l.length≤100
  ·have hd:decide (l.length≤100)=true:=by simpa using h100
   refine ko @zu_ ?_
   first|with_reducible refine ks [] (And.intro @zu_ @hd) ?_|refine kp (And.intro @zu_ @hd) ?_
   refine Ow.mapGet rfl rfl Tryz.underlying162 Tryz.underlying9 zrId rfl rfl (zb_ (by rw[jn_ _ _ _ _ (by omega),jn_ _ _ _ _ (by omega)];exact zB_ _ _ _)) hm ?_
   have hgl:=aa7_ (n:=n) (aeE_ (XQ_ t) (XQ_ l) (by rw[kD_];exact Nat.le_refl _) ho) hzl
   refine ko @zu_ ?_
   first|with_reducible refine ks [] @zu_ ?_|refine kp @zu_ ?_
   refine⟨_,(ke @zu_),⟨hwx,hw1,hwb,trivial⟩, ?_⟩
   exact congrArg (fun x=>Value.agg (a8 x)) (if_pos h100).symm
  ·have hd:decide (l.length≤100)=false:=by simpa using h100
   refine ko @zu_ ?_
   first|with_reducible refine ks [] (And.intro @zu_ @hd) ?_|refine kp (And.intro @zu_ @hd) ?_
   refine Ow.build (.agg (a8 z32)) rfl (by kernel_rfl) ?_
   refine ko @zu_ ?_
   first|with_reducible refine ks [] @zu_ ?_|refine kp @zu_ ?_
   refine⟨_,(ke @zu_),⟨hwx,hw1,hwb,trivial⟩, ?_⟩
   exact congrArg (fun x=>Value.agg (a8 x)) (if_neg h100).symm
end Go.Proofs
end
section
open Go Go.Proofs Go.Sx Go.RefP
namespace Go.Proofs
set_option maxRecDepth 10000
set_option maxHeartbeats 4000000
set_option linter.unusedSimpArgs false
theorem zrBk:zY_ Tryz.prog 73=some (.agg #[.slice none 0 0, .slice none 0 0]):=id (by kernel_rfl)
theorem k5_ (p q x y:Value) (E:TypeId) (hx:Value.oneCell' x=true) (hy:Value.oneCell' y=true):zz_ (some (true,2)) (some (.cells #[p,q] E (0,0))) 0 (.agg #[x,y])=some (.cells #[x,y] E (0,0)):=
 ZU_ 2 true #[x,y] #[p,q] E ⟨rfl,rfl⟩ (by simp[hx,hy])
theorem KP_ (p q:Value) (E:TypeId):zz_ (some (true,2)) (some (.cells #[p,q] E (0,0))) 0 (.agg #[.slice none 0 0, .slice none 0 0])=some (.cells #[.slice none 0 0, .slice none 0 0] E (0,0)):=k5_ _ _ _ _ E rfl rfl
def AddS (_n:Nat) (t l:List RefL) (nm:List UInt8) (id:IdL) (v:Value) (D:za_):Prop:=
 if qj_ t l=true∧zP_ nm=true then
  (if qj_ t (l++ [⟨nm,id⟩])=true then∃vt vl,v= .tuple #[.agg #[vt,vl],vs (zO_ (qI_ ⟨nm,id⟩)),vi 0]∧GrI D 149 33 vt t.length (t.map zH_).flatten∧GrI D 149 33 vl (l.length+1) ((l++ [(⟨nm,id⟩:RefL)]).map zH_).flatten
  else v= .tuple #[.agg #[.slice none 0 0, .slice none 0 0],vs [],vi 18])
 else v= .tuple #[.agg #[.slice none 0 0, .slice none 0 0],vs [],vi 1]
theorem AddS.arg {n:Nat} {t l:List RefL} {nm:List UInt8} {id:IdL} {D:za_} (h: ¬ (qj_ t l=true∧zP_ nm=true)):AddS n t l nm id (.tuple #[.agg #[.slice none 0 0, .slice none 0 0],vs [],vi 1]) D:=by
 unfold AddS;rw[if_neg h]
theorem AddS.full {n:Nat} {t l:List RefL} {nm:List UInt8} {id:IdL} {D:za_} (h:qj_ t l=true∧zP_ nm=true) (h2:qj_ t (l++ [(⟨nm,id⟩:RefL)])=false):AddS n t l nm id (.tuple #[.agg #[.slice none 0 0, .slice none 0 0],vs [],vi 18]) D:=by
 unfold AddS;rw[if_pos h,if_neg (by rw[h2];simp)]
theorem AddS.ok {n:Nat} {t l:List RefL} {nm:List UInt8} {id:IdL} {D:za_} {vt vl:Value} (h:qj_ t l=true∧zP_ nm=true) (h2:qj_ t (l++ [(⟨nm,id⟩:RefL)])=true) (h3:GrI D 149 33 vt t.length (t.map zH_).flatten) (h4:GrI D 149 33 vl (l.length+1) ((l++ [(⟨nm,id⟩:RefL)]).map zH_).flatten):
  AddS n t l nm id (.tuple #[.agg #[vt,vl],vs (zO_ (qI_ ⟨nm,id⟩)),vi 0]) D:=by
 unfold AddS;rw[if_pos h,if_pos h2];exact⟨vt,vl,rfl,h3,h4⟩
theorem XM_ (x y:Value) (hx:x.cells= #[x]) (hy:y.cells= #[y]):jD_ (Zl_ Tryz.prog 73) (zY_ Tryz.prog 73) [(0,x),(1,y)]=some (.agg #[x,y]):=by
 have hp:Zl_ Tryz.prog 73=some [(0,1),(1,1)]:=id (by kernel_rfl)
 rw[hp,zrBk]
 simp[jD_,Sx.fillV,hx,hy,k3_]
theorem v3_ (r:RefL):vX_ Tryz.prog 71 1 [(0, .agg (zH_ r).toArray)]=some (149,(zH_ r).toArray):=
 aek_ Tryz.underlying71 (id (by kernel_rfl)) ZH_ (by decide) (zF_ r)
theorem newE {z:Obj} {n:Nat} {E:za_} {p:Nat→Prop} (h:E= []∨ ∃b,E= [(b,z)]∧n≤b∧p b):New n E:=by
 rcases h with rfl| ⟨b,rfl,hb,-⟩
 ·trivial
 ·exact⟨hb,trivial⟩
structure AG where
 D1:za_
 D2:za_
 v1:Value
 v2:Value
 b7:Nat
set_option linter.defProp false
def zo_:=And.intro (And.intro (And.intro (And.intro (@zw_) (@qx_)) (And.intro (@qw_) (@qu_))) (And.intro (And.intro (@zv_) (@jA_)) (And.intro (@jw_) (@ql_)))) (And.intro (And.intro (And.intro (@acH_) (@kd_)) (And.intro (@x4_) (@kX_))) (And.intro (And.intro (@k8_) (@qR_)) (And.intro (@tup2_0) (And.intro (@tup2_1) (@KP_)))))
theorem agw_ (vt vl:Value) (t l:List RefL) (nm:List UInt8) (id:IdL) (w:World) (hG:GlobC w) (ht:xB_ w vt t) (hl:xB_ w vl l) (htl:t.length<1000) (hll:l.length<1000) (hnt:jo_ t) (hnl:jo_ l) (hnm:nm.length<1000000):
  Rets Tryz.prog 83 #[.agg #[vt,vl],vs nm, .agg (a8 id.l)] w (XS w [] (AddS w.heap.size t l nm id)):=by
 have hil:=id.h
 have hglt: (4:Nat)<w.heap.size:=by obtain⟨e,f,h⟩:=hG;exact(Array.getElem?_eq_some_iff.1 h).1
 refine Rets.enterX Tryz.func83 rfl (rs:= [.cell 6 73, .tmp 7, .tmp 8]) Tryz.results83 Tryz.ntmps83 (fun p hp=>by cases hp) (by simp[keys]) ?_
 refine kf ?_
 first|with_reducible refine ks [5] @zo_ ?_|refine kp @zo_ ?_
 refine Ow.box rfl rfl fun bx hbx hwx=> ?_
 simp only[qf_,z5_,qe_,zg_,List.nil_append,List.cons_append]
 refine Ow.go rfl ?_
 simp(disch:=(first|assumption|omega| (simp only[qP_,qM_,UInt64.reduceToNat];try omega))) only[↓Sx.S0,Sx.S1,Tryz.fx,zo_,Nat.reduceAdd,Nat.reducePow,Int.reducePow,Nat.reduceBEq, ↓reduceIte,UInt8.reduceToNat,UInt16.reduceToNat,UInt32.reduceToNat,UInt64.reduceToNat,Int.reduceToNat]
 refine Ow.box rfl rfl fun bi hbi hwi=> ?_
 simp only[qf_,z5_,qe_,zg_,List.nil_append,List.cons_append]
 refine Ow.go rfl ?_
 simp(disch:=(first|assumption|omega| (simp only[qP_,qM_,UInt64.reduceToNat];try omega))) only[↓Sx.S0,Sx.S1,Tryz.fx,zo_,Nat.reduceAdd,Nat.reducePow,Int.reducePow,Nat.reduceBEq, ↓reduceIte,UInt8.reduceToNat,UInt16.reduceToNat,UInt32.reduceToNat,UInt64.reduceToNat,Int.reduceToNat]
 obtain⟨hxi,-⟩:=hbi
 refine Ow.alloc rfl rfl zrBk fun br hbr hwr=> ?_
 simp only[zg_,List.nil_append,List.cons_append]
 obtain⟨hxr,hir,-⟩:=hbr
 refine ko @zo_ ?_
 first|with_reducible refine ks [] @zo_ ?_|refine kp @zo_ ?_
 refine Ow.callFV rfl Tryz.call88 (fun w' hw'=>xP_ vt vl t l w' (ht.oldN hw' ⟨hwx,hwi,hwr,trivial⟩) (hl.oldN hw' ⟨hwx,hwi,hwr,trivial⟩) (by omega) (by omega) hnt hnl) ?_
 cases hr:qj_ t l
 ·refine ko @zo_ ?_
  first|with_reducible refine ks [] @zo_ ?_|refine kp @zo_ ?_
  refine Ow.build (.agg #[.slice none 0 0, .slice none 0 0]) rfl (by kernel_rfl) ?_
  refine ko @zo_ ?_
  first|with_reducible refine ks [] @zo_ ?_|refine kp @zo_ ?_
  refine⟨_,(ke @zo_), ?_⟩
  refine⟨Ext.of_new ⟨hwx,hwi,hwr,trivial⟩, ?_⟩
  exact AddS.arg (by simp[hr])
 ·refine ko @zo_ ?_
  refine Ow.callFV rfl Tryz.call149 (fun w' hw'=>xF_ nm w' (by omega)) ?_
  cases hn:zP_ nm
  ·refine ko @zo_ ?_
   first|with_reducible refine ks [] @zo_ ?_|refine kp @zo_ ?_
   refine Ow.build (.agg #[.slice none 0 0, .slice none 0 0]) rfl (by kernel_rfl) ?_
   refine ko @zo_ ?_
   first|with_reducible refine ks [] @zo_ ?_|refine kp @zo_ ?_
   refine⟨_,(ke @zo_), ?_⟩
   refine⟨Ext.of_new ⟨hwx,hwi,hwr,trivial⟩, ?_⟩
   exact AddS.arg (by simp[hn])
  ·refine ko @zo_ ?_
   first|with_reducible refine ks [] @zo_ ?_|refine kp @zo_ ?_
   refine Ow.build _ rfl (K1_ nm id) ?_
   refine ko @zo_ ?_
   refine Ow.alloc rfl rfl ZH_ fun b9 hb9 hw9=> ?_
   simp only[zg_,List.nil_append,List.cons_append]
   obtain⟨hx9,hi9,hr9,-⟩:=hb9
   generalize hR: (⟨nm,id⟩:RefL)=r
   refine ko @zo_ ?_
   first|with_reducible refine ks [] @zo_ ?_|refine kp @zo_ ?_
   refine Cw.regionD [bx,b9] [11] 10 10 73 11 _ rfl (by kernel_rfl) (by kernel_rfl) rfl (by kernel_rfl) zrBk (fun hD=> ?_)
   simp only[List.replicate_succ,List.replicate_zero]
   refine OwD.run [0,3,1,4,6] [true,true,false,true,true,false,true,false,false,false,false,false] 6 rfl hD (by kernel_rfl) fun k hk=> ?_
   simp only[zI_, ↓zr_, ↓zk_, ↓z0_, ↓zZ_,zl_]
   simp(disch:=(first|assumption|omega| (simp only[qP_,qM_,UInt64.reduceToNat];try omega))) only[↓Sx.S0,Sx.S1,Tryz.fx,zo_,Nat.reduceAdd,Nat.reducePow,Int.reducePow,Nat.reduceBEq, ↓reduceIte,UInt8.reduceToNat,UInt16.reduceToNat,UInt32.reduceToNat,UInt64.reduceToNat,Int.reduceToNat,Md.next_sofnil,Md.next_sofnil]
   (with_reducible refine hk _ _ _ ?_);clear hk k
   generalize hL0: [(bx,Obj.cells #[vt,vl] 73 (0,0)),(bi,Obj.cells (a8 id.l) 24 (0,0)),(br,Obj.cells #[Value.slice none 0 0,Value.slice none 0 0] 73 (0,0)),(b9,Obj.cells (zH_ r).toArray 149 (0,0))]=L0
   have hN0:New w.heap.size L0:=by rw[←hL0];exact⟨hwx,hwi,hwr,hw9,trivial⟩
   have hkx:bx∈keys L0:=by rw[←hL0];simp[keys]
   have hk9:b9∈keys L0:=by rw[←hL0];simp[keys]
   have hle: ∀c,c∈keys L0→c≤b9:=by
    rw[←hL0];intro c hc;simp only[keys,List.map_cons,List.map_nil,List.mem_cons,List.not_mem_nil,or_false] at hc;omega
   have hRL: ∀r,r∈ [bx,b9]→r∈keys L0:=by
    intro r hr;simp only[List.mem_cons,List.not_mem_nil,or_false] at hr;rcases hr with rfl|rfl<;>assumption
   refine OwD.via (G:=AG) (fun g=> [Value.agg #[vt,vl],vs nm,Value.agg (a8 id.l),vp bx 0,undef,vp bi 0,vp br 0,vs [],vi 0,vp b9 0,undef,Value.agg #[vt,vl],Value.bool true,Value.bool false,Value.bool false,vs nm,Value.bool true,Value.bool false,Value.bool false,undef,vs nm,Value.agg (a8 id.l),Value.agg (zH_ r).toArray,vp bx 0,vt,g.v1,vp bx 1,vl,g.v2,Value.agg (zH_ r).toArray,vsl g.b7 0 1 1,undef,undef,undef,undef,undef,undef,undef,undef,undef]) (fun g=>L0++g.D1++g.D2++ [(g.b7,Obj.cells (zH_ r).toArray 149 (0,0))]) (fun g=>New (b9+1) g.D1∧New (b9+1) g.D2∧b9<g.b7∧Gr g.D1 149 33 g.v1 t.length (t.map zH_).flatten∧Gr g.D2 149 33 g.v2 l.length (l.map zH_).flatten) 3 [true,true,true,true,true,true,true,true,false,false,false,false] (fun key=> ?_) (fun g hg=> ?_)
   ·refine OwD.two 2 7 _ _ hD rfl rfl (by kernel_rfl) (fun E hE=> ?_) (fun E hE=> ?_)
    ·have hEN:New w.heap.size E:=newE hE
     refine Ow.callC rfl rfl Tryz.call81 (fun w' hw'=>qt_ vt t w' (ht.oldN hw' (hN0.app hEN)) (by omega)) (fun B1 v1 D1 hA1 hB1 hN1 hS1=> ?_)
     have hM1:New (b9+1) D1:=hN1.mono (zi_ hA1 (by simp[zc_,hk9]))
     with_reducible refine Ow.nil ?_
     refine⟨_,j8_,qg_ (fun r hr=>by simp[zc_,hRL r hr]), ?_⟩
     simp only[List.set_cons_zero,List.set_cons_succ,qc_,jF_,jG_]
     refine OwD.two 5 7 _ _ hD rfl rfl (by kernel_rfl) (fun E hE=> ?_) (fun E hE=> ?_)
     ·have hEN:New w.heap.size E:=newE hE
      refine Ow.callC rfl rfl Tryz.call81 (fun w' hw'=>qt_ vl l w' (hl.oldN hw' ((hN0.app (hN1.mono hB1)).app hEN)) (by omega)) (fun B2 v2 D2 hA2 hB2 hN2 hS2=> ?_)
      have hM2:New (b9+1) D2:=hN2.mono (zi_ hA2 (by simp[zc_,hk9]))
      with_reducible refine Ow.nil ?_
      refine⟨_,j8_,qg_ (fun r hr=>by simp[zc_,hRL r hr]), ?_⟩
      simp only[List.set_cons_zero,List.set_cons_succ,qc_,jF_,jG_]
      refine OwD.soft 7 _ hD rfl (by kernel_rfl) (fun E hE=> ?_)
      refine Ow.buildSlice (e:=149) (zH_ r).toArray rfl rfl (v3_ r) fun b7 hb7 hw7=> ?_
      have hM7:b9<b7:=zi_ hb7 (by simp[zc_,hk9])
      with_reducible refine Ow.nil ?_
      refine⟨_,j8_,qg_ (fun r hr=>by simp[zc_,hRL r hr]), ?_⟩
      simp only[List.set_cons_zero,List.set_cons_succ,qc_,jF_,jG_]
      exact key ⟨D1,D2,v1,v2,b7⟩ _ _ ⟨hM1,hM2,hM7,hS1,hS2⟩ rfl (by classical exact List.perm_iff_count.2 fun a=>by simp only[List.count_append,List.count_cons,List.count_nil]<;>omega)
     ·have hEN:New w.heap.size E:=newE hE
      refine Ow.buildSlice (e:=149) (zH_ r).toArray rfl rfl (v3_ r) fun b7 hb7 hw7=> ?_
      have hM7:b9<b7:=zi_ hb7 (by simp[zc_,hk9])
      with_reducible refine Ow.nil ?_
      refine⟨_,j8_,qg_ (fun r hr=>by simp[zc_,hRL r hr]), ?_⟩
      simp only[List.set_cons_zero,List.set_cons_succ,qc_,jF_,jG_]
      refine OwD.soft 5 _ hD rfl (by kernel_rfl) (fun E hE=> ?_)
      have hEN:New w.heap.size E:=newE hE
      refine Ow.callC rfl rfl Tryz.call81 (fun w' hw'=>qt_ vl l w' (hl.oldN hw' (((hN0.app (hN1.mono hB1)).app (show New w.heap.size [(b7,Obj.cells (zH_ r).toArray 149 (0,0))] from⟨hw7,trivial⟩)).app hEN)) (by omega)) (fun B2 v2 D2 hA2 hB2 hN2 hS2=> ?_)
      have hM2:New (b9+1) D2:=hN2.mono (zi_ hA2 (by simp[zc_,hk9]))
      with_reducible refine Ow.nil ?_
      refine⟨_,j8_,qg_ (fun r hr=>by simp[zc_,hRL r hr]), ?_⟩
      simp only[List.set_cons_zero,List.set_cons_succ,qc_,jF_,jG_]
      exact key ⟨D1,D2,v1,v2,b7⟩ _ _ ⟨hM1,hM2,hM7,hS1,hS2⟩ rfl (by classical exact List.perm_iff_count.2 fun a=>by simp only[List.count_append,List.count_cons,List.count_nil]<;>omega)
    ·have hEN:New w.heap.size E:=newE hE
     refine Ow.buildSlice (e:=149) (zH_ r).toArray rfl rfl (v3_ r) fun b7 hb7 hw7=> ?_
     have hM7:b9<b7:=zi_ hb7 (by simp[zc_,hk9])
     with_reducible refine Ow.nil ?_
     refine⟨_,j8_,qg_ (fun r hr=>by simp[zc_,hRL r hr]), ?_⟩
     simp only[List.set_cons_zero,List.set_cons_succ,qc_,jF_,jG_]
     refine OwD.soft 2 _ hD rfl (by kernel_rfl) (fun E hE=> ?_)
     have hEN:New w.heap.size E:=newE hE
     refine Ow.callC rfl rfl Tryz.call81 (fun w' hw'=>qt_ vt t w' (ht.oldN hw' ((hN0.app (show New w.heap.size [(b7,Obj.cells (zH_ r).toArray 149 (0,0))] from⟨hw7,trivial⟩)).app hEN)) (by omega)) (fun B1 v1 D1 hA1 hB1 hN1 hS1=> ?_)
     have hM1:New (b9+1) D1:=hN1.mono (zi_ hA1 (by simp[zc_,hk9]))
     with_reducible refine Ow.nil ?_
     refine⟨_,j8_,qg_ (fun r hr=>by simp[zc_,hRL r hr]), ?_⟩
     simp only[List.set_cons_zero,List.set_cons_succ,qc_,jF_,jG_]
     refine OwD.soft 5 _ hD rfl (by kernel_rfl) (fun E hE=> ?_)
     have hEN:New w.heap.size E:=newE hE
     refine Ow.callC rfl rfl Tryz.call81 (fun w' hw'=>qt_ vl l w' (hl.oldN hw' (((hN0.app (show New w.heap.size [(b7,Obj.cells (zH_ r).toArray 149 (0,0))] from⟨hw7,trivial⟩)).app (hN1.mono hB1)).app hEN)) (by omega)) (fun B2 v2 D2 hA2 hB2 hN2 hS2=> ?_)
     have hM2:New (b9+1) D2:=hN2.mono (zi_ hA2 (by simp[zc_,hk9]))
     with_reducible refine Ow.nil ?_
     refine⟨_,j8_,qg_ (fun r hr=>by simp[zc_,hRL r hr]), ?_⟩
     simp only[List.set_cons_zero,List.set_cons_succ,qc_,jF_,jG_]
     exact key ⟨D1,D2,v1,v2,b7⟩ _ _ ⟨hM1,hM2,hM7,hS1,hS2⟩ rfl (by classical exact List.perm_iff_count.2 fun a=>by simp only[List.count_append,List.count_cons,List.count_nil]<;>omega)
   ·obtain⟨D1,D2,v1,v2,b7⟩:=g
    obtain⟨hn1,hn2,hb7,hg1,hg2⟩:=hg
    simp only at hn1 hn2 hb7 hg1 hg2 ⊢
    refine OwD.soft 8 _ hD rfl (by kernel_rfl) (fun E hE=> ?_)
    have hEN:=newE hE
    refine Ow.permL (M:=D2++ (L0++D1++ [(b7,Obj.cells (zH_ r).toArray 149 (0,0))]++E)) (by classical exact List.perm_iff_count.2 fun a=>by simp only[List.count_append,List.count_cons,List.count_nil]<;>omega) ?_
    refine Ow.appendX (e:=149) (k:=1) (new:=zH_ r) (X:=D2) v2 rfl rfl rfl rfl Tryz.underlying71 Tryz.ag149 (by kernel_rfl) ZH_ (by rw[ql_,List.size_toArray,zF_]) Tryz.underlying71 (by intro k h;cases h) hg2 (fun w' hw'=>AppX.one1 (hw'.has b7 (.cells (zH_ r).toArray 149 (0,0)) (by simp)) (zF_ r) (Zv_ r)) (by omega) (by omega) (fun B v3 D3 hA3 hB3 hbuf hk1 hk2 hlk=> ?_)
    have hB9:b9<B:=zi_ hA3 (by simp[zc_,hk9])
    have hn3:New (b9+1) D3:=New.of_le fun c hc=>by
     rcases hk2 c hc with h|h
     ·exact hn2.le c h
     ·omega
    have hRD: ∀r,r∈ [bx,b9]→r∉keys D3:=fun r hr hm=>by have:=hn3.le r hm;have:=hle r (hRL r hr);omega
    with_reducible refine Ow.nil ?_
    refine⟨D3++ (L0++D1++ [(b7,Obj.cells (zH_ r).toArray 149 (0,0))]),(by classical exact List.perm_iff_count.2 fun a=>by simp only[List.count_append,List.count_cons,List.count_nil]<;>omega),fun r hr=> ?_, ?_⟩
    ·have h0:=hRL r hr
     rw[wu_ (hRD r hr),xh_ (by simp[zc_,h0]),xh_ h0,xh_ (by simp[zc_,h0]),xh_ (by simp[zc_,h0]),xh_ h0]
    simp only[List.set_cons_zero,List.set_cons_succ,qc_,jF_,jG_]
    refine OwD.soft 9 _ hD rfl (by kernel_rfl) (fun E2 hE2=> ?_)
    refine Ow.build (.agg #[v1,v3]) rfl (XM_ v1 v3 hg1.cell.2 hbuf.cell.2) ?_
    with_reducible refine Ow.nil ?_
    refine⟨D3++ (L0++D1++ [(b7,Obj.cells (zH_ r).toArray 149 (0,0))]),List.Perm.refl _,fun _ _=>rfl, ?_⟩
    simp only[List.set_cons_zero,List.set_cons_succ,qc_,jF_,jG_]
    refine OwD.real [11] rfl hD (by kernel_rfl) (by kernel_rfl) (by kernel_rfl) (by kernel_rfl) (fun r hr=> .inl (by simp[zc_,hRL r hr])) ?_
    simp only[zI_, ↓zr_, ↓zk_, ↓z0_, ↓zZ_,zl_]
    intro b10 hw10 hbL
    simp only[jF_,jG_]
    refine Ow.store rfl rfl rfl (L':=(D3++ (L0++D1++ [(b7,Obj.cells (zH_ r).toArray 149 (0,0))]))++ [(b10,Obj.cells #[v1,v3] 73 (0,0))]) ?_ ?_
    ·simp only[qf_,z5_,qe_]
     rw[Tryz.ag73,kL_,vq_ hbL,zg_,k5_ _ _ _ _ _ hg1.cell.1 hbuf.cell.1,wb_,wz_ hbL]
     exact []
    subst hL0
    refine kq @zo_ ?_
    refine Cw.permL (M:= [(bx,Obj.cells #[vt,vl] 73 (0,0)),(bi,Obj.cells (a8 id.l) 24 (0,0)),(br,Obj.cells #[Value.slice none 0 0,Value.slice none 0 0] 73 (0,0)),(b9,Obj.cells (zH_ r).toArray 149 (0,0)),(b10,Obj.cells #[v1,v3] 73 (0,0)),(b7,Obj.cells (zH_ r).toArray 149 (0,0))]++ (D1++D3)) (by classical exact List.perm_iff_count.2 fun a=>by simp only[List.count_append,List.count_cons,List.count_nil]<;>omega) ?_
    simp only[List.cons_append,List.nil_append]
    have hn7:w.heap.size≤b7:=by omega
    have hn1':=hn1.mono (show w.heap.size≤b9+1 by omega)
    have hn3':=hn3.mono (show w.heap.size≤b9+1 by omega)
    have hnD:=hn1'.app hn3'
    have hb10k:bx≠b10∧bi≠b10∧br≠b10∧b9≠b10:=by
     simp only[zc_,List.mem_append,not_or] at hbL
     obtain⟨-,⟨h0,-⟩,-⟩:=hbL
     simp only[keys,List.map_cons,List.map_nil,List.mem_cons,List.not_mem_nil,or_false,not_or] at h0
     obtain⟨h1,h2,h3,h4⟩:=h0
     exact⟨Ne.symm h1,Ne.symm h2,Ne.symm h3,Ne.symm h4⟩
    obtain⟨hx10,hi10,hr10,h910⟩:=hb10k
    have hfl: (l.map zH_).flatten++zH_ r=((l++ [r]).map zH_).flatten:=by simp
    rw[hfl] at hbuf
    have hgr3:Gr D3 149 33 v3 (l.length+1) ((l++ [r]).map zH_).flatten:= .inl hbuf
    have hrn:r.name.length<1000000:=by rw[←hR];exact hnm
    have hsh:jo_ (l++ [r]):=by
     intro g hg
     by_cases hlt:g<l.length
     ·have:=hnl g hlt
      rwa [List.getD_eq_getElem?_getD,List.getElem?_append_left hlt,←List.getD_eq_getElem?_getD]
     ·have:g=l.length:=by simp at hg;omega
      subst this
      rw[List.getD_eq_getElem?_getD,List.getElem?_append_right (Nat.le_refl _)]
      simp;omega
    first|with_reducible refine ks [] (And.intro @zo_ @qR_) ?_|refine kp (And.intro @zo_ @qR_) ?_
    refine Ow.callFV rfl Tryz.call88 (fun w' hw'=>xP_ v1 v3 t (l++ [r]) w' (hg1.slM (fun b o hm=>hw'.has b o (by simp[hm])) rfl rfl zF_) (hgr3.slM (fun b o hm=>hw'.has b o (by simp[hm])) (by simp) rfl zF_) (by omega) (by simp;omega) hnt hsh) ?_
    cases hr2:qj_ t (l++ [r])
    ·refine ko @zo_ ?_
     first|with_reducible refine ks [] @zo_ ?_|refine kp @zo_ ?_
     refine Ow.build (.agg #[.slice none 0 0, .slice none 0 0]) rfl (by kernel_rfl) ?_
     refine ko @zo_ ?_
     first|with_reducible refine ks [] @zo_ ?_|refine kp @zo_ ?_
     refine⟨_,(ke @zo_), ?_⟩
     refine⟨Ext.of_new ⟨hwx,hwi,hwr,hw9,hw10,hn7,hnD⟩, ?_⟩
     exact AddS.full ⟨hr,hn⟩ (by rw[hR];exact hr2)
    ·refine ko @zo_ ?_
     first|with_reducible refine ks [] @zo_ ?_|refine kp @zo_ ?_
     refine Cw.regionO [0,1,2,3,4,5] [3] rfl (by kernel_rfl) (by kernel_rfl) ?_
     simp only[zI_, ↓zr_, ↓zk_, ↓z0_, ↓zZ_,zl_]
     refine kq (And.intro @zo_ @qR_) ?_
     refine Ow.callFV rfl Tryz.call150 (fun w' hw'=>(kl_ r w' (GlobC.of hG hw' (New.not (L:=(bx,Obj.cells #[vt,vl] 73 (0,0)):: (bi,Obj.cells (a8 id.l) 24 (0,0)):: (br,Obj.cells #[Value.slice none 0 0,Value.slice none 0 0] 73 (0,0)):: (b9,Obj.cells (zH_ r).toArray 149 (0,0)):: (b10,Obj.cells #[v1,v3] 73 (0,0)):: (b7,Obj.cells (zH_ r).toArray 149 (0,0)):: (D1++D3)) ⟨hwx,hwi,hwr,hw9,hw10,hn7,hnD⟩ hglt)) hrn).quiet) ?_
     have hst:=k5_ (.slice none 0 0) (.slice none 0 0) v1 v3 73 hg1.cell.1 hbuf.cell.1
     refine Ow.store rfl rfl rfl (ke (And.intro @zo_ @hst)) ?_
     refine kq @zo_ ?_
     try with_reducible refine Ow.nil ?_
     first|with_reducible refine ks [] @zo_ ?_|refine kp @zo_ ?_
     refine⟨_,(ke @zo_), ?_⟩
     refine⟨Ext.of_new ⟨hwx,hwi,hwr,hw9,hw10,hn7,hnD⟩, ?_⟩
     have hfin:=AddS.ok (n:=w.heap.size) (D:=(bx,Obj.cells #[vt,vl] 73 (0,0)):: (bi,Obj.cells (a8 id.l) 24 (0,0)):: (br,Obj.cells #[v1,v3] 73 (0,0)):: (b9,Obj.cells (zH_ r).toArray 149 (0,0)):: (b10,Obj.cells #[v1,v3] 73 (0,0)):: (b7,Obj.cells (zH_ r).toArray 149 (0,0)):: (D1++D3)) ⟨hr,hn⟩ (by rw[hR];exact hr2) (hg1.i fun p hp=>by simp[hp]) (by rw[hR];exact hgr3.i fun p hp=>by simp[hp])
     rw[hR] at hfin
     exact hfin
end Go.Proofs
end
section
open Go Go.Proofs Go.Sx Go.RefP
namespace Go.Proofs
set_option maxRecDepth 10000
set_option maxHeartbeats 4000000
set_option linter.unusedSimpArgs false
theorem alR_ (id:IdL): ∀k,k< [id].length→ ∀j,j<32→(a8 id.l)[0+k*32+j]? =(idLC ([id].getD k id0))[j]? :=by
 intro k hk j hj
 obtain rfl:k=0:=by simpa using hk
 simp only[Nat.zero_mul,Nat.zero_add,List.getD_cons_zero]
 rw[←V4_,List.getElem?_toArray]
def refB (r:RefL):List UInt8:=xa_ r.name++r.id.l
def tabB (t:List RefL):List UInt8:=(t.map refB).flatten
def kc_ (t:List RefL):List UInt8:= [72]++Zp_ (jt_ t.length)++tabB t
def logB (l:List RefL):List UInt8:=(l.map fun r=>zO_ (qI_ r)).flatten
def QW_ (t l:List RefL):List UInt8:=zO_ (kc_ t)++logB l
def SmallN (l:List RefL):Prop:= ∀g,g<l.length→(l.getD g xr_).name.length<1000
theorem SmallN.short {l:List RefL} (h:SmallN l):jo_ l:=fun g hg=>Nat.lt_trans (h g hg) (by omega)
theorem ahe_ {r:RefL} (h:r.name.length<1000): (refB r).length<1100:=by
 have:=zE_ (r.name.length:Int)
 have:=r.id.h
 simp only[refB,xa_,List.length_append];omega
theorem abL_ (t:List RefL) (g:Nat) (h:g<t.length):t.take (g+1)=t.take g++ [t.getD g xr_]:=by
 rw[List.take_add_one,List.getElem?_eq_getElem h,List.getD_eq_getElem?_getD,List.getElem?_eq_getElem h];rfl
theorem K9_ (t:List RefL) (g:Nat) (h:g<t.length):tabB (t.take (g+1))=tabB (t.take g)++refB (t.getD g xr_):=by
 unfold tabB
 rw[abL_ t g h,List.map_append,List.flatten_append];simp only[List.map_cons,List.map_nil,List.flatten_cons,List.flatten_nil,List.append_nil]
theorem Vs_ (t:List RefL) (g:Nat) (h:g<t.length):logB (t.take (g+1))=logB (t.take g)++zO_ (qI_ (t.getD g xr_)):=by
 unfold logB
 rw[abL_ t g h,List.map_append,List.flatten_append];simp only[List.map_cons,List.map_nil,List.flatten_cons,List.flatten_nil,List.append_nil]
theorem XW_ {t:List RefL} (h:SmallN t): ∀g,g≤t.length→(tabB (t.take g)).length≤g*1100
 |0,_=>by simp[tabB]
 |g+1,hg=>by
  rw[K9_ t g hg,List.length_append]
  have:=XW_ h g (by omega)
  have:=ahe_ (h g hg)
  omega
theorem abW_ {r:RefL} (h:r.name.length<1000): (zO_ (qI_ r)).length<1200:=by
 have h1:=zE_ (r.name.length:Int)
 have h2:=r.id.h
 have h3:=zE_ ((xD_ (qI_ r)).length:Int)
 have h4:=v7_ (qI_ r)
 simp only[zO_,xa_,List.length_append] at h3 ⊢
 rw[h4] at h3 ⊢
 simp only[qI_,xa_,List.length_append,List.length_cons,List.length_nil] at h3 ⊢
 omega
theorem abg_ {t:List RefL} (h:SmallN t): ∀g,g≤t.length→(logB (t.take g)).length≤g*1200
 |0,_=>by simp[logB]
 |g+1,hg=>by
  rw[Vs_ t g hg,List.length_append]
  have:=abg_ h g (by omega)
  have:=abW_ (h g hg)
  omega
theorem kY_ {w0:World} {L X D:za_} (hC:Came w0 L X D) {b:Nat} (hb:b∈keys L) (hX:b∉keys X):b∉keys D:=fun hm=>by
 rcases hC.new b hm with h| ⟨h,-⟩
 ·exact hX h
 ·exact Nat.lt_irrefl _ (zi_ h hb)
theorem wg_ {w0:World} {L X D:za_} (hC:Came w0 L X D) (hX:New w0.heap.size X):New w0.heap.size D:=New.of_le fun c hc=>by
 rcases hC.new c hc with h| ⟨-,h⟩
 ·exact hX.le c h
 ·exact h
set_option linter.defProp false
def zp_:=And.intro (And.intro (And.intro (And.intro (@zw_) (@qx_)) (And.intro (@qw_) (@qu_))) (And.intro (And.intro (@zv_) (@jA_)) (And.intro (@jw_) (@ql_)))) (And.intro (And.intro (And.intro (@acH_) (@kd_)) (And.intro (@x4_) (@kX_))) (And.intro (And.intro (@k8_) (@qR_)) (And.intro (@tup2_0) (@tup2_1))))
theorem acd_ (vt vl:Value) (t l:List RefL) (w:World) (hG:GlobC w) (ht:xB_ w vt t) (hl:xB_ w vl l) (htl:t.length<1000) (hll:l.length<1000) (hnt:SmallN t) (hnl:SmallN l):
  Rets Tryz.prog 86 #[.agg #[vt,vl]] w (fun v D=>v=(if qj_ t l=true then .tuple #[vs (QW_ t l),vi 0] else .tuple #[vs [],vi 1])∧D= []):=by
 have hglt: (4:Nat)<w.heap.size:=by obtain⟨e,f,h⟩:=hG;exact(Array.getElem?_eq_some_iff.1 h).1
 refine Rets.enterV Tryz.func86 rfl (rs:= [.tmp 2, .tmp 3]) Tryz.results86 Tryz.ntmps86 ?_
 refine kf ?_
 first|with_reducible refine ks [] @zp_ ?_|refine kp @zp_ ?_
 refine Ow.box rfl rfl fun bx hbx hwx=> ?_
 simp only[qf_,z5_,qe_,zg_,List.nil_append,List.cons_append]
 refine Ow.go rfl ?_
 simp(disch:=(first|assumption|omega| (simp only[qP_,qM_,UInt64.reduceToNat];try omega))) only[↓Sx.S0,Sx.S1,Tryz.fx,zp_,Nat.reduceAdd,Nat.reducePow,Int.reducePow,Nat.reduceBEq, ↓reduceIte,UInt8.reduceToNat,UInt16.reduceToNat,UInt32.reduceToNat,UInt64.reduceToNat,Int.reduceToNat]
 first|with_reducible refine ks [] (And.intro @zp_ @qR_) ?_|refine kp (And.intro @zp_ @qR_) ?_
 refine Ow.callFV rfl Tryz.call88 (fun w' hw'=>xP_ vt vl t l w' (ht.oldN hw' ⟨hwx,trivial⟩) (hl.oldN hw' ⟨hwx,trivial⟩) (by omega) (by omega) hnt.short hnl.short) ?_
 cases hr:qj_ t l
 ·refine ko @zp_ ?_
  first|with_reducible refine ks [] @zp_ ?_|refine kp @zp_ ?_
  refine⟨_,(ke @zp_),⟨hwx,trivial⟩, ?_⟩
  rfl
 ·refine ko @zp_ ?_
  first|with_reducible refine ks [] @zp_ ?_|refine kp @zp_ ?_
  refine Ow.alloc rfl rfl Tryz.zr236 fun b4 hb4 hw4=> ?_
  obtain⟨hx4,-⟩:=hb4
  refine ko @zp_ ?_
  refine Ow.permL (M:= [(b4, .cells #[.pointer none, .slice none 0 0] 236 (0,0))]++ [(bx, .cells #[vt,vl] 73 (0,0))]) (by classical exact List.perm_iff_count.2 fun a=>by simp only[List.count_append,List.count_cons,List.count_nil]<;>omega) ?_
  rw[List.cons_append,List.nil_append]
  have hZ:BldAt b4 [] [(b4, .cells #[.pointer none, .slice none 0 0] 236 (0,0))]:=BldAt.zero b4 (zB_ _ _ _)
  first|with_reducible refine ks [] @zp_ ?_|refine kp @zp_ ?_
  refine Ow.buildSlice (e:=9) #[vs [72]] rfl rfl (by kernel_rfl) fun b5 hb5 hw5=> ?_
  obtain⟨h45,hx5,-⟩:=hb5
  refine ko @zp_ ?_
  refine Ow.callX (Y:= [(bx, .cells #[vt,vl] 73 (0,0)),(b5, .cells #[vs [72]] 9 (0,0))]) (by simp) rfl rfl Tryz.call154 (fun w' hw' hX hn=>wi_ b4 [(b4, .cells #[.pointer none, .slice none 0 0] 236 (0,0))] [] _ b5 0 [[72]] _ _ _ w' hZ hX hn (StrS.lit [[72]] rfl rfl (hw'.has _ _ (List.mem_cons_of_mem _ (List.mem_cons_of_mem _ List.mem_cons_self)))) (fun _ hm=>by simp[keys] at hm;omega) (by simp) (by simp)) (fun v6 D6 hC6 hS6=> ?_)
  obtain⟨rfl,hB6⟩:=hS6
  simp only[List.flatten_cons,List.flatten_nil,List.append_nil,List.nil_append] at hB6
  have hx6:bx∉keys D6:=kY_ hC6 (by simp[keys]) (by simp[keys];omega)
  have hN6:New w.heap.size D6:=wg_ hC6 ⟨hw4,trivial⟩
  have rd6:zs_ w (D6++ [(bx, .cells #[vt,vl] 73 (0,0)),(b5, .cells #[vs [72]] 9 (0,0))]) bx=some (.cells #[vt,vl] 73 (0,0)):=zb_ (by rw[zG_ hx6];exact zB_ _ _ _)
  refine ko @zp_ ?_
  ((try with_reducible refine Cw.go [] ?_);(try simp(disch:=(first|assumption|omega| (simp only[qP_,qM_,UInt64.reduceToNat];try omega))) only[↓Sx.S0,Sx.S1,Tryz.fx,zp_,Nat.reduceAdd,Nat.reducePow,Int.reducePow,Nat.reduceBEq, ↓reduceIte,UInt8.reduceToNat,UInt16.reduceToNat,UInt32.reduceToNat,UInt64.reduceToNat,Int.reduceToNat,rd6,ht.len]))
  refine Ow.buildSlice (e:=3) #[vi t.length] rfl rfl (by kernel_rfl) fun b7 hb7 hw7=> ?_
  refine ko @zp_ ?_
  refine Ow.callX (Y:= [(bx, .cells #[vt,vl] 73 (0,0)),(b5, .cells #[vs [72]] 9 (0,0)),(b7, .cells #[vi t.length] 3 (0,0))]) (by simp) rfl rfl Tryz.call123 (fun w' hw' hX hn=>wP_ b4 D6 _ _ b7 0 [(t.length:Int)] _ _ _ w' hB6 hX hn (OneS.lit [(t.length:Int)] rfl rfl (hw'.has _ _ (List.mem_append_right _ List.mem_cons_self))) (fun _ hm=>Nat.lt_irrefl _ (zi_ hb7 (by rw[zc_];exact List.mem_append_left _ hm))) (by simp)) (fun v8 D8 hC8 hS8=> ?_)
  obtain⟨rfl,hB8⟩:=hS8
  rw[VK_] at hB8
  have hx7:bx<b7:=zi_ hb7 (by simp[zc_,keys])
  have hx8:bx∉keys D8:=kY_ hC8 (by simp[zc_,keys]) hx6
  have hN8:New w.heap.size D8:=wg_ hC8 hN6
  have rd8:zs_ w (D8++ [(bx, .cells #[vt,vl] 73 (0,0)),(b5, .cells #[vs [72]] 9 (0,0)),(b7, .cells #[vi t.length] 3 (0,0))]) bx=some (.cells #[vt,vl] 73 (0,0)):=zb_ (by rw[zG_ hx8];exact zB_ _ _ _)
  refine ko @zp_ ?_
  ((try with_reducible refine Cw.go [] ?_);(try simp(disch:=(first|assumption|omega| (simp only[qP_,qM_,UInt64.reduceToNat];try omega))) only[↓Sx.S0,Sx.S1,Tryz.fx,zp_,Nat.reduceAdd,Nat.reducePow,Int.reducePow,Nat.reduceBEq, ↓reduceIte,UInt8.reduceToNat,UInt16.reduceToNat,UInt32.reduceToNat,UInt64.reduceToNat,Int.reduceToNat,rd8,ht.len]))
  refine Cw.permL (M:=(D8++ [(b5, .cells #[vs [72]] 9 (0,0)),(b7, .cells #[vi t.length] 3 (0,0))])++ [(bx, .cells #[vt,vl] 73 (0,0))]) (by classical exact List.perm_iff_count.2 fun a=>by simp only[List.count_append,List.count_cons,List.count_nil]<;>omega) ?_
  obtain⟨b1,o1,a1,E1,f1,h1⟩:=ht.row
  refine Cw.loopG (G:=WG) [24,25,26,6,27,28,29,30,31,32,33,34,35,23] (fun g=> [(23,vi g.g)]) (fun g=>g.D++ [(bx, .cells #[vt,vl] 73 (0,0))]) (fun g=>g.g≤t.length∧New w.heap.size g.D∧bx∉keys g.D∧BldAt b4 ([72]++Zp_ (jt_ t.length)++tabB (t.take g.g)) g.D) (fun g=>t.length - g.g) ⟨0,D8++ [(b5, .cells #[vs [72]] 9 (0,0)),(b7, .cells #[vi t.length] 3 (0,0))]⟩ rfl rfl ?_ ?_
  ·exact⟨Nat.zero_le _,hN8.app ⟨hw5,hw7,trivial⟩,by intro hm;rw[zc_] at hm;exact(List.mem_append.1 hm).elim hx8 (fun h=>by simp[keys] at h;omega),by simpa [tabB] using BldAt.app hB8⟩
  intro g j hg
  refine kv ?_
  obtain⟨g,D⟩:=g
  simp only at hg ⊢
  obtain⟨hgL,hN,hxD,hBD⟩:=hg
  by_cases hlt:g<t.length
  ·have hb1:=h1.has (by omega)
   have hb1l:=h1.lt (by omega)
   have ld1:=h1.load zF_ (by omega) hlt
   have hNL:New w.heap.size (D++ [(bx, .cells #[vt,vl] 73 (0,0))]):=hN.app ⟨hwx,trivial⟩
   have rd1:zs_ w (D++ [(bx, .cells #[vt,vl] 73 (0,0))]) b1=some (.cells a1 E1 f1):=by rw[q3_ (hNL.not hb1l)];exact hb1
   have hnm:=hnt g hlt
   have hsu:=K9_ t g hlt
   have htl:=XW_ hnt g hgL
   generalize hrr:t.getD g xr_=r at*
   ((try with_reducible refine Cw.go [11] ?_);(try simp(disch:=(first|assumption|omega| (simp only[qP_,qM_,UInt64.reduceToNat];try omega))) only[↓Sx.S0,Sx.S1,Tryz.fx,zp_,Nat.reduceAdd,Nat.reducePow,Int.reducePow,Nat.reduceBEq, ↓reduceIte,UInt8.reduceToNat,UInt16.reduceToNat,UInt32.reduceToNat,UInt64.reduceToNat,Int.reduceToNat,h1.idx,rd1,ld1]))
   refine Ow.alloc rfl rfl ZH_ fun b6 hb6 hw6=> ?_
   simp only[zg_,List.nil_append,List.cons_append]
   have hx6:bx<b6:=zi_ hb6 (by simp[zc_,keys])
   have lk6: ∀o,Sx.look (D++ [(bx,Obj.cells #[vt,vl] 73 (0,0))]++ [(b6,o)]) b6=some o:=fun o=>qs_ hb6
   have st6: ∀o x,setB (D++ [(bx,Obj.cells #[vt,vl] 73 (0,0))]++ [(b6,o)]) b6 x=D++ [(bx,Obj.cells #[vt,vl] 73 (0,0))]++ [(b6,x)]:=fun o x=>vW_ hb6
   have rr6: ∀o,zs_ w (D++ [(bx,Obj.cells #[vt,vl] 73 (0,0))]++ [(b6,o)]) b6=some o:=fun o=>zb_ (lk6 o)
   refine ko (And.intro @zp_ (And.intro @lk6 (And.intro @st6 (@xp_)))) ?_
   first|with_reducible refine ks [] (And.intro @zp_ (And.intro @lk6 (And.intro @st6 (And.intro @rr6 (@xp_))))) ?_|refine kp (And.intro @zp_ (And.intro @lk6 (And.intro @st6 (And.intro @rr6 (@xp_))))) ?_
   refine Ow.buildSlice (e:=9) #[vs r.name] rfl rfl (by kernel_rfl) fun b9 hb9 hw9=> ?_
   have hnl:=zE_ (r.name.length:Int)
   have htx:jR_ [r.name]=xa_ r.name:=by simp[jR_]
   have htn: (xa_ r.name).length=(Zp_ (jt_ r.name.length)).length+r.name.length:=by unfold xa_;rw[List.length_append]
   have hnt0:=zE_ (t.length:Int)
   rw[List.append_assoc,List.append_assoc]
   simp only[List.cons_append,List.nil_append]
   refine ko @zp_ ?_
   refine Ow.callX (Y:= [(bx,Obj.cells #[vt,vl] 73 (0,0)),(b6, .cells (zH_ r).toArray 149 (0,0)),(b9, .cells #[vs r.name] 9 (0,0))]) (by simp) rfl rfl Tryz.call124 (fun w' hw' hX hn=>wr_ b4 D _ _ b9 0 [r.name] _ _ _ w' hBD hX hn (StrS.lit [r.name] rfl rfl (hw'.has _ _ (List.mem_append_right _ (List.mem_cons_of_mem _ (List.mem_cons_of_mem _ List.mem_cons_self))))) (fun _ hm=>Nat.lt_irrefl _ (zi_ hb9 (by simp[zc_,hm]))) (by rw[htx];simp only[List.length_append,List.length_cons,List.length_nil];omega) (by simp)) (fun v10 D10 hC10 hS10=> ?_)
   obtain⟨rfl,hB10⟩:=hS10
   rw[htx] at hB10
   have hx10:bx∉keys D10:=kY_ hC10 (by simp[zc_,keys]) hxD
   have h610:b6∉keys D10:=kY_ hC10 (by simp[zc_,keys]) (fun hm=>Nat.lt_irrefl _ (zi_ hb6 (by simp[zc_,hm])))
   have hN10:New w.heap.size D10:=wg_ hC10 hN
   have rd10:zs_ w (D10++ [(bx,Obj.cells #[vt,vl] 73 (0,0)),(b6, .cells (zH_ r).toArray 149 (0,0)),(b9, .cells #[vs r.name] 9 (0,0))]) b6=some (.cells (zH_ r).toArray 149 (0,0)):=zb_ (by rw[zG_ h610,jn_ _ _ _ _ (by omega)];exact zB_ _ _ _)
   refine ko @zp_ ?_
   first|with_reducible refine ks [] (And.intro @zp_ @rd10) ?_|refine kp (And.intro @zp_ @rd10) ?_
   refine Ow.buildSlice (e:=24) (a8 r.id.l) rfl rfl (abU_ r.id) fun b11 hb11 hw11=> ?_
   have hil:=XN_ [r.id]
   have hil2:=r.id.h
   have hids:idsL [r.id]=r.id.l:=by simp[idsL]
   have hx9:bx<b9:=zi_ hb9 (by simp[zc_,keys])
   have hx11:bx<b11:=zi_ hb11 (by simp[zc_,keys])
   rw[List.append_assoc]
   simp only[List.cons_append,List.nil_append]
   refine ko @zp_ ?_
   refine Ow.callX (Y:= [(bx,Obj.cells #[vt,vl] 73 (0,0)),(b6, .cells (zH_ r).toArray 149 (0,0)),(b9, .cells #[vs r.name] 9 (0,0)),(b11, .cells (a8 r.id.l) 24 (0,0))]) (by simp) rfl rfl Tryz.call125 (fun w' hw' hX hn=>aa8_ b4 D10 _ _ b11 0 [r.id] _ _ _ w' hB10 hX hn (RowS.sl rfl (hw'.has b11 (.cells (a8 r.id.l) 24 (0,0)) (List.mem_append_right _ (List.mem_cons_of_mem _ (List.mem_cons_of_mem _ (List.mem_cons_of_mem _ List.mem_cons_self))))) (alR_ r.id)) (fun _ hm=>Nat.lt_irrefl _ (zi_ hb11 (by simp[zc_,hm]))) (by simp only[List.length_append,List.length_cons,List.length_nil];omega)) (fun v12 D12 hC12 hS12=> ?_)
   obtain⟨rfl,hB12⟩:=hS12
   rw[hids] at hB12
   have hx12:bx∉keys D12:=kY_ hC12 (by simp[zc_,keys]) hx10
   have hN12:New w.heap.size D12:=wg_ hC12 hN10
   refine ko @zp_ ?_
   try with_reducible refine Ow.nil ?_
   refine Cw.permL (M:=(D12++ [(b6, .cells (zH_ r).toArray 149 (0,0)),(b9, .cells #[vs r.name] 9 (0,0)),(b11, .cells (a8 r.id.l) 24 (0,0))])++ [(bx, .cells #[vt,vl] 73 (0,0))]) (by classical exact List.perm_iff_count.2 fun a=>by simp only[List.count_append,List.count_cons,List.count_nil]<;>omega) ?_
   first|with_reducible refine ks [] @zp_ ?_|refine kp @zp_ ?_
   refine Again.mk (WG.mk (g+1) (D12++ [(b6, .cells (zH_ r).toArray 149 (0,0)),(b9, .cells #[vs r.name] 9 (0,0)),(b11, .cells (a8 r.id.l) 24 (0,0))])) (by show t.length - (g+1)<t.length - g;omega) ⟨by show g+1≤t.length;omega,hN12.app ⟨hw6,hw9,hw11,trivial⟩, ?_, ?_⟩ rfl rfl
   ·intro hm;rw[zc_] at hm;exact(List.mem_append.1 hm).elim hx12 (fun h=>by simp[keys] at h;omega)
   ·show BldAt b4 ([72]++Zp_ (jt_ t.length)++tabB (t.take (g+1))) _
    rw[hsu,refB]
    simp only[List.append_assoc] at hB12 ⊢
    exact BldAt.app hB12
  ·obtain rfl:g=t.length:=by omega
   have htl:=XW_ hnt t.length (Nat.le_refl _)
   rw[List.take_length] at htl hBD
   have hnt0:=zE_ (t.length:Int)
   first|with_reducible refine ks [] @zp_ ?_|refine kp @zp_ ?_
   refine Ow.callX (Y:= [(bx,Obj.cells #[vt,vl] 73 (0,0))]) (by simp) rfl rfl Tryz.call155 (fun w' hw' hX hn=>Qp_ b4 D _ w' (GlobC.of hG hw' (New.not (L:=D++ [(bx,Obj.cells #[vt,vl] 73 (0,0))]) (hN.app ⟨hwx,trivial⟩) hglt)) (hN.not hglt) hBD hX hn (by simp only[List.length_append,List.length_cons,List.length_nil];omega)) (fun v13 D13 hC13 hS13=> ?_)
   have hS13':v13=vs (zO_ (kc_ t)):=hS13
   subst hS13'
   have hdl: (zO_ (kc_ t)).length<1200000:=by
    have h3:=zE_ ((xD_ (kc_ t)).length:Int)
    have h4:=v7_ (kc_ t)
    simp only[zO_,xa_,List.length_append]
    rw[h4] at h3 ⊢
    simp only[kc_,List.length_append,List.length_cons,List.length_nil] at h3 ⊢
    omega
   have hbk: ∀x,zO_ (kc_ t)++x=zO_ (kc_ t)++x:=fun _=>rfl
   generalize hHd:zO_ (kc_ t)=hd at*
   have hx13:bx∉keys D13:=kY_ hC13 (by simp[zc_,keys]) hxD
   have hN13:New w.heap.size D13:=wg_ hC13 hN
   have rd13:zs_ w (D13++ [(bx, .cells #[vt,vl] 73 (0,0))]) bx=some (.cells #[vt,vl] 73 (0,0)):=zb_ (by rw[zG_ hx13];exact zB_ _ _ _)
   refine ko @zp_ ?_
   ((try with_reducible refine Cw.go [] ?_);(try simp(disch:=(first|assumption|omega| (simp only[qP_,qM_,UInt64.reduceToNat];try omega))) only[↓Sx.S0,Sx.S1,Tryz.fx,zp_,Nat.reduceAdd,Nat.reducePow,Int.reducePow,Nat.reduceBEq, ↓reduceIte,UInt8.reduceToNat,UInt16.reduceToNat,UInt32.reduceToNat,UInt64.reduceToNat,Int.reduceToNat,rd13,hl.len]))
   obtain⟨b2,o2,a2,E2,f2,h2⟩:=hl.row
   rw[show hd=hd++logB (l.take 0) by simp[logB]]
   refine Cw.loopG (G:=WG) [41,42,43,9,44,45,46,47,7,48,40] (fun g=> [(40,vi g.g),(7,vs (hd++logB (l.take g.g)))]) (fun g=>g.D) (fun g=>g.g≤l.length∧New w.heap.size g.D) (fun g=>l.length - g.g) ⟨0,D13++ [(bx, .cells #[vt,vl] 73 (0,0))]⟩ rfl rfl ?_ ?_
   ·exact⟨Nat.zero_le _,hN13.app ⟨hwx,trivial⟩⟩
   intro g j hg
   refine kv ?_
   obtain⟨g,D⟩:=g
   simp only at hg ⊢
   obtain⟨hgL,hN⟩:=hg
   have hll2:=abg_ hnl g hgL
   by_cases hlt:g<l.length
   ·have hb2:=h2.has (by omega)
    have hb2l:=h2.lt (by omega)
    have ld2:=h2.load zF_ (by omega) hlt
    have rd2:zs_ w D b2=some (.cells a2 E2 f2):=by rw[q3_ (hN.not hb2l)];exact hb2
    have hnm:=hnl g hlt
    have hsu:=Vs_ l g hlt
    have hrl:=abW_ hnm
    generalize hrr:l.getD g xr_=r at*
    ((try with_reducible refine Cw.go [17] ?_);(try simp(disch:=(first|assumption|omega| (simp only[qP_,qM_,UInt64.reduceToNat];try omega))) only[↓Sx.S0,Sx.S1,Tryz.fx,zp_,Nat.reduceAdd,Nat.reducePow,Int.reducePow,Nat.reduceBEq, ↓reduceIte,UInt8.reduceToNat,UInt16.reduceToNat,UInt32.reduceToNat,UInt64.reduceToNat,Int.reduceToNat,h2.idx,rd2,ld2]))
    refine Ow.alloc rfl rfl ZH_ fun b9 hb9 hw9=> ?_
    simp only[zg_,List.nil_append,List.cons_append]
    have lk9: ∀o,Sx.look (D++ [(b9,o)]) b9=some o:=fun o=>qs_ hb9
    have st9: ∀o x,setB (D++ [(b9,o)]) b9 x=D++ [(b9,x)]:=fun o x=>vW_ hb9
    have rr9: ∀o,zs_ w (D++ [(b9,o)]) b9=some o:=fun o=>zb_ (lk9 o)
    refine ko (And.intro @zp_ (And.intro @lk9 (And.intro @st9 (@xp_)))) ?_
    first|with_reducible refine ks [] (And.intro @zp_ @rr9) ?_|refine kp (And.intro @zp_ @rr9) ?_
    refine Ow.callFV rfl Tryz.call150 (fun w' hw'=>(kl_ r w' (GlobC.of hG hw' (New.not (L:=D++ [(b9,Obj.cells (zH_ r).toArray 149 (0,0))]) (hN.app ⟨hw9,trivial⟩) hglt)) (by omega)).quiet) ?_
    refine ko @zp_ ?_
    first|with_reducible refine ks [] @zp_ ?_|refine kp @zp_ ?_
    refine Again.mk (WG.mk (g+1) (D++ [(b9,Obj.cells (zH_ r).toArray 149 (0,0))])) (by show l.length - (g+1)<l.length - g;omega) ⟨by show g+1≤l.length;omega,hN.app ⟨hw9,trivial⟩⟩ rfl ?_
    rw[hsu,←List.append_assoc]
    rfl
   ·obtain rfl:g=l.length:=by omega
    first|with_reducible refine ks [] @zp_ ?_|refine kp @zp_ ?_
    refine⟨_,(ke @zp_),hN, ?_⟩
    (rw[List.take_length];simp only[QW_,hHd, ↓reduceIte];rfl)
end Go.Proofs
end
section
open Go Go.Proofs Go.Sx Go.RefP
namespace Go.Proofs
set_option maxRecDepth 10000
set_option maxHeartbeats 4000000
set_option linter.unusedSimpArgs false
set_option linter.defProp false
def zd_:=And.intro (And.intro (And.intro (And.intro (@zw_) (@qx_)) (And.intro (@qw_) (@qu_))) (And.intro (And.intro (@zv_) (@jA_)) (And.intro (@jw_) (@ql_)))) (And.intro (And.intro (And.intro (@acH_) (@kd_)) (And.intro (@x4_) (@kX_))) (And.intro (And.intro (@k8_) (@qR_)) (And.intro (@tup2_0) (And.intro (@tup2_1) (@KP_)))))
theorem agv_ (w:World):Rets Tryz.prog 167 #[.pointer none] w (fun v D=>v=vi 3∧D= []):=by
 refine Rets.enterV Tryz.func167 rfl (rs:= [.tmp 2]) Tryz.results167 Tryz.ntmps167 ?_
 refine kf ?_
 first|with_reducible refine ks [] @zd_ ?_|refine kp @zd_ ?_
 refine Ow.callFV rfl Tryz.call218 (fun w' hw'=>aba_ w') ?_
 refine ko @zd_ ?_
 first|with_reducible refine ks [] @zd_ ?_|refine kp @zd_ ?_
 refine⟨_,(ke @zd_),trivial, ?_⟩
 rfl
theorem WS_ (m:Int) (w:World):Rets Tryz.prog 165 #[.pointer none,vi m] w (fun v D=>v=vi 0∧D= []):=by
 refine Rets.enterV Tryz.func165 rfl (rs:= [.tmp 4]) Tryz.results165 Tryz.ntmps165 ?_
 refine kf ?_
 first|with_reducible refine ks [] @zd_ ?_|refine kp @zd_ ?_
 refine Cw.scopeS ?_
 first|with_reducible refine ks [] @zd_ ?_|refine kp @zd_ ?_
 refine Ow.callFV rfl Tryz.call218 (fun w' hw'=>aba_ w') ?_
 refine ko @zd_ ?_
 first|with_reducible refine ks [] @zd_ ?_|refine kp @zd_ ?_
 refine⟨_,(ke @zd_),trivial, ?_⟩
 rfl
theorem JU_ (most:Int): ∀ (l:List UInt8) (k n m k':Nat),jd_ most l k n= .ok (m,k')→(m:Int)≤most
 | [],_,_,_,_,h=>by simp[jd_] at h
 |c::r,k,n,m,k',h=>by
  unfold jd_ at h
  split at h
  ·split at h
   ·cases h
   ·exact JU_ most r _ _ _ _ h
  ·split at h
   ·cases h
   ·split at h
    ·rename_i hh
     cases h
     exact hh.2
    ·cases h
theorem ado_ {s:List UInt8} {a:Nat} {e most:Int} (h0:0≤most):0≤ (qF_ s a e most).1∧(qF_ s a e most).1≤most:=by
 unfold qF_
 split
 ·exact⟨Int.le_refl 0,h0⟩
 ·split
  ·rename_i n k h
   exact⟨Int.natCast_nonneg _,JU_ most _ _ _ _ _ h⟩
  ·exact⟨Int.le_refl 0,h0⟩
theorem Qt_ {s:List UInt8} {a:Nat} {e:Int} (hs:s.length<1099511627776): (JX_ s a e).1.name.length<1099511627776:=Ql_ (e:=e) (most:=32) hs
theorem ZS_ {s:List UInt8} {a:Nat} {e:Int} (hs:s.length<1099511627776): ∀g,jo_ (qN_ s a e g).1
 |0=>fun g hg=>by simp[qN_] at hg
 |g+1=>by
  intro i hi
  rw[jq_] at hi
  unfold qN_
  simp only
  by_cases hlt:i<g
  ·rw[List.getD_eq_getElem?_getD,List.getElem?_append_left (by rw[jq_];exact hlt),←List.getD_eq_getElem?_getD]
   exact ZS_ hs g i (by rw[jq_];exact hlt)
  ·have:i=(qN_ s a e g).1.length:=by rw[jq_];omega
   subst this
   rw[List.getD_eq_getElem?_getD,List.getElem?_append_right (Nat.le_refl _)]
   simp only[Nat.sub_self,List.getElem?_cons_zero,Option.getD_some]
   exact Qt_ hs
def Kj_ (s:List UInt8) (v:Value) (D:za_):Prop:=
 match Qb_ s with
 |some (tb,log,at_)=> ∃vt vl,v= .tuple #[.agg #[vt,vl],vi at_,vi 0]∧GrI D 149 33 vt tb.length (tb.map zH_).flatten∧GrI D 149 33 vl log.length (log.map zH_).flatten
 |none=>v= .tuple #[.agg #[.slice none 0 0, .slice none 0 0],vi 0,vi 2]
theorem Qi_ {b:Nat} {x:Obj}: ∀ {D L:za_},b∉keys D→setB (D++L) b x=D++setB L b x
 | [],_,_=>rfl
 | (c,y)::r,L,h=>by
  simp only[keys,List.map_cons,List.mem_cons,not_or] at h
  rw[List.cons_append,jI_ _ _ _ _ _ (Ne.symm h.1),Qi_ (by simpa [keys] using h.2)];rfl
theorem J4_ (b:Nat) (s:List UInt8) (a:Nat) (e:Int) (w:World) (ho:w.heap[b]? =some (.cells #[vs s,vi a,vi e] 314 (0,0))):
  Rets Tryz.prog 167 #[vp b 0] w (fun v D=>v=vi (endR s a e)∧D= []):=adv_ b s a e w ho
theorem acR_ {l:List RefL} {r:RefL} (h:jo_ l) (hr:r.name.length<1099511627776):jo_ (l++ [r]):=by
 intro g hg
 by_cases hlt:g<l.length
 ·have:=h g hlt
  rwa [List.getD_eq_getElem?_getD,List.getElem?_append_left hlt,←List.getD_eq_getElem?_getD]
 ·have:g=l.length:=by simp at hg;omega
  subst this
  rw[List.getD_eq_getElem?_getD,List.getElem?_append_right (Nat.le_refl _)]
  simpa using hr
theorem aeq_ {s:List UInt8} (h: (kg_ s 0 0 [72]).1=none):Qb_ s=none:=by
 unfold Qb_ vw_
 generalize kg_ s 0 0 [72]=p at h ⊢
 obtain⟨o,q⟩:=p
 simp only at h
 subst h
 rfl
theorem aeC_ {s c:List UInt8} (h: (kg_ s 0 0 [72]).1=some c):
  vw_ s=if endR c (qN_ c (qF_ c 0 0 16).2.1 (qF_ c 0 0 16).2.2 (qF_ c 0 0 16).1.toNat).2.1 (qN_ c (qF_ c 0 0 16).2.1 (qF_ c 0 0 16).2.2 (qF_ c 0 0 16).1.toNat).2.2=0∧qj_ (qN_ c (qF_ c 0 0 16).2.1 (qF_ c 0 0 16).2.2 (qF_ c 0 0 16).1.toNat).1 []=true then some ((qN_ c (qF_ c 0 0 16).2.1 (qF_ c 0 0 16).2.2 (qF_ c 0 0 16).1.toNat).1,(kg_ s 0 0 [72]).2.1) else none:=by
 unfold vw_
 generalize kg_ s 0 0 [72]=p at h ⊢
 obtain⟨o,a,e⟩:=p
 simp only at h
 subst h
 rfl
theorem aeK_ {s:List UInt8} (h:vw_ s=none):Qb_ s=none:=by unfold Qb_;rw[h];rfl
theorem ah2_ {s:List UInt8} {a:Nat} {e:Int} {p:List UInt8} (ha:a≤s.length):a≤ (kg_ s a e p).2.1∧(kg_ s a e p).2.1≤s.length:=x5_ ha
theorem ad4_ {s:List UInt8} {tb log:List RefL} {at_:Nat} (h: (kg_ s at_ 0 [69]).1=none):Kh_ s tb log at_=none:=by
 unfold Kh_
 generalize kg_ s at_ 0 [69]=p at h ⊢
 obtain⟨o,q⟩:=p
 simp only at h
 subst h
 rfl
theorem afT_ {s:List UInt8} {tb log:List RefL} {at_:Nat} {c:List UInt8} (h: (kg_ s at_ 0 [69]).1=some c):
  Kh_ s tb log at_=if endR c (JX_ c 0 0).2.1 (JX_ c 0 0).2.2=0∧qj_ tb (log++ [(JX_ c 0 0).1])=true then some (log++ [(JX_ c 0 0).1],(kg_ s at_ 0 [69]).2.1) else none:=by
 unfold Kh_
 generalize kg_ s at_ 0 [69]=p at h ⊢
 obtain⟨o,a,e⟩:=p
 simp only at h
 subst h
 rfl
theorem ZN_ {s:List UInt8} {tb log:List RefL} {at_ a0:Nat} (hh:vw_ s=some (tb,a0)) (hl: ∀k,101≤k+log.length→Qr_ s tb k log at_=Qr_ s tb 101 [] a0) (hn:Kh_ s tb log at_=none):Qb_ s=some (tb,log,at_):=by
 unfold Qb_
 rw[hh,Option.map_some,←hl 101 (by omega)]
 unfold Qr_
 rw[hn]
structure RG where
 lab:Nat
 br:Nat
 b6:Nat
 b7:Nat
 vt:Value
 vl:Value
 x:Value
 y:Value
 tb:List RefL
 log:List RefL
 at_:Nat
 D:za_
structure HG where
 g:Nat
 vt:Value
 D:za_
def bkO (x y:Value):Obj:= .cells #[x,y] 73 (0,0)
def rdO (s:List UInt8) (a e:Int):Obj:= .cells #[vs s,vi a,vi e] 314 (0,0)
def nlV:Value:= .slice none 0 0
def RJ (s:List UInt8) (n b2:Nat) (g:RG):Prop:=
 (g.lab=1∧n≤g.br∧n≤g.b6∧n≤g.b7∧b2≠g.br∧b2≠g.b6∧b2≠g.b7∧g.br≠g.b6∧g.br≠g.b7∧g.b6≠g.b7∧New n g.D∧
  GrI g.D 149 33 g.vt g.tb.length (g.tb.map zH_).flatten∧GrI g.D 149 33 g.vl g.log.length (g.log.map zH_).flatten∧
  Value.oneCell' g.x=true∧Value.oneCell' g.y=true∧jo_ g.tb∧jo_ g.log∧g.tb.length<1000∧g.log.length≤100∧g.at_≤s.length∧
  ∃a0,vw_ s=some (g.tb,a0)∧ ∀k,101≤k+g.log.length→Qr_ s g.tb k g.log g.at_=Qr_ s g.tb 101 [] a0)∨
 (g.lab=2∧n≤g.b6∧b2≠g.b6∧New n g.D∧
  GrI g.D 149 33 g.vt g.tb.length (g.tb.map zH_).flatten∧GrI g.D 149 33 g.vl g.log.length (g.log.map zH_).flatten∧Qb_ s=some (g.tb,g.log,g.at_))∨
 (g.lab=0∧New n g.D∧Qb_ s=none)
def RH (s:List UInt8) (b2:Nat) (g:RG):za_:=
 match g.lab with
 |1=>(b2,bkO nlV nlV):: (g.br,rdO s g.at_ 0):: (g.b6,bkO g.vt g.vl):: (g.b7,bkO g.x g.y)::g.D
 |2=>(b2,bkO nlV nlV):: (g.b6,bkO g.vt g.vl)::g.D
 |_=>(b2,bkO nlV nlV)::g.D
def RSl (g:RG):List (Nat×Value):=
 match g.lab with
 |1=> [(5,vp g.br 0),(6,vp g.b6 0),(7,vp g.b7 0)]
 |2=> [(6,vp g.b6 0),(8,vi g.at_)]
 |_=> []
def RL (g:RG):Nat:=
 match g.lab with
 |1=>1
 |2=>2
 |_=>0
theorem xd_ {D:za_} {E:TypeId} {m n:Nat} {v:Value} {cs:List Value} (h:GrI D E m v n cs):Value.oneCell' v=true∧v.cells= #[v]:=by
 obtain⟨X,-,h⟩:=h;exact h.cell
theorem aam_ (s:List UInt8) (w:World) (hG:GlobC w) (hs:s.length<1000000):
  Rets Tryz.prog 95 #[vs s] w (XS w [] (Kj_ s)):=by
 have hglt: (4:Nat)<w.heap.size:=by obtain⟨e,f,h⟩:=hG;exact(Array.getElem?_eq_some_iff.1 h).1
 refine Rets.enterX Tryz.func95 rfl (rs:= [.cell 2 73, .tmp 3, .tmp 4]) Tryz.results95 Tryz.ntmps95 (fun p hp=>by cases hp) (by simp[keys]) ?_
 refine kf ?_
 first|with_reducible refine ks [] @zd_ ?_|refine kp @zd_ ?_
 refine Ow.alloc rfl rfl zrBk fun b2 hb2 hw2=> ?_
 simp only[zg_,List.nil_append,List.cons_append]
 refine ko @zd_ ?_
 first|with_reducible refine ks [] @zd_ ?_|refine kp @zd_ ?_
 refine Cw.scopeL (G:=RG) (fun g=>RL g) [10,11,5,6,7,8,12,13,9,14,15,16,17,18,19,20,21,22,23,24,25,26,27,28,29,30,31,32,33,34,35,36,37,38,39,40,41,42,43,44,45,46,47,48,49,50,51,52,53,54,55,56,57,58,59,60,3,4,61] (fun g=>RSl g) (fun g=>RH s b2 g) (fun g=>RJ s w.heap.size b2 g) (fun g=>(if g.lab=1 then 102 - g.log.length else 0)) ?_ ?_ ?_
 ·intro g
  unfold RL
  split<;>rfl
 ·intro g j hg
  rcases hg with hg|hg|hg
  ·obtain⟨lab,br,b6,b7,vt,vl,x,y,tb,log,at_,D⟩:=g
   obtain⟨hlab,hg⟩:=hg
   simp only at hlab
   subst hlab
   simp only[RL,RSl,RH] at hg ⊢
   obtain⟨hwr,hw6,hw7,h2r,h26,h27,hr6,hr7,h67,hN,hgt,hgl,hox,hoy,hst,hsl,htl,hll,hat,a0,hhd,hlg⟩:=hg
   simp only[bkO,rdO,nlV]
   simp only[xS_,QL_,Bool.or_false,Bool.false_or,Bool.or_true,Bool.true_or,Nat.reduceBEq,beq_self_eq_true, ↓reduceIte,Bool.false_eq_true]
   refine kv ?_
   try with_reducible refine q1_ ?_
   first|with_reducible refine ks [14] @zd_ ?_|refine kp @zd_ ?_
   refine Ow.callFV rfl Tryz.call168 (fun w' hw'=>aaX_ br s at_ 0 w' (hw'.has _ _ (List.mem_cons_of_mem _ List.mem_cons_self))) ?_
   refine ko @zd_ ?_
   first|with_reducible refine ks [] @zd_ ?_|refine kp @zd_ ?_
   refine Ow.permL (M:= [(br, .cells #[vs s,vi at_,vi 0] 314 (0,0))]++ ((b2, .cells #[.slice none 0 0, .slice none 0 0] 73 (0,0)):: (b6, .cells #[vt,vl] 73 (0,0)):: (b7, .cells #[x,y] 73 (0,0))::D)) (by classical exact List.perm_iff_count.2 fun a=>by simp only[List.count_append,List.count_cons,List.count_nil]<;>omega) ?_
   refine Ow.callX (Y:=((b2, .cells #[.slice none 0 0, .slice none 0 0] 73 (0,0)):: (b6, .cells #[vt,vl] 73 (0,0)):: (b7, .cells #[x,y] 73 (0,0))::D)) (by simp) rfl rfl Tryz.call164 (fun w' hw' hX hn=>wf_ br s at_ 0 [69] w' (GlobC.of hG hw' (New.not (L:= [(br, .cells #[vs s,vi at_,vi 0] 314 (0,0))]++ ((b2, .cells #[.slice none 0 0, .slice none 0 0] 73 (0,0)):: (b6, .cells #[vt,vl] 73 (0,0)):: (b7, .cells #[x,y] 73 (0,0))::D)) (by exact⟨hwr,hw2,hw6,hw7,hN⟩) hglt)) (by omega) hat (by omega) (hX _ List.mem_cons_self)) (fun v1 D1 hC1 hS1=> ?_)
   rcases hS1 with⟨hno,rfl,rfl⟩ | ⟨b',c,hc,rfl,hb',hne,rfl⟩
   ·refine Ow.permL (M:=(b2, .cells #[.slice none 0 0, .slice none 0 0] 73 (0,0)):: (b6, .cells #[vt,vl] 73 (0,0)):: (br, .cells #[vs s,vi (kg_ s at_ 0 [69]).2.1,vi (kg_ s at_ 0 [69]).2.2] 314 (0,0)):: (b7, .cells #[x,y] 73 (0,0))::D) (by classical exact List.perm_iff_count.2 fun a=>by simp only[List.count_append,List.count_cons,List.count_nil]<;>omega) ?_
    refine ko @zd_ ?_
    first|with_reducible refine ks [] (And.intro @zd_ @adc_) ?_|refine kp (And.intro @zd_ @adc_) ?_
    refine Jump.mk ⟨2,br,b6,b7,vt,vl,x,y,tb,log,at_,(br, .cells #[vs s,vi (kg_ s at_ 0 [69]).2.1,vi (kg_ s at_ 0 [69]).2.2] 314 (0,0)):: (b7, .cells #[x,y] 73 (0,0))::D⟩ rfl (by show 0<102 - log.length;omega) (.inr (.inl ⟨rfl,hw6,h26,⟨hwr,hw7,hN⟩,hgt.mono fun p hp=>by simp[hp],hgl.mono fun p hp=>by simp[hp], ?_⟩)) rfl rfl
    exact ZN_ hhd hlg (ad4_ hno)
   ·have hbA:b2<b'∧br<b'∧b6<b'∧b7<b':=by
     rcases hC1.new b' (by simp[keys]) with h| ⟨h,-⟩
     ·simp[keys] at h;omega
     ·obtain⟨q1,q2,q3,q4,-⟩:=h
      exact⟨q2,q1,q3,q4⟩
    obtain⟨h2b,hrb,h6b,h7b⟩:=hbA
    have hcl:=abN_ (by omega) hc
    have hce:=abn_ hc
    rw[hce]
    have hle0:=ah2_ (p:= [69]) (e:=0) hat
    generalize hto: (kg_ s at_ 0 [69]).2.1=to at*
    refine ko @zd_ ?_
    first|with_reducible refine ks [] (And.intro @zd_ @nilR) ?_|refine kp (And.intro @zd_ @nilR) ?_
    refine Cw.regionS [b6] [0,2,5,1,3,4,6,7,8,9,10] [10] (by kernel_rfl) (by kernel_rfl) (by kernel_rfl) ?_
    simp only[zI_, ↓zr_, ↓zk_, ↓z0_, ↓zZ_,zl_]
    refine kq @zd_ ?_
    refine Ow.soft rfl rfl rfl ?_
    refine Ow.callC rfl rfl Tryz.call81 (fun w' hw'=>qt_ vl log w' (GrI.slV (hgl.mono (fun p hp=>by simp[hp])) hw' rfl rfl zF_) (by omega)) (fun B1 v3 Dc hA1 hB1 hN1 hS3=> ?_)
    have hAc:=hA1
    try simp only[List.cons_append,List.nil_append] at hAc
    obtain⟨qr,qb,q2,q6,q7,-⟩:=hAc
    with_reducible refine Ow.nil ?_
    refine⟨qg_ (by simp[keys]), ?_⟩
    try simp only[List.cons_append,List.nil_append]
    refine Ow.soft rfl rfl rfl ?_
    refine Ow.callM rfl rfl Tryz.call166 (by simp[keys]) (fun w' hw'=>abq_ b' c 0 0 w' (Nat.zero_le _) (by omega) (hw'.has _ _ (List.mem_cons_of_mem _ List.mem_cons_self))) ?_
    with_reducible refine Ow.nil ?_
    refine⟨fun b hb=>jT_ (by simp only[List.mem_cons,List.not_mem_nil,or_false] at hb;omega), ?_⟩
    rw[aeD_]
    have hfn:=Qt_ (s:=c) (a:=0) (e:=0) hcl
    have hfl:=ad5_ (s:=c) (a:=0) (e:=0) (Nat.zero_le _)
    have hns:=afT_ (tb:=tb) (log:=log) hc
    rw[hto] at hns
    generalize JX_ c 0 0=rr at*
    obtain⟨r,ra,re⟩:=rr
    simp only at hfn hfl hns ⊢
    refine kn ?_
    try simp only[List.cons_append,List.nil_append]
    refine Ow.soft rfl rfl rfl ?_
    refine Ow.buildSlice (e:=149) (zH_ r).toArray rfl rfl (v3_ r) fun b8 hb8 hw8=> ?_
    have h68:b6<b8:=zi_ hb8 (by simp[keys])
    have h78:b7<b8:=zi_ hb8 (by simp[keys])
    have h28:b2<b8:=zi_ hb8 (by simp[keys])
    have hr8:br<b8:=zi_ hb8 (by simp[keys])
    have hb8':b'<b8:=zi_ hb8 (by simp[keys])
    with_reducible refine Ow.nil ?_
    refine⟨qg_ (by simp[keys]), ?_⟩
    try simp only[List.cons_append,List.nil_append]
    refine Ow.soft rfl rfl rfl ?_
    refine Ow.permL (M:=Dc++ (((br, .cells #[vs s,vi to,vi 0] 314 (0,0)):: (b', .cells #[vs c,vi ra,vi re] 314 (0,0)):: (b2, .cells #[.slice none 0 0, .slice none 0 0] 73 (0,0)):: (b6, .cells #[vt,vl] 73 (0,0)):: (b7, .cells #[x,y] 73 (0,0))::D)++ [(b8, .cells (zH_ r).toArray 149 (0,0))])) (by classical exact List.perm_iff_count.2 fun a=>by simp only[List.count_append,List.count_cons,List.count_nil]<;>omega) ?_
    refine Ow.appendX (e:=149) (k:=1) (new:=zH_ r) (X:=Dc) v3 rfl rfl rfl rfl Tryz.underlying71 Tryz.ag149 (by kernel_rfl) ZH_ (by rw[ql_,List.size_toArray,zF_]) Tryz.underlying71 (by intro k h;cases h) hS3 (fun w' hw'=>AppX.one1 (hw'.has b8 (.cells (zH_ r).toArray 149 (0,0)) (by simp)) (zF_ r) (Zv_ r)) (by omega) (by omega) (fun B v4 D4 hA4 hB4 hbuf hk1 hk2 hlk=> ?_)
    have hB8:b8<B:=zi_ hA4 (by simp[zc_,keys])
    have hno4: ∀q,q<B1→q<B→q∉keys D4:=fun q h1 h2 hm=>by
     rcases hk2 q hm with h|h
     ·have:=hN1.le q h;omega
     ·omega
    have h64:=hno4 b6 q6 (by omega)
    have h74:=hno4 b7 q7 (by omega)
    with_reducible refine Ow.nil ?_
    refine⟨fun q hq=> ?_, ?_⟩
    ·rw[List.mem_singleton] at hq
     subst hq
     rw[wu_ h64]
     simp(disch:=omega) only[List.cons_append,List.nil_append,xl_,wv_]
    try simp only[List.cons_append,List.nil_append]
    refine Ow.build (.agg #[vt,v4]) rfl (XM_ vt v4 (xd_ hgt).2 hbuf.cell.2) ?_
    have hst7:j5_ (zL_ Tryz.prog 73) (D4++ (((br, .cells #[vs s,vi to,vi 0] 314 (0,0)):: (b', .cells #[vs c,vi ra,vi re] 314 (0,0)):: (b2, .cells #[.slice none 0 0, .slice none 0 0] 73 (0,0)):: (b6, .cells #[vt,vl] 73 (0,0)):: (b7, .cells #[x,y] 73 (0,0))::D)++ [(b8, .cells (zH_ r).toArray 149 (0,0))])) (vp b7 0) (.agg #[vt,v4])=some (D4++ (((br, .cells #[vs s,vi to,vi 0] 314 (0,0)):: (b', .cells #[vs c,vi ra,vi re] 314 (0,0)):: (b2, .cells #[.slice none 0 0, .slice none 0 0] 73 (0,0)):: (b6, .cells #[vt,vl] 73 (0,0)):: (b7, .cells #[vt,v4] 73 (0,0))::D)++ [(b8, .cells (zH_ r).toArray 149 (0,0))])):=by
     rw[Tryz.ag73,kL_,zG_ h74]
     simp(disch:=omega) only[List.cons_append,zB_,jn_]
     rw[k5_ _ _ _ _ _ (xd_ hgt).1 hbuf.cell.1,wb_,Qi_ h74]
     simp(disch:=omega) only[qC_,jI_]
    refine Ow.store rfl rfl rfl hst7 ?_
    refine kq @zd_ ?_
    refine Cw.permL (M:=(b2, .cells #[.slice none 0 0, .slice none 0 0] 73 (0,0)):: (br, .cells #[vs s,vi to,vi 0] 314 (0,0)):: (b6, .cells #[vt,vl] 73 (0,0)):: (b7, .cells #[vt,v4] 73 (0,0)):: (b', .cells #[vs c,vi ra,vi re] 314 (0,0)):: (b8, .cells (zH_ r).toArray 149 (0,0)):: (D++D4)) (by classical exact List.perm_iff_count.2 fun a=>by simp only[List.count_append,List.count_cons,List.count_nil]<;>omega) ?_
    try simp only[qc_,Vk_,jF_,jG_]
    have hND:New w.heap.size (D++D4):=hN.app (New.of_le fun q hq=>by
     rcases hk2 q hq with h|h
     ·have:=hN1.le q h;omega
     ·omega)
    have hNn:New w.heap.size ((br, .cells #[vs s,vi to,vi 0] 314 (0,0)):: (b7, .cells #[vt,v4] 73 (0,0)):: (b', .cells #[vs c,vi ra,vi re] 314 (0,0)):: (b8, .cells (zH_ r).toArray 149 (0,0)):: (D++D4)):=⟨hwr,hw7,(by omega),hw8,hND⟩
    have hfl4: (log.map zH_).flatten++zH_ r=((log++ [r]).map zH_).flatten:=by simp
    rw[hfl4] at hbuf
    have hgr4:Gr D4 149 33 v4 (log.length+1) ((log++ [r]).map zH_).flatten:= .inl hbuf
    have hsh4:jo_ (log++ [r]):=acR_ hsl hfn
    first|with_reducible refine ks [] @zd_ ?_|refine kp @zd_ ?_
    refine Ow.callFV rfl Tryz.call167 (fun w' hw'=>J4_ b' c ra re w' (hw'.has _ _ (by simp))) ?_
    by_cases he:endR c ra re=0
    ·have hb: (endR c ra re !=0)=false:=by simp[he]
     refine ko (And.intro @zd_ @hb) ?_
     first|with_reducible refine ks [] (And.intro @zd_ @qR_) ?_|refine kp (And.intro @zd_ @qR_) ?_
     refine Ow.callFV rfl Tryz.call88 (fun w' hw'=>xP_ vt v4 tb (log++ [r]) w' (GrI.slV (hgt.mono (fun p hp=>by simp[hp])) hw' rfl rfl zF_) (hgr4.slM (fun b o hm=>hw'.has b o (by simp[hm])) (by simp) rfl zF_) (by omega) (by simp;omega) hst hsh4) ?_
     cases hr:qj_ tb (log++ [r])
     ·refine Ow.permL (M:=(b2, .cells #[.slice none 0 0, .slice none 0 0] 73 (0,0)):: (b6, .cells #[vt,vl] 73 (0,0)):: ((br, .cells #[vs s,vi to,vi 0] 314 (0,0)):: (b7, .cells #[vt,v4] 73 (0,0)):: (b', .cells #[vs c,vi ra,vi re] 314 (0,0)):: (b8, .cells (zH_ r).toArray 149 (0,0)):: (D++D4))) (by classical exact List.perm_iff_count.2 fun a=>by simp only[List.count_append,List.count_cons,List.count_nil]<;>omega) ?_
      refine ko @zd_ ?_
      first|with_reducible refine ks [] @zd_ ?_|refine kp @zd_ ?_
      refine Jump.mk ⟨2,br,b6,b7,vt,vl,x,y,tb,log,at_,((br, .cells #[vs s,vi to,vi 0] 314 (0,0)):: (b7, .cells #[vt,v4] 73 (0,0)):: (b', .cells #[vs c,vi ra,vi re] 314 (0,0)):: (b8, .cells (zH_ r).toArray 149 (0,0)):: (D++D4))⟩ rfl (by show 0<102 - log.length;omega) (.inr (.inl ⟨rfl,hw6,h26,hNn,hgt.mono fun p hp=>by simp[hp],hgl.mono fun p hp=>by simp[hp], ?_⟩)) rfl rfl
      exact ZN_ hhd hlg (by rw[hns,if_neg (by simp[hr])])
     ·rw[if_pos ⟨he,hr⟩] at hns
      have hlb:=JN_ hr
      have hst6:=k5_ vt vl vt v4 73 (xd_ hgt).1 hbuf.cell.1
      refine ko @zd_ ?_
      first|with_reducible refine ks [] (And.intro @zd_ (And.intro @qR_ (@hst6))) ?_|refine kp (And.intro @zd_ (And.intro @qR_ (@hst6))) ?_
      have hgr4i:GrI ((b', .cells #[vs c,vi ra,vi re] 314 (0,0)):: (b8, .cells (zH_ r).toArray 149 (0,0)):: (D++D4)) 149 33 v4 (log++ [r]).length ((log++ [r]).map zH_).flatten:=by
       rw[List.length_append];exact hgr4.i fun p hp=>by simp[hp]
      refine Jump.mk ⟨1,br,b6,b7,vt,v4,vt,v4,tb,log++ [r],to,(b', .cells #[vs c,vi ra,vi re] 314 (0,0)):: (b8, .cells (zH_ r).toArray 149 (0,0)):: (D++D4)⟩ rfl (by show 102 - (log++ [r]).length<102 - log.length;rw[List.length_append,List.length_singleton];omega) (.inl ⟨rfl,hwr,hw6,hw7,h2r,h26,h27,hr6,hr7,h67,⟨(by omega),hw8,hND⟩,hgt.mono fun p hp=>by simp[hp],hgr4i,(xd_ hgt).1,hbuf.cell.1,hst,hsh4,htl,hlb,hle0.2,a0,hhd, ?_⟩) rfl rfl
      intro k hk
      simp only at hk ⊢
      rw[List.length_append,List.length_singleton] at hk
      rw[←hlg (k+1) (by omega),Qr_,hns]
    ·have hb: (endR c ra re !=0)=true:=by simpa using he
     refine Ow.permL (M:=(b2, .cells #[.slice none 0 0, .slice none 0 0] 73 (0,0)):: (b6, .cells #[vt,vl] 73 (0,0)):: ((br, .cells #[vs s,vi to,vi 0] 314 (0,0)):: (b7, .cells #[vt,v4] 73 (0,0)):: (b', .cells #[vs c,vi ra,vi re] 314 (0,0)):: (b8, .cells (zH_ r).toArray 149 (0,0)):: (D++D4))) (by classical exact List.perm_iff_count.2 fun a=>by simp only[List.count_append,List.count_cons,List.count_nil]<;>omega) ?_
     refine ko (And.intro @zd_ @hb) ?_
     first|with_reducible refine ks [] @zd_ ?_|refine kp @zd_ ?_
     refine Jump.mk ⟨2,br,b6,b7,vt,vl,x,y,tb,log,at_,((br, .cells #[vs s,vi to,vi 0] 314 (0,0)):: (b7, .cells #[vt,v4] 73 (0,0)):: (b', .cells #[vs c,vi ra,vi re] 314 (0,0)):: (b8, .cells (zH_ r).toArray 149 (0,0)):: (D++D4))⟩ rfl (by show 0<102 - log.length;omega) (.inr (.inl ⟨rfl,hw6,h26,hNn,hgt.mono fun p hp=>by simp[hp],hgl.mono fun p hp=>by simp[hp], ?_⟩)) rfl rfl
     exact ZN_ hhd hlg (by rw[hns,if_neg (fun h=>he h.1)])
  ·obtain⟨lab,br,b6,b7,vt,vl,x,y,tb,log,at_,D⟩:=g
   obtain⟨hlab,hg⟩:=hg
   simp only at hlab
   subst hlab
   simp only[RL,RSl,RH] at hg ⊢
   obtain⟨hw6,h26,hN,hgt,hgl,hbk⟩:=hg
   simp only[bkO,rdO,nlV]
   simp only[xS_,QL_,Bool.or_false,Bool.false_or,Bool.or_true,Bool.true_or,Nat.reduceBEq,beq_self_eq_true, ↓reduceIte,Bool.false_eq_true]
   refine kv ?_
   try with_reducible refine q1_ ?_
   have hst2:=k5_ (.slice none 0 0) (.slice none 0 0) vt vl 73 (xd_ hgt).1 (xd_ hgl).1
   first|with_reducible refine ks [] (And.intro @zd_ (And.intro @qR_ (@hst2))) ?_|refine kp (And.intro @zd_ (And.intro @qR_ (@hst2))) ?_
   refine⟨_,(ke @zd_), ?_⟩
   refine⟨Ext.of_new ⟨hw2,hw6,hN⟩, ?_⟩
   unfold Kj_
   rw[hbk]
   exact⟨vt,vl,rfl,hgt.mono fun p hp=>by simp[hp],hgl.mono fun p hp=>by simp[hp]⟩
  ·obtain⟨lab,br,b6,b7,vt,vl,x,y,tb,log,at_,D⟩:=g
   obtain⟨hlab,hg⟩:=hg
   simp only at hlab
   subst hlab
   simp only[RL,RSl,RH] at hg ⊢
   obtain⟨hN,hbk⟩:=hg
   simp only[bkO,rdO,nlV]
   simp only[xS_,QL_,Bool.or_false,Bool.false_or,Bool.or_true,Bool.true_or,Nat.reduceBEq,beq_self_eq_true, ↓reduceIte,Bool.false_eq_true]
   refine kv ?_
   try with_reducible refine q1_ ?_
   first|with_reducible refine ks [] @zd_ ?_|refine kp @zd_ ?_
   refine Ow.build (.agg #[.slice none 0 0, .slice none 0 0]) rfl (by kernel_rfl) ?_
   refine ko @zd_ ?_
   first|with_reducible refine ks [] @zd_ ?_|refine kp @zd_ ?_
   refine⟨_,(ke @zd_), ?_⟩
   refine⟨Ext.of_new ⟨hw2,hN⟩, ?_⟩
   unfold Kj_
   rw[hbk];rfl
 ·intro key
  repeat ((try with_reducible refine Cw.go [999999] ?_);(simp(disch:=(first|assumption|omega| (simp only[qP_,qM_,UInt64.reduceToNat];try omega))) only[↓Sx.S0,Sx.S1,Tryz.fx,zd_,Nat.reduceAdd,Nat.reducePow,Int.reducePow,Nat.reduceBEq, ↓reduceIte,UInt8.reduceToNat,UInt16.reduceToNat,UInt32.reduceToNat,UInt64.reduceToNat,Int.reduceToNat]))
  refine Ow.callF rfl rfl Tryz.call147 (S:=fun B v D=> ∃b',B≤b'∧v=vp b' 0∧D= [(b', .cells #[vs s,vi 0,vi 0] 314 (0,0))]) (fun w' hw'=>KE_ s w') ?_
  rintro B v D hab hB ⟨br,hbr,rfl,rfl⟩
  obtain⟨h2B,-⟩:=hab
  refine⟨_,Mrg.fresh (by intro q hq;simp only[keys,List.map_cons,List.map_nil,List.mem_singleton] at hq;omega), ?_⟩
  simp only[List.cons_append,List.nil_append]
  refine ko @zd_ ?_
  repeat ((try with_reducible refine Cw.go [999999] ?_);(simp(disch:=(first|assumption|omega| (simp only[qP_,qM_,UInt64.reduceToNat];try omega))) only[↓Sx.S0,Sx.S1,Tryz.fx,zd_,Nat.reduceAdd,Nat.reducePow,Int.reducePow,Nat.reduceBEq, ↓reduceIte,UInt8.reduceToNat,UInt16.reduceToNat,UInt32.reduceToNat,UInt64.reduceToNat,Int.reduceToNat]))
  refine Ow.alloc rfl rfl zrBk fun b6 hb6 hw6=> ?_
  simp only[zg_,List.nil_append,List.cons_append]
  obtain⟨h26,hr6,-⟩:=hb6
  refine ko @zd_ ?_
  refine Ow.alloc rfl rfl zrBk fun b7 hb7 hw7=> ?_
  simp only[zg_,List.nil_append,List.cons_append]
  obtain⟨h27,hr7,h67,-⟩:=hb7
  refine ko @zd_ ?_
  repeat ((try with_reducible refine Cw.go [999999] ?_);(simp(disch:=(first|assumption|omega| (simp only[qP_,qM_,UInt64.reduceToNat];try omega))) only[↓Sx.S0,Sx.S1,Tryz.fx,zd_,Nat.reduceAdd,Nat.reducePow,Int.reducePow,Nat.reduceBEq, ↓reduceIte,UInt8.reduceToNat,UInt16.reduceToNat,UInt32.reduceToNat,UInt64.reduceToNat,Int.reduceToNat]))
  refine Ow.permL (M:= [(br, .cells #[vs s,vi 0,vi 0] 314 (0,0))]++ [(b2, .cells #[.slice none 0 0, .slice none 0 0] 73 (0,0)),(b6, .cells #[.slice none 0 0, .slice none 0 0] 73 (0,0)),(b7, .cells #[.slice none 0 0, .slice none 0 0] 73 (0,0))]) (by classical exact List.perm_iff_count.2 fun a=>by simp only[List.count_append,List.count_cons,List.count_nil]<;>omega) ?_
  refine Ow.callX (Y:= [(b2, .cells #[.slice none 0 0, .slice none 0 0] 73 (0,0)),(b6, .cells #[.slice none 0 0, .slice none 0 0] 73 (0,0)),(b7, .cells #[.slice none 0 0, .slice none 0 0] 73 (0,0))]) (by simp) rfl rfl Tryz.call164 (fun w' hw' hX hn=>wf_ br s 0 0 [72] w' (GlobC.of hG hw' (New.not (L:= [(br, .cells #[vs s,vi 0,vi 0] 314 (0,0))]++ [(b2, .cells #[.slice none 0 0, .slice none 0 0] 73 (0,0)),(b6, .cells #[.slice none 0 0, .slice none 0 0] 73 (0,0)),(b7, .cells #[.slice none 0 0, .slice none 0 0] 73 (0,0))]) (by exact⟨(by omega),hw2,hw6,hw7,trivial⟩) hglt)) (by omega) (Nat.zero_le _) (by omega) (hX _ List.mem_cons_self)) (fun v1 D1 hC1 hS1=> ?_)
  rcases hS1 with⟨hno,rfl,rfl⟩ | ⟨b',c,hc,rfl,hb',hne,rfl⟩
  ·refine ko @zd_ ?_
   repeat ((try with_reducible refine Cw.go [999999] ?_);(simp(disch:=(first|assumption|omega| (simp only[qP_,qM_,UInt64.reduceToNat];try omega))) only[↓Sx.S0,Sx.S1,Tryz.fx,zd_,Nat.reduceAdd,Nat.reducePow,Int.reducePow,Nat.reduceBEq, ↓reduceIte,UInt8.reduceToNat,UInt16.reduceToNat,UInt32.reduceToNat,UInt64.reduceToNat,Int.reduceToNat]))
   refine Ow.callFV rfl Tryz.call165 (fun w' hw'=>WS_ 16 w') ?_
   refine ko @zd_ ?_
   repeat ((try with_reducible refine Cw.go [999999] ?_);(simp(disch:=(first|assumption|omega| (simp only[qP_,qM_,UInt64.reduceToNat];try omega))) only[↓Sx.S0,Sx.S1,Tryz.fx,zd_,Nat.reduceAdd,Nat.reducePow,Int.reducePow,Nat.reduceBEq, ↓reduceIte,UInt8.reduceToNat,UInt16.reduceToNat,UInt32.reduceToNat,UInt64.reduceToNat,Int.reduceToNat]))
   refine Cw.loopG (G:=Unit) [17,18,19,20,21,22,23,24,25,16] (fun g=> [(16,vi 0)]) (fun g=> [(br, .cells #[vs s,vi (kg_ s 0 0 [72]).2.1,vi (kg_ s 0 0 [72]).2.2] 314 (0,0)),(b2, .cells #[.slice none 0 0, .slice none 0 0] 73 (0,0)),(b6, .cells #[.slice none 0 0, .slice none 0 0] 73 (0,0)),(b7, .cells #[.slice none 0 0, .slice none 0 0] 73 (0,0))]) (fun g=>True) (fun g=>0) () rfl rfl ?_ ?_
   ·trivial
   intro g j hg
   refine kv ?_
   repeat ((try with_reducible refine Cw.go [999999] ?_);(simp(disch:=(first|assumption|omega| (simp only[qP_,qM_,UInt64.reduceToNat];try omega))) only[↓Sx.S0,Sx.S1,Tryz.fx,zd_,Nat.reduceAdd,Nat.reducePow,Int.reducePow,Nat.reduceBEq, ↓reduceIte,UInt8.reduceToNat,UInt16.reduceToNat,UInt32.reduceToNat,UInt64.reduceToNat,Int.reduceToNat]))
   have h30: ((3:Int) !=0)=true:=rfl
   refine Ow.callFV rfl Tryz.call167 (fun w' hw'=>agv_ w') ?_
   refine Ow.permL (M:=(b2, .cells #[.slice none 0 0, .slice none 0 0] 73 (0,0)):: [(br, .cells #[vs s,vi (kg_ s 0 0 [72]).2.1,vi (kg_ s 0 0 [72]).2.2] 314 (0,0)),(b6, .cells #[.slice none 0 0, .slice none 0 0] 73 (0,0)),(b7, .cells #[.slice none 0 0, .slice none 0 0] 73 (0,0))]) (by classical exact List.perm_iff_count.2 fun a=>by simp only[List.count_append,List.count_cons,List.count_nil]<;>omega) ?_
   refine ko (And.intro @zd_ @h30) ?_
   repeat ((try with_reducible refine Cw.go [999999] ?_);(simp(disch:=(first|assumption|omega| (simp only[qP_,qM_,UInt64.reduceToNat];try omega))) only[↓Sx.S0,Sx.S1,Tryz.fx,zd_,Nat.reduceAdd,Nat.reducePow,Int.reducePow,Nat.reduceBEq, ↓reduceIte,UInt8.reduceToNat,UInt16.reduceToNat,UInt32.reduceToNat,UInt64.reduceToNat,Int.reduceToNat]))
   exact Jump.mk ⟨0,br,b6,b7,nlV,nlV,nlV,nlV,[],[],0,[(br, .cells #[vs s,vi (kg_ s 0 0 [72]).2.1,vi (kg_ s 0 0 [72]).2.2] 314 (0,0)),(b6, .cells #[.slice none 0 0, .slice none 0 0] 73 (0,0)),(b7, .cells #[.slice none 0 0, .slice none 0 0] 73 (0,0))]⟩ rfl trivial (.inr (.inr ⟨rfl,⟨(by omega),hw6,hw7,trivial⟩,aeq_ hno⟩)) rfl rfl
  ·have hbA:b2<b'∧br<b'∧b6<b'∧b7<b':=by
    rcases hC1.new b' (by simp[keys]) with h| ⟨h,-⟩
    ·simp[keys] at h;omega
    ·obtain⟨q1,q2,q3,q4,-⟩:=h
     exact⟨q2,q1,q3,q4⟩
   obtain⟨h2b,hrb,h6b,h7b⟩:=hbA
   have hcl:=abN_ (by omega) hc
   have hce:=abn_ hc
   have hhd:=aeC_ hc
   rw[hce]
   have hle0:=ah2_ (s:=s) (a:=0) (p:= [72]) (e:=0) (Nat.zero_le _)
   generalize hto: (kg_ s 0 0 [72]).2.1=to at*
   simp only[List.cons_append,List.nil_append]
   refine ko @zd_ ?_
   repeat ((try with_reducible refine Cw.go [999999] ?_);(simp(disch:=(first|assumption|omega| (simp only[qP_,qM_,UInt64.reduceToNat];try omega))) only[↓Sx.S0,Sx.S1,Tryz.fx,zd_,Nat.reduceAdd,Nat.reducePow,Int.reducePow,Nat.reduceBEq, ↓reduceIte,UInt8.reduceToNat,UInt16.reduceToNat,UInt32.reduceToNat,UInt64.reduceToNat,Int.reduceToNat]))
   refine Ow.callM rfl rfl Tryz.call165 (by simp[keys]) (fun w' hw'=>wU_ b' c 0 0 16 w' (Nat.zero_le _) (by omega) (hw'.has _ _ (List.mem_cons_of_mem _ List.mem_cons_self))) ?_
   have hnm:=ado_ (s:=c) (a:=0) (e:=0) (most:=16) (by omega)
   have hnle:=wD_ (s:=c) (a:=0) (e:=0) (most:=16) (Nat.zero_le _)
   generalize qF_ c 0 0 16=nn at*
   obtain⟨n1,na,ne⟩:=nn
   simp only at hnm hnle hhd ⊢
   obtain⟨k,rfl⟩:=Int.eq_ofNat_of_zero_le hnm.1
   have hk16:k≤16:=by omega
   refine kn ?_
   refine ko @zd_ ?_
   repeat ((try with_reducible refine Cw.go [999999] ?_);(simp(disch:=(first|assumption|omega| (simp only[qP_,qM_,UInt64.reduceToNat];try omega))) only[↓Sx.S0,Sx.S1,Tryz.fx,zd_,Nat.reduceAdd,Nat.reducePow,Int.reducePow,Nat.reduceBEq, ↓reduceIte,UInt8.reduceToNat,UInt16.reduceToNat,UInt32.reduceToNat,UInt64.reduceToNat,Int.reduceToNat]))
   refine Cw.permL (M:=(b', .cells #[vs c,vi na,vi ne] 314 (0,0)):: (b6, .cells #[.slice none 0 0, .slice none 0 0] 73 (0,0)):: (br, .cells #[vs s,vi to,vi 0] 314 (0,0)):: (b2, .cells #[.slice none 0 0, .slice none 0 0] 73 (0,0)):: (b7, .cells #[.slice none 0 0, .slice none 0 0] 73 (0,0)):: []) (by classical exact List.perm_iff_count.2 fun a=>by simp only[List.count_append,List.count_cons,List.count_nil]<;>omega) ?_
   refine Cw.loopG (G:=HG) [17,18,19,20,21,22,23,24,25,16] (fun g=> [(16,vi g.g)]) (fun g=>(b', .cells #[vs c,vi (qN_ c na ne g.g).2.1,vi (qN_ c na ne g.g).2.2] 314 (0,0)):: (b6, .cells #[g.vt, .slice none 0 0] 73 (0,0)):: (br, .cells #[vs s,vi to,vi 0] 314 (0,0)):: (b2, .cells #[.slice none 0 0, .slice none 0 0] 73 (0,0)):: (b7, .cells #[.slice none 0 0, .slice none 0 0] 73 (0,0))::g.D) (fun g=>g.g≤k∧New (b'+1) g.D∧Gr g.D 149 33 g.vt g.g ((qN_ c na ne g.g).1.map zH_).flatten) (fun g=>k - g.g) ⟨0, .slice none 0 0,[]⟩ rfl rfl ?_ ?_
   ·exact⟨Nat.zero_le _,trivial,Gr.nl⟩
   intro g j hg
   refine kv ?_
   obtain⟨g,vt,D⟩:=g
   simp only at hg ⊢
   obtain⟨hgk,hND,hGr⟩:=hg
   have hrle:=abv_ (e:=ne) hnle.2 g
   by_cases hlt:g<k
   ·repeat ((try with_reducible refine Cw.go [999999] ?_);(simp(disch:=(first|assumption|omega| (simp only[qP_,qM_,UInt64.reduceToNat];try omega))) only[↓Sx.S0,Sx.S1,Tryz.fx,zd_,Nat.reduceAdd,Nat.reducePow,Int.reducePow,Nat.reduceBEq, ↓reduceIte,UInt8.reduceToNat,UInt16.reduceToNat,UInt32.reduceToNat,UInt64.reduceToNat,Int.reduceToNat]))
    refine Cw.regionS [b6] [0,2,1,3,4,5,6,7] [7] (by kernel_rfl) (by kernel_rfl) (by kernel_rfl) ?_
    simp only[zI_, ↓zr_, ↓zk_, ↓z0_, ↓zZ_,zl_]
    refine kq @zd_ ?_
    refine Ow.soft rfl rfl rfl ?_
    refine Ow.callM rfl rfl Tryz.call166 (by simp[keys]) (fun w' hw'=>abq_ b' c (qN_ c na ne g).2.1 (qN_ c na ne g).2.2 w' hrle.2 (by omega) (hw'.has _ _ List.mem_cons_self)) ?_
    with_reducible refine Ow.nil ?_
    refine⟨fun b hb=>jT_ (by simp only[List.mem_cons,List.not_mem_nil,or_false] at hb;omega), ?_⟩
    rw[aeD_]
    have hfn:=Qt_ (s:=c) (a:=(qN_ c na ne g).2.1) (e:=(qN_ c na ne g).2.2) hcl
    have hrs:qN_ c na ne (g+1)=((qN_ c na ne g).1++ [(JX_ c (qN_ c na ne g).2.1 (qN_ c na ne g).2.2).1],(JX_ c (qN_ c na ne g).2.1 (qN_ c na ne g).2.2).2):=rfl
    generalize JX_ c (qN_ c na ne g).2.1 (qN_ c na ne g).2.2=rr at*
    obtain⟨r,ra,re⟩:=rr
    simp only at hfn hrs ⊢
    refine kn ?_
    refine Ow.soft rfl rfl rfl ?_
    refine Ow.buildSlice (e:=149) (zH_ r).toArray rfl rfl (v3_ r) fun b8 hb8 hw8=> ?_
    have hb8':b'<b8:=zi_ hb8 (by simp[keys])
    with_reducible refine Ow.nil ?_
    refine⟨qg_ (by simp[keys]), ?_⟩
    try simp only[List.cons_append,List.nil_append]
    refine Ow.soft rfl rfl rfl ?_
    refine Ow.permL (M:=D++ ((b', .cells #[vs c,vi ra,vi re] 314 (0,0)):: (b6, .cells #[vt, .slice none 0 0] 73 (0,0)):: (br, .cells #[vs s,vi to,vi 0] 314 (0,0)):: (b2, .cells #[.slice none 0 0, .slice none 0 0] 73 (0,0)):: (b7, .cells #[.slice none 0 0, .slice none 0 0] 73 (0,0)):: [(b8, .cells (zH_ r).toArray 149 (0,0))])) (by classical exact List.perm_iff_count.2 fun a=>by simp only[List.count_append,List.count_cons,List.count_nil]<;>omega) ?_
    refine Ow.appendX (e:=149) (k:=1) (new:=zH_ r) (X:=D) vt rfl rfl rfl rfl Tryz.underlying71 Tryz.ag149 (by kernel_rfl) ZH_ (by rw[ql_,List.size_toArray,zF_]) Tryz.underlying71 (by intro k h;cases h) hGr (fun w' hw'=>AppX.one1 (hw'.has b8 (.cells (zH_ r).toArray 149 (0,0)) (by simp)) (zF_ r) (Zv_ r)) (by omega) (by omega) (fun B v4 D4 hA4 hB4 hbuf hk1 hk2 hlk=> ?_)
    have hB8:b'<B:=zi_ hA4 (by simp[zc_,keys])
    have hN4:New (b'+1) D4:=New.of_le fun q hq=>by
     rcases hk2 q hq with h|h
     ·exact hND.le q h
     ·omega
    have h64:b6∉keys D4:=hN4.not (by omega)
    with_reducible refine Ow.nil ?_
    refine⟨fun q hq=> ?_, ?_⟩
    ·rw[List.mem_singleton] at hq
     subst hq
     rw[wu_ h64]
     simp(disch:=omega) only[List.cons_append,List.nil_append,xl_,wv_]
    try simp only[List.cons_append,List.nil_append]
    have hst6:j5_ (zL_ Tryz.prog 71) (D4++ ((b', .cells #[vs c,vi ra,vi re] 314 (0,0)):: (b6, .cells #[vt, .slice none 0 0] 73 (0,0)):: (br, .cells #[vs s,vi to,vi 0] 314 (0,0)):: (b2, .cells #[.slice none 0 0, .slice none 0 0] 73 (0,0)):: (b7, .cells #[.slice none 0 0, .slice none 0 0] 73 (0,0)):: [(b8, .cells (zH_ r).toArray 149 (0,0))])) (vp b6 0) v4=some (D4++ ((b', .cells #[vs c,vi ra,vi re] 314 (0,0)):: (b6, .cells #[v4, .slice none 0 0] 73 (0,0)):: (br, .cells #[vs s,vi to,vi 0] 314 (0,0)):: (b2, .cells #[.slice none 0 0, .slice none 0 0] 73 (0,0)):: (b7, .cells #[.slice none 0 0, .slice none 0 0] 73 (0,0)):: [(b8, .cells (zH_ r).toArray 149 (0,0))])):=by
     rw[Tryz.ag71,kL_,zG_ h64]
     simp(disch:=omega) only[zB_,jn_]
     rw[abl_ _ _ _ _ hbuf.cell,wb_,Qi_ h64]
     simp(disch:=omega) only[qC_,jI_]
    refine kq @zd_ ?_
    refine Ow.store rfl rfl rfl hst6 ?_
    try with_reducible refine Ow.nil ?_
    refine Cw.permL (M:=(b', .cells #[vs c,vi ra,vi re] 314 (0,0)):: (b6, .cells #[v4, .slice none 0 0] 73 (0,0)):: (br, .cells #[vs s,vi to,vi 0] 314 (0,0)):: (b2, .cells #[.slice none 0 0, .slice none 0 0] 73 (0,0)):: (b7, .cells #[.slice none 0 0, .slice none 0 0] 73 (0,0)):: (D4++ [(b8, .cells (zH_ r).toArray 149 (0,0))])) (by classical exact List.perm_iff_count.2 fun a=>by simp only[List.count_append,List.count_cons,List.count_nil]<;>omega) ?_
    repeat ((try with_reducible refine Cw.go [999999] ?_);(simp(disch:=(first|assumption|omega| (simp only[qP_,qM_,UInt64.reduceToNat];try omega))) only[↓Sx.S0,Sx.S1,Tryz.fx,zd_,Nat.reduceAdd,Nat.reducePow,Int.reducePow,Nat.reduceBEq, ↓reduceIte,UInt8.reduceToNat,UInt16.reduceToNat,UInt32.reduceToNat,UInt64.reduceToNat,Int.reduceToNat]))
    refine Again.mk (HG.mk (g+1) v4 (D4++ [(b8, .cells (zH_ r).toArray 149 (0,0))])) (by show k - (g+1)<k - g;omega) ⟨by show g+1≤k;omega,hN4.app ⟨by omega,trivial⟩, ?_⟩ ?_ rfl
    ·show Gr (D4++ [(b8, .cells (zH_ r).toArray 149 (0,0))]) 149 33 v4 (g+1) ((qN_ c na ne (g+1)).1.map zH_).flatten
     rw[hrs]
     have e: (((qN_ c na ne g).1++ [r]).map zH_).flatten=((qN_ c na ne g).1.map zH_).flatten++zH_ r:=by simp
     rw[e]
     exact Gr.app (.inl hbuf)
    ·simp only[hrs]
   ·obtain rfl:g=k:=by omega
    have hshT:=ZS_ (a:=na) (e:=ne) hcl g
    have hlenT:=jq_ c na ne g
    rw[Int.toNat_natCast] at hhd
    generalize qN_ c na ne g=tt at*
    obtain⟨tb,ra,re⟩:=tt
    simp only at hhd hshT hlenT hGr hrle ⊢
    have hNw:New w.heap.size ((br, .cells #[vs s,vi to,vi 0] 314 (0,0)):: (b', .cells #[vs c,vi ra,vi re] 314 (0,0)):: (b6, .cells #[vt, .slice none 0 0] 73 (0,0)):: (b7, .cells #[.slice none 0 0, .slice none 0 0] 73 (0,0))::D):=⟨by omega,by omega,by omega,by omega,hND.mono (by omega)⟩
    rw[←hlenT] at hGr
    repeat ((try with_reducible refine Cw.go [999999] ?_);(simp(disch:=(first|assumption|omega| (simp only[qP_,qM_,UInt64.reduceToNat];try omega))) only[↓Sx.S0,Sx.S1,Tryz.fx,zd_,Nat.reduceAdd,Nat.reducePow,Int.reducePow,Nat.reduceBEq, ↓reduceIte,UInt8.reduceToNat,UInt16.reduceToNat,UInt32.reduceToNat,UInt64.reduceToNat,Int.reduceToNat]))
    refine Ow.callFV rfl Tryz.call167 (fun w' hw'=>J4_ b' c ra re w' (hw'.has _ _ List.mem_cons_self)) ?_
    by_cases he:endR c ra re=0
    ·have hb: (endR c ra re !=0)=false:=by simp[he]
     refine ko (And.intro @zd_ @hb) ?_
     repeat ((try with_reducible refine Cw.go [999999] ?_);(simp(disch:=(first|assumption|omega| (simp only[qP_,qM_,UInt64.reduceToNat];try omega))) only[↓Sx.S0,Sx.S1,Tryz.fx,zd_,Nat.reduceAdd,Nat.reducePow,Int.reducePow,Nat.reduceBEq, ↓reduceIte,UInt8.reduceToNat,UInt16.reduceToNat,UInt32.reduceToNat,UInt64.reduceToNat,Int.reduceToNat,qR_]))
     refine Ow.callFV rfl Tryz.call88 (fun w' hw'=>xP_ vt (.slice none 0 0) tb [] w' (hGr.slM (fun b o hm=>hw'.has b o (by simp[hm])) rfl rfl zF_) (SlV.nil w') (by omega) (by simp) hshT (fun g hg=>by simp at hg)) ?_
     cases hr:qj_ tb []
     ·refine Ow.permL (M:=(b2, .cells #[.slice none 0 0, .slice none 0 0] 73 (0,0)):: ((br, .cells #[vs s,vi to,vi 0] 314 (0,0)):: (b', .cells #[vs c,vi ra,vi re] 314 (0,0)):: (b6, .cells #[vt, .slice none 0 0] 73 (0,0)):: (b7, .cells #[.slice none 0 0, .slice none 0 0] 73 (0,0))::D)) (by classical exact List.perm_iff_count.2 fun a=>by simp only[List.count_append,List.count_cons,List.count_nil]<;>omega) ?_
      refine ko @zd_ ?_
      repeat ((try with_reducible refine Cw.go [999999] ?_);(simp(disch:=(first|assumption|omega| (simp only[qP_,qM_,UInt64.reduceToNat];try omega))) only[↓Sx.S0,Sx.S1,Tryz.fx,zd_,Nat.reduceAdd,Nat.reducePow,Int.reducePow,Nat.reduceBEq, ↓reduceIte,UInt8.reduceToNat,UInt16.reduceToNat,UInt32.reduceToNat,UInt64.reduceToNat,Int.reduceToNat]))
      exact Jump.mk ⟨0,br,b6,b7,nlV,nlV,nlV,nlV,[],[],0,((br, .cells #[vs s,vi to,vi 0] 314 (0,0)):: (b', .cells #[vs c,vi ra,vi re] 314 (0,0)):: (b6, .cells #[vt, .slice none 0 0] 73 (0,0)):: (b7, .cells #[.slice none 0 0, .slice none 0 0] 73 (0,0))::D)⟩ rfl trivial (.inr (.inr ⟨rfl,hNw,aeK_ (by rw[hhd,if_neg (by simp[hr])])⟩)) rfl rfl
     ·rw[if_pos ⟨he,hr⟩] at hhd
      refine Ow.permL (M:=(b2, .cells #[.slice none 0 0, .slice none 0 0] 73 (0,0)):: (br, .cells #[vs s,vi to,vi 0] 314 (0,0)):: (b6, .cells #[vt, .slice none 0 0] 73 (0,0)):: (b7, .cells #[.slice none 0 0, .slice none 0 0] 73 (0,0)):: ((b', .cells #[vs c,vi ra,vi re] 314 (0,0))::D)) (by classical exact List.perm_iff_count.2 fun a=>by simp only[List.count_append,List.count_cons,List.count_nil]<;>omega) ?_
      refine ko @zd_ ?_
      have key0:=fun f'=>key (⟨1,br,b6,b7,vt, .slice none 0 0, .slice none 0 0, .slice none 0 0,tb,[],to,((b', .cells #[vs c,vi ra,vi re] 314 (0,0))::D)⟩) f'
      simp only[xS_,QL_,Bool.or_false,Bool.false_or,Bool.or_true,Bool.true_or,Nat.reduceBEq,beq_self_eq_true, ↓reduceIte,Bool.false_eq_true] at key0
      clear key
      repeat ((try with_reducible refine Cw.go [999999] ?_);(simp(disch:=(first|assumption|omega| (simp only[qP_,qM_,UInt64.reduceToNat];try omega))) only[↓Sx.S0,Sx.S1,Tryz.fx,zd_,Nat.reduceAdd,Nat.reducePow,Int.reducePow,Nat.reduceBEq, ↓reduceIte,UInt8.reduceToNat,UInt16.reduceToNat,UInt32.reduceToNat,UInt64.reduceToNat,Int.reduceToNat]))
      refine Cw.label ?_
      refine key0 _ (.inl ⟨rfl,(by simp only;omega),hw6,hw7,(by simp only;omega),(by simp only;omega),(by simp only;omega),(by simp only;omega),(by simp only;omega),(by simp only;omega),⟨by omega,hND.mono (by omega)⟩,hGr.i fun p hp=>by simp[hp],Gr.nl.i (X:= []) fun p hp=>(by cases hp),rfl,rfl,hshT,fun g hg=>(by simp at hg),by simp only;omega,by simp,hle0.2,to,hhd, ?_⟩) ?_
      ·intro k hk
       exact Xh_ s tb k 101 [] to (by simpa using hk) (by simp) (by simp)
      ·rfl
    ·have hb: (endR c ra re !=0)=true:=by simpa using he
     refine Ow.permL (M:=(b2, .cells #[.slice none 0 0, .slice none 0 0] 73 (0,0)):: ((br, .cells #[vs s,vi to,vi 0] 314 (0,0)):: (b', .cells #[vs c,vi ra,vi re] 314 (0,0)):: (b6, .cells #[vt, .slice none 0 0] 73 (0,0)):: (b7, .cells #[.slice none 0 0, .slice none 0 0] 73 (0,0))::D)) (by classical exact List.perm_iff_count.2 fun a=>by simp only[List.count_append,List.count_cons,List.count_nil]<;>omega) ?_
     refine ko (And.intro @zd_ @hb) ?_
     repeat ((try with_reducible refine Cw.go [999999] ?_);(simp(disch:=(first|assumption|omega| (simp only[qP_,qM_,UInt64.reduceToNat];try omega))) only[↓Sx.S0,Sx.S1,Tryz.fx,zd_,Nat.reduceAdd,Nat.reducePow,Int.reducePow,Nat.reduceBEq, ↓reduceIte,UInt8.reduceToNat,UInt16.reduceToNat,UInt32.reduceToNat,UInt64.reduceToNat,Int.reduceToNat]))
     exact Jump.mk ⟨0,br,b6,b7,nlV,nlV,nlV,nlV,[],[],0,((br, .cells #[vs s,vi to,vi 0] 314 (0,0)):: (b', .cells #[vs c,vi ra,vi re] 314 (0,0)):: (b6, .cells #[vt, .slice none 0 0] 73 (0,0)):: (b7, .cells #[.slice none 0 0, .slice none 0 0] 73 (0,0))::D)⟩ rfl trivial (.inr (.inr ⟨rfl,hNw,aeK_ (by rw[hhd,if_neg (fun h=>he h.1)])⟩)) rfl rfl
end Go.Proofs
end
section
open Go Go.Proofs Go.Sx Go.StP
namespace Go.Proofs
set_option maxRecDepth 10000
set_option maxHeartbeats 400000
set_option linter.unusedSimpArgs false
def qd_:List UInt8:= [98,111,111,107]
structure BkL where
 t:List RefL
 l:List RefL
 n:Nat
def begB (S:DiskL):List UInt8×Nat×DiskL:=
 if(kb_ S jc_ qd_).2=6 then(QW_ [] [],pubV S jc_ qd_ (QW_ [] []) false) else((kb_ S jc_ qd_).1,(kb_ S jc_ qd_).2,S)
def endB (S:DiskL) (s:List UInt8) (p:List RefL×List RefL×Nat):Option BkL×Nat×DiskL:=
 let q:Nat×DiskL:=if p.2.2<s.length then pubV S jc_ qd_ (s.take p.2.2) false else(0,S)
 if q.1≠0 then(none,q) else
 if(je_ q.2 jc_ qd_).2≠0 then(none,(je_ q.2 jc_ qd_).2,(je_ q.2 jc_ qd_).1) else(some ⟨p.1,p.2.1,p.2.1.length⟩,0,(je_ q.2 jc_ qd_).1)
def aeN_ (S:DiskL):Option BkL×Nat×DiskL:=
 if(begB S).2.1≠0 then(none,(begB S).2) else match Qb_ (begB S).1 with
  |none=>(none,17,(begB S).2.2)
  |some p=>endB (begB S).2.2 (begB S).1 p
structure BoA (bo:Nat) (G:DkG) (S:DiskL) (N:Nat) (B:BkL) (vt vl:Value) (D K X:za_):Prop where
 perm:X.Perm ((bo, .cells #[vp G.bd 0,vt,vl,vi (B.n:Nat)] 151 (0,0)):: (D++K))
 D:DkA D G S N
 t:GrI K 149 33 vt B.t.length (B.t.map zH_).flatten
 l:GrI K 149 33 vl B.l.length (B.l.map zH_).flatten
def BoP (bo bd:Nat) (S:DiskL) (N:Nat) (B:BkL) (X:za_):Prop:= ∃G vt vl D K,G.bd=bd∧BoA bo G S N B vt vl D K X
theorem DkA.perm {X Y:za_} {G:DkG} {S:DiskL} {N:Nat} (h:DkA X G S N) (hn: (keys X).Nodup) (hp:X.Perm Y):DkA Y G S N:=⟨h.P.mono fun _b _o hl=>jl_ (((hp.map Prod.fst).nodup_iff).1 hn) (hp.mem_iff.1 (zt_ hl)),h.H,h.B⟩
theorem DkA.app {X Y:za_} {G:DkG} {S:DiskL} {N:Nat} (h:DkA X G S N):DkA (X++Y) G S N:=⟨h.P.mono fun _b _o hl=>zq_ hl,h.H,h.B⟩
theorem DkA.le {X:za_} {G:DkG} {S:DiskL} {N M:Nat} (h:DkA X G S N) (hN:N≤M):DkA X G S M:=⟨h.P,h.H,h.B.mono hN⟩
end Go.Proofs
end
section
open Go Go.Proofs Go.Sx Go.StP Go.RefP
namespace Go.Proofs
set_option maxRecDepth 10000
set_option maxHeartbeats 1000000
set_option linter.unusedSimpArgs false
theorem aij_ (a b c d:Value) (n:Nat) (E:TypeId) (fz:Nat×Nat):zD_ (some (false,n)) (some (.cells #[a,b,c,d] E fz)) 0=some a:=(rfl)
theorem ajQ_ (a b c d:Value) (n:Nat) (E:TypeId) (fz:Nat×Nat):zD_ (some (false,n)) (some (.cells #[a,b,c,d] E fz)) 1=some b:=(rfl)
theorem aiv_ (a b c d:Value) (n:Nat) (E:TypeId) (fz:Nat×Nat):zD_ (some (false,n)) (some (.cells #[a,b,c,d] E fz)) 2=some c:=(rfl)
theorem aik_ (a b c d:Value) (n:Nat) (E:TypeId) (fz:Nat×Nat):zD_ (some (false,n)) (some (.cells #[a,b,c,d] E fz)) 3=some d:=(rfl)
theorem ajN_ (a b c d:Value) (E:TypeId) (fz:Nat×Nat):zD_ (some (true,2)) (some (.cells #[a,b,c,d] E fz)) 1=some (.agg #[b,c]):=(rfl)
theorem ai6_ (a b c d:Value) (n:Int) (E:TypeId):zz_ (some (false,1)) (some (.cells #[a,b,c,d] E (0,0))) 3 (vi n)=some (.cells #[a,b,c,vi n] E (0,0)):=by
 have h:Value.oneCell' (vi n)=true∧(vi n).cells= #[vi n]:=⟨rfl,rfl⟩
 simp[zz_,h,k3_]
theorem alo_ (a b c d x y:Value) (E:TypeId) (hx:Value.oneCell' x=true) (hy:Value.oneCell' y=true):zz_ (some (true,2)) (some (.cells #[a,b,c,d] E (0,0))) 1 (.agg #[x,y])=some (.cells #[a,x,y,d] E (0,0)):=by
 simp[zz_,hx,hy,k3_,zg_]
theorem agz_ (b o:Nat):qy_ Tryz.prog .eql 69 (vp b o) (.pointer none)=some (.bool false):=by
 simp[qy_,eqX,qk_,qp_,Tryz.underlying69,vp]
theorem wd_:qy_ Tryz.prog .eql 69 (.pointer none) (.pointer none)=some (.bool true):=by
 simp[qy_,eqX,qk_,qp_,Tryz.underlying69]
theorem wF_ {D:za_} {E:TypeId} {m n:Nat} {v:Value} {cs:List Value} (h:GrI D E m v n cs):Value.oneCell' v=true∧v.cells= #[v]:=by
 obtain⟨X,-,h⟩:=h;exact h.cell
theorem akQ_ {D:za_} {E:TypeId} {m n:Nat} {v:Value} {cs:List Value} (h:GrI D E m v n cs) (x:Bool×Nat):XU_ (.sl x) v=some (vi n):=by
 obtain⟨X,-,h⟩:=h;exact h.len x
theorem wX_ {D:za_} {v:Value} {l:List RefL} {w:World} (h:GrI D 149 33 v l.length (l.map zH_).flatten) (hD: ∀b o,(b,o)∈D→w.heap[b]? =some o):xB_ w v l:=by
 obtain⟨X,hX,h⟩:=h
 exact h.slM (fun b o hm=>hD b o (hX _ hm)) rfl rfl zF_
def vf_ (S:DiskL) (B:BkL):Nat×DiskL×BkL:=if(je_ S jc_ qd_).2≠0 then((je_ S jc_ qd_).2,(je_ S jc_ qd_).1,B) else(0,(je_ S jc_ qd_).1,{B with n:=B.l.length})
theorem aeJ_ (n:Nat): ((n:Int) !=0)=decide (n≠0):=by
 rw[Bool.eq_iff_iff,bne_iff_ne,decide_eq_true_eq];omega
set_option linter.defProp false
def z6_:=And.intro (And.intro (And.intro (@zw_) (@zv_)) (And.intro (@Sx.tup2_0) (And.intro (@Sx.tup2_1) (@aij_)))) (And.intro (And.intro (@ajQ_) (And.intro (@aiv_) (@aik_))) (And.intro (@ajN_) (And.intro (@ai6_) (@agz_))))
theorem Qf_ (bo bd:Nat) (S:DiskL) (N:Nat) (B:BkL) (X:za_) (w:World) (hX: ∀p,p∈X→w.heap[p.1]? =some p.2) (hn: (keys X).Nodup) (hP:BoP bo bd S N B X):
  Rets Tryz.prog 42 #[vp bo 0] w (XS w X (fun v D=>v=vi ((vf_ S B).1:Nat)∧BoP bo bd (vf_ S B).2.1 N (vf_ S B).2.2 D)):=by
 obtain⟨G,vt,vl,D,K,rfl,hA⟩:=hP
 have hE0:Ext w X (D++ ((bo,Obj.cells #[vp G.bd 0,vt,vl,vi (B.n:Nat)] 151 (0,0))::K)):=(Ext.refl w X).perm ((hA.perm.trans (by classical exact List.perm_iff_count.2 fun a=>by simp only[List.count_append,List.count_cons,List.count_nil]<;>omega)).symm)
 refine Rets.enterX Tryz.func42 rfl (rs:= [.tmp 2]) Tryz.results42 Tryz.ntmps42 hX hn ?_
 refine kf ?_
 refine Cw.permL hA.perm.symm ?_
 first|with_reducible refine ks [] @z6_ ?_|refine kp @z6_ ?_
 refine Ow.permL (M:=D++ ((bo, .cells #[vp G.bd 0,vt,vl,vi (B.n:Nat)] 151 (0,0))::K)) (by classical exact List.perm_iff_count.2 fun a=>by simp only[List.count_append,List.count_cons,List.count_nil]<;>omega) ?_
 refine Ow.callX (X:=D) (Y:=(bo, .cells #[vp G.bd 0,vt,vl,vi (B.n:Nat)] 151 (0,0))::K) rfl rfl rfl Tryz.call85 (fun w' hw' hX' hn'=>JT_ D G S jc_ qd_ w' hX' hn' hA.D.P (by decide)) (fun v2 D2 hC2 hS2=> ?_)
 obtain⟨rfl,hP2⟩:=hS2
 have hA2:DkA D2 G (je_ S jc_ qd_).1 N:=⟨hP2,aeu_ hA.D.H _ _,ago_ hA.D.B _ _⟩
 have hE2:=hE0.came hC2
 refine Ow.permL (M:=(bo, .cells #[vp G.bd 0,vt,vl,vi (B.n:Nat)] 151 (0,0)):: (D2++K)) (by classical exact List.perm_iff_count.2 fun a=>by simp only[List.count_append,List.count_cons,List.count_nil]<;>omega) ?_
 have hp2: ((bo,Obj.cells #[vp G.bd 0,vt,vl,vi (B.n:Nat)] 151 (0,0)):: (D2++K)).Perm (D2++ ((bo, .cells #[vp G.bd 0,vt,vl,vi (B.n:Nat)] 151 (0,0))::K)):=(by classical exact List.perm_iff_count.2 fun a=>by simp only[List.count_append,List.count_cons,List.count_nil]<;>omega)
 have hne:=aeJ_ (je_ S jc_ qd_).2
 have lnl:=akQ_ hA.l
 unfold vf_
 by_cases h0: (je_ S jc_ qd_).2=0
 ·rw[if_neg (by simpa using h0)]
  rw[decide_eq_false (by simpa using h0)] at hne
  refine ko (And.intro @z6_ @hne) ?_
  first|with_reducible refine ks [] (And.intro @z6_ (And.intro @hne (@lnl))) ?_|refine kp (And.intro @z6_ (And.intro @hne (@lnl))) ?_
  refine⟨_,(ke @z6_), ?_⟩
  have hE3:Ext w X ((bo, .cells #[vp G.bd 0,vt,vl,vi (B.l.length:Nat)] 151 (0,0)):: (D2++K)):=(hE2.perm hp2).keys rfl
  exact⟨hE3,rfl,G,vt,vl,D2,K,rfl,⟨List.Perm.refl _,hA2,hA.t,hA.l⟩⟩
 ·rw[if_pos h0]
  rw[decide_eq_true h0] at hne
  refine ko (And.intro @z6_ @hne) ?_
  first|with_reducible refine ks [] (And.intro @z6_ @hne) ?_|refine kp (And.intro @z6_ @hne) ?_
  refine⟨_,(ke @z6_), ?_⟩
  exact⟨hE2.perm hp2,rfl,G,vt,vl,D2,K,rfl,⟨List.Perm.refl _,hA2,hA.t,hA.l⟩⟩
def BoW (w:World) (bo bd:Nat) (B:BkL):Prop:= ∃vt vl,w.heap[bo]? =some (.cells #[vp bd 0,vt,vl,vi (B.n:Nat)] 151 (0,0))∧xB_ w vt B.t∧xB_ w vl B.l
theorem BoP.W {w:World} {bo bd:Nat} {S:DiskL} {N:Nat} {B:BkL} {X:za_} (h:BoP bo bd S N B X) (hX: ∀b o,(b,o)∈X→w.heap[b]? =some o):BoW w bo bd B:=by
 obtain⟨G,vt,vl,D,K,rfl,hA⟩:=h
 have hp: ∀b o,(b,o)∈ ((bo,Obj.cells #[vp G.bd 0,vt,vl,vi (B.n:Nat)] 151 (0,0)):: (D++K))→w.heap[b]? =some o:=fun b o hm=>hX b o (hA.perm.mem_iff.2 hm)
 exact⟨vt,vl,hp _ _ List.mem_cons_self,wX_ hA.t fun b o hm=>hp b o (List.mem_cons_of_mem _ (List.mem_append_right _ hm)),wX_ hA.l fun b o hm=>hp b o (List.mem_cons_of_mem _ (List.mem_append_right _ hm))⟩
theorem BoW.oldN {w w':World} {L:za_} {bo bd:Nat} {B:BkL} (h:BoW w bo bd B) (hw:Hp w L w') (hN:New w.heap.size L):BoW w' bo bd B:=by
 obtain⟨vt,vl,hb,ht,hl⟩:=h
 have hbl:=(Array.getElem?_eq_some_iff.1 hb).1
 exact⟨vt,vl,(hw.old _ hbl (hN.not hbl)).trans hb,ht.oldN hw hN,hl.oldN hw hN⟩
theorem Jt_ (bo bd:Nat) (B:BkL) (w:World) (hW:BoW w bo bd B):Rets Tryz.prog 43 #[vp bo 0] w (fun v D=>v=vi (B.n:Nat)∧D= []):=by
 obtain⟨vt,vl,hb,-,-⟩:=hW
 have hbl:=(Array.getElem?_eq_some_iff.1 hb).1
 refine Rets.enterV Tryz.func43 rfl (rs:= [.tmp 2]) Tryz.results43 Tryz.ntmps43 ?_
 refine kf ?_
 first|with_reducible refine ks [] (And.intro @z6_ @hb) ?_|refine kp (And.intro @z6_ @hb) ?_
 refine⟨_,(ke @z6_),trivial, ?_⟩
 rfl
theorem Jx_ (w:World):Rets Tryz.prog 43 #[.pointer none] w (fun v D=>v=vi 0∧D= []):=by
 refine Rets.enterV Tryz.func43 rfl (rs:= [.tmp 2]) Tryz.results43 Tryz.ntmps43 ?_
 refine kf ?_
 first|with_reducible refine ks [] (And.intro @z6_ @wd_) ?_|refine kp (And.intro @z6_ @wd_) ?_
 refine⟨_,(ke @z6_),trivial, ?_⟩
 rfl
theorem W8_ (w:World):Rets Tryz.prog 42 #[.pointer none] w (fun v D=>v=vi 1∧D= []):=by
 refine Rets.enterV Tryz.func42 rfl (rs:= [.tmp 2]) Tryz.results42 Tryz.ntmps42 ?_
 refine kf ?_
 first|with_reducible refine ks [] (And.intro @z6_ @wd_) ?_|refine kp (And.intro @z6_ @wd_) ?_
 refine⟨_,(ke @z6_),trivial, ?_⟩
 rfl
theorem Wz_ (n:Int) (w:World):Rets Tryz.prog 44 #[.pointer none,vi n] w (fun v D=>v=vi 1∧D= []):=by
 refine Rets.enterV Tryz.func44 rfl (rs:= [.tmp 4]) Tryz.results44 Tryz.ntmps44 ?_
 refine kf ?_
 first|with_reducible refine ks [] (And.intro @z6_ @wd_) ?_|refine kp (And.intro @z6_ @wd_) ?_
 refine⟨_,(ke @z6_),trivial, ?_⟩
 rfl
theorem adA_:zY_ Tryz.prog 73=some (.agg #[.slice none 0 0, .slice none 0 0]):=id (by kernel_rfl)
theorem Z5_:jD_ (Zl_ Tryz.prog 73) (zY_ Tryz.prog 73) []=some (.agg #[.slice none 0 0, .slice none 0 0]):=id (by kernel_rfl)
theorem kP_ (a b x y:Value) (E:TypeId) (hx:Value.oneCell' x=true) (hy:Value.oneCell' y=true):zz_ (some (true,2)) (some (.cells #[a,b] E (0,0))) 0 (.agg #[x,y])=some (.cells #[x,y] E (0,0)):=by
 simp[zz_,hx,hy,k3_,zg_]
theorem k4_ (a b:Value) (E:TypeId):zD_ (some (true,2)) (some (.cells #[a,b] E (0,0))) 0=some (.agg #[a,b]):=(rfl)
theorem Qw_ (w:World):Rets Tryz.prog 39 #[.pointer none] w (fun v D=>v= .agg #[.slice none 0 0, .slice none 0 0]∧D= []):=by
 refine Rets.enterV Tryz.func39 rfl (rs:= [.cell 2 73]) Tryz.results39 Tryz.ntmps39 ?_
 refine kf ?_
 first|with_reducible refine ks [] @z6_ ?_|refine kp @z6_ ?_
 refine Ow.alloc rfl rfl adA_ fun b2 hb2 hw2=> ?_
 simp only[zg_,List.nil_append,List.cons_append]
 refine ko @z6_ ?_
 first|with_reducible refine ks [] (And.intro @z6_ @wd_) ?_|refine kp (And.intro @z6_ @wd_) ?_
 refine Ow.build (.agg #[.slice none 0 0, .slice none 0 0]) rfl Z5_ ?_
 have stz:=kP_ (.slice none 0 0) (.slice none 0 0) (.slice none 0 0) (.slice none 0 0) 73 rfl rfl
 refine ko (And.intro @z6_ @stz) ?_
 first|with_reducible refine ks [] (And.intro @z6_ (And.intro @stz (@k4_))) ?_|refine kp (And.intro @z6_ (And.intro @stz (@k4_))) ?_
 refine⟨_,(ke @z6_),⟨hw2,trivial⟩, ?_⟩
 rfl
theorem Wy_ (bo bd:Nat) (B:BkL) (w:World) (hW:BoW w bo bd B) (htl:B.t.length<1000000) (hll:B.l.length<1000000):Rets Tryz.prog 39 #[vp bo 0] w (XS w [] (fun v D=> ∃vt vl,v= .agg #[vt,vl]∧GrI D 149 33 vt B.t.length (B.t.map zH_).flatten∧GrI D 149 33 vl B.l.length (B.l.map zH_).flatten)):=by
 obtain⟨vt,vl,hb,ht,hl⟩:=hW
 have hbl:=(Array.getElem?_eq_some_iff.1 hb).1
 refine Rets.enterX Tryz.func39 rfl (rs:= [.cell 2 73]) Tryz.results39 Tryz.ntmps39 (fun p hp=>by cases hp) (by simp[keys]) ?_
 refine kf ?_
 first|with_reducible refine ks [] @z6_ ?_|refine kp @z6_ ?_
 refine Ow.alloc rfl rfl adA_ fun b2 hb2 hw2=> ?_
 simp only[zg_,List.nil_append,List.cons_append]
 have hN2:New w.heap.size [(b2,Obj.cells #[.slice none 0 0, .slice none 0 0] 73 (0,0))]:=⟨hw2,trivial⟩
 have r1: ∀L:za_,New w.heap.size L→zs_ w L bo=some (.cells #[vp bd 0,vt,vl,vi (B.n:Nat)] 151 (0,0)):=fun L hL=>by rw[q3_ (hL.not hbl)];exact hb
 have r2:=r1 _ hN2
 refine ko @z6_ ?_
 first|with_reducible refine ks [] @z6_ ?_|refine kp @z6_ ?_
 refine Cw.regionG [bo] [13] 14 (by kernel_rfl) rfl ?_
 simp only[List.replicate_succ,List.replicate_zero]
 refine OwG.run [0,1,2,3,4,6,7,8,9,10] [true,true,true,true,true,false,true,true,true,true,true,false,false,false] 4 rfl (by kernel_rfl) (by kernel_rfl) fun k hk=> ?_
 simp only[zI_, ↓zr_, ↓zk_, ↓z0_, ↓zZ_,zl_]
 simp(disch:=(first|assumption|omega| (simp only[qP_,qM_,UInt64.reduceToNat];try omega))) only[↓Sx.S0,Sx.S1,Tryz.fx,z6_,Nat.reduceAdd,Nat.reducePow,Int.reducePow,Nat.reduceBEq, ↓reduceIte,UInt8.reduceToNat,UInt16.reduceToNat,UInt32.reduceToNat,UInt64.reduceToNat,Int.reduceToNat,Md.next_sofnil,r2]
 (with_reducible refine hk _ _ _ ?_);clear hk k
 refine OwG.one 5 _ (by kernel_rfl) rfl ?_
 refine Ow.callC rfl rfl Tryz.call81 (fun w' hw'=>qt_ vt B.t w' (ht.oldN hw' hN2) htl) (fun B1 v1 D1 hA1 hB1 hN1 hS1=> ?_)
 have hN1':=hN1.mono hB1
 have hN12:=hN2.app hN1'
 have r3:=r1 _ hN12
 with_reducible refine Ow.nil ?_
 refine⟨(fun r hr=>by rw[List.mem_singleton.1 hr];exact r3.trans r2.symm), ?_⟩
 simp only[List.set_cons_zero,List.set_cons_succ,qc_,jF_,jG_]
 refine OwG.one 11 _ (by kernel_rfl) rfl ?_
 refine Ow.callC rfl rfl Tryz.call81 (fun w' hw'=>qt_ vl B.l w' (hl.oldN hw' hN12) hll) (fun B4 v4 D4 hA4 hB4 hN4 hS4=> ?_)
 have hN4':=hN4.mono hB4
 have hN14:=hN12.app hN4'
 have r4:=r1 _ hN14
 with_reducible refine Ow.nil ?_
 refine⟨(fun r hr=>by rw[List.mem_singleton.1 hr];exact r4.trans r3.symm), ?_⟩
 simp only[List.set_cons_zero,List.set_cons_succ,qc_,jF_,jG_]
 refine OwG.rest [12,13] rfl (by kernel_rfl) (by kernel_rfl) ?_
 simp only[zI_, ↓zr_, ↓zk_, ↓z0_, ↓zZ_,zl_]
 refine kq @z6_ ?_
 refine Ow.build (.agg #[v1,v4]) rfl (XM_ v1 v4 hS1.cell.2 hS4.cell.2) ?_
 have stz:=kP_ (.slice none 0 0) (.slice none 0 0) v1 v4 73 hS1.cell.1 hS4.cell.1
 refine kq @z6_ ?_
 refine Ow.store rfl rfl rfl (ke (And.intro @z6_ @stz)) ?_
 refine ko @z6_ ?_
 first|with_reducible refine ks [] (And.intro @z6_ @k4_) ?_|refine kp (And.intro @z6_ @k4_) ?_
 refine⟨_,(ke @z6_), ?_⟩
 exact⟨Ext.of_new ⟨hw2,hN1'.app hN4'⟩,v1,v4,rfl,hS1.i fun p hp=>List.mem_cons_of_mem _ (List.mem_append_left _ hp),hS4.i fun p hp=>List.mem_cons_of_mem _ (List.mem_append_right _ hp)⟩
theorem wI_ (t l:List RefL) (n:List UInt8): (xM_ t l n).length=32:=by
 have hzl:z32.length=32:=by simp[z32]
 unfold xM_
 cases ho:ofM zP_ z32 (prs t) (prs l) l.length with
 |none=>exact hzl
 |some m=>
  simp only
  split
  ·exact aa7_ (n:=n) (aeE_ (XQ_ t) (XQ_ l) (by rw[kD_];exact Nat.le_refl _) ho) hzl
  ·exact hzl
theorem wV_ (bo bd:Nat) (B:BkL) (n:List UInt8) (w:World) (hW:BoW w bo bd B) (htl:B.t.length<1000000) (hll:B.l.length<1000000) (hnt:jo_ B.t) (hnl:jo_ B.l):Rets Tryz.prog 40 #[vp bo 0,vs n] w (XS w [] (fun v _D=>v= .agg (a8 (xM_ B.t B.l n)))):=by
 have hW0:=hW
 obtain⟨vt,vl,hb,ht,hl⟩:=hW
 have hbl:=(Array.getElem?_eq_some_iff.1 hb).1
 refine Rets.enterX Tryz.func40 rfl (rs:= [.cell 4 24]) Tryz.results40 Tryz.ntmps40 (fun p hp=>by cases hp) (by simp[keys]) ?_
 refine kf ?_
 first|with_reducible refine ks [] @z6_ ?_|refine kp @z6_ ?_
 refine Ow.alloc rfl rfl Tryz.zr24 fun b2 hb2 hw2=> ?_
 simp only[zg_,List.nil_append,List.cons_append]
 refine ko @z6_ ?_
 have hvl:=wI_ B.t B.l n
 have hzl: (List.replicate 32 (0:UInt8)).length=32:=rfl
 refine Ow.callC rfl rfl Tryz.call39 (fun w' hw'=>Wy_ bo bd B w' (hW0.oldN hw' ⟨hw2,trivial⟩) htl hll) (fun B1 v1 D1 hA1 hB1 hN1 hS1=> ?_)
 obtain⟨va,vb,rfl,hga,hgb⟩:=hS1
 refine ko @z6_ ?_
 refine Ow.callFV rfl Tryz.call82 (fun w' hw'=>J2_ va vb B.t B.l n w' (wX_ hga fun b o hm=>hw'.has b o (List.mem_cons_of_mem _ hm)) (wX_ hgb fun b o hm=>hw'.has b o (List.mem_cons_of_mem _ hm)) htl hll hnt hnl) ?_
 refine ko @z6_ ?_
 first|with_reducible refine ks [] @z6_ ?_|refine kp @z6_ ?_
 refine⟨_,(ke @z6_), ?_⟩
 exact⟨Ext.of_new ⟨hw2,hN1.mono hB1⟩,rfl⟩
end Go.Proofs
end
section
open Go Go.Proofs Go.Sx Go.StP Go.RefP
namespace Go.Proofs
set_option maxRecDepth 10000
set_option maxHeartbeats 1000000
set_option linter.unusedSimpArgs false
theorem akt_:qj_ [] []=true:=by rfl
theorem aed_ (b o:Nat) (x y:Value):jD_ (Zl_ Tryz.prog 151) (zY_ Tryz.prog 151) [(0,vp b o),(1, .agg #[x,y])]=some (.agg #[vp b o,x,y,vi 0]):=by
 rw[show Zl_ Tryz.prog 151=some [(0,1),(1,2),(3,1)] from id (by kernel_rfl),show zY_ Tryz.prog 151=some (.agg #[.pointer none, .slice none 0 0, .slice none 0 0,vi 0]) from id (by kernel_rfl)]
 have h: (vp b o).cells= #[vp b o]:=rfl
 simp[jD_,Sx.fillV,h,zg_,k3_]
def NewS (bd:Nat) (R:Option BkL×Nat×DiskL) (N:Nat) (v:Value) (D:za_):Prop:=
 match R.1 with
 |none=>v= .tuple #[.pointer none,vi (R.2.1:Nat)]∧ ∃G,G.bd=bd∧DkA D G R.2.2 N
 |some B=> ∃bo,v= .tuple #[vp bo 0,vi 0]∧BoP bo bd R.2.2 N B D
theorem vz_ {w w':World} {X L:za_} (h:GlobC w) (hE:Ext w X L) (hw:Hp w L w') (hn: (4:Nat)∉keys X):GlobC w':=h.ofE hE hw hn
theorem afb_: (QW_ [] []).length≤1000:=by decide+kernel
theorem BoP.dk {bo bd:Nat} {S:DiskL} {N:Nat} {B:BkL} {X:za_} (h:BoP bo bd S N B X) (hn: (keys X).Nodup): ∃G,G.bd=bd∧DkA X G S N:=by
 obtain⟨G,vt,vl,D,K,hG,hA⟩:=h
 refine⟨G,hG,DkA.perm (X:=D++ ((bo, .cells #[vp G.bd 0,vt,vl,vi (B.n:Nat)] 151 (0,0))::K)) hA.D.app ?_ ((hA.perm.trans (by classical exact List.perm_iff_count.2 fun a=>by simp only[List.count_append,List.count_cons,List.count_nil]<;>omega)).symm)⟩
 exact(((hA.perm.trans (by classical exact List.perm_iff_count.2 fun a=>by simp only[List.count_append,List.count_cons,List.count_nil]<;>omega)).map Prod.fst).nodup_iff).1 hn
theorem jO_ {w:World} {X D E:za_} (h:Ext w X D) (hN:New w.heap.size E):Ext w X (D++E):=⟨fun c hc=>by
  rw[zc_] at hc
  exact(List.mem_append.1 hc).elim (h.new c) fun hc=> .inr (hN.le c hc),fun c hc=>by rw[zc_];exact List.mem_append_left _ (h.all c hc)⟩
structure BnG where
 s:List UInt8
 e:Nat
 S:DiskL
 G:DkG
 X:za_
set_option linter.defProp false
def qb_:=And.intro (And.intro (And.intro (@zw_) (And.intro (@zv_) (@Sx.tup2_0))) (And.intro (And.intro (@Sx.tup2_1) (@tup3_0)) (And.intro (@tup3_1) (@tup3_2)))) (And.intro (And.intro (@aij_) (And.intro (@ajQ_) (@aiv_))) (And.intro (And.intro (@aik_) (@ajN_)) (And.intro (@ai6_) (@k4_))))
theorem Xg_ (X:za_) (G:DkG) (S:DiskL) (N:Nat) (w:World) (hX: ∀p,p∈X→w.heap[p.1]? =some p.2) (hn: (keys X).Nodup) (hA:DkA X G S N) (hN:N<600000) (hC:GlobC w) (hgx: (4:Nat)∉keys X) (hs: (kb_ S jc_ qd_).1.length<1000000):
  Rets Tryz.prog 50 #[vp G.bd 0] w (XS w X (NewS G.bd (aeN_ S) (N+84))):=by
 have hE:=Ext.refl w X
 refine Rets.enterX Tryz.func50 rfl (rs:= [.tmp 2, .tmp 3]) Tryz.results50 Tryz.ntmps50 hX hn ?_
 refine kf ?_
 first|with_reducible refine ks [1000002,1000010] @qb_ ?_|refine kp @qb_ ?_
 refine Ow.callFV rfl Tryz.call94 (fun w' hw'=>JP_ w' G S jc_ qd_ (hA.P.world hw') (by decide)) ?_
 refine ko @qb_ ?_
 refine Cw.cutO (G:=BnG) [4,5,17,18,19,20,21,22,23,24,25,26] (fun g=> [(4,vs g.s),(5,vi (g.e:Nat))]) (fun g=>g.X) (fun g=>Ext w X g.X∧g.G.bd=G.bd∧DkA g.X g.G g.S (N+42)∧begB S=(g.s,g.e,g.S)∧g.s.length<1000000) ?_ ?_
 ·by_cases h6: (kb_ S jc_ qd_).2=6
  ·have e6: (((kb_ S jc_ qd_).2:Nat):Int)=6:=by rw[h6];rfl
   have d6: ((((kb_ S jc_ qd_).2:Nat):Int)==6)=true:=by rw[e6];rfl
   first|with_reducible refine ks [] (And.intro @qb_ @d6) ?_|refine kp (And.intro @qb_ @d6) ?_
   refine Ow.build (.agg #[.slice none 0 0, .slice none 0 0]) rfl Z5_ ?_
   refine ko @qb_ ?_
   refine Ow.callFV rfl Tryz.call86 (fun w' hw'=>acd_ (.slice none 0 0) (.slice none 0 0) [] [] w' (vz_ hC hE hw' hgx) (SlV.nil w') (SlV.nil w') (by decide) (by decide) (fun g hg=>absurd hg (Nat.not_lt_zero g)) (fun g hg=>absurd hg (Nat.not_lt_zero g))) ?_
   rw[if_pos akt_]
   refine ko @qb_ ?_
   first|with_reducible refine ks [] @qb_ ?_|refine kp @qb_ ?_
   refine Ow.callX (X:=X) (Y:= []) (List.append_nil _).symm rfl rfl Tryz.call87 (fun w' hw' hX' hn'=>J0_ X G S N jc_ qd_ (QW_ [] []) w' hX' hn' hA (by omega) (by decide) (by have:=afb_;omega)) (fun v1 D1 hC1 hS1=> ?_)
   rw[List.append_nil]
   obtain⟨rfl,G1,hb1,hA1⟩:=hS1
   refine ko @qb_ ?_
   exact CutO.mk ⟨QW_ [] [],(pubV S jc_ qd_ (QW_ [] []) false).1,(pubV S jc_ qd_ (QW_ [] []) false).2,G1,D1⟩ ⟨hE.came0 hC1,hb1,hA1,by unfold begB;rw[if_pos h6],by have:=afb_;show(QW_ [] []).length<_;omega⟩ rfl rfl
  ·have d6: ((((kb_ S jc_ qd_).2:Nat):Int)==6)=false:=beq_eq_false_iff_ne.2 (by omega)
   first|with_reducible refine ks [] (And.intro @qb_ @d6) ?_|refine kp (And.intro @qb_ @d6) ?_
   exact CutO.mk ⟨(kb_ S jc_ qd_).1,(kb_ S jc_ qd_).2,S,G,X⟩ ⟨hE,rfl,hA.le (by omega),by unfold begB;rw[if_neg h6],hs⟩ rfl rfl
 intro g j hg
 refine kv ?_
 clear hX hn hA hE
 obtain⟨s,e,S1,G1,X1⟩:=g
 simp only at hg ⊢
 obtain⟨hE,hGb,hA,hbeg,hsl⟩:=hg
 rw[←hGb]
 clear hGb
 have hne:=aeJ_ e
 unfold aeN_
 rw[hbeg]
 simp only
 by_cases he:e=0
 ·rw[if_neg (by simpa using he)]
  rw[decide_eq_false (by simpa using he)] at hne
  first|with_reducible refine ks [1000010] (And.intro @qb_ @hne) ?_|refine kp (And.intro @qb_ @hne) ?_
  refine Ow.callC rfl rfl Tryz.call95 (fun w' hw'=>aam_ s w' (vz_ hC hE hw' hgx) hsl) (fun B2 v2 D2 hA2 hB2 hN2 hS2=> ?_)
  have hN2':=hN2.mono hB2
  unfold Kj_ at hS2
  cases hr:Qb_ s with
  |none=>
   rw[hr] at hS2
   subst hS2
   refine ko @qb_ ?_
   refine Ow.alloc rfl rfl adA_ fun b6 hb6 hw6=> ?_
   simp only[zg_,List.nil_append,List.cons_append]
   have k6:=fun o=>qs_ (o:=o) hb6
   have s6:=fun o x=>vW_ (o:=o) (x:=x) hb6
   have stz:=kP_ (.slice none 0 0) (.slice none 0 0) (.slice none 0 0) (.slice none 0 0) 73 rfl rfl
   have e2: ((2:Int) !=0)=true:=rfl
   refine ko (And.intro @qb_ (And.intro @k6 (And.intro @s6 (And.intro @stz (@xp_))))) ?_
   first|with_reducible refine ks [1000010] (And.intro @qb_ @e2) ?_|refine kp (And.intro @qb_ @e2) ?_
   refine⟨_,(ke @qb_), ?_⟩
   exact⟨(jO_ (jO_ hE hN2') ⟨hw6,trivial⟩),rfl,G1,rfl,(hA.le (by omega)).app.app⟩
  |some p=>
   obtain⟨tb,log,at_⟩:=p
   rw[hr] at hS2
   obtain⟨vt,vl,rfl,hgt,hgl⟩:=hS2
   refine ko @qb_ ?_
   refine Ow.alloc rfl rfl adA_ fun b6 hb6 hw6=> ?_
   simp only[zg_,List.nil_append,List.cons_append]
   have k6:=fun o=>qs_ (o:=o) hb6
   have s6:=fun o x=>vW_ (o:=o) (x:=x) hb6
   have stz:=kP_ (.slice none 0 0) (.slice none 0 0) vt vl 73 (wF_ hgt).1 (wF_ hgl).1
   have e2: ((0:Int) !=0)=false:=rfl
   refine ko (And.intro @qb_ (And.intro @k6 (And.intro @s6 (And.intro @stz (@xp_))))) ?_
   first|with_reducible refine ks [1000010] (And.intro @qb_ @e2) ?_|refine kp (And.intro @qb_ @e2) ?_
   have hN6:New w.heap.size (D2++ [(b6,Obj.cells #[vt,vl] 73 (0,0))]):=hN2'.app ⟨hw6,trivial⟩
   refine Cw.permL (M:=X1++ (D2++ [(b6, .cells #[vt,vl] 73 (0,0))])) (by classical exact List.perm_iff_count.2 fun a=>by simp only[List.count_append,List.count_cons,List.count_nil]<;>omega) ?_
   have hE6:Ext w X (X1++ (D2++ [(b6,Obj.cells #[vt,vl] 73 (0,0))])):=jO_ hE hN6
   refine Cw.cutO (G:=BnG) [9,38,39,40,41,42,43,44,45,46,47,48,49] (fun g=> []) (fun g=>g.X++ (D2++ [(b6, .cells #[vt,vl] 73 (0,0))])) (fun g=>Ext w X (g.X++ (D2++ [(b6,Obj.cells #[vt,vl] 73 (0,0))]))∧g.G.bd=G1.bd∧DkA g.X g.G g.S (N+84)∧(if at_<s.length then pubV S1 jc_ qd_ (s.take at_) false else(0,S1))=(0,g.S)) ?_ ?_
   ·by_cases hat:at_<s.length
    ·have dat:decide ((at_:Int)< (s.length:Int))=true:=decide_eq_true (by omega)
     have htl: (s.take at_).length<1000000:=by rw[List.length_take];omega
     first|with_reducible refine ks [] (And.intro @qb_ @dat) ?_|refine kp (And.intro @qb_ @dat) ?_
     refine Ow.callX (X:=X1) (Y:=D2++ [(b6, .cells #[vt,vl] 73 (0,0))]) rfl rfl rfl Tryz.call87 (fun w' hw' hX' hn'=>J0_ X1 G1 S1 (N+42) jc_ qd_ (s.take at_) w' hX' hn' hA (by omega) (by decide) (by omega)) (fun v7 D7 hC7 hS7=> ?_)
     obtain⟨q,hqe⟩: ∃q,q=pubV S1 jc_ qd_ (s.take at_) false:=⟨_,rfl⟩
     rw[←hqe] at hS7
     have he:q.1≠0→endB S1 s (tb,log,at_)=(none,q):=fun h0=>by
      unfold endB
      simp only[if_pos hat]
      rw[←hqe,if_pos h0]
     have hJ: (if at_<s.length then pubV S1 jc_ qd_ (s.take at_) false else(0,S1))=q:=by rw[if_pos hat,hqe]
     clear hqe
     obtain⟨qe,qs⟩:=q
     obtain⟨rfl,G7,hb7,hA7⟩:=hS7
     simp only at he hA7 ⊢
     have hE7:=hE6.came hC7
     have hn7:=aeJ_ qe
     by_cases h0:qe=0
     ·rw[decide_eq_false (by simpa using h0)] at hn7
      refine ko (And.intro @qb_ @hn7) ?_
      first|with_reducible refine ks [] (And.intro @qb_ @hn7) ?_|refine kp (And.intro @qb_ @hn7) ?_
      exact CutO.mk ⟨[],0,qs,G7,D7⟩ ⟨hE7,hb7,hA7,by rw[hJ,h0]⟩ rfl rfl
     ·rw[decide_eq_true h0] at hn7
      refine ko (And.intro @qb_ @hn7) ?_
      first|with_reducible refine ks [] (And.intro @qb_ @hn7) ?_|refine kp (And.intro @qb_ @hn7) ?_
      refine⟨_,(ke @qb_), ?_⟩
      refine⟨hE7, ?_⟩
      rw[he h0]
      exact⟨rfl,G7,hb7,hA7.app⟩
    ·have dat:decide ((at_:Int)< (s.length:Int))=false:=decide_eq_false (by omega)
     first|with_reducible refine ks [] (And.intro @qb_ @dat) ?_|refine kp (And.intro @qb_ @dat) ?_
     exact CutO.mk ⟨[],0,S1,G1,X1⟩ ⟨hE6,rfl,hA.le (by omega),by rw[if_neg hat]⟩ rfl rfl
   intro g j hg
   refine kv ?_
   clear hE hE6 hA
   obtain⟨s3,e3,S3,G3,X3⟩:=g
   simp only at hg ⊢
   obtain⟨hE,hGb,hA,hq⟩:=hg
   rw[←hGb]
   clear hGb
   have heb:endB S1 s (tb,log,at_)=if(je_ S3 jc_ qd_).2≠0 then(none,(je_ S3 jc_ qd_).2,(je_ S3 jc_ qd_).1) else(some ⟨tb,log,log.length⟩,0,(je_ S3 jc_ qd_).1):=by
    unfold endB
    simp only[hq]
    rw[if_neg (by simp)]
   rw[heb]
   refine Cw.world fun wz hwz=> ?_
   have r6:zs_ w (X3++ (D2++ [(b6,Obj.cells #[vt,vl] 73 (0,0))])) b6=some (.cells #[vt,vl] 73 (0,0)):=zb_ (jl_ hwz.nodup (by simp))
   clear hwz wz
   first|with_reducible refine ks [] (And.intro @qb_ @r6) ?_|refine kp (And.intro @qb_ @r6) ?_
   refine Ow.build (.agg #[vp G3.bd 0,vt,vl,vi 0]) rfl (aed_ G3.bd 0 vt vl) ?_
   refine ko @qb_ ?_
   refine Ow.box rfl rfl fun bo hbo hwo=> ?_
   simp only[qf_,z5_,qe_,zg_]
   refine Ow.permL (M:=(bo, .cells #[vp G3.bd 0,vt,vl,vi 0] 151 (0,0)):: (X3++ (D2++ [(b6, .cells #[vt,vl] 73 (0,0))]))) (by classical exact List.perm_iff_count.2 fun a=>by simp only[List.count_append,List.count_cons,List.count_nil]<;>omega) ?_
   have hEo:Ext w X ((bo, .cells #[vp G3.bd 0,vt,vl,vi 0] 151 (0,0)):: (X3++ (D2++ [(b6, .cells #[vt,vl] 73 (0,0))]))):=(jO_ hE (E:= [(bo,Obj.cells #[vp G3.bd 0,vt,vl,vi 0] 151 (0,0))]) ⟨hwo,trivial⟩).perm (by classical exact List.perm_iff_count.2 fun a=>by simp only[List.count_append,List.count_cons,List.count_nil]<;>omega)
   have hPo:BoP bo G3.bd S3 (N+84) ⟨tb,log,0⟩ ((bo, .cells #[vp G3.bd 0,vt,vl,vi 0] 151 (0,0)):: (X3++ (D2++ [(b6, .cells #[vt,vl] 73 (0,0))]))):=⟨G3,vt,vl,X3,D2++ [(b6, .cells #[vt,vl] 73 (0,0))],rfl,⟨List.Perm.refl _,hA,hgt.mono fun p hp=>List.mem_append_left _ hp,hgl.mono fun p hp=>List.mem_append_left _ hp⟩⟩
   generalize (bo,Obj.cells #[vp G3.bd 0,vt,vl,vi 0] 151 (0,0)):: (X3++ (D2++ [(b6, .cells #[vt,vl] 73 (0,0))]))=L0 at*
   refine ko @qb_ ?_
   first|with_reducible refine ks [] @qb_ ?_|refine kp @qb_ ?_
   refine Ow.callX (X:=L0) (Y:= []) (List.append_nil _).symm rfl rfl Tryz.call42 (fun w' hw' hX' hn'=>Qf_ bo G3.bd S3 (N+84) ⟨tb,log,0⟩ L0 w' hX' hn' hPo) (fun v5 D5 hC5 hS5=> ?_)
   rw[List.append_nil]
   have hE5:=hEo.came0 hC5
   by_cases h5: (je_ S3 jc_ qd_).2=0
   ·have hsb:vf_ S3 ⟨tb,log,0⟩=(0,(je_ S3 jc_ qd_).1,⟨tb,log,log.length⟩):=by
     unfold vf_
     rw[if_neg (by simpa using h5)]
    rw[hsb] at hS5
    obtain⟨rfl,hP5⟩:=hS5
    rw[if_neg (by simpa using h5)]
    have e0: (((0:Nat):Int) !=0)=false:=rfl
    refine ko (And.intro @qb_ @e0) ?_
    first|with_reducible refine ks [] (And.intro @qb_ @e0) ?_|refine kp (And.intro @qb_ @e0) ?_
    refine⟨_,(ke @qb_), ?_⟩
    exact⟨hE5,bo,rfl,hP5⟩
   ·have hsb:vf_ S3 ⟨tb,log,0⟩=((je_ S3 jc_ qd_).2,(je_ S3 jc_ qd_).1,⟨tb,log,0⟩):=by
     unfold vf_
     rw[if_pos h5]
    rw[hsb] at hS5
    obtain⟨rfl,hP5⟩:=hS5
    rw[if_pos h5]
    refine Ow.world fun wz hwz=> ?_
    have hnd5:=hwz.nodup
    clear hwz wz
    have hn5:=aeJ_ (je_ S3 jc_ qd_).2
    rw[decide_eq_true h5] at hn5
    refine ko (And.intro @qb_ @hn5) ?_
    first|with_reducible refine ks [] (And.intro @qb_ @hn5) ?_|refine kp (And.intro @qb_ @hn5) ?_
    refine⟨_,(ke @qb_), ?_⟩
    exact⟨hE5,rfl,hP5.dk hnd5⟩
 ·rw[if_pos he]
  rw[decide_eq_true he] at hne
  first|with_reducible refine ks [1000010] (And.intro @qb_ @hne) ?_|refine kp (And.intro @qb_ @hne) ?_
  refine⟨_,(ke @qb_), ?_⟩
  exact⟨hE,rfl,G1,rfl,hA.le (by omega)⟩
end Go.Proofs
end
section
open Go Go.Proofs Go.Sx Go.StP Go.RefP
namespace Go.Proofs
set_option maxRecDepth 10000
set_option maxHeartbeats 1000000
set_option linter.unusedSimpArgs false
def Wd_ (S:DiskL) (B:BkL) (nm:List UInt8) (old id:IdL):Nat×DiskL×BkL:=
 if xM_ B.t B.l nm≠old.l then(12,S,B) else
 if¬ (qj_ B.t B.l=true∧zP_ nm=true) then(1,S,B) else
 if qj_ B.t (B.l++ [⟨nm,id⟩])=false then(18,S,B) else
 if(qD_ S jc_ qd_ (zO_ (qI_ ⟨nm,id⟩))).2≠0 then((qD_ S jc_ qd_ (zO_ (qI_ ⟨nm,id⟩))).2,(qD_ S jc_ qd_ (zO_ (qI_ ⟨nm,id⟩))).1,B) else
 (0,(qD_ S jc_ qd_ (zO_ (qI_ ⟨nm,id⟩))).1,{B with l:=B.l++ [⟨nm,id⟩]})
theorem ami_ (l l':List UInt8) (h:l.length=32∧l'.length=32):qy_ Tryz.prog .neq 24 (.agg (a8 l)) (.agg (a8 l'))=some (.bool (!(l==l'))):=
 af8_ Tryz.underlying24 Tryz.underlying5 Tryz.ag5 (by kernel_rfl) l l' h
theorem DkA.app2 {X X':za_} {G G':DkG} {S:DiskL} {N:Nat} {nm s:List UInt8} (h:DkA X G S N) (hP:DkP X' G' (qD_ S jc_ nm s).1):DkA X' G' (qD_ S jc_ nm s).1 N:=⟨hP,WE_ h.H _ _ _,acp_ h.B _ _ _⟩
theorem AddS.form {n:Nat} {t l:List RefL} {nm:List UInt8} {id:IdL} {v:Value} {D:za_} (h:AddS n t l nm id v D): ∃va vb s,∃e:Nat,v= .tuple #[.agg #[va,vb],vs s,vi (e:Nat)]∧Value.oneCell' va=true∧Value.oneCell' vb=true∧
  ((¬ (qj_ t l=true∧zP_ nm=true)∧e=1)∨((qj_ t l=true∧zP_ nm=true)∧qj_ t (l++ [⟨nm,id⟩])=false∧e=18)∨
   ((qj_ t l=true∧zP_ nm=true)∧qj_ t (l++ [⟨nm,id⟩])=true∧e=0∧s=zO_ (qI_ ⟨nm,id⟩)∧GrI D 149 33 va t.length (t.map zH_).flatten∧GrI D 149 33 vb (l++ [(⟨nm,id⟩:RefL)]).length ((l++ [(⟨nm,id⟩:RefL)]).map zH_).flatten)):=by
 unfold AddS at h
 by_cases hr:qj_ t l=true∧zP_ nm=true
 ·rw[if_pos hr] at h
  by_cases h2:qj_ t (l++ [⟨nm,id⟩])=true
  ·rw[if_pos h2] at h
   obtain⟨vt,vl,rfl,h3,h4⟩:=h
   exact⟨vt,vl,_,0,rfl,(wF_ h3).1,(wF_ h4).1, .inr (.inr ⟨hr,h2,rfl,rfl,h3,by rw[List.length_append];exact h4⟩)⟩
  ·rw[if_neg h2] at h
   exact⟨_,_,_,18,h,rfl,rfl, .inr (.inl ⟨hr,by simpa using h2,rfl⟩)⟩
 ·rw[if_neg hr] at h
  exact⟨_,_,_,1,h,rfl,rfl, .inl ⟨hr,rfl⟩⟩
theorem aew_ {r:RefL} (h:r.name.length<1000000): (zO_ (qI_ r)).length<1001000:=by
 have h1:=zE_ (r.name.length:Int)
 have h2:=r.id.h
 have h3:=zE_ ((xD_ (qI_ r)).length:Int)
 have h4:=v7_ (qI_ r)
 simp only[zO_,xa_,List.length_append] at h3 ⊢
 rw[h4] at h3 ⊢
 simp only[qI_,xa_,List.length_append,List.length_cons,List.length_nil] at h3 ⊢
 omega
theorem alY_ {n:Nat} {E:za_} {o:Obj} {Q:Nat→Prop} (h:E= []∨ ∃b,E= [(b,o)]∧n≤b∧Q b):New n E:=by
 rcases h with rfl| ⟨b,rfl,h,-⟩
 ·trivial
 ·exact⟨h,trivial⟩
set_option linter.defProp false
def q7_:=And.intro (And.intro (And.intro (And.intro (@zw_) (@zv_)) (And.intro (@Sx.tup2_0) (@Sx.tup2_1))) (And.intro (And.intro (@tup3_0) (@tup3_1)) (And.intro (@tup3_2) (@aij_)))) (And.intro (And.intro (And.intro (@ajQ_) (@aiv_)) (And.intro (@aik_) (@ajN_))) (And.intro (And.intro (@ai6_) (@k4_)) (And.intro (@agB_) (And.intro (@ami_) (@agz_)))))
theorem vR_ (bo bd:Nat) (S:DiskL) (N:Nat) (B:BkL) (nm:List UInt8) (old id:IdL) (X:za_) (w:World) (hX: ∀p,p∈X→w.heap[p.1]? =some p.2) (hn: (keys X).Nodup) (hP:BoP bo bd S N B X) (hN:N<600000) (hC:GlobC w) (hgx: (4:Nat)∉keys X)
  (htl:B.t.length<1000) (hll:B.l.length<1000) (hnt:jo_ B.t) (hnl:jo_ B.l) (hnm:nm.length<1000000):
  Rets Tryz.prog 41 #[vp bo 0,vs nm, .agg (a8 old.l), .agg (a8 id.l)] w (XS w X (fun v D=>v=vi ((Wd_ S B nm old id).1:Nat)∧BoP bo bd (Wd_ S B nm old id).2.1 N (Wd_ S B nm old id).2.2 D)):=by
 have hP0:=hP
 obtain⟨G,vt,vl,D,K,rfl,hA⟩:=hP
 have hold:=old.h
 have hid:=id.h
 have hvl:=wI_ B.t B.l nm
 have hp0:X.Perm (D++ ((bo,Obj.cells #[vp G.bd 0,vt,vl,vi (B.n:Nat)] 151 (0,0))::K)):=hA.perm.trans (by classical exact List.perm_iff_count.2 fun a=>by simp only[List.count_append,List.count_cons,List.count_nil]<;>omega)
 refine Rets.enterX Tryz.func41 rfl (rs:= [.tmp 8]) Tryz.results41 Tryz.ntmps41 hX hn ?_
 refine kf ?_
 first|with_reducible refine ks [] @q7_ ?_|refine kp @q7_ ?_
 refine Ow.box rfl rfl fun b6 hb6 hw6=> ?_
 simp only[qf_,z5_,qe_,zg_]
 refine ko @q7_ ?_
 refine Ow.box rfl rfl fun b7 hb7 hw7=> ?_
 simp only[qf_,z5_,qe_,zg_]
 have hpL: (X++ [(b6,Obj.cells (a8 old.l) 24 (0,0))]++ [(b7,Obj.cells (a8 id.l) 24 (0,0))]).Perm ((b7, .cells (a8 id.l) 24 (0,0)):: (b6, .cells (a8 old.l) 24 (0,0)):: (bo, .cells #[vp G.bd 0,vt,vl,vi (B.n:Nat)] 151 (0,0)):: (D++K)):=((hA.perm.append_right _).append_right _).trans (by classical exact List.perm_iff_count.2 fun a=>by simp only[List.count_append,List.count_cons,List.count_nil]<;>omega)
 refine Ow.permL hpL.symm ?_
 refine Ow.world fun wz hwz=> ?_
 have hnd:=hwz.nodup
 clear hwz wz
 have hne:b7≠b6∧b7≠bo∧b6≠bo∧b7∉keys K∧b6∉keys K∧b7∉keys D∧b6∉keys D:=by
  simp only[keys,List.map_cons,List.map_append,List.nodup_cons,List.mem_cons,List.mem_append,not_or] at hnd ⊢
  exact⟨hnd.1.1,hnd.1.2.1,hnd.2.1.1,hnd.1.2.2.2,hnd.2.1.2.2,hnd.1.2.2.1,hnd.2.1.2.1⟩
 obtain⟨hn1,hn2,hn3,hn4,hn5,hn6,hn7⟩:=hne
 refine ko @q7_ ?_
 first|with_reducible refine ks [] @q7_ ?_|refine kp @q7_ ?_
 have hPW: ∀w' L',Hp w L' w'→(∀p,p∈ ((bo,Obj.cells #[vp G.bd 0,vt,vl,vi (B.n:Nat)] 151 (0,0)):: (D++K))→p∈L')→BoW w' bo G.bd B:=fun w' L' hw' hL'=>hP0.W fun b o hm=>hw'.has b o (hL' _ (hA.perm.mem_iff.1 hm))
 unfold Wd_
 refine Cw.regionS [b6] [0,1,3,2,4,5] [] (by kernel_rfl) (by kernel_rfl) (by kernel_rfl) ?_
 simp only[zI_, ↓zr_, ↓zk_, ↓z0_, ↓zZ_,zl_]
 refine kq @q7_ ?_
 refine Ow.soft rfl rfl rfl ?_
 refine Ow.callC rfl rfl Tryz.call40 (fun w' hw'=>wV_ bo G.bd B nm w' (hPW w' _ hw' (fun p hp=>List.mem_cons_of_mem _ (List.mem_cons_of_mem _ hp))) (by omega) (by omega) hnt hnl) (fun B1 v1 D1 hA1 hB1 hN1 hS1=> ?_)
 subst hS1
 have hN1':=hN1.mono hB1
 with_reducible refine Ow.nil ?_
 refine⟨qg_ (fun b hb=>by rw[List.mem_singleton.1 hb];simp[keys]), ?_⟩
 have hle: (xM_ B.t B.l nm).length=32∧old.l.length=32:=⟨hvl,hold⟩
 refine kq @q7_ ?_
 have hE0:Ext w X ((b7, .cells (a8 id.l) 24 (0,0)):: (b6, .cells (a8 old.l) 24 (0,0)):: (bo, .cells #[vp G.bd 0,vt,vl,vi (B.n:Nat)] 151 (0,0)):: (D++K)):=(jO_ (jO_ (Ext.refl w X) (E:= [(b6,Obj.cells (a8 old.l) 24 (0,0))]) ⟨hw6,trivial⟩) (E:= [(b7,Obj.cells (a8 id.l) 24 (0,0))]) ⟨hw7,trivial⟩).perm hpL.symm
 have hE1:=jO_ hE0 hN1'
 by_cases hve:xM_ B.t B.l nm=old.l
 ·have hb: (!(xM_ B.t B.l nm==old.l))=false:=by rw[hve];simp
  rw[if_neg (by simpa using hve)]
  first|with_reducible refine ks [] (And.intro @q7_ @hb) ?_|refine kp (And.intro @q7_ @hb) ?_
  have hE2:Ext w X ((b7, .cells (a8 id.l) 24 (0,0)):: (b6, .cells (a8 old.l) 24 (0,0)):: (bo, .cells #[vp G.bd 0,vt,vl,vi (B.n:Nat)] 151 (0,0)):: (D++K++D1)):=hE1.perm (by classical exact List.perm_iff_count.2 fun a=>by simp only[List.count_append,List.count_cons,List.count_nil]<;>omega)
  have hm7: (b7,Obj.cells (a8 id.l) 24 (0,0))∈ (b7,Obj.cells (a8 id.l) 24 (0,0)):: (b6, .cells (a8 old.l) 24 (0,0)):: (bo, .cells #[vp G.bd 0,vt,vl,vi (B.n:Nat)] 151 (0,0)):: (D++K++D1):=by simp
  have hmo: (bo,Obj.cells #[vp G.bd 0,vt,vl,vi (B.n:Nat)] 151 (0,0))∈ (b7,Obj.cells (a8 id.l) 24 (0,0)):: (b6, .cells (a8 old.l) 24 (0,0)):: (bo, .cells #[vp G.bd 0,vt,vl,vi (B.n:Nat)] 151 (0,0)):: (D++K++D1):=by simp
  have hmK: ∀p,p∈K→p∈ (b7,Obj.cells (a8 id.l) 24 (0,0)):: (b6, .cells (a8 old.l) 24 (0,0)):: (bo, .cells #[vp G.bd 0,vt,vl,vi (B.n:Nat)] 151 (0,0)):: (D++K++D1):=fun p hp=>by simp[hp]
  have hpL0: ((b7,Obj.cells (a8 id.l) 24 (0,0)):: (b6, .cells (a8 old.l) 24 (0,0)):: (bo, .cells #[vp G.bd 0,vt,vl,vi (B.n:Nat)] 151 (0,0)):: (D++K++D1)).Perm ((bo, .cells #[vp G.bd 0,vt,vl,vi (B.n:Nat)] 151 (0,0)):: (D++ (K++ ((b7, .cells (a8 id.l) 24 (0,0)):: (b6, .cells (a8 old.l) 24 (0,0))::D1)))):=(by classical exact List.perm_iff_count.2 fun a=>by simp only[List.count_append,List.count_cons,List.count_nil]<;>omega)
  refine Cw.world fun wz hwz=> ?_
  have hnd0:=hwz.nodup
  clear hwz wz
  generalize (b7,Obj.cells (a8 id.l) 24 (0,0)):: (b6, .cells (a8 old.l) 24 (0,0)):: (bo, .cells #[vp G.bd 0,vt,vl,vi (B.n:Nat)] 151 (0,0)):: (D++K++D1)=L0 at*
  have r7:zs_ w L0 b7=some (.cells (a8 id.l) 24 (0,0)):=zb_ (jl_ hnd0 hm7)
  have ro:zs_ w L0 bo=some (.cells #[vp G.bd 0,vt,vl,vi (B.n:Nat)] 151 (0,0)):=zb_ (jl_ hnd0 hmo)
  have hk7:b7∈keys L0:=List.mem_map_of_mem hm7
  have hko:bo∈keys L0:=List.mem_map_of_mem hmo
  refine Cw.regionD [bo,b7] [12] 11 9 73 14 _ rfl (by kernel_rfl) (by kernel_rfl) rfl (by kernel_rfl) adA_ (fun hD=> ?_)
  simp only[List.replicate_succ,List.replicate_zero]
  refine OwD.run [0,1,2,3,4,5] [true,true,true,true,true,true,false,false,false,false,false,false,false,false,false] 8 rfl hD (by kernel_rfl) fun k hk=> ?_
  simp only[zI_, ↓zr_, ↓zk_, ↓z0_, ↓zZ_,zl_]
  simp(disch:=(first|assumption|omega| (simp only[qP_,qM_,UInt64.reduceToNat];try omega))) only[↓Sx.S0,Sx.S1,Tryz.fx,q7_,Nat.reduceAdd,Nat.reducePow,Int.reducePow,Nat.reduceBEq, ↓reduceIte,UInt8.reduceToNat,UInt16.reduceToNat,UInt32.reduceToNat,UInt64.reduceToNat,Int.reduceToNat,Md.next_sofnil,ro,r7]
  (with_reducible refine hk _ _ _ ?_);clear hk k
  refine OwD.soft 6 _ hD rfl (by kernel_rfl) (fun E hE6=> ?_)
  have hEE:=jO_ hE2 (alY_ hE6)
  have hmE: ∀p,p∈K→p∈L0++E:=fun p hp=>List.mem_append_left _ (hmK p hp)
  refine Ow.callC rfl rfl Tryz.call83 (fun w' hw'=>agw_ vt vl B.t B.l nm id w' (vz_ hC hEE hw' hgx) (wX_ hA.t fun b o hm=>hw'.has b o (hmE _ hm)) (wX_ hA.l fun b o hm=>hw'.has b o (hmE _ hm)) htl hll hnt hnl hnm) (fun B3 v3 D3 hA3 hB3 hN3 hS3=> ?_)
  have hN3':=hN3.mono hB3
  obtain⟨va,vb,s,e,rfl,ho1,ho2,hcs⟩:=AddS.form (n:=0) hS3
  with_reducible refine Ow.nil ?_
  refine⟨_,j8_,qg_ (fun r hr=>by simp only[List.mem_cons,List.not_mem_nil,or_false] at hr;rcases hr with rfl|rfl;exact hko;exact hk7), ?_⟩
  simp only[List.set_cons_zero,List.set_cons_succ,qc_,jF_,jG_]
  refine OwD.run [7,8,9,10] [true,true,true,true,true,true,true,true,true,true,true,false,false,false,false] 3 rfl hD (by kernel_rfl) fun k hk=> ?_
  simp only[zI_, ↓zr_, ↓zk_, ↓z0_, ↓zZ_,zl_]
  simp(disch:=(first|assumption|omega| (simp only[qP_,qM_,UInt64.reduceToNat];try omega))) only[↓Sx.S0,Sx.S1,Tryz.fx,q7_,Nat.reduceAdd,Nat.reducePow,Int.reducePow,Nat.reduceBEq, ↓reduceIte,UInt8.reduceToNat,UInt16.reduceToNat,UInt32.reduceToNat,UInt64.reduceToNat,Int.reduceToNat,Md.next_sofnil,tup3_0,tup3_1,tup3_2]
  (with_reducible refine hk _ _ _ ?_);clear hk k
  refine OwD.real [12,13,14] rfl hD (by kernel_rfl) (by kernel_rfl) (by kernel_rfl) (by kernel_rfl) (fun r hr=>by simp only[List.mem_cons,List.not_mem_nil,or_false] at hr;rw[zc_];rcases hr with rfl|rfl;exact .inl (List.mem_append_left _ hko);exact .inl (List.mem_append_left _ hk7)) ?_
  simp only[zI_, ↓zr_, ↓zk_, ↓z0_, ↓zZ_,zl_]
  intro b9 hw9 hbL
  simp only[jF_,jG_]
  refine Ow.store rfl rfl rfl (L':=L0++D3++ [(b9, .cells #[va,vb] 73 (0,0))]) ?_ ?_
  ·simp only[qf_,z5_,qe_]
   have hst:zz_ (some (true,2)) (some (Obj.cells (Value.cells (.agg #[.slice none 0 0, .slice none 0 0])) 73 (0,0))) 0 (.agg #[va,vb])=some (.cells #[va,vb] 73 (0,0)):=by
    rw[zg_];exact kP_ _ _ _ _ _ ho1 ho2
   rw[Tryz.ag73,kL_,vq_ hbL,hst,wb_,wz_ hbL]
   exact []
  have hp9: (L0++D3++ [(b9,Obj.cells #[va,vb] 73 (0,0))]).Perm ((bo, .cells #[vp G.bd 0,vt,vl,vi (B.n:Nat)] 151 (0,0)):: (b9, .cells #[va,vb] 73 (0,0)):: (D++ (K++ (((b7, .cells (a8 id.l) 24 (0,0)):: (b6, .cells (a8 old.l) 24 (0,0))::D1)++D3)))):=((hpL0.append_right _).append_right _).trans (by classical exact List.perm_iff_count.2 fun a=>by simp only[List.count_append,List.count_cons,List.count_nil]<;>omega)
  have hE9:=(jO_ (jO_ hE2 hN3') (E:= [(b9,Obj.cells #[va,vb] 73 (0,0))]) ⟨hw9,trivial⟩).perm hp9.symm
  have hgD: ∀p,p∈D3→p∈ ((b7,Obj.cells (a8 id.l) 24 (0,0)):: (b6, .cells (a8 old.l) 24 (0,0))::D1)++D3:=fun p hp=>List.mem_append_right _ hp
  generalize ((b7,Obj.cells (a8 id.l) 24 (0,0)):: (b6, .cells (a8 old.l) 24 (0,0))::D1)++D3=R0 at hp9 hE9 hgD
  have hb9:bo≠b9:=fun e=>hbL (by rw[zc_];exact List.mem_append_left _ (e▸hko))
  have ro9:zs_ w (L0++D3++ [(b9,Obj.cells #[va,vb] 73 (0,0))]) bo=some (.cells #[vp G.bd 0,vt,vl,vi (B.n:Nat)] 151 (0,0)):=by
   rw[List.append_assoc,xh_ hko];exact ro
  rcases hcs with⟨hr,rfl⟩ | ⟨hr,h2,rfl⟩ | ⟨hr,h2,rfl,rfl,hga,hgb⟩
  ·have e1: (((1:Nat):Int) !=0)=true:=rfl
   rw[if_pos hr]
   refine ko (And.intro @q7_ @e1) ?_
   first|with_reducible refine ks [] (And.intro @q7_ @e1) ?_|refine kp (And.intro @q7_ @e1) ?_
   refine⟨_,(ke @q7_), ?_⟩
   exact⟨hE9.perm hp9,rfl,G,vt,vl,D,(b9, .cells #[va,vb] 73 (0,0)):: (K++R0),rfl,⟨hp9.trans (by classical exact List.perm_iff_count.2 fun a=>by simp only[List.count_append,List.count_cons,List.count_nil]<;>omega),hA.D,hA.t.mono fun p hp=>List.mem_cons_of_mem _ (List.mem_append_left _ hp),hA.l.mono fun p hp=>List.mem_cons_of_mem _ (List.mem_append_left _ hp)⟩⟩
  ·have e1: (((18:Nat):Int) !=0)=true:=rfl
   rw[if_neg (by simpa using hr),if_pos h2]
   refine ko (And.intro @q7_ @e1) ?_
   first|with_reducible refine ks [] (And.intro @q7_ @e1) ?_|refine kp (And.intro @q7_ @e1) ?_
   refine⟨_,(ke @q7_), ?_⟩
   exact⟨hE9.perm hp9,rfl,G,vt,vl,D,(b9, .cells #[va,vb] 73 (0,0)):: (K++R0),rfl,⟨hp9.trans (by classical exact List.perm_iff_count.2 fun a=>by simp only[List.count_append,List.count_cons,List.count_nil]<;>omega),hA.D,hA.t.mono fun p hp=>List.mem_cons_of_mem _ (List.mem_append_left _ hp),hA.l.mono fun p hp=>List.mem_cons_of_mem _ (List.mem_append_left _ hp)⟩⟩
  ·have e1: (((0:Nat):Int) !=0)=false:=rfl
   rw[if_neg (by simpa using hr),if_neg (by rw[h2];decide)]
   refine ko (And.intro @q7_ (And.intro @e1 (@ro9))) ?_
   first|with_reducible refine ks [] (And.intro @q7_ (And.intro @e1 (@ro9))) ?_|refine kp (And.intro @q7_ (And.intro @e1 (@ro9))) ?_
   have hpa: (D++ ((bo,Obj.cells #[vp G.bd 0,vt,vl,vi (B.n:Nat)] 151 (0,0)):: (b9, .cells #[va,vb] 73 (0,0)):: (K++R0))).Perm ((bo, .cells #[vp G.bd 0,vt,vl,vi (B.n:Nat)] 151 (0,0)):: (b9, .cells #[va,vb] 73 (0,0)):: (D++ (K++R0))):=(by classical exact List.perm_iff_count.2 fun a=>by simp only[List.count_append,List.count_cons,List.count_nil]<;>omega)
   refine Ow.permL (hpa.trans hp9.symm) ?_
   have hrl:=aew_ (r:=⟨nm,id⟩) hnm
   refine Ow.callX (X:=D) (Y:=(bo, .cells #[vp G.bd 0,vt,vl,vi (B.n:Nat)] 151 (0,0)):: (b9, .cells #[va,vb] 73 (0,0)):: (K++R0)) rfl rfl rfl Tryz.call84 (fun w' hw' hX' hn'=>wR_ D G S jc_ qd_ (zO_ (qI_ ⟨nm,id⟩)) w' hX' hn' hA.D.P (by decide) (by omega) (hA.D.used (by omega))) (fun v5 D5 hC5 hS5=> ?_)
   obtain⟨rfl,hP5⟩:=hS5
   have hA5:=hA.D.app2 hP5
   have hE5:=(hE9.perm hpa).came hC5
   have hpb: (D5++ ((bo,Obj.cells #[vp G.bd 0,vt,vl,vi (B.n:Nat)] 151 (0,0)):: (b9, .cells #[va,vb] 73 (0,0)):: (K++R0))).Perm ((bo, .cells #[vp G.bd 0,vt,vl,vi (B.n:Nat)] 151 (0,0)):: (b9, .cells #[va,vb] 73 (0,0)):: (D5++ (K++R0))):=(by classical exact List.perm_iff_count.2 fun a=>by simp only[List.count_append,List.count_cons,List.count_nil]<;>omega)
   refine Ow.permL hpb.symm ?_
   have hE6:=hE5.perm hpb.symm
   have hn5:=aeJ_ (qD_ S jc_ qd_ (zO_ (qI_ ⟨nm,id⟩))).2
   by_cases h0: (qD_ S jc_ qd_ (zO_ (qI_ ⟨nm,id⟩))).2=0
   ·rw[if_neg (by simpa using h0)]
    rw[decide_eq_false (by simpa using h0)] at hn5
    have st:=alo_ (vp G.bd 0) vt vl (vi (B.n:Nat)) va vb 151 ho1 ho2
    refine ko (And.intro @q7_ @hn5) ?_
    first|with_reducible refine ks [] (And.intro @q7_ (And.intro @hn5 (@st))) ?_|refine kp (And.intro @q7_ (And.intro @hn5 (@st))) ?_
    refine⟨_,(ke @q7_), ?_⟩
    have hE7:Ext w X ((bo, .cells #[vp G.bd 0,va,vb,vi (B.n:Nat)] 151 (0,0)):: (b9, .cells #[va,vb] 73 (0,0)):: (D5++ (K++R0))):=hE6.keys rfl
    exact⟨hE7,rfl,G,va,vb,D5,(b9, .cells #[va,vb] 73 (0,0)):: (K++R0),rfl,⟨(by classical exact List.perm_iff_count.2 fun a=>by simp only[List.count_append,List.count_cons,List.count_nil]<;>omega),hA5,hga.mono fun p hp=>List.mem_cons_of_mem _ (List.mem_append_right _ (hgD p hp)),hgb.mono fun p hp=>List.mem_cons_of_mem _ (List.mem_append_right _ (hgD p hp))⟩⟩
   ·rw[if_pos h0]
    rw[decide_eq_true h0] at hn5
    refine ko (And.intro @q7_ @hn5) ?_
    first|with_reducible refine ks [] (And.intro @q7_ @hn5) ?_|refine kp (And.intro @q7_ @hn5) ?_
    refine⟨_,(ke @q7_), ?_⟩
    exact⟨hE6,rfl,G,vt,vl,D5,(b9, .cells #[va,vb] 73 (0,0)):: (K++R0),rfl,⟨(by classical exact List.perm_iff_count.2 fun a=>by simp only[List.count_append,List.count_cons,List.count_nil]<;>omega),hA5,hA.t.mono fun p hp=>List.mem_cons_of_mem _ (List.mem_append_left _ hp),hA.l.mono fun p hp=>List.mem_cons_of_mem _ (List.mem_append_left _ hp)⟩⟩
 ·have hb: (!(xM_ B.t B.l nm==old.l))=true:=by simpa using hve
  rw[if_pos hve]
  first|with_reducible refine ks [] (And.intro @q7_ @hb) ?_|refine kp (And.intro @q7_ @hb) ?_
  refine⟨_,(ke @q7_), ?_⟩
  exact⟨hE1,rfl,G,vt,vl,D,K++ ((b7, .cells (a8 id.l) 24 (0,0)):: (b6, .cells (a8 old.l) 24 (0,0))::D1),rfl,⟨(by classical exact List.perm_iff_count.2 fun a=>by simp only[List.count_append,List.count_cons,List.count_nil]<;>omega),hA.D,hA.t.mono fun p hp=>List.mem_append_left _ hp,hA.l.mono fun p hp=>List.mem_append_left _ hp⟩⟩
end Go.Proofs
end
section
open Go Go.Proofs Go.Sx Go.StP Go.RefP
namespace Go.Proofs
set_option maxRecDepth 10000
set_option maxHeartbeats 1000000
set_option linter.unusedSimpArgs false
def mainN:List UInt8:= [109,97,105,110]
def idO (k:UInt8):IdL:=⟨k::List.replicate 31 0,rfl⟩
def ka0:DiskL:=newD 1000
def ka1:DiskL:=(aeN_ ka0).2.2
def kb1:BkL:=⟨[],[],0⟩
def ka2:DiskL:=(Wd_ ka1 kb1 mainN (idO 0) (idO 1)).2.1
def kb2:BkL:=⟨[],[⟨mainN,idO 1⟩],0⟩
def ka3:DiskL:=(vf_ ka2 kb2).2.1
def kb3:BkL:=⟨[],[⟨mainN,idO 1⟩],1⟩
def ka4:DiskL:=Z2_ ka3 []
theorem alq_: (kb_ ka0 jc_ qd_).1.length<1000000:=by decide+kernel
theorem aly_: (aeN_ ka0).1=some kb1:=by kernel_rfl
theorem alJ_:Wd_ ka1 kb1 mainN (idO 0) (idO 1)=(0,ka2,kb2):=by kernel_rfl
theorem ama_:vf_ ka2 kb2=(0,ka3,kb3):=by kernel_rfl
theorem amj_:Wd_ ka3 kb3 mainN (idO 0) (idO 2)=(12,ka3,kb3):=by kernel_rfl
theorem alK_: (kb_ ka4 jc_ qd_).1.length<1000000:=by decide+kernel
theorem amg_: (aeN_ ka4).1=some kb3:=by kernel_rfl
theorem als_:xM_ [] [⟨mainN,idO 1⟩] mainN=(idO 1).l:=by kernel_rfl
theorem Ki_:jD_ (Zl_ Tryz.prog 24) (zY_ Tryz.prog 24) []=some (.agg (a8 (idO 0).l)):=id (by kernel_rfl)
theorem aeg_:jD_ (Zl_ Tryz.prog 24) (zY_ Tryz.prog 24) [(0,v8 1)]=some (.agg (a8 (idO 1).l)):=id (by kernel_rfl)
theorem ajr_:jD_ (Zl_ Tryz.prog 24) (zY_ Tryz.prog 24) [(0,v8 2)]=some (.agg (a8 (idO 2).l)):=id (by kernel_rfl)
theorem NewS.some {bd:Nat} {R:Option BkL×Nat×DiskL} {N:Nat} {v:Value} {D:za_} {B:BkL} (h:R.1=some B) (hS:NewS bd R N v D): ∃bo,v= .tuple #[vp bo 0,vi 0]∧BoP bo bd R.2.2 N B D:=by
 unfold NewS at hS;rw[h] at hS;exact hS
theorem wh_ {w:World} {L:za_} (h:GlobC w) (hn:New w.heap.size L): (4:Nat)∉keys L:=by
 obtain⟨e,f,h⟩:=h
 exact hn.not (Array.getElem?_eq_some_iff.1 h).1
theorem Xj_:jo_ []:=fun g hg=>absurd hg (Nat.not_lt_zero g)
theorem ahX_:jo_ [⟨mainN,idO 1⟩]:=fun g hg=>by
 obtain rfl:g=0:=by simpa using hg
 show mainN.length<_
 decide
theorem alQ_:qy_ Tryz.prog .eql 24 (.agg (a8 (idO 1).l)) (.agg (a8 (idO 1).l))=some (.bool true):=by
 rw[eqId _ _ ⟨(idO 1).h,(idO 1).h⟩];simp
set_option linter.defProp false
def jk_:=And.intro (And.intro (And.intro (@zw_) (@zv_)) (And.intro (@Sx.tup2_0) (@Sx.tup2_1))) (And.intro (And.intro (@tup3_0) (@tup3_1)) (And.intro (@tup3_2) (@agz_)))
theorem kz_ (w:World) (hG:Jr_ w) (hC:GlobC w):Rets Tryz.prog 36 #[] w (fun v D=>v= .bool true∧D= []):=by
 refine Rets.enterV Tryz.func36 rfl (rs:= [.tmp 0]) Tryz.results36 Tryz.ntmps36 ?_
 refine kf ?_
 first|with_reducible refine ks [] @jk_ ?_|refine kp @jk_ ?_
 refine Ow.callC rfl rfl Tryz.call80 (fun w' hw'=>adQ_ 1000 w' (by decide) (kx_ hG hw' trivial)) (fun B0 v0 D0 hA0 hB0 hN0 hS0=> ?_)
 obtain⟨G0,rfl,hP0⟩:=hS0
 rw[List.nil_append]
 have hE0:Ext w [] D0:=Ext.of_new (hN0.mono hB0)
 have hA0:DkA D0 G0 ka0 0:=⟨hP0,agR_ 1000,aiO_ 1000⟩
 refine ko @jk_ ?_
 first|with_reducible refine ks [] @jk_ ?_|refine kp @jk_ ?_
 refine Ow.callX (X:=D0) (Y:= []) (List.append_nil _).symm rfl rfl Tryz.call50 (fun w' hw' hX' hn'=>Xg_ D0 G0 ka0 0 w' hX' hn' hA0 (by omega) (vz_ hC hE0 hw' (by simp[keys])) (wh_ hC hE0.new0) alq_) (fun v1 D1 hC1 hS1=> ?_)
 rw[List.append_nil]
 have hE1:=hE0.came0 hC1
 obtain⟨bo,rfl,hP1⟩:=hS1.some aly_
 replace hP1:BoP bo G0.bd ka1 84 kb1 D1:=hP1
 have e0: ((0:Int) !=0)=false:=rfl
 refine ko (And.intro @jk_ @e0) ?_
 first|with_reducible refine ks [] (And.intro @jk_ @e0) ?_|refine kp (And.intro @jk_ @e0) ?_
 refine Ow.build (.agg (a8 (idO 0).l)) rfl Ki_ ?_
 refine ko @jk_ ?_
 refine Ow.build (.agg (a8 (idO 1).l)) rfl aeg_ ?_
 refine ko @jk_ ?_
 refine Ow.callX (X:=D1) (Y:= []) (List.append_nil _).symm rfl rfl Tryz.call41 (fun w' hw' hX' hn'=>vR_ bo G0.bd ka1 84 kb1 mainN (idO 0) (idO 1) D1 w' hX' hn' hP1 (by omega) (vz_ hC hE1 hw' (by simp[keys])) (wh_ hC hE1.new0) (by decide) (by decide) Xj_ Xj_ (by decide)) (fun v2 D2 hC2 hS2=> ?_)
 rw[List.append_nil]
 have hE2:=hE1.came0 hC2
 rw[alJ_] at hS2
 obtain⟨rfl,hP2⟩:=hS2
 refine ko @jk_ ?_
 refine Ow.callX (X:=D2) (Y:= []) (List.append_nil _).symm rfl rfl Tryz.call42 (fun w' hw' hX' hn'=>Qf_ bo G0.bd ka2 84 kb2 D2 w' hX' hn' hP2) (fun v3 D3 hC3 hS3=> ?_)
 rw[List.append_nil]
 have hE3:=hE2.came0 hC3
 rw[ama_] at hS3
 obtain⟨rfl,hP3⟩:=hS3
 refine ko @jk_ ?_
 first|with_reducible refine ks [] @jk_ ?_|refine kp @jk_ ?_
 refine Ow.build (.agg (a8 (idO 0).l)) rfl Ki_ ?_
 refine ko @jk_ ?_
 refine Ow.build (.agg (a8 (idO 2).l)) rfl ajr_ ?_
 refine ko @jk_ ?_
 refine Ow.callX (X:=D3) (Y:= []) (List.append_nil _).symm rfl rfl Tryz.call41 (fun w' hw' hX' hn'=>vR_ bo G0.bd ka3 84 kb3 mainN (idO 0) (idO 2) D3 w' hX' hn' hP3 (by omega) (vz_ hC hE3 hw' (by simp[keys])) (wh_ hC hE3.new0) (by decide) (by decide) Xj_ ahX_ (by decide)) (fun v4 D4 hC4 hS4=> ?_)
 rw[List.append_nil]
 have hE4:=hE3.came0 hC4
 rw[amj_] at hS4
 obtain⟨rfl,G4,vt,vl,D,K,hb4,hA4⟩:=hS4
 have hp4:D4.Perm (D++ ((bo,Obj.cells #[vp G4.bd 0,vt,vl,vi (kb3.n:Nat)] 151 (0,0))::K)):=hA4.perm.trans (by classical exact List.perm_iff_count.2 fun a=>by simp only[List.count_append,List.count_cons,List.count_nil]<;>omega)
 have hE5:=hE4.perm hp4.symm
 have hN5:=hE5.new0
 rw[←hb4]
 refine ko @jk_ ?_
 first|with_reducible refine ks [] @jk_ ?_|refine kp @jk_ ?_
 refine Ow.permL hp4.symm ?_
 refine Ow.callX (X:=D) (Y:=(bo, .cells #[vp G4.bd 0,vt,vl,vi (kb3.n:Nat)] 151 (0,0))::K) rfl rfl rfl Tryz.call49 (fun w' hw' hX' hn'=>Wq_ D G4 ka3 (.slice none 0 0) [] w' hX' hn' hA4.D.P (kx_ hG hw' hN5) (fun h=>abF_ hG hN5 (by rw[zc_];exact List.mem_append_left _ h)) ((wp_ (q:=(ka3,[])) hA4.D.B 3).b (by omega)) (.inl (SlV.nil w')) (fun h=>absurd rfl h) (by decide) (fun k hk=>⟨(hA4.D.H k).2,hA4.D.pend (by omega) k hk⟩)) (fun v6 D6 hC6 hS6=> ?_)
 obtain⟨G6,hb6,hP6⟩:=hS6
 have hE6:=hE5.came hC6
 have hA6:DkA D6 G6 ka4 84:=⟨hP6,acl_ hA4.D.H _,adI_ hA4.D.B _⟩
 rw[←hb6] at hE6 ⊢
 have hE6b:Ext w [] D6:=⟨fun c hc=>hE6.new c (by rw[zc_];exact List.mem_append_left _ hc),fun c hc=>by cases hc⟩
 refine ko @jk_ ?_
 first|with_reducible refine ks [] @jk_ ?_|refine kp @jk_ ?_
 refine Ow.callX (X:=D6) (Y:=(bo, .cells #[vp G6.bd 0,vt,vl,vi (kb3.n:Nat)] 151 (0,0))::K) rfl rfl rfl Tryz.call50 (fun w' hw' hX' hn'=>Xg_ D6 G6 ka4 84 w' hX' hn' hA6 (by omega) (vz_ hC hE6 hw' (by simp[keys])) (wh_ hC hE6b.new0) alK_) (fun v7 D7 hC7 hS7=> ?_)
 have hE7:=hE6.came hC7
 obtain⟨bo2,rfl,hP7⟩:=hS7.some amg_
 have hN7:=hE7.new0
 have hWo: ∀w' L',Hp w L' w'→(∀p,p∈ ((bo,Obj.cells #[vp G6.bd 0,vt,vl,vi (kb3.n:Nat)] 151 (0,0))::K)→p∈L')→BoW w' bo G6.bd kb3:=fun w' L' hw' hL'=>⟨vt,vl,hw'.has _ _ (hL' _ List.mem_cons_self),wX_ hA4.t fun b o hm=>hw'.has b o (hL' _ (List.mem_cons_of_mem _ hm)),wX_ hA4.l fun b o hm=>hw'.has b o (hL' _ (List.mem_cons_of_mem _ hm))⟩
 have c0: (((0:Nat):Int)==0)=true:=rfl
 have c1: (((12:Nat):Int)==12)=true:=rfl
 have c2: ((0:Int)==0)=true:=rfl
 have c3: (((1:Nat):Int)==1)=true:=rfl
 refine ko (And.intro @jk_ (And.intro @c0 (And.intro @c1 (@c2)))) ?_
 first|with_reducible refine ks [] (And.intro @jk_ (And.intro @c0 (And.intro @c1 (@c2)))) ?_|refine kp (And.intro @jk_ (And.intro @c0 (And.intro @c1 (@c2)))) ?_
 refine Ow.callC rfl rfl Tryz.call40 (fun w' hw'=>wV_ bo2 G6.bd kb3 mainN w' (hP7.W fun b o hm=>hw'.has b o (List.mem_append_left _ hm)) (by decide) (by decide) Xj_ ahX_) (fun B8 v8 D8 hA8 hB8 hN8 hS8=> ?_)
 subst hS8
 rw[show xM_ kb3.t kb3.l mainN=(idO 1).l from als_]
 refine ko (And.intro @jk_ (And.intro @c0 (And.intro @c1 (@c2)))) ?_
 refine Ow.build (.agg (a8 (idO 1).l)) rfl aeg_ ?_
 refine ko (And.intro @jk_ (And.intro @alQ_ (And.intro @c0 (And.intro @c1 (@c2))))) ?_
 refine Ow.callFV rfl Tryz.call43 (fun w' hw'=>Jt_ bo G6.bd kb3 w' (hWo w' _ hw' (fun p hp=>by simp only[List.mem_append];exact .inl (.inr hp)))) ?_
 have c4: (((kb3.n:Nat):Int)==1)=true:=rfl
 refine ko (And.intro @jk_ @c4) ?_
 first|with_reducible refine ks [] (And.intro @jk_ @c4) ?_|refine kp (And.intro @jk_ @c4) ?_
 refine⟨_,(ke @jk_),hN7.app (hN8.mono hB8), ?_⟩
 rfl
end Go.Proofs
end
section
open Go Go.Proofs Go.Sx Go.RefP
namespace Go.Proofs
set_option maxRecDepth 10000
set_option maxHeartbeats 4000000
set_option linter.unusedSimpArgs false
def ahO_ (x:RefL):List RefL→Bool→List RefL
 | [],dn=>if dn then [] else [x]
 |p::r,dn=>if p.name==x.name then ahO_ x r dn else if !dn&& !(ltB p.name x.name||p.name==x.name) then x::p::ahO_ x r true else p::ahO_ x r dn
def setR (l:List RefL) (x:RefL):List RefL:=ahO_ x l (x.id.l==z32)
set_option linter.defProp false
end Go.Proofs
end
section
open Go Go.Proofs Go.Sx Go.RefP
namespace Go.Proofs
set_option maxRecDepth 10000
set_option maxHeartbeats 4000000
set_option linter.unusedSimpArgs false
def logR (l t:List RefL):Nat→Option (List RefL)
 |0=>some t
 |g+1=>(logR l t g).bind fun m=>if(zP_ (l.getD g xr_).name&&decide ((setR m (l.getD g xr_)).length≤16))=true then some (setR m (l.getD g xr_)) else none
def akh_ (t:List RefL):Bool:=akK_ zP_ z32 (prs t)
def valR (t l:List RefL) (k:Nat):Option (List RefL):=if t.length≤16∧l.length≤100∧akh_ t=true then logR l t k else none
def ValsS (t l:List RefL) (k:Nat) (v:Value) (D:za_):Prop:=
 match valR t l k with
 |some ls=> ∃x,v= .tuple #[x, .bool true]∧GrI D 149 33 x ls.length (ls.map zH_).flatten
 |none=>v= .tuple #[.slice none 0 0, .bool false]
theorem ValsS.no {t l:List RefL} {k:Nat} {D:za_} (h:valR t l k=none):ValsS t l k (.tuple #[.slice none 0 0, .bool false]) D:=by unfold ValsS;rw[h]
set_option linter.defProp false
end Go.Proofs
end
section
open Go Go.Proofs Go.Sx Go.RefP
namespace Go.Proofs
set_option maxRecDepth 10000
set_option maxHeartbeats 4000000
set_option linter.unusedSimpArgs false
set_option linter.defProp false
def qv_:=And.intro (And.intro (And.intro (And.intro (@zw_) (@qx_)) (And.intro (@qw_) (And.intro (@qu_) (@zv_)))) (And.intro (And.intro (@jA_) (@jw_)) (And.intro (@ql_) (And.intro (@acH_) (@kd_))))) (And.intro (And.intro (And.intro (@x4_) (@kX_)) (And.intro (@k8_) (And.intro (@qR_) (@tup2_0)))) (And.intro (And.intro (@tup2_1) (And.intro (@vJ_) (@vV_))) (And.intro (@wj_) (And.intro (@kw_) (@kM_)))))
theorem vi_ (x y:Value) (l1 l2:List RefL) (w:World) (h1:xB_ w x l1) (h2:xB_ w y l2) (hl1:l1.length<1000000) (hl2:l2.length<1000000):
  Rets Tryz.prog 51 #[x,y] w (fun v D=>v= .bool (wo_ l1 l2)∧D= []):=by
 obtain⟨b1,o1,a1,E1,f1,r1⟩:=h1.row
 obtain⟨b2,o2,a2,E2,f2,r2⟩:=h2.row
 exact Xz_ x y b1 o1 b2 o2 l1 l2 a1 a2 E1 E2 f1 f2 w r1 r2 hl1 hl2
theorem afh_ (vt vl ut ul:Value) (t l t2 l2:List RefL) (w:World) (ht:xB_ w vt t) (hl:xB_ w vl l) (ht2:xB_ w ut t2) (hl2:xB_ w ul l2) (h1:t.length<1000000) (h2:l.length<1000000) (h3:t2.length<1000000) (h4:l2.length<1000000):
  Rets Tryz.prog 38 #[.agg #[vt,vl], .agg #[ut,ul]] w (fun v D=>v= .bool (wo_ t t2&&wo_ l l2)∧D= []):=by
 refine Rets.enterV Tryz.func38 rfl (rs:= [.tmp 4]) Tryz.results38 Tryz.ntmps38 ?_
 refine kf ?_
 first|with_reducible refine ks [] @qv_ ?_|refine kp @qv_ ?_
 refine Ow.box rfl rfl fun bx hbx hwx=> ?_
 simp only[qf_,z5_,qe_,zg_,List.nil_append,List.cons_append]
 refine Ow.go rfl ?_
 simp(disch:=(first|assumption|omega| (simp only[qP_,qM_,UInt64.reduceToNat];try omega))) only[↓Sx.S0,Sx.S1,Tryz.fx,qv_,Nat.reduceAdd,Nat.reducePow,Int.reducePow,Nat.reduceBEq, ↓reduceIte,UInt8.reduceToNat,UInt16.reduceToNat,UInt32.reduceToNat,UInt64.reduceToNat,Int.reduceToNat]
 refine Ow.box rfl rfl fun by_ hby hwy=> ?_
 simp only[qf_,z5_,qe_,zg_,List.nil_append,List.cons_append]
 refine Ow.go rfl ?_
 simp(disch:=(first|assumption|omega| (simp only[qP_,qM_,UInt64.reduceToNat];try omega))) only[↓Sx.S0,Sx.S1,Tryz.fx,qv_,Nat.reduceAdd,Nat.reducePow,Int.reducePow,Nat.reduceBEq, ↓reduceIte,UInt8.reduceToNat,UInt16.reduceToNat,UInt32.reduceToNat,UInt64.reduceToNat,Int.reduceToNat]
 obtain⟨hxy,-⟩:=hby
 first|with_reducible refine ks [] @qv_ ?_|refine kp @qv_ ?_
 refine Ow.callFV rfl Tryz.call51 (fun w' hw'=>vi_ vt ut t t2 w' (ht.oldN hw' ⟨hwx,hwy,trivial⟩) (ht2.oldN hw' ⟨hwx,hwy,trivial⟩) h1 h3) ?_
 cases wo_ t t2
 ·refine ko @qv_ ?_
  first|with_reducible refine ks [] @qv_ ?_|refine kp @qv_ ?_
  refine⟨_,(ke @qv_),⟨hwx,hwy,trivial⟩, ?_⟩
  rfl
 ·refine ko @qv_ ?_
  first|with_reducible refine ks [] @qv_ ?_|refine kp @qv_ ?_
  refine Ow.callFV rfl Tryz.call51 (fun w' hw'=>vi_ vl ul l l2 w' (hl.oldN hw' ⟨hwx,hwy,trivial⟩) (hl2.oldN hw' ⟨hwx,hwy,trivial⟩) h2 h4) ?_
  refine ko @qv_ ?_
  first|with_reducible refine ks [] @qv_ ?_|refine kp @qv_ ?_
  refine⟨_,(ke @qv_),⟨hwx,hwy,trivial⟩, ?_⟩
  rfl
end Go.Proofs
end
section
open Go Go.Proofs Go.Sx Go.StP Go.RefP
namespace Go.Proofs
set_option maxRecDepth 10000
set_option maxHeartbeats 1000000
set_option linter.unusedSimpArgs false
structure AtL where
 kind:Int
 n:Int
 name:List UInt8
 id:IdL
 wrong:Bool
 picks:PkL
def atC (r:AtL):List Value:= [vi r.kind]++ ([vi r.n]++ ([vs r.name]++ (r.id.l.map v8++ ([Value.bool r.wrong]++ ([r.picks.v])))))
theorem aiF_ (r:AtL): (atC r).length=37:=by simp[atC,r.id.h]
theorem abf_ (r:AtL):Value.cells (.agg (atC r).toArray)=(atC r).toArray:=zg_ _
theorem akR_ (r:AtL):atC r=([]:List Value)++ (([vi r.kind])++ ([vi r.n]++ ([vs r.name]++ (r.id.l.map v8++ ([Value.bool r.wrong]++ ([r.picks.v])))))):=by
 unfold atC;simp only[List.append_assoc,List.nil_append,List.append_nil]
theorem abS_ (r:AtL) (n:Nat) (E:TypeId) (fz:Nat×Nat):zD_ (some (false,n)) (some (.cells (atC r).toArray E fz)) 0=some (vi r.kind):=by
 rw[akR_];exact vY_ _ _ _ n E fz (by simp)
theorem akc_ (r:AtL):atC r=(([vi r.kind]))++ (([vi r.n])++ ([vs r.name]++ (r.id.l.map v8++ ([Value.bool r.wrong]++ ([r.picks.v]))))):=by
 unfold atC;simp only[List.append_assoc,List.nil_append,List.append_nil]
theorem aa2_ (r:AtL) (n:Nat) (E:TypeId) (fz:Nat×Nat):zD_ (some (false,n)) (some (.cells (atC r).toArray E fz)) 1=some (vi r.n):=by
 rw[akc_];exact vY_ _ _ _ n E fz (by simp)
theorem aj2_ (r:AtL):atC r=(([vi r.kind])++ ([vi r.n]))++ (([vs r.name])++ (r.id.l.map v8++ ([Value.bool r.wrong]++ ([r.picks.v])))):=by
 unfold atC;simp only[List.append_assoc,List.nil_append,List.append_nil]
theorem abB_ (r:AtL) (n:Nat) (E:TypeId) (fz:Nat×Nat):zD_ (some (false,n)) (some (.cells (atC r).toArray E fz)) 2=some (vs r.name):=by
 rw[aj2_];exact vY_ _ _ _ n E fz (by simp)
theorem akx_ (r:AtL):atC r=(([vi r.kind])++ ([vi r.n])++ ([vs r.name]))++ ((r.id.l.map v8)++ ([Value.bool r.wrong]++ ([r.picks.v]))):=by
 unfold atC;simp only[List.append_assoc,List.nil_append,List.append_nil]
theorem abC_ (r:AtL) (E:TypeId) (fz:Nat×Nat):zD_ (some (true,32)) (some (.cells (atC r).toArray E fz)) 3=some (Value.agg (a8 r.id.l)):=by
 rw[akx_,ahN_ _ _ _ E fz (by simp) (by simp[r.id.h])];rfl
theorem aj3_ (r:AtL):atC r=(([vi r.kind])++ ([vi r.n])++ ([vs r.name])++ (r.id.l.map v8))++ (([Value.bool r.wrong])++ ([r.picks.v])):=by
 unfold atC;simp only[List.append_assoc,List.nil_append,List.append_nil]
theorem aa1_ (r:AtL) (n:Nat) (E:TypeId) (fz:Nat×Nat):zD_ (some (false,n)) (some (.cells (atC r).toArray E fz)) 35=some (Value.bool r.wrong):=by
 rw[aj3_];exact vY_ _ _ _ n E fz (by simp[r.id.h])
theorem akY_ (r:AtL):atC r=(([vi r.kind])++ ([vi r.n])++ ([vs r.name])++ (r.id.l.map v8)++ ([Value.bool r.wrong]))++ (([r.picks.v])++ (([]:List Value))):=by
 unfold atC;simp only[List.append_assoc,List.nil_append,List.append_nil]
theorem aa0_ (r:AtL) (n:Nat) (E:TypeId) (fz:Nat×Nat):zD_ (some (false,n)) (some (.cells (atC r).toArray E fz)) 36=some (r.picks.v):=by
 rw[akY_];exact vY_ _ _ _ n E fz (by simp[r.id.h])
theorem aeH_ (r:AtL) (E:TypeId) (fz:Nat×Nat):zD_ (some (true,37)) (some (.cells (atC r).toArray E fz)) 0=some (.agg (atC r).toArray):=k1_ _ E fz 37 (by rw[List.size_toArray,aiF_])
def ae4_ (a:AtL):Bool:=decide (100<a.name.length) ||decide (100<a.picks.l.length)
set_option linter.defProp false
def Xr_:=And.intro (And.intro (And.intro (@zw_) (@zv_)) (And.intro (@aeH_) (And.intro (@abS_) (@aa2_)))) (And.intro (And.intro (@abB_) (@abC_)) (And.intro (@aa1_) (And.intro (@aa0_) (@abf_))))
theorem Ww_ (a:AtL) (w:World) (ha:PkS w a.picks.v a.picks.l):Rets Tryz.prog 37 #[.agg (atC a).toArray] w (fun v D=>v= .bool (ae4_ a)∧D= []):=by
 have lnp:=ha.len
 refine Rets.enterV Tryz.func37 rfl (rs:= [.tmp 2]) Tryz.results37 Tryz.ntmps37 ?_
 refine kf ?_
 first|with_reducible refine ks [1] @Xr_ ?_|refine kp @Xr_ ?_
 refine Ow.box rfl rfl fun b1 hb1 hw1=> ?_
 simp only[qf_,z5_,qe_,zg_,List.nil_append,List.cons_append]
 refine Ow.go rfl ?_
 simp(disch:=(first|assumption|omega| (simp only[qP_,qM_,UInt64.reduceToNat];try omega))) only[↓Sx.S0,Sx.S1,Tryz.fx,Xr_,Nat.reduceAdd,Nat.reducePow,Int.reducePow,Nat.reduceBEq, ↓reduceIte,UInt8.reduceToNat,UInt16.reduceToNat,UInt32.reduceToNat,UInt64.reduceToNat,Int.reduceToNat]
 unfold ae4_
 cases h1:decide ((100:Int)< (a.name.length:Int)) with
 |true=>
  first|with_reducible refine ks [] (And.intro @Xr_ @h1) ?_|refine kp (And.intro @Xr_ @h1) ?_
  refine⟨_,(ke @Xr_),⟨hw1,trivial⟩, ?_⟩
  (rw[decide_eq_true (show 100<a.name.length by have:=of_decide_eq_true h1;omega)];rfl)
 |false=>
  have g1:decide (100<a.name.length)=false:=decide_eq_false (by have:=of_decide_eq_false h1;omega)
  have g4:decide (100<a.picks.l.length)=decide ((100:Int)< (a.picks.l.length:Int)):=by
   congr 1
   rw[eq_iff_iff];omega
  first|with_reducible refine ks [] (And.intro @Xr_ (And.intro @h1 (@lnp))) ?_|refine kp (And.intro @Xr_ (And.intro @h1 (@lnp))) ?_
  refine⟨_,(ke @Xr_),⟨hw1,trivial⟩, ?_⟩
  (rw[g1,g4];rfl)
theorem ahA_ (n:List UInt8):xM_ [] [] n=z32:=by rfl
set_option linter.defProp false
def vl_:=And.intro (And.intro (And.intro (@zw_) (@zv_)) (And.intro (@Sx.tup2_0) (@Sx.tup2_1))) (And.intro (And.intro (@tup3_0) (@tup3_1)) (And.intro (@tup3_2) (And.intro (@agz_) (@wd_))))
theorem VV_ (n:List UInt8) (w:World):Rets Tryz.prog 40 #[.pointer none,vs n] w (fun v D=>v= .agg (a8 (idO 0).l)∧D= []):=by
 refine Rets.enterV Tryz.func40 rfl (rs:= [.cell 4 24]) Tryz.results40 Tryz.ntmps40 ?_
 refine kf ?_
 first|with_reducible refine ks [] @vl_ ?_|refine kp @vl_ ?_
 refine Ow.alloc rfl rfl Tryz.zr24 fun b2 hb2 hw2=> ?_
 simp only[zg_,List.nil_append,List.cons_append]
 refine ko @vl_ ?_
 refine Ow.callFV rfl Tryz.call39 (fun w' hw'=>Qw_ w') ?_
 refine ko @vl_ ?_
 refine Ow.callFV rfl Tryz.call82 (fun w' hw'=>J2_ (.slice none 0 0) (.slice none 0 0) [] [] n w' (SlV.nil w') (SlV.nil w') (by decide) (by decide) Xj_ Xj_) ?_
 have hzl: (List.replicate 32 (0:UInt8)).length=32:=rfl
 have hvl:=wI_ [] [] n
 refine ko @vl_ ?_
 first|with_reducible refine ks [] @vl_ ?_|refine kp @vl_ ?_
 refine⟨_,(ke @vl_),⟨hw2,trivial⟩, ?_⟩
 rw[ahA_];rfl
theorem XL_ (n:List UInt8) (x y:IdL) (w:World):Rets Tryz.prog 41 #[.pointer none,vs n, .agg (a8 x.l), .agg (a8 y.l)] w (fun v D=>v=vi 1∧D= []):=by
 refine Rets.enterV Tryz.func41 rfl (rs:= [.tmp 8]) Tryz.results41 Tryz.ntmps41 ?_
 refine kf ?_
 first|with_reducible refine ks [] @vl_ ?_|refine kp @vl_ ?_
 refine Ow.box rfl rfl fun b6 hb6 hw6=> ?_
 simp only[qf_,z5_,qe_,zg_]
 refine ko @vl_ ?_
 refine Ow.box rfl rfl fun b7 hb7 hw7=> ?_
 simp only[qf_,z5_,qe_,zg_]
 refine ko @vl_ ?_
 first|with_reducible refine ks [] @vl_ ?_|refine kp @vl_ ?_
 refine⟨_,(ke @vl_),⟨hw6,hw7,trivial⟩, ?_⟩
 rfl
end Go.Proofs
end
section
open Go Go.Proofs Go.Sx Go.StP Go.RefP
namespace Go.Proofs
set_option maxRecDepth 10000
set_option maxHeartbeats 1000000
set_option linter.unusedSimpArgs false
theorem alA_:qy_ Tryz.prog .eql 24 (.agg (a8 (idO 0).l)) (.agg (a8 (idO 0).l))=some (.bool true):=by
 rw[eqId _ _ ⟨(idO 0).h,(idO 0).h⟩];simp
set_option linter.defProp false
def js_:=And.intro (And.intro (And.intro (@zw_) (And.intro (@zv_) (@Sx.tup2_0))) (And.intro (And.intro (@Sx.tup2_1) (@tup3_0)) (And.intro (@tup3_1) (@tup3_2)))) (And.intro (And.intro (And.intro (@aeH_) (@abS_)) (And.intro (@aa2_) (@abB_))) (And.intro (And.intro (@abC_) (@aa1_)) (And.intro (@aa0_) (@abf_))))
theorem XX_ (a:AtL) (w:World) (hG:Jr_ w) (hC:GlobC w) (_hp:PkS w a.picks.v a.picks.l) (hpx: ∀w' L,Hp w L w'→New w.heap.size L→PkS w' a.picks.v a.picks.l):Rets Tryz.prog 9 #[.agg (atC a).toArray] w (fun v D=>v= .bool true∧D= []):=by
 have hid:=a.id.h
 refine Rets.enterV Tryz.func9 rfl (rs:= [.tmp 2]) Tryz.results9 Tryz.ntmps9 ?_
 refine kf ?_
 first|with_reducible refine ks [] @js_ ?_|refine kp @js_ ?_
 refine Ow.box rfl rfl fun b1 hb1 hw1=> ?_
 simp only[qf_,z5_,qe_,zg_,List.nil_append,List.cons_append]
 refine Ow.go rfl ?_
 simp(disch:=(first|assumption|omega| (simp only[qP_,qM_,UInt64.reduceToNat];try omega))) only[↓Sx.S0,Sx.S1,Tryz.fx,js_,Nat.reduceAdd,Nat.reducePow,Int.reducePow,Nat.reduceBEq, ↓reduceIte,UInt8.reduceToNat,UInt16.reduceToNat,UInt32.reduceToNat,UInt64.reduceToNat,Int.reduceToNat]
 have hN1:New w.heap.size [(b1,Obj.cells (atC a).toArray 67 (0,0))]:=⟨hw1,trivial⟩
 have hgc:=wh_ hC hN1
 refine Ow.callFV rfl Tryz.call36 (fun w' hw'=>kz_ w' (kx_ hG hw' hN1) (GlobC.of hC hw' hgc)) ?_
 refine ko @js_ ?_
 first|with_reducible refine ks [] @js_ ?_|refine kp @js_ ?_
 refine Ow.callFV rfl Tryz.call37 (fun w' hw'=>Ww_ a w' (hpx w' _ hw' hN1)) ?_
 cases hgr:ae4_ a with
 |true=>
  refine ko @js_ ?_
  first|with_reducible refine ks [] @js_ ?_|refine kp @js_ ?_
  refine Ow.callFV rfl Tryz.call36 (fun w' hw'=>kz_ w' (kx_ hG hw' hN1) (GlobC.of hC hw' hgc)) ?_
  refine ko @js_ ?_
  first|with_reducible refine ks [] @js_ ?_|refine kp @js_ ?_
  refine⟨_,(ke @js_),hN1, ?_⟩
  rfl
 |false=>
  have h0: ((1:Int)==1)=true:=rfl
  have h1: ((0:Int)==0)=true:=rfl
  refine ko @js_ ?_
  first|with_reducible refine ks [] @js_ ?_|refine kp @js_ ?_
  refine Ow.callFV rfl Tryz.call36 (fun w' hw'=>kz_ w' (kx_ hG hw' hN1) (GlobC.of hC hw' hgc)) ?_
  refine ko @js_ ?_
  refine Ow.callFV rfl Tryz.call39 (fun w' hw'=>Qw_ w') ?_
  refine ko @js_ ?_
  refine Ow.build (.agg #[.slice none 0 0, .slice none 0 0]) rfl Z5_ ?_
  refine ko @js_ ?_
  refine Ow.callFV rfl Tryz.call38 (fun w' hw'=>afh_ (.slice none 0 0) (.slice none 0 0) (.slice none 0 0) (.slice none 0 0) [] [] [] [] w' (SlV.nil w') (SlV.nil w') (SlV.nil w') (SlV.nil w') (by decide) (by decide) (by decide) (by decide)) ?_
  rw[show(wo_ [] []&&wo_ [] [])=true from rfl]
  refine ko @js_ ?_
  refine Ow.callFV rfl Tryz.call40 (fun w' hw'=>VV_ a.name w') ?_
  refine ko @js_ ?_
  refine Ow.build (.agg (a8 (idO 0).l)) rfl Ki_ ?_
  refine ko (And.intro @js_ @alA_) ?_
  refine Ow.build (.agg (a8 (idO 0).l)) rfl Ki_ ?_
  refine ko @js_ ?_
  refine Ow.callFV rfl Tryz.call41 (fun w' hw'=>XL_ a.name (idO 0) a.id w') ?_
  refine ko (And.intro @js_ @h0) ?_
  refine Ow.callFV rfl Tryz.call42 (fun w' hw'=>W8_ w') ?_
  refine ko (And.intro @js_ @h0) ?_
  refine Ow.callFV rfl Tryz.call43 (fun w' hw'=>Jx_ w') ?_
  refine ko (And.intro @js_ @h1) ?_
  refine Ow.callFV rfl Tryz.call44 (fun w' hw'=>Wz_ a.n w') ?_
  refine ko (And.intro @js_ @h0) ?_
  first|with_reducible refine ks [] @js_ ?_|refine kp @js_ ?_
  refine⟨_,(ke @js_),hN1, ?_⟩
  rfl
end Go.Proofs
end
section
open Go Go.Proofs Go.Sx Go.StP Go.Flo
namespace Go.Proofs
set_option maxRecDepth 10000
set_option maxHeartbeats 400000
set_option linter.unusedSimpArgs false
set_option linter.defProp false
set_option linter.defProp false
end Go.Proofs
end
section
open Go Go.Proofs Go.Sx Go.StP Go.Flo
namespace Go.Proofs
set_option maxRecDepth 10000
set_option maxHeartbeats 400000
set_option linter.unusedSimpArgs false
set_option linter.defProp false
end Go.Proofs
end
section
open Go Go.Proofs Go.Sx Go.StP Go.Flo
namespace Go.Proofs
set_option maxRecDepth 10000
set_option maxHeartbeats 400000
set_option linter.unusedSimpArgs false
set_option linter.defProp false
end Go.Proofs
end
section
open Go Go.Proofs Go.Sx Go.StP Go.Flo
namespace Go.Proofs
set_option maxRecDepth 10000
set_option maxHeartbeats 400000
set_option linter.unusedSimpArgs false
set_option linter.defProp false
end Go.Proofs
end
section
open Go Go.Proofs Go.Sx Go.StP Go.Flo
namespace Go.Proofs
set_option maxRecDepth 10000
set_option maxHeartbeats 400000
set_option linter.unusedSimpArgs false
set_option linter.defProp false
end Go.Proofs
end
section
open Go Go.Proofs Go.Sx Go.StP Go.Flo
namespace Go.Proofs
set_option maxRecDepth 10000
set_option maxHeartbeats 400000
set_option linter.unusedSimpArgs false
set_option linter.defProp false
set_option linter.defProp false
end Go.Proofs
end
section
open Go Go.Proofs Go.Sx Go.StP Go.Flo
namespace Go.Proofs
set_option maxRecDepth 10000
set_option maxHeartbeats 400000
set_option linter.unusedSimpArgs false
set_option linter.defProp false
end Go.Proofs
end
section
open Go Go.Proofs Go.Sx Go.StP Go.Flo
namespace Go.Proofs
set_option maxRecDepth 10000
set_option maxHeartbeats 400000
set_option linter.unusedSimpArgs false
set_option linter.defProp false
end Go.Proofs
end
section
open Go Go.Proofs Go.Sx Go.StP Go.Flo
namespace Go.Proofs
set_option maxRecDepth 10000
set_option maxHeartbeats 400000
set_option linter.unusedSimpArgs false
set_option linter.defProp false
end Go.Proofs
end
section
open Go Go.Proofs Go.Sx Go.StP Go.Flo
namespace Go.Proofs
set_option maxRecDepth 10000
set_option maxHeartbeats 1000000
set_option linter.unusedSimpArgs false
set_option linter.defProp false
end Go.Proofs
end
section
open Go Go.Proofs Go.Sx Go.StP Go.Flo
namespace Go.Proofs
set_option maxRecDepth 10000
set_option maxHeartbeats 400000
set_option linter.unusedSimpArgs false
set_option linter.defProp false
end Go.Proofs
end
section
open Go Go.Proofs Go.Sx Go.StP Go.Flo
namespace Go.Proofs
set_option maxRecDepth 10000
set_option maxHeartbeats 400000
set_option linter.unusedSimpArgs false
end Go.Proofs
end
section
open Go Go.Proofs Go.Sx Go.StP Go.Flo
namespace Go.Proofs
set_option maxRecDepth 10000
set_option maxHeartbeats 400000
set_option linter.unusedSimpArgs false
set_option linter.defProp false
end Go.Proofs
end
section
open Go Go.Proofs Go.Sx Go.StP Go.Flo
namespace Go.Proofs
set_option maxRecDepth 10000
set_option maxHeartbeats 400000
set_option linter.unusedSimpArgs false
set_option linter.defProp false
end Go.Proofs
end
section
open Go Go.Proofs Go.Sx Go.StP Go.Flo
namespace Go.Proofs
set_option maxRecDepth 10000
set_option maxHeartbeats 400000
set_option linter.unusedSimpArgs false
set_option linter.defProp false
end Go.Proofs
end
section
open Go Go.Proofs Go.Sx Go.StP Go.Flo
namespace Go.Proofs
set_option maxRecDepth 10000
set_option maxHeartbeats 1000000
set_option linter.unusedSimpArgs false
set_option linter.defProp false
end Go.Proofs
end
section
open Go Go.Proofs Go.Sx Go.StP Go.Flo
namespace Go.Proofs
set_option maxRecDepth 10000
set_option maxHeartbeats 1000000
set_option linter.unusedSimpArgs false
set_option linter.defProp false
end Go.Proofs
end
section
open Go Go.Proofs Go.Sx Go.StP Go.Flo
namespace Go.Proofs
set_option maxRecDepth 10000
set_option maxHeartbeats 1000000
set_option linter.unusedSimpArgs false
set_option linter.defProp false
end Go.Proofs
end
section
open Go Go.Proofs Go.Sx Go.StP Go.Flo
namespace Go.Proofs
set_option maxRecDepth 10000
set_option maxHeartbeats 400000
set_option linter.unusedSimpArgs false
set_option linter.defProp false
end Go.Proofs
end
section
open Go Go.Proofs Go.Sx Go.StP Go.Flo
namespace Go.Proofs
set_option maxRecDepth 10000
set_option maxHeartbeats 400000
set_option linter.unusedSimpArgs false
set_option linter.defProp false
end Go.Proofs
end
section
open Go Go.Proofs Go.Sx Go.StP Go.Flo
namespace Go.Proofs
set_option maxRecDepth 10000
set_option maxHeartbeats 400000
set_option linter.unusedSimpArgs false
set_option linter.defProp false
end Go.Proofs
end
section
open Go Go.Proofs Go.Sx Go.StP Go.Flo
namespace Go.Proofs
set_option maxRecDepth 10000
set_option maxHeartbeats 400000
set_option linter.unusedSimpArgs false
set_option linter.defProp false
instance:DecidableEq FiL:=fun a b=>if h:a.dir=b.dir∧a.name=b.name∧a.data=b.data then .isTrue (by cases a;cases b;simp only at h;obtain⟨rfl,rfl,rfl⟩:=h;rfl) else .isFalse (fun e=>h (by rw[e];exact⟨rfl,rfl,rfl⟩))
set_option linter.defProp false
end Go.Proofs
end
section
open Go Go.Proofs Go.Sx Go.StP Go.Flo
namespace Go.Proofs
set_option maxRecDepth 10000
set_option maxHeartbeats 1000000
set_option linter.unusedSimpArgs false
theorem ActOk.old {w w':World} {L:za_} {a:ActL} (h:ActOk w a) (hw:Hp w L w') (hn:New w.heap.size L):ActOk w' a:=
 ⟨h.pk.old hw fun hl _b hb=>hn.not (h.pk.blk hl hb),h.n⟩
set_option linter.defProp false
end Go.Proofs
end
namespace Go.Sx
open Go Go.ChangeShapes Go.WideShapes Go.RowKit
theorem Hp.same0 {W W':World} (h:Hp W [] W') {b:Nat} (hb:b<W.heap.size):W'.heap[b]? =W.heap[b]? :=h.old b hb (fun hm=>by cases hm)
theorem Hp.kept {W W':World} (h:Hp W [] W') (may:MemPlace→Prop):W.keptBut W' may:=by
 refine⟨h.os,h.output,fun i hi=> ?_⟩
 rw[h.same0 hi]
 cases ho:W.heap[i]? with
 |none=>rfl
 |some o=>
  cases o<;>first
   |exact⟨rfl,rfl,rfl,fun _ _=>rfl⟩
   |exact .inr ⟨rfl,rfl⟩
   |rfl
theorem Hp.sameAt {W W':World} (h:Hp W [] W') {p:MemPlace} (hp:p.block<W.heap.size):W.sameAt W' p:=by
 cases p with
 |cell b off=>
  have:=h.same0 (b:=b) hp
  simp only[World.sameAt,World.cell?,this]
 |map b=>exact h.same0 hp
theorem Hp.frozen {W W':World} (h:Hp W [] W') {a:Addr} (ha:a.block<W.heap.size):W'.frozen? a=W.frozen? a:=by
 simp only[World.frozen?,h.same0 ha]
section
variable {H:Type} {enc:TypeId×Value→H} {P:Program}
theorem wa_ (hl:laidOutB P=true) {W W':World} {sp:Nat→Bool} (hp:Hp W [] W'): ∀ {ts:List TypeId} {vs:List Value} {ds:List (DataW H)} {ps:List MemPlace},
  (∀t∈ts,P.readableRec t=true∧t<P.types.size)→(∀p∈ps,p.block<W.heap.size)→(∀p∈ps,sp p.block=true)→
  DataW.TrodAll enc P W 0 (fun _=>true) true ts vs ds ps→DataW.TrodAll enc P W' 0 sp true ts vs ds ps
 | [],_,_,_,_,_,_,h=>by
  obtain⟨rfl,rfl,rfl⟩:=trodAll_nil h
  exact trodAll_mk0
 |t::ts,_,_,_,ht,hlt,hs,h=>by
  obtain⟨v,vs,d,ds,p,q,rfl,rfl,rfl,h1,h2⟩:=trodAll_cons h
  have hlt1: ∀x∈p,x.block<W.heap.size:=fun x hx=>hlt x (List.mem_append_left _ hx)
  exact trodAll_cons_mk (WideElems.Trod_stays hl (ht t List.mem_cons_self).1 (ht t List.mem_cons_self).2 h1 (fun x hx=>hp.sameAt (hlt1 x hx)) (fun x hx=>hs x (List.mem_append_left _ hx)))
   (wa_ hl hp (fun u hu=>ht u (List.mem_cons_of_mem _ hu)) (fun x hx=>hlt x (List.mem_append_right _ hx)) (fun x hx=>hs x (List.mem_append_right _ hx)) h2)
theorem aeS_ {f:Func} {s:ChangeSpec} {W W':World} {args:Array Value} {ds gs:List (DataW H)} {before:List MemPlace} {tb:TypeId} (hl:laidOutB P=true)
  (hW:DataW.Whole enc P f.params.toList s.vars false W args.toList ds gs before) (hv:s.vars= []) (hpar: ∀t∈f.params.toList,P.readableRec t=true∧t<P.types.size)
  (hr:f.resultTypes= #[tb]) (htb:P.underlying tb=some .bool) (hfn:s.fn H ds={results:= [.lit (.bool true)],args:=ds}) (hp:Hp W [] W'):
  s.post enc P f false true false false W args (.bool true) W':=by
 have hlt:=hW.lt
 have hW0:=hW
 obtain⟨p,q,hA,hV,rfl,hz,hn⟩:=hW
 rw[hv] at hV
 obtain⟨rfl,rfl⟩:=trodVars_none hV
 rw[List.append_nil] at hW0 hlt hz
 have hargs: ∀sp:Nat→Bool,(∀x∈p,sp x.block=true)→DataW.TrodAll enc P W' 0 sp true f.params.toList args.toList (s.fn H (ds++ [])).args p:=fun sp hs=>by
  rw[List.append_nil,hfn]
  exact wa_ hl hp hpar hlt hs hA
 have hvars: ∀sp:Nat→Bool,DataW.TrodVars enc P W' sp s.vars (s.fn H (ds++ [])).vars []:=fun sp=>by
  rw[List.append_nil,hfn,hv];rfl
 have hres: ∀ (b:Nat) (sp:Nat→Bool) (hd:Bool),DataW.TrodAll enc P W' b sp hd f.resultTypes.toList ((Value.bool true).resultList f.resultTypes.size) (s.fn H (ds++ [])).results []:=fun b sp hd=>by
  rw[List.append_nil,hfn,hr]
  exact trodAll_cons_mk (shut_bool htb true) trodAll_mk0
 have hold: ∀x∈p,(fun b=>decide (b<W.heap.size)) x.block=true:=fun x hx=>by simpa using hlt x hx
 refine⟨ds,[],p,[],p,[],hW0,hres _ _ _,hargs _ hold,hvars _,hp.kept _,fun _=> ?_⟩
 refine⟨ok_one hr rfl (okWide_bool_mk htb true),_,_,([]++p)++ [],⟨[]++p,[],trodAll_append (hargs _ (fun _ _=>rfl)) (hres _ _ _),hvars _,rfl, ?_,fun h=>by cases h⟩, ?_⟩
 ·intro b off hx
  have hx':MemPlace.cell b off∈p:=by simpa using hx
  rw[hp.frozen (hlt _ hx')]
  exact hz b off hx'
 ·intro x hx _
  simpa using hx
end
section
variable {P:Program} {W:World} {name:String} {k:IntKind} {zs:List Int}
theorem QA_ {t e:TypeId} {g n:Nat} (hg:P.globalNamed name=some g) (hty: (P.globals[g]?).map (·.type)=some t) (ht:P.underlying t=some (.array n e)) (he:P.underlying e=some (.int k)) (hce:P.cellsOf e=1) (hct:P.cellsOf t=n):
  ∀ {laid:List (String×DataW Unit)} {ps:List MemPlace},DataW.LaidVars P W laid ps→(name,Lib.tabData k zs)∈laid→Lib.TabIs P W name k zs
 | [],_,_,hm=>by cases hm
 | (n',d')::rest,ps,h,hm=>by
  obtain⟨g',t',cs,fuel,p,q,hg',ht',hvar,hd,hr,-⟩:=h
  rcases List.mem_cons.1 hm with hm|hm
  ·cases hm
   obtain rfl:=Option.some.inj (hg.symm.trans hg')
   obtain rfl:=Option.some.inj (hty.symm.trans ht')
   unfold Lib.TabIs
   rw[hvar,←Lib.cells_of_tab ht he hce hct hd]
  ·exact QA_ hg hty ht he hce hct hr hm
theorem Wh_ {g:Nat} (hg:P.globalNamed name=some g) (h:Lib.TabIs P W name k zs): ∃e f,W.heap[g]? =some (.cells (zs.map fun z=>Value.int k z).toArray e f):=by
 unfold Lib.TabIs at h
 simp only[World.var?,hg,Option.bind_some] at h
 split at h
 ·rename_i cs e f hb
  cases h
  exact⟨e,f,hb⟩
 ·cases h
end
section
variable {H:Type} {enc:TypeId×Value→H} {P:Program}
end
end Go.Sx
namespace Go.Sx
open Go
section
variable {P:Program}
theorem ak8_ {α:Type} {enc:α→List Value} {z:α} {m:Nat} {W:World} {base b off c:Nat} {l:List α} {arr:Array Value} {E:TypeId} {fz:Nat×Nat} (hm0:0<m) (hm: ∀x,(enc x).length=m)
  (hcells: ∀i,i<l.length→W.cells? base ((Addr.mk b off none).add (i*m)) m=some (enc (l.getD i z))) (hheap:W.heap[b]? =some (.cells arr E fz)) (hoff:off≤arr.size) (hc:l.length≤c):SlV m enc z W (vsl b off l.length c) l:=by
 have get: ∀k,k<l.length→ ∀j,j<m→arr[off+k*m+j]? =(enc (l.getD k z))[j]? :=by
  intro k hk j hj
  obtain⟨-,hl,hg⟩:=World.cells?_some (hcells k hk)
  have:=hg j (by omega)
  rw[q8_,q8_] at this
  simp only[World.cell?,hheap,Option.isSome_none,Bool.false_eq_true,if_false] at this
  exact this
 refine SlV.sl hheap get hc ?_
 by_cases h0:l.length=0
 ·rw[h0];omega
 ·have h1:=get (l.length - 1) (by omega) (m - 1) (by omega)
  rw[List.getElem?_eq_getElem (by rw[hm];omega)] at h1
  have h2:=(Array.getElem?_eq_some_iff.1 h1).1
  have h3: (l.length - 1)*m+m=l.length*m:=by
   rw[←Nat.succ_mul];congr 1;omega
  omega
end
end Go.Sx
section
open Go Go.Proofs Go.Sx Go.StP Go.Flo
open Go.ChangeShapes Go.WideShapes Go.ChangeAt Go.RowKit Go.ChangeMaps
namespace Go.Proofs
set_option maxRecDepth 10000
set_option maxHeartbeats 1000000
set_option linter.unusedSimpArgs false
theorem ajw_ {n:Int} (h: (Lit.int .u16 n).wf=true): ∃x:UInt16,Value.int .u16 n=v16 x:=by
 simp only[Lit.wf,Bool.and_eq_true,decide_eq_true_eq] at h
 have h1: (0:Int)≤n:=h.1
 have h2:n≤65535:=h.2
 refine⟨UInt16.ofNat n.toNat, ?_⟩
 unfold v16
 rw[UInt16.toNat_ofNat',Nat.mod_eq_of_lt (by omega),Int.toNat_of_nonneg h1]
theorem ak5_ {H:Type} {tell:TypeId×Value→H} {W:World} {base:Nat} {sp:Nat→Bool} {held:Bool} {n:Nat} {cs:List Value} {y:DataW H×List MemPlace}
  (h:DataW.trod tell Tryz.prog W base sp held n 65 cs=some y): ∃p:PkL,cs= [p.v]∧PkS W p.v p.l:=by
 have h1: (Tryz.prog).cellsOf 169=1:=by kernel_rfl
 rcases DataW.trod_slice Tryz.underlying65 h with⟨rfl,-⟩ | ⟨a,len,cap,elems,rest,m,-,rfl,-,-,hl,-,hlen,hel,-,-⟩
 ·exact⟨pk0,rfl, .inl (SlV.nil W)⟩
 ·rw[h1] at hel
  by_cases h0:len=0
  ·subst h0
   exact⟨⟨.slice (some a) 0 cap,[],rfl,rfl⟩,rfl, .inr ⟨rfl,a,cap,rfl⟩⟩
  ·have hex: ∀i,i<len→ ∃q:UInt16,W.cells? base (a.add (i*1)) 1=some (u16C q):=by
    intro i hi
    have h2:=hel i hi
    rw[List.getElem?_eq_getElem (by omega)] at h2
    cases hc:W.cells? base (a.add (i*1)) 1 with
    |none=>rw[hc] at h2;cases h2
    |some cs=>
     rw[hc] at h2
     obtain⟨z,hz,-,hw⟩:=DataW.trod_int Tryz.underlying169 h2
     obtain⟨q,hq⟩:=ajw_ hw
     exact⟨q,by rw[hz,hq];rfl⟩
   obtain⟨f,hf⟩: ∃f:Nat→UInt16,∀i,i<len→W.cells? base (a.add (i*1)) 1=some (u16C (f i)):=by
    classical
    refine⟨fun i=>if h:i<len then Classical.choose (hex i h) else 0,fun i hi=> ?_⟩
    simp only[dif_pos hi]
    exact Classical.choose_spec (hex i hi)
   obtain⟨-,-,hg⟩:=World.cells?_some (hf 0 (by omega))
   have hg0:=hg 0 (by omega)
   obtain⟨blk,off,spt⟩:=a
   have hcell:W.cell? ((Addr.mk blk off spt).add (0*1) |>.add 0)=some (v16 (f 0)):=hg0
   unfold World.cell? at hcell
   have hb: ((Addr.mk blk off spt).add (0*1) |>.add 0).block=blk:=rfl
   rw[hb] at hcell
   split at hcell
   ·rename_i arr E fz hh
    split at hcell
    ·cases hcell
    ·rename_i hsp
     have hspt:spt=none:=by
      cases spt with
      |none=>rfl
      |some q=>exact absurd rfl hsp
     subst hspt
     have hoff:off<arr.size:=(Array.getElem?_eq_some_iff.1 hcell).1
     have hll: ((List.range len).map f).length=len:=by simp
     have hgd: ∀i,i<len→((List.range len).map f).getD i 0=f i:=fun i hi=>by
      rw[List.getD_eq_getElem?_getD,List.getElem?_map,List.getElem?_range hi];rfl
     have hs:=ak8_ (W:=W) (base:=base) (b:=blk) (off:=off) (c:=cap) (l:=(List.range len).map f) (enc:=u16C) (z:=0) (by decide) ag8_ (fun i hi=>by
      rw[hll] at hi
      rw[hf i hi,hgd i hi]) hh (by omega) (by rw[hll];exact hl)
     rw[hll] at hs
     exact⟨⟨.slice (some ⟨blk,off,none⟩) len cap,(List.range len).map f,rfl,rfl⟩,rfl, .inl hs⟩
   ·cases hcell
end Go.Proofs
end
section
open Go Go.Proofs Go.Sx Go.StP Go.Flo
namespace Go.Proofs
set_option maxRecDepth 10000
set_option maxHeartbeats 1000000
set_option linter.unusedSimpArgs false
def Xw_:DataW Unit:= .agg [.lit (.string xj_), .lit (.string vv_), .lit (.string jc_)]
theorem Ji_ {W:World} {base:Nat} {sp:Nat→Bool} {held:Bool} {fuel:Nat} {cs:List Value} {p:List MemPlace}
  (hd:DataW.trod (fun _=>()) Tryz.prog W base sp held fuel 170 cs=some (Xw_,p)):cs= [vs xj_,vs vv_,vs jc_]:=by
 obtain⟨xs,m,-,hx,hlen,hxl,hel⟩:=DataW.trod_array Tryz.underlying170 hd
 have hc: (Tryz.prog).cellsOf 170=3:=by kernel_rfl
 have h1: (Tryz.prog).cellsOf 9=1:=by kernel_rfl
 rw[hc] at hlen
 rw[h1] at hel
 have hm:xs.map (·.1)= [.lit (.string xj_), .lit (.string vv_), .lit (.string jc_)]:=by
  have:=congrArg Prod.fst hx
  unfold Xw_ at this
  simp only[DataW.agg.injEq] at this
  exact this.symm
 have h0:=hel 0 (by omega)
 have h2:=hel 1 (by omega)
 have h3:=hel 2 (by omega)
 rw[List.getElem?_eq_getElem (by omega)] at h0 h2 h3
 obtain⟨s0,hs0,hy0,-⟩:=DataW.trod_string Tryz.underlying9 h0
 obtain⟨s1,hs1,hy1,-⟩:=DataW.trod_string Tryz.underlying9 h2
 obtain⟨s2,hs2,hy2,-⟩:=DataW.trod_string Tryz.underlying9 h3
 match xs,hxl,hm,hy0,hy1,hy2 with
 | [x0,x1,x2],_,hm,hy0,hy1,hy2=>
  simp only[List.map_cons,List.map_nil,List.cons.injEq,and_true] at hm
  simp only[List.getElem_cons_zero,List.getElem_cons_succ] at hy0 hy1 hy2
  obtain⟨m0,m1,m2⟩:=hm
  rw[hy0] at m0
  rw[hy1] at m1
  rw[hy2] at m2
  simp only[DataW.lit.injEq,Lit.string.injEq] at m0 m1 m2
  match cs,hlen with
  | [c0,c1,c2],_=>
   simp only[Nat.zero_mul,List.drop_zero,List.take_succ_cons,List.take_zero,List.cons.injEq,and_true,Nat.one_mul,List.drop_succ_cons,Nat.reduceMul] at hs0 hs1 hs2
   rw[hs0,hs1,hs2,←m0,←m1,←m2]
   rfl
theorem vO_ {W:World}: ∀ {laid:List (String×DataW Unit)} {ps:List MemPlace},DataW.LaidVars Tryz.prog W laid ps→("sediment/disk.order",Xw_)∈laid→Jr_ W
 | [],_,_,hm=>by cases hm
 | (n',d')::rest,ps,h,hm=>by
  obtain⟨g',t',cs,fuel,p,q,hg',ht',hvar,hd,hr,-⟩:=h
  rcases List.mem_cons.1 hm with hm|hm
  ·cases hm
   have hg: (Tryz.prog).globalNamed "sediment/disk.order" =some 0:=by kernel_rfl
   have hty: ((Tryz.prog).globals[(0:Nat)]?).map (·.type)=some 170:=by kernel_rfl
   obtain rfl:=Option.some.inj (hg.symm.trans hg')
   obtain rfl:=Option.some.inj (hty.symm.trans ht')
   have hcs:=Ji_ hd
   simp only[World.var?,hg,Option.bind_some] at hvar
   split at hvar
   ·rename_i cs' e f hb
    cases hvar
    refine⟨e,f, ?_⟩
    rw[hb]
    congr 2
    apply Array.ext'
    rw[hcs]
   ·cases hvar
  ·exact vO_ hr hm
end Go.Proofs
end
section
open Go Go.Proofs Go.Sx Go.StP
open Go.ChangeShapes Go.WideShapes Go.ChangeAt Go.RowKit Go.ChangeMaps
namespace Go.Proofs
set_option maxRecDepth 10000
set_option maxHeartbeats 1000000
set_option linter.unusedSimpArgs false
theorem agq_ {H:Type} {tell:TypeId×Value→H} {W:World} {base:Nat} {sp:Nat→Bool} {held:Bool} {n:Nat} {cs:List Value} {y:DataW H×List MemPlace}
  (h:DataW.trod tell Tryz.prog W base sp held n 24 cs=some y): ∃i:IdL,cs=i.l.map v8:=by
 obtain⟨xs,m,-,-,hlen,hxl,hel⟩:=DataW.trod_array Tryz.underlying24 h
 have hc: (Tryz.prog).cellsOf 24=32:=by kernel_rfl
 have h1: (Tryz.prog).cellsOf 5=1:=by kernel_rfl
 rw[hc] at hlen
 rw[h1] at hel
 have hex: ∀i (hi:i<cs.length),∃x:UInt8,cs[i]=v8 x:=by
  intro i hi
  have h2:=hel i (by omega)
  rw[List.getElem?_eq_getElem (by omega),Nat.mul_one,List.drop_eq_getElem_cons hi,List.take_succ_cons,List.take_zero] at h2
  obtain⟨z,hz,-,hw⟩:=DataW.trod_int Tryz.underlying5 h2
  simp only[List.cons.injEq,and_true] at hz
  rw[hz]
  simp only[Lit.wf,Bool.and_eq_true,decide_eq_true_eq] at hw
  have hw1:0≤z:=by simpa [IntKind.min,IntKind.bits,IntKind.signed] using hw.1
  have hw2:z≤255:=by simpa [IntKind.max,IntKind.bits,IntKind.signed] using hw.2
  refine⟨UInt8.ofNat z.toNat, ?_⟩
  unfold v8
  rw[UInt8.toNat_ofNat',Nat.mod_eq_of_lt (by omega)]
  congr 1;omega
 have hl: ∃l:List UInt8,cs=l.map v8:=by
  clear hel hlen hxl h
  induction cs with
  |nil=>exact⟨[],rfl⟩
  |cons c r ih=>
   obtain⟨x,hx⟩:=hex 0 (by simp)
   obtain⟨l,hl⟩:=ih (fun i hi=>by have:=hex (i+1) (by simpa using hi);simpa using this)
   exact⟨x::l,by rw[hl];simp at hx;simp[hx]⟩
 obtain⟨l,rfl⟩:=hl
 exact⟨⟨l,by simpa using hlen⟩,rfl⟩
theorem akm_ {H:Type} {tell:TypeId×Value→H} {W:World} {base:Nat} {sp:Nat→Bool} {held:Bool} (n:Nat) (cs:List Value) (y:DataW H×List MemPlace)
  (h:DataW.trod tell Tryz.prog W base sp held n 67 cs=some y): ∃a:AtL,cs=atC a∧PkS W a.picks.v a.picks.l∧(-9223372036854775808≤a.n∧a.n<9223372036854775808):=by
 obtain⟨xs,m,-,-,hlen,hxl,hel⟩:=DataW.trod_struct Tryz.underlying67 h
 have hc: (Tryz.prog).cellsOf 67=37:=by kernel_rfl
 have hci: (Tryz.prog).cellsOf 3=1:=by kernel_rfl
 have hcs: (Tryz.prog).cellsOf 9=1:=by kernel_rfl
 have hcd: (Tryz.prog).cellsOf 24=32:=by kernel_rfl
 have hcb: (Tryz.prog).cellsOf 4=1:=by kernel_rfl
 have hcp: (Tryz.prog).cellsOf 65=1:=by kernel_rfl
 rw[hc] at hlen
 have hxl:xs.length=6:=hxl
 have h0:DataW.trod tell Tryz.prog W base sp held m 3 ((cs.drop 0).take ((Tryz.prog).cellsOf 3))=xs[0]? :=hel 0 _ rfl
 rw[hci,List.getElem?_eq_getElem (by omega)] at h0
 have h1:DataW.trod tell Tryz.prog W base sp held m 3 ((cs.drop 1).take ((Tryz.prog).cellsOf 3))=xs[1]? :=hel 1 _ rfl
 rw[hci,List.getElem?_eq_getElem (by omega)] at h1
 have h2:DataW.trod tell Tryz.prog W base sp held m 9 ((cs.drop 2).take ((Tryz.prog).cellsOf 9))=xs[2]? :=hel 2 _ rfl
 rw[hcs,List.getElem?_eq_getElem (by omega)] at h2
 have h3:DataW.trod tell Tryz.prog W base sp held m 24 ((cs.drop 3).take ((Tryz.prog).cellsOf 24))=xs[3]? :=hel 3 _ rfl
 rw[hcd,List.getElem?_eq_getElem (by omega)] at h3
 have h4:DataW.trod tell Tryz.prog W base sp held m 4 ((cs.drop 35).take ((Tryz.prog).cellsOf 4))=xs[4]? :=hel 4 _ rfl
 rw[hcb,List.getElem?_eq_getElem (by omega)] at h4
 have h5:DataW.trod tell Tryz.prog W base sp held m 65 ((cs.drop 36).take ((Tryz.prog).cellsOf 65))=xs[5]? :=hel 5 _ rfl
 rw[hcp,List.getElem?_eq_getElem (by omega)] at h5
 obtain⟨k,hk,-,-⟩:=DataW.trod_int Tryz.underlying3 h0
 obtain⟨i,hi,-,hiw⟩:=DataW.trod_int Tryz.underlying3 h1
 obtain⟨u,hu,-,-⟩:=DataW.trod_string Tryz.underlying9 h2
 obtain⟨d,hd⟩:=agq_ h3
 obtain⟨b,hb,-⟩:=DataW.trod_bool Tryz.underlying4 h4
 obtain⟨p,hp,hpk⟩:=ak5_ h5
 refine⟨⟨k,i,u.data.toList,d,b,p⟩, ?_,hpk, ?_⟩
 ·have e1:cs=cs.take 1++ ((cs.drop 1).take 1++ ((cs.drop 2).take 1++ ((cs.drop 3).take 32++ ((cs.drop 35).take 1++ (cs.drop 36).take 1)))):=by
   have g5: (cs.drop 36).take 1=cs.drop 36:=List.take_of_length_le (by rw[List.length_drop];omega)
   have g4: (cs.drop 35).take 1++cs.drop 36=cs.drop 35:=by rw[show cs.drop 36=(cs.drop 35).drop 1 by rw[List.drop_drop]];exact List.take_append_drop _ _
   have g3: (cs.drop 3).take 32++cs.drop 35=cs.drop 3:=by rw[show cs.drop 35=(cs.drop 3).drop 32 by rw[List.drop_drop]];exact List.take_append_drop _ _
   have g2: (cs.drop 2).take 1++cs.drop 3=cs.drop 2:=by rw[show cs.drop 3=(cs.drop 2).drop 1 by rw[List.drop_drop]];exact List.take_append_drop _ _
   have g1: (cs.drop 1).take 1++cs.drop 2=cs.drop 1:=by rw[show cs.drop 2=(cs.drop 1).drop 1 by rw[List.drop_drop]];exact List.take_append_drop _ _
   rw[g5,g4,g3,g2,g1,List.take_append_drop]
  rw[List.drop_zero] at hk
  rw[e1,hk,hi,hu,hd,hb,hp]
  rfl
 ·simp only[Lit.wf,Bool.and_eq_true,decide_eq_true_eq] at hiw
  have g1: (-9223372036854775808:Int)≤i:=by simpa [IntKind.min,IntKind.bits,IntKind.signed] using hiw.1
  have g2:i≤9223372036854775807:=by simpa [IntKind.max,IntKind.bits,IntKind.signed] using hiw.2
  exact⟨g1,by show i<9223372036854775808;omega⟩
theorem ada_ {H:Type} {enc:TypeId×Value→H} {W:World} {r:Reach} {b0 base:Nat} {sp:Nat→Bool} {held:Bool} {v:Value} {d:DataW H} {p:List MemPlace}
  (hval:Value.okWide Tryz.prog W r b0 67 v) (hd:DataW.Trod enc Tryz.prog W base sp held 67 v d p): ∃a:AtL,v= .agg (atC a).toArray∧PkS W a.picks.v a.picks.l∧(-9223372036854775808≤a.n∧a.n<9223372036854775808):=by
 obtain⟨fu,hf⟩:=hd
 unfold Value.okWide at hval
 rw[Tryz.underlying67] at hval
 obtain⟨cs,rfl,-⟩:=hval
 rw[zg_] at hf
 obtain⟨a,ha,h2⟩:=akm_ fu _ _ hf
 exact⟨a,by obtain⟨l⟩:=cs;simp only at ha;rw[ha],h2⟩
theorem PkS.oldN {w w':World} {L:za_} {v:Value} {l:List UInt16} (h:PkS w v l) (hw:Hp w L w') (hN:New w.heap.size L):PkS w' v l:=by
 rcases h with h|h
 ·exact .inl (SlV.oldN h hw hN)
 ·exact .inr h
theorem afw_ (a:AtL) (w:World) (hG:Jr_ w∧GlobC w) (hp:PkS w a.picks.v a.picks.l):Rets Tryz.prog 9 #[.agg (atC a).toArray] w (fun v D=>v= .bool true∧D= []):=
 XX_ a w hG.1 hG.2 hp fun _ _ hw hN=>hp.oldN hw hN
end Go.Proofs
end
namespace Go.Sx
open Go
theorem afR_ {P:Program} {f:FuncId} {fn:Func} {s:ChangeSpec} {c:OpenClaim}
  (h1: (c.wf (OpenSpec.ofChange s))=true)
  (h2: (laidOutB P)=true)
  (h3: (mapsRowed P)=true)
  (h4: (fn.params.all (P.readableRec ·))=true)
  (h5: (namedTie P c.named s.vars)=true)
  (h6: ((c.stops== []))=true)
  (h7: ((P.stops== []))=true)
  (h8: ((c.knobs== []))=true)
  (h9: ((P.stopKnobs== []))=true)
  (h10: ((c.inPlace==P.inPlace f))=true)
  (h11: ((c.unfollowed==P.unfollowed f))=true)
  (h12: ((c.recurses==P.recurses f))=true)
  (h13: ((c.named==P.varsNamed f))=true)
  (h14: ((c.maps==(fn.params.toList++s.plain.varTypes P).any (P.mapsRec ·)))=true)
  (h15: ((c.ifaces==(fn.params.toList++s.plain.varTypes P).any (P.ifacesRec ·)))=true)
  (h16: ((c.mapsOut==P.mapsAmong fn.resultTypes.toList))=true)
  (h17: ((c.loops==(fn.params.toList++s.plain.varTypes P).any (P.loopsFrom ·)))=true)
  (h18: ((c.wideKeys==(fn.params.toList++s.plain.varTypes P++fn.resultTypes.toList).any (P.wideKeysFrom ·)))=true)
  (h19: (s.vars.all (P.varReadable ·))=true)
  (h20: (fn.resultTypes.all (fun t=>P.readableRec t&&decide (t<P.types.size)))=true)
  (h21: ((c.ifacesOut==fn.resultTypes.toList.any (P.ifacesRec ·)))=true)
  (h22: ((c.loopsOut==fn.resultTypes.toList.any (P.loopsFrom ·)))=true)
  (h23: ((c.plainKeys==P.plainKeys))=true)
  (h24: (c.shortTexts.isNone)=true)
  (h25: (P.stopsHeard)=true)
  (h26: (P.mayEnter)=true)
  (h27: ((c.lifted==P.liftsFinal))=true)
  (h28: ((P.make==some c.make))=true)
  (h29: ((c.kinds==(if c.domain.isEmpty then [] else fn.params.toList.map fun t=>match P.underlying t with|some (.int k)=>some k|_=>none)))=true)
  (h30: ((c.pinned==c.pinnedBy))=true)
  (h31: ((c.veiled==(fn.params.toList++s.plain.varTypes P++fn.resultTypes.toList).any (P.veiledRec ·)))=true)
  (h32: (c.veiledFits P fn.params.toList (fn.params.toList++s.plain.varTypes P++fn.resultTypes.toList))=true):
  joinedFacts P f fn s c=true:=by
 unfold joinedFacts
 exact(Bool.and_eq_true_iff.2 ⟨(Bool.and_eq_true_iff.2 ⟨(Bool.and_eq_true_iff.2 ⟨(Bool.and_eq_true_iff.2 ⟨(Bool.and_eq_true_iff.2 ⟨(Bool.and_eq_true_iff.2 ⟨(Bool.and_eq_true_iff.2 ⟨(Bool.and_eq_true_iff.2 ⟨(Bool.and_eq_true_iff.2 ⟨(Bool.and_eq_true_iff.2 ⟨(Bool.and_eq_true_iff.2 ⟨(Bool.and_eq_true_iff.2 ⟨(Bool.and_eq_true_iff.2 ⟨(Bool.and_eq_true_iff.2 ⟨(Bool.and_eq_true_iff.2 ⟨(Bool.and_eq_true_iff.2 ⟨(Bool.and_eq_true_iff.2 ⟨(Bool.and_eq_true_iff.2 ⟨(Bool.and_eq_true_iff.2 ⟨(Bool.and_eq_true_iff.2 ⟨(Bool.and_eq_true_iff.2 ⟨(Bool.and_eq_true_iff.2 ⟨(Bool.and_eq_true_iff.2 ⟨(Bool.and_eq_true_iff.2 ⟨(Bool.and_eq_true_iff.2 ⟨(Bool.and_eq_true_iff.2 ⟨(Bool.and_eq_true_iff.2 ⟨(Bool.and_eq_true_iff.2 ⟨(Bool.and_eq_true_iff.2 ⟨(Bool.and_eq_true_iff.2 ⟨(Bool.and_eq_true_iff.2 ⟨h1,h2⟩),h3⟩),h4⟩),h5⟩),h6⟩),h7⟩),h8⟩),h9⟩),h10⟩),h11⟩),h12⟩),h13⟩),h14⟩),h15⟩),h16⟩),h17⟩),h18⟩),h19⟩),h20⟩),h21⟩),h22⟩),h23⟩),h24⟩),h25⟩),h26⟩),h27⟩),h28⟩),h29⟩),h30⟩),h31⟩),h32⟩)
end Go.Sx
