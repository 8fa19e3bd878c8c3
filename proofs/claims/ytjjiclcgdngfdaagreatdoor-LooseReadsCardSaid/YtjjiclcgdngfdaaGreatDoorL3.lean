/-
  Part 3 of the walk: contracts of the functions that the law reaches, and the calculus they stand on.
  No conditions.
-/
import Derived.Test.YtjjiclcgdngfdaaGreatDoorL2
import Derived.Shelf.SlIter.Nil
import Derived.Shelf.SortM.Plain
import Derived.Shelf.SortM.SortNone
import Derived.Ground.GgzProg
import Derived.Ground.SlgmProg
section
open Go Go.Proofs Go.Sx Go.StP Go.Flo
namespace Go.Proofs
set_option maxRecDepth 10000
set_option maxHeartbeats 400000
set_option linter.unusedSimpArgs false
def magI:List UInt8:= [83,73,88,49]
def rowB (r:RwL):List UInt8:=r.id.l++ (v8_ (qs_ r.place)++v8_ (qs_ r.spot))
def auv_ (l:List RwL):List UInt8:=(l.map rowB).flatten
def atJ_ (F:List Nat):List Int:=F.map fun(n:Nat)=>(n:Int)
def atS_ (F:List Nat):List UInt8:=Zt_ (atJ_ F)
def idxB (s:List UInt8) (l:List RwL):List UInt8:=magI++ (s++ (v8_ (qs_ (l.length:Int))++ (atS_ (fanL l)++auv_ l)))
def aj5_ (s:List UInt8) (l:List RwL):Bool:=okTo l l.length&& (decide (s.length=4)&&decide (l.length≤200))
def auP_ (s:List UInt8) (l:List RwL):List UInt8×Int:=if aj5_ s l=true then(wa_ (idxB s l),0) else([],1)
def numP (s:List UInt8) (q:Nat×Int):Int×Nat×Int:=zH_ s q.1 q.2 1099511627775
def rowR (s:List UInt8) (a:Nat) (e:Int):RwL×Nat×Int:=
 (⟨wp_ (idR s a e).1,(numP s (idR s a e).2).1,(numP s (numP s (idR s a e).2).2).1⟩,(numP s (numP s (idR s a e).2).2).2)
def ary_ (s:List UInt8):Nat→Nat×Int→List RwL×Nat×Int
 |0,q=>([],q)
 |k+1,q=>((rowR s q.1 q.2).1:: (ary_ s k (rowR s q.1 q.2).2).1,(ary_ s k (rowR s q.1 q.2).2).2)
def ar7_ (s:List UInt8) (m:Int):Nat→Nat×Int→Nat×Int
 |0,q=>q
 |k+1,q=>ar7_ s m k (zH_ s q.1 q.2 m).2
def Qc_ (s:List UInt8) (f:Int→Int):List UInt8×List RwL×Nat×Int:=
 ((jP_ s 0 0 8).1.drop 4,ary_ s (zH_ s (jP_ s 0 0 8).2.1 (jP_ s 0 0 8).2.2 200).1.toNat (ar7_ s (f (zH_ s (jP_ s 0 0 8).2.1 (jP_ s 0 0 8).2.2 200).1) 16 (zH_ s (jP_ s 0 0 8).2.1 (jP_ s 0 0 8).2.2 200).2))
def avB_ (b:List UInt8):Option (List UInt8×List RwL):=
 if xw_ (zw_ b).1 (Qc_ (zw_ b).1 id).2.2.1 (Qc_ (zw_ b).1 id).2.2.2=0∧aj5_ (Qc_ (zw_ b).1 id).1 (Qc_ (zw_ b).1 id).2.1=true∧wa_ (idxB (Qc_ (zw_ b).1 id).1 (Qc_ (zw_ b).1 id).2.1)=b then some ((Qc_ (zw_ b).1 id).1,(Qc_ (zw_ b).1 id).2.1) else none
def avw_ (b:List UInt8):Prop:=(zw_ b).2=true∧8≤ (zw_ b).1.length∧xw_ (zw_ b).1 (Qc_ (zw_ b).1 fun _=>200).2.2.1 (Qc_ (zw_ b).1 fun _=>200).2.2.2=0∧aj5_ (Qc_ (zw_ b).1 fun _=>200).1 (Qc_ (zw_ b).1 fun _=>200).2.1=true∧wa_ (idxB (Qc_ (zw_ b).1 fun _=>200).1 (Qc_ (zw_ b).1 fun _=>200).2.1)=b
def avF_ (l:List RwL) (x:IdL):RwL×Bool:=match l.find? (fun r=>r.id.l==x.l) with
 |some r=>(r,true)
 |none=>(rw0,false)
def avP_ (l:List RwL) (d:Nat):Nat:=if d=0 then 0 else fanV l (d - 1)
end Go.Proofs
end
section
open Go Go.Proofs Go.Sx Go.StP Go.Flo
namespace Go.Proofs
set_option maxRecDepth 10000
set_option maxHeartbeats 400000
set_option linter.unusedSimpArgs false
theorem afE_ {D:za_} {E:TypeId} {m n:Nat} {v:Value} {cs:List Value} (h:GrI D E m v n cs) (x:Bool×Nat):lenV (.sl x) v=some (vi n):=by
 obtain⟨X,-,h⟩:=h;exact h.len x
structure FiG where
 k:Nat
 ids:List IdL
 os:List ObL
 x2:Value
 x3:Value
 D2:za_
 D3:za_
 DG:za_
set_option linter.defProp false
def axb_:=And.intro (And.intro (And.intro (@zc_) (@zb_)) (And.intro (@Sx.tup2_0) (@Sx.tup2_1))) (And.intro (And.intro (@qb_) (@zP_)) (And.intro (@zO_) (And.intro (@zS_) (@qU_))))
end Go.Proofs
end
section
open Go Go.Proofs Go.Sx Go.StP Go.Flo
namespace Go.Proofs
set_option maxRecDepth 10000
set_option maxHeartbeats 400000
set_option linter.unusedSimpArgs false
def wrO (s:List UInt8) (a:Nat) (e:Int):Obj:= .cells #[vs s,vi a,vi e] 250 (0,0)
theorem afD_ (p:PartL) (E:TypeId) (a:Bool) (x:Bool):zn_ (some (a,1)) (some (.cells (xa_ p).toArray E (0,0))) 0 (.bool x)=some (.cells (xa_ ⟨x,p.b,p.x⟩).toArray E (0,0)):=(rfl)
theorem adK_ (p:PartL) (E:TypeId) (a:Bool) (x:Int):zn_ (some (a,1)) (some (.cells (xa_ p).toArray E (0,0))) 1 (vi x)=some (.cells (xa_ ⟨p.d,x,p.x⟩).toArray E (0,0)):=(rfl)
theorem w9_ (p:PartL) (E:TypeId):zo_ (some (true,3)) (some (.cells (xa_ p).toArray E (0,0))) 0=some (.agg (xa_ p).toArray):=v2_ (n:=3) [] (xa_ p) [] E (0,0) rfl rfl
set_option linter.defProp false
def axf_:=And.intro (And.intro (And.intro (@zc_) (And.intro (@zb_) (@Sx.tup2_0))) (And.intro (@Sx.tup2_1) (And.intro (@jH_) (@jC_)))) (And.intro (And.intro (@jD_) (And.intro (@w9_) (@jk_))) (And.intro (@V7_) (And.intro (@afD_) (@adK_))))
structure RdG where
 lab:Nat
 l:List PartL
 sp:List Nat
 a:Nat
 e:Int
 v1:Value
 v2:Value
 b4:Nat
 q:PartL
 D1:za_
 D2:za_
 DG:za_
def RdJ (s:List UInt8) (n a0:Nat) (e0:Int) (sz:Nat) (g:RdG):Prop:=
 sz≤g.b4∧New sz g.D1∧New sz g.D2∧New sz g.DG∧Gr g.D1 279 3 g.v1 g.l.length (g.l.map xa_).flatten∧Gr g.D2 3 1 g.v2 g.sp.length (g.sp.map natC).flatten∧g.sp.length=g.l.length∧g.a≤s.length∧g.l.length≤n∧
  ((g.lab=1∧vV_ s n 0 a0 e0=(g.l++ (vV_ s (n - g.l.length) g.l.length g.a g.e).1,g.sp++ (vV_ s (n - g.l.length) g.l.length g.a g.e).2.1,(vV_ s (n - g.l.length) g.l.length g.a g.e).2.2))∨
  (g.lab=0∧vV_ s n 0 a0 e0=(g.l,g.sp,g.a,g.e)))
def RdL (g:RdG):Nat:=match g.lab with
 |1=>1
 |_=>0
end Go.Proofs
end
section
open Go Go.Proofs Go.Sx Go.StP Go.Flo
namespace Go.Proofs
set_option maxRecDepth 10000
set_option maxHeartbeats 400000
set_option linter.unusedSimpArgs false
abbrev awT_ (w:World) (v:Value) (l:List Nat):Prop:=SlV 1 natC 0 w v l
abbrev ObSl (w:World) (v:Value) (l:List ObL):Prop:=SlV 2 obC ob0 w v l
set_option linter.defProp false
def avh_:=And.intro (And.intro (@zc_) (And.intro (@zb_) (@qb_))) (And.intro (And.intro (@zP_) (@zO_)) (And.intro (@zS_) (@qU_)))
def hasV (l:List PartL) (i:Int):Bool:=decide (0≤i)&&decide (i< (l.length:Int))
end Go.Proofs
end
section
open Go Go.Proofs Go.Sx Go.StP Go.Flo
namespace Go.Proofs
set_option maxRecDepth 10000
set_option maxHeartbeats 400000
set_option linter.unusedSimpArgs false
def auJ_ (l:List PartL):Prop:= ∀g,g<l.length→(l.getD g Q9_).x.length≤17000000
structure PwG where
 k:Nat
 D:za_
set_option linter.defProp false
def av2_:=And.intro (And.intro (And.intro (@zc_) (@zb_)) (And.intro (@jH_) (And.intro (@jC_) (@jD_)))) (And.intro (And.intro (@w9_) (@jk_)) (And.intro (@V7_) (And.intro (@Sx.tup2_0) (@Sx.tup2_1))))
end Go.Proofs
end
section
open Go Go.Proofs Go.Sx Go.StP Go.Flo
namespace Go.Proofs
set_option maxRecDepth 10000
set_option maxHeartbeats 400000
set_option linter.unusedSimpArgs false
set_option linter.defProp false
def avo_:=And.intro (@zc_) (@zb_)
structure IwG where
 k:Nat
 D:za_
set_option linter.defProp false
def awy_:=And.intro (And.intro (And.intro (@zc_) (@zb_)) (And.intro (@kg_) (And.intro (@wM_) (@Xi_)))) (And.intro (And.intro (@Xt_) (@J4_)) (And.intro (@xN_) (And.intro (@Sx.tup2_0) (@Sx.tup2_1))))
end Go.Proofs
end
section
open Go Go.Proofs Go.Sx Go.StP Go.Flo
namespace Go.Proofs
set_option maxRecDepth 10000
set_option maxHeartbeats 400000
set_option linter.unusedSimpArgs false
theorem eqDi (a b:Int):eqD Tryz.prog 7 3 (vi a) (vi b)=some (a==b):=by unfold eqD;rw[Tryz.underlying3];rfl
theorem eqDs (a b:List UInt8):eqD Tryz.prog 7 9 (vs a) (vs b)=some (a==b):=by unfold eqD;rw[Tryz.underlying9];simp only[vs,KP_]
theorem eqDb (a b:Bool):eqD Tryz.prog 7 4 (.bool a) (.bool b)=some (a==b):=by unfold eqD;rw[Tryz.underlying4];rfl
theorem agI:zZ_ Tryz.prog 3=some (false,1):=id (by kernel_rfl)
theorem agS:zZ_ Tryz.prog 9=some (false,1):=id (by kernel_rfl)
theorem agB:zZ_ Tryz.prog 4=some (false,1):=id (by kernel_rfl)
theorem asX_ (a b:ObL):eqD Tryz.prog 8 82 (obV a.k a.t) (obV b.k b.t)=some (decide (a=b)):=by
 have p0: ∀o:ObL,Sx.partV (false,1) #[vi o.k,vs o.t] 0=some (vi o.k):=fun _=>rfl
 have p1: ∀o:ObL,Sx.partV (false,1) #[vi o.k,vs o.t] 1=some (vs o.t):=fun _=>rfl
 unfold eqD obV
 rw[Tryz.underlying82]
 simp only
 rw[show Tryz.prog.stoodInHeld 82=false by kernel_rfl]
 simp only[Bool.false_eq_true, ↓reduceIte,xV_,kv_,agI,agS,p0,p1,eqDi,eqDs]
 obtain⟨k,t⟩:=a
 obtain⟨k',t'⟩:=b
 have e:decide ((⟨k,t⟩:ObL)=⟨k',t'⟩)=((k==k')&& (t==t')):=by rw[Bool.eq_iff_iff];simp
 rw[e]
 cases(k==k')<;>cases(t==t')<;>rfl
theorem aqE_ (a b:ObL):qy_ Tryz.prog .eql 82 (obV a.k a.t) (obV b.k b.t)=some (.bool (decide (a=b))):=by
 have h:=asX_ a b
 unfold qy_ eqX obV at*;rw[show Tryz.prog.eqGuardType Tryz.prog.depth 82=false by kernel_rfl];simp[qk_,h]
theorem aud_ (a b:ObL):qy_ Tryz.prog .neq 82 (obV a.k a.t) (obV b.k b.t)=some (.bool (!decide (a=b))):=by
 have h:=asX_ a b
 unfold qy_ eqX obV at*;rw[show Tryz.prog.eqGuardType Tryz.prog.depth 82=false by kernel_rfl];simp[qk_,h]
instance:DecidableEq PartL:=fun a b=>if h:a.d=b.d∧a.b=b.b∧a.x=b.x then .isTrue (by cases a;cases b;simp only at h;obtain⟨rfl,rfl,rfl⟩:=h;rfl) else .isFalse (fun e=>h (by rw[e];exact⟨rfl,rfl,rfl⟩))
theorem ap4_ (a b:PartL):eqD Tryz.prog 8 279 (.agg (xa_ a).toArray) (.agg (xa_ b).toArray)=some (decide (a=b)):=by
 have p0: ∀o:PartL,Sx.partV (false,1) (xa_ o).toArray 0=some (.bool o.d):=fun _=>rfl
 have p1: ∀o:PartL,Sx.partV (false,1) (xa_ o).toArray 1=some (vi o.b):=fun _=>rfl
 have p2: ∀o:PartL,Sx.partV (false,1) (xa_ o).toArray 2=some (vs o.x):=fun _=>rfl
 unfold eqD
 rw[Tryz.underlying279]
 simp only
 rw[show Tryz.prog.stoodInHeld 279=false by kernel_rfl]
 simp only[Bool.false_eq_true, ↓reduceIte,xV_,kv_,agI,agS,agB,p0,p1,p2,eqDi,eqDs,eqDb]
 obtain⟨d,k,t⟩:=a
 obtain⟨d',k',t'⟩:=b
 have e:decide ((⟨d,k,t⟩:PartL)=⟨d',k',t'⟩)=((d==d')&& ((k==k')&& (t==t'))):=by rw[Bool.eq_iff_iff];simp
 rw[e]
 simp only[ne_eq,String.reduceEq,not_false_eq_true, ↓reduceIte]
 cases(d==d')<;>cases(k==k')<;>cases(t==t')<;>rfl
theorem aqI_ (a b:PartL):qy_ Tryz.prog .neq 279 (.agg (xa_ a).toArray) (.agg (xa_ b).toArray)=some (.bool (!decide (a=b))):=by
 have h:=ap4_ a b
 unfold qy_ eqX;rw[show Tryz.prog.eqGuardType Tryz.prog.depth 279=false by kernel_rfl];simp[qk_,h]
def idxO (x:ObL):List ObL→Nat→Int
 | [],_=> -1
 |y::r,i=>if x=y then(i:Int) else idxO x r (i+1)
set_option linter.defProp false
def awx_:=And.intro (And.intro (@aqE_) (And.intro (@qb_) (@zP_))) (And.intro (@zO_) (And.intro (@zc_) (@zb_)))
end Go.Proofs
end
section
open Go Go.Proofs Go.Sx Go.StP Go.Flo
namespace Go.Proofs
set_option maxRecDepth 10000
set_option maxHeartbeats 400000
set_option linter.unusedSimpArgs false
set_option linter.defProp false
def awE_:=And.intro (And.intro (@zc_) (@zb_)) (And.intro (@Sx.tup2_0) (@Sx.tup2_1))
end Go.Proofs
end
section
open Go Go.Proofs Go.Sx Go.StP Go.Flo
namespace Go.Proofs
set_option maxRecDepth 10000
set_option maxHeartbeats 400000
set_option linter.unusedSimpArgs false
structure OiG where
 k:Nat
 q:Nat×Int
structure OrG where
 l:List RwL
 q:Nat×Int
 v:Value
 D1:za_
 DG:za_
set_option linter.defProp false
def awd_:=And.intro (And.intro (And.intro (@zc_) (And.intro (@zb_) (@kg_))) (And.intro (@wM_) (And.intro (@Xi_) (@Xt_)))) (And.intro (And.intro (@J4_) (And.intro (@xN_) (@ajx_))) (And.intro (@akb_) (And.intro (@Sx.tup2_0) (@Sx.tup2_1))))
end Go.Proofs
end
section
open Go Go.Proofs Go.Sx Go.Dig
namespace Go.Proofs
set_option maxRecDepth 10000
set_option maxHeartbeats 1000000
set_option linter.unusedSimpArgs false
set_option linter.defProp false
def jg_:=And.intro (@zc_) (@zb_)
theorem aoL_ (id:List UInt8) (hid:id.length=32) (w:World):Rets Tryz.prog 107 #[.agg (a8 id)] w (fun v D=>v=vs (qa_ id)∧D= []):=by
 refine Rets.enterV Tryz.func107 rfl (rs:= [.tmp 2]) Tryz.results107 Tryz.ntmps107 ?_
 refine kf ?_
 first|with_reducible refine ks [] @jg_ ?_|refine kp @jg_ ?_
 refine Ow.box rfl rfl fun b1 hb1 hw1=> ?_
 refine ko @jg_ ?_
 first|with_reducible refine ks [] @jg_ ?_|refine kp @jg_ ?_
 refine Ow.alloc rfl rfl Tryz.zr218 fun b2 hb2 hw2=> ?_
 refine ko @jg_ ?_
 first|with_reducible refine ks [] @jg_ ?_|refine kp @jg_ ?_
 obtain⟨h12,-⟩:=hb2
 refine Cw.loopG (G:=Nat) [8,9,10,4,5,11,12,13,14,15,16,17,18,19,20,21,22,23,24,7] (fun g=> [(7,vi g)]) (fun g=> [(b1, .cells (a8 id) 84),(b2, .cells (a8 (JM_ id g)) 218)]) (fun g=>g≤32) (fun g=>32 - g) 0 rfl rfl ?_ ?_
 ·omega
 intro g j hg
 refine kv ?_
 by_cases hlt:g<32
 ·have hl:=QT_ id g hid hg
  first|with_reducible refine ks [] @jg_ ?_|refine kp @jg_ ?_
  have h4:=ap1_ (id.getD g 0)
  have h15:=aoa_ (id.getD g 0)
  refine Cw.regionO [0,1,2,3,4,5,6,7,8,9,10,11,12,13,14] [12,14] rfl (by kernel_rfl) (by kernel_rfl) ?_
  simp only[zp_, ↓zi_, ↓ze_, ↓zA_, ↓zz_,zf_]
  refine kq @jg_ ?_
  refine Ow.store rfl rfl rfl (ke @jg_) ?_
  refine ko @jg_ ?_
  first|with_reducible refine ks [] @jg_ ?_|refine kp @jg_ ?_
  refine Again.mk (g+1) (by omega) (by omega) ?_ rfl
  exact congrArg (fun l=> [(b1,Obj.cells (a8 id) 84),(b2,Obj.cells (a8 l) 218)]) (ae4_ id g hid hlt _ _ (are_ _) (am8_ _))
 ·have hg32:g=32:=by omega
  subst hg32
  have hl:=QT_ id 32 hid (by omega)
  first|with_reducible refine ks [] @jg_ ?_|refine kp @jg_ ?_
  exact⟨_,rfl,⟨hw1,hw2,trivial⟩,by show vs _=_;rw[List.drop_zero,List.take_of_length_le (by omega),aik_ id hid]⟩
theorem vE_ (id:List UInt8) (hid:id.length=32) (w:World):Rets Tryz.prog 53 #[.agg (a8 id)] w (fun v D=>v=vs (qa_ id)∧D= []):=by
 refine Rets.enterV Tryz.func53 rfl (rs:= [.tmp 2]) Tryz.results53 Tryz.ntmps53 ?_
 refine kf ?_
 first|with_reducible refine ks [] @jg_ ?_|refine kp @jg_ ?_
 refine Ow.box rfl rfl fun b1 _ hw1=> ?_
 refine ko @jg_ ?_
 first|with_reducible refine ks [] @jg_ ?_|refine kp @jg_ ?_
 refine Cw.loopG (G:=Nat) [7,8,11,12,13,14,15,16,17,18,19,20,5,6,21,22,23,24,25,26,27,28,29,30,31,3,9,10,4] (fun g=> [(4,vi g),(3,vs (qa_ (id.take g)))]) (fun g=> [(b1, .cells (a8 id) 84)]) (fun g=>g≤32) (fun g=>32 - g) 0 rfl rfl ?_ ?_
 ·omega
 intro g j hg
 refine kv ?_
 by_cases hlt:g<32
 ·have hl: (qa_ (id.take g)).length≤64:=by rw[ja_,List.length_take];omega
  have hx:=(id.getD g 0).toNat_lt
  have e1: ((hexL.take ((id.getD g 0).toNat / 16+1)).drop ((id.getD g 0).toNat / 16))=_:=alD_ _ (by omega)
  have e2: ((hexL.take ((id.getD g 0).toNat%16+1)).drop ((id.getD g 0).toNat%16))=_:=alD_ _ (by omega)
  simp only[hexL] at e1 e2
  first|with_reducible refine ks [] @jg_ ?_|refine kp @jg_ ?_
  refine Cw.regionO [0,1,5,6,2,3,4,10,7,8,9,11] [] rfl (by kernel_rfl) (by kernel_rfl) ?_
  simp only[zp_, ↓zi_, ↓ze_, ↓zA_, ↓zz_,zf_]
  refine kq @jg_ ?_
  first|with_reducible refine ks [] @jg_ ?_|refine kp @jg_ ?_
  refine Cw.regionO [0,1,2,3,4,5,6,7,8,9,10,11] [] rfl (by kernel_rfl) (by kernel_rfl) ?_
  simp only[zp_, ↓zi_, ↓ze_, ↓zA_, ↓zz_,zf_]
  refine kq (And.intro @jg_ (And.intro @e1 (@e2))) ?_
  first|with_reducible refine ks [] @jg_ ?_|refine kp @jg_ ?_
  refine Again.mk (g+1) (by omega) (by omega) rfl ?_
  rw[akM_ id g hid hlt]
  rfl
 ·have hg32:g=32:=by omega
  subst hg32
  first|with_reducible refine ks [] @jg_ ?_|refine kp @jg_ ?_
  exact⟨_,rfl,⟨hw1,trivial⟩,by show vs _=_;rw[List.take_of_length_le (by omega)]⟩
theorem WV_ (s p:List UInt8) (w:World) (_hs:s.length<1099511627776):Rets Tryz.prog 174 #[vs s,vs p] w (fun v D=>v= .bool (decide (p.length≤s.length)&& (s.take p.length==p))∧D= []):=by
 refine Rets.enterV Tryz.func174 rfl (rs:= [.tmp 4]) Tryz.results174 Tryz.ntmps174 ?_
 refine kf ?_
 by_cases h:p.length≤s.length
 ·have e1:decide ((p.length:Int)≤ (s.length:Int))=true:=decide_eq_true (by omega)
  first|with_reducible refine ks [] (And.intro @jg_ @e1) ?_|refine kp (And.intro @jg_ @e1) ?_
  refine⟨_,(ke @jg_),trivial, ?_⟩
  simp[xS_,h]
 ·have e1:decide ((p.length:Int)≤ (s.length:Int))=false:=decide_eq_false (by omega)
  first|with_reducible refine ks [] (And.intro @jg_ @e1) ?_|refine kp (And.intro @jg_ @e1) ?_
  refine⟨_,(ke @jg_),trivial, ?_⟩
  simp[xS_,h]
end Go.Proofs
end
section
open Go Go.Proofs Go.Sx Go.StP Go.Flo Go.Dig
namespace Go.Proofs
set_option maxRecDepth 10000
set_option maxHeartbeats 400000
set_option linter.unusedSimpArgs false
theorem asZ_ (v:Value) (n:Nat) (E:TypeId) (fz:Nat×Nat):zo_ (some (false,n)) (some (.cells #[v] E fz)) 0=some v:=(rfl)
theorem aod_:Value.cells (.pointer none)= #[.pointer none]:=(rfl)
theorem aoP_ (b o:Nat):Value.cells (vp b o)= #[vp b o]:=(rfl)
def bsGo (p:Nat→Bool) (i j:Nat):Nat:=if i<j then(if p ((i+j) / 2)=true then bsGo p i ((i+j) / 2) else bsGo p ((i+j) / 2+1) j) else i
termination_by j - i
decreasing_by all_goals omega
section
variable {P:Program} {w0:World} {f:Fr} {L:za_} {N:Fr→za_→Prop} {ops:Array Oper} {rest:List Oper} {md:Md} {d:Option Tmp} {ty:TypeId} {ps:String} {af:Array Edge} {g:Option (Nat×Bool)}
end
structure SrG where
 i:Nat
 j:Nat
set_option linter.defProp false
def avt_:=And.intro (@zc_) (And.intro (@zb_) (@abm_))
set_option linter.defProp false
def avv_:=And.intro (And.intro (And.intro (@zc_) (And.intro (@zb_) (@asZ_))) (And.intro (And.intro (@aod_) (@aoP_)) (And.intro (@qU_) (@wM_)))) (And.intro (And.intro (@Xi_) (And.intro (@Xt_) (@J4_))) (And.intro (And.intro (@kg_) (@xN_)) (And.intro (@Sx.tup2_0) (@Sx.tup2_1))))
def askP (l:List RwL) (x:IdL) (from_:Nat) (k:Nat):Bool:=decide (0≤cmpI (l.getD (from_+k) rw0).id x)
def asj_ (pre:List UInt8) (r:RwL):Bool:=decide (pre.length≤ (qa_ r.id.l).length)&& ((qa_ r.id.l).take pre.length==pre)
def auS_ (l:List RwL) (pre:List UInt8):List RwL:=l.filter (asj_ pre)
structure UnG where
 k:Nat
 v:Value
 D1:za_
 DG:za_
end Go.Proofs
end
section
open Go Go.Proofs Go.Sx Go.StP Go.Flo
namespace Go.Proofs
set_option maxRecDepth 100000
set_option maxHeartbeats 1000000
set_option linter.unusedSimpArgs false
structure LnL where
 id:IdL
 share:Int
 place:Int
 spot:Int
def lnC (r:LnL):List Value:=r.id.l.map v8++ ([vi r.share]++ ([vi r.place]++ ([vi r.spot])))
def ln0:LnL:=⟨id0,0,0,0⟩
theorem anr_ (r:LnL):Value.cells (.agg (lnC r).toArray)=(lnC r).toArray:=zd_ _
theorem as3_ (r:LnL):lnC r=([]:List Value)++ ((r.id.l.map v8)++ ([vi r.share]++ ([vi r.place]++ ([vi r.spot])))):=by
 unfold lnC;simp only[List.append_assoc,List.nil_append,List.append_nil]
theorem anP_ (r:LnL) (E:TypeId) (fz:Nat×Nat):zo_ (some (true,32)) (some (.cells (lnC r).toArray E fz)) 0=some (Value.agg (a8 r.id.l)):=by
 rw[as3_,v2_ _ _ _ E fz (by simp) (by simp[r.id.h])];rfl
structure ShL where
 name:List UInt8
 bytes:List UInt8
def shC (r:ShL):List Value:= [vs r.name]++ ([vs r.bytes])
def sh0:ShL:=⟨[],[]⟩
theorem an1_ (r:ShL):Value.cells (.agg (shC r).toArray)=(shC r).toArray:=zd_ _
theorem arN_ (r:ShL):shC r=([]:List Value)++ (([vs r.name])++ ([vs r.bytes])):=by
 unfold shC;simp only[List.append_assoc,List.nil_append,List.append_nil]
theorem amK_ (r:ShL) (n:Nat) (E:TypeId) (fz:Nat×Nat):zo_ (some (false,n)) (some (.cells (shC r).toArray E fz)) 0=some (vs r.name):=by
 rw[arN_];exact zN_ _ _ _ n E fz (by simp)
def awV_ (s:List UInt8):Bool:=s.all (fun c=> !(decide (c<33) ||decide (126<c)))&& (!(s== [])&&decide (s.length≤40))
def numM (n:Int):Bool:=decide (0≤n)&&decide (n≤1099511627775)
def risG (c:Nat→Int):Nat→Bool
 |0=>true
 |k+1=>risG c k&& (decide (k=0) ||decide (c k<0))
def aww_ (l:List (List UInt8)) (k:Nat):Int:=cmpS (l.getD (k - 1) []) (l.getD k [])
def axk_ (l:List LnL) (k:Nat):Int:=cmpI (l.getD (k - 1) ln0).id (l.getD k ln0).id
abbrev akV_ (w:World) (v:Value) (l:List (List UInt8)):Prop:=SlV 1 strC [] w v l
abbrev LnSl (w:World) (v:Value) (l:List LnL):Prop:=SlV 35 lnC ln0 w v l
theorem adZ_ {w:World} {v:Value} {l:List (List UInt8)} {b off:Nat} {arr:Array Value} {E:TypeId} {fz:Nat×Nat} (h:RowS 1 strC [] w v l b off arr E fz) {k:Nat} (hk:k<l.length) (n:Nat):
  zo_ (some (false,n)) (some (.cells arr E fz)) (off+k)=some (vs (l.getD k [])):=by
 have:=h.cell (j:=0) (n:=n) hk (by omega)
 rwa [Nat.mul_one,Nat.add_zero] at this
set_option linter.defProp false
def avi_:=And.intro (And.intro (@zc_) (And.intro (@zb_) (@anr_))) (And.intro (@anP_) (And.intro (@amK_) (@an1_)))
end Go.Proofs
end
section
open Go Go.Proofs Go.Sx Go.StP
namespace Go.Proofs
set_option maxRecDepth 10000
set_option maxHeartbeats 400000
set_option linter.unusedSimpArgs false
def qY_ (s:List UInt8):Bool:= !(s== [])&&decide (s.length≤80)&& !(s.any Q5_)
set_option linter.defProp false
def qJ_:=And.intro (And.intro (And.intro (@zc_) (And.intro (@kV_) (@vX_))) (And.intro (And.intro (@vJ_) (@zb_)) (And.intro (@agG_) (@Ka_)))) (And.intro (And.intro (And.intro (@KG_) (@XM_)) (And.intro (@akr_) (@JO_))) (And.intro (And.intro (@Sx.tup3_0) (@Sx.tup3_1)) (And.intro (@Sx.tup3_2) (@eqb))))
theorem acv_ (c:Int) (w:World):Rets Tryz.prog 119 #[Vm_ c] w (fun v D=>v= .bool (badR c)∧D= []):=by
 refine Rets.enterV Tryz.func119 rfl (rs:= [.tmp 2]) Tryz.results119 Tryz.ntmps119 ?_
 refine kf ?_
 unfold badR
 cases h1:decide (c<33)
 ·cases h2:decide (126<c)
  ·first|with_reducible refine ks [] (And.intro @qJ_ (And.intro @h1 (@h2))) ?_|refine kp (And.intro @qJ_ (And.intro @h1 (@h2))) ?_
   refine⟨_,(ke @qJ_),trivial, ?_⟩
   simp[xS_]
  ·first|with_reducible refine ks [] (And.intro @qJ_ (And.intro @h1 (@h2))) ?_|refine kp (And.intro @qJ_ (And.intro @h1 (@h2))) ?_
   refine⟨_,(ke @qJ_),trivial, ?_⟩
   simp[xS_]
 ·first|with_reducible refine ks [] (And.intro @qJ_ @h1) ?_|refine kp (And.intro @qJ_ @h1) ?_
  refine⟨_,(ke @qJ_),trivial, ?_⟩
  simp[xS_]
theorem ade_ (s:List UInt8) (w:World) (hs:s.length<1099511627776):
  Rets Tryz.prog 74 #[vs s] w (fun v D=>v= .bool (qY_ s)∧D= []):=by
 refine Rets.enterV Tryz.func74 rfl (rs:= [.tmp 2]) Tryz.results74 Tryz.ntmps74 ?_
 refine kf ?_
 cases h0: (s != [])
 ·have e0: (s== [])=true:=by simpa using h0
  first|with_reducible refine ks [] (And.intro @qJ_ @h0) ?_|refine kp (And.intro @qJ_ @h0) ?_
  refine⟨_,(ke @qJ_),trivial, ?_⟩
  simp[xS_,qY_,e0]
 ·have e0: (s== [])=false:=by simpa using h0
  cases h1:decide ((s.length:Int)≤80)
  ·have e1:decide (s.length≤80)=false:=decide_eq_false (by have:=of_decide_eq_false h1;omega)
   first|with_reducible refine ks [] (And.intro @qJ_ (And.intro @h0 (@h1))) ?_|refine kp (And.intro @qJ_ (And.intro @h0 (@h1))) ?_
   refine⟨_,(ke @qJ_),trivial, ?_⟩
   simp only[xS_,qY_,e0,e1,Bool.not_false,Bool.true_and,Bool.false_and,Bool.and_false]
  ·have e1:decide (s.length≤80)=true:=decide_eq_true (by have:=of_decide_eq_true h1;omega)
   first|with_reducible refine ks [] (And.intro @qJ_ (And.intro @h0 (@h1))) ?_|refine kp (And.intro @qJ_ (And.intro @h0 (@h1))) ?_
   refine Ow.callFV rfl Tryz.call118 (fun w' hw'=>vB_ s 119 Tryz.call119 acv_ w' hs) ?_
   refine ko @qJ_ ?_
   first|with_reducible refine ks [] @qJ_ ?_|refine kp @qJ_ ?_
   refine⟨_,(ke @qJ_),trivial, ?_⟩
   simp only[xS_,qY_,e0,e1,Bool.not_false,Bool.true_and]
theorem ai7_ (s:List UInt8) (w:World) (hs:s.length<1099511627776):Rets Tryz.prog 126 #[vs s] w (fun v D=>v= .bool (!qY_ s)∧D= []):=by
 refine Rets.enterV Tryz.func126 rfl (rs:= [.tmp 2]) Tryz.results126 Tryz.ntmps126 ?_
 refine kf ?_
 first|with_reducible refine ks [] @qJ_ ?_|refine kp @qJ_ ?_
 refine Ow.callFV rfl Tryz.call74 (fun w' hw'=>ade_ s w' hs) ?_
 refine ko @qJ_ ?_
 first|with_reducible refine ks [] @qJ_ ?_|refine kp @qJ_ ?_
 refine⟨_,(ke @qJ_),trivial, ?_⟩
 rfl
theorem KB_ (v:Value) (l:List (List UInt8)) (w:World) (hv:akV_ w v l) (hl:l.length<1000000) (hs: ∀s,s∈l→s.length<1099511627776):Rets Tryz.prog 165 #[v, .func (.func 126) #[] #[]] w (fun v D=>(∃i:Int,v=vi i∧decide (0≤i)= !(l.all qY_))∧D= []):=by
 obtain⟨rb,off,arr,E,fz,hr⟩:=hv.row
 have ln:=hv.len
 refine Rets.enterV Tryz.func165 rfl (rs:= [.tmp 4]) Tryz.results165 Tryz.ntmps165 ?_
 refine kf ?_
 first|with_reducible refine ks [] (And.intro @qJ_ @ln) ?_|refine kp (And.intro @qJ_ @ln) ?_
 refine Cw.loopG (G:=Nat) [9,10,5,11,12,13,14,15,16,17,4,18,8] (fun k=> [(4,vi 0),(8,vi k)]) (fun k=> []) (fun k=>k≤l.length∧(l.take k).all qY_=true) (fun k=>l.length - k) 0 rfl rfl ?_ ?_
 ·exact⟨Nat.zero_le _,rfl⟩
 intro k jk hk
 refine kv ?_
 obtain⟨hk,hal⟩:=hk
 by_cases hlt:k<l.length
 ·have d1:decide ((k:Int)< (l.length:Int))=true:=decide_eq_true (by omega)
  have hb:=hr.has (by omega)
  have ix:=hr.idx false k hlt
  have ld:=fun n=>adZ_ hr hlt n
  have hts:=StP.take_snoc (z:=([]:List UInt8)) hlt
  have hm:l.getD k []∈l:=by rw[List.getD_eq_getElem?_getD,List.getElem?_eq_getElem hlt];exact List.getElem_mem hlt
  have hsl:=hs _ hm
  generalize l.getD k []=s at*
  first|with_reducible refine ks [] (And.intro @qJ_ (And.intro @d1 (And.intro @hb (And.intro @ix (@ld))))) ?_|refine kp (And.intro @qJ_ (And.intro @d1 (And.intro @hb (And.intro @ix (@ld))))) ?_
  refine Ow.callFn1 (v:= .bool (!qY_ s)) rfl rfl rfl Tryz.call126 (fun w' hw'=>ai7_ s w' hsl) ?_
  cases hn:qY_ s with
  |true=>
   refine ko @qJ_ ?_
   refine Again.mk (G:=Nat) (k+1) (by show l.length - (k+1)<l.length - k;omega) ⟨hlt, ?_⟩ rfl rfl
   rw[hts,List.all_append,hal,List.all_cons,hn];rfl
  |false=>
   refine ko @qJ_ ?_
   first|with_reducible refine ks [] @qJ_ ?_|refine kp @qJ_ ?_
   refine⟨_,(ke @qJ_),trivial, ?_⟩
   refine⟨(k:Int),rfl, ?_⟩
   rw[decide_eq_true (show(0:Int)≤ (k:Int) by omega),show l.all qY_=false from List.all_eq_false.2 ⟨s,hm,by rw[hn];simp⟩];rfl
 ·obtain rfl:k=l.length:=by omega
  have d1:decide ((l.length:Int)< (l.length:Int))=false:=decide_eq_false (by omega)
  rw[List.take_length] at hal
  first|with_reducible refine ks [] (And.intro @qJ_ @d1) ?_|refine kp (And.intro @qJ_ @d1) ?_
  refine⟨_,(ke @qJ_),trivial, ?_⟩
  exact⟨-1,rfl,by rw[hal];rfl⟩
theorem VF_ (v:Value) (l:List (List UInt8)) (w:World) (hv:akV_ w v l) (hl:l.length<1000000) (hs: ∀s,s∈l→s.length<1099511627776):Rets Tryz.prog 125 #[v, .func (.func 126) #[] #[]] w (fun v D=>v= .bool (!(l.all qY_))∧D= []):=by
 refine Rets.enterV Tryz.func125 rfl (rs:= [.tmp 4]) Tryz.results125 Tryz.ntmps125 ?_
 refine kf ?_
 first|with_reducible refine ks [] @qJ_ ?_|refine kp @qJ_ ?_
 refine Ow.callC rfl rfl Tryz.call165 (fun w' hw'=>Rets.toX (KB_ v l w' (hv.oldN hw' trivial) hl hs)) (fun B1 v1 D1 hA1 hB1 hN1 hS1=> ?_)
 obtain⟨rfl,i,rfl,hi⟩:=hS1
 refine ko (And.intro @qJ_ @hi) ?_
 first|with_reducible refine ks [] @qJ_ ?_|refine kp @qJ_ ?_
 refine⟨_,(ke @qJ_),trivial, ?_⟩
 rfl
end Go.Proofs
end
section
open Go Go.Proofs Go.Sx Go.StP
namespace Go.Proofs
set_option maxRecDepth 10000
set_option maxHeartbeats 400000
set_option linter.unusedSimpArgs false
structure FileL where
 data:List UInt8
 stl:Nat
def jt_:FileL:=⟨[],0⟩
structure CallL where
 kind:Nat
 a:List UInt8
 b:List UInt8
 n:Nat
def wq_:CallL:=⟨2,[],[],0⟩
abbrev NmL:=List (List UInt8×Nat)
structure DirL where
 seen:NmL
 stl:NmL
 pend:List CallL
structure DiskL where
 dir:Nat→DirL
 files:List FileL
 max:Int
 fuse:Int
 fused:Bool
 off:Bool
def zx_ (l:NmL) (s:List UInt8):Option Nat:=(l.find? fun p=>s==p.1).map Prod.snd
def qL_ (l:NmL) (s:List UInt8):NmL:=l.filter fun p=> !(s==p.1)
def insN:NmL→List UInt8×Nat→NmL
 | [],x=> [x]
 |p::r,x=>if ltB x.1 p.1=true then x::p::r else p::insN r x
def Xd_ (l:NmL) (x:List UInt8×Nat):NmL:=insN (qL_ l x.1) x
def SrtN (l:NmL):Prop:=l.Pairwise fun p q=>ltB p.1 q.1=true
theorem SrtN.nodup {l:NmL} (h:SrtN l): (l.map Prod.fst).Nodup:=by
 refine List.pairwise_map.2 (List.Pairwise.imp ?_ h)
 intro a b hab e
 rw[e,JA_] at hab;cases hab
theorem jQ_ (x:List UInt8×Nat): ∀l:NmL,(insN l x).Perm (x::l)
 | []=>List.Perm.refl _
 |p::r=>by
  unfold insN
  split
  ·exact List.Perm.refl _
  ·exact((jQ_ x r).cons p).trans (List.Perm.swap x p r)
theorem ahc_ {x:List UInt8×Nat}: ∀ {l:NmL},SrtN l→(∀p,p∈l→p.1≠x.1)→SrtN (insN l x)
 | [],_,_=>List.pairwise_singleton _ _
 |p::r,h,hx=>by
  unfold SrtN at h
  rw[List.pairwise_cons] at h
  unfold insN
  split
  ·rename_i h1
   refine List.pairwise_cons.2 ⟨fun q hq=> ?_,List.pairwise_cons.2 h⟩
   rcases List.mem_cons.1 hq with rfl|hq
   ·exact h1
   ·exact Kb_ h1 (h.1 q hq)
  ·rename_i h1
   refine List.pairwise_cons.2 ⟨fun q hq=> ?_,ahc_ h.2 fun q hq=>hx q (List.mem_cons_of_mem _ hq)⟩
   rcases List.mem_cons.1 ((jQ_ x r).mem_iff.1 hq) with rfl|hq
   ·have h1':ltB q.1 p.1=false:=by simpa using h1
    exact Kv_ h1' (fun e=>hx p List.mem_cons_self e.symm)
   ·exact h.1 q hq
theorem QR_ {l:NmL} (s:List UInt8) (h:SrtN l):SrtN (qL_ l s):=List.Pairwise.filter _ h
theorem aog_ {l:NmL} {s:List UInt8} {p:List UInt8×Nat} (h:p∈qL_ l s):p.1≠s:=by
 have:=(List.mem_filter.1 h).2
 intro e
 rw[e] at this;simp at this
theorem Xb_ {l:NmL} (x:List UInt8×Nat) (h:SrtN l):SrtN (Xd_ l x):=ahc_ (QR_ _ h) fun _ hp=>aog_ hp
theorem zX_ {l:NmL} {s:List UInt8} {n:Nat} (h:zx_ l s=some n): (s,n)∈l:=by
 unfold zx_ at h
 cases hf:l.find? fun p=>s==p.1 with
 |none=>rw[hf] at h;cases h
 |some p=>
  rw[hf] at h
  have h1:=List.find?_some hf
  have h2:=List.mem_of_find?_eq_some hf
  obtain⟨a,b⟩:=p
  cases h
  rw[show s=a from by simpa using h1];exact h2
theorem Wn_ {l:NmL} {s:List UInt8} (h:zx_ l s=none): ∀p,p∈l→p.1≠s:=by
 intro p hp e
 unfold zx_ at h
 cases hf:l.find? fun p=>s==p.1 with
 |none=>
  have:=List.find?_eq_none.1 hf p hp
  rw[e] at this;simp at this
 |some q=>rw[hf] at h;cases h
theorem acD_ {α β:Type} {m:List (α×β)} (hn: (m.map Prod.fst).Nodup) {k:α} {a b:β} (h1: (k,a)∈m) (h2: (k,b)∈m):a=b:=by
 induction m with
 |nil=>cases h1
 |cons p r ih=>
  rw[List.map_cons,List.nodup_cons] at hn
  rcases List.mem_cons.1 h1 with e1|h1
  ·rcases List.mem_cons.1 h2 with e2|h2
   ·rw[←e1] at e2;exact(congrArg Prod.snd e2).symm
   ·exact absurd (by rw[←e1];exact List.mem_map.2 ⟨_,h2,rfl⟩) hn.1
  ·rcases List.mem_cons.1 h2 with e2|h2
   ·exact absurd (by rw[←e2];exact List.mem_map.2 ⟨_,h1,rfl⟩) hn.1
   ·exact ih hn.2 h1 h2
theorem QV_ {l:NmL} (hn: (l.map Prod.fst).Nodup) {s:List UInt8} {n:Nat} (h: (s,n)∈l):zx_ l s=some n:=by
 cases hf:zx_ l s with
 |none=>exact absurd rfl (Wn_ hf _ h)
 |some m=>rw[acD_ hn (zX_ hf) h]
section
variable {α β:Type} [BEq α] [LawfulBEq α]
theorem art_ {m:List (α×β)} (hn: (m.map Prod.fst).Nodup) {k:α} {v z:β} (h: (k,v)∈m):getG k z m=v:=by
 unfold getG
 cases hf:m.find? fun p=>k==p.1 with
 |none=>
  have:=List.find?_eq_none.1 hf _ h
  exact absurd (beq_self_eq_true k) this
 |some q=>
  have h1:=List.find?_some hf
  have h2:=List.mem_of_find?_eq_some hf
  obtain⟨a,b⟩:=q
  have e:k=a:=eq_of_beq h1
  subst e
  exact acD_ hn h2 h
theorem aqo_ {m:List (α×β)} {k:α} {z:β} (h: ∀p,p∈m→p.1≠k):getG k z m=z:=by
 unfold getG
 cases hf:m.find? fun p=>k==p.1 with
 |none=>rfl
 |some q=>
  have h1:=List.find?_some hf
  exact absurd (eq_of_beq h1).symm (h q (List.mem_of_find?_eq_some hf))
theorem aa3_ {m:List (α×β)} {k:α} (h: ∀p,p∈m→p.1≠k):m.filter (fun p=> !(k==p.1))=m:=
 List.filter_eq_self.2 fun p hp=>by
  have:=h p hp
  cases e:k==p.1 with
  |false=>rfl
  |true=>exact absurd (eq_of_beq e).symm this
theorem ab8_ (k:α) (v:β): ∀ {m:List (α×β)},(m.map Prod.fst).Nodup→(updG k v m).Perm ((k,v)::m.filter fun p=> !(k==p.1))
 | [],_=>List.Perm.refl _
 |p::r,hn=>by
  rw[List.map_cons,List.nodup_cons] at hn
  unfold updG
  cases hk: (k==p.1) with
  |true=>
   rw[if_pos rfl,List.filter_cons,hk]
   have e:k=p.1:=eq_of_beq hk
   have hr:r.filter (fun p=> !(k==p.1))=r:=aa3_ fun q hq e2=>hn.1 (List.mem_map.2 ⟨q,hq,by rw[e2,e]⟩)
   simp only[Bool.not_true,Bool.false_eq_true, ↓reduceIte,hr]
   rw[e]
  |false=>
   rw[if_neg (by simp),List.filter_cons,hk]
   simp only[Bool.not_false, ↓reduceIte]
   exact((ab8_ k v hn.2).cons p).trans (List.Perm.swap _ _ _)
theorem akw_ (k:α): ∀ {m:List (α×β)},(m.map Prod.fst).Nodup→delG k m=m.filter fun p=> !(k==p.1)
 | [],_=>rfl
 |p::r,hn=>by
  rw[List.map_cons,List.nodup_cons] at hn
  unfold delG
  cases hk: (k==p.1) with
  |true=>
   rw[if_pos rfl,List.filter_cons,hk]
   have e:k=p.1:=eq_of_beq hk
   have hr:r.filter (fun p=> !(k==p.1))=r:=aa3_ fun q hq e2=>hn.1 (List.mem_map.2 ⟨q,hq,by rw[e2,e]⟩)
   simp only[Bool.not_true,Bool.false_eq_true, ↓reduceIte,hr]
  |false=>
   rw[if_neg (by simp),List.filter_cons,hk,akw_ k hn.2]
   simp only[Bool.not_false, ↓reduceIte]
end
def jw_:Option Nat→Value
 |none=> .pointer none
 |some b=>vp b 0
def ptrN (fb:List Nat) (p:List UInt8×Nat):List UInt8×Option Nat:=(p.1,some (fb.getD p.2 0))
def NmP (fb:List Nat) (l:NmL) (m:List (List UInt8×Option Nat)):Prop:=m.Perm (l.map (ptrN fb))
theorem NmP.keys {fb:List Nat} {l:NmL} {m:List (List UInt8×Option Nat)} (h:NmP fb l m) (hn: (l.map Prod.fst).Nodup): (m.map Prod.fst).Nodup:=by
 refine((h.map Prod.fst).nodup_iff).2 ?_
 rw[List.map_map]
 exact hn
theorem NmP.get {fb:List Nat} {l:NmL} {m:List (List UInt8×Option Nat)} (h:NmP fb l m) (hn: (l.map Prod.fst).Nodup) (s:List UInt8):getG s none m=(zx_ l s).map fun n=>fb.getD n 0:=by
 cases hf:zx_ l s with
 |none=>
  refine aqo_ fun p hp e=> ?_
  obtain⟨q,hq,rfl⟩:=List.mem_map.1 (h.mem_iff.1 hp)
  exact Wn_ hf q hq e
 |some n=>exact art_ (h.keys hn) (h.mem_iff.2 (List.mem_map.2 ⟨_,zX_ hf,rfl⟩))
theorem ahe_ (fb:List Nat) (l:NmL) (s:List UInt8): (l.map (ptrN fb)).filter (fun p=> !(s==p.1))=(qL_ l s).map (ptrN fb):=by
 unfold qL_
 rw[List.filter_map];rfl
theorem NmP.wipe {fb:List Nat} {l:NmL} {m:List (List UInt8×Option Nat)} (h:NmP fb l m) (hn: (l.map Prod.fst).Nodup) (s:List UInt8):NmP fb (qL_ l s) (delG s m):=by
 unfold NmP
 rw[akw_ s (h.keys hn),←ahe_]
 exact h.filter _
theorem NmP.put {fb:List Nat} {l:NmL} {m:List (List UInt8×Option Nat)} (h:NmP fb l m) (hn: (l.map Prod.fst).Nodup) (s:List UInt8) (n:Nat):NmP fb (Xd_ l (s,n)) (updG s (some (fb.getD n 0)) m):=by
 refine(ab8_ s _ (h.keys hn)).trans ?_
 unfold Xd_
 refine List.Perm.trans ?_ ((jQ_ (s,n) (qL_ l s)).map (ptrN fb)).symm
 rw[List.map_cons,←ahe_]
 exact(h.filter _).cons _
theorem NmP.mono {fb fb':List Nat} {l:NmL} {m:List (List UInt8×Option Nat)} (h:NmP fb l m) (hb: ∀p,p∈l→fb'.getD p.2 0=fb.getD p.2 0):NmP fb' l m:=by
 unfold NmP at h ⊢
 rw[show l.map (ptrN fb')=l.map (ptrN fb) from List.map_congr_left fun p hp=>by unfold ptrN;rw[hb p hp]]
 exact h
def zg_:List UInt8:= [108,111,111,115,101]
def Zv_:List UInt8:= [112,97,99,107]
def refD:List UInt8:= [114,101,102]
def Z6_ (k:Nat):List UInt8:=match k with|0=>zg_|1=>Zv_|_=>refD
def zG_ (s:List UInt8):Option Nat:=if s==zg_ then some 0 else if s==Zv_ then some 1 else if s==refD then some 2 else none
theorem zD_ {s:List UInt8} {k:Nat} (h:zG_ s=some k):k<3∧s=Z6_ k:=by
 unfold zG_ at h
 split at h
 ·rename_i e;cases h;exact⟨by omega,eq_of_beq e⟩
 ·split at h
  ·rename_i e;cases h;exact⟨by omega,eq_of_beq e⟩
  ·split at h
   ·rename_i e;cases h;exact⟨by omega,eq_of_beq e⟩
   ·cases h
theorem xQ_ {k:Nat} (h:k<3):zG_ (Z6_ k)=some k:=by
 have:k=0∨k=1∨k=2:=by omega
 rcases this with rfl|rfl|rfl<;>rfl
def jb_ (l:NmL) (c:CallL):NmL:=match c.kind with
 |0=>Xd_ l (c.a,c.n)
 |1=>Xd_ (qL_ l c.a) (c.b,(zx_ l c.a).getD 0)
 |_=>qL_ l c.a
def qD_ (S:DiskL) (k:Nat) (d:DirL):DiskL:={S with dir:=fun j=>if j=k then d else S.dir j}
def qZ_ (S:DiskL) (dir:List UInt8) (names:List (List UInt8)):Nat:=if zG_ dir=none∨names.all qY_=false then 1 else if S.off=true then 9 else 0
def zr_ (S:DiskL):DiskL×Nat:=if S.fused=true∧S.fuse=0 then({S with off:=true},9) else if S.fused=true then({S with fuse:=S.fuse - 1},0) else(S,0)
def qv_ (S:DiskL) (l:NmL):Nat:=(l.map fun p=>(S.files.getD p.2 jt_).data.length).sum
def qR_ (S:DiskL):Nat:=qv_ S (S.dir 0).seen+qv_ S (S.dir 1).seen+qv_ S (S.dir 2).seen
structure DkOk (S:DiskL):Prop where
 seen: ∀k,k<3→SrtN (S.dir k).seen
 stl: ∀k,k<3→SrtN (S.dir k).stl
 seenN: ∀k,k<3→ ∀p,p∈ (S.dir k).seen→p.2<S.files.length
 stlN: ∀k,k<3→ ∀p,p∈ (S.dir k).stl→p.2<S.files.length
 pendN: ∀k,k<3→ ∀c,c∈ (S.dir k).pend→c.kind=0→c.n<S.files.length
 file: ∀f,f∈S.files→f.data.length≤1048576∧f.stl≤f.data.length
 fuse: -9223372036854775808≤S.fuse∧S.fuse<9223372036854775808∧(S.fused=true→0≤S.fuse)
 max: -9223372036854775808≤S.max∧S.max<9223372036854775808
end Go.Proofs
end
section
open Go Go.Proofs Go.Sx Go.StP
namespace Go.Proofs
set_option maxRecDepth 10000
set_option maxHeartbeats 400000
set_option linter.unusedSimpArgs false
def vC_ (f:FileL):Obj:= .cells #[vs f.data,vi (f.stl:Int)] 126 (0,0)
def ki_ (a b:Nat) (v:Value):Obj:= .cells #[vm a,vm b,v] 130 (0,0)
def jX_ (bm:Nat) (S:DiskL):Obj:= .cells #[vm bm,vi S.max,vi S.fuse, .bool S.fused, .bool S.off] 123 (0,0)
def v6_ (s:List UInt8):Obj:= .cells #[vs s] 9 (0,0)
def WL_ (b:Nat):Obj:= .cells #[vp b 0] 124 (0,0)
structure DkG where
 bd:Nat
 bm:Nat
 d:Nat→Nat
 s:Nat→Nat
 t:Nat→Nat
 p:Nat→Value
 fb:List Nat
def W1_ (G:DkG):List (List UInt8×Option Nat):= [(zg_,some (G.d 0)),(Zv_,some (G.d 1)),(refD,some (G.d 2))]
def FnP (X:za_) (fb:List Nat) (v:Value) (c:CallL):Prop:=match c.kind with
 |0=> ∃b1 b2,v= .func (.func 159) #[] #[vp b1 0,vp b2 0]∧Sx.look X b1=some (WL_ (fb.getD c.n 0))∧Sx.look X b2=some (v6_ c.a)
 |1=> ∃b1 b2,v= .func (.func 121) #[] #[vp b1 0,vp b2 0]∧Sx.look X b1=some (v6_ c.a)∧Sx.look X b2=some (v6_ c.b)
 |_=> ∃b1,v= .func (.func 161) #[] #[vp b1 0]∧Sx.look X b1=some (v6_ c.a)
def NmM (X:za_) (fb:List Nat) (b:Nat) (l:NmL):Prop:= ∃o m,Sx.look X b=some o∧w0_ vs jw_ o m∧NmP fb l m
structure DkP (X:za_) (G:DkG) (S:DiskL):Prop where
 disk:Sx.look X G.bd=some (jX_ G.bm S)
 dirs: ∃o,Sx.look X G.bm=some o∧w0_ vs jw_ o (W1_ G)
 dir: ∀k,k<3→Sx.look X (G.d k)=some (ki_ (G.s k) (G.t k) (G.p k))
 seen: ∀k,k<3→NmM X G.fb (G.s k) (S.dir k).seen
 stl: ∀k,k<3→NmM X G.fb (G.t k) (S.dir k).stl
 pend: ∀k,k<3→ ∃vals:List Value,vals.length=(S.dir k).pend.length∧Gr X 137 1 (G.p k) vals.length vals∧ ∀i,i<vals.length→FnP X G.fb (vals.getD i undef) ((S.dir k).pend.getD i wq_)
 file: ∀n,n<S.files.length→Sx.look X (G.fb.getD n 0)=some (vC_ (S.files.getD n jt_))
 len:G.fb.length=S.files.length
 nodf:G.fb.Nodup
 nodm: [G.s 0,G.s 1,G.s 2,G.t 0,G.t 1,G.t 2].Nodup
 nodd: [G.d 0,G.d 1,G.d 2].Nodup
 nodb: ∀k,k<3→G.bm≠G.s k∧G.bm≠G.t k
 nodp: ∀i j,i<3→j<3→i≠j→ ∀b,slB (G.p i)=some b→slB (G.p j)≠some b
 ok:DkOk S
def DkW (w:World) (G:DkG) (S:DiskL):Prop:= ∃X,(∀b o,Sx.look X b=some o→w.heap[b]? =some o)∧DkP X G S
theorem FnP.keep {X X':za_} {fb:List Nat} {v:Value} {c:CallL} (h:FnP X fb v c) (hk: ∀b o,Sx.look X b=some o→((∃s,o=v6_ s)∨ ∃a,o=WL_ a)→Sx.look X' b=some o):FnP X' fb v c:=by
 unfold FnP at h ⊢
 split at h
 ·obtain⟨b1,b2,h1,h2,h3⟩:=h;exact⟨b1,b2,h1,hk _ _ h2 (.inr ⟨_,rfl⟩),hk _ _ h3 (.inl ⟨_,rfl⟩)⟩
 ·obtain⟨b1,b2,h1,h2,h3⟩:=h;exact⟨b1,b2,h1,hk _ _ h2 (.inl ⟨_,rfl⟩),hk _ _ h3 (.inl ⟨_,rfl⟩)⟩
 ·obtain⟨b1,h1,h2⟩:=h;exact⟨b1,h1,hk _ _ h2 (.inl ⟨_,rfl⟩)⟩
theorem NmM.keep {X X':za_} {fb:List Nat} {b:Nat} {l:NmL} (h:NmM X fb b l) (hk: ∀o,Sx.look X b=some o→Sx.look X' b=some o):NmM X' fb b l:=by
 obtain⟨o,m,h1,h2,h3⟩:=h;exact⟨o,m,hk _ h1,h2,h3⟩
theorem Ja_ {L:za_} {E:TypeId} {m n:Nat} {v:Value} {cs:List Value} (h:Gr L E m v n cs) {b:Nat} (hb:slB v=some b): ∃arr,Sx.look L b=some (.cells arr E (0,0)):=by
 rcases h with h| ⟨-,-,c,rfl,h⟩
 ·cases h with
  |nl=>cases hb
  |at_ hl=>cases hb;exact⟨_,hl⟩
 ·cases hb;exact⟨_,h⟩
def tyO:Obj→Option TypeId
 | .cells _ t _=>some t
 |_=>none
theorem jc_ {α β:Type} {encK:α→Value} {encV:β→Value} {o:Obj} {m:List (α×β)} (h:w0_ encK encV o m):tyO o=none:=by
 obtain⟨es,c,rfl,-⟩:=h;rfl
theorem qu_ {X:za_} {c b:Nat} {oc x o:Obj} (hc:Sx.look X c=some oc) (hb:Sx.look X b=some o) (ht:tyO o≠tyO oc):Sx.look (setB X c x) b=some o:=by
 rw[zm_ (by rintro rfl;rw[hc] at hb;cases hb;exact ht rfl)];exact hb
theorem DkP.mono {X X':za_} {G:DkG} {S:DiskL} (h:DkP X G S) (hk: ∀b o,Sx.look X b=some o→Sx.look X' b=some o):DkP X' G S where
 disk:=hk _ _ h.disk
 dirs:=by obtain⟨o,h1,h2⟩:=h.dirs;exact⟨o,hk _ _ h1,h2⟩
 dir k hk':=hk _ _ (h.dir k hk')
 seen k hk':=(h.seen k hk').keep fun o=>hk _ o
 stl k hk':=(h.stl k hk').keep fun o=>hk _ o
 pend k hk':=by
  obtain⟨vals,h1,h2,h3⟩:=h.pend k hk'
  exact⟨vals,h1,h2.keep fun b o _=>hk b o,fun i hi=>(h3 i hi).keep fun b o ho _=>hk b o ho⟩
 file n hn:=hk _ _ (h.file n hn)
 len:=h.len
 nodf:=h.nodf
 nodm:=h.nodm
 nodd:=h.nodd
 nodb:=h.nodb
 nodp:=h.nodp
 ok:=h.ok
theorem DkP.setDisk {X:za_} {G:DkG} {S:DiskL} (h:DkP X G S) (S':DiskL) (hd:S'.dir=S.dir) (hf:S'.files=S.files) (ok:DkOk S'):DkP (setB X G.bd (jX_ G.bm S')) G S' where
 disk:=qe_ h.disk
 dirs:=by obtain⟨o,h1,h2⟩:=h.dirs;exact⟨o,qu_ h.disk h1 (by rw[jc_ h2];intro e;cases e),h2⟩
 dir k hk':=qu_ h.disk (h.dir k hk') (by simp[tyO,ki_,jX_])
 seen k hk':=by
  rw[hd]
  obtain⟨o,m,h1,h2,h3⟩:=h.seen k hk'
  exact⟨o,m,qu_ h.disk h1 (by rw[jc_ h2];intro e;cases e),h2,h3⟩
 stl k hk':=by
  rw[hd]
  obtain⟨o,m,h1,h2,h3⟩:=h.stl k hk'
  exact⟨o,m,qu_ h.disk h1 (by rw[jc_ h2];intro e;cases e),h2,h3⟩
 pend k hk':=by
  rw[hd]
  obtain⟨vals,h1,h2,h3⟩:=h.pend k hk'
  refine⟨vals,h1,h2.keep fun b o hb ho=> ?_,fun i hi=>(h3 i hi).keep fun b o ho hx=>qu_ h.disk ho ?_⟩
  ·obtain⟨arr,ha⟩:=Ja_ h2 hb
   rw[ho] at ha;cases ha
   exact qu_ h.disk ho (by simp[tyO,jX_])
  ·rcases hx with⟨s,rfl⟩ | ⟨a,rfl⟩<;>simp[tyO,jX_,v6_,WL_]
 file n hn:=by rw[hf] at hn ⊢;exact qu_ h.disk (h.file n hn) (by simp[tyO,jX_,vC_])
 len:=by rw[hf];exact h.len
 nodf:=h.nodf
 nodm:=h.nodm
 nodd:=h.nodd
 nodb:=h.nodb
 nodp:=h.nodp
 ok:=ok
theorem DkP.setFile {X:za_} {G:DkG} {S:DiskL} (h:DkP X G S) {n:Nat} (hn:n<S.files.length) (f:FileL) (ok:DkOk {S with files:=S.files.set n f}):DkP (setB X (G.fb.getD n 0) (vC_ f)) G {S with files:=S.files.set n f} where
 disk:=qu_ (h.file n hn) h.disk (by simp[tyO,jX_,vC_])
 dirs:=by obtain⟨o,h1,h2⟩:=h.dirs;exact⟨o,qu_ (h.file n hn) h1 (by rw[jc_ h2];intro e;cases e),h2⟩
 dir k hk':=qu_ (h.file n hn) (h.dir k hk') (by simp[tyO,ki_,vC_])
 seen k hk':=by
  obtain⟨o,m,h1,h2,h3⟩:=h.seen k hk'
  exact⟨o,m,qu_ (h.file n hn) h1 (by rw[jc_ h2];intro e;cases e),h2,h3⟩
 stl k hk':=by
  obtain⟨o,m,h1,h2,h3⟩:=h.stl k hk'
  exact⟨o,m,qu_ (h.file n hn) h1 (by rw[jc_ h2];intro e;cases e),h2,h3⟩
 pend k hk':=by
  obtain⟨vals,h1,h2,h3⟩:=h.pend k hk'
  refine⟨vals,h1,h2.keep fun b o hb ho=> ?_,fun i hi=>(h3 i hi).keep fun b o ho hx=>qu_ (h.file n hn) ho ?_⟩
  ·obtain⟨arr,ha⟩:=Ja_ h2 hb
   rw[ho] at ha;cases ha
   exact qu_ (h.file n hn) ho (by simp[tyO,vC_])
  ·rcases hx with⟨s,rfl⟩ | ⟨a,rfl⟩<;>simp[tyO,vC_,v6_,WL_]
 file i hi:=by
  simp only[List.length_set] at hi
  by_cases e:i=n
  ·subst e
   rw[qe_ (h.file i hn),List.getD_eq_getElem?_getD,List.getElem?_set_self hn];rfl
  ·have hl:=h.len
   have hne:G.fb.getD i 0≠G.fb.getD n 0:=by
    intro e2
    rw[List.getD_eq_getElem?_getD,List.getD_eq_getElem?_getD,List.getElem?_eq_getElem (by omega),List.getElem?_eq_getElem (by omega)] at e2
    simp only[Option.getD_some] at e2
    rcases Nat.lt_or_gt_of_ne e with hlt|hlt
    ·exact(List.pairwise_iff_getElem.1 h.nodf) i n (by omega) (by omega) hlt e2
    ·exact(List.pairwise_iff_getElem.1 h.nodf) n i (by omega) (by omega) hlt e2.symm
   rw[zm_ (Ne.symm hne),h.file i hi,List.getD_eq_getElem?_getD,List.getD_eq_getElem?_getD,List.getElem?_set_ne (Ne.symm e)]
 len:=by rw[List.length_set];exact h.len
 nodf:=h.nodf
 nodm:=h.nodm
 nodd:=h.nodd
 nodb:=h.nodb
 nodp:=h.nodp
 ok:=ok
theorem DkP.world {X:za_} {G:DkG} {S:DiskL} {w0 w:World} (h:DkP X G S) (hw:Hp w0 X w):DkW w G S:=⟨X,fun _ _ hb=>hw.has _ _ (zB_ hb),h⟩
theorem DkW.old {w w':World} {L:za_} {G:DkG} {S:DiskL} (h:DkW w G S) (hw:Hp w L w') (hn:New w.heap.size L):DkW w' G S:=by
 obtain⟨X,h1,h2⟩:=h
 refine⟨X,fun b o hb=> ?_,h2⟩
 have hlt:=(Array.getElem?_eq_some_iff.1 (h1 b o hb)).1
 rw[hw.old b hlt (hn.not hlt)];exact h1 b o hb
end Go.Proofs
end
section
open Go Go.Proofs Go.Sx Go.StP
namespace Go.Proofs
set_option maxRecDepth 10000
set_option maxHeartbeats 400000
set_option linter.unusedSimpArgs false
theorem qE_ (bm:Nat) (S:DiskL) (n:Nat):zo_ (some (false,n)) (some (jX_ bm S)) 0=some (vm bm):=(rfl)
theorem va_ (bm:Nat) (S:DiskL) (n:Nat):zo_ (some (false,n)) (some (jX_ bm S)) 1=some (vi S.max):=(rfl)
theorem abt_ (bm:Nat) (S:DiskL) (n:Nat):zo_ (some (false,n)) (some (jX_ bm S)) 2=some (vi S.fuse):=(rfl)
theorem acG_ (bm:Nat) (S:DiskL) (n:Nat):zo_ (some (false,n)) (some (jX_ bm S)) 3=some (.bool S.fused):=(rfl)
theorem acA_ (bm:Nat) (S:DiskL) (n:Nat):zo_ (some (false,n)) (some (jX_ bm S)) 4=some (.bool S.off):=(rfl)
theorem ahO_ (bm:Nat) (S:DiskL) (x:Int) (a:Bool):zn_ (some (a,1)) (some (jX_ bm S)) 1 (vi x)=some (jX_ bm {S with max:=x}):=zy_ [vm bm] [vi S.max] [vi x] [vi S.fuse, .bool S.fused, .bool S.off] a _ 123 rfl rfl rfl rfl rfl
theorem ahY_ (bm:Nat) (S:DiskL) (x:Int) (a:Bool):zn_ (some (a,1)) (some (jX_ bm S)) 2 (vi x)=some (jX_ bm {S with fuse:=x}):=zy_ [vm bm,vi S.max] [vi S.fuse] [vi x] [.bool S.fused, .bool S.off] a _ 123 rfl rfl rfl rfl rfl
theorem Wj_ (bm:Nat) (S:DiskL) (x:Bool) (a:Bool):zn_ (some (a,1)) (some (jX_ bm S)) 3 (.bool x)=some (jX_ bm {S with fused:=x}):=zy_ [vm bm,vi S.max,vi S.fuse] [.bool S.fused] [.bool x] [.bool S.off] a _ 123 rfl rfl rfl rfl rfl
theorem Wu_ (bm:Nat) (S:DiskL) (x:Bool) (a:Bool):zn_ (some (a,1)) (some (jX_ bm S)) 4 (.bool x)=some (jX_ bm {S with off:=x}):=zy_ [vm bm,vi S.max,vi S.fuse, .bool S.fused] [.bool S.off] [.bool x] [] a _ 123 rfl rfl rfl rfl rfl
theorem q3_ (a b:Nat) (v:Value) (n:Nat):zo_ (some (false,n)) (some (ki_ a b v)) 0=some (vm a):=(rfl)
theorem qW_ (a b:Nat) (v:Value) (n:Nat):zo_ (some (false,n)) (some (ki_ a b v)) 1=some (vm b):=(rfl)
theorem q0_ (a b:Nat) (v:Value) (n:Nat):zo_ (some (false,n)) (some (ki_ a b v)) 2=some v:=(rfl)
theorem kD_ (f:FileL) (n:Nat):zo_ (some (false,n)) (some (vC_ f)) 0=some (vs f.data):=(rfl)
theorem kI_ (f:FileL) (n:Nat):zo_ (some (false,n)) (some (vC_ f)) 1=some (vi (f.stl:Int)):=(rfl)
theorem Jy_ (f:FileL) (x:List UInt8) (a:Bool):zn_ (some (a,1)) (some (vC_ f)) 0 (vs x)=some (vC_ {f with data:=x}):=zy_ [] [vs f.data] [vs x] [vi (f.stl:Int)] a _ 126 rfl rfl rfl rfl rfl
theorem Jq_ (f:FileL) (x:Nat) (a:Bool):zn_ (some (a,1)) (some (vC_ f)) 1 (vi (x:Int))=some (vC_ {f with stl:=x}):=zy_ [vs f.data] [vi (f.stl:Int)] [vi (x:Int)] [] a _ 126 rfl rfl rfl rfl rfl
theorem aos_ (b o:Nat):qy_ Tryz.prog .eql 27 (vp b o) (.pointer none)=some (.bool false):=by
 simp[qy_,eqX,qk_,qn_,Tryz.underlying27,vp]
theorem aoV_ (b o:Nat):qy_ Tryz.prog .neq 27 (vp b o) (.pointer none)=some (.bool true):=by
 simp[qy_,eqX,qk_,qn_,Tryz.underlying27,vp]
theorem ah1_ (b o:Nat):qy_ Tryz.prog .eql 120 (vp b o) (.pointer none)=some (.bool false):=by
 simp[qy_,eqX,qk_,qn_,Tryz.underlying120,vp]
theorem Wi_:qy_ Tryz.prog .eql 120 (.pointer none) (.pointer none)=some (.bool true):=by
 simp[qy_,eqX,qk_,qn_,Tryz.underlying120]
theorem ame_ (b o:Nat):qy_ Tryz.prog .eql 124 (vp b o) (.pointer none)=some (.bool false):=by
 simp[qy_,eqX,qk_,qn_,Tryz.underlying124,vp]
theorem ac8_:qy_ Tryz.prog .eql 124 (.pointer none) (.pointer none)=some (.bool true):=by
 simp[qy_,eqX,qk_,qn_,Tryz.underlying124]
theorem zrPd:zW_ Tryz.prog 120=some (jw_ none):=id (by kernel_rfl)
theorem zrPf:zW_ Tryz.prog 124=some (jw_ none):=id (by kernel_rfl)
theorem xW_:KeyOk Tryz.prog 9 vs:=KeyOk.str Tryz.underlying9
theorem W6_ (G:DkG) (s:List UInt8):getG s none (W1_ G)=(zG_ s).map G.d:=by
 unfold getG W1_ zG_
 rw[List.find?_cons,List.find?_cons,List.find?_cons,List.find?_nil]
 cases h1:s==zg_
 ·cases h2:s==Zv_
  ·cases h3:s==refD<;>rfl
  ·rfl
 ·rfl
set_option linter.defProp false
def aal_:=And.intro (And.intro (And.intro (@zc_) (And.intro (@zb_) (@qE_))) (And.intro (@va_) (And.intro (@abt_) (@acG_)))) (And.intro (And.intro (@acA_) (And.intro (@ahO_) (@ahY_))) (And.intro (And.intro (@Wj_) (@Wu_)) (And.intro (@aos_) (@aoV_))))
theorem vh_ (b bm:Nat) (S:DiskL) (w:World) (hf: -9223372036854775808≤S.fuse∧S.fuse<9223372036854775808∧(S.fused=true→0≤S.fuse)) (ho:w.heap[b]? =some (jX_ bm S)):
  Rets Tryz.prog 81 #[vp b 0] w (fun v D=> ∃o,D= [(b,o)]∧v=vi (zr_ S).2∧o=jX_ bm (zr_ S).1):=by
 refine Rets.enterM Tryz.func81 rfl (rs:= [.tmp 2]) Tryz.results81 Tryz.ntmps81 ho ?_
 refine kf ?_
 unfold zr_
 cases hfd:S.fused with
 |false=>
  rw[if_neg (by simp),if_neg (by simp)]
  first|with_reducible refine ks [] (And.intro @aal_ @hfd) ?_|refine kp (And.intro @aal_ @hfd) ?_
  refine⟨_,_,_,(ke @aal_),rfl,trivial, ?_⟩
  exact⟨rfl,rfl⟩
 |true=>
  by_cases h0:S.fuse=0
  ·have e0: (S.fuse==0)=true:=beq_iff_eq.2 h0
   rw[if_pos ⟨rfl,h0⟩]
   first|with_reducible refine ks [] (And.intro @aal_ (And.intro @hfd (@e0))) ?_|refine kp (And.intro @aal_ (And.intro @hfd (@e0))) ?_
   refine⟨_,_,_,(ke @aal_),rfl,trivial, ?_⟩
   exact⟨rfl,rfl⟩
  ·have e0: (S.fuse==0)=false:=beq_eq_false_iff_ne.2 h0
   have h1:=hf.2.2 hfd
   rw[if_neg (fun h=>h0 h.2),if_pos rfl]
   first|with_reducible refine ks [] (And.intro @aal_ (And.intro @hfd (@e0))) ?_|refine kp (And.intro @aal_ (And.intro @hfd (@e0))) ?_
   refine⟨_,_,_,(ke @aal_),rfl,trivial, ?_⟩
   exact⟨rfl,rfl⟩
def asf_ (G:DkG) (S:DiskL) (dir:List UInt8) (names:List (List UInt8)) (v:Value):Prop:=
 (qZ_ S dir names≠0∧v= .tuple #[.pointer none,vi (qZ_ S dir names:Nat)])∨(qZ_ S dir names=0∧ ∃k,zG_ dir=some k∧v= .tuple #[vp (G.d k) 0,vi 0])
set_option linter.defProp false
def vG_:=And.intro (And.intro (And.intro (@zc_) (@zb_)) (And.intro (@qE_) (And.intro (@va_) (@abt_)))) (And.intro (And.intro (@acG_) (And.intro (@acA_) (@aos_))) (And.intro (@aoV_) (And.intro (@ah1_) (@Wi_))))
theorem j7_ (w:World) (G:DkG) (S:DiskL) (dir:List UInt8) (v:Value) (names:List (List UInt8)) (hD:DkW w G S) (hv:akV_ w v names) (hl:names.length<1000000) (hs: ∀s,s∈names→s.length<1099511627776):
  Rets Tryz.prog 80 #[vp G.bd 0,vs dir,v] w (fun v D=>asf_ G S dir names v∧D= []):=by
 obtain⟨X,hX,hP⟩:=hD
 have hd:=hX _ _ hP.disk
 obtain⟨om,hom,hM⟩:=hP.dirs
 have hb:=hX _ _ hom
 refine Rets.enterV Tryz.func80 rfl (rs:= [.tmp 6, .tmp 7]) Tryz.results80 Tryz.ntmps80 ?_
 refine kf ?_
 first|with_reducible refine ks [] (And.intro @vG_ @hd) ?_|refine kp (And.intro @vG_ @hd) ?_
 refine Ow.mapGetG (encK:=vs) (encV:=jw_) (k:=dir) (z:=none) rfl rfl Tryz.underlying121 xW_ zrPd rfl rfl hb hM ?_
 rw[W6_]
 unfold asf_ qZ_
 cases hw:zG_ dir with
 |none=>
  rw[if_pos (.inl rfl)]
  have hp0:jw_ none= .pointer none:=rfl
  refine ko (And.intro @vG_ @hp0) ?_
  first|with_reducible refine ks [] @vG_ ?_|refine kp @vG_ ?_
  refine⟨_,(ke @vG_),trivial, ?_⟩
  exact .inl ⟨by decide,rfl⟩
 |some k=>
  have hp: ∀q:Nat,jw_ (some q)=vp q 0:=fun _=>rfl
  refine ko (And.intro @vG_ @hp) ?_
  refine Ow.callFV rfl Tryz.call125 (fun w' hw'=>VF_ v names w' (hv.oldN hw' trivial) hl hs) ?_
  cases hal:names.all qY_ with
  |false=>
   rw[if_pos (.inr rfl)]
   refine ko @vG_ ?_
   first|with_reducible refine ks [] @vG_ ?_|refine kp @vG_ ?_
   refine⟨_,(ke @vG_),trivial, ?_⟩
   exact .inl ⟨by decide,rfl⟩
  |true=>
   rw[if_neg (by simp)]
   cases hof:S.off with
   |true=>
    rw[if_pos rfl]
    refine ko @vG_ ?_
    first|with_reducible refine ks [] (And.intro @vG_ (And.intro @hd (@hof))) ?_|refine kp (And.intro @vG_ (And.intro @hd (@hof))) ?_
    refine⟨_,(ke @vG_),trivial, ?_⟩
    exact .inl ⟨by decide,rfl⟩
   |false=>
    rw[if_neg (by simp)]
    refine ko @vG_ ?_
    first|with_reducible refine ks [] (And.intro @vG_ (And.intro @hd (@hof))) ?_|refine kp (And.intro @vG_ (And.intro @hd (@hof))) ?_
    refine⟨_,(ke @vG_),trivial, ?_⟩
    exact .inr ⟨rfl,k,rfl,rfl⟩
end Go.Proofs
end
section
open Go Go.Proofs Go.Sx Go.StP
namespace Go.Proofs
set_option maxRecDepth 10000
set_option maxHeartbeats 400000
set_option linter.unusedSimpArgs false
theorem ac9_ {w:World} {b:Nat} {s:List UInt8} {E:TypeId} (h:w.heap[b]? =some (.cells #[vs s] E (0,0))):akV_ w (vsl b 0 1 1) [s]:=
 SlV.sl (l:= [s]) h (fun k hk j hj=>by
  obtain rfl:k=0:=by simpa using hk
  obtain rfl:j=0:=by omega
  rfl) (Nat.le_refl _) (by simp)
theorem asI_ {w:World} {b:Nat} {s u:List UInt8} {E:TypeId} (h:w.heap[b]? =some (.cells #[vs s,vs u] E (0,0))):akV_ w (vsl b 0 2 2) [s,u]:=
 SlV.sl (l:= [s,u]) h (fun k hk j hj=>by
  obtain rfl:j=0:=by omega
  have:k=0∨k=1:=by simp at hk;omega
  rcases this with rfl|rfl<;>rfl) (Nat.le_refl _) (by simp)
theorem ahW_ {S:DiskL} {dir:List UInt8} {names:List (List UInt8)} (h:qZ_ S dir names=0):zG_ dir≠none∧names.all qY_=true∧S.off=false:=by
 unfold qZ_ at h
 split at h
 ·cases h
 ·split at h
  ·cases h
  ·rename_i h1 h2
   refine⟨fun e=>h1 (.inl e), ?_,by simpa using h2⟩
   cases e:names.all qY_ with
   |true=>rfl
   |false=>exact absurd (.inr e) h1
def xl_ (S:DiskL) (dir name:List UInt8):List UInt8×Nat:=
 if qZ_ S dir [name]≠0 then([],qZ_ S dir [name]) else match(zG_ dir).bind fun k=>zx_ (S.dir k).seen name with
  |none=>([],6)
  |some n=>((S.files.getD n jt_).data,0)
theorem jO_ {n:Nat} (h:n≠0): ((n:Int) !=0)=true:=bne_iff_ne.2 (by omega)
set_option linter.defProp false
def wc_:=And.intro (And.intro (And.intro (And.intro (@zc_) (@zb_)) (And.intro (@qE_) (@q3_))) (And.intro (And.intro (@qW_) (@q0_)) (And.intro (@kD_) (And.intro (@kI_) (@ah1_))))) (And.intro (And.intro (And.intro (@Wi_) (@ame_)) (And.intro (@ac8_) (@Sx.tup2_0))) (And.intro (And.intro (@Sx.tup2_1) (@JO_)) (And.intro (@Sx.tup3_0) (And.intro (@Sx.tup3_1) (@Sx.tup3_2)))))
theorem V0_ (w:World) (G:DkG) (S:DiskL) (dir name:List UInt8) (hD:DkW w G S) (hn:name.length<1099511627776):
  Rets Tryz.prog 23 #[vp G.bd 0,vs dir,vs name] w (fun v D=>v= .tuple #[vs (xl_ S dir name).1,vi ((xl_ S dir name).2:Nat)]∧D= []):=by
 have hD':=hD
 obtain⟨X,hX,hP⟩:=hD
 refine Rets.enterV Tryz.func23 rfl (rs:= [.tmp 6, .tmp 7]) Tryz.results23 Tryz.ntmps23 ?_
 refine kf ?_
 first|with_reducible refine ks [] @wc_ ?_|refine kp @wc_ ?_
 refine Ow.buildSlice (e:=9) #[vs name] rfl rfl (by kernel_rfl) fun b1 hb1 hw1=> ?_
 refine ko @wc_ ?_
 have hN1:New w.heap.size [(b1,Obj.cells #[vs name] 9 (0,0))]:=⟨hw1,trivial⟩
 refine Ow.callC rfl rfl Tryz.call80 (fun w' hw'=>Rets.toX (j7_ w' G S dir (vsl b1 0 1 1) [name] (hD'.old hw' hN1) (ac9_ (hw'.has _ _ List.mem_cons_self)) (by simp) (by simpa using hn))) (fun B2 v2 D2 hA2 hB2 hN2 hS2=> ?_)
 obtain⟨rfl,hS2⟩:=hS2
 rw[List.append_nil]
 unfold xl_
 rcases hS2 with⟨he,rfl⟩ | ⟨he,k,hk,rfl⟩
 ·rw[if_pos he]
  have e1:=jO_ he
  refine ko @wc_ ?_
  first|with_reducible refine ks [] (And.intro @wc_ @e1) ?_|refine kp (And.intro @wc_ @e1) ?_
  refine⟨_,(ke @wc_),hN1, ?_⟩
  rfl
 ·rw[if_neg (by rw[he];simp),hk]
  have hk3:=(zD_ hk).1
  have hdr:=hX _ _ (hP.dir k hk3)
  obtain⟨os,ms,hos,hms,hnp⟩:=hP.seen k hk3
  have hso:=hX _ _ hos
  have hl1:=(Array.getElem?_eq_some_iff.1 hdr).1
  have hl2:=(Array.getElem?_eq_some_iff.1 hso).1
  have hr1:zE_ w [(b1,Obj.cells #[vs name] 9 (0,0))] (G.d k)=some (ki_ (G.s k) (G.t k) (G.p k)):=by rw[xs_ (hN1.not hl1)];exact hdr
  have hr2:zE_ w [(b1,Obj.cells #[vs name] 9 (0,0))] (G.s k)=some os:=by rw[xs_ (hN1.not hl2)];exact hso
  have e1: ((0:Int) !=0)=false:=rfl
  refine ko @wc_ ?_
  first|with_reducible refine ks [] (And.intro @wc_ (And.intro @e1 (And.intro @hdr (@hr1)))) ?_|refine kp (And.intro @wc_ (And.intro @e1 (And.intro @hdr (@hr1)))) ?_
  refine Ow.mapGetG (encK:=vs) (encV:=jw_) (k:=name) (z:=none) rfl rfl Tryz.underlying127 xW_ zrPf rfl rfl hr2 hms ?_
  rw[hnp.get (hP.ok.seen k hk3).nodup]
  show Ow _ _ _ _ _ _ _ _
  cases hf:zx_ (S.dir k).seen name with
  |none=>
   have hf': (some k).bind (fun k=>zx_ (S.dir k).seen name)=none:=hf
   rw[hf']
   have hp0:jw_ none= .pointer none:=rfl
   refine ko (And.intro @wc_ @hp0) ?_
   first|with_reducible refine ks [] @wc_ ?_|refine kp @wc_ ?_
   refine⟨_,(ke @wc_),hN1, ?_⟩
   rfl
  |some n=>
   have hf': (some k).bind (fun k=>zx_ (S.dir k).seen name)=some n:=hf
   rw[hf']
   have hnl:=hP.ok.seenN k hk3 _ (zX_ hf)
   have hfl:=hX _ _ (hP.file n hnl)
   have hl3:=(Array.getElem?_eq_some_iff.1 hfl).1
   have hr3:zE_ w [(b1,Obj.cells #[vs name] 9 (0,0))] (G.fb.getD n 0)=some (vC_ (S.files.getD n jt_)):=by rw[xs_ (hN1.not hl3)];exact hfl
   have hp: ∀q:Nat,jw_ (some q)=vp q 0:=fun _=>rfl
   refine ko (And.intro @wc_ @hp) ?_
   first|with_reducible refine ks [] (And.intro @wc_ (And.intro @hfl (@hr3))) ?_|refine kp (And.intro @wc_ (And.intro @hfl (@hr3))) ?_
   refine⟨_,(ke @wc_),hN1, ?_⟩
   rfl
end Go.Proofs
end
section
open Go Go.Proofs Go.Sx Go.StP
namespace Go.Proofs
set_option maxRecDepth 10000
set_option maxHeartbeats 400000
set_option linter.unusedSimpArgs false
def uDir (S:DiskL) (p:List UInt8×Option Nat):Nat:=match zG_ p.1 with|some k=>qv_ S (S.dir k).seen|none=>0
def Jf_ (S:DiskL) (l:NmL) (p:List UInt8×Option Nat):Nat:=match zx_ l p.1 with|some n=>(S.files.getD n jt_).data.length|none=>0
theorem an0_ (S:DiskL) (G:DkG): ((W1_ G).map (uDir S)).sum=qR_ S:=by
 unfold W1_ qR_
 simp only[List.map_cons,List.map_nil,List.sum_cons,List.sum_nil]
 show qv_ S (S.dir 0).seen+ (qv_ S (S.dir 1).seen+ (qv_ S (S.dir 2).seen+0))=_
 omega
theorem alS_ (S:DiskL) {fb:List Nat} {l:NmL} {m:List (List UInt8×Option Nat)} (h:NmP fb l m) (hn: (l.map Prod.fst).Nodup): (m.map (Jf_ S l)).sum=qv_ S l:=by
 rw[(h.map (Jf_ S l)).sum_nat,List.map_map]
 unfold qv_
 congr 1
 refine List.map_congr_left fun p hp=> ?_
 show Jf_ S l (ptrN fb p)=_
 unfold Jf_ ptrN
 rw[QV_ hn hp]
theorem agl_ {α:Type} (f:α→Nat) {a b m:List α} (h: (a++b).Perm m): (a.map f).sum≤ (m.map f).sum:=by
 rw[← (h.map f).sum_nat,List.map_append,List.sum_append]
 omega
theorem wY_ {α β:Type} {encK:α→Value} {encV:β→Value} {o:Obj} {bm:Nat} {om:Obj} {m dn lf:List (α×β)} (h:ItG encK encV o bm om m dn lf): (dn++lf).Perm m:=by
 obtain⟨es,clock,ds,-,-,-,-,-,-,hp⟩:=h;exact hp
theorem ajY_ {G:DkG} {p:List UInt8×Option Nat} (h:p∈W1_ G): ∃k,k<3∧p=(Z6_ k,some (G.d k)):=by
 unfold W1_ at h
 simp only[List.mem_cons,List.not_mem_nil,or_false] at h
 rcases h with rfl|rfl|rfl
 ·exact⟨0,by omega,rfl⟩
 ·exact⟨1,by omega,rfl⟩
 ·exact⟨2,by omega,rfl⟩
structure UsG where
 dn:List (List UInt8×Option Nat)
 lf:List (List UInt8×Option Nat)
 it:Obj
 DG:za_
set_option linter.defProp false
def xe_:=And.intro (And.intro (And.intro (And.intro (@zc_) (@zb_)) (And.intro (@qE_) (@q3_))) (And.intro (And.intro (@qW_) (@q0_)) (And.intro (@kD_) (And.intro (@kI_) (@aos_))))) (And.intro (And.intro (And.intro (@ah1_) (@Wi_)) (And.intro (@ame_) (And.intro (@ac8_) (@Sx.tup2_0)))) (And.intro (And.intro (@Sx.tup2_1) (@JO_)) (And.intro (@Sx.tup3_0) (And.intro (@Sx.tup3_1) (@Sx.tup3_2)))))
theorem WF_ (w:World) (G:DkG) (S:DiskL) (hD:DkW w G S) (hb:qR_ S<4611686018427387904):Rets Tryz.prog 24 #[vp G.bd 0] w (fun v D=>v=vi (qR_ S:Nat)∧D= []):=by
 obtain⟨X,hX,hP⟩:=hD
 have hd:=hX _ _ hP.disk
 obtain⟨om,hom,hM⟩:=hP.dirs
 have hbm:=hX _ _ hom
 have hlm:=(Array.getElem?_eq_some_iff.1 hbm).1
 have hU:=an0_ S G
 have old: ∀b o,w.heap[b]? =some o→ ∀Y,New w.heap.size Y→zE_ w Y b=some o:=fun b o hb Y hY=>by
  rw[xs_ (hY.not (Array.getElem?_eq_some_iff.1 hb).1)];exact hb
 refine Rets.enterV Tryz.func24 rfl (rs:= [.tmp 2]) Tryz.results24 Tryz.ntmps24 ?_
 refine kf ?_
 first|with_reducible refine ks [] (And.intro @xe_ @hd) ?_|refine kp (And.intro @xe_ @hd) ?_
 refine Ow.rangeMapG (encK:=vs) (encV:=jw_) rfl rfl Tryz.underlying121 rfl hbm hM fun bi oi hbi hwi hI=> ?_
 rw[List.nil_append]
 refine ko @xe_ ?_
 first|with_reducible refine ks [] @xe_ ?_|refine kp @xe_ ?_
 refine Cw.loopG (G:=UsG) [15,16,17,18,5,19,20,21,22,23,24,25,26,27,7,28,29,30,31,32,33,34,3] (fun g=> [(3,vi ((g.dn.map (uDir S)).sum:Nat))]) (fun g=>(bi,g.it)::g.DG) (fun g=>ItG vs jw_ g.it G.bm om (W1_ G) g.dn g.lf∧New w.heap.size g.DG) (fun g=>g.lf.length) ⟨[],W1_ G,oi,[]⟩ rfl rfl ?_ ?_
 ·exact⟨hI,trivial⟩
 intro g j hg
 refine kv ?_
 clear hI
 obtain⟨dn,lf,it,DG⟩:=g
 simp only at hg ⊢
 obtain⟨hI,hN⟩:=hg
 have hNi: ∀x,New w.heap.size ((bi,x)::DG):=fun x=>⟨hwi,hN⟩
 first|with_reducible refine ks [] @xe_ ?_|refine kp @xe_ ?_
 refine Ow.nextMapG rfl rfl rfl (z5_ _ _ _) (old _ _ hbm _ (hNi it)) hI (fun hlf=> ?_) (fun p it' lf' hl' hI'=> ?_)
 ·subst hlf
  have hp:=wY_ hI
  rw[List.append_nil] at hp
  rw[(hp.map (uDir S)).sum_nat,hU]
  refine ko @xe_ ?_
  first|with_reducible refine ks [] @xe_ ?_|refine kp @xe_ ?_
  refine⟨_,(ke @xe_),hNi it, ?_⟩
  rfl
 ·refine kn ?_
  refine ko @xe_ ?_
  first|with_reducible refine ks [] @xe_ ?_|refine kp @xe_ ?_
  refine Ow.entryMapG (encK:=vs) (encV:=jw_) rfl rfl rfl (xj_ _ _ _ _) (old _ _ hbm _ (hNi it')) hI' ?_
  have hp:=wY_ hI'
  obtain⟨k,hk3,rfl⟩:=ajY_ (hp.mem_iff.1 (List.mem_append_left _ (List.mem_append_right _ List.mem_cons_self)))
  have hle:=agl_ (uDir S) hp
  rw[hU,List.map_append,List.sum_append] at hle
  have huk: ([(Z6_ k,some (G.d k))].map (uDir S)).sum=qv_ S (S.dir k).seen:=by
   show uDir S (Z6_ k,some (G.d k))+0=_
   unfold uDir
   simp only[xQ_ hk3,Nat.add_zero]
  rw[huk] at hle
  have hac: ((dn++ [(Z6_ k,some (G.d k))]).map (uDir S)).sum=(dn.map (uDir S)).sum+qv_ S (S.dir k).seen:=by rw[List.map_append,List.sum_append,huk]
  generalize (dn.map (uDir S)).sum=A at*
  have hdr:=hX _ _ (hP.dir k hk3)
  obtain⟨os,ms,hos,hms,hnp⟩:=hP.seen k hk3
  have hso:=hX _ _ hos
  have hs:=alS_ S hnp (hP.ok.seen k hk3).nodup
  have hdr1:=old _ _ hdr _ (hNi it')
  have hdr2:=old _ _ hdr _ hN
  have hp': ∀q:Nat,jw_ (some q)=vp q 0:=fun _=>rfl
  refine ko (And.intro @xe_ (And.intro @hp' (And.intro @hdr1 (@hdr2)))) ?_
  refine Ow.rangeMapG (encK:=vs) (encV:=jw_) rfl rfl Tryz.underlying127 rfl (old _ _ hso _ (hNi it')) hms fun bj oj hbj hwj hJ=> ?_
  refine Ow.permL (M:=(bj,oj):: (bi,it')::DG) (by classical exact List.perm_iff_count.2 fun a=>by simp only[List.count_append,List.count_cons,List.count_nil]<;>omega) ?_
  refine ko @xe_ ?_
  first|with_reducible refine ks [] @xe_ ?_|refine kp @xe_ ?_
  refine Cw.loopG (G:=UsG) [24,25,26,27,7,28,29,30,31,32,33,34,3] (fun p=> [(3,vi ((A+ (p.dn.map (Jf_ S (S.dir k).seen)).sum:Nat):Int))]) (fun p=>(bj,p.it):: (bi,it')::DG) (fun p=>ItG vs jw_ p.it (G.s k) os ms p.dn p.lf) (fun p=>p.lf.length) ⟨[],ms,oj,[]⟩ rfl rfl ?_ ?_
  ·exact hJ
  intro p jp hp
  refine kv ?_
  clear hJ
  obtain⟨dn2,lf2,jt,DX⟩:=p
  simp only at hp ⊢
  first|with_reducible refine ks [] @xe_ ?_|refine kp @xe_ ?_
  refine Ow.nextMapG rfl rfl rfl (z5_ _ _ _) (old _ _ hso _ ⟨hwj,hNi it'⟩) hp (fun hlf=> ?_) (fun p jt' lf2' hl2' hJ'=> ?_)
  ·subst hlf
   have hq:=wY_ hp
   rw[List.append_nil] at hq
   rw[(hq.map (Jf_ S (S.dir k).seen)).sum_nat,hs]
   refine Ow.permL (M:=(bi,it'):: (bj,jt)::DG) (by classical exact List.perm_iff_count.2 fun a=>by simp only[List.count_append,List.count_cons,List.count_nil]<;>omega) ?_
   refine ko @xe_ ?_
   first|with_reducible refine ks [] @xe_ ?_|refine kp @xe_ ?_
   exact Again.mk ⟨dn++ [(Z6_ k,some (G.d k))],lf',it',(bj,jt)::DG⟩ (by show lf'.length<lf.length;omega) ⟨hI',hwj,hN⟩ rfl (by simp only[hac];rfl)
  ·refine kn ?_
   refine ko @xe_ ?_
   first|with_reducible refine ks [] @xe_ ?_|refine kp @xe_ ?_
   have hq:=wY_ hJ'
   have hle2:=agl_ (Jf_ S (S.dir k).seen) hq
   rw[hs] at hle2
   have hpm:p∈ (S.dir k).seen.map (ptrN G.fb):=hnp.mem_iff.1 (hq.mem_iff.1 (List.mem_append_left _ (List.mem_append_right _ List.mem_cons_self)))
   obtain⟨⟨s,n⟩,hsn,rfl⟩:=List.mem_map.1 hpm
   have huf: ([ptrN G.fb (s,n)].map (Jf_ S (S.dir k).seen)).sum=(S.files.getD n jt_).data.length:=by
    show Jf_ S (S.dir k).seen (s,some (G.fb.getD n 0))+0=_
    unfold Jf_
    simp only[QV_ (hP.ok.seen k hk3).nodup hsn,Nat.add_zero]
   rw[List.map_append,List.sum_append,huf] at hle2
   have hac2: ((dn2++ [ptrN G.fb (s,n)]).map (Jf_ S (S.dir k).seen)).sum=(dn2.map (Jf_ S (S.dir k).seen)).sum+ (S.files.getD n jt_).data.length:=by rw[List.map_append,List.sum_append,huf]
   have hfl:=hX _ _ (hP.file n (hP.ok.seenN k hk3 _ hsn))
   have hf1:=old _ _ hfl _ (show New w.heap.size ((bj,jt'):: (bi,it')::DG) from⟨hwj,hNi it'⟩)
   have hf2:=old _ _ hfl _ (hNi it')
   have hf3:=old _ _ hfl _ hN
   generalize (dn2.map (Jf_ S (S.dir k).seen)).sum=B at*
   refine Ow.entryMapG (encK:=vs) (encV:=jw_) rfl rfl rfl (xj_ _ _ _ _) (old _ _ hso _ ⟨hwj,hNi it'⟩) hJ' ?_
   unfold ptrN at hJ' hac2 ⊢
   simp only at hJ' hac2 ⊢
   generalize G.fb.getD n 0=fbn at*
   generalize S.files.getD n jt_=fl at*
   refine ko (And.intro @xe_ (And.intro @hp' (And.intro @hf1 (And.intro @hf2 (@hf3))))) ?_
   first|with_reducible refine ks [] @xe_ ?_|refine kp @xe_ ?_
   exact Again.mk ⟨dn2++ [(s,some fbn)],lf2',jt',DX⟩ (by show lf2'.length<lf2.length;omega) hJ' rfl (by simp only[hac2,←Nat.add_assoc,Int.natCast_add];rfl)
end Go.Proofs
end
section
open Go Go.Proofs Go.Sx Go.StP
namespace Go.Proofs
set_option maxRecDepth 10000
set_option maxHeartbeats 400000
set_option linter.unusedSimpArgs false
def atD (S:DiskL) (dir name:List UInt8):Option Nat:=(zG_ dir).bind fun k=>zx_ (S.dir k).seen name
def zl_ (S:DiskL) (n:Nat):FileL:=S.files.getD n jt_
def j0_ (S:DiskL) (n:Nat) (f:FileL):DiskL:={S with files:=S.files.set n f}
def qM_ (S:DiskL) (dir name:List UInt8):DiskL×Nat:=
 if qZ_ S dir [name]≠0 then(S,qZ_ S dir [name]) else match atD S dir name with
  |none=>(S,6)
  |some n=>if(zr_ S).2≠0 then zr_ S else(j0_ (zr_ S).1 n ⟨(zl_ S n).data,(zl_ S n).data.length⟩,0)
theorem qA_ (S:DiskL): (zr_ S).1.dir=S.dir∧(zr_ S).1.files=S.files∧(zr_ S).1.max=S.max:=by
 unfold zr_
 split
 ·exact⟨rfl,rfl,rfl⟩
 ·split
  ·exact⟨rfl,rfl,rfl⟩
  ·exact⟨rfl,rfl,rfl⟩
theorem xC_ {S:DiskL} (h:DkOk S):DkOk (zr_ S).1:=by
 obtain⟨h1,h2,h3⟩:=qA_ S
 refine⟨by rw[h1];exact h.seen,by rw[h1];exact h.stl,by rw[h1,h2];exact h.seenN,by rw[h1,h2];exact h.stlN,by rw[h1,h2];exact h.pendN,by rw[h2];exact h.file, ?_,by rw[h3];exact h.max⟩
 have hf:=h.fuse
 unfold zr_
 split
 ·exact hf
 ·split
  ·rename_i h4 h5
   have:=hf.2.2 h5
   have h6:S.fuse≠0:=fun e=>h4 ⟨h5,e⟩
   exact⟨by show _≤S.fuse - 1;omega,by show S.fuse - 1<_;omega,fun _=>by show 0≤S.fuse - 1;omega⟩
  ·exact hf
theorem Zd_ {S:DiskL} (h:DkOk S) {n:Nat} {f:FileL} (hf:f.data.length≤1048576∧f.stl≤f.data.length):DkOk (j0_ S n f):=by
 refine⟨h.seen,h.stl,fun k hk p hp=>by show p.2< (S.files.set n f).length;rw[List.length_set];exact h.seenN k hk p hp,fun k hk p hp=>by show p.2< (S.files.set n f).length;rw[List.length_set];exact h.stlN k hk p hp,fun k hk c hc h0=>by show c.n< (S.files.set n f).length;rw[List.length_set];exact h.pendN k hk c hc h0,fun g hg=> ?_,h.fuse,h.max⟩
 rcases List.mem_or_eq_of_mem_set hg with hg|rfl
 ·exact h.file g hg
 ·exact hf
theorem Jp_ {S:DiskL} (h:DkOk S) {n:Nat} (hn:n<S.files.length): (zl_ S n).data.length≤1048576∧(zl_ S n).stl≤ (zl_ S n).data.length:=by
 unfold zl_
 rw[List.getD_eq_getElem?_getD,List.getElem?_eq_getElem hn]
 exact h.file _ (List.getElem_mem hn)
set_option linter.defProp false
def x4_:=And.intro (And.intro (And.intro (And.intro (@zc_) (@zb_)) (And.intro (@qE_) (@va_))) (And.intro (And.intro (@q3_) (@qW_)) (And.intro (@q0_) (@kD_)))) (And.intro (And.intro (And.intro (@kI_) (@Jy_)) (And.intro (@Jq_) (@ah1_))) (And.intro (And.intro (@Wi_) (@ame_)) (And.intro (@ac8_) (And.intro (@Sx.tup2_0) (@Sx.tup2_1)))))
theorem V3_ (X:za_) (G:DkG) (S:DiskL) (dir name:List UInt8) (w:World) (hX: ∀p,p∈X→w.heap[p.1]? =some p.2) (hn: (keys X).Nodup) (hP:DkP X G S) (hnm:name.length<1099511627776):
  Rets Tryz.prog 20 #[vp G.bd 0,vs dir,vs name] w (XS w X (fun v D=>v=vi ((qM_ S dir name).2:Nat)∧DkP D G (qM_ S dir name).1)):=by
 refine Rets.enterX Tryz.func20 rfl (rs:= [.tmp 6]) Tryz.results20 Tryz.ntmps20 hX hn ?_
 refine kf ?_
 first|with_reducible refine ks [] @x4_ ?_|refine kp @x4_ ?_
 refine Ow.buildSlice (e:=9) #[vs name] rfl rfl (by kernel_rfl) fun b1 hb1 hw1=> ?_
 have hP1:=hP.mono (X':=X++ [(b1,Obj.cells #[vs name] 9 (0,0))]) fun b o h=>zu_ h
 have hE1:=(Ext.refl w X).app (o:=Obj.cells #[vs name] 9 (0,0)) hw1
 have hm1: (b1,Obj.cells #[vs name] 9 (0,0))∈X++ [(b1,Obj.cells #[vs name] 9 (0,0))]:=by simp
 generalize X++ [(b1,Obj.cells #[vs name] 9 (0,0))]=L1 at*
 refine ko @x4_ ?_
 refine Ow.callC rfl rfl Tryz.call80 (fun w' hw'=>Rets.toX (j7_ w' G S dir (vsl b1 0 1 1) [name] (hP1.world hw') (ac9_ (hw'.has _ _ hm1)) (by simp) (by simpa using hnm))) (fun B2 v2 D2 hA2 hB2 hN2 hS2=> ?_)
 obtain⟨rfl,hS2⟩:=hS2
 rw[List.append_nil]
 clear hm1 hA2 hN2
 unfold qM_ atD
 rcases hS2 with⟨he,rfl⟩ | ⟨he,k,hk,rfl⟩
 ·rw[if_pos he]
  have e1:=jO_ he
  refine ko @x4_ ?_
  first|with_reducible refine ks [] (And.intro @x4_ @e1) ?_|refine kp (And.intro @x4_ @e1) ?_
  refine⟨_,(ke @x4_), ?_⟩
  exact⟨hE1,rfl,hP1⟩
 ·rw[if_neg (by rw[he];simp),hk]
  have hk3:=(zD_ hk).1
  have hdr:=zh_ (w0:=w) (hP1.dir k hk3)
  obtain⟨os,ms,hos,hms,hnp⟩:=hP1.seen k hk3
  have hso:=zh_ (w0:=w) hos
  have e1: ((0:Int) !=0)=false:=rfl
  refine ko @x4_ ?_
  first|with_reducible refine ks [] (And.intro @x4_ (And.intro @e1 (@hdr))) ?_|refine kp (And.intro @x4_ (And.intro @e1 (@hdr))) ?_
  refine Ow.mapGetG (encK:=vs) (encV:=jw_) (k:=name) (z:=none) rfl rfl Tryz.underlying127 xW_ zrPf rfl rfl hso hms ?_
  rw[hnp.get (hP.ok.seen k hk3).nodup]
  show Ow _ _ _ _ _ _ _ _
  cases hf:zx_ (S.dir k).seen name with
  |none=>
   have hf': (some k).bind (fun k=>zx_ (S.dir k).seen name)=none:=hf
   rw[hf']
   have hp0:jw_ none= .pointer none:=rfl
   refine ko (And.intro @x4_ @hp0) ?_
   first|with_reducible refine ks [] @x4_ ?_|refine kp @x4_ ?_
   refine⟨_,(ke @x4_), ?_⟩
   exact⟨hE1,rfl,hP1⟩
  |some n=>
   have hf': (some k).bind (fun k=>zx_ (S.dir k).seen name)=some n:=hf
   rw[hf']
   have hnl:=hP.ok.seenN k hk3 _ (zX_ hf)
   have hp: ∀q:Nat,jw_ (some q)=vp q 0:=fun _=>rfl
   have hbk:G.bd∈keys L1:=zj_ hP1.disk
   refine ko (And.intro @x4_ @hp) ?_
   first|with_reducible refine ks [] @x4_ ?_|refine kp @x4_ ?_
   refine Ow.callM rfl rfl Tryz.call81 hbk (fun w' hw'=>vh_ G.bd G.bm S w' hP.ok.fuse (hw'.has _ _ (zB_ hP1.disk))) ?_
   obtain⟨hb1,hb2,hb3⟩:=qA_ S
   have hP2:=hP1.setDisk (zr_ S).1 hb1 hb2 (xC_ hP.ok)
   have hE2:=hE1.setB (b:=G.bd) (o:=jX_ G.bm (zr_ S).1)
   generalize setB L1 G.bd (jX_ G.bm (zr_ S).1)=L2 at*
   by_cases hbn: (zr_ S).2=0
   ·have hlk:=hP2.file n (by rw[hb2];exact hnl)
    have hrd:=zh_ (w0:=w) hlk
    have e2: (((zr_ S).2:Int) !=0)=false:=by rw[hbn];rfl
    rw[if_neg (by rw[hbn];simp)]
    have hfo:=Jp_ hP.ok hnl
    have hP3:=hP2.setFile (n:=n) (by rw[hb2];exact hnl) ⟨(zl_ S n).data,(zl_ S n).data.length⟩ (Zd_ (xC_ hP.ok) ⟨hfo.1,Nat.le_refl _⟩)
    have hfe: (zr_ S).1.files.getD n jt_=zl_ S n:=by rw[hb2];rfl
    rw[hfe] at hlk hrd
    refine ko (And.intro @x4_ @e2) ?_
    first|with_reducible refine ks [] (And.intro @x4_ (And.intro @hrd (@hlk))) ?_|refine kp (And.intro @x4_ (And.intro @hrd (@hlk))) ?_
    refine⟨_,(ke @x4_), ?_⟩
    exact⟨hE2.setB,rfl,hP3⟩
   ·have e2:=jO_ hbn
    rw[if_pos hbn]
    refine ko (And.intro @x4_ @e2) ?_
    first|with_reducible refine ks [] @x4_ ?_|refine kp @x4_ ?_
    refine⟨_,(ke @x4_), ?_⟩
    exact⟨hE2,rfl,hP2⟩
end Go.Proofs
end
section
open Go Go.Proofs Go.Sx Go.StP
namespace Go.Proofs
set_option maxRecDepth 10000
set_option maxHeartbeats 400000
set_option linter.unusedSimpArgs false
def Zs_ (S:DiskL) (n:Nat) (s:List UInt8):Bool:=decide ((1048576:Int) - ((zl_ S n).data.length:Int)< (s.length:Int)) ||decide (S.max< (qR_ S:Int)) ||decide (S.max - (qR_ S:Int)< (s.length:Int))
def qm_ (S:DiskL) (dir name s:List UInt8):DiskL×Nat:=
 if qZ_ S dir [name]≠0 then(S,qZ_ S dir [name]) else match atD S dir name with
  |none=>(S,6)
  |some n=>if Zs_ S n s=true then(S,8) else if(zr_ S).2≠0 then zr_ S else(j0_ (zr_ S).1 n ⟨(zl_ S n).data++s,(zl_ S n).stl⟩,0)
set_option linter.defProp false
def qS_:=And.intro (And.intro (And.intro (And.intro (@zc_) (@zb_)) (And.intro (@qE_) (@va_))) (And.intro (And.intro (@q3_) (@qW_)) (And.intro (@q0_) (@kD_)))) (And.intro (And.intro (And.intro (@kI_) (@Jy_)) (And.intro (@Jq_) (@ah1_))) (And.intro (And.intro (@Wi_) (@ame_)) (And.intro (@ac8_) (And.intro (@Sx.tup2_0) (@Sx.tup2_1)))))
theorem abT_ (X:za_) (G:DkG) (S:DiskL) (dir name s:List UInt8) (w:World) (hX: ∀p,p∈X→w.heap[p.1]? =some p.2) (hn: (keys X).Nodup) (hP:DkP X G S) (hnm:name.length<1099511627776) (hsl:s.length<1099511627776) (hu:qR_ S<4611686018427387904):
  Rets Tryz.prog 73 #[vp G.bd 0,vs dir,vs name,vs s] w (XS w X (fun v D=>v=vi ((qm_ S dir name s).2:Nat)∧DkP D G (qm_ S dir name s).1)):=by
 refine Rets.enterX Tryz.func73 rfl (rs:= [.tmp 8]) Tryz.results73 Tryz.ntmps73 hX hn ?_
 refine kf ?_
 first|with_reducible refine ks [] @qS_ ?_|refine kp @qS_ ?_
 refine Ow.buildSlice (e:=9) #[vs name] rfl rfl (by kernel_rfl) fun b1 hb1 hw1=> ?_
 have hP1:=hP.mono (X':=X++ [(b1,Obj.cells #[vs name] 9 (0,0))]) fun b o h=>zu_ h
 have hE1:=(Ext.refl w X).app (o:=Obj.cells #[vs name] 9 (0,0)) hw1
 have hm1: (b1,Obj.cells #[vs name] 9 (0,0))∈X++ [(b1,Obj.cells #[vs name] 9 (0,0))]:=by simp
 generalize X++ [(b1,Obj.cells #[vs name] 9 (0,0))]=L1 at*
 refine ko @qS_ ?_
 refine Ow.callC rfl rfl Tryz.call80 (fun w' hw'=>Rets.toX (j7_ w' G S dir (vsl b1 0 1 1) [name] (hP1.world hw') (ac9_ (hw'.has _ _ hm1)) (by simp) (by simpa using hnm))) (fun B2 v2 D2 hA2 hB2 hN2 hS2=> ?_)
 obtain⟨rfl,hS2⟩:=hS2
 rw[List.append_nil]
 clear hm1 hA2 hN2
 unfold qm_ atD
 rcases hS2 with⟨he,rfl⟩ | ⟨he,k,hk,rfl⟩
 ·rw[if_pos he]
  have e1:=jO_ he
  refine ko @qS_ ?_
  first|with_reducible refine ks [] (And.intro @qS_ @e1) ?_|refine kp (And.intro @qS_ @e1) ?_
  refine⟨_,(ke @qS_), ?_⟩
  exact⟨hE1,rfl,hP1⟩
 ·rw[if_neg (by rw[he];simp),hk]
  have hk3:=(zD_ hk).1
  have hdr:=zh_ (w0:=w) (hP1.dir k hk3)
  obtain⟨os,ms,hos,hms,hnp⟩:=hP1.seen k hk3
  have hso:=zh_ (w0:=w) hos
  have e1: ((0:Int) !=0)=false:=rfl
  refine ko @qS_ ?_
  first|with_reducible refine ks [] (And.intro @qS_ (And.intro @e1 (@hdr))) ?_|refine kp (And.intro @qS_ (And.intro @e1 (@hdr))) ?_
  refine Ow.mapGetG (encK:=vs) (encV:=jw_) (k:=name) (z:=none) rfl rfl Tryz.underlying127 xW_ zrPf rfl rfl hso hms ?_
  rw[hnp.get (hP.ok.seen k hk3).nodup]
  show Ow _ _ _ _ _ _ _ _
  cases hf:zx_ (S.dir k).seen name with
  |none=>
   have hf': (some k).bind (fun k=>zx_ (S.dir k).seen name)=none:=hf
   rw[hf']
   have hp0:jw_ none= .pointer none:=rfl
   refine ko (And.intro @qS_ @hp0) ?_
   first|with_reducible refine ks [] @qS_ ?_|refine kp @qS_ ?_
   refine⟨_,(ke @qS_), ?_⟩
   exact⟨hE1,rfl,hP1⟩
  |some n=>
   have hf': (some k).bind (fun k=>zx_ (S.dir k).seen name)=some n:=hf
   rw[hf']
   have hnl:n<S.files.length:=hP.ok.seenN k hk3 _ (zX_ hf)
   have hfo:=Jp_ hP.ok hnl
   have hp: ∀q:Nat,jw_ (some q)=vp q 0:=fun _=>rfl
   have hbk:G.bd∈keys L1:=zj_ hP1.disk
   have hrf:=zh_ (w0:=w) (hP1.file n hnl)
   have hrb:=zh_ (w0:=w) hP1.disk
   have hrf':zE_ w L1 (G.fb.getD n 0)=some (vC_ (zl_ S n)):=hrf
   have hmx:=hP.ok.max
   refine ko (And.intro @qS_ @hp) ?_
   first|with_reducible refine ks [] @qS_ ?_|refine kp @qS_ ?_
   refine Cw.regionS [G.fb.getD n 0,G.bd] [0,1,2,3,4,5,6,7,8,9,10,12,13,14,15,11,16,17,18,19,20,21,22,23,25,24,26,27,28,29,30] [] (by kernel_rfl) (by kernel_rfl) (by kernel_rfl) ?_
   simp only[zp_, ↓zi_, ↓ze_, ↓zA_, ↓zz_,zf_]
   cases h1:decide ((1048576:Int) - ((zl_ S n).data.length:Int)< (s.length:Int)) with
   |true=>
    refine kq (And.intro @qS_ (And.intro @hrf' (And.intro @hrb (@h1)))) ?_
    have hF:Zs_ S n s=true:=by unfold Zs_;rw[h1];simp
    rw[if_pos hF]
    try with_reducible refine Ow.nil ?_
    first|with_reducible refine ks [] @qS_ ?_|refine kp @qS_ ?_
    refine⟨_,(ke @qS_), ?_⟩
    exact⟨hE1,rfl,hP1⟩
   |false=>
    refine kq (And.intro @qS_ (And.intro @hrf' (And.intro @hrb (@h1)))) ?_
    refine Ow.soft rfl rfl rfl ?_
    refine Ow.callFV rfl Tryz.call24 (fun w' hw'=>WF_ w' G S (hP1.world hw') hu) ?_
    with_reducible refine Ow.nil ?_
    refine⟨by intro b hb;simp only[List.mem_cons,List.not_mem_nil,or_false] at hb;(try subst hb);rfl, ?_⟩
    cases h2:decide (S.max< (qR_ S:Int)) with
    |true=>
     refine kq (And.intro @qS_ (And.intro @hrb (@h2))) ?_
     have hF:Zs_ S n s=true:=by unfold Zs_;rw[h2];simp
     rw[if_pos hF]
     try with_reducible refine Ow.nil ?_
     first|with_reducible refine ks [] @qS_ ?_|refine kp @qS_ ?_
     refine⟨_,(ke @qS_), ?_⟩
     exact⟨hE1,rfl,hP1⟩
    |false=>
     have h2':=of_decide_eq_false h2
     refine kq (And.intro @qS_ (And.intro @hrb (@h2))) ?_
     refine Ow.soft rfl rfl rfl ?_
     refine Ow.callFV rfl Tryz.call24 (fun w' hw'=>WF_ w' G S (hP1.world hw') hu) ?_
     with_reducible refine Ow.nil ?_
     refine⟨by intro b hb;simp only[List.mem_cons,List.not_mem_nil,or_false] at hb;(try subst hb);rfl, ?_⟩
     cases h3:decide (S.max - (qR_ S:Int)< (s.length:Int)) with
     |true=>
      refine kq (And.intro @qS_ (And.intro @hrb (@h3))) ?_
      have hF:Zs_ S n s=true:=by unfold Zs_;rw[h3];simp
      rw[if_pos hF]
      try with_reducible refine Ow.nil ?_
      first|with_reducible refine ks [] @qS_ ?_|refine kp @qS_ ?_
      refine⟨_,(ke @qS_), ?_⟩
      exact⟨hE1,rfl,hP1⟩
     |false=>
      have hF:Zs_ S n s=false:=by unfold Zs_;rw[h1,h2,h3];rfl
      rw[if_neg (by rw[hF];simp)]
      have h1':=of_decide_eq_false h1
      refine kq (And.intro @qS_ (And.intro @hrb (@h3))) ?_
      try with_reducible refine Ow.nil ?_
      first|with_reducible refine ks [] @qS_ ?_|refine kp @qS_ ?_
      refine Ow.callM rfl rfl Tryz.call81 hbk (fun w' hw'=>vh_ G.bd G.bm S w' hP.ok.fuse (hw'.has _ _ (zB_ hP1.disk))) ?_
      obtain⟨hb1,hb2,hb3⟩:=qA_ S
      have hP2:=hP1.setDisk (zr_ S).1 hb1 hb2 (xC_ hP.ok)
      have hE2:=hE1.setB (b:=G.bd) (o:=jX_ G.bm (zr_ S).1)
      generalize setB L1 G.bd (jX_ G.bm (zr_ S).1)=L2 at*
      by_cases hbn: (zr_ S).2=0
      ·have hlk:=hP2.file n (by rw[hb2];exact hnl)
       have hrd:=zh_ (w0:=w) hlk
       have e2: (((zr_ S).2:Int) !=0)=false:=by rw[hbn];rfl
       rw[if_neg (by rw[hbn];simp)]
       have hP3:=hP2.setFile (n:=n) (by rw[hb2];exact hnl) ⟨(zl_ S n).data++s,(zl_ S n).stl⟩ (Zd_ (xC_ hP.ok) ⟨by simp only[List.length_append];omega,by simp only[List.length_append];omega⟩)
       have hfe: (zr_ S).1.files.getD n jt_=zl_ S n:=by rw[hb2];rfl
       rw[hfe] at hlk hrd
       refine ko (And.intro @qS_ @e2) ?_
       first|with_reducible refine ks [] (And.intro @qS_ (And.intro @hrd (@hlk))) ?_|refine kp (And.intro @qS_ (And.intro @hrd (@hlk))) ?_
       refine⟨_,(ke @qS_), ?_⟩
       exact⟨hE2.setB,rfl,hP3⟩
      ·have e2:=jO_ hbn
       rw[if_pos hbn]
       refine ko (And.intro @qS_ @e2) ?_
       first|with_reducible refine ks [] @qS_ ?_|refine kp @qS_ ?_
       refine⟨_,(ke @qS_), ?_⟩
       exact⟨hE2,rfl,hP2⟩
end Go.Proofs
end
section
open Go Go.Proofs Go.Sx Go.StP
namespace Go.Proofs
set_option maxRecDepth 10000
set_option maxHeartbeats 400000
set_option linter.unusedSimpArgs false
structure Only (X D:za_) (bs:Nat) (o:Obj):Prop where
 keys:Sx.keys D=Sx.keys X
 at_:Sx.look D bs=some o
 rest: ∀b,b≠bs→Sx.look D b=Sx.look X b
theorem Only.set {X:za_} {bs:Nat} {o o':Obj} (h:Sx.look X bs=some o):Only X (setB X bs o') bs o':=⟨xm_ _ _ _,qe_ h,fun _ hb=>zm_ (Ne.symm hb)⟩
theorem Only.trans {X D D':za_} {bs:Nat} {o o':Obj} (h:Only X D bs o) (h':Only D D' bs o'):Only X D' bs o':=⟨h'.keys.trans h.keys,h'.at_,fun b hb=>(h'.rest b hb).trans (h.rest b hb)⟩
theorem abW_ (s:List UInt8) (n:Nat):zo_ (some (false,n)) (some (v6_ s)) 0=some (vs s):=(rfl)
theorem amm_ (b:Nat) (n:Nat):zo_ (some (false,n)) (some (WL_ b)) 0=some (vp b 0):=(rfl)
set_option linter.defProp false
def Zu_:=And.intro (And.intro (@zc_) (@zb_)) (And.intro (@abW_) (@amm_))
theorem aad_ (X:za_) (b1 b2 bs fbn:Nat) (a:List UInt8) (o:Obj) (m:List (List UInt8×Option Nat)) (w:World) (hX: ∀p,p∈X→w.heap[p.1]? =some p.2) (hn: (keys X).Nodup)
  (h1:Sx.look X b1=some (WL_ fbn)) (h2:Sx.look X b2=some (v6_ a)) (hs:Sx.look X bs=some o) (hm:w0_ vs jw_ o m):
  Rets Tryz.prog 159 #[vm bs,vp b1 0,vp b2 0] w (XS w X (fun v D=>v=xS_ []∧ ∃o',Only X D bs o'∧w0_ vs jw_ o' (updG a (some fbn) m))):=by
 have r1:=zh_ (w0:=w) h1
 have r2:=zh_ (w0:=w) h2
 refine Rets.enterX Tryz.func159 rfl (rs:= []) Tryz.results159 Tryz.ntmps159 hX hn ?_
 refine kf ?_
 first|with_reducible refine ks [] (And.intro @Zu_ (And.intro @r1 (@r2))) ?_|refine kp (And.intro @Zu_ (And.intro @r1 (@r2))) ?_
 refine Ow.mapUpdateG (encK:=vs) (encV:=jw_) (k:=a) (v:=some fbn) rfl rfl Tryz.underlying127 xW_ rfl rfl rfl hs hm (fun o' hm'=> ?_)
 refine ko @Zu_ ?_
 refine⟨_,(ke @Zu_), ?_⟩
 exact⟨(Ext.refl w X).setB,rfl,o',Only.set hs,hm'⟩
theorem WK_ (X:za_) (b1 bs:Nat) (a:List UInt8) (o:Obj) (m:List (List UInt8×Option Nat)) (w:World) (hX: ∀p,p∈X→w.heap[p.1]? =some p.2) (hn: (keys X).Nodup)
  (h1:Sx.look X b1=some (v6_ a)) (hs:Sx.look X bs=some o) (hm:w0_ vs jw_ o m):
  Rets Tryz.prog 161 #[vm bs,vp b1 0] w (XS w X (fun v D=>v=xS_ []∧ ∃o',Only X D bs o'∧w0_ vs jw_ o' (delG a m))):=by
 have r1:=zh_ (w0:=w) h1
 refine Rets.enterX Tryz.func161 rfl (rs:= []) Tryz.results161 Tryz.ntmps161 hX hn ?_
 refine kf ?_
 first|with_reducible refine ks [] (And.intro @Zu_ @r1) ?_|refine kp (And.intro @Zu_ @r1) ?_
 refine Ow.mapDeleteG (encK:=vs) (encV:=jw_) (k:=a) rfl rfl Tryz.underlying127 xW_ rfl rfl hs hm (fun o' hm'=> ?_)
 refine ko @Zu_ ?_
 refine⟨_,(ke @Zu_), ?_⟩
 exact⟨(Ext.refl w X).setB,rfl,o',Only.set hs,hm'⟩
theorem ac6_ (X:za_) (b1 b2 bs:Nat) (a b:List UInt8) (o:Obj) (m:List (List UInt8×Option Nat)) (w:World) (hX: ∀p,p∈X→w.heap[p.1]? =some p.2) (hn: (keys X).Nodup)
  (h1:Sx.look X b1=some (v6_ a)) (h2:Sx.look X b2=some (v6_ b)) (hs:Sx.look X bs=some o) (hm:w0_ vs jw_ o m):
  Rets Tryz.prog 121 #[vm bs,vp b1 0,vp b2 0] w (XS w X (fun v D=>v=xS_ []∧ ∃o',Only X D bs o'∧w0_ vs jw_ o' (delG a (updG b (getG a none m) m)))):=by
 have r1:=zh_ (w0:=w) h1
 have r2:=zh_ (w0:=w) h2
 refine Rets.enterX Tryz.func121 rfl (rs:= []) Tryz.results121 Tryz.ntmps121 hX hn ?_
 refine kf ?_
 first|with_reducible refine ks [] (And.intro @Zu_ (And.intro @r1 (@r2))) ?_|refine kp (And.intro @Zu_ (And.intro @r1 (@r2))) ?_
 refine Ow.mapGetG (encK:=vs) (encV:=jw_) (k:=a) (z:=none) rfl rfl Tryz.underlying127 xW_ zrPf rfl rfl (zh_ hs) hm ?_
 refine ko @Zu_ ?_
 refine Ow.mapUpdateG (encK:=vs) (encV:=jw_) (k:=b) (v:=getG a none m) rfl rfl Tryz.underlying127 xW_ rfl rfl rfl hs hm (fun o1 hm1=> ?_)
 have ho1:Only X (setB X bs o1) bs o1:=Only.set hs
 have hne:b1≠bs:=by
  rintro rfl
  rw[hs] at h1;cases h1
  obtain⟨es,c,h,-⟩:=hm;cases h
 have r3:=zh_ (w0:=w) ((ho1.rest b1 hne).trans h1)
 have hE:=(Ext.refl w X).setB (b:=bs) (o:=o1)
 generalize setB X bs o1=L1 at*
 refine ko @Zu_ ?_
 first|with_reducible refine ks [] (And.intro @Zu_ @r3) ?_|refine kp (And.intro @Zu_ @r3) ?_
 refine Ow.mapDeleteG (encK:=vs) (encV:=jw_) (k:=a) rfl rfl Tryz.underlying127 xW_ rfl rfl ho1.at_ hm1 (fun o' hm'=> ?_)
 refine ko @Zu_ ?_
 refine⟨_,(ke @Zu_), ?_⟩
 exact⟨hE.setB,rfl,o',ho1.trans (Only.set ho1.at_),hm'⟩
end Go.Proofs
end
section
open Go Go.Proofs Go.Sx Go.StP
namespace Go.Proofs
set_option maxRecDepth 10000
set_option maxHeartbeats 400000
set_option linter.unusedSimpArgs false
def okC (l:NmL) (c:CallL):Prop:=c.kind=1→zx_ l c.a≠none∧c.a≠c.b
theorem NmP.ren {fb:List Nat} {l:NmL} {m:List (List UInt8×Option Nat)} (h:NmP fb l m) (hs:SrtN l) {a b:List UInt8} {n:Nat} (hab:a≠b):NmP fb (Xd_ (qL_ l a) (b,n)) (delG a (updG b (some (fb.getD n 0)) m)):=by
 have h1:=h.put hs.nodup b n
 have h2:=h1.wipe (Xb_ (b,n) hs).nodup a
 refine h2.trans (List.Perm.map _ ?_)
 unfold Xd_
 refine(List.Perm.filter _ (jQ_ (b,n) (qL_ l b))).trans ?_
 refine List.Perm.trans ?_ (jQ_ (b,n) (qL_ (qL_ l a) b)).symm
 have e: (a==b)=false:=beq_eq_false_iff_ne.2 hab
 rw[List.filter_cons]
 simp only[e,Bool.not_false, ↓reduceIte]
 unfold qL_
 rw[List.filter_filter,List.filter_filter]
 refine List.Perm.cons _ (List.Perm.of_eq (List.filter_congr fun p _=>Bool.and_comm _ _))
theorem aaw_ {l:NmL} (c:CallL) (h:SrtN l):SrtN (jb_ l c):=by
 unfold jb_
 split
 ·exact Xb_ _ h
 ·exact Xb_ _ (QR_ _ h)
 ·exact QR_ _ h
theorem XB_ {X:za_} {fb:List Nat} {v:Value} {c:CallL} {bs:Nat} {l:NmL} (hv:FnP X fb v c) (hN:NmM X fb bs l) (hs:SrtN l) (hok:okC l c):
  ∃k cap,v= .func (.func k) #[] cap∧(∀a w,(callFunc k a).run Tryz.prog w= .ok (.enter k a) w)∧ ∀w,(∀p,p∈X→w.heap[p.1]? =some p.2)→(keys X).Nodup→Rets Tryz.prog k (#[vm bs]++cap) w (XS w X (fun r D=>r=xS_ []∧ ∃o',Only X D bs o'∧NmM D fb bs (jb_ l c))):=by
 obtain⟨o,m,ho,hm,hp⟩:=hN
 unfold FnP at hv
 split at hv
 ·rename_i hk
  obtain⟨b1,b2,rfl,h1,h2⟩:=hv
  refine⟨_,_,rfl,Tryz.call159,fun w hX hn=>Rets.mono (aad_ X b1 b2 bs _ c.a o m w hX hn h1 h2 ho hm) ?_⟩
  rintro r D ⟨hE,hr,o',hO,hm'⟩
  refine⟨hE,hr,o',hO,o',_,hO.at_,hm', ?_⟩
  unfold jb_
  rw[hk]
  exact hp.put hs.nodup c.a c.n
 ·rename_i hk
  obtain⟨b1,b2,rfl,h1,h2⟩:=hv
  obtain⟨hf,hab⟩:=hok hk
  refine⟨_,_,rfl,Tryz.call121,fun w hX hn=>Rets.mono (ac6_ X b1 b2 bs c.a c.b o m w hX hn h1 h2 ho hm) ?_⟩
  rintro r D ⟨hE,hr,o',hO,hm'⟩
  refine⟨hE,hr,o',hO,o',_,hO.at_,hm', ?_⟩
  unfold jb_
  rw[hk,hp.get hs.nodup]
  cases e:zx_ l c.a with
  |none=>exact absurd e hf
  |some n=>exact hp.ren hs hab
 ·rename_i h0 h1'
  obtain⟨b1,rfl,h1⟩:=hv
  refine⟨_,_,rfl,Tryz.call161,fun w hX hn=>Rets.mono (WK_ X b1 bs c.a o m w hX hn h1 ho hm) ?_⟩
  rintro r D ⟨hE,hr,o',hO,hm'⟩
  refine⟨hE,hr,o',hO,o',_,hO.at_,hm', ?_⟩
  have e:jb_ l c=qL_ l c.a:=by
   unfold jb_
   split
   ·rename_i e;exact absurd e h0
   ·rename_i e;exact absurd e h1'
   ·rfl
  rw[e]
  exact hp.wipe hs.nodup c.a
end Go.Proofs
end
section
open Go Go.Proofs Go.Sx Go.StP
namespace Go.Proofs
set_option maxRecDepth 10000
set_option maxHeartbeats 400000
set_option linter.unusedSimpArgs false
theorem Jx_ {α:Type} {a b:List α} (z:α) (k:Nat) (h:k<a.length): (a++b).getD k z=a.getD k z:=by
 rw[List.getD_eq_getElem?_getD,List.getElem?_append_left h,←List.getD_eq_getElem?_getD]
theorem Q8_ {α:Type} {a:List α} (z x:α) {k:Nat} (h:a.length=k): (a++ [x]).getD k z=x:=by
 subst h
 rw[List.getD_eq_getElem?_getD,List.getElem?_append_right (Nat.le_refl _),Nat.sub_self];rfl
def setP (G:DkG) (k:Nat) (v:Value):DkG:={G with p:=fun j=>if j=k then v else G.p j}
theorem aak_ {l:NmL} {c:CallL} {n:Nat} (hl: ∀p,p∈l→p.2<n) (hok:okC l c) (hc:c.kind=0→c.n<n): ∀p,p∈jb_ l c→p.2<n:=by
 intro p hp
 have Jb_: ∀ {l:NmL} {x:List UInt8×Nat},(∀p,p∈l→p.2<n)→x.2<n→p∈Xd_ l x→p.2<n:=by
  intro l x h1 h2 h3
  rcases List.mem_cons.1 ((jQ_ x (qL_ l x.1)).mem_iff.1 h3) with rfl|h3
  ·exact h2
  ·exact h1 _ ((List.mem_filter.1 h3).1)
 unfold jb_ at hp
 split at hp
 ·rename_i hk;exact Jb_ hl (hc hk) hp
 ·rename_i hk
  refine Jb_ (fun q hq=>hl q ((List.mem_filter.1 hq).1)) ?_ hp
  cases e:zx_ l c.a with
  |none=>exact absurd e (hok hk).1
  |some m=>
   have:=hl _ (zX_ e)
   exact this
 ·exact hl _ ((List.mem_filter.1 hp).1)
theorem wB_ {S:DiskL} (h:DkOk S) {k:Nat} (d:DirL) (h1:SrtN d.seen) (h2:SrtN d.stl) (h3: ∀p,p∈d.seen→p.2<S.files.length) (h4: ∀p,p∈d.stl→p.2<S.files.length) (h5: ∀c,c∈d.pend→c.kind=0→c.n<S.files.length):DkOk (qD_ S k d):=by
 refine⟨fun j hj=> ?_,fun j hj=> ?_,fun j hj=> ?_,fun j hj=> ?_,fun j hj=> ?_,h.file,h.fuse,h.max⟩<;>unfold qD_<;>simp only<;>by_cases e:j=k
 ·rw[if_pos e];exact h1
 ·rw[if_neg e];exact h.seen j hj
 ·rw[if_pos e];exact h2
 ·rw[if_neg e];exact h.stl j hj
 ·rw[if_pos e];exact h3
 ·rw[if_neg e];exact h.seenN j hj
 ·rw[if_pos e];exact h4
 ·rw[if_neg e];exact h.stlN j hj
 ·rw[if_pos e];exact h5
 ·rw[if_neg e];exact h.pendN j hj
theorem QE_ {G:DkG} (h: [G.s 0,G.s 1,G.s 2,G.t 0,G.t 1,G.t 2].Nodup) {i j:Nat} (hi:i<3) (hj:j<3): (i≠j→G.s i≠G.s j)∧(i≠j→G.t i≠G.t j)∧G.s i≠G.t j:=by
 simp only[List.nodup_cons,List.mem_cons,List.not_mem_nil,not_or,or_false,List.nodup_nil,and_true,not_false_eq_true] at h
 have a:i=0∨i=1∨i=2:=by omega
 have b:j=0∨j=1∨j=2:=by omega
 rcases a with rfl|rfl|rfl<;>rcases b with rfl|rfl|rfl<;>refine⟨fun hne=> ?_,fun hne=> ?_, ?_⟩<;>first|omega| (exact absurd rfl hne)
theorem apn_ {G:DkG} (h: [G.d 0,G.d 1,G.d 2].Nodup) {i j:Nat} (hi:i<3) (hj:j<3):i≠j→G.d i≠G.d j:=by
 simp only[List.nodup_cons,List.mem_cons,List.not_mem_nil,not_or,or_false,List.nodup_nil,and_true,not_false_eq_true] at h
 have a:i=0∨i=1∨i=2:=by omega
 have b:j=0∨j=1∨j=2:=by omega
 rcases a with rfl|rfl|rfl<;>rcases b with rfl|rfl|rfl<;>intro hne<;>first|omega| (exact absurd rfl hne)
structure DkP.Turn (X L:za_) (G:DkG) (k:Nat):Prop where
 keep: ∀b o,Sx.look X b=some o→b≠G.s k→b≠G.d k→slB (G.p k)≠some b→Sx.look L b=some o
theorem DkP.turn {X L:za_} {G:DkG} {S:DiskL} (h:DkP X G S) {k:Nat} (hk:k<3) {c:CallL} {v v2:Value} {vals:List Value} (hT:DkP.Turn X L G k)
  (hs:NmM L G.fb (G.s k) (jb_ (S.dir k).seen c)) (hd:Sx.look L (G.d k)=some (ki_ (G.s k) (G.t k) v2)) (hv:vals.length=(S.dir k).pend.length)
  (hF: ∀i,i<vals.length→FnP X G.fb (vals.getD i undef) ((S.dir k).pend.getD i wq_)) (hGo:Gr X 137 1 (G.p k) vals.length vals)
  (hGr:Gr L 137 1 v2 (vals.length+1) (vals++ [v])) (hFv:FnP X G.fb v c) (hsl:slB v2=slB (G.p k)∨ ∃b,slB v2=some b∧b∉keys X) (hok:okC (S.dir k).seen c) (hcn:c.kind=0→c.n<S.files.length):
  DkP L (setP G k v2) (qD_ S k ⟨jb_ (S.dir k).seen c,(S.dir k).stl,(S.dir k).pend++ [c]⟩):=by
 have hpk: ∀b o,Sx.look X b=some o→tyO o≠some 137→slB (G.p k)≠some b:=by
  intro b o hb ht e
  obtain⟨arr,ha⟩:=Ja_ hGo e
  rw[hb] at ha;cases ha;exact ht rfl
 obtain⟨osk,msk,hosk,hmsk,-⟩:=h.seen k hk
 have hns: ∀b o,Sx.look X b=some o→tyO o≠none→b≠G.s k:=by
  rintro b o hb ht rfl
  rw[hosk] at hb;cases hb;exact ht (jc_ hmsk)
 have hnd: ∀b o,Sx.look X b=some o→tyO o≠some 130→b≠G.d k:=by
  rintro b o hb ht rfl
  rw[h.dir k hk] at hb;cases hb;exact ht rfl
 have K: ∀b o,Sx.look X b=some o→tyO o≠none→tyO o≠some 130→tyO o≠some 137→Sx.look L b=some o:=fun b o hb h1 h2 h3=>hT.keep b o hb (hns b o hb h1) (hnd b o hb h2) (hpk b o hb h3)
 have KM: ∀b o,Sx.look X b=some o→tyO o=none→b≠G.s k→Sx.look L b=some o:=fun b o hb h1 h2=>hT.keep b o hb h2 (hnd b o hb (by rw[h1];intro e;cases e)) (hpk b o hb (by rw[h1];intro e;cases e))
 have KF: ∀ {w c},FnP X G.fb w c→FnP L G.fb w c:=fun hw=>hw.keep fun b o hb hx=>K b o hb (by rcases hx with⟨s,rfl⟩ | ⟨a,rfl⟩<;>simp[tyO,v6_,WL_]) (by rcases hx with⟨s,rfl⟩ | ⟨a,rfl⟩<;>simp[tyO,v6_,WL_]) (by rcases hx with⟨s,rfl⟩ | ⟨a,rfl⟩<;>simp[tyO,v6_,WL_])
 refine⟨?_, ?_, ?_, ?_, ?_, ?_, ?_,h.len,h.nodf,h.nodm,h.nodd,h.nodb, ?_, ?_⟩
 ·exact K _ _ h.disk (by simp[tyO,jX_]) (by simp[tyO,jX_]) (by simp[tyO,jX_])
 ·obtain⟨o,h1,h2⟩:=h.dirs
  exact⟨o,KM _ _ h1 (jc_ h2) (h.nodb k hk).1,h2⟩
 ·intro j hj
  by_cases e:j=k
  ·subst e
   show Sx.look L (G.d j)=some (ki_ (G.s j) (G.t j) (if j=j then v2 else G.p j))
   rw[if_pos rfl];exact hd
  ·show Sx.look L (G.d j)=some (ki_ (G.s j) (G.t j) (if j=k then v2 else G.p j))
   rw[if_neg e]
   exact hT.keep _ _ (h.dir j hj) (hns _ _ (h.dir j hj) (by simp[tyO,ki_])) (apn_ h.nodd hj hk e) (hpk _ _ (h.dir j hj) (by simp[tyO,ki_]))
 ·intro j hj
  show NmM L G.fb (G.s j) (if j=k then _ else S.dir j).seen
  by_cases e:j=k
  ·subst e;rw[if_pos rfl];exact hs
  ·rw[if_neg e]
   obtain⟨o,m,h1,h2,h3⟩:=h.seen j hj
   exact⟨o,m,KM _ _ h1 (jc_ h2) ((QE_ h.nodm hj hk).1 e),h2,h3⟩
 ·intro j hj
  show NmM L G.fb (G.t j) (if j=k then _ else S.dir j).stl
  have e2: (if j=k then⟨jb_ (S.dir k).seen c,(S.dir k).stl,(S.dir k).pend++ [c]⟩ else S.dir j:DirL).stl=(S.dir j).stl:=by
   by_cases e:j=k
   ·subst e;rw[if_pos rfl]
   ·rw[if_neg e]
  rw[e2]
  obtain⟨o,m,h1,h2,h3⟩:=h.stl j hj
  exact⟨o,m,KM _ _ h1 (jc_ h2) (Ne.symm (QE_ h.nodm hk hj).2.2),h2,h3⟩
 ·intro j hj
  by_cases e:j=k
  ·subst e
   refine⟨vals++ [v], ?_, ?_, ?_⟩
   ·show(vals++ [v]).length=(if j=j then _ else S.dir j:DirL).pend.length
    rw[if_pos rfl,List.length_append,List.length_append,hv];rfl
   ·show Gr L _ 1 (if j=j then v2 else G.p j) (vals++ [v]).length (vals++ [v])
    rw[if_pos rfl,List.length_append];exact hGr
   ·intro i hi
    show FnP L G.fb ((vals++ [v]).getD i undef) ((if j=j then _ else S.dir j:DirL).pend.getD i wq_)
    rw[if_pos rfl]
    rw[List.length_append,List.length_singleton] at hi
    by_cases ei:i=vals.length
    ·subst ei
     rw[Q8_ _ _ rfl,Q8_ _ _ hv.symm]
     exact KF hFv
    ·rw[Jx_ _ _ (by omega),Jx_ _ _ (by omega)]
     exact KF (hF i (by omega))
  ·obtain⟨vj,h1,h2,h3⟩:=h.pend j hj
   refine⟨vj, ?_, ?_, ?_⟩
   ·show vj.length=(if j=k then _ else S.dir j:DirL).pend.length
    rw[if_neg e];exact h1
   ·show Gr L _ 1 (if j=k then v2 else G.p j) vj.length vj
    rw[if_neg e]
    refine h2.keep fun b o hb ho=> ?_
    obtain⟨arr,ha⟩:=Ja_ h2 hb
    rw[ho] at ha;cases ha
    exact hT.keep _ _ ho (hns _ _ ho (by simp[tyO])) (hnd _ _ ho (by simp[tyO])) (h.nodp j k hj hk e b hb)
   ·intro i hi
    show FnP L G.fb (vj.getD i undef) ((if j=k then _ else S.dir j:DirL).pend.getD i wq_)
    rw[if_neg e]
    exact KF (h3 i hi)
 ·intro n hn
  exact K _ _ (h.file n hn) (by simp[tyO,vC_]) (by simp[tyO,vC_]) (by simp[tyO,vC_])
 ·intro i j hi hj hij b hb
  have key: ∀j,j<3→ ∀b,slB (G.p j)=some b→b∈keys X:=fun j hj b hb=>by
   obtain⟨vj,-,h2,-⟩:=h.pend j hj
   obtain⟨arr,ha⟩:=Ja_ h2 hb
   exact zj_ ha
  show slB (if j=k then v2 else G.p j)≠some b
  have hb':slB (if i=k then v2 else G.p i)=some b:=hb
  by_cases ei:i=k
  ·subst ei
   rw[if_pos rfl] at hb'
   rw[if_neg (Ne.symm hij)]
   rcases hsl with e| ⟨b',e,hb2⟩
   ·exact h.nodp i j hi hj hij b (by rw[←e];exact hb')
   ·rw[e] at hb';cases hb'
    exact fun h'=>hb2 (key j hj _ h')
  ·rw[if_neg ei] at hb'
   by_cases ej:j=k
   ·subst ej
    rw[if_pos rfl]
    rcases hsl with e| ⟨b',e,hb2⟩
    ·rw[e];exact h.nodp i j hi hj hij b hb'
    ·rw[e]
     intro h';cases h'
     exact hb2 (key i hi _ hb')
   ·rw[if_neg ej];exact h.nodp i j hi hj hij b hb'
 ·exact wB_ h.ok _ (aaw_ c (h.ok.seen k hk)) (h.ok.stl k hk) (aak_ (h.ok.seenN k hk) hok hcn) (h.ok.stlN k hk) (fun d hd h0=>by
   rcases List.mem_append.1 hd with hd|hd
   ·exact h.ok.pendN k hk d hd h0
   ·rw[List.mem_singleton.1 hd] at h0 ⊢;exact hcn h0)
end Go.Proofs
end
section
open Go Go.Proofs Go.Sx Go.StP
namespace Go.Proofs
set_option maxRecDepth 10000
set_option maxHeartbeats 400000
set_option linter.unusedSimpArgs false
def x1_ (S:DiskL) (k:Nat) (c:CallL):DiskL:=qD_ S k ⟨jb_ (S.dir k).seen c,(S.dir k).stl,(S.dir k).pend++ [c]⟩
theorem Jn_ (a b:Nat) (v q:Value) (x:Bool) (hq:Value.oneCell' q=true∧q.cells= #[q]):zn_ (some (x,1)) (some (ki_ a b v)) 2 q=some (ki_ a b q):=zy_ [vm a,vm b] [v] [q] [] x _ 130 rfl rfl hq.2 rfl (by simp[hq.1])
set_option linter.defProp false
def wS_:=And.intro (And.intro (@zc_) (And.intro (@zb_) (@qE_))) (And.intro (And.intro (@va_) (@q3_)) (And.intro (@qW_) (@q0_)))
theorem ZO_ (X:za_) (G:DkG) (S:DiskL) (k:Nat) (c:CallL) (v:Value) (w:World) (hX: ∀p,p∈X→w.heap[p.1]? =some p.2) (hn: (keys X).Nodup) (hP:DkP X G S) (hk:k<3) (hv:FnP X G.fb v c) (hok:okC (S.dir k).seen c) (hcn:c.kind=0→c.n<S.files.length) (hpl: (S.dir k).pend.length<1000000):
  Rets Tryz.prog 116 #[vp G.bd 0,vp (G.d k) 0,v] w (XS w X (fun r D=>r=vi ((zr_ S).2:Nat)∧if(zr_ S).2≠0 then D=setB X G.bd (jX_ G.bm (zr_ S).1) else∃v2,DkP D (setP G k v2) (x1_ (zr_ S).1 k c))):=by
 obtain⟨fk,cap,rfl,-,-⟩:=XB_ hv (hP.seen k hk) (hP.ok.seen k hk) hok
 refine Rets.enterX Tryz.func116 rfl (rs:= [.tmp 6]) Tryz.results116 Tryz.ntmps116 hX hn ?_
 refine kf ?_
 first|with_reducible refine ks [] @wS_ ?_|refine kp @wS_ ?_
 refine Ow.callM rfl rfl Tryz.call81 (zj_ hP.disk) (fun w' hw'=>vh_ G.bd G.bm S w' hP.ok.fuse (hw'.has _ _ (zB_ hP.disk))) ?_
 obtain⟨hb1,hb2,hb3⟩:=qA_ S
 have hP1:=hP.setDisk (zr_ S).1 hb1 hb2 (xC_ hP.ok)
 have hE1:=(Ext.refl w X).setB (b:=G.bd) (o:=jX_ G.bm (zr_ S).1)
 have hv1:FnP (setB X G.bd (jX_ G.bm (zr_ S).1)) G.fb (.func (.func fk) #[] cap) c:=hv.keep fun b o ho hx=>qu_ hP.disk ho (by rcases hx with⟨s,rfl⟩ | ⟨a,rfl⟩<;>simp[tyO,jX_,v6_,WL_])
 generalize hL1:setB X G.bd (jX_ G.bm (zr_ S).1)=L1 at*
 by_cases hbn: (zr_ S).2=0
 ·have e2: (((zr_ S).2:Int) !=0)=false:=by rw[hbn];rfl
  have hsk:SrtN ((zr_ S).1.dir k).seen:=hP1.ok.seen k hk
  have hok1:okC ((zr_ S).1.dir k).seen c:=by rw[hb1];exact hok
  obtain⟨fk',cap',he,hfk,hcall⟩:=XB_ hv1 (hP1.seen k hk) hsk hok1
  cases he
  have hdr:=zh_ (w0:=w) (hP1.dir k hk)
  obtain⟨os,ms,hos,hms,-⟩:=hP1.seen k hk
  have hds:G.d k≠G.s k:=by
   intro e
   have h1:=hP1.dir k hk
   rw[e,hos] at h1;cases h1
   obtain⟨es,cl,h,-⟩:=hms;cases h
  obtain⟨vals,hvl,hGr,hF⟩:=hP1.pend k hk
  refine ko (And.intro @wS_ @e2) ?_
  first|with_reducible refine ks [] (And.intro @wS_ @hdr) ?_|refine kp (And.intro @wS_ @hdr) ?_
  refine Ow.callFnXC (b:=vm (G.s k)) (cap:=cap) (ars:= #[vm (G.s k)]++cap) rfl (X:=L1) (Y:= []) (List.append_nil _).symm rfl rfl rfl rfl hfk (fun w' hw' hX' hn'=>hcall w' hX' hn') (fun r D hC hS=> ?_)
  rw[List.append_nil]
  obtain⟨rfl,o',hO,hN2⟩:=hS
  have hE2:=hE1.came0 hC
  have hdl:Sx.look D (G.d k)=some (ki_ (G.s k) (G.t k) (G.p k)):=(hO.rest _ hds).trans (hP1.dir k hk)
  have hdr2:=zh_ (w0:=w) hdl
  have hGD:Gr D 137 1 (G.p k) vals.length vals:=hGr.keep fun b o hb ho=>by
   obtain⟨arr,ha⟩:=Ja_ hGr hb
   rw[ho] at ha;cases ha
   refine(hO.rest b ?_).trans ho
   rintro rfl
   rw[hos] at ho;cases ho
   obtain⟨es,cl,h,-⟩:=hms;cases h
  refine ko @wS_ ?_
  first|with_reducible refine ks [] (And.intro @wS_ @hdr2) ?_|refine kp (And.intro @wS_ @hdr2) ?_
  refine Ow.buildSlice (e:=137) #[.func (.func fk) #[] cap] rfl rfl (by kernel_rfl) fun ba hba hwa=> ?_
  refine ko @wS_ ?_
  refine Ow.appendG (e:=137) (k:=1) (new:= [.func (.func fk) #[] cap]) (G.p k) rfl rfl rfl Tryz.underlying128 (id (by kernel_rfl):zZ_ Tryz.prog 137=some (false,1)) (by kernel_rfl) (id (by kernel_rfl):zW_ Tryz.prog 137=some .nilFunc) rfl Tryz.underlying128 (by intro k h;cases h) hGD.app (fun w' hw'=>AppX.one1 (hw'.has _ _ (List.mem_append_right _ List.mem_cons_self)) rfl rfl) rfl (by rw[hvl,hb1];omega) (fun v2 L2 hB2 _ hg2 hs2=> ?_)
  have hE3:=(hE2.app (o:= .cells #[.func (.func fk) #[] cap] 137 (0,0)) hwa).grew hg2
  have hpd:slB (G.p k)≠some (G.d k):=fun e=>by
   obtain⟨arr,ha⟩:=Ja_ hGD e
   rw[hdl] at ha
   simp[ki_] at ha
  have hd2:Sx.look L2 (G.d k)=some (ki_ (G.s k) (G.t k) (G.p k)):=hg2.look _ _ hpd (zu_ hdl)
  have hr2:=zh_ (w0:=w) hd2
  have st:=fun x=>Jn_ (G.s k) (G.t k) (G.p k) v2 x hB2.cell
  refine ko @wS_ ?_
  first|with_reducible refine ks [] (And.intro @wS_ (And.intro @hd2 (@st))) ?_|refine kp (And.intro @wS_ (And.intro @hd2 (@st))) ?_
  refine⟨_,(ke @wS_), ?_⟩
  refine⟨hE3.setB,by rw[hbn];rfl, ?_⟩
  rw[if_neg (by rw[hbn];simp)]
  have hAb: ∀b,jS_ (D++ [(ba, .cells #[.func (.func fk) #[] cap] 137 (0,0))]) b→b∉keys L1:=fun b hb hm=>by
   have:=zk_ hb (b:=b) (by rw[zv_,hO.keys];exact List.mem_append_left _ hm)
   omega
  have hkd: ∀b o,Sx.look L1 b=some o→b≠G.s k→b≠G.d k→slB (G.p k)≠some b→Sx.look (setB L2 (G.d k) (ki_ (G.s k) (G.t k) v2)) b=some o:=fun b o hb h1 h2 h3=>by
   rw[zm_ (Ne.symm h2)]
   exact hg2.look _ _ h3 (zu_ ((hO.rest b h1).trans hb))
  obtain⟨oN,mN,hN3,hN4,hN5⟩:=hN2
  have hps:slB (G.p k)≠some (G.s k):=fun e=>by
   obtain⟨arr,ha⟩:=Ja_ hGr e
   rw[hos] at ha;cases ha
   obtain⟨es,cl,h,-⟩:=hms;cases h
  have hv2d:slB v2≠some (G.d k):=fun e=>by
   rcases hs2 with h| ⟨b',h,ha⟩
   ·exact hpd (by rw[←h];exact e)
   ·rw[h] at e;cases e
    exact hAb _ ha (zj_ (hP1.dir k hk))
  refine⟨v2,hP1.turn hk (c:=c) (v:= .func (.func fk) #[] cap) (v2:=v2) (vals:=vals) ⟨hkd⟩ ⟨oN,mN, ?_,hN4,hN5⟩ (qe_ hd2) hvl hF hGr (hB2.keep fun b o hb ho=> ?_) hv1 (hs2.imp id fun⟨b',h,ha⟩=>⟨b',h,hAb _ ha⟩) hok1 (by rw[hb2];exact hcn)⟩
  ·rw[zm_ hds]
   exact hg2.look _ _ hps (zu_ hN3)
  ·rw[zm_ (by rintro rfl;exact hv2d hb)];exact ho
 ·have e2:=jO_ hbn
  refine ko (And.intro @wS_ @e2) ?_
  first|with_reducible refine ks [] @wS_ ?_|refine kp @wS_ ?_
  refine⟨_,(ke @wS_), ?_⟩
  refine⟨hE1,rfl, ?_⟩
  rw[if_pos hbn]
end Go.Proofs
end
section
open Go Go.Proofs Go.Sx Go.StP
namespace Go.Proofs
set_option maxRecDepth 10000
set_option maxHeartbeats 400000
set_option linter.unusedSimpArgs false
def addF (G:DkG) (bf:Nat):DkG:={G with fb:=G.fb++ [bf]}
def xc_ (S:DiskL) (f:FileL):DiskL:={S with files:=S.files++ [f]}
theorem agB_ {S:DiskL} (h:DkOk S) {f:FileL} (hf:f.data.length≤1048576∧f.stl≤f.data.length):DkOk (xc_ S f):=by
 have e: (xc_ S f).files.length=S.files.length+1:=by unfold xc_;simp
 refine⟨h.seen,h.stl,fun k hk p hp=>by rw[e];exact Nat.lt_succ_of_lt (h.seenN k hk p hp),fun k hk p hp=>by rw[e];exact Nat.lt_succ_of_lt (h.stlN k hk p hp),fun k hk c hc h0=>by rw[e];exact Nat.lt_succ_of_lt (h.pendN k hk c hc h0),fun g hg=> ?_,h.fuse,h.max⟩
 rcases List.mem_append.1 hg with hg|hg
 ·exact h.file g hg
 ·rw[List.mem_singleton.1 hg];exact hf
theorem ao6_ {fb:List Nat} {bf n:Nat} (h:n<fb.length): (fb++ [bf]).getD n 0=fb.getD n 0:=Jx_ 0 n h
theorem DkP.addFile {X:za_} {G:DkG} {S:DiskL} (h:DkP X G S) {bf:Nat} {f:FileL} (hb:Sx.look X bf=some (vC_ f)) (hn:bf∉G.fb) (hf:f.data.length≤1048576∧f.stl≤f.data.length):DkP X (addF G bf) (xc_ S f):=by
 have hl:=h.len
 have hNm: ∀ {b:Nat} {l:NmL},(∀p,p∈l→p.2<S.files.length)→NmM X G.fb b l→NmM X (G.fb++ [bf]) b l:=by
  rintro b l hlt ⟨o,m,h1,h2,h3⟩
  exact⟨o,m,h1,h2,h3.mono fun p hp=>ao6_ (by have:=hlt p hp;omega)⟩
 refine⟨h.disk,h.dirs,h.dir,fun k hk=>hNm (h.ok.seenN k hk) (h.seen k hk),fun k hk=>hNm (h.ok.stlN k hk) (h.stl k hk),fun k hk=> ?_,fun n hn'=> ?_, ?_, ?_,h.nodm,h.nodd,h.nodb,h.nodp,agB_ h.ok hf⟩
 ·obtain⟨vals,h1,h2,h3⟩:=h.pend k hk
  refine⟨vals,h1,h2,fun i hi=> ?_⟩
  have hF:=h3 i hi
  have hm: ((S.dir k).pend.getD i wq_)∈ (S.dir k).pend:=by
   rw[List.getD_eq_getElem?_getD,List.getElem?_eq_getElem (by omega)];exact List.getElem_mem _
  have hc:=h.ok.pendN k hk _ hm
  show FnP X (G.fb++ [bf]) (vals.getD i undef) ((S.dir k).pend.getD i wq_)
  generalize (S.dir k).pend.getD i wq_=c at*
  unfold FnP at hF ⊢
  split at hF
  ·rename_i hk0
   rw[ao6_ (by have:=hc hk0;omega)]
   exact hF
  ·exact hF
  ·exact hF
 ·have hn2:n<S.files.length+1:=by
   have: (xc_ S f).files.length=S.files.length+1:=by unfold xc_;simp
   omega
  show Sx.look X ((G.fb++ [bf]).getD n 0)=some (vC_ ((S.files++ [f]).getD n jt_))
  by_cases e:n=S.files.length
  ·subst e
   rw[Q8_ _ _ hl,Q8_ _ _ rfl];exact hb
  ·rw[Jx_ _ _ (by omega),Jx_ _ _ (by omega)]
   exact h.file n (by omega)
 ·show(G.fb++ [bf]).length=(S.files++ [f]).length
  rw[List.length_append,List.length_append,hl];rfl
 ·show(G.fb++ [bf]).Nodup
  refine List.nodup_append.2 ⟨h.nodf,by simp,fun a ha b hb'=> ?_⟩
  rw[List.mem_singleton.1 hb']
  rintro rfl;exact hn ha
theorem akE_:jy_ (wE_ Tryz.prog 126) (zW_ Tryz.prog 126) []=some (.agg #[vs [],vi 0]):=by
 rw[show wE_ Tryz.prog 126=some [(0,1),(1,1)] from id (by kernel_rfl),show zW_ Tryz.prog 126=some (.agg #[vs [],vi 0]) from id (by kernel_rfl)];rfl
theorem auu_:zW_ Tryz.prog 124=some (.pointer none):=zrPf
theorem ak6_ (b:Nat) (a:Bool):zn_ (some (a,1)) (some (.cells (Value.pointer none).cells 124 (0,0))) 0 (vp b 0)=some (WL_ b):=
 zy_ [] [.pointer none] [vp b 0] [] a _ 124 rfl rfl rfl rfl rfl
set_option linter.defProp false
def wi_:=And.intro (@zc_) (And.intro (@zb_) (@ak6_))
theorem Vz_ (name:List UInt8) (w:World):Rets Tryz.prog 117 #[vs name] w (XS w [] (fun v D=> ∃bp bn bf,v= .func (.func 159) #[] #[vp bp 0,vp bn 0]∧Sx.look D bp=some (WL_ bf)∧Sx.look D bn=some (v6_ name)∧Sx.look D bf=some (vC_ jt_))):=by
 refine Rets.enterX Tryz.func117 rfl (rs:= [.tmp 2]) Tryz.results117 Tryz.ntmps117 (fun p hp=>by cases hp) (by simp[keys]) ?_
 refine kf ?_
 first|with_reducible refine ks [] @wi_ ?_|refine kp @wi_ ?_
 refine Ow.box rfl rfl fun bn hbn hwn=> ?_
 simp only[z4_,z1_,z3_,List.nil_append]
 refine ko @wi_ ?_
 first|with_reducible refine ks [] @wi_ ?_|refine kp @wi_ ?_
 refine Ow.build (.agg #[vs [],vi 0]) rfl akE_ ?_
 refine ko @wi_ ?_
 refine Ow.box rfl rfl fun bf hbf hwf=> ?_
 simp only[z4_,z1_,z3_,zd_]
 refine ko @wi_ ?_
 refine Ow.alloc rfl rfl auu_ fun bp hbp hwp=> ?_
 have h1:bn<bf:=zk_ hbf (by simp[keys])
 have h2:bn<bp:=zk_ hbp (by simp[keys])
 have h3:bf<bp:=zk_ hbp (by simp[keys])
 refine Ow.permL (M:= [(bp, .cells (Value.pointer none).cells 124 (0,0)),(bf, .cells #[vs [],vi 0] 126 (0,0)),(bn, .cells (vs name).cells 9 (0,0))]) (by classical exact List.perm_iff_count.2 fun a=>by simp only[List.count_append,List.count_cons,List.count_nil]<;>omega) ?_
 refine ko @wi_ ?_
 first|with_reducible refine ks [] @wi_ ?_|refine kp @wi_ ?_
 refine⟨_,(ke @wi_), ?_⟩
 refine⟨Ext.of_new ⟨hwp,hwf,hwn,trivial⟩,bp,bn,bf, ?_, ?_, ?_, ?_⟩
 ·simp only[xS_,List.map_toArray,List.map_cons,List.map_nil,z4_,z1_,z3_]
 ·simp[Sx.look]
 ·simp[Sx.look,show bp≠bn by omega,show bf≠bn by omega];rfl
 ·simp[Sx.look,show bp≠bf by omega];rfl
theorem Vg_ (name:List UInt8) (w:World):Rets Tryz.prog 122 #[vs name] w (XS w [] (fun v D=> ∃bn,v= .func (.func 161) #[] #[vp bn 0]∧Sx.look D bn=some (v6_ name))):=by
 refine Rets.enterX Tryz.func122 rfl (rs:= [.tmp 2]) Tryz.results122 Tryz.ntmps122 (fun p hp=>by cases hp) (by simp[keys]) ?_
 refine kf ?_
 first|with_reducible refine ks [] @wi_ ?_|refine kp @wi_ ?_
 refine Ow.box rfl rfl fun bn hbn hwn=> ?_
 simp only[z4_,z1_,z3_,List.nil_append]
 refine ko @wi_ ?_
 first|with_reducible refine ks [] @wi_ ?_|refine kp @wi_ ?_
 refine⟨_,(ke @wi_), ?_⟩
 exact⟨Ext.of_new ⟨hwn,trivial⟩,bn,by simp only[xS_,List.map_toArray,List.map_cons,List.map_nil,z4_,z1_,z3_],by simp[Sx.look];rfl⟩
end Go.Proofs
end
section
open Go Go.Proofs Go.Sx Go.StP
namespace Go.Proofs
set_option maxRecDepth 10000
set_option maxHeartbeats 400000
set_option linter.unusedSimpArgs false
def qV_ (S:DiskL) (dir name:List UInt8):DiskL×Nat:=
 if qZ_ S dir [name]≠0 then(S,qZ_ S dir [name]) else match atD S dir name with
  |some _=>(S,7)
  |none=>if(zr_ S).2≠0 then zr_ S else(x1_ (xc_ (zr_ S).1 jt_) ((zG_ dir).getD 0) ⟨0,name,[],S.files.length⟩,0)
def qz_ (S:DiskL) (dir name:List UInt8):DiskL×Nat:=
 if qZ_ S dir [name]≠0 then(S,qZ_ S dir [name]) else match atD S dir name with
  |none=>(S,6)
  |some _=>if(zr_ S).2≠0 then zr_ S else(x1_ (zr_ S).1 ((zG_ dir).getD 0) ⟨2,name,[],0⟩,0)
def q4_ (S:DiskL) (dir name to:List UInt8):DiskL×Nat:=
 if qZ_ S dir [name,to]≠0 then(S,qZ_ S dir [name,to]) else match atD S dir name with
  |none=>(S,6)
  |some _=>if name=to then zr_ S else if(zr_ S).2≠0 then zr_ S else(x1_ (zr_ S).1 ((zG_ dir).getD 0) ⟨1,name,to,0⟩,0)
theorem aiF_ (S:DiskL) (f:FileL):zr_ (xc_ S f)=(xc_ (zr_ S).1 f,(zr_ S).2):=by
 unfold zr_
 by_cases h1:S.fused=true∧S.fuse=0
 ·rw[if_pos h1,if_pos (by exact h1)];rfl
 ·rw[if_neg h1,if_neg (by exact h1)]
  by_cases h2:S.fused=true
  ·rw[if_pos h2,if_pos (by exact h2)];rfl
  ·rw[if_neg h2,if_neg (by exact h2)]
theorem ar0_ (b o:Nat):qy_ Tryz.prog .neq 124 (vp b o) (.pointer none)=some (.bool true):=by
 simp[qy_,eqX,qk_,qn_,Tryz.underlying124,vp]
theorem arr_:qy_ Tryz.prog .neq 124 (.pointer none) (.pointer none)=some (.bool false):=by
 simp[qy_,eqX,qk_,qn_,Tryz.underlying124]
theorem QL_ {L D:za_} {B:Nat} (hA:jS_ L B) (hN:New B D) {b:Nat} {o:Obj} (h:Sx.look D b=some o):Sx.look (L++D) b=some o:=by
 rw[qf_ (fun hm=>by have:=zk_ hA hm;have:=hN.le b (zj_ h);omega)];exact h
theorem DkP.fb_key {X:za_} {G:DkG} {S:DiskL} (h:DkP X G S) {b:Nat} (hb:b∈G.fb):b∈keys X:=by
 obtain⟨n,hn,rfl⟩:=List.getElem_of_mem hb
 have:=h.file n (by rw[←h.len];exact hn)
 rw[List.getD_eq_getElem?_getD,List.getElem?_eq_getElem hn] at this
 exact zj_ this
set_option linter.defProp false
def zM_:=And.intro (And.intro (And.intro (And.intro (@zc_) (@zb_)) (And.intro (@qE_) (@va_))) (And.intro (And.intro (@q3_) (@qW_)) (And.intro (@q0_) (And.intro (@kD_) (@kI_))))) (And.intro (And.intro (And.intro (@abW_) (@ah1_)) (And.intro (@Wi_) (@ame_))) (And.intro (And.intro (@ac8_) (@ar0_)) (And.intro (@arr_) (And.intro (@Sx.tup2_0) (@Sx.tup2_1)))))
theorem ack_ (X:za_) (G:DkG) (S:DiskL) (dir name:List UInt8) (w:World) (hX: ∀p,p∈X→w.heap[p.1]? =some p.2) (hn: (keys X).Nodup) (hP:DkP X G S) (hnm:name.length<1099511627776) (hpl: ∀k,k<3→(S.dir k).pend.length<1000000):
  Rets Tryz.prog 72 #[vp G.bd 0,vs dir,vs name] w (XS w X (fun v D=>v=vi ((qV_ S dir name).2:Nat)∧ ∃G',G'.bd=G.bd∧DkP D G' (qV_ S dir name).1)):=by
 refine Rets.enterX Tryz.func72 rfl (rs:= [.tmp 6]) Tryz.results72 Tryz.ntmps72 hX hn ?_
 refine kf ?_
 first|with_reducible refine ks [] @zM_ ?_|refine kp @zM_ ?_
 refine Ow.buildSlice (e:=9) #[vs name] rfl rfl (by kernel_rfl) fun b1 hb1 hw1=> ?_
 have hP1:=hP.mono (X':=X++ [(b1,Obj.cells #[vs name] 9 (0,0))]) fun b o h=>zu_ h
 have hE1:=(Ext.refl w X).app (o:=Obj.cells #[vs name] 9 (0,0)) hw1
 have hm1: (b1,Obj.cells #[vs name] 9 (0,0))∈X++ [(b1,Obj.cells #[vs name] 9 (0,0))]:=by simp
 generalize X++ [(b1,Obj.cells #[vs name] 9 (0,0))]=L1 at*
 refine ko @zM_ ?_
 refine Ow.callC rfl rfl Tryz.call80 (fun w' hw'=>Rets.toX (j7_ w' G S dir (vsl b1 0 1 1) [name] (hP1.world hw') (ac9_ (hw'.has _ _ hm1)) (by simp) (by simpa using hnm))) (fun B2 v2 D2 hA2 hB2 hN2 hS2=> ?_)
 obtain⟨rfl,hS2⟩:=hS2
 rw[List.append_nil]
 clear hm1 hA2 hN2
 unfold qV_ atD
 rcases hS2 with⟨he,rfl⟩ | ⟨he,k,hk,rfl⟩
 ·have e1:=jO_ he
  refine ko @zM_ ?_
  first|with_reducible refine ks [] (And.intro @zM_ @e1) ?_|refine kp (And.intro @zM_ @e1) ?_
  refine⟨_,(ke @zM_), ?_⟩
  rw[if_pos he]
  exact⟨hE1,rfl,G,rfl,hP1⟩
 ·have he': ¬ (qZ_ S dir [name]≠0):=by rw[he];simp
  have hk3:=(zD_ hk).1
  have hdr:=zh_ (w0:=w) (hP1.dir k hk3)
  obtain⟨os,ms,hos,hms,hnp⟩:=hP1.seen k hk3
  have hso:=zh_ (w0:=w) hos
  have e1: ((0:Int) !=0)=false:=rfl
  refine ko @zM_ ?_
  first|with_reducible refine ks [] (And.intro @zM_ (And.intro @e1 (@hdr))) ?_|refine kp (And.intro @zM_ (And.intro @e1 (@hdr))) ?_
  refine Ow.mapGetG (encK:=vs) (encV:=jw_) (k:=name) (z:=none) rfl rfl Tryz.underlying127 xW_ zrPf rfl rfl hso hms ?_
  rw[hnp.get (hP.ok.seen k hk3).nodup]
  show Ow _ _ _ _ _ _ _ _
  have hq: (zG_ dir).bind (fun k=>zx_ (S.dir k).seen name)=zx_ (S.dir k).seen name:=by rw[hk];rfl
  cases hf:zx_ (S.dir k).seen name with
  |some n=>
   have hp: ∀q:Nat,jw_ (some q)=vp q 0:=fun _=>rfl
   refine ko (And.intro @zM_ @hp) ?_
   first|with_reducible refine ks [] @zM_ ?_|refine kp @zM_ ?_
   refine⟨_,(ke @zM_), ?_⟩
   rw[if_neg he',hq,hf]
   exact⟨hE1,rfl,G,rfl,hP1⟩
  |none=>
   have hp0:jw_ none= .pointer none:=rfl
   refine ko (And.intro @zM_ @hp0) ?_
   first|with_reducible refine ks [] @zM_ ?_|refine kp @zM_ ?_
   refine Ow.callC rfl rfl Tryz.call117 (fun w' hw'=>Vz_ name w') (fun B3 v3 D3 hA3 hB3 hN3 hS3=> ?_)
   obtain⟨bp,bn,bf,rfl,hbp,hbn,hbf⟩:=hS3
   have hP2:=hP1.mono (X':=L1++D3) fun b o h=>zu_ h
   have hbp2:=QL_ hA3 hN3 hbp
   have hbn2:=QL_ hA3 hN3 hbn
   have hbf2:=QL_ hA3 hN3 hbf
   have hnf:bf∉G.fb:=fun hm=>by
    have h1:=zk_ hA3 (hP1.fb_key hm)
    have h2:=hN3.le bf (zj_ hbf)
    omega
   have hP3:=hP2.addFile hbf2 hnf (f:=jt_) ⟨by decide,by decide⟩
   have hE2:Ext w X (L1++D3):=⟨fun c hc=>by
    rw[zv_] at hc
    rcases List.mem_append.1 hc with hc|hc
    ·exact hE1.new c hc
    ·exact .inr (Nat.le_trans hB3 (hN3.le c hc)),fun c hc=>by rw[zv_];exact List.mem_append_left _ (hE1.all c hc)⟩
   generalize L1++D3=L3 at*
   refine ko @zM_ ?_
   refine Ow.callX (X:=L3) (Y:= []) (List.append_nil _).symm rfl rfl Tryz.call116 (fun w' hw' hX' hn'=>ZO_ L3 (addF G bf) (xc_ S jt_) k ⟨0,name,[],S.files.length⟩ _ w' hX' hn' hP3 hk3 ⟨bp,bn,rfl,by show Sx.look L3 bp=some (WL_ ((G.fb++ [bf]).getD S.files.length 0));rw[Q8_ _ _ hP.len];exact hbp2,hbn2⟩ (fun h=>by cases h) (fun _=>by show S.files.length< (S.files++ [jt_]).length;simp) (hpl k hk3)) (fun v4 D4 hC4 hS4=> ?_)
   rw[aiF_] at hS4
   obtain⟨rfl,hS4⟩:=hS4
   simp only at hS4
   have hE4:=hE2.came0 hC4
   rw[List.append_nil]
   refine ko @zM_ ?_
   first|with_reducible refine ks [] @zM_ ?_|refine kp @zM_ ?_
   refine⟨_,(ke @zM_), ?_⟩
   rw[if_neg he',hq,hf]
   simp only
   by_cases hbn': (zr_ S).2=0
   ·rw[if_neg (by rw[hbn'];simp)] at hS4
    rw[if_neg (by rw[hbn'];simp)]
    obtain⟨v5,hP5⟩:=hS4
    rw[hk]
    exact⟨hE4,by rw[hbn'];rfl,setP (addF G bf) k v5,rfl,hP5⟩
   ·rw[if_pos hbn'] at hS4
    rw[if_pos hbn']
    subst hS4
    obtain⟨hb1,hb2,hb3⟩:=qA_ S
    exact⟨hE4,rfl,G,rfl,hP2.setDisk (zr_ S).1 hb1 hb2 (xC_ hP.ok)⟩
theorem JS_ (X:za_) (G:DkG) (S:DiskL) (dir name:List UInt8) (w:World) (hX: ∀p,p∈X→w.heap[p.1]? =some p.2) (hn: (keys X).Nodup) (hP:DkP X G S) (hnm:name.length<1099511627776) (hpl: ∀k,k<3→(S.dir k).pend.length<1000000):
  Rets Tryz.prog 77 #[vp G.bd 0,vs dir,vs name] w (XS w X (fun v D=>v=vi ((qz_ S dir name).2:Nat)∧ ∃G',G'.bd=G.bd∧DkP D G' (qz_ S dir name).1)):=by
 refine Rets.enterX Tryz.func77 rfl (rs:= [.tmp 6]) Tryz.results77 Tryz.ntmps77 hX hn ?_
 refine kf ?_
 first|with_reducible refine ks [] @zM_ ?_|refine kp @zM_ ?_
 refine Ow.buildSlice (e:=9) #[vs name] rfl rfl (by kernel_rfl) fun b1 hb1 hw1=> ?_
 have hP1:=hP.mono (X':=X++ [(b1,Obj.cells #[vs name] 9 (0,0))]) fun b o h=>zu_ h
 have hE1:=(Ext.refl w X).app (o:=Obj.cells #[vs name] 9 (0,0)) hw1
 have hm1: (b1,Obj.cells #[vs name] 9 (0,0))∈X++ [(b1,Obj.cells #[vs name] 9 (0,0))]:=by simp
 generalize X++ [(b1,Obj.cells #[vs name] 9 (0,0))]=L1 at*
 refine ko @zM_ ?_
 refine Ow.callC rfl rfl Tryz.call80 (fun w' hw'=>Rets.toX (j7_ w' G S dir (vsl b1 0 1 1) [name] (hP1.world hw') (ac9_ (hw'.has _ _ hm1)) (by simp) (by simpa using hnm))) (fun B2 v2 D2 hA2 hB2 hN2 hS2=> ?_)
 obtain⟨rfl,hS2⟩:=hS2
 rw[List.append_nil]
 clear hm1 hA2 hN2
 unfold qz_ atD
 rcases hS2 with⟨he,rfl⟩ | ⟨he,k,hk,rfl⟩
 ·have e1:=jO_ he
  refine ko @zM_ ?_
  first|with_reducible refine ks [] (And.intro @zM_ @e1) ?_|refine kp (And.intro @zM_ @e1) ?_
  refine⟨_,(ke @zM_), ?_⟩
  rw[if_pos he]
  exact⟨hE1,rfl,G,rfl,hP1⟩
 ·have he': ¬ (qZ_ S dir [name]≠0):=by rw[he];simp
  have hk3:=(zD_ hk).1
  have hdr:=zh_ (w0:=w) (hP1.dir k hk3)
  obtain⟨os,ms,hos,hms,hnp⟩:=hP1.seen k hk3
  have hso:=zh_ (w0:=w) hos
  have e1: ((0:Int) !=0)=false:=rfl
  refine ko @zM_ ?_
  first|with_reducible refine ks [] (And.intro @zM_ (And.intro @e1 (@hdr))) ?_|refine kp (And.intro @zM_ (And.intro @e1 (@hdr))) ?_
  refine Ow.mapGetG (encK:=vs) (encV:=jw_) (k:=name) (z:=none) rfl rfl Tryz.underlying127 xW_ zrPf rfl rfl hso hms ?_
  rw[hnp.get (hP.ok.seen k hk3).nodup]
  show Ow _ _ _ _ _ _ _ _
  have hq: (zG_ dir).bind (fun k=>zx_ (S.dir k).seen name)=zx_ (S.dir k).seen name:=by rw[hk];rfl
  cases hf:zx_ (S.dir k).seen name with
  |none=>
   have hp0:jw_ none= .pointer none:=rfl
   refine ko (And.intro @zM_ @hp0) ?_
   first|with_reducible refine ks [] @zM_ ?_|refine kp @zM_ ?_
   refine⟨_,(ke @zM_), ?_⟩
   rw[if_neg he',hq,hf]
   exact⟨hE1,rfl,G,rfl,hP1⟩
  |some n=>
   have hp: ∀q:Nat,jw_ (some q)=vp q 0:=fun _=>rfl
   refine ko (And.intro @zM_ @hp) ?_
   first|with_reducible refine ks [] @zM_ ?_|refine kp @zM_ ?_
   refine Ow.callC rfl rfl Tryz.call122 (fun w' hw'=>Vg_ name w') (fun B3 v3 D3 hA3 hB3 hN3 hS3=> ?_)
   obtain⟨bn,rfl,hbn⟩:=hS3
   have hP2:=hP1.mono (X':=L1++D3) fun b o h=>zu_ h
   have hbn2:=QL_ hA3 hN3 hbn
   have hE2:Ext w X (L1++D3):=⟨fun c hc=>by
    rw[zv_] at hc
    rcases List.mem_append.1 hc with hc|hc
    ·exact hE1.new c hc
    ·exact .inr (Nat.le_trans hB3 (hN3.le c hc)),fun c hc=>by rw[zv_];exact List.mem_append_left _ (hE1.all c hc)⟩
   generalize L1++D3=L3 at*
   refine ko @zM_ ?_
   refine Ow.callX (X:=L3) (Y:= []) (List.append_nil _).symm rfl rfl Tryz.call116 (fun w' hw' hX' hn'=>ZO_ L3 G S k ⟨2,name,[],0⟩ _ w' hX' hn' hP2 hk3 ⟨bn,rfl,hbn2⟩ (fun h=>by cases h) (fun h=>by cases h) (hpl k hk3)) (fun v4 D4 hC4 hS4=> ?_)
   obtain⟨rfl,hS4⟩:=hS4
   have hE4:=hE2.came0 hC4
   rw[List.append_nil]
   refine ko @zM_ ?_
   first|with_reducible refine ks [] @zM_ ?_|refine kp @zM_ ?_
   refine⟨_,(ke @zM_), ?_⟩
   rw[if_neg he',hq,hf]
   simp only
   by_cases hbn': (zr_ S).2=0
   ·rw[if_neg (by rw[hbn'];simp)] at hS4
    rw[if_neg (by rw[hbn'];simp)]
    obtain⟨v5,hP5⟩:=hS4
    rw[hk]
    exact⟨hE4,by rw[hbn'];rfl,setP G k v5,rfl,hP5⟩
   ·rw[if_pos hbn'] at hS4
    rw[if_pos hbn']
    subst hS4
    obtain⟨hb1,hb2,hb3⟩:=qA_ S
    exact⟨hE4,rfl,G,rfl,hP2.setDisk (zr_ S).1 hb1 hb2 (xC_ hP.ok)⟩
theorem acZ_ (X:za_) (G:DkG) (S:DiskL) (dir name to:List UInt8) (w:World) (hX: ∀p,p∈X→w.heap[p.1]? =some p.2) (hn: (keys X).Nodup) (hP:DkP X G S) (hnm:name.length<1099511627776) (hto:to.length<1099511627776) (hpl: ∀k,k<3→(S.dir k).pend.length<1000000):
  Rets Tryz.prog 76 #[vp G.bd 0,vs dir,vs name,vs to] w (XS w X (fun v D=>v=vi ((q4_ S dir name to).2:Nat)∧ ∃G',G'.bd=G.bd∧DkP D G' (q4_ S dir name to).1)):=by
 refine Rets.enterX Tryz.func76 rfl (rs:= [.tmp 8]) Tryz.results76 Tryz.ntmps76 hX hn ?_
 refine kf ?_
 first|with_reducible refine ks [] @zM_ ?_|refine kp @zM_ ?_
 refine Ow.box rfl rfl fun b6 hb6 hw6=> ?_
 simp only[z4_,z1_,z3_]
 refine ko @zM_ ?_
 refine Ow.box rfl rfl fun b7 hb7 hw7=> ?_
 simp only[z4_,z1_,z3_]
 refine Ow.permL (M:=X++ [(b6,v6_ name)]++ [(b7,v6_ to)]) (List.Perm.refl _) ?_
 have hP0:=hP.mono (X':=X++ [(b6,v6_ name)]++ [(b7,v6_ to)]) fun b o h=>zu_ (zu_ h)
 have hE0:=((Ext.refl w X).app (o:=v6_ name) hw6).app (o:=v6_ to) hw7
 have hl6:Sx.look (X++ [(b6,v6_ name)]++ [(b7,v6_ to)]) b6=some (v6_ name):=zu_ (xE_ hb6)
 have hl7:Sx.look (X++ [(b6,v6_ name)]++ [(b7,v6_ to)]) b7=some (v6_ to):=xE_ hb7
 generalize X++ [(b6,v6_ name)]++ [(b7,v6_ to)]=L0 at*
 have hr6:=zh_ (w0:=w) hl6
 have hr7:=zh_ (w0:=w) hl7
 refine ko @zM_ ?_
 first|with_reducible refine ks [] (And.intro @zM_ (And.intro @hr6 (@hr7))) ?_|refine kp (And.intro @zM_ (And.intro @hr6 (@hr7))) ?_
 refine Ow.buildSlice (e:=9) #[vs name,vs to] rfl rfl (by kernel_rfl) fun b1 hb1 hw1=> ?_
 have hP1:=hP0.mono (X':=L0++ [(b1,Obj.cells #[vs name,vs to] 9 (0,0))]) fun b o h=>zu_ h
 have hE1:=hE0.app (o:=Obj.cells #[vs name,vs to] 9 (0,0)) hw1
 have hm1: (b1,Obj.cells #[vs name,vs to] 9 (0,0))∈L0++ [(b1,Obj.cells #[vs name,vs to] 9 (0,0))]:=by simp
 have hl6:=zu_ (M:= [(b1,Obj.cells #[vs name,vs to] 9 (0,0))]) hl6
 have hl7:=zu_ (M:= [(b1,Obj.cells #[vs name,vs to] 9 (0,0))]) hl7
 generalize L0++ [(b1,Obj.cells #[vs name,vs to] 9 (0,0))]=L1 at*
 have hr6:=zh_ (w0:=w) hl6
 have hr7:=zh_ (w0:=w) hl7
 have hnms: ∀s,s∈ [name,to]→s.length<1099511627776:=by
  intro s hs
  simp only[List.mem_cons,List.not_mem_nil,or_false] at hs
  rcases hs with rfl|rfl
  ·exact hnm
  ·exact hto
 refine ko @zM_ ?_
 refine Ow.callC rfl rfl Tryz.call80 (fun w' hw'=>Rets.toX (j7_ w' G S dir (vsl b1 0 2 2) [name,to] (hP1.world hw') (asI_ (hw'.has _ _ hm1)) (by simp) hnms)) (fun B2 v2 D2 hA2 hB2 hN2 hS2=> ?_)
 obtain⟨rfl,hS2⟩:=hS2
 rw[List.append_nil]
 clear hm1 hA2 hN2 hnms
 unfold q4_ atD
 rcases hS2 with⟨he,rfl⟩ | ⟨he,k,hk,rfl⟩
 ·have e1:=jO_ he
  refine ko @zM_ ?_
  first|with_reducible refine ks [] (And.intro @zM_ @e1) ?_|refine kp (And.intro @zM_ @e1) ?_
  refine⟨_,(ke @zM_), ?_⟩
  rw[if_pos he]
  exact⟨hE1,rfl,G,rfl,hP1⟩
 ·have he': ¬ (qZ_ S dir [name,to]≠0):=by rw[he];simp
  have hk3:=(zD_ hk).1
  have hdr:=zh_ (w0:=w) (hP1.dir k hk3)
  obtain⟨os,ms,hos,hms,hnp⟩:=hP1.seen k hk3
  have hso:=zh_ (w0:=w) hos
  have e1: ((0:Int) !=0)=false:=rfl
  have hq: (zG_ dir).bind (fun k=>zx_ (S.dir k).seen name)=zx_ (S.dir k).seen name:=by rw[hk];rfl
  refine ko @zM_ ?_
  first|with_reducible refine ks [] (And.intro @zM_ @e1) ?_|refine kp (And.intro @zM_ @e1) ?_
  refine Cw.regionS [G.d k,b6] [0,1,2,3,4,5,6,7] [] (by kernel_rfl) (by kernel_rfl) (by kernel_rfl) ?_
  simp only[zp_, ↓zi_, ↓ze_, ↓zA_, ↓zz_,zf_]
  refine kq (And.intro @zM_ (And.intro @hdr (@hr6))) ?_
  refine Ow.soft rfl rfl rfl ?_
  refine Ow.mapGetG (encK:=vs) (encV:=jw_) (k:=name) (z:=none) rfl rfl Tryz.underlying127 xW_ zrPf rfl rfl hso hms ?_
  with_reducible refine Ow.nil ?_
  refine⟨by intro b hb;simp only[List.mem_cons,List.not_mem_nil,or_false] at hb;(try subst hb);rfl, ?_⟩
  rw[hnp.get (hP.ok.seen k hk3).nodup]
  show Ow _ _ _ _ _ _ _ _
  cases hf:zx_ (S.dir k).seen name with
  |none=>
   have hp0:jw_ none= .pointer none:=rfl
   refine kq (And.intro @zM_ @hp0) ?_
   try with_reducible refine Ow.nil ?_
   first|with_reducible refine ks [] @zM_ ?_|refine kp @zM_ ?_
   refine⟨_,(ke @zM_), ?_⟩
   rw[if_neg he',hq,hf]
   exact⟨hE1,rfl,G,rfl,hP1⟩
  |some n=>
   have hp: ∀q:Nat,jw_ (some q)=vp q 0:=fun _=>rfl
   have hbk:G.bd∈keys L1:=zj_ hP1.disk
   obtain⟨hb1,hb2,hb3⟩:=qA_ S
   refine kq (And.intro @zM_ @hp) ?_
   try with_reducible refine Ow.nil ?_
   cases hnt: (name==to) with
   |true=>
    have hnt':name=to:=eq_of_beq hnt
    first|with_reducible refine ks [] (And.intro @zM_ (And.intro @hr6 (And.intro @hr7 (@hnt)))) ?_|refine kp (And.intro @zM_ (And.intro @hr6 (And.intro @hr7 (@hnt)))) ?_
    refine Ow.callM rfl rfl Tryz.call81 hbk (fun w' hw'=>vh_ G.bd G.bm S w' hP.ok.fuse (hw'.has _ _ (zB_ hP1.disk))) ?_
    have hP2:=hP1.setDisk (zr_ S).1 hb1 hb2 (xC_ hP.ok)
    have hE2:=hE1.setB (b:=G.bd) (o:=jX_ G.bm (zr_ S).1)
    generalize setB L1 G.bd (jX_ G.bm (zr_ S).1)=L2 at*
    refine ko @zM_ ?_
    first|with_reducible refine ks [] @zM_ ?_|refine kp @zM_ ?_
    refine⟨_,(ke @zM_), ?_⟩
    rw[if_neg he',hq,hf]
    simp only
    rw[if_pos hnt']
    exact⟨hE2,rfl,G,rfl,hP2⟩
   |false=>
    have hnt':name≠to:=fun e=>by rw[e] at hnt;simp at hnt
    first|with_reducible refine ks [] (And.intro @zM_ (And.intro @hr6 (And.intro @hr7 (@hnt)))) ?_|refine kp (And.intro @zM_ (And.intro @hr6 (And.intro @hr7 (@hnt)))) ?_
    simp only[List.map_toArray,List.map_cons,List.map_nil,z4_,z1_,z3_]
    refine Ow.callX (X:=L1) (Y:= []) (List.append_nil _).symm rfl rfl Tryz.call116 (fun w' hw' hX' hn'=>ZO_ L1 G S k ⟨1,name,to,0⟩ (.func (.func 121) #[] #[vp b6 0,vp b7 0]) w' hX' hn' hP1 hk3 ⟨b6,b7,rfl,hl6,hl7⟩ (fun _=>⟨by rw[hf];simp,hnt'⟩) (fun h=>by cases h) (hpl k hk3)) (fun v4 D4 hC4 hS4=> ?_)
    obtain⟨rfl,hS4⟩:=hS4
    have hE4:=hE1.came0 hC4
    rw[List.append_nil]
    refine ko @zM_ ?_
    first|with_reducible refine ks [] @zM_ ?_|refine kp @zM_ ?_
    refine⟨_,(ke @zM_), ?_⟩
    rw[if_neg he',hq,hf]
    simp only
    rw[if_neg hnt']
    by_cases hbn': (zr_ S).2=0
    ·rw[if_neg (by rw[hbn'];simp)] at hS4
     rw[if_neg (by rw[hbn'];simp)]
     obtain⟨v5,hP5⟩:=hS4
     rw[hk]
     exact⟨hE4,by rw[hbn'];rfl,setP G k v5,rfl,hP5⟩
    ·rw[if_pos hbn'] at hS4
     rw[if_pos hbn']
     subst hS4
     exact⟨hE4,rfl,G,rfl,hP1.setDisk (zr_ S).1 hb1 hb2 (xC_ hP.ok)⟩
end Go.Proofs
end
section
open Go Go.Proofs Go.Sx Go.StP
namespace Go.Proofs
set_option maxRecDepth 10000
set_option maxHeartbeats 400000
set_option linter.unusedSimpArgs false
structure CpG where
 L:za_
 it:Obj
 o:Obj
 dn:List (List UInt8×Option Nat)
 lf:List (List UInt8×Option Nat)
theorem X3_ {α β:Type} [BEq α] [LawfulBEq α] {k:α} {v:β}: ∀ {m:List (α×β)},(∀p,p∈m→p.1≠k)→updG k v m=m++ [(k,v)]
 | [],_=>rfl
 |p::r,h=>by
  have h1: (k==p.1)=false:=beq_eq_false_iff_ne.2 fun e=>h p List.mem_cons_self e.symm
  unfold updG
  rw[if_neg (by rw[h1];simp),X3_ fun q hq=>h q (List.mem_cons_of_mem _ hq)];rfl
set_option linter.defProp false
def vg_:=And.intro (And.intro (And.intro (@zc_) (@zb_)) (And.intro (@Sx.tup2_0) (@Sx.tup2_1))) (And.intro (And.intro (@JO_) (@Sx.tup3_0)) (And.intro (@Sx.tup3_1) (@Sx.tup3_2)))
theorem aiU_ (X:za_) (bt bs:Nat) (ot os:Obj) (m:List (List UInt8×Option Nat)) (w:World) (hX: ∀p,p∈X→w.heap[p.1]? =some p.2) (hn: (keys X).Nodup)
  (ht:Sx.look X bt=some ot) (hmt:w0_ vs jw_ ot ([]:List (List UInt8×Option Nat))) (hs:Sx.look X bs=some os) (hms:w0_ vs jw_ os m) (hne:bt≠bs) (hnd: (m.map Prod.fst).Nodup):
  Rets Tryz.prog 120 #[vm bt,vm bs] w (XS w X (fun v D=>v=xS_ []∧(∀b o,b≠bt→Sx.look X b=some o→Sx.look D b=some o)∧ ∃o' m',Sx.look D bt=some o'∧w0_ vs jw_ o' m'∧m'.Perm m)):=by
 refine Rets.enterX Tryz.func120 rfl (rs:= []) Tryz.results120 Tryz.ntmps120 hX hn ?_
 refine kf ?_
 first|with_reducible refine ks [] @vg_ ?_|refine kp @vg_ ?_
 refine Ow.rangeMapG (encK:=vs) (encV:=jw_) rfl rfl Tryz.underlying127 rfl (zh_ hs) hms fun bi oi hbi hwi hI=> ?_
 have hbiX: ∀b o,Sx.look X b=some o→b≠bi:=fun b o hb e=>by
  have:=zk_ hbi (zj_ hb)
  omega
 refine ko @vg_ ?_
 first|with_reducible refine ks [] @vg_ ?_|refine kp @vg_ ?_
 refine Cw.loopG (G:=CpG) [8,9,10,11,12,4,5,13,14,15] (fun g=> []) (fun g=>g.L) (fun g=>Sx.look g.L bi=some g.it∧Sx.look g.L bt=some g.o∧w0_ vs jw_ g.o g.dn∧(∀b o,b≠bt→Sx.look X b=some o→Sx.look g.L b=some o)∧Ext w X g.L∧ItG vs jw_ g.it bs os m g.dn g.lf) (fun g=>g.lf.length) ⟨X++ [(bi,oi)],oi,ot,[],m⟩ rfl rfl ?_ ?_
 ·exact⟨xE_ hbi,zu_ ht,hmt,fun b o _ hb=>zu_ hb,(Ext.refl w X).app hwi,hI⟩
 intro g j hg
 refine kv ?_
 clear hI
 obtain⟨L,it,o,dn,lf⟩:=g
 simp only at hg ⊢
 obtain⟨hli,hlt,hmo,hkeep,hE,hI⟩:=hg
 have hls:=hkeep bs os (Ne.symm hne) hs
 have hit:bt≠bi:=hbiX _ _ ht
 have hsi:bs≠bi:=hbiX _ _ hs
 first|with_reducible refine ks [] @vg_ ?_|refine kp @vg_ ?_
 refine Ow.nextMapG rfl rfl rfl hli (zh_ hls) hI (fun hlf=> ?_) (fun p it' lf' hl' hI'=> ?_)
 ·subst hlf
  have hp:=wY_ hI
  rw[List.append_nil] at hp
  refine ko @vg_ ?_
  first|with_reducible refine ks [] @vg_ ?_|refine kp @vg_ ?_
  refine⟨_,(ke @vg_), ?_⟩
  exact⟨hE,rfl,hkeep,o,dn,hlt,hmo,hp⟩
 ·have h1:Sx.look (setB L bi it') bi=some it':=qe_ hli
  have h2:Sx.look (setB L bi it') bt=some o:=by rw[zm_ (Ne.symm hit)];exact hlt
  have h3:Sx.look (setB L bi it') bs=some os:=by rw[zm_ (Ne.symm hsi)];exact hls
  have h4: ∀b o,b≠bt→Sx.look X b=some o→Sx.look (setB L bi it') b=some o:=fun b o hb hx=>by rw[zm_ (Ne.symm (hbiX _ _ hx))];exact hkeep b o hb hx
  have hE1:=hE.setB (b:=bi) (o:=it')
  generalize setB L bi it'=L1 at*
  refine ko @vg_ ?_
  first|with_reducible refine ks [] @vg_ ?_|refine kp @vg_ ?_
  refine Ow.entryMapG (encK:=vs) (encV:=jw_) rfl rfl rfl (zh_ h1) (zh_ h3) hI' ?_
  obtain⟨s,q⟩:=p
  have hp:=wY_ hI'
  have hds: ∀p,p∈dn→p.1≠s:=by
   have h5:=((hp.map Prod.fst).nodup_iff).2 hnd
   rw[List.map_append,List.map_append,List.nodup_append] at h5
   have h6:=h5.1
   rw[List.nodup_append] at h6
   intro p hp' e
   exact h6.2.2 p.1 (List.mem_map_of_mem hp') s (by simp) e
  refine ko @vg_ ?_
  first|with_reducible refine ks [] @vg_ ?_|refine kp @vg_ ?_
  refine Ow.mapUpdateG (encK:=vs) (encV:=jw_) (k:=s) (v:=q) rfl rfl Tryz.underlying127 xW_ rfl rfl rfl h2 hmo (fun o2 hm2=> ?_)
  rw[X3_ hds] at hm2
  refine ko @vg_ ?_
  first|with_reducible refine ks [] @vg_ ?_|refine kp @vg_ ?_
  exact Again.mk ⟨setB L1 bt o2,it',o2,dn++ [(s,q)],lf'⟩ (by show lf'.length<lf.length;omega) ⟨by show Sx.look (setB L1 bt o2) bi=_;rw[zm_ hit];exact h1,qe_ h2,hm2,fun b o hb hx=>by show Sx.look (setB L1 bt o2) b=_;rw[zm_ (Ne.symm hb)];exact h4 b o hb hx,hE1.setB,hI'⟩ rfl rfl
end Go.Proofs
end
section
open Go Go.Proofs Go.Sx Go.StP
namespace Go.Proofs
set_option maxRecDepth 10000
set_option maxHeartbeats 400000
set_option linter.unusedSimpArgs false
def am1_ (G:DkG) (k s':Nat):DkG:={G with s:=fun j=>if j=k then s' else G.s j,p:=fun j=>if j=k then .slice none 0 0 else G.p j}
theorem DkP.calm {X L:za_} {G:DkG} {S:DiskL} (h:DkP X G S) {k:Nat} (hk:k<3) {s':Nat} (d:DirL) (hd0:d.pend= [])
  (keep: ∀b o,Sx.look X b=some o→b≠G.t k→b≠G.d k→Sx.look L b=some o) (hs:NmM L G.fb s' d.seen) (ht:NmM L G.fb (G.t k) d.stl)
  (hd:Sx.look L (G.d k)=some (ki_ s' (G.t k) (.slice none 0 0))) (hsn:s'=G.s k∨s'∉keys X) (h1:SrtN d.seen) (h2:SrtN d.stl) (h3: ∀p,p∈d.seen→p.2<S.files.length) (h4: ∀p,p∈d.stl→p.2<S.files.length):
  DkP L (am1_ G k s') (qD_ S k d):=by
 obtain⟨otk,mtk,hotk,hmtk,-⟩:=h.stl k hk
 have hnt: ∀b o,Sx.look X b=some o→tyO o≠none→b≠G.t k:=by
  rintro b o hb ht rfl
  rw[hotk] at hb;cases hb;exact ht (jc_ hmtk)
 have hnd: ∀b o,Sx.look X b=some o→tyO o≠some 130→b≠G.d k:=by
  rintro b o hb ht rfl
  rw[h.dir k hk] at hb;cases hb;exact ht rfl
 have K: ∀b o,Sx.look X b=some o→tyO o≠none→tyO o≠some 130→Sx.look L b=some o:=fun b o hb h1 h2=>keep b o hb (hnt b o hb h1) (hnd b o hb h2)
 have KM: ∀b o,Sx.look X b=some o→tyO o=none→b≠G.t k→Sx.look L b=some o:=fun b o hb h1 h2=>keep b o hb h2 (hnd b o hb (by rw[h1];intro e;cases e))
 have KF: ∀ {w c},FnP X G.fb w c→FnP L G.fb w c:=fun hw=>hw.keep fun b o hb hx=>K b o hb (by rcases hx with⟨s,rfl⟩ | ⟨a,rfl⟩<;>simp[tyO,v6_,WL_]) (by rcases hx with⟨s,rfl⟩ | ⟨a,rfl⟩<;>simp[tyO,v6_,WL_])
 have hs1: ∀j,j<3→j≠k→s'≠G.s j:=fun j hj hjk=>by
  rcases hsn with e|e
  ·rw[e];exact(QE_ h.nodm hk hj).1 (Ne.symm hjk)
  ·obtain⟨o,m,ho,-⟩:=h.seen j hj
   rintro rfl;exact e (zj_ ho)
 have hs2: ∀j,j<3→s'≠G.t j:=fun j hj=>by
  rcases hsn with e|e
  ·rw[e];exact(QE_ h.nodm hk hj).2.2
  ·obtain⟨o,m,ho,-⟩:=h.stl j hj
   rintro rfl;exact e (zj_ ho)
 have hs3:G.bm≠s':=by
  rcases hsn with e|e
  ·rw[e];exact(h.nodb k hk).1
  ·obtain⟨o,ho,-⟩:=h.dirs
   rintro rfl;exact e (zj_ ho)
 refine⟨?_, ?_, ?_, ?_, ?_, ?_, ?_,h.len,h.nodf, ?_,h.nodd, ?_, ?_, ?_⟩
 ·exact K _ _ h.disk (by simp[tyO,jX_]) (by simp[tyO,jX_])
 ·obtain⟨o,h1,h2⟩:=h.dirs
  exact⟨o,KM _ _ h1 (jc_ h2) (h.nodb k hk).2,h2⟩
 ·intro j hj
  show Sx.look L (G.d j)=some (ki_ (if j=k then s' else G.s j) (G.t j) (if j=k then .slice none 0 0 else G.p j))
  by_cases e:j=k
  ·subst e;rw[if_pos rfl,if_pos rfl];exact hd
  ·rw[if_neg e,if_neg e]
   exact keep _ _ (h.dir j hj) (hnt _ _ (h.dir j hj) (by simp[tyO,ki_])) (apn_ h.nodd hj hk e)
 ·intro j hj
  show NmM L G.fb (if j=k then s' else G.s j) (if j=k then d else S.dir j).seen
  by_cases e:j=k
  ·subst e;rw[if_pos rfl,if_pos rfl];exact hs
  ·rw[if_neg e,if_neg e]
   obtain⟨o,m,h1,h2,h3⟩:=h.seen j hj
   exact⟨o,m,KM _ _ h1 (jc_ h2) (QE_ h.nodm hj hk).2.2,h2,h3⟩
 ·intro j hj
  show NmM L G.fb (G.t j) (if j=k then d else S.dir j).stl
  by_cases e:j=k
  ·subst e;rw[if_pos rfl];exact ht
  ·rw[if_neg e]
   obtain⟨o,m,h1,h2,h3⟩:=h.stl j hj
   exact⟨o,m,KM _ _ h1 (jc_ h2) ((QE_ h.nodm hj hk).2.1 e),h2,h3⟩
 ·intro j hj
  by_cases e:j=k
  ·subst e
   refine⟨[], ?_, ?_,fun i hi=>absurd hi (Nat.not_lt_zero _)⟩
   ·show 0=(if j=j then d else S.dir j:DirL).pend.length
    rw[if_pos rfl,hd0];rfl
   ·show Gr L _ 1 (if j=j then .slice none 0 0 else G.p j) 0 []
    rw[if_pos rfl];exact Gr.nl
  ·obtain⟨vj,h1,h2,h3⟩:=h.pend j hj
   refine⟨vj, ?_, ?_, ?_⟩
   ·show vj.length=(if j=k then _ else S.dir j:DirL).pend.length
    rw[if_neg e];exact h1
   ·show Gr L _ 1 (if j=k then .slice none 0 0 else G.p j) vj.length vj
    rw[if_neg e]
    refine h2.keep fun b o hb ho=> ?_
    obtain⟨arr,ha⟩:=Ja_ h2 hb
    rw[ho] at ha;cases ha
    exact K _ _ ho (by simp[tyO]) (by simp[tyO])
   ·intro i hi
    show FnP L G.fb (vj.getD i undef) ((if j=k then _ else S.dir j:DirL).pend.getD i wq_)
    rw[if_neg e]
    exact KF (h3 i hi)
 ·intro n hn
  exact K _ _ (h.file n hn) (by simp[tyO,vC_]) (by simp[tyO,vC_])
 ·have hn:=h.nodm
  have hk':k=0∨k=1∨k=2:=by omega
  rcases hk' with rfl|rfl|rfl
  ·show [s',G.s 1,G.s 2,G.t 0,G.t 1,G.t 2].Nodup
   exact List.nodup_cons.2 ⟨by simp only[List.mem_cons,List.not_mem_nil,or_false,not_or];exact⟨hs1 1 (by omega) (by omega),hs1 2 (by omega) (by omega),hs2 0 (by omega),hs2 1 (by omega),hs2 2 (by omega)⟩,(List.nodup_cons.1 hn).2⟩
  ·show [G.s 0,s',G.s 2,G.t 0,G.t 1,G.t 2].Nodup
   refine(List.Perm.swap (G.s 0) s' _).nodup_iff.1 ?_
   exact List.nodup_cons.2 ⟨by simp only[List.mem_cons,List.not_mem_nil,or_false,not_or];exact⟨hs1 0 (by omega) (by omega),hs1 2 (by omega) (by omega),hs2 0 (by omega),hs2 1 (by omega),hs2 2 (by omega)⟩,(List.nodup_cons.1 ((List.Perm.swap (G.s 0) (G.s 1) _).nodup_iff.2 hn)).2⟩
  ·show [G.s 0,G.s 1,s',G.t 0,G.t 1,G.t 2].Nodup
   have hp: ∀x:Nat,(x:: [G.s 0,G.s 1,G.t 0,G.t 1,G.t 2]).Perm [G.s 0,G.s 1,x,G.t 0,G.t 1,G.t 2]:=fun x=>((List.perm_middle (l₁:= [G.s 0,G.s 1]) (a:=x) (l₂:= [G.t 0,G.t 1,G.t 2]))).symm
   refine(hp s').nodup_iff.1 ?_
   exact List.nodup_cons.2 ⟨by simp only[List.mem_cons,List.not_mem_nil,or_false,not_or];exact⟨hs1 0 (by omega) (by omega),hs1 1 (by omega) (by omega),hs2 0 (by omega),hs2 1 (by omega),hs2 2 (by omega)⟩,(List.nodup_cons.1 ((hp (G.s 2)).nodup_iff.2 hn)).2⟩
 ·intro j hj
  show G.bm≠ (if j=k then s' else G.s j)∧G.bm≠G.t j
  by_cases e:j=k
  ·rw[if_pos e];exact⟨hs3,(h.nodb j hj).2⟩
  ·rw[if_neg e];exact h.nodb j hj
 ·intro i j hi hj hij b hb
  show slB (if j=k then .slice none 0 0 else G.p j)≠some b
  have hb':slB (if i=k then .slice none 0 0 else G.p i)=some b:=hb
  by_cases ei:i=k
  ·rw[if_pos ei] at hb';cases hb'
  ·rw[if_neg ei] at hb'
   by_cases ej:j=k
   ·rw[if_pos ej];intro e;cases e
   ·rw[if_neg ej];exact h.nodp i j hi hj hij b hb'
 ·exact wB_ h.ok _ h1 h2 h3 h4 (fun c hc=>by rw[hd0] at hc;cases hc)
set_option linter.defProp false
def aaH_:=And.intro (And.intro (And.intro (@zc_) (@zb_)) (And.intro (@qE_) (@q3_))) (And.intro (And.intro (@qW_) (@q0_)) (And.intro (@Sx.tup2_0) (@Sx.tup2_1)))
def wo_ (S:DiskL) (k:Nat):DiskL:=qD_ S k ⟨(S.dir k).seen,(S.dir k).seen,[]⟩
theorem ad1_ (X:za_) (G:DkG) (S:DiskL) (k:Nat) (w:World) (hX: ∀p,p∈X→w.heap[p.1]? =some p.2) (hn: (keys X).Nodup) (hP:DkP X G S) (hk:k<3):
  Rets Tryz.prog 75 #[vp (G.d k) 0] w (XS w X (fun v D=>v=xS_ []∧DkP D (am1_ G k (G.s k)) (wo_ S k)∧ ∀b o,Sx.look X b=some o→b≠G.t k→b≠G.d k→Sx.look D b=some o)):=by
 obtain⟨ot,mt,hot,hmt,hnt⟩:=hP.stl k hk
 obtain⟨os,ms,hos,hms,hns⟩:=hP.seen k hk
 have hdl:=hP.dir k hk
 have hst:G.s k≠G.t k:=(QE_ hP.nodm hk hk).2.2
 have hnm: ∀ {b:Nat} {o:Obj} {m:List (List UInt8×Option Nat)},Sx.look X b=some o→w0_ vs jw_ o m→G.d k≠b:=by
  rintro b o m hb hm rfl
  rw[hdl] at hb;cases hb
  obtain⟨es,cl,h,-⟩:=hm;cases h
 have hdt:=hnm hot hmt
 refine Rets.enterX Tryz.func75 rfl (rs:= []) Tryz.results75 Tryz.ntmps75 hX hn ?_
 refine kf ?_
 ((try with_reducible refine Cw.go [] ?_);(try simp(disch:=(first|assumption|omega| (simp only[x5_,xZ_,UInt64.reduceToNat];try omega))) only[↓Sx.S0,Sx.S1,Tryz.fx,aaH_,Nat.reduceAdd,Nat.reducePow,Int.reducePow,Nat.reduceBEq, ↓reduceIte,UInt8.reduceToNat,UInt16.reduceToNat,UInt32.reduceToNat,UInt64.reduceToNat,Int.reduceToNat,(zh_ (w0:=w) hdl)]))
 refine Ow.mapClearG (encK:=vs) (encV:=jw_) rfl rfl Tryz.underlying127 rfl hot hmt (fun o1 hm1=> ?_)
 have hO:Only X (setB X (G.t k) o1) (G.t k) o1:=Only.set hot
 have hE1:=(Ext.refl w X).setB (b:=G.t k) (o:=o1)
 generalize setB X (G.t k) o1=L1 at*
 have hdl1:Sx.look L1 (G.d k)=some (ki_ (G.s k) (G.t k) (G.p k)):=(hO.rest _ hdt).trans hdl
 have hos1:Sx.look L1 (G.s k)=some os:=(hO.rest _ hst).trans hos
 have hr1:=zh_ (w0:=w) hdl1
 refine ko @aaH_ ?_
 first|with_reducible refine ks [] @aaH_ ?_|refine kp @aaH_ ?_
 refine Cw.regionS [G.d k] [0,1,2,4,5,6,3,7,8] [] (by kernel_rfl) (by kernel_rfl) (by kernel_rfl) ?_
 simp only[zp_, ↓zi_, ↓ze_, ↓zA_, ↓zz_,zf_]
 refine kq (And.intro @aaH_ @hr1) ?_
 refine Ow.soft rfl rfl rfl ?_
 refine Ow.callX (X:=L1) (Y:= []) (List.append_nil _).symm rfl rfl Tryz.call120 (fun w' hw' hX' hn'=>aiU_ L1 (G.t k) (G.s k) o1 os ms w' hX' hn' hO.at_ hm1 hos1 hms (Ne.symm hst) (hns.keys (hP.ok.seen k hk).nodup)) (fun v4 D4 hC4 hS4=> ?_)
 obtain⟨rfl,hkp,o2,m2,hl2,hm2,hp2⟩:=hS4
 have hE2:=hE1.came0 hC4
 rw[List.append_nil]
 have hdl2:=hkp _ _ hdt hdl1
 have hr2:=zh_ (w0:=w) hdl2
 with_reducible refine Ow.nil ?_
 refine⟨fun b hb=>by rw[List.mem_singleton] at hb;subst hb;rw[hr1,hr2], ?_⟩
 refine kq @aaH_ ?_
 try with_reducible refine Ow.nil ?_
 have st:=fun x=>Jn_ (G.s k) (G.t k) (G.p k) (.slice none 0 0) x ⟨rfl,rfl⟩
 first|with_reducible refine ks [] (And.intro @aaH_ (And.intro @hdl2 (@st))) ?_|refine kp (And.intro @aaH_ (And.intro @hdl2 (@st))) ?_
 refine⟨_,(ke @aaH_), ?_⟩
 have hkeep: ∀b o,Sx.look X b=some o→b≠G.t k→b≠G.d k→Sx.look (setB D4 (G.d k) (ki_ (G.s k) (G.t k) (.slice none 0 0))) b=some o:=fun b o hb h1 h2=>by
  rw[zm_ (Ne.symm h2)]
  exact hkp _ _ h1 ((hO.rest _ h1).trans hb)
 refine⟨hE2.setB,rfl, ?_,hkeep⟩
 have hos2:=hkp _ _ hst hos1
 refine hP.calm hk ⟨(S.dir k).seen,(S.dir k).seen,[]⟩ rfl hkeep ⟨os,ms, ?_,hms,hns⟩ ⟨o2,m2, ?_,hm2,hp2.trans hns⟩ (qe_ hdl2) (.inl rfl) (hP.ok.seen k hk) (hP.ok.seen k hk) (hP.ok.seenN k hk) (hP.ok.seenN k hk)
 ·rw[zm_ (hnm hos hms)];exact hos2
 ·rw[zm_ hdt];exact hl2
end Go.Proofs
end
section
open Go Go.Proofs Go.Sx Go.StP
namespace Go.Proofs
set_option maxRecDepth 10000
set_option maxHeartbeats 400000
set_option linter.unusedSimpArgs false
def zI_ (S:DiskL) (dir:List UInt8):DiskL×Nat:=
 if qZ_ S dir []≠0 then(S,qZ_ S dir []) else if(zr_ S).2≠0 then zr_ S else(wo_ (zr_ S).1 ((zG_ dir).getD 0),0)
set_option linter.defProp false
def vl_:=And.intro (And.intro (And.intro (@zc_) (@zb_)) (And.intro (@qE_) (@q3_))) (And.intro (And.intro (@qW_) (@q0_)) (And.intro (@Sx.tup2_0) (@Sx.tup2_1)))
theorem Qn_ (X:za_) (G:DkG) (S:DiskL) (dir:List UInt8) (w:World) (hX: ∀p,p∈X→w.heap[p.1]? =some p.2) (hn: (keys X).Nodup) (hP:DkP X G S):
  Rets Tryz.prog 21 #[vp G.bd 0,vs dir] w (XS w X (fun v D=>v=vi ((zI_ S dir).2:Nat)∧ ∃G',G'.bd=G.bd∧DkP D G' (zI_ S dir).1)):=by
 refine Rets.enterX Tryz.func21 rfl (rs:= [.tmp 4]) Tryz.results21 Tryz.ntmps21 hX hn ?_
 refine kf ?_
 first|with_reducible refine ks [] @vl_ ?_|refine kp @vl_ ?_
 refine Ow.callC rfl rfl Tryz.call80 (fun w' hw'=>Rets.toX (j7_ w' G S dir (.slice none 0 0) [] (hP.world hw') (SlV.nil w') (by simp) (fun s hs=>by cases hs))) (fun B2 v2 D2 hA2 hB2 hN2 hS2=> ?_)
 obtain⟨rfl,hS2⟩:=hS2
 rw[List.append_nil]
 unfold zI_
 rcases hS2 with⟨he,rfl⟩ | ⟨he,k,hk,rfl⟩
 ·have e1:=jO_ he
  refine ko @vl_ ?_
  first|with_reducible refine ks [] (And.intro @vl_ @e1) ?_|refine kp (And.intro @vl_ @e1) ?_
  refine⟨_,(ke @vl_), ?_⟩
  rw[if_pos he]
  exact⟨Ext.refl w X,rfl,G,rfl,hP⟩
 ·have he': ¬ (qZ_ S dir []≠0):=by rw[he];simp
  have hk3:=(zD_ hk).1
  have e1: ((0:Int) !=0)=false:=rfl
  obtain⟨hb1,hb2,hb3⟩:=qA_ S
  refine ko @vl_ ?_
  first|with_reducible refine ks [] (And.intro @vl_ @e1) ?_|refine kp (And.intro @vl_ @e1) ?_
  refine Ow.callM rfl rfl Tryz.call81 (zj_ hP.disk) (fun w' hw'=>vh_ G.bd G.bm S w' hP.ok.fuse (hw'.has _ _ (zB_ hP.disk))) ?_
  have hP2:=hP.setDisk (zr_ S).1 hb1 hb2 (xC_ hP.ok)
  have hE2:=(Ext.refl w X).setB (b:=G.bd) (o:=jX_ G.bm (zr_ S).1)
  generalize setB X G.bd (jX_ G.bm (zr_ S).1)=L2 at*
  by_cases hbn: (zr_ S).2=0
  ·have e2: (((zr_ S).2:Int) !=0)=false:=by rw[hbn];rfl
   refine ko (And.intro @vl_ @e2) ?_
   first|with_reducible refine ks [] @vl_ ?_|refine kp @vl_ ?_
   refine Ow.callX (X:=L2) (Y:= []) (List.append_nil _).symm rfl rfl Tryz.call75 (fun w' hw' hX' hn'=>ad1_ L2 G (zr_ S).1 k w' hX' hn' hP2 hk3) (fun v4 D4 hC4 hS4=> ?_)
   obtain⟨rfl,hS4,-⟩:=hS4
   have hE4:=hE2.came0 hC4
   rw[List.append_nil]
   refine ko @vl_ ?_
   first|with_reducible refine ks [] @vl_ ?_|refine kp @vl_ ?_
   refine⟨_,(ke @vl_), ?_⟩
   rw[if_neg he',if_neg (by rw[hbn];simp),hk]
   exact⟨hE4,rfl,am1_ G k (G.s k),rfl,hS4⟩
  ·have e2:=jO_ hbn
   refine ko (And.intro @vl_ @e2) ?_
   first|with_reducible refine ks [] @vl_ ?_|refine kp @vl_ ?_
   refine⟨_,(ke @vl_), ?_⟩
   rw[if_neg he',if_pos hbn]
   exact⟨hE2,rfl,G,rfl,hP2⟩
def ak8_ (w:World):Prop:= ∃e fz,w.heap[0]? =some (.cells #[vs zg_,vs Zv_,vs refD] e fz)
def wZ_ (quota:Int):DiskL:=⟨fun _=>⟨[],[],[]⟩,[],quota,0,false,false⟩
theorem akK_ (b:Nat) (q:Int):jy_ (wE_ Tryz.prog 123) (zW_ Tryz.prog 123) [(0,vm b),(1,vi q)]=some (.agg #[vm b,vi q,vi 0, .bool false, .bool false]):=by
 rw[show wE_ Tryz.prog 123=some [(0,1),(1,1),(2,1),(3,1),(4,1)] from id (by kernel_rfl),show zW_ Tryz.prog 123=some (.agg #[.map none,vi 0,vi 0, .bool false, .bool false]) from id (by kernel_rfl)];rfl
theorem amb_ (a b:Nat):jy_ (wE_ Tryz.prog 130) (zW_ Tryz.prog 130) [(0,vm a),(1,vm b)]=some (.agg #[vm a,vm b, .slice none 0 0]):=by
 rw[show wE_ Tryz.prog 130=some [(0,1),(1,1),(2,1)] from id (by kernel_rfl),show zW_ Tryz.prog 130=some (.agg #[.map none, .map none, .slice none 0 0]) from id (by kernel_rfl)];rfl
theorem Zn_ (e:TypeId) (fz:Nat×Nat):zo_ (some (true,3)) (some (.cells #[vs zg_,vs Zv_,vs refD] e fz)) 0=some (.agg #[vs zg_,vs Zv_,vs refD]):=jG_ _ e fz 3 rfl
theorem Kr_ {k:Nat} (hk:k<3):wv_ (.arr 3 (false,1)) (.agg #[vs zg_,vs Zv_,vs refD]) (some (k:Int))=some (vs (Z6_ k)):=by
 have:k=0∨k=1∨k=2:=by omega
 rcases this with rfl|rfl|rfl<;>rfl
def JG_ (d:Nat→Nat):Nat→List (List UInt8×Option Nat)
 |0=> []
 |k+1=>JG_ d k++ [(Z6_ k,some (d k))]
theorem Ki_ {d d':Nat→Nat}: ∀ {k:Nat},(∀j,j<k→d' j=d j)→JG_ d' k=JG_ d k
 |0,_=>rfl
 |k+1,h=>by
  unfold JG_
  rw[Ki_ fun j hj=>h j (by omega),h k (by omega)]
theorem agk_ {d:Nat→Nat} {j:Nat} (hj:j<3): ∀ {k:Nat},k≤j→ ∀p,p∈JG_ d k→p.1≠Z6_ j
 |0,_,_,hp=>by cases hp
 |k+1,hk,p,hp=>by
  rcases List.mem_append.1 hp with hp|hp
  ·exact agk_ hj (by omega) p hp
  ·rw[List.mem_singleton.1 hp]
   intro e
   have h1:=xQ_ (k:=k) (by omega)
   have h2:=xQ_ hj
   have e':Z6_ k=Z6_ j:=e
   rw[e',h2] at h1
   cases h1;omega
structure NwG where
 L:za_
 o:Obj
 k:Nat
 d:Nat→Nat
 s:Nat→Nat
 t:Nat→Nat
def mtM (L:za_) (b:Nat):Prop:= ∃o,Sx.look L b=some o∧w0_ vs jw_ o ([]:List (List UInt8×Option Nat))
set_option linter.defProp false
def vL_:=And.intro (And.intro (@zc_) (And.intro (@zb_) (@qE_))) (And.intro (@q3_) (And.intro (@qW_) (@q0_)))
theorem ajO_ (quota:Int) (w:World) (hq: -9223372036854775808≤quota∧quota<9223372036854775808) (hG:ak8_ w):
  Rets Tryz.prog 28 #[vi quota] w (XS w [] (fun v D=> ∃G,v=vp G.bd 0∧DkP D G (wZ_ quota))):=by
 obtain⟨e,fz,hg⟩:=hG
 refine Rets.enterX Tryz.func28 rfl (rs:= [.tmp 2]) Tryz.results28 Tryz.ntmps28 (fun p hp=>by cases hp) (by simp[keys]) ?_
 refine kf ?_
 first|with_reducible refine ks [] @vL_ ?_|refine kp @vL_ ?_
 refine Ow.makeMapG (encK:=vs) (encV:=jw_) rfl rfl (fun bm om hbm hwm hM=> ?_)
 rw[List.nil_append]
 refine ko @vL_ ?_
 refine Ow.build (.agg #[vm bm,vi quota,vi 0, .bool false, .bool false]) rfl (akK_ bm quota) ?_
 refine ko @vL_ ?_
 refine Ow.box rfl rfl fun bd hbd hwd=> ?_
 simp only[z4_,z1_,z3_,zd_]
 have hmd:bm<bd:=zk_ hbd (by simp[keys])
 refine Ow.permL (M:= [(bm,om)]++ [(bd,jX_ bm (wZ_ quota))]) (List.Perm.refl _) ?_
 have h0:Sx.look ([(bm,om)]++ [(bd,jX_ bm (wZ_ quota))]) bm=some om:=by simp[Sx.look]
 have h1:Sx.look ([(bm,om)]++ [(bd,jX_ bm (wZ_ quota))]) bd=some (jX_ bm (wZ_ quota)):=xE_ hbd
 have hN:New w.heap.size ([(bm,om)]++ [(bd,jX_ bm (wZ_ quota))]):=⟨hwm,hwd,trivial⟩
 generalize [(bm,om)]++ [(bd,jX_ bm (wZ_ quota))]=L0 at*
 have hg0:=(Array.getElem?_eq_some_iff.1 hg).1
 have hrg:zE_ w L0 0=some (.cells #[vs zg_,vs Zv_,vs refD] e fz):=by rw[xs_ (hN.not hg0)];exact hg
 refine ko @vL_ ?_
 first|with_reducible refine ks [] (And.intro @vL_ (And.intro @hrg (@Zn_))) ?_|refine kp (And.intro @vL_ (And.intro @hrg (@Zn_))) ?_
 refine Cw.loopG (G:=NwG) [12,13,5,14,15,16,17,18,19,20,21,22,23,11] (fun g=> [(11,vi g.k)]) (fun g=>g.L) (fun g=>g.k≤3∧Sx.look g.L bm=some g.o∧w0_ vs jw_ g.o (JG_ g.d g.k)∧Sx.look g.L bd=some (jX_ bm (wZ_ quota))∧New w.heap.size g.L∧ ∀j,j<g.k→Sx.look g.L (g.d j)=some (ki_ (g.s j) (g.t j) (.slice none 0 0))∧mtM g.L (g.s j)∧mtM g.L (g.t j)∧g.s j<g.t j∧g.t j<g.d j∧bd<g.s j∧ ∀i,i<j→g.d i<g.s j) (fun g=>3 - g.k) ⟨L0,om,0,fun _=>0,fun _=>0,fun _=>0⟩ rfl rfl ?_ ?_
 ·exact⟨Nat.zero_le _,h0,hM,h1,hN,fun j hj=>absurd hj (Nat.not_lt_zero _)⟩
 intro g j hg
 refine kv ?_
 clear h0 hM h1 hN hrg
 obtain⟨L,o,k,d,s,t⟩:=g
 simp only at hg ⊢
 obtain⟨hk,hlm,hM,hld,hN,hall⟩:=hg
 by_cases hlt:k<3
 ·have d1:decide ((k:Int)<3)=true:=decide_eq_true (by omega)
  have ixk:=Kr_ hlt
  have rdd:=zh_ (w0:=w) hld
  first|with_reducible refine ks [] (And.intro @vL_ (And.intro @d1 (And.intro @ixk (@rdd)))) ?_|refine kp (And.intro @vL_ (And.intro @d1 (And.intro @ixk (@rdd)))) ?_
  refine Ow.makeMapG (encK:=vs) (encV:=jw_) rfl rfl (fun bs os hbs hws hMs=> ?_)
  refine ko @vL_ ?_
  refine Ow.makeMapG (encK:=vs) (encV:=jw_) rfl rfl (fun bt ot hbt hwt hMt=> ?_)
  refine ko @vL_ ?_
  refine Ow.build (.agg #[vm bs,vm bt, .slice none 0 0]) rfl (amb_ bs bt) ?_
  refine ko @vL_ ?_
  refine Ow.box rfl rfl fun br hbr hwr=> ?_
  simp only[z4_,z1_,z3_,zd_]
  refine Ow.permL (M:=L++ [(bs,os)]++ [(bt,ot)]++ [(br,ki_ bs bt (.slice none 0 0))]) (List.Perm.refl _) ?_
  have up: ∀b x,Sx.look L b=some x→Sx.look (L++ [(bs,os)]++ [(bt,ot)]++ [(br,ki_ bs bt (.slice none 0 0))]) b=some x:=fun b x h=>zu_ (zu_ (zu_ h))
  have ls:Sx.look (L++ [(bs,os)]++ [(bt,ot)]++ [(br,ki_ bs bt (.slice none 0 0))]) bs=some os:=zu_ (zu_ (xE_ hbs))
  have lt:Sx.look (L++ [(bs,os)]++ [(bt,ot)]++ [(br,ki_ bs bt (.slice none 0 0))]) bt=some ot:=zu_ (xE_ hbt)
  have lr:Sx.look (L++ [(bs,os)]++ [(bt,ot)]++ [(br,ki_ bs bt (.slice none 0 0))]) br=some (ki_ bs bt (.slice none 0 0)):=xE_ hbr
  have hN1:New w.heap.size (L++ [(bs,os)]++ [(bt,ot)]++ [(br,ki_ bs bt (.slice none 0 0))]):=((hN.app (show New w.heap.size [(bs,os)] from⟨hws,trivial⟩)).app (show New w.heap.size [(bt,ot)] from⟨hwt,trivial⟩)).app (show New w.heap.size [(br,ki_ bs bt (.slice none 0 0))] from⟨hwr,trivial⟩)
  have c1:bs<bt:=zk_ hbt (by rw[zv_];simp[keys])
  have c2:bt<br:=zk_ hbr (by rw[zv_];simp[keys])
  have c3:bd<bs:=zk_ hbs (zj_ hld)
  have c4: ∀j,j<k→d j<bs:=fun j hj=>zk_ hbs (zj_ (hall j hj).1)
  have c5:bm<bs:=zk_ hbs (zj_ hlm)
  generalize L++ [(bs,os)]++ [(bt,ot)]++ [(br,ki_ bs bt (.slice none 0 0))]=L1 at*
  refine ko @vL_ ?_
  refine Ow.mapUpdateG (encK:=vs) (encV:=jw_) (k:=Z6_ k) (v:=some br) rfl rfl Tryz.underlying121 xW_ rfl rfl rfl (up _ _ hlm) hM (fun o2 hm2=> ?_)
  rw[X3_ (agk_ hlt (Nat.le_refl _))] at hm2
  have ne: ∀b x,b≠bm→Sx.look L1 b=some x→Sx.look (setB L1 bm o2) b=some x:=fun b x h1 h2=>by rw[zm_ (Ne.symm h1)];exact h2
  refine ko @vL_ ?_
  first|with_reducible refine ks [] @vL_ ?_|refine kp @vL_ ?_
  refine Again.mk ⟨setB L1 bm o2,o2,k+1,fun j=>if j=k then br else d j,fun j=>if j=k then bs else s j,fun j=>if j=k then bt else t j⟩ (by show 3 - (k+1)<3 - k;omega) ⟨hlt,qe_ (up _ _ hlm), ?_,ne _ _ (by omega) (up _ _ hld),New.of_le fun q hq=>hN1.le q (by rwa [xm_] at hq),fun j hj=> ?_⟩ rfl rfl
  ·show w0_ vs jw_ o2 (JG_ (fun j=>if j=k then br else d j) (k+1))
   unfold JG_
   rw[Ki_ (d:=d) fun j hj=>if_neg (by omega),if_pos rfl]
   exact hm2
  ·show Sx.look (setB L1 bm o2) (if j=k then br else d j)=some (ki_ (if j=k then bs else s j) (if j=k then bt else t j) (.slice none 0 0))∧mtM (setB L1 bm o2) (if j=k then bs else s j)∧mtM (setB L1 bm o2) (if j=k then bt else t j)∧(if j=k then bs else s j)< (if j=k then bt else t j)∧(if j=k then bt else t j)< (if j=k then br else d j)∧bd< (if j=k then bs else s j)∧ ∀i,i<j→(if i=k then br else d i)< (if j=k then bs else s j)
   by_cases e:j=k
   ·subst e
    simp only[if_pos]
    refine⟨ne _ _ (by omega) lr,⟨os,ne _ _ (by omega) ls,hMs⟩,⟨ot,ne _ _ (by omega) lt,hMt⟩,c1,c2,c3,fun i hi=> ?_⟩
    rw[if_neg (by omega)];exact c4 i hi
   ·simp only[if_neg e]
    have hj':j<k:=by have:j<k+1:=hj;omega
    obtain⟨q1,⟨oo,q2,q3⟩,⟨oo2,q4,q5⟩,q6,q7,q8,q9⟩:=hall j hj'
    refine⟨ne _ _ (by omega) (up _ _ q1),⟨oo,ne _ _ (by omega) (up _ _ q2),q3⟩,⟨oo2,ne _ _ (by omega) (up _ _ q4),q5⟩,q6,q7,q8,fun i hi=> ?_⟩
    rw[if_neg (by omega)];exact q9 i hi
 ·obtain rfl:k=3:=by omega
  have d1:decide (((3:Nat):Int)<3)=false:=rfl
  first|with_reducible refine ks [] (And.intro @vL_ @d1) ?_|refine kp (And.intro @vL_ @d1) ?_
  refine⟨_,(ke @vL_), ?_⟩
  obtain⟨a1,a2,a3,a4,a5,a6,a7⟩:=hall 0 (by omega)
  obtain⟨b1,b2,b3,b4,b5,b6,b7⟩:=hall 1 (by omega)
  obtain⟨c1,c2,c3,c4,c5,c6,c7⟩:=hall 2 (by omega)
  have b8:=b7 0 (by omega)
  have c8:=c7 1 (by omega)
  refine⟨Ext.of_new hN,⟨bd,bm,d,s,t,fun _=> .slice none 0 0,[]⟩,rfl,hld,⟨o,hlm,hM⟩,fun k hk=>(hall k hk).1,fun k hk=> ?_,fun k hk=> ?_,fun k hk=>⟨[],rfl,Gr.nl,fun i hi=>absurd hi (Nat.not_lt_zero _)⟩,fun n hn=>absurd hn (Nat.not_lt_zero _),rfl,List.nodup_nil, ?_, ?_,fun k hk=> ?_,fun i j hi hj hij b hb=>(by cases hb), ?_⟩
  ·obtain⟨x,y,z⟩:=(hall k hk).2.1
   exact⟨x,[],y,z,List.Perm.nil⟩
  ·obtain⟨x,y,z⟩:=(hall k hk).2.2.1
   exact⟨x,[],y,z,List.Perm.nil⟩
  ·show [s 0,s 1,s 2,t 0,t 1,t 2].Nodup
   simp only[List.nodup_cons,List.mem_cons,List.not_mem_nil,not_or,or_false,List.nodup_nil,and_true,not_false_eq_true]
   refine⟨⟨?_, ?_, ?_, ?_, ?_⟩,⟨?_, ?_, ?_, ?_⟩,⟨?_, ?_, ?_⟩,⟨?_, ?_⟩, ?_⟩<;>omega
  ·show [d 0,d 1,d 2].Nodup
   simp only[List.nodup_cons,List.mem_cons,List.not_mem_nil,not_or,or_false,List.nodup_nil,and_true,not_false_eq_true]
   refine⟨⟨?_, ?_⟩, ?_⟩<;>omega
  ·have:=(hall k hk).2.2.2
   show bm≠s k∧bm≠t k
   omega
  ·exact⟨fun _ _=>List.Pairwise.nil,fun _ _=>List.Pairwise.nil,fun _ _ p hp=>(by cases hp),fun _ _ p hp=>(by cases hp),fun _ _ c hc=>(by cases hc),fun f hf=>(by cases hf),⟨show(-9223372036854775808:Int)≤0 by decide,show(0:Int)<9223372036854775808 by decide,fun _=>show(0:Int)≤0 by decide⟩,hq⟩
end Go.Proofs
end
section
open Go Go.Proofs Go.Sx Go.StP
namespace Go.Proofs
set_option maxRecDepth 10000
set_option maxHeartbeats 400000
set_option linter.unusedSimpArgs false
structure FiL where
 dir:List UInt8
 name:List UInt8
 data:List UInt8
def fiC (r:FiL):List Value:= [vs r.dir]++ ([vs r.name]++ ([vs r.data]))
def fi0:FiL:=⟨[],[],[]⟩
theorem aes_ (r:FiL): (fiC r).length=3:=by simp[fiC]
theorem Zh_ (r:FiL):Value.cells (.agg (fiC r).toArray)=(fiC r).toArray:=zd_ _
theorem aqf_ (r:FiL): (fiC r).all Value.oneCell'=true:=by
 unfold fiC
 simp only[List.all_append,List.all_cons,List.all_nil,wg_,Bool.and_true,Bool.true_and]
 rfl
theorem ao4_ (r:FiL):fiC r=([]:List Value)++ (([vs r.dir])++ ([vs r.name]++ ([vs r.data]))):=by
 unfold fiC;simp only[List.append_assoc,List.nil_append,List.append_nil]
theorem aug_ (r:FiL):Sx.partV (false,1) (fiC r).toArray 0=some (vs r.dir):=by
 rw[ao4_];exact QU_ _ _ _ (by simp)
theorem agW_ (r:FiL) (n:Nat) (E:TypeId) (fz:Nat×Nat):zo_ (some (false,n)) (some (.cells (fiC r).toArray E fz)) 0=some (vs r.dir):=by
 rw[ao4_];exact zN_ _ _ _ n E fz (by simp)
theorem aoT_ (r:FiL):fiC r=(([vs r.dir]))++ (([vs r.name])++ ([vs r.data])):=by
 unfold fiC;simp only[List.append_assoc,List.nil_append,List.append_nil]
theorem auq_ (r:FiL):Sx.partV (false,1) (fiC r).toArray 1=some (vs r.name):=by
 rw[aoT_];exact QU_ _ _ _ (by simp)
theorem agF_ (r:FiL) (n:Nat) (E:TypeId) (fz:Nat×Nat):zo_ (some (false,n)) (some (.cells (fiC r).toArray E fz)) 1=some (vs r.name):=by
 rw[aoT_];exact zN_ _ _ _ n E fz (by simp)
theorem ao8_ (r:FiL):fiC r=(([vs r.dir])++ ([vs r.name]))++ (([vs r.data])++ (([]:List Value))):=by
 unfold fiC;simp only[List.append_assoc,List.nil_append,List.append_nil]
theorem atM_ (r:FiL):Sx.partV (false,1) (fiC r).toArray 2=some (vs r.data):=by
 rw[ao8_];exact QU_ _ _ _ (by simp)
theorem ahg_ (r:FiL) (n:Nat) (E:TypeId) (fz:Nat×Nat):zo_ (some (false,n)) (some (.cells (fiC r).toArray E fz)) 2=some (vs r.data):=by
 rw[ao8_];exact zN_ _ _ _ n E fz (by simp)
theorem WQ_ (r:FiL) (E:TypeId) (fz:Nat×Nat):zo_ (some (true,3)) (some (.cells (fiC r).toArray E fz)) 0=some (.agg (fiC r).toArray):=jG_ _ E fz 3 (by rw[List.size_toArray,aes_])
theorem anD_ (old:Array Value) (r:FiL) (a:Bool) (E:TypeId) (h:old.size=3):zn_ (some (a,3)) (some (.cells old E (0,0))) 0 (.agg (fiC r).toArray)=some (.cells (fiC r).toArray E (0,0)):=jv_ _ a old E (aes_ r) (aqf_ r) h
theorem acE_ (r r':FiL) (a:Bool) (E:TypeId):zn_ (some (a,3)) (some (.cells (fiC r').toArray E (0,0))) 0 (.agg (fiC r).toArray)=some (.cells (fiC r).toArray E (0,0)):=anD_ _ r a E (by rw[List.size_toArray,aes_])
theorem aqA_:Tryz.prog.stoodInHeld 36=false:=by kernel_rfl
theorem aqy_:Tryz.prog.eqGuardType Tryz.prog.depth 36=false:=by kernel_rfl
theorem aux_ (r r':FiL):eqD Tryz.prog 8 36 (.agg (fiC r).toArray) (.agg (fiC r').toArray)=some ((r.dir==r'.dir)&& (r.name==r'.name)&& (r.data==r'.data)):=by
 have hs: ∀ (a b:List UInt8),eqD Tryz.prog 7 9 (vs a) (vs b)=some (a==b):=by
  intro a b;unfold eqD;rw[Tryz.underlying9];simp only[vs,KP_]
 have ags:zZ_ Tryz.prog 9=some (false,1):=id (by kernel_rfl)
 unfold eqD
 rw[Tryz.underlying36]
 simp only
 rw[aqA_]
 simp only[Bool.false_eq_true, ↓reduceIte,xV_,kv_,ags,aug_,auq_,atM_,hs]
 cases(r.dir==r'.dir)<;>cases(r.name==r'.name)<;>cases(r.data==r'.data)<;>simp
theorem neFi (r r':FiL):qy_ Tryz.prog .neq 36 (.agg (fiC r).toArray) (.agg (fiC r').toArray)=some (.bool (!((r.dir==r'.dir)&& (r.name==r'.name)&& (r.data==r'.data)))):=by
 unfold qy_ eqX;rw[aqy_];simp[qk_,aux_]
abbrev FiSl (w:World) (v:Value) (l:List FiL):Prop:=SlV 3 fiC fi0 w v l
def jr_ (S:DiskL) (f:FiL):DiskL:=match zG_ f.dir with
 |some k=>if qY_ f.name=true∧f.data.length≤1048576 then qD_ (xc_ S ⟨f.data,f.data.length⟩) k ⟨Xd_ (S.dir k).seen (f.name,S.files.length),(S.dir k).stl,(S.dir k).pend⟩ else S
 |none=>S
def setV (S:DiskL) (vis:List Nat):DiskL:={S with dir:=fun k=>if k∈vis then⟨(S.dir k).seen,(S.dir k).seen,[]⟩ else S.dir k}
def ofD (quota:Int) (l:List FiL):DiskL:=setV (l.foldl jr_ (wZ_ quota)) [0,1,2]
end Go.Proofs
end
section
open Go Go.Proofs Go.Sx Go.StP
namespace Go.Proofs
set_option maxRecDepth 10000
set_option maxHeartbeats 400000
set_option linter.unusedSimpArgs false
theorem asW_ (b o:Nat):qy_ Tryz.prog .neq 120 (vp b o) (.pointer none)=some (.bool true):=by
 simp[qy_,eqX,qk_,qn_,Tryz.underlying120,vp]
theorem aqa_:qy_ Tryz.prog .neq 120 (.pointer none) (.pointer none)=some (.bool false):=by
 simp[qy_,eqX,qk_,qn_,Tryz.underlying120]
theorem vy_ {X:za_} {c:Nat} {x:Obj} (h:jS_ X c) {b:Nat} {o:Obj} (hb:Sx.look X b=some o):Sx.look ((c,x)::X) b=some o:=by
 have:=zk_ h (zj_ hb)
 simp only[Sx.look]
 rw[if_neg (by omega)];exact hb
structure OfKG where
 i:Nat
 G:DkG
 X:za_
structure OvKG where
 vis:List Nat
 dn:List (List UInt8×Option Nat)
 lf:List (List UInt8×Option Nat)
 it:Obj
 G:DkG
 X:za_
def FiB (l:List FiL):Prop:= ∀f,f∈l→f.name.length<1099511627776∧f.data.length<1099511627776
set_option linter.defProp false
def avA_:=And.intro (And.intro (And.intro (And.intro (@zc_) (@zb_)) (And.intro (@qE_) (And.intro (@q3_) (@qW_)))) (And.intro (And.intro (@q0_) (@asW_)) (And.intro (@aqa_) (And.intro (@Sx.tup2_0) (@Sx.tup2_1))))) (And.intro (And.intro (And.intro (@Zh_) (@WQ_)) (And.intro (@agW_) (And.intro (@agF_) (@ahg_)))) (And.intro (And.intro (@acE_) (@JO_)) (And.intro (@Sx.tup3_0) (And.intro (@Sx.tup3_1) (@Sx.tup3_2)))))
end Go.Proofs
end
section
namespace Go.Proofs
open Go Go.Sx Go.StP Go.Shelf
set_option maxRecDepth 100000
def Tryz.keysL_ren:Go.Shelf.Ren:=⟨fun|7=>124|10=>164|n=>n,fun|23=>127|26=>9|3=>124|28=>185|0=>0|27=>184|33=>74|4=>4|n=>n,fun|n=>n⟩
theorem Tryz.keysL:Go.Proofs.SlLaysZ.n7 Tryz.prog Tryz.keysL_ren:={
 mixed:=by kernel_rfl
 f7:=⟨Tryz.f124.name,by decide,Tryz.func124.trans (congrArg some (by kernel_rfl))⟩
 f10:=⟨Tryz.f164.name,by decide,Tryz.func164.trans (congrArg some (by kernel_rfl))⟩
 t0:=Tryz.underlying0
 a0:=Tryz.isAgg0
 z0:=Tryz.sizeOf0
 v0:=Tryz.zeroValue0
 t4:=Tryz.underlying4
 a4:=Tryz.isAgg4
 z4:=Tryz.sizeOf4
 v4:=Tryz.zeroValue4
 t23:=Tryz.underlying127
 a23:=Tryz.isAgg127
 z23:=Tryz.sizeOf127
 v23:=Tryz.zeroValue127
 t26:=Tryz.underlying9
 a26:=Tryz.isAgg9
 z26:=Tryz.sizeOf9
 v26:=Tryz.zeroValue9
 t27:=Tryz.underlying184
 a27:=Tryz.isAgg184
 z27:=Tryz.sizeOf184
 v27:=Tryz.zeroValue184
 t28:=Tryz.underlying185
 a28:=Tryz.isAgg185
 z28:=Tryz.sizeOf185
 v28:=Tryz.zeroValue185
 t33:=Tryz.underlying74
 a33:=Tryz.isAgg74
 z33:=Tryz.sizeOf74
 v33:=Tryz.zeroValue74}
def Tryz.sortedL_ren:Go.Shelf.Ren:=⟨fun|6=>123|8=>162|9=>163|11=>192|13=>194|12=>193|23=>225|24=>226|14=>216|15=>217|16=>218|17=>219|18=>220|19=>221|20=>222|21=>223|22=>224|25=>236|26=>237|27=>238|28=>239|29=>240|30=>241|31=>248|n=>n,fun|26=>9|28=>185|24=>72|0=>0|3=>3|37=>219|48=>207|50=>252|4=>4|40=>284|39=>283|45=>288|5=>5|9=>9|51=>301|55=>305|57=>316|58=>77|33=>74|n=>n,fun|n=>n⟩
theorem Tryz.sortedL:Go.Proofs.SlLaysZ.n6 Tryz.prog Tryz.sortedL_ren:={
 mixed:=by kernel_rfl
 f6:=⟨Tryz.f123.name,by decide,Tryz.func123.trans (congrArg some (by kernel_rfl))⟩
 f8:=⟨Tryz.f162.name,by decide,Tryz.func162.trans (congrArg some (by kernel_rfl))⟩
 f11:=⟨Tryz.f192.name,by decide,Tryz.func192.trans (congrArg some (by kernel_rfl))⟩
 t0:=Tryz.underlying0
 a0:=Tryz.isAgg0
 z0:=Tryz.sizeOf0
 v0:=Tryz.zeroValue0
 t24:=Tryz.underlying72
 a24:=Tryz.isAgg72
 z24:=Tryz.sizeOf72
 v24:=Tryz.zeroValue72
 t26:=Tryz.underlying9
 a26:=Tryz.isAgg9
 z26:=Tryz.sizeOf9
 v26:=Tryz.zeroValue9
 t28:=Tryz.underlying185
 a28:=Tryz.isAgg185
 z28:=Tryz.sizeOf185
 v28:=Tryz.zeroValue185
 i26:=by kernel_rfl}
def Tryz.sortL_ren:Go.Shelf.Ren:=⟨fun|6=>163|8=>194|9=>193|19=>225|20=>226|21=>216|22=>217|23=>218|24=>219|25=>220|26=>221|27=>222|28=>223|29=>224|36=>236|31=>237|32=>238|37=>239|38=>240|39=>241|41=>248|n=>n,fun|27=>72|29=>9|3=>3|32=>219|26=>72|0=>0|44=>207|46=>252|4=>4|36=>284|35=>283|41=>288|5=>5|9=>9|53=>301|57=>305|63=>316|64=>77|n=>n,fun|n=>n⟩
theorem Tryz.sortL:Go.Proofs.SlLaysM.n6 Tryz.prog Tryz.sortL_ren:={
 mixed:=by kernel_rfl
 f6:=⟨Tryz.f163.name,by decide,Tryz.func163.trans (congrArg some (by kernel_rfl))⟩
 f8:=Tryz.func194.trans (congrArg some (by kernel_rfl))
 f9:=⟨Tryz.f193.name,by decide,Tryz.func193.trans (congrArg some (by kernel_rfl))⟩
 f19:=Tryz.func225.trans (congrArg some (by kernel_rfl))
 f20:=Tryz.func226.trans (congrArg some (by kernel_rfl))
 f21:=⟨Tryz.f216.name,by decide,Tryz.func216.trans (congrArg some (by kernel_rfl))⟩
 f22:=⟨Tryz.f217.name,by decide,Tryz.func217.trans (congrArg some (by kernel_rfl))⟩
 f23:=⟨Tryz.f218.name,by decide,Tryz.func218.trans (congrArg some (by kernel_rfl))⟩
 f24:=⟨Tryz.f219.name,by decide,Tryz.func219.trans (congrArg some (by kernel_rfl))⟩
 f25:=⟨Tryz.f220.name,by decide,Tryz.func220.trans (congrArg some (by kernel_rfl))⟩
 f26:=⟨Tryz.f221.name,by decide,Tryz.func221.trans (congrArg some (by kernel_rfl))⟩
 f27:=⟨Tryz.f222.name,by decide,Tryz.func222.trans (congrArg some (by kernel_rfl))⟩
 f28:=⟨Tryz.f223.name,by decide,Tryz.func223.trans (congrArg some (by kernel_rfl))⟩
 f29:=⟨Tryz.f224.name,by decide,Tryz.func224.trans (congrArg some (by kernel_rfl))⟩
 f31:=Tryz.func237.trans (congrArg some (by kernel_rfl))
 f32:=Tryz.func238.trans (congrArg some (by kernel_rfl))
 f36:=⟨Tryz.f236.name,by decide,Tryz.func236.trans (congrArg some (by kernel_rfl))⟩
 f37:=⟨Tryz.f239.name,by decide,Tryz.func239.trans (congrArg some (by kernel_rfl))⟩
 f38:=⟨Tryz.f240.name,by decide,Tryz.func240.trans (congrArg some (by kernel_rfl))⟩
 f39:=⟨Tryz.f241.name,by decide,Tryz.func241.trans (congrArg some (by kernel_rfl))⟩
 f41:=⟨Tryz.f248.name,by decide,Tryz.func248.trans (congrArg some (by kernel_rfl))⟩
 t0:=Tryz.underlying0
 a0:=Tryz.isAgg0
 z0:=Tryz.sizeOf0
 v0:=Tryz.zeroValue0
 t3:=Tryz.underlying3
 a3:=Tryz.isAgg3
 z3:=Tryz.sizeOf3
 v3:=Tryz.zeroValue3
 t4:=Tryz.underlying4
 a4:=Tryz.isAgg4
 z4:=Tryz.sizeOf4
 v4:=Tryz.zeroValue4
 t5:=Tryz.underlying5
 a5:=Tryz.isAgg5
 z5:=Tryz.sizeOf5
 v5:=Tryz.zeroValue5
 t9:=Tryz.underlying9
 a9:=Tryz.isAgg9
 z9:=Tryz.sizeOf9
 v9:=Tryz.zeroValue9
 t26:=Tryz.underlying72
 a26:=Tryz.isAgg72
 z26:=Tryz.sizeOf72
 v26:=Tryz.zeroValue72
 t27:=Tryz.underlying72
 a27:=Tryz.isAgg72
 z27:=Tryz.sizeOf72
 v27:=Tryz.zeroValue72
 t29:=Tryz.underlying9
 a29:=Tryz.isAgg9
 z29:=Tryz.sizeOf9
 v29:=Tryz.zeroValue9
 t32:=Tryz.underlying219
 a32:=Tryz.isAgg219
 z32:=Tryz.sizeOf219
 v32:=Tryz.zeroValue219
 t35:=Tryz.underlying283
 a35:=Tryz.isAgg283
 z35:=Tryz.sizeOf283
 v35:=Tryz.zeroValue283
 t36:=Tryz.underlying284
 a36:=Tryz.isAgg284
 z36:=Tryz.sizeOf284
 v36:=Tryz.zeroValue284
 t41:=Tryz.underlying288
 a41:=Tryz.isAgg288
 z41:=Tryz.sizeOf288
 v41:=Tryz.zeroValue288
 t44:=Tryz.underlying207
 a44:=Tryz.isAgg207
 z44:=Tryz.sizeOf207
 v44:=Tryz.zeroValue207
 t46:=Tryz.underlying252
 a46:=Tryz.isAgg252
 z46:=Tryz.sizeOf252
 v46:=Tryz.zeroValue252
 t53:=Tryz.underlying301
 a53:=Tryz.isAgg301
 z53:=Tryz.sizeOf301
 v53:=Tryz.zeroValue301
 t57:=Tryz.underlying305
 a57:=Tryz.isAgg305
 z57:=Tryz.sizeOf305
 v57:=Tryz.zeroValue305
 t63:=Tryz.underlying316
 a63:=Tryz.isAgg316
 z63:=Tryz.sizeOf316
 v63:=Tryz.zeroValue316
 t64:=Tryz.underlying77
 a64:=Tryz.isAgg77
 z64:=Tryz.sizeOf77
 v64:=Tryz.zeroValue77}
open Go.RowKit Go.Maps Go.Sort
theorem asA_ (m:Nat):AnyZ.SortsIn Tryz.prog Tryz.sortedL_ren Fence.wide m:=
 ⟨fun blk off cap ss W hH hblk hsz=>callsIn_wide.2 (AnyM.slices_Sort_string Tryz.sortL blk off cap ss W hH hblk hsz),
 fun p cap W=>callsIn_wide.2 (AnyM.slices_Sort_string_none Tryz.sortL p cap W)⟩
theorem aiM_ {a b:List UInt8} (h:ltB a b=true):leB a b=true:=by
 rw[Wb_,decide_eq_true_eq] at h
 simp only[leB,decide_eq_true_eq]
 exact List.le_of_lt h
theorem alk_ {l:NmL} (h:SrtN l) {ss:List (List UInt8)} (hp:ss.Perm (l.map Prod.fst)):ss.mergeSort (fun x y=>decide (x≤y))=l.map Prod.fst:=by
 show ss.mergeSort leB=_
 rw[mergeSort_of_perm hp]
 refine List.mergeSort_of_pairwise ?_
 exact List.pairwise_map.2 (h.imp fun h=>aiM_ h)
theorem asT_ {W:World} {base n:Nat} {T:TypeId} {v:Value} {xs:List Value} (h:W.ownsRow base T 1 v n xs): ∃D:za_,(∀p,p∈D→W.heap[p.1]? =some p.2∧base≤p.1)∧(keys D).Nodup∧Gr D T 1 v n xs:=by
 obtain⟨hl,h⟩:=h
 rcases h with⟨rfl,rfl⟩ | ⟨g,cap,cur,rfl,hb,hg,hc,hm,hs,ht⟩
 ·obtain rfl:xs= []:=List.eq_nil_of_length_eq_zero (by simpa using hl)
  exact⟨[],fun p hp=>(by cases hp),List.nodup_nil,Gr.nl⟩
 ·refine⟨[(g, .cells cur T (0,0))], ?_,by simp[keys], ?_⟩
  ·intro p hp
   simp only[List.mem_singleton] at hp
   subst hp
   exact⟨hg,hb⟩
  ·by_cases h0:0<cap
   ·refine .inl (Buf.at_ (rest:=cur.toList.drop (n*1)) ?_ hl ?_ hc h0)
    ·rw[←ht,List.take_append_drop]
     simp[Sx.look]
    ·rw[List.length_drop,Array.length_toList,hs];omega
   ·obtain rfl:cap=0:=by omega
    obtain rfl:n=0:=by omega
    refine .inr ⟨rfl,List.eq_nil_of_length_eq_zero (by simpa using hl),g,rfl, ?_⟩
    have:cur= #[]:=Array.eq_empty_of_size_eq_zero (by simpa using hs)
    simp[Sx.look,this]
def RN (_:Value):Option (DataW Unit×List MemPlace):=some (.nil,[])
theorem apw_ {w:World} {b:Nat} {o:Obj} {m:List (List UInt8×Option Nat)} (ho:w.heap[b]? =some o) (hM:w0_ vs jw_ o m) (hn: (m.map Prod.fst).Nodup) (hk: ∀p,p∈m→p.1.length≤1000000) (hs:m.length≤1000000):
  ∃D0:DataW Unit,w.ownsMap Tryz.prog 9 RN b m.length D0∧Maps.size D0≤1000000∧(strKeys D0).Perm (m.map Prod.fst):=by
 obtain⟨es,clock,rfl,he,hb⟩:=hM
 have hlen:es.size=m.length:=by have:=congrArg List.length he;simpa using this
 have hkey:es.toList.map (·.key)=m.map fun p=>vs p.1:=by
  have:=congrArg (List.map Prod.fst) he
  simpa [kz_,Function.comp_def] using this
 have hrd: ∀x,x∈es.toList→ ∃s:List UInt8,x.key=vs s∧s.length≤1000000:=by
  intro x hx
  have:x.key∈m.map fun p=>vs p.1:=by rw[←hkey];exact List.mem_map.2 ⟨x,hx,rfl⟩
  obtain⟨p,hp,e⟩:=List.mem_map.1 this
  exact⟨p.1,e.symm,hk p hp⟩
 have hrd2: ∀x,x∈es.toList→ ∀s:List UInt8,x.key=vs s→s.length≤1000000→WideElems.rd Tryz.prog 9 RN x=some (.string s, .nil):=by
  intro x hx s hs hl
  have hL:s.length≤maxLen:=Nat.le_trans hl (by decide)
  have hL2: (ByteArray.mk s.toArray).size≤maxLen:=hL
  simp[WideElems.rd,keyOf,Tryz.underlying9,mapKey,hs,RN,vs,hL2]
 have hbo:=List.pairwise_append.1 hb
 refine⟨_,⟨es,clock,ho,⟨?_,⟨?_, ?_, ?_⟩, ?_⟩,by omega,rfl⟩, ?_, ?_⟩
 ·rw[hlen];exact Nat.le_trans hs (by decide)
 ·intro x hx
  exact hbo.2.2 x.born (List.mem_map.2 ⟨x,hx,rfl⟩) clock (by simp)
 ·exact hbo.1.imp fun h=>Nat.ne_of_lt h
 ·rw[hkey]
  have: (m.map Prod.fst).map vs=m.map fun p=>vs p.1:=by simp[Function.comp_def]
  rw[←this]
  refine List.pairwise_map.2 (hn.imp fun h e=>h ?_)
  simpa [vs] using e
 ·intro x hx
  obtain⟨s,e,hl⟩:=hrd x hx
  exact⟨_,hrd2 x hx s e hl⟩
 ·rw[Maps.size_eq,(WideShapes.sorted_perm _).length_eq,List.length_map,Array.length_toList,hlen];exact hs
 ·show(List.map (fun p:Lit×DataW Unit=>strOf p.1) _).Perm _
  refine((WideShapes.sorted_perm _).map _).trans (List.Perm.of_eq ?_)
  rw[List.map_map]
  refine List.map_congr_left ?_|>.trans (?_:es.toList.map (fun x=>match x.key with| .string s=>s.data.toList|_=> [])=_)
  ·intro x hx
   obtain⟨s,e,hl⟩:=hrd x hx
   simp only[Function.comp]
   rw[WideElems.rg_of (hrd2 x hx s e hl),e]
   rfl
  ·have:es.toList.map (fun x=>match x.key with| .string s=>s.data.toList|_=> [])=(es.toList.map (·.key)).map (fun k=>match k with| .string s=>s.data.toList|_=> []):=by rw[List.map_map];rfl
   rw[this,hkey,List.map_map]
   rfl
theorem ab9_ (X:za_) (G:DkG) (S:DiskL) (k c:Nat) (w:World) (hP:DkP X G S) (hX: ∀b o,Sx.look X b=some o→w.heap[b]? =some o) (hk:k<3) (hs: (S.dir k).seen.length≤1000000) (hl: ∀p,p∈ (S.dir k).seen→p.1.length≤1000000)
  (hc:w.heap[c]? =some (.cells #[vm (G.s k)] 127 (0,0))):
  Rets Tryz.prog 123 #[.func (.func 164) #[] #[vp c 0]] w (XS w [] (fun v D=>GrI D 9 1 v (S.dir k).seen.length ((S.dir k).seen.map fun p=>vs p.1))):=by
 obtain⟨o,m,h1,h2,h3⟩:=hP.seen k hk
 have ho:=hX _ _ h1
 have hlen:m.length=(S.dir k).seen.length:=by have:=h3.length_eq;simpa using this
 have hmk: ∀p,p∈m→p.1.length≤1000000:=by
  intro p hp
  have:=h3.mem_iff.1 hp
  obtain⟨q,hq,e⟩:=List.mem_map.1 this
  rw[←e];exact hl q hq
 obtain⟨D0,hown,hsz,hperm⟩:=apw_ ho h2 (h3.keys (hP.ok.seen k hk).nodup) hmk (by omega)
 have hcl:=(Array.getElem?_eq_some_iff.1 hc).1
 have hseq:SeqGives Fence.wide 2 Tryz.prog 164 #[.pointer (some ⟨c,0,none⟩)] encStr (fun ss=>ss.Perm (strKeys D0)) (Maps.size D0) w:=
  AnyZ.keys_gives (ρ:=Tryz.keysL_ren) {Tryz.keysL with} Fence.wide _ trivial rfl (by omega) c (G.s k) m.length D0 _ hcl (by simp[World.cell?,hc,vm]) hown
 have h:=AnyZ.sorted_in Tryz.sortedL Fence.wide 5 trivial trivial trivial trivial rfl (by omega) (asA_ _) (enters_of Tryz.func163 (by kernel_rfl) rfl) 164 #[.pointer (some ⟨c,0,none⟩)] trivial (enters_of Tryz.func164 (by kernel_rfl) rfl) _ (Maps.size D0) (Nat.le_trans hsz (by decide)) (by omega) w hseq
 refine Calls.mono (callsIn_wide.1 h) ?_
 rintro e w' ⟨v,ss,rfl,hS,hrow,-,hb⟩
 obtain⟨D,hD,hDn,hG⟩:=asT_ hrow
 have hss:ss.mergeSort (fun x y=>decide (x≤y))=(S.dir k).seen.map Prod.fst:=by
  refine alk_ (hP.ok.seen k hk) ((hS.trans hperm).trans ?_)
  have:=h3.map Prod.fst
  refine this.trans (List.Perm.of_eq ?_)
  rw[List.map_map];rfl
 have hsl:ss.length=(S.dir k).seen.length:=by
  have:=congrArg List.length hss
  simpa using this
 refine⟨v,D,rfl,⟨fun b o hm=>(hD _ hm).1,hDn,fun b hb' _=>hb.block b hb',hb.size,hb.tape,hb.os,hb.output⟩,⟨fun b hb'=> ?_,fun b hb'=>(by cases hb')⟩,⟨D,fun _ h=>h, ?_⟩⟩
 ·obtain⟨p,hp,rfl⟩:=List.mem_map.1 hb'
  exact .inr (hD p hp).2
 rw[hss,hsl] at hG
 have: ((S.dir k).seen.map Prod.fst).map encStr=(S.dir k).seen.map fun p=>vs p.1:=by rw[List.map_map];rfl
 rw[this] at hG
 exact hG
end Go.Proofs
end
section
open Go Go.Proofs Go.Sx Go.StP
namespace Go.Proofs
set_option maxRecDepth 10000
set_option maxHeartbeats 400000
set_option linter.unusedSimpArgs false
theorem ahF_ (b:Nat) (w:World):
  Rets Tryz.prog 124 #[vm b] w (XS w [] (fun v' D=> ∃b1,v'= .func (.func 164) #[] #[vp b1 0]∧D= [(b1, .cells #[vm b] 127 (0,0))])):=by
 refine Rets.enter Tryz.func124 rfl (rs:= [.tmp 2]) Tryz.results124 Tryz.ntmps124 ?_
 refine kf ?_
 first|with_reducible refine ks [] @Nat.add_zero ?_|refine kp @Nat.add_zero ?_
 refine Ow.box rfl rfl fun b1 hb1 hw1=> ?_
 simp only[z4_,z1_,vm,List.nil_append]
 refine ko @Nat.add_zero ?_
 refine⟨_,(ke @Nat.add_zero), ?_⟩
 exact⟨⟨fun c hc=>(by simp only[keys,List.map_cons,List.map_nil,List.mem_singleton] at hc;exact .inr (hc▸hw1)),fun c hc=>(by cases hc)⟩,b1,by simp[xS_,ev,Zw_],rfl⟩
def DkB (S:DiskL):Prop:= ∀k,k<3→(S.dir k).seen.length≤1000000∧ ∀p,p∈ (S.dir k).seen→p.1.length≤1000000
def wb_ (S:DiskL) (dir:List UInt8):List (List UInt8):=if qZ_ S dir []≠0 then [] else(S.dir ((zG_ dir).getD 0)).seen.map Prod.fst
set_option linter.defProp false
def JX_:=And.intro (And.intro (And.intro (@zc_) (@zb_)) (And.intro (@qE_) (@q3_))) (And.intro (And.intro (@qW_) (@q0_)) (And.intro (@Sx.tup2_0) (And.intro (@Sx.tup2_1) (@JO_))))
theorem Ws_ (w:World) (G:DkG) (S:DiskL) (dir:List UInt8) (hD:DkW w G S) (hB:DkB S):
  Rets Tryz.prog 79 #[vp G.bd 0,vs dir] w (XS w [] (fun v D=>GrI D 9 1 v (wb_ S dir).length ((wb_ S dir).map vs))):=by
 have hD':=hD
 obtain⟨X,hX,hP⟩:=hD
 refine Rets.enter Tryz.func79 rfl (rs:= [.tmp 4]) Tryz.results79 Tryz.ntmps79 ?_
 refine kf ?_
 first|with_reducible refine ks [] @JX_ ?_|refine kp @JX_ ?_
 have hN1:New w.heap.size ([]:za_):=trivial
 refine Ow.callC rfl rfl Tryz.call80 (fun w' hw'=>Rets.toX (j7_ w' G S dir (.slice none 0 0) [] (hD'.old hw' hN1) (SlV.nil w') (by simp) (fun s hs=>by cases hs))) (fun B2 v2 D2 hA2 hB2 hN2 hS2=> ?_)
 obtain⟨rfl,hS2⟩:=hS2
 rw[List.append_nil]
 unfold wb_
 rcases hS2 with⟨he,rfl⟩ | ⟨he,k,hk,rfl⟩
 ·rw[if_pos he]
  have e1:=jO_ he
  refine ko @JX_ ?_
  first|with_reducible refine ks [] (And.intro @JX_ @e1) ?_|refine kp (And.intro @JX_ @e1) ?_
  refine⟨_,(ke @JX_), ?_⟩
  exact⟨Ext.refl w [],Gr.nl.i fun _ h=>h⟩
 ·rw[if_neg (by rw[he];simp),hk]
  have hk3:=(zD_ hk).1
  have hdr:=hX _ _ (hP.dir k hk3)
  have e1: ((0:Int) !=0)=false:=rfl
  refine ko @JX_ ?_
  first|with_reducible refine ks [] (And.intro @JX_ (And.intro @e1 (@hdr))) ?_|refine kp (And.intro @JX_ (And.intro @e1 (@hdr))) ?_
  refine Ow.callC rfl rfl Tryz.call124 (fun w' hw'=>ahF_ (G.s k) w') (fun B3 v3 D3 hA3 hB3 hN3 hS3=> ?_)
  obtain⟨b1,rfl,rfl⟩:=hS3
  rw[List.nil_append]
  have hN3':=hN3.mono hB3
  refine ko @JX_ ?_
  refine Ow.callC rfl rfl Tryz.call123 (fun w' hw'=>ab9_ X G S k b1 w' hP (fun b o h=>(hw'.old b (Array.getElem?_eq_some_iff.1 (hX b o h)).1 (hN3'.not (Array.getElem?_eq_some_iff.1 (hX b o h)).1)).trans (hX b o h)) hk3 (hB k hk3).1 (hB k hk3).2 (hw'.has _ _ List.mem_cons_self)) (fun B4 v4 D4 hA4 hB4 hN4 hS4=> ?_)
  refine ko @JX_ ?_
  refine⟨_,(ke @JX_), ?_⟩
  refine⟨Ext.of_new (hN3'.app (hN4.mono hB4)), ?_⟩
  rw[List.length_map,List.map_map]
  exact hS4.mono fun p hp=>List.mem_cons_of_mem _ hp
end Go.Proofs
end
section
open Go Go.Proofs Go.Sx Go.StP
namespace Go.Proofs
set_option maxRecDepth 10000
set_option maxHeartbeats 400000
set_option linter.unusedSimpArgs false
def an8_ (S:DiskL) (k:Nat):List FiL:=(if S.off=true then [] else(S.dir k).seen).map fun p=>⟨Z6_ k,p.1,(S.files.getD p.2 jt_).data⟩
def ao2_ (S:DiskL):Nat→List FiL
 |0=> []
 |k+1=>ao2_ S k++an8_ S k
def avb_ (S:DiskL):List FiL:=ao2_ S 3
theorem abF_ {S:DiskL} {k:Nat} (hk:k<3):wb_ S (Z6_ k)=(if S.off=true then [] else(S.dir k).seen).map Prod.fst:=by
 unfold wb_ qZ_
 rw[xQ_ hk]
 cases S.off<;>simp
theorem abq_ (l:List (List UInt8)): (l.map strC).flatten=l.map vs:=by
 induction l with
 |nil=>rfl
 |cons x l ih=>simp[strC,ih]
structure FlG where
 k:Nat
 v:Value
 D1:za_
 DG:za_
structure FjG where
 j:Nat
 v:Value
 D1:za_
 DG:za_
set_option linter.defProp false
def avI_:=And.intro (And.intro (And.intro (@zc_) (And.intro (@zb_) (@qE_))) (And.intro (@q3_) (And.intro (@qW_) (@q0_)))) (And.intro (And.intro (@kD_) (And.intro (@kI_) (@Sx.tup2_0))) (And.intro (@Sx.tup2_1) (And.intro (@JO_) (@Zh_))))
end Go.Proofs
end
section
open Go Go.Proofs Go.Sx Go.StP
namespace Go.Proofs
set_option maxRecDepth 10000
set_option maxHeartbeats 400000
set_option linter.unusedSimpArgs false
theorem aup_ (b:Nat):qy_ Tryz.prog .eql 127 (vm b) (.map none)=some (.bool false):=by
 simp[qy_,eqX,qk_,qn_,Tryz.underlying127,vm]
theorem afC_ (b:Nat) (o:Obj) (m:List (List UInt8×Option Nat)) (w:World) (ho:w.heap[b]? =some o) (hm:w0_ vs jw_ o m):
  Rets Tryz.prog 83 #[vm b] w (XS w [] (fun v D=> ∃c o',v=vm c∧D= [(c,o')]∧w0_ vs jw_ o' m)):=by
 refine Rets.enterX Tryz.func83 rfl (rs:= [.tmp 2]) Tryz.results83 Tryz.ntmps83 (fun p hp=>by cases hp) (by simp[keys]) ?_
 refine kf ?_
 have e1:=aup_ b
 first|with_reducible refine ks [] @e1 ?_|refine kp @e1 ?_
 refine Ow.ifaceMap rfl Tryz.underlying127 rfl ?_
 refine Ow.cloneMap (encK:=vs) (encV:=jw_) rfl rfl (fun a w=>run_callFunc_extern Tryz.func127 (by kernel_rfl) (by kernel_rfl) (by kernel_rfl) (e:=Extern.MapsClone.clone) (by kernel_rfl) #[a] w) rfl (by rw[xs_ (by simp[keys])];exact ho) hm fun c o' hc hwc hm'=> ?_
 refine Ow.assertMap rfl Tryz.underlying127 rfl ?_
 refine ko @Nat.add_zero ?_
 refine⟨_,(ke @Nat.add_zero), ?_⟩
 exact⟨(Ext.refl w []).app hwc,c,o',rfl,rfl,hm'⟩
def u16C (x:UInt16):List Value:= [v16 x]
abbrev aq3_ (w:World) (v:Value) (l:List UInt16):Prop:=SlV 1 u16C 0 w v l
def PkS (w:World) (v:Value) (l:List UInt16):Prop:=aq3_ w v l∨(l= []∧ ∃a c,v= .slice (some a) 0 c)
theorem PkS.len {w:World} {v:Value} {l:List UInt16} (h:PkS w v l) (x:Bool×Nat):lenV (.sl x) v=some (vi l.length):=by
 rcases h with h| ⟨rfl,a,c,rfl⟩
 ·exact SlV.len h x
 ·rfl
theorem PkS.cell {w:World} {v:Value} {l:List UInt16} (h:PkS w v l):Value.oneCell' v=true∧v.cells= #[v]:=by
 rcases h with⟨b,off,c,arr,E,fz,hr,hc,⟨rfl,-,-⟩ | ⟨rfl,-,-⟩⟩ | ⟨rfl,a,c,rfl⟩
 ·exact⟨rfl,rfl⟩
 ·exact⟨rfl,rfl⟩
 ·exact⟨rfl,rfl⟩
theorem PkS.old {w w':World} {L:za_} {v:Value} {l:List UInt16} (h:PkS w v l) (hw:Hp w L w') (hb:l≠ []→ ∀b,slB v=some b→b∉keys L):PkS w' v l:=by
 by_cases hl:l= []
 ·subst hl
  rcases h with⟨b,off,c,arr,E,fz,hr,hc,⟨rfl,-,-⟩ | ⟨rfl,-,-⟩⟩ |h
  ·exact .inl (SlV.nil w')
  ·exact .inr ⟨rfl,_,_,rfl⟩
  ·exact .inr h
 ·exact .inl ((h.resolve_right fun e=>hl e.1).old hw fun b h1 _=>hb hl b h1)
def PkB (w:World) (X:za_) (l:List UInt16) (v:Value):Prop:=l≠ []→ ∀b,slB v=some b→b<w.heap.size∧b∉keys X
theorem ap8_ {w:World} {v:Value} {l:List UInt16} {b off:Nat} {arr:Array Value} {E:TypeId} {fz:Nat×Nat} (h:RowS 1 u16C 0 w v l b off arr E fz) {k:Nat} (hk:k<l.length) (n:Nat):
  zo_ (some (false,n)) (some (.cells arr E fz)) (off+k)=some (v16 (l.getD k 0)):=by
 have:=h.cell (j:=0) (n:=n) hk (by omega)
 rwa [Nat.mul_one,Nat.add_zero] at this
def vk_ (l:List UInt16) (n:Nat):Nat:=match l with
 | []=>0
 |x::_=>x.toNat% (n+1)
def kR_ (v:Value):Obj:= .cells #[v] 24 (0,0)
theorem agD_ (v:Value) (n:Nat):zo_ (some (false,n)) (some (kR_ v)) 0=some v:=(rfl)
theorem amc_ (v x:Value) (a:Bool) (hx:Value.oneCell' x=true∧x.cells= #[x]):zn_ (some (a,1)) (some (kR_ v)) 0 x=some (kR_ x):=
 zy_ [] [v] [x] [] a _ 24 rfl rfl hx.2 rfl (by simp[hx.1])
theorem aqU_ {m:Nat} {α:Type} {enc:α→List Value} {z:α} {w:World} {v:Value} {l:List α} (h:SlV m enc z w v l):Value.oneCell' v=true∧v.cells= #[v]:=by
 obtain⟨b,off,c,arr,E,fz,hr,hc,⟨rfl,-,-⟩ | ⟨rfl,-,-⟩⟩:=h
 ·exact⟨rfl,rfl⟩
 ·exact⟨rfl,rfl⟩
set_option linter.defProp false
def aio_:=And.intro (@zc_) (And.intro (@zb_) (@agD_))
theorem Wr_ (n:Nat) (b:Nat) (v:Value) (l:List UInt16) (w:World) (hn:n<4611686018427387904) (hv:PkS w v l) (hl:l.length<1000000) (hnb:l≠ []→slB v≠some b) (ho:w.heap[b]? =some (kR_ v)):
  Rets Tryz.prog 82 #[vi n,vp b 0] w (fun r D=> ∃o,D= [(b,o)]∧r=vi (vk_ l n:Nat)∧ ∃v',o=kR_ v'∧(l= []→v'=v)∧(l≠ []→jx_ (.sl (false,1)) v (some (some 1)) none=some v')):=by
 refine Rets.enterM Tryz.func82 rfl (rs:= [.tmp 3]) Tryz.results82 Tryz.ntmps82 ho ?_
 refine kf ?_
 have ln:=hv.len
 cases l with
 |nil=>
  first|with_reducible refine ks [] (And.intro @aio_ @ln) ?_|refine kp (And.intro @aio_ @ln) ?_
  refine⟨_,_,_,(ke @aio_),rfl,trivial, ?_⟩
  exact⟨rfl,v,rfl,fun _=>rfl,fun h=>absurd rfl h⟩
 |cons x l=>
  have hv:aq3_ w v (x::l):=hv.resolve_right fun e=>by cases e.1
  obtain⟨v1,h1,h2,-⟩:=hv.dropE (k:=1) (by simp) false
  have hc1:=aqU_ h2
  have st:=fun a=>amc_ v v1 a hc1
  obtain⟨rb,off,c,arr,E,fz,hr,hc,⟨q1,q2,q3⟩ | ⟨rfl,hb,-⟩⟩:=hv
  ·exact absurd q2 (by simp)
  have hne:rb≠b:=fun e=>hnb (by simp) (by rw[e];rfl)
  have ix:=hr.idx false 0 (by simp)
  have ld:=fun n=>ap8_ hr (k:=0) (by simp) n
  have e0: ((((x::l).length:Nat):Int)==0)=false:=beq_eq_false_iff_ne.2 (by simp;omega)
  have rd:zE_ w [(b,kR_ (vsl rb off (x::l).length c))] rb=some (.cells arr E fz):=by rw[xs_ (by simpa [keys] using hne)];exact hb
  rw[Nat.zero_mul,Nat.add_zero] at ix
  rw[show((1:Nat):Int)=1 from rfl] at h1
  simp only[Nat.add_zero] at ld
  first|with_reducible refine ks [] (And.intro @aio_ (And.intro @ln (And.intro @e0 (And.intro @ix (And.intro @ld (And.intro @rd (And.intro @h1 (@st)))))))) ?_|refine kp (And.intro @aio_ (And.intro @ln (And.intro @e0 (And.intro @ix (And.intro @ld (And.intro @rd (And.intro @h1 (@st)))))))) ?_
  refine⟨_,_,_,(ke @aio_),rfl,trivial, ?_⟩
  refine⟨?_,v1,rfl,fun h=>absurd h (by simp),fun _=>h1⟩
  show vi _=vi _
  congr 1
end Go.Proofs
end
section
open Go Go.Proofs Go.Sx Go.StP
namespace Go.Proofs
set_option maxRecDepth 10000
set_option maxHeartbeats 400000
set_option linter.unusedSimpArgs false
theorem DkP.stl1 {X L:za_} {G:DkG} {S:DiskL} (h:DkP X G S) {k:Nat} (hk:k<3) {l':NmL} (keep: ∀b o,Sx.look X b=some o→b≠G.t k→Sx.look L b=some o) (hs:NmM L G.fb (G.t k) l') (h1:SrtN l') (h3: ∀p,p∈l'→p.2<S.files.length):
  DkP L G (qD_ S k ⟨(S.dir k).seen,l',(S.dir k).pend⟩):=by
 obtain⟨osk,msk,hosk,hmsk,-⟩:=h.stl k hk
 have hns: ∀b o,Sx.look X b=some o→tyO o≠none→b≠G.t k:=by
  rintro b o hb ht rfl
  rw[hosk] at hb;cases hb;exact ht (jc_ hmsk)
 have K: ∀b o,Sx.look X b=some o→tyO o≠none→Sx.look L b=some o:=fun b o hb h1=>keep b o hb (hns b o hb h1)
 have es: ∀j,(qD_ S k ⟨(S.dir k).seen,l',(S.dir k).pend⟩).dir j=if j=k then⟨(S.dir k).seen,l',(S.dir k).pend⟩ else S.dir j:=fun _=>rfl
 have e2: ∀j,((qD_ S k ⟨(S.dir k).seen,l',(S.dir k).pend⟩).dir j).seen=(S.dir j).seen:=fun j=>by
  rw[es];by_cases e:j=k
  ·subst e;rw[if_pos rfl]
  ·rw[if_neg e]
 have e3: ∀j,((qD_ S k ⟨(S.dir k).seen,l',(S.dir k).pend⟩).dir j).pend=(S.dir j).pend:=fun j=>by
  rw[es];by_cases e:j=k
  ·subst e;rw[if_pos rfl]
  ·rw[if_neg e]
 refine⟨K _ _ h.disk (by simp[tyO,jX_]), ?_,fun j hj=>K _ _ (h.dir j hj) (by simp[tyO,ki_]),fun j hj=> ?_,fun j hj=> ?_,fun j hj=> ?_,fun n hn=>K _ _ (h.file n hn) (by simp[tyO,vC_]),h.len,h.nodf,h.nodm,h.nodd,h.nodb,h.nodp,wB_ h.ok _ (h.ok.seen k hk) h1 (h.ok.seenN k hk) h3 (h.ok.pendN k hk)⟩
 ·obtain⟨o,h1,h2⟩:=h.dirs
  exact⟨o,keep _ _ h1 (h.nodb k hk).2,h2⟩
 ·rw[e2]
  obtain⟨o,m,h1,h2,h3⟩:=h.seen j hj
  exact⟨o,m,keep _ _ h1 (QE_ h.nodm hj hk).2.2,h2,h3⟩
 ·rw[es]
  by_cases e:j=k
  ·subst e;rw[if_pos rfl];exact hs
  ·rw[if_neg e]
   obtain⟨o,m,h1,h2,h3⟩:=h.stl j hj
   exact⟨o,m,keep _ _ h1 ((QE_ h.nodm hj hk).2.1 e),h2,h3⟩
 ·rw[e3]
  obtain⟨vals,h1,h2,h3⟩:=h.pend j hj
  refine⟨vals,h1,h2.keep fun b o hb ho=> ?_,fun i hi=>(h3 i hi).keep fun b o ho hx=>K b o ho ?_⟩
  ·obtain⟨arr,ha⟩:=Ja_ h2 hb
   rw[ho] at ha;cases ha
   exact K _ _ ho (by simp[tyO])
  ·rcases hx with⟨s,rfl⟩ | ⟨a,rfl⟩<;>simp[tyO,v6_,WL_]
theorem q1_ (S:DiskL) (k:Nat) (d:DirL): (qD_ S k d).dir k=d:=by
 unfold qD_;simp
theorem jW_ (S:DiskL) {k j:Nat} (d:DirL) (h:j≠k): (qD_ S k d).dir j=S.dir j:=by
 unfold qD_;simp[h]
theorem WG_ (S:DiskL) (k:Nat) (d d':DirL):qD_ (qD_ S k d) k d'=qD_ S k d':=by
 unfold qD_
 simp only
 congr 1
 funext j
 by_cases e:j=k
 ·rw[if_pos e,if_pos e]
 ·rw[if_neg e,if_neg e,if_neg e]
def as1_ (d:DirL):Prop:= ∀i,i<d.pend.length→okC ((d.pend.take i).foldl jb_ d.stl) (d.pend.getD i wq_)
def x0_ (S:DiskL) (k i:Nat):NmL:=((S.dir k).pend.take i).foldl jb_ (S.dir k).stl
def ag6_ (q:DiskL×List UInt16) (k:Nat):DiskL×List UInt16:=
 (qD_ q.1 k ⟨x0_ q.1 k (vk_ q.2 (q.1.dir k).pend.length),x0_ q.1 k (vk_ q.2 (q.1.dir k).pend.length),[]⟩,q.2.drop 1)
def z8_ (q:DiskL×List UInt16):Nat→DiskL×List UInt16
 |0=>q
 |k+1=>ag6_ (z8_ q k) k
theorem aam_ (l:List UInt16) (n:Nat):vk_ l n≤n:=by
 unfold vk_
 split
 ·exact Nat.zero_le _
 ·have:=Nat.mod_lt ‹UInt16›.toNat (show 0<n+1 by omega)
  omega
theorem ahV_ {S:DiskL} {k i:Nat} (h:i< (S.dir k).pend.length):x0_ S k (i+1)=jb_ (x0_ S k i) ((S.dir k).pend.getD i wq_):=by
 unfold x0_
 rw[StP.take_snoc (z:=wq_) h,List.foldl_append];rfl
end Go.Proofs
end
section
open Go Go.Proofs Go.Sx Go.StP
namespace Go.Proofs
set_option maxRecDepth 10000
set_option maxHeartbeats 400000
set_option linter.unusedSimpArgs false
theorem DkP.away {X:za_} {G:DkG} {S:DiskL} (h:DkP X G S) {b:Nat} {v:Value} (hb:Sx.look X b=some (kR_ v)) (x:Obj):DkP (setB X b x) G S where
 disk:=qu_ hb h.disk (by simp[tyO,jX_,kR_])
 dirs:=by obtain⟨o,h1,h2⟩:=h.dirs;exact⟨o,qu_ hb h1 (by rw[jc_ h2];intro e;cases e),h2⟩
 dir k hk':=qu_ hb (h.dir k hk') (by simp[tyO,ki_,kR_])
 seen k hk':=by
  obtain⟨o,m,h1,h2,h3⟩:=h.seen k hk'
  exact⟨o,m,qu_ hb h1 (by rw[jc_ h2];intro e;cases e),h2,h3⟩
 stl k hk':=by
  obtain⟨o,m,h1,h2,h3⟩:=h.stl k hk'
  exact⟨o,m,qu_ hb h1 (by rw[jc_ h2];intro e;cases e),h2,h3⟩
 pend k hk':=by
  obtain⟨vals,h1,h2,h3⟩:=h.pend k hk'
  refine⟨vals,h1,h2.keep fun b o hb' ho=> ?_,fun i hi=>(h3 i hi).keep fun b o ho hx=>qu_ hb ho ?_⟩
  ·obtain⟨arr,ha⟩:=Ja_ h2 hb'
   rw[ho] at ha;cases ha
   exact qu_ hb ho (by simp[tyO,kR_])
  ·rcases hx with⟨s,rfl⟩ | ⟨a,rfl⟩<;>simp[tyO,kR_,v6_,WL_]
 file n hn:=qu_ hb (h.file n hn) (by simp[tyO,vC_,kR_])
 len:=h.len
 nodf:=h.nodf
 nodm:=h.nodm
 nodd:=h.nodd
 nodb:=h.nodb
 nodp:=h.nodp
 ok:=h.ok
theorem adf_ {w:World} {v v':Value} {q:List UInt16} (hv:PkS w v q) (h1:q= []→v'=v) (h2:q≠ []→jx_ (.sl (false,1)) v (some (some 1)) none=some v'):PkS w v' (q.drop 1)∧ ∀ {X:za_},PkB w X q v→PkB w X (q.drop 1) v':=by
 cases q with
 |nil=>rw[h1 rfl];exact⟨hv,fun h=>h⟩
 |cons x l=>
  have hv:aq3_ w v (x::l):=hv.resolve_right fun e=>by cases e.1
  obtain⟨v2,e1,e2,e3⟩:=hv.dropE (k:=1) (by simp) false
  have:=h2 (by simp)
  rw[show((1:Nat):Int)=1 from rfl,this] at e1
  cases e1
  exact⟨.inl e2,fun h _ b hb=>h (by simp) b (e3 b hb)⟩
theorem aql_ {w w1:World} {L:za_} {T:TypeId} {v:Value} {vals:List Value} (h:Gr L T 1 v vals.length vals) (hw:Hp w L w1) {n:Nat} (hn:n≤vals.length):
  ∃vc rb off arr E fz,jx_ (.sl (false,1)) v none (some (some (n:Int)))=some vc∧RowS 1 (fun v:Value=> [v]) undef w1 vc (vals.take n) rb off arr E fz∧(0<n→Sx.look L rb=some (.cells arr E fz)):=by
 have hfl:vals=(vals.map fun v:Value=> [v]).flatten:=by
  clear h hn
  induction vals with
  |nil=>rfl
  |cons x l ih=>simp[←ih]
 have hsl:SlV 1 (fun v:Value=> [v]) undef w1 v vals:=h.slV hw rfl hfl (fun _=>rfl)
 obtain⟨vc,h1,h2,h3⟩:=hsl.take hn false
 obtain⟨b,off,c,arr,E,fz,hr,hc,⟨q1,q2,q3⟩ | ⟨q1,hb,hs⟩⟩:=h2
 ·refine⟨vc,b,off,arr,E,fz,h1,hr,fun h0=> ?_⟩
  have:=congrArg List.length q2
  rw[List.length_take,List.length_nil,Nat.min_eq_left hn] at this
  omega
 ·refine⟨vc,b,off,arr,E,fz,h1,hr,fun h0=> ?_⟩
  have hk:=h.key (h3 b (by rw[q1];rfl))
  obtain⟨o,ho⟩:=Xr_ hk
  have:=hw.has _ _ (zB_ ho)
  rw[hb] at this
  rw[ho,this]
theorem aqb_ {w:World} {v:Value} {l:List Value} {b off:Nat} {arr:Array Value} {E:TypeId} {fz:Nat×Nat} (h:RowS 1 (fun v:Value=> [v]) undef w v l b off arr E fz) {k:Nat} (hk:k<l.length) (n:Nat):
  zo_ (some (false,n)) (some (.cells arr E fz)) (off+k)=some (l.getD k undef):=by
 have:=h.cell (j:=0) (n:=n) hk (by omega)
 rwa [Nat.mul_one,Nat.add_zero] at this
theorem ai2_ (a b y:Nat) (v:Value) (x:Bool):zn_ (some (x,1)) (some (ki_ a b v)) 0 (vm y)=some (ki_ y b v):=zy_ [] [vm a] [vm y] [vm b,v] x _ 130 rfl rfl rfl rfl rfl
theorem aeD_ (S:DiskL) (k:Nat):qD_ S k (S.dir k)=S:=by
 unfold qD_
 cases S
 simp only
 congr 1
 funext j
 by_cases e:j=k
 ·subst e;simp
 ·simp[e]
def jh_ (q:DiskL×List UInt16) (p:List UInt8×Nat):DiskL×List UInt16:=
 (j0_ q.1 p.2 ⟨(zl_ q.1 p.2).data.take ((zl_ q.1 p.2).stl+vk_ q.2 ((zl_ q.1 p.2).data.length - (zl_ q.1 p.2).stl)),((zl_ q.1 p.2).data.take ((zl_ q.1 p.2).stl+vk_ q.2 ((zl_ q.1 p.2).data.length - (zl_ q.1 p.2).stl))).length⟩,q.2.drop 1)
def qO_ (q:DiskL×List UInt16):Nat→DiskL×List UInt16
 |0=>q
 |k+1=>(q.1.dir k).seen.foldl jh_ (qO_ q k)
def QJ_ (S:DiskL):DiskL:={S with off:=false,fused:=false}
def qI_ (S:DiskL) (pl:List UInt16):DiskL:=(qO_ (QJ_ (z8_ (S,pl) 3).1,(z8_ (S,pl) 3).2) 3).1
theorem V5_ (q:DiskL×List UInt16) (l:NmL): (l.foldl jh_ q).1.dir=q.1.dir:=by
 induction l generalizing q with
 |nil=>rfl
 |cons p l ih=>rw[List.foldl_cons,ih];rfl
theorem kn_ (q:DiskL×List UInt16): ∀k,(qO_ q k).1.dir=q.1.dir
 |0=>rfl
 |k+1=>by
  show(List.foldl jh_ (qO_ q k) _).1.dir=_
  rw[V5_,kn_ q k]
theorem aiq_ (q:DiskL×List UInt16) (l:NmL): (l.foldl jh_ q).1.off=q.1.off:=by
 induction l generalizing q with
 |nil=>rfl
 |cons p l ih=>rw[List.foldl_cons,ih];rfl
theorem Q2_ (q:DiskL×List UInt16): ∀k,(qO_ q k).1.off=q.1.off
 |0=>rfl
 |k+1=>by
  show(List.foldl jh_ (qO_ q k) _).1.off=_
  rw[aiq_,Q2_ q k]
structure C3G where
 k:Nat
 L:za_
 v:Value
structure C4G where
 j:Nat
 L:za_
 v:Value
structure C1G where
 k:Nat
 G:DkG
 L:za_
 v:Value
structure C2G where
 j:Nat
 L:za_
theorem QY_ (q:DiskL×List UInt16): ∀ {k j:Nat},k≤j→(z8_ q k).1.dir j=q.1.dir j
 |0,_,_=>rfl
 |k+1,j,h=>by
  show(qD_ _ k _).dir j=_
  rw[jW_ _ _ (by omega)]
  exact QY_ q (by omega)
set_option linter.defProp false
def qF_:=And.intro (And.intro (And.intro (@zc_) (@zb_)) (And.intro (@qE_) (And.intro (@q3_) (@qW_)))) (And.intro (And.intro (@q0_) (@kD_)) (And.intro (@kI_) (And.intro (@agD_) (@aos_))))
theorem adS_ (X:za_) (G0:DkG) (S:DiskL) (v0:Value) (pl:List UInt16) (w:World) (hX: ∀p,p∈X→w.heap[p.1]? =some p.2) (hn: (keys X).Nodup) (hP0:DkP X G0 S) (hGl:ak8_ w) (hgx:0∉keys X) (hB:DkB (z8_ (S,pl) 3).1)
  (hv0:PkS w v0 pl) (hpx:PkB w X pl v0) (hpl:pl.length<1000000) (hpn: ∀k,k<3→as1_ (S.dir k)∧(S.dir k).pend.length<1000000):
  Rets Tryz.prog 22 #[vp G0.bd 0,v0] w (XS w X (fun _v D=> ∃G',G'.bd=G0.bd∧DkP D G' (qI_ S pl))):=by
 obtain⟨eg,fzg,hgl⟩:=hGl
 refine Rets.enterX Tryz.func22 rfl (rs:= []) Tryz.results22 Tryz.ntmps22 hX hn ?_
 refine kf ?_
 first|with_reducible refine ks [3] @qF_ ?_|refine kp @qF_ ?_
 refine Ow.box rfl rfl fun bk hbk hwk=> ?_
 simp only[z4_,z1_,z3_,hv0.cell.2]
 refine Ow.permL (M:=X++ [(bk,kR_ v0)]) (List.Perm.refl _) ?_
 refine ko @qF_ ?_
 first|with_reducible refine ks [3] @qF_ ?_|refine kp @qF_ ?_
 simp only[List.map_toArray,List.map_cons,List.map_nil,z4_,z1_,z3_]
 have rdg: ∀L,Ext w X L→zE_ w L 0=some (.cells #[vs zg_,vs Zv_,vs refD] eg fzg):=fun L hE=>hE.old hgl hgx
 have hE0:Ext w X (X++ [(bk,kR_ v0)]):=(Ext.refl w X).app hwk
 have hr0:=rdg _ hE0
 have hl0:Sx.look (X++ [(bk,kR_ v0)]) bk=some (kR_ v0):=xE_ hbk
 have hP1:DkP (X++ [(bk,kR_ v0)]) G0 S:=hP0.mono fun b o h=>zu_ h
 generalize X++ [(bk,kR_ v0)]=L0 at*
 first|with_reducible refine ks [5,8,12,16] (And.intro @qF_ (And.intro @hr0 (@Zn_))) ?_|refine kp (And.intro @qF_ (And.intro @hr0 (@Zn_))) ?_
 refine Cw.loopG (G:=C1G) [20,21,6,22,23,24,25,26,27,7,28,29,30,31,32,33,34,35,36,37,38,39,40,41,42,43,44,9,45,46,47,48,49,50,51,52,53,54,55,56,57,58,59,60,61,62,63,19] (fun g=> [(19,vi g.k)]) (fun g=>g.L) (fun g=>g.k≤3∧DkP g.L g.G (z8_ (S,pl) g.k).1∧g.G.bd=G0.bd∧Sx.look g.L bk=some (kR_ g.v)∧PkS w g.v (z8_ (S,pl) g.k).2∧PkB w X (z8_ (S,pl) g.k).2 g.v∧Ext w X g.L∧(z8_ (S,pl) g.k).2.length<1000000) (fun g=>3 - g.k) ⟨0,G0,L0,v0⟩ rfl rfl ?_ ?_
 ·exact⟨Nat.zero_le _,hP1,rfl,hl0,hv0,hpx,hE0,hpl⟩
 intro g j hg
 refine kv ?_
 clear hr0 hl0 hP1 hE0
 obtain⟨k,G,L,v⟩:=g
 simp only at hg ⊢
 obtain⟨hk,hP,hbd,hlk,hv,hvb,hE,hpl1⟩:=hg
 rw[←hbd]
 by_cases hlt:k<3
 ·have d1:decide ((k:Int)<3)=true:=decide_eq_true (by omega)
  have ixk:=Kr_ hlt
  obtain⟨om,hom,hM⟩:=hP.dirs
  have hrd:=zh_ (w0:=w) hP.disk
  have hrr:=zh_ (w0:=w) (hP.dir k hlt)
  have hpd:jw_ (some (G.d k))=vp (G.d k) 0:=rfl
  have hdk:=QY_ (S,pl) (Nat.le_refl k)
  simp only at hdk
  obtain⟨vals,hvl,hGr,hF⟩:=hP.pend k hlt
  rw[hdk] at hvl hF
  have hpn1:=(hpn k hlt).2
  have lnp:=hGr.len (false,1)
  first|with_reducible refine ks [] (And.intro @qF_ (And.intro @d1 (And.intro @ixk (@hrd)))) ?_|refine kp (And.intro @qF_ (And.intro @d1 (And.intro @ixk (@hrd)))) ?_
  refine Ow.mapGetG (encK:=vs) (encV:=jw_) (k:=Z6_ k) (z:=none) rfl rfl Tryz.underlying121 xW_ zrPd rfl rfl (zh_ hom) hM ?_
  rw[W6_,xQ_ hlt]
  show Ow _ _ _ _ _ _ _ _
  refine ko (And.intro @qF_ @hpd) ?_
  first|with_reducible refine ks [] @qF_ ?_|refine kp @qF_ ?_
  refine Cw.regionS [G.d k] [0,1,2,4,5,6,7,13,3,8,9,10,11,12] [] (by kernel_rfl) (by kernel_rfl) (by kernel_rfl) ?_
  simp only[zp_, ↓zi_, ↓ze_, ↓zA_, ↓zz_,zf_]
  refine kq (And.intro @qF_ (And.intro @hrr (@lnp))) ?_
  refine Ow.soft rfl rfl rfl ?_
  refine Ow.callFnXC (b:=vi vals.length) (ars:= #[vi vals.length,vp bk 0]) rfl (X:=L) (Y:= []) (List.append_nil _).symm rfl rfl rfl rfl Tryz.call82 (fun w' hw' hX' hn'=>Rets.chunk hX' hn' (zj_ hlk) (Wr_ vals.length bk v (z8_ (S,pl) k).2 w' (by omega) (hv.old hw' fun hq b hb=>hE.not (hvb hq b hb).1 (hvb hq b hb).2) hpl1 (fun hq e=>by have:=(hvb hq bk e).1;omega) (hX' _ (zB_ hlk)))) (fun r D hC hS=> ?_)
  obtain⟨o,rfl,rfl,v',rfl,hv1,hv2⟩:=hS
  rw[List.append_nil]
  obtain⟨hvn,hvn2⟩:=adf_ hv hv1 hv2
  have hP1:=hP.away hlk (kR_ v')
  have hE1:=hE.came0 hC
  have hk1: ∀b o,Sx.look L b=some o→tyO o≠some 24→Sx.look (setB L bk (kR_ v')) b=some o:=fun b o hb ht=>qu_ hlk hb ht
  have hlk1:Sx.look (setB L bk (kR_ v')) bk=some (kR_ v'):=qe_ hlk
  have hrr1:=zh_ (w0:=w) (hP1.dir k hlt)
  have hGr1:Gr (setB L bk (kR_ v')) 137 1 (G.p k) vals.length vals:=hGr.keep fun b o hb ho=>by
   obtain⟨arr,ha⟩:=Ja_ hGr hb
   rw[ho] at ha;cases ha
   exact hk1 _ _ ho (by simp[tyO])
  have hF1: ∀i,i<vals.length→FnP (setB L bk (kR_ v')) G.fb (vals.getD i undef) ((S.dir k).pend.getD i wq_):=fun i hi=>(hF i hi).keep fun b o ho hx=>hk1 _ _ ho (by rcases hx with⟨s,rfl⟩ | ⟨a,rfl⟩<;>simp[tyO,v6_,WL_])
  have hple:=aam_ (z8_ (S,pl) k).2 vals.length
  have hcr:z8_ (S,pl) (k+1)=ag6_ (z8_ (S,pl) k) k:=rfl
  unfold ag6_ at hcr
  rw[hdk,←hvl] at hcr
  generalize vk_ (z8_ (S,pl) k).2 vals.length=n at*
  have hbkd:bk≠G.d k:=fun e=>by
   have hdd:=hP1.dir k hlt
   rw[←e,hlk1] at hdd
   simp[ki_,kR_] at hdd
  generalize setB L bk (kR_ v')=L1 at*
  refine Ow.world fun w1 hw1=> ?_
  obtain⟨vc,rb,off,arr,E,fz,hsl,hrw,hlr⟩:=aql_ hGr1 hw1 hple
  clear hw1
  have lnc:=hrw.len (false,1)
  rw[List.length_take,Nat.min_eq_left hple] at lnc
  with_reducible refine Ow.nil ?_
  refine⟨fun b hb=>by rw[List.mem_singleton] at hb;subst hb;rw[hrr,hrr1], ?_⟩
  refine kq (And.intro @qF_ (And.intro @hsl (@lnc))) ?_
  have hself:qD_ (z8_ (S,pl) k).1 k ⟨((z8_ (S,pl) k).1.dir k).seen,x0_ (z8_ (S,pl) k).1 k 0,((z8_ (S,pl) k).1.dir k).pend⟩=(z8_ (S,pl) k).1:=aeD_ _ _
  have hfe: ∀j,x0_ (z8_ (S,pl) k).1 k j=x0_ S k j:=fun j=>by unfold x0_;rw[hdk]
  have hq2: (z8_ (S,pl) (k+1)).2=(z8_ (S,pl) k).2.drop 1:=rfl
  generalize z8_ (S,pl) k=q at*
  obtain⟨Sk,pk⟩:=q
  simp only at*
  refine Cw.loopG (G:=C2G) [42,43,44,9,45,46,47,48,49,50,51,41] (fun g=> [(41,vi g.j)]) (fun g=>g.L) (fun g=>g.j≤n∧DkP g.L G (qD_ Sk k ⟨(Sk.dir k).seen,x0_ Sk k g.j,(Sk.dir k).pend⟩)∧Sx.look g.L bk=some (kR_ v')∧Ext w X g.L∧(∀b o,Sx.look L1 b=some o→b≠G.t k→Sx.look g.L b=some o)) (fun g=>n - g.j) ⟨0,L1⟩ rfl rfl ?_ ?_
  ·exact⟨Nat.zero_le _,by rw[hself];exact hP1,hlk1,hE1,fun _ _ h _=>h⟩
  intro g j hg
  refine kv ?_
  obtain⟨j,L2⟩:=g
  simp only at hg ⊢
  obtain⟨hj,hP2,hlk2,hE2,hkp⟩:=hg
  by_cases hjt:j<n
  ·have d2:decide ((j:Int)< (n:Int))=true:=decide_eq_true (by omega)
   have hjm:j< (vals.take n).length:=by rw[List.length_take,Nat.min_eq_left hple];exact hjt
   have ix3:=hrw.idx false j hjm
   rw[Nat.mul_one] at ix3
   have ld3:=fun n=>aqb_ hrw hjm n
   have hvj: (vals.take n).getD j undef=vals.getD j undef:=by
    rw[List.getD_eq_getElem?_getD,List.getD_eq_getElem?_getD,List.getElem?_take_of_lt hjt]
   rw[hvj] at ld3
   have hpj:j< (S.dir k).pend.length:=by omega
   have htm: ∀ {b:Nat} {o:Obj},Sx.look L1 b=some o→tyO o≠none→b≠G.t k:=by
    intro b o hb ht e
    obtain⟨ot,mt,hot,hmt,-⟩:=hP1.stl k hlt
    rw[e,hot] at hb;cases hb
    exact ht (jc_ hmt)
   have hFj:FnP L2 G.fb (vals.getD j undef) ((S.dir k).pend.getD j wq_):=(hF1 j (by omega)).keep fun b o ho hx=>hkp b o ho (htm ho (by rcases hx with⟨s,rfl⟩ | ⟨a,rfl⟩<;>simp[tyO,v6_,WL_]))
   have hN2:=hP2.stl k hlt
   have hs2:=hP2.ok.stl k hlt
   have hl2:=hP2.ok.stlN k hlt
   have hp2:=hP2.ok.pendN k hlt
   rw[q1_] at hN2 hs2 hl2 hp2
   have hok:okC (x0_ Sk k j) ((S.dir k).pend.getD j wq_):=by rw[hfe];exact(hpn k hlt).1 j hpj
   obtain⟨fk,cap,hvf,hfk,hcall⟩:=XB_ hFj hN2 hs2 hok
   rw[hvf] at ld3
   have hlr2:=hkp rb _ (hlr (by omega)) (htm (hlr (by omega)) (by simp[tyO]))
   have rd3:=zh_ (w0:=w) hlr2
   have hrr2:=zh_ (w0:=w) (hP2.dir k hlt)
   have hbk2:=htm hlk1 (by simp[tyO,kR_])
   first|with_reducible refine ks [] (And.intro @qF_ (And.intro @d2 (And.intro @ix3 (And.intro @ld3 (And.intro @rd3 (@hrr2)))))) ?_|refine kp (And.intro @qF_ (And.intro @d2 (And.intro @ix3 (And.intro @ld3 (And.intro @rd3 (@hrr2)))))) ?_
   refine Ow.callFnXC (b:=vm (G.t k)) (cap:=cap) (ars:= #[vm (G.t k)]++cap) rfl (X:=L2) (Y:= []) (List.append_nil _).symm rfl rfl rfl rfl hfk (fun w' hw' hX' hn'=>hcall w' hX' hn') (fun r D hC hS=> ?_)
   rw[List.append_nil]
   obtain⟨rfl,o',hO,hN3⟩:=hS
   have hE3:=hE2.came0 hC
   have hP3:=hP2.stl1 hlt (l':=jb_ (x0_ Sk k j) ((S.dir k).pend.getD j wq_)) (fun b o hb hne=>(hO.rest b hne).trans hb) hN3 (aaw_ _ hs2) (aak_ hl2 hok fun h0=>hp2 _ (by show _∈ (Sk.dir k).pend;rw[hdk,List.getD_eq_getElem?_getD,List.getElem?_eq_getElem hpj];exact List.getElem_mem _) h0)
   rw[q1_,WG_] at hP3
   have hnx:x0_ Sk k (j+1)=jb_ (x0_ Sk k j) ((S.dir k).pend.getD j wq_):=by rw[ahV_ (by rw[hdk];exact hpj),hdk]
   refine ko @qF_ ?_
   first|with_reducible refine ks [] @qF_ ?_|refine kp @qF_ ?_
   exact Again.mk ⟨j+1,D⟩ (by show n - (j+1)<n - j;omega) ⟨hjt,by rw[hnx];exact hP3,(hO.rest bk hbk2).trans hlk2,hE3,fun b o hb hne=>(hO.rest b hne).trans (hkp b o hb hne)⟩ rfl rfl
  ·obtain rfl:j=n:=by omega
   have d2:decide ((j:Int)< (j:Int))=false:=decide_eq_false (by omega)
   have hN2:=hP2.stl k hlt
   have hs2:=hP2.ok.stl k hlt
   have hl2:=hP2.ok.stlN k hlt
   rw[q1_] at hN2 hs2 hl2
   obtain⟨ot,mt,hot,hmt,hnp⟩:=hN2
   have hdl2:=hP2.dir k hlt
   have hrr2:=zh_ (w0:=w) hdl2
   first|with_reducible refine ks [13] (And.intro @qF_ (And.intro @d2 (@hrr2))) ?_|refine kp (And.intro @qF_ (And.intro @d2 (@hrr2))) ?_
   refine Ow.callC rfl rfl Tryz.call83 (fun w' hw'=>afC_ (G.t k) ot mt w' (hw'.has _ _ (zB_ hot)) hmt) (fun B4 v4 D4 hA4 hB4 hN4 hS4=> ?_)
   obtain⟨c,o4,rfl,rfl,hm4⟩:=hS4
   have hbc:jS_ L2 c:=z2_ fun b hb=>by
    have h1:=zk_ hA4 hb
    have h2:=hN4.le c (by simp[keys])
    omega
   have hcn:c∉keys L2:=fun hm=>by have:=zk_ hbc hm;omega
   have hl3:Sx.look (L2++ [(c,o4)]) (G.d k)=some (ki_ (G.s k) (G.t k) (G.p k)):=zu_ hdl2
   have hlc3:Sx.look (L2++ [(c,o4)]) c=some o4:=xE_ hbc
   have hkp3: ∀b o,Sx.look L2 b=some o→Sx.look (L2++ [(c,o4)]) b=some o:=fun b o h=>zu_ h
   have hE3:=hE2.app (o:=o4) (b:=c) (by have:=hN4.le c (by simp[keys]);omega)
   generalize L2++ [(c,o4)]=L3 at*
   have hr3:=zh_ (w0:=w) hl3
   have st0:=fun x=>ai2_ (G.s k) (G.t k) c (G.p k) x
   have hcd:c≠G.d k:=fun e=>hcn (by rw[e];exact zj_ hdl2)
   have hl4:Sx.look (setB L3 (G.d k) (ki_ c (G.t k) (G.p k))) (G.d k)=some (ki_ c (G.t k) (G.p k)):=qe_ hl3
   have hlc4:Sx.look (setB L3 (G.d k) (ki_ c (G.t k) (G.p k))) c=some o4:=by rw[zm_ (Ne.symm hcd)];exact hlc3
   have hkp4: ∀b o,Sx.look L2 b=some o→b≠G.d k→Sx.look (setB L3 (G.d k) (ki_ c (G.t k) (G.p k))) b=some o:=fun b o h hne=>by rw[zm_ (Ne.symm hne)];exact hkp3 b o h
   have hE4:=hE3.setB (b:=G.d k) (o:=ki_ c (G.t k) (G.p k))
   refine ko (And.intro @qF_ (And.intro @hl3 (And.intro @st0 (@QW_)))) ?_
   generalize setB L3 (G.d k) (ki_ c (G.t k) (G.p k))=L4 at*
   have hr4:=zh_ (w0:=w) hl4
   have st2:=fun x=>Jn_ c (G.t k) (G.p k) (.slice none 0 0) x ⟨rfl,rfl⟩
   first|with_reducible refine ks [] (And.intro @qF_ (And.intro @hl4 (And.intro @hr4 (And.intro @st2 (@QW_))))) ?_|refine kp (And.intro @qF_ (And.intro @hl4 (And.intro @hr4 (And.intro @st2 (@QW_))))) ?_
   have hkp5: ∀b o,Sx.look L2 b=some o→b≠G.t k→b≠G.d k→Sx.look (setB L4 (G.d k) (ki_ c (G.t k) (.slice none 0 0))) b=some o:=fun b o h _ hne=>by rw[zm_ (Ne.symm hne)];exact hkp4 b o h hne
   have hmd: ∀ {b:Nat} {o:Obj} {m:List (List UInt8×Option Nat)},Sx.look L2 b=some o→w0_ vs jw_ o m→b≠G.d k:=by
    intro b o m hb hm e
    rw[e,hdl2] at hb;cases hb
    obtain⟨es,cl,h,-⟩:=hm;cases h
   have hP5:=hP2.calm hlt (s':=c) ⟨x0_ Sk k j,x0_ Sk k j,[]⟩ rfl hkp5 ⟨o4,mt,by rw[zm_ (Ne.symm hcd)];exact hlc4,hm4,hnp⟩ ⟨ot,mt,by rw[zm_ (Ne.symm (hmd hot hmt))];exact hkp4 _ _ hot (hmd hot hmt),hmt,hnp⟩ (qe_ hl4) (.inr hcn) hs2 hs2 hl2 hl2
   rw[WG_] at hP5
   have hbkd2:bk≠G.d k:=fun e=>hbkd e
   exact Again.mk ⟨k+1,am1_ G k c,setB L4 (G.d k) (ki_ c (G.t k) (.slice none 0 0)),v'⟩ (by show 3 - (k+1)<3 - k;omega) ⟨hlt,by rw[hcr];exact hP5,rfl,by rw[zm_ (Ne.symm hbkd)];exact hkp4 _ _ hlk2 hbkd,by rw[hcr];exact hvn,by rw[hcr];exact hvn2 hvb,hE4.setB,by rw[hcr];show(pk.drop 1).length<1000000;rw[List.length_drop];omega⟩ rfl rfl
 ·obtain rfl:k=3:=by omega
  have d1:decide (((3:Nat):Int)<3)=false:=rfl
  unfold qI_
  generalize z8_ (S,pl) 3=q at*
  obtain⟨S3,p3⟩:=q
  simp only at*
  have hok1:DkOk {S3 with off:=false}:=⟨hP.ok.seen,hP.ok.stl,hP.ok.seenN,hP.ok.stlN,hP.ok.pendN,hP.ok.file,hP.ok.fuse,hP.ok.max⟩
  have hP1:=hP.setDisk {S3 with off:=false} rfl rfl hok1
  have hok2:DkOk (QJ_ S3):=⟨hP.ok.seen,hP.ok.stl,hP.ok.seenN,hP.ok.stlN,hP.ok.pendN,hP.ok.file,⟨hP.ok.fuse.1,hP.ok.fuse.2.1,fun h=>by cases h⟩,hP.ok.max⟩
  have hP2:=hP1.setDisk (QJ_ S3) rfl rfl hok2
  have hr0:=zh_ (w0:=w) hP.disk
  have hl1:=hP.disk
  have hl2:=hP1.disk
  have st4:=fun x=>Wu_ G.bm S3 false x
  have st3:=fun x=>Wj_ G.bm {S3 with off:=false} false x
  have hrg:=rdg
  have hbkb:bk≠G.bd:=fun e=>by
   have hdd:=hP.disk
   rw[←e,hlk] at hdd
   simp[jX_,kR_] at hdd
  have hlk2:Sx.look (setB (setB L G.bd (jX_ G.bm {S3 with off:=false})) G.bd (jX_ G.bm (QJ_ S3))) bk=some (kR_ v):=by
   rw[zm_ (Ne.symm hbkb),zm_ (Ne.symm hbkb)];exact hlk
  have hE2:=(hE.setB (b:=G.bd) (o:=jX_ G.bm {S3 with off:=false})).setB (b:=G.bd) (o:=jX_ G.bm (QJ_ S3))
  have hr2:=rdg _ hE2
  have hr5:zE_ w (setB (setB L G.bd (jX_ G.bm {S3 with off:=false})) G.bd (jX_ G.bm {S3 with off:=false,fused:=false})) 0=_:=hr2
  have hlk5:Sx.look (setB (setB L G.bd (jX_ G.bm {S3 with off:=false})) G.bd (jX_ G.bm {S3 with off:=false,fused:=false})) bk=some (kR_ v):=hlk2
  have hE5:Ext w X (setB (setB L G.bd (jX_ G.bm {S3 with off:=false})) G.bd (jX_ G.bm {S3 with off:=false,fused:=false})):=hE2
  have hP5:DkP (setB (setB L G.bd (jX_ G.bm {S3 with off:=false})) G.bd (jX_ G.bm {S3 with off:=false,fused:=false})) G (QJ_ S3):=hP2
  clear hr2 hlk2 hE2 hP2
  first|with_reducible refine ks [17] (And.intro @qF_ (And.intro @d1 (And.intro @hl1 (And.intro @hl2 (And.intro @st4 (And.intro @st3 (And.intro @QW_ (And.intro @hr5 (@Zn_))))))))) ?_|refine kp (And.intro @qF_ (And.intro @d1 (And.intro @hl1 (And.intro @hl2 (And.intro @st4 (And.intro @st3 (And.intro @QW_ (And.intro @hr5 (@Zn_))))))))) ?_
  generalize hL5:setB (setB L G.bd (jX_ G.bm {S3 with off:=false})) G.bd (jX_ G.bm {S3 with off:=false,fused:=false})=L5 at*
  have hdw: (QJ_ S3).dir=S3.dir:=rfl
  have how: (QJ_ S3).off=false:=rfl
  generalize QJ_ S3=S5 at*
  refine Cw.loopG (G:=C3G) [72,73,11,74,75,76,77,78,79,80,81,13,82,83,84,85,86,87,88,89,90,91,92,14,93,94,95,96,97,98,99,100,101,102,103,104,105,106,107,108,109,110,111,112,113,114,115,116,117,118,119,120,121,122,123,124,125,126,127,71] (fun g=> [(71,vi g.k)]) (fun g=>g.L) (fun g=>g.k≤3∧DkP g.L G (qO_ (S5,p3) g.k).1∧Sx.look g.L bk=some (kR_ g.v)∧PkS w g.v (qO_ (S5,p3) g.k).2∧PkB w X (qO_ (S5,p3) g.k).2 g.v∧Ext w X g.L∧(qO_ (S5,p3) g.k).2.length<1000000) (fun g=>3 - g.k) ⟨0,L5,v⟩ rfl rfl ?_ ?_
  ·exact⟨Nat.zero_le _,hP5,hlk5,hv,hvb,hE5,hpl1⟩
  intro g j hg
  refine kv ?_
  obtain⟨k,L6,v6⟩:=g
  simp only at hg ⊢
  obtain⟨hk6,hP6,hlk6,hv6,hvb6,hE6,hpl6⟩:=hg
  by_cases hlt6:k<3
  ·have d6:decide ((k:Int)<3)=true:=decide_eq_true (by omega)
   have ixk:=Kr_ hlt6
   have hd6:=kn_ (S5,p3) k
   have ho6:=Q2_ (S5,p3) k
   simp only at hd6 ho6
   have hB6:DkB (qO_ (S5,p3) k).1:=by
    intro i hi
    rw[hd6,hdw];exact hB i hi
   have hcm:qO_ (S5,p3) (k+1)=((S5.dir k).seen).foldl jh_ (qO_ (S5,p3) k):=rfl
   first|with_reducible refine ks [26] (And.intro @qF_ (And.intro @d6 (@ixk))) ?_|refine kp (And.intro @qF_ (And.intro @d6 (@ixk))) ?_
   refine Ow.callC rfl rfl Tryz.call79 (fun w' hw'=>Ws_ w' G (qO_ (S5,p3) k).1 (Z6_ k) (hP6.world hw') hB6) (fun B7 v7 D7 hA7 hB7 hN7 hS7=> ?_)
   rw[abF_ hlt6,hd6,ho6,how,if_neg (by simp),←abq_] at hS7
   obtain⟨sn,hsn⟩: ∃sn,(S5.dir k).seen=sn:=⟨_,rfl⟩
   rw[hsn] at hcm hS7
   have ln7:=afE_ hS7
   rw[List.length_map] at ln7
   refine ko (And.intro @qF_ @ln7) ?_
   refine Cw.world fun w1 hw1=> ?_
   obtain⟨rb,off,arr,E,fz,hr7,hlk7⟩:=hS7.rowL (z:= []) (by rw[List.length_map]) ((hw1.perm (M:=D7++L6) List.perm_append_comm).part) agL_
   clear hw1
   have hq6:=hP6.ok.seen k hlt6
   have hsl6:=(hB6 k hlt6).1
   rw[hd6,hsn] at hq6 hsl6
   have hrn: ∀c,c∈keys L6→0<sn.length→rb≠c:=fun c hc h0 e=>by
    have h1:=zk_ hA7 hc
    have h2:=hN7.le rb (zj_ (hlk7 (by rw[List.length_map];exact h0)))
    omega
   have hlr7:0<sn.length→Sx.look (L6++D7) rb=some (.cells arr E fz):=fun h0=>by
    rw[qf_ (fun hm=>hrn rb hm h0 rfl)]
    exact hlk7 (by rw[List.length_map];exact h0)
   have hP7:DkP (L6++D7) G (qO_ (S5,p3) k).1:=hP6.mono fun b o h=>zu_ h
   have hlk8:Sx.look (L6++D7) bk=some (kR_ v6):=zu_ hlk6
   have hE7:Ext w X (L6++D7):=⟨fun c hc=>by
    rw[zv_] at hc
    rcases List.mem_append.1 hc with h|h
    ·exact hE6.new c h
    ·exact .inr (Nat.le_trans hB7 (hN7.le c h)),fun c hc=>by rw[zv_];exact List.mem_append_left _ (hE6.all c hc)⟩
   have hfk: ∀n,n< (qO_ (S5,p3) k).1.files.length→G.fb.getD n 0∈keys L6:=fun n hn=>zj_ (hP6.file n hn)
   have hbk6:=zj_ hlk6
   clear hlk7 hS7
   generalize L6++D7=L7 at*
   refine Cw.loopG (G:=C4G) [79,80,81,13,82,83,84,85,86,87,88,89,90,91,92,14,93,94,95,96,97,98,99,100,101,102,103,104,105,106,107,108,109,110,111,112,113,114,115,116,117,118,119,120,121,122,123,124,125,126,78] (fun g=> [(78,vi g.j)]) (fun g=>g.L) (fun g=>g.j≤sn.length∧DkP g.L G ((sn.take g.j).foldl jh_ (qO_ (S5,p3) k)).1∧Sx.look g.L bk=some (kR_ g.v)∧PkS w g.v ((sn.take g.j).foldl jh_ (qO_ (S5,p3) k)).2∧PkB w X ((sn.take g.j).foldl jh_ (qO_ (S5,p3) k)).2 g.v∧Ext w X g.L∧((sn.take g.j).foldl jh_ (qO_ (S5,p3) k)).2.length<1000000∧(0<sn.length→Sx.look g.L rb=some (.cells arr E fz))) (fun g=>sn.length - g.j) ⟨0,L7,v6⟩ rfl rfl ?_ ?_
   ·exact⟨Nat.zero_le _,hP7,hlk8,hv6,hvb6,hE7,hpl6,hlr7⟩
   intro g j hg
   refine kv ?_
   obtain⟨j,L8,v8⟩:=g
   simp only at hg ⊢
   obtain⟨hj,hP8,hlk9,hv8,hvb8,hE8,hpl8,hlr8⟩:=hg
   by_cases hjt:j<sn.length
   ·have d2:decide ((j:Int)< (sn.length:Int))=true:=decide_eq_true (by omega)
    have hjm:j< (sn.map Prod.fst).length:=by rw[List.length_map];exact hjt
    have ix3:=hr7.idx false j hjm
    rw[Nat.mul_one] at ix3
    have ld3:=fun n=>adZ_ hr7 hjm n
    have hlrb:=hlr8 (by omega)
    have rd3:=zh_ (w0:=w) hlrb
    have hp:sn[j]'hjt∈sn:=List.getElem_mem _
    have hse: (sn.map Prod.fst).getD j []=(sn[j]'hjt).1:=by simp[List.getD_eq_getElem?_getD,hjt]
    have hts:sn.take (j+1)=sn.take j++ [sn[j]'hjt]:=by
     rw[List.take_add_one];simp[hjt]
    rw[hse] at ld3
    generalize sn[j]'hjt=p at*
    obtain⟨x,n⟩:=p
    have hd8: ((sn.take j).foldl jh_ (qO_ (S5,p3) k)).1.dir=S5.dir:=by rw[V5_,kn_]
    have hfl8: ((sn.take (j+1)).foldl jh_ (qO_ (S5,p3) k))=jh_ ((sn.take j).foldl jh_ (qO_ (S5,p3) k)) (x,n):=by rw[hts,List.foldl_append];rfl
    generalize (sn.take j).foldl jh_ (qO_ (S5,p3) k)=q8 at*
    obtain⟨S8,p8⟩:=q8
    simp only at hP8 hv8 hpl8 hd8 ld3
    have hsk: (S8.dir k).seen=sn:=by rw[hd8];exact hsn
    obtain⟨om,hom,hM⟩:=hP8.dirs
    obtain⟨os,ms,hos,hms,hnp⟩:=hP8.seen k hlt6
    rw[hsk] at hnp
    have hfn:zx_ sn x=some n:=QV_ hq6.nodup hp
    have hnl:n<S8.files.length:=hP8.ok.seenN k hlt6 _ (by rw[hsk];exact hp)
    have rdd:=zh_ (w0:=w) hP8.disk
    have rdr:=zh_ (w0:=w) (hP8.dir k hlt6)
    have hlf:=hP8.file n hnl
    have rdf:=zh_ (w0:=w) hlf
    have hpd:jw_ (some (G.d k))=vp (G.d k) 0:=rfl
    have hpf:jw_ (some (G.fb.getD n 0))=vp (G.fb.getD n 0) 0:=rfl
    first|with_reducible refine ks [] (And.intro @qF_ (And.intro @d2 (And.intro @ix3 (And.intro @ld3 (And.intro @rd3 (@rdd)))))) ?_|refine kp (And.intro @qF_ (And.intro @d2 (And.intro @ix3 (And.intro @ld3 (And.intro @rd3 (@rdd)))))) ?_
    refine kq (And.intro @qF_ @rdd) ?_
    refine Ow.mapGetG (encK:=vs) (encV:=jw_) (k:=Z6_ k) (z:=none) rfl rfl Tryz.underlying121 xW_ zrPd rfl rfl (zh_ hom) hM ?_
    rw[W6_,xQ_ hlt6]
    show Ow _ _ _ _ _ _ _ _
    refine ko (And.intro @qF_ (And.intro @hpd (@rdr))) ?_
    refine Ow.mapGetG (encK:=vs) (encV:=jw_) (k:=x) (z:=none) rfl rfl Tryz.underlying127 xW_ zrPf rfl rfl (zh_ hos) hms ?_
    rw[hnp.get hq6.nodup,hfn]
    show Ow _ _ _ _ _ _ _ _
    refine ko (And.intro @qF_ @hpf) ?_
    have hfo:=Jp_ hP8.ok hnl
    have hrf2:zE_ w L8 (G.fb.getD n 0)=some (vC_ (zl_ S8 n)):=rdf
    have hfd:S8.files.getD n jt_=zl_ S8 n:=rfl
    rw[hfd] at hlf
    clear rdf
    have hcf:jh_ (S8,p8) (x,n)=(j0_ S8 n ⟨(zl_ S8 n).data.take ((zl_ S8 n).stl+vk_ p8 ((zl_ S8 n).data.length - (zl_ S8 n).stl)),((zl_ S8 n).data.take ((zl_ S8 n).stl+vk_ p8 ((zl_ S8 n).data.length - (zl_ S8 n).stl))).length⟩,p8.drop 1):=rfl
    rw[hcf] at hfl8
    have hple8:=aam_ p8 ((zl_ S8 n).data.length - (zl_ S8 n).stl)
    generalize zl_ S8 n=f at*
    have hsub: (f.data.length:Int) - (f.stl:Int)=((f.data.length - f.stl:Nat):Int):=by omega
    refine Cw.regionG [G.fb.getD n 0] [25] 26 (by kernel_rfl) rfl ?_
    simp only[List.replicate_succ,List.replicate_zero]
    refine OwG.run [0,1,2,3,4,5,6,7,8,9,10,11,12,13,14,15,16,17,18,19] [true,true,true,true,true,true,true,true,true,true,true,true,true,true,true,true,true,true,true,true,false,false,false,false,false,false] 6 rfl (by kernel_rfl) (by kernel_rfl) fun k hk=> ?_
    simp only[zp_, ↓zi_, ↓ze_, ↓zA_, ↓zz_,zf_]
    simp(disch:=(first|assumption|omega| (simp only[x5_,xZ_,UInt64.reduceToNat];try omega))) only[↓Sx.S0,Sx.S1,Tryz.fx,qF_,Nat.reduceAdd,Nat.reducePow,Int.reducePow,Nat.reduceBEq, ↓reduceIte,UInt8.reduceToNat,UInt16.reduceToNat,UInt32.reduceToNat,UInt64.reduceToNat,Int.reduceToNat,Md.next_sofnil,hrf2,hsub]
    (with_reducible refine hk _ _ _ ?_);clear hk k
    refine OwG.one 20 _ (by kernel_rfl) rfl ?_
    refine Ow.callFnXC (b:=vi ((f.data.length - f.stl:Nat):Int)) (ars:= #[vi ((f.data.length - f.stl:Nat):Int),vp bk 0]) rfl (X:=L8) (Y:= []) (List.append_nil _).symm rfl rfl rfl rfl Tryz.call82 (fun w' hw' hX' hn'=>Rets.chunk hX' hn' (zj_ hlk9) (Wr_ (f.data.length - f.stl) bk v8 p8 w' (by omega) (hv8.old hw' fun hq b hb=>hE8.not (hvb8 hq b hb).1 (hvb8 hq b hb).2) hpl8 (fun hq e=>by have:=(hvb8 hq bk e).1;omega) (hX' _ (zB_ hlk9)))) (fun r D hC hS=> ?_)
    rw[List.append_nil]
    obtain⟨o,rfl,rfl,v9,rfl,hv1,hv2⟩:=hS
    obtain⟨hvn,hvn2⟩:=adf_ hv8 hv1 hv2
    have hE9:=hE8.came0 hC
    have hP9:=hP8.away hlk9 (kR_ v9)
    have hk9: ∀b o,Sx.look L8 b=some o→tyO o≠some 24→Sx.look (setB L8 bk (kR_ v9)) b=some o:=fun b o hb ht=>qu_ hlk9 hb ht
    have hlf9:Sx.look (setB L8 bk (kR_ v9)) (G.fb.getD n 0)=some (vC_ f):=hk9 _ _ hlf (by simp[tyO,vC_])
    have hlkA:Sx.look (setB L8 bk (kR_ v9)) bk=some (kR_ v9):=qe_ hlk9
    have hrbA:Sx.look (setB L8 bk (kR_ v9)) rb=some (.cells arr E fz):=by rw[zm_ (fun e=>hrn bk hbk6 (by omega) e.symm)];exact hlrb
    have hrf9:=zh_ (w0:=w) hlf9
    generalize vk_ p8 (f.data.length - f.stl)=m at*
    have hadd: (f.stl:Int)+ (m:Int)=((f.stl+m:Nat):Int):=by omega
    have hbkf:bk≠G.fb.getD n 0:=fun e=>by
     rw[←e,hlkA] at hlf9
     simp[vC_,kR_] at hlf9
    generalize setB L8 bk (kR_ v9)=L9 at*
    have st0:=fun x=>Jy_ f (f.data.take (f.stl+m)) x
    with_reducible refine Ow.nil ?_
    refine⟨(fun b hb=>by rw[List.mem_singleton] at hb;subst hb;rw[hrf2,hrf9]), ?_⟩
    simp only[List.set_cons_zero,List.set_cons_succ,ws_,JR_,JU_]
    refine OwG.rest [21,22,23,24,25] rfl (by kernel_rfl) (by kernel_rfl) ?_
    simp only[zp_, ↓zi_, ↓ze_, ↓zA_, ↓zz_,zf_]
    refine kq (And.intro @qF_ @hadd) ?_
    refine Ow.store rfl rfl rfl (ke (And.intro @qF_ (And.intro @hlf9 (@st0)))) ?_
    have htl: (f.data.take (f.stl+m)).length≤f.data.length:=by rw[List.length_take];omega
    have htl2:f.stl≤ (f.data.take (f.stl+m)).length:=by rw[List.length_take];omega
    have hlB:Sx.look (setB L9 (G.fb.getD n 0) (vC_ ⟨f.data.take (f.stl+m),f.stl⟩)) (G.fb.getD n 0)=some (vC_ ⟨f.data.take (f.stl+m),f.stl⟩):=qe_ hlf9
    have hrB:=zh_ (w0:=w) hlB
    have st1:=fun x=>Jq_ ⟨f.data.take (f.stl+m),f.stl⟩ (f.data.take (f.stl+m)).length x
    have hokA:=Zd_ (n:=n) (f:=⟨f.data.take (f.stl+m),f.stl⟩) hP8.ok ⟨Nat.le_trans htl hfo.1,htl2⟩
    have hPA:=hP9.setFile hnl ⟨f.data.take (f.stl+m),f.stl⟩ hokA
    have hokB:=Zd_ (n:=n) (f:=⟨f.data.take (f.stl+m),(f.data.take (f.stl+m)).length⟩) hokA ⟨Nat.le_trans htl hfo.1,Nat.le_refl _⟩
    have hPB:=hPA.setFile (by rw[List.length_set];exact hnl) ⟨f.data.take (f.stl+m),(f.data.take (f.stl+m)).length⟩ hokB
    simp only[List.set_set] at hPB
    have hEB:=(hE9.setB (b:=G.fb.getD n 0) (o:=vC_ ⟨f.data.take (f.stl+m),f.stl⟩)).setB (b:=G.fb.getD n 0) (o:=vC_ ⟨f.data.take (f.stl+m),(f.data.take (f.stl+m)).length⟩)
    have hrf:rb≠G.fb.getD n 0:=hrn _ (hfk n (by have:=hP6.len;have:=hP8.len;omega)) (by omega)
    have hlkB:Sx.look (setB (setB L9 (G.fb.getD n 0) (vC_ ⟨f.data.take (f.stl+m),f.stl⟩)) (G.fb.getD n 0) (vC_ ⟨f.data.take (f.stl+m),(f.data.take (f.stl+m)).length⟩)) bk=some (kR_ v9):=by
     rw[zm_ (Ne.symm hbkf),zm_ (Ne.symm hbkf)];exact hlkA
    have hrbB:Sx.look (setB (setB L9 (G.fb.getD n 0) (vC_ ⟨f.data.take (f.stl+m),f.stl⟩)) (G.fb.getD n 0) (vC_ ⟨f.data.take (f.stl+m),(f.data.take (f.stl+m)).length⟩)) rb=some (.cells arr E fz):=by
     rw[zm_ (Ne.symm hrf),zm_ (Ne.symm hrf)];exact hrbA
    refine ko (And.intro @qF_ (And.intro @QW_ (And.intro @hrB (And.intro @hlB (@st1))))) ?_
    first|with_reducible refine ks [] @qF_ ?_|refine kp @qF_ ?_
    exact Again.mk ⟨j+1,setB (setB L9 (G.fb.getD n 0) (vC_ ⟨f.data.take (f.stl+m),f.stl⟩)) (G.fb.getD n 0) (vC_ ⟨f.data.take (f.stl+m),(f.data.take (f.stl+m)).length⟩),v9⟩ (by show sn.length - (j+1)<sn.length - j;omega) ⟨hjt,by rw[hfl8];exact hPB,hlkB,by rw[hfl8];exact hvn,by rw[hfl8];exact hvn2 hvb8,hEB,by rw[hfl8];show(p8.drop 1).length<1000000;rw[List.length_drop];omega,fun _=>hrbB⟩ rfl rfl
   ·obtain rfl:j=sn.length:=by omega
    have d2:decide ((sn.length:Int)< (sn.length:Int))=false:=decide_eq_false (by omega)
    rw[List.take_length] at hP8 hv8 hvb8 hpl8
    first|with_reducible refine ks [] (And.intro @qF_ @d2) ?_|refine kp (And.intro @qF_ @d2) ?_
    first|with_reducible refine ks [] @qF_ ?_|refine kp @qF_ ?_
    exact Again.mk ⟨k+1,L8,v8⟩ (by show 3 - (k+1)<3 - k;omega) ⟨hlt6,by rw[hcm];exact hP8,hlk9,by rw[hcm];exact hv8,by rw[hcm];exact hvb8,hE8,by rw[hcm];exact hpl8⟩ rfl rfl
  ·obtain rfl:k=3:=by omega
   have d6:decide (((3:Nat):Int)<3)=false:=rfl
   first|with_reducible refine ks [] (And.intro @qF_ @d6) ?_|refine kp (And.intro @qF_ @d6) ?_
   refine⟨_,(ke @qF_), ?_⟩
   exact⟨hE6,G,rfl,hP6⟩
end Go.Proofs
end
section
open Go Go.Proofs Go.Sx Go.StP
namespace Go.Proofs
set_option maxRecDepth 10000
set_option maxHeartbeats 400000
set_option linter.unusedSimpArgs false
def ajn_ (d:DirL):Prop:=d.pend.foldl jb_ d.stl=d.seen∧as1_ d
def vH_ (S:DiskL):Prop:= ∀k,ajn_ (S.dir k)
theorem wm_ (l:NmL):ajn_ ⟨l,l,[]⟩:=⟨rfl,fun i hi=>absurd hi (Nat.not_lt_zero i)⟩
theorem ajl_ {d:DirL} {c:CallL} (h:ajn_ d) (hok:okC d.seen c):ajn_ ⟨jb_ d.seen c,d.stl,d.pend++ [c]⟩:=by
 refine⟨by show(d.pend++ [c]).foldl jb_ d.stl=_;rw[List.foldl_append,h.1];rfl,fun i hi=> ?_⟩
 have hi':i< (d.pend++ [c]).length:=hi
 show okC (((d.pend++ [c]).take i).foldl jb_ d.stl) ((d.pend++ [c]).getD i wq_)
 by_cases e:i<d.pend.length
 ·rw[List.take_append_of_le_length (by omega),List.getD_eq_getElem?_getD,List.getElem?_append_left e,←List.getD_eq_getElem?_getD]
  exact h.2 i e
 ·rw[List.length_append,List.length_singleton] at hi'
  obtain rfl:i=d.pend.length:=by omega
  rw[List.take_append_of_le_length (Nat.le_refl _),List.take_length,h.1,List.getD_eq_getElem?_getD,List.getElem?_append_right (Nat.le_refl _),Nat.sub_self]
  exact hok
theorem Zk_ {S S':DiskL} (h:vH_ S) (e:S'.dir=S.dir):vH_ S':=fun k=>by rw[e];exact h k
theorem Z1_ {S:DiskL} (h:vH_ S) {k:Nat} {d:DirL} (hd:ajn_ d):vH_ (qD_ S k d):=fun j=>by
 by_cases e:j=k
 ·subst e;rw[q1_];exact hd
 ·rw[jW_ _ _ e];exact h j
theorem Jg_ {S:DiskL} (h:vH_ S) {k:Nat} {c:CallL} (hok:okC (S.dir k).seen c):vH_ (x1_ S k c):=Z1_ h (ajl_ (h k) hok)
theorem ajQ_ {S:DiskL} (h:vH_ S):vH_ (zr_ S).1:=Zk_ h (qA_ S).1
theorem anv_ (q:Int):vH_ (wZ_ q):=fun _=>wm_ []
theorem Kx_ {q:DiskL×List UInt16} (h:vH_ q.1): ∀k,vH_ (z8_ q k).1
 |0=>h
 |k+1=>Z1_ (Kx_ h k) (wm_ _)
theorem ahQ_ {S:DiskL} (h:vH_ S) (pl:List UInt16):vH_ (qI_ S pl):=by
 unfold qI_
 refine Zk_ (S:=QJ_ (z8_ (S,pl) 3).1) ?_ (kn_ _ 3)
 exact Zk_ (Kx_ (q:=(S,pl)) h 3) rfl
end Go.Proofs
end
section
open Go Go.Proofs Go.Sx Go.StP
namespace Go.Proofs
set_option maxRecDepth 10000
set_option maxHeartbeats 400000
set_option linter.unusedSimpArgs false
def NmB (l:NmL):Prop:= ∀p,p∈l→p.1.length≤1000000
def al4_ (c:CallL):Prop:=c.a.length≤1000000∧c.b.length≤1000000
structure DirB (N:Nat) (d:DirL):Prop where
 seen:d.seen.length≤N
 stl:d.stl.length+d.pend.length≤N
 seenB:NmB d.seen
 stlB:NmB d.stl
 pendB: ∀c,c∈d.pend→al4_ c
def DkN (N:Nat) (S:DiskL):Prop:= ∀k,DirB N (S.dir k)
theorem DkN.b {N:Nat} {S:DiskL} (h:DkN N S) (hN:N≤1000000):DkB S:=fun k _=>⟨Nat.le_trans (h k).seen hN,(h k).seenB⟩
theorem DirB.mono {N M:Nat} {d:DirL} (h:DirB N d) (hm:N≤M):DirB M d:=⟨Nat.le_trans h.seen hm,Nat.le_trans h.stl hm,h.seenB,h.stlB,h.pendB⟩
theorem DkN.mono {N M:Nat} {S:DiskL} (h:DkN N S) (hm:N≤M):DkN M S:=fun k=>(h k).mono hm
theorem KE_ (l:NmL) (s:List UInt8): (qL_ l s).length≤l.length:=List.length_filter_le _ _
theorem ahj_ (l:NmL) (x:List UInt8×Nat): (Xd_ l x).length≤l.length+1:=by
 have h1:=(jQ_ x (qL_ l x.1)).length_eq
 have h2:=KE_ l x.1
 rw[List.length_cons] at h1
 show(insN (qL_ l x.1) x).length≤_
 omega
theorem acI_ (l:NmL) (c:CallL): (jb_ l c).length≤l.length+1:=by
 unfold jb_
 split
 ·exact ahj_ l _
 ·have h1:=ahj_ (qL_ l c.a) (c.b,(zx_ l c.a).getD 0)
  have h2:=KE_ l c.a
  omega
 ·exact Nat.le_succ_of_le (KE_ l _)
theorem aeH_ {l:NmL} (h:NmB l) (s:List UInt8):NmB (qL_ l s):=fun p hp=>h p (List.mem_filter.1 hp).1
theorem apo_ {l:NmL} (h:NmB l) {x:List UInt8×Nat} (hx:x.1.length≤1000000):NmB (Xd_ l x):=fun p hp=>by
 have:=(jQ_ x (qL_ l x.1)).mem_iff.1 hp
 rcases List.mem_cons.1 this with rfl|h1
 ·exact hx
 ·exact aeH_ h _ p h1
theorem alJ_ {l:NmL} (h:NmB l) {c:CallL} (hc:al4_ c):NmB (jb_ l c):=by
 unfold jb_
 split
 ·exact apo_ h hc.1
 ·exact apo_ (aeH_ h _) hc.2
 ·exact aeH_ h _
theorem alC_: ∀ (cs:List CallL) {l:NmL},NmB l→(∀c,c∈cs→al4_ c)→NmB (cs.foldl jb_ l)∧(cs.foldl jb_ l).length≤l.length+cs.length
 | [],l,h,_=>⟨h,Nat.le_refl _⟩
 |c::cs,l,h,hc=>by
  have h1:=alC_ cs (alJ_ h (hc c List.mem_cons_self)) (fun c' h'=>hc c' (List.mem_cons_of_mem _ h'))
  have h2:=acI_ l c
  refine⟨h1.1, ?_⟩
  have h3:=h1.2
  rw[List.length_cons]
  show(List.foldl jb_ (jb_ l c) cs).length≤_
  omega
theorem amg_ {N:Nat} {d:DirL} {c:CallL} (h:DirB N d) (hc:al4_ c):DirB (N+1) ⟨jb_ d.seen c,d.stl,d.pend++ [c]⟩ where
 seen:=by have:=acI_ d.seen c;have:=h.seen;show(jb_ d.seen c).length≤_;omega
 stl:=by have:=h.stl;show d.stl.length+ (d.pend++ [c]).length≤_;rw[List.length_append,List.length_singleton];omega
 seenB:=alJ_ h.seenB hc
 stlB:=h.stlB
 pendB:=fun c' h'=>by
  rcases List.mem_append.1 h' with h'|h'
  ·exact h.pendB c' h'
  ·rw[List.mem_singleton.1 h'];exact hc
theorem KA_ {N:Nat} {l:NmL} (h:l.length≤N) (hb:NmB l):DirB N ⟨l,l,[]⟩:=⟨h,h,hb,hb,fun c hc=>by cases hc⟩
theorem Jo_ {N:Nat} {S:DiskL} (h:DkN N S) {k:Nat} {d:DirL} (hd:DirB N d):DkN N (qD_ S k d):=fun j=>by
 by_cases e:j=k
 ·subst e;rw[q1_];exact hd
 ·rw[jW_ _ _ e];exact h j
theorem Js_ {N:Nat} {S S':DiskL} (h:DkN N S) (e:S'.dir=S.dir):DkN N S':=fun k=>by rw[e];exact h k
theorem KS_ {N:Nat} {S:DiskL} (h:DkN N S) {k:Nat} {c:CallL} (hc:al4_ c):DkN (N+1) (x1_ S k c):=Jo_ (h.mono (Nat.le_succ N)) (amg_ (h k) hc)
theorem Q7_ {N:Nat} {q:DiskL×List UInt16} (h:DkN N q.1): ∀k,DkN N (z8_ q k).1
 |0=>h
 |k+1=>by
  have h1:=Q7_ h k
  have hd:=h1 k
  show DkN N (ag6_ (z8_ q k) k).1
  generalize z8_ q k=r at*
  refine Jo_ h1 ?_
  have h2:=alC_ ((r.1.dir k).pend.take (vk_ r.2 (r.1.dir k).pend.length)) hd.stlB (fun c hc=>hd.pendB c (List.mem_of_mem_take hc))
  refine KA_ ?_ h2.1
  have h3:=h2.2
  rw[List.length_take] at h3
  have h4:=hd.stl
  show(List.foldl jb_ _ _).length≤N
  omega
theorem ajw_ {N:Nat} {S:DiskL} (h:DkN N S) (pl:List UInt16):DkN N (qI_ S pl):=by
 unfold qI_
 refine Js_ (S:=QJ_ (z8_ (S,pl) 3).1) ?_ (kn_ _ 3)
 exact Js_ (Q7_ (q:=(S,pl)) h 3) rfl
theorem ap3_ (q:Int):DkN 0 (wZ_ q):=fun _=>KA_ (Nat.le_refl 0) fun _ h=>by cases h
end Go.Proofs
end
section
open Go Go.Proofs Go.Sx Go.StP
namespace Go.Proofs
set_option maxRecDepth 10000
set_option maxHeartbeats 400000
set_option linter.unusedSimpArgs false
end Go.Proofs
end
section
open Go Go.Proofs Go.Sx Go.StP
namespace Go.Proofs
set_option maxRecDepth 10000
set_option maxHeartbeats 400000
set_option linter.unusedSimpArgs false
theorem aeB_ (S:DiskL) (f:FiL) (h: ∀k,(S.dir k).pend= []∧(S.dir k).stl= []): ∀k,((jr_ S f).dir k).pend= []∧((jr_ S f).dir k).stl= []:=by
 intro k
 unfold jr_
 split
 ·rename_i j hj
  split
  ·by_cases e:k=j
   ·subst e;rw[q1_];exact⟨(h k).1,(h k).2⟩
   ·rw[jW_ _ _ e];exact h k
  ·exact h k
 ·exact h k
theorem afx_ (l:List FiL): ∀ (S:DiskL),(∀k,(S.dir k).pend= []∧(S.dir k).stl= [])→ ∀k,((l.foldl jr_ S).dir k).pend= []∧((l.foldl jr_ S).dir k).stl= []:=by
 induction l with
 |nil=>exact fun _ h=>h
 |cons f l ih=>exact fun S h=>ih _ (aeB_ S f h)
theorem ahU_ (S:DiskL) (f:FiL) (h: ∀k,3≤k→(S.dir k).seen= []): ∀k,3≤k→((jr_ S f).dir k).seen= []:=by
 intro k hk
 unfold jr_
 split
 ·rename_i j hj
  split
  ·have h3:=(zD_ hj).1
   rw[jW_ _ _ (by omega)];exact h k hk
  ·exact h k hk
 ·exact h k hk
theorem aiY_ (l:List FiL): ∀ (S:DiskL),(∀k,3≤k→(S.dir k).seen= [])→ ∀k,3≤k→((l.foldl jr_ S).dir k).seen= []:=by
 induction l with
 |nil=>exact fun _ h=>h
 |cons f l ih=>exact fun S h=>ih _ (ahU_ S f h)
theorem agd_ (S:DiskL) (k:Nat): (setV S [0,1,2]).dir k=if k∈ [0,1,2] then⟨(S.dir k).seen,(S.dir k).seen,[]⟩ else S.dir k:=rfl
theorem aps_ (q:Int) (l:List FiL):vH_ (ofD q l):=fun k=>by
 have h1:=afx_ l (wZ_ q) (fun _=>⟨rfl,rfl⟩) k
 have h2:=aiY_ l (wZ_ q) (fun _ _=>rfl) k
 unfold ofD
 rw[agd_]
 generalize l.foldl jr_ (wZ_ q)=S at*
 split
 ·exact wm_ _
 ·rename_i hk
  have h3:3≤k:=by
   simp only[List.mem_cons,List.not_mem_nil,or_false,not_or] at hk
   omega
  have h4:=h2 h3
  generalize S.dir k=d at*
  obtain⟨a,b,c⟩:=d
  simp only at h1 h4
  obtain⟨rfl,rfl⟩:=h1
  subst h4
  exact wm_ []
end Go.Proofs
end
section
open Go Go.Proofs Go.Sx Go.StP
namespace Go.Proofs
set_option maxRecDepth 10000
set_option maxHeartbeats 400000
set_option linter.unusedSimpArgs false
theorem amY_ {N:Nat} {S:DiskL} (h:DkN N S):DkN N (zr_ S).1:=Js_ h (qA_ S).1
theorem abr_ {N:Nat} {S:DiskL} (h:DkN N S):DkN (N+1) S:=h.mono (Nat.le_succ N)
theorem J5_ {S:DiskL} (ok:DkOk S): ∀ (l:NmL),(∀p,p∈l→p.2<S.files.length)→qv_ S l≤l.length*1048576
 | [],_=>Nat.zero_le _
 |p::l,h=>by
  have h1:=J5_ ok l fun q hq=>h q (List.mem_cons_of_mem _ hq)
  have h2:=(Jp_ ok (h p List.mem_cons_self)).1
  unfold qv_ zl_ at*
  rw[List.map_cons,List.sum_cons,List.length_cons]
  omega
theorem aoB_ {N:Nat} {S:DiskL} (ok:DkOk S) (h:DkN N S):qR_ S≤3* (N*1048576):=by
 have h0:=J5_ ok _ (ok.seenN 0 (by omega))
 have h1:=J5_ ok _ (ok.seenN 1 (by omega))
 have h2:=J5_ ok _ (ok.seenN 2 (by omega))
 have g0:=Nat.mul_le_mul_right 1048576 (h 0).seen
 have g1:=Nat.mul_le_mul_right 1048576 (h 1).seen
 have g2:=Nat.mul_le_mul_right 1048576 (h 2).seen
 unfold qR_
 omega
end Go.Proofs
end
section
open Go Go.Proofs Go.Sx Go.StP
namespace Go.Proofs
set_option maxRecDepth 10000
set_option maxHeartbeats 400000
set_option linter.unusedSimpArgs false
theorem mem_wipe {l:NmL} {s:List UInt8} {p:List UInt8×Nat}:p∈qL_ l s↔p∈l∧p.1≠s:=by
 unfold qL_
 rw[List.mem_filter]
 constructor
 ·rintro⟨h1,h2⟩
  exact⟨h1,fun e=>by rw[e] at h2;simp at h2⟩
 ·rintro⟨h1,h2⟩
  exact⟨h1,by simpa using Ne.symm h2⟩
theorem mem_put {l:NmL} {x p:List UInt8×Nat}:p∈Xd_ l x↔p=x∨(p∈l∧p.1≠x.1):=by
 unfold Xd_
 rw[(jQ_ x _).mem_iff,List.mem_cons,mem_wipe]
theorem ann_ {l:NmL} {c:CallL} {p:List UInt8×Nat} (hok:okC l c) (h:p∈jb_ l c): (c.kind=0∧p=(c.a,c.n))∨(c.kind=1∧ ∃m,zx_ l c.a=some m∧p=(c.b,m))∨(p∈l∧p.1≠c.a∧(c.kind=1→p.1≠c.b)):=by
 unfold jb_ at h
 split at h
 ·rename_i hk
  rcases mem_put.1 h with rfl| ⟨h1,h2⟩
  ·exact .inl ⟨hk,rfl⟩
  ·exact .inr (.inr ⟨h1,h2,fun e=>by rw[hk] at e;cases e⟩)
 ·rename_i hk
  cases hm:zx_ l c.a with
  |none=>exact absurd hm (hok hk).1
  |some m=>
   rw[hm] at h
   rcases mem_put.1 h with rfl| ⟨h1,h2⟩
   ·exact .inr (.inl ⟨hk,m,rfl,rfl⟩)
   ·have h3:=mem_wipe.1 h1
    exact .inr (.inr ⟨h3.1,h3.2,fun _=>h2⟩)
 ·rename_i h0 h1
  have h3:=mem_wipe.1 h
  exact .inr (.inr ⟨h3.1,h3.2,fun e=>absurd e h1⟩)
def vs_ (S:DiskL):Prop:= ∀j k,j<3→k<3→ ∀p,p∈ (S.dir j).seen→ ∀q,q∈ (S.dir k).seen→p.2=q.2→j=k∧p=q
theorem xO_ {S S':DiskL} (h:vs_ S) (e: ∀k,k<3→(S'.dir k).seen=(S.dir k).seen):vs_ S':=fun j k hj hk p hp q hq=>by
 rw[e j hj] at hp
 rw[e k hk] at hq
 exact h j k hj hk p hp q hq
theorem jB_ (S:DiskL) (k j:Nat) (c:CallL): ((x1_ S k c).dir j).seen=if j=k then jb_ (S.dir k).seen c else(S.dir j).seen:=by
 unfold x1_
 by_cases e:j=k
 ·subst e;rw[q1_,if_pos rfl]
 ·rw[jW_ _ _ e,if_neg e]
theorem QQ_ {S:DiskL} {k j:Nat} {c:CallL} {p:List UInt8×Nat} (hok:okC (S.dir k).seen c) (h:p∈ ((x1_ S k c).dir j).seen):
  (p∈ (S.dir j).seen∧(j=k→p.1≠c.a∧(c.kind=1→p.1≠c.b)))∨(j=k∧c.kind=0∧p=(c.a,c.n))∨(j=k∧c.kind=1∧ ∃m,zx_ (S.dir k).seen c.a=some m∧p=(c.b,m)):=by
 rw[jB_] at h
 by_cases e:j=k
 ·rw[if_pos e] at h
  subst e
  rcases ann_ hok h with⟨h1,h2⟩ | ⟨h1,h2⟩ | ⟨h1,h2⟩
  ·exact .inr (.inl ⟨rfl,h1,h2⟩)
  ·exact .inr (.inr ⟨rfl,h1,h2⟩)
  ·exact .inl ⟨h1,fun _=>h2⟩
 ·rw[if_neg e] at h
  exact .inl ⟨h,fun e'=>absurd e' e⟩
theorem Jk_ {S:DiskL} (h:vs_ S) {k:Nat} {c:CallL} (hk:k<3) (hok:okC (S.dir k).seen c) (hn:c.kind=0→ ∀j,j<3→ ∀q,q∈ (S.dir j).seen→q.2≠c.n):vs_ (x1_ S k c):=by
 intro i j hi hj p hp q hq e
 rcases QQ_ hok hp with⟨p1,p2⟩ | ⟨rfl,p1,rfl⟩ | ⟨rfl,p1,m,pm,rfl⟩
 ·rcases QQ_ hok hq with⟨q1,q2⟩ | ⟨rfl,q1,rfl⟩ | ⟨rfl,q1,m,qm,rfl⟩
  ·exact h i j hi hj p p1 q q1 e
  ·exact absurd e (hn q1 i hi p p1)
  ·have h1:=h i j hi hj p p1 _ (zX_ qm) e
   exact absurd (by rw[h1.2]) (p2 h1.1).1
 ·rcases QQ_ hok hq with⟨q1,q2⟩ | ⟨rfl,q1,rfl⟩ | ⟨rfl,q1,m,qm,rfl⟩
  ·exact absurd e.symm (hn p1 j hj q q1)
  ·exact⟨rfl,rfl⟩
  ·rw[p1] at q1;cases q1
 ·rcases QQ_ hok hq with⟨q1,q2⟩ | ⟨rfl,q1,rfl⟩ | ⟨rfl,q1,m',qm,rfl⟩
  ·have h1:=h j i hj hi q q1 _ (zX_ pm) e.symm
   exact absurd (by rw[h1.2]) (q2 h1.1).1
  ·rw[p1] at q1;cases q1
  ·rw[pm] at qm;cases qm;exact⟨rfl,rfl⟩
def LtS (S:DiskL):Prop:= ∀k,k<3→ ∀p,p∈ (S.dir k).seen→p.2<S.files.length
theorem amM_ {S:DiskL} (h:vs_ S) (hl:LtS S) {k:Nat} (hk:k<3) (s:List UInt8) (f:FileL) {d:DirL} (hd:d.seen=Xd_ (S.dir k).seen (s,S.files.length)):vs_ (qD_ (xc_ S f) k d)∧LtS (qD_ (xc_ S f) k d):=by
 have hm: ∀j p,p∈ ((qD_ (xc_ S f) k d).dir j).seen→p∈ (S.dir j).seen∨(j=k∧p=(s,S.files.length)):=fun j p hp=>by
  by_cases e:j=k
  ·subst e
   rw[q1_,hd] at hp
   rcases mem_put.1 hp with rfl|h1
   ·exact .inr ⟨rfl,rfl⟩
   ·exact .inl h1.1
  ·rw[jW_ _ _ e] at hp
   exact .inl hp
 constructor
 ·intro i j hi hj p hp q hq e
  rcases hm i p hp with p1| ⟨rfl,rfl⟩
  ·rcases hm j q hq with q1| ⟨rfl,rfl⟩
   ·exact h i j hi hj p p1 q q1 e
   ·have:=hl i hi p p1
    simp only at e
    omega
  ·rcases hm j q hq with q1| ⟨rfl,rfl⟩
   ·have:=hl j hj q q1
    simp only at e
    omega
   ·exact⟨rfl,rfl⟩
 ·intro j hj p hp
  show p.2< (S.files++ [f]).length
  rw[List.length_append,List.length_singleton]
  rcases hm j p hp with p1| ⟨-,rfl⟩
  ·have:=hl j hj p p1
   omega
  ·simp
theorem aeV_ {S:DiskL} (h:vs_ S∧LtS S) (f:FiL):vs_ (jr_ S f)∧LtS (jr_ S f):=by
 unfold jr_
 split
 ·rename_i k hk
  split
  ·exact amM_ h.1 h.2 (zD_ hk).1 _ _ rfl
  ·exact h
 ·exact h
theorem afz_ (l:List FiL): ∀ {S:DiskL},vs_ S∧LtS S→vs_ (l.foldl jr_ S)∧LtS (l.foldl jr_ S):=by
 induction l with
 |nil=>exact fun h=>h
 |cons f l ih=>exact fun h=>ih (aeV_ h f)
theorem acb_ (S:DiskL) (k:Nat): ((setV S [0,1,2]).dir k).seen=(S.dir k).seen:=by
 rw[agd_]
 split
 ·rfl
 ·rfl
theorem aqk_ (q:Int) (l:List FiL):vs_ (ofD q l):=
 xO_ (afz_ l (S:=wZ_ q) ⟨fun _ _ _ _ p hp=>(by cases hp),fun _ _ p hp=>(by cases hp)⟩).1 fun k _=>acb_ _ k
def Jt_ (S:DiskL):Prop:= ∀k,k<3→ ∀p,p∈ (S.dir k).seen→qY_ p.1=true
theorem vm_ {S S':DiskL} (h:Jt_ S) (e: ∀k,k<3→(S'.dir k).seen=(S.dir k).seen):Jt_ S':=fun k hk p hp=>by
 rw[e k hk] at hp
 exact h k hk p hp
theorem Jh_ {S:DiskL} (h:Jt_ S) {k:Nat} {c:CallL} (hk:k<3) (hok:okC (S.dir k).seen c) (h0:c.kind=0→qY_ c.a=true) (h1:c.kind=1→qY_ c.b=true):Jt_ (x1_ S k c):=by
 intro j hj p hp
 rcases QQ_ hok hp with⟨p1,p2⟩ | ⟨rfl,p1,rfl⟩ | ⟨rfl,p1,m,pm,rfl⟩
 ·exact h j hj p p1
 ·exact h0 p1
 ·exact h1 p1
theorem ae6_ {S:DiskL} (h:Jt_ S) (f:FiL):Jt_ (jr_ S f):=by
 unfold jr_
 split
 ·rename_i k hk
  split
  ·rename_i hc
   intro j hj p hp
   by_cases e:j=k
   ·subst e
    rw[q1_] at hp
    rcases mem_put.1 hp with rfl|h1
    ·exact hc.1
    ·exact h j hj p h1.1
   ·rw[jW_ _ _ e] at hp
    exact h j hj p hp
  ·exact h
 ·exact h
theorem arw_ (q:Int) (l:List FiL):Jt_ (ofD q l):=by
 have h1: ∀ (l:List FiL) (S:DiskL),Jt_ S→Jt_ (l.foldl jr_ S):=fun l=>by
  induction l with
  |nil=>exact fun _ h=>h
  |cons f l ih=>exact fun S h=>ih _ (ae6_ h f)
 exact vm_ (h1 l (wZ_ q) (fun _ _ p hp=>by cases hp)) fun k _=>acb_ _ k
end Go.Proofs
end
section
open Go Go.Proofs Go.Sx Go.StP
namespace Go.Proofs
set_option maxRecDepth 10000
set_option maxHeartbeats 400000
set_option linter.unusedSimpArgs false
def doV (S:DiskL) (kind:Int) (dir name s:List UInt8):DiskL×Nat:=
 if kind=0 then qV_ S dir name else if kind=1 then qm_ S dir name s else if kind=2 then qM_ S dir name else if kind=3 then zI_ S dir else if kind=4 then q4_ S dir name s else if kind=5 then qz_ S dir name else(S,0)
inductive StepD (S:DiskL) (kind:Int) (dir name s:List UInt8):DiskL→Nat→Prop
 |same (e:Nat) (h:e≠0∨(kind≠2∧kind≠3)):StepD S kind dir name s S e
 |burn (h:kind≠2∧kind≠3∨(zr_ S).2≠0):StepD S kind dir name s (zr_ S).1 (zr_ S).2
 |create (k:Nat) (hk:zG_ dir=some k) (hf:qY_ name=true) (hn:zx_ (S.dir k).seen name=none) (hb: (zr_ S).2=0):StepD S kind dir name s (x1_ (xc_ (zr_ S).1 jt_) k ⟨0,name,[],S.files.length⟩) 0
 |append (k m:Nat) (hk:zG_ dir=some k) (hm:zx_ (S.dir k).seen name=some m) (hf:Zs_ S m s=false) (hb: (zr_ S).2=0):StepD S kind dir name s (j0_ (zr_ S).1 m ⟨(zl_ S m).data++s,(zl_ S m).stl⟩) 0
 |sync (k m:Nat) (hk:zG_ dir=some k) (hm:zx_ (S.dir k).seen name=some m) (hb: (zr_ S).2=0):StepD S kind dir name s (j0_ (zr_ S).1 m ⟨(zl_ S m).data,(zl_ S m).data.length⟩) 0
 |syncDir (k:Nat) (hk:zG_ dir=some k) (hb: (zr_ S).2=0):StepD S kind dir name s (wo_ (zr_ S).1 k) 0
 |rename (k m:Nat) (h4:kind=4) (hk:zG_ dir=some k) (hm:zx_ (S.dir k).seen name=some m) (hf:qY_ s=true) (hne:name≠s) (hb: (zr_ S).2=0):StepD S kind dir name s (x1_ (zr_ S).1 k ⟨1,name,s,0⟩) 0
 |remove (k m:Nat) (hk:zG_ dir=some k) (hm:zx_ (S.dir k).seen name=some m) (hb: (zr_ S).2=0):StepD S kind dir name s (x1_ (zr_ S).1 k ⟨2,name,[],0⟩) 0
theorem W0_ {S:DiskL} {dir name:List UInt8} {m:Nat} (h:atD S dir name=some m): ∃k,zG_ dir=some k∧zx_ (S.dir k).seen name=some m:=by
 unfold atD at h
 cases hk:zG_ dir with
 |none=>rw[hk] at h;cases h
 |some k=>rw[hk] at h;exact⟨k,rfl,h⟩
theorem apu_ {S:DiskL} {dir name:List UInt8} {k:Nat} (hk:zG_ dir=some k) (h:atD S dir name=none):zx_ (S.dir k).seen name=none:=by
 unfold atD at h
 rw[hk] at h;exact h
theorem Qv_ {S:DiskL} {dir:List UInt8} {names:List (List UInt8)} (h:qZ_ S dir names=0): ∃k,zG_ dir=some k∧names.all qY_=true:=by
 obtain⟨h1,h2,-⟩:=ahW_ h
 cases hk:zG_ dir with
 |none=>exact absurd hk h1
 |some k=>exact⟨k,rfl,h2⟩
theorem ZQ_ (S:DiskL) (dir name s:List UInt8):StepD S 0 dir name s (qV_ S dir name).1 (qV_ S dir name).2:=by
 unfold qV_
 split
 ·exact .same _ (.inr ⟨by decide,by decide⟩)
 ·rename_i hf
  split
  ·exact .same _ (.inr ⟨by decide,by decide⟩)
  ·rename_i ha
   split
   ·exact .burn (.inl ⟨by decide,by decide⟩)
   ·rename_i hb
    obtain⟨k,hk,hn⟩:=Qv_ (S:=S) (dir:=dir) (names:= [name]) (by simpa using hf)
    rw[hk]
    exact .create k hk (by simpa using hn) (apu_ hk ha) (by simpa using hb)
theorem kq_ (S:DiskL) (dir name s:List UInt8):StepD S 5 dir name s (qz_ S dir name).1 (qz_ S dir name).2:=by
 unfold qz_
 split
 ·exact .same _ (.inr ⟨by decide,by decide⟩)
 ·split
  ·exact .same _ (.inr ⟨by decide,by decide⟩)
  ·rename_i m ha
   split
   ·exact .burn (.inl ⟨by decide,by decide⟩)
   ·rename_i hb
    obtain⟨k,hk,hm⟩:=W0_ ha
    rw[hk]
    exact .remove k m hk hm (by simpa using hb)
theorem ZI_ (S:DiskL) (dir name s:List UInt8):StepD S 4 dir name s (q4_ S dir name s).1 (q4_ S dir name s).2:=by
 unfold q4_
 split
 ·exact .same _ (.inr ⟨by decide,by decide⟩)
 ·rename_i hf
  split
  ·exact .same _ (.inr ⟨by decide,by decide⟩)
  ·rename_i m ha
   split
   ·exact .burn (.inl ⟨by decide,by decide⟩)
   ·rename_i hne
    split
    ·exact .burn (.inl ⟨by decide,by decide⟩)
    ·rename_i hb
     obtain⟨k,hk,hm⟩:=W0_ ha
     obtain⟨-,-,hn⟩:=Qv_ (S:=S) (dir:=dir) (names:= [name,s]) (by simpa using hf)
     simp only[List.all_cons,List.all_nil,Bool.and_true,Bool.and_eq_true] at hn
     rw[hk]
     exact .rename k m rfl hk hm hn.2 hne (by simpa using hb)
theorem ZL_ (S:DiskL) (dir name s:List UInt8):StepD S 1 dir name s (qm_ S dir name s).1 (qm_ S dir name s).2:=by
 unfold qm_
 split
 ·exact .same _ (.inr ⟨by decide,by decide⟩)
 ·split
  ·exact .same _ (.inr ⟨by decide,by decide⟩)
  ·rename_i m ha
   split
   ·exact .same _ (.inr ⟨by decide,by decide⟩)
   ·rename_i hfl
    split
    ·exact .burn (.inl ⟨by decide,by decide⟩)
    ·rename_i hb
     obtain⟨k,hk,hm⟩:=W0_ ha
     exact .append k m hk hm (by simpa using hfl) (by simpa using hb)
theorem QC_ (S:DiskL) (dir name s:List UInt8):StepD S 2 dir name s (qM_ S dir name).1 (qM_ S dir name).2:=by
 unfold qM_
 split
 ·rename_i hf
  exact .same _ (.inl hf)
 ·split
  ·exact .same _ (.inl (Nat.succ_ne_zero 5))
  ·rename_i m ha
   split
   ·rename_i hb
    exact .burn (.inr hb)
   ·rename_i hb
    obtain⟨k,hk,hm⟩:=W0_ ha
    exact .sync k m hk hm (by simpa using hb)
theorem kL_ (S:DiskL) (dir name s:List UInt8):StepD S 3 dir name s (zI_ S dir).1 (zI_ S dir).2:=by
 unfold zI_
 split
 ·rename_i hf
  exact .same _ (.inl hf)
 ·rename_i hf
  split
  ·rename_i hb
   exact .burn (.inr hb)
  ·rename_i hb
   obtain⟨k,hk,-⟩:=Qv_ (S:=S) (dir:=dir) (names:= []) (by simpa using hf)
   rw[hk]
   exact .syncDir k hk (by simpa using hb)
theorem aq0_ (S:DiskL) (kind:Int) (dir name s:List UInt8):StepD S kind dir name s (doV S kind dir name s).1 (doV S kind dir name s).2:=by
 unfold doV
 split
 ·rename_i h;subst h;exact ZQ_ S dir name s
 split
 ·rename_i h;subst h;exact ZL_ S dir name s
 split
 ·rename_i h;subst h;exact QC_ S dir name s
 split
 ·rename_i h;subst h;exact kL_ S dir name s
 split
 ·rename_i h;subst h;exact ZI_ S dir name s
 split
 ·rename_i h;subst h;exact kq_ S dir name s
 ·rename_i h0 h1 h2 h3 h4 h5
  exact .same 0 (.inr ⟨h2,h3⟩)
theorem aaM_ {l:NmL} {a b:List UInt8} {m:Nat} (h:zx_ l a=some m) (hne:a≠b):okC l ⟨1,a,b,0⟩:=fun _=>⟨by rw[h];simp,hne⟩
section
variable {S S':DiskL} {kind:Int} {dir name s:List UInt8} {e:Nat}
theorem Qq_ (h:StepD S kind dir name s S' e):S'.max=S.max:=by
 have hb:=(qA_ S).2.2
 cases h<;>first|rfl|exact hb
theorem ku_ (S:DiskL) (k j:Nat): ((wo_ S k).dir j).seen=(S.dir j).seen:=by
 unfold wo_
 by_cases e:j=k
 ·subst e;rw[q1_]
 ·rw[jW_ _ _ e]
theorem alu_ (ok:DkOk S) (hu:vs_ S) (h:StepD S kind dir name s S' e):vs_ S':=by
 obtain⟨hb1,hb2,-⟩:=qA_ S
 have hbu:vs_ (zr_ S).1:=xO_ hu fun k _=>by rw[hb1]
 cases h with
 |same=>exact hu
 |burn=>exact hbu
 |create k hk hf hn hb=>
  refine Jk_ (xO_ hbu fun _ _=>rfl) (zD_ hk).1 (fun e=>by cases e) (fun _ j hj q hq=> ?_)
  have hq':q∈ (S.dir j).seen:=by rw[←hb1];exact hq
  have:=ok.seenN j hj q hq'
  show q.2≠S.files.length
  omega
 |append k m hk hm hf hb=>exact xO_ hbu fun _ _=>rfl
 |sync k m hk hm hb=>exact xO_ hbu fun _ _=>rfl
 |syncDir k hk hb=>exact xO_ hbu fun j _=>ku_ _ _ _
 |rename k m h4 hk hm hf hne hb=>exact Jk_ hbu (zD_ hk).1 (by rw[hb1];exact aaM_ hm hne) (fun e=>by cases e)
 |remove k m hk hm hb=>exact Jk_ hbu (zD_ hk).1 (fun e=>by cases e) (fun e=>by cases e)
theorem aj1_ (hu:Jt_ S) (h:StepD S kind dir name s S' e):Jt_ S':=by
 obtain⟨hb1,hb2,-⟩:=qA_ S
 have hbu:Jt_ (zr_ S).1:=vm_ hu fun k _=>by rw[hb1]
 cases h with
 |same=>exact hu
 |burn=>exact hbu
 |create k hk hf hn hb=>exact Jh_ (vm_ hbu fun _ _=>rfl) (zD_ hk).1 (fun e=>by cases e) (fun _=>hf) (fun e=>by cases e)
 |append k m hk hm hf hb=>exact vm_ hbu fun _ _=>rfl
 |sync k m hk hm hb=>exact vm_ hbu fun _ _=>rfl
 |syncDir k hk hb=>exact vm_ hbu fun j _=>ku_ _ _ _
 |rename k m h4 hk hm hf hne hb=>exact Jh_ hbu (zD_ hk).1 (by rw[hb1];exact aaM_ hm hne) (fun e=>by cases e) (fun _=>hf)
 |remove k m hk hm hb=>exact Jh_ hbu (zD_ hk).1 (fun e=>by cases e) (fun e=>by cases e) (fun e=>by cases e)
theorem acH_ (hu:vH_ S) (h:StepD S kind dir name s S' e):vH_ S':=by
 obtain⟨hb1,hb2,-⟩:=qA_ S
 have hbu:=ajQ_ hu
 cases h with
 |same=>exact hu
 |burn=>exact hbu
 |create k hk hf hn hb=>exact Jg_ (Zk_ hbu rfl) (fun e=>by cases e)
 |append k m hk hm hf hb=>exact Zk_ hbu rfl
 |sync k m hk hm hb=>exact Zk_ hbu rfl
 |syncDir k hk hb=>exact Z1_ hbu (wm_ _)
 |rename k m h4 hk hm hf hne hb=>exact Jg_ hbu (by rw[hb1];exact aaM_ hm hne)
 |remove k m hk hm hb=>exact Jg_ hbu (fun e=>by cases e)
theorem aga_ {N:Nat} (hu:DkN N S) (hn:name.length≤1000000) (hs:s.length≤1000000) (h:StepD S kind dir name s S' e):DkN (N+1) S':=by
 have hbu:=amY_ hu
 cases h with
 |same=>exact abr_ hu
 |burn=>exact abr_ hbu
 |create k hk hf hn' hb=>exact KS_ (Js_ hbu rfl) ⟨hn,Nat.zero_le _⟩
 |append k m hk hm hf hb=>exact abr_ (Js_ hbu rfl)
 |sync k m hk hm hb=>exact abr_ (Js_ hbu rfl)
 |syncDir k hk hb=>exact abr_ (Jo_ hbu (KA_ (hbu k).seen (hbu k).seenB))
 |rename k m h4 hk hm hf hne hb=>exact KS_ hbu ⟨hn,hs⟩
 |remove k m hk hm hb=>exact KS_ hbu ⟨hn,Nat.zero_le _⟩
end
end Go.Proofs
end
section
open Go Go.Proofs Go.Sx Go.StP
namespace Go.Proofs
set_option maxRecDepth 10000
set_option maxHeartbeats 400000
set_option linter.unusedSimpArgs false
theorem kA_ (S:DiskL) (p:List UInt8×Nat) (l:NmL):qv_ S (p::l)=(zl_ S p.2).data.length+qv_ S l:=by
 unfold qv_ zl_
 rw[List.map_cons,List.sum_cons]
theorem ajs_ (S:DiskL) {l m:NmL} (h:l.Perm m):qv_ S l=qv_ S m:=(h.map _).sum_nat
theorem wu_ (S:DiskL) (s:List UInt8): ∀l:NmL,qv_ S (qL_ l s)≤qv_ S l
 | []=>Nat.le_refl _
 |p::l=>by
  have h:=wu_ S s l
  rw[kA_]
  unfold qL_ at h ⊢
  rw[List.filter_cons]
  split
  ·rw[kA_];omega
  ·omega
theorem af8_ (S:DiskL) (l:NmL) (x:List UInt8×Nat):qv_ S (Xd_ l x)=(zl_ S x.2).data.length+qv_ S (qL_ l x.1):=by
 unfold Xd_
 rw[ajs_ S (jQ_ x _),kA_]
theorem abn_ (S:DiskL) {a:List UInt8} {m:Nat}: ∀ {l:NmL},(a,m)∈l→(zl_ S m).data.length+qv_ S (qL_ l a)≤qv_ S l
 |p::l,h=>by
  have h0:=wu_ S a l
  rw[kA_]
  rcases List.mem_cons.1 h with rfl|h
  ·unfold qL_ at h0 ⊢
   rw[List.filter_cons]
   simp only[beq_self_eq_true,Bool.not_true,Bool.false_eq_true, ↓reduceIte]
   omega
  ·have h1:=abn_ S h
   unfold qL_ at h1 ⊢
   rw[List.filter_cons]
   split
   ·rw[kA_];omega
   ·omega
theorem km_ {S S':DiskL} {l:NmL} (h: ∀p,p∈l→(zl_ S' p.2).data.length=(zl_ S p.2).data.length):qv_ S' l=qv_ S l:=by
 unfold qv_
 congr 1
 exact List.map_congr_left h
theorem kC_ (S:DiskL) {m:Nat} (f:FileL) (hm:m<S.files.length) (n:Nat):zl_ (j0_ S m f) n=if n=m then f else zl_ S n:=by
 unfold zl_ j0_
 simp only
 rw[List.getD_eq_getElem?_getD,List.getD_eq_getElem?_getD]
 by_cases e:n=m
 ·subst e;rw[if_pos rfl,List.getElem?_set_self hm];rfl
 ·rw[if_neg e,List.getElem?_set_ne (Ne.symm e)]
theorem acM_ (S:DiskL) (f:FileL) {n:Nat} (hn:n<S.files.length):zl_ (xc_ S f) n=zl_ S n:=by
 unfold zl_ xc_
 exact Jx_ _ _ hn
theorem acg_ (S:DiskL) (f:FileL):zl_ (xc_ S f) S.files.length=f:=by
 unfold zl_ xc_
 exact Q8_ _ _ rfl
theorem qh_ (S:DiskL) (n:Nat):zl_ (zr_ S).1 n=zl_ S n:=by
 unfold zl_
 rw[(qA_ S).2.1]
theorem ag1_ {S:DiskL} {m:Nat} {f:FileL} (hm:m<S.files.length) {x:Nat} (hx:f.data.length=(zl_ S m).data.length+x): ∀ {l:NmL},(l.map Prod.fst).Nodup→(∀p,p∈l→ ∀q,q∈l→p.2=q.2→p=q)→qv_ (j0_ S m f) l=qv_ S l+if m∈l.map Prod.snd then x else 0
 | [],_,_=>rfl
 |p::l,hn,h=>by
  rw[List.map_cons,List.nodup_cons] at hn
  have ih:=ag1_ hm hx hn.2 fun a ha b hb=>h a (List.mem_cons_of_mem _ ha) b (List.mem_cons_of_mem _ hb)
  rw[kA_,kA_,ih,kC_ S f hm]
  by_cases e:p.2=m
  ·have h1:m∉l.map Prod.snd:=fun hmem=>by
    obtain⟨q,hq,hq2⟩:=List.mem_map.1 hmem
    have h2:=h p List.mem_cons_self q (List.mem_cons_of_mem _ hq) (by rw[e,hq2])
    exact hn.1 (List.mem_map.2 ⟨q,hq,by rw[h2]⟩)
   rw[if_pos e,if_neg h1,if_pos (by rw[List.map_cons,e];exact List.mem_cons_self),hx,e]
   omega
  ·rw[if_neg e]
   by_cases h1:m∈l.map Prod.snd
   ·rw[if_pos h1,if_pos (by rw[List.map_cons];exact List.mem_cons_of_mem _ h1)]
    omega
   ·rw[if_neg h1,if_neg (by
     rw[List.map_cons]
     intro h2
     rcases List.mem_cons.1 h2 with h2|h2
     ·exact e h2.symm
     ·exact h1 h2)]
    omega
theorem adb_ {S:DiskL} (ok:DkOk S) (hu:vs_ S) {k m:Nat} (hk:k<3) {nm:List UInt8} (hm: (nm,m)∈ (S.dir k).seen) {f:FileL} {x:Nat} (hx:f.data.length=(zl_ S m).data.length+x):qR_ (j0_ S m f)≤qR_ S+x:=by
 have hml:m<S.files.length:=ok.seenN k hk _ hm
 have hd: ∀j,j<3→qv_ (j0_ S m f) (S.dir j).seen=qv_ S (S.dir j).seen+if m∈ (S.dir j).seen.map Prod.snd then x else 0:=fun j hj=>ag1_ hml hx (ok.seen j hj).nodup fun p hp q hq e=>(hu j j hj hj p hp q hq e).2
 have hne: ∀j,j<3→j≠k→ ¬m∈ (S.dir j).seen.map Prod.snd:=fun j hj hjk h=>by
  obtain⟨q,hq,e⟩:=List.mem_map.1 h
  exact hjk (hu j k hj hk q hq _ hm e).1
 unfold qR_
 show qv_ (j0_ S m f) (S.dir 0).seen+qv_ (j0_ S m f) (S.dir 1).seen+qv_ (j0_ S m f) (S.dir 2).seen≤_
 rw[hd 0 (by omega),hd 1 (by omega),hd 2 (by omega)]
 have:k=0∨k=1∨k=2:=by omega
 rcases this with rfl|rfl|rfl
 ·rw[if_neg (hne 1 (by omega) (by omega)),if_neg (hne 2 (by omega) (by omega))]
  split<;>omega
 ·rw[if_neg (hne 0 (by omega) (by omega)),if_neg (hne 2 (by omega) (by omega))]
  split<;>omega
 ·rw[if_neg (hne 0 (by omega) (by omega)),if_neg (hne 1 (by omega) (by omega))]
  split<;>omega
theorem Q4_ {S S':DiskL} {k:Nat} (hk:k<3) (h1: ∀j,j<3→j≠k→qv_ S' (S'.dir j).seen=qv_ S (S.dir j).seen) (h2:qv_ S' (S'.dir k).seen≤qv_ S (S.dir k).seen):qR_ S'≤qR_ S:=by
 unfold qR_
 have:k=0∨k=1∨k=2:=by omega
 rcases this with rfl|rfl|rfl
 ·rw[h1 1 (by omega) (by omega),h1 2 (by omega) (by omega)];omega
 ·rw[h1 0 (by omega) (by omega),h1 2 (by omega) (by omega)];omega
 ·rw[h1 0 (by omega) (by omega),h1 1 (by omega) (by omega)];omega
theorem w4_ {S S':DiskL} (hd: ∀k,(S'.dir k).seen=(S.dir k).seen) (hf: ∀n,(zl_ S' n).data.length=(zl_ S n).data.length):qR_ S'=qR_ S:=by
 unfold qR_
 rw[hd 0,hd 1,hd 2,km_ fun p _=>hf p.2,km_ fun p _=>hf p.2,km_ fun p _=>hf p.2]
section
variable {S S':DiskL} {kind:Int} {dir name s:List UInt8} {e:Nat}
theorem ahE_ (ok:DkOk S) (hu:vs_ S) (h:StepD S kind dir name s S' e):qR_ S'≤qR_ S∨(qR_ S'≤qR_ S+s.length∧(qR_ S':Int)≤S.max):=by
 obtain⟨hb1,hb2,-⟩:=qA_ S
 cases h with
 |same=>exact .inl (Nat.le_refl _)
 |burn=>exact .inl (Nat.le_of_eq (w4_ (fun k=>by rw[hb1]) fun n=>by rw[qh_]))
 |create k hk hf hn hb=>
  have hk3:=(zD_ hk).1
  have hff: ∀n,n<S.files.length→zl_ (xc_ (zr_ S).1 jt_) n=zl_ S n:=fun n hn=>by rw[acM_ _ _ (by rw[hb2];exact hn),qh_]
  have hcg: ∀j,j<3→qv_ (xc_ (zr_ S).1 jt_) (S.dir j).seen=qv_ S (S.dir j).seen:=fun j hj=>km_ fun p hp=>by rw[hff p.2 (ok.seenN j hj p hp)]
  refine .inl (Q4_ hk3 (fun j hj hjk=> ?_) ?_)
  ·rw[jB_,if_neg hjk]
   show qv_ (xc_ (zr_ S).1 jt_) ((zr_ S).1.dir j).seen=_
   rw[hb1];exact hcg j hj
  ·rw[jB_,if_pos rfl]
   show qv_ (xc_ (zr_ S).1 jt_) (Xd_ ((zr_ S).1.dir k).seen (name,S.files.length))≤_
   rw[hb1,af8_,←hcg k hk3]
   have h1:zl_ (xc_ (zr_ S).1 jt_) S.files.length=jt_:=by rw[←hb2];exact acg_ _ _
   have h2:=wu_ (xc_ (zr_ S).1 jt_) name (S.dir k).seen
   rw[h1]
   show(0:Nat)+qv_ (xc_ (zr_ S).1 jt_) (qL_ (S.dir k).seen name)≤_
   omega
 |append k m hk hm hf hb=>
  have hk3:=(zD_ hk).1
  right
  have h1:=adb_ (S:=(zr_ S).1) (xC_ ok) (xO_ hu fun k _=>by rw[hb1]) hk3 (nm:=name) (m:=m) (by rw[hb1];exact zX_ hm) (f:=⟨(zl_ S m).data++s,(zl_ S m).stl⟩) (x:=s.length) (by rw[qh_,List.length_append])
  have h2:qR_ (zr_ S).1=qR_ S:=w4_ (fun k=>by rw[hb1]) fun n=>by rw[qh_]
  unfold Zs_ at hf
  simp only[Bool.or_eq_false_iff,decide_eq_false_iff_not] at hf
  exact⟨by omega,by omega⟩
 |sync k m hk hm hb=>
  left
  have hk3:=(zD_ hk).1
  have h1:=adb_ (S:=(zr_ S).1) (xC_ ok) (xO_ hu fun k _=>by rw[hb1]) hk3 (nm:=name) (m:=m) (by rw[hb1];exact zX_ hm) (f:=⟨(zl_ S m).data,(zl_ S m).data.length⟩) (x:=0) (by rw[qh_];rfl)
  have h2:qR_ (zr_ S).1=qR_ S:=w4_ (fun k=>by rw[hb1]) fun n=>by rw[qh_]
  omega
 |syncDir k hk hb=>exact .inl (Nat.le_of_eq (w4_ (fun j=>by rw[ku_,hb1]) fun n=>by show(zl_ (zr_ S).1 n).data.length=_;rw[qh_]))
 |rename k m h4 hk hm hf hne hb=>
  have hk3:=(zD_ hk).1
  have hcg: ∀l,qv_ (zr_ S).1 l=qv_ S l:=fun l=>km_ fun p _=>by rw[qh_]
  refine .inl (Q4_ hk3 (fun j hj hjk=> ?_) ?_)
  ·rw[jB_,if_neg hjk,hb1]
   exact hcg _
  ·rw[jB_,if_pos rfl]
   show qv_ (zr_ S).1 (Xd_ (qL_ ((zr_ S).1.dir k).seen name) (s,(zx_ ((zr_ S).1.dir k).seen name).getD 0))≤_
   rw[hb1,hm,hcg,af8_]
   have h1:=abn_ S (zX_ hm)
   have h2:=wu_ S s (qL_ (S.dir k).seen name)
   show(zl_ S m).data.length+qv_ S (qL_ (qL_ (S.dir k).seen name) s)≤_
   omega
 |remove k m hk hm hb=>
  have hk3:=(zD_ hk).1
  have hcg: ∀l,qv_ (zr_ S).1 l=qv_ S l:=fun l=>km_ fun p _=>by rw[qh_]
  refine .inl (Q4_ hk3 (fun j hj hjk=> ?_) ?_)
  ·rw[jB_,if_neg hjk,hb1]
   exact hcg _
  ·rw[jB_,if_pos rfl]
   show qv_ (zr_ S).1 (qL_ ((zr_ S).1.dir k).seen name)≤_
   rw[hb1,hcg]
   exact wu_ S name _
theorem aay_ (ok:DkOk S) (hu:vs_ S) (h:StepD S kind dir name s S' e):qR_ S'≤qR_ S+s.length:=by
 rcases ahE_ ok hu h with h|h
 ·omega
 ·exact h.1
end
end Go.Proofs
end
section
open Go Go.Proofs Go.Sx Go.StP
namespace Go.Proofs
set_option maxRecDepth 10000
set_option maxHeartbeats 400000
set_option linter.unusedSimpArgs false
theorem JL_ (q:DiskL×List UInt16): ∀k,(z8_ q k).1.files=q.1.files
 |0=>rfl
 |k+1=>JL_ q k
theorem ada_ (q:DiskL×List UInt16) {j:Nat}: ∀ {k:Nat},j<k→ ∃i,i≤ (q.1.dir j).pend.length∧(z8_ q k).1.dir j=⟨x0_ q.1 j i,x0_ q.1 j i,[]⟩
 |k+1,h=>by
  show∃i,i≤_∧(qD_ (z8_ q k).1 k _).dir j=_
  by_cases e:j=k
  ·subst e
   rw[q1_]
   have hd:=QY_ q (Nat.le_refl j)
   refine⟨vk_ (z8_ q j).2 ((z8_ q j).1.dir j).pend.length, ?_, ?_⟩
   ·rw[hd];exact aam_ _ _
   ·unfold x0_
    rw[hd]
  ·rw[jW_ _ _ e]
   exact ada_ q (by omega)
theorem abS_ (S:DiskL) (pl:List UInt16) {k:Nat} (hk:k<3): ∃i,i≤ (S.dir k).pend.length∧(qI_ S pl).dir k=⟨x0_ S k i,x0_ S k i,[]⟩:=by
 obtain⟨i,h1,h2⟩:=ada_ (S,pl) hk
 exact⟨i,h1,by unfold qI_;rw[kn_];exact h2⟩
theorem abV_ (S:DiskL) (pl:List UInt16): (qI_ S pl).off=false:=by
 unfold qI_
 rw[Q2_];rfl
def BegF (f g:FileL):Prop:=(∃t,g.data=f.data.take t)∧(f.stl=f.data.length→g.data=f.data∧g.stl=g.data.length)
theorem BegF.refl (f:FileL):BegF f f:=⟨⟨f.data.length,(List.take_length).symm⟩,fun h=>⟨rfl,h⟩⟩
theorem BegF.trans {f g h:FileL} (h1:BegF f g) (h2:BegF g h):BegF f h:=by
 obtain⟨⟨t,ht⟩,a⟩:=h1
 obtain⟨⟨u,hu⟩,b⟩:=h2
 refine⟨⟨min u t,by rw[hu,ht,List.take_take]⟩,fun e=> ?_⟩
 obtain⟨a1,a2⟩:=a e
 obtain⟨b1,b2⟩:=b a2
 exact⟨b1.trans a1,b2⟩
theorem aky_ (S:DiskL) {n:Nat} (h:S.files.length≤n):zl_ S n=jt_:=by
 unfold zl_
 rw[List.getD_eq_getElem?_getD,List.getElem?_eq_none h];rfl
theorem ab2_ (S:DiskL) {m:Nat} (h:S.files.length≤m) (f:FileL):j0_ S m f=S:=by
 unfold j0_
 rw[List.set_eq_of_length_le h]
theorem ahv_ (q:DiskL×List UInt16) (p:List UInt8×Nat) (n:Nat):BegF (zl_ q.1 n) (zl_ (jh_ q p).1 n):=by
 unfold jh_
 simp only
 by_cases hm:p.2<q.1.files.length
 ·rw[kC_ _ _ hm]
  by_cases e:n=p.2
  ·subst e
   rw[if_pos rfl]
   refine⟨⟨_,rfl⟩,fun h=> ?_⟩
   have h1: (zl_ q.1 p.2).data.take ((zl_ q.1 p.2).stl+vk_ q.2 ((zl_ q.1 p.2).data.length - (zl_ q.1 p.2).stl))=(zl_ q.1 p.2).data:=List.take_of_length_le (by rw[←h];omega)
   exact⟨h1,rfl⟩
  ·rw[if_neg e];exact BegF.refl _
 ·rw[ab2_ _ (by omega)];exact BegF.refl _
theorem WH_ (q:DiskL×List UInt16) (p:List UInt8×Nat) (n:Nat) (h:n=p.2∨(zl_ q.1 n).stl=(zl_ q.1 n).data.length): (zl_ (jh_ q p).1 n).stl=(zl_ (jh_ q p).1 n).data.length:=by
 unfold jh_
 simp only
 by_cases hm:p.2<q.1.files.length
 ·rw[kC_ _ _ hm]
  by_cases e:n=p.2
  ·rw[if_pos e]
  ·rw[if_neg e];exact h.resolve_left e
 ·rw[ab2_ _ (by omega)]
  rcases h with h|h
  ·rw[aky_ _ (by omega)];rfl
  ·exact h
theorem V4_ (n:Nat): ∀ (l:NmL) (q:DiskL×List UInt16),BegF (zl_ q.1 n) (zl_ (l.foldl jh_ q).1 n)∧(n∈l.map Prod.snd∨(zl_ q.1 n).stl=(zl_ q.1 n).data.length→(zl_ (l.foldl jh_ q).1 n).stl=(zl_ (l.foldl jh_ q).1 n).data.length)
 | [],q=>⟨BegF.refl _,fun h=>h.resolve_left (by simp)⟩
 |p::l,q=>by
  obtain⟨h1,h2⟩:=V4_ n l (jh_ q p)
  refine⟨(ahv_ q p n).trans h1,fun h=>h2 ?_⟩
  rcases h with h|h
  ·rw[List.map_cons] at h
   rcases List.mem_cons.1 h with h|h
   ·exact .inr (WH_ q p n (.inl h))
   ·exact .inl h
  ·exact .inr (WH_ q p n (.inr h))
theorem V9_ (n:Nat) (q:DiskL×List UInt16): ∀k,BegF (zl_ q.1 n) (zl_ (qO_ q k).1 n)∧((∃j,j<k∧n∈ (q.1.dir j).seen.map Prod.snd)∨(zl_ q.1 n).stl=(zl_ q.1 n).data.length→(zl_ (qO_ q k).1 n).stl=(zl_ (qO_ q k).1 n).data.length)
 |0=>⟨BegF.refl _,fun h=>h.resolve_left (by rintro⟨j,hj,-⟩;omega)⟩
 |k+1=>by
  obtain⟨h1,h2⟩:=V9_ n q k
  obtain⟨g1,g2⟩:=V4_ n (q.1.dir k).seen (qO_ q k)
  refine⟨h1.trans g1,fun h=>g2 ?_⟩
  rcases h with⟨j,hj,hm⟩ |h
  ·by_cases e:j=k
   ·subst e;exact .inl hm
   ·exact .inr (h2 (.inl ⟨j,by omega,hm⟩))
  ·exact .inr (h2 (.inr h))
theorem akS_ (S:DiskL) (pl:List UInt16) (n:Nat):BegF (zl_ S n) (zl_ (qI_ S pl) n):=by
 have h:=(V9_ n (QJ_ (z8_ (S,pl) 3).1,(z8_ (S,pl) 3).2) 3).1
 have e:zl_ (QJ_ (z8_ (S,pl) 3).1) n=zl_ S n:=by
  unfold zl_ QJ_
  rw[JL_]
 rw[←e];exact h
def NumD (d:DirL) (n:Nat):Prop:=(∃p,p∈d.stl∧p.2=n)∨ ∃c,c∈d.pend∧c.kind=0∧c.n=n
def aw5_ (S:DiskL):Prop:= ∀j k,j<3→k<3→ ∀n,NumD (S.dir j) n→NumD (S.dir k) n→j=k
def HadS (S:DiskL) (had:List FiL):Prop:= ∀k,k<3→ ∀n,NumD (S.dir k) n→ ∃f,f∈had∧f.dir=Z6_ k∧f.data=(zl_ S n).data
def vA_ (S:DiskL):Prop:=S.off=false∧S.fused=false
theorem jR_ {S:DiskL} (h:vA_ S):zr_ S=(S,0):=by
 unfold zr_
 rw[if_neg (by rw[h.2];simp),if_neg (by rw[h.2];simp)]
section
variable {S S':DiskL} {kind:Int} {dir name s:List UInt8} {e:Nat}
theorem aji_ (hc:vA_ S) (h:StepD S kind dir name s S' e):vA_ S':=by
 have hb:=jR_ hc
 have hb':vA_ (zr_ S).1:=by rw[hb];exact hc
 cases h<;>first|exact hc|exact hb'
end
theorem aee_ {S:DiskL} (h:vA_ S) (f:FiL):vA_ (jr_ S f)∧(jr_ S f).max=S.max:=by
 unfold jr_
 split
 ·split
  ·exact⟨h,rfl⟩
  ·exact⟨h,rfl⟩
 ·exact⟨h,rfl⟩
theorem Xy_: ∀ (l:List FiL) {S:DiskL},vA_ S→vA_ (l.foldl jr_ S)∧(l.foldl jr_ S).max=S.max
 | [],_,h=>⟨h,rfl⟩
 |f::l,S,h=>by
  obtain⟨h1,h2⟩:=aee_ h f
  obtain⟨h3,h4⟩:=Xy_ l h1
  exact⟨h3,h4.trans h2⟩
theorem aqv_ (q:Int) (l:List FiL):vA_ (ofD q l)∧(ofD q l).max=q:=Xy_ l (S:=wZ_ q) ⟨rfl,rfl⟩
end Go.Proofs
end
section
open Go Go.Proofs Go.Sx Go.StP
namespace Go.Proofs
set_option maxRecDepth 10000
set_option maxHeartbeats 400000
set_option linter.unusedSimpArgs false
structure KeepS (S:DiskL) (k:Nat) (nm:List UInt8) (n:Nat) (data:List UInt8):Prop where
 lt:n<S.files.length
 data: (zl_ S n).data=data
 stl: (zl_ S n).stl=(zl_ S n).data.length
 at_:zx_ (S.dir k).stl nm=some n
 pend: ∀c,c∈ (S.dir k).pend→c.a≠nm∧(c.kind=1→c.b≠nm)
theorem abp_ {x:List UInt8×Nat} {s:List UInt8} (hx:x.1≠s): ∀l:NmL,zx_ (insN l x) s=zx_ l s
 | []=>by
  have: (s==x.1)=false:=beq_eq_false_iff_ne.2 (Ne.symm hx)
  unfold insN zx_
  rw[List.find?_cons,this]
 |p::l=>by
  have e: (s==x.1)=false:=beq_eq_false_iff_ne.2 (Ne.symm hx)
  have ih:=abp_ hx l
  unfold insN
  split
  ·unfold zx_
   rw[List.find?_cons,e]
  ·unfold zx_ at ih ⊢
   rw[List.find?_cons,List.find?_cons]
   split
   ·rfl
   ·exact ih
theorem Z9_ {a s:List UInt8} (ha:a≠s): ∀l:NmL,zx_ (qL_ l a) s=zx_ l s
 | []=>rfl
 |p::l=>by
  have ih:=Z9_ ha l
  unfold qL_ at ih ⊢
  rw[List.filter_cons]
  by_cases e:a=p.1
  ·have e1: (s==p.1)=false:=beq_eq_false_iff_ne.2 (fun h=>ha (by rw[e,h]))
   rw[if_neg (by rw[e];simp),ih]
   unfold zx_
   rw[List.find?_cons,e1]
  ·rw[if_pos (by simpa using e)]
   unfold zx_ at ih ⊢
   rw[List.find?_cons,List.find?_cons]
   split
   ·rfl
   ·exact ih
theorem aaL_ {x:List UInt8×Nat} {s:List UInt8} (hx:x.1≠s) (l:NmL):zx_ (Xd_ l x) s=zx_ l s:=by
 unfold Xd_
 rw[abp_ hx,Z9_ hx]
theorem aa8_ {l:NmL} {c:CallL} {s:List UInt8} (h:c.a≠s∧(c.kind=1→c.b≠s)):zx_ (jb_ l c) s=zx_ l s:=by
 unfold jb_
 split
 ·exact aaL_ h.1 l
 ·rename_i hk
  rw[aaL_ (h.2 hk),Z9_ h.1]
 ·exact Z9_ h.1 l
theorem XT_ {s:List UInt8}: ∀ (cs:List CallL) (l:NmL),(∀c,c∈cs→c.a≠s∧(c.kind=1→c.b≠s))→zx_ (cs.foldl jb_ l) s=zx_ l s
 | [],_,_=>rfl
 |c::cs,l,h=>by
  rw[List.foldl_cons,XT_ cs _ fun d hd=>h d (List.mem_cons_of_mem _ hd),aa8_ (h c List.mem_cons_self)]
section
variable {S S':DiskL} {kind:Int} {dir name s:List UInt8} {e k n:Nat} {nm data:List UInt8}
theorem KeepS.seen (h:KeepS S k nm n data) (hh:vH_ S):zx_ (S.dir k).seen nm=some n:=by
 rw[← (hh k).1,XT_ _ _ h.pend,h.at_]
theorem aiH_ (hk:k<3) (hf:qY_ nm=true) (hK:KeepS S k nm n data) (pl:List UInt16):xl_ (qI_ S pl) (Z6_ k) nm=(data,0):=by
 obtain⟨i,h1,h2⟩:=abS_ S pl hk
 have hat:zx_ ((qI_ S pl).dir k).seen nm=some n:=by
  rw[h2]
  show zx_ (x0_ S k i) nm=_
  unfold x0_
  rw[XT_ _ _ fun c hc=>hK.pend c (List.mem_of_mem_take hc),hK.at_]
 have hfe:qZ_ (qI_ S pl) (Z6_ k) [nm]=0:=by
  unfold qZ_
  rw[xQ_ hk,abV_,if_neg (by simp[hf]),if_neg (by simp)]
 have hd:=((akS_ S pl n).2 hK.stl).1
 unfold xl_
 rw[if_neg (by rw[hfe];simp)]
 have ha:atD (qI_ S pl) (Z6_ k) nm=some n:=by unfold atD;rw[xQ_ hk];exact hat
 have ha': ((zG_ (Z6_ k)).bind fun k=>zx_ ((qI_ S pl).dir k).seen nm)=some n:=ha
 rw[ha']
 show((zl_ (qI_ S pl) n).data,0)=_
 rw[hd,hK.data]
end
end Go.Proofs
end
section
open Go Go.Proofs Go.Sx Go.StP
namespace Go.Proofs
set_option maxRecDepth 10000
set_option maxHeartbeats 400000
set_option linter.unusedSimpArgs false
def qo_ (S:DiskL) (j:Nat) (x:List UInt8):Option (List UInt8):=(zx_ (S.dir j).seen x).map fun n=>(zl_ S n).data
structure GoodS (S:DiskL):Prop where
 srt: ∀k,k<3→SrtN (S.dir k).seen
 lt:LtS S
 uniq:vs_ S
theorem DkOk.good {S:DiskL} (ok:DkOk S) (hu:vs_ S):GoodS S:=⟨ok.seen,ok.seenN,hu⟩
def qP_ (s:List UInt8):List UInt8:=s++ [46,116,109,112]
theorem ape_ (s:List UInt8):qP_ s≠s:=fun h=>by
 have:=congrArg List.length h
 unfold qP_ at this
 simp at this
def aur_ (dir nm:List UInt8) (f:FiL):Bool:= !(f.dir==dir) || (!(f.name==nm)&& !(f.name==qP_ nm))
def othF (dir nm:List UInt8) (l:List FiL):List FiL:=l.filter (aur_ dir nm)
def OthN (dir nm:List UInt8) (j:Nat) (x:List UInt8):Prop:=Z6_ j=dir→x≠nm∧x≠qP_ nm
section
variable {S S':DiskL} {kind:Int} {dir name s:List UInt8} {e:Nat}
theorem Qi_ {S S':DiskL} {j:Nat} {x:List UInt8} (h1:zx_ (S'.dir j).seen x=zx_ (S.dir j).seen x) (h2: ∀n,zx_ (S.dir j).seen x=some n→(zl_ S' n).data=(zl_ S n).data):qo_ S' j x=qo_ S j x:=by
 unfold qo_
 rw[h1]
 cases hf:zx_ (S.dir j).seen x with
 |none=>rfl
 |some n=>exact congrArg some (h2 n hf)
theorem acP_ (hg:GoodS S) (h:StepD S kind dir name s S' e) {j:Nat} (hj:j<3) {x:List UInt8} (hx:Z6_ j=dir→x≠name∧(kind=4→x≠s)):qo_ S' j x=qo_ S j x:=by
 obtain⟨hb1,hb2,-⟩:=qA_ S
 have hd: ∀ {k},zG_ dir=some k→j=k→x≠name∧(kind=4→x≠s):=fun hk e=>hx (by rw[e];exact(zD_ hk).2.symm)
 have turn: ∀ {T:DiskL} {k:Nat} {c:CallL},(∀n,n<S.files.length→zl_ T n=zl_ S n)→T.dir=S.dir→(j=k→c.a≠x∧(c.kind=1→c.b≠x))→qo_ (x1_ T k c) j x=qo_ S j x:=fun{T k c} hf hT hc=>
  Qi_ (by
   rw[jB_]
   by_cases e:j=k
   ·rw[if_pos e,aa8_ (hc e),hT,e]
   ·rw[if_neg e,hT]) fun n hn=>by
   show(zl_ T n).data=_
   rw[hf n (hg.lt j hj _ (zX_ hn))]
 have set: ∀ {k m:Nat} (f:FileL),zG_ dir=some k→zx_ (S.dir k).seen name=some m→qo_ (j0_ (zr_ S).1 m f) j x=qo_ S j x:=fun{k m} f hk hm=>
  Qi_ (by show zx_ ((zr_ S).1.dir j).seen x=_;rw[hb1]) fun n hn=>by
   have hml:m< (zr_ S).1.files.length:=by rw[hb2];exact hg.lt k (zD_ hk).1 _ (zX_ hm)
   rw[kC_ _ _ hml,qh_]
   by_cases e:n=m
   ·subst e
    have h1:=hg.uniq j k hj (zD_ hk).1 _ (zX_ hn) _ (zX_ hm) rfl
    exact absurd (congrArg Prod.fst h1.2) (hd hk h1.1).1
   ·rw[if_neg e]
 cases h with
 |same=>rfl
 |burn=>exact Qi_ (by rw[hb1]) fun n _=>by rw[qh_]
 |create k hk hf hn hb=>exact turn (fun n hn=>by rw[acM_ _ _ (by rw[hb2];exact hn),qh_]) hb1 fun e=>⟨Ne.symm (hd hk e).1,fun h=>by cases h⟩
 |append k m hk hm hf hb=>exact set _ hk hm
 |sync k m hk hm hb=>exact set _ hk hm
 |syncDir k hk hb=>exact Qi_ (by rw[ku_,hb1]) fun n _=>by show(zl_ (zr_ S).1 n).data=_;rw[qh_]
 |rename k m h4 hk hm hf hne hb=>exact turn (fun n _=>qh_ S n) hb1 fun e=>⟨Ne.symm (hd hk e).1,fun _=>Ne.symm ((hd hk e).2 h4)⟩
 |remove k m hk hm hb=>exact turn (fun n _=>qh_ S n) hb1 fun e=>⟨Ne.symm (hd hk e).1,fun h=>by cases h⟩
end
end Go.Proofs
end
section
open Go Go.Proofs Go.Sx Go.StP
namespace Go.Proofs
set_option maxRecDepth 10000
set_option maxHeartbeats 400000
set_option linter.unusedSimpArgs false
structure TkL where
 dir:List UInt8
 name:List UInt8
 data:List UInt8
 light:Bool
 next:Nat
 made:Bool
 ended:Bool
structure PhR where
 did:Bool
 e:Nat
 t:TkL
 S:DiskL
def Wx_ (t:TkL) (S:DiskL):PhR:=if(xl_ S t.dir (qP_ t.name)).2≠0 then⟨false,0,t,S⟩ else⟨true,(qz_ S t.dir (qP_ t.name)).2,t,(qz_ S t.dir (qP_ t.name)).1⟩
def aev_ (t:TkL) (S:DiskL):PhR:=⟨true,(qV_ S t.dir (qP_ t.name)).2,{t with made:=(qV_ S t.dir (qP_ t.name)).2==0},(qV_ S t.dir (qP_ t.name)).1⟩
def afv_ (t:TkL) (S:DiskL):PhR:=⟨true,(qm_ S t.dir (qP_ t.name) t.data).2,t,(qm_ S t.dir (qP_ t.name) t.data).1⟩
def aoc_ (t:TkL) (S:DiskL):PhR:=if t.light=true then⟨false,0,t,S⟩ else⟨true,(qM_ S t.dir (qP_ t.name)).2,t,(qM_ S t.dir (qP_ t.name)).1⟩
def aeu_ (t:TkL) (S:DiskL):PhR:=⟨true,(q4_ S t.dir (qP_ t.name) t.name).2,{t with made:=t.made&& (q4_ S t.dir (qP_ t.name) t.name).2 !=0},(q4_ S t.dir (qP_ t.name) t.name).1⟩
def aaG_ (t:TkL) (S:DiskL):PhR:=if t.light=true then⟨false,0,t,S⟩ else⟨true,(zI_ S t.dir).2,t,(zI_ S t.dir).1⟩
def phT (k:Nat) (t:TkL) (S:DiskL):PhR:=match k with
 |0=>Wx_ t S
 |1=>aev_ t S
 |2=>afv_ t S
 |3=>aoc_ t S
 |4=>aeu_ t S
 |_=>aaG_ t S
structure StR where
 done:Bool
 e:Nat
 t:TkL
 S:DiskL
def nxT (r:PhR):TkL:={r.t with next:=r.t.next+1}
def endT (t:TkL):Bool:=t.next==6|| (t.light&&t.next==5)
def j8_ (r:PhR):StR:=if(nxT r).made=true∧r.e≠9 then⟨false,r.e,{nxT r with ended:=true},(qz_ r.S r.t.dir (qP_ r.t.name)).1⟩ else⟨false,r.e,{nxT r with ended:=true},r.S⟩
def kf_ (r:PhR):TkL:={nxT r with ended:=endT (nxT r)}
def xk_:Nat→TkL→DiskL→StR
 |0,t,S=>⟨false,0,t,S⟩
 |f+1,t,S=>
  if(phT t.next t S).e≠0 then j8_ (phT t.next t S)
  else if(phT t.next t S).did=false∧endT (nxT (phT t.next t S))=false then xk_ f (kf_ (phT t.next t S)) (phT t.next t S).S
  else⟨endT (nxT (phT t.next t S)),0,kf_ (phT t.next t S),(phT t.next t S).S⟩
def xv_ (t:TkL) (S:DiskL):StR:=if t.ended=true then⟨false,15,t,S⟩ else xk_ (6 - t.next) t S
def runG:Nat→TkL→DiskL→Nat×TkL×DiskL
 |0,t,S=>(0,t,S)
 |f+1,t,S=>if(xv_ t S).done=true∨(xv_ t S).e≠0 then((xv_ t S).e,(xv_ t S).t,(xv_ t S).S) else runG f (xv_ t S).t (xv_ t S).S
def phG:Nat→TkL→DiskL→Nat×DiskL
 |0,_,S=>(0,S)
 |f+1,t,S=>
  if(phT t.next t S).e≠0 then((j8_ (phT t.next t S)).e,(j8_ (phT t.next t S)).S)
  else if endT (nxT (phT t.next t S))=true then(0,(phT t.next t S).S)
  else phG f (kf_ (phT t.next t S)) (phT t.next t S).S
theorem atY_ (f:Nat) (t:TkL) (S:DiskL):phG (f+1) t S=(if(phT t.next t S).e≠0 then((j8_ (phT t.next t S)).e,(j8_ (phT t.next t S)).S)
  else if endT (nxT (phT t.next t S))=true then(0,(phT t.next t S).S)
  else phG f (kf_ (phT t.next t S)) (phT t.next t S).S):=rfl
theorem anl_ (k:Nat) (t:TkL) (S:DiskL): (phT k t S).t.dir=t.dir∧(phT k t S).t.name=t.name∧(phT k t S).t.data=t.data∧(phT k t S).t.light=t.light∧(phT k t S).t.next=t.next∧(phT k t S).t.ended=t.ended:=by
 unfold phT
 split
 ·unfold Wx_;split<;>exact⟨rfl,rfl,rfl,rfl,rfl,rfl⟩
 ·exact⟨rfl,rfl,rfl,rfl,rfl,rfl⟩
 ·exact⟨rfl,rfl,rfl,rfl,rfl,rfl⟩
 ·unfold aoc_;split<;>exact⟨rfl,rfl,rfl,rfl,rfl,rfl⟩
 ·exact⟨rfl,rfl,rfl,rfl,rfl,rfl⟩
 ·unfold aaG_;split<;>exact⟨rfl,rfl,rfl,rfl,rfl,rfl⟩
theorem ajK_ (k:Nat) (t:TkL) (S:DiskL): (kf_ (phT k t S)).dir=t.dir∧(kf_ (phT k t S)).name=t.name∧(kf_ (phT k t S)).data=t.data∧(kf_ (phT k t S)).light=t.light∧(kf_ (phT k t S)).next=t.next+1:=by
 obtain⟨h1,h2,h3,h4,h5,-⟩:=anl_ k t S
 exact⟨h1,h2,h3,h4,congrArg (· +1) h5⟩
theorem amP_ (r:PhR): (j8_ r).e=r.e∧(j8_ r).done=false:=by
 unfold j8_
 split<;>exact⟨rfl,rfl⟩
theorem aeY_: ∀ (f:Nat) (t:TkL) (S:DiskL),f+t.next=6→0<f→
  ((xk_ f t S).e≠0∧phG f t S=((xk_ f t S).e,(xk_ f t S).S))∨
  ((xk_ f t S).e=0∧(xk_ f t S).done=true∧phG f t S=(0,(xk_ f t S).S))∨
  ((xk_ f t S).e=0∧(xk_ f t S).done=false∧(xk_ f t S).t.ended=false∧t.next< (xk_ f t S).t.next∧(xk_ f t S).t.next<6∧phG f t S=phG (6 - (xk_ f t S).t.next) (xk_ f t S).t (xk_ f t S).S)
 |0,_,_,_,h=>absurd h (Nat.lt_irrefl 0)
 |f+1,t,S,hf,_=>by
  obtain⟨-,-,-,-,hn,-⟩:=anl_ t.next t S
  have hfn: (kf_ (phT t.next t S)).next=t.next+1:=(ajK_ t.next t S).2.2.2.2
  have hfe: (kf_ (phT t.next t S)).ended=endT (nxT (phT t.next t S)):=rfl
  unfold xk_
  rw[atY_]
  by_cases he: (phT t.next t S).e≠0
  ·rw[if_pos he,if_pos he]
   exact .inl ⟨by rw[(amP_ _).1];exact he,rfl⟩
  ·rw[if_neg he,if_neg he]
   cases hen:endT (nxT (phT t.next t S)) with
   |true=>
    rw[if_neg (fun h=>by cases h.2),if_pos rfl]
    exact .inr (.inl ⟨rfl,rfl,rfl⟩)
   |false=>
    have hlt:t.next+1<6:=by
     have h1: (nxT (phT t.next t S)).next=t.next+1:=congrArg (· +1) hn
     unfold endT at hen
     rw[h1] at hen
     simp only[Bool.or_eq_false_iff,beq_eq_false_iff_ne] at hen
     have:=hen.1
     omega
    rw[if_neg (show¬ (false=true) by simp)]
    by_cases hd: (phT t.next t S).did=false
    ·rw[if_pos ⟨hd,rfl⟩]
     have ih:=aeY_ f (kf_ (phT t.next t S)) (phT t.next t S).S (by rw[hfn];omega) (by omega)
     rw[hfn] at ih
     rcases ih with h|h| ⟨h1,h2,h3,h4,h5⟩
     ·exact .inl h
     ·exact .inr (.inl h)
     ·exact .inr (.inr ⟨h1,h2,h3,by omega,h5⟩)
    ·rw[if_neg fun h=>hd h.1]
     refine .inr (.inr ⟨rfl,rfl,hfe.trans hen,by show t.next< (kf_ (phT t.next t S)).next;rw[hfn];omega,by show(kf_ (phT t.next t S)).next<6;rw[hfn];exact hlt, ?_⟩)
     show phG f _ _=phG (6 - (kf_ (phT t.next t S)).next) _ _
     rw[hfn,show 6 - (t.next+1)=f by omega]
theorem app_: ∀ (n f:Nat) (t:TkL) (S:DiskL),6 - t.next≤n→t.next<6→t.ended=false→6 - t.next≤f→((runG f t S).1,(runG f t S).2.2)=phG (6 - t.next) t S
 |0,_,_,_,hn,hl,_,_=>by omega
 |n+1,0,_,_,_,hl,_,hf=>by omega
 |n+1,f+1,t,S,hn,hl,he,hf=>by
  have hs:xv_ t S=xk_ (6 - t.next) t S:=by unfold xv_;rw[if_neg (by rw[he];simp)]
  unfold runG
  rw[hs]
  rcases aeY_ (6 - t.next) t S (by omega) (by omega) with⟨h1,h2⟩ | ⟨h1,h2,h3⟩ | ⟨h1,h2,h3,h4,h5,h6⟩
  ·rw[if_pos (.inr h1),h2]
  ·rw[if_pos (.inl h2),h3,h1]
  ·rw[if_neg (by rw[h1,h2];simp),h6]
   exact app_ n f _ _ (by omega) h5 h3 (by omega)
def tk0 (dir name data:List UInt8) (light:Bool):TkL:=⟨dir,name,data,light,0,false,false⟩
def pubV (S:DiskL) (dir name data:List UInt8) (light:Bool):Nat×DiskL:=phG 6 (tk0 dir name data light) S
theorem aqT_ (S:DiskL) (dir name data:List UInt8) (light:Bool): ((runG 6 (tk0 dir name data light) S).1,(runG 6 (tk0 dir name data light) S).2.2)=pubV S dir name data light:=app_ 6 6 (tk0 dir name data light) S (Nat.le_refl 6) (Nat.succ_pos 5) rfl (Nat.le_refl 6)
end Go.Proofs
end
section
open Go Go.Proofs Go.Sx Go.StP
namespace Go.Proofs
set_option maxRecDepth 10000
set_option maxHeartbeats 400000
set_option linter.unusedSimpArgs false
theorem abo_ {l:NmL} {s:List UInt8} (h: ∀p,p∈l→p.1≠s):zx_ l s=none:=by
 cases hf:zx_ l s with
 |none=>rfl
 |some n=>exact absurd rfl (h _ (zX_ hf))
theorem ZE_ (l:NmL) (s:List UInt8):zx_ (qL_ l s) s=none:=abo_ fun _ hp=>(mem_wipe.1 hp).2
theorem Qw_ {l:NmL} (h:SrtN l) (x:List UInt8×Nat):zx_ (Xd_ l x) x.1=some x.2:=QV_ (Xb_ x h).nodup (mem_put.2 (.inl rfl))
theorem jm_ {S:DiskL} (hc:vA_ S) {dir:List UInt8} {k:Nat} (hk:zG_ dir=some k) (names:List (List UInt8)):qZ_ S dir names=if names.all qY_=false then 1 else 0:=by
 unfold qZ_
 rw[hk,hc.1]
 cases names.all qY_<;>simp
theorem vt_ {S:DiskL} {k:Nat} {x d:List UInt8} (h:qo_ S k x=some d): ∃n,zx_ (S.dir k).seen x=some n∧(zl_ S n).data=d:=by
 unfold qo_ at h
 cases hf:zx_ (S.dir k).seen x with
 |none=>rw[hf] at h;cases h
 |some n=>rw[hf] at h;exact⟨n,rfl,Option.some.inj h⟩
theorem KL_ {S:DiskL} {k:Nat} {x:List UInt8} (h:qo_ S k x=none):zx_ (S.dir k).seen x=none:=by
 unfold qo_ at h
 cases hf:zx_ (S.dir k).seen x with
 |none=>rfl
 |some n=>rw[hf] at h;cases h
theorem aeb_ {S:DiskL} {dir:List UInt8} {k:Nat} (hk:zG_ dir=some k) (x:List UInt8):atD S dir x=zx_ (S.dir k).seen x:=by
 unfold atD
 rw[hk];rfl
theorem Wv_ {S:DiskL} (hc:vA_ S) {dir:List UInt8} {k:Nat} (hk:zG_ dir=some k) {x:List UInt8} (hf:qY_ x=true):xl_ S dir x=match qo_ S k x with|none=>([],6) |some d=>(d,0):=by
 have h0:qZ_ S dir [x]=0:=by rw[jm_ hc hk,if_neg (by simp[hf])]
 unfold xl_
 rw[if_neg (by rw[h0];simp)]
 have h1: ((zG_ dir).bind fun k=>zx_ (S.dir k).seen x)=zx_ (S.dir k).seen x:=by rw[hk];rfl
 rw[h1]
 unfold qo_
 cases zx_ (S.dir k).seen x<;>rfl
section
variable {S:DiskL} {dir x:List UInt8} {k:Nat}
theorem afg_ (hg:GoodS S) (hc:vA_ S) (hk:zG_ dir=some k) (hf:qY_ x=true) (hv:qo_ S k x=none): (qV_ S dir x).2=0∧qo_ (qV_ S dir x).1 k x=some []:=by
 have h0:qZ_ S dir [x]=0:=by rw[jm_ hc hk,if_neg (by simp[hf])]
 have hk3:=(zD_ hk).1
 unfold qV_
 rw[if_neg (by rw[h0];simp),aeb_ hk,KL_ hv]
 simp only
 rw[jR_ hc,if_neg (by simp),hk]
 refine⟨rfl, ?_⟩
 show(zx_ ((x1_ (xc_ S jt_) k ⟨0,x,[],S.files.length⟩).dir k).seen x).map _=_
 rw[jB_,if_pos rfl]
 show(zx_ (Xd_ (S.dir k).seen (x,S.files.length)) x).map _=_
 rw[Qw_ (hg.srt k hk3) (x,S.files.length)]
 show some (zl_ (xc_ S jt_) S.files.length).data=_
 rw[acg_];rfl
theorem XP_ (hc:vA_ S) (hk:zG_ dir=some k) (hf:qY_ x=true) {d:List UInt8} (hv:qo_ S k x=some d): (qz_ S dir x).2=0∧qo_ (qz_ S dir x).1 k x=none:=by
 have h0:qZ_ S dir [x]=0:=by rw[jm_ hc hk,if_neg (by simp[hf])]
 obtain⟨n,hn,-⟩:=vt_ hv
 unfold qz_
 rw[if_neg (by rw[h0];simp),aeb_ hk,hn]
 simp only
 rw[jR_ hc,if_neg (by simp),hk]
 refine⟨rfl, ?_⟩
 show(zx_ ((x1_ S k ⟨2,x,[],0⟩).dir k).seen x).map _=_
 rw[jB_,if_pos rfl]
 show(zx_ (qL_ (S.dir k).seen x) x).map _=_
 rw[ZE_];rfl
theorem aem_ (hg:GoodS S) (hc:vA_ S) (hk:zG_ dir=some k) (hf:qY_ x=true) {d:List UInt8} (hv:qo_ S k x=some d) (s:List UInt8): ((qm_ S dir x s).2=8∧(qm_ S dir x s).1=S)∨((qm_ S dir x s).2=0∧qo_ (qm_ S dir x s).1 k x=some (d++s)):=by
 have h0:qZ_ S dir [x]=0:=by rw[jm_ hc hk,if_neg (by simp[hf])]
 obtain⟨n,hn,hd⟩:=vt_ hv
 have hnl:=hg.lt k (zD_ hk).1 _ (zX_ hn)
 unfold qm_
 rw[if_neg (by rw[h0];simp),aeb_ hk,hn]
 simp only
 by_cases hfl:Zs_ S n s=true
 ·rw[if_pos hfl];exact .inl ⟨rfl,rfl⟩
 ·rw[if_neg hfl,jR_ hc,if_neg (by simp)]
  refine .inr ⟨rfl, ?_⟩
  show(zx_ (S.dir k).seen x).map (fun m=>(zl_ (j0_ S n _) m).data)=_
  rw[hn]
  show some (zl_ (j0_ S n _) n).data=_
  rw[kC_ _ _ hnl,if_pos rfl,←hd]
theorem aka_ (hg:GoodS S) (hc:vA_ S) (hk:zG_ dir=some k) (hf:qY_ x=true) {d:List UInt8} (hv:qo_ S k x=some d): (qM_ S dir x).2=0∧qo_ (qM_ S dir x).1 k x=some d:=by
 have h0:qZ_ S dir [x]=0:=by rw[jm_ hc hk,if_neg (by simp[hf])]
 obtain⟨n,hn,hd⟩:=vt_ hv
 have hnl:=hg.lt k (zD_ hk).1 _ (zX_ hn)
 unfold qM_
 rw[if_neg (by rw[h0];simp),aeb_ hk,hn]
 simp only
 rw[jR_ hc,if_neg (by simp)]
 refine⟨rfl, ?_⟩
 show(zx_ (S.dir k).seen x).map (fun m=>(zl_ (j0_ S n _) m).data)=_
 rw[hn]
 show some (zl_ (j0_ S n _) n).data=_
 rw[kC_ _ _ hnl,if_pos rfl,←hd]
theorem adh_ (hc:vA_ S) (hk:zG_ dir=some k): (zI_ S dir).2=0∧ ∀j y,qo_ (zI_ S dir).1 j y=qo_ S j y:=by
 have h0:qZ_ S dir []=0:=by rw[jm_ hc hk,if_neg (by simp)]
 unfold zI_
 rw[if_neg (by rw[h0];simp),jR_ hc,if_neg (by simp),hk]
 refine⟨rfl,fun j y=> ?_⟩
 unfold qo_
 show(zx_ ((wo_ S k).dir j).seen y).map _=_
 rw[ku_];rfl
theorem ad4_ (hg:GoodS S) (hc:vA_ S) (hk:zG_ dir=some k) (hf:qY_ x=true) {y:List UInt8} (hy:qY_ y=true) (hne:x≠y) {d:List UInt8} (hv:qo_ S k x=some d): (q4_ S dir x y).2=0∧qo_ (q4_ S dir x y).1 k y=some d∧qo_ (q4_ S dir x y).1 k x=none:=by
 have h0:qZ_ S dir [x,y]=0:=by rw[jm_ hc hk,if_neg (by simp[hf,hy])]
 obtain⟨n,hn,hd⟩:=vt_ hv
 have hk3:=(zD_ hk).1
 unfold q4_
 rw[if_neg (by rw[h0];simp),aeb_ hk,hn]
 simp only
 rw[if_neg hne,jR_ hc,if_neg (by simp),hk]
 have hs: ((x1_ S k ⟨1,x,y,0⟩).dir k).seen=Xd_ (qL_ (S.dir k).seen x) (y,n):=by
  rw[jB_,if_pos rfl]
  show Xd_ (qL_ (S.dir k).seen x) (y,(zx_ (S.dir k).seen x).getD 0)=_
  rw[hn];rfl
 refine⟨rfl, ?_, ?_⟩
 ·show(zx_ ((x1_ S k ⟨1,x,y,0⟩).dir k).seen y).map _=_
  rw[hs,Qw_ (QR_ _ (hg.srt k hk3)) (y,n)]
  exact congrArg some hd
 ·show(zx_ ((x1_ S k ⟨1,x,y,0⟩).dir k).seen x).map _=_
  rw[hs,aaL_ (x:=(y,n)) (Ne.symm hne),ZE_];rfl
end
structure OthS (S S':DiskL) (dir nm:List UInt8):Prop where
 good:GoodS S'
 view: ∀j,j<3→ ∀x,OthN dir nm j x→qo_ S' j x=qo_ S j x
end Go.Proofs
end
section
open Go Go.Proofs Go.Sx Go.StP
namespace Go.Proofs
set_option maxRecDepth 10000
set_option maxHeartbeats 400000
set_option linter.unusedSimpArgs false
theorem Xm_ {f:Nat} {t t':TkL} {S:DiskL} {r:PhR} (hr:phT t.next t S=r) (he:r.e=0) (hn:endT (nxT r)=false) (ht:kf_ r=t'):phG (f+1) t S=phG f t' r.S:=by
 conv=>lhs;unfold phG
 rw[hr,if_neg (by rw[he];simp),if_neg (by rw[hn];simp),ht]
theorem akT_ {f:Nat} {t:TkL} {S:DiskL} {r:PhR} (hr:phT t.next t S=r) (he:r.e≠0):phG (f+1) t S=((j8_ r).e,(j8_ r).S):=by
 unfold phG
 rw[hr,if_pos he]
theorem aq1_ {f:Nat} {t:TkL} {S:DiskL} {r:PhR} (hr:phT t.next t S=r) (he:r.e=0) (hn:endT (nxT r)=true):phG (f+1) t S=(0,r.S):=by
 unfold phG
 rw[hr,if_neg (by rw[he];simp),if_pos hn]
def tkN (dir nm data:List UInt8) (light:Bool) (n:Nat) (made:Bool):TkL:=⟨dir,nm,data,light,n,made,false⟩
end Go.Proofs
end
section
open Go Go.Proofs Go.Sx Go.StP
namespace Go.Proofs
set_option maxRecDepth 10000
set_option maxHeartbeats 400000
set_option linter.unusedSimpArgs false
structure SetS (S:DiskL):Prop where
 dir: ∀j,j<3→(S.dir j).stl=(S.dir j).seen∧(S.dir j).pend= []
 file: ∀n,(zl_ S n).stl=(zl_ S n).data.length
structure PreI (S0 S:DiskL) (k:Nat) (nm:List UInt8):Prop where
 fs: ∀n,n<S0.files.length→zl_ S n=zl_ S0 n
 len:S0.files.length≤S.files.length
 stl: ∀j,j<3→(S.dir j).stl=(S0.dir j).stl
 pend: ∀j,j<3→ ∀c,c∈ (S.dir j).pend→j=k∧c.a=qP_ nm∧c.kind≠1
def av6_ (S0 S:DiskL) (k:Nat) (nm data:List UInt8) (m:Nat):Prop:=zx_ (S.dir k).seen (qP_ nm)=some m∧S0.files.length≤m∧m<S.files.length∧(zl_ S m).data=data
structure PostI (S0 S:DiskL) (k:Nat) (nm data:List UInt8) (light:Bool) (m:Nat):Prop where
 fs: ∀n,n<S0.files.length→zl_ S n=zl_ S0 n
 stl: ∀j,j<3→(S.dir j).stl=(S0.dir j).stl
 pendO: ∀j,j<3→j≠k→(S.dir j).pend= []
 pend: ∃q,(S.dir k).pend=q++ [⟨1,qP_ nm,nm,0⟩]∧ ∀c,c∈q→c.a=qP_ nm∧c.kind≠1
 at_:zx_ (S.dir k).seen nm=some m
 data: (zl_ S m).data=data
 set:light=false→(zl_ S m).stl=(zl_ S m).data.length
structure DoneI (S0 S:DiskL) (k:Nat) (nm data:List UInt8) (m:Nat):Prop where
 fs: ∀n,n<S0.files.length→zl_ S n=zl_ S0 n
 oth: ∀j,j<3→ ∀x,(j=k→x≠nm∧x≠qP_ nm)→zx_ (S.dir j).stl x=zx_ (S0.dir j).stl x
 pend: ∀j,j<3→(S.dir j).pend= []
 at_:zx_ (S.dir k).stl nm=some m
 data: (zl_ S m).data=data
 set: (zl_ S m).stl=(zl_ S m).data.length
end Go.Proofs
end
section
open Go Go.Proofs Go.Sx Go.StP
namespace Go.Proofs
set_option maxRecDepth 10000
set_option maxHeartbeats 400000
set_option linter.unusedSimpArgs false
section
variable {S0 S:DiskL} {k:Nat} {nm dir data:List UInt8} {m:Nat}
end
end Go.Proofs
end
section
open Go Go.Proofs Go.Sx Go.StP
namespace Go.Proofs
set_option maxRecDepth 10000
set_option maxHeartbeats 400000
set_option linter.unusedSimpArgs false
def auL_ (S0:DiskL) (k:Nat) (nm data:List UInt8) (light:Bool) (r:Nat×DiskL):Prop:=
 (PreI S0 r.2 k nm∧r.1≠0)∨(∃m,PostI S0 r.2 k nm data light m∧(light=false→r.1≠0))∨ ∃m,light=false∧DoneI S0 r.2 k nm data m
end Go.Proofs
end
