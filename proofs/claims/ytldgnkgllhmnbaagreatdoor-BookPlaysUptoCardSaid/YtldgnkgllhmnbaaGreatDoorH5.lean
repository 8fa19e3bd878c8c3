/-
  Part 5 of the walk: contracts of the functions that the law reaches, and the calculus they stand on.
  No conditions.
-/
import Derived.Test.YtldgnkgllhmnbaaGreatDoorH4
import Derived.Lib.Small
import Derived.Lib.Walk
import Derived.Sort.Grow
import Derived.Deep.Draws
import Derived.Shelf.SlSortCmp.NoneTotal
import Derived.Shelf.SlLaysF0
import Derived.Ground.SlsfProg
import Derived.ProofKit
import Derived.OpenShut
import Derived.WideKeyArgs
import Derived.ChangeSame
import Derived.ChangeMaps5
import Derived.Lib.LaidTab
import Derived.SliceStrings
import Derived.DataReads
import Derived.Deep.Strs
set_option linter.unusedVariables false
set_option maxRecDepth 100000
set_option maxHeartbeats 4000000
set_option linter.unusedSimpArgs false
set_option linter.defProp false
open Go.Proofs.Tryz
section
open Go Go.Proofs Go.Sx Go.RefP
namespace Go.Proofs
def Ao(a b:No):(Op.bytesLess a b||a==b)= !(Ys b a):=by
 cases h:Ys b a
 .cases c:(a==b)
  .have d:a≠b:=by simpa using c
   have:Ys a b=true:=mS h (fun e=>d e.symm);show(Ys a b||false)=true;rw[this];rfl
  simp
 have f:Ys a b=false:=Cc h;have c:(a==b)=false:=by rw[WN];exact fun e=>oR h e.symm
 show(Ys a b||_)=false;rw[f,c];rfl
def dT(l t:List Vk):Nat->Option (List Vk)
 |0=>some t
 |g+1=>(dT l t g).bind fun m=>if(bG (l.getD g ar).name&&decide ((Zs m (l.getD g ar)).length<=16))=true then some (Zs m (l.getD g ar)) else none
def ml(t:List Vk):Bool:=mr bG z32 (Xn t)
def dV(t l:List Vk)(k:Nat):Option (List Vk):=if t.length<=16/\l.length<=100/\ml t=true then dT l t k else none
theorem vd(l t:List Vk):∀k,k<=l.length->(dT l t k).map Xn=qj0 bG z32 (Xn l) (Xn t) k
 |0,_=>rfl
 |k+1,a=>by
  have b:=vd l t k oM;unfold dT qj0;rw[<-b];cases dT l t k with
  |none=>rfl
  |some m=>
   simp only[Yn,Ws];rw[jB l k a,<-NP,ew]
   split<;>rfl
def vh(t l:List Vk)(k:Nat)(a:k<=l.length):(dV t l k).map Xn=ofL bG z32 (Xn t) (Xn l) k:=by
 unfold dV ofL;rw[ew,ew];by_cases h:t.length<=16/\l.length<=100/\ml t=true
 .rw[Vb h,Vb (show _/\_/\mr bG z32 (Xn t)=true from h)];exact vd l t k a
 rw[tr h,tr (show¬ (_/\_/\mr bG z32 (Xn t)=true) from h)];rfl
def Bs(t l:List Vk):(dV t l l.length).isSome=am t l:=by unfold am;rw[NX,RefP.XF,ew,<-vh t l l.length (aj _)];cases dV t l l.length<;>rfl
def E6{l t:List Vk}{g:Nat}(h:dT l t g=none):∀k,g<=k->dT l t k=none:=by
 intro k a
 induction a with
 |refl=>exact h
 |step _ b=>unfold dT;rw[b];rfl
def MX{l t m:List Vk}{g:Nat}(h:dT l t g=some m):dT l t (g+1)=if(bG (l.getD g ar).name&&decide ((Zs m (l.getD g ar)).length<=16))=true then some (Zs m (l.getD g ar)) else none:=by rw[dT,h];rfl
def qQ(t:List Vk):ml t=true↔ ∀i,i<t.length->dI bG z32 (Xn t) i=true:=by unfold ml mr;rw[XX,ew];simp
def YH(t l:List Vk)(k:Nat)(v:hU)(D:aA):Prop:=
 match dV t l k with
 |some ls=> ∃x,v=.tuple #[x,.bool true]/\Yq D 114 33 x ls.length (ls.map aI).flatten
 |none=>v=.tuple #[Vj,.bool false]
def YH.no{t l:List Vk}{k:Nat}{D:aA}(h:dV t l k=none):YH t l k (.tuple #[Vj,.bool false]) D:=by unfold YH;rw[h]
structure VG where
 g:Nat
 v:hU
 ls:List Vk
 D:aA
def Ec(s:No)(w:hW)(a:s.length<1099511627776):
  Va prog 49 #[vs s] w (fun v D=>v=.bool (bG s)/\D=[]):=F1 s w a
def BG(vt vl:hU)(t l:List Vk)(k:Nat)(w:hW)(q:cj w vt t)(I:cj w vl l)(zJ:t.length<1000000)(zK:l.length<1000000)(hk:k<=l.length)(zv:dX t)(zw:dX l):
  Va prog 53 #[.agg #[vt,vl],vi k] w (XS w [] (YH t l k)):=by
 refine Va.Vs func53 rfl (rs:=[.tmp 4,.tmp 5]) results53 ntmps53 (fun p A=>by cases A) Wg ?_;refine kf ?_;refine ky @ad ?_;refine Ow.box rfl rfl fun f zL x=>?_;refine Yx ?_;refine Ow.go rfl ?_;simp(disch:=first|exact dD|fail) only[↓Sx.S0,Sx.S1,fx,ad,Nat.reduceAdd,Nat.reducePow,Int.reducePow,Nat.reduceBEq,↓reduceIte,UInt8.reduceToNat,UInt16.reduceToNat,UInt32.reduceToNat,UInt64.reduceToNat,Int.reduceToNat];by_cases R:t.length<=16
 .have J:decide ((16:Int)< (t.length:Int))=false:=by simp;omega
  by_cases zd:l.length<=100
  .have S:decide ((100:Int)< (l.length:Int))=false:=by simp;omega
   obtain⟨b1,K,T,U,V,b⟩:=q.row;refine ky (qS3 @ad q.len I.len @J @S) ?_;refine Cw.VU (G:=Nat) [19,20,21,22,23,26,27,28,29,30,31,32,33,34,35,36,37,38,39,40,41,42,43,44,45,46,47,48,49,50,51,52,53,54,55,56,57,58,59,60,61,62,63,4,5,24,25,6] (fun g=>[(6,vi g)]) (fun g=>[(f, iU vt vl)]) (fun g=>g<=t.length/\ ∀i,i<g->dI bG z32 (Xn t) i=true) (fun g=>t.length - g) 0 rfl rfl ?_ ?_
   .exact⟨aR _,fun i hi=>by omega⟩
   intro g j L;refine kv ?_;obtain⟨zM,W⟩:=L;by_cases a:g<t.length
   .have y:=b.has oM;have zN:=b.lt oM;have B:aF (some (false,1)) (some (.cells T U V)) (K+g*33)=some (vs (t.getD g ar).name):=b.cell (j:=0) (n:=1) a oM;have C:aF (some (true,32)) (some (.cells T U V)) (K+g*33+1)=some (.agg (a8 (t.getD g ar).id.l)):=by
     rw[WL.part b bK a oM oM,A7]
    have Y:=zv g a;have M:=jB t g a;generalize hr:t.getD g ar=r at*;have zO:=r.id.h;refine ky (aN @ad q.len) ?_;refine Cw.Vu [b1,f] [0,2,1,3,4,5,6,7,8,9,11,15,10,12,13,14,16,17,18,19,20,21,22,24,28,30,31,23,25,26,27,29,32,33,34,35,36,37] [] kR kR kR ?_;refine WQ ?_;refine kq (qS2 @ad b.idx @y @B) ?_;refine Ow.Vc rfl call49 (fun z F=>Ec r.name z Y) ?_;cases s:bG r.name
    .have d:dI bG z32 (Xn t) g=false:=by unfold dI;rw[M];simp only[s,Xv]
     refine kq @ad ?_
     try with_reducible refine Ow.nil ?_
     refine ky @ad ?_;refine⟨_,(ke @ad),?_⟩;exact⟨Ext.Vt ⟨x,trivial⟩,YH.no (by unfold dV;rw[tr (fun h=>by have:=(qQ t).1 h.2.2 g a;rw[d] at this;cases this)])⟩
    refine kq (qS2 @ad b.idx @y @C) ?_;refine Ow.build (.agg (a8 z32)) rfl kR ?_;cases u:(r.id.l==z32)
    .by_cases Z:g=0
     .have o:decide ((0:Int)< (g:Int))=false:=by simp[Z]
      have d:dI bG z32 (Xn t) g=true:=by unfold dI;rw[M];simp only[s,u,Z,Yf,Bool.true_or,W6,Bool.and_self]
      refine kq (qS4 @ad @u @o b.idx @y @C) ?_
      try with_reducible refine Ow.nil ?_
      refine ky @ad ?_;refine Vo.mk (g+1) oM ⟨a,fun i hi=>?_⟩ rfl rfl;by_cases e:i=g
      .rw[e];exact d
      exact W i oM
     have o:decide ((0:Int)< (g:Int))=true:=by simp;omega
     have ze:aF (some (false,1)) (some (.cells T U V)) (K+ (g - 1)*33)=some (vs (t.getD (g - 1) ar).name):=b.cell (j:=0) (n:=1) (show g - 1<t.length by omega) oM;have zf:ez (.sl (true,33)) vt (some ((g:Int) - 1))=some (vp b1 (K+ (g - 1)*33)):=by have:=b.idx true (g - 1) oM;rw[show((g - 1:Nat):Int)=(g:Int) - 1 by omega] at this;exact this
     have zx:=jB t (g - 1) (show g - 1<t.length by omega);have zy:(g==0)=false:=by simpa using Z
     have zg:dI bG z32 (Xn t) g=Ys (t.getD (g - 1) ar).name r.name:=by unfold dI;rw[M,zx];simp only[s,u,zy,XW,W6,XA]
     have N:=Ao r.name (t.getD (g - 1) ar).name;cases O:Ys (t.getD (g - 1) ar).name r.name
     .have d:=zg.trans O;rw[O,W6] at N;refine kq (aN @ad (aN @u (qS6 @o @zf b.idx @y @ze @B @C @N))) ?_
      try with_reducible refine Ow.nil ?_
      refine ky @ad ?_;refine⟨_,(ke @ad),?_⟩;exact⟨Ext.Vt ⟨x,trivial⟩,YH.no (by unfold dV;rw[tr (fun h=>by have:=(qQ t).1 h.2.2 g a;rw[d] at this;cases this)])⟩
     have d:=zg.trans O;rw[O,YT] at N;refine kq (aN @ad (aN @u (qS6 @o @zf b.idx @y @ze @B @C @N))) ?_
     try with_reducible refine Ow.nil ?_
     refine ky @ad ?_;refine Vo.mk (g+1) oM ⟨a,fun i hi=>?_⟩ rfl rfl;by_cases e:i=g
     .rw[e];exact d
     exact W i oM
    have d:dI bG z32 (Xn t) g=false:=by unfold dI;rw[M];simp only[u,YT,Bool.and_false,Xv]
    refine kq (qS3 @ad @u b.idx @y @C) ?_
    try with_reducible refine Ow.nil ?_
    refine ky @ad ?_;refine⟨_,(ke @ad),?_⟩;exact⟨Ext.Vt ⟨x,trivial⟩,YH.no (by unfold dV;rw[tr (fun h=>by have:=(qQ t).1 h.2.2 g a;rw[d] at this;cases this)])⟩
   obtain rfl:g=t.length:=by omega
   have za:∀k,dV t l k=dT l t k:=fun k=>by unfold dV;rw[Vb ⟨R,zd,(qQ t).2 W⟩]
   refine ky (aN @ad q.len) ?_;refine Ow.ZV (e:=114) (k:=t.length) (new:=(t.map aI).flatten) (n:=0) (cs:=[]) Vj rfl rfl rfl underlying57 YI kR eR (by rw[eI,Wd,bK]) underlying57 (by intro k h;cases h) Gr.nl (fun z F=>(q.WO F ⟨x,trivial⟩).ql8 bK gU) (qc bK t) oM (fun v2 D2 zh _ zi zP=>?_);rw[Xg,Vy] at zh;have zz:Vq w.heap.size D2:=Vq.of_le fun c hc=>by
    rcases zi.new c hc with h| ⟨-,h⟩
    .simp[keys] at h;omega
    exact h
   have zA:Sx.look D2 f=some (iU vt vl):=zi.look f _ (by simp[Xy]) (eJ _ _ _);obtain⟨b3,o3,a3,E3,f3,H⟩:=I.row;refine ko @ad ?_;refine ky @ad ?_;refine Cw.VU (G:=VG) [68,69,70,73,74,75,76,77,78,79,7,80,81,82,83,84,85,86,87,88,89,90,91,92,4,5,71,72,8] (fun g=>[(7,g.v),(8,vi g.g)]) (fun g=>g.D) (fun g=>g.g<=k/\Vq w.heap.size g.D/\Sx.look g.D f=some (iU vt vl)/\Yq g.D 114 33 g.v g.ls.length (g.ls.map aI).flatten/\dT l t g.g=some g.ls/\g.ls.length<=16) (fun g=>k - g.g) ⟨0,v2,t,D2⟩ rfl rfl ?_ ?_
   .exact⟨aR _,zz,zA,zh.i fun p A=>A,rfl,R⟩
   intro g j L;refine kv ?_;obtain⟨g,v,ls,D⟩:=g;simp only at L |-;obtain⟨zQ,zb,zj,zk,zl,zR⟩:=L;have zB:aG w D f=some (iU vt vl):=aO zj;by_cases a:g<k
   .have zm:=H.has oM;have zn:=H.lt oM;have zC:aG w D b3=some (.cells a3 E3 f3):=by rw[dr (zb.not zn)];exact zm
    have zD:=H.load bK oM (show g<l.length by omega);have B:aF (some (false,1)) (some (.cells a3 E3 f3)) (o3+g*33)=some (vs (l.getD g ar).name):=H.cell (j:=0) (n:=1) (show g<l.length by omega) oM;have Y:=zw g oM;have zc:=MX zl;generalize hr:l.getD g ar=r at*;have zo:=H.idx true g (show g<l.length by omega);refine ky (qS3 @ad @zB @zC @zo @zD) ?_;refine Ow.Wf rfl rfl call105 (fun z F=>OQ v ls r z (zk.slV F rfl rfl bK) oM) (fun B4 v4 P zS zE zF zq=>?_);have zr:Sx.look (D++P) f=some (iU vt vl):=a_ zj;have Q:Vq w.heap.size (D++P):=zb.app (zF.mono zE);have zG:Yq (D++P) 114 33 v4 (Zs ls r).length ((Zs ls r).map aI).flatten:=zq.mono fun p A=>cJ _ A;have zt:∀m,Yw (.sl m) v4=some (vi (Zs ls r).length):=fun m=>by obtain⟨X,-,hX⟩:=zq;exact hX.len m
    generalize D++P=E at*;have zH:aG w E f=some (iU vt vl):=aO zr;have zI:aG w E b3=some (.cells a3 E3 f3):=by rw[dr (Q.not zn)];exact zm
    refine ko @ad ?_;refine ky (qS3 @ad @zH @zI @zo @B) ?_;refine Ow.Vc rfl call49 (fun z F=>Ec r.name z Y) ?_;cases s:bG r.name
    .refine ko @ad ?_;refine ky @ad ?_;refine⟨_,(ke @ad),?_⟩;exact⟨Ext.Vt Q,YH.no (by rw[za];exact E6 (g:=g+1) (by rw[zc,s];rfl) k a)⟩
    by_cases zu:(Zs ls r).length<=16
    .have o:decide ((16:Int)< ((Zs ls r).length:Int))=false:=by simp;omega
     refine ko (qS1 @ad @zt @o) ?_;refine ky @ad ?_;refine Vo.mk (VG.mk (g+1) v4 (Zs ls r) E) (by show k - (g+1)<k - g;omega) ⟨a,Q,zr,zG,?_,zu⟩ rfl rfl;show dT l t (g+1)=some (Zs ls r);rw[zc,s,Vb (by simpa using zu)]
    have o:decide ((16:Int)< ((Zs ls r).length:Int))=true:=by simp;omega
    refine ko (qS1 @ad @zt @o) ?_;refine ky @ad ?_;refine⟨_,(ke @ad),?_⟩;exact⟨Ext.Vt Q,YH.no (by rw[za];exact E6 (g:=g+1) (by rw[zc,s,tr (by simp;omega)]) k a)⟩
   obtain rfl:g=k:=by omega
   refine ky @ad ?_;refine⟨_,(ke @ad),?_⟩;refine⟨Ext.Vt zb,?_⟩;unfold YH;rw[za,zl];exact⟨v,rfl,zk⟩
  have S:decide ((100:Int)< (l.length:Int))=true:=by simp;omega
  refine ky (qS3 @ad q.len I.len @J @S) ?_;refine⟨_,(ke @ad),?_⟩;exact⟨Ext.Vt ⟨x,trivial⟩,YH.no (by unfold dV;rw[tr (fun h=>zd h.2.1)])⟩
 have J:decide ((16:Int)< (t.length:Int))=true:=by simp;omega
 refine ky (qS2 @ad q.len I.len @J) ?_;refine⟨_,(ke @ad),?_⟩;exact⟨Ext.Vt ⟨x,trivial⟩,YH.no (by unfold dV;rw[tr (fun h=>R h.1)])⟩
def d8:=aN (aN (aN (aN @bA @gd) (qS1 @iG @iF @b9)) (aN (aN @kZ @kg) (qS1 @eI @i5 @ma))) (aN (aN (aN @mY @mX) (qS1 @k8 @d_ @Wk)) (aN (qS1 @Wl @m_ @n8) (qS1 @mz @pQ @pK)))
def Ed(vt vl:hU)(t l:List Vk)(w:hW)(h:cj w vt t)(c:cj w vl l)(i:t.length<1000000)(j:l.length<1000000)(k:dX t)(m:dX l):
  Va prog 50 #[.agg #[vt,vl]] w (fun v D=>v=.bool (am t l)/\D=[]):=by
 refine Va.Vr func50 rfl (rs:=[.tmp 2]) results50 ntmps50 ?_;refine kf ?_;refine ky @d8 ?_;refine Ow.box rfl rfl fun o p b=>?_;refine Yx ?_;refine Ow.go rfl ?_;simp(disch:=first|exact dD|fail) only[↓Sx.S0,Sx.S1,fx,d8,Nat.reduceAdd,Nat.reducePow,Int.reducePow,Nat.reduceBEq,↓reduceIte,UInt8.reduceToNat,UInt16.reduceToNat,UInt32.reduceToNat,UInt64.reduceToNat,Int.reduceToNat];refine ky (qS1 @d8 c.len @d_) ?_;refine Ow.Wf rfl rfl call53 (fun n d=>BG vt vl t l l.length n (h.WO d ⟨b,trivial⟩) (c.WO d ⟨b,trivial⟩) i j (aj _) k m) (fun B v D q e f a=>?_);rw[<-Bs];unfold YH at a;cases g:dV t l l.length with
 |none=>
  rw[g] at a;simp only at a;subst a;refine ko @d8 ?_;refine ky @d8 ?_;refine⟨_,(ke @d8),⟨b,f.mono e⟩,?_⟩
  rfl
 |some ls=>
  rw[g] at a;obtain⟨x,rfl,r⟩:=a;refine ko @d8 ?_;refine ky @d8 ?_;refine⟨_,(ke @d8),⟨b,f.mono e⟩,?_⟩
  rfl
def gc(s:No)(a:Nat):No×Nat×Bool:=
 let t:=aS s a 0 65536
 if t.2.2≠0 then([],0,false) else((eG t.1).1,t.2.1,(eG t.1).2)
def Dr(s:No)(a:Int):cL (bP prog 179) (ac prog 179) [(0,vs s),(1,vi a)]=some (.agg #[vs s,vi a,vi 0]):=by have b:bP prog 179=some [(0,1),(1,1),(2,1)]:=id kR;have c:ac prog 179=some (.agg #[vs [],vi 0,vi 0]):=id kR;rw[b,c];rfl
def sy(s:No)(a:Nat)(w:hW)(f:a<=s.length)(g:s.length<1099511627776):
  Va prog 94 #[vs s,vi a] w (fun v D=>v=.tuple #[vs (gc s a).1,vi (gc s a).2.1,.bool (gc s a).2.2]/\D=[]):=by
 have h:=qh (a:=a) (e:=0) (most:=65536) g;refine Va.Vr func94 rfl (rs:=[.tmp 4,.tmp 5,.tmp 6]) results94 ntmps94 ?_;refine kf ?_;refine ky @d8 ?_;refine Ow.build (.agg #[vs s,vi a,vi 0]) rfl (Dr s a) ?_;refine ko @d8 ?_;refine Ow.box rfl rfl fun b7 m i=>?_;refine Yx ?_;refine Ow.go rfl ?_;simp(disch:=first|exact dD|fail) only[↓Sx.S0,Sx.S1,fx,d8,Nat.reduceAdd,Nat.reducePow,Int.reducePow,Nat.reduceBEq,↓reduceIte,UInt8.reduceToNat,UInt16.reduceToNat,UInt32.reduceToNat,UInt64.reduceToNat,Int.reduceToNat];refine ky @d8 ?_;refine Ow.WA rfl rfl call96 Wg (fun c j=>pY b7 s a 0 65536 c f g (j.has _ _ aX)) ?_;refine kn ?_;unfold gc;have l:=gA (e:=0) (most:=65536) f;generalize aS s a 0 65536=p at*;obtain⟨t,n,e⟩:=p;simp only at h l |-;by_cases b:e=0
 .rw[tr (by simpa using b)];have d:(e !=0)=false:=by simpa using b
  refine ko @d8 ?_;refine ky (aN @d8 @d) ?_;refine Ow.Vc rfl call111 (fun c j=>Tv t c h) ?_;generalize eG t=k;obtain⟨k,ok⟩:=k;simp only;refine ko @d8 ?_;refine ky @d8 ?_;refine Cw.Vu [b7] [0,1,2,3,5,6,4,7,8] [] kR kR kR ?_;refine WQ ?_;refine kq @d8 ?_
  try with_reducible refine Ow.nil ?_
  refine ky @d8 ?_;refine⟨_,(ke @d8),⟨i,trivial⟩,?_⟩
  rfl
 rw[Vb (by simpa using b)];have d:(e !=0)=true:=by simpa using b
 refine ko @d8 ?_;refine ky (aN @d8 @d) ?_;refine⟨_,(ke @d8),⟨i,trivial⟩,?_⟩
 rfl
def T_(x y:hU)(a l2:List Vk)(w:hW)(b:cj w x a)(c:cj w y l2)(d:a.length<1000000)(e:l2.length<1000000):
  Va prog 63 #[x,y] w (fun v D=>v=.bool (ii a l2)/\D=[]):=by
 obtain⟨f,g,h,i,j,k⟩:=b.row;obtain⟨l,m,n,o,p,q⟩:=c.row;exact FY x y f g l m a l2 h n i o j p w k q d e
def M6(vt vl e f:hU)(t l c l2:List Vk)(w:hW)(h:cj w vt t)(i:cj w vl l)(j:cj w e c)(k:cj w f l2)(m:t.length<1000000)(n:l.length<1000000)(o:c.length<1000000)(p:l2.length<1000000):
  Va prog 27 #[.agg #[vt,vl],.agg #[e,f]] w (fun v D=>v=.bool (ii t c&&ii l l2)/\D=[]):=by
 refine Va.Vr func27 rfl (rs:=[.tmp 4]) results27 ntmps27 ?_;refine kf ?_;refine ky @d8 ?_;refine Ow.box rfl rfl fun r s a=>?_;refine Yx ?_;refine Ow.go rfl ?_;simp(disch:=first|exact dD|fail) only[↓Sx.S0,Sx.S1,fx,d8,Nat.reduceAdd,Nat.reducePow,Int.reducePow,Nat.reduceBEq,↓reduceIte,UInt8.reduceToNat,UInt16.reduceToNat,UInt32.reduceToNat,UInt64.reduceToNat,Int.reduceToNat];refine Ow.box rfl rfl fun u q b=>?_;refine Yx ?_;refine Ow.go rfl ?_;simp(disch:=first|exact dD|fail) only[↓Sx.S0,Sx.S1,fx,d8,Nat.reduceAdd,Nat.reducePow,Int.reducePow,Nat.reduceBEq,↓reduceIte,UInt8.reduceToNat,UInt16.reduceToNat,UInt32.reduceToNat,UInt64.reduceToNat,Int.reduceToNat];obtain⟨x,-⟩:=q;refine ky @d8 ?_;refine Ow.Vc rfl call63 (fun g d=>T_ vt e t c g (h.WO d ⟨a,b,trivial⟩) (j.WO d ⟨a,b,trivial⟩) m o) ?_;cases ii t c
 .refine ko @d8 ?_;refine ky @d8 ?_;refine⟨_,(ke @d8),⟨a,b,trivial⟩,?_⟩
  rfl
 refine ko @d8 ?_;refine ky @d8 ?_;refine Ow.Vc rfl call63 (fun g d=>T_ vl f l l2 g (i.WO d ⟨a,b,trivial⟩) (k.WO d ⟨a,b,trivial⟩) n p) ?_;refine ko @d8 ?_;refine ky @d8 ?_;refine⟨_,(ke @d8),⟨a,b,trivial⟩,?_⟩
 rfl
end Go.Proofs
end
section
open Go Go.Proofs Go.Sx Go.StP Go.RefP
namespace Go.Proofs
structure Z0 where
 kind:Int
 n:Int
 name:No
 id:Xl
 wrong:Bool
 picks:PkL
def Zp(r:Z0):List hU:=[vi r.kind]++([vi r.n]++([vs r.name]++(r.id.l.map v8++([Value.bool r.wrong]++([r.picks.v])))))
abbrev Wj(r:Z0):Obj:=.cells (Zp r).toArray 41 (0,0)
open Classical in
def XJ{α:Type}{l m:List α}(h:∀ a:α,l.count a=m.count a:=by intro a;simp only[List.count_append,List.count_cons,List.count_nil,Vm,Ve,Wj,Vi,Wh,Wi,Vz,Vg,Xu,iU,Vv,VS,Vj]<;>omega):l.Perm m:=List.perm_iff_count.2 h
def at0:Z0:=⟨0,0,[],XY,false,pk0⟩
def qq(r:Z0):(Zp r).length=37:=by simp[Zp,r.id.h]
def ve(r:Z0):Value.cells (.agg (Zp r).toArray)=(Zp r).toArray:=ag _
def Pm(r:Z0):(Zp r).all Value.oneCell'=true:=by unfold Zp;simp only[List.all_append,List.all_cons,List.all_nil,jX,Bool.and_true,XA];rw[r.picks.h.1];rfl
def qS0:ac prog 41=some (.agg (Zp at0).toArray):=id kR
def Sd(r:Z0):Zp r=([]:List hU)++(([vi r.kind])++([vi r.n]++([vs r.name]++(r.id.l.map v8++([Value.bool r.wrong]++([r.picks.v])))))):=by unfold Zp;simp only[Wb,Vy,VX]
def w2(r:Z0)(n:Nat)(E:h7)(fz:Nat×Nat):aF (some (false,n)) (some (.cells (Zp r).toArray E fz)) 0=some (vi r.kind):=by rw[Sd];exact fR _ _ _ n E fz V_
def Re(r:Z0):Zp r=(([vi r.kind]))++(([vi r.n])++([vs r.name]++(r.id.l.map v8++([Value.bool r.wrong]++([r.picks.v]))))):=by unfold Zp;simp only[Wb,Vy,VX]
def un(r:Z0)(n:Nat)(E:h7)(fz:Nat×Nat):aF (some (false,n)) (some (.cells (Zp r).toArray E fz)) 1=some (vi r.n):=by rw[Re];exact fR _ _ _ n E fz V_
def RT(r:Z0):Zp r=(([vi r.kind])++([vi r.n]))++(([vs r.name])++(r.id.l.map v8++([Value.bool r.wrong]++([r.picks.v])))):=by unfold Zp;simp only[Wb,Vy,VX]
def vK(r:Z0)(n:Nat)(E:h7)(fz:Nat×Nat):aF (some (false,n)) (some (.cells (Zp r).toArray E fz)) 2=some (vs r.name):=by rw[RT];exact fR _ _ _ n E fz V_
def Sp(r:Z0):Zp r=(([vi r.kind])++([vi r.n])++([vs r.name]))++((r.id.l.map v8)++([Value.bool r.wrong]++([r.picks.v]))):=by unfold Zp;simp only[Wb,Vy,VX]
def vM(r:Z0)(E:h7)(fz:Nat×Nat):aF (some (true,32)) (some (.cells (Zp r).toArray E fz)) 3=some (Value.agg (a8 r.id.l)):=by rw[Sp,r9 _ _ _ E fz V_ (by simp[r.id.h])];rfl
def RU(r:Z0):Zp r=(([vi r.kind])++([vi r.n])++([vs r.name])++(r.id.l.map v8))++(([Value.bool r.wrong])++([r.picks.v])):=by unfold Zp;simp only[Wb,Vy,VX]
def um(r:Z0)(n:Nat)(E:h7)(fz:Nat×Nat):aF (some (false,n)) (some (.cells (Zp r).toArray E fz)) 35=some (Value.bool r.wrong):=by rw[RU];exact fR _ _ _ n E fz (by simp[r.id.h])
def SA(r:Z0):Zp r=(([vi r.kind])++([vi r.n])++([vs r.name])++(r.id.l.map v8)++([Value.bool r.wrong]))++(([r.picks.v])++(([]:List hU))):=by unfold Zp;simp only[Wb,Vy,VX]
def uk(r:Z0)(n:Nat)(E:h7)(fz:Nat×Nat):aF (some (false,n)) (some (.cells (Zp r).toArray E fz)) 36=some (r.picks.v):=by rw[SA];exact fR _ _ _ n E fz (by simp[r.id.h])
def wv(r:Z0)(E:h7)(fz:Nat×Nat):aF (some (true,37)) (some (.cells (Zp r).toArray E fz)) 0=some (.agg (Zp r).toArray):=jN _ E fz 37 (by rw[Wd,qq])
def Mz(Wo:Array hU)(r:Z0)(a:Bool)(E:h7)(h:Wo.size=37):aZ (some (a,37)) (some (.cells Wo E (0,0))) 0 (.agg (Zp r).toArray)=some (.cells (Zp r).toArray E (0,0)):=mc _ a Wo E (qq r) (Pm r) h
def K8(r b:Z0)(a:Bool)(E:h7):aZ (some (a,37)) (some (.cells (Zp b).toArray E (0,0))) 0 (.agg (Zp r).toArray)=some (.cells (Zp r).toArray E (0,0)):=Mz _ r a E (by rw[Wd,qq])
def Ri{w:hW}{v:hU}{l:List Z0}{b off:Nat}{arr:Array hU}{E:h7}{fz:Nat×Nat}(h:WL 37 Zp at0 w v l b off arr E fz){k:Nat}(a:k<l.length):aF (some (true,37)) (some (.cells arr E fz)) (off+k*37)=some (.agg (Zp (l.getD k at0)).toArray):=WL.load h qq oM a
def iq(a:Z0):Bool:=decide (100<a.name.length) ||decide (100<a.picks.l.length)
def Ko{a:Z0}(h:iq a=false):a.name.length<=100/\a.picks.l.length<=100:=by unfold iq at h;simp only[Zz,qc9] at h;omega
def iE:=aN (aN (aN @bA @b9) (qS1 @wv @w2 @un)) (aN (aN @vK @vM) (qS1 @um @uk @ve))
def Gl(a:Z0)(w:hW)(d:PkS w a.picks.v a.picks.l):Va prog 10 #[.agg (Zp a).toArray] w (fun v D=>v=.bool (iq a)/\D=[]):=by
 have e:=d.len;refine Va.Vr func10 rfl (rs:=[.tmp 2]) results10 ntmps10 ?_;refine kf ?_;refine kz [1] @iE ?_;refine Ow.box rfl rfl fun h i c=>?_;refine Yx ?_;refine Ow.go rfl ?_;simp(disch:=first|exact dD|fail) only[↓Sx.S0,Sx.S1,fx,iE,Nat.reduceAdd,Nat.reducePow,Int.reducePow,Nat.reduceBEq,↓reduceIte,UInt8.reduceToNat,UInt16.reduceToNat,UInt32.reduceToNat,UInt64.reduceToNat,Int.reduceToNat];unfold iq;cases b:decide ((100:Int)< (a.name.length:Int)) with
 |true=>
  refine ky (aN @iE @b) ?_;refine⟨_,(ke @iE),⟨c,trivial⟩,?_⟩
  (rw[aP (show 100<a.name.length by have:=Zu b;omega)];rfl)
 |false=>
  have f:decide (100<a.name.length)=false:=aW (by have:=Z8 b;omega);have g:decide (100<a.picks.l.length)=decide ((100:Int)< (a.picks.l.length:Int)):=by congr 1;rw[eq_iff_iff];omega
  refine ky (qS1 @iE @b @e) ?_;refine⟨_,(ke @iE),⟨c,trivial⟩,?_⟩
  (rw[f,g];rfl)
end Go.Proofs
end
section
open Go Go.Proofs Go.Sx Go.RefP
namespace Go.Proofs
def jV(a b:No):Int:=if Ys a b=true then -1 else if Ys b a=true then 1 else 0
def Sj(a:No)(w:hW):Calls prog 165 #[vs a] w fun e b=>e=.returned (.bool false)/\b=w:=by
 unfold vs
 go_enter func165,ntmps165
 go_wp2
 go_ret
 exact⟨by simp,rfl⟩
def N6(a b:No)(w:hW):Calls prog 139 #[vs a,vs b] w fun e c=>e=.returned (.int .i64 (jV a b))/\c=w:=by
 have g:∀d w,(callFunc 165 d).run prog w=.ok (.enter 165 d) w:=call165;unfold vs
 go_enter func139,ntmps139
 go_wp2_with (go_at_call 165;refine(Sj _ _).mono ?_;rintro e c ⟨rfl,f⟩;rw[f])
 .go_ret
  refine⟨?_,rfl⟩;unfold jV Ys;rw[Vb (by assumption)]
  rfl
 rw[show(binOp .gtr 9 (Value.string {data:=a.toArray}) (Value.string {data:=b.toArray})).run prog w=.ok (.bool (Ys b a)) w by have h:=ua (P:=prog) (t:=9) w (tq a b);rw[Ao,Bool.not_not] at h;exact h]
 go_wp2
 .go_ret
  refine⟨?_,rfl⟩;rename_i i _ _ j;unfold jV;rw[tr (by unfold Ys;simp_all),Vb (by simp_all)]
  rfl
 go_ret
 refine⟨?_,rfl⟩;unfold jV;rw[tr (by unfold Ys;simp_all),tr (by simp_all)]
 rfl
def HV(x y:Vk)(W:hW):Calls prog 138 #[.agg (aI x).toArray,.agg (aI y).toArray] W fun e d=>e=.returned (.int .i64 (jV x.name y.name))/\ ∃g h,d=Go.Sort.grow (W.drewN g) h:=by
 have c:=fun i=>N6 x.name y.name i;obtain⟨cx,j⟩:∃cx,aI x=vs x.name::cx:=⟨_,rfl⟩;obtain⟨f,k⟩:∃f,aI y=vs y.name::f:=⟨_,rfl⟩;rw[j,k];generalize jV x.name y.name=r at c |-;generalize vs x.name=a at c |-;generalize vs y.name=b at c |-
 go_enter func138,ntmps138
 go_wp2_with (go_at_call 139;refine(c _).mono ?_;rintro e d ⟨rfl,rfl⟩)
 go_ret
 exact⟨rfl,0,_,by rw[Go.Sort.alloc_eq_grow,Go.Sort.alloc_eq_grow,Go.Sort.grow_grow];rfl⟩
end Go.Proofs
end
namespace Go.Sx
open Go Go.Proofs Go.Shelf Go.Sort
section
variable {α:Type} [Inhabited α] {enc:α->List hU} {k:Nat}
theorem nb(a:∀x,(enc x).length=k):∀ (l:List α) (t:Nat),t<l.length*k->(l.map enc).flatten[t]? =some ((enc l[t / k]!)[t%k]!)
 | [],t,h=>by simp at h
 |x::r,t,h=>by
  have e:0<k:=by
   rcases Nat.eq_zero_or_pos k with d|d
   .subst d;simp at h
   exact d
  rw[VY,Ya];by_cases b:t<k
  .rw[List.getElem?_append_left (by rw[a];exact b),Nat.div_eq_of_lt b,X7 b];simp only[List.getElem!_cons_zero];rw[getElem!_pos (enc x) t (by rw[a];exact b),List.getElem?_eq_getElem]
  obtain⟨c,rfl⟩:∃c,t=k+c:=⟨t - k,by omega⟩;have f:(x::r).length*k=r.length*k+k:=by rw[Wt,Nat.add_mul,Nat.one_mul]
  rw[List.getElem?_append_right (by rw[a];omega),a,Nat.add_sub_cancel_left,nb a r c oM];rw[Nat.add_div_left c e,Nat.add_mod_left];simp
def uZ(b:∀x,(enc x).length=k)(l:List α):flatK enc k l.toArray=(l.map enc).flatten.toArray:=by
 have e:(l.map enc).flatten.length=l.length*k:=by
  induction l with
  |nil=>simp
  |cons x r f=>rw[VY,Ya,VV,f,b,Wt,Nat.add_mul,Nat.one_mul];omega
 apply Array.ext
 .rw[size_flatK,Wd,Wd,e]
 intro t a g;rw[size_flatK,Wd] at a;have h:=nb b l t a;have c:=get_flatK enc k l.toArray t (by rw[Wd];exact a);rw[getElem!_pos _ t (by rw[size_flatK,Wd];exact a)] at c;rw[c];have d:(l.map enc).flatten.toArray[t]? =some ((enc l[t / k]!)[t%k]!):=by rw[List.getElem?_toArray];exact h
 rw[Array.getElem?_eq_getElem g] at d;have:=XD d;rw[this];simp
def GX{F a rest:List hU}(h:F.length=a.length):putCells id 0 a.toArray (F++rest).toArray=(a++rest).toArray:=by
 unfold putCells;apply Array.ext
 .simp[h]
 intro t c d;simp only[Array.getElem_mapIdx,List.getElem_toArray,Wd,aR,true_and,Xg,Nat.sub_zero,id]
 split
 .rename_i b;rw[getElem!_pos _ t (by simpa using b),List.getElem_toArray,List.getElem_append_left b]
 rename_i b;rw[List.getElem_append_right oM,List.getElem_append_right oM];simp only[h]
def Lk{P:h_}{ρ:Ren}(L:SlLaysF0.n6 P ρ)(H:∀w,(isAgg (ρ.t 24)).run P w=.ok true w)(I:∀w,(Go.sizeOf (ρ.t 24)).run P w=.ok k w)(d:∀x,(enc x).length=k)(J:∀x,∀v∈enc x,v.oneCell'=true)(f:α->α->Int)(K:SWO (ltOf f))(g:FuncId)
  (M:∀z w,(callFunc g z).run P w=.ok (.enter g z) w) (N:∀x y W,Calls P g #[.agg (enc x).toArray,.agg (enc y).toArray] W fun e A=>e=.returned (.int .i64 (f x y))/\ ∃O Q,A=grow (W.drewN O) Q)
  {w:hW} {b c:Nat} {E:h7} {l:List α} {rest:List hU} (p:w.heap[b]? =some (.cells ((l.map enc).flatten++rest).toArray E (0,0))) (R:l.length<4611686018427387904):
  Va P (ρ.f 6) #[Xr b 0 l.length c,.func (.func g) #[] #[]] w (fun v D=> ∃o,D=[(b,o)]/\v=.tuple #[]/\ ∃a:List α,a.Perm l/\a.Pairwise (fun x y=>ltOf f y x=false)/\o=.cells ((a.map enc).flatten++rest).toArray E (0,0)):=by
 have B:=(Array.getElem?_eq_some_iff.1 p).1;have S:HoldsK enc k w b 0 l.toArray:=by
  unfold HoldsK Holds;intro t q;rw[size_flatK,Wd] at q;rw[get_flatK _ _ _ _ (by rw[Wd];exact q)];have h:=nb d l t q;have T:=(List.getElem?_eq_some_iff.1 h).1;refine⟨?_,?_⟩
  .simp only[World.cell?,p,Option.isSome_none,VW,↓reduceIte,Xg,List.getElem?_toArray,id];rw[List.getElem?_append_left T,h];simp
  simp only[World.frozen?,p];simp
 have U:=AnyQ.slices_SortFunc L k H I enc d J f K g #[] b 0 c l.toArray w M (fun m os dk _ x y=>N x y _) S B (by rw[Wd];exact R);refine Calls.mono U ?_;rintro e A ⟨rfl,C,n,os,r,V,rfl⟩;obtain⟨a,rfl⟩:∃a:List α,C=a.toArray:=⟨C.toList,by simp⟩;obtain⟨F,-,r⟩:=r;rw[Wd,Wd] at F;have G:∀m:List α,(m.map enc).flatten.length=m.length*k:=fun m=>by have:=Wc Array.size (uZ (enc:=enc) d m);rw[size_flatK,Wd,Wd] at this;exact this.symm
 have X:(sortWorldK enc k w b 0 n a.toArray os).heap[b]? =some (.cells ((a.map enc).flatten++rest).toArray E (0,0)):=by show((w.heap.modify b (onCells (putCells id 0 (flatK enc k a.toArray))))++os)[b]? =_;rw[Array.getElem?_append_left (by rw[Array.size_modify];exact B),Array.getElem?_modify,Vb rfl,p,uZ d,Ws];simp only[onCells];rw[GX (by rw[G,G,F])]
 refine⟨.tuple #[],[(b,_)],rfl,⟨?_,by simp[keys],?_,?_,rfl,rfl,rfl⟩,_,rfl,rfl,a,?_,?_,rfl⟩
 .intro s o' u;simp only[VZ,Xp] at u;rw[u.1,u.2];exact X
 .intro s Y Z;have za:b≠s:=fun h=>Z (by simp[keys,h]);show((w.heap.modify b (onCells (putCells id 0 (flatK enc k a.toArray))))++os)[s]? =_;rw[Array.getElem?_append_left (by rw[Array.size_modify];exact Y),Array.getElem?_modify,tr za]
 .show w.heap.size<= ((w.heap.modify b (onCells (putCells id 0 (flatK enc k a.toArray))))++os).size;rw[Array.size_append,Array.size_modify];omega
 .have h2:List.take l.length a=a:=Yo oM;rw[<-h2];simpa using r
 rw[List.pairwise_iff_getElem];intro i j hi hj zb;have:=V i j (aR _) zb (by rw[Wd];omega);simpa [hi,hj] using this
def MJ{P:h_}{ρ:Ren}(L:SlLaysF0.n6 P ρ)(p:Option Addr)(c:Nat)(a:hU)(w:hW):Va P (ρ.f 6) #[.slice p 0 c,a] w (fun v D=>v=.tuple #[]/\D=[]):=
 Calls.mono (AnyF.slices_SortFunc_none L p c a w) fun _ _ ⟨b,d⟩=>⟨_,[],b,by rw[d];exact Hp.refl w,rfl,rfl⟩
end
end Go.Sx
section
namespace Go.Proofs
open Go Go.Shelf
def ZR:Go.Shelf.Ren:=⟨fun|6=>137|15=>164|14=>163|28=>193|29=>194|20=>185|21=>186|22=>187|23=>188|24=>189|25=>190|26=>191|27=>192|46=>211|47=>212|48=>213|49=>214|50=>215|57=>223|n=>n,fun|22=>57|24=>114|25=>232|3=>3|39=>246|0=>0|53=>223|55=>264|4=>4|46=>279|45=>278|50=>283|5=>5|9=>9|66=>297|70=>301|76=>314|77=>309|n=>n,fun|n=>n⟩
def qk9:Go.Proofs.SlLaysF0.n6 prog ZR:={
 mixed:=by kernel_rfl
 f6:=⟨Tryz.f137.name,by decide,Tryz.func137.trans (Wc some kR)⟩
 f14:=⟨Tryz.f163.name,by decide,Tryz.func163.trans (Wc some kR)⟩
 f15:=Tryz.func164.trans (Wc some kR)
 f20:=⟨Tryz.f185.name,by decide,Tryz.func185.trans (Wc some kR)⟩
 f21:=⟨Tryz.f186.name,by decide,Tryz.func186.trans (Wc some kR)⟩
 f22:=⟨Tryz.f187.name,by decide,Tryz.func187.trans (Wc some kR)⟩
 f23:=⟨Tryz.f188.name,by decide,Tryz.func188.trans (Wc some kR)⟩
 f24:=⟨Tryz.f189.name,by decide,Tryz.func189.trans (Wc some kR)⟩
 f25:=⟨Tryz.f190.name,by decide,Tryz.func190.trans (Wc some kR)⟩
 f26:=⟨Tryz.f191.name,by decide,Tryz.func191.trans (Wc some kR)⟩
 f27:=⟨Tryz.f192.name,by decide,Tryz.func192.trans (Wc some kR)⟩
 f28:=Tryz.func193.trans (Wc some kR)
 f29:=Tryz.func194.trans (Wc some kR)
 f46:=⟨Tryz.f211.name,by decide,Tryz.func211.trans (Wc some kR)⟩
 f47:=Tryz.func212.trans (Wc some kR)
 f48:=Tryz.func213.trans (Wc some kR)
 f49:=⟨Tryz.f214.name,by decide,Tryz.func214.trans (Wc some kR)⟩
 f50:=⟨Tryz.f215.name,by decide,Tryz.func215.trans (Wc some kR)⟩
 f57:=⟨Tryz.f223.name,by decide,Tryz.func223.trans (Wc some kR)⟩
 t0:=underlying0
 a0:=isAgg0
 z0:=sizeOf0
 v0:=zeroValue0
 t3:=underlying3
 a3:=isAgg3
 z3:=sizeOf3
 v3:=zeroValue3
 t4:=underlying4
 a4:=isAgg4
 z4:=sizeOf4
 v4:=zeroValue4
 t5:=underlying5
 a5:=isAgg5
 z5:=sizeOf5
 v5:=zeroValue5
 t9:=underlying9
 a9:=isAgg9
 z9:=sizeOf9
 v9:=zeroValue9
 t22:=underlying57
 a22:=isAgg57
 z22:=sizeOf57
 v22:=zeroValue57
 t25:=underlying232
 a25:=isAgg232
 z25:=sizeOf232
 v25:=zeroValue232
 t39:=underlying246
 a39:=isAgg246
 z39:=sizeOf246
 v39:=zeroValue246
 t45:=underlying278
 a45:=isAgg278
 z45:=sizeOf278
 v45:=zeroValue278
 t46:=underlying279
 a46:=isAgg279
 z46:=sizeOf279
 v46:=zeroValue279
 t50:=underlying283
 a50:=isAgg283
 z50:=sizeOf283
 v50:=zeroValue283
 t53:=underlying223
 a53:=isAgg223
 z53:=sizeOf223
 v53:=zeroValue223
 t55:=underlying264
 a55:=isAgg264
 z55:=sizeOf264
 v55:=zeroValue264
 t66:=underlying297
 a66:=isAgg297
 z66:=sizeOf297
 v66:=zeroValue297
 t70:=underlying301
 a70:=isAgg301
 z70:=sizeOf301
 v70:=zeroValue301
 t76:=underlying314
 a76:=isAgg314
 z76:=sizeOf314
 v76:=zeroValue314
 t77:=underlying309
 a77:=isAgg309
 z77:=sizeOf309
 v77:=zeroValue309}
end Go.Proofs
end
section
open Go Go.Proofs Go.Sx Go.RefP Go.Shelf Go.Sort
namespace Go.Proofs
def PL(a b:No):jV a b<0↔Ys a b=true:=by
 unfold jV
 split
 .simp[*]
 split<;>simp[*]
def lj(x y:Vk):ltOf (fun x y:Vk=>jV x.name y.name) x y=Ys x.name y.name:=by unfold ltOf;rw[YZ,XN,PL]
def TQ:SWO (ltOf fun x y:Vk=>jV x.name y.name) where
 irrefl x:=by rw[lj];exact rO x.name
 trans x y z h1 h2:=by rw[lj] at*;exact pR h1 h2
 ntrans x y z h1 h2:=by
  rw[lj] at*;cases h:Ys x.name z.name
  .rfl
  by_cases a:x.name=y.name
  .rw[a,h2] at h;cases h
  rw[pR (mS h1 fun e=>a e) h] at h2;cases h2
def Iz(x:Vk):∀v∈aI x,v.oneCell'=true:=fun v a=>XX.1 (gU x) v a
def GP{b c:Nat}{l:List Vk}{rest:List hU}{E:h7}(w:hW)(d:w.heap[b]? =some (.cells ((l.map aI).flatten++rest).toArray E (0,0)))(e:l.length<4611686018427387904):
  Va prog 137 #[Xr b 0 l.length c,.func (.func 138) #[] #[]] w
   (fun v D=> ∃o,D=[(b,o)]/\v=.tuple #[]/\ ∃a:List Vk,a.Perm l/\a.Pairwise (fun x y=>Ys y.name x.name=false)/\o=.cells ((a.map aI).flatten++rest).toArray E (0,0)):=by
 have h:= @Lk Vk ⟨ar⟩ aI 33 prog ZR qk9 isAgg114 sizeOf114 bK Iz (fun x y=>jV x.name y.name) TQ 138 call138 HV w b c E l rest d e;refine Va.mono h ?_;rintro v D ⟨o,rfl,rfl,a,f,g,rfl⟩;exact⟨_,rfl,rfl,a,f,g.imp fun{x y} h=>(lj y x).symm.trans h,rfl⟩
def U3(p:Option Addr)(c:Nat)(a:hU)(w:hW):Va prog 137 #[.slice p 0 c,a] w (fun v D=>v=.tuple #[]/\D=[]):=
 @MJ prog ZR qk9 p c a w
end Go.Proofs
end
section
open Go Go.Proofs Go.Sx Go.RefP
namespace Go.Proofs
theorem wF:∀ {a b:List Vk},Xn a=Xn b->a=b
 | [],[],_=>rfl
 | [],_::_,h=>by cases h
 |_::_,[],h=>by cases h
 | ⟨n,i,hi⟩::a,⟨n2,i2,VQ⟩::b,h=>by unfold Xn at h;simp only[VY,List.cons.injEq,Xp] at h;obtain⟨⟨rfl,rfl⟩,h⟩:=h;rw[wF (show Xn a=Xn b from h)]
theorem s6:∀ {a b:ab},Yi a->Yi b->a.Perm b->a=b
 | [],b,_,_,h=>(List.Perm.nil_eq h)
 |x::a,[],_,_,h=>by have:=h.length_eq;simp at this
 |x::a,y::b,ha,hb,h=>by
  have f:x=y:=by
   rcases Vw.1 (h.mem_iff.1 (aX (a:=x) (l:=a))) with e|e
   .exact e
   rcases Vw.1 (h.mem_iff.2 (aX (a:=y) (l:=b))) with c|c
   .exact c.symm
   have g:=(List.pairwise_cons.1 ha).1 y c;have d:=(List.pairwise_cons.1 hb).1 x e;rw[Cc g] at d;cases d
  subst f;rw[s6 (List.pairwise_cons.1 ha).2 (List.pairwise_cons.1 hb).2 ((List.perm_cons x).1 h)]
def Ic{o l' ls:List Vk}{m:ab}(d:(Xn o).Perm m)(a:Rel m (Xn ls))(f:l'.Perm o)(g:l'.Pairwise (fun x y=>Ys y.name x.name=false)):l'=ls:=by have c:(Xn l').Perm (Xn ls):=((f.map _).trans d).trans a.1;refine wF (s6 ?_ a.2 c);have b:((Xn l').map Prod.fst).Nodup:=((c.map Prod.fst).nodup_iff).2 a.2.nd;unfold Xn at b |-;rw[List.map_map] at b;unfold Yi;rw[List.pairwise_map];have h:l'.Pairwise (fun x y=>x.name≠y.name):=List.pairwise_map.1 b;refine(g.and h).imp ?_;rintro x y ⟨i,j⟩;exact mS i fun e=>j e.symm
def toR(p:No×No):Vk:=⟨p.1,fj p.2⟩
def Rb{p:No×No}(h:p.2.length=32):(toR p).name=p.1/\(toR p).id.l=p.2:=by unfold toR;exact⟨rfl,by show(fj p.2).l=p.2;rw[l3 h]⟩
def tp1(a:hU):(#[a]:Array hU)[0]? =some a:=rfl
def tp3(a b c:hU):(#[a,b,c]:Array hU)[0]? =some a:=rfl
structure LG where
 v:hU
 o:List Vk
 D:aA
 it:Obj
 lf:ab
def ed:=aN (aN (aN (aN @bA @gd) (aN @iG @iF)) (aN (aN @b9 @kZ) (qS1 @kg @eI @i5))) (aN (aN (aN @ma @mY) (aN @mX @k8)) (aN (aN @d_ @Wk) (qS1 @Wl @tp1 @tp3)))
def MN(b:Nat)(A:Obj)(m:ab)(ls:List Vk)(w:hW)(I:w.heap[b]? =some A)(hm:qa2 A m)(J:Rel m (Xn ls))(zx:ls.length<1000):
  Va prog 106 #[vm b] w (XS w [] (fun v D=>Yq D 114 33 v ls.length (ls.map aI).flatten)):=by
 have zy:=(Array.getElem?_eq_some_iff.1 I).1;have zz:m.length=ls.length:=by rw[J.1.length_eq,ew]
 have zd:∀p,p∈m->p.2.length=32:=fun p u=>by have K:=(J.1.mem_iff).1 u;unfold Xn at K;obtain⟨r,-,rfl⟩:=List.mem_map.1 K;exact r.id.h
 have T:ac prog 38=some (.agg (a8 (List.replicate 32 0))):=qc2;rw[show(List.replicate 32 (0:Vf))=z32 from rfl] at T;refine Va.Vs func106 rfl (rs:=[.tmp 2]) results106 ntmps106 (fun p u=>by cases u) Wg ?_;refine kf ?_;refine ky @ed ?_;refine Ow.rangeMap rfl rfl underlying182 rfl I hm fun a oi zA N B=>?_;refine ko @ed ?_;refine ky @ed ?_;refine Cw.VU (G:=LG) [8,9,10,11,12,5,4,13,14,15,16,17,18,3] (fun g=>[(3,g.v)]) (fun g=>(a,g.it)::g.D) (fun g=>Vq (a+1) g.D/\Gr g.D 114 33 g.v g.o.length (g.o.map aI).flatten/\ItR g.it b A m (Xn g.o) g.lf/\g.o.length+g.lf.length=m.length) (fun g=>g.lf.length) ⟨Vj,[],[],oi,m⟩ rfl rfl ?_ ?_
 .exact⟨trivial,Gr.nl,B,by simp⟩
 intro g j U;refine kv ?_;obtain⟨v,o,D,it,lf⟩:=g;simp only at U |-;obtain⟨q,V,B,ze⟩:=U;have zf:b∉keys D:=q.not oM;have W:∀x,aG w ((a,x)::D) b=some A:=fun x=>by rw[j_ _ _ _ _ _ oM,dr zf];exact I
 refine ky @ed ?_;refine Ow.qy4 rfl rfl rfl (eJ _ _ _) (W _) B (fun zg=>?_) (fun p C O zB E=>?_)
 .subst zg;have zh:(Xn o).Perm m:=by
   obtain⟨es,zi,ds,-,-,-,-,-,-,F⟩:=B;rw[VX] at F;exact F
  have Y:o.length=ls.length:=by simp at ze;omega
  have Z:o.length=0->o=[]/\ls=[]:=fun h=>⟨List.length_eq_zero_iff.1 h,List.length_eq_zero_iff.1 oM⟩;refine ko @ed ?_;refine ky @ed ?_;rcases V with P| ⟨h0,-,s,rfl,zj⟩
  .generalize zk:(o.map aI).flatten=cs at P;generalize hn:o.length=n at P;cases P with
   |nl=>refine Ow.Vc rfl call137 (fun t y=>U3 none 0 _ t) ?_;refine ko @ed ?_;refine ky @ed ?_;refine⟨_,(ke @ed),?_⟩;obtain⟨-,rfl⟩:=Z hn;exact⟨Ext.Vt ⟨N,q.mono oM⟩,(Gr.nl (L:=[])).i fun i d=>by cases d⟩
   | @at_ s _ c _ rest H K h2 h3 h4=>
    subst hn;subst zk;have zC:a+1<=s:=q.le _ (bO H);refine Ow.qk1 rfl rfl call137 (ah _ (bO H)) (fun t y=>GP (c:=c) t (y.has _ _ (ah _ (bU H))) oM) (fun v1 o1 hS=>?_);obtain⟨rfl,l',u,hs,rfl⟩:=hS;obtain rfl:=Ic zh J u hs;refine kn ?_;refine ko @ed ?_;refine ky @ed ?_;refine⟨_,(ke @ed),?_⟩;refine⟨Ext.Vt ⟨N,Vq.of_le fun i d=>by rw[fc] at d;have:=q.le i d;omega⟩,?_⟩;refine Gr.i (X:=Vh D s (.cells ((l'.map aI).flatten++rest).toArray 114 (0,0))) (.inl ?_) fun i d=>ah _ d;show Zn _ 114 33 (Xr s 0 o.length c) l'.length _;rw[Y];refine Zn.at_ (cY H) ?_ ?_ oM h4
    .rw[qc bK]
    rw[h2,Y]
  obtain⟨rfl,rfl⟩:=Z h0;refine Ow.Vc rfl call137 (fun t y=>U3 (some ⟨s,0,none⟩) 0 _ t) ?_;refine ko @ed ?_;refine ky @ed ?_;refine⟨_,(ke @ed),?_⟩;exact⟨Ext.Vt ⟨N,q.mono oM⟩,Gr.i (X:=D) (.inr ⟨rfl,rfl,s,rfl,zj⟩) fun i d=>ah _ d⟩
 refine kn ?_;refine ko @ed ?_;refine ky @ed ?_;refine Ow.qp1 rfl rfl rfl (g3 _ _ _ _) (W _) E ?_;refine ko @ed ?_;refine ky @ed ?_;refine Ow.alloc rfl rfl T fun f za zD=>?_;simp only[ag,Vy,Wp];have zl:p.2.length=32:=by obtain⟨es,zi,ds,-,-,-,-,-,-,F⟩:=E;exact zd p ((F.mem_iff).1 V_)
 obtain⟨Q,R⟩:=Rb zl;have zE:a<f:=aQ za Wg;have zF:f∉keys D:=fun h=>by have:=aQ za (b:=f) (by simp[keys] at h |-;simp[h]);omega
 have zb:Xn (o++[toR p])=Xn o++[p]:=by unfold Xn;rw[We,VY,Wr];show _++[((toR p).name,(toR p).id.l)]=_;rw[Q,R]
 rw[<-Q,<-R];rw[<-zb] at E;clear zb Q R;refine Ow.Vd (M:=(a,C)::(f,Vm z32)::D) XJ ?_;have zc:=(toR p).id.h;have zm:aZ (some (true,32)) (some (Vm z32)) 0 (.agg (a8 (toR p).id.l))=some (.cells (a8 (toR p).id.l) 38 (0,0)):=Bf 32 true _ _ _ ⟨zc,by simp[a8,z32]⟩;have zn:=JC (toR p).id.l 38 zc;refine ko (aN @ed @zm) ?_;refine ky (aN @ed @zn) ?_;refine Ow.build _ rfl (rI (toR p).name (toR p).id) ?_;refine ko @ed ?_;refine ky @ed ?_;generalize toR p=r at*;refine Ow.buildSlice (e:=114) (aI r).toArray rfl rfl (ia r) fun l zo zG=>?_;have zH:a<l:=aQ zo Wg;refine Ow.Vd (M:=D++((a,C)::(f,Vm r.id.l)::[(l,Ve r)])) XJ ?_;refine Ow.XP (e:=114) (k:=1) (new:=aI r) (X:=D) v rfl rfl rfl rfl underlying57 YI kR eR (by rw[eI,Wd,bK]) underlying57 (by intro k h;cases h) V (fun t y=>W0.X6 (y.has l (Ve r) V_) (bK r) (gU r)) oM oM (fun B3 S z zq zI zr zJ zt zK=>?_);have zL:a<B3:=aQ zq (by simp[aV,keys]);have zu:Vq (a+1) z:=Vq.of_le fun i d=>by
  rcases zt i d with h|h
  .exact q.le i h
  omega
 refine Ow.Vd (M:=(a,C)::(z++[(f,Vm r.id.l),(l,Ve r)])) XJ ?_;have zv:Gr (z++[(f,Vm r.id.l),(l,Ve r)]) 114 33 S _ _:=Gr.app (.inl zr);have zw:Vq (a+1) (z++[(f,Vm r.id.l),(l,Ve r)]):=zu.app ⟨by omega,by omega,trivial⟩;generalize z++[(f,Vm r.id.l),(l,Ve r)]=E3 at*;refine ko @ed ?_;refine ky @ed ?_;refine Vo.mk (LG.mk S (o++[r]) E3 C O) (by show O.length<lf.length;omega) ⟨zw,?_,E,by show(o++[r]).length+O.length=m.length;simp;omega⟩ rfl rfl;show Gr E3 114 33 S (o++[r]).length ((o++[r]).map aI).flatten;simpa using zv
def qC{t l:List Vk}{k:Nat}{ls:List Vk}(h:dV t l k=some ls):t.length<=16/\l.length<=100/\ml t=true/\dT l t k=some ls:=by
 unfold dV at h
 split at h
 .rename_i a;exact⟨a.1,a.2.1,a.2.2,h⟩
 cases h
theorem vf{l t:List Vk}(c:t.length<=16):∀ (k:Nat) (ls:List Vk),dT l t k=some ls->ls.length<=16
 |0,ls,h=>by unfold dT at h;cases h;exact c
 |k+1,ls,h=>by
  unfold dT at h;cases a:dT l t k with
  |none=>rw[a] at h;cases h
  |some m=>
   rw[a,Yn] at h
   split at h
   .rename_i b;cases h;simp only[WK,XN] at b;exact b.2
   cases h
def pd{t l:List Vk}(h:am t l=true){k:Nat}(e:k<=l.length):
  ∃m ls,ofM bG z32 (Xn t) (Xn l) k=some m/\dV t l k=some ls/\Rel m (Xn ls)/\ls.length<=16/\l.length<=100:=by
 rw[<-Bs] at h;cases f:dV t l l.length with
 |none=>rw[f] at h;cases h
 |some le=>
  obtain⟨g,b,n,i⟩:=qC f;cases c:dT l t k with
  |none=>rw[E6 c _ e] at i;cases i
  |some ls=>
   have j:dV t l k=some ls:=by unfold dV;rw[Vb ⟨g,b,n⟩];exact c
   have a:=vh t l k e;rw[j] at a;rcases AX bG z32 (Xn t) (Xn l) (by rw[ew];exact b) k with⟨-,o⟩ | ⟨m,d,p,q,r⟩
   .rw[o] at a;cases a
   rw[q] at a;cases a;exact⟨m,ls,p,j,r,vf g k ls c,b⟩
def cE(n:Nat)(Vn:Int):Nat:=((n:Int) - max 0 (min Vn n)).toNat
def pu(n:Nat)(Vn:Int):cE n Vn<=n:=by unfold cE;omega
def Nn(n:Nat)(Vn:Int):(n:Int) - max 0 (min Vn n)=(cE n Vn:Nat):=by unfold cE;omega
def RK(n Vn:Int):(if(if n<Vn then n else Vn)>0 then(if n<Vn then n else Vn) else 0)=max 0 (min Vn n):=by split<;>split<;>omega
def lg(t l:List Vk)(Vn:Int)(v:hU)(D:aA):Prop:=
 if am t l=true then∃vt vl ls,dV t l (cE l.length Vn)=some ls/\v=.tuple #[.agg #[vt,vl],vi 0]/\Yq D 114 33 vt ls.length (ls.map aI).flatten/\Yq D 114 33 vl (l.drop (cE l.length Vn)).length ((l.drop (cE l.length Vn)).map aI).flatten
 else v=.tuple #[.agg #[Vj, Vj],vi 1]
def Kb(vt vl:hU)(t l:List Vk)(Vn:Int)(w:hW)(x:cj w vt t)(i:cj w vl l)(za:t.length<1000)(zb:l.length<1000)(y:dX t)(z:dX l):
  Va prog 56 #[.agg #[vt,vl],vi Vn] w (XS w [] (lg t l Vn)):=by
 refine Va.Vs func56 rfl (rs:=[.cell 4 59,.tmp 5]) results56 ntmps56 (fun p K=>by cases K) Wg ?_;refine kf ?_;refine kz [5] @aH ?_;refine Ow.box rfl rfl fun j zc d=>?_;refine Yx ?_;refine Ow.go rfl ?_;simp(disch:=first|exact dD|fail) only[↓Sx.S0,Sx.S1,fx,aH,Nat.reduceAdd,Nat.reducePow,Int.reducePow,Nat.reduceBEq,↓reduceIte,UInt8.reduceToNat,UInt16.reduceToNat,UInt32.reduceToNat,UInt64.reduceToNat,Int.reduceToNat];refine Ow.alloc rfl rfl Y7 fun br L e=>?_;simp only[ag,Vy,Wp];obtain⟨zd,-⟩:=L;refine ko @aH ?_;refine ky @aH ?_;refine Ow.Vc rfl call72 (fun f c=>qM vt vl t l f (x.WO c ⟨d,e,trivial⟩) (i.WO c ⟨d,e,trivial⟩) oM oM y z) ?_;cases n:am t l
 .refine ko @aH ?_;refine ky @aH ?_;refine Ow.build (.agg #[Vj, Vj]) rfl kR ?_;refine ko @aH ?_;refine ky @aH ?_;refine⟨_,(ke @aH),?_⟩;refine⟨Ext.Vt ⟨d,e,trivial⟩,?_⟩;unfold lg;rw[tr (by rw[n];simp)]
  rfl
 refine ko @aH ?_;refine ky (aN @aH i.len) ?_;refine Ow.qE5 rfl rfl rfl ?_;refine ko @aH ?_;refine Ow.qK6 (a:=0) rfl rfl rfl ?_;rw[RK];refine ko @aH ?_;have o:=pu l.length Vn;obtain⟨m,ls,M,N,O,ze,zf⟩:=pd n o;rw[Nn];refine ky (aN @aH @d_) ?_;refine Ow.qk3 rfl rfl call102 (S:=(fun B v D=>XO B t l (cE l.length Vn) v D)) (fun f c=>nw vt vl t l (cE l.length Vn) f (x.WO c ⟨d,e,trivial⟩) (i.WO c ⟨d,e,trivial⟩) oM oM o y z) (fun B v D h=>h.new) (fun B v D A hB q=>?_);unfold XO at q;rw[M] at q;obtain⟨bm,P,rfl,rfl,Q,C⟩:=q;have zg:j<bm:=Zx (aQ A Wg) C;have zh:br<bm:=Zx (aQ A Wg) C;generalize R:cE l.length Vn=k at*;refine ko @aH ?_;refine ky @aH ?_;obtain⟨T,E,U,-⟩:=Xz.qh7 i o true;refine Cw.Vu [j] [0,2,4,3,5,1,6,7,8,9] [8] kR kR kR ?_;refine WQ ?_;refine kq (qS1 @aH @qm6 @E) ?_;refine Ow.WV ?_;refine Ow.Wf rfl rfl call106 (fun f c=>MN bm P m ls f (c.has _ _ V_) Q O oM) (fun r v1 D1 s zi V F=>?_);have zj:bm<r:=aQ s Wg;have zk:j<r:=aQ s Wg;have zl:br<r:=aQ s Wg;have G:Vq (w.heap.size) D1:=V.mono oM;refine Ow.nil ?_;refine⟨by intro b g;simp only[Vw,WI,WB] at g;(try subst g);simp only[Wp,g3],?_⟩;refine kq (qS1 @aH @qm6 @E) ?_;refine Ow.WV ?_;have zm:(l.drop k).length<1000:=by rw[XC];omega
 refine Ow.Wf rfl rfl call64 (fun f c=>lz T (l.drop k) f (Xz.WO U c ⟨d,e,by omega,G⟩) oM) (fun B2 v2 D2 zn zo W H=>?_);have X:Vq (w.heap.size) D2:=W.mono oM;refine Ow.nil ?_;refine⟨by intro b g;simp only[Vw,WI,WB] at g;(try subst g);simp only[Wp,g3],?_⟩;refine kq @aH ?_;have I:=d9 F;have J:=H.cell;refine Ow.build (.agg #[v1,v2]) rfl (n9 v1 v2 I.2 J.2) ?_;refine kq @aH ?_;have Y:=gT Vj Vj v1 v2 59 I.1 J.1;refine Ow.store rfl rfl rfl (ke (aN @aH @Y)) ?_;refine kq @aH ?_
 try with_reducible refine Ow.nil ?_
 refine ky @aH ?_;refine⟨_,(ke @aH),?_⟩;refine⟨Ext.Vt ⟨d,e,by omega,G.app X⟩,?_⟩;unfold lg;rw[Vb n,R];refine⟨v1,v2,ls,N,rfl,F.mono fun Z u=>?_,H.i fun Z u=>?_⟩
 .simp[u]
 simp[u]
end Go.Proofs
end
section
open Go Go.Proofs Go.Sx Go.StP Go.RefP
namespace Go.Proofs
def jI(t l:List Vk):No:=if am t l=true then bL t l else []
def fJ(S:h8)(B:Xh)(Vn:Int):Nat×h8×Xh:=
 if am B.t B.l=true then match dV B.t B.l (cE B.l.length Vn) with
  |some ls=>if(bM S aJ aK (jI ls (B.l.drop (cE B.l.length Vn))) false).1≠0 then((bM S aJ aK (jI ls (B.l.drop (cE B.l.length Vn))) false).1,(bM S aJ aK (jI ls (B.l.drop (cE B.l.length Vn))) false).2,B)
   else(0,(bM S aJ aK (jI ls (B.l.drop (cE B.l.length Vn))) false).2,⟨ls,B.l.drop (cE B.l.length Vn),(B.l.drop (cE B.l.length Vn)).length⟩)
  |none=>(1,S,B)
 else(1,S,B)
def H'(vt vl:hU)(t l:List Vk)(w:hW)(a:Wz w)(b:cj w vt t)(c:cj w vl l)(d:t.length<1000)(f:l.length<1000)(g:WZ t)(i:WZ l):
  Va prog 39 #[.agg #[vt,vl]] w (fun v D=>v=.tuple #[vs (jI t l),vi (if am t l=true then 0 else 1)]/\D=[]):=by
 refine Calls.mono (sN vt vl t l w a b c d f g i) ?_;rintro e o ⟨v,D,j,k,m,n⟩;refine⟨v,D,j,k,?_,n⟩;rw[m];unfold jI;by_cases h:am t l=true
 .rw[Vb h,Vb h,Vb h]
 rw[tr h,tr h,tr h]
def qV{l:List Vk}(h:∀r,r∈l->r.name.length<1000):WZ l:=fun g a=>h _ (StP.W9 a)
def WZ.mem{l:List Vk}(h:WZ l){r:Vk}(a:r∈l):r.name.length<1000:=by obtain⟨k,b,rfl⟩:=StP.qh9 (z:=ar) a;exact h k b
theorem Ch{x r:Vk}:∀ {l:List Vk} {dn:Bool},r∈g9 x l dn->r=x\/r∈l
 | [],dn,h=>by
  unfold g9 at h;cases dn
  .exact .inl (VZ.1 h)
  cases h
 |p::l,dn,h=>by
  unfold g9 at h
  split at h
  .exact(Ch h).imp id (ah _)
  split at h
  .rcases Vw.1 h with h|h
   .exact .inl h
   rcases Vw.1 h with h|h
   .exact .inr (h▸aX)
   exact(Ch h).imp id (ah _)
  rcases Vw.1 h with h|h
  .exact .inr (h▸aX)
  exact(Ch h).imp id (ah _)
theorem uT{l t:List Vk}:∀ {k:Nat} {ls:List Vk},k<=l.length->dT l t k=some ls-> ∀r,r∈ls->r∈t\/r∈l
 |0,ls,_,h,r,a=>by unfold dT at h;cases h;exact .inl a
 |k+1,ls,c,h,r,a=>by
  unfold dT at h;cases b:dT l t k with
  |none=>rw[b] at h;cases h
  |some m=>
   rw[b,Yn] at h
   split at h
   .cases h;rcases Ch a with h|h
    .exact .inr (h▸StP.W9 oM)
    exact uT oM b r h
   cases h
def ES{t l:List Vk}{k:Nat}{ls:List Vk}(b:k<=l.length)(h:dV t l k=some ls)(c:WZ t)(d:WZ l):WZ ls/\ls.length<=16:=by obtain⟨e,g,i,a⟩:=qC h;exact⟨qV fun r f=>(uT b a r f).elim c.mem d.mem,vf e k ls a⟩
def rP(l:No):(bh l).length<=l.length+100:=by have a:=eL ((dx l).length:Int);have b:=mU l;simp only[bh,c9,VV];omega
def pO{t l:List Vk}(e:t.length<=16)(f:l.length<=100)(a:WZ t)(b:WZ l):(bL t l).length<=150000:=by
 have c:=qA a t.length (aj _);have d:=CD b l.length (aj _);rw[WH] at c d;have g:=rP (eQ t);have h:=eL (t.length:Int);have i:(eQ t).length=1+ (co (cb t.length)).length+ (ZS t).length:=by unfold eQ;simp only[VV,Wt,W7]
 unfold bL;rw[VV];omega
def It{t l:List Vk}(a:t.length<=16)(b:l.length<=100)(c:WZ t)(d:WZ l):(jI t l).length<=150000:=by
 unfold jI
 split
 .exact pO a b c d
 exact aR _
def fB:=aN (aN (qS1 @bA @b9 @Sx.Wk) (aN (aN @Sx.Wl @Yk) (aN @Yl @Ym))) (aN (aN (aN @gL @gQ) (aN @gP @gM)) (aN (aN @gS @gO) (aN @pV @j0)))
def Hl(e bd:Nat)(S:h8)(N:Nat)(B:Xh)(Vn:Int)(X:aA)(w:hW)(Z:∀p,p∈X->w.heap[p.1]? =some p.2)(hn:(keys X).Nodup)(hP:BoP e bd S N B X)(hN:N<600000)(hC:Wz w)(za:(1:Nat)∉keys X)
  (zb:B.t.length<1000) (zc:B.l.length<1000) (P:WZ B.t) (A:WZ B.l):
  Va prog 18 #[vp e 0,vi Vn] w (XS w X (fun v D=>v=vi ((fJ S B Vn).1:Nat)/\BoP e bd (fJ S B Vn).2.1 (N+42) (fJ S B Vn).2.2 D)):=by
 obtain⟨G,vt,vl,D,K,rfl,g⟩:=hP;have zd:Ext w X ((e,Vi (vp G.bd 0) vt vl (vi (B.n:Nat)))::(D++K)):=(Ext.refl w X).perm g.perm.symm;refine Va.Vs func18 rfl (rs:=[.tmp 4]) results18 ntmps18 Z hn ?_;refine kf ?_;refine Cw.Vd g.perm.symm ?_;refine ky @fB ?_;refine Ow.Wf rfl rfl call56 (fun m h=>Kb vt vl B.t B.l Vn m (gB g.t fun b o i=>h.has b o (ah _ (cJ _ i))) (gB g.l fun b o i=>h.has b o (ah _ (cJ _ i))) zb zc P.short A.short) (fun B1 v1 D1 zy ze zf n=>?_);have zg:=zf.mono ze;have Q:=eX zd zg;unfold lg at n;unfold fJ;by_cases j:am B.t B.l=true
 .rw[Vb j] at n |-;obtain⟨c,d,ls,C,rfl,x,q⟩:=n;rw[C];simp only;have e0:((0:Int) !=0)=false:=rfl;have zh:=pu B.l.length Vn;obtain⟨R,zi⟩:=ES zh C P A;have T:WZ (B.l.drop (cE B.l.length Vn)):=qV fun r j=>A.mem (List.mem_of_mem_drop j);have zz:=(qC C).2.1;have zj:(B.l.drop (cE B.l.length Vn)).length<=100:=by rw[XC];omega
  have zA:=It zi zj R T;generalize B.l.drop (cE B.l.length Vn)=s at*;have t:=kb Vj Vj c d 59 (d9 x).1 (d9 q).1;refine ko @fB ?_;refine Ow.alloc rfl rfl Y7 fun a F H=>?_;simp only[ag,Vy,Wp];have zk:e<a:=aQ F Wg;refine Ow.Vd (M:=(a, iU Vj Vj)::(e, Vi (vp G.bd 0) vt vl (vi (B.n:Nat)))::(D++(K++D1))) XJ ?_;have y:Ext w X ((a, iU c d)::(e, Vi (vp G.bd 0) vt vl (vi (B.n:Nat)))::(D++(K++D1))):=(eX Q (E:=[(a,iU c d)]) ⟨H,trivial⟩).perm XJ;refine ko (aN @fB @t) ?_;refine ky (qS1 @fB @e0 @t) ?_;refine Ow.Vc rfl call39 (fun m h=>H' c d ls s m (mI hC y h za) (gB x fun b o i=>h.has b o (by simp[i])) (gB q fun b o i=>h.has b o (by simp[i])) oM oM R T) ?_;refine ko @fB ?_;refine ky @fB ?_;have U:((a,iU c d)::(e, Vi (vp G.bd 0) vt vl (vi (B.n:Nat)))::(D++(K++D1))).Perm (D++((e, Vi (vp G.bd 0) vt vl (vi (B.n:Nat)))::(a, iU c d)::(K++D1))):=XJ;refine Ow.Vd U.symm ?_;refine Ow.Wa (X:=D) (Y:=(e, Vi (vp G.bd 0) vt vl (vi (B.n:Nat)))::(a, iU c d)::(K++D1)) rfl rfl rfl call40 (fun m h zl zm=>EW D G S N aJ aK (jI ls s) m zl zm g.D oM WT oM) (fun v7 D7 zn zo=>?_);have zq:=(y.perm U.symm).X1 zn;have I:(D7++((e,Vi (vp G.bd 0) vt vl (vi (B.n:Nat)))::(a, iU c d)::(K++D1))).Perm ((e, Vi (vp G.bd 0) vt vl (vi (B.n:Nat)))::(a, iU c d)::(D7++(K++D1))):=XJ;have J:=zq.perm I.symm;generalize bM S aJ aK (jI ls s) false=zr at*;obtain⟨L,qs⟩:=zr;obtain⟨rfl,u,zt,O⟩:=zo;rw[<-zt] at J I |-;have l:=fq L;refine Ow.Vd (I.symm) ?_;simp only at O |-;by_cases z:L=0
  .rw[tr (show¬L≠0 by simpa using z)];rw[aW (by simpa using z)] at l;have zu:=kE q;have zv:=lc (vp u.bd 0) vt vl (vi (B.n:Nat)) c d 102 (d9 x).1 (d9 q).1;have zw:=gO (vp u.bd 0) c d (vi (B.n:Nat)) (s.length:Nat) 102;refine ko (aN @fB @l) ?_;refine ky (aN @fB @l) ?_;refine Cw.Yh [a] [11] 12 kR rfl ?_;refine kyc ?_;refine Xx.run [0,1,2,3,4,5,6,7] [true,true,true,true,true,true,true,true,false,false,false,false] 4 rfl kR kR fun k V=>?_;refine WQ ?_;refine kp (qS3 @fB @Md.Ww @zu @pV @k8) ?_
   (with_reducible refine V _ _ _ ?_);clear V k
   refine Xx.one 8 _ kR rfl ?_;refine ko (aN @fB @zv) ?_;have W:∀o,aG w ((e,o)::(a, iU c d)::(D7++(K++D1))) a=some (iU c d):=fun o=>by rw[j_ _ _ _ _ _ oM];exact g3 _ _ _ _
   refine⟨fun r j=>by rw[VZ.1 j];exact(W _).trans (W _).symm,?_⟩;simp only[ql0,qr2];refine Xx.rest [9,10,11] rfl kR kR ?_;refine WQ ?_;refine kq @fB ?_;refine Ow.store rfl rfl rfl (ke (aN @fB @zw)) ?_;refine ko @fB ?_;refine ky @fB ?_;refine⟨_,(ke @fB),?_⟩;have zx:Ext w X ((e, Vi (vp u.bd 0) c d (vi (s.length:Nat)))::(a, iU c d)::(D7++(K++D1))):=J.keys rfl;exact⟨zx,rfl,u,c,d,D7,(a, iU c d)::(K++D1),rfl,⟨XJ,O,x.mono fun p f=>ah _ (cJ _ f),q.mono fun p f=>ah _ (cJ _ f)⟩⟩
  rw[Vb z];rw[aP z] at l;refine ko (aN @fB @l) ?_;refine ky (aN @fB @l) ?_;refine⟨_,(ke @fB),?_⟩;exact⟨J,rfl,u,vt,vl,D7,(a, iU c d)::(K++D1),rfl,⟨XJ,O,g.t.mono fun p f=>ah _ (aq _ f),g.l.mono fun p f=>ah _ (aq _ f)⟩⟩
 rw[tr j] at n |-;subst n;have e1:((1:Int) !=0)=true:=rfl;have t:=kb Vj Vj Vj Vj 59 rfl rfl;refine ko @fB ?_;refine Ow.alloc rfl rfl Y7 fun a F H=>?_;simp only[ag,Vy,Wp];have zk:e<a:=aQ F Wg;refine Ow.Vd (M:=(a, iU Vj Vj)::(e, Vi (vp G.bd 0) vt vl (vi (B.n:Nat)))::(D++(K++D1))) XJ ?_;have y:Ext w X ((a, iU Vj Vj)::(e, Vi (vp G.bd 0) vt vl (vi (B.n:Nat)))::(D++(K++D1))):=(eX Q (E:=[(a,iU Vj Vj)]) ⟨H,trivial⟩).perm XJ;refine ko (aN @fB @t) ?_;refine ky (qS1 @fB @e1 @t) ?_;refine⟨_,(ke @fB),?_⟩;exact⟨y,rfl,G,vt,vl,D,(a, iU Vj Vj)::(K++D1),rfl,⟨XJ,g.D.le oM,g.t.mono fun p f=>ah _ (aq _ f),g.l.mono fun p f=>ah _ (aq _ f)⟩⟩
end Go.Proofs
end
section
open Go Go.Proofs Go.Sx
namespace Go.Proofs
end Go.Proofs
end
section
open Go Go.Proofs Go.Sx Go.RefP
namespace Go.Proofs
def Ut(r:Vk)(w:hW)(g:r.name.length<1000):
  Va prog 52 #[.agg (aI r).toArray] w (fun v D=>v=vs (bh (bq r))/\D=[]):=by
 have h:=r.id.h;refine Va.Vr func52 rfl (rs:=[.tmp 2]) results52 ntmps52 ?_;refine kf ?_;refine ky @aH ?_;refine Ow.box rfl rfl fun i j c=>?_;refine Yx ?_;refine Ow.go rfl ?_;simp(disch:=first|exact dD|fail) only[↓Sx.S0,Sx.S1,fx,aH,Nat.reduceAdd,Nat.reducePow,Int.reducePow,Nat.reduceBEq,↓reduceIte,UInt8.reduceToNat,UInt16.reduceToNat,UInt32.reduceToNat,UInt64.reduceToNat,Int.reduceToNat];refine ky @aH ?_;refine Cw.WU [0,4,1,5,2,3,6,7,8,9,10] [] rfl kR kR ?_;refine WQ ?_;refine kq @aH ?_;have k:(bq r).length<1100:=by have d:=eL (r.name.length:Int);unfold bq c9;simp only[VV,Wt,W7];omega
 have l:=mU (bq r);have m:(c9 r.name).length<1100:=by have d:=eL (r.name.length:Int);unfold c9;simp only[VV];omega
 have e:=pN [69] (c9 r.name) (by simp;omega);have f:aM .add (vs ([69]++c9 r.name)) (vs r.id.l)=some (vs (bq r)):=pN ([69]++c9 r.name) r.id.l (by simp;omega);refine Ow.Vc rfl call89 (fun a b=>m9 r.name a oM) ?_;refine kq (aN @aH @e) ?_;refine Ow.Vc rfl call90 (fun a b=>r8 r.id a) ?_;refine kq (aN @aH @f) ?_;refine Ow.Vc rfl call91 (fun a b=>Ea (bq r) a oM) ?_;refine kq @aH ?_;refine Ow.Vc rfl call89 (fun a b=>m9 (dx (bq r)) a oM) ?_;refine kq @aH ?_
 try with_reducible refine Ow.nil ?_
 refine ky @aH ?_;refine⟨_,(ke @aH),⟨c,trivial⟩,?_⟩
 rfl
def _root_.Go.Sx.Xz.qk4{α:Type}{m:Nat}{enc:α->List hU}{z:α}{w:hW}{v:hU}{l:List α}(h:Xz m enc z w v l):Value.oneCell' v=true/\v.cells=#[v]:=by
 obtain⟨b,off,c,arr,E,fz,-,-,⟨rfl,-⟩ | ⟨rfl,-⟩⟩:=h
 .exact⟨rfl,rfl⟩
 exact⟨rfl,rfl⟩
def PX(a:hU)(t l:List Vk)(Vn:Int)(v:hU)(D:aA):Prop:=
 ∃vt vl ls,dV t l (cE l.length Vn)=some ls/\v=.agg #[vt,vl]/\Yq D 114 33 vt ls.length (ls.map aI).flatten/\eN (.sl (true,33)) a (some (some ((cE l.length Vn:Nat):Int))) none=some vl
def GD(vt vl:hU)(t l:List Vk)(Vn:Int)(w:hW)(A:cj w vt t)(f:cj w vl l)(P:t.length<1000)(Q:l.length<1000)(B:dX t)(C:dX l)(L:am t l=true):
  Va prog 57 #[.agg #[vt,vl],vi Vn] w (XS w [] (PX vl t l Vn)):=by
 have q:=pu l.length Vn;obtain⟨m,ls,R,n,S,T,U⟩:=pd L q;refine Va.Vs func57 rfl (rs:=[.cell 4 59]) results57 ntmps57 (fun p M=>by cases M) Wg ?_;refine kf ?_;refine ky @aH ?_;refine Ow.box rfl rfl fun V W c=>?_;refine Yx ?_;refine Ow.go rfl ?_;simp(disch:=first|exact dD|fail) only[↓Sx.S0,Sx.S1,fx,aH,Nat.reduceAdd,Nat.reducePow,Int.reducePow,Nat.reduceBEq,↓reduceIte,UInt8.reduceToNat,UInt16.reduceToNat,UInt32.reduceToNat,UInt64.reduceToNat,Int.reduceToNat];refine Ow.alloc rfl rfl Y7 fun br N d=>?_;simp only[ag,Vy,Wp];obtain⟨X,-⟩:=N;refine ko @aH ?_;refine ky (aN @aH f.len) ?_;obtain⟨b,o,D,-⟩:=Xz.qh7 f q true;by_cases F:Vn< (l.length:Int)
 .have z:decide (Vn< (l.length:Int))=true:=aP F;by_cases G:Vn<0
  .have E:decide (Vn<0)=true:=aP G;have e:((l.length:Nat):Int)=(cE l.length Vn:Nat):=by unfold cE;omega
   have O:aM .sub (vi (l.length:Int)) (vi Vn)=some (vi (IntKind.i64.wrap ((l.length:Int) - Vn))):=rfl;refine ky (qS3 @aH f.len @z @E @O) ?_;refine ky (aN @aH @d_) ?_;rw[e];generalize g:cE l.length Vn=k at*;refine Ow.Wf rfl rfl call53 (fun r h=>BG vt vl t l k r (A.WO h ⟨c,d,trivial⟩) (f.WO h ⟨c,d,trivial⟩) oM oM q B C) (fun H v1 D1 I J s a=>?_);unfold YH at a;rw[n] at a;obtain⟨x,rfl,a⟩:=a;have u:Vq (w.heap.size) D1:=s.mono oM;have i:=d9 a;have j:=Xz.qk4 D;have v:=gT Vj Vj x b 59 i.1 j.1;refine kn ?_;refine ko @aH ?_;refine ky (qS1 @aH @qm6 @o) ?_;refine Ow.build (.agg #[x,b]) rfl (n9 x b i.2 j.2) ?_;refine ko (aN @aH @v) ?_;refine ky @aH ?_;refine⟨_,(ke @aH),?_⟩;refine⟨Ext.Vt ⟨c,d,u⟩,x,b,ls,by rw[g];exact n,rfl,a.mono fun K y=>?_,by rw[g];exact o⟩;simp[y]
  have E:decide (Vn<0)=false:=aW G;have e:((l.length:Nat):Int) - Vn=(cE l.length Vn:Nat):=by unfold cE;omega
  refine ky (qS2 @aH f.len @z @E) ?_;refine ky (aN @aH @d_) ?_;rw[e];generalize g:cE l.length Vn=k at*;refine Ow.Wf rfl rfl call53 (fun r h=>BG vt vl t l k r (A.WO h ⟨c,d,trivial⟩) (f.WO h ⟨c,d,trivial⟩) oM oM q B C) (fun H v1 D1 I J s a=>?_);unfold YH at a;rw[n] at a;obtain⟨x,rfl,a⟩:=a;have u:Vq (w.heap.size) D1:=s.mono oM;have i:=d9 a;have j:=Xz.qk4 D;have v:=gT Vj Vj x b 59 i.1 j.1;refine kn ?_;refine ko @aH ?_;refine ky (qS1 @aH @qm6 @o) ?_;refine Ow.build (.agg #[x,b]) rfl (n9 x b i.2 j.2) ?_;refine ko (aN @aH @v) ?_;refine ky @aH ?_;refine⟨_,(ke @aH),?_⟩;refine⟨Ext.Vt ⟨c,d,u⟩,x,b,ls,by rw[g];exact n,rfl,a.mono fun K y=>?_,by rw[g];exact o⟩;simp[y]
 have z:decide (Vn< (l.length:Int))=false:=aW F;have e:(0:Int)=(cE l.length Vn:Nat):=by unfold cE;omega
 refine ky (qS1 @aH f.len @z) ?_;refine ky (aN @aH @d_) ?_;rw[show vi 0=vi (cE l.length Vn:Nat) by rw[<-e]];generalize g:cE l.length Vn=k at*;refine Ow.Wf rfl rfl call53 (fun r h=>BG vt vl t l k r (A.WO h ⟨c,d,trivial⟩) (f.WO h ⟨c,d,trivial⟩) oM oM q B C) (fun H v1 D1 I J s a=>?_);unfold YH at a;rw[n] at a;obtain⟨x,rfl,a⟩:=a;have u:Vq (w.heap.size) D1:=s.mono oM;have i:=d9 a;have j:=Xz.qk4 D;have v:=gT Vj Vj x b 59 i.1 j.1;refine kn ?_;refine ko @aH ?_;refine ky (qS1 @aH @qm6 @o) ?_;refine Ow.build (.agg #[x,b]) rfl (n9 x b i.2 j.2) ?_;refine ko (aN @aH @v) ?_;refine ky @aH ?_;refine⟨_,(ke @aH),?_⟩;refine⟨Ext.Vt ⟨c,d,u⟩,x,b,ls,by rw[g];exact n,rfl,a.mono fun K y=>?_,by rw[g];exact o⟩;simp[y]
theorem BO{x r:Vk}:∀ {l:List Vk} {dn:Bool},r∈g9 x l dn->(r=x/\dn=false)\/r∈l
 | [],dn,h=>by
  unfold g9 at h;cases dn
  .simp at h;exact .inl ⟨h,rfl⟩
  simp at h
 |a::l,dn,h=>by
  unfold g9 at h
  split at h
  .rcases BO h with h|h
   .exact .inl h
   exact .inr (ah _ h)
  split at h
  .rename_i c;have b:dn=false:=by cases dn<;>simp_all
   rcases Vw.1 h with h|h
   .exact .inl ⟨h,b⟩
   rcases Vw.1 h with h|h
   .exact .inr (by rw[h];exact aX)
   rcases BO h with h|h
   .cases h.2
   exact .inr (ah _ h)
  rcases Vw.1 h with h|h
  .exact .inr (by rw[h];exact aX)
  rcases BO h with h|h
  .exact .inl h
  exact .inr (ah _ h)
def lb(r:Vk):Prop:=bG r.name=true/\(r.id.l==z32)=false
theorem tH{l t:List Vk}(c:∀r,r∈t->lb r):∀ (k:Nat),k<=l.length-> ∀ls,dT l t k=some ls->(∀r,r∈ls->lb r)/\ ∀r,r∈ls->r∈t\/r∈l
 |0,_,ls,h=>by unfold dT at h;cases h;exact⟨c,fun r a=>.inl a⟩
 |k+1,j,ls,h=>by
  unfold dT at h;cases b:dT l t k with
  |none=>rw[b] at h;cases h
  |some m=>
   rw[b,Yn] at h;obtain⟨e,f⟩:=tH c k oM m b
   split at h
   .rename_i d;cases h;simp only[WK,XN] at d;have g:l.getD k ar∈l:=StP.W9 oM;refine⟨fun r a=>?_,fun r a=>?_⟩
    .rcases BO a with⟨rfl,i⟩ |a
     .exact⟨d.1,i⟩
     exact e r a
    rcases BO a with⟨rfl,-⟩ |a
    .exact .inr g
    exact f r a
   cases h
def Ml{t:List Vk}(h:ml t=true):∀r,r∈t->lb r:=by intro r b;obtain⟨i,a,rfl⟩:=StP.qh9 (z:=ar) b;have:=(qQ t).1 h i a;unfold dI at this;rw[jB t i a] at this;simp only[WK,Zy] at this;exact⟨this.1.1,this.1.2⟩
def HC{ls:List Vk}(d:∀r,r∈ls->lb r)(f:Yi (Xn ls)):ml ls=true:=by
 rw[qQ];intro i a;have c:=d _ (StP.W9 (z:=ar) a);unfold dI;rw[jB ls i a];simp only[WK,Zy,Bool.or_eq_true,W8];refine⟨⟨c.1,c.2⟩,?_⟩;by_cases g:i=0
 .exact .inl g
 right
 rw[jB ls (i - 1) oM];have:=List.pairwise_iff_getElem.1 f (i - 1) i (by rw[ew];omega) (by rw[ew];exact a) oM;have e:∀j (b:j<ls.length),(Xn ls)[j]'(by rw[ew];exact b)=((ls.getD j ar).name,(ls.getD j ar).id.l):=by intro j b;rw[<-jB ls j b,List.getD_eq_getElem?_getD,List.getElem?_eq_getElem (by rw[ew];exact b)];rfl
 rw[e _ oM,e _ a] at this;exact this
theorem tR{l t ls:List Vk}{k:Nat}(h:dT l t k=some ls):∀j,dT (l.drop k) ls j=dT l t (k+j)
 |0=>by rw[XL,h];rfl
 |j+1=>by rw[<-Nat.add_assoc];unfold dT;rw[tR h j,StP.qm4]
def JK{t l:List Vk}(a:am t l=true){k:Nat}(b:k<=l.length){ls:List Vk}(c:dV t l k=some ls):
  am ls (l.drop k)=true/\dV ls (l.drop k) (l.drop k).length=dV t l l.length/\ ∀r,r∈ls->r∈t\/r∈l:=by
 obtain⟨m,s,u,d,h,i,v⟩:=pd a b;rw[c] at d;obtain rfl:=XD d;obtain⟨j,n,e,f⟩:=qC c;obtain⟨o,p⟩:=tH (Ml e) k b ls f;have q:=HC o h.2;have g:dV ls (l.drop k) (l.drop k).length=dV t l l.length:=by unfold dV;rw[Vb ⟨i,by rw[XC];omega,q⟩,Vb ⟨j,n,e⟩,tR f,XC];congr 1;omega
 refine⟨?_,g,p⟩;rw[<-Bs,g,Bs,a]
end Go.Proofs
end
section
open Go Go.Proofs Go.Sx Go.RefP Go.StP
namespace Go.Proofs
def vU(x:Xl)(E:h7):aF (some (true,32)) (some (.cells (a8 x.l) E (0,0))) 0=some (.agg (a8 x.l)):=qp _ E (0,0) 32 x.h
def wT(y:Vk):(aI y).toArray.extract 1 (1+32)=a8 y.id.l:=by
 have a:=y.id.h;apply Array.ext';simp[aI,a8,a];rw[Yo (by simp[a])]
 rfl
def qh1(n:No):List Vk->No
 | []=>z32
 |r::l=>if r.name==n then r.id.l else qh1 n l
def km:=aN (aN (aN @bA @gd) (aN @iG @iF)) (aN (aN @b9 @kZ) (qS1 @kg @eI @vU))
def Fb(v:hU)(l:List Vk)(n:No)(w:hW)(p:cj w v l)(K:l.length<1000000):
  Va prog 54 #[v,vs n] w (fun B D=>B=.agg (a8 (qh1 n l))/\D=[]):=by
 obtain⟨b,off,arr,E,fz,a⟩:=p.row;have f:=p.len;have q:ac prog 38=some (.agg (a8 (List.replicate 32 0))):=qc2;rw[show(List.replicate 32 (0:Vf))=z32 from rfl] at q;have C:z32.length=32:=by simp[z32]
 refine Va.Vr func54 rfl (rs:=[.cell 4 38]) results54 ntmps54 ?_;refine kf ?_;refine ky @km ?_;refine Ow.alloc rfl rfl q fun i L r=>?_;simp only[ag,Vy,Wp];refine ko @km ?_;refine ky @km ?_;refine Cw.VU (G:=Nat) [6,7,8,9,12,13,14,15,16,17,18,19,20,21,22,23,10,11,5] (fun g=>[(5,vi g)]) (fun g=>[(i, Vm z32)]) (fun g=>g<=l.length/\qh1 n l=qh1 n (l.drop g)) (fun g=>l.length - g) 0 rfl rfl ?_ ?_
 .exact⟨aR _,rfl⟩
 intro g j F;refine kv ?_;obtain⟨M,k⟩:=F;by_cases c:g<l.length
 .have s:0<l.length:=by omega
  have N:=a.lt s;have H:=a.has s;have O:i≠b:=by omega
  have t:=a.idx true g c;have u:aF (some (false,1)) (some (.cells arr E fz)) (off+g*33)=some (vs (l.getD g ar).name):=a.cell (j:=0) (n:=1) c oM;have I:aF (some (true,32)) (some (.cells arr E fz)) (off+g*33+1)=some (.agg (a8 (l.getD g ar).id.l)):=by have h:=a.part bK (o:=1) (n:=32) c oM oM;rw[h,wT]
  have x:=StP.drop_cons (z:=ar) c;generalize P:l.getD g ar=y at*;have J:=y.id.h;have A:aG w [(i,Vm z32)] b=some (.cells arr E fz):=by rw[dr (by simp[keys];omega)];exact H
  have d:decide ((g:Int)< (l.length:Int))=true:=aP oM;have m:aZ (some (true,32)) (some (Vm z32)) 0 (.agg (a8 y.id.l))=some (Vm y.id.l):=Bf 32 true _ _ _ ⟨J,by simp[a8,z32]⟩;cases e:(y.name==n)
  .refine ky (qS5 @km @f @d @t @A @u @e) ?_;refine Vo.mk (G:=Nat) (g+1) (by show l.length - (g+1)<l.length - g;omega) ⟨c,?_⟩ rfl rfl;rw[k,x,qh1,tr (by rw[e];simp)]
  refine ky (aN @km (qS6 @f @d @t @A @u @e @I @m)) ?_;refine⟨_,(ke @km),⟨r,trivial⟩,?_⟩;rw[k,x,qh1,Vb e];rfl
 obtain rfl:g=l.length:=by omega
 have d:decide ((l.length:Int)< (l.length:Int))=false:=by simp
 refine ky (qS1 @km @f @d) ?_;refine Ow.build (.agg (a8 z32)) rfl N8 ?_;have m:aZ (some (true,32)) (some (Vm z32)) 0 (.agg (a8 z32))=some (Vm z32):=Bf 32 true _ _ _ ⟨C,by simp[a8,z32]⟩;refine ko (aN @km @m) ?_;rw[show z32=XY.l from rfl];refine⟨_,(ke @km),⟨r,trivial⟩,?_⟩;rw[k,List.drop_length];rfl
def MV{t:List Vk}(h:WZ t)(e:t.length<1000):(eQ t).length<1200000/\(bh (eQ t)).length<1200100:=by
 have f:=eL (t.length:Int);have b:=qA h t.length (aj _);rw[WH] at b;have a:=eL ((dx (eQ t)).length:Int);have c:=mU (eQ t);have d:(eQ t).length<1200000:=by simp only[eQ,VV,Wt,W7];omega
 refine⟨d,?_⟩;simp only[bh,c9,VV] at a |-;rw[c] at a |-;omega
def g0:=aN (qS1 @bA @b9 @mX) (qS1 @k8 @d_ @vU)
def Uy(vt vl:hU)(t l:List Vk)(w:hW)(m:cj w vt t)(u:cj w vl l)(R:t.length<1000)(zg:l.length<1000)(x:WZ t)(J:WZ l):
  Va prog 43 #[.agg #[vt,vl]] w (fun v D=>v=vs (bL t l)/\D=[]):=by
 obtain⟨K,L,z,A,B,d⟩:=m.row;obtain⟨M,o2,S,T,U,p⟩:=u.row;obtain⟨zh,zi⟩:=MV x R;refine Va.Vr func43 rfl (rs:=[.tmp 2]) results43 ntmps43 ?_;refine kf ?_;refine ky @g0 ?_;refine Ow.box rfl rfl fun e zj V=>?_;refine Yx ?_;refine Ow.go rfl ?_;simp(disch:=first|exact dD|fail) only[↓Sx.S0,Sx.S1,fx,g0,Nat.reduceAdd,Nat.reducePow,Int.reducePow,Nat.reduceBEq,↓reduceIte,UInt8.reduceToNat,UInt16.reduceToNat,UInt32.reduceToNat,UInt64.reduceToNat,Int.reduceToNat];refine ky (aN @g0 m.len) ?_;have zk:=eL (t.length:Int);have N:=pN [72] (co (cb (t.length:Int))) (by simp;omega);have W:([72]++co (cb (t.length:Int))).length<100:=by simp only[VV,Wt,W7];omega
 have O:eQ t=[72]++co (cb (t.length:Int))++ZS t:=rfl;generalize hP:[72]++co (cb (t.length:Int))=P at N W O;refine Ow.Vc rfl call88 (fun b f=>Ct _ (t.length:Int) b (aj _)) ?_;refine ko (aN @g0 @N) ?_;refine ky @g0 ?_;rw[show P=P++ZS (t.take 0) by simp[ZS]];refine Cw.VU (G:=Nat) [12,13,14,15,16,19,20,21,22,23,24,25,26,27,28,29,30,31,32,33,34,35,3,17,18,4] (fun g=>[(3,vs (P++ZS (t.take g))),(4,vi g)]) (fun g=>[(e, iU vt vl)]) (fun g=>g<=t.length) (fun g=>t.length - g) 0 rfl rfl ?_ ?_
 .exact aR _
 intro g j C;refine kv ?_;have X:=qA x g C;by_cases a:g<t.length
 .have i:0<t.length:=by omega
  have Y:=d.lt i;have Z:e≠K:=by omega
  have E:aG w [(e,iU vt vl)] K=some (.cells z A B):=by rw[dr (by simp[keys];omega)];exact d.has i
  have F:=d.idx true g a;have za:aF (some (false,1)) (some (.cells z A B)) (L+g*33)=some (vs (t.getD g ar).name):=d.cell (j:=0) (n:=1) a oM;have zb:aF (some (true,32)) (some (.cells z A B)) (L+g*33+1)=some (.agg (a8 (t.getD g ar).id.l)):=by have h:=d.part bK (o:=1) (n:=32) a oM oM;rw[h,wT]
  have H:=EO t g a;have q:=x g a;have zc:=vL q;generalize hy:t.getD g ar=y at*;have zl:=y.id.h;have zm:(c9 y.name).length<1100:=by have d:=eL (y.name.length:Int);unfold c9;simp only[VV];omega
  have c:decide ((g:Int)< (t.length:Int))=true:=aP oM;generalize k:P++ZS (t.take g)=s at*;have Q:s.length<1200100:=by rw[<-k];simp only[VV,Wt,W7];omega
  have I:=pN s (c9 y.name) oM;have zd:=pN (s++c9 y.name) y.id.l (by rw[VV];omega);refine ky (qS1 @g0 m.len @c) ?_;refine Cw.WU [0,1,3,9,11,2,4,5,6,10,12,13,14,7,8,15,16,17] [] rfl kR kR ?_;refine WQ ?_;refine kq (qS3 @g0 @F @E @za @zb) ?_;refine Ow.Vc rfl call89 (fun b f=>m9 y.name b oM) ?_;refine kq (aN @g0 @I) ?_;refine Ow.Vc rfl call90 (fun b f=>r8 y.id b) ?_;refine kq (aN @g0 @zd) ?_
  try with_reducible refine Ow.nil ?_
  refine ky @g0 ?_;refine Vo.mk (G:=Nat) (g+1) (by show t.length - (g+1)<t.length - g;omega) a rfl ?_;rw[H,<-Wb,k,qj4,<-Wb]
  rfl
 obtain rfl:g=t.length:=by omega
 have c:decide ((t.length:Int)< (t.length:Int))=false:=by simp
 rw[WH,<-O];refine ky (qS1 @g0 m.len @c) ?_;have Q:=mU (eQ t);refine Ow.Vc rfl call91 (fun b f=>Ea (eQ t) b oM) ?_;refine ko @g0 ?_;refine Ow.Vc rfl call89 (fun b f=>m9 (dx (eQ t)) b oM) ?_;refine ko @g0 ?_;refine ky @g0 ?_;rw[show c9 (dx (eQ t))=bh (eQ t) from rfl];have ze:bh (eQ t)++qa5 l=bL t l:=rfl;generalize zn:bh (eQ t)=r at*;rw[show r=r++qa5 (l.take 0) by simp[qa5]];refine Cw.VU (G:=Nat) [39,40,41,42,43,46,47,48,49,50,51,52,53,5,44,45,6] (fun g=>[(5,vs (r++qa5 (l.take g))),(6,vi g)]) (fun g=>[(e, iU vt vl)]) (fun g=>g<=l.length) (fun g=>l.length - g) 0 rfl rfl ?_ ?_
 .exact aR _
 intro g j C;refine kv ?_;have X:=CD J g C;by_cases a:g<l.length
 .have i:0<l.length:=by omega
  have Y:=p.lt i;have Z:e≠M:=by omega
  have E:aG w [(e,iU vt vl)] M=some (.cells S T U):=by rw[dr (by simp[keys];omega)];exact p.has i
  have F:=p.idx true g a;have zf:=p.load bK oM a;have H:=EG l g a;have q:=J g a;have zc:=nZ q;generalize hy:l.getD g ar=y at*;have c:decide ((g:Int)< (l.length:Int))=true:=aP oM;generalize k:r++qa5 (l.take g)=s at*;have Q:s.length<3000000:=by rw[<-k];simp only[VV];omega
  have I:=pN s (bh (bq y)) oM;refine ky (qS4 @g0 u.len @c @F @E @zf) ?_;refine Ow.Vc rfl call52 (fun b f=>Ut y b q) ?_;refine ko (aN @g0 @I) ?_;refine ky @g0 ?_;refine Vo.mk (G:=Nat) (g+1) (by show l.length - (g+1)<l.length - g;omega) a rfl ?_;rw[H,<-Wb,k]
  rfl
 obtain rfl:g=l.length:=by omega
 have c:decide ((l.length:Int)< (l.length:Int))=false:=by simp
 rw[WH,ze];refine ky (qS1 @g0 u.len @c) ?_;refine⟨_,(ke @g0),⟨V,trivial⟩,?_⟩
 rfl
theorem nu{k v z:No}:∀ {m:ab},iA m->(k,v)∈m->ZD k z m=v
 | [],_,h=>by cases h
 |p::m,hn,h=>by
  unfold iA at hn;rw[VY,Xd] at hn;unfold ZD;rw[List.find?_cons];rcases Vw.1 h with rfl|h
  .simp
  have a:(k==p.1)=false:=by rw[WN];intro e;exact hn.1 (by rw[<-e];exact List.mem_map.2 ⟨_,h,rfl⟩)
  rw[a];exact nu (z:=z) hn.2 h
def uY{k z:No}{m:ab}(h:k∉m.map Prod.fst):ZD k z m=z:=by
 unfold ZD;have:m.find? (fun p=>k==p.1)=none:=by rw[List.find?_eq_none];intro p a e;exact h (by rw[eq_of_beq e];exact List.mem_map.2 ⟨p,a,rfl⟩)
 rw[this]
def Ky{k z:No}{m b:ab}(a:m.Perm b)(d:iA b):ZD k z m=ZD k z b:=by
 have i:iA m:=((a.map Prod.fst).nodup_iff).2 d;by_cases h:∃v,(k,v)∈m
 .obtain⟨v,f⟩:=h;rw[nu i f,nu d (a.mem_iff.1 f)]
 have g:k∉m.map Prod.fst:=fun c=>by obtain⟨p,a,e⟩:=List.mem_map.1 c;exact h ⟨p.2,by rw[<-e];exact a⟩
 rw[uY g,uY fun c=>g ((a.map Prod.fst).mem_iff.2 c)]
theorem vX(n:No):∀ (l:List Vk),qh1 n l=ZD n z32 (Xn l)
 | []=>rfl
 |r::l=>by
  have e:Xn (r::l)=(r.name,r.id.l)::Xn l:=rfl;rw[e];unfold qh1 ZD;rw[List.find?_cons];rw[show(n==r.name)=(r.name==n) from Bool.beq_comm];cases h:(r.name==n)
  .rw[tr V_];exact vX n l
  rw[Vb rfl]
def Kj{t l le:List Vk}{n:No}(c:am t l=true)(d:dV t l l.length=some le):fI t l n=qh1 n le:=by obtain⟨m,ls,e,a,b,-,f⟩:=pd c (aj _);rw[d] at a;obtain rfl:=XD a;unfold fI;rw[e];simp only;rw[Vb f,vX];exact Ky b.1 b.2.nd
end Go.Proofs
end
section
open Go Go.Proofs Go.Sx Go.StP Go.RefP
namespace Go.Proofs
theorem sJ(most:Int):∀ (l:No) (k a:Nat) {n b:Nat},bR most l k a=.ok (n,b)-> ∀m,b<=k+m->bR most (l.take m) k a=.ok (n,b)
 | [],k,a,n,b,h,m,e=>by unfold bR at h;cases h
 |x::l,k,a,n,b,h,m,e=>by
  have g:=(rE most (x::l) k a n b h).1;obtain⟨m,rfl⟩:∃f,m=f+1:=⟨m - 1,by omega⟩;rw[List.take_succ_cons];unfold bR at h |-;by_cases c:128<=x.toNat
  .rw[Vb c] at h |-;by_cases d:k+1=6
   .rw[Vb d] at h;cases h
   rw[tr d] at h |-;exact sJ most l (k+1) _ h m oM
  rw[tr c] at h |-;exact h
theorem s_(most:Int):∀ (l:No) (k a:Nat) {x:Nat},bR most l k a=.error x->0<x
 | [],k,a,x,h=>by unfold bR at h;cases h;decide
 |c::l,k,a,x,h=>by
  unfold bR at h
  split at h
  .split at h
   .cases h;decide
   exact s_ most l _ _ h
  split at h
  .cases h;decide
  split at h
  .cases h
  cases h;decide
def M8{s:No}{a:Nat}{most:Int}(h:(aE s a 0 most).2.2=0):a< (aE s a 0 most).2.1/\(aE s a 0 most).2.1<=s.length/\ ∀m,(aE s a 0 most).2.1<=m->aE (s.take m) a 0 most=aE s a 0 most:=by
 cases b:bR most (s.drop a) 0 0 with
 |error x=>rw[jA rfl b] at h;have e:(x:Int)=0:=h;exfalso;have:=s_ most (s.drop a) 0 0 b;omega
 |ok p=>obtain⟨n,k⟩:=p;rw[pg rfl b];obtain⟨f,d⟩:=rE most _ _ _ _ _ b;rw[XC] at d;refine⟨by show a<a+k;omega,by show a+k<=s.length;omega,fun m c=>?_⟩;have c:a+k<=m:=c;refine pg rfl ?_;rw[List.drop_take];exact sJ most _ 0 0 b (m - a) oM
def NE{s:No}{a:Nat}{n:Int}(h:(aw s a 0 n).2.2=0):a<= (aw s a 0 n).2.1/\(a<=s.length->(aw s a 0 n).2.1<=s.length)/\ ∀m,(aw s a 0 n).2.1<=m->aw (s.take m) a 0 n=aw s a 0 n:=by
 unfold aw at h |-;simp only[ne_eq,not_true_eq_false,↓reduceIte] at h |-;by_cases b:n<0
 .rw[Vb b] at h;cases h
 rw[tr b] at h |-;by_cases c:(s.length:Int) - a<n
 .rw[Vb c] at h;cases h
 rw[tr c];refine⟨by show a<=a+n.toNat;omega,fun e=>by show a+n.toNat<=s.length;omega,fun m d=>?_⟩;have d:a+n.toNat<=m:=d;rw[tr b,tr (by rw[W3];omega)];simp only[Xp,and_true];rw[List.drop_take,List.take_take,Nat.min_eq_left oM]
def J2{s:No}{a:Nat}{most:Int}(h:(aS s a 0 most).2.2=0):a< (aS s a 0 most).2.1/\(aS s a 0 most).2.1<=s.length/\ ∀m,(aS s a 0 most).2.1<=m->aS (s.take m) a 0 most=aS s a 0 most:=by
 unfold aS at h |-;simp only at h |-;by_cases d:(aw s (aE s a 0 most).2.1 (aE s a 0 most).2.2 (aE s a 0 most).1).2.2≠0
 .rw[Vb d] at h;exact Vx h d
 rw[tr d];have c:(aw s (aE s a 0 most).2.1 (aE s a 0 most).2.2 (aE s a 0 most).1).2.2=0:=Classical.not_not.1 d;have b:(aE s a 0 most).2.2=0:=by
  by_cases b:(aE s a 0 most).2.2=0
  .exact b
  unfold aw at c;rw[Vb b] at c;exact Vx c b
 obtain⟨n,e,f⟩:=M8 b;rw[b] at c |-;obtain⟨o,g,i⟩:=NE c;refine⟨by omega,g e,fun m j=>?_⟩;have k:=f m oM;have l:=i m j;rw[k,b,l,tr (by rw[c];simp)]
def sv{s:No}{a:Nat}{p c:No}{b:Nat}{e:Int}(h:bw s a 0 p=(some c,b,e)):a<b/\b<=s.length/\e=0/\ ∀m,b<=m->bw (s.take m) a 0 p=bw s a 0 p:=by
 have q:=h;unfold bw at h;simp only[Xp] at h;obtain⟨d,f⟩:=h
 split at d
 .rename_i g;obtain⟨i,j,k⟩:=J2 g.2.2;have l:(aS s a 0 65536).2.1=b:=by rw[f]
  have n:(aS s a 0 65536).2.2=e:=by rw[f]
  rw[l] at i j k;refine⟨i,j,n.symm.trans g.2.2,fun m o=>?_⟩;unfold bw;rw[k m o]
 cases d
def Kk{s:No}{t:List Vk}{a:Nat}(h:j3 s=some (t,a)):0<a/\a<=s.length/\am t []=true/\ ∀m,a<=m->j3 (s.take m)=some (t,a):=by
 have l:=h;unfold j3 at h;cases b:bw s 0 0 [72] with
 |mk o f=>
  obtain⟨n,e⟩:=f;rw[b] at h;cases o with
  |none=>cases h
  |some c=>
   simp only at h
   split at h
   .rename_i d;cases h;obtain⟨g,i,-,j⟩:=sv b;refine⟨g,i,d.2,fun m k=>?_⟩;unfold j3;rw[j m k,b];simp only;rw[Vb d]
   cases h
def u3{s:No}{tb log l2:List Vk}{a b:Nat}(h:gI s tb log a=some (l2,b)):a<b/\b<=s.length/\am tb l2=true/\ ∀m,b<=m->gI (s.take m) tb log a=some (l2,b):=by
 unfold gI at h;cases d:bw s a 0 [69] with
 |mk o g=>
  obtain⟨n,e⟩:=g;rw[d] at h;cases o with
  |none=>cases h
  |some c=>
   simp only at h
   split at h
   .rename_i f;cases h;obtain⟨i,j,-,k⟩:=sv d;refine⟨i,j,f.2,fun m l=>?_⟩;unfold gI;rw[k m l,d];simp only;rw[Vb f]
   cases h
def Ms{s:No}{tb log:List Vk}{a:Nat}(h:s.length<=a):gI s tb log a=none:=by
 cases b:gI s tb log a with
 |none=>rfl
 |some p=>obtain⟨c,d⟩:=p;obtain⟨e,f,-⟩:=u3 b;omega
theorem tI{s:No}{tb:List Vk}:∀ (n:Nat) {log c:List Vk} {a b:Nat},eo s tb n log a=(c,b)->a<=s.length->am tb log=true->a<=b/\b<=s.length/\am tb c=true/\eo (s.take b) tb n log a=(c,b)
 |0,log,c,a,b,h,d,e=>by unfold eo at h |-;cases h;exact⟨aj _,d,e,rfl⟩
 |n+1,log,c,a,b,h,d,e=>by
  unfold eo at h;cases f:gI s tb log a with
  |none=>rw[f] at h;cases h;refine⟨aj _,d,e,?_⟩;unfold eo;rw[Ms (by rw[W3];omega)]
  |some p=>obtain⟨q,r⟩:=p;rw[f] at h;obtain⟨t,g,i,j⟩:=u3 f;obtain⟨k,l,m,o⟩:=tI n h g i;refine⟨by omega,l,m,?_⟩;unfold eo;rw[j b k];exact o
def Lo{s:No}{t l:List Vk}{a:Nat}(h:fm s=some (t,l,a)):a<=s.length/\am t l=true/\fm (s.take a)=some (t,l,a):=by
 unfold fm at h;cases b:j3 s with
 |none=>rw[b] at h;cases h
 |some c=>obtain⟨m,n⟩:=c;rw[b] at h;simp only[Ws,WD,Xp] at h;obtain⟨rfl,h⟩:=h;obtain⟨o,d,e,f⟩:=Kk b;obtain⟨g,i,j,k⟩:=tI 101 h d e;refine⟨i,j,?_⟩;unfold fm;rw[f a g];simp only[Ws];rw[k]
def S8{S:h8}(u:W1 S)(n:eP S){dir nm:No}{k:Nat}(c:al dir=some k)(N:bF nm=true)(i:bF (aB nm)=true)(data:No):
  ∃a,W1 a/\eP a/\a.max=S.max/\bB a k (aB nm)=some []/\(∀j,j<3-> ∀x,(j=k->x≠aB nm)->bB a j x=bB S j x)/\
   (((bD a dir (aB nm) data).2=8/\bM S dir nm data false=(8,(d5 a dir (aB nm)).1))\/((bD a dir (aB nm) data).2=0/\(bM S dir nm data false).1=0)):=by
 have hd:bT k=dir:=(cN c).2.symm;have za:=(cN c).1;have O:∀ {j x},j<3->(j=k->x≠aB nm)->bT j=dir->x≠aB nm:=fun{j x} f h e=>h (by have:=jP f;rw[e,c] at this;exact(XD this).symm);have E:∀ {A B:h8} {kind:Int} {s:No} {e:Nat},W1 A->Xc A kind dir (aB nm) s B e->kind≠4-> ∀j,j<3-> ∀x,(j=k->x≠aB nm)->bB B j x=bB A j x:=fun P Q v j f x o=>D_ P Q f fun e=>⟨O f o e,fun h=>Vx h v⟩;obtain⟨S1,⟨b0,R⟩,w,F,T,v1,U⟩:∃S1,(∃b,Xa 0 (tk0 dir nm data false) S=⟨b,0,tk0 dir nm data false,S1⟩)/\W1 S1/\eP S1/\S1.max=S.max/\bB S1 k (aB nm)=none/\ ∀j,j<3-> ∀x,(j=k->x≠aB nm)->bB S1 j x=bB S j x:=by
  have p:=pF n c i;show∃S1,(∃b,fy (tk0 dir nm data false) S=_)/\_;unfold fy;cases q:bB S k (aB nm) with
  |none=>rw[q] at p;exact⟨S,⟨false,by rw[Vb (by show(bX S dir (aB nm)).2≠0;rw[p];simp)]⟩,u,n,rfl,q,fun _ _ _ _=>rfl⟩
  |some d=>rw[q] at p;obtain⟨y,r⟩:=UU n c i q;have st:=kP S dir (aB nm) [];refine⟨(d5 S dir (aB nm)).1,⟨true,?_⟩,iP u st,kG n st,nJ st,r,E u st WT⟩;rw[tr (by show¬ (bX S dir (aB nm)).2≠0;rw[p];simp)];show Z9.mk true (d5 S dir (aB nm)).2 _ _=_;rw[y];rfl
 obtain⟨y,r⟩:=UY w F c i v1;have m:=qF S1 dir (aB nm) [];have z:=iP w m;have C:=kG F m;have V:=(nJ m).trans T;have W:=E w m WT;have X:Xa 1 (W4 dir nm data false 1 false) S1=⟨true,0,W4 dir nm data false 1 true,(cC S1 dir (aB nm)).1⟩:=by show Z9.mk true (cC S1 dir (aB nm)).2 {W4 dir nm data false 1 false with made:=(cC S1 dir (aB nm)).2==0} _=_;rw[y];rfl
 clear m;generalize (cC S1 dir (aB nm)).1=a at*;refine⟨a,z,C,V,r,fun j f x o=>(W j f x o).trans (U j f x o),?_⟩;have G:=kO a dir (aB nm) data;have H:=iP z G;have I:=kG C G;have J:Xa 2 (W4 dir nm data false 2 true) a=⟨true,(bD a dir (aB nm) data).2,W4 dir nm data false 2 true,(bD a dir (aB nm) data).1⟩:=rfl;have K:bM S dir nm data false=YK 4 (W4 dir nm data false 2 true) a:=by unfold bM;rw[eh (t':=W4 dir nm data false 1 false) R rfl rfl rfl,eh (t':=W4 dir nm data false 2 true) X rfl rfl rfl]
 rcases Uj z C c i r data with⟨g,t⟩ | ⟨g,t⟩
 .refine .inl ⟨g,?_⟩;rw[K,iO J (by show(bD a dir (aB nm) data).2≠0;rw[g];simp)];unfold cc;rw[Vb ⟨rfl,by show(bD a dir (aB nm) data).2≠9;rw[g];simp⟩];show((bD a dir (aB nm) data).2,(d5 (bD a dir (aB nm) data).1 dir (aB nm)).1)=_;rw[g,t]
 refine .inr ⟨g,?_⟩;rw[Vy] at t;rw[K,eh (t':=W4 dir nm data false 3 true) J g rfl rfl];show(YK 3 _ (bD a dir (aB nm) data).1).1=0;generalize (bD a dir (aB nm) data).1=l at*;obtain⟨s1,Y⟩:=tV H I c i t;have L:=mT l dir (aB nm) [];have Z:Xa 3 (W4 dir nm data false 3 true) l=⟨true,0,W4 dir nm data false 3 true,(az l dir (aB nm)).1⟩:=by show Z9.mk true (az l dir (aB nm)).2 _ _=_;rw[s1];rfl
 have g4:=iP H L;have M:=kG I L;rw[eh (t':=W4 dir nm data false 4 true) Z rfl rfl rfl];show(YK 2 _ (az l dir (aB nm)).1).1=0;generalize (az l dir (aB nm)).1=S' at*;obtain⟨n1,n2,n3⟩:=UW g4 M c i N (mF nm) Y;have st:=qE S' dir (aB nm) nm;have c5:=kG M st;have v:Xa 4 (W4 dir nm data false 4 true) S'=⟨true,0,W4 dir nm data false 4 false,(cO S' dir (aB nm) nm).1⟩:=by show Z9.mk true (cO S' dir (aB nm) nm).2 {W4 dir nm data false 4 true with made:=true&& (cO S' dir (aB nm) nm).2 !=0} _=_;rw[n1];rfl
 rw[eh (t':=W4 dir nm data false 5 false) v rfl rfl rfl];show(YK 1 _ (cO S' dir (aB nm) nm).1).1=0;generalize (cO S' dir (aB nm) nm).1=D at*;obtain⟨d1,d2⟩:=UJ c5 c;have h5:Xa 5 (W4 dir nm data false 5 false) D=⟨true,0,W4 dir nm data false 5 false,(dZ D dir).1⟩:=by show Z9.mk true (dZ D dir).2 _ _=_;rw[d1];rfl
 rw[qx h5 rfl rfl]
def qc6:bF aK=true/\bF (aB aK)=true:=by decide+kernel
end Go.Proofs
end
section
open Go Go.Proofs Go.Sx Go.StP
namespace Go.Proofs
structure Yr(S0 S:h8)(k:Nat)(nm:No):Prop where
 fs:∀n,n<S0.files.length->aC S n=aC S0 n
 len:S0.files.length<=S.files.length
 stl:∀j,j<3->(S.dir j).stl=(S0.dir j).stl
 Vl:∀j,j<3-> ∀c,c∈ (S.dir j).Vl->j=k/\c.a=aB nm/\c.kind≠1
def fr(S0 S:h8)(k:Nat)(nm data:No)(m:Nat):Prop:=aL (S.dir k).seen (aB nm)=some m/\S0.files.length<=m/\m<S.files.length/\(aC S m).data=data
structure qd2(S0 S:h8)(k:Nat)(nm data:No)(light:Bool)(m:Nat):Prop where
 fs:∀n,n<S0.files.length->aC S n=aC S0 n
 stl:∀j,j<3->(S.dir j).stl=(S0.dir j).stl
 pendO:∀j,j<3->j≠k->(S.dir j).Vl=[]
 Vl:∃q,(S.dir k).Vl=q++[⟨1,aB nm,nm,0⟩]/\ ∀c,c∈q->c.a=aB nm/\c.kind≠1
 at_:aL (S.dir k).seen nm=some m
 data:(aC S m).data=data
 set:light=false->(aC S m).stl=(aC S m).data.length
structure qn5(S0 S:h8)(k:Nat)(nm data:No)(m:Nat):Prop where
 fs:∀n,n<S0.files.length->aC S n=aC S0 n
 oth:∀j,j<3-> ∀x,(j=k->x≠nm/\x≠aB nm)->aL (S.dir j).stl x=aL (S0.dir j).stl x
 Vl:∀j,j<3->(S.dir j).Vl=[]
 at_:aL (S.dir k).stl nm=some m
 data:(aC S m).data=data
 set:(aC S m).stl=(aC S m).data.length
section
variable {S0 S:h8} {k:Nat} {nm dir data:No} {m:Nat}
def SD{S':h8}(h:Yr S0 S k nm)(b:S'.dir=S.dir)(c:S'.files=S.files):Yr S0 S' k nm:=by
 have e:∀n,aC S' n=aC S n:=fun n=>by unfold aC;rw[c]
 exact⟨fun n d=>(e n).trans (h.fs n d),by rw[c];exact h.len,fun j a=>by rw[b];exact h.stl j a,fun j a=>by rw[b];exact h.Vl j a⟩
def m8(h:Yr S0 S k nm):Yr S0 (aD S).1 k nm:=SD h (d7 S).1 (d7 S).2.1
def vy(h:Yr S0 S k nm){c:Wy}(f:c.a=aB nm)(g:c.kind≠1):Yr S0 (b_ S k c) k nm:=by
 refine⟨h.fs,h.len,fun j b=>?_,fun j b d a=>?_⟩
 .unfold b_;by_cases e:j=k
  .subst e;rw[dt];exact h.stl j b
  rw[e7 _ _ e];exact h.stl j b
 unfold b_ at a;by_cases e:j=k
 .subst e;rw[dt] at a;rcases Wu.1 a with a|a
  .exact h.Vl j b d a
  rw[VZ.1 a];exact⟨rfl,f,g⟩
 rw[e7 _ _ e] at a;exact h.Vl j b d a
def QF(h:Yr S0 S k nm):Yr S0 (ci S bV) k nm:=by
 refine⟨fun n a=>?_,?_,h.stl,h.Vl⟩
 .rw[Dx _ _ (Zx a h.len)];exact h.fs n a
 show _<= (S.files++[bV]).length;rw[VV];have:=h.len;omega
def A6(h:Yr S0 S k nm)(c:S0.files.length<=m)(a:m<S.files.length)(f:WR):Yr S0 (dJ S m f) k nm:=by
 refine⟨fun n b=>?_,?_,h.stl,h.Vl⟩
 .rw[iQ _ _ a,tr oM];exact h.fs n b
 show _<= (S.files.set m f).length;rw[X8];exact h.len
def sV(a:al dir=some k)(h:Yr S0 S k nm):Yr S0 (d5 S dir (aB nm)).1 k nm:=by
 unfold d5
 split
 .exact h
 split
 .exact h
 split
 .exact m8 h
 rw[a];exact vy (m8 h) rfl fun e=>by cases e
def IW(a:al dir=some k)(h:Yr S0 S k nm):Yr S0 (cC S dir (aB nm)).1 k nm:=by
 unfold cC
 split
 .exact h
 split
 .exact h
 split
 .exact m8 h
 rw[a];exact vy (QF (m8 h)) rfl fun e=>by cases e
def Hg(d:al dir=some k)(f:W1 S)(h:Yr S0 S k nm)(a:(cC S dir (aB nm)).2=0):fr S0 (cC S dir (aB nm)).1 k nm [] S.files.length:=by
 have g:=(cN d).1;unfold cC at a |-
 split at a
 .rename_i b;exact Vx a b
 rename_i b;rw[tr b]
 split at a
 .cases a
 split at a
 .rename_i c;exact Vx a c
 rename_i c;rw[tr c,d];obtain⟨i,e,-⟩:=d7 S;refine⟨?_,h.len,?_,?_⟩
 .show aL ((b_ (ci (aD S).1 bV) k ⟨0,aB nm,[],S.files.length⟩).dir k).seen (aB nm)=_;rw[mV,Vb rfl];show aL (dU ((aD S).1.dir k).seen (aB nm,S.files.length)) (aB nm)=_;rw[i];exact BF (f.srt k g) (aB nm,S.files.length)
 .show S.files.length< ((aD S).1.files++[bV]).length;rw[e,VV];simp
 show(aC (ci (aD S).1 bV) S.files.length).data=[];rw[<-e,Ce];rfl
def JF(a:al dir=some k){d:No}(h:Yr S0 S k nm)(b:fr S0 S k nm d m)(s:No):Yr S0 (bD S dir (aB nm) s).1 k nm:=by
 obtain⟨c,e,f,-⟩:=b;unfold bD
 split
 .exact h
 rw[gr a,c];simp only
 split
 .exact h
 split
 .exact m8 h
 exact A6 (m8 h) e (by rw[(d7 S).2.1];exact f) _
def IK(g:al dir=some k){d:No}(h:fr S0 S k nm d m){s:No}(a:(bD S dir (aB nm) s).2=0):fr S0 (bD S dir (aB nm) s).1 k nm (d++s) m:=by
 obtain⟨e,i,j,l⟩:=h;obtain⟨n,o,-⟩:=d7 S;unfold bD at a |-
 split at a
 .rename_i b;exact Vx a b
 rename_i b;rw[tr b];rw[gr g,e] at a |-;simp only at a |-
 split at a
 .cases a
 rename_i p;rw[tr p]
 split at a
 .rename_i c;exact Vx a c
 rename_i c;rw[tr c];have f:m< (aD S).1.files.length:=by rw[o];exact j
 refine⟨by show aL ((aD S).1.dir k).seen _=_;rw[n];exact e,i,by show m< ((aD S).1.files.set m _).length;rw[X8];exact f,?_⟩;rw[iQ _ _ f,Vb rfl,<-l]
def OP(a:al dir=some k){d:No}(h:Yr S0 S k nm)(b:fr S0 S k nm d m):Yr S0 (az S dir (aB nm)).1 k nm:=by
 obtain⟨c,e,f,-⟩:=b;unfold az
 split
 .exact h
 rw[gr a,c];simp only
 split
 .exact m8 h
 exact A6 (m8 h) e (by rw[(d7 S).2.1];exact f) _
def LP(i:al dir=some k){d:No}(j:fr S0 S k nm d m)(a:(az S dir (aB nm)).2=0):fr S0 (az S dir (aB nm)).1 k nm d m/\(aC (az S dir (aB nm)).1 m).stl=d.length:=by
 obtain⟨f,l,n,g⟩:=j;obtain⟨o,p,-⟩:=d7 S;unfold az at a |-
 split at a
 .rename_i b;exact Vx a b
 rename_i b;rw[tr b];rw[gr i,f] at a |-;simp only at a |-
 split at a
 .rename_i c;exact Vx a c
 rename_i c;rw[tr c];have h:m< (aD S).1.files.length:=by rw[p];exact n
 have e:=iQ (aD S).1 (m:=m) ⟨(aC S m).data,(aC S m).data.length⟩ h m;rw[Vb rfl] at e;simp only;refine⟨⟨by show aL ((aD S).1.dir k).seen _=_;rw[o];exact f,l,by show m< ((aD S).1.files.set m _).length;rw[X8];exact h,?_⟩,?_⟩
 .rw[e];exact g
 rw[e,<-g]
def Il(h:Yr S0 S k nm)(a:(cO S dir (aB nm) nm).2≠0):Yr S0 (cO S dir (aB nm) nm).1 k nm:=by
 unfold cO at a |-
 split at a
 .rename_i b;rw[Vb b];exact h
 rename_i b;rw[tr b]
 split at a
 .exact h
 rw[tr (mF nm)] at a |-
 split at a
 .rename_i c;rw[Vb c];exact m8 h
 exact Vx rfl a
def Gm(f:al dir=some k)(t:W1 S)(h:Yr S0 S k nm)(u:fr S0 S k nm data m){light:Bool}(v:light=false->(aC S m).stl=data.length)(a:(cO S dir (aB nm) nm).2=0):qd2 S0 (cO S dir (aB nm) nm).1 k nm data light m:=by
 obtain⟨o,z,A,p⟩:=u;have g:=(cN f).1;obtain⟨q,B,-⟩:=d7 S;unfold cO at a |-
 split at a
 .rename_i i;exact Vx a i
 rename_i i;rw[tr i];rw[gr f,o] at a |-;simp only at a |-;rw[tr (mF nm)] at a |-
 split at a
 .rename_i l;exact Vx a l
 rename_i l;rw[tr l,f];have b:∀j,((b_ (aD S).1 k ⟨1,aB nm,nm,0⟩).dir j)=if j=k then⟨bY (S.dir k).seen ⟨1,aB nm,nm,0⟩,(S.dir k).stl,(S.dir k).Vl++[⟨1,aB nm,nm,0⟩]⟩ else S.dir j:=fun j=>by
  unfold b_;by_cases e:j=k
  .subst e;rw[dt,Vb rfl,q]
  rw[e7 _ _ e,tr e,q]
 refine⟨fun n w=>(i8 S n).trans (h.fs n w),fun j d=>?_,fun j d e=>?_,⟨(S.dir k).Vl,?_,fun c s=>⟨(h.Vl k g c s).2.1,(h.Vl k g c s).2.2⟩⟩,?_,?_,fun x=>?_⟩
 .show((b_ (aD S).1 k _).dir j).stl=_;rw[b];by_cases e:j=k
  .subst e;rw[Vb rfl];exact h.stl j d
  rw[tr e];exact h.stl j d
 .show((b_ (aD S).1 k _).dir j).Vl=_;rw[b,tr e];cases y:(S.dir j).Vl with
  |nil=>rfl
  |cons c r=>exact Vx (h.Vl j d c (by rw[y];exact aX)).1 e
 .show((b_ (aD S).1 k _).dir k).Vl=_;rw[b,Vb rfl]
 .show aL ((b_ (aD S).1 k _).dir k).seen nm=_;rw[b,Vb rfl];show aL (dU (bl (S.dir k).seen (aB nm)) (nm,(aL (S.dir k).seen (aB nm)).getD 0)) nm=_;rw[o];exact BF (qn _ (t.srt k g)) (nm,m)
 .exact(Wc WR.data (i8 S m)).trans p
 show(aC (aD S).1 m).stl=(aC (aD S).1 m).data.length;rw[i8,v x,p]
def NL{light:Bool}(h:qd2 S0 S k nm data light m):qd2 S0 (aD S).1 k nm data light m:=by obtain⟨a,f,-⟩:=d7 S;exact⟨fun n c=>(i8 S n).trans (h.fs n c),fun j b=>by rw[a];exact h.stl j b,fun j b e=>by rw[a];exact h.pendO j b e,by rw[a];exact h.Vl,by rw[a];exact h.at_,by rw[i8];exact h.data,fun d=>by rw[i8];exact h.set d⟩
def G6{light:Bool}(h:qd2 S0 S k nm data light m)(a:(dZ S dir).2≠0):qd2 S0 (dZ S dir).1 k nm data light m:=by
 unfold dZ at a |-
 split at a
 .rename_i b;rw[Vb b];exact h
 rename_i b;rw[tr b]
 split at a
 .rename_i c;rw[Vb c];exact NL h
 exact Vx rfl a
def FZ(o:al dir=some k)(r:dw S)(h:qd2 S0 S k nm data false m)(b:(dZ S dir).2=0):qn5 S0 (dZ S dir).1 k nm data m:=by
 have v:=(cN o).1;obtain⟨p,w,-⟩:=d7 S;unfold dZ at b |-
 split at b
 .rename_i f;exact Vx b f
 rename_i f;rw[tr f]
 split at b
 .rename_i g;exact Vx b g
 rename_i g;rw[tr g,o];have i:∀j,((eW (aD S).1 k).dir j)=if j=k then⟨(S.dir k).seen,(S.dir k).seen,[]⟩ else S.dir j:=fun j=>by
  unfold eW;by_cases e:j=k
  .subst e;rw[dt,Vb rfl,p]
  rw[e7 _ _ e,tr e,p]
 obtain⟨y,s,q⟩:=h.Vl;refine⟨fun n t=>(i8 S n).trans (h.fs n t),fun j d x l=>?_,fun j d=>?_,?_,(Wc WR.data (i8 S m)).trans h.data,?_⟩
 .show aL ((eW (aD S).1 k).dir j).stl x=_;rw[i];by_cases e:j=k
  .subst e;rw[Vb rfl];show aL (S.dir j).seen x=_;rw[<- (r j).1,Dh _ _ fun c a=>?_,h.stl j d];rw[s] at a;rcases Wu.1 a with a|a
   .exact⟨by rw[(q c a).1];exact Wq (l rfl).2,fun u=>Vx u (q c a).2⟩
   rw[VZ.1 a];exact⟨Wq (l rfl).2,fun _=>Wq (l rfl).1⟩
  rw[tr e,h.stl j d]
 .show((eW (aD S).1 k).dir j).Vl=_;rw[i];by_cases e:j=k
  .rw[Vb e]
  rw[tr e];exact h.pendO j d e
 .show aL ((eW (aD S).1 k).dir k).stl nm=_;rw[i,Vb rfl];exact h.at_
 show(aC (aD S).1 m).stl=(aC (aD S).1 m).data.length;rw[i8];exact h.set rfl
end
def nF{S0:h8}{k:Nat}{nm dir:No}(a:al dir=some k){r:Z9}(b:r.t.dir=dir)(c:r.t.name=nm)(h:Yr S0 r.S k nm):Yr S0 (cc r).S k nm:=by
 unfold cc
 split
 .rw[b,c];exact sV a h
 exact h
def Dd{r:Z9}(h:r.t.made=false):(cc r).S=r.S:=by unfold cc;rw[tr (fun a=>by have:(YV r).made=false:=h;rw[this] at a;cases a.1)]
def im(S0:h8)(k:Nat)(nm data:No)(light:Bool)(r:Nat×h8):Prop:=
 (Yr S0 r.2 k nm/\r.1≠0)\/(∃m,qd2 S0 r.2 k nm data light m/\(light=false->r.1≠0))\/ ∃m,light=false/\qn5 S0 r.2 k nm data m
def Jg{S0:h8}(h0:∀j,j<3->(S0.dir j).Vl=[])(P:W1 S0)(Q:dw S0){dir nm:No}{k:Nat}(b:al dir=some k)(data:No)(light:Bool):im S0 k nm data light (bM S0 dir nm data light):=by
 have zh:=(cN b).1;have R:Yr S0 S0 k nm:=⟨fun _ _=>rfl,aj _,fun _ _=>rfl,fun j hj c S=>by rw[h0 j hj] at S;cases S⟩;have hl:∀n m,eU (YV ⟨true,0,W4 dir nm data light n m,S0⟩)=(n+1==6|| (light&&n+1==5)):=fun _ _=>rfl;obtain⟨A,l,S1,T,B,U,zf⟩:∃A l S1,Xa 0 (tk0 dir nm data light) S0=⟨A,l,tk0 dir nm data light,S1⟩/\Yr S0 S1 k nm/\W1 S1/\dw S1:=by
  show∃A l S1,fy (tk0 dir nm data light) S0=_/\_;unfold fy
  split
  .exact⟨false,0,S0,rfl,R,P,Q⟩
  have st:=kP S0 dir (aB nm) [];exact⟨true,_,_,rfl,sV b R,iP P st,pL Q st⟩
 unfold bM;by_cases C:l≠0
 .rw[iO T C];exact .inl ⟨by show Yr S0 (cc _).S k nm;rw[Dd rfl];exact B,by show(cc _).e≠0;rw[(n4 _).1];exact C⟩
 obtain rfl:l=0:=by simpa using C
 rw[eh (t':=W4 dir nm data light 1 false) T rfl (by cases light<;>rfl) (by cases light<;>rfl)];show im S0 k nm data light (YK 5 _ S1);have V:=qF S1 dir (aB nm) [];have D:=IW b B;have W:=iP U V;have X:=pL zf V;have E:=fun d=>Hg (dir:=dir) b U B d;have F:Xa 1 (W4 dir nm data light 1 false) S1=⟨true,(cC S1 dir (aB nm)).2,W4 dir nm data light 1 ((cC S1 dir (aB nm)).2==0),(cC S1 dir (aB nm)).1⟩:=rfl;generalize cC S1 dir (aB nm)=f at*;obtain⟨g,Y⟩:=f;simp only at D W X E F;by_cases r:Y≠0
 .rw[iO F r];exact .inl ⟨by show Yr S0 (cc _).S k nm;rw[Dd (WN.2 r)];exact D,by show(cc _).e≠0;rw[(n4 _).1];exact r⟩
 obtain rfl:Y=0:=by simpa using r
 have Z:=E rfl;clear E;rw[eh (t':=W4 dir nm data light 2 true) F rfl (by cases light<;>rfl) (by cases light<;>rfl)];show im S0 k nm data light (YK 4 _ g);generalize S1.files.length=m at*;have za:=kO g dir (aB nm) data;have t:=JF b D Z data;have G:=iP W za;have H:=pL X za;have u:=fun d=>IK (s:=data) b Z d;rw[Vy] at u;have I:Xa 2 (W4 dir nm data light 2 true) g=⟨true,(bD g dir (aB nm) data).2,W4 dir nm data light 2 true,(bD g dir (aB nm) data).1⟩:=rfl;generalize bD g dir (aB nm) data=f at*;obtain⟨e,e2⟩:=f;simp only at t G H u I;by_cases J:e2≠0
 .rw[iO I J];exact .inl ⟨nF b rfl rfl t,by show(cc _).e≠0;rw[(n4 _).1];exact J⟩
 obtain rfl:e2=0:=by simpa using J
 have K:=u rfl;clear u;rw[eh (t':=W4 dir nm data light 3 true) I rfl (by cases light<;>rfl) (by cases light<;>rfl)];show im S0 k nm data light (YK 3 _ e);have o:im S0 k nm data light (YK 3 (W4 dir nm data light 3 true) e)\/ ∃a,YK 3 (W4 dir nm data light 3 true) e=YK 2 (W4 dir nm data light 4 true) a/\Yr S0 a k nm/\W1 a/\dw a/\fr S0 a k nm data m/\(light=false->(aC a m).stl=data.length):=by
  cases light with
  |true=>have p:Xa 3 (W4 dir nm data true 3 true) e=⟨false,0,W4 dir nm data true 3 true,e⟩:=rfl;exact .inr ⟨e,by rw[eh (t':=W4 dir nm data true 4 true) p rfl rfl rfl],t,G,H,K,fun h=>by cases h⟩
  |false=>
   have zb:=mT e dir (aB nm) [];have i:=OP b t K;have v:=iP G zb;have w:=pL H zb;have L:=fun d=>LP (dir:=dir) b K d;have p:Xa 3 (W4 dir nm data false 3 true) e=⟨true,(az e dir (aB nm)).2,W4 dir nm data false 3 true,(az e dir (aB nm)).1⟩:=rfl;generalize az e dir (aB nm)=f at*;obtain⟨a,e3⟩:=f;simp only at i v w L p;by_cases M:e3≠0
   .left
    rw[iO p M];exact .inl ⟨nF b rfl rfl i,by show(cc _).e≠0;rw[(n4 _).1];exact M⟩
   obtain rfl:e3=0:=by simpa using M
   exact .inr ⟨a,by rw[eh (t':=W4 dir nm data false 4 true) p rfl rfl rfl],i,v,w,(L rfl).1,fun _=>(L rfl).2⟩
 rcases o with o| ⟨a,o,i,v,w,m4,s4⟩
 .exact o
 rw[o];have zg:=qE a dir (aB nm) nm;have zc:=pL w zg;have p5:=fun d=>Il (dir:=dir) i d;have zd:=fun d=>Gm (dir:=dir) b v i m4 s4 d;have x:Xa 4 (W4 dir nm data light 4 true) a=⟨true,(cO a dir (aB nm) nm).2,W4 dir nm data light 4 (true&& (cO a dir (aB nm) nm).2 !=0),(cO a dir (aB nm) nm).1⟩:=rfl;generalize cO a dir (aB nm) nm=f at*;obtain⟨q,e4⟩:=f;simp only at zc p5 zd x;by_cases y:e4≠0
 .rw[iO x y];exact .inl ⟨nF b rfl rfl (p5 y),by show(cc _).e≠0;rw[(n4 _).1];exact y⟩
 obtain rfl:e4=0:=by simpa using y
 have N:=zd rfl;cases light with
 |true=>rw[qx x rfl rfl];exact .inr (.inl ⟨m,N,fun h=>by cases h⟩)
 |false=>
  rw[eh (t':=W4 dir nm data false 5 false) x rfl rfl rfl];show im S0 k nm data false (YK 1 _ q);have p6:=fun d=>G6 (dir:=dir) N d;have ze:=fun d=>FZ (dir:=dir) b zc N d;have O:Xa 5 (W4 dir nm data false 5 false) q=⟨true,(dZ q dir).2,W4 dir nm data false 5 false,(dZ q dir).1⟩:=rfl;generalize dZ q dir=f at*;obtain⟨S6,e5⟩:=f;simp only at p6 ze O;by_cases z:e5≠0
  .rw[iO O z];exact .inr (.inl ⟨m,by show qd2 S0 (cc _).S k nm data false m;rw[Dd rfl];exact p6 z,fun _=>by show(cc _).e≠0;rw[(n4 _).1];exact z⟩)
  obtain rfl:e5=0:=by simpa using z
  rw[qx O rfl rfl];exact .inr (.inr ⟨m,rfl,ze rfl⟩)
end Go.Proofs
end
section
open Go Go.Proofs Go.Sx Go.StP Go.RefP
namespace Go.Proofs
def ql5(S:h8):Prop:= ∀k,k<3-> ∀i p,p∈bj S k i-> ∀a,a∈bj S k i->p.2=a.2->p=a
def m'{S S':h8}(h:ql5 S)(e:S'.dir=S.dir):ql5 S':=by unfold ql5 bj at*;rw[e];exact h
def EE{S:h8}(h:ql5 S)(n:dw S){k:Nat}{c:Wy}(o:g8 (b_ S k c)):ql5 (b_ S k c):=fun j f i p a g b e=>by
 by_cases l:j=k
 .subst l;have m:(b_ S j c).dir j=⟨bY (S.dir j).seen c,(S.dir j).stl,(S.dir j).Vl++[c]⟩:=by unfold b_;rw[dt]
  by_cases q:i<= (S.dir j).Vl.length
  .have d:bj (b_ S j c) j i=bj S j i:=by
    unfold bj;rw[m];show(((S.dir j).Vl++[c]).take i).foldl _ _=_;rw[List.take_append_of_le_length q]
   rw[d] at a b;exact h j f i p a g b e
  have d:bj (b_ S j c) j i=((b_ S j c).dir j).seen:=by unfold bj;rw[m];show(((S.dir j).Vl++[c]).take i).foldl bY (S.dir j).stl=bY (S.dir j).seen c;rw[Yo (by rw[VV,List.length_singleton];omega),List.foldl_append,(n j).1];rfl
  rw[d] at a b;exact(o j j f f p a g b e).2
 have d:bj (b_ S k c) j i=bj S j i:=by unfold bj b_;rw[e7 _ _ l]
 rw[d] at a b;exact h j f i p a g b e
structure Yj(S:h8):Prop where
 ok:XK S
 uniq:g8 S
 hist:dw S
 up:ql5 S
 disj:p7 S
theorem Yj.qa4{S:h8}(h:Yj S):W1 S:=h.ok.qa4 h.uniq
def Yj.step{S S':h8}{kind:Int}{dir name s:No}{e:Nat}(h:Yj S)(o:Xc S kind dir name s S' e):Yj S':=by
 have ok:=y_ h.ok o;have r:=MQ h.ok h.uniq o;have B:=pL h.hist o;obtain⟨d,G,-⟩:=d7 S;refine⟨ok,r,B,?_,?_⟩
 .cases o with
  |same=>exact h.up
  |Y5=>exact m' h.up d
  |create k q C g v=>exact EE (S:=ci (aD S).1 bV) (m' h.up d) (jO h.hist d) r
  |append=>exact m' h.up d
  |sync=>exact m' h.up d
  |syncDir k q v=>
   have D:=m' h.up d;intro j f i p l x t e;by_cases y:j=k
   .subst y;have w:bj (eW (aD S).1 j) j i=((aD S).1.dir j).seen:=by
     unfold bj eW;rw[dt];show(([]:List Wy).take i).foldl _ _=_;rw[List.take_nil];rfl
    rw[w,d] at l t;exact(h.uniq j j f f p l x t e).2
   have w:bj (eW (aD S).1 k) j i=bj (aD S).1 j i:=by unfold bj eW;rw[e7 _ _ y]
   rw[w] at l t;exact D j f i p l x t e
  |rename=>exact EE (m' h.up d) (jO h.hist d) r
  |remove=>exact EE (m' h.up d) (jO h.hist d) r
 have same:∀ {S':h8},(∀k n,qa3 (S'.dir k) n->qa3 (S.dir k) n)->p7 S':=fun z j k f q n a b=>h.disj j k f q n (z j n a) (z k n b);cases o with
 |same=>exact h.disj
 |Y5=>exact same fun k n h=>by rw[d] at h;exact h
 |create k q C g v=>
  have E:(ci (aD S).1 bV).dir=S.dir:=d;intro i j A f n a b;have a:=By a;have b:=By b;rw[E] at a b;rcases a with u| ⟨rfl,-,u⟩
  .rcases b with m| ⟨rfl,-,m⟩
   .exact h.disj i j A f n u m
   have:=AF h.ok A u;have e:S.files.length=n:=m;omega
  rcases b with m| ⟨rfl,-,m⟩
  .have:=AF h.ok f m;have e:S.files.length=n:=u;omega
  rfl
 |append=>refine same fun k n h=>?_;have h:qa3 ((aD S).1.dir k) n:=h;rw[d] at h;exact h
 |sync=>refine same fun k n h=>?_;have h:qa3 ((aD S).1.dir k) n:=h;rw[d] at h;exact h
 |syncDir k q v=>
  refine same fun j n g=>?_;unfold eW at g;by_cases e:j=k
  .subst e;rw[dt,d] at g;rcases g with⟨p,l,rfl⟩ | ⟨c,F,-⟩
   .exact NY (h.hist j) l
   cases F
  rw[e7 _ _ e,d] at g;exact g
 |rename=>refine same fun j n h=>?_;have h:=(By h).resolve_right (by rintro⟨-,h,-⟩;cases h);rw[d] at h;exact h
 |remove=>refine same fun j n h=>?_;have h:=(By h).resolve_right (by rintro⟨-,h,-⟩;cases h);rw[d] at h;exact h
def Yj.pub{S:h8}(h:Yj S)(dir nm data:No)(light:Bool):Yj (bM S dir nm data light).2:=
 jc Yj dir nm (fun _ _ _ _ _ a b _=>a.step b) 6 (tk0 dir nm data light) S rfl rfl h
def Yj.sync{S:h8}(h:Yj S)(dir nm:No):Yj (az S dir nm).1:=h.step (mT S dir nm [])
def N2{Q:h8->Prop}(c:∀S data,Q S->Q (bM S aJ aK data false).2)(d:∀S,Q S->Q (az S aJ aK).1){S:h8}(h:Q S):Q (g6 S).2.2:=by
 have a:Q (ck S).2.2:=by
  unfold ck
  split
  .exact c _ _ h
  exact h
 unfold g6
 split
 .exact a
 split
 .exact a
 rename_i p _;have b:Q (if p.2.2< (ck S).1.length then bM (ck S).2.2 aJ aK ((ck S).1.take p.2.2) false else(0,(ck S).2.2)).2:=by
  split
  .exact c _ _ a
  exact a
 unfold qe0;simp only;generalize (if p.2.2< (ck S).1.length then bM (ck S).2.2 aJ aK ((ck S).1.take p.2.2) false else(0,(ck S).2.2))=e at*
 split
 .exact b
 split
 .exact d _ b
 exact d _ b
def Yj.open{S:h8}(h:Yj S):Yj (g6 S).2.2:=N2 (fun _ data h=>h.pub aJ aK data false) (fun _ h=>h.sync aJ aK) h
def Yj.qo9{S:h8}(h:Yj S){pl:List UInt16}(ok:XK (du S pl)):Yj (du S pl):=by
 have r:∀ {j},j<3-> ∀ {p},p∈ ((du S pl).dir j).seen->qa3 (S.dir j) p.2:=fun{j} d {p} f=>by obtain⟨i,o,l⟩:=CZ S pl d;rw[l] at f;exact r1 (h.hist j).2 i o p f
 have s:∀ {j},j<3-> ∀ {n},qa3 ((du S pl).dir j) n->qa3 (S.dir j) n:=fun{j} d {n} t=>by
  obtain⟨i,o,l⟩:=CZ S pl d;rw[l] at t;rcases t with⟨p,f,rfl⟩ | ⟨c,v,-⟩
  .exact r1 (h.hist j).2 i o p f
  cases v
 refine⟨ok,fun j k d g p f q m e=>?_,EU h.hist pl,fun k g i p f q m e=>?_,fun j k d g n a b=>h.disj j k d g n (s d a) (s g b)⟩
 .have w:=h.disj j k d g p.2 (r d f) (by rw[e];exact r g m);subst w;obtain⟨i,o,l⟩:=CZ S pl d;rw[l] at f m;exact⟨rfl,h.up j d i p f q m e⟩
 obtain⟨u,o,l⟩:=CZ S pl g;have x:bj (du S pl) k i=bj S k u:=by
  conv=>lhs;unfold bj
  rw[l];show(([]:List Wy).take i).foldl _ _=_;rw[List.take_nil];rfl
 rw[x] at f m;exact h.up k g u p f q m e
theorem Yj.Wv{S:h8}(h:Yj S){n:Int}{b:Bool}(ok:XK {S with Wv:=n,fused:=b}):Yj {S with Wv:=n,fused:=b}:=⟨ok,h.uniq,h.hist,h.up,h.disj⟩
def Yj.of{q:Int}{l:List XU}(ok:XK (ofD q l)):Yj (ofD q l):=⟨ok,oC q l,wJ q l,fun k c i p a d b e=>by obtain⟨f,g⟩:=AR q l c;unfold bj at a b;rw[g,List.take_nil] at a b;have a:p∈ ((ofD q l).dir k).stl:=a;have b:d∈ ((ofD q l).dir k).stl:=b;rw[f] at a b;exact(oC q l k k c c p a d b e).2,R' q l⟩
def Xb(M:Nat)(S:h8):Prop:= ∀n,(aC S n).data.length<=M
section
variable {M:Nat} {S:h8}
def pP{S':h8}(h:Xb M S)(e:S'.files=S.files):Xb M S':=fun n=>by unfold aC;rw[e];exact h n
def iH(h:Xb M S):Xb M (aD S).1:=pP h (d7 S).2.1
def rx(h:Xb M S)(dir x:No):Xb M (d5 S dir x).1:=by
 unfold d5
 split
 .exact h
 split
 .exact h
 split
 .exact iH h
 exact pP (iH h) rfl
def JO(h:Xb M S)(dir x y:No):Xb M (cO S dir x y).1:=by
 unfold cO
 split
 .exact h
 split
 .exact h
 split
 .exact iH h
 split
 .exact iH h
 exact pP (iH h) rfl
def I4(h:Xb M S)(dir:No):Xb M (dZ S dir).1:=by
 unfold dZ
 split
 .exact h
 split
 .exact iH h
 exact pP (iH h) rfl
def qu{m:Nat}{f:WR}(h:Xb M S)(a:f.data.length<=M):Xb M (dJ S m f):=fun n=>by
 by_cases b:m<S.files.length
 .rw[iQ _ _ b]
  split
  .exact a
  exact h n
 rw[EM _ oM];exact h n
def C6(h:Xb M S)(dir x:No):Xb M (az S dir x).1:=by
 unfold az
 split
 .exact h
 split
 .exact h
 split
 .exact iH h
 exact qu (iH h) (h _)
def QZ(h:Xb M S):Xb M (ci S bV):=fun n=>by
 by_cases a:n<S.files.length
 .rw[Dx _ _ a];exact h n
 by_cases e:n=S.files.length
 .rw[e,Ce];exact aR _
 rw[tB]
 .exact aR _
 show(S.files++[bV]).length<=n;rw[VV,List.length_singleton];omega
def Jc(h:Xb M S)(dir x:No):Xb M (cC S dir x).1:=by
 unfold cC
 split
 .exact h
 split
 .exact h
 split
 .exact iH h
 exact pP (QZ (iH h)) rfl
def Gk(e:W1 S){dir x:No}(a:(cC S dir x).2=0):∃k m,al dir=some k/\aL ((cC S dir x).1.dir k).seen x=some m/\(aC (cC S dir x).1 m).data=[]:=by
 unfold cC at a |-
 split at a
 .rename_i b;exact Vx a b
 rename_i b;rw[tr b];obtain⟨k,d,-⟩:=Cb (Classical.not_not.1 b);have f:=(cN d).1
 split at a
 .cases a
 split at a
 .rename_i c;exact Vx a c
 rename_i c;rw[tr c,d];obtain⟨g,h,-⟩:=d7 S;refine⟨k,S.files.length,rfl,?_,?_⟩
 .show aL ((b_ (ci (aD S).1 bV) k ⟨0,x,[],S.files.length⟩).dir k).seen x=_;rw[mV,Vb rfl];show aL (dU ((aD S).1.dir k).seen (x,S.files.length)) x=_;rw[g];exact BF (e.srt k f) (x,S.files.length)
 show(aC (ci (aD S).1 bV) S.files.length).data=[];rw[<-h,Ce];rfl
def Jo{dir x s:No}{k m:Nat}(h:Xb M S)(a:al dir=some k)(b:aL (S.dir k).seen x=some m)(c:(aC S m).data.length+s.length<=M):Xb M (bD S dir x s).1:=by
 unfold bD
 split
 .exact h
 rw[gr a,b];simp only
 split
 .exact h
 split
 .exact iH h
 exact qu (iH h) (by rw[VV];exact c)
def Cg{r:Z9}(h:Xb M r.S):Xb M (cc r).S:=by
 unfold cc
 split
 .exact rx h _ _
 exact h
theorem RI:∀ (k:Nat) (t:Yg),3<=k->Xb M S->Xb M (Xa k t S).S
 |0,_,h,_=>Vx h WT
 |1,_,h,_=>Vx h WT
 |2,_,h,_=>Vx h WT
 |3,t,_,h=>by
  show Xb M (i6 t S).S;unfold i6
  split
  .exact h
  exact C6 h _ _
 |4,t,_,h=>JO h _ _ _
 |n+5,t,_,h=>by
  show Xb M (mh t S).S;unfold mh
  split
  .exact h
  exact I4 h _
end
theorem ur{M:Nat}:∀ (f:Nat) (t:Yg) (S:h8),3<=t.next->Xb M S->Xb M (YK f t S).2
 |0,_,_,_,h=>h
 |f+1,t,S,b,h=>by
  have a:=RI t.next t b h;rw[Ax]
  split
  .exact Cg a
  split
  .exact a
  exact ur f _ _ (by rw[(lD t.next t S).2.2.2.2];omega) a
def lF{M:Nat}{S:h8}(n:W1 S)(h:Xb M S)(dir nm:No){data:No}(y:data.length<=M)(light:Bool):Xb M (bM S dir nm data light).2:=by
 obtain⟨c,a,S1,o,p,z⟩:∃c a S1,Xa 0 (tk0 dir nm data light) S=⟨c,a,tk0 dir nm data light,S1⟩/\Xb M S1/\W1 S1:=by
  show∃c a S1,fy (tk0 dir nm data light) S=_/\_;unfold fy
  split
  .exact⟨false,0,S,rfl,h,n⟩
  exact⟨true,_,_,rfl,rx h _ _,iP n (kP S dir (aB nm) [])⟩
 unfold bM;by_cases q:a≠0
 .rw[iO o q];exact Cg (r:=⟨c,a,tk0 dir nm data light,S1⟩) p
 obtain rfl:a=0:=by simpa using q
 rw[eh (t':=W4 dir nm data light 1 false) o rfl (by cases light<;>rfl) (by cases light<;>rfl)];show Xb M (YK 5 _ S1).2;have e:=Jc p dir (aB nm);have t:=fun A=>Gk (dir:=dir) (x:=aB nm) z A;have f:Xa 1 (W4 dir nm data light 1 false) S1=⟨true,(cC S1 dir (aB nm)).2,W4 dir nm data light 1 ((cC S1 dir (aB nm)).2==0),(cC S1 dir (aB nm)).1⟩:=rfl;generalize cC S1 dir (aB nm)=g at*;obtain⟨b,d⟩:=g;simp only at e t f;by_cases u:d≠0
 .rw[iO f u];exact Cg (r:=⟨true,d,W4 dir nm data light 1 (d==0),b⟩) e
 obtain rfl:d=0:=by simpa using u
 obtain⟨k,m,B,C,D⟩:=t rfl;rw[eh (t':=W4 dir nm data light 2 true) f rfl (by cases light<;>rfl) (by cases light<;>rfl)];show Xb M (YK 4 _ b).2;have i:=Jo (s:=data) e B C (by rw[D,W7,Xg];exact y);have j:Xa 2 (W4 dir nm data light 2 true) b=⟨true,(bD b dir (aB nm) data).2,W4 dir nm data light 2 true,(bD b dir (aB nm) data).1⟩:=rfl;generalize bD b dir (aB nm) data=g at*;obtain⟨v,l⟩:=g;simp only at i j;by_cases w:l≠0
 .rw[iO j w];exact Cg (r:=⟨true,l,W4 dir nm data light 2 true,v⟩) i
 obtain rfl:l=0:=by simpa using w
 rw[eh (t':=W4 dir nm data light 3 true) j rfl (by cases light<;>rfl) (by cases light<;>rfl)];exact ur 3 _ v (aj 3) i
def vE{M:Nat}{S:h8}(h:Xb M S)(dir x:No):(bX S dir x).1.length<=M:=by
 unfold bX
 split
 .exact aR _
 split
 .exact aR _
 exact h _
def MM{M:Nat}{S:h8}(h:Xb M S)(pl:List UInt16):Xb M (du S pl):=fun n=>by obtain⟨⟨t,a⟩,-⟩:=LU S pl n;rw[a,W3];have:=h n;omega
def PO{M:Nat}{S:h8}(b:Yj S)(h:Xb M S)(d:1000<=M):Xb M (g6 S).2.2:=by
 have e:Xb M (ck S).2.2/\W1 (ck S).2.2/\(ck S).1.length<=M:=by
  unfold ck
  split
  .exact⟨lF b.qa4 h _ _ (Xq pf d) false,(b.pub _ _ _ _).qa4,Xq pf d⟩
  exact⟨h,b.qa4,vE h _ _⟩
 obtain⟨a,f,g⟩:=e;unfold g6
 split
 .exact a
 split
 .exact a
 rename_i p _;have c:Xb M (if p.2.2< (ck S).1.length then bM (ck S).2.2 aJ aK ((ck S).1.take p.2.2) false else(0,(ck S).2.2)).2:=by
  split
  .exact lF f a _ _ (by rw[W3];omega) false
  exact a
 unfold qe0;simp only;generalize (if p.2.2< (ck S).1.length then bM (ck S).2.2 aJ aK ((ck S).1.take p.2.2) false else(0,(ck S).2.2))=i at*
 split
 .exact c
 split
 .exact C6 c _ _
 exact C6 c _ _
def Rl{M:Nat}(q:Int)(l:List XU)(h:∀f,f∈l->f.data.length<=M):Xb M (ofD q l):=by
 have a:∀ (l:List XU) (S:h8),(∀f,f∈l->f.data.length<=M)->(∀f,f∈S.files->f.data.length<=M)-> ∀f,f∈ (l.foldl bx S).files->f.data.length<=M:=fun l=>by
  induction l with
  |nil=>exact fun _ _ h=>h
  |cons g l e=>
   refine fun S c b=>e _ (fun f a=>c f (ah _ a)) ?_;unfold bx
   split
   .split
    .intro f a;rcases Wu.1 a with a|a
     .exact b f a
     rw[VZ.1 a];exact c g aX
    exact b
   exact b
 intro n;have i:=a l (dN q) h (fun f a=>by cases a);show((ofD q l).files.getD n bV).data.length<=M;rw[List.getD_eq_getElem?_getD];by_cases d:n< (ofD q l).files.length
 .rw[List.getElem?_eq_getElem d];exact i _ (Y3 d)
 rw[List.getElem?_eq_none oM];exact aR _
def qi0(a:Z0)(v:Xl):Xl:=if a.wrong=true then⟨v.l.set 0 (v.l.getD 0 0+1),by rw[X8];exact v.h⟩ else v
def sb(a:Z0)(v:Xl)(w:hW):Va prog 12 #[.agg (Zp a).toArray,.agg (a8 v.l)] w (fun r D=>r=.agg (a8 (qi0 a v).l)/\D=[]):=by
 have j:=v.h;have l:(List.replicate 32 (0:Vf)).length=32:=rfl;refine Va.Vr func12 rfl (rs:=[.cell 4 38]) results12 ntmps12 ?_;refine kf ?_;refine ky @iE ?_;refine Ow.box rfl rfl fun b m c=>?_;simp only[dS,cz,dL,ag,Vy];refine ko @iE ?_;refine Ow.box rfl rfl fun d k e=>?_;simp only[dS,cz,dL,ag,Wp,Vy];have n:b<d:=aQ k Wg;refine ko @iE ?_;refine Ow.alloc rfl rfl qc2 fun f g h=>?_;simp only[ag,Vy,Wp];have o:b<f:=aQ g Wg;have p:d<f:=aQ g Wg;unfold qi0;cases i:a.wrong with
 |true=>
  have q:(v.l.set 0 (v.l.getD 0 0+1)).length=32:=by rw[X8];exact j
  refine ko @iE ?_;refine ky (aN @iE @i) ?_;refine⟨_,(ke @iE),⟨c,e,h,trivial⟩,?_⟩
  rfl
 |false=>
  refine ko @iE ?_;refine ky (aN @iE @i) ?_;refine⟨_,(ke @iE),⟨c,e,h,trivial⟩,?_⟩
  rfl
def qi3(B:Xh)(n:No):Xl:=⟨fI B.t B.l n,rN B.t B.l n⟩
def jx(S:h8)(B:Xh)(a:Z0):h8×Xh:=
 if iq a=true then(S,B) else if a.kind.tmod 5=0 then(eC S B a.name (qi0 a (qi3 B a.name)) a.id).2
 else if a.kind.tmod 5=1 then(cw S B).2 else if a.kind.tmod 5=2 then(fJ S B a.n).2 else(S,B)
structure BkR(B:Xh):Prop where
 tl:B.t.length<=16
 ll:B.l.length<=100
 t:WZ B.t
 l:WZ B.l
def BR{s:No}(h:bG s=true):s.length<=32:=by unfold bG at h;simp only[WK,XN] at h;exact h.1.2
def BkR.upd{S:h8}{B:Xh}{nm:No}{o i:Xl}(h:BkR B):BkR (eC S B nm o i).2.2:=by
 unfold eC
 split
 .exact h
 split
 .exact h
 rename_i b
 split
 .exact h
 rename_i c
 split
 .exact h
 have d:am B.t B.l=true/\bG nm=true:=Classical.not_not.1 b;have e:am B.t (B.l++[⟨nm,i⟩])=true:=by simpa using c
 refine⟨h.tl,Bi e,h.t,qV fun r a=>?_⟩;rcases Wu.1 a with a|a
 .exact h.l.mem a
 rw[VZ] at a;subst a;have:=BR d.2;show nm.length<1000;omega
def BkR.sync{S:h8}{B:Xh}(h:BkR B):BkR (cw S B).2.2:=by
 unfold cw
 split
 .exact h
 exact⟨h.tl,h.ll,h.t,h.l⟩
def BkR.trim{S:h8}{B:Xh}{k:Int}(h:BkR B):BkR (fJ S B k).2.2:=by
 unfold fJ
 split
 .split
  .rename_i ls a;have b:=pu B.l.length k;obtain⟨c,d⟩:=ES b a h.t h.l;have f:=(qC a).2.1
   split
   .exact h
   exact⟨d,by show(B.l.drop _).length<=100;rw[XC];omega,c,qV fun r e=>h.l.mem (List.mem_of_mem_drop e)⟩
  exact h
 exact h
def BkR.act{S:h8}{B:Xh}{a:Z0}(h:BkR B):BkR (jx S B a).2:=by
 unfold jx
 split
 .exact h
 split
 .exact h.upd
 split
 .exact h.sync
 split
 .exact h.trim
 exact h
end Go.Proofs
end
section
open Go Go.Proofs Go.Sx Go.RefP
namespace Go.Proofs
def Rx(l:List Vk):Prop:= ∀g,g<l.length->(l.getD g ar).name.length<=32
def HY{t l:List Vk}(h:am t l=true):t.length<=16/\l.length<=100/\Rx t/\(∀g,g<l.length->bG (l.getD g ar).name=true)/\ ∀j,j<=l.length->am t (l.take j)=true:=by
 unfold am mp at h;rw[WK,XN,ew] at h;obtain⟨a,o⟩:=h;unfold ofM at a;rw[lE _ (aj _),ew] at a;by_cases c:t.length<=16/\ ∀i,i<t.length->dI bG z32 (Xn t) i=true
 .rw[Vb c,Yn] at a;have k:∀j,j<=l.length->(et bG z32 (Xn l) ((Xn t).take t.length) j).isSome=true:=by
   intro j f;cases e:et bG z32 (Xn l) ((Xn t).take t.length) j with
   |some m=>rfl
   |none=>rw[RefP.t1 e _ f] at a;cases a
  refine⟨c.1,o,fun g d=>?_,fun g d=>?_,fun j f=>?_⟩
  .have:=c.2 g d;unfold dI at this;rw[jB t g d] at this;simp only[WK] at this;exact BR this.1.1
  .have b:=k (g+1) d;unfold et at b;cases e:et bG z32 (Xn l) ((Xn t).take t.length) g with
   |none=>rw[e] at b;cases b
   |some m=>
    rw[e,Yn,jB l g d] at b
    split at b
    .rename_i n;rw[WK] at n;exact n.1
    cases b
  unfold am mp;rw[WK,XN,ew];have p:(l.take j).length=j:=by simp;omega
  rw[p];refine⟨?_,by omega⟩;unfold ofM;rw[lE _ (aj _),ew,Vb c,Yn,Mp,ss j (aj _)];exact k j f
 rw[tr c] at a;cases a
end Go.Proofs
end
section
open Go Go.Proofs Go.Sx Go.StP Go.RefP
namespace Go.Proofs
def qh8(o:Option No):Nat:=(o.getD []).length
theorem OC{S:h8}{a b:No}(s:a≠b):∀ {l:W_},YG l->(∀p,p∈l->p.1=a\/p.1=b)->dK S l<=qh8 ((aL l a).map fun n=>(aC S n).data)+qh8 ((aL l b).map fun n=>(aC S n).data)
 | [],_,_=>aR _
 | [p],_,f=>by
  rw[EB];have i:dK S []=0:=rfl;rw[i];rcases f p aX with e|e
  .rw[<-e,qJ];show(aC S p.2).data.length+0<= (aC S p.2).data.length+_;omega
  rw[<-e,qJ p];show(aC S p.2).data.length+0<=_+ (aC S p.2).data.length;omega
 | [p,c],j,f=>by
  rw[EB,EB];have i:dK S []=0:=rfl;rw[i];have g:=j.nodup;have h:p.1≠c.1:=fun e=>by rw[VY,Xd] at g;exact g.1 (by rw[e];simp)
  rcases f p aX with e|e
  .have d:c.1=b:=(f c V_).resolve_left fun d=>h (e.trans d.symm);rw[<-e,<-d,qJ,U5 (Wq h),qJ];show(aC S p.2).data.length+ ((aC S c.2).data.length+0)<= (aC S p.2).data.length+ (aC S c.2).data.length;omega
  have d:c.1=a:=(f c V_).resolve_right fun d=>h (e.trans d.symm);rw[<-e,<-d,qJ,U5 (Wq h),qJ];show(aC S p.2).data.length+ ((aC S c.2).data.length+0)<= (aC S c.2).data.length+ (aC S p.2).data.length;omega
 |p::c::r::l,j,f=>by exfalso;have g:=j.nodup;rw[VY,VY,VY,Xd,Xd] at g;have m:p.1≠c.1:=fun e=>g.1 (by rw[e];simp);have o:p.1≠r.1:=fun e=>g.1 (by rw[e];simp);have q:c.1≠r.1:=fun e=>g.2.1 (by rw[e];simp);rcases f p V_ with e|e<;>rcases f c V_ with d|d<;>rcases f r V_ with k|k<;>first|exact m (e.trans d.symm) |exact o (e.trans k.symm) |exact q (d.trans k.symm)
def NmV(S:h8):Prop:= ∀j,j<3-> ∀x,bB S j x≠none->j=2/\(x=aK\/x=aB aK)
def vG{S:h8}(a:W1 S){j:Nat}(b:j<3){p:No×Nat}(c:p∈ (S.dir j).seen):bB S j p.1≠none:=by unfold bB;rw[pb (a.srt j b).nodup (s:=p.1) (n:=p.2) c];simp
def wY{S:h8}(a:W1 S)(h:NmV S):ej S<=qh8 (bB S 2 aK)+qh8 (bB S 2 (aB aK)):=by
 have c:∀j,j<2->(S.dir j).seen=[]:=fun j d=>List.eq_nil_iff_forall_not_mem.2 fun p b=>by have:=(h j oM p.1 (vG a oM b)).1;omega
 unfold ej;rw[c 0 oM,c 1 oM];have:=OC (S:=S) (Wq (mF aK)) (a.srt 2 oM) fun p b=>(h 2 oM p.1 (vG a oM b)).2;unfold bB;have e:dK S []=0:=rfl;omega
def UC{S:h8}{x:No}(a:eP S)(c:bF x=true){m:Nat}(d:aL (S.dir 2).seen x=some m)(s:No)(g:(aC S m).data.length+s.length<=1048576)(h:(ej S:Int)+s.length<=S.max):bD S aJ x s=(dJ S m ⟨(aC S m).data++s,(aC S m).stl⟩,0):=by
 have b:al aJ=some 2:=rfl;have e:bi S aJ [x]=0:=by rw[ki a b,tr (by simp[c])]
 have f:fF S m s=false:=by unfold fF;simp only[Zz,qc9];exact⟨⟨by omega,by omega⟩,by omega⟩
 unfold bD;rw[tr (by rw[e];simp),gr b,d];simp only;rw[f,tr V_,m2 a,tr V_]
def OE{S:h8}{x:No}(a:eP S)(c:bF x=true){m:Nat}(d:aL (S.dir 2).seen x=some m):az S aJ x=(dJ S m ⟨(aC S m).data,(aC S m).data.length⟩,0):=by
 have b:al aJ=some 2:=rfl;have e:bi S aJ [x]=0:=by rw[ki a b,tr (by simp[c])]
 unfold az;rw[tr (by rw[e];simp),gr b,d];simp only;rw[m2 a,tr V_]
def S4(S:h8)(dir nm data:No)(light:Bool):(bM S dir nm data light).2.max=S.max:=
 jc (fun a=>a.max=S.max) dir nm (fun _ _ _ _ _ b c _=>(nJ c).trans b) 6 (tk0 dir nm data light) S rfl rfl rfl
structure PlS(S:h8)(B:Xh):Prop where
 wel:Yj S
 calm:eP S
 max:S.max=1000000
 len:Xb 150000 S
 Vl:∀j,j<3->(S.dir j).Vl=[]
 nm:∀j,j<3-> ∀x,bB S j x≠none->j=2/\x=aK
 bk:BkR B
 rt:am B.t B.l=true
 n:B.n<=B.l.length
 at_:∃m,aL (S.dir 2).seen aK=some m/\(aC S m).data=bL B.t B.l/\(aC S m).stl=(bL B.t (B.l.take B.n)).length
def PlS.names{S:h8}{B:Xh}(h:PlS S B):NmV S:=fun j a x b=>⟨(h.nm j a x b).1,.inl (h.nm j a x b).2⟩
def PlS.view{S:h8}{B:Xh}(h:PlS S B):bB S 2 aK=some (bL B.t B.l)/\bB S 2 (aB aK)=none:=by
 obtain⟨m,a,b,-⟩:=h.at_;refine⟨by unfold bB;rw[a];exact Wc some b,?_⟩;cases c:bB S 2 (aB aK) with
 |none=>rfl
 |some d=>exact Vx (h.nm 2 oM _ (by rw[c];simp)).2 (mF aK)
def PlS.qA3{S:h8}{B:Xh}(h:PlS S B):(bL B.t B.l).length<=150000:=pO h.bk.tl h.bk.ll h.bk.t h.bk.l
def PlS.used{S:h8}{B:Xh}(h:PlS S B):ej S<=150000:=by have a:=wY h.wel.qa4 h.names;rw[h.view.1,h.view.2] at a;have b:=h.qA3;have c:qh8 (some (bL B.t B.l))=(bL B.t B.l).length:=rfl;have d:qh8 none=0:=rfl;omega
def EP{r:Vk}(h:bG r.name=true):(bh (bq r)).length<=400:=by
 have a:=rP (bq r);have b:=eL (r.name.length:Int);have c:=BR h;have d:=r.id.h;have e:(bq r).length=1+ ((co (cb (r.name.length:Int))).length+r.name.length)+r.id.l.length:=by unfold bq c9;simp only[VV,Wt,W7]
 omega
def s9(t l:List Vk)(r:Vk):bL t (l++[r])=bL t l++bh (bq r):=by unfold bL qa5;simp
def vZ{S:h8}{m:Nat}{f:WR}(a:W1 S)(b:aL (S.dir 2).seen aK=some m){j:Nat}(c:j<3){x:No}:(bB (dJ S m f) j x≠none↔bB S j x≠none):=by unfold bB;show((aL (S.dir j).seen x).map _≠none)↔_;cases aL (S.dir j).seen x<;>simp
def PlS.YP{S:h8}{B a:Xh}(h:PlS S B){m:Nat}{f:WR}(c:aL (S.dir 2).seen aK=some m)(i:Yj (dJ S m f))(b:BkR a)(k:am a.t a.l=true)(l:a.n<=a.l.length)(d:f.data=bL a.t a.l)(o:f.stl=(bL a.t (a.l.take a.n)).length):PlS (dJ S m f) a where
 wel:=i
 calm:=h.calm
 max:=h.max
 len:=qu h.len (by rw[d];exact pO b.tl b.ll b.t b.l)
 Vl:=h.Vl
 nm:=fun j e x p=>h.nm j e x ((vZ h.wel.qa4 c e).1 p)
 bk:=b
 rt:=k
 n:=l
 at_:=by
  have g:=h.wel.qa4.lt 2 oM _ (eY c);refine⟨m,c,?_,?_⟩
  .rw[iQ _ _ g,Vb rfl,d]
  rw[iQ _ _ g,Vb rfl,o]
theorem PlS.upd{S:h8}{B:Xh}(h:PlS S B)(nm:No)(o i:Xl):PlS (eC S B nm o i).2.1 (eC S B nm o i).2.2:=by
 have a:=h.bk.upd (S:=S) (nm:=nm) (o:=o) (i:=i);unfold eC at a |-;by_cases e:fI B.t B.l nm≠o.l
 .rw[Vb e];exact h
 rw[tr e] at a |-;by_cases b:¬ (am B.t B.l=true/\bG nm=true)
 .rw[Vb b];exact h
 rw[tr b] at a |-;by_cases c:am B.t (B.l++[⟨nm,i⟩])=false
 .rw[Vb c];exact h
 rw[tr c] at a |-;have j:=Classical.not_not.1 b;have l:=EP (r:=⟨nm,i⟩) j.2;obtain⟨m,f,g,k⟩:=h.at_;have n:=h.used;have p:=h.qA3;have d:=h.wel.step (kO S aJ aK (bh (bq ⟨nm,i⟩)));rw[UC h.calm qc6.1 f _ (by rw[g];omega) (by rw[h.max];omega)] at a d |-;simp only[ne_eq,not_true_eq_false,↓reduceIte] at a d |-;refine h.YP f d a (by simpa using c) (by show B.n<= (B.l++[_]).length;rw[VV];have:=h.n;omega) (by rw[g];exact(s9 _ _ _).symm) ?_;show(aC S m).stl=(bL B.t ((B.l++[_]).take B.n)).length;rw[List.take_append_of_le_length h.n];exact k
theorem PlS.sync{S:h8}{B:Xh}(h:PlS S B):(cw S B).1=0/\PlS (cw S B).2.1 (cw S B).2.2/\(cw S B).2.2.n=B.l.length:=by have a:=h.bk.sync (S:=S);obtain⟨m,c,d,e⟩:=h.at_;have b:=h.wel.sync aJ aK;unfold cw at a |-;rw[OE h.calm qc6.1 c] at a b |-;simp only[ne_eq,not_true_eq_false,↓reduceIte] at a b |-;refine⟨trivial,h.YP c b a h.rt (aj _) d ?_,trivial⟩;show(aC S m).data.length=(bL B.t (B.l.take B.l.length)).length;rw[WH,d]
theorem PlS.pub{S:h8}{B:Xh}(h:PlS S B){t l:List Vk}(g:BkR ⟨t,l,l.length⟩)(C:am t l=true):(bM S aJ aK (bL t l) false).1=0/\PlS (bM S aJ aK (bL t l) false).2 ⟨t,l,l.length⟩:=by
 have o:al aJ=some 2:=rfl;have i:=h.wel.qa4;have D:(bL t l).length<=150000:=pO g.tl g.ll g.t g.l;have p:(bM S aJ aK (bL t l) false).1=0:=by
  obtain⟨E,F,G,H,v2,s,b⟩:=S8 i h.calm o qc6.1 qc6.2 (bL t l);rcases b with⟨u,-⟩ | ⟨-,I⟩
  .exfalso;obtain⟨n,J,K⟩:=qo v2;have L:NmV E:=fun j a x c=>by
    by_cases e:j=2/\x=aB aK
    .exact⟨e.1,.inr e.2⟩
    rw[s j a x fun v k=>e ⟨v,k⟩] at c;exact h.names j a x c
   have M:=wY F L;rw[v2,s 2 oM aK (fun _=>(mF aK).symm),h.view.1] at M;have v:qh8 (some (bL B.t B.l))=(bL B.t B.l).length:=rfl;have k:qh8 (some [])=0:=rfl;have U:=h.qA3;rw[UC G qc6.2 J _ (by rw[K,W7];omega) (by rw[H,h.max];omega)] at u;cases u
  exact I
 refine⟨p,?_⟩;have w:=h.wel.pub aJ aK (bL t l) false;have y:=vC h.calm aJ aK (bL t l) false;have N:=(M7 i h.calm aJ aK (bL t l)).2 p;have O:=Qe i aJ aK (bL t l) false;obtain⟨m,-,f⟩:∃m,false=false/\qn5 S (bM S aJ aK (bL t l) false).2 2 aK (bL t l) m:=by
  rcases Jg h.Vl i h.wel.hist o (nm:=aK) (bL t l) false with⟨-,b⟩ | ⟨m,-,b⟩ | ⟨m,V,b⟩
  .exact Vx p b
  .exact Vx p (b rfl)
  exact⟨m,rfl,b⟩
 have P:=S4 S aJ aK (bL t l) false;have Q:=lF i h.len aJ aK D false;generalize (bM S aJ aK (bL t l) false).2=S' at*;have R:∀j,j<3->(S'.dir j).seen=(S'.dir j).stl:=fun j a=>by rw[<- (w.hist j).1,f.Vl j a];rfl
 refine⟨w,y,P.trans h.max,Q,f.Vl,fun j a x c=>?_,g,C,aj _,m,?_,f.data,?_⟩
 .by_cases e:j=2/\x=aB aK
  .rw[e.1,e.2] at c;have z:=pF y o qc6.2;cases q:bB S' 2 (aB aK) with
   |none=>exact Vx q c
   |some d=>rw[q] at z;exact Vx (by rw[z]) N.2
  by_cases k:j=2/\x=aK
  .exact k
  have q:=O.view j a x fun T=>by
   have A:j=2:=by have:=jP a;rw[T] at this;exact(XD (this.symm.trans o))
   exact⟨fun r=>k ⟨A,r⟩,fun r=>e ⟨A,r⟩⟩
  rw[q] at c;exact h.nm j a x c
 .rw[R 2 oM];exact f.at_
 show(aC S' m).stl=(bL t (l.take l.length)).length;rw[f.set,f.data,WH]
def CV{t l:List Vk}(h:am t l=true)(Vn:Int)(b:BkR ⟨t,l,0⟩):∃ls,dV t l (cE l.length Vn)=some ls/\am ls (l.drop (cE l.length Vn))=true/\BkR ⟨ls,l.drop (cE l.length Vn),(l.drop (cE l.length Vn)).length⟩/\jI ls (l.drop (cE l.length Vn))=bL ls (l.drop (cE l.length Vn)):=by have c:=pu l.length Vn;obtain⟨m,ls,-,a,-,-,-⟩:=pd h c;obtain⟨d,-,-⟩:=JK h c a;obtain⟨e,f⟩:=ES c a b.t b.l;have i:=(qC a).2.1;refine⟨ls,a,d,⟨f,by show(l.drop _).length<=100;rw[XC];omega,e,qV fun r g=>b.l.mem (List.mem_of_mem_drop g)⟩,?_⟩;unfold jI;rw[Vb d]
def BkR.n0{t l:List Vk}{n k:Nat}(h:BkR ⟨t,l,n⟩):BkR ⟨t,l,k⟩:=⟨h.tl,h.ll,h.t,h.l⟩
def PlS.trim{S:h8}{B:Xh}(h:PlS S B)(Vn:Int):PlS (fJ S B Vn).2.1 (fJ S B Vn).2.2:=by obtain⟨ls,a,b,c,d⟩:=CV h.rt Vn h.bk.n0;obtain⟨e,f⟩:=h.pub c b;unfold fJ;rw[Vb h.rt,a];simp only;rw[d,e];exact f
def PlS.act{S:h8}{B:Xh}(h:PlS S B)(a:Z0):PlS (jx S B a).1 (jx S B a).2:=by
 unfold jx
 split
 .exact h
 split
 .exact h.upd _ _ _
 split
 .exact h.sync.2.1
 split
 .exact h.trim _
 exact h
def ql1(f g:WR):Prop:=g=f\/ ∃t,f.stl<=t/\g=⟨f.data.take t,(f.data.take t).length⟩
def ql1.trans{f g h:WR}(d:ql1 f g)(b:ql1 g h):ql1 f h:=by
 rcases d with rfl| ⟨t,c,rfl⟩
 .exact b
 rcases b with rfl| ⟨a,i,rfl⟩
 .exact .inr ⟨t,c,rfl⟩
 refine .inr ⟨t,c,?_⟩;have e:(f.data.take t).take a=f.data.take t:=Yo i;show WR.mk ((f.data.take t).take a) ((f.data.take t).take a).length=_;rw[e]
theorem ql1.data{f g:WR}(h:ql1 f g):∃t,f.stl<=t/\g.data=f.data.take t:=by
 rcases h with h| ⟨t,a,h⟩
 .rw[h];exact⟨f.stl+f.data.length,by omega,(Yo oM).symm⟩
 rw[h];exact⟨t,a,rfl⟩
structure FzS(S:h8)(B:Xh):Prop where
 wel:Yj S
 max:S.max=1000000
 len:Xb 150000 S
 Vl:∀j,j<3->(S.dir j).Vl=[]
 nm:∀j,j<3-> ∀x,bB S j x≠none->j=2/\x=aK
 bk:BkR B
 rt:am B.t B.l=true
 n:B.n<=B.l.length
 at_:∃m,aL (S.dir 2).seen aK=some m/\(aC S m).data=bL B.t B.l/\(aC S m).stl=(bL B.t (B.l.take B.n)).length
def PlS.fz{S:h8}{B:Xh}(h:PlS S B):FzS S B:=⟨h.wel,h.max,h.len,h.Vl,h.nm,h.bk,h.rt,h.n,h.at_⟩
theorem FzS.Wv{S:h8}{B:Xh}(h:FzS S B){n:Int}(a:0<=n/\n<1000){b:Bool}:FzS {S with Wv:=n,fused:=b} B:=by have ok:XK {S with Wv:=n,fused:=b}:=⟨h.wel.ok.seen,h.wel.ok.stl,h.wel.ok.seenN,h.wel.ok.stlN,h.wel.ok.pendN,h.wel.ok.file,⟨by show -9223372036854775808<=n;omega,by show n<9223372036854775808;omega,fun _=>a.1⟩,h.wel.ok.max⟩;exact⟨h.wel.Wv ok,h.max,h.len,h.Vl,h.nm,h.bk,h.rt,h.n,h.at_⟩
def FzS.eq{S S':h8}{B:Xh}(h:FzS S B)(d:Yj S')(a:S'.dir=S.dir)(b:S'.files=S.files)(e:S'.max=S.max):FzS S' B:=by
 have f:∀j x,bB S' j x=bB S j x:=fun j x=>by unfold bB aC;rw[a,b]
 have c:∀n,aC S' n=aC S n:=fun n=>by unfold aC;rw[b]
 refine⟨d,e.trans h.max,pP h.len b,by rw[a];exact h.Vl,fun j g x i=>h.nm j g x (by rw[<-f];exact i),h.bk,h.rt,h.n,?_⟩;obtain⟨m,k,l,o⟩:=h.at_;exact⟨m,by rw[a];exact k,by rw[c];exact l,by rw[c];exact o⟩
theorem FzS.Y5{S:h8}{B:Xh}(h:FzS S B):FzS (aD S).1 B:=by obtain⟨a,b,c⟩:=d7 S;exact h.eq (h.wel.step (kind:=0) (dir:=[]) (name:=[]) (s:=[]) (.Y5 (.inl ⟨by decide,by decide⟩))) a b c
def FzS.YP{S:h8}{B a:Xh}(h:FzS S B){m:Nat}{f:WR}(c:aL (S.dir 2).seen aK=some m)(i:Yj (dJ S m f))(b:BkR a)(k:am a.t a.l=true)(l:a.n<=a.l.length)(d:f.data=bL a.t a.l)(o:f.stl=(bL a.t (a.l.take a.n)).length):FzS (dJ S m f) a where
 wel:=i
 max:=h.max
 len:=qu h.len (by rw[d];exact pO b.tl b.ll b.t b.l)
 Vl:=h.Vl
 nm:=fun j e x p=>h.nm j e x ((vZ h.wel.qa4 c e).1 p)
 bk:=b
 rt:=k
 n:=l
 at_:=by
  have g:=h.wel.qa4.lt 2 oM _ (eY c);refine⟨m,c,?_,?_⟩
  .rw[iQ _ _ g,Vb rfl,d]
  rw[iQ _ _ g,Vb rfl,o]
theorem FzS.upd{S:h8}{B:Xh}(h:FzS S B)(nm:No)(o i:Xl):FzS (eC S B nm o i).2.1 (eC S B nm o i).2.2:=by
 have a:=h.bk.upd (S:=S) (nm:=nm) (o:=o) (i:=i);unfold eC at a |-;by_cases f:fI B.t B.l nm≠o.l
 .rw[Vb f];exact h
 rw[tr f] at a |-;by_cases g:¬ (am B.t B.l=true/\bG nm=true)
 .rw[Vb g];exact h
 rw[tr g] at a |-;by_cases b:am B.t (B.l++[⟨nm,i⟩])=false
 .rw[Vb b];exact h
 rw[tr b] at a |-;obtain⟨m,j,n,p⟩:=h.at_;have c:=h.wel.step (kO S aJ aK (bh (bq ⟨nm,i⟩)));have q:((bD S aJ aK (bh (bq ⟨nm,i⟩))).2≠0/\FzS (bD S aJ aK (bh (bq ⟨nm,i⟩))).1 B)\/bD S aJ aK (bh (bq ⟨nm,i⟩))=(dJ (aD S).1 m ⟨(aC S m).data++bh (bq ⟨nm,i⟩),(aC S m).stl⟩,0):=by
  unfold bD;by_cases d:bi S aJ [aK]≠0
  .rw[Vb d];exact .inl ⟨d,h⟩
  rw[tr d,gr (k:=2) rfl,j];simp only;by_cases l:fF S m (bh (bq ⟨nm,i⟩))=true
  .rw[Vb l];exact .inl ⟨by simp,h⟩
  rw[tr l];by_cases e:(aD S).2≠0
  .rw[Vb e];exact .inl ⟨e,h.Y5⟩
  rw[tr e];exact .inr rfl
 rcases q with⟨r,s⟩ |t
 .rw[Vb r];exact s
 rw[t] at a c |-;simp only[ne_eq,not_true_eq_false,↓reduceIte] at a c |-;refine h.Y5.YP (by rw[(d7 S).1];exact j) c a (by simpa using b) (by show B.n<= (B.l++[_]).length;rw[VV];have:=h.n;omega) (by rw[n];exact(s9 _ _ _).symm) ?_;show(aC S m).stl=(bL B.t ((B.l++[_]).take B.n)).length;rw[List.take_append_of_le_length h.n];exact p
theorem FzS.sync{S:h8}{B:Xh}(h:FzS S B):FzS (cw S B).2.1 (cw S B).2.2:=by
 have a:=h.bk.sync (S:=S);obtain⟨m,e,f,n⟩:=h.at_;have b:=h.wel.sync aJ aK;unfold cw at a |-;have g:((az S aJ aK).2≠0/\FzS (az S aJ aK).1 B)\/az S aJ aK=(dJ (aD S).1 m ⟨(aC S m).data,(aC S m).data.length⟩,0):=by
  unfold az;by_cases c:bi S aJ [aK]≠0
  .rw[Vb c];exact .inl ⟨c,h⟩
  rw[tr c,gr (k:=2) rfl,e];simp only;by_cases d:(aD S).2≠0
  .rw[Vb d];exact .inl ⟨d,h.Y5⟩
  rw[tr d];exact .inr rfl
 rcases g with⟨i,j⟩ |l
 .rw[Vb i];exact j
 rw[l] at a b |-;simp only[ne_eq,not_true_eq_false,↓reduceIte] at a b |-;refine h.Y5.YP (by rw[(d7 S).1];exact e) b a h.rt (aj _) f ?_;show(aC S m).data.length=(bL B.t (B.l.take B.l.length)).length;rw[WH,f]
def RsK(K:aA)(v:hU)(l:List Vk):Prop:=(Value.oneCell' v=true/\v.cells=#[v])/\(∀x:Bool×Nat,Sx.Yw (.sl x) v=some (vi (l.length:Nat)))/\ ∀w:hW,(∀b o,(b,o)∈K->w.heap[b]? =some o)->cj w v l
def lP{K:aA}{v:hU}{l:List Vk}(h:Yq K 114 33 v l.length (l.map aI).flatten):RsK K v l:=⟨d9 h,kE h,fun _ a=>gB h a⟩
def RsK.mono{K a:aA}{v:hU}{l:List Vk}(h:RsK K v l)(c:∀p,p∈K->p∈a):RsK a v l:=⟨h.1,h.2.1,fun w d=>h.2.2 w fun b o e=>d b o (c _ e)⟩
structure RoA(ro:Nat)(C:Yd)(S:h8)(N:Nat)(B:Xh)(vt vl:hU)(D K X:aA):Prop where
 perm:X.Perm ((ro, Vv (vp C.bd 0) vt vl (vi (B.n:Nat)))::(D++K))
 D:XT D C S
 A:ZH S N
 t:RsK K vt B.t
 l:RsK K vl B.l
def RoP(a b:Nat)(S:h8)(N:Nat)(B:Xh)(X:aA):Prop:= ∃C vt vl D K,C.bd=b/\RoA a C S N B vt vl D K X
def RoW(w:hW)(a b:Nat)(B:Xh):Prop:= ∃vt vl,w.heap[a]? =some (Vv (vp b 0) vt vl (vi (B.n:Nat)))/\cj w vt B.t/\cj w vl B.l
def RoP.W{w:hW}{c f:Nat}{S:h8}{N:Nat}{B:Xh}{X:aA}(h:RoP c f S N B X)(g:∀b o,(b,o)∈X->w.heap[b]? =some o):RoW w c f B:=by obtain⟨C,vt,vl,D,K,rfl,d⟩:=h;have e:∀b o,(b,o)∈ ((c,Vv (vp C.bd 0) vt vl (vi (B.n:Nat)))::(D++K))->w.heap[b]? =some o:=fun b o a=>g b o (d.perm.mem_iff.2 a);exact⟨vt,vl,e _ _ aX,d.t.2.2 w fun b o a=>e b o (ah _ (cJ _ a)),d.l.2.2 w fun b o a=>e b o (ah _ (cJ _ a))⟩
theorem RoW.WO{w c:hW}{L:aA}{d e:Nat}{B:Xh}(h:RoW w d e B)(a:Hp w L c)(b:Vq w.heap.size L):RoW c d e B:=by obtain⟨vt,vl,f,i,j⟩:=h;have g:=(Array.getElem?_eq_some_iff.1 f).1;exact⟨vt,vl,(a.Wo _ g (b.not g)).trans f,i.WO a b,j.WO a b⟩
def QI(S:h8)(dir nm:No):doV S 2 dir nm []=az S dir nm:=rfl
def Kq(S:h8)(dir nm s:No):doV S 1 dir nm s=bD S dir nm s:=rfl
def pA(n:Nat):((n:Int)==0)=decide (n=0):=by rw[YZ,W8,XN];omega
def ZH.sync{S:h8}{N:Nat}(h:ZH S N):ZH (az S aJ aK).1 (N+1):=h.step (mT S aJ aK []) WT WT
def iC:=aN (aN (aN @bA @b9) (qS1 @Sx.Wk @Sx.Wl @gL)) (aN (aN @gQ @gP) (qS1 @gM @gS @gO))
def US(a g:Nat)(S:h8)(N:Nat)(B:Xh)(X:aA)(w:hW)(l:∀p,p∈X->w.heap[p.1]? =some p.2)(m:(keys X).Nodup)(n:RoP a g S N B X)(z:N<600000):
  Va prog 17 #[vp a 0] w (XS w X (fun v D=>v=vi ((cw S B).1:Nat)/\RoP a g (cw S B).2.1 (N+1) (cw S B).2.2 D)):=by
 obtain⟨C,vt,vl,D,K,rfl,b⟩:=n;have o:Ext w X (D++((a,Vv (vp C.bd 0) vt vl (vi (B.n:Nat)))::K)):=(Ext.refl w X).perm ((b.perm.trans XJ).symm);refine Va.Vs func17 rfl (rs:=[.tmp 2]) results17 ntmps17 l m ?_;refine kf ?_;refine Cw.Vd b.perm.symm ?_;refine ky @iC ?_;refine Ow.Vd (M:=D++((a, Vv (vp C.bd 0) vt vl (vi (B.n:Nat)))::K)) XJ ?_;refine Ow.Wa (X:=D) (Y:=(a, Vv (vp C.bd 0) vt vl (vi (B.n:Nat)))::K) rfl rfl rfl call51 (fun q A r s=>m5 D C S N 2 aJ aK [] q r s b.D b.A oM WT WT WT) (fun v2 D2 t h=>?_);rw[QI] at h;obtain⟨rfl,c,u,i⟩:=h;have j:=b.A.sync;have f:=o.X1 t;rw[<-u] at f |-;refine Ow.Vd (M:=(a, Vv (vp c.bd 0) vt vl (vi (B.n:Nat)))::(D2++K)) XJ ?_;have k:((a,Vv (vp c.bd 0) vt vl (vi (B.n:Nat)))::(D2++K)).Perm (D2++((a, Vv (vp c.bd 0) vt vl (vi (B.n:Nat)))::K)):=XJ;have d:=pA (az S aJ aK).2;have x:=b.l.2.1;unfold cw;by_cases e:(az S aJ aK).2=0
 .rw[tr (by simpa using e)];rw[aP e] at d;refine ko (aN @iC @d) ?_;refine ky (qS1 @iC @d @x) ?_;refine⟨_,(ke @iC),?_⟩;have y:Ext w X ((a, Vv (vp c.bd 0) vt vl (vi (B.l.length:Nat)))::(D2++K)):=(f.perm k).keys rfl;exact⟨y,by rw[e];rfl,c,vt,vl,D2,K,rfl,⟨WW _,i,j,b.t,b.l⟩⟩
 rw[Vb e];rw[aW e] at d;refine ko (aN @iC @d) ?_;refine ky (aN @iC @d) ?_;refine⟨_,(ke @iC),?_⟩;exact⟨f.perm k,rfl,c,vt,vl,D2,K,rfl,⟨WW _,i,j,b.t,b.l⟩⟩
def UE(a i:Nat)(B:Xh)(n:No)(w:hW)(u:RoW w a i B)(c:am B.t B.l=true)(y:B.t.length<1000000)(z:B.l.length<1000000)(A:dX B.t)(C:dX B.l):
  Va prog 15 #[vp a 0,vs n] w (XS w [] (fun v D=>v=.agg (a8 (fI B.t B.l n)))):=by
 obtain⟨vt,vl,f,E,j⟩:=u;have F:=(Array.getElem?_eq_some_iff.1 f).1;obtain⟨m,ls,-,k,-,O,-⟩:=pd c (aj _);have G:=Kj (n:=n) c k;have P:=rN B.t B.l n;have Q:(List.replicate 32 (0:Vf)).length=32:=rfl;have H:=j.len;refine Va.Vs func15 rfl (rs:=[.cell 4 38]) results15 ntmps15 (fun p I=>by cases I) Wg ?_;refine kf ?_;refine ky @iC ?_;refine Ow.alloc rfl rfl qc2 fun l R q=>?_;simp only[ag,Vy,Wp];have d:Vq w.heap.size [(l,Vm (List.replicate 32 0))]:=⟨q,trivial⟩;have s:aG w [(l,Vm (List.replicate 32 0))] a=some (Vv (vp i 0) vt vl (vi (B.n:Nat))):=by rw[dr (d.not F)];exact f
 refine ko @iC ?_;refine Cw.Vu [a] [0,1,2,4,5,6,7,3,8,9,10,11,12,13,14,15] [] kR kR kR ?_;refine WQ ?_;refine kq (qS1 @iC @s @H) ?_;refine Ow.WV ?_;refine Ow.Wf rfl rfl call53 (fun g e=>BG vt vl B.t B.l B.l.length g (E.WO e d) (j.WO e d) y z (aj _) A C) (fun S v1 D1 T J K h=>?_);unfold YH at h;rw[k] at h;obtain⟨x,rfl,L⟩:=h;refine Ow.nil ?_;have t:=K.mono J;have M:=jS f (d.app t);refine⟨fun r c=>by rw[VZ.1 c];exact M.trans s.symm,?_⟩;refine kq @iC ?_;refine ky @iC ?_;refine Ow.Vc rfl call54 (fun g e=>Fb x ls n g (gB L fun b o N=>e.has b o (by simp[N])) oM) ?_;rw[<-G];refine ko @iC ?_;refine ky @iC ?_;refine⟨_,(ke @iC),?_⟩;exact⟨Ext.Vt ⟨q,t⟩,rfl⟩
end Go.Proofs
end
section
open Go Go.Proofs Go.Sx Go.StP Go.RefP
namespace Go.Sx
def Ow.qh4{P:h_}{w0:hW}{f:Fr}{L:aA}{N:Fr->aA->Prop}{ops:Array Oper}{rest:List Oper}{md:Md}
  {d:Option Tmp} {ty:h7} {ps:String} {af:Array Edge} {g:Option (Nat×Bool)} {ts l e:h7} {m:Bool×Nat} {z:hU} {s x:Operand} {n k:Nat} {cs new:List hU} {r:TypeDesc} {t:Md} {X Y:aA} (p:hU) (u:L=X++Y) (v:ev f s=p) (y:md.WM=some t)
  (A:ay ops f ⟨d,.call ⟨.builtin .append,#[s,x],#[ts,l]⟩,ty,ps,af,g⟩=false)
  (C:P.underlying ts=some (.slice e)) (E:aU P e=some m) (F:kD P e=true) (G:ac P e=some z) (H:z.cells.size=m.2) (I:P.underlying l=some r) (J:∀k,r≠ .int k)
  (K:Zn X e m.2 p n cs) (M:∀w,Hp w0 L w->W0 P w m.2 (ev f x) k new) (O:2* (n+k)+768<=2^38)
  (Q:∀B h D,cy L B->w0.heap.size<=B->Zn D e m.2 h (n+k) (cs++new)->(∀c,c∈keys X->c∈keys D)->(∀c,c∈keys D->c∈keys X\/B<=c)->(∀c o,Xy p≠some c->look X c=some o->look D c=some o)->Ow P w0 ops t rest (aa f d h) (D++Y) N):
  Ow P w0 ops md (⟨d,.call ⟨.builtin .append,#[s,x],#[ts,l]⟩,ty,ps,af,g⟩::rest) f L N:=by
 subst u;refine Ow.step y rfl A fun w i=>?_;have R:=i.part;have S:cy (X++Y) w.heap.size:=ef fun b q=>i.lt q;obtain⟨h,T,D,U,V,q,j,-⟩:=Br (w0:=w) (L:=X) (ty:=ty) (x:=ev f x) R C E F G H I J K (fun W Z=>M W (by refine i.join Z (fun c a=>a) (fun c a=>.inl a))) O;refine .inl ⟨h,T,D++Y,?_,i.join V j.keys (fun c a=>(j.new c a).imp id And.right),Q w.heap.size h D S i.size q j.keys (fun c a=>(j.new c a).imp id And.right) j.look⟩;simp only[execOp,resolve,Vp,Wm,VT,invoke,builtin,XM,VY,Wr,v];rw[U]
 rfl
end Go.Sx
namespace Go.Proofs
def tk(x:hU)(a:x.cells=#[x]):cL (bP prog 59) (ac prog 59) [(0,x)]=some (.agg #[x, Vj]):=by have b:bP prog 59=some [(0,1),(1,1)]:=id kR;rw[b,Y7];simp[cL,Sx.YR,a,cU]
def tJ(p q y:hU)(a:Bool)(E:h7)(b:Value.oneCell' y=true)(c:y.cells=#[y]):aZ (some (a,1)) (some (.cells #[p,q] E (0,0))) 1 y=some (.cells #[p,y] E (0,0)):=E8 a y #[p,q] E 1 V_ c b
theorem CR{b:Nat}{x:Obj}:∀ {L M:aA},b∉keys L->Vh (L++M) b x=L++Vh M b x
 | [],_,_=>rfl
 | (c,y)::r,M,h=>by simp only[keys,VY,Vw,not_or] at h;rw[Wp,mP _ _ _ _ _ (Wq h.1),CR (L:=r) h.2,Wp]
def MZ{D Y:aA}{b:Nat}{o x:Obj}(h:b∉keys D):Vh (D++((b,o)::Y)) b x=D++((b,x)::Y):=by rw[CR h,iN]
def uH{D Y:aA}{b:Nat}{o:Obj}(h:b∉keys D):Sx.look (D++((b,o)::Y)) b=some o:=by rw[cu h];exact eJ _ _ _
def ZH.append{S:h8}{N:Nat}{s:No}(h:ZH S N)(a:s.length<=1000000):ZH (bD S aJ aK s).1 (N+1):=h.step (kO S aJ aK s) WT a
def db:=aN (aN (qS1 @bA @b9 @Sx.Wk) (aN (aN @Sx.Wl @gL) (aN @gQ @gP))) (aN (qS1 @gM @gS @gO) (aN (aN @pV @k8) (aN @CC @A')))
def FU(a cd:Nat)(S:h8)(N:Nat)(B:Xh)(nm:No)(Wo id:Xl)(X:aA)(w:hW)(hX:∀p,p∈X->w.heap[p.1]? =some p.2)(hn:(keys X).Nodup)(hP:RoP a cd S N B X)(hN:N<600000)(I:am B.t B.l=true)(F:BkR B)(yj:nm.length<=1000):
  Va prog 14 #[vp a 0,vs nm,.agg (a8 Wo.l),.agg (a8 id.l)] w (XS w X (fun v D=>v=vi ((eC S B nm Wo id).1:Nat)/\RoP a cd (eC S B nm Wo id).2.1 (N+1) (eC S B nm Wo id).2.2 D)):=by
 have zK:=hP;obtain⟨C,vt,vl,D,K,rfl,d⟩:=hP;have zL:=Wo.h;have yk:=id.h;have yl:=F.tl;have ym:=F.ll;have zM:=rN B.t B.l nm;refine Va.Vs func14 rfl (rs:=[.tmp 8]) results14 ntmps14 hX hn ?_;refine kf ?_;refine ky @db ?_;refine Ow.box rfl rfl fun b6 yn zN=>?_;simp only[dS,cz,dL,ag];refine ko @db ?_;refine Ow.box rfl rfl fun b7 yo zO=>?_;simp only[dS,cz,dL,ag];have zh:(X++[(b6,Vm Wo.l)]++[(b7,Vm id.l)]).Perm ((b7, Vm id.l)::(b6, Vm Wo.l)::(a, Vv (vp C.bd 0) vt vl (vi (B.n:Nat)))::(D++K)):=((d.perm.append_right _).append_right _).trans XJ;refine Ow.Vd zh.symm ?_;refine Ow.world fun wz y=>?_;have G:=y.nodup;clear y wz;have H:b7≠b6/\b7≠a/\b6≠a/\b7∉keys D/\a∉keys D:=by simp only[keys,VY,We,Xd,Vw,Wu,not_or] at G |-;exact⟨G.1.1,G.1.2.1,G.2.1.1,G.1.2.2.1,G.2.2.1.1⟩
 obtain⟨yp,yq,yr,zi,zj⟩:=H;have zP:∀g L',Hp w L' g->(∀p,p∈ ((a,Vv (vp C.bd 0) vt vl (vi (B.n:Nat)))::(D++K))->p∈L')->RoW g a C.bd B:=fun g L' i zQ=>zK.W fun b o z=>i.has b o (zQ _ (d.perm.mem_iff.1 z));unfold eC;refine ko @db ?_;refine Cw.Vu [b6] [0,1,3,2,4] [] kR kR kR ?_;refine WQ ?_;refine kq @db ?_;refine Ow.WV ?_;refine Ow.Wf rfl rfl call15 (fun g i=>UE a C.bd B nm g (zP g _ i (fun p f=>ah _ (ah _ f))) I oM oM F.t.short F.l.short) (fun B1 v1 D1 ys zR zS zT=>?_);subst zT;have zk:=zS.mono zR;refine Ow.nil ?_;refine⟨fC (fun b J=>by rw[VZ.1 J];simp[keys]),?_⟩;have yt:(fI B.t B.l nm).length=32/\Wo.l.length=32:=⟨zM,zL⟩;refine kq @db ?_;have zl:Ext w X ((b7, Vm id.l)::(b6, Vm Wo.l)::(a, Vv (vp C.bd 0) vt vl (vi (B.n:Nat)))::(D++K)):=(eX (eX (Ext.refl w X) (E:=[(b6,Vm Wo.l)]) ⟨zN,trivial⟩) (E:=[(b7,Vm id.l)]) ⟨zO,trivial⟩).perm zh.symm;have T:=eX zl zk;by_cases U:fI B.t B.l nm=Wo.l
 .have J:(!(fI B.t B.l nm==Wo.l))=false:=by rw[U];simp
  rw[tr (by simpa using U)];refine ky (aN @db @J) ?_;refine Ow.Vc rfl call49 (fun g i=>Ec nm g oM) ?_;cases zm:bG nm with
  |false=>rw[Vb V_];refine ko @db ?_;refine ky @db ?_;refine⟨_,(ke @db),?_⟩;exact⟨T,rfl,C,vt,vl,D,K++((b7, Vm id.l)::(b6, Vm Wo.l)::D1),rfl,⟨XJ,d.D,d.A.mono (Nat.le_succ _),d.t.mono fun p f=>aq _ f,d.l.mono fun p f=>aq _ f⟩⟩
  |true=>
   rw[tr (by simp[I])];have yu:=BR zm;refine ko @db ?_;refine ky @db ?_;refine Ow.build (.agg #[vt, Vj]) rfl (tk vt d.t.1.2) ?_;refine ko @db ?_;refine Ow.alloc rfl rfl Y7 fun c za zn=>?_;simp only[ag,Vy,Wp];have yv:a<c:=aQ za Wg;have yw:b7<c:=aQ za Wg;have yx:b6<c:=aQ za Wg;have zb:=eX T (E:=[(c,iU Vj Vj)]) ⟨zn,trivial⟩;refine Ow.Vd (M:=(c, iU Vj Vj)::(a, Vv (vp C.bd 0) vt vl (vi (B.n:Nat)))::(b7, Vm id.l)::(b6, Vm Wo.l)::(D++(K++D1))) XJ ?_;have zU:=kb Vj Vj vt Vj 59 d.t.1.1 rfl;refine ko (aN @db @zU) ?_;refine Cw.Yh [c,a] [9] 10 kR rfl ?_;refine kyc ?_;refine Xx.run [0,1,2,3,4,5,6] [true,true,true,true,true,true,true,false,false,false] 3 rfl kR kR fun k L=>?_;refine WQ ?_;refine kp (aN @db @Md.Ww) ?_
   (with_reducible refine L _ _ _ ?_);clear L k
   refine Xx.one 7 _ kR rfl ?_;refine Ow.qh4 (e:=114) (k:=B.l.length) (new:=(B.l.map aI).flatten) (X:=[]) (n:=0) (cs:=[]) Vj rfl rfl rfl rfl underlying57 YI kR eR (by rw[eI,Wd,bK]) underlying57 (by intro k h;cases h) .nl (fun g i=>(d.l.2.2 g fun b o z=>i.has b o (by simp[z])).ql8 bK gU) oM (fun B4 q j V zV zc zW zo zX=>?_);have O:Vq B4 j:=Vq.of_le fun A s=>by
    rcases zo A s with h|h
    .cases h
    exact h
   have P:c∉keys j:=O.not (aQ V Wg);have zd:a∉keys j:=O.not (aQ V Wg);have zq:b7∉keys j:=O.not (aQ V Wg);have ze:Value.oneCell' q=true/\q.cells=#[q]:=zc.cell;have zr:=tJ vt Vj q false 59 ze.1 ze.2;have zt:=fun Y=>uH (D:=j) (Y:=Y) (o:=(iU vt Vj)) P;refine Ow.nil ?_;refine⟨(fun r I=>by simp only[Vw,WI,WB] at I;rcases I with rfl|rfl;exact e8 P;exact e8 zd),?_⟩;refine kyb ?_;refine Xx.rest [8,9] rfl kR kR ?_;refine WQ ?_;refine kq @db ?_;refine Ow.store rfl rfl rfl (ke (qS1 @db @zt @zr)) ?_;have zu:=fun Y x=>MZ (D:=j) (Y:=Y) (o:=(iU vt Vj)) (x:=x) P;rw[zu];have zv:∀M,aG w (j++M) c=aG w M c:=fun M=>e8 P;have zw:∀M,aG w (j++M) b7=aG w M b7:=fun M=>e8 zq;have zx:∀M,aG w (j++M) a=aG w M a:=fun M=>e8 zd;have yy:Vq w.heap.size j:=O.mono zV;have yz:c<B4:=aQ V Wg;refine ko (qS2 @db @zv @zw @zx) ?_;refine Ow.build _ rfl (rI nm id) ?_;obtain⟨r,Q⟩:∃r:Vk,⟨nm,id⟩=r:=⟨_,rfl⟩;rw[Q];refine ko @db ?_;refine Ow.buildSlice (e:=114) (aI r).toArray rfl rfl (ia r) fun u zY yA=>?_;have yB:c<u:=aQ zY Wg;refine Ow.Vd (M:=j++((c, iU vt q)::(a, Vv (vp C.bd 0) vt vl (vi (B.n:Nat)))::(b7, Vm id.l)::(b6, Vm Wo.l)::(u,Ve r)::(D++(K++D1)))) XJ ?_;have zy:Gr j 114 33 q B.l.length (B.l.map aI).flatten:=by have:=zc;rw[Xg,Vy] at this;exact .inl this
   refine Ow.XP (e:=114) (k:=1) (new:=aI r) (X:=j) q rfl rfl rfl rfl underlying57 YI kR eR (by rw[eI,Wd,bK]) underlying57 (by intro k h;cases h) zy (fun g i=>W0.X6 (i.has u (Ve r) V_) (bK r) (gU r)) oM oM (fun B6 v6 D6 zZ yC zf z0 zz z1=>?_);have yD:c<B6:=aQ zZ (by simp[aV,keys]);have z2:Vq (c+1) D6:=Vq.of_le fun A s=>by
    rcases zz A s with h|h
    .have:=O.le A h;omega
    omega
   have zA:=zf.cell;have z3:=tJ vt q v6 false 59 zA.1 zA.2;have zB:Gr D6 114 33 v6 (B.l++[r]).length ((B.l++[r]).map aI).flatten:=by have:=zf;rw[show(B.l.map aI).flatten++aI r=((B.l++[r]).map aI).flatten by simp,show B.l.length+1=(B.l++[r]).length by simp] at this;exact .inl this
   have zC:Yq D6 114 33 v6 (B.l++[r]).length ((B.l++[r]).map aI).flatten:=zB.i fun A s=>s;have z4:WZ (B.l++[r]):=qV fun x t=>by
    rcases Wu.1 t with t|t
    .exact F.l.mem t
    rw[VZ] at t;rw[t,<-Q];show nm.length<1000;omega
   have yE:(B.l++[r]).length<1000:=by rw[VV];simp;omega
   refine Ow.Vd (M:=(c, iU vt q)::(a, Vv (vp C.bd 0) vt vl (vi (B.n:Nat)))::(b7, Vm id.l)::(b6, Vm Wo.l)::(D++(K++(D1++(D6++[(u,Ve r)]))))) XJ ?_;have z5:Vq w.heap.size (D1++(D6++[(u,Ve r)])):=zk.app ((z2.mono oM).app ⟨by omega,trivial⟩);have zD:Ext w X ((c, iU vt v6)::(a, Vv (vp C.bd 0) vt vl (vi (B.n:Nat)))::(b7, Vm id.l)::(b6, Vm Wo.l)::(D++(K++(D1++(D6++[(u,Ve r)]))))):=by have h1:=eX (eX zl z5) (E:=[(c,iU vt v6)]) ⟨zn,trivial⟩;exact h1.perm XJ
   have zE:Yq (D1++(D6++[(u,Ve r)])) 114 33 v6 (B.l++[r]).length ((B.l++[r]).map aI).flatten:=zC.mono fun A s=>by simp[s]
   clear zC zB zy zc zf z1 zX z0 zz zW zo zv zw zx zt zu zr ze zb T P zd zq;generalize D1++(D6++[(u,Ve r)])=l at*;refine ko (aN @db @z3) ?_;refine Ow.Vc rfl call50 (fun g i=>Ed vt v6 B.t (B.l++[r]) g (d.t.2.2 g fun b o z=>i.has b o (by simp[z])) (gB zE fun b o z=>i.has b o (by simp[z])) oM oM F.t.short z4.short) ?_;cases yF:am B.t (B.l++[r]) with
   |false=>rw[Vb rfl];refine ko @db ?_;refine ky @db ?_;refine⟨_,(ke @db),?_⟩;exact⟨zD,rfl,C,vt,vl,D,K++((c, iU vt v6)::(b7, Vm id.l)::(b6, Vm Wo.l)::l),rfl,⟨XJ,d.D,d.A.mono (Nat.le_succ _),d.t.mono (fun p f=>aq _ f),d.l.mono (fun p f=>aq _ f)⟩⟩
   |true=>
    rw[tr WT];refine ko @db ?_;refine Cw.Vd (M:=D++((c, iU vt v6)::(a, Vv (vp C.bd 0) vt vl (vi (B.n:Nat)))::(b7, Vm id.l)::(b6, Vm Wo.l)::(K++l))) XJ ?_;refine Cw.world fun wz y=>?_;have z6:aG w (D++((c, iU vt v6)::(a, Vv (vp C.bd 0) vt vl (vi (B.n:Nat)))::(b7, Vm id.l)::(b6, Vm Wo.l)::(K++l))) a=some (Vv (vp C.bd 0) vt vl (vi (B.n:Nat))):=aO (gE y.nodup V_);have z7:aG w (D++((c, iU vt v6)::(a, Vv (vp C.bd 0) vt vl (vi (B.n:Nat)))::(b7, Vm id.l)::(b6, Vm Wo.l)::(K++l))) b7=some (Vm id.l):=aO (gE y.nodup V_);have z8:c∉keys D:=by have:=y.nodup;rw[aV,XR] at this;exact fun h=>this.2.2 c h c Wg rfl
    clear y wz;have yG:=EP (r:=r) (by rw[<-Q];exact zm);have z9:r.name.length<1000:=by rw[<-Q];show nm.length<1000;omega
    refine Cw.Yh [a,b7] [] 10 kR rfl ?_;refine kyc ?_;refine Xx.run [0,1,2,3,4,5] [true,true,true,true,true,true,false,false,false,false] 4 rfl kR kR fun k L=>?_;refine WQ ?_;refine kp (qS2 @db @Md.Ww @z6 @z7) ?_
    (with_reducible refine L _ _ _ ?_);clear L k
    refine Xx.one 6 _ kR rfl ?_;refine Ow.build _ rfl (rI nm id) ?_;rw[Q]
    with_reducible refine Ow.ZQ ?_
    refine kyb ?_;refine Xx.one 7 _ kR rfl ?_;refine Ow.Vc rfl call52 (fun g i=>Ut r g z9) ?_
    with_reducible refine Ow.ZQ ?_
    refine kyb ?_;refine Xx.one 8 _ kR rfl ?_;refine Ow.Wa (X:=D) (Y:=(c, iU vt v6)::(a, Vv (vp C.bd 0) vt vl (vi (B.n:Nat)))::(b7, Vm id.l)::(b6, Vm Wo.l)::(K++l)) rfl rfl rfl call51 (fun g i ya yb=>m5 D C S N 1 aJ aK (bh (bq r)) g ya yb d.D d.A oM WT WT oM) (fun v8 m W zF=>?_);rw[Kq] at zF;obtain⟨rfl,C8,zG,zH⟩:=zF;have zI:ZH (bD S aJ aK (bh (bq r))).1 (N+1):=d.A.append oM;have yc:c∉keys m:=fe W z8 Wg;have zg:a∉keys m:=fe W zj Wg;have yd:b7∉keys m:=fe W zi Wg;have ye:Ext w X (D++((c, iU vt v6)::(a, Vv (vp C.bd 0) vt vl (vi (B.n:Nat)))::(b7, Vm id.l)::(b6, Vm Wo.l)::(K++l))):=zD.perm XJ;have Z:=ye.X1 W;refine Ow.nil ?_;refine⟨(fun x t=>by simp only[Vw,WI,WB] at t;rcases t with rfl|rfl;exact(e8 zg).trans (e8 zj).symm;exact(e8 yd).trans (e8 zi).symm),?_⟩;refine kyb ?_;refine Xx.rest [9] rfl kR kR ?_;refine WQ ?_;have H:=pA (bD S aJ aK (bh (bq r))).2;have yf:∀M,aG w (m++M) c=aG w M c:=fun M=>e8 yc;have yg:∀M,Sx.look (m++M) a=Sx.look M a:=fun M=>cu zg;have yh:∀M x,Vh (m++M) a x=m++Vh M a x:=fun M x=>CR zg;have zJ:RsK (K++((c, iU vt v6)::(b7, Vm id.l)::(b6, Vm Wo.l)::l)) v6 (B.l++[r]):=(lP zE).mono fun A s=>by simp[s]
    by_cases R:(bD S aJ aK (bh (bq r))).2=0
    .rw[tr (by simpa using R)];rw[aP R] at H;have yi:=lc (vp C.bd 0) vt vl (vi (B.n:Nat)) vt v6 62 d.t.1.1 zJ.1.1;refine kq (qS5 @db @H @yf @yg @yh @yi @dq) ?_;refine ky @db ?_;refine⟨_,(ke @db),?_⟩;rw[<-zG] at Z |-;have zb:Ext w X (m++((c, iU vt v6)::(a, Vv (vp C8.bd 0) vt v6 (vi (B.n:Nat)))::(b7, Vm id.l)::(b6, Vm Wo.l)::(K++l))):=Z.keys Wg;exact⟨zb,by rw[R];rfl,C8,vt,v6,m,K++((c, iU vt v6)::(b7, Vm id.l)::(b6, Vm Wo.l)::l),rfl,⟨XJ,zH,zI,d.t.mono (fun p f=>aq _ f),zJ⟩⟩
    rw[Vb R];rw[aW R] at H;refine kq (aN @db @H) ?_;refine ky @db ?_;refine⟨_,(ke @db),?_⟩;rw[<-zG] at Z |-;exact⟨Z,rfl,C8,vt,vl,m,K++((c, iU vt v6)::(b7, Vm id.l)::(b6, Vm Wo.l)::l),rfl,⟨XJ,zH,zI,d.t.mono (fun p f=>aq _ f),d.l.mono (fun p f=>aq _ f)⟩⟩
 have J:(!(fI B.t B.l nm==Wo.l))=true:=by simpa using U
 rw[Vb U];refine ky (aN @db @J) ?_;refine⟨_,(ke @db),?_⟩;exact⟨T,rfl,C,vt,vl,D,K++((b7, Vm id.l)::(b6, Vm Wo.l)::D1),rfl,⟨XJ,d.D,d.A.mono (Nat.le_succ _),d.t.mono fun p f=>aq _ f,d.l.mono fun p f=>aq _ f⟩⟩
end Go.Proofs
end
section
open Go Go.Proofs Go.Sx Go.StP Go.RefP
namespace Go.Proofs
def Qp{K:aA}{v c:hU}{l:List Vk}{k:Nat}{w:hW}(h:RsK K v l)(f:k<=l.length)(g:eN (.sl (true,33)) v (some (some (k:Int))) none=some c)(e:∀b o,(b,o)∈K->w.heap[b]? =some o):RsK K c (l.drop k):=by
 have d:∀a:hW,(∀b o,(b,o)∈K->a.heap[b]? =some o)->cj a c (l.drop k):=fun a i=>by obtain⟨v2,j,m,-⟩:=Xz.qh7 (h.2.2 a i) f true;obtain rfl:=XD (g.symm.trans j);exact m
 exact⟨Xz.qk4 (d w e),Xz.len (d w e),d⟩
def kN:=aN (aN (qS1 @bA @b9 @Sx.Wk) (qS1 @Sx.Wl @gL @gQ)) (aN (qS1 @gP @gM @gS) (qS1 @gO @pV @k8))
def Ho(a Q:Nat)(S:h8)(N:Nat)(B:Xh)(Vn:Int)(X:aA)(w:hW)(hX:∀p,p∈X->w.heap[p.1]? =some p.2)(hn:(keys X).Nodup)(hP:RoP a Q S N B X)(hN:N<600000)(l:am B.t B.l=true)(q:BkR B):
  Va prog 19 #[vp a 0,vi Vn] w (XS w X (fun v D=>v=vi ((fJ S B Vn).1:Nat)/\RoP a Q (fJ S B Vn).2.1 (N+20) (fJ S B Vn).2.2 D)):=by
 obtain⟨C,vt,vl,D,K,rfl,f⟩:=hP;have zE:=q.tl;have zF:=q.ll;have zf:=pu B.l.length Vn;obtain⟨ls,A,zG,h,R⟩:=CV l Vn q.n0;have zg:Ext w X ((a,Vv (vp C.bd 0) vt vl (vi (B.n:Nat)))::(D++K)):=(Ext.refl w X).perm f.perm.symm;have T:fJ S B Vn=(if(bM S aJ aK (bL ls (B.l.drop (cE B.l.length Vn))) false).1≠0 then((bM S aJ aK (bL ls (B.l.drop (cE B.l.length Vn))) false).1,(bM S aJ aK (bL ls (B.l.drop (cE B.l.length Vn))) false).2,B)
   else(0,(bM S aJ aK (bL ls (B.l.drop (cE B.l.length Vn))) false).2,⟨ls,B.l.drop (cE B.l.length Vn),(B.l.drop (cE B.l.length Vn)).length⟩)):=by
  unfold fJ;rw[Vb l,A];simp only;rw[R]
 rw[T];clear T R;refine Va.Vs func19 rfl (rs:=[.tmp 4]) results19 ntmps19 hX hn ?_;refine kf ?_;refine Cw.Vd f.perm.symm ?_;refine ky @kN ?_;refine Ow.Wf rfl rfl call57 (fun i m=>GD vt vl B.t B.l Vn i (f.t.2.2 i fun b o g=>m.has b o (by simp[g])) (f.l.2.2 i fun b o g=>m.has b o (by simp[g])) oM oM q.t.short q.l.short l) (fun B1 v1 D1 zH zh zi zj=>?_);have zk:=zi.mono zh;have zl:=eX zg zk;obtain⟨e,c,zI,U,rfl,F,V⟩:=zj;obtain rfl:=XD (A.symm.trans U);refine Ow.world fun G s=>?_;have u:RsK K c (B.l.drop (cE B.l.length Vn)):=Qp f.l zf V (fun b o g=>s.has b o (by simp[g]));clear s G;generalize B.l.drop (cE B.l.length Vn)=j at*;clear A U V;have zJ:ls.length<=16:=h.tl;have zK:j.length<=100:=h.ll;have zL:(bL ls j).length<=150000:=pO h.tl h.ll h.t h.l;have zm:=kb Vj Vj e c 59 (d9 F).1 u.1.1;refine ko @kN ?_;refine Ow.alloc rfl rfl Y7 fun d zn zo=>?_;simp only[ag,Vy,Wp];have zq:a<d:=aQ zn Wg;refine Ow.Vd (M:=(d, iU Vj Vj)::(a, Vv (vp C.bd 0) vt vl (vi (B.n:Nat)))::(D++(K++D1))) XJ ?_;have zr:Ext w X ((d, iU e c)::(a, Vv (vp C.bd 0) vt vl (vi (B.n:Nat)))::(D++(K++D1))):=(eX zl (E:=[(d,iU e c)]) ⟨zo,trivial⟩).perm XJ;refine Ow.world fun G s=>?_;have H:=s.nodup;clear s G;have n:d∉keys D/\a∉keys D:=by simp only[keys,VY,We,Xd,Vw,Wu,not_or] at H |-;exact⟨H.1.2.1,H.2.1.1⟩
 refine ko (aN @kN @zm) ?_;refine Cw.Vd (M:=D++((d, iU e c)::(a, Vv (vp C.bd 0) vt vl (vi (B.n:Nat)))::(K++D1))) XJ ?_;have r5:aG w (D++((d, iU e c)::(a, Vv (vp C.bd 0) vt vl (vi (B.n:Nat)))::(K++D1))) d=some (iU e c):=aO (uH n.1);have rr:aG w (D++((d, iU e c)::(a, Vv (vp C.bd 0) vt vl (vi (B.n:Nat)))::(K++D1))) a=some (Vv (vp C.bd 0) vt vl (vi (B.n:Nat))):=aO (by rw[cu n.2];simp[Sx.look,Nat.ne_of_gt zq]);refine Cw.Yh [a,d] [] 8 kR rfl ?_;refine kyc ?_;refine Xx.run [0,1,2,3,4] [true,true,true,true,true,false,false,false] 3 rfl kR kR fun k W=>?_;refine WQ ?_;refine kp (qS2 @kN @Md.Ww @r5 @rr) ?_
 (with_reducible refine W _ _ _ ?_);clear W k
 refine Xx.one 5 _ kR rfl ?_;refine Ow.Vc rfl call43 (fun i m=>Uy e c ls j i (gB F fun b o g=>m.has b o (by simp[g])) (u.2.2 i fun b o g=>m.has b o (by simp[g])) oM oM h.t h.l) ?_
 with_reducible refine Ow.ZQ ?_
 refine kyb ?_;refine Xx.one 6 _ kR rfl ?_;refine Ow.Wa (X:=D) (Y:=(d, iU e c)::(a, Vv (vp C.bd 0) vt vl (vi (B.n:Nat)))::(K++D1)) rfl rfl rfl call44 (fun i m zt zu=>DL D C S N aJ aK (bL ls j) i zt zu f.D f.A oM WT oM) (fun v7 D7 I zv=>?_);obtain⟨rfl,J,Z,za,zb⟩:=zv;have zc:d∉keys D7:=fe I n.1 Wg;have L:a∉keys D7:=fe I n.2 Wg;refine Ow.nil ?_;refine⟨(fun r l=>by simp only[Vw,WI,WB] at l;rcases l with rfl|rfl;exact(e8 L).trans (e8 n.2).symm;exact(e8 zc).trans (e8 n.1).symm),?_⟩;refine kyb ?_;refine Xx.rest [7] rfl kR kR ?_;refine WQ ?_;have y:=pA (bM S aJ aK (bL ls j) false).1;have zw:∀M,aG w (D7++M) d=aG w M d:=fun M=>e8 zc;have zx:∀M,Sx.look (D7++M) a=Sx.look M a:=fun M=>cu L;have zy:∀M x,Vh (D7++M) a x=D7++Vh M a x:=fun M x=>CR L;have zz:Ext w X (D++((d, iU e c)::(a, Vv (vp C.bd 0) vt vl (vi (B.n:Nat)))::(K++D1))):=zr.perm XJ;have z:=zz.X1 I;have zd:RsK (K++((d, iU e c)::D1)) c j:=u.mono fun zA O=>aq _ O;have ze:RsK (K++((d, iU e c)::D1)) e ls:=(lP F).mono fun zA O=>by simp[O]
 have zB:=u.2.1;by_cases t:(bM S aJ aK (bL ls j) false).1=0
 .rw[tr (by simpa using t)];rw[aP t] at y;have zC:=lc (vp C.bd 0) vt vl (vi (B.n:Nat)) e c 62 ze.1.1 zd.1.1;refine kq (qS6 @kN @y @zw @zx @zy @zC @zB @dq) ?_;refine ky @kN ?_;refine⟨_,(ke @kN),?_⟩;rw[<-Z] at z |-;have zD:Ext w X (D7++((d, iU e c)::(a, Vv (vp J.bd 0) e c (vi (j.length:Nat)))::(K++D1))):=z.keys Wg;exact⟨zD,by rw[t];rfl,J,e,c,D7,K++((d, iU e c)::D1),rfl,⟨XJ,za,zb,ze,zd⟩⟩
 rw[Vb t];rw[aW t] at y;refine kq (aN @kN @y) ?_;refine ky @kN ?_;refine⟨_,(ke @kN),?_⟩;rw[<-Z] at z |-;exact⟨z,rfl,J,vt,vl,D7,K++((d, iU e c)::D1),rfl,⟨XJ,za,zb,f.t.mono (fun p P=>aq _ P),f.l.mono (fun p P=>aq _ P)⟩⟩
end Go.Proofs
end
section
open Go Go.Proofs Go.Sx Go.RefP
namespace Go.Sx
end Go.Sx
namespace Go.Proofs
def Xf(s:No)(v:hU)(D:aA):Prop:=
 match fm s with
 |some (tb,log,at_)=> ∃vt vl,v=.tuple #[.agg #[vt,vl],vi at_,.bool true]/\Yq D 114 33 vt tb.length (tb.map aI).flatten/\Yq D 114 33 vl log.length (log.map aI).flatten
 |none=>v=.tuple #[.agg #[Vj, Vj],vi 0,.bool false]
def Xf.no{s:No}{D:aA}(h:fm s=none):Xf s (.tuple #[.agg #[Vj, Vj],vi 0,.bool false]) D:=by unfold Xf;rw[h]
def Mj(a:No)(p:Vf):qd7 a [p]=if a.head? =some p then(a.drop 1,true) else(a,false):=by
 unfold qd7;cases a with
 |nil=>simp
 |cons c r=>by_cases h:c=p<;>simp[h]
def uQ(s:No)(a:Nat)(p:Vf):(bw s a 0 [p]).1=(if(gc s a).2.2=true/\(gc s a).1.head? =some p then some ((gc s a).1.drop 1) else none)/\((gc s a).2.2=true->(bw s a 0 [p]).2.1=(gc s a).2.1):=by
 unfold bw gc;generalize aS s a 0 65536=d;obtain⟨t,g,e⟩:=d;simp only;generalize eG t=b;obtain⟨b,ok⟩:=b;simp only[Mj];by_cases c:e=0
 .subst c;simp only[ne_eq,not_true_eq_false,↓reduceIte,and_true];refine⟨?_,fun _=>trivial⟩;by_cases f:b.head? =some p<;>cases ok<;>simp[f]
 simp only[ne_eq,c,not_false_eq_true,↓reduceIte,and_false];exact⟨by simp,fun h=>by cases h⟩
def AB{s:No}{a:Nat}(b:a<=s.length):(gc s a).2.1<=s.length:=by
 unfold gc;simp only
 split
 .exact aR _
 exact(gA (e:=0) (most:=65536) b).2
def uh{s:No}{a:Nat}(b:s.length<1099511627776):(gc s a).1.length<1099511627776:=by
 have c:=qh (a:=a) (e:=0) (most:=65536) b;have d:=C4 (aS s a 0 65536).1;unfold gc;simp only
 split
 .simp
 simp only;omega
def Ik(r:Vk)(n:No)(a:Bool)(E:h7):aZ (some (a,1)) (some (.cells (aI r).toArray E (0,0))) 0 (vs n)=some (.cells (aI ⟨n,r.id⟩).toArray E (0,0)):=
 cP [] [vs r.name] [vs n] (r.id.l.map v8) a (vs n) E rfl rfl rfl rfl rfl
def JS(r:Vk)(i:Xl)(a:Bool)(E:h7):aZ (some (a,32)) (some (.cells (aI r).toArray E (0,0))) 1 (.agg (a8 i.l))=some (.cells (aI ⟨r.name,i⟩).toArray E (0,0)):=by have h:=cP [vs r.name] (r.id.l.map v8) (i.l.map v8) [] (o:=1) (n:=32) a (.agg (a8 i.l)) E rfl (by simp[r.id.h]) (ag _) (by simp[i.h]) (jX _);simpa [aI] using h
def rS:cL (bP prog 114) (ac prog 114) []=some (.agg (aI ar).toArray):=by have h:ac prog 114=some (.agg (aI ar).toArray):=eR;have a:bP prog 114=some [(0,1),(1,32)]:=id kR;rw[a,h];rfl
def U7(b:Nat)(s:No)(a:Nat)(e:Int)(w:hW)(c:w.heap[b]? =some (Vz (vs s) (vi a) (vi e))):
  Va prog 98 #[vp b 0] w (fun v D=>v=vi (Zc s a e)/\D=[]):=BH b s a e w c
def ja{s:No}{tb log:List Vk}{at_ a g:Nat}(b:j3 s=some (tb,a))(c:eo s tb (101 - g) log at_=eo s tb 101 [] a)(e:g<101)(d:gI s tb log at_=none):fm s=some (tb,log,at_):=by unfold fm;rw[b,Ws,<-c,show 101 - g=(100 - g)+1 by omega];simp only[eo,d]
structure DG where
 g:Nat
 log:List Vk
 vl:hU
 at_:Nat
 D:aA
def ap:=aN (aN (aN (qS1 @bA @gd @iG) (qS1 @iF @b9 @kZ)) (aN (qS1 @kg @eI @i5) (aN (aN @ma @mY) (aN @mX @k8)))) (aN (aN (qS1 @d_ @Wk @Wl) (aN (aN @Yk @Yl) (aN @Ym @m_))) (aN (qS1 @n8 @mz @pQ) (aN (aN @pK @Ik) (aN @JS @tS))))
def GN(s:No)(w:hW)(hs:s.length<1000000):
  Va prog 45 #[vs s] w (XS w [] (Xf s)):=by
 have zc:=uQ s 0 72;have zT:=AB (s:=s) (a:=0) (aR _);have zg:=uh (s:=s) (a:=0) oM;refine Va.Vs func45 rfl (rs:=[.cell 2 59,.tmp 3,.tmp 4]) results45 ntmps45 (fun p l=>by cases l) Wg ?_;refine kf ?_;refine ky @ap ?_;refine Ow.alloc rfl rfl Y7 fun y yS N=>?_;simp only[ag,Vy,Wp];refine ko @ap ?_;refine ky @ap ?_;refine Ow.Vc rfl call94 (fun t q=>sy s 0 t (aR _) oM) ?_;generalize gc s 0=I at*;obtain⟨zv,to,ok⟩:=I;simp only at zc zT zg |-;refine ko @ap ?_;cases ok
 .refine ky @ap ?_;refine Ow.build (.agg #[Vj, Vj]) rfl kR ?_;refine ko @ap ?_;refine ky @ap ?_;refine⟨_,(ke @ap),?_⟩;exact⟨Ext.Vt ⟨N,trivial⟩,Xf.no (Ca (by rw[zc.1,tr V_]))⟩
 cases zv with
 |nil=>have zw:((([]:No).length:Int)==0)=true:=rfl;refine ky (aN @ap @zw) ?_;refine Ow.build (.agg #[Vj, Vj]) rfl kR ?_;refine ko @ap ?_;refine ky @ap ?_;refine⟨_,(ke @ap),?_⟩;exact⟨Ext.Vt ⟨N,trivial⟩,Xf.no (Ca (by rw[zc.1,tr V_]))⟩
 |cons u c=>
  have zU:(((u::c).length:Int)==0)=false:=by simp;omega
  have zV:j9 .str (vs (u::c)) (some 0)=some (v8 u):=nG (u::c) 0 ⟨by omega,by simp only[Wt];omega⟩;cases zh:(u==72)
  .have zx:(u !=72)=true:=by simp[bne,zh]
   refine ky (qS2 @ap @zU @zV @zx) ?_;refine Ow.build (.agg #[Vj, Vj]) rfl kR ?_;refine ko @ap ?_;refine ky @ap ?_;refine⟨_,(ke @ap),?_⟩;have zy:¬ (true=true/\(u::c).head? =some (72:Vf)):=fun h=>by simp only[List.head?_cons,WD,true_and] at h;rw[h] at zh;simp at zh
   exact⟨Ext.Vt ⟨N,trivial⟩,Xf.no (Ca (by rw[zc.1,tr zy]))⟩
  have zx:(u !=72)=false:=by simp[bne,zh]
  have zz:u=72:=by simpa using zh
  subst zz;have yd:(bw s 0 0 [72]).1=some c:=by rw[zc.1,Vb ⟨rfl,rfl⟩];rfl
  have ye:=zc.2 rfl;have J:=tG yd;rw[ye] at J;have yf:c.length<1099511627776:=by simp at zg;omega
  refine ky (qS2 @ap @zU @zV @zx) ?_;refine Ow.build (.agg #[vs (72::c),vi 1,vi 0]) rfl (Dr (72::c) 1) ?_;refine ko @ap ?_;refine Ow.box rfl rfl fun b8 yg zA=>?_;refine Yx ?_;refine Ow.go rfl ?_;simp(disch:=first|exact dD|fail) only[↓Sx.S0,Sx.S1,fx,ap,Nat.reduceAdd,Nat.reducePow,Int.reducePow,Nat.reduceBEq,↓reduceIte,UInt8.reduceToNat,UInt16.reduceToNat,UInt32.reduceToNat,UInt64.reduceToNat,Int.reduceToNat];obtain⟨yT,-⟩:=yg;refine ky @ap ?_;refine Ow.build (.agg #[Vj, Vj]) rfl kR ?_;refine ko @ap ?_;refine Ow.alloc rfl rfl Y7 fun r yh V=>?_;simp only[ag,Vy,Wp];obtain⟨yU,yV,-⟩:=yh;refine ko @ap ?_;refine ky @ap ?_;have zW:=Uq (72::c) 0 0 16;simp only[List.drop_succ_cons,YM,Xg] at zW;have zX:=j' (s:=c) (a:=0) (e:=0) (most:=16) oM;have zY:=fO (s:=c) (a:=0) (e:=0) (most:=16) (aR _);refine Ow.WA rfl rfl call95 Wg (fun t q=>BS b8 (72::c) 1 0 16 t V_ (by simpa using zg) (q.has _ _ (ah _ aX))) ?_;rw[zW];generalize aE c 0 0 16=nn at*;obtain⟨n1,d,ne⟩:=nn;simp only at zX zY J |-;obtain⟨k,rfl⟩:=ZT zX.1;have yW:k<=16:=by omega
  refine kn ?_;refine ko @ap ?_;refine ky @ap ?_;refine Cw.Vd (M:=(b8, Vz (vs (72::c)) (vi (d+1:Nat)) (vi ne))::(r, iU Vj Vj)::(y, iU Vj Vj)::[]) XJ ?_;refine Cw.VU (G:=HG) [45,46,47,50,12,51,52,53,54,55,56,57,58,59,60,61,62,48,49,11] (fun g=>[(11,vi g.g)]) (fun g=>(b8, Vz (vs (72::c)) (vi ((ai c d ne g.g).2.1+1:Nat)) (vi (ai c d ne g.g).2.2))::(r, iU g.vt Vj)::(y, iU Vj Vj)::g.D) (fun g=>g.g<=k/\Vq (r+1) g.D/\Gr g.D 114 33 g.vt g.g ((ai c d ne g.g).1.map aI).flatten) (fun g=>k - g.g) ⟨0, Vj,[]⟩ rfl rfl ?_ ?_
  .exact⟨aR _,trivial,Gr.nl⟩
  intro g j P;refine kv ?_;obtain⟨g,vt,D⟩:=g;simp only at P |-;obtain⟨yi,O,zm⟩:=P;have zZ:=nI (e:=ne) zY.2 g;by_cases z0:g<k
  .have zB:ai c d ne (g+1)=((ai c d ne g).1++[(eT c (ai c d ne g).2.1 (ai c d ne g).2.2).1],(eT c (ai c d ne g).2.1 (ai c d ne g).2.2).2):=rfl;have zi:=DZ (72::c) (ai c d ne g).2.1 (ai c d ne g).2.2 32 V_;have zj:=gA (s:=c) (e:=(ai c d ne g).2.2) (most:=32) zZ.2;have W:=sd (72::c) (aS c (ai c d ne g).2.1 (ai c d ne g).2.2 32).2.1 (aS c (ai c d ne g).2.1 (ai c d ne g).2.2 32).2.2 V_;have Y:=pj (s:=c) (e:=(aS c (ai c d ne g).2.1 (ai c d ne g).2.2 32).2.2) zj.2;simp only[List.drop_succ_cons,YM] at zi W;have Q:eT c (ai c d ne g).2.1 (ai c d ne g).2.2=(⟨(aS c (ai c d ne g).2.1 (ai c d ne g).2.2 32).1,fj (X5 c (aS c (ai c d ne g).2.1 (ai c d ne g).2.2 32).2.1 (aS c (ai c d ne g).2.1 (ai c d ne g).2.2 32).2.2).1⟩,(X5 c (aS c (ai c d ne g).2.1 (ai c d ne g).2.2 32).2.1 (aS c (ai c d ne g).2.1 (ai c d ne g).2.2 32).2.2).2):=rfl;refine kz [9] @ap ?_;refine Ow.build (.agg (aI ar).toArray) rfl rS ?_;refine ko @ap ?_;refine Ow.alloc rfl rfl eR fun T zC yX=>?_;simp only[ag,Vy,Wp];have yY:b8<T:=aQ zC Wg;have yZ:r<T:=aQ zC Wg;have y0:y<T:=aQ zC Wg;refine Ow.Vd (M:=(T,Ve ar)::(b8, Vz (vs (72::c)) (vi ((ai c d ne g).2.1+1:Nat)) (vi (ai c d ne g).2.2))::(r, iU vt Vj)::(y, iU Vj Vj)::D) XJ ?_;refine ko @ap ?_;refine ky @ap ?_;refine Ow.WA rfl rfl call96 Wg (fun t q=>pY b8 (72::c) ((ai c d ne g).2.1+1) (ai c d ne g).2.2 32 t (by simp only[Wt];omega) (by simpa using zg) (q.has _ _ (ah _ aX))) ?_;rw[zi];generalize aS c (ai c d ne g).2.1 (ai c d ne g).2.2 32=tx at*;obtain⟨tt,ta,te⟩:=tx;simp only at zj W Y Q |-;refine kn ?_;refine ko @ap ?_;refine ky @ap ?_;refine Ow.WA rfl rfl call97 Wg (fun t q=>BN b8 (72::c) (ta+1) te t (by simp only[Wt];omega) (by simpa using zg) (q.has _ _ (ah _ aX))) ?_;rw[W];generalize X5 c ta te=ix at*;obtain⟨il,F,H⟩:=ix;simp only at Y Q |-;obtain⟨f,hI⟩:∃f,fj il=f:=⟨_,rfl⟩;have zD:il=f.l:=by rw[<-hI,l3 Y]
   rw[hI] at Q;rw[zD];rw[Q] at zB;refine kn ?_;refine ko @ap ?_;refine ky @ap ?_;refine Ow.buildSlice (e:=114) (aI ⟨tt,f⟩).toArray rfl rfl (ia ⟨tt,f⟩) fun Z yj y1=>?_;have y2:r<Z:=aQ yj Wg;refine Ow.Vd (M:=D++((T,Ve ⟨tt,f⟩)::(b8, Vz (vs (72::c)) (vi ((F+1:Nat):Int)) (vi H))::(r, iU vt Vj)::(y, iU Vj Vj)::[(Z,Ve ⟨tt,f⟩)])) XJ ?_;refine Ow.XP (e:=114) (k:=1) (new:=aI ⟨tt,f⟩) (X:=D) vt rfl rfl rfl rfl underlying57 YI kR eR (by rw[eI,Wd,bK]) underlying57 (by intro k h;cases h) zm (fun t q=>W0.X6 (q.has Z (Ve ⟨tt,f⟩) V_) (bK _) (gU _)) oM oM (fun B v4 U yk y3 z1 yl zE ym=>?_);have y4:Z<B:=aQ yk (by simp[aV,keys]);have z2:Vq (r+1) U:=Vq.of_le fun I hq=>by
    rcases zE I hq with h|h
    .exact O.le I h
    omega
   have z3:r∉keys U:=z2.not oM;have yn:∀M,Sx.look (U++M) r=Sx.look M r:=fun M=>cu z3;have yo:∀M x,Vh (U++M) r x=U++Vh M r x:=fun M x=>pT z3;have zF:=nO vt Vj v4 59 z1.cell;refine ko (qS3 @ap @yn @yo @zF @dq) ?_
   try with_reducible refine Ow.nil ?_
   refine Cw.Vd (M:=(b8, Vz (vs (72::c)) (vi ((F+1:Nat):Int)) (vi H))::(r, iU v4 Vj)::(y, iU Vj Vj)::(U++[(T,Ve ⟨tt,f⟩),(Z,Ve ⟨tt,f⟩)])) XJ ?_;refine ky @ap ?_;refine Vo.mk (HG.mk (g+1) v4 (U++[(T,Ve ⟨tt,f⟩),(Z,Ve ⟨tt,f⟩)])) (by show k - (g+1)<k - g;omega) ⟨by show g+1<=k;omega,z2.app ⟨by omega,by omega,trivial⟩,?_⟩ ?_ rfl
   .show Gr (U++[(T,Ve ⟨tt,f⟩),(Z,Ve ⟨tt,f⟩)]) 114 33 v4 (g+1) ((ai c d ne (g+1)).1.map aI).flatten;rw[zB];have e:(((ai c d ne g).1++[(⟨tt,f⟩:Vk)]).map aI).flatten=((ai c d ne g).1.map aI).flatten++aI ⟨tt,f⟩:=by simp
    rw[e];exact Gr.app (.inl z1)
   simp only[zB]
  obtain rfl:g=k:=by omega
  have z4:=DK (a:=d) (e:=ne) yf g;have z5:=pZ c d ne g;rw[WX] at J;have zd:=sQ (72::c) (ai c d ne g).2.1 (ai c d ne g).2.2 V_;simp only[List.drop_succ_cons,YM] at zd;refine ky @ap ?_;refine Ow.Vc rfl call98 (fun t q=>U7 b8 (72::c) ((ai c d ne g).2.1+1) (ai c d ne g).2.2 t (q.has _ _ aX)) ?_;rw[zd];by_cases he:Zc c (ai c d ne g).2.1 (ai c d ne g).2.2=0
  .have hb:(Zc c (ai c d ne g).2.1 (ai c d ne g).2.2 !=0)=false:=by simp[he]
   refine ko (aN @ap @hb) ?_;refine ky (aN @ap @d_) ?_;refine Ow.Vc rfl call50 (fun t q=>Ed vt Vj (ai c d ne g).1 [] t (zm.slM (fun b o hm=>q.has b o (by simp[hm])) z5 rfl bK) (Xz.nil t) oM V_ z4 (fun g P=>by simp at P)) ?_;cases hr:am (ai c d ne g).1 []
   .refine ko @ap ?_;refine ky @ap ?_;refine Ow.build (.agg #[Vj, Vj]) rfl kR ?_;refine ko @ap ?_;refine ky @ap ?_;refine⟨_,(ke @ap),?_⟩;exact⟨Ext.Vt ⟨zA,V,N,O.mono oM⟩,Xf.no (l4 (by rw[J,tr (by simp[hr])]))⟩
   rw[Vb ⟨he,hr⟩] at J;generalize (ai c d ne g).1=tb at*;refine ko @ap ?_;refine ky @ap ?_;refine Cw.Vd (M:=(r, iU vt Vj)::(y, iU Vj Vj)::((b8, Vz (vs (72::c)) (vi ((ai c d ne g).2.1+1:Nat)) (vi (ai c d ne g).2.2))::D)) XJ ?_;have yp:Yq ((b8, Vz (vs (72::c)) (vi ((ai c d ne g).2.1+1:Nat)) (vi (ai c d ne g).2.2))::D) 114 33 vt tb.length (tb.map aI).flatten:=by rw[z5];exact zm.i fun p l=>by simp[l]
   have yq:Vq w.heap.size ((b8, Vz (vs (72::c)) (vi ((ai c d ne g).2.1+1:Nat)) (vi (ai c d ne g).2.2))::D):=⟨zA,O.mono oM⟩;generalize (b8, Vz (vs (72::c)) (vi ((ai c d ne g).2.1+1:Nat)) (vi (ai c d ne g).2.2))::D=D0 at*;clear zm O zd zZ yi;rename_i _;clear z0;refine Cw.VU (G:=DG) [72,73,77,78,79,76,80,81,82,14,15,16,83,84,85,86,87,88,89,90,91,92,93,94,95,96,3,4,97,98,99,17,100,18,101,102,103,104,105,106,107,108,109,19,110,111,112,113,114,115,116,117,118,119,120,121,122,123,124,125,126,127,128,129,130,131,132,133,6,74,75,13] (fun g=>[(13,vi g.g),(6,vi g.at_)]) (fun g=>(r, iU vt g.vl)::(y, iU Vj Vj)::g.D) (fun g=>g.g<=101/\g.log.length=g.g/\Vq w.heap.size g.D/\Yq g.D 114 33 vt tb.length (tb.map aI).flatten/\Yq g.D 114 33 g.vl g.log.length (g.log.map aI).flatten/\dX g.log/\g.at_<=s.length/\(0<g.g->am tb g.log=true)/\eo s tb (101 - g.g) g.log g.at_=eo s tb 101 [] to) (fun g=>101 - g.g) ⟨0,[], Vj,to,D0⟩ rfl rfl ?_ ?_
   .exact⟨by simp,rfl,yq,yp,Gr.nl.i (X:=[]) fun p l=>(by cases l),fun g P=>(by simp at P),zT,fun h=>Vx h (Xk 0),rfl⟩
   intro g j P;refine kv ?_;obtain⟨g,log,vl,at_,D⟩:=g;simp only at P |-;obtain⟨y5,yr,O,A,K,ys,z6,yt,ze⟩:=P;by_cases z0:g<101
   .have zf:=uQ s at_ 69;have z7:=AB (s:=s) (a:=at_) z6;have zn:=uh (s:=s) (a:=at_) oM;refine kz [18] @ap ?_;refine Ow.Vc rfl call94 (fun t q=>sy s at_ t z6 oM) ?_;generalize gc s at_=I at*;obtain⟨zv,en,ok⟩:=I;simp only at zf z7 zn |-;refine ko @ap ?_;cases ok
    .refine ky @ap ?_;have R:=gT Vj Vj vt vl 59 (d9 A).1 (d9 K).1;refine ky (qS1 @ap @d_ @R) ?_;refine⟨_,(ke @ap),?_⟩;refine⟨Ext.Vt (show Vq _ (_::_::D) from⟨V,N,O⟩),?_⟩;unfold Xf;rw[ja J ze oM (BW (by rw[zf.1,tr V_]))];exact⟨vt,vl,rfl,A.mono fun p l=>by simp[l],K.mono fun p l=>by simp[l]⟩
    cases zv with
    |nil=>have zw:((([]:No).length:Int)==0)=true:=rfl;refine ky (aN @ap @zw) ?_;have R:=gT Vj Vj vt vl 59 (d9 A).1 (d9 K).1;refine ky (qS1 @ap @d_ @R) ?_;refine⟨_,(ke @ap),?_⟩;refine⟨Ext.Vt (show Vq _ (_::_::D) from⟨V,N,O⟩),?_⟩;unfold Xf;rw[ja J ze oM (BW (by rw[zf.1,tr V_]))];exact⟨vt,vl,rfl,A.mono fun p l=>by simp[l],K.mono fun p l=>by simp[l]⟩
    |cons u i=>
     have z8:(((u::i).length:Int)==0)=false:=by simp;omega
     have z9:j9 .str (vs (u::i)) (some 0)=some (v8 u):=nG (u::i) 0 ⟨by omega,by simp only[Wt];omega⟩;cases zk:(u==69)
     .have zG:(u !=69)=true:=by simp[bne,zk]
      have zy:¬ (true=true/\(u::i).head? =some (69:Vf)):=fun h=>by simp only[List.head?_cons,WD,true_and] at h;rw[h] at zk;simp at zk
      refine ky (qS2 @ap @z8 @z9 @zG) ?_;have R:=gT Vj Vj vt vl 59 (d9 A).1 (d9 K).1;refine ky (qS1 @ap @d_ @R) ?_;refine⟨_,(ke @ap),?_⟩;refine⟨Ext.Vt (show Vq _ (_::_::D) from⟨V,N,O⟩),?_⟩;unfold Xf;rw[ja J ze oM (BW (by rw[zf.1,tr zy]))];exact⟨vt,vl,rfl,A.mono fun p l=>by simp[l],K.mono fun p l=>by simp[l]⟩
     have zG:(u !=69)=false:=by simp[bne,zk]
     have zz:u=69:=by simpa using zk
     subst zz;have yu:(bw s at_ 0 [69]).1=some i:=by rw[zf.1,Vb ⟨rfl,rfl⟩];rfl
     have yv:=zf.2 rfl;have yw:i.length<1099511627776:=by simp at zn;omega
     have za:=td (tb:=tb) (log:=log) yu;rw[yv] at za;refine ky (qS2 @ap @z8 @z9 @zG) ?_;refine Ow.build (.agg #[vs (69::i),vi 1,vi 0]) rfl (Dr (69::i) 1) ?_;refine ko @ap ?_;refine Ow.box rfl rfl fun v ya zH=>?_;refine Yx ?_;refine Ow.go rfl ?_;simp(disch:=first|exact dD|fail) only[↓Sx.S0,Sx.S1,fx,ap,Nat.reduceAdd,Nat.reducePow,Int.reducePow,Nat.reduceBEq,↓reduceIte,UInt8.reduceToNat,UInt16.reduceToNat,UInt32.reduceToNat,UInt64.reduceToNat,Int.reduceToNat];have y6:r<v:=aQ ya Wg;have y7:y<v:=aQ ya Wg;refine ky @ap ?_;refine Ow.Vd (M:=(v, Vz (vs (69::i)) (vi 1) (vi 0))::(r, iU vt vl)::(y, iU Vj Vj)::D) XJ ?_;refine Ow.build (.agg (aI ar).toArray) rfl rS ?_;refine ko @ap ?_;refine Ow.alloc rfl rfl eR fun C zI zJ=>?_;simp only[ag,Vy,Wp];have y8:r<C:=aQ zI Wg;have y9:y<C:=aQ zI Wg;have xa:v<C:=aQ zI Wg;refine Ow.Vd (M:=(C,Ve ar)::(v, Vz (vs (69::i)) (vi 1) (vi 0))::(r, iU vt vl)::(y, iU Vj Vj)::D) XJ ?_;refine ko @ap ?_;refine ky @ap ?_;have zi:=DZ (69::i) 0 0 32 V_;have zj:=gA (s:=i) (a:=0) (e:=0) (most:=32) (aR _);have W:=sd (69::i) (aS i 0 0 32).2.1 (aS i 0 0 32).2.2 V_;have Y:=pj (s:=i) (e:=(aS i 0 0 32).2.2) zj.2;have zK:(eT i 0 0).1.name.length<1099511627776:=Cm yw;simp only[List.drop_succ_cons,YM,Xg] at zi W;have Q:eT i 0 0=(⟨(aS i 0 0 32).1,fj (X5 i (aS i 0 0 32).2.1 (aS i 0 0 32).2.2).1⟩,(X5 i (aS i 0 0 32).2.1 (aS i 0 0 32).2.2).2):=rfl;refine Ow.WA rfl rfl call96 Wg (fun t q=>pY v (69::i) 1 0 32 t V_ (by simpa using zn) (q.has _ _ (ah _ aX))) ?_;rw[zi];generalize aS i 0 0 32=tx at*;obtain⟨tt,ta,te⟩:=tx;simp only at zj W Y Q |-;refine kn ?_;refine ko @ap ?_;refine ky @ap ?_;refine Ow.WA rfl rfl call97 Wg (fun t q=>BN v (69::i) (ta+1) te t (by simp only[Wt];omega) (by simpa using zn) (q.has _ _ (ah _ aX))) ?_;rw[W];generalize X5 i ta te=ix at*;obtain⟨il,F,H⟩:=ix;simp only at Y Q |-;obtain⟨f,hI⟩:∃f,fj il=f:=⟨_,rfl⟩;have zD:il=f.l:=by rw[<-hI,l3 Y]
     rw[hI] at Q;rw[zD];rw[Q] at za zK;simp only at za zK;refine kn ?_;refine ko @ap ?_;refine ky @ap ?_;refine Ow.build (.agg #[vt, Vj]) rfl (tk vt (d9 A).2) ?_;refine ko @ap ?_;refine Ow.alloc rfl rfl Y7 fun m zo zL=>?_;simp only[ag,Vy,Wp];have xb:r<m:=aQ zo Wg;have xc:y<m:=aQ zo Wg;have xd:v<m:=aQ zo Wg;have xe:C<m:=aQ zo Wg;refine Ow.Vd (M:=(m, iU Vj Vj)::(C,Ve ⟨tt,f⟩)::(v, Vz (vs (69::i)) (vi ((F+1:Nat):Int)) (vi H))::(r, iU vt vl)::(y, iU Vj Vj)::D) XJ ?_;have yx:=gT Vj Vj vt Vj 59 (d9 A).1 rfl;refine ko (aN @ap @yx) ?_;refine ky @ap ?_;refine Ow.qh4 (e:=114) (k:=log.length) (new:=(log.map aI).flatten) (X:=[]) (n:=0) (cs:=[]) Vj rfl rfl rfl rfl underlying57 YI kR eR (by rw[eI,Wd,bK]) underlying57 (by intro k h;cases h) .nl (fun t q=>(Yq.slV (z:=ar) (K.mono (fun p l=>by simp[l])) q rfl rfl bK).ql8 bK gU) oM (fun B zl L yy xf zM yl zE ym=>?_);rw[Xg,Vy] at zM;have yz:m<B:=aQ yy Wg;have zq:Vq B L:=Vq.of_le fun I hq=>by
      rcases zE I hq with h|h
      .cases h
      exact h
     have zN:m∉keys L:=zq.not yz;have yA:∀M,Sx.look (L++M) m=Sx.look M m:=fun M=>cu zN;have yB:∀M x,Vh (L++M) m x=L++Vh M m x:=fun M x=>pT zN;have yC:=CK vt Vj zl 59 zM.cell;have yD:∀M,aG w (L++M) m=aG w M m:=fun M=>e8 zN;have yE:∀M,aG w (L++M) C=aG w M C:=fun M=>e8 (zq.not oM);have yF:∀M,aG w (L++M) v=aG w M v:=fun M=>e8 (zq.not oM);refine ko (qS6 @ap @yA @yB @yC @yD @yE @yF @dq) ?_;refine Ow.Vd (M:=(m, iU vt zl)::(C,Ve ⟨tt,f⟩)::(v, Vz (vs (69::i)) (vi ((F+1:Nat):Int)) (vi H))::(r, iU vt vl)::(y, iU Vj Vj)::(L++D)) XJ ?_;refine Ow.buildSlice (e:=114) (aI ⟨tt,f⟩).toArray rfl rfl (ia ⟨tt,f⟩) fun zb yG zO=>?_;have xg:m<zb:=aQ yG Wg;refine Ow.Vd (M:=L++((m, iU vt zl)::(C,Ve ⟨tt,f⟩)::(v, Vz (vs (69::i)) (vi ((F+1:Nat):Int)) (vi H))::(r, iU vt vl)::(y, iU Vj Vj)::(D++[(zb,Ve ⟨tt,f⟩)]))) XJ ?_;refine Ow.XP (e:=114) (k:=1) (new:=aI ⟨tt,f⟩) (X:=L) zl rfl rfl rfl rfl underlying57 YI kR eR (by rw[eI,Wd,bK]) underlying57 (by intro k h;cases h) (.inl zM) (fun t q=>W0.X6 (q.has zb (Ve ⟨tt,f⟩) V_) (bK _) (gU _)) oM oM (fun yH S E yI yJ zr xh yK xi=>?_);have yJ:zb<yH:=aQ yI (by simp[aV,keys]);have zt:Vq (m+1) E:=Vq.of_le fun I hq=>by
      rcases yK I hq with h|h
      .have:=zq.le I h;omega
      omega
     have zP:m∉keys E:=zt.not oM;have yL:∀M,Sx.look (E++M) m=Sx.look M m:=fun M=>cu zP;have yM:∀M x,Vh (E++M) m x=E++Vh M m x:=fun M x=>pT zP;have yN:=CK vt zl S 59 zr.cell;have yO:∀M,aG w (E++M) m=aG w M m:=fun M=>e8 zP;have yP:∀M,aG w (E++M) C=aG w M C:=fun M=>e8 (zt.not oM);have yQ:∀M,aG w (E++M) v=aG w M v:=fun M=>e8 (zt.not oM);refine ko (qS6 @ap @yL @yM @yN @yO @yP @yQ @dq) ?_;refine Ow.Vd (M:=(m, iU vt S)::(C,Ve ⟨tt,f⟩)::(v, Vz (vs (69::i)) (vi ((F+1:Nat):Int)) (vi H))::(r, iU vt vl)::(y, iU Vj Vj)::(zb,Ve ⟨tt,f⟩)::(E++D)) XJ ?_;have yR:(log.map aI).flatten++aI ⟨tt,f⟩=((log++[(⟨tt,f⟩:Vk)]).map aI).flatten:=by simp
     rw[yR] at zr;have yb:Gr E 114 33 S (log.length+1) ((log++[(⟨tt,f⟩:Vk)]).map aI).flatten:=.inl zr;have yc:dX (log++[(⟨tt,f⟩:Vk)]):=rW ys zK;have zQ:Vq w.heap.size (E++D):=(zt.mono oM).app O;have zd:=sQ (69::i) F H V_;simp only[List.drop_succ_cons,YM] at zd;refine Ow.Vc rfl call98 (fun t q=>U7 v (69::i) (F+1) H t (q.has _ _ (ah _ (ah _ aX)))) ?_;rw[zd];by_cases zu:Zc i F H=0
     .have zR:(Zc i F H !=0)=false:=by simp[zu]
      refine ko (aN @ap @zR) ?_;refine kz [18] (aN @ap @d_) ?_;refine Ow.Vc rfl call50 (fun t q=>Ed vt S tb (log++[(⟨tt,f⟩:Vk)]) t (Yq.slV (A.mono (fun p l=>by simp[l])) q rfl rfl bK) (yb.slM (fun b o hm=>q.has b o (by simp[hm])) V_ rfl bK) oM (by simp;omega) z4 yc) ?_;cases zS:am tb (log++[(⟨tt,f⟩:Vk)])
      .refine ko @ap ?_;have R:=gT Vj Vj vt vl 59 (d9 A).1 (d9 K).1;refine ky (qS1 @ap @d_ @R) ?_;refine⟨_,(ke @ap),?_⟩;refine⟨Ext.Vt (show Vq _ (_::_::_::_::_::_::(E++D)) from⟨zL,zJ,zH,V,N,zO,zQ⟩),?_⟩;unfold Xf;rw[ja J ze oM (by rw[za,tr (by simp[zS])])];exact⟨vt,vl,rfl,A.mono fun p l=>by simp[l],K.mono fun p l=>by simp[l]⟩
      rw[Vb ⟨zu,zS⟩] at za;have zF:=gT vt vl vt S 59 (d9 A).1 zr.cell.1;refine ko (qS1 @ap @d_ @zF) ?_;refine Cw.Vd (M:=(r, iU vt S)::(y, iU Vj Vj)::(m, iU vt S)::(C,Ve ⟨tt,f⟩)::(v, Vz (vs (69::i)) (vi ((F+1:Nat):Int)) (vi H))::(zb,Ve ⟨tt,f⟩)::(E++D)) XJ ?_;refine ky @ap ?_;exact Vo.mk (DG.mk (g+1) (log++[⟨tt,f⟩]) S en ((m, iU vt S)::(C,Ve ⟨tt,f⟩)::(v, Vz (vs (69::i)) (vi ((F+1:Nat):Int)) (vi H))::(zb,Ve ⟨tt,f⟩)::(E++D))) (by show 101 - (g+1)<101 - g;omega) ⟨by show g+1<=101;omega,by simp[yr],⟨zL,zJ,zH,zO,zQ⟩,A.mono fun p l=>by simp[l],by rw[VV];exact yb.i fun p l=>by simp[l],yc,z7,fun _=>zS,by show eo s tb (101 - (g+1)) (log++[⟨tt,f⟩]) en=_;rw[<-ze,show 101 - g=(101 - (g+1))+1 by omega,eo,za]⟩ rfl rfl
     have zR:(Zc i F H !=0)=true:=by simpa using zu
     refine ko (aN @ap @zR) ?_;have R:=gT Vj Vj vt vl 59 (d9 A).1 (d9 K).1;refine ky (qS1 @ap @d_ @R) ?_;refine⟨_,(ke @ap),?_⟩;refine⟨Ext.Vt (show Vq _ (_::_::_::_::_::_::(E++D)) from⟨zL,zJ,zH,V,N,zO,zQ⟩),?_⟩;unfold Xf;rw[ja J ze oM (by rw[za,tr (fun h=>zu h.1)])];exact⟨vt,vl,rfl,A.mono fun p l=>by simp[l],K.mono fun p l=>by simp[l]⟩
   obtain rfl:g=101:=by omega
   have:=Bi (yt oM);omega
  have hb:(Zc c (ai c d ne g).2.1 (ai c d ne g).2.2 !=0)=true:=by simpa using he
  refine ko (aN @ap @hb) ?_;refine ky @ap ?_;refine Ow.build (.agg #[Vj, Vj]) rfl kR ?_;refine ko @ap ?_;refine ky @ap ?_;refine⟨_,(ke @ap),?_⟩;exact⟨Ext.Vt ⟨zA,V,N,O.mono oM⟩,Xf.no (l4 (by rw[J,tr (fun h=>he h.1)]))⟩
end Go.Proofs
end
section
open Go Go.Proofs Go.Sx Go.StP Go.RefP
namespace Go.Proofs
def Ib(b o:Nat)(x y:hU):cL (bP prog 62) (ac prog 62) [(0,vp b o),(1,.agg #[x,y])]=some (.agg #[vp b o,x,y,vi 0]):=by rw[show bP prog 62=some [(0,1),(1,2),(3,1)] from id kR,show ac prog 62=some (.agg #[.pointer none, Vj, Vj,vi 0]) from id kR];have h:(vp b o).cells=#[vp b o]:=rfl;simp[cL,Sx.YR,h,ag,cU]
def qi6(a:Nat)(R:Option Xh×Nat×h8)(N:Nat)(v:hU)(D:aA):Prop:=
 match R.1 with
 |none=>v=.tuple #[.pointer none,vi (R.2.1:Nat)]/\ ∃C,C.bd=a/\XT D C R.2.2/\ZH R.2.2 N
 |some B=> ∃b,v=.tuple #[vp b 0,vi 0]/\RoP b a R.2.2 N B D
def AZ:WZ []:=fun g a=>Vx a (Yy g)
def qw{X Y:aA}{C:Yd}{S:h8}(h:XT X C S):XT (X++Y) C S:=h.mono fun _ _ a=>a_ a
def vY{X Y:aA}{C:Yd}{S:h8}(h:XT X C S)(b:(keys X).Nodup)(a:X.Perm Y):XT Y C S:=h.mono fun _ _ c=>gE (((a.map Prod.fst).nodup_iff).1 b) (a.mem_iff.1 (bU c))
structure CnG where
 s:No
 e:Nat
 S:h8
 C:Yd
 X:aA
def rk(X:aA)(C:Yd)(S:h8)(N:Nat)(w:hW)(hX:∀p,p∈X->w.heap[p.1]? =some p.2)(hn:(keys X).Nodup)(d:XT X C S)(a:ZH S N)(hN:N<500000)(hs:(bX S aJ aK).1.length<1000000):
  Va prog 9 #[vp C.bd 0] w (XS w X (qi6 C.bd (g6 S) (N+41))):=by
 have f:=Ext.refl w X;refine Va.Vs func9 rfl (rs:=[.tmp 2,.tmp 3]) results9 ntmps9 hX hn ?_;refine kf ?_;refine kz [1000002,1000010] @bH ?_;refine Ow.Vc rfl call42 (fun b m=>sB b C S aJ aK (d.qf3 m (fun p u=>u)) a.ok (a.B.b oM) WT) ?_;refine ko @bH ?_;refine Cw.ZO (G:=CnG) [4,5,17,18,19,20,21,22,23] (fun g=>[(4,vs g.s),(5,vi (g.e:Nat))]) (fun g=>g.X) (fun g=>Ext w X g.X/\g.C.bd=C.bd/\XT g.X g.C g.S/\ZH g.S (N+20)/\ck S=(g.s,g.e,g.S)/\g.s.length<1000000) ?_ ?_
 .by_cases P:(bX S aJ aK).2=6
  .have e6:(((bX S aJ aK).2:Nat):Int)=6:=by rw[P];rfl
   have Q:((((bX S aJ aK).2:Nat):Int)==6)=true:=by rw[e6];rfl
   refine ky (aN @bH @Q) ?_;refine Ow.build (.agg #[Vj, Vj]) rfl tW ?_;refine ko @bH ?_;refine Ow.Vc rfl call43 (fun b m=>Uy Vj Vj [] [] b (Xz.nil b) (Xz.nil b) WT WT AZ AZ) ?_;refine ko @bH ?_;refine ky @bH ?_;refine Ow.Wa (X:=X) (Y:=[]) (VX _).symm rfl rfl call44 (fun b m v y=>DL X C S N aJ aK (bL [] []) b v y d a oM WT (by have:=pf;omega)) (fun v1 D1 zm zn=>?_);rw[VX];obtain⟨rfl,k,zo,zq,zr⟩:=zn;refine ko @bH ?_;exact WY.mk ⟨bL [] [],(bM S aJ aK (bL [] []) false).1,(bM S aJ aK (bL [] []) false).2,k,D1⟩ ⟨f.Xt zm,zo,zq,zr,by unfold ck;rw[Vb P],by have:=pf;show(bL [] []).length<_;omega⟩ rfl rfl
  have Q:((((bX S aJ aK).2:Nat):Int)==6)=false:=WN.2 oM;refine ky (aN @bH @Q) ?_;exact WY.mk ⟨(bX S aJ aK).1,(bX S aJ aK).2,S,C,X⟩ ⟨f,rfl,d,a.mono oM,by unfold ck;rw[tr P],hs⟩ rfl rfl
 intro g j z;refine kv ?_;clear hX hn a f d;obtain⟨s,e,S1,k,A⟩:=g;simp only at z |-;obtain⟨f,B,d,a,zt,zu⟩:=z;rw[<-B];clear B;have J:=fq e;unfold g6;rw[zt];simp only;by_cases l:e=0
 .rw[tr (by simpa using l)];rw[aW (by simpa using l)] at J;refine kz [1000010] (aN @bH @J) ?_;refine Ow.Wf rfl rfl call45 (fun b m=>GN s b zu) (fun B2 v2 D2 zJ zv zw D=>?_);have zf:=zw.mono zv;unfold Xf at D;cases hr:fm s with
  |none=>rw[hr] at D;subst D;refine ko @bH ?_;refine Ow.alloc rfl rfl Y7 fun b6 F R=>?_;simp only[ag,Vy,Wp];have T:=fun o=>fX (o:=o) F;have U:=fun o x=>nA (o:=o) (x:=x) F;have V:=kb Vj Vj Vj Vj 59 rfl rfl;refine ko (qS3 @bH @T @U @V @dq) ?_;refine kz [1000010] (aN @bH @Bool.not_false) ?_;refine⟨_,(ke @bH),?_⟩;exact⟨(eX (eX f zf) ⟨R,trivial⟩),rfl,k,rfl,qw (qw d),a.mono oM⟩
  |some p=>
   obtain⟨tb,log,at_⟩:=p;rw[hr] at D;obtain⟨vt,vl,rfl,zg,zh⟩:=D;refine ko @bH ?_;refine Ow.alloc rfl rfl Y7 fun b6 F R=>?_;simp only[ag,Vy,Wp];have T:=fun o=>fX (o:=o) F;have U:=fun o x=>nA (o:=o) (x:=x) F;have V:=kb Vj Vj vt vl 59 (d9 zg).1 (d9 zh).1;refine ko (qS3 @bH @T @U @V @dq) ?_;refine kz [1000010] (aN @bH @Bool.not_true) ?_;have zx:Vq w.heap.size (D2++[(b6,iU vt vl)]):=zf.app ⟨R,trivial⟩;refine Cw.Vd (M:=A++(D2++[(b6, iU vt vl)])) XJ ?_;have W:Ext w X (A++(D2++[(b6,iU vt vl)])):=eX f zx;refine Cw.ZO (G:=CnG) [9,35,36,37,38,39,40,41,42,43,44,45,46] (fun g=>[]) (fun g=>g.X++(D2++[(b6, iU vt vl)])) (fun g=>Ext w X (g.X++(D2++[(b6,iU vt vl)]))/\g.C.bd=k.bd/\XT g.X g.C g.S/\ZH g.S (N+40)/\(if at_<s.length then bM S1 aJ aK (s.take at_) false else(0,S1))=(0,g.S)) ?_ ?_
   .by_cases Z:at_<s.length
    .have dat:decide ((at_:Int)< (s.length:Int))=true:=aP oM;have zK:(s.take at_).length<1000000:=by rw[W3];omega
     refine ky (aN @bH @dat) ?_;refine Ow.Wa (X:=A) (Y:=D2++[(b6, iU vt vl)]) rfl rfl rfl call44 (fun b m v y=>DL A k S1 (N+20) aJ aK (s.take at_) b v y d a oM WT oM) (fun v7 D7 zy zi=>?_);obtain⟨n,K⟩:∃n,n=bM S1 aJ aK (s.take at_) false:=⟨_,rfl⟩;rw[<-K] at zi;have l:n.1≠0->qe0 S1 s (tb,log,at_)=(none,n):=fun q=>by unfold qe0;simp only[Vb Z];rw[<-K,Vb q]
     have hJ:(if at_<s.length then bM S1 aJ aK (s.take at_) false else(0,S1))=n:=by rw[Vb Z,K]
     clear K;obtain⟨qe,qs⟩:=n;obtain⟨rfl,C7,zj,za,zb⟩:=zi;simp only at l zb za |-;have zk:=W.X1 zy;have r:=fq qe;by_cases q:qe=0
     .rw[aW (by simpa using q)] at r;refine ko (aN @bH @r) ?_;refine ky (aN @bH @r) ?_;exact WY.mk ⟨[],0,qs,C7,D7⟩ ⟨zk,zj,za,zb,by rw[hJ,q]⟩ rfl rfl
     rw[aP q] at r;refine ko (aN @bH @r) ?_;refine ky (aN @bH @r) ?_;refine⟨_,(ke @bH),?_⟩;refine⟨zk,?_⟩;rw[l q];exact⟨rfl,C7,zj,qw za,zb.mono oM⟩
    have dat:decide ((at_:Int)< (s.length:Int))=false:=aW oM;refine ky (aN @bH @dat) ?_;exact WY.mk ⟨[],0,S1,k,A⟩ ⟨W,rfl,d,a.mono oM,by rw[tr Z]⟩ rfl rfl
   intro g j z;refine kv ?_;clear f W a d;obtain⟨s3,e3,c,h,t⟩:=g;simp only at z |-;obtain⟨f,B,d,a,hq⟩:=z;rw[<-B];clear B;have zz:qe0 S1 s (tb,log,at_)=if(az c aJ aK).2≠0 then(none,(az c aJ aK).2,(az c aJ aK).1) else(some ⟨tb,log,log.length⟩,0,(az c aJ aK).1):=by unfold qe0;simp only[hq];rw[tr V_]
   rw[zz];refine Cw.world fun wz H=>?_;have r6:aG w (t++(D2++[(b6,iU vt vl)])) b6=some (iU vt vl):=aO (gE H.nodup V_);clear H wz;refine ky (aN @bH @r6) ?_;refine Ow.build (.agg #[vp h.bd 0,vt,vl,vi 0]) rfl (Ib h.bd 0 vt vl) ?_;refine ko @bH ?_;refine Ow.box rfl rfl fun i zL zA=>?_;simp only[dS,cz,dL,ag];refine Ow.Vd (M:=(i, Vv (vp h.bd 0) vt vl (vi 0))::(t++(D2++[(b6, iU vt vl)]))) XJ ?_;have zB:Ext w X ((i, Vv (vp h.bd 0) vt vl (vi 0))::(t++(D2++[(b6, iU vt vl)]))):=(eX f (E:=[(i,Vv (vp h.bd 0) vt vl (vi 0))]) ⟨zA,trivial⟩).perm XJ;have zC:RoP i h.bd c (N+40) ⟨tb,log,0⟩ ((i, Vv (vp h.bd 0) vt vl (vi 0))::(t++(D2++[(b6, iU vt vl)]))):=⟨h,vt,vl,t,D2++[(b6, iU vt vl)],rfl,⟨WW _,d,a,(lP zg).mono fun p u=>aq _ u,(lP zh).mono fun p u=>aq _ u⟩⟩;generalize (i,Vv (vp h.bd 0) vt vl (vi 0))::(t++(D2++[(b6, iU vt vl)]))=L0 at*;refine ko @bH ?_;refine ky @bH ?_;refine Ow.Wa (X:=L0) (Y:=[]) (VX _).symm rfl rfl call17 (fun b m v y=>US i h.bd c (N+40) ⟨tb,log,0⟩ L0 b v y zC oM) (fun v5 D5 zD L=>?_);rw[VX];have zl:=zB.Xt zD;by_cases I:(az c aJ aK).2=0
   .have zc:cw c ⟨tb,log,0⟩=(0,(az c aJ aK).1,⟨tb,log,log.length⟩):=by
     unfold cw;rw[tr (by simpa using I)]
    rw[zc] at L;obtain⟨rfl,zd⟩:=L;rw[tr (by simpa using I)];have e0:(((0:Nat):Int) !=0)=false:=rfl;refine ko (aN @bH @e0) ?_;refine ky (aN @bH @e0) ?_;refine⟨_,(ke @bH),?_⟩;exact⟨zl,i,rfl,zd⟩
   have zc:cw c ⟨tb,log,0⟩=((az c aJ aK).2,(az c aJ aK).1,⟨tb,log,0⟩):=by unfold cw;rw[Vb I]
   rw[zc] at L;obtain⟨rfl,zd⟩:=L;rw[Vb I];refine Ow.world fun wz H=>?_;have zE:=H.nodup;clear H wz;have ze:=fq (az c aJ aK).2;rw[aP I] at ze;refine ko (aN @bH @ze) ?_;refine ky (aN @bH @ze) ?_;refine⟨_,(ke @bH),?_⟩;refine⟨zl,rfl,?_⟩;obtain⟨C5,zF,zG,zH,K5,zI,O⟩:=zd;exact⟨C5,zI,vY (X:=zH++((i, Vv (vp C5.bd 0) zF zG (vi ((0:Nat):Nat)))::K5)) (qw O.D) ((((O.perm.trans XJ).map Prod.fst).nodup_iff).1 zE) ((O.perm.trans XJ).symm),O.A⟩
 rw[Vb l];rw[aP l] at J;refine kz [1000010] (aN @bH @J) ?_;refine⟨_,(ke @bH),?_⟩;exact⟨f,rfl,k,rfl,d,a.mono oM⟩
def Xb.le{M a:Nat}{S:h8}(h:Xb M S)(b:M<=a):Xb a S:=fun n=>Xq (h n) b
def Na{M:Nat}{S:h8}{s:No}(h:Xb M S)(b:s.length<=1000):Xb (M+1000) (bD S aJ aK s).1:=by
 have a:=h.le (Nat.le_add_right M 1000);unfold bD
 split
 .exact a
 split
 .exact a
 rename_i m c
 split
 .exact a
 split
 .exact iH a
 refine qu (iH a) ?_;show((aC S m).data++s).length<=_;rw[VV];have:=h m;omega
def BkR.of{B:Xh}(h:am B.t B.l=true):BkR B:=by
 obtain⟨b,c,d,e,-⟩:=HY h;refine⟨b,c,fun g a=>?_,fun g a=>?_⟩
 .have:=d g a;omega
 have:=BR (e g a);omega
def LC{S:h8}{B:Xh}(nm:No)(o i:Xl)(h:am B.t B.l=true):am (eC S B nm o i).2.2.t (eC S B nm o i).2.2.l=true:=by
 unfold eC
 split
 .exact h
 split
 .exact h
 split
 .exact h
 rename_i a
 split
 .exact h
 simpa using a
def KG{S:h8}{B:Xh}(h:am B.t B.l=true):am (cw S B).2.2.t (cw S B).2.2.l=true:=by
 unfold cw
 split<;>exact h
def KX{S:h8}{B:Xh}(Vn:Int)(h:am B.t B.l=true):am (fJ S B Vn).2.2.t (fJ S B Vn).2.2.l=true:=by
 obtain⟨ls,a,b,-,-⟩:=CV h Vn (BkR.of h).n0;unfold fJ;rw[Vb h,a];simp only
 split
 .exact h
 exact b
def NR{S:h8}{B:Xh}(nm:No)(o i:Xl):(eC S B nm o i).2.1=S\/(bG nm=true/\(eC S B nm o i).2.1=(bD S aJ aK (bh (bq ⟨nm,i⟩))).1):=by
 unfold eC
 split
 .exact .inl rfl
 split
 .exact .inl rfl
 rename_i a
 split
 .exact .inl rfl
 split<;>exact .inr ⟨(Classical.not_not.1 a).2,rfl⟩
def Mb(S:h8)(B:Xh):(cw S B).2.1=(az S aJ aK).1:=by
 unfold cw
 split<;>rfl
def M0{S:h8}{B:Xh}(Vn:Int)(h:am B.t B.l=true):∃data:No,data.length<=150000/\(fJ S B Vn).2.1=(bM S aJ aK data false).2:=by
 obtain⟨ls,b,d,a,c⟩:=CV h Vn (BkR.of h).n0;refine⟨bL ls (B.l.drop (cE B.l.length Vn)),pO a.tl a.ll a.t a.l,?_⟩;unfold fJ;rw[Vb h,b];simp only;rw[c]
 split<;>rfl
structure WlS(M:Nat)(S:h8):Prop where
 wel:Yj S
 len:Xb M S
theorem WlS.le{M a:Nat}{S:h8}(h:WlS M S)(b:M<=a):WlS a S:=⟨h.wel,h.len.le b⟩
def WlS.upd{M:Nat}{S:h8}(h:WlS M S)(B:Xh)(nm:No)(o i:Xl):WlS (M+1000) (eC S B nm o i).2.1:=by
 rcases NR (S:=S) (B:=B) nm o i with e| ⟨a,e⟩
 .rw[e];exact h.le (Nat.le_add_right _ _)
 rw[e];have:=EP (r:=⟨nm,i⟩) a;exact⟨h.wel.step (kO S aJ aK _),Na h.len oM⟩
theorem WlS.sync{M:Nat}{S:h8}(h:WlS M S)(B:Xh):WlS M (cw S B).2.1:=by rw[Mb];exact⟨h.wel.sync aJ aK,C6 h.len _ _⟩
def WlS.trim{M:Nat}{S:h8}(h:WlS M S)(a:150000<=M){B:Xh}(b:am B.t B.l=true)(Vn:Int):WlS M (fJ S B Vn).2.1:=by obtain⟨data,c,e⟩:=M0 (S:=S) Vn b;rw[e];exact⟨h.wel.pub aJ aK data false,lF h.wel.qa4 h.len aJ aK (Xq c a) false⟩
theorem WlS.open{M:Nat}{S:h8}(h:WlS M S)(a:150000<=M):WlS M (g6 S).2.2:=⟨h.wel.open,PO h.wel h.len oM⟩
theorem WlS.qo9{M:Nat}{S:h8}(h:WlS M S){pl:List UInt16}(ok:XK (du S pl)):WlS M (du S pl):=⟨h.wel.qo9 ok,MM h.len pl⟩
theorem WlS.Wv{M:Nat}{S:h8}(h:WlS M S){n:Int}{b:Bool}(ok:XK {S with Wv:=n,fused:=b}):WlS M {S with Wv:=n,fused:=b}:=⟨h.wel.Wv ok,pP h.len rfl⟩
def WlS.read{M:Nat}{S:h8}(h:WlS M S):(bX S aJ aK).1.length<=M:=vE h.len _ _
abbrev qF2(w:hW)(v:hU)(l:List Z0):Prop:=Xz 37 Zp at0 w v l
def BoP.app{c bd:Nat}{S:h8}{N:Nat}{B:Xh}{X Y:aA}(h:BoP c bd S N B X):BoP c bd S N B (X++Y):=by obtain⟨G,vt,vl,D,K,d,a⟩:=h;exact⟨G,vt,vl,D,K++Y,d,⟨(a.perm.append_right Y).trans XJ,a.D,a.t.mono fun p b=>aq _ b,a.l.mono fun p b=>aq _ b⟩⟩
theorem BoP.le{b bd:Nat}{S:h8}{N M:Nat}{B:Xh}{X:aA}(h:BoP b bd S N B X)(c:N<=M):BoP b bd S M B X:=by obtain⟨G,vt,vl,D,K,d,a⟩:=h;exact⟨G,vt,vl,D,K,d,⟨a.perm,a.D.le c,a.t,a.l⟩⟩
def T6(a:Int):aM .rem (vi a) (vi 5)=some (vi (a.tmod 5)):=by
 unfold vi aM
 rfl
end Go.Proofs
end
namespace Go.Sx
open Go Go.ChangeShapes Go.WideShapes Go.RowKit
def Hp.qk8{W a:hW}(h:Hp W [] a){b:Nat}(c:b<W.heap.size):a.heap[b]? =W.heap[b]? :=h.Wo b c (fun d=>by cases d)
def Hp.kept{W a:hW}(h:Hp W [] a)(b:MemPlace->Prop):W.keptBut a b:=by
 refine⟨h.os,h.output,fun i c=>?_⟩;rw[h.qk8 c];cases d:W.heap[i]? with
 |none=>rfl
 |some o=>
  cases o<;>first
   |exact⟨rfl,rfl,rfl,fun _ _=>rfl⟩
   |exact .inr ⟨rfl,rfl⟩
   |rfl
theorem Hp.sameAt{W a:hW}(h:Hp W [] a){p:MemPlace}(c:p.block<W.heap.size):W.sameAt a p:=by
 cases p with
 |cell b off=>have:=h.qk8 (b:=b) c;simp only[World.sameAt,World.cell?,this]
 |map b=>exact h.qk8 c
theorem Hp.frozen{W b:hW}(h:Hp W [] b){a:Addr}(c:a.block<W.heap.size):b.frozen? a=W.frozen? a:=by simp only[World.frozen?,h.qk8 c]
section
variable {H:Type} {enc:h7×hU->H} {P:h_}
theorem Us(c:laidOutB P=true){W e:hW}{sp:Nat->Bool}(f:Hp W [] e):∀ {ts:List h7} {vs:List hU} {b:List (DataW H)} {ps:List MemPlace},
  (∀t∈ts,P.readableRec t=true/\t<P.types.size)->(∀p∈ps,p.block<W.heap.size)->(∀p∈ps,sp p.block=true)->
  DataW.TrodAll enc P W 0 (fun _=>true) true ts vs b ps->DataW.TrodAll enc P e 0 sp true ts vs b ps
 | [],_,_,_,_,_,_,h=>by obtain⟨rfl,rfl,rfl⟩:=trodAll_nil h;exact trodAll_mk0
 |t::ts,_,_,_,ht,V1,hs,h=>by
  obtain⟨v,vs,d,b,p,m,rfl,rfl,rfl,g,i⟩:=trodAll_cons h;have j:∀x∈p,x.block<W.heap.size:=fun x a=>V1 x (aq _ a);exact trodAll_cons_mk (WideElems.Trod_stays c (ht t aX).1 (ht t aX).2 g (fun x a=>f.sameAt (j x a)) (fun x a=>hs x (aq _ a)))
   (Us c f (fun k l=>ht k (ah _ l)) (fun x a=>V1 x (cJ _ a)) (fun x a=>hs x (cJ _ a)) i)
def Li{f:Func}{s:ChangeSpec}{W c:hW}{g:Array hU}{a A:List (DataW H)}{B:List MemPlace}{tb:h7}(C:laidOutB P=true)
  (i:DataW.Whole enc P f.params.toList s.vars false W g.toList a A B) (l:s.vars=[]) (D:∀t∈f.params.toList,P.readableRec t=true/\t<P.types.size)
  (m:f.resultTypes=#[tb]) (n:P.underlying tb=some .bool) (j:s.fn H a={results:=[.lit (.bool true)],args:=a}) (k:Hp W [] c):
  s.post enc P f false true false false W g (.bool true) c:=by
 have e:=i.lt;have o:=i;obtain⟨p,I,E,q,rfl,r,J⟩:=i;rw[l] at q;obtain⟨rfl,rfl⟩:=trodVars_none q;rw[VX] at o e r;have u:∀sp:Nat->Bool,(∀x∈p,sp x.block=true)->DataW.TrodAll enc P c 0 sp true f.params.toList g.toList (s.fn H (a++[])).args p:=fun sp F=>by rw[VX,j];exact Us C k D e F E
 have v:∀sp:Nat->Bool,DataW.TrodVars enc P c sp s.vars (s.fn H (a++[])).vars []:=fun sp=>by rw[VX,j,l];rfl
 have w:∀ (b:Nat) (sp:Nat->Bool) (y:Bool),DataW.TrodAll enc P c b sp y f.resultTypes.toList ((Value.bool true).resultList f.resultTypes.size) (s.fn H (a++[])).results []:=fun b sp y=>by rw[VX,j,m];exact trodAll_cons_mk (shut_bool n true) trodAll_mk0
 have G:∀x∈p,(fun b=>decide (b<W.heap.size)) x.block=true:=fun x d=>by simpa using e x d
 refine⟨a,[],p,[],p,[],o,w _ _ _,u _ G,v _,k.kept _,fun _=>?_⟩;refine⟨ok_one m rfl (okWide_bool_mk n true),_,_,([]++p)++[],⟨[]++p,[],trodAll_append (u _ (fun _ _=>rfl)) (w _ _ _),v _,rfl,?_,fun h=>by cases h⟩,?_⟩
 .intro b off d;have z:MemPlace.cell b off∈p:=by simpa using d
  rw[k.frozen (e _ z)];exact r b off z
 intro x d _;simpa using d
end
section
variable {P:h_} {W:hW} {name:String} {k:IntKind} {zs:List Int}
theorem Ug{t e:h7}{g n:Nat}(b:P.globalNamed name=some g)(c:(P.globals[g]?).map (·.type)=some t)(d:P.underlying t=some (.array n e))(f:P.underlying e=some (.int k))(i:P.cellsOf e=1)(j:P.cellsOf t=n):
  ∀ {l:List (String×DataW Unit)} {ps:List MemPlace},DataW.LaidVars P W l ps->(name,Lib.tabData k zs)∈l->Lib.TabIs P W name k zs
 | [],_,_,a=>by cases a
 | (n',d')::rest,ps,h,a=>by
  obtain⟨u,v,w,fuel,p,x,m,o,q,r,s,-⟩:=h;rcases Vw.1 a with a|a
  .cases a;obtain rfl:=XD (b.symm.trans m);obtain rfl:=XD (c.symm.trans o);unfold Lib.TabIs;rw[q,<-Lib.cells_of_tab d f i j r]
  exact Ug b c d f i j s a
def HA{g:Nat}(a:P.globalNamed name=some g)(h:Lib.TabIs P W name k zs):∃e f,W.heap[g]? =some (.cells (zs.map fun z=>Value.int k z).toArray e f):=by
 unfold Lib.TabIs at h;simp only[World.var?,a,Yn] at h
 split at h
 .rename_i c e f b;cases h;exact⟨e,f,b⟩
 cases h
end
section
variable {H:Type} {enc:h7×hU->H} {P:h_}
end
end Go.Sx
namespace Go.Sx
open Go
section
variable {P:h_}
def O4{c:h7->Bool}{d:Nat}{e:h7}{a off n:Nat}(h:rowAt P c d e a off n=true):off<=a*P.cellsOf e:=by
 cases d with
 |zero=>simp[rowAt] at h
 |succ d=>
  unfold rowAt at h;simp only at h
  split at h
  .cases h
  rename_i f;have g:0<P.cellsOf e:=Nat.pos_of_ne_zero f;have b:=Nat.div_add_mod off (P.cellsOf e);have i:=Nat.mod_lt off g;rw[Bool.or_eq_true] at h;rcases h with h|h
  .simp only[WK,W8,XN] at h;have:off / P.cellsOf e*P.cellsOf e<=a*P.cellsOf e:=Y0 _ oM;rw[Nat.mul_comm (P.cellsOf e)] at b;omega
  simp only[WK,XN] at h;have:(off / P.cellsOf e+1)*P.cellsOf e<=a*P.cellsOf e:=Y0 _ oM;rw[Nat.add_mul,Nat.one_mul] at this;rw[Nat.mul_comm (P.cellsOf e)] at b;omega
theorem uF{e:h7}{b off:Nat}:∀ {d:Nat} {a:h7} {n:Nat},liesAt P d e b off a n=true->off<=b*P.cellsOf e
 |0,a,n,h=>by simp[liesAt] at h
 |d+1,a,n,h=>by
  unfold liesAt at h;rw[Bool.or_eq_true] at h;rcases h with h|h
  .exact O4 h
  split at h
  .exact uF h
  cases h
def Sn{W:hW}{r:Reach}{base:Nat}{a:Addr}{e:h7}{n:Nat}(h:W.has P r base a e n):a.spot=none/\ ∃arr E fz,W.heap[a.block]? =some (.cells arr E fz)/\a.off<=arr.size:=by
 obtain⟨-,d,row,cells,b,f⟩:=h;refine⟨d,?_⟩;unfold World.shape? at b
 split at b
 .rename_i c i fz g;cases b;refine⟨c,_,fz,g,Xq (uF f) ?_⟩;exact Nat.div_mul_le_self _ _
 cases b
def Lu{W:hW}{r:Reach}{base:Nat}{t e:h7}{v:hU}(c:P.underlying t=some (.slice e))(h:Value.okWide P W r base t v):
  v= Vj\/ ∃b off len d arr E fz,v=Xr b off len d/\len<=d/\W.heap[b]? =some (.cells arr E fz)/\off<=arr.size:=by
 obtain⟨a,len,d,rfl⟩:=Go.WideShapes.okWide_slice c h;unfold Value.okWide at h;rw[c] at h;unfold Cell.okWide at h;rw[c] at h;simp only at h;unfold Cell.ok at h;rw[c] at h;cases a with
 |none=>
  left
  simp only at h
  split at h
  all_goals first| (cases h;done) |simp_all
 |some a=>
  right
  simp only at h;obtain⟨g,-,i⟩:=h;obtain⟨f,arr,E,fz,j,k⟩:=Sn i;obtain⟨b,off,sp⟩:=a;simp only at f;subst f;exact⟨b,off,len,d,arr,E,fz,rfl,g,j,k⟩
def AL{α:Type}{enc:α->List hU}{z:α}{m:Nat}{W:hW}{base b off c:Nat}{l:List α}{arr:Array hU}{E:h7}{fz:Nat×Nat}(p:0<m)(e:∀x,(enc x).length=m)
  (f:∀i,i<l.length->W.cells? base ((Addr.mk b off none).add (i*m)) m=some (enc (l.getD i z))) (a:W.heap[b]? =some (.cells arr E fz)) (q:off<=arr.size) (g:l.length<=c):Xz m enc z W (Xr b off l.length c) l:=by
 have get:∀k,k<l.length-> ∀j,j<m->arr[off+k*m+j]? =(enc (l.getD k z))[j]? :=by intro k h j r;obtain⟨-,s,n⟩:=World.cells?_some (f k h);have:=n j oM;rw[ic,ic] at this;simp only[World.cell?,a,Option.isSome_none,VW,if_false] at this;exact this
 refine Xz.sl a get g ?_;by_cases o:l.length=0
 .rw[o];omega
 have d:=get (l.length - 1) oM (m - 1) oM;rw[List.getElem?_eq_getElem (by rw[e];omega)] at d;have t:=(Array.getElem?_eq_some_iff.1 d).1;have u:(l.length - 1)*m+m=l.length*m:=by rw[<-Nat.succ_mul];congr 1;omega
 omega
end
end Go.Sx
section
open Go Go.Proofs Go.Sx Go.StP Go.Flo
open Go.ChangeShapes Go.WideShapes Go.ChangeAt Go.RowKit Go.ChangeMaps
namespace Go.Proofs
def vx{H:Type}{s:h7×hU->H}{α:Type}{enc:α->List hU}{z:α}{m:Nat}{W:hW}{r:Reach}{base K:Nat}{sp:Nat->Bool}{u:Bool}{fuel:Nat}{t e:h7}{v:hU}{x:DataW H×List MemPlace}{R:α->DataW H->Prop}
  (w:(prog).underlying t=some (.slice e)) (L:(prog).cellsOf e=m) (M:0<m) (N:∀x,(enc x).length=m) (O:Value.okWide prog W r K t v)
  (P:∀n q y,DataW.trod s prog W base sp u n e q=some y-> ∃a,q=enc a/\R a y.1) (Q:DataW.trod s prog W base sp u fuel t [v]=some x):
  ∃l,Xz m enc z W v l/\(l=[]\/ ∃A S,x.1=.slice A S/\ ∀i,i<l.length-> ∃d,d∈A/\R (l.getD i z) d):=by
 rcases DataW.trod_slice w Q with⟨j,-⟩ | ⟨a,len,T,B,rest,n,-,j,U,-,V,-,za,C,-,-⟩
 .simp only[List.cons.injEq,and_true] at j;subst j;exact⟨[],Xz.nil W,.inl rfl⟩
 simp only[List.cons.injEq,and_true] at j;subst j;rcases Lu w O with X| ⟨b,off,zb,zc,arr,E,fz,D,-,Y,Z⟩
 .cases X
 unfold Xr at D;cases D;rw[L] at C;have F:∀i,i<len-> ∃o,W.cells? base ((Addr.mk b off none).add (i*m)) m=some (enc o)/\ ∃d,d∈B.map (·.1)/\R o d:=by
  intro i g;have k:=C i g;rw[List.getElem?_eq_getElem oM] at k;cases G:W.cells? base ((Addr.mk b off none).add (i*m)) m with
  |none=>rw[G] at k;cases k
  |some q=>rw[G] at k;obtain⟨o,rfl,hR⟩:=P _ _ _ k;exact⟨o,rfl,_,List.mem_map_of_mem (Y3 oM),hR⟩
 obtain⟨f,I⟩:∃f:Nat->α,∀i,i<len->W.cells? base ((Addr.mk b off none).add (i*m)) m=some (enc (f i))/\ ∃d,d∈B.map (·.1)/\R (f i) d:=by
  classical
  refine⟨fun i=>if h:i<len then Classical.choose (F i h) else z,fun i g=>?_⟩;simp only[dif_pos g];exact Classical.choose_spec (F i g)
 have p:((List.range len).map f).length=len:=by simp
 have J:∀i,i<len->((List.range len).map f).getD i z=f i:=fun i g=>by rw[List.getD_eq_getElem?_getD,List.getElem?_map,List.getElem?_range g];rfl
 refine⟨(List.range len).map f,?_,.inr ⟨_,_,by rw[U],fun i g=>?_⟩⟩
 .have:=AL (W:=W) (base:=base) (b:=b) (off:=off) (c:=T) (l:=(List.range len).map f) (z:=z) M N (fun i g=>by
   rw[p] at g;rw[(I i g).1,J i g]) Y Z (by rw[p];exact V)
  rw[p] at this;exact this
 rw[p] at g;rw[J i g];exact(I i g).2
def Rp{H:Type}{f:h7×hU->H}{W:hW}{base:Nat}{sp:Nat->Bool}{g:Bool}(n:Nat)(cs:List hU)(y:DataW H×List MemPlace)
  (h:DataW.trod f prog W base sp g n 67 cs=some y):∃a:XU,cs=XI a/\y.1=.agg [.lit (.string a.dir),.lit (.string a.name),.lit (.string a.data)]:=by
 obtain⟨v,w,z,A,i,j,b,c,d⟩:=Deep.trod_struct3 underlying67 h;have k:(prog).cellsOf 67=3:=by kernel_rfl
 have e:(prog).cellsOf 9=1:=by kernel_rfl
 simp only at b c d;rw[e,YM] at b;rw[e] at c d;rw[k] at j;obtain⟨s,l,m,-⟩:=DataW.trod_string underlying9 b;obtain⟨o,p,q,-⟩:=DataW.trod_string underlying9 c;obtain⟨x,r,t,-⟩:=DataW.trod_string underlying9 d;refine⟨⟨s.data.toList,o.data.toList,x.data.toList⟩,?_,by rw[i,m,q,t]⟩;have u:cs=cs.take 1++((cs.drop 1).take 1++(cs.drop 2).take 1):=by rw[show(cs.drop 2).take 1=cs.drop 2 from Yo (by rw[XC];omega),show cs.drop 2=(cs.drop 1).drop 1 by rw[List.drop_drop],Y1,Y1]
 rw[u,l,p,r]
 rfl
def Hu{H:Type}{enc:h7×hU->H}{W:hW}{r:Reach}{f base:Nat}{sp:Nat->Bool}{g:Bool}{v:hU}{d:DataW H}{p:List MemPlace}
  (b:Value.okWide prog W r f 22 v) (h:DataW.Trod enc prog W base sp g 22 v d p):
  ∃l,qg4 W v l/\(l=[]\/ ∃c j,d=.slice c j/\ ∀i,i<l.length-> ∃e,e∈c/\e=.agg [.lit (.string (l.getD i XH).dir),.lit (.string (l.getD i XH).name),.lit (.string (l.getD i XH).data)]):=by
 obtain⟨m,len,n,rfl⟩:=WideShapes.okWide_slice underlying22 b;obtain⟨o,k⟩:=h;exact vx (z:=XH) (R:=fun a e=>e=.agg [.lit (.string a.dir),.lit (.string a.name),.lit (.string a.data)]) underlying22 kR WT iS b Rp k
def Qu{n:Int}(h:(Lit.int .u16 n).wf=true):∃x:UInt16,Value.int .u16 n=v16 x:=by simp only[Lit.wf,WK,XN] at h;have a:(0:Int)<=n:=h.1;have b:n<=65535:=h.2;refine⟨UInt16.ofNat n.toNat,?_⟩;unfold v16;rw[UInt16.toNat_ofNat',X7 oM,Int.toNat_of_nonneg a]
def TS{H:Type}{w:h7×hU->H}{W:hW}{base:Nat}{sp:Nat->Bool}{x:Bool}{n:Nat}{cs:List hU}{y:DataW H×List MemPlace}
  (h:DataW.trod w prog W base sp x n 39 cs=some y):∃p:PkL,cs=[p.v]/\PkS W p.v p.l:=by
 have A:(prog).cellsOf 125=1:=by kernel_rfl
 rcases DataW.trod_slice underlying39 h with⟨rfl,-⟩ | ⟨a,len,j,P,rest,m,-,rfl,-,-,B,-,Q,r,-,-⟩
 .exact⟨pk0,rfl,.inl (Xz.nil W)⟩
 rw[A] at r;by_cases C:len=0
 .subst C;exact⟨⟨.slice (some a) 0 j,[],rfl,rfl⟩,rfl,.inr ⟨rfl,a,j,rfl⟩⟩
 have s:∀i,i<len-> ∃k:UInt16,W.cells? base (a.add (i*1)) 1=some (qj9 k):=by
  intro i d;have g:=r i d;rw[List.getElem?_eq_getElem oM] at g;cases t:W.cells? base (a.add (i*1)) 1 with
  |none=>rw[t] at g;cases g
  |some cs=>rw[t] at g;obtain⟨z,D,-,F⟩:=DataW.trod_int underlying125 g;obtain⟨k,G⟩:=Qu F;exact⟨k,by rw[D,G];rfl⟩
 obtain⟨f,u⟩:∃f:Nat->UInt16,∀i,i<len->W.cells? base (a.add (i*1)) 1=some (qj9 (f i)):=by
  classical
  refine⟨fun i=>if h:i<len then Classical.choose (s i h) else 0,fun i d=>?_⟩;simp only[dif_pos d];exact Classical.choose_spec (s i d)
 obtain⟨-,-,I⟩:=World.cells?_some (u 0 oM);have J:=I 0 oM;obtain⟨blk,off,o⟩:=a;have e:W.cell? ((Addr.mk blk off o).add (0*1) |>.add 0)=some (v16 (f 0)):=J;unfold World.cell? at e;have K:((Addr.mk blk off o).add (0*1) |>.add 0).block=blk:=rfl;rw[K] at e
 split at e
 .rename_i arr E fz L
  split at e
  .cases e
  rename_i M;have N:o=none:=by
   cases o with
   |none=>rfl
   |some k=>exact Vx rfl M
  subst N;have R:off<arr.size:=(Array.getElem?_eq_some_iff.1 e).1;have q:((List.range len).map f).length=len:=by simp
  have O:∀i,i<len->((List.range len).map f).getD i 0=f i:=fun i d=>by rw[List.getD_eq_getElem?_getD,List.getElem?_map,List.getElem?_range d];rfl
  have v:=AL (W:=W) (base:=base) (b:=blk) (off:=off) (c:=j) (l:=(List.range len).map f) (enc:=qj9) (z:=0) WT P7 (fun i d=>by rw[q] at d;rw[u i d,O i d]) L oM (by rw[q];exact B);rw[q] at v;exact⟨⟨.slice (some ⟨blk,off,none⟩) len j,(List.range len).map f,rfl,rfl⟩,rfl,.inl v⟩
 cases e
end Go.Proofs
end
section
open Go Go.Proofs Go.Sx Go.StP Go.Flo
namespace Go.Proofs
def nW:DataW Unit:=.agg [.lit (.string gZ),.lit (.string gG),.lit (.string aJ)]
def E_{W:hW}{base:Nat}{sp:Nat->Bool}{s:Bool}{fuel:Nat}{cs:List hU}{p:List MemPlace}
  (t:DataW.trod (fun _=>()) prog W base sp s fuel 126 cs=some (nW,p)):cs=[vs gZ,vs gG,vs aJ]:=by
 obtain⟨i,m,-,u,j,v,a⟩:=DataW.trod_array underlying126 t;have w:(prog).cellsOf 126=3:=by kernel_rfl
 have x:(prog).cellsOf 9=1:=by kernel_rfl
 rw[w] at j;rw[x] at a;have b:i.map (·.1)=[.lit (.string gZ),.lit (.string gG),.lit (.string aJ)]:=by have:=Wc Prod.fst u;unfold nW at this;simp only[DataW.agg.injEq] at this;exact this.symm
 have k:=a 0 oM;have l:=a 1 oM;have n:=a 2 oM;rw[List.getElem?_eq_getElem oM] at k l n;obtain⟨s0,o,c,-⟩:=DataW.trod_string underlying9 k;obtain⟨s1,q,d,-⟩:=DataW.trod_string underlying9 l;obtain⟨y,r,e,-⟩:=DataW.trod_string underlying9 n
 match i,v,b,c,d,e with
 | [z,A,B],_,b,c,d,e=>
  simp only[VY,Wr,List.cons.injEq,and_true] at b;simp only[List.getElem_cons_zero,List.getElem_cons_succ] at c d e;obtain⟨f,g,h⟩:=b;rw[c] at f;rw[d] at g;rw[e] at h;simp only[DataW.lit.injEq,Lit.string.injEq] at f g h
  match cs,j with
  | [C,D,E],_=>
   simp only[Nat.zero_mul,YM,List.take_succ_cons,List.take_zero,List.cons.injEq,and_true,Nat.one_mul,List.drop_succ_cons,Nat.reduceMul] at o q r;rw[o,q,r,<-f,<-g,<-h]
   rfl
theorem Tr{W:hW}:∀ {c:List (String×DataW Unit)} {ps:List MemPlace},DataW.LaidVars prog W c ps->("sediment/disk.order",nW)∈c->jT W
 | [],_,_,a=>by cases a
 | (n',d')::rest,ps,h,a=>by
  obtain⟨o,q,r,fuel,p,s,g,i,b,j,k,-⟩:=h;rcases Vw.1 a with a|a
  .cases a;have d:(prog).globalNamed "sediment/disk.order" =some 0:=by kernel_rfl
   have l:((prog).globals[(0:Nat)]?).map (·.type)=some 126:=by kernel_rfl
   obtain rfl:=XD (d.symm.trans g);obtain rfl:=XD (l.symm.trans i);have m:=E_ j;simp only[World.var?,d,Yn] at b
   split at b
   .rename_i t e f n;cases b;refine⟨e,f,?_⟩;rw[n];congr 2;apply Array.ext';rw[m]
   cases b
  exact Tr k a
end Go.Proofs
end
section
open Go Go.Proofs Go.Sx Go.StP Go.RefP
namespace Go.Proofs
theorem qg5.dk{bd:Nat}{R:Option Xh×Nat×h8}{N:Nat}{v:hU}{D:aA}(h:qg5 bd R N v D)(b:(keys D).Nodup):∃G,G.bd=bd/\Yp D G R.2.2 N:=by
 unfold qg5 at h;cases a:R.1 with
 |none=>rw[a] at h;exact h.2
 |some B=>rw[a] at h;obtain⟨d,-,c⟩:=h;exact c.dk b
def J3{S:h8}{B:Xh}(h:(g6 S).1=some B):am B.t B.l=true/\B.n=B.l.length:=by
 unfold g6 at h
 split at h
 .cases h
 split at h
 .cases h
 rename_i p b;have c:=(Lo (t:=p.1) (l:=p.2.1) (a:=p.2.2) b).2.1;unfold qe0 at h;simp only at h;generalize (if p.2.2< (ck S).1.length then bM (ck S).2.2 aJ aK ((ck S).1.take p.2.2) false else(0,(ck S).2.2))=d at h
 split at h
 .cases h
 split at h
 .cases h
 cases h;exact⟨c,rfl⟩
def CH{n:Nat}{X Y:aA}(h:Vq n (X++Y)):Vq n X:=Vq.of_le fun c a=>h.le c (by rw[aV];exact aq _ a)
def Cf{n:Nat}{X Y:aA}(h:Vq n (X++Y)):Vq n Y:=Vq.of_le fun c a=>h.le c (by rw[aV];exact cJ _ a)
def Up(l:List Vk):ii l l=true:=by unfold ii;simp
end Go.Proofs
end
section
open Go Go.Proofs Go.Sx Go.StP
open Go.ChangeShapes Go.WideShapes Go.ChangeAt Go.RowKit Go.ChangeMaps
namespace Go.Proofs
def O8{H:Type}{p:h7×hU->H}{W:hW}{base:Nat}{sp:Nat->Bool}{q:Bool}{n:Nat}{cs:List hU}{y:DataW H×List MemPlace}
  (h:DataW.trod p prog W base sp q n 38 cs=some y):∃i:Xl,cs=i.l.map v8:=by
 obtain⟨w,m,-,-,b,s,d⟩:=DataW.trod_array underlying38 h;have t:(prog).cellsOf 38=32:=by kernel_rfl
 have u:(prog).cellsOf 5=1:=by kernel_rfl
 rw[t] at b;rw[u] at d;have g:∀i (a:i<cs.length),∃x:Vf,cs[i]=v8 x:=by
  intro i a;have j:=d i oM;rw[List.getElem?_eq_getElem oM,Nat.mul_one,qc1 a,List.take_succ_cons,List.take_zero] at j;obtain⟨z,k,-,e⟩:=DataW.trod_int underlying5 j;simp only[List.cons.injEq,and_true] at k;rw[k];simp only[Lit.wf,WK,XN] at e;have A:0<=z:=by simpa [IntKind.min,IntKind.bits,IntKind.signed] using e.1
  have B:z<=255:=by simpa [IntKind.max,IntKind.bits,IntKind.signed] using e.2
  refine⟨UInt8.ofNat z.toNat,?_⟩;unfold v8;rw[UInt8.toNat_ofNat',X7 oM];congr 1;omega
 have f:∃l:No,cs=l.map v8:=by
  clear d b s h
  induction cs with
  |nil=>exact⟨[],rfl⟩
  |cons c r v=>obtain⟨x,o⟩:=g 0 V_;obtain⟨l,f⟩:=v (fun i a=>by have:=g (i+1) (by simpa using a);simpa using this);exact⟨x::l,by rw[f];simp at o;simp[o]⟩
 obtain⟨l,rfl⟩:=f;exact⟨⟨l,by simpa using b⟩,rfl⟩
def RP{H:Type}{c:h7×hU->H}{W:hW}{base:Nat}{sp:Nat->Bool}{e:Bool}(n:Nat)(cs:List hU)(y:DataW H×List MemPlace)
  (h:DataW.trod c prog W base sp e n 41 cs=some y):∃a:Z0,cs=Zp a/\PkS W a.picks.v a.picks.l/\(-9223372036854775808<=a.n/\a.n<9223372036854775808):=by
 obtain⟨f,m,-,-,A,o,g⟩:=DataW.trod_struct underlying41 h;have B:(prog).cellsOf 41=37:=by kernel_rfl
 have q:(prog).cellsOf 3=1:=by kernel_rfl
 have C:(prog).cellsOf 9=1:=by kernel_rfl
 have D:(prog).cellsOf 38=32:=by kernel_rfl
 have E:(prog).cellsOf 4=1:=by kernel_rfl
 have F:(prog).cellsOf 39=1:=by kernel_rfl
 rw[B] at A;have o:f.length=6:=o;have r:DataW.trod c prog W base sp e m 3 ((cs.drop 0).take ((prog).cellsOf 3))=f[0]? :=g 0 _ rfl;rw[q,List.getElem?_eq_getElem oM] at r;have s:DataW.trod c prog W base sp e m 3 ((cs.drop 1).take ((prog).cellsOf 3))=f[1]? :=g 1 _ rfl;rw[q,List.getElem?_eq_getElem oM] at s;have t:DataW.trod c prog W base sp e m 9 ((cs.drop 2).take ((prog).cellsOf 9))=f[2]? :=g 2 _ rfl;rw[C,List.getElem?_eq_getElem oM] at t;have u:DataW.trod c prog W base sp e m 38 ((cs.drop 3).take ((prog).cellsOf 38))=f[3]? :=g 3 _ rfl;rw[D,List.getElem?_eq_getElem oM] at u;have v:DataW.trod c prog W base sp e m 4 ((cs.drop 35).take ((prog).cellsOf 4))=f[4]? :=g 4 _ rfl;rw[E,List.getElem?_eq_getElem oM] at v;have w:DataW.trod c prog W base sp e m 39 ((cs.drop 36).take ((prog).cellsOf 39))=f[5]? :=g 5 _ rfl;rw[F,List.getElem?_eq_getElem oM] at w;obtain⟨k,x,-,-⟩:=DataW.trod_int underlying3 r;obtain⟨i,G,-,j⟩:=DataW.trod_int underlying3 s;obtain⟨I,J,-,-⟩:=DataW.trod_string underlying9 t;obtain⟨d,K⟩:=O8 u;obtain⟨b,L,-⟩:=DataW.trod_bool underlying4 v;obtain⟨p,M,N⟩:=TS w;refine⟨⟨k,i,I.data.toList,d,b,p⟩,?_,N,?_⟩
 .have O:cs=cs.take 1++((cs.drop 1).take 1++((cs.drop 2).take 1++((cs.drop 3).take 32++((cs.drop 35).take 1++(cs.drop 36).take 1)))):=by
   have P:(cs.drop 36).take 1=cs.drop 36:=Yo (by rw[XC];omega);have Q:(cs.drop 35).take 1++cs.drop 36=cs.drop 35:=by rw[show cs.drop 36=(cs.drop 35).drop 1 by rw[List.drop_drop]];exact Y1 _ _
   have R:(cs.drop 3).take 32++cs.drop 35=cs.drop 3:=by rw[show cs.drop 35=(cs.drop 3).drop 32 by rw[List.drop_drop]];exact Y1 _ _
   have z:(cs.drop 2).take 1++cs.drop 3=cs.drop 2:=by rw[show cs.drop 3=(cs.drop 2).drop 1 by rw[List.drop_drop]];exact Y1 _ _
   have l:(cs.drop 1).take 1++cs.drop 2=cs.drop 1:=by rw[show cs.drop 2=(cs.drop 1).drop 1 by rw[List.drop_drop]];exact Y1 _ _
   rw[P,Q,R,z,l,Y1]
  rw[YM] at x;rw[O,x,G,J,K,L,M]
  rfl
 simp only[Lit.wf,WK,XN] at j;have l:(-9223372036854775808:Int)<=i:=by simpa [IntKind.min,IntKind.bits,IntKind.signed] using j.1
 have z:i<=9223372036854775807:=by simpa [IntKind.max,IntKind.bits,IntKind.signed] using j.2
 exact⟨l,by show i<9223372036854775808;omega⟩
theorem PkS.WO{w a:hW}{L:aA}{v:hU}{l:List UInt16}(h:PkS w v l)(b:Hp w L a)(c:Vq w.heap.size L):PkS a v l:=by
 rcases h with h|h
 .exact .inl (Xz.WO h b c)
 exact .inr h
end Go.Proofs
end
