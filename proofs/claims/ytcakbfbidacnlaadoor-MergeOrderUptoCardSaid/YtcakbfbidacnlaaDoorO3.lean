/-
  Part 3 of the walk: contracts of the functions that the law reaches, and the calculus they stand on.
  No conditions.
-/
import Derived.Test.YtcakbfbidacnlaaDoorO2
import Derived.Shelf.SlLaysF0
import Derived.Ground.SlsfProg
import Derived.Maps.RangeRun
import Derived.ProofKit
import Derived.OpenShut
import Derived.WideKeyArgs
import Derived.ChangeSame
import Derived.ChangeMaps5
import Derived.Lib.LaidTab
import Derived.SliceStrings
import Derived.DataReads
section
open Go Go.Proofs Go.Sx Go.StP
namespace Go.Proofs
set_option maxRecDepth 10000
set_option maxHeartbeats 4000000
set_option linter.unusedSimpArgs false
abbrev qg_:Value:= .func (.func 16) #[] #[]
def wt_ (rb:Nat) (A X Y B:List ShL) (rest:List Value) (v:Value) (D:za_):Prop:=
 ∃o,D= [(rb,o)]∧v= .tuple #[]∧ ∃Z,o=zq_ rest (A++ (Z++B))∧Z.length=X.length+Y.length∧zs_ Z∧qW_ (X++Y) Z
set_option linter.defProp false
def xG_:=And.intro (And.intro (@jR_) (And.intro (@jj_) (@wy_))) (And.intro (And.intro (@xI_) (@jO_)) (And.intro (@k5_) (@vF_)))
theorem Xs_ (rb n c:Nat) (A:List ShL) (x:ShL) (Y B:List ShL) (rest:List Value) (a m b:Nat) (w:World) (ha:A.length=a) (hm:m=a+1) (hb:b=m+Y.length) (hn:n=b+B.length) (hs:n<1000000) (hY:zs_ Y)
  (ho:w.heap[rb]? =some (zq_ rest (A++ ([x]++ (Y++B))))):
  Rets Tryd.prog 67 #[vsl rb 0 n c,vi a,vi m,vi b,qg_] w (wt_ rb A [x] Y B rest):=by
 subst hb
 refine Rets.enterM Tryd.func67 rfl (rs:= []) Tryd.results67 Tryd.ntmps67 ho ?_
 refine kf ?_
 first|with_reducible refine ks [] @xG_ ?_|refine kp @xG_ ?_
 have e0:A++x:: (Y++B)=zS_ A Y x B 0:=by rw[Jt_];simp only[List.append_assoc,List.cons_append,List.nil_append]
 rw[e0]
 refine Cw.loopG (G:=BsG) [31,32,33,34,35,36,37,38,39,12,40,41,42,43,44,45,46,47,48,49,50,51,52,10,53,11] (fun g=> [(10,vi (m+g.i:Nat)),(11,vi (m+g.j:Nat))]) (fun g=> [(rb,zq_ rest (zS_ A Y x B 0))]) (fun g=>g.i≤g.j∧g.j≤Y.length∧(g.i=0∨qC_ (Y.getD (g.i - 1) sh0) x=true)∧(Y.length≤g.j∨qC_ (Y.getD g.j sh0) x=false)) (fun g=>g.j - g.i) ⟨0,Y.length⟩ rfl rfl ?_ ?_
 ·exact⟨Nat.zero_le _,Nat.le_refl _, .inl rfl, .inl (Nat.le_refl _)⟩
 ·intro g j hg
  refine kv ?_
  obtain⟨i,j⟩:=g
  obtain⟨h1,h2,h3,h4⟩:=hg
  dsimp only at h1 h2 h3 h4 ⊢
  by_cases hij:i<j
  ·have e1: (m+i+ (m+j)) / 2=m+ (i+j) / 2:=by omega
   have hl:=qQ_ A Y x B 0
   first|with_reducible refine ks [] (And.intro @xG_ @e1) ?_|refine kp (And.intro @xG_ @e1) ?_
   have g1: (zS_ A Y x B 0).getD (m+ (i+j) / 2) sh0=Y.getD ((i+j) / 2) sh0:=aas_ (Nat.zero_le _) (by omega) (by omega)
   have g2: (zS_ A Y x B 0).getD a sh0=x:=jC_ (Nat.zero_le _) (by omega)
   refine Cw.regionS [rb] [0,1,2,3,5,6,7,4,8,9,10] [] (by kernel_rfl) (by kernel_rfl) (by kernel_rfl) ?_
   simp only[zm_, ↓zd_, ↓zb_, ↓zE_, ↓zD_,zc_]
   refine kq (And.intro @xG_ (And.intro @g1 (@g2))) ?_
   refine Ow.callFn2 (v:=vi (x6_ (Y.getD ((i+j) / 2) sh0) x)) rfl rfl rfl rfl Tryd.call16 (fun w' hw'=>jJ_ _ _ w') ?_
   refine kq @xG_ ?_
   cases hc:qC_ (Y.getD ((i+j) / 2) sh0) x
   ·first|with_reducible refine ks [] @xG_ ?_|refine kp @xG_ ?_
    refine Again.mk ⟨i,(i+j) / 2⟩ (by show(i+j) / 2 - i<j - i;omega) ⟨by show i≤ (i+j) / 2;omega,by show(i+j) / 2≤Y.length;omega,h3, .inr hc⟩ rfl rfl
   ·first|with_reducible refine ks [] @xG_ ?_|refine kp @xG_ ?_
    refine Again.mk ⟨(i+j) / 2+1,j⟩ (by show j - ((i+j) / 2+1)<j - i;omega) ⟨by show(i+j) / 2+1≤j;omega,h2, .inr hc,h4⟩ rfl rfl
  ·obtain rfl:i=j:=by omega
   first|with_reducible refine ks [] @xG_ ?_|refine kp @xG_ ?_
   refine Cw.loopG (G:=Nat) [55,56,57,58,61,62,63,64,65,66,67,68,69,70,71,72,73,74,75,76,59,60,13] (fun g=> [(13,vi (a+g:Nat))]) (fun g=> [(rb,zq_ rest (zS_ A Y x B g))]) (fun g=>g≤i) (fun g=>i - g) 0 rfl rfl ?_ ?_
   ·exact Nat.zero_le _
   ·intro k jk hk
    refine kv ?_
    by_cases hk1:k<i
    ·first|with_reducible refine ks [] @xG_ ?_|refine kp @xG_ ?_
     have hl:=qQ_ A Y x B k
     have g1: (zS_ A Y x B k).getD (a+k) sh0=x:=jC_ (by omega) (by omega)
     have g2: (zS_ A Y x B k).getD (a+k+1) sh0=Y.getD k sh0:=adz_ (by omega) (by omega)
     refine Cw.regionS [rb] [0,1,2,3,4,5,6,7,8,10,11,12,9,13,14,15,16,17] [15,17] (by kernel_rfl) (by kernel_rfl) (by kernel_rfl) ?_
     simp only[zm_, ↓zd_, ↓zb_, ↓zE_, ↓zD_,zc_]
     refine kq (And.intro @xG_ (And.intro @g1 (@g2))) ?_
     refine Ow.store rfl rfl rfl (ke (And.intro @xG_ (And.intro @g1 (@g2)))) ?_
     refine ko (And.intro @xG_ (And.intro @g1 (@g2))) ?_
     rw[aaK_ (z:=sh0) (by omega) (by omega)]
     exact Again.mk (k+1) (by omega) (by omega) rfl rfl
    ·obtain rfl:k=i:=by omega
     first|with_reducible refine ks [] @xG_ ?_|refine kp @xG_ ?_
     have hz:=vq_ (z:=sh0) hY h2 h3 h4
     refine⟨_,_,_,(ke @xG_),rfl,trivial, ?_⟩
     exact⟨rfl,_,by rw[jp_],by simp only[List.length_append,List.length_cons,List.length_nil,List.length_take,List.length_drop];omega,hz.1,hz.2⟩
end Go.Proofs
end
section
open Go Go.Proofs Go.Sx Go.StP
namespace Go.Proofs
set_option maxRecDepth 10000
set_option maxHeartbeats 4000000
set_option linter.unusedSimpArgs false
set_option linter.defProp false
def zK_:=And.intro (And.intro (@jR_) (And.intro (@jj_) (@wy_))) (And.intro (And.intro (@xI_) (@jO_)) (And.intro (@k5_) (@vF_)))
theorem Q6_ (rb n c:Nat) (A X:List ShL) (y:ShL) (B:List ShL) (rest:List Value) (a m b:Nat) (w:World) (ha:A.length=a) (hm:m=a+X.length) (hX2:X.length≠1) (hb:b=m+1) (hn:n=b+B.length) (hs:n<1000000) (hX:zs_ X)
  (ho:w.heap[rb]? =some (zq_ rest (A++ (X++ ([y]++B))))):
  Rets Tryd.prog 67 #[vsl rb 0 n c,vi a,vi m,vi b,qg_] w (wt_ rb A X [y] B rest):=by
 subst hm
 refine Rets.enterM Tryd.func67 rfl (rs:= []) Tryd.results67 Tryd.ntmps67 ho ?_
 refine kf ?_
 first|with_reducible refine ks [] @zK_ ?_|refine kp @zK_ ?_
 have e0:A++ (X++y::B)=zS_ A X y B X.length:=by rw[vy_ _ _ _ _ (Nat.le_refl _)];simp only[List.append_assoc,List.cons_append,List.nil_append]
 rw[e0]
 refine Cw.loopG (G:=BsG) [83,84,85,86,87,88,89,90,91,16,92,93,94,95,96,97,98,99,100,101,102,103,104,105,14,106,15] (fun g=> [(14,vi (a+g.i:Nat)),(15,vi (a+g.j:Nat))]) (fun g=> [(rb,zq_ rest (zS_ A X y B X.length))]) (fun g=>g.i≤g.j∧g.j≤X.length∧(g.i=0∨qC_ y (X.getD (g.i - 1) sh0)=false)∧(X.length≤g.j∨qC_ y (X.getD g.j sh0)=true)) (fun g=>g.j - g.i) ⟨0,X.length⟩ rfl rfl ?_ ?_
 ·exact⟨Nat.zero_le _,Nat.le_refl _, .inl rfl, .inl (Nat.le_refl _)⟩
 ·intro g j hg
  refine kv ?_
  obtain⟨i,j⟩:=g
  obtain⟨h1,h2,h3,h4⟩:=hg
  dsimp only at h1 h2 h3 h4 ⊢
  by_cases hij:i<j
  ·have e1: (a+i+ (a+j)) / 2=a+ (i+j) / 2:=by omega
   have hl:=qQ_ A X y B X.length
   first|with_reducible refine ks [] (And.intro @zK_ @e1) ?_|refine kp (And.intro @zK_ @e1) ?_
   have g1: (zS_ A X y B X.length).getD (a+ (i+j) / 2) sh0=X.getD ((i+j) / 2) sh0:=aaP_ (by omega) (by omega) (by omega)
   have g2: (zS_ A X y B X.length).getD (a+X.length) sh0=y:=jC_ (Nat.le_refl _) (by omega)
   refine Cw.regionS [rb] [0,1,2,3,5,6,7,4,8,9,10,11] [] (by kernel_rfl) (by kernel_rfl) (by kernel_rfl) ?_
   simp only[zm_, ↓zd_, ↓zb_, ↓zE_, ↓zD_,zc_]
   refine kq (And.intro @zK_ (And.intro @g1 (@g2))) ?_
   refine Ow.callFn2 (v:=vi (x6_ y (X.getD ((i+j) / 2) sh0))) rfl rfl rfl rfl Tryd.call16 (fun w' hw'=>jJ_ _ _ w') ?_
   refine kq @zK_ ?_
   cases hc:qC_ y (X.getD ((i+j) / 2) sh0)
   ·first|with_reducible refine ks [] @zK_ ?_|refine kp @zK_ ?_
    refine Again.mk ⟨(i+j) / 2+1,j⟩ (by show j - ((i+j) / 2+1)<j - i;omega) ⟨by show(i+j) / 2+1≤j;omega,h2, .inr hc,h4⟩ rfl rfl
   ·first|with_reducible refine ks [] @zK_ ?_|refine kp @zK_ ?_
    refine Again.mk ⟨i,(i+j) / 2⟩ (by show(i+j) / 2 - i<j - i;omega) ⟨by show i≤ (i+j) / 2;omega,by show(i+j) / 2≤X.length;omega,h3, .inr hc⟩ rfl rfl
  ·obtain rfl:i=j:=by omega
   first|with_reducible refine ks [] @zK_ ?_|refine kp @zK_ ?_
   refine Cw.loopG (G:=Nat) [108,109,110,113,114,115,116,117,118,119,120,121,122,123,124,125,126,127,128,111,112,17] (fun g=> [(17,vi (a+g:Nat))]) (fun g=> [(rb,zq_ rest (zS_ A X y B g))]) (fun g=>i≤g∧g≤X.length) (fun g=>g) X.length rfl rfl ?_ ?_
   ·exact⟨h2,Nat.le_refl _⟩
   ·intro k jk hk
    refine kv ?_
    obtain⟨hk1,hk2⟩:=hk
    by_cases hk:i<k
    ·obtain⟨k,rfl⟩: ∃q,k=q+1:=⟨k - 1,by omega⟩
     first|with_reducible refine ks [] @zK_ ?_|refine kp @zK_ ?_
     have hl:=qQ_ A X y B (k+1)
     have g1: (zS_ A X y B (k+1)).getD (a+ (k+1)) sh0=y:=jC_ (by omega) (by omega)
     have g2: (zS_ A X y B (k+1)).getD (a+k) sh0=X.getD k sh0:=wq_ (by omega) (by omega)
     have e3:a+ (k+1) - 1=a+k:=by omega
     refine Cw.regionS [rb] [0,1,2,3,4,5,6,7,8,10,11,12,9,13,14,15,16,17] [15,17] (by kernel_rfl) (by kernel_rfl) (by kernel_rfl) ?_
     simp only[zm_, ↓zd_, ↓zb_, ↓zE_, ↓zD_,zc_]
     refine kq (And.intro @zK_ (And.intro @e3 (And.intro @g1 (@g2)))) ?_
     refine Ow.store rfl rfl rfl (ke (And.intro @zK_ (And.intro @e3 (And.intro @g1 (@g2))))) ?_
     refine ko (And.intro @zK_ (And.intro @e3 (And.intro @g1 (@g2)))) ?_
     rw[vv_ (by omega),←Nat.add_assoc,kR_ (z:=sh0) (by omega) (by omega)]
     refine Again.mk k (by omega) ⟨by omega,by omega⟩ rfl ?_
     rw[show(((a+k+1:Nat):Int)) - 1=((a+k:Nat):Int) by omega]
     rfl
    ·obtain rfl:k=i:=by omega
     first|with_reducible refine ks [] @zK_ ?_|refine kp @zK_ ?_
     have hz:=xi_ (z:=sh0) hX h2 h3 h4
     refine⟨_,_,_,(ke @zK_),rfl,trivial, ?_⟩
     exact⟨rfl,_,by rw[jp_],by simp only[List.length_append,List.length_cons,List.length_nil,List.length_take,List.length_drop];omega,hz.1,hz.2⟩
theorem ac2_ {A X C:List ShL} {h i:Nat} (hh:h<X.length) (e:i=A.length+h): (A++ (X++C)).getD i sh0=X.getD h sh0:=by
 subst e
 rw[z8_ (by omega),Nat.add_sub_cancel_left,qr_ hh]
theorem acL_ {A X Y C:List ShL} {h i:Nat} (hh:h<Y.length) (e:i=A.length+X.length+h): (A++ (X++ (Y++C))).getD i sh0=Y.getD h sh0:=by
 subst e
 rw[z8_ (by omega),z8_ (by omega),qr_ (by omega)]
 congr 1;omega
theorem xt_ (q:Nat): ∀ (rb n c:Nat) (A X Y B:List ShL) (rest:List Value) (a m b:Nat) (w:World) (_ha:A.length=a) (_hm:m=a+X.length) (_hb:b=m+Y.length) (_hn:n=b+B.length) (_hs:n<1000000) (_hX:zs_ X) (_hY:zs_ Y) (_hx0:0<X.length) (_hy0:0<Y.length) (_hq:X.length+Y.length≤q)
  (_ho:w.heap[rb]? =some (zq_ rest (A++ (X++ (Y++B))))),
  Rets Tryd.prog 67 #[vsl rb 0 n c,vi a,vi m,vi b,qg_] w (wt_ rb A X Y B rest):=by
 induction q with
 |zero=>intros;omega
 |succ q ih=>
  intro rb n c A X Y B rest a m b w ha hm hb hn hs hX hY hx0 hy0 hq ho
  by_cases hX1:X.length=1
  ·obtain⟨x,rfl⟩:=List.length_eq_one_iff.1 hX1
   exact Xs_ rb n c A x Y B rest a m b w ha hm hb hn hs hY ho
  by_cases hY1:Y.length=1
  ·obtain⟨y,rfl⟩:=List.length_eq_one_iff.1 hY1
   exact Q6_ rb n c A X y B rest a m b w ha hm hX1 hb hn hs hX ho
  have e1: (m:Int) - a=(X.length:Nat):=by omega
  have e2: (b:Int) - m=(Y.length:Nat):=by omega
  refine Rets.enterM Tryd.func67 rfl (rs:= []) Tryd.results67 Tryd.ntmps67 ho ?_
  refine kf ?_
  obtain⟨mid,hmd⟩: ∃q,q=(a+b) / 2:=⟨_,rfl⟩
  obtain⟨nn,hnn⟩: ∃q,q=mid+m:=⟨_,rfl⟩
  have e3: (mid:Int)+ (m:Int)=(nn:Nat):=by omega
  have e5: (nn:Int) - 1=((nn - 1:Nat):Int):=by omega
  have hl: (A++ (X++ (Y++B))).length=n:=by simp only[List.length_append];omega
  ((try with_reducible refine Cw.go [1000027] ?_);(try simp(disch:=(first|assumption|omega| (simp only[kb_,kd_,UInt64.reduceToNat];try omega))) only[↓Sx.S0,Sx.S1,Tryd.fx,zK_,Nat.reduceAdd,Nat.reducePow,Int.reducePow,Nat.reduceBEq, ↓reduceIte,UInt8.reduceToNat,UInt16.reduceToNat,UInt32.reduceToNat,UInt64.reduceToNat,Int.reduceToNat,e1,e2,←hmd,e3,e5]))
  refine Cw.cut (G:=BsG) 220 (fun g=> [(0,vsl rb 0 n c),(1,vi a),(2,vi m),(3,vi b),(4,qg_),(18,vi mid),(19,vi nn),(20,vi g.i),(21,vi g.j)]) (fun g=> [(rb,zq_ rest (A++ (X++ (Y++B))))]) (fun g=>g.i≤g.j∧g.j≤m∧nn≤b+g.i∧m+g.j≤nn∧a≤g.i∧(g.i=a∨nn=b+g.i)∧(g.j=m∨m+g.j=nn)) ?_ ?_
  ·by_cases hmid:mid<m
   ·have e4: (nn:Int) - (b:Int)=((nn - b:Nat):Int):=by omega
    first|with_reducible refine ks [] (And.intro @zK_ @e4) ?_|refine kp (And.intro @zK_ @e4) ?_
    exact CutM.mk ⟨nn - b,mid⟩ ⟨by show nn - b≤mid;omega,by show mid≤m;omega,by show nn≤b+ (nn - b);omega,by show m+mid≤nn;omega,by show a≤nn - b;omega, .inr (by show nn=b+ (nn - b);omega), .inr (by show m+mid=nn;omega)⟩ rfl rfl
   ·first|with_reducible refine ks [] @zK_ ?_|refine kp @zK_ ?_
    exact CutM.mk ⟨a,m⟩ ⟨by show a≤m;omega,by show m≤m;omega,by show nn≤b+a;omega,by show m+m≤nn;omega,by show a≤a;omega, .inl rfl, .inl rfl⟩ rfl rfl
  ·intro g j hg
   simp only[Jy_,Jm_,pin,wY_,wT_,Nat.reduceAdd]
   obtain⟨s0,r0⟩:=g
   obtain⟨f1,f2,f3,f4,f5,f6,f7⟩:=hg
   dsimp only at f1 f2 f3 f4 f5 f6 f7 ⊢
   first|with_reducible refine ks [1000039,1000041] (And.intro @zK_ @e5) ?_|refine kp (And.intro @zK_ @e5) ?_
   refine Cw.loopG (G:=BsG) [149,150,151,152,153,154,155,156,157,23,158,159,160,161,162,163,164,165,166,167,168,169,170,171,172,173,20,174,21] (fun g=> [(20,vi g.i),(21,vi g.j)]) (fun g=> [(rb,zq_ rest (A++ (X++ (Y++B))))]) (fun g=>s0≤g.i∧g.i≤g.j∧g.j≤r0∧(g.i=s0∨qC_ ((A++ (X++ (Y++B))).getD (nn - g.i) sh0) ((A++ (X++ (Y++B))).getD (g.i - 1) sh0)=false)∧(g.j=r0∨qC_ ((A++ (X++ (Y++B))).getD (nn - 1 - g.j) sh0) ((A++ (X++ (Y++B))).getD g.j sh0)=true)) (fun g=>g.j - g.i) ⟨s0,r0⟩ rfl rfl ?_ ?_
   ·exact⟨Nat.le_refl _,f1,Nat.le_refl _, .inl rfl, .inl rfl⟩
   ·intro g j hg
    refine kv ?_
    obtain⟨i,j⟩:=g
    obtain⟨h1,h2,h3,h4,h5⟩:=hg
    dsimp only at h1 h2 h3 h4 h5 ⊢
    by_cases hij:i<j
    ·obtain⟨h,hh⟩: ∃q,q=(i+j) / 2:=⟨_,rfl⟩
     have e6: ((nn - 1:Nat):Int) - (h:Int)=((nn - 1 - h:Nat):Int):=by omega
     ((try with_reducible refine Cw.go [] ?_);(try simp(disch:=(first|assumption|omega| (simp only[kb_,kd_,UInt64.reduceToNat];try omega))) only[↓Sx.S0,Sx.S1,Tryd.fx,zK_,Nat.reduceAdd,Nat.reducePow,Int.reducePow,Nat.reduceBEq, ↓reduceIte,UInt8.reduceToNat,UInt16.reduceToNat,UInt32.reduceToNat,UInt64.reduceToNat,Int.reduceToNat,←hh]))
     refine Cw.regionS [rb] [0,1,2,3,4,5,7,8,9,6,10,11,12,13] [] (by kernel_rfl) (by kernel_rfl) (by kernel_rfl) ?_
     simp only[zm_, ↓zd_, ↓zb_, ↓zE_, ↓zD_,zc_]
     refine kq (And.intro @zK_ @e6) ?_
     refine Ow.callFn2 (v:=vi (x6_ ((A++ (X++ (Y++B))).getD (nn - 1 - h) sh0) ((A++ (X++ (Y++B))).getD h sh0))) rfl rfl rfl rfl Tryd.call16 (fun w' hw'=>jJ_ _ _ w') ?_
     refine kq @zK_ ?_
     cases hc:qC_ ((A++ (X++ (Y++B))).getD (nn - 1 - h) sh0) ((A++ (X++ (Y++B))).getD h sh0)
     ·first|with_reducible refine ks [] @zK_ ?_|refine kp @zK_ ?_
      refine Again.mk ⟨h+1,j⟩ (by show j - (h+1)<j - i;omega) ⟨by show s0≤h+1;omega,by show h+1≤j;omega,h3, .inr ?_,h5⟩ rfl rfl
      show qC_ ((A++ (X++ (Y++B))).getD (nn - (h+1)) sh0) ((A++ (X++ (Y++B))).getD (h+1 - 1) sh0)=false
      rw[show nn - (h+1)=nn - 1 - h by omega,Nat.add_sub_cancel];exact hc
     ·first|with_reducible refine ks [] @zK_ ?_|refine kp @zK_ ?_
      refine Again.mk ⟨i,h⟩ (by show h - i<j - i;omega) ⟨h1,by show i≤h;omega,by show h≤r0;omega,h4, .inr hc⟩ rfl rfl
    ·obtain rfl:i=j:=by omega
     obtain⟨ix,hix⟩: ∃q,q=i - a:=⟨_,rfl⟩
     obtain⟨jy,hjy⟩: ∃q,q=nn - i - m:=⟨_,rfl⟩
     have q1:jy=0∨X.length≤ix∨qC_ (Y.getD (jy - 1) sh0) (X.getD ix sh0)=true:=by
      by_cases c1:jy=0
      ·exact .inl c1
      by_cases c2:X.length≤ix
      ·exact .inr (.inl c2)
      rcases h5 with h5|h5
      ·omega
      ·rw[acL_ (h:=jy - 1) (by omega) (by omega),ac2_ (h:=ix) (by omega) (by omega)] at h5
       exact .inr (.inr h5)
     have q2:ix=0∨Y.length≤jy∨qC_ (Y.getD jy sh0) (X.getD (ix - 1) sh0)=false:=by
      by_cases c1:ix=0
      ·exact .inl c1
      by_cases c2:Y.length≤jy
      ·exact .inr (.inl c2)
      rcases h4 with h4|h4
      ·omega
      ·rw[acL_ (h:=jy) (by omega) (by omega),ac2_ (h:=ix - 1) (by omega) (by omega)] at h4
       exact .inr (.inr h4)
     have hmc:=fun x1 x2=>KY_ (z:=sh0) (x1:=x1) (x2:=x2) hX hY (show ix≤X.length by omega) (show jy≤Y.length by omega) q1 q2
     have sX1:zs_ (X.take ix):=StP.Sorted.left (b:=X.drop ix) (by rw[List.take_append_drop];exact hX)
     have sX2:zs_ (X.drop ix):=StP.Sorted.right (a:=X.take ix) (by rw[List.take_append_drop];exact hX)
     have sY1:zs_ (Y.take jy):=StP.Sorted.left (b:=Y.drop jy) (by rw[List.take_append_drop];exact hY)
     have sY2:zs_ (Y.drop jy):=StP.Sorted.right (a:=Y.take jy) (by rw[List.take_append_drop];exact hY)
     have hrow:A++ (X++ (Y++B))=A++ (X.take ix++ (X.drop ix++ (Y.take jy++ (Y.drop jy++B)))):=by
      rw[←List.append_assoc (X.take ix),List.take_append_drop,←List.append_assoc (Y.take jy),List.take_append_drop]
     have lX1: (X.take ix).length=ix:=by rw[List.length_take];omega
     have lX2: (X.drop ix).length=m - i:=by rw[List.length_drop];omega
     have lY1: (Y.take jy).length=jy:=by rw[List.length_take];omega
     have lY2: (Y.drop jy).length=b - m - jy:=by rw[List.length_drop];omega
     have e7: (nn:Int) - (i:Int)=((m+jy:Nat):Int):=by omega
     first|with_reducible refine ks [] (And.intro @zK_ @e7) ?_|refine kp (And.intro @zK_ @e7) ?_
     rw[hrow]
     generalize X.take ix=X1 at*
     generalize X.drop ix=X2 at*
     generalize Y.take jy=Y1 at*
     generalize Y.drop jy=Y2 at*
     have em:mid=i+jy:=by omega
     refine Cw.cut (G:=Unit) 220 (fun g=> [(0,vsl rb 0 n c),(1,vi a),(2,vi m),(3,vi b),(4,qg_),(18,vi mid),(20,vi i),(24,vi (m+jy:Nat))]) (fun g=> [(rb,zq_ rest (A++ (X1++ (Y1++ (X2++ (Y2++B))))))]) (fun g=>True) ?_ ?_
     ·by_cases c1:i<m
      ·have d1:decide ((i:Int)< (m:Int))=true:=decide_eq_true (by omega)
       by_cases c2:0<jy
       ·have d2:decide ((m:Int)< ((m+jy:Nat):Int))=true:=decide_eq_true (by omega)
        first|with_reducible refine ks [] (And.intro @zK_ (And.intro @d1 (@d2))) ?_|refine kp (And.intro @zK_ (And.intro @d1 (@d2))) ?_
        refine Ow.callM rfl rfl Tryd.call75 (by simp[keys]) (fun w' hw'=>ZQ_ rb n c (A++X1) X2 Y1 (Y2++B) rest qg_ i m (m+jy) w' (by omega) (by omega) (by rw[List.length_append];omega) (by omega) (by omega) (by rw[List.length_append];omega) hs (by rw[List.append_assoc];exact hw'.has _ _ List.mem_cons_self)) ?_
        refine ko @zK_ ?_
        exact CutM.mk () trivial (by simp only[List.append_assoc]) rfl
       ·have d2:decide ((m:Int)< ((m+jy:Nat):Int))=false:=decide_eq_false (by omega)
        first|with_reducible refine ks [] (And.intro @zK_ (And.intro @d1 (@d2))) ?_|refine kp (And.intro @zK_ (And.intro @d1 (@d2))) ?_
        obtain rfl:Y1= []:=List.eq_nil_of_length_eq_zero (by omega)
        exact CutM.mk () trivial (by simp only[List.nil_append]) rfl
      ·have d1:decide ((i:Int)< (m:Int))=false:=decide_eq_false (by omega)
       first|with_reducible refine ks [] (And.intro @zK_ @d1) ?_|refine kp (And.intro @zK_ @d1) ?_
       obtain rfl:X2= []:=List.eq_nil_of_length_eq_zero (by omega)
       exact CutM.mk () trivial (by simp only[List.nil_append]) rfl
     ·intro u ju hu
      simp only[Jy_,Jm_,pin,wY_,wT_,Nat.reduceAdd]
      first|with_reducible refine ks [1000041,1000043] @zK_ ?_|refine kp @zK_ ?_
      refine Cw.cut (G:=(List ShL)) 220 (fun g=> [(0,vsl rb 0 n c),(3,vi b),(4,qg_),(18,vi mid),(24,vi (m+jy:Nat))]) (fun g=> [(rb,zq_ rest (A++ (g++ (X2++ (Y2++B)))))]) (fun g=>g.length=ix+jy∧zs_ g∧qW_ (X1++Y1) g) ?_ ?_
      ·by_cases c1:a<i
       ·have d1:decide ((a:Int)< (i:Int))=true:=decide_eq_true (by omega)
        by_cases c2:0<jy
        ·have d2:decide ((i:Int)< (mid:Int))=true:=decide_eq_true (by omega)
         first|with_reducible refine ks [] (And.intro @zK_ (And.intro @d1 (@d2))) ?_|refine kp (And.intro @zK_ (And.intro @d1 (@d2))) ?_
         refine Ow.callE rfl rfl Tryd.call67 (by simp[keys]) (fun w' hw'=>ih rb n c A X1 Y1 (X2++ (Y2++B)) rest a i mid w' ha (by omega) (by omega) (by simp only[List.length_append];omega) hs sX1 sY1 (by omega) (by omega) (by omega) (hw'.has _ _ List.mem_cons_self)) (fun v1 o1 hS1=> ?_)
         obtain⟨rfl,Z1,rfl,z1,z2,z3⟩:=hS1
         refine ko @zK_ ?_
         exact CutM.mk Z1 ⟨by omega,z2,z3⟩ rfl rfl
        ·have d2:decide ((i:Int)< (mid:Int))=false:=decide_eq_false (by omega)
         first|with_reducible refine ks [] (And.intro @zK_ (And.intro @d1 (@d2))) ?_|refine kp (And.intro @zK_ (And.intro @d1 (@d2))) ?_
         obtain rfl:Y1= []:=List.eq_nil_of_length_eq_zero (by omega)
         exact CutM.mk X1 ⟨by omega,sX1,by rw[List.append_nil];exact StP.St.refl _ _⟩ rfl rfl
       ·have d1:decide ((a:Int)< (i:Int))=false:=decide_eq_false (by omega)
        first|with_reducible refine ks [] (And.intro @zK_ @d1) ?_|refine kp (And.intro @zK_ @d1) ?_
        obtain rfl:X1= []:=List.eq_nil_of_length_eq_zero (by omega)
        exact CutM.mk Y1 ⟨by omega,sY1,StP.St.refl _ _⟩ (by simp only[List.nil_append]) rfl
      ·intro Z1 jZ1 hZ1
       simp only[Jy_,Jm_,pin,wY_,wT_,Nat.reduceAdd]
       obtain⟨z1,z2,z3⟩:=hZ1
       by_cases c1:i<m
       ·have d1:decide ((mid:Int)< ((m+jy:Nat):Int))=true:=decide_eq_true (by omega)
        by_cases c2:m+jy<b
        ·have d2:decide (((m+jy:Nat):Int)< (b:Int))=true:=decide_eq_true (by omega)
         first|with_reducible refine ks [] (And.intro @zK_ (And.intro @d1 (@d2))) ?_|refine kp (And.intro @zK_ (And.intro @d1 (@d2))) ?_
         refine Ow.callE rfl rfl Tryd.call67 (by simp[keys]) (fun w' hw'=>ih rb n c (A++Z1) X2 Y2 B rest mid (m+jy) b w' (by rw[List.length_append];omega) (by omega) (by omega) hn hs sX2 sY2 (by omega) (by omega) (by omega) (by rw[List.append_assoc];exact hw'.has _ _ List.mem_cons_self)) (fun v2 o2 hS2=> ?_)
         obtain⟨rfl,Z2,rfl,y1,y2,y3⟩:=hS2
         obtain⟨r1,r2⟩:=hmc Z1 Z2 z2 z3 y2 y3
         refine ko @zK_ ?_
         refine⟨_,_,_,(ke @zK_),rfl,trivial, ?_⟩
         exact⟨rfl,Z1++Z2,by simp only[List.append_assoc],by rw[List.length_append];omega,r1,r2⟩
        ·have d2:decide (((m+jy:Nat):Int)< (b:Int))=false:=decide_eq_false (by omega)
         first|with_reducible refine ks [] (And.intro @zK_ (And.intro @d1 (@d2))) ?_|refine kp (And.intro @zK_ (And.intro @d1 (@d2))) ?_
         obtain rfl:Y2= []:=List.eq_nil_of_length_eq_zero (by omega)
         obtain⟨r1,r2⟩:=hmc Z1 X2 z2 z3 sX2 (by rw[List.append_nil];exact StP.St.refl _ _)
         refine⟨_,_,_,(ke @zK_),rfl,trivial, ?_⟩
         exact⟨rfl,Z1++X2,by simp only[List.append_assoc,List.nil_append],by rw[List.length_append];omega,r1,r2⟩
       ·have d1:decide ((mid:Int)< ((m+jy:Nat):Int))=false:=decide_eq_false (by omega)
        first|with_reducible refine ks [] (And.intro @zK_ @d1) ?_|refine kp (And.intro @zK_ @d1) ?_
        obtain rfl:X2= []:=List.eq_nil_of_length_eq_zero (by omega)
        obtain⟨r1,r2⟩:=hmc Z1 Y2 z2 z3 sY2 (StP.St.refl _ _)
        refine⟨_,_,_,(ke @zK_),rfl,trivial, ?_⟩
        exact⟨rfl,Z1++Y2,by simp only[List.append_assoc,List.nil_append],by rw[List.length_append];omega,r1,r2⟩
end Go.Proofs
end
section
open Go Go.Proofs Go.Sx Go.StP
namespace Go.Proofs
set_option maxRecDepth 10000
set_option maxHeartbeats 4000000
set_option linter.unusedSimpArgs false
def shs_Blks (k:Nat) (ls:List (List ShL)):Prop:= ∀x,x∈ls→x.length=k∧zs_ x
theorem shs_Blks.snoc {k:Nat} {ls:List (List ShL)} {x:List ShL} (h:shs_Blks k ls) (hx:x.length=k) (hs:zs_ x):shs_Blks k (ls++ [x]):=by
 intro y hy
 rcases List.mem_append.1 hy with hy|hy
 ·exact h y hy
 ·rw[List.mem_singleton] at hy;subst hy;exact⟨hx,hs⟩
structure shs_StG where
 k:Nat
 ls:List (List ShL)
 r:List ShL
structure shs_StH where
 l2:List (List ShL)
 ls:List (List ShL)
theorem Zi_ (rb n c:Nat) (d:List ShL) (rest:List Value) (w:World) (hn:n=d.length) (hs:n<1000000)
  (ho:w.heap[rb]? =some (zq_ rest d)):
  Rets Tryd.prog 46 #[vsl rb 0 n c,vi n,qg_] w (fun v D=> ∃o,D= [(rb,o)]∧v= .tuple #[]∧ ∃Z,o=zq_ rest Z∧Z.length=d.length∧zs_ Z∧qW_ d Z):=by
 refine Rets.enterM Tryd.func46 rfl (rs:= []) Tryd.results46 Tryd.ntmps46 ho ?_
 refine kf ?_
 first|with_reducible refine ks [1000006] @Nat.add_zero ?_|refine kp @Nat.add_zero ?_
 refine Cw.loopG (G:=shs_StG) [11,12,13,14,15,16,17,18,19,7,20,21,22,8] (fun g=> [(7,vi g.ls.flatten.length),(8,vi (g.ls.flatten.length+20:Nat))]) (fun g=> [(rb,zq_ rest (g.ls.flatten++g.r))]) (fun g=>shs_Blks 20 g.ls∧qW_ d (g.ls.flatten++g.r)∧g.ls.flatten.length+g.r.length=n) (fun g=>g.r.length) ⟨20,[],d⟩ rfl rfl ?_ ?_
 ·refine⟨fun x hx=> ?_,StP.St.refl _ _,by show 0+d.length=n;omega⟩
  exact absurd hx (by simp)
 ·intro g j hg
  refine kv ?_
  obtain⟨_,ls,r⟩:=g
  obtain⟨h1,h2,h3⟩:=hg
  dsimp only at h1 h2 h3 ⊢
  by_cases hb:ls.flatten.length+20≤n
  ·obtain⟨M,R,rfl,hM⟩:=JE_ r (show 20≤r.length by omega)
   rw[List.length_append] at h3
   first|with_reducible refine ks [] @Nat.add_zero ?_|refine kp @Nat.add_zero ?_
   refine Ow.callE rfl rfl Tryd.call66 (by simp[keys]) (fun w' hw'=>xm_ rb n c ls.flatten M R rest ls.flatten.length (ls.flatten.length+20) w' rfl (by omega) (by omega) hs (hw'.has _ _ List.mem_cons_self)) (fun v1 o1 hS1=> ?_)
   obtain⟨rfl,M',rfl,l1,s1,t1⟩:=hS1
   refine ko @Nat.add_zero ?_
   have e1: (ls++ [M']).flatten=ls.flatten++M':=by simp
   refine Again.mk ⟨20,ls++ [M'],R⟩ (by show R.length< (M++R).length;rw[List.length_append];omega) ⟨h1.snoc (by omega) s1, ?_, ?_⟩ ?_ ?_
   ·show qW_ d ((ls++ [M']).flatten++R)
    rw[e1,List.append_assoc]
    exact h2.trans (StP.St.app (StP.St.refl _ _) (StP.St.app t1 (StP.St.refl _ _)))
   ·show(ls++ [M']).flatten.length+R.length=n
    rw[e1,List.length_append];omega
   ·rw[e1,List.append_assoc]
   ·dsimp only
    rw[e1,show(ls.flatten++M').length=ls.flatten.length+20 by rw[List.length_append];omega]
    rfl
  ·first|with_reducible refine ks [] @Nat.add_zero ?_|refine kp @Nat.add_zero ?_
   have e0:ls.flatten++r=ls.flatten++ (r++ []):=by rw[List.append_nil]
   rw[e0]
   first|with_reducible refine ks [1000007] @Nat.add_zero ?_|refine kp @Nat.add_zero ?_
   refine Ow.callE rfl rfl Tryd.call66 (by simp[keys]) (fun w' hw'=>xm_ rb n c ls.flatten r [] rest ls.flatten.length n w' rfl (by omega) (by simp) hs (hw'.has _ _ List.mem_cons_self)) (fun v1 o1 hS1=> ?_)
   obtain⟨rfl,r',rfl,l1,s1,t1⟩:=hS1
   rw[show r'++ []=r' from List.append_nil r']
   refine ko @Nat.add_zero ?_
   refine Cw.loopG (G:=shs_StG) [28,29,30,31,32,7,8,33,34,35,36,37,38,39,40,41,42,43,44,45,46,47,48,49,50,51,9,52,53,54,55,56,57,58,59,60,61,62,6] (fun g=> [(6,vi g.k)]) (fun g=> [(rb,zq_ rest (g.ls.flatten++g.r))]) (fun g=>0<g.k∧shs_Blks g.k g.ls∧zs_ g.r∧g.r.length<g.k∧qW_ d (g.ls.flatten++g.r)∧g.ls.flatten.length+g.r.length=n) (fun g=>n - g.k) ⟨20,ls,r'⟩ rfl rfl ?_ ?_
   ·exact⟨by show 0<20;omega,h1,s1,by show r'.length<20;omega,h2.trans (StP.St.app (StP.St.refl _ _) t1),by show ls.flatten.length+r'.length=n;omega⟩
   ·intro g j hg
    refine kv ?_
    clear h1 h2 h3 hb e0 l1 s1 t1
    obtain⟨k,ls,r⟩:=g
    obtain⟨h0,h1,h2,h3,h4,h5⟩:=hg
    dsimp only at h0 h1 h2 h3 h4 h5 ⊢
    by_cases hk:k<n
    ·have e1:2* (k:Int)=((2*k:Nat):Int):=by omega
     first|with_reducible refine ks [1000013] @e1 ?_|refine kp @e1 ?_
     refine Cw.loopG (G:=shs_StH) [33,34,35,36,37,38,39,40,41,42,43,44,7,45,46,47,48,8] (fun g=> [(7,vi g.l2.flatten.length),(8,vi (2*k+g.l2.flatten.length:Nat))]) (fun g=> [(rb,zq_ rest (g.l2.flatten++ (g.ls.flatten++r)))]) (fun g=>shs_Blks (2*k) g.l2∧shs_Blks k g.ls∧qW_ d (g.l2.flatten++ (g.ls.flatten++r))∧g.l2.flatten.length+ (g.ls.flatten.length+r.length)=n) (fun g=>g.ls.length) ⟨[],ls⟩ rfl rfl ?_ ?_
     ·refine⟨fun x hx=> ?_,h1,h4,by show 0+ (ls.flatten.length+r.length)=n;omega⟩
      exact absurd hx (by simp)
     ·clear h1 h4 h5
      intro g j hg
      refine kv ?_
      obtain⟨l2,ls⟩:=g
      obtain⟨g1,g2,g3,g4⟩:=hg
      dsimp only at g1 g2 g3 g4 ⊢
      by_cases hb:2*k+l2.flatten.length≤n
      ·have hls: ∃x y t,ls=x::y::t:=by
        cases ls with
        |nil=>rw[List.flatten_nil,List.length_nil] at g4;omega
        |cons x t=>
         have hx:=(g2 x List.mem_cons_self).1
         cases t with
         |nil=>rw[List.flatten_cons,List.flatten_nil,List.append_nil] at g4;omega
         |cons y t=>exact⟨x,y,t,rfl⟩
       obtain⟨x,y,t,rfl⟩:=hls
       have hx:=g2 x List.mem_cons_self
       have hy:=g2 y (by simp)
       have ht:shs_Blks k t:=fun u hu=>g2 u (by simp[hu])
       rw[List.flatten_cons,List.flatten_cons] at g3 g4
       simp only[List.length_append,List.append_assoc] at g3 g4
       have e2: (x::y::t).flatten++r=x++ (y++ (t.flatten++r)):=by simp
       rw[e2]
       have e3: (l2.flatten.length:Int)+ (k:Int)=((l2.flatten.length+k:Nat):Int):=by omega
       first|with_reducible refine ks [] @e3 ?_|refine kp @e3 ?_
       refine Ow.callE rfl rfl Tryd.call67 (by simp[keys]) (fun w' hw'=>xt_ (2*k) rb n c l2.flatten x y (t.flatten++r) rest l2.flatten.length (l2.flatten.length+k) (2*k+l2.flatten.length) w' rfl (by omega) (by omega) (by rw[List.length_append];omega) hs hx.2 hy.2 (by omega) (by omega) (by omega) (hw'.has _ _ List.mem_cons_self)) (fun v1 o1 hS1=> ?_)
       obtain⟨rfl,Z,rfl,z1,z2,z3⟩:=hS1
       have e4: ((2*k+l2.flatten.length:Nat):Int)+ ((2*k:Nat):Int)=((2*k+ (l2.flatten.length+2*k):Nat):Int):=by omega
       refine ko (And.intro @e1 @e4) ?_
       have e5: (l2++ [Z]).flatten=l2.flatten++Z:=by simp
       have e6: (l2.flatten++Z).length=2*k+l2.flatten.length:=by rw[List.length_append];omega
       refine Again.mk ⟨l2++ [Z],t⟩ (by show t.length< (x::y::t).length;simp only[List.length_cons];omega) ⟨g1.snoc (by omega) z2,ht, ?_, ?_⟩ ?_ ?_
       ·show qW_ d ((l2++ [Z]).flatten++ (t.flatten++r))
        rw[e5,List.append_assoc]
        refine g3.trans (StP.St.app (StP.St.refl _ _) ?_)
        rw[←List.append_assoc]
        exact StP.St.app z3 (StP.St.refl _ _)
       ·show(l2++ [Z]).flatten.length+ (t.flatten.length+r.length)=n
        rw[e5,e6];omega
       ·rw[e5,List.append_assoc]
       ·dsimp only
        rw[e5,e6,show l2.flatten.length+2*k=2*k+l2.flatten.length by omega]
        rfl
      ·have e7: (k:Int)*2=((2*k:Nat):Int):=by omega
       have e3: (l2.flatten.length:Int)+ (k:Int)=((l2.flatten.length+k:Nat):Int):=by omega
       have hls:ls= []∨ ∃x,ls= [x]:=by
        cases ls with
        |nil=>exact .inl rfl
        |cons x t=>
         have hx:=(g2 x List.mem_cons_self).1
         cases t with
         |nil=>exact .inr ⟨x,rfl⟩
         |cons y t=>
          have hy:=(g2 y (by simp)).1
          rw[List.flatten_cons,List.flatten_cons,List.length_append,List.length_append] at g4
          omega
       have fin: ∀r',(ls.flatten++r).length=r'.length→qW_ (ls.flatten++r) r'→qW_ d (l2.flatten++r')∧l2.flatten.length+r'.length=n:=by
        intro r' hl ht'
        rw[List.length_append] at hl
        exact⟨g3.trans (StP.St.app (StP.St.refl _ _) ht'),by omega⟩
       rcases hls with rfl| ⟨x,rfl⟩
       ·rw[List.flatten_nil,List.length_nil] at g4
        first|with_reducible refine ks [] @Nat.add_zero ?_|refine kp @Nat.add_zero ?_
        first|with_reducible refine ks [] (And.intro @e3 @e7) ?_|refine kp (And.intro @e3 @e7) ?_
        obtain⟨w1,w2⟩:=fin r rfl (StP.St.refl _ _)
        refine Again.mk ⟨2*k,l2,r⟩ (by show n - 2*k<n - k;omega) ⟨by show 0<2*k;omega,g1,h2,by show r.length<2*k;omega,w1,w2⟩ rfl rfl
       ·have hx:=g2 x List.mem_cons_self
        rw[List.flatten_cons,List.flatten_nil,List.append_nil] at g4 fin
        rw[List.flatten_cons,List.flatten_nil,List.append_nil]
        by_cases hr:r.length=0
        ·obtain rfl:r= []:=List.eq_nil_of_length_eq_zero hr
         first|with_reducible refine ks [] @Nat.add_zero ?_|refine kp @Nat.add_zero ?_
         first|with_reducible refine ks [] (And.intro @e3 @e7) ?_|refine kp (And.intro @e3 @e7) ?_
         obtain⟨w1,w2⟩:=fin x (by rw[List.append_nil]) (by rw[List.append_nil];exact StP.St.refl _ _)
         refine Again.mk ⟨2*k,l2,x⟩ (by show n - 2*k<n - k;omega) ⟨by show 0<2*k;omega,g1,hx.2,by show x.length<2*k;omega,w1,w2⟩ ?_ rfl
         rw[List.append_nil]
        ·have e8:x++r=x++ (r++ []):=by rw[List.append_nil]
         rw[e8]
         first|with_reducible refine ks [] @Nat.add_zero ?_|refine kp @Nat.add_zero ?_
         first|with_reducible refine ks [] (And.intro @e3 @e7) ?_|refine kp (And.intro @e3 @e7) ?_
         refine Ow.callE rfl rfl Tryd.call67 (by simp[keys]) (fun w' hw'=>xt_ (2*k) rb n c l2.flatten x r [] rest l2.flatten.length (l2.flatten.length+k) n w' rfl (by omega) (by omega) (by simp) hs hx.2 h2 (by omega) (by omega) (by omega) (hw'.has _ _ List.mem_cons_self)) (fun v1 o1 hS1=> ?_)
         obtain⟨rfl,Z,rfl,z1,z2,z3⟩:=hS1
         rw[show Z++ []=Z from List.append_nil Z]
         refine ko @e7 ?_
         obtain⟨w1,w2⟩:=fin Z (by rw[List.length_append];omega) z3
         refine Again.mk ⟨2*k,l2,Z⟩ (by show n - 2*k<n - k;omega) ⟨by show 0<2*k;omega,g1,z2,by show Z.length<2*k;omega,w1,w2⟩ rfl rfl
    ·first|with_reducible refine ks [] @Nat.add_zero ?_|refine kp @Nat.add_zero ?_
     have hZ:zs_ (ls.flatten++r):=by
      cases ls with
      |nil=>exact h2
      |cons x ls=>
       have hx:=h1 x List.mem_cons_self
       rw[List.flatten_cons,List.length_append] at h5
       obtain rfl:r= []:=List.eq_nil_of_length_eq_zero (by omega)
       cases ls with
       |nil=>simpa using hx.2
       |cons y ls=>
        have hy:=h1 y (by simp)
        rw[List.flatten_cons,List.length_append] at h5
        omega
     have hZl: (ls.flatten++r).length=d.length:=by rw[List.length_append];omega
     refine⟨_,_,_,(ke @Nat.add_zero),rfl,trivial, ?_⟩
     exact⟨rfl,_,rfl,hZl,hZ,h4⟩
end Go.Proofs
end
section
open Go Go.Proofs Go.Sx Go.StP
namespace Go.Proofs
set_option maxRecDepth 10000
set_option maxHeartbeats 4000000
set_option linter.unusedSimpArgs false
theorem wo_ (w:World):Rets Tryd.prog 66 #[.slice none 0 0,vi 0,vi 0,qg_] w (fun v D=>v= .tuple #[]∧D= []):=by
 refine Rets.enterV Tryd.func66 rfl (rs:= []) Tryd.results66 Tryd.ntmps66 ?_
 refine kf ?_
 first|with_reducible refine ks [] @Nat.add_zero ?_|refine kp @Nat.add_zero ?_
 refine Cw.loopG (G:=Unit) [12,13,14,17,9,18,19,20,21,22,23,24,25,26,27,28,29,30,31,32,33,34,37,38,39,40,41,42,43,44,45,46,47,48,49,50,51,52,35,36,15,16,8] (fun g=> [(8,vi 1)]) (fun g=> []) (fun g=>True) (fun g=>0) () rfl rfl ?_ ?_
 ·trivial
 ·intro g j hg
  refine kv ?_
  first|with_reducible refine ks [] @Nat.add_zero ?_|refine kp @Nat.add_zero ?_
  refine⟨_,(ke @Nat.add_zero),trivial, ?_⟩
  rfl
theorem QB_ (w:World):Rets Tryd.prog 46 #[.slice none 0 0,vi 0,qg_] w (fun v D=>v= .tuple #[]∧D= []):=by
 refine Rets.enterV Tryd.func46 rfl (rs:= []) Tryd.results46 Tryd.ntmps46 ?_
 refine kf ?_
 first|with_reducible refine ks [] @Nat.add_zero ?_|refine kp @Nat.add_zero ?_
 refine Cw.loopG (G:=Unit) [11,12,13,14,15,16,17,18,19,7,20,21,22,8] (fun g=> [(7,vi 0),(8,vi 20)]) (fun g=> []) (fun g=>True) (fun g=>0) () rfl rfl ?_ ?_
 ·trivial
 ·intro g j hg
  refine kv ?_
  first|with_reducible refine ks [] @Nat.add_zero ?_|refine kp @Nat.add_zero ?_
  refine Ow.callFV rfl Tryd.call66 (fun w' hw'=>wo_ w') ?_
  refine ko @Nat.add_zero ?_
  refine Cw.loopG (G:=Unit) [28,29,30,31,32,7,8,33,34,35,36,37,38,39,40,41,42,43,44,45,46,47,48,49,50,51,9,52,53,54,55,56,57,58,59,60,61,62,6] (fun g=> [(6,vi 20)]) (fun g=> []) (fun g=>True) (fun g=>0) () rfl rfl ?_ ?_
  ·trivial
  ·intro u ju hu
   refine kv ?_
   first|with_reducible refine ks [] @Nat.add_zero ?_|refine kp @Nat.add_zero ?_
   refine⟨_,(ke @Nat.add_zero),trivial, ?_⟩
   rfl
theorem v2_ (w:World):Rets Tryd.prog 15 #[.slice none 0 0,qg_] w (fun v D=>v= .tuple #[]∧D= []):=by
 refine Rets.enterV Tryd.func15 rfl (rs:= []) Tryd.results15 Tryd.ntmps15 ?_
 refine kf ?_
 first|with_reducible refine ks [] @JW_ ?_|refine kp @JW_ ?_
 refine Ow.callFV rfl Tryd.call46 (fun w' hw'=>QB_ w') ?_
 refine ko @Nat.add_zero ?_
 refine⟨_,(ke @Nat.add_zero),trivial, ?_⟩
 rfl
theorem j0_ (rb n c:Nat) (d:List ShL) (rest:List Value) (w:World) (hn:n=d.length) (hs:n<1000000) (ho:w.heap[rb]? =some (zq_ rest d)):
  Rets Tryd.prog 15 #[vsl rb 0 n c,qg_] w (fun v D=> ∃o,D= [(rb,o)]∧v= .tuple #[]∧ ∃Z,o=zq_ rest Z∧Z.length=d.length∧zs_ Z∧qW_ d Z):=by
 refine Rets.enterM Tryd.func15 rfl (rs:= []) Tryd.results15 Tryd.ntmps15 ho ?_
 refine kf ?_
 first|with_reducible refine ks [] @Nat.add_zero ?_|refine kp @Nat.add_zero ?_
 refine Ow.callE rfl rfl Tryd.call46 (by simp[keys]) (fun w' hw'=>Zi_ rb n c d rest w' hn hs (hw'.has _ _ List.mem_cons_self)) (fun v1 o1 hS1=> ?_)
 obtain⟨rfl,Z,rfl,z1,z2,z3⟩:=hS1
 refine ko @Nat.add_zero ?_
 refine⟨_,_,_,(ke @Nat.add_zero),rfl,trivial, ?_⟩
 exact⟨rfl,Z,rfl,z1,z2,z3⟩
def shs_SortOf (l Z:List ShL):Prop:=Z.length=l.length∧zs_ Z∧qW_ l Z
theorem shs_SortOf.eq {l Z Z':List ShL} (h:shs_SortOf l Z) (h':shs_SortOf l Z'):Z=Z':=StP.St.eq h.2.1 h'.2.1 (h.2.2.symm.trans h'.2.2)
end Go.Proofs
end
section
namespace Go.Proofs
open Go Go.Shelf
set_option maxRecDepth 100000
def Tryd.sortLn_ren:Go.Shelf.Ren:=⟨fun|6=>55|15=>70|14=>69|28=>84|29=>85|20=>76|21=>77|22=>78|23=>79|24=>80|25=>81|26=>82|27=>83|46=>90|47=>91|48=>92|49=>93|50=>94|57=>96|n=>n,fun|22=>51|24=>38|25=>73|3=>3|39=>113|0=>0|53=>121|55=>142|4=>4|46=>135|45=>134|50=>71|5=>5|9=>9|66=>146|70=>150|76=>153|77=>79|n=>n,fun|n=>n⟩
theorem Tryd.sortLn:Go.Proofs.SlLaysF0.n6 Tryd.prog Tryd.sortLn_ren:={
 mixed:=by kernel_rfl
 f6:=⟨Tryd.f55.name,by decide,Tryd.func55.trans (congrArg some (by kernel_rfl))⟩
 f14:=⟨Tryd.f69.name,by decide,Tryd.func69.trans (congrArg some (by kernel_rfl))⟩
 f15:=Tryd.func70.trans (congrArg some (by kernel_rfl))
 f20:=⟨Tryd.f76.name,by decide,Tryd.func76.trans (congrArg some (by kernel_rfl))⟩
 f21:=⟨Tryd.f77.name,by decide,Tryd.func77.trans (congrArg some (by kernel_rfl))⟩
 f22:=⟨Tryd.f78.name,by decide,Tryd.func78.trans (congrArg some (by kernel_rfl))⟩
 f23:=⟨Tryd.f79.name,by decide,Tryd.func79.trans (congrArg some (by kernel_rfl))⟩
 f24:=⟨Tryd.f80.name,by decide,Tryd.func80.trans (congrArg some (by kernel_rfl))⟩
 f25:=⟨Tryd.f81.name,by decide,Tryd.func81.trans (congrArg some (by kernel_rfl))⟩
 f26:=⟨Tryd.f82.name,by decide,Tryd.func82.trans (congrArg some (by kernel_rfl))⟩
 f27:=⟨Tryd.f83.name,by decide,Tryd.func83.trans (congrArg some (by kernel_rfl))⟩
 f28:=Tryd.func84.trans (congrArg some (by kernel_rfl))
 f29:=Tryd.func85.trans (congrArg some (by kernel_rfl))
 f46:=⟨Tryd.f90.name,by decide,Tryd.func90.trans (congrArg some (by kernel_rfl))⟩
 f47:=Tryd.func91.trans (congrArg some (by kernel_rfl))
 f48:=Tryd.func92.trans (congrArg some (by kernel_rfl))
 f49:=⟨Tryd.f93.name,by decide,Tryd.func93.trans (congrArg some (by kernel_rfl))⟩
 f50:=⟨Tryd.f94.name,by decide,Tryd.func94.trans (congrArg some (by kernel_rfl))⟩
 f57:=⟨Tryd.f96.name,by decide,Tryd.func96.trans (congrArg some (by kernel_rfl))⟩
 t0:=Tryd.underlying0
 a0:=Tryd.isAgg0
 z0:=Tryd.sizeOf0
 v0:=Tryd.zeroValue0
 t3:=Tryd.underlying3
 a3:=Tryd.isAgg3
 z3:=Tryd.sizeOf3
 v3:=Tryd.zeroValue3
 t4:=Tryd.underlying4
 a4:=Tryd.isAgg4
 z4:=Tryd.sizeOf4
 v4:=Tryd.zeroValue4
 t5:=Tryd.underlying5
 a5:=Tryd.isAgg5
 z5:=Tryd.sizeOf5
 v5:=Tryd.zeroValue5
 t9:=Tryd.underlying9
 a9:=Tryd.isAgg9
 z9:=Tryd.sizeOf9
 v9:=Tryd.zeroValue9
 t22:=Tryd.underlying51
 a22:=Tryd.isAgg51
 z22:=Tryd.sizeOf51
 v22:=Tryd.zeroValue51
 t25:=Tryd.underlying73
 a25:=Tryd.isAgg73
 z25:=Tryd.sizeOf73
 v25:=Tryd.zeroValue73
 t39:=Tryd.underlying113
 a39:=Tryd.isAgg113
 z39:=Tryd.sizeOf113
 v39:=Tryd.zeroValue113
 t45:=Tryd.underlying134
 a45:=Tryd.isAgg134
 z45:=Tryd.sizeOf134
 v45:=Tryd.zeroValue134
 t46:=Tryd.underlying135
 a46:=Tryd.isAgg135
 z46:=Tryd.sizeOf135
 v46:=Tryd.zeroValue135
 t50:=Tryd.underlying71
 a50:=Tryd.isAgg71
 z50:=Tryd.sizeOf71
 v50:=Tryd.zeroValue71
 t53:=Tryd.underlying121
 a53:=Tryd.isAgg121
 z53:=Tryd.sizeOf121
 v53:=Tryd.zeroValue121
 t55:=Tryd.underlying142
 a55:=Tryd.isAgg142
 z55:=Tryd.sizeOf142
 v55:=Tryd.zeroValue142
 t66:=Tryd.underlying146
 a66:=Tryd.isAgg146
 z66:=Tryd.sizeOf146
 v66:=Tryd.zeroValue146
 t70:=Tryd.underlying150
 a70:=Tryd.isAgg150
 z70:=Tryd.sizeOf150
 v70:=Tryd.zeroValue150
 t76:=Tryd.underlying153
 a76:=Tryd.isAgg153
 z76:=Tryd.sizeOf153
 v76:=Tryd.zeroValue153
 t77:=Tryd.underlying79
 a77:=Tryd.isAgg79
 z77:=Tryd.sizeOf79
 v77:=Tryd.zeroValue79}
end Go.Proofs
end
namespace Go.Sx
open Go
def kv (e:MapEntry):Value×Value:=(e.key,e.val)
def ItR (o:Obj) (bm:Nat) (om:Obj) (m dn lf:X5_):Prop:=
 ∃es clock,∃ds:List MapEntry,om= .map es clock∧(es.toList.map (·.born)++ [clock]).Pairwise (· < ·)∧o= .mapIter (some bm) clock (ds.map (·.born)).toArray clock∧
  ds.map kv=dn.map kZ_∧(∀d,d∈ds→d∈es.toList)∧((es.toList.filter fun e=> !(ds.map (·.born)).contains e.born).map kv=lf.map kZ_)∧(dn++lf).Perm m
theorem wm_ {l:List MapEntry} {c:Nat} (h: (l.map (·.born)++ [c]).Pairwise (· < ·)): (l.map (·.born)).Nodup:=
 ((List.pairwise_append.1 h).1).imp fun h=>Nat.ne_of_lt h
theorem ahX_ {l:List MapEntry} {c:Nat} (h: (l.map (·.born)++ [c]).Pairwise (· < ·)): ∀x,x∈l→x.born<c:=fun x hx=>
 (List.pairwise_append.1 h).2.2 _ (List.mem_map.2 ⟨x,hx,rfl⟩) c (List.mem_singleton.2 rfl)
theorem KH_ (es:Array MapEntry) (ds:List MapEntry): (leftOf es (ds.map (·.born)).toArray).toList=es.toList.filter fun e=> !(ds.map (·.born)).contains e.born:=by
 unfold leftOf
 rw[Array.toList_filter]
 simp
theorem ItR.start {bm:Nat} {om:Obj} {m:X5_} (h:MapR om m): ∃es clock,om= .map es clock∧ItR (.mapIter (some bm) clock #[] clock) bm om m [] m:=by
 obtain⟨es,clock,rfl,h1,h2⟩:=h
 refine⟨es,clock,rfl,es,clock,[],rfl,h2,rfl,rfl,(fun d hd=>by cases hd), ?_,by rw[List.nil_append]⟩
 rw[show(es.toList.filter fun e=> !(([]:List MapEntry).map (·.born)).contains e.born)=es.toList from List.filter_eq_self.2 (fun _ _=>rfl)]
 exact h1
theorem ItR.step {bm:Nat} {om:Obj} {m dn lf:X5_} {es:Array MapEntry} {clock:Nat} {ds:List MapEntry} {e:MapEntry} (hb: (es.toList.map (·.born)++ [clock]).Pairwise (· < ·))
  (hd:ds.map kv=dn.map kZ_) (hm: ∀d,d∈ds→d∈es.toList) (hl: (es.toList.filter fun e=> !(ds.map (·.born)).contains e.born).map kv=lf.map kZ_) (hp: (dn++lf).Perm m)
  (he:e∈es.toList.filter fun e=> !(ds.map (·.born)).contains e.born) (hom:om= .map es clock):
  ∃p lf',kv e=kZ_ p∧lf.length=lf'.length+1∧ItR (.mapIter (some bm) clock ((ds.map (·.born)).toArray.push e.born) clock) bm om m (dn++ [p]) lf':=by
 obtain⟨A,C,hAC⟩:=List.append_of_mem he
 rw[hAC,List.map_append,List.map_cons] at hl
 obtain⟨l1,l2,rfl,h1,h2⟩:=List.append_eq_map_iff.1 hl
 obtain⟨p,l3,rfl,h3,h4⟩:=(List.map_eq_cons_iff.1 h2)
 refine⟨p,l1++l3,h3.symm,by simp;omega,es,clock,ds++ [e],hom,hb,by simp,by simp[hd,h3], ?_, ?_, ?_⟩
 ·intro d hd'
  rcases List.mem_append.1 hd' with h|h
  ·exact hm d h
  ·rw[List.mem_singleton] at h;subst h;exact(List.mem_filter.1 he).1
 ·have hnd: ((A++e::C).map (·.born)).Nodup:=by
   rw[←hAC]
   exact(wm_ hb).sublist ((List.filter_sublist).map _)
  have e1: (es.toList.filter fun x=> !((ds++ [e]).map (·.born)).contains x.born)=(A++e::C).filter fun x=> !(x.born==e.born):=by
   rw[←hAC,List.filter_filter]
   refine List.filter_congr fun x hx=> ?_
   simp only[List.map_append,List.map_cons,List.map_nil,List.contains_append,List.contains_cons,List.contains_nil,Bool.or_false,Bool.not_or]
   rw[Bool.and_comm]
  rw[List.map_append,List.map_cons,List.nodup_append] at hnd
  obtain⟨-,hn2,hn3⟩:=hnd
  rw[List.nodup_cons] at hn2
  have e2: ((A++e::C).filter fun x=> !(x.born==e.born))=A++C:=by
   rw[List.filter_append,List.filter_cons]
   simp only[beq_self_eq_true,Bool.not_true,Bool.false_eq_true, ↓reduceIte]
   congr 1
   ·refine List.filter_eq_self.2 fun x hx=> ?_
    have:=hn3 x.born (List.mem_map.2 ⟨x,hx,rfl⟩) e.born List.mem_cons_self
    simpa using this
   ·refine List.filter_eq_self.2 fun x hx=> ?_
    have:x.born≠e.born:=fun h=>hn2.1 (h▸List.mem_map.2 ⟨x,hx,rfl⟩)
    simpa using this
  rw[e1,e2,List.map_append,List.map_append,h1,h4]
 ·refine List.Perm.trans ?_ hp
  rw[List.append_assoc]
  refine List.Perm.append_left dn ?_
  rw[List.singleton_append]
  exact List.perm_middle.symm
section
variable {P:Program} {w0:World} {f:Fr} {L:za_} {N:Fr→za_→Prop} {ops:Array Oper} {rest:List Oper} {md:Md}
 {d:Option Tmp} {ty:TypeId} {ps:String} {af:Array Edge} {g:Option (Nat×Bool)}
def itv (b:Nat):Value:= .pointer (some ⟨b,0,none⟩)
end
end Go.Sx
namespace Go.Sx
open Go
def ItG {α β:Type} (encK:α→Value) (encV:β→Value) (o:Obj) (bm:Nat) (om:Obj) (m dn lf:List (α×β)):Prop:=
 ∃es clock,∃ds:List MapEntry,om= .map es clock∧(es.toList.map (·.born)++ [clock]).Pairwise (· < ·)∧o= .mapIter (some bm) clock (ds.map (·.born)).toArray clock∧
  ds.map kv=dn.map (xE_ encK encV)∧(∀d,d∈ds→d∈es.toList)∧((es.toList.filter fun e=> !(ds.map (·.born)).contains e.born).map kv=lf.map (xE_ encK encV))∧(dn++lf).Perm m
theorem ItG.start {α β:Type} {encK:α→Value} {encV:β→Value} {bm:Nat} {om:Obj} {m:List (α×β)} (h:MapG encK encV om m): ∃es clock,om= .map es clock∧ItG encK encV (.mapIter (some bm) clock #[] clock) bm om m [] m:=by
 obtain⟨es,clock,rfl,h1,h2⟩:=h
 refine⟨es,clock,rfl,es,clock,[],rfl,h2,rfl,rfl,(fun d hd=>by cases hd), ?_,by rw[List.nil_append]⟩
 rw[show(es.toList.filter fun e=> !(([]:List MapEntry).map (·.born)).contains e.born)=es.toList from List.filter_eq_self.2 (fun _ _=>rfl)]
 exact h1
theorem ItG.step {α β:Type} {encK:α→Value} {encV:β→Value} {bm:Nat} {om:Obj} {m dn lf:List (α×β)} {es:Array MapEntry} {clock:Nat} {ds:List MapEntry} {e:MapEntry} (hb: (es.toList.map (·.born)++ [clock]).Pairwise (· < ·))
  (hd:ds.map kv=dn.map (xE_ encK encV)) (hm: ∀d,d∈ds→d∈es.toList) (hl: (es.toList.filter fun e=> !(ds.map (·.born)).contains e.born).map kv=lf.map (xE_ encK encV)) (hp: (dn++lf).Perm m)
  (he:e∈es.toList.filter fun e=> !(ds.map (·.born)).contains e.born) (hom:om= .map es clock):
  ∃p lf',kv e=xE_ encK encV p∧lf.length=lf'.length+1∧ItG encK encV (.mapIter (some bm) clock ((ds.map (·.born)).toArray.push e.born) clock) bm om m (dn++ [p]) lf':=by
 obtain⟨A,C,hAC⟩:=List.append_of_mem he
 rw[hAC,List.map_append,List.map_cons] at hl
 obtain⟨l1,l2,rfl,h1,h2⟩:=List.append_eq_map_iff.1 hl
 obtain⟨p,l3,rfl,h3,h4⟩:=(List.map_eq_cons_iff.1 h2)
 refine⟨p,l1++l3,h3.symm,by simp;omega,es,clock,ds++ [e],hom,hb,by simp,by simp[hd,h3], ?_, ?_, ?_⟩
 ·intro d hd'
  rcases List.mem_append.1 hd' with h|h
  ·exact hm d h
  ·rw[List.mem_singleton] at h;subst h;exact(List.mem_filter.1 he).1
 ·have hnd: ((A++e::C).map (·.born)).Nodup:=by
   rw[←hAC]
   exact(wm_ hb).sublist ((List.filter_sublist).map _)
  have e1: (es.toList.filter fun x=> !((ds++ [e]).map (·.born)).contains x.born)=(A++e::C).filter fun x=> !(x.born==e.born):=by
   rw[←hAC,List.filter_filter]
   refine List.filter_congr fun x hx=> ?_
   simp only[List.map_append,List.map_cons,List.map_nil,List.contains_append,List.contains_cons,List.contains_nil,Bool.or_false,Bool.not_or]
   rw[Bool.and_comm]
  rw[List.map_append,List.map_cons,List.nodup_append] at hnd
  obtain⟨-,hn2,hn3⟩:=hnd
  rw[List.nodup_cons] at hn2
  have e2: ((A++e::C).filter fun x=> !(x.born==e.born))=A++C:=by
   rw[List.filter_append,List.filter_cons]
   simp only[beq_self_eq_true,Bool.not_true,Bool.false_eq_true, ↓reduceIte]
   congr 1
   ·refine List.filter_eq_self.2 fun x hx=> ?_
    have:=hn3 x.born (List.mem_map.2 ⟨x,hx,rfl⟩) e.born List.mem_cons_self
    simpa using this
   ·refine List.filter_eq_self.2 fun x hx=> ?_
    have:x.born≠e.born:=fun h=>hn2.1 (h▸List.mem_map.2 ⟨x,hx,rfl⟩)
    simpa using this
  rw[e1,e2,List.map_append,List.map_append,h1,h4]
 ·refine List.Perm.trans ?_ hp
  rw[List.append_assoc]
  refine List.Perm.append_left dn ?_
  rw[List.singleton_append]
  exact List.perm_middle.symm
section
variable {α β:Type} {encK:α→Value} {encV:β→Value} {P:Program} {w0:World} {f:Fr} {L:za_} {N:Fr→za_→Prop} {ops:Array Oper} {rest:List Oper} {md:Md}
 {d:Option Tmp} {ty:TypeId} {ps:String} {af:Array Edge} {g:Option (Nat×Bool)}
theorem Ow.rangeMapG {t kt vt:TypeId} {x:Operand} {bm:Nat} {om:Obj} {m:List (α×β)} {md':Md} (he:md.turn=some md') (hs:zj_ ops f ⟨d, .range t x,ty,ps,af,g⟩=false) (hu:P.underlying t=some (.map kt vt))
  (hx:ev f x=vm bm) (hl:zx_ w0 L bm=some om) (hm:MapG encK encV om m)
  (hn: ∀b o,jA_ L b→w0.heap.size≤b→ItG encK encV o bm om m [] m→Ow P w0 ops md' rest (qf_ f d (itv b)) (L++ [(b,o)]) N):
  Ow P w0 ops md (⟨d, .range t x,ty,ps,af,g⟩::rest) f L N:=by
 obtain⟨es,clock,rfl,hI⟩:=ItG.start (bm:=bm) hm
 refine Ow.step he rfl hs fun w hw=> .inl ⟨itv w.heap.size,w.alloc (.mapIter (some bm) clock #[] clock),_, ?_,hw.alloc _,hn _ _ (qc_ fun b hb=>hw.lt hb) hw.size hI⟩
 have hb:=hw.read hl
 have: (Instr.range t (vm bm)).run P w= .ok (itv w.heap.size) (w.alloc (.mapIter (some bm) clock #[] clock)):=by
  simp only[Instr.range,vm,Sem.run_bind,run_underlying hu w,Result.andThen_ok,jg_ hb]
  rfl
 simp only[execOp,Sem.run_bind,hx]
 rw[this];rfl
theorem Ow.nextMapG {x:Operand} {r bm:Nat} {o om:Obj} {m dn lf:List (α×β)} {md':Md} (he:md.turn=some md') (hs:zj_ ops f ⟨d, .next x false,ty,ps,af,g⟩=false)
  (hx:ev f x=itv r) (hl:look L r=some o) (hlm:zx_ w0 L bm=some om) (hI:ItG encK encV o bm om m dn lf)
  (h0:lf= []→Ow P w0 ops md' rest (qf_ f d (.tuple #[.bool false])) L N)
  (h1: ∀p o' lf',lf.length=lf'.length+1→ItG encK encV o' bm om m (dn++ [p]) lf'→Ow P w0 ops md' rest (qf_ f d (.tuple #[.bool true,encK p.1,encV p.2])) (setB L r o') N):
  Ow P w0 ops md (⟨d, .next x false,ty,ps,af,g⟩::rest) f L N:=by
 refine Ow.step he rfl hs fun w hw=> ?_
 have hr:=hw.has _ _ (zC_ hl)
 have hb:=hw.read hlm
 obtain⟨es,clock,ds,rfl,hbo,rfl,hd,hm,hlf,hp⟩:=hI
 rcases run_next_at (P:=P) w ty r bm clock clock (ds.map (·.born)).toArray es clock hr hb (ahX_ hbo) (Nat.le_refl _) with⟨hz,hrun⟩ | ⟨e,hem,w1,hw1,hrun⟩
 ·refine .inl ⟨.tuple #[.bool false],w,L, ?_,hw,h0 ?_⟩
  ·simp only[execOp,Sem.run_bind,hx,itv]
   rw[hrun];rfl
  ·have: (leftOf es (ds.map (·.born)).toArray).toList= []:=by
    rw[Array.toList_eq_nil_iff];exact Array.eq_empty_of_size_eq_zero hz
   rw[KH_] at this
   rw[this] at hlf
   exact(List.map_eq_nil_iff.1 hlf.symm)
 ·rw[KH_] at hem
  obtain⟨p,lf',hk,hlen,hI'⟩:=ItG.step (bm:=bm) hbo hd hm hlf hp hem rfl
  simp only[kv,xE_,Prod.mk.injEq] at hk
  have hw1':Hp w0 L w1:=by rcases hw1 with rfl|rfl;exact hw;exact hw.drew
  refine .inl ⟨.tuple #[.bool true,encK p.1,encV p.2],ChangeMaps.setBlock w1 r (.mapIter (some bm) clock ((ds.map (·.born)).toArray.push e.born) clock),_, ?_,hw1'.set (zl_ hl) rfl rfl rfl rfl,h1 p _ lf' hlen hI'⟩
  simp only[execOp,Sem.run_bind,hx,itv]
  rw[hrun,hk.1,hk.2];rfl
theorem Ow.entryMapG {x:Operand} {r bm:Nat} {o om:Obj} {m dn lf:List (α×β)} {p:α×β} {md':Md} (he:md.turn=some md') (hs:zj_ ops f ⟨d, .entry x,ty,ps,af,g⟩=false)
  (hx:ev f x=itv r) (hl:zx_ w0 L r=some o) (hlm:zx_ w0 L bm=some om) (hI:ItG encK encV o bm om m (dn++ [p]) lf)
  (hn:Ow P w0 ops md' rest (qf_ f d (.tuple #[encK p.1,encV p.2])) L N):
  Ow P w0 ops md (⟨d, .entry x,ty,ps,af,g⟩::rest) f L N:=by
 refine Ow.step he rfl hs fun w hw=> .inl ⟨_,w,L, ?_,hw,hn⟩
 have hr:=hw.read hl
 have hb:=hw.read hlm
 obtain⟨es,clock,ds,rfl,hbo,rfl,hd,hm,hlf,hp⟩:=hI
 rw[List.map_append,List.map_cons,List.map_nil] at hd
 obtain⟨d1,d2,rfl,-,h2⟩:=List.map_eq_append_iff.1 hd
 obtain⟨e,d3,rfl,h3,h4⟩:=List.map_eq_cons_iff.1 h2
 obtain rfl:=List.map_eq_nil_iff.1 h4
 simp only[kv,xE_,Prod.mk.injEq] at h3
 have hs': ((d1++ [e]).map (·.born)).toArray=(d1.map (·.born)).toArray.push e.born:=by simp
 rw[hs'] at hr
 have hrun:=run_entry_at (P:=P) w r bm clock (d1.map (·.born)).toArray es clock e hr hb (hm e (by simp)) (wm_ hbo)
 simp only[execOp,Sem.run_bind,hx,itv]
 rw[hrun,h3.1,h3.2];rfl
end
theorem Vv_ (l:List UInt8):Instr.sameBits 10000 (.agg (a8 l)) (.agg (a8 l))=true:=by
 show Instr.sameBits (9999+1) _ _=true
 unfold Instr.sameBits
 simp only[beq_self_eq_true,Bool.true_and,List.all_eq_true]
 intro p hp
 obtain⟨i,hi,rfl⟩:=List.getElem_of_mem hp
 rw[List.getElem_zip]
 simp[a8,Instr.sameBits]
theorem X6_ {P:Program} {t e:TypeId} {n:Nat} (hu:P.underlying t=some (.array n e)) (he:P.underlying e=some (.int .u8)) (hm:qi_ P e=some (false,1)) (l l':List UInt8) (hl:l.length=n) (hl':l'.length=n) (w:World):
  (Op.equal t (.agg (a8 l)) (.agg (a8 l'))).run P w= .ok (l==l') w:=
 adQ_ P 8 9992 t _ _ _ (aco_ (d:=6) hu he hm l l' hl hl') w
theorem Qn_ {P:Program} {t e:TypeId} {n:Nat} (hu:P.underlying t=some (.array n e)) (he:P.underlying e=some (.int .u8)) (hm:qi_ P e=some (false,1)) (l:List UInt8) (hl:l.length=n) (em:Bool) (w:World):
  (Instr.checkKey em 10000 t (.agg (a8 l))).run P w= .ok () w:=by
 show(Instr.checkKey em (9999+1) t (.agg (a8 l))).run P w= .ok () w
 rw[Instr.checkKey]
 simp only[Sem.run_bind,run_underlying hu,Result.andThen_ok]
 simp only[Std.Legacy.Range.forIn_eq_forIn_range',Std.Legacy.Range.size,Nat.sub_zero,Nat.add_one_sub_one,Nat.div_one]
 have each: ∀j,j∈List.range' 0 n→j<l.length:=by
  intro j hj
  rw[List.mem_range'] at hj
  obtain⟨i,hi,rfl⟩:=hj
  omega
 generalize List.range' 0 n=is at each
 induction is with
 |nil=>simp
 |cons j is ih=>
  have hj:=each j (by simp)
  have p1: (part e (a8 l) (j*1)).run P w= .ok (v8 (l.getD j 0)) w:=by
   refine q7_ hm ?_ w
   simp[vW_,a8,v8,hj]
  have p2: (Instr.checkKey em 9999 e (v8 (l.getD j 0))).run P w= .ok () w:=by
   show(Instr.checkKey em (9998+1) e (v8 (l.getD j 0))).run P w= .ok () w
   rw[Instr.checkKey]
   simp only[Sem.run_bind,run_underlying he,Result.andThen_ok,v8]
   rfl
  simp only[List.forIn_cons,Sem.run_bind,zp_ hm w,Result.andThen_ok,p1,p2,Sem.run_pure]
  exact ih (fun y hy=>each y (by simp[hy]))
theorem aa9_ {n:Nat} {e:TypeId} (x:Value): ∀ (es:List MapEntry) (i:Nat),es≠ []→Instr.findNow (.array n e) x es i=none
 | [],_,h=>absurd rfl h
 |_::_,_,_=>by cases x<;>rfl
theorem wN_ {α β:Type} [BEq α] {P:Program} {kt:TypeId} {encK:α→Value} {encV:β→Value} (he: ∀a b w,(Op.equal kt (encK a) (encK b)).run P w= .ok (a==b) w) (w:World) (k:α): ∀ (es:List MapEntry) (m:List (α×β)) (i:Nat),es.map (fun e=>(e.key,e.val))=m.map (xE_ encK encV)→
  (Instr.findAsking kt (encK k) es i).run P w= .ok ((K6_ k m i).map fun p=>(p.1,encV p.2)) w
 | [],[],_,_=>rfl
 | [],_::_,_,h=>by cases h
 |_::_,[],_,h=>by cases h
 |e::es,p::m,i,h=>by
  simp only[List.map_cons,List.cons.injEq,xE_,Prod.mk.injEq] at h
  obtain⟨⟨h1,h2⟩,h3⟩:=h
  unfold Instr.findAsking K6_
  rw[Sem.run_bind,h1,he]
  simp only[Result.andThen_ok]
  cases hk: (k==p.1)
  ·simp only[Bool.false_eq_true, ↓reduceIte]
   exact wN_ he w k es m (i+1) h3
  ·simp[h2]
theorem KeyOk.arr {α:Type} [BEq α] {P:Program} {kt e:TypeId} {n:Nat} (hu:P.underlying kt=some (.array n e)) (he:P.underlying e=some (.int .u8)) (hm:qi_ P e=some (false,1)) (bs:α→List UInt8) (hb: ∀a,(bs a).length=n) (hq: ∀a b,(bs a==bs b)=(a==b)):
  KeyOk P kt (fun a:α=> .agg (a8 (bs a))) where
 find encV w k es m h:=by
  cases es with
  |nil=>
   cases m with
   |nil=>simp only[Instr.findKey,Sem.run_bind,run_underlying hu w,Result.andThen_ok];rfl
   |cons=>cases h
  |cons e0 es=>
   simp only[Instr.findKey,Sem.run_bind,run_underlying hu w,Result.andThen_ok]
   rw[aa9_ _ _ _ (by simp)]
   exact wN_ (encK:=fun a:α=> .agg (a8 (bs a))) (fun a b w=>by rw[X6_ hu he hm _ _ (hb a) (hb b) w,hq]) w k _ m 0 h
 check w e k:=Qn_ hu he hm _ (hb k) e w
 bits k:=Vv_ _
section
variable {α β:Type} [BEq α] [LawfulBEq α] {encK:α→Value} {encV:β→Value} {P:Program} {w0:World} {f:Fr} {L:za_} {N:Fr→za_→Prop} {ops:Array Oper} {rest:List Oper} {md:Md}
 {d:Option Tmp} {ty:TypeId} {ps:String} {af:Array Edge} {g:Option (Nat×Bool)}
def hasG (k:α) (m:List (α×β)):Bool:=m.any fun p=>k==p.1
omit [LawfulBEq α] in
theorem Ow.mapGet2G {t kt vt:TypeId} {x y:Operand} {b:Nat} {o:Obj} {m:List (α×β)} {k:α} {z:β} {md':Md} (he:md.turn=some md') (hs:zj_ ops f ⟨d, .lookup t x y true,ty,ps,af,g⟩=false) (hu:P.underlying t=some (.map kt vt)) (hk:KeyOk P kt encK)
  (hz:qb_ P vt=some (encV z)) (hx:ev f x=vm b) (hy:ev f y=encK k) (hl:zx_ w0 L b=some o) (hm:MapG encK encV o m)
  (hn:Ow P w0 ops md' rest (qf_ f d (.tuple #[encV (getG k z m), .bool (hasG k m)])) L N):
  Ow P w0 ops md (⟨d, .lookup t x y true,ty,ps,af,g⟩::rest) f L N:=by
 obtain⟨es,c,rfl,hes,-⟩:=hm
 refine Ow.step he rfl hs fun w hw=> ?_
 have hb:=hw.read hl
 have hfk:=hk.find encV w k es.toList m hes
 refine .inl ⟨.tuple #[encV (getG k z m), .bool (hasG k m)],w,L, ?_,hw,hn⟩
 have hff:=XW_ k m 0
 have hh:hasG k m=(m.find? fun p=>k==p.1).isSome:=by
  unfold hasG;rw[Bool.eq_iff_iff,List.find?_isSome,List.any_eq_true]
 have: (Instr.lookup t (vm b) (encK k) true).run P w= .ok (.tuple #[encV (getG k z m), .bool (hasG k m)]) w:=by
  cases hf:K6_ k m 0 with
  |none=>
   rw[hf] at hfk hff
   cases h:m.find? fun p=>k==p.1 with
   |some q=>rw[h] at hff;cases hff
   |none=>
    have hg:getG k z m=z:=by unfold getG;rw[h]
    rw[h] at hh
    simp only[Instr.lookup,vm,Sem.run_bind,run_underlying hu w,Result.andThen_ok,jg_ hb,Sem.run_pure,hk.check,hfk,Option.map_none,jq_ hz w,hg,hh, ↓reduceIte,Option.isSome_none]
  |some p=>
   obtain⟨j,a⟩:=p
   rw[hf] at hfk hff
   cases h:m.find? fun p=>k==p.1 with
   |none=>rw[h] at hff;cases hff
   |some q=>
    have hg:getG k z m=a:=by
     unfold getG
     rw[h] at hff ⊢
     simp only[Option.map_some,Option.some.injEq] at hff;exact hff.symm
    rw[h] at hh
    simp only[Instr.lookup,vm,Sem.run_bind,run_underlying hu w,Result.andThen_ok,jg_ hb,Sem.run_pure,hk.check,hfk,Option.map_some,hg,hh, ↓reduceIte,Option.isSome_some]
 simp only[execOp,Sem.run_bind,hx,hy]
 rw[this];rfl
end
end Go.Sx
section
open Go Go.Proofs Go.Sx Go.StP Go.Flo Go.Shelf Go.Sort
namespace Go.Proofs
set_option maxRecDepth 10000
set_option maxHeartbeats 1000000
set_option linter.unusedSimpArgs false
theorem ajn_ {b o1 k1 c o2 k2:Nat} {x y:IdL} {a1 a2:Array Value} {E E2:TypeId} {f1 f2:Nat×Nat} {w:World} (hb:w.heap[b]? =some (.cells a1 E f1)) (h1:j1_ a1 o1 x.l) (hc:w.heap[c]? =some (.cells a2 E2 f2)) (h2:j1_ a2 o2 y.l):
  Calls Tryd.prog 36 #[vsl b o1 32 k1,vsl c o2 32 k2] w fun e w'=>e= .returned (vi (wk_ x y))∧w'=w:=by
 have hr:=KB_ (k1:=k1) (k2:=k2) hb h1 hc h2
 rw[x.h,y.h] at hr
 have e:Lib.compareBytes x.l y.l=wk_ x y:=aad_ _ _
 rw[e] at hr
 clear e
 generalize wk_ x y=r at hr ⊢
 generalize vsl b o1 32 k1=u at hr ⊢
 generalize vsl c o2 32 k2=v at hr ⊢
 go_enter Tryd.func36,Tryd.ntmps36
 go_wp2
 go_ret
 exact⟨rfl,rfl⟩
theorem abX_ (x y:LnL) (W:World):Calls Tryd.prog 30 #[.agg (lnC x).toArray, .agg (lnC y).toArray] W fun e w'=>e= .returned (.int .i64 (wk_ x.id y.id))∧ ∃q os',w'=Go.Sort.grow (W.drewN q) os':=by
 have hx: (Value.agg (lnC x).toArray).cells=(lnC x).toArray:=rfl
 have hy: (Value.agg (lnC y).toArray).cells=(lnC y).toArray:=rfl
 go_enter Tryd.func30,Tryd.ntmps30
 go_wp2
 have h0: ((W.alloc (Obj.cells (lnC x).toArray 38)).alloc (Obj.cells (lnC y).toArray 38)).heap[W.heap.size]? =some (.cells (lnC x).toArray 38 (0,0)):=by
  show((W.heap.push _).push _)[W.heap.size]? =_
  rw[Array.getElem?_push,if_neg (by simp),Array.getElem?_push,if_pos rfl]
 have h1: ((W.alloc (Obj.cells (lnC x).toArray 38)).alloc (Obj.cells (lnC y).toArray 38)).heap[W.heap.size+1]? =some (.cells (lnC y).toArray 38 (0,0)):=by
  show((W.heap.push _).push _)[W.heap.size+1]? =_
  rw[Array.getElem?_push,if_pos (by simp)]
 refine wp_region_quiet_lit (by kernel_rfl) (by kernel_rfl) ?_
 quiet_step (skip)
 quiet_step (skip)
 quiet_step (skip)
 quiet_step (skip)
 refine wpQuiet_step (fun K hK=> ?_)
 go_simp
 refine⟨.int .i64 (wk_ x.id y.id),fun n=>Calls.quiet_of_same (ajn_ h0 (Ze_ x) h1 (Ze_ y)),hK _ ?_⟩
 clear hK K
 quiet_step (skip)
 refine wpQuiet_nil ?_
 intro _ hw'
 obtain⟨nq,rfl⟩:=hw'
 go_wp2
 go_ret
 exact⟨rfl,nq,_,by rw[Go.Sort.alloc_eq_grow,Go.Sort.alloc_eq_grow,Go.Sort.grow_grow];rfl⟩
theorem ltLn (x y:LnL):ltOf (fun x y:LnL=>wk_ x.id y.id) x y=ltB x.id.l y.id.l:=by
 unfold ltOf
 rw[Bool.eq_iff_iff,decide_eq_true_eq,cmpI_lt]
theorem alf_:SWO (ltOf fun x y:LnL=>wk_ x.id y.id) where
 irrefl x:=by rw[ltLn];exact je_ x.id.l
 trans x y z h1 h2:=by rw[ltLn] at*;exact jo_ h1 h2
 ntrans x y z h1 h2:=by
  rw[ltLn] at*
  cases h:ltB x.id.l z.id.l
  ·rfl
  ·by_cases hxy:x.id.l=y.id.l
   ·rw[hxy,h2] at h;cases h
   ·rw[jo_ (kC_ h1 fun e=>hxy e) h] at h2
    cases h2
theorem aeu_ (x:LnL): ∀v∈lnC x,v.oneCell'=true:=fun v hv=>List.all_eq_true.1 (ZE_ x) v hv
def WE_ (l Z:List LnL):Prop:=Z.Perm l∧Z.Pairwise (fun x y=>ltB y.id.l x.id.l=false)
theorem WZ_ {b c:Nat} {l:List LnL} {rest:List Value} {E:TypeId} (w:World) (hb:w.heap[b]? =some (rowO lnC E rest l)) (hsz:l.length<4611686018427387904):
  Rets Tryd.prog 55 #[vsl b 0 l.length c, .func (.func 30) #[] #[]] w
   (fun v D=> ∃o,D= [(b,o)]∧v= .tuple #[]∧ ∃Z:List LnL,WE_ l Z∧o=rowO lnC E rest Z):=by
 have h:= @adb_ LnL ⟨Go.Proofs.ln0⟩ lnC 35 Tryd.prog Tryd.sortLn_ren Tryd.sortLn Tryd.isAgg38 Tryd.sizeOf38 z7_ aeu_ (fun x y=>wk_ x.id y.id) alf_ 30 Tryd.call30 abX_ w b c E l rest hb hsz
 refine Rets.mono h ?_
 rintro v D ⟨o,rfl,rfl,l',hp,hs,rfl⟩
 exact⟨_,rfl,rfl,l',⟨hp,hs.imp fun{x y} h=>(ltLn y x).symm.trans h⟩,rfl⟩
theorem Qs_ (p:Option Addr) (c:Nat) (fv:Value) (w:World):Rets Tryd.prog 55 #[.slice p 0 c,fv] w (fun v D=>v= .tuple #[]∧D= []):=
 @ae5_ Tryd.prog Tryd.sortLn_ren Tryd.sortLn p c fv w
theorem aiy_ (v:Value) (X:za_) (l:List LnL) (w:World) (hG:Gr X 38 35 v l.length (l.map lnC).flatten) (hX: ∀p,p∈X→w.heap[p.1]? =some p.2) (hn: (keys X).Nodup) (hl:l.length<1000000):
  Rets Tryd.prog 55 #[v, .func (.func 30) #[] #[]] w (XS w X (fun v' D=>v'= .tuple #[]∧ ∃Z,WE_ l Z∧Gr D 38 35 v l.length (Z.map lnC).flatten)):=by
 rcases hG with hS| ⟨h0,h1,rb,rfl,hlk⟩
 ·rcases hS.inv with⟨rfl,h0,h1⟩ | ⟨rb,c,rest,rfl,hlk,-,hc,hc0,hr⟩
  ·obtain rfl:l= []:=List.eq_nil_of_length_eq_zero h0
   refine(Rets.chunkV hX hn (Qs_ none 0 _ w)).mono ?_
   rintro v' D ⟨hE,rfl,hv⟩
   exact⟨hE,hv,[],⟨List.Perm.nil,List.Pairwise.nil⟩,Gr.nl⟩
  ·refine(Rets.chunk hX hn (zl_ hlk) (WZ_ (c:=c) w (hX _ (zC_ hlk)) (by omega))).mono ?_
   rintro v' D ⟨hE,o,rfl,hv,Z,hZ,rfl⟩
   refine⟨hE,hv,Z,hZ, .inl ?_⟩
   have z1:=hZ.1.length_eq
   rw[←z1]
   exact Buf.at_ (qP_ hlk) (by rw[xP_ z7_]) (by rw[z1];exact hr) (by omega) hc0
 ·obtain rfl:l= []:=List.eq_nil_of_length_eq_zero h0
  refine(Rets.chunkV hX hn (Qs_ (some ⟨rb,0,none⟩) 0 _ w)).mono ?_
  rintro v' D ⟨hE,rfl,hv⟩
  exact⟨hE,hv,[],⟨List.Perm.nil,List.Pairwise.nil⟩, .inr ⟨rfl,rfl,rb,rfl,hlk⟩⟩
abbrev MpL:=List (IdL×LnL)
abbrev keyI (x:IdL):Value:= .agg (a8 x.l)
abbrev valL (r:LnL):Value:= .agg (lnC r).toArray
def wl_ (k:Nat) (m:MpL) (r:RwL):MpL:=if hasG r.id m then m else updG r.id ⟨r.id,(k:Int),r.place,r.spot⟩ m
def xn_ (k:Nat) (m:MpL) (l:List RwL):MpL:=l.foldl (wl_ k) m
def qX_ (ls:List (List UInt8×List RwL)):Nat→MpL
 |0=> []
 |n+1=>xn_ n (qX_ ls n) (ls.getD n ([],[])).2
theorem adp_ (k:Nat) (m:MpL) (r:RwL): (wl_ k m r).length≤m.length+1:=by
 unfold wl_
 split
 ·omega
 ·have: ∀ (x:IdL) (v:LnL) (m:MpL),(updG x v m).length≤m.length+1:=by
   intro x v m
   induction m with
   |nil=>exact Nat.le_refl _
   |cons p q ih=>
    unfold updG
    split
    ·simp
    ·simp only[List.length_cons];omega
  exact this _ _ _
theorem XS_ (k:Nat): ∀ (l:List RwL) (m:MpL),(xn_ k m l).length≤m.length+l.length
 | [],m=>Nat.le_refl _
 |r::l,m=>by
  have h1:=XS_ k l (wl_ k m r)
  have h2:=adp_ k m r
  show(xn_ k (wl_ k m r) l).length≤_
  rw[List.length_cons];omega
theorem ab9_ (k:Nat) (m:MpL) (l:List RwL) {j:Nat} (h:j<l.length):xn_ k m (l.take (j+1))=wl_ k (xn_ k m (l.take j)) (l.getD j rw0):=by
 unfold xn_
 rw[StP.take_snoc (z:=rw0) h,List.foldl_append];rfl
theorem Qp_ (ls:List (List UInt8×List RwL)) (hs: ∀p,p∈ls→p.2.length≤10000): ∀n,n≤ls.length→(qX_ ls n).length≤n*10000
 |0,_=>Nat.le_refl _
 |n+1,h=>by
  have h1:=Qp_ ls hs n (by omega)
  have h2:=XS_ n (ls.getD n ([],[])).2 (qX_ ls n)
  have h3: (ls.getD n ([],[])).2.length≤10000:=hs _ (by rw[List.getD_eq_getElem?_getD,List.getElem?_eq_getElem (show n<ls.length by omega)];exact List.getElem_mem _)
  show(xn_ n (qX_ ls n) (ls.getD n ([],[])).2).length≤_
  omega
def ptC (p:Nat):List Value:= [vp p 0]
def PkIn (w:World) (v:Value) (ls:List (List UInt8×List RwL)):Prop:= ∃ps:List Nat,ps.length=ls.length∧SlV 1 ptC 0 w v ps∧ ∀k,k<ls.length→IxIn w (ps.getD k 0) (ls.getD k ([],[])).1 (ls.getD k ([],[])).2
end Go.Proofs
end
section
open Go Go.Proofs Go.Sx Go.StP Go.Flo
namespace Go.Proofs
set_option maxRecDepth 10000
set_option maxHeartbeats 1000000
set_option linter.unusedSimpArgs false
def ak4_ (ls:List (List UInt8×List RwL)) (v:Value) (D:za_):Prop:= ∃Z,WE_ ((qX_ ls ls.length).map Prod.snd) Z∧GrI D 38 35 v Z.length (Z.map lnC).flatten
structure Ga1 where
 k:Nat
 o:Obj
 D:za_
structure Ga2 where
 dn:MpL
 lf:MpL
 it:Obj
 v:Value
 D1:za_
 DG:za_
theorem ae1_:KeyOk Tryd.prog 36 keyI:=KeyOk.arr Tryd.underlying36 Tryd.underlying5 (id (by kernel_rfl):qi_ Tryd.prog 5=some (false,1)) IdL.l (fun a=>a.h) (fun a b=>by
 rw[Bool.eq_iff_iff,beq_iff_eq,beq_iff_eq]
 exact⟨fun h=>by cases a;cases b;simp only at h;subst h;rfl,fun h=>by rw[h]⟩)
theorem tuq1 (a:Value): (#[a]:Array Value)[0]? =some a:=(rfl)
set_option linter.defProp false
def zT_:=And.intro (And.intro (And.intro (And.intro (@tuq1) (@Sx.tup3_0)) (And.intro (@Sx.tup3_1) (And.intro (@Sx.tup3_2) (@zf_)))) (And.intro (And.intro (@zg_) (@jI_)) (And.intro (@q8_) (And.intro (@v9_) (@kK_))))) (And.intro (And.intro (And.intro (@vS_) (@xJ_)) (And.intro (@x1_) (And.intro (@vI_) (@vl_)))) (And.intro (And.intro (@vn_) (@qS_)) (And.intro (@q3_) (And.intro (@Sx.tup2_0) (@Sx.tup2_1)))))
theorem Vx_ (v:Value) (ls:List (List UInt8×List RwL)) (w:World) (hv:PkIn w v ls) (hl:ls.length≤50) (hr: ∀p,p∈ls→p.2.length≤10000):
  Rets Tryd.prog 20 #[v] w (XS w [] (ak4_ ls)):=by
 obtain⟨ps,hpl,hps,hix⟩:=hv
 have ln:=hps.len
 rw[hpl] at ln
 obtain⟨pb,poff,parr,PE,pfz,hpr⟩:=hps.row
 refine Rets.enterX Tryd.func20 rfl (rs:= [.tmp 2]) Tryd.results20 Tryd.ntmps20 (fun p hp=>by cases hp) (by simp[keys]) ?_
 refine kf ?_
 first|with_reducible refine ks [] @zT_ ?_|refine kp @zT_ ?_
 refine Ow.makeMapG (encK:=keyI) (encV:=valL) rfl rfl fun bm o hbm hwm hm0=> ?_
 refine ko @zT_ ?_
 first|with_reducible refine ks [] (And.intro @zT_ @ln) ?_|refine kp (And.intro @zT_ @ln) ?_
 refine Cw.loopG (G:=Ga1) [17,18,19,20,4,5,21,22,23,24,25,26,27,7,29,30,31,32,28,33,34,8,9,35,36,37,38,39,40,41,42,43,44,45,46,47,48,49,16] (fun g=> [(16,vi g.k)]) (fun g=>(bm,g.o)::g.D) (fun g=>g.k≤ls.length∧MapG keyI valL g.o (qX_ ls g.k)∧New w.heap.size g.D) (fun g=>ls.length - g.k) ⟨0,o,[]⟩ rfl rfl ?_ ?_
 ·exact⟨Nat.zero_le _,hm0,trivial⟩
 intro g j hg
 refine kv ?_
 obtain⟨k,om,DG⟩:=g
 simp only at hg ⊢
 obtain⟨hk,hM,hNG⟩:=hg
 by_cases hlt:k<ls.length
 ·have d1:decide ((k:Int)< (ls.length:Int))=true:=decide_eq_true (by omega)
  have ix:=hpr.idx false k (by omega)
  have ld: ∀n,zn_ (some (false,n)) (some (.cells parr PE pfz)) (poff+k)=some (vp (ps.getD k 0) 0):=fun n=>by
   have:=hpr.cell (j:=0) (n:=n) (k:=k) (by omega) (by omega)
   rwa [Nat.mul_one,Nat.add_zero] at this
  have hpb:=hpr.has (by omega)
  have hii:=hix k hlt
  have hlen: (ls.getD k ([],[])).2.length≤10000:=hr _ (by rw[List.getD_eq_getElem?_getD,List.getElem?_eq_getElem hlt];exact List.getElem_mem _)
  have hsn:qX_ ls (k+1)=xn_ k (qX_ ls k) (ls.getD k ([],[])).2:=rfl
  generalize ls.getD k ([],[])=q at*
  obtain⟨qs,ql⟩:=q
  simp only at hii hlen hsn
  have hN0:New w.heap.size ((bm,om)::DG):=⟨hwm,hNG⟩
  have hpl':=hpr.lt (by omega)
  have rdp:zx_ w ((bm,om)::DG) pb=some (.cells parr PE pfz):=by
   rw[zv_ _ _ _ _ _ (by omega),qM_ (hNG.not hpl')];exact hpb
  first|with_reducible refine ks [] (And.intro @zT_ (And.intro @d1 (And.intro @ix (And.intro @rdp (@ld))))) ?_|refine kp (And.intro @zT_ (And.intro @d1 (And.intro @ix (And.intro @rdp (@ld))))) ?_
  refine Ow.callC rfl rfl Tryd.call54 (fun w' hw'=>abJ_ (ps.getD k 0) qs ql w' (hii.old hw' hN0) (by omega)) (fun B1 v9 D9 hA9 hB9 hN9 hS9=> ?_)
  have hN:New w.heap.size D9:=hN9.mono hB9
  have ln9:=acN_ hS9
  refine ko (And.intro @zT_ @ln9) ?_
  refine Cw.world fun w1 hw1=> ?_
  obtain⟨rb,off,arr,E,fz,hr9,hlk⟩:=hS9.rowL (z:=rw0) rfl ((hw1.perm (M:=D9++ ((bm,om)::DG)) List.perm_append_comm).part) z4_
  have hbB:bm<B1:=zz_ hA9 (by simp[keys])
  have hlk': ∀ (o':Obj) (G:za_),0<ql.length→zx_ w ((bm,o'):: (D9++G)) rb=some (.cells arr E fz):=by
   intro o' G h0
   have h1:=hlk h0
   have h2:=hN9.le rb (zl_ h1)
   rw[zv_ _ _ _ _ _ (by omega)]
   exact qY_ (jl_ h1)
  clear hw1 hS9 hN9 hA9 hbB hlk
  refine Cw.permL (M:=(bm,om):: (D9++DG)) (by classical exact List.perm_iff_count.2 fun a=>by simp only[List.count_append,List.count_cons,List.count_nil]<;>omega) ?_
  refine Cw.loopG (G:=Ga1) [25,26,27,7,29,30,31,32,28,33,34,8,9,35,36,37,38,39,40,41,42,43,44,45,46,47,48,24] (fun g=> [(24,vi g.k)]) (fun g=>(bm,g.o):: (D9++g.D)) (fun g=>g.k≤ql.length∧MapG keyI valL g.o (xn_ k (qX_ ls k) (ql.take g.k))∧New w.heap.size g.D) (fun g=>ql.length - g.k) ⟨0,om,DG⟩ rfl rfl ?_ ?_
  ·exact⟨Nat.zero_le _,hM,hNG⟩
  intro g j hg
  refine kv ?_
  clear hM hNG hN0
  obtain⟨j,o1,DG1⟩:=g
  simp only at hg ⊢
  obtain⟨hj,hM,hNG⟩:=hg
  by_cases hjt:j<ql.length
  ·have d2:decide ((j:Int)< (ql.length:Int))=true:=decide_eq_true (by omega)
   have ix9:=hr9.idx true j hjt
   have ld9:=hr9.load z4_ (by omega) hjt
   have rd9:=hlk' o1 DG1 (by omega)
   have hts:=ab9_ k (qX_ ls k) ql hjt
   generalize ql.getD j rw0=r at*
   first|with_reducible refine ks [11] (And.intro @zT_ (And.intro @d2 (And.intro @ix9 (And.intro @ld9 (@rd9))))) ?_|refine kp (And.intro @zT_ (And.intro @d2 (And.intro @ix9 (And.intro @ld9 (@rd9))))) ?_
   refine Ow.alloc rfl rfl zrRw fun b7 hb7 hw7=> ?_
   simp only[ze_,List.nil_append,List.cons_append]
   have h7m:bm<b7:=zz_ hb7 (by simp[keys])
   refine Ow.permL (M:=(b7, .cells (rwC rw0).toArray 45 (0,0)):: ((bm,o1):: (D9++DG1))) (by classical exact List.perm_iff_count.2 fun a=>by simp only[List.count_append,List.count_cons,List.count_nil]<;>omega) ?_
   refine ko @zT_ ?_
   first|with_reducible refine ks [] @zT_ ?_|refine kp @zT_ ?_
   refine Ow.mapGet2G (encK:=keyI) (encV:=valL) (k:=r.id) (z:=Go.Proofs.ln0) rfl rfl Tryd.underlying105 ae1_ X8_ rfl rfl (by rw[zv_ _ _ _ _ _ (by omega)];exact zO_ _ _ _ _) hM ?_
   refine ko @zT_ ?_
   first|with_reducible refine ks [] @zT_ ?_|refine kp @zT_ ?_
   refine Ow.alloc rfl rfl X8_ fun b8 hb8 hw8=> ?_
   simp only[ze_,List.nil_append,List.cons_append]
   refine Ow.permL (M:=(b8, .cells (lnC Go.Proofs.ln0).toArray 38 (0,0)):: ((b7, .cells (rwC r).toArray 45 (0,0)):: ((bm,o1):: (D9++DG1)))) (by classical exact List.perm_iff_count.2 fun a=>by simp only[List.count_append,List.count_cons,List.count_nil]<;>omega) ?_
   refine ko @zT_ ?_
   have h87:b7<b8:=zz_ hb8 (by simp[keys])
   cases hh:hasG r.id (xn_ k (qX_ ls k) (ql.take j)) with
   |true=>
    have hg1:xn_ k (qX_ ls k) (ql.take (j+1))=xn_ k (qX_ ls k) (ql.take j):=by rw[hts];unfold wl_;rw[if_pos hh]
    first|with_reducible refine ks [] @zT_ ?_|refine kp @zT_ ?_
    refine Cw.permL (M:=(bm,o1):: (D9++ ((b8, .cells (lnC (getG r.id Go.Proofs.ln0 (xn_ k (qX_ ls k) (ql.take j)))).toArray 38 (0,0)):: ((b7, .cells (rwC r).toArray 45 (0,0))::DG1)))) (by classical exact List.perm_iff_count.2 fun a=>by simp only[List.count_append,List.count_cons,List.count_nil]<;>omega) ?_
    first|with_reducible refine ks [] @zT_ ?_|refine kp @zT_ ?_
    exact Again.mk ⟨j+1,o1,((b8, .cells (lnC (getG r.id Go.Proofs.ln0 (xn_ k (qX_ ls k) (ql.take j)))).toArray 38 (0,0)):: ((b7, .cells (rwC r).toArray 45 (0,0))::DG1))⟩ (by show ql.length - (j+1)<ql.length - j;omega) ⟨hjt,by rw[hg1];exact hM,⟨hw8,hw7,hNG⟩⟩ rfl rfl
   |false=>
    have hg1:xn_ k (qX_ ls k) (ql.take (j+1))=updG r.id ⟨r.id,(k:Int),r.place,r.spot⟩ (xn_ k (qX_ ls k) (ql.take j)):=by rw[hts];unfold wl_;rw[if_neg (by rw[hh];simp)]
    first|with_reducible refine ks [] @zT_ ?_|refine kp @zT_ ?_
    refine Ow.build (.agg (lnC ⟨r.id,(k:Int),r.place,r.spot⟩).toArray) rfl (agm_ ⟨r.id,(k:Int),r.place,r.spot⟩) ?_
    refine ko @zT_ ?_
    refine Ow.permL (M:=(bm,o1):: (D9++ ((b8, .cells (lnC (getG r.id Go.Proofs.ln0 (xn_ k (qX_ ls k) (ql.take j)))).toArray 38 (0,0)):: ((b7, .cells (rwC r).toArray 45 (0,0))::DG1)))) (by classical exact List.perm_iff_count.2 fun a=>by simp only[List.count_append,List.count_cons,List.count_nil]<;>omega) ?_
    refine Ow.mapUpdateG (encK:=keyI) (encV:=valL) (k:=r.id) (v:=⟨r.id,(k:Int),r.place,r.spot⟩) rfl rfl Tryd.underlying105 ae1_ rfl rfl rfl (jm_ _ _ _) hM (fun o2 hM2=> ?_)
    refine kn ?_
    refine ko @zT_ ?_
    first|with_reducible refine ks [] @zT_ ?_|refine kp @zT_ ?_
    exact Again.mk ⟨j+1,o2,((b8, .cells (lnC (getG r.id Go.Proofs.ln0 (xn_ k (qX_ ls k) (ql.take j)))).toArray 38 (0,0)):: ((b7, .cells (rwC r).toArray 45 (0,0))::DG1))⟩ (by show ql.length - (j+1)<ql.length - j;omega) ⟨hjt,by rw[hg1];exact hM2,⟨hw8,hw7,hNG⟩⟩ rfl rfl
  ·obtain rfl:j=ql.length:=by omega
   have d2:decide ((ql.length:Int)< (ql.length:Int))=false:=decide_eq_false (by omega)
   rw[List.take_length] at hM
   first|with_reducible refine ks [] (And.intro @zT_ @d2) ?_|refine kp (And.intro @zT_ @d2) ?_
   exact Again.mk ⟨k+1,o1,D9++DG1⟩ (by show ls.length - (k+1)<ls.length - k;omega) ⟨hlt,by rw[hsn];exact hM,hN.app hNG⟩ rfl rfl
 ·obtain rfl:k=ls.length:=by omega
  have d1:decide ((ls.length:Int)< (ls.length:Int))=false:=decide_eq_false (by omega)
  have hml:=Qp_ ls hr ls.length (Nat.le_refl _)
  generalize hmm:qX_ ls ls.length=m at*
  first|with_reducible refine ks [] (And.intro @zT_ @d1) ?_|refine kp (And.intro @zT_ @d1) ?_
  refine Ow.rangeMapG (encK:=keyI) (encV:=valL) rfl rfl Tryd.underlying105 rfl (zO_ _ _ _ _) hM fun bi oi hbi hwi hI=> ?_
  have him:bm<bi:=zz_ hbi (by simp[keys])
  refine Ow.permL (M:=(bi,oi):: (bm,om):: ([]++DG)) (by classical exact List.perm_iff_count.2 fun a=>by simp only[List.count_append,List.count_cons,List.count_nil]<;>omega) ?_
  refine ko @zT_ ?_
  first|with_reducible refine ks [] @zT_ ?_|refine kp @zT_ ?_
  refine Cw.loopG (G:=Ga2) [52,53,54,55,12,56,57,58,59,10] (fun g=> [(10,g.v)]) (fun g=>(bi,g.it):: (bm,om):: (g.D1++g.DG)) (fun g=>New w.heap.size g.D1∧New w.heap.size g.DG∧Gr g.D1 38 35 g.v (g.dn.map Prod.snd).length ((g.dn.map Prod.snd).map lnC).flatten∧ItG keyI valL g.it bm om m g.dn g.lf∧g.dn.length+g.lf.length=m.length) (fun g=>g.lf.length) ⟨[],m,oi, .slice none 0 0,[],DG⟩ rfl rfl ?_ ?_
  ·exact⟨trivial,hNG,Gr.nl,hI,by simp⟩
  intro g j hg
  refine kv ?_
  obtain⟨dn,lf,it,v1,D1,DG1⟩:=g
  simp only at hg ⊢
  obtain⟨hN1,hN2,hG1,hI,hdl⟩:=hg
  have rdm: ∀x (Y:za_),zx_ w ((bi,x):: ((bm,om)::Y)) bm=some om:=fun x Y=>by
   rw[zv_ _ _ _ _ _ (by omega)];exact zO_ _ _ _ _
  first|with_reducible refine ks [] @zT_ ?_|refine kp @zT_ ?_
  refine Ow.nextMapG rfl rfl rfl (jm_ _ _ _) (rdm _ _) hI (fun hlf=> ?_) (fun p it' lf' hl' hI'=> ?_)
  ·subst hlf
   have hoo:dn.Perm m:=by
    obtain⟨es,clock,ds,-,-,-,-,-,-,hperm⟩:=hI
    rw[List.append_nil] at hperm;exact hperm
   refine Ow.permL (M:=D1++ ((bi,it):: (bm,om)::DG1)) (by classical exact List.perm_iff_count.2 fun a=>by simp only[List.count_append,List.count_cons,List.count_nil]<;>omega) ?_
   refine ko @zT_ ?_
   first|with_reducible refine ks [] @zT_ ?_|refine kp @zT_ ?_
   refine Ow.callX (Y:=(bi,it):: (bm,om)::DG1) (by simp) rfl rfl Tryd.call55 (fun w' hw' hX hn=>aiy_ v1 D1 (dn.map Prod.snd) w' hG1 hX hn (by rw[List.length_map,hoo.length_eq];omega)) (fun v14 D14 hC14 hS14=> ?_)
   obtain⟨rfl,Z,hZ,hG⟩:=hS14
   have hN14:New w.heap.size D14:=zN_ hC14 hN1
   refine ko @zT_ ?_
   first|with_reducible refine ks [] @zT_ ?_|refine kp @zT_ ?_
   refine⟨_,(ke @zT_), ?_⟩
   refine⟨Ext.of_new (hN14.app ⟨hwi,hwm,hN2⟩),Z, ?_, ?_⟩
   ·rw[hmm]
    exact⟨hZ.1.trans (hoo.map _),hZ.2⟩
   ·rw[←hZ.1.length_eq] at hG
    exact Gr.i hG fun p hp=>List.mem_append_left _ hp
  ·refine kn ?_
   refine ko @zT_ ?_
   first|with_reducible refine ks [] @zT_ ?_|refine kp @zT_ ?_
   refine Ow.entryMapG (encK:=keyI) (encV:=valL) rfl rfl rfl (zO_ _ _ _ _) (rdm _ _) hI' ?_
   refine ko @zT_ ?_
   first|with_reducible refine ks [] @zT_ ?_|refine kp @zT_ ?_
   refine Ow.alloc rfl rfl X8_ fun b12 hb12 hw12=> ?_
   simp only[ze_,List.nil_append,List.cons_append]
   obtain⟨pk,pv⟩:=p
   refine Ow.permL (M:=(b12, .cells (lnC Go.Proofs.ln0).toArray 38 (0,0)):: ((bi,it'):: (bm,om):: (D1++DG1))) (by classical exact List.perm_iff_count.2 fun a=>by simp only[List.count_append,List.count_cons,List.count_nil]<;>omega) ?_
   refine ko @zT_ ?_
   first|with_reducible refine ks [] @zT_ ?_|refine kp @zT_ ?_
   refine Ow.buildSlice (e:=38) (lnC pv).toArray rfl rfl (vX_ Tryd.underlying51 agn_ X8_ (by decide) (z7_ _)) fun ba hba hwa=> ?_
   refine Ow.permL (M:=D1++ ((b12, .cells (lnC pv).toArray 38 (0,0)):: ((bi,it'):: (bm,om):: (DG1++ [(ba, .cells (lnC pv).toArray 38 (0,0))])))) (by classical exact List.perm_iff_count.2 fun a=>by simp only[List.count_append,List.count_cons,List.count_nil]<;>omega) ?_
   refine Ow.appendXG (e:=38) (k:=1) (new:=lnC pv) (X:=D1) v1 rfl rfl rfl rfl Tryd.underlying51 agn_ (by kernel_rfl) X8_ (by rw[q8_,List.size_toArray,z7_]) Tryd.underlying51 (by intro k h;cases h) hG1 (fun w' hw'=>AppX.one1 (hw'.has ba (.cells (lnC pv).toArray 38 (0,0)) (by simp)) (z7_ _) (ZE_ _)) (by rw[List.length_map];omega) (fun B4 v4 D4 hA4 hB4 hG4 hk41 hk42 hlk4=> ?_)
   have hN4:New w.heap.size D4:=New.of_le fun q hq=>by
    rcases hk42 q hq with h|h
    ·exact hN1.le q h
    ·omega
   refine Ow.permL (M:=(bi,it'):: (bm,om):: (D4++ ((b12, .cells (lnC pv).toArray 38 (0,0)):: (DG1++ [(ba, .cells (lnC pv).toArray 38 (0,0))])))) (by classical exact List.perm_iff_count.2 fun a=>by simp only[List.count_append,List.count_cons,List.count_nil]<;>omega) ?_
   refine ko @zT_ ?_
   first|with_reducible refine ks [] @zT_ ?_|refine kp @zT_ ?_
   refine Again.mk ⟨dn++ [(pk,pv)],lf',it',v4,D4,(b12, .cells (lnC pv).toArray 38 (0,0)):: (DG1++ [(ba, .cells (lnC pv).toArray 38 (0,0))])⟩ (by show lf'.length<lf.length;omega) ⟨hN4,⟨hw12,hN2.app ⟨hwa,trivial⟩⟩, ?_,hI',by show(dn++ [(pk,pv)]).length+lf'.length=m.length;rw[List.length_append,List.length_singleton];omega⟩ rfl rfl
   show Gr D4 38 35 v4 ((dn++ [(pk,pv)]).map Prod.snd).length (((dn++ [(pk,pv)]).map Prod.snd).map lnC).flatten
   rw[List.map_append,List.length_append,show([(pk,pv)].map Prod.snd).length=1 from rfl]
   simpa only[List.map_append,List.map_cons,List.map_nil,List.flatten_append,List.flatten_cons,List.flatten_nil,List.append_nil] using hG4
end Go.Proofs
end
section
open Go Go.Proofs Go.Sx Go.StP Go.Flo
namespace Go.Proofs
set_option maxRecDepth 10000
set_option maxHeartbeats 1000000
set_option linter.unusedSimpArgs false
set_option linter.defProp false
def Q5_:=And.intro (@zf_) (@zg_)
abbrev ShSl (w:World) (v:Value) (l:List ShL):Prop:=SlV 2 shC sh0 w v l
theorem aaH_ (b o n c:Nat):qw_ Tryd.prog .eql 22 (vsl b o n c) (.slice none 0 0)=some (.bool false):=by
 simp[qw_,eqX,qp_,qa_,Tryd.underlying22,vsl]
theorem Xx_:qw_ Tryd.prog .eql 22 (.slice none 0 0) (.slice none 0 0)=some (.bool true):=by
 simp[qw_,eqX,qp_,qa_,Tryd.underlying22]
theorem KZ_ (v:Value) (ls:List ShL) (w:World) (hv:ShSl w v ls) (hl:ls.length<1000000):
  Rets Tryd.prog 14 #[v] w (XS w [] (fun v D=>Gr D 26 2 v ls.length (ls.map shC).flatten)):=by
 obtain⟨b,off,c,arr,E,fz,hr,hc,⟨rfl,rfl,rfl⟩ | ⟨rfl,hb,hsz⟩⟩:=hv
 ·refine Rets.enterX Tryd.func14 rfl (rs:= [.tmp 2]) Tryd.results14 Tryd.ntmps14 (fun p hp=>by cases hp) (by simp[keys]) ?_
  refine kf ?_
  first|with_reducible refine ks [] (And.intro @Q5_ (And.intro @aaH_ (@Xx_))) ?_|refine kp (And.intro @Q5_ (And.intro @aaH_ (@Xx_))) ?_
  refine⟨_,(ke @Q5_), ?_⟩
  exact⟨Ext.refl _ _,Gr.nl⟩
 ·have hbl:=(Array.getElem?_eq_some_iff.1 hb).1
  have hv:ShSl w (vsl b off ls.length c) ls:=⟨b,off,c,arr,E,fz,hr,hc, .inr ⟨rfl,hb,hsz⟩⟩
  refine Rets.enterX Tryd.func14 rfl (rs:= [.tmp 2]) Tryd.results14 Tryd.ntmps14 (fun p hp=>by cases hp) (by simp[keys]) ?_
  refine kf ?_
  first|with_reducible refine ks [] (And.intro @Q5_ (And.intro @aaH_ (@Xx_))) ?_|refine kp (And.intro @Q5_ (And.intro @aaH_ (@Xx_))) ?_
  refine Ow.buildSlice (e:=26) #[] rfl rfl (by kernel_rfl) fun b1 hb1 hw1=> ?_
  refine ko @Q5_ ?_
  refine Ow.appendG (e:=26) (k:=ls.length) (new:=(ls.map shC).flatten) (vsl b1 0 0 0) rfl rfl rfl Tryd.underlying22 Tryd.ag26 (by kernel_rfl) zrSh (by rw[jO_,List.size_toArray,qv_]) Tryd.underlying22 (by intro k h;cases h) (.inr ⟨rfl,rfl,b1,rfl,kU_ hb1⟩) (fun w' hw'=>(hv.oldN hw' ⟨hw1,trivial⟩).appX qv_ Xe_) (xP_ qv_ ls) (by omega) (fun v2 L2 hB hB2 hG hS=> ?_)
  rw[Nat.zero_add,List.nil_append] at hB
  refine ko @Q5_ ?_
  first|with_reducible refine ks [] @Q5_ ?_|refine kp @Q5_ ?_
  refine⟨_,(ke @Q5_), ?_⟩
  exact⟨((Ext.refl w []).app (o:=Obj.cells #[] 26 (0,0)) hw1).grew hG,hB⟩
theorem acw_ (v:Value) (X:za_) (l:List ShL) (w:World) (hG:Gr X 26 2 v l.length (l.map shC).flatten) (hX: ∀p,p∈X→w.heap[p.1]? =some p.2) (hn: (keys X).Nodup) (hl:l.length<1000000):
  Rets Tryd.prog 15 #[v,qg_] w (XS w X (fun v' D=>v'= .tuple #[]∧ ∃Z,shs_SortOf l Z∧Gr D 26 2 v l.length (Z.map shC).flatten)):=by
 rcases hG with hS| ⟨h0,h1,rb,rfl,hlk⟩
 ·rcases hS.inv with⟨rfl,h0,h1⟩ | ⟨rb,c,rest,rfl,hlk,-,hc,hc0,hr⟩
  ·obtain rfl:l= []:=List.eq_nil_of_length_eq_zero h0
   refine(Rets.chunkV hX hn (v2_ w)).mono ?_
   rintro v' D ⟨hE,rfl,hv⟩
   exact⟨hE,hv,[],⟨rfl,List.Pairwise.nil,StP.St.refl _ _⟩,Gr.nl⟩
  ·refine(Rets.chunk hX hn (zl_ hlk) (j0_ rb l.length c l rest w rfl hl (hX _ (zC_ hlk)))).mono ?_
   rintro v' D ⟨hE,o,rfl,hv,Z,rfl,z1,z2,z3⟩
   refine⟨hE,hv,Z,⟨z1,z2,z3⟩, .inl ?_⟩
   rw[←z1]
   exact Buf.at_ (qP_ hlk) (by rw[xP_ qv_]) (by rw[z1];exact hr) (by omega) hc0
 ·obtain rfl:l= []:=List.eq_nil_of_length_eq_zero h0
  refine(Rets.chunk hX hn (zl_ hlk) (j0_ rb 0 0 [] [] w rfl (by omega) (hX _ (zC_ hlk)))).mono ?_
  rintro v' D ⟨hE,o,rfl,hv,Z,rfl,z1,z2,z3⟩
  obtain rfl:Z= []:=List.eq_nil_of_length_eq_zero z1
  exact⟨hE,hv,[],⟨rfl,List.Pairwise.nil,StP.St.refl _ _⟩, .inr ⟨rfl,rfl,rb,rfl,qP_ hlk⟩⟩
def kr_ (l:List ShL):Nat→Option (List (List UInt8×List RwL))
 |0=>some []
 |k+1=>match kr_ l k,wc_ (l.getD k sh0).bytes with
  |some q,some p=>some (q++ [p])
  |_,_=>none
theorem Jz_ {l:List ShL} {k:Nat} (h:kr_ l k=none): ∀ {n:Nat},k≤n→kr_ l n=none
 |0,hk=>by
  obtain rfl:k=0:=by omega
  exact h
 |n+1,hk=>by
  by_cases e:k=n+1
  ·subst e;exact h
  ·unfold kr_;rw[Jz_ h (show k≤n by omega)]
theorem aeV_ {b s:List UInt8} {l:List RwL} (h:wc_ b=some (s,l)):l.length≤200∧s.length=4:=by
 have h1:=(openI_iff.1 h).1
 unfold q6_ at h1
 simp only[Bool.and_eq_true,decide_eq_true_eq] at h1
 exact⟨h1.2.2,h1.2.1⟩
theorem K4_ {l:List ShL}: ∀ {n:Nat} {q:List (List UInt8×List RwL)},kr_ l n=some q→ ∀p,p∈q→p.2.length≤200∧p.1.length=4
 |0,q,h=>by cases h;intro p hp;cases hp
 |n+1,q,h=>by
  unfold kr_ at h
  cases h1:kr_ l n with
  |none=>rw[h1] at h;cases h
  |some q1=>
   rw[h1] at h
   cases h2:wc_ (l.getD n sh0).bytes with
   |none=>rw[h2] at h;cases h
   |some p=>
    rw[h2] at h
    simp only[Option.some.injEq] at h
    subst h
    intro p' hp'
    rcases List.mem_append.1 hp' with h3|h3
    ·exact K4_ h1 p' h3
    ·rw[List.mem_singleton] at h3
     subst h3
     exact aeV_ (s:=p'.1) (l:=p'.2) h2
def ZZ_ (Z:List ShL) (L:List LnL):List UInt8×Int:=
 if 40<Z.length then([],4) else if ql_ (Z.map ShL.name) []=false then([],1) else match kr_ Z Z.length with
 |none=>([],2)
 |some q=>if ql_ (Z.map ShL.name) L=false then([],4) else(z9_ (kY_ (Z.map ShL.name) (q.map Prod.fst) L),0)
def x9_ (l:List ShL) (v:Value):Prop:=if 40<l.length then v= .tuple #[vs [],vi 4] else∃Z L,shs_SortOf l Z∧(ql_ (Z.map ShL.name) []=true→ ∀q,kr_ Z Z.length=some q→WE_ ((qX_ q q.length).map Prod.snd) L)∧v= .tuple #[vs (ZZ_ Z L).1,vi (ZZ_ Z L).2]
theorem qr_ {α:Type} {a b:List α} (z:α) (k:Nat) (h:k<a.length): (a++b).getD k z=a.getD k z:=by
 rw[List.getD_eq_getElem?_getD,List.getElem?_append_left h,←List.getD_eq_getElem?_getD]
theorem Kb_ {α:Type} {a:List α} (z x:α) {k:Nat} (h:a.length=k): (a++ [x]).getD k z=x:=by
 subst h
 rw[List.getD_eq_getElem?_getD,List.getElem?_append_right (Nat.le_refl _),Nat.sub_self];rfl
structure Mk1 where
 k:Nat
 v0:Value
 D1:za_
 DG:za_
structure Mk2 where
 q:List (List UInt8×List RwL)
 ps:List Nat
 vp:Value
 v1:Value
 DP:za_
 D2:za_
 D3:za_
 DG:za_
set_option linter.defProp false
def zy_:=And.intro (And.intro (And.intro (@zf_) (And.intro (@zg_) (@kI_))) (And.intro (@vt_) (And.intro (@kH_) (@jO_)))) (And.intro (And.intro (@wy_) (And.intro (@aau_) (@agX_))) (And.intro (@xI_) (And.intro (@Sx.tup2_0) (@Sx.tup2_1))))
theorem wa_ (v:Value) (l:List ShL) (w:World) (hC:GlobC w) (hv:ShSl w v l) (hl:l.length<1000000) (hs: ∀s,s∈l→s.name.length<1099511627776∧s.bytes.length<1099511627776):
  Rets Tryd.prog 7 #[v] w (fun v' D=>x9_ l v'∧D= []):=by
 have ln:=hv.len
 refine Rets.enterV Tryd.func7 rfl (rs:= [.tmp 2, .tmp 3]) Tryd.results7 Tryd.ntmps7 ?_
 refine kf ?_
 by_cases h4:40<l.length
 ·have d1:decide ((40:Int)< (l.length:Int))=true:=decide_eq_true (by omega)
  first|with_reducible refine ks [] (And.intro @zy_ (And.intro @ln (@d1))) ?_|refine kp (And.intro @zy_ (And.intro @ln (@d1))) ?_
  refine⟨_,(ke @zy_),trivial, ?_⟩
  (unfold x9_;rw[if_pos h4];rfl)
 ·have d1:decide ((40:Int)< (l.length:Int))=false:=decide_eq_false (by omega)
  first|with_reducible refine ks [1000005] (And.intro @zy_ (And.intro @ln (@d1))) ?_|refine kp (And.intro @zy_ (And.intro @ln (@d1))) ?_
  refine Ow.callX (Y:= []) (by simp) rfl rfl Tryd.call14 (fun w' hw' hX hn=>KZ_ v l w' (hv.oldN hw' trivial) hl) (fun v12 D12 hC12 hS12=> ?_)
  have hN12:New w.heap.size D12:=zN_ hC12 trivial
  rw[List.append_nil]
  refine ko @zy_ ?_
  first|with_reducible refine ks [] @zy_ ?_|refine kp @zy_ ?_
  refine Ow.callX (Y:= []) (by simp) rfl rfl Tryd.call15 (fun w' hw' hX hn=>acw_ v12 D12 l w' hS12 hX hn hl) (fun v14 D14 hC14 hS14=> ?_)
  obtain⟨rfl,Z,hZ,hG⟩:=hS14
  have hN14:New w.heap.size D14:=zN_ hC14 hN12
  have hZl:=hZ.1
  rw[List.append_nil]
  refine ko @zy_ ?_
  refine Cw.rebaseV hN14 (by rfl) fun w1 hw1=> ?_
  have hZ1:ShSl w1 v12 Z:=hG.slV hw1 hZl rfl qv_
  have hC1:=hC.newP hw1 hN14
  have hmem: ∀x,x∈Z→x∈l:=fun x hx=>(StP.St.mem hZ.2.2 x).1 hx
  have hZs: ∀s,s∈Z→s.name.length<1099511627776∧s.bytes.length<1099511627776:=fun s hsm=>hs s (hmem s hsm)
  have hZ40:Z.length≤40:=by omega
  have hpost: ∀L (v':Value),(ql_ (Z.map ShL.name) []=true→ ∀q,kr_ Z Z.length=some q→WE_ ((qX_ q q.length).map Prod.snd) L)→v'= .tuple #[vs (ZZ_ Z L).1,vi (ZZ_ Z L).2]→x9_ l v':=by
   intro L v' h1 h2
   unfold x9_;rw[if_neg h4];exact⟨Z,L,hZ,h1,h2⟩
  clear hw1 hG hN14 hv ln
  have lnz:=hZ1.len
  obtain⟨rb,off,arr,E,fz,hzr⟩:=hZ1.row
  first|with_reducible refine ks [] @zy_ ?_|refine kp @zy_ ?_
  refine Ow.build (.agg #[.slice none 0 0, .slice none 0 0, .slice none 0 0]) rfl Vb_ ?_
  refine ko @zy_ ?_
  refine Ow.box rfl rfl fun bm hbm hwm=> ?_
  simp only[xs_,xf_,xg_,ze_]
  rw[List.nil_append]
  refine ko @zy_ ?_
  first|with_reducible refine ks [] (And.intro @zy_ @lnz) ?_|refine kp (And.intro @zy_ @lnz) ?_
  refine Cw.loopG (G:=Mk1) [24,25,26,6,27,28,29,30,31,32,33,34,35,36,37,38,23] (fun g=> [(23,vi g.k)]) (fun g=>(bm,mgO g.v0 (.slice none 0 0) (.slice none 0 0)):: (g.D1++g.DG)) (fun g=>g.k≤Z.length∧New w1.heap.size g.D1∧New w1.heap.size g.DG∧Gr g.D1 9 1 g.v0 g.k (((Z.take g.k).map ShL.name).map Vk_).flatten) (fun g=>Z.length - g.k) ⟨0, .slice none 0 0,[],[]⟩ rfl rfl ?_ ?_
  ·exact⟨Nat.zero_le _,trivial,trivial,Gr.nl⟩
  intro g j hg
  refine kv ?_
  obtain⟨k,v0,D1,DG⟩:=g
  simp only at hg ⊢
  obtain⟨hk,hN1,hNG,hG1⟩:=hg
  by_cases hlt:k<Z.length
  ·have d2:decide ((k:Int)< (Z.length:Int))=true:=decide_eq_true (by omega)
   have ixz:=hzr.idx true k hlt
   have ldz:=hzr.load qv_ (by omega) hlt
   have hzb:=hzr.lt (by omega)
   have rdz:zx_ w1 ((bm,mgO v0 (.slice none 0 0) (.slice none 0 0)):: (D1++DG)) rb=some (.cells arr E fz):=by
    rw[zv_ _ _ _ _ _ (by omega),qM_ ((hN1.app hNG).not hzb)];exact hzr.has (by omega)
   have hts: (Z.take (k+1)).map ShL.name=(Z.take k).map ShL.name++ [(Z.getD k sh0).name]:=by
    rw[StP.take_snoc (z:=sh0) hlt,List.map_append];rfl
   generalize Z.getD k sh0=r at*
   first|with_reducible refine ks [10] (And.intro @zy_ (And.intro @d2 (And.intro @ixz (And.intro @rdz (@ldz))))) ?_|refine kp (And.intro @zy_ (And.intro @d2 (And.intro @ixz (And.intro @rdz (@ldz))))) ?_
   refine Ow.alloc rfl rfl zrSh fun b6 hb6 hw6=> ?_
   simp only[ze_,List.nil_append,List.cons_append]
   have h6m:bm<b6:=zz_ hb6 (by simp[keys])
   refine Ow.permL (M:=(b6, .cells (shC sh0).toArray 26 (0,0)):: ((bm,mgO v0 (.slice none 0 0) (.slice none 0 0)):: (D1++DG))) (by classical exact List.perm_iff_count.2 fun a=>by simp only[List.count_append,List.count_cons,List.count_nil]<;>omega) ?_
   refine ko @zy_ ?_
   first|with_reducible refine ks [] @zy_ ?_|refine kp @zy_ ?_
   have hb6n:b6≠bm:=by omega
   have hbm6:bm≠b6:=by omega
   refine Cw.regionS [b6,bm] [0,1,2,3,5,4,6,7,8,9,10,11] [11] (by kernel_rfl) (by kernel_rfl) (by kernel_rfl) ?_
   simp only[zm_, ↓zd_, ↓zb_, ↓zE_, ↓zD_,zc_]
   refine kq @zy_ ?_
   refine Ow.soft rfl rfl rfl ?_
   refine Ow.buildSlice (e:=9) #[vs r.name] rfl rfl (by kernel_rfl) fun ba hba hwa=> ?_
   have hba6:b6<ba:=zz_ hba (by simp[keys])
   with_reducible refine Ow.nil ?_
   refine⟨(fun x hx=>by simp only[List.mem_cons,List.not_mem_nil,or_false] at hx;rcases hx with rfl|rfl<;>simp(disch:=omega) only[List.cons_append,List.nil_append,zO_,zv_]), ?_⟩
   refine kq @zy_ ?_
   refine Ow.soft rfl rfl rfl ?_
   refine Ow.permL (M:=D1++ ((b6, .cells (shC r).toArray 26 (0,0)):: ((bm,mgO v0 (.slice none 0 0) (.slice none 0 0)):: (DG++ [(ba, .cells #[vs r.name] 9 (0,0))])))) (by classical exact List.perm_iff_count.2 fun a=>by simp only[List.count_append,List.count_cons,List.count_nil]<;>omega) ?_
   refine Ow.appendXG (e:=9) (k:=1) (new:=Vk_ r.name) (X:=D1) v0 rfl rfl rfl rfl Tryd.underlying57 (id (by kernel_rfl):qi_ Tryd.prog 9=some (false,1)) (by kernel_rfl) (id (by kernel_rfl):qb_ Tryd.prog 9=some (vs [])) rfl Tryd.underlying57 (by intro k h;cases h) hG1 (fun w' hw'=>AppX.one1 (hw'.has ba (.cells #[vs r.name] 9 (0,0)) (by simp)) rfl rfl) (by omega) (fun B4 v4 D4 hA4 hB4 hG4 hk41 hk42 hlk4=> ?_)
   have hN4:New w1.heap.size D4:=New.of_le fun q hq=>by
    rcases hk42 q hq with h|h
    ·exact hN1.le q h
    ·omega
   refine Ow.permL (M:=(b6, .cells (shC r).toArray 26 (0,0)):: ((bm,mgO v0 (.slice none 0 0) (.slice none 0 0)):: (D4++ (DG++ [(ba, .cells #[vs r.name] 9 (0,0))])))) (by classical exact List.perm_iff_count.2 fun a=>by simp only[List.count_append,List.count_cons,List.count_nil]<;>omega) ?_
   with_reducible refine Ow.nil ?_
   refine⟨(fun x hx=>by simp only[List.mem_cons,List.not_mem_nil,or_false] at hx;rcases hx with rfl|rfl<;>simp(disch:=omega) only[List.cons_append,List.nil_append,zO_,zv_]), ?_⟩
   have st4: ∀a,zk_ (some (a,1)) (some (mgO v0 (.slice none 0 0) (.slice none 0 0))) 0 v4=some (mgO v4 (.slice none 0 0) (.slice none 0 0)):=fun a=>Ks_ v0 _ _ v4 a hG4.cell
   refine kq @zy_ ?_
   refine Ow.store rfl rfl rfl (ke (And.intro @zy_ @st4)) ?_
   refine ko @zy_ ?_
   refine Cw.permL (M:=(bm,mgO v4 (.slice none 0 0) (.slice none 0 0)):: (D4++ ((b6, .cells (shC r).toArray 26 (0,0)):: (DG++ [(ba, .cells #[vs r.name] 9 (0,0))])))) (by classical exact List.perm_iff_count.2 fun a=>by simp only[List.count_append,List.count_cons,List.count_nil]<;>omega) ?_
   first|with_reducible refine ks [] @zy_ ?_|refine kp @zy_ ?_
   refine Again.mk ⟨k+1,v4,D4,(b6, .cells (shC r).toArray 26 (0,0)):: (DG++ [(ba, .cells #[vs r.name] 9 (0,0))])⟩ (by show Z.length - (k+1)<Z.length - k;omega) ⟨hlt,hN4,⟨hw6,hNG.app ⟨hwa,trivial⟩⟩, ?_⟩ rfl rfl
   show Gr D4 9 1 v4 (k+1) (((Z.take (k+1)).map ShL.name).map Vk_).flatten
   rw[hts]
   simpa only[List.map_append,List.map_cons,List.map_nil,List.flatten_append,List.flatten_cons,List.flatten_nil,List.append_nil] using hG4
  ·obtain rfl:k=Z.length:=by omega
   have d2:decide ((Z.length:Int)< (Z.length:Int))=false:=decide_eq_false (by omega)
   rw[List.take_length] at hG1
   have hNm:New w1.heap.size ((bm,mgO v0 (.slice none 0 0) (.slice none 0 0)):: (D1++DG)):=⟨hwm,hN1.app hNG⟩
   have hshort:aeh_ (Z.map ShL.name):=by
    intro s hs'
    obtain⟨x,hx,rfl⟩:=List.mem_map.1 hs'
    exact(hZs x hx).1
   have hmg:MgD ((bm,mgO v0 (.slice none 0 0) (.slice none 0 0)):: (D1++DG)) bm (Z.map ShL.name) [] []:=⟨v0,_,_,List.mem_cons_self,by rw[List.length_map];exact Gr.i hG1 fun p hp=>List.mem_cons_of_mem _ (List.mem_append_left _ hp),(Gr.nl (L:= [])).i fun q hq=>(by cases hq),(Gr.nl (L:= [])).i fun q hq=>(by cases hq)⟩
   first|with_reducible refine ks [] (And.intro @zy_ @d2) ?_|refine kp (And.intro @zy_ @d2) ?_
   refine Ow.callFV rfl Tryd.call18 (fun w' hw'=>vg_ bm (Z.map ShL.name) [] [] w' (hmg.inW hw') (by rw[List.length_map];omega) (by simp) hshort) ?_
   cases hrt:ql_ (Z.map ShL.name) [] with
   |false=>
    refine ko @zy_ ?_
    first|with_reducible refine ks [] @zy_ ?_|refine kp @zy_ ?_
    refine⟨_,(ke @zy_),hNm, ?_⟩
    skip
    refine hpost [] _ (fun h=>by rw[hrt] at h;cases h) ?_
    unfold ZZ_
    rw[if_neg (by omega),if_pos hrt];rfl
   |true=>
    refine ko @zy_ ?_
    first|with_reducible refine ks [] (And.intro @zy_ @lnz) ?_|refine kp (And.intro @zy_ @lnz) ?_
    refine Cw.loopG (G:=Mk2) [45,46,47,9,49,50,51,48,52,53,10,11,54,55,56,2,3,57,58,59,60,61,62,63,64,65,66,67,68,69,7,70,71,72,44] (fun g=> [(7,g.vp),(44,vi g.q.length)]) (fun g=>(bm,mgO v0 g.v1 (.slice none 0 0)):: (D1++ (g.DP++ (g.D2++ (g.D3++g.DG))))) (fun g=>g.q.length≤Z.length∧kr_ Z g.q.length=some g.q∧g.ps.length=g.q.length∧New w1.heap.size g.DP∧New w1.heap.size g.D2∧New w1.heap.size g.D3∧New w1.heap.size g.DG∧Gr g.DP 41 1 g.vp g.ps.length (g.ps.map ptC).flatten∧Gr g.D2 9 1 g.v1 g.q.length ((g.q.map Prod.fst).map Vk_).flatten∧(∀k,k<g.q.length→IxD g.D3 (g.ps.getD k 0) (g.q.getD k ([],[])).1 (g.q.getD k ([],[])).2)) (fun g=>Z.length - g.q.length) ⟨[],[], .slice none 0 0, .slice none 0 0,[],[],[],DG⟩ rfl rfl ?_ ?_
    ·exact⟨Nat.zero_le _,rfl,rfl,trivial,trivial,trivial,hNG,Gr.nl,Gr.nl,fun k hk=>absurd hk (Nat.not_lt_zero _)⟩
    intro g j hg
    refine kv ?_
    clear hmg hNm hNG
    obtain⟨q,ps,vp',v1,DP,D2,D3,DG2⟩:=g
    simp only at hg ⊢
    obtain⟨hq,hop,hpl,hNP,hN2,hN3,hNG,hGP,hG2,hIx⟩:=hg
    have hNall:New w1.heap.size (D1++ (DP++ (D2++ (D3++DG2)))):=hN1.app (hNP.app (hN2.app (hN3.app hNG)))
    by_cases hlt:q.length<Z.length
    ·have d2:decide ((q.length:Int)< (Z.length:Int))=true:=decide_eq_true (by omega)
     have ixz:=hzr.idx true q.length hlt
     have ldz:=hzr.load qv_ (by omega) hlt
     have hzb:=hzr.lt (by omega)
     have rdz:zx_ w1 ((bm,mgO v0 v1 (.slice none 0 0)):: (D1++ (DP++ (D2++ (D3++DG2))))) rb=some (.cells arr E fz):=by
      rw[zv_ _ _ _ _ _ (by omega),qM_ (hNall.not hzb)];exact hzr.has (by omega)
     have hsb:=hZs (Z.getD q.length sh0) (by rw[List.getD_eq_getElem?_getD,List.getElem?_eq_getElem hlt];exact List.getElem_mem _)
     have hos:kr_ Z (q.length+1)=match some q,wc_ (Z.getD q.length sh0).bytes with|some q,some p=>some (q++ [p]) |_,_=>none:=by rw[←hop];rfl
     generalize Z.getD q.length sh0=r at*
     first|with_reducible refine ks [21] (And.intro @zy_ (And.intro @d2 (And.intro @ixz (And.intro @rdz (@ldz))))) ?_|refine kp (And.intro @zy_ (And.intro @d2 (And.intro @ixz (And.intro @rdz (@ldz))))) ?_
     refine Ow.alloc rfl rfl zrSh fun b9 hb9 hw9=> ?_
     simp only[ze_,List.nil_append,List.cons_append]
     have h9m:bm<b9:=zz_ hb9 (by simp[keys])
     refine Ow.permL (M:=(b9, .cells (shC sh0).toArray 26 (0,0)):: ((bm,mgO v0 v1 (.slice none 0 0)):: (D1++ (DP++ (D2++ (D3++DG2)))))) (by classical exact List.perm_iff_count.2 fun a=>by simp only[List.count_append,List.count_cons,List.count_nil]<;>omega) ?_
     refine ko @zy_ ?_
     first|with_reducible refine ks [] @zy_ ?_|refine kp @zy_ ?_
     refine Ow.callC rfl rfl Tryd.call10 (fun w' hw'=>ach_ r.bytes w' (hC1.newP hw' ⟨hw9,hwm,hNall⟩) (by omega)) (fun B1 vq Dq hAq hBq hNq hSq=> ?_)
     unfold aeN_ at hSq
     cases hoi:wc_ r.bytes with
     |none=>
      rw[hoi] at hSq hos
      subst hSq
      have e2: ((2:Int) !=0)=true:=rfl
      refine ko @zy_ ?_
      first|with_reducible refine ks [] (And.intro @zy_ @e2) ?_|refine kp (And.intro @zy_ @e2) ?_
      have hfin:kr_ Z Z.length=none:=Jz_ hos (by omega)
      refine⟨_,(ke @zy_),(show New w1.heap.size (((b9, .cells (shC r).toArray 26 (0,0)):: ((bm,mgO v0 v1 (.slice none 0 0)):: (D1++ (DP++ (D2++ (D3++DG2))))))++Dq) from New.app ⟨hw9,hwm,hNall⟩ (hNq.mono hBq)), ?_⟩
      skip
      refine hpost [] _ (fun h q1 hq1=>by rw[hfin] at hq1;cases hq1) ?_
      unfold ZZ_
      rw[if_neg (by omega),if_neg (by rw[hrt];simp),hfin];rfl
     |some p=>
      rw[hoi] at hSq hos
      obtain⟨bi,rfl,hID⟩:=hSq
      obtain⟨psm,prw⟩:=p
      simp only at hID
      have e0: ((0:Int) !=0)=false:=rfl
      have hNq':=hNq.mono hBq
      refine ko @zy_ ?_
      first|with_reducible refine ks [] (And.intro @zy_ @e0) ?_|refine kp (And.intro @zy_ @e0) ?_
      refine Cw.permL (M:=(bm,mgO v0 v1 (.slice none 0 0)):: (D1++ (DP++ (D2++ (Dq++ (D3++ ((b9, .cells (shC r).toArray 26 (0,0))::DG2))))))) (by classical exact List.perm_iff_count.2 fun a=>by simp only[List.count_append,List.count_cons,List.count_nil]<;>omega) ?_
      refine Cw.regionS [bm] [0,1,2,5,6,7,9,8,3,4,10,11,12,13,14,15,16] [16] (by kernel_rfl) (by kernel_rfl) (by kernel_rfl) ?_
      simp only[zm_, ↓zd_, ↓zb_, ↓zE_, ↓zD_,zc_]
      refine kq @zy_ ?_
      refine Ow.soft rfl rfl rfl ?_
      refine Ow.buildSlice (e:=41) #[vp bi 0] rfl rfl (by kernel_rfl) fun ba hba hwa=> ?_
      with_reducible refine Ow.nil ?_
      refine⟨(fun x hx=>by rw[List.mem_singleton] at hx;subst hx;simp(disch:=omega) only[List.cons_append,List.nil_append,zO_,zv_]), ?_⟩
      refine kq @zy_ ?_
      refine Ow.soft rfl rfl rfl ?_
      refine Ow.permL (M:=DP++ ((bm,mgO v0 v1 (.slice none 0 0)):: (D1++ (D2++ (Dq++ (D3++ ((b9, .cells (shC r).toArray 26 (0,0)):: (DG2++ [(ba, .cells #[vp bi 0] 41 (0,0))])))))))) (by classical exact List.perm_iff_count.2 fun a=>by simp only[List.count_append,List.count_cons,List.count_nil]<;>omega) ?_
      refine Ow.appendXG (e:=41) (k:=1) (new:=ptC bi) (X:=DP) vp' rfl rfl rfl rfl Tryd.underlying60 (id (by kernel_rfl):qi_ Tryd.prog 41=some (false,1)) (by kernel_rfl) (id (by kernel_rfl):qb_ Tryd.prog 41=some (.pointer none)) rfl Tryd.underlying60 (by intro k h;cases h) hGP (fun w' hw'=>AppX.one1 (hw'.has ba (.cells #[vp bi 0] 41 (0,0)) (by simp)) rfl rfl) (by omega) (fun B4 v4 D4 hA4 hB4 hG4 hk41 hk42 hlk4=> ?_)
      have hN4:New w1.heap.size D4:=New.of_le fun q hq=>by
       rcases hk42 q hq with h|h
       ·exact hNP.le q h
       ·omega
      refine Ow.permL (M:=(bm,mgO v0 v1 (.slice none 0 0)):: (D1++ (D4++ (D2++ (Dq++ (D3++ ((b9, .cells (shC r).toArray 26 (0,0)):: (DG2++ [(ba, .cells #[vp bi 0] 41 (0,0))])))))))) (by classical exact List.perm_iff_count.2 fun a=>by simp only[List.count_append,List.count_cons,List.count_nil]<;>omega) ?_
      with_reducible refine Ow.nil ?_
      refine⟨(fun x hx=>by rw[List.mem_singleton] at hx;subst hx;simp(disch:=omega) only[List.cons_append,List.nil_append,zO_,zv_]), ?_⟩
      refine kq @zy_ ?_
      refine Ow.soft rfl rfl rfl ?_
      refine Ow.callFV rfl Tryd.call19 (fun w' hw'=>adI_ bi psm prw w' ((hID.mono (D':=(bm,mgO v0 v1 (.slice none 0 0)):: (D1++ (D4++ (D2++ (Dq++ (D3++ ((b9, .cells (shC r).toArray 26 (0,0)):: (DG2++ [(ba, .cells #[vp bi 0] 41 (0,0))])))))))) fun p hp=>by simp[hp]).inW hw')) ?_
      with_reducible refine Ow.nil ?_
      refine⟨by intro b hb;simp only[List.mem_cons,List.not_mem_nil,or_false] at hb;(try subst hb);rfl, ?_⟩
      refine kq @zy_ ?_
      refine Ow.soft rfl rfl rfl ?_
      refine Ow.buildSlice (e:=9) #[vs psm] rfl rfl (by kernel_rfl) fun bc hbc hwc=> ?_
      with_reducible refine Ow.nil ?_
      refine⟨(fun x hx=>by rw[List.mem_singleton] at hx;subst hx;simp(disch:=omega) only[List.cons_append,List.nil_append,zO_,zv_]), ?_⟩
      refine kq @zy_ ?_
      refine Ow.soft rfl rfl rfl ?_
      refine Ow.permL (M:=D2++ ((bm,mgO v0 v1 (.slice none 0 0)):: (D1++ (D4++ (Dq++ (D3++ ((b9, .cells (shC r).toArray 26 (0,0)):: (DG2++ [(ba, .cells #[vp bi 0] 41 (0,0)),(bc, .cells #[vs psm] 9 (0,0))])))))))) (by classical exact List.perm_iff_count.2 fun a=>by simp only[List.count_append,List.count_cons,List.count_nil]<;>omega) ?_
      refine Ow.appendXG (e:=9) (k:=1) (new:=Vk_ psm) (X:=D2) v1 rfl rfl rfl rfl Tryd.underlying57 (id (by kernel_rfl):qi_ Tryd.prog 9=some (false,1)) (by kernel_rfl) (id (by kernel_rfl):qb_ Tryd.prog 9=some (vs [])) rfl Tryd.underlying57 (by intro k h;cases h) hG2 (fun w' hw'=>AppX.one1 (hw'.has bc (.cells #[vs psm] 9 (0,0)) (by simp)) rfl rfl) (by omega) (fun B5 v5 D5 hA5 hB5 hG5 hk51 hk52 hlk5=> ?_)
      have hN5:New w1.heap.size D5:=New.of_le fun q hq=>by
       rcases hk52 q hq with h|h
       ·exact hN2.le q h
       ·omega
      refine Ow.permL (M:=(bm,mgO v0 v1 (.slice none 0 0)):: (D1++ (D4++ (D5++ ((Dq++D3)++ ((b9, .cells (shC r).toArray 26 (0,0)):: (DG2++ [(ba, .cells #[vp bi 0] 41 (0,0)),(bc, .cells #[vs psm] 9 (0,0))]))))))) (by classical exact List.perm_iff_count.2 fun a=>by simp only[List.count_append,List.count_cons,List.count_nil]<;>omega) ?_
      with_reducible refine Ow.nil ?_
      refine⟨(fun x hx=>by rw[List.mem_singleton] at hx;subst hx;simp(disch:=omega) only[List.cons_append,List.nil_append,zO_,zv_]), ?_⟩
      have st4: ∀a,zk_ (some (a,1)) (some (mgO v0 v1 (.slice none 0 0))) 1 v5=some (mgO v0 v5 (.slice none 0 0)):=fun a=>X1_ v0 v1 _ v5 a hG5.cell
      refine kq @zy_ ?_
      refine Ow.store rfl rfl rfl (ke (And.intro @zy_ @st4)) ?_
      refine ko @zy_ ?_
      first|with_reducible refine ks [] @zy_ ?_|refine kp @zy_ ?_
      have hlt2: (q++ [(psm,prw)]).length=q.length+1:=by simp
      have hqs:kr_ Z (q++ [(psm,prw)]).length=some (q++ [(psm,prw)]):=by rw[List.length_append];exact hos
      refine Again.mk ⟨q++ [(psm,prw)],ps++ [bi],v4,v5,D4,D5,Dq++D3,((b9, .cells (shC r).toArray 26 (0,0)):: (DG2++ [(ba, .cells #[vp bi 0] 41 (0,0)),(bc, .cells #[vs psm] 9 (0,0))]))⟩ (by show Z.length - (q++ [(psm,prw)]).length<Z.length - q.length;rw[List.length_append,List.length_singleton];omega) ⟨by show(q++ [(psm,prw)]).length≤Z.length;rw[List.length_append,List.length_singleton];omega,hqs,by show(ps++ [bi]).length=(q++ [(psm,prw)]).length;rw[List.length_append,List.length_append,hpl];rfl,hN4,hN5,hNq'.app hN3,⟨hw9,hNG.app ⟨hwa,hwc,trivial⟩⟩, ?_, ?_, ?_⟩ rfl (by simp only[hlt2];rfl)
      ·show Gr D4 41 1 v4 (ps++ [bi]).length ((ps++ [bi]).map ptC).flatten
       rw[List.length_append,List.length_singleton]
       simpa only[List.map_append,List.map_cons,List.map_nil,List.flatten_append,List.flatten_cons,List.flatten_nil,List.append_nil] using hG4
      ·show Gr D5 9 1 v5 (q++ [(psm,prw)]).length (((q++ [(psm,prw)]).map Prod.fst).map Vk_).flatten
       rw[hlt2]
       simpa only[List.map_append,List.map_cons,List.map_nil,List.flatten_append,List.flatten_cons,List.flatten_nil,List.append_nil] using hG5
      ·intro k hk
       show IxD (Dq++D3) ((ps++ [bi]).getD k 0) ((q++ [(psm,prw)]).getD k ([],[])).1 ((q++ [(psm,prw)]).getD k ([],[])).2
       have hk':k<q.length+1:=by rw[←hlt2];exact hk
       by_cases he:k<q.length
       ·rw[qr_ _ _ he,qr_ _ _ (by omega)]
        exact(hIx k he).mono fun p hp=>List.mem_append_right _ hp
       ·obtain rfl:k=q.length:=by omega
        rw[Kb_ _ _ rfl,Kb_ _ _ hpl]
        exact hID.mono fun p hp=>List.mem_append_left _ hp
    ·have hql:q.length=Z.length:=by omega
     have d2:decide ((q.length:Int)< (Z.length:Int))=false:=decide_eq_false (by omega)
     have hop':kr_ Z Z.length=some q:=by rw[←hql];exact hop
     have hall:=K4_ hop
     have hNm:New w1.heap.size ((bm,mgO v0 v1 (.slice none 0 0)):: (D1++ (DP++ (D2++ (D3++DG2))))):=⟨hwm,hNall⟩
     have hpk: ∀w',Hp w1 ((bm,mgO v0 v1 (.slice none 0 0)):: (D1++ (DP++ (D2++ (D3++DG2))))) w'→PkIn w' vp' q:=fun w' hw'=>by
      refine⟨ps,hpl,(Gr.i hGP fun p hp=>by simp[hp]).slV hw' rfl rfl (fun _=>rfl),fun k hk=> ?_⟩
      exact((hIx k hk).mono fun p hp=>by simp[hp]).inW hw'
     first|with_reducible refine ks [23] (And.intro @zy_ @d2) ?_|refine kp (And.intro @zy_ @d2) ?_
     refine Ow.callC rfl rfl Tryd.call20 (fun w' hw'=>Vx_ vp' q w' (hpk w' hw') (by omega) (fun p hp=>by have:=hall p hp;omega)) (fun B1 v9 D9 hA9 hB9 hN9 hS9=> ?_)
     obtain⟨L,hL,hGL⟩:=hS9
     have hN9':=hN9.mono hB9
     have st4: ∀a,zk_ (some (a,1)) (some (mgO v0 v1 (.slice none 0 0))) 2 v9=some (mgO v0 v1 v9):=fun a=>K2_ v0 v1 _ v9 a (by obtain⟨X,-,hX⟩:=hGL;exact hX.cell)
     rw[List.cons_append]
     refine ko (And.intro @zy_ @st4) ?_
     have hNe:New w1.heap.size ((bm,mgO v0 v1 v9):: ((D1++ (DP++ (D2++ (D3++DG2))))++D9)):=⟨hwm,hNall.app hN9'⟩
     have hmg:MgD ((bm,mgO v0 v1 v9):: ((D1++ (DP++ (D2++ (D3++DG2))))++D9)) bm (Z.map ShL.name) (q.map Prod.fst) L:=⟨v0,v1,v9,List.mem_cons_self,by rw[List.length_map];exact Gr.i hG1 fun p hp=>by simp[hp],by rw[List.length_map];exact Gr.i hG2 fun p hp=>by simp[hp],hGL.mono fun p hp=>by simp[hp]⟩
     have hLl:L.length<1000000:=by
      have h1:=hL.1.length_eq
      have h2:=Qp_ q (fun p hp=>by have:=hall p hp;omega) q.length (Nat.le_refl _)
      rw[List.length_map] at h1
      omega
     first|with_reducible refine ks [] @zy_ ?_|refine kp @zy_ ?_
     refine Ow.callFV rfl Tryd.call18 (fun w' hw'=>vg_ bm (Z.map ShL.name) (q.map Prod.fst) L w' (hmg.inW hw') (by rw[List.length_map];omega) hLl hshort) ?_
     cases hrt2:ql_ (Z.map ShL.name) L with
     |false=>
      refine ko @zy_ ?_
      first|with_reducible refine ks [] @zy_ ?_|refine kp @zy_ ?_
      refine⟨_,(ke @zy_),hNe, ?_⟩
      skip
      refine hpost L _ (fun _ q1 hq1=>by rw[hop'] at hq1;cases hq1;exact hL) ?_
      unfold ZZ_
      rw[if_neg (by omega),if_neg (by rw[hrt];simp),hop']
      simp only
      rw[if_pos hrt2];rfl
     |true=>
      have hr2:=hrt2
      unfold ql_ at hr2
      simp only[Bool.and_eq_true,Bool.not_eq_true',decide_eq_false_iff_not] at hr2
      have hns:Most 1000 (Z.map ShL.name):=fun s hs'=>by
       have h3:=List.all_eq_true.1 hr2.2.2 s hs'
       unfold xB_ at h3
       simp only[Bool.and_eq_true,decide_eq_true_eq] at h3
       omega
      have hss:Most 1000 (q.map Prod.fst):=fun s hs'=>by
       obtain⟨p,hp,rfl⟩:=List.mem_map.1 hs'
       have:=hall p hp
       omega
      refine ko @zy_ ?_
      first|with_reducible refine ks [] @zy_ ?_|refine kp @zy_ ?_
      refine Ow.callFV rfl Tryd.call21 (fun w' hw'=>ZU_ bm (Z.map ShL.name) (q.map Prod.fst) L w' (hC1.newP hw' hNe) (hmg.inW hw') (by rw[List.length_map,List.length_map];omega) (by rw[List.length_map];omega) (by omega) hns hss) ?_
      refine ko @zy_ ?_
      first|with_reducible refine ks [] @zy_ ?_|refine kp @zy_ ?_
      refine⟨_,(ke @zy_),hNe, ?_⟩
      skip
      refine hpost L _ (fun _ q1 hq1=>by rw[hop'] at hq1;cases hq1;exact hL) ?_
      unfold ZZ_
      rw[if_neg (by omega),if_neg (by rw[hrt];simp),hop']
      simp only
      rw[if_neg (by rw[hrt2];simp)];rfl
end Go.Proofs
end
section
open Go Go.Proofs Go.Sx Go.StP Go.Flo
namespace Go.Proofs
set_option maxRecDepth 10000
set_option maxHeartbeats 400000
set_option linter.unusedSimpArgs false
theorem aiJ_ (A x:List UInt8) {n:Nat} {r:LnL} (hn:n≤40) (h:js_ n r=true):lnR (A++ (wZ_ r++x)) (A.length,0)=(r,A.length+ (wZ_ r).length,0):=by
 obtain⟨i,sh,pl,sp⟩:=r
 unfold js_ numM at h
 simp only[Bool.and_eq_true,Bool.not_eq_true',decide_eq_false_iff_not,decide_eq_true_eq] at h
 obtain⟨⟨⟨h1,h2⟩,h3⟩,h4⟩:=h
 obtain⟨s,rfl⟩: ∃s:Nat,sh=(s:Int):=⟨sh.toNat,by omega⟩
 obtain⟨p,rfl⟩: ∃s:Nat,pl=(s:Int):=⟨pl.toNat,by omega⟩
 obtain⟨q,rfl⟩: ∃s:Nat,sp=(s:Int):=⟨sp.toNat,by omega⟩
 have e:wZ_ ⟨i,(s:Int),(p:Int),(q:Int)⟩=i.l++ (z3_ s++ (z3_ p++z3_ q)):=by
  unfold wZ_;rw[qs_ (show s≤1099511627775 by omega),qs_ (show p≤1099511627775 by omega),qs_ (show q≤1099511627775 by omega)]
 have e2:A++ (wZ_ ⟨i,(s:Int),(p:Int),(q:Int)⟩++x)=A++ (i.l++ (z3_ s++ (z3_ p++ (z3_ q++x)))):=by rw[e];simp only[List.append_assoc]
 have a1:=aaL_ A (z3_ s++ (z3_ p++ (z3_ q++x))) i
 have a2:=qN_ (A++i.l) (z3_ p++ (z3_ q++x)) s 40 (by omega) (by omega)
 have a3:=qN_ (A++ (i.l++z3_ s)) (z3_ q++x) p 1099511627775 (by omega) (by omega)
 have a4:=qN_ (A++ (i.l++ (z3_ s++z3_ p))) x q 1099511627775 (by omega) (by omega)
 simp only[List.append_assoc,List.length_append,i.h] at a2 a3 a4
 unfold lnR Qx_
 rw[e2]
 simp only
 rw[a1]
 simp only
 rw[a2]
 simp only
 rw[Nat.add_assoc,a3]
 simp only
 rw[show A.length+ (32+ (z3_ s).length)+ (z3_ p).length=A.length+ (32+ ((z3_ s).length+ (z3_ p).length)) by omega,a4,ad8_,e]
 simp only[List.length_append,i.h,Nat.add_assoc]
theorem aaE_ (x:List UInt8) {n:Nat} (hn:n≤40): ∀ (l:List LnL) (A:List UInt8),(∀r,r∈l→js_ n r=true)→Vm_ (A++ (qx_ l++x)) l.length (A.length,0)=(l,A.length+ (qx_ l).length,0)
 | [],A,_=>by simp[Vm_,qx_]
 |r::l,A,h=>by
  have h1:=aiJ_ A (qx_ l++x) hn (h r List.mem_cons_self)
  have h2:=aaE_ x hn l (A++wZ_ r) fun y hy=>h y (List.mem_cons_of_mem _ hy)
  have e:qx_ (r::l)=wZ_ r++qx_ l:=by simp[qx_]
  simp only[List.append_assoc,List.length_append] at h2
  rw[List.length_cons,e,List.append_assoc]
  unfold Vm_
  rw[h1]
  simp only
  rw[h2,List.length_append,Nat.add_assoc]
theorem KO_ (n u:List UInt8) (ns us:List (List UInt8)): ∀k,kf_ (n::ns) (u::us) (k+1)=jM_ n++ (u++kf_ ns us k)
 |0=>by simp[kf_]
 |k+1=>by
  have h:=KO_ n u ns us k
  show kf_ (n::ns) (u::us) (k+1)++ (jM_ ((n::ns).getD (k+1) [])++ (u::us).getD (k+1) [])=_
  rw[h,List.getD_cons_succ,List.getD_cons_succ]
  simp only[kf_,List.append_assoc]
theorem aaw_ (x:List UInt8): ∀ (ns us:List (List UInt8)) (A:List UInt8),us.length=ns.length→Most 40 ns→(∀u,u∈us→u.length=4)→Qi_ (A++ (kf_ ns us ns.length++x)) ns.length (A.length,0)=(ns,us,A.length+ (kf_ ns us ns.length).length,0)
 | [],[],A,_,_,_=>by simp[Qi_,kf_]
 | [],_::_,_,h,_,_=>by cases h
 |_::_,[],_,h,_,_=>by cases h
 |n::ns,u::us,A,h,hn,hu=>by
  have hl:=hn n List.mem_cons_self
  have h4:=hu u List.mem_cons_self
  have a1:=ab5_ A n (u++ (kf_ ns us ns.length++x)) 40 (by omega) (by omega)
  have a2:=kx_ (A++jM_ n) u (kf_ ns us ns.length++x)
  have a3:=aaw_ x ns us (A++ (jM_ n++u)) (by simpa using h) (fun y hy=>hn y (List.mem_cons_of_mem _ hy)) (fun y hy=>hu y (List.mem_cons_of_mem _ hy))
  rw[h4] at a2
  simp only[List.append_assoc,List.length_append,h4] at a2 a3
  rw[List.length_cons,KO_]
  simp only[List.append_assoc]
  have e:nmR (A++ (jM_ n++ (u++ (kf_ ns us ns.length++x)))) (A.length,0)=(n,u,A.length+ (jM_ n).length+4,0):=by
   unfold nmR
   simp only
   rw[a1]
   simp only
   rw[show(4:Int)=((4:Nat):Int) from rfl,a2]
  unfold Qi_
  rw[e]
  simp only
  rw[Nat.add_assoc,a3]
  simp only[List.length_append,h4,Nat.add_assoc]
theorem adW_ {names:List (List UInt8)} {lines:List LnL} (h:ql_ names lines=true):names.length≤40∧lines.length≤8000∧(∀r,r∈lines→js_ names.length r=true)∧Most 40 names:=by
 unfold ql_ at h
 simp only[Bool.and_eq_true,Bool.not_eq_true',decide_eq_false_iff_not] at h
 refine⟨by omega,by omega,fun r hr=>List.all_eq_true.1 h.2.1 r hr,fun s hs=> ?_⟩
 have h3:=List.all_eq_true.1 h.2.2 s hs
 unfold xB_ at h3
 simp only[Bool.and_eq_true,decide_eq_true_eq] at h3
 exact h3.2.2
theorem ad2_ {names sums:List (List UInt8)} {lines:List LnL} (h:ql_ names lines=true) (hs:sums.length=names.length) (hu: ∀u,u∈sums→u.length=4):k9_ (kY_ names sums lines) (4,0)=(names,sums,lines,(kY_ names sums lines).length,0):=by
 obtain⟨h1,h2,h3,h4⟩:=adW_ h
 have e:kY_ names sums lines=magM++ (z3_ names.length++ (kf_ names sums names.length++ (z3_ lines.length++qx_ lines))):=by
  unfold kY_;rw[qs_ (show names.length≤1099511627775 by omega),qs_ (show lines.length≤1099511627775 by omega)];simp only[List.append_assoc]
 have a1:=qN_ magM (kf_ names sums names.length++ (z3_ lines.length++qx_ lines)) names.length 40 (by omega) (by omega)
 have a2:=aaw_ (z3_ lines.length++qx_ lines) names sums (magM++z3_ names.length) hs h4 hu
 have a3:=qN_ (magM++ (z3_ names.length++kf_ names sums names.length)) (qx_ lines) lines.length 8000 (by omega) (by omega)
 have a4:=aaE_ [] h1 lines (magM++ (z3_ names.length++ (kf_ names sums names.length++z3_ lines.length))) h3
 simp only[List.append_assoc,List.length_append,List.append_nil,show magM.length=4 from rfl] at a1 a2 a3 a4
 unfold k9_
 have e1:JK_ (kY_ names sums lines) (4,0)=(names,sums,4+ (z3_ names.length).length+ (kf_ names sums names.length).length,0):=by
  unfold JK_
  simp only
  rw[e,a1]
  simp only[Int.toNat_natCast]
  rw[a2]
 have e2:aal_ (kY_ names sums lines) (4+ (z3_ names.length).length+ (kf_ names sums names.length).length,0)=(lines,(kY_ names sums lines).length,0):=by
  unfold aal_
  simp only
  rw[e,show 4+ (z3_ names.length).length+ (kf_ names sums names.length).length=4+ ((z3_ names.length).length+ (kf_ names sums names.length).length) by omega,a3]
  simp only[Int.toNat_natCast]
  rw[show 4+ ((z3_ names.length).length+ (kf_ names sums names.length).length)+ (z3_ lines.length).length=4+ ((z3_ names.length).length+ ((kf_ names sums names.length).length+ (z3_ lines.length).length)) by omega,a4]
  simp only[List.length_append,show magM.length=4 from rfl,Nat.add_assoc]
 rw[e1]
 simp only
 rw[e2]
theorem Ww_ {names sums:List (List UInt8)} {lines:List LnL} (h:ql_ names lines=true) (hs:sums.length=names.length) (hu: ∀u,u∈sums→u.length=4):ab4_ (z9_ (kY_ names sums lines))=some (names,sums,lines):=by
 have e:qq_ (kY_ names sums lines) 0 0 4=(magM,4,0):=by
  have:=kx_ [] magM (z3_ (zM_ (names.length:Int))++ (kf_ names sums names.length++ (z3_ (zM_ (lines.length:Int))++qx_ lines)))
  unfold kY_
  simp only[List.append_assoc]
  rw[List.nil_append,List.length_nil,Nat.zero_add] at this
  exact this
 refine(aa0_ (b:=z9_ (kY_ names sums lines)) (s:=kY_ names sums lines) (by rw[wX_]) (by rw[e];exact ad2_ h hs hu)).1 ⟨aeA_ _,h,rfl⟩
end Go.Proofs
end
section
open Go Go.Proofs Go.Sx Go.StP Go.Flo
namespace Go.Proofs
set_option maxRecDepth 10000
set_option maxHeartbeats 1000000
set_option linter.unusedSimpArgs false
def id1:IdL:=⟨1::List.replicate 31 0,by simp⟩
theorem Vh_:jb_ (Jn_ Tryd.prog 36) (qb_ Tryd.prog 36) [(0,v8 1)]=some (.agg (a8 id1.l)):=id (by kernel_rfl)
def am4:List UInt8:= [97,98,99,100]
def amR:RwL:=⟨id1,2,3⟩
def amN:List UInt8:= [112]
def amL:LnL:=⟨id1,0,2,3⟩
theorem aaF_:q6_ am4 [amR]=true:=by rfl
theorem adq_ {r:RwL} {Z:List RwL} (h:rws_SortOf [r] Z):Z= [r]:=h.eq ⟨rfl,List.pairwise_singleton _ _,StP.St.refl _ _⟩
theorem adX_ {r:ShL} {Z:List ShL} (h:shs_SortOf [r] Z):Z= [r]:=h.eq ⟨rfl,List.pairwise_singleton _ _,StP.St.refl _ _⟩
theorem JH_:ql_ [amN] []=true:=by rfl
theorem ZD_:ql_ [amN] [amL]=true:=by rfl
theorem ahM_:qX_ [(am4,[amR])] 1= [(id1,amL)]:=by rfl
theorem aiQ_ {w:World} {b:Nat} {p:RwL} (h:w.heap[b]? =some (.cells (rwC p).toArray 45 (0,0))):RwSl w (vsl b 0 1 1) [p]:=
 SlV.sl (l:= [p]) h (fun k hk j hj=>by
  obtain rfl:k=0:=by simpa using hk
  rw[Nat.zero_mul,Nat.zero_add,List.getElem?_toArray];rfl) (Nat.le_refl 1) (by rw[List.size_toArray,z4_];exact Nat.le_refl _)
theorem acI_ {w:World} {b:Nat} {p:ShL} (h:w.heap[b]? =some (.cells (shC p).toArray 26 (0,0))):ShSl w (vsl b 0 1 1) [p]:=
 SlV.sl (l:= [p]) h (fun k hk j hj=>by
  obtain rfl:k=0:=by simpa using hk
  rw[Nat.zero_mul,Nat.zero_add,List.getElem?_toArray];rfl) (Nat.le_refl 1) (by rw[List.size_toArray,qv_];exact Nat.le_refl _)
theorem aiU_ {s:List UInt8} (hs:wc_ s=some (am4,[amR])) {v:Value} (h:x9_ [⟨amN,s⟩] v):v= .tuple #[vs (z9_ (kY_ [amN] [am4] [amL])),vi 0]:=by
 unfold x9_ at h
 rw[if_neg (by simp)] at h
 obtain⟨Z,L,hZ,hL,rfl⟩:=h
 obtain rfl:=adX_ hZ
 have ho:kr_ [⟨amN,s⟩] [(⟨amN,s⟩:ShL)].length=some [(am4,[amR])]:=by
  show(match some [],wc_ s with|some q,some p=>some (q++ [p]) |_,_=>none)=_
  rw[hs];rfl
 have h1:=hL JH_ _ ho
 rw[show [(am4,[amR])].length=1 from rfl,ahM_] at h1
 have h2:L= [amL]:=List.perm_singleton.1 h1.1
 subst h2
 unfold ZZ_
 rw[if_neg (by simp),if_neg (by rw[show [(⟨amN,s⟩:ShL)].map ShL.name= [amN] from rfl,JH_];simp),ho]
 simp only[List.map_cons,List.map_nil]
 rw[if_neg (by rw[ZD_];simp)]
theorem aiM_:aay_ [amN] [amL] id1= .tuple #[vs amN, .agg (lnC amL).toArray, .bool true]:=by
 unfold aay_
 have:Zk_ [amL] id1=(amL,true):=by
  unfold Zk_
  rw[List.find?_cons,show(amL.id.l==id1.l)=true from beq_self_eq_true _]
 rw[this];rfl
theorem ah4_:ab4_ (z9_ (kY_ [amN] [am4] [amL]))=some ([amN],[am4],[amL]):=Ww_ ZD_ rfl (by intro u hu;rw[List.mem_singleton] at hu;subst hu;rfl)
set_option linter.defProp false
def j3_:=And.intro (And.intro (And.intro (@zf_) (@zg_)) (And.intro (@Sx.tup2_0) (And.intro (@Sx.tup2_1) (@Sx.tup3_0)))) (And.intro (And.intro (@Sx.tup3_1) (@Sx.tup3_2)) (And.intro (@q8_) (And.intro (@w5_) (@xJ_))))
theorem xT_ (w:World) (hC:GlobC w):Rets Tryd.prog 5 #[] w (fun v D=>v= .bool true∧D= []):=by
 have hoi:=WA_ aaF_
 have hwi:vH_ am4 [amR]=(z9_ (wM_ am4 [amR]),0):=by unfold vH_;rw[if_pos aaF_]
 have hil: (z9_ (wM_ am4 [amR])).length<1000000:=by
  have h1:=Zy_ [amR] 1 (by decide)
  have h2:=zo_ (([amR].length:Nat):Int)
  have h3:=Z2_ (QE_ (ke_ [amR]))
  rw[kw_,J4_] at h3
  rw[List.take_of_length_le (by decide)] at h1
  rw[Qf_]
  unfold wM_ ka_
  rw[List.length_append,List.length_append,List.length_append,List.length_append,show am4.length=4 from rfl,show magI.length=4 from rfl]
  omega
 have hml: (z9_ (kY_ [amN] [am4] [amL])).length<1000000:=by
  have h1:=XD_ (names:= [amN]) (sums:= [am4]) (fun s hs=>by rw[List.mem_singleton] at hs;subst hs;decide) (fun s hs=>by rw[List.mem_singleton] at hs;subst hs;decide) 1
  have h2:=wd_ [amL] 1 (by decide)
  have h3:=zo_ (([amN].length:Nat):Int)
  have h4:=zo_ (([amL].length:Nat):Int)
  rw[List.take_of_length_le (by decide)] at h2
  rw[Qf_]
  unfold kY_
  rw[List.length_append,List.length_append,List.length_append,List.length_append,show magM.length=4 from rfl]
  rw[show [amN].length=1 from rfl] at*
  omega
 refine Rets.enterV Tryd.func5 rfl (rs:= [.tmp 0]) Tryd.results5 Tryd.ntmps5 ?_
 refine kf ?_
 first|with_reducible refine ks [] @j3_ ?_|refine kp @j3_ ?_
 refine Ow.build (.agg (a8 id1.l)) rfl Vh_ ?_
 refine ko @j3_ ?_
 refine Ow.build (.agg (rwC amR).toArray) rfl (afh_ amR) ?_
 refine ko @j3_ ?_
 refine Ow.buildSlice (e:=45) (rwC amR).toArray rfl rfl (by kernel_rfl) fun b10 hb10 hw10=> ?_
 refine ko @j3_ ?_
 have hN10:New w.heap.size [(b10,Obj.cells (rwC amR).toArray 45 (0,0))]:=⟨hw10,trivial⟩
 refine Ow.callFV rfl Tryd.call12 (fun w' hw'=>(ZA_ am4 (vsl b10 0 1 1) [amR] w' (hC.newP hw' hN10) (aiQ_ (hw'.has b10 _ List.mem_cons_self)) (by decide) (by decide)).mono (S':=fun v D=>v= .tuple #[vs (z9_ (wM_ am4 [amR])),vi 0]∧D= []) (fun v D h=>by obtain⟨⟨Z,hZ,rfl⟩,rfl⟩:=h;obtain rfl:=adq_ hZ;rw[hwi];exact⟨rfl,rfl⟩)) ?_
 generalize z9_ (wM_ am4 [amR])=s at*
 have hmk:=fun v (h:x9_ [⟨amN,s⟩] v)=>aiU_ hoi h
 have hop:=ah4_
 generalize z9_ (kY_ [amN] [am4] [amL])=b at*
 refine ko @j3_ ?_
 refine Ow.build (.agg (shC ⟨amN,s⟩).toArray) rfl (af1_ ⟨amN,s⟩) ?_
 refine ko @j3_ ?_
 refine Ow.buildSlice (e:=26) (shC ⟨amN,s⟩).toArray rfl rfl (by kernel_rfl) fun b20 hb20 hw20=> ?_
 refine Ow.permL (M:= [(b20, .cells (shC ⟨amN,s⟩).toArray 26 (0,0)),(b10, .cells (rwC amR).toArray 45 (0,0))]) (by classical exact List.perm_iff_count.2 fun a=>by simp only[List.count_append,List.count_cons,List.count_nil]<;>omega) ?_
 refine ko @j3_ ?_
 have hN20:New w.heap.size [(b20,Obj.cells (shC ⟨amN,s⟩).toArray 26 (0,0)),(b10,Obj.cells (rwC amR).toArray 45 (0,0))]:=⟨hw20,hw10,trivial⟩
 refine Ow.callFV rfl Tryd.call7 (fun w' hw'=>(wa_ (vsl b20 0 1 1) [⟨amN,s⟩] w' (hC.newP hw' hN20) (acI_ (hw'.has b20 _ List.mem_cons_self)) (by simp) (fun x hx=>by rw[List.mem_singleton] at hx;subst hx;exact⟨by show amN.length<_;decide,by show s.length<_;omega⟩)).mono (S':=fun v D=>v= .tuple #[vs b,vi 0]∧D= []) (fun v D h=>⟨hmk v h.1,h.2⟩)) ?_
 refine ko @j3_ ?_
 first|with_reducible refine ks [] @j3_ ?_|refine kp @j3_ ?_
 refine Ow.callC rfl rfl Tryd.call8 (fun w' hw'=>abm_ b w' (hC.newP hw' hN20) (by omega)) (fun B2 v2 D2 hA2 hB2 hN2 hS2=> ?_)
 unfold aeY_ at hS2
 rw[hop] at hS2
 obtain⟨bi,rfl,hM⟩:=hS2
 simp only at hM
 have hN:=hN20.app (hN2.mono hB2)
 refine ko @j3_ ?_
 first|with_reducible refine ks [] @j3_ ?_|refine kp @j3_ ?_
 refine Ow.build (.agg (a8 id1.l)) rfl Vh_ ?_
 refine ko @j3_ ?_
 refine Ow.callFV rfl Tryd.call9 (fun w' hw'=>abc_ bi [amN] [am4] [amL] id1 w' ((hM.mono (fun q hq=>by simp[hq])).inW hw') ZD_ (by simp) (by simp)) ?_
 rw[aiM_]
 refine ko @j3_ ?_
 refine Ow.alloc rfl rfl X8_ fun b8 hb8 hw8=> ?_
 simp only[ze_,List.nil_append,List.cons_append]
 refine Ow.permL (M:=(b8, .cells (lnC Go.Proofs.ln0).toArray 38 (0,0)):: ([(b20,Obj.cells (shC ⟨amN,s⟩).toArray 26 (0,0)),(b10,Obj.cells (rwC amR).toArray 45 (0,0))]++D2)) (by classical exact List.perm_iff_count.2 fun a=>by simp only[List.count_append,List.count_cons,List.count_nil]<;>omega) ?_
 have e2: ((2:Int)==2)=true:=rfl
 have e1: ((([amL].length:Nat):Int)==1)=true:=rfl
 have en: (amN== [112])=true:=rfl
 have e0: ((0:Int)==0)=true:=rfl
 have ep:amL.place=2:=rfl
 have hN8:New w.heap.size ((b8,Obj.cells (lnC amL).toArray 38 (0,0)):: ([(b20,Obj.cells (shC ⟨amN,s⟩).toArray 26 (0,0)),(b10,Obj.cells (rwC amR).toArray 45 (0,0))]++D2)):=⟨hw8,hN⟩
 refine ko (And.intro @j3_ (And.intro @e0 (And.intro @e1 (And.intro @e2 (And.intro @en (@ep)))))) ?_
 first|with_reducible refine ks [] (And.intro @j3_ (And.intro @e0 (And.intro @e1 (And.intro @e2 (And.intro @en (@ep)))))) ?_|refine kp (And.intro @j3_ (And.intro @e0 (And.intro @e1 (And.intro @e2 (And.intro @en (@ep)))))) ?_
 refine Ow.callC rfl rfl Tryd.call13 (fun w' hw'=>VN_ bi [amN] [am4] [amL] w' ((hM.mono (fun q hq=>by simp[hq])).inW hw') (by simp)) (fun B4 v4 D4 hA4 hB4 hN4 hS4=> ?_)
 have ln4:=acN_ hS4
 refine ko (And.intro @j3_ (And.intro @ln4 (@e1))) ?_
 first|with_reducible refine ks [] @j3_ ?_|refine kp @j3_ ?_
 refine⟨_,(ke @j3_),(hN8.app (hN4.mono hB4)), ?_⟩
 rfl
end Go.Proofs
end
section
open Go Go.Proofs Go.Sx Go.StP Go.Flo
namespace Go.Proofs
set_option maxRecDepth 10000
set_option maxHeartbeats 1000000
set_option linter.unusedSimpArgs false
def BndS (l:List ShL):Prop:= ∀s,s∈l→s.name.length<1099511627776∧s.bytes.length<1099511627776
def sumS (l:List ShL):Nat:=(l.map fun s=>s.bytes.length+s.name.length).sum
def grtS (l:List ShL):Bool:=decide (45<l.length) ||decide (20000<sumS l)
theorem adP_ (l:List ShL) {k:Nat} (h:k<l.length):sumS (l.take (k+1))=sumS (l.take k)+ (l.getD k sh0).bytes.length+ (l.getD k sh0).name.length:=by
 unfold sumS
 rw[StP.take_snoc (z:=sh0) h,List.map_append,List.sum_append,List.map_singleton,List.sum_singleton,Nat.add_assoc]
theorem aip_ (l:List ShL) (k:Nat):sumS (l.take k)≤sumS l:=by
 have:sumS l=sumS (l.take k)+sumS (l.drop k):=by
  unfold sumS
  rw[←List.sum_append,←List.map_append,List.take_append_drop]
 omega
structure GrG where
 k:Nat
 n:Nat
set_option linter.defProp false
def kX_:=And.intro (@zf_) (@zg_)
theorem K1_ (v:Value) (l:List ShL) (w:World) (hv:ShSl w v l) (hb:BndS l):
  Rets Tryd.prog 6 #[v] w (fun v D=>v= .bool (grtS l)∧D= []):=by
 have ln:=hv.len
 obtain⟨rb,off,arr,E,fz,hr⟩:=hv.row
 refine Rets.enterV Tryd.func6 rfl (rs:= [.tmp 2]) Tryd.results6 Tryd.ntmps6 ?_
 refine kf ?_
 by_cases h45:45<l.length
 ·have d1:decide ((45:Int)< (l.length:Int))=true:=decide_eq_true (by omega)
  first|with_reducible refine ks [] (And.intro @kX_ (And.intro @ln (@d1))) ?_|refine kp (And.intro @kX_ (And.intro @ln (@d1))) ?_
  refine⟨_,(ke @kX_),trivial, ?_⟩
  (unfold grtS;rw[decide_eq_true h45];rfl)
 ·have d1:decide ((45:Int)< (l.length:Int))=false:=decide_eq_false (by omega)
  first|with_reducible refine ks [] (And.intro @kX_ (And.intro @ln (@d1))) ?_|refine kp (And.intro @kX_ (And.intro @ln (@d1))) ?_
  refine Cw.loopG (G:=GrG) [8,9,10,11,14,15,16,17,18,19,20,21,22,23,24,25,26,27,28,3,29,30,2,12,13,4] (fun g=> [(3,vi g.n),(4,vi g.k)]) (fun g=> []) (fun g=>g.k≤l.length∧g.n≤20000∧g.n=sumS (l.take g.k)) (fun g=>l.length - g.k) ⟨0,0⟩ rfl rfl ?_ ?_
  ·exact⟨Nat.zero_le _,Nat.zero_le _,rfl⟩
  intro g j hg
  refine kv ?_
  obtain⟨k,n⟩:=g
  simp only at hg ⊢
  obtain⟨hk,hn,hs⟩:=hg
  by_cases hlt:k<l.length
  ·have d2:decide ((k:Int)< (l.length:Int))=true:=decide_eq_true (by omega)
   have ix:=hr.idx true k hlt
   have hh:=hr.has (by omega)
   have ld0: ∀n,zn_ (some (false,n)) (some (.cells arr E fz)) (off+k*2)=some (vs (l.getD k sh0).name):=fun n=>aix_ hr hlt n
   have ld1:=fun n=>aim_ hr hlt n
   have hbs:=hb (l.getD k sh0) (by rw[List.getD_eq_getElem?_getD,List.getElem?_eq_getElem hlt];exact List.getElem_mem _)
   have hsn:=adP_ l hlt
   have hsl:=aip_ l (k+1)
   generalize l.getD k sh0=r at*
   have es: ((n:Int)+ (r.bytes.length:Int))+ (r.name.length:Int)=((n+r.bytes.length+r.name.length:Nat):Int):=by omega
   first|with_reducible refine ks [] (And.intro @kX_ (And.intro @ln (@d2))) ?_|refine kp (And.intro @kX_ (And.intro @ln (@d2))) ?_
   refine Cw.regionS [rb] [0,1,2,3,4,8,9,10,11,5,6,7,12,13,14,15] [] (by kernel_rfl) (by kernel_rfl) (by kernel_rfl) ?_
   simp only[zm_, ↓zd_, ↓zb_, ↓zE_, ↓zD_,zc_]
   refine kq (And.intro @kX_ (And.intro @ln (And.intro @ix (And.intro @hh (And.intro @ld0 (And.intro @ld1 (@es))))))) ?_
   by_cases hgt:20000<n+r.bytes.length+r.name.length
   ·have d3:decide ((20000:Int)< ((n+r.bytes.length+r.name.length:Nat):Int))=true:=decide_eq_true (by omega)
    first|with_reducible refine ks [] (And.intro @kX_ @d3) ?_|refine kp (And.intro @kX_ @d3) ?_
    refine⟨_,(ke @kX_),trivial, ?_⟩
    (unfold grtS;rw[decide_eq_true (show 20000<sumS l by omega),Bool.or_true];rfl)
   ·have d3:decide ((20000:Int)< ((n+r.bytes.length+r.name.length:Nat):Int))=false:=decide_eq_false (by omega)
    first|with_reducible refine ks [] (And.intro @kX_ @d3) ?_|refine kp (And.intro @kX_ @d3) ?_
    exact Again.mk ⟨k+1,n+r.bytes.length+r.name.length⟩ (by show l.length - (k+1)<l.length - k;omega) ⟨hlt,by show n+r.bytes.length+r.name.length≤20000;omega,by show n+r.bytes.length+r.name.length=sumS (l.take (k+1));omega⟩ rfl rfl
  ·have d2:decide ((k:Int)< (l.length:Int))=false:=decide_eq_false (by omega)
   first|with_reducible refine ks [] (And.intro @kX_ (And.intro @ln (@d2))) ?_|refine kp (And.intro @kX_ (And.intro @ln (@d2))) ?_
   rw[show l.take k=l from List.take_of_length_le (by omega)] at hs
   refine⟨_,(ke @kX_),trivial, ?_⟩
   (unfold grtS;rw[decide_eq_false h45,decide_eq_false (show¬20000<sumS l by omega)];rfl)
end Go.Proofs
end
section
open Go Go.Proofs Go.Sx Go.StP Go.Flo
namespace Go.Proofs
set_option maxRecDepth 10000
set_option maxHeartbeats 400000
set_option linter.unusedSimpArgs false
theorem adl_ (k:Nat) (m:MpL) (r:RwL) (h:m.map (fun p=>p.2.id)=m.map Prod.fst∧(m.map Prod.fst).Nodup): (wl_ k m r).map (fun p=>p.2.id)=(wl_ k m r).map Prod.fst∧((wl_ k m r).map Prod.fst).Nodup:=by
 unfold wl_
 split
 ·exact h
 ·rename_i hh
  have hf: ∀ (m:MpL),hasG r.id m=false→ ∀v:LnL,updG r.id v m=m++ [(r.id,v)]:=by
   intro m
   induction m with
   |nil=>intro _ v;rfl
   |cons p q ih=>
    intro h v
    unfold hasG at h
    rw[List.any_cons,Bool.or_eq_false_iff] at h
    unfold updG
    rw[h.1,if_neg (by simp),ih h.2];rfl
  have hh':hasG r.id m=false:=by simpa using hh
  rw[hf m hh']
  constructor
  ·rw[List.map_append,List.map_append,h.1];rfl
  ·rw[List.map_append,List.nodup_append]
   refine⟨h.2,by simp,fun a ha b hb=> ?_⟩
   rw[List.map_singleton,List.mem_singleton] at hb
   subst hb
   intro e
   subst e
   obtain⟨p,hp,e⟩:=List.mem_map.1 ha
   unfold hasG at hh'
   rw[List.any_eq_false] at hh'
   exact hh' p hp (by rw[e];exact beq_self_eq_true _)
theorem JR_ (k:Nat): ∀ (l:List RwL) (m:MpL),(m.map (fun p=>p.2.id)=m.map Prod.fst∧(m.map Prod.fst).Nodup)→(xn_ k m l).map (fun p=>p.2.id)=(xn_ k m l).map Prod.fst∧((xn_ k m l).map Prod.fst).Nodup
 | [],_,h=>h
 |r::l,m,h=>JR_ k l (wl_ k m r) (adl_ k m r h)
theorem JQ_ (ls:List (List UInt8×List RwL)): ∀n,(qX_ ls n).map (fun p=>p.2.id)=(qX_ ls n).map Prod.fst∧((qX_ ls n).map Prod.fst).Nodup
 |0=>⟨rfl,List.nodup_nil⟩
 |n+1=>JR_ n _ _ (JQ_ ls n)
theorem Z9_ {α:Type} {key:α→List UInt8} (k:List UInt8): ∀ (a:List α),(a.map key).Nodup→(StP.of key k a).length≤1
 | [],_=>by simp[StP.of]
 |x::r,h=>by
  rw[List.map_cons,List.nodup_cons] at h
  have ih:=Z9_ k r h.2
  unfold StP.of at ih ⊢
  rw[List.filter_cons]
  cases hx: (key x==k) with
  |false=>rw[if_neg (by simp)];exact ih
  |true=>
   rw[if_pos rfl,List.filter_eq_nil_iff.2 fun y hy he=>h.1 (List.mem_map.2 ⟨y,hy,by rw[beq_iff_eq] at hx he;rw[hx,he]⟩)]
   exact Nat.le_refl _
theorem Wk_ {α:Type} {key:α→List UInt8} {a b:List α} (hp:a.Perm b) (ha:StP.Sorted key a) (hb:StP.Sorted key b) (hd: (a.map key).Nodup):a=b:=by
 refine StP.St.eq ha hb fun k=> ?_
 have h1: (StP.of key k a).Perm (StP.of key k b):=hp.filter _
 have h2: (StP.of key k a).length≤1:=Z9_ k a hd
 match h3:StP.of key k a,h1,h2 with
 | [],h1,_=>exact(List.nil_perm.1 h1)
 | [x],h1,_=>exact(List.singleton_perm.1 h1).symm▸rfl
 |_::_::_,_,h2=>exact absurd h2 (by simp)
theorem af2_ {ls:List (List UInt8×List RwL)} {n:Nat} {L L':List LnL} (h:WE_ ((qX_ ls n).map Prod.snd) L) (h':WE_ ((qX_ ls n).map Prod.snd) L'):L=L':=by
 refine Wk_ (key:=fun r:LnL=>r.id.l) (h.1.trans h'.1.symm) h.2 h'.2 ?_
 have h1:=JQ_ ls n
 have h2: ((qX_ ls n).map Prod.snd).map (fun r:LnL=>r.id.l)=((qX_ ls n).map Prod.fst).map IdL.l:=by
  rw[←h1.1,List.map_map,List.map_map];rfl
 refine((h.1.map (fun r:LnL=>r.id.l)).nodup_iff).2 ?_
 rw[h2]
 exact List.Pairwise.map _ (fun a b hab e=>hab (ajf_ e)) h1.2
theorem Zx_ {l Z:List ShL} (h:shs_SortOf l Z) (k:List UInt8): (Z.map ShL.name).count k=(StP.of (fun r:ShL=>r.name) k l).length:=by
 rw[←h.2.2 k,List.count,List.countP_map,List.countP_eq_length_filter];rfl
theorem wR_ {l Z:List ShL} (h:shs_SortOf l Z):StP.Sorted (fun x:List UInt8=>x) (Z.map ShL.name):=by
 refine List.pairwise_map.2 ?_
 exact h.2.1
theorem agY_ {l l' Z Z':List ShL} (hp:l'.Perm l) (h:shs_SortOf l Z) (h':shs_SortOf l' Z'):Z'.map ShL.name=Z.map ShL.name:=by
 refine StP.St.eq (wR_ h') (wR_ h) fun k=> ?_
 have e: ∀ns:List (List UInt8),StP.of (fun x:List UInt8=>x) k ns=List.replicate (ns.count k) k:=fun ns=>List.filter_beq k
 rw[e,e,Zx_ h,Zx_ h']
 exact congrArg (List.replicate · k) ((hp.filter _).length_eq).symm
theorem cmpS_lt {x y:List UInt8}:WP_ x y<0↔ltB x y=true:=by
 unfold WP_
 cases h1:ltB x y<;>cases h2:ltB y x<;>simp
theorem adM_ {l:List (List UInt8)} {n:Nat} (h:wA_ (v7_ l) n=true) {i:Nat}: ∀ {j:Nat},i<j→j<n→ltB (l.getD i []) (l.getD j [])=true
 |0,hij,_=>absurd hij (Nat.not_lt_zero _)
 |j+1,hij,hj=>by
  have h2:ltB (l.getD j []) (l.getD (j+1) [])=true:=by
   have h3:=kj_ (k:=j+2) (by omega) h
   unfold wA_ at h3
   rw[Bool.and_eq_true,Bool.or_eq_true,decide_eq_true_eq,decide_eq_true_eq] at h3
   rcases h3.2 with h4|h4
   ·omega
   ·exact cmpS_lt.1 h4
  by_cases e:i=j
  ·subst e;exact h2
  ·exact jo_ (adM_ h (by omega) (by omega)) h2
theorem ade_ {ns:List (List UInt8)} (h:wA_ (v7_ ns) ns.length=true):ns.Nodup:=by
 refine List.pairwise_iff_getElem.2 fun i j hi hj hij e=> ?_
 have h1:=adM_ h hij hj
 have e1:ns.getD i []=ns[i]:=by rw[List.getD_eq_getElem?_getD,List.getElem?_eq_getElem hi];rfl
 have e2:ns.getD j []=ns[j]:=by rw[List.getD_eq_getElem?_getD,List.getElem?_eq_getElem hj];rfl
 rw[e1,e2,e,je_] at h1
 cases h1
theorem agh_ {α:Type} {a b:List α} (h:a.Perm b) (h1:a.length≤1):b=a:=by
 match a,h,h1 with
 | [],h,_=>exact List.nil_perm.1 h
 | [x],h,_=>exact(List.singleton_perm.1 h).symm▸rfl
 |_::_::_,_,h2=>exact absurd h2 (by simp)
theorem adh_ {l l':List ShL} (hp:l'.Perm l) {v v':Value} (h:x9_ l v) (h':x9_ l' v'):v=v':=by
 unfold x9_ at h h'
 rw[hp.length_eq] at h'
 by_cases h4:40<l.length
 ·rw[if_pos h4] at h h'
  rw[h,h']
 ·rw[if_neg h4] at h h'
  obtain⟨Z,L,hZ,hL,rfl⟩:=h
  obtain⟨Z',L',hZ',hL',rfl⟩:=h'
  have hn:=agY_ hp hZ hZ'
  have hzl:Z.length=l.length:=hZ.1
  have hzl':Z'.length=l.length:=hZ'.1.trans hp.length_eq
  cases hr:ql_ (Z.map ShL.name) [] with
  |false=>
   unfold ZZ_
   rw[if_neg (by omega),if_pos hr,if_neg (by omega),if_pos (by rw[hn];exact hr)]
  |true=>
   have hd: (Z.map ShL.name).Nodup:=by
    unfold ql_ at hr
    simp only[Bool.and_eq_true] at hr
    exact ade_ hr.1.1.2
   have hzz:Z=Z':=by
    refine StP.St.eq hZ.2.1 hZ'.2.1 fun k=> ?_
    have h1:=Z9_ (key:=fun r:ShL=>r.name) k Z hd
    have h2: (StP.of (fun r:ShL=>r.name) k Z).Perm (StP.of (fun r:ShL=>r.name) k Z'):=by
     rw[hZ.2.2 k,hZ'.2.2 k]
     exact(hp.filter _).symm
    exact agh_ h2 h1
   subst hzz
   cases ho:kr_ Z Z.length with
   |none=>unfold ZZ_;rw[ho]
   |some q=>
    rw[af2_ (hL hr q ho) (hL' hr q ho)]
end Go.Proofs
end
section
open Go Go.Proofs Go.Sx Go.StP Go.Flo
namespace Go.Proofs
set_option maxRecDepth 10000
set_option maxHeartbeats 1000000
set_option linter.unusedSimpArgs false
def rotS (l:List ShL) (m:Nat):List ShL:=l.drop m++l.take m
theorem ahE_ (l:List ShL) {m:Nat} (h:m≤l.length): (rotS l m).length=l.length:=by
 unfold rotS;rw[List.length_append,List.length_drop,List.length_take];omega
theorem aj1_ (l:List ShL) {m i:Nat} (hm:m<l.length) (hi:i<l.length): (rotS l m).getD i sh0=l.getD ((i+m)%l.length) sh0:=by
 unfold rotS
 rw[List.getD_eq_getElem?_getD,List.getD_eq_getElem?_getD]
 by_cases h:i<l.length - m
 ·rw[List.getElem?_append_left (by rw[List.length_drop];exact h),List.getElem?_drop,Nat.mod_eq_of_lt (by omega),Nat.add_comm m i]
 ·rw[List.getElem?_append_right (by rw[List.length_drop];omega),List.length_drop,List.getElem?_take,if_pos (by omega),show(i+m)%l.length=i - (l.length - m) from by rw[show i+m=(i - (l.length - m))+l.length by omega,Nat.add_mod_right,Nat.mod_eq_of_lt (by omega)]]
theorem afF_ (l:List ShL) (m:Nat): ((rotS l m).reverse).Perm l:=by
 refine(List.reverse_perm _).trans ?_
 unfold rotS
 refine List.perm_append_comm.trans ?_
 rw[List.take_append_drop]
theorem agp_ {l:List ShL} {i:Nat} (h:i<l.length): (l.drop i).reverse=(l.drop (i+1)).reverse++ [l.getD i sh0]:=by
 rw[List.drop_eq_getElem_cons h,List.reverse_cons,List.getD_eq_getElem?_getD,List.getElem?_eq_getElem h];rfl
theorem acR_ {l:List ShL} {v:Value} (h:x9_ l v): ∃b e,v= .tuple #[vs b,vi e]:=by
 unfold x9_ at h
 split at h
 ·exact⟨_,_,h⟩
 ·obtain⟨Z,L,-,-,rfl⟩:=h
  exact⟨_,_,rfl⟩
structure MoG where
 j:Nat
 v:Value
 D1:za_
 DG:za_
set_option linter.defProp false
def qn_:=And.intro (And.intro (@zf_) (And.intro (@zg_) (@jO_))) (And.intro (And.intro (@wy_) (@xI_)) (And.intro (@Sx.tup2_0) (@Sx.tup2_1)))
theorem Qd_ (v:Value) (l:List ShL) (k:UInt8) (w:World) (hC:GlobC w) (hv:ShSl w v l) (hb:BndS l):
  Rets Tryd.prog 3 #[v,v8 k] w (fun v D=>v= .bool true∧D= []):=by
 have ln:=hv.len
 obtain⟨rb,off,arr,E,fz,hr⟩:=hv.row
 refine Rets.enterV Tryd.func3 rfl (rs:= [.tmp 4]) Tryd.results3 Tryd.ntmps3 ?_
 refine kf ?_
 first|with_reducible refine ks [] @qn_ ?_|refine kp @qn_ ?_
 refine Ow.callFV rfl Tryd.call5 (fun w' hw'=>xT_ w' (hC.newP hw' trivial)) ?_
 refine ko @qn_ ?_
 first|with_reducible refine ks [] @qn_ ?_|refine kp @qn_ ?_
 refine Ow.callFV rfl Tryd.call6 (fun w' hw'=>K1_ v l w' (hv.oldN hw' trivial) hb) ?_
 have hg45:grtS l=false→l.length≤45:=fun h=>by
  unfold grtS at h
  rw[Bool.or_eq_false_iff,decide_eq_false_iff_not] at h
  omega
 cases hgr:grtS l with
 |true=>
  refine ko @qn_ ?_
  first|with_reducible refine ks [] @qn_ ?_|refine kp @qn_ ?_
  refine Ow.callFV rfl Tryd.call5 (fun w' hw'=>xT_ w' (hC.newP hw' trivial)) ?_
  refine ko @qn_ ?_
  first|with_reducible refine ks [] @qn_ ?_|refine kp @qn_ ?_
  refine⟨_,(ke @qn_),trivial, ?_⟩
  rfl
 |false=>
  have hl45:=hg45 hgr
  by_cases h0:l.length=0
  ·have e0: ((l.length:Int)==0)=true:=beq_iff_eq.2 (by omega)
   refine ko (And.intro @qn_ (And.intro @ln (@e0))) ?_
   first|with_reducible refine ks [] (And.intro @qn_ (And.intro @ln (@e0))) ?_|refine kp (And.intro @qn_ (And.intro @ln (@e0))) ?_
   refine Ow.callFV rfl Tryd.call5 (fun w' hw'=>xT_ w' (hC.newP hw' trivial)) ?_
   refine ko @qn_ ?_
   first|with_reducible refine ks [] @qn_ ?_|refine kp @qn_ ?_
   refine⟨_,(ke @qn_),trivial, ?_⟩
   rfl
  ·have e0: ((l.length:Int)==0)=false:=beq_eq_false_iff_ne.2 (by omega)
   have hm:k.toNat%l.length<l.length:=Nat.mod_lt _ (by omega)
   have em: (k.toNat:Int)% (l.length:Int)=((k.toNat%l.length:Nat):Int):=by omega
   have hrl:=ahE_ l (Nat.le_of_lt hm)
   have hra:=fun i hi=>aj1_ l (i:=i) hm hi
   have hrp:=afF_ l (k.toNat%l.length)
   refine ko (And.intro @qn_ (And.intro @ln (@e0))) ?_
   first|with_reducible refine ks [] (And.intro @qn_ (And.intro @ln (@e0))) ?_|refine kp (And.intro @qn_ (And.intro @ln (@e0))) ?_
   generalize k.toNat%l.length=m at*
   generalize rotS l m=R at*
   rw[em]
   refine Cw.loopG (G:=MoG) [30,31,34,35,36,37,38,39,40,41,42,43,44,45,6,32,33,7] (fun g=> [(6,g.v),(7,vi ((g.j:Int) - 1))]) (fun g=>g.D1++g.DG) (fun g=>g.j≤l.length∧New w.heap.size g.D1∧New w.heap.size g.DG∧Gr g.D1 26 2 g.v (R.drop g.j).reverse.length ((R.drop g.j).reverse.map shC).flatten) (fun g=>g.j) ⟨l.length, .slice none 0 0,[],[]⟩ rfl rfl ?_ ?_
   ·refine⟨Nat.le_refl _,trivial,trivial, ?_⟩
    show Gr [] _ 2 _ (R.drop l.length).reverse.length ((R.drop l.length).reverse.map shC).flatten
    rw[List.drop_of_length_le (by omega)]
    exact Gr.nl
   intro g j hg
   refine kv ?_
   obtain⟨j,v6,D1,DG⟩:=g
   simp only at hg ⊢
   obtain⟨hj,hN1,hNG,hG1⟩:=hg
   cases j with
   |zero=>
    have d2:decide ((0:Int)≤ ((0:Nat):Int) - 1)=false:=rfl
    rw[List.drop_zero] at hG1
    have hNa:New w.heap.size (D1++DG):=hN1.app hNG
    have hbR:BndS R.reverse:=fun x hx=>hb x ((hrp.mem_iff).1 hx)
    have hRl:R.reverse.length<1000000:=by rw[List.length_reverse];omega
    first|with_reducible refine ks [] (And.intro @qn_ @d2) ?_|refine kp (And.intro @qn_ @d2) ?_
    refine Ow.callC rfl rfl Tryd.call7 (fun w' hw'=>Rets.toX (wa_ v l w' (hC.newP hw' hNa) (hv.oldN hw' hNa) (by omega) hb)) (fun B1 va Da hAa hBa hNa' hSa=> ?_)
    obtain⟨rfl,hSa⟩:=hSa
    rw[List.append_nil]
    obtain⟨xa,ea,rfl⟩:=acR_ hSa
    refine ko @qn_ ?_
    first|with_reducible refine ks [] @qn_ ?_|refine kp @qn_ ?_
    refine Ow.callC rfl rfl Tryd.call7 (fun w' hw'=>Rets.toX (wa_ v6 R.reverse w' (hC.newP hw' hNa) (hG1.slV hw'.part rfl rfl qv_) hRl hbR)) (fun B2 vb Db hAb hBb hNb hSb=> ?_)
    obtain⟨rfl,hSb⟩:=hSb
    rw[List.append_nil]
    obtain rfl:=adh_ hrp hSa hSb
    refine ko @qn_ ?_
    first|with_reducible refine ks [] @qn_ ?_|refine kp @qn_ ?_
    refine Ow.callFV rfl Tryd.call5 (fun w' hw'=>xT_ w' (hC.newP hw' hNa)) ?_
    refine ko @qn_ ?_
    first|with_reducible refine ks [] @qn_ ?_|refine kp @qn_ ?_
    refine⟨_,(ke @qn_),hNa, ?_⟩
    rfl
   |succ i=>
    have d2:decide ((0:Int)≤ ((i+1:Nat):Int) - 1)=true:=decide_eq_true (by omega)
    have hil:i<l.length:=by omega
    have ei: ((i+1:Nat):Int) - 1=(i:Int):=by omega
    have eim: ((i:Int)+ (m:Int))% (l.length:Int)=(((i+m)%l.length:Nat):Int):=by rw[Int.natCast_emod,Int.natCast_add]
    have hx: (i+m)%l.length<l.length:=Nat.mod_lt _ (by omega)
    have ix:=hr.idx true ((i+m)%l.length) hx
    have ld:=hr.load qv_ (by omega) hx
    have hbl:=hr.lt (by omega)
    have hd:=agp_ (l:=R) (i:=i) (by omega)
    rw[hra i hil] at hd
    have hh:zx_ w (D1++DG) rb=some (.cells arr E fz):=by
     rw[qM_ ((hN1.app hNG).not hbl)];exact hr.has (by omega)
    generalize l.getD ((i+m)%l.length) sh0=r at*
    rw[ei] at d2
    rw[ei]
    first|with_reducible refine ks [9] (And.intro @qn_ (And.intro @d2 (And.intro @eim (And.intro @ix (And.intro @hh (And.intro @ld (@ln))))))) ?_|refine kp (And.intro @qn_ (And.intro @d2 (And.intro @eim (And.intro @ix (And.intro @hh (And.intro @ld (@ln))))))) ?_
    refine Ow.buildSlice (e:=26) (shC r).toArray rfl rfl (by kernel_rfl) fun ba hba hwa=> ?_
    refine Ow.permL (M:=D1++ (DG++ [(ba, .cells (shC r).toArray 26 (0,0))])) (by classical exact List.perm_iff_count.2 fun a=>by simp only[List.count_append,List.count_cons,List.count_nil]<;>omega) ?_
    refine Ow.appendXG (e:=26) (k:=1) (new:=shC r) (X:=D1) v6 rfl rfl rfl rfl Tryd.underlying22 akN_ (by kernel_rfl) zrSh (by rw[jO_,List.size_toArray,qv_]) Tryd.underlying22 (by intro k h;cases h) hG1 (fun w' hw'=>AppX.one1 (hw'.has ba (.cells (shC r).toArray 26 (0,0)) (by simp)) (qv_ _) (Xe_ _)) (by rw[List.length_reverse,List.length_drop];omega) (fun B4 v4 D4 hA4 hB4 hG4 hk41 hk42 hlk4=> ?_)
    have hN4:New w.heap.size D4:=New.of_le fun q hq=>by
     rcases hk42 q hq with h|h
     ·exact hN1.le q h
     ·omega
    refine ko @qn_ ?_
    first|with_reducible refine ks [] @qn_ ?_|refine kp @qn_ ?_
    refine Again.mk ⟨i,v4,D4,DG++ [(ba, .cells (shC r).toArray 26 (0,0))]⟩ (by show i<i+1;omega) ⟨by show i≤l.length;omega,hN4,hNG.app ⟨hwa,trivial⟩, ?_⟩ rfl rfl
    show Gr D4 26 2 v4 (R.drop i).reverse.length ((R.drop i).reverse.map shC).flatten
    rw[hd,List.length_append,List.length_singleton]
    simpa only[List.map_append,List.map_cons,List.map_nil,List.flatten_append,List.flatten_cons,List.flatten_nil,List.append_nil] using hG4
end Go.Proofs
end
namespace Go.Sx
open Go Go.ChangeShapes Go.WideShapes Go.RowKit
theorem Hp.same0 {W W':World} (h:Hp W [] W') {b:Nat} (hb:b<W.heap.size):W'.heap[b]? =W.heap[b]? :=h.old b hb (fun hm=>by cases hm)
theorem Hp.kept {W W':World} (h:Hp W [] W') (may:MemPlace→Prop):W.keptBut W' may:=by
 refine⟨h.os,h.output,fun i hi=> ?_⟩
 rw[h.same0 hi]
 cases ho:W.heap[i]? with
 |none=>rfl
 |some o=>
  cases o<;>first
   |exact⟨rfl,rfl,rfl,fun _ _=>rfl⟩
   |exact .inr ⟨rfl,rfl⟩
   |rfl
theorem Hp.sameAt {W W':World} (h:Hp W [] W') {p:MemPlace} (hp:p.block<W.heap.size):W.sameAt W' p:=by
 cases p with
 |cell b off=>
  have:=h.same0 (b:=b) hp
  simp only[World.sameAt,World.cell?,this]
 |map b=>exact h.same0 hp
theorem Hp.frozen {W W':World} (h:Hp W [] W') {a:Addr} (ha:a.block<W.heap.size):W'.frozen? a=W.frozen? a:=by
 simp only[World.frozen?,h.same0 ha]
section
variable {H:Type} {enc:TypeId×Value→H} {P:Program}
theorem vC_ (hl:laidOutB P=true) {W W':World} {sp:Nat→Bool} (hp:Hp W [] W'): ∀ {ts:List TypeId} {vs:List Value} {ds:List (DataW H)} {ps:List MemPlace},
  (∀t∈ts,P.readableRec t=true∧t<P.types.size)→(∀p∈ps,p.block<W.heap.size)→(∀p∈ps,sp p.block=true)→
  DataW.TrodAll enc P W 0 (fun _=>true) true ts vs ds ps→DataW.TrodAll enc P W' 0 sp true ts vs ds ps
 | [],_,_,_,_,_,_,h=>by
  obtain⟨rfl,rfl,rfl⟩:=trodAll_nil h
  exact trodAll_mk0
 |t::ts,_,_,_,ht,hlt,hs,h=>by
  obtain⟨v,vs,d,ds,p,q,rfl,rfl,rfl,h1,h2⟩:=trodAll_cons h
  have hlt1: ∀x∈p,x.block<W.heap.size:=fun x hx=>hlt x (List.mem_append_left _ hx)
  exact trodAll_cons_mk (WideElems.Trod_stays hl (ht t List.mem_cons_self).1 (ht t List.mem_cons_self).2 h1 (fun x hx=>hp.sameAt (hlt1 x hx)) (fun x hx=>hs x (List.mem_append_left _ hx)))
   (vC_ hl hp (fun u hu=>ht u (List.mem_cons_of_mem _ hu)) (fun x hx=>hlt x (List.mem_append_right _ hx)) (fun x hx=>hs x (List.mem_append_right _ hx)) h2)
theorem adc_ {f:Func} {s:ChangeSpec} {W W':World} {args:Array Value} {ds gs:List (DataW H)} {before:List MemPlace} {tb:TypeId} (hl:laidOutB P=true)
  (hW:DataW.Whole enc P f.params.toList s.vars false W args.toList ds gs before) (hv:s.vars= []) (hpar: ∀t∈f.params.toList,P.readableRec t=true∧t<P.types.size)
  (hr:f.resultTypes= #[tb]) (htb:P.underlying tb=some .bool) (hfn:s.fn H ds={results:= [.lit (.bool true)],args:=ds}) (hp:Hp W [] W'):
  s.post enc P f false true false false W args (.bool true) W':=by
 have hlt:=hW.lt
 have hW0:=hW
 obtain⟨p,q,hA,hV,rfl,hz,hn⟩:=hW
 rw[hv] at hV
 obtain⟨rfl,rfl⟩:=trodVars_none hV
 rw[List.append_nil] at hW0 hlt hz
 have hargs: ∀sp:Nat→Bool,(∀x∈p,sp x.block=true)→DataW.TrodAll enc P W' 0 sp true f.params.toList args.toList (s.fn H (ds++ [])).args p:=fun sp hs=>by
  rw[List.append_nil,hfn]
  exact vC_ hl hp hpar hlt hs hA
 have hvars: ∀sp:Nat→Bool,DataW.TrodVars enc P W' sp s.vars (s.fn H (ds++ [])).vars []:=fun sp=>by
  rw[List.append_nil,hfn,hv];rfl
 have hres: ∀ (b:Nat) (sp:Nat→Bool) (hd:Bool),DataW.TrodAll enc P W' b sp hd f.resultTypes.toList ((Value.bool true).resultList f.resultTypes.size) (s.fn H (ds++ [])).results []:=fun b sp hd=>by
  rw[List.append_nil,hfn,hr]
  exact trodAll_cons_mk (shut_bool htb true) trodAll_mk0
 have hold: ∀x∈p,(fun b=>decide (b<W.heap.size)) x.block=true:=fun x hx=>by simpa using hlt x hx
 refine⟨ds,[],p,[],p,[],hW0,hres _ _ _,hargs _ hold,hvars _,hp.kept _,fun _=> ?_⟩
 refine⟨ok_one hr rfl (okWide_bool_mk htb true),_,_,([]++p)++ [],⟨[]++p,[],trodAll_append (hargs _ (fun _ _=>rfl)) (hres _ _ _),hvars _,rfl, ?_,fun h=>by cases h⟩, ?_⟩
 ·intro b off hx
  have hx':MemPlace.cell b off∈p:=by simpa using hx
  rw[hp.frozen (hlt _ hx')]
  exact hz b off hx'
 ·intro x hx _
  simpa using hx
end
section
variable {P:Program} {W:World} {name:String} {k:IntKind} {zs:List Int}
theorem Zl_ {t e:TypeId} {g n:Nat} (hg:P.globalNamed name=some g) (hty: (P.globals[g]?).map (·.type)=some t) (ht:P.underlying t=some (.array n e)) (he:P.underlying e=some (.int k)) (hce:P.cellsOf e=1) (hct:P.cellsOf t=n):
  ∀ {laid:List (String×DataW Unit)} {ps:List MemPlace},DataW.LaidVars P W laid ps→(name,Lib.tabData k zs)∈laid→Lib.TabIs P W name k zs
 | [],_,_,hm=>by cases hm
 | (n',d')::rest,ps,h,hm=>by
  obtain⟨g',t',cs,fuel,p,q,hg',ht',hvar,hd,hr,-⟩:=h
  rcases List.mem_cons.1 hm with hm|hm
  ·cases hm
   obtain rfl:=Option.some.inj (hg.symm.trans hg')
   obtain rfl:=Option.some.inj (hty.symm.trans ht')
   unfold Lib.TabIs
   rw[hvar,←Lib.cells_of_tab ht he hce hct hd]
  ·exact Zl_ hg hty ht he hce hct hr hm
theorem VM_ {g:Nat} (hg:P.globalNamed name=some g) (h:Lib.TabIs P W name k zs): ∃e f,W.heap[g]? =some (.cells (zs.map fun z=>Value.int k z).toArray e f):=by
 unfold Lib.TabIs at h
 simp only[World.var?,hg,Option.bind_some] at h
 split at h
 ·rename_i cs e f hb
  cases h
  exact⟨e,f,hb⟩
 ·cases h
end
section
variable {H:Type} {enc:TypeId×Value→H} {P:Program}
end
end Go.Sx
namespace Go.Sx
open Go
section
variable {P:Program}
theorem agD_ {fits:TypeId→Bool} {d:Nat} {e:TypeId} {count off n:Nat} (h:rowAt P fits d e count off n=true):off≤count*P.cellsOf e:=by
 cases d with
 |zero=>simp[rowAt] at h
 |succ d=>
  unfold rowAt at h
  simp only at h
  split at h
  ·cases h
  ·rename_i hs
   have hs':0<P.cellsOf e:=Nat.pos_of_ne_zero hs
   have hd:=Nat.div_add_mod off (P.cellsOf e)
   have hm:=Nat.mod_lt off hs'
   rw[Bool.or_eq_true] at h
   rcases h with h|h
   ·simp only[Bool.and_eq_true,beq_iff_eq,decide_eq_true_eq] at h
    have:off / P.cellsOf e*P.cellsOf e≤count*P.cellsOf e:=Nat.mul_le_mul_right _ (by omega)
    rw[Nat.mul_comm (P.cellsOf e)] at hd
    omega
   ·simp only[Bool.and_eq_true,decide_eq_true_eq] at h
    have: (off / P.cellsOf e+1)*P.cellsOf e≤count*P.cellsOf e:=Nat.mul_le_mul_right _ (by omega)
    rw[Nat.add_mul,Nat.one_mul] at this
    rw[Nat.mul_comm (P.cellsOf e)] at hd
    omega
theorem XT_ {e:TypeId} {count off:Nat}: ∀ {d:Nat} {u:TypeId} {n:Nat},liesAt P d e count off u n=true→off≤count*P.cellsOf e
 |0,u,n,h=>by simp[liesAt] at h
 |d+1,u,n,h=>by
  unfold liesAt at h
  rw[Bool.or_eq_true] at h
  rcases h with h|h
  ·exact agD_ h
  ·split at h
   ·exact XT_ h
   ·cases h
theorem ajt_ {W:World} {r:Reach} {base:Nat} {a:Addr} {e:TypeId} {n:Nat} (h:W.has P r base a e n):a.spot=none∧ ∃arr E fz,W.heap[a.block]? =some (.cells arr E fz)∧a.off≤arr.size:=by
 obtain⟨-,hs,row,cells,hsh,hl⟩:=h
 refine⟨hs, ?_⟩
 unfold World.shape? at hsh
 split at hsh
 ·rename_i c el fz hh
  cases hsh
  refine⟨c,_,fz,hh,Nat.le_trans (XT_ hl) ?_⟩
  exact Nat.div_mul_le_self _ _
 ·cases hsh
theorem add_ {W:World} {r:Reach} {base:Nat} {t e:TypeId} {v:Value} (ht:P.underlying t=some (.slice e)) (h:Value.okWide P W r base t v):
  v= .slice none 0 0∨ ∃b off len cap arr E fz,v=vsl b off len cap∧len≤cap∧W.heap[b]? =some (.cells arr E fz)∧off≤arr.size:=by
 obtain⟨a,len,cap,rfl⟩:=Go.WideShapes.okWide_slice ht h
 unfold Value.okWide at h
 rw[ht] at h
 unfold Cell.okWide at h
 rw[ht] at h
 simp only at h
 unfold Cell.ok at h
 rw[ht] at h
 cases a with
 |none=>
  left
  simp only at h
  split at h
  all_goals first| (cases h;done) |simp_all
 |some a=>
  right
  simp only at h
  obtain⟨hle,-,hh⟩:=h
  obtain⟨hs,arr,E,fz,hb,ho⟩:=ajt_ hh
  obtain⟨b,off,sp⟩:=a
  simp only at hs
  subst hs
  exact⟨b,off,len,cap,arr,E,fz,rfl,hle,hb,ho⟩
theorem ajJ_ {α:Type} {enc:α→List Value} {z:α} {m:Nat} {W:World} {base b off c:Nat} {l:List α} {arr:Array Value} {E:TypeId} {fz:Nat×Nat} (hm0:0<m) (hm: ∀x,(enc x).length=m)
  (hcells: ∀i,i<l.length→W.cells? base ((Addr.mk b off none).add (i*m)) m=some (enc (l.getD i z))) (hheap:W.heap[b]? =some (.cells arr E fz)) (hoff:off≤arr.size) (hc:l.length≤c):SlV m enc z W (vsl b off l.length c) l:=by
 have get: ∀k,k<l.length→ ∀j,j<m→arr[off+k*m+j]? =(enc (l.getD k z))[j]? :=by
  intro k hk j hj
  obtain⟨-,hl,hg⟩:=World.cells?_some (hcells k hk)
  have:=hg j (by omega)
  rw[qH_,qH_] at this
  simp only[World.cell?,hheap,Option.isSome_none,Bool.false_eq_true,if_false] at this
  exact this
 refine SlV.sl hheap get hc ?_
 by_cases h0:l.length=0
 ·rw[h0];omega
 ·have h1:=get (l.length - 1) (by omega) (m - 1) (by omega)
  rw[List.getElem?_eq_getElem (by rw[hm];omega)] at h1
  have h2:=(Array.getElem?_eq_some_iff.1 h1).1
  have h3: (l.length - 1)*m+m=l.length*m:=by
   rw[←Nat.succ_mul];congr 1;omega
  omega
end
end Go.Sx
section
open Go Go.Proofs Go.Sx Go.StP Go.Flo
open Go.ChangeShapes Go.WideShapes Go.ChangeAt Go.RowKit Go.ChangeMaps
namespace Go.Proofs
set_option maxRecDepth 10000
set_option maxHeartbeats 1000000
set_option linter.unusedSimpArgs false
theorem ag2_ {H:Type} {tell:TypeId×Value→H} {α:Type} {enc:α→List Value} {z:α} {m:Nat} {W:World} {r:Reach} {base b0:Nat} {sp:Nat→Bool} {held:Bool} {fuel:Nat} {t e:TypeId} {v:Value} {x:DataW H×List MemPlace} {R:α→DataW H→Prop}
  (ht: (Tryd.prog).underlying t=some (.slice e)) (he: (Tryd.prog).cellsOf e=m) (hm0:0<m) (hm: ∀x,(enc x).length=m) (hval:Value.okWide Tryd.prog W r b0 t v)
  (hdec: ∀n cs y,DataW.trod tell Tryd.prog W base sp held n e cs=some y→ ∃a,cs=enc a∧R a y.1) (hd:DataW.trod tell Tryd.prog W base sp held fuel t [v]=some x):
  ∃l,SlV m enc z W v l∧(l= []∨ ∃es sp',x.1= .slice es sp'∧ ∀i,i<l.length→ ∃d,d∈es∧R (l.getD i z) d):=by
 rcases DataW.trod_slice ht hd with⟨hcs,-⟩ | ⟨a,len,cap,elems,rest,n,-,hcs,hx,-,hl,-,hlen,hel,-,-⟩
 ·simp only[List.cons.injEq,and_true] at hcs
  subst hcs
  exact⟨[],SlV.nil W, .inl rfl⟩
 ·simp only[List.cons.injEq,and_true] at hcs
  subst hcs
  rcases add_ ht hval with h0| ⟨b,off,len',cap',arr,E,fz,h1,-,hb,ho⟩
  ·cases h0
  ·unfold vsl at h1
   cases h1
   rw[he] at hel
   have hex: ∀i,i<len→ ∃q,W.cells? base ((Addr.mk b off none).add (i*m)) m=some (enc q)∧ ∃d,d∈elems.map (·.1)∧R q d:=by
    intro i hi
    have h2:=hel i hi
    rw[List.getElem?_eq_getElem (by omega)] at h2
    cases hc:W.cells? base ((Addr.mk b off none).add (i*m)) m with
    |none=>rw[hc] at h2;cases h2
    |some cs=>
     rw[hc] at h2
     obtain⟨q,rfl,hR⟩:=hdec _ _ _ h2
     exact⟨q,rfl,_,List.mem_map_of_mem (List.getElem_mem (by omega)),hR⟩
   obtain⟨f,hf⟩: ∃f:Nat→α,∀i,i<len→W.cells? base ((Addr.mk b off none).add (i*m)) m=some (enc (f i))∧ ∃d,d∈elems.map (·.1)∧R (f i) d:=by
    classical
    refine⟨fun i=>if h:i<len then Classical.choose (hex i h) else z,fun i hi=> ?_⟩
    simp only[dif_pos hi]
    exact Classical.choose_spec (hex i hi)
   have hll: ((List.range len).map f).length=len:=by simp
   have hgd: ∀i,i<len→((List.range len).map f).getD i z=f i:=fun i hi=>by
    rw[List.getD_eq_getElem?_getD,List.getElem?_map,List.getElem?_range hi];rfl
   refine⟨(List.range len).map f, ?_, .inr ⟨_,_,by rw[hx],fun i hi=> ?_⟩⟩
   ·have:=ajJ_ (W:=W) (base:=base) (b:=b) (off:=off) (c:=cap) (l:=(List.range len).map f) (z:=z) hm0 hm (fun i hi=>by
     rw[hll] at hi
     rw[(hf i hi).1,hgd i hi]) hb ho (by rw[hll];exact hl)
    rw[hll] at this
    exact this
   ·rw[hll] at hi
    rw[hgd i hi]
    exact(hf i hi).2
theorem aib_ {H:Type} {tell:TypeId×Value→H} {W:World} {base:Nat} {sp:Nat→Bool} {held:Bool} (n:Nat) (cs:List Value) (y:DataW H×List MemPlace)
  (h:DataW.trod tell Tryd.prog W base sp held n 26 cs=some y): ∃a:ShL,cs=shC a∧y.1= .agg [.lit (.string a.name), .lit (.string a.bytes)]:=by
 obtain⟨y0,y1,n',hy,hlen,h0,h1⟩:=ChangeShapes.trod_struct2 Tryd.underlying26 h
 have hc: (Tryd.prog).cellsOf 26=2:=by kernel_rfl
 have hc0: (Tryd.prog).cellsOf 9=1:=by kernel_rfl
 simp only at h0 h1
 rw[hc0,List.drop_zero] at h0
 rw[hc0] at h1
 rw[hc] at hlen
 obtain⟨s,hs,hys,-⟩:=DataW.trod_string Tryd.underlying9 h0
 obtain⟨u,hu,hyu,-⟩:=DataW.trod_string Tryd.underlying9 h1
 refine⟨⟨s.data.toList,u.data.toList⟩, ?_,by rw[hy,hys,hyu]⟩
 have hd:cs=cs.take 1++ (cs.drop 1).take 1:=by
  rw[show(cs.drop 1).take 1=cs.drop 1 from List.take_of_length_le (by rw[List.length_drop];omega),List.take_append_drop]
 rw[hd,hs,hu]
 rfl
theorem Vd_ {H:Type} {enc:TypeId×Value→H} {W:World} {r:Reach} {b0 base:Nat} {sp:Nat→Bool} {held:Bool} {v:Value} {d:DataW H} {p:List MemPlace}
  (hval:Value.okWide Tryd.prog W r b0 22 v) (hd:DataW.Trod enc Tryd.prog W base sp held 22 v d p):
  ∃l,ShSl W v l∧(l= []∨ ∃es sp',d= .slice es sp'∧ ∀i,i<l.length→ ∃e,e∈es∧e= .agg [.lit (.string (l.getD i sh0).name), .lit (.string (l.getD i sh0).bytes)]):=by
 obtain⟨a0,len,cap,rfl⟩:=WideShapes.okWide_slice Tryd.underlying22 hval
 obtain⟨fu,hf⟩:=hd
 exact ag2_ (z:=sh0) (R:=fun a e=>e= .agg [.lit (.string a.name), .lit (.string a.bytes)]) Tryd.underlying22 (by kernel_rfl) (by decide) qv_ hval aib_ hf
end Go.Proofs
end
