/-
  Part 2 of the walk: contracts of the functions that the law reaches, and the calculus they stand on.
  No conditions.
-/
import Derived.Test.YtooklcgflocbcaaGreatDoorK1
import Derived.Lib.Strings
import Derived.Lib.Bytealg
import GoSem.Core.Float
import Derived.Laws.MakeOwn
section
open Go Go.Proofs Go.Sx Go.StP
namespace Go.Proofs
set_option maxRecDepth 10000
set_option maxHeartbeats 4000000
set_option linter.unusedSimpArgs false
set_option linter.defProp false
def zY_:=And.intro (And.intro (@xX_) (And.intro (@xl_) (@jZ_))) (And.intro (And.intro (@qL_) (@zI_)) (And.intro (@w1_) (@V9_)))
theorem Ka_ (rb n c:Nat) (A X:List RwL) (y:RwL) (B:List RwL) (rest:List Value) (a m b:Nat) (w:World) (ha:A.length=a) (hm:m=a+X.length) (hX2:X.length≠1) (hb:b=m+1) (hn:n=b+B.length) (hs:n<1000000) (hX:zC_ X)
  (ho:w.heap[rb]? =some (zB_ rest (A++ (X++ ([y]++B))))):
  Rets Tryz.prog 176 #[vsl rb 0 n c,vi a,vi m,vi b,qT_] w (Z8_ rb A X [y] B rest):=by
 subst hm
 refine Rets.enterM Tryz.func176 rfl (rs:= []) Tryz.results176 Tryz.ntmps176 ho ?_
 refine kf ?_
 first|with_reducible refine ks [] @zY_ ?_|refine kp @zY_ ?_
 have e0:A++ (X++y::B)=qX_ A X y B X.length:=by rw[Wo_ _ _ _ _ (Nat.le_refl _)];simp only[List.append_assoc,List.cons_append,List.nil_append]
 rw[e0]
 refine Cw.loopG (G:=BsG) [83,84,85,86,87,88,89,90,91,16,92,93,94,95,96,97,98,99,100,101,102,103,104,105,14,106,15] (fun g=> [(14,vi (a+g.i:Nat)),(15,vi (a+g.j:Nat))]) (fun g=> [(rb,zB_ rest (qX_ A X y B X.length))]) (fun g=>g.i≤g.j∧g.j≤X.length∧(g.i=0∨jl_ y (X.getD (g.i - 1) rw0)=false)∧(X.length≤g.j∨jl_ y (X.getD g.j rw0)=true)) (fun g=>g.j - g.i) ⟨0,X.length⟩ rfl rfl ?_ ?_
 ·exact⟨Nat.zero_le _,Nat.le_refl _, .inl rfl, .inl (Nat.le_refl _)⟩
 ·intro g j hg
  refine kv ?_
  obtain⟨i,j⟩:=g
  obtain⟨h1,h2,h3,h4⟩:=hg
  dsimp only at h1 h2 h3 h4 ⊢
  by_cases hij:i<j
  ·have e1: (a+i+ (a+j)) / 2=a+ (i+j) / 2:=by omega
   have hl:=vT_ A X y B X.length
   first|with_reducible refine ks [] (And.intro @zY_ @e1) ?_|refine kp (And.intro @zY_ @e1) ?_
   have g1: (qX_ A X y B X.length).getD (a+ (i+j) / 2) rw0=X.getD ((i+j) / 2) rw0:=akT_ (by omega) (by omega) (by omega)
   have g2: (qX_ A X y B X.length).getD (a+X.length) rw0=y:=Z4_ (Nat.le_refl _) (by omega)
   refine Cw.regionS [rb] [0,1,2,3,5,6,7,4,8,9,10,11] [] (by kernel_rfl) (by kernel_rfl) (by kernel_rfl) ?_
   simp only[zh_, ↓zc_, ↓zb_, ↓zn_, ↓zo_,za_]
   refine kq (And.intro @zY_ (And.intro @g1 (@g2))) ?_
   refine Ow.callFn2 (v:=vi (vv_ y (X.getD ((i+j) / 2) rw0))) rfl rfl rfl rfl Tryz.call109 (fun w' hw'=>xO_ _ _ w') ?_
   refine kq @zY_ ?_
   cases hc:jl_ y (X.getD ((i+j) / 2) rw0)
   ·first|with_reducible refine ks [] @zY_ ?_|refine kp @zY_ ?_
    refine Again.mk ⟨(i+j) / 2+1,j⟩ (by show j - ((i+j) / 2+1)<j - i;omega) ⟨by show(i+j) / 2+1≤j;omega,h2, .inr hc,h4⟩ rfl rfl
   ·first|with_reducible refine ks [] @zY_ ?_|refine kp @zY_ ?_
    refine Again.mk ⟨i,(i+j) / 2⟩ (by show(i+j) / 2 - i<j - i;omega) ⟨by show i≤ (i+j) / 2;omega,by show(i+j) / 2≤X.length;omega,h3, .inr hc⟩ rfl rfl
  ·obtain rfl:i=j:=by omega
   first|with_reducible refine ks [] @zY_ ?_|refine kp @zY_ ?_
   refine Cw.loopG (G:=Nat) [108,109,110,113,114,115,116,117,118,119,120,121,122,123,124,125,126,127,128,111,112,17] (fun g=> [(17,vi (a+g:Nat))]) (fun g=> [(rb,zB_ rest (qX_ A X y B g))]) (fun g=>i≤g∧g≤X.length) (fun g=>g) X.length rfl rfl ?_ ?_
   ·exact⟨h2,Nat.le_refl _⟩
   ·intro k jk hk
    refine kv ?_
    obtain⟨hk1,hk2⟩:=hk
    by_cases hk:i<k
    ·obtain⟨k,rfl⟩: ∃q,k=q+1:=⟨k - 1,by omega⟩
     first|with_reducible refine ks [] @zY_ ?_|refine kp @zY_ ?_
     have hl:=vT_ A X y B (k+1)
     have g1: (qX_ A X y B (k+1)).getD (a+ (k+1)) rw0=y:=Z4_ (by omega) (by omega)
     have g2: (qX_ A X y B (k+1)).getD (a+k) rw0=X.getD k rw0:=abe_ (by omega) (by omega)
     have e3:a+ (k+1) - 1=a+k:=by omega
     refine Cw.regionS [rb] [0,1,2,3,4,5,6,7,8,10,11,12,9,13,14,15,16,17] [15,17] (by kernel_rfl) (by kernel_rfl) (by kernel_rfl) ?_
     simp only[zh_, ↓zc_, ↓zb_, ↓zn_, ↓zo_,za_]
     refine kq (And.intro @zY_ (And.intro @e3 (And.intro @g1 (@g2)))) ?_
     refine Ow.store rfl rfl rfl (ke (And.intro @zY_ (And.intro @e3 (And.intro @g1 (@g2))))) ?_
     refine ko (And.intro @zY_ (And.intro @e3 (And.intro @g1 (@g2)))) ?_
     rw[Wk_ (by omega),←Nat.add_assoc,KN_ (z:=rw0) (by omega) (by omega)]
     refine Again.mk k (by omega) ⟨by omega,by omega⟩ rfl ?_
     rw[show(((a+k+1:Nat):Int)) - 1=((a+k:Nat):Int) by omega]
     rfl
    ·obtain rfl:k=i:=by omega
     first|with_reducible refine ks [] @zY_ ?_|refine kp @zY_ ?_
     have hz:=vM_ (z:=rw0) hX h2 h3 h4
     refine⟨_,_,_,(ke @zY_),rfl,trivial, ?_⟩
     exact⟨rfl,_,by rw[Zi_],by simp only[List.length_append,List.length_cons,List.length_nil,List.length_take,List.length_drop];omega,hz.1,hz.2⟩
theorem ai8_ {A X C:List RwL} {h i:Nat} (hh:h<X.length) (e:i=A.length+h): (A++ (X++C)).getD i rw0=X.getD h rw0:=by
 subst e
 rw[qG_ (by omega),Nat.add_sub_cancel_left,jO_ hh]
theorem ajb_ {A X Y C:List RwL} {h i:Nat} (hh:h<Y.length) (e:i=A.length+X.length+h): (A++ (X++ (Y++C))).getD i rw0=Y.getD h rw0:=by
 subst e
 rw[qG_ (by omega),qG_ (by omega),jO_ (by omega)]
 congr 1;omega
theorem k0_ (q:Nat): ∀ (rb n c:Nat) (A X Y B:List RwL) (rest:List Value) (a m b:Nat) (w:World) (_ha:A.length=a) (_hm:m=a+X.length) (_hb:b=m+Y.length) (_hn:n=b+B.length) (_hs:n<1000000) (_hX:zC_ X) (_hY:zC_ Y) (_hx0:0<X.length) (_hy0:0<Y.length) (_hq:X.length+Y.length≤q)
  (_ho:w.heap[rb]? =some (zB_ rest (A++ (X++ (Y++B))))),
  Rets Tryz.prog 176 #[vsl rb 0 n c,vi a,vi m,vi b,qT_] w (Z8_ rb A X Y B rest):=by
 induction q with
 |zero=>intros;omega
 |succ q ih=>
  intro rb n c A X Y B rest a m b w ha hm hb hn hs hX hY hx0 hy0 hq ho
  by_cases hX1:X.length=1
  ·obtain⟨x,rfl⟩:=List.length_eq_one_iff.1 hX1
   exact K2_ rb n c A x Y B rest a m b w ha hm hb hn hs hY ho
  by_cases hY1:Y.length=1
  ·obtain⟨y,rfl⟩:=List.length_eq_one_iff.1 hY1
   exact Ka_ rb n c A X y B rest a m b w ha hm hX1 hb hn hs hX ho
  have e1: (m:Int) - a=(X.length:Nat):=by omega
  have e2: (b:Int) - m=(Y.length:Nat):=by omega
  refine Rets.enterM Tryz.func176 rfl (rs:= []) Tryz.results176 Tryz.ntmps176 ho ?_
  refine kf ?_
  obtain⟨mid,hmd⟩: ∃q,q=(a+b) / 2:=⟨_,rfl⟩
  obtain⟨nn,hnn⟩: ∃q,q=mid+m:=⟨_,rfl⟩
  have e3: (mid:Int)+ (m:Int)=(nn:Nat):=by omega
  have e5: (nn:Int) - 1=((nn - 1:Nat):Int):=by omega
  have hl: (A++ (X++ (Y++B))).length=n:=by simp only[List.length_append];omega
  ((try with_reducible refine Cw.go [1000027] ?_);(try simp(disch:=(first|assumption|omega| (simp only[jF_,jE_,UInt64.reduceToNat];try omega))) only[↓Sx.S0,Sx.S1,Tryz.fx,zY_,Nat.reduceAdd,Nat.reducePow,Int.reducePow,Nat.reduceBEq, ↓reduceIte,UInt8.reduceToNat,UInt16.reduceToNat,UInt32.reduceToNat,UInt64.reduceToNat,Int.reduceToNat,e1,e2,←hmd,e3,e5]))
  refine Cw.cut (G:=BsG) 220 (fun g=> [(0,vsl rb 0 n c),(1,vi a),(2,vi m),(3,vi b),(4,qT_),(18,vi mid),(19,vi nn),(20,vi g.i),(21,vi g.j)]) (fun g=> [(rb,zB_ rest (A++ (X++ (Y++B))))]) (fun g=>g.i≤g.j∧g.j≤m∧nn≤b+g.i∧m+g.j≤nn∧a≤g.i∧(g.i=a∨nn=b+g.i)∧(g.j=m∨m+g.j=nn)) ?_ ?_
  ·by_cases hmid:mid<m
   ·have e4: (nn:Int) - (b:Int)=((nn - b:Nat):Int):=by omega
    first|with_reducible refine ks [] (And.intro @zY_ @e4) ?_|refine kp (And.intro @zY_ @e4) ?_
    exact CutM.mk ⟨nn - b,mid⟩ ⟨by show nn - b≤mid;omega,by show mid≤m;omega,by show nn≤b+ (nn - b);omega,by show m+mid≤nn;omega,by show a≤nn - b;omega, .inr (by show nn=b+ (nn - b);omega), .inr (by show m+mid=nn;omega)⟩ rfl rfl
   ·first|with_reducible refine ks [] @zY_ ?_|refine kp @zY_ ?_
    exact CutM.mk ⟨a,m⟩ ⟨by show a≤m;omega,by show m≤m;omega,by show nn≤b+a;omega,by show m+m≤nn;omega,by show a≤a;omega, .inl rfl, .inl rfl⟩ rfl rfl
  ·intro g j hg
   simp only[ads_,ad5_,pin,qO_,qM_,Nat.reduceAdd]
   obtain⟨s0,r0⟩:=g
   obtain⟨f1,f2,f3,f4,f5,f6,f7⟩:=hg
   dsimp only at f1 f2 f3 f4 f5 f6 f7 ⊢
   first|with_reducible refine ks [1000039,1000041] (And.intro @zY_ @e5) ?_|refine kp (And.intro @zY_ @e5) ?_
   refine Cw.loopG (G:=BsG) [149,150,151,152,153,154,155,156,157,23,158,159,160,161,162,163,164,165,166,167,168,169,170,171,172,173,20,174,21] (fun g=> [(20,vi g.i),(21,vi g.j)]) (fun g=> [(rb,zB_ rest (A++ (X++ (Y++B))))]) (fun g=>s0≤g.i∧g.i≤g.j∧g.j≤r0∧(g.i=s0∨jl_ ((A++ (X++ (Y++B))).getD (nn - g.i) rw0) ((A++ (X++ (Y++B))).getD (g.i - 1) rw0)=false)∧(g.j=r0∨jl_ ((A++ (X++ (Y++B))).getD (nn - 1 - g.j) rw0) ((A++ (X++ (Y++B))).getD g.j rw0)=true)) (fun g=>g.j - g.i) ⟨s0,r0⟩ rfl rfl ?_ ?_
   ·exact⟨Nat.le_refl _,f1,Nat.le_refl _, .inl rfl, .inl rfl⟩
   ·intro g j hg
    refine kv ?_
    obtain⟨i,j⟩:=g
    obtain⟨h1,h2,h3,h4,h5⟩:=hg
    dsimp only at h1 h2 h3 h4 h5 ⊢
    by_cases hij:i<j
    ·obtain⟨h,hh⟩: ∃q,q=(i+j) / 2:=⟨_,rfl⟩
     have e6: ((nn - 1:Nat):Int) - (h:Int)=((nn - 1 - h:Nat):Int):=by omega
     ((try with_reducible refine Cw.go [] ?_);(try simp(disch:=(first|assumption|omega| (simp only[jF_,jE_,UInt64.reduceToNat];try omega))) only[↓Sx.S0,Sx.S1,Tryz.fx,zY_,Nat.reduceAdd,Nat.reducePow,Int.reducePow,Nat.reduceBEq, ↓reduceIte,UInt8.reduceToNat,UInt16.reduceToNat,UInt32.reduceToNat,UInt64.reduceToNat,Int.reduceToNat,←hh]))
     refine Cw.regionS [rb] [0,1,2,3,4,5,7,8,9,6,10,11,12,13] [] (by kernel_rfl) (by kernel_rfl) (by kernel_rfl) ?_
     simp only[zh_, ↓zc_, ↓zb_, ↓zn_, ↓zo_,za_]
     refine kq (And.intro @zY_ @e6) ?_
     refine Ow.callFn2 (v:=vi (vv_ ((A++ (X++ (Y++B))).getD (nn - 1 - h) rw0) ((A++ (X++ (Y++B))).getD h rw0))) rfl rfl rfl rfl Tryz.call109 (fun w' hw'=>xO_ _ _ w') ?_
     refine kq @zY_ ?_
     cases hc:jl_ ((A++ (X++ (Y++B))).getD (nn - 1 - h) rw0) ((A++ (X++ (Y++B))).getD h rw0)
     ·first|with_reducible refine ks [] @zY_ ?_|refine kp @zY_ ?_
      refine Again.mk ⟨h+1,j⟩ (by show j - (h+1)<j - i;omega) ⟨by show s0≤h+1;omega,by show h+1≤j;omega,h3, .inr ?_,h5⟩ rfl rfl
      show jl_ ((A++ (X++ (Y++B))).getD (nn - (h+1)) rw0) ((A++ (X++ (Y++B))).getD (h+1 - 1) rw0)=false
      rw[show nn - (h+1)=nn - 1 - h by omega,Nat.add_sub_cancel];exact hc
     ·first|with_reducible refine ks [] @zY_ ?_|refine kp @zY_ ?_
      refine Again.mk ⟨i,h⟩ (by show h - i<j - i;omega) ⟨h1,by show i≤h;omega,by show h≤r0;omega,h4, .inr hc⟩ rfl rfl
    ·obtain rfl:i=j:=by omega
     obtain⟨ix,hix⟩: ∃q,q=i - a:=⟨_,rfl⟩
     obtain⟨jy,hjy⟩: ∃q,q=nn - i - m:=⟨_,rfl⟩
     have q1:jy=0∨X.length≤ix∨jl_ (Y.getD (jy - 1) rw0) (X.getD ix rw0)=true:=by
      by_cases c1:jy=0
      ·exact .inl c1
      by_cases c2:X.length≤ix
      ·exact .inr (.inl c2)
      rcases h5 with h5|h5
      ·omega
      ·rw[ajb_ (h:=jy - 1) (by omega) (by omega),ai8_ (h:=ix) (by omega) (by omega)] at h5
       exact .inr (.inr h5)
     have q2:ix=0∨Y.length≤jy∨jl_ (Y.getD jy rw0) (X.getD (ix - 1) rw0)=false:=by
      by_cases c1:ix=0
      ·exact .inl c1
      by_cases c2:Y.length≤jy
      ·exact .inr (.inl c2)
      rcases h4 with h4|h4
      ·omega
      ·rw[ajb_ (h:=jy) (by omega) (by omega),ai8_ (h:=ix - 1) (by omega) (by omega)] at h4
       exact .inr (.inr h4)
     have hmc:=fun x1 x2=>aih_ (z:=rw0) (x1:=x1) (x2:=x2) hX hY (show ix≤X.length by omega) (show jy≤Y.length by omega) q1 q2
     have sX1:zC_ (X.take ix):=StP.Sorted.left (b:=X.drop ix) (by rw[List.take_append_drop];exact hX)
     have sX2:zC_ (X.drop ix):=StP.Sorted.right (a:=X.take ix) (by rw[List.take_append_drop];exact hX)
     have sY1:zC_ (Y.take jy):=StP.Sorted.left (b:=Y.drop jy) (by rw[List.take_append_drop];exact hY)
     have sY2:zC_ (Y.drop jy):=StP.Sorted.right (a:=Y.take jy) (by rw[List.take_append_drop];exact hY)
     have hrow:A++ (X++ (Y++B))=A++ (X.take ix++ (X.drop ix++ (Y.take jy++ (Y.drop jy++B)))):=by
      rw[←List.append_assoc (X.take ix),List.take_append_drop,←List.append_assoc (Y.take jy),List.take_append_drop]
     have lX1: (X.take ix).length=ix:=by rw[List.length_take];omega
     have lX2: (X.drop ix).length=m - i:=by rw[List.length_drop];omega
     have lY1: (Y.take jy).length=jy:=by rw[List.length_take];omega
     have lY2: (Y.drop jy).length=b - m - jy:=by rw[List.length_drop];omega
     have e7: (nn:Int) - (i:Int)=((m+jy:Nat):Int):=by omega
     first|with_reducible refine ks [] (And.intro @zY_ @e7) ?_|refine kp (And.intro @zY_ @e7) ?_
     rw[hrow]
     generalize X.take ix=X1 at*
     generalize X.drop ix=X2 at*
     generalize Y.take jy=Y1 at*
     generalize Y.drop jy=Y2 at*
     have em:mid=i+jy:=by omega
     refine Cw.cut (G:=Unit) 220 (fun g=> [(0,vsl rb 0 n c),(1,vi a),(2,vi m),(3,vi b),(4,qT_),(18,vi mid),(20,vi i),(24,vi (m+jy:Nat))]) (fun g=> [(rb,zB_ rest (A++ (X1++ (Y1++ (X2++ (Y2++B))))))]) (fun g=>True) ?_ ?_
     ·by_cases c1:i<m
      ·have d1:decide ((i:Int)< (m:Int))=true:=decide_eq_true (by omega)
       by_cases c2:0<jy
       ·have d2:decide ((m:Int)< ((m+jy:Nat):Int))=true:=decide_eq_true (by omega)
        first|with_reducible refine ks [] (And.intro @zY_ (And.intro @d1 (@d2))) ?_|refine kp (And.intro @zY_ (And.intro @d1 (@d2))) ?_
        refine Ow.callM rfl rfl Tryz.call204 (by simp[keys]) (fun w' hw'=>Jq_ rb n c (A++X1) X2 Y1 (Y2++B) rest qT_ i m (m+jy) w' (by omega) (by omega) (by rw[List.length_append];omega) (by omega) (by omega) (by rw[List.length_append];omega) hs (by rw[List.append_assoc];exact hw'.has _ _ List.mem_cons_self)) ?_
        refine ko @zY_ ?_
        exact CutM.mk () trivial (by simp only[List.append_assoc]) rfl
       ·have d2:decide ((m:Int)< ((m+jy:Nat):Int))=false:=decide_eq_false (by omega)
        first|with_reducible refine ks [] (And.intro @zY_ (And.intro @d1 (@d2))) ?_|refine kp (And.intro @zY_ (And.intro @d1 (@d2))) ?_
        obtain rfl:Y1= []:=List.eq_nil_of_length_eq_zero (by omega)
        exact CutM.mk () trivial (by simp only[List.nil_append]) rfl
      ·have d1:decide ((i:Int)< (m:Int))=false:=decide_eq_false (by omega)
       first|with_reducible refine ks [] (And.intro @zY_ @d1) ?_|refine kp (And.intro @zY_ @d1) ?_
       obtain rfl:X2= []:=List.eq_nil_of_length_eq_zero (by omega)
       exact CutM.mk () trivial (by simp only[List.nil_append]) rfl
     ·intro u ju hu
      simp only[ads_,ad5_,pin,qO_,qM_,Nat.reduceAdd]
      first|with_reducible refine ks [1000041,1000043] @zY_ ?_|refine kp @zY_ ?_
      refine Cw.cut (G:=(List RwL)) 220 (fun g=> [(0,vsl rb 0 n c),(3,vi b),(4,qT_),(18,vi mid),(24,vi (m+jy:Nat))]) (fun g=> [(rb,zB_ rest (A++ (g++ (X2++ (Y2++B)))))]) (fun g=>g.length=ix+jy∧zC_ g∧jI_ (X1++Y1) g) ?_ ?_
      ·by_cases c1:a<i
       ·have d1:decide ((a:Int)< (i:Int))=true:=decide_eq_true (by omega)
        by_cases c2:0<jy
        ·have d2:decide ((i:Int)< (mid:Int))=true:=decide_eq_true (by omega)
         first|with_reducible refine ks [] (And.intro @zY_ (And.intro @d1 (@d2))) ?_|refine kp (And.intro @zY_ (And.intro @d1 (@d2))) ?_
         refine Ow.callE rfl rfl Tryz.call176 (by simp[keys]) (fun w' hw'=>ih rb n c A X1 Y1 (X2++ (Y2++B)) rest a i mid w' ha (by omega) (by omega) (by simp only[List.length_append];omega) hs sX1 sY1 (by omega) (by omega) (by omega) (hw'.has _ _ List.mem_cons_self)) (fun v1 o1 hS1=> ?_)
         obtain⟨rfl,Z1,rfl,z1,z2,z3⟩:=hS1
         refine ko @zY_ ?_
         exact CutM.mk Z1 ⟨by omega,z2,z3⟩ rfl rfl
        ·have d2:decide ((i:Int)< (mid:Int))=false:=decide_eq_false (by omega)
         first|with_reducible refine ks [] (And.intro @zY_ (And.intro @d1 (@d2))) ?_|refine kp (And.intro @zY_ (And.intro @d1 (@d2))) ?_
         obtain rfl:Y1= []:=List.eq_nil_of_length_eq_zero (by omega)
         exact CutM.mk X1 ⟨by omega,sX1,by rw[List.append_nil];exact StP.St.refl _ _⟩ rfl rfl
       ·have d1:decide ((a:Int)< (i:Int))=false:=decide_eq_false (by omega)
        first|with_reducible refine ks [] (And.intro @zY_ @d1) ?_|refine kp (And.intro @zY_ @d1) ?_
        obtain rfl:X1= []:=List.eq_nil_of_length_eq_zero (by omega)
        exact CutM.mk Y1 ⟨by omega,sY1,StP.St.refl _ _⟩ (by simp only[List.nil_append]) rfl
      ·intro Z1 jZ1 hZ1
       simp only[ads_,ad5_,pin,qO_,qM_,Nat.reduceAdd]
       obtain⟨z1,z2,z3⟩:=hZ1
       by_cases c1:i<m
       ·have d1:decide ((mid:Int)< ((m+jy:Nat):Int))=true:=decide_eq_true (by omega)
        by_cases c2:m+jy<b
        ·have d2:decide (((m+jy:Nat):Int)< (b:Int))=true:=decide_eq_true (by omega)
         first|with_reducible refine ks [] (And.intro @zY_ (And.intro @d1 (@d2))) ?_|refine kp (And.intro @zY_ (And.intro @d1 (@d2))) ?_
         refine Ow.callE rfl rfl Tryz.call176 (by simp[keys]) (fun w' hw'=>ih rb n c (A++Z1) X2 Y2 B rest mid (m+jy) b w' (by rw[List.length_append];omega) (by omega) (by omega) hn hs sX2 sY2 (by omega) (by omega) (by omega) (by rw[List.append_assoc];exact hw'.has _ _ List.mem_cons_self)) (fun v2 o2 hS2=> ?_)
         obtain⟨rfl,Z2,rfl,y1,y2,y3⟩:=hS2
         obtain⟨r1,r2⟩:=hmc Z1 Z2 z2 z3 y2 y3
         refine ko @zY_ ?_
         refine⟨_,_,_,(ke @zY_),rfl,trivial, ?_⟩
         exact⟨rfl,Z1++Z2,by simp only[List.append_assoc],by rw[List.length_append];omega,r1,r2⟩
        ·have d2:decide (((m+jy:Nat):Int)< (b:Int))=false:=decide_eq_false (by omega)
         first|with_reducible refine ks [] (And.intro @zY_ (And.intro @d1 (@d2))) ?_|refine kp (And.intro @zY_ (And.intro @d1 (@d2))) ?_
         obtain rfl:Y2= []:=List.eq_nil_of_length_eq_zero (by omega)
         obtain⟨r1,r2⟩:=hmc Z1 X2 z2 z3 sX2 (by rw[List.append_nil];exact StP.St.refl _ _)
         refine⟨_,_,_,(ke @zY_),rfl,trivial, ?_⟩
         exact⟨rfl,Z1++X2,by simp only[List.append_assoc,List.nil_append],by rw[List.length_append];omega,r1,r2⟩
       ·have d1:decide ((mid:Int)< ((m+jy:Nat):Int))=false:=decide_eq_false (by omega)
        first|with_reducible refine ks [] (And.intro @zY_ @d1) ?_|refine kp (And.intro @zY_ @d1) ?_
        obtain rfl:X2= []:=List.eq_nil_of_length_eq_zero (by omega)
        obtain⟨r1,r2⟩:=hmc Z1 Y2 z2 z3 sY2 (StP.St.refl _ _)
        refine⟨_,_,_,(ke @zY_),rfl,trivial, ?_⟩
        exact⟨rfl,Z1++Y2,by simp only[List.append_assoc,List.nil_append],by rw[List.length_append];omega,r1,r2⟩
end Go.Proofs
end
section
open Go Go.Proofs Go.Sx Go.StP
namespace Go.Proofs
set_option maxRecDepth 10000
set_option maxHeartbeats 4000000
set_option linter.unusedSimpArgs false
def rws_Blks (k:Nat) (ls:List (List RwL)):Prop:= ∀x,x∈ls→x.length=k∧zC_ x
theorem rws_Blks.snoc {k:Nat} {ls:List (List RwL)} {x:List RwL} (h:rws_Blks k ls) (hx:x.length=k) (hs:zC_ x):rws_Blks k (ls++ [x]):=by
 intro y hy
 rcases List.mem_append.1 hy with hy|hy
 ·exact h y hy
 ·rw[List.mem_singleton] at hy;subst hy;exact⟨hx,hs⟩
structure rws_StG where
 k:Nat
 ls:List (List RwL)
 r:List RwL
structure rws_StH where
 l2:List (List RwL)
 ls:List (List RwL)
theorem JQ_ (rb n c:Nat) (d:List RwL) (rest:List Value) (w:World) (hn:n=d.length) (hs:n<1000000)
  (ho:w.heap[rb]? =some (zB_ rest d)):
  Rets Tryz.prog 150 #[vsl rb 0 n c,vi n,qT_] w (fun v D=> ∃o,D= [(rb,o)]∧v= .tuple #[]∧ ∃Z,o=zB_ rest Z∧Z.length=d.length∧zC_ Z∧jI_ d Z):=by
 refine Rets.enterM Tryz.func150 rfl (rs:= []) Tryz.results150 Tryz.ntmps150 ho ?_
 refine kf ?_
 first|with_reducible refine ks [1000006] @Nat.add_zero ?_|refine kp @Nat.add_zero ?_
 refine Cw.loopG (G:=rws_StG) [11,12,13,14,15,16,17,18,19,7,20,21,22,8] (fun g=> [(7,vi g.ls.flatten.length),(8,vi (g.ls.flatten.length+20:Nat))]) (fun g=> [(rb,zB_ rest (g.ls.flatten++g.r))]) (fun g=>rws_Blks 20 g.ls∧jI_ d (g.ls.flatten++g.r)∧g.ls.flatten.length+g.r.length=n) (fun g=>g.r.length) ⟨20,[],d⟩ rfl rfl ?_ ?_
 ·refine⟨fun x hx=> ?_,StP.St.refl _ _,by show 0+d.length=n;omega⟩
  exact absurd hx (by simp)
 ·intro g j hg
  refine kv ?_
  obtain⟨_,ls,r⟩:=g
  obtain⟨h1,h2,h3⟩:=hg
  dsimp only at h1 h2 h3 ⊢
  by_cases hb:ls.flatten.length+20≤n
  ·obtain⟨M,R,rfl,hM⟩:=agz_ r (show 20≤r.length by omega)
   rw[List.length_append] at h3
   first|with_reducible refine ks [] @Nat.add_zero ?_|refine kp @Nat.add_zero ?_
   refine Ow.callE rfl rfl Tryz.call175 (by simp[keys]) (fun w' hw'=>kH_ rb n c ls.flatten M R rest ls.flatten.length (ls.flatten.length+20) w' rfl (by omega) (by omega) hs (hw'.has _ _ List.mem_cons_self)) (fun v1 o1 hS1=> ?_)
   obtain⟨rfl,M',rfl,l1,s1,t1⟩:=hS1
   refine ko @Nat.add_zero ?_
   have e1: (ls++ [M']).flatten=ls.flatten++M':=by simp
   refine Again.mk ⟨20,ls++ [M'],R⟩ (by show R.length< (M++R).length;rw[List.length_append];omega) ⟨h1.snoc (by omega) s1, ?_, ?_⟩ ?_ ?_
   ·show jI_ d ((ls++ [M']).flatten++R)
    rw[e1,List.append_assoc]
    exact h2.trans (StP.St.app (StP.St.refl _ _) (StP.St.app t1 (StP.St.refl _ _)))
   ·show(ls++ [M']).flatten.length+R.length=n
    rw[e1,List.length_append];omega
   ·rw[e1,List.append_assoc]
   ·dsimp only
    rw[e1,show(ls.flatten++M').length=ls.flatten.length+20 by rw[List.length_append];omega]
    rfl
  ·first|with_reducible refine ks [] @Nat.add_zero ?_|refine kp @Nat.add_zero ?_
   have e0:ls.flatten++r=ls.flatten++ (r++ []):=by rw[List.append_nil]
   rw[e0]
   first|with_reducible refine ks [1000007] @Nat.add_zero ?_|refine kp @Nat.add_zero ?_
   refine Ow.callE rfl rfl Tryz.call175 (by simp[keys]) (fun w' hw'=>kH_ rb n c ls.flatten r [] rest ls.flatten.length n w' rfl (by omega) (by simp) hs (hw'.has _ _ List.mem_cons_self)) (fun v1 o1 hS1=> ?_)
   obtain⟨rfl,r',rfl,l1,s1,t1⟩:=hS1
   rw[show r'++ []=r' from List.append_nil r']
   refine ko @Nat.add_zero ?_
   refine Cw.loopG (G:=rws_StG) [28,29,30,31,32,7,8,33,34,35,36,37,38,39,40,41,42,43,44,45,46,47,48,49,50,51,9,52,53,54,55,56,57,58,59,60,61,62,6] (fun g=> [(6,vi g.k)]) (fun g=> [(rb,zB_ rest (g.ls.flatten++g.r))]) (fun g=>0<g.k∧rws_Blks g.k g.ls∧zC_ g.r∧g.r.length<g.k∧jI_ d (g.ls.flatten++g.r)∧g.ls.flatten.length+g.r.length=n) (fun g=>n - g.k) ⟨20,ls,r'⟩ rfl rfl ?_ ?_
   ·exact⟨by show 0<20;omega,h1,s1,by show r'.length<20;omega,h2.trans (StP.St.app (StP.St.refl _ _) t1),by show ls.flatten.length+r'.length=n;omega⟩
   ·intro g j hg
    refine kv ?_
    clear h1 h2 h3 hb e0 l1 s1 t1
    obtain⟨k,ls,r⟩:=g
    obtain⟨h0,h1,h2,h3,h4,h5⟩:=hg
    dsimp only at h0 h1 h2 h3 h4 h5 ⊢
    by_cases hk:k<n
    ·have e1:2* (k:Int)=((2*k:Nat):Int):=by omega
     first|with_reducible refine ks [1000013] @e1 ?_|refine kp @e1 ?_
     refine Cw.loopG (G:=rws_StH) [33,34,35,36,37,38,39,40,41,42,43,44,7,45,46,47,48,8] (fun g=> [(7,vi g.l2.flatten.length),(8,vi (2*k+g.l2.flatten.length:Nat))]) (fun g=> [(rb,zB_ rest (g.l2.flatten++ (g.ls.flatten++r)))]) (fun g=>rws_Blks (2*k) g.l2∧rws_Blks k g.ls∧jI_ d (g.l2.flatten++ (g.ls.flatten++r))∧g.l2.flatten.length+ (g.ls.flatten.length+r.length)=n) (fun g=>g.ls.length) ⟨[],ls⟩ rfl rfl ?_ ?_
     ·refine⟨fun x hx=> ?_,h1,h4,by show 0+ (ls.flatten.length+r.length)=n;omega⟩
      exact absurd hx (by simp)
     ·clear h1 h4 h5
      intro g j hg
      refine kv ?_
      obtain⟨l2,ls⟩:=g
      obtain⟨g1,g2,g3,g4⟩:=hg
      dsimp only at g1 g2 g3 g4 ⊢
      by_cases hb:2*k+l2.flatten.length≤n
      ·have hls: ∃x y t,ls=x::y::t:=by
        cases ls with
        |nil=>rw[List.flatten_nil,List.length_nil] at g4;omega
        |cons x t=>
         have hx:=(g2 x List.mem_cons_self).1
         cases t with
         |nil=>rw[List.flatten_cons,List.flatten_nil,List.append_nil] at g4;omega
         |cons y t=>exact⟨x,y,t,rfl⟩
       obtain⟨x,y,t,rfl⟩:=hls
       have hx:=g2 x List.mem_cons_self
       have hy:=g2 y (by simp)
       have ht:rws_Blks k t:=fun u hu=>g2 u (by simp[hu])
       rw[List.flatten_cons,List.flatten_cons] at g3 g4
       simp only[List.length_append,List.append_assoc] at g3 g4
       have e2: (x::y::t).flatten++r=x++ (y++ (t.flatten++r)):=by simp
       rw[e2]
       have e3: (l2.flatten.length:Int)+ (k:Int)=((l2.flatten.length+k:Nat):Int):=by omega
       first|with_reducible refine ks [] @e3 ?_|refine kp @e3 ?_
       refine Ow.callE rfl rfl Tryz.call176 (by simp[keys]) (fun w' hw'=>k0_ (2*k) rb n c l2.flatten x y (t.flatten++r) rest l2.flatten.length (l2.flatten.length+k) (2*k+l2.flatten.length) w' rfl (by omega) (by omega) (by rw[List.length_append];omega) hs hx.2 hy.2 (by omega) (by omega) (by omega) (hw'.has _ _ List.mem_cons_self)) (fun v1 o1 hS1=> ?_)
       obtain⟨rfl,Z,rfl,z1,z2,z3⟩:=hS1
       have e4: ((2*k+l2.flatten.length:Nat):Int)+ ((2*k:Nat):Int)=((2*k+ (l2.flatten.length+2*k):Nat):Int):=by omega
       refine ko (And.intro @e1 @e4) ?_
       have e5: (l2++ [Z]).flatten=l2.flatten++Z:=by simp
       have e6: (l2.flatten++Z).length=2*k+l2.flatten.length:=by rw[List.length_append];omega
       refine Again.mk ⟨l2++ [Z],t⟩ (by show t.length< (x::y::t).length;simp only[List.length_cons];omega) ⟨g1.snoc (by omega) z2,ht, ?_, ?_⟩ ?_ ?_
       ·show jI_ d ((l2++ [Z]).flatten++ (t.flatten++r))
        rw[e5,List.append_assoc]
        refine g3.trans (StP.St.app (StP.St.refl _ _) ?_)
        rw[←List.append_assoc]
        exact StP.St.app z3 (StP.St.refl _ _)
       ·show(l2++ [Z]).flatten.length+ (t.flatten.length+r.length)=n
        rw[e5,e6];omega
       ·rw[e5,List.append_assoc]
       ·dsimp only
        rw[e5,e6,show l2.flatten.length+2*k=2*k+l2.flatten.length by omega]
        rfl
      ·have e7: (k:Int)*2=((2*k:Nat):Int):=by omega
       have e3: (l2.flatten.length:Int)+ (k:Int)=((l2.flatten.length+k:Nat):Int):=by omega
       have hls:ls= []∨ ∃x,ls= [x]:=by
        cases ls with
        |nil=>exact .inl rfl
        |cons x t=>
         have hx:=(g2 x List.mem_cons_self).1
         cases t with
         |nil=>exact .inr ⟨x,rfl⟩
         |cons y t=>
          have hy:=(g2 y (by simp)).1
          rw[List.flatten_cons,List.flatten_cons,List.length_append,List.length_append] at g4
          omega
       have fin: ∀r',(ls.flatten++r).length=r'.length→jI_ (ls.flatten++r) r'→jI_ d (l2.flatten++r')∧l2.flatten.length+r'.length=n:=by
        intro r' hl ht'
        rw[List.length_append] at hl
        exact⟨g3.trans (StP.St.app (StP.St.refl _ _) ht'),by omega⟩
       rcases hls with rfl| ⟨x,rfl⟩
       ·rw[List.flatten_nil,List.length_nil] at g4
        first|with_reducible refine ks [] @Nat.add_zero ?_|refine kp @Nat.add_zero ?_
        first|with_reducible refine ks [] (And.intro @e3 @e7) ?_|refine kp (And.intro @e3 @e7) ?_
        obtain⟨w1,w2⟩:=fin r rfl (StP.St.refl _ _)
        refine Again.mk ⟨2*k,l2,r⟩ (by show n - 2*k<n - k;omega) ⟨by show 0<2*k;omega,g1,h2,by show r.length<2*k;omega,w1,w2⟩ rfl rfl
       ·have hx:=g2 x List.mem_cons_self
        rw[List.flatten_cons,List.flatten_nil,List.append_nil] at g4 fin
        rw[List.flatten_cons,List.flatten_nil,List.append_nil]
        by_cases hr:r.length=0
        ·obtain rfl:r= []:=List.eq_nil_of_length_eq_zero hr
         first|with_reducible refine ks [] @Nat.add_zero ?_|refine kp @Nat.add_zero ?_
         first|with_reducible refine ks [] (And.intro @e3 @e7) ?_|refine kp (And.intro @e3 @e7) ?_
         obtain⟨w1,w2⟩:=fin x (by rw[List.append_nil]) (by rw[List.append_nil];exact StP.St.refl _ _)
         refine Again.mk ⟨2*k,l2,x⟩ (by show n - 2*k<n - k;omega) ⟨by show 0<2*k;omega,g1,hx.2,by show x.length<2*k;omega,w1,w2⟩ ?_ rfl
         rw[List.append_nil]
        ·have e8:x++r=x++ (r++ []):=by rw[List.append_nil]
         rw[e8]
         first|with_reducible refine ks [] @Nat.add_zero ?_|refine kp @Nat.add_zero ?_
         first|with_reducible refine ks [] (And.intro @e3 @e7) ?_|refine kp (And.intro @e3 @e7) ?_
         refine Ow.callE rfl rfl Tryz.call176 (by simp[keys]) (fun w' hw'=>k0_ (2*k) rb n c l2.flatten x r [] rest l2.flatten.length (l2.flatten.length+k) n w' rfl (by omega) (by omega) (by simp) hs hx.2 h2 (by omega) (by omega) (by omega) (hw'.has _ _ List.mem_cons_self)) (fun v1 o1 hS1=> ?_)
         obtain⟨rfl,Z,rfl,z1,z2,z3⟩:=hS1
         rw[show Z++ []=Z from List.append_nil Z]
         refine ko @e7 ?_
         obtain⟨w1,w2⟩:=fin Z (by rw[List.length_append];omega) z3
         refine Again.mk ⟨2*k,l2,Z⟩ (by show n - 2*k<n - k;omega) ⟨by show 0<2*k;omega,g1,z2,by show Z.length<2*k;omega,w1,w2⟩ rfl rfl
    ·first|with_reducible refine ks [] @Nat.add_zero ?_|refine kp @Nat.add_zero ?_
     have hZ:zC_ (ls.flatten++r):=by
      cases ls with
      |nil=>exact h2
      |cons x ls=>
       have hx:=h1 x List.mem_cons_self
       rw[List.flatten_cons,List.length_append] at h5
       obtain rfl:r= []:=List.eq_nil_of_length_eq_zero (by omega)
       cases ls with
       |nil=>simpa using hx.2
       |cons y ls=>
        have hy:=h1 y (by simp)
        rw[List.flatten_cons,List.length_append] at h5
        omega
     have hZl: (ls.flatten++r).length=d.length:=by rw[List.length_append];omega
     refine⟨_,_,_,(ke @Nat.add_zero),rfl,trivial, ?_⟩
     exact⟨rfl,_,rfl,hZl,hZ,h4⟩
end Go.Proofs
end
section
open Go Go.Proofs Go.Sx Go.StP
namespace Go.Proofs
set_option maxRecDepth 10000
set_option maxHeartbeats 4000000
set_option linter.unusedSimpArgs false
theorem Qd_ (w:World):Rets Tryz.prog 175 #[.slice none 0 0,vi 0,vi 0,qT_] w (fun v D=>v= .tuple #[]∧D= []):=by
 refine Rets.enterV Tryz.func175 rfl (rs:= []) Tryz.results175 Tryz.ntmps175 ?_
 refine kf ?_
 first|with_reducible refine ks [] @Nat.add_zero ?_|refine kp @Nat.add_zero ?_
 refine Cw.loopG (G:=Unit) [12,13,14,17,9,18,19,20,21,22,23,24,25,26,27,28,29,30,31,32,33,34,37,38,39,40,41,42,43,44,45,46,47,48,49,50,51,52,35,36,15,16,8] (fun g=> [(8,vi 1)]) (fun g=> []) (fun g=>True) (fun g=>0) () rfl rfl ?_ ?_
 ·trivial
 ·intro g j hg
  refine kv ?_
  first|with_reducible refine ks [] @Nat.add_zero ?_|refine kp @Nat.add_zero ?_
  refine⟨_,(ke @Nat.add_zero),trivial, ?_⟩
  rfl
theorem XJ_ (w:World):Rets Tryz.prog 150 #[.slice none 0 0,vi 0,qT_] w (fun v D=>v= .tuple #[]∧D= []):=by
 refine Rets.enterV Tryz.func150 rfl (rs:= []) Tryz.results150 Tryz.ntmps150 ?_
 refine kf ?_
 first|with_reducible refine ks [] @Nat.add_zero ?_|refine kp @Nat.add_zero ?_
 refine Cw.loopG (G:=Unit) [11,12,13,14,15,16,17,18,19,7,20,21,22,8] (fun g=> [(7,vi 0),(8,vi 20)]) (fun g=> []) (fun g=>True) (fun g=>0) () rfl rfl ?_ ?_
 ·trivial
 ·intro g j hg
  refine kv ?_
  first|with_reducible refine ks [] @Nat.add_zero ?_|refine kp @Nat.add_zero ?_
  refine Ow.callFV rfl Tryz.call175 (fun w' hw'=>Qd_ w') ?_
  refine ko @Nat.add_zero ?_
  refine Cw.loopG (G:=Unit) [28,29,30,31,32,7,8,33,34,35,36,37,38,39,40,41,42,43,44,45,46,47,48,49,50,51,9,52,53,54,55,56,57,58,59,60,61,62,6] (fun g=> [(6,vi 20)]) (fun g=> []) (fun g=>True) (fun g=>0) () rfl rfl ?_ ?_
  ·trivial
  ·intro u ju hu
   refine kv ?_
   first|with_reducible refine ks [] @Nat.add_zero ?_|refine kp @Nat.add_zero ?_
   refine⟨_,(ke @Nat.add_zero),trivial, ?_⟩
   rfl
theorem Zp_ (w:World):Rets Tryz.prog 108 #[.slice none 0 0,qT_] w (fun v D=>v= .tuple #[]∧D= []):=by
 refine Rets.enterV Tryz.func108 rfl (rs:= []) Tryz.results108 Tryz.ntmps108 ?_
 refine kf ?_
 first|with_reducible refine ks [] @wY_ ?_|refine kp @wY_ ?_
 refine Ow.callFV rfl Tryz.call150 (fun w' hw'=>XJ_ w') ?_
 refine ko @Nat.add_zero ?_
 refine⟨_,(ke @Nat.add_zero),trivial, ?_⟩
 rfl
theorem kd_ (rb n c:Nat) (d:List RwL) (rest:List Value) (w:World) (hn:n=d.length) (hs:n<1000000) (ho:w.heap[rb]? =some (zB_ rest d)):
  Rets Tryz.prog 108 #[vsl rb 0 n c,qT_] w (fun v D=> ∃o,D= [(rb,o)]∧v= .tuple #[]∧ ∃Z,o=zB_ rest Z∧Z.length=d.length∧zC_ Z∧jI_ d Z):=by
 refine Rets.enterM Tryz.func108 rfl (rs:= []) Tryz.results108 Tryz.ntmps108 ho ?_
 refine kf ?_
 first|with_reducible refine ks [] @Nat.add_zero ?_|refine kp @Nat.add_zero ?_
 refine Ow.callE rfl rfl Tryz.call150 (by simp[keys]) (fun w' hw'=>JQ_ rb n c d rest w' hn hs (hw'.has _ _ List.mem_cons_self)) (fun v1 o1 hS1=> ?_)
 obtain⟨rfl,Z,rfl,z1,z2,z3⟩:=hS1
 refine ko @Nat.add_zero ?_
 refine⟨_,_,_,(ke @Nat.add_zero),rfl,trivial, ?_⟩
 exact⟨rfl,Z,rfl,z1,z2,z3⟩
def rws_SortOf (l Z:List RwL):Prop:=Z.length=l.length∧zC_ Z∧jI_ l Z
theorem rws_SortOf.eq {l Z Z':List RwL} (h:rws_SortOf l Z) (h':rws_SortOf l Z'):Z=Z':=StP.St.eq h.2.1 h'.2.1 (h.2.2.symm.trans h'.2.2)
end Go.Proofs
end
section
open Go Go.Proofs Go.Sx Go.StP
namespace Go.Proofs
set_option maxRecDepth 10000
set_option maxHeartbeats 1000000
set_option linter.unusedSimpArgs false
abbrev Xt_ (w:World) (v:Value) (l:List RwL):Prop:=SlV 34 rwC rw0 w v l
def qs_ (r:RwL):Bool:= !(decide (r.place<0))&& !(decide (1099511627775<r.place))&& !(decide (r.spot<0))&& !(decide (1099511627775<r.spot))
def wJ_ (l:List RwL):Nat→Bool
 |0=>true
 |k+1=>wJ_ l k&& (decide (k=0) ||decide (cmpI (l.getD (k - 1) rw0).id (l.getD k rw0).id<0))&&qs_ (l.getD k rw0)
def zT_ (i:IdL):Nat:=(i.l.getD 0 0).toNat / 16
theorem ad2_ (i:IdL):zT_ i<16:=by
 have:=(i.l.getD 0 0).toNat_lt
 unfold zT_;omega
def xP_ (l:List RwL) (d:Nat):Nat:=l.countP fun r=>decide (zT_ r.id≤d)
def x0_ (l:List RwL):List Nat:=(List.range 16).map (xP_ l)
def V4_ (l:List RwL) (r:RwL) (g:Nat):List Nat:=(List.range 16).map fun j=>if j<g then xP_ (l++ [r]) j else xP_ l j
theorem vd_ (l:List RwL): (x0_ l).length=16:=by simp[x0_]
theorem Q2_ (l:List RwL) (r:RwL) (g:Nat): (V4_ l r g).length=16:=by simp[V4_]
theorem JB_ (l:List RwL) (r:RwL) (d:Nat):xP_ (l++ [r]) d=xP_ l d+if zT_ r.id≤d then 1 else 0:=by
 unfold xP_
 rw[List.countP_append,List.countP_singleton]
 simp
theorem aot_ (l:List RwL) (r:RwL):V4_ l r (zT_ r.id)=x0_ l:=by
 unfold V4_ x0_
 refine List.map_congr_left fun j _=> ?_
 split
 ·rename_i h;rw[JB_,if_neg (by omega),Nat.add_zero]
 ·rfl
theorem anf_ (l:List RwL) (r:RwL):V4_ l r 16=x0_ (l++ [r]):=by
 unfold V4_ x0_
 refine List.map_congr_left fun j hj=> ?_
 rw[if_pos (List.mem_range.1 hj)]
theorem ajO_ (l:List RwL) (r:RwL) {g:Nat} (hg:g<16): (V4_ l r g).getD g 0=xP_ l g:=by
 unfold V4_
 rw[List.getD_eq_getElem?_getD,List.getElem?_map,List.getElem?_range hg]
 simp
theorem ale_ (l:List RwL) (r:RwL) {g:Nat} (_hg:g<16) (hd:zT_ r.id≤g): (V4_ l r g).set g (xP_ l g+1)=V4_ l r (g+1):=by
 apply List.ext_getElem
 ·simp[V4_]
 ·intro j h1 h2
  rw[List.length_set,Q2_] at h1
  rw[List.getElem_set]
  have e1: (V4_ l r g)[j]'(by rw[Q2_];exact h1)=if j<g then xP_ (l++ [r]) j else xP_ l j:=by simp[V4_]
  have e2: (V4_ l r (g+1))[j]'h2=if j<g+1 then xP_ (l++ [r]) j else xP_ l j:=by simp[V4_]
  rw[e1,e2]
  by_cases hj:g=j
  ·subst hj
   rw[if_pos rfl,if_pos (by omega),JB_,if_pos hd]
  ·rw[if_neg hj]
   by_cases hj2:j<g
   ·rw[if_pos hj2,if_pos (by omega)]
   ·rw[if_neg hj2,if_neg (by omega)]
theorem shr4 (x:UInt8): ((kb_ x 4).toNat:Int)=((x.toNat / 16:Nat):Int):=by
 have:=x.toNat_lt
 unfold kb_
 rw[UInt8.toNat_ofNat',Nat.mod_eq_of_lt (by omega)]
def ixO (s:List UInt8) (v1:Value) (F:List Nat):Obj:= .cells ([vs s,v1]++ (F.map fun(n:Nat)=>vi (n:Int))).toArray 178 (0,0)
set_option linter.defProp false
def afi_:=And.intro (@zg_) (@zf_)
theorem Xc_ (i:IdL) (w:World):Rets Tryz.prog 118 #[.agg (a8 i.l)] w (fun v D=>v=vi (zT_ i:Nat)∧D= []):=by
 have hil:=i.h
 have h0: (0:Nat)<i.l.length:=by omega
 have hs:=shr4 (i.l.getD 0 0)
 refine Rets.enterV Tryz.func118 rfl (rs:= [.tmp 2]) Tryz.results118 Tryz.ntmps118 ?_
 refine kf ?_
 first|with_reducible refine ks [] @afi_ ?_|refine kp @afi_ ?_
 refine Ow.box rfl rfl fun b1 hb1 hw1=> ?_
 simp only[qi_,qe_,qc_,ze_,List.nil_append,List.cons_append]
 refine Ow.go rfl ?_
 simp(disch:=(first|assumption|omega| (simp only[jF_,jE_,UInt64.reduceToNat];try omega))) only[↓Sx.S0,Sx.S1,Tryz.fx,afi_,Nat.reduceAdd,Nat.reducePow,Int.reducePow,Nat.reduceBEq, ↓reduceIte,UInt8.reduceToNat,UInt16.reduceToNat,UInt32.reduceToNat,UInt64.reduceToNat,Int.reduceToNat]
 first|with_reducible refine ks [] @afi_ ?_|refine kp @afi_ ?_
 refine⟨_,(ke @afi_),⟨hw1,trivial⟩, ?_⟩
 exact congrArg vi hs
end Go.Proofs
end
namespace Go.Sx
open Go
section
variable {α:Type} {m:Nat} {enc:α→List Value} {z:α} {w:World} {v:Value} {l:List α}
theorem SlV.dropE (h:SlV m enc z w v l) {k:Nat} (hk:k≤l.length) (a:Bool): ∃v',jx_ (.sl (a,m)) v (some (some (k:Int))) none=some v'∧SlV m enc z w v' (l.drop k)∧(∀b,slB v'=some b→slB v=some b):=by
 obtain⟨b,off,c,arr,E,fz,hr,hc,hv⟩:=h
 have hl: (l.drop k).length=l.length - k:=by simp
 rcases hv with⟨rfl,rfl,rfl⟩ | ⟨rfl,hhas,hsz⟩
 ·obtain rfl:k=0:=by simpa using hk
  exact⟨.slice none 0 0,rfl,SlV.nil w,fun b hb=>hb⟩
 ·have hsl:jx_ (.sl (a,m)) (vsl b off l.length c) (some (some (k:Int))) none=some (vsl b (if c=k then off else off+k*m) (l.length - k) (c - k)):=by
   unfold jx_ vsl
   simp only[alH_ _ _ _ (⟨by omega,by omega⟩: (0:Int)≤ (k:Int)∧(k:Int)≤ (l.length:Int)),Int.toNat_natCast]
   by_cases hck:c=k
   ·simp[hck]
   ·simp only[hck, ↓reduceIte,Option.map_some,jf_]
  refine⟨_,hsl, ?_,fun b' hb=>hb⟩
  have hkm:k*m+ (l.length - k)*m=l.length*m:=by rw[←Nat.add_mul];congr 1;omega
  by_cases hck:c=k
  ·have h0:l.length - k=0:=by omega
   rw[if_pos hck]
   refine⟨b,off,c - k,arr,E,fz,RowS.sl' hl.symm (fun h=>by omega) (fun i hi=>by omega),by omega, .inr ⟨by rw[hl],hhas,by rw[hl,h0];omega⟩⟩
  ·rw[if_neg hck]
   refine⟨b,off+k*m,c - k,arr,E,fz,RowS.sl' hl.symm (fun h=>hhas) ?_,by omega, .inr ⟨by rw[hl],hhas,by rw[hl];omega⟩⟩
   intro i hi j hj
   rw[hl] at hi
   rw[List.getD_eq_getElem?_getD,List.getElem?_drop,←List.getD_eq_getElem?_getD,←hr.get (k+i) (by omega) j hj]
   congr 1
   rw[Nat.add_mul];omega
end
section
variable {P:Program} {w0:World} {f:Fr} {L:zd_} {N:Fr→zd_→Prop} {ops:Array Oper} {rest:List Oper} {md:Md} {d:Option Tmp} {ty:TypeId} {ps:String} {af:Array Edge} {g:Option (Nat×Bool)}
theorem Ow.callFnX {x y:Operand} {b:Value} {ts:Array TypeId} {k:FuncId} {X Y:zd_} {S:Value→zd_→Prop} {md':Md} (hL:L=X++Y) (he:md.turn=some md')
  (hs:zl_ ops f ⟨d, .call ⟨.value x, #[y],ts⟩,ty,ps,af,g⟩=false)
  (hx:ev f x= .func (.func k) #[] #[]) (hy:ev f y=b)
  (hk: ∀a w,(callFunc k a).run P w= .ok (.enter k a) w)
  (hc: ∀w,Hp w0 L w→(∀p,p∈X→w.heap[p.1]? =some p.2)→(keys X).Nodup→Rets P k #[b] w (XS w X S))
  (hn: ∀v D,Came w0 L X D→S v D→Ow P w0 ops md' rest (qz_ f d v) (D++Y) N):
  Ow P w0 ops md (⟨d, .call ⟨.value x, #[y],ts⟩,ty,ps,af,g⟩::rest) f L N:=by
 subst hL
 have hnd: ∀w,Hp w0 (X++Y) w→(keys X).Nodup∧ ∀c,c∈keys Y→c∉keys X:=by
  intro w hw
  have:=hw.nodup
  rw[zj_,List.nodup_append] at this
  exact⟨this.1,fun c hc hx=>this.2.2 c hx c hc rfl⟩
 refine Ow.call (S:=fun B v D=>((∀c,c∈keys D→c∈keys X∨B≤c)∧(∀c,c∈keys X→c∈keys D)∧S v D)∧ ∃w,Hp w0 (X++Y) w∧w.heap.size=B) he hs hx hk (fun w hw=> ?_) ?_
 ·show Rets P k (#[]++ #[y].map (ev f)++ #[]) w _
  rw[show(#[]++ #[y].map (ev f)++ #[]:Array Value)= #[b] by simp[hy]]
  refine Calls.mono (hc w hw (fun p hp=>hw.has _ _ (List.mem_append_left _ hp)) (hnd w hw).1) ?_
  rintro e w' ⟨v,D,he,hp,hS⟩
  exact⟨v,D,he,hp,⟨hS.1.new,hS.1.all,hS.2⟩,w,hw,rfl⟩
 ·rintro B v D hab hB ⟨⟨h1,h2,h3⟩,w1,hw1,hwB⟩
  refine⟨D++Y, ?_,hn v D ⟨fun c hc=>(h1 c hc).imp id fun h=>⟨qq_ fun b hb=>by have:=hw1.lt hb;omega,by have:=hw1.size;omega⟩,h2⟩ h3⟩
  intro w w' hwb h k
  have ht:=h.trans k
  have hY: ∀c,c∈keys Y→c∉keys D:=by
   intro c hc hd
   rcases h1 c hd with hx|hx
   ·exact(hnd w h).2 c hc hx
   ·have:=h.lt (b:=c) (by rw[zj_];exact List.mem_append_right _ hc)
    omega
  have e1:X.filter (fun p=> !(keys D).contains p.1)= []:=by
   rw[List.filter_eq_nil_iff]
   intro p hp
   have:=h2 p.1 (List.mem_map.2 ⟨p,hp,rfl⟩)
   simpa using this
  have e2:Y.filter (fun p=> !(keys D).contains p.1)=Y:=jk_ hY
  rw[List.filter_append,e1,e2,List.nil_append] at ht
  refine ht.same (fun p=>by simp[or_comm]) ?_
  have:=ht.nodup
  rw[zj_] at this ⊢
  exact(List.perm_append_comm.nodup_iff).1 this
end
section
variable {P:Program} {w0:World} {f:Fr} {L:zd_} {K:xF_}
theorem Cw.world {c:Code} (h: ∀w,Hp w0 L w→Cw P w0 c f L K):Cw P w0 c f L K:=fun w hw=>h w hw w hw
theorem Gr.read {E:TypeId} {m n:Nat} {v:Value} {cs:List Value} (h:Gr L E m v n cs) {b:Nat} (hb:slB v=some b) {w:World} (hw:Hp w0 L w) {o:Obj} (ho:w.heap[b]? =some o):zy_ w0 L b=some o:=by
 obtain⟨a,ha⟩:=h.at_ hb
 rw[hw.has _ _ (zJ_ ha)] at ho
 rw[qd_ ha];exact ho
end
end Go.Sx
namespace Go.Sx
open Go
section
variable {α β:Type} [BEq α] [LawfulBEq α] (encK:α→Value) (encV:β→Value)
def fndG (k:α):List (α×β)→Nat→Option (Nat×β)
 | [],_=>none
 |p::r,i=>if k==p.1 then some (i,p.2) else fndG k r (i+1)
def updG (k:α) (v:β):List (α×β)→List (α×β)
 | []=> [(k,v)]
 |p::r=>if k==p.1 then(p.1,v)::r else p::updG k v r
def getG (k:α) (z:β) (m:List (α×β)):β:=match m.find? fun p=>k==p.1 with|some p=>p.2|none=>z
def Jb_ (p:α×β):Value×Value:=(encK p.1,encV p.2)
def MapG (o:Obj) (m:List (α×β)):Prop:= ∃es clock,o= .map es clock∧es.toList.map (fun e=>(e.key,e.val))=m.map (Jb_ encK encV)∧(es.toList.map (·.born)++ [clock]).Pairwise (· < ·)
structure KeyOk (P:Program) (kt:TypeId) (encK:α→Value):Prop where
 find: ∀ {β:Type} (encV:β→Value) (w:World) (k:α) (es:List MapEntry) (m:List (α×β)),es.map (fun e=>(e.key,e.val))=m.map (Jb_ encK encV)→(Instr.findKey kt (encK k) es).run P w= .ok ((fndG k m 0).map fun p=>(p.1,encV p.2)) w
 check: ∀ (w:World) (e:Bool) (k:α),(Instr.checkKey e 10000 kt (encK k)).run P w= .ok () w
 bits: ∀k,Instr.sameBits 10000 (encK k) (encK k)=true
variable {encK encV}
omit [LawfulBEq α] in
theorem WL_ {kd:TypeDesc} (hs: ∀a b,Instr.sameNow kd (encK a) (encK b)=some (a==b)) (k:α): ∀ (es:List MapEntry) (m:List (α×β)) (i:Nat),es.map (fun e=>(e.key,e.val))=m.map (Jb_ encK encV)→
  Instr.findNow kd (encK k) es i=some ((fndG k m i).map fun p=>(p.1,encV p.2))
 | [],[],i,_=>rfl
 | [],_::_,_,h=>by cases h
 |_::_,[],_,h=>by cases h
 |e::es,p::m,i,h=>by
  simp only[List.map_cons,List.cons.injEq,Jb_,Prod.mk.injEq] at h
  obtain⟨⟨h1,h2⟩,h3⟩:=h
  unfold Instr.findNow
  have hs:Instr.sameNow kd (encK k) e.key=some (k==p.1):=by rw[h1,hs]
  rw[hs]
  unfold fndG
  cases hk: (k==p.1)
  ·simp only[Bool.false_eq_true, ↓reduceIte]
   exact WL_ ‹_› k es m (i+1) h3
  ·simp[h2]
theorem JO_ (k:α): ∀ (m:List (α×β)) (i j:Nat) (v:β),fndG k m i=some (j,v)→i≤j∧ ∃a,m[j - i]? =some (k,a)∧a=v
 | [],_,_,_,h=>by cases h
 |p::r,i,j,v,h=>by
  unfold fndG at h
  split at h
  ·rename_i hk
   cases h
   refine⟨Nat.le_refl _,p.2, ?_,rfl⟩
   rw[Nat.sub_self,List.getElem?_cons_zero,eq_of_beq hk]
  ·obtain⟨h1,a,h2,h3⟩:=JO_ k r (i+1) j v h
   refine⟨by omega,a, ?_,h3⟩
   rw[show j - i=(j - (i+1))+1 by omega,List.getElem?_cons_succ];exact h2
theorem WC_ (k:α) (v:β): ∀ (es:List MapEntry) (m:List (α×β)) (i j:Nat) (a:β),es.map (fun e=>(e.key,e.val))=m.map (Jb_ encK encV)→fndG k m i=some (j,a)→
  (es.modify (j - i) fun e=>{e with key:=encK k,val:=encV v}).map (fun e=>(e.key,e.val))=(updG k v m).map (Jb_ encK encV)
 | [],[],_,_,_,_,h=>by cases h
 | [],_::_,_,_,_,h,_=>by cases h
 |_::_,[],_,_,_,h,_=>by cases h
 |e::es,p::m,i,j,a,h,hf=>by
  simp only[List.map_cons,List.cons.injEq,Jb_,Prod.mk.injEq] at h
  obtain⟨⟨h1,h2⟩,h3⟩:=h
  unfold fndG at hf
  unfold updG
  split at hf
  ·rename_i hk
   cases hf
   rw[if_pos hk,Nat.sub_self]
   simp only[List.modify_zero_cons,List.map_cons,Jb_,eq_of_beq hk]
   rw[h3]
  ·rename_i hk
   have hle:=(JO_ k m (i+1) j a hf).1
   rw[if_neg hk,show j - i=(j - (i+1))+1 by omega]
   simp only[List.modify_succ_cons,List.map_cons,Jb_]
   rw[WC_ k v es m (i+1) j a h3 hf,h1,h2]
omit [LawfulBEq α] in
theorem aaN_ (k:α) (v:β): ∀ (m:List (α×β)) (i:Nat),fndG k m i=none→updG k v m=m++ [(k,v)]
 | [],_,_=>rfl
 |p::r,i,h=>by
  unfold fndG at h
  split at h
  ·cases h
  ·rename_i hk
   unfold updG
   rw[if_neg hk,aaN_ k v r (i+1) h];rfl
omit [LawfulBEq α] in
theorem Wl_ (k:α): ∀ (m:List (α×β)) (i:Nat),(fndG k m i).map Prod.snd=(m.find? fun p=>k==p.1).map Prod.snd
 | [],_=>rfl
 |p::r,i=>by
  unfold fndG
  rw[List.find?_cons]
  cases h: (k==p.1)
  ·simp only[Bool.false_eq_true, ↓reduceIte];exact Wl_ k r (i+1)
  ·rfl
theorem akI_ {k:α} {m:List (α×β)} {es:List MapEntry} {j:Nat} {a:β} (h:es.map (fun e=>(e.key,e.val))=m.map (Jb_ encK encV)) (hf:fndG k m 0=some (j,a)): ∃e,es[j]? =some e∧e.key=encK k:=by
 obtain⟨-,a',h1,rfl⟩:=JO_ k m 0 j a hf
 rw[Nat.sub_zero] at h1
 have:=congrArg (·[j]?) h
 simp only[List.getElem?_map,h1,Option.map_some] at this
 cases he:es[j]? with
 |none=>rw[he] at this;cases this
 |some e=>
  rw[he] at this
  simp only[Option.map_some,Option.some.injEq,Jb_,Prod.mk.injEq] at this
  exact⟨e,rfl,this.1⟩
theorem KeyOk.int {P:Program} {kt:TypeId} {k0:IntKind} (hu:P.underlying kt=some (.int k0)):KeyOk P kt vi where
 find encV w k es m h:=by
  simp only[Instr.findKey,Sem.run_bind,run_underlying hu w,Result.andThen_ok]
  rw[WL_ (encK:=vi) (fun a b=>by simp[Instr.sameNow,vi]) k es m 0 h]
  rfl
 check w e k:=by
  unfold Instr.checkKey
  simp only[Sem.run_bind,run_underlying hu w,Result.andThen_ok]
  rfl
 bits k:=by simp[vi,Instr.sameBits]
variable {P:Program} {w0:World} {f:Fr} {L:zd_} {N:Fr→zd_→Prop} {ops:Array Oper} {rest:List Oper} {md:Md}
 {d:Option Tmp} {ty:TypeId} {ps:String} {af:Array Edge} {g:Option (Nat×Bool)}
omit [BEq α] [LawfulBEq α] in
theorem Ow.makeMapG {t:TypeId} {md':Md} (he:md.turn=some md') (hs:zl_ ops f ⟨d, .makeMap t none,ty,ps,af,g⟩=false)
  (hn: ∀b o,xa_ L b→w0.heap.size≤b→MapG encK encV o []→Ow P w0 ops md' rest (qz_ f d (vm b)) (L++ [(b,o)]) N):
  Ow P w0 ops md (⟨d, .makeMap t none,ty,ps,af,g⟩::rest) f L N:=by
 refine Ow.step he rfl hs fun w hw=> .inl ⟨vm w.heap.size,w.alloc (.map #[] 0),_, ?_,hw.alloc _,hn _ _ (qq_ fun b hb=>hw.lt hb) hw.size ⟨#[],0,rfl,rfl,List.pairwise_singleton _ _⟩⟩
 simp only[execOp,Instr.makeMap,Sem.run_bind,Option.map_none]
 rfl
theorem Ow.mapUpdateG {t kt vt:TypeId} {x y z:Operand} {b:Nat} {o:Obj} {m:List (α×β)} {k:α} {v:β} {md':Md} (he:md.turn=some md') (hs:zl_ ops f ⟨d, .mapUpdate t x y z,ty,ps,af,g⟩=false) (hu:P.underlying t=some (.map kt vt)) (hk:KeyOk P kt encK)
  (hx:ev f x=vm b) (hy:ev f y=encK k) (hz:ev f z=encV v) (hl:look L b=some o) (hm:MapG encK encV o m)
  (hn: ∀o',MapG encK encV o' (updG k v m)→Ow P w0 ops md' rest (qz_ f d undef) (setB L b o') N):
  Ow P w0 ops md (⟨d, .mapUpdate t x y z,ty,ps,af,g⟩::rest) f L N:=by
 obtain⟨es,c,rfl,hes,hbo⟩:=hm
 refine Ow.step he rfl hs fun w hw=> ?_
 have hb:=hw.has _ _ (zJ_ hl)
 have hfk:=hk.find encV w k es.toList m hes
 cases hf:fndG k m 0 with
 |none=>
  rw[hf] at hfk
  refine .inr (.inl ⟨{w with heap:=w.heap.setIfInBounds b (.map (es.push {key:=encK k,val:=encV v,born:=c}) (c+1))},_, ?_,hw.set (zw_ hl) rfl rfl rfl rfl,hn _ ⟨_,_,rfl, ?_,by rw[Array.toList_push];exact aaj_ hbo rfl⟩⟩)
  ·have: (Instr.mapUpdate t (vm b) (encK k) (encV v)).run P w= .ok () {w with heap:=w.heap.setIfInBounds b (.map (es.push {key:=encK k,val:=encV v,born:=c}) (c+1))}:=by
    simp only[Instr.mapUpdate,vm,Sem.run_bind,run_underlying hu w,Result.andThen_ok,x1_ hb,hk.check,hfk,Option.map_none,wn_ hb]
   simp only[execOp,Sem.run_bind,hx,hy,hz]
   rw[this];rfl
  ·rw[aaN_ k v m 0 hf,Array.toList_push,List.map_append,hes,List.map_append];rfl
 |some p=>
  obtain⟨j,a⟩:=p
  rw[hf] at hfk
  obtain⟨e,hej,hek⟩:=akI_ hes hf
  have hej':es[j]? =some e:=by simpa using hej
  have hkt: (Instr.keyThatStays (((es[j]?).map (·.key)).getD (encK k)) (encK k)).run P w= .ok (encK k) w:=by
   rw[hej',Option.map_some,Option.getD_some,hek]
   unfold Instr.keyThatStays
   rw[if_pos (hk.bits k)];rfl
  refine .inr (.inl ⟨{w with heap:=w.heap.setIfInBounds b (.map (es.modify j fun e=>{e with key:=encK k,val:=encV v}) c)},_, ?_,hw.set (zw_ hl) rfl rfl rfl rfl,hn _ ⟨_,_,rfl, ?_,by rw[Array.toList_modify,JN_ (g:=fun e=>{e with key:=encK k,val:=encV v}) fun _=>rfl];exact hbo⟩⟩)
  ·have: (Instr.mapUpdate t (vm b) (encK k) (encV v)).run P w= .ok () {w with heap:=w.heap.setIfInBounds b (.map (es.modify j fun e=>{e with key:=encK k,val:=encV v}) c)}:=by
    simp only[Instr.mapUpdate,vm,Sem.run_bind,run_underlying hu w,Result.andThen_ok,x1_ hb,hk.check,hfk,Option.map_some,hkt,wn_ hb]
   simp only[execOp,Sem.run_bind,hx,hy,hz]
   rw[this];rfl
  ·rw[Array.toList_modify]
   have:=WC_ k v es.toList m 0 j a hes hf
   rw[Nat.sub_zero] at this
   exact this
omit [LawfulBEq α] in
theorem Ow.mapGetG {t kt vt:TypeId} {x y:Operand} {b:Nat} {o:Obj} {m:List (α×β)} {k:α} {z:β} {md':Md} (he:md.turn=some md') (hs:zl_ ops f ⟨d, .lookup t x y false,ty,ps,af,g⟩=false) (hu:P.underlying t=some (.map kt vt)) (hk:KeyOk P kt encK)
  (hz:zK_ P vt=some (encV z)) (hx:ev f x=vm b) (hy:ev f y=encK k) (hl:zy_ w0 L b=some o) (hm:MapG encK encV o m)
  (hn:Ow P w0 ops md' rest (qz_ f d (encV (getG k z m))) L N):
  Ow P w0 ops md (⟨d, .lookup t x y false,ty,ps,af,g⟩::rest) f L N:=by
 obtain⟨es,c,rfl,hes,-⟩:=hm
 refine Ow.step he rfl hs fun w hw=> ?_
 have hb:=hw.read hl
 have hfk:=hk.find encV w k es.toList m hes
 refine .inl ⟨encV (getG k z m),w,L, ?_,hw,hn⟩
 have hff:=Wl_ k m 0
 have: (Instr.lookup t (vm b) (encK k) false).run P w= .ok (encV (getG k z m)) w:=by
  cases hf:fndG k m 0 with
  |none=>
   rw[hf] at hfk hff
   have hg:getG k z m=z:=by
    unfold getG
    cases h:m.find? fun p=>k==p.1 with
    |none=>rfl
    |some q=>rw[h] at hff;cases hff
   simp only[Instr.lookup,vm,Sem.run_bind,run_underlying hu w,Result.andThen_ok,x1_ hb,Sem.run_pure,hk.check,hfk,Option.map_none,xC_ hz w,hg,Bool.false_eq_true, ↓reduceIte]
  |some p=>
   obtain⟨j,a⟩:=p
   rw[hf] at hfk hff
   have hg:getG k z m=a:=by
    unfold getG
    cases h:m.find? fun p=>k==p.1 with
    |none=>rw[h] at hff;cases hff
    |some q=>rw[h] at hff;simp only[Option.map_some,Option.some.injEq] at hff;exact hff.symm
   simp only[Instr.lookup,vm,Sem.run_bind,run_underlying hu w,Result.andThen_ok,x1_ hb,Sem.run_pure,hk.check,hfk,Option.map_some,hg,Bool.false_eq_true, ↓reduceIte]
 simp only[execOp,Sem.run_bind,hx,hy]
 rw[this];rfl
end
section
variable {P:Program} {w0:World} {f:Fr} {L:zd_} {N:Fr→zd_→Prop} {ops:Array Oper} {rest:List Oper} {md:Md} {d:Option Tmp} {ty:TypeId} {ps:String} {af:Array Edge} {g:Option (Nat×Bool)}
theorem Ow.callFnXC {x y:Operand} {b:Value} {cap ars:Array Value} (ha: #[b]++cap=ars) {ts:Array TypeId} {k:FuncId} {X Y:zd_} {S:Value→zd_→Prop} {md':Md} (hL:L=X++Y) (he:md.turn=some md')
  (hs:zl_ ops f ⟨d, .call ⟨.value x, #[y],ts⟩,ty,ps,af,g⟩=false)
  (hx:ev f x= .func (.func k) #[] cap) (hy:ev f y=b)
  (hk: ∀a w,(callFunc k a).run P w= .ok (.enter k a) w)
  (hc: ∀w,Hp w0 L w→(∀p,p∈X→w.heap[p.1]? =some p.2)→(keys X).Nodup→Rets P k ars w (XS w X S))
  (hn: ∀v D,Came w0 L X D→S v D→Ow P w0 ops md' rest (qz_ f d v) (D++Y) N):
  Ow P w0 ops md (⟨d, .call ⟨.value x, #[y],ts⟩,ty,ps,af,g⟩::rest) f L N:=by
 subst hL
 have hnd: ∀w,Hp w0 (X++Y) w→(keys X).Nodup∧ ∀c,c∈keys Y→c∉keys X:=by
  intro w hw
  have:=hw.nodup
  rw[zj_,List.nodup_append] at this
  exact⟨this.1,fun c hc hx=>this.2.2 c hx c hc rfl⟩
 refine Ow.call (S:=fun B v D=>((∀c,c∈keys D→c∈keys X∨B≤c)∧(∀c,c∈keys X→c∈keys D)∧S v D)∧ ∃w,Hp w0 (X++Y) w∧w.heap.size=B) he hs hx hk (fun w hw=> ?_) ?_
 ·show Rets P k (#[]++ #[y].map (ev f)++cap) w _
  rw[show(#[]++ #[y].map (ev f)++cap:Array Value)=ars by rw[←ha];simp[hy]]
  refine Calls.mono (hc w hw (fun p hp=>hw.has _ _ (List.mem_append_left _ hp)) (hnd w hw).1) ?_
  rintro e w' ⟨v,D,he,hp,hS⟩
  exact⟨v,D,he,hp,⟨hS.1.new,hS.1.all,hS.2⟩,w,hw,rfl⟩
 ·rintro B v D hab hB ⟨⟨h1,h2,h3⟩,w1,hw1,hwB⟩
  refine⟨D++Y, ?_,hn v D ⟨fun c hc=>(h1 c hc).imp id fun h=>⟨qq_ fun b hb=>by have:=hw1.lt hb;omega,by have:=hw1.size;omega⟩,h2⟩ h3⟩
  intro w w' hwb h k
  have ht:=h.trans k
  have hY: ∀c,c∈keys Y→c∉keys D:=by
   intro c hc hd
   rcases h1 c hd with hx|hx
   ·exact(hnd w h).2 c hc hx
   ·have:=h.lt (b:=c) (by rw[zj_];exact List.mem_append_right _ hc)
    omega
  have e1:X.filter (fun p=> !(keys D).contains p.1)= []:=by
   rw[List.filter_eq_nil_iff]
   intro p hp
   have:=h2 p.1 (List.mem_map.2 ⟨p,hp,rfl⟩)
   simpa using this
  have e2:Y.filter (fun p=> !(keys D).contains p.1)=Y:=jk_ hY
  rw[List.filter_append,e1,e2,List.nil_append] at ht
  refine ht.same (fun p=>by simp[or_comm]) ?_
  have:=ht.nodup
  rw[zj_] at this ⊢
  exact(List.perm_append_comm.nodup_iff).1 this
end
end Go.Sx
namespace Go.Sx
open Go
section
variable {P:Program} {w0:World} {l:List Oper} {R ts:List Nat} {n:Nat} {listed:List Bool} {f:Fr} {L:zd_} {N:Fr→zd_→Prop}
def OwG (P:Program) (w0:World) (l:List Oper) (R ts:List Nat) (n:Nat) (listed:List Bool) (f:Fr) (L:zd_) (N:Fr→zd_→Prop):Prop:=
 ∀w,Hp w0 L w→xI_ P l.toArray (jC_ w0 N) ts (SR w0 R L) n listed.toArray (act f) w
theorem Cw.regionG {id:Nat} {K:xF_} (R ts:List Nat) (m:Nat) (hl:l.length=m) (hm:P.follows .mixedOrders=true) (h:OwG P w0 l R ts m (List.replicate m false) f L (K .normal)):Cw P w0 (.region id l.toArray true) f L K:=by
 intro w hw
 subst hl
 refine wp_mono (wp_region_any hm ?_) fun _ _ _ h=>xj_ h
 have:=va_ _ _ _ _ (h _ hw.drew)
 simpa using this
def chkG (P:Program) (l:List Oper) (ts:List Nat):List Nat→List Bool→Option (List Bool)
 | [],listed=>some listed
 |k::is,listed=>
  match kT_ l k with
  |some o=>if !ts.contains k&& (ts.all fun t=> !listed.toArray.getD t true)&& (Region.ready .any l.toArray listed.toArray).contains k&&Region.free .any l.toArray listed.toArray k&&
    (xb_ P o.op|| (XF_ o.op&&Ja_ l.toArray ts listed.toArray k)) then chkG P l ts is (listed.set k true) else none
  |none=>none
theorem OwG.step {k:Nat} {o:Oper} {v:Value} (hns:Region.noSelect l.toArray=true) (hk:kT_ l k=some o) {rest:List Bool} (hc:chkG P l ts [k] listed=some rest)
  (hY:YieldsC P l.toArray (SR w0 R L) (xb_ P o.op=true) o v (act f)) (h:OwG P w0 l R ts n rest (qz_ f o.dst v) L N):OwG P w0 l R ts (n+1) listed f L N:=by
 have hoi:l.toArray[k]? =some o:=by rw[xf_] at hk;simpa using hk
 unfold chkG at hc
 rw[hk] at hc
 simp only at hc
 split at hc
 ·rename_i hcc
  simp only[chkG,Option.some.injEq] at hc
  subst hc
  simp only[Bool.and_eq_true,Bool.or_eq_true,Bool.not_eq_true',List.all_eq_true,List.contains_eq_mem,decide_eq_true_eq,decide_eq_false_iff_not] at hcc
  obtain⟨⟨⟨⟨c2,c3⟩,c4⟩,c5⟩,c9⟩:=hcc
  have hsel:=Region.noSelect_spec hns
  intro w hw
  refine vn_ hoi c2 hsel (fun c a w h=>zV_ h) _ _ _ _ (xQ_ (P:=P) hoi c4 c5 (c9.imp id fun h=>⟨h.1,h.2,fun t ht=>c3 t ht⟩)) (.inr fun t ht=>c3 t ht) hY ?_
  rw[z5_,ql_]
  exact h w hw
 ·cases hc
theorem aiF_ {k:Nat} {is:List Nat} {listed listed':List Bool} (h:chkG P l ts (k::is) listed=some listed'):chkG P l ts [k] listed=some (listed.set k true)∧chkG P l ts is (listed.set k true)=some listed':=by
 rw[chkG] at h
 cases ho:kT_ l k with
 |none=>rw[ho] at h;cases h
 |some o=>
  rw[ho] at h
  simp only at h
  split at h
  ·rename_i hcc
   refine⟨?_,h⟩
   rw[chkG,ho]
   simp only
   rw[if_pos hcc];rfl
  ·cases h
theorem OwG.runs {k:Md→List Oper→Fr→zd_→Prop} (hns:Region.noSelect l.toArray=true): ∀ (is:List Nat) {listed listed':List Bool} {f:Fr} {L:zd_},chkG P l ts is listed=some listed'→
  (∀md r f' L',k md r f' L'→r= []∧OwG P w0 l R ts n listed' f' L' N)→vcL P w0 l.toArray false (.sof R [] []) (xE_ l is) f L k→OwG P w0 l R ts (is.length+n) listed f L N
 | [],listed,listed',f,L,hc,hk,h=>by
  cases hc
  rw[List.length_nil,Nat.zero_add]
  exact(hk _ _ _ _ h).2
 |i::is,listed,listed',f,L,hc,hk,h=>by
  obtain⟨hc1,hc2⟩:=aiF_ hc
  rw[zb_] at h
  cases ho:kT_ l i with
  |none=>unfold chkG at hc1;rw[ho] at hc1;cases hc1
  |some o=>
   rw[ho,za_] at h
   unfold vcL at h
   rw[List.length_cons,show is.length+1+n=(is.length+n)+1 by omega]
   cases hs:zl_ l.toArray f o with
   |true=>
    rw[hs] at h
    have hw0:Region.wanted o (yielded l.toArray (act f).tmps)=false:=by rw[qn_,hs];rfl
    exact OwG.step hns ho hc1 (v:=undef) (.inr ⟨hw0,rfl⟩) (OwG.runs hns is hc2 hk h)
   |false=>
    rw[hs] at h
    have hw0:Region.wanted o (yielded l.toArray (act f).tmps)=true:=by rw[qn_,hs];rfl
    simp only[ib,vcB] at h
    split at h
    ·cases hrd:Vy_ (.sof R [] []) f o.op with
     |false=>rw[hrd] at h;exact absurd (hk _ _ _ _ h).1 (by simp)
     |true=>
      rw[hrd] at h
      simp only at h
      cases hv:kO_ P w0 L f o.op with
      |none=>rw[hv] at h;exact absurd (hk _ _ _ _ h).1 (by simp)
      |some v=>
       rw[hv] at h
       refine OwG.step hns ho hc1 (v:=v) (.inl ⟨hw0,fun w hw=> ?_⟩) (OwG.runs hns is hc2 hk h)
       rw[jD_]
       rcases hw with hp|hw
       ·exact q6_ (Hp.refl w) (x5_ hp hv w)
       ·exact q6_ (Hp.refl w) (w5_ hrd hv hw)
    ·exact absurd (hk _ _ _ _ h).1 (by simp)
    ·exact absurd (hk _ _ _ _ h).1 (by simp)
theorem OwG.run (is:List Nat) (listed':List Bool) (n:Nat) {m:Nat} (hm:m=is.length+n) (hns:Region.noSelect l.toArray=true) (hc:chkG P l ts is listed=some listed')
  (h: ∀k:Md→List Oper→Fr→zd_→Prop,(∀md f L,OwG P w0 l R ts n listed' f L N→k md [] f L)→nl (xE_ l is) fun l'=>vcL P w0 l.toArray false (.sof R [] []) l' f L k):OwG P w0 l R ts m listed f L N:=by
 subst hm
 refine OwG.runs (k:=fun _ r f' L'=>r= []∧OwG P w0 l R ts n listed' f' L' N) hns is hc (fun _ _ _ _ h=>h) ?_
 exact h _ fun _ _ _ h=>⟨rfl,h⟩
def adY_ (l:List Oper) (ts:List Nat) (ks:List Nat) (listed:List Bool):Bool:=
 ((Region.ready .any l.toArray listed.toArray).all fun i=>ks.contains i)&& (Region.ready .any l.toArray listed.toArray != [])&&ks.all fun k=> !ts.contains k
theorem OwG.softs (ks:List Nat) (hs:adY_ l ts ks listed=true)
  (h: ∀k,k∈ks→ ∀o,kT_ l k=some o→Ow P w0 l.toArray .seq [o] f L (fun f' L'=>(∀r,r∈R→zy_ w0 L' r=zy_ w0 L r)∧OwG P w0 l R ts n (listed.set k true) f' L' N)):
  OwG P w0 l R ts (n+1) listed f L N:=by
 unfold adY_ at hs
 simp only[Bool.and_eq_true,List.all_eq_true,bne_iff_ne,ne_eq,List.contains_eq_mem,decide_eq_true_eq,Bool.not_eq_true',decide_eq_false_iff_not] at hs
 obtain⟨⟨c3,c4⟩,c6⟩:=hs
 intro w hw
 refine⟨fun _=>SR.of hw,fun hr=>absurd hr c4,fun i hi=> ?_⟩
 have hik:=c3 i hi
 obtain⟨-,oi,hoi,-⟩:=mem_ready.1 hi
 have hni:kT_ l i=some oi:=by rw[xf_];simpa using hoi
 refine wS_ hoi (X:=xI_ P l.toArray (jC_ w0 N) ts (SR w0 R L) n (listed.toArray.setIfInBounds i true)) ?_ hw
 intro w' hw'
 have h1:=h i hik oi hni w' hw'
 refine kF_ ?_ h1
 rintro f' L' ⟨hS,hO⟩ w'' hw''
 rw[wl_ hS,ql_]
 exact hO w'' hw''
theorem OwG.one (i:Nat) (oi:Oper) (hs:adY_ l ts [i] listed=true) (hi:kT_ l i=some oi)
  (h:Ow P w0 l.toArray .seq [oi] f L (fun f' L'=>(∀r,r∈R→zy_ w0 L' r=zy_ w0 L r)∧OwG P w0 l R ts n (listed.set i true) f' L' N)):OwG P w0 l R ts (n+1) listed f L N:=
 OwG.softs [i] hs fun k hk o ho=>by
  rw[List.mem_singleton] at hk
  subst hk
  rw[hi] at ho
  cases ho
  exact h
theorem OwG.two (i j:Nat) (oi oj:Oper) (hs:adY_ l ts [i,j] listed=true) (hi:kT_ l i=some oi) (hj:kT_ l j=some oj)
  (h1:Ow P w0 l.toArray .seq [oi] f L (fun f' L'=>(∀r,r∈R→zy_ w0 L' r=zy_ w0 L r)∧OwG P w0 l R ts n (listed.set i true) f' L' N))
  (h2:Ow P w0 l.toArray .seq [oj] f L (fun f' L'=>(∀r,r∈R→zy_ w0 L' r=zy_ w0 L r)∧OwG P w0 l R ts n (listed.set j true) f' L' N)):OwG P w0 l R ts (n+1) listed f L N:=
 OwG.softs [i,j] hs fun k hk o ho=>by
  simp only[List.mem_cons,List.not_mem_nil,or_false] at hk
  rcases hk with rfl|rfl
  ·rw[hi] at ho;cases ho;exact h1
  ·rw[hj] at ho;cases ho;exact h2
theorem OwG.permL {M:zd_} (hp:M.Perm L) (hR: ∀r,r∈R→zy_ w0 M r=zy_ w0 L r) (h:OwG P w0 l R ts n listed f M N):OwG P w0 l R ts n listed f L N:=by
 intro w hw
 rw[wl_ hR]
 exact h w (hw.perm hp)
def an3_ (P:Program) (l:List Oper) (is ts:List Nat) (listed:List Bool):Bool:=
 Region.noSelect l.toArray&&QF_ P l.toArray ts is listed.toArray&&ts.all fun t=> !listed.toArray.getD t true
theorem OwG.rest (is:List Nat) {m:Nat} (hm:m=is.length) (hB:an3_ P l is ts listed=true) (hl:is.map (fun i:Nat=>l[i]?)=(xE_ l is).map some)
  (h:nl (xE_ l is) fun l'=>Ow P w0 l.toArray (.sof R is ts) l' f L N):OwG P w0 l R ts m listed f L N:=by
 subst hm
 revert hl h
 generalize xE_ l is=l'
 intro hl h w hw
 simp only[an3_,Bool.and_eq_true,List.all_eq_true,Bool.not_eq_true'] at hB
 obtain⟨⟨h1,h4⟩,h5⟩:=hB
 have hlen:is.length=l'.length:=by have:=congrArg List.length hl;simpa using this
 have hF:Fits P l.toArray ts is l' listed.toArray:=⟨hlen,fun j=>by
  have:=congrArg (·[j]?) hl
  simp only[List.getElem?_map] at this
  cases hj:is[j]? with
  |none=>
   rw[hj] at this
   simp only[Option.map_none] at this
   cases hj':l'[j]? with
   |none=>rfl
   |some x=>rw[hj'] at this;cases this
  |some i=>
   rw[hj] at this
   simp only[Option.map_some] at this
   cases hj':l'[j]? with
   |none=>rw[hj'] at this;cases this
   |some x=>
    rw[hj'] at this
    simp only[Option.map_some,Option.some.injEq] at this
    simp[this],h1,h4⟩
 rw[hlen]
 exact(h:Ow P w0 l.toArray (.sof R is ts) l' f L N) listed.toArray hF (fun t ht=>h5 t ht) w hw
end
def CutO {G:Type} (M:List Nat) (S:G→List (Nat×Value)) (H:G→zd_) (J:G→Prop) (f f':Fr) (L':zd_):Prop:=
 ∃g,J g∧L'=H g∧f'=pin (qR_ (wA_ f') M 0 f) (S g)
theorem CutO.mk {G:Type} {M:List Nat} {S:G→List (Nat×Value)} {H:G→zd_} {J:G→Prop} {f f':Fr} {L':zd_} (g:G) (hJ:J g) (hL:L'=H g) (hf:f'=pin (qR_ (wA_ f') M 0 f) (S g)):CutO M S H J f f' L':=⟨g,hJ,hL,hf⟩
theorem Cw.cutO {P:Program} {w0:World} {x y:Code} {f:Fr} {L:zd_} {K:xF_} {G:Type} (M:List Nat) (S:G→List (Nat×Value)) (H:G→zd_) (J:G→Prop) (h1:Cw P w0 x f L (vK_ (CutO M S H J f) K))
  (h2: ∀ (g:G) (j:Nat→Value),J g→Cw P w0 y (pin (qR_ j M 0 f) (S g)) (H g) K):Cw P w0 (.seq x y) f L K:=by
 refine Cw.seq (h1.mono fun e f' L' k=> ?_)
 cases e with
 |normal=>
  obtain⟨g,hJ,rfl,hf⟩:=k
  have:=h2 g (wA_ f') hJ
  rw[←hf] at this
  exact this
 |_=>exact k
end Go.Sx
section
open Go Go.Proofs Go.Sx Go.StP
namespace Go.Proofs
set_option maxRecDepth 10000
set_option maxHeartbeats 1000000
set_option linter.unusedSimpArgs false
theorem Q1_ (s:List UInt8) (v1:Value) (F:List Nat) (n d:Nat) (hd:d<F.length):zr_ (some (false,n)) (some (ixO s v1 F)) (2+d)=some (vi ((F.getD d 0:Nat):Int)):=by
 unfold ixO zr_
 simp only[List.getElem?_toArray]
 rw[List.getElem?_append_right (by simp),show 2+d - [vs s,v1].length=d from by simp,List.getElem?_map,List.getElem?_eq_getElem hd,List.getD_eq_getElem?_getD,List.getElem?_eq_getElem hd]
 rfl
theorem aiB_ (s:List UInt8) (v1:Value) (F:List Nat) (d x:Nat) (a:Bool) (hd:d<F.length):zp_ (some (a,1)) (some (ixO s v1 F)) (2+d) (vi (x:Int))=some (ixO s v1 (F.set d x)):=by
 have e1: ([vs s,v1]++ (F.map fun(n:Nat)=>vi (n:Int)))=([vs s,v1]++ (F.take d).map (fun(n:Nat)=>vi (n:Int)))++ ([vi ((F.getD d 0:Nat):Int)]++ (F.drop (d+1)).map (fun(n:Nat)=>vi (n:Int))):=by
  have hF:F=F.take d++ (F.getD d 0::F.drop (d+1)):=by rw[←drop_cons (z:=0) hd,List.take_append_drop]
  conv=>lhs;rw[hF]
  simp
 have e2: ([vs s,v1]++ ((F.set d x).map fun(n:Nat)=>vi (n:Int)))=([vs s,v1]++ (F.take d).map (fun(n:Nat)=>vi (n:Int)))++ ([vi (x:Int)]++ (F.drop (d+1)).map (fun(n:Nat)=>vi (n:Int))):=by
  rw[List.set_eq_take_append_cons_drop,if_pos hd]
  simp
 unfold ixO
 rw[e1,e2]
 exact z6_ _ [vi ((F.getD d 0:Nat):Int)] [vi (x:Int)] _ a _ 178 (by simp;omega) rfl rfl rfl rfl
theorem zrIx:zK_ Tryz.prog 178=some (.agg ([vs [], .slice none 0 0]++ (List.replicate 16 0).map fun(n:Nat)=>vi (n:Int)).toArray):=id (by kernel_rfl)
theorem apM_:kt_ Tryz.prog 178=some [(0,1),(1,1),(2,16)]:=id (by kernel_rfl)
theorem akp_ {w:World} {v1:Value} {l:List RwL} (s:List UInt8) (hv:Xt_ w v1 l):qg_ (kt_ Tryz.prog 178) (zK_ Tryz.prog 178) [(0,vs s),(1,v1)]=some (.agg ([vs s,v1]++ (x0_ []).map fun(n:Nat)=>vi (n:Int)).toArray):=by
 rw[apM_,zrIx]
 obtain⟨b,off,c,arr,E,fz,hr,hc,⟨rfl,rfl,rfl⟩ | ⟨rfl,hb,hsz⟩⟩:=hv<;>rfl
theorem ap9_ (s:List UInt8) (v1:Value) (F:List Nat):Obj.cells (Value.cells (.agg ([vs s,v1]++F.map fun(n:Nat)=>vi (n:Int)).toArray)) 178 (0,0)=ixO s v1 F:=(rfl)
theorem JV_ {l:List RwL} {k:Nat}: ∀ {n:Nat},k<n→wJ_ l n=true→wJ_ l (k+1)=true
 |0,h,_=>by omega
 |n+1,h,h'=>by
  by_cases hk:k=n
  ·subst hk;exact h'
  ·refine JV_ (n:=n) (by omega) ?_
   unfold wJ_ at h'
   simp only[Bool.and_eq_true] at h'
   exact h'.1.1
def OfIS (s:List UInt8) (v1:Value) (l:List RwL) (v:Value) (D:zd_):Prop:=
 if wJ_ l l.length=true then∃b,v= .tuple #[vp b 0, .bool (decide (s.length=4)&&decide (l.length≤200))]∧(b,ixO s v1 (x0_ l))∈D else v= .tuple #[.pointer none, .bool false]
structure OfG where
 k:Nat
 DG:zd_
set_option linter.defProp false
def zL_:=And.intro (And.intro (And.intro (@zg_) (@zf_)) (And.intro (@zI_) (And.intro (@jZ_) (@xm_)))) (And.intro (And.intro (@xM_) (@xT_)) (And.intro (@qL_) (And.intro (@Sx.tup2_0) (@Sx.tup2_1))))
theorem ad8_ (s:List UInt8) (v1:Value) (l:List RwL) (w:World) (hv:Xt_ w v1 l) (hl:l.length<1000000):
  Rets Tryz.prog 110 #[vs s,v1] w (XS w [] (OfIS s v1 l)):=by
 obtain⟨bb,off,arr,E,fz,hr⟩:=hv.row
 have ln:=hv.len
 refine Rets.enterX Tryz.func110 rfl (rs:= [.tmp 4, .tmp 5]) Tryz.results110 Tryz.ntmps110 (fun p hp=>by cases hp) (by simp[keys]) ?_
 refine kf ?_
 first|with_reducible refine ks [] @zL_ ?_|refine kp @zL_ ?_
 refine Ow.build _ rfl (akp_ s hv) ?_
 refine ko @zL_ ?_
 refine Ow.box rfl rfl fun b6 hb6 hw6=> ?_
 simp only[qi_,qe_,qc_,ap9_,List.nil_append]
 refine Ow.permL (M:= [(b6,ixO s v1 (x0_ []))]) (List.Perm.refl _) ?_
 refine ko @zL_ ?_
 first|with_reducible refine ks [] (And.intro @zL_ @ln) ?_|refine kp (And.intro @zL_ @ln) ?_
 rw[show x0_ []=x0_ (l.take 0) from rfl]
 refine Cw.loopG (G:=OfG) [17,18,19,20,8,7,21,22,23,24,25,26,27,28,29,30,31,32,33,34,35,36,37,38,39,40,41,42,43,44,45,46,47,48,49,50,51,52,4,5,53,54,55,9,56,57,60,61,62,63,64,65,66,67,68,69,58,59,70,16] (fun g=> [(16,vi g.k)]) (fun g=>(b6,ixO s v1 (x0_ (l.take g.k)))::g.DG) (fun g=>g.k≤l.length∧wJ_ l g.k=true∧New w.heap.size g.DG) (fun g=>l.length - g.k) ⟨0,[]⟩ rfl rfl ?_ ?_
 ·exact⟨Nat.zero_le _,rfl,trivial⟩
 intro g j hg
 refine kv ?_
 obtain⟨k,DG⟩:=g
 simp only at hg ⊢
 obtain⟨hk,hok,hNG⟩:=hg
 by_cases hlt:k<l.length
 ·have d1:decide ((k:Int)< (l.length:Int))=true:=decide_eq_true (by omega)
  have hbl:=hr.lt (by omega)
  have hNr:New w.heap.size ((b6,ixO s v1 (x0_ (l.take k)))::DG):=⟨hw6,hNG⟩
  have rd:zy_ w ((b6,ixO s v1 (x0_ (l.take k)))::DG) bb=some (.cells arr E fz):=by rw[qK_ (hNr.not hbl)];exact hr.has (by omega)
  have ix:=hr.idx true k hlt
  have ld:=hr.load zi_ (by omega) hlt
  first|with_reducible refine ks [11,1000005] (And.intro @zL_ (And.intro @d1 (And.intro @rd (And.intro @ix (@ld))))) ?_|refine kp (And.intro @zL_ (And.intro @d1 (And.intro @rd (And.intro @ix (@ld))))) ?_
  refine Ow.alloc rfl rfl Q9_ fun b8 hb8 hw8=> ?_
  simp only[ze_,List.nil_append,List.cons_append]
  have h68:b6<b8:=zk_ hb8 (by simp[keys])
  refine Ow.permL (M:=(b8, .cells (rwC rw0).toArray 104 (0,0)):: (b6,ixO s v1 (x0_ (l.take k)))::DG) (by classical exact List.perm_iff_count.2 fun a=>by simp only[List.count_append,List.count_cons,List.count_nil]<;>omega) ?_
  have htk:l.take (k+1)=l.take k++ [l.getD k rw0]:=take_snoc (z:=rw0) hlt
  have hok1:wJ_ l (k+1)=((decide (k=0) ||decide (cmpI (l.getD (k - 1) rw0).id (l.getD k rw0).id<0))&&qs_ (l.getD k rw0)):=by show(wJ_ l k&&_&&_)=_;rw[hok,Bool.true_and]
  have hno:wJ_ l (k+1)=false→ ¬wJ_ l l.length=true:=fun h h'=>by rw[JV_ hlt h'] at h;cases h
  generalize hrr:l.getD k rw0=r at*
  have hN8:New w.heap.size ((b8,Obj.cells (rwC r).toArray 104 (0,0)):: (b6,ixO s v1 (x0_ (l.take k)))::DG):=⟨hw8,hNr⟩
  have rd8:zy_ w ((b8,Obj.cells (rwC r).toArray 104 (0,0)):: (b6,ixO s v1 (x0_ (l.take k)))::DG) bb=some (.cells arr E fz):=by rw[qK_ (hN8.not hbl)];exact hr.has (by omega)
  refine ko @zL_ ?_
  refine Cw.cutO (G:=Unit) [21,22,23,24,25,26,27,28,29,30,31,32,33,34,35,36,37,38,39,40,41,42,43,44,45,46,47,48,49,50,51,52] (fun g=> []) (fun g=>(b8, .cells (rwC r).toArray 104 (0,0)):: (b6,ixO s v1 (x0_ (l.take k)))::DG) (fun g=>wJ_ l (k+1)=true) ?_ ?_
  ·rcases Nat.eq_zero_or_pos k with rfl|hk0
   ·have d5:decide ((0:Int)< ((0:Nat):Int))=false:=rfl
    have hok2:wJ_ l (0+1)=qs_ r:=by rw[hok1,decide_eq_true (rfl:0=0),Bool.true_or,Bool.true_and]
    first|with_reducible refine ks [] @zL_ ?_|refine kp @zL_ ?_
    refine Cw.regionS [b8,bb] [0,1,2,3,4,5,6,7,8,9,10,11,12,13,14,15,16,17,18,19,20,21,22,23,24,25,26,27,28,29,30,31] [] (by kernel_rfl) (by kernel_rfl) (by kernel_rfl) ?_
    simp only[zh_, ↓zc_, ↓zb_, ↓zn_, ↓zo_,za_]
    cases p1:decide (r.place<0) with
    |true=>
     have hbad:=hok2.trans (show qs_ r=false by simp[qs_,p1])
     refine kq (And.intro @zL_ (And.intro @d5 (@p1))) ?_
     first|with_reducible refine ks [] @zL_ ?_|refine kp @zL_ ?_
     refine⟨_,(ke @zL_), ?_⟩
     refine⟨Ext.of_new hN8, ?_⟩
     unfold OfIS
     rw[if_neg (hno hbad)]
     rfl
    |false=>
     cases p2:decide (1099511627775<r.place) with
     |true=>
      have hbad:=hok2.trans (show qs_ r=false by simp[qs_,p2])
      refine kq (And.intro @zL_ (And.intro @d5 (And.intro @p1 (@p2)))) ?_
      first|with_reducible refine ks [] @zL_ ?_|refine kp @zL_ ?_
      refine⟨_,(ke @zL_), ?_⟩
      refine⟨Ext.of_new hN8, ?_⟩
      unfold OfIS
      rw[if_neg (hno hbad)]
      rfl
     |false=>
      cases p3:decide (r.spot<0) with
      |true=>
       have hbad:=hok2.trans (show qs_ r=false by simp[qs_,p3])
       refine kq (And.intro @zL_ (And.intro @d5 (And.intro @p1 (And.intro @p2 (@p3))))) ?_
       first|with_reducible refine ks [] @zL_ ?_|refine kp @zL_ ?_
       refine⟨_,(ke @zL_), ?_⟩
       refine⟨Ext.of_new hN8, ?_⟩
       unfold OfIS
       rw[if_neg (hno hbad)]
       rfl
      |false=>
       cases p4:decide (1099511627775<r.spot) with
       |true=>
        have hbad:=hok2.trans (show qs_ r=false by simp[qs_,p4])
        refine kq (And.intro @zL_ (And.intro @d5 (And.intro @p1 (And.intro @p2 (And.intro @p3 (@p4)))))) ?_
        first|with_reducible refine ks [] @zL_ ?_|refine kp @zL_ ?_
        refine⟨_,(ke @zL_), ?_⟩
        refine⟨Ext.of_new hN8, ?_⟩
        unfold OfIS
        rw[if_neg (hno hbad)]
        rfl
       |false=>
        refine kq (And.intro @zL_ (And.intro @d5 (And.intro @p1 (And.intro @p2 (And.intro @p3 (@p4)))))) ?_
        exact CutO.mk () (by rw[hok2];simp[qs_,p1,p2,p3,p4]) rfl rfl
   ·have d5:decide ((0:Int)< (k:Int))=true:=decide_eq_true (by omega)
    have hki: (k:Int) - 1=((k - 1:Nat):Int):=by omega
    have ix':=hr.idx true (k - 1) (by omega)
    have ld':=hr.load zi_ (by omega) (k:=k - 1) (by omega)
    rw[decide_eq_false (show¬k=0 by omega),Bool.false_or] at hok1
    first|with_reducible refine ks [] @zL_ ?_|refine kp @zL_ ?_
    refine Cw.regionS [b8,bb] [0,1,2,3,4,5,6,7,8,9,10,11,12,13,14,15,16,17,18,19,20,21,22,23,24,25,26,27,28,29,30,31] [] (by kernel_rfl) (by kernel_rfl) (by kernel_rfl) ?_
    simp only[zh_, ↓zc_, ↓zb_, ↓zn_, ↓zo_,za_]
    refine kq (And.intro @zL_ (And.intro @d5 (And.intro @hki (And.intro @ix' (And.intro @ld' (@rd8)))))) ?_
    refine Ow.soft rfl rfl rfl ?_
    refine Ow.callFV rfl Tryz.call109 (fun w' hw'=>KL_ (l.getD (k - 1) rw0) r w') ?_
    with_reducible refine Ow.nil ?_
    refine⟨by intro b hb;simp only[List.mem_cons,List.not_mem_nil,or_false] at hb;(try subst hb);rfl, ?_⟩
    generalize cmpI (l.getD (k - 1) rw0).id r.id=c at*
    by_cases hc:c<0
    ·have d6:decide (0≤c)=false:=decide_eq_false (by omega)
     have hok2:wJ_ l (k+1)=qs_ r:=by rw[hok1,decide_eq_true hc,Bool.true_and]
     cases p1:decide (r.place<0) with
     |true=>
      have hbad:=hok2.trans (show qs_ r=false by simp[qs_,p1])
      refine kq (And.intro @zL_ (And.intro @d6 (@p1))) ?_
      first|with_reducible refine ks [] @zL_ ?_|refine kp @zL_ ?_
      refine⟨_,(ke @zL_), ?_⟩
      refine⟨Ext.of_new hN8, ?_⟩
      unfold OfIS
      rw[if_neg (hno hbad)]
      rfl
     |false=>
      cases p2:decide (1099511627775<r.place) with
      |true=>
       have hbad:=hok2.trans (show qs_ r=false by simp[qs_,p2])
       refine kq (And.intro @zL_ (And.intro @d6 (And.intro @p1 (@p2)))) ?_
       first|with_reducible refine ks [] @zL_ ?_|refine kp @zL_ ?_
       refine⟨_,(ke @zL_), ?_⟩
       refine⟨Ext.of_new hN8, ?_⟩
       unfold OfIS
       rw[if_neg (hno hbad)]
       rfl
      |false=>
       cases p3:decide (r.spot<0) with
       |true=>
        have hbad:=hok2.trans (show qs_ r=false by simp[qs_,p3])
        refine kq (And.intro @zL_ (And.intro @d6 (And.intro @p1 (And.intro @p2 (@p3))))) ?_
        first|with_reducible refine ks [] @zL_ ?_|refine kp @zL_ ?_
        refine⟨_,(ke @zL_), ?_⟩
        refine⟨Ext.of_new hN8, ?_⟩
        unfold OfIS
        rw[if_neg (hno hbad)]
        rfl
       |false=>
        cases p4:decide (1099511627775<r.spot) with
        |true=>
         have hbad:=hok2.trans (show qs_ r=false by simp[qs_,p4])
         refine kq (And.intro @zL_ (And.intro @d6 (And.intro @p1 (And.intro @p2 (And.intro @p3 (@p4)))))) ?_
         first|with_reducible refine ks [] @zL_ ?_|refine kp @zL_ ?_
         refine⟨_,(ke @zL_), ?_⟩
         refine⟨Ext.of_new hN8, ?_⟩
         unfold OfIS
         rw[if_neg (hno hbad)]
         rfl
        |false=>
         refine kq (And.intro @zL_ (And.intro @d6 (And.intro @p1 (And.intro @p2 (And.intro @p3 (@p4)))))) ?_
         exact CutO.mk () (by rw[hok2];simp[qs_,p1,p2,p3,p4]) rfl rfl
    ·have d6:decide (0≤c)=true:=decide_eq_true (by omega)
     have hbad:wJ_ l (k+1)=false:=by rw[hok1,decide_eq_false hc,Bool.false_and]
     refine kq (And.intro @zL_ @d6) ?_
     first|with_reducible refine ks [] @zL_ ?_|refine kp @zL_ ?_
     refine⟨_,(ke @zL_), ?_⟩
     refine⟨Ext.of_new hN8, ?_⟩
     unfold OfIS
     rw[if_neg (hno hbad)]
     rfl
  ·intro u ju hu
   refine kv ?_
   first|with_reducible refine ks [] @zL_ ?_|refine kp @zL_ ?_
   refine Ow.callFV rfl Tryz.call118 (fun w' hw'=>Xc_ r.id w') ?_
   refine ko @zL_ ?_
   rw[←aot_ (l.take k) r]
   refine Cw.loopG (G:=Nat) [56,57,60,61,62,63,64,65,66,67,68,69,58,59,9] (fun g=> [(9,vi g)]) (fun g=>(b8, .cells (rwC r).toArray 104 (0,0)):: (b6,ixO s v1 (V4_ (l.take k) r g))::DG) (fun g=>zT_ r.id≤g∧g≤16) (fun g=>16 - g) (zT_ r.id) rfl rfl ?_ ?_
   ·exact⟨Nat.le_refl _,Nat.le_of_lt (ad2_ _)⟩
   intro g j hg
   refine kv ?_
   obtain⟨hg1,hg2⟩:=hg
   by_cases hgl:g<16
   ·have d7:decide ((g:Int)<16)=true:=decide_eq_true (by omega)
    have lf:=fun n=>Q1_ s v1 (V4_ (l.take k) r g) n g (by rw[Q2_];exact hgl)
    rw[ajO_ _ _ hgl] at lf
    have h86:b8≠b6:=by omega
    have sf:=fun a=>aiB_ s v1 (V4_ (l.take k) r g) g (xP_ (l.take k) g+1) a (by rw[Q2_];exact hgl)
    rw[ale_ _ _ hgl hg1,show((xP_ (l.take k) g+1:Nat):Int)=((xP_ (l.take k) g:Nat):Int)+1 by omega] at sf
    have hfv:xP_ (l.take k) g≤k:=by
     have h1:xP_ (l.take k) g≤ (l.take k).length:=List.countP_le_length
     rw[List.length_take] at h1
     omega
    first|with_reducible refine ks [] (And.intro @zL_ @d7) ?_|refine kp (And.intro @zL_ @d7) ?_
    refine Cw.regionS [b6] [0,1,2,3,4,7,8,5,6,9,10] [10] (by kernel_rfl) (by kernel_rfl) (by kernel_rfl) ?_
    simp only[zh_, ↓zc_, ↓zb_, ↓zn_, ↓zo_,za_]
    refine kq (And.intro @zL_ @lf) ?_
    refine Ow.store rfl rfl rfl (ke (And.intro @zL_ @sf)) ?_
    refine ko @zL_ ?_
    first|with_reducible refine ks [] @zL_ ?_|refine kp @zL_ ?_
    exact Again.mk (G:=Nat) (g+1) (by show 16 - (g+1)<16 - g;omega) ⟨by omega,by omega⟩ rfl rfl
   ·obtain rfl:g=16:=by omega
    have d7:decide (((16:Nat):Int)<16)=false:=rfl
    rw[anf_,←htk]
    first|with_reducible refine ks [] @zL_ ?_|refine kp @zL_ ?_
    refine Cw.permL (M:=(b6,ixO s v1 (x0_ (l.take (k+1)))):: (b8, .cells (rwC r).toArray 104 (0,0))::DG) (by classical exact List.perm_iff_count.2 fun a=>by simp only[List.count_append,List.count_cons,List.count_nil]<;>omega) ?_
    first|with_reducible refine ks [] @zL_ ?_|refine kp @zL_ ?_
    exact Again.mk ⟨k+1,(b8, .cells (rwC r).toArray 104 (0,0))::DG⟩ (by show l.length - (k+1)<l.length - k;omega) ⟨hlt,hu,hw8,hNG⟩ rfl rfl
 ·obtain rfl:k=l.length:=by omega
  have d1:decide ((l.length:Int)< (l.length:Int))=false:=decide_eq_false (by omega)
  rw[List.take_length]
  by_cases h4:s.length=4
  ·have d2: ((s.length:Int)==4)=true:=by rw[h4];rfl
   first|with_reducible refine ks [] (And.intro @zL_ (And.intro @d1 (And.intro @d2 (@ln)))) ?_|refine kp (And.intro @zL_ (And.intro @d1 (And.intro @d2 (@ln)))) ?_
   refine⟨_,(ke @zL_), ?_⟩
   refine⟨Ext.of_new ⟨hw6,hNG⟩, ?_⟩
   unfold OfIS
   rw[if_pos hok]
   refine⟨b6, ?_,List.mem_cons_self⟩
   have e:decide ((l.length:Int)≤200)=decide (l.length≤200):=decide_eq_decide.2 (by omega)
   rw[decide_eq_true h4,Bool.true_and,←e];rfl
  ·have d2: ((s.length:Int)==4)=false:=beq_eq_false_iff_ne.2 (by omega)
   first|with_reducible refine ks [] (And.intro @zL_ (And.intro @d1 (And.intro @d2 (@ln)))) ?_|refine kp (And.intro @zL_ (And.intro @d1 (And.intro @d2 (@ln)))) ?_
   refine⟨_,(ke @zL_), ?_⟩
   refine⟨Ext.of_new ⟨hw6,hNG⟩, ?_⟩
   unfold OfIS
   rw[if_pos hok]
   exact⟨b6,by rw[decide_eq_false h4,Bool.false_and];rfl,List.mem_cons_self⟩
end Go.Proofs
end
section
open Go Go.Proofs Go.Sx Go.StP
namespace Go.Proofs
set_option maxRecDepth 10000
set_option maxHeartbeats 4000000
set_option linter.unusedSimpArgs false
structure ComL where
 tree:IdL
 par:List IdL
 text:List UInt8
def wy_ (t:IdL) (p:Value) (x:List UInt8):List Value:=t.l.map v8++ ([p]++ [vs x])
theorem aem_ (t:IdL) (p:Value) (x:List UInt8): (wy_ t p x).length=34:=by simp[wy_,t.h]
theorem kg_ (t:IdL) (p:Value) (x:List UInt8):Value.cells (.agg (wy_ t p x).toArray)=(wy_ t p x).toArray:=ze_ _
theorem wa_ (t:IdL) (p:Value) (x:List UInt8) (E:TypeId) (fz:Nat×Nat):zr_ (some (true,32)) (some (.cells (wy_ t p x).toArray E fz)) 0=some (.agg (a8 t.l)):=by
 unfold wy_;exact wx_ [] _ _ E fz rfl (by simp[t.h])
theorem v1_ (t:IdL) (p:Value) (x:List UInt8) (n:Nat) (E:TypeId) (fz:Nat×Nat):zr_ (some (false,n)) (some (.cells (wy_ t p x).toArray E fz)) 32=some p:=by
 unfold wy_;exact xW_ _ _ p n E fz (by simp[t.h])
theorem vU_ (t:IdL) (p:Value) (x:List UInt8) (n:Nat) (E:TypeId) (fz:Nat×Nat):zr_ (some (false,n)) (some (.cells (wy_ t p x).toArray E fz)) 33=some (vs x):=by
 have e:wy_ t p x=(t.l.map v8++ [p])++ ([vs x]++ []):=by unfold wy_;simp only[List.append_assoc,List.append_nil]
 rw[e];exact xW_ _ _ (vs x) n E fz (by simp[t.h])
theorem ZH_ (t:IdL) (p:Value) (x:List UInt8) (E:TypeId) (fz:Nat×Nat):zr_ (some (true,34)) (some (.cells (wy_ t p x).toArray E fz)) 0=some (.agg (wy_ t p x).toArray):=vl_ _ E fz 34 (by rw[List.size_toArray,aem_])
def XY_ (l:List IdL) (i:Nat):Bool:= !((l.take i).any fun y=>(l.getD i id0).l==y.l)
def VN_ (c:ComL):Bool:=(decide (c.par.length≤4)&&decide (c.text.length≤64))&& (List.range c.par.length).all (XY_ c.par)
theorem aj3_ {c:ComL} {k:Nat} (hk:k<c.par.length) (h:XY_ c.par k=false):VN_ c=false:=by
 unfold VN_
 have: (List.range c.par.length).all (XY_ c.par)=false:=by
  rw[List.all_eq_false]
  exact⟨k,List.mem_range.2 hk,by simp[h]⟩
 rw[this,Bool.and_false]
theorem agw_ {c:ComL} (h: ∀i,i<c.par.length→XY_ c.par i=true):VN_ c=(decide (c.par.length≤4)&&decide (c.text.length≤64)):=by
 unfold VN_
 have: (List.range c.par.length).all (XY_ c.par)=true:=List.all_eq_true.2 fun i hi=>h i (List.mem_range.1 hi)
 rw[this,Bool.and_true]
abbrev ComS (w:World) (v:Value) (c:ComL):Prop:= ∃p,v= .agg (wy_ c.tree p c.text).toArray∧IdS w p c.par
theorem SlV.one {α:Type} {m:Nat} {enc:α→List Value} {z:α} {w:World} {v:Value} {l:List α} (h:SlV m enc z w v l):Value.oneCell' v=true∧v.cells= #[v]:=by
 obtain⟨b,off,c,arr,E,fz,-,-,⟨rfl,-,-⟩ | ⟨rfl,-,-⟩⟩:=h<;>exact⟨rfl,rfl⟩
set_option linter.defProp false
def k2_:=And.intro (And.intro (And.intro (@afZ_) (@abr_)) (And.intro (@jd_) (And.intro (@zg_) (@zf_)))) (And.intro (And.intro (@wa_) (@v1_)) (And.intro (@vU_) (And.intro (@ZH_) (@kg_))))
theorem acr_ (v:Value) (c:ComL) (w:World) (hv:ComS w v c) (hl:c.par.length<1000000) (ht:c.text.length<1099511627776):
  Rets Tryz.prog 231 #[v] w (fun v' D=>v'= .bool (VN_ c)∧D= []):=by
 obtain⟨p,rfl,hp⟩:=hv
 obtain⟨b,off,arr,E,fz,hr⟩:=hp.row
 have ln:=hp.len
 refine Rets.enterV Tryz.func231 rfl (rs:= [.tmp 2]) Tryz.results231 Tryz.ntmps231 ?_
 refine kf ?_
 first|with_reducible refine ks [] @k2_ ?_|refine kp @k2_ ?_
 refine Ow.box rfl rfl fun bx hbx hwx=> ?_
 simp only[qi_,qe_,qc_,ze_,List.nil_append,List.cons_append]
 refine Ow.go rfl ?_
 simp(disch:=(first|assumption|omega| (simp only[jF_,jE_,UInt64.reduceToNat];try omega))) only[↓Sx.S0,Sx.S1,Tryz.fx,k2_,Nat.reduceAdd,Nat.reducePow,Int.reducePow,Nat.reduceBEq, ↓reduceIte,UInt8.reduceToNat,UInt16.reduceToNat,UInt32.reduceToNat,UInt64.reduceToNat,Int.reduceToNat]
 first|with_reducible refine ks [] (And.intro @k2_ @ln) ?_|refine kp (And.intro @k2_ @ln) ?_
 refine Cw.loopG (G:=Nat) [9,10,11,12,4,3,13,14,15,16,17,18,2,19,8] (fun g=> [(8,vi g)]) (fun g=> [(bx, .cells (wy_ c.tree p c.text).toArray 241 (0,0))]) (fun g=>g≤c.par.length∧ ∀i,i<g→XY_ c.par i=true) (fun g=>c.par.length - g) 0 rfl rfl ?_ ?_
 ·exact⟨Nat.zero_le _,fun i hi=>absurd hi (Nat.not_lt_zero i)⟩
 ·intro k jk hk
  refine kv ?_
  obtain⟨h1,h2⟩:=hk
  by_cases hk:k<c.par.length
  ·have h0:0<c.par.length:=by omega
   have hbl:=hr.lt h0
   have hnb:bx≠b:=by omega
   have r2:=hr.has h0
   have i2:=hr.idx true k hk
   have l2:=adJ_ hr hk
   obtain⟨v3,s3,hv3,-⟩:=hp.take (show k≤c.par.length by omega) true
   first|with_reducible refine ks [6] (And.intro @k2_ (And.intro @i2 (And.intro @r2 (@l2)))) ?_|refine kp (And.intro @k2_ (And.intro @i2 (And.intro @r2 (@l2)))) ?_
   refine Ow.alloc rfl rfl Tryz.zr37 fun b4 hb4 hw4=> ?_
   simp only[ze_,List.nil_append,List.cons_append]
   obtain⟨h4,-⟩:=hb4
   have hxl:=(c.par.getD k id0).h
   refine ko @k2_ ?_
   refine Cw.regionS [bx,b4] [0,2,1,3,4,5] [] (by kernel_rfl) (by kernel_rfl) (by kernel_rfl) ?_
   simp only[zh_, ↓zc_, ↓zb_, ↓zn_, ↓zo_,za_]
   refine kq (And.intro @k2_ @s3) ?_
   refine Ow.callFV rfl Tryz.call127 (fun w' hw'=>v7_ v3 (c.par.take k) (c.par.getD k id0) w' (hv3.oldN hw' ⟨hwx,hw4,trivial⟩) (by rw[List.length_take];omega)) ?_
   cases hq: (c.par.take k).any fun y=>(c.par.getD k id0).l==y.l
   ·have e1:XY_ c.par k=true:=by unfold XY_;rw[hq];rfl
    refine kq @k2_ ?_
    refine Cw.forgetN [(bx, .cells (wy_ c.tree p c.text).toArray 241 (0,0))] (by exact⟨hwx,hw4,trivial⟩) (by intro p hp;simp only[List.mem_cons,List.not_mem_nil,or_false] at hp ⊢;all_goals (first| (rcases hp with rfl|hp<;>simp_all) | (subst hp;simp) |simp_all)) (by simp[keys]<;>omega) ?_
    first|with_reducible refine ks [] @k2_ ?_|refine kp @k2_ ?_
    exact Again.mk (k+1) (by omega) ⟨by omega,fun i hi=>by
     rcases Nat.lt_succ_iff_lt_or_eq.1 hi with h|rfl
     ·exact h2 i h
     ·exact e1⟩ rfl rfl
   ·have e1:XY_ c.par k=false:=by unfold XY_;rw[hq];rfl
    rw[aj3_ hk e1]
    refine kq @k2_ ?_
    refine⟨_,(ke @k2_),⟨hwx,hw4,trivial⟩, ?_⟩
    rfl
  ·obtain rfl:k=c.par.length:=by omega
   rw[agw_ h2]
   by_cases h4:c.par.length≤4
   ·have d1:decide (((c.par.length:Nat):Int)≤4)=true:=decide_eq_true (by omega)
    first|with_reducible refine ks [] (And.intro @k2_ (And.intro @ln (@d1))) ?_|refine kp (And.intro @k2_ (And.intro @ln (@d1))) ?_
    refine⟨_,(ke @k2_),⟨hwx,trivial⟩, ?_⟩
    rw[show decide (c.par.length≤4)=true from decide_eq_true h4,Bool.true_and];exact congrArg Value.bool (decide_eq_decide.2 (by omega))
   ·have d1:decide (((c.par.length:Nat):Int)≤4)=false:=decide_eq_false (by omega)
    first|with_reducible refine ks [] (And.intro @k2_ (And.intro @ln (@d1))) ?_|refine kp (And.intro @k2_ (And.intro @ln (@d1))) ?_
    refine⟨_,(ke @k2_),⟨hwx,trivial⟩, ?_⟩
    rw[show decide (c.par.length≤4)=false from decide_eq_false h4];rfl
end Go.Proofs
end
section
open Go Go.Proofs Go.Sx Go.StP
namespace Go.Proofs
set_option maxRecDepth 10000
set_option maxHeartbeats 4000000
set_option linter.unusedSimpArgs false
set_option linter.defProp false
def arG_:=And.intro (And.intro (And.intro (@afZ_) (@abr_)) (And.intro (@jd_) (And.intro (@zg_) (@zf_)))) (And.intro (And.intro (@wa_) (@v1_)) (And.intro (@vU_) (And.intro (@ZH_) (@kg_))))
def arb_ (a b:ComL):Bool:=(a.tree.l==b.tree.l)&& (a.text==b.text)&&decide (a.par=b.par)
end Go.Proofs
end
section
open Go Go.Proofs Go.Sx
namespace Go.Proofs
set_option maxRecDepth 10000
set_option maxHeartbeats 4000000
set_option linter.unusedSimpArgs false
theorem k5_ {n:Nat} (h:n<1099511627776):zz_ (n:Int)=n:=by unfold zz_ maxN;omega
theorem kz_: ∀ (k:Nat) (n:Int) (w:World),zz_ n≤k→
  Rets Tryz.prog 91 #[vi n] w (fun v D=>v=vs (qS_ (zz_ n))∧D= []):=by
 intro k
 induction k using Nat.strongRecOn with
 |ind k ih=>
  intro n w hk
  refine Rets.enterV Tryz.func91 rfl (rs:= [.tmp 2]) Tryz.results91 Tryz.ntmps91 ?_
  refine kf ?_
  by_cases h0:n<0
  ·have d1:decide (n<0)=true:=decide_eq_true h0
   have e:zz_ n=0:=by unfold zz_ maxN;omega
   rw[e]
   first|with_reducible refine ks [] @d1 ?_|refine kp @d1 ?_
   refine Ow.buildSlice (e:=5) #[v8 0] rfl rfl (by kernel_rfl) fun b1 hb1 hw1=> ?_
   rw[show(#[v8 0]:Array Value)=a8 [0] from rfl]
   refine ko @Nat.add_zero ?_
   first|with_reducible refine ks [] @Nat.add_zero ?_|refine kp @Nat.add_zero ?_
   refine⟨_,(ke @Nat.add_zero),⟨hw1,trivial⟩, ?_⟩
   rw[qI_ (by omega)];rfl
  ·have d1:decide (n<0)=false:=decide_eq_false h0
   generalize hm:zz_ n=m at hk ⊢
   have hm2:m≤1099511627775:=by unfold zz_ maxN at hm;omega
   by_cases h1:n>1099511627775
   ·have d2:decide (1099511627775<n)=true:=decide_eq_true h1
    have e: (1099511627775:Int)=(m:Int):=by unfold zz_ maxN at hm;omega
    first|with_reducible refine ks [5] (And.intro @d1 @d2) ?_|refine kp (And.intro @d1 @d2) ?_
    rw[e]
    by_cases h2:m<128
    ·have d3:decide ((m:Int)<128)=true:=decide_eq_true (by omega)
     rw[qI_ h2]
     first|with_reducible refine ks [] (And.intro @d1 @d3) ?_|refine kp (And.intro @d1 @d3) ?_
     generalize hc:UInt8.ofInt (m:Int)=c
     have hc':c=UInt8.ofNat m:=by rw[←hc,wt_]
     refine Ow.buildSlice (e:=5) #[v8 c] rfl rfl (by kernel_rfl) fun b1 hb1 hw1=> ?_
     rw[show(#[v8 c]:Array Value)=a8 [c] from rfl]
     have e4:List.take 1 (List.drop 0 [c])= [c]:=rfl
     refine ko @e4 ?_
     first|with_reducible refine ks [] @Nat.add_zero ?_|refine kp @Nat.add_zero ?_
     refine⟨_,(ke @Nat.add_zero),⟨hw1,trivial⟩, ?_⟩
     rw[hc'];rfl
    ·have d3:decide ((m:Int)<128)=false:=decide_eq_false (by omega)
     have ih2:=fun w=>ih (m / 128) (by omega) ((m / 128:Nat):Int) w (by rw[k5_ (by omega)];omega)
     rw[k5_ (by omega)] at ih2
     have hl2:=xg_ 6 (m / 128) (by omega) (by omega)
     rw[vm_ h2]
     first|with_reducible refine ks [] (And.intro @d1 @d3) ?_|refine kp (And.intro @d1 @d3) ?_
     refine Cw.regionK 11 (by kernel_rfl) (by kernel_rfl) ?_
     refine OwK.run [0,1,2,3,6,7] [true,true,true,true,false,false,true,true,false,false,false] 5 rfl (by kernel_rfl) (by kernel_rfl) fun k hk=> ?_
     simp only[zh_, ↓zc_, ↓zb_, ↓zn_, ↓zo_,za_]
     simp(disch:=(first|assumption|omega| (simp only[jF_,jE_,UInt64.reduceToNat];try omega))) only[↓Sx.S0,Sx.S1,Tryz.fx,Nat.reduceAdd,Nat.reducePow,Int.reducePow,Nat.reduceBEq, ↓reduceIte,UInt8.reduceToNat,UInt16.reduceToNat,UInt32.reduceToNat,UInt64.reduceToNat,Int.reduceToNat]
     (with_reducible refine hk _ _ _ ?_);clear hk k
     generalize hc:UInt8.ofInt ((m:Int)%128+128)=c
     have hc':c=UInt8.ofNat (m%128+128):=by rw[←hc,show((m:Int)%128+128)=((m%128+128:Nat):Int) from rfl,wt_]
     rw[show(m:Int) / 128=((m / 128:Nat):Int) from rfl]
     refine OwK.two 4 8 _ _ (by kernel_rfl) rfl rfl ?_ ?_
     ·refine Ow.buildSlice (e:=5) #[v8 c] rfl rfl (by kernel_rfl) fun b1 hb1 hw1=> ?_
      rw[show(#[v8 c]:Array Value)=a8 [c] from rfl]
      have e4:List.take 1 (List.drop 0 [c])= [c]:=rfl
      refine ko @e4 ?_
      try with_reducible refine Ow.nil ?_
      refine OwK.two 5 8 _ _ (by kernel_rfl) rfl rfl ?_ ?_
      ·refine ko @e4 ?_
       refine OwK.rest [8,9,10] [4,8] rfl (by kernel_rfl) (by kernel_rfl) ?_
       simp only[zh_, ↓zc_, ↓zb_, ↓zn_, ↓zo_,za_]
       refine Ow.callFV rfl Tryz.call91 (fun w' hw'=>ih2 w') ?_
       refine ko @Nat.add_zero ?_
       first|with_reducible refine ks [] @Nat.add_zero ?_|refine kp @Nat.add_zero ?_
       refine⟨_,(ke @Nat.add_zero),⟨hw1,trivial⟩, ?_⟩
       rw[hc'];rfl
      ·refine Ow.callFV rfl Tryz.call91 (fun w' hw'=>ih2 w') ?_
       refine ko @Nat.add_zero ?_
       refine OwK.rest [5,9,10] [4,8] rfl (by kernel_rfl) (by kernel_rfl) ?_
       simp only[zh_, ↓zc_, ↓zb_, ↓zn_, ↓zo_,za_]
       refine ko @e4 ?_
       first|with_reducible refine ks [] @Nat.add_zero ?_|refine kp @Nat.add_zero ?_
       refine⟨_,(ke @Nat.add_zero),⟨hw1,trivial⟩, ?_⟩
       rw[hc'];rfl
     ·refine Ow.callFV rfl Tryz.call91 (fun w' hw'=>ih2 w') ?_
      refine ko @Nat.add_zero ?_
      refine OwK.rest [4,5,9,10] [4,8] rfl (by kernel_rfl) (by kernel_rfl) ?_
      simp only[zh_, ↓zc_, ↓zb_, ↓zn_, ↓zo_,za_]
      refine Ow.buildSlice (e:=5) #[v8 c] rfl rfl (by kernel_rfl) fun b1 hb1 hw1=> ?_
      rw[show(#[v8 c]:Array Value)=a8 [c] from rfl]
      have e4:List.take 1 (List.drop 0 [c])= [c]:=rfl
      refine ko @e4 ?_
      first|with_reducible refine ks [] @Nat.add_zero ?_|refine kp @Nat.add_zero ?_
      refine⟨_,(ke @Nat.add_zero),⟨hw1,trivial⟩, ?_⟩
      rw[hc'];rfl
   ·have d2:decide (1099511627775<n)=false:=decide_eq_false h1
    have e:n=(m:Int):=by unfold zz_ maxN at hm;omega
    subst e
    first|with_reducible refine ks [5] (And.intro @d1 @d2) ?_|refine kp (And.intro @d1 @d2) ?_
    by_cases h2:m<128
    ·have d3:decide ((m:Int)<128)=true:=decide_eq_true (by omega)
     rw[qI_ h2]
     first|with_reducible refine ks [] (And.intro @d1 @d3) ?_|refine kp (And.intro @d1 @d3) ?_
     generalize hc:UInt8.ofInt (m:Int)=c
     have hc':c=UInt8.ofNat m:=by rw[←hc,wt_]
     refine Ow.buildSlice (e:=5) #[v8 c] rfl rfl (by kernel_rfl) fun b1 hb1 hw1=> ?_
     rw[show(#[v8 c]:Array Value)=a8 [c] from rfl]
     have e4:List.take 1 (List.drop 0 [c])= [c]:=rfl
     refine ko @e4 ?_
     first|with_reducible refine ks [] @Nat.add_zero ?_|refine kp @Nat.add_zero ?_
     refine⟨_,(ke @Nat.add_zero),⟨hw1,trivial⟩, ?_⟩
     rw[hc'];rfl
    ·have d3:decide ((m:Int)<128)=false:=decide_eq_false (by omega)
     have ih2:=fun w=>ih (m / 128) (by omega) ((m / 128:Nat):Int) w (by rw[k5_ (by omega)];omega)
     rw[k5_ (by omega)] at ih2
     have hl2:=xg_ 6 (m / 128) (by omega) (by omega)
     rw[vm_ h2]
     first|with_reducible refine ks [] (And.intro @d1 @d3) ?_|refine kp (And.intro @d1 @d3) ?_
     refine Cw.regionK 11 (by kernel_rfl) (by kernel_rfl) ?_
     refine OwK.run [0,1,2,3,6,7] [true,true,true,true,false,false,true,true,false,false,false] 5 rfl (by kernel_rfl) (by kernel_rfl) fun k hk=> ?_
     simp only[zh_, ↓zc_, ↓zb_, ↓zn_, ↓zo_,za_]
     simp(disch:=(first|assumption|omega| (simp only[jF_,jE_,UInt64.reduceToNat];try omega))) only[↓Sx.S0,Sx.S1,Tryz.fx,Nat.reduceAdd,Nat.reducePow,Int.reducePow,Nat.reduceBEq, ↓reduceIte,UInt8.reduceToNat,UInt16.reduceToNat,UInt32.reduceToNat,UInt64.reduceToNat,Int.reduceToNat]
     (with_reducible refine hk _ _ _ ?_);clear hk k
     generalize hc:UInt8.ofInt ((m:Int)%128+128)=c
     have hc':c=UInt8.ofNat (m%128+128):=by rw[←hc,show((m:Int)%128+128)=((m%128+128:Nat):Int) from rfl,wt_]
     rw[show(m:Int) / 128=((m / 128:Nat):Int) from rfl]
     refine OwK.two 4 8 _ _ (by kernel_rfl) rfl rfl ?_ ?_
     ·refine Ow.buildSlice (e:=5) #[v8 c] rfl rfl (by kernel_rfl) fun b1 hb1 hw1=> ?_
      rw[show(#[v8 c]:Array Value)=a8 [c] from rfl]
      have e4:List.take 1 (List.drop 0 [c])= [c]:=rfl
      refine ko @e4 ?_
      try with_reducible refine Ow.nil ?_
      refine OwK.two 5 8 _ _ (by kernel_rfl) rfl rfl ?_ ?_
      ·refine ko @e4 ?_
       refine OwK.rest [8,9,10] [4,8] rfl (by kernel_rfl) (by kernel_rfl) ?_
       simp only[zh_, ↓zc_, ↓zb_, ↓zn_, ↓zo_,za_]
       refine Ow.callFV rfl Tryz.call91 (fun w' hw'=>ih2 w') ?_
       refine ko @Nat.add_zero ?_
       first|with_reducible refine ks [] @Nat.add_zero ?_|refine kp @Nat.add_zero ?_
       refine⟨_,(ke @Nat.add_zero),⟨hw1,trivial⟩, ?_⟩
       rw[hc'];rfl
      ·refine Ow.callFV rfl Tryz.call91 (fun w' hw'=>ih2 w') ?_
       refine ko @Nat.add_zero ?_
       refine OwK.rest [5,9,10] [4,8] rfl (by kernel_rfl) (by kernel_rfl) ?_
       simp only[zh_, ↓zc_, ↓zb_, ↓zn_, ↓zo_,za_]
       refine ko @e4 ?_
       first|with_reducible refine ks [] @Nat.add_zero ?_|refine kp @Nat.add_zero ?_
       refine⟨_,(ke @Nat.add_zero),⟨hw1,trivial⟩, ?_⟩
       rw[hc'];rfl
     ·refine Ow.callFV rfl Tryz.call91 (fun w' hw'=>ih2 w') ?_
      refine ko @Nat.add_zero ?_
      refine OwK.rest [4,5,9,10] [4,8] rfl (by kernel_rfl) (by kernel_rfl) ?_
      simp only[zh_, ↓zc_, ↓zb_, ↓zn_, ↓zo_,za_]
      refine Ow.buildSlice (e:=5) #[v8 c] rfl rfl (by kernel_rfl) fun b1 hb1 hw1=> ?_
      rw[show(#[v8 c]:Array Value)=a8 [c] from rfl]
      have e4:List.take 1 (List.drop 0 [c])= [c]:=rfl
      refine ko @e4 ?_
      first|with_reducible refine ks [] @Nat.add_zero ?_|refine kp @Nat.add_zero ?_
      refine⟨_,(ke @Nat.add_zero),⟨hw1,trivial⟩, ?_⟩
      rw[hc'];rfl
theorem ajF_ (x:IdL) (w:World):
  Rets Tryz.prog 93 #[.agg (a8 x.l)] w (fun v D=>v=vs x.l∧D= []):=by
 have hxl:=x.h
 refine Rets.enterV Tryz.func93 rfl (rs:= [.tmp 2]) Tryz.results93 Tryz.ntmps93 ?_
 refine kf ?_
 first|with_reducible refine ks [] @Nat.add_zero ?_|refine kp @Nat.add_zero ?_
 refine Ow.box rfl rfl fun bx hbx hwx=> ?_
 simp only[qi_,qe_,qc_,ze_,List.nil_append,List.cons_append]
 refine Ow.go rfl ?_
 simp(disch:=(first|assumption|omega| (simp only[jF_,jE_,UInt64.reduceToNat];try omega))) only[↓Sx.S0,Sx.S1,Tryz.fx,Nat.reduceAdd,Nat.reducePow,Int.reducePow,Nat.reduceBEq, ↓reduceIte,UInt8.reduceToNat,UInt16.reduceToNat,UInt32.reduceToNat,UInt64.reduceToNat,Int.reduceToNat]
 have e4:List.take 32 (List.drop 0 x.l)=x.l:=by rw[List.drop_zero,List.take_of_length_le (by omega)]
 first|with_reducible refine ks [] @e4 ?_|refine kp @e4 ?_
 refine⟨_,(ke @Nat.add_zero),⟨hwx,trivial⟩, ?_⟩
 rfl
end Go.Proofs
end
section
open Go Go.Proofs Go.Sx Go.StP
namespace Go.Proofs
set_option maxRecDepth 10000
set_option maxHeartbeats 400000
set_option linter.unusedSimpArgs false
set_option linter.defProp false
def arX_:=And.intro (And.intro (And.intro (@k6_) (@v6_)) (And.intro (@v0_) (@jp_))) (And.intro (And.intro (@qj_) (@qu_)) (And.intro (@zg_) (@zf_)))
def entB (e:EntL):List UInt8:=(qS_ (zz_ e.kind)++xD_ e.name)++e.id.l
def ap1_ (l:List EntL):List UInt8:=(l.map entB).flatten
theorem ag1_ {s:List UInt8} (h:s.length<1099511627776): (xD_ s).length<1099511627783:=by
 have:=zs_ (s.length:Int)
 unfold xD_;rw[List.length_append];omega
def idsB (l:List IdL):List UInt8:=(l.map IdL.l).flatten
def aps_ (c:ComL):List UInt8:=c.tree.l++qS_ (zz_ c.par.length)
def comB (c:ComL):List UInt8:=aps_ c++idsB c.par++xD_ c.text
set_option linter.defProp false
def ar7_:=And.intro (And.intro (And.intro (@afZ_) (@abr_)) (And.intro (@jd_) (And.intro (@zg_) (@zf_)))) (And.intro (And.intro (@wa_) (@v1_)) (And.intro (@vU_) (And.intro (@ZH_) (@kg_))))
end Go.Proofs
end
section
open Go Go.Proofs Go.Sx Go.StP
namespace Go.Proofs
set_option maxRecDepth 10000
set_option maxHeartbeats 400000
set_option linter.unusedSimpArgs false
instance:DecidableEq EntL:=fun a b=>if h:a.name=b.name∧a.kind=b.kind∧a.id.l=b.id.l then .isTrue (by cases a;cases b;simp only at h;obtain⟨rfl,rfl,h3⟩:=h;rw[IdL.ext' h3]) else .isFalse (fun e=>h (by rw[e];exact⟨rfl,rfl,rfl⟩))
theorem EntL.ext' {a b:EntL} (h: (a.name==b.name&&a.kind==b.kind&&a.id.l==b.id.l)=true):a=b:=by
 simp only[Bool.and_eq_true,beq_iff_eq] at h
 cases a;cases b;simp only at h;obtain⟨⟨rfl,rfl⟩,h3⟩:=h;rw[IdL.ext' h3]
set_option linter.defProp false
def arh_:=And.intro (And.intro (And.intro (@k6_) (@v6_)) (And.intro (@v0_) (@jp_))) (And.intro (And.intro (@qj_) (@qu_)) (And.intro (@zg_) (And.intro (@zf_) (@apx_))))
end Go.Proofs
end
section
open Go Go.Proofs Go.Sx Go.StP
namespace Go.Proofs
set_option maxRecDepth 10000
set_option maxHeartbeats 400000
set_option linter.unusedSimpArgs false
def vV_ (l:List UInt8):IdL:=if h:l.length=32 then⟨l,h⟩ else id0
theorem ZS_ {l:List UInt8} (h:l.length=32): (vV_ l).l=l:=by unfold vV_;rw[dif_pos h]
theorem J8_ (s:List UInt8) (a:Nat) (e:Int): (idR s a e).1.length=32:=by
 unfold idR
 simp only
 split
 ·assumption
 ·simp[z32]
theorem aeg_ {s:List UInt8} {a:Nat} {e:Int} (ha:a≤s.length):a≤ (idR s a e).2.1∧(idR s a e).2.1≤s.length:=ko_ ha
theorem ZB_ {s:List UInt8} {a:Nat} {e most:Int} (ha:a≤s.length):a≤ (qN_ s a e most).2.1∧(qN_ s a e most).2.1≤s.length:=by
 have hp:=z4_ (e:=e) (most:=most) ha
 have hq:=ko_ (e:=(zu_ s a e most).2.2) (n:=(zu_ s a e most).1) hp.2
 unfold qN_
 simp only
 split
 ·exact⟨Nat.le_refl _,ha⟩
 ·exact⟨by omega,hq.2⟩
theorem V7_ (s:List UInt8) (a:Nat) (e most:Int): (qN_ s a e most).1.length≤s.length:=by
 have: ∀ (b:Nat) (e n:Int),(jc_ s b e n).1.length≤s.length:=by
  intro b e n
  unfold jc_
  split
  ·simp
  ·split
   ·simp
   ·split
    ·simp
    ·simp only[List.length_take,List.length_drop];omega
 unfold qN_
 simp only
 split
 ·simp
 ·exact this _ _ _
theorem W6_ {s:List UInt8} {a:Nat} {e n:Int} (he:e≠0): (jc_ s a e n).2=(a,e):=by unfold jc_;rw[if_pos he]
theorem ZI_ {s:List UInt8} {a:Nat} {e most:Int} (he:e≠0): (zu_ s a e most).2=(a,e):=by unfold zu_;rw[if_pos he]
theorem amn_ {s:List UInt8} {a:Nat} {e most:Int} (he:e≠0): (qN_ s a e most).2=(a,e):=by
 unfold qN_
 simp only[ZI_ he,W6_ he]
 rw[if_pos he]
theorem anU_ {s:List UInt8} {a:Nat} {e:Int} (he:e≠0): (idR s a e).2=(a,e):=by unfold idR;simp only[W6_ he]
theorem aiw_ {s:List UInt8} {a:Nat} {e n:Int} (h:e≠5): (jc_ s a e n).2.2≠5:=by
 unfold jc_
 split
 ·exact h
 ·split
  ·show(2:Int)≠5;decide
  ·split
   ·show(3:Int)≠5;decide
   ·show(0:Int)≠5;decide
theorem al1_ (most:Int): ∀ (l:List UInt8) (k n x:Nat),z2_ most l k n= .error x→x≠5:=by
 intro l
 induction l with
 |nil=>intro k n x h;unfold z2_ at h;cases h;decide
 |cons c r ih=>
  intro k n x h
  unfold z2_ at h
  split at h
  ·split at h
   ·cases h;decide
   ·exact ih _ _ _ h
  ·split at h
   ·cases h;decide
   ·split at h
    ·cases h
    ·cases h;decide
theorem aip_ (most:Int): ∀ (l:List UInt8) (k n:Nat),z2_ most l k n≠ .error 0:=by
 intro l
 induction l with
 |nil=>intro k n h;unfold z2_ at h;cases h
 |cons c r ih=>
  intro k n h
  unfold z2_ at h
  split at h
  ·split at h
   ·cases h
   ·exact ih _ _ h
  ·split at h
   ·cases h
   ·split at h
    ·cases h
    ·cases h
theorem ahJ_ {s:List UInt8} {a:Nat} {e most:Int} (h:e≠5): (zu_ s a e most).2.2≠5:=by
 unfold zu_
 split
 ·exact h
 ·split
  ·show(0:Int)≠5;decide
  ·rename_i x hx
   have:=al1_ _ _ _ _ _ hx
   show((x:Nat):Int)≠5
   omega
theorem amf_ {s:List UInt8} {a:Nat} {e most:Int} (h:e≠5): (qN_ s a e most).2.2≠5:=by
 unfold qN_
 simp only
 split
 ·exact aiw_ (ahJ_ h)
 ·exact aiw_ (ahJ_ h)
theorem aqf_ {s:List UInt8} {a:Nat} {e:Int} (h:e≠5): (idR s a e).2.2≠5:=by unfold idR;exact aiw_ h
theorem agy_ {s:List UInt8} {a:Nat} {e most:Int} (h: (zu_ s a e most).2.2=0):a< (zu_ s a e most).2.1:=by
 unfold zu_ at h ⊢
 split
 ·rename_i he
  rw[if_pos he] at h
  exact absurd h he
 ·rename_i he
  rw[if_neg he] at h
  split
  ·rename_i n k hk
   have:=Vx_ _ _ _ _ _ _ hk
   show a<a+k
   omega
  ·rename_i x hx
   rw[hx] at h
   exfalso
   have:x=0:=by have: ((x:Nat):Int)=0:=h;omega
   subst this
   exact aip_ _ _ _ _ hx
def entR (s:List UInt8) (a:Nat) (e:Int):EntL×Nat×Int:=
 let p:=zu_ s a e 2
 let q:=qN_ s p.2.1 p.2.2 32
 let i:=idR s q.2.1 q.2.2
 (⟨q.1,p.1,vV_ i.1⟩,i.2)
theorem am8_ {s:List UInt8} {a:Nat} {e:Int} (ha:a≤s.length):a≤ (entR s a e).2.1∧(entR s a e).2.1≤s.length:=by
 have h1:=z4_ (e:=e) (most:=2) ha
 have h2:=ZB_ (e:=(zu_ s a e 2).2.2) (most:=32) h1.2
 have h3:=aeg_ (e:=(qN_ s (zu_ s a e 2).2.1 (zu_ s a e 2).2.2 32).2.2) h2.2
 unfold entR
 exact⟨by simp only;omega,h3.2⟩
theorem aoS_ {s:List UInt8} {a:Nat} {e:Int} (h:e≠5): (entR s a e).2.2≠5:=aqf_ (amf_ (ahJ_ h))
theorem amv_ {s:List UInt8} {a:Nat} {e:Int} (ha:a≤s.length) (h: (entR s a e).2.2=0):a< (entR s a e).2.1:=by
 have h1:=z4_ (e:=e) (most:=2) ha
 have h2:=ZB_ (e:=(zu_ s a e 2).2.2) (most:=32) h1.2
 have h3:=aeg_ (e:=(qN_ s (zu_ s a e 2).2.1 (zu_ s a e 2).2.2 32).2.2) h2.2
 unfold entR at h ⊢
 simp only at h ⊢
 have e2: (qN_ s (zu_ s a e 2).2.1 (zu_ s a e 2).2.2 32).2.2=0:=Decidable.byContradiction fun hn=>by rw[anU_ hn] at h;exact hn h
 have e1: (zu_ s a e 2).2.2=0:=Decidable.byContradiction fun hn=>by rw[amn_ hn] at e2;exact hn e2
 have:=agy_ e1
 omega
def Qm_ (s:List UInt8):Nat→Nat→Int→List EntL→List EntL×Nat×Int
 |0,a,e,l=>(l,a,e)
 |n+1,a,e,l=>if e=0∧a<s.length then Qm_ s n (entR s a e).2.1 (entR s a e).2.2 (l++ [(entR s a e).1]) else(l,a,e)
theorem aiD_ {s:List UInt8} {n a:Nat} {e:Int} {l:List EntL} (h:e=0∧a<s.length):Qm_ s (n+1) a e l=Qm_ s n (entR s a e).2.1 (entR s a e).2.2 (l++ [(entR s a e).1]):=by rw[Qm_,if_pos h]
theorem aeQ_ {s:List UInt8} {n a:Nat} {e:Int} {l:List EntL} (h: ¬ (e=0∧a<s.length)):Qm_ s n a e l=(l,a,e):=by
 cases n with
 |zero=>rfl
 |succ n=>rw[Qm_,if_neg h]
def kK_ (s:List UInt8):List EntL×Nat×Int:=Qm_ s (s.length+1) 0 0 []
structure EntsJ (s:List UInt8) (n a:Nat) (e:Int) (l:List EntL):Prop where
 go:kK_ s=Qm_ s n a e l
 le:a≤s.length
 five:e≠5
 fuel:e=0→s.length<a+n
 cnt:l.length+n=s.length+1
 short: ∀i,i<l.length→(l.getD i wT_).name.length≤s.length
theorem EntsJ.init (s:List UInt8):EntsJ s (s.length+1) 0 0 []:=⟨rfl,Nat.zero_le _,by decide,fun _=>by omega,by simp,fun i hi=>by simp at hi⟩
theorem EntsJ.next {s:List UInt8} {n a:Nat} {e:Int} {l:List EntL} (h:EntsJ s n a e l) (hc:e=0∧a<s.length): ∃m,n=m+1∧EntsJ s m (entR s a e).2.1 (entR s a e).2.2 (l++ [(entR s a e).1]):=by
 have:=h.fuel hc.1
 obtain⟨m,rfl⟩: ∃m,n=m+1:=⟨n - 1,by omega⟩
 refine⟨m,rfl,h.go.trans (aiD_ hc),(am8_ h.le).2,aoS_ h.five,fun h0=> ?_, ?_,fun i hi=> ?_⟩
 ·have:=amv_ h.le h0;omega
 ·have:=h.cnt;simp only[List.length_append,List.length_cons,List.length_nil];omega
 ·by_cases hlt:i<l.length
  ·rw[jO_ hlt];exact h.short i hlt
  ·have:i=l.length:=by simp only[List.length_append,List.length_cons,List.length_nil] at hi;omega
   subst this
   rw[qG_ (Nat.le_refl _),Nat.sub_self]
   exact V7_ _ _ _ _
theorem EntsJ.done {s:List UInt8} {n a:Nat} {e:Int} {l:List EntL} (h:EntsJ s n a e l) (hc: ¬ (e=0∧a<s.length)):kK_ s=(l,a,e):=h.go.trans (aeQ_ hc)
theorem EntsJ.sh {s:List UInt8} {n a:Nat} {e:Int} {l:List EntL} (h:EntsJ s n a e l) (hs:s.length<1000000):alM_ l:=fun i hi=>by have:=h.short i hi;omega
end Go.Proofs
end
section
open Go Go.Proofs Go.Sx Go.StP
namespace Go.Proofs
set_option maxRecDepth 10000
set_option maxHeartbeats 400000
set_option linter.unusedSimpArgs false
def ao1_ (s:List UInt8):Option (List EntL):=if(kK_ s).2.2=0∧ZR_ (kK_ s).1=true∧ap1_ (kK_ s).1=s then some (kK_ s).1 else none
def aqJ_ (s:List UInt8) (v:Value) (D:zd_):Prop:=
 match ao1_ s with
 |some l=> ∃v1,v= .tuple #[v1, .bool true]∧Gr D 268 34 v1 l.length (l.map jA_).flatten
 |none=>v= .tuple #[.slice none 0 0, .bool false]
structure EnG where
 n:Nat
 a:Nat
 e:Int
 l:List EntL
 v:Value
 D:zd_
set_option linter.defProp false
def ara_:=And.intro (And.intro (And.intro (@xN_) (And.intro (@xS_) (@xV_))) (And.intro (@j2_) (And.intro (@j0_) (@jp_)))) (And.intro (And.intro (@KD_) (And.intro (@Ks_) (@KA_))) (And.intro (And.intro (@qj_) (@qu_)) (And.intro (@zg_) (@zf_))))
end Go.Proofs
end
section
open Go Go.Proofs Go.Sx Go.StP
namespace Go.Proofs
set_option maxRecDepth 10000
set_option maxHeartbeats 400000
set_option linter.unusedSimpArgs false
theorem wQ_ (most:Int): ∀ (l:List UInt8) (k n m k':Nat),z2_ most l k n= .ok (m,k')→(m:Int)≤most
 | [],_,_,_,_,h=>by simp[z2_] at h
 |c::r,k,n,m,k',h=>by
  unfold z2_ at h
  split at h
  ·split at h
   ·cases h
   ·exact wQ_ most r _ _ _ _ h
  ·split at h
   ·cases h
   ·split at h
    ·rename_i hh
     cases h
     exact hh.2
    ·cases h
theorem qW_ {s:List UInt8} {a:Nat} {e most:Int} (h0:0≤most):0≤ (zu_ s a e most).1∧(zu_ s a e most).1≤most:=by
 unfold zu_
 split
 ·exact⟨Int.le_refl 0,h0⟩
 ·split
  ·rename_i n k h
   exact⟨Int.natCast_nonneg _,wQ_ most _ _ _ _ _ h⟩
  ·exact⟨Int.le_refl 0,h0⟩
def jj_ (s:List UInt8) (a:Nat) (e:Int):Nat→List IdL×Nat×Int
 |0=>([],a,e)
 |n+1=>let p:=jj_ s a e n;let i:=idR s p.2.1 p.2.2;(p.1++ [vV_ i.1],i.2)
theorem WA_ (s:List UInt8) (a:Nat) (e:Int): ∀n,(jj_ s a e n).1.length=n
 |0=>rfl
 |n+1=>by simp only[jj_,List.length_append,List.length_cons,List.length_nil,WA_ s a e n]
theorem ad4_ {s:List UInt8} {a:Nat} {e:Int} (ha:a≤s.length): ∀n,(jj_ s a e n).2.1≤s.length
 |0=>ha
 |n+1=>(aeg_ (ad4_ ha n)).2
def comN (s:List UInt8):Int×Nat×Int:=zu_ s (idR s 0 0).2.1 (idR s 0 0).2.2 4
def comP (s:List UInt8):List IdL×Nat×Int:=jj_ s (comN s).2.1 (comN s).2.2 (comN s).1.toNat
def comT (s:List UInt8):List UInt8×Nat×Int:=qN_ s (comP s).2.1 (comP s).2.2 64
def ZX_ (s:List UInt8):ComL×Nat×Int:=(⟨vV_ (idR s 0 0).1,(comP s).1,(comT s).1⟩,(comT s).2)
def xY_ (s:List UInt8) (a:Nat) (e:Int):Int:=if e≠0 then e else if(a:Int)< (s.length:Int) then 5 else 0
def anV_ (s:List UInt8):Option ComL:=if xY_ s (ZX_ s).2.1 (ZX_ s).2.2=0∧VN_ (ZX_ s).1=true∧comB (ZX_ s).1=s then some (ZX_ s).1 else none
theorem afR_ (t x:IdL) (p:Value) (y:List UInt8) (a:Bool) (E:TypeId):zp_ (some (a,32)) (some (.cells (wy_ t p y).toArray E (0,0))) 0 (.agg (a8 x.l))=some (.cells (wy_ x p y).toArray E (0,0)):=
 z6_ [] _ _ _ a _ E rfl (by simp[t.h]) (ze_ _) (by simp[x.h]) (Jk_ _)
theorem aeN_ (t:IdL) (p:Value) (y z:List UInt8) (a:Bool) (E:TypeId):zp_ (some (a,1)) (some (.cells (wy_ t p y).toArray E (0,0))) 33 (vs z)=some (.cells (wy_ t p z).toArray E (0,0)):=by
 have e: ∀y,wy_ t p y=(t.l.map v8++ [p])++ ([vs y]++ []):=fun y=>by unfold wy_;simp only[List.append_assoc,List.append_nil]
 rw[e,e];exact z6_ _ _ _ _ a _ E (by simp[t.h]) rfl rfl rfl rfl
theorem Qv_:z0_ Tryz.prog 37=some (true,32):=id (by kernel_rfl)
theorem JH_:zK_ Tryz.prog 37=some (.agg (a8 id0.l)):=id (by kernel_rfl)
end Go.Proofs
end
section
open Go Go.Proofs Go.Sx Go.StP
namespace Go.Proofs
set_option maxRecDepth 10000
set_option maxHeartbeats 400000
set_option linter.unusedSimpArgs false
theorem JZ_ {b:Nat} {x:Obj}: ∀ {D L:zd_},b∉keys D→setB (D++L) b x=D++setB L b x
 | [],_,_=>rfl
 | (c,y)::r,L,h=>by
  simp only[keys,List.map_cons,List.mem_cons,not_or] at h
  rw[List.cons_append,jm_ _ _ _ _ _ (Ne.symm h.1),JZ_ (by simpa [keys] using h.2)];rfl
def aqt_ (s:List UInt8) (v:Value) (D:zd_):Prop:=
 match anV_ s with
 |some c=> ∃p,v= .tuple #[.agg (wy_ c.tree p c.text).toArray, .bool true]∧Gr D 37 32 p c.par.length (c.par.map wR_).flatten
 |none=>v= .tuple #[.agg (wy_ id0 (.slice none 0 0) []).toArray, .bool false]
theorem Wf_ (b:Nat) (s:List UInt8) (a:Nat) (e:Int) (w:World) (ho:w.heap[b]? =some (.cells #[vs s,vi a,vi e] 166 (0,0))):
  Rets Tryz.prog 102 #[vp b 0] w (fun v D=>v=vi (xY_ s a e)∧D= []):=ac6_ b s a e w ho
structure CmG where
 g:Nat
 v:Value
 D:zd_
set_option linter.defProp false
def arq_:=And.intro (And.intro (And.intro (@xN_) (And.intro (@xS_) (@xV_))) (And.intro (And.intro (@j2_) (@j0_)) (And.intro (@wa_) (@v1_)))) (And.intro (And.intro (@vU_) (And.intro (@ZH_) (@kg_))) (And.intro (And.intro (@afR_) (@aeN_)) (And.intro (@zg_) (@zf_))))
end Go.Proofs
end
section
open Go Go.Proofs Go.Sx Go.StP
namespace Go.Proofs
set_option maxRecDepth 10000
set_option maxHeartbeats 400000
set_option linter.unusedSimpArgs false
def roC (r v:Value) (t:IdL) (p:Value) (y:List UInt8):List Value:= [r]++ ([v]++wy_ t p y)
theorem KS_ (r v:Value) (t:IdL) (p:Value) (y:List UInt8) (n:Nat) (E:TypeId) (fz:Nat×Nat):zr_ (some (false,n)) (some (.cells (roC r v t p y).toArray E fz)) 0=some r:=xW_ [] _ r n E fz rfl
theorem Va_ (r v:Value) (t:IdL) (p:Value) (y:List UInt8) (n:Nat) (E:TypeId) (fz:Nat×Nat):zr_ (some (false,n)) (some (.cells (roC r v t p y).toArray E fz)) 1=some v:=by
 unfold roC;exact xW_ [r] _ v n E fz rfl
theorem VM_ (r v:Value) (t:IdL) (p:Value) (y:List UInt8) (E:TypeId) (fz:Nat×Nat):zr_ (some (true,34)) (some (.cells (roC r v t p y).toArray E fz)) 2=some (.agg (wy_ t p y).toArray):=by
 have e:roC r v t p y= [r,v]++ (wy_ t p y++ []):=by unfold roC;simp
 rw[e];exact wx_ [r,v] _ _ E fz rfl (aem_ _ _ _)
theorem aac_ (r v:Value) (t:IdL) (p:Value) (y:List UInt8) (n:Nat) (E:TypeId) (fz:Nat×Nat):zr_ (some (false,n)) (some (.cells (roC r v t p y).toArray E fz)) 34=some p:=by
 have e:roC r v t p y=([r,v]++t.l.map v8)++ ([p]++ [vs y]):=by unfold roC wy_;simp
 rw[e];exact xW_ _ _ p n E fz (by simp[t.h])
theorem aiv_ (r v q:Value) (t:IdL) (p:Value) (y:List UInt8) (a:Bool) (E:TypeId) (hq:Value.oneCell' q=true∧q.cells= #[q]):zp_ (some (a,1)) (some (.cells (roC r v t p y).toArray E (0,0))) 1 q=some (.cells (roC r q t p y).toArray E (0,0)):=by
 unfold roC
 exact z6_ [r] [v] [q] _ a _ E rfl rfl hq.2 rfl (by simp[hq.1])
theorem agI_ (r v:Value) (t x:IdL) (p:Value) (y:List UInt8) (a:Bool) (E:TypeId):zp_ (some (a,32)) (some (.cells (roC r v t p y).toArray E (0,0))) 2 (.agg (a8 x.l))=some (.cells (roC r v x p y).toArray E (0,0)):=by
 have e: ∀t,roC r v t p y= [r,v]++ (t.l.map v8++ ([p]++ [vs y])):=fun t=>by unfold roC wy_;simp
 rw[e,e];exact z6_ [r,v] _ _ _ a _ E rfl (by simp[t.h]) (ze_ _) (by simp[x.h]) (Jk_ _)
theorem afb_ (r v:Value) (t:IdL) (p q:Value) (y:List UInt8) (a:Bool) (E:TypeId) (hq:Value.oneCell' q=true∧q.cells= #[q]):zp_ (some (a,1)) (some (.cells (roC r v t p y).toArray E (0,0))) 34 q=some (.cells (roC r v t q y).toArray E (0,0)):=by
 have e: ∀p,roC r v t p y=([r,v]++t.l.map v8)++ ([p]++ [vs y]):=fun p=>by unfold roC wy_;simp
 rw[e,e];exact z6_ _ [p] [q] [vs y] a _ E (by simp[t.h]) rfl hq.2 rfl (by simp[hq.1])
theorem afA_ (r v:Value) (t:IdL) (p:Value) (y z:List UInt8) (a:Bool) (E:TypeId):zp_ (some (a,1)) (some (.cells (roC r v t p y).toArray E (0,0))) 35 (vs z)=some (.cells (roC r v t p z).toArray E (0,0)):=by
 have e: ∀y,roC r v t p y=(([r,v]++t.l.map v8)++ [p])++ ([vs y]++ []):=fun y=>by unfold roC wy_;simp
 rw[e,e];exact z6_ _ _ _ _ a _ E (by simp[t.h]) rfl rfl rfl rfl
theorem aex_ (k:Int) (t:List UInt8):qg_ (kt_ Tryz.prog 268) (zK_ Tryz.prog 268) [(1,vi k),(0,vs t)]=some (.agg (jA_ ⟨t,k,id0⟩).toArray):=by
 rw[show kt_ Tryz.prog 268=some [(0,1),(1,1),(2,32)] from id (by kernel_rfl),agO_];rfl
theorem x4_ (b:Nat) (s:List UInt8) (a:Nat) (e:Int) (w:World) (ho:w.heap[b]? =some (.cells #[vs s,vi a,vi e] 212 (0,0))):
  Rets Tryz.prog 74 #[vp b 0] w (fun v D=>v=vi (xY_ s a e)∧D= []):=Xi_ b s a e w ho
set_option linter.defProp false
def ka_:=And.intro (And.intro (And.intro (And.intro (@xN_) (@xS_)) (And.intro (@xV_) (@j2_))) (And.intro (And.intro (@j0_) (@KS_)) (And.intro (@Va_) (@VM_)))) (And.intro (And.intro (And.intro (@aac_) (@jp_)) (And.intro (@KD_) (@Ks_))) (And.intro (And.intro (@KA_) (@qj_)) (And.intro (@qu_) (And.intro (@zg_) (@zf_)))))
theorem ag7_ {w:World} {a b:Nat} {x y:Obj} (h:w.heap[a]? =some x) (h':w.heap[b]? =some y): ∀p:Nat×Obj,p∈ [(a,x),(b,y)]→w.heap[p.1]? =some p.2:=by
 intro p hp
 simp only[List.mem_cons,List.not_mem_nil,or_false] at hp
 rcases hp with rfl|rfl<;>assumption
structure EnH where
 n:Nat
 a:Nat
 e:Int
 l:List EntL
 v:Value
 D:zd_
 H:zd_
def alU_ (bo bw:Nat) (s:List UInt8) (v:Value) (D:zd_):Prop:=
 v= .bool (xY_ s (kK_ s).2.1 (kK_ s).2.2==0&&ZR_ (kK_ s).1)∧ ∃v1,Sx.look D bo=some (.cells (roC (vp bw 0) v1 id0 (.slice none 0 0) []).toArray 294 (0,0))∧Gr D 268 34 v1 (kK_ s).1.length ((kK_ s).1.map jA_).flatten
theorem abB_ (bo bw:Nat) (s:List UInt8) (w:World) (hs:s.length<100000) (hne:bo≠bw)
  (ho:w.heap[bo]? =some (.cells (roC (vp bw 0) (.slice none 0 0) id0 (.slice none 0 0) []).toArray 294 (0,0))) (hr:w.heap[bw]? =some (.cells #[vs s,vi 0,vi 0] 212 (0,0))):
  Rets Tryz.prog 212 #[vp bo 0] w (XS w [(bo, .cells (roC (vp bw 0) (.slice none 0 0) id0 (.slice none 0 0) []).toArray 294 (0,0)),(bw, .cells #[vs s,vi 0,vi 0] 212 (0,0))] (alU_ bo bw s)):=by
 have hob:bo<w.heap.size:=(Array.getElem?_eq_some_iff.1 ho).1
 have hwb:bw<w.heap.size:=(Array.getElem?_eq_some_iff.1 hr).1
 refine Rets.enterX Tryz.func212 rfl (rs:= [.tmp 2]) Tryz.results212 Tryz.ntmps212 (ag7_ ho hr) (by simp[keys,hne]) ?_
 refine kf ?_
 first|with_reducible refine ks [] @ka_ ?_|refine kp @ka_ ?_
 refine Cw.loopG (G:=EnH) [4,5,6,7,8,9,10,11,12,13,14,15,16,17,18,19,20,3,21,22,23,24,25,26,27,28,29,30,31,32,33,34,35,36] (fun q=> []) (fun q=>q.H) (fun q=>EntsJ s q.n q.a q.e q.l∧New w.heap.size q.D∧Gr q.D 268 34 q.v q.l.length (q.l.map jA_).flatten∧((bo,Obj.cells (roC (vp bw 0) q.v id0 (.slice none 0 0) []).toArray 294 (0,0)):: (bw, .cells #[vs s,vi q.a,vi q.e] 212 (0,0))::q.D).Perm q.H) (fun q=>q.n) ⟨s.length+1,0,0,[], .slice none 0 0,[],[(bo,Obj.cells (roC (vp bw 0) (.slice none 0 0) id0 (.slice none 0 0) []).toArray 294 (0,0)),(bw, .cells #[vs s,vi 0,vi 0] 212 (0,0))]⟩ rfl rfl ?_ ?_
 ·exact⟨EntsJ.init s,trivial,Gr.nl,List.Perm.refl _⟩
 ·intro q jq hq
  refine kv ?_
  obtain⟨n,a,e,l,v,D,H0⟩:=q
  simp only at hq ⊢
  obtain⟨hJ,hN,hG,hPm⟩:=hq
  refine Cw.permL hPm ?_
  clear hPm
  have hle:=hJ.le
  first|with_reducible refine ks [3] @ka_ ?_|refine kp @ka_ ?_
  refine Ow.callFV rfl Tryz.call74 (fun w' hw'=>x4_ bw s a e w' (hw'.has _ _ (List.mem_cons_of_mem _ List.mem_cons_self))) ?_
  by_cases hc:e=0∧a<s.length
  ·obtain⟨m,rfl,hJ'⟩:=hJ.next hc
   obtain⟨he,hlt⟩:=hc
   have h5:xY_ s a e=5:=by unfold xY_;rw[if_neg (by simp[he]),if_pos (by omega)]
   have d1: (xY_ s a e==5)=true:=by simp[h5]
   refine ko (And.intro @ka_ @d1) ?_
   have hp:=z4_ (e:=e) (most:=2) hle
   have hq:=ZB_ (e:=(zu_ s a e 2).2.2) (most:=32) hp.2
   have heq:entR s a e=(⟨(qN_ s (zu_ s a e 2).2.1 (zu_ s a e 2).2.2 32).1,(zu_ s a e 2).1,vV_ (idR s (qN_ s (zu_ s a e 2).2.1 (zu_ s a e 2).2.2 32).2.1 (qN_ s (zu_ s a e 2).2.1 (zu_ s a e 2).2.2 32).2.2).1⟩,(idR s (qN_ s (zu_ s a e 2).2.1 (zu_ s a e 2).2.2 32).2.1 (qN_ s (zu_ s a e 2).2.1 (zu_ s a e 2).2.2 32).2.2).2):=rfl
   have hil:=J8_ s (qN_ s (zu_ s a e 2).2.1 (zu_ s a e 2).2.2 32).2.1 (qN_ s (zu_ s a e 2).2.1 (zu_ s a e 2).2.2 32).2.2
   refine Cw.regionD [bo] [12] 11 3 268 12 _ rfl (by kernel_rfl) (by kernel_rfl) rfl (by kernel_rfl) agO_ (fun hD=> ?_)
   simp only[List.replicate_succ,List.replicate_zero]
   refine OwD.run [0,1,2,3,5,6,7,8] [true,true,true,true,false,true,true,true,true,false,false,false,false] 4 rfl hD (by kernel_rfl) fun k hk=> ?_
   simp only[zh_, ↓zc_, ↓zb_, ↓zn_, ↓zo_,za_]
   simp(disch:=(first|assumption|omega| (simp only[jF_,jE_,UInt64.reduceToNat];try omega))) only[↓Sx.S0,Sx.S1,Tryz.fx,ka_,Nat.reduceAdd,Nat.reducePow,Int.reducePow,Nat.reduceBEq, ↓reduceIte,UInt8.reduceToNat,UInt16.reduceToNat,UInt32.reduceToNat,UInt64.reduceToNat,Int.reduceToNat,Md.next_sofnil,Md.next_sofnil]
   (with_reducible refine hk _ _ _ ?_);clear hk k
   refine OwD.soft 4 _ hD rfl (by kernel_rfl) (fun E hE=> ?_)
   refine Ow.callM rfl rfl Tryz.call95 (by simp[keys]) (fun w' hw'=>qY_ bw s a e 2 w' hle (by omega) (hw'.has _ _ (by simp))) ?_
   generalize zu_ s a e 2=p at*
   obtain⟨kd,a1,e1⟩:=p
   simp only at hp hq heq hil ⊢
   refine kn ?_
   with_reducible refine Ow.nil ?_
   refine⟨(bo,Obj.cells (roC (vp bw 0) v id0 (.slice none 0 0) []).toArray 294 (0,0)):: (bw, .cells #[vs s,vi a1,vi e1] 212 (0,0))::D,(by classical exact List.perm_iff_count.2 fun a=>by simp only[List.count_append,List.count_cons,List.count_nil]<;>omega),fun r hr=> ?_, ?_⟩
   ·rw[List.mem_singleton.1 hr]
    simp only[zF_]
   simp only[List.set_cons_zero,List.set_cons_succ,zO_,qO_,qM_]
   refine OwD.soft 9 _ hD rfl (by kernel_rfl) (fun E hE=> ?_)
   refine Ow.callM rfl rfl Tryz.call96 (by simp[keys]) (fun w' hw'=>wq_ bw s a1 e1 32 w' hp.2 (by omega) (hw'.has _ _ (by simp))) ?_
   generalize qN_ s a1 e1 32=q at*
   obtain⟨tt,a2,e2⟩:=q
   simp only at hq heq hil ⊢
   refine kn ?_
   with_reducible refine Ow.nil ?_
   refine⟨(bo,Obj.cells (roC (vp bw 0) v id0 (.slice none 0 0) []).toArray 294 (0,0)):: (bw, .cells #[vs s,vi a2,vi e2] 212 (0,0))::D,(by classical exact List.perm_iff_count.2 fun a=>by simp only[List.count_append,List.count_cons,List.count_nil]<;>omega),fun r hr=> ?_, ?_⟩
   ·rw[List.mem_singleton.1 hr]
    simp only[zF_]
   simp only[List.set_cons_zero,List.set_cons_succ,zO_,qO_,qM_]
   refine OwD.soft 10 _ hD rfl (by kernel_rfl) (fun E hE=> ?_)
   refine Ow.build (.agg (jA_ ⟨tt,kd,id0⟩).toArray) rfl (aex_ kd tt) ?_
   with_reducible refine Ow.nil ?_
   refine⟨_,List.Perm.refl _,fun _ _=>rfl, ?_⟩
   simp only[List.set_cons_zero,List.set_cons_succ,zO_,qO_,qM_]
   refine OwD.real [12] rfl hD (by kernel_rfl) (by kernel_rfl) (by kernel_rfl) (by kernel_rfl) (fun r hr=>by rw[List.mem_singleton.1 hr];exact .inl (by simp[keys])) ?_
   simp only[zh_, ↓zc_, ↓zb_, ↓zn_, ↓zo_,za_]
   intro b3 hw3 hbL
   simp only[qO_,qM_]
   have hst3:=qj_ ⟨tt,kd,id0⟩ wT_
   refine Ow.store rfl rfl rfl (L':=((bo,Obj.cells (roC (vp bw 0) v id0 (.slice none 0 0) []).toArray 294 (0,0)):: (bw, .cells #[vs s,vi a2,vi e2] 212 (0,0))::D)++ [(b3, .cells (jA_ ⟨tt,kd,id0⟩).toArray 268 (0,0))]) ?_ ?_
   ·simp only[qi_,qe_,qc_]
    rw[Tryz.ag268,v8_,Ji_ hbL,ze_,hst3,ZE_,Qf_ hbL]
    exact []
   refine ko @ka_ ?_
   refine Cw.permL (M:=(b3, .cells (jA_ ⟨tt,kd,id0⟩).toArray 268 (0,0)):: (bo,Obj.cells (roC (vp bw 0) v id0 (.slice none 0 0) []).toArray 294 (0,0)):: (bw, .cells #[vs s,vi a2,vi e2] 212 (0,0))::D) (by classical exact List.perm_iff_count.2 fun a=>by simp only[List.count_append,List.count_cons,List.count_nil]<;>omega) ?_
   have hb3o:bo≠b3:=by simp[keys] at hbL;omega
   have hb3w:bw≠b3:=by simp[keys] at hbL;omega
   first|with_reducible refine ks [] @ka_ ?_|refine kp @ka_ ?_
   refine Ow.callM rfl rfl Tryz.call97 (by simp[keys]) (fun w' hw'=>QZ_ bw s a2 e2 w' hq.2 (by omega) (hw'.has _ _ (by simp))) ?_
   generalize idR s a2 e2=i at*
   obtain⟨il,a3,e3⟩:=i
   simp only at heq hil ⊢
   obtain⟨I,hI⟩: ∃I,vV_ il=I:=⟨_,rfl⟩
   have hiI:il=I.l:=by rw[←hI,ZS_ hil]
   rw[hI] at heq
   rw[hiI]
   refine kn ?_
   refine ko @ka_ ?_
   generalize hx: ({name:=tt,kind:=kd,id:=I}:EntL)=x
   rw[hx] at heq
   rw[heq] at hJ'
   refine Cw.regionS [bo,b3] [0,1,2,3,4,5,6,7,8,9,10] [10] (by kernel_rfl) (by kernel_rfl) (by kernel_rfl) ?_
   simp only[zh_, ↓zc_, ↓zb_, ↓zn_, ↓zo_,za_]
   refine kq @ka_ ?_
   refine Ow.soft rfl rfl rfl ?_
   refine Ow.buildSlice (e:=268) (jA_ x).toArray rfl rfl (zX_ Tryz.underlying237 alJ_ agO_ (by decide) (xp_ x)) fun b13 hb13 hw13=> ?_
   have h3d:b3<b13:=zk_ hb13 (by simp[keys])
   with_reducible refine Ow.nil ?_
   refine⟨qH_ (by simp[keys]), ?_⟩
   try simp only[List.cons_append,List.nil_append]
   refine Ow.soft rfl rfl rfl ?_
   refine Ow.permL (M:=D++ [(b3,Obj.cells (jA_ x).toArray 268 (0,0)),(bo,Obj.cells (roC (vp bw 0) v id0 (.slice none 0 0) []).toArray 294 (0,0)),(bw, .cells #[vs s,vi a3,vi e3] 212 (0,0)),(b13,Obj.cells (jA_ x).toArray 268 (0,0))]) (by classical exact List.perm_iff_count.2 fun a=>by simp only[List.count_append,List.count_cons,List.count_nil]<;>omega) ?_
   refine Ow.appendX (e:=268) (k:=1) (new:=jA_ x) (X:=D) v rfl rfl rfl rfl Tryz.underlying237 alJ_ (by kernel_rfl) agO_ (by rw[qu_,List.size_toArray,xp_]) Tryz.underlying237 (by intro k h;cases h) hG (fun w' hw'=>AppX.one1 (hw'.has b13 (.cells (jA_ x).toArray 268 (0,0)) (by simp)) (xp_ _) (Vj_ _)) (by omega) (by have:=hJ.cnt;omega) (fun B v4 D4 hA4 hB4 hbuf hk1 hk2 hlk=> ?_)
   have hB3:b3<B:=zk_ hA4 (by simp[zj_,keys])
   have hN4:New w.heap.size D4:=New.of_le fun q hq=>by
    rcases hk2 q hq with h|h
    ·exact hN.le q h
    ·omega
   have ho4:bo∉keys D4:=hN4.not hob
   have h34:b3∉keys D4:=fun hm=>by
    rcases hk2 b3 hm with h|h
    ·exact hbL (by simp only[keys,List.map_cons,List.mem_cons];exact .inr (.inr h))
    ·omega
   with_reducible refine Ow.nil ?_
   refine⟨fun q hq=> ?_, ?_⟩
   ·simp only[List.mem_cons,List.not_mem_nil,or_false] at hq
    rcases hq with rfl|rfl
    ·rw[Qj_ ho4]
     simp(disch:=omega) only[zF_,zE_]
    ·rw[Qj_ h34]
     simp(disch:=omega) only[zF_,zE_]
   have hlko: ∀M,Sx.look (D4++M) bo=Sx.look M bo:=fun M=>qU_ ho4
   have hsbo: ∀M x,setB (D4++M) bo x=D4++setB M bo x:=fun M x=>JZ_ ho4
   have st1:=fun a E=>aiv_ (vp bw 0) v v4 id0 (.slice none 0 0) [] a E hbuf.cell
   have hst7:xK_ (z0_ Tryz.prog 237) (D4++ [(b3,Obj.cells (jA_ x).toArray 268 (0,0)),(bo,Obj.cells (roC (vp bw 0) v id0 (.slice none 0 0) []).toArray 294 (0,0)),(bw, .cells #[vs s,vi a3,vi e3] 212 (0,0)),(b13,Obj.cells (jA_ x).toArray 268 (0,0))]) (vp bo 1) v4=some (D4++ [(b3,Obj.cells (jA_ x).toArray 268 (0,0)),(bo,Obj.cells (roC (vp bw 0) v4 id0 (.slice none 0 0) []).toArray 294 (0,0)),(bw, .cells #[vs s,vi a3,vi e3] 212 (0,0)),(b13,Obj.cells (jA_ x).toArray 268 (0,0))]):=by
    rw[Tryz.ag237,v8_,hlko]
    simp(disch:=omega) only[zS_,q9_,st1,ZE_,hsbo,jW_,jm_]
   refine kq @ka_ ?_
   refine Ow.store rfl rfl rfl hst7 ?_
   refine ko @ka_ ?_
   refine Again.mk (EnH.mk m a3 e3 (l++ [x]) v4 (D4++ [(b3,Obj.cells (jA_ x).toArray 268 (0,0)),(b13,Obj.cells (jA_ x).toArray 268 (0,0))]) _) (by show m<m+1;omega) ⟨hJ',hN4.app ⟨by omega,by omega,trivial⟩, ?_, ?_⟩ rfl rfl
   ·show Gr _ _ _ _ (l++ [x]).length ((l++ [x]).map jA_).flatten
    rw[List.length_append,List.map_append,List.flatten_append,show([x].map jA_).flatten=jA_ x by simp]
    exact Gr.app (.inl hbuf)
   ·exact(by classical exact List.perm_iff_count.2 fun a=>by simp only[List.count_append,List.count_cons,List.count_nil]<;>omega)
  ·have hd:=hJ.done hc
   have hsh:=hJ.sh (by omega)
   have hcn:=hJ.cnt
   have h5:xY_ s a e≠5:=by
    unfold xY_
    by_cases he:e=0
    ·rw[if_neg (by simp[he]),if_neg (by omega)];decide
    ·rw[if_pos he];exact hJ.five
   have d1: (xY_ s a e==5)=false:=by simpa using h5
   have hE:Ext w [(bo,Obj.cells (roC (vp bw 0) (.slice none 0 0) id0 (.slice none 0 0) []).toArray 294 (0,0)),(bw,Obj.cells #[vs s,vi 0,vi 0] 212 (0,0))] ((bo,Obj.cells (roC (vp bw 0) v id0 (.slice none 0 0) []).toArray 294 (0,0)):: (bw,Obj.cells #[vs s,vi a,vi e] 212 (0,0))::D):=by
    refine⟨fun c hc=> ?_,fun c hc=> ?_⟩
    ·simp only[keys,List.map_cons,List.map_nil,List.mem_cons,List.not_mem_nil,or_false] at hc ⊢
     rcases hc with h|h|h
     ·exact .inl (.inl h)
     ·exact .inl (.inr h)
     ·exact .inr (hN.le c h)
    ·simp only[keys,List.map_cons,List.map_nil,List.mem_cons,List.not_mem_nil,or_false] at hc ⊢
     rcases hc with h|h
     ·exact .inl h
     ·exact .inr (.inl h)
   have hF:Gr ((bo,Obj.cells (roC (vp bw 0) v id0 (.slice none 0 0) []).toArray 294 (0,0)):: (bw,Obj.cells #[vs s,vi a,vi e] 212 (0,0))::D) 268 34 v l.length (l.map jA_).flatten:=hG.keep fun b o hb ho=>by
    have:=hN.le b (zw_ ho)
    simp(disch:=omega) only[q9_]
    exact ho
   unfold alU_
   rw[hd]
   refine ko (And.intro @ka_ @d1) ?_
   refine Ow.callFV rfl Tryz.call74 (fun w' hw'=>x4_ bw s a e w' (hw'.has _ _ (List.mem_cons_of_mem _ List.mem_cons_self))) ?_
   by_cases he:xY_ s a e=0
   ·have d2: (xY_ s a e==0)=true:=by simp[he]
    rw[d2]
    refine ko (And.intro @ka_ @d2) ?_
    refine Ow.callFV rfl Tryz.call230 (fun w' hw'=>Wx_ v l w' (hG.slM (fun b o hm=>hw'.has b o (by simp[hm])) rfl rfl xp_) (by omega) hsh) ?_
    refine ko @ka_ ?_
    first|with_reducible refine ks [] @ka_ ?_|refine kp @ka_ ?_
    refine⟨_,(ke @ka_), ?_⟩
    exact⟨hE,rfl,v,by simp only[zS_],hF⟩
   ·have d2: (xY_ s a e==0)=false:=by simpa using he
    rw[d2]
    refine ko (And.intro @ka_ @d2) ?_
    first|with_reducible refine ks [] @ka_ ?_|refine kp @ka_ ?_
    refine⟨_,(ke @ka_), ?_⟩
    exact⟨hE,rfl,v,by simp only[zS_],hF⟩
end Go.Proofs
end
section
open Go Go.Proofs Go.Sx Go.StP
namespace Go.Proofs
set_option maxRecDepth 10000
set_option maxHeartbeats 400000
set_option linter.unusedSimpArgs false
set_option linter.defProp false
def kP_:=And.intro (And.intro (And.intro (@xN_) (And.intro (@xS_) (@xV_))) (And.intro (And.intro (@j2_) (@j0_)) (And.intro (@KS_) (@Va_)))) (And.intro (And.intro (@VM_) (And.intro (@aac_) (@agI_))) (And.intro (And.intro (@afA_) (@kg_)) (And.intro (@zg_) (@zf_))))
structure CmH where
 g:Nat
 v:Value
 D:zd_
 H:zd_
def anN_ (bo bw:Nat) (s:List UInt8) (v:Value) (D:zd_):Prop:=
 v= .bool (xY_ s (ZX_ s).2.1 (ZX_ s).2.2==0&&VN_ (ZX_ s).1)∧ ∃p,Sx.look D bo=some (.cells (roC (vp bw 0) (.slice none 0 0) (ZX_ s).1.tree p (ZX_ s).1.text).toArray 294 (0,0))∧Gr D 37 32 p (ZX_ s).1.par.length ((ZX_ s).1.par.map wR_).flatten
theorem afn_ (bo bw:Nat) (s:List UInt8) (w:World) (hs:s.length<100000) (hne:bo≠bw)
  (ho:w.heap[bo]? =some (.cells (roC (vp bw 0) (.slice none 0 0) id0 (.slice none 0 0) []).toArray 294 (0,0))) (hr:w.heap[bw]? =some (.cells #[vs s,vi 0,vi 0] 212 (0,0))):
  Rets Tryz.prog 213 #[vp bo 0] w (XS w [(bo,Obj.cells (roC (vp bw 0) (.slice none 0 0) id0 (.slice none 0 0) []).toArray 294 (0,0)),(bw,Obj.cells #[vs s,vi 0,vi 0] 212 (0,0))] (anN_ bo bw s)):=by
 have hob:bo<w.heap.size:=(Array.getElem?_eq_some_iff.1 ho).1
 have hwb:bw<w.heap.size:=(Array.getElem?_eq_some_iff.1 hr).1
 refine Rets.enterX Tryz.func213 rfl (rs:= [.tmp 2]) Tryz.results213 Tryz.ntmps213 (ag7_ ho hr) (by simp[keys,hne]) ?_
 refine kf ?_
 first|with_reducible refine ks [] @kP_ ?_|refine kp @kP_ ?_
 refine Ow.callM rfl rfl Tryz.call97 (by simp[keys]) (fun w' hw'=>QZ_ bw s 0 0 w' (Nat.zero_le _) (by omega) (hw'.has _ _ (List.mem_cons_of_mem _ List.mem_cons_self))) ?_
 have ip:=aeg_ (s:=s) (a:=0) (e:=0) (Nat.zero_le _)
 have np:=z4_ (e:=(idR s 0 0).2.2) (most:=4) ip.2
 have nm:=qW_ (s:=s) (a:=(idR s 0 0).2.1) (e:=(idR s 0 0).2.2) (most:=4) (by decide)
 obtain⟨T,hT⟩: ∃T,vV_ (idR s 0 0).1=T:=⟨_,rfl⟩
 have hiT: (idR s 0 0).1=T.l:=by rw[←hT,ZS_ (J8_ s 0 0)]
 have hcE:ZX_ s=(⟨T,(comP s).1,(comT s).1⟩,(comT s).2):=by unfold ZX_;rw[hT]
 rw[hiT]
 refine kn ?_
 refine ko @kP_ ?_
 refine Ow.callM rfl rfl Tryz.call95 (by simp[keys]) (fun w' hw'=>qY_ bw s _ _ 4 w' ip.2 (by omega) (hw'.has _ _ (List.mem_cons_of_mem _ List.mem_cons_self))) ?_
 have hP:comP s=jj_ s (zu_ s (idR s 0 0).2.1 (idR s 0 0).2.2 4).2.1 (zu_ s (idR s 0 0).2.1 (idR s 0 0).2.2 4).2.2 (zu_ s (idR s 0 0).2.1 (idR s 0 0).2.2 4).1.toNat:=rfl
 generalize zu_ s (idR s 0 0).2.1 (idR s 0 0).2.2 4=nr at*
 obtain⟨cn,na,ne⟩:=nr
 simp only at np nm hP ⊢
 obtain⟨k,rfl⟩:=Int.eq_ofNat_of_zero_le nm.1
 rw[Int.toNat_natCast] at hP
 refine kn ?_
 refine ko @kP_ ?_
 refine Cw.loopG (G:=CmH) [18,19,20,21,22,23,24,25,26,27,28,29,30,31,32,33,34,35,17] (fun q=> [(17,vi q.g)]) (fun q=>q.H) (fun q=>q.g≤k∧New w.heap.size q.D∧Gr q.D 37 32 q.v q.g ((jj_ s na ne q.g).1.map wR_).flatten∧((bo,Obj.cells (roC (vp bw 0) (.slice none 0 0) T q.v []).toArray 294 (0,0)):: (bw,Obj.cells #[vs s,vi (jj_ s na ne q.g).2.1,vi (jj_ s na ne q.g).2.2] 212 (0,0))::q.D).Perm q.H) (fun q=>k - q.g) ⟨0, .slice none 0 0,[],[(bo,Obj.cells (roC (vp bw 0) (.slice none 0 0) T (.slice none 0 0) []).toArray 294 (0,0)),(bw,Obj.cells #[vs s,vi na,vi ne] 212 (0,0))]⟩ rfl rfl ?_ ?_
 ·exact⟨Nat.zero_le _,trivial,Gr.nl,List.Perm.refl _⟩
 ·intro q jq hq
  refine kv ?_
  obtain⟨g,v,D,H0⟩:=q
  simp only at hq ⊢
  obtain⟨hgk,hN,hG,hPm⟩:=hq
  refine Cw.permL hPm ?_
  clear hPm
  have gle:=ad4_ (e:=ne) np.2 g
  by_cases hlt:g<k
  ·have hgs:jj_ s na ne (g+1)=((jj_ s na ne g).1++ [vV_ (idR s (jj_ s na ne g).2.1 (jj_ s na ne g).2.2).1],(idR s (jj_ s na ne g).2.1 (jj_ s na ne g).2.2).2):=rfl
   first|with_reducible refine ks [] @kP_ ?_|refine kp @kP_ ?_
   refine Cw.regionS [bo] [0,1,2,3,4,6,7,8,5,9,10,11,12,13,14,15,16] [16] (by kernel_rfl) (by kernel_rfl) (by kernel_rfl) ?_
   simp only[zh_, ↓zc_, ↓zb_, ↓zn_, ↓zo_,za_]
   refine kq @kP_ ?_
   refine Ow.soft rfl rfl rfl ?_
   refine Ow.callM rfl rfl Tryz.call97 (by simp[keys]) (fun w' hw'=>QZ_ bw s (jj_ s na ne g).2.1 (jj_ s na ne g).2.2 w' gle (by omega) (hw'.has _ _ (List.mem_cons_of_mem _ List.mem_cons_self))) ?_
   with_reducible refine Ow.nil ?_
   refine⟨fun b hb=>Qs_ (by simp only[List.mem_cons,List.not_mem_nil,or_false] at hb;omega), ?_⟩
   have hil:=J8_ s (jj_ s na ne g).2.1 (jj_ s na ne g).2.2
   obtain⟨I,hI⟩: ∃I,vV_ (idR s (jj_ s na ne g).2.1 (jj_ s na ne g).2.2).1=I:=⟨_,rfl⟩
   have hiI: (idR s (jj_ s na ne g).2.1 (jj_ s na ne g).2.2).1=I.l:=by rw[←hI,ZS_ hil]
   rw[hI] at hgs
   have hg1: (jj_ s na ne (g+1)).1=(jj_ s na ne g).1++ [I]:=by rw[hgs]
   have hg2: (jj_ s na ne (g+1)).2=(idR s (jj_ s na ne g).2.1 (jj_ s na ne g).2.2).2:=by rw[hgs]
   rw[hiI,←hg2]
   refine kn ?_
   refine Ow.soft rfl rfl rfl ?_
   refine Ow.buildSlice (e:=37) (a8 I.l) rfl rfl (zX_ (cs:=I.l.map v8) Tryz.underlying30 Qv_ JH_ (by decide) (by simp[I.h])) fun b13 hb13 hw13=> ?_
   with_reducible refine Ow.nil ?_
   refine⟨qH_ (by simp[keys]), ?_⟩
   try simp only[List.cons_append,List.nil_append]
   refine Ow.soft rfl rfl rfl ?_
   refine Ow.permL (M:=D++ [(bo,Obj.cells (roC (vp bw 0) (.slice none 0 0) T v []).toArray 294 (0,0)),(bw,Obj.cells #[vs s,vi (jj_ s na ne (g+1)).2.1,vi (jj_ s na ne (g+1)).2.2] 212 (0,0)),(b13,Obj.cells (a8 I.l) 37 (0,0))]) (by classical exact List.perm_iff_count.2 fun a=>by simp only[List.count_append,List.count_cons,List.count_nil]<;>omega) ?_
   refine Ow.appendX (e:=37) (k:=1) (new:=wR_ I) (X:=D) v rfl rfl rfl rfl Tryz.underlying30 Qv_ (by kernel_rfl) JH_ (by rw[ze_,vh_,id0.h]) Tryz.underlying30 (by intro k h;cases h) hG (fun w' hw'=>AppX.one1 (hw'.has b13 (.cells (a8 I.l) 37 (0,0)) (by simp)) (jV_ I) (Zb_ I)) (by omega) (by omega) (fun B v4 D4 hA4 hB4 hbuf hk1 hk2 hlk=> ?_)
   have hN4:New w.heap.size D4:=New.of_le fun q hq=>by
    rcases hk2 q hq with h|h
    ·exact hN.le q h
    ·omega
   have ho4:bo∉keys D4:=hN4.not hob
   with_reducible refine Ow.nil ?_
   refine⟨fun q hq=> ?_, ?_⟩
   ·rw[List.mem_singleton] at hq
    subst hq
    rw[Qj_ ho4]
    simp only[zF_]
   have hlko: ∀M,Sx.look (D4++M) bo=Sx.look M bo:=fun M=>qU_ ho4
   have hsbo: ∀M x,setB (D4++M) bo x=D4++setB M bo x:=fun M x=>JZ_ ho4
   have st1:=fun a E=>afb_ (vp bw 0) (.slice none 0 0) T v v4 [] a E hbuf.cell
   have hst7:xK_ (z0_ Tryz.prog 30) (D4++ [(bo,Obj.cells (roC (vp bw 0) (.slice none 0 0) T v []).toArray 294 (0,0)),(bw,Obj.cells #[vs s,vi (jj_ s na ne (g+1)).2.1,vi (jj_ s na ne (g+1)).2.2] 212 (0,0)),(b13,Obj.cells (a8 I.l) 37 (0,0))]) (vp bo 34) v4=some (D4++ [(bo,Obj.cells (roC (vp bw 0) (.slice none 0 0) T v4 []).toArray 294 (0,0)),(bw,Obj.cells #[vs s,vi (jj_ s na ne (g+1)).2.1,vi (jj_ s na ne (g+1)).2.2] 212 (0,0)),(b13,Obj.cells (a8 I.l) 37 (0,0))]):=by
    rw[Tryz.ag30,v8_,hlko]
    simp(disch:=omega) only[zS_,q9_,st1,ZE_,hsbo,jW_,jm_]
   refine kq @kP_ ?_
   refine Ow.store rfl rfl rfl hst7 ?_
   refine ko @kP_ ?_
   refine Again.mk (CmH.mk (g+1) v4 (D4++ [(b13,Obj.cells (a8 I.l) 37 (0,0))]) _) (by show k - (g+1)<k - g;omega) ⟨by show g+1≤k;omega,hN4.app ⟨by omega,trivial⟩, ?_, ?_⟩ rfl rfl
   ·show Gr _ _ _ _ (g+1) ((jj_ s na ne (g+1)).1.map wR_).flatten
    rw[hg1,List.map_append,List.flatten_append,show([I].map wR_).flatten=wR_ I by simp]
    exact Gr.app (.inl hbuf)
   ·exact(by classical exact List.perm_iff_count.2 fun a=>by simp only[List.count_append,List.count_cons,List.count_nil]<;>omega)
  ·obtain rfl:g=k:=by omega
   rw[←hP] at hG
   rw[←hP] at gle
   rw[←hP]
   have tp:=ZB_ (e:=(comP s).2.2) (most:=64) gle
   first|with_reducible refine ks [] @kP_ ?_|refine kp @kP_ ?_
   refine Ow.callM rfl rfl Tryz.call96 (by simp[keys]) (fun w' hw'=>wq_ bw s (comP s).2.1 (comP s).2.2 64 w' gle (by omega) (hw'.has _ _ (List.mem_cons_of_mem _ List.mem_cons_self))) ?_
   refine kn ?_
   refine ko @kP_ ?_
   have hT2:comT s=qN_ s (comP s).2.1 (comP s).2.2 64:=rfl
   have htl:=V7_ s (comP s).2.1 (comP s).2.2 64
   rw[hT2] at hcE
   generalize qN_ s (comP s).2.1 (comP s).2.2 64=tx at*
   obtain⟨tt,a3,e3⟩:=tx
   simp only at tp hcE htl ⊢
   have hPl: (comP s).1.length=g:=by rw[hP,WA_]
   generalize (comP s).1=pl at*
   have hC: ∀w',Hp w ((bo,Obj.cells (roC (vp bw 0) (.slice none 0 0) T v tt).toArray 294 (0,0)):: (bw,Obj.cells #[vs s,vi a3,vi e3] 212 (0,0))::D) w'→ComS w' (.agg (wy_ T v tt).toArray) ⟨T,pl,tt⟩:=fun w' hw'=>
    ⟨v,rfl,hG.slM (fun b o hm=>hw'.has b o (by simp[hm])) hPl rfl jV_⟩
   have hE:Ext w [(bo,Obj.cells (roC (vp bw 0) (.slice none 0 0) id0 (.slice none 0 0) []).toArray 294 (0,0)),(bw,Obj.cells #[vs s,vi 0,vi 0] 212 (0,0))] ((bo,Obj.cells (roC (vp bw 0) (.slice none 0 0) T v tt).toArray 294 (0,0)):: (bw,Obj.cells #[vs s,vi a3,vi e3] 212 (0,0))::D):=by
    refine⟨fun c hc=> ?_,fun c hc=> ?_⟩
    ·simp only[keys,List.map_cons,List.map_nil,List.mem_cons,List.not_mem_nil,or_false] at hc ⊢
     rcases hc with h|h|h
     ·exact .inl (.inl h)
     ·exact .inl (.inr h)
     ·exact .inr (hN.le c h)
    ·simp only[keys,List.map_cons,List.map_nil,List.mem_cons,List.not_mem_nil,or_false] at hc ⊢
     rcases hc with h|h
     ·exact .inl h
     ·exact .inr (.inl h)
   have hF:Gr ((bo,Obj.cells (roC (vp bw 0) (.slice none 0 0) T v tt).toArray 294 (0,0)):: (bw,Obj.cells #[vs s,vi a3,vi e3] 212 (0,0))::D) 37 32 v pl.length (pl.map wR_).flatten:=by
    rw[hPl]
    exact hG.keep fun b o hb ho=>by
     have:=hN.le b (zw_ ho)
     simp(disch:=omega) only[q9_]
     exact ho
   unfold anN_
   rw[hcE]
   refine Ow.callFV rfl Tryz.call74 (fun w' hw'=>x4_ bw s a3 e3 w' (hw'.has _ _ (List.mem_cons_of_mem _ List.mem_cons_self))) ?_
   by_cases he:xY_ s a3 e3=0
   ·have d2: (xY_ s a3 e3==0)=true:=by simp[he]
    rw[d2]
    refine ko (And.intro @kP_ @d2) ?_
    refine Ow.callFV rfl Tryz.call231 (fun w' hw'=>acr_ _ _ w' (hC w' hw') (by show pl.length<1000000;omega) (by show tt.length<1099511627776;omega)) ?_
    refine ko @kP_ ?_
    first|with_reducible refine ks [] @kP_ ?_|refine kp @kP_ ?_
    refine⟨_,(ke @kP_), ?_⟩
    exact⟨hE,rfl,v,by simp only[zS_],hF⟩
   ·have d2: (xY_ s a3 e3==0)=false:=by simpa using he
    rw[d2]
    refine ko (And.intro @kP_ @d2) ?_
    first|with_reducible refine ks [] @kP_ ?_|refine kp @kP_ ?_
    refine⟨_,(ke @kP_), ?_⟩
    exact⟨hE,rfl,v,by simp only[zS_],hF⟩
end Go.Proofs
end
section
open Go Go.Proofs Go.Sx Go.StP
namespace Go.Proofs
set_option maxRecDepth 10000
set_option maxHeartbeats 400000
set_option linter.unusedSimpArgs false
theorem abM_ (v:Value) (w:World):Rets Tryz.prog 211 #[v] w (fun v' D=>v'= .bool true∧D= []):=by
 refine Rets.enterV Tryz.func211 rfl (rs:= [.tmp 2]) Tryz.results211 Tryz.ntmps211 ?_
 refine kf ?_
 first|with_reducible refine ks [] @Nat.add_zero ?_|refine kp @Nat.add_zero ?_
 refine⟨_,(ke @Nat.add_zero),trivial, ?_⟩
 rfl
abbrev obV (k:Int) (t:List UInt8):Value:= .agg #[vi k,vs t]
theorem q2_ (k:Int) (t:List UInt8) (E:TypeId) (fz:Nat×Nat):zr_ (some (true,2)) (some (.cells #[vi k,vs t] E fz)) 0=some (obV k t):=(rfl)
theorem qp_ (k:Int) (t:List UInt8) (n:Nat) (E:TypeId) (fz:Nat×Nat):zr_ (some (false,n)) (some (.cells #[vi k,vs t] E fz)) 0=some (vi k):=(rfl)
theorem qo_ (k:Int) (t:List UInt8) (n:Nat) (E:TypeId) (fz:Nat×Nat):zr_ (some (false,n)) (some (.cells #[vi k,vs t] E fz)) 1=some (vs t):=(rfl)
theorem qA_ (k k':Int) (t t':List UInt8) (a:Bool) (E:TypeId):zp_ (some (a,2)) (some (.cells #[vi k',vs t'] E (0,0))) 0 (obV k t)=some (.cells #[vi k,vs t] E (0,0)):=(rfl)
set_option linter.defProp false
def jy_:=And.intro (And.intro (@q2_) (And.intro (@qp_) (@qo_))) (And.intro (@qA_) (And.intro (@zg_) (@zf_)))
def fnV (k:Nat):Value:= .func (.func k) #[] #[]
def fnsV:Array Value:= #[.nilFunc,fnV 211,fnV 212,fnV 213]
abbrev T4:TypeId:=292
theorem ah0_:qg_ (kt_ Tryz.prog T4) (zK_ Tryz.prog T4) [(1,fnV 211),(2,fnV 212),(3,fnV 213)]=some (.agg fnsV):=by
 have hp:kt_ Tryz.prog T4=some [(0,1),(1,1),(2,1),(3,1)]:=id (by kernel_rfl)
 have hz:zK_ Tryz.prog T4=some (.agg #[.nilFunc, .nilFunc, .nilFunc, .nilFunc]):=id (by kernel_rfl)
 rw[hp,hz];rfl
theorem apD_:zK_ Tryz.prog T4=some (.agg #[.nilFunc, .nilFunc, .nilFunc, .nilFunc]):=id (by kernel_rfl)
theorem agC_ (a:Bool) (E:TypeId):zp_ (some (a,4)) (some (.cells #[.nilFunc, .nilFunc, .nilFunc, .nilFunc] E (0,0))) 0 (.agg fnsV)=some (.cells fnsV E (0,0)):=(rfl)
theorem aj2_ (x:Value) (hx:x.cells= #[x]):qg_ (kt_ Tryz.prog 294) (zK_ Tryz.prog 294) [(0,x)]=some (.agg (roC x (.slice none 0 0) id0 (.slice none 0 0) []).toArray):=by
 have hp:kt_ Tryz.prog 294=some [(0,1),(1,1),(2,34)]:=id (by kernel_rfl)
 have hz:zK_ Tryz.prog 294=some (.agg (roC (.pointer none) (.slice none 0 0) id0 (.slice none 0 0) []).toArray):=id (by kernel_rfl)
 rw[hp,hz]
 simp only[qg_,fillV,List.getElem?_cons_zero,hx]
 rfl
def w8_ (k:Int) (t:List UInt8):Bool:=
 if 1≤k∧k≤3∧t.length≤4096 then
  (if k=1 then true else if k=2 then(xY_ t (kK_ t).2.1 (kK_ t).2.2==0&&ZR_ (kK_ t).1) else(xY_ t (ZX_ t).2.1 (ZX_ t).2.2==0&&VN_ (ZX_ t).1))
 else false
def RdS (k:Int) (t:List UInt8) (v:Value) (D:zd_):Prop:=
 ∃p,v= .tuple #[p, .bool (w8_ k t)]∧(1≤k∧k≤3∧t.length≤4096→ ∃bo bw v1 c1 x1 y1,p=vp bo 0∧Sx.look D bo=some (.cells (roC (vp bw 0) v1 c1 x1 y1).toArray 294 (0,0))∧
  (k=2→Gr D 268 34 v1 (kK_ t).1.length ((kK_ t).1.map jA_).flatten)∧
  (k=3→c1=(ZX_ t).1.tree∧y1=(ZX_ t).1.text∧Gr D 37 32 x1 (ZX_ t).1.par.length ((ZX_ t).1.par.map wR_).flatten)∧(k≠2→v1= .slice none 0 0))
theorem af2_ (k:Int) (t:List UInt8) (w:World):Rets Tryz.prog 179 #[obV k t] w (XS w [] (RdS k t)):=by
 refine Rets.enterX Tryz.func179 rfl (rs:= [.tmp 2, .tmp 3]) Tryz.results179 Tryz.ntmps179 (fun p hp=>by cases hp) (by simp[keys]) ?_
 refine kf ?_
 first|with_reducible refine ks [] @jy_ ?_|refine kp @jy_ ?_
 refine Ow.box rfl rfl fun b1 hb1 hw1=> ?_
 simp only[qi_,qe_,qc_,ze_,List.nil_append]
 refine ko @jy_ ?_
 refine Ow.build (.agg fnsV) rfl ah0_ ?_
 refine ko @jy_ ?_
 refine Ow.alloc rfl rfl apD_ fun b4 hb4 hw4=> ?_
 simp only[ze_,List.nil_append,List.cons_append]
 have h14:b1<b4:=zk_ hb4 (by simp[keys])
 refine ko (And.intro @jy_ @agC_) ?_
 by_cases h1:k<1
 ·have d1:decide (k<1)=true:=decide_eq_true h1
  have e:w8_ k t=false:=by unfold w8_;rw[if_neg (by omega)]
  first|with_reducible refine ks [] (And.intro @jy_ @d1) ?_|refine kp (And.intro @jy_ @d1) ?_
  refine⟨_,(ke @jy_), ?_⟩
  exact⟨Ext.of_new ⟨hw1,hw4,trivial⟩, .pointer none,by rw[e];rfl,fun h=>absurd h.1 (by omega)⟩
 ·have d1:decide (k<1)=false:=decide_eq_false h1
  by_cases h2:3<k
  ·have d2:decide (3<k)=true:=decide_eq_true h2
   have e:w8_ k t=false:=by unfold w8_;rw[if_neg (by omega)]
   first|with_reducible refine ks [] (And.intro @jy_ (And.intro @d1 (@d2))) ?_|refine kp (And.intro @jy_ (And.intro @d1 (@d2))) ?_
   refine⟨_,(ke @jy_), ?_⟩
   exact⟨Ext.of_new ⟨hw1,hw4,trivial⟩, .pointer none,by rw[e];rfl,fun h=>absurd h.2.1 (by omega)⟩
  ·have d2:decide (3<k)=false:=decide_eq_false h2
   by_cases h3:4096<t.length
   ·have d3:decide (4096< (t.length:Int))=true:=decide_eq_true (by omega)
    have e:w8_ k t=false:=by unfold w8_;rw[if_neg (by omega)]
    first|with_reducible refine ks [] (And.intro @jy_ (And.intro @d1 (And.intro @d2 (@d3)))) ?_|refine kp (And.intro @jy_ (And.intro @d1 (And.intro @d2 (@d3)))) ?_
    refine⟨_,(ke @jy_), ?_⟩
    exact⟨Ext.of_new ⟨hw1,hw4,trivial⟩, .pointer none,by rw[e];rfl,fun h=>absurd h.2.2 (by omega)⟩
   ·have d3:decide (4096< (t.length:Int))=false:=decide_eq_false (by omega)
    first|with_reducible refine ks [] (And.intro @jy_ (And.intro @d1 (And.intro @d2 (@d3)))) ?_|refine kp (And.intro @jy_ (And.intro @d1 (And.intro @d2 (@d3)))) ?_
    refine Ow.callF rfl rfl Tryz.call71 (S:=fun B v D=> ∃b',B≤b'∧v=vp b' 0∧D= [(b', .cells #[vs t,vi 0,vi 0] 212 (0,0))]) (fun w' hw'=>v3_ t w') ?_
    rintro B v D hab hB ⟨bw,hbw,rfl,rfl⟩
    obtain⟨h1B,h4B,-⟩:=hab
    refine⟨_,Mrg.fresh (by intro q hq;simp only[keys,List.map_cons,List.map_nil,List.mem_singleton] at hq;omega), ?_⟩
    simp only[List.cons_append,List.nil_append]
    refine ko @jy_ ?_
    refine Ow.build (.agg (roC (vp bw 0) (.slice none 0 0) id0 (.slice none 0 0) []).toArray) rfl (aj2_ _ rfl) ?_
    refine ko @jy_ ?_
    refine Ow.box rfl rfl fun bo hbo hwo=> ?_
    simp only[qi_,qe_,qc_,ze_,List.nil_append,List.cons_append]
    have hobw:bo≠bw:=by have:=zk_ hbo (show bw∈keys _ by simp[keys]);omega
    rcases(show k=1∨k=2∨k=3 by omega) with rfl|rfl|rfl
    ·have lf: ∀n E fz,zr_ (some (false,n)) (some (.cells fnsV E fz)) 1=some (fnV 211):=fun _ _ _=>rfl
     have e:w8_ 1 t=true:=by unfold w8_;rw[if_pos (by omega)];rfl
     refine ko (And.intro @jy_ @lf) ?_
     refine Ow.callV rfl rfl Tryz.call211 (fun w' hw'=>by have:=abM_ (vp bo 0) w';simpa [qi_,qc_,qe_] using this) ?_
     refine ko @jy_ ?_
     first|with_reducible refine ks [] @jy_ ?_|refine kp @jy_ ?_
     refine⟨_,(ke @jy_), ?_⟩
     refine⟨Ext.of_new ⟨hw1,hw4,by omega,hwo,trivial⟩,vp bo 0,by rw[e];rfl,fun h=>⟨bo,bw, .slice none 0 0,id0, .slice none 0 0,[],rfl, ?_,fun h=>absurd h (by decide),fun h=>absurd h (by decide),fun _=>rfl⟩⟩
     have hb1o:b1≠bo:=by have:=zk_ hbo (show b1∈keys _ by simp[keys]);omega
     have hb4o:b4≠bo:=by have:=zk_ hbo (show b4∈keys _ by simp[keys]);omega
     simp(disch:=omega) only[zS_,q9_]
    ·have lf: ∀n E fz,zr_ (some (false,n)) (some (.cells fnsV E fz)) 2=some (fnV 212):=fun _ _ _=>rfl
     have e:w8_ 2 t=(xY_ t (kK_ t).2.1 (kK_ t).2.2==0&&ZR_ (kK_ t).1):=by unfold w8_;rw[if_pos (by omega)];rfl
     refine ko (And.intro @jy_ @lf) ?_
     refine Ow.permL (M:= [(bo,Obj.cells (roC (vp bw 0) (.slice none 0 0) id0 (.slice none 0 0) []).toArray 294 (0,0)),(bw,Obj.cells #[vs t,vi 0,vi 0] 212 (0,0))]++ [(b1,Obj.cells #[vi 2,vs t] 43 (0,0)),(b4,Obj.cells fnsV 292 (0,0))]) (by classical exact List.perm_iff_count.2 fun a=>by simp only[List.count_append,List.count_cons,List.count_nil]<;>omega) ?_
     refine Ow.callFnX (b:=vp bo 0) (X:= [(bo,Obj.cells (roC (vp bw 0) (.slice none 0 0) id0 (.slice none 0 0) []).toArray 294 (0,0)),(bw,Obj.cells #[vs t,vi 0,vi 0] 212 (0,0))]) (Y:= [(b1,Obj.cells #[vi 2,vs t] 43 (0,0)),(b4,Obj.cells fnsV 292 (0,0))]) rfl rfl rfl rfl rfl Tryz.call212 (fun w' hw' hX hn=>abB_ bo bw t w' (by omega) hobw (hX _ List.mem_cons_self) (hX _ (List.mem_cons_of_mem _ List.mem_cons_self))) (fun v D hC hS=> ?_)
     obtain⟨rfl,v1,hl1,hg1⟩:=hS
     have hNX:New w.heap.size (D++ [(b1,Obj.cells #[vi 2,vs t] 43 (0,0)),(b4,Obj.cells fnsV 292 (0,0))]):=by
      refine New.of_le fun c hc=> ?_
      rw[zj_,List.mem_append] at hc
      rcases hc with hc|hc
      ·rcases hC.new c hc with h| ⟨-,h⟩
       ·simp only[keys,List.map_cons,List.map_nil,List.mem_cons,List.not_mem_nil,or_false] at h;omega
       ·exact h
      ·simp only[keys,List.map_cons,List.map_nil,List.mem_cons,List.not_mem_nil,or_false] at hc;omega
     refine ko @jy_ ?_
     first|with_reducible refine ks [] @jy_ ?_|refine kp @jy_ ?_
     refine⟨_,(ke @jy_), ?_⟩
     exact⟨Ext.of_new hNX,vp bo 0,by rw[e];rfl,fun _=>⟨bo,bw,v1,_,_,_,rfl,je_ hl1,fun _=>hg1.app,fun h=>absurd h (by decide),fun h=>absurd rfl h⟩⟩
    ·have lf: ∀n E fz,zr_ (some (false,n)) (some (.cells fnsV E fz)) 3=some (fnV 213):=fun _ _ _=>rfl
     have e:w8_ 3 t=(xY_ t (ZX_ t).2.1 (ZX_ t).2.2==0&&VN_ (ZX_ t).1):=by unfold w8_;rw[if_pos (by omega)];rfl
     refine ko (And.intro @jy_ @lf) ?_
     refine Ow.permL (M:= [(bo,Obj.cells (roC (vp bw 0) (.slice none 0 0) id0 (.slice none 0 0) []).toArray 294 (0,0)),(bw,Obj.cells #[vs t,vi 0,vi 0] 212 (0,0))]++ [(b1,Obj.cells #[vi 3,vs t] 43 (0,0)),(b4,Obj.cells fnsV 292 (0,0))]) (by classical exact List.perm_iff_count.2 fun a=>by simp only[List.count_append,List.count_cons,List.count_nil]<;>omega) ?_
     refine Ow.callFnX (b:=vp bo 0) (X:= [(bo,Obj.cells (roC (vp bw 0) (.slice none 0 0) id0 (.slice none 0 0) []).toArray 294 (0,0)),(bw,Obj.cells #[vs t,vi 0,vi 0] 212 (0,0))]) (Y:= [(b1,Obj.cells #[vi 3,vs t] 43 (0,0)),(b4,Obj.cells fnsV 292 (0,0))]) rfl rfl rfl rfl rfl Tryz.call213 (fun w' hw' hX hn=>afn_ bo bw t w' (by omega) hobw (hX _ List.mem_cons_self) (hX _ (List.mem_cons_of_mem _ List.mem_cons_self))) (fun v D hC hS=> ?_)
     obtain⟨rfl,p1,hl1,hg1⟩:=hS
     have hNX:New w.heap.size (D++ [(b1,Obj.cells #[vi 3,vs t] 43 (0,0)),(b4,Obj.cells fnsV 292 (0,0))]):=by
      refine New.of_le fun c hc=> ?_
      rw[zj_,List.mem_append] at hc
      rcases hc with hc|hc
      ·rcases hC.new c hc with h| ⟨-,h⟩
       ·simp only[keys,List.map_cons,List.map_nil,List.mem_cons,List.not_mem_nil,or_false] at h;omega
       ·exact h
      ·simp only[keys,List.map_cons,List.map_nil,List.mem_cons,List.not_mem_nil,or_false] at hc;omega
     refine ko @jy_ ?_
     first|with_reducible refine ks [] @jy_ ?_|refine kp @jy_ ?_
     refine⟨_,(ke @jy_), ?_⟩
     exact⟨Ext.of_new hNX,vp bo 0,by rw[e];rfl,fun _=>⟨bo,bw,_,_,p1,_,rfl,je_ hl1,fun h=>absurd h (by decide),fun _=>⟨rfl,rfl,hg1.app⟩,fun _=>rfl⟩⟩
end Go.Proofs
end
section
open Go Go.Proofs Go.Sx Go.StP
namespace Go.Proofs
set_option maxRecDepth 10000
set_option maxHeartbeats 400000
set_option linter.unusedSimpArgs false
set_option linter.defProp false
def aa4_:=And.intro (And.intro (And.intro (@q2_) (@qp_)) (And.intro (@qo_) (@qA_))) (And.intro (And.intro (@Sx.tup2_0) (@Sx.tup2_1)) (And.intro (@zg_) (@zf_)))
theorem JF_ (k:Int) (t:List UInt8) (w:World):Rets Tryz.prog 156 #[obV k t] w (fun v D=>v= .bool (w8_ k t)∧D= []):=by
 refine Rets.enterV Tryz.func156 rfl (rs:= [.tmp 2]) Tryz.results156 Tryz.ntmps156 ?_
 refine kf ?_
 first|with_reducible refine ks [] @aa4_ ?_|refine kp @aa4_ ?_
 refine Ow.box rfl rfl fun b1 hb1 hw1=> ?_
 simp only[qi_,qe_,qc_,ze_,List.nil_append]
 refine ko @aa4_ ?_
 refine Ow.callC rfl rfl Tryz.call179 (fun w' hw'=>af2_ k t w') (fun B v D hA hB hN hS=> ?_)
 obtain⟨p,rfl,-⟩:=hS
 refine ko @aa4_ ?_
 first|with_reducible refine ks [] @aa4_ ?_|refine kp @aa4_ ?_
 refine⟨_,(ke @aa4_),⟨hw1,New.mono hB hN⟩, ?_⟩
 rfl
def ary_ (k:Int) (t:List UInt8) (ok:Bool):Int:=if ok&&w8_ k t then k else 0
def ar5_ (k:Int) (t:List UInt8) (ok:Bool):List UInt8:=if ok&&w8_ k t then t else []
def aq5_ (k:Int) (t:List UInt8) (ok:Bool):Int:=if ok&&w8_ k t then 0 else 1
theorem zrOb:zK_ Tryz.prog 43=some (obV 0 []):=id (by kernel_rfl)
theorem Ww_:qg_ (kt_ Tryz.prog 43) (zK_ Tryz.prog 43) []=some (obV 0 []):=by
 have hp:kt_ Tryz.prog 43=some [(0,1),(1,1)]:=id (by kernel_rfl)
 rw[hp,zrOb];rfl
theorem ai5_ (k:Int) (t:List UInt8):qg_ (kt_ Tryz.prog 43) (zK_ Tryz.prog 43) [(0,vi k),(1,vs t)]=some (obV k t):=by
 have hp:kt_ Tryz.prog 43=some [(0,1),(1,1)]:=id (by kernel_rfl)
 rw[hp,zrOb];rfl
end Go.Proofs
end
section
open Go Go.Proofs Go.Sx Go.StP
namespace Go.Proofs
set_option maxRecDepth 10000
set_option maxHeartbeats 400000
set_option linter.unusedSimpArgs false
set_option linter.defProp false
def aqZ_:=And.intro (And.intro (And.intro (@q2_) (And.intro (@qp_) (@qo_))) (And.intro (@qA_) (And.intro (@Sx.tup2_0) (@Sx.tup2_1)))) (And.intro (And.intro (@wa_) (And.intro (@v1_) (@vU_))) (And.intro (And.intro (@ZH_) (@kg_)) (And.intro (@zg_) (@zf_))))
theorem BldAt.zeroE (b:Nat) {L:zd_} (h:Sx.look L b=some (.cells #[.pointer none, .slice none 0 0] 123 (0,0))):BldAt b [] L:=
 ⟨_,_,h, .inl rfl, .nl,fun h=>by cases h⟩
theorem zrWr:zK_ Tryz.prog 123=some (.agg #[.pointer none, .slice none 0 0]):=id (by kernel_rfl)
theorem aht_ (x:IdL):wO_ Tryz.prog 30 1 [(0, .agg (a8 x.l))]=some (37,a8 x.l):=zX_ (cs:=x.l.map v8) Tryz.underlying30 Qv_ JH_ (by decide) (by simp[x.h])
theorem ahE_ (x:IdL) {w':World} {b:Nat} (h:w'.heap[b]? =some (.cells (a8 x.l) 37 (0,0))):RowS 32 wR_ id0 w' (vsl b 0 1 1) [x] b 0 (a8 x.l) 37 (0,0):=RowS.sl rfl h (by
 intro k hk j hj
 obtain rfl:k=0:=by simpa using hk
 simp only[Nat.zero_mul,Nat.zero_add,List.getD_cons_zero]
 rw[←J9_,List.getElem?_toArray])
theorem Came.newE {w0:World} {L X D:zd_} {b:Nat} (hC:Came w0 L X D) (hN:New (b+1) X) (hb:b∈keys L):New (b+1) D:=New.of_le fun c hc=>by
 rcases hC.new c hc with h| ⟨h,-⟩
 ·exact hN.le c h
 ·have:=zk_ h hb;omega
end Go.Proofs
end
section
open Go Go.Proofs Go.Sx Go.StP
namespace Go.Proofs
set_option maxRecDepth 10000
set_option maxHeartbeats 400000
set_option linter.unusedSimpArgs false
set_option linter.defProp false
def arJ_:=And.intro (And.intro (And.intro (@q2_) (And.intro (@qp_) (@qo_))) (And.intro (And.intro (@qA_) (@Sx.tup2_0)) (And.intro (@Sx.tup2_1) (@k6_)))) (And.intro (And.intro (@v6_) (And.intro (@v0_) (@jp_))) (And.intro (And.intro (@qj_) (@qu_)) (And.intro (@zg_) (@zf_))))
structure WrG where
 g:Nat
 D:zd_
end Go.Proofs
end
section
open Go Go.Proofs Go.Sx Go.StP
namespace Go.Proofs
set_option maxRecDepth 10000
set_option maxHeartbeats 400000
set_option linter.unusedSimpArgs false
theorem ai0_ {k:Int} {t:List UInt8} (h:w8_ k t=true):1≤k∧k≤3∧t.length≤4096:=by
 unfold w8_ at h
 split at h
 ·assumption
 ·cases h
set_option linter.defProp false
def arC_:=And.intro (And.intro (And.intro (@q2_) (@qp_)) (And.intro (@qo_) (And.intro (@qA_) (@Sx.tup2_0)))) (And.intro (And.intro (@Sx.tup2_1) (And.intro (@KS_) (@Va_))) (And.intro (@VM_) (And.intro (@zg_) (@zf_))))
def arP_ (k:Int) (t:List UInt8) (v:Value) (D:zd_):Prop:=
 if w8_ k t=true∧k=2 then∃v1,v= .tuple #[v1,vi 0]∧Gr D 268 34 v1 (kK_ t).1.length ((kK_ t).1.map jA_).flatten else v= .tuple #[.slice none 0 0,vi 1]
def arf_ (k:Int) (t:List UInt8) (v:Value) (D:zd_):Prop:=
 if w8_ k t=true∧k=3 then∃p,v= .tuple #[.agg (wy_ (ZX_ t).1.tree p (ZX_ t).1.text).toArray,vi 0]∧Gr D 37 32 p (ZX_ t).1.par.length ((ZX_ t).1.par.map wR_).flatten else v= .tuple #[.agg (wy_ id0 (.slice none 0 0) []).toArray,vi 1]
end Go.Proofs
end
section
open Go Go.Proofs Go.Sx Go.StP
namespace Go.Proofs
set_option maxRecDepth 10000
set_option maxHeartbeats 400000
set_option linter.unusedSimpArgs false
set_option linter.defProp false
def wg_:=And.intro (And.intro (And.intro (@q2_) (@qp_)) (And.intro (@qo_) (@qA_))) (And.intro (And.intro (@Sx.tup2_0) (@Sx.tup2_1)) (And.intro (@zg_) (@zf_)))
def ZM_ (k:Int):List UInt8:=(([32,98,116,99]:List UInt8).take (k+1).toNat).drop k.toNat
def kG_ (k:Int) (t:List UInt8):List UInt8:=ZM_ k++xD_ t
theorem acQ_ (k:Int) (t:List UInt8) (w:World):Rets Tryz.prog 159 #[obV k t] w (XS w [] (fun v _=>v=if w8_ k t then .tuple #[vs (kG_ k t),vi 0] else .tuple #[vs [],vi 1])):=by
 refine Rets.enterX Tryz.func159 rfl (rs:= [.tmp 2, .tmp 3]) Tryz.results159 Tryz.ntmps159 (fun p hp=>by cases hp) (by simp[keys]) ?_
 refine kf ?_
 first|with_reducible refine ks [] @wg_ ?_|refine kp @wg_ ?_
 refine Ow.box rfl rfl fun b1 hb1 hw1=> ?_
 simp only[qi_,qe_,qc_,ze_,List.nil_append]
 refine ko @wg_ ?_
 refine Ow.callFV rfl Tryz.call156 (fun w' hw'=>JF_ k t w') ?_
 cases hr:w8_ k t
 ·refine ko @wg_ ?_
  first|with_reducible refine ks [] @wg_ ?_|refine kp @wg_ ?_
  refine⟨_,(ke @wg_), ?_⟩
  exact⟨Ext.of_new ⟨hw1,trivial⟩,rfl⟩
 ·obtain⟨hk1,hk3,htl⟩:=ai0_ hr
  have hhl: (ZM_ k).length≤4:=by unfold ZM_;simp only[List.length_drop,List.length_take,List.length_cons,List.length_nil];omega
  refine ko @wg_ ?_
  refine Ow.alloc rfl rfl zrWr fun b4 hb4 hw4=> ?_
  simp only[ze_,List.nil_append,List.cons_append]
  have h14:b1<b4:=zk_ hb4 (by simp[keys])
  refine Ow.permL (M:= [(b4,Obj.cells #[.pointer none, .slice none 0 0] 123 (0,0))]++ [(b1,Obj.cells #[vi k,vs t] 43 (0,0))]) (by classical exact List.perm_iff_count.2 fun a=>by simp only[List.count_append,List.count_cons,List.count_nil]<;>omega) ?_
  have hB0:BldAt b4 [] [(b4,Obj.cells #[.pointer none, .slice none 0 0] 123 (0,0))]:=BldAt.zeroE b4 (zS_ _ _ _)
  have hN0:New (b1+1) [(b4,Obj.cells #[.pointer none, .slice none 0 0] 123 (0,0))]:=⟨by omega,trivial⟩
  generalize [(b4,Obj.cells #[.pointer none, .slice none 0 0] 123 (0,0))]=D0 at hB0 hN0 ⊢
  have rdc: ∀ {D},New (b1+1) D→ ∀M,zy_ w (D++ (b1,Obj.cells #[vi k,vs t] 43 (0,0))::M) b1=some (.cells #[vi k,vs t] 43 (0,0)):=fun hn M=>qd_ (by rw[qU_ (hn.not (by omega))];exact zS_ _ _ _)
  have r0:=rdc hN0
  have hsl:jx_ .str (vs ([32,98,116,99]:List UInt8)) (some (some k)) (some (some (k+1)))=some (vs (ZM_ k)):=wL_ _ _ _ ⟨by omega,by omega,by simp only[List.length_cons,List.length_nil];omega⟩
  refine ko (And.intro @wg_ (And.intro @r0 (@hsl))) ?_
  refine Ow.buildSlice (e:=9) #[vs (ZM_ k)] rfl rfl (by kernel_rfl) fun b14 hb14 hw14=> ?_
  have h114:b1<b14:=zk_ hb14 (by simp[keys])
  have hD14:b14∉keys D0:=fun hm=>Nat.lt_irrefl _ (zk_ hb14 (by rw[zj_];exact List.mem_append_left _ hm))
  refine ko @wg_ ?_
  refine Ow.callX (Y:= [(b1,Obj.cells #[vi k,vs t] 43 (0,0)),(b14,Obj.cells #[vs (ZM_ k)] 9 (0,0))]) (by simp) rfl rfl Tryz.call60 (fun w' hw' hX hn=>kW_ b4 D0 _ _ b14 0 [ZM_ k] _ _ _ w' hB0 hX hn (StrS.lit [ZM_ k] rfl rfl (hw'.has _ _ (List.mem_append_right _ List.mem_cons_self))) (fun _=>hD14) (by simp;omega) (by simp)) (fun u0 E0 hC0 hS0=> ?_)
  obtain⟨rfl,hB0'⟩:=hS0
  have hN0':=Came.newE hC0 hN0 (by simp[keys])
  have hB1:=hB0'.app (Y:= [(b14,Obj.cells #[vs (ZM_ k)] 9 (0,0))])
  have hN1:=hN0'.app (show New (b1+1) [(b14,Obj.cells #[vs (ZM_ k)] 9 (0,0))] from⟨by omega,trivial⟩)
  refine Ow.permL (M:=(E0++ [(b14,Obj.cells #[vs (ZM_ k)] 9 (0,0))])++ [(b1,Obj.cells #[vi k,vs t] 43 (0,0))]) (by classical exact List.perm_iff_count.2 fun a=>by simp only[List.count_append,List.count_cons,List.count_nil]<;>omega) ?_
  generalize E0++ [(b14,Obj.cells #[vs (ZM_ k)] 9 (0,0))]=F1 at hB1 hN1 ⊢
  simp only[List.flatten_cons,List.flatten_nil,List.append_nil,List.nil_append] at hB1
  have r1:=rdc hN1
  refine ko (And.intro @wg_ @r1) ?_
  have htx:x9_ [t]=xD_ t:=by simp[x9_]
  have tll:=ag1_ (s:=t) (by omega)
  have tnl: (xD_ t).length=(qS_ (zz_ t.length)).length+t.length:=by unfold xD_;rw[List.length_append]
  have nl1:=zs_ (t.length:Int)
  refine Ow.buildSlice (e:=9) #[vs t] rfl rfl (by kernel_rfl) fun b18 hb18 hw18=> ?_
  have h118:b1<b18:=zk_ hb18 (by simp[keys])
  have hD18:b18∉keys F1:=fun hm=>Nat.lt_irrefl _ (zk_ hb18 (by rw[zj_];exact List.mem_append_left _ hm))
  refine ko @wg_ ?_
  refine Ow.callX (Y:= [(b1,Obj.cells #[vi k,vs t] 43 (0,0)),(b18,Obj.cells #[vs t] 9 (0,0))]) (by simp) rfl rfl Tryz.call62 (fun w' hw' hX hn=>KF_ b4 F1 _ _ b18 0 [t] _ _ _ w' hB1 hX hn (StrS.lit [t] rfl rfl (hw'.has _ _ (List.mem_append_right _ List.mem_cons_self))) (fun _=>hD18) (by rw[htx];omega) (by simp)) (fun u1 E1 hC1 hS1=> ?_)
  obtain⟨rfl,hB1'⟩:=hS1
  have hN1':=Came.newE hC1 hN1 (by simp[keys])
  have hB2:=hB1'.app (Y:= [(b18,Obj.cells #[vs t] 9 (0,0))])
  have hN2:=hN1'.app (show New (b1+1) [(b18,Obj.cells #[vs t] 9 (0,0))] from⟨by omega,trivial⟩)
  refine Ow.permL (M:=(E1++ [(b18,Obj.cells #[vs t] 9 (0,0))])++ [(b1,Obj.cells #[vi k,vs t] 43 (0,0))]) (by classical exact List.perm_iff_count.2 fun a=>by simp only[List.count_append,List.count_cons,List.count_nil]<;>omega) ?_
  generalize E1++ [(b18,Obj.cells #[vs t] 9 (0,0))]=F2 at hB2 hN2 ⊢
  rw[htx] at hB2
  refine ko @wg_ ?_
  refine Ow.callX (Y:= [(b1,Obj.cells #[vi k,vs t] 43 (0,0))]) (by simp) rfl rfl Tryz.call64 (fun w' hw' hX hn=>kI_ b4 F2 _ w' hB2 hX hn (by rw[List.length_append];omega)) (fun v5 D5 hC5 hS5=> ?_)
  obtain rfl:=hS5
  have hN5:=Came.newE hC5 hN2 (by simp[keys])
  refine ko @wg_ ?_
  first|with_reducible refine ks [] @wg_ ?_|refine kp @wg_ ?_
  refine⟨_,(ke @wg_), ?_⟩
  exact⟨Ext.of_new ((New.mono (by omega) hN5).app ⟨hw1,trivial⟩),rfl⟩
end Go.Proofs
end
section
open Go Go.Proofs Go.Sx Go.StP
namespace Go.Proofs
set_option maxRecDepth 10000
set_option maxHeartbeats 400000
set_option linter.unusedSimpArgs false
set_option linter.defProp false
def aq6_:=And.intro (And.intro (And.intro (@q2_) (@qp_)) (And.intro (@qo_) (@qA_))) (And.intro (And.intro (@Sx.tup2_0) (@Sx.tup2_1)) (And.intro (@kg_) (And.intro (@zg_) (@zf_))))
def aop_ (k:Int) (t:List UInt8):Bool:=if 4096<t.length then false else if k=2 then(ao1_ t).isSome else if k=3 then(anV_ t).isSome else k==1
end Go.Proofs
end
section
open Go Go.Proofs Go.Sx Go.StP
namespace Go.Proofs
set_option maxRecDepth 10000
set_option maxHeartbeats 400000
set_option linter.unusedSimpArgs false
theorem ahS_ (n:Nat):0< (qS_ n).length:=by
 by_cases h:n<128
 ·rw[qI_ h];simp
 ·rw[vm_ h];simp
theorem acR_ (most:Int): ∀ (l:List UInt8) (k acc m k':Nat),z2_ most l k acc= .ok (m,k')→ ∃n,l=qS_ n++l.drop (k' - k)∧m=acc+n*128^k∧(0<k→0<n)∧k<k':=by
 intro l
 induction l with
 |nil=>intro k acc m k' h;simp[z2_] at h
 |cons c r ih=>
  intro k acc m k' h
  unfold z2_ at h
  have hcl:=c.toNat_lt
  split at h
  ·rename_i hc
   split at h
   ·cases h
   ·obtain⟨n,h1,h2,h3,h4⟩:=ih _ _ _ _ h
    have hn:=h3 (by omega)
    refine⟨c.toNat%128+128*n, ?_, ?_,fun _=>by omega,by omega⟩
    ·rw[vm_ (by omega),show(c.toNat%128+128*n) / 128=n by omega,show(c.toNat%128+128*n)%128+128=c.toNat by omega]
     rw[show k' - k=(k' - (k+1))+1 by omega,List.drop_succ_cons,List.cons_append,←h1]
     simp
    ·rw[h2,Nat.pow_succ,Nat.add_mul,Nat.add_assoc]
     congr 2
     rw[Nat.mul_comm 128 n,Nat.mul_assoc,Nat.mul_comm (128^k) 128]
  ·rename_i hc
   split at h
   ·cases h
   ·rename_i hz
    split at h
    ·cases h
     refine⟨c.toNat, ?_, ?_,fun hk=>by omega,by omega⟩
     ·rw[qI_ (by omega),Nat.add_sub_cancel_left]
      simp
     ·rw[Nat.mod_eq_of_lt (by omega)]
    ·cases h
theorem xe_ {n:Nat} (h:n≤1099511627775):zz_ (n:Int)=n:=k5_ (by omega)
theorem Qn_ (most:Int): ∀ (l:List UInt8) (k n m k':Nat),z2_ most l k n= .ok (m,k')→m≤1099511627775
 | [],_,_,_,_,h=>by simp[z2_] at h
 |c::r,k,n,m,k',h=>by
  unfold z2_ at h
  split at h
  ·split at h
   ·cases h
   ·exact Qn_ most r _ _ _ _ h
  ·split at h
   ·cases h
   ·split at h
    ·rename_i hh
     cases h
     exact hh.1
    ·cases h
theorem afa_ {s:List UInt8} {a:Nat} {most:Int} (h: (zu_ s a 0 most).2.2=0): ∃n:Nat,(zu_ s a 0 most).1=(n:Int)∧n≤1099511627775∧(n:Int)≤most∧s.drop a=qS_ n++s.drop (zu_ s a 0 most).2.1:=by
 unfold zu_ at h ⊢
 rw[if_neg (by simp)] at h ⊢
 cases hg:z2_ most (s.drop a) 0 0 with
 |ok p=>
  obtain⟨m,k⟩:=p
  obtain⟨n,h1,h2,-,-⟩:=acR_ _ _ _ _ _ _ hg
  obtain rfl:m=n:=by rw[h2];simp
  refine⟨m,rfl,Qn_ _ _ _ _ _ _ hg,wQ_ _ _ _ _ _ _ hg, ?_⟩
  rw[Nat.sub_zero,List.drop_drop] at h1
  exact h1
 |error x=>
  rw[hg] at h
  exfalso
  have:x=0:=by have: ((x:Nat):Int)=0:=h;omega
  subst this
  exact aip_ _ _ _ _ hg
theorem afw_ {s:List UInt8} {a:Nat} {n:Int} (ha:a≤s.length) (h: (jc_ s a 0 n).2.2=0):0≤n∧(jc_ s a 0 n).1.length=n.toNat∧s.drop a=(jc_ s a 0 n).1++s.drop (jc_ s a 0 n).2.1:=by
 unfold jc_ at h ⊢
 rw[if_neg (by simp)] at h ⊢
 split at h
 ·exact absurd (show(2:Int)=0 from h) (by decide)
 ·rename_i h1
  rw[if_neg h1]
  split at h
  ·exact absurd (show(3:Int)=0 from h) (by decide)
  ·rename_i h2
   rw[if_neg h2]
   refine⟨by omega, ?_, ?_⟩
   ·simp only[List.length_take,List.length_drop];omega
   ·simp only
    rw[←List.drop_drop,List.take_append_drop]
theorem acO_ (most:Int) (r:List UInt8): ∀ (n k acc:Nat),(0<k→0<n)→k+ (qS_ n).length≤6→acc+n*128^k≤1099511627775→((acc+n*128^k:Nat):Int)≤most→
  z2_ most (qS_ n++r) k acc= .ok (acc+n*128^k,k+ (qS_ n).length):=by
 intro n
 induction n using Nat.strongRecOn with
 |ind n ih=>
  intro k acc hk hl hs hm
  by_cases h:n<128
  ·rw[qI_ h,List.cons_append,List.nil_append,z2_]
   have hc: (UInt8.ofNat n).toNat=n:=by rw[UInt8.toNat_ofNat'];omega
   rw[hc,Nat.mod_eq_of_lt h,if_neg (by omega),if_neg (by omega),if_pos ⟨hs,hm⟩]
   rfl
  ·have hb:=vm_ h
   rw[hb] at hl ⊢
   rw[List.cons_append,z2_]
   have hc: (UInt8.ofNat (n%128+128)).toNat=n%128+128:=by rw[UInt8.toNat_ofNat'];omega
   have hp:=ahS_ (n / 128)
   rw[List.length_cons] at hl
   have e:acc+ (n%128+128)%128*128^k+n / 128*128^ (k+1)=acc+n*128^k:=by
    have h1: (n%128+128)%128=n%128:=by omega
    rw[h1,Nat.pow_succ,Nat.add_assoc]
    congr 1
    have h2:n / 128* (128^k*128)=(n / 128*128)*128^k:=by rw[Nat.mul_comm (128^k),Nat.mul_assoc]
    rw[h2,←Nat.add_mul]
    congr 1
    omega
   rw[hc,if_pos (by omega),if_neg (by omega),ih (n / 128) (by omega) (k+1) _ (fun _=>by omega) (by omega) (by rw[e];exact hs) (by rw[e];exact hm),e,List.length_cons]
   congr 2
   omega
theorem kk_ (A r:List UInt8) (n:Nat) (most:Int) (hn:n≤1099511627775) (hm: (n:Int)≤most):zu_ (A++ (qS_ n++r)) A.length 0 most=((n:Int),A.length+ (qS_ n).length,0):=by
 have hl:=xg_ 6 n (by omega) (by omega)
 have h:=acO_ most r n 0 0 (fun h=>absurd h (Nat.lt_irrefl 0)) (by omega) (by simpa using hn) (by simpa using hm)
 simp only[Nat.pow_zero,Nat.mul_one,Nat.zero_add] at h
 exact Xa_ rfl (by rw[List.drop_left];exact h)
theorem Zo_ (A x r:List UInt8):jc_ (A++ (x++r)) A.length 0 (x.length:Int)=(x,A.length+x.length,0):=by
 unfold jc_
 rw[if_neg (by simp),if_neg (by omega),if_neg (by simp only[List.length_append];omega),List.drop_left,Int.toNat_natCast,List.take_left]
theorem afo_ (A t r:List UInt8) (most:Int) (hn:t.length≤1099511627775) (hm: (t.length:Int)≤most):qN_ (A++ (xD_ t++r)) A.length 0 most=(t,A.length+ (xD_ t).length,0):=by
 have h1:=kk_ A (t++r) t.length most hn hm
 have h2:=Zo_ (A++qS_ t.length) t r
 unfold qN_ xD_
 rw[xe_ (by omega)]
 rw[List.append_assoc,h1]
 simp only
 rw[List.append_assoc,List.length_append] at h2
 rw[h2]
 simp only[ne_eq,not_true_eq_false, ↓reduceIte,List.length_append,Nat.add_assoc]
theorem akq_ (A r:List UInt8) (i:IdL):idR (A++ (i.l++r)) A.length 0=(i.l,A.length+32,0):=by
 have h:=Zo_ A i.l r
 have hi:=i.h
 rw[hi] at h
 unfold idR
 rw[show(32:Int)=((32:Nat):Int) from rfl,h]
 simp only[hi, ↓reduceIte]
theorem ano_ (i:IdL):vV_ i.l=i:=by unfold vV_;rw[dif_pos i.h]
def an8_ (l:List EntL):Prop:= ∀x,x∈l→0≤x.kind∧x.kind≤2∧x.name.length≤32
end Go.Proofs
end
section
open Go Go.Proofs Go.Sx Go.StP
namespace Go.Proofs
set_option maxRecDepth 10000
set_option maxHeartbeats 400000
set_option linter.unusedSimpArgs false
theorem ac0_ (s:List UInt8) (c:UInt8) (w:World): (callFunc 228 #[vs s,v8 c]).run Tryz.prog w= .ok (.value (vi (Lib.indexByte s c))) w:=by
 rw[run_callFunc_extern Tryz.func228 (by kernel_rfl) (by kernel_rfl) (by kernel_rfl) (e:=Extern.BytealgIndexByte.indexByte) (by kernel_rfl)]
 have h:=Lib.run_indexByteString (P:=Tryz.prog) ⟨s.toArray⟩ (c.toNat:Int) w
 have e: ((c.toNat:Int)).toNat.toUInt8=c:=by simp
 rw[e] at h
 show((Extern.BytealgIndexByte.indexByte #[.string ⟨s.toArray⟩, .int .u8 (c.toNat:Int)]).run Tryz.prog w).andThen _=_
 rw[h];rfl
theorem XB_ (s:List UInt8) (c:UInt8) (w:World):Rets Tryz.prog 207 #[vs s,v8 c] w (fun v D=>v=vi (Lib.indexByte s c)∧D= []):=by
 refine Rets.enterV Tryz.func207 rfl (rs:= [.tmp 4]) Tryz.results207 Tryz.ntmps207 ?_
 refine kf ?_
 first|with_reducible refine ks [] @Nat.add_zero ?_|refine kp @Nat.add_zero ?_
 refine Ow.callExt rfl rfl (fun w=>ac0_ s c w) ?_
 refine ko @Nat.add_zero ?_
 first|with_reducible refine ks [] @Nat.add_zero ?_|refine kp @Nat.add_zero ?_
 refine⟨_,(ke @Nat.add_zero),trivial, ?_⟩
 rfl
def idxT (s:List UInt8):List UInt8→Int
 | []=>0
 |c::_=>Lib.indexByte s c
theorem J3_ (s x:List UInt8) (w:World) (hx:x.length≤1) (hs:2≤s.length) (_hsl:s.length<1099511627776):Rets Tryz.prog 178 #[vs s,vs x] w (fun v D=>v=vi (idxT s x)∧D= []):=by
 refine Rets.enterV Tryz.func178 rfl (rs:= [.tmp 4]) Tryz.results178 Tryz.ntmps178 ?_
 refine kf ?_
 match x,hx with
 | [],_=>
  have d1: (((([]:List UInt8).length:Nat):Int)==0)=true:=rfl
  first|with_reducible refine ks [] @d1 ?_|refine kp @d1 ?_
  refine⟨_,(ke @Nat.add_zero),trivial, ?_⟩
  rfl
 | [c],_=>
  have d1: ((([c]:List UInt8).length:Int)==0)=false:=rfl
  have d2: ([c]==s)=false:=beq_eq_false_iff_ne.2 fun e=>by rw[←e] at hs;simp at hs
  have d3: ((([c]:List UInt8).length:Int)==1)=true:=rfl
  have i0: ([c]:List UInt8).getD 0 0=c:=rfl
  first|with_reducible refine ks [] (And.intro @d1 (And.intro @d2 (And.intro @d3 (@i0)))) ?_|refine kp (And.intro @d1 (And.intro @d2 (And.intro @d3 (@i0)))) ?_
  refine Ow.callFV rfl Tryz.call207 (fun w' hw'=>XB_ s c w') ?_
  refine ko @Nat.add_zero ?_
  first|with_reducible refine ks [] @Nat.add_zero ?_|refine kp @Nat.add_zero ?_
  refine⟨_,(ke @Nat.add_zero),trivial, ?_⟩
  rfl
theorem afO_ (s x:List UInt8) (w:World) (hx:x.length≤1) (hs:2≤s.length) (hsl:s.length<1099511627776):Rets Tryz.prog 155 #[vs s,vs x] w (fun v D=>v=vi (idxT s x)∧D= []):=by
 refine Rets.enterV Tryz.func155 rfl (rs:= [.tmp 4]) Tryz.results155 Tryz.ntmps155 ?_
 refine kf ?_
 first|with_reducible refine ks [] @Nat.add_zero ?_|refine kp @Nat.add_zero ?_
 refine Ow.callFV rfl Tryz.call178 (fun w' hw'=>J3_ s x w' hx hs hsl) ?_
 refine ko @Nat.add_zero ?_
 first|with_reducible refine ks [] @Nat.add_zero ?_|refine kp @Nat.add_zero ?_
 refine⟨_,(ke @Nat.add_zero),trivial, ?_⟩
 rfl
abbrev letL:List UInt8:= [32,98,116,99]
def frR (s:List UInt8):List UInt8×Nat×Int:=jc_ s 0 0 1
def frT (s:List UInt8):List UInt8×Nat×Int:=qN_ s (frR s).2.1 (frR s).2.2 4096
def frK (s:List UInt8):Int:=idxT letL (frR s).1
def frOk (s:List UInt8):Bool:=xY_ s (frT s).2.1 (frT s).2.2==0&&w8_ (frK s) (frT s).1
theorem anu_ (s:List UInt8): (frR s).1.length≤1:=by
 unfold frR jc_
 rw[if_neg (by simp),if_neg (by decide)]
 split
 ·simp
 ·simp only[List.length_take,Int.toNat_one];omega
def alN_ (s:List UInt8) (v:Value):Prop:=v= .tuple #[obV (if frOk s then frK s else 0) (if frOk s then(frT s).1 else []),vi (if frOk s then 0 else 2)]
set_option linter.defProp false
def xB_:=And.intro (And.intro (And.intro (@q2_) (@qp_)) (And.intro (@qo_) (@qA_))) (And.intro (And.intro (@Sx.tup2_0) (@Sx.tup2_1)) (And.intro (@zg_) (@zf_)))
theorem afv_ (s:List UInt8) (w:World) (hs:s.length<100000):Rets Tryz.prog 123 #[vs s] w (fun v D=>alN_ s v∧D= []):=by
 refine Rets.enterV Tryz.func123 rfl (rs:= [.cell 2 43, .tmp 3]) Tryz.results123 Tryz.ntmps123 ?_
 refine kf ?_
 first|with_reducible refine ks [] @xB_ ?_|refine kp @xB_ ?_
 refine Ow.alloc rfl rfl zrOb fun b2 hb2 hw2=> ?_
 simp only[ze_,List.nil_append,List.cons_append]
 refine ko @xB_ ?_
 refine Ow.callF rfl rfl Tryz.call71 (S:=fun B v D=> ∃b',B≤b'∧v=vp b' 0∧D= [(b', .cells #[vs s,vi 0,vi 0] 212 (0,0))]) (fun w' hw'=>v3_ s w') ?_
 rintro B v D hab hB ⟨bw,hbw,rfl,rfl⟩
 obtain⟨h2B,-⟩:=hab
 refine⟨_,Mrg.fresh (by intro q hq;simp only[keys,List.map_cons,List.map_nil,List.mem_singleton] at hq;omega), ?_⟩
 simp only[List.cons_append,List.nil_append]
 refine Ow.permL (M:= [(bw, .cells #[vs s,vi 0,vi 0] 212 (0,0)),(b2,Obj.cells #[vi 0,vs []] 43 (0,0))]) (by classical exact List.perm_iff_count.2 fun a=>by simp only[List.count_append,List.count_cons,List.count_nil]<;>omega) ?_
 have hne:bw≠b2:=by omega
 refine ko @xB_ ?_
 first|with_reducible refine ks [] @xB_ ?_|refine kp @xB_ ?_
 refine Ow.callM rfl rfl Tryz.call94 (by simp[keys]) (fun w' hw'=>v9_ bw s 0 0 1 w' (Nat.zero_le _) (by omega) (hw'.has _ _ List.mem_cons_self)) ?_
 have r1:=ko_ (s:=s) (a:=0) (e:=0) (n:=1) (Nat.zero_le _)
 have r2:=anu_ s
 have hT:frT s=qN_ s (frR s).2.1 (frR s).2.2 4096:=rfl
 have hK:frK s=idxT letL (frR s).1:=rfl
 have hO:frOk s=(xY_ s (frT s).2.1 (frT s).2.2==0&&w8_ (frK s) (frT s).1):=rfl
 unfold alN_
 rw[show jc_ s 0 0 1=frR s from rfl] at r1 ⊢
 generalize frR s=p at*
 obtain⟨x,a1,e1⟩:=p
 simp only at r1 r2 hT hK ⊢
 refine kn ?_
 refine ko @xB_ ?_
 refine Ow.callFV rfl Tryz.call155 (fun w' hw'=>afO_ letL x w' r2 (by decide) (by decide)) ?_
 rw[←hK]
 refine ko @xB_ ?_
 refine Ow.callM rfl rfl Tryz.call96 (by simp[keys]) (fun w' hw'=>wq_ bw s a1 e1 4096 w' r1.2 (by omega) (hw'.has _ _ List.mem_cons_self)) ?_
 rw[←hT]
 generalize frT s=q at*
 obtain⟨tt,a2,e2⟩:=q
 simp only at hO ⊢
 refine kn ?_
 refine ko @xB_ ?_
 refine Ow.build (obV (frK s) tt) rfl (ai5_ _ tt) ?_
 refine ko @xB_ ?_
 refine Ow.alloc rfl rfl zrOb fun b5 hb5 hw5=> ?_
 simp only[ze_,List.nil_append,List.cons_append]
 have h5w:bw<b5:=zk_ hb5 (by simp[keys])
 have h52:b2<b5:=zk_ hb5 (by simp[keys])
 refine ko @xB_ ?_
 refine Ow.callFV rfl Tryz.call74 (fun w' hw'=>x4_ bw s a2 e2 w' (hw'.has _ _ List.mem_cons_self)) ?_
 by_cases he:xY_ s a2 e2=0
 ·have d1: (xY_ s a2 e2 !=0)=false:=by simp[he]
  have d1': (xY_ s a2 e2==0)=true:=by simp[he]
  rw[d1',Bool.true_and] at hO
  refine ko (And.intro @xB_ @d1) ?_
  refine Ow.callFV rfl Tryz.call156 (fun w' hw'=>JF_ (frK s) tt w') ?_
  rw[hO]
  cases hr:w8_ (frK s) tt
  ·refine ko @xB_ ?_
   refine Ow.build (obV 0 []) rfl Ww_ ?_
   refine ko @xB_ ?_
   first|with_reducible refine ks [] @xB_ ?_|refine kp @xB_ ?_
   refine⟨_,(ke @xB_),⟨by omega,hw2,hw5,trivial⟩, ?_⟩
   rfl
  ·refine ko @xB_ ?_
   first|with_reducible refine ks [] @xB_ ?_|refine kp @xB_ ?_
   refine⟨_,(ke @xB_),⟨by omega,hw2,hw5,trivial⟩, ?_⟩
   rfl
 ·have d1: (xY_ s a2 e2 !=0)=true:=by simpa using he
  have d1': (xY_ s a2 e2==0)=false:=by simpa using he
  rw[d1',Bool.false_and] at hO
  rw[hO]
  refine ko (And.intro @xB_ @d1) ?_
  refine Ow.build (obV 0 []) rfl Ww_ ?_
  refine ko @xB_ ?_
  first|with_reducible refine ks [] @xB_ ?_|refine kp @xB_ ?_
  refine⟨_,(ke @xB_),⟨by omega,hw2,hw5,trivial⟩, ?_⟩
  rfl
end Go.Proofs
end
section
open Go Go.Proofs Go.Sx Go.StP
namespace Go.Proofs
set_option maxRecDepth 10000
set_option maxHeartbeats 400000
set_option linter.unusedSimpArgs false
def fkC (c:UInt8):Int:=if c=98 then 1 else if c=116 then 2 else if c=99 then 3 else 0
def lfT (r:List UInt8):List UInt8×Nat×Int:=qN_ r 0 0 4096
def lfK (s:List UInt8):Int:=match s with| []=>0|c::_=>fkC c
def lfOk (s:List UInt8):Bool:=lfK s !=0&&xY_ (s.drop 1) (lfT (s.drop 1)).2.1 (lfT (s.drop 1)).2.2==0&&aop_ (lfK s) (lfT (s.drop 1)).1
def aqI_ (s:List UInt8) (v:Value):Prop:=v= .tuple #[obV (if lfOk s then lfK s else 0) (if lfOk s then(lfT (s.drop 1)).1 else []), .bool (lfOk s)]
theorem aiQ_ (k k':Int) (t:List UInt8) (a:Bool) (E:TypeId):zp_ (some (a,1)) (some (.cells #[vi k',vs t] E (0,0))) 0 (vi k)=some (.cells #[vi k,vs t] E (0,0)):=(rfl)
theorem aiN_ (k:Int) (t t':List UInt8) (a:Bool) (E:TypeId):zp_ (some (a,1)) (some (.cells #[vi k,vs t'] E (0,0))) 1 (vs t)=some (.cells #[vi k,vs t] E (0,0)):=(rfl)
set_option linter.defProp false
def arr_:=And.intro (And.intro (And.intro (@q2_) (@qp_)) (And.intro (@qo_) (And.intro (@qA_) (@aiQ_)))) (And.intro (And.intro (@aiN_) (@Sx.tup2_0)) (And.intro (@Sx.tup2_1) (And.intro (@zg_) (@zf_))))
end Go.Proofs
end
namespace Go.Flo
open Go Ieee
abbrev F (n:Int):Nat:=FloatKind.f64.nearest n
def dat (n:Int):Datum:= .number (decide (n<0)) (n.natAbs*2^ (52 - n.natAbs.log2)) ((n.natAbs.log2:Int) - 52)
theorem alD_ {a:Nat} (h:a<8192):a.log2<13∨a=0:=by
 by_cases h0:a=0
 ·exact .inr h0
 ·exact .inl ((Nat.log2_lt h0).2 h)
theorem dec0:FloatKind.f64.decode (F 0)= .number false 0 (-1074):=by kernel_rfl
theorem alc_ (neg:Bool) (n:Nat):Toward.even.cut neg n 0=n:=by
 simp[Toward.cut,Nat.mod_one]
theorem dec {n:Int} (h0:n≠0) (h:n.natAbs<8192):FloatKind.f64.decode (F n)=dat n:=by
 have ha:n.natAbs≠0:=by omega
 generalize hm:n.natAbs=a at*
 have hl:a.log2<13:=(Nat.log2_lt ha).2 h
 have hlo:2^a.log2≤a:=Nat.log2_self_le ha
 have hhi:a<2^ (a.log2+1):=Nat.lt_log2_self
 generalize hk:a.log2=k at*
 have hp:2^ (52 - k)*2^k=2^52:=by rw[←Nat.pow_add];congr 1;omega
 have hp1:2^ (k+1)=2*2^k:=by rw[Nat.pow_succ];omega
 have e1:2^52≤a*2^ (52 - k):=by
  rw[←hp,Nat.mul_comm];exact Nat.mul_le_mul_right _ hlo
 have e2:a*2^ (52 - k)<2*2^52:=by
  have h1:=Nat.mul_lt_mul_of_pos_right hhi (show 0<2^ (52 - k) from Nat.pow_pos (by omega))
  rw[hp1,Nat.mul_assoc,Nat.mul_comm (2^k),hp] at h1
  exact h1
 have hw:F n=Ieee.double.word (decide (n<0)) ((k+1022)*2^52+a*2^ (52 - k)):=by
  show Ieee.double.nearest (decide (n<0)) n.natAbs 0=_
  rw[hm]
  unfold Format.nearest
  rw[if_neg ha,hk]
  have hlast:max ((0:Int)+ (k:Int) - (Ieee.double.fractionBits:Int)) Ieee.double.leastPlace=(k:Int) - 52:=by
   have e3:Ieee.double.leastPlace= -1074:=by decide
   have e4: (Ieee.double.fractionBits:Int)=52:=rfl
   rw[e3,e4];omega
  rw[hlast]
  have e5: ((k:Int) - 52 - 0).toNat=0:=by omega
  have e6: ((0:Int) - ((k:Int) - 52)).toNat=52 - k:=by omega
  simp only[e5,e6,alc_,Nat.shiftLeft_eq]
  have e7: ((k:Int) - 52 - Ieee.double.leastPlace).toNat=k+1022:=by
   have e3:Ieee.double.leastPlace= -1074:=by decide
   rw[e3];omega
  have e8:Ieee.double.binade=2^52:=rfl
  have e9:Ieee.double.infRung=2047*2^52:=rfl
  rw[e7,e8,e9,Nat.min_eq_left (by omega)]
 show Ieee.double.read (F n)=_
 rw[hw]
 generalize hX:a*2^ (52 - k)=X at*
 have e8:Ieee.double.binade=2^52:=rfl
 have e9:Ieee.double.infRung=2047*2^52:=rfl
 have e10:Ieee.double.signWeight=2^63:=rfl
 have e3:Ieee.double.leastPlace= -1074:=by decide
 have hneg: (Ieee.double.word (decide (n<0)) ((k+1022)*2^52+X) / 2^63%2==1)=decide (n<0)∧Ieee.double.word (decide (n<0)) ((k+1022)*2^52+X)%2^63=(k+1022)*2^52+X:=by
  unfold Format.word
  rw[e10]
  by_cases hn:n<0
  ·rw[decide_eq_true hn,if_pos rfl]
   refine⟨?_,by omega⟩
   rw[beq_iff_eq];omega
  ·rw[decide_eq_false hn,if_neg (by simp)]
   refine⟨?_,by omega⟩
   rw[beq_eq_false_iff_ne];omega
 unfold Format.read
 simp only[e10,hneg.1,hneg.2,e8,e9,e3]
 rw[if_neg (by omega),if_pos (by omega)]
 unfold dat
 rw[hm,hk,hX]
 congr 1
 ·omega
 ·omega
theorem sgn (n:Int) (u:Nat):signed (decide (n<0)) (n.natAbs*2^u) 0=n*2^u:=by
 unfold signed
 rw[Nat.shiftLeft_eq,Nat.pow_zero,Nat.mul_one]
 by_cases h:n<0
 ·rw[decide_eq_true h,if_pos rfl]
  rw[Int.natCast_mul,←Int.neg_mul]
  congr 1
  ·omega
 ·rw[decide_eq_false h,if_neg (by simp),Int.natCast_mul]
  congr 1
  omega
def plc (n:Int):Int:=if n=0 then -1074 else(n.natAbs.log2:Int) - 52
def mag (n:Int):Nat:=if n=0 then 0 else n.natAbs*2^ (52 - n.natAbs.log2)
theorem decA {n:Int} (h:n.natAbs<8192):FloatKind.f64.decode (F n)= .number (decide (n<0)) (mag n) (plc n):=by
 by_cases h0:n=0
 ·subst h0;rw[dec0];rfl
 ·rw[dec h0 h];unfold dat mag plc;rw[if_neg h0,if_neg h0]
theorem sgnU {n base:Int} (h:n.natAbs<8192) (hb:base≤plc n):signed (decide (n<0)) (mag n) (plc n - base).toNat=n*2^ (-base).toNat:=by
 by_cases h0:n=0
 ·subst h0;simp[signed,mag]
 ·have hl:n.natAbs.log2<13:=by rcases alD_ h with h1|h1;exact h1;omega
  have hu:52 - n.natAbs.log2+ (plc n - base).toNat=(-base).toNat:=by
   unfold plc at hb ⊢
   rw[if_neg h0] at hb ⊢
   omega
  have e:signed (decide (n<0)) (mag n) (plc n - base).toNat=signed (decide (n<0)) (n.natAbs*2^ (-base).toNat) 0:=by
   unfold signed mag
   rw[if_neg h0,←hu,Nat.pow_add]
   simp only[Nat.shiftLeft_eq,Nat.pow_zero,Nat.mul_one,Nat.mul_assoc]
  rw[e,sgn]
theorem am5_ {a b k:Int} (hk:0<k):compare (a*k) (b*k)=compare a b:=by
 simp only[compare,compareOfLessAndEq]
 have h1:a*k<b*k↔a<b:=Int.mul_lt_mul_right hk
 have h2:a*k=b*k↔a=b:=Int.mul_eq_mul_right_iff (by omega)
 simp only[h1,h2]
theorem ord {a b:Int} (ha:a.natAbs<8192) (hb:b.natAbs<8192):FloatKind.f64.format.order (F a) (F b)=some (compare a b):=by
 have h1:FloatKind.f64.format.read (F a)=_:=decA ha
 have h2:FloatKind.f64.format.read (F b)=_:=decA hb
 unfold Format.order
 rw[h1,h2]
 unfold Datum.order
 simp only
 have p1:min (plc a) (plc b)≤plc a:=Int.min_le_left ..
 have p2:min (plc a) (plc b)≤plc b:=Int.min_le_right ..
 rw[sgnU ha p1,sgnU hb p2,am5_]
 exact Int.pow_pos (by omega)
theorem intF {a:Int} (h:a.natAbs<8192): (FloatKind.f64.decode (F a)).toInt .zero=some a:=by
 rw[decA h]
 by_cases h0:a=0
 ·subst h0;rfl
 ·have hl:a.natAbs.log2<13:=by rcases alD_ h with h1|h1;exact h1;omega
  unfold Datum.toInt Datum.integral
  simp only
  have hp:plc a=(a.natAbs.log2:Int) - 52:=by unfold plc;rw[if_neg h0]
  have hm:mag a=a.natAbs*2^ (52 - a.natAbs.log2):=by unfold mag;rw[if_neg h0]
  rw[hp,hm]
  have e1: ((a.natAbs.log2:Int) - 52).toNat=0:=by omega
  have e2: (-((a.natAbs.log2:Int) - 52)).toNat=52 - a.natAbs.log2:=by omega
  rw[e1,e2,Nat.shiftLeft_zero]
  have hlog: (a.natAbs*2^ (52 - a.natAbs.log2)).log2+2≥52 - a.natAbs.log2:=by
   have:2^ (52 - a.natAbs.log2)≤a.natAbs*2^ (52 - a.natAbs.log2):=Nat.le_mul_of_pos_left _ (by omega)
   have h3:=(Nat.le_log2 (n:=a.natAbs*2^ (52 - a.natAbs.log2)) (k:=52 - a.natAbs.log2) (by have:=Nat.pow_pos (a:=2) (n:=52 - a.natAbs.log2) (by omega);omega)).2 this
   omega
  unfold Toward.cut
  simp only
  rw[Nat.min_eq_left hlog,Nat.shiftLeft_eq,Nat.one_mul,Nat.mul_div_cancel _ (Nat.pow_pos (by omega))]
  have:=sgn a 0
  rw[Nat.pow_zero,Nat.mul_one] at this
  simp only[Bool.toNat_false,Nat.add_zero]
  rw[this];simp
end Go.Flo
namespace Go.Sx
open Go Go.Flo
def fl (n:Int):Value:= .float .f64 (F n)
def cx (a b:Int):Value:= .complex .f64 (F a) (F b)
section
variable {P:Program} {w0:World} {f:Fr} {L:zd_} {N:Fr→zd_→Prop} {ops:Array Oper} {rest:List Oper} {md:Md}
 {d:Option Tmp} {ty:TypeId} {ps:String} {af:Array Edge} {g:Option (Nat×Bool)}
theorem Ow.convIF {s dt:TypeId} {x:Operand} {n:Int} {md':Md} (he:md.turn=some md') (hsk:zl_ ops f ⟨d, .convert s dt x,ty,ps,af,g⟩=false)
  (hcv:cvT P s dt= .no) (hs:P.underlying s=some (.int .i64)) (hd:P.underlying dt=some (.float .f64)) (hx:ev f x=vi n)
  (hn:Ow P w0 ops md' rest (qz_ f d (fl n)) L N):Ow P w0 ops md (⟨d, .convert s dt x,ty,ps,af,g⟩::rest) f L N:=by
 refine Ow.step he (by simp[xb_,hcv]) hsk fun w hw=> .inl ⟨fl n,w,L, ?_,hw,hn⟩
 have hc: (convert s dt (vi n)).run P w= .ok (fl n) w:=by
  unfold convert
  simp only[vi,Sem.run_bind,run_underlying hs w,run_underlying hd w,Result.andThen_ok]
  rfl
 simp only[execOp,Sem.run_bind,hx,hc]
 rfl
theorem Ow.convFI {s dt:TypeId} {x:Operand} {n:Int} {md':Md} (he:md.turn=some md') (hsk:zl_ ops f ⟨d, .convert s dt x,ty,ps,af,g⟩=false)
  (hcv:cvT P s dt= .no) (hs:P.underlying s=some (.float .f64)) (hd:P.underlying dt=some (.int .i64)) (hx:ev f x=fl n) (hn8:n.natAbs<8192)
  (hn:Ow P w0 ops md' rest (qz_ f d (vi n)) L N):Ow P w0 ops md (⟨d, .convert s dt x,ty,ps,af,g⟩::rest) f L N:=by
 refine Ow.step he (by simp[xb_,hcv]) hsk fun w hw=> .inl ⟨vi n,w,L, ?_,hw,hn⟩
 have hc: (convert s dt (fl n)).run P w= .ok (vi n) w:=by
  unfold convert
  simp only[fl,Sem.run_bind,run_underlying hs w,run_underlying hd w,Result.andThen_ok]
  show(Conv.floatToInt .f64 (F n) .i64).run P w=_
  unfold Conv.floatToInt
  simp only[intF hn8]
  have e1:IntKind.i64.min= -9223372036854775808:=rfl
  have e2:IntKind.i64.max=9223372036854775807:=rfl
  rw[if_pos (by rw[e1,e2];omega)]
  rfl
 simp only[execOp,Sem.run_bind,hx,hc]
 rfl
theorem am9_ (a b:Int): (some (compare a b)==some Ordering.lt||some (compare a b)==some Ordering.eq)=decide (a≤b):=by
 simp only[compare,compareOfLessAndEq]
 by_cases h1:a<b
 ·rw[if_pos h1,decide_eq_true (by omega)];rfl
 ·by_cases h2:a=b
  ·rw[if_neg h1,if_pos h2,decide_eq_true (by omega)];rfl
  ·rw[if_neg h1,if_neg h2,decide_eq_false (by omega)];rfl
theorem al3_ (a b:Int): (some (compare a b)==some Ordering.gt||some (compare a b)==some Ordering.eq)=decide (b≤a):=by
 simp only[compare,compareOfLessAndEq]
 by_cases h1:a<b
 ·rw[if_pos h1,decide_eq_false (by omega)];rfl
 ·by_cases h2:a=b
  ·rw[if_neg h1,if_pos h2,decide_eq_true (by omega)];rfl
  ·rw[if_neg h1,if_neg h2,decide_eq_true (by omega)];rfl
theorem ac5_ (a b:Int): (some (compare a b)==some Ordering.eq)=(a==b):=by
 simp only[compare,compareOfLessAndEq]
 by_cases h1:a<b
 ·have: (a==b)=false:=by rw[beq_eq_false_iff_ne];omega
  rw[if_pos h1,this];rfl
 ·by_cases h2:a=b
  ·rw[if_neg h1,if_pos h2,h2];simp
  ·have: (a==b)=false:=by rw[beq_eq_false_iff_ne];exact h2
   rw[if_neg h1,if_neg h2,this];rfl
theorem Ow.fleq {t t':TypeId} {x y:Operand} {a b:Int} (hs:zl_ ops f ⟨d, .binOp .leq t x y t',ty,ps,af,g⟩=false) (hx:ev f x=fl a) (hy:ev f y=fl b) (ha:a.natAbs<8192) (hb:b.natAbs<8192)
  (hn:Ow P w0 ops md.next rest (qz_ f d (.bool (decide (a≤b)))) L N):Ow P w0 ops md (⟨d, .binOp .leq t x y t',ty,ps,af,g⟩::rest) f L N:=by
 refine Ow.pureV rfl hs (fun w=> ?_) hn
 simp only[execOp,Sem.run_bind,hx,hy]
 have hg: (eqGuard .leq t x y (fl a) (fl b)).run P w= .ok () w:=rfl
 have hc: (binOp .leq t (fl a) (fl b)).run P w= .ok (.bool (decide (a≤b))) w:=by
  show Result.ok (Value.bool (FloatKind.f64.format.order (F a) (F b)==some .lt||FloatKind.f64.format.order (F a) (F b)==some .eq)) w=_
  rw[ord ha hb,am9_]
 rw[hg,Result.andThen_ok,hc]
 rfl
theorem Ow.fgeq {t t':TypeId} {x y:Operand} {a b:Int} (hs:zl_ ops f ⟨d, .binOp .geq t x y t',ty,ps,af,g⟩=false) (hx:ev f x=fl a) (hy:ev f y=fl b) (ha:a.natAbs<8192) (hb:b.natAbs<8192)
  (hn:Ow P w0 ops md.next rest (qz_ f d (.bool (decide (b≤a)))) L N):Ow P w0 ops md (⟨d, .binOp .geq t x y t',ty,ps,af,g⟩::rest) f L N:=by
 refine Ow.pureV rfl hs (fun w=> ?_) hn
 simp only[execOp,Sem.run_bind,hx,hy]
 have hg: (eqGuard .geq t x y (fl a) (fl b)).run P w= .ok () w:=rfl
 have hc: (binOp .geq t (fl a) (fl b)).run P w= .ok (.bool (decide (b≤a))) w:=by
  show Result.ok (Value.bool (FloatKind.f64.format.order (F a) (F b)==some .gt||FloatKind.f64.format.order (F a) (F b)==some .eq)) w=_
  rw[ord ha hb,al3_]
 rw[hg,Result.andThen_ok,hc]
 rfl
theorem Ow.feql {t t':TypeId} {x y:Operand} {a b:Int} (hs:zl_ ops f ⟨d, .binOp .eql t x y t',ty,ps,af,g⟩=false) (hx:ev f x=fl a) (hy:ev f y=fl b) (ha:a.natAbs<8192) (hb:b.natAbs<8192)
  (hn:Ow P w0 ops md.next rest (qz_ f d (.bool (a==b))) L N):Ow P w0 ops md (⟨d, .binOp .eql t x y t',ty,ps,af,g⟩::rest) f L N:=by
 refine Ow.pureV rfl hs (fun w=> ?_) hn
 simp only[execOp,Sem.run_bind,hx,hy]
 have hg: (eqGuard .eql t x y (fl a) (fl b)).run P w= .ok () w:=rfl
 have hc: (binOp .eql t (fl a) (fl b)).run P w= .ok (.bool (a==b)) w:=by
  show Result.ok (Value.bool (FloatKind.f64.format.order (F a) (F b)==some .eq)) w=_
  rw[ord ha hb,ac5_]
 rw[hg,Result.andThen_ok,hc]
 rfl
theorem Ow.ceql {t t':TypeId} {x y:Operand} {a b a' b':Int} (hs:zl_ ops f ⟨d, .binOp .eql t x y t',ty,ps,af,g⟩=false) (hx:ev f x=cx a b) (hy:ev f y=cx a' b') (ha:a.natAbs<8192) (hb:b.natAbs<8192) (ha':a'.natAbs<8192) (hb':b'.natAbs<8192)
  (hn:Ow P w0 ops md.next rest (qz_ f d (.bool (a==a'&&b==b'))) L N):Ow P w0 ops md (⟨d, .binOp .eql t x y t',ty,ps,af,g⟩::rest) f L N:=by
 refine Ow.pureV rfl hs (fun w=> ?_) hn
 simp only[execOp,Sem.run_bind,hx,hy]
 have hg: (eqGuard .eql t x y (cx a b) (cx a' b')).run P w= .ok () w:=rfl
 have hc: (binOp .eql t (cx a b) (cx a' b')).run P w= .ok (.bool (a==a'&&b==b')) w:=by
  show Result.ok (Value.bool (FloatKind.f64.format.order (F a) (F a')==some .eq&&FloatKind.f64.format.order (F b) (F b')==some .eq)) w=_
  rw[ord ha ha',ord hb hb',ac5_,ac5_]
 rw[hg,Result.andThen_ok,hc]
 rfl
theorem Ow.real {x:Operand} {ts:Array TypeId} {a b:Int} (hs:zl_ ops f ⟨d, .call ⟨.builtin .real, #[x],ts⟩,ty,ps,af,g⟩=false) (hx:ev f x=cx a b)
  (hn:Ow P w0 ops md.next rest (qz_ f d (fl a)) L N):Ow P w0 ops md (⟨d, .call ⟨.builtin .real, #[x],ts⟩,ty,ps,af,g⟩::rest) f L N:=by
 refine Ow.calm rfl rfl hs (fun w hw=> .inl ⟨fl a,w,L, ?_,hw,rfl,rfl⟩) hn
 simp only[execOp,resolve,Sem.run_bind,Sem.run_pure,Result.andThen_ok,invoke,builtin,List.map_toArray,List.map_cons,List.map_nil,hx]
 rfl
theorem Ow.imag {x:Operand} {ts:Array TypeId} {a b:Int} (hs:zl_ ops f ⟨d, .call ⟨.builtin .imag, #[x],ts⟩,ty,ps,af,g⟩=false) (hx:ev f x=cx a b)
  (hn:Ow P w0 ops md.next rest (qz_ f d (fl b)) L N):Ow P w0 ops md (⟨d, .call ⟨.builtin .imag, #[x],ts⟩,ty,ps,af,g⟩::rest) f L N:=by
 refine Ow.calm rfl rfl hs (fun w hw=> .inl ⟨fl b,w,L, ?_,hw,rfl,rfl⟩) hn
 simp only[execOp,resolve,Sem.run_bind,Sem.run_pure,Result.andThen_ok,invoke,builtin,List.map_toArray,List.map_cons,List.map_nil,hx]
 rfl
theorem Ow.complexB {x y:Operand} {ts:Array TypeId} {a b:Int} (hs:zl_ ops f ⟨d, .call ⟨.builtin .complex, #[x,y],ts⟩,ty,ps,af,g⟩=false) (hx:ev f x=fl a) (hy:ev f y=fl b)
  (hn:Ow P w0 ops md.next rest (qz_ f d (cx a b)) L N):Ow P w0 ops md (⟨d, .call ⟨.builtin .complex, #[x,y],ts⟩,ty,ps,af,g⟩::rest) f L N:=by
 refine Ow.calm rfl rfl hs (fun w hw=> .inl ⟨cx a b,w,L, ?_,hw,rfl,rfl⟩) hn
 simp only[execOp,resolve,Sem.run_bind,Sem.run_pure,Result.andThen_ok,invoke,builtin,List.map_toArray,List.map_cons,List.map_nil,hx,hy]
 rfl
end
end Go.Sx
namespace Go.Sx
open Go Go.Flo
theorem WY_ (P:Program) (t:TypeId) (a b:Int):qJ_ P .eql t (fl a) (fl b)=none:=by
 show(qE_ (P.underlying t) (fl a) (fl b)).map _=none
 unfold qE_ fl
 split<;>simp_all
theorem J4_ (P:Program) (t:TypeId) (a b a' b':Int):qJ_ P .eql t (cx a b) (cx a' b')=none:=by
 show(qE_ (P.underlying t) (cx a b) (cx a' b')).map _=none
 unfold qE_ cx
 split<;>simp_all
section
variable {P:Program} {w0:World} {st:Bool} {f:Fr} {L:zd_} {md:Md} {d:Option Tmp} {ty:TypeId} {ps:String} {af:Array Edge} {g:Option (Nat×Bool)} {go:Fr→zd_→Prop} {stop:Prop}
theorem VK_ (a:Array Operand) (t:Array TypeId):vcB P w0 st md ⟨d, .call ⟨.builtin .real,a,t⟩,ty,ps,af,g⟩ f L go stop=stop:=(rfl)
theorem KX_ (a:Array Operand) (t:Array TypeId):vcB P w0 st md ⟨d, .call ⟨.builtin .imag,a,t⟩,ty,ps,af,g⟩ f L go stop=stop:=(rfl)
theorem kj_ (a:Array Operand) (t:Array TypeId):vcB P w0 st md ⟨d, .call ⟨.builtin .complex,a,t⟩,ty,ps,af,g⟩ f L go stop=stop:=(rfl)
end
end Go.Sx
section
open Go Go.Proofs Go.Sx Go.StP Go.Flo
namespace Go.Proofs
set_option maxRecDepth 10000
set_option maxHeartbeats 400000
set_option linter.unusedSimpArgs false
structure PcL where
 a:Nat
 n:Nat
 x:List UInt8
def pc0:PcL:=⟨0,0,[]⟩
def pcC (p:PcL):List Value:= [cx p.a p.n,vs p.x]
def PcB (p:PcL):Prop:=p.a≤4099∧p.n≤4099
theorem vf_ (p:PcL): (pcC p).length=2:=rfl
theorem abW_ (p:PcL): (pcC p).all Value.oneCell'=true:=rfl
def cpV (p:PcL) (b:Int):Option (Nat×Nat):=if 1≤p.n∧p.n≤4099∧p.x= []∧(p.a:Int)≤b - p.n then some (p.a,p.n) else none
def kM_ (p:PcL) (b:Int):Nat:=if p.a=0∧p.n=0∧p.x.length≤4099 then p.x.length else match cpV p b with|some q=>q.2|none=>0
theorem akv_ (p:PcL) (b:Int):kM_ p b≤4099:=by
 unfold kM_
 split
 ·rename_i h;exact h.2.2
 ·unfold cpV
  split
  ·rename_i q h
   split at h
   ·rename_i hc;cases h;exact hc.2.1
   ·cases h
  ·omega
def w3_ (b:Int) (l:List PcL):Nat:=(l.map fun p=>kM_ p b).sum
theorem agE_ (b:Int) (l:List PcL) (p:PcL):w3_ b (l++ [p])=w3_ b l+kM_ p b:=by
 unfold w3_;rw[List.map_append,List.sum_append];simp
theorem akn_ (b:Int) (l m:List PcL):w3_ b (l++m)=w3_ b l+w3_ b m:=by
 unfold w3_;rw[List.map_append,List.sum_append]
def V3_ (b:Int) (l:List PcL):Bool:=l.any fun p=>kM_ p b==0
def Za_ (b:Int) (l:List PcL):Int×Int:=if b<0∨4099<b then(0,1) else if V3_ b l=true then(0,1) else if 4099<w3_ b l then(0,19) else((w3_ b l:Nat),0)
theorem ahs_ (b:Int): ∀ (l:List PcL),V3_ b l=false→l.length≤w3_ b l
 | [],_=>Nat.zero_le _
 |p::l,h=>by
  unfold V3_ at h
  rw[List.any_cons,Bool.or_eq_false_iff] at h
  have h1:=ahs_ b l h.2
  have h2:kM_ p b≠0:=by simpa using h.1
  unfold w3_ at h1 ⊢
  rw[List.map_cons,List.sum_cons,List.length_cons]
  omega
theorem Vb_ {b m:Int} {l:List PcL} (h:Za_ b l=(m,0)):0≤b∧b≤4099∧V3_ b l=false∧w3_ b l≤4099∧m=(w3_ b l:Nat)∧l.length≤4099:=by
 unfold Za_ at h
 split at h
 ·cases h
 ·rename_i hb
  split at h
  ·cases h
  ·rename_i hz
   split at h
   ·cases h
   ·rename_i hs
    have hz':V3_ b l=false:=by simpa using hz
    have:=ahs_ b l hz'
    cases h
    exact⟨by omega,by omega,hz',by omega,rfl,by omega⟩
def pcT (base:List UInt8) (p:PcL):List UInt8:=match cpV p base.length with|some q=>(base.drop q.1).take q.2++p.x|none=>p.x
def txtP (base:List UInt8) (l:List PcL):List UInt8:=(l.map (pcT base)).flatten
def pcR (d:List UInt8) (a:Nat):PcL×Nat×Int:=
 if(zu_ d a 0 8199).1%2=1 then
  (⟨(zu_ d (zu_ d a 0 8199).2.1 (zu_ d a 0 8199).2.2 4099).1.toNat,((zu_ d a 0 8199).1 / 2).toNat,[]⟩,(zu_ d (zu_ d a 0 8199).2.1 (zu_ d a 0 8199).2.2 4099).2)
 else(⟨0,0,(jc_ d (zu_ d a 0 8199).2.1 (zu_ d a 0 8199).2.2 ((zu_ d a 0 8199).1 / 2)).1⟩,(jc_ d (zu_ d a 0 8199).2.1 (zu_ d a 0 8199).2.2 ((zu_ d a 0 8199).1 / 2)).2)
theorem adK_ {d:List UInt8} {a:Nat} (ha:a≤d.length):a≤ (pcR d a).2.1∧(pcR d a).2.1≤d.length:=by
 have h1:=z4_ (s:=d) (a:=a) (e:=0) (most:=8199) ha
 unfold pcR
 split
 ·have h2:=z4_ (s:=d) (a:=(zu_ d a 0 8199).2.1) (e:=(zu_ d a 0 8199).2.2) (most:=4099) h1.2
  exact⟨Nat.le_trans h1.1 h2.1,h2.2⟩
 ·have h2:=ko_ (s:=d) (a:=(zu_ d a 0 8199).2.1) (e:=(zu_ d a 0 8199).2.2) (n:=(zu_ d a 0 8199).1 / 2) h1.2
  exact⟨Nat.le_trans h1.1 h2.1,h2.2⟩
theorem KK_ {d:List UInt8} {a:Nat} (ha:a≤d.length) (h: (pcR d a).2.2=0):a< (pcR d a).2.1:=by
 have h1:=z4_ (s:=d) (a:=a) (e:=0) (most:=8199) ha
 have hz: (zu_ d a 0 8199).2.2=0:=by
  by_cases he: (zu_ d a 0 8199).2.2=0
  ·exact he
  ·unfold pcR at h
   split at h
   ·have:=ZI_ (s:=d) (a:=(zu_ d a 0 8199).2.1) (most:=4099) he
    simp only[this] at h
    exact absurd h he
   ·have:=W6_ (s:=d) (a:=(zu_ d a 0 8199).2.1) (n:=(zu_ d a 0 8199).1 / 2) he
    simp only[this] at h
    exact absurd h he
 have hup:=agy_ hz
 unfold pcR
 split
 ·have h2:=z4_ (s:=d) (a:=(zu_ d a 0 8199).2.1) (e:=(zu_ d a 0 8199).2.2) (most:=4099) h1.2
  exact Nat.lt_of_lt_of_le hup h2.1
 ·have h2:=ko_ (s:=d) (a:=(zu_ d a 0 8199).2.1) (e:=(zu_ d a 0 8199).2.2) (n:=(zu_ d a 0 8199).1 / 2) h1.2
  exact Nat.lt_of_lt_of_le hup h2.1
def pcsF (d:List UInt8):Nat→Nat→List PcL×Nat×Int
 |0,a=>([],a,0)
 |k+1,a=>if a<d.length then(if(pcR d a).2.2=0 then((pcR d a).1:: (pcsF d k (pcR d a).2.1).1,(pcsF d k (pcR d a).2.1).2) else([(pcR d a).1],(pcR d a).2)) else([],a,0)
theorem aaF_ {d:List UInt8}: ∀ (k j a:Nat),a≤d.length→d.length - a≤k→d.length - a≤j→pcsF d k a=pcsF d j a
 |0,j,a,ha,hk,_=>by
  have: ¬a<d.length:=by omega
  cases j with
  |zero=>rfl
  |succ j=>unfold pcsF;rw[if_neg this]
 |k+1,0,a,ha,_,hj=>by
  have: ¬a<d.length:=by omega
  unfold pcsF;rw[if_neg this]
 |k+1,j+1,a,ha,hk,hj=>by
  unfold pcsF
  by_cases h:a<d.length
  ·rw[if_pos h,if_pos h]
   by_cases he: (pcR d a).2.2=0
   ·have hu:=KK_ ha he
    have hl:=adK_ ha
    rw[if_pos he,if_pos he,aaF_ k j (pcR d a).2.1 hl.2 (by omega) (by omega)]
   ·rw[if_neg he,if_neg he]
  ·rw[if_neg h,if_neg h]
def pcs (d:List UInt8) (a:Nat):List PcL×Nat×Int:=pcsF d (d.length - a) a
theorem acH_ {d:List UInt8} {a:Nat} (h: ¬a<d.length):pcs d a=([],a,0):=by
 unfold pcs
 rw[show d.length - a=0 by omega];rfl
theorem adL_ {d:List UInt8} {a:Nat} (h:a<d.length) (he: (pcR d a).2.2=0):pcs d a=((pcR d a).1:: (pcs d (pcR d a).2.1).1,(pcs d (pcR d a).2.1).2):=by
 have hu:=KK_ (Nat.le_of_lt h) he
 have hl:=adK_ (Nat.le_of_lt h)
 unfold pcs
 obtain⟨k,hk⟩: ∃k,d.length - a=k+1:=⟨d.length - a - 1,by omega⟩
 rw[hk]
 conv=>lhs;unfold pcsF
 rw[if_pos h,if_pos he,aaF_ k (d.length - (pcR d a).2.1) (pcR d a).2.1 hl.2 (by omega) (Nat.le_refl _)]
theorem VS_ {d:List UInt8} {a:Nat} (h:a<d.length) (he: (pcR d a).2.2≠0):pcs d a=([(pcR d a).1],(pcR d a).2):=by
 unfold pcs
 obtain⟨k,hk⟩: ∃k,d.length - a=k+1:=⟨d.length - a - 1,by omega⟩
 rw[hk]
 unfold pcsF
 rw[if_pos h,if_neg he]
theorem alV_ {d:List UInt8}: ∀ (k a:Nat),d.length - a≤k→a≤d.length→(pcs d a).2.2=0→(pcs d a).2.1=d.length
 |k,a,hk,ha,h=>by
  by_cases hlt:a<d.length
  ·by_cases he: (pcR d a).2.2=0
   ·have hu:=KK_ ha he
    have hl:=adK_ ha
    rw[adL_ hlt he] at h ⊢
    cases k with
    |zero=>omega
    |succ k=>exact alV_ k _ (by omega) hl.2 h
   ·rw[VS_ hlt he] at h
    exact absurd h he
  ·rw[acH_ hlt];show a=d.length;omega
def kB_ (d:List UInt8):Option (Nat×List PcL):=
 if(zu_ d (zu_ d 0 0 4099).2.1 (zu_ d 0 0 4099).2.2 4099).2.2≠0 then none
 else if(pcs d (zu_ d (zu_ d 0 0 4099).2.1 (zu_ d 0 0 4099).2.2 4099).2.1).2.2≠0 then none
 else if Za_ (zu_ d 0 0 4099).1 (pcs d (zu_ d (zu_ d 0 0 4099).2.1 (zu_ d 0 0 4099).2.2 4099).2.1).1=((zu_ d (zu_ d 0 0 4099).2.1 (zu_ d 0 0 4099).2.2 4099).1,0) then some ((zu_ d 0 0 4099).1.toNat,(pcs d (zu_ d (zu_ d 0 0 4099).2.1 (zu_ d 0 0 4099).2.2 4099).2.1).1)
 else none
def xJ_ (base d:List UInt8):List UInt8×Int:=
 match kB_ d with
 |none=>([],2)
 |some p=>if p.1≠base.length then([],19) else(txtP base p.2,0)
end Go.Proofs
end
section
open Go Go.Proofs Go.Sx Go.StP Go.Flo
namespace Go.Proofs
set_option maxRecDepth 10000
set_option maxHeartbeats 400000
set_option linter.unusedSimpArgs false
theorem cvIF:cvT Tryz.prog 3 301= .no:=id (by kernel_rfl)
theorem cvFI:cvT Tryz.prog 301 3= .no:=id (by kernel_rfl)
set_option linter.defProp false
def wd_:=And.intro (@zg_) (And.intro (@zf_) (@WY_))
theorem Kq_ (x a b:Int) (w:World) (hx:x.natAbs<8192) (ha:a.natAbs<8192) (hb:b.natAbs<8192):
  Rets Tryz.prog 237 #[fl x,vi a,vi b] w (fun v D=>v= .bool (decide (a≤x∧x≤b))∧D= []):=by
 refine Rets.enterV Tryz.func237 rfl (rs:= [.tmp 6]) Tryz.results237 Tryz.ntmps237 ?_
 refine kf ?_
 first|with_reducible refine ks [] @wd_ ?_|refine kp @wd_ ?_
 refine Ow.convIF rfl rfl cvIF Tryz.underlying3 Tryz.underlying301 rfl ?_
 refine Ow.fgeq rfl rfl rfl hx ha ?_
 by_cases h1:a≤x
 ·rw[decide_eq_true h1]
  refine ko @wd_ ?_
  refine Ow.convIF rfl rfl cvIF Tryz.underlying3 Tryz.underlying301 rfl ?_
  refine Ow.fleq rfl rfl rfl hx hb ?_
  by_cases h2:x≤b
  ·rw[decide_eq_true h2]
   refine ko @wd_ ?_
   refine Ow.convFI rfl rfl cvFI Tryz.underlying301 Tryz.underlying3 rfl hx ?_
   refine Ow.convIF rfl rfl cvIF Tryz.underlying3 Tryz.underlying301 rfl ?_
   refine ko @wd_ ?_
   refine Ow.feql rfl rfl rfl hx hx ?_
   rw[show(x==x)=true by simp]
   refine ko @wd_ ?_
   first|with_reducible refine ks [] @wd_ ?_|refine kp @wd_ ?_
   refine⟨_,(ke @wd_),trivial, ?_⟩
   rw[decide_eq_true ⟨h1,h2⟩];rfl
  ·rw[decide_eq_false h2]
   refine ko @wd_ ?_
   first|with_reducible refine ks [] @wd_ ?_|refine kp @wd_ ?_
   refine⟨_,(ke @wd_),trivial, ?_⟩
   rw[decide_eq_false (fun h=>h2 h.2)];rfl
 ·rw[decide_eq_false h1]
  refine ko @wd_ ?_
  first|with_reducible refine ks [] @wd_ ?_|refine kp @wd_ ?_
  refine⟨_,(ke @wd_),trivial, ?_⟩
  rw[decide_eq_false (fun h=>h1 h.1)];rfl
theorem xq_ (p:PcL) (E:TypeId) (n:Nat):zr_ (some (false,n)) (some (.cells (pcC p).toArray E (0,0))) 0=some (cx p.a p.n):=(rfl)
theorem xn_ (p:PcL) (E:TypeId) (n:Nat):zr_ (some (false,n)) (some (.cells (pcC p).toArray E (0,0))) 1=some (vs p.x):=(rfl)
theorem kQ_ (p:PcL) (E:TypeId):zr_ (some (true,2)) (some (.cells (pcC p).toArray E (0,0))) 0=some (.agg (pcC p).toArray):=vl_ _ E (0,0) 2 rfl
theorem jG_ (p:PcL):Value.cells (.agg (pcC p).toArray)=(pcC p).toArray:=ze_ _
theorem zrPc:zK_ Tryz.prog 300=some (.agg (pcC pc0).toArray):=id (by kernel_rfl)
theorem adS_ (p q:PcL) (E:TypeId):zp_ (some (true,2)) (some (.cells (pcC q).toArray E (0,0))) 0 (.agg (pcC p).toArray)=some (.cells (pcC p).toArray E (0,0)):=by
 have:=vk_ (pcC p) (n:=2) true (pcC q).toArray E rfl (abW_ p) rfl
 exact this
def cpO (p:PcL) (b:Int):Value:=match cpV p b with
 |some q=> .tuple #[vi q.1,vi q.2, .bool true]
 |none=> .tuple #[vi 0,vi 0, .bool false]
theorem agK_ {p:PcL} {b:Int} (h: ¬ (1≤p.n∧p.n≤4099∧p.x= []∧(p.a:Int)≤b - p.n)):cpO p b= .tuple #[vi 0,vi 0, .bool false]:=by
 unfold cpO cpV;rw[if_neg h]
theorem ank_ {p:PcL} {b:Int} (h:1≤p.n∧p.n≤4099∧p.x= []∧(p.a:Int)≤b - p.n):cpO p b= .tuple #[vi p.a,vi p.n, .bool true]:=by
 unfold cpO cpV;rw[if_pos h]
theorem cxz: (Value.complex FloatKind.f64 0 0)=cx 0 0:=id (by kernel_rfl)
set_option linter.defProp false
def zA_:=And.intro (And.intro (And.intro (And.intro (@zg_) (@zf_)) (And.intro (@xq_) (@xn_))) (And.intro (And.intro (@kQ_) (@jG_)) (And.intro (@J4_) (@cxz)))) (And.intro (And.intro (And.intro (@VK_) (@KX_)) (And.intro (@kj_) (@Sx.tup2_0))) (And.intro (And.intro (@Sx.tup2_1) (@Sx.tup3_0)) (And.intro (@Sx.tup3_1) (@Sx.tup3_2))))
theorem w6_ (p:PcL) (b:Int) (w:World) (hp:PcB p) (h0:0≤b) (h1:b≤4099):
  Rets Tryz.prog 227 #[.agg (pcC p).toArray,vi b] w (fun v D=>v=cpO p b∧D= []):=by
 obtain⟨hpa,hpn⟩:=hp
 refine Rets.enterV Tryz.func227 rfl (rs:= [.tmp 4, .tmp 5, .tmp 6]) Tryz.results227 Tryz.ntmps227 ?_
 refine kf ?_
 first|with_reducible refine ks [] @zA_ ?_|refine kp @zA_ ?_
 refine Ow.box rfl rfl fun b2 hb2 hw2=> ?_
 simp only[qi_,qe_,qc_,ze_,List.nil_append,List.cons_append]
 refine Ow.go rfl ?_
 simp(disch:=(first|assumption|omega| (simp only[jF_,jE_,UInt64.reduceToNat];try omega))) only[↓Sx.S0,Sx.S1,Tryz.fx,zA_,Nat.reduceAdd,Nat.reducePow,Int.reducePow,Nat.reduceBEq, ↓reduceIte,UInt8.reduceToNat,UInt16.reduceToNat,UInt32.reduceToNat,UInt64.reduceToNat,Int.reduceToNat]
 first|with_reducible refine ks [] @zA_ ?_|refine kp @zA_ ?_
 refine Ow.imag rfl rfl ?_
 refine Ow.callFV rfl Tryz.call237 (fun w' hw'=>Kq_ (p.n:Int) 1 4099 w' (by omega) (by omega) (by omega)) ?_
 by_cases c1:1≤p.n
 ·rw[decide_eq_true (show(1:Int)≤ (p.n:Int)∧(p.n:Int)≤4099 by omega)]
  have n1: (!true)=false:=rfl
  by_cases c2:p.x= []
  ·have d2: (p.x != [])=false:=by rw[c2];rfl
   refine ko (And.intro @zA_ (And.intro @n1 (@d2))) ?_
   first|with_reducible refine ks [] @zA_ ?_|refine kp @zA_ ?_
   refine Ow.imag rfl rfl ?_
   refine Ow.convFI rfl rfl cvFI Tryz.underlying301 Tryz.underlying3 rfl (by omega) ?_
   refine ko @zA_ ?_
   first|with_reducible refine ks [] @zA_ ?_|refine kp @zA_ ?_
   refine Ow.real rfl rfl ?_
   refine ko @zA_ ?_
   refine Ow.callFV rfl Tryz.call237 (fun w' hw'=>Kq_ (p.a:Int) 0 (b - p.n) w' (by omega) (by omega) (by omega)) ?_
   by_cases c3: (p.a:Int)≤b - p.n
   ·rw[decide_eq_true (show(0:Int)≤ (p.a:Int)∧(p.a:Int)≤b - p.n by omega)]
    refine ko (And.intro @zA_ @n1) ?_
    first|with_reducible refine ks [] @zA_ ?_|refine kp @zA_ ?_
    refine Ow.real rfl rfl ?_
    refine Ow.convFI rfl rfl cvFI Tryz.underlying301 Tryz.underlying3 rfl (by omega) ?_
    refine ko @zA_ ?_
    first|with_reducible refine ks [] @zA_ ?_|refine kp @zA_ ?_
    refine⟨_,(ke @zA_),⟨hw2,trivial⟩, ?_⟩
    rw[ank_ ⟨c1,hpn,c2,c3⟩];rfl
   ·rw[decide_eq_false (show¬ ((0:Int)≤ (p.a:Int)∧(p.a:Int)≤b - p.n) by omega)]
    have n2: (!false)=true:=rfl
    refine ko (And.intro @zA_ @n2) ?_
    first|with_reducible refine ks [] @zA_ ?_|refine kp @zA_ ?_
    refine⟨_,(ke @zA_),⟨hw2,trivial⟩, ?_⟩
    rw[agK_ fun h=>c3 h.2.2.2];rfl
  ·have d2: (p.x != [])=true:=by simpa using c2
   refine ko (And.intro @zA_ (And.intro @n1 (@d2))) ?_
   first|with_reducible refine ks [] @zA_ ?_|refine kp @zA_ ?_
   refine⟨_,(ke @zA_),⟨hw2,trivial⟩, ?_⟩
   rw[agK_ fun h=>c2 h.2.2.1];rfl
 ·rw[decide_eq_false (show¬ ((1:Int)≤ (p.n:Int)∧(p.n:Int)≤4099) by omega)]
  have n2: (!false)=true:=rfl
  refine ko (And.intro @zA_ @n2) ?_
  first|with_reducible refine ks [] @zA_ ?_|refine kp @zA_ ?_
  refine⟨_,(ke @zA_),⟨hw2,trivial⟩, ?_⟩
  rw[agK_ fun h=>c1 h.1];rfl
theorem Z5_ {p:PcL} {b:Int} (h: ¬ (p.a=0∧p.n=0∧p.x.length≤4099)):kM_ p b=match cpV p b with|some q=>q.2|none=>0:=by
 unfold kM_;rw[if_neg h]<;>cases cpV p b<;>rfl
theorem acD_ (p:PcL) (b:Int) (w:World) (hp:PcB p) (h0:0≤b) (h1:b≤4099) (hx:p.x.length<9223372036854775808):
  Rets Tryz.prog 236 #[.agg (pcC p).toArray,vi b] w (fun v D=>v=vi (kM_ p b:Nat)∧D= []):=by
 have hp':=hp
 obtain⟨hpa,hpn⟩:=hp'
 refine Rets.enterV Tryz.func236 rfl (rs:= [.tmp 4]) Tryz.results236 Tryz.ntmps236 ?_
 refine kf ?_
 first|with_reducible refine ks [] @zA_ ?_|refine kp @zA_ ?_
 refine Ow.box rfl rfl fun b2 hb2 hw2=> ?_
 simp only[qi_,qe_,qc_,ze_,List.nil_append,List.cons_append]
 refine Ow.go rfl ?_
 simp(disch:=(first|assumption|omega| (simp only[jF_,jE_,UInt64.reduceToNat];try omega))) only[↓Sx.S0,Sx.S1,Tryz.fx,zA_,Nat.reduceAdd,Nat.reducePow,Int.reducePow,Nat.reduceBEq, ↓reduceIte,UInt8.reduceToNat,UInt16.reduceToNat,UInt32.reduceToNat,UInt64.reduceToNat,Int.reduceToNat]
 first|with_reducible refine ks [] @zA_ ?_|refine kp @zA_ ?_
 refine Ow.ceql (a':=0) (b':=0) rfl rfl rfl (by omega) (by omega) (by omega) (by omega) ?_
 have tail: ¬ (p.a=0∧p.n=0∧p.x.length≤4099)→True:=fun _=>trivial
 by_cases hz:p.a=0∧p.n=0
 ·have e: (((p.a:Nat):Int)==0&& ((p.n:Nat):Int)==0)=true:=by rw[hz.1,hz.2];rfl
  rw[e]
  by_cases hl:p.x.length≤4099
  ·have d1:decide ((p.x.length:Int)≤4099)=true:=decide_eq_true (by omega)
   refine ko (And.intro @zA_ @d1) ?_
   first|with_reducible refine ks [] @zA_ ?_|refine kp @zA_ ?_
   refine⟨_,(ke @zA_),⟨hw2,trivial⟩, ?_⟩
   unfold kM_;rw[if_pos ⟨hz.1,hz.2,hl⟩];rfl
  ·have d1:decide ((p.x.length:Int)≤4099)=false:=decide_eq_false (by omega)
   have hc:cpV p b=none:=by unfold cpV;rw[if_neg (by omega)]
   refine ko (And.intro @zA_ @d1) ?_
   first|with_reducible refine ks [] @zA_ ?_|refine kp @zA_ ?_
   refine Ow.callFV rfl Tryz.call227 (fun w' hw'=>w6_ p b w' hp h0 h1) ?_
   unfold cpO
   rw[hc]
   refine ko @zA_ ?_
   first|with_reducible refine ks [] @zA_ ?_|refine kp @zA_ ?_
   refine⟨_,(ke @zA_),⟨hw2,trivial⟩, ?_⟩
   rw[Z5_ (fun h=>hl h.2.2),hc];rfl
 ·have e: (((p.a:Nat):Int)==0&& ((p.n:Nat):Int)==0)=false:=by
   rw[Bool.and_eq_false_iff]
   by_cases ha:p.a=0
   ·right;rw[beq_eq_false_iff_ne];omega
   ·left;rw[beq_eq_false_iff_ne];omega
  rw[e]
  refine ko @zA_ ?_
  first|with_reducible refine ks [] @zA_ ?_|refine kp @zA_ ?_
  refine Ow.callFV rfl Tryz.call227 (fun w' hw'=>w6_ p b w' hp h0 h1) ?_
  unfold cpO
  cases hc:cpV p b with
  |none=>
   simp only
   refine ko @zA_ ?_
   first|with_reducible refine ks [] @zA_ ?_|refine kp @zA_ ?_
   refine⟨_,(ke @zA_),⟨hw2,trivial⟩, ?_⟩
   rw[Z5_ (fun h=>hz ⟨h.1,h.2.1⟩),hc];rfl
  |some q=>
   simp only
   refine ko @zA_ ?_
   first|with_reducible refine ks [] @zA_ ?_|refine kp @zA_ ?_
   refine⟨_,(ke @zA_),⟨hw2,trivial⟩, ?_⟩
   rw[Z5_ (fun h=>hz ⟨h.1,h.2.1⟩),hc];rfl
abbrev PcSl (w:World) (v:Value) (l:List PcL):Prop:=SlV 2 pcC pc0 w v l
def BndP (l:List PcL):Prop:= ∀g,g<l.length→PcB (l.getD g pc0)∧(l.getD g pc0).x.length<9223372036854775808
theorem agL_ {b:Int} {l:List PcL} {g:Nat} (h:g<l.length):w3_ b (l.take (g+1))=w3_ b (l.take g)+kM_ (l.getD g pc0) b:=by
 rw[take_snoc (z:=pc0) h,agE_]
theorem ahN_ {b:Int} {l:List PcL} {g:Nat} (h:g<l.length):V3_ b (l.take (g+1))=(V3_ b (l.take g) ||kM_ (l.getD g pc0) b==0):=by
 rw[take_snoc (z:=pc0) h];unfold V3_;rw[List.any_append];simp
theorem ak7_ {b:Int} {l:List PcL} {g:Nat} (h:g<l.length) (hz:kM_ (l.getD g pc0) b=0):V3_ b l=true:=by
 unfold V3_
 rw[List.any_eq_true]
 exact⟨_,VO_ (z:=pc0) h,by rw[beq_iff_eq];exact hz⟩
theorem Kp_ (b:Int) (v:Value) (l:List PcL) (w:World) (hv:PcSl w v l) (hl:BndP l) (hn:l.length<1000000000):
  Rets Tryz.prog 226 #[vi b,v] w (fun v D=>v= .tuple #[vi (Za_ b l).1,vi (Za_ b l).2]∧D= []):=by
 obtain⟨bb,off,arr,E,fz,hr⟩:=hv.row
 have ln:=hv.len
 refine Rets.enterV Tryz.func226 rfl (rs:= [.tmp 4, .tmp 5]) Tryz.results226 Tryz.ntmps226 ?_
 refine kf ?_
 by_cases hb:b<0∨4099<b
 ·have hc:Za_ b l=(0,1):=by unfold Za_;rw[if_pos hb]
  by_cases h1:b<0
  ·have d1:decide (b<0)=true:=decide_eq_true h1
   first|with_reducible refine ks [] (And.intro @zA_ @d1) ?_|refine kp (And.intro @zA_ @d1) ?_
   refine⟨_,(ke @zA_),trivial, ?_⟩
   rw[hc];rfl
  ·have d1:decide (b<0)=false:=decide_eq_false h1
   have d2:decide (4099<b)=true:=decide_eq_true (by omega)
   first|with_reducible refine ks [] (And.intro @zA_ (And.intro @d1 (@d2))) ?_|refine kp (And.intro @zA_ (And.intro @d1 (@d2))) ?_
   refine⟨_,(ke @zA_),trivial, ?_⟩
   rw[hc];rfl
 have d1:decide (b<0)=false:=decide_eq_false (by omega)
 have d2:decide (4099<b)=false:=decide_eq_false (by omega)
 first|with_reducible refine ks [] (And.intro @zA_ (And.intro @d1 (And.intro @d2 (@ln)))) ?_|refine kp (And.intro @zA_ (And.intro @d1 (And.intro @d2 (@ln)))) ?_
 refine Cw.loopG (G:=(Nat×zd_)) [20,21,22,9,23,24,25,10,26,27,4,5,28,29,30,31,6,32,33,7,34,19] (fun q=> [(6,vi (min (w3_ b (l.take q.1)) 4100:Nat)),(7,vi (if 4099<w3_ b (l.take q.1) then 19 else 0)),(19,vi q.1)]) (fun q=>q.2) (fun q=>q.1≤l.length∧New w.heap.size q.2∧V3_ b (l.take q.1)=false) (fun q=>l.length - q.1) ⟨0,[]⟩ rfl rfl ?_ ?_
 ·exact⟨Nat.zero_le _,trivial,rfl⟩
 intro q jq hq
 refine kv ?_
 obtain⟨g,D⟩:=q
 simp only at hq ⊢
 obtain⟨hg,hN,hz⟩:=hq
 by_cases hlt:g<l.length
 ·have hb0:0<l.length:=by omega
  have hbl:=hr.lt hb0
  have rd:zy_ w D bb=some (.cells arr E fz):=by rw[qK_ (hN.not hbl)];exact hr.has hb0
  have i2:=hr.idx true g hlt
  have ld:=hr.load vf_ (by omega) hlt
  obtain⟨hpb,hpx⟩:=hl g hlt
  have hst:=agL_ (b:=b) hlt
  have hat:=ahN_ (b:=b) hlt
  have hzz:=ak7_ (b:=b) hlt
  generalize hp:l.getD g pc0=p at*
  have d3:decide ((g:Int)< (l.length:Int))=true:=decide_eq_true (by omega)
  have hple:=akv_ p b
  first|with_reducible refine ks [] (And.intro @zA_ (And.intro @d3 (And.intro @i2 (And.intro @rd (@ld))))) ?_|refine kp (And.intro @zA_ (And.intro @d3 (And.intro @i2 (And.intro @rd (@ld))))) ?_
  refine Ow.alloc rfl rfl zrPc fun b9 hb9 hw9=> ?_
  simp only[ze_,List.nil_append,List.cons_append]
  refine Ow.permL (M:=(b9, .cells (pcC pc0).toArray 300 (0,0))::D) (by classical exact List.perm_iff_count.2 fun a=>by simp only[List.count_append,List.count_cons,List.count_nil]<;>omega) ?_
  have hsp:=adS_ p pc0 300
  refine ko (And.intro @zA_ @hsp) ?_
  first|with_reducible refine ks [] @zA_ ?_|refine kp @zA_ ?_
  refine Ow.callFV rfl Tryz.call236 (fun w' hw'=>acD_ p b w' hpb (by omega) (by omega) hpx) ?_
  by_cases hk:kM_ p b=0
  ·have d4: (((kM_ p b:Nat):Int)==0)=true:=by rw[hk];rfl
   have hc:Za_ b l=(0,1):=by unfold Za_;rw[if_neg hb,if_pos (hzz hk)]
   refine ko (And.intro @zA_ @d4) ?_
   first|with_reducible refine ks [] (And.intro @zA_ @d4) ?_|refine kp (And.intro @zA_ @d4) ?_
   refine⟨_,(ke @zA_),⟨hw9,hN⟩, ?_⟩
   rw[hc];rfl
  ·have d4: (((kM_ p b:Nat):Int)==0)=false:=by rw[beq_eq_false_iff_ne];omega
   refine ko (And.intro @zA_ @d4) ?_
   first|with_reducible refine ks [] (And.intro @zA_ @d4) ?_|refine kp (And.intro @zA_ @d4) ?_
   refine Ow.minI rfl rfl rfl ?_
   have hm: (if 4100< ((min (w3_ b (l.take g)) 4100:Nat):Int)+ ((kM_ p b:Nat):Int) then(4100:Int) else((min (w3_ b (l.take g)) 4100:Nat):Int)+ ((kM_ p b:Nat):Int))=((min (w3_ b (l.take (g+1))) 4100:Nat):Int):=by
    rw[hst];split<;>omega
   rw[hm]
   have hN9:New w.heap.size ((b9,Obj.cells (pcC p).toArray 300 (0,0))::D):=⟨hw9,hN⟩
   have hz9:V3_ b (l.take (g+1))=false:=by rw[hat,hz];simp[hk]
   by_cases h4:4099<w3_ b (l.take (g+1))
   ·have d5:decide ((4099:Int)< ((min (w3_ b (l.take (g+1))) 4100:Nat):Int))=true:=decide_eq_true (by omega)
    refine ko (And.intro @zA_ @d5) ?_
    first|with_reducible refine ks [] (And.intro @zA_ @d5) ?_|refine kp (And.intro @zA_ @d5) ?_
    refine Again.mk (g+1,(b9,Obj.cells (pcC p).toArray 300 (0,0))::D) (by show l.length - (g+1)<l.length - g;omega) ⟨hlt,hN9,hz9⟩ rfl ?_
    rw[if_pos h4];rfl
   ·have d5:decide ((4099:Int)< ((min (w3_ b (l.take (g+1))) 4100:Nat):Int))=false:=decide_eq_false (by omega)
    have h5: ¬4099<w3_ b (l.take g):=by omega
    rw[if_neg h5]
    refine ko (And.intro @zA_ @d5) ?_
    first|with_reducible refine ks [] (And.intro @zA_ @d5) ?_|refine kp (And.intro @zA_ @d5) ?_
    refine Again.mk (g+1,(b9,Obj.cells (pcC p).toArray 300 (0,0))::D) (by show l.length - (g+1)<l.length - g;omega) ⟨hlt,hN9,hz9⟩ rfl ?_
    rw[if_neg h4];rfl
 ·obtain rfl:g=l.length:=by omega
  have d3:decide ((l.length:Int)< (l.length:Int))=false:=by simp
  rw[List.take_length] at hz
  rw[List.take_length]
  have hz': ¬V3_ b l=true:=by rw[hz];simp
  by_cases h4:4099<w3_ b l
  ·have hc:Za_ b l=(0,19):=by unfold Za_;rw[if_neg hb,if_neg hz',if_pos h4]
   have e: ((19:Int) !=0)=true:=rfl
   rw[if_pos h4]
   first|with_reducible refine ks [] (And.intro @zA_ (And.intro @d3 (@e))) ?_|refine kp (And.intro @zA_ (And.intro @d3 (@e))) ?_
   refine⟨_,(ke @zA_),hN, ?_⟩
   rw[hc];rfl
  ·have hc:Za_ b l=(((w3_ b l:Nat):Int),0):=by unfold Za_;rw[if_neg hb,if_neg hz',if_neg h4]
   have e: ((0:Int) !=0)=false:=rfl
   rw[if_neg h4,Nat.min_eq_left (by omega)]
   first|with_reducible refine ks [] (And.intro @zA_ (And.intro @d3 (@e))) ?_|refine kp (And.intro @zA_ (And.intro @d3 (@e))) ?_
   refine⟨_,(ke @zA_),hN, ?_⟩
   rw[hc];rfl
end Go.Proofs
end
section
open Go Go.Proofs Go.Sx Go.StP Go.Flo
namespace Go.Proofs
set_option maxRecDepth 10000
set_option maxHeartbeats 400000
set_option linter.unusedSimpArgs false
def pcAt (p:PcL) (b:Int):Nat×Nat:=match cpV p b with|some q=>q|none=>(0,0)
theorem aor_ (p:PcL) (b:Int):cpO p b= .tuple #[vi (pcAt p b).1,vi (pcAt p b).2, .bool (cpV p b).isSome]:=by
 unfold cpO pcAt
 cases cpV p b<;>rfl
theorem aiZ_ (p:PcL) (base:List UInt8): (pcAt p base.length).1+ (pcAt p base.length).2≤base.length:=by
 unfold pcAt cpV
 split
 ·rename_i q h
  split at h
  ·rename_i hc;cases h;simp only;omega
  ·cases h
 ·simp
theorem aoQ_ (base:List UInt8) (p:PcL):pcT base p=(base.take ((pcAt p base.length).1+ (pcAt p base.length).2)).drop (pcAt p base.length).1++p.x:=by
 unfold pcT pcAt
 cases h:cpV p base.length with
 |none=>simp
 |some q=>
  simp only
  rw[List.drop_take,Nat.add_sub_cancel_left]
theorem anr_ (base:List UInt8) (p:PcL) (h:kM_ p base.length≠0): (pcT base p).length=kM_ p base.length:=by
 have hle:=aiZ_ p base
 unfold kM_ at h ⊢
 unfold pcT
 unfold pcAt at hle
 split at h
 ·rename_i hc
  rw[if_pos hc]
  have hn:cpV p base.length=none:=by unfold cpV;rw[if_neg (by omega)]
  rw[hn]
 ·rename_i hc
  rw[if_neg hc]
  cases hq:cpV p base.length with
  |none=>rw[hq] at h;exact absurd rfl h
  |some q=>
   rw[hq] at hle
   simp only at hle ⊢
   have hx:p.x= []:=by
    unfold cpV at hq
    split at hq
    ·rename_i h2;exact h2.2.2.1
    ·cases hq
   rw[hx,List.append_nil,List.length_take,List.length_drop]
   omega
theorem ahW_ {base:List UInt8} {l:List PcL} {g:Nat} (h:g<l.length):txtP base (l.take (g+1))=txtP base (l.take g)++pcT base (l.getD g pc0):=by
 rw[take_snoc (z:=pc0) h];unfold txtP;simp
theorem QX_ {base:List UInt8}: ∀ {l:List PcL},V3_ base.length l=false→(txtP base l).length=w3_ base.length l
 | [],_=>rfl
 |p::l,h=>by
  unfold V3_ at h
  rw[List.any_cons,Bool.or_eq_false_iff] at h
  have h1:=QX_ (base:=base) (l:=l) h.2
  have h2:=anr_ base p (by simpa using h.1)
  unfold txtP w3_ at h1 ⊢
  rw[List.map_cons,List.flatten_cons,List.length_append,List.map_cons,List.sum_cons,h1,h2]
theorem aaM_ {b:Int} {l:List PcL} {g:Nat}:w3_ b (l.take g)≤w3_ b l:=by
 have:=akn_ b (l.take g) (l.drop g)
 rw[List.take_append_drop] at this
 omega
theorem ane_ {b:Int} {l:List PcL} {g:Nat} (h:V3_ b l=false):V3_ b (l.take g)=false:=by
 unfold V3_ at h ⊢
 rw[List.any_eq_false] at h ⊢
 exact fun x hx=>h x (List.mem_of_mem_take hx)
theorem ams_ (a b:List UInt8):wO_ Tryz.prog 57 2 [(0,vs a),(1,vs b)]=some (9, #[vs a,vs b]):=by
 have hz:zK_ Tryz.prog 9=some (vs []):=Tryz.zr9
 have hI: ∀I:Array Value,I.size=2→(I.setIfInBounds 0 (vs a)).setIfInBounds 1 (vs b)= #[vs a,vs b]:=by
  intro I h
  apply Array.ext
  ·simp[h]
  ·intro i h1 h2
   have h3:i<2:=by simpa using h2
   match i,h3 with
   |0,_=>simp[h]
   |1,_=>simp[h]
 have hc: ∀s:List UInt8,(vs s).cells= #[vs s]:=fun s=>rfl
 simp only[wO_,Tryz.underlying57,Tryz.ag9,hz,Option.map_some]
 simp[Instr.fill,hc]
 exact hI _ (by simp)
theorem BldAt.zeroK (b:Nat) {L:zd_} (h:Sx.look L b=some (.cells #[.pointer none, .slice none 0 0] 123 (0,0))):BldAt b [] L:=
 ⟨_,_,h, .inl rfl, .nl,fun h=>by cases h⟩
theorem aax_ {w0:World} {L X D:zd_} (hC:Came w0 L X D) (hX:New w0.heap.size X):New w0.heap.size D:=New.of_le fun c hc=>by
 rcases hC.new c hc with h| ⟨-,h⟩
 ·exact hX.le c h
 ·exact h
structure TxG where
 g:Nat
 D:zd_
 E:zd_
set_option linter.defProp false
def jL_:=And.intro (And.intro (And.intro (@zg_) (@zf_)) (And.intro (@xq_) (And.intro (@xn_) (@kQ_)))) (And.intro (And.intro (@jG_) (And.intro (@Sx.tup2_0) (@Sx.tup2_1))) (And.intro (@Sx.tup3_0) (And.intro (@Sx.tup3_1) (@Sx.tup3_2))))
theorem ae7_ (base:List UInt8) (v:Value) (l:List PcL) (w:World) (hv:PcSl w v l) (hl:BndP l) (hn:l.length<1000000000):
  Rets Tryz.prog 206 #[vs base,v] w (fun v' D=>v'= .tuple #[vs (if(Za_ base.length l).2=0 then txtP base l else []),vi (Za_ base.length l).2]∧D= []):=by
 obtain⟨bb,off,arr,E,fz,hr⟩:=hv.row
 have ln:=hv.len
 refine Rets.enterV Tryz.func206 rfl (rs:= [.tmp 4, .tmp 5]) Tryz.results206 Tryz.ntmps206 ?_
 refine kf ?_
 first|with_reducible refine ks [] @jL_ ?_|refine kp @jL_ ?_
 refine Ow.callFV rfl Tryz.call226 (fun w' hw'=>Kp_ (base.length:Int) v l w' (hv.oldN hw' trivial) hl hn) ?_
 by_cases he: (Za_ base.length l).2=0
 ·obtain⟨m,hm⟩: ∃m,Za_ base.length l=(m,0):=⟨(Za_ base.length l).1,by rw[←he]⟩
  obtain⟨-,hb4,hz,hs4,-,hl4⟩:=Vb_ hm
  rw[if_pos he,hm]
  have e0: ((0:Int) !=0)=false:=rfl
  refine ko @jL_ ?_
  first|with_reducible refine ks [] (And.intro @jL_ @e0) ?_|refine kp (And.intro @jL_ @e0) ?_
  refine Ow.alloc rfl rfl Tryz.zr123 fun b8 hb8 hw8=> ?_
  have hZ:BldAt b8 [] [(b8, .cells #[.pointer none, .slice none 0 0] 123 (0,0))]:=BldAt.zeroK b8 (zS_ _ _ _)
  refine ko @jL_ ?_
  first|with_reducible refine ks [] (And.intro @jL_ @ln) ?_|refine kp (And.intro @jL_ @ln) ?_
  refine Cw.loopG (G:=TxG) [27,28,29,10,31,32,33,34,30,35,36,37,11,12,13,38,39,40,41,42,43,44,45,46,47,48,26] (fun g=> [(8,vp b8 0),(26,vi g.g)]) (fun g=>g.D++g.E) (fun g=>g.g≤l.length∧New w.heap.size (g.D++g.E)∧BldAt b8 (txtP base (l.take g.g)) g.D) (fun g=>l.length - g.g) ⟨0,[(b8, .cells #[.pointer none, .slice none 0 0] 123 (0,0))],[]⟩ rfl rfl ?_ ?_
  ·exact⟨Nat.zero_le _,⟨hw8,trivial⟩,hZ⟩
  intro g j hg
  refine kv ?_
  obtain⟨g,D,E2⟩:=g
  simp only at hg ⊢
  obtain⟨hgl,hN,hB⟩:=hg
  by_cases hlt:g<l.length
  ·have hb0:0<l.length:=by omega
   have hbl:=hr.lt hb0
   have rd:zy_ w (D++E2) bb=some (.cells arr E fz):=by rw[qK_ (hN.not hbl)];exact hr.has hb0
   have i2:=hr.idx true g hlt
   have ld:=hr.load vf_ (by omega) hlt
   obtain⟨hpb,hpx⟩:=hl g hlt
   have htk:=ahW_ (base:=base) hlt
   have htl:=QX_ (base:=base) (ane_ (g:=g+1) hz)
   have hsl:=aaM_ (b:=(base.length:Int)) (l:=l) (g:=g+1)
   generalize hp:l.getD g pc0=p at*
   have hat:=aiZ_ p base
   have hpt:=aoQ_ base p
   rw[htk,List.length_append] at htl
   have hptl: (pcT base p).length≤4099:=by omega
   have d3:decide ((g:Int)< (l.length:Int))=true:=decide_eq_true (by omega)
   first|with_reducible refine ks [] (And.intro @jL_ (And.intro @d3 (And.intro @i2 (And.intro @rd (@ld))))) ?_|refine kp (And.intro @jL_ (And.intro @d3 (And.intro @i2 (And.intro @rd (@ld))))) ?_
   refine Ow.alloc rfl rfl zrPc fun b9 hb9 hw9=> ?_
   simp only[ze_,List.nil_append,List.cons_append]
   have hD9:b9∉keys D:=fun h=>Nat.lt_irrefl _ (zk_ hb9 (by rw[zj_];exact List.mem_append_left _ h))
   have h89:b8∈keys D:=by obtain⟨p,v,hlk,-⟩:=hB;exact zw_ hlk
   refine Ow.permL (M:=(b9, .cells (pcC pc0).toArray 300 (0,0)):: (D++E2)) (by classical exact List.perm_iff_count.2 fun a=>by simp only[List.count_append,List.count_cons,List.count_nil]<;>omega) ?_
   have hsp:=adS_ p pc0 300
   refine ko (And.intro @jL_ @hsp) ?_
   first|with_reducible refine ks [] @jL_ ?_|refine kp @jL_ ?_
   refine Ow.callFV rfl Tryz.call227 (fun w' hw'=>w6_ p (base.length:Int) w' hpb (by omega) (by omega)) ?_
   rw[aor_]
   generalize hA: (pcAt p base.length).1=A at*
   generalize hNn: (pcAt p base.length).2=Nn at*
   refine ko @jL_ ?_
   first|with_reducible refine ks [] @jL_ ?_|refine kp @jL_ ?_
   refine Cw.permL (M:=D++ ((b9, .cells (pcC p).toArray 300 (0,0))::E2)) (by classical exact List.perm_iff_count.2 fun a=>by simp only[List.count_append,List.count_cons,List.count_nil]<;>omega) ?_
   have rd9:zy_ w (D++ ((b9, .cells (pcC p).toArray 300 (0,0))::E2)) b9=some (.cells (pcC p).toArray 300 (0,0)):=qd_ (by rw[qU_ hD9];exact zS_ _ _ _)
   have hsum: (A:Int)+ (Nn:Int)=((A+Nn:Nat):Int):=by omega
   refine Cw.regionO [0,1,2,3,4,5,6,7,8,9] [8,9] rfl (by kernel_rfl) (by kernel_rfl) ?_
   simp only[zh_, ↓zc_, ↓zb_, ↓zn_, ↓zo_,za_]
   refine kq (And.intro @jL_ (And.intro @hsum (@rd9))) ?_
   refine Ow.buildSlice (e:=9) #[vs ((base.take (A+Nn)).drop A),vs p.x] rfl rfl (ams_ _ _) fun b11 hb11 hw11=> ?_
   have hD11:b11∉keys D:=fun h=>Nat.lt_irrefl _ (zk_ hb11 (by rw[zj_];exact List.mem_append_left _ h))
   rw[List.append_assoc]
   simp only[List.cons_append,List.nil_append]
   have hX1:=fun(w':World) (hw':Hp w (D++ ((b9,Obj.cells (pcC p).toArray 300 (0,0)):: (E2++ [(b11, .cells #[vs ((base.take (A+Nn)).drop A),vs p.x] 9 (0,0))]))) w')=>hw'.has b11 (.cells #[vs ((base.take (A+Nn)).drop A),vs p.x] 9 (0,0)) (by simp)
   have hpt2: [(base.take (A+Nn)).drop A,p.x].flatten=pcT base p:=by rw[hpt];simp
   refine kq @jL_ ?_
   refine Ow.callX (Y:=((b9,Obj.cells (pcC p).toArray 300 (0,0)):: (E2++ [(b11, .cells #[vs ((base.take (A+Nn)).drop A),vs p.x] 9 (0,0))]))) (by simp) rfl rfl Tryz.call60 (fun w' hw' hX hn=>kW_ b8 D _ _ b11 0 [(base.take (A+Nn)).drop A,p.x] _ _ _ w' hB hX hn (StrS.lit [(base.take (A+Nn)).drop A,p.x] rfl rfl (hX1 w' hw')) (fun _=>hD11) (by rw[hpt2];omega) (by simp)) (fun v12 D12 hC12 hS12=> ?_)
   obtain⟨rfl,hB12⟩:=hS12
   rw[hpt2,←htk] at hB12
   have hN0:New w.heap.size D:=New.of_le fun c hc=>hN.le c (by rw[zj_];exact List.mem_append_left _ hc)
   have hE0:New w.heap.size E2:=New.of_le fun c hc=>hN.le c (by rw[zj_];exact List.mem_append_right _ hc)
   have hN12:New w.heap.size D12:=aax_ hC12 hN0
   refine kq @jL_ ?_
   try with_reducible refine Ow.nil ?_
   first|with_reducible refine ks [] @jL_ ?_|refine kp @jL_ ?_
   refine Again.mk (TxG.mk (g+1) D12 ((b9,Obj.cells (pcC p).toArray 300 (0,0)):: (E2++ [(b11, .cells #[vs ((base.take (A+Nn)).drop A),vs p.x] 9 (0,0))]))) (by show l.length - (g+1)<l.length - g;omega) ⟨hlt,hN12.app ⟨hw9,hE0.app ⟨hw11,trivial⟩⟩,hB12⟩ rfl rfl
  ·obtain rfl:g=l.length:=by omega
   have d3:decide ((l.length:Int)< (l.length:Int))=false:=by simp
   rw[List.take_length] at hB
   have htl:=QX_ hz
   first|with_reducible refine ks [] (And.intro @jL_ @d3) ?_|refine kp (And.intro @jL_ @d3) ?_
   refine Ow.callX (Y:=E2) (by simp) rfl rfl Tryz.call64 (fun w' hw' hX hn=>kI_ b8 D _ w' hB hX hn (by omega)) (fun v12 D12 hC12 hS12=> ?_)
   have hS12':v12=vs (txtP base l):=hS12
   subst hS12'
   have hN0:New w.heap.size D:=New.of_le fun c hc=>hN.le c (by rw[zj_];exact List.mem_append_left _ hc)
   have hE0:New w.heap.size E2:=New.of_le fun c hc=>hN.le c (by rw[zj_];exact List.mem_append_right _ hc)
   have hN12:New w.heap.size D12:=aax_ hC12 hN0
   refine ko @jL_ ?_
   first|with_reducible refine ks [] @jL_ ?_|refine kp @jL_ ?_
   refine⟨_,(ke @jL_),hN12.app hE0, ?_⟩
   rfl
 ·have e1: ((Za_ base.length l).2 !=0)=true:=by rw[bne_iff_ne];exact he
  rw[if_neg he]
  refine ko @jL_ ?_
  first|with_reducible refine ks [] (And.intro @jL_ @e1) ?_|refine kp (And.intro @jL_ @e1) ?_
  refine⟨_,(ke @jL_),trivial, ?_⟩
  rfl
end Go.Proofs
end
namespace Go.Sx
open Go
section
variable {α:Type} {m:Nat} {enc:α→List Value} {z:α}
end
section
variable {P:Program} {w0:World} {f:Fr} {L:zd_} {N:Fr→zd_→Prop} {ops:Array Oper} {rest:List Oper} {md:Md} {d:Option Tmp} {ty:TypeId} {ps:String} {af:Array Edge} {g:Option (Nat×Bool)}
theorem Ow.makeSlice {t e:TypeId} {m:Bool×Nat} {z:Value} {x y:Operand} {n c:Nat} {md':Md} (he:md.turn=some md') (hs:zl_ ops f ⟨d, .makeSlice t x y,ty,ps,af,g⟩=false)
  (hu:P.underlying t=some (.slice e)) (hm:z0_ P e=some m) (hi:kN_ P e=true) (hz:zK_ P e=some z) (hx:ev f x=vi n) (hy:ev f y=vi c) (hnc:n≤c) (hbig:c≤2^38)
  (hn: ∀b,xa_ L b→w0.heap.size≤b→Ow P w0 ops md' rest (qz_ f d (vsl b 0 n c)) (L++ [(b, .cells (madeCells z.cells (c*m.2)) e (0,0))]) N):
  Ow P w0 ops md (⟨d, .makeSlice t x y,ty,ps,af,g⟩::rest) f L N:=by
 refine Ow.step he rfl hs fun w hw=> .inl ⟨vsl w.heap.size 0 n c,w.alloc (.cells (madeCells z.cells (c*m.2)) e (0,0)),_, ?_,hw.alloc _,hn _ (qq_ fun b hb=>hw.lt hb) hw.size⟩
 obtain⟨i,hie,-,hb⟩:=vQ_ hi hbig
 have hiz:i.zero=some z:=by
  unfold zK_ at hz
  rw[hie] at hz
  exact hz
 have him:i.size=m.2:=by
  unfold z0_ at hm
  rw[hie] at hm
  split at hm
  ·rename_i h1 h2
   cases h2
   cases hm
   rfl
  ·cases hm
 have hbb: (i.bytes:Int)* (c:Int)≤281474976710656:=by
  have: ((i.bytes*c:Nat):Int)≤281474976710656:=by rw[Nat.mul_comm];exact Int.ofNat_le.2 hb
  rwa [Int.natCast_mul] at this
 have hr:=run_make (P:=P) w t e i z hu hie hiz .i64 .i64 (n:Int) (c:Int) (by omega) (by omega) hbb (by omega)
 simp only[Int.toNat_natCast,him] at hr
 show(execOp (ev f) _).run P w=_
 simp only[execOp,Sem.run_bind]
 rw[hx,hy]
 show((Instr.makeSlice t (.int .i64 (n:Int)) (.int .i64 (c:Int))).run P w).andThen _=_
 rw[hr]
 rfl
theorem Ow.appendXG {ts tx e:TypeId} {m:Bool×Nat} {z:Value} {s x:Operand} {n k:Nat} {cs new:List Value} {dx:TypeDesc} {md':Md} {X Y:zd_} (sv:Value) (hL:L=X++Y) (hsv:ev f s=sv) (he:md.turn=some md')
  (hs:zl_ ops f ⟨d, .call ⟨.builtin .append, #[s,x], #[ts,tx]⟩,ty,ps,af,g⟩=false)
  (hu:P.underlying ts=some (.slice e)) (hm:z0_ P e=some m) (hi:kN_ P e=true) (hz:zK_ P e=some z) (hzs:z.cells.size=m.2) (hux:P.underlying tx=some dx) (hnx: ∀k,dx≠ .int k)
  (hB:Gr X e m.2 sv n cs) (hX: ∀w,Hp w0 L w→AppX P w m.2 (ev f x) k new) (hbig:2* (n+k)+768≤2^38)
  (hn: ∀B v' D,xa_ L B→w0.heap.size≤B→Gr D e m.2 v' (n+k) (cs++new)→(∀c,c∈keys X→c∈keys D)→(∀c,c∈keys D→c∈keys X∨B≤c)→(∀c o,slB sv≠some c→look X c=some o→look D c=some o)→Ow P w0 ops md' rest (qz_ f d v') (D++Y) N):
  Ow P w0 ops md (⟨d, .call ⟨.builtin .append, #[s,x], #[ts,tx]⟩,ty,ps,af,g⟩::rest) f L N:=by
 subst hL
 refine Ow.step he rfl hs fun w hw=> ?_
 have hp:=hw.part
 have hA:xa_ (X++Y) w.heap.size:=qq_ fun b hb=>hw.lt hb
 have fin: ∀v' w' D,(Builtin.append_ #[ts,tx] ty #[sv,ev f x]).run P w= .ok v' w'→Hp w D w'→Gr D e m.2 v' (n+k) (cs++new)→(∀c,c∈keys X→c∈keys D)→(∀c,c∈keys D→c∈keys X∨w.heap.size≤c)→(∀c o,slB sv≠some c→look X c=some o→look D c=some o)→
   (∃v w' L',(execOp (ev f) ⟨d, .call ⟨.builtin .append, #[s,x], #[ts,tx]⟩,ty,ps,af,g⟩).run P w= .ok (.value v) w'∧Hp w0 L' w'∧Ow P w0 ops md' rest (qz_ f d v) L' N):=by
  intro v' w' D hr hD hb h1 h2 h3
  refine⟨v',w',D++Y, ?_,hw.join hD h1 h2,hn w.heap.size v' D hA hw.size hb h1 h2 h3⟩
  simp only[execOp,resolve,Sem.run_bind,Sem.run_pure,Result.andThen_ok,invoke,builtin,List.map_toArray,List.map_cons,List.map_nil,hsv]
  rw[hr]
  rfl
 rcases hB with hB| ⟨rfl,rfl,b,rfl,hlk⟩
 ·obtain⟨v',w',D,hr,hD,hb,hg,-⟩:=Z3_ (w0:=w) (L:=X) (ty:=ty) (x:=ev f x) hp hu hm hi hz hzs hux hnx hB (fun w2 hw2=>hX w2 (by
   refine hw.join hw2 (fun c hc=>hc) (fun c hc=> .inl hc))) hbig
  exact .inl (fin v' w' D hr hD (.inl hb) hg.keys (fun c hc=>(hg.new c hc).imp id And.right) hg.look)
 ·rcases vR_ (w0:=w) (L:=X) (ty:=ty) (b:=b) (x:=ev f x) hp hu hm hi hz hzs hux hnx (fun w2 hw2=>hX w2 (by
   refine hw.join hw2 (fun c hc=>hc) (fun c hc=> .inl hc))) hbig with⟨h0,hr⟩ | ⟨-,v',w',D,hr,hD,hb,hg,-⟩
  ·subst h0
   have hnw:=(hX w hw).size
   obtain rfl:new= []:=List.eq_nil_of_length_eq_zero (by rw[hnw,Nat.zero_mul])
   exact .inl (fin _ w X hr hp (.inr ⟨rfl,rfl,b,rfl,hlk⟩) (fun c hc=>hc) (fun c hc=> .inl hc) (fun c o _ hl=>hl))
  ·exact .inl (fin v' w' D hr hD (.inl hb) hg.keys (fun c hc=>(hg.new c hc).imp id And.right) (fun c o _ hl=>hg.look c o (by simp[slB]) hl))
end
theorem New.perm {n:Nat} {D D':zd_} (h:New n D) (hp:D.Perm D'):New n D':=New.of_le fun c hc=>h.le c ((hp.map Prod.fst).mem_iff.2 hc)
end Go.Sx
section
open Go Go.Proofs Go.Sx Go.StP Go.Flo
namespace Go.Proofs
set_option maxRecDepth 10000
set_option maxHeartbeats 400000
set_option linter.unusedSimpArgs false
def dB (d:List UInt8):Int×Nat×Int:=zu_ d 0 0 4099
def dM (d:List UInt8):Int×Nat×Int:=zu_ d (dB d).2.1 (dB d).2.2 4099
theorem Zl_ (d:List UInt8):kB_ d=if(dM d).2.2≠0 then none else if(pcs d (dM d).2.1).2.2≠0 then none else if Za_ (dB d).1 (pcs d (dM d).2.1).1=((dM d).1,0) then some ((dB d).1.toNat,(pcs d (dM d).2.1).1) else none:=rfl
structure EG where
 lab:Nat
 br:Nat
 a:Nat
 e:Int
 out:List PcL
 v:Value
 D:zd_
def drO (d:List UInt8) (a e:Int):Obj:= .cells #[vs d,vi a,vi e] 212 (0,0)
def EJ (d:List UInt8) (n:Nat) (g:EG):Prop:=
 (g.lab=1∧n≤g.br∧New n g.D∧g.br∉keys g.D∧Gr g.D 300 2 g.v g.out.length (g.out.map pcC).flatten∧g.a≤d.length∧BndP g.out∧g.out.length≤4099∧
  ((g.e≠0∧kB_ d=none)∨(g.e=0∧(dM d).2.2=0∧pcs d (dM d).2.1=(g.out++ (pcs d g.a).1,(pcs d g.a).2))))∨
 (g.lab=0∧n≤g.br∧New n g.D∧g.br∉keys g.D∧Gr g.D 300 2 g.v g.out.length (g.out.map pcC).flatten∧BndP g.out∧g.out.length≤4099∧(dM d).2.2=0∧pcs d (dM d).2.1=(g.out,d.length,0))∨
 (g.lab=2∧New n g.D∧kB_ d=none)
def EH (d:List UInt8) (g:EG):zd_:=match g.lab with
 |1=>(g.br,drO d g.a g.e)::g.D
 |0=>(g.br,drO d g.a g.e)::g.D
 |_=>g.D
def ES (d:List UInt8) (g:EG):List (Nat×Value):=match g.lab with
 |1=> [(5,vp g.br 0),(6,vi (dB d).1),(7,vi (dM d).1),(8,g.v)]
 |0=> [(6,vi (dB d).1),(7,vi (dM d).1),(8,g.v)]
 |_=> []
def EL (g:EG):Nat:=match g.lab with
 |1=>1
 |0=>0
 |_=>2
def KC_ (d:List UInt8) (v:Value) (D:zd_):Prop:=match kB_ d with
 |some p=> ∃x,v= .tuple #[vi p.1,x,vi 0]∧BndP p.2∧p.2.length≤4099∧p.1≤4099∧GrI D 300 2 x p.2.length (p.2.map pcC).flatten
 |none=>v= .tuple #[vi 0, .slice none 0 0,vi 2]
def pcE (d:List UInt8) (a:Nat) (e:Int):PcL×Nat×Int:=
 if(zu_ d a e 8199).1%2=1 then
  (⟨(zu_ d (zu_ d a e 8199).2.1 (zu_ d a e 8199).2.2 4099).1.toNat,((zu_ d a e 8199).1 / 2).toNat,[]⟩,(zu_ d (zu_ d a e 8199).2.1 (zu_ d a e 8199).2.2 4099).2)
 else(⟨0,0,(jc_ d (zu_ d a e 8199).2.1 (zu_ d a e 8199).2.2 ((zu_ d a e 8199).1 / 2)).1⟩,(jc_ d (zu_ d a e 8199).2.1 (zu_ d a e 8199).2.2 ((zu_ d a e 8199).1 / 2)).2)
theorem ajE_ (d:List UInt8) (a:Nat):pcE d a 0=pcR d a:=rfl
theorem an4_ {d:List UInt8} {a:Nat} {e:Int} (he:e≠0): (pcE d a e).2.2=e:=by
 have h1:=ZI_ (s:=d) (a:=a) (most:=8199) he
 unfold pcE
 split
 ·simp only[h1]
  rw[ZI_ (s:=d) (a:=a) (most:=4099) he]
 ·simp only[h1]
  rw[W6_ (s:=d) (a:=a) he]
theorem ahB_ (a n:Nat):qg_ (kt_ Tryz.prog 300) (zK_ Tryz.prog 300) [(0,cx a n)]=some (.agg (pcC ⟨a,n,[]⟩).toArray):=by
 rw[show kt_ Tryz.prog 300=some [(0,1),(1,1)] from id (by kernel_rfl),zrPc];rfl
theorem ahU_ (x:List UInt8):qg_ (kt_ Tryz.prog 300) (zK_ Tryz.prog 300) [(1,vs x)]=some (.agg (pcC ⟨0,0,x⟩).toArray):=by
 rw[show kt_ Tryz.prog 300=some [(0,1),(1,1)] from id (by kernel_rfl),zrPc];rfl
theorem ah3_ (p:PcL):wO_ Tryz.prog 263 1 [(0, .agg (pcC p).toArray)]=some (300,(pcC p).toArray):=
 zX_ Tryz.underlying263 (id (by kernel_rfl)) zrPc (by decide) (vf_ p)
theorem vq_ {d:List UInt8} {a:Nat} {out:List PcL} (hrel:pcs d (dM d).2.1=(out++ (pcs d a).1,(pcs d a).2)) (h: (pcs d a).2.2≠0∨4099< (out++ (pcs d a).1).length):kB_ d=none:=by
 rw[Zl_]
 split
 ·rfl
 ·split
  ·rfl
  ·rename_i h2
   rw[hrel] at h2 ⊢
   simp only at h2 ⊢
   rcases h with h|h
   ·exact absurd h h2
   ·rw[if_neg]
    intro hc
    have:=(Vb_ hc).2.2.2.2.2
    omega
set_option linter.defProp false
def zR_:=And.intro (And.intro (And.intro (@zg_) (And.intro (@zf_) (@xq_))) (And.intro (@xn_) (And.intro (@kQ_) (@jG_)))) (And.intro (And.intro (@Sx.tup2_0) (And.intro (@Sx.tup2_1) (@Sx.tup3_0))) (And.intro (@Sx.tup3_1) (And.intro (@Sx.tup3_2) (@kj_))))
theorem ae9_ (d:List UInt8) (w:World) (hd:d.length<9223372036854775808):Rets Tryz.prog 205 #[vs d] w (XS w [] (KC_ d)):=by
 refine Rets.enterX Tryz.func205 rfl (rs:= [.tmp 2, .tmp 3, .tmp 4]) Tryz.results205 Tryz.ntmps205 (fun p hp=>by cases hp) (by simp[keys]) ?_
 refine kf ?_
 first|with_reducible refine ks [] @zR_ ?_|refine kp @zR_ ?_
 refine Cw.scopeL (G:=EG) (fun g=>EL g) [12,13,5,14,15,16,17,6,7,8,9,10,11,18,19,20,21,22,23,24,25,26,27,28,29,30,31,32,33,34,35,36,37,38,39,40,41,42,43,44,45,46,47,48,49,50,51,52,54,55,56,53,57,58,59,60,61,62,63,64,65,66,67,2,3,4] (fun g=>ES d g) (fun g=>EH d g) (fun g=>EJ d w.heap.size g) (fun g=>(if g.lab=1 then d.length - g.a+1 else 0)) ?_ ?_ ?_
 ·intro g
  unfold EL
  split<;>rfl
 ·intro g j hg
  rcases hg with hg|hg|hg
  ·obtain⟨lab,br,a,e,out,v,D⟩:=g
   obtain⟨hlab,hg⟩:=hg
   simp only at hlab
   subst hlab
   simp only[EL,ES,EH] at hg ⊢
   obtain⟨hwr,hN,hbD,hGr,hal,hB,hol,hrel⟩:=hg
   simp only[drO]
   simp only[ki_,Qp_,Bool.or_false,Bool.false_or,Bool.or_true,Bool.true_or,Nat.reduceBEq,beq_self_eq_true, ↓reduceIte,Bool.false_eq_true]
   refine kv ?_
   try with_reducible refine qr_ ?_
   first|with_reducible refine ks [] @zR_ ?_|refine kp @zR_ ?_
   by_cases hA:e=0∧ ¬a<d.length
   ·obtain⟨rfl,hAl⟩:=hA
    have hE: (if(0:Int)≠0 then(0:Int) else if(a:Int)<d.length then 5 else 0)=0:=by rw[if_neg (by simp),if_neg (by omega)]
    have e00: ((0:Int)==0)=true:=rfl
    refine Ow.callFV rfl Tryz.call74 (fun w' hw'=>Xi_ br d a 0 w' (hw'.has _ _ List.mem_cons_self)) ?_
    rw[hE]
    refine ko (And.intro @zR_ @e00) ?_
    first|with_reducible refine ks [] @zR_ ?_|refine kp @zR_ ?_
    refine Jump.mk ⟨0,br,a,0,out,v,D⟩ rfl (by show 0<d.length - a+1;omega) (.inr (.inl ⟨rfl,hwr,hN,hbD,hGr,hB,hol, ?_⟩)) rfl rfl
    rcases hrel with h| ⟨-,h1,h2⟩
    ·exact absurd rfl h.1
    ·rw[acH_ hAl,List.append_nil] at h2
     exact⟨h1,by rw[h2,show a=d.length by omega]⟩
   ·obtain⟨E1,hE1,hE0⟩: ∃E1,(if e≠0 then e else if(a:Int)<d.length then 5 else 0)=E1∧(E1==0)=false:=by
     refine⟨_,rfl, ?_⟩
     rw[beq_eq_false_iff_ne]
     split
     ·assumption
     ·rename_i he
      rw[if_pos (by
       have:e=0:=by simpa using he
       have:a<d.length:=by
        rcases Nat.lt_or_ge a d.length with h|h
        ·exact h
        ·exact absurd ⟨this,by omega⟩ hA
       omega)]
      decide
    refine Ow.callFV rfl Tryz.call74 (fun w' hw'=>Xi_ br d a e w' (hw'.has _ _ List.mem_cons_self)) ?_
    rw[hE1]
    refine ko (And.intro @zR_ @hE0) ?_
    first|with_reducible refine ks [] @zR_ ?_|refine kp @zR_ ?_
    have hq:=qW_ (s:=d) (a:=a) (e:=e) (most:=8199) (by omega)
    have hle1:=z4_ (s:=d) (a:=a) (e:=e) (most:=8199) hal
    have hpE:pcE d a e=pcE d a e:=rfl
    conv at hpE=>rhs;unfold pcE
    refine Ow.callM rfl rfl Tryz.call95 (by simp[keys]) (fun w' hw'=>qY_ br d a e 8199 w' hal hd (hw'.has _ _ List.mem_cons_self)) ?_
    generalize zu_ d a e 8199=q at*
    obtain⟨q1,a1,e1⟩:=q
    simp only at hq hle1 hpE ⊢
    obtain⟨Q,rfl⟩: ∃Q:Nat,q1=(Q:Int):=⟨q1.toNat,by omega⟩
    have hQ:Q≤8199:=by omega
    refine kn ?_
    refine ko @zR_ ?_
    by_cases hodd: (Q:Int)%2=1
    ·have d1: (((Q:Nat):Int)%2==1)=true:=by rw[beq_iff_eq];exact hodd
     rw[if_pos hodd] at hpE
     first|with_reducible refine ks [] (And.intro @zR_ @d1) ?_|refine kp (And.intro @zR_ @d1) ?_
     have hm2:=qW_ (s:=d) (a:=a1) (e:=e1) (most:=4099) (by omega)
     have hle2:=z4_ (s:=d) (a:=a1) (e:=e1) (most:=4099) hle1.2
     refine Ow.callM rfl rfl Tryz.call95 (by simp[keys]) (fun w' hw'=>qY_ br d a1 e1 4099 w' hle1.2 hd (hw'.has _ _ List.mem_cons_self)) ?_
     generalize zu_ d a1 e1 4099=x at*
     obtain⟨x1,a2,e2⟩:=x
     simp only at hm2 hle2 hpE ⊢
     obtain⟨X,rfl⟩: ∃X:Nat,x1=(X:Int):=⟨x1.toNat,by omega⟩
     rw[Int.toNat_natCast,show((Q:Int) / 2).toNat=Q / 2 by omega] at hpE
     refine kn ?_
     refine Ow.convIF rfl rfl cvIF Tryz.underlying3 Tryz.underlying301 rfl ?_
     refine ko @zR_ ?_
     rw[show(Q:Int) / 2=((Q / 2:Nat):Int) by omega]
     refine Ow.convIF rfl rfl cvIF Tryz.underlying3 Tryz.underlying301 rfl ?_
     refine Ow.complexB (a:=(X:Nat)) (b:=(Q / 2:Nat)) rfl rfl rfl ?_
     refine Ow.build (.agg (pcC ⟨X,Q / 2,[]⟩).toArray) rfl (ahB_ X (Q / 2)) ?_
     have hpB:PcB (⟨X,Q / 2,[]⟩:PcL)∧(⟨X,Q / 2,[]⟩:PcL).x.length<9223372036854775808:=⟨⟨by show X≤4099;omega,by show Q / 2≤4099;omega⟩,by show 0<9223372036854775808;omega⟩
     generalize (⟨X,Q / 2,[]⟩:PcL)=p at*
     refine Ow.buildSlice (e:=300) (pcC p).toArray rfl rfl (ah3_ p) fun b9 hb9 hw9=> ?_
     have h9:br<b9:=zk_ hb9 (by simp[keys])
     refine Ow.permL (M:=D++ [(br, .cells #[vs d,vi a2,vi e2] 212 (0,0)),(b9, .cells (pcC p).toArray 300 (0,0))]) (by classical exact List.perm_iff_count.2 fun a=>by simp only[List.count_append,List.count_cons,List.count_nil]<;>omega) ?_
     refine ko @zR_ ?_
     refine Ow.appendXG (e:=300) (k:=1) (new:=pcC p) (X:=D) v rfl rfl rfl rfl Tryz.underlying263 (id (by kernel_rfl):z0_ Tryz.prog 300=some (true,2)) (by kernel_rfl) zrPc (by rw[jG_,List.size_toArray,vf_]) Tryz.underlying263 (by intro k h;cases h) hGr (fun w' hw'=>AppX.one1 (hw'.has b9 (.cells (pcC p).toArray 300 (0,0)) (by simp)) (vf_ p) (abW_ p)) (by omega) (fun B3 v3 D3 hA3 hB3 hG3 hk13 hk23 hlk3=> ?_)
     have hN3:New w.heap.size D3:=New.of_le fun q hq=>by
      rcases hk23 q hq with h|h
      ·exact hN.le q h
      ·omega
     have hbD3:br∉keys D3:=fun hm=>by
      rcases hk23 br hm with h|h
      ·exact hbD h
      ·exact Nat.lt_irrefl _ (Nat.lt_of_lt_of_le (zk_ hA3 (by rw[zj_];exact List.mem_append_right _ (by simp[keys]))) h)
     have hG4:Gr (D3++ [(b9, .cells (pcC p).toArray 300 (0,0))]) 300 2 v3 (out++ [p]).length ((out++ [p]).map pcC).flatten:=by
      have:=hG3.app (M:= [(b9,Obj.cells (pcC p).toArray 300 (0,0))])
      simpa using this
     have hN4:New w.heap.size (D3++ [(b9,Obj.cells (pcC p).toArray 300 (0,0))]):=hN3.app ⟨hw9,trivial⟩
     have hbD4:br∉keys (D3++ [(b9,Obj.cells (pcC p).toArray 300 (0,0))]):=fun hm=>by
      rw[zj_] at hm
      rcases List.mem_append.1 hm with h|h
      ·exact hbD3 h
      ·simp[keys] at h;omega
     refine Ow.permL (M:=(br, .cells #[vs d,vi a2,vi e2] 212 (0,0)):: (D3++ [(b9, .cells (pcC p).toArray 300 (0,0))])) (by classical exact List.perm_iff_count.2 fun a=>by simp only[List.count_append,List.count_cons,List.count_nil]<;>omega) ?_
     generalize (D3++ [(b9,Obj.cells (pcC p).toArray 300 (0,0))])=D4 at*
     refine ko @zR_ ?_
     first|with_reducible refine ks [] @zR_ ?_|refine kp @zR_ ?_
     refine Ow.callFV rfl Tryz.call137 (fun w' hw'=>xz_ br d a2 e2 w' (hw'.has _ _ List.mem_cons_self)) ?_
     have hlen4: ∀m,Xr_ (.sl m) v3=some (vi (out++ [p]).length):=fun m=>hG4.len m
     have hB4:BndP (out++ [p]):=by
      intro g hg
      rw[List.length_append,List.length_cons,List.length_nil] at hg
      by_cases hgl:g<out.length
      ·rw[jO_ hgl];exact hB g hgl
      ·rw[qG_ (by omega),show g - out.length=0 by omega]
       exact hpB
     have hle0:e2=0→e=0:=fun h=>by
      by_cases he:e=0
      ·exact he
      ·have:=an4_ (d:=d) (a:=a) he
       rw[hpE] at this
       exact absurd (this.symm.trans h) he
     have hNw:New w.heap.size ((br,Obj.cells #[vs d,vi a2,vi e2] 212 (0,0))::D4):=⟨hwr,hN4⟩
     by_cases he2:e2=0
     ·have he0:=hle0 he2
      subst he2
      subst he0
      have hlt:a<d.length:=by
       rcases Nat.lt_or_ge a d.length with h|h
       ·exact h
       ·exact absurd ⟨rfl,by omega⟩ hA
      have e00: ((0:Int) !=0)=false:=rfl
      rw[ajE_] at hpE
      have hr0: (pcR d a).2.2=0:=by rw[hpE]
      have hup:=KK_ hal hr0
      rw[hpE] at hup
      have hup2:a<a2:=hup
      obtain⟨-,hm0,hpc⟩: (0:Int)=0∧(dM d).2.2=0∧pcs d (dM d).2.1=(out++ (pcs d a).1,(pcs d a).2):=by
       rcases hrel with h|h
       ·exact absurd rfl h.1
       ·exact h
      rw[adL_ hlt hr0,hpE] at hpc
      have hpc':pcs d (dM d).2.1=((out++ [p])++ (pcs d a2).1,(pcs d a2).2):=by rw[hpc];simp
      by_cases hlen:4099< (out++ [p]).length
      ·have d5:decide ((4099:Int)< ((out++ [p]).length:Int))=true:=decide_eq_true (by omega)
       refine ko (And.intro @zR_ (And.intro @e00 (And.intro @hlen4 (@d5)))) ?_
       first|with_reducible refine ks [] (And.intro @zR_ (And.intro @e00 (And.intro @hlen4 (@d5)))) ?_|refine kp (And.intro @zR_ (And.intro @e00 (And.intro @hlen4 (@d5)))) ?_
       refine Jump.mk ⟨2,br,a2,0,out,v3,(br, .cells #[vs d,vi a2,vi 0] 212 (0,0))::D4⟩ rfl (by show 0<d.length - a+1;omega) (.inr (.inr ⟨rfl,hNw,vq_ hpc' (.inr ?_)⟩)) rfl rfl
       rw[List.length_append];omega
      ·have d5:decide ((4099:Int)< ((out++ [p]).length:Int))=false:=decide_eq_false (by omega)
       refine ko (And.intro @zR_ (And.intro @e00 (And.intro @hlen4 (@d5)))) ?_
       first|with_reducible refine ks [] (And.intro @zR_ (And.intro @e00 (And.intro @hlen4 (@d5)))) ?_|refine kp (And.intro @zR_ (And.intro @e00 (And.intro @hlen4 (@d5)))) ?_
       refine Jump.mk ⟨1,br,a2,0,out++ [p],v3,D4⟩ rfl (by show d.length - a2+1<d.length - a+1;omega) (.inl ⟨rfl,hwr,hN4,hbD4,hG4,hle2.2,hB4,by show(out++ [p]).length≤4099;omega, .inr ⟨rfl,hm0,hpc'⟩⟩) rfl rfl
     ·have e00: (e2 !=0)=true:=by rw[bne_iff_ne];exact he2
      have hno:kB_ d=none:=by
       rcases hrel with h| ⟨rfl,hm0,hpc⟩
       ·exact h.2
       ·have hlt:a<d.length:=by
         rcases Nat.lt_or_ge a d.length with h|h
         ·exact h
         ·exact absurd ⟨rfl,by omega⟩ hA
        rw[ajE_] at hpE
        refine vq_ hpc (.inl ?_)
        rw[VS_ hlt (by rw[hpE];exact he2),hpE];exact he2
      refine ko (And.intro @zR_ @e00) ?_
      first|with_reducible refine ks [] (And.intro @zR_ @e00) ?_|refine kp (And.intro @zR_ @e00) ?_
      exact Jump.mk ⟨2,br,a2,0,out,v3,(br, .cells #[vs d,vi a2,vi e2] 212 (0,0))::D4⟩ rfl (by show 0<d.length - a+1;omega) (.inr (.inr ⟨rfl,hNw,hno⟩)) rfl rfl
    ·have d1: (((Q:Nat):Int)%2==1)=false:=by rw[beq_eq_false_iff_ne];exact hodd
     rw[if_neg hodd] at hpE
     first|with_reducible refine ks [] (And.intro @zR_ @d1) ?_|refine kp (And.intro @zR_ @d1) ?_
     have hle2:=ko_ (s:=d) (a:=a1) (e:=e1) (n:=(Q:Int) / 2) hle1.2
     have hxl: (jc_ d a1 e1 ((Q:Int) / 2)).1.length<9223372036854775808:=by
      unfold jc_
      split
      ·simp
      ·split
       ·simp
       ·split
        ·simp
        ·simp only[List.length_take,List.length_drop];omega
     refine Ow.callM rfl rfl Tryz.call94 (by simp[keys]) (fun w' hw'=>v9_ br d a1 e1 ((Q:Int) / 2) w' hle1.2 hd (hw'.has _ _ List.mem_cons_self)) ?_
     generalize jc_ d a1 e1 ((Q:Int) / 2)=x at*
     obtain⟨x1,a2,e2⟩:=x
     simp only at hle2 hxl hpE ⊢
     refine kn ?_
     refine Ow.build (.agg (pcC ⟨0,0,x1⟩).toArray) rfl (ahU_ x1) ?_
     have hpB:PcB (⟨0,0,x1⟩:PcL)∧(⟨0,0,x1⟩:PcL).x.length<9223372036854775808:=⟨⟨Nat.zero_le _,Nat.zero_le _⟩,hxl⟩
     generalize (⟨0,0,x1⟩:PcL)=p at*
     refine Ow.buildSlice (e:=300) (pcC p).toArray rfl rfl (ah3_ p) fun b9 hb9 hw9=> ?_
     have h9:br<b9:=zk_ hb9 (by simp[keys])
     refine Ow.permL (M:=D++ [(br, .cells #[vs d,vi a2,vi e2] 212 (0,0)),(b9, .cells (pcC p).toArray 300 (0,0))]) (by classical exact List.perm_iff_count.2 fun a=>by simp only[List.count_append,List.count_cons,List.count_nil]<;>omega) ?_
     refine ko @zR_ ?_
     refine Ow.appendXG (e:=300) (k:=1) (new:=pcC p) (X:=D) v rfl rfl rfl rfl Tryz.underlying263 (id (by kernel_rfl):z0_ Tryz.prog 300=some (true,2)) (by kernel_rfl) zrPc (by rw[jG_,List.size_toArray,vf_]) Tryz.underlying263 (by intro k h;cases h) hGr (fun w' hw'=>AppX.one1 (hw'.has b9 (.cells (pcC p).toArray 300 (0,0)) (by simp)) (vf_ p) (abW_ p)) (by omega) (fun B3 v3 D3 hA3 hB3 hG3 hk13 hk23 hlk3=> ?_)
     have hN3:New w.heap.size D3:=New.of_le fun q hq=>by
      rcases hk23 q hq with h|h
      ·exact hN.le q h
      ·omega
     have hbD3:br∉keys D3:=fun hm=>by
      rcases hk23 br hm with h|h
      ·exact hbD h
      ·exact Nat.lt_irrefl _ (Nat.lt_of_lt_of_le (zk_ hA3 (by rw[zj_];exact List.mem_append_right _ (by simp[keys]))) h)
     have hG4:Gr (D3++ [(b9, .cells (pcC p).toArray 300 (0,0))]) 300 2 v3 (out++ [p]).length ((out++ [p]).map pcC).flatten:=by
      have:=hG3.app (M:= [(b9,Obj.cells (pcC p).toArray 300 (0,0))])
      simpa using this
     have hN4:New w.heap.size (D3++ [(b9,Obj.cells (pcC p).toArray 300 (0,0))]):=hN3.app ⟨hw9,trivial⟩
     have hbD4:br∉keys (D3++ [(b9,Obj.cells (pcC p).toArray 300 (0,0))]):=fun hm=>by
      rw[zj_] at hm
      rcases List.mem_append.1 hm with h|h
      ·exact hbD3 h
      ·simp[keys] at h;omega
     refine Ow.permL (M:=(br, .cells #[vs d,vi a2,vi e2] 212 (0,0)):: (D3++ [(b9, .cells (pcC p).toArray 300 (0,0))])) (by classical exact List.perm_iff_count.2 fun a=>by simp only[List.count_append,List.count_cons,List.count_nil]<;>omega) ?_
     generalize (D3++ [(b9,Obj.cells (pcC p).toArray 300 (0,0))])=D4 at*
     refine ko @zR_ ?_
     first|with_reducible refine ks [] @zR_ ?_|refine kp @zR_ ?_
     refine Ow.callFV rfl Tryz.call137 (fun w' hw'=>xz_ br d a2 e2 w' (hw'.has _ _ List.mem_cons_self)) ?_
     have hlen4: ∀m,Xr_ (.sl m) v3=some (vi (out++ [p]).length):=fun m=>hG4.len m
     have hB4:BndP (out++ [p]):=by
      intro g hg
      rw[List.length_append,List.length_cons,List.length_nil] at hg
      by_cases hgl:g<out.length
      ·rw[jO_ hgl];exact hB g hgl
      ·rw[qG_ (by omega),show g - out.length=0 by omega]
       exact hpB
     have hle0:e2=0→e=0:=fun h=>by
      by_cases he:e=0
      ·exact he
      ·have:=an4_ (d:=d) (a:=a) he
       rw[hpE] at this
       exact absurd (this.symm.trans h) he
     have hNw:New w.heap.size ((br,Obj.cells #[vs d,vi a2,vi e2] 212 (0,0))::D4):=⟨hwr,hN4⟩
     by_cases he2:e2=0
     ·have he0:=hle0 he2
      subst he2
      subst he0
      have hlt:a<d.length:=by
       rcases Nat.lt_or_ge a d.length with h|h
       ·exact h
       ·exact absurd ⟨rfl,by omega⟩ hA
      have e00: ((0:Int) !=0)=false:=rfl
      rw[ajE_] at hpE
      have hr0: (pcR d a).2.2=0:=by rw[hpE]
      have hup:=KK_ hal hr0
      rw[hpE] at hup
      have hup2:a<a2:=hup
      obtain⟨-,hm0,hpc⟩: (0:Int)=0∧(dM d).2.2=0∧pcs d (dM d).2.1=(out++ (pcs d a).1,(pcs d a).2):=by
       rcases hrel with h|h
       ·exact absurd rfl h.1
       ·exact h
      rw[adL_ hlt hr0,hpE] at hpc
      have hpc':pcs d (dM d).2.1=((out++ [p])++ (pcs d a2).1,(pcs d a2).2):=by rw[hpc];simp
      by_cases hlen:4099< (out++ [p]).length
      ·have d5:decide ((4099:Int)< ((out++ [p]).length:Int))=true:=decide_eq_true (by omega)
       refine ko (And.intro @zR_ (And.intro @e00 (And.intro @hlen4 (@d5)))) ?_
       first|with_reducible refine ks [] (And.intro @zR_ (And.intro @e00 (And.intro @hlen4 (@d5)))) ?_|refine kp (And.intro @zR_ (And.intro @e00 (And.intro @hlen4 (@d5)))) ?_
       refine Jump.mk ⟨2,br,a2,0,out,v3,(br, .cells #[vs d,vi a2,vi 0] 212 (0,0))::D4⟩ rfl (by show 0<d.length - a+1;omega) (.inr (.inr ⟨rfl,hNw,vq_ hpc' (.inr ?_)⟩)) rfl rfl
       rw[List.length_append];omega
      ·have d5:decide ((4099:Int)< ((out++ [p]).length:Int))=false:=decide_eq_false (by omega)
       refine ko (And.intro @zR_ (And.intro @e00 (And.intro @hlen4 (@d5)))) ?_
       first|with_reducible refine ks [] (And.intro @zR_ (And.intro @e00 (And.intro @hlen4 (@d5)))) ?_|refine kp (And.intro @zR_ (And.intro @e00 (And.intro @hlen4 (@d5)))) ?_
       refine Jump.mk ⟨1,br,a2,0,out++ [p],v3,D4⟩ rfl (by show d.length - a2+1<d.length - a+1;omega) (.inl ⟨rfl,hwr,hN4,hbD4,hG4,hle2.2,hB4,by show(out++ [p]).length≤4099;omega, .inr ⟨rfl,hm0,hpc'⟩⟩) rfl rfl
     ·have e00: (e2 !=0)=true:=by rw[bne_iff_ne];exact he2
      have hno:kB_ d=none:=by
       rcases hrel with h| ⟨rfl,hm0,hpc⟩
       ·exact h.2
       ·have hlt:a<d.length:=by
         rcases Nat.lt_or_ge a d.length with h|h
         ·exact h
         ·exact absurd ⟨rfl,by omega⟩ hA
        rw[ajE_] at hpE
        refine vq_ hpc (.inl ?_)
        rw[VS_ hlt (by rw[hpE];exact he2),hpE];exact he2
      refine ko (And.intro @zR_ @e00) ?_
      first|with_reducible refine ks [] (And.intro @zR_ @e00) ?_|refine kp (And.intro @zR_ @e00) ?_
      exact Jump.mk ⟨2,br,a2,0,out,v3,(br, .cells #[vs d,vi a2,vi e2] 212 (0,0))::D4⟩ rfl (by show 0<d.length - a+1;omega) (.inr (.inr ⟨rfl,hNw,hno⟩)) rfl rfl
  ·obtain⟨lab,br,a,e,out,v,D⟩:=g
   obtain⟨hlab,hg⟩:=hg
   simp only at hlab
   subst hlab
   simp only[EL,ES,EH] at hg ⊢
   obtain⟨hwr,hN,hbD,hGr,hB,hol,hm0,hpc⟩:=hg
   simp only[drO]
   simp only[ki_,Qp_,Bool.or_false,Bool.false_or,Bool.or_true,Bool.true_or,Nat.reduceBEq,beq_self_eq_true, ↓reduceIte,Bool.false_eq_true]
   refine kv ?_
   try with_reducible refine qr_ ?_
   first|with_reducible refine ks [] @zR_ ?_|refine kp @zR_ ?_
   have hNw:New w.heap.size ((br,Obj.cells #[vs d,vi a,vi e] 212 (0,0))::D):=⟨hwr,hN⟩
   have hdl:kB_ d=if Za_ (dB d).1 out=((dM d).1,0) then some ((dB d).1.toNat,out) else none:=by
    rw[Zl_,if_neg (by rw[hm0];simp),hpc,if_neg (by simp)]
   refine Ow.callFV rfl Tryz.call226 (fun w' hw'=>Kp_ (dB d).1 v out w' (GrI.slV (Gr.i (X:=D) hGr fun q hq=>List.mem_cons_of_mem _ hq) hw' rfl rfl vf_) hB (by omega)) ?_
   by_cases hc:Za_ (dB d).1 out=((dM d).1,0)
   ·rw[if_pos hc] at hdl
    have hb0:=qW_ (s:=d) (a:=0) (e:=0) (most:=4099) (by omega)
    change 0≤ (dB d).1∧(dB d).1≤4099 at hb0
    have e1: ((dM d).1==(dM d).1)=true:=by simp
    have e00: ((0:Int)==0)=true:=rfl
    rw[hc]
    refine ko @zR_ ?_
    first|with_reducible refine ks [] (And.intro @zR_ (And.intro @e00 (@e1))) ?_|refine kp (And.intro @zR_ (And.intro @e00 (@e1))) ?_
    refine⟨_,(ke @zR_), ?_⟩
    refine⟨Ext.of_new hNw, ?_⟩
    unfold KC_
    rw[hdl]
    refine⟨v, ?_,hB,hol,by show(dB d).1.toNat≤4099;omega,Gr.i (X:=D) hGr fun q hq=>List.mem_cons_of_mem _ hq⟩
    rw[show((((dB d).1.toNat,out).1:Nat):Int)=(dB d).1 by show(((dB d).1.toNat:Nat):Int)=_;omega]
    rfl
   ·rw[if_neg hc] at hdl
    have hfin:KC_ d (.tuple #[vi 0, .slice none 0 0,vi 2]) ((br,Obj.cells #[vs d,vi a,vi e] 212 (0,0))::D):=by unfold KC_;rw[hdl]
    by_cases he: (Za_ (dB d).1 out).2=0
    ·have e00: ((Za_ (dB d).1 out).2==0)=true:=by rw[beq_iff_eq];exact he
     have e1: ((Za_ (dB d).1 out).1==(dM d).1)=false:=by
      rw[beq_eq_false_iff_ne]
      intro h
      exact hc (by rw[←h,←he])
     refine ko @zR_ ?_
     first|with_reducible refine ks [] (And.intro @zR_ (And.intro @e00 (@e1))) ?_|refine kp (And.intro @zR_ (And.intro @e00 (@e1))) ?_
     refine⟨_,(ke @zR_), ?_⟩
     exact⟨Ext.of_new hNw,hfin⟩
    ·have e00: ((Za_ (dB d).1 out).2==0)=false:=by rw[beq_eq_false_iff_ne];exact he
     refine ko @zR_ ?_
     first|with_reducible refine ks [] (And.intro @zR_ @e00) ?_|refine kp (And.intro @zR_ @e00) ?_
     refine⟨_,(ke @zR_), ?_⟩
     exact⟨Ext.of_new hNw,hfin⟩
  ·obtain⟨lab,br,a,e,out,v,D⟩:=g
   obtain⟨hlab,hg⟩:=hg
   simp only at hlab
   subst hlab
   simp only[EL,ES,EH] at hg ⊢
   obtain⟨hN,hno⟩:=hg
   simp only[ki_,Qp_,Bool.or_false,Bool.false_or,Bool.or_true,Bool.true_or,Nat.reduceBEq,beq_self_eq_true, ↓reduceIte,Bool.false_eq_true]
   refine kv ?_
   try with_reducible refine qr_ ?_
   first|with_reducible refine ks [] @zR_ ?_|refine kp @zR_ ?_
   refine⟨_,(ke @zR_), ?_⟩
   refine⟨Ext.of_new hN, ?_⟩
   unfold KC_
   rw[hno];rfl
 ·intro key
  repeat ((try with_reducible refine Cw.go [999999] ?_);(simp(disch:=(first|assumption|omega| (simp only[jF_,jE_,UInt64.reduceToNat];try omega))) only[↓Sx.S0,Sx.S1,Tryz.fx,zR_,Nat.reduceAdd,Nat.reducePow,Int.reducePow,Nat.reduceBEq, ↓reduceIte,UInt8.reduceToNat,UInt16.reduceToNat,UInt32.reduceToNat,UInt64.reduceToNat,Int.reduceToNat]))
  refine Ow.callF rfl rfl Tryz.call71 (S:=fun B v D=> ∃b',B≤b'∧v=vp b' 0∧D= [(b', .cells #[vs d,vi 0,vi 0] 212 (0,0))]) (fun w' hw'=>v3_ d w') ?_
  rintro B v D hab hB ⟨br,hbr,rfl,rfl⟩
  refine⟨_,Mrg.fresh (by intro q hq;simp only[keys,List.map_cons,List.map_nil,List.mem_singleton] at hq;omega), ?_⟩
  simp only[List.cons_append,List.nil_append]
  have hwr:w.heap.size≤br:=by omega
  refine ko @zR_ ?_
  repeat ((try with_reducible refine Cw.go [999999] ?_);(simp(disch:=(first|assumption|omega| (simp only[jF_,jE_,UInt64.reduceToNat];try omega))) only[↓Sx.S0,Sx.S1,Tryz.fx,zR_,Nat.reduceAdd,Nat.reducePow,Int.reducePow,Nat.reduceBEq, ↓reduceIte,UInt8.reduceToNat,UInt16.reduceToNat,UInt32.reduceToNat,UInt64.reduceToNat,Int.reduceToNat]))
  have hle1:=z4_ (s:=d) (a:=0) (e:=0) (most:=4099) (Nat.zero_le _)
  refine Ow.callM rfl rfl Tryz.call95 (by simp[keys]) (fun w' hw'=>qY_ br d 0 0 4099 w' (Nat.zero_le _) hd (hw'.has _ _ List.mem_cons_self)) ?_
  rw[show zu_ d 0 0 4099=dB d from rfl] at hle1 ⊢
  have hle2:=z4_ (s:=d) (a:=(dB d).2.1) (e:=(dB d).2.2) (most:=4099) hle1.2
  refine kn ?_
  refine ko @zR_ ?_
  refine Ow.callM rfl rfl Tryz.call95 (by simp[keys]) (fun w' hw'=>qY_ br d (dB d).2.1 (dB d).2.2 4099 w' hle1.2 hd (hw'.has _ _ List.mem_cons_self)) ?_
  rw[show zu_ d (dB d).2.1 (dB d).2.2 4099=dM d from rfl] at hle2 ⊢
  refine kn ?_
  refine ko @zR_ ?_
  repeat ((try with_reducible refine Cw.go [999999] ?_);(simp(disch:=(first|assumption|omega| (simp only[jF_,jE_,UInt64.reduceToNat];try omega))) only[↓Sx.S0,Sx.S1,Tryz.fx,zR_,Nat.reduceAdd,Nat.reducePow,Int.reducePow,Nat.reduceBEq, ↓reduceIte,UInt8.reduceToNat,UInt16.reduceToNat,UInt32.reduceToNat,UInt64.reduceToNat,Int.reduceToNat]))
  have key0:=fun f'=>key (⟨1,br,(dM d).2.1,(dM d).2.2,[], .slice none 0 0,[]⟩) f'
  simp only[ki_,Qp_,Bool.or_false,Bool.false_or,Bool.or_true,Bool.true_or,Nat.reduceBEq,beq_self_eq_true, ↓reduceIte,Bool.false_eq_true] at key0
  clear key
  refine Cw.label ?_
  refine key0 _ (.inl ⟨rfl,hwr,trivial,by simp[keys],Gr.nl,hle2.2,fun g hg=>by simp at hg,by simp, ?_⟩) ?_
  ·by_cases hm: (dM d).2.2=0
   ·exact .inr ⟨hm,hm,by simp⟩
   ·refine .inl ⟨hm, ?_⟩
    rw[Zl_,if_pos hm]
  ·rfl
end Go.Proofs
end
section
open Go Go.Proofs Go.Sx Go.StP Go.Flo
namespace Go.Proofs
set_option maxRecDepth 10000
set_option maxHeartbeats 400000
set_option linter.unusedSimpArgs false
theorem KI_ {d:List UInt8} {p:Nat×List PcL} (h:kB_ d=some p): ∃m,Za_ (p.1:Nat) p.2=(m,0):=by
 rw[Zl_] at h
 split at h
 ·cases h
 ·split at h
  ·cases h
  ·split at h
   ·rename_i hc
    cases h
    have hb0:=qW_ (s:=d) (a:=0) (e:=0) (most:=4099) (by omega)
    change 0≤ (dB d).1∧(dB d).1≤4099 at hb0
    refine⟨(dM d).1, ?_⟩
    rw[show(((dB d).1.toNat:Nat):Int)=(dB d).1 by omega]
    exact hc
   ·cases h
set_option linter.defProp false
def vN_:=And.intro (And.intro (And.intro (@zg_) (@zf_)) (And.intro (@xq_) (And.intro (@xn_) (@kQ_)))) (And.intro (And.intro (@jG_) (And.intro (@Sx.tup2_0) (@Sx.tup2_1))) (And.intro (@Sx.tup3_0) (And.intro (@Sx.tup3_1) (@Sx.tup3_2))))
theorem af1_ (base d:List UInt8) (w:World) (hd:d.length<9223372036854775808):
  Rets Tryz.prog 177 #[vs base,vs d] w (fun v D=>v= .tuple #[vs (xJ_ base d).1,vi (xJ_ base d).2]∧D= []):=by
 refine Rets.enterV Tryz.func177 rfl (rs:= [.tmp 4, .tmp 5]) Tryz.results177 Tryz.ntmps177 ?_
 refine kf ?_
 first|with_reducible refine ks [] @vN_ ?_|refine kp @vN_ ?_
 refine Ow.callC rfl rfl Tryz.call205 (fun w' hw'=>ae9_ d w' hd) (fun B1 v1 D1 hA1 hB1 hN1 hS1=> ?_)
 have hN1':=hN1.mono hB1
 unfold KC_ at hS1
 cases hr:kB_ d with
 |none=>
  rw[hr] at hS1
  have hS1':v1= .tuple #[vi 0, .slice none 0 0,vi 2]:=hS1
  subst hS1'
  have hap:xJ_ base d=([],2):=by unfold xJ_;rw[hr]
  have e0: ((2:Int) !=0)=true:=rfl
  refine ko @vN_ ?_
  first|with_reducible refine ks [] (And.intro @vN_ @e0) ?_|refine kp (And.intro @vN_ @e0) ?_
  refine⟨_,(ke @vN_),hN1', ?_⟩
  rw[hap];rfl
 |some p=>
  rw[hr] at hS1
  obtain⟨x,rfl,hB,hl4,hp4,hg⟩:=hS1
  have e0: ((0:Int) !=0)=false:=rfl
  by_cases hb:p.1=base.length
  ·have e1: (((p.1:Nat):Int) !=((base.length:Nat):Int))=false:=by rw[hb];exact bne_self_eq_false _
   obtain⟨m,hm⟩:=KI_ hr
   rw[hb] at hm
   have hap:xJ_ base d=(txtP base p.2,0):=by unfold xJ_;rw[hr];simp only;rw[if_neg (by simp[hb])]
   refine ko @vN_ ?_
   first|with_reducible refine ks [] (And.intro @vN_ (And.intro @e0 (@e1))) ?_|refine kp (And.intro @vN_ (And.intro @e0 (@e1))) ?_
   refine Ow.callFV rfl Tryz.call206 (fun w' hw'=>ae7_ base x p.2 w' (GrI.slV (hg.mono fun q hq=>by simp[hq]) hw' rfl rfl vf_) hB (by omega)) ?_
   rw[hm,if_pos rfl]
   refine ko @vN_ ?_
   first|with_reducible refine ks [] @vN_ ?_|refine kp @vN_ ?_
   refine⟨_,(ke @vN_),hN1', ?_⟩
   rw[hap];rfl
  ·have e1: (((p.1:Nat):Int) !=((base.length:Nat):Int))=true:=by rw[bne_iff_ne];omega
   have hap:xJ_ base d=([],19):=by unfold xJ_;rw[hr];simp only;rw[if_pos hb]
   refine ko @vN_ ?_
   first|with_reducible refine ks [] (And.intro @vN_ (And.intro @e0 (@e1))) ?_|refine kp (And.intro @vN_ (And.intro @e0 (@e1))) ?_
   refine⟨_,(ke @vN_),hN1', ?_⟩
   rw[hap];rfl
end Go.Proofs
end
section
open Go Go.Proofs Go.Sx Go.StP Go.Flo
namespace Go.Proofs
set_option maxRecDepth 10000
set_option maxHeartbeats 400000
set_option linter.unusedSimpArgs false
structure PartL where
 d:Bool
 b:Int
 x:List UInt8
def qt_:PartL:=⟨false,0,[]⟩
def zx_ (p:PartL):List Value:= [.bool p.d,vi p.b,vs p.x]
theorem xu_ (p:PartL): (zx_ p).length=3:=rfl
theorem ZA_ (p:PartL): (zx_ p).all Value.oneCell'=true:=rfl
def j4_ (l:List PartL):Nat→Nat→Except Int (List Nat)
 |0,_=> .error 11
 |k+1,at_=>
  if(l.getD at_ qt_).d=true then
   (if(l.getD at_ qt_).b<0∨(at_:Int)≤ (l.getD at_ qt_).b then .error 2
   else if k=0 then .error 11
   else(j4_ l k (l.getD at_ qt_).b.toNat).map (at_:: ·))
  else if(l.getD at_ qt_).b≠0 then .error 2 else .ok [at_]
def xh_ (l:List PartL) (at_:Int):Except Int (List Nat):=
 if 200<l.length∨at_<0∨(l.length:Int)≤at_ then .error 1 else j4_ l 5 at_.toNat
theorem Xg_ {l:List PartL}: ∀ (k a:Nat) (p:List Nat),j4_ l k a= .ok p→j4_ l (k+1) a= .ok p
 |0,_,_,h=>by cases h
 |k+1,a,p,h=>by
  unfold j4_ at h ⊢
  split at h
  ·rename_i hd
   rw[if_pos hd]
   split at h
   ·cases h
   ·rename_i hb
    rw[if_neg hb,if_neg (by omega)]
    split at h
    ·cases h
    ·cases hp:j4_ l k (l.getD a qt_).b.toNat with
     |error e=>rw[hp] at h;cases h
     |ok q=>
      rw[hp] at h
      rw[Xg_ k _ q hp]
      exact h
  ·rename_i hd
   rw[if_neg hd]
   exact h
theorem xd_ {l:List PartL} {a:Nat} (ha:a<l.length) {p:List Nat} (h:xh_ l a= .ok p):
  (p= [a]∧(l.getD a qt_).d=false∧(l.getD a qt_).b=0)∨ ∃b q,p=a::q∧(l.getD a qt_).d=true∧(l.getD a qt_).b=(b:Nat)∧b<a∧xh_ l b= .ok q:=by
 unfold xh_ at h
 split at h
 ·cases h
 ·rename_i hc
  rw[Int.toNat_natCast] at h
  unfold j4_ at h
  split at h
  ·rename_i hd
   split at h
   ·cases h
   ·rename_i hb
    rw[if_neg (by omega)] at h
    cases hp:j4_ l 4 (l.getD a qt_).b.toNat with
    |error e=>rw[hp] at h;cases h
    |ok q=>
     rw[hp] at h
     right
     refine⟨(l.getD a qt_).b.toNat,q, ?_,hd,by omega,by omega, ?_⟩
     ·cases h;rfl
     ·unfold xh_
      rw[if_neg (by omega),Int.toNat_natCast]
      exact Xg_ 4 _ _ hp
  ·rename_i hd
   split at h
   ·cases h
   ·rename_i hb
    left
    cases h
    exact⟨rfl,by simpa using hd,by simpa using hb⟩
def jK_ (p:PartL) (base:List UInt8):List UInt8×Int:=if p.d=true then xJ_ base p.x else if 4099<p.x.length then([],19) else(p.x,0)
def ZL_ (l:List PartL):List Nat→Except Int (List UInt8)
 | []=> .ok []
 |a::p=>(ZL_ l p).bind fun s=>if(jK_ (l.getD a qt_) s).2=0 then .ok (jK_ (l.getD a qt_) s).1 else .error (jK_ (l.getD a qt_) s).2
def partV (l:List PartL) (at_:Int):Except Int (List UInt8):=(xh_ l at_).bind (ZL_ l)
def kS_ (l:List PartL):Nat→Except Int (List (List UInt8))
 |0=> .ok []
 |k+1=>(kS_ l k).bind fun ts=>(partV l (k:Nat)).map fun s=>ts++ [s]
def QK_ (l:List PartL):Except Int (List (List UInt8)):=if 200<l.length then .error 1 else kS_ l l.length
theorem wb_ {l:List PartL}: ∀ (k:Nat) (ts:List (List UInt8)),kS_ l k= .ok ts→ts.length=k
 |0,ts,h=>by cases h;rfl
 |k+1,ts,h=>by
  unfold kS_ at h
  cases hg:kS_ l k with
  |error e=>rw[hg] at h;cases h
  |ok us=>
   rw[hg] at h
   have:=wb_ k us hg
   change(partV l (k:Nat)).map (fun s=>us++ [s])= .ok ts at h
   cases hp:partV l (k:Nat) with
   |error e=>rw[hp] at h;cases h
   |ok s=>rw[hp] at h;cases h;simp[this]
theorem vp_ {l:List PartL}: ∀ (k:Nat) (ts:List (List UInt8)),kS_ l k= .ok ts→ ∀j,j<k→partV l (j:Nat)= .ok (ts.getD j [])
 |0,_,_,j,hj=>by omega
 |k+1,ts,h,j,hj=>by
  unfold kS_ at h
  cases hg:kS_ l k with
  |error e=>rw[hg] at h;cases h
  |ok us=>
   rw[hg] at h
   have hl:=wb_ k us hg
   change(partV l (k:Nat)).map (fun s=>us++ [s])= .ok ts at h
   cases hp:partV l (k:Nat) with
   |error e=>rw[hp] at h;cases h
   |ok s=>
    rw[hp] at h
    cases h
    by_cases hjk:j<k
    ·rw[vp_ k us hg j hjk,jO_ (by omega)]
    ·obtain rfl:j=k:=by omega
     rw[hp,qG_ (by omega),hl,Nat.sub_self]
     rfl
theorem ab9_ {l:List PartL} {k:Nat} {ts:List (List UInt8)} (hk:k<l.length) (h:kS_ l k= .ok ts) {p:List Nat} (hp:xh_ l (k:Nat)= .ok p):
  partV l (k:Nat)=(if(jK_ (l.getD k qt_) (if 1<p.length then ts.getD (p.getD 1 0) [] else [])).2=0 then .ok (jK_ (l.getD k qt_) (if 1<p.length then ts.getD (p.getD 1 0) [] else [])).1 else .error (jK_ (l.getD k qt_) (if 1<p.length then ts.getD (p.getD 1 0) [] else [])).2):=by
 unfold partV
 rw[hp]
 rcases xd_ hk hp with⟨rfl,hd,hb⟩ | ⟨b,q,rfl,hd,hb,hlt,hq⟩
 ·rfl
 ·have h1:=vp_ k ts h b hlt
  unfold partV at h1
  rw[hq] at h1
  have hq0: ∃r,q=b::r:=by
   rcases xd_ (by omega) hq with⟨rfl,-⟩ | ⟨b2,q2,rfl,-⟩
   ·exact⟨[],rfl⟩
   ·exact⟨q2,rfl⟩
  obtain⟨r,rfl⟩:=hq0
  change ZL_ l (b::r)=_ at h1
  show ZL_ l (k::b::r)=_
  rw[ZL_,h1]
  rw[if_pos (show 1< (k::b::r).length by simp)]
  rfl
end Go.Proofs
end
section
open Go Go.Proofs Go.Sx Go.StP Go.Flo
namespace Go.Proofs
set_option maxRecDepth 10000
set_option maxHeartbeats 400000
set_option linter.unusedSimpArgs false
def VI_ (n:Nat):List Value:= [vi n]
theorem Zq_ (n:Nat): (VI_ n).length=1:=rfl
abbrev ZF_ (w:World) (v:Value) (l:List PartL):Prop:=SlV 3 zx_ qt_ w v l
theorem jt_ (p:PartL) (E:TypeId) (n:Nat):zr_ (some (false,n)) (some (.cells (zx_ p).toArray E (0,0))) 0=some (.bool p.d):=(rfl)
theorem ju_ (p:PartL) (E:TypeId) (n:Nat):zr_ (some (false,n)) (some (.cells (zx_ p).toArray E (0,0))) 1=some (vi p.b):=(rfl)
theorem jo_ (p:PartL) (E:TypeId) (n:Nat):zr_ (some (false,n)) (some (.cells (zx_ p).toArray E (0,0))) 2=some (vs p.x):=(rfl)
theorem qk_ (p:PartL):Value.cells (.agg (zx_ p).toArray)=(zx_ p).toArray:=ze_ _
theorem Zh_:zK_ Tryz.prog 114=some (.agg (zx_ qt_).toArray):=id (by kernel_rfl)
theorem k8_ (p q:PartL) (E:TypeId):zp_ (some (true,3)) (some (.cells (zx_ q).toArray E (0,0))) 0 (.agg (zx_ p).toArray)=some (.cells (zx_ p).toArray E (0,0)):=
 vk_ (zx_ p) (n:=3) true (zx_ q).toArray E rfl (ZA_ p) rfl
structure PaG where
 lab:Nat
 at_:Nat
 out:List Nat
 v:Value
 b7:Nat
 q:PartL
 e:Int
 D:zd_
def PaJ (l:List PartL) (a0:Int) (n:Nat) (g:PaG):Prop:=
 (g.lab=1∧n≤g.b7∧New n g.D∧g.b7∉keys g.D∧Gr g.D 3 1 g.v g.out.length (g.out.map VI_).flatten∧g.at_<l.length∧l.length≤200∧g.out.length≤4∧
  xh_ l a0=(j4_ l (5 - g.out.length) g.at_).map (g.out++ ·))∨
 (g.lab=0∧New n g.D∧xh_ l a0= .error g.e)
def PaH (g:PaG):zd_:=match g.lab with
 |1=>(g.b7, .cells (zx_ g.q).toArray 114 (0,0))::g.D
 |_=>g.D
def PaS (g:PaG):List (Nat×Value):=match g.lab with
 |1=> [(1,vi g.at_),(6,g.v),(7,vp g.b7 0),(8,vi 1)]
 |_=> [(8,vi g.e)]
def PaL (g:PaG):Nat:=match g.lab with
 |1=>1
 |_=>0
def ajW_ (l:List PartL) (a0:Int) (v:Value) (D:zd_):Prop:=match xh_ l a0 with
 | .ok p=> ∃x,v= .tuple #[x,vi 0]∧p.length≤5∧GrI D 3 1 x p.length (p.map VI_).flatten
 | .error e=>v= .tuple #[.slice none 0 0,vi e]
set_option linter.defProp false
def jz_:=And.intro (And.intro (And.intro (@zg_) (@zf_)) (And.intro (@jt_) (@ju_))) (And.intro (And.intro (@jo_) (@qk_)) (And.intro (@Sx.tup2_0) (@Sx.tup2_1)))
theorem aja_ (v0:Value) (l:List PartL) (a0:Int) (w:World) (hv:ZF_ w v0 l) (hl:l.length<1000000):
  Rets Tryz.prog 153 #[v0,vi a0] w (XS w [] (ajW_ l a0)):=by
 obtain⟨bb,off,arr,E,fz,hr⟩:=hv.row
 have ln:=hv.len
 refine Rets.enterX Tryz.func153 rfl (rs:= [.tmp 4, .tmp 5]) Tryz.results153 Tryz.ntmps153 (fun p hp=>by cases hp) (by simp[keys]) ?_
 refine kf ?_
 first|with_reducible refine ks [] @jz_ ?_|refine kp @jz_ ?_
 refine Cw.scopeL (G:=PaG) (fun g=>PaL g) [6,7,8,9,10,11,12,13,14,15,16,17,18,19,20,21,22,23,24,25,26,27,28,29,31,32,33,34,35,36,37,38,39,40,41,42,43,30,44,45,46,47,48,49,50,51,53,54,55,52,56,4,5,58,59,60,57,61,62,1,63] (fun g=>PaS g) (fun g=>PaH g) (fun g=>PaJ l a0 w.heap.size g) (fun g=>(if g.lab=1 then 6 - g.out.length else 0)) ?_ ?_ ?_
 ·intro g
  unfold PaL
  split<;>rfl
 ·intro g j hg
  rcases hg with hg|hg
  ·obtain⟨lab,a,out,v,b7,q,e,D⟩:=g
   obtain⟨hlab,hg⟩:=hg
   simp only at hlab
   subst hlab
   simp only[PaL,PaS,PaH] at hg ⊢
   obtain⟨hw7,hN,hbD,hGr,hal,h200,hol,hpv⟩:=hg
   have hb0:0<l.length:=by omega
   have hbl:=hr.lt hb0
   have i2:=hr.idx true a hal
   have ld:=hr.load xu_ (by omega) hal
   simp only[ki_,Qp_,Bool.or_false,Bool.false_or,Bool.or_true,Bool.true_or,Nat.reduceBEq,beq_self_eq_true, ↓reduceIte,Bool.false_eq_true]
   refine kv ?_
   try with_reducible refine qr_ ?_
   first|with_reducible refine ks [] @jz_ ?_|refine kp @jz_ ?_
   refine Ow.buildSlice (e:=3) #[vi a] rfl rfl (by kernel_rfl) fun b9 hb9 hw9=> ?_
   have h79:b7<b9:=zk_ hb9 (by simp[keys])
   refine Ow.permL (M:=D++ [(b7, .cells (zx_ q).toArray 114 (0,0)),(b9, .cells #[vi a] 3 (0,0))]) (by classical exact List.perm_iff_count.2 fun a=>by simp only[List.count_append,List.count_cons,List.count_nil]<;>omega) ?_
   refine ko @jz_ ?_
   refine Ow.appendXG (e:=3) (k:=1) (new:=VI_ a) (X:=D) v rfl rfl rfl rfl Tryz.underlying28 (id (by kernel_rfl):z0_ Tryz.prog 3=some (false,1)) (by kernel_rfl) (id (by kernel_rfl):zK_ Tryz.prog 3=some (vi 0)) rfl Tryz.underlying28 (by intro k h;cases h) hGr (fun w' hw'=>AppX.one1 (hw'.has b9 (.cells #[vi a] 3 (0,0)) (by simp)) (Zq_ a) rfl) (by omega) (fun B3 v3 D3 hA3 hB3 hG3 hk13 hk23 hlk3=> ?_)
   have hN3:New w.heap.size D3:=New.of_le fun c hc=>by
    rcases hk23 c hc with h|h
    ·exact hN.le c h
    ·omega
   have hbD3:b7∉keys D3:=fun hm=>by
    rcases hk23 b7 hm with h|h
    ·exact hbD h
    ·exact Nat.lt_irrefl _ (Nat.lt_of_lt_of_le (zk_ hA3 (by rw[zj_];exact List.mem_append_right _ (by simp[keys]))) h)
   have hG4:Gr (D3++ [(b9, .cells #[vi a] 3 (0,0))]) 3 1 v3 (out++ [a]).length ((out++ [a]).map VI_).flatten:=by
    have:=hG3.app (M:= [(b9,Obj.cells #[vi a] 3 (0,0))])
    simpa using this
   have hN4:New w.heap.size (D3++ [(b9,Obj.cells #[vi a] 3 (0,0))]):=hN3.app ⟨hw9,trivial⟩
   have hbD4:b7∉keys (D3++ [(b9,Obj.cells #[vi a] 3 (0,0))]):=fun hm=>by
    rw[zj_] at hm
    rcases List.mem_append.1 hm with h|h
    ·exact hbD3 h
    ·simp[keys] at h;omega
   refine Ow.permL (M:=(b7, .cells (zx_ q).toArray 114 (0,0)):: (D3++ [(b9, .cells #[vi a] 3 (0,0))])) (by classical exact List.perm_iff_count.2 fun a=>by simp only[List.count_append,List.count_cons,List.count_nil]<;>omega) ?_
   generalize (D3++ [(b9,Obj.cells #[vi a] 3 (0,0))])=D4 at*
   have rd:zy_ w ((b7,Obj.cells (zx_ q).toArray 114 (0,0))::D4) bb=some (.cells arr E fz):=by
    rw[qK_ (by simp only[keys,List.map_cons,List.mem_cons,not_or];exact⟨by omega,hN4.not hbl⟩)];exact hr.has hb0
   have hk5:j4_ l (5 - out.length) a=j4_ l (5 - out.length - 1+1) a:=by congr 1;omega
   rw[hk5,j4_] at hpv
   generalize hp:l.getD a qt_=p at*
   have hst:=k8_ p q 114
   have hlen4: ∀m,Xr_ (.sl m) v3=some (vi (out++ [a]).length):=fun m=>hG4.len m
   have hN7:New w.heap.size ((b7,Obj.cells (zx_ p).toArray 114 (0,0))::D4):=⟨hw7,hN4⟩
   cases hd:p.d
   ·rw[hd,if_neg (by simp)] at hpv
    by_cases hb:p.b=0
    ·have e1: (p.b !=0)=false:=by rw[hb];rfl
     have nf: (!false)=true:=rfl
     rw[if_neg (by simp[hb])] at hpv
     refine ko @jz_ ?_
     first|with_reducible refine ks [] (And.intro @jz_ (And.intro @i2 (And.intro @rd (And.intro @ld (And.intro @hst (And.intro @hd (And.intro @e1 (@nf)))))))) ?_|refine kp (And.intro @jz_ (And.intro @i2 (And.intro @rd (And.intro @ld (And.intro @hst (And.intro @hd (And.intro @e1 (@nf)))))))) ?_
     refine⟨_,(ke @jz_), ?_⟩
     refine⟨Ext.of_new hN7, ?_⟩
     unfold ajW_
     rw[hpv]
     refine⟨v3,rfl,by show(out++ [a]).length≤5;rw[List.length_append];simp;omega,Gr.i (X:=D4) hG4 fun c hc=>List.mem_cons_of_mem _ hc⟩
    ·have e1: (p.b !=0)=true:=by rw[bne_iff_ne];exact hb
     have nf: (!false)=true:=rfl
     rw[if_pos hb] at hpv
     refine ko @jz_ ?_
     first|with_reducible refine ks [] (And.intro @jz_ (And.intro @i2 (And.intro @rd (And.intro @ld (And.intro @hst (And.intro @hd (And.intro @e1 (@nf)))))))) ?_|refine kp (And.intro @jz_ (And.intro @i2 (And.intro @rd (And.intro @ld (And.intro @hst (And.intro @hd (And.intro @e1 (@nf)))))))) ?_
     exact Jump.mk ⟨0,0,[],v3,0,p,2,(b7, .cells (zx_ p).toArray 114 (0,0))::D4⟩ rfl (by show 0<6 - out.length;omega) (.inr ⟨rfl,hN7,hpv⟩) rfl rfl
   ·rw[hd,if_pos rfl] at hpv
    have nt: (!true)=false:=rfl
    by_cases hb:p.b<0
    ·have e1:decide (p.b<0)=true:=decide_eq_true hb
     rw[if_pos (.inl hb)] at hpv
     refine ko @jz_ ?_
     first|with_reducible refine ks [] (And.intro @jz_ (And.intro @i2 (And.intro @rd (And.intro @ld (And.intro @hst (And.intro @hd (And.intro @e1 (@nt)))))))) ?_|refine kp (And.intro @jz_ (And.intro @i2 (And.intro @rd (And.intro @ld (And.intro @hst (And.intro @hd (And.intro @e1 (@nt)))))))) ?_
     exact Jump.mk ⟨0,0,[],v3,0,p,2,(b7, .cells (zx_ p).toArray 114 (0,0))::D4⟩ rfl (by show 0<6 - out.length;omega) (.inr ⟨rfl,hN7,hpv⟩) rfl rfl
    ·have e1:decide (p.b<0)=false:=decide_eq_false hb
     by_cases hb2: (a:Int)≤p.b
     ·have e2:decide ((a:Int)≤p.b)=true:=decide_eq_true hb2
      rw[if_pos (.inr hb2)] at hpv
      refine ko @jz_ ?_
      first|with_reducible refine ks [] (And.intro @jz_ (And.intro @i2 (And.intro @rd (And.intro @ld (And.intro @hst (And.intro @hd (And.intro @e1 (And.intro @e2 (@nt))))))))) ?_|refine kp (And.intro @jz_ (And.intro @i2 (And.intro @rd (And.intro @ld (And.intro @hst (And.intro @hd (And.intro @e1 (And.intro @e2 (@nt))))))))) ?_
      exact Jump.mk ⟨0,0,[],v3,0,p,2,(b7, .cells (zx_ p).toArray 114 (0,0))::D4⟩ rfl (by show 0<6 - out.length;omega) (.inr ⟨rfl,hN7,hpv⟩) rfl rfl
     ·have e2:decide ((a:Int)≤p.b)=false:=decide_eq_false hb2
      rw[if_neg (by omega)] at hpv
      by_cases ho:out.length=4
      ·have e3:decide ((4:Int)< ((out++ [a]).length:Int))=true:=by rw[List.length_append];exact decide_eq_true (by simp;omega)
       rw[if_pos (by omega)] at hpv
       refine ko @jz_ ?_
       first|with_reducible refine ks [] (And.intro @jz_ (And.intro @i2 (And.intro @rd (And.intro @ld (And.intro @hst (And.intro @hd (And.intro @e1 (And.intro @e2 (And.intro @nt (And.intro @hlen4 (@e3))))))))))) ?_|refine kp (And.intro @jz_ (And.intro @i2 (And.intro @rd (And.intro @ld (And.intro @hst (And.intro @hd (And.intro @e1 (And.intro @e2 (And.intro @nt (And.intro @hlen4 (@e3))))))))))) ?_
       exact Jump.mk ⟨0,0,[],v3,0,p,11,(b7, .cells (zx_ p).toArray 114 (0,0))::D4⟩ rfl (by show 0<6 - out.length;omega) (.inr ⟨rfl,hN7,hpv⟩) rfl rfl
      ·have e3:decide ((4:Int)< ((out++ [a]).length:Int))=false:=by rw[List.length_append];exact decide_eq_false (by simp;omega)
       rw[if_neg (by omega)] at hpv
       obtain⟨Bn,hBn⟩: ∃Bn:Nat,p.b=(Bn:Int):=⟨p.b.toNat,by omega⟩
       have hol2: (out++ [a]).length=out.length+1:=by simp
       refine ko @jz_ ?_
       first|with_reducible refine ks [] (And.intro @jz_ (And.intro @i2 (And.intro @rd (And.intro @ld (And.intro @hst (And.intro @hd (And.intro @e1 (And.intro @e2 (And.intro @nt (And.intro @hlen4 (@e3))))))))))) ?_|refine kp (And.intro @jz_ (And.intro @i2 (And.intro @rd (And.intro @ld (And.intro @hst (And.intro @hd (And.intro @e1 (And.intro @e2 (And.intro @nt (And.intro @hlen4 (@e3))))))))))) ?_
       rw[hBn]
       refine Jump.mk ⟨1,Bn,out++ [a],v3,b7,p,1,D4⟩ rfl (by show 6 - (out++ [a]).length<6 - out.length;omega) (.inl ⟨rfl,hw7,hN4,hbD4,hG4,by show Bn<l.length;omega,h200,by show(out++ [a]).length≤4;omega, ?_⟩) rfl rfl
       show xh_ l a0=(j4_ l (5 - (out++ [a]).length) Bn).map ((out++ [a])++ ·)
       rw[hpv,hBn,Int.toNat_natCast,show 5 - (out++ [a]).length=5 - out.length - 1 by omega]
       cases j4_ l (5 - out.length - 1) Bn with
       |error x=>rfl
       |ok x=>show Except.ok _=Except.ok _;simp
  ·obtain⟨lab,a,out,v,b7,q,e,D⟩:=g
   obtain⟨hlab,hg⟩:=hg
   simp only at hlab
   subst hlab
   simp only[PaL,PaS,PaH] at hg ⊢
   obtain⟨hN,hno⟩:=hg
   simp only[ki_,Qp_,Bool.or_false,Bool.false_or,Bool.or_true,Bool.true_or,Nat.reduceBEq,beq_self_eq_true, ↓reduceIte,Bool.false_eq_true]
   refine kv ?_
   try with_reducible refine qr_ ?_
   first|with_reducible refine ks [] @jz_ ?_|refine kp @jz_ ?_
   refine⟨_,(ke @jz_), ?_⟩
   refine⟨Ext.of_new hN, ?_⟩
   unfold ajW_
   rw[hno];rfl
 ·intro key
  repeat ((try with_reducible refine Cw.go [999999] ?_);(simp(disch:=(first|assumption|omega| (simp only[jF_,jE_,UInt64.reduceToNat];try omega))) only[↓Sx.S0,Sx.S1,Tryz.fx,jz_,Nat.reduceAdd,Nat.reducePow,Int.reducePow,Nat.reduceBEq, ↓reduceIte,UInt8.reduceToNat,UInt16.reduceToNat,UInt32.reduceToNat,UInt64.reduceToNat,Int.reduceToNat]))
  refine Ow.alloc rfl rfl Zh_ fun b7 hb7 hw7=> ?_
  simp only[ze_,List.nil_append,List.cons_append]
  refine ko @jz_ ?_
  by_cases h1:200<l.length
  ·have d1:decide ((200:Int)< (l.length:Int))=true:=decide_eq_true (by omega)
   have hpv:xh_ l a0= .error 1:=by unfold xh_;rw[if_pos (.inl h1)]
   repeat ((try with_reducible refine Cw.go [999999] ?_);(simp(disch:=(first|assumption|omega| (simp only[jF_,jE_,UInt64.reduceToNat];try omega))) only[↓Sx.S0,Sx.S1,Tryz.fx,jz_,Nat.reduceAdd,Nat.reducePow,Int.reducePow,Nat.reduceBEq, ↓reduceIte,UInt8.reduceToNat,UInt16.reduceToNat,UInt32.reduceToNat,UInt64.reduceToNat,Int.reduceToNat,ln,d1]))
   exact Jump.mk ⟨0,0,[], .slice none 0 0,0,qt_,1,[(b7, .cells (zx_ qt_).toArray 114 (0,0))]⟩ rfl trivial (.inr ⟨rfl,⟨hw7,trivial⟩,hpv⟩) rfl rfl
  ·have d1:decide ((200:Int)< (l.length:Int))=false:=decide_eq_false (by omega)
   by_cases h2:a0<0
   ·have d2:decide (a0<0)=true:=decide_eq_true h2
    have hpv:xh_ l a0= .error 1:=by unfold xh_;rw[if_pos (.inr (.inl h2))]
    repeat ((try with_reducible refine Cw.go [999999] ?_);(simp(disch:=(first|assumption|omega| (simp only[jF_,jE_,UInt64.reduceToNat];try omega))) only[↓Sx.S0,Sx.S1,Tryz.fx,jz_,Nat.reduceAdd,Nat.reducePow,Int.reducePow,Nat.reduceBEq, ↓reduceIte,UInt8.reduceToNat,UInt16.reduceToNat,UInt32.reduceToNat,UInt64.reduceToNat,Int.reduceToNat,ln,d1,d2]))
    exact Jump.mk ⟨0,0,[], .slice none 0 0,0,qt_,1,[(b7, .cells (zx_ qt_).toArray 114 (0,0))]⟩ rfl trivial (.inr ⟨rfl,⟨hw7,trivial⟩,hpv⟩) rfl rfl
   ·have d2:decide (a0<0)=false:=decide_eq_false h2
    by_cases h3: (l.length:Int)≤a0
    ·have d3:decide ((l.length:Int)≤a0)=true:=decide_eq_true h3
     have hpv:xh_ l a0= .error 1:=by unfold xh_;rw[if_pos (.inr (.inr h3))]
     repeat ((try with_reducible refine Cw.go [999999] ?_);(simp(disch:=(first|assumption|omega| (simp only[jF_,jE_,UInt64.reduceToNat];try omega))) only[↓Sx.S0,Sx.S1,Tryz.fx,jz_,Nat.reduceAdd,Nat.reducePow,Int.reducePow,Nat.reduceBEq, ↓reduceIte,UInt8.reduceToNat,UInt16.reduceToNat,UInt32.reduceToNat,UInt64.reduceToNat,Int.reduceToNat,ln,d1,d2,d3]))
     exact Jump.mk ⟨0,0,[], .slice none 0 0,0,qt_,1,[(b7, .cells (zx_ qt_).toArray 114 (0,0))]⟩ rfl trivial (.inr ⟨rfl,⟨hw7,trivial⟩,hpv⟩) rfl rfl
    ·have d3:decide ((l.length:Int)≤a0)=false:=decide_eq_false h3
     obtain⟨A,rfl⟩: ∃A:Nat,a0=(A:Int):=⟨a0.toNat,by omega⟩
     repeat ((try with_reducible refine Cw.go [999999] ?_);(simp(disch:=(first|assumption|omega| (simp only[jF_,jE_,UInt64.reduceToNat];try omega))) only[↓Sx.S0,Sx.S1,Tryz.fx,jz_,Nat.reduceAdd,Nat.reducePow,Int.reducePow,Nat.reduceBEq, ↓reduceIte,UInt8.reduceToNat,UInt16.reduceToNat,UInt32.reduceToNat,UInt64.reduceToNat,Int.reduceToNat,ln,d1,d2,d3]))
     have key0:=fun f'=>key (⟨1,A,[], .slice none 0 0,b7,qt_,1,[]⟩) f'
     simp only[ki_,Qp_,Bool.or_false,Bool.false_or,Bool.or_true,Bool.true_or,Nat.reduceBEq,beq_self_eq_true, ↓reduceIte,Bool.false_eq_true] at key0
     clear key
     refine Cw.label ?_
     refine key0 _ (.inl ⟨rfl,hw7,trivial,by simp[keys],Gr.nl,by show A<l.length;omega,by omega,by simp, ?_⟩) ?_
     ·show xh_ l (A:Int)=(j4_ l 5 A).map ([]++ ·)
      unfold xh_
      rw[if_neg (by omega),Int.toNat_natCast]
      cases j4_ l 5 A with
      |error x=>rfl
      |ok x=>rfl
     ·rfl
end Go.Proofs
end
section
open Go Go.Proofs Go.Sx Go.StP Go.Flo
namespace Go.Proofs
set_option maxRecDepth 10000
set_option maxHeartbeats 400000
set_option linter.unusedSimpArgs false
theorem Kw_ {l:List PartL}: ∀ (k a:Nat) (e:Int),j4_ l k a= .error e→e≠0
 |0,_,e,h=>by cases h;decide
 |k+1,a,e,h=>by
  unfold j4_ at h
  split at h
  ·split at h
   ·cases h;decide
   ·split at h
    ·cases h;decide
    ·cases hp:j4_ l k (l.getD a qt_).b.toNat with
     |error x=>rw[hp] at h;cases h;exact Kw_ k _ _ hp
     |ok q=>rw[hp] at h;cases h
  ·split at h
   ·cases h;decide
   ·cases h
theorem W9_ {l:List PartL} {a:Int} {e:Int} (h:xh_ l a= .error e):e≠0:=by
 unfold xh_ at h
 split at h
 ·cases h;decide
 ·exact Kw_ _ _ _ h
theorem amg_ {w0 w:World} {L D:zd_} {E:TypeId} {v:Value} {l:List Nat} (h:GrI D E 1 v l.length (l.map VI_).flatten) (hD: ∀p,p∈D→p∈L) (hw:Hp w0 L w):l.length=0∨ ∃b c rest,v=vsl b 0 l.length c∧b∈keys D∧zy_ w0 L b=some (rowO VI_ E rest l):=by
 obtain⟨X,hX,h| ⟨h0,-⟩⟩:=h
 ·rcases h.inv with⟨-,h0,-⟩ | ⟨b,c,rest,rfl,hl,h1,h2,h3,h4⟩
  ·exact .inl h0
  ·exact .inr ⟨b,c,rest,rfl,List.mem_map_of_mem (f:=Prod.fst) (hX _ (zJ_ hl)),qd_ (x6_ hw.nodup (hD _ (hX _ (zJ_ hl))))⟩
 ·exact .inl h0
theorem ajw_ {E:TypeId} {rest:List Value} {l:List Nat} (n i:Nat) (hi:i<l.length):zr_ (some (false,n)) (some (rowO VI_ E rest l)) i=some (vi (l.getD i 0)):=by
 unfold rowO zr_
 have e: (l.map VI_).flatten=l.map fun n=>vi (n:Nat):=by
  clear hi
  induction l with
  |nil=>rfl
  |cons a l ih=>rw[List.map_cons,List.flatten_cons,List.map_cons,ih];rfl
 simp only[e]
 rw[List.getElem?_toArray,List.getElem?_append_left (by simpa using hi),List.getElem?_map,List.getElem?_eq_getElem hi,List.getD_eq_getElem?_getD,List.getElem?_eq_getElem hi]
 rfl
def BndL (l:List PartL):Prop:= ∀g,g<l.length→(l.getD g qt_).x.length<9223372036854775808
set_option linter.defProp false
def wP_:=And.intro (And.intro (And.intro (@zg_) (@zf_)) (And.intro (@jt_) (@ju_))) (And.intro (And.intro (@jo_) (@qk_)) (And.intro (@Sx.tup2_0) (@Sx.tup2_1)))
theorem aaA_ (p:PartL) (base:List UInt8) (w:World) (hx:p.x.length<9223372036854775808):
  Rets Tryz.prog 154 #[.agg (zx_ p).toArray,vs base] w (fun v D=>v= .tuple #[vs (jK_ p base).1,vi (jK_ p base).2]∧D= []):=by
 refine Rets.enterV Tryz.func154 rfl (rs:= [.tmp 4, .tmp 5]) Tryz.results154 Tryz.ntmps154 ?_
 refine kf ?_
 first|with_reducible refine ks [] @wP_ ?_|refine kp @wP_ ?_
 refine Ow.box rfl rfl fun b2 hb2 hw2=> ?_
 simp only[qi_,qe_,qc_,ze_,List.nil_append,List.cons_append]
 refine Ow.go rfl ?_
 simp(disch:=(first|assumption|omega| (simp only[jF_,jE_,UInt64.reduceToNat];try omega))) only[↓Sx.S0,Sx.S1,Tryz.fx,wP_,Nat.reduceAdd,Nat.reducePow,Int.reducePow,Nat.reduceBEq, ↓reduceIte,UInt8.reduceToNat,UInt16.reduceToNat,UInt32.reduceToNat,UInt64.reduceToNat,Int.reduceToNat]
 cases hd:p.d
 ·by_cases hl:4099<p.x.length
  ·have d1:decide ((4099:Int)< (p.x.length:Int))=true:=decide_eq_true (by omega)
   first|with_reducible refine ks [] (And.intro @wP_ (And.intro @hd (@d1))) ?_|refine kp (And.intro @wP_ (And.intro @hd (@d1))) ?_
   refine⟨_,(ke @wP_),⟨hw2,trivial⟩, ?_⟩
   unfold jK_;rw[if_neg (by simp[hd]),if_pos hl];rfl
  ·have d1:decide ((4099:Int)< (p.x.length:Int))=false:=decide_eq_false (by omega)
   first|with_reducible refine ks [] (And.intro @wP_ (And.intro @hd (@d1))) ?_|refine kp (And.intro @wP_ (And.intro @hd (@d1))) ?_
   refine⟨_,(ke @wP_),⟨hw2,trivial⟩, ?_⟩
   unfold jK_;rw[if_neg (by simp[hd]),if_neg hl];rfl
 ·first|with_reducible refine ks [] (And.intro @wP_ @hd) ?_|refine kp (And.intro @wP_ @hd) ?_
  refine Ow.callFV rfl Tryz.call177 (fun w' hw'=>af1_ base p.x w' hx) ?_
  refine ko @wP_ ?_
  first|with_reducible refine ks [] @wP_ ?_|refine kp @wP_ ?_
  refine⟨_,(ke @wP_),⟨hw2,trivial⟩, ?_⟩
  unfold jK_;rw[if_pos hd];rfl
def al5_ (r:Except Int (List UInt8)):Value:=match r with
 | .ok s=> .tuple #[vs s,vi 0]
 | .error e=> .tuple #[vs [],vi e]
end Go.Proofs
end
