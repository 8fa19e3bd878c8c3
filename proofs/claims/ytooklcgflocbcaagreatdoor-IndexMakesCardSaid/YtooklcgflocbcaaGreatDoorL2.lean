/-
  Part 2 of the walk: contracts of the functions that the law reaches, and the calculus they stand on.
  No conditions.
-/
import Derived.Test.YtooklcgflocbcaaGreatDoorL1
import Derived.Lib.Strings
import Derived.Lib.Bytealg
import GoSem.Core.Float
section
open Go Go.Proofs Go.Sx Go.StP
namespace Go.Proofs
set_option maxRecDepth 10000
set_option maxHeartbeats 4000000
set_option linter.unusedSimpArgs false
abbrev jt_ (a b:RwL):Bool:=StP.lt (fun r:RwL=>r.id.l) a b
abbrev zC_ (l:List RwL):Prop:=StP.Sorted (fun r:RwL=>r.id.l) l
abbrev jV_ (l l':List RwL):Prop:=StP.St (fun r:RwL=>r.id.l) l l'
theorem ZL_ (a b:RwL):decide (vT_ a b<0)=jt_ a b:=by
 unfold vT_ cmpS jt_ StP.lt
 cases h:ltB a.id.l b.id.l
 ·rw[if_neg (by simp)]
  split<;>rfl
 ·rw[if_pos rfl];rfl
structure rws_InsG where
 S:List RwL
 R:List RwL
set_option linter.defProp false
def xV_:=And.intro (And.intro (@kb_) (And.intro (@xI_) (@vb_))) (And.intro (@jY_) (And.intro (@z7_) (@ZL_)))
theorem kR_ (rb n c:Nat) (A M B:List RwL) (rest:List Value) (a b:Nat) (w:World) (ha:A.length=a) (hb:b=a+M.length) (hn:n=b+B.length) (hs:n<1000000)
  (ho:w.heap[rb]? =some (zD_ rest (A++ (M++B)))):
  Rets Tryz.prog 175 #[vsl rb 0 n c,vi a,vi b, .func (.func 109) #[] #[]] w (fun v D=> ∃o,D= [(rb,o)]∧v= .tuple #[]∧ ∃M',o=zD_ rest (A++ (M'++B))∧M'.length=M.length∧zC_ M'∧jV_ M M'):=by
 cases M with
 |nil=>
  simp only[List.length_nil,Nat.add_zero] at hb
  subst hb
  refine Rets.enterM Tryz.func175 rfl (rs:= []) Tryz.results175 Tryz.ntmps175 ho ?_
  refine kf ?_
  first|with_reducible refine ks [] @xV_ ?_|refine kp @xV_ ?_
  refine Cw.loopG (G:=Unit) [12,13,14,17,9,18,19,20,21,22,23,24,25,26,27,28,29,30,31,32,33,34,37,38,39,40,41,42,43,44,45,46,47,48,49,50,51,52,35,36,15,16,8] (fun g=> [(8,vi (b+1))]) (fun g=> [(rb,zD_ rest (A++ ([]++B)))]) (fun g=>True) (fun g=>0) () rfl rfl ?_ ?_
  ·trivial
  ·intro g j hg
   refine kv ?_
   first|with_reducible refine ks [] @xV_ ?_|refine kp @xV_ ?_
   refine⟨_,_,_,(ke @xV_),rfl,trivial, ?_⟩
   exact⟨rfl,[],rfl,rfl,List.Pairwise.nil,StP.St.refl _ _⟩
 |cons x0 M=>
  refine Rets.enterM Tryz.func175 rfl (rs:= []) Tryz.results175 Tryz.ntmps175 ho ?_
  refine kf ?_
  first|with_reducible refine ks [] @xV_ ?_|refine kp @xV_ ?_
  have e0: (a:Int)+1=((a+ [x0].length:Nat):Int):=by simp
  rw[e0]
  refine Cw.loopG (G:=rws_InsG) [12,13,14,17,9,18,19,20,21,22,23,24,25,26,27,28,29,30,31,32,33,34,37,38,39,40,41,42,43,44,45,46,47,48,49,50,51,52,35,36,15,16,8] (fun g=> [(8,vi (a+g.S.length:Nat))]) (fun g=> [(rb,zD_ rest (A++ (g.S++ (g.R++B))))]) (fun g=> ∃M1,x0::M=M1++g.R∧g.S.length=M1.length∧zC_ g.S∧jV_ M1 g.S) (fun g=>g.R.length) ⟨[x0],M⟩ rfl rfl ?_ ?_
  ·exact⟨[x0],rfl,rfl,List.pairwise_singleton _ _,StP.St.refl _ _⟩
  ·intro g j hg
   refine kv ?_
   obtain⟨S,R⟩:=g
   obtain⟨M1,hM,hS1,hS2,hS3⟩:=hg
   dsimp only at hM hS1 hS2 hS3 ⊢
   have hlen:=congrArg List.length hM
   rw[List.length_cons,List.length_append] at hlen
   rw[List.length_cons] at hb
   cases R with
   |nil=>
    rw[List.length_nil] at hlen
    first|with_reducible refine ks [] @xV_ ?_|refine kp @xV_ ?_
    refine⟨_,_,_,(ke @xV_),rfl,trivial, ?_⟩
    exact⟨rfl,S,rfl,by show S.length=M.length+1;omega,hS2,by rw[show x0::M=M1 from by rw[hM,List.append_nil]];exact hS3⟩
   |cons x R=>
    rw[List.length_cons] at hlen
    have e1:A++ (S++ (x::R++B))=q3_ A S x (R++B) S.length:=by rw[abG_ _ _ _ _ (Nat.le_refl _)];simp only[List.append_assoc,List.cons_append,List.nil_append]
    rw[e1]
    first|with_reducible refine ks [] @xV_ ?_|refine kp @xV_ ?_
    refine Cw.loopG (G:=Nat) [18,19,20,21,22,23,24,25,26,27,28,29,30,31,32,33,34,37,38,39,40,41,42,43,44,45,46,47,48,49,50,51,52,35,36,9] (fun g=> [(9,vi (a+g:Nat))]) (fun g=> [(rb,zD_ rest (q3_ A S x (R++B) g))]) (fun g=>g≤S.length∧(S.length≤g∨jt_ x (S.getD g rw0)=true)) (fun g=>g) S.length rfl rfl ?_ ?_
    ·exact⟨Nat.le_refl _, .inl (Nat.le_refl _)⟩
    ·intro k jk hk
     refine kv ?_
     obtain⟨hk1,hk2⟩:=hk
     have hl:=wY_ A S x (R++B) k
     rw[List.length_append] at hl
     have done: (k=0∨jt_ x (S.getD (k - 1) rw0)=false)→jV_ (M1++ [x]) (S.take k++x::S.drop k)∧zC_ (S.take k++x::S.drop k):=fun h=>by
      obtain⟨q1,q2⟩:=wn_ (z:=rw0) hS2 hk1 h hk2
      exact⟨(StP.St.app hS3 (StP.St.refl _ _)).trans q2,q1⟩
     first|with_reducible refine ks [] @xV_ ?_|refine kp @xV_ ?_
     by_cases hk0:k=0
     ·have e2:decide ((a:Int)< ((a+k:Nat):Int))=false:=decide_eq_false (by omega)
      refine Cw.regionS [rb] [0,1,2,3,4,5,6,7,9,10,11,12,8,13,14,15,16] [] (by kernel_rfl) (by kernel_rfl) (by kernel_rfl) ?_
      simp only[zg_, ↓zd_, ↓zb_, ↓zp_, ↓zq_,za_]
      refine kq (And.intro @xV_ @e2) ?_
      first|with_reducible refine ks [] @xV_ ?_|refine kp @xV_ ?_
      obtain⟨d1,d2⟩:=done (.inl hk0)
      refine Again.mk ⟨S.take k++x::S.drop k,R⟩ (by show R.length< (x::R).length;simp) ⟨M1++ [x],by rw[hM];simp,by simp only[List.length_append,List.length_cons,List.length_nil,List.length_take,List.length_drop];omega,d2,d1⟩ ?_ ?_
      ·rw[Qg_]
      ·dsimp only
       rw[show(S.take k++x::S.drop k).length=S.length+1 by simp only[List.length_append,List.length_cons,List.length_take,List.length_drop];omega]
       rfl
     ·have e2:decide ((a:Int)< ((a+k:Nat):Int))=true:=decide_eq_true (by omega)
      refine Cw.regionS [rb] [0,1,2,3,4,5,6,7,9,10,11,12,8,13,14,15,16] [] (by kernel_rfl) (by kernel_rfl) (by kernel_rfl) ?_
      simp only[zg_, ↓zd_, ↓zb_, ↓zp_, ↓zq_,za_]
      refine kq (And.intro @xV_ @e2) ?_
      refine Ow.callFn2 (v:=vi (vT_ x (S.getD (k - 1) rw0))) rfl rfl (by
       show Value.agg _=Value.agg (rwC x).toArray
       rw[Ji_ (z:=rw0) hk1 (by rw[ha])]) (by
       show Value.agg _=Value.agg (rwC (S.getD (k - 1) rw0)).toArray
       rw[show k=(k - 1)+1 by omega,ac7_ (z:=rw0) (k:=k - 1) (by omega) (by rw[ha];omega)];rfl) Tryz.call109 (fun w' hw'=>kd_ x (S.getD (k - 1) rw0) w') ?_
      refine kq @xV_ ?_
      cases hc:jt_ x (S.getD (k - 1) rw0)
      ·first|with_reducible refine ks [] @xV_ ?_|refine kp @xV_ ?_
       obtain⟨d1,d2⟩:=done (.inr hc)
       refine Again.mk ⟨S.take k++x::S.drop k,R⟩ (by show R.length< (x::R).length;simp) ⟨M1++ [x],by rw[hM];simp,by simp only[List.length_append,List.length_cons,List.length_nil,List.length_take,List.length_drop];omega,d2,d1⟩ ?_ ?_
       ·rw[Qg_]
       ·dsimp only
        rw[show(S.take k++x::S.drop k).length=S.length+1 by simp only[List.length_append,List.length_cons,List.length_take,List.length_drop];omega]
        rfl
      ·first|with_reducible refine ks [] @xV_ ?_|refine kp @xV_ ?_
       obtain⟨k,rfl⟩: ∃q,k=q+1:=⟨k - 1,by omega⟩
       have h1:=Ji_ (z:=rw0) (a:=A) (b:=R++B) (x:=x) hk1 (show a+ (k+1)=A.length+ (k+1) by omega)
       have h2:=ac7_ (z:=rw0) (a:=A) (b:=R++B) (x:=x) (k:=k) (s:=S) (by omega) (show a+k=A.length+k by omega)
       have e3:a+ (k+1) - 1=a+k:=by omega
       refine Cw.regionS [rb] [0,1,2,3,4,5,6,7,8,10,11,12,9,13,14,15,16,17] [15,17] (by kernel_rfl) (by kernel_rfl) (by kernel_rfl) ?_
       simp only[zg_, ↓zd_, ↓zb_, ↓zp_, ↓zq_,za_]
       refine kq (And.intro @xV_ (And.intro @e3 (And.intro @h1 (@h2)))) ?_
       refine Ow.store rfl rfl rfl (ke (And.intro @xV_ (And.intro @e3 (And.intro @h1 (@h2))))) ?_
       refine ko (And.intro @xV_ (And.intro @e3 (And.intro @h1 (@h2)))) ?_
       rw[aaZ_ (by omega),←Nat.add_assoc,V8_ (z:=rw0) (by omega) (by rw[ha])]
       refine Again.mk k (by omega) ⟨by omega, .inr hc⟩ rfl ?_
       rw[show(((a+k+1:Nat):Int)) - 1=((a+k:Nat):Int) by omega]
       rfl
end Go.Proofs
end
section
open Go Go.Proofs Go.Sx Go.StP
namespace Go.Proofs
set_option maxRecDepth 10000
set_option maxHeartbeats 4000000
set_option linter.unusedSimpArgs false
abbrev qU_:Value:= .func (.func 109) #[] #[]
def QR_ (rb:Nat) (A X Y B:List RwL) (rest:List Value) (v:Value) (D:ze_):Prop:=
 ∃o,D= [(rb,o)]∧v= .tuple #[]∧ ∃Z,o=zD_ rest (A++ (Z++B))∧Z.length=X.length+Y.length∧zC_ Z∧jV_ (X++Y) Z
set_option linter.defProp false
def vw_:=And.intro (And.intro (@kb_) (And.intro (@xI_) (@vb_))) (And.intro (And.intro (@jY_) (@z7_)) (And.intro (@ZL_) (@aa6_)))
theorem Wt_ (rb n c:Nat) (A:List RwL) (x:RwL) (Y B:List RwL) (rest:List Value) (a m b:Nat) (w:World) (ha:A.length=a) (hm:m=a+1) (hb:b=m+Y.length) (hn:n=b+B.length) (hs:n<1000000) (hY:zC_ Y)
  (ho:w.heap[rb]? =some (zD_ rest (A++ ([x]++ (Y++B))))):
  Rets Tryz.prog 176 #[vsl rb 0 n c,vi a,vi m,vi b,qU_] w (QR_ rb A [x] Y B rest):=by
 subst hb
 refine Rets.enterM Tryz.func176 rfl (rs:= []) Tryz.results176 Tryz.ntmps176 ho ?_
 refine kf ?_
 first|with_reducible refine ks [] @vw_ ?_|refine kp @vw_ ?_
 have e0:A++x:: (Y++B)=q3_ A Y x B 0:=by rw[agf_];simp only[List.append_assoc,List.cons_append,List.nil_append]
 rw[e0]
 refine Cw.loopG (G:=BsG) [31,32,33,34,35,36,37,38,39,12,40,41,42,43,44,45,46,47,48,49,50,51,52,10,53,11] (fun g=> [(10,vi (m+g.i:Nat)),(11,vi (m+g.j:Nat))]) (fun g=> [(rb,zD_ rest (q3_ A Y x B 0))]) (fun g=>g.i≤g.j∧g.j≤Y.length∧(g.i=0∨jt_ (Y.getD (g.i - 1) rw0) x=true)∧(Y.length≤g.j∨jt_ (Y.getD g.j rw0) x=false)) (fun g=>g.j - g.i) ⟨0,Y.length⟩ rfl rfl ?_ ?_
 ·exact⟨Nat.zero_le _,Nat.le_refl _, .inl rfl, .inl (Nat.le_refl _)⟩
 ·intro g j hg
  refine kv ?_
  obtain⟨i,j⟩:=g
  obtain⟨h1,h2,h3,h4⟩:=hg
  dsimp only at h1 h2 h3 h4 ⊢
  by_cases hij:i<j
  ·have e1: (m+i+ (m+j)) / 2=m+ (i+j) / 2:=by omega
   have hl:=wY_ A Y x B 0
   first|with_reducible refine ks [] (And.intro @vw_ @e1) ?_|refine kp (And.intro @vw_ @e1) ?_
   have g1: (q3_ A Y x B 0).getD (m+ (i+j) / 2) rw0=Y.getD ((i+j) / 2) rw0:=ami_ (Nat.zero_le _) (by omega) (by omega)
   have g2: (q3_ A Y x B 0).getD a rw0=x:=Ji_ (Nat.zero_le _) (by omega)
   refine Cw.regionS [rb] [0,1,2,3,5,6,7,4,8,9,10] [] (by kernel_rfl) (by kernel_rfl) (by kernel_rfl) ?_
   simp only[zg_, ↓zd_, ↓zb_, ↓zp_, ↓zq_,za_]
   refine kq (And.intro @vw_ (And.intro @g1 (@g2))) ?_
   refine Ow.callFn2 (v:=vi (vT_ (Y.getD ((i+j) / 2) rw0) x)) rfl rfl rfl rfl Tryz.call109 (fun w' hw'=>kd_ _ _ w') ?_
   refine kq @vw_ ?_
   cases hc:jt_ (Y.getD ((i+j) / 2) rw0) x
   ·first|with_reducible refine ks [] @vw_ ?_|refine kp @vw_ ?_
    refine Again.mk ⟨i,(i+j) / 2⟩ (by show(i+j) / 2 - i<j - i;omega) ⟨by show i≤ (i+j) / 2;omega,by show(i+j) / 2≤Y.length;omega,h3, .inr hc⟩ rfl rfl
   ·first|with_reducible refine ks [] @vw_ ?_|refine kp @vw_ ?_
    refine Again.mk ⟨(i+j) / 2+1,j⟩ (by show j - ((i+j) / 2+1)<j - i;omega) ⟨by show(i+j) / 2+1≤j;omega,h2, .inr hc,h4⟩ rfl rfl
  ·obtain rfl:i=j:=by omega
   first|with_reducible refine ks [] @vw_ ?_|refine kp @vw_ ?_
   refine Cw.loopG (G:=Nat) [55,56,57,58,61,62,63,64,65,66,67,68,69,70,71,72,73,74,75,76,59,60,13] (fun g=> [(13,vi (a+g:Nat))]) (fun g=> [(rb,zD_ rest (q3_ A Y x B g))]) (fun g=>g≤i) (fun g=>i - g) 0 rfl rfl ?_ ?_
   ·exact Nat.zero_le _
   ·intro k jk hk
    refine kv ?_
    by_cases hk1:k<i
    ·first|with_reducible refine ks [] @vw_ ?_|refine kp @vw_ ?_
     have hl:=wY_ A Y x B k
     have g1: (q3_ A Y x B k).getD (a+k) rw0=x:=Ji_ (by omega) (by omega)
     have g2: (q3_ A Y x B k).getD (a+k+1) rw0=Y.getD k rw0:=aoF_ (by omega) (by omega)
     refine Cw.regionS [rb] [0,1,2,3,4,5,6,7,8,10,11,12,9,13,14,15,16,17] [15,17] (by kernel_rfl) (by kernel_rfl) (by kernel_rfl) ?_
     simp only[zg_, ↓zd_, ↓zb_, ↓zp_, ↓zq_,za_]
     refine kq (And.intro @vw_ (And.intro @g1 (@g2))) ?_
     refine Ow.store rfl rfl rfl (ke (And.intro @vw_ (And.intro @g1 (@g2)))) ?_
     refine ko (And.intro @vw_ (And.intro @g1 (@g2))) ?_
     rw[alL_ (z:=rw0) (by omega) (by omega)]
     exact Again.mk (k+1) (by omega) (by omega) rfl rfl
    ·obtain rfl:k=i:=by omega
     first|with_reducible refine ks [] @vw_ ?_|refine kp @vw_ ?_
     have hz:=WW_ (z:=rw0) hY h2 h3 h4
     refine⟨_,_,_,(ke @vw_),rfl,trivial, ?_⟩
     exact⟨rfl,_,by rw[Qg_],by simp only[List.length_append,List.length_cons,List.length_nil,List.length_take,List.length_drop];omega,hz.1,hz.2⟩
end Go.Proofs
end
section
open Go Go.Proofs Go.Sx Go.StP
namespace Go.Proofs
set_option maxRecDepth 10000
set_option maxHeartbeats 4000000
set_option linter.unusedSimpArgs false
set_option linter.defProp false
def z1_:=And.intro (And.intro (@kb_) (And.intro (@xI_) (@vb_))) (And.intro (And.intro (@jY_) (@z7_)) (And.intro (@ZL_) (@aa6_)))
theorem Vn_ (rb n c:Nat) (A X:List RwL) (y:RwL) (B:List RwL) (rest:List Value) (a m b:Nat) (w:World) (ha:A.length=a) (hm:m=a+X.length) (hX2:X.length≠1) (hb:b=m+1) (hn:n=b+B.length) (hs:n<1000000) (hX:zC_ X)
  (ho:w.heap[rb]? =some (zD_ rest (A++ (X++ ([y]++B))))):
  Rets Tryz.prog 176 #[vsl rb 0 n c,vi a,vi m,vi b,qU_] w (QR_ rb A X [y] B rest):=by
 subst hm
 refine Rets.enterM Tryz.func176 rfl (rs:= []) Tryz.results176 Tryz.ntmps176 ho ?_
 refine kf ?_
 first|with_reducible refine ks [] @z1_ ?_|refine kp @z1_ ?_
 have e0:A++ (X++y::B)=q3_ A X y B X.length:=by rw[abG_ _ _ _ _ (Nat.le_refl _)];simp only[List.append_assoc,List.cons_append,List.nil_append]
 rw[e0]
 refine Cw.loopG (G:=BsG) [83,84,85,86,87,88,89,90,91,16,92,93,94,95,96,97,98,99,100,101,102,103,104,105,14,106,15] (fun g=> [(14,vi (a+g.i:Nat)),(15,vi (a+g.j:Nat))]) (fun g=> [(rb,zD_ rest (q3_ A X y B X.length))]) (fun g=>g.i≤g.j∧g.j≤X.length∧(g.i=0∨jt_ y (X.getD (g.i - 1) rw0)=false)∧(X.length≤g.j∨jt_ y (X.getD g.j rw0)=true)) (fun g=>g.j - g.i) ⟨0,X.length⟩ rfl rfl ?_ ?_
 ·exact⟨Nat.zero_le _,Nat.le_refl _, .inl rfl, .inl (Nat.le_refl _)⟩
 ·intro g j hg
  refine kv ?_
  obtain⟨i,j⟩:=g
  obtain⟨h1,h2,h3,h4⟩:=hg
  dsimp only at h1 h2 h3 h4 ⊢
  by_cases hij:i<j
  ·have e1: (a+i+ (a+j)) / 2=a+ (i+j) / 2:=by omega
   have hl:=wY_ A X y B X.length
   first|with_reducible refine ks [] (And.intro @z1_ @e1) ?_|refine kp (And.intro @z1_ @e1) ?_
   have g1: (q3_ A X y B X.length).getD (a+ (i+j) / 2) rw0=X.getD ((i+j) / 2) rw0:=anm_ (by omega) (by omega) (by omega)
   have g2: (q3_ A X y B X.length).getD (a+X.length) rw0=y:=Ji_ (Nat.le_refl _) (by omega)
   refine Cw.regionS [rb] [0,1,2,3,5,6,7,4,8,9,10,11] [] (by kernel_rfl) (by kernel_rfl) (by kernel_rfl) ?_
   simp only[zg_, ↓zd_, ↓zb_, ↓zp_, ↓zq_,za_]
   refine kq (And.intro @z1_ (And.intro @g1 (@g2))) ?_
   refine Ow.callFn2 (v:=vi (vT_ y (X.getD ((i+j) / 2) rw0))) rfl rfl rfl rfl Tryz.call109 (fun w' hw'=>kd_ _ _ w') ?_
   refine kq @z1_ ?_
   cases hc:jt_ y (X.getD ((i+j) / 2) rw0)
   ·first|with_reducible refine ks [] @z1_ ?_|refine kp @z1_ ?_
    refine Again.mk ⟨(i+j) / 2+1,j⟩ (by show j - ((i+j) / 2+1)<j - i;omega) ⟨by show(i+j) / 2+1≤j;omega,h2, .inr hc,h4⟩ rfl rfl
   ·first|with_reducible refine ks [] @z1_ ?_|refine kp @z1_ ?_
    refine Again.mk ⟨i,(i+j) / 2⟩ (by show(i+j) / 2 - i<j - i;omega) ⟨by show i≤ (i+j) / 2;omega,by show(i+j) / 2≤X.length;omega,h3, .inr hc⟩ rfl rfl
  ·obtain rfl:i=j:=by omega
   first|with_reducible refine ks [] @z1_ ?_|refine kp @z1_ ?_
   refine Cw.loopG (G:=Nat) [108,109,110,113,114,115,116,117,118,119,120,121,122,123,124,125,126,127,128,111,112,17] (fun g=> [(17,vi (a+g:Nat))]) (fun g=> [(rb,zD_ rest (q3_ A X y B g))]) (fun g=>i≤g∧g≤X.length) (fun g=>g) X.length rfl rfl ?_ ?_
   ·exact⟨h2,Nat.le_refl _⟩
   ·intro k jk hk
    refine kv ?_
    obtain⟨hk1,hk2⟩:=hk
    by_cases hk:i<k
    ·obtain⟨k,rfl⟩: ∃q,k=q+1:=⟨k - 1,by omega⟩
     first|with_reducible refine ks [] @z1_ ?_|refine kp @z1_ ?_
     have hl:=wY_ A X y B (k+1)
     have g1: (q3_ A X y B (k+1)).getD (a+ (k+1)) rw0=y:=Ji_ (by omega) (by omega)
     have g2: (q3_ A X y B (k+1)).getD (a+k) rw0=X.getD k rw0:=ac7_ (by omega) (by omega)
     have e3:a+ (k+1) - 1=a+k:=by omega
     refine Cw.regionS [rb] [0,1,2,3,4,5,6,7,8,10,11,12,9,13,14,15,16,17] [15,17] (by kernel_rfl) (by kernel_rfl) (by kernel_rfl) ?_
     simp only[zg_, ↓zd_, ↓zb_, ↓zp_, ↓zq_,za_]
     refine kq (And.intro @z1_ (And.intro @e3 (And.intro @g1 (@g2)))) ?_
     refine Ow.store rfl rfl rfl (ke (And.intro @z1_ (And.intro @e3 (And.intro @g1 (@g2))))) ?_
     refine ko (And.intro @z1_ (And.intro @e3 (And.intro @g1 (@g2)))) ?_
     rw[aaZ_ (by omega),←Nat.add_assoc,V8_ (z:=rw0) (by omega) (by omega)]
     refine Again.mk k (by omega) ⟨by omega,by omega⟩ rfl ?_
     rw[show(((a+k+1:Nat):Int)) - 1=((a+k:Nat):Int) by omega]
     rfl
    ·obtain rfl:k=i:=by omega
     first|with_reducible refine ks [] @z1_ ?_|refine kp @z1_ ?_
     have hz:=wn_ (z:=rw0) hX h2 h3 h4
     refine⟨_,_,_,(ke @z1_),rfl,trivial, ?_⟩
     exact⟨rfl,_,by rw[Qg_],by simp only[List.length_append,List.length_cons,List.length_nil,List.length_take,List.length_drop];omega,hz.1,hz.2⟩
theorem ajA_ {A X C:List RwL} {h i:Nat} (hh:h<X.length) (e:i=A.length+h): (A++ (X++C)).getD i rw0=X.getD h rw0:=by
 subst e
 rw[qy_ (by omega),Nat.add_sub_cancel_left,jL_ hh]
theorem aki_ {A X Y C:List RwL} {h i:Nat} (hh:h<Y.length) (e:i=A.length+X.length+h): (A++ (X++ (Y++C))).getD i rw0=Y.getD h rw0:=by
 subst e
 rw[qy_ (by omega),qy_ (by omega),jL_ (by omega)]
 congr 1;omega
theorem vE_ (q:Nat): ∀ (rb n c:Nat) (A X Y B:List RwL) (rest:List Value) (a m b:Nat) (w:World) (_ha:A.length=a) (_hm:m=a+X.length) (_hb:b=m+Y.length) (_hn:n=b+B.length) (_hs:n<1000000) (_hX:zC_ X) (_hY:zC_ Y) (_hx0:0<X.length) (_hy0:0<Y.length) (_hq:X.length+Y.length≤q)
  (_ho:w.heap[rb]? =some (zD_ rest (A++ (X++ (Y++B))))),
  Rets Tryz.prog 176 #[vsl rb 0 n c,vi a,vi m,vi b,qU_] w (QR_ rb A X Y B rest):=by
 induction q with
 |zero=>intros;omega
 |succ q ih=>
  intro rb n c A X Y B rest a m b w ha hm hb hn hs hX hY hx0 hy0 hq ho
  by_cases hX1:X.length=1
  ·obtain⟨x,rfl⟩:=List.length_eq_one_iff.1 hX1
   exact Wt_ rb n c A x Y B rest a m b w ha hm hb hn hs hY ho
  by_cases hY1:Y.length=1
  ·obtain⟨y,rfl⟩:=List.length_eq_one_iff.1 hY1
   exact Vn_ rb n c A X y B rest a m b w ha hm hX1 hb hn hs hX ho
  have e1: (m:Int) - a=(X.length:Nat):=by omega
  have e2: (b:Int) - m=(Y.length:Nat):=by omega
  refine Rets.enterM Tryz.func176 rfl (rs:= []) Tryz.results176 Tryz.ntmps176 ho ?_
  refine kf ?_
  obtain⟨mid,hmd⟩: ∃q,q=(a+b) / 2:=⟨_,rfl⟩
  obtain⟨nn,hnn⟩: ∃q,q=mid+m:=⟨_,rfl⟩
  have e3: (mid:Int)+ (m:Int)=(nn:Nat):=by omega
  have e5: (nn:Int) - 1=((nn - 1:Nat):Int):=by omega
  have hl: (A++ (X++ (Y++B))).length=n:=by simp only[List.length_append];omega
  ((try with_reducible refine Cw.go [1000027] ?_);(try simp(disch:=(first|assumption|omega| (simp only[xg_,xe_,UInt64.reduceToNat];try omega))) only[↓Sx.S0,Sx.S1,Tryz.fx,z1_,Nat.reduceAdd,Nat.reducePow,Int.reducePow,Nat.reduceBEq, ↓reduceIte,UInt8.reduceToNat,UInt16.reduceToNat,UInt32.reduceToNat,UInt64.reduceToNat,Int.reduceToNat,e1,e2,←hmd,e3,e5]))
  refine Cw.cut (G:=BsG) 220 (fun g=> [(0,vsl rb 0 n c),(1,vi a),(2,vi m),(3,vi b),(4,qU_),(18,vi mid),(19,vi nn),(20,vi g.i),(21,vi g.j)]) (fun g=> [(rb,zD_ rest (A++ (X++ (Y++B))))]) (fun g=>g.i≤g.j∧g.j≤m∧nn≤b+g.i∧m+g.j≤nn∧a≤g.i∧(g.i=a∨nn=b+g.i)∧(g.j=m∨m+g.j=nn)) ?_ ?_
  ·by_cases hmid:mid<m
   ·have e4: (nn:Int) - (b:Int)=((nn - b:Nat):Int):=by omega
    first|with_reducible refine ks [] (And.intro @z1_ @e4) ?_|refine kp (And.intro @z1_ @e4) ?_
    exact CutM.mk ⟨nn - b,mid⟩ ⟨by show nn - b≤mid;omega,by show mid≤m;omega,by show nn≤b+ (nn - b);omega,by show m+mid≤nn;omega,by show a≤nn - b;omega, .inr (by show nn=b+ (nn - b);omega), .inr (by show m+mid=nn;omega)⟩ rfl rfl
   ·first|with_reducible refine ks [] @z1_ ?_|refine kp @z1_ ?_
    exact CutM.mk ⟨a,m⟩ ⟨by show a≤m;omega,by show m≤m;omega,by show nn≤b+a;omega,by show m+m≤nn;omega,by show a≤a;omega, .inl rfl, .inl rfl⟩ rfl rfl
  ·intro g j hg
   simp only[aaT_,aaJ_,pin,qY_,qX_,Nat.reduceAdd]
   obtain⟨s0,r0⟩:=g
   obtain⟨f1,f2,f3,f4,f5,f6,f7⟩:=hg
   dsimp only at f1 f2 f3 f4 f5 f6 f7 ⊢
   first|with_reducible refine ks [1000039,1000041] (And.intro @z1_ @e5) ?_|refine kp (And.intro @z1_ @e5) ?_
   refine Cw.loopG (G:=BsG) [149,150,151,152,153,154,155,156,157,23,158,159,160,161,162,163,164,165,166,167,168,169,170,171,172,173,20,174,21] (fun g=> [(20,vi g.i),(21,vi g.j)]) (fun g=> [(rb,zD_ rest (A++ (X++ (Y++B))))]) (fun g=>s0≤g.i∧g.i≤g.j∧g.j≤r0∧(g.i=s0∨jt_ ((A++ (X++ (Y++B))).getD (nn - g.i) rw0) ((A++ (X++ (Y++B))).getD (g.i - 1) rw0)=false)∧(g.j=r0∨jt_ ((A++ (X++ (Y++B))).getD (nn - 1 - g.j) rw0) ((A++ (X++ (Y++B))).getD g.j rw0)=true)) (fun g=>g.j - g.i) ⟨s0,r0⟩ rfl rfl ?_ ?_
   ·exact⟨Nat.le_refl _,f1,Nat.le_refl _, .inl rfl, .inl rfl⟩
   ·intro g j hg
    refine kv ?_
    obtain⟨i,j⟩:=g
    obtain⟨h1,h2,h3,h4,h5⟩:=hg
    dsimp only at h1 h2 h3 h4 h5 ⊢
    by_cases hij:i<j
    ·obtain⟨h,hh⟩: ∃q,q=(i+j) / 2:=⟨_,rfl⟩
     have e6: ((nn - 1:Nat):Int) - (h:Int)=((nn - 1 - h:Nat):Int):=by omega
     ((try with_reducible refine Cw.go [] ?_);(try simp(disch:=(first|assumption|omega| (simp only[xg_,xe_,UInt64.reduceToNat];try omega))) only[↓Sx.S0,Sx.S1,Tryz.fx,z1_,Nat.reduceAdd,Nat.reducePow,Int.reducePow,Nat.reduceBEq, ↓reduceIte,UInt8.reduceToNat,UInt16.reduceToNat,UInt32.reduceToNat,UInt64.reduceToNat,Int.reduceToNat,←hh]))
     refine Cw.regionS [rb] [0,1,2,3,4,5,7,8,9,6,10,11,12,13] [] (by kernel_rfl) (by kernel_rfl) (by kernel_rfl) ?_
     simp only[zg_, ↓zd_, ↓zb_, ↓zp_, ↓zq_,za_]
     refine kq (And.intro @z1_ @e6) ?_
     refine Ow.callFn2 (v:=vi (vT_ ((A++ (X++ (Y++B))).getD (nn - 1 - h) rw0) ((A++ (X++ (Y++B))).getD h rw0))) rfl rfl rfl rfl Tryz.call109 (fun w' hw'=>kd_ _ _ w') ?_
     refine kq @z1_ ?_
     cases hc:jt_ ((A++ (X++ (Y++B))).getD (nn - 1 - h) rw0) ((A++ (X++ (Y++B))).getD h rw0)
     ·first|with_reducible refine ks [] @z1_ ?_|refine kp @z1_ ?_
      refine Again.mk ⟨h+1,j⟩ (by show j - (h+1)<j - i;omega) ⟨by show s0≤h+1;omega,by show h+1≤j;omega,h3, .inr ?_,h5⟩ rfl rfl
      show jt_ ((A++ (X++ (Y++B))).getD (nn - (h+1)) rw0) ((A++ (X++ (Y++B))).getD (h+1 - 1) rw0)=false
      rw[show nn - (h+1)=nn - 1 - h by omega,Nat.add_sub_cancel];exact hc
     ·first|with_reducible refine ks [] @z1_ ?_|refine kp @z1_ ?_
      refine Again.mk ⟨i,h⟩ (by show h - i<j - i;omega) ⟨h1,by show i≤h;omega,by show h≤r0;omega,h4, .inr hc⟩ rfl rfl
    ·obtain rfl:i=j:=by omega
     obtain⟨ix,hix⟩: ∃q,q=i - a:=⟨_,rfl⟩
     obtain⟨jy,hjy⟩: ∃q,q=nn - i - m:=⟨_,rfl⟩
     have q1:jy=0∨X.length≤ix∨jt_ (Y.getD (jy - 1) rw0) (X.getD ix rw0)=true:=by
      by_cases c1:jy=0
      ·exact .inl c1
      by_cases c2:X.length≤ix
      ·exact .inr (.inl c2)
      rcases h5 with h5|h5
      ·omega
      ·rw[aki_ (h:=jy - 1) (by omega) (by omega),ajA_ (h:=ix) (by omega) (by omega)] at h5
       exact .inr (.inr h5)
     have q2:ix=0∨Y.length≤jy∨jt_ (Y.getD jy rw0) (X.getD (ix - 1) rw0)=false:=by
      by_cases c1:ix=0
      ·exact .inl c1
      by_cases c2:Y.length≤jy
      ·exact .inr (.inl c2)
      rcases h4 with h4|h4
      ·omega
      ·rw[aki_ (h:=jy) (by omega) (by omega),ajA_ (h:=ix - 1) (by omega) (by omega)] at h4
       exact .inr (.inr h4)
     have hmc:=fun x1 x2=>aiA_ (z:=rw0) (x1:=x1) (x2:=x2) hX hY (show ix≤X.length by omega) (show jy≤Y.length by omega) q1 q2
     have sX1:zC_ (X.take ix):=StP.Sorted.left (b:=X.drop ix) (by rw[List.take_append_drop];exact hX)
     have sX2:zC_ (X.drop ix):=StP.Sorted.right (a:=X.take ix) (by rw[List.take_append_drop];exact hX)
     have sY1:zC_ (Y.take jy):=StP.Sorted.left (b:=Y.drop jy) (by rw[List.take_append_drop];exact hY)
     have sY2:zC_ (Y.drop jy):=StP.Sorted.right (a:=Y.take jy) (by rw[List.take_append_drop];exact hY)
     have hrow:A++ (X++ (Y++B))=A++ (X.take ix++ (X.drop ix++ (Y.take jy++ (Y.drop jy++B)))):=by
      rw[←List.append_assoc (X.take ix),List.take_append_drop,←List.append_assoc (Y.take jy),List.take_append_drop]
     have lX1: (X.take ix).length=ix:=by rw[List.length_take];omega
     have lX2: (X.drop ix).length=m - i:=by rw[List.length_drop];omega
     have lY1: (Y.take jy).length=jy:=by rw[List.length_take];omega
     have lY2: (Y.drop jy).length=b - m - jy:=by rw[List.length_drop];omega
     have e7: (nn:Int) - (i:Int)=((m+jy:Nat):Int):=by omega
     first|with_reducible refine ks [] (And.intro @z1_ @e7) ?_|refine kp (And.intro @z1_ @e7) ?_
     rw[hrow]
     generalize X.take ix=X1 at*
     generalize X.drop ix=X2 at*
     generalize Y.take jy=Y1 at*
     generalize Y.drop jy=Y2 at*
     have em:mid=i+jy:=by omega
     refine Cw.cut (G:=Unit) 220 (fun g=> [(0,vsl rb 0 n c),(1,vi a),(2,vi m),(3,vi b),(4,qU_),(18,vi mid),(20,vi i),(24,vi (m+jy:Nat))]) (fun g=> [(rb,zD_ rest (A++ (X1++ (Y1++ (X2++ (Y2++B))))))]) (fun g=>True) ?_ ?_
     ·by_cases c1:i<m
      ·have d1:decide ((i:Int)< (m:Int))=true:=decide_eq_true (by omega)
       by_cases c2:0<jy
       ·have d2:decide ((m:Int)< ((m+jy:Nat):Int))=true:=decide_eq_true (by omega)
        first|with_reducible refine ks [] (And.intro @z1_ (And.intro @d1 (@d2))) ?_|refine kp (And.intro @z1_ (And.intro @d1 (@d2))) ?_
        refine Ow.callM rfl rfl Tryz.call204 (by simp[keys]) (fun w' hw'=>Kj_ rb n c (A++X1) X2 Y1 (Y2++B) rest qU_ i m (m+jy) w' (by omega) (by omega) (by rw[List.length_append];omega) (by omega) (by omega) (by rw[List.length_append];omega) hs (by rw[List.append_assoc];exact hw'.has _ _ List.mem_cons_self)) ?_
        refine ko @z1_ ?_
        exact CutM.mk () trivial (by simp only[List.append_assoc]) rfl
       ·have d2:decide ((m:Int)< ((m+jy:Nat):Int))=false:=decide_eq_false (by omega)
        first|with_reducible refine ks [] (And.intro @z1_ (And.intro @d1 (@d2))) ?_|refine kp (And.intro @z1_ (And.intro @d1 (@d2))) ?_
        obtain rfl:Y1= []:=List.eq_nil_of_length_eq_zero (by omega)
        exact CutM.mk () trivial (by simp only[List.nil_append]) rfl
      ·have d1:decide ((i:Int)< (m:Int))=false:=decide_eq_false (by omega)
       first|with_reducible refine ks [] (And.intro @z1_ @d1) ?_|refine kp (And.intro @z1_ @d1) ?_
       obtain rfl:X2= []:=List.eq_nil_of_length_eq_zero (by omega)
       exact CutM.mk () trivial (by simp only[List.nil_append]) rfl
     ·intro u ju hu
      simp only[aaT_,aaJ_,pin,qY_,qX_,Nat.reduceAdd]
      first|with_reducible refine ks [1000041,1000043] @z1_ ?_|refine kp @z1_ ?_
      refine Cw.cut (G:=(List RwL)) 220 (fun g=> [(0,vsl rb 0 n c),(3,vi b),(4,qU_),(18,vi mid),(24,vi (m+jy:Nat))]) (fun g=> [(rb,zD_ rest (A++ (g++ (X2++ (Y2++B)))))]) (fun g=>g.length=ix+jy∧zC_ g∧jV_ (X1++Y1) g) ?_ ?_
      ·by_cases c1:a<i
       ·have d1:decide ((a:Int)< (i:Int))=true:=decide_eq_true (by omega)
        by_cases c2:0<jy
        ·have d2:decide ((i:Int)< (mid:Int))=true:=decide_eq_true (by omega)
         first|with_reducible refine ks [] (And.intro @z1_ (And.intro @d1 (@d2))) ?_|refine kp (And.intro @z1_ (And.intro @d1 (@d2))) ?_
         refine Ow.callE rfl rfl Tryz.call176 (by simp[keys]) (fun w' hw'=>ih rb n c A X1 Y1 (X2++ (Y2++B)) rest a i mid w' ha (by omega) (by omega) (by simp only[List.length_append];omega) hs sX1 sY1 (by omega) (by omega) (by omega) (hw'.has _ _ List.mem_cons_self)) (fun v1 o1 hS1=> ?_)
         obtain⟨rfl,Z1,rfl,z1,z2,z3⟩:=hS1
         refine ko @z1_ ?_
         exact CutM.mk Z1 ⟨by omega,z2,z3⟩ rfl rfl
        ·have d2:decide ((i:Int)< (mid:Int))=false:=decide_eq_false (by omega)
         first|with_reducible refine ks [] (And.intro @z1_ (And.intro @d1 (@d2))) ?_|refine kp (And.intro @z1_ (And.intro @d1 (@d2))) ?_
         obtain rfl:Y1= []:=List.eq_nil_of_length_eq_zero (by omega)
         exact CutM.mk X1 ⟨by omega,sX1,by rw[List.append_nil];exact StP.St.refl _ _⟩ rfl rfl
       ·have d1:decide ((a:Int)< (i:Int))=false:=decide_eq_false (by omega)
        first|with_reducible refine ks [] (And.intro @z1_ @d1) ?_|refine kp (And.intro @z1_ @d1) ?_
        obtain rfl:X1= []:=List.eq_nil_of_length_eq_zero (by omega)
        exact CutM.mk Y1 ⟨by omega,sY1,StP.St.refl _ _⟩ (by simp only[List.nil_append]) rfl
      ·intro Z1 jZ1 hZ1
       simp only[aaT_,aaJ_,pin,qY_,qX_,Nat.reduceAdd]
       obtain⟨z1,z2,z3⟩:=hZ1
       by_cases c1:i<m
       ·have d1:decide ((mid:Int)< ((m+jy:Nat):Int))=true:=decide_eq_true (by omega)
        by_cases c2:m+jy<b
        ·have d2:decide (((m+jy:Nat):Int)< (b:Int))=true:=decide_eq_true (by omega)
         first|with_reducible refine ks [] (And.intro @z1_ (And.intro @d1 (@d2))) ?_|refine kp (And.intro @z1_ (And.intro @d1 (@d2))) ?_
         refine Ow.callE rfl rfl Tryz.call176 (by simp[keys]) (fun w' hw'=>ih rb n c (A++Z1) X2 Y2 B rest mid (m+jy) b w' (by rw[List.length_append];omega) (by omega) (by omega) hn hs sX2 sY2 (by omega) (by omega) (by omega) (by rw[List.append_assoc];exact hw'.has _ _ List.mem_cons_self)) (fun v2 o2 hS2=> ?_)
         obtain⟨rfl,Z2,rfl,y1,y2,y3⟩:=hS2
         obtain⟨r1,r2⟩:=hmc Z1 Z2 z2 z3 y2 y3
         refine ko @z1_ ?_
         refine⟨_,_,_,(ke @z1_),rfl,trivial, ?_⟩
         exact⟨rfl,Z1++Z2,by simp only[List.append_assoc],by rw[List.length_append];omega,r1,r2⟩
        ·have d2:decide (((m+jy:Nat):Int)< (b:Int))=false:=decide_eq_false (by omega)
         first|with_reducible refine ks [] (And.intro @z1_ (And.intro @d1 (@d2))) ?_|refine kp (And.intro @z1_ (And.intro @d1 (@d2))) ?_
         obtain rfl:Y2= []:=List.eq_nil_of_length_eq_zero (by omega)
         obtain⟨r1,r2⟩:=hmc Z1 X2 z2 z3 sX2 (by rw[List.append_nil];exact StP.St.refl _ _)
         refine⟨_,_,_,(ke @z1_),rfl,trivial, ?_⟩
         exact⟨rfl,Z1++X2,by simp only[List.append_assoc,List.nil_append],by rw[List.length_append];omega,r1,r2⟩
       ·have d1:decide ((mid:Int)< ((m+jy:Nat):Int))=false:=decide_eq_false (by omega)
        first|with_reducible refine ks [] (And.intro @z1_ @d1) ?_|refine kp (And.intro @z1_ @d1) ?_
        obtain rfl:X2= []:=List.eq_nil_of_length_eq_zero (by omega)
        obtain⟨r1,r2⟩:=hmc Z1 Y2 z2 z3 sY2 (StP.St.refl _ _)
        refine⟨_,_,_,(ke @z1_),rfl,trivial, ?_⟩
        exact⟨rfl,Z1++Y2,by simp only[List.append_assoc,List.nil_append],by rw[List.length_append];omega,r1,r2⟩
end Go.Proofs
end
section
open Go Go.Proofs Go.Sx Go.StP
namespace Go.Proofs
set_option maxRecDepth 10000
set_option maxHeartbeats 4000000
set_option linter.unusedSimpArgs false
def rws_Blks (k:Nat) (ls:List (List RwL)):Prop:= ∀x,x∈ls→x.length=k∧zC_ x
theorem rws_Blks.snoc {k:Nat} {ls:List (List RwL)} {x:List RwL} (h:rws_Blks k ls) (hx:x.length=k) (hs:zC_ x):rws_Blks k (ls++ [x]):=by
 intro y hy
 rcases List.mem_append.1 hy with hy|hy
 ·exact h y hy
 ·rw[List.mem_singleton] at hy;subst hy;exact⟨hx,hs⟩
structure rws_StG where
 k:Nat
 ls:List (List RwL)
 r:List RwL
structure rws_StH where
 l2:List (List RwL)
 ls:List (List RwL)
theorem Kk_ (rb n c:Nat) (d:List RwL) (rest:List Value) (w:World) (hn:n=d.length) (hs:n<1000000)
  (ho:w.heap[rb]? =some (zD_ rest d)):
  Rets Tryz.prog 150 #[vsl rb 0 n c,vi n,qU_] w (fun v D=> ∃o,D= [(rb,o)]∧v= .tuple #[]∧ ∃Z,o=zD_ rest Z∧Z.length=d.length∧zC_ Z∧jV_ d Z):=by
 refine Rets.enterM Tryz.func150 rfl (rs:= []) Tryz.results150 Tryz.ntmps150 ho ?_
 refine kf ?_
 first|with_reducible refine ks [1000006] @Nat.add_zero ?_|refine kp @Nat.add_zero ?_
 refine Cw.loopG (G:=rws_StG) [11,12,13,14,15,16,17,18,19,7,20,21,22,8] (fun g=> [(7,vi g.ls.flatten.length),(8,vi (g.ls.flatten.length+20:Nat))]) (fun g=> [(rb,zD_ rest (g.ls.flatten++g.r))]) (fun g=>rws_Blks 20 g.ls∧jV_ d (g.ls.flatten++g.r)∧g.ls.flatten.length+g.r.length=n) (fun g=>g.r.length) ⟨20,[],d⟩ rfl rfl ?_ ?_
 ·refine⟨fun x hx=> ?_,StP.St.refl _ _,by show 0+d.length=n;omega⟩
  exact absurd hx (by simp)
 ·intro g j hg
  refine kv ?_
  obtain⟨_,ls,r⟩:=g
  obtain⟨h1,h2,h3⟩:=hg
  dsimp only at h1 h2 h3 ⊢
  by_cases hb:ls.flatten.length+20≤n
  ·obtain⟨M,R,rfl,hM⟩:=aiz_ r (show 20≤r.length by omega)
   rw[List.length_append] at h3
   first|with_reducible refine ks [] @Nat.add_zero ?_|refine kp @Nat.add_zero ?_
   refine Ow.callE rfl rfl Tryz.call175 (by simp[keys]) (fun w' hw'=>kR_ rb n c ls.flatten M R rest ls.flatten.length (ls.flatten.length+20) w' rfl (by omega) (by omega) hs (hw'.has _ _ List.mem_cons_self)) (fun v1 o1 hS1=> ?_)
   obtain⟨rfl,M',rfl,l1,s1,t1⟩:=hS1
   refine ko @Nat.add_zero ?_
   have e1: (ls++ [M']).flatten=ls.flatten++M':=by simp
   refine Again.mk ⟨20,ls++ [M'],R⟩ (by show R.length< (M++R).length;rw[List.length_append];omega) ⟨h1.snoc (by omega) s1, ?_, ?_⟩ ?_ ?_
   ·show jV_ d ((ls++ [M']).flatten++R)
    rw[e1,List.append_assoc]
    exact h2.trans (StP.St.app (StP.St.refl _ _) (StP.St.app t1 (StP.St.refl _ _)))
   ·show(ls++ [M']).flatten.length+R.length=n
    rw[e1,List.length_append];omega
   ·rw[e1,List.append_assoc]
   ·dsimp only
    rw[e1,show(ls.flatten++M').length=ls.flatten.length+20 by rw[List.length_append];omega]
    rfl
  ·first|with_reducible refine ks [] @Nat.add_zero ?_|refine kp @Nat.add_zero ?_
   have e0:ls.flatten++r=ls.flatten++ (r++ []):=by rw[List.append_nil]
   rw[e0]
   first|with_reducible refine ks [1000007] @Nat.add_zero ?_|refine kp @Nat.add_zero ?_
   refine Ow.callE rfl rfl Tryz.call175 (by simp[keys]) (fun w' hw'=>kR_ rb n c ls.flatten r [] rest ls.flatten.length n w' rfl (by omega) (by simp) hs (hw'.has _ _ List.mem_cons_self)) (fun v1 o1 hS1=> ?_)
   obtain⟨rfl,r',rfl,l1,s1,t1⟩:=hS1
   rw[show r'++ []=r' from List.append_nil r']
   refine ko @Nat.add_zero ?_
   refine Cw.loopG (G:=rws_StG) [28,29,30,31,32,7,8,33,34,35,36,37,38,39,40,41,42,43,44,45,46,47,48,49,50,51,9,52,53,54,55,56,57,58,59,60,61,62,6] (fun g=> [(6,vi g.k)]) (fun g=> [(rb,zD_ rest (g.ls.flatten++g.r))]) (fun g=>0<g.k∧rws_Blks g.k g.ls∧zC_ g.r∧g.r.length<g.k∧jV_ d (g.ls.flatten++g.r)∧g.ls.flatten.length+g.r.length=n) (fun g=>n - g.k) ⟨20,ls,r'⟩ rfl rfl ?_ ?_
   ·exact⟨by show 0<20;omega,h1,s1,by show r'.length<20;omega,h2.trans (StP.St.app (StP.St.refl _ _) t1),by show ls.flatten.length+r'.length=n;omega⟩
   ·intro g j hg
    refine kv ?_
    clear h1 h2 h3 hb e0 l1 s1 t1
    obtain⟨k,ls,r⟩:=g
    obtain⟨h0,h1,h2,h3,h4,h5⟩:=hg
    dsimp only at h0 h1 h2 h3 h4 h5 ⊢
    by_cases hk:k<n
    ·have e1:2* (k:Int)=((2*k:Nat):Int):=by omega
     first|with_reducible refine ks [1000013] @e1 ?_|refine kp @e1 ?_
     refine Cw.loopG (G:=rws_StH) [33,34,35,36,37,38,39,40,41,42,43,44,7,45,46,47,48,8] (fun g=> [(7,vi g.l2.flatten.length),(8,vi (2*k+g.l2.flatten.length:Nat))]) (fun g=> [(rb,zD_ rest (g.l2.flatten++ (g.ls.flatten++r)))]) (fun g=>rws_Blks (2*k) g.l2∧rws_Blks k g.ls∧jV_ d (g.l2.flatten++ (g.ls.flatten++r))∧g.l2.flatten.length+ (g.ls.flatten.length+r.length)=n) (fun g=>g.ls.length) ⟨[],ls⟩ rfl rfl ?_ ?_
     ·refine⟨fun x hx=> ?_,h1,h4,by show 0+ (ls.flatten.length+r.length)=n;omega⟩
      exact absurd hx (by simp)
     ·clear h1 h4 h5
      intro g j hg
      refine kv ?_
      obtain⟨l2,ls⟩:=g
      obtain⟨g1,g2,g3,g4⟩:=hg
      dsimp only at g1 g2 g3 g4 ⊢
      by_cases hb:2*k+l2.flatten.length≤n
      ·have hls: ∃x y t,ls=x::y::t:=by
        cases ls with
        |nil=>rw[List.flatten_nil,List.length_nil] at g4;omega
        |cons x t=>
         have hx:=(g2 x List.mem_cons_self).1
         cases t with
         |nil=>rw[List.flatten_cons,List.flatten_nil,List.append_nil] at g4;omega
         |cons y t=>exact⟨x,y,t,rfl⟩
       obtain⟨x,y,t,rfl⟩:=hls
       have hx:=g2 x List.mem_cons_self
       have hy:=g2 y (by simp)
       have ht:rws_Blks k t:=fun u hu=>g2 u (by simp[hu])
       rw[List.flatten_cons,List.flatten_cons] at g3 g4
       simp only[List.length_append,List.append_assoc] at g3 g4
       have e2: (x::y::t).flatten++r=x++ (y++ (t.flatten++r)):=by simp
       rw[e2]
       have e3: (l2.flatten.length:Int)+ (k:Int)=((l2.flatten.length+k:Nat):Int):=by omega
       first|with_reducible refine ks [] @e3 ?_|refine kp @e3 ?_
       refine Ow.callE rfl rfl Tryz.call176 (by simp[keys]) (fun w' hw'=>vE_ (2*k) rb n c l2.flatten x y (t.flatten++r) rest l2.flatten.length (l2.flatten.length+k) (2*k+l2.flatten.length) w' rfl (by omega) (by omega) (by rw[List.length_append];omega) hs hx.2 hy.2 (by omega) (by omega) (by omega) (hw'.has _ _ List.mem_cons_self)) (fun v1 o1 hS1=> ?_)
       obtain⟨rfl,Z,rfl,z1,z2,z3⟩:=hS1
       have e4: ((2*k+l2.flatten.length:Nat):Int)+ ((2*k:Nat):Int)=((2*k+ (l2.flatten.length+2*k):Nat):Int):=by omega
       refine ko (And.intro @e1 @e4) ?_
       have e5: (l2++ [Z]).flatten=l2.flatten++Z:=by simp
       have e6: (l2.flatten++Z).length=2*k+l2.flatten.length:=by rw[List.length_append];omega
       refine Again.mk ⟨l2++ [Z],t⟩ (by show t.length< (x::y::t).length;simp only[List.length_cons];omega) ⟨g1.snoc (by omega) z2,ht, ?_, ?_⟩ ?_ ?_
       ·show jV_ d ((l2++ [Z]).flatten++ (t.flatten++r))
        rw[e5,List.append_assoc]
        refine g3.trans (StP.St.app (StP.St.refl _ _) ?_)
        rw[←List.append_assoc]
        exact StP.St.app z3 (StP.St.refl _ _)
       ·show(l2++ [Z]).flatten.length+ (t.flatten.length+r.length)=n
        rw[e5,e6];omega
       ·rw[e5,List.append_assoc]
       ·dsimp only
        rw[e5,e6,show l2.flatten.length+2*k=2*k+l2.flatten.length by omega]
        rfl
      ·have e7: (k:Int)*2=((2*k:Nat):Int):=by omega
       have e3: (l2.flatten.length:Int)+ (k:Int)=((l2.flatten.length+k:Nat):Int):=by omega
       have hls:ls= []∨ ∃x,ls= [x]:=by
        cases ls with
        |nil=>exact .inl rfl
        |cons x t=>
         have hx:=(g2 x List.mem_cons_self).1
         cases t with
         |nil=>exact .inr ⟨x,rfl⟩
         |cons y t=>
          have hy:=(g2 y (by simp)).1
          rw[List.flatten_cons,List.flatten_cons,List.length_append,List.length_append] at g4
          omega
       have fin: ∀r',(ls.flatten++r).length=r'.length→jV_ (ls.flatten++r) r'→jV_ d (l2.flatten++r')∧l2.flatten.length+r'.length=n:=by
        intro r' hl ht'
        rw[List.length_append] at hl
        exact⟨g3.trans (StP.St.app (StP.St.refl _ _) ht'),by omega⟩
       rcases hls with rfl| ⟨x,rfl⟩
       ·rw[List.flatten_nil,List.length_nil] at g4
        first|with_reducible refine ks [] @Nat.add_zero ?_|refine kp @Nat.add_zero ?_
        first|with_reducible refine ks [] (And.intro @e3 @e7) ?_|refine kp (And.intro @e3 @e7) ?_
        obtain⟨w1,w2⟩:=fin r rfl (StP.St.refl _ _)
        refine Again.mk ⟨2*k,l2,r⟩ (by show n - 2*k<n - k;omega) ⟨by show 0<2*k;omega,g1,h2,by show r.length<2*k;omega,w1,w2⟩ rfl rfl
       ·have hx:=g2 x List.mem_cons_self
        rw[List.flatten_cons,List.flatten_nil,List.append_nil] at g4 fin
        rw[List.flatten_cons,List.flatten_nil,List.append_nil]
        by_cases hr:r.length=0
        ·obtain rfl:r= []:=List.eq_nil_of_length_eq_zero hr
         first|with_reducible refine ks [] @Nat.add_zero ?_|refine kp @Nat.add_zero ?_
         first|with_reducible refine ks [] (And.intro @e3 @e7) ?_|refine kp (And.intro @e3 @e7) ?_
         obtain⟨w1,w2⟩:=fin x (by rw[List.append_nil]) (by rw[List.append_nil];exact StP.St.refl _ _)
         refine Again.mk ⟨2*k,l2,x⟩ (by show n - 2*k<n - k;omega) ⟨by show 0<2*k;omega,g1,hx.2,by show x.length<2*k;omega,w1,w2⟩ ?_ rfl
         rw[List.append_nil]
        ·have e8:x++r=x++ (r++ []):=by rw[List.append_nil]
         rw[e8]
         first|with_reducible refine ks [] @Nat.add_zero ?_|refine kp @Nat.add_zero ?_
         first|with_reducible refine ks [] (And.intro @e3 @e7) ?_|refine kp (And.intro @e3 @e7) ?_
         refine Ow.callE rfl rfl Tryz.call176 (by simp[keys]) (fun w' hw'=>vE_ (2*k) rb n c l2.flatten x r [] rest l2.flatten.length (l2.flatten.length+k) n w' rfl (by omega) (by omega) (by simp) hs hx.2 h2 (by omega) (by omega) (by omega) (hw'.has _ _ List.mem_cons_self)) (fun v1 o1 hS1=> ?_)
         obtain⟨rfl,Z,rfl,z1,z2,z3⟩:=hS1
         rw[show Z++ []=Z from List.append_nil Z]
         refine ko @e7 ?_
         obtain⟨w1,w2⟩:=fin Z (by rw[List.length_append];omega) z3
         refine Again.mk ⟨2*k,l2,Z⟩ (by show n - 2*k<n - k;omega) ⟨by show 0<2*k;omega,g1,z2,by show Z.length<2*k;omega,w1,w2⟩ rfl rfl
    ·first|with_reducible refine ks [] @Nat.add_zero ?_|refine kp @Nat.add_zero ?_
     have hZ:zC_ (ls.flatten++r):=by
      cases ls with
      |nil=>exact h2
      |cons x ls=>
       have hx:=h1 x List.mem_cons_self
       rw[List.flatten_cons,List.length_append] at h5
       obtain rfl:r= []:=List.eq_nil_of_length_eq_zero (by omega)
       cases ls with
       |nil=>simpa using hx.2
       |cons y ls=>
        have hy:=h1 y (by simp)
        rw[List.flatten_cons,List.length_append] at h5
        omega
     have hZl: (ls.flatten++r).length=d.length:=by rw[List.length_append];omega
     refine⟨_,_,_,(ke @Nat.add_zero),rfl,trivial, ?_⟩
     exact⟨rfl,_,rfl,hZl,hZ,h4⟩
end Go.Proofs
end
section
open Go Go.Proofs Go.Sx Go.StP
namespace Go.Proofs
set_option maxRecDepth 10000
set_option maxHeartbeats 4000000
set_option linter.unusedSimpArgs false
theorem Q7_ (w:World):Rets Tryz.prog 175 #[.slice none 0 0,vi 0,vi 0,qU_] w (fun v D=>v= .tuple #[]∧D= []):=by
 refine Rets.enterV Tryz.func175 rfl (rs:= []) Tryz.results175 Tryz.ntmps175 ?_
 refine kf ?_
 first|with_reducible refine ks [] @Nat.add_zero ?_|refine kp @Nat.add_zero ?_
 refine Cw.loopG (G:=Unit) [12,13,14,17,9,18,19,20,21,22,23,24,25,26,27,28,29,30,31,32,33,34,37,38,39,40,41,42,43,44,45,46,47,48,49,50,51,52,35,36,15,16,8] (fun g=> [(8,vi 1)]) (fun g=> []) (fun g=>True) (fun g=>0) () rfl rfl ?_ ?_
 ·trivial
 ·intro g j hg
  refine kv ?_
  first|with_reducible refine ks [] @Nat.add_zero ?_|refine kp @Nat.add_zero ?_
  refine⟨_,(ke @Nat.add_zero),trivial, ?_⟩
  rfl
theorem K9_ (w:World):Rets Tryz.prog 150 #[.slice none 0 0,vi 0,qU_] w (fun v D=>v= .tuple #[]∧D= []):=by
 refine Rets.enterV Tryz.func150 rfl (rs:= []) Tryz.results150 Tryz.ntmps150 ?_
 refine kf ?_
 first|with_reducible refine ks [] @Nat.add_zero ?_|refine kp @Nat.add_zero ?_
 refine Cw.loopG (G:=Unit) [11,12,13,14,15,16,17,18,19,7,20,21,22,8] (fun g=> [(7,vi 0),(8,vi 20)]) (fun g=> []) (fun g=>True) (fun g=>0) () rfl rfl ?_ ?_
 ·trivial
 ·intro g j hg
  refine kv ?_
  first|with_reducible refine ks [] @Nat.add_zero ?_|refine kp @Nat.add_zero ?_
  refine Ow.callFV rfl Tryz.call175 (fun w' hw'=>Q7_ w') ?_
  refine ko @Nat.add_zero ?_
  refine Cw.loopG (G:=Unit) [28,29,30,31,32,7,8,33,34,35,36,37,38,39,40,41,42,43,44,45,46,47,48,49,50,51,9,52,53,54,55,56,57,58,59,60,61,62,6] (fun g=> [(6,vi 20)]) (fun g=> []) (fun g=>True) (fun g=>0) () rfl rfl ?_ ?_
  ·trivial
  ·intro u ju hu
   refine kv ?_
   first|with_reducible refine ks [] @Nat.add_zero ?_|refine kp @Nat.add_zero ?_
   refine⟨_,(ke @Nat.add_zero),trivial, ?_⟩
   rfl
theorem QI_ (w:World):Rets Tryz.prog 108 #[.slice none 0 0,qU_] w (fun v D=>v= .tuple #[]∧D= []):=by
 refine Rets.enterV Tryz.func108 rfl (rs:= []) Tryz.results108 Tryz.ntmps108 ?_
 refine kf ?_
 first|with_reducible refine ks [] @akQ_ ?_|refine kp @akQ_ ?_
 refine Ow.callFV rfl Tryz.call150 (fun w' hw'=>K9_ w') ?_
 refine ko @Nat.add_zero ?_
 refine⟨_,(ke @Nat.add_zero),trivial, ?_⟩
 rfl
theorem kn_ (rb n c:Nat) (d:List RwL) (rest:List Value) (w:World) (hn:n=d.length) (hs:n<1000000) (ho:w.heap[rb]? =some (zD_ rest d)):
  Rets Tryz.prog 108 #[vsl rb 0 n c,qU_] w (fun v D=> ∃o,D= [(rb,o)]∧v= .tuple #[]∧ ∃Z,o=zD_ rest Z∧Z.length=d.length∧zC_ Z∧jV_ d Z):=by
 refine Rets.enterM Tryz.func108 rfl (rs:= []) Tryz.results108 Tryz.ntmps108 ho ?_
 refine kf ?_
 first|with_reducible refine ks [] @Nat.add_zero ?_|refine kp @Nat.add_zero ?_
 refine Ow.callE rfl rfl Tryz.call150 (by simp[keys]) (fun w' hw'=>Kk_ rb n c d rest w' hn hs (hw'.has _ _ List.mem_cons_self)) (fun v1 o1 hS1=> ?_)
 obtain⟨rfl,Z,rfl,z1,z2,z3⟩:=hS1
 refine ko @Nat.add_zero ?_
 refine⟨_,_,_,(ke @Nat.add_zero),rfl,trivial, ?_⟩
 exact⟨rfl,Z,rfl,z1,z2,z3⟩
def rws_SortOf (l Z:List RwL):Prop:=Z.length=l.length∧zC_ Z∧jV_ l Z
theorem rws_SortOf.eq {l Z Z':List RwL} (h:rws_SortOf l Z) (h':rws_SortOf l Z'):Z=Z':=StP.St.eq h.2.1 h'.2.1 (h.2.2.symm.trans h'.2.2)
end Go.Proofs
end
section
open Go Go.Proofs Go.Sx Go.StP
namespace Go.Proofs
set_option maxRecDepth 10000
set_option maxHeartbeats 1000000
set_option linter.unusedSimpArgs false
abbrev RwSl (w:World) (v:Value) (l:List RwL):Prop:=SlV 34 rwC rw0 w v l
def j6_ (r:RwL):Bool:= !(decide (r.place<0))&& !(decide (1099511627775<r.place))&& !(decide (r.spot<0))&& !(decide (1099511627775<r.spot))
def JZ_ (l:List RwL):Nat→Bool
 |0=>true
 |k+1=>JZ_ l k&& (decide (k=0) ||decide (cmpI (l.getD (k - 1) rw0).id (l.getD k rw0).id<0))&&j6_ (l.getD k rw0)
def XO_ (i:IdL):Nat:=(i.l.getD 0 0).toNat / 16
theorem alA_ (i:IdL):XO_ i<16:=by
 have:=(i.l.getD 0 0).toNat_lt
 unfold XO_;omega
def Q3_ (l:List RwL) (d:Nat):Nat:=l.countP fun r=>decide (XO_ r.id≤d)
def vg_ (l:List RwL):List Nat:=(List.range 16).map (Q3_ l)
def fanM (l:List RwL) (r:RwL) (g:Nat):List Nat:=(List.range 16).map fun j=>if j<g then Q3_ (l++ [r]) j else Q3_ l j
theorem J2_ (l:List RwL): (vg_ l).length=16:=by simp[vg_]
theorem J0_ (l:List RwL) (r:RwL) (g:Nat): (fanM l r g).length=16:=by simp[fanM]
theorem XE_ (l:List RwL) (r:RwL) (d:Nat):Q3_ (l++ [r]) d=Q3_ l d+if XO_ r.id≤d then 1 else 0:=by
 unfold Q3_
 rw[List.countP_append,List.countP_singleton]
 simp
theorem aqc_ (l:List RwL) (r:RwL):fanM l r (XO_ r.id)=vg_ l:=by
 unfold fanM vg_
 refine List.map_congr_left fun j _=> ?_
 split
 ·rename_i h;rw[XE_,if_neg (by omega),Nat.add_zero]
 ·rfl
theorem aoc_ (l:List RwL) (r:RwL):fanM l r 16=vg_ (l++ [r]):=by
 unfold fanM vg_
 refine List.map_congr_left fun j hj=> ?_
 rw[if_pos (List.mem_range.1 hj)]
theorem amP_ (l:List RwL) (r:RwL) {g:Nat} (hg:g<16): (fanM l r g).getD g 0=Q3_ l g:=by
 unfold fanM
 rw[List.getD_eq_getElem?_getD,List.getElem?_map,List.getElem?_range hg]
 simp
theorem amS_ (l:List RwL) (r:RwL) {g:Nat} (_hg:g<16) (hd:XO_ r.id≤g): (fanM l r g).set g (Q3_ l g+1)=fanM l r (g+1):=by
 apply List.ext_getElem
 ·simp[fanM]
 ·intro j h1 h2
  rw[List.length_set,J0_] at h1
  rw[List.getElem_set]
  have e1: (fanM l r g)[j]'(by rw[J0_];exact h1)=if j<g then Q3_ (l++ [r]) j else Q3_ l j:=by simp[fanM]
  have e2: (fanM l r (g+1))[j]'h2=if j<g+1 then Q3_ (l++ [r]) j else Q3_ l j:=by simp[fanM]
  rw[e1,e2]
  by_cases hj:g=j
  ·subst hj
   rw[if_pos rfl,if_pos (by omega),XE_,if_pos hd]
  ·rw[if_neg hj]
   by_cases hj2:j<g
   ·rw[if_pos hj2,if_pos (by omega)]
   ·rw[if_neg hj2,if_neg (by omega)]
theorem shr4 (x:UInt8): ((kH_ x 4).toNat:Int)=((x.toNat / 16:Nat):Int):=by
 have:=x.toNat_lt
 unfold kH_
 rw[UInt8.toNat_ofNat',Nat.mod_eq_of_lt (by omega)]
def ixO (s:List UInt8) (v1:Value) (F:List Nat):Obj:= .cells ([vs s,v1]++ (F.map fun(n:Nat)=>vi (n:Int))).toArray 178 (0,0)
set_option linter.defProp false
def agh_:=And.intro (@zi_) (@zh_)
theorem adx_ (i:IdL) (w:World):Rets Tryz.prog 118 #[.agg (a8 i.l)] w (fun v D=>v=vi (XO_ i:Nat)∧D= []):=by
 have hil:=i.h
 have h0: (0:Nat)<i.l.length:=by omega
 have hs:=shr4 (i.l.getD 0 0)
 refine Rets.enterV Tryz.func118 rfl (rs:= [.tmp 2]) Tryz.results118 Tryz.ntmps118 ?_
 refine kf ?_
 first|with_reducible refine ks [] @agh_ ?_|refine kp @agh_ ?_
 refine Ow.box rfl rfl fun b1 hb1 hw1=> ?_
 simp only[z8_,z3_,z4_,zc_,List.nil_append,List.cons_append]
 refine Ow.go rfl ?_
 simp(disch:=(first|assumption|omega| (simp only[xg_,xe_,UInt64.reduceToNat];try omega))) only[↓Sx.S0,Sx.S1,Tryz.fx,agh_,Nat.reduceAdd,Nat.reducePow,Int.reducePow,Nat.reduceBEq, ↓reduceIte,UInt8.reduceToNat,UInt16.reduceToNat,UInt32.reduceToNat,UInt64.reduceToNat,Int.reduceToNat]
 first|with_reducible refine ks [] @agh_ ?_|refine kp @agh_ ?_
 refine⟨_,(ke @agh_),⟨hw1,trivial⟩, ?_⟩
 exact congrArg vi hs
end Go.Proofs
end
namespace Go.Sx
open Go
section
variable {α:Type} {m:Nat} {enc:α→List Value} {z:α} {w:World} {v:Value} {l:List α}
theorem SlV.dropE (h:SlV m enc z w v l) {k:Nat} (hk:k≤l.length) (a:Bool): ∃v',jO_ (.sl (a,m)) v (some (some (k:Int))) none=some v'∧SlV m enc z w v' (l.drop k)∧(∀b,slB v'=some b→slB v=some b):=by
 obtain⟨b,off,c,arr,E,fz,hr,hc,hv⟩:=h
 have hl: (l.drop k).length=l.length - k:=by simp
 rcases hv with⟨rfl,rfl,rfl⟩ | ⟨rfl,hhas,hsz⟩
 ·obtain rfl:k=0:=by simpa using hk
  exact⟨.slice none 0 0,rfl,SlV.nil w,fun b hb=>hb⟩
 ·have hsl:jO_ (.sl (a,m)) (vsl b off l.length c) (some (some (k:Int))) none=some (vsl b (if c=k then off else off+k*m) (l.length - k) (c - k)):=by
   unfold jO_ vsl
   simp only[any_ _ _ _ (⟨by omega,by omega⟩: (0:Int)≤ (k:Int)∧(k:Int)≤ (l.length:Int)),Int.toNat_natCast]
   by_cases hck:c=k
   ·simp[hck]
   ·simp only[hck, ↓reduceIte,Option.map_some,j5_]
  refine⟨_,hsl, ?_,fun b' hb=>hb⟩
  have hkm:k*m+ (l.length - k)*m=l.length*m:=by rw[←Nat.add_mul];congr 1;omega
  by_cases hck:c=k
  ·have h0:l.length - k=0:=by omega
   rw[if_pos hck]
   refine⟨b,off,c - k,arr,E,fz,RowS.sl' hl.symm (fun h=>by omega) (fun i hi=>by omega),by omega, .inr ⟨by rw[hl],hhas,by rw[hl,h0];omega⟩⟩
  ·rw[if_neg hck]
   refine⟨b,off+k*m,c - k,arr,E,fz,RowS.sl' hl.symm (fun h=>hhas) ?_,by omega, .inr ⟨by rw[hl],hhas,by rw[hl];omega⟩⟩
   intro i hi j hj
   rw[hl] at hi
   rw[List.getD_eq_getElem?_getD,List.getElem?_drop,←List.getD_eq_getElem?_getD,←hr.get (k+i) (by omega) j hj]
   congr 1
   rw[Nat.add_mul];omega
end
section
variable {P:Program} {w0:World} {f:Fr} {L:ze_} {N:Fr→ze_→Prop} {ops:Array Oper} {rest:List Oper} {md:Md} {d:Option Tmp} {ty:TypeId} {ps:String} {af:Array Edge} {g:Option (Nat×Bool)}
theorem Ow.callFnX {x y:Operand} {b:Value} {ts:Array TypeId} {k:FuncId} {X Y:ze_} {S:Value→ze_→Prop} {md':Md} (hL:L=X++Y) (he:md.turn=some md')
  (hs:zn_ ops f ⟨d, .call ⟨.value x, #[y],ts⟩,ty,ps,af,g⟩=false)
  (hx:ev f x= .func (.func k) #[] #[]) (hy:ev f y=b)
  (hk: ∀a w,(callFunc k a).run P w= .ok (.enter k a) w)
  (hc: ∀w,Hp w0 L w→(∀p,p∈X→w.heap[p.1]? =some p.2)→(keys X).Nodup→Rets P k #[b] w (XS w X S))
  (hn: ∀v D,Came w0 L X D→S v D→Ow P w0 ops md' rest (qC_ f d v) (D++Y) N):
  Ow P w0 ops md (⟨d, .call ⟨.value x, #[y],ts⟩,ty,ps,af,g⟩::rest) f L N:=by
 subst hL
 have hnd: ∀w,Hp w0 (X++Y) w→(keys X).Nodup∧ ∀c,c∈keys Y→c∉keys X:=by
  intro w hw
  have:=hw.nodup
  rw[zk_,List.nodup_append] at this
  exact⟨this.1,fun c hc hx=>this.2.2 c hx c hc rfl⟩
 refine Ow.call (S:=fun B v D=>((∀c,c∈keys D→c∈keys X∨B≤c)∧(∀c,c∈keys X→c∈keys D)∧S v D)∧ ∃w,Hp w0 (X++Y) w∧w.heap.size=B) he hs hx hk (fun w hw=> ?_) ?_
 ·show Rets P k (#[]++ #[y].map (ev f)++ #[]) w _
  rw[show(#[]++ #[y].map (ev f)++ #[]:Array Value)= #[b] by simp[hy]]
  refine Calls.mono (hc w hw (fun p hp=>hw.has _ _ (List.mem_append_left _ hp)) (hnd w hw).1) ?_
  rintro e w' ⟨v,D,he,hp,hS⟩
  exact⟨v,D,he,hp,⟨hS.1.new,hS.1.all,hS.2⟩,w,hw,rfl⟩
 ·rintro B v D hab hB ⟨⟨h1,h2,h3⟩,w1,hw1,hwB⟩
  refine⟨D++Y, ?_,hn v D ⟨fun c hc=>(h1 c hc).imp id fun h=>⟨qu_ fun b hb=>by have:=hw1.lt hb;omega,by have:=hw1.size;omega⟩,h2⟩ h3⟩
  intro w w' hwb h k
  have ht:=h.trans k
  have hY: ∀c,c∈keys Y→c∉keys D:=by
   intro c hc hd
   rcases h1 c hd with hx|hx
   ·exact(hnd w h).2 c hc hx
   ·have:=h.lt (b:=c) (by rw[zk_];exact List.mem_append_right _ hc)
    omega
  have e1:X.filter (fun p=> !(keys D).contains p.1)= []:=by
   rw[List.filter_eq_nil_iff]
   intro p hp
   have:=h2 p.1 (List.mem_map.2 ⟨p,hp,rfl⟩)
   simpa using this
  have e2:Y.filter (fun p=> !(keys D).contains p.1)=Y:=jw_ hY
  rw[List.filter_append,e1,e2,List.nil_append] at ht
  refine ht.same (fun p=>by simp[or_comm]) ?_
  have:=ht.nodup
  rw[zk_] at this ⊢
  exact(List.perm_append_comm.nodup_iff).1 this
end
section
variable {P:Program} {w0:World} {f:Fr} {L:ze_} {K:x2_}
theorem Cw.world {c:Code} (h: ∀w,Hp w0 L w→Cw P w0 c f L K):Cw P w0 c f L K:=fun w hw=>h w hw w hw
theorem Gr.read {E:TypeId} {m n:Nat} {v:Value} {cs:List Value} (h:Gr L E m v n cs) {b:Nat} (hb:slB v=some b) {w:World} (hw:Hp w0 L w) {o:Obj} (ho:w.heap[b]? =some o):zA_ w0 L b=some o:=by
 obtain⟨a,ha⟩:=h.at_ hb
 rw[hw.has _ _ (zJ_ ha)] at ho
 rw[z6_ ha];exact ho
end
end Go.Sx
namespace Go.Sx
open Go
section
variable {α β:Type} [BEq α] [LawfulBEq α] (encK:α→Value) (encV:β→Value)
def fndG (k:α):List (α×β)→Nat→Option (Nat×β)
 | [],_=>none
 |p::r,i=>if k==p.1 then some (i,p.2) else fndG k r (i+1)
def updG (k:α) (v:β):List (α×β)→List (α×β)
 | []=> [(k,v)]
 |p::r=>if k==p.1 then(p.1,v)::r else p::updG k v r
def getG (k:α) (z:β) (m:List (α×β)):β:=match m.find? fun p=>k==p.1 with|some p=>p.2|none=>z
def Xl_ (p:α×β):Value×Value:=(encK p.1,encV p.2)
def MapG (o:Obj) (m:List (α×β)):Prop:= ∃es clock,o= .map es clock∧es.toList.map (fun e=>(e.key,e.val))=m.map (Xl_ encK encV)∧(es.toList.map (·.born)++ [clock]).Pairwise (· < ·)
structure KeyOk (P:Program) (kt:TypeId) (encK:α→Value):Prop where
 find: ∀ {β:Type} (encV:β→Value) (w:World) (k:α) (es:List MapEntry) (m:List (α×β)),es.map (fun e=>(e.key,e.val))=m.map (Xl_ encK encV)→(Instr.findKey kt (encK k) es).run P w= .ok ((fndG k m 0).map fun p=>(p.1,encV p.2)) w
 check: ∀ (w:World) (e:Bool) (k:α),(Instr.checkKey e 10000 kt (encK k)).run P w= .ok () w
 bits: ∀k,Instr.sameBits 10000 (encK k) (encK k)=true
variable {encK encV}
omit [LawfulBEq α] in
theorem abt_ {kd:TypeDesc} (hs: ∀a b,Instr.sameNow kd (encK a) (encK b)=some (a==b)) (k:α): ∀ (es:List MapEntry) (m:List (α×β)) (i:Nat),es.map (fun e=>(e.key,e.val))=m.map (Xl_ encK encV)→
  Instr.findNow kd (encK k) es i=some ((fndG k m i).map fun p=>(p.1,encV p.2))
 | [],[],i,_=>rfl
 | [],_::_,_,h=>by cases h
 |_::_,[],_,h=>by cases h
 |e::es,p::m,i,h=>by
  simp only[List.map_cons,List.cons.injEq,Xl_,Prod.mk.injEq] at h
  obtain⟨⟨h1,h2⟩,h3⟩:=h
  unfold Instr.findNow
  have hs:Instr.sameNow kd (encK k) e.key=some (k==p.1):=by rw[h1,hs]
  rw[hs]
  unfold fndG
  cases hk: (k==p.1)
  ·simp only[Bool.false_eq_true, ↓reduceIte]
   exact abt_ ‹_› k es m (i+1) h3
  ·simp[h2]
theorem KH_ (k:α): ∀ (m:List (α×β)) (i j:Nat) (v:β),fndG k m i=some (j,v)→i≤j∧ ∃a,m[j - i]? =some (k,a)∧a=v
 | [],_,_,_,h=>by cases h
 |p::r,i,j,v,h=>by
  unfold fndG at h
  split at h
  ·rename_i hk
   cases h
   refine⟨Nat.le_refl _,p.2, ?_,rfl⟩
   rw[Nat.sub_self,List.getElem?_cons_zero,eq_of_beq hk]
  ·obtain⟨h1,a,h2,h3⟩:=KH_ k r (i+1) j v h
   refine⟨by omega,a, ?_,h3⟩
   rw[show j - i=(j - (i+1))+1 by omega,List.getElem?_cons_succ];exact h2
theorem aax_ (k:α) (v:β): ∀ (es:List MapEntry) (m:List (α×β)) (i j:Nat) (a:β),es.map (fun e=>(e.key,e.val))=m.map (Xl_ encK encV)→fndG k m i=some (j,a)→
  (es.modify (j - i) fun e=>{e with key:=encK k,val:=encV v}).map (fun e=>(e.key,e.val))=(updG k v m).map (Xl_ encK encV)
 | [],[],_,_,_,_,h=>by cases h
 | [],_::_,_,_,_,h,_=>by cases h
 |_::_,[],_,_,_,h,_=>by cases h
 |e::es,p::m,i,j,a,h,hf=>by
  simp only[List.map_cons,List.cons.injEq,Xl_,Prod.mk.injEq] at h
  obtain⟨⟨h1,h2⟩,h3⟩:=h
  unfold fndG at hf
  unfold updG
  split at hf
  ·rename_i hk
   cases hf
   rw[if_pos hk,Nat.sub_self]
   simp only[List.modify_zero_cons,List.map_cons,Xl_,eq_of_beq hk]
   rw[h3]
  ·rename_i hk
   have hle:=(KH_ k m (i+1) j a hf).1
   rw[if_neg hk,show j - i=(j - (i+1))+1 by omega]
   simp only[List.modify_succ_cons,List.map_cons,Xl_]
   rw[aax_ k v es m (i+1) j a h3 hf,h1,h2]
omit [LawfulBEq α] in
theorem abL_ (k:α) (v:β): ∀ (m:List (α×β)) (i:Nat),fndG k m i=none→updG k v m=m++ [(k,v)]
 | [],_,_=>rfl
 |p::r,i,h=>by
  unfold fndG at h
  split at h
  ·cases h
  ·rename_i hk
   unfold updG
   rw[if_neg hk,abL_ k v r (i+1) h];rfl
omit [LawfulBEq α] in
theorem abu_ (k:α): ∀ (m:List (α×β)) (i:Nat),(fndG k m i).map Prod.snd=(m.find? fun p=>k==p.1).map Prod.snd
 | [],_=>rfl
 |p::r,i=>by
  unfold fndG
  rw[List.find?_cons]
  cases h: (k==p.1)
  ·simp only[Bool.false_eq_true, ↓reduceIte];exact abu_ k r (i+1)
  ·rfl
theorem anq_ {k:α} {m:List (α×β)} {es:List MapEntry} {j:Nat} {a:β} (h:es.map (fun e=>(e.key,e.val))=m.map (Xl_ encK encV)) (hf:fndG k m 0=some (j,a)): ∃e,es[j]? =some e∧e.key=encK k:=by
 obtain⟨-,a',h1,rfl⟩:=KH_ k m 0 j a hf
 rw[Nat.sub_zero] at h1
 have:=congrArg (·[j]?) h
 simp only[List.getElem?_map,h1,Option.map_some] at this
 cases he:es[j]? with
 |none=>rw[he] at this;cases this
 |some e=>
  rw[he] at this
  simp only[Option.map_some,Option.some.injEq,Xl_,Prod.mk.injEq] at this
  exact⟨e,rfl,this.1⟩
theorem KeyOk.int {P:Program} {kt:TypeId} {k0:IntKind} (hu:P.underlying kt=some (.int k0)):KeyOk P kt vi where
 find encV w k es m h:=by
  simp only[Instr.findKey,Sem.run_bind,run_underlying hu w,Result.andThen_ok]
  rw[abt_ (encK:=vi) (fun a b=>by simp[Instr.sameNow,vi]) k es m 0 h]
  rfl
 check w e k:=by
  unfold Instr.checkKey
  simp only[Sem.run_bind,run_underlying hu w,Result.andThen_ok]
  rfl
 bits k:=by simp[vi,Instr.sameBits]
variable {P:Program} {w0:World} {f:Fr} {L:ze_} {N:Fr→ze_→Prop} {ops:Array Oper} {rest:List Oper} {md:Md}
 {d:Option Tmp} {ty:TypeId} {ps:String} {af:Array Edge} {g:Option (Nat×Bool)}
omit [BEq α] [LawfulBEq α] in
theorem Ow.makeMapG {t:TypeId} {md':Md} (he:md.turn=some md') (hs:zn_ ops f ⟨d, .makeMap t none,ty,ps,af,g⟩=false)
  (hn: ∀b o,xB_ L b→w0.heap.size≤b→MapG encK encV o []→Ow P w0 ops md' rest (qC_ f d (vm b)) (L++ [(b,o)]) N):
  Ow P w0 ops md (⟨d, .makeMap t none,ty,ps,af,g⟩::rest) f L N:=by
 refine Ow.step he rfl hs fun w hw=> .inl ⟨vm w.heap.size,w.alloc (.map #[] 0),_, ?_,hw.alloc _,hn _ _ (qu_ fun b hb=>hw.lt hb) hw.size ⟨#[],0,rfl,rfl,List.pairwise_singleton _ _⟩⟩
 simp only[execOp,Instr.makeMap,Sem.run_bind,Option.map_none]
 rfl
theorem Ow.mapUpdateG {t kt vt:TypeId} {x y z:Operand} {b:Nat} {o:Obj} {m:List (α×β)} {k:α} {v:β} {md':Md} (he:md.turn=some md') (hs:zn_ ops f ⟨d, .mapUpdate t x y z,ty,ps,af,g⟩=false) (hu:P.underlying t=some (.map kt vt)) (hk:KeyOk P kt encK)
  (hx:ev f x=vm b) (hy:ev f y=encK k) (hz:ev f z=encV v) (hl:look L b=some o) (hm:MapG encK encV o m)
  (hn: ∀o',MapG encK encV o' (updG k v m)→Ow P w0 ops md' rest (qC_ f d undef) (setB L b o') N):
  Ow P w0 ops md (⟨d, .mapUpdate t x y z,ty,ps,af,g⟩::rest) f L N:=by
 obtain⟨es,c,rfl,hes,hbo⟩:=hm
 refine Ow.step he rfl hs fun w hw=> ?_
 have hb:=hw.has _ _ (zJ_ hl)
 have hfk:=hk.find encV w k es.toList m hes
 cases hf:fndG k m 0 with
 |none=>
  rw[hf] at hfk
  refine .inr (.inl ⟨{w with heap:=w.heap.setIfInBounds b (.map (es.push {key:=encK k,val:=encV v,born:=c}) (c+1))},_, ?_,hw.set (zx_ hl) rfl rfl rfl rfl,hn _ ⟨_,_,rfl, ?_,by rw[Array.toList_push];exact abO_ hbo rfl⟩⟩)
  ·have: (Instr.mapUpdate t (vm b) (encK k) (encV v)).run P w= .ok () {w with heap:=w.heap.setIfInBounds b (.map (es.push {key:=encK k,val:=encV v,born:=c}) (c+1))}:=by
    simp only[Instr.mapUpdate,vm,Sem.run_bind,run_underlying hu w,Result.andThen_ok,kj_ hb,hk.check,hfk,Option.map_none,Zr_ hb]
   simp only[execOp,Sem.run_bind,hx,hy,hz]
   rw[this];rfl
  ·rw[abL_ k v m 0 hf,Array.toList_push,List.map_append,hes,List.map_append];rfl
 |some p=>
  obtain⟨j,a⟩:=p
  rw[hf] at hfk
  obtain⟨e,hej,hek⟩:=anq_ hes hf
  have hej':es[j]? =some e:=by simpa using hej
  have hkt: (Instr.keyThatStays (((es[j]?).map (·.key)).getD (encK k)) (encK k)).run P w= .ok (encK k) w:=by
   rw[hej',Option.map_some,Option.getD_some,hek]
   unfold Instr.keyThatStays
   rw[if_pos (hk.bits k)];rfl
  refine .inr (.inl ⟨{w with heap:=w.heap.setIfInBounds b (.map (es.modify j fun e=>{e with key:=encK k,val:=encV v}) c)},_, ?_,hw.set (zx_ hl) rfl rfl rfl rfl,hn _ ⟨_,_,rfl, ?_,by rw[Array.toList_modify,KJ_ (g:=fun e=>{e with key:=encK k,val:=encV v}) fun _=>rfl];exact hbo⟩⟩)
  ·have: (Instr.mapUpdate t (vm b) (encK k) (encV v)).run P w= .ok () {w with heap:=w.heap.setIfInBounds b (.map (es.modify j fun e=>{e with key:=encK k,val:=encV v}) c)}:=by
    simp only[Instr.mapUpdate,vm,Sem.run_bind,run_underlying hu w,Result.andThen_ok,kj_ hb,hk.check,hfk,Option.map_some,hkt,Zr_ hb]
   simp only[execOp,Sem.run_bind,hx,hy,hz]
   rw[this];rfl
  ·rw[Array.toList_modify]
   have:=aax_ k v es.toList m 0 j a hes hf
   rw[Nat.sub_zero] at this
   exact this
omit [LawfulBEq α] in
theorem Ow.mapGetG {t kt vt:TypeId} {x y:Operand} {b:Nat} {o:Obj} {m:List (α×β)} {k:α} {z:β} {md':Md} (he:md.turn=some md') (hs:zn_ ops f ⟨d, .lookup t x y false,ty,ps,af,g⟩=false) (hu:P.underlying t=some (.map kt vt)) (hk:KeyOk P kt encK)
  (hz:zE_ P vt=some (encV z)) (hx:ev f x=vm b) (hy:ev f y=encK k) (hl:zA_ w0 L b=some o) (hm:MapG encK encV o m)
  (hn:Ow P w0 ops md' rest (qC_ f d (encV (getG k z m))) L N):
  Ow P w0 ops md (⟨d, .lookup t x y false,ty,ps,af,g⟩::rest) f L N:=by
 obtain⟨es,c,rfl,hes,-⟩:=hm
 refine Ow.step he rfl hs fun w hw=> ?_
 have hb:=hw.read hl
 have hfk:=hk.find encV w k es.toList m hes
 refine .inl ⟨encV (getG k z m),w,L, ?_,hw,hn⟩
 have hff:=abu_ k m 0
 have: (Instr.lookup t (vm b) (encK k) false).run P w= .ok (encV (getG k z m)) w:=by
  cases hf:fndG k m 0 with
  |none=>
   rw[hf] at hfk hff
   have hg:getG k z m=z:=by
    unfold getG
    cases h:m.find? fun p=>k==p.1 with
    |none=>rfl
    |some q=>rw[h] at hff;cases hff
   simp only[Instr.lookup,vm,Sem.run_bind,run_underlying hu w,Result.andThen_ok,kj_ hb,Sem.run_pure,hk.check,hfk,Option.map_none,xU_ hz w,hg,Bool.false_eq_true, ↓reduceIte]
  |some p=>
   obtain⟨j,a⟩:=p
   rw[hf] at hfk hff
   have hg:getG k z m=a:=by
    unfold getG
    cases h:m.find? fun p=>k==p.1 with
    |none=>rw[h] at hff;cases hff
    |some q=>rw[h] at hff;simp only[Option.map_some,Option.some.injEq] at hff;exact hff.symm
   simp only[Instr.lookup,vm,Sem.run_bind,run_underlying hu w,Result.andThen_ok,kj_ hb,Sem.run_pure,hk.check,hfk,Option.map_some,hg,Bool.false_eq_true, ↓reduceIte]
 simp only[execOp,Sem.run_bind,hx,hy]
 rw[this];rfl
end
section
variable {P:Program} {w0:World} {f:Fr} {L:ze_} {N:Fr→ze_→Prop} {ops:Array Oper} {rest:List Oper} {md:Md} {d:Option Tmp} {ty:TypeId} {ps:String} {af:Array Edge} {g:Option (Nat×Bool)}
theorem Ow.callFnXC {x y:Operand} {b:Value} {cap ars:Array Value} (ha: #[b]++cap=ars) {ts:Array TypeId} {k:FuncId} {X Y:ze_} {S:Value→ze_→Prop} {md':Md} (hL:L=X++Y) (he:md.turn=some md')
  (hs:zn_ ops f ⟨d, .call ⟨.value x, #[y],ts⟩,ty,ps,af,g⟩=false)
  (hx:ev f x= .func (.func k) #[] cap) (hy:ev f y=b)
  (hk: ∀a w,(callFunc k a).run P w= .ok (.enter k a) w)
  (hc: ∀w,Hp w0 L w→(∀p,p∈X→w.heap[p.1]? =some p.2)→(keys X).Nodup→Rets P k ars w (XS w X S))
  (hn: ∀v D,Came w0 L X D→S v D→Ow P w0 ops md' rest (qC_ f d v) (D++Y) N):
  Ow P w0 ops md (⟨d, .call ⟨.value x, #[y],ts⟩,ty,ps,af,g⟩::rest) f L N:=by
 subst hL
 have hnd: ∀w,Hp w0 (X++Y) w→(keys X).Nodup∧ ∀c,c∈keys Y→c∉keys X:=by
  intro w hw
  have:=hw.nodup
  rw[zk_,List.nodup_append] at this
  exact⟨this.1,fun c hc hx=>this.2.2 c hx c hc rfl⟩
 refine Ow.call (S:=fun B v D=>((∀c,c∈keys D→c∈keys X∨B≤c)∧(∀c,c∈keys X→c∈keys D)∧S v D)∧ ∃w,Hp w0 (X++Y) w∧w.heap.size=B) he hs hx hk (fun w hw=> ?_) ?_
 ·show Rets P k (#[]++ #[y].map (ev f)++cap) w _
  rw[show(#[]++ #[y].map (ev f)++cap:Array Value)=ars by rw[←ha];simp[hy]]
  refine Calls.mono (hc w hw (fun p hp=>hw.has _ _ (List.mem_append_left _ hp)) (hnd w hw).1) ?_
  rintro e w' ⟨v,D,he,hp,hS⟩
  exact⟨v,D,he,hp,⟨hS.1.new,hS.1.all,hS.2⟩,w,hw,rfl⟩
 ·rintro B v D hab hB ⟨⟨h1,h2,h3⟩,w1,hw1,hwB⟩
  refine⟨D++Y, ?_,hn v D ⟨fun c hc=>(h1 c hc).imp id fun h=>⟨qu_ fun b hb=>by have:=hw1.lt hb;omega,by have:=hw1.size;omega⟩,h2⟩ h3⟩
  intro w w' hwb h k
  have ht:=h.trans k
  have hY: ∀c,c∈keys Y→c∉keys D:=by
   intro c hc hd
   rcases h1 c hd with hx|hx
   ·exact(hnd w h).2 c hc hx
   ·have:=h.lt (b:=c) (by rw[zk_];exact List.mem_append_right _ hc)
    omega
  have e1:X.filter (fun p=> !(keys D).contains p.1)= []:=by
   rw[List.filter_eq_nil_iff]
   intro p hp
   have:=h2 p.1 (List.mem_map.2 ⟨p,hp,rfl⟩)
   simpa using this
  have e2:Y.filter (fun p=> !(keys D).contains p.1)=Y:=jw_ hY
  rw[List.filter_append,e1,e2,List.nil_append] at ht
  refine ht.same (fun p=>by simp[or_comm]) ?_
  have:=ht.nodup
  rw[zk_] at this ⊢
  exact(List.perm_append_comm.nodup_iff).1 this
end
end Go.Sx
namespace Go.Sx
open Go
section
variable {P:Program} {w0:World} {l:List Oper} {R ts:List Nat} {n:Nat} {listed:List Bool} {f:Fr} {L:ze_} {N:Fr→ze_→Prop}
def OwG (P:Program) (w0:World) (l:List Oper) (R ts:List Nat) (n:Nat) (listed:List Bool) (f:Fr) (L:ze_) (N:Fr→ze_→Prop):Prop:=
 ∀w,Hp w0 L w→x7_ P l.toArray (jZ_ w0 N) ts (SR w0 R L) n listed.toArray (act f) w
theorem Cw.regionG {id:Nat} {K:x2_} (R ts:List Nat) (m:Nat) (hl:l.length=m) (hm:P.follows .mixedOrders=true) (h:OwG P w0 l R ts m (List.replicate m false) f L (K .normal)):Cw P w0 (.region id l.toArray true) f L K:=by
 intro w hw
 subst hl
 refine wp_mono (wp_region_any hm ?_) fun _ _ _ h=>xy_ h
 have:=vr_ _ _ _ _ (h _ hw.drew)
 simpa using this
def chkG (P:Program) (l:List Oper) (ts:List Nat):List Nat→List Bool→Option (List Bool)
 | [],listed=>some listed
 |k::is,listed=>
  match vj_ l k with
  |some o=>if !ts.contains k&& (ts.all fun t=> !listed.toArray.getD t true)&& (Region.ready .any l.toArray listed.toArray).contains k&&Region.free .any l.toArray listed.toArray k&&
    (xC_ P o.op|| (K3_ o.op&&J8_ l.toArray ts listed.toArray k)) then chkG P l ts is (listed.set k true) else none
  |none=>none
theorem OwG.step {k:Nat} {o:Oper} {v:Value} (hns:Region.noSelect l.toArray=true) (hk:vj_ l k=some o) {rest:List Bool} (hc:chkG P l ts [k] listed=some rest)
  (hY:YieldsC P l.toArray (SR w0 R L) (xC_ P o.op=true) o v (act f)) (h:OwG P w0 l R ts n rest (qC_ f o.dst v) L N):OwG P w0 l R ts (n+1) listed f L N:=by
 have hoi:l.toArray[k]? =some o:=by rw[xG_] at hk;simpa using hk
 unfold chkG at hc
 rw[hk] at hc
 simp only at hc
 split at hc
 ·rename_i hcc
  simp only[chkG,Option.some.injEq] at hc
  subst hc
  simp only[Bool.and_eq_true,Bool.or_eq_true,Bool.not_eq_true',List.all_eq_true,List.contains_eq_mem,decide_eq_true_eq,decide_eq_false_iff_not] at hcc
  obtain⟨⟨⟨⟨c2,c3⟩,c4⟩,c5⟩,c9⟩:=hcc
  have hsel:=Region.noSelect_spec hns
  intro w hw
  refine vM_ hoi c2 hsel (fun c a w h=>zZ_ h) _ _ _ _ (x8_ (P:=P) hoi c4 c5 (c9.imp id fun h=>⟨h.1,h.2,fun t ht=>c3 t ht⟩)) (.inr fun t ht=>c3 t ht) hY ?_
  rw[qd_,qm_]
  exact h w hw
 ·cases hc
theorem akT_ {k:Nat} {is:List Nat} {listed listed':List Bool} (h:chkG P l ts (k::is) listed=some listed'):chkG P l ts [k] listed=some (listed.set k true)∧chkG P l ts is (listed.set k true)=some listed':=by
 rw[chkG] at h
 cases ho:vj_ l k with
 |none=>rw[ho] at h;cases h
 |some o=>
  rw[ho] at h
  simp only at h
  split at h
  ·rename_i hcc
   refine⟨?_,h⟩
   rw[chkG,ho]
   simp only
   rw[if_pos hcc];rfl
  ·cases h
theorem OwG.runs {k:Md→List Oper→Fr→ze_→Prop} (hns:Region.noSelect l.toArray=true): ∀ (is:List Nat) {listed listed':List Bool} {f:Fr} {L:ze_},chkG P l ts is listed=some listed'→
  (∀md r f' L',k md r f' L'→r= []∧OwG P w0 l R ts n listed' f' L' N)→vcL P w0 l.toArray false (.sof R [] []) (x0_ l is) f L k→OwG P w0 l R ts (is.length+n) listed f L N
 | [],listed,listed',f,L,hc,hk,h=>by
  cases hc
  rw[List.length_nil,Nat.zero_add]
  exact(hk _ _ _ _ h).2
 |i::is,listed,listed',f,L,hc,hk,h=>by
  obtain⟨hc1,hc2⟩:=akT_ hc
  rw[zb_] at h
  cases ho:vj_ l i with
  |none=>unfold chkG at hc1;rw[ho] at hc1;cases hc1
  |some o=>
   rw[ho,za_] at h
   unfold vcL at h
   rw[List.length_cons,show is.length+1+n=(is.length+n)+1 by omega]
   cases hs:zn_ l.toArray f o with
   |true=>
    rw[hs] at h
    have hw0:Region.wanted o (yielded l.toArray (act f).tmps)=false:=by rw[qq_,hs];rfl
    exact OwG.step hns ho hc1 (v:=undef) (.inr ⟨hw0,rfl⟩) (OwG.runs hns is hc2 hk h)
   |false=>
    rw[hs] at h
    have hw0:Region.wanted o (yielded l.toArray (act f).tmps)=true:=by rw[qq_,hs];rfl
    simp only[ib,vcB] at h
    split at h
    ·cases hrd:WI_ (.sof R [] []) f o.op with
     |false=>rw[hrd] at h;exact absurd (hk _ _ _ _ h).1 (by simp)
     |true=>
      rw[hrd] at h
      simp only at h
      cases hv:k5_ P w0 L f o.op with
      |none=>rw[hv] at h;exact absurd (hk _ _ _ _ h).1 (by simp)
      |some v=>
       rw[hv] at h
       refine OwG.step hns ho hc1 (v:=v) (.inl ⟨hw0,fun w hw=> ?_⟩) (OwG.runs hns is hc2 hk h)
       rw[j2_]
       rcases hw with hp|hw
       ·exact jj_ (Hp.refl w) (kl_ hp hv w)
       ·exact jj_ (Hp.refl w) (Z0_ hrd hv hw)
    ·exact absurd (hk _ _ _ _ h).1 (by simp)
    ·exact absurd (hk _ _ _ _ h).1 (by simp)
theorem OwG.run (is:List Nat) (listed':List Bool) (n:Nat) {m:Nat} (hm:m=is.length+n) (hns:Region.noSelect l.toArray=true) (hc:chkG P l ts is listed=some listed')
  (h: ∀k:Md→List Oper→Fr→ze_→Prop,(∀md f L,OwG P w0 l R ts n listed' f L N→k md [] f L)→nl (x0_ l is) fun l'=>vcL P w0 l.toArray false (.sof R [] []) l' f L k):OwG P w0 l R ts m listed f L N:=by
 subst hm
 refine OwG.runs (k:=fun _ r f' L'=>r= []∧OwG P w0 l R ts n listed' f' L' N) hns is hc (fun _ _ _ _ h=>h) ?_
 exact h _ fun _ _ _ h=>⟨rfl,h⟩
def afE_ (l:List Oper) (ts:List Nat) (ks:List Nat) (listed:List Bool):Bool:=
 ((Region.ready .any l.toArray listed.toArray).all fun i=>ks.contains i)&& (Region.ready .any l.toArray listed.toArray != [])&&ks.all fun k=> !ts.contains k
theorem OwG.softs (ks:List Nat) (hs:afE_ l ts ks listed=true)
  (h: ∀k,k∈ks→ ∀o,vj_ l k=some o→Ow P w0 l.toArray .seq [o] f L (fun f' L'=>(∀r,r∈R→zA_ w0 L' r=zA_ w0 L r)∧OwG P w0 l R ts n (listed.set k true) f' L' N)):
  OwG P w0 l R ts (n+1) listed f L N:=by
 unfold afE_ at hs
 simp only[Bool.and_eq_true,List.all_eq_true,bne_iff_ne,ne_eq,List.contains_eq_mem,decide_eq_true_eq,Bool.not_eq_true',decide_eq_false_iff_not] at hs
 obtain⟨⟨c3,c4⟩,c6⟩:=hs
 intro w hw
 refine⟨fun _=>SR.of hw,fun hr=>absurd hr c4,fun i hi=> ?_⟩
 have hik:=c3 i hi
 obtain⟨-,oi,hoi,-⟩:=mem_ready.1 hi
 have hni:vj_ l i=some oi:=by rw[xG_];simpa using hoi
 refine ZO_ hoi (X:=x7_ P l.toArray (jZ_ w0 N) ts (SR w0 R L) n (listed.toArray.setIfInBounds i true)) ?_ hw
 intro w' hw'
 have h1:=h i hik oi hni w' hw'
 refine kV_ ?_ h1
 rintro f' L' ⟨hS,hO⟩ w'' hw''
 rw[Zc_ hS,qm_]
 exact hO w'' hw''
theorem OwG.one (i:Nat) (oi:Oper) (hs:afE_ l ts [i] listed=true) (hi:vj_ l i=some oi)
  (h:Ow P w0 l.toArray .seq [oi] f L (fun f' L'=>(∀r,r∈R→zA_ w0 L' r=zA_ w0 L r)∧OwG P w0 l R ts n (listed.set i true) f' L' N)):OwG P w0 l R ts (n+1) listed f L N:=
 OwG.softs [i] hs fun k hk o ho=>by
  rw[List.mem_singleton] at hk
  subst hk
  rw[hi] at ho
  cases ho
  exact h
theorem OwG.two (i j:Nat) (oi oj:Oper) (hs:afE_ l ts [i,j] listed=true) (hi:vj_ l i=some oi) (hj:vj_ l j=some oj)
  (h1:Ow P w0 l.toArray .seq [oi] f L (fun f' L'=>(∀r,r∈R→zA_ w0 L' r=zA_ w0 L r)∧OwG P w0 l R ts n (listed.set i true) f' L' N))
  (h2:Ow P w0 l.toArray .seq [oj] f L (fun f' L'=>(∀r,r∈R→zA_ w0 L' r=zA_ w0 L r)∧OwG P w0 l R ts n (listed.set j true) f' L' N)):OwG P w0 l R ts (n+1) listed f L N:=
 OwG.softs [i,j] hs fun k hk o ho=>by
  simp only[List.mem_cons,List.not_mem_nil,or_false] at hk
  rcases hk with rfl|rfl
  ·rw[hi] at ho;cases ho;exact h1
  ·rw[hj] at ho;cases ho;exact h2
theorem OwG.permL {M:ze_} (hp:M.Perm L) (hR: ∀r,r∈R→zA_ w0 M r=zA_ w0 L r) (h:OwG P w0 l R ts n listed f M N):OwG P w0 l R ts n listed f L N:=by
 intro w hw
 rw[Zc_ hR]
 exact h w (hw.perm hp)
def aqr_ (P:Program) (l:List Oper) (is ts:List Nat) (listed:List Bool):Bool:=
 Region.noSelect l.toArray&&JC_ P l.toArray ts is listed.toArray&&ts.all fun t=> !listed.toArray.getD t true
theorem OwG.rest (is:List Nat) {m:Nat} (hm:m=is.length) (hB:aqr_ P l is ts listed=true) (hl:is.map (fun i:Nat=>l[i]?)=(x0_ l is).map some)
  (h:nl (x0_ l is) fun l'=>Ow P w0 l.toArray (.sof R is ts) l' f L N):OwG P w0 l R ts m listed f L N:=by
 subst hm
 revert hl h
 generalize x0_ l is=l'
 intro hl h w hw
 simp only[aqr_,Bool.and_eq_true,List.all_eq_true,Bool.not_eq_true'] at hB
 obtain⟨⟨h1,h4⟩,h5⟩:=hB
 have hlen:is.length=l'.length:=by have:=congrArg List.length hl;simpa using this
 have hF:Fits P l.toArray ts is l' listed.toArray:=⟨hlen,fun j=>by
  have:=congrArg (·[j]?) hl
  simp only[List.getElem?_map] at this
  cases hj:is[j]? with
  |none=>
   rw[hj] at this
   simp only[Option.map_none] at this
   cases hj':l'[j]? with
   |none=>rfl
   |some x=>rw[hj'] at this;cases this
  |some i=>
   rw[hj] at this
   simp only[Option.map_some] at this
   cases hj':l'[j]? with
   |none=>rw[hj'] at this;cases this
   |some x=>
    rw[hj'] at this
    simp only[Option.map_some,Option.some.injEq] at this
    simp[this],h1,h4⟩
 rw[hlen]
 exact(h:Ow P w0 l.toArray (.sof R is ts) l' f L N) listed.toArray hF (fun t ht=>h5 t ht) w hw
end
def CutO {G:Type} (M:List Nat) (S:G→List (Nat×Value)) (H:G→ze_) (J:G→Prop) (f f':Fr) (L':ze_):Prop:=
 ∃g,J g∧L'=H g∧f'=pin (qS_ (Zt_ f') M 0 f) (S g)
theorem CutO.mk {G:Type} {M:List Nat} {S:G→List (Nat×Value)} {H:G→ze_} {J:G→Prop} {f f':Fr} {L':ze_} (g:G) (hJ:J g) (hL:L'=H g) (hf:f'=pin (qS_ (Zt_ f') M 0 f) (S g)):CutO M S H J f f' L':=⟨g,hJ,hL,hf⟩
theorem Cw.cutO {P:Program} {w0:World} {x y:Code} {f:Fr} {L:ze_} {K:x2_} {G:Type} (M:List Nat) (S:G→List (Nat×Value)) (H:G→ze_) (J:G→Prop) (h1:Cw P w0 x f L (wq_ (CutO M S H J f) K))
  (h2: ∀ (g:G) (j:Nat→Value),J g→Cw P w0 y (pin (qS_ j M 0 f) (S g)) (H g) K):Cw P w0 (.seq x y) f L K:=by
 refine Cw.seq (h1.mono fun e f' L' k=> ?_)
 cases e with
 |normal=>
  obtain⟨g,hJ,rfl,hf⟩:=k
  have:=h2 g (Zt_ f') hJ
  rw[←hf] at this
  exact this
 |_=>exact k
end Go.Sx
section
open Go Go.Proofs Go.Sx Go.StP
namespace Go.Proofs
set_option maxRecDepth 10000
set_option maxHeartbeats 1000000
set_option linter.unusedSimpArgs false
theorem ala_ (s:List UInt8) (v1:Value) (F:List Nat) (n d:Nat) (hd:d<F.length):zs_ (some (false,n)) (some (ixO s v1 F)) (2+d)=some (vi ((F.getD d 0:Nat):Int)):=by
 unfold ixO zs_
 simp only[List.getElem?_toArray]
 rw[List.getElem?_append_right (by simp),show 2+d - [vs s,v1].length=d from by simp,List.getElem?_map,List.getElem?_eq_getElem hd,List.getD_eq_getElem?_getD,List.getElem?_eq_getElem hd]
 rfl
theorem aiZ_ (s:List UInt8) (v1:Value) (F:List Nat) (d x:Nat) (a:Bool) (hd:d<F.length):zl_ (some (a,1)) (some (ixO s v1 F)) (2+d) (vi (x:Int))=some (ixO s v1 (F.set d x)):=by
 have e1: ([vs s,v1]++ (F.map fun(n:Nat)=>vi (n:Int)))=([vs s,v1]++ (F.take d).map (fun(n:Nat)=>vi (n:Int)))++ ([vi ((F.getD d 0:Nat):Int)]++ (F.drop (d+1)).map (fun(n:Nat)=>vi (n:Int))):=by
  have hF:F=F.take d++ (F.getD d 0::F.drop (d+1)):=by rw[←jA_ (z:=0) hd,List.take_append_drop]
  conv=>lhs;rw[hF]
  simp
 have e2: ([vs s,v1]++ ((F.set d x).map fun(n:Nat)=>vi (n:Int)))=([vs s,v1]++ (F.take d).map (fun(n:Nat)=>vi (n:Int)))++ ([vi (x:Int)]++ (F.drop (d+1)).map (fun(n:Nat)=>vi (n:Int))):=by
  rw[List.set_eq_take_append_cons_drop,if_pos hd]
  simp
 unfold ixO
 rw[e1,e2]
 exact zS_ _ [vi ((F.getD d 0:Nat):Int)] [vi (x:Int)] _ a _ 178 (by simp;omega) rfl rfl rfl rfl
theorem zrIx:zE_ Tryz.prog 178=some (.agg ([vs [], .slice none 0 0]++ (List.replicate 16 0).map fun(n:Nat)=>vi (n:Int)).toArray):=id (by kernel_rfl)
theorem arN_:x3_ Tryz.prog 178=some [(0,1),(1,1),(2,16)]:=id (by kernel_rfl)
theorem amH_ {w:World} {v1:Value} {l:List RwL} (s:List UInt8) (hv:RwSl w v1 l):qp_ (x3_ Tryz.prog 178) (zE_ Tryz.prog 178) [(0,vs s),(1,v1)]=some (.agg ([vs s,v1]++ (vg_ []).map fun(n:Nat)=>vi (n:Int)).toArray):=by
 rw[arN_,zrIx]
 obtain⟨b,off,c,arr,E,fz,hr,hc,⟨rfl,rfl,rfl⟩ | ⟨rfl,hb,hsz⟩⟩:=hv<;>rfl
theorem arm_ (s:List UInt8) (v1:Value) (F:List Nat):Obj.cells (Value.cells (.agg ([vs s,v1]++F.map fun(n:Nat)=>vi (n:Int)).toArray)) 178 (0,0)=ixO s v1 F:=(rfl)
theorem abp_ {l:List RwL} {k:Nat}: ∀ {n:Nat},k<n→JZ_ l n=true→JZ_ l (k+1)=true
 |0,h,_=>by omega
 |n+1,h,h'=>by
  by_cases hk:k=n
  ·subst hk;exact h'
  ·refine abp_ (n:=n) (by omega) ?_
   unfold JZ_ at h'
   simp only[Bool.and_eq_true] at h'
   exact h'.1.1
def OfIS (s:List UInt8) (v1:Value) (l:List RwL) (v:Value) (D:ze_):Prop:=
 if JZ_ l l.length=true then∃b,v= .tuple #[vp b 0, .bool (decide (s.length=4)&&decide (l.length≤200))]∧(b,ixO s v1 (vg_ l))∈D else v= .tuple #[.pointer none, .bool false]
structure OfG where
 k:Nat
 DG:ze_
set_option linter.defProp false
def zP_:=And.intro (And.intro (And.intro (@zi_) (@zh_)) (And.intro (@z7_) (And.intro (@vb_) (@Zg_)))) (And.intro (And.intro (@Qj_) (@Qp_)) (And.intro (@jY_) (And.intro (@Sx.tup2_0) (@Sx.tup2_1))))
theorem afu_ (s:List UInt8) (v1:Value) (l:List RwL) (w:World) (hv:RwSl w v1 l) (hl:l.length<1000000):
  Rets Tryz.prog 110 #[vs s,v1] w (XS w [] (OfIS s v1 l)):=by
 obtain⟨bb,off,arr,E,fz,hr⟩:=hv.row
 have ln:=hv.len
 refine Rets.enterX Tryz.func110 rfl (rs:= [.tmp 4, .tmp 5]) Tryz.results110 Tryz.ntmps110 (fun p hp=>by cases hp) (by simp[keys]) ?_
 refine kf ?_
 first|with_reducible refine ks [] @zP_ ?_|refine kp @zP_ ?_
 refine Ow.build _ rfl (amH_ s hv) ?_
 refine ko @zP_ ?_
 refine Ow.box rfl rfl fun b6 hb6 hw6=> ?_
 simp only[z8_,z3_,z4_,arm_,List.nil_append]
 refine Ow.permL (M:= [(b6,ixO s v1 (vg_ []))]) (List.Perm.refl _) ?_
 refine ko @zP_ ?_
 first|with_reducible refine ks [] (And.intro @zP_ @ln) ?_|refine kp (And.intro @zP_ @ln) ?_
 rw[show vg_ []=vg_ (l.take 0) from rfl]
 refine Cw.loopG (G:=OfG) [17,18,19,20,8,7,21,22,23,24,25,26,27,28,29,30,31,32,33,34,35,36,37,38,39,40,41,42,43,44,45,46,47,48,49,50,51,52,4,5,53,54,55,9,56,57,60,61,62,63,64,65,66,67,68,69,58,59,70,16] (fun g=> [(16,vi g.k)]) (fun g=>(b6,ixO s v1 (vg_ (l.take g.k)))::g.DG) (fun g=>g.k≤l.length∧JZ_ l g.k=true∧New w.heap.size g.DG) (fun g=>l.length - g.k) ⟨0,[]⟩ rfl rfl ?_ ?_
 ·exact⟨Nat.zero_le _,rfl,trivial⟩
 intro g j hg
 refine kv ?_
 obtain⟨k,DG⟩:=g
 simp only at hg ⊢
 obtain⟨hk,hok,hNG⟩:=hg
 by_cases hlt:k<l.length
 ·have d1:decide ((k:Int)< (l.length:Int))=true:=decide_eq_true (by omega)
  have hbl:=hr.lt (by omega)
  have hNr:New w.heap.size ((b6,ixO s v1 (vg_ (l.take k)))::DG):=⟨hw6,hNG⟩
  have rd:zA_ w ((b6,ixO s v1 (vg_ (l.take k)))::DG) bb=some (.cells arr E fz):=by rw[jh_ (hNr.not hbl)];exact hr.has (by omega)
  have ix:=hr.idx true k hlt
  have ld:=hr.load zw_ (by omega) hlt
  first|with_reducible refine ks [11,1000005] (And.intro @zP_ (And.intro @d1 (And.intro @rd (And.intro @ix (@ld))))) ?_|refine kp (And.intro @zP_ (And.intro @d1 (And.intro @rd (And.intro @ix (@ld))))) ?_
  refine Ow.alloc rfl rfl zrRw fun b8 hb8 hw8=> ?_
  simp only[zc_,List.nil_append,List.cons_append]
  have h68:b6<b8:=zf_ hb8 (by simp[keys])
  refine Ow.permL (M:=(b8, .cells (rwC rw0).toArray 104 (0,0)):: (b6,ixO s v1 (vg_ (l.take k)))::DG) (by classical exact List.perm_iff_count.2 fun a=>by simp only[List.count_append,List.count_cons,List.count_nil]<;>omega) ?_
  have htk:l.take (k+1)=l.take k++ [l.getD k rw0]:=take_snoc (z:=rw0) hlt
  have hok1:JZ_ l (k+1)=((decide (k=0) ||decide (cmpI (l.getD (k - 1) rw0).id (l.getD k rw0).id<0))&&j6_ (l.getD k rw0)):=by show(JZ_ l k&&_&&_)=_;rw[hok,Bool.true_and]
  have hno:JZ_ l (k+1)=false→ ¬JZ_ l l.length=true:=fun h h'=>by rw[abp_ hlt h'] at h;cases h
  generalize hrr:l.getD k rw0=r at*
  have hN8:New w.heap.size ((b8,Obj.cells (rwC r).toArray 104 (0,0)):: (b6,ixO s v1 (vg_ (l.take k)))::DG):=⟨hw8,hNr⟩
  have rd8:zA_ w ((b8,Obj.cells (rwC r).toArray 104 (0,0)):: (b6,ixO s v1 (vg_ (l.take k)))::DG) bb=some (.cells arr E fz):=by rw[jh_ (hN8.not hbl)];exact hr.has (by omega)
  refine ko @zP_ ?_
  refine Cw.cutO (G:=Unit) [21,22,23,24,25,26,27,28,29,30,31,32,33,34,35,36,37,38,39,40,41,42,43,44,45,46,47,48,49,50,51,52] (fun g=> []) (fun g=>(b8, .cells (rwC r).toArray 104 (0,0)):: (b6,ixO s v1 (vg_ (l.take k)))::DG) (fun g=>JZ_ l (k+1)=true) ?_ ?_
  ·rcases Nat.eq_zero_or_pos k with rfl|hk0
   ·have d5:decide ((0:Int)< ((0:Nat):Int))=false:=rfl
    have hok2:JZ_ l (0+1)=j6_ r:=by rw[hok1,decide_eq_true (rfl:0=0),Bool.true_or,Bool.true_and]
    first|with_reducible refine ks [] @zP_ ?_|refine kp @zP_ ?_
    refine Cw.regionS [b8,bb] [0,1,2,3,4,5,6,7,8,9,10,11,12,13,14,15,16,17,18,19,20,21,22,23,24,25,26,27,28,29,30,31] [] (by kernel_rfl) (by kernel_rfl) (by kernel_rfl) ?_
    simp only[zg_, ↓zd_, ↓zb_, ↓zp_, ↓zq_,za_]
    cases p1:decide (r.place<0) with
    |true=>
     have hbad:=hok2.trans (show j6_ r=false by simp[j6_,p1])
     refine kq (And.intro @zP_ (And.intro @d5 (@p1))) ?_
     first|with_reducible refine ks [] @zP_ ?_|refine kp @zP_ ?_
     refine⟨_,(ke @zP_), ?_⟩
     refine⟨Ext.of_new hN8, ?_⟩
     unfold OfIS
     rw[if_neg (hno hbad)]
     rfl
    |false=>
     cases p2:decide (1099511627775<r.place) with
     |true=>
      have hbad:=hok2.trans (show j6_ r=false by simp[j6_,p2])
      refine kq (And.intro @zP_ (And.intro @d5 (And.intro @p1 (@p2)))) ?_
      first|with_reducible refine ks [] @zP_ ?_|refine kp @zP_ ?_
      refine⟨_,(ke @zP_), ?_⟩
      refine⟨Ext.of_new hN8, ?_⟩
      unfold OfIS
      rw[if_neg (hno hbad)]
      rfl
     |false=>
      cases p3:decide (r.spot<0) with
      |true=>
       have hbad:=hok2.trans (show j6_ r=false by simp[j6_,p3])
       refine kq (And.intro @zP_ (And.intro @d5 (And.intro @p1 (And.intro @p2 (@p3))))) ?_
       first|with_reducible refine ks [] @zP_ ?_|refine kp @zP_ ?_
       refine⟨_,(ke @zP_), ?_⟩
       refine⟨Ext.of_new hN8, ?_⟩
       unfold OfIS
       rw[if_neg (hno hbad)]
       rfl
      |false=>
       cases p4:decide (1099511627775<r.spot) with
       |true=>
        have hbad:=hok2.trans (show j6_ r=false by simp[j6_,p4])
        refine kq (And.intro @zP_ (And.intro @d5 (And.intro @p1 (And.intro @p2 (And.intro @p3 (@p4)))))) ?_
        first|with_reducible refine ks [] @zP_ ?_|refine kp @zP_ ?_
        refine⟨_,(ke @zP_), ?_⟩
        refine⟨Ext.of_new hN8, ?_⟩
        unfold OfIS
        rw[if_neg (hno hbad)]
        rfl
       |false=>
        refine kq (And.intro @zP_ (And.intro @d5 (And.intro @p1 (And.intro @p2 (And.intro @p3 (@p4)))))) ?_
        exact CutO.mk () (by rw[hok2];simp[j6_,p1,p2,p3,p4]) rfl rfl
   ·have d5:decide ((0:Int)< (k:Int))=true:=decide_eq_true (by omega)
    have hki: (k:Int) - 1=((k - 1:Nat):Int):=by omega
    have ix':=hr.idx true (k - 1) (by omega)
    have ld':=hr.load zw_ (by omega) (k:=k - 1) (by omega)
    rw[decide_eq_false (show¬k=0 by omega),Bool.false_or] at hok1
    first|with_reducible refine ks [] @zP_ ?_|refine kp @zP_ ?_
    refine Cw.regionS [b8,bb] [0,1,2,3,4,5,6,7,8,9,10,11,12,13,14,15,16,17,18,19,20,21,22,23,24,25,26,27,28,29,30,31] [] (by kernel_rfl) (by kernel_rfl) (by kernel_rfl) ?_
    simp only[zg_, ↓zd_, ↓zb_, ↓zp_, ↓zq_,za_]
    refine kq (And.intro @zP_ (And.intro @d5 (And.intro @hki (And.intro @ix' (And.intro @ld' (@rd8)))))) ?_
    refine Ow.soft rfl rfl rfl ?_
    refine Ow.callFV rfl Tryz.call109 (fun w' hw'=>V9_ (l.getD (k - 1) rw0) r w') ?_
    with_reducible refine Ow.nil ?_
    refine⟨by intro b hb;simp only[List.mem_cons,List.not_mem_nil,or_false] at hb;(try subst hb);rfl, ?_⟩
    generalize cmpI (l.getD (k - 1) rw0).id r.id=c at*
    by_cases hc:c<0
    ·have d6:decide (0≤c)=false:=decide_eq_false (by omega)
     have hok2:JZ_ l (k+1)=j6_ r:=by rw[hok1,decide_eq_true hc,Bool.true_and]
     cases p1:decide (r.place<0) with
     |true=>
      have hbad:=hok2.trans (show j6_ r=false by simp[j6_,p1])
      refine kq (And.intro @zP_ (And.intro @d6 (@p1))) ?_
      first|with_reducible refine ks [] @zP_ ?_|refine kp @zP_ ?_
      refine⟨_,(ke @zP_), ?_⟩
      refine⟨Ext.of_new hN8, ?_⟩
      unfold OfIS
      rw[if_neg (hno hbad)]
      rfl
     |false=>
      cases p2:decide (1099511627775<r.place) with
      |true=>
       have hbad:=hok2.trans (show j6_ r=false by simp[j6_,p2])
       refine kq (And.intro @zP_ (And.intro @d6 (And.intro @p1 (@p2)))) ?_
       first|with_reducible refine ks [] @zP_ ?_|refine kp @zP_ ?_
       refine⟨_,(ke @zP_), ?_⟩
       refine⟨Ext.of_new hN8, ?_⟩
       unfold OfIS
       rw[if_neg (hno hbad)]
       rfl
      |false=>
       cases p3:decide (r.spot<0) with
       |true=>
        have hbad:=hok2.trans (show j6_ r=false by simp[j6_,p3])
        refine kq (And.intro @zP_ (And.intro @d6 (And.intro @p1 (And.intro @p2 (@p3))))) ?_
        first|with_reducible refine ks [] @zP_ ?_|refine kp @zP_ ?_
        refine⟨_,(ke @zP_), ?_⟩
        refine⟨Ext.of_new hN8, ?_⟩
        unfold OfIS
        rw[if_neg (hno hbad)]
        rfl
       |false=>
        cases p4:decide (1099511627775<r.spot) with
        |true=>
         have hbad:=hok2.trans (show j6_ r=false by simp[j6_,p4])
         refine kq (And.intro @zP_ (And.intro @d6 (And.intro @p1 (And.intro @p2 (And.intro @p3 (@p4)))))) ?_
         first|with_reducible refine ks [] @zP_ ?_|refine kp @zP_ ?_
         refine⟨_,(ke @zP_), ?_⟩
         refine⟨Ext.of_new hN8, ?_⟩
         unfold OfIS
         rw[if_neg (hno hbad)]
         rfl
        |false=>
         refine kq (And.intro @zP_ (And.intro @d6 (And.intro @p1 (And.intro @p2 (And.intro @p3 (@p4)))))) ?_
         exact CutO.mk () (by rw[hok2];simp[j6_,p1,p2,p3,p4]) rfl rfl
    ·have d6:decide (0≤c)=true:=decide_eq_true (by omega)
     have hbad:JZ_ l (k+1)=false:=by rw[hok1,decide_eq_false hc,Bool.false_and]
     refine kq (And.intro @zP_ @d6) ?_
     first|with_reducible refine ks [] @zP_ ?_|refine kp @zP_ ?_
     refine⟨_,(ke @zP_), ?_⟩
     refine⟨Ext.of_new hN8, ?_⟩
     unfold OfIS
     rw[if_neg (hno hbad)]
     rfl
  ·intro u ju hu
   refine kv ?_
   first|with_reducible refine ks [] @zP_ ?_|refine kp @zP_ ?_
   refine Ow.callFV rfl Tryz.call118 (fun w' hw'=>adx_ r.id w') ?_
   refine ko @zP_ ?_
   rw[←aqc_ (l.take k) r]
   refine Cw.loopG (G:=Nat) [56,57,60,61,62,63,64,65,66,67,68,69,58,59,9] (fun g=> [(9,vi g)]) (fun g=>(b8, .cells (rwC r).toArray 104 (0,0)):: (b6,ixO s v1 (fanM (l.take k) r g))::DG) (fun g=>XO_ r.id≤g∧g≤16) (fun g=>16 - g) (XO_ r.id) rfl rfl ?_ ?_
   ·exact⟨Nat.le_refl _,Nat.le_of_lt (alA_ _)⟩
   intro g j hg
   refine kv ?_
   obtain⟨hg1,hg2⟩:=hg
   by_cases hgl:g<16
   ·have d7:decide ((g:Int)<16)=true:=decide_eq_true (by omega)
    have lf:=fun n=>ala_ s v1 (fanM (l.take k) r g) n g (by rw[J0_];exact hgl)
    rw[amP_ _ _ hgl] at lf
    have h86:b8≠b6:=by omega
    have sf:=fun a=>aiZ_ s v1 (fanM (l.take k) r g) g (Q3_ (l.take k) g+1) a (by rw[J0_];exact hgl)
    rw[amS_ _ _ hgl hg1,show((Q3_ (l.take k) g+1:Nat):Int)=((Q3_ (l.take k) g:Nat):Int)+1 by omega] at sf
    have hfv:Q3_ (l.take k) g≤k:=by
     have h1:Q3_ (l.take k) g≤ (l.take k).length:=List.countP_le_length
     rw[List.length_take] at h1
     omega
    first|with_reducible refine ks [] (And.intro @zP_ @d7) ?_|refine kp (And.intro @zP_ @d7) ?_
    refine Cw.regionS [b6] [0,1,2,3,4,7,8,5,6,9,10] [10] (by kernel_rfl) (by kernel_rfl) (by kernel_rfl) ?_
    simp only[zg_, ↓zd_, ↓zb_, ↓zp_, ↓zq_,za_]
    refine kq (And.intro @zP_ @lf) ?_
    refine Ow.store rfl rfl rfl (ke (And.intro @zP_ @sf)) ?_
    refine ko @zP_ ?_
    first|with_reducible refine ks [] @zP_ ?_|refine kp @zP_ ?_
    exact Again.mk (G:=Nat) (g+1) (by show 16 - (g+1)<16 - g;omega) ⟨by omega,by omega⟩ rfl rfl
   ·obtain rfl:g=16:=by omega
    have d7:decide (((16:Nat):Int)<16)=false:=rfl
    rw[aoc_,←htk]
    first|with_reducible refine ks [] @zP_ ?_|refine kp @zP_ ?_
    refine Cw.permL (M:=(b6,ixO s v1 (vg_ (l.take (k+1)))):: (b8, .cells (rwC r).toArray 104 (0,0))::DG) (by classical exact List.perm_iff_count.2 fun a=>by simp only[List.count_append,List.count_cons,List.count_nil]<;>omega) ?_
    first|with_reducible refine ks [] @zP_ ?_|refine kp @zP_ ?_
    exact Again.mk ⟨k+1,(b8, .cells (rwC r).toArray 104 (0,0))::DG⟩ (by show l.length - (k+1)<l.length - k;omega) ⟨hlt,hu,hw8,hNG⟩ rfl rfl
 ·obtain rfl:k=l.length:=by omega
  have d1:decide ((l.length:Int)< (l.length:Int))=false:=decide_eq_false (by omega)
  rw[List.take_length]
  by_cases h4:s.length=4
  ·have d2: ((s.length:Int)==4)=true:=by rw[h4];rfl
   first|with_reducible refine ks [] (And.intro @zP_ (And.intro @d1 (And.intro @d2 (@ln)))) ?_|refine kp (And.intro @zP_ (And.intro @d1 (And.intro @d2 (@ln)))) ?_
   refine⟨_,(ke @zP_), ?_⟩
   refine⟨Ext.of_new ⟨hw6,hNG⟩, ?_⟩
   unfold OfIS
   rw[if_pos hok]
   refine⟨b6, ?_,List.mem_cons_self⟩
   have e:decide ((l.length:Int)≤200)=decide (l.length≤200):=decide_eq_decide.2 (by omega)
   rw[decide_eq_true h4,Bool.true_and,←e];rfl
  ·have d2: ((s.length:Int)==4)=false:=beq_eq_false_iff_ne.2 (by omega)
   first|with_reducible refine ks [] (And.intro @zP_ (And.intro @d1 (And.intro @d2 (@ln)))) ?_|refine kp (And.intro @zP_ (And.intro @d1 (And.intro @d2 (@ln)))) ?_
   refine⟨_,(ke @zP_), ?_⟩
   refine⟨Ext.of_new ⟨hw6,hNG⟩, ?_⟩
   unfold OfIS
   rw[if_pos hok]
   exact⟨b6,by rw[decide_eq_false h4,Bool.false_and];rfl,List.mem_cons_self⟩
end Go.Proofs
end
section
open Go Go.Proofs Go.Sx Go.StP
namespace Go.Proofs
set_option maxRecDepth 10000
set_option maxHeartbeats 4000000
set_option linter.unusedSimpArgs false
structure ComL where
 tree:IdL
 par:List IdL
 text:List UInt8
def q5_ (t:IdL) (p:Value) (x:List UInt8):List Value:=t.l.map v8++ ([p]++ [vs x])
theorem Zk_ (t:IdL) (p:Value) (x:List UInt8): (q5_ t p x).length=34:=by simp[q5_,t.h]
theorem alS_ (t:IdL) (p:Value) (x:List UInt8) (hp:Value.oneCell' p=true): (q5_ t p x).all Value.oneCell'=true:=by
 unfold q5_
 simp only[List.all_append,List.all_cons,List.all_nil,Kb_,hp,Bool.and_true,Bool.true_and]
 rfl
theorem kr_ (t:IdL) (p:Value) (x:List UInt8):Value.cells (.agg (q5_ t p x).toArray)=(q5_ t p x).toArray:=zc_ _
theorem wM_ (t:IdL) (p:Value) (x:List UInt8) (E:TypeId) (fz:Nat×Nat):zs_ (some (true,32)) (some (.cells (q5_ t p x).toArray E fz)) 0=some (.agg (a8 t.l)):=by
 unfold q5_;exact Zi_ [] _ _ E fz rfl (by simp[t.h])
theorem w2_ (t:IdL) (p:Value) (x:List UInt8) (n:Nat) (E:TypeId) (fz:Nat×Nat):zs_ (some (false,n)) (some (.cells (q5_ t p x).toArray E fz)) 32=some p:=by
 unfold q5_;exact kg_ _ _ p n E fz (by simp[t.h])
theorem wm_ (t:IdL) (p:Value) (x:List UInt8) (n:Nat) (E:TypeId) (fz:Nat×Nat):zs_ (some (false,n)) (some (.cells (q5_ t p x).toArray E fz)) 33=some (vs x):=by
 have e:q5_ t p x=(t.l.map v8++ [p])++ ([vs x]++ []):=by unfold q5_;simp only[List.append_assoc,List.append_nil]
 rw[e];exact kg_ _ _ (vs x) n E fz (by simp[t.h])
theorem Qv_ (t:IdL) (p:Value) (x:List UInt8) (E:TypeId) (fz:Nat×Nat):zs_ (some (true,34)) (some (.cells (q5_ t p x).toArray E fz)) 0=some (.agg (q5_ t p x).toArray):=v5_ _ E fz 34 (by rw[List.size_toArray,Zk_])
theorem Ko_ (old:Array Value) (t:IdL) (p:Value) (x:List UInt8) (a:Bool) (E:TypeId) (h:old.size=34) (hp:Value.oneCell' p=true):zl_ (some (a,34)) (some (.cells old E (0,0))) 0 (.agg (q5_ t p x).toArray)=some (.cells (q5_ t p x).toArray E (0,0)):=kK_ _ a old E (Zk_ t p x) (alS_ t p x hp) h
def ZJ_ (l:List IdL) (i:Nat):Bool:= !((l.take i).any fun y=>(l.getD i id0).l==y.l)
def wE_ (c:ComL):Bool:=(decide (c.par.length≤4)&&decide (c.text.length≤64))&& (List.range c.par.length).all (ZJ_ c.par)
theorem afx_ {c:ComL} {k:Nat} (hk:k<c.par.length) (h:ZJ_ c.par k=false):wE_ c=false:=by
 unfold wE_
 have: (List.range c.par.length).all (ZJ_ c.par)=false:=by
  rw[List.all_eq_false]
  exact⟨k,List.mem_range.2 hk,by simp[h]⟩
 rw[this,Bool.and_false]
theorem acp_ {c:ComL} (h: ∀i,i<c.par.length→ZJ_ c.par i=true):wE_ c=(decide (c.par.length≤4)&&decide (c.text.length≤64)):=by
 unfold wE_
 have: (List.range c.par.length).all (ZJ_ c.par)=true:=List.all_eq_true.2 fun i hi=>h i (List.mem_range.1 hi)
 rw[this,Bool.and_true]
abbrev ComS (w:World) (v:Value) (c:ComL):Prop:= ∃p,v= .agg (q5_ c.tree p c.text).toArray∧IdS w p c.par
theorem SlV.one {α:Type} {m:Nat} {enc:α→List Value} {z:α} {w:World} {v:Value} {l:List α} (h:SlV m enc z w v l):Value.oneCell' v=true∧v.cells= #[v]:=by
 obtain⟨b,off,c,arr,E,fz,-,-,⟨rfl,-,-⟩ | ⟨rfl,-,-⟩⟩:=h<;>exact⟨rfl,rfl⟩
set_option linter.defProp false
def vA_:=And.intro (And.intro (And.intro (@aih_) (@ag4_)) (And.intro (@j4_) (And.intro (@zi_) (@zh_)))) (And.intro (And.intro (@wM_) (@w2_)) (And.intro (@wm_) (And.intro (@Qv_) (@kr_))))
theorem acQ_ (v:Value) (c:ComL) (w:World) (hv:ComS w v c) (hl:c.par.length<1000000) (ht:c.text.length<1099511627776):
  Rets Tryz.prog 231 #[v] w (fun v' D=>v'= .bool (wE_ c)∧D= []):=by
 obtain⟨p,rfl,hp⟩:=hv
 obtain⟨b,off,arr,E,fz,hr⟩:=hp.row
 have ln:=hp.len
 refine Rets.enterV Tryz.func231 rfl (rs:= [.tmp 2]) Tryz.results231 Tryz.ntmps231 ?_
 refine kf ?_
 first|with_reducible refine ks [] @vA_ ?_|refine kp @vA_ ?_
 refine Ow.box rfl rfl fun bx hbx hwx=> ?_
 simp only[z8_,z3_,z4_,zc_,List.nil_append,List.cons_append]
 refine Ow.go rfl ?_
 simp(disch:=(first|assumption|omega| (simp only[xg_,xe_,UInt64.reduceToNat];try omega))) only[↓Sx.S0,Sx.S1,Tryz.fx,vA_,Nat.reduceAdd,Nat.reducePow,Int.reducePow,Nat.reduceBEq, ↓reduceIte,UInt8.reduceToNat,UInt16.reduceToNat,UInt32.reduceToNat,UInt64.reduceToNat,Int.reduceToNat]
 first|with_reducible refine ks [] (And.intro @vA_ @ln) ?_|refine kp (And.intro @vA_ @ln) ?_
 refine Cw.loopG (G:=Nat) [9,10,11,12,4,3,13,14,15,16,17,18,2,19,8] (fun g=> [(8,vi g)]) (fun g=> [(bx, .cells (q5_ c.tree p c.text).toArray 241 (0,0))]) (fun g=>g≤c.par.length∧ ∀i,i<g→ZJ_ c.par i=true) (fun g=>c.par.length - g) 0 rfl rfl ?_ ?_
 ·exact⟨Nat.zero_le _,fun i hi=>absurd hi (Nat.not_lt_zero i)⟩
 ·intro k jk hk
  refine kv ?_
  obtain⟨h1,h2⟩:=hk
  by_cases hk:k<c.par.length
  ·have h0:0<c.par.length:=by omega
   have hbl:=hr.lt h0
   have hnb:bx≠b:=by omega
   have r2:=hr.has h0
   have i2:=hr.idx true k hk
   have l2:=JH_ hr hk
   obtain⟨v3,s3,hv3,-⟩:=hp.take (show k≤c.par.length by omega) true
   first|with_reducible refine ks [6] (And.intro @vA_ (And.intro @i2 (And.intro @r2 (@l2)))) ?_|refine kp (And.intro @vA_ (And.intro @i2 (And.intro @r2 (@l2)))) ?_
   refine Ow.alloc rfl rfl Tryz.zr37 fun b4 hb4 hw4=> ?_
   simp only[zc_,List.nil_append,List.cons_append]
   obtain⟨h4,-⟩:=hb4
   have hxl:=(c.par.getD k id0).h
   refine ko @vA_ ?_
   refine Cw.regionS [bx,b4] [0,2,1,3,4,5] [] (by kernel_rfl) (by kernel_rfl) (by kernel_rfl) ?_
   simp only[zg_, ↓zd_, ↓zb_, ↓zp_, ↓zq_,za_]
   refine kq (And.intro @vA_ @s3) ?_
   refine Ow.callFV rfl Tryz.call127 (fun w' hw'=>wT_ v3 (c.par.take k) (c.par.getD k id0) w' (hv3.oldN hw' ⟨hwx,hw4,trivial⟩) (by rw[List.length_take];omega)) ?_
   cases hq: (c.par.take k).any fun y=>(c.par.getD k id0).l==y.l
   ·have e1:ZJ_ c.par k=true:=by unfold ZJ_;rw[hq];rfl
    refine kq @vA_ ?_
    refine Cw.forgetN [(bx, .cells (q5_ c.tree p c.text).toArray 241 (0,0))] (by exact⟨hwx,hw4,trivial⟩) (by intro p hp;simp only[List.mem_cons,List.not_mem_nil,or_false] at hp ⊢;all_goals (first| (rcases hp with rfl|hp<;>simp_all) | (subst hp;simp) |simp_all)) (by simp[keys]<;>omega) ?_
    first|with_reducible refine ks [] @vA_ ?_|refine kp @vA_ ?_
    exact Again.mk (k+1) (by omega) ⟨by omega,fun i hi=>by
     rcases Nat.lt_succ_iff_lt_or_eq.1 hi with h|rfl
     ·exact h2 i h
     ·exact e1⟩ rfl rfl
   ·have e1:ZJ_ c.par k=false:=by unfold ZJ_;rw[hq];rfl
    rw[afx_ hk e1]
    refine kq @vA_ ?_
    refine⟨_,(ke @vA_),⟨hwx,hw4,trivial⟩, ?_⟩
    rfl
  ·obtain rfl:k=c.par.length:=by omega
   rw[acp_ h2]
   by_cases h4:c.par.length≤4
   ·have d1:decide (((c.par.length:Nat):Int)≤4)=true:=decide_eq_true (by omega)
    first|with_reducible refine ks [] (And.intro @vA_ (And.intro @ln (@d1))) ?_|refine kp (And.intro @vA_ (And.intro @ln (@d1))) ?_
    refine⟨_,(ke @vA_),⟨hwx,trivial⟩, ?_⟩
    rw[show decide (c.par.length≤4)=true from decide_eq_true h4,Bool.true_and];exact congrArg Value.bool (decide_eq_decide.2 (by omega))
   ·have d1:decide (((c.par.length:Nat):Int)≤4)=false:=decide_eq_false (by omega)
    first|with_reducible refine ks [] (And.intro @vA_ (And.intro @ln (@d1))) ?_|refine kp (And.intro @vA_ (And.intro @ln (@d1))) ?_
    refine⟨_,(ke @vA_),⟨hwx,trivial⟩, ?_⟩
    rw[show decide (c.par.length≤4)=false from decide_eq_false h4];rfl
end Go.Proofs
end
section
open Go Go.Proofs Go.Sx Go.StP
namespace Go.Proofs
set_option maxRecDepth 10000
set_option maxHeartbeats 4000000
set_option linter.unusedSimpArgs false
set_option linter.defProp false
def xT_:=And.intro (And.intro (And.intro (@aih_) (@ag4_)) (And.intro (@j4_) (And.intro (@zi_) (@zh_)))) (And.intro (And.intro (@wM_) (@w2_)) (And.intro (@wm_) (And.intro (@Qv_) (@kr_))))
theorem alr_ {l:List IdL} {k:Nat} {x:IdL} (hk:k<l.length) (h: ((l.take k).any fun y=>x.l==y.l)=false) (h2: (x.l==(l.getD k id0).l)=false): ((l.take (k+1)).any fun y=>x.l==y.l)=false:=by
 rw[take_snoc (z:=id0) hk,List.any_append,h,Bool.false_or,List.any_cons,h2];rfl
theorem anW_ {l:List IdL} {k i:Nat} {x:IdL} (hk:k<l.length) (hi:k<i) (h2: (x.l==(l.getD k id0).l)=true): ((l.take i).any fun y=>x.l==y.l)=true:=by
 rw[List.any_eq_true]
 refine⟨l.getD k id0, ?_,h2⟩
 rw[←wN_ (l:=l) (z:=id0) hi]
 exact Ql_ (by rw[List.length_take];omega)
theorem JO_ (v:Value) (c:ComL) (w:World) (hv:ComS w v c) (hl:c.par.length<1000000) (ht:c.text.length<1099511627776):
  Rets Tryz.prog 188 #[v] w (fun v' D=>v'= .bool (wE_ c)∧D= []):=by
 obtain⟨p,rfl,hp⟩:=hv
 obtain⟨b,off,arr,E,fz,hr⟩:=hp.row
 have ln:=hp.len
 refine Rets.enterV Tryz.func188 rfl (rs:= [.tmp 2]) Tryz.results188 Tryz.ntmps188 ?_
 refine kf ?_
 first|with_reducible refine ks [] @xT_ ?_|refine kp @xT_ ?_
 refine Ow.box rfl rfl fun bx hbx hwx=> ?_
 simp only[z8_,z3_,z4_,zc_,List.nil_append,List.cons_append]
 refine Ow.go rfl ?_
 simp(disch:=(first|assumption|omega| (simp only[xg_,xe_,UInt64.reduceToNat];try omega))) only[↓Sx.S0,Sx.S1,Tryz.fx,xT_,Nat.reduceAdd,Nat.reducePow,Int.reducePow,Nat.reduceBEq, ↓reduceIte,UInt8.reduceToNat,UInt16.reduceToNat,UInt32.reduceToNat,UInt64.reduceToNat,Int.reduceToNat]
 by_cases h4:4<c.par.length
 ·have d1:decide (4< ((c.par.length:Nat):Int))=true:=decide_eq_true (by omega)
  first|with_reducible refine ks [] (And.intro @xT_ (And.intro @ln (@d1))) ?_|refine kp (And.intro @xT_ (And.intro @ln (@d1))) ?_
  have:wE_ c=false:=by unfold wE_;rw[show decide (c.par.length≤4)=false from decide_eq_false (by omega)];rfl
  rw[this]
  refine⟨_,(ke @xT_),⟨hwx,trivial⟩, ?_⟩
  rfl
 have d1:decide (4< ((c.par.length:Nat):Int))=false:=decide_eq_false (by omega)
 by_cases h64:64<c.text.length
 ·have d2:decide (64< ((c.text.length:Nat):Int))=true:=decide_eq_true (by omega)
  first|with_reducible refine ks [] (And.intro @xT_ (And.intro @ln (And.intro @d1 (@d2)))) ?_|refine kp (And.intro @xT_ (And.intro @ln (And.intro @d1 (@d2)))) ?_
  have:wE_ c=false:=by unfold wE_;rw[show decide (c.text.length≤64)=false from decide_eq_false (by omega),Bool.and_false];rfl
  rw[this]
  refine⟨_,(ke @xT_),⟨hwx,trivial⟩, ?_⟩
  rfl
 have d2:decide (64< ((c.text.length:Nat):Int))=false:=decide_eq_false (by omega)
 first|with_reducible refine ks [] (And.intro @xT_ (And.intro @ln (And.intro @d1 (@d2)))) ?_|refine kp (And.intro @xT_ (And.intro @ln (And.intro @d1 (@d2)))) ?_
 refine Cw.loopG (G:=Nat) [15,16,17,18,19,4,22,23,24,27,28,29,30,31,32,33,34,35,36,37,2,25,26,20,21,3] (fun g=> [(3,vi g)]) (fun g=> [(bx, .cells (q5_ c.tree p c.text).toArray 241 (0,0))]) (fun g=>g≤c.par.length∧ ∀i,i<g→ZJ_ c.par i=true) (fun g=>c.par.length - g) 0 rfl rfl ?_ ?_
 ·exact⟨Nat.zero_le _,fun i hi=>absurd hi (Nat.not_lt_zero i)⟩
 ·intro i ji hi
  refine kv ?_
  obtain⟨h1,h2⟩:=hi
  by_cases hi:i<c.par.length
  ·have h0:0<c.par.length:=by omega
   have hbl:=hr.lt h0
   have hnb:bx≠b:=by omega
   have r2:=hr.has h0
   have i2:=hr.idx true i hi
   have l2:=JH_ hr hi
   first|with_reducible refine ks [] (And.intro @xT_ @ln) ?_|refine kp (And.intro @xT_ @ln) ?_
   refine Cw.loopG (G:=Nat) [22,23,24,27,28,29,30,31,32,33,34,35,36,37,2,25,26,4] (fun g=> [(4,vi g)]) (fun g=> [(bx, .cells (q5_ c.tree p c.text).toArray 241 (0,0))]) (fun g=>g≤i∧((c.par.take g).any fun y=>(c.par.getD i id0).l==y.l)=false) (fun g=>i - g) 0 rfl rfl ?_ ?_
   ·exact⟨Nat.zero_le _,rfl⟩
   ·intro k jk hk
    refine kv ?_
    obtain⟨g1,g2⟩:=hk
    by_cases hk:k<i
    ·have i3:=hr.idx true k (show k<c.par.length by omega)
     have l3:=JH_ hr (show k<c.par.length by omega)
     first|with_reducible refine ks [] @xT_ ?_|refine kp @xT_ ?_
     refine Cw.regionS [bx,b] [0,2,5,7,1,3,4,6,8,9,10] [] (by kernel_rfl) (by kernel_rfl) (by kernel_rfl) ?_
     simp only[zg_, ↓zd_, ↓zb_, ↓zp_, ↓zq_,za_]
     refine kq (And.intro @xT_ (And.intro @i2 (And.intro @r2 (And.intro @l2 (And.intro @i3 (@l3)))))) ?_
     cases hq: ((c.par.getD i id0).l==(c.par.getD k id0).l)
     ·first|with_reducible refine ks [] (And.intro @xT_ @hq) ?_|refine kp (And.intro @xT_ @hq) ?_
      exact Again.mk (k+1) (by omega) ⟨by omega,alr_ (by omega) g2 hq⟩ rfl rfl
     ·have e1:ZJ_ c.par i=false:=by unfold ZJ_;rw[anW_ (by omega) hk hq];rfl
      rw[afx_ hi e1]
      first|with_reducible refine ks [] (And.intro @xT_ @hq) ?_|refine kp (And.intro @xT_ @hq) ?_
      refine⟨_,(ke @xT_),⟨hwx,trivial⟩, ?_⟩
      rfl
    ·obtain rfl:k=i:=by omega
     have e1:ZJ_ c.par k=true:=by unfold ZJ_;rw[g2];rfl
     first|with_reducible refine ks [] @xT_ ?_|refine kp @xT_ ?_
     exact Again.mk (k+1) (by omega) ⟨by omega,fun i hi=>by
      rcases Nat.lt_succ_iff_lt_or_eq.1 hi with h|rfl
      ·exact h2 i h
      ·exact e1⟩ rfl rfl
  ·obtain rfl:i=c.par.length:=by omega
   rw[acp_ h2,show decide (c.par.length≤4)=true from decide_eq_true (by omega),show decide (c.text.length≤64)=true from decide_eq_true (by omega)]
   first|with_reducible refine ks [] (And.intro @xT_ @ln) ?_|refine kp (And.intro @xT_ @ln) ?_
   refine⟨_,(ke @xT_),⟨hwx,trivial⟩, ?_⟩
   rfl
def as6_ (a b:ComL):Bool:=(a.tree.l==b.tree.l)&& (a.text==b.text)&&decide (a.par=b.par)
end Go.Proofs
end
section
open Go Go.Proofs Go.Sx
namespace Go.Proofs
set_option maxRecDepth 10000
set_option maxHeartbeats 4000000
set_option linter.unusedSimpArgs false
theorem vl_ {n:Nat} (h:n<1099511627776):zz_ (n:Int)=n:=by unfold zz_ maxN;omega
theorem jy_: ∀ (k:Nat) (n:Int) (w:World),zz_ n≤k→
  Rets Tryz.prog 91 #[vi n] w (fun v D=>v=vs (qP_ (zz_ n))∧D= []):=by
 intro k
 induction k using Nat.strongRecOn with
 |ind k ih=>
  intro n w hk
  refine Rets.enterV Tryz.func91 rfl (rs:= [.tmp 2]) Tryz.results91 Tryz.ntmps91 ?_
  refine kf ?_
  by_cases h0:n<0
  ·have d1:decide (n<0)=true:=decide_eq_true h0
   have e:zz_ n=0:=by unfold zz_ maxN;omega
   rw[e]
   first|with_reducible refine ks [] @d1 ?_|refine kp @d1 ?_
   refine Ow.buildSlice (e:=5) #[v8 0] rfl rfl (by kernel_rfl) fun b1 hb1 hw1=> ?_
   rw[show(#[v8 0]:Array Value)=a8 [0] from rfl]
   refine ko @Nat.add_zero ?_
   first|with_reducible refine ks [] @Nat.add_zero ?_|refine kp @Nat.add_zero ?_
   refine⟨_,(ke @Nat.add_zero),⟨hw1,trivial⟩, ?_⟩
   rw[qK_ (by omega)];rfl
  ·have d1:decide (n<0)=false:=decide_eq_false h0
   generalize hm:zz_ n=m at hk ⊢
   have hm2:m≤1099511627775:=by unfold zz_ maxN at hm;omega
   by_cases h1:n>1099511627775
   ·have d2:decide (1099511627775<n)=true:=decide_eq_true h1
    have e: (1099511627775:Int)=(m:Int):=by unfold zz_ maxN at hm;omega
    first|with_reducible refine ks [5] (And.intro @d1 @d2) ?_|refine kp (And.intro @d1 @d2) ?_
    rw[e]
    by_cases h2:m<128
    ·have d3:decide ((m:Int)<128)=true:=decide_eq_true (by omega)
     rw[qK_ h2]
     first|with_reducible refine ks [] (And.intro @d1 @d3) ?_|refine kp (And.intro @d1 @d3) ?_
     generalize hc:UInt8.ofInt (m:Int)=c
     have hc':c=UInt8.ofNat m:=by rw[←hc,w7_]
     refine Ow.buildSlice (e:=5) #[v8 c] rfl rfl (by kernel_rfl) fun b1 hb1 hw1=> ?_
     rw[show(#[v8 c]:Array Value)=a8 [c] from rfl]
     have e4:List.take 1 (List.drop 0 [c])= [c]:=rfl
     refine ko @e4 ?_
     first|with_reducible refine ks [] @Nat.add_zero ?_|refine kp @Nat.add_zero ?_
     refine⟨_,(ke @Nat.add_zero),⟨hw1,trivial⟩, ?_⟩
     rw[hc'];rfl
    ·have d3:decide ((m:Int)<128)=false:=decide_eq_false (by omega)
     have ih2:=fun w=>ih (m / 128) (by omega) ((m / 128:Nat):Int) w (by rw[vl_ (by omega)];omega)
     rw[vl_ (by omega)] at ih2
     have hl2:=xF_ 6 (m / 128) (by omega) (by omega)
     rw[v6_ h2]
     first|with_reducible refine ks [] (And.intro @d1 @d3) ?_|refine kp (And.intro @d1 @d3) ?_
     refine Cw.regionK 11 (by kernel_rfl) (by kernel_rfl) ?_
     refine OwK.run [0,1,2,3,6,7] [true,true,true,true,false,false,true,true,false,false,false] 5 rfl (by kernel_rfl) (by kernel_rfl) fun k hk=> ?_
     simp only[zg_, ↓zd_, ↓zb_, ↓zp_, ↓zq_,za_]
     simp(disch:=(first|assumption|omega| (simp only[xg_,xe_,UInt64.reduceToNat];try omega))) only[↓Sx.S0,Sx.S1,Tryz.fx,Nat.reduceAdd,Nat.reducePow,Int.reducePow,Nat.reduceBEq, ↓reduceIte,UInt8.reduceToNat,UInt16.reduceToNat,UInt32.reduceToNat,UInt64.reduceToNat,Int.reduceToNat]
     (with_reducible refine hk _ _ _ ?_);clear hk k
     generalize hc:UInt8.ofInt ((m:Int)%128+128)=c
     have hc':c=UInt8.ofNat (m%128+128):=by rw[←hc,show((m:Int)%128+128)=((m%128+128:Nat):Int) from rfl,w7_]
     rw[show(m:Int) / 128=((m / 128:Nat):Int) from rfl]
     refine OwK.two 4 8 _ _ (by kernel_rfl) rfl rfl ?_ ?_
     ·refine Ow.buildSlice (e:=5) #[v8 c] rfl rfl (by kernel_rfl) fun b1 hb1 hw1=> ?_
      rw[show(#[v8 c]:Array Value)=a8 [c] from rfl]
      have e4:List.take 1 (List.drop 0 [c])= [c]:=rfl
      refine ko @e4 ?_
      try with_reducible refine Ow.nil ?_
      refine OwK.two 5 8 _ _ (by kernel_rfl) rfl rfl ?_ ?_
      ·refine ko @e4 ?_
       refine OwK.rest [8,9,10] [4,8] rfl (by kernel_rfl) (by kernel_rfl) ?_
       simp only[zg_, ↓zd_, ↓zb_, ↓zp_, ↓zq_,za_]
       refine Ow.callFV rfl Tryz.call91 (fun w' hw'=>ih2 w') ?_
       refine ko @Nat.add_zero ?_
       first|with_reducible refine ks [] @Nat.add_zero ?_|refine kp @Nat.add_zero ?_
       refine⟨_,(ke @Nat.add_zero),⟨hw1,trivial⟩, ?_⟩
       rw[hc'];rfl
      ·refine Ow.callFV rfl Tryz.call91 (fun w' hw'=>ih2 w') ?_
       refine ko @Nat.add_zero ?_
       refine OwK.rest [5,9,10] [4,8] rfl (by kernel_rfl) (by kernel_rfl) ?_
       simp only[zg_, ↓zd_, ↓zb_, ↓zp_, ↓zq_,za_]
       refine ko @e4 ?_
       first|with_reducible refine ks [] @Nat.add_zero ?_|refine kp @Nat.add_zero ?_
       refine⟨_,(ke @Nat.add_zero),⟨hw1,trivial⟩, ?_⟩
       rw[hc'];rfl
     ·refine Ow.callFV rfl Tryz.call91 (fun w' hw'=>ih2 w') ?_
      refine ko @Nat.add_zero ?_
      refine OwK.rest [4,5,9,10] [4,8] rfl (by kernel_rfl) (by kernel_rfl) ?_
      simp only[zg_, ↓zd_, ↓zb_, ↓zp_, ↓zq_,za_]
      refine Ow.buildSlice (e:=5) #[v8 c] rfl rfl (by kernel_rfl) fun b1 hb1 hw1=> ?_
      rw[show(#[v8 c]:Array Value)=a8 [c] from rfl]
      have e4:List.take 1 (List.drop 0 [c])= [c]:=rfl
      refine ko @e4 ?_
      first|with_reducible refine ks [] @Nat.add_zero ?_|refine kp @Nat.add_zero ?_
      refine⟨_,(ke @Nat.add_zero),⟨hw1,trivial⟩, ?_⟩
      rw[hc'];rfl
   ·have d2:decide (1099511627775<n)=false:=decide_eq_false h1
    have e:n=(m:Int):=by unfold zz_ maxN at hm;omega
    subst e
    first|with_reducible refine ks [5] (And.intro @d1 @d2) ?_|refine kp (And.intro @d1 @d2) ?_
    by_cases h2:m<128
    ·have d3:decide ((m:Int)<128)=true:=decide_eq_true (by omega)
     rw[qK_ h2]
     first|with_reducible refine ks [] (And.intro @d1 @d3) ?_|refine kp (And.intro @d1 @d3) ?_
     generalize hc:UInt8.ofInt (m:Int)=c
     have hc':c=UInt8.ofNat m:=by rw[←hc,w7_]
     refine Ow.buildSlice (e:=5) #[v8 c] rfl rfl (by kernel_rfl) fun b1 hb1 hw1=> ?_
     rw[show(#[v8 c]:Array Value)=a8 [c] from rfl]
     have e4:List.take 1 (List.drop 0 [c])= [c]:=rfl
     refine ko @e4 ?_
     first|with_reducible refine ks [] @Nat.add_zero ?_|refine kp @Nat.add_zero ?_
     refine⟨_,(ke @Nat.add_zero),⟨hw1,trivial⟩, ?_⟩
     rw[hc'];rfl
    ·have d3:decide ((m:Int)<128)=false:=decide_eq_false (by omega)
     have ih2:=fun w=>ih (m / 128) (by omega) ((m / 128:Nat):Int) w (by rw[vl_ (by omega)];omega)
     rw[vl_ (by omega)] at ih2
     have hl2:=xF_ 6 (m / 128) (by omega) (by omega)
     rw[v6_ h2]
     first|with_reducible refine ks [] (And.intro @d1 @d3) ?_|refine kp (And.intro @d1 @d3) ?_
     refine Cw.regionK 11 (by kernel_rfl) (by kernel_rfl) ?_
     refine OwK.run [0,1,2,3,6,7] [true,true,true,true,false,false,true,true,false,false,false] 5 rfl (by kernel_rfl) (by kernel_rfl) fun k hk=> ?_
     simp only[zg_, ↓zd_, ↓zb_, ↓zp_, ↓zq_,za_]
     simp(disch:=(first|assumption|omega| (simp only[xg_,xe_,UInt64.reduceToNat];try omega))) only[↓Sx.S0,Sx.S1,Tryz.fx,Nat.reduceAdd,Nat.reducePow,Int.reducePow,Nat.reduceBEq, ↓reduceIte,UInt8.reduceToNat,UInt16.reduceToNat,UInt32.reduceToNat,UInt64.reduceToNat,Int.reduceToNat]
     (with_reducible refine hk _ _ _ ?_);clear hk k
     generalize hc:UInt8.ofInt ((m:Int)%128+128)=c
     have hc':c=UInt8.ofNat (m%128+128):=by rw[←hc,show((m:Int)%128+128)=((m%128+128:Nat):Int) from rfl,w7_]
     rw[show(m:Int) / 128=((m / 128:Nat):Int) from rfl]
     refine OwK.two 4 8 _ _ (by kernel_rfl) rfl rfl ?_ ?_
     ·refine Ow.buildSlice (e:=5) #[v8 c] rfl rfl (by kernel_rfl) fun b1 hb1 hw1=> ?_
      rw[show(#[v8 c]:Array Value)=a8 [c] from rfl]
      have e4:List.take 1 (List.drop 0 [c])= [c]:=rfl
      refine ko @e4 ?_
      try with_reducible refine Ow.nil ?_
      refine OwK.two 5 8 _ _ (by kernel_rfl) rfl rfl ?_ ?_
      ·refine ko @e4 ?_
       refine OwK.rest [8,9,10] [4,8] rfl (by kernel_rfl) (by kernel_rfl) ?_
       simp only[zg_, ↓zd_, ↓zb_, ↓zp_, ↓zq_,za_]
       refine Ow.callFV rfl Tryz.call91 (fun w' hw'=>ih2 w') ?_
       refine ko @Nat.add_zero ?_
       first|with_reducible refine ks [] @Nat.add_zero ?_|refine kp @Nat.add_zero ?_
       refine⟨_,(ke @Nat.add_zero),⟨hw1,trivial⟩, ?_⟩
       rw[hc'];rfl
      ·refine Ow.callFV rfl Tryz.call91 (fun w' hw'=>ih2 w') ?_
       refine ko @Nat.add_zero ?_
       refine OwK.rest [5,9,10] [4,8] rfl (by kernel_rfl) (by kernel_rfl) ?_
       simp only[zg_, ↓zd_, ↓zb_, ↓zp_, ↓zq_,za_]
       refine ko @e4 ?_
       first|with_reducible refine ks [] @Nat.add_zero ?_|refine kp @Nat.add_zero ?_
       refine⟨_,(ke @Nat.add_zero),⟨hw1,trivial⟩, ?_⟩
       rw[hc'];rfl
     ·refine Ow.callFV rfl Tryz.call91 (fun w' hw'=>ih2 w') ?_
      refine ko @Nat.add_zero ?_
      refine OwK.rest [4,5,9,10] [4,8] rfl (by kernel_rfl) (by kernel_rfl) ?_
      simp only[zg_, ↓zd_, ↓zb_, ↓zp_, ↓zq_,za_]
      refine Ow.buildSlice (e:=5) #[v8 c] rfl rfl (by kernel_rfl) fun b1 hb1 hw1=> ?_
      rw[show(#[v8 c]:Array Value)=a8 [c] from rfl]
      have e4:List.take 1 (List.drop 0 [c])= [c]:=rfl
      refine ko @e4 ?_
      first|with_reducible refine ks [] @Nat.add_zero ?_|refine kp @Nat.add_zero ?_
      refine⟨_,(ke @Nat.add_zero),⟨hw1,trivial⟩, ?_⟩
      rw[hc'];rfl
theorem vs_ (s:List UInt8) (w:World) (hs:s.length<1099511627776):
  Rets Tryz.prog 92 #[vs s] w (fun v D=>v=vs (xi_ s)∧D= []):=by
 have hnl:=zm_ (s.length:Int)
 refine Rets.enterV Tryz.func92 rfl (rs:= [.tmp 2]) Tryz.results92 Tryz.ntmps92 ?_
 refine kf ?_
 first|with_reducible refine ks [] @Nat.add_zero ?_|refine kp @Nat.add_zero ?_
 refine Ow.callFV rfl Tryz.call91 (fun w' hw'=>jy_ _ _ w' (Nat.le_refl _)) ?_
 refine ko @Nat.add_zero ?_
 first|with_reducible refine ks [] @Nat.add_zero ?_|refine kp @Nat.add_zero ?_
 refine⟨_,(ke @Nat.add_zero),trivial, ?_⟩
 rfl
theorem J1_ (x:IdL) (w:World):
  Rets Tryz.prog 93 #[.agg (a8 x.l)] w (fun v D=>v=vs x.l∧D= []):=by
 have hxl:=x.h
 refine Rets.enterV Tryz.func93 rfl (rs:= [.tmp 2]) Tryz.results93 Tryz.ntmps93 ?_
 refine kf ?_
 first|with_reducible refine ks [] @Nat.add_zero ?_|refine kp @Nat.add_zero ?_
 refine Ow.box rfl rfl fun bx hbx hwx=> ?_
 simp only[z8_,z3_,z4_,zc_,List.nil_append,List.cons_append]
 refine Ow.go rfl ?_
 simp(disch:=(first|assumption|omega| (simp only[xg_,xe_,UInt64.reduceToNat];try omega))) only[↓Sx.S0,Sx.S1,Tryz.fx,Nat.reduceAdd,Nat.reducePow,Int.reducePow,Nat.reduceBEq, ↓reduceIte,UInt8.reduceToNat,UInt16.reduceToNat,UInt32.reduceToNat,UInt64.reduceToNat,Int.reduceToNat]
 have e4:List.take 32 (List.drop 0 x.l)=x.l:=by rw[List.drop_zero,List.take_of_length_le (by omega)]
 first|with_reducible refine ks [] @e4 ?_|refine kp @e4 ?_
 refine⟨_,(ke @Nat.add_zero),⟨hwx,trivial⟩, ?_⟩
 rfl
end Go.Proofs
end
section
open Go Go.Proofs Go.Sx Go.StP
namespace Go.Proofs
set_option maxRecDepth 10000
set_option maxHeartbeats 400000
set_option linter.unusedSimpArgs false
set_option linter.defProp false
def Ki_:=And.intro (And.intro (And.intro (@vG_) (@wF_)) (And.intro (@w1_) (@jC_))) (And.intro (And.intro (@ql_) (@qr_)) (And.intro (@zi_) (@zh_)))
def entB (e:EntL):List UInt8:=(qP_ (zz_ e.kind)++xi_ e.name)++e.id.l
def k7_ (l:List EntL):List UInt8:=(l.map entB).flatten
theorem V5_ {l:List EntL} {k:Nat} (hk:k<l.length):k7_ (l.take (k+1))=k7_ (l.take k)++entB (l.getD k jQ_):=by
 unfold k7_
 rw[List.take_succ_eq_append_getElem hk,List.map_append,List.flatten_append,List.getD_eq_getElem?_getD,List.getElem?_eq_getElem hk]
 simp
theorem adu_ {l:List EntL} {k:Nat} (hk:k<l.length):k7_ (l.take (k+1))=k7_ (l.take k)++qP_ (zz_ (l.getD k jQ_).kind)++xi_ (l.getD k jQ_).name++ (l.getD k jQ_).id.l:=by
 rw[V5_ hk];simp only[entB,List.append_assoc]
theorem vv_ {s:List UInt8} (h:s.length<1099511627776): (xi_ s).length<1099511627783:=by
 have:=zm_ (s.length:Int)
 unfold xi_;rw[List.length_append];omega
theorem abn_ {l:List EntL} (hsh:abR_ l): ∀k,k≤l.length→(k7_ (l.take k)).length≤k*1099511627830
 |0,_=>by simp[k7_]
 |k+1,hk=>by
  have ih:=abn_ hsh k (by omega)
  have h1:=vv_ (hsh k hk)
  have h2:=zm_ (l.getD k jQ_).kind
  have h3:=(l.getD k jQ_).id.h
  rw[V5_ hk]
  unfold entB
  simp only[List.length_append]
  omega
theorem WN_ (v:Value) (l:List EntL) (w:World) (hv:EntS w v l) (hl:l.length<1000000) (hsh:abR_ l):
  Rets Tryz.prog 187 #[v] w (fun v' D=>v'=vs (k7_ l)∧D= []):=by
 obtain⟨b,off,arr,E,fz,hr⟩:=hv.row
 have ln:=hv.len
 refine Rets.enterV Tryz.func187 rfl (rs:= [.tmp 2]) Tryz.results187 Tryz.ntmps187 ?_
 refine kf ?_
 first|with_reducible refine ks [] (And.intro @Ki_ @ln) ?_|refine kp (And.intro @Ki_ @ln) ?_
 refine Cw.loopG (G:=Nat) [5,6,7,8,11,12,13,14,15,16,17,18,19,20,21,22,23,24,25,26,27,28,29,30,31,32,3,9,10,4] (fun g=> [(3,vs (k7_ (l.take g))),(4,vi g)]) (fun g=> []) (fun g=>g≤l.length) (fun g=>l.length - g) 0 rfl rfl ?_ ?_
 ·exact Nat.zero_le _
 ·intro k jk hk
  refine kv ?_
  have h1:k≤l.length:=hk
  clear hk
  by_cases hk:k<l.length
  ·have h0:0<l.length:=by omega
   have hbl:=hr.lt h0
   have r2:=hr.has h0
   have i2:=hr.idx true k hk
   have m0: ∀n,zs_ (some (false,n)) (some (.cells arr E fz)) (off+k*34)=some (vs (l.getD k jQ_).name):=fun n=>QP_ hr hk n
   have m1: ∀n,zs_ (some (false,n)) (some (.cells arr E fz)) (off+k*34+1)=some (vi (l.getD k jQ_).kind):=fun n=>afn_ hr hk n
   have m2:zs_ (some (true,32)) (some (.cells arr E fz)) (off+k*34+2)=some (.agg (a8 (l.getD k jQ_).id.l)):=am9_ hr hk
   have hs:=hsh k hk
   have t1:=abn_ hsh k h1
   have t2:=vv_ hs
   have t3:=zm_ (l.getD k jQ_).kind
   have t4:=(l.getD k jQ_).id.h
   first|with_reducible refine ks [] (And.intro @Ki_ @ln) ?_|refine kp (And.intro @Ki_ @ln) ?_
   refine Cw.regionS [b] [0,1,2,3,4,8,9,10,11,15,16,17,18,5,12,19,6,7,13,14,20,21,22] [] (by kernel_rfl) (by kernel_rfl) (by kernel_rfl) ?_
   simp only[zg_, ↓zd_, ↓zb_, ↓zp_, ↓zq_,za_]
   refine kq (And.intro @Ki_ (And.intro @r2 (And.intro @i2 (And.intro @m0 (And.intro @m1 (@m2)))))) ?_
   refine Ow.callFV rfl Tryz.call91 (fun w' hw'=>jy_ _ _ w' (Nat.le_refl _)) ?_
   refine kq (And.intro @Ki_ (And.intro @r2 (And.intro @i2 (And.intro @m0 (And.intro @m1 (@m2)))))) ?_
   refine Ow.callFV rfl Tryz.call92 (fun w' hw'=>vs_ _ w' hs) ?_
   refine kq (And.intro @Ki_ (And.intro @r2 (And.intro @i2 (And.intro @m0 (And.intro @m1 (@m2)))))) ?_
   refine Ow.callFV rfl Tryz.call93 (fun w' hw'=>J1_ _ w') ?_
   refine kq (And.intro @Ki_ (And.intro @r2 (And.intro @i2 (And.intro @m0 (And.intro @m1 (@m2)))))) ?_
   exact Again.mk (k+1) (by omega) (by omega) rfl (by rw[adu_ hk];rfl)
  ·obtain rfl:k=l.length:=by omega
   first|with_reducible refine ks [] (And.intro @Ki_ @ln) ?_|refine kp (And.intro @Ki_ @ln) ?_
   refine⟨_,(ke @Ki_),trivial, ?_⟩
   rw[List.take_length];rfl
def idsB (l:List IdL):List UInt8:=(l.map IdL.l).flatten
theorem ai0_ {l:List IdL} {k:Nat} (hk:k<l.length):idsB (l.take (k+1))=idsB (l.take k)++ (l.getD k id0).l:=by
 unfold idsB
 rw[List.take_succ_eq_append_getElem hk,List.map_append,List.flatten_append,List.getD_eq_getElem?_getD,List.getElem?_eq_getElem hk]
 simp
theorem ae0_: ∀ (l:List IdL),(idsB l).length=l.length*32
 | []=>rfl
 |x::r=>by
  have h:=ae0_ r
  have:=x.h
  unfold idsB at h ⊢
  rw[List.map_cons,List.flatten_cons,List.length_append,h,List.length_cons]
  omega
def aeA_ (c:ComL):List UInt8:=c.tree.l++qP_ (zz_ c.par.length)
def comB (c:ComL):List UInt8:=aeA_ c++idsB c.par++xi_ c.text
set_option linter.defProp false
def ZW_:=And.intro (And.intro (And.intro (@aih_) (@ag4_)) (And.intro (@j4_) (And.intro (@zi_) (@zh_)))) (And.intro (And.intro (@wM_) (@w2_)) (And.intro (@wm_) (And.intro (@Qv_) (@kr_))))
theorem KA_ (v:Value) (c:ComL) (w:World) (hv:ComS w v c) (hl:c.par.length<1000000) (ht:c.text.length<1099511627776):
  Rets Tryz.prog 189 #[v] w (fun v' D=>v'=vs (comB c)∧D= []):=by
 obtain⟨p,rfl,hp⟩:=hv
 obtain⟨b,off,arr,E,fz,hr⟩:=hp.row
 have ln:=hp.len
 have t2:=vv_ ht
 have t3:=zm_ (c.par.length:Int)
 have t4:=c.tree.h
 have t5: (aeA_ c).length≤38:=by unfold aeA_;rw[List.length_append];omega
 refine Rets.enterV Tryz.func189 rfl (rs:= [.tmp 2]) Tryz.results189 Tryz.ntmps189 ?_
 refine kf ?_
 first|with_reducible refine ks [] @ZW_ ?_|refine kp @ZW_ ?_
 refine Ow.box rfl rfl fun bx hbx hwx=> ?_
 simp only[z8_,z3_,z4_,zc_,List.nil_append,List.cons_append]
 refine Ow.go rfl ?_
 simp(disch:=(first|assumption|omega| (simp only[xg_,xe_,UInt64.reduceToNat];try omega))) only[↓Sx.S0,Sx.S1,Tryz.fx,ZW_,Nat.reduceAdd,Nat.reducePow,Int.reducePow,Nat.reduceBEq, ↓reduceIte,UInt8.reduceToNat,UInt16.reduceToNat,UInt32.reduceToNat,UInt64.reduceToNat,Int.reduceToNat]
 first|with_reducible refine ks [] (And.intro @ZW_ @ln) ?_|refine kp (And.intro @ZW_ @ln) ?_
 refine Cw.regionS [bx] [0,3,1,4,5,2,6,7,8] [] (by kernel_rfl) (by kernel_rfl) (by kernel_rfl) ?_
 simp only[zg_, ↓zd_, ↓zb_, ↓zp_, ↓zq_,za_]
 refine kq (And.intro @ZW_ @ln) ?_
 refine Ow.callFV rfl Tryz.call93 (fun w' hw'=>J1_ _ w') ?_
 refine kq (And.intro @ZW_ @ln) ?_
 refine Ow.callFV rfl Tryz.call91 (fun w' hw'=>jy_ _ _ w' (Nat.le_refl _)) ?_
 refine kq (And.intro @ZW_ @ln) ?_
 rw[show c.tree.l++qP_ (zz_ c.par.length)=aeA_ c++idsB (c.par.take 0) by simp[aeA_,idsB]]
 refine Cw.loopG (G:=Nat) [13,14,15,16,17,20,21,22,23,24,25,26,27,3,18,19,4] (fun g=> [(3,vs (aeA_ c++idsB (c.par.take g))),(4,vi g)]) (fun g=> [(bx, .cells (q5_ c.tree p c.text).toArray 241 (0,0))]) (fun g=>g≤c.par.length) (fun g=>c.par.length - g) 0 rfl rfl ?_ ?_
 ·exact Nat.zero_le _
 ·intro k jk hk
  refine kv ?_
  have h1:k≤c.par.length:=hk
  clear hk
  have t6:=ae0_ (c.par.take k)
  rw[List.length_take,Nat.min_eq_left h1] at t6
  by_cases hk:k<c.par.length
  ·have h0:0<c.par.length:=by omega
   have hbl:=hr.lt h0
   have hnb:bx≠b:=by omega
   have r2:=hr.has h0
   have i2:=hr.idx true k hk
   have l2:=JH_ hr hk
   have hxl:=(c.par.getD k id0).h
   first|with_reducible refine ks [] (And.intro @ZW_ (And.intro @ln (And.intro @r2 (And.intro @i2 (@l2))))) ?_|refine kp (And.intro @ZW_ (And.intro @ln (And.intro @r2 (And.intro @i2 (@l2))))) ?_
   refine Ow.callFV rfl Tryz.call93 (fun w' hw'=>J1_ _ w') ?_
   refine ko (And.intro @ZW_ (And.intro @ln (And.intro @r2 (And.intro @i2 (@l2))))) ?_
   exact Again.mk (k+1) (by omega) (by omega) rfl (by rw[ai0_ hk,←List.append_assoc];rfl)
  ·obtain rfl:k=c.par.length:=by omega
   rw[List.take_length]
   rw[List.take_length] at t6
   first|with_reducible refine ks [] (And.intro @ZW_ @ln) ?_|refine kp (And.intro @ZW_ @ln) ?_
   refine Ow.callFV rfl Tryz.call92 (fun w' hw'=>vs_ _ w' ht) ?_
   refine ko @ZW_ ?_
   refine⟨_,(ke @ZW_),⟨hwx,trivial⟩, ?_⟩
   rfl
end Go.Proofs
end
section
open Go Go.Proofs Go.Sx Go.StP
namespace Go.Proofs
set_option maxRecDepth 10000
set_option maxHeartbeats 400000
set_option linter.unusedSimpArgs false
instance:DecidableEq EntL:=fun a b=>if h:a.name=b.name∧a.kind=b.kind∧a.id.l=b.id.l then .isTrue (by cases a;cases b;simp only at h;obtain⟨rfl,rfl,h3⟩:=h;rw[IdL.ext' h3]) else .isFalse (fun e=>h (by rw[e];exact⟨rfl,rfl,rfl⟩))
theorem EntL.ext' {a b:EntL} (h: (a.name==b.name&&a.kind==b.kind&&a.id.l==b.id.l)=true):a=b:=by
 simp only[Bool.and_eq_true,beq_iff_eq] at h
 cases a;cases b;simp only at h;obtain⟨⟨rfl,rfl⟩,h3⟩:=h;rw[IdL.ext' h3]
set_option linter.defProp false
def as5_:=And.intro (And.intro (And.intro (@vG_) (@wF_)) (And.intro (@w1_) (@jC_))) (And.intro (And.intro (@ql_) (@qr_)) (And.intro (@zi_) (And.intro (@zh_) (@aru_))))
end Go.Proofs
end
section
open Go Go.Proofs Go.Sx Go.StP
namespace Go.Proofs
set_option maxRecDepth 10000
set_option maxHeartbeats 400000
set_option linter.unusedSimpArgs false
def vc_ (l:List UInt8):IdL:=if h:l.length=32 then⟨l,h⟩ else id0
theorem kS_ {l:List UInt8} (h:l.length=32): (vc_ l).l=l:=by unfold vc_;rw[dif_pos h]
theorem wK_ (s:List UInt8) (a:Nat) (e:Int): (idR s a e).1.length=32:=by
 unfold idR
 simp only
 split
 ·assumption
 ·simp[z32]
theorem V4_ {s:List UInt8} {a:Nat} {e:Int} (ha:a≤s.length):a≤ (idR s a e).2.1∧(idR s a e).2.1≤s.length:=kG_ ha
theorem xl_ {s:List UInt8} {a:Nat} {e most:Int} (ha:a≤s.length):a≤ (zI_ s a e most).2.1∧(zI_ s a e most).2.1≤s.length:=by
 have hp:=zO_ (e:=e) (most:=most) ha
 have hq:=kG_ (e:=(zr_ s a e most).2.2) (n:=(zr_ s a e most).1) hp.2
 unfold zI_
 simp only
 split
 ·exact⟨Nat.le_refl _,ha⟩
 ·exact⟨by omega,hq.2⟩
theorem Qb_ (s:List UInt8) (a:Nat) (e most:Int): (zI_ s a e most).1.length≤s.length:=by
 have: ∀ (b:Nat) (e n:Int),(qD_ s b e n).1.length≤s.length:=by
  intro b e n
  unfold qD_
  split
  ·simp
  ·split
   ·simp
   ·split
    ·simp
    ·simp only[List.length_take,List.length_drop];omega
 unfold zI_
 simp only
 split
 ·simp
 ·exact this _ _ _
theorem VY_ {s:List UInt8} {a:Nat} {e n:Int} (he:e≠0): (qD_ s a e n).2=(a,e):=by unfold qD_;rw[if_pos he]
theorem ZD_ {s:List UInt8} {a:Nat} {e most:Int} (he:e≠0): (zr_ s a e most).2=(a,e):=by unfold zr_;rw[if_pos he]
theorem W7_ {s:List UInt8} {a:Nat} {e most:Int} (he:e≠0): (zI_ s a e most).2=(a,e):=by
 unfold zI_
 simp only[ZD_ he,VY_ he]
 rw[if_pos he]
theorem agA_ {s:List UInt8} {a:Nat} {e:Int} (he:e≠0): (idR s a e).2=(a,e):=by unfold idR;simp only[VY_ he]
theorem ajD_ {s:List UInt8} {a:Nat} {e n:Int} (h:e≠5): (qD_ s a e n).2.2≠5:=by
 unfold qD_
 split
 ·exact h
 ·split
  ·show(2:Int)≠5;decide
  ·split
   ·show(3:Int)≠5;decide
   ·show(0:Int)≠5;decide
theorem anZ_ (most:Int): ∀ (l:List UInt8) (k n x:Nat),qb_ most l k n= .error x→x≠5:=by
 intro l
 induction l with
 |nil=>intro k n x h;unfold qb_ at h;cases h;decide
 |cons c r ih=>
  intro k n x h
  unfold qb_ at h
  split at h
  ·split at h
   ·cases h;decide
   ·exact ih _ _ _ h
  ·split at h
   ·cases h;decide
   ·split at h
    ·cases h
    ·cases h;decide
theorem ajp_ (most:Int): ∀ (l:List UInt8) (k n:Nat),qb_ most l k n≠ .error 0:=by
 intro l
 induction l with
 |nil=>intro k n h;unfold qb_ at h;cases h
 |cons c r ih=>
  intro k n h
  unfold qb_ at h
  split at h
  ·split at h
   ·cases h
   ·exact ih _ _ h
  ·split at h
   ·cases h
   ·split at h
    ·cases h
    ·cases h
theorem ako_ {s:List UInt8} {a:Nat} {e most:Int} (h:e≠5): (zr_ s a e most).2.2≠5:=by
 unfold zr_
 split
 ·exact h
 ·split
  ·show(0:Int)≠5;decide
  ·rename_i x hx
   have:=anZ_ _ _ _ _ _ hx
   show((x:Nat):Int)≠5
   omega
theorem anY_ {s:List UInt8} {a:Nat} {e most:Int} (h:e≠5): (zI_ s a e most).2.2≠5:=by
 unfold zI_
 simp only
 split
 ·exact ajD_ (ako_ h)
 ·exact ajD_ (ako_ h)
theorem arE_ {s:List UInt8} {a:Nat} {e:Int} (h:e≠5): (idR s a e).2.2≠5:=by unfold idR;exact ajD_ h
theorem ajv_ {s:List UInt8} {a:Nat} {e most:Int} (h: (zr_ s a e most).2.2=0):a< (zr_ s a e most).2.1:=by
 unfold zr_ at h ⊢
 split
 ·rename_i he
  rw[if_pos he] at h
  exact absurd h he
 ·rename_i he
  rw[if_neg he] at h
  split
  ·rename_i n k hk
   have:=WA_ _ _ _ _ _ _ hk
   show a<a+k
   omega
  ·rename_i x hx
   rw[hx] at h
   exfalso
   have:x=0:=by have: ((x:Nat):Int)=0:=h;omega
   subst this
   exact ajp_ _ _ _ _ hx
def KQ_ (s:List UInt8) (a:Nat) (e:Int):EntL×Nat×Int:=
 let p:=zr_ s a e 2
 let q:=zI_ s p.2.1 p.2.2 32
 let i:=idR s q.2.1 q.2.2
 (⟨q.1,p.1,vc_ i.1⟩,i.2)
theorem adq_ {s:List UInt8} {a:Nat} {e:Int} (ha:a≤s.length):a≤ (KQ_ s a e).2.1∧(KQ_ s a e).2.1≤s.length:=by
 have h1:=zO_ (e:=e) (most:=2) ha
 have h2:=xl_ (e:=(zr_ s a e 2).2.2) (most:=32) h1.2
 have h3:=V4_ (e:=(zI_ s (zr_ s a e 2).2.1 (zr_ s a e 2).2.2 32).2.2) h2.2
 unfold KQ_
 exact⟨by simp only;omega,h3.2⟩
theorem aqE_ {s:List UInt8} {a:Nat} {e:Int} (h:e≠5): (KQ_ s a e).2.2≠5:=arE_ (anY_ (ako_ h))
theorem akG_ {s:List UInt8} {a:Nat} {e:Int} (ha:a≤s.length) (h: (KQ_ s a e).2.2=0):a< (KQ_ s a e).2.1:=by
 have h1:=zO_ (e:=e) (most:=2) ha
 have h2:=xl_ (e:=(zr_ s a e 2).2.2) (most:=32) h1.2
 have h3:=V4_ (e:=(zI_ s (zr_ s a e 2).2.1 (zr_ s a e 2).2.2 32).2.2) h2.2
 unfold KQ_ at h ⊢
 simp only at h ⊢
 have e2: (zI_ s (zr_ s a e 2).2.1 (zr_ s a e 2).2.2 32).2.2=0:=Decidable.byContradiction fun hn=>by rw[agA_ hn] at h;exact hn h
 have e1: (zr_ s a e 2).2.2=0:=Decidable.byContradiction fun hn=>by rw[W7_ hn] at e2;exact hn e2
 have:=ajv_ e1
 omega
def kT_ (s:List UInt8):Nat→Nat→Int→List EntL→List EntL×Nat×Int
 |0,a,e,l=>(l,a,e)
 |n+1,a,e,l=>if e=0∧a<s.length then kT_ s n (KQ_ s a e).2.1 (KQ_ s a e).2.2 (l++ [(KQ_ s a e).1]) else(l,a,e)
theorem Kq_ {s:List UInt8} {n a:Nat} {e:Int} {l:List EntL} (h:e=0∧a<s.length):kT_ s (n+1) a e l=kT_ s n (KQ_ s a e).2.1 (KQ_ s a e).2.2 (l++ [(KQ_ s a e).1]):=by rw[kT_,if_pos h]
theorem Q2_ {s:List UInt8} {n a:Nat} {e:Int} {l:List EntL} (h: ¬ (e=0∧a<s.length)):kT_ s n a e l=(l,a,e):=by
 cases n with
 |zero=>rfl
 |succ n=>rw[kT_,if_neg h]
def jR_ (s:List UInt8):List EntL×Nat×Int:=kT_ s (s.length+1) 0 0 []
structure EntsJ (s:List UInt8) (n a:Nat) (e:Int) (l:List EntL):Prop where
 go:jR_ s=kT_ s n a e l
 le:a≤s.length
 five:e≠5
 fuel:e=0→s.length<a+n
 cnt:l.length+n=s.length+1
 short: ∀i,i<l.length→(l.getD i jQ_).name.length≤s.length
theorem EntsJ.init (s:List UInt8):EntsJ s (s.length+1) 0 0 []:=⟨rfl,Nat.zero_le _,by decide,fun _=>by omega,by simp,fun i hi=>by simp at hi⟩
theorem EntsJ.next {s:List UInt8} {n a:Nat} {e:Int} {l:List EntL} (h:EntsJ s n a e l) (hc:e=0∧a<s.length): ∃m,n=m+1∧EntsJ s m (KQ_ s a e).2.1 (KQ_ s a e).2.2 (l++ [(KQ_ s a e).1]):=by
 have:=h.fuel hc.1
 obtain⟨m,rfl⟩: ∃m,n=m+1:=⟨n - 1,by omega⟩
 refine⟨m,rfl,h.go.trans (Kq_ hc),(adq_ h.le).2,aqE_ h.five,fun h0=> ?_, ?_,fun i hi=> ?_⟩
 ·have:=akG_ h.le h0;omega
 ·have:=h.cnt;simp only[List.length_append,List.length_cons,List.length_nil];omega
 ·by_cases hlt:i<l.length
  ·rw[jL_ hlt];exact h.short i hlt
  ·have:i=l.length:=by simp only[List.length_append,List.length_cons,List.length_nil] at hi;omega
   subst this
   rw[qy_ (Nat.le_refl _),Nat.sub_self]
   exact Qb_ _ _ _ _
theorem EntsJ.done {s:List UInt8} {n a:Nat} {e:Int} {l:List EntL} (h:EntsJ s n a e l) (hc: ¬ (e=0∧a<s.length)):jR_ s=(l,a,e):=h.go.trans (Q2_ hc)
theorem EntsJ.sh {s:List UInt8} {n a:Nat} {e:Int} {l:List EntL} (h:EntsJ s n a e l) (hs:s.length<1000000):abR_ l:=fun i hi=>by have:=h.short i hi;omega
end Go.Proofs
end
section
open Go Go.Proofs Go.Sx Go.StP
namespace Go.Proofs
set_option maxRecDepth 10000
set_option maxHeartbeats 400000
set_option linter.unusedSimpArgs false
theorem aeL_:qp_ (x3_ Tryz.prog 268) (zE_ Tryz.prog 268) []=some (.agg (qQ_ jQ_).toArray):=by
 rw[show x3_ Tryz.prog 268=some [(0,1),(1,1),(2,32)] from id (by kernel_rfl),WK_];rfl
theorem akf_ (s:List UInt8):qp_ (x3_ Tryz.prog 166) (zE_ Tryz.prog 166) [(0,vs s)]=some (.agg #[vs s,vi 0,vi 0]):=by
 have hp:x3_ Tryz.prog 166=some [(0,1),(1,1),(2,1)]:=id (by kernel_rfl)
 have hz:zE_ Tryz.prog 166=some (.agg #[vs [],vi 0,vi 0]):=id (by kernel_rfl)
 rw[hp,hz];rfl
def acR_ (s:List UInt8):Option (List EntL):=if(jR_ s).2.2=0∧kJ_ (jR_ s).1=true∧k7_ (jR_ s).1=s then some (jR_ s).1 else none
def akN_ (s:List UInt8) (v:Value) (D:ze_):Prop:=
 match acR_ s with
 |some l=> ∃v1,v= .tuple #[v1, .bool true]∧Gr D 268 34 v1 l.length (l.map qQ_).flatten
 |none=>v= .tuple #[.slice none 0 0, .bool false]
structure EnG where
 n:Nat
 a:Nat
 e:Int
 l:List EntL
 v:Value
 D:ze_
set_option linter.defProp false
def jd_:=And.intro (And.intro (And.intro (@kc_) (And.intro (@ke_) (@kf_))) (And.intro (@xr_) (And.intro (@xp_) (@jC_)))) (And.intro (And.intro (@VP_) (And.intro (@VL_) (@VW_))) (And.intro (And.intro (@ql_) (@qr_)) (And.intro (@zi_) (@zh_))))
theorem aas_ (s:List UInt8) (w:World) (hs:s.length<100000):
  Rets Tryz.prog 165 #[vs s] w (XS w [] (akN_ s)):=by
 refine Rets.enterX Tryz.func165 rfl (rs:= [.tmp 2, .tmp 3]) Tryz.results165 Tryz.ntmps165 (fun p hp=>by cases hp) (by simp[keys]) ?_
 refine kf ?_
 first|with_reducible refine ks [] @jd_ ?_|refine kp @jd_ ?_
 refine Ow.build ((.agg #[vs s,vi 0,vi 0])) rfl (by kernel_rfl) ?_
 refine ko @jd_ ?_
 refine Ow.box rfl rfl fun br hbr hwr=> ?_
 simp only[z8_,z3_,z4_,zc_,List.nil_append]
 refine ko @jd_ ?_
 refine Cw.loopG (G:=EnG) [10,11,12,13,14,15,16,17,18,19,20,21,22,23,24,6,25,26,27,28,29,30,31,32,33,34,35,36,37,5] (fun q=> [(5,q.v)]) (fun q=>(br, .cells #[vs s,vi q.a,vi q.e] 166 (0,0))::q.D) (fun q=>EntsJ s q.n q.a q.e q.l∧New (br+1) q.D∧Gr q.D 268 34 q.v q.l.length (q.l.map qQ_).flatten) (fun q=>q.n) ⟨s.length+1,0,0,[], .slice none 0 0,[]⟩ rfl rfl ?_ ?_
 ·exact⟨EntsJ.init s,trivial,Gr.nl⟩
 ·intro q jq hq
  refine kv ?_
  obtain⟨n,a,e,l,v,D⟩:=q
  simp only at hq ⊢
  obtain⟨hJ,hN,hG⟩:=hq
  have hle:=hJ.le
  by_cases hc:e=0∧a<s.length
  ·obtain⟨m,rfl,hJ'⟩:=hJ.next hc
   obtain⟨he,hlt⟩:=hc
   have d1: (e==0)=true:=by simp[he]
   have d2:decide ((a:Int)< (s.length:Int))=true:=decide_eq_true (by omega)
   have hp:=zO_ (e:=e) (most:=2) hle
   have hq:=xl_ (e:=(zr_ s a e 2).2.2) (most:=32) hp.2
   have heq:KQ_ s a e=(⟨(zI_ s (zr_ s a e 2).2.1 (zr_ s a e 2).2.2 32).1,(zr_ s a e 2).1,vc_ (idR s (zI_ s (zr_ s a e 2).2.1 (zr_ s a e 2).2.2 32).2.1 (zI_ s (zr_ s a e 2).2.1 (zr_ s a e 2).2.2 32).2.2).1⟩,(idR s (zI_ s (zr_ s a e 2).2.1 (zr_ s a e 2).2.2 32).2.1 (zI_ s (zr_ s a e 2).2.1 (zr_ s a e 2).2.2 32).2.2).2):=rfl
   have hil:=wK_ s (zI_ s (zr_ s a e 2).2.1 (zr_ s a e 2).2.2 32).2.1 (zI_ s (zr_ s a e 2).2.1 (zr_ s a e 2).2.2 32).2.2
   first|with_reducible refine ks [] (And.intro @jd_ (And.intro @d1 (@d2))) ?_|refine kp (And.intro @jd_ (And.intro @d1 (@d2))) ?_
   refine Ow.build (.agg (qQ_ jQ_).toArray) rfl aeL_ ?_
   refine ko @jd_ ?_
   refine Ow.alloc rfl rfl WK_ fun b6 hb6 hw6=> ?_
   simp only[zc_,List.nil_append,List.cons_append]
   have hr6:br<b6:=zf_ hb6 (by simp[keys])
   refine Ow.permL (M:=(b6,Obj.cells (qQ_ jQ_).toArray 268 (0,0)):: (br, .cells #[vs s,vi a,vi e] 166 (0,0))::D) (by classical exact List.perm_iff_count.2 fun a=>by simp only[List.count_append,List.count_cons,List.count_nil]<;>omega) ?_
   refine ko @jd_ ?_
   refine Ow.callM rfl rfl Tryz.call98 (by simp[keys]) (fun w' hw'=>xO_ br s a e 2 w' hle (by omega) (hw'.has _ _ (List.mem_cons_of_mem _ List.mem_cons_self))) ?_
   generalize zr_ s a e 2=p at*
   obtain⟨kd,a1,e1⟩:=p
   simp only at hp hq heq hil ⊢
   refine kn ?_
   refine ko @jd_ ?_
   first|with_reducible refine ks [] @jd_ ?_|refine kp @jd_ ?_
   refine Ow.callM rfl rfl Tryz.call99 (by simp[keys]) (fun w' hw'=>kQ_ br s a1 e1 32 w' hp.2 (by omega) (hw'.has _ _ (List.mem_cons_of_mem _ List.mem_cons_self))) ?_
   generalize zI_ s a1 e1 32=q at*
   obtain⟨tt,a2,e2⟩:=q
   simp only at hq heq hil ⊢
   refine kn ?_
   refine ko @jd_ ?_
   first|with_reducible refine ks [] @jd_ ?_|refine kp @jd_ ?_
   refine Ow.callM rfl rfl Tryz.call101 (by simp[keys]) (fun w' hw'=>QY_ br s a2 e2 w' hq.2 (by omega) (hw'.has _ _ (List.mem_cons_of_mem _ List.mem_cons_self))) ?_
   generalize idR s a2 e2=i at*
   obtain⟨il,a3,e3⟩:=i
   simp only at heq hil ⊢
   obtain⟨I,hI⟩: ∃I,vc_ il=I:=⟨_,rfl⟩
   have hiI:il=I.l:=by rw[←hI,kS_ hil]
   rw[hI] at heq
   rw[hiI]
   refine kn ?_
   refine ko @jd_ ?_
   generalize hx: ({name:=tt,kind:=kd,id:=I}:EntL)=x
   rw[hx] at heq
   rw[heq] at hJ'
   refine Ow.buildSlice (e:=268) (qQ_ x).toArray rfl rfl (zR_ Tryz.underlying237 afN_ WK_ (by decide) (qT_ x)) fun b13 hb13 hw13=> ?_
   have hr13:br<b13:=zf_ hb13 (by simp[keys])
   refine Ow.permL (M:=D++ ((b6,Obj.cells (qQ_ x).toArray 268 (0,0)):: (br, .cells #[vs s,vi a3,vi e3] 166 (0,0)):: [(b13,Obj.cells (qQ_ x).toArray 268 (0,0))])) (by classical exact List.perm_iff_count.2 fun a=>by simp only[List.count_append,List.count_cons,List.count_nil]<;>omega) ?_
   refine ko @jd_ ?_
   refine Ow.appendX (e:=268) (k:=1) (new:=qQ_ x) (X:=D) v rfl rfl rfl rfl Tryz.underlying237 afN_ (by kernel_rfl) WK_ (by rw[qr_,List.size_toArray,qT_]) Tryz.underlying237 (by intro k h;cases h) hG (fun w' hw'=>AppX.one1 (hw'.has b13 (.cells (qQ_ x).toArray 268 (0,0)) (by simp)) (qT_ _) (JX_ _)) (by omega) (by have:=hJ.cnt;omega) (fun B v4 D4 hA4 hB4 hbuf hk1 hk2 hlk=> ?_)
   have hB13:b13<B:=zf_ hA4 (by simp[zk_,keys])
   have hN4:New (br+1) D4:=New.of_le fun q hq=>by
    rcases hk2 q hq with h|h
    ·exact hN.le q h
    ·omega
   refine Ow.permL (M:=(br, .cells #[vs s,vi a3,vi e3] 166 (0,0)):: (D4++ [(b6,Obj.cells (qQ_ x).toArray 268 (0,0)),(b13,Obj.cells (qQ_ x).toArray 268 (0,0))])) (by classical exact List.perm_iff_count.2 fun a=>by simp only[List.count_append,List.count_cons,List.count_nil]<;>omega) ?_
   refine ko @jd_ ?_
   refine Again.mk (EnG.mk m a3 e3 (l++ [x]) v4 (D4++ [(b6,Obj.cells (qQ_ x).toArray 268 (0,0)),(b13,Obj.cells (qQ_ x).toArray 268 (0,0))])) (by show m<m+1;omega) ⟨hJ',hN4.app ⟨by omega,by omega,trivial⟩, ?_⟩ rfl rfl
   show Gr _ _ _ _ (l++ [x]).length ((l++ [x]).map qQ_).flatten
   rw[List.length_append,List.map_append,List.flatten_append,show([x].map qQ_).flatten=qQ_ x by simp]
   exact Gr.app (.inl hbuf)
  ·have hd:=hJ.done hc
   have hsh:=hJ.sh (by omega)
   have hcn:=hJ.cnt
   have hR:acR_ s=if e=0∧kJ_ l=true∧k7_ l=s then some l else none:=by unfold acR_;rw[hd]
   unfold akN_
   rw[hR]
   have hNe:New w.heap.size ((br,Obj.cells #[vs s,vi a,vi e] 166 (0,0))::D):=⟨hwr,New.mono (by omega) hN⟩
   by_cases he:e=0
   ·have d1: (e==0)=true:=by simp[he]
    have d2:decide ((a:Int)< (s.length:Int))=false:=decide_eq_false (by omega)
    have hend: (if e≠0 then e else if(a:Int)< (s.length:Int) then 5 else 0)=(0:Int):=by rw[if_neg (by simp[he]),if_neg (by omega)]
    first|with_reducible refine ks [] (And.intro @jd_ (And.intro @d1 (@d2))) ?_|refine kp (And.intro @jd_ (And.intro @d1 (@d2))) ?_
    refine Ow.callFV rfl Tryz.call102 (fun w' hw'=>vX_ br s a e w' (hw'.has _ _ (by simp))) ?_
    rw[hend]
    have d4: ((0:Int) !=0)=false:=rfl
    refine ko (And.intro @jd_ @d4) ?_
    refine Ow.callFV rfl Tryz.call186 (fun w' hw'=>K8_ v l w' (hG.slM (fun b o hm=>hw'.has b o (by simp[hm])) rfl rfl qT_) (by omega) hsh) ?_
    cases hr:kJ_ l
    ·rw[if_neg (by simp)]
     refine ko @jd_ ?_
     first|with_reducible refine ks [] @jd_ ?_|refine kp @jd_ ?_
     refine⟨_,(ke @jd_), ?_⟩
     exact⟨Ext.of_new hNe,rfl⟩
    ·refine ko @jd_ ?_
     refine Ow.callFV rfl Tryz.call187 (fun w' hw'=>WN_ v l w' (hG.slM (fun b o hm=>hw'.has b o (by simp[hm])) rfl rfl qT_) (by omega) hsh) ?_
     by_cases hb:k7_ l=s
     ·have d3: (k7_ l !=s)=false:=by simp[hb]
      rw[if_pos ⟨he,rfl,hb⟩]
      refine ko (And.intro @jd_ @d3) ?_
      first|with_reducible refine ks [] @jd_ ?_|refine kp @jd_ ?_
      refine⟨_,(ke @jd_), ?_⟩
      exact⟨Ext.of_new hNe,v,rfl,hG.keep fun b o hb ho=>by rw[Sx.look,if_neg (by have:=hN.le b (zx_ ho);omega)];exact ho⟩
     ·have d3: (k7_ l !=s)=true:=by simp[hb]
      rw[if_neg (fun h=>hb h.2.2)]
      refine ko (And.intro @jd_ @d3) ?_
      first|with_reducible refine ks [] @jd_ ?_|refine kp @jd_ ?_
      refine⟨_,(ke @jd_), ?_⟩
      exact⟨Ext.of_new hNe,rfl⟩
   ·have d1: (e==0)=false:=by simp[he]
    have d3: (e !=0)=true:=by simp[he]
    have hend: (if e≠0 then e else if(a:Int)< (s.length:Int) then 5 else 0)=e:=by rw[if_pos he]
    rw[if_neg (fun h=>he h.1)]
    first|with_reducible refine ks [] (And.intro @jd_ @d1) ?_|refine kp (And.intro @jd_ @d1) ?_
    refine Ow.callFV rfl Tryz.call102 (fun w' hw'=>vX_ br s a e w' (hw'.has _ _ (by simp))) ?_
    rw[hend]
    refine ko (And.intro @jd_ @d3) ?_
    first|with_reducible refine ks [] @jd_ ?_|refine kp @jd_ ?_
    refine⟨_,(ke @jd_), ?_⟩
    exact⟨Ext.of_new hNe,rfl⟩
end Go.Proofs
end
section
open Go Go.Proofs Go.Sx Go.StP
namespace Go.Proofs
set_option maxRecDepth 10000
set_option maxHeartbeats 400000
set_option linter.unusedSimpArgs false
theorem ZQ_ (most:Int): ∀ (l:List UInt8) (k n m k':Nat),qb_ most l k n= .ok (m,k')→(m:Int)≤most
 | [],_,_,_,_,h=>by simp[qb_] at h
 |c::r,k,n,m,k',h=>by
  unfold qb_ at h
  split at h
  ·split at h
   ·cases h
   ·exact ZQ_ most r _ _ _ _ h
  ·split at h
   ·cases h
   ·split at h
    ·rename_i hh
     cases h
     exact hh.2
    ·cases h
theorem z9_ {s:List UInt8} {a:Nat} {e most:Int} (h0:0≤most):0≤ (zr_ s a e most).1∧(zr_ s a e most).1≤most:=by
 unfold zr_
 split
 ·exact⟨Int.le_refl 0,h0⟩
 ·split
  ·rename_i n k h
   exact⟨Int.natCast_nonneg _,ZQ_ most _ _ _ _ _ h⟩
  ·exact⟨Int.le_refl 0,h0⟩
def zL_ (s:List UInt8) (a:Nat) (e:Int):Nat→List IdL×Nat×Int
 |0=>([],a,e)
 |n+1=>let p:=zL_ s a e n;let i:=idR s p.2.1 p.2.2;(p.1++ [vc_ i.1],i.2)
theorem QC_ (s:List UInt8) (a:Nat) (e:Int): ∀n,(zL_ s a e n).1.length=n
 |0=>rfl
 |n+1=>by simp only[zL_,List.length_append,List.length_cons,List.length_nil,QC_ s a e n]
theorem Qh_ {s:List UInt8} {a:Nat} {e:Int} (ha:a≤s.length): ∀n,(zL_ s a e n).2.1≤s.length
 |0=>ha
 |n+1=>(V4_ (Qh_ ha n)).2
def comN (s:List UInt8):Int×Nat×Int:=zr_ s (idR s 0 0).2.1 (idR s 0 0).2.2 4
def wk_ (s:List UInt8):List IdL×Nat×Int:=zL_ s (comN s).2.1 (comN s).2.2 (comN s).1.toNat
def comT (s:List UInt8):List UInt8×Nat×Int:=zI_ s (wk_ s).2.1 (wk_ s).2.2 64
def wh_ (s:List UInt8):ComL×Nat×Int:=(⟨vc_ (idR s 0 0).1,(wk_ s).1,(comT s).1⟩,(comT s).2)
def jq_ (s:List UInt8) (a:Nat) (e:Int):Int:=if e≠0 then e else if(a:Int)< (s.length:Int) then 5 else 0
def aeN_ (s:List UInt8):Option ComL:=if jq_ s (wh_ s).2.1 (wh_ s).2.2=0∧wE_ (wh_ s).1=true∧comB (wh_ s).1=s then some (wh_ s).1 else none
theorem agU_ (t x:IdL) (p:Value) (y:List UInt8) (a:Bool) (E:TypeId):zl_ (some (a,32)) (some (.cells (q5_ t p y).toArray E (0,0))) 0 (.agg (a8 x.l))=some (.cells (q5_ x p y).toArray E (0,0)):=
 zS_ [] _ _ _ a _ E rfl (by simp[t.h]) (zc_ _) (by simp[x.h]) (Kb_ _)
theorem aga_ (t:IdL) (p q:Value) (y:List UInt8) (a:Bool) (E:TypeId) (hq:Value.oneCell' q=true∧q.cells= #[q]):zl_ (some (a,1)) (some (.cells (q5_ t p y).toArray E (0,0))) 32 q=some (.cells (q5_ t q y).toArray E (0,0)):=
 zS_ (t.l.map v8) [p] [q] [vs y] a _ E (by simp[t.h]) rfl hq.2 rfl (by simp[hq.1])
theorem agL_ (t:IdL) (p:Value) (y z:List UInt8) (a:Bool) (E:TypeId):zl_ (some (a,1)) (some (.cells (q5_ t p y).toArray E (0,0))) 33 (vs z)=some (.cells (q5_ t p z).toArray E (0,0)):=by
 have e: ∀y,q5_ t p y=(t.l.map v8++ [p])++ ([vs y]++ []):=fun y=>by unfold q5_;simp only[List.append_assoc,List.append_nil]
 rw[e,e];exact zS_ _ _ _ _ a _ E (by simp[t.h]) rfl rfl rfl rfl
theorem alX_:zE_ Tryz.prog 241=some (.agg (q5_ id0 (.slice none 0 0) []).toArray):=id (by kernel_rfl)
theorem Zo_:qp_ (x3_ Tryz.prog 241) (zE_ Tryz.prog 241) []=some (.agg (q5_ id0 (.slice none 0 0) []).toArray):=by
 rw[show x3_ Tryz.prog 241=some [(0,32),(32,1),(33,1)] from id (by kernel_rfl),alX_];rfl
theorem we_:z2_ Tryz.prog 37=some (true,32):=id (by kernel_rfl)
theorem wv_:zE_ Tryz.prog 37=some (.agg (a8 id0.l)):=id (by kernel_rfl)
end Go.Proofs
end
section
open Go Go.Proofs Go.Sx Go.StP
namespace Go.Proofs
set_option maxRecDepth 10000
set_option maxHeartbeats 400000
set_option linter.unusedSimpArgs false
theorem Z5_ {b:Nat} {x:Obj}: ∀ {D L:ze_},b∉keys D→setB (D++L) b x=D++setB L b x
 | [],_,_=>rfl
 | (c,y)::r,L,h=>by
  simp only[keys,List.map_cons,List.mem_cons,not_or] at h
  rw[List.cons_append,jK_ _ _ _ _ _ (Ne.symm h.1),Z5_ (by simpa [keys] using h.2)];rfl
def ait_ (s:List UInt8) (v:Value) (D:ze_):Prop:=
 match aeN_ s with
 |some c=> ∃p,v= .tuple #[.agg (q5_ c.tree p c.text).toArray, .bool true]∧Gr D 37 32 p c.par.length (c.par.map wb_).flatten
 |none=>v= .tuple #[.agg (q5_ id0 (.slice none 0 0) []).toArray, .bool false]
theorem Js_ (b:Nat) (s:List UInt8) (a:Nat) (e:Int) (w:World) (ho:w.heap[b]? =some (.cells #[vs s,vi a,vi e] 166 (0,0))):
  Rets Tryz.prog 102 #[vp b 0] w (fun v D=>v=vi (jq_ s a e)∧D= []):=vX_ b s a e w ho
structure CmG where
 g:Nat
 v:Value
 D:ze_
set_option linter.defProp false
def q1_:=And.intro (And.intro (And.intro (@kc_) (And.intro (@ke_) (@kf_))) (And.intro (And.intro (@xr_) (@xp_)) (And.intro (@wM_) (@w2_)))) (And.intro (And.intro (@wm_) (And.intro (@Qv_) (@kr_))) (And.intro (And.intro (@agU_) (@agL_)) (And.intro (@zi_) (@zh_))))
theorem WY_ (s:List UInt8) (w:World) (hs:s.length<100000):
  Rets Tryz.prog 166 #[vs s] w (XS w [] (ait_ s)):=by
 refine Rets.enterX Tryz.func166 rfl (rs:= [.cell 2 241, .tmp 3]) Tryz.results166 Tryz.ntmps166 (fun p hp=>by cases hp) (by simp[keys]) ?_
 refine kf ?_
 first|with_reducible refine ks [] @q1_ ?_|refine kp @q1_ ?_
 refine Ow.alloc rfl rfl alX_ fun b2 hb2 hw2=> ?_
 simp only[zc_,List.nil_append,List.cons_append]
 refine ko @q1_ ?_
 refine Ow.build ((.agg #[vs s,vi 0,vi 0])) rfl (by kernel_rfl) ?_
 refine ko @q1_ ?_
 refine Ow.box rfl rfl fun br hbr hwr=> ?_
 have h2r:b2<br:=zf_ hbr (by simp[keys])
 simp only[z8_,z3_,z4_,zc_,List.nil_append,List.cons_append]
 refine ko @q1_ ?_
 refine Ow.build (.agg (q5_ id0 (.slice none 0 0) []).toArray) rfl Zo_ ?_
 refine ko @q1_ ?_
 refine Ow.alloc rfl rfl alX_ fun b5 hb5 hw5=> ?_
 simp only[zc_,List.nil_append,List.cons_append]
 have h25:b2<b5:=zf_ hb5 (by simp[keys])
 have hr5:br<b5:=zf_ hb5 (by simp[keys])
 have st5: ∀a E,zl_ (some (a,34)) (some (.cells (q5_ id0 (.slice none 0 0) []).toArray E (0,0))) 0 (.agg (q5_ id0 (.slice none 0 0) []).toArray)=some (.cells (q5_ id0 (.slice none 0 0) []).toArray E (0,0)):=fun a E=>Ko_ _ _ _ _ a E (by rw[List.size_toArray,Zk_]) rfl
 refine ko (And.intro @q1_ @st5) ?_
 refine Ow.callM rfl rfl Tryz.call101 (by simp[keys]) (fun w' hw'=>QY_ br s 0 0 w' (Nat.zero_le _) (by omega) (hw'.has _ _ (List.mem_cons_of_mem _ List.mem_cons_self))) ?_
 have ip:=V4_ (s:=s) (a:=0) (e:=0) (Nat.zero_le _)
 have np:=zO_ (e:=(idR s 0 0).2.2) (most:=4) ip.2
 have nm:=z9_ (s:=s) (a:=(idR s 0 0).2.1) (e:=(idR s 0 0).2.2) (most:=4) (by decide)
 obtain⟨T,hT⟩: ∃T,vc_ (idR s 0 0).1=T:=⟨_,rfl⟩
 have hiT: (idR s 0 0).1=T.l:=by rw[←hT,kS_ (wK_ s 0 0)]
 have hcE:wh_ s=(⟨T,(wk_ s).1,(comT s).1⟩,(comT s).2):=by unfold wh_;rw[hT]
 rw[hiT]
 refine kn ?_
 refine ko @q1_ ?_
 refine Ow.callM rfl rfl Tryz.call98 (by simp[keys]) (fun w' hw'=>xO_ br s _ _ 4 w' ip.2 (by omega) (hw'.has _ _ (List.mem_cons_of_mem _ List.mem_cons_self))) ?_
 have hP:wk_ s=zL_ s (zr_ s (idR s 0 0).2.1 (idR s 0 0).2.2 4).2.1 (zr_ s (idR s 0 0).2.1 (idR s 0 0).2.2 4).2.2 (zr_ s (idR s 0 0).2.1 (idR s 0 0).2.2 4).1.toNat:=rfl
 generalize zr_ s (idR s 0 0).2.1 (idR s 0 0).2.2 4=nr at*
 obtain⟨cn,na,ne⟩:=nr
 simp only at np nm hP ⊢
 obtain⟨k,rfl⟩:=Int.eq_ofNat_of_zero_le nm.1
 rw[Int.toNat_natCast] at hP
 refine kn ?_
 refine ko @q1_ ?_
 refine Cw.permL (M:=(b5, .cells (q5_ T (.slice none 0 0) []).toArray 241 (0,0)):: (br, .cells #[vs s,vi na,vi ne] 166 (0,0)):: (b2, .cells (q5_ id0 (.slice none 0 0) []).toArray 241 (0,0)):: []) (by classical exact List.perm_iff_count.2 fun a=>by simp only[List.count_append,List.count_cons,List.count_nil]<;>omega) ?_
 refine Cw.loopG (G:=CmG) [17,18,19,22,23,24,25,26,27,28,20,21,7] (fun q=> [(7,vi q.g)]) (fun q=>(b5, .cells (q5_ T q.v []).toArray 241 (0,0)):: (br, .cells #[vs s,vi (zL_ s na ne q.g).2.1,vi (zL_ s na ne q.g).2.2] 166 (0,0)):: (b2, .cells (q5_ id0 (.slice none 0 0) []).toArray 241 (0,0))::q.D) (fun q=>q.g≤k∧New (b5+1) q.D∧Gr q.D 37 32 q.v q.g ((zL_ s na ne q.g).1.map wb_).flatten) (fun q=>k - q.g) ⟨0, .slice none 0 0,[]⟩ rfl rfl ?_ ?_
 ·exact⟨Nat.zero_le _,trivial,Gr.nl⟩
 ·intro q jq hq
  refine kv ?_
  obtain⟨g,v,D⟩:=q
  simp only at hq ⊢
  obtain⟨hgk,hN,hG⟩:=hq
  have gle:=Qh_ (e:=ne) np.2 g
  by_cases hlt:g<k
  ·have hgs:zL_ s na ne (g+1)=((zL_ s na ne g).1++ [vc_ (idR s (zL_ s na ne g).2.1 (zL_ s na ne g).2.2).1],(idR s (zL_ s na ne g).2.1 (zL_ s na ne g).2.2).2):=rfl
   first|with_reducible refine ks [7] @q1_ ?_|refine kp @q1_ ?_
   refine Cw.regionS [b5] [0,2,1,3,4,5,6,7] [7] (by kernel_rfl) (by kernel_rfl) (by kernel_rfl) ?_
   simp only[zg_, ↓zd_, ↓zb_, ↓zp_, ↓zq_,za_]
   refine kq @q1_ ?_
   refine Ow.soft rfl rfl rfl ?_
   refine Ow.callM rfl rfl Tryz.call101 (by simp[keys]) (fun w' hw'=>QY_ br s (zL_ s na ne g).2.1 (zL_ s na ne g).2.2 w' gle (by omega) (hw'.has _ _ (List.mem_cons_of_mem _ List.mem_cons_self))) ?_
   with_reducible refine Ow.nil ?_
   refine⟨fun b hb=>wA_ (by simp only[List.mem_cons,List.not_mem_nil,or_false] at hb;omega), ?_⟩
   have hil:=wK_ s (zL_ s na ne g).2.1 (zL_ s na ne g).2.2
   obtain⟨I,hI⟩: ∃I,vc_ (idR s (zL_ s na ne g).2.1 (zL_ s na ne g).2.2).1=I:=⟨_,rfl⟩
   have hiI: (idR s (zL_ s na ne g).2.1 (zL_ s na ne g).2.2).1=I.l:=by rw[←hI,kS_ hil]
   rw[hI] at hgs
   have hg1: (zL_ s na ne (g+1)).1=(zL_ s na ne g).1++ [I]:=by rw[hgs]
   have hg2: (zL_ s na ne (g+1)).2=(idR s (zL_ s na ne g).2.1 (zL_ s na ne g).2.2).2:=by rw[hgs]
   rw[hiI,←hg2]
   refine kn ?_
   refine Ow.soft rfl rfl rfl ?_
   refine Ow.buildSlice (e:=37) (a8 I.l) rfl rfl (zR_ (cs:=I.l.map v8) Tryz.underlying30 we_ wv_ (by decide) (by simp[I.h])) fun b13 hb13 hw13=> ?_
   have hr13:b5<b13:=zf_ hb13 (by simp[keys])
   with_reducible refine Ow.nil ?_
   refine⟨qx_ (by simp[keys]), ?_⟩
   try simp only[List.cons_append,List.nil_append]
   refine Ow.soft rfl rfl rfl ?_
   refine Ow.permL (M:=D++ ((b5,Obj.cells (q5_ T v []).toArray 241 (0,0)):: (br,Obj.cells #[vs s,vi (zL_ s na ne (g+1)).2.1,vi (zL_ s na ne (g+1)).2.2] 166 (0,0)):: (b2,Obj.cells (q5_ id0 (.slice none 0 0) []).toArray 241 (0,0)):: [(b13,Obj.cells (a8 I.l) 37 (0,0))])) (by classical exact List.perm_iff_count.2 fun a=>by simp only[List.count_append,List.count_cons,List.count_nil]<;>omega) ?_
   refine Ow.appendX (e:=37) (k:=1) (new:=wb_ I) (X:=D) v rfl rfl rfl rfl Tryz.underlying30 we_ (by kernel_rfl) wv_ (by rw[zc_,kD_,id0.h]) Tryz.underlying30 (by intro k h;cases h) hG (fun w' hw'=>AppX.one1 (hw'.has b13 (.cells (a8 I.l) 37 (0,0)) (by simp)) (qZ_ I) (vC_ I)) (by omega) (by omega) (fun B v4 D4 hA4 hB4 hbuf hk1 hk2 hlk=> ?_)
   have hB13:b13<B:=zf_ hA4 (by simp[zk_,keys])
   have hN4:New (b5+1) D4:=New.of_le fun q hq=>by
    rcases hk2 q hq with h|h
    ·exact hN.le q h
    ·omega
   have h54:b5∉keys D4:=hN4.not (by omega)
   with_reducible refine Ow.nil ?_
   refine⟨fun q hq=> ?_, ?_⟩
   ·rw[List.mem_singleton] at hq
    subst hq
    rw[w6_ h54]
    simp only[zH_]
   have hlk5: ∀M,Sx.look (D4++M) b5=Sx.look M b5:=fun M=>qJ_ h54
   have hsb5: ∀M x,setB (D4++M) b5 x=D4++setB M b5 x:=fun M x=>Z5_ h54
   have st5:=fun a E=>aga_ T v v4 [] a E hbuf.cell
   refine kq (And.intro @q1_ (And.intro @hlk5 (And.intro @hsb5 (And.intro @st5 (@afy_))))) ?_
   have hst7:xJ_ (z2_ Tryz.prog 30) (D4++ [(b5,Obj.cells (q5_ T v []).toArray 241 (0,0)),(br,Obj.cells #[vs s,vi (zL_ s na ne (g+1)).2.1,vi (zL_ s na ne (g+1)).2.2] 166 (0,0)),(b2,Obj.cells (q5_ id0 (.slice none 0 0) []).toArray 241 (0,0)),(b13,Obj.cells (a8 I.l) 37 (0,0))]) (vp b5 32) v4=
     some (D4++ [(b5,Obj.cells (q5_ T v4 []).toArray 241 (0,0)),(br,Obj.cells #[vs s,vi (zL_ s na ne (g+1)).2.1,vi (zL_ s na ne (g+1)).2.2] 166 (0,0)),(b2,Obj.cells (q5_ id0 (.slice none 0 0) []).toArray 241 (0,0)),(b13,Obj.cells (a8 I.l) 37 (0,0))]):=by
    rw[Tryz.ag30,wR_,hlk5]
    simp only[zT_,st5,QQ_,hsb5,j1_]
   refine Ow.store rfl rfl rfl hst7 ?_
   refine ko @q1_ ?_
   refine Cw.permL (M:=(b5,Obj.cells (q5_ T v4 []).toArray 241 (0,0)):: (br,Obj.cells #[vs s,vi (zL_ s na ne (g+1)).2.1,vi (zL_ s na ne (g+1)).2.2] 166 (0,0)):: (b2,Obj.cells (q5_ id0 (.slice none 0 0) []).toArray 241 (0,0)):: (D4++ [(b13,Obj.cells (a8 I.l) 37 (0,0))])) (by classical exact List.perm_iff_count.2 fun a=>by simp only[List.count_append,List.count_cons,List.count_nil]<;>omega) ?_
   first|with_reducible refine ks [] @q1_ ?_|refine kp @q1_ ?_
   refine Again.mk (CmG.mk (g+1) v4 (D4++ [(b13,Obj.cells (a8 I.l) 37 (0,0))])) (by show k - (g+1)<k - g;omega) ⟨by show g+1≤k;omega,hN4.app ⟨by omega,trivial⟩, ?_⟩ rfl rfl
   show Gr _ _ _ _ (g+1) ((zL_ s na ne (g+1)).1.map wb_).flatten
   rw[hg1,List.map_append,List.flatten_append,show([I].map wb_).flatten=wb_ I by simp]
   exact Gr.app (.inl hbuf)
  ·obtain rfl:g=k:=by omega
   rw[←hP] at hG
   rw[←hP] at gle
   rw[←hP]
   have tp:=xl_ (e:=(wk_ s).2.2) (most:=64) gle
   first|with_reducible refine ks [] @q1_ ?_|refine kp @q1_ ?_
   refine Ow.callM rfl rfl Tryz.call99 (by simp[keys]) (fun w' hw'=>kQ_ br s (wk_ s).2.1 (wk_ s).2.2 64 w' gle (by omega) (hw'.has _ _ (List.mem_cons_of_mem _ List.mem_cons_self))) ?_
   refine kn ?_
   refine ko @q1_ ?_
   have hT2:comT s=zI_ s (wk_ s).2.1 (wk_ s).2.2 64:=rfl
   have htl:=Qb_ s (wk_ s).2.1 (wk_ s).2.2 64
   rw[hT2] at hcE
   generalize zI_ s (wk_ s).2.1 (wk_ s).2.2 64=tx at*
   obtain⟨tt,a3,e3⟩:=tx
   simp only at tp hcE htl ⊢
   have hPl: (wk_ s).1.length=g:=by rw[hP,QC_]
   generalize (wk_ s).1=pl at*
   have hg4:g≤4:=by omega
   have hC: ∀w',Hp w ((b5,Obj.cells (q5_ T v tt).toArray 241 (0,0)):: (br, .cells #[vs s,vi a3,vi e3] 166 (0,0)):: (b2,Obj.cells (q5_ id0 (.slice none 0 0) []).toArray 241 (0,0))::D) w'→ComS w' (.agg (q5_ T v tt).toArray) ⟨T,pl,tt⟩:=fun w' hw'=>
    ⟨v,rfl,hG.slM (fun b o hm=>hw'.has b o (by simp[hm])) hPl rfl qZ_⟩
   have hNe:New w.heap.size ((b5,Obj.cells (q5_ T v tt).toArray 241 (0,0)):: (br, .cells #[vs s,vi a3,vi e3] 166 (0,0)):: (b2,Obj.cells (q5_ id0 (.slice none 0 0) []).toArray 241 (0,0))::D):=⟨hw5,hwr,hw2,New.mono (by omega) hN⟩
   have hR:aeN_ s=if jq_ s a3 e3=0∧wE_ ⟨T,pl,tt⟩=true∧comB ⟨T,pl,tt⟩=s then some ⟨T,pl,tt⟩ else none:=by unfold aeN_;rw[hcE]
   have stz: ∀a E,zl_ (some (a,34)) (some (.cells (q5_ id0 (.slice none 0 0) []).toArray E (0,0))) 0 (.agg (q5_ id0 (.slice none 0 0) []).toArray)=some (.cells (q5_ id0 (.slice none 0 0) []).toArray E (0,0)):=st5
   unfold ait_
   rw[hR]
   refine Ow.callFV rfl Tryz.call102 (fun w' hw'=>Js_ br s a3 e3 w' (hw'.has _ _ (List.mem_cons_of_mem _ List.mem_cons_self))) ?_
   by_cases he:jq_ s a3 e3=0
   ·have d1: (jq_ s a3 e3 !=0)=false:=by simp[he]
    refine ko (And.intro @q1_ @d1) ?_
    refine Ow.callFV rfl Tryz.call188 (fun w' hw'=>JO_ _ _ w' (hC w' hw') (by show pl.length<1000000;omega) (by show tt.length<1099511627776;omega)) ?_
    cases hr:wE_ ⟨T,pl,tt⟩
    ·rw[if_neg (by simp)]
     refine ko @q1_ ?_
     refine Ow.build (.agg (q5_ id0 (.slice none 0 0) []).toArray) rfl Zo_ ?_
     refine ko (And.intro @q1_ @stz) ?_
     first|with_reducible refine ks [] @q1_ ?_|refine kp @q1_ ?_
     refine⟨_,(ke @q1_), ?_⟩
     exact⟨Ext.of_new hNe,rfl⟩
    ·refine ko @q1_ ?_
     refine Ow.callFV rfl Tryz.call189 (fun w' hw'=>KA_ _ _ w' (hC w' hw') (by show pl.length<1000000;omega) (by show tt.length<1099511627776;omega)) ?_
     by_cases hb:comB ⟨T,pl,tt⟩=s
     ·have d3: (comB ⟨T,pl,tt⟩ !=s)=false:=by simp[hb]
      have stq: ∀a E,zl_ (some (a,34)) (some (.cells (q5_ id0 (.slice none 0 0) []).toArray E (0,0))) 0 (.agg (q5_ T v tt).toArray)=some (.cells (q5_ T v tt).toArray E (0,0)):=fun a E=>Ko_ _ _ _ _ a E (by rw[List.size_toArray,Zk_]) hG.cell.1
      rw[if_pos ⟨he,rfl,hb⟩]
      refine ko (And.intro @q1_ (And.intro @d3 (@stq))) ?_
      first|with_reducible refine ks [] @q1_ ?_|refine kp @q1_ ?_
      refine⟨_,(ke @q1_), ?_⟩
      refine⟨Ext.of_new ⟨hw5,hwr,hw2,New.mono (by omega) hN⟩,v,rfl, ?_⟩
      show Gr _ _ _ _ pl.length (pl.map wb_).flatten
      rw[hPl]
      exact hG.keep fun b o hb ho=>by
       have:=hN.le b (zx_ ho)
       simp(disch:=omega) only[qw_]
       exact ho
     ·have d3: (comB ⟨T,pl,tt⟩ !=s)=true:=by simp[hb]
      rw[if_neg (fun h=>hb h.2.2)]
      refine ko (And.intro @q1_ @d3) ?_
      refine Ow.build (.agg (q5_ id0 (.slice none 0 0) []).toArray) rfl Zo_ ?_
      refine ko (And.intro @q1_ @stz) ?_
      first|with_reducible refine ks [] @q1_ ?_|refine kp @q1_ ?_
      refine⟨_,(ke @q1_), ?_⟩
      exact⟨Ext.of_new hNe,rfl⟩
   ·have d1: (jq_ s a3 e3 !=0)=true:=by simp[he]
    rw[if_neg (fun h=>he h.1)]
    refine ko (And.intro @q1_ @d1) ?_
    refine Ow.build (.agg (q5_ id0 (.slice none 0 0) []).toArray) rfl Zo_ ?_
    refine ko (And.intro @q1_ @stz) ?_
    first|with_reducible refine ks [] @q1_ ?_|refine kp @q1_ ?_
    refine⟨_,(ke @q1_), ?_⟩
    exact⟨Ext.of_new hNe,rfl⟩
end Go.Proofs
end
section
open Go Go.Proofs Go.Sx Go.StP
namespace Go.Proofs
set_option maxRecDepth 10000
set_option maxHeartbeats 400000
set_option linter.unusedSimpArgs false
def roC (r v:Value) (t:IdL) (p:Value) (y:List UInt8):List Value:= [r]++ ([v]++q5_ t p y)
theorem aal_ (r v:Value) (t:IdL) (p:Value) (y:List UInt8) (n:Nat) (E:TypeId) (fz:Nat×Nat):zs_ (some (false,n)) (some (.cells (roC r v t p y).toArray E fz)) 0=some r:=kg_ [] _ r n E fz rfl
theorem WL_ (r v:Value) (t:IdL) (p:Value) (y:List UInt8) (n:Nat) (E:TypeId) (fz:Nat×Nat):zs_ (some (false,n)) (some (.cells (roC r v t p y).toArray E fz)) 1=some v:=by
 unfold roC;exact kg_ [r] _ v n E fz rfl
theorem aan_ (r v:Value) (t:IdL) (p:Value) (y:List UInt8) (E:TypeId) (fz:Nat×Nat):zs_ (some (true,34)) (some (.cells (roC r v t p y).toArray E fz)) 2=some (.agg (q5_ t p y).toArray):=by
 have e:roC r v t p y= [r,v]++ (q5_ t p y++ []):=by unfold roC;simp
 rw[e];exact Zi_ [r,v] _ _ E fz rfl (Zk_ _ _ _)
theorem abS_ (r v:Value) (t:IdL) (p:Value) (y:List UInt8) (n:Nat) (E:TypeId) (fz:Nat×Nat):zs_ (some (false,n)) (some (.cells (roC r v t p y).toArray E fz)) 34=some p:=by
 have e:roC r v t p y=([r,v]++t.l.map v8)++ ([p]++ [vs y]):=by unfold roC q5_;simp
 rw[e];exact kg_ _ _ p n E fz (by simp[t.h])
theorem aj7_ (r v q:Value) (t:IdL) (p:Value) (y:List UInt8) (a:Bool) (E:TypeId) (hq:Value.oneCell' q=true∧q.cells= #[q]):zl_ (some (a,1)) (some (.cells (roC r v t p y).toArray E (0,0))) 1 q=some (.cells (roC r q t p y).toArray E (0,0)):=by
 unfold roC
 exact zS_ [r] [v] [q] _ a _ E rfl rfl hq.2 rfl (by simp[hq.1])
theorem ajM_ (r v:Value) (t x:IdL) (p:Value) (y:List UInt8) (a:Bool) (E:TypeId):zl_ (some (a,32)) (some (.cells (roC r v t p y).toArray E (0,0))) 2 (.agg (a8 x.l))=some (.cells (roC r v x p y).toArray E (0,0)):=by
 have e: ∀t,roC r v t p y= [r,v]++ (t.l.map v8++ ([p]++ [vs y])):=fun t=>by unfold roC q5_;simp
 rw[e,e];exact zS_ [r,v] _ _ _ a _ E rfl (by simp[t.h]) (zc_ _) (by simp[x.h]) (Kb_ _)
theorem agn_ (r v:Value) (t:IdL) (p q:Value) (y:List UInt8) (a:Bool) (E:TypeId) (hq:Value.oneCell' q=true∧q.cells= #[q]):zl_ (some (a,1)) (some (.cells (roC r v t p y).toArray E (0,0))) 34 q=some (.cells (roC r v t q y).toArray E (0,0)):=by
 have e: ∀p,roC r v t p y=([r,v]++t.l.map v8)++ ([p]++ [vs y]):=fun p=>by unfold roC q5_;simp
 rw[e,e];exact zS_ _ [p] [q] [vs y] a _ E (by simp[t.h]) rfl hq.2 rfl (by simp[hq.1])
theorem agi_ (r v:Value) (t:IdL) (p:Value) (y z:List UInt8) (a:Bool) (E:TypeId):zl_ (some (a,1)) (some (.cells (roC r v t p y).toArray E (0,0))) 35 (vs z)=some (.cells (roC r v t p z).toArray E (0,0)):=by
 have e: ∀y,roC r v t p y=(([r,v]++t.l.map v8)++ [p])++ ([vs y]++ []):=fun y=>by unfold roC q5_;simp
 rw[e,e];exact zS_ _ _ _ _ a _ E (by simp[t.h]) rfl rfl rfl rfl
theorem ahq_ (k:Int) (t:List UInt8):qp_ (x3_ Tryz.prog 268) (zE_ Tryz.prog 268) [(1,vi k),(0,vs t)]=some (.agg (qQ_ ⟨t,k,id0⟩).toArray):=by
 rw[show x3_ Tryz.prog 268=some [(0,1),(1,1),(2,32)] from id (by kernel_rfl),WK_];rfl
theorem ki_ (b:Nat) (s:List UInt8) (a:Nat) (e:Int) (w:World) (ho:w.heap[b]? =some (.cells #[vs s,vi a,vi e] 212 (0,0))):
  Rets Tryz.prog 74 #[vp b 0] w (fun v D=>v=vi (jq_ s a e)∧D= []):=Kc_ b s a e w ho
set_option linter.defProp false
def kt_:=And.intro (And.intro (And.intro (And.intro (@kc_) (@ke_)) (And.intro (@kf_) (@xr_))) (And.intro (And.intro (@xp_) (@aal_)) (And.intro (@WL_) (@aan_)))) (And.intro (And.intro (And.intro (@abS_) (@jC_)) (And.intro (@VP_) (@VL_))) (And.intro (And.intro (@VW_) (@ql_)) (And.intro (@qr_) (And.intro (@zi_) (@zh_)))))
theorem aii_ {w:World} {a b:Nat} {x y:Obj} (h:w.heap[a]? =some x) (h':w.heap[b]? =some y): ∀p:Nat×Obj,p∈ [(a,x),(b,y)]→w.heap[p.1]? =some p.2:=by
 intro p hp
 simp only[List.mem_cons,List.not_mem_nil,or_false] at hp
 rcases hp with rfl|rfl<;>assumption
structure EnH where
 n:Nat
 a:Nat
 e:Int
 l:List EntL
 v:Value
 D:ze_
 H:ze_
def anH_ (bo bw:Nat) (s:List UInt8) (v:Value) (D:ze_):Prop:=
 v= .bool (jq_ s (jR_ s).2.1 (jR_ s).2.2==0&&kJ_ (jR_ s).1)∧ ∃v1,Sx.look D bo=some (.cells (roC (vp bw 0) v1 id0 (.slice none 0 0) []).toArray 294 (0,0))∧Gr D 268 34 v1 (jR_ s).1.length ((jR_ s).1.map qQ_).flatten
theorem aef_ (bo bw:Nat) (s:List UInt8) (w:World) (hs:s.length<100000) (hne:bo≠bw)
  (ho:w.heap[bo]? =some (.cells (roC (vp bw 0) (.slice none 0 0) id0 (.slice none 0 0) []).toArray 294 (0,0))) (hr:w.heap[bw]? =some (.cells #[vs s,vi 0,vi 0] 212 (0,0))):
  Rets Tryz.prog 212 #[vp bo 0] w (XS w [(bo, .cells (roC (vp bw 0) (.slice none 0 0) id0 (.slice none 0 0) []).toArray 294 (0,0)),(bw, .cells #[vs s,vi 0,vi 0] 212 (0,0))] (anH_ bo bw s)):=by
 have hob:bo<w.heap.size:=(Array.getElem?_eq_some_iff.1 ho).1
 have hwb:bw<w.heap.size:=(Array.getElem?_eq_some_iff.1 hr).1
 refine Rets.enterX Tryz.func212 rfl (rs:= [.tmp 2]) Tryz.results212 Tryz.ntmps212 (aii_ ho hr) (by simp[keys,hne]) ?_
 refine kf ?_
 first|with_reducible refine ks [] @kt_ ?_|refine kp @kt_ ?_
 refine Cw.loopG (G:=EnH) [4,5,6,7,8,9,10,11,12,13,14,15,16,17,18,19,20,3,21,22,23,24,25,26,27,28,29,30,31,32,33,34,35,36] (fun q=> []) (fun q=>q.H) (fun q=>EntsJ s q.n q.a q.e q.l∧New w.heap.size q.D∧Gr q.D 268 34 q.v q.l.length (q.l.map qQ_).flatten∧((bo,Obj.cells (roC (vp bw 0) q.v id0 (.slice none 0 0) []).toArray 294 (0,0)):: (bw, .cells #[vs s,vi q.a,vi q.e] 212 (0,0))::q.D).Perm q.H) (fun q=>q.n) ⟨s.length+1,0,0,[], .slice none 0 0,[],[(bo,Obj.cells (roC (vp bw 0) (.slice none 0 0) id0 (.slice none 0 0) []).toArray 294 (0,0)),(bw, .cells #[vs s,vi 0,vi 0] 212 (0,0))]⟩ rfl rfl ?_ ?_
 ·exact⟨EntsJ.init s,trivial,Gr.nl,List.Perm.refl _⟩
 ·intro q jq hq
  refine kv ?_
  obtain⟨n,a,e,l,v,D,H0⟩:=q
  simp only at hq ⊢
  obtain⟨hJ,hN,hG,hPm⟩:=hq
  refine Cw.permL hPm ?_
  clear hPm
  have hle:=hJ.le
  first|with_reducible refine ks [3] @kt_ ?_|refine kp @kt_ ?_
  refine Ow.callFV rfl Tryz.call74 (fun w' hw'=>ki_ bw s a e w' (hw'.has _ _ (List.mem_cons_of_mem _ List.mem_cons_self))) ?_
  by_cases hc:e=0∧a<s.length
  ·obtain⟨m,rfl,hJ'⟩:=hJ.next hc
   obtain⟨he,hlt⟩:=hc
   have h5:jq_ s a e=5:=by unfold jq_;rw[if_neg (by simp[he]),if_pos (by omega)]
   have d1: (jq_ s a e==5)=true:=by simp[h5]
   refine ko (And.intro @kt_ @d1) ?_
   have hp:=zO_ (e:=e) (most:=2) hle
   have hq:=xl_ (e:=(zr_ s a e 2).2.2) (most:=32) hp.2
   have heq:KQ_ s a e=(⟨(zI_ s (zr_ s a e 2).2.1 (zr_ s a e 2).2.2 32).1,(zr_ s a e 2).1,vc_ (idR s (zI_ s (zr_ s a e 2).2.1 (zr_ s a e 2).2.2 32).2.1 (zI_ s (zr_ s a e 2).2.1 (zr_ s a e 2).2.2 32).2.2).1⟩,(idR s (zI_ s (zr_ s a e 2).2.1 (zr_ s a e 2).2.2 32).2.1 (zI_ s (zr_ s a e 2).2.1 (zr_ s a e 2).2.2 32).2.2).2):=rfl
   have hil:=wK_ s (zI_ s (zr_ s a e 2).2.1 (zr_ s a e 2).2.2 32).2.1 (zI_ s (zr_ s a e 2).2.1 (zr_ s a e 2).2.2 32).2.2
   refine Cw.regionD [bo] [12] 11 3 268 12 _ rfl (by kernel_rfl) (by kernel_rfl) rfl (by kernel_rfl) WK_ (fun hD=> ?_)
   simp only[List.replicate_succ,List.replicate_zero]
   refine OwD.run [0,1,2,3,5,6,7,8] [true,true,true,true,false,true,true,true,true,false,false,false,false] 4 rfl hD (by kernel_rfl) fun k hk=> ?_
   simp only[zg_, ↓zd_, ↓zb_, ↓zp_, ↓zq_,za_]
   simp(disch:=(first|assumption|omega| (simp only[xg_,xe_,UInt64.reduceToNat];try omega))) only[↓Sx.S0,Sx.S1,Tryz.fx,kt_,Nat.reduceAdd,Nat.reducePow,Int.reducePow,Nat.reduceBEq, ↓reduceIte,UInt8.reduceToNat,UInt16.reduceToNat,UInt32.reduceToNat,UInt64.reduceToNat,Int.reduceToNat,Md.next_sofnil,Md.next_sofnil]
   (with_reducible refine hk _ _ _ ?_);clear hk k
   refine OwD.soft 4 _ hD rfl (by kernel_rfl) (fun E hE=> ?_)
   refine Ow.callM rfl rfl Tryz.call95 (by simp[keys]) (fun w' hw'=>q8_ bw s a e 2 w' hle (by omega) (hw'.has _ _ (by simp))) ?_
   generalize zr_ s a e 2=p at*
   obtain⟨kd,a1,e1⟩:=p
   simp only at hp hq heq hil ⊢
   refine kn ?_
   with_reducible refine Ow.nil ?_
   refine⟨(bo,Obj.cells (roC (vp bw 0) v id0 (.slice none 0 0) []).toArray 294 (0,0)):: (bw, .cells #[vs s,vi a1,vi e1] 212 (0,0))::D,(by classical exact List.perm_iff_count.2 fun a=>by simp only[List.count_append,List.count_cons,List.count_nil]<;>omega),fun r hr=> ?_, ?_⟩
   ·rw[List.mem_singleton.1 hr]
    simp only[zH_]
   simp only[List.set_cons_zero,List.set_cons_succ,z0_,qY_,qX_]
   refine OwD.soft 9 _ hD rfl (by kernel_rfl) (fun E hE=> ?_)
   refine Ow.callM rfl rfl Tryz.call96 (by simp[keys]) (fun w' hw'=>w3_ bw s a1 e1 32 w' hp.2 (by omega) (hw'.has _ _ (by simp))) ?_
   generalize zI_ s a1 e1 32=q at*
   obtain⟨tt,a2,e2⟩:=q
   simp only at hq heq hil ⊢
   refine kn ?_
   with_reducible refine Ow.nil ?_
   refine⟨(bo,Obj.cells (roC (vp bw 0) v id0 (.slice none 0 0) []).toArray 294 (0,0)):: (bw, .cells #[vs s,vi a2,vi e2] 212 (0,0))::D,(by classical exact List.perm_iff_count.2 fun a=>by simp only[List.count_append,List.count_cons,List.count_nil]<;>omega),fun r hr=> ?_, ?_⟩
   ·rw[List.mem_singleton.1 hr]
    simp only[zH_]
   simp only[List.set_cons_zero,List.set_cons_succ,z0_,qY_,qX_]
   refine OwD.soft 10 _ hD rfl (by kernel_rfl) (fun E hE=> ?_)
   refine Ow.build (.agg (qQ_ ⟨tt,kd,id0⟩).toArray) rfl (ahq_ kd tt) ?_
   with_reducible refine Ow.nil ?_
   refine⟨_,List.Perm.refl _,fun _ _=>rfl, ?_⟩
   simp only[List.set_cons_zero,List.set_cons_succ,z0_,qY_,qX_]
   refine OwD.real [12] rfl hD (by kernel_rfl) (by kernel_rfl) (by kernel_rfl) (by kernel_rfl) (fun r hr=>by rw[List.mem_singleton.1 hr];exact .inl (by simp[keys])) ?_
   simp only[zg_, ↓zd_, ↓zb_, ↓zp_, ↓zq_,za_]
   intro b3 hw3 hbL
   simp only[qY_,qX_]
   have hst3:=ql_ ⟨tt,kd,id0⟩ jQ_
   refine Ow.store rfl rfl rfl (L':=((bo,Obj.cells (roC (vp bw 0) v id0 (.slice none 0 0) []).toArray 294 (0,0)):: (bw, .cells #[vs s,vi a2,vi e2] 212 (0,0))::D)++ [(b3, .cells (qQ_ ⟨tt,kd,id0⟩).toArray 268 (0,0))]) ?_ ?_
   ·simp only[z8_,z3_,z4_]
    rw[Tryz.ag268,wR_,aeH_ hbL,zc_,hst3,QQ_,Wg_ hbL]
    exact []
   refine ko @kt_ ?_
   refine Cw.permL (M:=(b3, .cells (qQ_ ⟨tt,kd,id0⟩).toArray 268 (0,0)):: (bo,Obj.cells (roC (vp bw 0) v id0 (.slice none 0 0) []).toArray 294 (0,0)):: (bw, .cells #[vs s,vi a2,vi e2] 212 (0,0))::D) (by classical exact List.perm_iff_count.2 fun a=>by simp only[List.count_append,List.count_cons,List.count_nil]<;>omega) ?_
   have hb3o:bo≠b3:=by simp[keys] at hbL;omega
   have hb3w:bw≠b3:=by simp[keys] at hbL;omega
   first|with_reducible refine ks [] @kt_ ?_|refine kp @kt_ ?_
   refine Ow.callM rfl rfl Tryz.call97 (by simp[keys]) (fun w' hw'=>J3_ bw s a2 e2 w' hq.2 (by omega) (hw'.has _ _ (by simp))) ?_
   generalize idR s a2 e2=i at*
   obtain⟨il,a3,e3⟩:=i
   simp only at heq hil ⊢
   obtain⟨I,hI⟩: ∃I,vc_ il=I:=⟨_,rfl⟩
   have hiI:il=I.l:=by rw[←hI,kS_ hil]
   rw[hI] at heq
   rw[hiI]
   refine kn ?_
   refine ko @kt_ ?_
   generalize hx: ({name:=tt,kind:=kd,id:=I}:EntL)=x
   rw[hx] at heq
   rw[heq] at hJ'
   refine Cw.regionS [bo,b3] [0,1,2,3,4,5,6,7,8,9,10] [10] (by kernel_rfl) (by kernel_rfl) (by kernel_rfl) ?_
   simp only[zg_, ↓zd_, ↓zb_, ↓zp_, ↓zq_,za_]
   refine kq @kt_ ?_
   refine Ow.soft rfl rfl rfl ?_
   refine Ow.buildSlice (e:=268) (qQ_ x).toArray rfl rfl (zR_ Tryz.underlying237 afN_ WK_ (by decide) (qT_ x)) fun b13 hb13 hw13=> ?_
   have h3d:b3<b13:=zf_ hb13 (by simp[keys])
   with_reducible refine Ow.nil ?_
   refine⟨qx_ (by simp[keys]), ?_⟩
   try simp only[List.cons_append,List.nil_append]
   refine Ow.soft rfl rfl rfl ?_
   refine Ow.permL (M:=D++ [(b3,Obj.cells (qQ_ x).toArray 268 (0,0)),(bo,Obj.cells (roC (vp bw 0) v id0 (.slice none 0 0) []).toArray 294 (0,0)),(bw, .cells #[vs s,vi a3,vi e3] 212 (0,0)),(b13,Obj.cells (qQ_ x).toArray 268 (0,0))]) (by classical exact List.perm_iff_count.2 fun a=>by simp only[List.count_append,List.count_cons,List.count_nil]<;>omega) ?_
   refine Ow.appendX (e:=268) (k:=1) (new:=qQ_ x) (X:=D) v rfl rfl rfl rfl Tryz.underlying237 afN_ (by kernel_rfl) WK_ (by rw[qr_,List.size_toArray,qT_]) Tryz.underlying237 (by intro k h;cases h) hG (fun w' hw'=>AppX.one1 (hw'.has b13 (.cells (qQ_ x).toArray 268 (0,0)) (by simp)) (qT_ _) (JX_ _)) (by omega) (by have:=hJ.cnt;omega) (fun B v4 D4 hA4 hB4 hbuf hk1 hk2 hlk=> ?_)
   have hB3:b3<B:=zf_ hA4 (by simp[zk_,keys])
   have hN4:New w.heap.size D4:=New.of_le fun q hq=>by
    rcases hk2 q hq with h|h
    ·exact hN.le q h
    ·omega
   have ho4:bo∉keys D4:=hN4.not hob
   have h34:b3∉keys D4:=fun hm=>by
    rcases hk2 b3 hm with h|h
    ·exact hbL (by simp only[keys,List.map_cons,List.mem_cons];exact .inr (.inr h))
    ·omega
   with_reducible refine Ow.nil ?_
   refine⟨fun q hq=> ?_, ?_⟩
   ·simp only[List.mem_cons,List.not_mem_nil,or_false] at hq
    rcases hq with rfl|rfl
    ·rw[w6_ ho4]
     simp(disch:=omega) only[zH_,zG_]
    ·rw[w6_ h34]
     simp(disch:=omega) only[zH_,zG_]
   have hlko: ∀M,Sx.look (D4++M) bo=Sx.look M bo:=fun M=>qJ_ ho4
   have hsbo: ∀M x,setB (D4++M) bo x=D4++setB M bo x:=fun M x=>Z5_ ho4
   have st1:=fun a E=>aj7_ (vp bw 0) v v4 id0 (.slice none 0 0) [] a E hbuf.cell
   have hst7:xJ_ (z2_ Tryz.prog 237) (D4++ [(b3,Obj.cells (qQ_ x).toArray 268 (0,0)),(bo,Obj.cells (roC (vp bw 0) v id0 (.slice none 0 0) []).toArray 294 (0,0)),(bw, .cells #[vs s,vi a3,vi e3] 212 (0,0)),(b13,Obj.cells (qQ_ x).toArray 268 (0,0))]) (vp bo 1) v4=some (D4++ [(b3,Obj.cells (qQ_ x).toArray 268 (0,0)),(bo,Obj.cells (roC (vp bw 0) v4 id0 (.slice none 0 0) []).toArray 294 (0,0)),(bw, .cells #[vs s,vi a3,vi e3] 212 (0,0)),(b13,Obj.cells (qQ_ x).toArray 268 (0,0))]):=by
    rw[Tryz.ag237,wR_,hlko]
    simp(disch:=omega) only[zT_,qw_,st1,QQ_,hsbo,j1_,jK_]
   refine kq @kt_ ?_
   refine Ow.store rfl rfl rfl hst7 ?_
   refine ko @kt_ ?_
   refine Again.mk (EnH.mk m a3 e3 (l++ [x]) v4 (D4++ [(b3,Obj.cells (qQ_ x).toArray 268 (0,0)),(b13,Obj.cells (qQ_ x).toArray 268 (0,0))]) _) (by show m<m+1;omega) ⟨hJ',hN4.app ⟨by omega,by omega,trivial⟩, ?_, ?_⟩ rfl rfl
   ·show Gr _ _ _ _ (l++ [x]).length ((l++ [x]).map qQ_).flatten
    rw[List.length_append,List.map_append,List.flatten_append,show([x].map qQ_).flatten=qQ_ x by simp]
    exact Gr.app (.inl hbuf)
   ·exact(by classical exact List.perm_iff_count.2 fun a=>by simp only[List.count_append,List.count_cons,List.count_nil]<;>omega)
  ·have hd:=hJ.done hc
   have hsh:=hJ.sh (by omega)
   have hcn:=hJ.cnt
   have h5:jq_ s a e≠5:=by
    unfold jq_
    by_cases he:e=0
    ·rw[if_neg (by simp[he]),if_neg (by omega)];decide
    ·rw[if_pos he];exact hJ.five
   have d1: (jq_ s a e==5)=false:=by simpa using h5
   have hE:Ext w [(bo,Obj.cells (roC (vp bw 0) (.slice none 0 0) id0 (.slice none 0 0) []).toArray 294 (0,0)),(bw,Obj.cells #[vs s,vi 0,vi 0] 212 (0,0))] ((bo,Obj.cells (roC (vp bw 0) v id0 (.slice none 0 0) []).toArray 294 (0,0)):: (bw,Obj.cells #[vs s,vi a,vi e] 212 (0,0))::D):=by
    refine⟨fun c hc=> ?_,fun c hc=> ?_⟩
    ·simp only[keys,List.map_cons,List.map_nil,List.mem_cons,List.not_mem_nil,or_false] at hc ⊢
     rcases hc with h|h|h
     ·exact .inl (.inl h)
     ·exact .inl (.inr h)
     ·exact .inr (hN.le c h)
    ·simp only[keys,List.map_cons,List.map_nil,List.mem_cons,List.not_mem_nil,or_false] at hc ⊢
     rcases hc with h|h
     ·exact .inl h
     ·exact .inr (.inl h)
   have hF:Gr ((bo,Obj.cells (roC (vp bw 0) v id0 (.slice none 0 0) []).toArray 294 (0,0)):: (bw,Obj.cells #[vs s,vi a,vi e] 212 (0,0))::D) 268 34 v l.length (l.map qQ_).flatten:=hG.keep fun b o hb ho=>by
    have:=hN.le b (zx_ ho)
    simp(disch:=omega) only[qw_]
    exact ho
   unfold anH_
   rw[hd]
   refine ko (And.intro @kt_ @d1) ?_
   refine Ow.callFV rfl Tryz.call74 (fun w' hw'=>ki_ bw s a e w' (hw'.has _ _ (List.mem_cons_of_mem _ List.mem_cons_self))) ?_
   by_cases he:jq_ s a e=0
   ·have d2: (jq_ s a e==0)=true:=by simp[he]
    rw[d2]
    refine ko (And.intro @kt_ @d2) ?_
    refine Ow.callFV rfl Tryz.call230 (fun w' hw'=>abB_ v l w' (hG.slM (fun b o hm=>hw'.has b o (by simp[hm])) rfl rfl qT_) (by omega) hsh) ?_
    refine ko @kt_ ?_
    first|with_reducible refine ks [] @kt_ ?_|refine kp @kt_ ?_
    refine⟨_,(ke @kt_), ?_⟩
    exact⟨hE,rfl,v,by simp only[zT_],hF⟩
   ·have d2: (jq_ s a e==0)=false:=by simpa using he
    rw[d2]
    refine ko (And.intro @kt_ @d2) ?_
    first|with_reducible refine ks [] @kt_ ?_|refine kp @kt_ ?_
    refine⟨_,(ke @kt_), ?_⟩
    exact⟨hE,rfl,v,by simp only[zT_],hF⟩
end Go.Proofs
end
section
open Go Go.Proofs Go.Sx Go.StP
namespace Go.Proofs
set_option maxRecDepth 10000
set_option maxHeartbeats 400000
set_option linter.unusedSimpArgs false
set_option linter.defProp false
def vh_:=And.intro (And.intro (And.intro (@kc_) (And.intro (@ke_) (@kf_))) (And.intro (And.intro (@xr_) (@xp_)) (And.intro (@aal_) (@WL_)))) (And.intro (And.intro (@aan_) (And.intro (@abS_) (@ajM_))) (And.intro (And.intro (@agi_) (@kr_)) (And.intro (@zi_) (@zh_))))
structure CmH where
 g:Nat
 v:Value
 D:ze_
 H:ze_
def apT_ (bo bw:Nat) (s:List UInt8) (v:Value) (D:ze_):Prop:=
 v= .bool (jq_ s (wh_ s).2.1 (wh_ s).2.2==0&&wE_ (wh_ s).1)∧ ∃p,Sx.look D bo=some (.cells (roC (vp bw 0) (.slice none 0 0) (wh_ s).1.tree p (wh_ s).1.text).toArray 294 (0,0))∧Gr D 37 32 p (wh_ s).1.par.length ((wh_ s).1.par.map wb_).flatten
theorem ahC_ (bo bw:Nat) (s:List UInt8) (w:World) (hs:s.length<100000) (hne:bo≠bw)
  (ho:w.heap[bo]? =some (.cells (roC (vp bw 0) (.slice none 0 0) id0 (.slice none 0 0) []).toArray 294 (0,0))) (hr:w.heap[bw]? =some (.cells #[vs s,vi 0,vi 0] 212 (0,0))):
  Rets Tryz.prog 213 #[vp bo 0] w (XS w [(bo,Obj.cells (roC (vp bw 0) (.slice none 0 0) id0 (.slice none 0 0) []).toArray 294 (0,0)),(bw,Obj.cells #[vs s,vi 0,vi 0] 212 (0,0))] (apT_ bo bw s)):=by
 have hob:bo<w.heap.size:=(Array.getElem?_eq_some_iff.1 ho).1
 have hwb:bw<w.heap.size:=(Array.getElem?_eq_some_iff.1 hr).1
 refine Rets.enterX Tryz.func213 rfl (rs:= [.tmp 2]) Tryz.results213 Tryz.ntmps213 (aii_ ho hr) (by simp[keys,hne]) ?_
 refine kf ?_
 first|with_reducible refine ks [] @vh_ ?_|refine kp @vh_ ?_
 refine Ow.callM rfl rfl Tryz.call97 (by simp[keys]) (fun w' hw'=>J3_ bw s 0 0 w' (Nat.zero_le _) (by omega) (hw'.has _ _ (List.mem_cons_of_mem _ List.mem_cons_self))) ?_
 have ip:=V4_ (s:=s) (a:=0) (e:=0) (Nat.zero_le _)
 have np:=zO_ (e:=(idR s 0 0).2.2) (most:=4) ip.2
 have nm:=z9_ (s:=s) (a:=(idR s 0 0).2.1) (e:=(idR s 0 0).2.2) (most:=4) (by decide)
 obtain⟨T,hT⟩: ∃T,vc_ (idR s 0 0).1=T:=⟨_,rfl⟩
 have hiT: (idR s 0 0).1=T.l:=by rw[←hT,kS_ (wK_ s 0 0)]
 have hcE:wh_ s=(⟨T,(wk_ s).1,(comT s).1⟩,(comT s).2):=by unfold wh_;rw[hT]
 rw[hiT]
 refine kn ?_
 refine ko @vh_ ?_
 refine Ow.callM rfl rfl Tryz.call95 (by simp[keys]) (fun w' hw'=>q8_ bw s _ _ 4 w' ip.2 (by omega) (hw'.has _ _ (List.mem_cons_of_mem _ List.mem_cons_self))) ?_
 have hP:wk_ s=zL_ s (zr_ s (idR s 0 0).2.1 (idR s 0 0).2.2 4).2.1 (zr_ s (idR s 0 0).2.1 (idR s 0 0).2.2 4).2.2 (zr_ s (idR s 0 0).2.1 (idR s 0 0).2.2 4).1.toNat:=rfl
 generalize zr_ s (idR s 0 0).2.1 (idR s 0 0).2.2 4=nr at*
 obtain⟨cn,na,ne⟩:=nr
 simp only at np nm hP ⊢
 obtain⟨k,rfl⟩:=Int.eq_ofNat_of_zero_le nm.1
 rw[Int.toNat_natCast] at hP
 refine kn ?_
 refine ko @vh_ ?_
 refine Cw.loopG (G:=CmH) [18,19,20,21,22,23,24,25,26,27,28,29,30,31,32,33,34,35,17] (fun q=> [(17,vi q.g)]) (fun q=>q.H) (fun q=>q.g≤k∧New w.heap.size q.D∧Gr q.D 37 32 q.v q.g ((zL_ s na ne q.g).1.map wb_).flatten∧((bo,Obj.cells (roC (vp bw 0) (.slice none 0 0) T q.v []).toArray 294 (0,0)):: (bw,Obj.cells #[vs s,vi (zL_ s na ne q.g).2.1,vi (zL_ s na ne q.g).2.2] 212 (0,0))::q.D).Perm q.H) (fun q=>k - q.g) ⟨0, .slice none 0 0,[],[(bo,Obj.cells (roC (vp bw 0) (.slice none 0 0) T (.slice none 0 0) []).toArray 294 (0,0)),(bw,Obj.cells #[vs s,vi na,vi ne] 212 (0,0))]⟩ rfl rfl ?_ ?_
 ·exact⟨Nat.zero_le _,trivial,Gr.nl,List.Perm.refl _⟩
 ·intro q jq hq
  refine kv ?_
  obtain⟨g,v,D,H0⟩:=q
  simp only at hq ⊢
  obtain⟨hgk,hN,hG,hPm⟩:=hq
  refine Cw.permL hPm ?_
  clear hPm
  have gle:=Qh_ (e:=ne) np.2 g
  by_cases hlt:g<k
  ·have hgs:zL_ s na ne (g+1)=((zL_ s na ne g).1++ [vc_ (idR s (zL_ s na ne g).2.1 (zL_ s na ne g).2.2).1],(idR s (zL_ s na ne g).2.1 (zL_ s na ne g).2.2).2):=rfl
   first|with_reducible refine ks [] @vh_ ?_|refine kp @vh_ ?_
   refine Cw.regionS [bo] [0,1,2,3,4,6,7,8,5,9,10,11,12,13,14,15,16] [16] (by kernel_rfl) (by kernel_rfl) (by kernel_rfl) ?_
   simp only[zg_, ↓zd_, ↓zb_, ↓zp_, ↓zq_,za_]
   refine kq @vh_ ?_
   refine Ow.soft rfl rfl rfl ?_
   refine Ow.callM rfl rfl Tryz.call97 (by simp[keys]) (fun w' hw'=>J3_ bw s (zL_ s na ne g).2.1 (zL_ s na ne g).2.2 w' gle (by omega) (hw'.has _ _ (List.mem_cons_of_mem _ List.mem_cons_self))) ?_
   with_reducible refine Ow.nil ?_
   refine⟨fun b hb=>wA_ (by simp only[List.mem_cons,List.not_mem_nil,or_false] at hb;omega), ?_⟩
   have hil:=wK_ s (zL_ s na ne g).2.1 (zL_ s na ne g).2.2
   obtain⟨I,hI⟩: ∃I,vc_ (idR s (zL_ s na ne g).2.1 (zL_ s na ne g).2.2).1=I:=⟨_,rfl⟩
   have hiI: (idR s (zL_ s na ne g).2.1 (zL_ s na ne g).2.2).1=I.l:=by rw[←hI,kS_ hil]
   rw[hI] at hgs
   have hg1: (zL_ s na ne (g+1)).1=(zL_ s na ne g).1++ [I]:=by rw[hgs]
   have hg2: (zL_ s na ne (g+1)).2=(idR s (zL_ s na ne g).2.1 (zL_ s na ne g).2.2).2:=by rw[hgs]
   rw[hiI,←hg2]
   refine kn ?_
   refine Ow.soft rfl rfl rfl ?_
   refine Ow.buildSlice (e:=37) (a8 I.l) rfl rfl (zR_ (cs:=I.l.map v8) Tryz.underlying30 we_ wv_ (by decide) (by simp[I.h])) fun b13 hb13 hw13=> ?_
   with_reducible refine Ow.nil ?_
   refine⟨qx_ (by simp[keys]), ?_⟩
   try simp only[List.cons_append,List.nil_append]
   refine Ow.soft rfl rfl rfl ?_
   refine Ow.permL (M:=D++ [(bo,Obj.cells (roC (vp bw 0) (.slice none 0 0) T v []).toArray 294 (0,0)),(bw,Obj.cells #[vs s,vi (zL_ s na ne (g+1)).2.1,vi (zL_ s na ne (g+1)).2.2] 212 (0,0)),(b13,Obj.cells (a8 I.l) 37 (0,0))]) (by classical exact List.perm_iff_count.2 fun a=>by simp only[List.count_append,List.count_cons,List.count_nil]<;>omega) ?_
   refine Ow.appendX (e:=37) (k:=1) (new:=wb_ I) (X:=D) v rfl rfl rfl rfl Tryz.underlying30 we_ (by kernel_rfl) wv_ (by rw[zc_,kD_,id0.h]) Tryz.underlying30 (by intro k h;cases h) hG (fun w' hw'=>AppX.one1 (hw'.has b13 (.cells (a8 I.l) 37 (0,0)) (by simp)) (qZ_ I) (vC_ I)) (by omega) (by omega) (fun B v4 D4 hA4 hB4 hbuf hk1 hk2 hlk=> ?_)
   have hN4:New w.heap.size D4:=New.of_le fun q hq=>by
    rcases hk2 q hq with h|h
    ·exact hN.le q h
    ·omega
   have ho4:bo∉keys D4:=hN4.not hob
   with_reducible refine Ow.nil ?_
   refine⟨fun q hq=> ?_, ?_⟩
   ·rw[List.mem_singleton] at hq
    subst hq
    rw[w6_ ho4]
    simp only[zH_]
   have hlko: ∀M,Sx.look (D4++M) bo=Sx.look M bo:=fun M=>qJ_ ho4
   have hsbo: ∀M x,setB (D4++M) bo x=D4++setB M bo x:=fun M x=>Z5_ ho4
   have st1:=fun a E=>agn_ (vp bw 0) (.slice none 0 0) T v v4 [] a E hbuf.cell
   have hst7:xJ_ (z2_ Tryz.prog 30) (D4++ [(bo,Obj.cells (roC (vp bw 0) (.slice none 0 0) T v []).toArray 294 (0,0)),(bw,Obj.cells #[vs s,vi (zL_ s na ne (g+1)).2.1,vi (zL_ s na ne (g+1)).2.2] 212 (0,0)),(b13,Obj.cells (a8 I.l) 37 (0,0))]) (vp bo 34) v4=some (D4++ [(bo,Obj.cells (roC (vp bw 0) (.slice none 0 0) T v4 []).toArray 294 (0,0)),(bw,Obj.cells #[vs s,vi (zL_ s na ne (g+1)).2.1,vi (zL_ s na ne (g+1)).2.2] 212 (0,0)),(b13,Obj.cells (a8 I.l) 37 (0,0))]):=by
    rw[Tryz.ag30,wR_,hlko]
    simp(disch:=omega) only[zT_,qw_,st1,QQ_,hsbo,j1_,jK_]
   refine kq @vh_ ?_
   refine Ow.store rfl rfl rfl hst7 ?_
   refine ko @vh_ ?_
   refine Again.mk (CmH.mk (g+1) v4 (D4++ [(b13,Obj.cells (a8 I.l) 37 (0,0))]) _) (by show k - (g+1)<k - g;omega) ⟨by show g+1≤k;omega,hN4.app ⟨by omega,trivial⟩, ?_, ?_⟩ rfl rfl
   ·show Gr _ _ _ _ (g+1) ((zL_ s na ne (g+1)).1.map wb_).flatten
    rw[hg1,List.map_append,List.flatten_append,show([I].map wb_).flatten=wb_ I by simp]
    exact Gr.app (.inl hbuf)
   ·exact(by classical exact List.perm_iff_count.2 fun a=>by simp only[List.count_append,List.count_cons,List.count_nil]<;>omega)
  ·obtain rfl:g=k:=by omega
   rw[←hP] at hG
   rw[←hP] at gle
   rw[←hP]
   have tp:=xl_ (e:=(wk_ s).2.2) (most:=64) gle
   first|with_reducible refine ks [] @vh_ ?_|refine kp @vh_ ?_
   refine Ow.callM rfl rfl Tryz.call96 (by simp[keys]) (fun w' hw'=>w3_ bw s (wk_ s).2.1 (wk_ s).2.2 64 w' gle (by omega) (hw'.has _ _ (List.mem_cons_of_mem _ List.mem_cons_self))) ?_
   refine kn ?_
   refine ko @vh_ ?_
   have hT2:comT s=zI_ s (wk_ s).2.1 (wk_ s).2.2 64:=rfl
   have htl:=Qb_ s (wk_ s).2.1 (wk_ s).2.2 64
   rw[hT2] at hcE
   generalize zI_ s (wk_ s).2.1 (wk_ s).2.2 64=tx at*
   obtain⟨tt,a3,e3⟩:=tx
   simp only at tp hcE htl ⊢
   have hPl: (wk_ s).1.length=g:=by rw[hP,QC_]
   generalize (wk_ s).1=pl at*
   have hC: ∀w',Hp w ((bo,Obj.cells (roC (vp bw 0) (.slice none 0 0) T v tt).toArray 294 (0,0)):: (bw,Obj.cells #[vs s,vi a3,vi e3] 212 (0,0))::D) w'→ComS w' (.agg (q5_ T v tt).toArray) ⟨T,pl,tt⟩:=fun w' hw'=>
    ⟨v,rfl,hG.slM (fun b o hm=>hw'.has b o (by simp[hm])) hPl rfl qZ_⟩
   have hE:Ext w [(bo,Obj.cells (roC (vp bw 0) (.slice none 0 0) id0 (.slice none 0 0) []).toArray 294 (0,0)),(bw,Obj.cells #[vs s,vi 0,vi 0] 212 (0,0))] ((bo,Obj.cells (roC (vp bw 0) (.slice none 0 0) T v tt).toArray 294 (0,0)):: (bw,Obj.cells #[vs s,vi a3,vi e3] 212 (0,0))::D):=by
    refine⟨fun c hc=> ?_,fun c hc=> ?_⟩
    ·simp only[keys,List.map_cons,List.map_nil,List.mem_cons,List.not_mem_nil,or_false] at hc ⊢
     rcases hc with h|h|h
     ·exact .inl (.inl h)
     ·exact .inl (.inr h)
     ·exact .inr (hN.le c h)
    ·simp only[keys,List.map_cons,List.map_nil,List.mem_cons,List.not_mem_nil,or_false] at hc ⊢
     rcases hc with h|h
     ·exact .inl h
     ·exact .inr (.inl h)
   have hF:Gr ((bo,Obj.cells (roC (vp bw 0) (.slice none 0 0) T v tt).toArray 294 (0,0)):: (bw,Obj.cells #[vs s,vi a3,vi e3] 212 (0,0))::D) 37 32 v pl.length (pl.map wb_).flatten:=by
    rw[hPl]
    exact hG.keep fun b o hb ho=>by
     have:=hN.le b (zx_ ho)
     simp(disch:=omega) only[qw_]
     exact ho
   unfold apT_
   rw[hcE]
   refine Ow.callFV rfl Tryz.call74 (fun w' hw'=>ki_ bw s a3 e3 w' (hw'.has _ _ (List.mem_cons_of_mem _ List.mem_cons_self))) ?_
   by_cases he:jq_ s a3 e3=0
   ·have d2: (jq_ s a3 e3==0)=true:=by simp[he]
    rw[d2]
    refine ko (And.intro @vh_ @d2) ?_
    refine Ow.callFV rfl Tryz.call231 (fun w' hw'=>acQ_ _ _ w' (hC w' hw') (by show pl.length<1000000;omega) (by show tt.length<1099511627776;omega)) ?_
    refine ko @vh_ ?_
    first|with_reducible refine ks [] @vh_ ?_|refine kp @vh_ ?_
    refine⟨_,(ke @vh_), ?_⟩
    exact⟨hE,rfl,v,by simp only[zT_],hF⟩
   ·have d2: (jq_ s a3 e3==0)=false:=by simpa using he
    rw[d2]
    refine ko (And.intro @vh_ @d2) ?_
    first|with_reducible refine ks [] @vh_ ?_|refine kp @vh_ ?_
    refine⟨_,(ke @vh_), ?_⟩
    exact⟨hE,rfl,v,by simp only[zT_],hF⟩
end Go.Proofs
end
section
open Go Go.Proofs Go.Sx Go.StP
namespace Go.Proofs
set_option maxRecDepth 10000
set_option maxHeartbeats 400000
set_option linter.unusedSimpArgs false
theorem ac1_ (v:Value) (w:World):Rets Tryz.prog 211 #[v] w (fun v' D=>v'= .bool true∧D= []):=by
 refine Rets.enterV Tryz.func211 rfl (rs:= [.tmp 2]) Tryz.results211 Tryz.ntmps211 ?_
 refine kf ?_
 first|with_reducible refine ks [] @Nat.add_zero ?_|refine kp @Nat.add_zero ?_
 refine⟨_,(ke @Nat.add_zero),trivial, ?_⟩
 rfl
abbrev obV (k:Int) (t:List UInt8):Value:= .agg #[vi k,vs t]
theorem ja_ (k:Int) (t:List UInt8) (E:TypeId) (fz:Nat×Nat):zs_ (some (true,2)) (some (.cells #[vi k,vs t] E fz)) 0=some (obV k t):=(rfl)
theorem qs_ (k:Int) (t:List UInt8) (n:Nat) (E:TypeId) (fz:Nat×Nat):zs_ (some (false,n)) (some (.cells #[vi k,vs t] E fz)) 0=some (vi k):=(rfl)
theorem qt_ (k:Int) (t:List UInt8) (n:Nat) (E:TypeId) (fz:Nat×Nat):zs_ (some (false,n)) (some (.cells #[vi k,vs t] E fz)) 1=some (vs t):=(rfl)
theorem qB_ (k k':Int) (t t':List UInt8) (a:Bool) (E:TypeId):zl_ (some (a,2)) (some (.cells #[vi k',vs t'] E (0,0))) 0 (obV k t)=some (.cells #[vi k,vs t] E (0,0)):=(rfl)
set_option linter.defProp false
def jU_:=And.intro (And.intro (@ja_) (And.intro (@qs_) (@qt_))) (And.intro (@qB_) (And.intro (@zi_) (@zh_)))
def fnV (k:Nat):Value:= .func (.func k) #[] #[]
def fnsV:Array Value:= #[.nilFunc,fnV 211,fnV 212,fnV 213]
abbrev T4:TypeId:=292
theorem air_:qp_ (x3_ Tryz.prog T4) (zE_ Tryz.prog T4) [(1,fnV 211),(2,fnV 212),(3,fnV 213)]=some (.agg fnsV):=by
 have hp:x3_ Tryz.prog T4=some [(0,1),(1,1),(2,1),(3,1)]:=id (by kernel_rfl)
 have hz:zE_ Tryz.prog T4=some (.agg #[.nilFunc, .nilFunc, .nilFunc, .nilFunc]):=id (by kernel_rfl)
 rw[hp,hz];rfl
theorem arM_:zE_ Tryz.prog T4=some (.agg #[.nilFunc, .nilFunc, .nilFunc, .nilFunc]):=id (by kernel_rfl)
theorem ajE_ (a:Bool) (E:TypeId):zl_ (some (a,4)) (some (.cells #[.nilFunc, .nilFunc, .nilFunc, .nilFunc] E (0,0))) 0 (.agg fnsV)=some (.cells fnsV E (0,0)):=(rfl)
theorem amp_ (x:Value) (hx:x.cells= #[x]):qp_ (x3_ Tryz.prog 294) (zE_ Tryz.prog 294) [(0,x)]=some (.agg (roC x (.slice none 0 0) id0 (.slice none 0 0) []).toArray):=by
 have hp:x3_ Tryz.prog 294=some [(0,1),(1,1),(2,34)]:=id (by kernel_rfl)
 have hz:zE_ Tryz.prog 294=some (.agg (roC (.pointer none) (.slice none 0 0) id0 (.slice none 0 0) []).toArray):=id (by kernel_rfl)
 rw[hp,hz]
 simp only[qp_,fillV,List.getElem?_cons_zero,hx]
 rfl
def vR_ (k:Int) (t:List UInt8):Bool:=
 if 1≤k∧k≤3∧t.length≤4096 then
  (if k=1 then true else if k=2 then(jq_ t (jR_ t).2.1 (jR_ t).2.2==0&&kJ_ (jR_ t).1) else(jq_ t (wh_ t).2.1 (wh_ t).2.2==0&&wE_ (wh_ t).1))
 else false
def RdS (k:Int) (t:List UInt8) (v:Value) (D:ze_):Prop:=
 ∃p,v= .tuple #[p, .bool (vR_ k t)]∧(1≤k∧k≤3∧t.length≤4096→ ∃bo bw v1 c1 x1 y1,p=vp bo 0∧Sx.look D bo=some (.cells (roC (vp bw 0) v1 c1 x1 y1).toArray 294 (0,0))∧
  (k=2→Gr D 268 34 v1 (jR_ t).1.length ((jR_ t).1.map qQ_).flatten)∧
  (k=3→c1=(wh_ t).1.tree∧y1=(wh_ t).1.text∧Gr D 37 32 x1 (wh_ t).1.par.length ((wh_ t).1.par.map wb_).flatten)∧(k≠2→v1= .slice none 0 0))
theorem agR_ (k:Int) (t:List UInt8) (w:World):Rets Tryz.prog 179 #[obV k t] w (XS w [] (RdS k t)):=by
 refine Rets.enterX Tryz.func179 rfl (rs:= [.tmp 2, .tmp 3]) Tryz.results179 Tryz.ntmps179 (fun p hp=>by cases hp) (by simp[keys]) ?_
 refine kf ?_
 first|with_reducible refine ks [] @jU_ ?_|refine kp @jU_ ?_
 refine Ow.box rfl rfl fun b1 hb1 hw1=> ?_
 simp only[z8_,z3_,z4_,zc_,List.nil_append]
 refine ko @jU_ ?_
 refine Ow.build (.agg fnsV) rfl air_ ?_
 refine ko @jU_ ?_
 refine Ow.alloc rfl rfl arM_ fun b4 hb4 hw4=> ?_
 simp only[zc_,List.nil_append,List.cons_append]
 have h14:b1<b4:=zf_ hb4 (by simp[keys])
 refine ko (And.intro @jU_ @ajE_) ?_
 by_cases h1:k<1
 ·have d1:decide (k<1)=true:=decide_eq_true h1
  have e:vR_ k t=false:=by unfold vR_;rw[if_neg (by omega)]
  first|with_reducible refine ks [] (And.intro @jU_ @d1) ?_|refine kp (And.intro @jU_ @d1) ?_
  refine⟨_,(ke @jU_), ?_⟩
  exact⟨Ext.of_new ⟨hw1,hw4,trivial⟩, .pointer none,by rw[e];rfl,fun h=>absurd h.1 (by omega)⟩
 ·have d1:decide (k<1)=false:=decide_eq_false h1
  by_cases h2:3<k
  ·have d2:decide (3<k)=true:=decide_eq_true h2
   have e:vR_ k t=false:=by unfold vR_;rw[if_neg (by omega)]
   first|with_reducible refine ks [] (And.intro @jU_ (And.intro @d1 (@d2))) ?_|refine kp (And.intro @jU_ (And.intro @d1 (@d2))) ?_
   refine⟨_,(ke @jU_), ?_⟩
   exact⟨Ext.of_new ⟨hw1,hw4,trivial⟩, .pointer none,by rw[e];rfl,fun h=>absurd h.2.1 (by omega)⟩
  ·have d2:decide (3<k)=false:=decide_eq_false h2
   by_cases h3:4096<t.length
   ·have d3:decide (4096< (t.length:Int))=true:=decide_eq_true (by omega)
    have e:vR_ k t=false:=by unfold vR_;rw[if_neg (by omega)]
    first|with_reducible refine ks [] (And.intro @jU_ (And.intro @d1 (And.intro @d2 (@d3)))) ?_|refine kp (And.intro @jU_ (And.intro @d1 (And.intro @d2 (@d3)))) ?_
    refine⟨_,(ke @jU_), ?_⟩
    exact⟨Ext.of_new ⟨hw1,hw4,trivial⟩, .pointer none,by rw[e];rfl,fun h=>absurd h.2.2 (by omega)⟩
   ·have d3:decide (4096< (t.length:Int))=false:=decide_eq_false (by omega)
    first|with_reducible refine ks [] (And.intro @jU_ (And.intro @d1 (And.intro @d2 (@d3)))) ?_|refine kp (And.intro @jU_ (And.intro @d1 (And.intro @d2 (@d3)))) ?_
    refine Ow.callF rfl rfl Tryz.call71 (S:=fun B v D=> ∃b',B≤b'∧v=vp b' 0∧D= [(b', .cells #[vs t,vi 0,vi 0] 212 (0,0))]) (fun w' hw'=>wL_ t w') ?_
    rintro B v D hab hB ⟨bw,hbw,rfl,rfl⟩
    obtain⟨h1B,h4B,-⟩:=hab
    refine⟨_,Mrg.fresh (by intro q hq;simp only[keys,List.map_cons,List.map_nil,List.mem_singleton] at hq;omega), ?_⟩
    simp only[List.cons_append,List.nil_append]
    refine ko @jU_ ?_
    refine Ow.build (.agg (roC (vp bw 0) (.slice none 0 0) id0 (.slice none 0 0) []).toArray) rfl (amp_ _ rfl) ?_
    refine ko @jU_ ?_
    refine Ow.box rfl rfl fun bo hbo hwo=> ?_
    simp only[z8_,z3_,z4_,zc_,List.nil_append,List.cons_append]
    have hobw:bo≠bw:=by have:=zf_ hbo (show bw∈keys _ by simp[keys]);omega
    rcases(show k=1∨k=2∨k=3 by omega) with rfl|rfl|rfl
    ·have lf: ∀n E fz,zs_ (some (false,n)) (some (.cells fnsV E fz)) 1=some (fnV 211):=fun _ _ _=>rfl
     have e:vR_ 1 t=true:=by unfold vR_;rw[if_pos (by omega)];rfl
     refine ko (And.intro @jU_ @lf) ?_
     refine Ow.callV rfl rfl Tryz.call211 (fun w' hw'=>by have:=ac1_ (vp bo 0) w';simpa [z8_,z4_,z3_] using this) ?_
     refine ko @jU_ ?_
     first|with_reducible refine ks [] @jU_ ?_|refine kp @jU_ ?_
     refine⟨_,(ke @jU_), ?_⟩
     refine⟨Ext.of_new ⟨hw1,hw4,by omega,hwo,trivial⟩,vp bo 0,by rw[e];rfl,fun h=>⟨bo,bw, .slice none 0 0,id0, .slice none 0 0,[],rfl, ?_,fun h=>absurd h (by decide),fun h=>absurd h (by decide),fun _=>rfl⟩⟩
     have hb1o:b1≠bo:=by have:=zf_ hbo (show b1∈keys _ by simp[keys]);omega
     have hb4o:b4≠bo:=by have:=zf_ hbo (show b4∈keys _ by simp[keys]);omega
     simp(disch:=omega) only[zT_,qw_]
    ·have lf: ∀n E fz,zs_ (some (false,n)) (some (.cells fnsV E fz)) 2=some (fnV 212):=fun _ _ _=>rfl
     have e:vR_ 2 t=(jq_ t (jR_ t).2.1 (jR_ t).2.2==0&&kJ_ (jR_ t).1):=by unfold vR_;rw[if_pos (by omega)];rfl
     refine ko (And.intro @jU_ @lf) ?_
     refine Ow.permL (M:= [(bo,Obj.cells (roC (vp bw 0) (.slice none 0 0) id0 (.slice none 0 0) []).toArray 294 (0,0)),(bw,Obj.cells #[vs t,vi 0,vi 0] 212 (0,0))]++ [(b1,Obj.cells #[vi 2,vs t] 43 (0,0)),(b4,Obj.cells fnsV 292 (0,0))]) (by classical exact List.perm_iff_count.2 fun a=>by simp only[List.count_append,List.count_cons,List.count_nil]<;>omega) ?_
     refine Ow.callFnX (b:=vp bo 0) (X:= [(bo,Obj.cells (roC (vp bw 0) (.slice none 0 0) id0 (.slice none 0 0) []).toArray 294 (0,0)),(bw,Obj.cells #[vs t,vi 0,vi 0] 212 (0,0))]) (Y:= [(b1,Obj.cells #[vi 2,vs t] 43 (0,0)),(b4,Obj.cells fnsV 292 (0,0))]) rfl rfl rfl rfl rfl Tryz.call212 (fun w' hw' hX hn=>aef_ bo bw t w' (by omega) hobw (hX _ List.mem_cons_self) (hX _ (List.mem_cons_of_mem _ List.mem_cons_self))) (fun v D hC hS=> ?_)
     obtain⟨rfl,v1,hl1,hg1⟩:=hS
     have hNX:New w.heap.size (D++ [(b1,Obj.cells #[vi 2,vs t] 43 (0,0)),(b4,Obj.cells fnsV 292 (0,0))]):=by
      refine New.of_le fun c hc=> ?_
      rw[zk_,List.mem_append] at hc
      rcases hc with hc|hc
      ·rcases hC.new c hc with h| ⟨-,h⟩
       ·simp only[keys,List.map_cons,List.map_nil,List.mem_cons,List.not_mem_nil,or_false] at h;omega
       ·exact h
      ·simp only[keys,List.map_cons,List.map_nil,List.mem_cons,List.not_mem_nil,or_false] at hc;omega
     refine ko @jU_ ?_
     first|with_reducible refine ks [] @jU_ ?_|refine kp @jU_ ?_
     refine⟨_,(ke @jU_), ?_⟩
     exact⟨Ext.of_new hNX,vp bo 0,by rw[e];rfl,fun _=>⟨bo,bw,v1,_,_,_,rfl,qR_ hl1,fun _=>hg1.app,fun h=>absurd h (by decide),fun h=>absurd rfl h⟩⟩
    ·have lf: ∀n E fz,zs_ (some (false,n)) (some (.cells fnsV E fz)) 3=some (fnV 213):=fun _ _ _=>rfl
     have e:vR_ 3 t=(jq_ t (wh_ t).2.1 (wh_ t).2.2==0&&wE_ (wh_ t).1):=by unfold vR_;rw[if_pos (by omega)];rfl
     refine ko (And.intro @jU_ @lf) ?_
     refine Ow.permL (M:= [(bo,Obj.cells (roC (vp bw 0) (.slice none 0 0) id0 (.slice none 0 0) []).toArray 294 (0,0)),(bw,Obj.cells #[vs t,vi 0,vi 0] 212 (0,0))]++ [(b1,Obj.cells #[vi 3,vs t] 43 (0,0)),(b4,Obj.cells fnsV 292 (0,0))]) (by classical exact List.perm_iff_count.2 fun a=>by simp only[List.count_append,List.count_cons,List.count_nil]<;>omega) ?_
     refine Ow.callFnX (b:=vp bo 0) (X:= [(bo,Obj.cells (roC (vp bw 0) (.slice none 0 0) id0 (.slice none 0 0) []).toArray 294 (0,0)),(bw,Obj.cells #[vs t,vi 0,vi 0] 212 (0,0))]) (Y:= [(b1,Obj.cells #[vi 3,vs t] 43 (0,0)),(b4,Obj.cells fnsV 292 (0,0))]) rfl rfl rfl rfl rfl Tryz.call213 (fun w' hw' hX hn=>ahC_ bo bw t w' (by omega) hobw (hX _ List.mem_cons_self) (hX _ (List.mem_cons_of_mem _ List.mem_cons_self))) (fun v D hC hS=> ?_)
     obtain⟨rfl,p1,hl1,hg1⟩:=hS
     have hNX:New w.heap.size (D++ [(b1,Obj.cells #[vi 3,vs t] 43 (0,0)),(b4,Obj.cells fnsV 292 (0,0))]):=by
      refine New.of_le fun c hc=> ?_
      rw[zk_,List.mem_append] at hc
      rcases hc with hc|hc
      ·rcases hC.new c hc with h| ⟨-,h⟩
       ·simp only[keys,List.map_cons,List.map_nil,List.mem_cons,List.not_mem_nil,or_false] at h;omega
       ·exact h
      ·simp only[keys,List.map_cons,List.map_nil,List.mem_cons,List.not_mem_nil,or_false] at hc;omega
     refine ko @jU_ ?_
     first|with_reducible refine ks [] @jU_ ?_|refine kp @jU_ ?_
     refine⟨_,(ke @jU_), ?_⟩
     exact⟨Ext.of_new hNX,vp bo 0,by rw[e];rfl,fun _=>⟨bo,bw,_,_,p1,_,rfl,qR_ hl1,fun h=>absurd h (by decide),fun _=>⟨rfl,rfl,hg1.app⟩,fun _=>rfl⟩⟩
end Go.Proofs
end
section
open Go Go.Proofs Go.Sx Go.StP
namespace Go.Proofs
set_option maxRecDepth 10000
set_option maxHeartbeats 400000
set_option linter.unusedSimpArgs false
set_option linter.defProp false
def adw_:=And.intro (And.intro (And.intro (@ja_) (@qs_)) (And.intro (@qt_) (@qB_))) (And.intro (And.intro (@Sx.tup2_0) (@Sx.tup2_1)) (And.intro (@zi_) (@zh_)))
theorem Xt_ (k:Int) (t:List UInt8) (w:World):Rets Tryz.prog 156 #[obV k t] w (fun v D=>v= .bool (vR_ k t)∧D= []):=by
 refine Rets.enterV Tryz.func156 rfl (rs:= [.tmp 2]) Tryz.results156 Tryz.ntmps156 ?_
 refine kf ?_
 first|with_reducible refine ks [] @adw_ ?_|refine kp @adw_ ?_
 refine Ow.box rfl rfl fun b1 hb1 hw1=> ?_
 simp only[z8_,z3_,z4_,zc_,List.nil_append]
 refine ko @adw_ ?_
 refine Ow.callC rfl rfl Tryz.call179 (fun w' hw'=>agR_ k t w') (fun B v D hA hB hN hS=> ?_)
 obtain⟨p,rfl,-⟩:=hS
 refine ko @adw_ ?_
 first|with_reducible refine ks [] @adw_ ?_|refine kp @adw_ ?_
 refine⟨_,(ke @adw_),⟨hw1,New.mono hB hN⟩, ?_⟩
 rfl
def asQ_ (k:Int) (t:List UInt8) (ok:Bool):Int:=if ok&&vR_ k t then k else 0
def asC_ (k:Int) (t:List UInt8) (ok:Bool):List UInt8:=if ok&&vR_ k t then t else []
def ate_ (k:Int) (t:List UInt8) (ok:Bool):Int:=if ok&&vR_ k t then 0 else 1
theorem zrOb:zE_ Tryz.prog 43=some (obV 0 []):=id (by kernel_rfl)
theorem ky_:qp_ (x3_ Tryz.prog 43) (zE_ Tryz.prog 43) []=some (obV 0 []):=by
 have hp:x3_ Tryz.prog 43=some [(0,1),(1,1)]:=id (by kernel_rfl)
 rw[hp,zrOb];rfl
theorem aiW_ (k:Int) (t:List UInt8):qp_ (x3_ Tryz.prog 43) (zE_ Tryz.prog 43) [(0,vi k),(1,vs t)]=some (obV k t):=by
 have hp:x3_ Tryz.prog 43=some [(0,1),(1,1)]:=id (by kernel_rfl)
 rw[hp,zrOb];rfl
end Go.Proofs
end
section
open Go Go.Proofs Go.Sx Go.StP
namespace Go.Proofs
set_option maxRecDepth 10000
set_option maxHeartbeats 400000
set_option linter.unusedSimpArgs false
set_option linter.defProp false
def asR_:=And.intro (And.intro (And.intro (@ja_) (And.intro (@qs_) (@qt_))) (And.intro (@qB_) (And.intro (@Sx.tup2_0) (@Sx.tup2_1)))) (And.intro (And.intro (@wM_) (And.intro (@w2_) (@wm_))) (And.intro (And.intro (@Qv_) (@kr_)) (And.intro (@zi_) (@zh_))))
theorem BldAt.zeroE (b:Nat) {L:ze_} (h:Sx.look L b=some (.cells #[.pointer none, .slice none 0 0] 123 (0,0))):BldAt b [] L:=
 ⟨_,_,h, .inl rfl, .nl,fun h=>by cases h⟩
theorem zrWr:zE_ Tryz.prog 123=some (.agg #[.pointer none, .slice none 0 0]):=id (by kernel_rfl)
theorem aiD_ (x:IdL):ZA_ Tryz.prog 30 1 [(0, .agg (a8 x.l))]=some (37,a8 x.l):=zR_ (cs:=x.l.map v8) Tryz.underlying30 we_ wv_ (by decide) (by simp[x.h])
theorem akA_ (x:IdL) {w':World} {b:Nat} (h:w'.heap[b]? =some (.cells (a8 x.l) 37 (0,0))):RowS 32 wb_ id0 w' (vsl b 0 1 1) [x] b 0 (a8 x.l) 37 (0,0):=RowS.sl rfl h (by
 intro k hk j hj
 obtain rfl:k=0:=by simpa using hk
 simp only[Nat.zero_mul,Nat.zero_add,List.getD_cons_zero]
 rw[←Q8_,List.getElem?_toArray])
theorem Came.newE {w0:World} {L X D:ze_} {b:Nat} (hC:Came w0 L X D) (hN:New (b+1) X) (hb:b∈keys L):New (b+1) D:=New.of_le fun c hc=>by
 rcases hC.new c hc with h| ⟨h,-⟩
 ·exact hN.le c h
 ·have:=zf_ h hb;omega
end Go.Proofs
end
section
open Go Go.Proofs Go.Sx Go.StP
namespace Go.Proofs
set_option maxRecDepth 10000
set_option maxHeartbeats 400000
set_option linter.unusedSimpArgs false
set_option linter.defProp false
def asx_:=And.intro (And.intro (And.intro (@ja_) (And.intro (@qs_) (@qt_))) (And.intro (And.intro (@qB_) (@Sx.tup2_0)) (And.intro (@Sx.tup2_1) (@vG_)))) (And.intro (And.intro (@wF_) (And.intro (@w1_) (@jC_))) (And.intro (And.intro (@ql_) (@qr_)) (And.intro (@zi_) (@zh_))))
structure WrG where
 g:Nat
 D:ze_
end Go.Proofs
end
section
open Go Go.Proofs Go.Sx Go.StP
namespace Go.Proofs
set_option maxRecDepth 10000
set_option maxHeartbeats 400000
set_option linter.unusedSimpArgs false
theorem adX_ {k:Int} {t:List UInt8} (h:vR_ k t=true):1≤k∧k≤3∧t.length≤4096:=by
 unfold vR_ at h
 split at h
 ·assumption
 ·cases h
set_option linter.defProp false
def aso_:=And.intro (And.intro (And.intro (@ja_) (@qs_)) (And.intro (@qt_) (And.intro (@qB_) (@Sx.tup2_0)))) (And.intro (And.intro (@Sx.tup2_1) (And.intro (@aal_) (@WL_))) (And.intro (@aan_) (And.intro (@zi_) (@zh_))))
def asn_ (k:Int) (t:List UInt8) (v:Value) (D:ze_):Prop:=
 if vR_ k t=true∧k=2 then∃v1,v= .tuple #[v1,vi 0]∧Gr D 268 34 v1 (jR_ t).1.length ((jR_ t).1.map qQ_).flatten else v= .tuple #[.slice none 0 0,vi 1]
def asp_ (k:Int) (t:List UInt8) (v:Value) (D:ze_):Prop:=
 if vR_ k t=true∧k=3 then∃p,v= .tuple #[.agg (q5_ (wh_ t).1.tree p (wh_ t).1.text).toArray,vi 0]∧Gr D 37 32 p (wh_ t).1.par.length ((wh_ t).1.par.map wb_).flatten else v= .tuple #[.agg (q5_ id0 (.slice none 0 0) []).toArray,vi 1]
end Go.Proofs
end
section
open Go Go.Proofs Go.Sx Go.StP
namespace Go.Proofs
set_option maxRecDepth 10000
set_option maxHeartbeats 400000
set_option linter.unusedSimpArgs false
set_option linter.defProp false
def wZ_:=And.intro (And.intro (And.intro (@ja_) (@qs_)) (And.intro (@qt_) (@qB_))) (And.intro (And.intro (@Sx.tup2_0) (@Sx.tup2_1)) (And.intro (@zi_) (@zh_)))
def ZV_ (k:Int):List UInt8:=(([32,98,116,99]:List UInt8).take (k+1).toNat).drop k.toNat
def x4_ (k:Int) (t:List UInt8):List UInt8:=ZV_ k++xi_ t
theorem adO_ (k:Int) (t:List UInt8) (w:World):Rets Tryz.prog 159 #[obV k t] w (XS w [] (fun v _=>v=if vR_ k t then .tuple #[vs (x4_ k t),vi 0] else .tuple #[vs [],vi 1])):=by
 refine Rets.enterX Tryz.func159 rfl (rs:= [.tmp 2, .tmp 3]) Tryz.results159 Tryz.ntmps159 (fun p hp=>by cases hp) (by simp[keys]) ?_
 refine kf ?_
 first|with_reducible refine ks [] @wZ_ ?_|refine kp @wZ_ ?_
 refine Ow.box rfl rfl fun b1 hb1 hw1=> ?_
 simp only[z8_,z3_,z4_,zc_,List.nil_append]
 refine ko @wZ_ ?_
 refine Ow.callFV rfl Tryz.call156 (fun w' hw'=>Xt_ k t w') ?_
 cases hr:vR_ k t
 ·refine ko @wZ_ ?_
  first|with_reducible refine ks [] @wZ_ ?_|refine kp @wZ_ ?_
  refine⟨_,(ke @wZ_), ?_⟩
  exact⟨Ext.of_new ⟨hw1,trivial⟩,rfl⟩
 ·obtain⟨hk1,hk3,htl⟩:=adX_ hr
  have hhl: (ZV_ k).length≤4:=by unfold ZV_;simp only[List.length_drop,List.length_take,List.length_cons,List.length_nil];omega
  refine ko @wZ_ ?_
  refine Ow.alloc rfl rfl zrWr fun b4 hb4 hw4=> ?_
  simp only[zc_,List.nil_append,List.cons_append]
  have h14:b1<b4:=zf_ hb4 (by simp[keys])
  refine Ow.permL (M:= [(b4,Obj.cells #[.pointer none, .slice none 0 0] 123 (0,0))]++ [(b1,Obj.cells #[vi k,vs t] 43 (0,0))]) (by classical exact List.perm_iff_count.2 fun a=>by simp only[List.count_append,List.count_cons,List.count_nil]<;>omega) ?_
  have hB0:BldAt b4 [] [(b4,Obj.cells #[.pointer none, .slice none 0 0] 123 (0,0))]:=BldAt.zeroE b4 (zT_ _ _ _)
  have hN0:New (b1+1) [(b4,Obj.cells #[.pointer none, .slice none 0 0] 123 (0,0))]:=⟨by omega,trivial⟩
  generalize [(b4,Obj.cells #[.pointer none, .slice none 0 0] 123 (0,0))]=D0 at hB0 hN0 ⊢
  have rdc: ∀ {D},New (b1+1) D→ ∀M,zA_ w (D++ (b1,Obj.cells #[vi k,vs t] 43 (0,0))::M) b1=some (.cells #[vi k,vs t] 43 (0,0)):=fun hn M=>z6_ (by rw[qJ_ (hn.not (by omega))];exact zT_ _ _ _)
  have r0:=rdc hN0
  have hsl:jO_ .str (vs ([32,98,116,99]:List UInt8)) (some (some k)) (some (some (k+1)))=some (vs (ZV_ k)):=ZB_ _ _ _ ⟨by omega,by omega,by simp only[List.length_cons,List.length_nil];omega⟩
  refine ko (And.intro @wZ_ (And.intro @r0 (@hsl))) ?_
  refine Ow.buildSlice (e:=9) #[vs (ZV_ k)] rfl rfl (by kernel_rfl) fun b14 hb14 hw14=> ?_
  have h114:b1<b14:=zf_ hb14 (by simp[keys])
  have hD14:b14∉keys D0:=fun hm=>Nat.lt_irrefl _ (zf_ hb14 (by rw[zk_];exact List.mem_append_left _ hm))
  refine ko @wZ_ ?_
  refine Ow.callX (Y:= [(b1,Obj.cells #[vi k,vs t] 43 (0,0)),(b14,Obj.cells #[vs (ZV_ k)] 9 (0,0))]) (by simp) rfl rfl Tryz.call60 (fun w' hw' hX hn=>vk_ b4 D0 _ _ b14 0 [ZV_ k] _ _ _ w' hB0 hX hn (StrS.lit [ZV_ k] rfl rfl (hw'.has _ _ (List.mem_append_right _ List.mem_cons_self))) (fun _=>hD14) (by simp;omega) (by simp)) (fun u0 E0 hC0 hS0=> ?_)
  obtain⟨rfl,hB0'⟩:=hS0
  have hN0':=Came.newE hC0 hN0 (by simp[keys])
  have hB1:=hB0'.app (Y:= [(b14,Obj.cells #[vs (ZV_ k)] 9 (0,0))])
  have hN1:=hN0'.app (show New (b1+1) [(b14,Obj.cells #[vs (ZV_ k)] 9 (0,0))] from⟨by omega,trivial⟩)
  refine Ow.permL (M:=(E0++ [(b14,Obj.cells #[vs (ZV_ k)] 9 (0,0))])++ [(b1,Obj.cells #[vi k,vs t] 43 (0,0))]) (by classical exact List.perm_iff_count.2 fun a=>by simp only[List.count_append,List.count_cons,List.count_nil]<;>omega) ?_
  generalize E0++ [(b14,Obj.cells #[vs (ZV_ k)] 9 (0,0))]=F1 at hB1 hN1 ⊢
  simp only[List.flatten_cons,List.flatten_nil,List.append_nil,List.nil_append] at hB1
  have r1:=rdc hN1
  refine ko (And.intro @wZ_ @r1) ?_
  have htx:ko_ [t]=xi_ t:=by simp[ko_]
  have tll:=vv_ (s:=t) (by omega)
  have tnl: (xi_ t).length=(qP_ (zz_ t.length)).length+t.length:=by unfold xi_;rw[List.length_append]
  have nl1:=zm_ (t.length:Int)
  refine Ow.buildSlice (e:=9) #[vs t] rfl rfl (by kernel_rfl) fun b18 hb18 hw18=> ?_
  have h118:b1<b18:=zf_ hb18 (by simp[keys])
  have hD18:b18∉keys F1:=fun hm=>Nat.lt_irrefl _ (zf_ hb18 (by rw[zk_];exact List.mem_append_left _ hm))
  refine ko @wZ_ ?_
  refine Ow.callX (Y:= [(b1,Obj.cells #[vi k,vs t] 43 (0,0)),(b18,Obj.cells #[vs t] 9 (0,0))]) (by simp) rfl rfl Tryz.call62 (fun w' hw' hX hn=>VZ_ b4 F1 _ _ b18 0 [t] _ _ _ w' hB1 hX hn (StrS.lit [t] rfl rfl (hw'.has _ _ (List.mem_append_right _ List.mem_cons_self))) (fun _=>hD18) (by rw[htx];omega) (by simp)) (fun u1 E1 hC1 hS1=> ?_)
  obtain⟨rfl,hB1'⟩:=hS1
  have hN1':=Came.newE hC1 hN1 (by simp[keys])
  have hB2:=hB1'.app (Y:= [(b18,Obj.cells #[vs t] 9 (0,0))])
  have hN2:=hN1'.app (show New (b1+1) [(b18,Obj.cells #[vs t] 9 (0,0))] from⟨by omega,trivial⟩)
  refine Ow.permL (M:=(E1++ [(b18,Obj.cells #[vs t] 9 (0,0))])++ [(b1,Obj.cells #[vi k,vs t] 43 (0,0))]) (by classical exact List.perm_iff_count.2 fun a=>by simp only[List.count_append,List.count_cons,List.count_nil]<;>omega) ?_
  generalize E1++ [(b18,Obj.cells #[vs t] 9 (0,0))]=F2 at hB2 hN2 ⊢
  rw[htx] at hB2
  refine ko @wZ_ ?_
  refine Ow.callX (Y:= [(b1,Obj.cells #[vi k,vs t] 43 (0,0))]) (by simp) rfl rfl Tryz.call64 (fun w' hw' hX hn=>kZ_ b4 F2 _ w' hB2 hX hn (by rw[List.length_append];omega)) (fun v5 D5 hC5 hS5=> ?_)
  obtain rfl:=hS5
  have hN5:=Came.newE hC5 hN2 (by simp[keys])
  refine ko @wZ_ ?_
  first|with_reducible refine ks [] @wZ_ ?_|refine kp @wZ_ ?_
  refine⟨_,(ke @wZ_), ?_⟩
  exact⟨Ext.of_new ((New.mono (by omega) hN5).app ⟨hw1,trivial⟩),rfl⟩
end Go.Proofs
end
section
open Go Go.Proofs Go.Sx Go.StP
namespace Go.Proofs
set_option maxRecDepth 10000
set_option maxHeartbeats 400000
set_option linter.unusedSimpArgs false
set_option linter.defProp false
def kN_:=And.intro (And.intro (And.intro (@ja_) (@qs_)) (And.intro (@qt_) (@qB_))) (And.intro (And.intro (@Sx.tup2_0) (@Sx.tup2_1)) (And.intro (@kr_) (And.intro (@zi_) (@zh_))))
def Jr_ (k:Int) (t:List UInt8):Bool:=if 4096<t.length then false else if k=2 then(acR_ t).isSome else if k=3 then(aeN_ t).isSome else k==1
theorem aew_ (k:Int) (t:List UInt8) (w:World):Rets Tryz.prog 133 #[obV k t] w (fun v D=>v= .bool (Jr_ k t)∧D= []):=by
 refine Rets.enterV Tryz.func133 rfl (rs:= [.tmp 2]) Tryz.results133 Tryz.ntmps133 ?_
 refine kf ?_
 first|with_reducible refine ks [] @kN_ ?_|refine kp @kN_ ?_
 refine Ow.box rfl rfl fun b1 hb1 hw1=> ?_
 simp only[z8_,z3_,z4_,zc_,List.nil_append]
 refine ko @kN_ ?_
 unfold Jr_
 by_cases h3:4096<t.length
 ·have d1:decide (4096< (t.length:Int))=true:=decide_eq_true (by omega)
  rw[if_pos h3]
  first|with_reducible refine ks [] (And.intro @kN_ @d1) ?_|refine kp (And.intro @kN_ @d1) ?_
  refine⟨_,(ke @kN_),⟨hw1,trivial⟩, ?_⟩
  rfl
 ·have d1:decide (4096< (t.length:Int))=false:=decide_eq_false (by omega)
  rw[if_neg h3]
  by_cases h2:k=2
  ·subst h2
   rw[if_pos rfl]
   first|with_reducible refine ks [] (And.intro @kN_ @d1) ?_|refine kp (And.intro @kN_ @d1) ?_
   refine Ow.callC rfl rfl Tryz.call165 (fun w' hw'=>aas_ t w' (by omega)) (fun B v D hA hB hN hS=> ?_)
   obtain⟨p,b,rfl,hb⟩: ∃p b,v= .tuple #[p, .bool b]∧(acR_ t).isSome=b:=by
    unfold akN_ at hS
    cases h:acR_ t with
    |none=>rw[h] at hS;exact⟨_,_,hS,rfl⟩
    |some l=>rw[h] at hS;obtain⟨v1,rfl,-⟩:=hS;exact⟨_,_,rfl,rfl⟩
   rw[hb]
   refine ko @kN_ ?_
   first|with_reducible refine ks [] @kN_ ?_|refine kp @kN_ ?_
   refine⟨_,(ke @kN_),⟨hw1,New.mono hB hN⟩, ?_⟩
   rfl
  ·have d2: (k==2)=false:=by simpa using h2
   rw[if_neg h2]
   by_cases h4:k=3
   ·subst h4
    rw[if_pos rfl]
    first|with_reducible refine ks [] (And.intro @kN_ (And.intro @d1 (@d2))) ?_|refine kp (And.intro @kN_ (And.intro @d1 (@d2))) ?_
    refine Ow.callC rfl rfl Tryz.call166 (fun w' hw'=>WY_ t w' (by omega)) (fun B v D hA hB hN hS=> ?_)
    obtain⟨c,p,x,b,rfl,hp,hb⟩: ∃c p x b,v= .tuple #[.agg (q5_ c p x).toArray, .bool b]∧Value.oneCell' p=true∧(aeN_ t).isSome=b:=by
     unfold ait_ at hS
     cases h:aeN_ t with
     |none=>rw[h] at hS;exact⟨_,_,_,_,hS,rfl,rfl⟩
     |some l=>rw[h] at hS;obtain⟨v1,rfl,hg⟩:=hS;exact⟨_,_,_,_,rfl,hg.cell.1,rfl⟩
    rw[hb]
    have stq: ∀a E,zl_ (some (a,34)) (some (.cells (q5_ id0 (.slice none 0 0) []).toArray E (0,0))) 0 (.agg (q5_ c p x).toArray)=some (.cells (q5_ c p x).toArray E (0,0)):=fun a E=>Ko_ _ _ _ _ a E (by rw[List.size_toArray,Zk_]) hp
    refine ko @kN_ ?_
    refine Ow.alloc rfl rfl alX_ fun b5 hb5 hw5=> ?_
    simp only[zc_,List.nil_append,List.cons_append]
    refine Ow.permL (M:=(b5,Obj.cells (q5_ id0 (.slice none 0 0) []).toArray 241 (0,0)):: (b1,Obj.cells #[vi 3,vs t] 43 (0,0))::D) (by classical exact List.perm_iff_count.2 fun a=>by simp only[List.count_append,List.count_cons,List.count_nil]<;>omega) ?_
    refine ko (And.intro @kN_ @stq) ?_
    first|with_reducible refine ks [] @kN_ ?_|refine kp @kN_ ?_
    refine⟨_,(ke @kN_),⟨hw5,hw1,New.mono hB hN⟩, ?_⟩
    rfl
   ·have d3: (k==3)=false:=by simpa using h4
    rw[if_neg h4]
    first|with_reducible refine ks [] (And.intro @kN_ (And.intro @d1 (And.intro @d2 (@d3)))) ?_|refine kp (And.intro @kN_ (And.intro @d1 (And.intro @d2 (@d3)))) ?_
    refine⟨_,(ke @kN_),⟨hw1,trivial⟩, ?_⟩
    rfl
end Go.Proofs
end
section
open Go Go.Proofs Go.Sx Go.StP
namespace Go.Proofs
set_option maxRecDepth 10000
set_option maxHeartbeats 400000
set_option linter.unusedSimpArgs false
theorem ajV_ (n:Nat):0< (qP_ n).length:=by
 by_cases h:n<128
 ·rw[qK_ h];simp
 ·rw[v6_ h];simp
theorem aeR_ (most:Int): ∀ (l:List UInt8) (k acc m k':Nat),qb_ most l k acc= .ok (m,k')→ ∃n,l=qP_ n++l.drop (k' - k)∧m=acc+n*128^k∧(0<k→0<n)∧k<k':=by
 intro l
 induction l with
 |nil=>intro k acc m k' h;simp[qb_] at h
 |cons c r ih=>
  intro k acc m k' h
  unfold qb_ at h
  have hcl:=c.toNat_lt
  split at h
  ·rename_i hc
   split at h
   ·cases h
   ·obtain⟨n,h1,h2,h3,h4⟩:=ih _ _ _ _ h
    have hn:=h3 (by omega)
    refine⟨c.toNat%128+128*n, ?_, ?_,fun _=>by omega,by omega⟩
    ·rw[v6_ (by omega),show(c.toNat%128+128*n) / 128=n by omega,show(c.toNat%128+128*n)%128+128=c.toNat by omega]
     rw[show k' - k=(k' - (k+1))+1 by omega,List.drop_succ_cons,List.cons_append,←h1]
     simp
    ·rw[h2,Nat.pow_succ,Nat.add_mul,Nat.add_assoc]
     congr 2
     rw[Nat.mul_comm 128 n,Nat.mul_assoc,Nat.mul_comm (128^k) 128]
  ·rename_i hc
   split at h
   ·cases h
   ·rename_i hz
    split at h
    ·cases h
     refine⟨c.toNat, ?_, ?_,fun hk=>by omega,by omega⟩
     ·rw[qK_ (by omega),Nat.add_sub_cancel_left]
      simp
     ·rw[Nat.mod_eq_of_lt (by omega)]
    ·cases h
theorem jl_ {n:Nat} (h:n≤1099511627775):zz_ (n:Int)=n:=vl_ (by omega)
theorem Jq_ (most:Int): ∀ (l:List UInt8) (k n m k':Nat),qb_ most l k n= .ok (m,k')→m≤1099511627775
 | [],_,_,_,_,h=>by simp[qb_] at h
 |c::r,k,n,m,k',h=>by
  unfold qb_ at h
  split at h
  ·split at h
   ·cases h
   ·exact Jq_ most r _ _ _ _ h
  ·split at h
   ·cases h
   ·split at h
    ·rename_i hh
     cases h
     exact hh.1
    ·cases h
theorem Zn_ {s:List UInt8} {a:Nat} {most:Int} (h: (zr_ s a 0 most).2.2=0): ∃n:Nat,(zr_ s a 0 most).1=(n:Int)∧n≤1099511627775∧(n:Int)≤most∧s.drop a=qP_ n++s.drop (zr_ s a 0 most).2.1:=by
 unfold zr_ at h ⊢
 rw[if_neg (by simp)] at h ⊢
 cases hg:qb_ most (s.drop a) 0 0 with
 |ok p=>
  obtain⟨m,k⟩:=p
  obtain⟨n,h1,h2,-,-⟩:=aeR_ _ _ _ _ _ _ hg
  obtain rfl:m=n:=by rw[h2];simp
  refine⟨m,rfl,Jq_ _ _ _ _ _ _ hg,ZQ_ _ _ _ _ _ _ hg, ?_⟩
  rw[Nat.sub_zero,List.drop_drop] at h1
  exact h1
 |error x=>
  rw[hg] at h
  exfalso
  have:x=0:=by have: ((x:Nat):Int)=0:=h;omega
  subst this
  exact ajp_ _ _ _ _ hg
theorem QZ_ {s:List UInt8} {a:Nat} {n:Int} (ha:a≤s.length) (h: (qD_ s a 0 n).2.2=0):0≤n∧(qD_ s a 0 n).1.length=n.toNat∧s.drop a=(qD_ s a 0 n).1++s.drop (qD_ s a 0 n).2.1:=by
 unfold qD_ at h ⊢
 rw[if_neg (by simp)] at h ⊢
 split at h
 ·exact absurd (show(2:Int)=0 from h) (by decide)
 ·rename_i h1
  rw[if_neg h1]
  split at h
  ·exact absurd (show(3:Int)=0 from h) (by decide)
  ·rename_i h2
   rw[if_neg h2]
   refine⟨by omega, ?_, ?_⟩
   ·simp only[List.length_take,List.length_drop];omega
   ·simp only
    rw[←List.drop_drop,List.take_append_drop]
theorem Kp_ {s:List UInt8} {a:Nat} {most:Int} (ha:a≤s.length) (h: (zI_ s a 0 most).2.2=0): ((zI_ s a 0 most).1.length:Int)≤most∧s.drop a=xi_ (zI_ s a 0 most).1++s.drop (zI_ s a 0 most).2.1:=by
 have hle:=zO_ (e:=0) (most:=most) ha
 have e1: (zr_ s a 0 most).2.2=0:=Decidable.byContradiction fun hn=>by
  unfold zI_ at h
  simp only[VY_ hn] at h
  rw[if_pos hn] at h
  exact hn h
 obtain⟨n,hn,hb,hm,hd⟩:=Zn_ e1
 unfold zI_ at h ⊢
 simp only at h ⊢
 generalize zr_ s a 0 most=p at*
 obtain⟨p1,p2,p3⟩:=p
 simp only at e1 hn hd hle h ⊢
 subst e1 hn
 have e2: (qD_ s p2 0 (n:Int)).2.2=0:=Decidable.byContradiction fun hh=>by rw[if_pos hh] at h;exact hh h
 rw[if_neg (by simp[e2])]
 obtain⟨-,hl,hr⟩:=QZ_ hle.2 e2
 rw[Int.toNat_natCast] at hl
 refine⟨by rw[hl];exact hm, ?_⟩
 unfold xi_
 rw[hl,jl_ hb,List.append_assoc,←hr]
 exact hd
theorem Kw_ {s:List UInt8} {a:Nat} (ha:a≤s.length) (h: (idR s a 0).2.2=0):s.drop a=(vc_ (idR s a 0).1).l++s.drop (idR s a 0).2.1:=by
 have e2: (qD_ s a 0 32).2.2=0:=h
 obtain⟨-,hl,hr⟩:=QZ_ ha e2
 rw[kS_ (wK_ s a 0)]
 unfold idR
 simp only
 have hl': (qD_ s a 0 32).1.length=32:=hl
 rw[if_pos hl']
 exact hr
theorem ag9_ {s:List UInt8} {a:Nat} (ha:a≤s.length) (h: (KQ_ s a 0).2.2=0):s.drop a=entB (KQ_ s a 0).1++s.drop (KQ_ s a 0).2.1:=by
 have hq:=zO_ (e:=0) (most:=2) ha
 unfold KQ_ at h ⊢
 simp only at h ⊢
 have e1: (zr_ s a 0 2).2.2=0:=Decidable.byContradiction fun hn=>by
  rw[agA_ (by rw[W7_ hn];exact hn),W7_ hn] at h;exact hn h
 obtain⟨n,hn,hb,-,hd⟩:=Zn_ e1
 generalize zr_ s a 0 2=p at*
 obtain⟨p1,p2,p3⟩:=p
 simp only at e1 hn hd hq h ⊢
 subst e1 hn
 have ht:=xl_ (e:=0) (most:=32) hq.2
 have e2: (zI_ s p2 0 32).2.2=0:=Decidable.byContradiction fun hn=>by rw[agA_ hn] at h;exact hn h
 obtain⟨-,hd2⟩:=Kp_ hq.2 e2
 generalize zI_ s p2 0 32=q at*
 obtain⟨q1,q2,q3⟩:=q
 simp only at e2 hd2 ht h ⊢
 subst e2
 have hd3:=Kw_ ht.2 h
 unfold entB
 simp only
 rw[jl_ hb,List.append_assoc,List.append_assoc,←hd3,←hd2]
 exact hd
theorem ahb_ (l:List EntL) (x:EntL):k7_ (l++ [x])=k7_ l++entB x:=by unfold k7_;simp
theorem JA_ {s:List UInt8}: ∀ (n a:Nat) (e:Int) (l:List EntL),a≤s.length→(e=0→s=k7_ l++s.drop a)→((kT_ s n a e l).2.2=0→s=k7_ (kT_ s n a e l).1++s.drop (kT_ s n a e l).2.1)
 |0,_,_,_,_,h=>h
 |n+1,a,e,l,ha,h=>by
  by_cases hc:e=0∧a<s.length
  ·rw[Kq_ hc]
   refine JA_ n _ _ _ (adq_ ha).2 fun h0=> ?_
   obtain⟨rfl,-⟩:=hc
   rw[ahb_,List.append_assoc,←ag9_ ha h0]
   exact h rfl
  ·rw[Q2_ hc]
   exact h
theorem Z6_ {s:List UInt8} {a:Nat} {e:Int} (h:jq_ s a e=0):e=0∧s.length≤a:=by
 unfold jq_ at h
 split at h
 ·rename_i he;exact absurd h he
 ·rename_i he
  split at h
  ·exact absurd h (by decide)
  ·exact⟨Decidable.byContradiction he,by omega⟩
theorem ad4_ {s:List UInt8} (h:jq_ s (jR_ s).2.1 (jR_ s).2.2=0):k7_ (jR_ s).1=s:=by
 obtain⟨h1,h2⟩:=Z6_ h
 have:=JA_ (s:=s) (s.length+1) 0 0 [] (Nat.zero_le _) (fun _=>by simp[k7_]) h1
 rw[show kT_ s (s.length+1) 0 0 []=jR_ s from rfl,List.drop_eq_nil_of_le h2,List.append_nil] at this
 exact this.symm
theorem KC_ {s:List UInt8}: ∀ (n a:Nat) (e:Int) (l:List EntL),a≤s.length→(e=0→s.length<a+n)→(kT_ s n a e l).2.2=0→s.length≤ (kT_ s n a e l).2.1
 |0,a,e,l,ha,hf,h=>by have:=hf h;show s.length≤a;omega
 |n+1,a,e,l,ha,hf,h=>by
  by_cases hc:e=0∧a<s.length
  ·rw[Kq_ hc] at h ⊢
   refine KC_ n _ _ _ (adq_ ha).2 (fun h0=> ?_) h
   obtain⟨rfl,-⟩:=hc
   have:=akG_ ha h0
   have:=hf rfl
   omega
  ·rw[Q2_ hc] at h ⊢
   have h':e=0:=h
   exact Decidable.byContradiction fun hn=>hc ⟨h',by have hn': ¬s.length≤a:=hn;omega⟩
theorem abr_ (s:List UInt8): (jq_ s (jR_ s).2.1 (jR_ s).2.2=0)↔(jR_ s).2.2=0:=by
 refine⟨fun h=>(Z6_ h).1,fun h=> ?_⟩
 have:=KC_ (s:=s) (s.length+1) 0 0 [] (Nat.zero_le _) (fun _=>by omega) h
 have h2:s.length≤ (jR_ s).2.1:=this
 unfold jq_
 rw[if_neg (by simp[h]),if_neg (by omega)]
theorem ajR_ (l:List IdL) (x:IdL):idsB (l++ [x])=idsB l++x.l:=by unfold idsB;simp
theorem XB_ {s:List UInt8} {a:Nat} (ha:a≤s.length): ∀n,(zL_ s a 0 n).2.2=0→s.drop a=idsB (zL_ s a 0 n).1++s.drop (zL_ s a 0 n).2.1
 |0,_=>by simp[zL_,idsB]
 |n+1,h=>by
  unfold zL_ at h ⊢
  simp only at h ⊢
  have e1: (zL_ s a 0 n).2.2=0:=Decidable.byContradiction fun hn=>by rw[agA_ hn] at h;exact hn h
  have ih:=XB_ ha n e1
  have hl:=Qh_ (e:=0) ha n
  generalize zL_ s a 0 n=p at*
  obtain⟨p1,p2,p3⟩:=p
  simp only at e1 ih hl h ⊢
  subst e1
  rw[ajR_,List.append_assoc,←Kw_ hl h]
  exact ih
theorem akv_ {s:List UInt8} {a:Nat} {e:Int} (he:e≠0): ∀n,(zL_ s a e n).2=(a,e)
 |0=>rfl
 |n+1=>by
  have ih:=akv_ (s:=s) (a:=a) he n
  unfold zL_
  simp only
  rw[ih,agA_ he]
theorem ahH_ {s:List UInt8} (h:jq_ s (wh_ s).2.1 (wh_ s).2.2=0):comB (wh_ s).1=s:=by
 obtain⟨h1,h2⟩:=Z6_ h
 have ip:=V4_ (s:=s) (a:=0) (e:=0) (Nat.zero_le _)
 have np:=zO_ (e:=(idR s 0 0).2.2) (most:=4) ip.2
 unfold wh_ at h1 h2 ⊢
 simp only at h1 h2 ⊢
 have e3: (wk_ s).2.2=0:=Decidable.byContradiction fun hn=>by unfold comT at h1;rw[W7_ hn] at h1;exact hn h1
 have e2: (comN s).2.2=0:=Decidable.byContradiction fun hn=>by unfold wk_ at e3;rw[akv_ hn] at e3;exact hn e3
 have e1: (idR s 0 0).2.2=0:=Decidable.byContradiction fun hn=>by unfold comN at e2;rw[ZD_ hn] at e2;exact hn e2
 have d1:=Kw_ (Nat.zero_le _) e1
 rw[e1] at np
 have hcN:comN s=zr_ s (idR s 0 0).2.1 0 4:=by unfold comN;rw[e1]
 rw[hcN] at e2
 obtain⟨n,hn,hb,-,d2⟩:=Zn_ e2
 have hcP:wk_ s=zL_ s (comN s).2.1 0 n:=by unfold wk_;rw[hcN,e2,hn,Int.toNat_natCast]
 have hp: (comN s).2.1≤s.length:=by rw[hcN];exact np.2
 rw[hcP] at e3
 have d3:=XB_ hp n e3
 have hpl: (wk_ s).1.length=n:=by rw[hcP,QC_]
 have hcT:comT s=zI_ s (wk_ s).2.1 0 64:=by unfold comT;rw[hcP,e3]
 have hle: (wk_ s).2.1≤s.length:=by rw[hcP];exact Qh_ hp n
 rw[hcT] at h1
 obtain⟨-,d4⟩:=Kp_ hle h1
 rw[←hcT] at d4
 rw[←hcP] at d3
 rw[←hcN] at d2
 unfold comB aeA_
 simp only
 rw[hpl,jl_ hb]
 rw[List.drop_eq_nil_of_le h2,List.append_nil] at d4
 rw[List.append_assoc,List.append_assoc,←d4,←d3,←d2,←d1]
 rfl
theorem agO_ (k:Int) (t:List UInt8):vR_ k t=Jr_ k t:=by
 unfold vR_ Jr_
 by_cases h4:4096<t.length
 ·rw[if_neg (by omega),if_pos h4]
 ·rw[if_neg h4]
  by_cases h2:k=2
  ·subst h2
   rw[if_pos (by omega),if_neg (by decide),if_pos rfl,if_pos rfl]
   unfold acR_
   by_cases hz:jq_ t (jR_ t).2.1 (jR_ t).2.2=0
   ·have:=ad4_ hz
    have h1:=(abr_ t).1 hz
    rw[hz]
    cases ho:kJ_ (jR_ t).1
    ·rw[if_neg (fun h=>by cases h.2.1)];rfl
    ·rw[if_pos ⟨h1,rfl,this⟩];rfl
   ·have h': ¬ (jR_ t).2.2=0:=fun h=>hz ((abr_ t).2 h)
    simp[hz,h']
  ·by_cases h3:k=3
   ·subst h3
    rw[if_pos (by omega),if_neg (by decide),if_neg (by decide),if_neg (by decide),if_pos rfl]
    unfold aeN_
    by_cases hz:jq_ t (wh_ t).2.1 (wh_ t).2.2=0
    ·have:=ahH_ hz
     cases ho:wE_ (wh_ t).1<;>simp[hz,this]
    ·simp[hz]
   ·rw[if_neg h2,if_neg h3]
    by_cases h1:k=1
    ·subst h1
     rw[if_pos (by omega)];rfl
    ·rw[if_neg (by omega)]
     simp[h1,h2]
theorem adS_ (most:Int) (r:List UInt8): ∀ (n k acc:Nat),(0<k→0<n)→k+ (qP_ n).length≤6→acc+n*128^k≤1099511627775→((acc+n*128^k:Nat):Int)≤most→
  qb_ most (qP_ n++r) k acc= .ok (acc+n*128^k,k+ (qP_ n).length):=by
 intro n
 induction n using Nat.strongRecOn with
 |ind n ih=>
  intro k acc hk hl hs hm
  by_cases h:n<128
  ·rw[qK_ h,List.cons_append,List.nil_append,qb_]
   have hc: (UInt8.ofNat n).toNat=n:=by rw[UInt8.toNat_ofNat'];omega
   rw[hc,Nat.mod_eq_of_lt h,if_neg (by omega),if_neg (by omega),if_pos ⟨hs,hm⟩]
   rfl
  ·have hb:=v6_ h
   rw[hb] at hl ⊢
   rw[List.cons_append,qb_]
   have hc: (UInt8.ofNat (n%128+128)).toNat=n%128+128:=by rw[UInt8.toNat_ofNat'];omega
   have hp:=ajV_ (n / 128)
   rw[List.length_cons] at hl
   have e:acc+ (n%128+128)%128*128^k+n / 128*128^ (k+1)=acc+n*128^k:=by
    have h1: (n%128+128)%128=n%128:=by omega
    rw[h1,Nat.pow_succ,Nat.add_assoc]
    congr 1
    have h2:n / 128* (128^k*128)=(n / 128*128)*128^k:=by rw[Nat.mul_comm (128^k),Nat.mul_assoc]
    rw[h2,←Nat.add_mul]
    congr 1
    omega
   rw[hc,if_pos (by omega),if_neg (by omega),ih (n / 128) (by omega) (k+1) _ (fun _=>by omega) (by omega) (by rw[e];exact hs) (by rw[e];exact hm),e,List.length_cons]
   congr 2
   omega
theorem kI_ (A r:List UInt8) (n:Nat) (most:Int) (hn:n≤1099511627775) (hm: (n:Int)≤most):zr_ (A++ (qP_ n++r)) A.length 0 most=((n:Int),A.length+ (qP_ n).length,0):=by
 have hl:=xF_ 6 n (by omega) (by omega)
 have h:=adS_ most r n 0 0 (fun h=>absurd h (Nat.lt_irrefl 0)) (by omega) (by simpa using hn) (by simpa using hm)
 simp only[Nat.pow_zero,Nat.mul_one,Nat.zero_add] at h
 exact Xp_ rfl (by rw[List.drop_left];exact h)
theorem QJ_ (A x r:List UInt8):qD_ (A++ (x++r)) A.length 0 (x.length:Int)=(x,A.length+x.length,0):=by
 unfold qD_
 rw[if_neg (by simp),if_neg (by omega),if_neg (by simp only[List.length_append];omega),List.drop_left,Int.toNat_natCast,List.take_left]
theorem agM_ (A t r:List UInt8) (most:Int) (hn:t.length≤1099511627775) (hm: (t.length:Int)≤most):zI_ (A++ (xi_ t++r)) A.length 0 most=(t,A.length+ (xi_ t).length,0):=by
 have h1:=kI_ A (t++r) t.length most hn hm
 have h2:=QJ_ (A++qP_ t.length) t r
 unfold zI_ xi_
 rw[jl_ (by omega)]
 rw[List.append_assoc,h1]
 simp only
 rw[List.append_assoc,List.length_append] at h2
 rw[h2]
 simp only[ne_eq,not_true_eq_false, ↓reduceIte,List.length_append,Nat.add_assoc]
theorem amF_ (A r:List UInt8) (i:IdL):idR (A++ (i.l++r)) A.length 0=(i.l,A.length+32,0):=by
 have h:=QJ_ A i.l r
 have hi:=i.h
 rw[hi] at h
 unfold idR
 rw[show(32:Int)=((32:Nat):Int) from rfl,h]
 simp only[hi, ↓reduceIte]
theorem aoe_ (i:IdL):vc_ i.l=i:=by unfold vc_;rw[dif_pos i.h]
def aqP_ (l:List EntL):Prop:= ∀x,x∈l→0≤x.kind∧x.kind≤2∧x.name.length≤32
end Go.Proofs
end
section
open Go Go.Proofs Go.Sx Go.StP
namespace Go.Proofs
set_option maxRecDepth 10000
set_option maxHeartbeats 400000
set_option linter.unusedSimpArgs false
theorem adk_ (s:List UInt8) (c:UInt8) (w:World): (callFunc 228 #[vs s,v8 c]).run Tryz.prog w= .ok (.value (vi (Lib.indexByte s c))) w:=by
 rw[run_callFunc_extern Tryz.func228 (by kernel_rfl) (by kernel_rfl) (by kernel_rfl) (e:=Extern.BytealgIndexByte.indexByte) (by kernel_rfl)]
 have h:=Lib.run_indexByteString (P:=Tryz.prog) ⟨s.toArray⟩ (c.toNat:Int) w
 have e: ((c.toNat:Int)).toNat.toUInt8=c:=by simp
 rw[e] at h
 show((Extern.BytealgIndexByte.indexByte #[.string ⟨s.toArray⟩, .int .u8 (c.toNat:Int)]).run Tryz.prog w).andThen _=_
 rw[h];rfl
theorem Vi_ (s:List UInt8) (c:UInt8) (w:World):Rets Tryz.prog 207 #[vs s,v8 c] w (fun v D=>v=vi (Lib.indexByte s c)∧D= []):=by
 refine Rets.enterV Tryz.func207 rfl (rs:= [.tmp 4]) Tryz.results207 Tryz.ntmps207 ?_
 refine kf ?_
 first|with_reducible refine ks [] @Nat.add_zero ?_|refine kp @Nat.add_zero ?_
 refine Ow.callExt rfl rfl (fun w=>adk_ s c w) ?_
 refine ko @Nat.add_zero ?_
 first|with_reducible refine ks [] @Nat.add_zero ?_|refine kp @Nat.add_zero ?_
 refine⟨_,(ke @Nat.add_zero),trivial, ?_⟩
 rfl
def idxT (s:List UInt8):List UInt8→Int
 | []=>0
 |c::_=>Lib.indexByte s c
theorem Kv_ (s x:List UInt8) (w:World) (hx:x.length≤1) (hs:2≤s.length) (_hsl:s.length<1099511627776):Rets Tryz.prog 178 #[vs s,vs x] w (fun v D=>v=vi (idxT s x)∧D= []):=by
 refine Rets.enterV Tryz.func178 rfl (rs:= [.tmp 4]) Tryz.results178 Tryz.ntmps178 ?_
 refine kf ?_
 match x,hx with
 | [],_=>
  have d1: (((([]:List UInt8).length:Nat):Int)==0)=true:=rfl
  first|with_reducible refine ks [] @d1 ?_|refine kp @d1 ?_
  refine⟨_,(ke @Nat.add_zero),trivial, ?_⟩
  rfl
 | [c],_=>
  have d1: ((([c]:List UInt8).length:Int)==0)=false:=rfl
  have d2: ([c]==s)=false:=beq_eq_false_iff_ne.2 fun e=>by rw[←e] at hs;simp at hs
  have d3: ((([c]:List UInt8).length:Int)==1)=true:=rfl
  have i0: ([c]:List UInt8).getD 0 0=c:=rfl
  first|with_reducible refine ks [] (And.intro @d1 (And.intro @d2 (And.intro @d3 (@i0)))) ?_|refine kp (And.intro @d1 (And.intro @d2 (And.intro @d3 (@i0)))) ?_
  refine Ow.callFV rfl Tryz.call207 (fun w' hw'=>Vi_ s c w') ?_
  refine ko @Nat.add_zero ?_
  first|with_reducible refine ks [] @Nat.add_zero ?_|refine kp @Nat.add_zero ?_
  refine⟨_,(ke @Nat.add_zero),trivial, ?_⟩
  rfl
theorem agZ_ (s x:List UInt8) (w:World) (hx:x.length≤1) (hs:2≤s.length) (hsl:s.length<1099511627776):Rets Tryz.prog 155 #[vs s,vs x] w (fun v D=>v=vi (idxT s x)∧D= []):=by
 refine Rets.enterV Tryz.func155 rfl (rs:= [.tmp 4]) Tryz.results155 Tryz.ntmps155 ?_
 refine kf ?_
 first|with_reducible refine ks [] @Nat.add_zero ?_|refine kp @Nat.add_zero ?_
 refine Ow.callFV rfl Tryz.call178 (fun w' hw'=>Kv_ s x w' hx hs hsl) ?_
 refine ko @Nat.add_zero ?_
 first|with_reducible refine ks [] @Nat.add_zero ?_|refine kp @Nat.add_zero ?_
 refine⟨_,(ke @Nat.add_zero),trivial, ?_⟩
 rfl
abbrev letL:List UInt8:= [32,98,116,99]
def frR (s:List UInt8):List UInt8×Nat×Int:=qD_ s 0 0 1
def frT (s:List UInt8):List UInt8×Nat×Int:=zI_ s (frR s).2.1 (frR s).2.2 4096
def frK (s:List UInt8):Int:=idxT letL (frR s).1
def Jt_ (s:List UInt8):Bool:=jq_ s (frT s).2.1 (frT s).2.2==0&&vR_ (frK s) (frT s).1
theorem anQ_ (s:List UInt8): (frR s).1.length≤1:=by
 unfold frR qD_
 rw[if_neg (by simp),if_neg (by decide)]
 split
 ·simp
 ·simp only[List.length_take,Int.toNat_one];omega
def anw_ (s:List UInt8) (v:Value):Prop:=v= .tuple #[obV (if Jt_ s then frK s else 0) (if Jt_ s then(frT s).1 else []),vi (if Jt_ s then 0 else 2)]
set_option linter.defProp false
def xP_:=And.intro (And.intro (And.intro (@ja_) (@qs_)) (And.intro (@qt_) (@qB_))) (And.intro (And.intro (@Sx.tup2_0) (@Sx.tup2_1)) (And.intro (@zi_) (@zh_)))
theorem agx_ (s:List UInt8) (w:World) (hs:s.length<100000):Rets Tryz.prog 123 #[vs s] w (fun v D=>anw_ s v∧D= []):=by
 refine Rets.enterV Tryz.func123 rfl (rs:= [.cell 2 43, .tmp 3]) Tryz.results123 Tryz.ntmps123 ?_
 refine kf ?_
 first|with_reducible refine ks [] @xP_ ?_|refine kp @xP_ ?_
 refine Ow.alloc rfl rfl zrOb fun b2 hb2 hw2=> ?_
 simp only[zc_,List.nil_append,List.cons_append]
 refine ko @xP_ ?_
 refine Ow.callF rfl rfl Tryz.call71 (S:=fun B v D=> ∃b',B≤b'∧v=vp b' 0∧D= [(b', .cells #[vs s,vi 0,vi 0] 212 (0,0))]) (fun w' hw'=>wL_ s w') ?_
 rintro B v D hab hB ⟨bw,hbw,rfl,rfl⟩
 obtain⟨h2B,-⟩:=hab
 refine⟨_,Mrg.fresh (by intro q hq;simp only[keys,List.map_cons,List.map_nil,List.mem_singleton] at hq;omega), ?_⟩
 simp only[List.cons_append,List.nil_append]
 refine Ow.permL (M:= [(bw, .cells #[vs s,vi 0,vi 0] 212 (0,0)),(b2,Obj.cells #[vi 0,vs []] 43 (0,0))]) (by classical exact List.perm_iff_count.2 fun a=>by simp only[List.count_append,List.count_cons,List.count_nil]<;>omega) ?_
 have hne:bw≠b2:=by omega
 refine ko @xP_ ?_
 first|with_reducible refine ks [] @xP_ ?_|refine kp @xP_ ?_
 refine Ow.callM rfl rfl Tryz.call94 (by simp[keys]) (fun w' hw'=>wB_ bw s 0 0 1 w' (Nat.zero_le _) (by omega) (hw'.has _ _ List.mem_cons_self)) ?_
 have r1:=kG_ (s:=s) (a:=0) (e:=0) (n:=1) (Nat.zero_le _)
 have r2:=anQ_ s
 have hT:frT s=zI_ s (frR s).2.1 (frR s).2.2 4096:=rfl
 have hK:frK s=idxT letL (frR s).1:=rfl
 have hO:Jt_ s=(jq_ s (frT s).2.1 (frT s).2.2==0&&vR_ (frK s) (frT s).1):=rfl
 unfold anw_
 rw[show qD_ s 0 0 1=frR s from rfl] at r1 ⊢
 generalize frR s=p at*
 obtain⟨x,a1,e1⟩:=p
 simp only at r1 r2 hT hK ⊢
 refine kn ?_
 refine ko @xP_ ?_
 refine Ow.callFV rfl Tryz.call155 (fun w' hw'=>agZ_ letL x w' r2 (by decide) (by decide)) ?_
 rw[←hK]
 refine ko @xP_ ?_
 refine Ow.callM rfl rfl Tryz.call96 (by simp[keys]) (fun w' hw'=>w3_ bw s a1 e1 4096 w' r1.2 (by omega) (hw'.has _ _ List.mem_cons_self)) ?_
 rw[←hT]
 generalize frT s=q at*
 obtain⟨tt,a2,e2⟩:=q
 simp only at hO ⊢
 refine kn ?_
 refine ko @xP_ ?_
 refine Ow.build (obV (frK s) tt) rfl (aiW_ _ tt) ?_
 refine ko @xP_ ?_
 refine Ow.alloc rfl rfl zrOb fun b5 hb5 hw5=> ?_
 simp only[zc_,List.nil_append,List.cons_append]
 have h5w:bw<b5:=zf_ hb5 (by simp[keys])
 have h52:b2<b5:=zf_ hb5 (by simp[keys])
 refine ko @xP_ ?_
 refine Ow.callFV rfl Tryz.call74 (fun w' hw'=>ki_ bw s a2 e2 w' (hw'.has _ _ List.mem_cons_self)) ?_
 by_cases he:jq_ s a2 e2=0
 ·have d1: (jq_ s a2 e2 !=0)=false:=by simp[he]
  have d1': (jq_ s a2 e2==0)=true:=by simp[he]
  rw[d1',Bool.true_and] at hO
  refine ko (And.intro @xP_ @d1) ?_
  refine Ow.callFV rfl Tryz.call156 (fun w' hw'=>Xt_ (frK s) tt w') ?_
  rw[hO]
  cases hr:vR_ (frK s) tt
  ·refine ko @xP_ ?_
   refine Ow.build (obV 0 []) rfl ky_ ?_
   refine ko @xP_ ?_
   first|with_reducible refine ks [] @xP_ ?_|refine kp @xP_ ?_
   refine⟨_,(ke @xP_),⟨by omega,hw2,hw5,trivial⟩, ?_⟩
   rfl
  ·refine ko @xP_ ?_
   first|with_reducible refine ks [] @xP_ ?_|refine kp @xP_ ?_
   refine⟨_,(ke @xP_),⟨by omega,hw2,hw5,trivial⟩, ?_⟩
   rfl
 ·have d1: (jq_ s a2 e2 !=0)=true:=by simpa using he
  have d1': (jq_ s a2 e2==0)=false:=by simpa using he
  rw[d1',Bool.false_and] at hO
  rw[hO]
  refine ko (And.intro @xP_ @d1) ?_
  refine Ow.build (obV 0 []) rfl ky_ ?_
  refine ko @xP_ ?_
  first|with_reducible refine ks [] @xP_ ?_|refine kp @xP_ ?_
  refine⟨_,(ke @xP_),⟨by omega,hw2,hw5,trivial⟩, ?_⟩
  rfl
end Go.Proofs
end
section
open Go Go.Proofs Go.Sx Go.StP
namespace Go.Proofs
set_option maxRecDepth 10000
set_option maxHeartbeats 400000
set_option linter.unusedSimpArgs false
def fkC (c:UInt8):Int:=if c=98 then 1 else if c=116 then 2 else if c=99 then 3 else 0
def lfT (r:List UInt8):List UInt8×Nat×Int:=zI_ r 0 0 4096
def lfK (s:List UInt8):Int:=match s with| []=>0|c::_=>fkC c
def lfOk (s:List UInt8):Bool:=lfK s !=0&&jq_ (s.drop 1) (lfT (s.drop 1)).2.1 (lfT (s.drop 1)).2.2==0&&Jr_ (lfK s) (lfT (s.drop 1)).1
def anE_ (s:List UInt8) (v:Value):Prop:=v= .tuple #[obV (if lfOk s then lfK s else 0) (if lfOk s then(lfT (s.drop 1)).1 else []), .bool (lfOk s)]
theorem aiN_ (k k':Int) (t:List UInt8) (a:Bool) (E:TypeId):zl_ (some (a,1)) (some (.cells #[vi k',vs t] E (0,0))) 0 (vi k)=some (.cells #[vi k,vs t] E (0,0)):=(rfl)
theorem aiP_ (k:Int) (t t':List UInt8) (a:Bool) (E:TypeId):zl_ (some (a,1)) (some (.cells #[vi k,vs t'] E (0,0))) 1 (vs t)=some (.cells #[vi k,vs t] E (0,0)):=(rfl)
set_option linter.defProp false
def qA_:=And.intro (And.intro (And.intro (@ja_) (@qs_)) (And.intro (@qt_) (And.intro (@qB_) (@aiN_)))) (And.intro (And.intro (@aiP_) (@Sx.tup2_0)) (And.intro (@Sx.tup2_1) (And.intro (@zi_) (@zh_))))
theorem agH_ (s:List UInt8) (w:World) (hs:s.length<100000):Rets Tryz.prog 66 #[vs s] w (fun v D=>anE_ s v∧D= []):=by
 refine Rets.enterV Tryz.func66 rfl (rs:= [.cell 2 43, .tmp 3]) Tryz.results66 Tryz.ntmps66 ?_
 refine kf ?_
 first|with_reducible refine ks [1000004] @qA_ ?_|refine kp @qA_ ?_
 refine Ow.alloc rfl rfl zrOb fun b2 hb2 hw2=> ?_
 simp only[zc_,List.nil_append,List.cons_append]
 refine ko @qA_ ?_
 by_cases hl:s.length=0
 ·obtain rfl:s= []:=List.eq_nil_of_length_eq_zero hl
  have d1: (((([]:List UInt8).length:Nat):Int)==0)=true:=rfl
  first|with_reducible refine ks [] (And.intro @qA_ @d1) ?_|refine kp (And.intro @qA_ @d1) ?_
  refine Ow.build (obV 0 []) rfl ky_ ?_
  refine ko @qA_ ?_
  first|with_reducible refine ks [] @qA_ ?_|refine kp @qA_ ?_
  refine⟨_,(ke @qA_),⟨hw2,trivial⟩, ?_⟩
  rfl
 ·have d1: ((s.length:Int)==0)=false:=beq_eq_false_iff_ne.2 (by omega)
  obtain⟨c,r,rfl⟩: ∃c r,s=c::r:=by cases s with|nil=>exact absurd rfl hl|cons c r=>exact⟨c,r,rfl⟩
  have hd1: (c::r).drop 1=r:=rfl
  have g0: (c::r).getD 0 0=c:=rfl
  have hlen: (c::r).length=r.length+1:=rfl
  have hrl:r.length<100000:=by omega
  first|with_reducible refine ks [] (And.intro @qA_ @d1) ?_|refine kp (And.intro @qA_ @d1) ?_
  refine Ow.build (obV 0 []) rfl ky_ ?_
  refine ko @qA_ ?_
  refine Ow.alloc rfl rfl zrOb fun b4 hb4 hw4=> ?_
  simp only[zc_,List.nil_append,List.cons_append]
  have h24:b2<b4:=zf_ hb4 (by simp[keys])
  have ht:=xl_ (s:=r) (a:=0) (e:=0) (most:=4096) (Nat.zero_le _)
  have hLT:lfT r=zI_ r 0 0 4096:=rfl
  have hO:lfOk (c::r)=(fkC c !=0&&jq_ r (lfT r).2.1 (lfT r).2.2==0&&Jr_ (fkC c) (lfT r).1):=rfl
  have hK:lfK (c::r)=fkC c:=rfl
  unfold anE_
  rw[hK,hd1]
  have htx: (zI_ r 0 0 4096).1.length≤r.length:=Qb_ _ _ _ _
  have hf0:fkC c=0∨fkC c=1∨fkC c=2∨fkC c=3:=by
   unfold fkC;split<;>(try split)<;>(try split)<;>simp
  refine ko @qA_ ?_
  first|with_reducible refine ks [1000004] (And.intro @qA_ @g0) ?_|refine kp (And.intro @qA_ @g0) ?_
  refine Cw.cut (G:=Int) 40 (fun g=> [(0,vs (c::r)),(2,vp b2 0),(3, .bool false),(4,vp b4 0)]) (fun g=> [(b2,Obj.cells #[vi 0,vs []] 43 (0,0)),(b4,Obj.cells #[vi g,vs []] 43 (0,0))]) (fun g=>g=fkC c∧g≠0) ?_ ?_
  ·by_cases c1:c=98
   ·subst c1
    first|with_reducible refine ks [] (And.intro @qA_ @g0) ?_|refine kp (And.intro @qA_ @g0) ?_
    exact CutM.mk 1 ⟨rfl,by decide⟩ rfl rfl
   ·have e1: (c==98)=false:=by simpa using c1
    by_cases c2:c=116
    ·subst c2
     first|with_reducible refine ks [] (And.intro @qA_ (And.intro @e1 (@g0))) ?_|refine kp (And.intro @qA_ (And.intro @e1 (@g0))) ?_
     exact CutM.mk 2 ⟨rfl,by decide⟩ rfl rfl
    ·have e2: (c==116)=false:=by simpa using c2
     by_cases c3:c=99
     ·subst c3
      first|with_reducible refine ks [] (And.intro @qA_ (And.intro @e1 (And.intro @e2 (@g0)))) ?_|refine kp (And.intro @qA_ (And.intro @e1 (And.intro @e2 (@g0)))) ?_
      exact CutM.mk 3 ⟨rfl,by decide⟩ rfl rfl
     ·have e3: (c==99)=false:=by simpa using c3
      have hk:fkC c=0:=by unfold fkC;rw[if_neg c1,if_neg c2,if_neg c3]
      rw[hk] at hO ⊢
      rw[hO]
      first|with_reducible refine ks [] (And.intro @qA_ (And.intro @e1 (And.intro @e2 (And.intro @e3 (@g0))))) ?_|refine kp (And.intro @qA_ (And.intro @e1 (And.intro @e2 (And.intro @e3 (@g0))))) ?_
      refine Ow.build (obV 0 []) rfl ky_ ?_
      refine ko @qA_ ?_
      first|with_reducible refine ks [] @qA_ ?_|refine kp @qA_ ?_
      refine⟨_,(ke @qA_),⟨hw2,hw4,trivial⟩, ?_⟩
      rfl
  ·intro g j hg
   simp only[aaT_,aaJ_,pin,qY_,qX_,Nat.reduceAdd]
   obtain⟨rfl,hk0⟩:=hg
   have d0: (fkC c !=0)=true:=by simpa using hk0
   rw[d0,Bool.true_and] at hO
   generalize fkC c=k at hO ⊢
   first|with_reducible refine ks [] (And.intro @qA_ @hd1) ?_|refine kp (And.intro @qA_ @hd1) ?_
   refine Ow.build (.agg #[vs r,vi 0,vi 0]) rfl (akf_ r) ?_
   refine ko @qA_ ?_
   refine Ow.box rfl rfl fun br hbr hwr=> ?_
   have h2r:b2<br:=zf_ hbr (by simp[keys])
   have h4r:b4<br:=zf_ hbr (by simp[keys])
   simp only[z8_,z3_,z4_,zc_,List.nil_append,List.cons_append]
   refine ko @qA_ ?_
   refine Ow.callM rfl rfl Tryz.call99 (by simp[keys]) (fun w' hw'=>kQ_ br r 0 0 4096 w' (Nat.zero_le _) (by omega) (hw'.has _ _ (by simp))) ?_
   rw[←hLT] at ht htx ⊢
   generalize lfT r=q at*
   obtain⟨tt,a2,e2⟩:=q
   simp only at hO ht htx ⊢
   refine kn ?_
   refine ko @qA_ ?_
   refine Ow.callFV rfl Tryz.call102 (fun w' hw'=>Js_ br r a2 e2 w' (hw'.has _ _ (by simp))) ?_
   by_cases he:jq_ r a2 e2=0
   ·have d5: (jq_ r a2 e2 !=0)=false:=by simp[he]
    have d6: (jq_ r a2 e2==0)=true:=by simp[he]
    rw[d6,Bool.true_and] at hO
    rw[hO]
    refine ko (And.intro @qA_ @d5) ?_
    refine Ow.callFV rfl Tryz.call133 (fun w' hw'=>aew_ k tt w') ?_
    cases hr:Jr_ k tt
    ·refine ko @qA_ ?_
     refine Ow.build (obV 0 []) rfl ky_ ?_
     refine ko @qA_ ?_
     first|with_reducible refine ks [] @qA_ ?_|refine kp @qA_ ?_
     refine⟨_,(ke @qA_),⟨hw2,hw4,hwr,trivial⟩, ?_⟩
     rfl
    ·refine ko @qA_ ?_
     first|with_reducible refine ks [] @qA_ ?_|refine kp @qA_ ?_
     refine⟨_,(ke @qA_),⟨hw2,hw4,hwr,trivial⟩, ?_⟩
     rfl
   ·have d5: (jq_ r a2 e2 !=0)=true:=by simpa using he
    have d6: (jq_ r a2 e2==0)=false:=by simpa using he
    rw[d6,Bool.false_and] at hO
    rw[hO]
    refine ko (And.intro @qA_ @d5) ?_
    refine Ow.build (obV 0 []) rfl ky_ ?_
    refine ko @qA_ ?_
    first|with_reducible refine ks [] @qA_ ?_|refine kp @qA_ ?_
    refine⟨_,(ke @qA_),⟨hw2,hw4,hwr,trivial⟩, ?_⟩
    rfl
end Go.Proofs
end
namespace Go.Flo
open Go Ieee
abbrev F (n:Int):Nat:=FloatKind.f64.nearest n
def dat (n:Int):Datum:= .number (decide (n<0)) (n.natAbs*2^ (52 - n.natAbs.log2)) ((n.natAbs.log2:Int) - 52)
theorem anx_ {a:Nat} (h:a<8192):a.log2<13∨a=0:=by
 by_cases h0:a=0
 ·exact .inr h0
 ·exact .inl ((Nat.log2_lt h0).2 h)
theorem dec0:FloatKind.f64.decode (F 0)= .number false 0 (-1074):=by kernel_rfl
theorem amm_ (neg:Bool) (n:Nat):Toward.even.cut neg n 0=n:=by
 simp[Toward.cut,Nat.mod_one]
theorem dec {n:Int} (h0:n≠0) (h:n.natAbs<8192):FloatKind.f64.decode (F n)=dat n:=by
 have ha:n.natAbs≠0:=by omega
 generalize hm:n.natAbs=a at*
 have hl:a.log2<13:=(Nat.log2_lt ha).2 h
 have hlo:2^a.log2≤a:=Nat.log2_self_le ha
 have hhi:a<2^ (a.log2+1):=Nat.lt_log2_self
 generalize hk:a.log2=k at*
 have hp:2^ (52 - k)*2^k=2^52:=by rw[←Nat.pow_add];congr 1;omega
 have hp1:2^ (k+1)=2*2^k:=by rw[Nat.pow_succ];omega
 have e1:2^52≤a*2^ (52 - k):=by
  rw[←hp,Nat.mul_comm];exact Nat.mul_le_mul_right _ hlo
 have e2:a*2^ (52 - k)<2*2^52:=by
  have h1:=Nat.mul_lt_mul_of_pos_right hhi (show 0<2^ (52 - k) from Nat.pow_pos (by omega))
  rw[hp1,Nat.mul_assoc,Nat.mul_comm (2^k),hp] at h1
  exact h1
 have hw:F n=Ieee.double.word (decide (n<0)) ((k+1022)*2^52+a*2^ (52 - k)):=by
  show Ieee.double.nearest (decide (n<0)) n.natAbs 0=_
  rw[hm]
  unfold Format.nearest
  rw[if_neg ha,hk]
  have hlast:max ((0:Int)+ (k:Int) - (Ieee.double.fractionBits:Int)) Ieee.double.leastPlace=(k:Int) - 52:=by
   have e3:Ieee.double.leastPlace= -1074:=by decide
   have e4: (Ieee.double.fractionBits:Int)=52:=rfl
   rw[e3,e4];omega
  rw[hlast]
  have e5: ((k:Int) - 52 - 0).toNat=0:=by omega
  have e6: ((0:Int) - ((k:Int) - 52)).toNat=52 - k:=by omega
  simp only[e5,e6,amm_,Nat.shiftLeft_eq]
  have e7: ((k:Int) - 52 - Ieee.double.leastPlace).toNat=k+1022:=by
   have e3:Ieee.double.leastPlace= -1074:=by decide
   rw[e3];omega
  have e8:Ieee.double.binade=2^52:=rfl
  have e9:Ieee.double.infRung=2047*2^52:=rfl
  rw[e7,e8,e9,Nat.min_eq_left (by omega)]
 show Ieee.double.read (F n)=_
 rw[hw]
 generalize hX:a*2^ (52 - k)=X at*
 have e8:Ieee.double.binade=2^52:=rfl
 have e9:Ieee.double.infRung=2047*2^52:=rfl
 have e10:Ieee.double.signWeight=2^63:=rfl
 have e3:Ieee.double.leastPlace= -1074:=by decide
 have hneg: (Ieee.double.word (decide (n<0)) ((k+1022)*2^52+X) / 2^63%2==1)=decide (n<0)∧Ieee.double.word (decide (n<0)) ((k+1022)*2^52+X)%2^63=(k+1022)*2^52+X:=by
  unfold Format.word
  rw[e10]
  by_cases hn:n<0
  ·rw[decide_eq_true hn,if_pos rfl]
   refine⟨?_,by omega⟩
   rw[beq_iff_eq];omega
  ·rw[decide_eq_false hn,if_neg (by simp)]
   refine⟨?_,by omega⟩
   rw[beq_eq_false_iff_ne];omega
 unfold Format.read
 simp only[e10,hneg.1,hneg.2,e8,e9,e3]
 rw[if_neg (by omega),if_pos (by omega)]
 unfold dat
 rw[hm,hk,hX]
 congr 1
 ·omega
 ·omega
theorem sgn (n:Int) (u:Nat):signed (decide (n<0)) (n.natAbs*2^u) 0=n*2^u:=by
 unfold signed
 rw[Nat.shiftLeft_eq,Nat.pow_zero,Nat.mul_one]
 by_cases h:n<0
 ·rw[decide_eq_true h,if_pos rfl]
  rw[Int.natCast_mul,←Int.neg_mul]
  congr 1
  ·omega
 ·rw[decide_eq_false h,if_neg (by simp),Int.natCast_mul]
  congr 1
  omega
def plc (n:Int):Int:=if n=0 then -1074 else(n.natAbs.log2:Int) - 52
def mag (n:Int):Nat:=if n=0 then 0 else n.natAbs*2^ (52 - n.natAbs.log2)
theorem decA {n:Int} (h:n.natAbs<8192):FloatKind.f64.decode (F n)= .number (decide (n<0)) (mag n) (plc n):=by
 by_cases h0:n=0
 ·subst h0;rw[dec0];rfl
 ·rw[dec h0 h];unfold dat mag plc;rw[if_neg h0,if_neg h0]
theorem sgnU {n base:Int} (h:n.natAbs<8192) (hb:base≤plc n):signed (decide (n<0)) (mag n) (plc n - base).toNat=n*2^ (-base).toNat:=by
 by_cases h0:n=0
 ·subst h0;simp[signed,mag]
 ·have hl:n.natAbs.log2<13:=by rcases anx_ h with h1|h1;exact h1;omega
  have hu:52 - n.natAbs.log2+ (plc n - base).toNat=(-base).toNat:=by
   unfold plc at hb ⊢
   rw[if_neg h0] at hb ⊢
   omega
  have e:signed (decide (n<0)) (mag n) (plc n - base).toNat=signed (decide (n<0)) (n.natAbs*2^ (-base).toNat) 0:=by
   unfold signed mag
   rw[if_neg h0,←hu,Nat.pow_add]
   simp only[Nat.shiftLeft_eq,Nat.pow_zero,Nat.mul_one,Nat.mul_assoc]
  rw[e,sgn]
theorem an9_ {a b k:Int} (hk:0<k):compare (a*k) (b*k)=compare a b:=by
 simp only[compare,compareOfLessAndEq]
 have h1:a*k<b*k↔a<b:=Int.mul_lt_mul_right hk
 have h2:a*k=b*k↔a=b:=Int.mul_eq_mul_right_iff (by omega)
 simp only[h1,h2]
theorem ord {a b:Int} (ha:a.natAbs<8192) (hb:b.natAbs<8192):FloatKind.f64.format.order (F a) (F b)=some (compare a b):=by
 have h1:FloatKind.f64.format.read (F a)=_:=decA ha
 have h2:FloatKind.f64.format.read (F b)=_:=decA hb
 unfold Format.order
 rw[h1,h2]
 unfold Datum.order
 simp only
 have p1:min (plc a) (plc b)≤plc a:=Int.min_le_left ..
 have p2:min (plc a) (plc b)≤plc b:=Int.min_le_right ..
 rw[sgnU ha p1,sgnU hb p2,an9_]
 exact Int.pow_pos (by omega)
theorem intF {a:Int} (h:a.natAbs<8192): (FloatKind.f64.decode (F a)).toInt .zero=some a:=by
 rw[decA h]
 by_cases h0:a=0
 ·subst h0;rfl
 ·have hl:a.natAbs.log2<13:=by rcases anx_ h with h1|h1;exact h1;omega
  unfold Datum.toInt Datum.integral
  simp only
  have hp:plc a=(a.natAbs.log2:Int) - 52:=by unfold plc;rw[if_neg h0]
  have hm:mag a=a.natAbs*2^ (52 - a.natAbs.log2):=by unfold mag;rw[if_neg h0]
  rw[hp,hm]
  have e1: ((a.natAbs.log2:Int) - 52).toNat=0:=by omega
  have e2: (-((a.natAbs.log2:Int) - 52)).toNat=52 - a.natAbs.log2:=by omega
  rw[e1,e2,Nat.shiftLeft_zero]
  have hlog: (a.natAbs*2^ (52 - a.natAbs.log2)).log2+2≥52 - a.natAbs.log2:=by
   have:2^ (52 - a.natAbs.log2)≤a.natAbs*2^ (52 - a.natAbs.log2):=Nat.le_mul_of_pos_left _ (by omega)
   have h3:=(Nat.le_log2 (n:=a.natAbs*2^ (52 - a.natAbs.log2)) (k:=52 - a.natAbs.log2) (by have:=Nat.pow_pos (a:=2) (n:=52 - a.natAbs.log2) (by omega);omega)).2 this
   omega
  unfold Toward.cut
  simp only
  rw[Nat.min_eq_left hlog,Nat.shiftLeft_eq,Nat.one_mul,Nat.mul_div_cancel _ (Nat.pow_pos (by omega))]
  have:=sgn a 0
  rw[Nat.pow_zero,Nat.mul_one] at this
  simp only[Bool.toNat_false,Nat.add_zero]
  rw[this];simp
end Go.Flo
namespace Go.Sx
open Go Go.Flo
def fl (n:Int):Value:= .float .f64 (F n)
def cx (a b:Int):Value:= .complex .f64 (F a) (F b)
section
variable {P:Program} {w0:World} {f:Fr} {L:ze_} {N:Fr→ze_→Prop} {ops:Array Oper} {rest:List Oper} {md:Md}
 {d:Option Tmp} {ty:TypeId} {ps:String} {af:Array Edge} {g:Option (Nat×Bool)}
theorem Ow.convIF {s dt:TypeId} {x:Operand} {n:Int} {md':Md} (he:md.turn=some md') (hsk:zn_ ops f ⟨d, .convert s dt x,ty,ps,af,g⟩=false)
  (hcv:cvT P s dt= .no) (hs:P.underlying s=some (.int .i64)) (hd:P.underlying dt=some (.float .f64)) (hx:ev f x=vi n)
  (hn:Ow P w0 ops md' rest (qC_ f d (fl n)) L N):Ow P w0 ops md (⟨d, .convert s dt x,ty,ps,af,g⟩::rest) f L N:=by
 refine Ow.step he (by simp[xC_,hcv]) hsk fun w hw=> .inl ⟨fl n,w,L, ?_,hw,hn⟩
 have hc: (convert s dt (vi n)).run P w= .ok (fl n) w:=by
  unfold convert
  simp only[vi,Sem.run_bind,run_underlying hs w,run_underlying hd w,Result.andThen_ok]
  rfl
 simp only[execOp,Sem.run_bind,hx,hc]
 rfl
theorem Ow.convFI {s dt:TypeId} {x:Operand} {n:Int} {md':Md} (he:md.turn=some md') (hsk:zn_ ops f ⟨d, .convert s dt x,ty,ps,af,g⟩=false)
  (hcv:cvT P s dt= .no) (hs:P.underlying s=some (.float .f64)) (hd:P.underlying dt=some (.int .i64)) (hx:ev f x=fl n) (hn8:n.natAbs<8192)
  (hn:Ow P w0 ops md' rest (qC_ f d (vi n)) L N):Ow P w0 ops md (⟨d, .convert s dt x,ty,ps,af,g⟩::rest) f L N:=by
 refine Ow.step he (by simp[xC_,hcv]) hsk fun w hw=> .inl ⟨vi n,w,L, ?_,hw,hn⟩
 have hc: (convert s dt (fl n)).run P w= .ok (vi n) w:=by
  unfold convert
  simp only[fl,Sem.run_bind,run_underlying hs w,run_underlying hd w,Result.andThen_ok]
  show(Conv.floatToInt .f64 (F n) .i64).run P w=_
  unfold Conv.floatToInt
  simp only[intF hn8]
  have e1:IntKind.i64.min= -9223372036854775808:=rfl
  have e2:IntKind.i64.max=9223372036854775807:=rfl
  rw[if_pos (by rw[e1,e2];omega)]
  rfl
 simp only[execOp,Sem.run_bind,hx,hc]
 rfl
theorem ao4_ (a b:Int): (some (compare a b)==some Ordering.lt||some (compare a b)==some Ordering.eq)=decide (a≤b):=by
 simp only[compare,compareOfLessAndEq]
 by_cases h1:a<b
 ·rw[if_pos h1,decide_eq_true (by omega)];rfl
 ·by_cases h2:a=b
  ·rw[if_neg h1,if_pos h2,decide_eq_true (by omega)];rfl
  ·rw[if_neg h1,if_neg h2,decide_eq_false (by omega)];rfl
theorem ao9_ (a b:Int): (some (compare a b)==some Ordering.gt||some (compare a b)==some Ordering.eq)=decide (b≤a):=by
 simp only[compare,compareOfLessAndEq]
 by_cases h1:a<b
 ·rw[if_pos h1,decide_eq_false (by omega)];rfl
 ·by_cases h2:a=b
  ·rw[if_neg h1,if_pos h2,decide_eq_true (by omega)];rfl
  ·rw[if_neg h1,if_neg h2,decide_eq_true (by omega)];rfl
theorem ael_ (a b:Int): (some (compare a b)==some Ordering.eq)=(a==b):=by
 simp only[compare,compareOfLessAndEq]
 by_cases h1:a<b
 ·have: (a==b)=false:=by rw[beq_eq_false_iff_ne];omega
  rw[if_pos h1,this];rfl
 ·by_cases h2:a=b
  ·rw[if_neg h1,if_pos h2,h2];simp
  ·have: (a==b)=false:=by rw[beq_eq_false_iff_ne];exact h2
   rw[if_neg h1,if_neg h2,this];rfl
theorem Ow.fleq {t t':TypeId} {x y:Operand} {a b:Int} (hs:zn_ ops f ⟨d, .binOp .leq t x y t',ty,ps,af,g⟩=false) (hx:ev f x=fl a) (hy:ev f y=fl b) (ha:a.natAbs<8192) (hb:b.natAbs<8192)
  (hn:Ow P w0 ops md.next rest (qC_ f d (.bool (decide (a≤b)))) L N):Ow P w0 ops md (⟨d, .binOp .leq t x y t',ty,ps,af,g⟩::rest) f L N:=by
 refine Ow.pureV rfl hs (fun w=> ?_) hn
 simp only[execOp,Sem.run_bind,hx,hy]
 have hg: (eqGuard .leq t x y (fl a) (fl b)).run P w= .ok () w:=rfl
 have hc: (binOp .leq t (fl a) (fl b)).run P w= .ok (.bool (decide (a≤b))) w:=by
  show Result.ok (Value.bool (FloatKind.f64.format.order (F a) (F b)==some .lt||FloatKind.f64.format.order (F a) (F b)==some .eq)) w=_
  rw[ord ha hb,ao4_]
 rw[hg,Result.andThen_ok,hc]
 rfl
theorem Ow.fgeq {t t':TypeId} {x y:Operand} {a b:Int} (hs:zn_ ops f ⟨d, .binOp .geq t x y t',ty,ps,af,g⟩=false) (hx:ev f x=fl a) (hy:ev f y=fl b) (ha:a.natAbs<8192) (hb:b.natAbs<8192)
  (hn:Ow P w0 ops md.next rest (qC_ f d (.bool (decide (b≤a)))) L N):Ow P w0 ops md (⟨d, .binOp .geq t x y t',ty,ps,af,g⟩::rest) f L N:=by
 refine Ow.pureV rfl hs (fun w=> ?_) hn
 simp only[execOp,Sem.run_bind,hx,hy]
 have hg: (eqGuard .geq t x y (fl a) (fl b)).run P w= .ok () w:=rfl
 have hc: (binOp .geq t (fl a) (fl b)).run P w= .ok (.bool (decide (b≤a))) w:=by
  show Result.ok (Value.bool (FloatKind.f64.format.order (F a) (F b)==some .gt||FloatKind.f64.format.order (F a) (F b)==some .eq)) w=_
  rw[ord ha hb,ao9_]
 rw[hg,Result.andThen_ok,hc]
 rfl
theorem Ow.feql {t t':TypeId} {x y:Operand} {a b:Int} (hs:zn_ ops f ⟨d, .binOp .eql t x y t',ty,ps,af,g⟩=false) (hx:ev f x=fl a) (hy:ev f y=fl b) (ha:a.natAbs<8192) (hb:b.natAbs<8192)
  (hn:Ow P w0 ops md.next rest (qC_ f d (.bool (a==b))) L N):Ow P w0 ops md (⟨d, .binOp .eql t x y t',ty,ps,af,g⟩::rest) f L N:=by
 refine Ow.pureV rfl hs (fun w=> ?_) hn
 simp only[execOp,Sem.run_bind,hx,hy]
 have hg: (eqGuard .eql t x y (fl a) (fl b)).run P w= .ok () w:=rfl
 have hc: (binOp .eql t (fl a) (fl b)).run P w= .ok (.bool (a==b)) w:=by
  show Result.ok (Value.bool (FloatKind.f64.format.order (F a) (F b)==some .eq)) w=_
  rw[ord ha hb,ael_]
 rw[hg,Result.andThen_ok,hc]
 rfl
theorem Ow.ceql {t t':TypeId} {x y:Operand} {a b a' b':Int} (hs:zn_ ops f ⟨d, .binOp .eql t x y t',ty,ps,af,g⟩=false) (hx:ev f x=cx a b) (hy:ev f y=cx a' b') (ha:a.natAbs<8192) (hb:b.natAbs<8192) (ha':a'.natAbs<8192) (hb':b'.natAbs<8192)
  (hn:Ow P w0 ops md.next rest (qC_ f d (.bool (a==a'&&b==b'))) L N):Ow P w0 ops md (⟨d, .binOp .eql t x y t',ty,ps,af,g⟩::rest) f L N:=by
 refine Ow.pureV rfl hs (fun w=> ?_) hn
 simp only[execOp,Sem.run_bind,hx,hy]
 have hg: (eqGuard .eql t x y (cx a b) (cx a' b')).run P w= .ok () w:=rfl
 have hc: (binOp .eql t (cx a b) (cx a' b')).run P w= .ok (.bool (a==a'&&b==b')) w:=by
  show Result.ok (Value.bool (FloatKind.f64.format.order (F a) (F a')==some .eq&&FloatKind.f64.format.order (F b) (F b')==some .eq)) w=_
  rw[ord ha ha',ord hb hb',ael_,ael_]
 rw[hg,Result.andThen_ok,hc]
 rfl
theorem Ow.real {x:Operand} {ts:Array TypeId} {a b:Int} (hs:zn_ ops f ⟨d, .call ⟨.builtin .real, #[x],ts⟩,ty,ps,af,g⟩=false) (hx:ev f x=cx a b)
  (hn:Ow P w0 ops md.next rest (qC_ f d (fl a)) L N):Ow P w0 ops md (⟨d, .call ⟨.builtin .real, #[x],ts⟩,ty,ps,af,g⟩::rest) f L N:=by
 refine Ow.calm rfl rfl hs (fun w hw=> .inl ⟨fl a,w,L, ?_,hw,rfl,rfl⟩) hn
 simp only[execOp,resolve,Sem.run_bind,Sem.run_pure,Result.andThen_ok,invoke,builtin,List.map_toArray,List.map_cons,List.map_nil,hx]
 rfl
theorem Ow.imag {x:Operand} {ts:Array TypeId} {a b:Int} (hs:zn_ ops f ⟨d, .call ⟨.builtin .imag, #[x],ts⟩,ty,ps,af,g⟩=false) (hx:ev f x=cx a b)
  (hn:Ow P w0 ops md.next rest (qC_ f d (fl b)) L N):Ow P w0 ops md (⟨d, .call ⟨.builtin .imag, #[x],ts⟩,ty,ps,af,g⟩::rest) f L N:=by
 refine Ow.calm rfl rfl hs (fun w hw=> .inl ⟨fl b,w,L, ?_,hw,rfl,rfl⟩) hn
 simp only[execOp,resolve,Sem.run_bind,Sem.run_pure,Result.andThen_ok,invoke,builtin,List.map_toArray,List.map_cons,List.map_nil,hx]
 rfl
theorem Ow.complexB {x y:Operand} {ts:Array TypeId} {a b:Int} (hs:zn_ ops f ⟨d, .call ⟨.builtin .complex, #[x,y],ts⟩,ty,ps,af,g⟩=false) (hx:ev f x=fl a) (hy:ev f y=fl b)
  (hn:Ow P w0 ops md.next rest (qC_ f d (cx a b)) L N):Ow P w0 ops md (⟨d, .call ⟨.builtin .complex, #[x,y],ts⟩,ty,ps,af,g⟩::rest) f L N:=by
 refine Ow.calm rfl rfl hs (fun w hw=> .inl ⟨cx a b,w,L, ?_,hw,rfl,rfl⟩) hn
 simp only[execOp,resolve,Sem.run_bind,Sem.run_pure,Result.andThen_ok,invoke,builtin,List.map_toArray,List.map_cons,List.map_nil,hx,hy]
 rfl
end
end Go.Sx
namespace Go.Sx
open Go Go.Flo
theorem abj_ (P:Program) (t:TypeId) (a b:Int):qO_ P .eql t (fl a) (fl b)=none:=by
 show(qI_ (P.underlying t) (fl a) (fl b)).map _=none
 unfold qI_ fl
 split<;>simp_all
theorem Ke_ (P:Program) (t:TypeId) (a b a' b':Int):qO_ P .eql t (cx a b) (cx a' b')=none:=by
 show(qI_ (P.underlying t) (cx a b) (cx a' b')).map _=none
 unfold qI_ cx
 split<;>simp_all
section
variable {P:Program} {w0:World} {st:Bool} {f:Fr} {L:ze_} {md:Md} {d:Option Tmp} {ty:TypeId} {ps:String} {af:Array Edge} {g:Option (Nat×Bool)} {go:Fr→ze_→Prop} {stop:Prop}
theorem Wj_ (a:Array Operand) (t:Array TypeId):vcB P w0 st md ⟨d, .call ⟨.builtin .real,a,t⟩,ty,ps,af,g⟩ f L go stop=stop:=(rfl)
theorem W8_ (a:Array Operand) (t:Array TypeId):vcB P w0 st md ⟨d, .call ⟨.builtin .imag,a,t⟩,ty,ps,af,g⟩ f L go stop=stop:=(rfl)
theorem kv_ (a:Array Operand) (t:Array TypeId):vcB P w0 st md ⟨d, .call ⟨.builtin .complex,a,t⟩,ty,ps,af,g⟩ f L go stop=stop:=(rfl)
end
end Go.Sx
section
open Go Go.Proofs Go.Sx Go.StP Go.Flo
namespace Go.Proofs
set_option maxRecDepth 10000
set_option maxHeartbeats 400000
set_option linter.unusedSimpArgs false
structure PcL where
 a:Nat
 n:Nat
 x:List UInt8
def pc0:PcL:=⟨0,0,[]⟩
def pcC (p:PcL):List Value:= [cx p.a p.n,vs p.x]
def PcB (p:PcL):Prop:=p.a≤4099∧p.n≤4099
theorem xb_ (p:PcL): (pcC p).length=2:=rfl
theorem WZ_ (p:PcL): (pcC p).all Value.oneCell'=true:=rfl
def cpV (p:PcL) (b:Int):Option (Nat×Nat):=if 1≤p.n∧p.n≤4099∧p.x= []∧(p.a:Int)≤b - p.n then some (p.a,p.n) else none
def jc_ (p:PcL) (b:Int):Nat:=if p.a=0∧p.n=0∧p.x.length≤4099 then p.x.length else match cpV p b with|some q=>q.2|none=>0
theorem aao_ (p:PcL) (b:Int):jc_ p b≤4099:=by
 unfold jc_
 split
 ·rename_i h;exact h.2.2
 ·unfold cpV
  split
  ·rename_i q h
   split at h
   ·rename_i hc;cases h;exact hc.2.1
   ·cases h
  ·omega
def kM_ (b:Int) (l:List PcL):Nat:=(l.map fun p=>jc_ p b).sum
theorem aiw_ (b:Int) (l:List PcL) (p:PcL):kM_ b (l++ [p])=kM_ b l+jc_ p b:=by
 unfold kM_;rw[List.map_append,List.sum_append];simp
theorem alU_ (b:Int) (l m:List PcL):kM_ b (l++m)=kM_ b l+kM_ b m:=by
 unfold kM_;rw[List.map_append,List.sum_append]
def anyZ (b:Int) (l:List PcL):Bool:=l.any fun p=>jc_ p b==0
def vH_ (b:Int) (l:List PcL):Int×Int:=if b<0∨4099<b then(0,1) else if anyZ b l=true then(0,1) else if 4099<kM_ b l then(0,19) else((kM_ b l:Nat),0)
theorem ajt_ (b:Int): ∀ (l:List PcL),anyZ b l=false→l.length≤kM_ b l
 | [],_=>Nat.zero_le _
 |p::l,h=>by
  unfold anyZ at h
  rw[List.any_cons,Bool.or_eq_false_iff] at h
  have h1:=ajt_ b l h.2
  have h2:jc_ p b≠0:=by simpa using h.1
  unfold kM_ at h1 ⊢
  rw[List.map_cons,List.sum_cons,List.length_cons]
  omega
theorem QS_ {b m:Int} {l:List PcL} (h:vH_ b l=(m,0)):0≤b∧b≤4099∧anyZ b l=false∧kM_ b l≤4099∧m=(kM_ b l:Nat)∧l.length≤4099:=by
 unfold vH_ at h
 split at h
 ·cases h
 ·rename_i hb
  split at h
  ·cases h
  ·rename_i hz
   split at h
   ·cases h
   ·rename_i hs
    have hz':anyZ b l=false:=by simpa using hz
    have:=ajt_ b l hz'
    cases h
    exact⟨by omega,by omega,hz',by omega,rfl,by omega⟩
def pcT (base:List UInt8) (p:PcL):List UInt8:=match cpV p base.length with|some q=>(base.drop q.1).take q.2++p.x|none=>p.x
def txtP (base:List UInt8) (l:List PcL):List UInt8:=(l.map (pcT base)).flatten
def pcR (d:List UInt8) (a:Nat):PcL×Nat×Int:=
 if(zr_ d a 0 8199).1%2=1 then
  (⟨(zr_ d (zr_ d a 0 8199).2.1 (zr_ d a 0 8199).2.2 4099).1.toNat,((zr_ d a 0 8199).1 / 2).toNat,[]⟩,(zr_ d (zr_ d a 0 8199).2.1 (zr_ d a 0 8199).2.2 4099).2)
 else(⟨0,0,(qD_ d (zr_ d a 0 8199).2.1 (zr_ d a 0 8199).2.2 ((zr_ d a 0 8199).1 / 2)).1⟩,(qD_ d (zr_ d a 0 8199).2.1 (zr_ d a 0 8199).2.2 ((zr_ d a 0 8199).1 / 2)).2)
theorem abh_ {d:List UInt8} {a:Nat} (ha:a≤d.length):a≤ (pcR d a).2.1∧(pcR d a).2.1≤d.length:=by
 have h1:=zO_ (s:=d) (a:=a) (e:=0) (most:=8199) ha
 unfold pcR
 split
 ·have h2:=zO_ (s:=d) (a:=(zr_ d a 0 8199).2.1) (e:=(zr_ d a 0 8199).2.2) (most:=4099) h1.2
  exact⟨Nat.le_trans h1.1 h2.1,h2.2⟩
 ·have h2:=kG_ (s:=d) (a:=(zr_ d a 0 8199).2.1) (e:=(zr_ d a 0 8199).2.2) (n:=(zr_ d a 0 8199).1 / 2) h1.2
  exact⟨Nat.le_trans h1.1 h2.1,h2.2⟩
theorem KE_ {d:List UInt8} {a:Nat} (ha:a≤d.length) (h: (pcR d a).2.2=0):a< (pcR d a).2.1:=by
 have h1:=zO_ (s:=d) (a:=a) (e:=0) (most:=8199) ha
 have hz: (zr_ d a 0 8199).2.2=0:=by
  by_cases he: (zr_ d a 0 8199).2.2=0
  ·exact he
  ·unfold pcR at h
   split at h
   ·have:=ZD_ (s:=d) (a:=(zr_ d a 0 8199).2.1) (most:=4099) he
    simp only[this] at h
    exact absurd h he
   ·have:=VY_ (s:=d) (a:=(zr_ d a 0 8199).2.1) (n:=(zr_ d a 0 8199).1 / 2) he
    simp only[this] at h
    exact absurd h he
 have hup:=ajv_ hz
 unfold pcR
 split
 ·have h2:=zO_ (s:=d) (a:=(zr_ d a 0 8199).2.1) (e:=(zr_ d a 0 8199).2.2) (most:=4099) h1.2
  exact Nat.lt_of_lt_of_le hup h2.1
 ·have h2:=kG_ (s:=d) (a:=(zr_ d a 0 8199).2.1) (e:=(zr_ d a 0 8199).2.2) (n:=(zr_ d a 0 8199).1 / 2) h1.2
  exact Nat.lt_of_lt_of_le hup h2.1
def pcsF (d:List UInt8):Nat→Nat→List PcL×Nat×Int
 |0,a=>([],a,0)
 |k+1,a=>if a<d.length then(if(pcR d a).2.2=0 then((pcR d a).1:: (pcsF d k (pcR d a).2.1).1,(pcsF d k (pcR d a).2.1).2) else([(pcR d a).1],(pcR d a).2)) else([],a,0)
theorem aca_ {d:List UInt8}: ∀ (k j a:Nat),a≤d.length→d.length - a≤k→d.length - a≤j→pcsF d k a=pcsF d j a
 |0,j,a,ha,hk,_=>by
  have: ¬a<d.length:=by omega
  cases j with
  |zero=>rfl
  |succ j=>unfold pcsF;rw[if_neg this]
 |k+1,0,a,ha,_,hj=>by
  have: ¬a<d.length:=by omega
  unfold pcsF;rw[if_neg this]
 |k+1,j+1,a,ha,hk,hj=>by
  unfold pcsF
  by_cases h:a<d.length
  ·rw[if_pos h,if_pos h]
   by_cases he: (pcR d a).2.2=0
   ·have hu:=KE_ ha he
    have hl:=abh_ ha
    rw[if_pos he,if_pos he,aca_ k j (pcR d a).2.1 hl.2 (by omega) (by omega)]
   ·rw[if_neg he,if_neg he]
  ·rw[if_neg h,if_neg h]
def pcs (d:List UInt8) (a:Nat):List PcL×Nat×Int:=pcsF d (d.length - a) a
theorem WB_ {d:List UInt8} {a:Nat} (h: ¬a<d.length):pcs d a=([],a,0):=by
 unfold pcs
 rw[show d.length - a=0 by omega];rfl
theorem abC_ {d:List UInt8} {a:Nat} (h:a<d.length) (he: (pcR d a).2.2=0):pcs d a=((pcR d a).1:: (pcs d (pcR d a).2.1).1,(pcs d (pcR d a).2.1).2):=by
 have hu:=KE_ (Nat.le_of_lt h) he
 have hl:=abh_ (Nat.le_of_lt h)
 unfold pcs
 obtain⟨k,hk⟩: ∃k,d.length - a=k+1:=⟨d.length - a - 1,by omega⟩
 rw[hk]
 conv=>lhs;unfold pcsF
 rw[if_pos h,if_pos he,aca_ k (d.length - (pcR d a).2.1) (pcR d a).2.1 hl.2 (by omega) (Nat.le_refl _)]
theorem XG_ {d:List UInt8} {a:Nat} (h:a<d.length) (he: (pcR d a).2.2≠0):pcs d a=([(pcR d a).1],(pcR d a).2):=by
 unfold pcs
 obtain⟨k,hk⟩: ∃k,d.length - a=k+1:=⟨d.length - a - 1,by omega⟩
 rw[hk]
 unfold pcsF
 rw[if_pos h,if_neg he]
theorem anO_ {d:List UInt8}: ∀ (k a:Nat),d.length - a≤k→a≤d.length→(pcs d a).2.2=0→(pcs d a).2.1=d.length
 |k,a,hk,ha,h=>by
  by_cases hlt:a<d.length
  ·by_cases he: (pcR d a).2.2=0
   ·have hu:=KE_ ha he
    have hl:=abh_ ha
    rw[abC_ hlt he] at h ⊢
    cases k with
    |zero=>omega
    |succ k=>exact anO_ k _ (by omega) hl.2 h
   ·rw[XG_ hlt he] at h
    exact absurd h he
  ·rw[WB_ hlt];show a=d.length;omega
def x5_ (d:List UInt8):Option (Nat×List PcL):=
 if(zr_ d (zr_ d 0 0 4099).2.1 (zr_ d 0 0 4099).2.2 4099).2.2≠0 then none
 else if(pcs d (zr_ d (zr_ d 0 0 4099).2.1 (zr_ d 0 0 4099).2.2 4099).2.1).2.2≠0 then none
 else if vH_ (zr_ d 0 0 4099).1 (pcs d (zr_ d (zr_ d 0 0 4099).2.1 (zr_ d 0 0 4099).2.2 4099).2.1).1=((zr_ d (zr_ d 0 0 4099).2.1 (zr_ d 0 0 4099).2.2 4099).1,0) then some ((zr_ d 0 0 4099).1.toNat,(pcs d (zr_ d (zr_ d 0 0 4099).2.1 (zr_ d 0 0 4099).2.2 4099).2.1).1)
 else none
def qN_ (base d:List UInt8):List UInt8×Int:=
 match x5_ d with
 |none=>([],2)
 |some p=>if p.1≠base.length then([],19) else(txtP base p.2,0)
end Go.Proofs
end
section
open Go Go.Proofs Go.Sx Go.StP Go.Flo
namespace Go.Proofs
set_option maxRecDepth 10000
set_option maxHeartbeats 400000
set_option linter.unusedSimpArgs false
theorem cvIF:cvT Tryz.prog 3 301= .no:=id (by kernel_rfl)
theorem cvFI:cvT Tryz.prog 301 3= .no:=id (by kernel_rfl)
set_option linter.defProp false
def wJ_:=And.intro (@zi_) (And.intro (@zh_) (@abj_))
theorem VE_ (x a b:Int) (w:World) (hx:x.natAbs<8192) (ha:a.natAbs<8192) (hb:b.natAbs<8192):
  Rets Tryz.prog 237 #[fl x,vi a,vi b] w (fun v D=>v= .bool (decide (a≤x∧x≤b))∧D= []):=by
 refine Rets.enterV Tryz.func237 rfl (rs:= [.tmp 6]) Tryz.results237 Tryz.ntmps237 ?_
 refine kf ?_
 first|with_reducible refine ks [] @wJ_ ?_|refine kp @wJ_ ?_
 refine Ow.convIF rfl rfl cvIF Tryz.underlying3 Tryz.underlying301 rfl ?_
 refine Ow.fgeq rfl rfl rfl hx ha ?_
 by_cases h1:a≤x
 ·rw[decide_eq_true h1]
  refine ko @wJ_ ?_
  refine Ow.convIF rfl rfl cvIF Tryz.underlying3 Tryz.underlying301 rfl ?_
  refine Ow.fleq rfl rfl rfl hx hb ?_
  by_cases h2:x≤b
  ·rw[decide_eq_true h2]
   refine ko @wJ_ ?_
   refine Ow.convFI rfl rfl cvFI Tryz.underlying301 Tryz.underlying3 rfl hx ?_
   refine Ow.convIF rfl rfl cvIF Tryz.underlying3 Tryz.underlying301 rfl ?_
   refine ko @wJ_ ?_
   refine Ow.feql rfl rfl rfl hx hx ?_
   rw[show(x==x)=true by simp]
   refine ko @wJ_ ?_
   first|with_reducible refine ks [] @wJ_ ?_|refine kp @wJ_ ?_
   refine⟨_,(ke @wJ_),trivial, ?_⟩
   rw[decide_eq_true ⟨h1,h2⟩];rfl
  ·rw[decide_eq_false h2]
   refine ko @wJ_ ?_
   first|with_reducible refine ks [] @wJ_ ?_|refine kp @wJ_ ?_
   refine⟨_,(ke @wJ_),trivial, ?_⟩
   rw[decide_eq_false (fun h=>h2 h.2)];rfl
 ·rw[decide_eq_false h1]
  refine ko @wJ_ ?_
  first|with_reducible refine ks [] @wJ_ ?_|refine kp @wJ_ ?_
  refine⟨_,(ke @wJ_),trivial, ?_⟩
  rw[decide_eq_false (fun h=>h1 h.1)];rfl
theorem xL_ (p:PcL) (E:TypeId) (n:Nat):zs_ (some (false,n)) (some (.cells (pcC p).toArray E (0,0))) 0=some (cx p.a p.n):=(rfl)
theorem xK_ (p:PcL) (E:TypeId) (n:Nat):zs_ (some (false,n)) (some (.cells (pcC p).toArray E (0,0))) 1=some (vs p.x):=(rfl)
theorem k8_ (p:PcL) (E:TypeId):zs_ (some (true,2)) (some (.cells (pcC p).toArray E (0,0))) 0=some (.agg (pcC p).toArray):=v5_ _ E (0,0) 2 rfl
theorem jH_ (p:PcL):Value.cells (.agg (pcC p).toArray)=(pcC p).toArray:=zc_ _
theorem zrPc:zE_ Tryz.prog 300=some (.agg (pcC pc0).toArray):=id (by kernel_rfl)
theorem Wl_ (p q:PcL) (E:TypeId):zl_ (some (true,2)) (some (.cells (pcC q).toArray E (0,0))) 0 (.agg (pcC p).toArray)=some (.cells (pcC p).toArray E (0,0)):=by
 have:=kK_ (pcC p) (n:=2) true (pcC q).toArray E rfl (WZ_ p) rfl
 exact this
def cpO (p:PcL) (b:Int):Value:=match cpV p b with
 |some q=> .tuple #[vi q.1,vi q.2, .bool true]
 |none=> .tuple #[vi 0,vi 0, .bool false]
theorem akM_ {p:PcL} {b:Int} (h: ¬ (1≤p.n∧p.n≤4099∧p.x= []∧(p.a:Int)≤b - p.n)):cpO p b= .tuple #[vi 0,vi 0, .bool false]:=by
 unfold cpO cpV;rw[if_neg h]
theorem aon_ {p:PcL} {b:Int} (h:1≤p.n∧p.n≤4099∧p.x= []∧(p.a:Int)≤b - p.n):cpO p b= .tuple #[vi p.a,vi p.n, .bool true]:=by
 unfold cpO cpV;rw[if_pos h]
theorem cxz: (Value.complex FloatKind.f64 0 0)=cx 0 0:=id (by kernel_rfl)
set_option linter.defProp false
def zB_:=And.intro (And.intro (And.intro (And.intro (@zi_) (@zh_)) (And.intro (@xL_) (@xK_))) (And.intro (And.intro (@k8_) (@jH_)) (And.intro (@Ke_) (@cxz)))) (And.intro (And.intro (And.intro (@Wj_) (@W8_)) (And.intro (@kv_) (@Sx.tup2_0))) (And.intro (And.intro (@Sx.tup2_1) (@Sx.tup3_0)) (And.intro (@Sx.tup3_1) (@Sx.tup3_2))))
theorem Z2_ (p:PcL) (b:Int) (w:World) (hp:PcB p) (h0:0≤b) (h1:b≤4099):
  Rets Tryz.prog 227 #[.agg (pcC p).toArray,vi b] w (fun v D=>v=cpO p b∧D= []):=by
 obtain⟨hpa,hpn⟩:=hp
 refine Rets.enterV Tryz.func227 rfl (rs:= [.tmp 4, .tmp 5, .tmp 6]) Tryz.results227 Tryz.ntmps227 ?_
 refine kf ?_
 first|with_reducible refine ks [] @zB_ ?_|refine kp @zB_ ?_
 refine Ow.box rfl rfl fun b2 hb2 hw2=> ?_
 simp only[z8_,z3_,z4_,zc_,List.nil_append,List.cons_append]
 refine Ow.go rfl ?_
 simp(disch:=(first|assumption|omega| (simp only[xg_,xe_,UInt64.reduceToNat];try omega))) only[↓Sx.S0,Sx.S1,Tryz.fx,zB_,Nat.reduceAdd,Nat.reducePow,Int.reducePow,Nat.reduceBEq, ↓reduceIte,UInt8.reduceToNat,UInt16.reduceToNat,UInt32.reduceToNat,UInt64.reduceToNat,Int.reduceToNat]
 first|with_reducible refine ks [] @zB_ ?_|refine kp @zB_ ?_
 refine Ow.imag rfl rfl ?_
 refine Ow.callFV rfl Tryz.call237 (fun w' hw'=>VE_ (p.n:Int) 1 4099 w' (by omega) (by omega) (by omega)) ?_
 by_cases c1:1≤p.n
 ·rw[decide_eq_true (show(1:Int)≤ (p.n:Int)∧(p.n:Int)≤4099 by omega)]
  have n1: (!true)=false:=rfl
  by_cases c2:p.x= []
  ·have d2: (p.x != [])=false:=by rw[c2];rfl
   refine ko (And.intro @zB_ (And.intro @n1 (@d2))) ?_
   first|with_reducible refine ks [] @zB_ ?_|refine kp @zB_ ?_
   refine Ow.imag rfl rfl ?_
   refine Ow.convFI rfl rfl cvFI Tryz.underlying301 Tryz.underlying3 rfl (by omega) ?_
   refine ko @zB_ ?_
   first|with_reducible refine ks [] @zB_ ?_|refine kp @zB_ ?_
   refine Ow.real rfl rfl ?_
   refine ko @zB_ ?_
   refine Ow.callFV rfl Tryz.call237 (fun w' hw'=>VE_ (p.a:Int) 0 (b - p.n) w' (by omega) (by omega) (by omega)) ?_
   by_cases c3: (p.a:Int)≤b - p.n
   ·rw[decide_eq_true (show(0:Int)≤ (p.a:Int)∧(p.a:Int)≤b - p.n by omega)]
    refine ko (And.intro @zB_ @n1) ?_
    first|with_reducible refine ks [] @zB_ ?_|refine kp @zB_ ?_
    refine Ow.real rfl rfl ?_
    refine Ow.convFI rfl rfl cvFI Tryz.underlying301 Tryz.underlying3 rfl (by omega) ?_
    refine ko @zB_ ?_
    first|with_reducible refine ks [] @zB_ ?_|refine kp @zB_ ?_
    refine⟨_,(ke @zB_),⟨hw2,trivial⟩, ?_⟩
    rw[aon_ ⟨c1,hpn,c2,c3⟩];rfl
   ·rw[decide_eq_false (show¬ ((0:Int)≤ (p.a:Int)∧(p.a:Int)≤b - p.n) by omega)]
    have n2: (!false)=true:=rfl
    refine ko (And.intro @zB_ @n2) ?_
    first|with_reducible refine ks [] @zB_ ?_|refine kp @zB_ ?_
    refine⟨_,(ke @zB_),⟨hw2,trivial⟩, ?_⟩
    rw[akM_ fun h=>c3 h.2.2.2];rfl
  ·have d2: (p.x != [])=true:=by simpa using c2
   refine ko (And.intro @zB_ (And.intro @n1 (@d2))) ?_
   first|with_reducible refine ks [] @zB_ ?_|refine kp @zB_ ?_
   refine⟨_,(ke @zB_),⟨hw2,trivial⟩, ?_⟩
   rw[akM_ fun h=>c2 h.2.2.1];rfl
 ·rw[decide_eq_false (show¬ ((1:Int)≤ (p.n:Int)∧(p.n:Int)≤4099) by omega)]
  have n2: (!false)=true:=rfl
  refine ko (And.intro @zB_ @n2) ?_
  first|with_reducible refine ks [] @zB_ ?_|refine kp @zB_ ?_
  refine⟨_,(ke @zB_),⟨hw2,trivial⟩, ?_⟩
  rw[akM_ fun h=>c1 h.1];rfl
theorem QX_ {p:PcL} {b:Int} (h: ¬ (p.a=0∧p.n=0∧p.x.length≤4099)):jc_ p b=match cpV p b with|some q=>q.2|none=>0:=by
 unfold jc_;rw[if_neg h]<;>cases cpV p b<;>rfl
theorem acU_ (p:PcL) (b:Int) (w:World) (hp:PcB p) (h0:0≤b) (h1:b≤4099) (hx:p.x.length<9223372036854775808):
  Rets Tryz.prog 236 #[.agg (pcC p).toArray,vi b] w (fun v D=>v=vi (jc_ p b:Nat)∧D= []):=by
 have hp':=hp
 obtain⟨hpa,hpn⟩:=hp'
 refine Rets.enterV Tryz.func236 rfl (rs:= [.tmp 4]) Tryz.results236 Tryz.ntmps236 ?_
 refine kf ?_
 first|with_reducible refine ks [] @zB_ ?_|refine kp @zB_ ?_
 refine Ow.box rfl rfl fun b2 hb2 hw2=> ?_
 simp only[z8_,z3_,z4_,zc_,List.nil_append,List.cons_append]
 refine Ow.go rfl ?_
 simp(disch:=(first|assumption|omega| (simp only[xg_,xe_,UInt64.reduceToNat];try omega))) only[↓Sx.S0,Sx.S1,Tryz.fx,zB_,Nat.reduceAdd,Nat.reducePow,Int.reducePow,Nat.reduceBEq, ↓reduceIte,UInt8.reduceToNat,UInt16.reduceToNat,UInt32.reduceToNat,UInt64.reduceToNat,Int.reduceToNat]
 first|with_reducible refine ks [] @zB_ ?_|refine kp @zB_ ?_
 refine Ow.ceql (a':=0) (b':=0) rfl rfl rfl (by omega) (by omega) (by omega) (by omega) ?_
 have tail: ¬ (p.a=0∧p.n=0∧p.x.length≤4099)→True:=fun _=>trivial
 by_cases hz:p.a=0∧p.n=0
 ·have e: (((p.a:Nat):Int)==0&& ((p.n:Nat):Int)==0)=true:=by rw[hz.1,hz.2];rfl
  rw[e]
  by_cases hl:p.x.length≤4099
  ·have d1:decide ((p.x.length:Int)≤4099)=true:=decide_eq_true (by omega)
   refine ko (And.intro @zB_ @d1) ?_
   first|with_reducible refine ks [] @zB_ ?_|refine kp @zB_ ?_
   refine⟨_,(ke @zB_),⟨hw2,trivial⟩, ?_⟩
   unfold jc_;rw[if_pos ⟨hz.1,hz.2,hl⟩];rfl
  ·have d1:decide ((p.x.length:Int)≤4099)=false:=decide_eq_false (by omega)
   have hc:cpV p b=none:=by unfold cpV;rw[if_neg (by omega)]
   refine ko (And.intro @zB_ @d1) ?_
   first|with_reducible refine ks [] @zB_ ?_|refine kp @zB_ ?_
   refine Ow.callFV rfl Tryz.call227 (fun w' hw'=>Z2_ p b w' hp h0 h1) ?_
   unfold cpO
   rw[hc]
   refine ko @zB_ ?_
   first|with_reducible refine ks [] @zB_ ?_|refine kp @zB_ ?_
   refine⟨_,(ke @zB_),⟨hw2,trivial⟩, ?_⟩
   rw[QX_ (fun h=>hl h.2.2),hc];rfl
 ·have e: (((p.a:Nat):Int)==0&& ((p.n:Nat):Int)==0)=false:=by
   rw[Bool.and_eq_false_iff]
   by_cases ha:p.a=0
   ·right;rw[beq_eq_false_iff_ne];omega
   ·left;rw[beq_eq_false_iff_ne];omega
  rw[e]
  refine ko @zB_ ?_
  first|with_reducible refine ks [] @zB_ ?_|refine kp @zB_ ?_
  refine Ow.callFV rfl Tryz.call227 (fun w' hw'=>Z2_ p b w' hp h0 h1) ?_
  unfold cpO
  cases hc:cpV p b with
  |none=>
   simp only
   refine ko @zB_ ?_
   first|with_reducible refine ks [] @zB_ ?_|refine kp @zB_ ?_
   refine⟨_,(ke @zB_),⟨hw2,trivial⟩, ?_⟩
   rw[QX_ (fun h=>hz ⟨h.1,h.2.1⟩),hc];rfl
  |some q=>
   simp only
   refine ko @zB_ ?_
   first|with_reducible refine ks [] @zB_ ?_|refine kp @zB_ ?_
   refine⟨_,(ke @zB_),⟨hw2,trivial⟩, ?_⟩
   rw[QX_ (fun h=>hz ⟨h.1,h.2.1⟩),hc];rfl
abbrev PcSl (w:World) (v:Value) (l:List PcL):Prop:=SlV 2 pcC pc0 w v l
def BndP (l:List PcL):Prop:= ∀g,g<l.length→PcB (l.getD g pc0)∧(l.getD g pc0).x.length<9223372036854775808
theorem abi_ {b:Int} {l:List PcL} {g:Nat} (h:g<l.length):kM_ b (l.take (g+1))=kM_ b (l.take g)+jc_ (l.getD g pc0) b:=by
 rw[take_snoc (z:=pc0) h,aiw_]
theorem ab6_ {b:Int} {l:List PcL} {g:Nat} (h:g<l.length):anyZ b (l.take (g+1))=(anyZ b (l.take g) ||jc_ (l.getD g pc0) b==0):=by
 rw[take_snoc (z:=pc0) h];unfold anyZ;rw[List.any_append];simp
theorem JY_ {b:Int} {l:List PcL} {g:Nat} (h:g<l.length) (hz:jc_ (l.getD g pc0) b=0):anyZ b l=true:=by
 unfold anyZ
 rw[List.any_eq_true]
 exact⟨_,Ql_ (z:=pc0) h,by rw[beq_iff_eq];exact hz⟩
theorem Wd_ (b:Int) (v:Value) (l:List PcL) (w:World) (hv:PcSl w v l) (hl:BndP l) (hn:l.length<1000000000):
  Rets Tryz.prog 226 #[vi b,v] w (fun v D=>v= .tuple #[vi (vH_ b l).1,vi (vH_ b l).2]∧D= []):=by
 obtain⟨bb,off,arr,E,fz,hr⟩:=hv.row
 have ln:=hv.len
 refine Rets.enterV Tryz.func226 rfl (rs:= [.tmp 4, .tmp 5]) Tryz.results226 Tryz.ntmps226 ?_
 refine kf ?_
 by_cases hb:b<0∨4099<b
 ·have hc:vH_ b l=(0,1):=by unfold vH_;rw[if_pos hb]
  by_cases h1:b<0
  ·have d1:decide (b<0)=true:=decide_eq_true h1
   first|with_reducible refine ks [] (And.intro @zB_ @d1) ?_|refine kp (And.intro @zB_ @d1) ?_
   refine⟨_,(ke @zB_),trivial, ?_⟩
   rw[hc];rfl
  ·have d1:decide (b<0)=false:=decide_eq_false h1
   have d2:decide (4099<b)=true:=decide_eq_true (by omega)
   first|with_reducible refine ks [] (And.intro @zB_ (And.intro @d1 (@d2))) ?_|refine kp (And.intro @zB_ (And.intro @d1 (@d2))) ?_
   refine⟨_,(ke @zB_),trivial, ?_⟩
   rw[hc];rfl
 have d1:decide (b<0)=false:=decide_eq_false (by omega)
 have d2:decide (4099<b)=false:=decide_eq_false (by omega)
 first|with_reducible refine ks [] (And.intro @zB_ (And.intro @d1 (And.intro @d2 (@ln)))) ?_|refine kp (And.intro @zB_ (And.intro @d1 (And.intro @d2 (@ln)))) ?_
 refine Cw.loopG (G:=(Nat×ze_)) [20,21,22,9,23,24,25,10,26,27,4,5,28,29,30,31,6,32,33,7,34,19] (fun q=> [(6,vi (min (kM_ b (l.take q.1)) 4100:Nat)),(7,vi (if 4099<kM_ b (l.take q.1) then 19 else 0)),(19,vi q.1)]) (fun q=>q.2) (fun q=>q.1≤l.length∧New w.heap.size q.2∧anyZ b (l.take q.1)=false) (fun q=>l.length - q.1) ⟨0,[]⟩ rfl rfl ?_ ?_
 ·exact⟨Nat.zero_le _,trivial,rfl⟩
 intro q jq hq
 refine kv ?_
 obtain⟨g,D⟩:=q
 simp only at hq ⊢
 obtain⟨hg,hN,hz⟩:=hq
 by_cases hlt:g<l.length
 ·have hb0:0<l.length:=by omega
  have hbl:=hr.lt hb0
  have rd:zA_ w D bb=some (.cells arr E fz):=by rw[jh_ (hN.not hbl)];exact hr.has hb0
  have i2:=hr.idx true g hlt
  have ld:=hr.load xb_ (by omega) hlt
  obtain⟨hpb,hpx⟩:=hl g hlt
  have hst:=abi_ (b:=b) hlt
  have hat:=ab6_ (b:=b) hlt
  have hzz:=JY_ (b:=b) hlt
  generalize hp:l.getD g pc0=p at*
  have d3:decide ((g:Int)< (l.length:Int))=true:=decide_eq_true (by omega)
  have hple:=aao_ p b
  first|with_reducible refine ks [] (And.intro @zB_ (And.intro @d3 (And.intro @i2 (And.intro @rd (@ld))))) ?_|refine kp (And.intro @zB_ (And.intro @d3 (And.intro @i2 (And.intro @rd (@ld))))) ?_
  refine Ow.alloc rfl rfl zrPc fun b9 hb9 hw9=> ?_
  simp only[zc_,List.nil_append,List.cons_append]
  refine Ow.permL (M:=(b9, .cells (pcC pc0).toArray 300 (0,0))::D) (by classical exact List.perm_iff_count.2 fun a=>by simp only[List.count_append,List.count_cons,List.count_nil]<;>omega) ?_
  have hsp:=Wl_ p pc0 300
  refine ko (And.intro @zB_ @hsp) ?_
  first|with_reducible refine ks [] @zB_ ?_|refine kp @zB_ ?_
  refine Ow.callFV rfl Tryz.call236 (fun w' hw'=>acU_ p b w' hpb (by omega) (by omega) hpx) ?_
  by_cases hk:jc_ p b=0
  ·have d4: (((jc_ p b:Nat):Int)==0)=true:=by rw[hk];rfl
   have hc:vH_ b l=(0,1):=by unfold vH_;rw[if_neg hb,if_pos (hzz hk)]
   refine ko (And.intro @zB_ @d4) ?_
   first|with_reducible refine ks [] (And.intro @zB_ @d4) ?_|refine kp (And.intro @zB_ @d4) ?_
   refine⟨_,(ke @zB_),⟨hw9,hN⟩, ?_⟩
   rw[hc];rfl
  ·have d4: (((jc_ p b:Nat):Int)==0)=false:=by rw[beq_eq_false_iff_ne];omega
   refine ko (And.intro @zB_ @d4) ?_
   first|with_reducible refine ks [] (And.intro @zB_ @d4) ?_|refine kp (And.intro @zB_ @d4) ?_
   refine Ow.minI rfl rfl rfl ?_
   have hm: (if 4100< ((min (kM_ b (l.take g)) 4100:Nat):Int)+ ((jc_ p b:Nat):Int) then(4100:Int) else((min (kM_ b (l.take g)) 4100:Nat):Int)+ ((jc_ p b:Nat):Int))=((min (kM_ b (l.take (g+1))) 4100:Nat):Int):=by
    rw[hst];split<;>omega
   rw[hm]
   have hN9:New w.heap.size ((b9,Obj.cells (pcC p).toArray 300 (0,0))::D):=⟨hw9,hN⟩
   have hz9:anyZ b (l.take (g+1))=false:=by rw[hat,hz];simp[hk]
   by_cases h4:4099<kM_ b (l.take (g+1))
   ·have d5:decide ((4099:Int)< ((min (kM_ b (l.take (g+1))) 4100:Nat):Int))=true:=decide_eq_true (by omega)
    refine ko (And.intro @zB_ @d5) ?_
    first|with_reducible refine ks [] (And.intro @zB_ @d5) ?_|refine kp (And.intro @zB_ @d5) ?_
    refine Again.mk (g+1,(b9,Obj.cells (pcC p).toArray 300 (0,0))::D) (by show l.length - (g+1)<l.length - g;omega) ⟨hlt,hN9,hz9⟩ rfl ?_
    rw[if_pos h4];rfl
   ·have d5:decide ((4099:Int)< ((min (kM_ b (l.take (g+1))) 4100:Nat):Int))=false:=decide_eq_false (by omega)
    have h5: ¬4099<kM_ b (l.take g):=by omega
    rw[if_neg h5]
    refine ko (And.intro @zB_ @d5) ?_
    first|with_reducible refine ks [] (And.intro @zB_ @d5) ?_|refine kp (And.intro @zB_ @d5) ?_
    refine Again.mk (g+1,(b9,Obj.cells (pcC p).toArray 300 (0,0))::D) (by show l.length - (g+1)<l.length - g;omega) ⟨hlt,hN9,hz9⟩ rfl ?_
    rw[if_neg h4];rfl
 ·obtain rfl:g=l.length:=by omega
  have d3:decide ((l.length:Int)< (l.length:Int))=false:=by simp
  rw[List.take_length] at hz
  rw[List.take_length]
  have hz': ¬anyZ b l=true:=by rw[hz];simp
  by_cases h4:4099<kM_ b l
  ·have hc:vH_ b l=(0,19):=by unfold vH_;rw[if_neg hb,if_neg hz',if_pos h4]
   have e: ((19:Int) !=0)=true:=rfl
   rw[if_pos h4]
   first|with_reducible refine ks [] (And.intro @zB_ (And.intro @d3 (@e))) ?_|refine kp (And.intro @zB_ (And.intro @d3 (@e))) ?_
   refine⟨_,(ke @zB_),hN, ?_⟩
   rw[hc];rfl
  ·have hc:vH_ b l=(((kM_ b l:Nat):Int),0):=by unfold vH_;rw[if_neg hb,if_neg hz',if_neg h4]
   have e: ((0:Int) !=0)=false:=rfl
   rw[if_neg h4,Nat.min_eq_left (by omega)]
   first|with_reducible refine ks [] (And.intro @zB_ (And.intro @d3 (@e))) ?_|refine kp (And.intro @zB_ (And.intro @d3 (@e))) ?_
   refine⟨_,(ke @zB_),hN, ?_⟩
   rw[hc];rfl
end Go.Proofs
end
