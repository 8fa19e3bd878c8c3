/-
  Part 2 of the walk: contracts of the functions that the law reaches, and the calculus they stand on.
  No conditions.
-/
import Derived.Test.YtooklcgflocbcaaGreatDoorI1
import Derived.Lib.Strings
import Derived.Lib.Bytealg
import GoSem.Core.Float
import Derived.Laws.MakeOwn
section
open Go Go.Proofs Go.Sx Go.StP
namespace Go.Proofs
set_option maxRecDepth 10000
set_option maxHeartbeats 4000000
set_option linter.unusedSimpArgs false
def rws_Blks (k:Nat) (ls:List (List RwL)):Prop:= ∀x,x∈ls→x.length=k∧zw_ x
theorem rws_Blks.snoc {k:Nat} {ls:List (List RwL)} {x:List RwL} (h:rws_Blks k ls) (hx:x.length=k) (hs:zw_ x):rws_Blks k (ls++ [x]):=by
 intro y hy
 rcases List.mem_append.1 hy with hy|hy
 ·exact h y hy
 ·rw[List.mem_singleton] at hy;subst hy;exact⟨hx,hs⟩
structure rws_StG where
 k:Nat
 ls:List (List RwL)
 r:List RwL
structure rws_StH where
 l2:List (List RwL)
 ls:List (List RwL)
theorem Q4_ (rb n c:Nat) (d:List RwL) (rest:List Value) (w:World) (hn:n=d.length) (hs:n<1000000)
  (ho:w.heap[rb]? =some (zx_ rest d)):
  Rets Tryz.prog 150 #[vsl rb 0 n c,vi n,qJ_] w (fun v D=> ∃o,D= [(rb,o)]∧v= .tuple #[]∧ ∃Z,o=zx_ rest Z∧Z.length=d.length∧zw_ Z∧q7_ d Z):=by
 refine Rets.enterM Tryz.func150 rfl (rs:= []) Tryz.results150 Tryz.ntmps150 ho ?_
 refine kf ?_
 first|with_reducible refine ks [1000006] @Nat.add_zero ?_|refine kp @Nat.add_zero ?_
 refine Cw.loopG (G:=rws_StG) [11,12,13,14,15,16,17,18,19,7,20,21,22,8] (fun g=> [(7,vi g.ls.flatten.length),(8,vi (g.ls.flatten.length+20:Nat))]) (fun g=> [(rb,zx_ rest (g.ls.flatten++g.r))]) (fun g=>rws_Blks 20 g.ls∧q7_ d (g.ls.flatten++g.r)∧g.ls.flatten.length+g.r.length=n) (fun g=>g.r.length) ⟨20,[],d⟩ rfl rfl ?_ ?_
 ·refine⟨fun x hx=> ?_,StP.St.refl _ _,by show 0+d.length=n;omega⟩
  exact absurd hx (by simp)
 ·intro g j hg
  refine kv ?_
  obtain⟨_,ls,r⟩:=g
  obtain⟨h1,h2,h3⟩:=hg
  dsimp only at h1 h2 h3 ⊢
  by_cases hb:ls.flatten.length+20≤n
  ·obtain⟨M,R,rfl,hM⟩:=ags_ r (show 20≤r.length by omega)
   rw[List.length_append] at h3
   first|with_reducible refine ks [] @Nat.add_zero ?_|refine kp @Nat.add_zero ?_
   refine Ow.callE rfl rfl Tryz.call175 (by simp[keys]) (fun w' hw'=>kn_ rb n c ls.flatten M R rest ls.flatten.length (ls.flatten.length+20) w' rfl (by omega) (by omega) hs (hw'.has _ _ List.mem_cons_self)) (fun v1 o1 hS1=> ?_)
   obtain⟨rfl,M',rfl,l1,s1,t1⟩:=hS1
   refine ko @Nat.add_zero ?_
   have e1: (ls++ [M']).flatten=ls.flatten++M':=by simp
   refine Again.mk ⟨20,ls++ [M'],R⟩ (by show R.length< (M++R).length;rw[List.length_append];omega) ⟨h1.snoc (by omega) s1, ?_, ?_⟩ ?_ ?_
   ·show q7_ d ((ls++ [M']).flatten++R)
    rw[e1,List.append_assoc]
    exact h2.trans (StP.St.app (StP.St.refl _ _) (StP.St.app t1 (StP.St.refl _ _)))
   ·show(ls++ [M']).flatten.length+R.length=n
    rw[e1,List.length_append];omega
   ·rw[e1,List.append_assoc]
   ·dsimp only
    rw[e1,show(ls.flatten++M').length=ls.flatten.length+20 by rw[List.length_append];omega]
    rfl
  ·first|with_reducible refine ks [] @Nat.add_zero ?_|refine kp @Nat.add_zero ?_
   have e0:ls.flatten++r=ls.flatten++ (r++ []):=by rw[List.append_nil]
   rw[e0]
   first|with_reducible refine ks [1000007] @Nat.add_zero ?_|refine kp @Nat.add_zero ?_
   refine Ow.callE rfl rfl Tryz.call175 (by simp[keys]) (fun w' hw'=>kn_ rb n c ls.flatten r [] rest ls.flatten.length n w' rfl (by omega) (by simp) hs (hw'.has _ _ List.mem_cons_self)) (fun v1 o1 hS1=> ?_)
   obtain⟨rfl,r',rfl,l1,s1,t1⟩:=hS1
   rw[show r'++ []=r' from List.append_nil r']
   refine ko @Nat.add_zero ?_
   refine Cw.loopG (G:=rws_StG) [28,29,30,31,32,7,8,33,34,35,36,37,38,39,40,41,42,43,44,45,46,47,48,49,50,51,9,52,53,54,55,56,57,58,59,60,61,62,6] (fun g=> [(6,vi g.k)]) (fun g=> [(rb,zx_ rest (g.ls.flatten++g.r))]) (fun g=>0<g.k∧rws_Blks g.k g.ls∧zw_ g.r∧g.r.length<g.k∧q7_ d (g.ls.flatten++g.r)∧g.ls.flatten.length+g.r.length=n) (fun g=>n - g.k) ⟨20,ls,r'⟩ rfl rfl ?_ ?_
   ·exact⟨by show 0<20;omega,h1,s1,by show r'.length<20;omega,h2.trans (StP.St.app (StP.St.refl _ _) t1),by show ls.flatten.length+r'.length=n;omega⟩
   ·intro g j hg
    refine kv ?_
    clear h1 h2 h3 hb e0 l1 s1 t1
    obtain⟨k,ls,r⟩:=g
    obtain⟨h0,h1,h2,h3,h4,h5⟩:=hg
    dsimp only at h0 h1 h2 h3 h4 h5 ⊢
    by_cases hk:k<n
    ·have e1:2* (k:Int)=((2*k:Nat):Int):=by omega
     first|with_reducible refine ks [1000013] @e1 ?_|refine kp @e1 ?_
     refine Cw.loopG (G:=rws_StH) [33,34,35,36,37,38,39,40,41,42,43,44,7,45,46,47,48,8] (fun g=> [(7,vi g.l2.flatten.length),(8,vi (2*k+g.l2.flatten.length:Nat))]) (fun g=> [(rb,zx_ rest (g.l2.flatten++ (g.ls.flatten++r)))]) (fun g=>rws_Blks (2*k) g.l2∧rws_Blks k g.ls∧q7_ d (g.l2.flatten++ (g.ls.flatten++r))∧g.l2.flatten.length+ (g.ls.flatten.length+r.length)=n) (fun g=>g.ls.length) ⟨[],ls⟩ rfl rfl ?_ ?_
     ·refine⟨fun x hx=> ?_,h1,h4,by show 0+ (ls.flatten.length+r.length)=n;omega⟩
      exact absurd hx (by simp)
     ·clear h1 h4 h5
      intro g j hg
      refine kv ?_
      obtain⟨l2,ls⟩:=g
      obtain⟨g1,g2,g3,g4⟩:=hg
      dsimp only at g1 g2 g3 g4 ⊢
      by_cases hb:2*k+l2.flatten.length≤n
      ·have hls: ∃x y t,ls=x::y::t:=by
        cases ls with
        |nil=>rw[List.flatten_nil,List.length_nil] at g4;omega
        |cons x t=>
         have hx:=(g2 x List.mem_cons_self).1
         cases t with
         |nil=>rw[List.flatten_cons,List.flatten_nil,List.append_nil] at g4;omega
         |cons y t=>exact⟨x,y,t,rfl⟩
       obtain⟨x,y,t,rfl⟩:=hls
       have hx:=g2 x List.mem_cons_self
       have hy:=g2 y (by simp)
       have ht:rws_Blks k t:=fun u hu=>g2 u (by simp[hu])
       rw[List.flatten_cons,List.flatten_cons] at g3 g4
       simp only[List.length_append,List.append_assoc] at g3 g4
       have e2: (x::y::t).flatten++r=x++ (y++ (t.flatten++r)):=by simp
       rw[e2]
       have e3: (l2.flatten.length:Int)+ (k:Int)=((l2.flatten.length+k:Nat):Int):=by omega
       first|with_reducible refine ks [] @e3 ?_|refine kp @e3 ?_
       refine Ow.callE rfl rfl Tryz.call176 (by simp[keys]) (fun w' hw'=>kK_ (2*k) rb n c l2.flatten x y (t.flatten++r) rest l2.flatten.length (l2.flatten.length+k) (2*k+l2.flatten.length) w' rfl (by omega) (by omega) (by rw[List.length_append];omega) hs hx.2 hy.2 (by omega) (by omega) (by omega) (hw'.has _ _ List.mem_cons_self)) (fun v1 o1 hS1=> ?_)
       obtain⟨rfl,Z,rfl,z1,z2,z3⟩:=hS1
       have e4: ((2*k+l2.flatten.length:Nat):Int)+ ((2*k:Nat):Int)=((2*k+ (l2.flatten.length+2*k):Nat):Int):=by omega
       refine ko (And.intro @e1 @e4) ?_
       have e5: (l2++ [Z]).flatten=l2.flatten++Z:=by simp
       have e6: (l2.flatten++Z).length=2*k+l2.flatten.length:=by rw[List.length_append];omega
       refine Again.mk ⟨l2++ [Z],t⟩ (by show t.length< (x::y::t).length;simp only[List.length_cons];omega) ⟨g1.snoc (by omega) z2,ht, ?_, ?_⟩ ?_ ?_
       ·show q7_ d ((l2++ [Z]).flatten++ (t.flatten++r))
        rw[e5,List.append_assoc]
        refine g3.trans (StP.St.app (StP.St.refl _ _) ?_)
        rw[←List.append_assoc]
        exact StP.St.app z3 (StP.St.refl _ _)
       ·show(l2++ [Z]).flatten.length+ (t.flatten.length+r.length)=n
        rw[e5,e6];omega
       ·rw[e5,List.append_assoc]
       ·dsimp only
        rw[e5,e6,show l2.flatten.length+2*k=2*k+l2.flatten.length by omega]
        rfl
      ·have e7: (k:Int)*2=((2*k:Nat):Int):=by omega
       have e3: (l2.flatten.length:Int)+ (k:Int)=((l2.flatten.length+k:Nat):Int):=by omega
       have hls:ls= []∨ ∃x,ls= [x]:=by
        cases ls with
        |nil=>exact .inl rfl
        |cons x t=>
         have hx:=(g2 x List.mem_cons_self).1
         cases t with
         |nil=>exact .inr ⟨x,rfl⟩
         |cons y t=>
          have hy:=(g2 y (by simp)).1
          rw[List.flatten_cons,List.flatten_cons,List.length_append,List.length_append] at g4
          omega
       have fin: ∀r',(ls.flatten++r).length=r'.length→q7_ (ls.flatten++r) r'→q7_ d (l2.flatten++r')∧l2.flatten.length+r'.length=n:=by
        intro r' hl ht'
        rw[List.length_append] at hl
        exact⟨g3.trans (StP.St.app (StP.St.refl _ _) ht'),by omega⟩
       rcases hls with rfl| ⟨x,rfl⟩
       ·rw[List.flatten_nil,List.length_nil] at g4
        first|with_reducible refine ks [] @Nat.add_zero ?_|refine kp @Nat.add_zero ?_
        first|with_reducible refine ks [] (And.intro @e3 @e7) ?_|refine kp (And.intro @e3 @e7) ?_
        obtain⟨w1,w2⟩:=fin r rfl (StP.St.refl _ _)
        refine Again.mk ⟨2*k,l2,r⟩ (by show n - 2*k<n - k;omega) ⟨by show 0<2*k;omega,g1,h2,by show r.length<2*k;omega,w1,w2⟩ rfl rfl
       ·have hx:=g2 x List.mem_cons_self
        rw[List.flatten_cons,List.flatten_nil,List.append_nil] at g4 fin
        rw[List.flatten_cons,List.flatten_nil,List.append_nil]
        by_cases hr:r.length=0
        ·obtain rfl:r= []:=List.eq_nil_of_length_eq_zero hr
         first|with_reducible refine ks [] @Nat.add_zero ?_|refine kp @Nat.add_zero ?_
         first|with_reducible refine ks [] (And.intro @e3 @e7) ?_|refine kp (And.intro @e3 @e7) ?_
         obtain⟨w1,w2⟩:=fin x (by rw[List.append_nil]) (by rw[List.append_nil];exact StP.St.refl _ _)
         refine Again.mk ⟨2*k,l2,x⟩ (by show n - 2*k<n - k;omega) ⟨by show 0<2*k;omega,g1,hx.2,by show x.length<2*k;omega,w1,w2⟩ ?_ rfl
         rw[List.append_nil]
        ·have e8:x++r=x++ (r++ []):=by rw[List.append_nil]
         rw[e8]
         first|with_reducible refine ks [] @Nat.add_zero ?_|refine kp @Nat.add_zero ?_
         first|with_reducible refine ks [] (And.intro @e3 @e7) ?_|refine kp (And.intro @e3 @e7) ?_
         refine Ow.callE rfl rfl Tryz.call176 (by simp[keys]) (fun w' hw'=>kK_ (2*k) rb n c l2.flatten x r [] rest l2.flatten.length (l2.flatten.length+k) n w' rfl (by omega) (by omega) (by simp) hs hx.2 h2 (by omega) (by omega) (by omega) (hw'.has _ _ List.mem_cons_self)) (fun v1 o1 hS1=> ?_)
         obtain⟨rfl,Z,rfl,z1,z2,z3⟩:=hS1
         rw[show Z++ []=Z from List.append_nil Z]
         refine ko @e7 ?_
         obtain⟨w1,w2⟩:=fin Z (by rw[List.length_append];omega) z3
         refine Again.mk ⟨2*k,l2,Z⟩ (by show n - 2*k<n - k;omega) ⟨by show 0<2*k;omega,g1,z2,by show Z.length<2*k;omega,w1,w2⟩ rfl rfl
    ·first|with_reducible refine ks [] @Nat.add_zero ?_|refine kp @Nat.add_zero ?_
     have hZ:zw_ (ls.flatten++r):=by
      cases ls with
      |nil=>exact h2
      |cons x ls=>
       have hx:=h1 x List.mem_cons_self
       rw[List.flatten_cons,List.length_append] at h5
       obtain rfl:r= []:=List.eq_nil_of_length_eq_zero (by omega)
       cases ls with
       |nil=>simpa using hx.2
       |cons y ls=>
        have hy:=h1 y (by simp)
        rw[List.flatten_cons,List.length_append] at h5
        omega
     have hZl: (ls.flatten++r).length=d.length:=by rw[List.length_append];omega
     refine⟨_,_,_,(ke @Nat.add_zero),rfl,trivial, ?_⟩
     exact⟨rfl,_,rfl,hZl,hZ,h4⟩
end Go.Proofs
end
section
open Go Go.Proofs Go.Sx Go.StP
namespace Go.Proofs
set_option maxRecDepth 10000
set_option maxHeartbeats 4000000
set_option linter.unusedSimpArgs false
theorem ZT_ (w:World):Rets Tryz.prog 175 #[.slice none 0 0,vi 0,vi 0,qJ_] w (fun v D=>v= .tuple #[]∧D= []):=by
 refine Rets.enterV Tryz.func175 rfl (rs:= []) Tryz.results175 Tryz.ntmps175 ?_
 refine kf ?_
 first|with_reducible refine ks [] @Nat.add_zero ?_|refine kp @Nat.add_zero ?_
 refine Cw.loopG (G:=Unit) [12,13,14,17,9,18,19,20,21,22,23,24,25,26,27,28,29,30,31,32,33,34,37,38,39,40,41,42,43,44,45,46,47,48,49,50,51,52,35,36,15,16,8] (fun g=> [(8,vi 1)]) (fun g=> []) (fun g=>True) (fun g=>0) () rfl rfl ?_ ?_
 ·trivial
 ·intro g j hg
  refine kv ?_
  first|with_reducible refine ks [] @Nat.add_zero ?_|refine kp @Nat.add_zero ?_
  refine⟨_,(ke @Nat.add_zero),trivial, ?_⟩
  rfl
theorem Xe_ (w:World):Rets Tryz.prog 150 #[.slice none 0 0,vi 0,qJ_] w (fun v D=>v= .tuple #[]∧D= []):=by
 refine Rets.enterV Tryz.func150 rfl (rs:= []) Tryz.results150 Tryz.ntmps150 ?_
 refine kf ?_
 first|with_reducible refine ks [] @Nat.add_zero ?_|refine kp @Nat.add_zero ?_
 refine Cw.loopG (G:=Unit) [11,12,13,14,15,16,17,18,19,7,20,21,22,8] (fun g=> [(7,vi 0),(8,vi 20)]) (fun g=> []) (fun g=>True) (fun g=>0) () rfl rfl ?_ ?_
 ·trivial
 ·intro g j hg
  refine kv ?_
  first|with_reducible refine ks [] @Nat.add_zero ?_|refine kp @Nat.add_zero ?_
  refine Ow.callFV rfl Tryz.call175 (fun w' hw'=>ZT_ w') ?_
  refine ko @Nat.add_zero ?_
  refine Cw.loopG (G:=Unit) [28,29,30,31,32,7,8,33,34,35,36,37,38,39,40,41,42,43,44,45,46,47,48,49,50,51,9,52,53,54,55,56,57,58,59,60,61,62,6] (fun g=> [(6,vi 20)]) (fun g=> []) (fun g=>True) (fun g=>0) () rfl rfl ?_ ?_
  ·trivial
  ·intro u ju hu
   refine kv ?_
   first|with_reducible refine ks [] @Nat.add_zero ?_|refine kp @Nat.add_zero ?_
   refine⟨_,(ke @Nat.add_zero),trivial, ?_⟩
   rfl
theorem ZB_ (w:World):Rets Tryz.prog 108 #[.slice none 0 0,qJ_] w (fun v D=>v= .tuple #[]∧D= []):=by
 refine Rets.enterV Tryz.func108 rfl (rs:= []) Tryz.results108 Tryz.ntmps108 ?_
 refine kf ?_
 first|with_reducible refine ks [] @agQ_ ?_|refine kp @agQ_ ?_
 refine Ow.callFV rfl Tryz.call150 (fun w' hw'=>Xe_ w') ?_
 refine ko @Nat.add_zero ?_
 refine⟨_,(ke @Nat.add_zero),trivial, ?_⟩
 rfl
theorem xW_ (rb n c:Nat) (d:List RwL) (rest:List Value) (w:World) (hn:n=d.length) (hs:n<1000000) (ho:w.heap[rb]? =some (zx_ rest d)):
  Rets Tryz.prog 108 #[vsl rb 0 n c,qJ_] w (fun v D=> ∃o,D= [(rb,o)]∧v= .tuple #[]∧ ∃Z,o=zx_ rest Z∧Z.length=d.length∧zw_ Z∧q7_ d Z):=by
 refine Rets.enterM Tryz.func108 rfl (rs:= []) Tryz.results108 Tryz.ntmps108 ho ?_
 refine kf ?_
 first|with_reducible refine ks [] @Nat.add_zero ?_|refine kp @Nat.add_zero ?_
 refine Ow.callE rfl rfl Tryz.call150 (by simp[keys]) (fun w' hw'=>Q4_ rb n c d rest w' hn hs (hw'.has _ _ List.mem_cons_self)) (fun v1 o1 hS1=> ?_)
 obtain⟨rfl,Z,rfl,z1,z2,z3⟩:=hS1
 refine ko @Nat.add_zero ?_
 refine⟨_,_,_,(ke @Nat.add_zero),rfl,trivial, ?_⟩
 exact⟨rfl,Z,rfl,z1,z2,z3⟩
def rws_SortOf (l Z:List RwL):Prop:=Z.length=l.length∧zw_ Z∧q7_ l Z
theorem rws_SortOf.eq {l Z Z':List RwL} (h:rws_SortOf l Z) (h':rws_SortOf l Z'):Z=Z':=StP.St.eq h.2.1 h'.2.1 (h.2.2.symm.trans h'.2.2)
end Go.Proofs
end
section
open Go Go.Proofs Go.Sx Go.StP
namespace Go.Proofs
set_option maxRecDepth 10000
set_option maxHeartbeats 1000000
set_option linter.unusedSimpArgs false
abbrev RwSl (w:World) (v:Value) (l:List RwL):Prop:=SlV 34 rwC rw0 w v l
def jA_ (r:RwL):Bool:= !(decide (r.place<0))&& !(decide (1099511627775<r.place))&& !(decide (r.spot<0))&& !(decide (1099511627775<r.spot))
def wQ_ (l:List RwL):Nat→Bool
 |0=>true
 |k+1=>wQ_ l k&& (decide (k=0) ||decide (cmpI (l.getD (k - 1) rw0).id (l.getD k rw0).id<0))&&jA_ (l.getD k rw0)
def zV_ (i:IdL):Nat:=(i.l.getD 0 0).toNat / 16
theorem acR_ (i:IdL):zV_ i<16:=by
 have:=(i.l.getD 0 0).toNat_lt
 unfold zV_;omega
def kA_ (l:List RwL) (d:Nat):Nat:=l.countP fun r=>decide (zV_ r.id≤d)
def x9_ (l:List RwL):List Nat:=(List.range 16).map (kA_ l)
def VB_ (l:List RwL) (r:RwL) (g:Nat):List Nat:=(List.range 16).map fun j=>if j<g then kA_ (l++ [r]) j else kA_ l j
theorem kl_ (l:List RwL): (x9_ l).length=16:=by simp[x9_]
theorem QJ_ (l:List RwL) (r:RwL) (g:Nat): (VB_ l r g).length=16:=by simp[VB_]
theorem V9_ (l:List RwL) (r:RwL) (d:Nat):kA_ (l++ [r]) d=kA_ l d+if zV_ r.id≤d then 1 else 0:=by
 unfold kA_
 rw[List.countP_append,List.countP_singleton]
 simp
theorem an4_ (l:List RwL) (r:RwL):VB_ l r (zV_ r.id)=x9_ l:=by
 unfold VB_ x9_
 refine List.map_congr_left fun j _=> ?_
 split
 ·rename_i h;rw[V9_,if_neg (by omega),Nat.add_zero]
 ·rfl
theorem al8_ (l:List RwL) (r:RwL):VB_ l r 16=x9_ (l++ [r]):=by
 unfold VB_ x9_
 refine List.map_congr_left fun j hj=> ?_
 rw[if_pos (List.mem_range.1 hj)]
theorem aix_ (l:List RwL) (r:RwL) {g:Nat} (hg:g<16): (VB_ l r g).getD g 0=kA_ l g:=by
 unfold VB_
 rw[List.getD_eq_getElem?_getD,List.getElem?_map,List.getElem?_range hg]
 simp
theorem aiV_ (l:List RwL) (r:RwL) {g:Nat} (_hg:g<16) (hd:zV_ r.id≤g): (VB_ l r g).set g (kA_ l g+1)=VB_ l r (g+1):=by
 apply List.ext_getElem
 ·simp[VB_]
 ·intro j h1 h2
  rw[List.length_set,QJ_] at h1
  rw[List.getElem_set]
  have e1: (VB_ l r g)[j]'(by rw[QJ_];exact h1)=if j<g then kA_ (l++ [r]) j else kA_ l j:=by simp[VB_]
  have e2: (VB_ l r (g+1))[j]'h2=if j<g+1 then kA_ (l++ [r]) j else kA_ l j:=by simp[VB_]
  rw[e1,e2]
  by_cases hj:g=j
  ·subst hj
   rw[if_pos rfl,if_pos (by omega),V9_,if_pos hd]
  ·rw[if_neg hj]
   by_cases hj2:j<g
   ·rw[if_pos hj2,if_pos (by omega)]
   ·rw[if_neg hj2,if_neg (by omega)]
theorem shr4 (x:UInt8): ((xV_ x 4).toNat:Int)=((x.toNat / 16:Nat):Int):=by
 have:=x.toNat_lt
 unfold xV_
 rw[UInt8.toNat_ofNat',Nat.mod_eq_of_lt (by omega)]
def ixO (s:List UInt8) (v1:Value) (F:List Nat):Obj:= .cells ([vs s,v1]++ (F.map fun(n:Nat)=>vi (n:Int))).toArray 178 (0,0)
set_option linter.defProp false
def aex_:=And.intro (@zg_) (@zf_)
theorem Jm_ (i:IdL) (w:World):Rets Tryz.prog 118 #[.agg (a8 i.l)] w (fun v D=>v=vi (zV_ i:Nat)∧D= []):=by
 have hil:=i.h
 have h0: (0:Nat)<i.l.length:=by omega
 have hs:=shr4 (i.l.getD 0 0)
 refine Rets.enterV Tryz.func118 rfl (rs:= [.tmp 2]) Tryz.results118 Tryz.ntmps118 ?_
 refine kf ?_
 first|with_reducible refine ks [] @aex_ ?_|refine kp @aex_ ?_
 refine Ow.box rfl rfl fun b1 hb1 hw1=> ?_
 simp only[qy_,qr_,qs_,zd_,List.nil_append,List.cons_append]
 refine Ow.go rfl ?_
 simp(disch:=(first|assumption|omega| (simp only[jW_,jX_,UInt64.reduceToNat];try omega))) only[↓Sx.S0,Sx.S1,Tryz.fx,aex_,Nat.reduceAdd,Nat.reducePow,Int.reducePow,Nat.reduceBEq, ↓reduceIte,UInt8.reduceToNat,UInt16.reduceToNat,UInt32.reduceToNat,UInt64.reduceToNat,Int.reduceToNat]
 first|with_reducible refine ks [] @aex_ ?_|refine kp @aex_ ?_
 refine⟨_,(ke @aex_),⟨hw1,trivial⟩, ?_⟩
 exact congrArg vi hs
end Go.Proofs
end
namespace Go.Sx
open Go
section
variable {α:Type} {m:Nat} {enc:α→List Value} {z:α} {w:World} {v:Value} {l:List α}
end
section
variable {P:Program} {w0:World} {f:Fr} {L:za_} {N:Fr→za_→Prop} {ops:Array Oper} {rest:List Oper} {md:Md} {d:Option Tmp} {ty:TypeId} {ps:String} {af:Array Edge} {g:Option (Nat×Bool)}
theorem Ow.callFnX {x y:Operand} {b:Value} {ts:Array TypeId} {k:FuncId} {X Y:za_} {S:Value→za_→Prop} {md':Md} (hL:L=X++Y) (he:md.turn=some md')
  (hs:zh_ ops f ⟨d, .call ⟨.value x, #[y],ts⟩,ty,ps,af,g⟩=false)
  (hx:ev f x= .func (.func k) #[] #[]) (hy:ev f y=b)
  (hk: ∀a w,(callFunc k a).run P w= .ok (.enter k a) w)
  (hc: ∀w,Hp w0 L w→(∀p,p∈X→w.heap[p.1]? =some p.2)→(keys X).Nodup→Rets P k #[b] w (XS w X S))
  (hn: ∀v D,Came w0 L X D→S v D→Ow P w0 ops md' rest (qo_ f d v) (D++Y) N):
  Ow P w0 ops md (⟨d, .call ⟨.value x, #[y],ts⟩,ty,ps,af,g⟩::rest) f L N:=by
 subst hL
 have hnd: ∀w,Hp w0 (X++Y) w→(keys X).Nodup∧ ∀c,c∈keys Y→c∉keys X:=by
  intro w hw
  have:=hw.nodup
  rw[zi_,List.nodup_append] at this
  exact⟨this.1,fun c hc hx=>this.2.2 c hx c hc rfl⟩
 refine Ow.call (S:=fun B v D=>((∀c,c∈keys D→c∈keys X∨B≤c)∧(∀c,c∈keys X→c∈keys D)∧S v D)∧ ∃w,Hp w0 (X++Y) w∧w.heap.size=B) he hs hx hk (fun w hw=> ?_) ?_
 ·show Rets P k (#[]++ #[y].map (ev f)++ #[]) w _
  rw[show(#[]++ #[y].map (ev f)++ #[]:Array Value)= #[b] by simp[hy]]
  refine Calls.mono (hc w hw (fun p hp=>hw.has _ _ (List.mem_append_left _ hp)) (hnd w hw).1) ?_
  rintro e w' ⟨v,D,he,hp,hS⟩
  exact⟨v,D,he,hp,⟨hS.1.new,hS.1.all,hS.2⟩,w,hw,rfl⟩
 ·rintro B v D hab hB ⟨⟨h1,h2,h3⟩,w1,hw1,hwB⟩
  refine⟨D++Y, ?_,hn v D ⟨fun c hc=>(h1 c hc).imp id fun h=>⟨qg_ fun b hb=>by have:=hw1.lt hb;omega,by have:=hw1.size;omega⟩,h2⟩ h3⟩
  intro w w' hwb h k
  have ht:=h.trans k
  have hY: ∀c,c∈keys Y→c∉keys D:=by
   intro c hc hd
   rcases h1 c hd with hx|hx
   ·exact(hnd w h).2 c hc hx
   ·have:=h.lt (b:=c) (by rw[zi_];exact List.mem_append_right _ hc)
    omega
  have e1:X.filter (fun p=> !(keys D).contains p.1)= []:=by
   rw[List.filter_eq_nil_iff]
   intro p hp
   have:=h2 p.1 (List.mem_map.2 ⟨p,hp,rfl⟩)
   simpa using this
  have e2:Y.filter (fun p=> !(keys D).contains p.1)=Y:=q8_ hY
  rw[List.filter_append,e1,e2,List.nil_append] at ht
  refine ht.same (fun p=>by simp[or_comm]) ?_
  have:=ht.nodup
  rw[zi_] at this ⊢
  exact(List.perm_append_comm.nodup_iff).1 this
end
section
variable {P:Program} {w0:World} {f:Fr} {L:za_} {K:xs_}
theorem Cw.world {c:Code} (h: ∀w,Hp w0 L w→Cw P w0 c f L K):Cw P w0 c f L K:=fun w hw=>h w hw w hw
theorem Gr.read {E:TypeId} {m n:Nat} {v:Value} {cs:List Value} (h:Gr L E m v n cs) {b:Nat} (hb:slB v=some b) {w:World} (hw:Hp w0 L w) {o:Obj} (ho:w.heap[b]? =some o):zB_ w0 L b=some o:=by
 obtain⟨a,ha⟩:=h.at_ hb
 rw[hw.has _ _ (zF_ ha)] at ho
 rw[z6_ ha];exact ho
end
end Go.Sx
namespace Go.Sx
open Go
section
variable {α β:Type} [BEq α] [LawfulBEq α] (encK:α→Value) (encV:β→Value)
def fndG (k:α):List (α×β)→Nat→Option (Nat×β)
 | [],_=>none
 |p::r,i=>if k==p.1 then some (i,p.2) else fndG k r (i+1)
def updG (k:α) (v:β):List (α×β)→List (α×β)
 | []=> [(k,v)]
 |p::r=>if k==p.1 then(p.1,v)::r else p::updG k v r
def getG (k:α) (z:β) (m:List (α×β)):β:=match m.find? fun p=>k==p.1 with|some p=>p.2|none=>z
def Ji_ (p:α×β):Value×Value:=(encK p.1,encV p.2)
def MapG (o:Obj) (m:List (α×β)):Prop:= ∃es clock,o= .map es clock∧es.toList.map (fun e=>(e.key,e.val))=m.map (Ji_ encK encV)∧(es.toList.map (·.born)++ [clock]).Pairwise (· < ·)
structure KeyOk (P:Program) (kt:TypeId) (encK:α→Value):Prop where
 find: ∀ {β:Type} (encV:β→Value) (w:World) (k:α) (es:List MapEntry) (m:List (α×β)),es.map (fun e=>(e.key,e.val))=m.map (Ji_ encK encV)→(Instr.findKey kt (encK k) es).run P w= .ok ((fndG k m 0).map fun p=>(p.1,encV p.2)) w
 check: ∀ (w:World) (e:Bool) (k:α),(Instr.checkKey e 10000 kt (encK k)).run P w= .ok () w
 bits: ∀k,Instr.sameBits 10000 (encK k) (encK k)=true
variable {encK encV}
omit [LawfulBEq α] in
theorem WF_ {kd:TypeDesc} (hs: ∀a b,Instr.sameNow kd (encK a) (encK b)=some (a==b)) (k:α): ∀ (es:List MapEntry) (m:List (α×β)) (i:Nat),es.map (fun e=>(e.key,e.val))=m.map (Ji_ encK encV)→
  Instr.findNow kd (encK k) es i=some ((fndG k m i).map fun p=>(p.1,encV p.2))
 | [],[],i,_=>rfl
 | [],_::_,_,h=>by cases h
 |_::_,[],_,h=>by cases h
 |e::es,p::m,i,h=>by
  simp only[List.map_cons,List.cons.injEq,Ji_,Prod.mk.injEq] at h
  obtain⟨⟨h1,h2⟩,h3⟩:=h
  unfold Instr.findNow
  have hs:Instr.sameNow kd (encK k) e.key=some (k==p.1):=by rw[h1,hs]
  rw[hs]
  unfold fndG
  cases hk: (k==p.1)
  ·simp only[Bool.false_eq_true, ↓reduceIte]
   exact WF_ ‹_› k es m (i+1) h3
  ·simp[h2]
theorem Q2_ (k:α): ∀ (m:List (α×β)) (i j:Nat) (v:β),fndG k m i=some (j,v)→i≤j∧ ∃a,m[j - i]? =some (k,a)∧a=v
 | [],_,_,_,h=>by cases h
 |p::r,i,j,v,h=>by
  unfold fndG at h
  split at h
  ·rename_i hk
   cases h
   refine⟨Nat.le_refl _,p.2, ?_,rfl⟩
   rw[Nat.sub_self,List.getElem?_cons_zero,eq_of_beq hk]
  ·obtain⟨h1,a,h2,h3⟩:=Q2_ k r (i+1) j v h
   refine⟨by omega,a, ?_,h3⟩
   rw[show j - i=(j - (i+1))+1 by omega,List.getElem?_cons_succ];exact h2
theorem W9_ (k:α) (v:β): ∀ (es:List MapEntry) (m:List (α×β)) (i j:Nat) (a:β),es.map (fun e=>(e.key,e.val))=m.map (Ji_ encK encV)→fndG k m i=some (j,a)→
  (es.modify (j - i) fun e=>{e with key:=encK k,val:=encV v}).map (fun e=>(e.key,e.val))=(updG k v m).map (Ji_ encK encV)
 | [],[],_,_,_,_,h=>by cases h
 | [],_::_,_,_,_,h,_=>by cases h
 |_::_,[],_,_,_,h,_=>by cases h
 |e::es,p::m,i,j,a,h,hf=>by
  simp only[List.map_cons,List.cons.injEq,Ji_,Prod.mk.injEq] at h
  obtain⟨⟨h1,h2⟩,h3⟩:=h
  unfold fndG at hf
  unfold updG
  split at hf
  ·rename_i hk
   cases hf
   rw[if_pos hk,Nat.sub_self]
   simp only[List.modify_zero_cons,List.map_cons,Ji_,eq_of_beq hk]
   rw[h3]
  ·rename_i hk
   have hle:=(Q2_ k m (i+1) j a hf).1
   rw[if_neg hk,show j - i=(j - (i+1))+1 by omega]
   simp only[List.modify_succ_cons,List.map_cons,Ji_]
   rw[W9_ k v es m (i+1) j a h3 hf,h1,h2]
omit [LawfulBEq α] in
theorem WB_ (k:α) (v:β): ∀ (m:List (α×β)) (i:Nat),fndG k m i=none→updG k v m=m++ [(k,v)]
 | [],_,_=>rfl
 |p::r,i,h=>by
  unfold fndG at h
  split at h
  ·cases h
  ·rename_i hk
   unfold updG
   rw[if_neg hk,WB_ k v r (i+1) h];rfl
omit [LawfulBEq α] in
theorem W6_ (k:α): ∀ (m:List (α×β)) (i:Nat),(fndG k m i).map Prod.snd=(m.find? fun p=>k==p.1).map Prod.snd
 | [],_=>rfl
 |p::r,i=>by
  unfold fndG
  rw[List.find?_cons]
  cases h: (k==p.1)
  ·simp only[Bool.false_eq_true, ↓reduceIte];exact W6_ k r (i+1)
  ·rfl
theorem aj3_ {k:α} {m:List (α×β)} {es:List MapEntry} {j:Nat} {a:β} (h:es.map (fun e=>(e.key,e.val))=m.map (Ji_ encK encV)) (hf:fndG k m 0=some (j,a)): ∃e,es[j]? =some e∧e.key=encK k:=by
 obtain⟨-,a',h1,rfl⟩:=Q2_ k m 0 j a hf
 rw[Nat.sub_zero] at h1
 have:=congrArg (·[j]?) h
 simp only[List.getElem?_map,h1,Option.map_some] at this
 cases he:es[j]? with
 |none=>rw[he] at this;cases this
 |some e=>
  rw[he] at this
  simp only[Option.map_some,Option.some.injEq,Ji_,Prod.mk.injEq] at this
  exact⟨e,rfl,this.1⟩
theorem KeyOk.int {P:Program} {kt:TypeId} {k0:IntKind} (hu:P.underlying kt=some (.int k0)):KeyOk P kt vi where
 find encV w k es m h:=by
  simp only[Instr.findKey,Sem.run_bind,run_underlying hu w,Result.andThen_ok]
  rw[WF_ (encK:=vi) (fun a b=>by simp[Instr.sameNow,vi]) k es m 0 h]
  rfl
 check w e k:=by
  unfold Instr.checkKey
  simp only[Sem.run_bind,run_underlying hu w,Result.andThen_ok]
  rfl
 bits k:=by simp[vi,Instr.sameBits]
variable {P:Program} {w0:World} {f:Fr} {L:za_} {N:Fr→za_→Prop} {ops:Array Oper} {rest:List Oper} {md:Md}
 {d:Option Tmp} {ty:TypeId} {ps:String} {af:Array Edge} {g:Option (Nat×Bool)}
omit [BEq α] [LawfulBEq α] in
theorem Ow.makeMapG {t:TypeId} {md':Md} (he:md.turn=some md') (hs:zh_ ops f ⟨d, .makeMap t none,ty,ps,af,g⟩=false)
  (hn: ∀b o,j6_ L b→w0.heap.size≤b→MapG encK encV o []→Ow P w0 ops md' rest (qo_ f d (vm b)) (L++ [(b,o)]) N):
  Ow P w0 ops md (⟨d, .makeMap t none,ty,ps,af,g⟩::rest) f L N:=by
 refine Ow.step he rfl hs fun w hw=> .inl ⟨vm w.heap.size,w.alloc (.map #[] 0),_, ?_,hw.alloc _,hn _ _ (qg_ fun b hb=>hw.lt hb) hw.size ⟨#[],0,rfl,rfl,List.pairwise_singleton _ _⟩⟩
 simp only[execOp,Instr.makeMap,Sem.run_bind,Option.map_none]
 rfl
theorem Ow.mapUpdateG {t kt vt:TypeId} {x y z:Operand} {b:Nat} {o:Obj} {m:List (α×β)} {k:α} {v:β} {md':Md} (he:md.turn=some md') (hs:zh_ ops f ⟨d, .mapUpdate t x y z,ty,ps,af,g⟩=false) (hu:P.underlying t=some (.map kt vt)) (hk:KeyOk P kt encK)
  (hx:ev f x=vm b) (hy:ev f y=encK k) (hz:ev f z=encV v) (hl:look L b=some o) (hm:MapG encK encV o m)
  (hn: ∀o',MapG encK encV o' (updG k v m)→Ow P w0 ops md' rest (qo_ f d undef) (setB L b o') N):
  Ow P w0 ops md (⟨d, .mapUpdate t x y z,ty,ps,af,g⟩::rest) f L N:=by
 obtain⟨es,c,rfl,hes,hbo⟩:=hm
 refine Ow.step he rfl hs fun w hw=> ?_
 have hb:=hw.has _ _ (zF_ hl)
 have hfk:=hk.find encV w k es.toList m hes
 cases hf:fndG k m 0 with
 |none=>
  rw[hf] at hfk
  refine .inr (.inl ⟨{w with heap:=w.heap.setIfInBounds b (.map (es.push {key:=encK k,val:=encV v,born:=c}) (c+1))},_, ?_,hw.set (zu_ hl) rfl rfl rfl rfl,hn _ ⟨_,_,rfl, ?_,by rw[Array.toList_push];exact WA_ hbo rfl⟩⟩)
  ·have: (Instr.mapUpdate t (vm b) (encK k) (encV v)).run P w= .ok () {w with heap:=w.heap.setIfInBounds b (.map (es.push {key:=encK k,val:=encV v,born:=c}) (c+1))}:=by
    simp only[Instr.mapUpdate,vm,Sem.run_bind,run_underlying hu w,Result.andThen_ok,xL_ hb,hk.check,hfk,Option.map_none,v0_ hb]
   simp only[execOp,Sem.run_bind,hx,hy,hz]
   rw[this];rfl
  ·rw[WB_ k v m 0 hf,Array.toList_push,List.map_append,hes,List.map_append];rfl
 |some p=>
  obtain⟨j,a⟩:=p
  rw[hf] at hfk
  obtain⟨e,hej,hek⟩:=aj3_ hes hf
  have hej':es[j]? =some e:=by simpa using hej
  have hkt: (Instr.keyThatStays (((es[j]?).map (·.key)).getD (encK k)) (encK k)).run P w= .ok (encK k) w:=by
   rw[hej',Option.map_some,Option.getD_some,hek]
   unfold Instr.keyThatStays
   rw[if_pos (hk.bits k)];rfl
  refine .inr (.inl ⟨{w with heap:=w.heap.setIfInBounds b (.map (es.modify j fun e=>{e with key:=encK k,val:=encV v}) c)},_, ?_,hw.set (zu_ hl) rfl rfl rfl rfl,hn _ ⟨_,_,rfl, ?_,by rw[Array.toList_modify,QQ_ (g:=fun e=>{e with key:=encK k,val:=encV v}) fun _=>rfl];exact hbo⟩⟩)
  ·have: (Instr.mapUpdate t (vm b) (encK k) (encV v)).run P w= .ok () {w with heap:=w.heap.setIfInBounds b (.map (es.modify j fun e=>{e with key:=encK k,val:=encV v}) c)}:=by
    simp only[Instr.mapUpdate,vm,Sem.run_bind,run_underlying hu w,Result.andThen_ok,xL_ hb,hk.check,hfk,Option.map_some,hkt,v0_ hb]
   simp only[execOp,Sem.run_bind,hx,hy,hz]
   rw[this];rfl
  ·rw[Array.toList_modify]
   have:=W9_ k v es.toList m 0 j a hes hf
   rw[Nat.sub_zero] at this
   exact this
omit [LawfulBEq α] in
theorem Ow.mapGetG {t kt vt:TypeId} {x y:Operand} {b:Nat} {o:Obj} {m:List (α×β)} {k:α} {z:β} {md':Md} (he:md.turn=some md') (hs:zh_ ops f ⟨d, .lookup t x y false,ty,ps,af,g⟩=false) (hu:P.underlying t=some (.map kt vt)) (hk:KeyOk P kt encK)
  (hz:zK_ P vt=some (encV z)) (hx:ev f x=vm b) (hy:ev f y=encK k) (hl:zB_ w0 L b=some o) (hm:MapG encK encV o m)
  (hn:Ow P w0 ops md' rest (qo_ f d (encV (getG k z m))) L N):
  Ow P w0 ops md (⟨d, .lookup t x y false,ty,ps,af,g⟩::rest) f L N:=by
 obtain⟨es,c,rfl,hes,-⟩:=hm
 refine Ow.step he rfl hs fun w hw=> ?_
 have hb:=hw.read hl
 have hfk:=hk.find encV w k es.toList m hes
 refine .inl ⟨encV (getG k z m),w,L, ?_,hw,hn⟩
 have hff:=W6_ k m 0
 have: (Instr.lookup t (vm b) (encK k) false).run P w= .ok (encV (getG k z m)) w:=by
  cases hf:fndG k m 0 with
  |none=>
   rw[hf] at hfk hff
   have hg:getG k z m=z:=by
    unfold getG
    cases h:m.find? fun p=>k==p.1 with
    |none=>rfl
    |some q=>rw[h] at hff;cases hff
   simp only[Instr.lookup,vm,Sem.run_bind,run_underlying hu w,Result.andThen_ok,xL_ hb,Sem.run_pure,hk.check,hfk,Option.map_none,xl_ hz w,hg,Bool.false_eq_true, ↓reduceIte]
  |some p=>
   obtain⟨j,a⟩:=p
   rw[hf] at hfk hff
   have hg:getG k z m=a:=by
    unfold getG
    cases h:m.find? fun p=>k==p.1 with
    |none=>rw[h] at hff;cases hff
    |some q=>rw[h] at hff;simp only[Option.map_some,Option.some.injEq] at hff;exact hff.symm
   simp only[Instr.lookup,vm,Sem.run_bind,run_underlying hu w,Result.andThen_ok,xL_ hb,Sem.run_pure,hk.check,hfk,Option.map_some,hg,Bool.false_eq_true, ↓reduceIte]
 simp only[execOp,Sem.run_bind,hx,hy]
 rw[this];rfl
end
section
variable {P:Program} {w0:World} {f:Fr} {L:za_} {N:Fr→za_→Prop} {ops:Array Oper} {rest:List Oper} {md:Md} {d:Option Tmp} {ty:TypeId} {ps:String} {af:Array Edge} {g:Option (Nat×Bool)}
theorem Ow.callFnXC {x y:Operand} {b:Value} {cap ars:Array Value} (ha: #[b]++cap=ars) {ts:Array TypeId} {k:FuncId} {X Y:za_} {S:Value→za_→Prop} {md':Md} (hL:L=X++Y) (he:md.turn=some md')
  (hs:zh_ ops f ⟨d, .call ⟨.value x, #[y],ts⟩,ty,ps,af,g⟩=false)
  (hx:ev f x= .func (.func k) #[] cap) (hy:ev f y=b)
  (hk: ∀a w,(callFunc k a).run P w= .ok (.enter k a) w)
  (hc: ∀w,Hp w0 L w→(∀p,p∈X→w.heap[p.1]? =some p.2)→(keys X).Nodup→Rets P k ars w (XS w X S))
  (hn: ∀v D,Came w0 L X D→S v D→Ow P w0 ops md' rest (qo_ f d v) (D++Y) N):
  Ow P w0 ops md (⟨d, .call ⟨.value x, #[y],ts⟩,ty,ps,af,g⟩::rest) f L N:=by
 subst hL
 have hnd: ∀w,Hp w0 (X++Y) w→(keys X).Nodup∧ ∀c,c∈keys Y→c∉keys X:=by
  intro w hw
  have:=hw.nodup
  rw[zi_,List.nodup_append] at this
  exact⟨this.1,fun c hc hx=>this.2.2 c hx c hc rfl⟩
 refine Ow.call (S:=fun B v D=>((∀c,c∈keys D→c∈keys X∨B≤c)∧(∀c,c∈keys X→c∈keys D)∧S v D)∧ ∃w,Hp w0 (X++Y) w∧w.heap.size=B) he hs hx hk (fun w hw=> ?_) ?_
 ·show Rets P k (#[]++ #[y].map (ev f)++cap) w _
  rw[show(#[]++ #[y].map (ev f)++cap:Array Value)=ars by rw[←ha];simp[hy]]
  refine Calls.mono (hc w hw (fun p hp=>hw.has _ _ (List.mem_append_left _ hp)) (hnd w hw).1) ?_
  rintro e w' ⟨v,D,he,hp,hS⟩
  exact⟨v,D,he,hp,⟨hS.1.new,hS.1.all,hS.2⟩,w,hw,rfl⟩
 ·rintro B v D hab hB ⟨⟨h1,h2,h3⟩,w1,hw1,hwB⟩
  refine⟨D++Y, ?_,hn v D ⟨fun c hc=>(h1 c hc).imp id fun h=>⟨qg_ fun b hb=>by have:=hw1.lt hb;omega,by have:=hw1.size;omega⟩,h2⟩ h3⟩
  intro w w' hwb h k
  have ht:=h.trans k
  have hY: ∀c,c∈keys Y→c∉keys D:=by
   intro c hc hd
   rcases h1 c hd with hx|hx
   ·exact(hnd w h).2 c hc hx
   ·have:=h.lt (b:=c) (by rw[zi_];exact List.mem_append_right _ hc)
    omega
  have e1:X.filter (fun p=> !(keys D).contains p.1)= []:=by
   rw[List.filter_eq_nil_iff]
   intro p hp
   have:=h2 p.1 (List.mem_map.2 ⟨p,hp,rfl⟩)
   simpa using this
  have e2:Y.filter (fun p=> !(keys D).contains p.1)=Y:=q8_ hY
  rw[List.filter_append,e1,e2,List.nil_append] at ht
  refine ht.same (fun p=>by simp[or_comm]) ?_
  have:=ht.nodup
  rw[zi_] at this ⊢
  exact(List.perm_append_comm.nodup_iff).1 this
end
end Go.Sx
namespace Go.Sx
open Go
section
variable {P:Program} {w0:World} {l:List Oper} {R ts:List Nat} {n:Nat} {listed:List Bool} {f:Fr} {L:za_} {N:Fr→za_→Prop}
def OwG (P:Program) (w0:World) (l:List Oper) (R ts:List Nat) (n:Nat) (listed:List Bool) (f:Fr) (L:za_) (N:Fr→za_→Prop):Prop:=
 ∀w,Hp w0 L w→xv_ P l.toArray (jw_ w0 N) ts (SR w0 R L) n listed.toArray (act f) w
theorem Cw.regionG {id:Nat} {K:xs_} (R ts:List Nat) (m:Nat) (hl:l.length=m) (hm:P.follows .mixedOrders=true) (h:OwG P w0 l R ts m (List.replicate m false) f L (K .normal)):Cw P w0 (.region id l.toArray true) f L K:=by
 intro w hw
 subst hl
 refine wp_mono (wp_region_any hm ?_) fun _ _ _ h=>xJ_ h
 have:=kL_ _ _ _ _ (h _ hw.drew)
 simpa using this
def chkG (P:Program) (l:List Oper) (ts:List Nat):List Nat→List Bool→Option (List Bool)
 | [],listed=>some listed
 |k::is,listed=>
  match kC_ l k with
  |some o=>if !ts.contains k&& (ts.all fun t=> !listed.toArray.getD t true)&& (Region.ready .any l.toArray listed.toArray).contains k&&Region.free .any l.toArray listed.toArray k&&
    (j9_ P o.op|| (Xa_ o.op&&Q7_ l.toArray ts listed.toArray k)) then chkG P l ts is (listed.set k true) else none
  |none=>none
theorem OwG.step {k:Nat} {o:Oper} {v:Value} (hns:Region.noSelect l.toArray=true) (hk:kC_ l k=some o) {rest:List Bool} (hc:chkG P l ts [k] listed=some rest)
  (hY:YieldsC P l.toArray (SR w0 R L) (j9_ P o.op=true) o v (act f)) (h:OwG P w0 l R ts n rest (qo_ f o.dst v) L N):OwG P w0 l R ts (n+1) listed f L N:=by
 have hoi:l.toArray[k]? =some o:=by rw[j5_] at hk;simpa using hk
 unfold chkG at hc
 rw[hk] at hc
 simp only at hc
 split at hc
 ·rename_i hcc
  simp only[chkG,Option.some.injEq] at hc
  subst hc
  simp only[Bool.and_eq_true,Bool.or_eq_true,Bool.not_eq_true',List.all_eq_true,List.contains_eq_mem,decide_eq_true_eq,decide_eq_false_iff_not] at hcc
  obtain⟨⟨⟨⟨c2,c3⟩,c4⟩,c5⟩,c9⟩:=hcc
  have hsel:=Region.noSelect_spec hns
  intro w hw
  refine k9_ hoi c2 hsel (fun c a w h=>zT_ h) _ _ _ _ (xC_ (P:=P) hoi c4 c5 (c9.imp id fun h=>⟨h.1,h.2,fun t ht=>c3 t ht⟩)) (.inr fun t ht=>c3 t ht) hY ?_
  rw[zZ_,qc_]
  exact h w hw
 ·cases hc
theorem afE_ {k:Nat} {is:List Nat} {listed listed':List Bool} (h:chkG P l ts (k::is) listed=some listed'):chkG P l ts [k] listed=some (listed.set k true)∧chkG P l ts is (listed.set k true)=some listed':=by
 rw[chkG] at h
 cases ho:kC_ l k with
 |none=>rw[ho] at h;cases h
 |some o=>
  rw[ho] at h
  simp only at h
  split at h
  ·rename_i hcc
   refine⟨?_,h⟩
   rw[chkG,ho]
   simp only
   rw[if_pos hcc];rfl
  ·cases h
theorem OwG.runs {k:Md→List Oper→Fr→za_→Prop} (hns:Region.noSelect l.toArray=true): ∀ (is:List Nat) {listed listed':List Bool} {f:Fr} {L:za_},chkG P l ts is listed=some listed'→
  (∀md r f' L',k md r f' L'→r= []∧OwG P w0 l R ts n listed' f' L' N)→vcL P w0 l.toArray false (.sof R [] []) (xr_ l is) f L k→OwG P w0 l R ts (is.length+n) listed f L N
 | [],listed,listed',f,L,hc,hk,h=>by
  cases hc
  rw[List.length_nil,Nat.zero_add]
  exact(hk _ _ _ _ h).2
 |i::is,listed,listed',f,L,hc,hk,h=>by
  obtain⟨hc1,hc2⟩:=afE_ hc
  rw[zc_] at h
  cases ho:kC_ l i with
  |none=>unfold chkG at hc1;rw[ho] at hc1;cases hc1
  |some o=>
   rw[ho,zb_] at h
   unfold vcL at h
   rw[List.length_cons,show is.length+1+n=(is.length+n)+1 by omega]
   cases hs:zh_ l.toArray f o with
   |true=>
    rw[hs] at h
    have hw0:Region.wanted o (yielded l.toArray (act f).tmps)=false:=by rw[qd_,hs];rfl
    exact OwG.step hns ho hc1 (v:=undef) (.inr ⟨hw0,rfl⟩) (OwG.runs hns is hc2 hk h)
   |false=>
    rw[hs] at h
    have hw0:Region.wanted o (yielded l.toArray (act f).tmps)=true:=by rw[qd_,hs];rfl
    simp only[ib,vcB] at h
    split at h
    ·cases hrd:KC_ (.sof R [] []) f o.op with
     |false=>rw[hrd] at h;exact absurd (hk _ _ _ _ h).1 (by simp)
     |true=>
      rw[hrd] at h
      simp only at h
      cases hv:kp_ P w0 L f o.op with
      |none=>rw[hv] at h;exact absurd (hk _ _ _ _ h).1 (by simp)
      |some v=>
       rw[hv] at h
       refine OwG.step hns ho hc1 (v:=v) (.inl ⟨hw0,fun w hw=> ?_⟩) (OwG.runs hns is hc2 hk h)
       rw[jt_]
       rcases hw with hp|hw
       ·exact qU_ (Hp.refl w) (xM_ hp hv w)
       ·exact qU_ (Hp.refl w) (wG_ hrd hv hw)
    ·exact absurd (hk _ _ _ _ h).1 (by simp)
    ·exact absurd (hk _ _ _ _ h).1 (by simp)
theorem OwG.run (is:List Nat) (listed':List Bool) (n:Nat) {m:Nat} (hm:m=is.length+n) (hns:Region.noSelect l.toArray=true) (hc:chkG P l ts is listed=some listed')
  (h: ∀k:Md→List Oper→Fr→za_→Prop,(∀md f L,OwG P w0 l R ts n listed' f L N→k md [] f L)→nl (xr_ l is) fun l'=>vcL P w0 l.toArray false (.sof R [] []) l' f L k):OwG P w0 l R ts m listed f L N:=by
 subst hm
 refine OwG.runs (k:=fun _ r f' L'=>r= []∧OwG P w0 l R ts n listed' f' L' N) hns is hc (fun _ _ _ _ h=>h) ?_
 exact h _ fun _ _ _ h=>⟨rfl,h⟩
def adk_ (l:List Oper) (ts:List Nat) (ks:List Nat) (listed:List Bool):Bool:=
 ((Region.ready .any l.toArray listed.toArray).all fun i=>ks.contains i)&& (Region.ready .any l.toArray listed.toArray != [])&&ks.all fun k=> !ts.contains k
theorem OwG.softs (ks:List Nat) (hs:adk_ l ts ks listed=true)
  (h: ∀k,k∈ks→ ∀o,kC_ l k=some o→Ow P w0 l.toArray .seq [o] f L (fun f' L'=>(∀r,r∈R→zB_ w0 L' r=zB_ w0 L r)∧OwG P w0 l R ts n (listed.set k true) f' L' N)):
  OwG P w0 l R ts (n+1) listed f L N:=by
 unfold adk_ at hs
 simp only[Bool.and_eq_true,List.all_eq_true,bne_iff_ne,ne_eq,List.contains_eq_mem,decide_eq_true_eq,Bool.not_eq_true',decide_eq_false_iff_not] at hs
 obtain⟨⟨c3,c4⟩,c6⟩:=hs
 intro w hw
 refine⟨fun _=>SR.of hw,fun hr=>absurd hr c4,fun i hi=> ?_⟩
 have hik:=c3 i hi
 obtain⟨-,oi,hoi,-⟩:=mem_ready.1 hi
 have hni:kC_ l i=some oi:=by rw[j5_];simpa using hoi
 refine wA_ hoi (X:=xv_ P l.toArray (jw_ w0 N) ts (SR w0 R L) n (listed.toArray.setIfInBounds i true)) ?_ hw
 intro w' hw'
 have h1:=h i hik oi hni w' hw'
 refine kg_ ?_ h1
 rintro f' L' ⟨hS,hO⟩ w'' hw''
 rw[vZ_ hS,qc_]
 exact hO w'' hw''
theorem OwG.one (i:Nat) (oi:Oper) (hs:adk_ l ts [i] listed=true) (hi:kC_ l i=some oi)
  (h:Ow P w0 l.toArray .seq [oi] f L (fun f' L'=>(∀r,r∈R→zB_ w0 L' r=zB_ w0 L r)∧OwG P w0 l R ts n (listed.set i true) f' L' N)):OwG P w0 l R ts (n+1) listed f L N:=
 OwG.softs [i] hs fun k hk o ho=>by
  rw[List.mem_singleton] at hk
  subst hk
  rw[hi] at ho
  cases ho
  exact h
theorem OwG.two (i j:Nat) (oi oj:Oper) (hs:adk_ l ts [i,j] listed=true) (hi:kC_ l i=some oi) (hj:kC_ l j=some oj)
  (h1:Ow P w0 l.toArray .seq [oi] f L (fun f' L'=>(∀r,r∈R→zB_ w0 L' r=zB_ w0 L r)∧OwG P w0 l R ts n (listed.set i true) f' L' N))
  (h2:Ow P w0 l.toArray .seq [oj] f L (fun f' L'=>(∀r,r∈R→zB_ w0 L' r=zB_ w0 L r)∧OwG P w0 l R ts n (listed.set j true) f' L' N)):OwG P w0 l R ts (n+1) listed f L N:=
 OwG.softs [i,j] hs fun k hk o ho=>by
  simp only[List.mem_cons,List.not_mem_nil,or_false] at hk
  rcases hk with rfl|rfl
  ·rw[hi] at ho;cases ho;exact h1
  ·rw[hj] at ho;cases ho;exact h2
theorem OwG.permL {M:za_} (hp:M.Perm L) (hR: ∀r,r∈R→zB_ w0 M r=zB_ w0 L r) (h:OwG P w0 l R ts n listed f M N):OwG P w0 l R ts n listed f L N:=by
 intro w hw
 rw[vZ_ hR]
 exact h w (hw.perm hp)
def anQ_ (P:Program) (l:List Oper) (is ts:List Nat) (listed:List Bool):Bool:=
 Region.noSelect l.toArray&&Qm_ P l.toArray ts is listed.toArray&&ts.all fun t=> !listed.toArray.getD t true
theorem OwG.rest (is:List Nat) {m:Nat} (hm:m=is.length) (hB:anQ_ P l is ts listed=true) (hl:is.map (fun i:Nat=>l[i]?)=(xr_ l is).map some)
  (h:nl (xr_ l is) fun l'=>Ow P w0 l.toArray (.sof R is ts) l' f L N):OwG P w0 l R ts m listed f L N:=by
 subst hm
 revert hl h
 generalize xr_ l is=l'
 intro hl h w hw
 simp only[anQ_,Bool.and_eq_true,List.all_eq_true,Bool.not_eq_true'] at hB
 obtain⟨⟨h1,h4⟩,h5⟩:=hB
 have hlen:is.length=l'.length:=by have:=congrArg List.length hl;simpa using this
 have hF:Fits P l.toArray ts is l' listed.toArray:=⟨hlen,fun j=>by
  have:=congrArg (·[j]?) hl
  simp only[List.getElem?_map] at this
  cases hj:is[j]? with
  |none=>
   rw[hj] at this
   simp only[Option.map_none] at this
   cases hj':l'[j]? with
   |none=>rfl
   |some x=>rw[hj'] at this;cases this
  |some i=>
   rw[hj] at this
   simp only[Option.map_some] at this
   cases hj':l'[j]? with
   |none=>rw[hj'] at this;cases this
   |some x=>
    rw[hj'] at this
    simp only[Option.map_some,Option.some.injEq] at this
    simp[this],h1,h4⟩
 rw[hlen]
 exact(h:Ow P w0 l.toArray (.sof R is ts) l' f L N) listed.toArray hF (fun t ht=>h5 t ht) w hw
end
def CutO {G:Type} (M:List Nat) (S:G→List (Nat×Value)) (H:G→za_) (J:G→Prop) (f f':Fr) (L':za_):Prop:=
 ∃g,J g∧L'=H g∧f'=pin (qF_ (wk_ f') M 0 f) (S g)
theorem CutO.mk {G:Type} {M:List Nat} {S:G→List (Nat×Value)} {H:G→za_} {J:G→Prop} {f f':Fr} {L':za_} (g:G) (hJ:J g) (hL:L'=H g) (hf:f'=pin (qF_ (wk_ f') M 0 f) (S g)):CutO M S H J f f' L':=⟨g,hJ,hL,hf⟩
theorem Cw.cutO {P:Program} {w0:World} {x y:Code} {f:Fr} {L:za_} {K:xs_} {G:Type} (M:List Nat) (S:G→List (Nat×Value)) (H:G→za_) (J:G→Prop) (h1:Cw P w0 x f L (vR_ (CutO M S H J f) K))
  (h2: ∀ (g:G) (j:Nat→Value),J g→Cw P w0 y (pin (qF_ j M 0 f) (S g)) (H g) K):Cw P w0 (.seq x y) f L K:=by
 refine Cw.seq (h1.mono fun e f' L' k=> ?_)
 cases e with
 |normal=>
  obtain⟨g,hJ,rfl,hf⟩:=k
  have:=h2 g (wk_ f') hJ
  rw[←hf] at this
  exact this
 |_=>exact k
end Go.Sx
section
open Go Go.Proofs Go.Sx Go.StP
namespace Go.Proofs
set_option maxRecDepth 10000
set_option maxHeartbeats 1000000
set_option linter.unusedSimpArgs false
theorem Qx_ (s:List UInt8) (v1:Value) (F:List Nat) (n d:Nat) (hd:d<F.length):zo_ (some (false,n)) (some (ixO s v1 F)) (2+d)=some (vi ((F.getD d 0:Nat):Int)):=by
 unfold ixO zo_
 simp only[List.getElem?_toArray]
 rw[List.getElem?_append_right (by simp),show 2+d - [vs s,v1].length=d from by simp,List.getElem?_map,List.getElem?_eq_getElem hd,List.getD_eq_getElem?_getD,List.getElem?_eq_getElem hd]
 rfl
theorem afs_ (s:List UInt8) (v1:Value) (F:List Nat) (d x:Nat) (a:Bool) (hd:d<F.length):zl_ (some (a,1)) (some (ixO s v1 F)) (2+d) (vi (x:Int))=some (ixO s v1 (F.set d x)):=by
 have e1: ([vs s,v1]++ (F.map fun(n:Nat)=>vi (n:Int)))=([vs s,v1]++ (F.take d).map (fun(n:Nat)=>vi (n:Int)))++ ([vi ((F.getD d 0:Nat):Int)]++ (F.drop (d+1)).map (fun(n:Nat)=>vi (n:Int))):=by
  have hF:F=F.take d++ (F.getD d 0::F.drop (d+1)):=by rw[←jT_ (z:=0) hd,List.take_append_drop]
  conv=>lhs;rw[hF]
  simp
 have e2: ([vs s,v1]++ ((F.set d x).map fun(n:Nat)=>vi (n:Int)))=([vs s,v1]++ (F.take d).map (fun(n:Nat)=>vi (n:Int)))++ ([vi (x:Int)]++ (F.drop (d+1)).map (fun(n:Nat)=>vi (n:Int))):=by
  rw[List.set_eq_take_append_cons_drop,if_pos hd]
  simp
 unfold ixO
 rw[e1,e2]
 exact z4_ _ [vi ((F.getD d 0:Nat):Int)] [vi (x:Int)] _ a _ 178 (by simp;omega) rfl rfl rfl rfl
theorem zrIx:zK_ Tryz.prog 178=some (.agg ([vs [], .slice none 0 0]++ (List.replicate 16 0).map fun(n:Nat)=>vi (n:Int)).toArray):=id (by kernel_rfl)
theorem ao5_:vo_ Tryz.prog 178=some [(0,1),(1,1),(2,16)]:=id (by kernel_rfl)
theorem ajS_ {w:World} {v1:Value} {l:List RwL} (s:List UInt8) (hv:RwSl w v1 l):qV_ (vo_ Tryz.prog 178) (zK_ Tryz.prog 178) [(0,vs s),(1,v1)]=some (.agg ([vs s,v1]++ (x9_ []).map fun(n:Nat)=>vi (n:Int)).toArray):=by
 rw[ao5_,zrIx]
 obtain⟨b,off,c,arr,E,fz,hr,hc,⟨rfl,rfl,rfl⟩ | ⟨rfl,hb,hsz⟩⟩:=hv<;>rfl
theorem api_ (s:List UInt8) (v1:Value) (F:List Nat):Obj.cells (Value.cells (.agg ([vs s,v1]++F.map fun(n:Nat)=>vi (n:Int)).toArray)) 178 (0,0)=ixO s v1 F:=(rfl)
theorem WN_ {l:List RwL} {k:Nat}: ∀ {n:Nat},k<n→wQ_ l n=true→wQ_ l (k+1)=true
 |0,h,_=>by omega
 |n+1,h,h'=>by
  by_cases hk:k=n
  ·subst hk;exact h'
  ·refine WN_ (n:=n) (by omega) ?_
   unfold wQ_ at h'
   simp only[Bool.and_eq_true] at h'
   exact h'.1.1
def OfIS (s:List UInt8) (v1:Value) (l:List RwL) (v:Value) (D:za_):Prop:=
 if wQ_ l l.length=true then∃b,v= .tuple #[vp b 0, .bool (decide (s.length=4)&&decide (l.length≤200))]∧(b,ixO s v1 (x9_ l))∈D else v= .tuple #[.pointer none, .bool false]
structure OfG where
 k:Nat
 DG:za_
set_option linter.defProp false
def zH_:=And.intro (And.intro (And.intro (@zg_) (@zf_)) (And.intro (@qR_) (And.intro (@kw_) (@vY_)))) (And.intro (And.intro (@wX_) (@wR_)) (And.intro (@ju_) (And.intro (@Sx.tup2_0) (@Sx.tup2_1))))
theorem acV_ (s:List UInt8) (v1:Value) (l:List RwL) (w:World) (hv:RwSl w v1 l) (hl:l.length<1000000):
  Rets Tryz.prog 110 #[vs s,v1] w (XS w [] (OfIS s v1 l)):=by
 obtain⟨bb,off,arr,E,fz,hr⟩:=hv.row
 have ln:=hv.len
 refine Rets.enterX Tryz.func110 rfl (rs:= [.tmp 4, .tmp 5]) Tryz.results110 Tryz.ntmps110 (fun p hp=>by cases hp) (by simp[keys]) ?_
 refine kf ?_
 first|with_reducible refine ks [] @zH_ ?_|refine kp @zH_ ?_
 refine Ow.build _ rfl (ajS_ s hv) ?_
 refine ko @zH_ ?_
 refine Ow.box rfl rfl fun b6 hb6 hw6=> ?_
 simp only[qy_,qr_,qs_,api_,List.nil_append]
 refine Ow.permL (M:= [(b6,ixO s v1 (x9_ []))]) (List.Perm.refl _) ?_
 refine ko @zH_ ?_
 first|with_reducible refine ks [] (And.intro @zH_ @ln) ?_|refine kp (And.intro @zH_ @ln) ?_
 rw[show x9_ []=x9_ (l.take 0) from rfl]
 refine Cw.loopG (G:=OfG) [17,18,19,20,8,7,21,22,23,24,25,26,27,28,29,30,31,32,33,34,35,36,37,38,39,40,41,42,43,44,45,46,47,48,49,50,51,52,4,5,53,54,55,9,56,57,60,61,62,63,64,65,66,67,68,69,58,59,70,16] (fun g=> [(16,vi g.k)]) (fun g=>(b6,ixO s v1 (x9_ (l.take g.k)))::g.DG) (fun g=>g.k≤l.length∧wQ_ l g.k=true∧New w.heap.size g.DG) (fun g=>l.length - g.k) ⟨0,[]⟩ rfl rfl ?_ ?_
 ·exact⟨Nat.zero_le _,rfl,trivial⟩
 intro g j hg
 refine kv ?_
 obtain⟨k,DG⟩:=g
 simp only at hg ⊢
 obtain⟨hk,hok,hNG⟩:=hg
 by_cases hlt:k<l.length
 ·have d1:decide ((k:Int)< (l.length:Int))=true:=decide_eq_true (by omega)
  have hbl:=hr.lt (by omega)
  have hNr:New w.heap.size ((b6,ixO s v1 (x9_ (l.take k)))::DG):=⟨hw6,hNG⟩
  have rd:zB_ w ((b6,ixO s v1 (x9_ (l.take k)))::DG) bb=some (.cells arr E fz):=by rw[q9_ (hNr.not hbl)];exact hr.has (by omega)
  have ix:=hr.idx true k hlt
  have ld:=hr.load zG_ (by omega) hlt
  first|with_reducible refine ks [11,1000005] (And.intro @zH_ (And.intro @d1 (And.intro @rd (And.intro @ix (@ld))))) ?_|refine kp (And.intro @zH_ (And.intro @d1 (And.intro @rd (And.intro @ix (@ld))))) ?_
  refine Ow.alloc rfl rfl Vq_ fun b8 hb8 hw8=> ?_
  simp only[zd_,List.nil_append,List.cons_append]
  have h68:b6<b8:=zm_ hb8 (by simp[keys])
  refine Ow.permL (M:=(b8, .cells (rwC rw0).toArray 104 (0,0)):: (b6,ixO s v1 (x9_ (l.take k)))::DG) (by classical exact List.perm_iff_count.2 fun a=>by simp only[List.count_append,List.count_cons,List.count_nil]<;>omega) ?_
  have htk:l.take (k+1)=l.take k++ [l.getD k rw0]:=take_snoc (z:=rw0) hlt
  have hok1:wQ_ l (k+1)=((decide (k=0) ||decide (cmpI (l.getD (k - 1) rw0).id (l.getD k rw0).id<0))&&jA_ (l.getD k rw0)):=by show(wQ_ l k&&_&&_)=_;rw[hok,Bool.true_and]
  have hno:wQ_ l (k+1)=false→ ¬wQ_ l l.length=true:=fun h h'=>by rw[WN_ hlt h'] at h;cases h
  generalize hrr:l.getD k rw0=r at*
  have hN8:New w.heap.size ((b8,Obj.cells (rwC r).toArray 104 (0,0)):: (b6,ixO s v1 (x9_ (l.take k)))::DG):=⟨hw8,hNr⟩
  have rd8:zB_ w ((b8,Obj.cells (rwC r).toArray 104 (0,0)):: (b6,ixO s v1 (x9_ (l.take k)))::DG) bb=some (.cells arr E fz):=by rw[q9_ (hN8.not hbl)];exact hr.has (by omega)
  refine ko @zH_ ?_
  refine Cw.cutO (G:=Unit) [21,22,23,24,25,26,27,28,29,30,31,32,33,34,35,36,37,38,39,40,41,42,43,44,45,46,47,48,49,50,51,52] (fun g=> []) (fun g=>(b8, .cells (rwC r).toArray 104 (0,0)):: (b6,ixO s v1 (x9_ (l.take k)))::DG) (fun g=>wQ_ l (k+1)=true) ?_ ?_
  ·rcases Nat.eq_zero_or_pos k with rfl|hk0
   ·have d5:decide ((0:Int)< ((0:Nat):Int))=false:=rfl
    have hok2:wQ_ l (0+1)=jA_ r:=by rw[hok1,decide_eq_true (rfl:0=0),Bool.true_or,Bool.true_and]
    first|with_reducible refine ks [] @zH_ ?_|refine kp @zH_ ?_
    refine Cw.regionS [b8,bb] [0,1,2,3,4,5,6,7,8,9,10,11,12,13,14,15,16,17,18,19,20,21,22,23,24,25,26,27,28,29,30,31] [] (by kernel_rfl) (by kernel_rfl) (by kernel_rfl) ?_
    simp only[zk_, ↓ze_, ↓zc_, ↓zt_, ↓zs_,zb_]
    cases p1:decide (r.place<0) with
    |true=>
     have hbad:=hok2.trans (show jA_ r=false by simp[jA_,p1])
     refine kq (And.intro @zH_ (And.intro @d5 (@p1))) ?_
     first|with_reducible refine ks [] @zH_ ?_|refine kp @zH_ ?_
     refine⟨_,(ke @zH_), ?_⟩
     refine⟨Ext.of_new hN8, ?_⟩
     unfold OfIS
     rw[if_neg (hno hbad)]
     rfl
    |false=>
     cases p2:decide (1099511627775<r.place) with
     |true=>
      have hbad:=hok2.trans (show jA_ r=false by simp[jA_,p2])
      refine kq (And.intro @zH_ (And.intro @d5 (And.intro @p1 (@p2)))) ?_
      first|with_reducible refine ks [] @zH_ ?_|refine kp @zH_ ?_
      refine⟨_,(ke @zH_), ?_⟩
      refine⟨Ext.of_new hN8, ?_⟩
      unfold OfIS
      rw[if_neg (hno hbad)]
      rfl
     |false=>
      cases p3:decide (r.spot<0) with
      |true=>
       have hbad:=hok2.trans (show jA_ r=false by simp[jA_,p3])
       refine kq (And.intro @zH_ (And.intro @d5 (And.intro @p1 (And.intro @p2 (@p3))))) ?_
       first|with_reducible refine ks [] @zH_ ?_|refine kp @zH_ ?_
       refine⟨_,(ke @zH_), ?_⟩
       refine⟨Ext.of_new hN8, ?_⟩
       unfold OfIS
       rw[if_neg (hno hbad)]
       rfl
      |false=>
       cases p4:decide (1099511627775<r.spot) with
       |true=>
        have hbad:=hok2.trans (show jA_ r=false by simp[jA_,p4])
        refine kq (And.intro @zH_ (And.intro @d5 (And.intro @p1 (And.intro @p2 (And.intro @p3 (@p4)))))) ?_
        first|with_reducible refine ks [] @zH_ ?_|refine kp @zH_ ?_
        refine⟨_,(ke @zH_), ?_⟩
        refine⟨Ext.of_new hN8, ?_⟩
        unfold OfIS
        rw[if_neg (hno hbad)]
        rfl
       |false=>
        refine kq (And.intro @zH_ (And.intro @d5 (And.intro @p1 (And.intro @p2 (And.intro @p3 (@p4)))))) ?_
        exact CutO.mk () (by rw[hok2];simp[jA_,p1,p2,p3,p4]) rfl rfl
   ·have d5:decide ((0:Int)< (k:Int))=true:=decide_eq_true (by omega)
    have hki: (k:Int) - 1=((k - 1:Nat):Int):=by omega
    have ix':=hr.idx true (k - 1) (by omega)
    have ld':=hr.load zG_ (by omega) (k:=k - 1) (by omega)
    rw[decide_eq_false (show¬k=0 by omega),Bool.false_or] at hok1
    first|with_reducible refine ks [] @zH_ ?_|refine kp @zH_ ?_
    refine Cw.regionS [b8,bb] [0,1,2,3,4,5,6,7,8,9,10,11,12,13,14,15,16,17,18,19,20,21,22,23,24,25,26,27,28,29,30,31] [] (by kernel_rfl) (by kernel_rfl) (by kernel_rfl) ?_
    simp only[zk_, ↓ze_, ↓zc_, ↓zt_, ↓zs_,zb_]
    refine kq (And.intro @zH_ (And.intro @d5 (And.intro @hki (And.intro @ix' (And.intro @ld' (@rd8)))))) ?_
    refine Ow.soft rfl rfl rfl ?_
    refine Ow.callFV rfl Tryz.call109 (fun w' hw'=>XY_ (l.getD (k - 1) rw0) r w') ?_
    with_reducible refine Ow.nil ?_
    refine⟨by intro b hb;simp only[List.mem_cons,List.not_mem_nil,or_false] at hb;(try subst hb);rfl, ?_⟩
    generalize cmpI (l.getD (k - 1) rw0).id r.id=c at*
    by_cases hc:c<0
    ·have d6:decide (0≤c)=false:=decide_eq_false (by omega)
     have hok2:wQ_ l (k+1)=jA_ r:=by rw[hok1,decide_eq_true hc,Bool.true_and]
     cases p1:decide (r.place<0) with
     |true=>
      have hbad:=hok2.trans (show jA_ r=false by simp[jA_,p1])
      refine kq (And.intro @zH_ (And.intro @d6 (@p1))) ?_
      first|with_reducible refine ks [] @zH_ ?_|refine kp @zH_ ?_
      refine⟨_,(ke @zH_), ?_⟩
      refine⟨Ext.of_new hN8, ?_⟩
      unfold OfIS
      rw[if_neg (hno hbad)]
      rfl
     |false=>
      cases p2:decide (1099511627775<r.place) with
      |true=>
       have hbad:=hok2.trans (show jA_ r=false by simp[jA_,p2])
       refine kq (And.intro @zH_ (And.intro @d6 (And.intro @p1 (@p2)))) ?_
       first|with_reducible refine ks [] @zH_ ?_|refine kp @zH_ ?_
       refine⟨_,(ke @zH_), ?_⟩
       refine⟨Ext.of_new hN8, ?_⟩
       unfold OfIS
       rw[if_neg (hno hbad)]
       rfl
      |false=>
       cases p3:decide (r.spot<0) with
       |true=>
        have hbad:=hok2.trans (show jA_ r=false by simp[jA_,p3])
        refine kq (And.intro @zH_ (And.intro @d6 (And.intro @p1 (And.intro @p2 (@p3))))) ?_
        first|with_reducible refine ks [] @zH_ ?_|refine kp @zH_ ?_
        refine⟨_,(ke @zH_), ?_⟩
        refine⟨Ext.of_new hN8, ?_⟩
        unfold OfIS
        rw[if_neg (hno hbad)]
        rfl
       |false=>
        cases p4:decide (1099511627775<r.spot) with
        |true=>
         have hbad:=hok2.trans (show jA_ r=false by simp[jA_,p4])
         refine kq (And.intro @zH_ (And.intro @d6 (And.intro @p1 (And.intro @p2 (And.intro @p3 (@p4)))))) ?_
         first|with_reducible refine ks [] @zH_ ?_|refine kp @zH_ ?_
         refine⟨_,(ke @zH_), ?_⟩
         refine⟨Ext.of_new hN8, ?_⟩
         unfold OfIS
         rw[if_neg (hno hbad)]
         rfl
        |false=>
         refine kq (And.intro @zH_ (And.intro @d6 (And.intro @p1 (And.intro @p2 (And.intro @p3 (@p4)))))) ?_
         exact CutO.mk () (by rw[hok2];simp[jA_,p1,p2,p3,p4]) rfl rfl
    ·have d6:decide (0≤c)=true:=decide_eq_true (by omega)
     have hbad:wQ_ l (k+1)=false:=by rw[hok1,decide_eq_false hc,Bool.false_and]
     refine kq (And.intro @zH_ @d6) ?_
     first|with_reducible refine ks [] @zH_ ?_|refine kp @zH_ ?_
     refine⟨_,(ke @zH_), ?_⟩
     refine⟨Ext.of_new hN8, ?_⟩
     unfold OfIS
     rw[if_neg (hno hbad)]
     rfl
  ·intro u ju hu
   refine kv ?_
   first|with_reducible refine ks [] @zH_ ?_|refine kp @zH_ ?_
   refine Ow.callFV rfl Tryz.call118 (fun w' hw'=>Jm_ r.id w') ?_
   refine ko @zH_ ?_
   rw[←an4_ (l.take k) r]
   refine Cw.loopG (G:=Nat) [56,57,60,61,62,63,64,65,66,67,68,69,58,59,9] (fun g=> [(9,vi g)]) (fun g=>(b8, .cells (rwC r).toArray 104 (0,0)):: (b6,ixO s v1 (VB_ (l.take k) r g))::DG) (fun g=>zV_ r.id≤g∧g≤16) (fun g=>16 - g) (zV_ r.id) rfl rfl ?_ ?_
   ·exact⟨Nat.le_refl _,Nat.le_of_lt (acR_ _)⟩
   intro g j hg
   refine kv ?_
   obtain⟨hg1,hg2⟩:=hg
   by_cases hgl:g<16
   ·have d7:decide ((g:Int)<16)=true:=decide_eq_true (by omega)
    have lf:=fun n=>Qx_ s v1 (VB_ (l.take k) r g) n g (by rw[QJ_];exact hgl)
    rw[aix_ _ _ hgl] at lf
    have h86:b8≠b6:=by omega
    have sf:=fun a=>afs_ s v1 (VB_ (l.take k) r g) g (kA_ (l.take k) g+1) a (by rw[QJ_];exact hgl)
    rw[aiV_ _ _ hgl hg1,show((kA_ (l.take k) g+1:Nat):Int)=((kA_ (l.take k) g:Nat):Int)+1 by omega] at sf
    have hfv:kA_ (l.take k) g≤k:=by
     have h1:kA_ (l.take k) g≤ (l.take k).length:=List.countP_le_length
     rw[List.length_take] at h1
     omega
    first|with_reducible refine ks [] (And.intro @zH_ @d7) ?_|refine kp (And.intro @zH_ @d7) ?_
    refine Cw.regionS [b6] [0,1,2,3,4,7,8,5,6,9,10] [10] (by kernel_rfl) (by kernel_rfl) (by kernel_rfl) ?_
    simp only[zk_, ↓ze_, ↓zc_, ↓zt_, ↓zs_,zb_]
    refine kq (And.intro @zH_ @lf) ?_
    refine Ow.store rfl rfl rfl (ke (And.intro @zH_ @sf)) ?_
    refine ko @zH_ ?_
    first|with_reducible refine ks [] @zH_ ?_|refine kp @zH_ ?_
    exact Again.mk (G:=Nat) (g+1) (by show 16 - (g+1)<16 - g;omega) ⟨by omega,by omega⟩ rfl rfl
   ·obtain rfl:g=16:=by omega
    have d7:decide (((16:Nat):Int)<16)=false:=rfl
    rw[al8_,←htk]
    first|with_reducible refine ks [] @zH_ ?_|refine kp @zH_ ?_
    refine Cw.permL (M:=(b6,ixO s v1 (x9_ (l.take (k+1)))):: (b8, .cells (rwC r).toArray 104 (0,0))::DG) (by classical exact List.perm_iff_count.2 fun a=>by simp only[List.count_append,List.count_cons,List.count_nil]<;>omega) ?_
    first|with_reducible refine ks [] @zH_ ?_|refine kp @zH_ ?_
    exact Again.mk ⟨k+1,(b8, .cells (rwC r).toArray 104 (0,0))::DG⟩ (by show l.length - (k+1)<l.length - k;omega) ⟨hlt,hu,hw8,hNG⟩ rfl rfl
 ·obtain rfl:k=l.length:=by omega
  have d1:decide ((l.length:Int)< (l.length:Int))=false:=decide_eq_false (by omega)
  rw[List.take_length]
  by_cases h4:s.length=4
  ·have d2: ((s.length:Int)==4)=true:=by rw[h4];rfl
   first|with_reducible refine ks [] (And.intro @zH_ (And.intro @d1 (And.intro @d2 (@ln)))) ?_|refine kp (And.intro @zH_ (And.intro @d1 (And.intro @d2 (@ln)))) ?_
   refine⟨_,(ke @zH_), ?_⟩
   refine⟨Ext.of_new ⟨hw6,hNG⟩, ?_⟩
   unfold OfIS
   rw[if_pos hok]
   refine⟨b6, ?_,List.mem_cons_self⟩
   have e:decide ((l.length:Int)≤200)=decide (l.length≤200):=decide_eq_decide.2 (by omega)
   rw[decide_eq_true h4,Bool.true_and,←e];rfl
  ·have d2: ((s.length:Int)==4)=false:=beq_eq_false_iff_ne.2 (by omega)
   first|with_reducible refine ks [] (And.intro @zH_ (And.intro @d1 (And.intro @d2 (@ln)))) ?_|refine kp (And.intro @zH_ (And.intro @d1 (And.intro @d2 (@ln)))) ?_
   refine⟨_,(ke @zH_), ?_⟩
   refine⟨Ext.of_new ⟨hw6,hNG⟩, ?_⟩
   unfold OfIS
   rw[if_pos hok]
   exact⟨b6,by rw[decide_eq_false h4,Bool.false_and];rfl,List.mem_cons_self⟩
end Go.Proofs
end
section
open Go Go.Proofs Go.Sx Go.StP
namespace Go.Proofs
set_option maxRecDepth 10000
set_option maxHeartbeats 4000000
set_option linter.unusedSimpArgs false
structure ComL where
 tree:IdL
 par:List IdL
 text:List UInt8
def v3_ (t:IdL) (p:Value) (x:List UInt8):List Value:=t.l.map v8++ ([p]++ [vs x])
theorem adt_ (t:IdL) (p:Value) (x:List UInt8): (v3_ t p x).length=34:=by simp[v3_,t.h]
theorem xN_ (t:IdL) (p:Value) (x:List UInt8):Value.cells (.agg (v3_ t p x).toArray)=(v3_ t p x).toArray:=zd_ _
theorem vB_ (t:IdL) (p:Value) (x:List UInt8) (E:TypeId) (fz:Nat×Nat):zo_ (some (true,32)) (some (.cells (v3_ t p x).toArray E fz)) 0=some (.agg (a8 t.l)):=by
 unfold v3_;exact wd_ [] _ _ E fz rfl (by simp[t.h])
theorem vz_ (t:IdL) (p:Value) (x:List UInt8) (n:Nat) (E:TypeId) (fz:Nat×Nat):zo_ (some (false,n)) (some (.cells (v3_ t p x).toArray E fz)) 32=some p:=by
 unfold v3_;exact xy_ _ _ p n E fz (by simp[t.h])
theorem vE_ (t:IdL) (p:Value) (x:List UInt8) (n:Nat) (E:TypeId) (fz:Nat×Nat):zo_ (some (false,n)) (some (.cells (v3_ t p x).toArray E fz)) 33=some (vs x):=by
 have e:v3_ t p x=(t.l.map v8++ [p])++ ([vs x]++ []):=by unfold v3_;simp only[List.append_assoc,List.append_nil]
 rw[e];exact xy_ _ _ (vs x) n E fz (by simp[t.h])
theorem Zz_ (t:IdL) (p:Value) (x:List UInt8) (E:TypeId) (fz:Nat×Nat):zo_ (some (true,34)) (some (.cells (v3_ t p x).toArray E fz)) 0=some (.agg (v3_ t p x).toArray):=kY_ _ E fz 34 (by rw[List.size_toArray,adt_])
def Xn_ (l:List IdL) (i:Nat):Bool:= !((l.take i).any fun y=>(l.getD i id0).l==y.l)
def K3_ (c:ComL):Bool:=(decide (c.par.length≤4)&&decide (c.text.length≤64))&& (List.range c.par.length).all (Xn_ c.par)
theorem ajW_ {c:ComL} {k:Nat} (hk:k<c.par.length) (h:Xn_ c.par k=false):K3_ c=false:=by
 unfold K3_
 have: (List.range c.par.length).all (Xn_ c.par)=false:=by
  rw[List.all_eq_false]
  exact⟨k,List.mem_range.2 hk,by simp[h]⟩
 rw[this,Bool.and_false]
theorem ahv_ {c:ComL} (h: ∀i,i<c.par.length→Xn_ c.par i=true):K3_ c=(decide (c.par.length≤4)&&decide (c.text.length≤64)):=by
 unfold K3_
 have: (List.range c.par.length).all (Xn_ c.par)=true:=List.all_eq_true.2 fun i hi=>h i (List.mem_range.1 hi)
 rw[this,Bool.and_true]
abbrev ComS (w:World) (v:Value) (c:ComL):Prop:= ∃p,v= .agg (v3_ c.tree p c.text).toArray∧IdS w p c.par
theorem SlV.one {α:Type} {m:Nat} {enc:α→List Value} {z:α} {w:World} {v:Value} {l:List α} (h:SlV m enc z w v l):Value.oneCell' v=true∧v.cells= #[v]:=by
 obtain⟨b,off,c,arr,E,fz,-,-,⟨rfl,-,-⟩ | ⟨rfl,-,-⟩⟩:=h<;>exact⟨rfl,rfl⟩
set_option linter.defProp false
def kM_:=And.intro (And.intro (And.intro (@ahQ_) (@aaV_)) (And.intro (@ji_) (And.intro (@zg_) (@zf_)))) (And.intro (And.intro (@vB_) (@vz_)) (And.intro (@vE_) (And.intro (@Zz_) (@xN_))))
theorem aco_ (v:Value) (c:ComL) (w:World) (hv:ComS w v c) (hl:c.par.length<1000000) (ht:c.text.length<1099511627776):
  Rets Tryz.prog 231 #[v] w (fun v' D=>v'= .bool (K3_ c)∧D= []):=by
 obtain⟨p,rfl,hp⟩:=hv
 obtain⟨b,off,arr,E,fz,hr⟩:=hp.row
 have ln:=hp.len
 refine Rets.enterV Tryz.func231 rfl (rs:= [.tmp 2]) Tryz.results231 Tryz.ntmps231 ?_
 refine kf ?_
 first|with_reducible refine ks [] @kM_ ?_|refine kp @kM_ ?_
 refine Ow.box rfl rfl fun bx hbx hwx=> ?_
 simp only[qy_,qr_,qs_,zd_,List.nil_append,List.cons_append]
 refine Ow.go rfl ?_
 simp(disch:=(first|assumption|omega| (simp only[jW_,jX_,UInt64.reduceToNat];try omega))) only[↓Sx.S0,Sx.S1,Tryz.fx,kM_,Nat.reduceAdd,Nat.reducePow,Int.reducePow,Nat.reduceBEq, ↓reduceIte,UInt8.reduceToNat,UInt16.reduceToNat,UInt32.reduceToNat,UInt64.reduceToNat,Int.reduceToNat]
 first|with_reducible refine ks [] (And.intro @kM_ @ln) ?_|refine kp (And.intro @kM_ @ln) ?_
 refine Cw.loopG (G:=Nat) [9,10,11,12,4,3,13,14,15,16,17,18,2,19,8] (fun g=> [(8,vi g)]) (fun g=> [(bx, .cells (v3_ c.tree p c.text).toArray 241 (0,0))]) (fun g=>g≤c.par.length∧ ∀i,i<g→Xn_ c.par i=true) (fun g=>c.par.length - g) 0 rfl rfl ?_ ?_
 ·exact⟨Nat.zero_le _,fun i hi=>absurd hi (Nat.not_lt_zero i)⟩
 ·intro k jk hk
  refine kv ?_
  obtain⟨h1,h2⟩:=hk
  by_cases hk:k<c.par.length
  ·have h0:0<c.par.length:=by omega
   have hbl:=hr.lt h0
   have hnb:bx≠b:=by omega
   have r2:=hr.has h0
   have i2:=hr.idx true k hk
   have l2:=air_ hr hk
   obtain⟨v3,s3,hv3,-⟩:=hp.take (show k≤c.par.length by omega) true
   first|with_reducible refine ks [6] (And.intro @kM_ (And.intro @i2 (And.intro @r2 (@l2)))) ?_|refine kp (And.intro @kM_ (And.intro @i2 (And.intro @r2 (@l2)))) ?_
   refine Ow.alloc rfl rfl Tryz.zr37 fun b4 hb4 hw4=> ?_
   simp only[zd_,List.nil_append,List.cons_append]
   obtain⟨h4,-⟩:=hb4
   have hxl:=(c.par.getD k id0).h
   refine ko @kM_ ?_
   refine Cw.regionS [bx,b4] [0,2,1,3,4,5] [] (by kernel_rfl) (by kernel_rfl) (by kernel_rfl) ?_
   simp only[zk_, ↓ze_, ↓zc_, ↓zt_, ↓zs_,zb_]
   refine kq (And.intro @kM_ @s3) ?_
   refine Ow.callFV rfl Tryz.call127 (fun w' hw'=>vn_ v3 (c.par.take k) (c.par.getD k id0) w' (hv3.oldN hw' ⟨hwx,hw4,trivial⟩) (by rw[List.length_take];omega)) ?_
   cases hq: (c.par.take k).any fun y=>(c.par.getD k id0).l==y.l
   ·have e1:Xn_ c.par k=true:=by unfold Xn_;rw[hq];rfl
    refine kq @kM_ ?_
    refine Cw.forgetN [(bx, .cells (v3_ c.tree p c.text).toArray 241 (0,0))] (by exact⟨hwx,hw4,trivial⟩) (by intro p hp;simp only[List.mem_cons,List.not_mem_nil,or_false] at hp ⊢;all_goals (first| (rcases hp with rfl|hp<;>simp_all) | (subst hp;simp) |simp_all)) (by simp[keys]<;>omega) ?_
    first|with_reducible refine ks [] @kM_ ?_|refine kp @kM_ ?_
    exact Again.mk (k+1) (by omega) ⟨by omega,fun i hi=>by
     rcases Nat.lt_succ_iff_lt_or_eq.1 hi with h|rfl
     ·exact h2 i h
     ·exact e1⟩ rfl rfl
   ·have e1:Xn_ c.par k=false:=by unfold Xn_;rw[hq];rfl
    rw[ajW_ hk e1]
    refine kq @kM_ ?_
    refine⟨_,(ke @kM_),⟨hwx,hw4,trivial⟩, ?_⟩
    rfl
  ·obtain rfl:k=c.par.length:=by omega
   rw[ahv_ h2]
   by_cases h4:c.par.length≤4
   ·have d1:decide (((c.par.length:Nat):Int)≤4)=true:=decide_eq_true (by omega)
    first|with_reducible refine ks [] (And.intro @kM_ (And.intro @ln (@d1))) ?_|refine kp (And.intro @kM_ (And.intro @ln (@d1))) ?_
    refine⟨_,(ke @kM_),⟨hwx,trivial⟩, ?_⟩
    rw[show decide (c.par.length≤4)=true from decide_eq_true h4,Bool.true_and];exact congrArg Value.bool (decide_eq_decide.2 (by omega))
   ·have d1:decide (((c.par.length:Nat):Int)≤4)=false:=decide_eq_false (by omega)
    first|with_reducible refine ks [] (And.intro @kM_ (And.intro @ln (@d1))) ?_|refine kp (And.intro @kM_ (And.intro @ln (@d1))) ?_
    refine⟨_,(ke @kM_),⟨hwx,trivial⟩, ?_⟩
    rw[show decide (c.par.length≤4)=false from decide_eq_false h4];rfl
end Go.Proofs
end
section
open Go Go.Proofs Go.Sx Go.StP
namespace Go.Proofs
set_option maxRecDepth 10000
set_option maxHeartbeats 4000000
set_option linter.unusedSimpArgs false
set_option linter.defProp false
def aqW_:=And.intro (And.intro (And.intro (@ahQ_) (@aaV_)) (And.intro (@ji_) (And.intro (@zg_) (@zf_)))) (And.intro (And.intro (@vB_) (@vz_)) (And.intro (@vE_) (And.intro (@Zz_) (@xN_))))
def aqn_ (a b:ComL):Bool:=(a.tree.l==b.tree.l)&& (a.text==b.text)&&decide (a.par=b.par)
end Go.Proofs
end
section
open Go Go.Proofs Go.Sx
namespace Go.Proofs
set_option maxRecDepth 10000
set_option maxHeartbeats 4000000
set_option linter.unusedSimpArgs false
theorem aeU_ {n:Nat} (h:n<1099511627776):zJ_ (n:Int)=n:=by unfold zJ_ maxN;omega
end Go.Proofs
end
section
open Go Go.Proofs Go.Sx Go.StP
namespace Go.Proofs
set_option maxRecDepth 10000
set_option maxHeartbeats 400000
set_option linter.unusedSimpArgs false
set_option linter.defProp false
def arc_:=And.intro (And.intro (And.intro (@kR_) (@vA_)) (And.intro (@vG_) (@jn_))) (And.intro (And.intro (@z9_) (@qk_)) (And.intro (@zg_) (@zf_)))
def entB (e:EntL):List UInt8:=(qS_ (zJ_ e.kind)++xq_ e.name)++e.id.l
def aoM_ (l:List EntL):List UInt8:=(l.map entB).flatten
theorem agL_ {s:List UInt8} (h:s.length<1099511627776): (xq_ s).length<1099511627783:=by
 have:=zp_ (s.length:Int)
 unfold xq_;rw[List.length_append];omega
def idsB (l:List IdL):List UInt8:=(l.map IdL.l).flatten
def ao1_ (c:ComL):List UInt8:=c.tree.l++qS_ (zJ_ c.par.length)
def comB (c:ComL):List UInt8:=ao1_ c++idsB c.par++xq_ c.text
set_option linter.defProp false
def aqo_:=And.intro (And.intro (And.intro (@ahQ_) (@aaV_)) (And.intro (@ji_) (And.intro (@zg_) (@zf_)))) (And.intro (And.intro (@vB_) (@vz_)) (And.intro (@vE_) (And.intro (@Zz_) (@xN_))))
end Go.Proofs
end
section
open Go Go.Proofs Go.Sx Go.StP
namespace Go.Proofs
set_option maxRecDepth 10000
set_option maxHeartbeats 400000
set_option linter.unusedSimpArgs false
instance:DecidableEq EntL:=fun a b=>if h:a.name=b.name∧a.kind=b.kind∧a.id.l=b.id.l then .isTrue (by cases a;cases b;simp only at h;obtain⟨rfl,rfl,h3⟩:=h;rw[IdL.ext' h3]) else .isFalse (fun e=>h (by rw[e];exact⟨rfl,rfl,rfl⟩))
theorem EntL.ext' {a b:EntL} (h: (a.name==b.name&&a.kind==b.kind&&a.id.l==b.id.l)=true):a=b:=by
 simp only[Bool.and_eq_true,beq_iff_eq] at h
 cases a;cases b;simp only at h;obtain⟨⟨rfl,rfl⟩,h3⟩:=h;rw[IdL.ext' h3]
set_option linter.defProp false
def aqv_:=And.intro (And.intro (And.intro (@kR_) (@vA_)) (And.intro (@vG_) (@jn_))) (And.intro (And.intro (@z9_) (@qk_)) (And.intro (@zg_) (And.intro (@zf_) (@aoG_))))
end Go.Proofs
end
section
open Go Go.Proofs Go.Sx Go.StP
namespace Go.Proofs
set_option maxRecDepth 10000
set_option maxHeartbeats 400000
set_option linter.unusedSimpArgs false
def wD_ (l:List UInt8):IdL:=if h:l.length=32 then⟨l,h⟩ else id0
theorem QB_ {l:List UInt8} (h:l.length=32): (wD_ l).l=l:=by unfold wD_;rw[dif_pos h]
theorem KW_ (s:List UInt8) (a:Nat) (e:Int): (idR s a e).1.length=32:=by
 unfold idR
 simp only
 split
 ·assumption
 ·simp[z32]
theorem add_ {s:List UInt8} {a:Nat} {e:Int} (ha:a≤s.length):a≤ (idR s a e).2.1∧(idR s a e).2.1≤s.length:=x0_ ha
theorem v2_ {s:List UInt8} {a:Nat} {e most:Int} (ha:a≤s.length):a≤ (qz_ s a e most).2.1∧(qz_ s a e most).2.1≤s.length:=by
 have hp:=qb_ (e:=e) (most:=most) ha
 have hq:=x0_ (e:=(zq_ s a e most).2.2) (n:=(zq_ s a e most).1) hp.2
 unfold qz_
 simp only
 split
 ·exact⟨Nat.le_refl _,ha⟩
 ·exact⟨by omega,hq.2⟩
theorem VZ_ (s:List UInt8) (a:Nat) (e most:Int): (qz_ s a e most).1.length≤s.length:=by
 have: ∀ (b:Nat) (e n:Int),(jq_ s b e n).1.length≤s.length:=by
  intro b e n
  unfold jq_
  split
  ·simp
  ·split
   ·simp
   ·split
    ·simp
    ·simp only[List.length_take,List.length_drop];omega
 unfold qz_
 simp only
 split
 ·simp
 ·exact this _ _ _
theorem V7_ {s:List UInt8} {a:Nat} {e n:Int} (he:e≠0): (jq_ s a e n).2=(a,e):=by unfold jq_;rw[if_pos he]
theorem w8_ {s:List UInt8} {a:Nat} {e most:Int} (he:e≠0): (zq_ s a e most).2=(a,e):=by unfold zq_;rw[if_pos he]
theorem amw_ {s:List UInt8} {a:Nat} {e most:Int} (he:e≠0): (qz_ s a e most).2=(a,e):=by
 unfold qz_
 simp only[w8_ he,V7_ he]
 rw[if_pos he]
theorem an3_ {s:List UInt8} {a:Nat} {e:Int} (he:e≠0): (idR s a e).2=(a,e):=by unfold idR;simp only[V7_ he]
theorem agW_ {s:List UInt8} {a:Nat} {e n:Int} (h:e≠5): (jq_ s a e n).2.2≠5:=by
 unfold jq_
 split
 ·exact h
 ·split
  ·show(2:Int)≠5;decide
  ·split
   ·show(3:Int)≠5;decide
   ·show(0:Int)≠5;decide
theorem alA_ (most:Int): ∀ (l:List UInt8) (k n x:Nat),qD_ most l k n= .error x→x≠5:=by
 intro l
 induction l with
 |nil=>intro k n x h;unfold qD_ at h;cases h;decide
 |cons c r ih=>
  intro k n x h
  unfold qD_ at h
  split at h
  ·split at h
   ·cases h;decide
   ·exact ih _ _ _ h
  ·split at h
   ·cases h;decide
   ·split at h
    ·cases h
    ·cases h;decide
theorem ahZ_ (most:Int): ∀ (l:List UInt8) (k n:Nat),qD_ most l k n≠ .error 0:=by
 intro l
 induction l with
 |nil=>intro k n h;unfold qD_ at h;cases h
 |cons c r ih=>
  intro k n h
  unfold qD_ at h
  split at h
  ·split at h
   ·cases h
   ·exact ih _ _ h
  ·split at h
   ·cases h
   ·split at h
    ·cases h
    ·cases h
theorem ahm_ {s:List UInt8} {a:Nat} {e most:Int} (h:e≠5): (zq_ s a e most).2.2≠5:=by
 unfold zq_
 split
 ·exact h
 ·split
  ·show(0:Int)≠5;decide
  ·rename_i x hx
   have:=alA_ _ _ _ _ _ hx
   show((x:Nat):Int)≠5
   omega
theorem alY_ {s:List UInt8} {a:Nat} {e most:Int} (h:e≠5): (qz_ s a e most).2.2≠5:=by
 unfold qz_
 simp only
 split
 ·exact agW_ (ahm_ h)
 ·exact agW_ (ahm_ h)
theorem ao0_ {s:List UInt8} {a:Nat} {e:Int} (h:e≠5): (idR s a e).2.2≠5:=by unfold idR;exact agW_ h
theorem ag6_ {s:List UInt8} {a:Nat} {e most:Int} (h: (zq_ s a e most).2.2=0):a< (zq_ s a e most).2.1:=by
 unfold zq_ at h ⊢
 split
 ·rename_i he
  rw[if_pos he] at h
  exact absurd h he
 ·rename_i he
  rw[if_neg he] at h
  split
  ·rename_i n k hk
   have:=KY_ _ _ _ _ _ _ hk
   show a<a+k
   omega
  ·rename_i x hx
   rw[hx] at h
   exfalso
   have:x=0:=by have: ((x:Nat):Int)=0:=h;omega
   subst this
   exact ahZ_ _ _ _ _ hx
def V6_ (s:List UInt8) (a:Nat) (e:Int):EntL×Nat×Int:=
 let p:=zq_ s a e 2
 let q:=qz_ s p.2.1 p.2.2 32
 let i:=idR s q.2.1 q.2.2
 (⟨q.1,p.1,wD_ i.1⟩,i.2)
theorem aml_ {s:List UInt8} {a:Nat} {e:Int} (ha:a≤s.length):a≤ (V6_ s a e).2.1∧(V6_ s a e).2.1≤s.length:=by
 have h1:=qb_ (e:=e) (most:=2) ha
 have h2:=v2_ (e:=(zq_ s a e 2).2.2) (most:=32) h1.2
 have h3:=add_ (e:=(qz_ s (zq_ s a e 2).2.1 (zq_ s a e 2).2.2 32).2.2) h2.2
 unfold V6_
 exact⟨by simp only;omega,h3.2⟩
theorem anP_ {s:List UInt8} {a:Nat} {e:Int} (h:e≠5): (V6_ s a e).2.2≠5:=ao0_ (alY_ (ahm_ h))
theorem amT_ {s:List UInt8} {a:Nat} {e:Int} (ha:a≤s.length) (h: (V6_ s a e).2.2=0):a< (V6_ s a e).2.1:=by
 have h1:=qb_ (e:=e) (most:=2) ha
 have h2:=v2_ (e:=(zq_ s a e 2).2.2) (most:=32) h1.2
 have h3:=add_ (e:=(qz_ s (zq_ s a e 2).2.1 (zq_ s a e 2).2.2 32).2.2) h2.2
 unfold V6_ at h ⊢
 simp only at h ⊢
 have e2: (qz_ s (zq_ s a e 2).2.1 (zq_ s a e 2).2.2 32).2.2=0:=Decidable.byContradiction fun hn=>by rw[an3_ hn] at h;exact hn h
 have e1: (zq_ s a e 2).2.2=0:=Decidable.byContradiction fun hn=>by rw[amw_ hn] at e2;exact hn e2
 have:=ag6_ e1
 omega
def Z7_ (s:List UInt8):Nat→Nat→Int→List EntL→List EntL×Nat×Int
 |0,a,e,l=>(l,a,e)
 |n+1,a,e,l=>if e=0∧a<s.length then Z7_ s n (V6_ s a e).2.1 (V6_ s a e).2.2 (l++ [(V6_ s a e).1]) else(l,a,e)
theorem aft_ {s:List UInt8} {n a:Nat} {e:Int} {l:List EntL} (h:e=0∧a<s.length):Z7_ s (n+1) a e l=Z7_ s n (V6_ s a e).2.1 (V6_ s a e).2.2 (l++ [(V6_ s a e).1]):=by rw[Z7_,if_pos h]
theorem aeJ_ {s:List UInt8} {n a:Nat} {e:Int} {l:List EntL} (h: ¬ (e=0∧a<s.length)):Z7_ s n a e l=(l,a,e):=by
 cases n with
 |zero=>rfl
 |succ n=>rw[Z7_,if_neg h]
def kr_ (s:List UInt8):List EntL×Nat×Int:=Z7_ s (s.length+1) 0 0 []
structure EntsJ (s:List UInt8) (n a:Nat) (e:Int) (l:List EntL):Prop where
 go:kr_ s=Z7_ s n a e l
 le:a≤s.length
 five:e≠5
 fuel:e=0→s.length<a+n
 cnt:l.length+n=s.length+1
 short: ∀i,i<l.length→(l.getD i ww_).name.length≤s.length
theorem EntsJ.init (s:List UInt8):EntsJ s (s.length+1) 0 0 []:=⟨rfl,Nat.zero_le _,by decide,fun _=>by omega,by simp,fun i hi=>by simp at hi⟩
theorem EntsJ.next {s:List UInt8} {n a:Nat} {e:Int} {l:List EntL} (h:EntsJ s n a e l) (hc:e=0∧a<s.length): ∃m,n=m+1∧EntsJ s m (V6_ s a e).2.1 (V6_ s a e).2.2 (l++ [(V6_ s a e).1]):=by
 have:=h.fuel hc.1
 obtain⟨m,rfl⟩: ∃m,n=m+1:=⟨n - 1,by omega⟩
 refine⟨m,rfl,h.go.trans (aft_ hc),(aml_ h.le).2,anP_ h.five,fun h0=> ?_, ?_,fun i hi=> ?_⟩
 ·have:=amT_ h.le h0;omega
 ·have:=h.cnt;simp only[List.length_append,List.length_cons,List.length_nil];omega
 ·by_cases hlt:i<l.length
  ·rw[jD_ hlt];exact h.short i hlt
  ·have:i=l.length:=by simp only[List.length_append,List.length_cons,List.length_nil] at hi;omega
   subst this
   rw[qw_ (Nat.le_refl _),Nat.sub_self]
   exact VZ_ _ _ _ _
theorem EntsJ.done {s:List UInt8} {n a:Nat} {e:Int} {l:List EntL} (h:EntsJ s n a e l) (hc: ¬ (e=0∧a<s.length)):kr_ s=(l,a,e):=h.go.trans (aeJ_ hc)
theorem EntsJ.sh {s:List UInt8} {n a:Nat} {e:Int} {l:List EntL} (h:EntsJ s n a e l) (hs:s.length<1000000):akO_ l:=fun i hi=>by have:=h.short i hi;omega
end Go.Proofs
end
section
open Go Go.Proofs Go.Sx Go.StP
namespace Go.Proofs
set_option maxRecDepth 10000
set_option maxHeartbeats 400000
set_option linter.unusedSimpArgs false
def anj_ (s:List UInt8):Option (List EntL):=if(kr_ s).2.2=0∧Zq_ (kr_ s).1=true∧aoM_ (kr_ s).1=s then some (kr_ s).1 else none
def apK_ (s:List UInt8) (v:Value) (D:za_):Prop:=
 match anj_ s with
 |some l=> ∃v1,v= .tuple #[v1, .bool true]∧Gr D 268 34 v1 l.length (l.map jr_).flatten
 |none=>v= .tuple #[.slice none 0 0, .bool false]
structure EnG where
 n:Nat
 a:Nat
 e:Int
 l:List EntL
 v:Value
 D:za_
set_option linter.defProp false
def aq6_:=And.intro (And.intro (And.intro (@xF_) (And.intro (@xz_) (@xx_))) (And.intro (@jS_) (And.intro (@jO_) (@jn_)))) (And.intro (And.intro (@X6_) (And.intro (@XQ_) (@XZ_))) (And.intro (And.intro (@z9_) (@qk_)) (And.intro (@zg_) (@zf_))))
end Go.Proofs
end
section
open Go Go.Proofs Go.Sx Go.StP
namespace Go.Proofs
set_option maxRecDepth 10000
set_option maxHeartbeats 400000
set_option linter.unusedSimpArgs false
theorem wv_ (most:Int): ∀ (l:List UInt8) (k n m k':Nat),qD_ most l k n= .ok (m,k')→(m:Int)≤most
 | [],_,_,_,_,h=>by simp[qD_] at h
 |c::r,k,n,m,k',h=>by
  unfold qD_ at h
  split at h
  ·split at h
   ·cases h
   ·exact wv_ most r _ _ _ _ h
  ·split at h
   ·cases h
   ·split at h
    ·rename_i hh
     cases h
     exact hh.2
    ·cases h
theorem qX_ {s:List UInt8} {a:Nat} {e most:Int} (h0:0≤most):0≤ (zq_ s a e most).1∧(zq_ s a e most).1≤most:=by
 unfold zq_
 split
 ·exact⟨Int.le_refl 0,h0⟩
 ·split
  ·rename_i n k h
   exact⟨Int.natCast_nonneg _,wv_ most _ _ _ _ _ h⟩
  ·exact⟨Int.le_refl 0,h0⟩
def q6_ (s:List UInt8) (a:Nat) (e:Int):Nat→List IdL×Nat×Int
 |0=>([],a,e)
 |n+1=>let p:=q6_ s a e n;let i:=idR s p.2.1 p.2.2;(p.1++ [wD_ i.1],i.2)
theorem Wc_ (s:List UInt8) (a:Nat) (e:Int): ∀n,(q6_ s a e n).1.length=n
 |0=>rfl
 |n+1=>by simp only[q6_,List.length_append,List.length_cons,List.length_nil,Wc_ s a e n]
theorem ac1_ {s:List UInt8} {a:Nat} {e:Int} (ha:a≤s.length): ∀n,(q6_ s a e n).2.1≤s.length
 |0=>ha
 |n+1=>(add_ (ac1_ ha n)).2
def comN (s:List UInt8):Int×Nat×Int:=zq_ s (idR s 0 0).2.1 (idR s 0 0).2.2 4
def comP (s:List UInt8):List IdL×Nat×Int:=q6_ s (comN s).2.1 (comN s).2.2 (comN s).1.toNat
def comT (s:List UInt8):List UInt8×Nat×Int:=qz_ s (comP s).2.1 (comP s).2.2 64
def ZF_ (s:List UInt8):ComL×Nat×Int:=(⟨wD_ (idR s 0 0).1,(comP s).1,(comT s).1⟩,(comT s).2)
def kB_ (s:List UInt8) (a:Nat) (e:Int):Int:=if e≠0 then e else if(a:Int)< (s.length:Int) then 5 else 0
def aoc_ (s:List UInt8):Option ComL:=if kB_ s (ZF_ s).2.1 (ZF_ s).2.2=0∧K3_ (ZF_ s).1=true∧comB (ZF_ s).1=s then some (ZF_ s).1 else none
theorem aeW_ (t x:IdL) (p:Value) (y:List UInt8) (a:Bool) (E:TypeId):zl_ (some (a,32)) (some (.cells (v3_ t p y).toArray E (0,0))) 0 (.agg (a8 x.l))=some (.cells (v3_ x p y).toArray E (0,0)):=
 z4_ [] _ _ _ a _ E rfl (by simp[t.h]) (zd_ _) (by simp[x.h]) (Kf_ _)
theorem aeG_ (t:IdL) (p:Value) (y z:List UInt8) (a:Bool) (E:TypeId):zl_ (some (a,1)) (some (.cells (v3_ t p y).toArray E (0,0))) 33 (vs z)=some (.cells (v3_ t p z).toArray E (0,0)):=by
 have e: ∀y,v3_ t p y=(t.l.map v8++ [p])++ ([vs y]++ []):=fun y=>by unfold v3_;simp only[List.append_assoc,List.append_nil]
 rw[e,e];exact z4_ _ _ _ _ a _ E (by simp[t.h]) rfl rfl rfl rfl
theorem Qo_:zW_ Tryz.prog 37=some (true,32):=id (by kernel_rfl)
theorem QS_:zK_ Tryz.prog 37=some (.agg (a8 id0.l)):=id (by kernel_rfl)
end Go.Proofs
end
section
open Go Go.Proofs Go.Sx Go.StP
namespace Go.Proofs
set_option maxRecDepth 10000
set_option maxHeartbeats 400000
set_option linter.unusedSimpArgs false
theorem JY_ {b:Nat} {x:Obj}: ∀ {D L:za_},b∉keys D→setB (D++L) b x=D++setB L b x
 | [],_,_=>rfl
 | (c,y)::r,L,h=>by
  simp only[keys,List.map_cons,List.mem_cons,not_or] at h
  rw[List.cons_append,jc_ _ _ _ _ _ (Ne.symm h.1),JY_ (by simpa [keys] using h.2)];rfl
def apM_ (s:List UInt8) (v:Value) (D:za_):Prop:=
 match aoc_ s with
 |some c=> ∃p,v= .tuple #[.agg (v3_ c.tree p c.text).toArray, .bool true]∧Gr D 37 32 p c.par.length (c.par.map w3_).flatten
 |none=>v= .tuple #[.agg (v3_ id0 (.slice none 0 0) []).toArray, .bool false]
structure CmG where
 g:Nat
 v:Value
 D:za_
set_option linter.defProp false
def aqq_:=And.intro (And.intro (And.intro (@xF_) (And.intro (@xz_) (@xx_))) (And.intro (And.intro (@jS_) (@jO_)) (And.intro (@vB_) (@vz_)))) (And.intro (And.intro (@vE_) (And.intro (@Zz_) (@xN_))) (And.intro (And.intro (@aeW_) (@aeG_)) (And.intro (@zg_) (@zf_))))
end Go.Proofs
end
section
open Go Go.Proofs Go.Sx Go.StP
namespace Go.Proofs
set_option maxRecDepth 10000
set_option maxHeartbeats 400000
set_option linter.unusedSimpArgs false
def roC (r v:Value) (t:IdL) (p:Value) (y:List UInt8):List Value:= [r]++ ([v]++v3_ t p y)
theorem Vt_ (r v:Value) (t:IdL) (p:Value) (y:List UInt8) (n:Nat) (E:TypeId) (fz:Nat×Nat):zo_ (some (false,n)) (some (.cells (roC r v t p y).toArray E fz)) 0=some r:=xy_ [] _ r n E fz rfl
theorem Va_ (r v:Value) (t:IdL) (p:Value) (y:List UInt8) (n:Nat) (E:TypeId) (fz:Nat×Nat):zo_ (some (false,n)) (some (.cells (roC r v t p y).toArray E fz)) 1=some v:=by
 unfold roC;exact xy_ [r] _ v n E fz rfl
theorem KQ_ (r v:Value) (t:IdL) (p:Value) (y:List UInt8) (E:TypeId) (fz:Nat×Nat):zo_ (some (true,34)) (some (.cells (roC r v t p y).toArray E fz)) 2=some (.agg (v3_ t p y).toArray):=by
 have e:roC r v t p y= [r,v]++ (v3_ t p y++ []):=by unfold roC;simp
 rw[e];exact wd_ [r,v] _ _ E fz rfl (adt_ _ _ _)
theorem VQ_ (r v:Value) (t:IdL) (p:Value) (y:List UInt8) (n:Nat) (E:TypeId) (fz:Nat×Nat):zo_ (some (false,n)) (some (.cells (roC r v t p y).toArray E fz)) 34=some p:=by
 have e:roC r v t p y=([r,v]++t.l.map v8)++ ([p]++ [vs y]):=by unfold roC v3_;simp
 rw[e];exact xy_ _ _ p n E fz (by simp[t.h])
theorem afu_ (r v q:Value) (t:IdL) (p:Value) (y:List UInt8) (a:Bool) (E:TypeId) (hq:Value.oneCell' q=true∧q.cells= #[q]):zl_ (some (a,1)) (some (.cells (roC r v t p y).toArray E (0,0))) 1 q=some (.cells (roC r q t p y).toArray E (0,0)):=by
 unfold roC
 exact z4_ [r] [v] [q] _ a _ E rfl rfl hq.2 rfl (by simp[hq.1])
theorem agD_ (r v:Value) (t x:IdL) (p:Value) (y:List UInt8) (a:Bool) (E:TypeId):zl_ (some (a,32)) (some (.cells (roC r v t p y).toArray E (0,0))) 2 (.agg (a8 x.l))=some (.cells (roC r v x p y).toArray E (0,0)):=by
 have e: ∀t,roC r v t p y= [r,v]++ (t.l.map v8++ ([p]++ [vs y])):=fun t=>by unfold roC v3_;simp
 rw[e,e];exact z4_ [r,v] _ _ _ a _ E rfl (by simp[t.h]) (zd_ _) (by simp[x.h]) (Kf_ _)
theorem aek_ (r v:Value) (t:IdL) (p q:Value) (y:List UInt8) (a:Bool) (E:TypeId) (hq:Value.oneCell' q=true∧q.cells= #[q]):zl_ (some (a,1)) (some (.cells (roC r v t p y).toArray E (0,0))) 34 q=some (.cells (roC r v t q y).toArray E (0,0)):=by
 have e: ∀p,roC r v t p y=([r,v]++t.l.map v8)++ ([p]++ [vs y]):=fun p=>by unfold roC v3_;simp
 rw[e,e];exact z4_ _ [p] [q] [vs y] a _ E (by simp[t.h]) rfl hq.2 rfl (by simp[hq.1])
theorem ae4_ (r v:Value) (t:IdL) (p:Value) (y z:List UInt8) (a:Bool) (E:TypeId):zl_ (some (a,1)) (some (.cells (roC r v t p y).toArray E (0,0))) 35 (vs z)=some (.cells (roC r v t p z).toArray E (0,0)):=by
 have e: ∀y,roC r v t p y=(([r,v]++t.l.map v8)++ [p])++ ([vs y]++ []):=fun y=>by unfold roC v3_;simp
 rw[e,e];exact z4_ _ _ _ _ a _ E (by simp[t.h]) rfl rfl rfl rfl
theorem aeO_ (k:Int) (t:List UInt8):qV_ (vo_ Tryz.prog 268) (zK_ Tryz.prog 268) [(1,vi k),(0,vs t)]=some (.agg (jr_ ⟨t,k,id0⟩).toArray):=by
 rw[show vo_ Tryz.prog 268=some [(0,1),(1,1),(2,32)] from id (by kernel_rfl),agB_];rfl
theorem xI_ (b:Nat) (s:List UInt8) (a:Nat) (e:Int) (w:World) (ho:w.heap[b]? =some (.cells #[vs s,vi a,vi e] 212 (0,0))):
  Rets Tryz.prog 74 #[vp b 0] w (fun v D=>v=vi (kB_ s a e)∧D= []):=JV_ b s a e w ho
set_option linter.defProp false
def x5_:=And.intro (And.intro (And.intro (And.intro (@xF_) (@xz_)) (And.intro (@xx_) (@jS_))) (And.intro (And.intro (@jO_) (@Vt_)) (And.intro (@Va_) (@KQ_)))) (And.intro (And.intro (And.intro (@VQ_) (@jn_)) (And.intro (@X6_) (@XQ_))) (And.intro (And.intro (@XZ_) (@z9_)) (And.intro (@qk_) (And.intro (@zg_) (@zf_)))))
theorem agY_ {w:World} {a b:Nat} {x y:Obj} (h:w.heap[a]? =some x) (h':w.heap[b]? =some y): ∀p:Nat×Obj,p∈ [(a,x),(b,y)]→w.heap[p.1]? =some p.2:=by
 intro p hp
 simp only[List.mem_cons,List.not_mem_nil,or_false] at hp
 rcases hp with rfl|rfl<;>assumption
structure EnH where
 n:Nat
 a:Nat
 e:Int
 l:List EntL
 v:Value
 D:za_
 H:za_
def akP_ (bo bw:Nat) (s:List UInt8) (v:Value) (D:za_):Prop:=
 v= .bool (kB_ s (kr_ s).2.1 (kr_ s).2.2==0&&Zq_ (kr_ s).1)∧ ∃v1,Sx.look D bo=some (.cells (roC (vp bw 0) v1 id0 (.slice none 0 0) []).toArray 294 (0,0))∧Gr D 268 34 v1 (kr_ s).1.length ((kr_ s).1.map jr_).flatten
theorem aa9_ (bo bw:Nat) (s:List UInt8) (w:World) (hs:s.length<100000) (hne:bo≠bw)
  (ho:w.heap[bo]? =some (.cells (roC (vp bw 0) (.slice none 0 0) id0 (.slice none 0 0) []).toArray 294 (0,0))) (hr:w.heap[bw]? =some (.cells #[vs s,vi 0,vi 0] 212 (0,0))):
  Rets Tryz.prog 212 #[vp bo 0] w (XS w [(bo, .cells (roC (vp bw 0) (.slice none 0 0) id0 (.slice none 0 0) []).toArray 294 (0,0)),(bw, .cells #[vs s,vi 0,vi 0] 212 (0,0))] (akP_ bo bw s)):=by
 have hob:bo<w.heap.size:=(Array.getElem?_eq_some_iff.1 ho).1
 have hwb:bw<w.heap.size:=(Array.getElem?_eq_some_iff.1 hr).1
 refine Rets.enterX Tryz.func212 rfl (rs:= [.tmp 2]) Tryz.results212 Tryz.ntmps212 (agY_ ho hr) (by simp[keys,hne]) ?_
 refine kf ?_
 first|with_reducible refine ks [] @x5_ ?_|refine kp @x5_ ?_
 refine Cw.loopG (G:=EnH) [4,5,6,7,8,9,10,11,12,13,14,15,16,17,18,19,20,3,21,22,23,24,25,26,27,28,29,30,31,32,33,34,35,36] (fun q=> []) (fun q=>q.H) (fun q=>EntsJ s q.n q.a q.e q.l∧New w.heap.size q.D∧Gr q.D 268 34 q.v q.l.length (q.l.map jr_).flatten∧((bo,Obj.cells (roC (vp bw 0) q.v id0 (.slice none 0 0) []).toArray 294 (0,0)):: (bw, .cells #[vs s,vi q.a,vi q.e] 212 (0,0))::q.D).Perm q.H) (fun q=>q.n) ⟨s.length+1,0,0,[], .slice none 0 0,[],[(bo,Obj.cells (roC (vp bw 0) (.slice none 0 0) id0 (.slice none 0 0) []).toArray 294 (0,0)),(bw, .cells #[vs s,vi 0,vi 0] 212 (0,0))]⟩ rfl rfl ?_ ?_
 ·exact⟨EntsJ.init s,trivial,Gr.nl,List.Perm.refl _⟩
 ·intro q jq hq
  refine kv ?_
  obtain⟨n,a,e,l,v,D,H0⟩:=q
  simp only at hq ⊢
  obtain⟨hJ,hN,hG,hPm⟩:=hq
  refine Cw.permL hPm ?_
  clear hPm
  have hle:=hJ.le
  first|with_reducible refine ks [3] @x5_ ?_|refine kp @x5_ ?_
  refine Ow.callFV rfl Tryz.call74 (fun w' hw'=>xI_ bw s a e w' (hw'.has _ _ (List.mem_cons_of_mem _ List.mem_cons_self))) ?_
  by_cases hc:e=0∧a<s.length
  ·obtain⟨m,rfl,hJ'⟩:=hJ.next hc
   obtain⟨he,hlt⟩:=hc
   have h5:kB_ s a e=5:=by unfold kB_;rw[if_neg (by simp[he]),if_pos (by omega)]
   have d1: (kB_ s a e==5)=true:=by simp[h5]
   refine ko (And.intro @x5_ @d1) ?_
   have hp:=qb_ (e:=e) (most:=2) hle
   have hq:=v2_ (e:=(zq_ s a e 2).2.2) (most:=32) hp.2
   have heq:V6_ s a e=(⟨(qz_ s (zq_ s a e 2).2.1 (zq_ s a e 2).2.2 32).1,(zq_ s a e 2).1,wD_ (idR s (qz_ s (zq_ s a e 2).2.1 (zq_ s a e 2).2.2 32).2.1 (qz_ s (zq_ s a e 2).2.1 (zq_ s a e 2).2.2 32).2.2).1⟩,(idR s (qz_ s (zq_ s a e 2).2.1 (zq_ s a e 2).2.2 32).2.1 (qz_ s (zq_ s a e 2).2.1 (zq_ s a e 2).2.2 32).2.2).2):=rfl
   have hil:=KW_ s (qz_ s (zq_ s a e 2).2.1 (zq_ s a e 2).2.2 32).2.1 (qz_ s (zq_ s a e 2).2.1 (zq_ s a e 2).2.2 32).2.2
   refine Cw.regionD [bo] [12] 11 3 268 12 _ rfl (by kernel_rfl) (by kernel_rfl) rfl (by kernel_rfl) agB_ (fun hD=> ?_)
   simp only[List.replicate_succ,List.replicate_zero]
   refine OwD.run [0,1,2,3,5,6,7,8] [true,true,true,true,false,true,true,true,true,false,false,false,false] 4 rfl hD (by kernel_rfl) fun k hk=> ?_
   simp only[zk_, ↓ze_, ↓zc_, ↓zt_, ↓zs_,zb_]
   simp(disch:=(first|assumption|omega| (simp only[jW_,jX_,UInt64.reduceToNat];try omega))) only[↓Sx.S0,Sx.S1,Tryz.fx,x5_,Nat.reduceAdd,Nat.reducePow,Int.reducePow,Nat.reduceBEq, ↓reduceIte,UInt8.reduceToNat,UInt16.reduceToNat,UInt32.reduceToNat,UInt64.reduceToNat,Int.reduceToNat,Md.next_sofnil,Md.next_sofnil]
   (with_reducible refine hk _ _ _ ?_);clear hk k
   refine OwD.soft 4 _ hD rfl (by kernel_rfl) (fun E hE=> ?_)
   refine Ow.callM rfl rfl Tryz.call95 (by simp[keys]) (fun w' hw'=>qL_ bw s a e 2 w' hle (by omega) (hw'.has _ _ (by simp))) ?_
   generalize zq_ s a e 2=p at*
   obtain⟨kd,a1,e1⟩:=p
   simp only at hp hq heq hil ⊢
   refine kn ?_
   with_reducible refine Ow.nil ?_
   refine⟨(bo,Obj.cells (roC (vp bw 0) v id0 (.slice none 0 0) []).toArray 294 (0,0)):: (bw, .cells #[vs s,vi a1,vi e1] 212 (0,0))::D,(by classical exact List.perm_iff_count.2 fun a=>by simp only[List.count_append,List.count_cons,List.count_nil]<;>omega),fun r hr=> ?_, ?_⟩
   ·rw[List.mem_singleton.1 hr]
    simp only[zC_]
   simp only[List.set_cons_zero,List.set_cons_succ,zL_,qx_,qB_]
   refine OwD.soft 9 _ hD rfl (by kernel_rfl) (fun E hE=> ?_)
   refine Ow.callM rfl rfl Tryz.call96 (by simp[keys]) (fun w' hw'=>v4_ bw s a1 e1 32 w' hp.2 (by omega) (hw'.has _ _ (by simp))) ?_
   generalize qz_ s a1 e1 32=q at*
   obtain⟨tt,a2,e2⟩:=q
   simp only at hq heq hil ⊢
   refine kn ?_
   with_reducible refine Ow.nil ?_
   refine⟨(bo,Obj.cells (roC (vp bw 0) v id0 (.slice none 0 0) []).toArray 294 (0,0)):: (bw, .cells #[vs s,vi a2,vi e2] 212 (0,0))::D,(by classical exact List.perm_iff_count.2 fun a=>by simp only[List.count_append,List.count_cons,List.count_nil]<;>omega),fun r hr=> ?_, ?_⟩
   ·rw[List.mem_singleton.1 hr]
    simp only[zC_]
   simp only[List.set_cons_zero,List.set_cons_succ,zL_,qx_,qB_]
   refine OwD.soft 10 _ hD rfl (by kernel_rfl) (fun E hE=> ?_)
   refine Ow.build (.agg (jr_ ⟨tt,kd,id0⟩).toArray) rfl (aeO_ kd tt) ?_
   with_reducible refine Ow.nil ?_
   refine⟨_,List.Perm.refl _,fun _ _=>rfl, ?_⟩
   simp only[List.set_cons_zero,List.set_cons_succ,zL_,qx_,qB_]
   refine OwD.real [12] rfl hD (by kernel_rfl) (by kernel_rfl) (by kernel_rfl) (by kernel_rfl) (fun r hr=>by rw[List.mem_singleton.1 hr];exact .inl (by simp[keys])) ?_
   simp only[zk_, ↓ze_, ↓zc_, ↓zt_, ↓zs_,zb_]
   intro b3 hw3 hbL
   simp only[qx_,qB_]
   have hst3:=z9_ ⟨tt,kd,id0⟩ ww_
   refine Ow.store rfl rfl rfl (L':=((bo,Obj.cells (roC (vp bw 0) v id0 (.slice none 0 0) []).toArray 294 (0,0)):: (bw, .cells #[vs s,vi a2,vi e2] 212 (0,0))::D)++ [(b3, .cells (jr_ ⟨tt,kd,id0⟩).toArray 268 (0,0))]) ?_ ?_
   ·simp only[qy_,qr_,qs_]
    rw[Tryz.ag268,vF_,Ju_ hbL,zd_,hst3,w6_,ZH_ hbL]
    exact []
   refine ko @x5_ ?_
   refine Cw.permL (M:=(b3, .cells (jr_ ⟨tt,kd,id0⟩).toArray 268 (0,0)):: (bo,Obj.cells (roC (vp bw 0) v id0 (.slice none 0 0) []).toArray 294 (0,0)):: (bw, .cells #[vs s,vi a2,vi e2] 212 (0,0))::D) (by classical exact List.perm_iff_count.2 fun a=>by simp only[List.count_append,List.count_cons,List.count_nil]<;>omega) ?_
   have hb3o:bo≠b3:=by simp[keys] at hbL;omega
   have hb3w:bw≠b3:=by simp[keys] at hbL;omega
   first|with_reducible refine ks [] @x5_ ?_|refine kp @x5_ ?_
   refine Ow.callM rfl rfl Tryz.call97 (by simp[keys]) (fun w' hw'=>QH_ bw s a2 e2 w' hq.2 (by omega) (hw'.has _ _ (by simp))) ?_
   generalize idR s a2 e2=i at*
   obtain⟨il,a3,e3⟩:=i
   simp only at heq hil ⊢
   obtain⟨I,hI⟩: ∃I,wD_ il=I:=⟨_,rfl⟩
   have hiI:il=I.l:=by rw[←hI,QB_ hil]
   rw[hI] at heq
   rw[hiI]
   refine kn ?_
   refine ko @x5_ ?_
   generalize hx: ({name:=tt,kind:=kd,id:=I}:EntL)=x
   rw[hx] at heq
   rw[heq] at hJ'
   refine Cw.regionS [bo,b3] [0,1,2,3,4,5,6,7,8,9,10] [10] (by kernel_rfl) (by kernel_rfl) (by kernel_rfl) ?_
   simp only[zk_, ↓ze_, ↓zc_, ↓zt_, ↓zs_,zb_]
   refine kq @x5_ ?_
   refine Ow.soft rfl rfl rfl ?_
   refine Ow.buildSlice (e:=268) (jr_ x).toArray rfl rfl (qA_ Tryz.underlying237 akS_ agB_ (by decide) (xd_ x)) fun b13 hb13 hw13=> ?_
   have h3d:b3<b13:=zm_ hb13 (by simp[keys])
   with_reducible refine Ow.nil ?_
   refine⟨qv_ (by simp[keys]), ?_⟩
   try simp only[List.cons_append,List.nil_append]
   refine Ow.soft rfl rfl rfl ?_
   refine Ow.permL (M:=D++ [(b3,Obj.cells (jr_ x).toArray 268 (0,0)),(bo,Obj.cells (roC (vp bw 0) v id0 (.slice none 0 0) []).toArray 294 (0,0)),(bw, .cells #[vs s,vi a3,vi e3] 212 (0,0)),(b13,Obj.cells (jr_ x).toArray 268 (0,0))]) (by classical exact List.perm_iff_count.2 fun a=>by simp only[List.count_append,List.count_cons,List.count_nil]<;>omega) ?_
   refine Ow.appendX (e:=268) (k:=1) (new:=jr_ x) (X:=D) v rfl rfl rfl rfl Tryz.underlying237 akS_ (by kernel_rfl) agB_ (by rw[qk_,List.size_toArray,xd_]) Tryz.underlying237 (by intro k h;cases h) hG (fun w' hw'=>AppX.one1 (hw'.has b13 (.cells (jr_ x).toArray 268 (0,0)) (by simp)) (xd_ _) (Vu_ _)) (by omega) (by have:=hJ.cnt;omega) (fun B v4 D4 hA4 hB4 hbuf hk1 hk2 hlk=> ?_)
   have hB3:b3<B:=zm_ hA4 (by simp[zi_,keys])
   have hN4:New w.heap.size D4:=New.of_le fun q hq=>by
    rcases hk2 q hq with h|h
    ·exact hN.le q h
    ·omega
   have ho4:bo∉keys D4:=hN4.not hob
   have h34:b3∉keys D4:=fun hm=>by
    rcases hk2 b3 hm with h|h
    ·exact hbL (by simp only[keys,List.map_cons,List.mem_cons];exact .inr (.inr h))
    ·omega
   with_reducible refine Ow.nil ?_
   refine⟨fun q hq=> ?_, ?_⟩
   ·simp only[List.mem_cons,List.not_mem_nil,or_false] at hq
    rcases hq with rfl|rfl
    ·rw[Z1_ ho4]
     simp(disch:=omega) only[zC_,zz_]
    ·rw[Z1_ h34]
     simp(disch:=omega) only[zC_,zz_]
   have hlko: ∀M,Sx.look (D4++M) bo=Sx.look M bo:=fun M=>qH_ ho4
   have hsbo: ∀M x,setB (D4++M) bo x=D4++setB M bo x:=fun M x=>JY_ ho4
   have st1:=fun a E=>afu_ (vp bw 0) v v4 id0 (.slice none 0 0) [] a E hbuf.cell
   have hst7:xD_ (zW_ Tryz.prog 237) (D4++ [(b3,Obj.cells (jr_ x).toArray 268 (0,0)),(bo,Obj.cells (roC (vp bw 0) v id0 (.slice none 0 0) []).toArray 294 (0,0)),(bw, .cells #[vs s,vi a3,vi e3] 212 (0,0)),(b13,Obj.cells (jr_ x).toArray 268 (0,0))]) (vp bo 1) v4=some (D4++ [(b3,Obj.cells (jr_ x).toArray 268 (0,0)),(bo,Obj.cells (roC (vp bw 0) v4 id0 (.slice none 0 0) []).toArray 294 (0,0)),(bw, .cells #[vs s,vi a3,vi e3] 212 (0,0)),(b13,Obj.cells (jr_ x).toArray 268 (0,0))]):=by
    rw[Tryz.ag237,vF_,hlko]
    simp(disch:=omega) only[zP_,qW_,st1,w6_,hsbo,jU_,jc_]
   refine kq @x5_ ?_
   refine Ow.store rfl rfl rfl hst7 ?_
   refine ko @x5_ ?_
   refine Again.mk (EnH.mk m a3 e3 (l++ [x]) v4 (D4++ [(b3,Obj.cells (jr_ x).toArray 268 (0,0)),(b13,Obj.cells (jr_ x).toArray 268 (0,0))]) _) (by show m<m+1;omega) ⟨hJ',hN4.app ⟨by omega,by omega,trivial⟩, ?_, ?_⟩ rfl rfl
   ·show Gr _ _ _ _ (l++ [x]).length ((l++ [x]).map jr_).flatten
    rw[List.length_append,List.map_append,List.flatten_append,show([x].map jr_).flatten=jr_ x by simp]
    exact Gr.app (.inl hbuf)
   ·exact(by classical exact List.perm_iff_count.2 fun a=>by simp only[List.count_append,List.count_cons,List.count_nil]<;>omega)
  ·have hd:=hJ.done hc
   have hsh:=hJ.sh (by omega)
   have hcn:=hJ.cnt
   have h5:kB_ s a e≠5:=by
    unfold kB_
    by_cases he:e=0
    ·rw[if_neg (by simp[he]),if_neg (by omega)];decide
    ·rw[if_pos he];exact hJ.five
   have d1: (kB_ s a e==5)=false:=by simpa using h5
   have hE:Ext w [(bo,Obj.cells (roC (vp bw 0) (.slice none 0 0) id0 (.slice none 0 0) []).toArray 294 (0,0)),(bw,Obj.cells #[vs s,vi 0,vi 0] 212 (0,0))] ((bo,Obj.cells (roC (vp bw 0) v id0 (.slice none 0 0) []).toArray 294 (0,0)):: (bw,Obj.cells #[vs s,vi a,vi e] 212 (0,0))::D):=by
    refine⟨fun c hc=> ?_,fun c hc=> ?_⟩
    ·simp only[keys,List.map_cons,List.map_nil,List.mem_cons,List.not_mem_nil,or_false] at hc ⊢
     rcases hc with h|h|h
     ·exact .inl (.inl h)
     ·exact .inl (.inr h)
     ·exact .inr (hN.le c h)
    ·simp only[keys,List.map_cons,List.map_nil,List.mem_cons,List.not_mem_nil,or_false] at hc ⊢
     rcases hc with h|h
     ·exact .inl h
     ·exact .inr (.inl h)
   have hF:Gr ((bo,Obj.cells (roC (vp bw 0) v id0 (.slice none 0 0) []).toArray 294 (0,0)):: (bw,Obj.cells #[vs s,vi a,vi e] 212 (0,0))::D) 268 34 v l.length (l.map jr_).flatten:=hG.keep fun b o hb ho=>by
    have:=hN.le b (zu_ ho)
    simp(disch:=omega) only[qW_]
    exact ho
   unfold akP_
   rw[hd]
   refine ko (And.intro @x5_ @d1) ?_
   refine Ow.callFV rfl Tryz.call74 (fun w' hw'=>xI_ bw s a e w' (hw'.has _ _ (List.mem_cons_of_mem _ List.mem_cons_self))) ?_
   by_cases he:kB_ s a e=0
   ·have d2: (kB_ s a e==0)=true:=by simp[he]
    rw[d2]
    refine ko (And.intro @x5_ @d2) ?_
    refine Ow.callFV rfl Tryz.call230 (fun w' hw'=>VP_ v l w' (hG.slM (fun b o hm=>hw'.has b o (by simp[hm])) rfl rfl xd_) (by omega) hsh) ?_
    refine ko @x5_ ?_
    first|with_reducible refine ks [] @x5_ ?_|refine kp @x5_ ?_
    refine⟨_,(ke @x5_), ?_⟩
    exact⟨hE,rfl,v,by simp only[zP_],hF⟩
   ·have d2: (kB_ s a e==0)=false:=by simpa using he
    rw[d2]
    refine ko (And.intro @x5_ @d2) ?_
    first|with_reducible refine ks [] @x5_ ?_|refine kp @x5_ ?_
    refine⟨_,(ke @x5_), ?_⟩
    exact⟨hE,rfl,v,by simp only[zP_],hF⟩
end Go.Proofs
end
section
open Go Go.Proofs Go.Sx Go.StP
namespace Go.Proofs
set_option maxRecDepth 10000
set_option maxHeartbeats 400000
set_option linter.unusedSimpArgs false
set_option linter.defProp false
def ko_:=And.intro (And.intro (And.intro (@xF_) (And.intro (@xz_) (@xx_))) (And.intro (And.intro (@jS_) (@jO_)) (And.intro (@Vt_) (@Va_)))) (And.intro (And.intro (@KQ_) (And.intro (@VQ_) (@agD_))) (And.intro (And.intro (@ae4_) (@xN_)) (And.intro (@zg_) (@zf_))))
structure CmH where
 g:Nat
 v:Value
 D:za_
 H:za_
def anD_ (bo bw:Nat) (s:List UInt8) (v:Value) (D:za_):Prop:=
 v= .bool (kB_ s (ZF_ s).2.1 (ZF_ s).2.2==0&&K3_ (ZF_ s).1)∧ ∃p,Sx.look D bo=some (.cells (roC (vp bw 0) (.slice none 0 0) (ZF_ s).1.tree p (ZF_ s).1.text).toArray 294 (0,0))∧Gr D 37 32 p (ZF_ s).1.par.length ((ZF_ s).1.par.map w3_).flatten
theorem ae1_ (bo bw:Nat) (s:List UInt8) (w:World) (hs:s.length<100000) (hne:bo≠bw)
  (ho:w.heap[bo]? =some (.cells (roC (vp bw 0) (.slice none 0 0) id0 (.slice none 0 0) []).toArray 294 (0,0))) (hr:w.heap[bw]? =some (.cells #[vs s,vi 0,vi 0] 212 (0,0))):
  Rets Tryz.prog 213 #[vp bo 0] w (XS w [(bo,Obj.cells (roC (vp bw 0) (.slice none 0 0) id0 (.slice none 0 0) []).toArray 294 (0,0)),(bw,Obj.cells #[vs s,vi 0,vi 0] 212 (0,0))] (anD_ bo bw s)):=by
 have hob:bo<w.heap.size:=(Array.getElem?_eq_some_iff.1 ho).1
 have hwb:bw<w.heap.size:=(Array.getElem?_eq_some_iff.1 hr).1
 refine Rets.enterX Tryz.func213 rfl (rs:= [.tmp 2]) Tryz.results213 Tryz.ntmps213 (agY_ ho hr) (by simp[keys,hne]) ?_
 refine kf ?_
 first|with_reducible refine ks [] @ko_ ?_|refine kp @ko_ ?_
 refine Ow.callM rfl rfl Tryz.call97 (by simp[keys]) (fun w' hw'=>QH_ bw s 0 0 w' (Nat.zero_le _) (by omega) (hw'.has _ _ (List.mem_cons_of_mem _ List.mem_cons_self))) ?_
 have ip:=add_ (s:=s) (a:=0) (e:=0) (Nat.zero_le _)
 have np:=qb_ (e:=(idR s 0 0).2.2) (most:=4) ip.2
 have nm:=qX_ (s:=s) (a:=(idR s 0 0).2.1) (e:=(idR s 0 0).2.2) (most:=4) (by decide)
 obtain⟨T,hT⟩: ∃T,wD_ (idR s 0 0).1=T:=⟨_,rfl⟩
 have hiT: (idR s 0 0).1=T.l:=by rw[←hT,QB_ (KW_ s 0 0)]
 have hcE:ZF_ s=(⟨T,(comP s).1,(comT s).1⟩,(comT s).2):=by unfold ZF_;rw[hT]
 rw[hiT]
 refine kn ?_
 refine ko @ko_ ?_
 refine Ow.callM rfl rfl Tryz.call95 (by simp[keys]) (fun w' hw'=>qL_ bw s _ _ 4 w' ip.2 (by omega) (hw'.has _ _ (List.mem_cons_of_mem _ List.mem_cons_self))) ?_
 have hP:comP s=q6_ s (zq_ s (idR s 0 0).2.1 (idR s 0 0).2.2 4).2.1 (zq_ s (idR s 0 0).2.1 (idR s 0 0).2.2 4).2.2 (zq_ s (idR s 0 0).2.1 (idR s 0 0).2.2 4).1.toNat:=rfl
 generalize zq_ s (idR s 0 0).2.1 (idR s 0 0).2.2 4=nr at*
 obtain⟨cn,na,ne⟩:=nr
 simp only at np nm hP ⊢
 obtain⟨k,rfl⟩:=Int.eq_ofNat_of_zero_le nm.1
 rw[Int.toNat_natCast] at hP
 refine kn ?_
 refine ko @ko_ ?_
 refine Cw.loopG (G:=CmH) [18,19,20,21,22,23,24,25,26,27,28,29,30,31,32,33,34,35,17] (fun q=> [(17,vi q.g)]) (fun q=>q.H) (fun q=>q.g≤k∧New w.heap.size q.D∧Gr q.D 37 32 q.v q.g ((q6_ s na ne q.g).1.map w3_).flatten∧((bo,Obj.cells (roC (vp bw 0) (.slice none 0 0) T q.v []).toArray 294 (0,0)):: (bw,Obj.cells #[vs s,vi (q6_ s na ne q.g).2.1,vi (q6_ s na ne q.g).2.2] 212 (0,0))::q.D).Perm q.H) (fun q=>k - q.g) ⟨0, .slice none 0 0,[],[(bo,Obj.cells (roC (vp bw 0) (.slice none 0 0) T (.slice none 0 0) []).toArray 294 (0,0)),(bw,Obj.cells #[vs s,vi na,vi ne] 212 (0,0))]⟩ rfl rfl ?_ ?_
 ·exact⟨Nat.zero_le _,trivial,Gr.nl,List.Perm.refl _⟩
 ·intro q jq hq
  refine kv ?_
  obtain⟨g,v,D,H0⟩:=q
  simp only at hq ⊢
  obtain⟨hgk,hN,hG,hPm⟩:=hq
  refine Cw.permL hPm ?_
  clear hPm
  have gle:=ac1_ (e:=ne) np.2 g
  by_cases hlt:g<k
  ·have hgs:q6_ s na ne (g+1)=((q6_ s na ne g).1++ [wD_ (idR s (q6_ s na ne g).2.1 (q6_ s na ne g).2.2).1],(idR s (q6_ s na ne g).2.1 (q6_ s na ne g).2.2).2):=rfl
   first|with_reducible refine ks [] @ko_ ?_|refine kp @ko_ ?_
   refine Cw.regionS [bo] [0,1,2,3,4,6,7,8,5,9,10,11,12,13,14,15,16] [16] (by kernel_rfl) (by kernel_rfl) (by kernel_rfl) ?_
   simp only[zk_, ↓ze_, ↓zc_, ↓zt_, ↓zs_,zb_]
   refine kq @ko_ ?_
   refine Ow.soft rfl rfl rfl ?_
   refine Ow.callM rfl rfl Tryz.call97 (by simp[keys]) (fun w' hw'=>QH_ bw s (q6_ s na ne g).2.1 (q6_ s na ne g).2.2 w' gle (by omega) (hw'.has _ _ (List.mem_cons_of_mem _ List.mem_cons_self))) ?_
   with_reducible refine Ow.nil ?_
   refine⟨fun b hb=>Ql_ (by simp only[List.mem_cons,List.not_mem_nil,or_false] at hb;omega), ?_⟩
   have hil:=KW_ s (q6_ s na ne g).2.1 (q6_ s na ne g).2.2
   obtain⟨I,hI⟩: ∃I,wD_ (idR s (q6_ s na ne g).2.1 (q6_ s na ne g).2.2).1=I:=⟨_,rfl⟩
   have hiI: (idR s (q6_ s na ne g).2.1 (q6_ s na ne g).2.2).1=I.l:=by rw[←hI,QB_ hil]
   rw[hI] at hgs
   have hg1: (q6_ s na ne (g+1)).1=(q6_ s na ne g).1++ [I]:=by rw[hgs]
   have hg2: (q6_ s na ne (g+1)).2=(idR s (q6_ s na ne g).2.1 (q6_ s na ne g).2.2).2:=by rw[hgs]
   rw[hiI,←hg2]
   refine kn ?_
   refine Ow.soft rfl rfl rfl ?_
   refine Ow.buildSlice (e:=37) (a8 I.l) rfl rfl (qA_ (cs:=I.l.map v8) Tryz.underlying30 Qo_ QS_ (by decide) (by simp[I.h])) fun b13 hb13 hw13=> ?_
   with_reducible refine Ow.nil ?_
   refine⟨qv_ (by simp[keys]), ?_⟩
   try simp only[List.cons_append,List.nil_append]
   refine Ow.soft rfl rfl rfl ?_
   refine Ow.permL (M:=D++ [(bo,Obj.cells (roC (vp bw 0) (.slice none 0 0) T v []).toArray 294 (0,0)),(bw,Obj.cells #[vs s,vi (q6_ s na ne (g+1)).2.1,vi (q6_ s na ne (g+1)).2.2] 212 (0,0)),(b13,Obj.cells (a8 I.l) 37 (0,0))]) (by classical exact List.perm_iff_count.2 fun a=>by simp only[List.count_append,List.count_cons,List.count_nil]<;>omega) ?_
   refine Ow.appendX (e:=37) (k:=1) (new:=w3_ I) (X:=D) v rfl rfl rfl rfl Tryz.underlying30 Qo_ (by kernel_rfl) QS_ (by rw[zd_,vf_,id0.h]) Tryz.underlying30 (by intro k h;cases h) hG (fun w' hw'=>AppX.one1 (hw'.has b13 (.cells (a8 I.l) 37 (0,0)) (by simp)) (xi_ I) (Zj_ I)) (by omega) (by omega) (fun B v4 D4 hA4 hB4 hbuf hk1 hk2 hlk=> ?_)
   have hN4:New w.heap.size D4:=New.of_le fun q hq=>by
    rcases hk2 q hq with h|h
    ·exact hN.le q h
    ·omega
   have ho4:bo∉keys D4:=hN4.not hob
   with_reducible refine Ow.nil ?_
   refine⟨fun q hq=> ?_, ?_⟩
   ·rw[List.mem_singleton] at hq
    subst hq
    rw[Z1_ ho4]
    simp only[zC_]
   have hlko: ∀M,Sx.look (D4++M) bo=Sx.look M bo:=fun M=>qH_ ho4
   have hsbo: ∀M x,setB (D4++M) bo x=D4++setB M bo x:=fun M x=>JY_ ho4
   have st1:=fun a E=>aek_ (vp bw 0) (.slice none 0 0) T v v4 [] a E hbuf.cell
   have hst7:xD_ (zW_ Tryz.prog 30) (D4++ [(bo,Obj.cells (roC (vp bw 0) (.slice none 0 0) T v []).toArray 294 (0,0)),(bw,Obj.cells #[vs s,vi (q6_ s na ne (g+1)).2.1,vi (q6_ s na ne (g+1)).2.2] 212 (0,0)),(b13,Obj.cells (a8 I.l) 37 (0,0))]) (vp bo 34) v4=some (D4++ [(bo,Obj.cells (roC (vp bw 0) (.slice none 0 0) T v4 []).toArray 294 (0,0)),(bw,Obj.cells #[vs s,vi (q6_ s na ne (g+1)).2.1,vi (q6_ s na ne (g+1)).2.2] 212 (0,0)),(b13,Obj.cells (a8 I.l) 37 (0,0))]):=by
    rw[Tryz.ag30,vF_,hlko]
    simp(disch:=omega) only[zP_,qW_,st1,w6_,hsbo,jU_,jc_]
   refine kq @ko_ ?_
   refine Ow.store rfl rfl rfl hst7 ?_
   refine ko @ko_ ?_
   refine Again.mk (CmH.mk (g+1) v4 (D4++ [(b13,Obj.cells (a8 I.l) 37 (0,0))]) _) (by show k - (g+1)<k - g;omega) ⟨by show g+1≤k;omega,hN4.app ⟨by omega,trivial⟩, ?_, ?_⟩ rfl rfl
   ·show Gr _ _ _ _ (g+1) ((q6_ s na ne (g+1)).1.map w3_).flatten
    rw[hg1,List.map_append,List.flatten_append,show([I].map w3_).flatten=w3_ I by simp]
    exact Gr.app (.inl hbuf)
   ·exact(by classical exact List.perm_iff_count.2 fun a=>by simp only[List.count_append,List.count_cons,List.count_nil]<;>omega)
  ·obtain rfl:g=k:=by omega
   rw[←hP] at hG
   rw[←hP] at gle
   rw[←hP]
   have tp:=v2_ (e:=(comP s).2.2) (most:=64) gle
   first|with_reducible refine ks [] @ko_ ?_|refine kp @ko_ ?_
   refine Ow.callM rfl rfl Tryz.call96 (by simp[keys]) (fun w' hw'=>v4_ bw s (comP s).2.1 (comP s).2.2 64 w' gle (by omega) (hw'.has _ _ (List.mem_cons_of_mem _ List.mem_cons_self))) ?_
   refine kn ?_
   refine ko @ko_ ?_
   have hT2:comT s=qz_ s (comP s).2.1 (comP s).2.2 64:=rfl
   have htl:=VZ_ s (comP s).2.1 (comP s).2.2 64
   rw[hT2] at hcE
   generalize qz_ s (comP s).2.1 (comP s).2.2 64=tx at*
   obtain⟨tt,a3,e3⟩:=tx
   simp only at tp hcE htl ⊢
   have hPl: (comP s).1.length=g:=by rw[hP,Wc_]
   generalize (comP s).1=pl at*
   have hC: ∀w',Hp w ((bo,Obj.cells (roC (vp bw 0) (.slice none 0 0) T v tt).toArray 294 (0,0)):: (bw,Obj.cells #[vs s,vi a3,vi e3] 212 (0,0))::D) w'→ComS w' (.agg (v3_ T v tt).toArray) ⟨T,pl,tt⟩:=fun w' hw'=>
    ⟨v,rfl,hG.slM (fun b o hm=>hw'.has b o (by simp[hm])) hPl rfl xi_⟩
   have hE:Ext w [(bo,Obj.cells (roC (vp bw 0) (.slice none 0 0) id0 (.slice none 0 0) []).toArray 294 (0,0)),(bw,Obj.cells #[vs s,vi 0,vi 0] 212 (0,0))] ((bo,Obj.cells (roC (vp bw 0) (.slice none 0 0) T v tt).toArray 294 (0,0)):: (bw,Obj.cells #[vs s,vi a3,vi e3] 212 (0,0))::D):=by
    refine⟨fun c hc=> ?_,fun c hc=> ?_⟩
    ·simp only[keys,List.map_cons,List.map_nil,List.mem_cons,List.not_mem_nil,or_false] at hc ⊢
     rcases hc with h|h|h
     ·exact .inl (.inl h)
     ·exact .inl (.inr h)
     ·exact .inr (hN.le c h)
    ·simp only[keys,List.map_cons,List.map_nil,List.mem_cons,List.not_mem_nil,or_false] at hc ⊢
     rcases hc with h|h
     ·exact .inl h
     ·exact .inr (.inl h)
   have hF:Gr ((bo,Obj.cells (roC (vp bw 0) (.slice none 0 0) T v tt).toArray 294 (0,0)):: (bw,Obj.cells #[vs s,vi a3,vi e3] 212 (0,0))::D) 37 32 v pl.length (pl.map w3_).flatten:=by
    rw[hPl]
    exact hG.keep fun b o hb ho=>by
     have:=hN.le b (zu_ ho)
     simp(disch:=omega) only[qW_]
     exact ho
   unfold anD_
   rw[hcE]
   refine Ow.callFV rfl Tryz.call74 (fun w' hw'=>xI_ bw s a3 e3 w' (hw'.has _ _ (List.mem_cons_of_mem _ List.mem_cons_self))) ?_
   by_cases he:kB_ s a3 e3=0
   ·have d2: (kB_ s a3 e3==0)=true:=by simp[he]
    rw[d2]
    refine ko (And.intro @ko_ @d2) ?_
    refine Ow.callFV rfl Tryz.call231 (fun w' hw'=>aco_ _ _ w' (hC w' hw') (by show pl.length<1000000;omega) (by show tt.length<1099511627776;omega)) ?_
    refine ko @ko_ ?_
    first|with_reducible refine ks [] @ko_ ?_|refine kp @ko_ ?_
    refine⟨_,(ke @ko_), ?_⟩
    exact⟨hE,rfl,v,by simp only[zP_],hF⟩
   ·have d2: (kB_ s a3 e3==0)=false:=by simpa using he
    rw[d2]
    refine ko (And.intro @ko_ @d2) ?_
    first|with_reducible refine ks [] @ko_ ?_|refine kp @ko_ ?_
    refine⟨_,(ke @ko_), ?_⟩
    exact⟨hE,rfl,v,by simp only[zP_],hF⟩
end Go.Proofs
end
section
open Go Go.Proofs Go.Sx Go.StP
namespace Go.Proofs
set_option maxRecDepth 10000
set_option maxHeartbeats 400000
set_option linter.unusedSimpArgs false
theorem abt_ (v:Value) (w:World):Rets Tryz.prog 211 #[v] w (fun v' D=>v'= .bool true∧D= []):=by
 refine Rets.enterV Tryz.func211 rfl (rs:= [.tmp 2]) Tryz.results211 Tryz.ntmps211 ?_
 refine kf ?_
 first|with_reducible refine ks [] @Nat.add_zero ?_|refine kp @Nat.add_zero ?_
 refine⟨_,(ke @Nat.add_zero),trivial, ?_⟩
 rfl
abbrev obV (k:Int) (t:List UInt8):Value:= .agg #[vi k,vs t]
theorem qQ_ (k:Int) (t:List UInt8) (E:TypeId) (fz:Nat×Nat):zo_ (some (true,2)) (some (.cells #[vi k,vs t] E fz)) 0=some (obV k t):=(rfl)
theorem qh_ (k:Int) (t:List UInt8) (n:Nat) (E:TypeId) (fz:Nat×Nat):zo_ (some (false,n)) (some (.cells #[vi k,vs t] E fz)) 0=some (vi k):=(rfl)
theorem qf_ (k:Int) (t:List UInt8) (n:Nat) (E:TypeId) (fz:Nat×Nat):zo_ (some (false,n)) (some (.cells #[vi k,vs t] E fz)) 1=some (vs t):=(rfl)
theorem qn_ (k k':Int) (t t':List UInt8) (a:Bool) (E:TypeId):zl_ (some (a,2)) (some (.cells #[vi k',vs t'] E (0,0))) 0 (obV k t)=some (.cells #[vi k,vs t] E (0,0)):=(rfl)
set_option linter.defProp false
def js_:=And.intro (And.intro (@qQ_) (And.intro (@qh_) (@qf_))) (And.intro (@qn_) (And.intro (@zg_) (@zf_)))
def fnV (k:Nat):Value:= .func (.func k) #[] #[]
def fnsV:Array Value:= #[.nilFunc,fnV 211,fnV 212,fnV 213]
abbrev T4:TypeId:=292
theorem ahf_:qV_ (vo_ Tryz.prog T4) (zK_ Tryz.prog T4) [(1,fnV 211),(2,fnV 212),(3,fnV 213)]=some (.agg fnsV):=by
 have hp:vo_ Tryz.prog T4=some [(0,1),(1,1),(2,1),(3,1)]:=id (by kernel_rfl)
 have hz:zK_ Tryz.prog T4=some (.agg #[.nilFunc, .nilFunc, .nilFunc, .nilFunc]):=id (by kernel_rfl)
 rw[hp,hz];rfl
theorem apc_:zK_ Tryz.prog T4=some (.agg #[.nilFunc, .nilFunc, .nilFunc, .nilFunc]):=id (by kernel_rfl)
theorem aik_ (a:Bool) (E:TypeId):zl_ (some (a,4)) (some (.cells #[.nilFunc, .nilFunc, .nilFunc, .nilFunc] E (0,0))) 0 (.agg fnsV)=some (.cells fnsV E (0,0)):=(rfl)
theorem ai8_ (x:Value) (hx:x.cells= #[x]):qV_ (vo_ Tryz.prog 294) (zK_ Tryz.prog 294) [(0,x)]=some (.agg (roC x (.slice none 0 0) id0 (.slice none 0 0) []).toArray):=by
 have hp:vo_ Tryz.prog 294=some [(0,1),(1,1),(2,34)]:=id (by kernel_rfl)
 have hz:zK_ Tryz.prog 294=some (.agg (roC (.pointer none) (.slice none 0 0) id0 (.slice none 0 0) []).toArray):=id (by kernel_rfl)
 rw[hp,hz]
 simp only[qV_,fillV,List.getElem?_cons_zero,hx]
 rfl
def wP_ (k:Int) (t:List UInt8):Bool:=
 if 1≤k∧k≤3∧t.length≤4096 then
  (if k=1 then true else if k=2 then(kB_ t (kr_ t).2.1 (kr_ t).2.2==0&&Zq_ (kr_ t).1) else(kB_ t (ZF_ t).2.1 (ZF_ t).2.2==0&&K3_ (ZF_ t).1))
 else false
def RdS (k:Int) (t:List UInt8) (v:Value) (D:za_):Prop:=
 ∃p,v= .tuple #[p, .bool (wP_ k t)]∧(1≤k∧k≤3∧t.length≤4096→ ∃bo bw v1 c1 x1 y1,p=vp bo 0∧Sx.look D bo=some (.cells (roC (vp bw 0) v1 c1 x1 y1).toArray 294 (0,0))∧
  (k=2→Gr D 268 34 v1 (kr_ t).1.length ((kr_ t).1.map jr_).flatten)∧
  (k=3→c1=(ZF_ t).1.tree∧y1=(ZF_ t).1.text∧Gr D 37 32 x1 (ZF_ t).1.par.length ((ZF_ t).1.par.map w3_).flatten)∧(k≠2→v1= .slice none 0 0))
theorem aeY_ (k:Int) (t:List UInt8) (w:World):Rets Tryz.prog 179 #[obV k t] w (XS w [] (RdS k t)):=by
 refine Rets.enterX Tryz.func179 rfl (rs:= [.tmp 2, .tmp 3]) Tryz.results179 Tryz.ntmps179 (fun p hp=>by cases hp) (by simp[keys]) ?_
 refine kf ?_
 first|with_reducible refine ks [] @js_ ?_|refine kp @js_ ?_
 refine Ow.box rfl rfl fun b1 hb1 hw1=> ?_
 simp only[qy_,qr_,qs_,zd_,List.nil_append]
 refine ko @js_ ?_
 refine Ow.build (.agg fnsV) rfl ahf_ ?_
 refine ko @js_ ?_
 refine Ow.alloc rfl rfl apc_ fun b4 hb4 hw4=> ?_
 simp only[zd_,List.nil_append,List.cons_append]
 have h14:b1<b4:=zm_ hb4 (by simp[keys])
 refine ko (And.intro @js_ @aik_) ?_
 by_cases h1:k<1
 ·have d1:decide (k<1)=true:=decide_eq_true h1
  have e:wP_ k t=false:=by unfold wP_;rw[if_neg (by omega)]
  first|with_reducible refine ks [] (And.intro @js_ @d1) ?_|refine kp (And.intro @js_ @d1) ?_
  refine⟨_,(ke @js_), ?_⟩
  exact⟨Ext.of_new ⟨hw1,hw4,trivial⟩, .pointer none,by rw[e];rfl,fun h=>absurd h.1 (by omega)⟩
 ·have d1:decide (k<1)=false:=decide_eq_false h1
  by_cases h2:3<k
  ·have d2:decide (3<k)=true:=decide_eq_true h2
   have e:wP_ k t=false:=by unfold wP_;rw[if_neg (by omega)]
   first|with_reducible refine ks [] (And.intro @js_ (And.intro @d1 (@d2))) ?_|refine kp (And.intro @js_ (And.intro @d1 (@d2))) ?_
   refine⟨_,(ke @js_), ?_⟩
   exact⟨Ext.of_new ⟨hw1,hw4,trivial⟩, .pointer none,by rw[e];rfl,fun h=>absurd h.2.1 (by omega)⟩
  ·have d2:decide (3<k)=false:=decide_eq_false h2
   by_cases h3:4096<t.length
   ·have d3:decide (4096< (t.length:Int))=true:=decide_eq_true (by omega)
    have e:wP_ k t=false:=by unfold wP_;rw[if_neg (by omega)]
    first|with_reducible refine ks [] (And.intro @js_ (And.intro @d1 (And.intro @d2 (@d3)))) ?_|refine kp (And.intro @js_ (And.intro @d1 (And.intro @d2 (@d3)))) ?_
    refine⟨_,(ke @js_), ?_⟩
    exact⟨Ext.of_new ⟨hw1,hw4,trivial⟩, .pointer none,by rw[e];rfl,fun h=>absurd h.2.2 (by omega)⟩
   ·have d3:decide (4096< (t.length:Int))=false:=decide_eq_false (by omega)
    first|with_reducible refine ks [] (And.intro @js_ (And.intro @d1 (And.intro @d2 (@d3)))) ?_|refine kp (And.intro @js_ (And.intro @d1 (And.intro @d2 (@d3)))) ?_
    refine Ow.callF rfl rfl Tryz.call71 (S:=fun B v D=> ∃b',B≤b'∧v=vp b' 0∧D= [(b', .cells #[vs t,vi 0,vi 0] 212 (0,0))]) (fun w' hw'=>vq_ t w') ?_
    rintro B v D hab hB ⟨bw,hbw,rfl,rfl⟩
    obtain⟨h1B,h4B,-⟩:=hab
    refine⟨_,Mrg.fresh (by intro q hq;simp only[keys,List.map_cons,List.map_nil,List.mem_singleton] at hq;omega), ?_⟩
    simp only[List.cons_append,List.nil_append]
    refine ko @js_ ?_
    refine Ow.build (.agg (roC (vp bw 0) (.slice none 0 0) id0 (.slice none 0 0) []).toArray) rfl (ai8_ _ rfl) ?_
    refine ko @js_ ?_
    refine Ow.box rfl rfl fun bo hbo hwo=> ?_
    simp only[qy_,qr_,qs_,zd_,List.nil_append,List.cons_append]
    have hobw:bo≠bw:=by have:=zm_ hbo (show bw∈keys _ by simp[keys]);omega
    rcases(show k=1∨k=2∨k=3 by omega) with rfl|rfl|rfl
    ·have lf: ∀n E fz,zo_ (some (false,n)) (some (.cells fnsV E fz)) 1=some (fnV 211):=fun _ _ _=>rfl
     have e:wP_ 1 t=true:=by unfold wP_;rw[if_pos (by omega)];rfl
     refine ko (And.intro @js_ @lf) ?_
     refine Ow.callV rfl rfl Tryz.call211 (fun w' hw'=>by have:=abt_ (vp bo 0) w';simpa [qy_,qs_,qr_] using this) ?_
     refine ko @js_ ?_
     first|with_reducible refine ks [] @js_ ?_|refine kp @js_ ?_
     refine⟨_,(ke @js_), ?_⟩
     refine⟨Ext.of_new ⟨hw1,hw4,by omega,hwo,trivial⟩,vp bo 0,by rw[e];rfl,fun h=>⟨bo,bw, .slice none 0 0,id0, .slice none 0 0,[],rfl, ?_,fun h=>absurd h (by decide),fun h=>absurd h (by decide),fun _=>rfl⟩⟩
     have hb1o:b1≠bo:=by have:=zm_ hbo (show b1∈keys _ by simp[keys]);omega
     have hb4o:b4≠bo:=by have:=zm_ hbo (show b4∈keys _ by simp[keys]);omega
     simp(disch:=omega) only[zP_,qW_]
    ·have lf: ∀n E fz,zo_ (some (false,n)) (some (.cells fnsV E fz)) 2=some (fnV 212):=fun _ _ _=>rfl
     have e:wP_ 2 t=(kB_ t (kr_ t).2.1 (kr_ t).2.2==0&&Zq_ (kr_ t).1):=by unfold wP_;rw[if_pos (by omega)];rfl
     refine ko (And.intro @js_ @lf) ?_
     refine Ow.permL (M:= [(bo,Obj.cells (roC (vp bw 0) (.slice none 0 0) id0 (.slice none 0 0) []).toArray 294 (0,0)),(bw,Obj.cells #[vs t,vi 0,vi 0] 212 (0,0))]++ [(b1,Obj.cells #[vi 2,vs t] 43 (0,0)),(b4,Obj.cells fnsV 292 (0,0))]) (by classical exact List.perm_iff_count.2 fun a=>by simp only[List.count_append,List.count_cons,List.count_nil]<;>omega) ?_
     refine Ow.callFnX (b:=vp bo 0) (X:= [(bo,Obj.cells (roC (vp bw 0) (.slice none 0 0) id0 (.slice none 0 0) []).toArray 294 (0,0)),(bw,Obj.cells #[vs t,vi 0,vi 0] 212 (0,0))]) (Y:= [(b1,Obj.cells #[vi 2,vs t] 43 (0,0)),(b4,Obj.cells fnsV 292 (0,0))]) rfl rfl rfl rfl rfl Tryz.call212 (fun w' hw' hX hn=>aa9_ bo bw t w' (by omega) hobw (hX _ List.mem_cons_self) (hX _ (List.mem_cons_of_mem _ List.mem_cons_self))) (fun v D hC hS=> ?_)
     obtain⟨rfl,v1,hl1,hg1⟩:=hS
     have hNX:New w.heap.size (D++ [(b1,Obj.cells #[vi 2,vs t] 43 (0,0)),(b4,Obj.cells fnsV 292 (0,0))]):=by
      refine New.of_le fun c hc=> ?_
      rw[zi_,List.mem_append] at hc
      rcases hc with hc|hc
      ·rcases hC.new c hc with h| ⟨-,h⟩
       ·simp only[keys,List.map_cons,List.map_nil,List.mem_cons,List.not_mem_nil,or_false] at h;omega
       ·exact h
      ·simp only[keys,List.map_cons,List.map_nil,List.mem_cons,List.not_mem_nil,or_false] at hc;omega
     refine ko @js_ ?_
     first|with_reducible refine ks [] @js_ ?_|refine kp @js_ ?_
     refine⟨_,(ke @js_), ?_⟩
     exact⟨Ext.of_new hNX,vp bo 0,by rw[e];rfl,fun _=>⟨bo,bw,v1,_,_,_,rfl,q2_ hl1,fun _=>hg1.app,fun h=>absurd h (by decide),fun h=>absurd rfl h⟩⟩
    ·have lf: ∀n E fz,zo_ (some (false,n)) (some (.cells fnsV E fz)) 3=some (fnV 213):=fun _ _ _=>rfl
     have e:wP_ 3 t=(kB_ t (ZF_ t).2.1 (ZF_ t).2.2==0&&K3_ (ZF_ t).1):=by unfold wP_;rw[if_pos (by omega)];rfl
     refine ko (And.intro @js_ @lf) ?_
     refine Ow.permL (M:= [(bo,Obj.cells (roC (vp bw 0) (.slice none 0 0) id0 (.slice none 0 0) []).toArray 294 (0,0)),(bw,Obj.cells #[vs t,vi 0,vi 0] 212 (0,0))]++ [(b1,Obj.cells #[vi 3,vs t] 43 (0,0)),(b4,Obj.cells fnsV 292 (0,0))]) (by classical exact List.perm_iff_count.2 fun a=>by simp only[List.count_append,List.count_cons,List.count_nil]<;>omega) ?_
     refine Ow.callFnX (b:=vp bo 0) (X:= [(bo,Obj.cells (roC (vp bw 0) (.slice none 0 0) id0 (.slice none 0 0) []).toArray 294 (0,0)),(bw,Obj.cells #[vs t,vi 0,vi 0] 212 (0,0))]) (Y:= [(b1,Obj.cells #[vi 3,vs t] 43 (0,0)),(b4,Obj.cells fnsV 292 (0,0))]) rfl rfl rfl rfl rfl Tryz.call213 (fun w' hw' hX hn=>ae1_ bo bw t w' (by omega) hobw (hX _ List.mem_cons_self) (hX _ (List.mem_cons_of_mem _ List.mem_cons_self))) (fun v D hC hS=> ?_)
     obtain⟨rfl,p1,hl1,hg1⟩:=hS
     have hNX:New w.heap.size (D++ [(b1,Obj.cells #[vi 3,vs t] 43 (0,0)),(b4,Obj.cells fnsV 292 (0,0))]):=by
      refine New.of_le fun c hc=> ?_
      rw[zi_,List.mem_append] at hc
      rcases hc with hc|hc
      ·rcases hC.new c hc with h| ⟨-,h⟩
       ·simp only[keys,List.map_cons,List.map_nil,List.mem_cons,List.not_mem_nil,or_false] at h;omega
       ·exact h
      ·simp only[keys,List.map_cons,List.map_nil,List.mem_cons,List.not_mem_nil,or_false] at hc;omega
     refine ko @js_ ?_
     first|with_reducible refine ks [] @js_ ?_|refine kp @js_ ?_
     refine⟨_,(ke @js_), ?_⟩
     exact⟨Ext.of_new hNX,vp bo 0,by rw[e];rfl,fun _=>⟨bo,bw,_,_,p1,_,rfl,q2_ hl1,fun h=>absurd h (by decide),fun _=>⟨rfl,rfl,hg1.app⟩,fun _=>rfl⟩⟩
end Go.Proofs
end
section
open Go Go.Proofs Go.Sx Go.StP
namespace Go.Proofs
set_option maxRecDepth 10000
set_option maxHeartbeats 400000
set_option linter.unusedSimpArgs false
set_option linter.defProp false
def aaU_:=And.intro (And.intro (And.intro (@qQ_) (@qh_)) (And.intro (@qf_) (@qn_))) (And.intro (And.intro (@Sx.tup2_0) (@Sx.tup2_1)) (And.intro (@zg_) (@zf_)))
theorem Jc_ (k:Int) (t:List UInt8) (w:World):Rets Tryz.prog 156 #[obV k t] w (fun v D=>v= .bool (wP_ k t)∧D= []):=by
 refine Rets.enterV Tryz.func156 rfl (rs:= [.tmp 2]) Tryz.results156 Tryz.ntmps156 ?_
 refine kf ?_
 first|with_reducible refine ks [] @aaU_ ?_|refine kp @aaU_ ?_
 refine Ow.box rfl rfl fun b1 hb1 hw1=> ?_
 simp only[qy_,qr_,qs_,zd_,List.nil_append]
 refine ko @aaU_ ?_
 refine Ow.callC rfl rfl Tryz.call179 (fun w' hw'=>aeY_ k t w') (fun B v D hA hB hN hS=> ?_)
 obtain⟨p,rfl,-⟩:=hS
 refine ko @aaU_ ?_
 first|with_reducible refine ks [] @aaU_ ?_|refine kp @aaU_ ?_
 refine⟨_,(ke @aaU_),⟨hw1,New.mono hB hN⟩, ?_⟩
 rfl
def ard_ (k:Int) (t:List UInt8) (ok:Bool):Int:=if ok&&wP_ k t then k else 0
def aqA_ (k:Int) (t:List UInt8) (ok:Bool):List UInt8:=if ok&&wP_ k t then t else []
def aqb_ (k:Int) (t:List UInt8) (ok:Bool):Int:=if ok&&wP_ k t then 0 else 1
theorem zrOb:zK_ Tryz.prog 43=some (obV 0 []):=id (by kernel_rfl)
theorem Wk_:qV_ (vo_ Tryz.prog 43) (zK_ Tryz.prog 43) []=some (obV 0 []):=by
 have hp:vo_ Tryz.prog 43=some [(0,1),(1,1)]:=id (by kernel_rfl)
 rw[hp,zrOb];rfl
theorem ah9_ (k:Int) (t:List UInt8):qV_ (vo_ Tryz.prog 43) (zK_ Tryz.prog 43) [(0,vi k),(1,vs t)]=some (obV k t):=by
 have hp:vo_ Tryz.prog 43=some [(0,1),(1,1)]:=id (by kernel_rfl)
 rw[hp,zrOb];rfl
end Go.Proofs
end
section
open Go Go.Proofs Go.Sx Go.StP
namespace Go.Proofs
set_option maxRecDepth 10000
set_option maxHeartbeats 400000
set_option linter.unusedSimpArgs false
set_option linter.defProp false
def aqj_:=And.intro (And.intro (And.intro (@qQ_) (And.intro (@qh_) (@qf_))) (And.intro (@qn_) (And.intro (@Sx.tup2_0) (@Sx.tup2_1)))) (And.intro (And.intro (@vB_) (And.intro (@vz_) (@vE_))) (And.intro (And.intro (@Zz_) (@xN_)) (And.intro (@zg_) (@zf_))))
theorem BldAt.zeroE (b:Nat) {L:za_} (h:Sx.look L b=some (.cells #[.pointer none, .slice none 0 0] 123 (0,0))):BldAt b [] L:=
 ⟨_,_,h, .inl rfl, .nl,fun h=>by cases h⟩
theorem zrWr:zK_ Tryz.prog 123=some (.agg #[.pointer none, .slice none 0 0]):=id (by kernel_rfl)
theorem afn_ (x:IdL):wp_ Tryz.prog 30 1 [(0, .agg (a8 x.l))]=some (37,a8 x.l):=qA_ (cs:=x.l.map v8) Tryz.underlying30 Qo_ QS_ (by decide) (by simp[x.h])
theorem aio_ (x:IdL) {w':World} {b:Nat} (h:w'.heap[b]? =some (.cells (a8 x.l) 37 (0,0))):RowS 32 w3_ id0 w' (vsl b 0 1 1) [x] b 0 (a8 x.l) 37 (0,0):=RowS.sl rfl h (by
 intro k hk j hj
 obtain rfl:k=0:=by simpa using hk
 simp only[Nat.zero_mul,Nat.zero_add,List.getD_cons_zero]
 rw[←JX_,List.getElem?_toArray])
theorem Came.newE {w0:World} {L X D:za_} {b:Nat} (hC:Came w0 L X D) (hN:New (b+1) X) (hb:b∈keys L):New (b+1) D:=New.of_le fun c hc=>by
 rcases hC.new c hc with h| ⟨h,-⟩
 ·exact hN.le c h
 ·have:=zm_ h hb;omega
end Go.Proofs
end
section
open Go Go.Proofs Go.Sx Go.StP
namespace Go.Proofs
set_option maxRecDepth 10000
set_option maxHeartbeats 400000
set_option linter.unusedSimpArgs false
set_option linter.defProp false
def ap2_:=And.intro (And.intro (And.intro (@qQ_) (And.intro (@qh_) (@qf_))) (And.intro (And.intro (@qn_) (@Sx.tup2_0)) (And.intro (@Sx.tup2_1) (@kR_)))) (And.intro (And.intro (@vA_) (And.intro (@vG_) (@jn_))) (And.intro (And.intro (@z9_) (@qk_)) (And.intro (@zg_) (@zf_))))
structure WrG where
 g:Nat
 D:za_
end Go.Proofs
end
section
open Go Go.Proofs Go.Sx Go.StP
namespace Go.Proofs
set_option maxRecDepth 10000
set_option maxHeartbeats 400000
set_option linter.unusedSimpArgs false
theorem agd_ {k:Int} {t:List UInt8} (h:wP_ k t=true):1≤k∧k≤3∧t.length≤4096:=by
 unfold wP_ at h
 split at h
 ·assumption
 ·cases h
set_option linter.defProp false
def aqm_:=And.intro (And.intro (And.intro (@qQ_) (@qh_)) (And.intro (@qf_) (And.intro (@qn_) (@Sx.tup2_0)))) (And.intro (And.intro (@Sx.tup2_1) (And.intro (@Vt_) (@Va_))) (And.intro (@KQ_) (And.intro (@zg_) (@zf_))))
def ap0_ (k:Int) (t:List UInt8) (v:Value) (D:za_):Prop:=
 if wP_ k t=true∧k=2 then∃v1,v= .tuple #[v1,vi 0]∧Gr D 268 34 v1 (kr_ t).1.length ((kr_ t).1.map jr_).flatten else v= .tuple #[.slice none 0 0,vi 1]
def ap9_ (k:Int) (t:List UInt8) (v:Value) (D:za_):Prop:=
 if wP_ k t=true∧k=3 then∃p,v= .tuple #[.agg (v3_ (ZF_ t).1.tree p (ZF_ t).1.text).toArray,vi 0]∧Gr D 37 32 p (ZF_ t).1.par.length ((ZF_ t).1.par.map w3_).flatten else v= .tuple #[.agg (v3_ id0 (.slice none 0 0) []).toArray,vi 1]
end Go.Proofs
end
section
open Go Go.Proofs Go.Sx Go.StP
namespace Go.Proofs
set_option maxRecDepth 10000
set_option maxHeartbeats 400000
set_option linter.unusedSimpArgs false
set_option linter.defProp false
def vx_:=And.intro (And.intro (And.intro (@qQ_) (@qh_)) (And.intro (@qf_) (@qn_))) (And.intro (And.intro (@Sx.tup2_0) (@Sx.tup2_1)) (And.intro (@zg_) (@zf_)))
def wZ_ (k:Int):List UInt8:=(([32,98,116,99]:List UInt8).take (k+1).toNat).drop k.toNat
def kh_ (k:Int) (t:List UInt8):List UInt8:=wZ_ k++xq_ t
theorem abB_ (k:Int) (t:List UInt8) (w:World):Rets Tryz.prog 159 #[obV k t] w (XS w [] (fun v _=>v=if wP_ k t then .tuple #[vs (kh_ k t),vi 0] else .tuple #[vs [],vi 1])):=by
 refine Rets.enterX Tryz.func159 rfl (rs:= [.tmp 2, .tmp 3]) Tryz.results159 Tryz.ntmps159 (fun p hp=>by cases hp) (by simp[keys]) ?_
 refine kf ?_
 first|with_reducible refine ks [] @vx_ ?_|refine kp @vx_ ?_
 refine Ow.box rfl rfl fun b1 hb1 hw1=> ?_
 simp only[qy_,qr_,qs_,zd_,List.nil_append]
 refine ko @vx_ ?_
 refine Ow.callFV rfl Tryz.call156 (fun w' hw'=>Jc_ k t w') ?_
 cases hr:wP_ k t
 ·refine ko @vx_ ?_
  first|with_reducible refine ks [] @vx_ ?_|refine kp @vx_ ?_
  refine⟨_,(ke @vx_), ?_⟩
  exact⟨Ext.of_new ⟨hw1,trivial⟩,rfl⟩
 ·obtain⟨hk1,hk3,htl⟩:=agd_ hr
  have hhl: (wZ_ k).length≤4:=by unfold wZ_;simp only[List.length_drop,List.length_take,List.length_cons,List.length_nil];omega
  refine ko @vx_ ?_
  refine Ow.alloc rfl rfl zrWr fun b4 hb4 hw4=> ?_
  simp only[zd_,List.nil_append,List.cons_append]
  have h14:b1<b4:=zm_ hb4 (by simp[keys])
  refine Ow.permL (M:= [(b4,Obj.cells #[.pointer none, .slice none 0 0] 123 (0,0))]++ [(b1,Obj.cells #[vi k,vs t] 43 (0,0))]) (by classical exact List.perm_iff_count.2 fun a=>by simp only[List.count_append,List.count_cons,List.count_nil]<;>omega) ?_
  have hB0:BldAt b4 [] [(b4,Obj.cells #[.pointer none, .slice none 0 0] 123 (0,0))]:=BldAt.zeroE b4 (zP_ _ _ _)
  have hN0:New (b1+1) [(b4,Obj.cells #[.pointer none, .slice none 0 0] 123 (0,0))]:=⟨by omega,trivial⟩
  generalize [(b4,Obj.cells #[.pointer none, .slice none 0 0] 123 (0,0))]=D0 at hB0 hN0 ⊢
  have rdc: ∀ {D},New (b1+1) D→ ∀M,zB_ w (D++ (b1,Obj.cells #[vi k,vs t] 43 (0,0))::M) b1=some (.cells #[vi k,vs t] 43 (0,0)):=fun hn M=>z6_ (by rw[qH_ (hn.not (by omega))];exact zP_ _ _ _)
  have r0:=rdc hN0
  have hsl:xm_ .str (vs ([32,98,116,99]:List UInt8)) (some (some k)) (some (some (k+1)))=some (vs (wZ_ k)):=wm_ _ _ _ ⟨by omega,by omega,by simp only[List.length_cons,List.length_nil];omega⟩
  refine ko (And.intro @vx_ (And.intro @r0 (@hsl))) ?_
  refine Ow.buildSlice (e:=9) #[vs (wZ_ k)] rfl rfl (by kernel_rfl) fun b14 hb14 hw14=> ?_
  have h114:b1<b14:=zm_ hb14 (by simp[keys])
  have hD14:b14∉keys D0:=fun hm=>Nat.lt_irrefl _ (zm_ hb14 (by rw[zi_];exact List.mem_append_left _ hm))
  refine ko @vx_ ?_
  refine Ow.callX (Y:= [(b1,Obj.cells #[vi k,vs t] 43 (0,0)),(b14,Obj.cells #[vs (wZ_ k)] 9 (0,0))]) (by simp) rfl rfl Tryz.call60 (fun w' hw' hX hn=>kP_ b4 D0 _ _ b14 0 [wZ_ k] _ _ _ w' hB0 hX hn (StrS.lit [wZ_ k] rfl rfl (hw'.has _ _ (List.mem_append_right _ List.mem_cons_self))) (fun _=>hD14) (by simp;omega) (by simp)) (fun u0 E0 hC0 hS0=> ?_)
  obtain⟨rfl,hB0'⟩:=hS0
  have hN0':=Came.newE hC0 hN0 (by simp[keys])
  have hB1:=hB0'.app (Y:= [(b14,Obj.cells #[vs (wZ_ k)] 9 (0,0))])
  have hN1:=hN0'.app (show New (b1+1) [(b14,Obj.cells #[vs (wZ_ k)] 9 (0,0))] from⟨by omega,trivial⟩)
  refine Ow.permL (M:=(E0++ [(b14,Obj.cells #[vs (wZ_ k)] 9 (0,0))])++ [(b1,Obj.cells #[vi k,vs t] 43 (0,0))]) (by classical exact List.perm_iff_count.2 fun a=>by simp only[List.count_append,List.count_cons,List.count_nil]<;>omega) ?_
  generalize E0++ [(b14,Obj.cells #[vs (wZ_ k)] 9 (0,0))]=F1 at hB1 hN1 ⊢
  simp only[List.flatten_cons,List.flatten_nil,List.append_nil,List.nil_append] at hB1
  have r1:=rdc hN1
  refine ko (And.intro @vx_ @r1) ?_
  have htx:xY_ [t]=xq_ t:=by simp[xY_]
  have tll:=agL_ (s:=t) (by omega)
  have tnl: (xq_ t).length=(qS_ (zJ_ t.length)).length+t.length:=by unfold xq_;rw[List.length_append]
  have nl1:=zp_ (t.length:Int)
  refine Ow.buildSlice (e:=9) #[vs t] rfl rfl (by kernel_rfl) fun b18 hb18 hw18=> ?_
  have h118:b1<b18:=zm_ hb18 (by simp[keys])
  have hD18:b18∉keys F1:=fun hm=>Nat.lt_irrefl _ (zm_ hb18 (by rw[zi_];exact List.mem_append_left _ hm))
  refine ko @vx_ ?_
  refine Ow.callX (Y:= [(b1,Obj.cells #[vi k,vs t] 43 (0,0)),(b18,Obj.cells #[vs t] 9 (0,0))]) (by simp) rfl rfl Tryz.call62 (fun w' hw' hX hn=>XP_ b4 F1 _ _ b18 0 [t] _ _ _ w' hB1 hX hn (StrS.lit [t] rfl rfl (hw'.has _ _ (List.mem_append_right _ List.mem_cons_self))) (fun _=>hD18) (by rw[htx];omega) (by simp)) (fun u1 E1 hC1 hS1=> ?_)
  obtain⟨rfl,hB1'⟩:=hS1
  have hN1':=Came.newE hC1 hN1 (by simp[keys])
  have hB2:=hB1'.app (Y:= [(b18,Obj.cells #[vs t] 9 (0,0))])
  have hN2:=hN1'.app (show New (b1+1) [(b18,Obj.cells #[vs t] 9 (0,0))] from⟨by omega,trivial⟩)
  refine Ow.permL (M:=(E1++ [(b18,Obj.cells #[vs t] 9 (0,0))])++ [(b1,Obj.cells #[vi k,vs t] 43 (0,0))]) (by classical exact List.perm_iff_count.2 fun a=>by simp only[List.count_append,List.count_cons,List.count_nil]<;>omega) ?_
  generalize E1++ [(b18,Obj.cells #[vs t] 9 (0,0))]=F2 at hB2 hN2 ⊢
  rw[htx] at hB2
  refine ko @vx_ ?_
  refine Ow.callX (Y:= [(b1,Obj.cells #[vi k,vs t] 43 (0,0))]) (by simp) rfl rfl Tryz.call64 (fun w' hw' hX hn=>kf_ b4 F2 _ w' hB2 hX hn (by rw[List.length_append];omega)) (fun v5 D5 hC5 hS5=> ?_)
  obtain rfl:=hS5
  have hN5:=Came.newE hC5 hN2 (by simp[keys])
  refine ko @vx_ ?_
  first|with_reducible refine ks [] @vx_ ?_|refine kp @vx_ ?_
  refine⟨_,(ke @vx_), ?_⟩
  exact⟨Ext.of_new ((New.mono (by omega) hN5).app ⟨hw1,trivial⟩),rfl⟩
end Go.Proofs
end
section
open Go Go.Proofs Go.Sx Go.StP
namespace Go.Proofs
set_option maxRecDepth 10000
set_option maxHeartbeats 400000
set_option linter.unusedSimpArgs false
set_option linter.defProp false
def aqB_:=And.intro (And.intro (And.intro (@qQ_) (@qh_)) (And.intro (@qf_) (@qn_))) (And.intro (And.intro (@Sx.tup2_0) (@Sx.tup2_1)) (And.intro (@xN_) (And.intro (@zg_) (@zf_))))
def ane_ (k:Int) (t:List UInt8):Bool:=if 4096<t.length then false else if k=2 then(anj_ t).isSome else if k=3 then(aoc_ t).isSome else k==1
end Go.Proofs
end
section
open Go Go.Proofs Go.Sx Go.StP
namespace Go.Proofs
set_option maxRecDepth 10000
set_option maxHeartbeats 400000
set_option linter.unusedSimpArgs false
theorem afL_ (n:Nat):0< (qS_ n).length:=by
 by_cases h:n<128
 ·rw[jm_ h];simp
 ·rw[Zm_ h];simp
theorem aa5_ (most:Int): ∀ (l:List UInt8) (k acc m k':Nat),qD_ most l k acc= .ok (m,k')→ ∃n,l=qS_ n++l.drop (k' - k)∧m=acc+n*128^k∧(0<k→0<n)∧k<k':=by
 intro l
 induction l with
 |nil=>intro k acc m k' h;simp[qD_] at h
 |cons c r ih=>
  intro k acc m k' h
  unfold qD_ at h
  have hcl:=c.toNat_lt
  split at h
  ·rename_i hc
   split at h
   ·cases h
   ·obtain⟨n,h1,h2,h3,h4⟩:=ih _ _ _ _ h
    have hn:=h3 (by omega)
    refine⟨c.toNat%128+128*n, ?_, ?_,fun _=>by omega,by omega⟩
    ·rw[Zm_ (by omega),show(c.toNat%128+128*n) / 128=n by omega,show(c.toNat%128+128*n)%128+128=c.toNat by omega]
     rw[show k' - k=(k' - (k+1))+1 by omega,List.drop_succ_cons,List.cons_append,←h1]
     simp
    ·rw[h2,Nat.pow_succ,Nat.add_mul,Nat.add_assoc]
     congr 2
     rw[Nat.mul_comm 128 n,Nat.mul_assoc,Nat.mul_comm (128^k) 128]
  ·rename_i hc
   split at h
   ·cases h
   ·rename_i hz
    split at h
    ·cases h
     refine⟨c.toNat, ?_, ?_,fun hk=>by omega,by omega⟩
     ·rw[jm_ (by omega),Nat.add_sub_cancel_left]
      simp
     ·rw[Nat.mod_eq_of_lt (by omega)]
    ·cases h
theorem jZ_ {n:Nat} (h:n≤1099511627775):zJ_ (n:Int)=n:=aeU_ (by omega)
theorem Z8_ (most:Int): ∀ (l:List UInt8) (k n m k':Nat),qD_ most l k n= .ok (m,k')→m≤1099511627775
 | [],_,_,_,_,h=>by simp[qD_] at h
 |c::r,k,n,m,k',h=>by
  unfold qD_ at h
  split at h
  ·split at h
   ·cases h
   ·exact Z8_ most r _ _ _ _ h
  ·split at h
   ·cases h
   ·split at h
    ·rename_i hh
     cases h
     exact hh.1
    ·cases h
theorem adX_ {s:List UInt8} {a:Nat} {most:Int} (h: (zq_ s a 0 most).2.2=0): ∃n:Nat,(zq_ s a 0 most).1=(n:Int)∧n≤1099511627775∧(n:Int)≤most∧s.drop a=qS_ n++s.drop (zq_ s a 0 most).2.1:=by
 unfold zq_ at h ⊢
 rw[if_neg (by simp)] at h ⊢
 cases hg:qD_ most (s.drop a) 0 0 with
 |ok p=>
  obtain⟨m,k⟩:=p
  obtain⟨n,h1,h2,-,-⟩:=aa5_ _ _ _ _ _ _ hg
  obtain rfl:m=n:=by rw[h2];simp
  refine⟨m,rfl,Z8_ _ _ _ _ _ _ hg,wv_ _ _ _ _ _ _ hg, ?_⟩
  rw[Nat.sub_zero,List.drop_drop] at h1
  exact h1
 |error x=>
  rw[hg] at h
  exfalso
  have:x=0:=by have: ((x:Nat):Int)=0:=h;omega
  subst this
  exact ahZ_ _ _ _ _ hg
theorem ad1_ {s:List UInt8} {a:Nat} {n:Int} (ha:a≤s.length) (h: (jq_ s a 0 n).2.2=0):0≤n∧(jq_ s a 0 n).1.length=n.toNat∧s.drop a=(jq_ s a 0 n).1++s.drop (jq_ s a 0 n).2.1:=by
 unfold jq_ at h ⊢
 rw[if_neg (by simp)] at h ⊢
 split at h
 ·exact absurd (show(2:Int)=0 from h) (by decide)
 ·rename_i h1
  rw[if_neg h1]
  split at h
  ·exact absurd (show(3:Int)=0 from h) (by decide)
  ·rename_i h2
   rw[if_neg h2]
   refine⟨by omega, ?_, ?_⟩
   ·simp only[List.length_take,List.length_drop];omega
   ·simp only
    rw[←List.drop_drop,List.take_append_drop]
theorem acu_ (most:Int) (r:List UInt8): ∀ (n k acc:Nat),(0<k→0<n)→k+ (qS_ n).length≤6→acc+n*128^k≤1099511627775→((acc+n*128^k:Nat):Int)≤most→
  qD_ most (qS_ n++r) k acc= .ok (acc+n*128^k,k+ (qS_ n).length):=by
 intro n
 induction n using Nat.strongRecOn with
 |ind n ih=>
  intro k acc hk hl hs hm
  by_cases h:n<128
  ·rw[jm_ h,List.cons_append,List.nil_append,qD_]
   have hc: (UInt8.ofNat n).toNat=n:=by rw[UInt8.toNat_ofNat'];omega
   rw[hc,Nat.mod_eq_of_lt h,if_neg (by omega),if_neg (by omega),if_pos ⟨hs,hm⟩]
   rfl
  ·have hb:=Zm_ h
   rw[hb] at hl ⊢
   rw[List.cons_append,qD_]
   have hc: (UInt8.ofNat (n%128+128)).toNat=n%128+128:=by rw[UInt8.toNat_ofNat'];omega
   have hp:=afL_ (n / 128)
   rw[List.length_cons] at hl
   have e:acc+ (n%128+128)%128*128^k+n / 128*128^ (k+1)=acc+n*128^k:=by
    have h1: (n%128+128)%128=n%128:=by omega
    rw[h1,Nat.pow_succ,Nat.add_assoc]
    congr 1
    have h2:n / 128* (128^k*128)=(n / 128*128)*128^k:=by rw[Nat.mul_comm (128^k),Nat.mul_assoc]
    rw[h2,←Nat.add_mul]
    congr 1
    omega
   rw[hc,if_pos (by omega),if_neg (by omega),ih (n / 128) (by omega) (k+1) _ (fun _=>by omega) (by omega) (by rw[e];exact hs) (by rw[e];exact hm),e,List.length_cons]
   congr 2
   omega
theorem xZ_ (A r:List UInt8) (n:Nat) (most:Int) (hn:n≤1099511627775) (hm: (n:Int)≤most):zq_ (A++ (qS_ n++r)) A.length 0 most=((n:Int),A.length+ (qS_ n).length,0):=by
 have hl:=vj_ 6 n (by omega) (by omega)
 have h:=acu_ most r n 0 0 (fun h=>absurd h (Nat.lt_irrefl 0)) (by omega) (by simpa using hn) (by simpa using hm)
 simp only[Nat.pow_zero,Nat.mul_one,Nat.zero_add] at h
 exact aa7_ rfl (by rw[List.drop_left];exact h)
theorem wT_ (A x r:List UInt8):jq_ (A++ (x++r)) A.length 0 (x.length:Int)=(x,A.length+x.length,0):=by
 unfold jq_
 rw[if_neg (by simp),if_neg (by omega),if_neg (by simp only[List.length_append];omega),List.drop_left,Int.toNat_natCast,List.take_left]
theorem aei_ (A t r:List UInt8) (most:Int) (hn:t.length≤1099511627775) (hm: (t.length:Int)≤most):qz_ (A++ (xq_ t++r)) A.length 0 most=(t,A.length+ (xq_ t).length,0):=by
 have h1:=xZ_ A (t++r) t.length most hn hm
 have h2:=wT_ (A++qS_ t.length) t r
 unfold qz_ xq_
 rw[jZ_ (by omega)]
 rw[List.append_assoc,h1]
 simp only
 rw[List.append_assoc,List.length_append] at h2
 rw[h2]
 simp only[ne_eq,not_true_eq_false, ↓reduceIte,List.length_append,Nat.add_assoc]
theorem ajs_ (A r:List UInt8) (i:IdL):idR (A++ (i.l++r)) A.length 0=(i.l,A.length+32,0):=by
 have h:=wT_ A i.l r
 have hi:=i.h
 rw[hi] at h
 unfold idR
 rw[show(32:Int)=((32:Nat):Int) from rfl,h]
 simp only[hi, ↓reduceIte]
theorem amh_ (i:IdL):wD_ i.l=i:=by unfold wD_;rw[dif_pos i.h]
def an8_ (l:List EntL):Prop:= ∀x,x∈l→0≤x.kind∧x.kind≤2∧x.name.length≤32
end Go.Proofs
end
section
open Go Go.Proofs Go.Sx Go.StP
namespace Go.Proofs
set_option maxRecDepth 10000
set_option maxHeartbeats 400000
set_option linter.unusedSimpArgs false
theorem aaF_ (s:List UInt8) (c:UInt8) (w:World): (callFunc 228 #[vs s,v8 c]).run Tryz.prog w= .ok (.value (vi (Lib.indexByte s c))) w:=by
 rw[run_callFunc_extern Tryz.func228 (by kernel_rfl) (by kernel_rfl) (by kernel_rfl) (e:=Extern.BytealgIndexByte.indexByte) (by kernel_rfl)]
 have h:=Lib.run_indexByteString (P:=Tryz.prog) ⟨s.toArray⟩ (c.toNat:Int) w
 have e: ((c.toNat:Int)).toNat.toUInt8=c:=by simp
 rw[e] at h
 show((Extern.BytealgIndexByte.indexByte #[.string ⟨s.toArray⟩, .int .u8 (c.toNat:Int)]).run Tryz.prog w).andThen _=_
 rw[h];rfl
theorem Xf_ (s:List UInt8) (c:UInt8) (w:World):Rets Tryz.prog 207 #[vs s,v8 c] w (fun v D=>v=vi (Lib.indexByte s c)∧D= []):=by
 refine Rets.enterV Tryz.func207 rfl (rs:= [.tmp 4]) Tryz.results207 Tryz.ntmps207 ?_
 refine kf ?_
 first|with_reducible refine ks [] @Nat.add_zero ?_|refine kp @Nat.add_zero ?_
 refine Ow.callExt rfl rfl (fun w=>aaF_ s c w) ?_
 refine ko @Nat.add_zero ?_
 first|with_reducible refine ks [] @Nat.add_zero ?_|refine kp @Nat.add_zero ?_
 refine⟨_,(ke @Nat.add_zero),trivial, ?_⟩
 rfl
def idxT (s:List UInt8):List UInt8→Int
 | []=>0
 |c::_=>Lib.indexByte s c
theorem JE_ (s x:List UInt8) (w:World) (hx:x.length≤1) (hs:2≤s.length) (_hsl:s.length<1099511627776):Rets Tryz.prog 178 #[vs s,vs x] w (fun v D=>v=vi (idxT s x)∧D= []):=by
 refine Rets.enterV Tryz.func178 rfl (rs:= [.tmp 4]) Tryz.results178 Tryz.ntmps178 ?_
 refine kf ?_
 match x,hx with
 | [],_=>
  have d1: (((([]:List UInt8).length:Nat):Int)==0)=true:=rfl
  first|with_reducible refine ks [] @d1 ?_|refine kp @d1 ?_
  refine⟨_,(ke @Nat.add_zero),trivial, ?_⟩
  rfl
 | [c],_=>
  have d1: ((([c]:List UInt8).length:Int)==0)=false:=rfl
  have d2: ([c]==s)=false:=beq_eq_false_iff_ne.2 fun e=>by rw[←e] at hs;simp at hs
  have d3: ((([c]:List UInt8).length:Int)==1)=true:=rfl
  have i0: ([c]:List UInt8).getD 0 0=c:=rfl
  first|with_reducible refine ks [] (And.intro @d1 (And.intro @d2 (And.intro @d3 (@i0)))) ?_|refine kp (And.intro @d1 (And.intro @d2 (And.intro @d3 (@i0)))) ?_
  refine Ow.callFV rfl Tryz.call207 (fun w' hw'=>Xf_ s c w') ?_
  refine ko @Nat.add_zero ?_
  first|with_reducible refine ks [] @Nat.add_zero ?_|refine kp @Nat.add_zero ?_
  refine⟨_,(ke @Nat.add_zero),trivial, ?_⟩
  rfl
theorem aeI_ (s x:List UInt8) (w:World) (hx:x.length≤1) (hs:2≤s.length) (hsl:s.length<1099511627776):Rets Tryz.prog 155 #[vs s,vs x] w (fun v D=>v=vi (idxT s x)∧D= []):=by
 refine Rets.enterV Tryz.func155 rfl (rs:= [.tmp 4]) Tryz.results155 Tryz.ntmps155 ?_
 refine kf ?_
 first|with_reducible refine ks [] @Nat.add_zero ?_|refine kp @Nat.add_zero ?_
 refine Ow.callFV rfl Tryz.call178 (fun w' hw'=>JE_ s x w' hx hs hsl) ?_
 refine ko @Nat.add_zero ?_
 first|with_reducible refine ks [] @Nat.add_zero ?_|refine kp @Nat.add_zero ?_
 refine⟨_,(ke @Nat.add_zero),trivial, ?_⟩
 rfl
abbrev letL:List UInt8:= [32,98,116,99]
def frR (s:List UInt8):List UInt8×Nat×Int:=jq_ s 0 0 1
def frT (s:List UInt8):List UInt8×Nat×Int:=qz_ s (frR s).2.1 (frR s).2.2 4096
def frK (s:List UInt8):Int:=idxT letL (frR s).1
def frOk (s:List UInt8):Bool:=kB_ s (frT s).2.1 (frT s).2.2==0&&wP_ (frK s) (frT s).1
theorem ame_ (s:List UInt8): (frR s).1.length≤1:=by
 unfold frR jq_
 rw[if_neg (by simp),if_neg (by decide)]
 split
 ·simp
 ·simp only[List.length_take,Int.toNat_one];omega
def ak0_ (s:List UInt8) (v:Value):Prop:=v= .tuple #[obV (if frOk s then frK s else 0) (if frOk s then(frT s).1 else []),vi (if frOk s then 0 else 2)]
set_option linter.defProp false
def xn_:=And.intro (And.intro (And.intro (@qQ_) (@qh_)) (And.intro (@qf_) (@qn_))) (And.intro (And.intro (@Sx.tup2_0) (@Sx.tup2_1)) (And.intro (@zg_) (@zf_)))
theorem ad9_ (s:List UInt8) (w:World) (hs:s.length<100000):Rets Tryz.prog 123 #[vs s] w (fun v D=>ak0_ s v∧D= []):=by
 refine Rets.enterV Tryz.func123 rfl (rs:= [.cell 2 43, .tmp 3]) Tryz.results123 Tryz.ntmps123 ?_
 refine kf ?_
 first|with_reducible refine ks [] @xn_ ?_|refine kp @xn_ ?_
 refine Ow.alloc rfl rfl zrOb fun b2 hb2 hw2=> ?_
 simp only[zd_,List.nil_append,List.cons_append]
 refine ko @xn_ ?_
 refine Ow.callF rfl rfl Tryz.call71 (S:=fun B v D=> ∃b',B≤b'∧v=vp b' 0∧D= [(b', .cells #[vs s,vi 0,vi 0] 212 (0,0))]) (fun w' hw'=>vq_ s w') ?_
 rintro B v D hab hB ⟨bw,hbw,rfl,rfl⟩
 obtain⟨h2B,-⟩:=hab
 refine⟨_,Mrg.fresh (by intro q hq;simp only[keys,List.map_cons,List.map_nil,List.mem_singleton] at hq;omega), ?_⟩
 simp only[List.cons_append,List.nil_append]
 refine Ow.permL (M:= [(bw, .cells #[vs s,vi 0,vi 0] 212 (0,0)),(b2,Obj.cells #[vi 0,vs []] 43 (0,0))]) (by classical exact List.perm_iff_count.2 fun a=>by simp only[List.count_append,List.count_cons,List.count_nil]<;>omega) ?_
 have hne:bw≠b2:=by omega
 refine ko @xn_ ?_
 first|with_reducible refine ks [] @xn_ ?_|refine kp @xn_ ?_
 refine Ow.callM rfl rfl Tryz.call94 (by simp[keys]) (fun w' hw'=>vH_ bw s 0 0 1 w' (Nat.zero_le _) (by omega) (hw'.has _ _ List.mem_cons_self)) ?_
 have r1:=x0_ (s:=s) (a:=0) (e:=0) (n:=1) (Nat.zero_le _)
 have r2:=ame_ s
 have hT:frT s=qz_ s (frR s).2.1 (frR s).2.2 4096:=rfl
 have hK:frK s=idxT letL (frR s).1:=rfl
 have hO:frOk s=(kB_ s (frT s).2.1 (frT s).2.2==0&&wP_ (frK s) (frT s).1):=rfl
 unfold ak0_
 rw[show jq_ s 0 0 1=frR s from rfl] at r1 ⊢
 generalize frR s=p at*
 obtain⟨x,a1,e1⟩:=p
 simp only at r1 r2 hT hK ⊢
 refine kn ?_
 refine ko @xn_ ?_
 refine Ow.callFV rfl Tryz.call155 (fun w' hw'=>aeI_ letL x w' r2 (by decide) (by decide)) ?_
 rw[←hK]
 refine ko @xn_ ?_
 refine Ow.callM rfl rfl Tryz.call96 (by simp[keys]) (fun w' hw'=>v4_ bw s a1 e1 4096 w' r1.2 (by omega) (hw'.has _ _ List.mem_cons_self)) ?_
 rw[←hT]
 generalize frT s=q at*
 obtain⟨tt,a2,e2⟩:=q
 simp only at hO ⊢
 refine kn ?_
 refine ko @xn_ ?_
 refine Ow.build (obV (frK s) tt) rfl (ah9_ _ tt) ?_
 refine ko @xn_ ?_
 refine Ow.alloc rfl rfl zrOb fun b5 hb5 hw5=> ?_
 simp only[zd_,List.nil_append,List.cons_append]
 have h5w:bw<b5:=zm_ hb5 (by simp[keys])
 have h52:b2<b5:=zm_ hb5 (by simp[keys])
 refine ko @xn_ ?_
 refine Ow.callFV rfl Tryz.call74 (fun w' hw'=>xI_ bw s a2 e2 w' (hw'.has _ _ List.mem_cons_self)) ?_
 by_cases he:kB_ s a2 e2=0
 ·have d1: (kB_ s a2 e2 !=0)=false:=by simp[he]
  have d1': (kB_ s a2 e2==0)=true:=by simp[he]
  rw[d1',Bool.true_and] at hO
  refine ko (And.intro @xn_ @d1) ?_
  refine Ow.callFV rfl Tryz.call156 (fun w' hw'=>Jc_ (frK s) tt w') ?_
  rw[hO]
  cases hr:wP_ (frK s) tt
  ·refine ko @xn_ ?_
   refine Ow.build (obV 0 []) rfl Wk_ ?_
   refine ko @xn_ ?_
   first|with_reducible refine ks [] @xn_ ?_|refine kp @xn_ ?_
   refine⟨_,(ke @xn_),⟨by omega,hw2,hw5,trivial⟩, ?_⟩
   rfl
  ·refine ko @xn_ ?_
   first|with_reducible refine ks [] @xn_ ?_|refine kp @xn_ ?_
   refine⟨_,(ke @xn_),⟨by omega,hw2,hw5,trivial⟩, ?_⟩
   rfl
 ·have d1: (kB_ s a2 e2 !=0)=true:=by simpa using he
  have d1': (kB_ s a2 e2==0)=false:=by simpa using he
  rw[d1',Bool.false_and] at hO
  rw[hO]
  refine ko (And.intro @xn_ @d1) ?_
  refine Ow.build (obV 0 []) rfl Wk_ ?_
  refine ko @xn_ ?_
  first|with_reducible refine ks [] @xn_ ?_|refine kp @xn_ ?_
  refine⟨_,(ke @xn_),⟨by omega,hw2,hw5,trivial⟩, ?_⟩
  rfl
end Go.Proofs
end
section
open Go Go.Proofs Go.Sx Go.StP
namespace Go.Proofs
set_option maxRecDepth 10000
set_option maxHeartbeats 400000
set_option linter.unusedSimpArgs false
def fkC (c:UInt8):Int:=if c=98 then 1 else if c=116 then 2 else if c=99 then 3 else 0
def lfT (r:List UInt8):List UInt8×Nat×Int:=qz_ r 0 0 4096
def lfK (s:List UInt8):Int:=match s with| []=>0|c::_=>fkC c
def lfOk (s:List UInt8):Bool:=lfK s !=0&&kB_ (s.drop 1) (lfT (s.drop 1)).2.1 (lfT (s.drop 1)).2.2==0&&ane_ (lfK s) (lfT (s.drop 1)).1
def apV_ (s:List UInt8) (v:Value):Prop:=v= .tuple #[obV (if lfOk s then lfK s else 0) (if lfOk s then(lfT (s.drop 1)).1 else []), .bool (lfOk s)]
theorem aie_ (k k':Int) (t:List UInt8) (a:Bool) (E:TypeId):zl_ (some (a,1)) (some (.cells #[vi k',vs t] E (0,0))) 0 (vi k)=some (.cells #[vi k,vs t] E (0,0)):=(rfl)
theorem agh_ (k:Int) (t t':List UInt8) (a:Bool) (E:TypeId):zl_ (some (a,1)) (some (.cells #[vi k,vs t'] E (0,0))) 1 (vs t)=some (.cells #[vi k,vs t] E (0,0)):=(rfl)
set_option linter.defProp false
def aq9_:=And.intro (And.intro (And.intro (@qQ_) (@qh_)) (And.intro (@qf_) (And.intro (@qn_) (@aie_)))) (And.intro (And.intro (@agh_) (@Sx.tup2_0)) (And.intro (@Sx.tup2_1) (And.intro (@zg_) (@zf_))))
end Go.Proofs
end
namespace Go.Flo
open Go Ieee
abbrev F (n:Int):Nat:=FloatKind.f64.nearest n
def dat (n:Int):Datum:= .number (decide (n<0)) (n.natAbs*2^ (52 - n.natAbs.log2)) ((n.natAbs.log2:Int) - 52)
theorem ak4_ {a:Nat} (h:a<8192):a.log2<13∨a=0:=by
 by_cases h0:a=0
 ·exact .inr h0
 ·exact .inl ((Nat.log2_lt h0).2 h)
theorem dec0:FloatKind.f64.decode (F 0)= .number false 0 (-1074):=by kernel_rfl
theorem akq_ (neg:Bool) (n:Nat):Toward.even.cut neg n 0=n:=by
 simp[Toward.cut,Nat.mod_one]
theorem dec {n:Int} (h0:n≠0) (h:n.natAbs<8192):FloatKind.f64.decode (F n)=dat n:=by
 have ha:n.natAbs≠0:=by omega
 generalize hm:n.natAbs=a at*
 have hl:a.log2<13:=(Nat.log2_lt ha).2 h
 have hlo:2^a.log2≤a:=Nat.log2_self_le ha
 have hhi:a<2^ (a.log2+1):=Nat.lt_log2_self
 generalize hk:a.log2=k at*
 have hp:2^ (52 - k)*2^k=2^52:=by rw[←Nat.pow_add];congr 1;omega
 have hp1:2^ (k+1)=2*2^k:=by rw[Nat.pow_succ];omega
 have e1:2^52≤a*2^ (52 - k):=by
  rw[←hp,Nat.mul_comm];exact Nat.mul_le_mul_right _ hlo
 have e2:a*2^ (52 - k)<2*2^52:=by
  have h1:=Nat.mul_lt_mul_of_pos_right hhi (show 0<2^ (52 - k) from Nat.pow_pos (by omega))
  rw[hp1,Nat.mul_assoc,Nat.mul_comm (2^k),hp] at h1
  exact h1
 have hw:F n=Ieee.double.word (decide (n<0)) ((k+1022)*2^52+a*2^ (52 - k)):=by
  show Ieee.double.nearest (decide (n<0)) n.natAbs 0=_
  rw[hm]
  unfold Format.nearest
  rw[if_neg ha,hk]
  have hlast:max ((0:Int)+ (k:Int) - (Ieee.double.fractionBits:Int)) Ieee.double.leastPlace=(k:Int) - 52:=by
   have e3:Ieee.double.leastPlace= -1074:=by decide
   have e4: (Ieee.double.fractionBits:Int)=52:=rfl
   rw[e3,e4];omega
  rw[hlast]
  have e5: ((k:Int) - 52 - 0).toNat=0:=by omega
  have e6: ((0:Int) - ((k:Int) - 52)).toNat=52 - k:=by omega
  simp only[e5,e6,akq_,Nat.shiftLeft_eq]
  have e7: ((k:Int) - 52 - Ieee.double.leastPlace).toNat=k+1022:=by
   have e3:Ieee.double.leastPlace= -1074:=by decide
   rw[e3];omega
  have e8:Ieee.double.binade=2^52:=rfl
  have e9:Ieee.double.infRung=2047*2^52:=rfl
  rw[e7,e8,e9,Nat.min_eq_left (by omega)]
 show Ieee.double.read (F n)=_
 rw[hw]
 generalize hX:a*2^ (52 - k)=X at*
 have e8:Ieee.double.binade=2^52:=rfl
 have e9:Ieee.double.infRung=2047*2^52:=rfl
 have e10:Ieee.double.signWeight=2^63:=rfl
 have e3:Ieee.double.leastPlace= -1074:=by decide
 have hneg: (Ieee.double.word (decide (n<0)) ((k+1022)*2^52+X) / 2^63%2==1)=decide (n<0)∧Ieee.double.word (decide (n<0)) ((k+1022)*2^52+X)%2^63=(k+1022)*2^52+X:=by
  unfold Format.word
  rw[e10]
  by_cases hn:n<0
  ·rw[decide_eq_true hn,if_pos rfl]
   refine⟨?_,by omega⟩
   rw[beq_iff_eq];omega
  ·rw[decide_eq_false hn,if_neg (by simp)]
   refine⟨?_,by omega⟩
   rw[beq_eq_false_iff_ne];omega
 unfold Format.read
 simp only[e10,hneg.1,hneg.2,e8,e9,e3]
 rw[if_neg (by omega),if_pos (by omega)]
 unfold dat
 rw[hm,hk,hX]
 congr 1
 ·omega
 ·omega
theorem sgn (n:Int) (u:Nat):signed (decide (n<0)) (n.natAbs*2^u) 0=n*2^u:=by
 unfold signed
 rw[Nat.shiftLeft_eq,Nat.pow_zero,Nat.mul_one]
 by_cases h:n<0
 ·rw[decide_eq_true h,if_pos rfl]
  rw[Int.natCast_mul,←Int.neg_mul]
  congr 1
  ·omega
 ·rw[decide_eq_false h,if_neg (by simp),Int.natCast_mul]
  congr 1
  omega
def plc (n:Int):Int:=if n=0 then -1074 else(n.natAbs.log2:Int) - 52
def mag (n:Int):Nat:=if n=0 then 0 else n.natAbs*2^ (52 - n.natAbs.log2)
theorem decA {n:Int} (h:n.natAbs<8192):FloatKind.f64.decode (F n)= .number (decide (n<0)) (mag n) (plc n):=by
 by_cases h0:n=0
 ·subst h0;rw[dec0];rfl
 ·rw[dec h0 h];unfold dat mag plc;rw[if_neg h0,if_neg h0]
theorem sgnU {n base:Int} (h:n.natAbs<8192) (hb:base≤plc n):signed (decide (n<0)) (mag n) (plc n - base).toNat=n*2^ (-base).toNat:=by
 by_cases h0:n=0
 ·subst h0;simp[signed,mag]
 ·have hl:n.natAbs.log2<13:=by rcases ak4_ h with h1|h1;exact h1;omega
  have hu:52 - n.natAbs.log2+ (plc n - base).toNat=(-base).toNat:=by
   unfold plc at hb ⊢
   rw[if_neg h0] at hb ⊢
   omega
  have e:signed (decide (n<0)) (mag n) (plc n - base).toNat=signed (decide (n<0)) (n.natAbs*2^ (-base).toNat) 0:=by
   unfold signed mag
   rw[if_neg h0,←hu,Nat.pow_add]
   simp only[Nat.shiftLeft_eq,Nat.pow_zero,Nat.mul_one,Nat.mul_assoc]
  rw[e,sgn]
theorem amq_ {a b k:Int} (hk:0<k):compare (a*k) (b*k)=compare a b:=by
 simp only[compare,compareOfLessAndEq]
 have h1:a*k<b*k↔a<b:=Int.mul_lt_mul_right hk
 have h2:a*k=b*k↔a=b:=Int.mul_eq_mul_right_iff (by omega)
 simp only[h1,h2]
theorem ord {a b:Int} (ha:a.natAbs<8192) (hb:b.natAbs<8192):FloatKind.f64.format.order (F a) (F b)=some (compare a b):=by
 have h1:FloatKind.f64.format.read (F a)=_:=decA ha
 have h2:FloatKind.f64.format.read (F b)=_:=decA hb
 unfold Format.order
 rw[h1,h2]
 unfold Datum.order
 simp only
 have p1:min (plc a) (plc b)≤plc a:=Int.min_le_left ..
 have p2:min (plc a) (plc b)≤plc b:=Int.min_le_right ..
 rw[sgnU ha p1,sgnU hb p2,amq_]
 exact Int.pow_pos (by omega)
theorem intF {a:Int} (h:a.natAbs<8192): (FloatKind.f64.decode (F a)).toInt .zero=some a:=by
 rw[decA h]
 by_cases h0:a=0
 ·subst h0;rfl
 ·have hl:a.natAbs.log2<13:=by rcases ak4_ h with h1|h1;exact h1;omega
  unfold Datum.toInt Datum.integral
  simp only
  have hp:plc a=(a.natAbs.log2:Int) - 52:=by unfold plc;rw[if_neg h0]
  have hm:mag a=a.natAbs*2^ (52 - a.natAbs.log2):=by unfold mag;rw[if_neg h0]
  rw[hp,hm]
  have e1: ((a.natAbs.log2:Int) - 52).toNat=0:=by omega
  have e2: (-((a.natAbs.log2:Int) - 52)).toNat=52 - a.natAbs.log2:=by omega
  rw[e1,e2,Nat.shiftLeft_zero]
  have hlog: (a.natAbs*2^ (52 - a.natAbs.log2)).log2+2≥52 - a.natAbs.log2:=by
   have:2^ (52 - a.natAbs.log2)≤a.natAbs*2^ (52 - a.natAbs.log2):=Nat.le_mul_of_pos_left _ (by omega)
   have h3:=(Nat.le_log2 (n:=a.natAbs*2^ (52 - a.natAbs.log2)) (k:=52 - a.natAbs.log2) (by have:=Nat.pow_pos (a:=2) (n:=52 - a.natAbs.log2) (by omega);omega)).2 this
   omega
  unfold Toward.cut
  simp only
  rw[Nat.min_eq_left hlog,Nat.shiftLeft_eq,Nat.one_mul,Nat.mul_div_cancel _ (Nat.pow_pos (by omega))]
  have:=sgn a 0
  rw[Nat.pow_zero,Nat.mul_one] at this
  simp only[Bool.toNat_false,Nat.add_zero]
  rw[this];simp
end Go.Flo
namespace Go.Sx
open Go Go.Flo
def fl (n:Int):Value:= .float .f64 (F n)
def cx (a b:Int):Value:= .complex .f64 (F a) (F b)
section
variable {P:Program} {w0:World} {f:Fr} {L:za_} {N:Fr→za_→Prop} {ops:Array Oper} {rest:List Oper} {md:Md}
 {d:Option Tmp} {ty:TypeId} {ps:String} {af:Array Edge} {g:Option (Nat×Bool)}
theorem Ow.convIF {s dt:TypeId} {x:Operand} {n:Int} {md':Md} (he:md.turn=some md') (hsk:zh_ ops f ⟨d, .convert s dt x,ty,ps,af,g⟩=false)
  (hcv:cvT P s dt= .no) (hs:P.underlying s=some (.int .i64)) (hd:P.underlying dt=some (.float .f64)) (hx:ev f x=vi n)
  (hn:Ow P w0 ops md' rest (qo_ f d (fl n)) L N):Ow P w0 ops md (⟨d, .convert s dt x,ty,ps,af,g⟩::rest) f L N:=by
 refine Ow.step he (by simp[j9_,hcv]) hsk fun w hw=> .inl ⟨fl n,w,L, ?_,hw,hn⟩
 have hc: (convert s dt (vi n)).run P w= .ok (fl n) w:=by
  unfold convert
  simp only[vi,Sem.run_bind,run_underlying hs w,run_underlying hd w,Result.andThen_ok]
  rfl
 simp only[execOp,Sem.run_bind,hx,hc]
 rfl
theorem Ow.convFI {s dt:TypeId} {x:Operand} {n:Int} {md':Md} (he:md.turn=some md') (hsk:zh_ ops f ⟨d, .convert s dt x,ty,ps,af,g⟩=false)
  (hcv:cvT P s dt= .no) (hs:P.underlying s=some (.float .f64)) (hd:P.underlying dt=some (.int .i64)) (hx:ev f x=fl n) (hn8:n.natAbs<8192)
  (hn:Ow P w0 ops md' rest (qo_ f d (vi n)) L N):Ow P w0 ops md (⟨d, .convert s dt x,ty,ps,af,g⟩::rest) f L N:=by
 refine Ow.step he (by simp[j9_,hcv]) hsk fun w hw=> .inl ⟨vi n,w,L, ?_,hw,hn⟩
 have hc: (convert s dt (fl n)).run P w= .ok (vi n) w:=by
  unfold convert
  simp only[fl,Sem.run_bind,run_underlying hs w,run_underlying hd w,Result.andThen_ok]
  show(Conv.floatToInt .f64 (F n) .i64).run P w=_
  unfold Conv.floatToInt
  simp only[intF hn8]
  have e1:IntKind.i64.min= -9223372036854775808:=rfl
  have e2:IntKind.i64.max=9223372036854775807:=rfl
  rw[if_pos (by rw[e1,e2];omega)]
  rfl
 simp only[execOp,Sem.run_bind,hx,hc]
 rfl
theorem alb_ (a b:Int): (some (compare a b)==some Ordering.lt||some (compare a b)==some Ordering.eq)=decide (a≤b):=by
 simp only[compare,compareOfLessAndEq]
 by_cases h1:a<b
 ·rw[if_pos h1,decide_eq_true (by omega)];rfl
 ·by_cases h2:a=b
  ·rw[if_neg h1,if_pos h2,decide_eq_true (by omega)];rfl
  ·rw[if_neg h1,if_neg h2,decide_eq_false (by omega)];rfl
theorem alX_ (a b:Int): (some (compare a b)==some Ordering.gt||some (compare a b)==some Ordering.eq)=decide (b≤a):=by
 simp only[compare,compareOfLessAndEq]
 by_cases h1:a<b
 ·rw[if_pos h1,decide_eq_false (by omega)];rfl
 ·by_cases h2:a=b
  ·rw[if_neg h1,if_pos h2,decide_eq_true (by omega)];rfl
  ·rw[if_neg h1,if_neg h2,decide_eq_true (by omega)];rfl
theorem abQ_ (a b:Int): (some (compare a b)==some Ordering.eq)=(a==b):=by
 simp only[compare,compareOfLessAndEq]
 by_cases h1:a<b
 ·have: (a==b)=false:=by rw[beq_eq_false_iff_ne];omega
  rw[if_pos h1,this];rfl
 ·by_cases h2:a=b
  ·rw[if_neg h1,if_pos h2,h2];simp
  ·have: (a==b)=false:=by rw[beq_eq_false_iff_ne];exact h2
   rw[if_neg h1,if_neg h2,this];rfl
theorem Ow.fleq {t t':TypeId} {x y:Operand} {a b:Int} (hs:zh_ ops f ⟨d, .binOp .leq t x y t',ty,ps,af,g⟩=false) (hx:ev f x=fl a) (hy:ev f y=fl b) (ha:a.natAbs<8192) (hb:b.natAbs<8192)
  (hn:Ow P w0 ops md.next rest (qo_ f d (.bool (decide (a≤b)))) L N):Ow P w0 ops md (⟨d, .binOp .leq t x y t',ty,ps,af,g⟩::rest) f L N:=by
 refine Ow.pureV rfl hs (fun w=> ?_) hn
 simp only[execOp,Sem.run_bind,hx,hy]
 have hg: (eqGuard .leq t x y (fl a) (fl b)).run P w= .ok () w:=rfl
 have hc: (binOp .leq t (fl a) (fl b)).run P w= .ok (.bool (decide (a≤b))) w:=by
  show Result.ok (Value.bool (FloatKind.f64.format.order (F a) (F b)==some .lt||FloatKind.f64.format.order (F a) (F b)==some .eq)) w=_
  rw[ord ha hb,alb_]
 rw[hg,Result.andThen_ok,hc]
 rfl
theorem Ow.fgeq {t t':TypeId} {x y:Operand} {a b:Int} (hs:zh_ ops f ⟨d, .binOp .geq t x y t',ty,ps,af,g⟩=false) (hx:ev f x=fl a) (hy:ev f y=fl b) (ha:a.natAbs<8192) (hb:b.natAbs<8192)
  (hn:Ow P w0 ops md.next rest (qo_ f d (.bool (decide (b≤a)))) L N):Ow P w0 ops md (⟨d, .binOp .geq t x y t',ty,ps,af,g⟩::rest) f L N:=by
 refine Ow.pureV rfl hs (fun w=> ?_) hn
 simp only[execOp,Sem.run_bind,hx,hy]
 have hg: (eqGuard .geq t x y (fl a) (fl b)).run P w= .ok () w:=rfl
 have hc: (binOp .geq t (fl a) (fl b)).run P w= .ok (.bool (decide (b≤a))) w:=by
  show Result.ok (Value.bool (FloatKind.f64.format.order (F a) (F b)==some .gt||FloatKind.f64.format.order (F a) (F b)==some .eq)) w=_
  rw[ord ha hb,alX_]
 rw[hg,Result.andThen_ok,hc]
 rfl
theorem Ow.feql {t t':TypeId} {x y:Operand} {a b:Int} (hs:zh_ ops f ⟨d, .binOp .eql t x y t',ty,ps,af,g⟩=false) (hx:ev f x=fl a) (hy:ev f y=fl b) (ha:a.natAbs<8192) (hb:b.natAbs<8192)
  (hn:Ow P w0 ops md.next rest (qo_ f d (.bool (a==b))) L N):Ow P w0 ops md (⟨d, .binOp .eql t x y t',ty,ps,af,g⟩::rest) f L N:=by
 refine Ow.pureV rfl hs (fun w=> ?_) hn
 simp only[execOp,Sem.run_bind,hx,hy]
 have hg: (eqGuard .eql t x y (fl a) (fl b)).run P w= .ok () w:=rfl
 have hc: (binOp .eql t (fl a) (fl b)).run P w= .ok (.bool (a==b)) w:=by
  show Result.ok (Value.bool (FloatKind.f64.format.order (F a) (F b)==some .eq)) w=_
  rw[ord ha hb,abQ_]
 rw[hg,Result.andThen_ok,hc]
 rfl
theorem Ow.ceql {t t':TypeId} {x y:Operand} {a b a' b':Int} (hs:zh_ ops f ⟨d, .binOp .eql t x y t',ty,ps,af,g⟩=false) (hx:ev f x=cx a b) (hy:ev f y=cx a' b') (ha:a.natAbs<8192) (hb:b.natAbs<8192) (ha':a'.natAbs<8192) (hb':b'.natAbs<8192)
  (hn:Ow P w0 ops md.next rest (qo_ f d (.bool (a==a'&&b==b'))) L N):Ow P w0 ops md (⟨d, .binOp .eql t x y t',ty,ps,af,g⟩::rest) f L N:=by
 refine Ow.pureV rfl hs (fun w=> ?_) hn
 simp only[execOp,Sem.run_bind,hx,hy]
 have hg: (eqGuard .eql t x y (cx a b) (cx a' b')).run P w= .ok () w:=rfl
 have hc: (binOp .eql t (cx a b) (cx a' b')).run P w= .ok (.bool (a==a'&&b==b')) w:=by
  show Result.ok (Value.bool (FloatKind.f64.format.order (F a) (F a')==some .eq&&FloatKind.f64.format.order (F b) (F b')==some .eq)) w=_
  rw[ord ha ha',ord hb hb',abQ_,abQ_]
 rw[hg,Result.andThen_ok,hc]
 rfl
theorem Ow.real {x:Operand} {ts:Array TypeId} {a b:Int} (hs:zh_ ops f ⟨d, .call ⟨.builtin .real, #[x],ts⟩,ty,ps,af,g⟩=false) (hx:ev f x=cx a b)
  (hn:Ow P w0 ops md.next rest (qo_ f d (fl a)) L N):Ow P w0 ops md (⟨d, .call ⟨.builtin .real, #[x],ts⟩,ty,ps,af,g⟩::rest) f L N:=by
 refine Ow.calm rfl rfl hs (fun w hw=> .inl ⟨fl a,w,L, ?_,hw,rfl,rfl⟩) hn
 simp only[execOp,resolve,Sem.run_bind,Sem.run_pure,Result.andThen_ok,invoke,builtin,List.map_toArray,List.map_cons,List.map_nil,hx]
 rfl
theorem Ow.imag {x:Operand} {ts:Array TypeId} {a b:Int} (hs:zh_ ops f ⟨d, .call ⟨.builtin .imag, #[x],ts⟩,ty,ps,af,g⟩=false) (hx:ev f x=cx a b)
  (hn:Ow P w0 ops md.next rest (qo_ f d (fl b)) L N):Ow P w0 ops md (⟨d, .call ⟨.builtin .imag, #[x],ts⟩,ty,ps,af,g⟩::rest) f L N:=by
 refine Ow.calm rfl rfl hs (fun w hw=> .inl ⟨fl b,w,L, ?_,hw,rfl,rfl⟩) hn
 simp only[execOp,resolve,Sem.run_bind,Sem.run_pure,Result.andThen_ok,invoke,builtin,List.map_toArray,List.map_cons,List.map_nil,hx]
 rfl
theorem Ow.complexB {x y:Operand} {ts:Array TypeId} {a b:Int} (hs:zh_ ops f ⟨d, .call ⟨.builtin .complex, #[x,y],ts⟩,ty,ps,af,g⟩=false) (hx:ev f x=fl a) (hy:ev f y=fl b)
  (hn:Ow P w0 ops md.next rest (qo_ f d (cx a b)) L N):Ow P w0 ops md (⟨d, .call ⟨.builtin .complex, #[x,y],ts⟩,ty,ps,af,g⟩::rest) f L N:=by
 refine Ow.calm rfl rfl hs (fun w hw=> .inl ⟨cx a b,w,L, ?_,hw,rfl,rfl⟩) hn
 simp only[execOp,resolve,Sem.run_bind,Sem.run_pure,Result.andThen_ok,invoke,builtin,List.map_toArray,List.map_cons,List.map_nil,hx,hy]
 rfl
end
end Go.Sx
namespace Go.Sx
open Go Go.Flo
theorem Wh_ (P:Program) (t:TypeId) (a b:Int):qu_ P .eql t (fl a) (fl b)=none:=by
 show(qt_ (P.underlying t) (fl a) (fl b)).map _=none
 unfold qt_ fl
 split<;>simp_all
theorem Jd_ (P:Program) (t:TypeId) (a b a' b':Int):qu_ P .eql t (cx a b) (cx a' b')=none:=by
 show(qt_ (P.underlying t) (cx a b) (cx a' b')).map _=none
 unfold qt_ cx
 split<;>simp_all
section
variable {P:Program} {w0:World} {st:Bool} {f:Fr} {L:za_} {md:Md} {d:Option Tmp} {ty:TypeId} {ps:String} {af:Array Edge} {g:Option (Nat×Bool)} {go:Fr→za_→Prop} {stop:Prop}
theorem Vs_ (a:Array Operand) (t:Array TypeId):vcB P w0 st md ⟨d, .call ⟨.builtin .real,a,t⟩,ty,ps,af,g⟩ f L go stop=stop:=(rfl)
theorem KR_ (a:Array Operand) (t:Array TypeId):vcB P w0 st md ⟨d, .call ⟨.builtin .imag,a,t⟩,ty,ps,af,g⟩ f L go stop=stop:=(rfl)
theorem xP_ (a:Array Operand) (t:Array TypeId):vcB P w0 st md ⟨d, .call ⟨.builtin .complex,a,t⟩,ty,ps,af,g⟩ f L go stop=stop:=(rfl)
end
end Go.Sx
section
open Go Go.Proofs Go.Sx Go.StP Go.Flo
namespace Go.Proofs
set_option maxRecDepth 10000
set_option maxHeartbeats 400000
set_option linter.unusedSimpArgs false
structure PcL where
 a:Nat
 n:Nat
 x:List UInt8
def pc0:PcL:=⟨0,0,[]⟩
def pcC (p:PcL):List Value:= [cx p.a p.n,vs p.x]
def PcB (p:PcL):Prop:=p.a≤4099∧p.n≤4099
theorem kV_ (p:PcL): (pcC p).length=2:=rfl
theorem ab1_ (p:PcL): (pcC p).all Value.oneCell'=true:=rfl
def cpV (p:PcL) (b:Int):Option (Nat×Nat):=if 1≤p.n∧p.n≤4099∧p.x= []∧(p.a:Int)≤b - p.n then some (p.a,p.n) else none
def ku_ (p:PcL) (b:Int):Nat:=if p.a=0∧p.n=0∧p.x.length≤4099 then p.x.length else match cpV p b with|some q=>q.2|none=>0
theorem ajI_ (p:PcL) (b:Int):ku_ p b≤4099:=by
 unfold ku_
 split
 ·rename_i h;exact h.2.2
 ·unfold cpV
  split
  ·rename_i q h
   split at h
   ·rename_i hc;cases h;exact hc.2.1
   ·cases h
  ·omega
def wO_ (b:Int) (l:List PcL):Nat:=(l.map fun p=>ku_ p b).sum
theorem ahX_ (b:Int) (l:List PcL) (p:PcL):wO_ b (l++ [p])=wO_ b l+ku_ p b:=by
 unfold wO_;rw[List.map_append,List.sum_append];simp
theorem ajc_ (b:Int) (l m:List PcL):wO_ b (l++m)=wO_ b l+wO_ b m:=by
 unfold wO_;rw[List.map_append,List.sum_append]
def VA_ (b:Int) (l:List PcL):Bool:=l.any fun p=>ku_ p b==0
def Ze_ (b:Int) (l:List PcL):Int×Int:=if b<0∨4099<b then(0,1) else if VA_ b l=true then(0,1) else if 4099<wO_ b l then(0,19) else((wO_ b l:Nat),0)
theorem ahh_ (b:Int): ∀ (l:List PcL),VA_ b l=false→l.length≤wO_ b l
 | [],_=>Nat.zero_le _
 |p::l,h=>by
  unfold VA_ at h
  rw[List.any_cons,Bool.or_eq_false_iff] at h
  have h1:=ahh_ b l h.2
  have h2:ku_ p b≠0:=by simpa using h.1
  unfold wO_ at h1 ⊢
  rw[List.map_cons,List.sum_cons,List.length_cons]
  omega
theorem Vl_ {b m:Int} {l:List PcL} (h:Ze_ b l=(m,0)):0≤b∧b≤4099∧VA_ b l=false∧wO_ b l≤4099∧m=(wO_ b l:Nat)∧l.length≤4099:=by
 unfold Ze_ at h
 split at h
 ·cases h
 ·rename_i hb
  split at h
  ·cases h
  ·rename_i hz
   split at h
   ·cases h
   ·rename_i hs
    have hz':VA_ b l=false:=by simpa using hz
    have:=ahh_ b l hz'
    cases h
    exact⟨by omega,by omega,hz',by omega,rfl,by omega⟩
def pcT (base:List UInt8) (p:PcL):List UInt8:=match cpV p base.length with|some q=>(base.drop q.1).take q.2++p.x|none=>p.x
def txtP (base:List UInt8) (l:List PcL):List UInt8:=(l.map (pcT base)).flatten
def pcR (d:List UInt8) (a:Nat):PcL×Nat×Int:=
 if(zq_ d a 0 8199).1%2=1 then
  (⟨(zq_ d (zq_ d a 0 8199).2.1 (zq_ d a 0 8199).2.2 4099).1.toNat,((zq_ d a 0 8199).1 / 2).toNat,[]⟩,(zq_ d (zq_ d a 0 8199).2.1 (zq_ d a 0 8199).2.2 4099).2)
 else(⟨0,0,(jq_ d (zq_ d a 0 8199).2.1 (zq_ d a 0 8199).2.2 ((zq_ d a 0 8199).1 / 2)).1⟩,(jq_ d (zq_ d a 0 8199).2.1 (zq_ d a 0 8199).2.2 ((zq_ d a 0 8199).1 / 2)).2)
theorem ada_ {d:List UInt8} {a:Nat} (ha:a≤d.length):a≤ (pcR d a).2.1∧(pcR d a).2.1≤d.length:=by
 have h1:=qb_ (s:=d) (a:=a) (e:=0) (most:=8199) ha
 unfold pcR
 split
 ·have h2:=qb_ (s:=d) (a:=(zq_ d a 0 8199).2.1) (e:=(zq_ d a 0 8199).2.2) (most:=4099) h1.2
  exact⟨Nat.le_trans h1.1 h2.1,h2.2⟩
 ·have h2:=x0_ (s:=d) (a:=(zq_ d a 0 8199).2.1) (e:=(zq_ d a 0 8199).2.2) (n:=(zq_ d a 0 8199).1 / 2) h1.2
  exact⟨Nat.le_trans h1.1 h2.1,h2.2⟩
theorem Kk_ {d:List UInt8} {a:Nat} (ha:a≤d.length) (h: (pcR d a).2.2=0):a< (pcR d a).2.1:=by
 have h1:=qb_ (s:=d) (a:=a) (e:=0) (most:=8199) ha
 have hz: (zq_ d a 0 8199).2.2=0:=by
  by_cases he: (zq_ d a 0 8199).2.2=0
  ·exact he
  ·unfold pcR at h
   split at h
   ·have:=w8_ (s:=d) (a:=(zq_ d a 0 8199).2.1) (most:=4099) he
    simp only[this] at h
    exact absurd h he
   ·have:=V7_ (s:=d) (a:=(zq_ d a 0 8199).2.1) (n:=(zq_ d a 0 8199).1 / 2) he
    simp only[this] at h
    exact absurd h he
 have hup:=ag6_ hz
 unfold pcR
 split
 ·have h2:=qb_ (s:=d) (a:=(zq_ d a 0 8199).2.1) (e:=(zq_ d a 0 8199).2.2) (most:=4099) h1.2
  exact Nat.lt_of_lt_of_le hup h2.1
 ·have h2:=x0_ (s:=d) (a:=(zq_ d a 0 8199).2.1) (e:=(zq_ d a 0 8199).2.2) (n:=(zq_ d a 0 8199).1 / 2) h1.2
  exact Nat.lt_of_lt_of_le hup h2.1
def pcsF (d:List UInt8):Nat→Nat→List PcL×Nat×Int
 |0,a=>([],a,0)
 |k+1,a=>if a<d.length then(if(pcR d a).2.2=0 then((pcR d a).1:: (pcsF d k (pcR d a).2.1).1,(pcsF d k (pcR d a).2.1).2) else([(pcR d a).1],(pcR d a).2)) else([],a,0)
theorem V1_ {d:List UInt8}: ∀ (k j a:Nat),a≤d.length→d.length - a≤k→d.length - a≤j→pcsF d k a=pcsF d j a
 |0,j,a,ha,hk,_=>by
  have: ¬a<d.length:=by omega
  cases j with
  |zero=>rfl
  |succ j=>unfold pcsF;rw[if_neg this]
 |k+1,0,a,ha,_,hj=>by
  have: ¬a<d.length:=by omega
  unfold pcsF;rw[if_neg this]
 |k+1,j+1,a,ha,hk,hj=>by
  unfold pcsF
  by_cases h:a<d.length
  ·rw[if_pos h,if_pos h]
   by_cases he: (pcR d a).2.2=0
   ·have hu:=Kk_ ha he
    have hl:=ada_ ha
    rw[if_pos he,if_pos he,V1_ k j (pcR d a).2.1 hl.2 (by omega) (by omega)]
   ·rw[if_neg he,if_neg he]
  ·rw[if_neg h,if_neg h]
def pcs (d:List UInt8) (a:Nat):List PcL×Nat×Int:=pcsF d (d.length - a) a
theorem aaC_ {d:List UInt8} {a:Nat} (h: ¬a<d.length):pcs d a=([],a,0):=by
 unfold pcs
 rw[show d.length - a=0 by omega];rfl
theorem adw_ {d:List UInt8} {a:Nat} (h:a<d.length) (he: (pcR d a).2.2=0):pcs d a=((pcR d a).1:: (pcs d (pcR d a).2.1).1,(pcs d (pcR d a).2.1).2):=by
 have hu:=Kk_ (Nat.le_of_lt h) he
 have hl:=ada_ (Nat.le_of_lt h)
 unfold pcs
 obtain⟨k,hk⟩: ∃k,d.length - a=k+1:=⟨d.length - a - 1,by omega⟩
 rw[hk]
 conv=>lhs;unfold pcsF
 rw[if_pos h,if_pos he,V1_ k (d.length - (pcR d a).2.1) (pcR d a).2.1 hl.2 (by omega) (Nat.le_refl _)]
theorem KN_ {d:List UInt8} {a:Nat} (h:a<d.length) (he: (pcR d a).2.2≠0):pcs d a=([(pcR d a).1],(pcR d a).2):=by
 unfold pcs
 obtain⟨k,hk⟩: ∃k,d.length - a=k+1:=⟨d.length - a - 1,by omega⟩
 rw[hk]
 unfold pcsF
 rw[if_pos h,if_neg he]
theorem akT_ {d:List UInt8}: ∀ (k a:Nat),d.length - a≤k→a≤d.length→(pcs d a).2.2=0→(pcs d a).2.1=d.length
 |k,a,hk,ha,h=>by
  by_cases hlt:a<d.length
  ·by_cases he: (pcR d a).2.2=0
   ·have hu:=Kk_ ha he
    have hl:=ada_ ha
    rw[adw_ hlt he] at h ⊢
    cases k with
    |zero=>omega
    |succ k=>exact akT_ k _ (by omega) hl.2 h
   ·rw[KN_ hlt he] at h
    exact absurd h he
  ·rw[aaC_ hlt];show a=d.length;omega
def kb_ (d:List UInt8):Option (Nat×List PcL):=
 if(zq_ d (zq_ d 0 0 4099).2.1 (zq_ d 0 0 4099).2.2 4099).2.2≠0 then none
 else if(pcs d (zq_ d (zq_ d 0 0 4099).2.1 (zq_ d 0 0 4099).2.2 4099).2.1).2.2≠0 then none
 else if Ze_ (zq_ d 0 0 4099).1 (pcs d (zq_ d (zq_ d 0 0 4099).2.1 (zq_ d 0 0 4099).2.2 4099).2.1).1=((zq_ d (zq_ d 0 0 4099).2.1 (zq_ d 0 0 4099).2.2 4099).1,0) then some ((zq_ d 0 0 4099).1.toNat,(pcs d (zq_ d (zq_ d 0 0 4099).2.1 (zq_ d 0 0 4099).2.2 4099).2.1).1)
 else none
def xu_ (base d:List UInt8):List UInt8×Int:=
 match kb_ d with
 |none=>([],2)
 |some p=>if p.1≠base.length then([],19) else(txtP base p.2,0)
end Go.Proofs
end
section
open Go Go.Proofs Go.Sx Go.StP Go.Flo
namespace Go.Proofs
set_option maxRecDepth 10000
set_option maxHeartbeats 400000
set_option linter.unusedSimpArgs false
theorem cvIF:cvT Tryz.prog 3 301= .no:=id (by kernel_rfl)
theorem cvFI:cvT Tryz.prog 301 3= .no:=id (by kernel_rfl)
set_option linter.defProp false
def vw_:=And.intro (@zg_) (And.intro (@zf_) (@Wh_))
theorem Kl_ (x a b:Int) (w:World) (hx:x.natAbs<8192) (ha:a.natAbs<8192) (hb:b.natAbs<8192):
  Rets Tryz.prog 237 #[fl x,vi a,vi b] w (fun v D=>v= .bool (decide (a≤x∧x≤b))∧D= []):=by
 refine Rets.enterV Tryz.func237 rfl (rs:= [.tmp 6]) Tryz.results237 Tryz.ntmps237 ?_
 refine kf ?_
 first|with_reducible refine ks [] @vw_ ?_|refine kp @vw_ ?_
 refine Ow.convIF rfl rfl cvIF Tryz.underlying3 Tryz.underlying301 rfl ?_
 refine Ow.fgeq rfl rfl rfl hx ha ?_
 by_cases h1:a≤x
 ·rw[decide_eq_true h1]
  refine ko @vw_ ?_
  refine Ow.convIF rfl rfl cvIF Tryz.underlying3 Tryz.underlying301 rfl ?_
  refine Ow.fleq rfl rfl rfl hx hb ?_
  by_cases h2:x≤b
  ·rw[decide_eq_true h2]
   refine ko @vw_ ?_
   refine Ow.convFI rfl rfl cvFI Tryz.underlying301 Tryz.underlying3 rfl hx ?_
   refine Ow.convIF rfl rfl cvIF Tryz.underlying3 Tryz.underlying301 rfl ?_
   refine ko @vw_ ?_
   refine Ow.feql rfl rfl rfl hx hx ?_
   rw[show(x==x)=true by simp]
   refine ko @vw_ ?_
   first|with_reducible refine ks [] @vw_ ?_|refine kp @vw_ ?_
   refine⟨_,(ke @vw_),trivial, ?_⟩
   rw[decide_eq_true ⟨h1,h2⟩];rfl
  ·rw[decide_eq_false h2]
   refine ko @vw_ ?_
   first|with_reducible refine ks [] @vw_ ?_|refine kp @vw_ ?_
   refine⟨_,(ke @vw_),trivial, ?_⟩
   rw[decide_eq_false (fun h=>h2 h.2)];rfl
 ·rw[decide_eq_false h1]
  refine ko @vw_ ?_
  first|with_reducible refine ks [] @vw_ ?_|refine kp @vw_ ?_
  refine⟨_,(ke @vw_),trivial, ?_⟩
  rw[decide_eq_false (fun h=>h1 h.1)];rfl
theorem xb_ (p:PcL) (E:TypeId) (n:Nat):zo_ (some (false,n)) (some (.cells (pcC p).toArray E (0,0))) 0=some (cx p.a p.n):=(rfl)
theorem xe_ (p:PcL) (E:TypeId) (n:Nat):zo_ (some (false,n)) (some (.cells (pcC p).toArray E (0,0))) 1=some (vs p.x):=(rfl)
theorem kv_ (p:PcL) (E:TypeId):zo_ (some (true,2)) (some (.cells (pcC p).toArray E (0,0))) 0=some (.agg (pcC p).toArray):=kY_ _ E (0,0) 2 rfl
theorem jx_ (p:PcL):Value.cells (.agg (pcC p).toArray)=(pcC p).toArray:=zd_ _
theorem zrPc:zK_ Tryz.prog 300=some (.agg (pcC pc0).toArray):=id (by kernel_rfl)
theorem acX_ (p q:PcL) (E:TypeId):zl_ (some (true,2)) (some (.cells (pcC q).toArray E (0,0))) 0 (.agg (pcC p).toArray)=some (.cells (pcC p).toArray E (0,0)):=by
 have:=k7_ (pcC p) (n:=2) true (pcC q).toArray E rfl (ab1_ p) rfl
 exact this
def cpO (p:PcL) (b:Int):Value:=match cpV p b with
 |some q=> .tuple #[vi q.1,vi q.2, .bool true]
 |none=> .tuple #[vi 0,vi 0, .bool false]
theorem agb_ {p:PcL} {b:Int} (h: ¬ (1≤p.n∧p.n≤4099∧p.x= []∧(p.a:Int)≤b - p.n)):cpO p b= .tuple #[vi 0,vi 0, .bool false]:=by
 unfold cpO cpV;rw[if_neg h]
theorem ala_ {p:PcL} {b:Int} (h:1≤p.n∧p.n≤4099∧p.x= []∧(p.a:Int)≤b - p.n):cpO p b= .tuple #[vi p.a,vi p.n, .bool true]:=by
 unfold cpO cpV;rw[if_pos h]
theorem cxz: (Value.complex FloatKind.f64 0 0)=cx 0 0:=id (by kernel_rfl)
set_option linter.defProp false
def zv_:=And.intro (And.intro (And.intro (And.intro (@zg_) (@zf_)) (And.intro (@xb_) (@xe_))) (And.intro (And.intro (@kv_) (@jx_)) (And.intro (@Jd_) (@cxz)))) (And.intro (And.intro (And.intro (@Vs_) (@KR_)) (And.intro (@xP_) (@Sx.tup2_0))) (And.intro (And.intro (@Sx.tup2_1) (@Sx.tup3_0)) (And.intro (@Sx.tup3_1) (@Sx.tup3_2))))
theorem wL_ (p:PcL) (b:Int) (w:World) (hp:PcB p) (h0:0≤b) (h1:b≤4099):
  Rets Tryz.prog 227 #[.agg (pcC p).toArray,vi b] w (fun v D=>v=cpO p b∧D= []):=by
 obtain⟨hpa,hpn⟩:=hp
 refine Rets.enterV Tryz.func227 rfl (rs:= [.tmp 4, .tmp 5, .tmp 6]) Tryz.results227 Tryz.ntmps227 ?_
 refine kf ?_
 first|with_reducible refine ks [] @zv_ ?_|refine kp @zv_ ?_
 refine Ow.box rfl rfl fun b2 hb2 hw2=> ?_
 simp only[qy_,qr_,qs_,zd_,List.nil_append,List.cons_append]
 refine Ow.go rfl ?_
 simp(disch:=(first|assumption|omega| (simp only[jW_,jX_,UInt64.reduceToNat];try omega))) only[↓Sx.S0,Sx.S1,Tryz.fx,zv_,Nat.reduceAdd,Nat.reducePow,Int.reducePow,Nat.reduceBEq, ↓reduceIte,UInt8.reduceToNat,UInt16.reduceToNat,UInt32.reduceToNat,UInt64.reduceToNat,Int.reduceToNat]
 first|with_reducible refine ks [] @zv_ ?_|refine kp @zv_ ?_
 refine Ow.imag rfl rfl ?_
 refine Ow.callFV rfl Tryz.call237 (fun w' hw'=>Kl_ (p.n:Int) 1 4099 w' (by omega) (by omega) (by omega)) ?_
 by_cases c1:1≤p.n
 ·rw[decide_eq_true (show(1:Int)≤ (p.n:Int)∧(p.n:Int)≤4099 by omega)]
  have n1: (!true)=false:=rfl
  by_cases c2:p.x= []
  ·have d2: (p.x != [])=false:=by rw[c2];rfl
   refine ko (And.intro @zv_ (And.intro @n1 (@d2))) ?_
   first|with_reducible refine ks [] @zv_ ?_|refine kp @zv_ ?_
   refine Ow.imag rfl rfl ?_
   refine Ow.convFI rfl rfl cvFI Tryz.underlying301 Tryz.underlying3 rfl (by omega) ?_
   refine ko @zv_ ?_
   first|with_reducible refine ks [] @zv_ ?_|refine kp @zv_ ?_
   refine Ow.real rfl rfl ?_
   refine ko @zv_ ?_
   refine Ow.callFV rfl Tryz.call237 (fun w' hw'=>Kl_ (p.a:Int) 0 (b - p.n) w' (by omega) (by omega) (by omega)) ?_
   by_cases c3: (p.a:Int)≤b - p.n
   ·rw[decide_eq_true (show(0:Int)≤ (p.a:Int)∧(p.a:Int)≤b - p.n by omega)]
    refine ko (And.intro @zv_ @n1) ?_
    first|with_reducible refine ks [] @zv_ ?_|refine kp @zv_ ?_
    refine Ow.real rfl rfl ?_
    refine Ow.convFI rfl rfl cvFI Tryz.underlying301 Tryz.underlying3 rfl (by omega) ?_
    refine ko @zv_ ?_
    first|with_reducible refine ks [] @zv_ ?_|refine kp @zv_ ?_
    refine⟨_,(ke @zv_),⟨hw2,trivial⟩, ?_⟩
    rw[ala_ ⟨c1,hpn,c2,c3⟩];rfl
   ·rw[decide_eq_false (show¬ ((0:Int)≤ (p.a:Int)∧(p.a:Int)≤b - p.n) by omega)]
    have n2: (!false)=true:=rfl
    refine ko (And.intro @zv_ @n2) ?_
    first|with_reducible refine ks [] @zv_ ?_|refine kp @zv_ ?_
    refine⟨_,(ke @zv_),⟨hw2,trivial⟩, ?_⟩
    rw[agb_ fun h=>c3 h.2.2.2];rfl
  ·have d2: (p.x != [])=true:=by simpa using c2
   refine ko (And.intro @zv_ (And.intro @n1 (@d2))) ?_
   first|with_reducible refine ks [] @zv_ ?_|refine kp @zv_ ?_
   refine⟨_,(ke @zv_),⟨hw2,trivial⟩, ?_⟩
   rw[agb_ fun h=>c2 h.2.2.1];rfl
 ·rw[decide_eq_false (show¬ ((1:Int)≤ (p.n:Int)∧(p.n:Int)≤4099) by omega)]
  have n2: (!false)=true:=rfl
  refine ko (And.intro @zv_ @n2) ?_
  first|with_reducible refine ks [] @zv_ ?_|refine kp @zv_ ?_
  refine⟨_,(ke @zv_),⟨hw2,trivial⟩, ?_⟩
  rw[agb_ fun h=>c1 h.1];rfl
theorem Z2_ {p:PcL} {b:Int} (h: ¬ (p.a=0∧p.n=0∧p.x.length≤4099)):ku_ p b=match cpV p b with|some q=>q.2|none=>0:=by
 unfold ku_;rw[if_neg h]<;>cases cpV p b<;>rfl
theorem acl_ (p:PcL) (b:Int) (w:World) (hp:PcB p) (h0:0≤b) (h1:b≤4099) (hx:p.x.length<9223372036854775808):
  Rets Tryz.prog 236 #[.agg (pcC p).toArray,vi b] w (fun v D=>v=vi (ku_ p b:Nat)∧D= []):=by
 have hp':=hp
 obtain⟨hpa,hpn⟩:=hp'
 refine Rets.enterV Tryz.func236 rfl (rs:= [.tmp 4]) Tryz.results236 Tryz.ntmps236 ?_
 refine kf ?_
 first|with_reducible refine ks [] @zv_ ?_|refine kp @zv_ ?_
 refine Ow.box rfl rfl fun b2 hb2 hw2=> ?_
 simp only[qy_,qr_,qs_,zd_,List.nil_append,List.cons_append]
 refine Ow.go rfl ?_
 simp(disch:=(first|assumption|omega| (simp only[jW_,jX_,UInt64.reduceToNat];try omega))) only[↓Sx.S0,Sx.S1,Tryz.fx,zv_,Nat.reduceAdd,Nat.reducePow,Int.reducePow,Nat.reduceBEq, ↓reduceIte,UInt8.reduceToNat,UInt16.reduceToNat,UInt32.reduceToNat,UInt64.reduceToNat,Int.reduceToNat]
 first|with_reducible refine ks [] @zv_ ?_|refine kp @zv_ ?_
 refine Ow.ceql (a':=0) (b':=0) rfl rfl rfl (by omega) (by omega) (by omega) (by omega) ?_
 have tail: ¬ (p.a=0∧p.n=0∧p.x.length≤4099)→True:=fun _=>trivial
 by_cases hz:p.a=0∧p.n=0
 ·have e: (((p.a:Nat):Int)==0&& ((p.n:Nat):Int)==0)=true:=by rw[hz.1,hz.2];rfl
  rw[e]
  by_cases hl:p.x.length≤4099
  ·have d1:decide ((p.x.length:Int)≤4099)=true:=decide_eq_true (by omega)
   refine ko (And.intro @zv_ @d1) ?_
   first|with_reducible refine ks [] @zv_ ?_|refine kp @zv_ ?_
   refine⟨_,(ke @zv_),⟨hw2,trivial⟩, ?_⟩
   unfold ku_;rw[if_pos ⟨hz.1,hz.2,hl⟩];rfl
  ·have d1:decide ((p.x.length:Int)≤4099)=false:=decide_eq_false (by omega)
   have hc:cpV p b=none:=by unfold cpV;rw[if_neg (by omega)]
   refine ko (And.intro @zv_ @d1) ?_
   first|with_reducible refine ks [] @zv_ ?_|refine kp @zv_ ?_
   refine Ow.callFV rfl Tryz.call227 (fun w' hw'=>wL_ p b w' hp h0 h1) ?_
   unfold cpO
   rw[hc]
   refine ko @zv_ ?_
   first|with_reducible refine ks [] @zv_ ?_|refine kp @zv_ ?_
   refine⟨_,(ke @zv_),⟨hw2,trivial⟩, ?_⟩
   rw[Z2_ (fun h=>hl h.2.2),hc];rfl
 ·have e: (((p.a:Nat):Int)==0&& ((p.n:Nat):Int)==0)=false:=by
   rw[Bool.and_eq_false_iff]
   by_cases ha:p.a=0
   ·right;rw[beq_eq_false_iff_ne];omega
   ·left;rw[beq_eq_false_iff_ne];omega
  rw[e]
  refine ko @zv_ ?_
  first|with_reducible refine ks [] @zv_ ?_|refine kp @zv_ ?_
  refine Ow.callFV rfl Tryz.call227 (fun w' hw'=>wL_ p b w' hp h0 h1) ?_
  unfold cpO
  cases hc:cpV p b with
  |none=>
   simp only
   refine ko @zv_ ?_
   first|with_reducible refine ks [] @zv_ ?_|refine kp @zv_ ?_
   refine⟨_,(ke @zv_),⟨hw2,trivial⟩, ?_⟩
   rw[Z2_ (fun h=>hz ⟨h.1,h.2.1⟩),hc];rfl
  |some q=>
   simp only
   refine ko @zv_ ?_
   first|with_reducible refine ks [] @zv_ ?_|refine kp @zv_ ?_
   refine⟨_,(ke @zv_),⟨hw2,trivial⟩, ?_⟩
   rw[Z2_ (fun h=>hz ⟨h.1,h.2.1⟩),hc];rfl
abbrev PcSl (w:World) (v:Value) (l:List PcL):Prop:=SlV 2 pcC pc0 w v l
def BndP (l:List PcL):Prop:= ∀g,g<l.length→PcB (l.getD g pc0)∧(l.getD g pc0).x.length<9223372036854775808
theorem ahV_ {b:Int} {l:List PcL} {g:Nat} (h:g<l.length):wO_ b (l.take (g+1))=wO_ b (l.take g)+ku_ (l.getD g pc0) b:=by
 rw[take_snoc (z:=pc0) h,ahX_]
theorem agu_ {b:Int} {l:List PcL} {g:Nat} (h:g<l.length):VA_ b (l.take (g+1))=(VA_ b (l.take g) ||ku_ (l.getD g pc0) b==0):=by
 rw[take_snoc (z:=pc0) h];unfold VA_;rw[List.any_append];simp
theorem akx_ {b:Int} {l:List PcL} {g:Nat} (h:g<l.length) (hz:ku_ (l.getD g pc0) b=0):VA_ b l=true:=by
 unfold VA_
 rw[List.any_eq_true]
 exact⟨_,Vz_ (z:=pc0) h,by rw[beq_iff_eq];exact hz⟩
theorem XX_ (b:Int) (v:Value) (l:List PcL) (w:World) (hv:PcSl w v l) (hl:BndP l) (hn:l.length<1000000000):
  Rets Tryz.prog 226 #[vi b,v] w (fun v D=>v= .tuple #[vi (Ze_ b l).1,vi (Ze_ b l).2]∧D= []):=by
 obtain⟨bb,off,arr,E,fz,hr⟩:=hv.row
 have ln:=hv.len
 refine Rets.enterV Tryz.func226 rfl (rs:= [.tmp 4, .tmp 5]) Tryz.results226 Tryz.ntmps226 ?_
 refine kf ?_
 by_cases hb:b<0∨4099<b
 ·have hc:Ze_ b l=(0,1):=by unfold Ze_;rw[if_pos hb]
  by_cases h1:b<0
  ·have d1:decide (b<0)=true:=decide_eq_true h1
   first|with_reducible refine ks [] (And.intro @zv_ @d1) ?_|refine kp (And.intro @zv_ @d1) ?_
   refine⟨_,(ke @zv_),trivial, ?_⟩
   rw[hc];rfl
  ·have d1:decide (b<0)=false:=decide_eq_false h1
   have d2:decide (4099<b)=true:=decide_eq_true (by omega)
   first|with_reducible refine ks [] (And.intro @zv_ (And.intro @d1 (@d2))) ?_|refine kp (And.intro @zv_ (And.intro @d1 (@d2))) ?_
   refine⟨_,(ke @zv_),trivial, ?_⟩
   rw[hc];rfl
 have d1:decide (b<0)=false:=decide_eq_false (by omega)
 have d2:decide (4099<b)=false:=decide_eq_false (by omega)
 first|with_reducible refine ks [] (And.intro @zv_ (And.intro @d1 (And.intro @d2 (@ln)))) ?_|refine kp (And.intro @zv_ (And.intro @d1 (And.intro @d2 (@ln)))) ?_
 refine Cw.loopG (G:=(Nat×za_)) [20,21,22,9,23,24,25,10,26,27,4,5,28,29,30,31,6,32,33,7,34,19] (fun q=> [(6,vi (min (wO_ b (l.take q.1)) 4100:Nat)),(7,vi (if 4099<wO_ b (l.take q.1) then 19 else 0)),(19,vi q.1)]) (fun q=>q.2) (fun q=>q.1≤l.length∧New w.heap.size q.2∧VA_ b (l.take q.1)=false) (fun q=>l.length - q.1) ⟨0,[]⟩ rfl rfl ?_ ?_
 ·exact⟨Nat.zero_le _,trivial,rfl⟩
 intro q jq hq
 refine kv ?_
 obtain⟨g,D⟩:=q
 simp only at hq ⊢
 obtain⟨hg,hN,hz⟩:=hq
 by_cases hlt:g<l.length
 ·have hb0:0<l.length:=by omega
  have hbl:=hr.lt hb0
  have rd:zB_ w D bb=some (.cells arr E fz):=by rw[q9_ (hN.not hbl)];exact hr.has hb0
  have i2:=hr.idx true g hlt
  have ld:=hr.load kV_ (by omega) hlt
  obtain⟨hpb,hpx⟩:=hl g hlt
  have hst:=ahV_ (b:=b) hlt
  have hat:=agu_ (b:=b) hlt
  have hzz:=akx_ (b:=b) hlt
  generalize hp:l.getD g pc0=p at*
  have d3:decide ((g:Int)< (l.length:Int))=true:=decide_eq_true (by omega)
  have hple:=ajI_ p b
  first|with_reducible refine ks [] (And.intro @zv_ (And.intro @d3 (And.intro @i2 (And.intro @rd (@ld))))) ?_|refine kp (And.intro @zv_ (And.intro @d3 (And.intro @i2 (And.intro @rd (@ld))))) ?_
  refine Ow.alloc rfl rfl zrPc fun b9 hb9 hw9=> ?_
  simp only[zd_,List.nil_append,List.cons_append]
  refine Ow.permL (M:=(b9, .cells (pcC pc0).toArray 300 (0,0))::D) (by classical exact List.perm_iff_count.2 fun a=>by simp only[List.count_append,List.count_cons,List.count_nil]<;>omega) ?_
  have hsp:=acX_ p pc0 300
  refine ko (And.intro @zv_ @hsp) ?_
  first|with_reducible refine ks [] @zv_ ?_|refine kp @zv_ ?_
  refine Ow.callFV rfl Tryz.call236 (fun w' hw'=>acl_ p b w' hpb (by omega) (by omega) hpx) ?_
  by_cases hk:ku_ p b=0
  ·have d4: (((ku_ p b:Nat):Int)==0)=true:=by rw[hk];rfl
   have hc:Ze_ b l=(0,1):=by unfold Ze_;rw[if_neg hb,if_pos (hzz hk)]
   refine ko (And.intro @zv_ @d4) ?_
   first|with_reducible refine ks [] (And.intro @zv_ @d4) ?_|refine kp (And.intro @zv_ @d4) ?_
   refine⟨_,(ke @zv_),⟨hw9,hN⟩, ?_⟩
   rw[hc];rfl
  ·have d4: (((ku_ p b:Nat):Int)==0)=false:=by rw[beq_eq_false_iff_ne];omega
   refine ko (And.intro @zv_ @d4) ?_
   first|with_reducible refine ks [] (And.intro @zv_ @d4) ?_|refine kp (And.intro @zv_ @d4) ?_
   refine Ow.minI rfl rfl rfl ?_
   have hm: (if 4100< ((min (wO_ b (l.take g)) 4100:Nat):Int)+ ((ku_ p b:Nat):Int) then(4100:Int) else((min (wO_ b (l.take g)) 4100:Nat):Int)+ ((ku_ p b:Nat):Int))=((min (wO_ b (l.take (g+1))) 4100:Nat):Int):=by
    rw[hst];split<;>omega
   rw[hm]
   have hN9:New w.heap.size ((b9,Obj.cells (pcC p).toArray 300 (0,0))::D):=⟨hw9,hN⟩
   have hz9:VA_ b (l.take (g+1))=false:=by rw[hat,hz];simp[hk]
   by_cases h4:4099<wO_ b (l.take (g+1))
   ·have d5:decide ((4099:Int)< ((min (wO_ b (l.take (g+1))) 4100:Nat):Int))=true:=decide_eq_true (by omega)
    refine ko (And.intro @zv_ @d5) ?_
    first|with_reducible refine ks [] (And.intro @zv_ @d5) ?_|refine kp (And.intro @zv_ @d5) ?_
    refine Again.mk (g+1,(b9,Obj.cells (pcC p).toArray 300 (0,0))::D) (by show l.length - (g+1)<l.length - g;omega) ⟨hlt,hN9,hz9⟩ rfl ?_
    rw[if_pos h4];rfl
   ·have d5:decide ((4099:Int)< ((min (wO_ b (l.take (g+1))) 4100:Nat):Int))=false:=decide_eq_false (by omega)
    have h5: ¬4099<wO_ b (l.take g):=by omega
    rw[if_neg h5]
    refine ko (And.intro @zv_ @d5) ?_
    first|with_reducible refine ks [] (And.intro @zv_ @d5) ?_|refine kp (And.intro @zv_ @d5) ?_
    refine Again.mk (g+1,(b9,Obj.cells (pcC p).toArray 300 (0,0))::D) (by show l.length - (g+1)<l.length - g;omega) ⟨hlt,hN9,hz9⟩ rfl ?_
    rw[if_neg h4];rfl
 ·obtain rfl:g=l.length:=by omega
  have d3:decide ((l.length:Int)< (l.length:Int))=false:=by simp
  rw[List.take_length] at hz
  rw[List.take_length]
  have hz': ¬VA_ b l=true:=by rw[hz];simp
  by_cases h4:4099<wO_ b l
  ·have hc:Ze_ b l=(0,19):=by unfold Ze_;rw[if_neg hb,if_neg hz',if_pos h4]
   have e: ((19:Int) !=0)=true:=rfl
   rw[if_pos h4]
   first|with_reducible refine ks [] (And.intro @zv_ (And.intro @d3 (@e))) ?_|refine kp (And.intro @zv_ (And.intro @d3 (@e))) ?_
   refine⟨_,(ke @zv_),hN, ?_⟩
   rw[hc];rfl
  ·have hc:Ze_ b l=(((wO_ b l:Nat):Int),0):=by unfold Ze_;rw[if_neg hb,if_neg hz',if_neg h4]
   have e: ((0:Int) !=0)=false:=rfl
   rw[if_neg h4,Nat.min_eq_left (by omega)]
   first|with_reducible refine ks [] (And.intro @zv_ (And.intro @d3 (@e))) ?_|refine kp (And.intro @zv_ (And.intro @d3 (@e))) ?_
   refine⟨_,(ke @zv_),hN, ?_⟩
   rw[hc];rfl
end Go.Proofs
end
section
open Go Go.Proofs Go.Sx Go.StP Go.Flo
namespace Go.Proofs
set_option maxRecDepth 10000
set_option maxHeartbeats 400000
set_option linter.unusedSimpArgs false
def pcAt (p:PcL) (b:Int):Nat×Nat:=match cpV p b with|some q=>q|none=>(0,0)
theorem am4_ (p:PcL) (b:Int):cpO p b= .tuple #[vi (pcAt p b).1,vi (pcAt p b).2, .bool (cpV p b).isSome]:=by
 unfold cpO pcAt
 cases cpV p b<;>rfl
theorem ahr_ (p:PcL) (base:List UInt8): (pcAt p base.length).1+ (pcAt p base.length).2≤base.length:=by
 unfold pcAt cpV
 split
 ·rename_i q h
  split at h
  ·rename_i hc;cases h;simp only;omega
  ·cases h
 ·simp
theorem am8_ (base:List UInt8) (p:PcL):pcT base p=(base.take ((pcAt p base.length).1+ (pcAt p base.length).2)).drop (pcAt p base.length).1++p.x:=by
 unfold pcT pcAt
 cases h:cpV p base.length with
 |none=>simp
 |some q=>
  simp only
  rw[List.drop_take,Nat.add_sub_cancel_left]
theorem alJ_ (base:List UInt8) (p:PcL) (h:ku_ p base.length≠0): (pcT base p).length=ku_ p base.length:=by
 have hle:=ahr_ p base
 unfold ku_ at h ⊢
 unfold pcT
 unfold pcAt at hle
 split at h
 ·rename_i hc
  rw[if_pos hc]
  have hn:cpV p base.length=none:=by unfold cpV;rw[if_neg (by omega)]
  rw[hn]
 ·rename_i hc
  rw[if_neg hc]
  cases hq:cpV p base.length with
  |none=>rw[hq] at h;exact absurd rfl h
  |some q=>
   rw[hq] at hle
   simp only at hle ⊢
   have hx:p.x= []:=by
    unfold cpV at hq
    split at hq
    ·rename_i h2;exact h2.2.2.1
    ·cases hq
   rw[hx,List.append_nil,List.length_take,List.length_drop]
   omega
theorem ag2_ {base:List UInt8} {l:List PcL} {g:Nat} (h:g<l.length):txtP base (l.take (g+1))=txtP base (l.take g)++pcT base (l.getD g pc0):=by
 rw[take_snoc (z:=pc0) h];unfold txtP;simp
theorem QF_ {base:List UInt8}: ∀ {l:List PcL},VA_ base.length l=false→(txtP base l).length=wO_ base.length l
 | [],_=>rfl
 |p::l,h=>by
  unfold VA_ at h
  rw[List.any_cons,Bool.or_eq_false_iff] at h
  have h1:=QF_ (base:=base) (l:=l) h.2
  have h2:=alJ_ base p (by simpa using h.1)
  unfold txtP wO_ at h1 ⊢
  rw[List.map_cons,List.flatten_cons,List.length_append,List.map_cons,List.sum_cons,h1,h2]
theorem aad_ {b:Int} {l:List PcL} {g:Nat}:wO_ b (l.take g)≤wO_ b l:=by
 have:=ajc_ b (l.take g) (l.drop g)
 rw[List.take_append_drop] at this
 omega
theorem aln_ {b:Int} {l:List PcL} {g:Nat} (h:VA_ b l=false):VA_ b (l.take g)=false:=by
 unfold VA_ at h ⊢
 rw[List.any_eq_false] at h ⊢
 exact fun x hx=>h x (List.mem_of_mem_take hx)
theorem ami_ (a b:List UInt8):wp_ Tryz.prog 57 2 [(0,vs a),(1,vs b)]=some (9, #[vs a,vs b]):=by
 have hz:zK_ Tryz.prog 9=some (vs []):=Tryz.zr9
 have hI: ∀I:Array Value,I.size=2→(I.setIfInBounds 0 (vs a)).setIfInBounds 1 (vs b)= #[vs a,vs b]:=by
  intro I h
  apply Array.ext
  ·simp[h]
  ·intro i h1 h2
   have h3:i<2:=by simpa using h2
   match i,h3 with
   |0,_=>simp[h]
   |1,_=>simp[h]
 have hc: ∀s:List UInt8,(vs s).cells= #[vs s]:=fun s=>rfl
 simp only[wp_,Tryz.underlying57,Tryz.ag9,hz,Option.map_some]
 simp[Instr.fill,hc]
 exact hI _ (by simp)
theorem BldAt.zeroK (b:Nat) {L:za_} (h:Sx.look L b=some (.cells #[.pointer none, .slice none 0 0] 123 (0,0))):BldAt b [] L:=
 ⟨_,_,h, .inl rfl, .nl,fun h=>by cases h⟩
theorem aab_ {w0:World} {L X D:za_} (hC:Came w0 L X D) (hX:New w0.heap.size X):New w0.heap.size D:=New.of_le fun c hc=>by
 rcases hC.new c hc with h| ⟨-,h⟩
 ·exact hX.le c h
 ·exact h
structure TxG where
 g:Nat
 D:za_
 E:za_
set_option linter.defProp false
def jC_:=And.intro (And.intro (And.intro (@zg_) (@zf_)) (And.intro (@xb_) (And.intro (@xe_) (@kv_)))) (And.intro (And.intro (@jx_) (And.intro (@Sx.tup2_0) (@Sx.tup2_1))) (And.intro (@Sx.tup3_0) (And.intro (@Sx.tup3_1) (@Sx.tup3_2))))
theorem adK_ (base:List UInt8) (v:Value) (l:List PcL) (w:World) (hv:PcSl w v l) (hl:BndP l) (hn:l.length<1000000000):
  Rets Tryz.prog 206 #[vs base,v] w (fun v' D=>v'= .tuple #[vs (if(Ze_ base.length l).2=0 then txtP base l else []),vi (Ze_ base.length l).2]∧D= []):=by
 obtain⟨bb,off,arr,E,fz,hr⟩:=hv.row
 have ln:=hv.len
 refine Rets.enterV Tryz.func206 rfl (rs:= [.tmp 4, .tmp 5]) Tryz.results206 Tryz.ntmps206 ?_
 refine kf ?_
 first|with_reducible refine ks [] @jC_ ?_|refine kp @jC_ ?_
 refine Ow.callFV rfl Tryz.call226 (fun w' hw'=>XX_ (base.length:Int) v l w' (hv.oldN hw' trivial) hl hn) ?_
 by_cases he: (Ze_ base.length l).2=0
 ·obtain⟨m,hm⟩: ∃m,Ze_ base.length l=(m,0):=⟨(Ze_ base.length l).1,by rw[←he]⟩
  obtain⟨-,hb4,hz,hs4,-,hl4⟩:=Vl_ hm
  rw[if_pos he,hm]
  have e0: ((0:Int) !=0)=false:=rfl
  refine ko @jC_ ?_
  first|with_reducible refine ks [] (And.intro @jC_ @e0) ?_|refine kp (And.intro @jC_ @e0) ?_
  refine Ow.alloc rfl rfl Tryz.zr123 fun b8 hb8 hw8=> ?_
  have hZ:BldAt b8 [] [(b8, .cells #[.pointer none, .slice none 0 0] 123 (0,0))]:=BldAt.zeroK b8 (zP_ _ _ _)
  refine ko @jC_ ?_
  first|with_reducible refine ks [] (And.intro @jC_ @ln) ?_|refine kp (And.intro @jC_ @ln) ?_
  refine Cw.loopG (G:=TxG) [27,28,29,10,31,32,33,34,30,35,36,37,11,12,13,38,39,40,41,42,43,44,45,46,47,48,26] (fun g=> [(8,vp b8 0),(26,vi g.g)]) (fun g=>g.D++g.E) (fun g=>g.g≤l.length∧New w.heap.size (g.D++g.E)∧BldAt b8 (txtP base (l.take g.g)) g.D) (fun g=>l.length - g.g) ⟨0,[(b8, .cells #[.pointer none, .slice none 0 0] 123 (0,0))],[]⟩ rfl rfl ?_ ?_
  ·exact⟨Nat.zero_le _,⟨hw8,trivial⟩,hZ⟩
  intro g j hg
  refine kv ?_
  obtain⟨g,D,E2⟩:=g
  simp only at hg ⊢
  obtain⟨hgl,hN,hB⟩:=hg
  by_cases hlt:g<l.length
  ·have hb0:0<l.length:=by omega
   have hbl:=hr.lt hb0
   have rd:zB_ w (D++E2) bb=some (.cells arr E fz):=by rw[q9_ (hN.not hbl)];exact hr.has hb0
   have i2:=hr.idx true g hlt
   have ld:=hr.load kV_ (by omega) hlt
   obtain⟨hpb,hpx⟩:=hl g hlt
   have htk:=ag2_ (base:=base) hlt
   have htl:=QF_ (base:=base) (aln_ (g:=g+1) hz)
   have hsl:=aad_ (b:=(base.length:Int)) (l:=l) (g:=g+1)
   generalize hp:l.getD g pc0=p at*
   have hat:=ahr_ p base
   have hpt:=am8_ base p
   rw[htk,List.length_append] at htl
   have hptl: (pcT base p).length≤4099:=by omega
   have d3:decide ((g:Int)< (l.length:Int))=true:=decide_eq_true (by omega)
   first|with_reducible refine ks [] (And.intro @jC_ (And.intro @d3 (And.intro @i2 (And.intro @rd (@ld))))) ?_|refine kp (And.intro @jC_ (And.intro @d3 (And.intro @i2 (And.intro @rd (@ld))))) ?_
   refine Ow.alloc rfl rfl zrPc fun b9 hb9 hw9=> ?_
   simp only[zd_,List.nil_append,List.cons_append]
   have hD9:b9∉keys D:=fun h=>Nat.lt_irrefl _ (zm_ hb9 (by rw[zi_];exact List.mem_append_left _ h))
   have h89:b8∈keys D:=by obtain⟨p,v,hlk,-⟩:=hB;exact zu_ hlk
   refine Ow.permL (M:=(b9, .cells (pcC pc0).toArray 300 (0,0)):: (D++E2)) (by classical exact List.perm_iff_count.2 fun a=>by simp only[List.count_append,List.count_cons,List.count_nil]<;>omega) ?_
   have hsp:=acX_ p pc0 300
   refine ko (And.intro @jC_ @hsp) ?_
   first|with_reducible refine ks [] @jC_ ?_|refine kp @jC_ ?_
   refine Ow.callFV rfl Tryz.call227 (fun w' hw'=>wL_ p (base.length:Int) w' hpb (by omega) (by omega)) ?_
   rw[am4_]
   generalize hA: (pcAt p base.length).1=A at*
   generalize hNn: (pcAt p base.length).2=Nn at*
   refine ko @jC_ ?_
   first|with_reducible refine ks [] @jC_ ?_|refine kp @jC_ ?_
   refine Cw.permL (M:=D++ ((b9, .cells (pcC p).toArray 300 (0,0))::E2)) (by classical exact List.perm_iff_count.2 fun a=>by simp only[List.count_append,List.count_cons,List.count_nil]<;>omega) ?_
   have rd9:zB_ w (D++ ((b9, .cells (pcC p).toArray 300 (0,0))::E2)) b9=some (.cells (pcC p).toArray 300 (0,0)):=z6_ (by rw[qH_ hD9];exact zP_ _ _ _)
   have hsum: (A:Int)+ (Nn:Int)=((A+Nn:Nat):Int):=by omega
   refine Cw.regionO [0,1,2,3,4,5,6,7,8,9] [8,9] rfl (by kernel_rfl) (by kernel_rfl) ?_
   simp only[zk_, ↓ze_, ↓zc_, ↓zt_, ↓zs_,zb_]
   refine kq (And.intro @jC_ (And.intro @hsum (@rd9))) ?_
   refine Ow.buildSlice (e:=9) #[vs ((base.take (A+Nn)).drop A),vs p.x] rfl rfl (ami_ _ _) fun b11 hb11 hw11=> ?_
   have hD11:b11∉keys D:=fun h=>Nat.lt_irrefl _ (zm_ hb11 (by rw[zi_];exact List.mem_append_left _ h))
   rw[List.append_assoc]
   simp only[List.cons_append,List.nil_append]
   have hX1:=fun(w':World) (hw':Hp w (D++ ((b9,Obj.cells (pcC p).toArray 300 (0,0)):: (E2++ [(b11, .cells #[vs ((base.take (A+Nn)).drop A),vs p.x] 9 (0,0))]))) w')=>hw'.has b11 (.cells #[vs ((base.take (A+Nn)).drop A),vs p.x] 9 (0,0)) (by simp)
   have hpt2: [(base.take (A+Nn)).drop A,p.x].flatten=pcT base p:=by rw[hpt];simp
   refine kq @jC_ ?_
   refine Ow.callX (Y:=((b9,Obj.cells (pcC p).toArray 300 (0,0)):: (E2++ [(b11, .cells #[vs ((base.take (A+Nn)).drop A),vs p.x] 9 (0,0))]))) (by simp) rfl rfl Tryz.call60 (fun w' hw' hX hn=>kP_ b8 D _ _ b11 0 [(base.take (A+Nn)).drop A,p.x] _ _ _ w' hB hX hn (StrS.lit [(base.take (A+Nn)).drop A,p.x] rfl rfl (hX1 w' hw')) (fun _=>hD11) (by rw[hpt2];omega) (by simp)) (fun v12 D12 hC12 hS12=> ?_)
   obtain⟨rfl,hB12⟩:=hS12
   rw[hpt2,←htk] at hB12
   have hN0:New w.heap.size D:=New.of_le fun c hc=>hN.le c (by rw[zi_];exact List.mem_append_left _ hc)
   have hE0:New w.heap.size E2:=New.of_le fun c hc=>hN.le c (by rw[zi_];exact List.mem_append_right _ hc)
   have hN12:New w.heap.size D12:=aab_ hC12 hN0
   refine kq @jC_ ?_
   try with_reducible refine Ow.nil ?_
   first|with_reducible refine ks [] @jC_ ?_|refine kp @jC_ ?_
   refine Again.mk (TxG.mk (g+1) D12 ((b9,Obj.cells (pcC p).toArray 300 (0,0)):: (E2++ [(b11, .cells #[vs ((base.take (A+Nn)).drop A),vs p.x] 9 (0,0))]))) (by show l.length - (g+1)<l.length - g;omega) ⟨hlt,hN12.app ⟨hw9,hE0.app ⟨hw11,trivial⟩⟩,hB12⟩ rfl rfl
  ·obtain rfl:g=l.length:=by omega
   have d3:decide ((l.length:Int)< (l.length:Int))=false:=by simp
   rw[List.take_length] at hB
   have htl:=QF_ hz
   first|with_reducible refine ks [] (And.intro @jC_ @d3) ?_|refine kp (And.intro @jC_ @d3) ?_
   refine Ow.callX (Y:=E2) (by simp) rfl rfl Tryz.call64 (fun w' hw' hX hn=>kf_ b8 D _ w' hB hX hn (by omega)) (fun v12 D12 hC12 hS12=> ?_)
   have hS12':v12=vs (txtP base l):=hS12
   subst hS12'
   have hN0:New w.heap.size D:=New.of_le fun c hc=>hN.le c (by rw[zi_];exact List.mem_append_left _ hc)
   have hE0:New w.heap.size E2:=New.of_le fun c hc=>hN.le c (by rw[zi_];exact List.mem_append_right _ hc)
   have hN12:New w.heap.size D12:=aab_ hC12 hN0
   refine ko @jC_ ?_
   first|with_reducible refine ks [] @jC_ ?_|refine kp @jC_ ?_
   refine⟨_,(ke @jC_),hN12.app hE0, ?_⟩
   rfl
 ·have e1: ((Ze_ base.length l).2 !=0)=true:=by rw[bne_iff_ne];exact he
  rw[if_neg he]
  refine ko @jC_ ?_
  first|with_reducible refine ks [] (And.intro @jC_ @e1) ?_|refine kp (And.intro @jC_ @e1) ?_
  refine⟨_,(ke @jC_),trivial, ?_⟩
  rfl
end Go.Proofs
end
namespace Go.Sx
open Go
section
variable {α:Type} {m:Nat} {enc:α→List Value} {z:α}
end
section
variable {P:Program} {w0:World} {f:Fr} {L:za_} {N:Fr→za_→Prop} {ops:Array Oper} {rest:List Oper} {md:Md} {d:Option Tmp} {ty:TypeId} {ps:String} {af:Array Edge} {g:Option (Nat×Bool)}
theorem Ow.makeSlice {t e:TypeId} {m:Bool×Nat} {z:Value} {x y:Operand} {n c:Nat} {md':Md} (he:md.turn=some md') (hs:zh_ ops f ⟨d, .makeSlice t x y,ty,ps,af,g⟩=false)
  (hu:P.underlying t=some (.slice e)) (hm:zW_ P e=some m) (hi:kz_ P e=true) (hz:zK_ P e=some z) (hx:ev f x=vi n) (hy:ev f y=vi c) (hnc:n≤c) (hbig:c≤2^38)
  (hn: ∀b,j6_ L b→w0.heap.size≤b→Ow P w0 ops md' rest (qo_ f d (vsl b 0 n c)) (L++ [(b, .cells (madeCells z.cells (c*m.2)) e (0,0))]) N):
  Ow P w0 ops md (⟨d, .makeSlice t x y,ty,ps,af,g⟩::rest) f L N:=by
 refine Ow.step he rfl hs fun w hw=> .inl ⟨vsl w.heap.size 0 n c,w.alloc (.cells (madeCells z.cells (c*m.2)) e (0,0)),_, ?_,hw.alloc _,hn _ (qg_ fun b hb=>hw.lt hb) hw.size⟩
 obtain⟨i,hie,-,hb⟩:=vU_ hi hbig
 have hiz:i.zero=some z:=by
  unfold zK_ at hz
  rw[hie] at hz
  exact hz
 have him:i.size=m.2:=by
  unfold zW_ at hm
  rw[hie] at hm
  split at hm
  ·rename_i h1 h2
   cases h2
   cases hm
   rfl
  ·cases hm
 have hbb: (i.bytes:Int)* (c:Int)≤281474976710656:=by
  have: ((i.bytes*c:Nat):Int)≤281474976710656:=by rw[Nat.mul_comm];exact Int.ofNat_le.2 hb
  rwa [Int.natCast_mul] at this
 have hr:=run_make (P:=P) w t e i z hu hie hiz .i64 .i64 (n:Int) (c:Int) (by omega) (by omega) hbb (by omega)
 simp only[Int.toNat_natCast,him] at hr
 show(execOp (ev f) _).run P w=_
 simp only[execOp,Sem.run_bind]
 rw[hx,hy]
 show((Instr.makeSlice t (.int .i64 (n:Int)) (.int .i64 (c:Int))).run P w).andThen _=_
 rw[hr]
 rfl
theorem Ow.appendXG {ts tx e:TypeId} {m:Bool×Nat} {z:Value} {s x:Operand} {n k:Nat} {cs new:List Value} {dx:TypeDesc} {md':Md} {X Y:za_} (sv:Value) (hL:L=X++Y) (hsv:ev f s=sv) (he:md.turn=some md')
  (hs:zh_ ops f ⟨d, .call ⟨.builtin .append, #[s,x], #[ts,tx]⟩,ty,ps,af,g⟩=false)
  (hu:P.underlying ts=some (.slice e)) (hm:zW_ P e=some m) (hi:kz_ P e=true) (hz:zK_ P e=some z) (hzs:z.cells.size=m.2) (hux:P.underlying tx=some dx) (hnx: ∀k,dx≠ .int k)
  (hB:Gr X e m.2 sv n cs) (hX: ∀w,Hp w0 L w→AppX P w m.2 (ev f x) k new) (hbig:2* (n+k)+768≤2^38)
  (hn: ∀B v' D,j6_ L B→w0.heap.size≤B→Gr D e m.2 v' (n+k) (cs++new)→(∀c,c∈keys X→c∈keys D)→(∀c,c∈keys D→c∈keys X∨B≤c)→(∀c o,slB sv≠some c→look X c=some o→look D c=some o)→Ow P w0 ops md' rest (qo_ f d v') (D++Y) N):
  Ow P w0 ops md (⟨d, .call ⟨.builtin .append, #[s,x], #[ts,tx]⟩,ty,ps,af,g⟩::rest) f L N:=by
 subst hL
 refine Ow.step he rfl hs fun w hw=> ?_
 have hp:=hw.part
 have hA:j6_ (X++Y) w.heap.size:=qg_ fun b hb=>hw.lt hb
 have fin: ∀v' w' D,(Builtin.append_ #[ts,tx] ty #[sv,ev f x]).run P w= .ok v' w'→Hp w D w'→Gr D e m.2 v' (n+k) (cs++new)→(∀c,c∈keys X→c∈keys D)→(∀c,c∈keys D→c∈keys X∨w.heap.size≤c)→(∀c o,slB sv≠some c→look X c=some o→look D c=some o)→
   (∃v w' L',(execOp (ev f) ⟨d, .call ⟨.builtin .append, #[s,x], #[ts,tx]⟩,ty,ps,af,g⟩).run P w= .ok (.value v) w'∧Hp w0 L' w'∧Ow P w0 ops md' rest (qo_ f d v) L' N):=by
  intro v' w' D hr hD hb h1 h2 h3
  refine⟨v',w',D++Y, ?_,hw.join hD h1 h2,hn w.heap.size v' D hA hw.size hb h1 h2 h3⟩
  simp only[execOp,resolve,Sem.run_bind,Sem.run_pure,Result.andThen_ok,invoke,builtin,List.map_toArray,List.map_cons,List.map_nil,hsv]
  rw[hr]
  rfl
 rcases hB with hB| ⟨rfl,rfl,b,rfl,hlk⟩
 ·obtain⟨v',w',D,hr,hD,hb,hg,-⟩:=ZI_ (w0:=w) (L:=X) (ty:=ty) (x:=ev f x) hp hu hm hi hz hzs hux hnx hB (fun w2 hw2=>hX w2 (by
   refine hw.join hw2 (fun c hc=>hc) (fun c hc=> .inl hc))) hbig
  exact .inl (fin v' w' D hr hD (.inl hb) hg.keys (fun c hc=>(hg.new c hc).imp id And.right) hg.look)
 ·rcases vV_ (w0:=w) (L:=X) (ty:=ty) (b:=b) (x:=ev f x) hp hu hm hi hz hzs hux hnx (fun w2 hw2=>hX w2 (by
   refine hw.join hw2 (fun c hc=>hc) (fun c hc=> .inl hc))) hbig with⟨h0,hr⟩ | ⟨-,v',w',D,hr,hD,hb,hg,-⟩
  ·subst h0
   have hnw:=(hX w hw).size
   obtain rfl:new= []:=List.eq_nil_of_length_eq_zero (by rw[hnw,Nat.zero_mul])
   exact .inl (fin _ w X hr hp (.inr ⟨rfl,rfl,b,rfl,hlk⟩) (fun c hc=>hc) (fun c hc=> .inl hc) (fun c o _ hl=>hl))
  ·exact .inl (fin v' w' D hr hD (.inl hb) hg.keys (fun c hc=>(hg.new c hc).imp id And.right) (fun c o _ hl=>hg.look c o (by simp[slB]) hl))
end
theorem New.perm {n:Nat} {D D':za_} (h:New n D) (hp:D.Perm D'):New n D':=New.of_le fun c hc=>h.le c ((hp.map Prod.fst).mem_iff.2 hc)
end Go.Sx
section
open Go Go.Proofs Go.Sx Go.StP Go.Flo
namespace Go.Proofs
set_option maxRecDepth 10000
set_option maxHeartbeats 400000
set_option linter.unusedSimpArgs false
def dB (d:List UInt8):Int×Nat×Int:=zq_ d 0 0 4099
def dM (d:List UInt8):Int×Nat×Int:=zq_ d (dB d).2.1 (dB d).2.2 4099
theorem Zp_ (d:List UInt8):kb_ d=if(dM d).2.2≠0 then none else if(pcs d (dM d).2.1).2.2≠0 then none else if Ze_ (dB d).1 (pcs d (dM d).2.1).1=((dM d).1,0) then some ((dB d).1.toNat,(pcs d (dM d).2.1).1) else none:=rfl
structure EG where
 lab:Nat
 br:Nat
 a:Nat
 e:Int
 out:List PcL
 v:Value
 D:za_
def drO (d:List UInt8) (a e:Int):Obj:= .cells #[vs d,vi a,vi e] 212 (0,0)
def EJ (d:List UInt8) (n:Nat) (g:EG):Prop:=
 (g.lab=1∧n≤g.br∧New n g.D∧g.br∉keys g.D∧Gr g.D 300 2 g.v g.out.length (g.out.map pcC).flatten∧g.a≤d.length∧BndP g.out∧g.out.length≤4099∧
  ((g.e≠0∧kb_ d=none)∨(g.e=0∧(dM d).2.2=0∧pcs d (dM d).2.1=(g.out++ (pcs d g.a).1,(pcs d g.a).2))))∨
 (g.lab=0∧n≤g.br∧New n g.D∧g.br∉keys g.D∧Gr g.D 300 2 g.v g.out.length (g.out.map pcC).flatten∧BndP g.out∧g.out.length≤4099∧(dM d).2.2=0∧pcs d (dM d).2.1=(g.out,d.length,0))∨
 (g.lab=2∧New n g.D∧kb_ d=none)
def EH (d:List UInt8) (g:EG):za_:=match g.lab with
 |1=>(g.br,drO d g.a g.e)::g.D
 |0=>(g.br,drO d g.a g.e)::g.D
 |_=>g.D
def ES (d:List UInt8) (g:EG):List (Nat×Value):=match g.lab with
 |1=> [(5,vp g.br 0),(6,vi (dB d).1),(7,vi (dM d).1),(8,g.v)]
 |0=> [(6,vi (dB d).1),(7,vi (dM d).1),(8,g.v)]
 |_=> []
def EL (g:EG):Nat:=match g.lab with
 |1=>1
 |0=>0
 |_=>2
def Km_ (d:List UInt8) (v:Value) (D:za_):Prop:=match kb_ d with
 |some p=> ∃x,v= .tuple #[vi p.1,x,vi 0]∧BndP p.2∧p.2.length≤4099∧p.1≤4099∧GrI D 300 2 x p.2.length (p.2.map pcC).flatten
 |none=>v= .tuple #[vi 0, .slice none 0 0,vi 2]
def pcE (d:List UInt8) (a:Nat) (e:Int):PcL×Nat×Int:=
 if(zq_ d a e 8199).1%2=1 then
  (⟨(zq_ d (zq_ d a e 8199).2.1 (zq_ d a e 8199).2.2 4099).1.toNat,((zq_ d a e 8199).1 / 2).toNat,[]⟩,(zq_ d (zq_ d a e 8199).2.1 (zq_ d a e 8199).2.2 4099).2)
 else(⟨0,0,(jq_ d (zq_ d a e 8199).2.1 (zq_ d a e 8199).2.2 ((zq_ d a e 8199).1 / 2)).1⟩,(jq_ d (zq_ d a e 8199).2.1 (zq_ d a e 8199).2.2 ((zq_ d a e 8199).1 / 2)).2)
theorem aj2_ (d:List UInt8) (a:Nat):pcE d a 0=pcR d a:=rfl
theorem an1_ {d:List UInt8} {a:Nat} {e:Int} (he:e≠0): (pcE d a e).2.2=e:=by
 have h1:=w8_ (s:=d) (a:=a) (most:=8199) he
 unfold pcE
 split
 ·simp only[h1]
  rw[w8_ (s:=d) (a:=a) (most:=4099) he]
 ·simp only[h1]
  rw[V7_ (s:=d) (a:=a) he]
theorem agq_ (a n:Nat):qV_ (vo_ Tryz.prog 300) (zK_ Tryz.prog 300) [(0,cx a n)]=some (.agg (pcC ⟨a,n,[]⟩).toArray):=by
 rw[show vo_ Tryz.prog 300=some [(0,1),(1,1)] from id (by kernel_rfl),zrPc];rfl
theorem ah5_ (x:List UInt8):qV_ (vo_ Tryz.prog 300) (zK_ Tryz.prog 300) [(1,vs x)]=some (.agg (pcC ⟨0,0,x⟩).toArray):=by
 rw[show vo_ Tryz.prog 300=some [(0,1),(1,1)] from id (by kernel_rfl),zrPc];rfl
theorem agV_ (p:PcL):wp_ Tryz.prog 263 1 [(0, .agg (pcC p).toArray)]=some (300,(pcC p).toArray):=
 qA_ Tryz.underlying263 (id (by kernel_rfl)) zrPc (by decide) (kV_ p)
theorem vh_ {d:List UInt8} {a:Nat} {out:List PcL} (hrel:pcs d (dM d).2.1=(out++ (pcs d a).1,(pcs d a).2)) (h: (pcs d a).2.2≠0∨4099< (out++ (pcs d a).1).length):kb_ d=none:=by
 rw[Zp_]
 split
 ·rfl
 ·split
  ·rfl
  ·rename_i h2
   rw[hrel] at h2 ⊢
   simp only at h2 ⊢
   rcases h with h|h
   ·exact absurd h h2
   ·rw[if_neg]
    intro hc
    have:=(Vl_ hc).2.2.2.2.2
    omega
set_option linter.defProp false
def zO_:=And.intro (And.intro (And.intro (@zg_) (And.intro (@zf_) (@xb_))) (And.intro (@xe_) (And.intro (@kv_) (@jx_)))) (And.intro (And.intro (@Sx.tup2_0) (And.intro (@Sx.tup2_1) (@Sx.tup3_0))) (And.intro (@Sx.tup3_1) (And.intro (@Sx.tup3_2) (@xP_))))
theorem adM_ (d:List UInt8) (w:World) (hd:d.length<9223372036854775808):Rets Tryz.prog 205 #[vs d] w (XS w [] (Km_ d)):=by
 refine Rets.enterX Tryz.func205 rfl (rs:= [.tmp 2, .tmp 3, .tmp 4]) Tryz.results205 Tryz.ntmps205 (fun p hp=>by cases hp) (by simp[keys]) ?_
 refine kf ?_
 first|with_reducible refine ks [] @zO_ ?_|refine kp @zO_ ?_
 refine Cw.scopeL (G:=EG) (fun g=>EL g) [12,13,5,14,15,16,17,6,7,8,9,10,11,18,19,20,21,22,23,24,25,26,27,28,29,30,31,32,33,34,35,36,37,38,39,40,41,42,43,44,45,46,47,48,49,50,51,52,54,55,56,53,57,58,59,60,61,62,63,64,65,66,67,2,3,4] (fun g=>ES d g) (fun g=>EH d g) (fun g=>EJ d w.heap.size g) (fun g=>(if g.lab=1 then d.length - g.a+1 else 0)) ?_ ?_ ?_
 ·intro g
  unfold EL
  split<;>rfl
 ·intro g j hg
  rcases hg with hg|hg|hg
  ·obtain⟨lab,br,a,e,out,v,D⟩:=g
   obtain⟨hlab,hg⟩:=hg
   simp only at hlab
   subst hlab
   simp only[EL,ES,EH] at hg ⊢
   obtain⟨hwr,hN,hbD,hGr,hal,hB,hol,hrel⟩:=hg
   simp only[drO]
   simp only[xX_,Qp_,Bool.or_false,Bool.false_or,Bool.or_true,Bool.true_or,Nat.reduceBEq,beq_self_eq_true, ↓reduceIte,Bool.false_eq_true]
   refine kv ?_
   try with_reducible refine qi_ ?_
   first|with_reducible refine ks [] @zO_ ?_|refine kp @zO_ ?_
   by_cases hA:e=0∧ ¬a<d.length
   ·obtain⟨rfl,hAl⟩:=hA
    have hE: (if(0:Int)≠0 then(0:Int) else if(a:Int)<d.length then 5 else 0)=0:=by rw[if_neg (by simp),if_neg (by omega)]
    have e00: ((0:Int)==0)=true:=rfl
    refine Ow.callFV rfl Tryz.call74 (fun w' hw'=>JV_ br d a 0 w' (hw'.has _ _ List.mem_cons_self)) ?_
    rw[hE]
    refine ko (And.intro @zO_ @e00) ?_
    first|with_reducible refine ks [] @zO_ ?_|refine kp @zO_ ?_
    refine Jump.mk ⟨0,br,a,0,out,v,D⟩ rfl (by show 0<d.length - a+1;omega) (.inr (.inl ⟨rfl,hwr,hN,hbD,hGr,hB,hol, ?_⟩)) rfl rfl
    rcases hrel with h| ⟨-,h1,h2⟩
    ·exact absurd rfl h.1
    ·rw[aaC_ hAl,List.append_nil] at h2
     exact⟨h1,by rw[h2,show a=d.length by omega]⟩
   ·obtain⟨E1,hE1,hE0⟩: ∃E1,(if e≠0 then e else if(a:Int)<d.length then 5 else 0)=E1∧(E1==0)=false:=by
     refine⟨_,rfl, ?_⟩
     rw[beq_eq_false_iff_ne]
     split
     ·assumption
     ·rename_i he
      rw[if_pos (by
       have:e=0:=by simpa using he
       have:a<d.length:=by
        rcases Nat.lt_or_ge a d.length with h|h
        ·exact h
        ·exact absurd ⟨this,by omega⟩ hA
       omega)]
      decide
    refine Ow.callFV rfl Tryz.call74 (fun w' hw'=>JV_ br d a e w' (hw'.has _ _ List.mem_cons_self)) ?_
    rw[hE1]
    refine ko (And.intro @zO_ @hE0) ?_
    first|with_reducible refine ks [] @zO_ ?_|refine kp @zO_ ?_
    have hq:=qX_ (s:=d) (a:=a) (e:=e) (most:=8199) (by omega)
    have hle1:=qb_ (s:=d) (a:=a) (e:=e) (most:=8199) hal
    have hpE:pcE d a e=pcE d a e:=rfl
    conv at hpE=>rhs;unfold pcE
    refine Ow.callM rfl rfl Tryz.call95 (by simp[keys]) (fun w' hw'=>qL_ br d a e 8199 w' hal hd (hw'.has _ _ List.mem_cons_self)) ?_
    generalize zq_ d a e 8199=q at*
    obtain⟨q1,a1,e1⟩:=q
    simp only at hq hle1 hpE ⊢
    obtain⟨Q,rfl⟩: ∃Q:Nat,q1=(Q:Int):=⟨q1.toNat,by omega⟩
    have hQ:Q≤8199:=by omega
    refine kn ?_
    refine ko @zO_ ?_
    by_cases hodd: (Q:Int)%2=1
    ·have d1: (((Q:Nat):Int)%2==1)=true:=by rw[beq_iff_eq];exact hodd
     rw[if_pos hodd] at hpE
     first|with_reducible refine ks [] (And.intro @zO_ @d1) ?_|refine kp (And.intro @zO_ @d1) ?_
     have hm2:=qX_ (s:=d) (a:=a1) (e:=e1) (most:=4099) (by omega)
     have hle2:=qb_ (s:=d) (a:=a1) (e:=e1) (most:=4099) hle1.2
     refine Ow.callM rfl rfl Tryz.call95 (by simp[keys]) (fun w' hw'=>qL_ br d a1 e1 4099 w' hle1.2 hd (hw'.has _ _ List.mem_cons_self)) ?_
     generalize zq_ d a1 e1 4099=x at*
     obtain⟨x1,a2,e2⟩:=x
     simp only at hm2 hle2 hpE ⊢
     obtain⟨X,rfl⟩: ∃X:Nat,x1=(X:Int):=⟨x1.toNat,by omega⟩
     rw[Int.toNat_natCast,show((Q:Int) / 2).toNat=Q / 2 by omega] at hpE
     refine kn ?_
     refine Ow.convIF rfl rfl cvIF Tryz.underlying3 Tryz.underlying301 rfl ?_
     refine ko @zO_ ?_
     rw[show(Q:Int) / 2=((Q / 2:Nat):Int) by omega]
     refine Ow.convIF rfl rfl cvIF Tryz.underlying3 Tryz.underlying301 rfl ?_
     refine Ow.complexB (a:=(X:Nat)) (b:=(Q / 2:Nat)) rfl rfl rfl ?_
     refine Ow.build (.agg (pcC ⟨X,Q / 2,[]⟩).toArray) rfl (agq_ X (Q / 2)) ?_
     have hpB:PcB (⟨X,Q / 2,[]⟩:PcL)∧(⟨X,Q / 2,[]⟩:PcL).x.length<9223372036854775808:=⟨⟨by show X≤4099;omega,by show Q / 2≤4099;omega⟩,by show 0<9223372036854775808;omega⟩
     generalize (⟨X,Q / 2,[]⟩:PcL)=p at*
     refine Ow.buildSlice (e:=300) (pcC p).toArray rfl rfl (agV_ p) fun b9 hb9 hw9=> ?_
     have h9:br<b9:=zm_ hb9 (by simp[keys])
     refine Ow.permL (M:=D++ [(br, .cells #[vs d,vi a2,vi e2] 212 (0,0)),(b9, .cells (pcC p).toArray 300 (0,0))]) (by classical exact List.perm_iff_count.2 fun a=>by simp only[List.count_append,List.count_cons,List.count_nil]<;>omega) ?_
     refine ko @zO_ ?_
     refine Ow.appendXG (e:=300) (k:=1) (new:=pcC p) (X:=D) v rfl rfl rfl rfl Tryz.underlying263 (id (by kernel_rfl):zW_ Tryz.prog 300=some (true,2)) (by kernel_rfl) zrPc (by rw[jx_,List.size_toArray,kV_]) Tryz.underlying263 (by intro k h;cases h) hGr (fun w' hw'=>AppX.one1 (hw'.has b9 (.cells (pcC p).toArray 300 (0,0)) (by simp)) (kV_ p) (ab1_ p)) (by omega) (fun B3 v3 D3 hA3 hB3 hG3 hk13 hk23 hlk3=> ?_)
     have hN3:New w.heap.size D3:=New.of_le fun q hq=>by
      rcases hk23 q hq with h|h
      ·exact hN.le q h
      ·omega
     have hbD3:br∉keys D3:=fun hm=>by
      rcases hk23 br hm with h|h
      ·exact hbD h
      ·exact Nat.lt_irrefl _ (Nat.lt_of_lt_of_le (zm_ hA3 (by rw[zi_];exact List.mem_append_right _ (by simp[keys]))) h)
     have hG4:Gr (D3++ [(b9, .cells (pcC p).toArray 300 (0,0))]) 300 2 v3 (out++ [p]).length ((out++ [p]).map pcC).flatten:=by
      have:=hG3.app (M:= [(b9,Obj.cells (pcC p).toArray 300 (0,0))])
      simpa using this
     have hN4:New w.heap.size (D3++ [(b9,Obj.cells (pcC p).toArray 300 (0,0))]):=hN3.app ⟨hw9,trivial⟩
     have hbD4:br∉keys (D3++ [(b9,Obj.cells (pcC p).toArray 300 (0,0))]):=fun hm=>by
      rw[zi_] at hm
      rcases List.mem_append.1 hm with h|h
      ·exact hbD3 h
      ·simp[keys] at h;omega
     refine Ow.permL (M:=(br, .cells #[vs d,vi a2,vi e2] 212 (0,0)):: (D3++ [(b9, .cells (pcC p).toArray 300 (0,0))])) (by classical exact List.perm_iff_count.2 fun a=>by simp only[List.count_append,List.count_cons,List.count_nil]<;>omega) ?_
     generalize (D3++ [(b9,Obj.cells (pcC p).toArray 300 (0,0))])=D4 at*
     refine ko @zO_ ?_
     first|with_reducible refine ks [] @zO_ ?_|refine kp @zO_ ?_
     refine Ow.callFV rfl Tryz.call137 (fun w' hw'=>xj_ br d a2 e2 w' (hw'.has _ _ List.mem_cons_self)) ?_
     have hlen4: ∀m,J0_ (.sl m) v3=some (vi (out++ [p]).length):=fun m=>hG4.len m
     have hB4:BndP (out++ [p]):=by
      intro g hg
      rw[List.length_append,List.length_cons,List.length_nil] at hg
      by_cases hgl:g<out.length
      ·rw[jD_ hgl];exact hB g hgl
      ·rw[qw_ (by omega),show g - out.length=0 by omega]
       exact hpB
     have hle0:e2=0→e=0:=fun h=>by
      by_cases he:e=0
      ·exact he
      ·have:=an1_ (d:=d) (a:=a) he
       rw[hpE] at this
       exact absurd (this.symm.trans h) he
     have hNw:New w.heap.size ((br,Obj.cells #[vs d,vi a2,vi e2] 212 (0,0))::D4):=⟨hwr,hN4⟩
     by_cases he2:e2=0
     ·have he0:=hle0 he2
      subst he2
      subst he0
      have hlt:a<d.length:=by
       rcases Nat.lt_or_ge a d.length with h|h
       ·exact h
       ·exact absurd ⟨rfl,by omega⟩ hA
      have e00: ((0:Int) !=0)=false:=rfl
      rw[aj2_] at hpE
      have hr0: (pcR d a).2.2=0:=by rw[hpE]
      have hup:=Kk_ hal hr0
      rw[hpE] at hup
      have hup2:a<a2:=hup
      obtain⟨-,hm0,hpc⟩: (0:Int)=0∧(dM d).2.2=0∧pcs d (dM d).2.1=(out++ (pcs d a).1,(pcs d a).2):=by
       rcases hrel with h|h
       ·exact absurd rfl h.1
       ·exact h
      rw[adw_ hlt hr0,hpE] at hpc
      have hpc':pcs d (dM d).2.1=((out++ [p])++ (pcs d a2).1,(pcs d a2).2):=by rw[hpc];simp
      by_cases hlen:4099< (out++ [p]).length
      ·have d5:decide ((4099:Int)< ((out++ [p]).length:Int))=true:=decide_eq_true (by omega)
       refine ko (And.intro @zO_ (And.intro @e00 (And.intro @hlen4 (@d5)))) ?_
       first|with_reducible refine ks [] (And.intro @zO_ (And.intro @e00 (And.intro @hlen4 (@d5)))) ?_|refine kp (And.intro @zO_ (And.intro @e00 (And.intro @hlen4 (@d5)))) ?_
       refine Jump.mk ⟨2,br,a2,0,out,v3,(br, .cells #[vs d,vi a2,vi 0] 212 (0,0))::D4⟩ rfl (by show 0<d.length - a+1;omega) (.inr (.inr ⟨rfl,hNw,vh_ hpc' (.inr ?_)⟩)) rfl rfl
       rw[List.length_append];omega
      ·have d5:decide ((4099:Int)< ((out++ [p]).length:Int))=false:=decide_eq_false (by omega)
       refine ko (And.intro @zO_ (And.intro @e00 (And.intro @hlen4 (@d5)))) ?_
       first|with_reducible refine ks [] (And.intro @zO_ (And.intro @e00 (And.intro @hlen4 (@d5)))) ?_|refine kp (And.intro @zO_ (And.intro @e00 (And.intro @hlen4 (@d5)))) ?_
       refine Jump.mk ⟨1,br,a2,0,out++ [p],v3,D4⟩ rfl (by show d.length - a2+1<d.length - a+1;omega) (.inl ⟨rfl,hwr,hN4,hbD4,hG4,hle2.2,hB4,by show(out++ [p]).length≤4099;omega, .inr ⟨rfl,hm0,hpc'⟩⟩) rfl rfl
     ·have e00: (e2 !=0)=true:=by rw[bne_iff_ne];exact he2
      have hno:kb_ d=none:=by
       rcases hrel with h| ⟨rfl,hm0,hpc⟩
       ·exact h.2
       ·have hlt:a<d.length:=by
         rcases Nat.lt_or_ge a d.length with h|h
         ·exact h
         ·exact absurd ⟨rfl,by omega⟩ hA
        rw[aj2_] at hpE
        refine vh_ hpc (.inl ?_)
        rw[KN_ hlt (by rw[hpE];exact he2),hpE];exact he2
      refine ko (And.intro @zO_ @e00) ?_
      first|with_reducible refine ks [] (And.intro @zO_ @e00) ?_|refine kp (And.intro @zO_ @e00) ?_
      exact Jump.mk ⟨2,br,a2,0,out,v3,(br, .cells #[vs d,vi a2,vi e2] 212 (0,0))::D4⟩ rfl (by show 0<d.length - a+1;omega) (.inr (.inr ⟨rfl,hNw,hno⟩)) rfl rfl
    ·have d1: (((Q:Nat):Int)%2==1)=false:=by rw[beq_eq_false_iff_ne];exact hodd
     rw[if_neg hodd] at hpE
     first|with_reducible refine ks [] (And.intro @zO_ @d1) ?_|refine kp (And.intro @zO_ @d1) ?_
     have hle2:=x0_ (s:=d) (a:=a1) (e:=e1) (n:=(Q:Int) / 2) hle1.2
     have hxl: (jq_ d a1 e1 ((Q:Int) / 2)).1.length<9223372036854775808:=by
      unfold jq_
      split
      ·simp
      ·split
       ·simp
       ·split
        ·simp
        ·simp only[List.length_take,List.length_drop];omega
     refine Ow.callM rfl rfl Tryz.call94 (by simp[keys]) (fun w' hw'=>vH_ br d a1 e1 ((Q:Int) / 2) w' hle1.2 hd (hw'.has _ _ List.mem_cons_self)) ?_
     generalize jq_ d a1 e1 ((Q:Int) / 2)=x at*
     obtain⟨x1,a2,e2⟩:=x
     simp only at hle2 hxl hpE ⊢
     refine kn ?_
     refine Ow.build (.agg (pcC ⟨0,0,x1⟩).toArray) rfl (ah5_ x1) ?_
     have hpB:PcB (⟨0,0,x1⟩:PcL)∧(⟨0,0,x1⟩:PcL).x.length<9223372036854775808:=⟨⟨Nat.zero_le _,Nat.zero_le _⟩,hxl⟩
     generalize (⟨0,0,x1⟩:PcL)=p at*
     refine Ow.buildSlice (e:=300) (pcC p).toArray rfl rfl (agV_ p) fun b9 hb9 hw9=> ?_
     have h9:br<b9:=zm_ hb9 (by simp[keys])
     refine Ow.permL (M:=D++ [(br, .cells #[vs d,vi a2,vi e2] 212 (0,0)),(b9, .cells (pcC p).toArray 300 (0,0))]) (by classical exact List.perm_iff_count.2 fun a=>by simp only[List.count_append,List.count_cons,List.count_nil]<;>omega) ?_
     refine ko @zO_ ?_
     refine Ow.appendXG (e:=300) (k:=1) (new:=pcC p) (X:=D) v rfl rfl rfl rfl Tryz.underlying263 (id (by kernel_rfl):zW_ Tryz.prog 300=some (true,2)) (by kernel_rfl) zrPc (by rw[jx_,List.size_toArray,kV_]) Tryz.underlying263 (by intro k h;cases h) hGr (fun w' hw'=>AppX.one1 (hw'.has b9 (.cells (pcC p).toArray 300 (0,0)) (by simp)) (kV_ p) (ab1_ p)) (by omega) (fun B3 v3 D3 hA3 hB3 hG3 hk13 hk23 hlk3=> ?_)
     have hN3:New w.heap.size D3:=New.of_le fun q hq=>by
      rcases hk23 q hq with h|h
      ·exact hN.le q h
      ·omega
     have hbD3:br∉keys D3:=fun hm=>by
      rcases hk23 br hm with h|h
      ·exact hbD h
      ·exact Nat.lt_irrefl _ (Nat.lt_of_lt_of_le (zm_ hA3 (by rw[zi_];exact List.mem_append_right _ (by simp[keys]))) h)
     have hG4:Gr (D3++ [(b9, .cells (pcC p).toArray 300 (0,0))]) 300 2 v3 (out++ [p]).length ((out++ [p]).map pcC).flatten:=by
      have:=hG3.app (M:= [(b9,Obj.cells (pcC p).toArray 300 (0,0))])
      simpa using this
     have hN4:New w.heap.size (D3++ [(b9,Obj.cells (pcC p).toArray 300 (0,0))]):=hN3.app ⟨hw9,trivial⟩
     have hbD4:br∉keys (D3++ [(b9,Obj.cells (pcC p).toArray 300 (0,0))]):=fun hm=>by
      rw[zi_] at hm
      rcases List.mem_append.1 hm with h|h
      ·exact hbD3 h
      ·simp[keys] at h;omega
     refine Ow.permL (M:=(br, .cells #[vs d,vi a2,vi e2] 212 (0,0)):: (D3++ [(b9, .cells (pcC p).toArray 300 (0,0))])) (by classical exact List.perm_iff_count.2 fun a=>by simp only[List.count_append,List.count_cons,List.count_nil]<;>omega) ?_
     generalize (D3++ [(b9,Obj.cells (pcC p).toArray 300 (0,0))])=D4 at*
     refine ko @zO_ ?_
     first|with_reducible refine ks [] @zO_ ?_|refine kp @zO_ ?_
     refine Ow.callFV rfl Tryz.call137 (fun w' hw'=>xj_ br d a2 e2 w' (hw'.has _ _ List.mem_cons_self)) ?_
     have hlen4: ∀m,J0_ (.sl m) v3=some (vi (out++ [p]).length):=fun m=>hG4.len m
     have hB4:BndP (out++ [p]):=by
      intro g hg
      rw[List.length_append,List.length_cons,List.length_nil] at hg
      by_cases hgl:g<out.length
      ·rw[jD_ hgl];exact hB g hgl
      ·rw[qw_ (by omega),show g - out.length=0 by omega]
       exact hpB
     have hle0:e2=0→e=0:=fun h=>by
      by_cases he:e=0
      ·exact he
      ·have:=an1_ (d:=d) (a:=a) he
       rw[hpE] at this
       exact absurd (this.symm.trans h) he
     have hNw:New w.heap.size ((br,Obj.cells #[vs d,vi a2,vi e2] 212 (0,0))::D4):=⟨hwr,hN4⟩
     by_cases he2:e2=0
     ·have he0:=hle0 he2
      subst he2
      subst he0
      have hlt:a<d.length:=by
       rcases Nat.lt_or_ge a d.length with h|h
       ·exact h
       ·exact absurd ⟨rfl,by omega⟩ hA
      have e00: ((0:Int) !=0)=false:=rfl
      rw[aj2_] at hpE
      have hr0: (pcR d a).2.2=0:=by rw[hpE]
      have hup:=Kk_ hal hr0
      rw[hpE] at hup
      have hup2:a<a2:=hup
      obtain⟨-,hm0,hpc⟩: (0:Int)=0∧(dM d).2.2=0∧pcs d (dM d).2.1=(out++ (pcs d a).1,(pcs d a).2):=by
       rcases hrel with h|h
       ·exact absurd rfl h.1
       ·exact h
      rw[adw_ hlt hr0,hpE] at hpc
      have hpc':pcs d (dM d).2.1=((out++ [p])++ (pcs d a2).1,(pcs d a2).2):=by rw[hpc];simp
      by_cases hlen:4099< (out++ [p]).length
      ·have d5:decide ((4099:Int)< ((out++ [p]).length:Int))=true:=decide_eq_true (by omega)
       refine ko (And.intro @zO_ (And.intro @e00 (And.intro @hlen4 (@d5)))) ?_
       first|with_reducible refine ks [] (And.intro @zO_ (And.intro @e00 (And.intro @hlen4 (@d5)))) ?_|refine kp (And.intro @zO_ (And.intro @e00 (And.intro @hlen4 (@d5)))) ?_
       refine Jump.mk ⟨2,br,a2,0,out,v3,(br, .cells #[vs d,vi a2,vi 0] 212 (0,0))::D4⟩ rfl (by show 0<d.length - a+1;omega) (.inr (.inr ⟨rfl,hNw,vh_ hpc' (.inr ?_)⟩)) rfl rfl
       rw[List.length_append];omega
      ·have d5:decide ((4099:Int)< ((out++ [p]).length:Int))=false:=decide_eq_false (by omega)
       refine ko (And.intro @zO_ (And.intro @e00 (And.intro @hlen4 (@d5)))) ?_
       first|with_reducible refine ks [] (And.intro @zO_ (And.intro @e00 (And.intro @hlen4 (@d5)))) ?_|refine kp (And.intro @zO_ (And.intro @e00 (And.intro @hlen4 (@d5)))) ?_
       refine Jump.mk ⟨1,br,a2,0,out++ [p],v3,D4⟩ rfl (by show d.length - a2+1<d.length - a+1;omega) (.inl ⟨rfl,hwr,hN4,hbD4,hG4,hle2.2,hB4,by show(out++ [p]).length≤4099;omega, .inr ⟨rfl,hm0,hpc'⟩⟩) rfl rfl
     ·have e00: (e2 !=0)=true:=by rw[bne_iff_ne];exact he2
      have hno:kb_ d=none:=by
       rcases hrel with h| ⟨rfl,hm0,hpc⟩
       ·exact h.2
       ·have hlt:a<d.length:=by
         rcases Nat.lt_or_ge a d.length with h|h
         ·exact h
         ·exact absurd ⟨rfl,by omega⟩ hA
        rw[aj2_] at hpE
        refine vh_ hpc (.inl ?_)
        rw[KN_ hlt (by rw[hpE];exact he2),hpE];exact he2
      refine ko (And.intro @zO_ @e00) ?_
      first|with_reducible refine ks [] (And.intro @zO_ @e00) ?_|refine kp (And.intro @zO_ @e00) ?_
      exact Jump.mk ⟨2,br,a2,0,out,v3,(br, .cells #[vs d,vi a2,vi e2] 212 (0,0))::D4⟩ rfl (by show 0<d.length - a+1;omega) (.inr (.inr ⟨rfl,hNw,hno⟩)) rfl rfl
  ·obtain⟨lab,br,a,e,out,v,D⟩:=g
   obtain⟨hlab,hg⟩:=hg
   simp only at hlab
   subst hlab
   simp only[EL,ES,EH] at hg ⊢
   obtain⟨hwr,hN,hbD,hGr,hB,hol,hm0,hpc⟩:=hg
   simp only[drO]
   simp only[xX_,Qp_,Bool.or_false,Bool.false_or,Bool.or_true,Bool.true_or,Nat.reduceBEq,beq_self_eq_true, ↓reduceIte,Bool.false_eq_true]
   refine kv ?_
   try with_reducible refine qi_ ?_
   first|with_reducible refine ks [] @zO_ ?_|refine kp @zO_ ?_
   have hNw:New w.heap.size ((br,Obj.cells #[vs d,vi a,vi e] 212 (0,0))::D):=⟨hwr,hN⟩
   have hdl:kb_ d=if Ze_ (dB d).1 out=((dM d).1,0) then some ((dB d).1.toNat,out) else none:=by
    rw[Zp_,if_neg (by rw[hm0];simp),hpc,if_neg (by simp)]
   refine Ow.callFV rfl Tryz.call226 (fun w' hw'=>XX_ (dB d).1 v out w' (GrI.slV (Gr.i (X:=D) hGr fun q hq=>List.mem_cons_of_mem _ hq) hw' rfl rfl kV_) hB (by omega)) ?_
   by_cases hc:Ze_ (dB d).1 out=((dM d).1,0)
   ·rw[if_pos hc] at hdl
    have hb0:=qX_ (s:=d) (a:=0) (e:=0) (most:=4099) (by omega)
    change 0≤ (dB d).1∧(dB d).1≤4099 at hb0
    have e1: ((dM d).1==(dM d).1)=true:=by simp
    have e00: ((0:Int)==0)=true:=rfl
    rw[hc]
    refine ko @zO_ ?_
    first|with_reducible refine ks [] (And.intro @zO_ (And.intro @e00 (@e1))) ?_|refine kp (And.intro @zO_ (And.intro @e00 (@e1))) ?_
    refine⟨_,(ke @zO_), ?_⟩
    refine⟨Ext.of_new hNw, ?_⟩
    unfold Km_
    rw[hdl]
    refine⟨v, ?_,hB,hol,by show(dB d).1.toNat≤4099;omega,Gr.i (X:=D) hGr fun q hq=>List.mem_cons_of_mem _ hq⟩
    rw[show((((dB d).1.toNat,out).1:Nat):Int)=(dB d).1 by show(((dB d).1.toNat:Nat):Int)=_;omega]
    rfl
   ·rw[if_neg hc] at hdl
    have hfin:Km_ d (.tuple #[vi 0, .slice none 0 0,vi 2]) ((br,Obj.cells #[vs d,vi a,vi e] 212 (0,0))::D):=by unfold Km_;rw[hdl]
    by_cases he: (Ze_ (dB d).1 out).2=0
    ·have e00: ((Ze_ (dB d).1 out).2==0)=true:=by rw[beq_iff_eq];exact he
     have e1: ((Ze_ (dB d).1 out).1==(dM d).1)=false:=by
      rw[beq_eq_false_iff_ne]
      intro h
      exact hc (by rw[←h,←he])
     refine ko @zO_ ?_
     first|with_reducible refine ks [] (And.intro @zO_ (And.intro @e00 (@e1))) ?_|refine kp (And.intro @zO_ (And.intro @e00 (@e1))) ?_
     refine⟨_,(ke @zO_), ?_⟩
     exact⟨Ext.of_new hNw,hfin⟩
    ·have e00: ((Ze_ (dB d).1 out).2==0)=false:=by rw[beq_eq_false_iff_ne];exact he
     refine ko @zO_ ?_
     first|with_reducible refine ks [] (And.intro @zO_ @e00) ?_|refine kp (And.intro @zO_ @e00) ?_
     refine⟨_,(ke @zO_), ?_⟩
     exact⟨Ext.of_new hNw,hfin⟩
  ·obtain⟨lab,br,a,e,out,v,D⟩:=g
   obtain⟨hlab,hg⟩:=hg
   simp only at hlab
   subst hlab
   simp only[EL,ES,EH] at hg ⊢
   obtain⟨hN,hno⟩:=hg
   simp only[xX_,Qp_,Bool.or_false,Bool.false_or,Bool.or_true,Bool.true_or,Nat.reduceBEq,beq_self_eq_true, ↓reduceIte,Bool.false_eq_true]
   refine kv ?_
   try with_reducible refine qi_ ?_
   first|with_reducible refine ks [] @zO_ ?_|refine kp @zO_ ?_
   refine⟨_,(ke @zO_), ?_⟩
   refine⟨Ext.of_new hN, ?_⟩
   unfold Km_
   rw[hno];rfl
 ·intro key
  repeat ((try with_reducible refine Cw.go [999999] ?_);(simp(disch:=(first|assumption|omega| (simp only[jW_,jX_,UInt64.reduceToNat];try omega))) only[↓Sx.S0,Sx.S1,Tryz.fx,zO_,Nat.reduceAdd,Nat.reducePow,Int.reducePow,Nat.reduceBEq, ↓reduceIte,UInt8.reduceToNat,UInt16.reduceToNat,UInt32.reduceToNat,UInt64.reduceToNat,Int.reduceToNat]))
  refine Ow.callF rfl rfl Tryz.call71 (S:=fun B v D=> ∃b',B≤b'∧v=vp b' 0∧D= [(b', .cells #[vs d,vi 0,vi 0] 212 (0,0))]) (fun w' hw'=>vq_ d w') ?_
  rintro B v D hab hB ⟨br,hbr,rfl,rfl⟩
  refine⟨_,Mrg.fresh (by intro q hq;simp only[keys,List.map_cons,List.map_nil,List.mem_singleton] at hq;omega), ?_⟩
  simp only[List.cons_append,List.nil_append]
  have hwr:w.heap.size≤br:=by omega
  refine ko @zO_ ?_
  repeat ((try with_reducible refine Cw.go [999999] ?_);(simp(disch:=(first|assumption|omega| (simp only[jW_,jX_,UInt64.reduceToNat];try omega))) only[↓Sx.S0,Sx.S1,Tryz.fx,zO_,Nat.reduceAdd,Nat.reducePow,Int.reducePow,Nat.reduceBEq, ↓reduceIte,UInt8.reduceToNat,UInt16.reduceToNat,UInt32.reduceToNat,UInt64.reduceToNat,Int.reduceToNat]))
  have hle1:=qb_ (s:=d) (a:=0) (e:=0) (most:=4099) (Nat.zero_le _)
  refine Ow.callM rfl rfl Tryz.call95 (by simp[keys]) (fun w' hw'=>qL_ br d 0 0 4099 w' (Nat.zero_le _) hd (hw'.has _ _ List.mem_cons_self)) ?_
  rw[show zq_ d 0 0 4099=dB d from rfl] at hle1 ⊢
  have hle2:=qb_ (s:=d) (a:=(dB d).2.1) (e:=(dB d).2.2) (most:=4099) hle1.2
  refine kn ?_
  refine ko @zO_ ?_
  refine Ow.callM rfl rfl Tryz.call95 (by simp[keys]) (fun w' hw'=>qL_ br d (dB d).2.1 (dB d).2.2 4099 w' hle1.2 hd (hw'.has _ _ List.mem_cons_self)) ?_
  rw[show zq_ d (dB d).2.1 (dB d).2.2 4099=dM d from rfl] at hle2 ⊢
  refine kn ?_
  refine ko @zO_ ?_
  repeat ((try with_reducible refine Cw.go [999999] ?_);(simp(disch:=(first|assumption|omega| (simp only[jW_,jX_,UInt64.reduceToNat];try omega))) only[↓Sx.S0,Sx.S1,Tryz.fx,zO_,Nat.reduceAdd,Nat.reducePow,Int.reducePow,Nat.reduceBEq, ↓reduceIte,UInt8.reduceToNat,UInt16.reduceToNat,UInt32.reduceToNat,UInt64.reduceToNat,Int.reduceToNat]))
  have key0:=fun f'=>key (⟨1,br,(dM d).2.1,(dM d).2.2,[], .slice none 0 0,[]⟩) f'
  simp only[xX_,Qp_,Bool.or_false,Bool.false_or,Bool.or_true,Bool.true_or,Nat.reduceBEq,beq_self_eq_true, ↓reduceIte,Bool.false_eq_true] at key0
  clear key
  refine Cw.label ?_
  refine key0 _ (.inl ⟨rfl,hwr,trivial,by simp[keys],Gr.nl,hle2.2,fun g hg=>by simp at hg,by simp, ?_⟩) ?_
  ·by_cases hm: (dM d).2.2=0
   ·exact .inr ⟨hm,hm,by simp⟩
   ·refine .inl ⟨hm, ?_⟩
    rw[Zp_,if_pos hm]
  ·rfl
end Go.Proofs
end
section
open Go Go.Proofs Go.Sx Go.StP Go.Flo
namespace Go.Proofs
set_option maxRecDepth 10000
set_option maxHeartbeats 400000
set_option linter.unusedSimpArgs false
theorem X7_ {d:List UInt8} {p:Nat×List PcL} (h:kb_ d=some p): ∃m,Ze_ (p.1:Nat) p.2=(m,0):=by
 rw[Zp_] at h
 split at h
 ·cases h
 ·split at h
  ·cases h
  ·split at h
   ·rename_i hc
    cases h
    have hb0:=qX_ (s:=d) (a:=0) (e:=0) (most:=4099) (by omega)
    change 0≤ (dB d).1∧(dB d).1≤4099 at hb0
    refine⟨(dM d).1, ?_⟩
    rw[show(((dB d).1.toNat:Nat):Int)=(dB d).1 by omega]
    exact hc
   ·cases h
set_option linter.defProp false
def vQ_:=And.intro (And.intro (And.intro (@zg_) (@zf_)) (And.intro (@xb_) (And.intro (@xe_) (@kv_)))) (And.intro (And.intro (@jx_) (And.intro (@Sx.tup2_0) (@Sx.tup2_1))) (And.intro (@Sx.tup3_0) (And.intro (@Sx.tup3_1) (@Sx.tup3_2))))
theorem aet_ (base d:List UInt8) (w:World) (hd:d.length<9223372036854775808):
  Rets Tryz.prog 177 #[vs base,vs d] w (fun v D=>v= .tuple #[vs (xu_ base d).1,vi (xu_ base d).2]∧D= []):=by
 refine Rets.enterV Tryz.func177 rfl (rs:= [.tmp 4, .tmp 5]) Tryz.results177 Tryz.ntmps177 ?_
 refine kf ?_
 first|with_reducible refine ks [] @vQ_ ?_|refine kp @vQ_ ?_
 refine Ow.callC rfl rfl Tryz.call205 (fun w' hw'=>adM_ d w' hd) (fun B1 v1 D1 hA1 hB1 hN1 hS1=> ?_)
 have hN1':=hN1.mono hB1
 unfold Km_ at hS1
 cases hr:kb_ d with
 |none=>
  rw[hr] at hS1
  have hS1':v1= .tuple #[vi 0, .slice none 0 0,vi 2]:=hS1
  subst hS1'
  have hap:xu_ base d=([],2):=by unfold xu_;rw[hr]
  have e0: ((2:Int) !=0)=true:=rfl
  refine ko @vQ_ ?_
  first|with_reducible refine ks [] (And.intro @vQ_ @e0) ?_|refine kp (And.intro @vQ_ @e0) ?_
  refine⟨_,(ke @vQ_),hN1', ?_⟩
  rw[hap];rfl
 |some p=>
  rw[hr] at hS1
  obtain⟨x,rfl,hB,hl4,hp4,hg⟩:=hS1
  have e0: ((0:Int) !=0)=false:=rfl
  by_cases hb:p.1=base.length
  ·have e1: (((p.1:Nat):Int) !=((base.length:Nat):Int))=false:=by rw[hb];exact bne_self_eq_false _
   obtain⟨m,hm⟩:=X7_ hr
   rw[hb] at hm
   have hap:xu_ base d=(txtP base p.2,0):=by unfold xu_;rw[hr];simp only;rw[if_neg (by simp[hb])]
   refine ko @vQ_ ?_
   first|with_reducible refine ks [] (And.intro @vQ_ (And.intro @e0 (@e1))) ?_|refine kp (And.intro @vQ_ (And.intro @e0 (@e1))) ?_
   refine Ow.callFV rfl Tryz.call206 (fun w' hw'=>adK_ base x p.2 w' (GrI.slV (hg.mono fun q hq=>by simp[hq]) hw' rfl rfl kV_) hB (by omega)) ?_
   rw[hm,if_pos rfl]
   refine ko @vQ_ ?_
   first|with_reducible refine ks [] @vQ_ ?_|refine kp @vQ_ ?_
   refine⟨_,(ke @vQ_),hN1', ?_⟩
   rw[hap];rfl
  ·have e1: (((p.1:Nat):Int) !=((base.length:Nat):Int))=true:=by rw[bne_iff_ne];omega
   have hap:xu_ base d=([],19):=by unfold xu_;rw[hr];simp only;rw[if_pos hb]
   refine ko @vQ_ ?_
   first|with_reducible refine ks [] (And.intro @vQ_ (And.intro @e0 (@e1))) ?_|refine kp (And.intro @vQ_ (And.intro @e0 (@e1))) ?_
   refine⟨_,(ke @vQ_),hN1', ?_⟩
   rw[hap];rfl
end Go.Proofs
end
section
open Go Go.Proofs Go.Sx Go.StP Go.Flo
namespace Go.Proofs
set_option maxRecDepth 10000
set_option maxHeartbeats 400000
set_option linter.unusedSimpArgs false
structure PartL where
 d:Bool
 b:Int
 x:List UInt8
def z1_:PartL:=⟨false,0,[]⟩
def zr_ (p:PartL):List Value:= [.bool p.d,vi p.b,vs p.x]
theorem jP_ (p:PartL): (zr_ p).length=3:=rfl
theorem wY_ (p:PartL): (zr_ p).all Value.oneCell'=true:=rfl
def jL_ (l:List PartL):Nat→Nat→Except Int (List Nat)
 |0,_=> .error 11
 |k+1,at_=>
  if(l.getD at_ z1_).d=true then
   (if(l.getD at_ z1_).b<0∨(at_:Int)≤ (l.getD at_ z1_).b then .error 2
   else if k=0 then .error 11
   else(jL_ l k (l.getD at_ z1_).b.toNat).map (at_:: ·))
  else if(l.getD at_ z1_).b≠0 then .error 2 else .ok [at_]
def j4_ (l:List PartL) (at_:Int):Except Int (List Nat):=
 if 200<l.length∨at_<0∨(l.length:Int)≤at_ then .error 1 else jL_ l 5 at_.toNat
theorem Jh_ {l:List PartL}: ∀ (k a:Nat) (p:List Nat),jL_ l k a= .ok p→jL_ l (k+1) a= .ok p
 |0,_,_,h=>by cases h
 |k+1,a,p,h=>by
  unfold jL_ at h ⊢
  split at h
  ·rename_i hd
   rw[if_pos hd]
   split at h
   ·cases h
   ·rename_i hb
    rw[if_neg hb,if_neg (by omega)]
    split at h
    ·cases h
    ·cases hp:jL_ l k (l.getD a z1_).b.toNat with
     |error e=>rw[hp] at h;cases h
     |ok q=>
      rw[hp] at h
      rw[Jh_ k _ q hp]
      exact h
  ·rename_i hd
   rw[if_neg hd]
   exact h
theorem j3_ {l:List PartL} {a:Nat} (ha:a<l.length) {p:List Nat} (h:j4_ l a= .ok p):
  (p= [a]∧(l.getD a z1_).d=false∧(l.getD a z1_).b=0)∨ ∃b q,p=a::q∧(l.getD a z1_).d=true∧(l.getD a z1_).b=(b:Nat)∧b<a∧j4_ l b= .ok q:=by
 unfold j4_ at h
 split at h
 ·cases h
 ·rename_i hc
  rw[Int.toNat_natCast] at h
  unfold jL_ at h
  split at h
  ·rename_i hd
   split at h
   ·cases h
   ·rename_i hb
    rw[if_neg (by omega)] at h
    cases hp:jL_ l 4 (l.getD a z1_).b.toNat with
    |error e=>rw[hp] at h;cases h
    |ok q=>
     rw[hp] at h
     right
     refine⟨(l.getD a z1_).b.toNat,q, ?_,hd,by omega,by omega, ?_⟩
     ·cases h;rfl
     ·unfold j4_
      rw[if_neg (by omega),Int.toNat_natCast]
      exact Jh_ 4 _ _ hp
  ·rename_i hd
   split at h
   ·cases h
   ·rename_i hb
    left
    cases h
    exact⟨rfl,by simpa using hd,by simpa using hb⟩
def jB_ (p:PartL) (base:List UInt8):List UInt8×Int:=if p.d=true then xu_ base p.x else if 4099<p.x.length then([],19) else(p.x,0)
def wW_ (l:List PartL):List Nat→Except Int (List UInt8)
 | []=> .ok []
 |a::p=>(wW_ l p).bind fun s=>if(jB_ (l.getD a z1_) s).2=0 then .ok (jB_ (l.getD a z1_) s).1 else .error (jB_ (l.getD a z1_) s).2
def partV (l:List PartL) (at_:Int):Except Int (List UInt8):=(j4_ l at_).bind (wW_ l)
def kt_ (l:List PartL):Nat→Except Int (List (List UInt8))
 |0=> .ok []
 |k+1=>(kt_ l k).bind fun ts=>(partV l (k:Nat)).map fun s=>ts++ [s]
def ZJ_ (l:List PartL):Except Int (List (List UInt8)):=if 200<l.length then .error 1 else kt_ l l.length
theorem vu_ {l:List PartL}: ∀ (k:Nat) (ts:List (List UInt8)),kt_ l k= .ok ts→ts.length=k
 |0,ts,h=>by cases h;rfl
 |k+1,ts,h=>by
  unfold kt_ at h
  cases hg:kt_ l k with
  |error e=>rw[hg] at h;cases h
  |ok us=>
   rw[hg] at h
   have:=vu_ k us hg
   change(partV l (k:Nat)).map (fun s=>us++ [s])= .ok ts at h
   cases hp:partV l (k:Nat) with
   |error e=>rw[hp] at h;cases h
   |ok s=>rw[hp] at h;cases h;simp[this]
theorem vg_ {l:List PartL}: ∀ (k:Nat) (ts:List (List UInt8)),kt_ l k= .ok ts→ ∀j,j<k→partV l (j:Nat)= .ok (ts.getD j [])
 |0,_,_,j,hj=>by omega
 |k+1,ts,h,j,hj=>by
  unfold kt_ at h
  cases hg:kt_ l k with
  |error e=>rw[hg] at h;cases h
  |ok us=>
   rw[hg] at h
   have hl:=vu_ k us hg
   change(partV l (k:Nat)).map (fun s=>us++ [s])= .ok ts at h
   cases hp:partV l (k:Nat) with
   |error e=>rw[hp] at h;cases h
   |ok s=>
    rw[hp] at h
    cases h
    by_cases hjk:j<k
    ·rw[vg_ k us hg j hjk,jD_ (by omega)]
    ·obtain rfl:j=k:=by omega
     rw[hp,qw_ (by omega),hl,Nat.sub_self]
     rfl
theorem aa8_ {l:List PartL} {k:Nat} {ts:List (List UInt8)} (hk:k<l.length) (h:kt_ l k= .ok ts) {p:List Nat} (hp:j4_ l (k:Nat)= .ok p):
  partV l (k:Nat)=(if(jB_ (l.getD k z1_) (if 1<p.length then ts.getD (p.getD 1 0) [] else [])).2=0 then .ok (jB_ (l.getD k z1_) (if 1<p.length then ts.getD (p.getD 1 0) [] else [])).1 else .error (jB_ (l.getD k z1_) (if 1<p.length then ts.getD (p.getD 1 0) [] else [])).2):=by
 unfold partV
 rw[hp]
 rcases j3_ hk hp with⟨rfl,hd,hb⟩ | ⟨b,q,rfl,hd,hb,hlt,hq⟩
 ·rfl
 ·have h1:=vg_ k ts h b hlt
  unfold partV at h1
  rw[hq] at h1
  have hq0: ∃r,q=b::r:=by
   rcases j3_ (by omega) hq with⟨rfl,-⟩ | ⟨b2,q2,rfl,-⟩
   ·exact⟨[],rfl⟩
   ·exact⟨q2,rfl⟩
  obtain⟨r,rfl⟩:=hq0
  change wW_ l (b::r)=_ at h1
  show wW_ l (k::b::r)=_
  rw[wW_,h1]
  rw[if_pos (show 1< (k::b::r).length by simp)]
  rfl
end Go.Proofs
end
section
open Go Go.Proofs Go.Sx Go.StP Go.Flo
namespace Go.Proofs
set_option maxRecDepth 10000
set_option maxHeartbeats 400000
set_option linter.unusedSimpArgs false
def Vc_ (n:Nat):List Value:= [vi n]
theorem Zf_ (n:Nat): (Vc_ n).length=1:=rfl
abbrev kO_ (w:World) (v:Value) (l:List PartL):Prop:=SlV 3 zr_ z1_ w v l
theorem jd_ (p:PartL) (E:TypeId) (n:Nat):zo_ (some (false,n)) (some (.cells (zr_ p).toArray E (0,0))) 0=some (.bool p.d):=(rfl)
theorem jg_ (p:PartL) (E:TypeId) (n:Nat):zo_ (some (false,n)) (some (.cells (zr_ p).toArray E (0,0))) 1=some (vi p.b):=(rfl)
theorem jh_ (p:PartL) (E:TypeId) (n:Nat):zo_ (some (false,n)) (some (.cells (zr_ p).toArray E (0,0))) 2=some (vs p.x):=(rfl)
theorem qa_ (p:PartL):Value.cells (.agg (zr_ p).toArray)=(zr_ p).toArray:=zd_ _
theorem w0_:zK_ Tryz.prog 114=some (.agg (zr_ z1_).toArray):=id (by kernel_rfl)
theorem kU_ (p q:PartL) (E:TypeId):zl_ (some (true,3)) (some (.cells (zr_ q).toArray E (0,0))) 0 (.agg (zr_ p).toArray)=some (.cells (zr_ p).toArray E (0,0)):=
 k7_ (zr_ p) (n:=3) true (zr_ q).toArray E rfl (wY_ p) rfl
structure PaG where
 lab:Nat
 at_:Nat
 out:List Nat
 v:Value
 b7:Nat
 q:PartL
 e:Int
 D:za_
def PaJ (l:List PartL) (a0:Int) (n:Nat) (g:PaG):Prop:=
 (g.lab=1∧n≤g.b7∧New n g.D∧g.b7∉keys g.D∧Gr g.D 3 1 g.v g.out.length (g.out.map Vc_).flatten∧g.at_<l.length∧l.length≤200∧g.out.length≤4∧
  j4_ l a0=(jL_ l (5 - g.out.length) g.at_).map (g.out++ ·))∨
 (g.lab=0∧New n g.D∧j4_ l a0= .error g.e)
def PaH (g:PaG):za_:=match g.lab with
 |1=>(g.b7, .cells (zr_ g.q).toArray 114 (0,0))::g.D
 |_=>g.D
def PaS (g:PaG):List (Nat×Value):=match g.lab with
 |1=> [(1,vi g.at_),(6,g.v),(7,vp g.b7 0),(8,vi 1)]
 |_=> [(8,vi g.e)]
def PaL (g:PaG):Nat:=match g.lab with
 |1=>1
 |_=>0
def aj0_ (l:List PartL) (a0:Int) (v:Value) (D:za_):Prop:=match j4_ l a0 with
 | .ok p=> ∃x,v= .tuple #[x,vi 0]∧p.length≤5∧GrI D 3 1 x p.length (p.map Vc_).flatten
 | .error e=>v= .tuple #[.slice none 0 0,vi e]
set_option linter.defProp false
def jp_:=And.intro (And.intro (And.intro (@zg_) (@zf_)) (And.intro (@jd_) (@jg_))) (And.intro (And.intro (@jh_) (@qa_)) (And.intro (@Sx.tup2_0) (@Sx.tup2_1)))
theorem afm_ (v0:Value) (l:List PartL) (a0:Int) (w:World) (hv:kO_ w v0 l) (hl:l.length<1000000):
  Rets Tryz.prog 153 #[v0,vi a0] w (XS w [] (aj0_ l a0)):=by
 obtain⟨bb,off,arr,E,fz,hr⟩:=hv.row
 have ln:=hv.len
 refine Rets.enterX Tryz.func153 rfl (rs:= [.tmp 4, .tmp 5]) Tryz.results153 Tryz.ntmps153 (fun p hp=>by cases hp) (by simp[keys]) ?_
 refine kf ?_
 first|with_reducible refine ks [] @jp_ ?_|refine kp @jp_ ?_
 refine Cw.scopeL (G:=PaG) (fun g=>PaL g) [6,7,8,9,10,11,12,13,14,15,16,17,18,19,20,21,22,23,24,25,26,27,28,29,31,32,33,34,35,36,37,38,39,40,41,42,43,30,44,45,46,47,48,49,50,51,53,54,55,52,56,4,5,58,59,60,57,61,62,1,63] (fun g=>PaS g) (fun g=>PaH g) (fun g=>PaJ l a0 w.heap.size g) (fun g=>(if g.lab=1 then 6 - g.out.length else 0)) ?_ ?_ ?_
 ·intro g
  unfold PaL
  split<;>rfl
 ·intro g j hg
  rcases hg with hg|hg
  ·obtain⟨lab,a,out,v,b7,q,e,D⟩:=g
   obtain⟨hlab,hg⟩:=hg
   simp only at hlab
   subst hlab
   simp only[PaL,PaS,PaH] at hg ⊢
   obtain⟨hw7,hN,hbD,hGr,hal,h200,hol,hpv⟩:=hg
   have hb0:0<l.length:=by omega
   have hbl:=hr.lt hb0
   have i2:=hr.idx true a hal
   have ld:=hr.load jP_ (by omega) hal
   simp only[xX_,Qp_,Bool.or_false,Bool.false_or,Bool.or_true,Bool.true_or,Nat.reduceBEq,beq_self_eq_true, ↓reduceIte,Bool.false_eq_true]
   refine kv ?_
   try with_reducible refine qi_ ?_
   first|with_reducible refine ks [] @jp_ ?_|refine kp @jp_ ?_
   refine Ow.buildSlice (e:=3) #[vi a] rfl rfl (by kernel_rfl) fun b9 hb9 hw9=> ?_
   have h79:b7<b9:=zm_ hb9 (by simp[keys])
   refine Ow.permL (M:=D++ [(b7, .cells (zr_ q).toArray 114 (0,0)),(b9, .cells #[vi a] 3 (0,0))]) (by classical exact List.perm_iff_count.2 fun a=>by simp only[List.count_append,List.count_cons,List.count_nil]<;>omega) ?_
   refine ko @jp_ ?_
   refine Ow.appendXG (e:=3) (k:=1) (new:=Vc_ a) (X:=D) v rfl rfl rfl rfl Tryz.underlying28 (id (by kernel_rfl):zW_ Tryz.prog 3=some (false,1)) (by kernel_rfl) (id (by kernel_rfl):zK_ Tryz.prog 3=some (vi 0)) rfl Tryz.underlying28 (by intro k h;cases h) hGr (fun w' hw'=>AppX.one1 (hw'.has b9 (.cells #[vi a] 3 (0,0)) (by simp)) (Zf_ a) rfl) (by omega) (fun B3 v3 D3 hA3 hB3 hG3 hk13 hk23 hlk3=> ?_)
   have hN3:New w.heap.size D3:=New.of_le fun c hc=>by
    rcases hk23 c hc with h|h
    ·exact hN.le c h
    ·omega
   have hbD3:b7∉keys D3:=fun hm=>by
    rcases hk23 b7 hm with h|h
    ·exact hbD h
    ·exact Nat.lt_irrefl _ (Nat.lt_of_lt_of_le (zm_ hA3 (by rw[zi_];exact List.mem_append_right _ (by simp[keys]))) h)
   have hG4:Gr (D3++ [(b9, .cells #[vi a] 3 (0,0))]) 3 1 v3 (out++ [a]).length ((out++ [a]).map Vc_).flatten:=by
    have:=hG3.app (M:= [(b9,Obj.cells #[vi a] 3 (0,0))])
    simpa using this
   have hN4:New w.heap.size (D3++ [(b9,Obj.cells #[vi a] 3 (0,0))]):=hN3.app ⟨hw9,trivial⟩
   have hbD4:b7∉keys (D3++ [(b9,Obj.cells #[vi a] 3 (0,0))]):=fun hm=>by
    rw[zi_] at hm
    rcases List.mem_append.1 hm with h|h
    ·exact hbD3 h
    ·simp[keys] at h;omega
   refine Ow.permL (M:=(b7, .cells (zr_ q).toArray 114 (0,0)):: (D3++ [(b9, .cells #[vi a] 3 (0,0))])) (by classical exact List.perm_iff_count.2 fun a=>by simp only[List.count_append,List.count_cons,List.count_nil]<;>omega) ?_
   generalize (D3++ [(b9,Obj.cells #[vi a] 3 (0,0))])=D4 at*
   have rd:zB_ w ((b7,Obj.cells (zr_ q).toArray 114 (0,0))::D4) bb=some (.cells arr E fz):=by
    rw[q9_ (by simp only[keys,List.map_cons,List.mem_cons,not_or];exact⟨by omega,hN4.not hbl⟩)];exact hr.has hb0
   have hk5:jL_ l (5 - out.length) a=jL_ l (5 - out.length - 1+1) a:=by congr 1;omega
   rw[hk5,jL_] at hpv
   generalize hp:l.getD a z1_=p at*
   have hst:=kU_ p q 114
   have hlen4: ∀m,J0_ (.sl m) v3=some (vi (out++ [a]).length):=fun m=>hG4.len m
   have hN7:New w.heap.size ((b7,Obj.cells (zr_ p).toArray 114 (0,0))::D4):=⟨hw7,hN4⟩
   cases hd:p.d
   ·rw[hd,if_neg (by simp)] at hpv
    by_cases hb:p.b=0
    ·have e1: (p.b !=0)=false:=by rw[hb];rfl
     have nf: (!false)=true:=rfl
     rw[if_neg (by simp[hb])] at hpv
     refine ko @jp_ ?_
     first|with_reducible refine ks [] (And.intro @jp_ (And.intro @i2 (And.intro @rd (And.intro @ld (And.intro @hst (And.intro @hd (And.intro @e1 (@nf)))))))) ?_|refine kp (And.intro @jp_ (And.intro @i2 (And.intro @rd (And.intro @ld (And.intro @hst (And.intro @hd (And.intro @e1 (@nf)))))))) ?_
     refine⟨_,(ke @jp_), ?_⟩
     refine⟨Ext.of_new hN7, ?_⟩
     unfold aj0_
     rw[hpv]
     refine⟨v3,rfl,by show(out++ [a]).length≤5;rw[List.length_append];simp;omega,Gr.i (X:=D4) hG4 fun c hc=>List.mem_cons_of_mem _ hc⟩
    ·have e1: (p.b !=0)=true:=by rw[bne_iff_ne];exact hb
     have nf: (!false)=true:=rfl
     rw[if_pos hb] at hpv
     refine ko @jp_ ?_
     first|with_reducible refine ks [] (And.intro @jp_ (And.intro @i2 (And.intro @rd (And.intro @ld (And.intro @hst (And.intro @hd (And.intro @e1 (@nf)))))))) ?_|refine kp (And.intro @jp_ (And.intro @i2 (And.intro @rd (And.intro @ld (And.intro @hst (And.intro @hd (And.intro @e1 (@nf)))))))) ?_
     exact Jump.mk ⟨0,0,[],v3,0,p,2,(b7, .cells (zr_ p).toArray 114 (0,0))::D4⟩ rfl (by show 0<6 - out.length;omega) (.inr ⟨rfl,hN7,hpv⟩) rfl rfl
   ·rw[hd,if_pos rfl] at hpv
    have nt: (!true)=false:=rfl
    by_cases hb:p.b<0
    ·have e1:decide (p.b<0)=true:=decide_eq_true hb
     rw[if_pos (.inl hb)] at hpv
     refine ko @jp_ ?_
     first|with_reducible refine ks [] (And.intro @jp_ (And.intro @i2 (And.intro @rd (And.intro @ld (And.intro @hst (And.intro @hd (And.intro @e1 (@nt)))))))) ?_|refine kp (And.intro @jp_ (And.intro @i2 (And.intro @rd (And.intro @ld (And.intro @hst (And.intro @hd (And.intro @e1 (@nt)))))))) ?_
     exact Jump.mk ⟨0,0,[],v3,0,p,2,(b7, .cells (zr_ p).toArray 114 (0,0))::D4⟩ rfl (by show 0<6 - out.length;omega) (.inr ⟨rfl,hN7,hpv⟩) rfl rfl
    ·have e1:decide (p.b<0)=false:=decide_eq_false hb
     by_cases hb2: (a:Int)≤p.b
     ·have e2:decide ((a:Int)≤p.b)=true:=decide_eq_true hb2
      rw[if_pos (.inr hb2)] at hpv
      refine ko @jp_ ?_
      first|with_reducible refine ks [] (And.intro @jp_ (And.intro @i2 (And.intro @rd (And.intro @ld (And.intro @hst (And.intro @hd (And.intro @e1 (And.intro @e2 (@nt))))))))) ?_|refine kp (And.intro @jp_ (And.intro @i2 (And.intro @rd (And.intro @ld (And.intro @hst (And.intro @hd (And.intro @e1 (And.intro @e2 (@nt))))))))) ?_
      exact Jump.mk ⟨0,0,[],v3,0,p,2,(b7, .cells (zr_ p).toArray 114 (0,0))::D4⟩ rfl (by show 0<6 - out.length;omega) (.inr ⟨rfl,hN7,hpv⟩) rfl rfl
     ·have e2:decide ((a:Int)≤p.b)=false:=decide_eq_false hb2
      rw[if_neg (by omega)] at hpv
      by_cases ho:out.length=4
      ·have e3:decide ((4:Int)< ((out++ [a]).length:Int))=true:=by rw[List.length_append];exact decide_eq_true (by simp;omega)
       rw[if_pos (by omega)] at hpv
       refine ko @jp_ ?_
       first|with_reducible refine ks [] (And.intro @jp_ (And.intro @i2 (And.intro @rd (And.intro @ld (And.intro @hst (And.intro @hd (And.intro @e1 (And.intro @e2 (And.intro @nt (And.intro @hlen4 (@e3))))))))))) ?_|refine kp (And.intro @jp_ (And.intro @i2 (And.intro @rd (And.intro @ld (And.intro @hst (And.intro @hd (And.intro @e1 (And.intro @e2 (And.intro @nt (And.intro @hlen4 (@e3))))))))))) ?_
       exact Jump.mk ⟨0,0,[],v3,0,p,11,(b7, .cells (zr_ p).toArray 114 (0,0))::D4⟩ rfl (by show 0<6 - out.length;omega) (.inr ⟨rfl,hN7,hpv⟩) rfl rfl
      ·have e3:decide ((4:Int)< ((out++ [a]).length:Int))=false:=by rw[List.length_append];exact decide_eq_false (by simp;omega)
       rw[if_neg (by omega)] at hpv
       obtain⟨Bn,hBn⟩: ∃Bn:Nat,p.b=(Bn:Int):=⟨p.b.toNat,by omega⟩
       have hol2: (out++ [a]).length=out.length+1:=by simp
       refine ko @jp_ ?_
       first|with_reducible refine ks [] (And.intro @jp_ (And.intro @i2 (And.intro @rd (And.intro @ld (And.intro @hst (And.intro @hd (And.intro @e1 (And.intro @e2 (And.intro @nt (And.intro @hlen4 (@e3))))))))))) ?_|refine kp (And.intro @jp_ (And.intro @i2 (And.intro @rd (And.intro @ld (And.intro @hst (And.intro @hd (And.intro @e1 (And.intro @e2 (And.intro @nt (And.intro @hlen4 (@e3))))))))))) ?_
       rw[hBn]
       refine Jump.mk ⟨1,Bn,out++ [a],v3,b7,p,1,D4⟩ rfl (by show 6 - (out++ [a]).length<6 - out.length;omega) (.inl ⟨rfl,hw7,hN4,hbD4,hG4,by show Bn<l.length;omega,h200,by show(out++ [a]).length≤4;omega, ?_⟩) rfl rfl
       show j4_ l a0=(jL_ l (5 - (out++ [a]).length) Bn).map ((out++ [a])++ ·)
       rw[hpv,hBn,Int.toNat_natCast,show 5 - (out++ [a]).length=5 - out.length - 1 by omega]
       cases jL_ l (5 - out.length - 1) Bn with
       |error x=>rfl
       |ok x=>show Except.ok _=Except.ok _;simp
  ·obtain⟨lab,a,out,v,b7,q,e,D⟩:=g
   obtain⟨hlab,hg⟩:=hg
   simp only at hlab
   subst hlab
   simp only[PaL,PaS,PaH] at hg ⊢
   obtain⟨hN,hno⟩:=hg
   simp only[xX_,Qp_,Bool.or_false,Bool.false_or,Bool.or_true,Bool.true_or,Nat.reduceBEq,beq_self_eq_true, ↓reduceIte,Bool.false_eq_true]
   refine kv ?_
   try with_reducible refine qi_ ?_
   first|with_reducible refine ks [] @jp_ ?_|refine kp @jp_ ?_
   refine⟨_,(ke @jp_), ?_⟩
   refine⟨Ext.of_new hN, ?_⟩
   unfold aj0_
   rw[hno];rfl
 ·intro key
  repeat ((try with_reducible refine Cw.go [999999] ?_);(simp(disch:=(first|assumption|omega| (simp only[jW_,jX_,UInt64.reduceToNat];try omega))) only[↓Sx.S0,Sx.S1,Tryz.fx,jp_,Nat.reduceAdd,Nat.reducePow,Int.reducePow,Nat.reduceBEq, ↓reduceIte,UInt8.reduceToNat,UInt16.reduceToNat,UInt32.reduceToNat,UInt64.reduceToNat,Int.reduceToNat]))
  refine Ow.alloc rfl rfl w0_ fun b7 hb7 hw7=> ?_
  simp only[zd_,List.nil_append,List.cons_append]
  refine ko @jp_ ?_
  by_cases h1:200<l.length
  ·have d1:decide ((200:Int)< (l.length:Int))=true:=decide_eq_true (by omega)
   have hpv:j4_ l a0= .error 1:=by unfold j4_;rw[if_pos (.inl h1)]
   repeat ((try with_reducible refine Cw.go [999999] ?_);(simp(disch:=(first|assumption|omega| (simp only[jW_,jX_,UInt64.reduceToNat];try omega))) only[↓Sx.S0,Sx.S1,Tryz.fx,jp_,Nat.reduceAdd,Nat.reducePow,Int.reducePow,Nat.reduceBEq, ↓reduceIte,UInt8.reduceToNat,UInt16.reduceToNat,UInt32.reduceToNat,UInt64.reduceToNat,Int.reduceToNat,ln,d1]))
   exact Jump.mk ⟨0,0,[], .slice none 0 0,0,z1_,1,[(b7, .cells (zr_ z1_).toArray 114 (0,0))]⟩ rfl trivial (.inr ⟨rfl,⟨hw7,trivial⟩,hpv⟩) rfl rfl
  ·have d1:decide ((200:Int)< (l.length:Int))=false:=decide_eq_false (by omega)
   by_cases h2:a0<0
   ·have d2:decide (a0<0)=true:=decide_eq_true h2
    have hpv:j4_ l a0= .error 1:=by unfold j4_;rw[if_pos (.inr (.inl h2))]
    repeat ((try with_reducible refine Cw.go [999999] ?_);(simp(disch:=(first|assumption|omega| (simp only[jW_,jX_,UInt64.reduceToNat];try omega))) only[↓Sx.S0,Sx.S1,Tryz.fx,jp_,Nat.reduceAdd,Nat.reducePow,Int.reducePow,Nat.reduceBEq, ↓reduceIte,UInt8.reduceToNat,UInt16.reduceToNat,UInt32.reduceToNat,UInt64.reduceToNat,Int.reduceToNat,ln,d1,d2]))
    exact Jump.mk ⟨0,0,[], .slice none 0 0,0,z1_,1,[(b7, .cells (zr_ z1_).toArray 114 (0,0))]⟩ rfl trivial (.inr ⟨rfl,⟨hw7,trivial⟩,hpv⟩) rfl rfl
   ·have d2:decide (a0<0)=false:=decide_eq_false h2
    by_cases h3: (l.length:Int)≤a0
    ·have d3:decide ((l.length:Int)≤a0)=true:=decide_eq_true h3
     have hpv:j4_ l a0= .error 1:=by unfold j4_;rw[if_pos (.inr (.inr h3))]
     repeat ((try with_reducible refine Cw.go [999999] ?_);(simp(disch:=(first|assumption|omega| (simp only[jW_,jX_,UInt64.reduceToNat];try omega))) only[↓Sx.S0,Sx.S1,Tryz.fx,jp_,Nat.reduceAdd,Nat.reducePow,Int.reducePow,Nat.reduceBEq, ↓reduceIte,UInt8.reduceToNat,UInt16.reduceToNat,UInt32.reduceToNat,UInt64.reduceToNat,Int.reduceToNat,ln,d1,d2,d3]))
     exact Jump.mk ⟨0,0,[], .slice none 0 0,0,z1_,1,[(b7, .cells (zr_ z1_).toArray 114 (0,0))]⟩ rfl trivial (.inr ⟨rfl,⟨hw7,trivial⟩,hpv⟩) rfl rfl
    ·have d3:decide ((l.length:Int)≤a0)=false:=decide_eq_false h3
     obtain⟨A,rfl⟩: ∃A:Nat,a0=(A:Int):=⟨a0.toNat,by omega⟩
     repeat ((try with_reducible refine Cw.go [999999] ?_);(simp(disch:=(first|assumption|omega| (simp only[jW_,jX_,UInt64.reduceToNat];try omega))) only[↓Sx.S0,Sx.S1,Tryz.fx,jp_,Nat.reduceAdd,Nat.reducePow,Int.reducePow,Nat.reduceBEq, ↓reduceIte,UInt8.reduceToNat,UInt16.reduceToNat,UInt32.reduceToNat,UInt64.reduceToNat,Int.reduceToNat,ln,d1,d2,d3]))
     have key0:=fun f'=>key (⟨1,A,[], .slice none 0 0,b7,z1_,1,[]⟩) f'
     simp only[xX_,Qp_,Bool.or_false,Bool.false_or,Bool.or_true,Bool.true_or,Nat.reduceBEq,beq_self_eq_true, ↓reduceIte,Bool.false_eq_true] at key0
     clear key
     refine Cw.label ?_
     refine key0 _ (.inl ⟨rfl,hw7,trivial,by simp[keys],Gr.nl,by show A<l.length;omega,by omega,by simp, ?_⟩) ?_
     ·show j4_ l (A:Int)=(jL_ l 5 A).map ([]++ ·)
      unfold j4_
      rw[if_neg (by omega),Int.toNat_natCast]
      cases jL_ l 5 A with
      |error x=>rfl
      |ok x=>rfl
     ·rfl
end Go.Proofs
end
section
open Go Go.Proofs Go.Sx Go.StP Go.Flo
namespace Go.Proofs
set_option maxRecDepth 10000
set_option maxHeartbeats 400000
set_option linter.unusedSimpArgs false
theorem XU_ {l:List PartL}: ∀ (k a:Nat) (e:Int),jL_ l k a= .error e→e≠0
 |0,_,e,h=>by cases h;decide
 |k+1,a,e,h=>by
  unfold jL_ at h
  split at h
  ·split at h
   ·cases h;decide
   ·split at h
    ·cases h;decide
    ·cases hp:jL_ l k (l.getD a z1_).b.toNat with
     |error x=>rw[hp] at h;cases h;exact XU_ k _ _ hp
     |ok q=>rw[hp] at h;cases h
  ·split at h
   ·cases h;decide
   ·cases h
theorem WL_ {l:List PartL} {a:Int} {e:Int} (h:j4_ l a= .error e):e≠0:=by
 unfold j4_ at h
 split at h
 ·cases h;decide
 ·exact XU_ _ _ _ h
theorem al9_ {w0 w:World} {L D:za_} {E:TypeId} {v:Value} {l:List Nat} (h:GrI D E 1 v l.length (l.map Vc_).flatten) (hD: ∀p,p∈D→p∈L) (hw:Hp w0 L w):l.length=0∨ ∃b c rest,v=vsl b 0 l.length c∧b∈keys D∧zB_ w0 L b=some (rowO Vc_ E rest l):=by
 obtain⟨X,hX,h| ⟨h0,-⟩⟩:=h
 ·rcases h.inv with⟨-,h0,-⟩ | ⟨b,c,rest,rfl,hl,h1,h2,h3,h4⟩
  ·exact .inl h0
  ·exact .inr ⟨b,c,rest,rfl,List.mem_map_of_mem (f:=Prod.fst) (hX _ (zF_ hl)),z6_ (x4_ hw.nodup (hD _ (hX _ (zF_ hl))))⟩
 ·exact .inl h0
theorem ajR_ {E:TypeId} {rest:List Value} {l:List Nat} (n i:Nat) (hi:i<l.length):zo_ (some (false,n)) (some (rowO Vc_ E rest l)) i=some (vi (l.getD i 0)):=by
 unfold rowO zo_
 have e: (l.map Vc_).flatten=l.map fun n=>vi (n:Nat):=by
  clear hi
  induction l with
  |nil=>rfl
  |cons a l ih=>rw[List.map_cons,List.flatten_cons,List.map_cons,ih];rfl
 simp only[e]
 rw[List.getElem?_toArray,List.getElem?_append_left (by simpa using hi),List.getElem?_map,List.getElem?_eq_getElem hi,List.getD_eq_getElem?_getD,List.getElem?_eq_getElem hi]
 rfl
def BndL (l:List PartL):Prop:= ∀g,g<l.length→(l.getD g z1_).x.length<9223372036854775808
set_option linter.defProp false
def wK_:=And.intro (And.intro (And.intro (@zg_) (@zf_)) (And.intro (@jd_) (@jg_))) (And.intro (And.intro (@jh_) (@qa_)) (And.intro (@Sx.tup2_0) (@Sx.tup2_1)))
theorem We_ (p:PartL) (base:List UInt8) (w:World) (hx:p.x.length<9223372036854775808):
  Rets Tryz.prog 154 #[.agg (zr_ p).toArray,vs base] w (fun v D=>v= .tuple #[vs (jB_ p base).1,vi (jB_ p base).2]∧D= []):=by
 refine Rets.enterV Tryz.func154 rfl (rs:= [.tmp 4, .tmp 5]) Tryz.results154 Tryz.ntmps154 ?_
 refine kf ?_
 first|with_reducible refine ks [] @wK_ ?_|refine kp @wK_ ?_
 refine Ow.box rfl rfl fun b2 hb2 hw2=> ?_
 simp only[qy_,qr_,qs_,zd_,List.nil_append,List.cons_append]
 refine Ow.go rfl ?_
 simp(disch:=(first|assumption|omega| (simp only[jW_,jX_,UInt64.reduceToNat];try omega))) only[↓Sx.S0,Sx.S1,Tryz.fx,wK_,Nat.reduceAdd,Nat.reducePow,Int.reducePow,Nat.reduceBEq, ↓reduceIte,UInt8.reduceToNat,UInt16.reduceToNat,UInt32.reduceToNat,UInt64.reduceToNat,Int.reduceToNat]
 cases hd:p.d
 ·by_cases hl:4099<p.x.length
  ·have d1:decide ((4099:Int)< (p.x.length:Int))=true:=decide_eq_true (by omega)
   first|with_reducible refine ks [] (And.intro @wK_ (And.intro @hd (@d1))) ?_|refine kp (And.intro @wK_ (And.intro @hd (@d1))) ?_
   refine⟨_,(ke @wK_),⟨hw2,trivial⟩, ?_⟩
   unfold jB_;rw[if_neg (by simp[hd]),if_pos hl];rfl
  ·have d1:decide ((4099:Int)< (p.x.length:Int))=false:=decide_eq_false (by omega)
   first|with_reducible refine ks [] (And.intro @wK_ (And.intro @hd (@d1))) ?_|refine kp (And.intro @wK_ (And.intro @hd (@d1))) ?_
   refine⟨_,(ke @wK_),⟨hw2,trivial⟩, ?_⟩
   unfold jB_;rw[if_neg (by simp[hd]),if_neg hl];rfl
 ·first|with_reducible refine ks [] (And.intro @wK_ @hd) ?_|refine kp (And.intro @wK_ @hd) ?_
  refine Ow.callFV rfl Tryz.call177 (fun w' hw'=>aet_ base p.x w' hx) ?_
  refine ko @wK_ ?_
  first|with_reducible refine ks [] @wK_ ?_|refine kp @wK_ ?_
  refine⟨_,(ke @wK_),⟨hw2,trivial⟩, ?_⟩
  unfold jB_;rw[if_pos hd];rfl
def amQ_ (r:Except Int (List UInt8)):Value:=match r with
 | .ok s=> .tuple #[vs s,vi 0]
 | .error e=> .tuple #[vs [],vi e]
end Go.Proofs
end
section
open Go Go.Proofs Go.Sx Go.StP Go.Flo
namespace Go.Proofs
set_option maxRecDepth 10000
set_option maxHeartbeats 400000
set_option linter.unusedSimpArgs false
def Vr_:Nat→List (List UInt8)→List (Int×List UInt8)
 |_,[]=> []
 |i,t::ts=>((i:Int),t)::Vr_ (i+1) ts
def tabT (ts:List (List UInt8)):List (Int×List UInt8):=Vr_ 0 ts
theorem WT_ (s:List UInt8): ∀ (ts:List (List UInt8)) (i:Nat),updG (((i+ts.length:Nat)):Int) s (Vr_ i ts)=Vr_ i (ts++ [s])
 | [],i=>rfl
 |t::ts,i=>by
  show updG _ s (((i:Int),t)::Vr_ (i+1) ts)=((i:Int),t)::Vr_ (i+1) (ts++ [s])
  unfold updG
  rw[if_neg (by rw[beq_iff_eq];simp only[List.length_cons];omega),←WT_ s ts (i+1),List.length_cons,show i+1+ts.length=i+ (ts.length+1) by omega]
theorem acY_ (s:List UInt8) (ts:List (List UInt8)) {k:Nat} (hk:ts.length=k):updG (k:Int) s (tabT ts)=tabT (ts++ [s]):=by
 have:=WT_ s ts 0
 rw[Nat.zero_add,hk] at this
 exact this
theorem VX_ (z:List UInt8): ∀ (ts:List (List UInt8)) (i b:Nat),b<ts.length→getG ((i+b:Nat):Int) z (Vr_ i ts)=ts.getD b []
 | [],_,_,h=>by simp at h
 |t::ts,i,0,_=>by
  unfold Vr_ getG
  rw[List.find?_cons]
  simp
 |t::ts,i,b+1,h=>by
  have:=VX_ z ts (i+1) b (by simpa using h)
  rw[show i+1+b=i+ (b+1) by omega] at this
  rw[List.getD_cons_succ,←this]
  have e: (((i+ (b+1):Nat):Int)==(i:Int))=false:=by rw[beq_eq_false_iff_ne];omega
  show getG _ z (((i:Int),t)::Vr_ (i+1) ts)=_
  unfold getG
  rw[List.find?_cons]
  simp only[e]
theorem ai6_ (z:List UInt8) {ts:List (List UInt8)} {b:Nat} (h:b<ts.length):getG (b:Int) z (tabT ts)=ts.getD b []:=by
 have:=VX_ z ts 0 b h
 rwa [Nat.zero_add] at this
theorem ad2_ {b d:List UInt8} (h: (xu_ b d).2≠0): (xu_ b d).1= []:=by
 unfold xu_ at h ⊢
 split
 ·rfl
 ·rename_i p hp
  rw[hp] at h
  simp only at h ⊢
  split
  ·rfl
  ·rename_i hb;rw[if_neg hb] at h;exact absurd rfl h
theorem VD_ {p:PartL} {b:List UInt8} (h: (jB_ p b).2≠0): (jB_ p b).1= []:=by
 unfold jB_ at h ⊢
 split
 ·rename_i hd;rw[if_pos hd] at h;exact ad2_ h
 ·rename_i hd
  rw[if_neg hd] at h
  split
  ·rfl
  ·rename_i hl;rw[if_neg hl] at h;exact absurd rfl h
theorem ahD_ {w:World} {X D:za_} (h:New w.heap.size D):Ext w X (X++D):=⟨fun c hc=>by
 rw[zi_] at hc
 exact(List.mem_append.1 hc).imp id (h.le c),fun c hc=>by rw[zi_];exact List.mem_append_left _ hc⟩
theorem al3_ {l:List PartL} {k:Nat} {p:List Nat} (hk:k<l.length) (hp:j4_ l (k:Nat)= .ok p) (h:1<p.length):p.getD 1 0<k:=by
 rcases j3_ hk hp with⟨rfl,-⟩ | ⟨b,q,rfl,-,-,hlt,hq⟩
 ·simp at h
 ·rcases j3_ (by omega) hq with⟨rfl,-⟩ | ⟨b2,q2,rfl,-⟩<;>exact hlt
abbrev MapT (o:Obj) (ts:List (List UInt8)):Prop:=MapG vi vs o (tabT ts)
def clX (b1 bk bm:Nat) (v0:Value) (o:Obj):za_:= [(b1, .cells #[v0] 22 (0,0)),(bk, .cells #[vm bm] 228 (0,0)),(bm,o)]
def ClS (l:List PartL) (k:Nat) (ts:List (List UInt8)) (b1 bk bm:Nat) (v0:Value) (v:Value) (D:za_):Prop:=
 v=amQ_ (partV l (k:Nat))∧ ∃o D',D=clX b1 bk bm v0 o++D'∧ ∀s,partV l (k:Nat)= .ok s→MapT o (ts++ [s])
theorem aht_ (v:Value) (E:TypeId) (n:Nat):zo_ (some (false,n)) (some (.cells #[v] E (0,0))) 0=some v:=(rfl)
set_option linter.defProp false
def jV_:=And.intro (And.intro (And.intro (@zg_) (@zf_)) (And.intro (@aht_) (@jd_))) (And.intro (And.intro (@jg_) (@jh_)) (And.intro (@qa_) (And.intro (@Sx.tup2_0) (@Sx.tup2_1))))
theorem af2_ (b1 bk bm:Nat) (o:Obj) (v0:Value) (l:List PartL) (k:Nat) (ts:List (List UInt8)) (w:World) (h1k:b1<bk) (hne1:b1≠bm) (hne2:bk≠bm)
  (hv:kO_ w v0 l) (hb:BndL l) (hl:l.length<1000000) (hk:k<l.length) (hts:kt_ l k= .ok ts) (ho:MapT o ts) (hv1: ∀b,slB v0=some b→b∉keys (clX b1 bk bm v0 o))
  (hX: ∀p,p∈clX b1 bk bm v0 o→w.heap[p.1]? =some p.2) (hnd: (keys (clX b1 bk bm v0 o)).Nodup):
  Rets Tryz.prog 158 #[vi k,vp b1 0,vp bk 0] w (XS w (clX b1 bk bm v0 o) (ClS l k ts b1 bk bm v0)):=by
 obtain⟨bb,off,cc,arr,E,fz,hr,-,hvv⟩:=id hv
 have hbX:bb∉keys (clX b1 bk bm v0 o):=by
  rcases hvv with⟨e1,e2,e3⟩ | ⟨e1,-,-⟩
  ·exfalso;subst_vars;simp at hk
  ·exact hv1 bb (by rw[e1];rfl)
 have htl:=vu_ k ts hts
 have hva: ∀w',Hp w (clX b1 bk bm v0 o) w'→kO_ w' v0 l:=fun w' hw'=>hv.old hw' fun b hb _=>hv1 b hb
 unfold clX at hX hnd hva hbX ⊢
 refine Rets.enterX Tryz.func158 rfl (rs:= [.tmp 4, .tmp 5]) Tryz.results158 Tryz.ntmps158 hX hnd ?_
 refine kf ?_
 first|with_reducible refine ks [] @jV_ ?_|refine kp @jV_ ?_
 refine Ow.callC rfl rfl Tryz.call153 (fun w' hw'=>afm_ v0 l (k:Int) w' (hva w' hw') hl) (fun B1 v1 D1 hA1 hB1 hN1 hS1=> ?_)
 have hN1':=hN1.mono hB1
 unfold aj0_ at hS1
 cases hp:j4_ l (k:Nat) with
 |error e=>
  rw[hp] at hS1
  have hS1':v1= .tuple #[.slice none 0 0,vi e]:=hS1
  subst hS1'
  have e0: (e !=0)=true:=by rw[bne_iff_ne];exact WL_ hp
  refine ko (And.intro @jV_ @e0) ?_
  first|with_reducible refine ks [] @jV_ ?_|refine kp @jV_ ?_
  refine⟨_,(ke @jV_), ?_⟩
  refine⟨ahD_ (X:= [_,_,_]) hN1', ?_⟩
  refine⟨by unfold partV;rw[hp];rfl,o,D1,rfl,fun s hs=> ?_⟩
  unfold partV at hs
  rw[hp] at hs
  cases hs
 |ok p=>
  rw[hp] at hS1
  obtain⟨x,rfl,hp5,hg⟩:=hS1
  have hpk:=aa8_ hk hts hp
  have hlen: ∀m,J0_ (.sl m) x=some (vi p.length):=fun m=>by
   obtain⟨X,-,h⟩:=hg;exact h.len m
  have hb0:0<l.length:=by omega
  have hbl:=hr.lt hb0
  have i2:=hr.idx true k hk
  have ld:=hr.load jP_ (by omega) hk
  have hpx:=hb k hk
  have rd:zB_ w ((b1,Obj.cells #[v0] 22 (0,0)):: (bk,Obj.cells #[vm bm] 228 (0,0)):: (bm,o)::D1) bb=some (.cells arr E fz):=by
   have hno:bb∉keys ([(b1,Obj.cells #[v0] 22 (0,0)),(bk,Obj.cells #[vm bm] 228 (0,0)),(bm,o)]++D1):=by rw[zi_,List.mem_append,not_or];exact⟨hbX,hN1'.not hbl⟩
   exact(q9_ hno).trans (hr.has hb0)
  generalize l.getD k z1_=pt at*
  have hlk:Sx.look ((b1,Obj.cells #[v0] 22 (0,0)):: (bk,Obj.cells #[vm bm] 228 (0,0)):: (bm,o)::D1) bm=some o:=by rw[qW_ _ _ _ _ hne1,qW_ _ _ _ _ hne2];exact zP_ _ _ _
  have hset: ∀o1,setB ((b1,Obj.cells #[v0] 22 (0,0)):: (bk,Obj.cells #[vm bm] 228 (0,0)):: (bm,o)::D1) bm o1=((b1,Obj.cells #[v0] 22 (0,0)):: (bk,Obj.cells #[vm bm] 228 (0,0)):: (bm,o1)::D1):=fun o1=>by
   rw[jc_ _ _ _ _ _ hne1,jc_ _ _ _ _ _ hne2,jU_]
  have ext_new': ∀ {o1:Obj},New w.heap.size D1→Ext w [(b1,Obj.cells #[v0] 22 (0,0)),(bk,Obj.cells #[vm bm] 228 (0,0)),(bm,o)] ((b1,Obj.cells #[v0] 22 (0,0)):: (bk,Obj.cells #[vm bm] 228 (0,0)):: (bm,o1)::D1):=fun h=>(ahD_ (X:= [_,_,_]) h).keys rfl
  by_cases h1:1<p.length
  ·have d1:decide ((1:Int)< (p.length:Int))=true:=decide_eq_true (by omega)
   rw[if_pos h1] at hpk
   refine ko (And.intro @jV_ (And.intro @hlen (@d1))) ?_
   first|with_reducible refine ks [] @jV_ ?_|refine kp @jV_ ?_
   refine Cw.world fun wz hwz=> ?_
   rcases al9_ hg (fun q hq=>by simp[hq]) hwz with h0| ⟨bp,cp,rp,rfl,hkp,rdp⟩
   ·omega
   have lp:=ajR_ (E:=3) (rest:=rp) 1 1 h1
   have hz:zK_ Tryz.prog 9=some (vs []):=Tryz.zr9
   have hbase:p.getD 1 0<ts.length:=by have:=al3_ hk hp h1;omega
   have hge:=ai6_ [] hbase
   refine Cw.regionS [bk,bp] [1,2,0,3,4,5] [] (by kernel_rfl) (by kernel_rfl) (by kernel_rfl) ?_
   simp only[zk_, ↓ze_, ↓zc_, ↓zt_, ↓zs_,zb_]
   refine kq (And.intro @jV_ (And.intro @rdp (@lp))) ?_
   refine Ow.soft rfl rfl rfl ?_
   refine Ow.mapGetG (k:=((p.getD 1 0:Nat):Int)) (z:= []) rfl rfl Tryz.underlying228 (KeyOk.int Tryz.underlying3) hz rfl rfl (z6_ hlk) ho ?_
   rw[hge]
   with_reducible refine Ow.nil ?_
   refine⟨by intro b hb;simp only[List.mem_cons,List.not_mem_nil,or_false] at hb;(try subst hb);rfl, ?_⟩
   refine kq (And.intro @jV_ (And.intro @i2 (And.intro @rd (@ld)))) ?_
   refine Ow.callFV rfl Tryz.call154 (fun w' hw'=>We_ pt (ts.getD (p.getD 1 0) []) w' hpx) ?_
   refine ko @jV_ ?_
   first|with_reducible refine ks [] @jV_ ?_|refine kp @jV_ ?_
   refine Ow.mapUpdateG (k:=(k:Int)) (v:=(jB_ pt (ts.getD (p.getD 1 0) [])).1) rfl rfl Tryz.underlying228 (KeyOk.int Tryz.underlying3) rfl rfl rfl hlk ho (fun o1 ho1=> ?_)
   rw[acY_ _ _ htl] at ho1
   rw[hset o1]
   refine ko @jV_ ?_
   first|with_reducible refine ks [] @jV_ ?_|refine kp @jV_ ?_
   refine⟨_,(ke @jV_), ?_⟩
   refine⟨ext_new' hN1', ?_⟩
   refine⟨?_,o1,D1,rfl,fun s hs=> ?_⟩
   ·rw[hpk]
    by_cases he: (jB_ pt (ts.getD (p.getD 1 0) [])).2=0
    ·rw[if_pos he,he];rfl
    ·rw[if_neg he,VD_ he];rfl
   ·rw[hpk] at hs
    split at hs
    ·cases hs;exact ho1
    ·cases hs
  ·have d1:decide ((1:Int)< (p.length:Int))=false:=decide_eq_false (by omega)
   rw[if_neg h1] at hpk
   refine ko (And.intro @jV_ (And.intro @hlen (@d1))) ?_
   first|with_reducible refine ks [] (And.intro @jV_ (And.intro @i2 (And.intro @rd (@ld)))) ?_|refine kp (And.intro @jV_ (And.intro @i2 (And.intro @rd (@ld)))) ?_
   refine Ow.callFV rfl Tryz.call154 (fun w' hw'=>We_ pt [] w' hpx) ?_
   refine ko @jV_ ?_
   first|with_reducible refine ks [] @jV_ ?_|refine kp @jV_ ?_
   refine Ow.mapUpdateG (k:=(k:Int)) (v:=(jB_ pt []).1) rfl rfl Tryz.underlying228 (KeyOk.int Tryz.underlying3) rfl rfl rfl hlk ho (fun o1 ho1=> ?_)
   rw[acY_ _ _ htl] at ho1
   rw[hset o1]
   refine ko @jV_ ?_
   first|with_reducible refine ks [] @jV_ ?_|refine kp @jV_ ?_
   refine⟨_,(ke @jV_), ?_⟩
   refine⟨ext_new' hN1', ?_⟩
   refine⟨?_,o1,D1,rfl,fun s hs=> ?_⟩
   ·rw[hpk]
    by_cases he: (jB_ pt []).2=0
    ·rw[if_pos he,he];rfl
    ·rw[if_neg he,VD_ he];rfl
   ·rw[hpk] at hs
    split at hs
    ·cases hs;exact ho1
    ·cases hs
end Go.Proofs
end
section
open Go Go.Proofs Go.Sx Go.StP Go.Flo
namespace Go.Proofs
set_option maxRecDepth 10000
set_option maxHeartbeats 400000
set_option linter.unusedSimpArgs false
theorem VS_ {l:List PartL} {e:Int}: ∀ (p:List Nat),wW_ l p= .error e→e≠0
 | [],h=>by cases h
 |a::p,h=>by
  unfold wW_ at h
  cases hp:wW_ l p with
  |error x=>rw[hp] at h;cases h;exact VS_ p hp
  |ok s=>
   rw[hp] at h
   change(if(jB_ (l.getD a z1_) s).2=0 then _ else _)=_ at h
   split at h
   ·cases h
   ·rename_i hne;cases h;exact hne
theorem Wp_ {l:List PartL} {a e:Int} (h:partV l a= .error e):e≠0:=by
 unfold partV at h
 cases hp:j4_ l a with
 |error x=>rw[hp] at h;cases h;exact WL_ hp
 |ok p=>rw[hp] at h;exact VS_ p h
theorem akn_ {l:List PartL} {k:Nat} {ts:List (List UInt8)} {s:List UInt8} (h:kt_ l k= .ok ts) (hs:partV l (k:Nat)= .ok s):kt_ l (k+1)= .ok (ts++ [s]):=by
 unfold kt_;rw[h];show(partV l (k:Nat)).map _=_;rw[hs];rfl
theorem ac0_ {l:List PartL} {k:Nat} {ts:List (List UInt8)} {e:Int} (h:kt_ l k= .ok ts) (hs:partV l (k:Nat)= .error e): ∀j,k<j→kt_ l j= .error e
 |0,hj=>by omega
 |j+1,hj=>by
  unfold kt_
  by_cases hjk:j=k
  ·subst hjk;rw[h];show(partV l (j:Nat)).map _=_;rw[hs];rfl
  ·rw[ac0_ h hs j (by omega)];rfl
def strC (s:List UInt8):List Value:= [vs s]
theorem aiC_ (s:List UInt8): (strC s).length=1:=rfl
structure AlG where
 ts:List (List UInt8)
 v:Value
 o:Obj
 D:za_
def AllS (l:List PartL) (v:Value) (D:za_):Prop:=match ZJ_ l with
 | .ok ts=> ∃x,v= .tuple #[x,vi 0]∧GrI D 9 1 x ts.length (ts.map strC).flatten
 | .error e=>v= .tuple #[.slice none 0 0,vi e]
theorem apq_:zK_ Tryz.prog 228=some (.map none):=id (by kernel_rfl)
theorem ae5_ (b:Nat) (E:TypeId) (x:Value):zl_ (some (false,1)) (some (.cells #[x] E (0,0))) 0 (vm b)=some (.cells #[vm b] E (0,0)):=(rfl)
set_option linter.defProp false
def jG_:=And.intro (And.intro (@zg_) (And.intro (@zf_) (@aht_))) (And.intro (@ae5_) (And.intro (@Sx.tup2_0) (@Sx.tup2_1)))
theorem af0_ (v0:Value) (l:List PartL) (w:World) (hv:kO_ w v0 l) (hb:BndL l) (hl:l.length<1000000):
  Rets Tryz.prog 125 #[v0] w (XS w [] (AllS l)):=by
 have ln:=hv.len
 have hcl:v0.cells= #[v0]:=by
  obtain⟨bb,off,cc,arr,E,fz,hr,-,hvv⟩:=id hv
  rcases hvv with⟨e1,-,-⟩ | ⟨e1,-,-⟩<;>rw[e1]<;>rfl
 have hvb: ∀b,slB v0=some b→b<w.heap.size:=by
  intro b hb
  obtain⟨bb,off,cc,arr,E,fz,hr,-,hvv⟩:=id hv
  rcases hvv with⟨e1,-,-⟩ | ⟨e1,hh,-⟩
  ·rw[e1] at hb;cases hb
  ·rw[e1] at hb;cases hb;exact(Array.getElem?_eq_some_iff.1 hh).1
 refine Rets.enterX Tryz.func125 rfl (rs:= [.tmp 2, .tmp 3]) Tryz.results125 Tryz.ntmps125 (fun p hp=>by cases hp) (by simp[keys]) ?_
 refine kf ?_
 first|with_reducible refine ks [] @jG_ ?_|refine kp @jG_ ?_
 refine Ow.box rfl rfl fun b1 hb1 hw1=> ?_
 simp only[qy_,qr_,qs_,zd_,List.nil_append,List.cons_append]
 refine Ow.go rfl ?_
 simp(disch:=(first|assumption|omega| (simp only[jW_,jX_,UInt64.reduceToNat];try omega))) only[↓Sx.S0,Sx.S1,Tryz.fx,jG_,Nat.reduceAdd,Nat.reducePow,Int.reducePow,Nat.reduceBEq, ↓reduceIte,UInt8.reduceToNat,UInt16.reduceToNat,UInt32.reduceToNat,UInt64.reduceToNat,Int.reduceToNat]
 rw[hcl]
 by_cases h2:200<l.length
 ·have d1:decide ((200:Int)< (l.length:Int))=true:=decide_eq_true (by omega)
  first|with_reducible refine ks [] (And.intro @jG_ (And.intro @ln (@d1))) ?_|refine kp (And.intro @jG_ (And.intro @ln (@d1))) ?_
  refine⟨_,(ke @jG_), ?_⟩
  refine⟨Ext.of_new ⟨hw1,trivial⟩, ?_⟩
  unfold AllS ZJ_;rw[if_pos h2];rfl
 ·have d1:decide ((200:Int)< (l.length:Int))=false:=decide_eq_false (by omega)
  first|with_reducible refine ks [] (And.intro @jG_ (And.intro @ln (@d1))) ?_|refine kp (And.intro @jG_ (And.intro @ln (@d1))) ?_
  refine Ow.makeMapG (encK:=vi) (encV:=vs) rfl rfl fun bm o hbm hwm hm0=> ?_
  rw[List.cons_append,List.nil_append]
  refine ko @jG_ ?_
  first|with_reducible refine ks [] @jG_ ?_|refine kp @jG_ ?_
  refine Ow.alloc rfl rfl apq_ fun bk hbk hwk=> ?_
  simp only[zd_,List.nil_append,List.cons_append]
  rw[show Value.cells (.map none)= #[.map none] from rfl]
  have hbmk:bm<bk:=zm_ hbk (by simp[keys])
  have hb1m:b1<bm:=zm_ hbm (by simp[keys])
  have hb1k:b1<bk:=by omega
  have hv1: ∀o b,slB v0=some b→b∉keys (clX b1 bk bm v0 o):=by
   intro o b hbb
   have:=hvb b hbb
   simp only[clX,keys,List.map_cons,List.map_nil,List.mem_cons,List.not_mem_nil,or_false,not_or]
   omega
  have hXn: ∀o,New w.heap.size (clX b1 bk bm v0 o):=fun o=>⟨hw1,hwk,hwm,trivial⟩
  refine Ow.permL (M:= [(b1,Obj.cells #[v0] 22 (0,0)),(bk, .cells #[.map none] 228 (0,0)),(bm,o)]) (by classical exact List.perm_iff_count.2 fun a=>by simp only[List.count_append,List.count_cons,List.count_nil]<;>omega) ?_
  refine ko @jG_ ?_
  first|with_reducible refine ks [] (And.intro @jG_ @ln) ?_|refine kp (And.intro @jG_ @ln) ?_
  simp only[List.map_toArray,List.map_cons,List.map_nil,qy_,qs_,qr_]
  refine Cw.loopG (G:=AlG) [18,19,7,21,22,23,20,24,25,8,9,26,27,28,2,3,29,30,31,32,6,33,17] (fun g=> [(6,g.v),(17,vi g.ts.length)]) (fun g=>(b1,Obj.cells #[v0] 22 (0,0)):: (bk, .cells #[vm bm] 228 (0,0)):: (bm,g.o)::g.D) (fun g=>g.ts.length≤l.length∧kt_ l g.ts.length= .ok g.ts∧MapT g.o g.ts∧New w.heap.size g.D∧Gr g.D 9 1 g.v g.ts.length (g.ts.map strC).flatten) (fun g=>l.length - g.ts.length) ⟨[], .slice none 0 0,o,[]⟩ rfl rfl ?_ ?_
  ·exact⟨Nat.zero_le _,rfl,hm0,trivial,Gr.nl⟩
  intro g j hg
  refine kv ?_
  obtain⟨ts,v,o,D⟩:=g
  simp only at hg ⊢
  obtain⟨hgl,hgo,hM,hN,hG⟩:=hg
  by_cases hlt:ts.length<l.length
  ·have d2:decide ((ts.length:Int)< (l.length:Int))=true:=decide_eq_true (by omega)
   first|with_reducible refine ks [] (And.intro @jG_ @d2) ?_|refine kp (And.intro @jG_ @d2) ?_
   refine Ow.callFnXC (b:=vi ts.length) (ars:= #[vi ts.length,vp b1 0,vp bk 0]) rfl (X:=clX b1 bk bm v0 o) (Y:=D) (S:=ClS l ts.length ts b1 bk bm v0) rfl rfl rfl rfl rfl Tryz.call158 (fun w' hw' hX hn=>af2_ b1 bk bm o v0 l ts.length ts w' hb1k (by omega) (by omega) (hv.oldN hw' ((hXn o).app hN)) hb hl hlt hgo hM (hv1 o) hX hn) (fun v2 D2 hC hS=> ?_)
   obtain⟨rfl,o2,D3,rfl,hok⟩:=hS
   have hN3:New w.heap.size D3:=New.of_le fun c hc=>by
    rcases hC.new c (by rw[zi_];exact List.mem_append_right _ hc) with h|h
    ·exact(hXn o).le c h
    ·exact h.2
   have hpm: (clX b1 bk bm v0 o2++D3)++D=(b1,Obj.cells #[v0] 22 (0,0)):: (bk, .cells #[vm bm] 228 (0,0)):: (bm,o2):: (D3++D):=rfl
   rw[hpm]
   cases hp:partV l (ts.length:Nat) with
   |error e=>
    have hal:ZJ_ l= .error e:=by unfold ZJ_;rw[if_neg h2];exact ac0_ hgo hp _ hlt
    have e0: (e !=0)=true:=by rw[bne_iff_ne];exact Wp_ hp
    unfold amQ_
    refine ko @jG_ ?_
    first|with_reducible refine ks [] (And.intro @jG_ @e0) ?_|refine kp (And.intro @jG_ @e0) ?_
    refine⟨_,(ke @jG_), ?_⟩
    refine⟨Ext.of_new ⟨hw1,hwk,hwm,hN3.app hN⟩, ?_⟩
    unfold AllS;rw[hal];rfl
   |ok s=>
    have e0: ((0:Int) !=0)=false:=rfl
    unfold amQ_
    refine ko @jG_ ?_
    first|with_reducible refine ks [] (And.intro @jG_ @e0) ?_|refine kp (And.intro @jG_ @e0) ?_
    refine Ow.buildSlice (e:=9) #[vs s] rfl rfl (by kernel_rfl) fun b9 hb9 hw9=> ?_
    have hM2:=hok s hp
    refine Ow.permL (M:=D++ ((b1,Obj.cells #[v0] 22 (0,0)):: (bk, .cells #[vm bm] 228 (0,0)):: (bm,o2):: (D3++ [(b9, .cells #[vs s] 9 (0,0))]))) (by classical exact List.perm_iff_count.2 fun a=>by simp only[List.count_append,List.count_cons,List.count_nil]<;>omega) ?_
    refine ko @jG_ ?_
    refine Ow.appendXG (e:=9) (k:=1) (new:=strC s) (X:=D) v rfl rfl rfl rfl Tryz.underlying57 (id (by kernel_rfl):zW_ Tryz.prog 9=some (false,1)) (by kernel_rfl) (id (by kernel_rfl):zK_ Tryz.prog 9=some (vs [])) rfl Tryz.underlying57 (by intro k h;cases h) hG (fun w' hw'=>AppX.one1 (hw'.has b9 (.cells #[vs s] 9 (0,0)) (by simp)) (aiC_ s) rfl) (by omega) (fun B4 v4 D4 hA4 hB4 hG4 hk14 hk24 hlk4=> ?_)
    have hN4:New w.heap.size D4:=New.of_le fun c hc=>by
     rcases hk24 c hc with h|h
     ·exact hN.le c h
     ·omega
    have hG5:Gr (D4++ (D3++ [(b9,Obj.cells #[vs s] 9 (0,0))])) 9 1 v4 (ts++ [s]).length ((ts++ [s]).map strC).flatten:=by
     have:=hG4.app (M:=D3++ [(b9,Obj.cells #[vs s] 9 (0,0))])
     simpa using this
    have hN5:New w.heap.size (D4++ (D3++ [(b9,Obj.cells #[vs s] 9 (0,0))])):=hN4.app (hN3.app ⟨hw9,trivial⟩)
    refine Ow.permL (M:=(b1,Obj.cells #[v0] 22 (0,0)):: (bk, .cells #[vm bm] 228 (0,0)):: (bm,o2):: (D4++ (D3++ [(b9, .cells #[vs s] 9 (0,0))]))) (by classical exact List.perm_iff_count.2 fun a=>by simp only[List.count_append,List.count_cons,List.count_nil]<;>omega) ?_
    generalize D4++ (D3++ [(b9,Obj.cells #[vs s] 9 (0,0))])=D6 at*
    refine ko @jG_ ?_
    first|with_reducible refine ks [] @jG_ ?_|refine kp @jG_ ?_
    have hlt2: (ts++ [s]).length=ts.length+1:=by simp
    refine Again.mk ⟨ts++ [s],v4,o2,D6⟩ (by show l.length - (ts++ [s]).length<l.length - ts.length;omega) ⟨by show(ts++ [s]).length≤l.length;omega,by show kt_ l (ts++ [s]).length= .ok (ts++ [s]);rw[hlt2];exact akn_ hgo hp,hM2,hN5,hG5⟩ rfl (by simp only[hlt2];rfl)
  ·have e:ts.length=l.length:=by omega
   have d2:decide ((ts.length:Int)< (l.length:Int))=false:=decide_eq_false (by omega)
   first|with_reducible refine ks [] (And.intro @jG_ @d2) ?_|refine kp (And.intro @jG_ @d2) ?_
   refine⟨_,(ke @jG_), ?_⟩
   refine⟨Ext.of_new ⟨hw1,hwk,hwm,hN⟩, ?_⟩
   have hal:ZJ_ l= .ok ts:=by unfold ZJ_;rw[if_neg h2,←e];exact hgo
   unfold AllS
   rw[hal]
   exact⟨v,rfl,Gr.i hG fun q hq=>by simp[hq]⟩
end Go.Proofs
end
