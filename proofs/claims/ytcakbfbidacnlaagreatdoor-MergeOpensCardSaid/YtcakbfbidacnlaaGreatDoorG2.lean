/-
  Part 2 of the walk: contracts of the functions that the law reaches, and the calculus they stand on.
  No conditions.
-/
import Derived.Test.YtcakbfbidacnlaaGreatDoorG1
import Derived.Lib.Strings
import Derived.Lib.Bytealg
import GoSem.Core.Float
import Derived.Laws.MakeOwn
section
open Go Go.Proofs Go.Sx Go.StP
namespace Go.Proofs
set_option maxRecDepth 10000
set_option maxHeartbeats 4000000
set_option linter.unusedSimpArgs false
def rws_Blks (k:Nat) (ls:List (List RwL)):Prop:= ∀x,x∈ls→x.length=k∧zE_ x
theorem rws_Blks.snoc {k:Nat} {ls:List (List RwL)} {x:List RwL} (h:rws_Blks k ls) (hx:x.length=k) (hs:zE_ x):rws_Blks k (ls++ [x]):=by
 intro y hy
 rcases List.mem_append.1 hy with hy|hy
 ·exact h y hy
 ·rw[List.mem_singleton] at hy;subst hy;exact⟨hx,hs⟩
structure rws_StG where
 k:Nat
 ls:List (List RwL)
 r:List RwL
structure rws_StH where
 l2:List (List RwL)
 ls:List (List RwL)
theorem Jd_ (rb n c:Nat) (d:List RwL) (rest:List Value) (w:World) (hn:n=d.length) (hs:n<1000000)
  (ho:w.heap[rb]? =some (zA_ rest d)):
  Rets Tryz.prog 160 #[vsl rb 0 n c,vi n,qS_] w (fun v D=> ∃o,D= [(rb,o)]∧v= .tuple #[]∧ ∃Z,o=zA_ rest Z∧Z.length=d.length∧zE_ Z∧jy_ d Z):=by
 refine Rets.enterM Tryz.func160 rfl (rs:= []) Tryz.results160 Tryz.ntmps160 ho ?_
 refine kf ?_
 first|with_reducible refine ks [1000006] @Nat.add_zero ?_|refine kp @Nat.add_zero ?_
 refine Cw.loopG (G:=rws_StG) [11,12,13,14,15,16,17,18,19,7,20,21,22,8] (fun g=> [(7,vi g.ls.flatten.length),(8,vi (g.ls.flatten.length+20:Nat))]) (fun g=> [(rb,zA_ rest (g.ls.flatten++g.r))]) (fun g=>rws_Blks 20 g.ls∧jy_ d (g.ls.flatten++g.r)∧g.ls.flatten.length+g.r.length=n) (fun g=>g.r.length) ⟨20,[],d⟩ rfl rfl ?_ ?_
 ·refine⟨fun x hx=> ?_,StP.St.refl _ _,by show 0+d.length=n;omega⟩
  exact absurd hx (by simp)
 ·intro g j hg
  refine kv ?_
  obtain⟨_,ls,r⟩:=g
  obtain⟨h1,h2,h3⟩:=hg
  dsimp only at h1 h2 h3 ⊢
  by_cases hb:ls.flatten.length+20≤n
  ·obtain⟨M,R,rfl,hM⟩:=Kn_ r (show 20≤r.length by omega)
   rw[List.length_append] at h3
   first|with_reducible refine ks [] @Nat.add_zero ?_|refine kp @Nat.add_zero ?_
   refine Ow.callE rfl rfl Tryz.call183 (by simp[keys]) (fun w' hw'=>kk_ rb n c ls.flatten M R rest ls.flatten.length (ls.flatten.length+20) w' rfl (by omega) (by omega) hs (hw'.has _ _ List.mem_cons_self)) (fun v1 o1 hS1=> ?_)
   obtain⟨rfl,M',rfl,l1,s1,t1⟩:=hS1
   refine ko @Nat.add_zero ?_
   have e1: (ls++ [M']).flatten=ls.flatten++M':=by simp
   refine Again.mk ⟨20,ls++ [M'],R⟩ (by show R.length< (M++R).length;rw[List.length_append];omega) ⟨h1.snoc (by omega) s1, ?_, ?_⟩ ?_ ?_
   ·show jy_ d ((ls++ [M']).flatten++R)
    rw[e1,List.append_assoc]
    exact h2.trans (StP.St.app (StP.St.refl _ _) (StP.St.app t1 (StP.St.refl _ _)))
   ·show(ls++ [M']).flatten.length+R.length=n
    rw[e1,List.length_append];omega
   ·rw[e1,List.append_assoc]
   ·dsimp only
    rw[e1,show(ls.flatten++M').length=ls.flatten.length+20 by rw[List.length_append];omega]
    rfl
  ·first|with_reducible refine ks [] @Nat.add_zero ?_|refine kp @Nat.add_zero ?_
   have e0:ls.flatten++r=ls.flatten++ (r++ []):=by rw[List.append_nil]
   rw[e0]
   first|with_reducible refine ks [1000007] @Nat.add_zero ?_|refine kp @Nat.add_zero ?_
   refine Ow.callE rfl rfl Tryz.call183 (by simp[keys]) (fun w' hw'=>kk_ rb n c ls.flatten r [] rest ls.flatten.length n w' rfl (by omega) (by simp) hs (hw'.has _ _ List.mem_cons_self)) (fun v1 o1 hS1=> ?_)
   obtain⟨rfl,r',rfl,l1,s1,t1⟩:=hS1
   rw[show r'++ []=r' from List.append_nil r']
   refine ko @Nat.add_zero ?_
   refine Cw.loopG (G:=rws_StG) [28,29,30,31,32,7,8,33,34,35,36,37,38,39,40,41,42,43,44,45,46,47,48,49,50,51,9,52,53,54,55,56,57,58,59,60,61,62,6] (fun g=> [(6,vi g.k)]) (fun g=> [(rb,zA_ rest (g.ls.flatten++g.r))]) (fun g=>0<g.k∧rws_Blks g.k g.ls∧zE_ g.r∧g.r.length<g.k∧jy_ d (g.ls.flatten++g.r)∧g.ls.flatten.length+g.r.length=n) (fun g=>n - g.k) ⟨20,ls,r'⟩ rfl rfl ?_ ?_
   ·exact⟨by show 0<20;omega,h1,s1,by show r'.length<20;omega,h2.trans (StP.St.app (StP.St.refl _ _) t1),by show ls.flatten.length+r'.length=n;omega⟩
   ·intro g j hg
    refine kv ?_
    clear h1 h2 h3 hb e0 l1 s1 t1
    obtain⟨k,ls,r⟩:=g
    obtain⟨h0,h1,h2,h3,h4,h5⟩:=hg
    dsimp only at h0 h1 h2 h3 h4 h5 ⊢
    by_cases hk:k<n
    ·have e1:2* (k:Int)=((2*k:Nat):Int):=by omega
     first|with_reducible refine ks [1000013] @e1 ?_|refine kp @e1 ?_
     refine Cw.loopG (G:=rws_StH) [33,34,35,36,37,38,39,40,41,42,43,44,7,45,46,47,48,8] (fun g=> [(7,vi g.l2.flatten.length),(8,vi (2*k+g.l2.flatten.length:Nat))]) (fun g=> [(rb,zA_ rest (g.l2.flatten++ (g.ls.flatten++r)))]) (fun g=>rws_Blks (2*k) g.l2∧rws_Blks k g.ls∧jy_ d (g.l2.flatten++ (g.ls.flatten++r))∧g.l2.flatten.length+ (g.ls.flatten.length+r.length)=n) (fun g=>g.ls.length) ⟨[],ls⟩ rfl rfl ?_ ?_
     ·refine⟨fun x hx=> ?_,h1,h4,by show 0+ (ls.flatten.length+r.length)=n;omega⟩
      exact absurd hx (by simp)
     ·clear h1 h4 h5
      intro g j hg
      refine kv ?_
      obtain⟨l2,ls⟩:=g
      obtain⟨g1,g2,g3,g4⟩:=hg
      dsimp only at g1 g2 g3 g4 ⊢
      by_cases hb:2*k+l2.flatten.length≤n
      ·have hls: ∃x y t,ls=x::y::t:=by
        cases ls with
        |nil=>rw[List.flatten_nil,List.length_nil] at g4;omega
        |cons x t=>
         have hx:=(g2 x List.mem_cons_self).1
         cases t with
         |nil=>rw[List.flatten_cons,List.flatten_nil,List.append_nil] at g4;omega
         |cons y t=>exact⟨x,y,t,rfl⟩
       obtain⟨x,y,t,rfl⟩:=hls
       have hx:=g2 x List.mem_cons_self
       have hy:=g2 y (by simp)
       have ht:rws_Blks k t:=fun u hu=>g2 u (by simp[hu])
       rw[List.flatten_cons,List.flatten_cons] at g3 g4
       simp only[List.length_append,List.append_assoc] at g3 g4
       have e2: (x::y::t).flatten++r=x++ (y++ (t.flatten++r)):=by simp
       rw[e2]
       have e3: (l2.flatten.length:Int)+ (k:Int)=((l2.flatten.length+k:Nat):Int):=by omega
       first|with_reducible refine ks [] @e3 ?_|refine kp @e3 ?_
       refine Ow.callE rfl rfl Tryz.call184 (by simp[keys]) (fun w' hw'=>ky_ (2*k) rb n c l2.flatten x y (t.flatten++r) rest l2.flatten.length (l2.flatten.length+k) (2*k+l2.flatten.length) w' rfl (by omega) (by omega) (by rw[List.length_append];omega) hs hx.2 hy.2 (by omega) (by omega) (by omega) (hw'.has _ _ List.mem_cons_self)) (fun v1 o1 hS1=> ?_)
       obtain⟨rfl,Z,rfl,z1,z2,z3⟩:=hS1
       have e4: ((2*k+l2.flatten.length:Nat):Int)+ ((2*k:Nat):Int)=((2*k+ (l2.flatten.length+2*k):Nat):Int):=by omega
       refine ko (And.intro @e1 @e4) ?_
       have e5: (l2++ [Z]).flatten=l2.flatten++Z:=by simp
       have e6: (l2.flatten++Z).length=2*k+l2.flatten.length:=by rw[List.length_append];omega
       refine Again.mk ⟨l2++ [Z],t⟩ (by show t.length< (x::y::t).length;simp only[List.length_cons];omega) ⟨g1.snoc (by omega) z2,ht, ?_, ?_⟩ ?_ ?_
       ·show jy_ d ((l2++ [Z]).flatten++ (t.flatten++r))
        rw[e5,List.append_assoc]
        refine g3.trans (StP.St.app (StP.St.refl _ _) ?_)
        rw[←List.append_assoc]
        exact StP.St.app z3 (StP.St.refl _ _)
       ·show(l2++ [Z]).flatten.length+ (t.flatten.length+r.length)=n
        rw[e5,e6];omega
       ·rw[e5,List.append_assoc]
       ·dsimp only
        rw[e5,e6,show l2.flatten.length+2*k=2*k+l2.flatten.length by omega]
        rfl
      ·have e7: (k:Int)*2=((2*k:Nat):Int):=by omega
       have e3: (l2.flatten.length:Int)+ (k:Int)=((l2.flatten.length+k:Nat):Int):=by omega
       have hls:ls= []∨ ∃x,ls= [x]:=by
        cases ls with
        |nil=>exact .inl rfl
        |cons x t=>
         have hx:=(g2 x List.mem_cons_self).1
         cases t with
         |nil=>exact .inr ⟨x,rfl⟩
         |cons y t=>
          have hy:=(g2 y (by simp)).1
          rw[List.flatten_cons,List.flatten_cons,List.length_append,List.length_append] at g4
          omega
       have fin: ∀r',(ls.flatten++r).length=r'.length→jy_ (ls.flatten++r) r'→jy_ d (l2.flatten++r')∧l2.flatten.length+r'.length=n:=by
        intro r' hl ht'
        rw[List.length_append] at hl
        exact⟨g3.trans (StP.St.app (StP.St.refl _ _) ht'),by omega⟩
       rcases hls with rfl| ⟨x,rfl⟩
       ·rw[List.flatten_nil,List.length_nil] at g4
        first|with_reducible refine ks [] @Nat.add_zero ?_|refine kp @Nat.add_zero ?_
        first|with_reducible refine ks [] (And.intro @e3 @e7) ?_|refine kp (And.intro @e3 @e7) ?_
        obtain⟨w1,w2⟩:=fin r rfl (StP.St.refl _ _)
        refine Again.mk ⟨2*k,l2,r⟩ (by show n - 2*k<n - k;omega) ⟨by show 0<2*k;omega,g1,h2,by show r.length<2*k;omega,w1,w2⟩ rfl rfl
       ·have hx:=g2 x List.mem_cons_self
        rw[List.flatten_cons,List.flatten_nil,List.append_nil] at g4 fin
        rw[List.flatten_cons,List.flatten_nil,List.append_nil]
        by_cases hr:r.length=0
        ·obtain rfl:r= []:=List.eq_nil_of_length_eq_zero hr
         first|with_reducible refine ks [] @Nat.add_zero ?_|refine kp @Nat.add_zero ?_
         first|with_reducible refine ks [] (And.intro @e3 @e7) ?_|refine kp (And.intro @e3 @e7) ?_
         obtain⟨w1,w2⟩:=fin x (by rw[List.append_nil]) (by rw[List.append_nil];exact StP.St.refl _ _)
         refine Again.mk ⟨2*k,l2,x⟩ (by show n - 2*k<n - k;omega) ⟨by show 0<2*k;omega,g1,hx.2,by show x.length<2*k;omega,w1,w2⟩ ?_ rfl
         rw[List.append_nil]
        ·have e8:x++r=x++ (r++ []):=by rw[List.append_nil]
         rw[e8]
         first|with_reducible refine ks [] @Nat.add_zero ?_|refine kp @Nat.add_zero ?_
         first|with_reducible refine ks [] (And.intro @e3 @e7) ?_|refine kp (And.intro @e3 @e7) ?_
         refine Ow.callE rfl rfl Tryz.call184 (by simp[keys]) (fun w' hw'=>ky_ (2*k) rb n c l2.flatten x r [] rest l2.flatten.length (l2.flatten.length+k) n w' rfl (by omega) (by omega) (by simp) hs hx.2 h2 (by omega) (by omega) (by omega) (hw'.has _ _ List.mem_cons_self)) (fun v1 o1 hS1=> ?_)
         obtain⟨rfl,Z,rfl,z1,z2,z3⟩:=hS1
         rw[show Z++ []=Z from List.append_nil Z]
         refine ko @e7 ?_
         obtain⟨w1,w2⟩:=fin Z (by rw[List.length_append];omega) z3
         refine Again.mk ⟨2*k,l2,Z⟩ (by show n - 2*k<n - k;omega) ⟨by show 0<2*k;omega,g1,z2,by show Z.length<2*k;omega,w1,w2⟩ rfl rfl
    ·first|with_reducible refine ks [] @Nat.add_zero ?_|refine kp @Nat.add_zero ?_
     have hZ:zE_ (ls.flatten++r):=by
      cases ls with
      |nil=>exact h2
      |cons x ls=>
       have hx:=h1 x List.mem_cons_self
       rw[List.flatten_cons,List.length_append] at h5
       obtain rfl:r= []:=List.eq_nil_of_length_eq_zero (by omega)
       cases ls with
       |nil=>simpa using hx.2
       |cons y ls=>
        have hy:=h1 y (by simp)
        rw[List.flatten_cons,List.length_append] at h5
        omega
     have hZl: (ls.flatten++r).length=d.length:=by rw[List.length_append];omega
     refine⟨_,_,_,(ke @Nat.add_zero),rfl,trivial, ?_⟩
     exact⟨rfl,_,rfl,hZl,hZ,h4⟩
end Go.Proofs
end
section
open Go Go.Proofs Go.Sx Go.StP
namespace Go.Proofs
set_option maxRecDepth 10000
set_option maxHeartbeats 4000000
set_option linter.unusedSimpArgs false
theorem ZS_ (w:World):Rets Tryz.prog 183 #[.slice none 0 0,vi 0,vi 0,qS_] w (fun v D=>v= .tuple #[]∧D= []):=by
 refine Rets.enterV Tryz.func183 rfl (rs:= []) Tryz.results183 Tryz.ntmps183 ?_
 refine kf ?_
 first|with_reducible refine ks [] @Nat.add_zero ?_|refine kp @Nat.add_zero ?_
 refine Cw.loopG (G:=Unit) [12,13,14,17,9,18,19,20,21,22,23,24,25,26,27,28,29,30,31,32,33,34,37,38,39,40,41,42,43,44,45,46,47,48,49,50,51,52,35,36,15,16,8] (fun g=> [(8,vi 1)]) (fun g=> []) (fun g=>True) (fun g=>0) () rfl rfl ?_ ?_
 ·trivial
 ·intro g j hg
  refine kv ?_
  first|with_reducible refine ks [] @Nat.add_zero ?_|refine kp @Nat.add_zero ?_
  refine⟨_,(ke @Nat.add_zero),trivial, ?_⟩
  rfl
theorem J8_ (w:World):Rets Tryz.prog 160 #[.slice none 0 0,vi 0,qS_] w (fun v D=>v= .tuple #[]∧D= []):=by
 refine Rets.enterV Tryz.func160 rfl (rs:= []) Tryz.results160 Tryz.ntmps160 ?_
 refine kf ?_
 first|with_reducible refine ks [] @Nat.add_zero ?_|refine kp @Nat.add_zero ?_
 refine Cw.loopG (G:=Unit) [11,12,13,14,15,16,17,18,19,7,20,21,22,8] (fun g=> [(7,vi 0),(8,vi 20)]) (fun g=> []) (fun g=>True) (fun g=>0) () rfl rfl ?_ ?_
 ·trivial
 ·intro g j hg
  refine kv ?_
  first|with_reducible refine ks [] @Nat.add_zero ?_|refine kp @Nat.add_zero ?_
  refine Ow.callFV rfl Tryz.call183 (fun w' hw'=>ZS_ w') ?_
  refine ko @Nat.add_zero ?_
  refine Cw.loopG (G:=Unit) [28,29,30,31,32,7,8,33,34,35,36,37,38,39,40,41,42,43,44,45,46,47,48,49,50,51,9,52,53,54,55,56,57,58,59,60,61,62,6] (fun g=> [(6,vi 20)]) (fun g=> []) (fun g=>True) (fun g=>0) () rfl rfl ?_ ?_
  ·trivial
  ·intro u ju hu
   refine kv ?_
   first|with_reducible refine ks [] @Nat.add_zero ?_|refine kp @Nat.add_zero ?_
   refine⟨_,(ke @Nat.add_zero),trivial, ?_⟩
   rfl
theorem Zq_ (w:World):Rets Tryz.prog 120 #[.slice none 0 0,qS_] w (fun v D=>v= .tuple #[]∧D= []):=by
 refine Rets.enterV Tryz.func120 rfl (rs:= []) Tryz.results120 Tryz.ntmps120 ?_
 refine kf ?_
 first|with_reducible refine ks [] @kr_ ?_|refine kp @kr_ ?_
 refine Ow.callFV rfl Tryz.call160 (fun w' hw'=>J8_ w') ?_
 refine ko @Nat.add_zero ?_
 refine⟨_,(ke @Nat.add_zero),trivial, ?_⟩
 rfl
theorem xT_ (rb n c:Nat) (d:List RwL) (rest:List Value) (w:World) (hn:n=d.length) (hs:n<1000000) (ho:w.heap[rb]? =some (zA_ rest d)):
  Rets Tryz.prog 120 #[vsl rb 0 n c,qS_] w (fun v D=> ∃o,D= [(rb,o)]∧v= .tuple #[]∧ ∃Z,o=zA_ rest Z∧Z.length=d.length∧zE_ Z∧jy_ d Z):=by
 refine Rets.enterM Tryz.func120 rfl (rs:= []) Tryz.results120 Tryz.ntmps120 ho ?_
 refine kf ?_
 first|with_reducible refine ks [] @Nat.add_zero ?_|refine kp @Nat.add_zero ?_
 refine Ow.callE rfl rfl Tryz.call160 (by simp[keys]) (fun w' hw'=>Jd_ rb n c d rest w' hn hs (hw'.has _ _ List.mem_cons_self)) (fun v1 o1 hS1=> ?_)
 obtain⟨rfl,Z,rfl,z1,z2,z3⟩:=hS1
 refine ko @Nat.add_zero ?_
 refine⟨_,_,_,(ke @Nat.add_zero),rfl,trivial, ?_⟩
 exact⟨rfl,Z,rfl,z1,z2,z3⟩
def rws_SortOf (l Z:List RwL):Prop:=Z.length=l.length∧zE_ Z∧jy_ l Z
theorem rws_SortOf.eq {l Z Z':List RwL} (h:rws_SortOf l Z) (h':rws_SortOf l Z'):Z=Z':=StP.St.eq h.2.1 h'.2.1 (h.2.2.symm.trans h'.2.2)
end Go.Proofs
end
section
open Go Go.Proofs Go.Sx Go.StP
namespace Go.Proofs
set_option maxRecDepth 10000
set_option maxHeartbeats 1000000
set_option linter.unusedSimpArgs false
abbrev RwSl (w:World) (v:Value) (l:List RwL):Prop:=SlV 34 rwC rw0 w v l
def qv_ (r:RwL):Bool:= !(decide (r.place<0))&& !(decide (1099511627775<r.place))&& !(decide (r.spot<0))&& !(decide (1099511627775<r.spot))
def Zt_ (l:List RwL):Nat→Bool
 |0=>true
 |k+1=>Zt_ l k&& (decide (k=0) ||decide (wQ_ (l.getD (k - 1) rw0).id (l.getD k rw0).id<0))&&qv_ (l.getD k rw0)
def JP_ (i:IdL):Nat:=(i.l.getD 0 0).toNat / 16
theorem ah5_ (i:IdL):JP_ i<16:=by
 have:=(i.l.getD 0 0).toNat_lt
 unfold JP_;omega
def ZL_ (l:List RwL) (d:Nat):Nat:=l.countP fun r=>decide (JP_ r.id≤d)
def kw_ (l:List RwL):List Nat:=(List.range 16).map (ZL_ l)
def VA_ (l:List RwL) (r:RwL) (g:Nat):List Nat:=(List.range 16).map fun j=>if j<g then ZL_ (l++ [r]) j else ZL_ l j
theorem QH_ (l:List RwL): (kw_ l).length=16:=by simp[kw_]
theorem QG_ (l:List RwL) (r:RwL) (g:Nat): (VA_ l r g).length=16:=by simp[VA_]
theorem QO_ (l:List RwL) (r:RwL) (d:Nat):ZL_ (l++ [r]) d=ZL_ l d+if JP_ r.id≤d then 1 else 0:=by
 unfold ZL_
 rw[List.countP_append,List.countP_singleton]
 simp
theorem alW_ (l:List RwL) (r:RwL):VA_ l r (JP_ r.id)=kw_ l:=by
 unfold VA_ kw_
 refine List.map_congr_left fun j _=> ?_
 split
 ·rename_i h;rw[QO_,if_neg (by omega),Nat.add_zero]
 ·rfl
theorem aj4_ (l:List RwL) (r:RwL):VA_ l r 16=kw_ (l++ [r]):=by
 unfold VA_ kw_
 refine List.map_congr_left fun j hj=> ?_
 rw[if_pos (List.mem_range.1 hj)]
theorem ajj_ (l:List RwL) (r:RwL) {g:Nat} (hg:g<16): (VA_ l r g).getD g 0=ZL_ l g:=by
 unfold VA_
 rw[List.getD_eq_getElem?_getD,List.getElem?_map,List.getElem?_range hg]
 simp
theorem ai1_ (l:List RwL) (r:RwL) {g:Nat} (_hg:g<16) (hd:JP_ r.id≤g): (VA_ l r g).set g (ZL_ l g+1)=VA_ l r (g+1):=by
 apply List.ext_getElem
 ·simp[VA_]
 ·intro j h1 h2
  rw[List.length_set,QG_] at h1
  rw[List.getElem_set]
  have e1: (VA_ l r g)[j]'(by rw[QG_];exact h1)=if j<g then ZL_ (l++ [r]) j else ZL_ l j:=by simp[VA_]
  have e2: (VA_ l r (g+1))[j]'h2=if j<g+1 then ZL_ (l++ [r]) j else ZL_ l j:=by simp[VA_]
  rw[e1,e2]
  by_cases hj:g=j
  ·subst hj
   rw[if_pos rfl,if_pos (by omega),QO_,if_pos hd]
  ·rw[if_neg hj]
   by_cases hj2:j<g
   ·rw[if_pos hj2,if_pos (by omega)]
   ·rw[if_neg hj2,if_neg (by omega)]
theorem shr4 (x:UInt8): ((vH_ x 4).toNat:Int)=((x.toNat / 16:Nat):Int):=by
 have:=x.toNat_lt
 unfold vH_
 rw[UInt8.toNat_ofNat',Nat.mod_eq_of_lt (by omega)]
def ixO (s:List UInt8) (v1:Value) (F:List Nat):Obj:= .cells ([vs s,v1]++ (F.map fun(n:Nat)=>vi (n:Int))).toArray 205 (0,0)
set_option linter.defProp false
def aei_:=And.intro (@zf_) (@ze_)
theorem abl_ (i:IdL) (w:World):Rets Tryz.prog 161 #[.agg (a8 i.l)] w (fun v D=>v=vi (JP_ i:Nat)∧D= []):=by
 have hil:=i.h
 have h0: (0:Nat)<i.l.length:=by omega
 have hs:=shr4 (i.l.getD 0 0)
 refine Rets.enterV Tryz.func161 rfl (rs:= [.tmp 2]) Tryz.results161 Tryz.ntmps161 ?_
 refine kf ?_
 first|with_reducible refine ks [] @aei_ ?_|refine kp @aei_ ?_
 refine Ow.box rfl rfl fun b1 hb1 hw1=> ?_
 simp only[jt_,jm_,jn_,zg_,List.nil_append,List.cons_append]
 refine Ow.go rfl ?_
 simp(disch:=(first|assumption|omega| (simp only[kd_,kc_,UInt64.reduceToNat];try omega))) only[↓Sx.S0,Sx.S1,Tryz.fx,aei_,Nat.reduceAdd,Nat.reducePow,Int.reducePow,Nat.reduceBEq, ↓reduceIte,UInt8.reduceToNat,UInt16.reduceToNat,UInt32.reduceToNat,UInt64.reduceToNat,Int.reduceToNat]
 first|with_reducible refine ks [] @aei_ ?_|refine kp @aei_ ?_
 refine⟨_,(ke @aei_),⟨hw1,trivial⟩, ?_⟩
 exact congrArg vi hs
end Go.Proofs
end
namespace Go.Sx
open Go
section
variable {α:Type} {m:Nat} {enc:α→List Value} {z:α} {w:World} {v:Value} {l:List α}
theorem SlV.dropE (h:SlV m enc z w v l) {k:Nat} (hk:k≤l.length) (a:Bool): ∃v',jq_ (.sl (a,m)) v (some (some (k:Int))) none=some v'∧SlV m enc z w v' (l.drop k)∧(∀b,slB v'=some b→slB v=some b):=by
 obtain⟨b,off,c,arr,E,fz,hr,hc,hv⟩:=h
 have hl: (l.drop k).length=l.length - k:=by simp
 rcases hv with⟨rfl,rfl,rfl⟩ | ⟨rfl,hhas,hsz⟩
 ·obtain rfl:k=0:=by simpa using hk
  exact⟨.slice none 0 0,rfl,SlV.nil w,fun b hb=>hb⟩
 ·have hsl:jq_ (.sl (a,m)) (vsl b off l.length c) (some (some (k:Int))) none=some (vsl b (if c=k then off else off+k*m) (l.length - k) (c - k)):=by
   unfold jq_ vsl
   simp only[ajJ_ _ _ _ (⟨by omega,by omega⟩: (0:Int)≤ (k:Int)∧(k:Int)≤ (l.length:Int)),Int.toNat_natCast]
   by_cases hck:c=k
   ·simp[hck]
   ·simp only[hck, ↓reduceIte,Option.map_some,q4_]
  refine⟨_,hsl, ?_,fun b' hb=>hb⟩
  have hkm:k*m+ (l.length - k)*m=l.length*m:=by rw[←Nat.add_mul];congr 1;omega
  by_cases hck:c=k
  ·have h0:l.length - k=0:=by omega
   rw[if_pos hck]
   refine⟨b,off,c - k,arr,E,fz,RowS.sl' hl.symm (fun h=>by omega) (fun i hi=>by omega),by omega, .inr ⟨by rw[hl],hhas,by rw[hl,h0];omega⟩⟩
  ·rw[if_neg hck]
   refine⟨b,off+k*m,c - k,arr,E,fz,RowS.sl' hl.symm (fun h=>hhas) ?_,by omega, .inr ⟨by rw[hl],hhas,by rw[hl];omega⟩⟩
   intro i hi j hj
   rw[hl] at hi
   rw[List.getD_eq_getElem?_getD,List.getElem?_drop,←List.getD_eq_getElem?_getD,←hr.get (k+i) (by omega) j hj]
   congr 1
   rw[Nat.add_mul];omega
end
section
variable {P:Program} {w0:World} {f:Fr} {L:zc_} {N:Fr→zc_→Prop} {ops:Array Oper} {rest:List Oper} {md:Md} {d:Option Tmp} {ty:TypeId} {ps:String} {af:Array Edge} {g:Option (Nat×Bool)}
end
section
variable {P:Program} {w0:World} {f:Fr} {L:zc_} {K:xN_}
theorem Cw.world {c:Code} (h: ∀w,Hp w0 L w→Cw P w0 c f L K):Cw P w0 c f L K:=fun w hw=>h w hw w hw
theorem Gr.read {E:TypeId} {m n:Nat} {v:Value} {cs:List Value} (h:Gr L E m v n cs) {b:Nat} (hb:slB v=some b) {w:World} (hw:Hp w0 L w) {o:Obj} (ho:w.heap[b]? =some o):zv_ w0 L b=some o:=by
 obtain⟨a,ha⟩:=h.at_ hb
 rw[hw.has _ _ (zL_ ha)] at ho
 rw[jJ_ ha];exact ho
end
end Go.Sx
namespace Go.Sx
open Go
section
variable {α β:Type} [BEq α] [LawfulBEq α] (encK:α→Value) (encV:β→Value)
def fndG (k:α):List (α×β)→Nat→Option (Nat×β)
 | [],_=>none
 |p::r,i=>if k==p.1 then some (i,p.2) else fndG k r (i+1)
def updG (k:α) (v:β):List (α×β)→List (α×β)
 | []=> [(k,v)]
 |p::r=>if k==p.1 then(p.1,v)::r else p::updG k v r
def getG (k:α) (z:β) (m:List (α×β)):β:=match m.find? fun p=>k==p.1 with|some p=>p.2|none=>z
def kT_ (p:α×β):Value×Value:=(encK p.1,encV p.2)
def MapG (o:Obj) (m:List (α×β)):Prop:= ∃es clock,o= .map es clock∧es.toList.map (fun e=>(e.key,e.val))=m.map (kT_ encK encV)∧(es.toList.map (·.born)++ [clock]).Pairwise (· < ·)
structure KeyOk (P:Program) (kt:TypeId) (encK:α→Value):Prop where
 find: ∀ {β:Type} (encV:β→Value) (w:World) (k:α) (es:List MapEntry) (m:List (α×β)),es.map (fun e=>(e.key,e.val))=m.map (kT_ encK encV)→(Instr.findKey kt (encK k) es).run P w= .ok ((fndG k m 0).map fun p=>(p.1,encV p.2)) w
 check: ∀ (w:World) (e:Bool) (k:α),(Instr.checkKey e 10000 kt (encK k)).run P w= .ok () w
 bits: ∀k,Instr.sameBits 10000 (encK k) (encK k)=true
variable {encK encV}
omit [LawfulBEq α] in
theorem aab_ {kd:TypeDesc} (hs: ∀a b,Instr.sameNow kd (encK a) (encK b)=some (a==b)) (k:α): ∀ (es:List MapEntry) (m:List (α×β)) (i:Nat),es.map (fun e=>(e.key,e.val))=m.map (kT_ encK encV)→
  Instr.findNow kd (encK k) es i=some ((fndG k m i).map fun p=>(p.1,encV p.2))
 | [],[],i,_=>rfl
 | [],_::_,_,h=>by cases h
 |_::_,[],_,h=>by cases h
 |e::es,p::m,i,h=>by
  simp only[List.map_cons,List.cons.injEq,kT_,Prod.mk.injEq] at h
  obtain⟨⟨h1,h2⟩,h3⟩:=h
  unfold Instr.findNow
  have hs:Instr.sameNow kd (encK k) e.key=some (k==p.1):=by rw[h1,hs]
  rw[hs]
  unfold fndG
  cases hk: (k==p.1)
  ·simp only[Bool.false_eq_true, ↓reduceIte]
   exact aab_ ‹_› k es m (i+1) h3
  ·simp[h2]
theorem JZ_ (k:α): ∀ (m:List (α×β)) (i j:Nat) (v:β),fndG k m i=some (j,v)→i≤j∧ ∃a,m[j - i]? =some (k,a)∧a=v
 | [],_,_,_,h=>by cases h
 |p::r,i,j,v,h=>by
  unfold fndG at h
  split at h
  ·rename_i hk
   cases h
   refine⟨Nat.le_refl _,p.2, ?_,rfl⟩
   rw[Nat.sub_self,List.getElem?_cons_zero,eq_of_beq hk]
  ·obtain⟨h1,a,h2,h3⟩:=JZ_ k r (i+1) j v h
   refine⟨by omega,a, ?_,h3⟩
   rw[show j - i=(j - (i+1))+1 by omega,List.getElem?_cons_succ];exact h2
theorem VK_ (k:α) (v:β): ∀ (es:List MapEntry) (m:List (α×β)) (i j:Nat) (a:β),es.map (fun e=>(e.key,e.val))=m.map (kT_ encK encV)→fndG k m i=some (j,a)→
  (es.modify (j - i) fun e=>{e with key:=encK k,val:=encV v}).map (fun e=>(e.key,e.val))=(updG k v m).map (kT_ encK encV)
 | [],[],_,_,_,_,h=>by cases h
 | [],_::_,_,_,_,h,_=>by cases h
 |_::_,[],_,_,_,h,_=>by cases h
 |e::es,p::m,i,j,a,h,hf=>by
  simp only[List.map_cons,List.cons.injEq,kT_,Prod.mk.injEq] at h
  obtain⟨⟨h1,h2⟩,h3⟩:=h
  unfold fndG at hf
  unfold updG
  split at hf
  ·rename_i hk
   cases hf
   rw[if_pos hk,Nat.sub_self]
   simp only[List.modify_zero_cons,List.map_cons,kT_,eq_of_beq hk]
   rw[h3]
  ·rename_i hk
   have hle:=(JZ_ k m (i+1) j a hf).1
   rw[if_neg hk,show j - i=(j - (i+1))+1 by omega]
   simp only[List.modify_succ_cons,List.map_cons,kT_]
   rw[VK_ k v es m (i+1) j a h3 hf,h1,h2]
omit [LawfulBEq α] in
theorem aai_ (k:α) (v:β): ∀ (m:List (α×β)) (i:Nat),fndG k m i=none→updG k v m=m++ [(k,v)]
 | [],_,_=>rfl
 |p::r,i,h=>by
  unfold fndG at h
  split at h
  ·cases h
  ·rename_i hk
   unfold updG
   rw[if_neg hk,aai_ k v r (i+1) h];rfl
omit [LawfulBEq α] in
theorem aal_ (k:α): ∀ (m:List (α×β)) (i:Nat),(fndG k m i).map Prod.snd=(m.find? fun p=>k==p.1).map Prod.snd
 | [],_=>rfl
 |p::r,i=>by
  unfold fndG
  rw[List.find?_cons]
  cases h: (k==p.1)
  ·simp only[Bool.false_eq_true, ↓reduceIte];exact aal_ k r (i+1)
  ·rfl
theorem aiR_ {k:α} {m:List (α×β)} {es:List MapEntry} {j:Nat} {a:β} (h:es.map (fun e=>(e.key,e.val))=m.map (kT_ encK encV)) (hf:fndG k m 0=some (j,a)): ∃e,es[j]? =some e∧e.key=encK k:=by
 obtain⟨-,a',h1,rfl⟩:=JZ_ k m 0 j a hf
 rw[Nat.sub_zero] at h1
 have:=congrArg (·[j]?) h
 simp only[List.getElem?_map,h1,Option.map_some] at this
 cases he:es[j]? with
 |none=>rw[he] at this;cases this
 |some e=>
  rw[he] at this
  simp only[Option.map_some,Option.some.injEq,kT_,Prod.mk.injEq] at this
  exact⟨e,rfl,this.1⟩
theorem KeyOk.int {P:Program} {kt:TypeId} {k0:IntKind} (hu:P.underlying kt=some (.int k0)):KeyOk P kt vi where
 find encV w k es m h:=by
  simp only[Instr.findKey,Sem.run_bind,run_underlying hu w,Result.andThen_ok]
  rw[aab_ (encK:=vi) (fun a b=>by simp[Instr.sameNow,vi]) k es m 0 h]
  rfl
 check w e k:=by
  unfold Instr.checkKey
  simp only[Sem.run_bind,run_underlying hu w,Result.andThen_ok]
  rfl
 bits k:=by simp[vi,Instr.sameBits]
variable {P:Program} {w0:World} {f:Fr} {L:zc_} {N:Fr→zc_→Prop} {ops:Array Oper} {rest:List Oper} {md:Md}
 {d:Option Tmp} {ty:TypeId} {ps:String} {af:Array Edge} {g:Option (Nat×Bool)}
omit [BEq α] [LawfulBEq α] in
theorem Ow.makeMapG {t:TypeId} {md':Md} (he:md.turn=some md') (hs:zo_ ops f ⟨d, .makeMap t none,ty,ps,af,g⟩=false)
  (hn: ∀b o,xt_ L b→w0.heap.size≤b→MapG encK encV o []→Ow P w0 ops md' rest (qU_ f d (vm b)) (L++ [(b,o)]) N):
  Ow P w0 ops md (⟨d, .makeMap t none,ty,ps,af,g⟩::rest) f L N:=by
 refine Ow.step he rfl hs fun w hw=> .inl ⟨vm w.heap.size,w.alloc (.map #[] 0),_, ?_,hw.alloc _,hn _ _ (qO_ fun b hb=>hw.lt hb) hw.size ⟨#[],0,rfl,rfl,List.pairwise_singleton _ _⟩⟩
 simp only[execOp,Instr.makeMap,Sem.run_bind,Option.map_none]
 rfl
theorem Ow.mapUpdateG {t kt vt:TypeId} {x y z:Operand} {b:Nat} {o:Obj} {m:List (α×β)} {k:α} {v:β} {md':Md} (he:md.turn=some md') (hs:zo_ ops f ⟨d, .mapUpdate t x y z,ty,ps,af,g⟩=false) (hu:P.underlying t=some (.map kt vt)) (hk:KeyOk P kt encK)
  (hx:ev f x=vm b) (hy:ev f y=encK k) (hz:ev f z=encV v) (hl:look L b=some o) (hm:MapG encK encV o m)
  (hn: ∀o',MapG encK encV o' (updG k v m)→Ow P w0 ops md' rest (qU_ f d undef) (setB L b o') N):
  Ow P w0 ops md (⟨d, .mapUpdate t x y z,ty,ps,af,g⟩::rest) f L N:=by
 obtain⟨es,c,rfl,hes,hbo⟩:=hm
 refine Ow.step he rfl hs fun w hw=> ?_
 have hb:=hw.has _ _ (zL_ hl)
 have hfk:=hk.find encV w k es.toList m hes
 cases hf:fndG k m 0 with
 |none=>
  rw[hf] at hfk
  refine .inr (.inl ⟨{w with heap:=w.heap.setIfInBounds b (.map (es.push {key:=encK k,val:=encV v,born:=c}) (c+1))},_, ?_,hw.set (zr_ hl) rfl rfl rfl rfl,hn _ ⟨_,_,rfl, ?_,by rw[Array.toList_push];exact WJ_ hbo rfl⟩⟩)
  ·have: (Instr.mapUpdate t (vm b) (encK k) (encV v)).run P w= .ok () {w with heap:=w.heap.setIfInBounds b (.map (es.push {key:=encK k,val:=encV v,born:=c}) (c+1))}:=by
    simp only[Instr.mapUpdate,vm,Sem.run_bind,run_underlying hu w,Result.andThen_ok,jT_ hb,hk.check,hfk,Option.map_none,we_ hb]
   simp only[execOp,Sem.run_bind,hx,hy,hz]
   rw[this];rfl
  ·rw[aai_ k v m 0 hf,Array.toList_push,List.map_append,hes,List.map_append];rfl
 |some p=>
  obtain⟨j,a⟩:=p
  rw[hf] at hfk
  obtain⟨e,hej,hek⟩:=aiR_ hes hf
  have hej':es[j]? =some e:=by simpa using hej
  have hkt: (Instr.keyThatStays (((es[j]?).map (·.key)).getD (encK k)) (encK k)).run P w= .ok (encK k) w:=by
   rw[hej',Option.map_some,Option.getD_some,hek]
   unfold Instr.keyThatStays
   rw[if_pos (hk.bits k)];rfl
  refine .inr (.inl ⟨{w with heap:=w.heap.setIfInBounds b (.map (es.modify j fun e=>{e with key:=encK k,val:=encV v}) c)},_, ?_,hw.set (zr_ hl) rfl rfl rfl rfl,hn _ ⟨_,_,rfl, ?_,by rw[Array.toList_modify,JG_ (g:=fun e=>{e with key:=encK k,val:=encV v}) fun _=>rfl];exact hbo⟩⟩)
  ·have: (Instr.mapUpdate t (vm b) (encK k) (encV v)).run P w= .ok () {w with heap:=w.heap.setIfInBounds b (.map (es.modify j fun e=>{e with key:=encK k,val:=encV v}) c)}:=by
    simp only[Instr.mapUpdate,vm,Sem.run_bind,run_underlying hu w,Result.andThen_ok,jT_ hb,hk.check,hfk,Option.map_some,hkt,we_ hb]
   simp only[execOp,Sem.run_bind,hx,hy,hz]
   rw[this];rfl
  ·rw[Array.toList_modify]
   have:=VK_ k v es.toList m 0 j a hes hf
   rw[Nat.sub_zero] at this
   exact this
omit [LawfulBEq α] in
end
section
variable {P:Program} {w0:World} {f:Fr} {L:zc_} {N:Fr→zc_→Prop} {ops:Array Oper} {rest:List Oper} {md:Md} {d:Option Tmp} {ty:TypeId} {ps:String} {af:Array Edge} {g:Option (Nat×Bool)}
end
end Go.Sx
namespace Go.Sx
open Go
section
variable {P:Program} {w0:World} {l:List Oper} {R ts:List Nat} {n:Nat} {listed:List Bool} {f:Fr} {L:zc_} {N:Fr→zc_→Prop}
def OwG (P:Program) (w0:World) (l:List Oper) (R ts:List Nat) (n:Nat) (listed:List Bool) (f:Fr) (L:zc_) (N:Fr→zc_→Prop):Prop:=
 ∀w,Hp w0 L w→xu_ P l.toArray (jp_ w0 N) ts (SR w0 R L) n listed.toArray (act f) w
def chkG (P:Program) (l:List Oper) (ts:List Nat):List Nat→List Bool→Option (List Bool)
 | [],listed=>some listed
 |k::is,listed=>
  match kW_ l k with
  |some o=>if !ts.contains k&& (ts.all fun t=> !listed.toArray.getD t true)&& (Region.ready .any l.toArray listed.toArray).contains k&&Region.free .any l.toArray listed.toArray k&&
    (xq_ P o.op|| (Xn_ o.op&&JN_ l.toArray ts listed.toArray k)) then chkG P l ts is (listed.set k true) else none
  |none=>none
theorem OwG.step {k:Nat} {o:Oper} {v:Value} (hns:Region.noSelect l.toArray=true) (hk:kW_ l k=some o) {rest:List Bool} (hc:chkG P l ts [k] listed=some rest)
  (hY:YieldsC P l.toArray (SR w0 R L) (xq_ P o.op=true) o v (act f)) (h:OwG P w0 l R ts n rest (qU_ f o.dst v) L N):OwG P w0 l R ts (n+1) listed f L N:=by
 have hoi:l.toArray[k]? =some o:=by rw[xl_] at hk;simpa using hk
 unfold chkG at hc
 rw[hk] at hc
 simp only at hc
 split at hc
 ·rename_i hcc
  simp only[chkG,Option.some.injEq] at hc
  subst hc
  simp only[Bool.and_eq_true,Bool.or_eq_true,Bool.not_eq_true',List.all_eq_true,List.contains_eq_mem,decide_eq_true_eq,decide_eq_false_iff_not] at hcc
  obtain⟨⟨⟨⟨c2,c3⟩,c4⟩,c5⟩,c9⟩:=hcc
  have hsel:=Region.noSelect_spec hns
  intro w hw
  refine k1_ hoi c2 hsel (fun c a w h=>zS_ h) _ _ _ _ (xC_ (P:=P) hoi c4 c5 (c9.imp id fun h=>⟨h.1,h.2,fun t ht=>c3 t ht⟩)) (.inr fun t ht=>c3 t ht) hY ?_
  rw[z7_,qk_]
  exact h w hw
 ·cases hc
theorem af1_ {k:Nat} {is:List Nat} {listed listed':List Bool} (h:chkG P l ts (k::is) listed=some listed'):chkG P l ts [k] listed=some (listed.set k true)∧chkG P l ts is (listed.set k true)=some listed':=by
 rw[chkG] at h
 cases ho:kW_ l k with
 |none=>rw[ho] at h;cases h
 |some o=>
  rw[ho] at h
  simp only at h
  split at h
  ·rename_i hcc
   refine⟨?_,h⟩
   rw[chkG,ho]
   simp only
   rw[if_pos hcc];rfl
  ·cases h
theorem OwG.runs {k:Md→List Oper→Fr→zc_→Prop} (hns:Region.noSelect l.toArray=true): ∀ (is:List Nat) {listed listed':List Bool} {f:Fr} {L:zc_},chkG P l ts is listed=some listed'→
  (∀md r f' L',k md r f' L'→r= []∧OwG P w0 l R ts n listed' f' L' N)→vcL P w0 l.toArray false (.sof R [] []) (xs_ l is) f L k→OwG P w0 l R ts (is.length+n) listed f L N
 | [],listed,listed',f,L,hc,hk,h=>by
  cases hc
  rw[List.length_nil,Nat.zero_add]
  exact(hk _ _ _ _ h).2
 |i::is,listed,listed',f,L,hc,hk,h=>by
  obtain⟨hc1,hc2⟩:=af1_ hc
  rw[zb_] at h
  cases ho:kW_ l i with
  |none=>unfold chkG at hc1;rw[ho] at hc1;cases hc1
  |some o=>
   rw[ho,za_] at h
   unfold vcL at h
   rw[List.length_cons,show is.length+1+n=(is.length+n)+1 by omega]
   cases hs:zo_ l.toArray f o with
   |true=>
    rw[hs] at h
    have hw0:Region.wanted o (yielded l.toArray (act f).tmps)=false:=by rw[qn_,hs];rfl
    exact OwG.step hns ho hc1 (v:=undef) (.inr ⟨hw0,rfl⟩) (OwG.runs hns is hc2 hk h)
   |false=>
    rw[hs] at h
    have hw0:Region.wanted o (yielded l.toArray (act f).tmps)=true:=by rw[qn_,hs];rfl
    simp only[ib,vcB] at h
    split at h
    ·cases hrd:KJ_ (.sof R [] []) f o.op with
     |false=>rw[hrd] at h;exact absurd (hk _ _ _ _ h).1 (by simp)
     |true=>
      rw[hrd] at h
      simp only at h
      cases hv:ku_ P w0 L f o.op with
      |none=>rw[hv] at h;exact absurd (hk _ _ _ _ h).1 (by simp)
      |some v=>
       rw[hv] at h
       refine OwG.step hns ho hc1 (v:=v) (.inl ⟨hw0,fun w hw=> ?_⟩) (OwG.runs hns is hc2 hk h)
       rw[jr_]
       rcases hw with hp|hw
       ·exact q0_ (Hp.refl w) (xK_ hp hv w)
       ·exact q0_ (Hp.refl w) (wG_ hrd hv hw)
    ·exact absurd (hk _ _ _ _ h).1 (by simp)
    ·exact absurd (hk _ _ _ _ h).1 (by simp)
theorem OwG.run (is:List Nat) (listed':List Bool) (n:Nat) {m:Nat} (hm:m=is.length+n) (hns:Region.noSelect l.toArray=true) (hc:chkG P l ts is listed=some listed')
  (h: ∀k:Md→List Oper→Fr→zc_→Prop,(∀md f L,OwG P w0 l R ts n listed' f L N→k md [] f L)→nl (xs_ l is) fun l'=>vcL P w0 l.toArray false (.sof R [] []) l' f L k):OwG P w0 l R ts m listed f L N:=by
 subst hm
 refine OwG.runs (k:=fun _ r f' L'=>r= []∧OwG P w0 l R ts n listed' f' L' N) hns is hc (fun _ _ _ _ h=>h) ?_
 exact h _ fun _ _ _ h=>⟨rfl,h⟩
def adi_ (l:List Oper) (ts:List Nat) (ks:List Nat) (listed:List Bool):Bool:=
 ((Region.ready .any l.toArray listed.toArray).all fun i=>ks.contains i)&& (Region.ready .any l.toArray listed.toArray != [])&&ks.all fun k=> !ts.contains k
theorem OwG.softs (ks:List Nat) (hs:adi_ l ts ks listed=true)
  (h: ∀k,k∈ks→ ∀o,kW_ l k=some o→Ow P w0 l.toArray .seq [o] f L (fun f' L'=>(∀r,r∈R→zv_ w0 L' r=zv_ w0 L r)∧OwG P w0 l R ts n (listed.set k true) f' L' N)):
  OwG P w0 l R ts (n+1) listed f L N:=by
 unfold adi_ at hs
 simp only[Bool.and_eq_true,List.all_eq_true,bne_iff_ne,ne_eq,List.contains_eq_mem,decide_eq_true_eq,Bool.not_eq_true',decide_eq_false_iff_not] at hs
 obtain⟨⟨c3,c4⟩,c6⟩:=hs
 intro w hw
 refine⟨fun _=>SR.of hw,fun hr=>absurd hr c4,fun i hi=> ?_⟩
 have hik:=c3 i hi
 obtain⟨-,oi,hoi,-⟩:=mem_ready.1 hi
 have hni:kW_ l i=some oi:=by rw[xl_];simpa using hoi
 refine wN_ hoi (X:=xu_ P l.toArray (jp_ w0 N) ts (SR w0 R L) n (listed.toArray.setIfInBounds i true)) ?_ hw
 intro w' hw'
 have h1:=h i hik oi hni w' hw'
 refine kj_ ?_ h1
 rintro f' L' ⟨hS,hO⟩ w'' hw''
 rw[v9_ hS,qk_]
 exact hO w'' hw''
theorem OwG.one (i:Nat) (oi:Oper) (hs:adi_ l ts [i] listed=true) (hi:kW_ l i=some oi)
  (h:Ow P w0 l.toArray .seq [oi] f L (fun f' L'=>(∀r,r∈R→zv_ w0 L' r=zv_ w0 L r)∧OwG P w0 l R ts n (listed.set i true) f' L' N)):OwG P w0 l R ts (n+1) listed f L N:=
 OwG.softs [i] hs fun k hk o ho=>by
  rw[List.mem_singleton] at hk
  subst hk
  rw[hi] at ho
  cases ho
  exact h
theorem OwG.two (i j:Nat) (oi oj:Oper) (hs:adi_ l ts [i,j] listed=true) (hi:kW_ l i=some oi) (hj:kW_ l j=some oj)
  (h1:Ow P w0 l.toArray .seq [oi] f L (fun f' L'=>(∀r,r∈R→zv_ w0 L' r=zv_ w0 L r)∧OwG P w0 l R ts n (listed.set i true) f' L' N))
  (h2:Ow P w0 l.toArray .seq [oj] f L (fun f' L'=>(∀r,r∈R→zv_ w0 L' r=zv_ w0 L r)∧OwG P w0 l R ts n (listed.set j true) f' L' N)):OwG P w0 l R ts (n+1) listed f L N:=
 OwG.softs [i,j] hs fun k hk o ho=>by
  simp only[List.mem_cons,List.not_mem_nil,or_false] at hk
  rcases hk with rfl|rfl
  ·rw[hi] at ho;cases ho;exact h1
  ·rw[hj] at ho;cases ho;exact h2
theorem OwG.permL {M:zc_} (hp:M.Perm L) (hR: ∀r,r∈R→zv_ w0 M r=zv_ w0 L r) (h:OwG P w0 l R ts n listed f M N):OwG P w0 l R ts n listed f L N:=by
 intro w hw
 rw[v9_ hR]
 exact h w (hw.perm hp)
def amF_ (P:Program) (l:List Oper) (is ts:List Nat) (listed:List Bool):Bool:=
 Region.noSelect l.toArray&&Z9_ P l.toArray ts is listed.toArray&&ts.all fun t=> !listed.toArray.getD t true
theorem OwG.rest (is:List Nat) {m:Nat} (hm:m=is.length) (hB:amF_ P l is ts listed=true) (hl:is.map (fun i:Nat=>l[i]?)=(xs_ l is).map some)
  (h:nl (xs_ l is) fun l'=>Ow P w0 l.toArray (.sof R is ts) l' f L N):OwG P w0 l R ts m listed f L N:=by
 subst hm
 revert hl h
 generalize xs_ l is=l'
 intro hl h w hw
 simp only[amF_,Bool.and_eq_true,List.all_eq_true,Bool.not_eq_true'] at hB
 obtain⟨⟨h1,h4⟩,h5⟩:=hB
 have hlen:is.length=l'.length:=by have:=congrArg List.length hl;simpa using this
 have hF:Fits P l.toArray ts is l' listed.toArray:=⟨hlen,fun j=>by
  have:=congrArg (·[j]?) hl
  simp only[List.getElem?_map] at this
  cases hj:is[j]? with
  |none=>
   rw[hj] at this
   simp only[Option.map_none] at this
   cases hj':l'[j]? with
   |none=>rfl
   |some x=>rw[hj'] at this;cases this
  |some i=>
   rw[hj] at this
   simp only[Option.map_some] at this
   cases hj':l'[j]? with
   |none=>rw[hj'] at this;cases this
   |some x=>
    rw[hj'] at this
    simp only[Option.map_some,Option.some.injEq] at this
    simp[this],h1,h4⟩
 rw[hlen]
 exact(h:Ow P w0 l.toArray (.sof R is ts) l' f L N) listed.toArray hF (fun t ht=>h5 t ht) w hw
end
def CutO {G:Type} (M:List Nat) (S:G→List (Nat×Value)) (H:G→zc_) (J:G→Prop) (f f':Fr) (L':zc_):Prop:=
 ∃g,J g∧L'=H g∧f'=pin (qP_ (wp_ f') M 0 f) (S g)
theorem CutO.mk {G:Type} {M:List Nat} {S:G→List (Nat×Value)} {H:G→zc_} {J:G→Prop} {f f':Fr} {L':zc_} (g:G) (hJ:J g) (hL:L'=H g) (hf:f'=pin (qP_ (wp_ f') M 0 f) (S g)):CutO M S H J f f' L':=⟨g,hJ,hL,hf⟩
theorem Cw.cutO {P:Program} {w0:World} {x y:Code} {f:Fr} {L:zc_} {K:xN_} {G:Type} (M:List Nat) (S:G→List (Nat×Value)) (H:G→zc_) (J:G→Prop) (h1:Cw P w0 x f L (vD_ (CutO M S H J f) K))
  (h2: ∀ (g:G) (j:Nat→Value),J g→Cw P w0 y (pin (qP_ j M 0 f) (S g)) (H g) K):Cw P w0 (.seq x y) f L K:=by
 refine Cw.seq (h1.mono fun e f' L' k=> ?_)
 cases e with
 |normal=>
  obtain⟨g,hJ,rfl,hf⟩:=k
  have:=h2 g (wp_ f') hJ
  rw[←hf] at this
  exact this
 |_=>exact k
end Go.Sx
section
open Go Go.Proofs Go.Sx Go.StP
namespace Go.Proofs
set_option maxRecDepth 10000
set_option maxHeartbeats 1000000
set_option linter.unusedSimpArgs false
theorem ajr_ (s:List UInt8) (v1:Value) (F:List Nat) (n d:Nat) (hd:d<F.length):zp_ (some (false,n)) (some (ixO s v1 F)) (2+d)=some (vi ((F.getD d 0:Nat):Int)):=by
 unfold ixO zp_
 simp only[List.getElem?_toArray]
 rw[List.getElem?_append_right (by simp),show 2+d - [vs s,v1].length=d from by simp,List.getElem?_map,List.getElem?_eq_getElem hd,List.getD_eq_getElem?_getD,List.getElem?_eq_getElem hd]
 rfl
theorem agx_ (s:List UInt8) (v1:Value) (F:List Nat) (d x:Nat) (a:Bool) (hd:d<F.length):zn_ (some (a,1)) (some (ixO s v1 F)) (2+d) (vi (x:Int))=some (ixO s v1 (F.set d x)):=by
 have e1: ([vs s,v1]++ (F.map fun(n:Nat)=>vi (n:Int)))=([vs s,v1]++ (F.take d).map (fun(n:Nat)=>vi (n:Int)))++ ([vi ((F.getD d 0:Nat):Int)]++ (F.drop (d+1)).map (fun(n:Nat)=>vi (n:Int))):=by
  have hF:F=F.take d++ (F.getD d 0::F.drop (d+1)):=by rw[←drop_cons (z:=0) hd,List.take_append_drop]
  conv=>lhs;rw[hF]
  simp
 have e2: ([vs s,v1]++ ((F.set d x).map fun(n:Nat)=>vi (n:Int)))=([vs s,v1]++ (F.take d).map (fun(n:Nat)=>vi (n:Int)))++ ([vi (x:Int)]++ (F.drop (d+1)).map (fun(n:Nat)=>vi (n:Int))):=by
  rw[List.set_eq_take_append_cons_drop,if_pos hd]
  simp
 unfold ixO
 rw[e1,e2]
 exact z4_ _ [vi ((F.getD d 0:Nat):Int)] [vi (x:Int)] _ a _ 205 (by simp;omega) rfl rfl rfl rfl
theorem zrIx:zZ_ Tryz.prog 205=some (.agg ([vs [], .slice none 0 0]++ (List.replicate 16 0).map fun(n:Nat)=>vi (n:Int)).toArray):=id (by kernel_rfl)
theorem an8_:vo_ Tryz.prog 205=some [(0,1),(1,1),(2,16)]:=id (by kernel_rfl)
theorem ahY_ {w:World} {v1:Value} {l:List RwL} (s:List UInt8) (hv:RwSl w v1 l):ql_ (vo_ Tryz.prog 205) (zZ_ Tryz.prog 205) [(0,vs s),(1,v1)]=some (.agg ([vs s,v1]++ (kw_ []).map fun(n:Nat)=>vi (n:Int)).toArray):=by
 rw[an8_,zrIx]
 obtain⟨b,off,c,arr,E,fz,hr,hc,⟨rfl,rfl,rfl⟩ | ⟨rfl,hb,hsz⟩⟩:=hv<;>rfl
theorem anL_ (s:List UInt8) (v1:Value) (F:List Nat):Obj.cells (Value.cells (.agg ([vs s,v1]++F.map fun(n:Nat)=>vi (n:Int)).toArray)) 205 (0,0)=ixO s v1 F:=(rfl)
theorem J6_ {l:List RwL} {k:Nat}: ∀ {n:Nat},k<n→Zt_ l n=true→Zt_ l (k+1)=true
 |0,h,_=>by omega
 |n+1,h,h'=>by
  by_cases hk:k=n
  ·subst hk;exact h'
  ·refine J6_ (n:=n) (by omega) ?_
   unfold Zt_ at h'
   simp only[Bool.and_eq_true] at h'
   exact h'.1.1
def OfIS (s:List UInt8) (v1:Value) (l:List RwL) (v:Value) (D:zc_):Prop:=
 if Zt_ l l.length=true then∃b,v= .tuple #[vp b 0, .bool (decide (s.length=4)&&decide (l.length≤200))]∧(b,ixO s v1 (kw_ l))∈D else v= .tuple #[.pointer none, .bool false]
structure OfG where
 k:Nat
 DG:zc_
set_option linter.defProp false
def zK_:=And.intro (And.intro (And.intro (@zf_) (@ze_)) (And.intro (@qB_) (And.intro (@xk_) (@xF_)))) (And.intro (And.intro (@ke_) (@kh_)) (And.intro (@q1_) (And.intro (@Sx.tup2_0) (@Sx.tup2_1))))
theorem adv_ (s:List UInt8) (v1:Value) (l:List RwL) (w:World) (hv:RwSl w v1 l) (hl:l.length<1000000):
  Rets Tryz.prog 122 #[vs s,v1] w (XS w [] (OfIS s v1 l)):=by
 obtain⟨bb,off,arr,E,fz,hr⟩:=hv.row
 have ln:=hv.len
 refine Rets.enterX Tryz.func122 rfl (rs:= [.tmp 4, .tmp 5]) Tryz.results122 Tryz.ntmps122 (fun p hp=>by cases hp) (by simp[keys]) ?_
 refine kf ?_
 first|with_reducible refine ks [] @zK_ ?_|refine kp @zK_ ?_
 refine Ow.build _ rfl (ahY_ s hv) ?_
 refine ko @zK_ ?_
 refine Ow.box rfl rfl fun b6 hb6 hw6=> ?_
 simp only[jt_,jm_,jn_,anL_,List.nil_append]
 refine Ow.permL (M:= [(b6,ixO s v1 (kw_ []))]) (List.Perm.refl _) ?_
 refine ko @zK_ ?_
 first|with_reducible refine ks [] (And.intro @zK_ @ln) ?_|refine kp (And.intro @zK_ @ln) ?_
 rw[show kw_ []=kw_ (l.take 0) from rfl]
 refine Cw.loopG (G:=OfG) [17,18,19,20,8,7,21,22,23,24,25,26,27,28,29,30,31,32,33,34,35,36,37,38,39,40,41,42,43,44,45,46,47,48,49,50,51,52,4,5,53,54,55,9,56,57,60,61,62,63,64,65,66,67,68,69,58,59,70,16] (fun g=> [(16,vi g.k)]) (fun g=>(b6,ixO s v1 (kw_ (l.take g.k)))::g.DG) (fun g=>g.k≤l.length∧Zt_ l g.k=true∧New w.heap.size g.DG) (fun g=>l.length - g.k) ⟨0,[]⟩ rfl rfl ?_ ?_
 ·exact⟨Nat.zero_le _,rfl,trivial⟩
 intro g j hg
 refine kv ?_
 obtain⟨k,DG⟩:=g
 simp only at hg ⊢
 obtain⟨hk,hok,hNG⟩:=hg
 by_cases hlt:k<l.length
 ·have d1:decide ((k:Int)< (l.length:Int))=true:=decide_eq_true (by omega)
  have hbl:=hr.lt (by omega)
  have hNr:New w.heap.size ((b6,ixO s v1 (kw_ (l.take k)))::DG):=⟨hw6,hNG⟩
  have rd:zv_ w ((b6,ixO s v1 (kw_ (l.take k)))::DG) bb=some (.cells arr E fz):=by rw[z8_ (hNr.not hbl)];exact hr.has (by omega)
  have ix:=hr.idx true k hlt
  have ld:=hr.load zT_ (by omega) hlt
  first|with_reducible refine ks [11,1000005] (And.intro @zK_ (And.intro @d1 (And.intro @rd (And.intro @ix (@ld))))) ?_|refine kp (And.intro @zK_ (And.intro @d1 (And.intro @rd (And.intro @ix (@ld))))) ?_
  refine Ow.alloc rfl rfl zrRw fun b8 hb8 hw8=> ?_
  simp only[zg_,List.nil_append,List.cons_append]
  have h68:b6<b8:=zs_ hb8 (by simp[keys])
  refine Ow.permL (M:=(b8, .cells (rwC rw0).toArray 132 (0,0)):: (b6,ixO s v1 (kw_ (l.take k)))::DG) (by classical exact List.perm_iff_count.2 fun a=>by simp only[List.count_append,List.count_cons,List.count_nil]<;>omega) ?_
  have htk:l.take (k+1)=l.take k++ [l.getD k rw0]:=take_snoc (z:=rw0) hlt
  have hok1:Zt_ l (k+1)=((decide (k=0) ||decide (wQ_ (l.getD (k - 1) rw0).id (l.getD k rw0).id<0))&&qv_ (l.getD k rw0)):=by show(Zt_ l k&&_&&_)=_;rw[hok,Bool.true_and]
  have hno:Zt_ l (k+1)=false→ ¬Zt_ l l.length=true:=fun h h'=>by rw[J6_ hlt h'] at h;cases h
  generalize hrr:l.getD k rw0=r at*
  have hN8:New w.heap.size ((b8,Obj.cells (rwC r).toArray 132 (0,0)):: (b6,ixO s v1 (kw_ (l.take k)))::DG):=⟨hw8,hNr⟩
  have rd8:zv_ w ((b8,Obj.cells (rwC r).toArray 132 (0,0)):: (b6,ixO s v1 (kw_ (l.take k)))::DG) bb=some (.cells arr E fz):=by rw[z8_ (hN8.not hbl)];exact hr.has (by omega)
  refine ko @zK_ ?_
  refine Cw.cutO (G:=Unit) [21,22,23,24,25,26,27,28,29,30,31,32,33,34,35,36,37,38,39,40,41,42,43,44,45,46,47,48,49,50,51,52] (fun g=> []) (fun g=>(b8, .cells (rwC r).toArray 132 (0,0)):: (b6,ixO s v1 (kw_ (l.take k)))::DG) (fun g=>Zt_ l (k+1)=true) ?_ ?_
  ·rcases Nat.eq_zero_or_pos k with rfl|hk0
   ·have d5:decide ((0:Int)< ((0:Nat):Int))=false:=rfl
    have hok2:Zt_ l (0+1)=qv_ r:=by rw[hok1,decide_eq_true (rfl:0=0),Bool.true_or,Bool.true_and]
    first|with_reducible refine ks [] @zK_ ?_|refine kp @zK_ ?_
    refine Cw.regionS [b8,bb] [0,1,2,3,4,5,6,7,8,9,10,11,12,13,14,15,16,17,18,19,20,21,22,23,24,25,26,27,28,29,30,31] [] (by kernel_rfl) (by kernel_rfl) (by kernel_rfl) ?_
    simp only[zh_, ↓zd_, ↓zb_, ↓zl_, ↓zm_,za_]
    cases p1:decide (r.place<0) with
    |true=>
     have hbad:=hok2.trans (show qv_ r=false by simp[qv_,p1])
     refine kq (And.intro @zK_ (And.intro @d5 (@p1))) ?_
     first|with_reducible refine ks [] @zK_ ?_|refine kp @zK_ ?_
     refine⟨_,(ke @zK_), ?_⟩
     refine⟨Ext.of_new hN8, ?_⟩
     unfold OfIS
     rw[if_neg (hno hbad)]
     rfl
    |false=>
     cases p2:decide (1099511627775<r.place) with
     |true=>
      have hbad:=hok2.trans (show qv_ r=false by simp[qv_,p2])
      refine kq (And.intro @zK_ (And.intro @d5 (And.intro @p1 (@p2)))) ?_
      first|with_reducible refine ks [] @zK_ ?_|refine kp @zK_ ?_
      refine⟨_,(ke @zK_), ?_⟩
      refine⟨Ext.of_new hN8, ?_⟩
      unfold OfIS
      rw[if_neg (hno hbad)]
      rfl
     |false=>
      cases p3:decide (r.spot<0) with
      |true=>
       have hbad:=hok2.trans (show qv_ r=false by simp[qv_,p3])
       refine kq (And.intro @zK_ (And.intro @d5 (And.intro @p1 (And.intro @p2 (@p3))))) ?_
       first|with_reducible refine ks [] @zK_ ?_|refine kp @zK_ ?_
       refine⟨_,(ke @zK_), ?_⟩
       refine⟨Ext.of_new hN8, ?_⟩
       unfold OfIS
       rw[if_neg (hno hbad)]
       rfl
      |false=>
       cases p4:decide (1099511627775<r.spot) with
       |true=>
        have hbad:=hok2.trans (show qv_ r=false by simp[qv_,p4])
        refine kq (And.intro @zK_ (And.intro @d5 (And.intro @p1 (And.intro @p2 (And.intro @p3 (@p4)))))) ?_
        first|with_reducible refine ks [] @zK_ ?_|refine kp @zK_ ?_
        refine⟨_,(ke @zK_), ?_⟩
        refine⟨Ext.of_new hN8, ?_⟩
        unfold OfIS
        rw[if_neg (hno hbad)]
        rfl
       |false=>
        refine kq (And.intro @zK_ (And.intro @d5 (And.intro @p1 (And.intro @p2 (And.intro @p3 (@p4)))))) ?_
        exact CutO.mk () (by rw[hok2];simp[qv_,p1,p2,p3,p4]) rfl rfl
   ·have d5:decide ((0:Int)< (k:Int))=true:=decide_eq_true (by omega)
    have hki: (k:Int) - 1=((k - 1:Nat):Int):=by omega
    have ix':=hr.idx true (k - 1) (by omega)
    have ld':=hr.load zT_ (by omega) (k:=k - 1) (by omega)
    rw[decide_eq_false (show¬k=0 by omega),Bool.false_or] at hok1
    first|with_reducible refine ks [] @zK_ ?_|refine kp @zK_ ?_
    refine Cw.regionS [b8,bb] [0,1,2,3,4,5,6,7,8,9,10,11,12,13,14,15,16,17,18,19,20,21,22,23,24,25,26,27,28,29,30,31] [] (by kernel_rfl) (by kernel_rfl) (by kernel_rfl) ?_
    simp only[zh_, ↓zd_, ↓zb_, ↓zl_, ↓zm_,za_]
    refine kq (And.intro @zK_ (And.intro @d5 (And.intro @hki (And.intro @ix' (And.intro @ld' (@rd8)))))) ?_
    refine Ow.soft rfl rfl rfl ?_
    refine Ow.callFV rfl Tryz.call121 (fun w' hw'=>X6_ (l.getD (k - 1) rw0) r w') ?_
    with_reducible refine Ow.nil ?_
    refine⟨by intro b hb;simp only[List.mem_cons,List.not_mem_nil,or_false] at hb;(try subst hb);rfl, ?_⟩
    generalize wQ_ (l.getD (k - 1) rw0).id r.id=c at*
    by_cases hc:c<0
    ·have d6:decide (0≤c)=false:=decide_eq_false (by omega)
     have hok2:Zt_ l (k+1)=qv_ r:=by rw[hok1,decide_eq_true hc,Bool.true_and]
     cases p1:decide (r.place<0) with
     |true=>
      have hbad:=hok2.trans (show qv_ r=false by simp[qv_,p1])
      refine kq (And.intro @zK_ (And.intro @d6 (@p1))) ?_
      first|with_reducible refine ks [] @zK_ ?_|refine kp @zK_ ?_
      refine⟨_,(ke @zK_), ?_⟩
      refine⟨Ext.of_new hN8, ?_⟩
      unfold OfIS
      rw[if_neg (hno hbad)]
      rfl
     |false=>
      cases p2:decide (1099511627775<r.place) with
      |true=>
       have hbad:=hok2.trans (show qv_ r=false by simp[qv_,p2])
       refine kq (And.intro @zK_ (And.intro @d6 (And.intro @p1 (@p2)))) ?_
       first|with_reducible refine ks [] @zK_ ?_|refine kp @zK_ ?_
       refine⟨_,(ke @zK_), ?_⟩
       refine⟨Ext.of_new hN8, ?_⟩
       unfold OfIS
       rw[if_neg (hno hbad)]
       rfl
      |false=>
       cases p3:decide (r.spot<0) with
       |true=>
        have hbad:=hok2.trans (show qv_ r=false by simp[qv_,p3])
        refine kq (And.intro @zK_ (And.intro @d6 (And.intro @p1 (And.intro @p2 (@p3))))) ?_
        first|with_reducible refine ks [] @zK_ ?_|refine kp @zK_ ?_
        refine⟨_,(ke @zK_), ?_⟩
        refine⟨Ext.of_new hN8, ?_⟩
        unfold OfIS
        rw[if_neg (hno hbad)]
        rfl
       |false=>
        cases p4:decide (1099511627775<r.spot) with
        |true=>
         have hbad:=hok2.trans (show qv_ r=false by simp[qv_,p4])
         refine kq (And.intro @zK_ (And.intro @d6 (And.intro @p1 (And.intro @p2 (And.intro @p3 (@p4)))))) ?_
         first|with_reducible refine ks [] @zK_ ?_|refine kp @zK_ ?_
         refine⟨_,(ke @zK_), ?_⟩
         refine⟨Ext.of_new hN8, ?_⟩
         unfold OfIS
         rw[if_neg (hno hbad)]
         rfl
        |false=>
         refine kq (And.intro @zK_ (And.intro @d6 (And.intro @p1 (And.intro @p2 (And.intro @p3 (@p4)))))) ?_
         exact CutO.mk () (by rw[hok2];simp[qv_,p1,p2,p3,p4]) rfl rfl
    ·have d6:decide (0≤c)=true:=decide_eq_true (by omega)
     have hbad:Zt_ l (k+1)=false:=by rw[hok1,decide_eq_false hc,Bool.false_and]
     refine kq (And.intro @zK_ @d6) ?_
     first|with_reducible refine ks [] @zK_ ?_|refine kp @zK_ ?_
     refine⟨_,(ke @zK_), ?_⟩
     refine⟨Ext.of_new hN8, ?_⟩
     unfold OfIS
     rw[if_neg (hno hbad)]
     rfl
  ·intro u ju hu
   refine kv ?_
   first|with_reducible refine ks [] @zK_ ?_|refine kp @zK_ ?_
   refine Ow.callFV rfl Tryz.call161 (fun w' hw'=>abl_ r.id w') ?_
   refine ko @zK_ ?_
   rw[←alW_ (l.take k) r]
   refine Cw.loopG (G:=Nat) [56,57,60,61,62,63,64,65,66,67,68,69,58,59,9] (fun g=> [(9,vi g)]) (fun g=>(b8, .cells (rwC r).toArray 132 (0,0)):: (b6,ixO s v1 (VA_ (l.take k) r g))::DG) (fun g=>JP_ r.id≤g∧g≤16) (fun g=>16 - g) (JP_ r.id) rfl rfl ?_ ?_
   ·exact⟨Nat.le_refl _,Nat.le_of_lt (ah5_ _)⟩
   intro g j hg
   refine kv ?_
   obtain⟨hg1,hg2⟩:=hg
   by_cases hgl:g<16
   ·have d7:decide ((g:Int)<16)=true:=decide_eq_true (by omega)
    have lf:=fun n=>ajr_ s v1 (VA_ (l.take k) r g) n g (by rw[QG_];exact hgl)
    rw[ajj_ _ _ hgl] at lf
    have h86:b8≠b6:=by omega
    have sf:=fun a=>agx_ s v1 (VA_ (l.take k) r g) g (ZL_ (l.take k) g+1) a (by rw[QG_];exact hgl)
    rw[ai1_ _ _ hgl hg1,show((ZL_ (l.take k) g+1:Nat):Int)=((ZL_ (l.take k) g:Nat):Int)+1 by omega] at sf
    have hfv:ZL_ (l.take k) g≤k:=by
     have h1:ZL_ (l.take k) g≤ (l.take k).length:=List.countP_le_length
     rw[List.length_take] at h1
     omega
    first|with_reducible refine ks [] (And.intro @zK_ @d7) ?_|refine kp (And.intro @zK_ @d7) ?_
    refine Cw.regionS [b6] [0,1,2,3,4,7,8,5,6,9,10] [10] (by kernel_rfl) (by kernel_rfl) (by kernel_rfl) ?_
    simp only[zh_, ↓zd_, ↓zb_, ↓zl_, ↓zm_,za_]
    refine kq (And.intro @zK_ @lf) ?_
    refine Ow.store rfl rfl rfl (ke (And.intro @zK_ @sf)) ?_
    refine ko @zK_ ?_
    first|with_reducible refine ks [] @zK_ ?_|refine kp @zK_ ?_
    exact Again.mk (G:=Nat) (g+1) (by show 16 - (g+1)<16 - g;omega) ⟨by omega,by omega⟩ rfl rfl
   ·obtain rfl:g=16:=by omega
    have d7:decide (((16:Nat):Int)<16)=false:=rfl
    rw[aj4_,←htk]
    first|with_reducible refine ks [] @zK_ ?_|refine kp @zK_ ?_
    refine Cw.permL (M:=(b6,ixO s v1 (kw_ (l.take (k+1)))):: (b8, .cells (rwC r).toArray 132 (0,0))::DG) (by classical exact List.perm_iff_count.2 fun a=>by simp only[List.count_append,List.count_cons,List.count_nil]<;>omega) ?_
    first|with_reducible refine ks [] @zK_ ?_|refine kp @zK_ ?_
    exact Again.mk ⟨k+1,(b8, .cells (rwC r).toArray 132 (0,0))::DG⟩ (by show l.length - (k+1)<l.length - k;omega) ⟨hlt,hu,hw8,hNG⟩ rfl rfl
 ·obtain rfl:k=l.length:=by omega
  have d1:decide ((l.length:Int)< (l.length:Int))=false:=decide_eq_false (by omega)
  rw[List.take_length]
  by_cases h4:s.length=4
  ·have d2: ((s.length:Int)==4)=true:=by rw[h4];rfl
   first|with_reducible refine ks [] (And.intro @zK_ (And.intro @d1 (And.intro @d2 (@ln)))) ?_|refine kp (And.intro @zK_ (And.intro @d1 (And.intro @d2 (@ln)))) ?_
   refine⟨_,(ke @zK_), ?_⟩
   refine⟨Ext.of_new ⟨hw6,hNG⟩, ?_⟩
   unfold OfIS
   rw[if_pos hok]
   refine⟨b6, ?_,List.mem_cons_self⟩
   have e:decide ((l.length:Int)≤200)=decide (l.length≤200):=decide_eq_decide.2 (by omega)
   rw[decide_eq_true h4,Bool.true_and,←e];rfl
  ·have d2: ((s.length:Int)==4)=false:=beq_eq_false_iff_ne.2 (by omega)
   first|with_reducible refine ks [] (And.intro @zK_ (And.intro @d1 (And.intro @d2 (@ln)))) ?_|refine kp (And.intro @zK_ (And.intro @d1 (And.intro @d2 (@ln)))) ?_
   refine⟨_,(ke @zK_), ?_⟩
   refine⟨Ext.of_new ⟨hw6,hNG⟩, ?_⟩
   unfold OfIS
   rw[if_pos hok]
   exact⟨b6,by rw[decide_eq_false h4,Bool.false_and];rfl,List.mem_cons_self⟩
end Go.Proofs
end
section
open Go Go.Proofs Go.Sx Go.StP
namespace Go.Proofs
set_option maxRecDepth 10000
set_option maxHeartbeats 4000000
set_option linter.unusedSimpArgs false
structure ComL where
 tree:IdL
 par:List IdL
 text:List UInt8
def wP_ (t:IdL) (p:Value) (x:List UInt8):List Value:=t.l.map v8++ ([p]++ [vs x])
theorem acY_ (t:IdL) (p:Value) (x:List UInt8): (wP_ t p x).length=34:=by simp[wP_,t.h]
theorem xO_ (t:IdL) (p:Value) (x:List UInt8):Value.cells (.agg (wP_ t p x).toArray)=(wP_ t p x).toArray:=zg_ _
theorem vQ_ (t:IdL) (p:Value) (x:List UInt8) (E:TypeId) (fz:Nat×Nat):zp_ (some (true,32)) (some (.cells (wP_ t p x).toArray E fz)) 0=some (.agg (a8 t.l)):=by
 unfold wP_;exact va_ [] _ _ E fz rfl (by simp[t.h])
theorem vX_ (t:IdL) (p:Value) (x:List UInt8) (n:Nat) (E:TypeId) (fz:Nat×Nat):zp_ (some (false,n)) (some (.cells (wP_ t p x).toArray E fz)) 32=some p:=by
 unfold wP_;exact q6_ _ _ p n E fz (by simp[t.h])
theorem v0_ (t:IdL) (p:Value) (x:List UInt8) (n:Nat) (E:TypeId) (fz:Nat×Nat):zp_ (some (false,n)) (some (.cells (wP_ t p x).toArray E fz)) 33=some (vs x):=by
 have e:wP_ t p x=(t.l.map v8++ [p])++ ([vs x]++ []):=by unfold wP_;simp only[List.append_assoc,List.append_nil]
 rw[e];exact q6_ _ _ (vs x) n E fz (by simp[t.h])
theorem w0_ (t:IdL) (p:Value) (x:List UInt8) (E:TypeId) (fz:Nat×Nat):zp_ (some (true,34)) (some (.cells (wP_ t p x).toArray E fz)) 0=some (.agg (wP_ t p x).toArray):=xB_ _ E fz 34 (by rw[List.size_toArray,acY_])
def anu_ (l:List IdL) (i:Nat):Bool:= !((l.take i).any fun y=>(l.getD i id0).l==y.l)
def amt_ (c:ComL):Bool:=(decide (c.par.length≤4)&&decide (c.text.length≤64))&& (List.range c.par.length).all (anu_ c.par)
abbrev ComS (w:World) (v:Value) (c:ComL):Prop:= ∃p,v= .agg (wP_ c.tree p c.text).toArray∧IdS w p c.par
theorem SlV.one {α:Type} {m:Nat} {enc:α→List Value} {z:α} {w:World} {v:Value} {l:List α} (h:SlV m enc z w v l):Value.oneCell' v=true∧v.cells= #[v]:=by
 obtain⟨b,off,c,arr,E,fz,-,-,⟨rfl,-,-⟩ | ⟨rfl,-,-⟩⟩:=h<;>exact⟨rfl,rfl⟩
set_option linter.defProp false
def apj_:=And.intro (And.intro (And.intro (@aaU_) (@aek_)) (And.intro (@qY_) (And.intro (@zf_) (@ze_)))) (And.intro (And.intro (@vQ_) (@vX_)) (And.intro (@v0_) (And.intro (@w0_) (@xO_))))
end Go.Proofs
end
section
open Go Go.Proofs Go.Sx Go.StP
namespace Go.Proofs
set_option maxRecDepth 10000
set_option maxHeartbeats 4000000
set_option linter.unusedSimpArgs false
set_option linter.defProp false
def api_:=And.intro (And.intro (And.intro (@aaU_) (@aek_)) (And.intro (@qY_) (And.intro (@zf_) (@ze_)))) (And.intro (And.intro (@vQ_) (@vX_)) (And.intro (@v0_) (And.intro (@w0_) (@xO_))))
def apE_ (a b:ComL):Bool:=(a.tree.l==b.tree.l)&& (a.text==b.text)&&decide (a.par=b.par)
end Go.Proofs
end
section
open Go Go.Proofs Go.Sx
namespace Go.Proofs
set_option maxRecDepth 10000
set_option maxHeartbeats 4000000
set_option linter.unusedSimpArgs false
theorem kL_ {n:Nat} (h:n<1099511627776):zw_ (n:Int)=n:=by unfold zw_ maxN;omega
theorem qt_: ∀ (k:Nat) (n:Int) (w:World),zw_ n≤k→
  Rets Tryz.prog 82 #[vi n] w (fun v D=>v=vs (qd_ (zw_ n))∧D= []):=by
 intro k
 induction k using Nat.strongRecOn with
 |ind k ih=>
  intro n w hk
  refine Rets.enterV Tryz.func82 rfl (rs:= [.tmp 2]) Tryz.results82 Tryz.ntmps82 ?_
  refine kf ?_
  by_cases h0:n<0
  ·have d1:decide (n<0)=true:=decide_eq_true h0
   have e:zw_ n=0:=by unfold zw_ maxN;omega
   rw[e]
   first|with_reducible refine ks [] @d1 ?_|refine kp @d1 ?_
   refine Ow.buildSlice (e:=5) #[v8 0] rfl rfl (by kernel_rfl) fun b1 hb1 hw1=> ?_
   rw[show(#[v8 0]:Array Value)=a8 [0] from rfl]
   refine ko @Nat.add_zero ?_
   first|with_reducible refine ks [] @Nat.add_zero ?_|refine kp @Nat.add_zero ?_
   refine⟨_,(ke @Nat.add_zero),⟨hw1,trivial⟩, ?_⟩
   rw[jW_ (by omega)];rfl
  ·have d1:decide (n<0)=false:=decide_eq_false h0
   generalize hm:zw_ n=m at hk ⊢
   have hm2:m≤1099511627775:=by unfold zw_ maxN at hm;omega
   by_cases h1:n>1099511627775
   ·have d2:decide (1099511627775<n)=true:=decide_eq_true h1
    have e: (1099511627775:Int)=(m:Int):=by unfold zw_ maxN at hm;omega
    first|with_reducible refine ks [5] (And.intro @d1 @d2) ?_|refine kp (And.intro @d1 @d2) ?_
    rw[e]
    by_cases h2:m<128
    ·have d3:decide ((m:Int)<128)=true:=decide_eq_true (by omega)
     rw[jW_ h2]
     first|with_reducible refine ks [] (And.intro @d1 @d3) ?_|refine kp (And.intro @d1 @d3) ?_
     generalize hc:UInt8.ofInt (m:Int)=c
     have hc':c=UInt8.ofNat m:=by rw[←hc,v7_]
     refine Ow.buildSlice (e:=5) #[v8 c] rfl rfl (by kernel_rfl) fun b1 hb1 hw1=> ?_
     rw[show(#[v8 c]:Array Value)=a8 [c] from rfl]
     have e4:List.take 1 (List.drop 0 [c])= [c]:=rfl
     refine ko @e4 ?_
     first|with_reducible refine ks [] @Nat.add_zero ?_|refine kp @Nat.add_zero ?_
     refine⟨_,(ke @Nat.add_zero),⟨hw1,trivial⟩, ?_⟩
     rw[hc'];rfl
    ·have d3:decide ((m:Int)<128)=false:=decide_eq_false (by omega)
     have ih2:=fun w=>ih (m / 128) (by omega) ((m / 128:Nat):Int) w (by rw[kL_ (by omega)];omega)
     rw[kL_ (by omega)] at ih2
     have hl2:=xR_ 6 (m / 128) (by omega) (by omega)
     rw[v5_ h2]
     first|with_reducible refine ks [] (And.intro @d1 @d3) ?_|refine kp (And.intro @d1 @d3) ?_
     refine Cw.regionK 11 (by kernel_rfl) (by kernel_rfl) ?_
     refine OwK.run [0,1,2,3,6,7] [true,true,true,true,false,false,true,true,false,false,false] 5 rfl (by kernel_rfl) (by kernel_rfl) fun k hk=> ?_
     simp only[zh_, ↓zd_, ↓zb_, ↓zl_, ↓zm_,za_]
     simp(disch:=(first|assumption|omega| (simp only[kd_,kc_,UInt64.reduceToNat];try omega))) only[↓Sx.S0,Sx.S1,Tryz.fx,Nat.reduceAdd,Nat.reducePow,Int.reducePow,Nat.reduceBEq, ↓reduceIte,UInt8.reduceToNat,UInt16.reduceToNat,UInt32.reduceToNat,UInt64.reduceToNat,Int.reduceToNat]
     (with_reducible refine hk _ _ _ ?_);clear hk k
     generalize hc:UInt8.ofInt ((m:Int)%128+128)=c
     have hc':c=UInt8.ofNat (m%128+128):=by rw[←hc,show((m:Int)%128+128)=((m%128+128:Nat):Int) from rfl,v7_]
     rw[show(m:Int) / 128=((m / 128:Nat):Int) from rfl]
     refine OwK.two 4 8 _ _ (by kernel_rfl) rfl rfl ?_ ?_
     ·refine Ow.buildSlice (e:=5) #[v8 c] rfl rfl (by kernel_rfl) fun b1 hb1 hw1=> ?_
      rw[show(#[v8 c]:Array Value)=a8 [c] from rfl]
      have e4:List.take 1 (List.drop 0 [c])= [c]:=rfl
      refine ko @e4 ?_
      try with_reducible refine Ow.nil ?_
      refine OwK.two 5 8 _ _ (by kernel_rfl) rfl rfl ?_ ?_
      ·refine ko @e4 ?_
       refine OwK.rest [8,9,10] [4,8] rfl (by kernel_rfl) (by kernel_rfl) ?_
       simp only[zh_, ↓zd_, ↓zb_, ↓zl_, ↓zm_,za_]
       refine Ow.callFV rfl Tryz.call82 (fun w' hw'=>ih2 w') ?_
       refine ko @Nat.add_zero ?_
       first|with_reducible refine ks [] @Nat.add_zero ?_|refine kp @Nat.add_zero ?_
       refine⟨_,(ke @Nat.add_zero),⟨hw1,trivial⟩, ?_⟩
       rw[hc'];rfl
      ·refine Ow.callFV rfl Tryz.call82 (fun w' hw'=>ih2 w') ?_
       refine ko @Nat.add_zero ?_
       refine OwK.rest [5,9,10] [4,8] rfl (by kernel_rfl) (by kernel_rfl) ?_
       simp only[zh_, ↓zd_, ↓zb_, ↓zl_, ↓zm_,za_]
       refine ko @e4 ?_
       first|with_reducible refine ks [] @Nat.add_zero ?_|refine kp @Nat.add_zero ?_
       refine⟨_,(ke @Nat.add_zero),⟨hw1,trivial⟩, ?_⟩
       rw[hc'];rfl
     ·refine Ow.callFV rfl Tryz.call82 (fun w' hw'=>ih2 w') ?_
      refine ko @Nat.add_zero ?_
      refine OwK.rest [4,5,9,10] [4,8] rfl (by kernel_rfl) (by kernel_rfl) ?_
      simp only[zh_, ↓zd_, ↓zb_, ↓zl_, ↓zm_,za_]
      refine Ow.buildSlice (e:=5) #[v8 c] rfl rfl (by kernel_rfl) fun b1 hb1 hw1=> ?_
      rw[show(#[v8 c]:Array Value)=a8 [c] from rfl]
      have e4:List.take 1 (List.drop 0 [c])= [c]:=rfl
      refine ko @e4 ?_
      first|with_reducible refine ks [] @Nat.add_zero ?_|refine kp @Nat.add_zero ?_
      refine⟨_,(ke @Nat.add_zero),⟨hw1,trivial⟩, ?_⟩
      rw[hc'];rfl
   ·have d2:decide (1099511627775<n)=false:=decide_eq_false h1
    have e:n=(m:Int):=by unfold zw_ maxN at hm;omega
    subst e
    first|with_reducible refine ks [5] (And.intro @d1 @d2) ?_|refine kp (And.intro @d1 @d2) ?_
    by_cases h2:m<128
    ·have d3:decide ((m:Int)<128)=true:=decide_eq_true (by omega)
     rw[jW_ h2]
     first|with_reducible refine ks [] (And.intro @d1 @d3) ?_|refine kp (And.intro @d1 @d3) ?_
     generalize hc:UInt8.ofInt (m:Int)=c
     have hc':c=UInt8.ofNat m:=by rw[←hc,v7_]
     refine Ow.buildSlice (e:=5) #[v8 c] rfl rfl (by kernel_rfl) fun b1 hb1 hw1=> ?_
     rw[show(#[v8 c]:Array Value)=a8 [c] from rfl]
     have e4:List.take 1 (List.drop 0 [c])= [c]:=rfl
     refine ko @e4 ?_
     first|with_reducible refine ks [] @Nat.add_zero ?_|refine kp @Nat.add_zero ?_
     refine⟨_,(ke @Nat.add_zero),⟨hw1,trivial⟩, ?_⟩
     rw[hc'];rfl
    ·have d3:decide ((m:Int)<128)=false:=decide_eq_false (by omega)
     have ih2:=fun w=>ih (m / 128) (by omega) ((m / 128:Nat):Int) w (by rw[kL_ (by omega)];omega)
     rw[kL_ (by omega)] at ih2
     have hl2:=xR_ 6 (m / 128) (by omega) (by omega)
     rw[v5_ h2]
     first|with_reducible refine ks [] (And.intro @d1 @d3) ?_|refine kp (And.intro @d1 @d3) ?_
     refine Cw.regionK 11 (by kernel_rfl) (by kernel_rfl) ?_
     refine OwK.run [0,1,2,3,6,7] [true,true,true,true,false,false,true,true,false,false,false] 5 rfl (by kernel_rfl) (by kernel_rfl) fun k hk=> ?_
     simp only[zh_, ↓zd_, ↓zb_, ↓zl_, ↓zm_,za_]
     simp(disch:=(first|assumption|omega| (simp only[kd_,kc_,UInt64.reduceToNat];try omega))) only[↓Sx.S0,Sx.S1,Tryz.fx,Nat.reduceAdd,Nat.reducePow,Int.reducePow,Nat.reduceBEq, ↓reduceIte,UInt8.reduceToNat,UInt16.reduceToNat,UInt32.reduceToNat,UInt64.reduceToNat,Int.reduceToNat]
     (with_reducible refine hk _ _ _ ?_);clear hk k
     generalize hc:UInt8.ofInt ((m:Int)%128+128)=c
     have hc':c=UInt8.ofNat (m%128+128):=by rw[←hc,show((m:Int)%128+128)=((m%128+128:Nat):Int) from rfl,v7_]
     rw[show(m:Int) / 128=((m / 128:Nat):Int) from rfl]
     refine OwK.two 4 8 _ _ (by kernel_rfl) rfl rfl ?_ ?_
     ·refine Ow.buildSlice (e:=5) #[v8 c] rfl rfl (by kernel_rfl) fun b1 hb1 hw1=> ?_
      rw[show(#[v8 c]:Array Value)=a8 [c] from rfl]
      have e4:List.take 1 (List.drop 0 [c])= [c]:=rfl
      refine ko @e4 ?_
      try with_reducible refine Ow.nil ?_
      refine OwK.two 5 8 _ _ (by kernel_rfl) rfl rfl ?_ ?_
      ·refine ko @e4 ?_
       refine OwK.rest [8,9,10] [4,8] rfl (by kernel_rfl) (by kernel_rfl) ?_
       simp only[zh_, ↓zd_, ↓zb_, ↓zl_, ↓zm_,za_]
       refine Ow.callFV rfl Tryz.call82 (fun w' hw'=>ih2 w') ?_
       refine ko @Nat.add_zero ?_
       first|with_reducible refine ks [] @Nat.add_zero ?_|refine kp @Nat.add_zero ?_
       refine⟨_,(ke @Nat.add_zero),⟨hw1,trivial⟩, ?_⟩
       rw[hc'];rfl
      ·refine Ow.callFV rfl Tryz.call82 (fun w' hw'=>ih2 w') ?_
       refine ko @Nat.add_zero ?_
       refine OwK.rest [5,9,10] [4,8] rfl (by kernel_rfl) (by kernel_rfl) ?_
       simp only[zh_, ↓zd_, ↓zb_, ↓zl_, ↓zm_,za_]
       refine ko @e4 ?_
       first|with_reducible refine ks [] @Nat.add_zero ?_|refine kp @Nat.add_zero ?_
       refine⟨_,(ke @Nat.add_zero),⟨hw1,trivial⟩, ?_⟩
       rw[hc'];rfl
     ·refine Ow.callFV rfl Tryz.call82 (fun w' hw'=>ih2 w') ?_
      refine ko @Nat.add_zero ?_
      refine OwK.rest [4,5,9,10] [4,8] rfl (by kernel_rfl) (by kernel_rfl) ?_
      simp only[zh_, ↓zd_, ↓zb_, ↓zl_, ↓zm_,za_]
      refine Ow.buildSlice (e:=5) #[v8 c] rfl rfl (by kernel_rfl) fun b1 hb1 hw1=> ?_
      rw[show(#[v8 c]:Array Value)=a8 [c] from rfl]
      have e4:List.take 1 (List.drop 0 [c])= [c]:=rfl
      refine ko @e4 ?_
      first|with_reducible refine ks [] @Nat.add_zero ?_|refine kp @Nat.add_zero ?_
      refine⟨_,(ke @Nat.add_zero),⟨hw1,trivial⟩, ?_⟩
      rw[hc'];rfl
theorem ad0_ (s:List UInt8) (w:World) (hs:s.length<1099511627776):
  Rets Tryz.prog 83 #[vs s] w (fun v D=>v=vs (jQ_ s)∧D= []):=by
 have hnl:=zj_ (s.length:Int)
 refine Rets.enterV Tryz.func83 rfl (rs:= [.tmp 2]) Tryz.results83 Tryz.ntmps83 ?_
 refine kf ?_
 first|with_reducible refine ks [] @Nat.add_zero ?_|refine kp @Nat.add_zero ?_
 refine Ow.callFV rfl Tryz.call82 (fun w' hw'=>qt_ _ _ w' (Nat.le_refl _)) ?_
 refine ko @Nat.add_zero ?_
 first|with_reducible refine ks [] @Nat.add_zero ?_|refine kp @Nat.add_zero ?_
 refine⟨_,(ke @Nat.add_zero),trivial, ?_⟩
 rfl
theorem acT_ (x:IdL) (w:World):
  Rets Tryz.prog 84 #[.agg (a8 x.l)] w (fun v D=>v=vs x.l∧D= []):=by
 have hxl:=x.h
 refine Rets.enterV Tryz.func84 rfl (rs:= [.tmp 2]) Tryz.results84 Tryz.ntmps84 ?_
 refine kf ?_
 first|with_reducible refine ks [] @Nat.add_zero ?_|refine kp @Nat.add_zero ?_
 refine Ow.box rfl rfl fun bx hbx hwx=> ?_
 simp only[jt_,jm_,jn_,zg_,List.nil_append,List.cons_append]
 refine Ow.go rfl ?_
 simp(disch:=(first|assumption|omega| (simp only[kd_,kc_,UInt64.reduceToNat];try omega))) only[↓Sx.S0,Sx.S1,Tryz.fx,Nat.reduceAdd,Nat.reducePow,Int.reducePow,Nat.reduceBEq, ↓reduceIte,UInt8.reduceToNat,UInt16.reduceToNat,UInt32.reduceToNat,UInt64.reduceToNat,Int.reduceToNat]
 have e4:List.take 32 (List.drop 0 x.l)=x.l:=by rw[List.drop_zero,List.take_of_length_le (by omega)]
 first|with_reducible refine ks [] @e4 ?_|refine kp @e4 ?_
 refine⟨_,(ke @Nat.add_zero),⟨hwx,trivial⟩, ?_⟩
 rfl
end Go.Proofs
end
section
open Go Go.Proofs Go.Sx Go.StP
namespace Go.Proofs
set_option maxRecDepth 10000
set_option maxHeartbeats 400000
set_option linter.unusedSimpArgs false
set_option linter.defProp false
def aqX_:=And.intro (And.intro (And.intro (@x7_) (@kI_)) (And.intro (@kB_) (@q5_))) (And.intro (And.intro (@qh_) (@qA_)) (And.intro (@zf_) (@ze_)))
def entB (e:EntL):List UInt8:=(qd_ (zw_ e.kind)++jQ_ e.name)++e.id.l
def aoh_ (l:List EntL):List UInt8:=(l.map entB).flatten
def idsB (l:List IdL):List UInt8:=(l.map IdL.l).flatten
def an9_ (c:ComL):List UInt8:=c.tree.l++qd_ (zw_ c.par.length)
def comB (c:ComL):List UInt8:=an9_ c++idsB c.par++jQ_ c.text
set_option linter.defProp false
def aqj_:=And.intro (And.intro (And.intro (@aaU_) (@aek_)) (And.intro (@qY_) (And.intro (@zf_) (@ze_)))) (And.intro (And.intro (@vQ_) (@vX_)) (And.intro (@v0_) (And.intro (@w0_) (@xO_))))
end Go.Proofs
end
section
open Go Go.Proofs Go.Sx Go.StP
namespace Go.Proofs
set_option maxRecDepth 10000
set_option maxHeartbeats 400000
set_option linter.unusedSimpArgs false
instance:DecidableEq EntL:=fun a b=>if h:a.name=b.name∧a.kind=b.kind∧a.id.l=b.id.l then .isTrue (by cases a;cases b;simp only at h;obtain⟨rfl,rfl,h3⟩:=h;rw[IdL.ext' h3]) else .isFalse (fun e=>h (by rw[e];exact⟨rfl,rfl,rfl⟩))
theorem EntL.ext' {a b:EntL} (h: (a.name==b.name&&a.kind==b.kind&&a.id.l==b.id.l)=true):a=b:=by
 simp only[Bool.and_eq_true,beq_iff_eq] at h
 cases a;cases b;simp only at h;obtain⟨⟨rfl,rfl⟩,h3⟩:=h;rw[IdL.ext' h3]
set_option linter.defProp false
def aq5_:=And.intro (And.intro (And.intro (@x7_) (@kI_)) (And.intro (@kB_) (@q5_))) (And.intro (And.intro (@qh_) (@qA_)) (And.intro (@zf_) (And.intro (@ze_) (@anY_))))
end Go.Proofs
end
section
open Go Go.Proofs Go.Sx Go.StP
namespace Go.Proofs
set_option maxRecDepth 10000
set_option maxHeartbeats 400000
set_option linter.unusedSimpArgs false
structure SoG where
 g:Nat
 Z:List EntL
 v:Value
 D:zc_
set_option linter.defProp false
def ao1_:=And.intro (And.intro (And.intro (@x7_) (@kI_)) (And.intro (@kB_) (@q5_))) (And.intro (And.intro (@qh_) (@qA_)) (And.intro (@zf_) (@ze_)))
end Go.Proofs
end
section
open Go Go.Proofs Go.Sx Go.StP
namespace Go.Proofs
set_option maxRecDepth 10000
set_option maxHeartbeats 400000
set_option linter.unusedSimpArgs false
def vv_ (l:List UInt8):IdL:=if h:l.length=32 then⟨l,h⟩ else id0
theorem QA_ {l:List UInt8} (h:l.length=32): (vv_ l).l=l:=by unfold vv_;rw[dif_pos h]
theorem Vr_ (s:List UInt8) (a:Nat) (e:Int): (idR s a e).1.length=32:=by
 unfold idR
 simp only
 split
 ·assumption
 ·simp[z32]
theorem ajA_ {s:List UInt8} {a:Nat} {e:Int} (ha:a≤s.length):a≤ (idR s a e).2.1∧(idR s a e).2.1≤s.length:=vL_ ha
theorem QB_ {s:List UInt8} {a:Nat} {e most:Int} (ha:a≤s.length):a≤ (zY_ s a e most).2.1∧(zY_ s a e most).2.1≤s.length:=by
 have hp:=qx_ (e:=e) (most:=most) ha
 have hq:=vL_ (e:=(zx_ s a e most).2.2) (n:=(zx_ s a e most).1) hp.2
 unfold zY_
 simp only
 split
 ·exact⟨Nat.le_refl _,ha⟩
 ·exact⟨by omega,hq.2⟩
theorem af5_ (s:List UInt8) (a:Nat) (e most:Int): (zY_ s a e most).1.length≤s.length:=by
 have: ∀ (b:Nat) (e n:Int),(qw_ s b e n).1.length≤s.length:=by
  intro b e n
  unfold qw_
  split
  ·simp
  ·split
   ·simp
   ·split
    ·simp
    ·simp only[List.length_take,List.length_drop];omega
 unfold zY_
 simp only
 split
 ·simp
 ·exact this _ _ _
theorem ajO_ {s:List UInt8} {a:Nat} {e n:Int} (he:e≠0): (qw_ s a e n).2=(a,e):=by unfold qw_;rw[if_pos he]
theorem acK_ {s:List UInt8} {a:Nat} {e most:Int} (he:e≠0): (zx_ s a e most).2=(a,e):=by unfold zx_;rw[if_pos he]
theorem akd_ {s:List UInt8} {a:Nat} {e most:Int} (he:e≠0): (zY_ s a e most).2=(a,e):=by
 unfold zY_
 simp only[acK_ he,ajO_ he]
 rw[if_pos he]
theorem alF_ {s:List UInt8} {a:Nat} {e:Int} (he:e≠0): (idR s a e).2=(a,e):=by unfold idR;simp only[ajO_ he]
theorem aga_ {s:List UInt8} {a:Nat} {e n:Int} (h:e≠5): (qw_ s a e n).2.2≠5:=by
 unfold qw_
 split
 ·exact h
 ·split
  ·show(2:Int)≠5;decide
  ·split
   ·show(3:Int)≠5;decide
   ·show(0:Int)≠5;decide
theorem akX_ (most:Int): ∀ (l:List UInt8) (k n x:Nat),qm_ most l k n= .error x→x≠5:=by
 intro l
 induction l with
 |nil=>intro k n x h;unfold qm_ at h;cases h;decide
 |cons c r ih=>
  intro k n x h
  unfold qm_ at h
  split at h
  ·split at h
   ·cases h;decide
   ·exact ih _ _ _ h
  ·split at h
   ·cases h;decide
   ·split at h
    ·cases h
    ·cases h;decide
theorem ajX_ (most:Int): ∀ (l:List UInt8) (k n:Nat),qm_ most l k n≠ .error 0:=by
 intro l
 induction l with
 |nil=>intro k n h;unfold qm_ at h;cases h
 |cons c r ih=>
  intro k n h
  unfold qm_ at h
  split at h
  ·split at h
   ·cases h
   ·exact ih _ _ h
  ·split at h
   ·cases h
   ·split at h
    ·cases h
    ·cases h
theorem ahm_ {s:List UInt8} {a:Nat} {e most:Int} (h:e≠5): (zx_ s a e most).2.2≠5:=by
 unfold zx_
 split
 ·exact h
 ·split
  ·show(0:Int)≠5;decide
  ·rename_i x hx
   have:=akX_ _ _ _ _ _ hx
   show((x:Nat):Int)≠5
   omega
theorem aks_ {s:List UInt8} {a:Nat} {e most:Int} (h:e≠5): (zY_ s a e most).2.2≠5:=by
 unfold zY_
 simp only
 split
 ·exact aga_ (ahm_ h)
 ·exact aga_ (ahm_ h)
theorem anE_ {s:List UInt8} {a:Nat} {e:Int} (h:e≠5): (idR s a e).2.2≠5:=by unfold idR;exact aga_ h
theorem ak4_ {s:List UInt8} {a:Nat} {e most:Int} (h: (zx_ s a e most).2.2=0):a< (zx_ s a e most).2.1:=by
 unfold zx_ at h ⊢
 split
 ·rename_i he
  rw[if_pos he] at h
  exact absurd h he
 ·rename_i he
  rw[if_neg he] at h
  split
  ·rename_i n k hk
   have:=KT_ _ _ _ _ _ _ hk
   show a<a+k
   omega
  ·rename_i x hx
   rw[hx] at h
   exfalso
   have:x=0:=by have: ((x:Nat):Int)=0:=h;omega
   subst this
   exact ajX_ _ _ _ _ hx
def entR (s:List UInt8) (a:Nat) (e:Int):EntL×Nat×Int:=
 let p:=zx_ s a e 2
 let q:=zY_ s p.2.1 p.2.2 32
 let i:=idR s q.2.1 q.2.2
 (⟨q.1,p.1,vv_ i.1⟩,i.2)
theorem akE_ {s:List UInt8} {a:Nat} {e:Int} (ha:a≤s.length):a≤ (entR s a e).2.1∧(entR s a e).2.1≤s.length:=by
 have h1:=qx_ (e:=e) (most:=2) ha
 have h2:=QB_ (e:=(zx_ s a e 2).2.2) (most:=32) h1.2
 have h3:=ajA_ (e:=(zY_ s (zx_ s a e 2).2.1 (zx_ s a e 2).2.2 32).2.2) h2.2
 unfold entR
 exact⟨by simp only;omega,h3.2⟩
theorem al6_ {s:List UInt8} {a:Nat} {e:Int} (h:e≠5): (entR s a e).2.2≠5:=anE_ (aks_ (ahm_ h))
theorem akB_ {s:List UInt8} {a:Nat} {e:Int} (ha:a≤s.length) (h: (entR s a e).2.2=0):a< (entR s a e).2.1:=by
 have h1:=qx_ (e:=e) (most:=2) ha
 have h2:=QB_ (e:=(zx_ s a e 2).2.2) (most:=32) h1.2
 have h3:=ajA_ (e:=(zY_ s (zx_ s a e 2).2.1 (zx_ s a e 2).2.2 32).2.2) h2.2
 unfold entR at h ⊢
 simp only at h ⊢
 have e2: (zY_ s (zx_ s a e 2).2.1 (zx_ s a e 2).2.2 32).2.2=0:=Decidable.byContradiction fun hn=>by rw[alF_ hn] at h;exact hn h
 have e1: (zx_ s a e 2).2.2=0:=Decidable.byContradiction fun hn=>by rw[akd_ hn] at e2;exact hn e2
 have:=ak4_ e1
 omega
def Qe_ (s:List UInt8):Nat→Nat→Int→List EntL→List EntL×Nat×Int
 |0,a,e,l=>(l,a,e)
 |n+1,a,e,l=>if e=0∧a<s.length then Qe_ s n (entR s a e).2.1 (entR s a e).2.2 (l++ [(entR s a e).1]) else(l,a,e)
theorem ag8_ {s:List UInt8} {n a:Nat} {e:Int} {l:List EntL} (h:e=0∧a<s.length):Qe_ s (n+1) a e l=Qe_ s n (entR s a e).2.1 (entR s a e).2.2 (l++ [(entR s a e).1]):=by rw[Qe_,if_pos h]
theorem aes_ {s:List UInt8} {n a:Nat} {e:Int} {l:List EntL} (h: ¬ (e=0∧a<s.length)):Qe_ s n a e l=(l,a,e):=by
 cases n with
 |zero=>rfl
 |succ n=>rw[Qe_,if_neg h]
def Q7_ (s:List UInt8):List EntL×Nat×Int:=Qe_ s (s.length+1) 0 0 []
structure EntsJ (s:List UInt8) (n a:Nat) (e:Int) (l:List EntL):Prop where
 go:Q7_ s=Qe_ s n a e l
 le:a≤s.length
 five:e≠5
 fuel:e=0→s.length<a+n
 cnt:l.length+n=s.length+1
 short: ∀i,i<l.length→(l.getD i ent0).name.length≤s.length
theorem EntsJ.next {s:List UInt8} {n a:Nat} {e:Int} {l:List EntL} (h:EntsJ s n a e l) (hc:e=0∧a<s.length): ∃m,n=m+1∧EntsJ s m (entR s a e).2.1 (entR s a e).2.2 (l++ [(entR s a e).1]):=by
 have:=h.fuel hc.1
 obtain⟨m,rfl⟩: ∃m,n=m+1:=⟨n - 1,by omega⟩
 refine⟨m,rfl,h.go.trans (ag8_ hc),(akE_ h.le).2,al6_ h.five,fun h0=> ?_, ?_,fun i hi=> ?_⟩
 ·have:=akB_ h.le h0;omega
 ·have:=h.cnt;simp only[List.length_append,List.length_cons,List.length_nil];omega
 ·by_cases hlt:i<l.length
  ·rw[qQ_ hlt];exact h.short i hlt
  ·have:i=l.length:=by simp only[List.length_append,List.length_cons,List.length_nil] at hi;omega
   subst this
   rw[qH_ (Nat.le_refl _),Nat.sub_self]
   exact af5_ _ _ _ _
theorem EntsJ.done {s:List UInt8} {n a:Nat} {e:Int} {l:List EntL} (h:EntsJ s n a e l) (hc: ¬ (e=0∧a<s.length)):Q7_ s=(l,a,e):=h.go.trans (aes_ hc)
theorem EntsJ.sh {s:List UInt8} {n a:Nat} {e:Int} {l:List EntL} (h:EntsJ s n a e l) (hs:s.length<1000000):amc_ l:=fun i hi=>by have:=h.short i hi;omega
end Go.Proofs
end
section
open Go Go.Proofs Go.Sx Go.StP
namespace Go.Proofs
set_option maxRecDepth 10000
set_option maxHeartbeats 400000
set_option linter.unusedSimpArgs false
def am5_ (s:List UInt8):Option (List EntL):=if(Q7_ s).2.2=0∧ajE_ (Q7_ s).1=true∧aoh_ (Q7_ s).1=s then some (Q7_ s).1 else none
def aoR_ (s:List UInt8) (v:Value) (D:zc_):Prop:=
 match am5_ s with
 |some l=> ∃v1,v= .tuple #[v1, .bool true]∧Gr D 260 34 v1 l.length (l.map kF_).flatten
 |none=>v= .tuple #[.slice none 0 0, .bool false]
structure EnG where
 n:Nat
 a:Nat
 e:Int
 l:List EntL
 v:Value
 D:zc_
set_option linter.defProp false
def apW_:=And.intro (And.intro (And.intro (@xI_) (And.intro (@xH_) (@xw_))) (And.intro (@jI_) (And.intro (@jP_) (@q5_)))) (And.intro (And.intro (@Ki_) (And.intro (@X9_) (@XV_))) (And.intro (And.intro (@qh_) (@qA_)) (And.intro (@zf_) (@ze_))))
end Go.Proofs
end
section
open Go Go.Proofs Go.Sx Go.StP
namespace Go.Proofs
set_option maxRecDepth 10000
set_option maxHeartbeats 400000
set_option linter.unusedSimpArgs false
theorem JS_ (most:Int): ∀ (l:List UInt8) (k n m k':Nat),qm_ most l k n= .ok (m,k')→(m:Int)≤most
 | [],_,_,_,_,h=>by simp[qm_] at h
 |c::r,k,n,m,k',h=>by
  unfold qm_ at h
  split at h
  ·split at h
   ·cases h
   ·exact JS_ most r _ _ _ _ h
  ·split at h
   ·cases h
   ·split at h
    ·rename_i hh
     cases h
     exact hh.2
    ·cases h
theorem j1_ {s:List UInt8} {a:Nat} {e most:Int} (h0:0≤most):0≤ (zx_ s a e most).1∧(zx_ s a e most).1≤most:=by
 unfold zx_
 split
 ·exact⟨Int.le_refl 0,h0⟩
 ·split
  ·rename_i n k h
   exact⟨Int.natCast_nonneg _,JS_ most _ _ _ _ _ h⟩
  ·exact⟨Int.le_refl 0,h0⟩
def amm_ (s:List UInt8) (a:Nat) (e:Int):Nat→List IdL×Nat×Int
 |0=>([],a,e)
 |n+1=>let p:=amm_ s a e n;let i:=idR s p.2.1 p.2.2;(p.1++ [vv_ i.1],i.2)
def comN (s:List UInt8):Int×Nat×Int:=zx_ s (idR s 0 0).2.1 (idR s 0 0).2.2 4
def comP (s:List UInt8):List IdL×Nat×Int:=amm_ s (comN s).2.1 (comN s).2.2 (comN s).1.toNat
def comT (s:List UInt8):List UInt8×Nat×Int:=zY_ s (comP s).2.1 (comP s).2.2 64
def comE (s:List UInt8):ComL×Nat×Int:=(⟨vv_ (idR s 0 0).1,(comP s).1,(comT s).1⟩,(comT s).2)
def vU_ (s:List UInt8) (a:Nat) (e:Int):Int:=if e≠0 then e else if(a:Int)< (s.length:Int) then 5 else 0
def al1_ (s:List UInt8):Option ComL:=if vU_ s (comE s).2.1 (comE s).2.2=0∧amt_ (comE s).1=true∧comB (comE s).1=s then some (comE s).1 else none
theorem aeo_ (t x:IdL) (p:Value) (y:List UInt8) (a:Bool) (E:TypeId):zn_ (some (a,32)) (some (.cells (wP_ t p y).toArray E (0,0))) 0 (.agg (a8 x.l))=some (.cells (wP_ x p y).toArray E (0,0)):=
 z4_ [] _ _ _ a _ E rfl (by simp[t.h]) (zg_ _) (by simp[x.h]) (w6_ _)
theorem aeL_ (t:IdL) (p:Value) (y z:List UInt8) (a:Bool) (E:TypeId):zn_ (some (a,1)) (some (.cells (wP_ t p y).toArray E (0,0))) 33 (vs z)=some (.cells (wP_ t p z).toArray E (0,0)):=by
 have e: ∀y,wP_ t p y=(t.l.map v8++ [p])++ ([vs y]++ []):=fun y=>by unfold wP_;simp only[List.append_assoc,List.append_nil]
 rw[e,e];exact z4_ _ _ _ _ a _ E (by simp[t.h]) rfl rfl rfl rfl
theorem amk_:zP_ Tryz.prog 86=some (true,32):=id (by kernel_rfl)
theorem ans_:zZ_ Tryz.prog 86=some (.agg (a8 id0.l)):=id (by kernel_rfl)
end Go.Proofs
end
section
open Go Go.Proofs Go.Sx Go.StP
namespace Go.Proofs
set_option maxRecDepth 10000
set_option maxHeartbeats 400000
set_option linter.unusedSimpArgs false
def aoq_ (s:List UInt8) (v:Value) (D:zc_):Prop:=
 match al1_ s with
 |some c=> ∃p,v= .tuple #[.agg (wP_ c.tree p c.text).toArray, .bool true]∧Gr D 86 32 p c.par.length (c.par.map idLC).flatten
 |none=>v= .tuple #[.agg (wP_ id0 (.slice none 0 0) []).toArray, .bool false]
theorem VR_ (b:Nat) (s:List UInt8) (a:Nat) (e:Int) (w:World) (ho:w.heap[b]? =some (.cells #[vs s,vi a,vi e] 166 (0,0))):
  Rets Tryz.prog 98 #[vp b 0] w (fun v D=>v=vi (vU_ s a e)∧D= []):=abG_ b s a e w ho
structure CmG where
 g:Nat
 v:Value
 D:zc_
set_option linter.defProp false
def ap3_:=And.intro (And.intro (And.intro (@xI_) (And.intro (@xH_) (@xw_))) (And.intro (And.intro (@jI_) (@jP_)) (And.intro (@vQ_) (@vX_)))) (And.intro (And.intro (@v0_) (And.intro (@w0_) (@xO_))) (And.intro (And.intro (@aeo_) (@aeL_)) (And.intro (@zf_) (@ze_))))
end Go.Proofs
end
section
open Go Go.Proofs Go.Sx Go.StP
namespace Go.Proofs
set_option maxRecDepth 10000
set_option maxHeartbeats 400000
set_option linter.unusedSimpArgs false
def roC (r v:Value) (t:IdL) (p:Value) (y:List UInt8):List Value:= [r]++ ([v]++wP_ t p y)
theorem KN_ (r v:Value) (t:IdL) (p:Value) (y:List UInt8) (n:Nat) (E:TypeId) (fz:Nat×Nat):zp_ (some (false,n)) (some (.cells (roC r v t p y).toArray E fz)) 0=some r:=q6_ [] _ r n E fz rfl
theorem Vp_ (r v:Value) (t:IdL) (p:Value) (y:List UInt8) (n:Nat) (E:TypeId) (fz:Nat×Nat):zp_ (some (false,n)) (some (.cells (roC r v t p y).toArray E fz)) 1=some v:=by
 unfold roC;exact q6_ [r] _ v n E fz rfl
theorem Vh_ (r v:Value) (t:IdL) (p:Value) (y:List UInt8) (E:TypeId) (fz:Nat×Nat):zp_ (some (true,34)) (some (.cells (roC r v t p y).toArray E fz)) 2=some (.agg (wP_ t p y).toArray):=by
 have e:roC r v t p y= [r,v]++ (wP_ t p y++ []):=by unfold roC;simp
 rw[e];exact va_ [r,v] _ _ E fz rfl (acY_ _ _ _)
theorem WN_ (r v:Value) (t:IdL) (p:Value) (y:List UInt8) (n:Nat) (E:TypeId) (fz:Nat×Nat):zp_ (some (false,n)) (some (.cells (roC r v t p y).toArray E fz)) 34=some p:=by
 have e:roC r v t p y=([r,v]++t.l.map v8)++ ([p]++ [vs y]):=by unfold roC wP_;simp
 rw[e];exact q6_ _ _ p n E fz (by simp[t.h])
theorem ahx_ (r v:Value) (t x:IdL) (p:Value) (y:List UInt8) (a:Bool) (E:TypeId):zn_ (some (a,32)) (some (.cells (roC r v t p y).toArray E (0,0))) 2 (.agg (a8 x.l))=some (.cells (roC r v x p y).toArray E (0,0)):=by
 have e: ∀t,roC r v t p y= [r,v]++ (t.l.map v8++ ([p]++ [vs y])):=fun t=>by unfold roC wP_;simp
 rw[e,e];exact z4_ [r,v] _ _ _ a _ E rfl (by simp[t.h]) (zg_ _) (by simp[x.h]) (w6_ _)
theorem adE_ (r v:Value) (t:IdL) (p:Value) (y z:List UInt8) (a:Bool) (E:TypeId):zn_ (some (a,1)) (some (.cells (roC r v t p y).toArray E (0,0))) 35 (vs z)=some (.cells (roC r v t p z).toArray E (0,0)):=by
 have e: ∀y,roC r v t p y=(([r,v]++t.l.map v8)++ [p])++ ([vs y]++ []):=fun y=>by unfold roC wP_;simp
 rw[e,e];exact z4_ _ _ _ _ a _ E (by simp[t.h]) rfl rfl rfl rfl
theorem Kf_ (b:Nat) (s:List UInt8) (a:Nat) (e:Int) (w:World) (ho:w.heap[b]? =some (.cells #[vs s,vi a,vi e] 221 (0,0))):
  Rets Tryz.prog 92 #[vp b 0] w (fun v D=>v=vi (vU_ s a e)∧D= []):=afy_ b s a e w ho
set_option linter.defProp false
def ap6_:=And.intro (And.intro (And.intro (And.intro (@xI_) (@xH_)) (And.intro (@xw_) (@jI_))) (And.intro (And.intro (@jP_) (@KN_)) (And.intro (@Vp_) (@Vh_)))) (And.intro (And.intro (And.intro (@WN_) (@q5_)) (And.intro (@Ki_) (@X9_))) (And.intro (And.intro (@XV_) (@qh_)) (And.intro (@qA_) (And.intro (@zf_) (@ze_)))))
structure EnH where
 n:Nat
 a:Nat
 e:Int
 l:List EntL
 v:Value
 D:zc_
 H:zc_
end Go.Proofs
end
section
open Go Go.Proofs Go.Sx Go.StP
namespace Go.Proofs
set_option maxRecDepth 10000
set_option maxHeartbeats 400000
set_option linter.unusedSimpArgs false
set_option linter.defProp false
def apO_:=And.intro (And.intro (And.intro (@xI_) (And.intro (@xH_) (@xw_))) (And.intro (And.intro (@jI_) (@jP_)) (And.intro (@KN_) (@Vp_)))) (And.intro (And.intro (@Vh_) (And.intro (@WN_) (@ahx_))) (And.intro (And.intro (@adE_) (@xO_)) (And.intro (@zf_) (@ze_))))
structure CmH where
 g:Nat
 v:Value
 D:zc_
 H:zc_
end Go.Proofs
end
section
open Go Go.Proofs Go.Sx Go.StP
namespace Go.Proofs
set_option maxRecDepth 10000
set_option maxHeartbeats 400000
set_option linter.unusedSimpArgs false
abbrev obV (k:Int) (t:List UInt8):Value:= .agg #[vi k,vs t]
theorem qZ_ (k:Int) (t:List UInt8) (E:TypeId) (fz:Nat×Nat):zp_ (some (true,2)) (some (.cells #[vi k,vs t] E fz)) 0=some (obV k t):=(rfl)
theorem qs_ (k:Int) (t:List UInt8) (n:Nat) (E:TypeId) (fz:Nat×Nat):zp_ (some (false,n)) (some (.cells #[vi k,vs t] E fz)) 0=some (vi k):=(rfl)
theorem qo_ (k:Int) (t:List UInt8) (n:Nat) (E:TypeId) (fz:Nat×Nat):zp_ (some (false,n)) (some (.cells #[vi k,vs t] E fz)) 1=some (vs t):=(rfl)
theorem qC_ (k k':Int) (t t':List UInt8) (a:Bool) (E:TypeId):zn_ (some (a,2)) (some (.cells #[vi k',vs t'] E (0,0))) 0 (obV k t)=some (.cells #[vi k,vs t] E (0,0)):=(rfl)
set_option linter.defProp false
def apT_:=And.intro (And.intro (@qZ_) (And.intro (@qs_) (@qo_))) (And.intro (@qC_) (And.intro (@zf_) (@ze_)))
def fnV (k:Nat):Value:= .func (.func k) #[] #[]
def RdOk (k:Int) (t:List UInt8):Bool:=
 if 1≤k∧k≤3∧t.length≤4096 then
  (if k=1 then true else if k=2 then(vU_ t (Q7_ t).2.1 (Q7_ t).2.2==0&&ajE_ (Q7_ t).1) else(vU_ t (comE t).2.1 (comE t).2.2==0&&amt_ (comE t).1))
 else false
end Go.Proofs
end
section
open Go Go.Proofs Go.Sx Go.StP
namespace Go.Proofs
set_option maxRecDepth 10000
set_option maxHeartbeats 400000
set_option linter.unusedSimpArgs false
set_option linter.defProp false
def aps_:=And.intro (And.intro (And.intro (@qZ_) (@qs_)) (And.intro (@qo_) (@qC_))) (And.intro (And.intro (@Sx.tup2_0) (@Sx.tup2_1)) (And.intro (@zf_) (@ze_)))
def ao9_ (k:Int) (t:List UInt8) (ok:Bool):Int:=if ok&&RdOk k t then k else 0
def apJ_ (k:Int) (t:List UInt8) (ok:Bool):List UInt8:=if ok&&RdOk k t then t else []
def aqJ_ (k:Int) (t:List UInt8) (ok:Bool):Int:=if ok&&RdOk k t then 0 else 1
end Go.Proofs
end
section
open Go Go.Proofs Go.Sx Go.StP
namespace Go.Proofs
set_option maxRecDepth 10000
set_option maxHeartbeats 400000
set_option linter.unusedSimpArgs false
set_option linter.defProp false
def apF_:=And.intro (And.intro (And.intro (@qZ_) (And.intro (@qs_) (@qo_))) (And.intro (@qC_) (And.intro (@Sx.tup2_0) (@Sx.tup2_1)))) (And.intro (And.intro (@vQ_) (And.intro (@vX_) (@v0_))) (And.intro (And.intro (@w0_) (@xO_)) (And.intro (@zf_) (@ze_))))
theorem W4_ (x:IdL):JX_ Tryz.prog 75 1 [(0, .agg (a8 x.l))]=some (86,a8 x.l):=q8_ (cs:=x.l.map v8) Tryz.underlying75 amk_ ans_ (by decide) (by simp[x.h])
theorem WP_ (x:IdL) {w':World} {b:Nat} (h:w'.heap[b]? =some (.cells (a8 x.l) 86 (0,0))):RowS 32 idLC id0 w' (vsl b 0 1 1) [x] b 0 (a8 x.l) 86 (0,0):=RowS.sl rfl h (by
 intro k hk j hj
 obtain rfl:k=0:=by simpa using hk
 simp only[Nat.zero_mul,Nat.zero_add,List.getD_cons_zero]
 rw[←afU_,List.getElem?_toArray])
end Go.Proofs
end
section
open Go Go.Proofs Go.Sx Go.StP
namespace Go.Proofs
set_option maxRecDepth 10000
set_option maxHeartbeats 400000
set_option linter.unusedSimpArgs false
set_option linter.defProp false
def aqB_:=And.intro (And.intro (And.intro (@qZ_) (And.intro (@qs_) (@qo_))) (And.intro (And.intro (@qC_) (@Sx.tup2_0)) (And.intro (@Sx.tup2_1) (@x7_)))) (And.intro (And.intro (@kI_) (And.intro (@kB_) (@q5_))) (And.intro (And.intro (@qh_) (@qA_)) (And.intro (@zf_) (@ze_))))
structure WrG where
 g:Nat
 D:zc_
end Go.Proofs
end
section
open Go Go.Proofs Go.Sx Go.StP
namespace Go.Proofs
set_option maxRecDepth 10000
set_option maxHeartbeats 400000
set_option linter.unusedSimpArgs false
set_option linter.defProp false
def aqC_:=And.intro (And.intro (And.intro (@qZ_) (@qs_)) (And.intro (@qo_) (And.intro (@qC_) (@Sx.tup2_0)))) (And.intro (And.intro (@Sx.tup2_1) (And.intro (@KN_) (@Vp_))) (And.intro (@Vh_) (And.intro (@zf_) (@ze_))))
def aqw_ (k:Int) (t:List UInt8) (v:Value) (D:zc_):Prop:=
 if RdOk k t=true∧k=2 then∃v1,v= .tuple #[v1,vi 0]∧Gr D 260 34 v1 (Q7_ t).1.length ((Q7_ t).1.map kF_).flatten else v= .tuple #[.slice none 0 0,vi 1]
def aqk_ (k:Int) (t:List UInt8) (v:Value) (D:zc_):Prop:=
 if RdOk k t=true∧k=3 then∃p,v= .tuple #[.agg (wP_ (comE t).1.tree p (comE t).1.text).toArray,vi 0]∧Gr D 86 32 p (comE t).1.par.length ((comE t).1.par.map idLC).flatten else v= .tuple #[.agg (wP_ id0 (.slice none 0 0) []).toArray,vi 1]
end Go.Proofs
end
section
open Go Go.Proofs Go.Sx Go.StP
namespace Go.Proofs
set_option maxRecDepth 10000
set_option maxHeartbeats 400000
set_option linter.unusedSimpArgs false
set_option linter.defProp false
def apG_:=And.intro (And.intro (And.intro (@qZ_) (@qs_)) (And.intro (@qo_) (@qC_))) (And.intro (And.intro (@Sx.tup2_0) (@Sx.tup2_1)) (And.intro (@zf_) (@ze_)))
def anS_ (k:Int):List UInt8:=(([32,98,116,99]:List UInt8).take (k+1).toNat).drop k.toNat
def amN_ (k:Int) (t:List UInt8):List UInt8:=anS_ k++jQ_ t
end Go.Proofs
end
section
open Go Go.Proofs Go.Sx Go.StP
namespace Go.Proofs
set_option maxRecDepth 10000
set_option maxHeartbeats 400000
set_option linter.unusedSimpArgs false
set_option linter.defProp false
def aqZ_:=And.intro (And.intro (And.intro (@qZ_) (@qs_)) (And.intro (@qo_) (@qC_))) (And.intro (And.intro (@Sx.tup2_0) (@Sx.tup2_1)) (And.intro (@xO_) (And.intro (@zf_) (@ze_))))
def amj_ (k:Int) (t:List UInt8):Bool:=if 4096<t.length then false else if k=2 then(am5_ t).isSome else if k=3 then(al1_ t).isSome else k==1
end Go.Proofs
end
section
open Go Go.Proofs Go.Sx Go.StP
namespace Go.Proofs
set_option maxRecDepth 10000
set_option maxHeartbeats 400000
set_option linter.unusedSimpArgs false
theorem afi_ (n:Nat):0< (qd_ n).length:=by
 by_cases h:n<128
 ·rw[jW_ h];simp
 ·rw[v5_ h];simp
theorem q2_ {n:Nat} (h:n≤1099511627775):zw_ (n:Int)=n:=kL_ (by omega)
theorem adD_ {s:List UInt8} {a:Nat} {n:Int} (ha:a≤s.length) (h: (qw_ s a 0 n).2.2=0):0≤n∧(qw_ s a 0 n).1.length=n.toNat∧s.drop a=(qw_ s a 0 n).1++s.drop (qw_ s a 0 n).2.1:=by
 unfold qw_ at h ⊢
 rw[if_neg (by simp)] at h ⊢
 split at h
 ·exact absurd (show(2:Int)=0 from h) (by decide)
 ·rename_i h1
  rw[if_neg h1]
  split at h
  ·exact absurd (show(3:Int)=0 from h) (by decide)
  ·rename_i h2
   rw[if_neg h2]
   refine⟨by omega, ?_, ?_⟩
   ·simp only[List.length_take,List.length_drop];omega
   ·simp only
    rw[←List.drop_drop,List.take_append_drop]
theorem abz_ (most:Int) (r:List UInt8): ∀ (n k acc:Nat),(0<k→0<n)→k+ (qd_ n).length≤6→acc+n*128^k≤1099511627775→((acc+n*128^k:Nat):Int)≤most→
  qm_ most (qd_ n++r) k acc= .ok (acc+n*128^k,k+ (qd_ n).length):=by
 intro n
 induction n using Nat.strongRecOn with
 |ind n ih=>
  intro k acc hk hl hs hm
  by_cases h:n<128
  ·rw[jW_ h,List.cons_append,List.nil_append,qm_]
   have hc: (UInt8.ofNat n).toNat=n:=by rw[UInt8.toNat_ofNat'];omega
   rw[hc,Nat.mod_eq_of_lt h,if_neg (by omega),if_neg (by omega),if_pos ⟨hs,hm⟩]
   rfl
  ·have hb:=v5_ h
   rw[hb] at hl ⊢
   rw[List.cons_append,qm_]
   have hc: (UInt8.ofNat (n%128+128)).toNat=n%128+128:=by rw[UInt8.toNat_ofNat'];omega
   have hp:=afi_ (n / 128)
   rw[List.length_cons] at hl
   have e:acc+ (n%128+128)%128*128^k+n / 128*128^ (k+1)=acc+n*128^k:=by
    have h1: (n%128+128)%128=n%128:=by omega
    rw[h1,Nat.pow_succ,Nat.add_assoc]
    congr 1
    have h2:n / 128* (128^k*128)=(n / 128*128)*128^k:=by rw[Nat.mul_comm (128^k),Nat.mul_assoc]
    rw[h2,←Nat.add_mul]
    congr 1
    omega
   rw[hc,if_pos (by omega),if_neg (by omega),ih (n / 128) (by omega) (k+1) _ (fun _=>by omega) (by omega) (by rw[e];exact hs) (by rw[e];exact hm),e,List.length_cons]
   congr 2
   omega
theorem jo_ (A r:List UInt8) (n:Nat) (most:Int) (hn:n≤1099511627775) (hm: (n:Int)≤most):zx_ (A++ (qd_ n++r)) A.length 0 most=((n:Int),A.length+ (qd_ n).length,0):=by
 have hl:=xR_ 6 n (by omega) (by omega)
 have h:=abz_ most r n 0 0 (fun h=>absurd h (Nat.lt_irrefl 0)) (by omega) (by simpa using hn) (by simpa using hm)
 simp only[Nat.pow_zero,Nat.mul_one,Nat.zero_add] at h
 exact Jf_ rfl (by rw[List.drop_left];exact h)
theorem vV_ (A x r:List UInt8):qw_ (A++ (x++r)) A.length 0 (x.length:Int)=(x,A.length+x.length,0):=by
 unfold qw_
 rw[if_neg (by simp),if_neg (by omega),if_neg (by simp only[List.length_append];omega),List.drop_left,Int.toNat_natCast,List.take_left]
theorem aea_ (A t r:List UInt8) (most:Int) (hn:t.length≤1099511627775) (hm: (t.length:Int)≤most):zY_ (A++ (jQ_ t++r)) A.length 0 most=(t,A.length+ (jQ_ t).length,0):=by
 have h1:=jo_ A (t++r) t.length most hn hm
 have h2:=vV_ (A++qd_ t.length) t r
 unfold zY_ jQ_
 rw[q2_ (by omega)]
 rw[List.append_assoc,h1]
 simp only
 rw[List.append_assoc,List.length_append] at h2
 rw[h2]
 simp only[ne_eq,not_true_eq_false, ↓reduceIte,List.length_append,Nat.add_assoc]
theorem adf_ (A r:List UInt8) (i:IdL):idR (A++ (i.l++r)) A.length 0=(i.l,A.length+32,0):=by
 have h:=vV_ A i.l r
 have hi:=i.h
 rw[hi] at h
 unfold idR
 rw[show(32:Int)=((32:Nat):Int) from rfl,h]
 simp only[hi, ↓reduceIte]
theorem agg_ (i:IdL):vv_ i.l=i:=by unfold vv_;rw[dif_pos i.h]
def alM_ (l:List EntL):Prop:= ∀x,x∈l→0≤x.kind∧x.kind≤2∧x.name.length≤32
end Go.Proofs
end
section
open Go Go.Proofs Go.Sx Go.StP
namespace Go.Proofs
set_option maxRecDepth 10000
set_option maxHeartbeats 400000
set_option linter.unusedSimpArgs false
def idxT (s:List UInt8):List UInt8→Int
 | []=>0
 |c::_=>Lib.indexByte s c
abbrev letL:List UInt8:= [32,98,116,99]
def frR (s:List UInt8):List UInt8×Nat×Int:=qw_ s 0 0 1
def frT (s:List UInt8):List UInt8×Nat×Int:=zY_ s (frR s).2.1 (frR s).2.2 4096
def frK (s:List UInt8):Int:=idxT letL (frR s).1
def frOk (s:List UInt8):Bool:=vU_ s (frT s).2.1 (frT s).2.2==0&&RdOk (frK s) (frT s).1
def aoY_ (s:List UInt8) (v:Value):Prop:=v= .tuple #[obV (if frOk s then frK s else 0) (if frOk s then(frT s).1 else []),vi (if frOk s then 0 else 2)]
set_option linter.defProp false
def aqm_:=And.intro (And.intro (And.intro (@qZ_) (@qs_)) (And.intro (@qo_) (@qC_))) (And.intro (And.intro (@Sx.tup2_0) (@Sx.tup2_1)) (And.intro (@zf_) (@ze_)))
end Go.Proofs
end
section
open Go Go.Proofs Go.Sx Go.StP
namespace Go.Proofs
set_option maxRecDepth 10000
set_option maxHeartbeats 400000
set_option linter.unusedSimpArgs false
def fkC (c:UInt8):Int:=if c=98 then 1 else if c=116 then 2 else if c=99 then 3 else 0
def lfT (r:List UInt8):List UInt8×Nat×Int:=zY_ r 0 0 4096
def lfK (s:List UInt8):Int:=match s with| []=>0|c::_=>fkC c
def lfOk (s:List UInt8):Bool:=lfK s !=0&&vU_ (s.drop 1) (lfT (s.drop 1)).2.1 (lfT (s.drop 1)).2.2==0&&amj_ (lfK s) (lfT (s.drop 1)).1
def aoE_ (s:List UInt8) (v:Value):Prop:=v= .tuple #[obV (if lfOk s then lfK s else 0) (if lfOk s then(lfT (s.drop 1)).1 else []), .bool (lfOk s)]
theorem ae4_ (k k':Int) (t:List UInt8) (a:Bool) (E:TypeId):zn_ (some (a,1)) (some (.cells #[vi k',vs t] E (0,0))) 0 (vi k)=some (.cells #[vi k,vs t] E (0,0)):=(rfl)
theorem afM_ (k:Int) (t t':List UInt8) (a:Bool) (E:TypeId):zn_ (some (a,1)) (some (.cells #[vi k,vs t'] E (0,0))) 1 (vs t)=some (.cells #[vi k,vs t] E (0,0)):=(rfl)
set_option linter.defProp false
def apC_:=And.intro (And.intro (And.intro (@qZ_) (@qs_)) (And.intro (@qo_) (And.intro (@qC_) (@ae4_)))) (And.intro (And.intro (@afM_) (@Sx.tup2_0)) (And.intro (@Sx.tup2_1) (And.intro (@zf_) (@ze_))))
end Go.Proofs
end
namespace Go.Flo
open Go Ieee
abbrev F (n:Int):Nat:=FloatKind.f64.nearest n
def dat (n:Int):Datum:= .number (decide (n<0)) (n.natAbs*2^ (52 - n.natAbs.log2)) ((n.natAbs.log2:Int) - 52)
def plc (n:Int):Int:=if n=0 then -1074 else(n.natAbs.log2:Int) - 52
def mag (n:Int):Nat:=if n=0 then 0 else n.natAbs*2^ (52 - n.natAbs.log2)
end Go.Flo
namespace Go.Sx
open Go Go.Flo
def fl (n:Int):Value:= .float .f64 (F n)
def cx (a b:Int):Value:= .complex .f64 (F a) (F b)
section
variable {P:Program} {w0:World} {f:Fr} {L:zc_} {N:Fr→zc_→Prop} {ops:Array Oper} {rest:List Oper} {md:Md}
 {d:Option Tmp} {ty:TypeId} {ps:String} {af:Array Edge} {g:Option (Nat×Bool)}
theorem Ow.real {x:Operand} {ts:Array TypeId} {a b:Int} (hs:zo_ ops f ⟨d, .call ⟨.builtin .real, #[x],ts⟩,ty,ps,af,g⟩=false) (hx:ev f x=cx a b)
  (hn:Ow P w0 ops md.next rest (qU_ f d (fl a)) L N):Ow P w0 ops md (⟨d, .call ⟨.builtin .real, #[x],ts⟩,ty,ps,af,g⟩::rest) f L N:=by
 refine Ow.calm rfl rfl hs (fun w hw=> .inl ⟨fl a,w,L, ?_,hw,rfl,rfl⟩) hn
 simp only[execOp,resolve,Sem.run_bind,Sem.run_pure,Result.andThen_ok,invoke,builtin,List.map_toArray,List.map_cons,List.map_nil,hx]
 rfl
theorem Ow.imag {x:Operand} {ts:Array TypeId} {a b:Int} (hs:zo_ ops f ⟨d, .call ⟨.builtin .imag, #[x],ts⟩,ty,ps,af,g⟩=false) (hx:ev f x=cx a b)
  (hn:Ow P w0 ops md.next rest (qU_ f d (fl b)) L N):Ow P w0 ops md (⟨d, .call ⟨.builtin .imag, #[x],ts⟩,ty,ps,af,g⟩::rest) f L N:=by
 refine Ow.calm rfl rfl hs (fun w hw=> .inl ⟨fl b,w,L, ?_,hw,rfl,rfl⟩) hn
 simp only[execOp,resolve,Sem.run_bind,Sem.run_pure,Result.andThen_ok,invoke,builtin,List.map_toArray,List.map_cons,List.map_nil,hx]
 rfl
end
end Go.Sx
namespace Go.Sx
open Go Go.Flo
theorem WR_ (P:Program) (t:TypeId) (a b:Int):qE_ P .eql t (fl a) (fl b)=none:=by
 show(qz_ (P.underlying t) (fl a) (fl b)).map _=none
 unfold qz_ fl
 split<;>simp_all
theorem J3_ (P:Program) (t:TypeId) (a b a' b':Int):qE_ P .eql t (cx a b) (cx a' b')=none:=by
 show(qz_ (P.underlying t) (cx a b) (cx a' b')).map _=none
 unfold qz_ cx
 split<;>simp_all
section
variable {P:Program} {w0:World} {st:Bool} {f:Fr} {L:zc_} {md:Md} {d:Option Tmp} {ty:TypeId} {ps:String} {af:Array Edge} {g:Option (Nat×Bool)} {go:Fr→zc_→Prop} {stop:Prop}
theorem Vq_ (a:Array Operand) (t:Array TypeId):vcB P w0 st md ⟨d, .call ⟨.builtin .real,a,t⟩,ty,ps,af,g⟩ f L go stop=stop:=(rfl)
theorem KB_ (a:Array Operand) (t:Array TypeId):vcB P w0 st md ⟨d, .call ⟨.builtin .imag,a,t⟩,ty,ps,af,g⟩ f L go stop=stop:=(rfl)
theorem xV_ (a:Array Operand) (t:Array TypeId):vcB P w0 st md ⟨d, .call ⟨.builtin .complex,a,t⟩,ty,ps,af,g⟩ f L go stop=stop:=(rfl)
end
end Go.Sx
section
open Go Go.Proofs Go.Sx Go.StP Go.Flo
namespace Go.Proofs
set_option maxRecDepth 10000
set_option maxHeartbeats 400000
set_option linter.unusedSimpArgs false
structure PcL where
 a:Nat
 n:Nat
 x:List UInt8
def pc0:PcL:=⟨0,0,[]⟩
def pcC (p:PcL):List Value:= [cx p.a p.n,vs p.x]
def PcB (p:PcL):Prop:=p.a≤4099∧p.n≤4099
def cpV (p:PcL) (b:Int):Option (Nat×Nat):=if 1≤p.n∧p.n≤4099∧p.x= []∧(p.a:Int)≤b - p.n then some (p.a,p.n) else none
def alz_ (p:PcL) (b:Int):Nat:=if p.a=0∧p.n=0∧p.x.length≤4099 then p.x.length else match cpV p b with|some q=>q.2|none=>0
def sumP (b:Int) (l:List PcL):Nat:=(l.map fun p=>alz_ p b).sum
def anyZ (b:Int) (l:List PcL):Bool:=l.any fun p=>alz_ p b==0
def chkV (b:Int) (l:List PcL):Int×Int:=if b<0∨4099<b then(0,1) else if anyZ b l=true then(0,1) else if 4099<sumP b l then(0,19) else((sumP b l:Nat),0)
def pcT (base:List UInt8) (p:PcL):List UInt8:=match cpV p base.length with|some q=>(base.drop q.1).take q.2++p.x|none=>p.x
def txtP (base:List UInt8) (l:List PcL):List UInt8:=(l.map (pcT base)).flatten
def pcR (d:List UInt8) (a:Nat):PcL×Nat×Int:=
 if(zx_ d a 0 8199).1%2=1 then
  (⟨(zx_ d (zx_ d a 0 8199).2.1 (zx_ d a 0 8199).2.2 4099).1.toNat,((zx_ d a 0 8199).1 / 2).toNat,[]⟩,(zx_ d (zx_ d a 0 8199).2.1 (zx_ d a 0 8199).2.2 4099).2)
 else(⟨0,0,(qw_ d (zx_ d a 0 8199).2.1 (zx_ d a 0 8199).2.2 ((zx_ d a 0 8199).1 / 2)).1⟩,(qw_ d (zx_ d a 0 8199).2.1 (zx_ d a 0 8199).2.2 ((zx_ d a 0 8199).1 / 2)).2)
def pcsF (d:List UInt8):Nat→Nat→List PcL×Nat×Int
 |0,a=>([],a,0)
 |k+1,a=>if a<d.length then(if(pcR d a).2.2=0 then((pcR d a).1:: (pcsF d k (pcR d a).2.1).1,(pcsF d k (pcR d a).2.1).2) else([(pcR d a).1],(pcR d a).2)) else([],a,0)
def pcs (d:List UInt8) (a:Nat):List PcL×Nat×Int:=pcsF d (d.length - a) a
def aau_ (d:List UInt8):Option (Nat×List PcL):=
 if(zx_ d (zx_ d 0 0 4099).2.1 (zx_ d 0 0 4099).2.2 4099).2.2≠0 then none
 else if(pcs d (zx_ d (zx_ d 0 0 4099).2.1 (zx_ d 0 0 4099).2.2 4099).2.1).2.2≠0 then none
 else if chkV (zx_ d 0 0 4099).1 (pcs d (zx_ d (zx_ d 0 0 4099).2.1 (zx_ d 0 0 4099).2.2 4099).2.1).1=((zx_ d (zx_ d 0 0 4099).2.1 (zx_ d 0 0 4099).2.2 4099).1,0) then some ((zx_ d 0 0 4099).1.toNat,(pcs d (zx_ d (zx_ d 0 0 4099).2.1 (zx_ d 0 0 4099).2.2 4099).2.1).1)
 else none
def amE_ (base d:List UInt8):List UInt8×Int:=
 match aau_ d with
 |none=>([],2)
 |some p=>if p.1≠base.length then([],19) else(txtP base p.2,0)
end Go.Proofs
end
section
open Go Go.Proofs Go.Sx Go.StP Go.Flo
namespace Go.Proofs
set_option maxRecDepth 10000
set_option maxHeartbeats 400000
set_option linter.unusedSimpArgs false
set_option linter.defProp false
def apq_:=And.intro (@zf_) (And.intro (@ze_) (@WR_))
theorem j8_ (p:PcL) (E:TypeId) (n:Nat):zp_ (some (false,n)) (some (.cells (pcC p).toArray E (0,0))) 0=some (cx p.a p.n):=(rfl)
theorem j5_ (p:PcL) (E:TypeId) (n:Nat):zp_ (some (false,n)) (some (.cells (pcC p).toArray E (0,0))) 1=some (vs p.x):=(rfl)
theorem ks_ (p:PcL) (E:TypeId):zp_ (some (true,2)) (some (.cells (pcC p).toArray E (0,0))) 0=some (.agg (pcC p).toArray):=xB_ _ E (0,0) 2 rfl
theorem j9_ (p:PcL):Value.cells (.agg (pcC p).toArray)=(pcC p).toArray:=zg_ _
def cpO (p:PcL) (b:Int):Value:=match cpV p b with
 |some q=> .tuple #[vi q.1,vi q.2, .bool true]
 |none=> .tuple #[vi 0,vi 0, .bool false]
theorem cxz: (Value.complex FloatKind.f64 0 0)=cx 0 0:=id (by kernel_rfl)
set_option linter.defProp false
def ap2_:=And.intro (And.intro (And.intro (And.intro (@zf_) (@ze_)) (And.intro (@j8_) (@j5_))) (And.intro (And.intro (@ks_) (@j9_)) (And.intro (@J3_) (@cxz)))) (And.intro (And.intro (And.intro (@Vq_) (@KB_)) (And.intro (@xV_) (@Sx.tup2_0))) (And.intro (And.intro (@Sx.tup2_1) (@Sx.tup3_0)) (And.intro (@Sx.tup3_1) (@Sx.tup3_2))))
abbrev PcSl (w:World) (v:Value) (l:List PcL):Prop:=SlV 2 pcC pc0 w v l
def BndP (l:List PcL):Prop:= ∀g,g<l.length→PcB (l.getD g pc0)∧(l.getD g pc0).x.length<9223372036854775808
end Go.Proofs
end
section
open Go Go.Proofs Go.Sx Go.StP Go.Flo
namespace Go.Proofs
set_option maxRecDepth 10000
set_option maxHeartbeats 400000
set_option linter.unusedSimpArgs false
def pcAt (p:PcL) (b:Int):Nat×Nat:=match cpV p b with|some q=>q|none=>(0,0)
theorem BldAt.zeroK (b:Nat) {L:zc_} (h:Sx.look L b=some (.cells #[.pointer none, .slice none 0 0] 199 (0,0))):BldAt b [] L:=
 ⟨_,_,h, .inl rfl, .nl,fun h=>by cases h⟩
structure TxG where
 g:Nat
 D:zc_
 E:zc_
set_option linter.defProp false
def apc_:=And.intro (And.intro (And.intro (@zf_) (@ze_)) (And.intro (@j8_) (And.intro (@j5_) (@ks_)))) (And.intro (And.intro (@j9_) (And.intro (@Sx.tup2_0) (@Sx.tup2_1))) (And.intro (@Sx.tup3_0) (And.intro (@Sx.tup3_1) (@Sx.tup3_2))))
end Go.Proofs
end
namespace Go.Sx
open Go
section
variable {α:Type} {m:Nat} {enc:α→List Value} {z:α}
end
section
variable {P:Program} {w0:World} {f:Fr} {L:zc_} {N:Fr→zc_→Prop} {ops:Array Oper} {rest:List Oper} {md:Md} {d:Option Tmp} {ty:TypeId} {ps:String} {af:Array Edge} {g:Option (Nat×Bool)}
theorem Ow.makeSlice {t e:TypeId} {m:Bool×Nat} {z:Value} {x y:Operand} {n c:Nat} {md':Md} (he:md.turn=some md') (hs:zo_ ops f ⟨d, .makeSlice t x y,ty,ps,af,g⟩=false)
  (hu:P.underlying t=some (.slice e)) (hm:zP_ P e=some m) (hi:vb_ P e=true) (hz:zZ_ P e=some z) (hx:ev f x=vi n) (hy:ev f y=vi c) (hnc:n≤c) (hbig:c≤2^38)
  (hn: ∀b,xt_ L b→w0.heap.size≤b→Ow P w0 ops md' rest (qU_ f d (vsl b 0 n c)) (L++ [(b, .cells (madeCells z.cells (c*m.2)) e (0,0))]) N):
  Ow P w0 ops md (⟨d, .makeSlice t x y,ty,ps,af,g⟩::rest) f L N:=by
 refine Ow.step he rfl hs fun w hw=> .inl ⟨vsl w.heap.size 0 n c,w.alloc (.cells (madeCells z.cells (c*m.2)) e (0,0)),_, ?_,hw.alloc _,hn _ (qO_ fun b hb=>hw.lt hb) hw.size⟩
 obtain⟨i,hie,-,hb⟩:=vG_ hi hbig
 have hiz:i.zero=some z:=by
  unfold zZ_ at hz
  rw[hie] at hz
  exact hz
 have him:i.size=m.2:=by
  unfold zP_ at hm
  rw[hie] at hm
  split at hm
  ·rename_i h1 h2
   cases h2
   cases hm
   rfl
  ·cases hm
 have hbb: (i.bytes:Int)* (c:Int)≤281474976710656:=by
  have: ((i.bytes*c:Nat):Int)≤281474976710656:=by rw[Nat.mul_comm];exact Int.ofNat_le.2 hb
  rwa [Int.natCast_mul] at this
 have hr:=run_make (P:=P) w t e i z hu hie hiz .i64 .i64 (n:Int) (c:Int) (by omega) (by omega) hbb (by omega)
 simp only[Int.toNat_natCast,him] at hr
 show(execOp (ev f) _).run P w=_
 simp only[execOp,Sem.run_bind]
 rw[hx,hy]
 show((Instr.makeSlice t (.int .i64 (n:Int)) (.int .i64 (c:Int))).run P w).andThen _=_
 rw[hr]
 rfl
theorem Ow.appendXG {ts tx e:TypeId} {m:Bool×Nat} {z:Value} {s x:Operand} {n k:Nat} {cs new:List Value} {dx:TypeDesc} {md':Md} {X Y:zc_} (sv:Value) (hL:L=X++Y) (hsv:ev f s=sv) (he:md.turn=some md')
  (hs:zo_ ops f ⟨d, .call ⟨.builtin .append, #[s,x], #[ts,tx]⟩,ty,ps,af,g⟩=false)
  (hu:P.underlying ts=some (.slice e)) (hm:zP_ P e=some m) (hi:vb_ P e=true) (hz:zZ_ P e=some z) (hzs:z.cells.size=m.2) (hux:P.underlying tx=some dx) (hnx: ∀k,dx≠ .int k)
  (hB:Gr X e m.2 sv n cs) (hX: ∀w,Hp w0 L w→AppX P w m.2 (ev f x) k new) (hbig:2* (n+k)+768≤2^38)
  (hn: ∀B v' D,xt_ L B→w0.heap.size≤B→Gr D e m.2 v' (n+k) (cs++new)→(∀c,c∈keys X→c∈keys D)→(∀c,c∈keys D→c∈keys X∨B≤c)→(∀c o,slB sv≠some c→look X c=some o→look D c=some o)→Ow P w0 ops md' rest (qU_ f d v') (D++Y) N):
  Ow P w0 ops md (⟨d, .call ⟨.builtin .append, #[s,x], #[ts,tx]⟩,ty,ps,af,g⟩::rest) f L N:=by
 subst hL
 refine Ow.step he rfl hs fun w hw=> ?_
 have hp:=hw.part
 have hA:xt_ (X++Y) w.heap.size:=qO_ fun b hb=>hw.lt hb
 have fin: ∀v' w' D,(Builtin.append_ #[ts,tx] ty #[sv,ev f x]).run P w= .ok v' w'→Hp w D w'→Gr D e m.2 v' (n+k) (cs++new)→(∀c,c∈keys X→c∈keys D)→(∀c,c∈keys D→c∈keys X∨w.heap.size≤c)→(∀c o,slB sv≠some c→look X c=some o→look D c=some o)→
   (∃v w' L',(execOp (ev f) ⟨d, .call ⟨.builtin .append, #[s,x], #[ts,tx]⟩,ty,ps,af,g⟩).run P w= .ok (.value v) w'∧Hp w0 L' w'∧Ow P w0 ops md' rest (qU_ f d v) L' N):=by
  intro v' w' D hr hD hb h1 h2 h3
  refine⟨v',w',D++Y, ?_,hw.join hD h1 h2,hn w.heap.size v' D hA hw.size hb h1 h2 h3⟩
  simp only[execOp,resolve,Sem.run_bind,Sem.run_pure,Result.andThen_ok,invoke,builtin,List.map_toArray,List.map_cons,List.map_nil,hsv]
  rw[hr]
  rfl
 rcases hB with hB| ⟨rfl,rfl,b,rfl,hlk⟩
 ·obtain⟨v',w',D,hr,hD,hb,hg,-⟩:=XU_ (w0:=w) (L:=X) (ty:=ty) (x:=ev f x) hp hu hm hi hz hzs hux hnx hB (fun w2 hw2=>hX w2 (by
   refine hw.join hw2 (fun c hc=>hc) (fun c hc=> .inl hc))) hbig
  exact .inl (fin v' w' D hr hD (.inl hb) hg.keys (fun c hc=>(hg.new c hc).imp id And.right) hg.look)
 ·rcases Z6_ (w0:=w) (L:=X) (ty:=ty) (b:=b) (x:=ev f x) hp hu hm hi hz hzs hux hnx (fun w2 hw2=>hX w2 (by
   refine hw.join hw2 (fun c hc=>hc) (fun c hc=> .inl hc))) hbig with⟨h0,hr⟩ | ⟨-,v',w',D,hr,hD,hb,hg,-⟩
  ·subst h0
   have hnw:=(hX w hw).size
   obtain rfl:new= []:=List.eq_nil_of_length_eq_zero (by rw[hnw,Nat.zero_mul])
   exact .inl (fin _ w X hr hp (.inr ⟨rfl,rfl,b,rfl,hlk⟩) (fun c hc=>hc) (fun c hc=> .inl hc) (fun c o _ hl=>hl))
  ·exact .inl (fin v' w' D hr hD (.inl hb) hg.keys (fun c hc=>(hg.new c hc).imp id And.right) (fun c o _ hl=>hg.look c o (by simp[slB]) hl))
end
theorem New.perm {n:Nat} {D D':zc_} (h:New n D) (hp:D.Perm D'):New n D':=New.of_le fun c hc=>h.le c ((hp.map Prod.fst).mem_iff.2 hc)
end Go.Sx
section
open Go Go.Proofs Go.Sx Go.StP Go.Flo
namespace Go.Proofs
set_option maxRecDepth 10000
set_option maxHeartbeats 400000
set_option linter.unusedSimpArgs false
def dB (d:List UInt8):Int×Nat×Int:=zx_ d 0 0 4099
def dM (d:List UInt8):Int×Nat×Int:=zx_ d (dB d).2.1 (dB d).2.2 4099
structure EG where
 lab:Nat
 br:Nat
 a:Nat
 e:Int
 out:List PcL
 v:Value
 D:zc_
def drO (d:List UInt8) (a e:Int):Obj:= .cells #[vs d,vi a,vi e] 221 (0,0)
def EJ (d:List UInt8) (n:Nat) (g:EG):Prop:=
 (g.lab=1∧n≤g.br∧New n g.D∧g.br∉keys g.D∧Gr g.D 319 2 g.v g.out.length (g.out.map pcC).flatten∧g.a≤d.length∧BndP g.out∧g.out.length≤4099∧
  ((g.e≠0∧aau_ d=none)∨(g.e=0∧(dM d).2.2=0∧pcs d (dM d).2.1=(g.out++ (pcs d g.a).1,(pcs d g.a).2))))∨
 (g.lab=0∧n≤g.br∧New n g.D∧g.br∉keys g.D∧Gr g.D 319 2 g.v g.out.length (g.out.map pcC).flatten∧BndP g.out∧g.out.length≤4099∧(dM d).2.2=0∧pcs d (dM d).2.1=(g.out,d.length,0))∨
 (g.lab=2∧New n g.D∧aau_ d=none)
def EH (d:List UInt8) (g:EG):zc_:=match g.lab with
 |1=>(g.br,drO d g.a g.e)::g.D
 |0=>(g.br,drO d g.a g.e)::g.D
 |_=>g.D
def ES (d:List UInt8) (g:EG):List (Nat×Value):=match g.lab with
 |1=> [(5,vp g.br 0),(6,vi (dB d).1),(7,vi (dM d).1),(8,g.v)]
 |0=> [(6,vi (dB d).1),(7,vi (dM d).1),(8,g.v)]
 |_=> []
def EL (g:EG):Nat:=match g.lab with
 |1=>1
 |0=>0
 |_=>2
def aoN_ (d:List UInt8) (v:Value) (D:zc_):Prop:=match aau_ d with
 |some p=> ∃x,v= .tuple #[vi p.1,x,vi 0]∧BndP p.2∧p.2.length≤4099∧p.1≤4099∧GrI D 319 2 x p.2.length (p.2.map pcC).flatten
 |none=>v= .tuple #[vi 0, .slice none 0 0,vi 2]
def pcE (d:List UInt8) (a:Nat) (e:Int):PcL×Nat×Int:=
 if(zx_ d a e 8199).1%2=1 then
  (⟨(zx_ d (zx_ d a e 8199).2.1 (zx_ d a e 8199).2.2 4099).1.toNat,((zx_ d a e 8199).1 / 2).toNat,[]⟩,(zx_ d (zx_ d a e 8199).2.1 (zx_ d a e 8199).2.2 4099).2)
 else(⟨0,0,(qw_ d (zx_ d a e 8199).2.1 (zx_ d a e 8199).2.2 ((zx_ d a e 8199).1 / 2)).1⟩,(qw_ d (zx_ d a e 8199).2.1 (zx_ d a e 8199).2.2 ((zx_ d a e 8199).1 / 2)).2)
set_option linter.defProp false
def apn_:=And.intro (And.intro (And.intro (@zf_) (And.intro (@ze_) (@j8_))) (And.intro (@j5_) (And.intro (@ks_) (@j9_)))) (And.intro (And.intro (@Sx.tup2_0) (And.intro (@Sx.tup2_1) (@Sx.tup3_0))) (And.intro (@Sx.tup3_1) (And.intro (@Sx.tup3_2) (@xV_))))
end Go.Proofs
end
section
open Go Go.Proofs Go.Sx Go.StP Go.Flo
namespace Go.Proofs
set_option maxRecDepth 10000
set_option maxHeartbeats 400000
set_option linter.unusedSimpArgs false
set_option linter.defProp false
def ao5_:=And.intro (And.intro (And.intro (@zf_) (@ze_)) (And.intro (@j8_) (And.intro (@j5_) (@ks_)))) (And.intro (And.intro (@j9_) (And.intro (@Sx.tup2_0) (@Sx.tup2_1))) (And.intro (@Sx.tup3_0) (And.intro (@Sx.tup3_1) (@Sx.tup3_2))))
end Go.Proofs
end
section
open Go Go.Proofs Go.Sx Go.StP Go.Flo
namespace Go.Proofs
set_option maxRecDepth 10000
set_option maxHeartbeats 400000
set_option linter.unusedSimpArgs false
structure PartL where
 d:Bool
 b:Int
 x:List UInt8
def ZD_:PartL:=⟨false,0,[]⟩
def jE_ (p:PartL):List Value:= [.bool p.d,vi p.b,vs p.x]
theorem agI_ (p:PartL): (jE_ p).all Value.oneCell'=true:=rfl
def afP_ (l:List PartL):Nat→Nat→Except Int (List Nat)
 |0,_=> .error 11
 |k+1,at_=>
  if(l.getD at_ ZD_).d=true then
   (if(l.getD at_ ZD_).b<0∨(at_:Int)≤ (l.getD at_ ZD_).b then .error 2
   else if k=0 then .error 11
   else(afP_ l k (l.getD at_ ZD_).b.toNat).map (at_:: ·))
  else if(l.getD at_ ZD_).b≠0 then .error 2 else .ok [at_]
def aiN_ (l:List PartL) (at_:Int):Except Int (List Nat):=
 if 200<l.length∨at_<0∨(l.length:Int)≤at_ then .error 1 else afP_ l 5 at_.toNat
def Jo_ (p:PartL) (base:List UInt8):List UInt8×Int:=if p.d=true then amE_ base p.x else if 4099<p.x.length then([],19) else(p.x,0)
def ame_ (l:List PartL):List Nat→Except Int (List UInt8)
 | []=> .ok []
 |a::p=>(ame_ l p).bind fun s=>if(Jo_ (l.getD a ZD_) s).2=0 then .ok (Jo_ (l.getD a ZD_) s).1 else .error (Jo_ (l.getD a ZD_) s).2
def partV (l:List PartL) (at_:Int):Except Int (List UInt8):=(aiN_ l at_).bind (ame_ l)
def alS_ (l:List PartL):Nat→Except Int (List (List UInt8))
 |0=> .ok []
 |k+1=>(alS_ l k).bind fun ts=>(partV l (k:Nat)).map fun s=>ts++ [s]
def allV (l:List PartL):Except Int (List (List UInt8)):=if 200<l.length then .error 1 else alS_ l l.length
end Go.Proofs
end
section
open Go Go.Proofs Go.Sx Go.StP Go.Flo
namespace Go.Proofs
set_option maxRecDepth 10000
set_option maxHeartbeats 400000
set_option linter.unusedSimpArgs false
def natC (n:Nat):List Value:= [vi n]
abbrev aoK_ (w:World) (v:Value) (l:List PartL):Prop:=SlV 3 jE_ ZD_ w v l
theorem jk_ (p:PartL) (E:TypeId) (n:Nat):zp_ (some (false,n)) (some (.cells (jE_ p).toArray E (0,0))) 0=some (.bool p.d):=(rfl)
theorem jj_ (p:PartL) (E:TypeId) (n:Nat):zp_ (some (false,n)) (some (.cells (jE_ p).toArray E (0,0))) 1=some (vi p.b):=(rfl)
theorem jf_ (p:PartL) (E:TypeId) (n:Nat):zp_ (some (false,n)) (some (.cells (jE_ p).toArray E (0,0))) 2=some (vs p.x):=(rfl)
theorem qR_ (p:PartL):Value.cells (.agg (jE_ p).toArray)=(jE_ p).toArray:=zg_ _
theorem XZ_ (p q:PartL) (E:TypeId):zn_ (some (true,3)) (some (.cells (jE_ q).toArray E (0,0))) 0 (.agg (jE_ p).toArray)=some (.cells (jE_ p).toArray E (0,0)):=
 x6_ (jE_ p) (n:=3) true (jE_ q).toArray E rfl (agI_ p) rfl
structure PaG where
 lab:Nat
 at_:Nat
 out:List Nat
 v:Value
 b7:Nat
 q:PartL
 e:Int
 D:zc_
def PaJ (l:List PartL) (a0:Int) (n:Nat) (g:PaG):Prop:=
 (g.lab=1∧n≤g.b7∧New n g.D∧g.b7∉keys g.D∧Gr g.D 3 1 g.v g.out.length (g.out.map natC).flatten∧g.at_<l.length∧l.length≤200∧g.out.length≤4∧
  aiN_ l a0=(afP_ l (5 - g.out.length) g.at_).map (g.out++ ·))∨
 (g.lab=0∧New n g.D∧aiN_ l a0= .error g.e)
def PaH (g:PaG):zc_:=match g.lab with
 |1=>(g.b7, .cells (jE_ g.q).toArray 286 (0,0))::g.D
 |_=>g.D
def PaS (g:PaG):List (Nat×Value):=match g.lab with
 |1=> [(1,vi g.at_),(6,g.v),(7,vp g.b7 0),(8,vi 1)]
 |_=> [(8,vi g.e)]
def PaL (g:PaG):Nat:=match g.lab with
 |1=>1
 |_=>0
def aqc_ (l:List PartL) (a0:Int) (v:Value) (D:zc_):Prop:=match aiN_ l a0 with
 | .ok p=> ∃x,v= .tuple #[x,vi 0]∧p.length≤5∧GrI D 3 1 x p.length (p.map natC).flatten
 | .error e=>v= .tuple #[.slice none 0 0,vi e]
set_option linter.defProp false
def aqi_:=And.intro (And.intro (And.intro (@zf_) (@ze_)) (And.intro (@jk_) (@jj_))) (And.intro (And.intro (@jf_) (@qR_)) (And.intro (@Sx.tup2_0) (@Sx.tup2_1)))
end Go.Proofs
end
section
open Go Go.Proofs Go.Sx Go.StP Go.Flo
namespace Go.Proofs
set_option maxRecDepth 10000
set_option maxHeartbeats 400000
set_option linter.unusedSimpArgs false
def BndL (l:List PartL):Prop:= ∀g,g<l.length→(l.getD g ZD_).x.length<9223372036854775808
set_option linter.defProp false
def ap0_:=And.intro (And.intro (And.intro (@zf_) (@ze_)) (And.intro (@jk_) (@jj_))) (And.intro (And.intro (@jf_) (@qR_)) (And.intro (@Sx.tup2_0) (@Sx.tup2_1)))
def ap1_ (r:Except Int (List UInt8)):Value:=match r with
 | .ok s=> .tuple #[vs s,vi 0]
 | .error e=> .tuple #[vs [],vi e]
end Go.Proofs
end
section
open Go Go.Proofs Go.Sx Go.StP Go.Flo
namespace Go.Proofs
set_option maxRecDepth 10000
set_option maxHeartbeats 400000
set_option linter.unusedSimpArgs false
def alx_:Nat→List (List UInt8)→List (Int×List UInt8)
 |_,[]=> []
 |i,t::ts=>((i:Int),t)::alx_ (i+1) ts
def tabT (ts:List (List UInt8)):List (Int×List UInt8):=alx_ 0 ts
abbrev MapT (o:Obj) (ts:List (List UInt8)):Prop:=MapG vi vs o (tabT ts)
theorem afV_ (v:Value) (E:TypeId) (n:Nat):zp_ (some (false,n)) (some (.cells #[v] E (0,0))) 0=some v:=(rfl)
set_option linter.defProp false
def aph_:=And.intro (And.intro (And.intro (@zf_) (@ze_)) (And.intro (@afV_) (@jk_))) (And.intro (And.intro (@jj_) (@jf_)) (And.intro (@qR_) (And.intro (@Sx.tup2_0) (@Sx.tup2_1))))
end Go.Proofs
end
section
open Go Go.Proofs Go.Sx Go.StP Go.Flo
namespace Go.Proofs
set_option maxRecDepth 10000
set_option maxHeartbeats 400000
set_option linter.unusedSimpArgs false
def kU_ (s:List UInt8):List Value:= [vs s]
structure AlG where
 ts:List (List UInt8)
 v:Value
 o:Obj
 D:zc_
def AllS (l:List PartL) (v:Value) (D:zc_):Prop:=match allV l with
 | .ok ts=> ∃x,v= .tuple #[x,vi 0]∧GrI D 9 1 x ts.length (ts.map kU_).flatten
 | .error e=>v= .tuple #[.slice none 0 0,vi e]
theorem aeO_ (b:Nat) (E:TypeId) (x:Value):zn_ (some (false,1)) (some (.cells #[x] E (0,0))) 0 (vm b)=some (.cells #[vm b] E (0,0)):=(rfl)
set_option linter.defProp false
def apb_:=And.intro (And.intro (@zf_) (And.intro (@ze_) (@afV_))) (And.intro (@aeO_) (And.intro (@Sx.tup2_0) (@Sx.tup2_1)))
end Go.Proofs
end
namespace Go.Dig
open Go.Sx
def hexL:List UInt8:= [48,49,50,51,52,53,54,55,56,57,97,98,99,100,101,102]
def Kb_ (b:UInt8):Int:=if 48≤b.toNat∧b.toNat≤57 then(b.toNat:Int) - 48 else if 97≤b.toNat∧b.toNat≤102 then(b.toNat:Int) - 97+10 else -1
def hexD (n:Nat):UInt8:=hexL.getD n 0
def hexB (b:UInt8):List UInt8:= [hexD (b.toNat / 16),hexD (b.toNat%16)]
def hexV (id:List UInt8):List UInt8:=id.flatMap hexB
def aoA_ (id:List UInt8) (g:Nat):List UInt8:=hexV (id.take g)++List.replicate (64 - 2*g) 0
def ajH_ (l:List UInt8) (n:Nat):List UInt8:=(List.range n).map fun i=>UInt8.ofInt (Kb_ (l.getD (2*i) 0)*16+Kb_ (l.getD (2*i+1) 0))
def anw_ (l:List UInt8):Bool:=l.length==64&&l.all fun c=>decide (0≤Kb_ c)
def aou_ (l:List UInt8):List UInt8:=if anw_ l then ajH_ l 32 else List.replicate 32 0
def ann_ (l:List UInt8) (g:Nat):List UInt8:=ajH_ l g++List.replicate (32 - g) 0
def refB (l:List UInt8) (i k:Nat):UInt8:=
 if 2*k+1<i then UInt8.ofInt (Kb_ (l.getD (2*k) 0)*16+Kb_ (l.getD (2*k+1) 0)) else if 2*k<i then UInt8.ofInt (Kb_ (l.getD (2*k) 0)) else 0
def aoH_ (l:List UInt8) (i:Nat):List UInt8:=(List.range 32).map (refB l i)
def rgt (x:UInt32) (n:UInt64):UInt32:=qc_ x n.toNat|||xo_ x (32 - n).toNat
def rol (x:UInt32) (k:Int):UInt32:=xo_ x (UInt64.ofInt k&&&31).toNat|||qc_ x (32 - (UInt64.ofInt k&&&31)).toNat
def aq2_ (x:UInt32) (a b c:Int):UInt32:=rol x (-a)^^^rol x (-b)^^^qc_ x c.toNat
def apo_ (x:UInt32) (a b c:Int):UInt32:=rol x (-a)^^^rol x (-b)^^^rol x (-c)
def S1 (e:UInt32):UInt32:=rgt e 6^^^rgt e 11^^^rgt e 25
def S0 (a:UInt32):UInt32:=rgt a 2^^^rgt a 13^^^rgt a 22
def s1 (y:UInt32):UInt32:=rgt y 17^^^rgt y 19^^^qc_ y 10
def s0 (x:UInt32):UInt32:=rgt x 7^^^rgt x 18^^^qc_ x 3
def kL:List UInt32:= [1116352408,1899447441,3049323471,3921009573,961987163,1508970993,2453635748,2870763221,3624381080,310598401,607225278,1426881987,1925078388,2162078206,2614888103,3248222580,3835390401,4022224774,264347078,604807628,770255983,1249150122,1555081692,1996064986,2554220882,2821834349,2952996808,3210313671,3336571891,3584528711,113926993,338241895,666307205,773529912,1294757372,1396182291,1695183700,1986661051,2177026350,2456956037,2730485921,2820302411,3259730800,3345764771,3516065817,3600352804,4094571909,275423344,430227734,506948616,659060556,883997877,958139571,1322822218,1537002063,1747873779,1955562222,2024104815,2227730452,2361852424,2428436474,2756734187,3204031479,3329325298]
def V3_:List UInt32:= [1779033703,3144134277,1013904242,2773480762,1359893119,2600822924,528734635,1541459225]
def anX_ (b:List UInt8) (i:Nat):UInt32:=
 UInt32.ofNat (b.getD (4*i) 0).toNat*16777216+UInt32.ofNat (b.getD (4*i+1) 0).toNat*65536+UInt32.ofNat (b.getD (4*i+2) 0).toNat*256+UInt32.ofNat (b.getD (4*i+3) 0).toNat
def wPre (b:List UInt8) (i:Nat):List UInt32:=(List.range 64).map fun j=>if j<i then anX_ b j else 0
def aog_ (w:List UInt32) (g:Nat):List UInt32:=w.set g (s1 (w.getD (g - 2) 0)+w.getD (g - 7) 0+s0 (w.getD (g - 15) 0)+w.getD (g - 16) 0)
def wGo (w:List UInt32):Nat→List UInt32
 |0=>w
 |n+1=>aog_ (wGo w n) (16+n)
def wAll (b:List UInt8):List UInt32:=wGo (wPre b 16) 48
def anJ_ (s:List UInt32) (k w:UInt32):List UInt32:=
 let t:=s.getD 7 0+S1 (s.getD 4 0)+ (s.getD 4 0&&&s.getD 5 0||| ~~~ s.getD 4 0&&&s.getD 6 0)+k+w
 let u:=S0 (s.getD 0 0)+ (s.getD 0 0&&&s.getD 1 0|||s.getD 0 0&&&s.getD 2 0|||s.getD 1 0&&&s.getD 2 0)
 [t+u,s.getD 0 0,s.getD 1 0,s.getD 2 0,s.getD 3 0+t,s.getD 4 0,s.getD 5 0,s.getD 6 0]
def rGo (st w:List UInt32):Nat→List UInt32
 |0=>st
 |n+1=>anJ_ (rGo st w n) (kL.getD n 0) (w.getD n 0)
def afQ_ (st s:List UInt32) (i:Nat):List UInt32:=(List.range 8).map fun j=>if j<i then st.getD j 0+s.getD j 0 else st.getD j 0
theorem Kv_ (st s:List UInt32) (i:Nat): (afQ_ st s i).length=8:=by simp[afQ_]
def comp (st:List UInt32) (b:List UInt8):List UInt32:=afQ_ st (rGo st (wAll b) 64) 8
theorem aaZ_ (st:List UInt32) (b:List UInt8): (comp st b).length=8:=Kv_ _ _ _
def Kr_ (st:List UInt32) (m:List UInt8):Nat→List UInt32
 |0=>st
 |n+1=>comp (Kr_ st m n) ((m.drop (64*n)).take 64)
theorem Wg_ (st:List UInt32) (m x:List UInt8) (n:Nat) (h:64*n≤m.length):Kr_ st (m++x) n=Kr_ st m n:=by
 induction n with
 |zero=>rfl
 |succ n ih=>
  simp only[Kr_]
  rw[ih (by omega),List.drop_append_of_le_length (by omega),List.take_append_of_le_length (by simp;omega)]
def vq_ (bg:Bool) (st:List UInt32) (rest:List UInt8) (many:Int) (taken:UInt64):List Value:=
 .bool bg:: (st.map (fun x=>Value.int .u32 (x.toNat:Int))++ (rest.map (fun x=>Value.int .u8 (x.toNat:Int))++ [vi many,v64 taken]))
def qp_ (bg:Bool) (st:List UInt32) (rest:List UInt8) (many:Int) (taken:UInt64):Array Value:=(vq_ bg st rest many taken).toArray
section
variable {bg:Bool} {st:List UInt32} {rest:List UInt8} {many:Int} {taken:UInt64} {E:TypeId}
theorem jF_ (h:st.length=8∧rest.length=64): (qp_ bg st rest many taken).size=75:=by simp[qp_,vq_,h]
theorem afN_: (qp_ bg st rest many taken)[0]? =some (.bool bg):=rfl
theorem ag2_ (k:Nat) (hk:k<8) (h:st.length=8): (qp_ bg st rest many taken)[1+k]? =some (v32 (st.getD k 0)):=by
 have:1+k=k+1:=by omega
 rw[this,qp_,List.getElem?_toArray,vq_,List.getElem?_cons_succ,List.getElem?_append_left (by simp;omega)]
 simp[v32,List.getD_eq_getElem?_getD,h,hk]
theorem WC_ (k:Nat) (hk:k<64) (h:st.length=8∧rest.length=64): (qp_ bg st rest many taken)[9+k]? =some (v8 (rest.getD k 0)):=by
 have:9+k=(8+k)+1:=by omega
 rw[this,qp_,List.getElem?_toArray,vq_,List.getElem?_cons_succ,List.getElem?_append_right (by simp;omega),List.getElem?_append_left (by simp;omega)]
 have e:8+k - (List.map (fun x:UInt32=>Value.int .u32 (x.toNat:Int)) st).length=k:=by simp;omega
 rw[e]
 simp[v8,List.getD_eq_getElem?_getD,h,hk]
theorem agD_ (h:st.length=8∧rest.length=64): (qp_ bg st rest many taken)[73]? =some (vi many):=by
 rw[qp_,List.getElem?_toArray,vq_,List.getElem?_cons_succ,List.getElem?_append_right (by simp;omega),List.getElem?_append_right (by simp;omega)]
 simp[h]
theorem agJ_ (h:st.length=8∧rest.length=64): (qp_ bg st rest many taken)[74]? =some (v64 taken):=by
 rw[qp_,List.getElem?_toArray,vq_,List.getElem?_cons_succ,List.getElem?_append_right (by simp;omega),List.getElem?_append_right (by simp;omega)]
 simp[h]
theorem v4_ (n:Nat):zp_ (some (false,n)) (some (.cells (qp_ bg st rest many taken) E (0,0))) 0=some (.bool bg):=afN_
theorem wi_ (n k:Nat) (h:k<8∧st.length=8):zp_ (some (false,n)) (some (.cells (qp_ bg st rest many taken) E (0,0))) (1+k)=some (v32 (st.getD k 0)):=ag2_ k h.1 h.2
theorem wj_ (n k:Nat) (h:k<64∧st.length=8∧rest.length=64):zp_ (some (false,n)) (some (.cells (qp_ bg st rest many taken) E (0,0))) (9+k)=some (v8 (rest.getD k 0)):=WC_ k h.1 h.2
theorem k5_ (n j k:Nat) (h:j+k<64∧st.length=8∧rest.length=64):zp_ (some (false,n)) (some (.cells (qp_ bg st rest many taken) E (0,0))) (9+j+k)=some (v8 (rest.getD (j+k) 0)):=by
 rw[Nat.add_assoc];exact WC_ (j+k) h.1 h.2
theorem v8_ (n:Nat) (h:st.length=8∧rest.length=64):zp_ (some (false,n)) (some (.cells (qp_ bg st rest many taken) E (0,0))) 73=some (vi many):=agD_ h
theorem wc_ (n:Nat) (h:st.length=8∧rest.length=64):zp_ (some (false,n)) (some (.cells (qp_ bg st rest many taken) E (0,0))) 74=some (v64 taken):=agJ_ h
theorem k2_ (h:st.length=8∧rest.length=64):zp_ (some (true,8)) (some (.cells (qp_ bg st rest many taken) E (0,0))) 1=some (.agg (a32 st)):=by
 have hs:1+8≤ (qp_ bg st rest many taken).size:=by rw[jF_ h];omega
 simp only[zp_,hs, ↓reduceIte]
 congr 2
 rw[qp_,a32,vq_]
 simp only[List.extract_toArray,List.extract_eq_take_drop]
 congr 1
 simp[h]
theorem kf_ (h:st.length=8∧rest.length=64):zp_ (some (true,75)) (some (.cells (qp_ bg st rest many taken) E (0,0))) 0=some (.agg (qp_ bg st rest many taken)):=xB_ _ _ _ _ (jF_ h)
theorem ahJ_: (qp_ bg st rest many taken).toList.all Value.oneCell'=true:=by
 simp[qp_,vq_,Value.oneCell',vi,v64]
theorem xx_ (old:Array Value) (h:st.length=8∧rest.length=64∧old.size=75):zn_ (some (true,75)) (some (.cells old E (0,0))) 0 (.agg (qp_ bg st rest many taken))=some (.cells (qp_ bg st rest many taken) E (0,0)):=
 wT_ _ _ _ _ _ ⟨jF_ ⟨h.1,h.2.1⟩,h.2.2⟩ ahJ_
theorem vN_ (i:Nat) (v:Value): (qp_ bg st rest many taken).setIfInBounds i v=((vq_ bg st rest many taken).set i v).toArray:=by simp[qp_]
theorem vk_ (b:Bool) (h:st.length=8∧rest.length=64):zn_ (some (false,1)) (some (.cells (qp_ bg st rest many taken) E (0,0))) 0 (.bool b)=some (.cells (qp_ b st rest many taken) E (0,0)):=by
 rw[xY_ _ _ _ _ _ (by rw[jF_ h];omega) rfl rfl,vN_];rfl
theorem k7_ (k:Nat) (x:UInt32) (h:k<8∧st.length=8∧rest.length=64):zn_ (some (false,1)) (some (.cells (qp_ bg st rest many taken) E (0,0))) (1+k) (v32 x)=some (.cells (qp_ bg (st.set k x) rest many taken) E (0,0)):=by
 have e:1+k=k+1:=by omega
 rw[xY_ _ _ _ _ _ (by rw[jF_ h.2];omega) rfl rfl,vN_,e,vq_,List.set_cons_succ,List.set_append_left _ _ (by simp;omega)]
 simp only[qp_,vq_,List.map_set];rfl
theorem vi_ (k:Nat) (x:UInt8) (h:k<64∧st.length=8∧rest.length=64):zn_ (some (false,1)) (some (.cells (qp_ bg st rest many taken) E (0,0))) (9+k) (v8 x)=some (.cells (qp_ bg st (rest.set k x) many taken) E (0,0)):=by
 have e:9+k=(8+k)+1:=by omega
 rw[xY_ _ _ _ _ _ (by rw[jF_ h.2];omega) rfl rfl,vN_,e,vq_,List.set_cons_succ,List.set_append_right _ _ (by simp;omega),List.set_append_left _ _ (by simp;omega)]
 have e2:8+k - (List.map (fun x:UInt32=>Value.int .u32 (x.toNat:Int)) st).length=k:=by simp;omega
 rw[e2]
 simp only[qp_,vq_,List.map_set];rfl
theorem k4_ (m:Int) (h:st.length=8∧rest.length=64):zn_ (some (false,1)) (some (.cells (qp_ bg st rest many taken) E (0,0))) 73 (vi m)=some (.cells (qp_ bg st rest m taken) E (0,0)):=by
 rw[xY_ _ _ _ _ _ (by rw[jF_ h];omega) rfl rfl,vN_,vq_,List.set_cons_succ,List.set_append_right _ _ (by simp;omega),List.set_append_right _ _ (by simp;omega)]
 simp[qp_,vq_,h]
theorem vm_ (t:UInt64) (h:st.length=8∧rest.length=64):zn_ (some (false,1)) (some (.cells (qp_ bg st rest many taken) E (0,0))) 74 (v64 t)=some (.cells (qp_ bg st rest many t) E (0,0)):=by
 rw[xY_ _ _ _ _ _ (by rw[jF_ h];omega) rfl rfl,vN_,vq_,List.set_cons_succ,List.set_append_right _ _ (by simp;omega),List.set_append_right _ _ (by simp;omega)]
 simp[qp_,vq_,h]
theorem ko_ (st':List UInt32) (h:st.length=8∧rest.length=64∧st'.length=8):zn_ (some (true,8)) (some (.cells (qp_ bg st rest many taken) E (0,0))) 1 (.agg (a32 st'))=some (.cells (qp_ bg st' rest many taken) E (0,0)):=by
 have hs:1+8≤ (qp_ bg st rest many taken).size:=by rw[jF_ ⟨h.1,h.2.1⟩];omega
 have hp:x8_ (qp_ bg st rest many taken) 1 (a32 st').toList=qp_ bg st' rest many taken:=by
  have:=KK_ (a32 st').toList [.bool bg] (st.map fun x=>Value.int .u32 (x.toNat:Int)) (rest.map (fun x=>Value.int .u8 (x.toNat:Int))++ [vi many,v64 taken]) (by simp[a32,h])
  simpa [qp_,vq_,a32] using this
 have h1: (a32 st').size=8:=by rw[w7_];exact h.2.2
 simp only[zn_,zg_,h1,hs,Nat.le_refl,true_or,afX_,and_self, ↓reduceIte,hp]
end
def acc (b:List UInt8) (i:Nat):Nat→UInt32
 |0=>0
 |k+1=>xo_ (acc b i k) 8|||UInt32.ofNat (b.getD (4*i+k) 0).toNat
theorem jh_ {α:Type} (l:List α) (i:Nat) (x d:α) (h:i<l.length): (l.set i x).getD i d=x:=by
 simp[List.getD_eq_getElem?_getD,h]
def wG (b:List UInt8) (g:Nat):List UInt32:=wGo (wPre b 16) (g - 16)
def Glob (w:World):Prop:= ∃e0 e1 f0 f1,w.heap[0]? =some (.cells (a32 V3_) e0 f0)∧w.heap[1]? =some (.cells (a32 kL) e1 f1)
theorem Glob.of {w0 w:World} {L:zc_} (hg:Glob w0) (h:Hp w0 L w) (hk: ∀b,b∈keys L→1<b):Glob w:=by
 obtain⟨e0,e1,f0,f1,h0,h1⟩:=hg
 refine⟨e0,e1,f0,f1, ?_, ?_⟩
 ·rw[h.old 0 (Array.getElem?_eq_some_iff.1 h0).1 (fun hm=>by have:=hk 0 hm;omega)];exact h0
 ·rw[h.old 1 (Array.getElem?_eq_some_iff.1 h1).1 (fun hm=>by have:=hk 1 hm;omega)];exact h1
structure Hs where
 st:List UInt32
 rest:List UInt8
 many:Nat
structure Hs.Ok (s:Hs):Prop where
 st:s.st.length=8
 rest:s.rest.length=64
 many:s.many<64
def hput (s:Hs) (x:UInt8):Hs:=
 if s.many+1=64 then⟨comp s.st (s.rest.set s.many x),s.rest.set s.many x,0⟩ else⟨s.st,s.rest.set s.many x,s.many+1⟩
theorem alc_ {s:Hs} (x:UInt8) (h:s.Ok): (hput s x).Ok:=by
 unfold hput
 split
 ·exact⟨aaZ_ _ _,by simp[h.rest],by show(0:Nat)<64;omega⟩
 ·exact⟨h.st,by simp[h.rest],by show s.many+1<64;have:=h.many;omega⟩
def ak5_ (s:Hs) (l:List UInt8):Hs:=l.foldl hput s
def aoW_ (bg:Bool) (s:Hs):Hs:=if bg then s else{s with st:=V3_}
def apY_ (s:Hs) (taken:UInt64):Array Value:=qp_ true s.st s.rest s.many taken
def amw_ (t:UInt64) (l:List (List UInt8)):UInt64:=l.foldl (fun t a=>t+UInt64.ofNat a.length) t
theorem loadV_one (cs:Array Value) (E:TypeId) (fz:Nat×Nat) (n i:Nat):zp_ (some (false,n)) (some (.cells cs E fz)) i=cs[i]? :=(rfl)
structure Strs (w:World) (v:Value) (l:List (List UInt8)):Prop where
 nil_or: (l= []∧v= .slice none 0 0)∨ ∃b off c arr E fz,v=vsl b off l.length c∧w.heap[b]? =some (.cells arr E fz)∧ ∀i,i<l.length→arr[off+i]? =some (vs (l.getD i []))
end Go.Dig
section
open Go Go.Proofs Go.Sx Go.Dig
namespace Go.Proofs
set_option maxRecDepth 10000
set_option maxHeartbeats 4000000
set_option linter.unusedSimpArgs false
end Go.Proofs
end
section
open Go Go.Proofs Go.Sx Go.Dig
namespace Go.Proofs
set_option maxRecDepth 10000
set_option maxHeartbeats 4000000
set_option linter.unusedSimpArgs false
set_option linter.defProp false
def aqf_:=And.intro (And.intro (And.intro (And.intro (@v4_) (@wi_)) (And.intro (@wj_) (@k5_))) (And.intro (And.intro (@v8_) (@wc_)) (And.intro (@k2_) (@kf_)))) (And.intro (And.intro (And.intro (@xx_) (@vk_)) (And.intro (@k7_) (@vi_))) (And.intro (And.intro (@k4_) (@vm_)) (And.intro (@ko_) (@jh_))))
end Go.Proofs
end
section
open Go Go.Proofs Go.Sx Go.Dig
namespace Go.Proofs
set_option maxRecDepth 10000
set_option maxHeartbeats 1000000
set_option linter.unusedSimpArgs false
set_option linter.defProp false
def apz_:=And.intro (And.intro (And.intro (And.intro (@v4_) (@wi_)) (And.intro (@wj_) (@k5_))) (And.intro (And.intro (@v8_) (@wc_)) (And.intro (@k2_) (@kf_)))) (And.intro (And.intro (And.intro (@xx_) (@vk_)) (And.intro (@k7_) (@vi_))) (And.intro (And.intro (@k4_) (@vm_)) (And.intro (@ko_) (@jh_))))
end Go.Proofs
end
namespace Go.Dig
open Go.Sx
def am2_ (m:Nat):Nat:=(120 - m)%64
def lenB (t:UInt64) (g:Nat):UInt8:=UInt8.ofNat (jH_ (8*t) (56 - 8*g)).toNat
def len8 (t:UInt64):List UInt8:=(List.range 8).map (lenB t)
def outB (st:List UInt32) (j:Nat):UInt8:=UInt8.ofNat (qc_ (st.getD (j / 4) 0) (24 - 8* (j%4))).toNat
def adh_ (st:List UInt32) (k:Nat):List UInt8:=(List.range 32).map fun j=>if j<k then outB st j else 0
def aml_ (s:Hs) (taken:UInt64):Hs:=ak5_ (ak5_ (hput s 128) (List.replicate (am2_ (hput s 128).many) 0)) (len8 taken)
def hsum (s:Hs) (taken:UInt64):List UInt8:=adh_ (aml_ s taken).st 32
def H0:Hs:=⟨V3_,List.replicate 64 0,0⟩
theorem anP_:H0.Ok:=⟨rfl,by simp[H0],by show(0:Nat)<64;omega⟩
def sumV (l:List (List UInt8)):List UInt8:=hsum (ak5_ H0 l.flatten) (amw_ 0 l)
theorem outPre_length (st:List UInt32) (k:Nat): (adh_ st k).length=32:=by simp[adh_]
end Go.Dig
section
open Go Go.Proofs Go.Sx Go.Dig
namespace Go.Proofs
set_option maxRecDepth 10000
set_option maxHeartbeats 1000000
set_option linter.unusedSimpArgs false
set_option linter.defProp false
def apv_:=And.intro (And.intro (And.intro (And.intro (@v4_) (@wi_)) (And.intro (@wj_) (@k5_))) (And.intro (And.intro (@v8_) (@wc_)) (And.intro (@k2_) (@kf_)))) (And.intro (And.intro (And.intro (@xx_) (@vk_)) (And.intro (@k7_) (@vi_))) (And.intro (And.intro (@k4_) (@vm_)) (And.intro (@ko_) (@jh_))))
end Go.Proofs
end
section
open Go Go.Proofs Go.Sx Go.Dig
namespace Go.Proofs
set_option maxRecDepth 10000
set_option maxHeartbeats 1000000
set_option linter.unusedSimpArgs false
set_option linter.defProp false
def apR_:=And.intro (And.intro (And.intro (And.intro (@v4_) (@wi_)) (And.intro (@wj_) (@k5_))) (And.intro (And.intro (@v8_) (@wc_)) (And.intro (@k2_) (@kf_)))) (And.intro (And.intro (And.intro (@xx_) (@vk_)) (And.intro (@k7_) (@vi_))) (And.intro (And.intro (@k4_) (@vm_)) (And.intro (@ko_) (@jh_))))
end Go.Proofs
end
namespace Go.Dig
open Go.Sx
def quoN (t:UInt64):Nat→UInt64
 |0=>t
 |n+1=>quoN t n / 256
def aoe_ (t:UInt64) (j:Nat):UInt8:=UInt8.ofNat (jH_ t (56 - 8*j)).toNat
def aom_ (t:UInt64) (i:Nat):List UInt8:=(List.range 8).map fun j=>if 8≤j+i then aoe_ t j else 0
def padR (m:List UInt8):List UInt8:=m++ [128]++List.replicate (am2_ ((m.length+1)%64)) 0++len8 (UInt64.ofNat m.length)
def shaR (m:List UInt8):List UInt8:=adh_ (Kr_ V3_ (padR m) ((padR m).length / 64)) 32
end Go.Dig
section
open Go Go.Proofs Go.Sx Go.Dig
namespace Go.Proofs
set_option maxRecDepth 10000
set_option maxHeartbeats 1000000
set_option linter.unusedSimpArgs false
set_option linter.defProp false
def aql_:= @jh_
end Go.Proofs
end
section
open Go Go.Proofs Go.Sx Go.Dig
namespace Go.Proofs
set_option maxRecDepth 10000
set_option maxHeartbeats 1000000
set_option linter.unusedSimpArgs false
set_option linter.defProp false
def aqa_:= @jh_
end Go.Proofs
end
namespace Go.Dig
open Go.Sx
structure Inv (s:Hs) (p:List UInt8):Prop where
 ok:s.Ok
 st:s.st=Kr_ V3_ p (p.length / 64)
 many:s.many=p.length%64
 rest:s.rest.take s.many=p.drop (64* (p.length / 64))
theorem Inv.put {s:Hs} {p:List UInt8} (h:Inv s p) (x:UInt8):Inv (hput s x) (p++ [x]):=by
 obtain⟨hok,hst,hmany,hrest⟩:=h
 have hk:=alc_ x hok
 have hm64:=hok.many
 have hrl:=hok.rest
 have hle:64* (p.length / 64)≤p.length:=by omega
 have htake: (s.rest.set s.many x).take (s.many+1)=p.drop (64* (p.length / 64))++ [x]:=by
  rw[List.take_add_one,List.take_set,←hrest]
  congr 1
  ·rw[List.set_eq_of_length_le (by simp only[List.length_take];exact Nat.min_le_left _ _)]
  ·simp[hrl,hm64]
 have hlen: (p++ [x]).length=p.length+1:=by simp
 have hc:Kr_ V3_ (p++ [x]) (p.length / 64)=Kr_ V3_ p (p.length / 64):=Wg_ _ _ _ _ hle
 by_cases h64:s.many+1=64
 ·have e:hput s x=⟨comp s.st (s.rest.set s.many x),s.rest.set s.many x,0⟩:=by unfold hput;rw[if_pos h64]
  have hd: (p.length+1) / 64=p.length / 64+1:=by omega
  have hr: (s.rest.set s.many x)=p.drop (64* (p.length / 64))++ [x]:=by
   rw[←htake,h64,List.take_of_length_le (by simp[hrl])]
  refine⟨hk, ?_, ?_, ?_⟩
  ·rw[e,hlen,hd]
   show comp s.st _=comp (Kr_ V3_ (p++ [x]) (p.length / 64)) _
   rw[hc,←hst,hr,List.drop_append_of_le_length hle,List.take_of_length_le (by simp;omega)]
  ·rw[e,hlen];show 0=_;omega
  ·rw[e,hlen]
   show List.take 0 _=_
   rw[List.take_zero,List.drop_of_length_le (by rw[hlen];omega)]
 ·have e:hput s x=⟨s.st,s.rest.set s.many x,s.many+1⟩:=by unfold hput;rw[if_neg h64]
  have hd: (p.length+1) / 64=p.length / 64:=by omega
  refine⟨hk, ?_, ?_, ?_⟩
  ·rw[e,hlen,hd,hc];exact hst
  ·rw[e,hlen];show s.many+1=_;omega
  ·rw[e,hlen,hd]
   show List.take (s.many+1) (s.rest.set s.many x)=_
   rw[htake,List.drop_append_of_le_length hle]
theorem Inv.zero:Inv H0 []:=⟨anP_,rfl,rfl,rfl⟩
end Go.Dig
section
open Go Go.Proofs Go.Sx Go.StP
namespace Go.Proofs
set_option maxRecDepth 10000
set_option maxHeartbeats 400000
set_option linter.unusedSimpArgs false
theorem ail_ (m:List UInt8): (Dig.shaR m).length=32:=Dig.outPre_length _ _
set_option linter.defProp false
def al8_:=And.intro (And.intro (And.intro (@qZ_) (@qs_)) (And.intro (@qo_) (@qC_))) (And.intro (And.intro (@Sx.tup2_0) (@Sx.tup2_1)) (And.intro (@zf_) (@ze_)))
def idV (k:Int) (t:List UInt8):IdL:=if RdOk k t then⟨Dig.shaR (amN_ k t),ail_ _⟩ else id0
def aoy_ (k:Int) (t:List UInt8):List UInt8:=(if k=3 then [99] else if k=2 then [116] else [98])++jQ_ t
end Go.Proofs
end
section
open Go Go.Proofs Go.Sx Go.StP Go.Flo
namespace Go.Proofs
set_option maxRecDepth 10000
set_option maxHeartbeats 400000
set_option linter.unusedSimpArgs false
structure ObL where
 k:Int
 t:List UInt8
def ob0:ObL:=⟨0,[]⟩
def obC (o:ObL):List Value:= [vi o.k,vs o.t]
def agX_ (s:List UInt8):ObL:=⟨if frOk s then frK s else 0,if frOk s then(frT s).1 else []⟩
def idOf (s:List UInt8):IdL:=idV (agX_ s).k (agX_ s).t
def ajP_:List (List UInt8)→List IdL→List ObL→Option (List IdL×List ObL)
 | [],ids,os=>some (ids,os)
 |s::r,ids,os=>if frOk s=true∧(ids.any fun y=>(idOf s).l==y.l)=false then ajP_ r (ids++ [idOf s]) (os++ [agX_ s]) else none
def fillV (l:List PartL):Option (List IdL×List ObL):=match allV l with
 | .ok ts=>ajP_ ts [] []
 | .error _=>none
end Go.Proofs
end
section
open Go Go.Proofs Go.Sx
namespace Go.Proofs
set_option maxRecDepth 10000
set_option maxHeartbeats 4000000
set_option linter.unusedSimpArgs false
def hvL:List UInt32:= [0x00000000,0x1db71064,0x3b6e20c8,0x26d930ac,0x76dc4190,0x6b6b51f4,0x4db26158,0x5005713c,0xedb88320,0xf00f9344,0xd6d6a3e8,0xcb61b38c,0x9b64c2b0,0x86d3d2d4,0xa00ae278,0xbdbdf21c]
def VU_ (n:UInt32):UInt32:=qc_ n 4^^^hvL.getD (n&&&15).toNat 0
def aeI_ (n:UInt32):Nat→UInt32
 |0=>n
 |k+1=>VU_ (aeI_ n k)
def aen_ (n:UInt32) (b:UInt8):UInt32:=aeI_ (n^^^UInt32.ofNat b.toNat) 2
theorem afY_ (n:UInt32): (n&&&15).toNat<16:=by
 rw[UInt32.toNat_and]
 exact Nat.lt_of_le_of_lt Nat.and_le_right (by decide)
def GlobC (w:World):Prop:= ∃e f,w.heap[(2:Nat)]? =some (.cells (a32 hvL) e f)
theorem GlobC.of {w w':World} {L:zc_} (h:GlobC w) (hw:Hp w L w') (hn: (2:Nat)∉keys L):GlobC w':=by
 obtain⟨e,f,h⟩:=h
 exact⟨e,f,by rw[hw.old _ (Array.getElem?_eq_some_iff.1 h).1 hn];exact h⟩
theorem ak1_:hvL.length=16:=rfl
set_option linter.defProp false
def qe_:=And.intro (And.intro (@zf_) (@v2_)) (And.intro (@wh_) (And.intro (@wa_) (@ze_)))
theorem af8_ (n:UInt32) (b:UInt8) (w:World) (hG:GlobC w):
  Rets Tryz.prog 215 #[v32 n,v8 b] w (fun v D=>v=v32 (aen_ n b)∧D= []):=by
 obtain⟨e,f,htab⟩:=hG
 refine Rets.enterV Tryz.func215 rfl (rs:= [.tmp 4]) Tryz.results215 Tryz.ntmps215 ?_
 refine kf ?_
 first|with_reducible refine ks [] @qe_ ?_|refine kp @qe_ ?_
 unfold aen_
 generalize n^^^UInt32.ofNat b.toNat=m
 rw[show v32 m=v32 (aeI_ m 0) from rfl]
 refine Cw.loopG (G:=Nat) [10,11,12,13,14,15,16,17,0,18,9] (fun g=> [(0,v32 (aeI_ m g)),(9,vi g)]) (fun g=> []) (fun g=>g≤2) (fun g=>2 - g) 0 rfl rfl ?_ ?_
 ·omega
 intro g j hg
 refine kv ?_
 by_cases hlt:g<2
 ·have h15:=afY_ (aeI_ m g)
  have hl:=ak1_
  first|with_reducible refine ks [] (And.intro @qe_ @htab) ?_|refine kp (And.intro @qe_ @htab) ?_
  refine Again.mk (g+1) (by omega) (by omega) rfl rfl
 ·obtain rfl:g=2:=by omega
  first|with_reducible refine ks [] @qe_ ?_|refine kp @qe_ ?_
  refine⟨_,(ke @qe_),trivial, ?_⟩
  rfl
def Ve_ (n:UInt32) (s:List UInt8):UInt32:=s.foldl aen_ n
theorem Kl_ (n:UInt32) (s:List UInt8) (g:Nat) (h:g<s.length):Ve_ n (s.take (g+1))=aen_ (Ve_ n (s.take g)) (s.getD g 0):=by
 unfold Ve_
 rw[List.take_succ_eq_append_getElem h,List.foldl_append,List.getD_eq_getElem?_getD,List.getElem?_eq_getElem h]
 rfl
theorem agT_ (n:UInt32) (s:List UInt8) (w:World) (hG:GlobC w) (hs:s.length<1099511627776):
  Rets Tryz.prog 186 #[v32 n,vs s] w (fun v D=>v=v32 (~~~ (Ve_ (~~~ n) s))∧D= []):=by
 refine Rets.enterV Tryz.func186 rfl (rs:= [.tmp 4]) Tryz.results186 Tryz.ntmps186 ?_
 refine kf ?_
 first|with_reducible refine ks [] @qe_ ?_|refine kp @qe_ ?_
 rw[show v32 (~~~ n)=v32 (Ve_ (~~~ n) (s.take 0)) from rfl]
 refine Cw.loopG (G:=Nat) [12,13,6,14,15,16,17,18,5,19,11] (fun g=> [(5,v32 (Ve_ (~~~ n) (s.take g))),(11,vi g)]) (fun g=> []) (fun g=>g≤s.length) (fun g=>s.length - g) 0 rfl rfl ?_ ?_
 ·omega
 intro g j hg
 refine kv ?_
 by_cases hlt:g<s.length
 ·first|with_reducible refine ks [] @qe_ ?_|refine kp @qe_ ?_
  refine Ow.callFV rfl Tryz.call215 (fun w' hw'=>af8_ _ _ w' (GlobC.of hG hw' (by simp[keys]))) ?_
  refine ko @qe_ ?_
  first|with_reducible refine ks [] @qe_ ?_|refine kp @qe_ ?_
  refine Again.mk (g+1) (by omega) (by omega) rfl ?_
  rw[Kl_ _ _ _ hlt]
  rfl
 ·obtain rfl:g=s.length:=by omega
  first|with_reducible refine ks [] @qe_ ?_|refine kp @qe_ ?_
  rw[List.take_length]
  refine⟨_,(ke @qe_),trivial, ?_⟩
  rfl
def crcV (s:List UInt8):UInt32:= ~~~ (Ve_ (~~~ (0:UInt32)) s)
theorem ae1_ (b:Nat) (s:List UInt8) (E:TypeId) (w:World) (hG:GlobC w) (hs:s.length<1099511627776) (ho:w.heap[b]? =some (.cells #[vs s] E (0,0))):
  Rets Tryz.prog 164 #[vsl b 0 1 1] w (fun v D=>v=v32 (crcV s)∧D= []):=by
 have hS:StrS w (vsl b 0 1 1) [s] b 0 #[vs s] E (0,0):=StrS.lit [s] rfl rfl ho
 refine Rets.enterV Tryz.func164 rfl (rs:= [.tmp 2]) Tryz.results164 Tryz.ntmps164 ?_
 refine kf ?_
 first|with_reducible refine ks [] @qe_ ?_|refine kp @qe_ ?_
 refine Cw.loopG (G:=Nat) [9,10,11,5,12,13,14,3,15,8] (fun g=> [(3,v32 (if g=0 then 0 else crcV s)),(8,vi g)]) (fun g=> []) (fun g=>g≤1) (fun g=>1 - g) 0 rfl rfl ?_ ?_
 ·omega
 intro g j hg
 refine kv ?_
 by_cases hlt:g<1
 ·obtain rfl:g=0:=by omega
  have hlg:=hS.get 0 (by simp)
  have hrd:=hS.has (by simp)
  have hix:=fun m=>hS.idx m 0 (by simp)
  ((try with_reducible refine Cw.go [] ?_);(try simp(disch:=(first|assumption|omega| (simp only[kd_,kc_,UInt64.reduceToNat];try omega))) only[↓Sx.S0,Sx.S1,Tryz.fx,qe_,Nat.reduceAdd,Nat.reducePow,Int.reducePow,Nat.reduceBEq, ↓reduceIte,UInt8.reduceToNat,UInt16.reduceToNat,UInt32.reduceToNat,UInt64.reduceToNat,Int.reduceToNat,Sx.loadV_one,hrd,hlg,hix]))
  refine Ow.callFV rfl Tryz.call186 (fun w' hw'=>agT_ 0 s w' (GlobC.of hG hw' (by simp[keys])) hs) ?_
  refine ko @qe_ ?_
  first|with_reducible refine ks [] @qe_ ?_|refine kp @qe_ ?_
  refine Again.mk 1 (by omega) (by omega) rfl rfl
 ·obtain rfl:g=1:=by omega
  first|with_reducible refine ks [] @qe_ ?_|refine kp @qe_ ?_
  refine⟨_,(ke @qe_),trivial, ?_⟩
  rfl
def Q8_ (n:UInt32) (g:Nat):List UInt8:=(List.range 4).map fun j=>if j<g then UInt8.ofNat (qc_ n (8*j)).toNat else 0
def sum4 (n:UInt32):List UInt8:=Q8_ n 4
theorem X0_ (n:UInt32) (g:Nat): (Q8_ n g).length=4:=by simp[Q8_]
theorem abT_ (n:UInt32) (g:Nat) (h:g<4): (Q8_ n g).set g (UInt8.ofNat (qc_ n (8*g)).toNat)=Q8_ n (g+1):=by
 have:g=0∨g=1∨g=2∨g=3:=by omega
 rcases this with rfl|rfl|rfl|rfl<;>rfl
def z5_ (s:List UInt8):List UInt8:=s++sum4 (crcV s)
theorem ZR_ (s:List UInt8) (w:World) (hG:GlobC w) (hs:s.length<1099511627776):
  Rets Tryz.prog 126 #[vs s] w (fun v D=>v=vs (z5_ s)∧D= []):=by
 have hgl: (2:Nat)<w.heap.size:=by obtain⟨e,f,h⟩:=hG;exact(Array.getElem?_eq_some_iff.1 h).1
 refine Rets.enterV Tryz.func126 rfl (rs:= [.tmp 2]) Tryz.results126 Tryz.ntmps126 ?_
 refine kf ?_
 first|with_reducible refine ks [] @qe_ ?_|refine kp @qe_ ?_
 refine Ow.buildSlice (e:=9) #[vs s] rfl rfl (by kernel_rfl) fun b1 hb1 hw1=> ?_
 refine ko @qe_ ?_
 refine Ow.callFV rfl Tryz.call164 (fun w' hw'=>ae1_ b1 s _ w' (GlobC.of hG hw' (by simp[keys];omega)) hs (hw'.has _ _ List.mem_cons_self)) ?_
 refine ko @qe_ ?_
 first|with_reducible refine ks [] @qe_ ?_|refine kp @qe_ ?_
 unfold z5_
 generalize crcV s=n
 refine Ow.alloc rfl rfl Tryz.zr249 fun b2 hb2 hw2=> ?_
 obtain⟨h12,-⟩:=hb2
 refine ko @qe_ ?_
 first|with_reducible refine ks [] @qe_ ?_|refine kp @qe_ ?_
 rw[show a8 (List.replicate 4 0)=a8 (Q8_ n 0) from rfl]
 refine Cw.loopG (G:=Nat) [10,11,5,12,13,14,15,16,17,18,19,9] (fun g=> [(9,vi g)]) (fun g=> [(b1, .cells #[vs s] 9 (0,0)),(b2, .cells (a8 (Q8_ n g)) 249 (0,0))]) (fun g=>g≤4) (fun g=>4 - g) 0 rfl rfl ?_ ?_
 ·omega
 intro g j hg
 refine kv ?_
 have hpl:=X0_ n g
 by_cases hlt:g<4
 ·first|with_reducible refine ks [] @qe_ ?_|refine kp @qe_ ?_
  refine Again.mk (g+1) (by omega) (by omega) ?_ rfl
  rw[abT_ n g hlt]
 ·obtain rfl:g=4:=by omega
  first|with_reducible refine ks [] @qe_ ?_|refine kp @qe_ ?_
  refine⟨_,(ke @qe_),⟨hw1,hw2,trivial⟩, ?_⟩
  rw[List.drop_zero,List.take_of_length_le (by omega)];rfl
def zi_ (s:List UInt8):List UInt8×Bool:=
 if s.length<4 then([],false) else if z5_ (s.take (s.length - 4))=s then(s.take (s.length - 4),true) else([],false)
theorem Jx_ (s:List UInt8): (z5_ s).length=s.length+4:=by unfold z5_ sum4;rw[List.length_append,X0_]
theorem Qq_ (s:List UInt8) (w:World) (hG:GlobC w) (hs:s.length<1099511627776):
  Rets Tryz.prog 86 #[vs s] w (fun v D=>v= .tuple #[vs (zi_ s).1, .bool (zi_ s).2]∧D= []):=by
 refine Rets.enterV Tryz.func86 rfl (rs:= [.tmp 2, .tmp 3]) Tryz.results86 Tryz.ntmps86 ?_
 refine kf ?_
 first|with_reducible refine ks [] @qe_ ?_|refine kp @qe_ ?_
 unfold zi_
 by_cases h4:s.length<4
 ·have e1:decide ((s.length:Int)<4)=true:=decide_eq_true (by omega)
  rw[if_pos h4]
  first|with_reducible refine ks [] (And.intro @qe_ @e1) ?_|refine kp (And.intro @qe_ @e1) ?_
  refine⟨_,(ke @qe_),trivial, ?_⟩
  rfl
 ·have e1:decide ((s.length:Int)<4)=false:=decide_eq_false (by omega)
  have e2: ((s.length:Int) - 4).toNat=s.length - 4:=by omega
  rw[if_neg h4]
  first|with_reducible refine ks [] (And.intro @qe_ (And.intro @e1 (@e2))) ?_|refine kp (And.intro @qe_ (And.intro @e1 (@e2))) ?_
  refine Ow.callFV rfl Tryz.call126 (fun w' hw'=>ZR_ (s.take (s.length - 4)) w' (GlobC.of hG hw' (by simp[keys])) (by rw[List.length_take];omega)) ?_
  refine ko @qe_ ?_
  cases hq: (z5_ (s.take (s.length - 4)) !=s)
  ·rw[if_pos (by simpa using hq)]
   first|with_reducible refine ks [] (And.intro @qe_ (And.intro @hq (@e2))) ?_|refine kp (And.intro @qe_ (And.intro @hq (@e2))) ?_
   refine⟨_,(ke @qe_),trivial, ?_⟩
   rfl
  ·rw[if_neg (by simpa using hq)]
   first|with_reducible refine ks [] (And.intro @qe_ @hq) ?_|refine kp (And.intro @qe_ @hq) ?_
   refine⟨_,(ke @qe_),trivial, ?_⟩
   rfl
end Go.Proofs
end
section
open Go Go.Proofs Go.Sx Go.StP Go.Flo
namespace Go.Proofs
set_option maxRecDepth 10000
set_option maxHeartbeats 400000
set_option linter.unusedSimpArgs false
def farV (i:Nat) (p:PartL):Int:=if p.d=true then(i:Int) - p.b else 0
def ac0_ (i:Nat) (p:PartL):List UInt8:=qd_ (zw_ (farV i p))++jQ_ p.x
def af7_:Nat→List PartL→List UInt8
 |_,[]=> []
 |i,p::r=>ac0_ i p++af7_ (i+1) r
def magB:List UInt8:= [83,80,75,49]
def anN_ (l:List PartL):List UInt8:=magB++ (qd_ (zw_ (l.length:Int))++af7_ 0 l)
def Kp_ (s:List UInt8) (i a:Nat) (e:Int):PartL×Nat×Int:=
 (⟨decide (0< (zx_ s a e 200).1),if 0< (zx_ s a e 200).1 then(i:Int) - (zx_ s a e 200).1 else 0,(zY_ s (zx_ s a e 200).2.1 (zx_ s a e 200).2.2 65536).1⟩,(zY_ s (zx_ s a e 200).2.1 (zx_ s a e 200).2.2 65536).2)
def vg_ (s:List UInt8):Nat→Nat→Nat→Int→List PartL×List Nat×Nat×Int
 |0,_,a,e=>([],[],a,e)
 |k+1,i,a,e=>if(Kp_ s i a e).2.2=0 then((Kp_ s i a e).1:: (vg_ s k (i+1) (Kp_ s i a e).2.1 0).1,a:: (vg_ s k (i+1) (Kp_ s i a e).2.1 0).2.1,(vg_ s k (i+1) (Kp_ s i a e).2.1 0).2.2) else([],[],(Kp_ s i a e).2)
def aaL_ (s:List UInt8):Int×Bool×Nat×Int:=
 if(qw_ s 0 0 4).1=magB then((zx_ s (qw_ s 0 0 4).2.1 (qw_ s 0 0 4).2.2 200).1,(zx_ s (qw_ s 0 0 4).2.1 (qw_ s 0 0 4).2.2 200).2.2==0,(zx_ s (qw_ s 0 0 4).2.1 (qw_ s 0 0 4).2.2 200).2) else(0,false,(qw_ s 0 0 4).2)
def wn_ (s:List UInt8):List PartL×List Nat×Nat×Int:=vg_ s (aaL_ s).1.toNat 0 (aaL_ s).2.2.1 (aaL_ s).2.2.2
def akI_ (b:List UInt8):Option (List PartL×List Nat×List IdL×List ObL):=
 if(zi_ b).2=true∧(aaL_ (zi_ b).1).2.1=true∧vU_ (zi_ b).1 (wn_ (zi_ b).1).2.2.1 (wn_ (zi_ b).1).2.2.2=0 then(fillV (wn_ (zi_ b).1).1).map fun q=>((wn_ (zi_ b).1).1,(wn_ (zi_ b).1).2.1,q) else none
def aoo_ (l:List PartL):List UInt8×Int:=match fillV l with
 |some _=>(z5_ (anN_ l),0)
 |none=>([],1)
instance:DecidableEq ObL:=fun a b=>if h:a.k=b.k∧a.t=b.t then .isTrue (by cases a;cases b;simp only at h;obtain⟨rfl,rfl⟩:=h;rfl) else .isFalse (fun e=>h (by rw[e];exact⟨rfl,rfl⟩))
def V4_ (l:List PartL):Nat→List ObL
 |0=> []
 |k+1=>match partV l (k:Nat) with
  | .ok s=>if frOk s=true∧agX_ s∉V4_ l k then V4_ l k++ [agX_ s] else V4_ l k
  | .error _=>V4_ l k
def ao2_ (b:List UInt8):List ObL:=if(aaL_ b).2.1=true then V4_ (wn_ b).1 (wn_ b).1.length else []
def amu_ (i:Nat) (p:PartL):Prop:=(if p.d=true then 0≤p.b∧p.b<i∧(i:Int)≤200 else p.b=0)∧p.x.length≤65536
def akF_:Nat→List PartL→Prop
 |_,[]=>True
 |i,p::r=>amu_ i p∧akF_ (i+1) r
def alI_:Nat→Nat→List PartL→List Nat
 |_,_,[]=> []
 |i,a,p::r=>a::alI_ (i+1) (a+ (ac0_ i p).length) r
theorem kl_ (s:List UInt8):zi_ (z5_ s)=(s,true):=by
 have hl:=Jx_ s
 have ht: (z5_ s).take ((z5_ s).length - 4)=s:=by rw[hl,Nat.add_sub_cancel];unfold z5_;rw[List.take_left]
 unfold zi_
 rw[if_neg (by omega),ht,if_pos rfl]
theorem abt_ (s:List UInt8):vU_ s s.length 0=0:=by unfold vU_;rw[if_neg (by simp),if_neg (by omega)]
end Go.Proofs
end
section
open Go Go.Proofs Go.Sx Go.StP Go.Flo
namespace Go.Proofs
set_option maxRecDepth 10000
set_option maxHeartbeats 400000
set_option linter.unusedSimpArgs false
theorem adR_ {s:List UInt8} {a:Nat} {e:Int} (h:vU_ s a e=0):e=0∧s.length≤a:=by
 unfold vU_ at h
 split at h
 ·rename_i h0;exact absurd h h0
 ·rename_i h0
  split at h
  ·cases h
  ·exact⟨by omega,by omega⟩
end Go.Proofs
end
section
open Go Go.Proofs Go.Sx Go.StP Go.Flo
namespace Go.Proofs
set_option maxRecDepth 10000
set_option maxHeartbeats 400000
set_option linter.unusedSimpArgs false
def magI:List UInt8:= [83,73,88,49]
def rowB (r:RwL):List UInt8:=r.id.l++ (qd_ (zw_ r.place)++qd_ (zw_ r.spot))
def xd_ (l:List RwL):List UInt8:=(l.map rowB).flatten
def ZW_ (F:List Nat):List Int:=F.map fun(n:Nat)=>(n:Int)
def xr_ (F:List Nat):List UInt8:=j0_ (ZW_ F)
def vu_ (s:List UInt8) (l:List RwL):List UInt8:=magI++ (s++ (qd_ (zw_ (l.length:Int))++ (xr_ (kw_ l)++xd_ l)))
def qF_ (s:List UInt8) (l:List RwL):Bool:=Zt_ l l.length&& (decide (s.length=4)&&decide (l.length≤200))
def vE_ (s:List UInt8) (l:List RwL):List UInt8×Int:=if qF_ s l=true then(z5_ (vu_ s l),0) else([],1)
theorem Vm_ {l:List RwL}: ∀ {n j:Nat},Zt_ l n=true→j<n→qv_ (l.getD j rw0)=true∧(j=0∨wQ_ (l.getD (j - 1) rw0).id (l.getD j rw0).id<0)
 |0,j,_,h=>absurd h (Nat.not_lt_zero _)
 |n+1,j,h,hj=>by
  unfold Zt_ at h
  simp only[Bool.and_eq_true,Bool.or_eq_true,decide_eq_true_eq] at h
  by_cases e:j=n
  ·subst e;exact⟨h.2,h.1.2⟩
  ·exact Vm_ h.1.1 (by omega)
theorem cmpI_lt {x y:IdL}:wQ_ x y<0↔ltB x.l y.l=true:=by
 unfold wQ_ cmpS
 cases h1:ltB x.l y.l<;>cases h2:ltB y.l x.l<;>simp
theorem cmpI_ge {x y:IdL}:0≤wQ_ x y↔ltB x.l y.l=false:=by
 have:=cmpI_lt (x:=x) (y:=y)
 cases h:ltB x.l y.l
 ·rw[h] at this;constructor
  ·intro _;rfl
  ·intro _;exact Int.not_lt.1 fun h'=>by have:=this.1 h';cases this
 ·rw[h] at this;constructor
  ·intro h';have:=this.2 rfl;omega
  ·intro h';cases h'
theorem agO_ {l:List RwL} {n:Nat} (h:Zt_ l n=true) {i:Nat}: ∀ {j:Nat},i<j→j<n→ltB (l.getD i rw0).id.l (l.getD j rw0).id.l=true
 |0,hij,_=>absurd hij (Nat.not_lt_zero _)
 |j+1,hij,hj=>by
  have h2:ltB (l.getD j rw0).id.l (l.getD (j+1) rw0).id.l=true:=by
   rcases(Vm_ h hj).2 with h1|h1
   ·omega
   ·exact cmpI_lt.1 h1
  by_cases e:i=j
  ·subst e;exact h2
  ·exact xS_ (agO_ h (by omega) (by omega)) h2
theorem ab9_ {l:List RwL} {i:Nat} (h:i<l.length):l.getD i rw0=l[i]:=by rw[List.getD_eq_getElem?_getD,List.getElem?_eq_getElem h];rfl
theorem Wy_ {l:List RwL} (h:Zt_ l l.length=true):rws_SortOf l l:=by
 refine⟨rfl, ?_,St.refl _ _⟩
 refine List.pairwise_iff_getElem.2 fun i j hi hj hij=> ?_
 have:=agO_ h hij hj
 rw[ab9_ hi,ab9_ hj] at this
 exact Zh_ this
theorem kP_ {s:List UInt8} {l:List RwL} (h:qF_ s l=true):Zt_ l l.length=true∧s.length=4∧l.length≤200:=by
 unfold qF_ at h
 simpa only[Bool.and_eq_true,decide_eq_true_eq] using h
def wF_ (s:List UInt8) (q:Nat×Int):Int×Nat×Int:=zx_ s q.1 q.2 1099511627775
def wx_ (s:List UInt8) (a:Nat) (e:Int):RwL×Nat×Int:=
 (⟨vv_ (idR s a e).1,(wF_ s (idR s a e).2).1,(wF_ s (wF_ s (idR s a e).2).2).1⟩,(wF_ s (wF_ s (idR s a e).2).2).2)
def xi_ (s:List UInt8):Nat→Nat×Int→List RwL×Nat×Int
 |0,q=>([],q)
 |k+1,q=>((wx_ s q.1 q.2).1:: (xi_ s k (wx_ s q.1 q.2).2).1,(xi_ s k (wx_ s q.1 q.2).2).2)
def k3_ (s:List UInt8) (m:Int):Nat→Nat×Int→Nat×Int
 |0,q=>q
 |k+1,q=>k3_ s m k (zx_ s q.1 q.2 m).2
def xJ_ (s:List UInt8) (f:Int→Int):List UInt8×List RwL×Nat×Int:=
 ((qw_ s 0 0 8).1.drop 4,xi_ s (zx_ s (qw_ s 0 0 8).2.1 (qw_ s 0 0 8).2.2 200).1.toNat (k3_ s (f (zx_ s (qw_ s 0 0 8).2.1 (qw_ s 0 0 8).2.2 200).1) 16 (zx_ s (qw_ s 0 0 8).2.1 (qw_ s 0 0 8).2.2 200).2))
theorem ahi_ {r:RwL} (h:qv_ r=true): ∃p q:Nat,r.place=p∧r.spot=q∧p≤1099511627775∧q≤1099511627775:=by
 unfold qv_ at h
 simp only[Bool.and_eq_true,Bool.not_eq_true',decide_eq_false_iff_not] at h
 exact⟨r.place.toNat,r.spot.toNat,by omega,by omega,by omega,by omega⟩
theorem ajq_ (A x:List UInt8) {r:RwL} (h:qv_ r=true):wx_ (A++ (rowB r++x)) A.length 0=(r,A.length+ (rowB r).length,0):=by
 obtain⟨p,q,hp,hq,p1,q1⟩:=ahi_ h
 obtain⟨i,pl,sp⟩:=r
 simp only at hp hq
 subst hp hq
 have e:rowB ⟨i,(p:Int),(q:Int)⟩=i.l++ (qd_ p++qd_ q):=by unfold rowB;rw[q2_ p1,q2_ q1]
 have e2:A++ (rowB ⟨i,(p:Int),(q:Int)⟩++x)=A++ (i.l++ (qd_ p++ (qd_ q++x))):=by rw[e];simp only[List.append_assoc]
 have h1:=adf_ A (qd_ p++ (qd_ q++x)) i
 have h2:=jo_ (A++i.l) (qd_ q++x) p 1099511627775 p1 (by omega)
 have h3:=jo_ (A++ (i.l++qd_ p)) x q 1099511627775 q1 (by omega)
 simp only[List.append_assoc,List.length_append,i.h] at h2 h3
 unfold wx_ wF_
 rw[e2,h1]
 simp only
 rw[h2]
 simp only
 rw[Nat.add_assoc,h3,agg_,e]
 simp only[List.length_append,i.h,Nat.add_assoc]
theorem WX_ (x:List UInt8): ∀ (l:List RwL) (A:List UInt8),(∀r,r∈l→qv_ r=true)→xi_ (A++ (xd_ l++x)) l.length (A.length,0)=(l,A.length+ (xd_ l).length,0)
 | [],A,_=>by simp[xi_,xd_]
 |r::l,A,h=>by
  have h1:=ajq_ A (xd_ l++x) (h r List.mem_cons_self)
  have h2:=WX_ x l (A++rowB r) fun y hy=>h y (List.mem_cons_of_mem _ hy)
  have e:xd_ (r::l)=rowB r++xd_ l:=by simp[xd_]
  simp only[List.append_assoc,List.length_append] at h2
  rw[List.length_cons,e,List.append_assoc]
  unfold xi_
  simp only
  rw[h1]
  simp only
  rw[h2,List.length_append,Nat.add_assoc]
theorem V6_ (x:List UInt8) (m:Int): ∀ (F:List Nat) (A:List UInt8),(∀n,n∈F→(n:Int)≤m∧n≤1099511627775)→k3_ (A++ (xr_ F++x)) m F.length (A.length,0)=(A.length+ (xr_ F).length,0)
 | [],A,_=>by simp[k3_,xr_,ZW_,j0_]
 |n::F,A,h=>by
  obtain⟨h0,h0'⟩:=h n List.mem_cons_self
  have h1:=jo_ A (xr_ F++x) n m h0' h0
  have h2:=V6_ x m F (A++qd_ n) fun y hy=>h y (List.mem_cons_of_mem _ hy)
  have e:xr_ (n::F)=qd_ n++xr_ F:=by
   have:xr_ (n::F)=qd_ (zw_ (n:Int))++xr_ F:=by simp[xr_,ZW_,j0_]
   rw[this,q2_ h0']
  simp only[List.append_assoc,List.length_append] at h2
  rw[List.length_cons,e,List.append_assoc]
  unfold k3_
  simp only
  rw[h1]
  simp only
  rw[h2,List.length_append,Nat.add_assoc]
theorem alJ_ {l:List RwL} {n:Nat} (h:n∈kw_ l):n≤l.length:=by
 unfold kw_ at h
 obtain⟨d,-,rfl⟩:=List.mem_map.1 h
 exact List.countP_le_length
theorem WT_ {s:List UInt8} {l:List RwL} (f:Int→Int) (h:qF_ s l=true) (hf: (l.length:Int)≤f l.length):xJ_ (vu_ s l) f=(s,l,(vu_ s l).length,0):=by
 obtain⟨h1,h2,h3⟩:=kP_ h
 have hr: ∀r,r∈l→qv_ r=true:=fun r hr=>by
  obtain⟨j,hj,rfl⟩:=List.getElem_of_mem hr
  rw[←ab9_ hj]
  exact(Vm_ h1 hj).1
 have hn:zw_ (l.length:Int)=l.length:=q2_ (by omega)
 have e:vu_ s l=(magI++s)++ (qd_ l.length++ (xr_ (kw_ l)++xd_ l)):=by unfold vu_;rw[hn];simp only[List.append_assoc]
 have h8: (magI++s).length=8:=by rw[List.length_append,h2];rfl
 have a1:=vV_ [] (magI++s) (qd_ l.length++ (xr_ (kw_ l)++xd_ l))
 have a2:=jo_ (magI++s) (xr_ (kw_ l)++xd_ l) l.length 200 (by omega) (by omega)
 have a3:=V6_ (xd_ l) (f l.length) (kw_ l) ((magI++s)++qd_ l.length) fun n hn'=>by have:=alJ_ hn';omega
 have a4:=WX_ [] l ((magI++s)++ (qd_ l.length++xr_ (kw_ l))) hr
 rw[List.nil_append,List.length_nil,Nat.zero_add,h8] at a1
 rw[h8] at a2
 rw[QH_] at a3
 simp only[List.append_assoc,List.length_append,List.append_nil] at a1 a2 a3 a4 h8 e
 unfold xJ_
 rw[e]
 rw[show((8:Nat):Int)=8 from rfl] at a1
 rw[a1]
 show(List.drop 4 (magI++s),xi_ _ (zx_ _ 8 0 200).1.toNat (k3_ _ (f (zx_ _ 8 0 200).1) 16 (zx_ _ 8 0 200).2))=_
 rw[a2]
 simp only[Int.toNat_natCast]
 rw[←Nat.add_assoc,h8] at a3 a4
 rw[a3,Nat.add_assoc,a4]
 refine Prod.ext ?_ (Prod.ext rfl (Prod.ext ?_ rfl))
 ·show(magI++s).drop 4=s
  rw[show(4:Nat)=magI.length from rfl,List.drop_left]
 ·simp only[List.length_append];omega
def kt_ (b:List UInt8):Option (List UInt8×List RwL):=
 if vU_ (zi_ b).1 (xJ_ (zi_ b).1 id).2.2.1 (xJ_ (zi_ b).1 id).2.2.2=0∧qF_ (xJ_ (zi_ b).1 id).1 (xJ_ (zi_ b).1 id).2.1=true∧z5_ (vu_ (xJ_ (zi_ b).1 id).1 (xJ_ (zi_ b).1 id).2.1)=b then some ((xJ_ (zi_ b).1 id).1,(xJ_ (zi_ b).1 id).2.1) else none
theorem openI_iff {b s:List UInt8} {l:List RwL}:kt_ b=some (s,l)↔qF_ s l=true∧b=z5_ (vu_ s l):=by
 unfold kt_
 constructor
 ·intro h
  split at h
  ·rename_i hc
   simp only[Option.some.injEq,Prod.mk.injEq] at h
   obtain⟨rfl,rfl⟩:=h
   exact⟨hc.2.1,hc.2.2.symm⟩
  ·cases h
 ·rintro⟨h1,rfl⟩
  rw[kl_,WT_ id h1 (Int.le_refl _)]
  simp only
  rw[if_pos ⟨abt_ _,h1,by trivial⟩]
theorem ab2_ {s:List UInt8} {l:List RwL} (h:qF_ s l=true):kt_ (z5_ (vu_ s l))=some (s,l):=openI_iff.2 ⟨h,rfl⟩
def aeh_ (b:List UInt8):Prop:=(zi_ b).2=true∧8≤ (zi_ b).1.length∧vU_ (zi_ b).1 (xJ_ (zi_ b).1 fun _=>200).2.2.1 (xJ_ (zi_ b).1 fun _=>200).2.2.2=0∧qF_ (xJ_ (zi_ b).1 fun _=>200).1 (xJ_ (zi_ b).1 fun _=>200).2.1=true∧z5_ (vu_ (xJ_ (zi_ b).1 fun _=>200).1 (xJ_ (zi_ b).1 fun _=>200).2.1)=b
theorem agw_ {b:List UInt8} (h:aeh_ b):kt_ b=some ((xJ_ (zi_ b).1 fun _=>200).1,(xJ_ (zi_ b).1 fun _=>200).2.1):=openI_iff.2 ⟨h.2.2.2.1,h.2.2.2.2.symm⟩
theorem aih_ {b:List UInt8} (h: ¬aeh_ b):kt_ b=none:=by
 cases e:kt_ b with
 |none=>rfl
 |some q=>
  obtain⟨s,l⟩:=q
  obtain⟨h1,rfl⟩:=openI_iff.1 e
  obtain⟨-,h2,h3⟩:=kP_ h1
  refine absurd ?_ h
  unfold aeh_
  rw[kl_,WT_ (fun _=>200) h1 (by show(l.length:Int)≤200;omega)]
  refine⟨rfl, ?_,abt_ _,h1,rfl⟩
  show 8≤ (vu_ s l).length
  unfold vu_
  rw[List.length_append,List.length_append,h2,show magI.length=4 from rfl]
  omega
def apx_ (l:List RwL) (x:IdL):RwL×Bool:=match l.find? (fun r=>r.id.l==x.l) with
 |some r=>(r,true)
 |none=>(rw0,false)
theorem ajL_ {x y:IdL} (h:x.l=y.l):x=y:=by cases x;cases y;simp only at h;subst h;rfl
def aqR_ (l:List RwL) (d:Nat):Nat:=if d=0 then 0 else ZL_ l (d - 1)
theorem aeX_ (l:List RwL) (d:Nat):ZL_ l d≤l.length:=List.countP_le_length
end Go.Proofs
end
section
open Go Go.Proofs Go.Sx Go.StP Go.Flo
namespace Go.Proofs
set_option maxRecDepth 10000
set_option maxHeartbeats 400000
set_option linter.unusedSimpArgs false
theorem aaG_ {D:zc_} {E:TypeId} {m n:Nat} {v:Value} {cs:List Value} (h:GrI D E m v n cs) (x:Bool×Nat):Vx_ (.sl x) v=some (vi n):=by
 obtain⟨X,-,h⟩:=h;exact h.len x
structure FiG where
 k:Nat
 ids:List IdL
 os:List ObL
 x2:Value
 x3:Value
 D2:zc_
 D3:zc_
 DG:zc_
set_option linter.defProp false
def app_:=And.intro (And.intro (And.intro (@zf_) (@ze_)) (And.intro (@Sx.tup2_0) (@Sx.tup2_1))) (And.intro (And.intro (@qZ_) (@qs_)) (And.intro (@qo_) (And.intro (@qC_) (@qY_))))
end Go.Proofs
end
section
open Go Go.Proofs Go.Sx Go.StP Go.Flo
namespace Go.Proofs
set_option maxRecDepth 10000
set_option maxHeartbeats 400000
set_option linter.unusedSimpArgs false
def wrO (s:List UInt8) (a:Nat) (e:Int):Obj:= .cells #[vs s,vi a,vi e] 221 (0,0)
theorem abj_ (p:PartL) (E:TypeId) (a:Bool) (x:Bool):zn_ (some (a,1)) (some (.cells (jE_ p).toArray E (0,0))) 0 (.bool x)=some (.cells (jE_ ⟨x,p.b,p.x⟩).toArray E (0,0)):=(rfl)
theorem acG_ (p:PartL) (E:TypeId) (a:Bool) (x:Int):zn_ (some (a,1)) (some (.cells (jE_ p).toArray E (0,0))) 1 (vi x)=some (.cells (jE_ ⟨p.d,x,p.x⟩).toArray E (0,0)):=(rfl)
theorem wf_ (p:PartL) (E:TypeId):zp_ (some (true,3)) (some (.cells (jE_ p).toArray E (0,0))) 0=some (.agg (jE_ p).toArray):=va_ (n:=3) [] (jE_ p) [] E (0,0) rfl rfl
theorem ZK_ (b:Nat) (s:List UInt8) (a:Nat) (e n:Int) (w:World) (ha:a≤s.length) (hs:s.length<9223372036854775808) (ho:w.heap[b]? =some (wrO s a e)):
  Rets Tryz.prog 88 #[vp b 0,vi n] w (fun v D=> ∃o,D= [(b,o)]∧v=vs (qw_ s a e n).1∧o=wrO s (qw_ s a e n).2.1 (qw_ s a e n).2.2):=JT_ b s a e n w ha hs ho
theorem qq_ (b:Nat) (s:List UInt8) (a:Nat) (e most:Int) (w:World) (ha:a≤s.length) (hs:s.length<9223372036854775808) (ho:w.heap[b]? =some (wrO s a e)):
  Rets Tryz.prog 89 #[vp b 0,vi most] w (fun v D=> ∃o,D= [(b,o)]∧v=vi (zx_ s a e most).1∧o=wrO s (zx_ s a e most).2.1 (zx_ s a e most).2.2):=Qg_ b s a e most w ha hs ho
theorem abm_ (b:Nat) (s:List UInt8) (a:Nat) (e most:Int) (w:World) (ha:a≤s.length) (hs:s.length<9223372036854775808) (ho:w.heap[b]? =some (wrO s a e)):
  Rets Tryz.prog 90 #[vp b 0,vi most] w (fun v D=> ∃o,D= [(b,o)]∧v=vs (zY_ s a e most).1∧o=wrO s (zY_ s a e most).2.1 (zY_ s a e most).2.2):=adJ_ b s a e most w ha hs ho
set_option linter.defProp false
def aq0_:=And.intro (And.intro (And.intro (@zf_) (And.intro (@ze_) (@Sx.tup2_0))) (And.intro (@Sx.tup2_1) (And.intro (@jk_) (@jj_)))) (And.intro (And.intro (@jf_) (And.intro (@wf_) (@qR_))) (And.intro (@XZ_) (And.intro (@abj_) (@acG_))))
structure RdG where
 lab:Nat
 l:List PartL
 sp:List Nat
 a:Nat
 e:Int
 v1:Value
 v2:Value
 b4:Nat
 q:PartL
 D1:zc_
 D2:zc_
 DG:zc_
def RdJ (s:List UInt8) (n a0:Nat) (e0:Int) (sz:Nat) (g:RdG):Prop:=
 sz≤g.b4∧New sz g.D1∧New sz g.D2∧New sz g.DG∧Gr g.D1 286 3 g.v1 g.l.length (g.l.map jE_).flatten∧Gr g.D2 3 1 g.v2 g.sp.length (g.sp.map natC).flatten∧g.sp.length=g.l.length∧g.a≤s.length∧g.l.length≤n∧
  ((g.lab=1∧vg_ s n 0 a0 e0=(g.l++ (vg_ s (n - g.l.length) g.l.length g.a g.e).1,g.sp++ (vg_ s (n - g.l.length) g.l.length g.a g.e).2.1,(vg_ s (n - g.l.length) g.l.length g.a g.e).2.2))∨
  (g.lab=0∧vg_ s n 0 a0 e0=(g.l,g.sp,g.a,g.e)))
def RdL (g:RdG):Nat:=match g.lab with
 |1=>1
 |_=>0
end Go.Proofs
end
section
open Go Go.Proofs Go.Sx Go.StP Go.Flo
namespace Go.Proofs
set_option maxRecDepth 10000
set_option maxHeartbeats 400000
set_option linter.unusedSimpArgs false
abbrev aqY_ (w:World) (v:Value) (l:List Nat):Prop:=SlV 1 natC 0 w v l
abbrev ObSl (w:World) (v:Value) (l:List ObL):Prop:=SlV 2 obC ob0 w v l
set_option linter.defProp false
def apm_:=And.intro (And.intro (@zf_) (And.intro (@ze_) (@qZ_))) (And.intro (And.intro (@qs_) (@qo_)) (And.intro (@qC_) (@qY_)))
def hasV (l:List PartL) (i:Int):Bool:=decide (0≤i)&&decide (i< (l.length:Int))
end Go.Proofs
end
section
open Go Go.Proofs Go.Sx Go.StP Go.Flo
namespace Go.Proofs
set_option maxRecDepth 10000
set_option maxHeartbeats 400000
set_option linter.unusedSimpArgs false
theorem z1_ {w0:World} {L X D:zc_} (hC:Came w0 L X D) (hX:New w0.heap.size X):New w0.heap.size D:=New.of_le fun c hc=>by
 rcases hC.new c hc with h| ⟨-,h⟩
 ·exact hX.le c h
 ·exact h
theorem GlobC.newP {w0 w:World} {L:zc_} (hg:GlobC w0) (h:Hp w0 L w) (hn:New w0.heap.size L):GlobC w:=
 hg.of h (hn.not (by obtain⟨e,f,h⟩:=hg;exact(Array.getElem?_eq_some_iff.1 h).1))
def aoJ_ (l:List PartL):Prop:= ∀g,g<l.length→(l.getD g ZD_).x.length≤17000000
structure PwG where
 k:Nat
 D:zc_
set_option linter.defProp false
def aqx_:=And.intro (And.intro (And.intro (@zf_) (@ze_)) (And.intro (@jk_) (And.intro (@jj_) (@jf_)))) (And.intro (And.intro (@wf_) (@qR_)) (And.intro (@XZ_) (And.intro (@Sx.tup2_0) (@Sx.tup2_1))))
end Go.Proofs
end
namespace Go.Sx
open Go
def tmpR:ResultVar→Bool
 | .tmp _=>true
 | .cell _ _=>false
theorem Ja_ {P:Program} {w0 w1:World} {L M:zc_} {f:Fr}: ∀ {rs:List ResultVar},rs.all tmpR=true→kx_ P w0 L f rs=kx_ P w1 M f rs
 | [],_=>rfl
 | .tmp t::r,h=>by
  simp only[List.all_cons,Bool.and_eq_true] at h
  rw[wl_,wl_,Ja_ (w1:=w1) (M:=M) h.2];rfl
 | .cell a t::r,h=>by simp[tmpR] at h
theorem Hp.later {w0 w1 w2:World} {L D:zc_} (h:Hp w0 L w1) (k:Hp w1 D w2) (hD:New w1.heap.size D):Hp w0 (L++D) w2:=
 Mrg.fresh hD.le w1 w2 rfl h k
theorem Cw.rebase {P:Program} {w0:World} {c:Code} {f:Fr} {L:zc_} {K:xN_} {K1:World→xN_} (h: ∀w1,Hp w0 L w1→Cw P w1 c f [] (K1 w1)) (hK: ∀w1 e f D,Hp w0 L w1→K1 w1 e f D→New w1.heap.size D∧K e f (L++D)):Cw P w0 c f L K:=by
 intro w hw
 refine wp_mono (h w hw w (Hp.refl w)) ?_
 rintro e a w' ⟨hd,D,hp,hk⟩
 obtain⟨h1,h2⟩:=hK w e _ D hw hk
 exact⟨hd,L++D,hw.later hp h1,h2⟩
theorem Cw.rebaseV {P:Program} {w0:World} {c:Code} {f:Fr} {L:zc_} {rs:List ResultVar} {S:Value→Prop} (hN:New w0.heap.size L) (ht:rs.all tmpR=true)
  (h: ∀w1,Hp w0 L w1→Cw P w1 c f [] (retV P w1 rs S)):Cw P w0 c f L (retV P w0 rs S):=by
 refine Cw.rebase (K1:=fun w1=>retV P w1 rs S) h ?_
 intro w1 e f D hw hk
 have key: (∃vs,kx_ P w1 D f rs=some vs∧New w1.heap.size D∧S (vt_ vs))→New w1.heap.size D∧ ∃vs,kx_ P w0 (L++D) f rs=some vs∧New w0.heap.size (L++D)∧S (vt_ vs):=by
  rintro⟨vs,h1,h2,h3⟩
  exact⟨h2,vs,by rw[Ja_ (w1:=w1) (M:=D) ht];exact h1,hN.app (h2.mono hw.size),h3⟩
 cases e<;>first
  |exact key hk
  |exact hk.elim
theorem Cw.rebaseX {P:Program} {w0:World} {c:Code} {f:Fr} {L X:zc_} {rs:List ResultVar} {S S1:Value→zc_→Prop} (ht:rs.all tmpR=true)
  (h: ∀w1,Hp w0 L w1→Cw P w1 c f [] (retK P w1 rs (XS w1 [] S1))) (hS: ∀v D,New w0.heap.size D→S1 v D→XS w0 X S v (L++D)):Cw P w0 c f L (retK P w0 rs (XS w0 X S)):=by
 refine Cw.rebase (K1:=fun w1=>retK P w1 rs (XS w1 [] S1)) h ?_
 intro w1 e f D hw hk
 have key: (∃vs,kx_ P w1 D f rs=some vs∧XS w1 [] S1 (vt_ vs) D)→New w1.heap.size D∧ ∃vs,kx_ P w0 (L++D) f rs=some vs∧XS w0 X S (vt_ vs) (L++D):=by
  rintro⟨vs,h1,h2,h3⟩
  exact⟨h2.new0,vs,by rw[Ja_ (w1:=w1) (M:=D) ht];exact h1,hS _ D (h2.new0.mono hw.size) h3⟩
 cases e<;>first
  |exact key hk
  |exact hk.elim
theorem Ow.world {P:Program} {w0:World} {ops:Array Oper} {l:List Oper} {f:Fr} {L:zc_} {N:Fr→zc_→Prop} (h: ∀w,Hp w0 L w→Ow P w0 ops .seq l f L N):Ow P w0 ops .seq l f L N:=fun w hw=>h w hw w hw
theorem Rets.chunk {P:Program} {k:FuncId} {args:Array Value} {w:World} {S:Value→Obj→Prop} {X:zc_} {b:Nat} (hX: ∀p,p∈X→w.heap[p.1]? =some p.2) (hn: (keys X).Nodup) (hb:b∈keys X)
  (h:Rets P k args w (fun v D=> ∃o,D= [(b,o)]∧S v o)):Rets P k args w (XS w X (fun v D=> ∃o,D=setB X b o∧S v o)):=
 Calls.mono h fun e w' ⟨v,D,he,hp,o,hD,hS⟩=>⟨v,setB X b o,he,by subst hD;exact Mrg.set hb w w' rfl ((Hp.refl w).ownX hX hn) hp,(Ext.refl w X).setB,o,rfl,hS⟩
theorem Rets.chunkV {P:Program} {k:FuncId} {args:Array Value} {w:World} {S:Value→Prop} {X:zc_} (hX: ∀p,p∈X→w.heap[p.1]? =some p.2) (hn: (keys X).Nodup)
  (h:Rets P k args w (fun v D=>S v∧D= [])):Rets P k args w (XS w X (fun v D=>D=X∧S v)):=
 Calls.mono h fun e w' ⟨v,D,he,hp,hS,hD⟩=>⟨v,X,he,by subst hD;exact((Hp.refl w).ownX hX hn).trans_nil hp,Ext.refl w X,rfl,hS⟩
theorem Rets.toX {P:Program} {k:FuncId} {a:Array Value} {w:World} {S:Value→Prop} (h:Rets P k a w (fun v D=>S v∧D= [])):Rets P k a w (XS w [] (fun v D=>D= []∧S v)):=
 h.mono fun v D ⟨h1,h2⟩=>⟨by subst h2;exact Ext.refl w [],h2,h1⟩
theorem Gr.rowL {α:Type} {m:Nat} {enc:α→List Value} {z:α} {w0 w:World} {v:Value} {l:List α} {L:zc_} {E:TypeId} {n:Nat} (h:Gr L E m v n (l.map enc).flatten) (hn:l.length=n) (hw:Hp w0 L w) (hm: ∀x,(enc x).length=m):
  ∃b off arr F fz,RowS m enc z w v l b off arr F fz∧(0<l.length→look L b=some (.cells arr F fz)):=by
 obtain⟨b,off,c,arr,F,fz,hr,hc,⟨rfl,rfl,rfl⟩ | ⟨rfl,hb,hsz⟩⟩:=h.slV (z:=z) hw hn rfl hm
 ·exact⟨b,off,arr,F,fz,hr,fun h0=>absurd h0 (by simp)⟩
 ·refine⟨b,off,arr,F,fz,hr,fun _=> ?_⟩
  obtain⟨o,ho⟩:=adk_ (h.key (b:=b) rfl)
  have:=hw.has _ _ (zL_ ho)
  rw[hb] at this
  rw[ho,this]
theorem GrI.rowL {α:Type} {m:Nat} {enc:α→List Value} {z:α} {w0 w:World} {v:Value} {l:List α} {D:zc_} {E:TypeId} {n:Nat} (h:GrI D E m v n (l.map enc).flatten) (hn:l.length=n) (hw:Hp w0 D w) (hm: ∀x,(enc x).length=m):
  ∃b off arr F fz,RowS m enc z w v l b off arr F fz∧(0<l.length→look D b=some (.cells arr F fz)):=by
 obtain⟨X,hX,h⟩:=h
 obtain⟨b,off,c,arr,F,fz,hr,hc,⟨rfl,rfl,rfl⟩ | ⟨rfl,hb,hsz⟩⟩:=h.slM (z:=z) (fun b o hm=>hw.has b o (hX _ hm)) hn rfl hm
 ·exact⟨b,off,arr,F,fz,hr,fun h0=>absurd h0 (by simp)⟩
 ·refine⟨b,off,arr,F,fz,hr,fun _=> ?_⟩
  obtain⟨o,ho⟩:=adk_ (h.key (b:=b) rfl)
  have hm:=hX _ (zL_ ho)
  have:=hw.has _ _ hm
  rw[hb] at this
  rw[wI_ hw.nodup hm,this]
end Go.Sx
section
open Go Go.Proofs Go.Sx Go.StP Go.Flo
namespace Go.Proofs
set_option maxRecDepth 10000
set_option maxHeartbeats 400000
set_option linter.unusedSimpArgs false
set_option linter.defProp false
def Xw_:=And.intro (@zf_) (@ze_)
theorem acU_ (b o n c:Nat):qE_ Tryz.prog .eql 133 (vsl b o n c) (.slice none 0 0)=some (.bool false):=by
 simp[qE_,eqX,qu_,qz_,Tryz.underlying133,vsl]
theorem Vo_:qE_ Tryz.prog .eql 133 (.slice none 0 0) (.slice none 0 0)=some (.bool true):=by
 simp[qE_,eqX,qu_,qz_,Tryz.underlying133]
theorem Qf_ (v:Value) (ls:List RwL) (w:World) (hv:RwSl w v ls) (hl:ls.length<1000000):
  Rets Tryz.prog 119 #[v] w (XS w [] (fun v D=>Gr D 132 34 v ls.length (ls.map rwC).flatten)):=by
 obtain⟨b,off,c,arr,E,fz,hr,hc,⟨rfl,rfl,rfl⟩ | ⟨rfl,hb,hsz⟩⟩:=hv
 ·refine Rets.enterX Tryz.func119 rfl (rs:= [.tmp 2]) Tryz.results119 Tryz.ntmps119 (fun p hp=>by cases hp) (by simp[keys]) ?_
  refine kf ?_
  first|with_reducible refine ks [] (And.intro @Xw_ (And.intro @acU_ (@Vo_))) ?_|refine kp (And.intro @Xw_ (And.intro @acU_ (@Vo_))) ?_
  refine⟨_,(ke @Xw_), ?_⟩
  exact⟨Ext.refl _ _,Gr.nl⟩
 ·have hbl:=(Array.getElem?_eq_some_iff.1 hb).1
  have hv:RwSl w (vsl b off ls.length c) ls:=⟨b,off,c,arr,E,fz,hr,hc, .inr ⟨rfl,hb,hsz⟩⟩
  refine Rets.enterX Tryz.func119 rfl (rs:= [.tmp 2]) Tryz.results119 Tryz.ntmps119 (fun p hp=>by cases hp) (by simp[keys]) ?_
  refine kf ?_
  first|with_reducible refine ks [] (And.intro @Xw_ (And.intro @acU_ (@Vo_))) ?_|refine kp (And.intro @Xw_ (And.intro @acU_ (@Vo_))) ?_
  refine Ow.buildSlice (e:=132) #[] rfl rfl (by kernel_rfl) fun b1 hb1 hw1=> ?_
  refine ko @Xw_ ?_
  refine Ow.appendG (e:=132) (k:=ls.length) (new:=(ls.map rwC).flatten) (vsl b1 0 0 0) rfl rfl rfl Tryz.underlying133 Tryz.ag132 (by kernel_rfl) zrRw (by rw[qB_,List.size_toArray,zT_]) Tryz.underlying133 (by intro k h;cases h) (.inr ⟨rfl,rfl,b1,rfl,k0_ hb1⟩) (fun w' hw'=>(hv.oldN hw' ⟨hw1,trivial⟩).appX zT_ JJ_) (kp_ zT_ ls) (by omega) (fun v2 L2 hB hB2 hG hS=> ?_)
  rw[Nat.zero_add,List.nil_append] at hB
  refine ko @Xw_ ?_
  first|with_reducible refine ks [] @Xw_ ?_|refine kp @Xw_ ?_
  refine⟨_,(ke @Xw_), ?_⟩
  exact⟨((Ext.refl w []).app (o:=Obj.cells #[] 132 (0,0)) hw1).grew hG,hB⟩
theorem ae2_ (v:Value) (X:zc_) (l:List RwL) (w:World) (hG:Gr X 132 34 v l.length (l.map rwC).flatten) (hX: ∀p,p∈X→w.heap[p.1]? =some p.2) (hn: (keys X).Nodup) (hl:l.length<1000000):
  Rets Tryz.prog 120 #[v,qS_] w (XS w X (fun v' D=>v'= .tuple #[]∧ ∃Z,rws_SortOf l Z∧Gr D 132 34 v l.length (Z.map rwC).flatten)):=by
 rcases hG with hS| ⟨h0,h1,rb,rfl,hlk⟩
 ·rcases hS.inv with⟨rfl,h0,h1⟩ | ⟨rb,c,rest,rfl,hlk,-,hc,hc0,hr⟩
  ·obtain rfl:l= []:=List.eq_nil_of_length_eq_zero h0
   refine(Rets.chunkV hX hn (Zq_ w)).mono ?_
   rintro v' D ⟨hE,rfl,hv⟩
   exact⟨hE,hv,[],⟨rfl,List.Pairwise.nil,StP.St.refl _ _⟩,Gr.nl⟩
  ·refine(Rets.chunk hX hn (zr_ hlk) (xT_ rb l.length c l rest w rfl hl (hX _ (zL_ hlk)))).mono ?_
   rintro v' D ⟨hE,o,rfl,hv,Z,rfl,z1,z2,z3⟩
   refine⟨hE,hv,Z,⟨z1,z2,z3⟩, .inl ?_⟩
   rw[←z1]
   exact Buf.at_ (ju_ hlk) (by rw[kp_ zT_]) (by rw[z1];exact hr) (by omega) hc0
 ·obtain rfl:l= []:=List.eq_nil_of_length_eq_zero h0
  refine(Rets.chunk hX hn (zr_ hlk) (xT_ rb 0 0 [] [] w rfl (by omega) (hX _ (zL_ hlk)))).mono ?_
  rintro v' D ⟨hE,o,rfl,hv,Z,rfl,z1,z2,z3⟩
  obtain rfl:Z= []:=List.eq_nil_of_length_eq_zero z1
  exact⟨hE,hv,[],⟨rfl,List.Pairwise.nil,StP.St.refl _ _⟩, .inr ⟨rfl,rfl,rb,rfl,ju_ hlk⟩⟩
theorem ZE_ (l:List RwL) {g:Nat} (h:g<l.length):xd_ (l.take (g+1))=xd_ (l.take g)++rowB (l.getD g rw0):=by
 rw[StP.take_snoc (z:=rw0) h];simp[xd_]
theorem ada_ (r:RwL): (rowB r).length≤44:=by
 have h1:=zj_ r.place
 have h2:=zj_ r.spot
 have h3:=r.id.h
 unfold rowB
 rw[List.length_append,List.length_append];omega
theorem Zn_ (l:List RwL): ∀g,g≤l.length→(xd_ (l.take g)).length≤g*44
 |0,_=>by simp[xd_]
 |g+1,h=>by
  rw[ZE_ l h,List.length_append]
  have:=Zn_ l g (by omega)
  have:=ada_ (l.getD g rw0)
  omega
theorem Zv_: ∀ (l:List Int),(j0_ l).length≤l.length*6
 | []=>by simp[j0_]
 |n::l=>by
  have h1:=Zv_ l
  have h2:=zj_ n
  have e:j0_ (n::l)=qd_ (zw_ n)++j0_ l:=by simp[j0_]
  rw[e,List.length_append,List.length_cons];omega
theorem kN_ (F:List Nat): (ZW_ F).length=F.length:=by simp[ZW_]
theorem aj9_ {w:World} {b:Nat} {s:List UInt8} {v1:Value} {F:List Nat} (h:w.heap[b]? =some (ixO s v1 F)) (c:Nat):OneS vi 0 w (vsl b 2 F.length c) (ZW_ F) b 2 ([vs s,v1]++ (F.map fun(n:Nat)=>vi (n:Int))).toArray 205 (0,0):=by
 refine OneS.sl (by rw[kN_]) h fun k hk=> ?_
 rw[kN_] at hk
 rw[List.getElem?_toArray,List.getElem?_append_right (by simp),show 2+k - [vs s,v1].length=k from by simp,List.getElem?_map,List.getElem?_eq_getElem hk]
 unfold ZW_
 rw[List.getD_eq_getElem?_getD,List.getElem?_map,List.getElem?_eq_getElem hk];rfl
structure IwG where
 k:Nat
 D:zc_
set_option linter.defProp false
def qf_:=And.intro (And.intro (And.intro (@zf_) (@ze_)) (And.intro (@qB_) (And.intro (@xk_) (@xF_)))) (And.intro (And.intro (@ke_) (@kh_)) (And.intro (@q1_) (And.intro (@Sx.tup2_0) (@Sx.tup2_1))))
theorem Jt_ (s:List UInt8) (v:Value) (l:List RwL) (w:World) (hC:GlobC w) (hv:RwSl w v l) (hl:l.length<1000000) (_hs:s.length<1099511627776):
  Rets Tryz.prog 68 #[vs s,v] w (fun v' D=>(∃Z,rws_SortOf l Z∧v'= .tuple #[vs (vE_ s Z).1,vi (vE_ s Z).2])∧D= []):=by
 refine Rets.enterV Tryz.func68 rfl (rs:= [.tmp 4, .tmp 5]) Tryz.results68 Tryz.ntmps68 ?_
 refine kf ?_
 first|with_reducible refine ks [1000006] @qf_ ?_|refine kp @qf_ ?_
 refine Ow.callX (Y:= []) (by simp) rfl rfl Tryz.call119 (fun w' hw' hX hn=>Qf_ v l w' (hv.oldN hw' trivial) hl) (fun v12 D12 hC12 hS12=> ?_)
 have hN12:New w.heap.size D12:=z1_ hC12 trivial
 rw[List.append_nil]
 refine ko @qf_ ?_
 first|with_reducible refine ks [] @qf_ ?_|refine kp @qf_ ?_
 refine Ow.callX (Y:= []) (by simp) rfl rfl Tryz.call120 (fun w' hw' hX hn=>ae2_ v12 D12 l w' hS12 hX hn hl) (fun v14 D14 hC14 hS14=> ?_)
 obtain⟨rfl,Z,hZ,hG⟩:=hS14
 have hN14:New w.heap.size D14:=z1_ hC14 hN12
 have hZl:=hZ.1
 rw[List.append_nil]
 refine ko @qf_ ?_
 first|with_reducible refine ks [] @qf_ ?_|refine kp @qf_ ?_
 refine Ow.callC rfl rfl Tryz.call122 (fun w' hw'=>adv_ s v12 Z w' (hG.slV hw' hZl rfl zT_) (by omega)) (fun B1 v18 D18 hA18 hB18 hN18 hS18=> ?_)
 have hN:New w.heap.size (D14++D18):=hN14.app (hN18.mono hB18)
 unfold OfIS at hS18
 by_cases hok:Zt_ Z Z.length=true
 ·rw[if_pos hok] at hS18
  obtain⟨bi,rfl,hbi⟩:=hS18
  have hri: (decide (s.length=4)&&decide (Z.length≤200))=qF_ s Z:=by unfold qF_;rw[hok,Bool.true_and]
  rw[hri]
  cases hr:qF_ s Z with
  |false=>
   refine ko @qf_ ?_
   first|with_reducible refine ks [] @qf_ ?_|refine kp @qf_ ?_
   refine⟨_,(ke @qf_),hN, ?_⟩
   exact⟨Z,hZ,by unfold vE_;rw[hr];rfl⟩
  |true=>
   obtain⟨-,hs4,hl2⟩:=kP_ hr
   refine ko @qf_ ?_
   refine Cw.rebaseV hN (by rfl) fun w1 hw1=> ?_
   have hC1:=hC.newP hw1 hN
   have hb1:w1.heap[bi]? =some (ixO s v12 (kw_ Z)):=hw1.has _ _ (List.mem_append_right _ hbi)
   have hv1:RwSl w1 v12 Z:=(hG.app (M:=D18)).slV hw1 hZl rfl zT_
   clear hw1 hG hbi hN hN18 hA18 hS12 hC14 hC12
   obtain⟨rb,off,arr,E,fz,hro⟩:=hv1.row
   have ln:=hv1.len
   first|with_reducible refine ks [] @qf_ ?_|refine kp @qf_ ?_
   refine Ow.alloc rfl rfl Tryz.zr199 fun b5 hb5 hw5=> ?_
   refine ko @qf_ ?_
   first|with_reducible refine ks [] @qf_ ?_|refine kp @qf_ ?_
   have hZ5:BldAt b5 [] [(b5, .cells #[.pointer none, .slice none 0 0] 199 (0,0))]:=BldAt.zeroK b5 (xj_ _ _ _)
   refine Ow.buildSlice (e:=9) #[vs [83,73,88,49],vs s] rfl rfl (by kernel_rfl) fun b15 hb15 hw15=> ?_
   have h515:b5<b15:=zs_ hb15 (by simp[keys])
   refine ko @qf_ ?_
   refine Ow.callX (Y:= [(b15, .cells #[vs [83,73,88,49],vs s] 9 (0,0))]) (by simp) rfl rfl Tryz.call123 (fun w' hw' hX hn=>vM_ b5 [(b5, .cells #[.pointer none, .slice none 0 0] 199 (0,0))] [] _ b15 0 [[83,73,88,49],s] _ _ _ w' hZ5 hX hn (StrS.lit [[83,73,88,49],s] rfl rfl (hw'.has _ _ (List.mem_cons_of_mem _ List.mem_cons_self))) (fun _ hm=>by simp[keys] at hm;omega) (by simp;omega) (by simp)) (fun v16 D16 hC16 hS16=> ?_)
   obtain⟨rfl,hB16⟩:=hS16
   have hN16:New w1.heap.size D16:=z1_ hC16 ⟨hw5,trivial⟩
   refine ko @qf_ ?_
   first|with_reducible refine ks [] (And.intro @qf_ @ln) ?_|refine kp (And.intro @qf_ @ln) ?_
   refine Ow.buildSlice (e:=3) #[vi Z.length] rfl rfl (by kernel_rfl) fun b19 hb19 hw19=> ?_
   refine ko @qf_ ?_
   rw[List.append_assoc]
   refine Ow.callX (Y:= [(b15, .cells #[vs [83,73,88,49],vs s] 9 (0,0)),(b19, .cells #[vi Z.length] 3 (0,0))]) (by simp) rfl rfl Tryz.call124 (fun w' hw' hX hn=>ja_ b5 D16 _ _ b19 0 [(Z.length:Int)] _ _ _ w' hB16 hX hn (OneS.lit [(Z.length:Int)] rfl rfl (hw'.has b19 (.cells #[vi Z.length] 3 (0,0)) (by simp))) (fun _ hm=>Nat.lt_irrefl _ (zs_ hb19 (by rw[zR_];exact List.mem_append_left _ hm))) (by simp;omega)) (fun v20 D20 hC20 hS20=> ?_)
   obtain⟨rfl,hB20⟩:=hS20
   rw[w5_] at hB20
   have hN20:New w1.heap.size D20:=z1_ hC20 hN16
   have hbil:=(Array.getElem?_eq_some_iff.1 hb1).1
   refine ko @qf_ ?_
   first|with_reducible refine ks [] @qf_ ?_|refine kp @qf_ ?_
   have hN20':New w1.heap.size (D20++ [(b15,Obj.cells #[vs [83,73,88,49],vs s] 9 (0,0)),(b19,Obj.cells #[vi Z.length] 3 (0,0))]):=hN20.app ⟨hw15,hw19,trivial⟩
   have hnl:=zj_ (Z.length:Int)
   have hfl: (kw_ Z).length=16:=QH_ Z
   have hfb:=Zv_ (ZW_ (kw_ Z))
   rw[kN_,hfl] at hfb
   refine Ow.callX (Y:= [(b15, .cells #[vs [83,73,88,49],vs s] 9 (0,0)),(b19, .cells #[vi Z.length] 3 (0,0))]) (by simp) rfl rfl Tryz.call124 (fun w' hw' hX hn=>ja_ b5 D20 _ (vsl bi 2 16 16) bi 2 (ZW_ (kw_ Z)) _ _ _ w' hB20 hX hn (hfl▸aj9_ (by rw[hw'.old bi hbil (hN20'.not hbil)];exact hb1) 16) (fun _ hm=>by have:=hN20.le _ hm;omega) (by rw[kN_,hfl];simp;omega)) (fun v34 D34 hC34 hS34=> ?_)
   obtain⟨rfl,hB34⟩:=hS34
   have hN34:New w1.heap.size D34:=z1_ hC34 hN20
   obtain⟨Pre,hPre⟩: ∃Pre,Pre=magI++ (s++ (qd_ (zw_ (Z.length:Int))++xr_ (kw_ Z))):=⟨_,rfl⟩
   have hidx:vu_ s Z=Pre++xd_ Z:=by rw[hPre];unfold vu_;simp only[List.append_assoc]
   have hPl:Pre.length≤200:=by rw[hPre];simp only[List.length_append];unfold xr_;rw[show magI.length=4 from rfl];omega
   have hB0:BldAt b5 (Pre++xd_ (Z.take 0)) (D34++ [(b15,Obj.cells #[vs [83,73,88,49],vs s] 9 (0,0)),(b19, .cells #[vi Z.length] 3 (0,0))]):=by
    have:=hB34.app (Y:= [(b15,Obj.cells #[vs [83,73,88,49],vs s] 9 (0,0)),(b19, .cells #[vi Z.length] 3 (0,0))])
    rw[hPre]
    simpa [magI,xd_,xr_] using this
   clear hPre
   refine ko @qf_ ?_
   first|with_reducible refine ks [] (And.intro @qf_ @ln) ?_|refine kp (And.intro @qf_ @ln) ?_
   refine Cw.loopG (G:=IwG) [38,39,40,10,41,42,43,44,45,46,47,48,49,50,51,37] (fun g=> [(37,vi g.k)]) (fun g=>g.D) (fun g=>g.k≤Z.length∧New w1.heap.size g.D∧BldAt b5 (Pre++xd_ (Z.take g.k)) g.D) (fun g=>Z.length - g.k) ⟨0,D34++ [(b15,Obj.cells #[vs [83,73,88,49],vs s] 9 (0,0)),(b19, .cells #[vi Z.length] 3 (0,0))]⟩ rfl rfl ?_ ?_
   ·exact⟨Nat.zero_le _,hN34.app ⟨hw15,hw19,trivial⟩,hB0⟩
   intro g j hg
   refine kv ?_
   obtain⟨k,D⟩:=g
   simp only at hg ⊢
   obtain⟨hk,hN,hB⟩:=hg
   have hrl:=Zn_ Z k hk
   by_cases hlt:k<Z.length
   ·have d1:decide ((k:Int)< (Z.length:Int))=true:=decide_eq_true (by omega)
    have hb1:=hro.has (by omega)
    have hb1l:=hro.lt (by omega)
    have ix:=hro.idx true k hlt
    have ld:=hro.load zT_ (by omega) hlt
    have rd:zv_ w1 D rb=some (.cells arr E fz):=by rw[z8_ (hN.not hb1l)];exact hb1
    have hsn:=ZE_ Z hlt
    generalize hp:Z.getD k rw0=r at*
    first|with_reducible refine ks [1000013] (And.intro @qf_ (And.intro @d1 (And.intro @ix (And.intro @rd (@ld))))) ?_|refine kp (And.intro @qf_ (And.intro @d1 (And.intro @ix (And.intro @rd (@ld))))) ?_
    refine Ow.alloc rfl rfl zrRw fun b7 hb7 hw7=> ?_
    simp only[zg_,List.nil_append,List.cons_append]
    refine Ow.permL (M:=(b7, .cells (rwC rw0).toArray 132 (0,0))::D) (by classical exact List.perm_iff_count.2 fun a=>by simp only[List.count_append,List.count_cons,List.count_nil]<;>omega) ?_
    refine ko @qf_ ?_
    first|with_reducible refine ks [] @qf_ ?_|refine kp @qf_ ?_
    have hrb:=ada_ r
    have hru:rowB r=r.id.l++ (qd_ (zw_ r.place)++qd_ (zw_ r.spot)):=rfl
    have hru2: (rowB r).length=32+ ((qd_ (zw_ r.place)).length+ (qd_ (zw_ r.spot)).length):=by rw[hru];simp only[List.length_append,r.id.h]
    refine Ow.buildSlice (e:=86) (a8 r.id.l) rfl rfl (W4_ r.id) fun b35 hb35 hw35=> ?_
    refine ko @qf_ ?_
    refine Ow.permL (M:=D++ [(b7,Obj.cells (rwC r).toArray 132 (0,0)),(b35, .cells (a8 r.id.l) 86 (0,0))]) (by classical exact List.perm_iff_count.2 fun a=>by simp only[List.count_append,List.count_cons,List.count_nil]<;>omega) ?_
    refine Ow.callX (Y:= [(b7,Obj.cells (rwC r).toArray 132 (0,0)),(b35, .cells (a8 r.id.l) 86 (0,0))]) (by simp) rfl rfl Tryz.call125 (fun w' hw' hX hn=>adq_ b5 D _ _ b35 0 [r.id] _ _ _ w' hB hX hn (WP_ r.id (hw'.has b35 (.cells (a8 r.id.l) 86 (0,0)) (by simp))) (fun _ hm=>Nat.lt_irrefl _ (zs_ hb35 (by simp[keys] at hm ⊢;exact .inr hm))) (by rw[List.length_append];simp;omega)) (fun v36 D36 hC36 hS36=> ?_)
    obtain⟨rfl,hB36⟩:=hS36
    have hN36:New w1.heap.size D36:=z1_ hC36 hN
    refine Ow.permL (M:=(b7,Obj.cells (rwC r).toArray 132 (0,0)):: (D36++ [(b35, .cells (a8 r.id.l) 86 (0,0))])) (by classical exact List.perm_iff_count.2 fun a=>by simp only[List.count_append,List.count_cons,List.count_nil]<;>omega) ?_
    refine ko @qf_ ?_
    first|with_reducible refine ks [] @qf_ ?_|refine kp @qf_ ?_
    refine Ow.buildSlice (e:=3) #[vi r.place,vi r.spot] rfl rfl (by kernel_rfl) fun b39 hb39 hw39=> ?_
    refine ko @qf_ ?_
    refine Ow.permL (M:=D36++ [(b7,Obj.cells (rwC r).toArray 132 (0,0)),(b35, .cells (a8 r.id.l) 86 (0,0)),(b39, .cells #[vi r.place,vi r.spot] 3 (0,0))]) (by classical exact List.perm_iff_count.2 fun a=>by simp only[List.count_append,List.count_cons,List.count_nil]<;>omega) ?_
    refine Ow.callX (Y:= [(b7,Obj.cells (rwC r).toArray 132 (0,0)),(b35, .cells (a8 r.id.l) 86 (0,0)),(b39, .cells #[vi r.place,vi r.spot] 3 (0,0))]) (by simp) rfl rfl Tryz.call124 (fun w' hw' hX hn=>ja_ b5 D36 _ _ b39 0 [r.place,r.spot] _ _ _ w' hB36 hX hn (OneS.lit [r.place,r.spot] rfl rfl (hw'.has b39 (.cells #[vi r.place,vi r.spot] 3 (0,0)) (by simp))) (fun _ hm=>Nat.lt_irrefl _ (zs_ hb39 (by simp[keys] at hm ⊢;exact .inr (.inl hm)))) (by simp[idsL,r.id.h];omega)) (fun v40 D40 hC40 hS40=> ?_)
    obtain⟨rfl,hB40⟩:=hS40
    have hN40:New w1.heap.size D40:=z1_ hC40 hN36
    refine ko @qf_ ?_
    first|with_reducible refine ks [] @qf_ ?_|refine kp @qf_ ?_
    refine Again.mk ⟨k+1,D40++ [(b7,Obj.cells (rwC r).toArray 132 (0,0)),(b35, .cells (a8 r.id.l) 86 (0,0)),(b39, .cells #[vi r.place,vi r.spot] 3 (0,0))]⟩ (by show Z.length - (k+1)<Z.length - k;omega) ⟨hlt,hN40.app ⟨hw7,hw35,hw39,trivial⟩, ?_⟩ rfl rfl
    show BldAt b5 (Pre++xd_ (Z.take (k+1))) _
    rw[hsn]
    have:=hB40.app (Y:= [(b7,Obj.cells (rwC r).toArray 132 (0,0)),(b35, .cells (a8 r.id.l) 86 (0,0)),(b39, .cells #[vi r.place,vi r.spot] 3 (0,0))])
    simpa [rowB,idsL,j0_] using this
   ·obtain rfl:k=Z.length:=by omega
    have d1:decide ((Z.length:Int)< (Z.length:Int))=false:=decide_eq_false (by omega)
    rw[List.take_length] at hrl hB
    rw[←hidx] at hB
    have hpl: (vu_ s Z).length<34359738368:=by rw[hidx,List.length_append];omega
    first|with_reducible refine ks [] (And.intro @qf_ @d1) ?_|refine kp (And.intro @qf_ @d1) ?_
    refine Ow.callX (Y:= []) (by simp) rfl rfl Tryz.call127 (fun w' hw' hX hn=>Qb_ b5 D (vu_ s Z) w' hB hX hn hpl) (fun v42 D42 hC42 hS42=> ?_)
    subst hS42
    have hN42:New w1.heap.size D42:=z1_ hC42 hN
    rw[List.append_nil]
    refine ko @qf_ ?_
    refine Ow.callFV rfl Tryz.call126 (fun w' hw'=>ZR_ (vu_ s Z) w' (hC1.newP hw' hN42) (by omega)) ?_
    refine ko @qf_ ?_
    first|with_reducible refine ks [] @qf_ ?_|refine kp @qf_ ?_
    refine⟨_,(ke @qf_),hN42, ?_⟩
    exact⟨Z,hZ,by unfold vE_;rw[hr];rfl⟩
 ·rw[if_neg hok] at hS18
  subst hS18
  refine ko @qf_ ?_
  first|with_reducible refine ks [] @qf_ ?_|refine kp @qf_ ?_
  refine⟨_,(ke @qf_),hN, ?_⟩
  exact⟨Z,hZ,by unfold vE_ qF_;rw[Bool.eq_false_iff.2 hok];rfl⟩
end Go.Proofs
end
section
open Go Go.Proofs Go.Sx Go.StP Go.Flo
namespace Go.Proofs
set_option maxRecDepth 10000
set_option maxHeartbeats 400000
set_option linter.unusedSimpArgs false
theorem eqDi (a b:Int):eqD Tryz.prog 7 3 (vi a) (vi b)=some (a==b):=by unfold eqD;rw[Tryz.underlying3];rfl
theorem eqDs (a b:List UInt8):eqD Tryz.prog 7 9 (vs a) (vs b)=some (a==b):=by unfold eqD;rw[Tryz.underlying9];simp only[vs,adt_]
theorem eqDb (a b:Bool):eqD Tryz.prog 7 4 (.bool a) (.bool b)=some (a==b):=by unfold eqD;rw[Tryz.underlying4];rfl
theorem agI:zP_ Tryz.prog 3=some (false,1):=id (by kernel_rfl)
theorem agS:zP_ Tryz.prog 9=some (false,1):=id (by kernel_rfl)
theorem agB:zP_ Tryz.prog 4=some (false,1):=id (by kernel_rfl)
theorem amI_ (a b:ObL):eqD Tryz.prog 8 177 (obV a.k a.t) (obV b.k b.t)=some (decide (a=b)):=by
 have p0: ∀o:ObL,Sx.partV (false,1) #[vi o.k,vs o.t] 0=some (vi o.k):=fun _=>rfl
 have p1: ∀o:ObL,Sx.partV (false,1) #[vi o.k,vs o.t] 1=some (vs o.t):=fun _=>rfl
 unfold eqD obV
 rw[Tryz.underlying177]
 simp only
 rw[show Tryz.prog.stoodInHeld 177=false by kernel_rfl]
 simp only[Bool.false_eq_true, ↓reduceIte,xe_,xQ_,agI,agS,p0,p1,eqDi,eqDs]
 obtain⟨k,t⟩:=a
 obtain⟨k',t'⟩:=b
 have e:decide ((⟨k,t⟩:ObL)=⟨k',t'⟩)=((k==k')&& (t==t')):=by rw[Bool.eq_iff_iff];simp
 rw[e]
 cases(k==k')<;>cases(t==t')<;>rfl
theorem amX_ (a b:ObL):qE_ Tryz.prog .eql 177 (obV a.k a.t) (obV b.k b.t)=some (.bool (decide (a=b))):=by
 have h:=amI_ a b
 unfold qE_ eqX obV at*;rw[show Tryz.prog.eqGuardType Tryz.prog.depth 177=false by kernel_rfl];simp[qu_,h]
theorem any_ (a b:ObL):qE_ Tryz.prog .neq 177 (obV a.k a.t) (obV b.k b.t)=some (.bool (!decide (a=b))):=by
 have h:=amI_ a b
 unfold qE_ eqX obV at*;rw[show Tryz.prog.eqGuardType Tryz.prog.depth 177=false by kernel_rfl];simp[qu_,h]
instance:DecidableEq PartL:=fun a b=>if h:a.d=b.d∧a.b=b.b∧a.x=b.x then .isTrue (by cases a;cases b;simp only at h;obtain⟨rfl,rfl,rfl⟩:=h;rfl) else .isFalse (fun e=>h (by rw[e];exact⟨rfl,rfl,rfl⟩))
theorem akR_ (a b:PartL):eqD Tryz.prog 8 286 (.agg (jE_ a).toArray) (.agg (jE_ b).toArray)=some (decide (a=b)):=by
 have p0: ∀o:PartL,Sx.partV (false,1) (jE_ o).toArray 0=some (.bool o.d):=fun _=>rfl
 have p1: ∀o:PartL,Sx.partV (false,1) (jE_ o).toArray 1=some (vi o.b):=fun _=>rfl
 have p2: ∀o:PartL,Sx.partV (false,1) (jE_ o).toArray 2=some (vs o.x):=fun _=>rfl
 unfold eqD
 rw[Tryz.underlying286]
 simp only
 rw[show Tryz.prog.stoodInHeld 286=false by kernel_rfl]
 simp only[Bool.false_eq_true, ↓reduceIte,xe_,xQ_,agI,agS,agB,p0,p1,p2,eqDi,eqDs,eqDb]
 obtain⟨d,k,t⟩:=a
 obtain⟨d',k',t'⟩:=b
 have e:decide ((⟨d,k,t⟩:PartL)=⟨d',k',t'⟩)=((d==d')&& ((k==k')&& (t==t'))):=by rw[Bool.eq_iff_iff];simp
 rw[e]
 simp only[ne_eq,String.reduceEq,not_false_eq_true, ↓reduceIte]
 cases(d==d')<;>cases(k==k')<;>cases(t==t')<;>rfl
theorem ald_ (a b:PartL):qE_ Tryz.prog .neq 286 (.agg (jE_ a).toArray) (.agg (jE_ b).toArray)=some (.bool (!decide (a=b))):=by
 have h:=akR_ a b
 unfold qE_ eqX;rw[show Tryz.prog.eqGuardType Tryz.prog.depth 286=false by kernel_rfl];simp[qu_,h]
def idxO (x:ObL):List ObL→Nat→Int
 | [],_=> -1
 |y::r,i=>if x=y then(i:Int) else idxO x r (i+1)
set_option linter.defProp false
def apd_:=And.intro (And.intro (@amX_) (And.intro (@qZ_) (@qs_))) (And.intro (@qo_) (And.intro (@zf_) (@ze_)))
end Go.Proofs
end
section
open Go Go.Proofs Go.Sx Go.StP Go.Flo
namespace Go.Proofs
set_option maxRecDepth 10000
set_option maxHeartbeats 400000
set_option linter.unusedSimpArgs false
theorem aeN_ (s:List UInt8) (a:Nat) (e most:Int) (hm:0≤most): ((zY_ s a e most).1.length:Int)≤most:=by
 have h1:=j1_ (s:=s) (a:=a) (e:=e) (most:=most) hm
 have h2: ∀ (b:Nat) (e n:Int),0≤n→((qw_ s b e n).1.length:Int)≤n:=by
  intro b e n hn
  unfold qw_
  split
  ·simpa using hn
  ·split
   ·simpa using hn
   ·split
    ·simpa using hn
    ·simp only[List.length_take,List.length_drop];omega
 unfold zY_
 simp only
 split
 ·simpa using hm
 ·have:=h2 (zx_ s a e most).2.1 (zx_ s a e most).2.2 (zx_ s a e most).1 h1.1
  omega
set_option linter.defProp false
def aqV_:=And.intro (And.intro (@zf_) (@ze_)) (And.intro (@Sx.tup2_0) (@Sx.tup2_1))
end Go.Proofs
end
section
open Go Go.Proofs Go.Sx Go.StP Go.Flo
namespace Go.Proofs
set_option maxRecDepth 10000
set_option maxHeartbeats 400000
set_option linter.unusedSimpArgs false
theorem abb_ (r:RwL):ql_ (vo_ Tryz.prog 132) (zZ_ Tryz.prog 132) [(0,Value.agg (a8 r.id.l))]=some (.agg (rwC ⟨r.id,0,0⟩).toArray):=by
 have hp:vo_ Tryz.prog 132=some [(0,32),(32,1),(33,1)]:=id (by kernel_rfl)
 rw[hp,zrRw]
 have e0: (rwC rw0).toArray=(([]:List Value)++ ((rw0.id.l.map v8)++ ([vi rw0.place]++ ([vi rw0.spot])))).toArray:=by congr 1<;>simp only[rwC,List.append_assoc,List.nil_append,List.append_nil]
 have q0:x8_ (([]:List Value)++ ((rw0.id.l.map v8)++ ([vi rw0.place]++ ([vi rw0.spot])))).toArray 0 (r.id.l.map v8)=(([]:List Value)++ ((r.id.l.map v8)++ ([vi rw0.place]++ ([vi rw0.spot])))).toArray:=jc_ _ _ _ _ (by simp) (by simp[rw0.id.h,r.id.h])
 have s0: (([]:List Value)++ ((rw0.id.l.map v8)++ ([vi rw0.place]++ ([vi rw0.spot])))).toArray.size=34:=by simp[r.id.h,rw0.id.h]
 have z0: (Value.cells (Value.agg (a8 r.id.l))).toList=r.id.l.map v8:=by rw[zg_];rfl
 have y0: (Value.cells (Value.agg (a8 r.id.l))).size=32:=by rw[←Array.length_toList,z0];simp[r.id.h]
 have eZ: (([]:List Value)++ ((r.id.l.map v8)++ ([vi rw0.place]++ ([vi rw0.spot])))).toArray=(rwC ⟨r.id,0,0⟩).toArray:=by congr 1
 simp only[ql_]
 rw[e0]
 unfold Sx.fillV
 simp only[List.getElem?_cons_zero,List.getElem?_cons_succ,z0,y0]
 rw[if_pos ⟨trivial,by rw[s0];decide⟩,q0]
 rw[eZ];rfl
def IxD (D:zc_) (bi:Nat) (s:List UInt8) (l:List RwL):Prop:= ∃x,(bi,ixO s x (kw_ l))∈D∧GrI D 132 34 x l.length (l.map rwC).flatten
def IxIn (w:World) (bi:Nat) (s:List UInt8) (l:List RwL):Prop:= ∃x,w.heap[bi]? =some (ixO s x (kw_ l))∧RwSl w x l
theorem IxD.mono {D D':zc_} {bi:Nat} {s:List UInt8} {l:List RwL} (h:IxD D bi s l) (hD: ∀p,p∈D→p∈D'):IxD D' bi s l:=by
 obtain⟨x,h1,h2⟩:=h;exact⟨x,hD _ h1,h2.mono hD⟩
theorem IxD.inW {w0 w:World} {D:zc_} {bi:Nat} {s:List UInt8} {l:List RwL} (h:IxD D bi s l) (hw:Hp w0 D w):IxIn w bi s l:=by
 obtain⟨x,h1,h2⟩:=h;exact⟨x,hw.has _ _ h1,h2.slV hw rfl rfl zT_⟩
theorem IxIn.old {w w':World} {L:zc_} {bi:Nat} {s:List UInt8} {l:List RwL} (h:IxIn w bi s l) (hw:Hp w L w') (hn:New w.heap.size L):IxIn w' bi s l:=by
 obtain⟨x,h1,h2⟩:=h
 exact⟨x,by rw[hw.old bi (Array.getElem?_eq_some_iff.1 h1).1 (hn.not (Array.getElem?_eq_some_iff.1 h1).1)];exact h1,h2.oldN hw hn⟩
theorem adl_ (s:List UInt8) (v1:Value) (F:List Nat) (n:Nat):zp_ (some (false,n)) (some (ixO s v1 F)) 0=some (vs s):=by
 rfl
theorem ajo_ (s:List UInt8) (v1:Value) (F:List Nat) (n:Nat):zp_ (some (false,n)) (some (ixO s v1 F)) 1=some v1:=by
 rfl
theorem Wr_ (b:Nat) (s:List UInt8) (a:Nat) (e:Int) (w:World) (ha:a≤s.length) (hs:s.length<9223372036854775808) (ho:w.heap[b]? =some (wrO s a e)):
  Rets Tryz.prog 91 #[vp b 0] w (fun v D=> ∃o,D= [(b,o)]∧v= .agg (a8 (idR s a e).1)∧o=wrO s (idR s a e).2.1 (idR s a e).2.2):=ai4_ b s a e w ha hs ho
def agL_ (b:List UInt8) (v:Value) (D:zc_):Prop:=match kt_ b with
 |some q=> ∃bi,v= .tuple #[vp bi 0,vi 0]∧IxD D bi q.1 q.2
 |none=>v= .tuple #[.pointer none,vi 2]
theorem kZ_ (b:List UInt8): (zi_ b).1.length≤b.length:=by
 unfold zi_
 split
 ·simp
 ·split
  ·simp only[List.length_take];omega
  ·simp
theorem KC_ {s:List UInt8} {a:Nat} {e:Int} (ha:a≤s.length): (idR s a e).2.1≤s.length:=(vL_ ha).2
theorem aiP_ {s:List UInt8} {l Z:List RwL} (h:qF_ s l=true) (hZ:rws_SortOf l Z):vE_ s Z=(z5_ (vu_ s l),0):=by
 have e:Z=l:=hZ.eq (Wy_ (kP_ h).1)
 subst e
 unfold vE_;rw[if_pos h]
theorem aiT_ {b s:List UInt8} {l:List RwL} {a:Nat} {e:Int} (h:xJ_ (zi_ b).1 id=(s,l,a,e)):kt_ b=if vU_ (zi_ b).1 a e=0∧qF_ s l=true∧z5_ (vu_ s l)=b then some (s,l) else none:=by
 unfold kt_;rw[h]
theorem aad_ {s:List UInt8} {m:Int}: ∀ (k:Nat) (q:Nat×Int),q.2≠0→k3_ s m k q=q
 |0,_,_=>rfl
 |k+1,q,h=>by
  unfold k3_
  rw[acK_ h]
  exact aad_ k (q.1,q.2) h
theorem aid_ {s:List UInt8} {a:Nat} {e:Int} (h:e≠0): (wx_ s a e).2=(a,e):=by
 unfold wx_ wF_
 simp only[alF_ h,acK_ h]
structure OiG where
 k:Nat
 q:Nat×Int
structure OrG where
 l:List RwL
 q:Nat×Int
 v:Value
 D1:zc_
 DG:zc_
set_option linter.defProp false
def zU_:=And.intro (And.intro (And.intro (@zf_) (And.intro (@ze_) (@qB_))) (And.intro (@xk_) (And.intro (@xF_) (@ke_)))) (And.intro (And.intro (@kh_) (And.intro (@q1_) (@Wd_))) (And.intro (And.intro (@VP_) (@Sx.tup2_0)) (And.intro (@Sx.tup2_1) (@adl_))))
theorem aeG_ (b:List UInt8) (w:World) (hC:GlobC w) (hb:b.length<1099511627776):
  Rets Tryz.prog 74 #[vs b] w (XS w [] (agL_ b)):=by
 refine Rets.enterX Tryz.func74 rfl (rs:= [.tmp 2, .tmp 3]) Tryz.results74 Tryz.ntmps74 (fun p hp=>by cases hp) (by simp[keys]) ?_
 refine kf ?_
 first|with_reducible refine ks [1000021] @zU_ ?_|refine kp @zU_ ?_
 refine Ow.callFV rfl Tryz.call86 (fun w' hw'=>Qq_ b w' (hC.newP hw' trivial) (by omega)) ?_
 have hun: (zi_ b).1.length≤b.length:=kZ_ b
 unfold agL_
 obtain⟨r,hr⟩: ∃r,r=xJ_ (zi_ b).1 id:=⟨_,rfl⟩
 obtain⟨rs,rl,ra,re⟩:=r
 rw[aiT_ hr.symm]
 generalize zi_ b=u at*
 obtain⟨s,ok⟩:=u
 simp only at hun hr ⊢
 refine ko @zU_ ?_
 first|with_reducible refine ks [] @zU_ ?_|refine kp @zU_ ?_
 refine Ow.callF rfl rfl Tryz.call87 (S:=fun B v D=> ∃b',B≤b'∧v=vp b' 0∧D= [(b',wrO s 0 0)]) (fun w' hw'=>aam_ s w') ?_
 rintro B v D hab hB ⟨bw,hbw,rfl,rfl⟩
 have hww:w.heap.size≤bw:=by omega
 refine⟨_,Mrg.fresh (by intro q hq;simp only[keys,List.map_cons,List.map_nil,List.mem_singleton] at hq;omega), ?_⟩
 rw[List.nil_append]
 refine ko @zU_ ?_
 first|with_reducible refine ks [] @zU_ ?_|refine kp @zU_ ?_
 refine Ow.callM rfl rfl Tryz.call88 (by simp[keys]) (fun w' hw'=>ZK_ bw s 0 0 8 w' (Nat.zero_le _) (by omega) (hw'.has _ _ List.mem_cons_self)) ?_
 have r1:=vL_ (s:=s) (a:=0) (e:=0) (n:=8) (Nat.zero_le _)
 unfold xJ_ at hr
 have hr8: (qw_ s 0 0 8).2.2=0→(qw_ s 0 0 8).1.length=8:=fun h=>(adD_ (Nat.zero_le _) h).2.1
 generalize qw_ s 0 0 8=p at*
 obtain⟨hd,a1,e1⟩:=p
 simp only at r1 hr hr8 ⊢
 refine kn ?_
 refine ko @zU_ ?_
 first|with_reducible refine ks [] @zU_ ?_|refine kp @zU_ ?_
 refine Ow.callM rfl rfl Tryz.call89 (by simp[keys]) (fun w' hw'=>qq_ bw s a1 e1 200 w' r1.2 (by omega) (hw'.has _ _ List.mem_cons_self)) ?_
 have r2:=qx_ (s:=s) (a:=a1) (e:=e1) (most:=200) r1.2
 have m2:=j1_ (s:=s) (a:=a1) (e:=e1) (most:=200) (by omega)
 have f2:e1≠0→(zx_ s a1 e1 200).2.2≠0:=fun h=>by rw[acK_ h];exact h
 generalize zx_ s a1 e1 200=p at*
 obtain⟨n0,a2,e2⟩:=p
 simp only at r2 m2 hr f2 ⊢
 obtain⟨n,rfl⟩: ∃n:Nat,n0=(n:Int):=⟨n0.toNat,by omega⟩
 rw[Int.toNat_natCast] at hr
 refine kn ?_
 refine ko @zU_ ?_
 first|with_reducible refine ks [] @zU_ ?_|refine kp @zU_ ?_
 have hrq: (rs,rl,ra,re)=(hd.drop 4,xi_ s n (k3_ s (n:Int) 16 (a2,e2))):=hr
 clear hr
 refine Cw.loopG (G:=OiG) [27,28,29,30,31,26] (fun g=> [(26,vi g.k)]) (fun g=> [(bw,wrO s g.q.1 g.q.2)]) (fun g=>g.k≤16∧g.q.1≤s.length∧k3_ s (n:Int) 16 (a2,e2)=k3_ s (n:Int) (16 - g.k) g.q) (fun g=>16 - g.k) ⟨0,(a2,e2)⟩ rfl rfl ?_ ?_
 ·exact⟨Nat.zero_le _,r2.2,rfl⟩
 intro g j hg
 refine kv ?_
 obtain⟨k,q⟩:=g
 simp only at hg ⊢
 obtain⟨hk,hq,hf⟩:=hg
 by_cases hlt:k<16
 ·have d1:decide ((k:Int)<16)=true:=decide_eq_true (by omega)
  have hf2:k3_ s (n:Int) (16 - k) q=k3_ s (n:Int) (16 - (k+1)) (zx_ s q.1 q.2 n).2:=by
   rw[show 16 - k=(16 - (k+1))+1 by omega];rfl
  first|with_reducible refine ks [] (And.intro @zU_ @d1) ?_|refine kp (And.intro @zU_ @d1) ?_
  refine Ow.callM rfl rfl Tryz.call89 (by simp[keys]) (fun w' hw'=>qq_ bw s q.1 q.2 n w' hq (by omega) (hw'.has _ _ List.mem_cons_self)) ?_
  refine kn ?_
  refine ko @zU_ ?_
  first|with_reducible refine ks [] @zU_ ?_|refine kp @zU_ ?_
  exact Again.mk ⟨k+1,(zx_ s q.1 q.2 n).2⟩ (by show 16 - (k+1)<16 - k;omega) ⟨hlt,(qx_ hq).2,hf.trans hf2⟩ rfl rfl
 obtain rfl:k=16:=by omega
 have d1:decide (((16:Nat):Int)<16)=false:=rfl
 have hf3:k3_ s (n:Int) 16 (a2,e2)=q:=hf
 have g2:q.2=0→e1=0:=fun h=>Decidable.byContradiction fun hh=>by
  have:=aad_ (s:=s) (m:=n) 16 (a2,e2) (f2 hh)
  rw[hf3] at this
  rw[this] at h
  exact f2 hh h
 rw[hf3] at hrq
 clear hf hf3 r2 f2
 obtain⟨q0,hq0⟩: ∃q0,q0=q:=⟨q,rfl⟩
 rw[←hq0] at hrq
 first|with_reducible refine ks [] (And.intro @zU_ @d1) ?_|refine kp (And.intro @zU_ @d1) ?_
 refine Cw.permL (M:=(bw,wrO s q.1 q.2):: ([]++ [])) (List.Perm.refl _) ?_
 refine Cw.loopG (G:=OrG) [34,35,36,37,10,38,39,40,41,42,43,44,45,46,47,9,48,33] (fun g=> [(9,g.v),(33,vi g.l.length)]) (fun g=>(bw,wrO s g.q.1 g.q.2):: (g.D1++g.DG)) (fun g=>g.l.length≤n∧g.q.1≤s.length∧New w.heap.size g.D1∧New w.heap.size g.DG∧Gr g.D1 132 34 g.v g.l.length (g.l.map rwC).flatten∧(g.q.2=0→q.2=0)∧xi_ s n q0=(g.l++ (xi_ s (n - g.l.length) g.q).1,(xi_ s (n - g.l.length) g.q).2)) (fun g=>n - g.l.length) ⟨[],q, .slice none 0 0,[],[]⟩ rfl rfl ?_ ?_
 ·exact⟨Nat.zero_le _,hq,trivial,trivial,Gr.nl,id,by rw[hq0];rfl⟩
 intro g j hg
 refine kv ?_
 obtain⟨l,qq,v,D1,DG⟩:=g
 simp only at hg ⊢
 obtain⟨hln,hqq,hN1,hNG,hG1,hez,hrr⟩:=hg
 by_cases hlt:l.length<n
 ·have d1:decide ((l.length:Int)< (n:Int))=true:=decide_eq_true (by omega)
  obtain⟨a,e⟩:=qq
  have hpr:xi_ s n q0=(l++ [(wx_ s a e).1]++ (xi_ s (n - (l++ [(wx_ s a e).1]).length) (wx_ s a e).2).1,(xi_ s (n - (l++ [(wx_ s a e).1]).length) (wx_ s a e).2).2):=by
   rw[hrr,show n - l.length=(n - (l++ [(wx_ s a e).1]).length)+1 by simp;omega]
   generalize n - (l++ [(wx_ s a e).1]).length=m
   show(l++ ((wx_ s a e).1:: (xi_ s m (wx_ s a e).2).1),(xi_ s m (wx_ s a e).2).2)=_
   rw[List.append_assoc];rfl
  have herr: (wx_ s a e).2.2=0→e=0:=fun h=>Decidable.byContradiction fun hh=>by
   rw[aid_ hh] at h;exact hh h
  have hrow:wx_ s a e=(⟨vv_ (idR s a e).1,(zx_ s (idR s a e).2.1 (idR s a e).2.2 1099511627775).1,(wF_ s (zx_ s (idR s a e).2.1 (idR s a e).2.2 1099511627775).2).1⟩,(wF_ s (zx_ s (idR s a e).2.1 (idR s a e).2.2 1099511627775).2).2):=rfl
  have hNr:New w.heap.size ((bw,wrO s a e):: (D1++DG)):=⟨hww,hN1.app hNG⟩
  first|with_reducible refine ks [] (And.intro @zU_ @d1) ?_|refine kp (And.intro @zU_ @d1) ?_
  refine Ow.callM rfl rfl Tryz.call91 (by simp[keys]) (fun w' hw'=>Wr_ bw s a e w' hqq (by omega) (hw'.has _ _ List.mem_cons_self)) ?_
  obtain⟨i,hi⟩: ∃i,i=vv_ (idR s a e).1:=⟨_,rfl⟩
  have hil: (idR s a e).1=i.l:=by rw[hi];exact(QA_ (Vr_ s a e)).symm
  have hle1:=KC_ (e:=e) hqq
  rw[←hi] at hrow
  generalize idR s a e=p at*
  obtain⟨p1,a3,e3⟩:=p
  simp only at hil hrow hle1 ⊢
  subst hil
  clear hi
  refine kn ?_
  refine ko @zU_ ?_
  refine Ow.build (.agg (rwC ⟨i,0,0⟩).toArray) rfl (abb_ ⟨i,0,0⟩) ?_
  refine ko @zU_ ?_
  refine Ow.alloc rfl rfl zrRw fun b10 hb10 hw10=> ?_
  simp only[zg_,List.nil_append,List.cons_append]
  have h10:bw<b10:=zs_ hb10 (by simp[keys])
  refine Ow.permL (M:=(b10, .cells (rwC rw0).toArray 132 (0,0)):: (bw,wrO s a3 e3):: (D1++DG)) (by classical exact List.perm_iff_count.2 fun a=>by simp only[List.count_append,List.count_cons,List.count_nil]<;>omega) ?_
  refine ko @zU_ ?_
  first|with_reducible refine ks [] @zU_ ?_|refine kp @zU_ ?_
  refine Ow.callM rfl rfl Tryz.call89 (by simp[keys]) (fun w' hw'=>qq_ bw s a3 e3 1099511627775 w' hle1 (by omega) (hw'.has _ _ (List.mem_cons_of_mem _ List.mem_cons_self))) ?_
  have hle2:=(qx_ (e:=e3) (most:=1099511627775) hle1).2
  generalize zx_ s a3 e3 1099511627775=p at*
  obtain⟨x1,a4,e4⟩:=p
  simp only at hrow hle2 ⊢
  refine kn ?_
  refine ko @zU_ ?_
  refine Ow.callM rfl rfl Tryz.call89 (by simp[keys]) (fun w' hw'=>qq_ bw s a4 e4 1099511627775 w' hle2 (by omega) (hw'.has _ _ (List.mem_cons_of_mem _ List.mem_cons_self))) ?_
  have hle3:=(qx_ (e:=e4) (most:=1099511627775) hle2).2
  have hrow2:wx_ s a e=(⟨i,x1,(zx_ s a4 e4 1099511627775).1⟩,(zx_ s a4 e4 1099511627775).2):=hrow
  clear hrow
  generalize zx_ s a4 e4 1099511627775=p at*
  obtain⟨x2,a5,e5⟩:=p
  simp only at hrow2 hle3 ⊢
  rw[hrow2] at hpr herr
  simp only at hpr herr
  refine kn ?_
  refine ko @zU_ ?_
  first|with_reducible refine ks [] @zU_ ?_|refine kp @zU_ ?_
  generalize (RwL.mk i x1 x2)=r at*
  refine Ow.buildSlice (e:=132) (rwC r).toArray rfl rfl (q8_ Tryz.underlying133 amd_ zrRw (by decide) (zT_ _)) fun ba hba hwa=> ?_
  refine ko @zU_ ?_
  refine Ow.permL (M:=D1++ ((b10, .cells (rwC r).toArray 132 (0,0)):: (bw,wrO s a5 e5):: (DG++ [(ba, .cells (rwC r).toArray 132 (0,0))]))) (by classical exact List.perm_iff_count.2 fun a=>by simp only[List.count_append,List.count_cons,List.count_nil]<;>omega) ?_
  refine Ow.appendXG (e:=132) (k:=1) (new:=rwC r) (X:=D1) v rfl rfl rfl rfl Tryz.underlying133 amd_ (by kernel_rfl) zrRw (by rw[qB_,List.size_toArray,zT_]) Tryz.underlying133 (by intro k h;cases h) hG1 (fun w' hw'=>AppX.one1 (hw'.has ba (.cells (rwC r).toArray 132 (0,0)) (by simp)) (zT_ _) (JJ_ _)) (by omega) (fun B4 v4 D4 hA4 hB4 hG4 hk41 hk42 hlk4=> ?_)
  have hN4:New w.heap.size D4:=New.of_le fun q hq=>by
   rcases hk42 q hq with h|h
   ·exact hN1.le q h
   ·omega
  refine Ow.permL (M:=(bw,wrO s a5 e5):: (D4++ ((b10, .cells (rwC r).toArray 132 (0,0)):: (DG++ [(ba, .cells (rwC r).toArray 132 (0,0))])))) (by classical exact List.perm_iff_count.2 fun a=>by simp only[List.count_append,List.count_cons,List.count_nil]<;>omega) ?_
  refine ko @zU_ ?_
  first|with_reducible refine ks [] @zU_ ?_|refine kp @zU_ ?_
  have hl1: (l++ [r]).length=l.length+1:=by simp
  refine Again.mk ⟨l++ [r],(a5,e5),v4,D4,(b10, .cells (rwC r).toArray 132 (0,0)):: (DG++ [(ba, .cells (rwC r).toArray 132 (0,0))])⟩ (by show n - (l++ [r]).length<n - l.length;omega) ⟨by show(l++ [r]).length≤n;omega,hle3,hN4,⟨hw10,hNG.app ⟨hwa,trivial⟩⟩,by simpa using hG4,fun h=>hez (herr h),hpr⟩ rfl (by simp only[hl1];rfl)
 ·obtain rfl:n=l.length:=by omega
  have d1:decide ((l.length:Int)< (l.length:Int))=false:=decide_eq_false (by omega)
  rw[Nat.sub_self] at hrr
  rw[hrr] at hrq
  simp only[xi_,List.append_nil,Prod.mk.injEq] at hrq
  obtain⟨hrs,hrl,hq5⟩:=hrq
  have hqa:ra=qq.1:=congrArg Prod.fst hq5
  have hqe:re=qq.2:=congrArg Prod.snd hq5
  rw[hrs,hrl,hqa,hqe]
  clear hrs hrl hqa hqe hq5 hrr
  have hNr:New w.heap.size ((bw,wrO s qq.1 qq.2):: (D1++DG)):=⟨hww,hN1.app hNG⟩
  first|with_reducible refine ks [] (And.intro @zU_ @d1) ?_|refine kp (And.intro @zU_ @d1) ?_
  refine Ow.callFV rfl Tryz.call92 (fun w' hw'=>Kf_ bw s qq.1 qq.2 w' (hw'.has _ _ List.mem_cons_self)) ?_
  by_cases he:vU_ s qq.1 qq.2=0
  ·have e1': (vU_ s qq.1 qq.2 !=0)=false:=by rw[he];rfl
   have h8:hd.length=8:=hr8 (g2 (hez (adR_ he).1))
   have h8':decide ((0:Int)≤4∧(4:Int)≤ (hd.length:Int))=true:=decide_eq_true (by omega)
   refine ko (And.intro @zU_ @e1') ?_
   first|with_reducible refine ks [] @zU_ ?_|refine kp @zU_ ?_
   refine Ow.callC rfl rfl Tryz.call122 (fun w' hw'=>adv_ (hd.drop 4) v l w' ((Gr.i hG1 (fun c hc=>by simp[hc])).slV hw' rfl rfl zT_) (by omega)) (fun B1 v18 D18 hA18 hB18 hN18 hS18=> ?_)
   have hN:New w.heap.size ((bw,wrO s qq.1 qq.2):: (D1++DG)++D18):=New.app (L:=(bw,wrO s qq.1 qq.2):: (D1++DG)) hNr (hN18.mono hB18)
   unfold OfIS at hS18
   by_cases hok:Zt_ l l.length=true
   ·rw[if_pos hok] at hS18
    obtain⟨bi,rfl,hbi⟩:=hS18
    have hri: (decide ((hd.drop 4).length=4)&&decide (l.length≤200))=qF_ (hd.drop 4) l:=by unfold qF_;rw[hok,Bool.true_and]
    rw[hri]
    cases hr:qF_ (hd.drop 4) l with
    |false=>
     rw[if_neg (by simp)]
     refine ko @zU_ ?_
     first|with_reducible refine ks [] @zU_ ?_|refine kp @zU_ ?_
     refine⟨_,(ke @zU_), ?_⟩
     exact⟨Ext.of_new hN,rfl⟩
    |true=>
     refine ko @zU_ ?_
     refine Cw.rebaseX (S1:=fun v D=>v=if z5_ (vu_ (hd.drop 4) l)=b then .tuple #[vp bi 0,vi 0] else .tuple #[.pointer none,vi 2]) (by rfl) (fun w1 hw1=> ?_) (fun v' D' hD' hv'=> ?_)
     ·have hC1:=hC.newP hw1 hN
      have hb1:w1.heap[bi]? =some (ixO (hd.drop 4) v (kw_ l)):=hw1.has _ _ (by simp[hbi])
      have hv1:RwSl w1 v l:=(Gr.i hG1 (fun c hc=>by simp[hc])).slV hw1 rfl rfl zT_
      obtain⟨-,h4,-⟩:=kP_ hr
      clear hw1
      first|with_reducible refine ks [] (And.intro @zU_ @hb1) ?_|refine kp (And.intro @zU_ @hb1) ?_
      refine Ow.callC rfl rfl Tryz.call68 (fun w' hw'=>Rets.toX (Jt_ (hd.drop 4) v l w' (hC1.newP hw' trivial) (hv1.oldN hw' trivial) (by omega) (by omega))) (fun B2 v2 D2 hA2 hB2 hN2 hS2=> ?_)
      obtain⟨rfl,Z,hZ,rfl⟩:=hS2
      rw[aiP_ hr hZ,List.append_nil]
      refine ko @zU_ ?_
      by_cases hbb:z5_ (vu_ (hd.drop 4) l)=b
      ·have d5: (z5_ (vu_ (hd.drop 4) l) !=b)=false:=bne_eq_false_iff_eq.2 hbb
       rw[if_pos hbb]
       first|with_reducible refine ks [] (And.intro @zU_ @d5) ?_|refine kp (And.intro @zU_ @d5) ?_
       refine⟨_,(ke @zU_), ?_⟩
       exact⟨Ext.refl w1 [],rfl⟩
      ·have d5: (z5_ (vu_ (hd.drop 4) l) !=b)=true:=bne_iff_ne.2 hbb
       rw[if_neg hbb]
       first|with_reducible refine ks [] (And.intro @zU_ @d5) ?_|refine kp (And.intro @zU_ @d5) ?_
       refine⟨_,(ke @zU_), ?_⟩
       exact⟨Ext.refl w1 [],rfl⟩
     ·refine⟨Ext.of_new (hN.app hD'), ?_⟩
      by_cases hbb:z5_ (vu_ (hd.drop 4) l)=b
      ·rw[if_pos hbb] at hv'
       rw[if_pos ⟨he,rfl,hbb⟩]
       exact⟨bi,hv',v,(by simp[hbi]),Gr.i hG1 (fun c hc=>by simp[hc])⟩
      ·rw[if_neg hbb] at hv'
       rw[if_neg (fun h=>hbb h.2.2)]
       exact hv'
   ·rw[if_neg hok] at hS18
    subst hS18
    rw[if_neg (fun h=>hok (kP_ h.2.1).1)]
    refine ko @zU_ ?_
    first|with_reducible refine ks [] @zU_ ?_|refine kp @zU_ ?_
    refine⟨_,(ke @zU_), ?_⟩
    exact⟨Ext.of_new hN,rfl⟩
  ·have e1': (vU_ s qq.1 qq.2 !=0)=true:=bne_iff_ne.2 he
   rw[if_neg (fun h=>he h.1)]
   refine ko (And.intro @zU_ @e1') ?_
   first|with_reducible refine ks [] @zU_ ?_|refine kp @zU_ ?_
   refine⟨_,(ke @zU_), ?_⟩
   exact⟨Ext.of_new hNr,rfl⟩
end Go.Proofs
end
section
open Go Go.Proofs Go.Sx Go.Dig
namespace Go.Proofs
set_option maxRecDepth 10000
set_option maxHeartbeats 1000000
set_option linter.unusedSimpArgs false
set_option linter.defProp false
def aqn_:=And.intro (@zf_) (@ze_)
end Go.Proofs
end
section
open Go Go.Proofs Go.Sx Go.StP Go.Flo Go.Dig
namespace Go.Proofs
set_option maxRecDepth 10000
set_option maxHeartbeats 400000
set_option linter.unusedSimpArgs false
theorem aok_ (b o:Nat):qE_ Tryz.prog .eql 143 (vp b o) (.pointer none)=some (.bool false):=by
 simp[qE_,eqX,qu_,qz_,Tryz.underlying143,vp]
theorem ama_:qE_ Tryz.prog .eql 143 (.pointer none) (.pointer none)=some (.bool true):=by
 simp[qE_,eqX,qu_,qz_,Tryz.underlying143]
theorem am7_ (v:Value) (n:Nat) (E:TypeId) (fz:Nat×Nat):zp_ (some (false,n)) (some (.cells #[v] E fz)) 0=some v:=(rfl)
theorem aio_:Value.cells (.pointer none)= #[.pointer none]:=(rfl)
theorem ahN_ (b o:Nat):Value.cells (vp b o)= #[vp b o]:=(rfl)
theorem akl_ (l:List RwL) {d:Nat} (h:d<16): (kw_ l).getD d 0=ZL_ l d:=by
 unfold kw_
 rw[List.getD_eq_getElem?_getD,List.getElem?_map,List.getElem?_range h];rfl
def Vy_ (p:Nat→Bool) (i j:Nat):Nat:=if i<j then(if p ((i+j) / 2)=true then Vy_ p i ((i+j) / 2) else Vy_ p ((i+j) / 2+1) j) else i
termination_by j - i
decreasing_by all_goals omega
theorem wS_ (p:Nat→Bool): ∀ (n i j:Nat),j - i≤n→i≤j→i≤Vy_ p i j∧Vy_ p i j≤j∧(Vy_ p i j=i∨p (Vy_ p i j - 1)=false)∧(Vy_ p i j=j∨p (Vy_ p i j)=true)
 |0,i,j,h,hij=>by
  rw[Vy_,if_neg (by omega)]
  exact⟨Nat.le_refl _,hij, .inl rfl, .inl (by omega)⟩
 |n+1,i,j,h,hij=>by
  rw[Vy_]
  by_cases hlt:i<j
  ·rw[if_pos hlt]
   cases hp:p ((i+j) / 2) with
   |true=>
    rw[if_pos rfl]
    obtain⟨h1,h2,h3,h4⟩:=wS_ p n i ((i+j) / 2) (by omega) (by omega)
    refine⟨h1,by omega,h3, ?_⟩
    rcases h4 with h4|h4
    ·right;rw[h4];exact hp
    ·exact .inr h4
   |false=>
    rw[if_neg (by simp)]
    obtain⟨h1,h2,h3,h4⟩:=wS_ p n ((i+j) / 2+1) j (by omega) (by omega)
    refine⟨by omega,h2, ?_,h4⟩
    rcases h3 with h3|h3
    ·right;rw[h3,Nat.add_sub_cancel];exact hp
    ·exact .inr h3
  ·rw[if_neg hlt]
   exact⟨Nat.le_refl _,hij, .inl rfl, .inl (by omega)⟩
section
variable {P:Program} {w0:World} {f:Fr} {L:zc_} {N:Fr→zc_→Prop} {ops:Array Oper} {rest:List Oper} {md:Md} {d:Option Tmp} {ty:TypeId} {ps:String} {af:Array Edge} {g:Option (Nat×Bool)}
end
structure SrG where
 i:Nat
 j:Nat
set_option linter.defProp false
def aqe_:=And.intro (@zf_) (And.intro (@ze_) (@Ze_))
set_option linter.defProp false
def KH_:=And.intro (And.intro (And.intro (And.intro (@zf_) (@ze_)) (And.intro (@am7_) (@aio_))) (And.intro (And.intro (@ahN_) (@qY_)) (And.intro (@adl_) (And.intro (@ajo_) (@aok_))))) (And.intro (And.intro (And.intro (@ama_) (@xk_)) (And.intro (@xF_) (@ke_))) (And.intro (And.intro (@kh_) (@qB_)) (And.intro (@q1_) (And.intro (@Sx.tup2_0) (@Sx.tup2_1)))))
theorem aeC_ (bi:Nat) (s:List UInt8) (l:List RwL) (w:World) (h:IxIn w bi s l) (hl:l.length<1000000):
  Rets Tryz.prog 135 #[vp bi 0] w (XS w [] (fun v D=>GrI D 132 34 v l.length (l.map rwC).flatten)):=by
 obtain⟨x,h1,h2⟩:=id h
 refine Rets.enterX Tryz.func135 rfl (rs:= [.tmp 2]) Tryz.results135 Tryz.ntmps135 (fun p hp=>by cases hp) (by simp[keys]) ?_
 refine kf ?_
 first|with_reducible refine ks [] (And.intro @KH_ @h1) ?_|refine kp (And.intro @KH_ @h1) ?_
 refine Ow.callX (Y:= []) (by simp) rfl rfl Tryz.call119 (fun w' hw' hX hn=>Qf_ x l w' (h2.oldN hw' trivial) hl) (fun v2 D2 hC2 hS2=> ?_)
 rw[List.append_nil]
 refine ko @KH_ ?_
 first|with_reducible refine ks [] @KH_ ?_|refine kp @KH_ ?_
 refine⟨_,(ke @KH_), ?_⟩
 exact⟨Ext.of_new (New.of_le fun c hc=>(hC2.new c hc).elim (fun h=>by cases h) fun h=>h.2),Gr.i hS2 fun p hp=>hp⟩
theorem ahd_ (bi:Nat) (s:List UInt8) (l:List RwL) (w:World) (h:IxIn w bi s l):Rets Tryz.prog 75 #[vp bi 0] w (fun v D=>v=vs s∧D= []):=by
 obtain⟨x,h1,h2⟩:=id h
 refine Rets.enterV Tryz.func75 rfl (rs:= [.tmp 2]) Tryz.results75 Tryz.ntmps75 ?_
 refine kf ?_
 first|with_reducible refine ks [] (And.intro @KH_ @h1) ?_|refine kp (And.intro @KH_ @h1) ?_
 refine⟨_,(ke @KH_),trivial, ?_⟩
 rfl
def askP (l:List RwL) (x:IdL) (from_:Nat) (k:Nat):Bool:=decide (0≤wQ_ (l.getD (from_+k) rw0).id x)
theorem afW_ {w:World} {v:Value} {l:List RwL} {b off:Nat} {arr:Array Value} {E:TypeId} {fz:Nat×Nat} (h:RowS 34 rwC rw0 w v l b off arr E fz) {k:Nat} (hk:k<l.length):xm_ arr (off+k*34) (l.getD k rw0).id.l:=by
 intro j hj
 have hil:=(l.getD k rw0).id.h
 have hj2:j<34:=by rw[hil] at hj;omega
 rw[h.get k hk j hj2]
 generalize l.getD k rw0=r at*
 unfold rwC
 rw[List.getElem?_append_left (by simp only[List.length_map];exact hj),List.getElem?_map,List.getElem?_eq_getElem hj,List.getD_eq_getElem?_getD,List.getElem?_eq_getElem hj]
 rfl
def amW_ (pre:List UInt8) (r:RwL):Bool:=decide (pre.length≤ (hexV r.id.l).length)&& ((hexV r.id.l).take pre.length==pre)
def aon_ (l:List RwL) (pre:List UInt8):List RwL:=l.filter (amW_ pre)
structure UnG where
 k:Nat
 v:Value
 D1:zc_
 DG:zc_
end Go.Proofs
end
section
open Go Go.Proofs Go.Sx Go.StP Go.Flo
namespace Go.Proofs
set_option maxRecDepth 100000
set_option maxHeartbeats 1000000
set_option linter.unusedSimpArgs false
structure LnL where
 id:IdL
 share:Int
 place:Int
 spot:Int
def lnC (r:LnL):List Value:=r.id.l.map v8++ ([vi r.share]++ ([vi r.place]++ ([vi r.spot])))
def ln0:LnL:=⟨id0,0,0,0⟩
theorem zq_ (r:LnL): (lnC r).length=35:=by simp[lnC,r.id.h]
theorem z3_ (r:LnL):Value.cells (.agg (lnC r).toArray)=(lnC r).toArray:=zg_ _
theorem xn_ (r:LnL): (lnC r).all Value.oneCell'=true:=by
 unfold lnC
 simp only[List.all_append,List.all_cons,List.all_nil,w6_,Bool.and_true,Bool.true_and]
 rfl
theorem J7_:zZ_ Tryz.prog 89=some (.agg (lnC ln0).toArray):=id (by kernel_rfl)
theorem ai2_:zP_ Tryz.prog 89=some (true,35):=id (by kernel_rfl)
theorem XW_ (r:LnL):lnC r=([]:List Value)++ ((r.id.l.map v8)++ ([vi r.share]++ ([vi r.place]++ ([vi r.spot])))):=by
 unfold lnC;simp only[List.append_assoc,List.nil_append,List.append_nil]
theorem anK_ (r:LnL):Sx.partV (true,32) (lnC r).toArray 0=some (Value.agg (a8 r.id.l)):=by
 rw[XW_,ac1_ _ _ _ (by simp) (by simp[r.id.h])];rfl
theorem jK_ (r:LnL) (E:TypeId) (fz:Nat×Nat):zp_ (some (true,32)) (some (.cells (lnC r).toArray E fz)) 0=some (Value.agg (a8 r.id.l)):=by
 rw[XW_,va_ _ _ _ E fz (by simp) (by simp[r.id.h])];rfl
theorem an7_ (r:LnL): (lnC r).toArray.extract 0 32=a8 r.id.l:=by
 rw[XW_];exact KS_ (o:=0) (n:=32) _ _ _ (by simp) (by simp[r.id.h])
theorem KI_ {w:World} {v:Value} {l:List LnL} {b off:Nat} {arr:Array Value} {E:TypeId} {fz:Nat×Nat} (h:RowS 35 lnC ln0 w v l b off arr E fz) {k:Nat} (hk:k<l.length):zp_ (some (true,32)) (some (.cells arr E fz)) (off+k*35+0)=some (Value.agg (a8 (l.getD k ln0).id.l)):=by
 rw[RowS.part h zq_ hk (by omega) (by omega),an7_]
theorem agC_ (r:LnL) (x:IdL) (a:Bool) (E:TypeId):zn_ (some (a,32)) (some (.cells (lnC r).toArray E (0,0))) 0 (Value.agg (a8 x.l))=some (.cells (lnC {r with id:=x}).toArray E (0,0)):=by
 rw[XW_ r,XW_ {r with id:=x}];exact z4_ _ _ _ _ a _ E (by simp) (by simp[r.id.h]) (zg_ _) (by simp[x.h]) (w6_ _)
theorem V1_ (r:LnL):lnC r=((r.id.l.map v8))++ (([vi r.share])++ ([vi r.place]++ ([vi r.spot]))):=by
 unfold lnC;simp only[List.append_assoc,List.nil_append,List.append_nil]
theorem anV_ (r:LnL):Sx.partV (false,1) (lnC r).toArray 32=some (vi r.share):=by
 rw[V1_];exact wX_ _ _ _ (by simp[r.id.h])
theorem j7_ (r:LnL) (n:Nat) (E:TypeId) (fz:Nat×Nat):zp_ (some (false,n)) (some (.cells (lnC r).toArray E fz)) 32=some (vi r.share):=by
 rw[V1_];exact q6_ _ _ _ n E fz (by simp[r.id.h])
theorem aj0_ {w:World} {v:Value} {l:List LnL} {b off:Nat} {arr:Array Value} {E:TypeId} {fz:Nat×Nat} (h:RowS 35 lnC ln0 w v l b off arr E fz) {k:Nat} (hk:k<l.length) (n:Nat):zp_ (some (false,n)) (some (.cells arr E fz)) (off+k*35+32)=some (vi (l.getD k ln0).share):=by
 rw[RowS.cell h hk (by omega)];generalize l.getD k ln0=r;rw[V1_];exact ve_ _ _ _ (by simp[r.id.h])
theorem WQ_ (r:LnL) (x:Int) (a:Bool) (E:TypeId):zn_ (some (a,1)) (some (.cells (lnC r).toArray E (0,0))) 32 (vi x)=some (.cells (lnC {r with share:=x}).toArray E (0,0)):=by
 rw[V1_ r,V1_ {r with share:=x}];exact z4_ _ _ _ _ a _ E (by simp[r.id.h]) rfl (rfl) rfl (rfl)
theorem Wt_ (r:LnL):lnC r=((r.id.l.map v8)++ ([vi r.share]))++ (([vi r.place])++ ([vi r.spot])):=by
 unfold lnC;simp only[List.append_assoc,List.nil_append,List.append_nil]
theorem anT_ (r:LnL):Sx.partV (false,1) (lnC r).toArray 33=some (vi r.place):=by
 rw[Wt_];exact wX_ _ _ _ (by simp[r.id.h])
theorem xz_ (r:LnL) (n:Nat) (E:TypeId) (fz:Nat×Nat):zp_ (some (false,n)) (some (.cells (lnC r).toArray E fz)) 33=some (vi r.place):=by
 rw[Wt_];exact q6_ _ _ _ n E fz (by simp[r.id.h])
theorem alg_ {w:World} {v:Value} {l:List LnL} {b off:Nat} {arr:Array Value} {E:TypeId} {fz:Nat×Nat} (h:RowS 35 lnC ln0 w v l b off arr E fz) {k:Nat} (hk:k<l.length) (n:Nat):zp_ (some (false,n)) (some (.cells arr E fz)) (off+k*35+33)=some (vi (l.getD k ln0).place):=by
 rw[RowS.cell h hk (by omega)];generalize l.getD k ln0=r;rw[Wt_];exact ve_ _ _ _ (by simp[r.id.h])
theorem WH_ (r:LnL) (x:Int) (a:Bool) (E:TypeId):zn_ (some (a,1)) (some (.cells (lnC r).toArray E (0,0))) 33 (vi x)=some (.cells (lnC {r with place:=x}).toArray E (0,0)):=by
 rw[Wt_ r,Wt_ {r with place:=x}];exact z4_ _ _ _ _ a _ E (by simp[r.id.h]) rfl (rfl) rfl (rfl)
theorem W2_ (r:LnL):lnC r=((r.id.l.map v8)++ ([vi r.share])++ ([vi r.place]))++ (([vi r.spot])++ (([]:List Value))):=by
 unfold lnC;simp only[List.append_assoc,List.nil_append,List.append_nil]
theorem anU_ (r:LnL):Sx.partV (false,1) (lnC r).toArray 34=some (vi r.spot):=by
 rw[W2_];exact wX_ _ _ _ (by simp[r.id.h])
theorem km_ (r:LnL) (n:Nat) (E:TypeId) (fz:Nat×Nat):zp_ (some (false,n)) (some (.cells (lnC r).toArray E fz)) 34=some (vi r.spot):=by
 rw[W2_];exact q6_ _ _ _ n E fz (by simp[r.id.h])
theorem ajV_ {w:World} {v:Value} {l:List LnL} {b off:Nat} {arr:Array Value} {E:TypeId} {fz:Nat×Nat} (h:RowS 35 lnC ln0 w v l b off arr E fz) {k:Nat} (hk:k<l.length) (n:Nat):zp_ (some (false,n)) (some (.cells arr E fz)) (off+k*35+34)=some (vi (l.getD k ln0).spot):=by
 rw[RowS.cell h hk (by omega)];generalize l.getD k ln0=r;rw[W2_];exact ve_ _ _ _ (by simp[r.id.h])
theorem aae_ (r:LnL) (x:Int) (a:Bool) (E:TypeId):zn_ (some (a,1)) (some (.cells (lnC r).toArray E (0,0))) 34 (vi x)=some (.cells (lnC {r with spot:=x}).toArray E (0,0)):=by
 rw[W2_ r,W2_ {r with spot:=x}];exact z4_ _ _ _ _ a _ E (by simp[r.id.h]) rfl (rfl) rfl (rfl)
theorem xX_ (r:LnL) (E:TypeId) (fz:Nat×Nat):zp_ (some (true,35)) (some (.cells (lnC r).toArray E fz)) 0=some (.agg (lnC r).toArray):=xB_ _ E fz 35 (by rw[List.size_toArray,zq_])
theorem aiS_ (old:Array Value) (r:LnL) (a:Bool) (E:TypeId) (h:old.size=35):zn_ (some (a,35)) (some (.cells old E (0,0))) 0 (.agg (lnC r).toArray)=some (.cells (lnC r).toArray E (0,0)):=x6_ _ a old E (zq_ r) (xn_ r) h
theorem js_ (r r':LnL) (a:Bool) (E:TypeId):zn_ (some (a,35)) (some (.cells (lnC r').toArray E (0,0))) 0 (.agg (lnC r).toArray)=some (.cells (lnC r).toArray E (0,0)):=aiS_ _ r a E (by rw[List.size_toArray,zq_])
theorem akQ_:Tryz.prog.stoodInHeld 89=false:=by kernel_rfl
theorem akk_:Tryz.prog.eqGuardType Tryz.prog.depth 89=false:=by kernel_rfl
theorem aof_ (r r':LnL):eqD Tryz.prog 8 89 (.agg (lnC r).toArray) (.agg (lnC r').toArray)=some ((r.id.l==r'.id.l)&& (r.share==r'.share)&& (r.place==r'.place)&& (r.spot==r'.spot)):=by
 have hd: ∀ (a b:IdL),eqD Tryz.prog 7 86 (.agg (a8 a.l)) (.agg (a8 b.l))=some (a.l==b.l):=fun a b=>Wh_ (d:=5) Tryz.underlying86 Tryz.underlying5 Tryz.ag5 _ _ a.h b.h
 have hi: ∀ (a b:Int),eqD Tryz.prog 7 3 (vi a) (vi b)=some (a==b):=by
  intro a b;unfold eqD;rw[Tryz.underlying3];rfl
 have agd:zP_ Tryz.prog 86=some (true,32):=id (by kernel_rfl)
 have agi:zP_ Tryz.prog 3=some (false,1):=id (by kernel_rfl)
 unfold eqD
 rw[Tryz.underlying89]
 simp only
 rw[akQ_]
 simp only[Bool.false_eq_true, ↓reduceIte,xe_,xQ_,agd,agi,anK_,anV_,anT_,anU_,hd,hi]
 cases(r.id.l==r'.id.l)<;>cases(r.share==r'.share)<;>cases(r.place==r'.place)<;>cases(r.spot==r'.spot)<;>simp
theorem neLn (r r':LnL):qE_ Tryz.prog .neq 89 (.agg (lnC r).toArray) (.agg (lnC r').toArray)=some (.bool (!((r.id.l==r'.id.l)&& (r.share==r'.share)&& (r.place==r'.place)&& (r.spot==r'.spot)))):=by
 unfold qE_ eqX;rw[akk_];simp[qu_,aof_]
theorem QD_ (r:LnL):ql_ (vo_ Tryz.prog 89) (zZ_ Tryz.prog 89) [(0,Value.agg (a8 r.id.l)),(1,vi r.share),(2,vi r.place),(3,vi r.spot)]=some (.agg (lnC r).toArray):=by
 have hp:vo_ Tryz.prog 89=some [(0,32),(32,1),(33,1),(34,1)]:=id (by kernel_rfl)
 rw[hp,J7_]
 have e0: (lnC ln0).toArray=(([]:List Value)++ ((ln0.id.l.map v8)++ ([vi ln0.share]++ ([vi ln0.place]++ ([vi ln0.spot]))))).toArray:=by congr 1<;>simp only[lnC,List.append_assoc,List.nil_append,List.append_nil]
 have q0:x8_ (([]:List Value)++ ((ln0.id.l.map v8)++ ([vi ln0.share]++ ([vi ln0.place]++ ([vi ln0.spot]))))).toArray 0 (r.id.l.map v8)=(([]:List Value)++ ((r.id.l.map v8)++ ([vi ln0.share]++ ([vi ln0.place]++ ([vi ln0.spot]))))).toArray:=jc_ _ _ _ _ (by simp) (by simp[ln0.id.h,r.id.h])
 have s0: (([]:List Value)++ ((ln0.id.l.map v8)++ ([vi ln0.share]++ ([vi ln0.place]++ ([vi ln0.spot]))))).toArray.size=35:=by simp[r.id.h,ln0.id.h]
 have z0: (Value.cells (Value.agg (a8 r.id.l))).toList=r.id.l.map v8:=by rw[zg_];rfl
 have y0: (Value.cells (Value.agg (a8 r.id.l))).size=32:=by rw[←Array.length_toList,z0];simp[r.id.h]
 have e1: (([]:List Value)++ ((r.id.l.map v8)++ ([vi ln0.share]++ ([vi ln0.place]++ ([vi ln0.spot]))))).toArray=(((r.id.l.map v8))++ (([vi ln0.share])++ ([vi ln0.place]++ ([vi ln0.spot])))).toArray:=by congr 1<;>simp only[lnC,List.append_assoc,List.nil_append,List.append_nil]
 have q1:x8_ (((r.id.l.map v8))++ (([vi ln0.share])++ ([vi ln0.place]++ ([vi ln0.spot])))).toArray 32 ([vi r.share])=(((r.id.l.map v8))++ (([vi r.share])++ ([vi ln0.place]++ ([vi ln0.spot])))).toArray:=jc_ _ _ _ _ (by simp[r.id.h]) (rfl)
 have s1: (((r.id.l.map v8))++ (([vi ln0.share])++ ([vi ln0.place]++ ([vi ln0.spot])))).toArray.size=35:=by simp[r.id.h,ln0.id.h]
 have z1: (Value.cells (vi r.share)).toList= [vi r.share]:=by rfl
 have y1: (Value.cells (vi r.share)).size=1:=by rw[←Array.length_toList,z1];simp
 have e2: (((r.id.l.map v8))++ (([vi r.share])++ ([vi ln0.place]++ ([vi ln0.spot])))).toArray=(((r.id.l.map v8)++ ([vi r.share]))++ (([vi ln0.place])++ ([vi ln0.spot]))).toArray:=by congr 1<;>simp only[lnC,List.append_assoc,List.nil_append,List.append_nil]
 have q2:x8_ (((r.id.l.map v8)++ ([vi r.share]))++ (([vi ln0.place])++ ([vi ln0.spot]))).toArray 33 ([vi r.place])=(((r.id.l.map v8)++ ([vi r.share]))++ (([vi r.place])++ ([vi ln0.spot]))).toArray:=jc_ _ _ _ _ (by simp[r.id.h]) (rfl)
 have s2: (((r.id.l.map v8)++ ([vi r.share]))++ (([vi ln0.place])++ ([vi ln0.spot]))).toArray.size=35:=by simp[r.id.h,ln0.id.h]
 have z2: (Value.cells (vi r.place)).toList= [vi r.place]:=by rfl
 have y2: (Value.cells (vi r.place)).size=1:=by rw[←Array.length_toList,z2];simp
 have e3: (((r.id.l.map v8)++ ([vi r.share]))++ (([vi r.place])++ ([vi ln0.spot]))).toArray=(((r.id.l.map v8)++ ([vi r.share])++ ([vi r.place]))++ (([vi ln0.spot])++ (([]:List Value)))).toArray:=by congr 1<;>simp only[lnC,List.append_assoc,List.nil_append,List.append_nil]
 have q3:x8_ (((r.id.l.map v8)++ ([vi r.share])++ ([vi r.place]))++ (([vi ln0.spot])++ (([]:List Value)))).toArray 34 ([vi r.spot])=(((r.id.l.map v8)++ ([vi r.share])++ ([vi r.place]))++ (([vi r.spot])++ (([]:List Value)))).toArray:=jc_ _ _ _ _ (by simp[r.id.h]) (rfl)
 have s3: (((r.id.l.map v8)++ ([vi r.share])++ ([vi r.place]))++ (([vi ln0.spot])++ (([]:List Value)))).toArray.size=35:=by simp[r.id.h,ln0.id.h]
 have z3: (Value.cells (vi r.spot)).toList= [vi r.spot]:=by rfl
 have y3: (Value.cells (vi r.spot)).size=1:=by rw[←Array.length_toList,z3];simp
 have e4: (((r.id.l.map v8)++ ([vi r.share])++ ([vi r.place]))++ (([vi r.spot])++ (([]:List Value)))).toArray=(lnC r).toArray:=by congr 1<;>simp only[lnC,List.append_assoc,List.nil_append,List.append_nil]
 simp only[ql_]
 rw[e0]
 unfold Sx.fillV
 simp only[List.getElem?_cons_zero,List.getElem?_cons_succ,z0,y0]
 rw[if_pos ⟨trivial,by rw[s0];decide⟩,q0]
 rw[e1]
 unfold Sx.fillV
 simp only[List.getElem?_cons_zero,List.getElem?_cons_succ,z1,y1]
 rw[if_pos ⟨trivial,by rw[s1];decide⟩,q1]
 rw[e2]
 unfold Sx.fillV
 simp only[List.getElem?_cons_zero,List.getElem?_cons_succ,z2,y2]
 rw[if_pos ⟨trivial,by rw[s2];decide⟩,q2]
 rw[e3]
 unfold Sx.fillV
 simp only[List.getElem?_cons_zero,List.getElem?_cons_succ,z3,y3]
 rw[if_pos ⟨trivial,by rw[s3];decide⟩,q3]
 rw[e4];rfl
structure ShL where
 name:List UInt8
 bytes:List UInt8
def shC (r:ShL):List Value:= [vs r.name]++ ([vs r.bytes])
def sh0:ShL:=⟨[],[]⟩
theorem zF_ (r:ShL): (shC r).length=2:=by simp[shC]
theorem qJ_ (r:ShL):Value.cells (.agg (shC r).toArray)=(shC r).toArray:=zg_ _
theorem vO_ (r:ShL): (shC r).all Value.oneCell'=true:=by
 unfold shC
 simp only[List.all_append,List.all_cons,List.all_nil,w6_,Bool.and_true,Bool.true_and]
 rfl
theorem zrSh:zZ_ Tryz.prog 135=some (.agg (shC sh0).toArray):=id (by kernel_rfl)
theorem ajB_ (r:ShL):shC r=([]:List Value)++ (([vs r.name])++ ([vs r.bytes])):=by
 unfold shC;simp only[List.append_assoc,List.nil_append,List.append_nil]
theorem K7_ (r:ShL) (n:Nat) (E:TypeId) (fz:Nat×Nat):zp_ (some (false,n)) (some (.cells (shC r).toArray E fz)) 0=some (vs r.name):=by
 rw[ajB_];exact q6_ _ _ _ n E fz (by simp)
theorem QT_ {w:World} {v:Value} {l:List ShL} {b off:Nat} {arr:Array Value} {E:TypeId} {fz:Nat×Nat} (h:RowS 2 shC sh0 w v l b off arr E fz) {k:Nat} (hk:k<l.length) (n:Nat):zp_ (some (false,n)) (some (.cells arr E fz)) (off+k*2+0)=some (vs (l.getD k sh0).name):=by
 rw[RowS.cell h hk (by omega)];generalize l.getD k sh0=r;rw[ajB_];exact ve_ _ _ _ (by simp)
theorem ajG_ (r:ShL):shC r=(([vs r.name]))++ (([vs r.bytes])++ (([]:List Value))):=by
 unfold shC;simp only[List.append_assoc,List.nil_append,List.append_nil]
theorem ac6_ (r:ShL) (n:Nat) (E:TypeId) (fz:Nat×Nat):zp_ (some (false,n)) (some (.cells (shC r).toArray E fz)) 1=some (vs r.bytes):=by
 rw[ajG_];exact q6_ _ _ _ n E fz (by simp)
theorem abo_ {w:World} {v:Value} {l:List ShL} {b off:Nat} {arr:Array Value} {E:TypeId} {fz:Nat×Nat} (h:RowS 2 shC sh0 w v l b off arr E fz) {k:Nat} (hk:k<l.length) (n:Nat):zp_ (some (false,n)) (some (.cells arr E fz)) (off+k*2+1)=some (vs (l.getD k sh0).bytes):=by
 rw[RowS.cell h hk (by omega)];generalize l.getD k sh0=r;rw[ajG_];exact ve_ _ _ _ (by simp)
theorem wE_ (r:ShL) (E:TypeId) (fz:Nat×Nat):zp_ (some (true,2)) (some (.cells (shC r).toArray E fz)) 0=some (.agg (shC r).toArray):=xB_ _ E fz 2 (by rw[List.size_toArray,zF_])
theorem aiJ_ (old:Array Value) (r:ShL) (a:Bool) (E:TypeId) (h:old.size=2):zn_ (some (a,2)) (some (.cells old E (0,0))) 0 (.agg (shC r).toArray)=some (.cells (shC r).toArray E (0,0)):=x6_ _ a old E (zF_ r) (vO_ r) h
theorem kJ_ (r r':ShL) (a:Bool) (E:TypeId):zn_ (some (a,2)) (some (.cells (shC r').toArray E (0,0))) 0 (.agg (shC r).toArray)=some (.cells (shC r).toArray E (0,0)):=aiJ_ _ r a E (by rw[List.size_toArray,zF_])
theorem al0_ {w:World} {v:Value} {l:List ShL} {b off:Nat} {arr:Array Value} {E:TypeId} {fz:Nat×Nat} (h:RowS 2 shC sh0 w v l b off arr E fz) {k:Nat} (hk:k<l.length):zp_ (some (true,2)) (some (.cells arr E fz)) (off+k*2)=some (.agg (shC (l.getD k sh0)).toArray):=RowS.load h zF_ (by omega) hk
theorem ah2_ (r:ShL):ql_ (vo_ Tryz.prog 135) (zZ_ Tryz.prog 135) [(0,vs r.name),(1,vs r.bytes)]=some (.agg (shC r).toArray):=by
 have hp:vo_ Tryz.prog 135=some [(0,1),(1,1)]:=id (by kernel_rfl)
 rw[hp,zrSh]
 have e0: (shC sh0).toArray=(([]:List Value)++ (([vs sh0.name])++ ([vs sh0.bytes]))).toArray:=by congr 1<;>simp only[shC,List.append_assoc,List.nil_append,List.append_nil]
 have q0:x8_ (([]:List Value)++ (([vs sh0.name])++ ([vs sh0.bytes]))).toArray 0 ([vs r.name])=(([]:List Value)++ (([vs r.name])++ ([vs sh0.bytes]))).toArray:=jc_ _ _ _ _ (by simp) (rfl)
 have s0: (([]:List Value)++ (([vs sh0.name])++ ([vs sh0.bytes]))).toArray.size=2:=by simp
 have z0: (Value.cells (vs r.name)).toList= [vs r.name]:=by rfl
 have y0: (Value.cells (vs r.name)).size=1:=by rw[←Array.length_toList,z0];simp
 have e1: (([]:List Value)++ (([vs r.name])++ ([vs sh0.bytes]))).toArray=((([vs r.name]))++ (([vs sh0.bytes])++ (([]:List Value)))).toArray:=by congr 1<;>simp only[shC,List.append_assoc,List.nil_append,List.append_nil]
 have q1:x8_ ((([vs r.name]))++ (([vs sh0.bytes])++ (([]:List Value)))).toArray 1 ([vs r.bytes])=((([vs r.name]))++ (([vs r.bytes])++ (([]:List Value)))).toArray:=jc_ _ _ _ _ (by simp) (rfl)
 have s1: ((([vs r.name]))++ (([vs sh0.bytes])++ (([]:List Value)))).toArray.size=2:=by simp
 have z1: (Value.cells (vs r.bytes)).toList= [vs r.bytes]:=by rfl
 have y1: (Value.cells (vs r.bytes)).size=1:=by rw[←Array.length_toList,z1];simp
 have e2: ((([vs r.name]))++ (([vs r.bytes])++ (([]:List Value)))).toArray=(shC r).toArray:=by congr 1<;>simp only[shC,List.append_assoc,List.nil_append,List.append_nil]
 simp only[ql_]
 rw[e0]
 unfold Sx.fillV
 simp only[List.getElem?_cons_zero,List.getElem?_cons_succ,z0,y0]
 rw[if_pos ⟨trivial,by rw[s0];decide⟩,q0]
 rw[e1]
 unfold Sx.fillV
 simp only[List.getElem?_cons_zero,List.getElem?_cons_succ,z1,y1]
 rw[if_pos ⟨trivial,by rw[s1];decide⟩,q1]
 rw[e2];rfl
theorem QI_ (r:LnL):xm_ (lnC r).toArray 0 r.id.l:=by
 intro j hj
 rw[Nat.zero_add,List.getElem?_toArray,XW_,List.nil_append,List.getElem?_append_left (by simpa using hj),List.getElem?_map,List.getElem?_eq_getElem hj,List.getD_eq_getElem?_getD,List.getElem?_eq_getElem hj]
 rfl
def jD_ (s:List UInt8):Bool:=s.all (fun c=> !(decide (c<33) ||decide (126<c)))&& (!(s== [])&&decide (s.length≤40))
def numM (n:Int):Bool:=decide (0≤n)&&decide (n≤1099511627775)
def vs_ (c:Nat→Int):Nat→Bool
 |0=>true
 |k+1=>vs_ c k&& (decide (k=0) ||decide (c k<0))
theorem vw_ {c:Nat→Int} {k:Nat}: ∀ {n:Nat},k≤n→vs_ c n=true→vs_ c k=true
 |0,h,h'=>by
  obtain rfl:k=0:=by omega
  exact h'
 |n+1,h,h'=>by
  by_cases hk:k=n+1
  ·subst hk;exact h'
  ·refine vw_ (n:=n) (by omega) ?_
   unfold vs_ at h'
   rw[Bool.and_eq_true] at h'
   exact h'.1
def vZ_ (l:List (List UInt8)) (k:Nat):Int:=cmpS (l.getD (k - 1) []) (l.getD k [])
def kv_ (l:List LnL) (k:Nat):Int:=wQ_ (l.getD (k - 1) ln0).id (l.getD k ln0).id
abbrev Zu_ (w:World) (v:Value) (l:List (List UInt8)):Prop:=SlV 1 kU_ [] w v l
abbrev LnSl (w:World) (v:Value) (l:List LnL):Prop:=SlV 35 lnC ln0 w v l
theorem jV_ {w:World} {v:Value} {l:List (List UInt8)} {b off:Nat} {arr:Array Value} {E:TypeId} {fz:Nat×Nat} (h:RowS 1 kU_ [] w v l b off arr E fz) {k:Nat} (hk:k<l.length) (n:Nat):
  zp_ (some (false,n)) (some (.cells arr E fz)) (off+k)=some (vs (l.getD k [])):=by
 have:=h.cell (j:=0) (n:=n) hk (by omega)
 rwa [Nat.mul_one,Nat.add_zero] at this
set_option linter.defProp false
def zI_:=And.intro (And.intro (@zf_) (And.intro (@ze_) (@z3_))) (And.intro (@jK_) (And.intro (@K7_) (@qJ_)))
theorem wD_ (a b:LnL) (w:World):Rets Tryz.prog 102 #[.agg (lnC a).toArray, .agg (lnC b).toArray] w (fun v D=>v=vi (wQ_ a.id b.id)∧D= []):=by
 refine Rets.enterV Tryz.func102 rfl (rs:= [.tmp 4]) Tryz.results102 Tryz.ntmps102 ?_
 refine kf ?_
 first|with_reducible refine ks [] @zI_ ?_|refine kp @zI_ ?_
 refine Ow.box rfl rfl fun b1 hb1 hw1=> ?_
 simp only[jt_,jm_,jn_,zg_,List.nil_append,List.cons_append]
 refine Ow.go rfl ?_
 simp(disch:=(first|assumption|omega| (simp only[kd_,kc_,UInt64.reduceToNat];try omega))) only[↓Sx.S0,Sx.S1,Tryz.fx,zI_,Nat.reduceAdd,Nat.reducePow,Int.reducePow,Nat.reduceBEq, ↓reduceIte,UInt8.reduceToNat,UInt16.reduceToNat,UInt32.reduceToNat,UInt64.reduceToNat,Int.reduceToNat]
 refine Ow.box rfl rfl fun b2 hb2 hw2=> ?_
 simp only[jt_,jm_,jn_,zg_,List.nil_append,List.cons_append]
 refine Ow.go rfl ?_
 simp(disch:=(first|assumption|omega| (simp only[kd_,kc_,UInt64.reduceToNat];try omega))) only[↓Sx.S0,Sx.S1,Tryz.fx,zI_,Nat.reduceAdd,Nat.reducePow,Int.reducePow,Nat.reduceBEq, ↓reduceIte,UInt8.reduceToNat,UInt16.reduceToNat,UInt32.reduceToNat,UInt64.reduceToNat,Int.reduceToNat]
 obtain⟨h12,-⟩:=hb2
 have hn:b1≠b2:=by omega
 first|with_reducible refine ks [] @zI_ ?_|refine kp @zI_ ?_
 refine Cw.regionS [b1,b2] [0,1,2,3,4,5] [] (by kernel_rfl) (by kernel_rfl) (by kernel_rfl) ?_
 simp only[zh_, ↓zd_, ↓zb_, ↓zl_, ↓zm_,za_]
 refine kq @zI_ ?_
 refine Ow.soft rfl rfl rfl ?_
 refine Ow.callFV rfl Tryz.call146 (fun w' hw'=>ajC_ (x:=a.id) (y:=b.id) (hw'.has b1 (.cells (lnC a).toArray 89 (0,0)) (by simp)) (QI_ a) (hw'.has b2 (.cells (lnC b).toArray 89 (0,0)) (by simp)) (QI_ b)) ?_
 with_reducible refine Ow.nil ?_
 refine⟨by intro b hb;simp only[List.mem_cons,List.not_mem_nil,or_false] at hb;(try subst hb);rfl, ?_⟩
 refine kq @zI_ ?_
 refine⟨_,(ke @zI_),⟨hw1,hw2,trivial⟩, ?_⟩
 rfl
theorem adW_ (a b:ShL) (w:World):Rets Tryz.prog 71 #[.agg (shC a).toArray, .agg (shC b).toArray] w (fun v D=>v=vi (cmpS a.name b.name)∧D= []):=by
 refine Rets.enterV Tryz.func71 rfl (rs:= [.tmp 4]) Tryz.results71 Tryz.ntmps71 ?_
 refine kf ?_
 first|with_reducible refine ks [] @zI_ ?_|refine kp @zI_ ?_
 refine Ow.box rfl rfl fun b1 hb1 hw1=> ?_
 simp only[jt_,jm_,jn_,zg_,List.nil_append,List.cons_append]
 refine Ow.go rfl ?_
 simp(disch:=(first|assumption|omega| (simp only[kd_,kc_,UInt64.reduceToNat];try omega))) only[↓Sx.S0,Sx.S1,Tryz.fx,zI_,Nat.reduceAdd,Nat.reducePow,Int.reducePow,Nat.reduceBEq, ↓reduceIte,UInt8.reduceToNat,UInt16.reduceToNat,UInt32.reduceToNat,UInt64.reduceToNat,Int.reduceToNat]
 refine Ow.box rfl rfl fun b2 hb2 hw2=> ?_
 simp only[jt_,jm_,jn_,zg_,List.nil_append,List.cons_append]
 refine Ow.go rfl ?_
 simp(disch:=(first|assumption|omega| (simp only[kd_,kc_,UInt64.reduceToNat];try omega))) only[↓Sx.S0,Sx.S1,Tryz.fx,zI_,Nat.reduceAdd,Nat.reducePow,Int.reducePow,Nat.reduceBEq, ↓reduceIte,UInt8.reduceToNat,UInt16.reduceToNat,UInt32.reduceToNat,UInt64.reduceToNat,Int.reduceToNat]
 obtain⟨h12,-⟩:=hb2
 have hn:b1≠b2:=by omega
 first|with_reducible refine ks [] @zI_ ?_|refine kp @zI_ ?_
 refine Ow.callFV rfl Tryz.call72 (fun w' hw'=>Z8_ a.name b.name w') ?_
 refine ko @zI_ ?_
 refine⟨_,(ke @zI_),⟨hw1,hw2,trivial⟩, ?_⟩
 rfl
theorem W8_ (s:List UInt8) (w:World) (hs:s.length<1099511627776):Rets Tryz.prog 134 #[vs s] w (fun v D=>v= .bool (jD_ s)∧D= []):=by
 refine Rets.enterV Tryz.func134 rfl (rs:= [.tmp 2]) Tryz.results134 Tryz.ntmps134 ?_
 refine kf ?_
 first|with_reducible refine ks [] @zI_ ?_|refine kp @zI_ ?_
 refine Cw.loopG (G:=Nat) [7,8,3,9,10,11,12,13,14,15,16,17,18,2,19,6] (fun g=> [(2, .bool false),(6,vi g)]) (fun g=> []) (fun g=>g≤s.length∧(s.take g).all (fun c=> !(decide (c<33) ||decide (126<c)))=true) (fun g=>s.length - g) 0 rfl rfl ?_ ?_
 ·exact⟨Nat.zero_le _,rfl⟩
 intro g j hg
 refine kv ?_
 obtain⟨hg,hal⟩:=hg
 by_cases hlt:g<s.length
 ·have d1:decide ((g:Int)< (s.length:Int))=true:=decide_eq_true (by omega)
  have hts:=StP.take_snoc (z:=(0:UInt8)) hlt
  have hbad: ∀c,c=s.getD g 0→(decide (c<33) ||decide (126<c))=true→jD_ s=false:=by
   intro c hc h
   unfold jD_
   rw[Bool.and_eq_false_iff]
   left
   rw[List.all_eq_false]
   refine⟨c, ?_,by rw[h];simp⟩
   rw[hc,List.getD_eq_getElem?_getD,List.getElem?_eq_getElem hlt]
   exact List.getElem_mem hlt
  generalize hcc:s.getD g 0=c at*
  cases h1:decide (c<33) with
  |true=>
   first|with_reducible refine ks [] (And.intro @zI_ (And.intro @d1 (And.intro @hcc (@h1)))) ?_|refine kp (And.intro @zI_ (And.intro @d1 (And.intro @hcc (@h1)))) ?_
   refine⟨_,(ke @zI_),trivial, ?_⟩
   rw[hbad c rfl (by rw[h1];rfl)];rfl
  |false=>
   cases h2:decide (126<c) with
   |true=>
    first|with_reducible refine ks [] (And.intro @zI_ (And.intro @d1 (And.intro @hcc (And.intro @h1 (@h2))))) ?_|refine kp (And.intro @zI_ (And.intro @d1 (And.intro @hcc (And.intro @h1 (@h2))))) ?_
    refine⟨_,(ke @zI_),trivial, ?_⟩
    rw[hbad c rfl (by rw[h1,h2];rfl)];rfl
   |false=>
    first|with_reducible refine ks [] (And.intro @zI_ (And.intro @d1 (And.intro @hcc (And.intro @h1 (@h2))))) ?_|refine kp (And.intro @zI_ (And.intro @d1 (And.intro @hcc (And.intro @h1 (@h2))))) ?_
    refine Again.mk (G:=Nat) (g+1) (by show s.length - (g+1)<s.length - g;omega) ⟨hlt, ?_⟩ rfl rfl
    rw[hts,List.all_append,hal,List.all_cons,h1,h2];rfl
 ·obtain rfl:g=s.length:=by omega
  have d1:decide ((s.length:Int)< (s.length:Int))=false:=decide_eq_false (by omega)
  rw[List.take_length] at hal
  cases he:s== [] with
  |true=>
   have e1: (s != [])=false:=by unfold bne;rw[he];rfl
   have en:jD_ s=false:=by unfold jD_;rw[he];simp
   first|with_reducible refine ks [] (And.intro @zI_ (And.intro @d1 (@e1))) ?_|refine kp (And.intro @zI_ (And.intro @d1 (@e1))) ?_
   refine⟨_,(ke @zI_),trivial, ?_⟩
   rw[en];rfl
  |false=>
   have e1: (s != [])=true:=by unfold bne;rw[he];rfl
   have e2:decide ((s.length:Int)≤40)=decide (s.length≤40):=decide_eq_decide.2 (by omega)
   have en:jD_ s=decide (s.length≤40):=by unfold jD_;rw[hal,he];simp
   first|with_reducible refine ks [] (And.intro @zI_ (And.intro @d1 (And.intro @e1 (@e2)))) ?_|refine kp (And.intro @zI_ (And.intro @d1 (And.intro @e1 (@e2)))) ?_
   refine⟨_,(ke @zI_),trivial, ?_⟩
   rw[en];rfl
theorem Jg_ (n:Int) (w:World):Rets Tryz.prog 132 #[vi n] w (fun v D=>v= .bool (numM n)∧D= []):=by
 refine Rets.enterV Tryz.func132 rfl (rs:= [.tmp 2]) Tryz.results132 Tryz.ntmps132 ?_
 refine kf ?_
 unfold numM
 cases h1:decide (0≤n) with
 |true=>
  first|with_reducible refine ks [] (And.intro @zI_ @h1) ?_|refine kp (And.intro @zI_ @h1) ?_
  refine⟨_,(ke @zI_),trivial, ?_⟩
  rfl
 |false=>
  first|with_reducible refine ks [] (And.intro @zI_ @h1) ?_|refine kp (And.intro @zI_ @h1) ?_
  refine⟨_,(ke @zI_),trivial, ?_⟩
  rfl
theorem abX_ (s:List UInt8) (w:World) (hs:s.length<1099511627776):Rets Tryz.prog 133 #[vs s] w (fun v D=>v= .bool (!jD_ s)∧D= []):=by
 refine Rets.enterV Tryz.func133 rfl (rs:= [.tmp 2]) Tryz.results133 Tryz.ntmps133 ?_
 refine kf ?_
 first|with_reducible refine ks [] @zI_ ?_|refine kp @zI_ ?_
 refine Ow.callFV rfl Tryz.call134 (fun w' hw'=>W8_ s w' hs) ?_
 refine ko @zI_ ?_
 first|with_reducible refine ks [] @zI_ ?_|refine kp @zI_ ?_
 refine⟨_,(ke @zI_),trivial, ?_⟩
 rfl
theorem aho_ (v:Value) (l:List (List UInt8)) (w:World) (hv:Zu_ w v l) (hl:l.length<1000000):Rets Tryz.prog 130 #[v, .func (.func 72) #[] #[]] w (fun v D=>v= .bool (vs_ (vZ_ l) l.length)∧D= []):=by
 obtain⟨rb,off,arr,E,fz,hr⟩:=hv.row
 have ln:=hv.len
 refine Rets.enterV Tryz.func130 rfl (rs:= [.tmp 4]) Tryz.results130 Tryz.ntmps130 ?_
 refine kf ?_
 first|with_reducible refine ks [] @zI_ ?_|refine kp @zI_ ?_
 refine Cw.loopG (G:=Nat) [6,7,8,9,12,13,14,15,16,17,18,19,20,21,22,23,4,10,11,5] (fun k=> [(4, .bool false),(5,vi k)]) (fun k=> []) (fun k=>1≤k∧(k≤l.length∨l.length=0)∧(k≤l.length→vs_ (vZ_ l) k=true)) (fun k=>l.length+1 - k) 1 rfl rfl ?_ ?_
 ·exact⟨Nat.le_refl _,by omega,fun _=>rfl⟩
 intro k jk hk
 refine kv ?_
 obtain⟨hk1,hk2,hri⟩:=hk
 by_cases hlt:k<l.length
 ·have d1:decide ((k:Int)< (l.length:Int))=true:=decide_eq_true (by omega)
  have hb:=hr.has (by omega)
  have hki: (k:Int) - 1=((k - 1:Nat):Int):=by omega
  have ix:=hr.idx false k hlt
  have ix':=hr.idx false (k - 1) (by omega)
  have ld:=fun n=>jV_ hr hlt n
  have ld':=fun n=>jV_ hr (show k - 1<l.length by omega) n
  have hst:vs_ (vZ_ l) (k+1)=decide (vZ_ l k<0):=by
   show(vs_ (vZ_ l) k&&_)=_
   rw[hri (by omega),decide_eq_false (show¬k=0 by omega),Bool.true_and,Bool.false_or]
  first|with_reducible refine ks [] (And.intro @zI_ (And.intro @ln (@d1))) ?_|refine kp (And.intro @zI_ (And.intro @ln (@d1))) ?_
  refine Cw.regionS [rb] [0,1,2,3,4,6,7,8,5,9,10,11] [] (by kernel_rfl) (by kernel_rfl) (by kernel_rfl) ?_
  simp only[zh_, ↓zd_, ↓zb_, ↓zl_, ↓zm_,za_]
  refine kq (And.intro @zI_ (And.intro @hb (And.intro @hki (And.intro @ix (And.intro @ix' (And.intro @ld (@ld'))))))) ?_
  refine Ow.soft rfl rfl rfl ?_
  refine Ow.callFn2 (v:=vi (vZ_ l k)) rfl rfl rfl rfl Tryz.call72 (fun w' hw'=>Z8_ _ _ w') ?_
  with_reducible refine Ow.nil ?_
  refine⟨by intro b hb;simp only[List.mem_cons,List.not_mem_nil,or_false] at hb;(try subst hb);rfl, ?_⟩
  cases hc:decide (0≤vZ_ l k) with
  |true=>
   have hf:vs_ (vZ_ l) l.length=false:=by
    rw[Bool.eq_false_iff]
    intro h
    have:=vw_ (k:=k+1) (by omega) h
    rw[hst,decide_eq_true_eq] at this
    have:=of_decide_eq_true hc
    omega
   refine kq (And.intro @zI_ @hc) ?_
   try with_reducible refine Ow.nil ?_
   first|with_reducible refine ks [] @zI_ ?_|refine kp @zI_ ?_
   refine⟨_,(ke @zI_),trivial, ?_⟩
   rw[hf];rfl
  |false=>
   refine kq (And.intro @zI_ @hc) ?_
   try with_reducible refine Ow.nil ?_
   first|with_reducible refine ks [] @zI_ ?_|refine kp @zI_ ?_
   refine Again.mk (G:=Nat) (k+1) (by show l.length+1 - (k+1)<l.length+1 - k;omega) ⟨by omega, .inl (by omega),fun _=> ?_⟩ rfl rfl
   rw[hst,decide_eq_true_eq]
   have:=of_decide_eq_false hc
   omega
 ·have d1:decide ((k:Int)< (l.length:Int))=false:=decide_eq_false (by omega)
  have hf:vs_ (vZ_ l) l.length=true:=by
   rcases Nat.eq_zero_or_pos l.length with h0|h0
   ·rw[h0];rfl
   ·by_cases hkl:k≤l.length
    ·obtain rfl:k=l.length:=by omega
     exact hri hkl
    ·omega
  first|with_reducible refine ks [] (And.intro @zI_ (And.intro @ln (@d1))) ?_|refine kp (And.intro @zI_ (And.intro @ln (@d1))) ?_
  refine⟨_,(ke @zI_),trivial, ?_⟩
  rw[hf];rfl
theorem af3_ (v:Value) (l:List LnL) (w:World) (hv:LnSl w v l) (hl:l.length<1000000):Rets Tryz.prog 131 #[v, .func (.func 102) #[] #[]] w (fun v D=>v= .bool (vs_ (kv_ l) l.length)∧D= []):=by
 obtain⟨rb,off,arr,E,fz,hr⟩:=hv.row
 have ln:=hv.len
 refine Rets.enterV Tryz.func131 rfl (rs:= [.tmp 4]) Tryz.results131 Tryz.ntmps131 ?_
 refine kf ?_
 first|with_reducible refine ks [] @zI_ ?_|refine kp @zI_ ?_
 refine Cw.loopG (G:=Nat) [6,7,8,9,12,13,14,15,16,17,18,19,20,21,22,23,4,10,11,5] (fun k=> [(4, .bool false),(5,vi k)]) (fun k=> []) (fun k=>1≤k∧(k≤l.length∨l.length=0)∧(k≤l.length→vs_ (kv_ l) k=true)) (fun k=>l.length+1 - k) 1 rfl rfl ?_ ?_
 ·exact⟨Nat.le_refl _,by omega,fun _=>rfl⟩
 intro k jk hk
 refine kv ?_
 obtain⟨hk1,hk2,hri⟩:=hk
 by_cases hlt:k<l.length
 ·have d1:decide ((k:Int)< (l.length:Int))=true:=decide_eq_true (by omega)
  have hb:=hr.has (by omega)
  have hki: (k:Int) - 1=((k - 1:Nat):Int):=by omega
  have ix:=hr.idx true k hlt
  have ix':=hr.idx true (k - 1) (by omega)
  have ld:=hr.load zq_ (by omega) hlt
  have ld':=hr.load zq_ (by omega) (show k - 1<l.length by omega)
  have hst:vs_ (kv_ l) (k+1)=decide (kv_ l k<0):=by
   show(vs_ (kv_ l) k&&_)=_
   rw[hri (by omega),decide_eq_false (show¬k=0 by omega),Bool.true_and,Bool.false_or]
  first|with_reducible refine ks [] (And.intro @zI_ (And.intro @ln (@d1))) ?_|refine kp (And.intro @zI_ (And.intro @ln (@d1))) ?_
  refine Cw.regionS [rb] [0,1,2,3,4,6,7,8,5,9,10,11] [] (by kernel_rfl) (by kernel_rfl) (by kernel_rfl) ?_
  simp only[zh_, ↓zd_, ↓zb_, ↓zl_, ↓zm_,za_]
  refine kq (And.intro @zI_ (And.intro @hb (And.intro @hki (And.intro @ix (And.intro @ix' (And.intro @ld (@ld'))))))) ?_
  refine Ow.soft rfl rfl rfl ?_
  refine Ow.callFn2 (v:=vi (kv_ l k)) rfl rfl rfl rfl Tryz.call102 (fun w' hw'=>wD_ _ _ w') ?_
  with_reducible refine Ow.nil ?_
  refine⟨by intro b hb;simp only[List.mem_cons,List.not_mem_nil,or_false] at hb;(try subst hb);rfl, ?_⟩
  cases hc:decide (0≤kv_ l k) with
  |true=>
   have hf:vs_ (kv_ l) l.length=false:=by
    rw[Bool.eq_false_iff]
    intro h
    have:=vw_ (k:=k+1) (by omega) h
    rw[hst,decide_eq_true_eq] at this
    have:=of_decide_eq_true hc
    omega
   refine kq (And.intro @zI_ @hc) ?_
   try with_reducible refine Ow.nil ?_
   first|with_reducible refine ks [] @zI_ ?_|refine kp @zI_ ?_
   refine⟨_,(ke @zI_),trivial, ?_⟩
   rw[hf];rfl
  |false=>
   refine kq (And.intro @zI_ @hc) ?_
   try with_reducible refine Ow.nil ?_
   first|with_reducible refine ks [] @zI_ ?_|refine kp @zI_ ?_
   refine Again.mk (G:=Nat) (k+1) (by show l.length+1 - (k+1)<l.length+1 - k;omega) ⟨by omega, .inl (by omega),fun _=> ?_⟩ rfl rfl
   rw[hst,decide_eq_true_eq]
   have:=of_decide_eq_false hc
   omega
 ·have d1:decide ((k:Int)< (l.length:Int))=false:=decide_eq_false (by omega)
  have hf:vs_ (kv_ l) l.length=true:=by
   rcases Nat.eq_zero_or_pos l.length with h0|h0
   ·rw[h0];rfl
   ·by_cases hkl:k≤l.length
    ·obtain rfl:k=l.length:=by omega
     exact hri hkl
    ·omega
  first|with_reducible refine ks [] (And.intro @zI_ (And.intro @ln (@d1))) ?_|refine kp (And.intro @zI_ (And.intro @ln (@d1))) ?_
  refine⟨_,(ke @zI_),trivial, ?_⟩
  rw[hf];rfl
end Go.Proofs
end
section
open Go Go.Proofs Go.Sx Go.StP Go.Flo
namespace Go.Proofs
set_option maxRecDepth 10000
set_option maxHeartbeats 1000000
set_option linter.unusedSimpArgs false
def mgO (v0 v1 v2:Value):Obj:= .cells #[v0,v1,v2] 141 (0,0)
theorem wb_ (v0 v1 v2:Value) (n:Nat):zp_ (some (false,n)) (some (mgO v0 v1 v2)) 0=some v0:=(rfl)
theorem wY_ (v0 v1 v2:Value) (n:Nat):zp_ (some (false,n)) (some (mgO v0 v1 v2)) 1=some v1:=(rfl)
theorem wk_ (v0 v1 v2:Value) (n:Nat):zp_ (some (false,n)) (some (mgO v0 v1 v2)) 2=some v2:=(rfl)
def MgIn (w:World) (b:Nat) (names sums:List (List UInt8)) (lines:List LnL):Prop:= ∃v0 v1 v2,w.heap[b]? =some (mgO v0 v1 v2)∧Zu_ w v0 names∧Zu_ w v1 sums∧LnSl w v2 lines
theorem MgIn.old {w w':World} {L:zc_} {b:Nat} {names sums:List (List UInt8)} {lines:List LnL} (h:MgIn w b names sums lines) (hw:Hp w L w') (hn:New w.heap.size L):MgIn w' b names sums lines:=by
 obtain⟨v0,v1,v2,h1,h2,h3,h4⟩:=h
 exact⟨v0,v1,v2,by rw[hw.old b (Array.getElem?_eq_some_iff.1 h1).1 (hn.not (Array.getElem?_eq_some_iff.1 h1).1)];exact h1,h2.oldN hw hn,h3.oldN hw hn,h4.oldN hw hn⟩
def qg_ (n:Nat) (r:LnL):Bool:= !(decide (r.share<0))&& !(decide ((n:Int)≤r.share))&&numM r.place&&numM r.spot
def zC_ (names:List (List UInt8)) (lines:List LnL):Bool:=
 !(decide (40<names.length))&& !(decide (8000<lines.length))&&vs_ (vZ_ names) names.length&&vs_ (kv_ lines) lines.length&& (lines.all (qg_ names.length)&&names.all jD_)
def aaV_ (l:List (List UInt8)):Prop:= ∀s,s∈l→s.length<1099511627776
set_option linter.defProp false
def zM_:=And.intro (And.intro (And.intro (@zf_) (And.intro (@ze_) (@wb_))) (And.intro (@wY_) (And.intro (@wk_) (@z3_)))) (And.intro (And.intro (@xX_) (And.intro (@jK_) (@j7_))) (And.intro (@xz_) (And.intro (@km_) (@js_))))
theorem JE_ (v:Value) (l:List (List UInt8)) (w:World) (hv:Zu_ w v l) (hl:l.length<1000000) (hs:aaV_ l):Rets Tryz.prog 159 #[v, .func (.func 133) #[] #[]] w (fun v D=>(∃i:Int,v=vi i∧decide (0≤i)= !(l.all jD_))∧D= []):=by
 obtain⟨rb,off,arr,E,fz,hr⟩:=hv.row
 have ln:=hv.len
 refine Rets.enterV Tryz.func159 rfl (rs:= [.tmp 4]) Tryz.results159 Tryz.ntmps159 ?_
 refine kf ?_
 first|with_reducible refine ks [] (And.intro @zM_ @ln) ?_|refine kp (And.intro @zM_ @ln) ?_
 refine Cw.loopG (G:=Nat) [9,10,5,11,12,13,14,15,16,17,4,18,8] (fun k=> [(4,vi 0),(8,vi k)]) (fun k=> []) (fun k=>k≤l.length∧(l.take k).all jD_=true) (fun k=>l.length - k) 0 rfl rfl ?_ ?_
 ·exact⟨Nat.zero_le _,rfl⟩
 intro k jk hk
 refine kv ?_
 obtain⟨hk,hal⟩:=hk
 by_cases hlt:k<l.length
 ·have d1:decide ((k:Int)< (l.length:Int))=true:=decide_eq_true (by omega)
  have hb:=hr.has (by omega)
  have ix:=hr.idx false k hlt
  have ld:=fun n=>jV_ hr hlt n
  have hts:=StP.take_snoc (z:=([]:List UInt8)) hlt
  have hm:l.getD k []∈l:=by rw[List.getD_eq_getElem?_getD,List.getElem?_eq_getElem hlt];exact List.getElem_mem hlt
  have hsl:=hs _ hm
  generalize l.getD k []=s at*
  first|with_reducible refine ks [] (And.intro @zM_ (And.intro @d1 (And.intro @hb (And.intro @ix (@ld))))) ?_|refine kp (And.intro @zM_ (And.intro @d1 (And.intro @hb (And.intro @ix (@ld))))) ?_
  refine Ow.callFn1 (v:= .bool (!jD_ s)) rfl rfl rfl Tryz.call133 (fun w' hw'=>abX_ s w' hsl) ?_
  cases hn:jD_ s with
  |true=>
   refine ko @zM_ ?_
   refine Again.mk (G:=Nat) (k+1) (by show l.length - (k+1)<l.length - k;omega) ⟨hlt, ?_⟩ rfl rfl
   rw[hts,List.all_append,hal,List.all_cons,hn];rfl
  |false=>
   refine ko @zM_ ?_
   first|with_reducible refine ks [] @zM_ ?_|refine kp @zM_ ?_
   refine⟨_,(ke @zM_),trivial, ?_⟩
   refine⟨(k:Int),rfl, ?_⟩
   rw[decide_eq_true (show(0:Int)≤ (k:Int) by omega),show l.all jD_=false from List.all_eq_false.2 ⟨s,hm,by rw[hn];simp⟩];rfl
 ·obtain rfl:k=l.length:=by omega
  have d1:decide ((l.length:Int)< (l.length:Int))=false:=decide_eq_false (by omega)
  rw[List.take_length] at hal
  first|with_reducible refine ks [] (And.intro @zM_ @d1) ?_|refine kp (And.intro @zM_ @d1) ?_
  refine⟨_,(ke @zM_),trivial, ?_⟩
  exact⟨-1,rfl,by rw[hal];rfl⟩
theorem Xc_ (v:Value) (l:List (List UInt8)) (w:World) (hv:Zu_ w v l) (hl:l.length<1000000) (hs:aaV_ l):Rets Tryz.prog 115 #[v, .func (.func 133) #[] #[]] w (fun v D=>v= .bool (!(l.all jD_))∧D= []):=by
 refine Rets.enterV Tryz.func115 rfl (rs:= [.tmp 4]) Tryz.results115 Tryz.ntmps115 ?_
 refine kf ?_
 first|with_reducible refine ks [] @zM_ ?_|refine kp @zM_ ?_
 refine Ow.callC rfl rfl Tryz.call159 (fun w' hw'=>Rets.toX (JE_ v l w' (hv.oldN hw' trivial) hl hs)) (fun B1 v1 D1 hA1 hB1 hN1 hS1=> ?_)
 obtain⟨rfl,i,rfl,hi⟩:=hS1
 refine ko (And.intro @zM_ @hi) ?_
 first|with_reducible refine ks [] @zM_ ?_|refine kp @zM_ ?_
 refine⟨_,(ke @zM_),trivial, ?_⟩
 rfl
structure RtG where
 k:Nat
 DG:zc_
theorem wK_ (b:Nat) (names sums:List (List UInt8)) (lines:List LnL) (w:World) (h:MgIn w b names sums lines) (hnl:names.length<1000000) (hll:lines.length<1000000) (hs:aaV_ names):Rets Tryz.prog 73 #[vp b 0] w (fun v D=>v= .bool (zC_ names lines)∧D= []):=by
 obtain⟨v0,v1,v2,h1,h2,h3,h4⟩:=id h
 have hbl:=(Array.getElem?_eq_some_iff.1 h1).1
 have ln0':=h2.len
 have ln2':=h4.len
 obtain⟨rb,off,arr,E,fz,hr⟩:=h4.row
 refine Rets.enterV Tryz.func73 rfl (rs:= [.tmp 2]) Tryz.results73 Tryz.ntmps73 ?_
 refine kf ?_
 unfold zC_
 by_cases hn4:40<names.length
 ·have d1:decide ((40:Int)< (names.length:Int))=true:=decide_eq_true (by omega)
  rw[decide_eq_true hn4]
  first|with_reducible refine ks [] (And.intro @zM_ (And.intro @h1 (And.intro @ln0' (@d1)))) ?_|refine kp (And.intro @zM_ (And.intro @h1 (And.intro @ln0' (@d1)))) ?_
  refine⟨_,(ke @zM_),trivial, ?_⟩
  rfl
 have d1:decide ((40:Int)< (names.length:Int))=false:=decide_eq_false (by omega)
 rw[decide_eq_false hn4]
 by_cases hl8:8000<lines.length
 ·have d2:decide ((8000:Int)< (lines.length:Int))=true:=decide_eq_true (by omega)
  rw[decide_eq_true hl8]
  first|with_reducible refine ks [] (And.intro @zM_ (And.intro @h1 (And.intro @ln0' (And.intro @d1 (And.intro @ln2' (@d2)))))) ?_|refine kp (And.intro @zM_ (And.intro @h1 (And.intro @ln0' (And.intro @d1 (And.intro @ln2' (@d2)))))) ?_
  refine⟨_,(ke @zM_),trivial, ?_⟩
  rfl
 have d2:decide ((8000:Int)< (lines.length:Int))=false:=decide_eq_false (by omega)
 rw[decide_eq_false hl8]
 first|with_reducible refine ks [] (And.intro @zM_ (And.intro @h1 (And.intro @ln0' (And.intro @d1 (And.intro @ln2' (@d2)))))) ?_|refine kp (And.intro @zM_ (And.intro @h1 (And.intro @ln0' (And.intro @d1 (And.intro @ln2' (@d2)))))) ?_
 refine Ow.callFV rfl Tryz.call130 (fun w' hw'=>aho_ v0 names w' (h2.oldN hw' trivial) hnl) ?_
 cases hr1:vs_ (vZ_ names) names.length with
 |false=>
  refine ko @zM_ ?_
  first|with_reducible refine ks [] @zM_ ?_|refine kp @zM_ ?_
  refine⟨_,(ke @zM_),trivial, ?_⟩
  rfl
 |true=>
  refine ko (And.intro @zM_ @h1) ?_
  refine Ow.callFV rfl Tryz.call131 (fun w' hw'=>af3_ v2 lines w' (h4.oldN hw' trivial) hll) ?_
  cases hr2:vs_ (kv_ lines) lines.length with
  |false=>
   refine ko @zM_ ?_
   first|with_reducible refine ks [] @zM_ ?_|refine kp @zM_ ?_
   refine⟨_,(ke @zM_),trivial, ?_⟩
   rfl
  |true=>
   have e0: (!false&& !false&&true&&true&& (lines.all (qg_ names.length)&&names.all jD_))=(lines.all (qg_ names.length)&&names.all jD_):=rfl
   rw[e0]
   refine ko (And.intro @zM_ (And.intro @h1 (@ln2'))) ?_
   refine Cw.loopG (G:=RtG) [42,43,44,5,45,46,47,48,49,50,51,52,53,54,55,56,57,58,59,60,61,62,63,64,65,66,67,68,69,70,71,2,72,41] (fun q=> [(2, .bool false),(3, .func (.func 132) #[] #[]),(41,vi q.k)]) (fun q=>q.DG) (fun q=>q.k≤lines.length∧New w.heap.size q.DG∧(lines.take q.k).all (qg_ names.length)=true) (fun q=>lines.length - q.k) ⟨0,[]⟩ rfl rfl ?_ ?_
   ·exact⟨Nat.zero_le _,trivial,rfl⟩
   intro q jq hq
   refine kv ?_
   obtain⟨k,DG⟩:=q
   simp only at hq ⊢
   obtain⟨hk,hN,hal⟩:=hq
   have rd: ∀X c o,New w.heap.size X→w.heap[c]? =some o→zv_ w X c=some o:=fun X c o hX hc=>by rw[z8_ (hX.not (Array.getElem?_eq_some_iff.1 hc).1)];exact hc
   by_cases hlt:k<lines.length
   ·have d3:decide ((k:Int)< (lines.length:Int))=true:=decide_eq_true (by omega)
    have hb:=hr.has (by omega)
    have rd1:=rd _ _ _ hN hb
    have ix:=hr.idx true k hlt
    have ld:=hr.load zq_ (by omega) hlt
    have hts:=StP.take_snoc (z:=Go.Proofs.ln0) hlt
    have hm:lines.getD k Go.Proofs.ln0∈lines:=by rw[List.getD_eq_getElem?_getD,List.getElem?_eq_getElem hlt];exact List.getElem_mem hlt
    have hbad:qg_ names.length (lines.getD k Go.Proofs.ln0)=false→(lines.all (qg_ names.length)&&names.all jD_)=false:=fun h=>by
     rw[show lines.all (qg_ names.length)=false from List.all_eq_false.2 ⟨_,hm,by rw[h];simp⟩,Bool.false_and]
    generalize lines.getD k Go.Proofs.ln0=r at*
    first|with_reducible refine ks [] (And.intro @zM_ (And.intro @d3 (And.intro @rd1 (And.intro @ix (@ld))))) ?_|refine kp (And.intro @zM_ (And.intro @d3 (And.intro @rd1 (And.intro @ix (@ld))))) ?_
    refine Ow.alloc rfl rfl J7_ fun b5 hb5 hw5=> ?_
    simp only[zg_,List.nil_append,List.cons_append]
    refine Ow.permL (M:=(b5, .cells (lnC Go.Proofs.ln0).toArray 89 (0,0))::DG) (by classical exact List.perm_iff_count.2 fun a=>by simp only[List.count_append,List.count_cons,List.count_nil]<;>omega) ?_
    refine ko @zM_ ?_
    have hN5:New w.heap.size ((b5,Obj.cells (lnC r).toArray 89 (0,0))::DG):=⟨hw5,hN⟩
    have hnb:b5≠b:=by omega
    have rdb:=rd _ _ _ hN5 h1
    first|with_reducible refine ks [] @zM_ ?_|refine kp @zM_ ?_
    refine Cw.regionS [b5,b] [0,1,2,3,4,6,7,8,5,9,10,11,12,13,14,15,16,17,18,19,20,21,22,23,24,25,26] [] (by kernel_rfl) (by kernel_rfl) (by kernel_rfl) ?_
    simp only[zh_, ↓zd_, ↓zb_, ↓zl_, ↓zm_,za_]
    cases c1:decide (r.share<0) with
    |true=>
     refine kq (And.intro @zM_ @c1) ?_
     try with_reducible refine Ow.nil ?_
     first|with_reducible refine ks [] @zM_ ?_|refine kp @zM_ ?_
     refine⟨_,(ke @zM_),hN5, ?_⟩
     rw[hbad (by unfold qg_;rw[c1];rfl)];rfl
    |false=>
     cases c2:decide ((names.length:Int)≤r.share) with
     |true=>
      refine kq (And.intro @zM_ (And.intro @c1 (And.intro @rdb (And.intro @ln0' (@c2))))) ?_
      try with_reducible refine Ow.nil ?_
      first|with_reducible refine ks [] @zM_ ?_|refine kp @zM_ ?_
      refine⟨_,(ke @zM_),hN5, ?_⟩
      rw[hbad (by unfold qg_;rw[c1,c2];rfl)];rfl
     |false=>
      refine kq (And.intro @zM_ (And.intro @c1 (And.intro @rdb (And.intro @ln0' (@c2))))) ?_
      refine Ow.soft rfl rfl rfl ?_
      refine Ow.callFn1 (v:= .bool (numM r.place)) rfl rfl rfl Tryz.call132 (fun w' hw'=>Jg_ r.place w') ?_
      with_reducible refine Ow.nil ?_
      refine⟨by intro b hb;simp only[List.mem_cons,List.not_mem_nil,or_false] at hb;(try subst hb);rfl, ?_⟩
      cases c3:numM r.place with
      |false=>
       refine kq (And.intro @zM_ @c3) ?_
       try with_reducible refine Ow.nil ?_
       first|with_reducible refine ks [] @zM_ ?_|refine kp @zM_ ?_
       refine⟨_,(ke @zM_),hN5, ?_⟩
       rw[hbad (by unfold qg_;rw[c1,c2,c3];rfl)];rfl
      |true=>
       refine kq @zM_ ?_
       refine Ow.soft rfl rfl rfl ?_
       refine Ow.callFn1 (v:= .bool (numM r.spot)) rfl rfl rfl Tryz.call132 (fun w' hw'=>Jg_ r.spot w') ?_
       with_reducible refine Ow.nil ?_
       refine⟨by intro b hb;simp only[List.mem_cons,List.not_mem_nil,or_false] at hb;(try subst hb);rfl, ?_⟩
       cases c4:numM r.spot with
       |false=>
        refine kq (And.intro @zM_ @c4) ?_
        try with_reducible refine Ow.nil ?_
        first|with_reducible refine ks [] @zM_ ?_|refine kp @zM_ ?_
        refine⟨_,(ke @zM_),hN5, ?_⟩
        rw[hbad (by unfold qg_;rw[c1,c2,c3,c4];rfl)];rfl
       |true=>
        refine kq @zM_ ?_
        try with_reducible refine Ow.nil ?_
        first|with_reducible refine ks [] @zM_ ?_|refine kp @zM_ ?_
        refine Again.mk ⟨k+1,(b5, .cells (lnC r).toArray 89 (0,0))::DG⟩ (by show lines.length - (k+1)<lines.length - k;omega) ⟨hlt,hN5, ?_⟩ rfl rfl
        show(lines.take (k+1)).all _=true
        rw[hts,List.all_append,hal,List.all_cons]
        unfold qg_;rw[c1,c2,c3,c4];rfl
   ·obtain rfl:k=lines.length:=by omega
    have d3:decide ((lines.length:Int)< (lines.length:Int))=false:=decide_eq_false (by omega)
    have rdb:=rd _ _ _ hN h1
    rw[List.take_length] at hal
    rw[hal,Bool.true_and]
    first|with_reducible refine ks [] (And.intro @zM_ (And.intro @d3 (@rdb))) ?_|refine kp (And.intro @zM_ (And.intro @d3 (@rdb))) ?_
    refine Ow.callFV rfl Tryz.call115 (fun w' hw'=>Xc_ v0 names w' (h2.oldN hw' hN) hnl hs) ?_
    refine ko @zM_ ?_
    first|with_reducible refine ks [] @zM_ ?_|refine kp @zM_ ?_
    refine⟨_,(ke @zM_),hN, ?_⟩
    exact congrArg Value.bool (Bool.not_not _)
end Go.Proofs
end
section
open Go Go.Proofs Go.Sx Go.StP Go.Flo
namespace Go.Proofs
set_option maxRecDepth 10000
set_option maxHeartbeats 1000000
set_option linter.unusedSimpArgs false
def magM:List UInt8:= [83,77,88,49]
def ZJ_ (r:LnL):List UInt8:=r.id.l++ (qd_ (zw_ r.share)++ (qd_ (zw_ r.place)++qd_ (zw_ r.spot)))
def qM_ (l:List LnL):List UInt8:=(l.map ZJ_).flatten
def kV_ (names sums:List (List UInt8)):Nat→List UInt8
 |0=> []
 |k+1=>kV_ names sums k++ (jQ_ (names.getD k [])++sums.getD k [])
def xZ_ (names sums:List (List UInt8)) (lines:List LnL):List UInt8:=
 (magM++ (qd_ (zw_ (names.length:Int))++kV_ names sums names.length))++ (qd_ (zw_ (lines.length:Int))++qM_ lines)
theorem wO_ (l:List LnL) {g:Nat} (h:g<l.length):qM_ (l.take (g+1))=qM_ (l.take g)++ZJ_ (l.getD g Go.Proofs.ln0):=by
 rw[StP.take_snoc (z:=Go.Proofs.ln0) h];simp[qM_]
theorem VD_ (r:LnL): (ZJ_ r).length≤50:=by
 have h1:=zj_ r.share
 have h2:=zj_ r.place
 have h3:=zj_ r.spot
 have h4:=r.id.h
 unfold ZJ_
 rw[List.length_append,List.length_append,List.length_append];omega
theorem wg_ (l:List LnL): ∀g,g≤l.length→(qM_ (l.take g)).length≤g*50
 |0,_=>by simp[qM_]
 |g+1,h=>by
  rw[wO_ l h,List.length_append]
  have:=wg_ l g (by omega)
  have:=VD_ (l.getD g Go.Proofs.ln0)
  omega
theorem ZG_ (s:List UInt8): (jQ_ s).length≤6+s.length:=by
 have:=zj_ (s.length:Int)
 unfold jQ_
 rw[List.length_append];omega
def Most (n:Nat) (l:List (List UInt8)):Prop:= ∀s,s∈l→s.length≤n
theorem Most.at {n:Nat} {l:List (List UInt8)} (h:Most n l) (k:Nat): (l.getD k []).length≤n:=by
 by_cases hk:k<l.length
 ·rw[List.getD_eq_getElem?_getD,List.getElem?_eq_getElem hk];exact h _ (List.getElem_mem hk)
 ·rw[List.getD_eq_getElem?_getD,List.getElem?_eq_none (by omega)];simp
theorem w4_ {names sums:List (List UInt8)} (hn:Most 1000 names) (hs:Most 1000 sums): ∀k,(kV_ names sums k).length≤k*2006
 |0=>by simp[kV_]
 |k+1=>by
  have h1:=w4_ hn hs k
  have h2:=ZG_ (names.getD k [])
  have h3:=hn.at k
  have h4:=hs.at k
  unfold kV_
  rw[List.length_append,List.length_append];omega
structure MwG where
 k:Nat
 D:zc_
set_option linter.defProp false
def qr_:=And.intro (And.intro (And.intro (@zf_) (And.intro (@ze_) (@wb_))) (And.intro (@wY_) (And.intro (@wk_) (@z3_)))) (And.intro (And.intro (@xX_) (And.intro (@jK_) (@j7_))) (And.intro (@xz_) (And.intro (@km_) (@js_))))
theorem JL_ (b:Nat) (names sums:List (List UInt8)) (lines:List LnL) (w:World) (hC:GlobC w) (h:MgIn w b names sums lines) (hsl:sums.length=names.length) (hnl:names.length≤40) (hll:lines.length≤8000) (hns:Most 1000 names) (hss:Most 1000 sums):
  Rets Tryz.prog 77 #[vp b 0] w (fun v D=>v=vs (z5_ (xZ_ names sums lines))∧D= []):=by
 obtain⟨v0,v1,v2,h1,h2,h3,h4⟩:=id h
 have hbl:=(Array.getElem?_eq_some_iff.1 h1).1
 have l0:=h2.len
 have l2:=h4.len
 obtain⟨ra,oa,aa,Ea,fa,hra⟩:=h2.row
 obtain⟨rs,os,as_,Es,fs,hrs⟩:=h3.row
 obtain⟨rb,off,arr,E,fz,hr⟩:=h4.row
 have rd: ∀X c o,New w.heap.size X→w.heap[c]? =some o→zv_ w X c=some o:=fun X c o hX hc=>by rw[z8_ (hX.not (Array.getElem?_eq_some_iff.1 hc).1)];exact hc
 have hn1:=zj_ (names.length:Int)
 have hn2:=zj_ (lines.length:Int)
 refine Rets.enterV Tryz.func77 rfl (rs:= [.tmp 2]) Tryz.results77 Tryz.ntmps77 ?_
 refine kf ?_
 first|with_reducible refine ks [] @qr_ ?_|refine kp @qr_ ?_
 refine Ow.alloc rfl rfl Tryz.zr199 fun b3 hb3 hw3=> ?_
 refine ko @qr_ ?_
 first|with_reducible refine ks [] @qr_ ?_|refine kp @qr_ ?_
 have hZ:BldAt b3 [] [(b3, .cells #[.pointer none, .slice none 0 0] 199 (0,0))]:=BldAt.zeroK b3 (xj_ _ _ _)
 refine Ow.buildSlice (e:=9) #[vs [83,77,88,49]] rfl rfl (by kernel_rfl) fun b8 hb8 hw8=> ?_
 have h38:b3<b8:=zs_ hb8 (by simp[keys])
 refine ko @qr_ ?_
 refine Ow.callX (Y:= [(b8, .cells #[vs [83,77,88,49]] 9 (0,0))]) (by simp) rfl rfl Tryz.call123 (fun w' hw' hX hn=>vM_ b3 [(b3, .cells #[.pointer none, .slice none 0 0] 199 (0,0))] [] _ b8 0 [[83,77,88,49]] _ _ _ w' hZ hX hn (StrS.lit [[83,77,88,49]] rfl rfl (hw'.has _ _ (List.mem_cons_of_mem _ List.mem_cons_self))) (fun _ hm=>by simp[keys] at hm;omega) (by simp) (by simp)) (fun v9 D9 hC9 hS9=> ?_)
 obtain⟨rfl,hB9⟩:=hS9
 have hN9:New w.heap.size D9:=z1_ hC9 ⟨hw3,trivial⟩
 have rd9:=rd (D9++ [(b8, .cells #[vs [83,77,88,49]] 9 (0,0))]) _ _ (hN9.app ⟨hw8,trivial⟩) h1
 refine ko @qr_ ?_
 first|with_reducible refine ks [] (And.intro @qr_ (And.intro @rd9 (@l0))) ?_|refine kp (And.intro @qr_ (And.intro @rd9 (@l0))) ?_
 refine Ow.buildSlice (e:=3) #[vi names.length] rfl rfl (by kernel_rfl) fun b15 hb15 hw15=> ?_
 refine ko @qr_ ?_
 refine Ow.callX (Y:= [(b8, .cells #[vs [83,77,88,49]] 9 (0,0)),(b15, .cells #[vi names.length] 3 (0,0))]) (by simp) rfl rfl Tryz.call124 (fun w' hw' hX hn=>ja_ b3 D9 _ _ b15 0 [(names.length:Int)] _ _ _ w' hB9 hX hn (OneS.lit [(names.length:Int)] rfl rfl (hw'.has b15 (.cells #[vi names.length] 3 (0,0)) (by simp))) (fun _ hm=>Nat.lt_irrefl _ (zs_ hb15 (by rw[zR_];exact List.mem_append_left _ hm))) (by simp)) (fun v16 D16 hC16 hS16=> ?_)
 obtain⟨rfl,hB16⟩:=hS16
 rw[w5_] at hB16
 have hN16:New w.heap.size D16:=z1_ hC16 hN9
 have hN16':New w.heap.size (D16++ [(b8,Obj.cells #[vs [83,77,88,49]] 9 (0,0)),(b15,Obj.cells #[vi names.length] 3 (0,0))]):=hN16.app ⟨hw8,hw15,trivial⟩
 have rd16:=rd _ _ _ hN16' h1
 refine ko @qr_ ?_
 first|with_reducible refine ks [] (And.intro @qr_ (And.intro @rd16 (@l0))) ?_|refine kp (And.intro @qr_ (And.intro @rd16 (@l0))) ?_
 obtain⟨P0,hP0⟩: ∃P,P=magM++qd_ (zw_ (names.length:Int)):=⟨_,rfl⟩
 have hP0l:P0.length≤10:=by rw[hP0,List.length_append,show magM.length=4 from rfl];omega
 have hB0:BldAt b3 (P0++kV_ names sums 0) (D16++ [(b8,Obj.cells #[vs [83,77,88,49]] 9 (0,0)),(b15, .cells #[vi names.length] 3 (0,0))]):=by
  have:=hB16.app (Y:= [(b8,Obj.cells #[vs [83,77,88,49]] 9 (0,0)),(b15, .cells #[vi names.length] 3 (0,0))])
  rw[hP0]
  simpa [magM,kV_] using this
 refine Cw.loopG (G:=MwG) [23,24,25,26,4,5,27,28,29,30,31,32,33,34,35,36,37,38,39,22] (fun g=> [(22,vi g.k)]) (fun g=>g.D) (fun g=>g.k≤names.length∧New w.heap.size g.D∧BldAt b3 (P0++kV_ names sums g.k) g.D) (fun g=>names.length - g.k) ⟨0,D16++ [(b8,Obj.cells #[vs [83,77,88,49]] 9 (0,0)),(b15, .cells #[vi names.length] 3 (0,0))]⟩ rfl rfl ?_ ?_
 ·exact⟨Nat.zero_le _,hN16',hB0⟩
 intro g j hg
 refine kv ?_
 obtain⟨k,D⟩:=g
 simp only at hg ⊢
 obtain⟨hk,hN,hB⟩:=hg
 have hnt:=w4_ hns hss k
 by_cases hlt:k<names.length
 ·have d1:decide ((k:Int)< (names.length:Int))=true:=decide_eq_true (by omega)
  have rda:=rd _ _ _ hN (hra.has (by omega))
  have ixa:=hra.idx false k hlt
  have lda:=fun n=>jV_ hra hlt n
  have ixs:=hrs.idx false k (by omega)
  have lds:=fun n=>jV_ hrs (show k<sums.length by omega) n
  have hst:kV_ names sums (k+1)=kV_ names sums k++ (jQ_ (names.getD k [])++sums.getD k []):=rfl
  have hl1:=hns.at k
  have hl2:=hss.at k
  generalize names.getD k []=s at*
  generalize sums.getD k []=u at*
  have htl:=ZG_ s
  have htx:kR_ [s]=jQ_ s:=by simp[kR_]
  have hPn: (P0++kV_ names sums k).length≤10+k*2006:=by rw[List.length_append];omega
  first|with_reducible refine ks [] (And.intro @qr_ (And.intro @d1 (And.intro @rda (And.intro @ixa (@lda))))) ?_|refine kp (And.intro @qr_ (And.intro @d1 (And.intro @rda (And.intro @ixa (@lda))))) ?_
  refine Ow.buildSlice (e:=9) #[vs s] rfl rfl (by kernel_rfl) fun b28 hb28 hw28=> ?_
  refine ko @qr_ ?_
  refine Ow.callX (Y:= [(b28, .cells #[vs s] 9 (0,0))]) (by simp) rfl rfl Tryz.call137 (fun w' hw' hX hn=>adK_ b3 D _ _ b28 0 [s] _ _ _ w' hB hX hn (StrS.lit [s] rfl rfl (hw'.has b28 (.cells #[vs s] 9 (0,0)) (by simp))) (fun _ hm=>Nat.lt_irrefl _ (zs_ hb28 hm)) (by rw[htx];omega) (by simp)) (fun v29 D29 hC29 hS29=> ?_)
  obtain⟨rfl,hB29⟩:=hS29
  rw[htx] at hB29
  have hN29:New w.heap.size D29:=z1_ hC29 hN
  have rd29:=rd (D29++ [(b28, .cells #[vs s] 9 (0,0))]) _ _ (hN29.app ⟨hw28,trivial⟩) h1
  have rds:=rd (D29++ [(b28, .cells #[vs s] 9 (0,0))]) _ _ (hN29.app ⟨hw28,trivial⟩) (hrs.has (by omega))
  refine ko @qr_ ?_
  first|with_reducible refine ks [] (And.intro @qr_ (And.intro @rd29 (And.intro @rds (And.intro @ixs (@lds))))) ?_|refine kp (And.intro @qr_ (And.intro @rd29 (And.intro @rds (And.intro @ixs (@lds))))) ?_
  refine Ow.buildSlice (e:=9) #[vs u] rfl rfl (by kernel_rfl) fun b37 hb37 hw37=> ?_
  refine ko @qr_ ?_
  refine Ow.callX (Y:= [(b28, .cells #[vs s] 9 (0,0)),(b37, .cells #[vs u] 9 (0,0))]) (by simp) rfl rfl Tryz.call123 (fun w' hw' hX hn=>vM_ b3 D29 _ _ b37 0 [u] _ _ _ w' hB29 hX hn (StrS.lit [u] rfl rfl (hw'.has b37 (.cells #[vs u] 9 (0,0)) (by simp))) (fun _ hm=>Nat.lt_irrefl _ (zs_ hb37 (by rw[zR_];exact List.mem_append_left _ hm))) (by rw[List.length_append];simp;omega) (by simp)) (fun v38 D38 hC38 hS38=> ?_)
  obtain⟨rfl,hB38⟩:=hS38
  have hN38:New w.heap.size D38:=z1_ hC38 hN29
  refine ko @qr_ ?_
  first|with_reducible refine ks [] @qr_ ?_|refine kp @qr_ ?_
  refine Again.mk ⟨k+1,D38++ [(b28,Obj.cells #[vs s] 9 (0,0)),(b37, .cells #[vs u] 9 (0,0))]⟩ (by show names.length - (k+1)<names.length - k;omega) ⟨hlt,hN38.app ⟨hw28,hw37,trivial⟩, ?_⟩ rfl rfl
  show BldAt b3 (P0++kV_ names sums (k+1)) _
  rw[hst]
  have:=hB38.app (Y:= [(b28,Obj.cells #[vs s] 9 (0,0)),(b37, .cells #[vs u] 9 (0,0))])
  simpa using this
 ·obtain rfl:k=names.length:=by omega
  have d1:decide ((names.length:Int)< (names.length:Int))=false:=decide_eq_false (by omega)
  have rd40:=rd _ _ _ hN h1
  first|with_reducible refine ks [] (And.intro @qr_ (And.intro @d1 (And.intro @rd40 (@l2)))) ?_|refine kp (And.intro @qr_ (And.intro @d1 (And.intro @rd40 (@l2)))) ?_
  refine Ow.buildSlice (e:=3) #[vi lines.length] rfl rfl (by kernel_rfl) fun b45 hb45 hw45=> ?_
  refine ko @qr_ ?_
  have hPn: (P0++kV_ names sums names.length).length≤10+names.length*2006:=by rw[List.length_append];omega
  refine Ow.callX (Y:= [(b45, .cells #[vi lines.length] 3 (0,0))]) (by simp) rfl rfl Tryz.call124 (fun w' hw' hX hn=>ja_ b3 D _ _ b45 0 [(lines.length:Int)] _ _ _ w' hB hX hn (OneS.lit [(lines.length:Int)] rfl rfl (hw'.has b45 (.cells #[vi lines.length] 3 (0,0)) (by simp))) (fun _ hm=>Nat.lt_irrefl _ (zs_ hb45 hm)) (by simp;omega)) (fun v46 D46 hC46 hS46=> ?_)
  obtain⟨rfl,hB46⟩:=hS46
  rw[w5_] at hB46
  have hN46:New w.heap.size D46:=z1_ hC46 hN
  have hN46':New w.heap.size (D46++ [(b45,Obj.cells #[vi lines.length] 3 (0,0))]):=hN46.app ⟨hw45,trivial⟩
  have rd46:=rd _ _ _ hN46' h1
  obtain⟨P1,hP1⟩: ∃P,P=P0++kV_ names sums names.length++qd_ (zw_ (lines.length:Int)):=⟨_,rfl⟩
  have hP1l:P1.length≤100000:=by rw[hP1,List.length_append];omega
  have hmb:xZ_ names sums lines=P1++qM_ lines:=by rw[hP1,hP0];unfold xZ_;simp only[List.append_assoc]
  have hB1:BldAt b3 (P1++qM_ (lines.take 0)) (D46++ [(b45,Obj.cells #[vi lines.length] 3 (0,0))]):=by
   have:=hB46.app (Y:= [(b45,Obj.cells #[vi lines.length] 3 (0,0))])
   rw[hP1]
   simpa [qM_] using this
  refine ko @qr_ ?_
  first|with_reducible refine ks [] (And.intro @qr_ (And.intro @rd46 (@l2))) ?_|refine kp (And.intro @qr_ (And.intro @rd46 (@l2))) ?_
  refine Cw.loopG (G:=MwG) [53,54,55,7,56,57,58,59,60,61,62,63,64,65,66,67,68,52] (fun q=> [(52,vi q.k)]) (fun q=>q.D) (fun q=>q.k≤lines.length∧New w.heap.size q.D∧BldAt b3 (P1++qM_ (lines.take q.k)) q.D) (fun q=>lines.length - q.k) ⟨0,D46++ [(b45,Obj.cells #[vi lines.length] 3 (0,0))]⟩ rfl rfl ?_ ?_
  ·exact⟨Nat.zero_le _,hN46',hB1⟩
  intro q jq hq
  refine kv ?_
  obtain⟨k,D⟩:=q
  simp only at hq ⊢
  clear hN hB
  obtain⟨hk,hN,hB⟩:=hq
  have hrl:=wg_ lines k hk
  by_cases hlt:k<lines.length
  ·have d1:decide ((k:Int)< (lines.length:Int))=true:=decide_eq_true (by omega)
   have rdb:=rd _ _ _ hN (hr.has (by omega))
   have ix:=hr.idx true k hlt
   have ld:=hr.load zq_ (by omega) hlt
   have hsn:=wO_ lines hlt
   generalize lines.getD k Go.Proofs.ln0=r at*
   first|with_reducible refine ks [1000014] (And.intro @qr_ (And.intro @d1 (And.intro @rdb (And.intro @ix (@ld))))) ?_|refine kp (And.intro @qr_ (And.intro @d1 (And.intro @rdb (And.intro @ix (@ld))))) ?_
   refine Ow.alloc rfl rfl J7_ fun b7 hb7 hw7=> ?_
   simp only[zg_,List.nil_append,List.cons_append]
   refine Ow.permL (M:=(b7, .cells (lnC Go.Proofs.ln0).toArray 89 (0,0))::D) (by classical exact List.perm_iff_count.2 fun a=>by simp only[List.count_append,List.count_cons,List.count_nil]<;>omega) ?_
   refine ko @qr_ ?_
   first|with_reducible refine ks [] @qr_ ?_|refine kp @qr_ ?_
   have hrb:=VD_ r
   have hil:=r.id.h
   have hPk: (P1++qM_ (lines.take k)).length≤100000+k*50:=by rw[List.length_append];omega
   refine Ow.buildSlice (e:=86) (a8 r.id.l) rfl rfl (W4_ r.id) fun b35 hb35 hw35=> ?_
   refine ko @qr_ ?_
   refine Ow.permL (M:=D++ [(b7,Obj.cells (lnC r).toArray 89 (0,0)),(b35, .cells (a8 r.id.l) 86 (0,0))]) (by classical exact List.perm_iff_count.2 fun a=>by simp only[List.count_append,List.count_cons,List.count_nil]<;>omega) ?_
   refine Ow.callX (Y:= [(b7,Obj.cells (lnC r).toArray 89 (0,0)),(b35, .cells (a8 r.id.l) 86 (0,0))]) (by simp) rfl rfl Tryz.call125 (fun w' hw' hX hn=>adq_ b3 D _ _ b35 0 [r.id] _ _ _ w' hB hX hn (WP_ r.id (hw'.has b35 (.cells (a8 r.id.l) 86 (0,0)) (by simp))) (fun _ hm=>Nat.lt_irrefl _ (zs_ hb35 (by simp[keys] at hm ⊢;exact .inr hm))) (by simp at hPk ⊢;omega)) (fun v36 D36 hC36 hS36=> ?_)
   obtain⟨rfl,hB36⟩:=hS36
   have hN36:New w.heap.size D36:=z1_ hC36 hN
   refine Ow.permL (M:=(b7,Obj.cells (lnC r).toArray 89 (0,0)):: (D36++ [(b35, .cells (a8 r.id.l) 86 (0,0))])) (by classical exact List.perm_iff_count.2 fun a=>by simp only[List.count_append,List.count_cons,List.count_nil]<;>omega) ?_
   refine ko @qr_ ?_
   first|with_reducible refine ks [] @qr_ ?_|refine kp @qr_ ?_
   refine Ow.buildSlice (e:=3) #[vi r.share,vi r.place,vi r.spot] rfl rfl (by kernel_rfl) fun b39 hb39 hw39=> ?_
   refine ko @qr_ ?_
   refine Ow.permL (M:=D36++ [(b7,Obj.cells (lnC r).toArray 89 (0,0)),(b35, .cells (a8 r.id.l) 86 (0,0)),(b39, .cells #[vi r.share,vi r.place,vi r.spot] 3 (0,0))]) (by classical exact List.perm_iff_count.2 fun a=>by simp only[List.count_append,List.count_cons,List.count_nil]<;>omega) ?_
   refine Ow.callX (Y:= [(b7,Obj.cells (lnC r).toArray 89 (0,0)),(b35, .cells (a8 r.id.l) 86 (0,0)),(b39, .cells #[vi r.share,vi r.place,vi r.spot] 3 (0,0))]) (by simp) rfl rfl Tryz.call124 (fun w' hw' hX hn=>ja_ b3 D36 _ _ b39 0 [r.share,r.place,r.spot] _ _ _ w' hB36 hX hn (OneS.lit [r.share,r.place,r.spot] rfl rfl (hw'.has b39 (.cells #[vi r.share,vi r.place,vi r.spot] 3 (0,0)) (by simp))) (fun _ hm=>Nat.lt_irrefl _ (zs_ hb39 (by simp[keys] at hm ⊢;exact .inr (.inl hm)))) (by simp[idsL,hil] at hPk ⊢;omega)) (fun v40 D40 hC40 hS40=> ?_)
   obtain⟨rfl,hB40⟩:=hS40
   have hN40:New w.heap.size D40:=z1_ hC40 hN36
   refine ko @qr_ ?_
   first|with_reducible refine ks [] @qr_ ?_|refine kp @qr_ ?_
   refine Again.mk ⟨k+1,D40++ [(b7,Obj.cells (lnC r).toArray 89 (0,0)),(b35, .cells (a8 r.id.l) 86 (0,0)),(b39, .cells #[vi r.share,vi r.place,vi r.spot] 3 (0,0))]⟩ (by show lines.length - (k+1)<lines.length - k;omega) ⟨hlt,hN40.app ⟨hw7,hw35,hw39,trivial⟩, ?_⟩ rfl rfl
   show BldAt b3 (P1++qM_ (lines.take (k+1))) _
   rw[hsn]
   have:=hB40.app (Y:= [(b7,Obj.cells (lnC r).toArray 89 (0,0)),(b35, .cells (a8 r.id.l) 86 (0,0)),(b39, .cells #[vi r.share,vi r.place,vi r.spot] 3 (0,0))])
   simpa [ZJ_,idsL,j0_] using this
  ·obtain rfl:k=lines.length:=by omega
   have d1:decide ((lines.length:Int)< (lines.length:Int))=false:=decide_eq_false (by omega)
   rw[List.take_length] at hrl hB
   rw[←hmb] at hB
   have hpl: (xZ_ names sums lines).length<34359738368:=by rw[hmb,List.length_append];omega
   first|with_reducible refine ks [] (And.intro @qr_ @d1) ?_|refine kp (And.intro @qr_ @d1) ?_
   refine Ow.callX (Y:= []) (by simp) rfl rfl Tryz.call127 (fun w' hw' hX hn=>Qb_ b3 D (xZ_ names sums lines) w' hB hX hn hpl) (fun v42 D42 hC42 hS42=> ?_)
   subst hS42
   have hN42:New w.heap.size D42:=z1_ hC42 hN
   rw[List.append_nil]
   refine ko @qr_ ?_
   refine Ow.callFV rfl Tryz.call126 (fun w' hw'=>ZR_ (xZ_ names sums lines) w' (hC.newP hw' hN42) (by omega)) ?_
   refine ko @qr_ ?_
   first|with_reducible refine ks [] @qr_ ?_|refine kp @qr_ ?_
   refine⟨_,(ke @qr_),hN42, ?_⟩
   rfl
end Go.Proofs
end
section
open Go Go.Proofs Go.Sx Go.StP Go.Flo
namespace Go.Proofs
set_option maxRecDepth 10000
set_option maxHeartbeats 1000000
set_option linter.unusedSimpArgs false
abbrev Ps:=Nat×Int
def nmR (s:List UInt8) (q:Ps):List UInt8×List UInt8×Ps:=
 ((zY_ s q.1 q.2 40).1,(qw_ s (zY_ s q.1 q.2 40).2.1 (zY_ s q.1 q.2 40).2.2 4).1,(qw_ s (zY_ s q.1 q.2 40).2.1 (zY_ s q.1 q.2 40).2.2 4).2)
def kX_ (s:List UInt8):Nat→Ps→List (List UInt8)×List (List UInt8)×Ps
 |0,q=>([],[],q)
 |k+1,q=>((nmR s q).1:: (kX_ s k (nmR s q).2.2).1,(nmR s q).2.1:: (kX_ s k (nmR s q).2.2).2.1,(kX_ s k (nmR s q).2.2).2.2)
def lnR (s:List UInt8) (q:Ps):LnL×Ps:=
 (⟨vv_ (idR s q.1 q.2).1,(zx_ s (idR s q.1 q.2).2.1 (idR s q.1 q.2).2.2 40).1,(wF_ s (zx_ s (idR s q.1 q.2).2.1 (idR s q.1 q.2).2.2 40).2).1,(wF_ s (wF_ s (zx_ s (idR s q.1 q.2).2.1 (idR s q.1 q.2).2.2 40).2).2).1⟩,(wF_ s (wF_ s (zx_ s (idR s q.1 q.2).2.1 (idR s q.1 q.2).2.2 40).2).2).2)
def Qa_ (s:List UInt8):Nat→Ps→List LnL×Ps
 |0,q=>([],q)
 |k+1,q=>((lnR s q).1:: (Qa_ s k (lnR s q).2).1,(Qa_ s k (lnR s q).2).2)
def Qd_ (s:List UInt8) (q:Ps):List (List UInt8)×List (List UInt8)×Ps:=kX_ s (zx_ s q.1 q.2 40).1.toNat (zx_ s q.1 q.2 40).2
def V5_ (s:List UInt8) (q:Ps):List LnL×Ps:=Qa_ s (zx_ s q.1 q.2 8000).1.toNat (zx_ s q.1 q.2 8000).2
def vd_ (s:List UInt8) (q:Ps):List (List UInt8)×List (List UInt8)×List LnL×Ps:=((Qd_ s q).1,(Qd_ s q).2.1,V5_ s (Qd_ s q).2.2)
def MgOk (b:List UInt8):Prop:=vU_ (zi_ b).1 (vd_ (zi_ b).1 (qw_ (zi_ b).1 0 0 4).2).2.2.2.1 (vd_ (zi_ b).1 (qw_ (zi_ b).1 0 0 4).2).2.2.2.2=0∧zC_ (vd_ (zi_ b).1 (qw_ (zi_ b).1 0 0 4).2).1 (vd_ (zi_ b).1 (qw_ (zi_ b).1 0 0 4).2).2.2.1=true∧z5_ (xZ_ (vd_ (zi_ b).1 (qw_ (zi_ b).1 0 0 4).2).1 (vd_ (zi_ b).1 (qw_ (zi_ b).1 0 0 4).2).2.1 (vd_ (zi_ b).1 (qw_ (zi_ b).1 0 0 4).2).2.2.1)=b
noncomputable def Jj_ (b:List UInt8):Option (List (List UInt8)×List (List UInt8)×List LnL):=
 open Classical in if MgOk b then some ((vd_ (zi_ b).1 (qw_ (zi_ b).1 0 0 4).2).1,(vd_ (zi_ b).1 (qw_ (zi_ b).1 0 0 4).2).2.1,(vd_ (zi_ b).1 (qw_ (zi_ b).1 0 0 4).2).2.2.1) else none
theorem QM_ {b s:List UInt8} {names sums:List (List UInt8)} {lines:List LnL} {q:Ps} (hs: (zi_ b).1=s) (h:vd_ s (qw_ s 0 0 4).2=(names,sums,lines,q)):
  (vU_ s q.1 q.2=0∧zC_ names lines=true∧z5_ (xZ_ names sums lines)=b→Jj_ b=some (names,sums,lines))∧(¬ (vU_ s q.1 q.2=0∧zC_ names lines=true∧z5_ (xZ_ names sums lines)=b)→Jj_ b=none):=by
 unfold Jj_ MgOk
 rw[hs,h]
 constructor
 ·intro hc
  rw[if_pos hc]
 ·intro hc
  rw[if_neg hc]
theorem Vj_ (s:List UInt8): ∀ (k:Nat) (q:Ps),(kX_ s k q).1.length=k∧(kX_ s k q).2.1.length=k
 |0,_=>⟨rfl,rfl⟩
 |k+1,q=>by
  have:=Vj_ s k (nmR s q).2.2
  unfold kX_
  simp only[List.length_cons]
  omega
theorem agf_ (s:List UInt8) (a:Nat) (e n:Int) (hn:0≤n): ((qw_ s a e n).1.length:Int)≤n:=by
 unfold qw_
 split
 ·simpa using hn
 ·split
  ·simpa using hn
  ·split
   ·simpa using hn
   ·simp only[List.length_take,List.length_drop];omega
theorem Js_ (s:List UInt8): ∀ (k:Nat) (q:Ps),Most 40 (kX_ s k q).1∧Most 4 (kX_ s k q).2.1
 |0,_=>⟨fun _ h=>(by cases h),fun _ h=>(by cases h)⟩
 |k+1,q=>by
  obtain⟨h1,h2⟩:=Js_ s k (nmR s q).2.2
  unfold kX_
  refine⟨fun x hx=> ?_,fun x hx=> ?_⟩
  ·rcases List.mem_cons.1 hx with rfl|hx
   ·have:=aeN_ s q.1 q.2 40 (by omega)
    show(zY_ s q.1 q.2 40).1.length≤40
    omega
   ·exact h1 x hx
  ·rcases List.mem_cons.1 hx with rfl|hx
   ·have:=agf_ s (zY_ s q.1 q.2 40).2.1 (zY_ s q.1 q.2 40).2.2 4 (by omega)
    show(qw_ s (zY_ s q.1 q.2 40).2.1 (zY_ s q.1 q.2 40).2.2 4).1.length≤4
    omega
   ·exact h2 x hx
theorem Most.mono {n m:Nat} {l:List (List UInt8)} (h:Most n l) (hm:n≤m):Most m l:=fun s hs=>Nat.le_trans (h s hs) hm
theorem Most.short {n:Nat} {l:List (List UInt8)} (h:Most n l) (hn:n<1099511627776):aaV_ l:=fun s hs=>Nat.lt_of_le_of_lt (h s hs) hn
end Go.Proofs
end
