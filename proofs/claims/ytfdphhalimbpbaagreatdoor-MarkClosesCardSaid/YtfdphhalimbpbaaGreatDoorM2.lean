/-
  Part 2 of the walk: contracts of the functions that the law reaches, and the calculus they stand on.
  No conditions.
-/
import Derived.Test.YtfdphhalimbpbaaGreatDoorM1
import Derived.Lib.Strings
import Derived.Lib.Bytealg
section
open Go Go.Proofs Go.Sx Go.StP
namespace Go.Proofs
set_option maxRecDepth 10000
set_option maxHeartbeats 4000000
set_option linter.unusedSimpArgs false
def swp {α:Type} (a x m y c:List α) (i:Nat):List α:=a++ ((y.take i++x.drop i)++ (m++ ((x.take i++y.drop i)++c)))
section
variable {α:Type} {a x m y c:List α} {i k:Nat} {z:α}
theorem Hl (hx:x.length=k) (hy:y.length=k) (hi:i≤k): (swp a x m y c i).length=a.length+k+m.length+k+c.length:=by
 unfold swp;simp only[List.length_append,List.length_take,List.length_drop];omega
theorem Ic (hx:x.length=k) (hy:y.length=k) (hi:i<k) {n:Nat} (hn:n=a.length+i): (swp a x m y c i).getD n z=x.getD i z:=by
 subst hn
 unfold swp
 rw[drop_cons (z:=z) (l:=x) (by omega),List.append_assoc,List.cons_append,←List.append_assoc]
 exact at_0 _ (by simp only[List.length_append,List.length_take];omega)
theorem Ii (hx:x.length=k) (hy:y.length=k) (hi:i<k) {n:Nat} (hn:n=a.length+k+m.length+i): (swp a x m y c i).getD n z=y.getD i z:=by
 subst hn
 unfold swp
 rw[drop_cons (z:=z) (l:=y) (by omega),List.append_assoc (x.take i),List.cons_append,←List.append_assoc,←List.append_assoc,←List.append_assoc]
 exact at_0 _ (by simp only[List.length_append,List.length_take,List.length_drop];omega)
theorem su {l r:List α} (u v:α) {n:Nat} (h:n=l.length): (l++u::r).set n v=l++v::r:=by
 subst h
 rw[List.set_append_right _ _ (Nat.le_refl _),Nat.sub_self,List.set_cons_zero]
theorem ES (hx:x.length=k) (hy:y.length=k) (hi:i<k) {n n':Nat} (hn:n=a.length+i) (g6:n'=a.length+k+m.length+i):
  ((swp a x m y c i).set n (y.getD i z)).set n' (x.getD i z)=swp a x m y c (i+1):=by
 subst hn g6
 have e:swp a x m y c i=(a++y.take i)++ (x.getD i z:: (x.drop (i+1)++ (m++ (x.take i++ (y.getD i z:: (y.drop (i+1)++c)))))):=by
  unfold swp
  rw[drop_cons (z:=z) (l:=y) (by omega),drop_cons (z:=z) (l:=x) (by omega)]
  simp only[List.append_assoc,List.cons_append]
 have e':swp a x m y c (i+1)=(a++y.take i)++ (y.getD i z:: (x.drop (i+1)++ (m++ (x.take i++ (x.getD i z:: (y.drop (i+1)++c)))))):=by
  unfold swp
  rw[take_snoc (z:=z) (l:=y) (by omega),take_snoc (z:=z) (l:=x) (by omega)]
  simp only[List.append_assoc,List.cons_append,List.nil_append]
 rw[e,e',su _ _ (by simp only[List.length_append,List.length_take];omega)]
 have e2: ∀u v:α,(a++y.take i)++ (u:: (x.drop (i+1)++ (m++ (x.take i++ (v:: (y.drop (i+1)++c))))))=((a++y.take i)++ (u:: (x.drop (i+1)++ (m++x.take i))))++ (v:: (y.drop (i+1)++c)):=fun u v=>by
  simp only[List.append_assoc,List.cons_append]
 rw[e2,e2,su _ _ (by simp only[List.length_append,List.length_take,List.length_cons,List.length_drop];omega)]
end
abbrev cI (rest:List Value) (d:List EntL):Obj:=rowO aD 117 rest d
theorem ns {rest:List Value} {d:List EntL} (k:Nat) (hk:k<d.length):aS (some (true,34)) (some (cI rest d)) (k*34)=some (.agg (aD (d.getD k ent0)).toArray):=yP (z:=ent0) eB k hk
theorem rH {rest:List Value} {d:List EntL} (k:Nat) (x:EntL) (a:Bool) (hk:k<d.length):aZ (some (a,34)) (some (cI rest d)) (k*34) (.agg (aD x).toArray)=some (cI rest (d.set k x)):=DT eB vW k x a hk
set_option linter.defProp false
def fC:=And.intro (And.intro (@ns) (@rH)) (And.intro (@j0) (And.intro (@iR) (@gM)))
theorem KJ (rb n c:Nat) (A X M Y C:List EntL) (rest:List Value) (fv:Value) (a b k:Nat) (w:World) (hX:X.length=k) (hY:Y.length=k) (ha:A.length=a) (hb:b=a+k+M.length) (hn:n=a+k+M.length+k+C.length) (hs:n<1000000)
  (ho:w.heap[rb]? =some (cI rest (A++ (X++ (M++ (Y++C)))))):
  Rets Tryz.prog 317 #[vsl rb 0 n c,vi a,vi b,vi k,fv] w (fun v D=> ∃o,D= [(rb,o)]∧v= .tuple #[]∧o=cI rest (A++ (Y++ (M++ (X++C))))):=by
 refine Rets.enterM Tryz.func317 rfl (rs:= []) Tryz.results317 Tryz.ntmps317 ho ?_
 refine kf ?_
 first|with_reducible refine ks [] @fC ?_|refine kp @fC ?_
 subst ha hb hn
 refine Cw.loopG (G:=Nat) [11,12,13,16,17,18,19,20,21,22,23,24,25,26,27,28,29,30,31,32,33,34,35,36,37,14,15,10] (fun g=> [(10,vi g)]) (fun g=> [(rb,cI rest (swp A X M Y C g))]) (fun g=>g≤k) (fun g=>k - g) 0 rfl rfl ?_ ?_
 ·exact Nat.zero_le _
 ·intro g j hg
  refine kv ?_
  by_cases aC:g<k
  ·first|with_reducible refine ks [] @fC ?_|refine kp @fC ?_
   have hl:=Hl (a:=A) (m:=M) (c:=C) hX hY hg
   have h1:=Ic (a:=A) (m:=M) (c:=C) (z:=ent0) hX hY aC rfl
   have h2:=Ii (a:=A) (m:=M) (c:=C) (z:=ent0) hX hY aC rfl
   refine Cw.regionS [rb] [0,1,2,3,4,5,6,7,8,9,10,11,12,14,15,16,17,18,13,19,20,21,22,23] [21,23] (by kernel_rfl) (by kernel_rfl) (by kernel_rfl) ?_
   simp only[aN, ↓aM, ↓aH, ↓aL, ↓aK,aI]
   refine kq @fC ?_
   refine Ow.store rfl rfl rfl (ke @fC) ?_
   refine ko @fC ?_
   rw[h1,h2]
   refine Again.mk (g+1) (by omega) (by omega) ?_ rfl
   rw[ES hX hY aC rfl rfl]
  ·obtain rfl:g=k:=by omega
   first|with_reducible refine ks [] @fC ?_|refine kp @fC ?_
   refine⟨_,_,_,(ke @fC),rfl,trivial, ?_⟩
   exact⟨rfl,by unfold swp;rw[List.take_of_length_le (by omega),List.take_of_length_le (by omega),List.drop_eq_nil_of_le (by omega),List.drop_eq_nil_of_le (by omega),List.append_nil,List.append_nil]⟩
structure RotG where
 A:List EntL
 U:List EntL
 V:List EntL
 B:List EntL
theorem oO {α:Type} (l:List α) {k:Nat} (h:k≤l.length): ∃a b,l=a++b∧a.length=k:=⟨l.take k,l.drop k,(List.take_append_drop k l).symm,by rw[List.length_take];omega⟩
theorem zw (rb n c:Nat) (A U V B:List EntL) (rest:List Value) (fv:Value) (a m b:Nat) (w:World) (hU:0<U.length) (hV:0<V.length) (ha:A.length=a) (hm:m=a+U.length) (hb:b=m+V.length) (hn:n=b+B.length) (hs:n<1000000)
  (ho:w.heap[rb]? =some (cI rest (A++ (U++ (V++B))))):
  Rets Tryz.prog 301 #[vsl rb 0 n c,vi a,vi m,vi b,fv] w (fun v D=> ∃o,D= [(rb,o)]∧v= .tuple #[]∧o=cI rest (A++ (V++ (U++B)))):=by
 have e1: (m:Int) - a=(U.length:Nat):=by omega
 have e2: (b:Int) - m=(V.length:Nat):=by omega
 refine Rets.enterM Tryz.func301 rfl (rs:= []) Tryz.results301 Tryz.ntmps301 ho ?_
 refine kf ?_
 first|with_reducible refine ks [] (And.intro @fC (And.intro @e1 (@e2))) ?_|refine kp (And.intro @fC (And.intro @e1 (@e2))) ?_
 refine Cw.loopG (G:=RotG) [18,19,20,21,22,23,24,25,26,27,28,29,30,31,32,33,34,10,35,36,37,38,39,40,41,42,43,44,45,46,47,48,49,11] (fun g=> [(10,vi g.U.length),(11,vi g.V.length)]) (fun g=> [(rb,cI rest (g.A++ (g.U++ (g.V++g.B))))]) (fun g=>0<g.U.length∧0<g.V.length∧g.A.length+g.U.length=m∧g.A++ (g.V++ (g.U++g.B))=A++ (V++ (U++B))∧m+g.V.length+g.B.length=n) (fun g=>g.U.length+g.V.length) ⟨A,U,V,B⟩ rfl rfl ?_ ?_
 ·exact⟨hU,hV,by show A.length+U.length=m;omega,rfl,by show m+V.length+B.length=n;omega⟩
 ·intro g j hg
  refine kv ?_
  obtain⟨A',U',V',B'⟩:=g
  obtain⟨hu,hv,hA,hT,hN⟩:=hg
  dsimp only at hu hv hA hT hN ⊢
  have e3: (m:Int) - U'.length=(A'.length:Nat):=by omega
  by_cases h1:U'.length=V'.length
  ·first|with_reducible refine ks [] (And.intro @fC @e3) ?_|refine kp (And.intro @fC @e3) ?_
   refine Ow.callM rfl rfl Tryz.call317 (by simp[keys]) (fun w' a7=>KJ rb n c A' U' [] V' B' rest fv A'.length m U'.length w' rfl h1.symm rfl (by simp only[List.length_nil];omega) (by simp only[List.length_nil];omega) hs (a7.has _ _ List.mem_cons_self)) ?_
   refine ko @fC ?_
   refine⟨_,_,_,(ke @fC),rfl,trivial, ?_⟩
   exact⟨rfl,congrArg (cI rest) hT⟩
  ·by_cases h2:V'.length<U'.length
   ·obtain⟨U1,U2,rfl,Mr⟩:=oO U' (Nat.le_of_lt h2)
    rw[List.length_append] at hA h2 hu h1
    have e4: (m:Int) - (U1++U2).length=(A'.length:Nat):=by rw[List.length_append];omega
    first|with_reducible refine ks [] (And.intro @fC @e4) ?_|refine kp (And.intro @fC @e4) ?_
    refine Ow.callM rfl rfl Tryz.call317 (by simp[keys]) (fun w' a7=>KJ rb n c A' U1 U2 V' B' rest fv A'.length m V'.length w' Mr rfl rfl (by omega) (by omega) hs (by rw[←List.append_assoc U1];exact a7.has _ _ List.mem_cons_self)) ?_
    have e5: ((U1++U2).length:Int) - (V'.length:Int)=(U2.length:Nat):=by rw[List.length_append];omega
    refine ko (And.intro @fC @e5) ?_
    refine Again.mk ⟨A'++V',U2,U1,B'⟩ (by simp only[List.length_append];omega) ⟨by show 0<U2.length;omega,by show 0<U1.length;omega,by simp only[List.length_append];omega, ?_,by show m+U1.length+B'.length=n;omega⟩ ?_ ?_
    ·rw[←hT];simp only[List.append_assoc]
    ·simp only[List.append_assoc]
    ·dsimp only;rw[Mr];rfl
   ·obtain⟨V1,V2,rfl,Qt⟩:=oO V' (show V'.length - U'.length≤V'.length by omega)
    rw[List.length_append] at hN h2 hv h1 Qt
    have e4: (m:Int)+ (V1++V2).length - U'.length=((A'.length+U'.length+V1.length:Nat):Int):=by rw[List.length_append];omega
    first|with_reducible refine ks [] (And.intro @fC (And.intro @e3 (@e4))) ?_|refine kp (And.intro @fC (And.intro @e3 (@e4))) ?_
    refine Ow.callM rfl rfl Tryz.call317 (by simp[keys]) (fun w' a7=>KJ rb n c A' U' V1 V2 B' rest fv A'.length (A'.length+U'.length+V1.length) U'.length w' rfl (by omega) rfl (by omega) (by omega) hs (by rw[←List.append_assoc V1];exact a7.has _ _ List.mem_cons_self)) ?_
    have e5: ((V1++V2).length:Int) - (U'.length:Int)=(V1.length:Nat):=by rw[List.length_append];omega
    have e6:V2.length=U'.length:=by omega
    refine ko (And.intro @fC @e5) ?_
    refine Again.mk ⟨A',V2,V1,U'++B'⟩ (by simp only[List.length_append];omega) ⟨by show 0<V2.length;omega,by show 0<V1.length;omega,by show A'.length+V2.length=m;omega, ?_,by simp only[List.length_append];omega⟩ ?_ ?_
    ·rw[←hT];simp only[List.append_assoc]
    ·simp only[List.append_assoc]
    ·dsimp only;rw[e6];rfl
end Go.Proofs
end
section
open Go Go.Proofs Go.Sx Go.StP
namespace Go.Proofs
set_option maxRecDepth 10000
set_option maxHeartbeats 4000000
set_option linter.unusedSimpArgs false
abbrev ltE (a b:EntL):Bool:=StP.lt EntL.name a b
abbrev fi (l:List EntL):Prop:=StP.Sorted EntL.name l
abbrev StE (l l':List EntL):Prop:=StP.St EntL.name l l'
theorem o7 (a b:EntL):decide (cmpE a b<0)=ltE a b:=by
 unfold cmpE cmpS ltE StP.lt
 cases h:ltB a.name b.name
 ·rw[if_neg (by simp)]
  split<;>rfl
 ·rw[if_pos rfl];rfl
structure InsG where
 S:List EntL
 R:List EntL
set_option linter.defProp false
def dy:=And.intro (And.intro (@ns) (And.intro (@rH) (@j0))) (And.intro (@iR) (And.intro (@gM) (@o7)))
theorem NY (rb n c:Nat) (A M B:List EntL) (rest:List Value) (a b:Nat) (w:World) (ha:A.length=a) (hb:b=a+M.length) (hn:n=b+B.length) (hs:n<1000000)
  (ho:w.heap[rb]? =some (cI rest (A++ (M++B)))):
  Rets Tryz.prog 260 #[vsl rb 0 n c,vi a,vi b, .func (.func 121) #[] #[]] w (fun v D=> ∃o,D= [(rb,o)]∧v= .tuple #[]∧ ∃M',o=cI rest (A++ (M'++B))∧M'.length=M.length∧fi M'∧StE M M'):=by
 cases M with
 |nil=>
  simp only[List.length_nil,Nat.add_zero] at hb
  subst hb
  refine Rets.enterM Tryz.func260 rfl (rs:= []) Tryz.results260 Tryz.ntmps260 ho ?_
  refine kf ?_
  first|with_reducible refine ks [] @dy ?_|refine kp @dy ?_
  refine Cw.loopG (G:=Unit) [12,13,14,17,9,18,19,20,21,22,23,24,25,26,27,28,29,30,31,32,33,34,37,38,39,40,41,42,43,44,45,46,47,48,49,50,51,52,35,36,15,16,8] (fun g=> [(8,vi (b+1))]) (fun g=> [(rb,cI rest (A++ ([]++B)))]) (fun g=>True) (fun g=>0) () rfl rfl ?_ ?_
  ·trivial
  ·intro g j hg
   refine kv ?_
   first|with_reducible refine ks [] @dy ?_|refine kp @dy ?_
   refine⟨_,_,_,(ke @dy),rfl,trivial, ?_⟩
   exact⟨rfl,[],rfl,rfl,List.Pairwise.nil,StP.St.refl _ _⟩
 |cons x0 M=>
  refine Rets.enterM Tryz.func260 rfl (rs:= []) Tryz.results260 Tryz.ntmps260 ho ?_
  refine kf ?_
  first|with_reducible refine ks [] @dy ?_|refine kp @dy ?_
  have e0: (a:Int)+1=((a+ [x0].length:Nat):Int):=by simp
  rw[e0]
  refine Cw.loopG (G:=InsG) [12,13,14,17,9,18,19,20,21,22,23,24,25,26,27,28,29,30,31,32,33,34,37,38,39,40,41,42,43,44,45,46,47,48,49,50,51,52,35,36,15,16,8] (fun g=> [(8,vi (a+g.S.length:Nat))]) (fun g=> [(rb,cI rest (A++ (g.S++ (g.R++B))))]) (fun g=> ∃M1,x0::M=M1++g.R∧g.S.length=M1.length∧fi g.S∧StE M1 g.S) (fun g=>g.R.length) ⟨[x0],M⟩ rfl rfl ?_ ?_
  ·exact⟨[x0],rfl,rfl,List.pairwise_singleton _ _,StP.St.refl _ _⟩
  ·intro g j hg
   refine kv ?_
   obtain⟨S,R⟩:=g
   obtain⟨M1,hM,cz,bu,gG⟩:=hg
   dsimp only at hM cz bu gG ⊢
   have aQ:=congrArg List.length hM
   rw[List.length_cons,List.length_append] at aQ
   rw[List.length_cons] at hb
   cases R with
   |nil=>
    rw[List.length_nil] at aQ
    first|with_reducible refine ks [] @dy ?_|refine kp @dy ?_
    refine⟨_,_,_,(ke @dy),rfl,trivial, ?_⟩
    exact⟨rfl,S,rfl,by show S.length=M.length+1;omega,bu,by rw[show x0::M=M1 from by rw[hM,List.append_nil]];exact gG⟩
   |cons x R=>
    rw[List.length_cons] at aQ
    have e1:A++ (S++ (x::R++B))=cN A S x (R++B) S.length:=by rw[LK _ _ _ _ (Nat.le_refl _)];simp only[List.append_assoc,List.cons_append,List.nil_append]
    rw[e1]
    first|with_reducible refine ks [] @dy ?_|refine kp @dy ?_
    refine Cw.loopG (G:=Nat) [18,19,20,21,22,23,24,25,26,27,28,29,30,31,32,33,34,37,38,39,40,41,42,43,44,45,46,47,48,49,50,51,52,35,36,9] (fun g=> [(9,vi (a+g:Nat))]) (fun g=> [(rb,cI rest (cN A S x (R++B) g))]) (fun g=>g≤S.length∧(S.length≤g∨ltE x (S.getD g ent0)=true)) (fun g=>g) S.length rfl rfl ?_ ?_
    ·exact⟨Nat.le_refl _, .inl (Nat.le_refl _)⟩
    ·intro k jk hk
     refine kv ?_
     obtain⟨bk,ap⟩:=hk
     have hl:=vN A S x (R++B) k
     rw[List.length_append] at hl
     have done: (k=0∨ltE x (S.getD (k - 1) ent0)=false)→StE (M1++ [x]) (S.take k++x::S.drop k)∧fi (S.take k++x::S.drop k):=fun h=>by
      obtain⟨q1,q2⟩:=MH (z:=ent0) bu bk h ap
      exact⟨(StP.St.app gG (StP.St.refl _ _)).trans q2,q1⟩
     first|with_reducible refine ks [] @dy ?_|refine kp @dy ?_
     by_cases jE:k=0
     ·have e2:decide ((a:Int)< ((a+k:Nat):Int))=false:=decide_eq_false (by omega)
      refine Cw.regionS [rb] [0,1,2,3,4,5,6,7,9,10,11,12,8,13,14,15,16] [] (by kernel_rfl) (by kernel_rfl) (by kernel_rfl) ?_
      simp only[aN, ↓aM, ↓aH, ↓aL, ↓aK,aI]
      refine kq (And.intro @dy @e2) ?_
      first|with_reducible refine ks [] @dy ?_|refine kp @dy ?_
      obtain⟨d1,d2⟩:=done (.inl jE)
      refine Again.mk ⟨S.take k++x::S.drop k,R⟩ (by show R.length< (x::R).length;simp) ⟨M1++ [x],by rw[hM];simp,by simp only[List.length_append,List.length_cons,List.length_nil,List.length_take,List.length_drop];omega,d2,d1⟩ ?_ ?_
      ·rw[wZ]
      ·dsimp only
       rw[show(S.take k++x::S.drop k).length=S.length+1 by simp only[List.length_append,List.length_cons,List.length_take,List.length_drop];omega]
       rfl
     ·have e2:decide ((a:Int)< ((a+k:Nat):Int))=true:=decide_eq_true (by omega)
      refine Cw.regionS [rb] [0,1,2,3,4,5,6,7,9,10,11,12,8,13,14,15,16] [] (by kernel_rfl) (by kernel_rfl) (by kernel_rfl) ?_
      simp only[aN, ↓aM, ↓aH, ↓aL, ↓aK,aI]
      refine kq (And.intro @dy @e2) ?_
      refine Ow.callFn2 (v:=vi (cmpE x (S.getD (k - 1) ent0))) rfl rfl (by
       show Value.agg _=Value.agg (aD x).toArray
       rw[qK (z:=ent0) bk (by rw[ha])]) (by
       show Value.agg _=Value.agg (aD (S.getD (k - 1) ent0)).toArray
       rw[show k=(k - 1)+1 by omega,o8 (z:=ent0) (k:=k - 1) (by omega) (by rw[ha];omega)];rfl) Tryz.call121 (fun w' a7=>xZ x (S.getD (k - 1) ent0) w') ?_
      refine kq @dy ?_
      cases hc:ltE x (S.getD (k - 1) ent0)
      ·first|with_reducible refine ks [] @dy ?_|refine kp @dy ?_
       obtain⟨d1,d2⟩:=done (.inr hc)
       refine Again.mk ⟨S.take k++x::S.drop k,R⟩ (by show R.length< (x::R).length;simp) ⟨M1++ [x],by rw[hM];simp,by simp only[List.length_append,List.length_cons,List.length_nil,List.length_take,List.length_drop];omega,d2,d1⟩ ?_ ?_
       ·rw[wZ]
       ·dsimp only
        rw[show(S.take k++x::S.drop k).length=S.length+1 by simp only[List.length_append,List.length_cons,List.length_take,List.length_drop];omega]
        rfl
      ·first|with_reducible refine ks [] @dy ?_|refine kp @dy ?_
       obtain⟨k,rfl⟩: ∃q,k=q+1:=⟨k - 1,by omega⟩
       have h1:=qK (z:=ent0) (a:=A) (b:=R++B) (x:=x) bk (show a+ (k+1)=A.length+ (k+1) by omega)
       have h2:=o8 (z:=ent0) (a:=A) (b:=R++B) (x:=x) (k:=k) (s:=S) (by omega) (show a+k=A.length+k by omega)
       have e3:a+ (k+1) - 1=a+k:=by omega
       refine Cw.regionS [rb] [0,1,2,3,4,5,6,7,8,10,11,12,9,13,14,15,16,17] [15,17] (by kernel_rfl) (by kernel_rfl) (by kernel_rfl) ?_
       simp only[aN, ↓aM, ↓aH, ↓aL, ↓aK,aI]
       refine kq (And.intro @dy (And.intro @e3 (And.intro @h1 (@h2)))) ?_
       refine Ow.store rfl rfl rfl (ke (And.intro @dy (And.intro @e3 (And.intro @h1 (@h2))))) ?_
       refine ko (And.intro @dy (And.intro @e3 (And.intro @h1 (@h2)))) ?_
       rw[Lg (by omega),←Nat.add_assoc,Kr (z:=ent0) (by omega) (by rw[ha])]
       refine Again.mk k (by omega) ⟨by omega, .inr hc⟩ rfl ?_
       rw[show(((a+k+1:Nat):Int)) - 1=((a+k:Nat):Int) by omega]
       rfl
end Go.Proofs
end
section
open Go Go.Proofs Go.Sx Go.StP
namespace Go.Proofs
set_option maxRecDepth 10000
set_option maxHeartbeats 4000000
set_option linter.unusedSimpArgs false
theorem s_ (p q:Nat) (h:p+q<4611686018427387904):IntKind.wrap .i64 ((iP (UInt64.ofInt ((p:Int)+ (q:Int))) 1).toNat:Int)=(((p+q) / 2:Nat):Int):=by
 have e: (UInt64.ofInt ((p:Int)+ (q:Int))).toNat=p+q:=by
  have h2:UInt64.ofInt ((p:Int)+ (q:Int))=UInt64.ofNat (((p:Int)+ (q:Int))%2^64).toNat:=rfl
  rw[h2,UInt64.toNat_ofNat']
  omega
 have e2: (iP (UInt64.ofInt ((p:Int)+ (q:Int))) 1).toNat=(p+q) / 2:=by
  unfold iP
  rw[e,UInt64.toNat_ofNat',Nat.pow_one]
  omega
 rw[e2,jP _ (by omega)]
structure BsG where
 i:Nat
 j:Nat
abbrev j3:Value:= .func (.func 121) #[] #[]
def oG (rb:Nat) (A X Y B:List EntL) (rest:List Value) (v:Value) (D:a6):Prop:=
 ∃o,D= [(rb,o)]∧v= .tuple #[]∧ ∃Z,o=cI rest (A++ (Z++B))∧Z.length=X.length+Y.length∧fi Z∧StE (X++Y) Z
set_option linter.defProp false
def fg:=And.intro (And.intro (@ns) (And.intro (@rH) (@j0))) (And.intro (And.intro (@iR) (@gM)) (And.intro (@o7) (@s_)))
theorem F8 (rb n c:Nat) (A:List EntL) (x:EntL) (Y B:List EntL) (rest:List Value) (a m b:Nat) (w:World) (ha:A.length=a) (hm:m=a+1) (hb:b=m+Y.length) (hn:n=b+B.length) (hs:n<1000000) (hY:fi Y)
  (ho:w.heap[rb]? =some (cI rest (A++ ([x]++ (Y++B))))):
  Rets Tryz.prog 261 #[vsl rb 0 n c,vi a,vi m,vi b,j3] w (oG rb A [x] Y B rest):=by
 subst hb
 refine Rets.enterM Tryz.func261 rfl (rs:= []) Tryz.results261 Tryz.ntmps261 ho ?_
 refine kf ?_
 first|with_reducible refine ks [] @fg ?_|refine kp @fg ?_
 have e0:A++x:: (Y++B)=cN A Y x B 0:=by rw[CL];simp only[List.append_assoc,List.cons_append,List.nil_append]
 rw[e0]
 refine Cw.loopG (G:=BsG) [31,32,33,34,35,36,37,38,39,12,40,41,42,43,44,45,46,47,48,49,50,51,52,10,53,11] (fun g=> [(10,vi (m+g.i:Nat)),(11,vi (m+g.j:Nat))]) (fun g=> [(rb,cI rest (cN A Y x B 0))]) (fun g=>g.i≤g.j∧g.j≤Y.length∧(g.i=0∨ltE (Y.getD (g.i - 1) ent0) x=true)∧(Y.length≤g.j∨ltE (Y.getD g.j ent0) x=false)) (fun g=>g.j - g.i) ⟨0,Y.length⟩ rfl rfl ?_ ?_
 ·exact⟨Nat.zero_le _,Nat.le_refl _, .inl rfl, .inl (Nat.le_refl _)⟩
 ·intro g j hg
  refine kv ?_
  obtain⟨i,j⟩:=g
  obtain⟨h1,h2,h3,h4⟩:=hg
  dsimp only at h1 h2 h3 h4 ⊢
  by_cases jh:i<j
  ·have e1: (m+i+ (m+j)) / 2=m+ (i+j) / 2:=by omega
   have hl:=vN A Y x B 0
   first|with_reducible refine ks [] (And.intro @fg @e1) ?_|refine kp (And.intro @fg @e1) ?_
   have g1: (cN A Y x B 0).getD (m+ (i+j) / 2) ent0=Y.getD ((i+j) / 2) ent0:=G5 (Nat.zero_le _) (by omega) (by omega)
   have g2: (cN A Y x B 0).getD a ent0=x:=qK (Nat.zero_le _) (by omega)
   refine Cw.regionS [rb] [0,1,2,3,5,6,7,4,8,9,10] [] (by kernel_rfl) (by kernel_rfl) (by kernel_rfl) ?_
   simp only[aN, ↓aM, ↓aH, ↓aL, ↓aK,aI]
   refine kq (And.intro @fg (And.intro @g1 (@g2))) ?_
   refine Ow.callFn2 (v:=vi (cmpE (Y.getD ((i+j) / 2) ent0) x)) rfl rfl rfl rfl Tryz.call121 (fun w' a7=>xZ _ _ w') ?_
   refine kq @fg ?_
   cases hc:ltE (Y.getD ((i+j) / 2) ent0) x
   ·first|with_reducible refine ks [] @fg ?_|refine kp @fg ?_
    refine Again.mk ⟨i,(i+j) / 2⟩ (by show(i+j) / 2 - i<j - i;omega) ⟨by show i≤ (i+j) / 2;omega,by show(i+j) / 2≤Y.length;omega,h3, .inr hc⟩ rfl rfl
   ·first|with_reducible refine ks [] @fg ?_|refine kp @fg ?_
    refine Again.mk ⟨(i+j) / 2+1,j⟩ (by show j - ((i+j) / 2+1)<j - i;omega) ⟨by show(i+j) / 2+1≤j;omega,h2, .inr hc,h4⟩ rfl rfl
  ·obtain rfl:i=j:=by omega
   first|with_reducible refine ks [] @fg ?_|refine kp @fg ?_
   refine Cw.loopG (G:=Nat) [55,56,57,58,61,62,63,64,65,66,67,68,69,70,71,72,73,74,75,76,59,60,13] (fun g=> [(13,vi (a+g:Nat))]) (fun g=> [(rb,cI rest (cN A Y x B g))]) (fun g=>g≤i) (fun g=>i - g) 0 rfl rfl ?_ ?_
   ·exact Nat.zero_le _
   ·intro k jk hk
    refine kv ?_
    by_cases bk:k<i
    ·first|with_reducible refine ks [] @fg ?_|refine kp @fg ?_
     have hl:=vN A Y x B k
     have g1: (cN A Y x B k).getD (a+k) ent0=x:=qK (by omega) (by omega)
     have g2: (cN A Y x B k).getD (a+k+1) ent0=Y.getD k ent0:=G8 (by omega) (by omega)
     refine Cw.regionS [rb] [0,1,2,3,4,5,6,7,8,10,11,12,9,13,14,15,16,17] [15,17] (by kernel_rfl) (by kernel_rfl) (by kernel_rfl) ?_
     simp only[aN, ↓aM, ↓aH, ↓aL, ↓aK,aI]
     refine kq (And.intro @fg (And.intro @g1 (@g2))) ?_
     refine Ow.store rfl rfl rfl (ke (And.intro @fg (And.intro @g1 (@g2)))) ?_
     refine ko (And.intro @fg (And.intro @g1 (@g2))) ?_
     rw[Fi (z:=ent0) (by omega) (by omega)]
     exact Again.mk (k+1) (by omega) (by omega) rfl rfl
    ·obtain rfl:k=i:=by omega
     first|with_reducible refine ks [] @fg ?_|refine kp @fg ?_
     have hz:=OE (z:=ent0) hY h2 h3 h4
     refine⟨_,_,_,(ke @fg),rfl,trivial, ?_⟩
     exact⟨rfl,_,by rw[wZ],by simp only[List.length_append,List.length_cons,List.length_nil,List.length_take,List.length_drop];omega,hz.1,hz.2⟩
end Go.Proofs
end
section
open Go Go.Proofs Go.Sx Go.StP
namespace Go.Proofs
set_option maxRecDepth 10000
set_option maxHeartbeats 4000000
set_option linter.unusedSimpArgs false
set_option linter.defProp false
def av:=And.intro (And.intro (@ns) (And.intro (@rH) (@j0))) (And.intro (And.intro (@iR) (@gM)) (And.intro (@o7) (@s_)))
theorem C6 (rb n c:Nat) (A X:List EntL) (y:EntL) (B:List EntL) (rest:List Value) (a m b:Nat) (w:World) (ha:A.length=a) (hm:m=a+X.length) (Mu:X.length≠1) (hb:b=m+1) (hn:n=b+B.length) (hs:n<1000000) (hX:fi X)
  (ho:w.heap[rb]? =some (cI rest (A++ (X++ ([y]++B))))):
  Rets Tryz.prog 261 #[vsl rb 0 n c,vi a,vi m,vi b,j3] w (oG rb A X [y] B rest):=by
 subst hm
 refine Rets.enterM Tryz.func261 rfl (rs:= []) Tryz.results261 Tryz.ntmps261 ho ?_
 refine kf ?_
 first|with_reducible refine ks [] @av ?_|refine kp @av ?_
 have e0:A++ (X++y::B)=cN A X y B X.length:=by rw[LK _ _ _ _ (Nat.le_refl _)];simp only[List.append_assoc,List.cons_append,List.nil_append]
 rw[e0]
 refine Cw.loopG (G:=BsG) [83,84,85,86,87,88,89,90,91,16,92,93,94,95,96,97,98,99,100,101,102,103,104,105,14,106,15] (fun g=> [(14,vi (a+g.i:Nat)),(15,vi (a+g.j:Nat))]) (fun g=> [(rb,cI rest (cN A X y B X.length))]) (fun g=>g.i≤g.j∧g.j≤X.length∧(g.i=0∨ltE y (X.getD (g.i - 1) ent0)=false)∧(X.length≤g.j∨ltE y (X.getD g.j ent0)=true)) (fun g=>g.j - g.i) ⟨0,X.length⟩ rfl rfl ?_ ?_
 ·exact⟨Nat.zero_le _,Nat.le_refl _, .inl rfl, .inl (Nat.le_refl _)⟩
 ·intro g j hg
  refine kv ?_
  obtain⟨i,j⟩:=g
  obtain⟨h1,h2,h3,h4⟩:=hg
  dsimp only at h1 h2 h3 h4 ⊢
  by_cases jh:i<j
  ·have e1: (a+i+ (a+j)) / 2=a+ (i+j) / 2:=by omega
   have hl:=vN A X y B X.length
   first|with_reducible refine ks [] (And.intro @av @e1) ?_|refine kp (And.intro @av @e1) ?_
   have g1: (cN A X y B X.length).getD (a+ (i+j) / 2) ent0=X.getD ((i+j) / 2) ent0:=Eb (by omega) (by omega) (by omega)
   have g2: (cN A X y B X.length).getD (a+X.length) ent0=y:=qK (Nat.le_refl _) (by omega)
   refine Cw.regionS [rb] [0,1,2,3,5,6,7,4,8,9,10,11] [] (by kernel_rfl) (by kernel_rfl) (by kernel_rfl) ?_
   simp only[aN, ↓aM, ↓aH, ↓aL, ↓aK,aI]
   refine kq (And.intro @av (And.intro @g1 (@g2))) ?_
   refine Ow.callFn2 (v:=vi (cmpE y (X.getD ((i+j) / 2) ent0))) rfl rfl rfl rfl Tryz.call121 (fun w' a7=>xZ _ _ w') ?_
   refine kq @av ?_
   cases hc:ltE y (X.getD ((i+j) / 2) ent0)
   ·first|with_reducible refine ks [] @av ?_|refine kp @av ?_
    refine Again.mk ⟨(i+j) / 2+1,j⟩ (by show j - ((i+j) / 2+1)<j - i;omega) ⟨by show(i+j) / 2+1≤j;omega,h2, .inr hc,h4⟩ rfl rfl
   ·first|with_reducible refine ks [] @av ?_|refine kp @av ?_
    refine Again.mk ⟨i,(i+j) / 2⟩ (by show(i+j) / 2 - i<j - i;omega) ⟨by show i≤ (i+j) / 2;omega,by show(i+j) / 2≤X.length;omega,h3, .inr hc⟩ rfl rfl
  ·obtain rfl:i=j:=by omega
   first|with_reducible refine ks [] @av ?_|refine kp @av ?_
   refine Cw.loopG (G:=Nat) [108,109,110,113,114,115,116,117,118,119,120,121,122,123,124,125,126,127,128,111,112,17] (fun g=> [(17,vi (a+g:Nat))]) (fun g=> [(rb,cI rest (cN A X y B g))]) (fun g=>i≤g∧g≤X.length) (fun g=>g) X.length rfl rfl ?_ ?_
   ·exact⟨h2,Nat.le_refl _⟩
   ·intro k jk hk
    refine kv ?_
    obtain⟨bk,ap⟩:=hk
    by_cases hk:i<k
    ·obtain⟨k,rfl⟩: ∃q,k=q+1:=⟨k - 1,by omega⟩
     first|with_reducible refine ks [] @av ?_|refine kp @av ?_
     have hl:=vN A X y B (k+1)
     have g1: (cN A X y B (k+1)).getD (a+ (k+1)) ent0=y:=qK (by omega) (by omega)
     have g2: (cN A X y B (k+1)).getD (a+k) ent0=X.getD k ent0:=o8 (by omega) (by omega)
     have e3:a+ (k+1) - 1=a+k:=by omega
     refine Cw.regionS [rb] [0,1,2,3,4,5,6,7,8,10,11,12,9,13,14,15,16,17] [15,17] (by kernel_rfl) (by kernel_rfl) (by kernel_rfl) ?_
     simp only[aN, ↓aM, ↓aH, ↓aL, ↓aK,aI]
     refine kq (And.intro @av (And.intro @e3 (And.intro @g1 (@g2)))) ?_
     refine Ow.store rfl rfl rfl (ke (And.intro @av (And.intro @e3 (And.intro @g1 (@g2))))) ?_
     refine ko (And.intro @av (And.intro @e3 (And.intro @g1 (@g2)))) ?_
     rw[Lg (by omega),←Nat.add_assoc,Kr (z:=ent0) (by omega) (by omega)]
     refine Again.mk k (by omega) ⟨by omega,by omega⟩ rfl ?_
     rw[show(((a+k+1:Nat):Int)) - 1=((a+k:Nat):Int) by omega]
     rfl
    ·obtain rfl:k=i:=by omega
     first|with_reducible refine ks [] @av ?_|refine kp @av ?_
     have hz:=MH (z:=ent0) hX h2 h3 h4
     refine⟨_,_,_,(ke @av),rfl,trivial, ?_⟩
     exact⟨rfl,_,by rw[wZ],by simp only[List.length_append,List.length_cons,List.length_nil,List.length_take,List.length_drop];omega,hz.1,hz.2⟩
theorem D_x {A X C:List EntL} {h i:Nat} (hh:h<X.length) (e:i=A.length+h): (A++ (X++C)).getD i ent0=X.getD h ent0:=by
 subst e
 rw[mg (by omega),Nat.add_sub_cancel_left,uu hh]
theorem D_y {A X Y C:List EntL} {h i:Nat} (hh:h<Y.length) (e:i=A.length+X.length+h): (A++ (X++ (Y++C))).getD i ent0=Y.getD h ent0:=by
 subst e
 rw[mg (by omega),mg (by omega),uu (by omega)]
 congr 1;omega
theorem MW (q:Nat): ∀ (rb n c:Nat) (A X Y B:List EntL) (rest:List Value) (a m b:Nat) (w:World) (_ha:A.length=a) (_hm:m=a+X.length) (_hb:b=m+Y.length) (_hn:n=b+B.length) (_hs:n<1000000) (_hX:fi X) (_hY:fi Y) (_hx0:0<X.length) (_hy0:0<Y.length) (_hq:X.length+Y.length≤q)
  (_ho:w.heap[rb]? =some (cI rest (A++ (X++ (Y++B))))),
  Rets Tryz.prog 261 #[vsl rb 0 n c,vi a,vi m,vi b,j3] w (oG rb A X Y B rest):=by
 induction q with
 |zero=>intros;omega
 |succ q ih=>
  intro rb n c A X Y B rest a m b w ha hm hb hn hs hX hY T7 TA hq ho
  by_cases lA:X.length=1
  ·obtain⟨x,rfl⟩:=List.length_eq_one_iff.1 lA
   exact F8 rb n c A x Y B rest a m b w ha hm hb hn hs hY ho
  by_cases Qv:Y.length=1
  ·obtain⟨y,rfl⟩:=List.length_eq_one_iff.1 Qv
   exact C6 rb n c A X y B rest a m b w ha hm lA hb hn hs hX ho
  have e1: (m:Int) - a=(X.length:Nat):=by omega
  have e2: (b:Int) - m=(Y.length:Nat):=by omega
  refine Rets.enterM Tryz.func261 rfl (rs:= []) Tryz.results261 Tryz.ntmps261 ho ?_
  refine kf ?_
  obtain⟨mid,mR⟩: ∃q,q=(a+b) / 2:=⟨_,rfl⟩
  obtain⟨nn,Sy⟩: ∃q,q=mid+m:=⟨_,rfl⟩
  have e3: (mid:Int)+ (m:Int)=(nn:Nat):=by omega
  have e5: (nn:Int) - 1=((nn - 1:Nat):Int):=by omega
  have hl: (A++ (X++ (Y++B))).length=n:=by simp only[List.length_append];omega
  ((try with_reducible refine Cw.go [1000027] ?_);(try simp(disch:=(first|assumption|omega| (simp only[ac,ab,UInt64.reduceToNat];try omega))) only[↓Sx.S0,Sx.S1,Tryz.fx,av,Nat.reduceAdd,Nat.reducePow,Int.reducePow,Nat.reduceBEq, ↓reduceIte,UInt8.reduceToNat,UInt16.reduceToNat,UInt32.reduceToNat,UInt64.reduceToNat,Int.reduceToNat,e1,e2,←mR,e3,e5]))
  refine Cw.cut (G:=BsG) 220 (fun g=> [(0,vsl rb 0 n c),(1,vi a),(2,vi m),(3,vi b),(4,j3),(18,vi mid),(19,vi nn),(20,vi g.i),(21,vi g.j)]) (fun g=> [(rb,cI rest (A++ (X++ (Y++B))))]) (fun g=>g.i≤g.j∧g.j≤m∧nn≤b+g.i∧m+g.j≤nn∧a≤g.i∧(g.i=a∨nn=b+g.i)∧(g.j=m∨m+g.j=nn)) ?_ ?_
  ·by_cases Rh:mid<m
   ·have e4: (nn:Int) - (b:Int)=((nn - b:Nat):Int):=by omega
    first|with_reducible refine ks [] (And.intro @av @e4) ?_|refine kp (And.intro @av @e4) ?_
    exact CutM.mk ⟨nn - b,mid⟩ ⟨by show nn - b≤mid;omega,by show mid≤m;omega,by show nn≤b+ (nn - b);omega,by show m+mid≤nn;omega,by show a≤nn - b;omega, .inr (by show nn=b+ (nn - b);omega), .inr (by show m+mid=nn;omega)⟩ rfl rfl
   ·first|with_reducible refine ks [] @av ?_|refine kp @av ?_
    exact CutM.mk ⟨a,m⟩ ⟨by show a≤m;omega,by show m≤m;omega,by show nn≤b+a;omega,by show m+m≤nn;omega,by show a≤a;omega, .inl rfl, .inl rfl⟩ rfl rfl
  ·intro g j hg
   simp only[oI,oM,pin,an,ao,Nat.reduceAdd]
   obtain⟨s0,r0⟩:=g
   obtain⟨f1,f2,f3,f4,f5,f6,f7⟩:=hg
   dsimp only at f1 f2 f3 f4 f5 f6 f7 ⊢
   first|with_reducible refine ks [1000039,1000041] (And.intro @av @e5) ?_|refine kp (And.intro @av @e5) ?_
   refine Cw.loopG (G:=BsG) [149,150,151,152,153,154,155,156,157,23,158,159,160,161,162,163,164,165,166,167,168,169,170,171,172,173,20,174,21] (fun g=> [(20,vi g.i),(21,vi g.j)]) (fun g=> [(rb,cI rest (A++ (X++ (Y++B))))]) (fun g=>s0≤g.i∧g.i≤g.j∧g.j≤r0∧(g.i=s0∨ltE ((A++ (X++ (Y++B))).getD (nn - g.i) ent0) ((A++ (X++ (Y++B))).getD (g.i - 1) ent0)=false)∧(g.j=r0∨ltE ((A++ (X++ (Y++B))).getD (nn - 1 - g.j) ent0) ((A++ (X++ (Y++B))).getD g.j ent0)=true)) (fun g=>g.j - g.i) ⟨s0,r0⟩ rfl rfl ?_ ?_
   ·exact⟨Nat.le_refl _,f1,Nat.le_refl _, .inl rfl, .inl rfl⟩
   ·intro g j hg
    refine kv ?_
    obtain⟨i,j⟩:=g
    obtain⟨h1,h2,h3,h4,h5⟩:=hg
    dsimp only at h1 h2 h3 h4 h5 ⊢
    by_cases jh:i<j
    ·obtain⟨h,hh⟩: ∃q,q=(i+j) / 2:=⟨_,rfl⟩
     have e6: ((nn - 1:Nat):Int) - (h:Int)=((nn - 1 - h:Nat):Int):=by omega
     ((try with_reducible refine Cw.go [] ?_);(try simp(disch:=(first|assumption|omega| (simp only[ac,ab,UInt64.reduceToNat];try omega))) only[↓Sx.S0,Sx.S1,Tryz.fx,av,Nat.reduceAdd,Nat.reducePow,Int.reducePow,Nat.reduceBEq, ↓reduceIte,UInt8.reduceToNat,UInt16.reduceToNat,UInt32.reduceToNat,UInt64.reduceToNat,Int.reduceToNat,←hh]))
     refine Cw.regionS [rb] [0,1,2,3,4,5,7,8,9,6,10,11,12,13] [] (by kernel_rfl) (by kernel_rfl) (by kernel_rfl) ?_
     simp only[aN, ↓aM, ↓aH, ↓aL, ↓aK,aI]
     refine kq (And.intro @av @e6) ?_
     refine Ow.callFn2 (v:=vi (cmpE ((A++ (X++ (Y++B))).getD (nn - 1 - h) ent0) ((A++ (X++ (Y++B))).getD h ent0))) rfl rfl rfl rfl Tryz.call121 (fun w' a7=>xZ _ _ w') ?_
     refine kq @av ?_
     cases hc:ltE ((A++ (X++ (Y++B))).getD (nn - 1 - h) ent0) ((A++ (X++ (Y++B))).getD h ent0)
     ·first|with_reducible refine ks [] @av ?_|refine kp @av ?_
      refine Again.mk ⟨h+1,j⟩ (by show j - (h+1)<j - i;omega) ⟨by show s0≤h+1;omega,by show h+1≤j;omega,h3, .inr ?_,h5⟩ rfl rfl
      show ltE ((A++ (X++ (Y++B))).getD (nn - (h+1)) ent0) ((A++ (X++ (Y++B))).getD (h+1 - 1) ent0)=false
      rw[show nn - (h+1)=nn - 1 - h by omega,Nat.add_sub_cancel];exact hc
     ·first|with_reducible refine ks [] @av ?_|refine kp @av ?_
      refine Again.mk ⟨i,h⟩ (by show h - i<j - i;omega) ⟨h1,by show i≤h;omega,by show h≤r0;omega,h4, .inr hc⟩ rfl rfl
    ·obtain rfl:i=j:=by omega
     obtain⟨ix,Sr⟩: ∃q,q=i - a:=⟨_,rfl⟩
     obtain⟨jy,Su⟩: ∃q,q=nn - i - m:=⟨_,rfl⟩
     have q1:jy=0∨X.length≤ix∨ltE (Y.getD (jy - 1) ent0) (X.getD ix ent0)=true:=by
      by_cases c1:jy=0
      ·exact .inl c1
      by_cases c2:X.length≤ix
      ·exact .inr (.inl c2)
      rcases h5 with h5|h5
      ·omega
      ·rw[D_y (h:=jy - 1) (by omega) (by omega),D_x (h:=ix) (by omega) (by omega)] at h5
       exact .inr (.inr h5)
     have q2:ix=0∨Y.length≤jy∨ltE (Y.getD jy ent0) (X.getD (ix - 1) ent0)=false:=by
      by_cases c1:ix=0
      ·exact .inl c1
      by_cases c2:Y.length≤jy
      ·exact .inr (.inl c2)
      rcases h4 with h4|h4
      ·omega
      ·rw[D_y (h:=jy) (by omega) (by omega),D_x (h:=ix - 1) (by omega) (by omega)] at h4
       exact .inr (.inr h4)
     have Jw:=fun x1 x2=>Cn (z:=ent0) (x1:=x1) (x2:=x2) hX hY (show ix≤X.length by omega) (show jy≤Y.length by omega) q1 q2
     have sX1:fi (X.take ix):=StP.Sorted.left (b:=X.drop ix) (by rw[List.take_append_drop];exact hX)
     have sX2:fi (X.drop ix):=StP.Sorted.right (a:=X.take ix) (by rw[List.take_append_drop];exact hX)
     have sY1:fi (Y.take jy):=StP.Sorted.left (b:=Y.drop jy) (by rw[List.take_append_drop];exact hY)
     have sY2:fi (Y.drop jy):=StP.Sorted.right (a:=Y.take jy) (by rw[List.take_append_drop];exact hY)
     have K9:A++ (X++ (Y++B))=A++ (X.take ix++ (X.drop ix++ (Y.take jy++ (Y.drop jy++B)))):=by
      rw[←List.append_assoc (X.take ix),List.take_append_drop,←List.append_assoc (Y.take jy),List.take_append_drop]
     have lX1: (X.take ix).length=ix:=by rw[List.length_take];omega
     have lX2: (X.drop ix).length=m - i:=by rw[List.length_drop];omega
     have lY1: (Y.take jy).length=jy:=by rw[List.length_take];omega
     have lY2: (Y.drop jy).length=b - m - jy:=by rw[List.length_drop];omega
     have e7: (nn:Int) - (i:Int)=((m+jy:Nat):Int):=by omega
     first|with_reducible refine ks [] (And.intro @av @e7) ?_|refine kp (And.intro @av @e7) ?_
     rw[K9]
     generalize X.take ix=X1 at*
     generalize X.drop ix=X2 at*
     generalize Y.take jy=Y1 at*
     generalize Y.drop jy=Y2 at*
     have em:mid=i+jy:=by omega
     refine Cw.cut (G:=Unit) 220 (fun g=> [(0,vsl rb 0 n c),(1,vi a),(2,vi m),(3,vi b),(4,j3),(18,vi mid),(20,vi i),(24,vi (m+jy:Nat))]) (fun g=> [(rb,cI rest (A++ (X1++ (Y1++ (X2++ (Y2++B))))))]) (fun g=>True) ?_ ?_
     ·by_cases c1:i<m
      ·have d1:decide ((i:Int)< (m:Int))=true:=decide_eq_true (by omega)
       by_cases c2:0<jy
       ·have d2:decide ((m:Int)< ((m+jy:Nat):Int))=true:=decide_eq_true (by omega)
        first|with_reducible refine ks [] (And.intro @av (And.intro @d1 (@d2))) ?_|refine kp (And.intro @av (And.intro @d1 (@d2))) ?_
        refine Ow.callM rfl rfl Tryz.call301 (by simp[keys]) (fun w' a7=>zw rb n c (A++X1) X2 Y1 (Y2++B) rest j3 i m (m+jy) w' (by omega) (by omega) (by rw[List.length_append];omega) (by omega) (by omega) (by rw[List.length_append];omega) hs (by rw[List.append_assoc];exact a7.has _ _ List.mem_cons_self)) ?_
        refine ko @av ?_
        exact CutM.mk () trivial (by simp only[List.append_assoc]) rfl
       ·have d2:decide ((m:Int)< ((m+jy:Nat):Int))=false:=decide_eq_false (by omega)
        first|with_reducible refine ks [] (And.intro @av (And.intro @d1 (@d2))) ?_|refine kp (And.intro @av (And.intro @d1 (@d2))) ?_
        obtain rfl:Y1= []:=List.eq_nil_of_length_eq_zero (by omega)
        exact CutM.mk () trivial (by simp only[List.nil_append]) rfl
      ·have d1:decide ((i:Int)< (m:Int))=false:=decide_eq_false (by omega)
       first|with_reducible refine ks [] (And.intro @av @d1) ?_|refine kp (And.intro @av @d1) ?_
       obtain rfl:X2= []:=List.eq_nil_of_length_eq_zero (by omega)
       exact CutM.mk () trivial (by simp only[List.nil_append]) rfl
     ·intro u ju hu
      simp only[oI,oM,pin,an,ao,Nat.reduceAdd]
      first|with_reducible refine ks [1000041,1000043] @av ?_|refine kp @av ?_
      refine Cw.cut (G:=(List EntL)) 220 (fun g=> [(0,vsl rb 0 n c),(3,vi b),(4,j3),(18,vi mid),(24,vi (m+jy:Nat))]) (fun g=> [(rb,cI rest (A++ (g++ (X2++ (Y2++B)))))]) (fun g=>g.length=ix+jy∧fi g∧StE (X1++Y1) g) ?_ ?_
      ·by_cases c1:a<i
       ·have d1:decide ((a:Int)< (i:Int))=true:=decide_eq_true (by omega)
        by_cases c2:0<jy
        ·have d2:decide ((i:Int)< (mid:Int))=true:=decide_eq_true (by omega)
         first|with_reducible refine ks [] (And.intro @av (And.intro @d1 (@d2))) ?_|refine kp (And.intro @av (And.intro @d1 (@d2))) ?_
         refine Ow.callE rfl rfl Tryz.call261 (by simp[keys]) (fun w' a7=>ih rb n c A X1 Y1 (X2++ (Y2++B)) rest a i mid w' ha (by omega) (by omega) (by simp only[List.length_append];omega) hs sX1 sY1 (by omega) (by omega) (by omega) (a7.has _ _ List.mem_cons_self)) (fun v1 o1 cz=> ?_)
         obtain⟨rfl,Z1,rfl,z1,z2,z3⟩:=cz
         refine ko @av ?_
         exact CutM.mk Z1 ⟨by omega,z2,z3⟩ rfl rfl
        ·have d2:decide ((i:Int)< (mid:Int))=false:=decide_eq_false (by omega)
         first|with_reducible refine ks [] (And.intro @av (And.intro @d1 (@d2))) ?_|refine kp (And.intro @av (And.intro @d1 (@d2))) ?_
         obtain rfl:Y1= []:=List.eq_nil_of_length_eq_zero (by omega)
         exact CutM.mk X1 ⟨by omega,sX1,by rw[List.append_nil];exact StP.St.refl _ _⟩ rfl rfl
       ·have d1:decide ((a:Int)< (i:Int))=false:=decide_eq_false (by omega)
        first|with_reducible refine ks [] (And.intro @av @d1) ?_|refine kp (And.intro @av @d1) ?_
        obtain rfl:X1= []:=List.eq_nil_of_length_eq_zero (by omega)
        exact CutM.mk Y1 ⟨by omega,sY1,StP.St.refl _ _⟩ (by simp only[List.nil_append]) rfl
      ·intro Z1 jZ1 Qy
       simp only[oI,oM,pin,an,ao,Nat.reduceAdd]
       obtain⟨z1,z2,z3⟩:=Qy
       by_cases c1:i<m
       ·have d1:decide ((mid:Int)< ((m+jy:Nat):Int))=true:=decide_eq_true (by omega)
        by_cases c2:m+jy<b
        ·have d2:decide (((m+jy:Nat):Int)< (b:Int))=true:=decide_eq_true (by omega)
         first|with_reducible refine ks [] (And.intro @av (And.intro @d1 (@d2))) ?_|refine kp (And.intro @av (And.intro @d1 (@d2))) ?_
         refine Ow.callE rfl rfl Tryz.call261 (by simp[keys]) (fun w' a7=>ih rb n c (A++Z1) X2 Y2 B rest mid (m+jy) b w' (by rw[List.length_append];omega) (by omega) (by omega) hn hs sX2 sY2 (by omega) (by omega) (by omega) (by rw[List.append_assoc];exact a7.has _ _ List.mem_cons_self)) (fun v2 o2 bu=> ?_)
         obtain⟨rfl,Z2,rfl,y1,y2,y3⟩:=bu
         obtain⟨r1,r2⟩:=Jw Z1 Z2 z2 z3 y2 y3
         refine ko @av ?_
         refine⟨_,_,_,(ke @av),rfl,trivial, ?_⟩
         exact⟨rfl,Z1++Z2,by simp only[List.append_assoc],by rw[List.length_append];omega,r1,r2⟩
        ·have d2:decide (((m+jy:Nat):Int)< (b:Int))=false:=decide_eq_false (by omega)
         first|with_reducible refine ks [] (And.intro @av (And.intro @d1 (@d2))) ?_|refine kp (And.intro @av (And.intro @d1 (@d2))) ?_
         obtain rfl:Y2= []:=List.eq_nil_of_length_eq_zero (by omega)
         obtain⟨r1,r2⟩:=Jw Z1 X2 z2 z3 sX2 (by rw[List.append_nil];exact StP.St.refl _ _)
         refine⟨_,_,_,(ke @av),rfl,trivial, ?_⟩
         exact⟨rfl,Z1++X2,by simp only[List.append_assoc,List.nil_append],by rw[List.length_append];omega,r1,r2⟩
       ·have d1:decide ((mid:Int)< ((m+jy:Nat):Int))=false:=decide_eq_false (by omega)
        first|with_reducible refine ks [] (And.intro @av @d1) ?_|refine kp (And.intro @av @d1) ?_
        obtain rfl:X2= []:=List.eq_nil_of_length_eq_zero (by omega)
        obtain⟨r1,r2⟩:=Jw Z1 Y2 z2 z3 sY2 (StP.St.refl _ _)
        refine⟨_,_,_,(ke @av),rfl,trivial, ?_⟩
        exact⟨rfl,Z1++Y2,by simp only[List.append_assoc,List.nil_append],by rw[List.length_append];omega,r1,r2⟩
end Go.Proofs
end
section
open Go Go.Proofs Go.Sx Go.StP
namespace Go.Proofs
set_option maxRecDepth 10000
set_option maxHeartbeats 4000000
set_option linter.unusedSimpArgs false
def Blks (k:Nat) (ls:List (List EntL)):Prop:= ∀x,x∈ls→x.length=k∧fi x
theorem Blks.snoc {k:Nat} {ls:List (List EntL)} {x:List EntL} (h:Blks k ls) (hx:x.length=k) (hs:fi x):Blks k (ls++ [x]):=by
 intro y hy
 rcases List.mem_append.1 hy with hy|hy
 ·exact h y hy
 ·rw[List.mem_singleton] at hy;subst hy;exact⟨hx,hs⟩
structure StG where
 k:Nat
 ls:List (List EntL)
 r:List EntL
structure StH where
 l2:List (List EntL)
 ls:List (List EntL)
theorem AP (rb n c:Nat) (d:List EntL) (rest:List Value) (w:World) (hn:n=d.length) (hs:n<1000000)
  (ho:w.heap[rb]? =some (cI rest d)):
  Rets Tryz.prog 229 #[vsl rb 0 n c,vi n,j3] w (fun v D=> ∃o,D= [(rb,o)]∧v= .tuple #[]∧ ∃Z,o=cI rest Z∧Z.length=d.length∧fi Z∧StE d Z):=by
 refine Rets.enterM Tryz.func229 rfl (rs:= []) Tryz.results229 Tryz.ntmps229 ho ?_
 refine kf ?_
 first|with_reducible refine ks [1000006] @Nat.add_zero ?_|refine kp @Nat.add_zero ?_
 refine Cw.loopG (G:=StG) [11,12,13,14,15,16,17,18,19,7,20,21,22,8] (fun g=> [(7,vi g.ls.flatten.length),(8,vi (g.ls.flatten.length+20:Nat))]) (fun g=> [(rb,cI rest (g.ls.flatten++g.r))]) (fun g=>Blks 20 g.ls∧StE d (g.ls.flatten++g.r)∧g.ls.flatten.length+g.r.length=n) (fun g=>g.r.length) ⟨20,[],d⟩ rfl rfl ?_ ?_
 ·refine⟨fun x hx=> ?_,StP.St.refl _ _,by show 0+d.length=n;omega⟩
  exact absurd hx (by simp)
 ·intro g j hg
  refine kv ?_
  obtain⟨_,ls,r⟩:=g
  obtain⟨h1,h2,h3⟩:=hg
  dsimp only at h1 h2 h3 ⊢
  by_cases hb:ls.flatten.length+20≤n
  ·obtain⟨M,R,rfl,hM⟩:=oO r (show 20≤r.length by omega)
   rw[List.length_append] at h3
   first|with_reducible refine ks [] @Nat.add_zero ?_|refine kp @Nat.add_zero ?_
   refine Ow.callE rfl rfl Tryz.call260 (by simp[keys]) (fun w' a7=>NY rb n c ls.flatten M R rest ls.flatten.length (ls.flatten.length+20) w' rfl (by omega) (by omega) hs (a7.has _ _ List.mem_cons_self)) (fun v1 o1 cz=> ?_)
   obtain⟨rfl,M',rfl,l1,s1,t1⟩:=cz
   refine ko @Nat.add_zero ?_
   have e1: (ls++ [M']).flatten=ls.flatten++M':=by simp
   refine Again.mk ⟨20,ls++ [M'],R⟩ (by show R.length< (M++R).length;rw[List.length_append];omega) ⟨h1.snoc (by omega) s1, ?_, ?_⟩ ?_ ?_
   ·show StE d ((ls++ [M']).flatten++R)
    rw[e1,List.append_assoc]
    exact h2.trans (StP.St.app (StP.St.refl _ _) (StP.St.app t1 (StP.St.refl _ _)))
   ·show(ls++ [M']).flatten.length+R.length=n
    rw[e1,List.length_append];omega
   ·rw[e1,List.append_assoc]
   ·dsimp only
    rw[e1,show(ls.flatten++M').length=ls.flatten.length+20 by rw[List.length_append];omega]
    rfl
  ·first|with_reducible refine ks [] @Nat.add_zero ?_|refine kp @Nat.add_zero ?_
   have e0:ls.flatten++r=ls.flatten++ (r++ []):=by rw[List.append_nil]
   rw[e0]
   first|with_reducible refine ks [1000007] @Nat.add_zero ?_|refine kp @Nat.add_zero ?_
   refine Ow.callE rfl rfl Tryz.call260 (by simp[keys]) (fun w' a7=>NY rb n c ls.flatten r [] rest ls.flatten.length n w' rfl (by omega) (by simp) hs (a7.has _ _ List.mem_cons_self)) (fun v1 o1 cz=> ?_)
   obtain⟨rfl,r',rfl,l1,s1,t1⟩:=cz
   rw[show r'++ []=r' from List.append_nil r']
   refine ko @Nat.add_zero ?_
   refine Cw.loopG (G:=StG) [28,29,30,31,32,7,8,33,34,35,36,37,38,39,40,41,42,43,44,45,46,47,48,49,50,51,9,52,53,54,55,56,57,58,59,60,61,62,6] (fun g=> [(6,vi g.k)]) (fun g=> [(rb,cI rest (g.ls.flatten++g.r))]) (fun g=>0<g.k∧Blks g.k g.ls∧fi g.r∧g.r.length<g.k∧StE d (g.ls.flatten++g.r)∧g.ls.flatten.length+g.r.length=n) (fun g=>n - g.k) ⟨20,ls,r'⟩ rfl rfl ?_ ?_
   ·exact⟨by show 0<20;omega,h1,s1,by show r'.length<20;omega,h2.trans (StP.St.app (StP.St.refl _ _) t1),by show ls.flatten.length+r'.length=n;omega⟩
   ·intro g j hg
    refine kv ?_
    clear h1 h2 h3 hb e0 l1 s1 t1
    obtain⟨k,ls,r⟩:=g
    obtain⟨h0,h1,h2,h3,h4,h5⟩:=hg
    dsimp only at h0 h1 h2 h3 h4 h5 ⊢
    by_cases hk:k<n
    ·have e1:2* (k:Int)=((2*k:Nat):Int):=by omega
     first|with_reducible refine ks [1000013] @e1 ?_|refine kp @e1 ?_
     refine Cw.loopG (G:=StH) [33,34,35,36,37,38,39,40,41,42,43,44,7,45,46,47,48,8] (fun g=> [(7,vi g.l2.flatten.length),(8,vi (2*k+g.l2.flatten.length:Nat))]) (fun g=> [(rb,cI rest (g.l2.flatten++ (g.ls.flatten++r)))]) (fun g=>Blks (2*k) g.l2∧Blks k g.ls∧StE d (g.l2.flatten++ (g.ls.flatten++r))∧g.l2.flatten.length+ (g.ls.flatten.length+r.length)=n) (fun g=>g.ls.length) ⟨[],ls⟩ rfl rfl ?_ ?_
     ·refine⟨fun x hx=> ?_,h1,h4,by show 0+ (ls.flatten.length+r.length)=n;omega⟩
      exact absurd hx (by simp)
     ·clear h1 h4 h5
      intro g j hg
      refine kv ?_
      obtain⟨l2,ls⟩:=g
      obtain⟨g1,g2,g3,g4⟩:=hg
      dsimp only at g1 g2 g3 g4 ⊢
      by_cases hb:2*k+l2.flatten.length≤n
      ·have qi: ∃x y t,ls=x::y::t:=by
        cases ls with
        |nil=>rw[List.flatten_nil,List.length_nil] at g4;omega
        |cons x t=>
         have hx:=(g2 x List.mem_cons_self).1
         cases t with
         |nil=>rw[List.flatten_cons,List.flatten_nil,List.append_nil] at g4;omega
         |cons y t=>exact⟨x,y,t,rfl⟩
       obtain⟨x,y,t,rfl⟩:=qi
       have hx:=g2 x List.mem_cons_self
       have hy:=g2 y (by simp)
       have ht:Blks k t:=fun u hu=>g2 u (by simp[hu])
       rw[List.flatten_cons,List.flatten_cons] at g3 g4
       simp only[List.length_append,List.append_assoc] at g3 g4
       have e2: (x::y::t).flatten++r=x++ (y++ (t.flatten++r)):=by simp
       rw[e2]
       have e3: (l2.flatten.length:Int)+ (k:Int)=((l2.flatten.length+k:Nat):Int):=by omega
       first|with_reducible refine ks [] @e3 ?_|refine kp @e3 ?_
       refine Ow.callE rfl rfl Tryz.call261 (by simp[keys]) (fun w' a7=>MW (2*k) rb n c l2.flatten x y (t.flatten++r) rest l2.flatten.length (l2.flatten.length+k) (2*k+l2.flatten.length) w' rfl (by omega) (by omega) (by rw[List.length_append];omega) hs hx.2 hy.2 (by omega) (by omega) (by omega) (a7.has _ _ List.mem_cons_self)) (fun v1 o1 cz=> ?_)
       obtain⟨rfl,Z,rfl,z1,z2,z3⟩:=cz
       have e4: ((2*k+l2.flatten.length:Nat):Int)+ ((2*k:Nat):Int)=((2*k+ (l2.flatten.length+2*k):Nat):Int):=by omega
       refine ko (And.intro @e1 @e4) ?_
       have e5: (l2++ [Z]).flatten=l2.flatten++Z:=by simp
       have e6: (l2.flatten++Z).length=2*k+l2.flatten.length:=by rw[List.length_append];omega
       refine Again.mk ⟨l2++ [Z],t⟩ (by show t.length< (x::y::t).length;simp only[List.length_cons];omega) ⟨g1.snoc (by omega) z2,ht, ?_, ?_⟩ ?_ ?_
       ·show StE d ((l2++ [Z]).flatten++ (t.flatten++r))
        rw[e5,List.append_assoc]
        refine g3.trans (StP.St.app (StP.St.refl _ _) ?_)
        rw[←List.append_assoc]
        exact StP.St.app z3 (StP.St.refl _ _)
       ·show(l2++ [Z]).flatten.length+ (t.flatten.length+r.length)=n
        rw[e5,e6];omega
       ·rw[e5,List.append_assoc]
       ·dsimp only
        rw[e5,e6,show l2.flatten.length+2*k=2*k+l2.flatten.length by omega]
        rfl
      ·have e7: (k:Int)*2=((2*k:Nat):Int):=by omega
       have e3: (l2.flatten.length:Int)+ (k:Int)=((l2.flatten.length+k:Nat):Int):=by omega
       have qi:ls= []∨ ∃x,ls= [x]:=by
        cases ls with
        |nil=>exact .inl rfl
        |cons x t=>
         have hx:=(g2 x List.mem_cons_self).1
         cases t with
         |nil=>exact .inr ⟨x,rfl⟩
         |cons y t=>
          have hy:=(g2 y (by simp)).1
          rw[List.flatten_cons,List.flatten_cons,List.length_append,List.length_append] at g4
          omega
       have fin: ∀r',(ls.flatten++r).length=r'.length→StE (ls.flatten++r) r'→StE d (l2.flatten++r')∧l2.flatten.length+r'.length=n:=by
        intro r' hl qn
        rw[List.length_append] at hl
        exact⟨g3.trans (StP.St.app (StP.St.refl _ _) qn),by omega⟩
       rcases qi with rfl| ⟨x,rfl⟩
       ·rw[List.flatten_nil,List.length_nil] at g4
        first|with_reducible refine ks [] @Nat.add_zero ?_|refine kp @Nat.add_zero ?_
        first|with_reducible refine ks [] (And.intro @e3 @e7) ?_|refine kp (And.intro @e3 @e7) ?_
        obtain⟨w1,w2⟩:=fin r rfl (StP.St.refl _ _)
        refine Again.mk ⟨2*k,l2,r⟩ (by show n - 2*k<n - k;omega) ⟨by show 0<2*k;omega,g1,h2,by show r.length<2*k;omega,w1,w2⟩ rfl rfl
       ·have hx:=g2 x List.mem_cons_self
        rw[List.flatten_cons,List.flatten_nil,List.append_nil] at g4 fin
        rw[List.flatten_cons,List.flatten_nil,List.append_nil]
        by_cases hr:r.length=0
        ·obtain rfl:r= []:=List.eq_nil_of_length_eq_zero hr
         first|with_reducible refine ks [] @Nat.add_zero ?_|refine kp @Nat.add_zero ?_
         first|with_reducible refine ks [] (And.intro @e3 @e7) ?_|refine kp (And.intro @e3 @e7) ?_
         obtain⟨w1,w2⟩:=fin x (by rw[List.append_nil]) (by rw[List.append_nil];exact StP.St.refl _ _)
         refine Again.mk ⟨2*k,l2,x⟩ (by show n - 2*k<n - k;omega) ⟨by show 0<2*k;omega,g1,hx.2,by show x.length<2*k;omega,w1,w2⟩ ?_ rfl
         rw[List.append_nil]
        ·have e8:x++r=x++ (r++ []):=by rw[List.append_nil]
         rw[e8]
         first|with_reducible refine ks [] @Nat.add_zero ?_|refine kp @Nat.add_zero ?_
         first|with_reducible refine ks [] (And.intro @e3 @e7) ?_|refine kp (And.intro @e3 @e7) ?_
         refine Ow.callE rfl rfl Tryz.call261 (by simp[keys]) (fun w' a7=>MW (2*k) rb n c l2.flatten x r [] rest l2.flatten.length (l2.flatten.length+k) n w' rfl (by omega) (by omega) (by simp) hs hx.2 h2 (by omega) (by omega) (by omega) (a7.has _ _ List.mem_cons_self)) (fun v1 o1 cz=> ?_)
         obtain⟨rfl,Z,rfl,z1,z2,z3⟩:=cz
         rw[show Z++ []=Z from List.append_nil Z]
         refine ko @e7 ?_
         obtain⟨w1,w2⟩:=fin Z (by rw[List.length_append];omega) z3
         refine Again.mk ⟨2*k,l2,Z⟩ (by show n - 2*k<n - k;omega) ⟨by show 0<2*k;omega,g1,z2,by show Z.length<2*k;omega,w1,w2⟩ rfl rfl
    ·first|with_reducible refine ks [] @Nat.add_zero ?_|refine kp @Nat.add_zero ?_
     have hZ:fi (ls.flatten++r):=by
      cases ls with
      |nil=>exact h2
      |cons x ls=>
       have hx:=h1 x List.mem_cons_self
       rw[List.flatten_cons,List.length_append] at h5
       obtain rfl:r= []:=List.eq_nil_of_length_eq_zero (by omega)
       cases ls with
       |nil=>simpa using hx.2
       |cons y ls=>
        have hy:=h1 y (by simp)
        rw[List.flatten_cons,List.length_append] at h5
        omega
     have u4: (ls.flatten++r).length=d.length:=by rw[List.length_append];omega
     refine⟨_,_,_,(ke @Nat.add_zero),rfl,trivial, ?_⟩
     exact⟨rfl,_,rfl,u4,hZ,h4⟩
end Go.Proofs
end
section
open Go Go.Proofs Go.Sx Go.StP
namespace Go.Proofs
set_option maxRecDepth 10000
set_option maxHeartbeats 4000000
set_option linter.unusedSimpArgs false
abbrev EntS (w:World) (v:Value) (l:List EntL):Prop:=SlV 34 aD ent0 w v l
theorem zV (v:Value) (w:World) (hv:Value.oneCell' v=true∧v.cells= #[v]):
  Rets Tryz.prog 120 #[v] w (fun v' D=> ∃b1,w.heap.size≤b1∧v'= .func (.func 189) #[] #[vp b1 0]∧D= [(b1, .cells #[v] 122 (0,0))]):=by
 refine Rets.enter Tryz.func120 rfl (rs:= [.tmp 2]) Tryz.results120 Tryz.ntmps120 ?_
 refine kf ?_
 first|with_reducible refine ks [] @Nat.add_zero ?_|refine kp @Nat.add_zero ?_
 refine Ow.box rfl rfl fun b1 bJ aG=> ?_
 simp only[bp,bj,hv.2,List.nil_append]
 refine ko @Nat.add_zero ?_
 refine⟨_,(ke @Nat.add_zero), ?_⟩
 exact⟨b1,aG,by simp[c0,ev,cj],rfl⟩
theorem NW (w0:World) {L:a6} {b:Nat} {o:Obj} (h:ct L b):aO w0 (L++ [(b,o)]) b=some o:=ah (lK h)
structure ValG where
 k:Nat
 X:a6
set_option linter.defProp false
def kw:=And.intro (And.intro (@ns) (@rH)) (And.intro (@j0) (And.intro (@iR) (@gM)))
theorem zo (b1:Nat) (v:Value) (ls:List EntL) (w:World) (hv:EntS w v ls) (hb:w.heap[b1]? =some (.cells #[v] 122 (0,0))) (qi:ls.length<1000000):
  lz Tryz.prog 189 #[vp b1 0] (fun x=> .agg (aD x).toArray) ls w:=by
 intro l J w1 X c_ hX dF hp JA wj hY
 have bJ:=(Array.getElem?_eq_some_iff.1 hb).1
 obtain⟨b,off,arr,E,fz,hr⟩:=hv.row
 have rd: ∀X',Ext w1 X X'→ ∀c,c<w.heap.size→aO w1 X' c=w.heap[c]? :=fun X' hE c hc=>by
  rw[jT (hE.not (Nat.lt_of_lt_of_le hc dF) (fun hm=>by have:=hX c hm;omega)),c_ c hc]
 have r1:aO w1 X b1=some (.cells #[v] 122 (0,0)):=by rw[rd X (Ext.refl _ _) b1 bJ,hb]
 have ld1:aS (some (false,1)) (some (.cells #[v] 122 (0,0))) 0=some v:=rfl
 have ln:=hv.len
 show Rets Tryz.prog _ #[.func (.yield l) #[] #[],vp b1 0] w1 (XS w1 X (fun _ D=>J ls D))
 refine Rets.enterX Tryz.func189 rfl (rs:= []) Tryz.results189 Tryz.ntmps189 (fun p jm=>hp.has _ _ jm) hp.nodup ?_
 refine kf ?_
 first|with_reducible refine ks [] (And.intro @kw (And.intro @r1 (And.intro @ld1 (@ln)))) ?_|refine kp (And.intro @kw (And.intro @r1 (And.intro @ld1 (@ln)))) ?_
 refine Cw.loopG (G:=ValG) [8,9,10,4,11,12,13,14,15,7] (fun g=> [(7,vi g.k)]) (fun g=>g.X) (fun g=>g.k≤ls.length∧J (ls.take g.k) g.X∧Ext w1 X g.X) (fun g=>ls.length - g.k) ⟨0,X⟩ rfl rfl ?_ ?_
 ·exact⟨Nat.zero_le _,JA,Ext.refl _ _⟩
 ·intro g j hg
  refine kv ?_
  obtain⟨k,X'⟩:=g
  obtain⟨h1,h2,h3⟩:=hg
  dsimp only at h1 h2 h3 ⊢
  by_cases hk:k<ls.length
  ·have dg:=hr.lt (Nat.lt_of_le_of_lt (Nat.zero_le _) hk)
   have r2:aO w1 X' b=some (.cells arr E fz):=by rw[rd X' h3 b dg,hr.has (Nat.lt_of_le_of_lt (Nat.zero_le _) hk)]
   have i2:=hr.idx true k hk
   have l2:=sq hr hk
   first|with_reducible refine ks [3] (And.intro @kw (And.intro @r2 (And.intro @i2 (@l2)))) ?_|refine kp (And.intro @kw (And.intro @r2 (And.intro @i2 (@l2)))) ?_
   refine Ow.alloc rfl rfl gg fun b4 dN cB=> ?_
   simp only[aU,List.nil_append,List.cons_append]
   have k4:=fun o=>lK (o:=o) dN
   have s4:=fun o x=>vX (o:=o) (x:=x) dN
   have rd4:=fun o=>NW w1 (o:=o) dN
   refine ko (And.intro @kw (And.intro @k4 (@s4))) ?_
   refine Cw.regionI ?_
   show OwI _ _ _ _ ([_,_]++ [_,_]) _ _ _
   refine OwI.pre rfl ?_
   refine ko (And.intro @kw @rd4) ?_
   refine OwI.yieldX (S:=fun D=>J (ls.take k++ [ls.getD k ent0]) D) (X:=X') (Y:= [(b4, .cells (aD (ls.getD k ent0)).toArray 117 (0,0))]) rfl rfl rfl (fun w2 ar=> ?_) (fun D hC hJ=> ?_)
   ·exact hY (ls.take k) (ls.getD k ent0) (ls.drop (k+1)) X' w2 (by rw[←drop_cons hk,List.take_append_drop]) ar (fun c hc=>by
     rcases h3.new c hc with h|h
     ·exact hX c h
     ·omega) h2
   ·refine OwI.all rfl ?_
    refine ko @kw ?_
    refine Again.mk ⟨k+1,D++ [(b4, .cells (aD (ls.getD k ent0)).toArray 117 (0,0))]⟩ (by show ls.length - (k+1)<ls.length - k;omega) ⟨hk, ?_, ?_⟩ rfl rfl
    ·show J (ls.take (k+1)) _
     rw[take_snoc (z:=ent0) hk]
     exact wj _ _ _ hJ
    ·show Ext w1 X (D++_)
     exact(Ext.came0 h3 hC).app cB
  ·obtain rfl:k=ls.length:=by omega
   first|with_reducible refine ks [] @kw ?_|refine kp @kw ?_
   refine⟨_,(ke @kw), ?_⟩
   rw[List.take_length] at h2
   exact⟨h3,h2⟩
end Go.Proofs
end
section
open Go Go.Proofs Go.Sx Go.StP
namespace Go.Proofs
set_option maxRecDepth 10000
set_option maxHeartbeats 4000000
set_option linter.unusedSimpArgs false
set_option linter.defProp false
def k_:=And.intro (And.intro (@ns) (@rH)) (And.intro (@j0) (And.intro (@iR) (@gM)))
theorem Pw (gf:Nat) (lb:Array Value) (xs:List EntL) (w:World) (eg: ∀args w,(callFunc gf args).run Tryz.prog w= .ok (.enter gf args) w) (lH:xs.length<1000000)
  (eh:lz Tryz.prog gf lb (fun x=> .agg (aD x).toArray) xs w):
  Rets Tryz.prog 228 #[.slice none 0 0, .func (.func gf) #[] lb] w (XS w [] (fun v D=>Gr D 117 34 v xs.length (xs.map aD).flatten)):=by
 refine Rets.enterR Tryz.func228 rfl (rs:= [.tmp 4]) Tryz.results228 Tryz.ntmps228 ?_
 simp only[List.size_toArray,List.length_cons,List.length_nil,Nat.reduceAdd,Nat.reduceSub,List.replicate_succ,List.replicate_zero,List.cons_append,List.nil_append]
 refine w9 (Hp.refl w) ?_
 first|with_reducible refine ks [] @k_ ?_|refine kp @k_ ?_
 refine Ow.box rfl rfl fun bs R7 SI=> ?_
 simp only[bp,bj,List.nil_append]
 refine ko @k_ ?_
 refine⟨rfl,fun w1 qj=> ?_⟩
 refine wp_seq ?_
 refine w9 qj ?_
 first|with_reducible refine ks [] @k_ ?_|refine kp @k_ ?_
 refine⟨rfl,fun w2 qk=> ?_⟩
 refine wp_block ?_
 refine Lf (S:=fun dk D=>Sx.look D dk=some (.deferred (some []))∧ ∃v,Sx.look D bs=some (.cells #[v] 122 (0,0))∧Gr D 117 34 v xs.length (xs.map aD).flatten) qk rfl eg (fun fn dk w3 rc jK dc JY kU=> ?_) (fun dk fn D w3 rc jK dc JY hS hE kU=> ?_)
 ·have ai:bs≠dk:=by
   have:=aP dc (show bs∈keys [(bs,_)] by simp[keys]);omega
  have pV:bs≠dk+1:=by
   have:=aP dc (show bs∈keys [(bs,_)] by simp[keys]);omega
  refine Rets.mono (eh (dk+1) (fun pre X=>Sx.look X (dk+1)=some (.loop rc)∧Sx.look X dk=some (.deferred (some []))∧ ∃v,Sx.look X bs=some (.cells #[v] 122 (0,0))∧Gr X 117 34 v pre.length (pre.map aD).flatten) w3 _ (fun b hb=> ?_) (fun b hb=> ?_) ?_ (by have:=Hp.part (Y:= []) (by simpa using kU);simpa using this) ?_ ?_ ?_) ?_
  ·refine kU.old b hb (fun hm=> ?_)
   simp[keys] at hm;omega
  ·simp[keys] at hb;omega
  ·exact kU.size
  ·refine⟨?_, ?_,_, ?_,Gr.nl⟩
   ·simp[Sx.look,pV]
   ·simp[Sx.look,ai]
   ·simp[Sx.look];rfl
  ·rintro pre X Y ⟨q1,q2,v,q3,q4⟩
   exact⟨bB q1,bB q2,v,bB q3,q4.app⟩
  ·rintro pre x post X2 w4 hx K3 Mu ⟨q1,q2,v,q3,q4⟩
   refine YieldAt.of (S:=fun D=>Ext w4 X2 D∧_) K3 q1 (by rw[jK];rfl) (by rw[jK];rfl) (by rw[jK];rfl) ?_
   have aQ:=congrArg List.length hx
   rw[List.length_append,List.length_cons] at aQ
   have n1:slB v≠some bs:=q4.ne q3 (fun a e=>by cases e)
   have n2:slB v≠some dk:=q4.ne q2 (fun a e=>by cases e)
   have n3:slB v≠some (dk+1):=q4.ne q1 (fun a e=>by cases e)
   have ka:=jK
   unfold recR at ka
   rw[ka] at q1 ⊢
   dsimp only
   rw[tU]
   show CwR _ _ _ (Code.region _ (List.toArray _) false) [.slice none 0 0, .func (.func gf) #[] lb,vp bs 0,undef, .slice none 0 0,undef, .func (.func gf) #[] lb, .agg (aD x).toArray,undef,undef,undef,undef,undef] X2 _
   refine CwR.region rfl ?_
   refine Ow.alloc rfl rfl gg fun b5 cx eF=> ?_
   simp only[aU,List.nil_append,List.cons_append]
   have k5:=fun o=>lK (o:=o) cx
   have s5:=fun o x=>vX (o:=o) (x:=x) cx
   refine ko (And.intro @k_ (And.intro @k5 (@s5))) ?_
   refine⟨trivial,bB q1, ?_⟩
   refine CwR.block (CwR.region rfl ?_)
   generalize Qi:Loop.mk .busy _ _ _ _ _ _ _=BZ
   have N5:dk+1<b5:=aP cx (cE q1)
   have Jn:dk<b5:=aP cx (cE q2)
   have R_:bs<b5:=aP cx (cE q3)
   have l1:Sx.look (setB (X2++ [(b5,Obj.cells (aD x).toArray 117 (0,0))]) (dk+1) (.loop BZ)) (dk+1)=some (.loop BZ):=iS (bB q1)
   have l2:Sx.look (setB (X2++ [(b5,Obj.cells (aD x).toArray 117 (0,0))]) (dk+1) (.loop BZ)) dk=some (.deferred (some [])):=by rw[ey (by omega)];exact bB q2
   have l3:Sx.look (setB (X2++ [(b5,Obj.cells (aD x).toArray 117 (0,0))]) (dk+1) (.loop BZ)) bs=some (.cells #[v] 122 (0,0)):=by rw[ey (by omega)];exact bB q3
   have l4:Sx.look (setB (X2++ [(b5,Obj.cells (aD x).toArray 117 (0,0))]) (dk+1) (.loop BZ)) b5=some (.cells (aD x).toArray 117 (0,0)):=by rw[ey (by omega)];exact lK cx
   have lg:Gr (setB (X2++ [(b5,Obj.cells (aD x).toArray 117 (0,0))]) (dk+1) (.loop BZ)) 117 34 v pre.length (pre.map aD).flatten:=(q4.app (M:= [(b5,Obj.cells (aD x).toArray 117 (0,0))])).setB n3 _
   have le:Ext w4 X2 (setB (X2++ [(b5,Obj.cells (aD x).toArray 117 (0,0))]) (dk+1) (.loop BZ)):=((Ext.refl w4 X2).app eF).setB
   generalize setB (X2++ [(b5,Obj.cells (aD x).toArray 117 (0,0))]) (dk+1) (.loop BZ)=L1 at*
   have rbs:=ah (w0:=w4) l3
   have rb5:=ah (w0:=w4) l4
   have ld1:aS (some (false,1)) (some (.cells #[v] 122 (0,0))) 0=some v:=rfl
   refine ko (And.intro @k_ (And.intro @rbs (And.intro @rb5 (@ld1)))) ?_
   refine Ow.buildSlice (e:=117) (aD x).toArray rfl rfl (gw Tryz.underlying122 ny gg (by decide) (eB x)) fun b6 jB ei=> ?_
   refine ko @k_ ?_
   refine Ow.appendG (e:=117) (k:=1) (new:=aD x) v rfl rfl rfl Tryz.underlying122 ny (by kernel_rfl) gg (by rw[gM,List.size_toArray,eB]) Tryz.underlying122 (by intro k h;cases h) lg.app (fun w' a7=>AppX.one1 (a7.has _ _ (List.mem_append_right _ List.mem_cons_self)) (eB x) (vW x)) (by show(aD x).length=1*34;rw[eB]) (by omega) (fun v2 L2 hB ca hG hS=> ?_)
   have g1:=hG.look _ _ n3 (bB l1)
   have g2:=hG.look _ _ n2 (bB l2)
   have g3:=hG.look _ _ n1 (bB l3)
   have c2:=hB.cell
   have st:aZ (some (false,1)) (some (.cells #[v] 122 (0,0))) 0 v2=some (.cells #[v2] 122 (0,0)):=by simp[aZ,c2,bQ]
   have m2:slB v2≠some bs:=hB.ne g3 (fun a e=>by cases e)
   refine ko (And.intro @k_ (And.intro @g3 (And.intro @st (@nt)))) ?_
   refine⟨rfl, ?_, ?_, ?_, ?_,v2, ?_, ?_⟩
   ·rw[ey (by omega)];exact g1
   ·exact((le.app (o:= .cells (aD x).toArray 117 (0,0)) ei).grew hG).setB.setB
   ·exact iS (by rw[ey (by omega)];exact g1)
   ·rw[ey (by omega),ey (by omega)];exact g2
   ·rw[ey (by omega)];exact iS g3
   ·rw[List.length_append,List.map_append,List.flatten_append]
    have e1: ([x].map aD).flatten=aD x:=by simp
    rw[e1]
    exact(hB.setB m2 _).setB (hB.ne g1 (fun a e=>by cases e)) _
  ·rintro v D ⟨hE,q1,q2⟩
   exact⟨hE,q1,q2⟩
 ·obtain⟨cz,v,bu,gG⟩:=hS
  show Code.wp _ (Code.seq _ _) _ _ _
  have ai:dk+1≠bs:=by
   have:=aP dc (show bs∈keys [(bs,_)] by simp[keys]);omega
  have r1:=fun o=>(vw (w0:=w) (L:=D) (x:=o) ai).trans (ah bu)
  have ld1:aS (some (false,1)) (some (.cells #[v] 122 (0,0))) 0=some v:=rfl
  refine wp_mono (CwE.seq (ds:= [{target:= .collected dk,args:= #[]}]) (K:=fun e f' L'=>e= .ret∧L'=setB D (dk+1) _∧cj f' 4=v) (CwE.region (f':= [.slice none 0 0, .func (.func gf) #[] lb,vp bs 0,undef,v,undef, .func (.func gf) #[] lb,undef,undef,undef,undef,undef,v]) ?_ (CwE.ret ⟨rfl,rfl,rfl⟩)) w3 kU) ?_
  ·simp(disch:=(first|assumption|omega| (simp only[ac,ab,UInt64.reduceToNat];try omega))) only[↓Sx.S0,Sx.S1,Tryz.fx,k_,Nat.reduceAdd,Nat.reducePow,Int.reducePow,Nat.reduceBEq, ↓reduceIte,UInt8.reduceToNat,UInt16.reduceToNat,UInt32.reduceToNat,UInt64.reduceToNat,Int.reduceToNat,evVs,et,r1,ld1]
  ·rintro e a w5 ⟨hd,L,K4,rfl,rfl,hv⟩
   refine⟨.inr rfl,dk,hd,_,K4, ?_,[v], ?_, ?_, ?_⟩
   ·rw[ey (by omega)];exact cz
   ·rw[xW,xd,wC,hv];rfl
   ·refine⟨fun c hc=> ?_,fun c hc=>by cases hc⟩
    rw[jS,jS] at hc
    rcases hE.new c hc with h|h
    ·simp[keys] at h;exact .inr (by omega)
    ·exact .inr h
   ·exact(gG.setB (gG.ne jK (fun a e=>by cases e)) _).setB (gG.ne cz (fun a e=>by cases e)) _
end Go.Proofs
end
section
open Go Go.Proofs Go.Sx Go.StP
namespace Go.Proofs
set_option maxRecDepth 10000
set_option maxHeartbeats 4000000
set_option linter.unusedSimpArgs false
theorem PK (gf:Nat) (lb:Array Value) (xs:List EntL) (w:World) (eg: ∀args w,(callFunc gf args).run Tryz.prog w= .ok (.enter gf args) w) (lH:xs.length<1000000)
  (eh: ∀w',Hp w [] w'→lz Tryz.prog gf lb (fun x=> .agg (aD x).toArray) xs w'):
  Rets Tryz.prog 187 #[.func (.func gf) #[] lb] w (XS w [] (fun v D=>Gr D 117 34 v xs.length (xs.map aD).flatten)):=by
 refine Rets.enterX Tryz.func187 rfl (rs:= [.tmp 2]) Tryz.results187 Tryz.ntmps187 (fun p hp=>by cases hp) (by simp[keys]) ?_
 refine kf ?_
 first|with_reducible refine ks [] @Nat.add_zero ?_|refine kp @Nat.add_zero ?_
 refine Ow.callC rfl rfl Tryz.call228 (fun w' a7=>Pw gf lb xs w' eg lH (eh w' a7)) (fun B v D hA hB hN hS=> ?_)
 refine ko @Nat.add_zero ?_
 refine⟨_,(ke @Nat.add_zero), ?_⟩
 exact⟨Ext.of_new (New.mono hB hN),hS⟩
theorem OG (w:World):Rets Tryz.prog 260 #[.slice none 0 0,vi 0,vi 0,j3] w (fun v D=>v= .tuple #[]∧D= []):=by
 refine Rets.enterV Tryz.func260 rfl (rs:= []) Tryz.results260 Tryz.ntmps260 ?_
 refine kf ?_
 first|with_reducible refine ks [] @Nat.add_zero ?_|refine kp @Nat.add_zero ?_
 refine Cw.loopG (G:=Unit) [12,13,14,17,9,18,19,20,21,22,23,24,25,26,27,28,29,30,31,32,33,34,37,38,39,40,41,42,43,44,45,46,47,48,49,50,51,52,35,36,15,16,8] (fun g=> [(8,vi 1)]) (fun g=> []) (fun g=>True) (fun g=>0) () rfl rfl ?_ ?_
 ·trivial
 ·intro g j hg
  refine kv ?_
  first|with_reducible refine ks [] @Nat.add_zero ?_|refine kp @Nat.add_zero ?_
  refine⟨_,(ke @Nat.add_zero),trivial, ?_⟩
  rfl
theorem Bs (w:World):Rets Tryz.prog 229 #[.slice none 0 0,vi 0,j3] w (fun v D=>v= .tuple #[]∧D= []):=by
 refine Rets.enterV Tryz.func229 rfl (rs:= []) Tryz.results229 Tryz.ntmps229 ?_
 refine kf ?_
 first|with_reducible refine ks [] @Nat.add_zero ?_|refine kp @Nat.add_zero ?_
 refine Cw.loopG (G:=Unit) [11,12,13,14,15,16,17,18,19,7,20,21,22,8] (fun g=> [(7,vi 0),(8,vi 20)]) (fun g=> []) (fun g=>True) (fun g=>0) () rfl rfl ?_ ?_
 ·trivial
 ·intro g j hg
  refine kv ?_
  first|with_reducible refine ks [] @Nat.add_zero ?_|refine kp @Nat.add_zero ?_
  refine Ow.callFV rfl Tryz.call260 (fun w' a7=>OG w') ?_
  refine ko @Nat.add_zero ?_
  refine Cw.loopG (G:=Unit) [28,29,30,31,32,7,8,33,34,35,36,37,38,39,40,41,42,43,44,45,46,47,48,49,50,51,9,52,53,54,55,56,57,58,59,60,61,62,6] (fun g=> [(6,vi 20)]) (fun g=> []) (fun g=>True) (fun g=>0) () rfl rfl ?_ ?_
  ·trivial
  ·intro u ju hu
   refine kv ?_
   first|with_reducible refine ks [] @Nat.add_zero ?_|refine kp @Nat.add_zero ?_
   refine⟨_,(ke @Nat.add_zero),trivial, ?_⟩
   rfl
theorem Pp (w:World):Rets Tryz.prog 188 #[.slice none 0 0,j3] w (fun v D=>v= .tuple #[]∧D= []):=by
 refine Rets.enterV Tryz.func188 rfl (rs:= []) Tryz.results188 Tryz.ntmps188 ?_
 refine kf ?_
 first|with_reducible refine ks [] @sf ?_|refine kp @sf ?_
 refine Ow.callFV rfl Tryz.call229 (fun w' a7=>Bs w') ?_
 refine ko @Nat.add_zero ?_
 refine⟨_,(ke @Nat.add_zero),trivial, ?_⟩
 rfl
theorem NQ (rb n c:Nat) (d:List EntL) (rest:List Value) (w:World) (hn:n=d.length) (hs:n<1000000) (ho:w.heap[rb]? =some (cI rest d)):
  Rets Tryz.prog 188 #[vsl rb 0 n c,j3] w (fun v D=> ∃o,D= [(rb,o)]∧v= .tuple #[]∧ ∃Z,o=cI rest Z∧Z.length=d.length∧fi Z∧StE d Z):=by
 refine Rets.enterM Tryz.func188 rfl (rs:= []) Tryz.results188 Tryz.ntmps188 ho ?_
 refine kf ?_
 first|with_reducible refine ks [] @Nat.add_zero ?_|refine kp @Nat.add_zero ?_
 refine Ow.callE rfl rfl Tryz.call229 (by simp[keys]) (fun w' a7=>AP rb n c d rest w' hn hs (a7.has _ _ List.mem_cons_self)) (fun v1 o1 cz=> ?_)
 obtain⟨rfl,Z,rfl,z1,z2,z3⟩:=cz
 refine ko @Nat.add_zero ?_
 refine⟨_,_,_,(ke @Nat.add_zero),rfl,trivial, ?_⟩
 exact⟨rfl,Z,rfl,z1,z2,z3⟩
def SortOf (l Z:List EntL):Prop:=Z.length=l.length∧fi Z∧StE l Z
theorem SortOf.eq {l Z Z':List EntL} (h:SortOf l Z) (h':SortOf l Z'):Z=Z':=StP.St.eq h.2.1 h'.2.1 (h.2.2.symm.trans h'.2.2)
theorem AA (gf:Nat) (lb:Array Value) (xs:List EntL) (w:World) (eg: ∀args w,(callFunc gf args).run Tryz.prog w= .ok (.enter gf args) w) (lH:xs.length<1000000)
  (eh: ∀w',Hp w [] w'→lz Tryz.prog gf lb (fun x=> .agg (aD x).toArray) xs w'):
  Rets Tryz.prog 119 #[.func (.func gf) #[] lb,j3] w (XS w [] (fun v D=> ∃Z,SortOf xs Z∧Gr D 117 34 v xs.length (Z.map aD).flatten)):=by
 refine Rets.enterX Tryz.func119 rfl (rs:= [.tmp 4]) Tryz.results119 Tryz.ntmps119 (fun p hp=>by cases hp) (by simp[keys]) ?_
 refine kf ?_
 first|with_reducible refine ks [] @Nat.add_zero ?_|refine kp @Nat.add_zero ?_
 refine Ow.callC rfl rfl Tryz.call187 (fun w' a7=>PK gf lb xs w' eg lH (fun w2 h2=>eh w2 (a7.trans_nil h2))) (fun B v D hA hB hN hS=> ?_)
 rw[List.nil_append]
 refine ko @Nat.add_zero ?_
 have main: ∀rb c rest,v=vsl rb 0 xs.length c→Sx.look D rb=some (cI rest xs)→True:=fun _ _ _ _ _=>trivial
 have hE:=Ext.of_new (New.mono hB hN)
 rcases hS with hS| ⟨h0,h1,rb,rfl,hl⟩
 ·rcases hS.inv with⟨rfl,h0,h1⟩ | ⟨rb,c,rest,rfl,hl,-,hc,fp,hr⟩
  ·obtain rfl:xs= []:=List.eq_nil_of_length_eq_zero h0
   refine Ow.callFV rfl Tryz.call188 (fun w' a7=>Pp w') ?_
   refine ko @Nat.add_zero ?_
   refine⟨_,(ke @Nat.add_zero), ?_⟩
   exact⟨hE,[],⟨rfl,List.Pairwise.nil,StP.St.refl _ _⟩,Gr.nl⟩
  ·refine Ow.callE rfl rfl Tryz.call188 (cE hl) (fun w' a7=>NQ rb xs.length c xs rest w' rfl lH (a7.has _ _ (dC hl))) (fun v1 o1 cz=> ?_)
   obtain⟨rfl,Z,rfl,z1,z2,z3⟩:=cz
   refine ko @Nat.add_zero ?_
   refine⟨_,(ke @Nat.add_zero), ?_⟩
   refine⟨hE.setB,Z,⟨z1,z2,z3⟩, .inl ?_⟩
   rw[←z1]
   exact Buf.at_ (iS hl) (by rw[wP eB]) (by rw[z1];exact hr) (by omega) fp
 ·obtain rfl:xs= []:=List.eq_nil_of_length_eq_zero h0
  refine Ow.callE rfl rfl Tryz.call188 (cE hl) (fun w' a7=>NQ rb 0 0 [] [] w' rfl (by omega) (a7.has _ _ (dC hl))) (fun v1 o1 cz=> ?_)
  obtain⟨rfl,Z,rfl,z1,z2,z3⟩:=cz
  obtain rfl:Z= []:=List.eq_nil_of_length_eq_zero z1
  refine ko @Nat.add_zero ?_
  refine⟨_,(ke @Nat.add_zero), ?_⟩
  exact⟨hE.setB,[],⟨rfl,List.Pairwise.nil,StP.St.refl _ _⟩, .inr ⟨rfl,rfl,rb,rfl,iS hl⟩⟩
end Go.Proofs
end
section
open Go Go.Proofs Go.Sx
namespace Go.Proofs
set_option maxRecDepth 10000
set_option maxHeartbeats 4000000
set_option linter.unusedSimpArgs false
def badR (c:Int):Bool:=decide (c<33) ||decide (126<c) || (c==47)
def eJ (b:UInt8):Bool:=decide (b.toNat<33) ||decide (126<b.toNat) || (b.toNat==47)
theorem eqb (a b:Bool):aj Tryz.prog .eql 4 (.bool a) (.bool b)=some (.bool (a==b)):=by
 simp[aj,eqX,er,fL,Tryz.underlying4]
theorem t8 (a:Value): (#[a]:Array Value)[0]? =some a:=(rfl)
set_option linter.defProp false
def bD:=And.intro (And.intro (And.intro (@cP) (And.intro (@wK) (@wF))) (And.intro (And.intro (@wQ) (@cO)) (And.intro (@FS) (@yq)))) (And.intro (And.intro (And.intro (@A0) (@zD)) (And.intro (@Gj) (@t8))) (And.intro (And.intro (@Sx.tup3_0) (@Sx.tup3_1)) (And.intro (@Sx.tup3_2) (@eqb))))
theorem OW (c:Int) (w:World):Rets Tryz.prog 231 #[fV c] w (fun v D=>v= .bool (badR c)∧D= []):=by
 refine Rets.enterV Tryz.func231 rfl (rs:= [.tmp 2]) Tryz.results231 Tryz.ntmps231 ?_
 refine kf ?_
 unfold badR
 cases h1:decide (c<33)
 ·cases h2:decide (126<c)
  ·first|with_reducible refine ks [] (And.intro @bD (And.intro @h1 (@h2))) ?_|refine kp (And.intro @bD (And.intro @h1 (@h2))) ?_
   refine⟨_,(ke @bD),trivial, ?_⟩
   simp[c0]
  ·first|with_reducible refine ks [] (And.intro @bD (And.intro @h1 (@h2))) ?_|refine kp (And.intro @bD (And.intro @h1 (@h2))) ?_
   refine⟨_,(ke @bD),trivial, ?_⟩
   simp[c0]
 ·first|with_reducible refine ks [] (And.intro @bD @h1) ?_|refine kp (And.intro @bD @h1) ?_
  refine⟨_,(ke @bD),trivial, ?_⟩
  simp[c0]
theorem Fe (l:List UInt8) (i:Nat) (h:i<l.length):badR ((Utf8.decode ⟨l.toArray⟩ i).1:Nat)=eJ (l.getD i 0)∧(eJ (l.getD i 0)=false→(Utf8.decode ⟨l.toArray⟩ i).2=1):=by
 obtain⟨h0,h1,h2⟩:=zA l i h
 by_cases hc: (l.getD i 0).toNat<128
 ·rw[h1 hc]
  refine⟨?_,fun _=>rfl⟩
  unfold badR eJ
  congr 1
  ·congr 1
   ·apply decide_eq_decide.2;omega
   ·apply decide_eq_decide.2;omega
  ·rw[Bool.eq_iff_iff,beq_iff_eq,beq_iff_eq];omega
 ·have MZ:=h2 (by omega)
  have hb:eJ (l.getD i 0)=true:=by
   unfold eJ
   rw[decide_eq_true (show 126< (l.getD i 0).toNat by omega)];simp
  rw[hb]
  refine⟨?_,fun h=>by cases h⟩
  unfold badR
  rw[decide_eq_true (show(126:Int)< (((Utf8.decode ⟨l.toArray⟩ i).1:Nat):Int) by omega)];simp
theorem Pl (s:List UInt8) (k:FuncId) (hk: ∀a w,(callFunc k a).run Tryz.prog w= .ok (.enter k a) w) (hc: ∀c w,Rets Tryz.prog k #[fV c] w (fun v D=>v= .bool (badR c)∧D= [])) (w:World) (hs:s.length<1099511627776):
  Rets Tryz.prog 256 #[vs s, .func (.func k) #[] #[], .bool true] w (fun v D=> ∃n:Int,v=vi n∧(0≤n↔s.any eJ=true)∧D= []):=by
 refine Rets.mono (S:=fun v D=>(∃n:Int,v=vi n∧(0≤n↔s.any eJ=true))∧D= []) ?_ (by rintro v D ⟨⟨n,h1,h2⟩,h3⟩;exact⟨n,h1,h2,h3⟩)
 refine Rets.enterV Tryz.func256 rfl (rs:= [.tmp 6]) Tryz.results256 Tryz.ntmps256 ?_
 refine kf ?_
 first|with_reducible refine ks [] @bD ?_|refine kp @bD ?_
 refine Ow.rangeText rfl rfl Tryz.underlying9 rfl fun b1 bJ aG=> ?_
 refine ko @bD ?_
 first|with_reducible refine ks [] @bD ?_|refine kp @bD ?_
 refine Cw.loopG (G:=Nat) [11,12,13,14,7,8,15,16,17,18,19,20,6] (fun g=> []) (fun g=> [(b1, .stringIter ⟨s.toArray⟩ g)]) (fun g=>g≤s.length∧ ∀i,i<g→eJ (s.getD i 0)=false) (fun g=>s.length - g) 0 rfl rfl ?_ ?_
 ·exact⟨by omega,fun i hi=>by omega⟩
 intro g j hg
 refine kv ?_
 obtain⟨pK,gS⟩:=hg
 by_cases aC:g<s.length
 ·have qb:=Fe s g aC
  first|with_reducible refine ks [] @bD ?_|refine kp @bD ?_
  refine Ow.nextText rfl rfl rfl (eA _ _ _) aC ?_
  rw[j1]
  generalize Sn:Utf8.decode ⟨s.toArray⟩ g=dd at*
  obtain⟨c,n⟩:=dd
  simp only at qb ⊢
  refine ko @bD ?_
  first|with_reducible refine ks [] @bD ?_|refine kp @bD ?_
  refine Ow.callFn1 (v:= .bool (badR c)) (k:=k) rfl rfl rfl hk (fun w' a7=>hc _ w') ?_
  rw[qb.1]
  refine ko @bD ?_
  cases pB:eJ (s.getD g 0)
  ·first|with_reducible refine ks [] @bD ?_|refine kp @bD ?_
   refine Again.mk (g+1) (by omega) ⟨by omega,fun i hi=> ?_⟩ ?_ rfl
   ·by_cases Ji:i=g
    ·rw[Ji];exact pB
    ·exact gS i (by omega)
   ·rw[qb.2 pB]
  ·first|with_reducible refine ks [] @bD ?_|refine kp @bD ?_
   refine⟨_,(ke @bD),⟨aG,trivial⟩, ?_⟩
   refine⟨(g:Int),rfl,⟨fun _=> ?_,fun _=>by omega⟩⟩
   rw[List.any_eq_true]
   refine⟨s.getD g 0, ?_,pB⟩
   rw[List.getD_eq_getElem?_getD,List.getElem?_eq_getElem aC]
   exact List.getElem_mem aC
 ·obtain rfl:g=s.length:=by omega
  first|with_reducible refine ks [] @bD ?_|refine kp @bD ?_
  refine Ow.nextOver rfl rfl rfl (eA _ _ _) aC ?_
  refine ko @bD ?_
  first|with_reducible refine ks [] @bD ?_|refine kp @bD ?_
  refine⟨_,(ke @bD),⟨aG,trivial⟩, ?_⟩
  refine⟨-1,rfl,⟨fun h=>by omega,fun h=> ?_⟩⟩
  rw[List.any_eq_true] at h
  obtain⟨x,hx,SJ⟩:=h
  obtain⟨i,hi,rfl⟩:=List.getElem_of_mem hx
  have:=gS i hi
  rw[List.getD_eq_getElem?_getD,List.getElem?_eq_getElem hi] at this
  exact absurd SJ (by simpa using this)
theorem Pa (s:List UInt8) (k:FuncId) (hk: ∀a w,(callFunc k a).run Tryz.prog w= .ok (.enter k a) w) (hc: ∀c w,Rets Tryz.prog k #[fV c] w (fun v D=>v= .bool (badR c)∧D= [])) (w:World) (hs:s.length<1099511627776):
  Rets Tryz.prog 223 #[vs s, .func (.func k) #[] #[]] w (fun v D=> ∃n:Int,v=vi n∧(0≤n↔s.any eJ=true)∧D= []):=by
 refine Rets.mono (S:=fun v D=>(∃n:Int,v=vi n∧(0≤n↔s.any eJ=true))∧D= []) ?_ (by rintro v D ⟨⟨n,h1,h2⟩,h3⟩;exact⟨n,h1,h2,h3⟩)
 refine Rets.enterV Tryz.func223 rfl (rs:= [.tmp 4]) Tryz.results223 Tryz.ntmps223 ?_
 refine kf ?_
 first|with_reducible refine ks [] @bD ?_|refine kp @bD ?_
 refine Ow.callF rfl rfl Tryz.call256 (S:=fun _ v D=> ∃n:Int,v=vi n∧(0≤n↔s.any eJ=true)∧D= []) (fun w' a7=>Pl s k hk hc w' hs) ?_
 rintro B v D - - ⟨n,rfl,hn,rfl⟩
 refine⟨_,Mrg.nil, ?_⟩
 refine ko @bD ?_
 first|with_reducible refine ks [] @bD ?_|refine kp @bD ?_
 refine⟨_,(ke @bD),trivial, ?_⟩
 exact⟨n,rfl,hn⟩
theorem Q7 (s:List UInt8) (k:FuncId) (hk: ∀a w,(callFunc k a).run Tryz.prog w= .ok (.enter k a) w) (hc: ∀c w,Rets Tryz.prog k #[fV c] w (fun v D=>v= .bool (badR c)∧D= [])) (w:World) (hs:s.length<1099511627776):
  Rets Tryz.prog 170 #[vs s, .func (.func k) #[] #[]] w (fun v D=>v= .bool (s.any eJ)∧D= []):=by
 refine Rets.enterV Tryz.func170 rfl (rs:= [.tmp 4]) Tryz.results170 Tryz.ntmps170 ?_
 refine kf ?_
 first|with_reducible refine ks [] @bD ?_|refine kp @bD ?_
 refine Ow.callF rfl rfl Tryz.call223 (S:=fun _ v D=> ∃n:Int,v=vi n∧(0≤n↔s.any eJ=true)∧D= []) (fun w' a7=>Pa s k hk hc w' hs) ?_
 rintro B v D - - ⟨n,rfl,hn,rfl⟩
 refine⟨_,Mrg.nil, ?_⟩
 refine ko @bD ?_
 first|with_reducible refine ks [] @bD ?_|refine kp @bD ?_
 refine⟨_,(ke @bD),trivial, ?_⟩
 exact congrArg Value.bool (by rw[Bool.eq_iff_iff,decide_eq_true_eq];exact hn)
theorem yt (s:List UInt8) (w:World) (hs:s.length<1099511627776):
  Rets Tryz.prog 193 #[vs s] w (fun v D=>v= .bool (!(s== [])&&decide (s.length≤32)&& !(s.any eJ))∧D= []):=by
 refine Rets.enterV Tryz.func193 rfl (rs:= [.tmp 2]) Tryz.results193 Tryz.ntmps193 ?_
 refine kf ?_
 cases h0: (s != [])
 ·have e0: (s== [])=true:=by simpa using h0
  first|with_reducible refine ks [] (And.intro @bD @h0) ?_|refine kp (And.intro @bD @h0) ?_
  refine⟨_,(ke @bD),trivial, ?_⟩
  simp[c0,e0]
 ·have e0: (s== [])=false:=by simpa using h0
  cases h1:decide ((s.length:Int)≤32)
  ·have e1:decide (s.length≤32)=false:=decide_eq_false (by have:=of_decide_eq_false h1;omega)
   first|with_reducible refine ks [] (And.intro @bD (And.intro @h0 (@h1))) ?_|refine kp (And.intro @bD (And.intro @h0 (@h1))) ?_
   refine⟨_,(ke @bD),trivial, ?_⟩
   simp only[c0,e0,e1,Bool.not_false,Bool.true_and,Bool.false_and,Bool.and_false]
  ·have e1:decide (s.length≤32)=true:=decide_eq_true (by have:=of_decide_eq_true h1;omega)
   first|with_reducible refine ks [] (And.intro @bD (And.intro @h0 (@h1))) ?_|refine kp (And.intro @bD (And.intro @h0 (@h1))) ?_
   refine Ow.callFV rfl Tryz.call170 (fun w' a7=>Q7 s 231 Tryz.call231 OW w' hs) ?_
   refine ko @bD ?_
   first|with_reducible refine ks [] @bD ?_|refine kp @bD ?_
   refine⟨_,(ke @bD),trivial, ?_⟩
   simp only[c0,e0,e1,Bool.not_false,Bool.true_and]
set_option linter.defProp false
def gA:=And.intro (And.intro (@cP) (@wK)) (And.intro (@wF) (And.intro (@wQ) (@cO)))
def lU (s:List UInt8):Bool:= !(s== [])&&decide (s.length≤32)&& !(s.any eJ)
theorem Ht (c:UInt8):eJ c=(decide (c<33) ||decide (126<c) || (c==47)):=by
 unfold eJ
 congr 1
 rw[Bool.eq_iff_iff,beq_iff_eq,beq_iff_eq,←UInt8.toNat_inj];rfl
theorem Oa (s:List UInt8) (w:World) (hs:s.length<1099511627776):
  Rets Tryz.prog 195 #[vs s] w (fun v D=>v= .bool (lU s)∧D= []):=by
 refine Rets.enterV Tryz.func195 rfl (rs:= [.tmp 2]) Tryz.results195 Tryz.ntmps195 ?_
 refine kf ?_
 first|with_reducible refine ks [] @gA ?_|refine kp @gA ?_
 refine Cw.loopG (G:=Nat) [4,5,6,7,10,11,12,13,14,15,16,17,18,19,20,21,22,23,24,25,2,8,9,3] (fun g=> [(3,vi g)]) (fun g=> []) (fun g=>g≤s.length∧ ∀i,i<g→eJ (s.getD i 0)=false) (fun g=>s.length - g) 0 rfl rfl ?_ ?_
 ·exact⟨by omega,fun i hi=>by omega⟩
 intro g j hg
 refine kv ?_
 obtain⟨pK,gS⟩:=hg
 by_cases aC:g<s.length
 ·have hb:=Ht (s.getD g 0)
  have pA:eJ (s.getD g 0)=true→lU s=false:=by
   intro h
   have:s.any eJ=true:=List.any_eq_true.2 ⟨s.getD g 0,by rw[List.getD_eq_getElem?_getD,List.getElem?_eq_getElem aC];exact List.getElem_mem aC,h⟩
   unfold lU
   rw[this];simp
  have bW:eJ (s.getD g 0)=false→ ∀i,i<g+1→eJ (s.getD i 0)=false:=fun h i hi=>by
   by_cases Ji:i=g
   ·rw[Ji];exact h
   ·exact gS i (by omega)
  generalize hc:s.getD g 0=c at*
  cases h1:decide (c<33)
  ·cases h2:decide (126<c)
   ·cases h3: (c==47)
    ·first|with_reducible refine ks [] (And.intro @gA (And.intro @hc (And.intro @h1 (And.intro @h2 (@h3))))) ?_|refine kp (And.intro @gA (And.intro @hc (And.intro @h1 (And.intro @h2 (@h3))))) ?_
     refine Again.mk (g+1) (by omega) ⟨by omega,bW (by rw[hb,h1,h2,h3];rfl)⟩ rfl rfl
    ·first|with_reducible refine ks [] (And.intro @gA (And.intro @hc (And.intro @h1 (And.intro @h2 (@h3))))) ?_|refine kp (And.intro @gA (And.intro @hc (And.intro @h1 (And.intro @h2 (@h3))))) ?_
     rw[pA (by rw[hb,h1,h2,h3];rfl)]
     refine⟨_,(ke @gA),trivial, ?_⟩
     rfl
   ·first|with_reducible refine ks [] (And.intro @gA (And.intro @hc (And.intro @h1 (@h2)))) ?_|refine kp (And.intro @gA (And.intro @hc (And.intro @h1 (@h2)))) ?_
    rw[pA (by rw[hb,h1,h2];rfl)]
    refine⟨_,(ke @gA),trivial, ?_⟩
    rfl
  ·first|with_reducible refine ks [] (And.intro @gA (And.intro @hc (@h1))) ?_|refine kp (And.intro @gA (And.intro @hc (@h1))) ?_
   rw[pA (by rw[hb,h1];simp)]
   refine⟨_,(ke @gA),trivial, ?_⟩
   rfl
 ·obtain rfl:g=s.length:=by omega
  have JP:s.any eJ=false:=by
   rw[List.any_eq_false]
   intro x hx
   obtain⟨i,hi,rfl⟩:=List.getElem_of_mem hx
   have:=gS i hi
   rw[List.getD_eq_getElem?_getD,List.getElem?_eq_getElem hi] at this
   simpa using this
  unfold lU
  rw[JP]
  cases h1:decide (1≤ (s.length:Int))
  ·have e0: (s== [])=true:=by
    have:=of_decide_eq_false h1
    rw[List.eq_nil_of_length_eq_zero (show s.length=0 by omega)];rfl
   first|with_reducible refine ks [] (And.intro @gA @h1) ?_|refine kp (And.intro @gA @h1) ?_
   refine⟨_,(ke @gA),trivial, ?_⟩
   simp only[c0,e0,Bool.not_true,Bool.false_and]
  ·have e0: (s== [])=false:=by
    have:=of_decide_eq_true h1
    cases s with
    |nil=>simp at this
    |cons x r=>rfl
   have e1:decide ((s.length:Int)≤32)=decide (s.length≤32):=decide_eq_decide.2 (by omega)
   first|with_reducible refine ks [] (And.intro @gA @h1) ?_|refine kp (And.intro @gA @h1) ?_
   refine⟨_,(ke @gA),trivial, ?_⟩
   simp only[c0,e0,e1,Bool.not_false,Bool.true_and,Bool.and_true]
end Go.Proofs
end
section
open Go Go.Proofs Go.Sx Go.StP
namespace Go.Proofs
set_option maxRecDepth 10000
set_option maxHeartbeats 4000000
set_option linter.unusedSimpArgs false
def cm (l:List EntL) (i:Nat):Bool:=
 lU (l.getD i ent0).name&& ((l.getD i ent0).kind==1|| (l.getD i ent0).kind==2)&& (i==0||ltB (l.getD (i - 1) ent0).name (l.getD i ent0).name)
def dr (l:List EntL):Bool:=decide (l.length≤32)&& (List.range l.length).all (cm l)
theorem nU {l:List EntL} {k:Nat} (hk:k<l.length) (h:cm l k=false):dr l=false:=by
 unfold dr
 have: (List.range l.length).all (cm l)=false:=by
  rw[List.all_eq_false]
  exact⟨k,List.mem_range.2 hk,by simp[h]⟩
 rw[this,Bool.and_false]
theorem Ky {l:List EntL} (h: ∀i,i<l.length→cm l i=true):dr l=decide (l.length≤32):=by
 unfold dr
 have: (List.range l.length).all (cm l)=true:=List.all_eq_true.2 fun i hi=>h i (List.mem_range.1 hi)
 rw[this,Bool.and_true]
set_option linter.defProp false
def dV:=And.intro (And.intro (And.intro (@qA) (@qy)) (And.intro (@r6) (@j0))) (And.intro (And.intro (@iR) (@gM)) (And.intro (@cP) (@cO)))
def qI (l:List EntL):Prop:= ∀i,i<l.length→(l.getD i ent0).name.length<1099511627776
theorem PM (s:List UInt8) (w:World) (hs:s.length<1099511627776):Rets Tryz.prog 193 #[vs s] w (fun v D=>v= .bool (lU s)∧D= []):=yt s w hs
theorem wV {a b:Int} {c:Bool} (h: (a !=b)=c): (a==b)= !c:=by rw[←h];simp[bne]
theorem MM (v:Value) (l:List EntL) (w:World) (hv:EntS w v l) (hl:l.length<1000000) (dL:qI l):
  Rets Tryz.prog 127 #[v] w (fun v' D=>v'= .bool (dr l)∧D= []):=by
 obtain⟨b,off,arr,E,fz,hr⟩:=hv.row
 have ln:=hv.len
 refine Rets.enterV Tryz.func127 rfl (rs:= [.tmp 2]) Tryz.results127 Tryz.ntmps127 ?_
 refine kf ?_
 first|with_reducible refine ks [] (And.intro @dV @ln) ?_|refine kp (And.intro @dV @ln) ?_
 refine Cw.loopG (G:=Nat) [8,9,10,11,4,3,12,13,14,15,16,17,18,19,20,21,22,23,24,25,26,27,28,29,30,31,32,33,34,35,36,37,38,39,40,2,41,7] (fun g=> [(7,vi g)]) (fun g=> []) (fun g=>g≤l.length∧ ∀i,i<g→cm l i=true) (fun g=>l.length - g) 0 rfl rfl ?_ ?_
 ·exact⟨Nat.zero_le _,fun i hi=>absurd hi (Nat.not_lt_zero i)⟩
 ·intro k jk hk
  refine kv ?_
  obtain⟨h1,h2⟩:=hk
  by_cases hk:k<l.length
  ·have h0:0<l.length:=by omega
   have dg:=hr.lt h0
   have r2:=hr.has h0
   have i2:=hr.idx true k hk
   have l2:=sq hr hk
   first|with_reducible refine ks [6] (And.intro @dV (And.intro @r2 (And.intro @i2 (@l2)))) ?_|refine kp (And.intro @dV (And.intro @r2 (And.intro @i2 (@l2)))) ?_
   refine Ow.alloc rfl rfl gg fun b4 dN cB=> ?_
   simp only[aU,List.nil_append,List.cons_append]
   have mS:b4≠b:=by omega
   refine ko @dV ?_
   have hs:=dL k hk
   refine Cw.regionS [b4,b] [0,1,2,3,4,5,6,7,8,9,10,11,12,13,14,15,16,17,18,19,20,21,22,24,23,25,26,27,28] [] (by kernel_rfl) (by kernel_rfl) (by kernel_rfl) ?_
   simp only[aN, ↓aM, ↓aH, ↓aL, ↓aK,aI]
   refine kq @dV ?_
   refine Ow.callFV rfl Tryz.call193 (fun w' a7=>PM (l.getD k ent0).name w' hs) ?_
   cases hn:lU (l.getD k ent0).name
   ·have e0:cm l k=false:=by unfold cm;rw[hn];rfl
    rw[nU hk e0]
    refine kq @dV ?_
    refine⟨_,(ke @dV),⟨cB,trivial⟩, ?_⟩
    rfl
   ·cases bk: ((l.getD k ent0).kind !=1)
    ·have gT: ((l.getD k ent0).kind==1|| (l.getD k ent0).kind==2)=true:=by rw[wV bk];rfl
     by_cases n8:k=0
     ·have d1:decide ((0:Int)< (k:Int))=false:=decide_eq_false (by omega)
      have e1:cm l k=true:=by unfold cm;rw[hn,gT,n8];rfl
      refine kq (And.intro @dV (And.intro @bk (@d1))) ?_
      refine Cw.forgetN [] (by exact⟨cB,trivial⟩) (by intro p hp;simp only[List.mem_cons,List.not_mem_nil,or_false] at hp ⊢;all_goals (first| (rcases hp with rfl|hp<;>simp_all) | (subst hp;simp) |simp_all)) (by simp[keys]<;>omega) ?_
      first|with_reducible refine ks [] @dV ?_|refine kp @dV ?_
      exact Again.mk (k+1) (by omega) ⟨by omega,fun i hi=>by
       rcases Nat.lt_succ_iff_lt_or_eq.1 hi with h|rfl
       ·exact h2 i h
       ·exact e1⟩ rfl rfl
     ·have d1:decide ((0:Int)< (k:Int))=true:=decide_eq_true (by omega)
      have i3:gi (.sl (true,34)) v (some ((k:Int) - 1))=some (vp b (off+ (k - 1)*34)):=by
       rw[show(k:Int) - 1=((k - 1:Nat):Int) by omega];exact hr.idx true (k - 1) (by omega)
      have l3: ∀n,aS (some (false,n)) (some (.cells arr E fz)) (off+ (k - 1)*34)=some (vs (l.getD (k - 1) ent0).name):=fun n=>vV hr (show k - 1<l.length by omega) n
      have ek: (k==0)=false:=beq_eq_false_iff_ne.2 n8
      cases gq:Op.bytesLess (l.getD (k - 1) ent0).name (l.getD k ent0).name
      ·have e1:cm l k=false:=by unfold cm;rw[hn,gT,ek];exact gq
       rw[nU hk e1]
       refine kq (And.intro @dV (And.intro @bk (And.intro @d1 (And.intro @i3 (And.intro @r2 (And.intro @l3 (@gq))))))) ?_
       refine⟨_,(ke @dV),⟨cB,trivial⟩, ?_⟩
       rfl
      ·have e1:cm l k=true:=by unfold cm;rw[hn,gT,ek];exact gq
       refine kq (And.intro @dV (And.intro @bk (And.intro @d1 (And.intro @i3 (And.intro @r2 (And.intro @l3 (@gq))))))) ?_
       refine Cw.forgetN [] (by exact⟨cB,trivial⟩) (by intro p hp;simp only[List.mem_cons,List.not_mem_nil,or_false] at hp ⊢;all_goals (first| (rcases hp with rfl|hp<;>simp_all) | (subst hp;simp) |simp_all)) (by simp[keys]<;>omega) ?_
       first|with_reducible refine ks [] @dV ?_|refine kp @dV ?_
       exact Again.mk (k+1) (by omega) ⟨by omega,fun i hi=>by
        rcases Nat.lt_succ_iff_lt_or_eq.1 hi with h|rfl
        ·exact h2 i h
        ·exact e1⟩ rfl rfl
    ·cases ap: ((l.getD k ent0).kind !=2)
     ·have gT: ((l.getD k ent0).kind==1|| (l.getD k ent0).kind==2)=true:=by rw[wV ap];simp
      by_cases n8:k=0
      ·have d1:decide ((0:Int)< (k:Int))=false:=decide_eq_false (by omega)
       have e1:cm l k=true:=by unfold cm;rw[hn,gT,n8];rfl
       refine kq (And.intro @dV (And.intro @bk (And.intro @ap (@d1)))) ?_
       refine Cw.forgetN [] (by exact⟨cB,trivial⟩) (by intro p hp;simp only[List.mem_cons,List.not_mem_nil,or_false] at hp ⊢;all_goals (first| (rcases hp with rfl|hp<;>simp_all) | (subst hp;simp) |simp_all)) (by simp[keys]<;>omega) ?_
       first|with_reducible refine ks [] @dV ?_|refine kp @dV ?_
       exact Again.mk (k+1) (by omega) ⟨by omega,fun i hi=>by
        rcases Nat.lt_succ_iff_lt_or_eq.1 hi with h|rfl
        ·exact h2 i h
        ·exact e1⟩ rfl rfl
      ·have d1:decide ((0:Int)< (k:Int))=true:=decide_eq_true (by omega)
       have i3:gi (.sl (true,34)) v (some ((k:Int) - 1))=some (vp b (off+ (k - 1)*34)):=by
        rw[show(k:Int) - 1=((k - 1:Nat):Int) by omega];exact hr.idx true (k - 1) (by omega)
       have l3: ∀n,aS (some (false,n)) (some (.cells arr E fz)) (off+ (k - 1)*34)=some (vs (l.getD (k - 1) ent0).name):=fun n=>vV hr (show k - 1<l.length by omega) n
       have ek: (k==0)=false:=beq_eq_false_iff_ne.2 n8
       cases gq:Op.bytesLess (l.getD (k - 1) ent0).name (l.getD k ent0).name
       ·have e1:cm l k=false:=by unfold cm;rw[hn,gT,ek];exact gq
        rw[nU hk e1]
        refine kq (And.intro @dV (And.intro @bk (And.intro @ap (And.intro @d1 (And.intro @i3 (And.intro @r2 (And.intro @l3 (@gq)))))))) ?_
        refine⟨_,(ke @dV),⟨cB,trivial⟩, ?_⟩
        rfl
       ·have e1:cm l k=true:=by unfold cm;rw[hn,gT,ek];exact gq
        refine kq (And.intro @dV (And.intro @bk (And.intro @ap (And.intro @d1 (And.intro @i3 (And.intro @r2 (And.intro @l3 (@gq)))))))) ?_
        refine Cw.forgetN [] (by exact⟨cB,trivial⟩) (by intro p hp;simp only[List.mem_cons,List.not_mem_nil,or_false] at hp ⊢;all_goals (first| (rcases hp with rfl|hp<;>simp_all) | (subst hp;simp) |simp_all)) (by simp[keys]<;>omega) ?_
        first|with_reducible refine ks [] @dV ?_|refine kp @dV ?_
        exact Again.mk (k+1) (by omega) ⟨by omega,fun i hi=>by
         rcases Nat.lt_succ_iff_lt_or_eq.1 hi with h|rfl
         ·exact h2 i h
         ·exact e1⟩ rfl rfl
     ·have e0:cm l k=false:=by
       unfold cm
       rw[hn,wV bk,wV ap];rfl
      rw[nU hk e0]
      refine kq (And.intro @dV (And.intro @bk (@ap))) ?_
      refine⟨_,(ke @dV),⟨cB,trivial⟩, ?_⟩
      rfl
  ·obtain rfl:k=l.length:=by omega
   rw[Ky h2]
   first|with_reducible refine ks [] (And.intro @dV @ln) ?_|refine kp (And.intro @dV @ln) ?_
   refine⟨_,(ke @dV),trivial, ?_⟩
   exact congrArg Value.bool (decide_eq_decide.2 (by omega))
end Go.Proofs
end
section
open Go Go.Proofs Go.Sx Go.StP
namespace Go.Proofs
set_option maxRecDepth 10000
set_option maxHeartbeats 4000000
set_option linter.unusedSimpArgs false
set_option linter.defProp false
def fO:=And.intro (And.intro (And.intro (@qA) (@qy)) (And.intro (@r6) (@j0))) (And.intro (And.intro (@iR) (@gM)) (And.intro (@cP) (@cO)))
theorem sT (a b:List UInt8): (Op.bytesLess a b||a==b)= !ltB b a:=by rw[←q8,Bool.not_not]
theorem PY (v:Value) (l:List EntL) (w:World) (hv:EntS w v l) (hl:l.length<1000000) (dL:qI l):
  Rets Tryz.prog 132 #[v] w (fun v' D=>v'= .bool (dr l)∧D= []):=by
 obtain⟨b,off,arr,E,fz,hr⟩:=hv.row
 have ln:=hv.len
 refine Rets.enterV Tryz.func132 rfl (rs:= [.tmp 2]) Tryz.results132 Tryz.ntmps132 ?_
 refine kf ?_
 by_cases Mc:32<l.length
 ·first|with_reducible refine ks [] (And.intro @fO @ln) ?_|refine kp (And.intro @fO @ln) ?_
  have:dr l=false:=by unfold dr;rw[decide_eq_false (by omega),Bool.false_and]
  rw[this]
  refine⟨_,(ke @fO),trivial, ?_⟩
  rfl
 ·first|with_reducible refine ks [] (And.intro @fO @ln) ?_|refine kp (And.intro @fO @ln) ?_
  refine Cw.loopG (G:=Nat) [7,8,9,10,13,14,15,16,17,18,19,20,21,22,23,24,25,26,27,28,29,30,31,32,33,34,35,2,36,37,38,39,40,41,42,43,44,45,46,47,48,49,50,51,11,12,3] (fun g=> [(3,vi g)]) (fun g=> []) (fun g=>g≤l.length∧ ∀i,i<g→cm l i=true) (fun g=>l.length - g) 0 rfl rfl ?_ ?_
  ·exact⟨Nat.zero_le _,fun i hi=>absurd hi (Nat.not_lt_zero i)⟩
  ·intro k jk hk
   refine kv ?_
   obtain⟨h1,h2⟩:=hk
   by_cases hk:k<l.length
   ·have h0:0<l.length:=by omega
    have dg:=hr.lt h0
    have r2:=hr.has h0
    have i2:=hr.idx true k hk
    have m0: ∀n,aS (some (false,n)) (some (.cells arr E fz)) (off+k*34)=some (vs (l.getD k ent0).name):=fun n=>vV hr hk n
    have m1: ∀n,aS (some (false,n)) (some (.cells arr E fz)) (off+k*34+1)=some (vi (l.getD k ent0).kind):=fun n=>sH hr hk n
    have hs:=dL k hk
    first|with_reducible refine ks [] (And.intro @fO (And.intro @ln (And.intro @r2 (And.intro @i2 (And.intro @m0 (@m1)))))) ?_|refine kp (And.intro @fO (And.intro @ln (And.intro @r2 (And.intro @i2 (And.intro @m0 (@m1)))))) ?_
    refine Ow.callFV rfl Tryz.call195 (fun w' a7=>Oa (l.getD k ent0).name w' hs) ?_
    cases hn:lU (l.getD k ent0).name
    ·have e0:cm l k=false:=by unfold cm;rw[hn];rfl
     rw[nU hk e0]
     refine ko @fO ?_
     refine⟨_,(ke @fO),trivial, ?_⟩
     rfl
    ·cases bk:decide ((l.getD k ent0).kind<1)
     ·cases ap:decide (2< (l.getD k ent0).kind)
      ·have gT: ((l.getD k ent0).kind==1|| (l.getD k ent0).kind==2)=true:=by
        have q1:=of_decide_eq_false bk
        have q2:=of_decide_eq_false ap
        rcases(show(l.getD k ent0).kind=1∨(l.getD k ent0).kind=2 by omega) with h|h<;>rw[h]<;>rfl
       refine ko (And.intro @fO (And.intro @r2 (And.intro @i2 (And.intro @m0 (And.intro @m1 (And.intro @bk (@ap))))))) ?_
       by_cases n8:k=0
       ·have d1:decide ((0:Int)< (k:Int))=false:=decide_eq_false (by omega)
        have e1:cm l k=true:=by unfold cm;rw[hn,gT,n8];rfl
        refine Cw.regionS [b] [0,1,2,3,4,5,6,8,9,10,11,12,7,13,14,15] [] (by kernel_rfl) (by kernel_rfl) (by kernel_rfl) ?_
        simp only[aN, ↓aM, ↓aH, ↓aL, ↓aK,aI]
        refine kq (And.intro @fO @d1) ?_
        exact Again.mk (k+1) (by omega) ⟨by omega,fun i hi=>by
         rcases Nat.lt_succ_iff_lt_or_eq.1 hi with h|rfl
         ·exact h2 i h
         ·exact e1⟩ rfl rfl
       ·have d1:decide ((0:Int)< (k:Int))=true:=decide_eq_true (by omega)
        have i3:gi (.sl (true,34)) v (some ((k:Int) - 1))=some (vp b (off+ (k - 1)*34)):=by
         rw[show(k:Int) - 1=((k - 1:Nat):Int) by omega];exact hr.idx true (k - 1) (by omega)
        have l3: ∀n,aS (some (false,n)) (some (.cells arr E fz)) (off+ (k - 1)*34)=some (vs (l.getD (k - 1) ent0).name):=fun n=>vV hr (show k - 1<l.length by omega) n
        have ek: (k==0)=false:=beq_eq_false_iff_ne.2 n8
        cases gq:ltB (l.getD (k - 1) ent0).name (l.getD k ent0).name
        ·have e1:cm l k=false:=by unfold cm;rw[hn,gT,ek];exact gq
         rw[nU hk e1]
         refine Cw.regionS [b] [0,1,2,3,4,5,6,8,9,10,11,12,7,13,14,15] [] (by kernel_rfl) (by kernel_rfl) (by kernel_rfl) ?_
         simp only[aN, ↓aM, ↓aH, ↓aL, ↓aK,aI]
         refine kq (And.intro @fO (And.intro @d1 (And.intro @i2 (And.intro @i3 (And.intro @r2 (And.intro @m0 (And.intro @l3 (And.intro @sT (@gq))))))))) ?_
         refine⟨_,(ke @fO),trivial, ?_⟩
         rfl
        ·have e1:cm l k=true:=by unfold cm;rw[hn,gT,ek];exact gq
         refine Cw.regionS [b] [0,1,2,3,4,5,6,8,9,10,11,12,7,13,14,15] [] (by kernel_rfl) (by kernel_rfl) (by kernel_rfl) ?_
         simp only[aN, ↓aM, ↓aH, ↓aL, ↓aK,aI]
         refine kq (And.intro @fO (And.intro @d1 (And.intro @i2 (And.intro @i3 (And.intro @r2 (And.intro @m0 (And.intro @l3 (And.intro @sT (@gq))))))))) ?_
         exact Again.mk (k+1) (by omega) ⟨by omega,fun i hi=>by
          rcases Nat.lt_succ_iff_lt_or_eq.1 hi with h|rfl
          ·exact h2 i h
          ·exact e1⟩ rfl rfl
      ·have e0:cm l k=false:=by
        have q2:=of_decide_eq_true ap
        unfold cm
        rw[hn,show((l.getD k ent0).kind==1)=false from beq_eq_false_iff_ne.2 (by omega),show((l.getD k ent0).kind==2)=false from beq_eq_false_iff_ne.2 (by omega)];rfl
       rw[nU hk e0]
       refine ko (And.intro @fO (And.intro @r2 (And.intro @i2 (And.intro @m0 (And.intro @m1 (And.intro @bk (@ap))))))) ?_
       refine⟨_,(ke @fO),trivial, ?_⟩
       rfl
     ·have e0:cm l k=false:=by
       have q2:=of_decide_eq_true bk
       unfold cm
       rw[hn,show((l.getD k ent0).kind==1)=false from beq_eq_false_iff_ne.2 (by omega),show((l.getD k ent0).kind==2)=false from beq_eq_false_iff_ne.2 (by omega)];rfl
      rw[nU hk e0]
      refine ko (And.intro @fO (And.intro @r2 (And.intro @i2 (And.intro @m0 (And.intro @m1 (@bk)))))) ?_
      refine⟨_,(ke @fO),trivial, ?_⟩
      rfl
   ·obtain rfl:k=l.length:=by omega
    rw[Ky h2,show decide (l.length≤32)=true from decide_eq_true (by omega)]
    first|with_reducible refine ks [] (And.intro @fO @ln) ?_|refine kp (And.intro @fO @ln) ?_
    refine⟨_,(ke @fO),trivial, ?_⟩
    rfl
end Go.Proofs
end
section
open Go Go.Proofs Go.Sx Go.StP
namespace Go.Proofs
set_option maxRecDepth 10000
set_option maxHeartbeats 4000000
set_option linter.unusedSimpArgs false
theorem qF (x:IdL): (aJ x).length=32:=by simp[aJ,x.h]
theorem LL (x:IdL): (aJ x).all Value.oneCell'=true:=n7 _
abbrev IdS (w:World) (v:Value) (l:List IdL):Prop:=SlV 32 aJ id0 w v l
theorem nu {w:World} {v:Value} {l:List IdL} {b off:Nat} {arr:Array Value} {E:TypeId} {fz:Nat×Nat} (h:RowS 32 aJ id0 w v l b off arr E fz) {k:Nat} (hk:k<l.length):
  aS (some (true,32)) (some (.cells arr E fz)) (off+k*32)=some (.agg (a8 (l.getD k id0).l)):=RowS.load h qF (by omega) hk
theorem mA (a b:IdL):aj Tryz.prog .eql 24 (.agg (a8 a.l)) (.agg (a8 b.l))=some (.bool (a.l==b.l)):=
 sP Tryz.underlying24 Tryz.underlying5 Tryz.ag5 (by kernel_rfl) a.l b.l ⟨a.h,b.h⟩
theorem m8 (a b:IdL):aj Tryz.prog .neq 24 (.agg (a8 a.l)) (.agg (a8 b.l))=some (.bool (!(a.l==b.l))):=
 rj Tryz.underlying24 Tryz.underlying5 Tryz.ag5 (by kernel_rfl) a.l b.l ⟨a.h,b.h⟩
instance:DecidableEq IdL:=fun a b=>if h:a.l=b.l then .isTrue (by cases a;cases b;simp only at h;subst h;rfl) else .isFalse (fun e=>h (by rw[e]))
theorem IdL.ext' {a b:IdL} (h:a.l=b.l):a=b:=by cases a;cases b;simp only at h;subst h;rfl
def idxG (x:IdL):List IdL→Nat→Int
 | [],_=> -1
 |y::r,i=>if x.l==y.l then(i:Int) else idxG x r (i+1)
theorem Dz (x y:IdL) (r:List IdL) (i:Nat):idxG x (y::r) i=if x.l==y.l then(i:Int) else idxG x r (i+1):=rfl
theorem rt (x:IdL): ∀ (l:List IdL) (i:Nat),decide (0≤idxG x l i)=l.any fun y=>x.l==y.l
 | [],_=>rfl
 |y::r,i=>by
  unfold idxG
  rw[List.any_cons]
  cases h: (x.l==y.l)
  ·rw[if_neg (by simp),Bool.false_or];exact rt x r (i+1)
  ·rw[if_pos rfl,Bool.true_or,decide_eq_true (by omega)]
theorem jO (x:IdL) (E:TypeId) (fz:Nat×Nat):aS (some (true,32)) (some (.cells (a8 x.l) E fz)) 0=some (.agg (a8 x.l)):=wc _ E fz 32 x.h
set_option linter.defProp false
def cW:=And.intro (And.intro (@mA) (@m8)) (And.intro (@jO) (And.intro (@cP) (@cO)))
theorem Oi (v:Value) (l:List IdL) (x:IdL) (w:World) (hv:IdS w v l) (hl:l.length<1000000):
  Rets Tryz.prog 271 #[v, .agg (a8 x.l)] w (fun v' D=>v'=vi (idxG x l 0)∧D= []):=by
 obtain⟨b,off,arr,E,fz,hr⟩:=hv.row
 have ln:=hv.len
 refine Rets.enterV Tryz.func271 rfl (rs:= [.tmp 4]) Tryz.results271 Tryz.ntmps271 ?_
 refine kf ?_
 first|with_reducible refine ks [] @cW ?_|refine kp @cW ?_
 refine Ow.box rfl rfl fun b1 bJ aG=> ?_
 simp only[bp,bj,cJ,aU,List.nil_append,List.cons_append]
 refine Ow.go rfl ?_
 simp(disch:=(first|assumption|omega| (simp only[ac,ab,UInt64.reduceToNat];try omega))) only[↓Sx.S0,Sx.S1,Tryz.fx,cW,Nat.reduceAdd,Nat.reducePow,Int.reducePow,Nat.reduceBEq, ↓reduceIte,UInt8.reduceToNat,UInt16.reduceToNat,UInt32.reduceToNat,UInt64.reduceToNat,Int.reduceToNat]
 first|with_reducible refine ks [] (And.intro @cW @ln) ?_|refine kp (And.intro @cW @ln) ?_
 refine Cw.loopG (G:=Nat) [9,10,5,11,12,13,14,15,16,17,4,18,8] (fun g=> [(8,vi g)]) (fun g=> [(b1, .cells (a8 x.l) 24 (0,0))]) (fun g=>g≤l.length∧idxG x l 0=idxG x (l.drop g) g) (fun g=>l.length - g) 0 rfl rfl ?_ ?_
 ·exact⟨Nat.zero_le _,rfl⟩
 ·intro k jk hk
  refine kv ?_
  obtain⟨h1,h2⟩:=hk
  by_cases hk:k<l.length
  ·have h0:0<l.length:=by omega
   have dg:=hr.lt h0
   have jI:b1≠b:=by omega
   have r2:=hr.has h0
   have i2:=hr.idx true k hk
   have l2:=nu hr hk
   rw[drop_cons (z:=id0) hk,Dz] at h2
   first|with_reducible refine ks [] @cW ?_|refine kp @cW ?_
   refine Cw.regionS [b1,b] [1,2,3,0,4,5] [] (by kernel_rfl) (by kernel_rfl) (by kernel_rfl) ?_
   simp only[aN, ↓aM, ↓aH, ↓aL, ↓aK,aI]
   refine kq (And.intro @cW (And.intro @i2 (And.intro @r2 (@l2)))) ?_
   cases hq: (x.l==(l.getD k id0).l)
   ·rw[hq,if_neg (by simp)] at h2
    first|with_reducible refine ks [] (And.intro @cW @hq) ?_|refine kp (And.intro @cW @hq) ?_
    exact Again.mk (k+1) (by omega) ⟨hk,h2⟩ rfl rfl
   ·rw[hq,if_pos rfl] at h2
    rw[h2]
    first|with_reducible refine ks [] (And.intro @cW @hq) ?_|refine kp (And.intro @cW @hq) ?_
    refine⟨_,(ke @cW),⟨aG,trivial⟩, ?_⟩
    rfl
  ·obtain rfl:k=l.length:=by omega
   rw[List.drop_length] at h2
   rw[h2]
   first|with_reducible refine ks [] @cW ?_|refine kp @cW ?_
   refine⟨_,(ke @cW),⟨aG,trivial⟩, ?_⟩
   rfl
theorem OK (v:Value) (l:List IdL) (x:IdL) (w:World) (hv:IdS w v l) (hl:l.length<1000000):
  Rets Tryz.prog 235 #[v, .agg (a8 x.l)] w (fun v' D=>v'= .bool (l.any fun y=>x.l==y.l)∧D= []):=by
 refine Rets.enterV Tryz.func235 rfl (rs:= [.tmp 4]) Tryz.results235 Tryz.ntmps235 ?_
 refine kf ?_
 first|with_reducible refine ks [] @cW ?_|refine kp @cW ?_
 refine Ow.box rfl rfl fun b1 bJ aG=> ?_
 simp only[bp,bj,cJ,aU,List.nil_append,List.cons_append]
 refine Ow.go rfl ?_
 simp(disch:=(first|assumption|omega| (simp only[ac,ab,UInt64.reduceToNat];try omega))) only[↓Sx.S0,Sx.S1,Tryz.fx,cW,Nat.reduceAdd,Nat.reducePow,Int.reducePow,Nat.reduceBEq, ↓reduceIte,UInt8.reduceToNat,UInt16.reduceToNat,UInt32.reduceToNat,UInt64.reduceToNat,Int.reduceToNat]
 first|with_reducible refine ks [] @cW ?_|refine kp @cW ?_
 refine Ow.callFV rfl Tryz.call271 (fun w' a7=>Oi v l x w' (hv.oldN a7 ⟨aG,trivial⟩) hl) ?_
 refine ko @cW ?_
 refine⟨_,(ke @cW),⟨aG,trivial⟩, ?_⟩
 exact congrArg Value.bool (rt x l 0)
theorem MF (v1 v2:Value) (l1 l2:List IdL) (w:World) (NI:IdS w v1 l1) (x9:IdS w v2 l2) (jl:l1.length<1000000) (_hl2:l2.length<1000000):
  Rets Tryz.prog 26 #[v1,v2] w (fun v' D=>v'= .bool (decide (l1=l2))∧D= []):=by
 obtain⟨b1,off1,arr1,E1,fz1,nQ⟩:=NI.row
 obtain⟨b2,off2,arr2,E2,fz2,mX⟩:=x9.row
 have ln1:=NI.len
 have ln2:=x9.len
 refine Rets.enterV Tryz.func26 rfl (rs:= [.tmp 4]) Tryz.results26 Tryz.ntmps26 ?_
 refine kf ?_
 by_cases hl:l1.length=l2.length
 ·first|with_reducible refine ks [] (And.intro @cW (And.intro @ln1 (@ln2))) ?_|refine kp (And.intro @cW (And.intro @ln1 (@ln2))) ?_
  refine Cw.loopG (G:=Nat) [11,12,13,14,17,18,19,20,21,22,23,24,25,4,15,16,5] (fun g=> [(5,vi g)]) (fun g=> []) (fun g=>g≤l1.length∧l1.take g=l2.take g) (fun g=>l1.length - g) 0 rfl rfl ?_ ?_
  ·exact⟨Nat.zero_le _,rfl⟩
  ·intro k jk hk
   refine kv ?_
   obtain⟨h1,h2⟩:=hk
   by_cases hk:k<l1.length
   ·have h0:0<l1.length:=by omega
    have ra:=nQ.has h0
    have rb:=mX.has (show 0<l2.length by omega)
    have ia:=nQ.idx true k hk
    have ib:=mX.idx true k (show k<l2.length by omega)
    have la:=nu nQ hk
    have lb:=nu mX (show k<l2.length by omega)
    first|with_reducible refine ks [] (And.intro @cW @ln1) ?_|refine kp (And.intro @cW @ln1) ?_
    refine Cw.regionS [b1,b2] [0,1,2,4,5,6,3,7,8] [] (by kernel_rfl) (by kernel_rfl) (by kernel_rfl) ?_
    simp only[aN, ↓aM, ↓aH, ↓aL, ↓aK,aI]
    refine kq (And.intro @cW (And.intro @ra (And.intro @rb (And.intro @ia (And.intro @ib (And.intro @la (@lb))))))) ?_
    cases hq: ((l1.getD k id0).l==(l2.getD k id0).l)
    ·have:decide (l1=l2)=false:=decide_eq_false (fun e=>by rw[e] at hq;simp at hq)
     rw[this]
     first|with_reducible refine ks [] (And.intro @cW @hq) ?_|refine kp (And.intro @cW @hq) ?_
     refine⟨_,(ke @cW),trivial, ?_⟩
     rfl
    ·first|with_reducible refine ks [] (And.intro @cW @hq) ?_|refine kp (And.intro @cW @hq) ?_
     refine Again.mk (k+1) (by omega) ⟨hk, ?_⟩ rfl rfl
     have e:l1.getD k id0=l2.getD k id0:=IdL.ext' (by simpa using hq)
     rw[take_snoc (z:=id0) hk,take_snoc (z:=id0) (show k<l2.length by omega),h2,e]
   ·obtain rfl:k=l1.length:=by omega
    have:l1=l2:=by rw[List.take_length,hl,List.take_length] at h2;exact h2
    rw[decide_eq_true this]
    first|with_reducible refine ks [] (And.intro @cW @ln1) ?_|refine kp (And.intro @cW @ln1) ?_
    refine⟨_,(ke @cW),trivial, ?_⟩
    rfl
 ·have:decide (l1=l2)=false:=decide_eq_false (fun e=>hl (by rw[e]))
  rw[this]
  first|with_reducible refine ks [] (And.intro @cW (And.intro @ln1 (@ln2))) ?_|refine kp (And.intro @cW (And.intro @ln1 (@ln2))) ?_
  refine⟨_,(ke @cW),trivial, ?_⟩
  rfl
end Go.Proofs
end
section
open Go Go.Proofs Go.Sx Go.StP
namespace Go.Proofs
set_option maxRecDepth 10000
set_option maxHeartbeats 4000000
set_option linter.unusedSimpArgs false
structure ComL where
 tree:IdL
 par:List IdL
 text:List UInt8
def aY (t:IdL) (p:Value) (x:List UInt8):List Value:=t.l.map v8++ ([p]++ [vs x])
theorem pu (t:IdL) (p:Value) (x:List UInt8): (aY t p x).length=34:=by simp[aY,t.h]
theorem GW (t:IdL) (p:Value) (x:List UInt8) (hp:Value.oneCell' p=true): (aY t p x).all Value.oneCell'=true:=by
 unfold aY
 simp only[List.all_append,List.all_cons,List.all_nil,n7,hp,Bool.and_true,Bool.true_and]
 rfl
theorem qD (t:IdL) (p:Value) (x:List UInt8):Value.cells (.agg (aY t p x).toArray)=(aY t p x).toArray:=aU _
theorem vE (t:IdL) (p:Value) (x:List UInt8) (E:TypeId) (fz:Nat×Nat):aS (some (true,32)) (some (.cells (aY t p x).toArray E fz)) 0=some (.agg (a8 t.l)):=by
 unfold aY;exact mr [] _ _ E fz rfl (by simp[t.h])
theorem vF (t:IdL) (p:Value) (x:List UInt8) (n:Nat) (E:TypeId) (fz:Nat×Nat):aS (some (false,n)) (some (.cells (aY t p x).toArray E fz)) 32=some p:=by
 unfold aY;exact my _ _ p n E fz (by simp[t.h])
theorem vK (t:IdL) (p:Value) (x:List UInt8) (n:Nat) (E:TypeId) (fz:Nat×Nat):aS (some (false,n)) (some (.cells (aY t p x).toArray E fz)) 33=some (vs x):=by
 have e:aY t p x=(t.l.map v8++ [p])++ ([vs x]++ []):=by unfold aY;simp only[List.append_assoc,List.append_nil]
 rw[e];exact my _ _ (vs x) n E fz (by simp[t.h])
theorem ve (t:IdL) (p:Value) (x:List UInt8) (E:TypeId) (fz:Nat×Nat):aS (some (true,34)) (some (.cells (aY t p x).toArray E fz)) 0=some (.agg (aY t p x).toArray):=rF _ E fz 34 (by rw[List.size_toArray,pu])
theorem wb (old:Array Value) (t:IdL) (p:Value) (x:List UInt8) (a:Bool) (E:TypeId) (h:old.size=34) (hp:Value.oneCell' p=true):aZ (some (a,34)) (some (.cells old E (0,0))) 0 (.agg (aY t p x).toArray)=some (.cells (aY t p x).toArray E (0,0)):=KY _ a old E (pu t p x) (GW t p x hp) h
def iW (l:List IdL) (i:Nat):Bool:= !((l.take i).any fun y=>(l.getD i id0).l==y.l)
def ga (c:ComL):Bool:=(decide (c.par.length≤4)&&decide (c.text.length≤64))&& (List.range c.par.length).all (iW c.par)
theorem rg {c:ComL} {k:Nat} (hk:k<c.par.length) (h:iW c.par k=false):ga c=false:=by
 unfold ga
 have: (List.range c.par.length).all (iW c.par)=false:=by
  rw[List.all_eq_false]
  exact⟨k,List.mem_range.2 hk,by simp[h]⟩
 rw[this,Bool.and_false]
theorem LT {c:ComL} (h: ∀i,i<c.par.length→iW c.par i=true):ga c=(decide (c.par.length≤4)&&decide (c.text.length≤64)):=by
 unfold ga
 have: (List.range c.par.length).all (iW c.par)=true:=List.all_eq_true.2 fun i hi=>h i (List.mem_range.1 hi)
 rw[this,Bool.and_true]
abbrev ComS (w:World) (v:Value) (c:ComL):Prop:= ∃p,v= .agg (aY c.tree p c.text).toArray∧IdS w p c.par
theorem SlV.one {α:Type} {m:Nat} {enc:α→List Value} {z:α} {w:World} {v:Value} {l:List α} (h:SlV m enc z w v l):Value.oneCell' v=true∧v.cells= #[v]:=by
 obtain⟨b,off,c,arr,E,fz,-,-,⟨rfl,-,-⟩ | ⟨rfl,-,-⟩⟩:=h<;>exact⟨rfl,rfl⟩
set_option linter.defProp false
def fh:=And.intro (And.intro (And.intro (@mA) (@m8)) (And.intro (@jO) (And.intro (@cP) (@cO)))) (And.intro (And.intro (@vE) (@vF)) (And.intro (@vK) (And.intro (@ve) (@qD))))
theorem AQ (v:Value) (c:ComL) (w:World) (hv:ComS w v c) (hl:c.par.length<1000000) (ht:c.text.length<1099511627776):
  Rets Tryz.prog 204 #[v] w (fun v' D=>v'= .bool (ga c)∧D= []):=by
 obtain⟨p,rfl,hp⟩:=hv
 obtain⟨b,off,arr,E,fz,hr⟩:=hp.row
 have ln:=hp.len
 refine Rets.enterV Tryz.func204 rfl (rs:= [.tmp 2]) Tryz.results204 Tryz.ntmps204 ?_
 refine kf ?_
 first|with_reducible refine ks [] @fh ?_|refine kp @fh ?_
 refine Ow.box rfl rfl fun bx qc iw=> ?_
 simp only[bp,bj,cJ,aU,List.nil_append,List.cons_append]
 refine Ow.go rfl ?_
 simp(disch:=(first|assumption|omega| (simp only[ac,ab,UInt64.reduceToNat];try omega))) only[↓Sx.S0,Sx.S1,Tryz.fx,fh,Nat.reduceAdd,Nat.reducePow,Int.reducePow,Nat.reduceBEq, ↓reduceIte,UInt8.reduceToNat,UInt16.reduceToNat,UInt32.reduceToNat,UInt64.reduceToNat,Int.reduceToNat]
 first|with_reducible refine ks [] (And.intro @fh @ln) ?_|refine kp (And.intro @fh @ln) ?_
 refine Cw.loopG (G:=Nat) [9,10,11,12,4,3,13,14,15,16,17,18,2,19,8] (fun g=> [(8,vi g)]) (fun g=> [(bx, .cells (aY c.tree p c.text).toArray 126 (0,0))]) (fun g=>g≤c.par.length∧ ∀i,i<g→iW c.par i=true) (fun g=>c.par.length - g) 0 rfl rfl ?_ ?_
 ·exact⟨Nat.zero_le _,fun i hi=>absurd hi (Nat.not_lt_zero i)⟩
 ·intro k jk hk
  refine kv ?_
  obtain⟨h1,h2⟩:=hk
  by_cases hk:k<c.par.length
  ·have h0:0<c.par.length:=by omega
   have dg:=hr.lt h0
   have uY:bx≠b:=by omega
   have r2:=hr.has h0
   have i2:=hr.idx true k hk
   have l2:=nu hr hk
   obtain⟨v3,s3,S7,-⟩:=hp.take (show k≤c.par.length by omega) true
   first|with_reducible refine ks [6] (And.intro @fh (And.intro @i2 (And.intro @r2 (@l2)))) ?_|refine kp (And.intro @fh (And.intro @i2 (And.intro @r2 (@l2)))) ?_
   refine Ow.alloc rfl rfl Tryz.zr24 fun b4 dN cB=> ?_
   simp only[aU,List.nil_append,List.cons_append]
   obtain⟨h4,-⟩:=dN
   have gI:=(c.par.getD k id0).h
   refine ko @fh ?_
   refine Cw.regionS [bx,b4] [0,2,1,3,4,5] [] (by kernel_rfl) (by kernel_rfl) (by kernel_rfl) ?_
   simp only[aN, ↓aM, ↓aH, ↓aL, ↓aK,aI]
   refine kq (And.intro @fh @s3) ?_
   refine Ow.callFV rfl Tryz.call235 (fun w' a7=>OK v3 (c.par.take k) (c.par.getD k id0) w' (S7.oldN a7 ⟨iw,cB,trivial⟩) (by rw[List.length_take];omega)) ?_
   cases hq: (c.par.take k).any fun y=>(c.par.getD k id0).l==y.l
   ·have e1:iW c.par k=true:=by unfold iW;rw[hq];rfl
    refine kq @fh ?_
    refine Cw.forgetN [(bx, .cells (aY c.tree p c.text).toArray 126 (0,0))] (by exact⟨iw,cB,trivial⟩) (by intro p hp;simp only[List.mem_cons,List.not_mem_nil,or_false] at hp ⊢;all_goals (first| (rcases hp with rfl|hp<;>simp_all) | (subst hp;simp) |simp_all)) (by simp[keys]<;>omega) ?_
    first|with_reducible refine ks [] @fh ?_|refine kp @fh ?_
    exact Again.mk (k+1) (by omega) ⟨by omega,fun i hi=>by
     rcases Nat.lt_succ_iff_lt_or_eq.1 hi with h|rfl
     ·exact h2 i h
     ·exact e1⟩ rfl rfl
   ·have e1:iW c.par k=false:=by unfold iW;rw[hq];rfl
    rw[rg hk e1]
    refine kq @fh ?_
    refine⟨_,(ke @fh),⟨iw,cB,trivial⟩, ?_⟩
    rfl
  ·obtain rfl:k=c.par.length:=by omega
   rw[LT h2]
   by_cases h4:c.par.length≤4
   ·have d1:decide (((c.par.length:Nat):Int)≤4)=true:=decide_eq_true (by omega)
    first|with_reducible refine ks [] (And.intro @fh (And.intro @ln (@d1))) ?_|refine kp (And.intro @fh (And.intro @ln (@d1))) ?_
    refine⟨_,(ke @fh),⟨iw,trivial⟩, ?_⟩
    rw[show decide (c.par.length≤4)=true from decide_eq_true h4,Bool.true_and];exact congrArg Value.bool (decide_eq_decide.2 (by omega))
   ·have d1:decide (((c.par.length:Nat):Int)≤4)=false:=decide_eq_false (by omega)
    first|with_reducible refine ks [] (And.intro @fh (And.intro @ln (@d1))) ?_|refine kp (And.intro @fh (And.intro @ln (@d1))) ?_
    refine⟨_,(ke @fh),⟨iw,trivial⟩, ?_⟩
    rw[show decide (c.par.length≤4)=false from decide_eq_false h4];rfl
end Go.Proofs
end
section
open Go Go.Proofs Go.Sx Go.StP
namespace Go.Proofs
set_option maxRecDepth 10000
set_option maxHeartbeats 4000000
set_option linter.unusedSimpArgs false
set_option linter.defProp false
def dz:=And.intro (And.intro (And.intro (@mA) (@m8)) (And.intro (@jO) (And.intro (@cP) (@cO)))) (And.intro (And.intro (@vE) (@vF)) (And.intro (@vK) (And.intro (@ve) (@qD))))
theorem FG {l:List IdL} {k:Nat} {x:IdL} (hk:k<l.length) (h: ((l.take k).any fun y=>x.l==y.l)=false) (h2: (x.l==(l.getD k id0).l)=false): ((l.take (k+1)).any fun y=>x.l==y.l)=false:=by
 rw[take_snoc (z:=id0) hk,List.any_append,h,Bool.false_or,List.any_cons,h2];rfl
theorem Gd {l:List IdL} {k i:Nat} {x:IdL} (hk:k<l.length) (hi:k<i) (h2: (x.l==(l.getD k id0).l)=true): ((l.take i).any fun y=>x.l==y.l)=true:=by
 rw[List.any_eq_true]
 refine⟨l.getD k id0, ?_,h2⟩
 rw[←vT (l:=l) (z:=id0) hi]
 exact wJ (by rw[List.length_take];omega)
theorem OU (v:Value) (c:ComL) (w:World) (hv:ComS w v c) (hl:c.par.length<1000000) (ht:c.text.length<1099511627776):
  Rets Tryz.prog 134 #[v] w (fun v' D=>v'= .bool (ga c)∧D= []):=by
 obtain⟨p,rfl,hp⟩:=hv
 obtain⟨b,off,arr,E,fz,hr⟩:=hp.row
 have ln:=hp.len
 refine Rets.enterV Tryz.func134 rfl (rs:= [.tmp 2]) Tryz.results134 Tryz.ntmps134 ?_
 refine kf ?_
 first|with_reducible refine ks [] @dz ?_|refine kp @dz ?_
 refine Ow.box rfl rfl fun bx qc iw=> ?_
 simp only[bp,bj,cJ,aU,List.nil_append,List.cons_append]
 refine Ow.go rfl ?_
 simp(disch:=(first|assumption|omega| (simp only[ac,ab,UInt64.reduceToNat];try omega))) only[↓Sx.S0,Sx.S1,Tryz.fx,dz,Nat.reduceAdd,Nat.reducePow,Int.reducePow,Nat.reduceBEq, ↓reduceIte,UInt8.reduceToNat,UInt16.reduceToNat,UInt32.reduceToNat,UInt64.reduceToNat,Int.reduceToNat]
 by_cases h4:4<c.par.length
 ·have d1:decide (4< ((c.par.length:Nat):Int))=true:=decide_eq_true (by omega)
  first|with_reducible refine ks [] (And.intro @dz (And.intro @ln (@d1))) ?_|refine kp (And.intro @dz (And.intro @ln (@d1))) ?_
  have:ga c=false:=by unfold ga;rw[show decide (c.par.length≤4)=false from decide_eq_false (by omega)];rfl
  rw[this]
  refine⟨_,(ke @dz),⟨iw,trivial⟩, ?_⟩
  rfl
 have d1:decide (4< ((c.par.length:Nat):Int))=false:=decide_eq_false (by omega)
 by_cases gj:64<c.text.length
 ·have d2:decide (64< ((c.text.length:Nat):Int))=true:=decide_eq_true (by omega)
  first|with_reducible refine ks [] (And.intro @dz (And.intro @ln (And.intro @d1 (@d2)))) ?_|refine kp (And.intro @dz (And.intro @ln (And.intro @d1 (@d2)))) ?_
  have:ga c=false:=by unfold ga;rw[show decide (c.text.length≤64)=false from decide_eq_false (by omega),Bool.and_false];rfl
  rw[this]
  refine⟨_,(ke @dz),⟨iw,trivial⟩, ?_⟩
  rfl
 have d2:decide (64< ((c.text.length:Nat):Int))=false:=decide_eq_false (by omega)
 first|with_reducible refine ks [] (And.intro @dz (And.intro @ln (And.intro @d1 (@d2)))) ?_|refine kp (And.intro @dz (And.intro @ln (And.intro @d1 (@d2)))) ?_
 refine Cw.loopG (G:=Nat) [15,16,17,18,19,4,22,23,24,27,28,29,30,31,32,33,34,35,36,37,2,25,26,20,21,3] (fun g=> [(3,vi g)]) (fun g=> [(bx, .cells (aY c.tree p c.text).toArray 126 (0,0))]) (fun g=>g≤c.par.length∧ ∀i,i<g→iW c.par i=true) (fun g=>c.par.length - g) 0 rfl rfl ?_ ?_
 ·exact⟨Nat.zero_le _,fun i hi=>absurd hi (Nat.not_lt_zero i)⟩
 ·intro i ji hi
  refine kv ?_
  obtain⟨h1,h2⟩:=hi
  by_cases hi:i<c.par.length
  ·have h0:0<c.par.length:=by omega
   have dg:=hr.lt h0
   have uY:bx≠b:=by omega
   have r2:=hr.has h0
   have i2:=hr.idx true i hi
   have l2:=nu hr hi
   first|with_reducible refine ks [] (And.intro @dz @ln) ?_|refine kp (And.intro @dz @ln) ?_
   refine Cw.loopG (G:=Nat) [22,23,24,27,28,29,30,31,32,33,34,35,36,37,2,25,26,4] (fun g=> [(4,vi g)]) (fun g=> [(bx, .cells (aY c.tree p c.text).toArray 126 (0,0))]) (fun g=>g≤i∧((c.par.take g).any fun y=>(c.par.getD i id0).l==y.l)=false) (fun g=>i - g) 0 rfl rfl ?_ ?_
   ·exact⟨Nat.zero_le _,rfl⟩
   ·intro k jk hk
    refine kv ?_
    obtain⟨g1,g2⟩:=hk
    by_cases hk:k<i
    ·have i3:=hr.idx true k (show k<c.par.length by omega)
     have l3:=nu hr (show k<c.par.length by omega)
     first|with_reducible refine ks [] @dz ?_|refine kp @dz ?_
     refine Cw.regionS [bx,b] [0,2,5,7,1,3,4,6,8,9,10] [] (by kernel_rfl) (by kernel_rfl) (by kernel_rfl) ?_
     simp only[aN, ↓aM, ↓aH, ↓aL, ↓aK,aI]
     refine kq (And.intro @dz (And.intro @i2 (And.intro @r2 (And.intro @l2 (And.intro @i3 (@l3)))))) ?_
     cases hq: ((c.par.getD i id0).l==(c.par.getD k id0).l)
     ·first|with_reducible refine ks [] (And.intro @dz @hq) ?_|refine kp (And.intro @dz @hq) ?_
      exact Again.mk (k+1) (by omega) ⟨by omega,FG (by omega) g2 hq⟩ rfl rfl
     ·have e1:iW c.par i=false:=by unfold iW;rw[Gd (by omega) hk hq];rfl
      rw[rg hi e1]
      first|with_reducible refine ks [] (And.intro @dz @hq) ?_|refine kp (And.intro @dz @hq) ?_
      refine⟨_,(ke @dz),⟨iw,trivial⟩, ?_⟩
      rfl
    ·obtain rfl:k=i:=by omega
     have e1:iW c.par k=true:=by unfold iW;rw[g2];rfl
     first|with_reducible refine ks [] @dz ?_|refine kp @dz ?_
     exact Again.mk (k+1) (by omega) ⟨by omega,fun i hi=>by
      rcases Nat.lt_succ_iff_lt_or_eq.1 hi with h|rfl
      ·exact h2 i h
      ·exact e1⟩ rfl rfl
  ·obtain rfl:i=c.par.length:=by omega
   rw[LT h2,show decide (c.par.length≤4)=true from decide_eq_true (by omega),show decide (c.text.length≤64)=true from decide_eq_true (by omega)]
   first|with_reducible refine ks [] (And.intro @dz @ln) ?_|refine kp (And.intro @dz @ln) ?_
   refine⟨_,(ke @dz),⟨iw,trivial⟩, ?_⟩
   rfl
end Go.Proofs
end
section
open Go Go.Proofs Go.Sx
namespace Go.Proofs
set_option maxRecDepth 10000
set_option maxHeartbeats 4000000
set_option linter.unusedSimpArgs false
theorem uv {n:Nat} (h:n<1099511627776):dI (n:Int)=n:=by unfold dI maxN;omega
theorem KM: ∀ (k:Nat) (n:Int) (w:World),dI n≤k→
  Rets Tryz.prog 174 #[vi n] w (fun v D=>v=vs (cR (dI n))∧D= []):=by
 intro k
 induction k using Nat.strongRecOn with
 |ind k ih=>
  intro n w hk
  refine Rets.enterV Tryz.func174 rfl (rs:= [.tmp 2]) Tryz.results174 Tryz.ntmps174 ?_
  refine kf ?_
  by_cases h0:n<0
  ·have d1:decide (n<0)=true:=decide_eq_true h0
   have e:dI n=0:=by unfold dI maxN;omega
   rw[e]
   first|with_reducible refine ks [] @d1 ?_|refine kp @d1 ?_
   refine Ow.buildSlice (e:=5) #[v8 0] rfl rfl (by kernel_rfl) fun b1 bJ aG=> ?_
   rw[show(#[v8 0]:Array Value)=a8 [0] from rfl]
   refine ko @Nat.add_zero ?_
   first|with_reducible refine ks [] @Nat.add_zero ?_|refine kp @Nat.add_zero ?_
   refine⟨_,(ke @Nat.add_zero),⟨aG,trivial⟩, ?_⟩
   rw[mf (by omega)];rfl
  ·have d1:decide (n<0)=false:=decide_eq_false h0
   generalize hm:dI n=m at hk ⊢
   have Rf:m≤1099511627775:=by unfold dI maxN at hm;omega
   by_cases h1:n>1099511627775
   ·have d2:decide (1099511627775<n)=true:=decide_eq_true h1
    have e: (1099511627775:Int)=(m:Int):=by unfold dI maxN at hm;omega
    first|with_reducible refine ks [5] (And.intro @d1 @d2) ?_|refine kp (And.intro @d1 @d2) ?_
    rw[e]
    by_cases h2:m<128
    ·have d3:decide ((m:Int)<128)=true:=decide_eq_true (by omega)
     rw[mf h2]
     first|with_reducible refine ks [] (And.intro @d1 @d3) ?_|refine kp (And.intro @d1 @d3) ?_
     generalize hc:UInt8.ofInt (m:Int)=c
     have iq:c=UInt8.ofNat m:=by rw[←hc,rA]
     refine Ow.buildSlice (e:=5) #[v8 c] rfl rfl (by kernel_rfl) fun b1 bJ aG=> ?_
     rw[show(#[v8 c]:Array Value)=a8 [c] from rfl]
     have e4:List.take 1 (List.drop 0 [c])= [c]:=rfl
     refine ko @e4 ?_
     first|with_reducible refine ks [] @Nat.add_zero ?_|refine kp @Nat.add_zero ?_
     refine⟨_,(ke @Nat.add_zero),⟨aG,trivial⟩, ?_⟩
     rw[iq];rfl
    ·have d3:decide ((m:Int)<128)=false:=decide_eq_false (by omega)
     have ih2:=fun w=>ih (m / 128) (by omega) ((m / 128:Nat):Int) w (by rw[uv (by omega)];omega)
     rw[uv (by omega)] at ih2
     have kP:=vo 6 (m / 128) (by omega) (by omega)
     rw[pz h2]
     first|with_reducible refine ks [] (And.intro @d1 @d3) ?_|refine kp (And.intro @d1 @d3) ?_
     refine Cw.regionK 11 (by kernel_rfl) (by kernel_rfl) ?_
     refine OwK.run [0,1,2,3,6,7] [true,true,true,true,false,false,true,true,false,false,false] 5 rfl (by kernel_rfl) (by kernel_rfl) fun k hk=> ?_
     simp only[aN, ↓aM, ↓aH, ↓aL, ↓aK,aI]
     simp(disch:=(first|assumption|omega| (simp only[ac,ab,UInt64.reduceToNat];try omega))) only[↓Sx.S0,Sx.S1,Tryz.fx,Nat.reduceAdd,Nat.reducePow,Int.reducePow,Nat.reduceBEq, ↓reduceIte,UInt8.reduceToNat,UInt16.reduceToNat,UInt32.reduceToNat,UInt64.reduceToNat,Int.reduceToNat]
     (with_reducible refine hk _ _ _ ?_);clear hk k
     generalize hc:UInt8.ofInt ((m:Int)%128+128)=c
     have iq:c=UInt8.ofNat (m%128+128):=by rw[←hc,show((m:Int)%128+128)=((m%128+128:Nat):Int) from rfl,rA]
     rw[show(m:Int) / 128=((m / 128:Nat):Int) from rfl]
     refine OwK.two 4 8 _ _ (by kernel_rfl) rfl rfl ?_ ?_
     ·refine Ow.buildSlice (e:=5) #[v8 c] rfl rfl (by kernel_rfl) fun b1 bJ aG=> ?_
      rw[show(#[v8 c]:Array Value)=a8 [c] from rfl]
      have e4:List.take 1 (List.drop 0 [c])= [c]:=rfl
      refine ko @e4 ?_
      try with_reducible refine Ow.nil ?_
      refine OwK.two 5 8 _ _ (by kernel_rfl) rfl rfl ?_ ?_
      ·refine ko @e4 ?_
       refine OwK.rest [8,9,10] [4,8] rfl (by kernel_rfl) (by kernel_rfl) ?_
       simp only[aN, ↓aM, ↓aH, ↓aL, ↓aK,aI]
       refine Ow.callFV rfl Tryz.call174 (fun w' a7=>ih2 w') ?_
       refine ko @Nat.add_zero ?_
       first|with_reducible refine ks [] @Nat.add_zero ?_|refine kp @Nat.add_zero ?_
       refine⟨_,(ke @Nat.add_zero),⟨aG,trivial⟩, ?_⟩
       rw[iq];rfl
      ·refine Ow.callFV rfl Tryz.call174 (fun w' a7=>ih2 w') ?_
       refine ko @Nat.add_zero ?_
       refine OwK.rest [5,9,10] [4,8] rfl (by kernel_rfl) (by kernel_rfl) ?_
       simp only[aN, ↓aM, ↓aH, ↓aL, ↓aK,aI]
       refine ko @e4 ?_
       first|with_reducible refine ks [] @Nat.add_zero ?_|refine kp @Nat.add_zero ?_
       refine⟨_,(ke @Nat.add_zero),⟨aG,trivial⟩, ?_⟩
       rw[iq];rfl
     ·refine Ow.callFV rfl Tryz.call174 (fun w' a7=>ih2 w') ?_
      refine ko @Nat.add_zero ?_
      refine OwK.rest [4,5,9,10] [4,8] rfl (by kernel_rfl) (by kernel_rfl) ?_
      simp only[aN, ↓aM, ↓aH, ↓aL, ↓aK,aI]
      refine Ow.buildSlice (e:=5) #[v8 c] rfl rfl (by kernel_rfl) fun b1 bJ aG=> ?_
      rw[show(#[v8 c]:Array Value)=a8 [c] from rfl]
      have e4:List.take 1 (List.drop 0 [c])= [c]:=rfl
      refine ko @e4 ?_
      first|with_reducible refine ks [] @Nat.add_zero ?_|refine kp @Nat.add_zero ?_
      refine⟨_,(ke @Nat.add_zero),⟨aG,trivial⟩, ?_⟩
      rw[iq];rfl
   ·have d2:decide (1099511627775<n)=false:=decide_eq_false h1
    have e:n=(m:Int):=by unfold dI maxN at hm;omega
    subst e
    first|with_reducible refine ks [5] (And.intro @d1 @d2) ?_|refine kp (And.intro @d1 @d2) ?_
    by_cases h2:m<128
    ·have d3:decide ((m:Int)<128)=true:=decide_eq_true (by omega)
     rw[mf h2]
     first|with_reducible refine ks [] (And.intro @d1 @d3) ?_|refine kp (And.intro @d1 @d3) ?_
     generalize hc:UInt8.ofInt (m:Int)=c
     have iq:c=UInt8.ofNat m:=by rw[←hc,rA]
     refine Ow.buildSlice (e:=5) #[v8 c] rfl rfl (by kernel_rfl) fun b1 bJ aG=> ?_
     rw[show(#[v8 c]:Array Value)=a8 [c] from rfl]
     have e4:List.take 1 (List.drop 0 [c])= [c]:=rfl
     refine ko @e4 ?_
     first|with_reducible refine ks [] @Nat.add_zero ?_|refine kp @Nat.add_zero ?_
     refine⟨_,(ke @Nat.add_zero),⟨aG,trivial⟩, ?_⟩
     rw[iq];rfl
    ·have d3:decide ((m:Int)<128)=false:=decide_eq_false (by omega)
     have ih2:=fun w=>ih (m / 128) (by omega) ((m / 128:Nat):Int) w (by rw[uv (by omega)];omega)
     rw[uv (by omega)] at ih2
     have kP:=vo 6 (m / 128) (by omega) (by omega)
     rw[pz h2]
     first|with_reducible refine ks [] (And.intro @d1 @d3) ?_|refine kp (And.intro @d1 @d3) ?_
     refine Cw.regionK 11 (by kernel_rfl) (by kernel_rfl) ?_
     refine OwK.run [0,1,2,3,6,7] [true,true,true,true,false,false,true,true,false,false,false] 5 rfl (by kernel_rfl) (by kernel_rfl) fun k hk=> ?_
     simp only[aN, ↓aM, ↓aH, ↓aL, ↓aK,aI]
     simp(disch:=(first|assumption|omega| (simp only[ac,ab,UInt64.reduceToNat];try omega))) only[↓Sx.S0,Sx.S1,Tryz.fx,Nat.reduceAdd,Nat.reducePow,Int.reducePow,Nat.reduceBEq, ↓reduceIte,UInt8.reduceToNat,UInt16.reduceToNat,UInt32.reduceToNat,UInt64.reduceToNat,Int.reduceToNat]
     (with_reducible refine hk _ _ _ ?_);clear hk k
     generalize hc:UInt8.ofInt ((m:Int)%128+128)=c
     have iq:c=UInt8.ofNat (m%128+128):=by rw[←hc,show((m:Int)%128+128)=((m%128+128:Nat):Int) from rfl,rA]
     rw[show(m:Int) / 128=((m / 128:Nat):Int) from rfl]
     refine OwK.two 4 8 _ _ (by kernel_rfl) rfl rfl ?_ ?_
     ·refine Ow.buildSlice (e:=5) #[v8 c] rfl rfl (by kernel_rfl) fun b1 bJ aG=> ?_
      rw[show(#[v8 c]:Array Value)=a8 [c] from rfl]
      have e4:List.take 1 (List.drop 0 [c])= [c]:=rfl
      refine ko @e4 ?_
      try with_reducible refine Ow.nil ?_
      refine OwK.two 5 8 _ _ (by kernel_rfl) rfl rfl ?_ ?_
      ·refine ko @e4 ?_
       refine OwK.rest [8,9,10] [4,8] rfl (by kernel_rfl) (by kernel_rfl) ?_
       simp only[aN, ↓aM, ↓aH, ↓aL, ↓aK,aI]
       refine Ow.callFV rfl Tryz.call174 (fun w' a7=>ih2 w') ?_
       refine ko @Nat.add_zero ?_
       first|with_reducible refine ks [] @Nat.add_zero ?_|refine kp @Nat.add_zero ?_
       refine⟨_,(ke @Nat.add_zero),⟨aG,trivial⟩, ?_⟩
       rw[iq];rfl
      ·refine Ow.callFV rfl Tryz.call174 (fun w' a7=>ih2 w') ?_
       refine ko @Nat.add_zero ?_
       refine OwK.rest [5,9,10] [4,8] rfl (by kernel_rfl) (by kernel_rfl) ?_
       simp only[aN, ↓aM, ↓aH, ↓aL, ↓aK,aI]
       refine ko @e4 ?_
       first|with_reducible refine ks [] @Nat.add_zero ?_|refine kp @Nat.add_zero ?_
       refine⟨_,(ke @Nat.add_zero),⟨aG,trivial⟩, ?_⟩
       rw[iq];rfl
     ·refine Ow.callFV rfl Tryz.call174 (fun w' a7=>ih2 w') ?_
      refine ko @Nat.add_zero ?_
      refine OwK.rest [4,5,9,10] [4,8] rfl (by kernel_rfl) (by kernel_rfl) ?_
      simp only[aN, ↓aM, ↓aH, ↓aL, ↓aK,aI]
      refine Ow.buildSlice (e:=5) #[v8 c] rfl rfl (by kernel_rfl) fun b1 bJ aG=> ?_
      rw[show(#[v8 c]:Array Value)=a8 [c] from rfl]
      have e4:List.take 1 (List.drop 0 [c])= [c]:=rfl
      refine ko @e4 ?_
      first|with_reducible refine ks [] @Nat.add_zero ?_|refine kp @Nat.add_zero ?_
      refine⟨_,(ke @Nat.add_zero),⟨aG,trivial⟩, ?_⟩
      rw[iq];rfl
theorem uw (s:List UInt8) (w:World) (hs:s.length<1099511627776):
  Rets Tryz.prog 138 #[vs s] w (fun v D=>v=vs (dH s)∧D= []):=by
 have Rm:=j2 (s.length:Int)
 refine Rets.enterV Tryz.func138 rfl (rs:= [.tmp 2]) Tryz.results138 Tryz.ntmps138 ?_
 refine kf ?_
 first|with_reducible refine ks [] @Nat.add_zero ?_|refine kp @Nat.add_zero ?_
 refine Ow.callFV rfl Tryz.call174 (fun w' a7=>KM _ _ w' (Nat.le_refl _)) ?_
 refine ko @Nat.add_zero ?_
 first|with_reducible refine ks [] @Nat.add_zero ?_|refine kp @Nat.add_zero ?_
 refine⟨_,(ke @Nat.add_zero),trivial, ?_⟩
 rfl
theorem yY (x:IdL) (w:World):
  Rets Tryz.prog 175 #[.agg (a8 x.l)] w (fun v D=>v=vs x.l∧D= []):=by
 have gI:=x.h
 refine Rets.enterV Tryz.func175 rfl (rs:= [.tmp 2]) Tryz.results175 Tryz.ntmps175 ?_
 refine kf ?_
 first|with_reducible refine ks [] @Nat.add_zero ?_|refine kp @Nat.add_zero ?_
 refine Ow.box rfl rfl fun bx qc iw=> ?_
 simp only[bp,bj,cJ,aU,List.nil_append,List.cons_append]
 refine Ow.go rfl ?_
 simp(disch:=(first|assumption|omega| (simp only[ac,ab,UInt64.reduceToNat];try omega))) only[↓Sx.S0,Sx.S1,Tryz.fx,Nat.reduceAdd,Nat.reducePow,Int.reducePow,Nat.reduceBEq, ↓reduceIte,UInt8.reduceToNat,UInt16.reduceToNat,UInt32.reduceToNat,UInt64.reduceToNat,Int.reduceToNat]
 have e4:List.take 32 (List.drop 0 x.l)=x.l:=by rw[List.drop_zero,List.take_of_length_le (by omega)]
 first|with_reducible refine ks [] @e4 ?_|refine kp @e4 ?_
 refine⟨_,(ke @Nat.add_zero),⟨iw,trivial⟩, ?_⟩
 rfl
end Go.Proofs
end
section
open Go Go.Proofs Go.Sx Go.StP
namespace Go.Proofs
set_option maxRecDepth 10000
set_option maxHeartbeats 400000
set_option linter.unusedSimpArgs false
set_option linter.defProp false
def j_:=And.intro (And.intro (And.intro (@qA) (@qy)) (And.intro (@r6) (@j0))) (And.intro (And.intro (@iR) (@gM)) (And.intro (@cP) (@cO)))
def entB (e:EntL):List UInt8:=(cR (dI e.kind)++dH e.name)++e.id.l
def bE (l:List EntL):List UInt8:=(l.map entB).flatten
theorem yd {l:List EntL} {k:Nat} (hk:k<l.length):bE (l.take (k+1))=bE (l.take k)++entB (l.getD k ent0):=by
 unfold bE
 rw[List.take_succ_eq_append_getElem hk,List.map_append,List.flatten_append,List.getD_eq_getElem?_getD,List.getElem?_eq_getElem hk]
 simp
theorem Kf {l:List EntL} {k:Nat} (hk:k<l.length):bE (l.take (k+1))=bE (l.take k)++cR (dI (l.getD k ent0).kind)++dH (l.getD k ent0).name++ (l.getD k ent0).id.l:=by
 rw[yd hk];simp only[entB,List.append_assoc]
theorem qE {s:List UInt8} (h:s.length<1099511627776): (dH s).length<1099511627783:=by
 have:=j2 (s.length:Int)
 unfold dH;rw[List.length_append];omega
theorem La {l:List EntL} (dL:qI l): ∀k,k≤l.length→(bE (l.take k)).length≤k*1099511627830
 |0,_=>by simp[bE]
 |k+1,hk=>by
  have ih:=La dL k (by omega)
  have h1:=qE (dL k hk)
  have h2:=j2 (l.getD k ent0).kind
  have h3:=(l.getD k ent0).id.h
  rw[yd hk]
  unfold entB
  simp only[List.length_append]
  omega
theorem OB (v:Value) (l:List EntL) (w:World) (hv:EntS w v l) (hl:l.length<1000000) (dL:qI l):
  Rets Tryz.prog 133 #[v] w (fun v' D=>v'=vs (bE l)∧D= []):=by
 obtain⟨b,off,arr,E,fz,hr⟩:=hv.row
 have ln:=hv.len
 refine Rets.enterV Tryz.func133 rfl (rs:= [.tmp 2]) Tryz.results133 Tryz.ntmps133 ?_
 refine kf ?_
 first|with_reducible refine ks [] (And.intro @j_ @ln) ?_|refine kp (And.intro @j_ @ln) ?_
 refine Cw.loopG (G:=Nat) [5,6,7,8,11,12,13,14,15,16,17,18,19,20,21,22,23,24,25,26,27,28,29,30,31,32,3,9,10,4] (fun g=> [(3,vs (bE (l.take g))),(4,vi g)]) (fun g=> []) (fun g=>g≤l.length) (fun g=>l.length - g) 0 rfl rfl ?_ ?_
 ·exact Nat.zero_le _
 ·intro k jk hk
  refine kv ?_
  have h1:k≤l.length:=hk
  clear hk
  by_cases hk:k<l.length
  ·have h0:0<l.length:=by omega
   have dg:=hr.lt h0
   have r2:=hr.has h0
   have i2:=hr.idx true k hk
   have m0: ∀n,aS (some (false,n)) (some (.cells arr E fz)) (off+k*34)=some (vs (l.getD k ent0).name):=fun n=>vV hr hk n
   have m1: ∀n,aS (some (false,n)) (some (.cells arr E fz)) (off+k*34+1)=some (vi (l.getD k ent0).kind):=fun n=>sH hr hk n
   have m2:aS (some (true,32)) (some (.cells arr E fz)) (off+k*34+2)=some (.agg (a8 (l.getD k ent0).id.l)):=EQ hr hk
   have hs:=dL k hk
   have t1:=La dL k h1
   have t2:=qE hs
   have t3:=j2 (l.getD k ent0).kind
   have t4:=(l.getD k ent0).id.h
   first|with_reducible refine ks [] (And.intro @j_ @ln) ?_|refine kp (And.intro @j_ @ln) ?_
   refine Cw.regionS [b] [0,1,2,3,4,8,9,10,11,15,16,17,18,5,12,19,6,7,13,14,20,21,22] [] (by kernel_rfl) (by kernel_rfl) (by kernel_rfl) ?_
   simp only[aN, ↓aM, ↓aH, ↓aL, ↓aK,aI]
   refine kq (And.intro @j_ (And.intro @r2 (And.intro @i2 (And.intro @m0 (And.intro @m1 (@m2)))))) ?_
   refine Ow.callFV rfl Tryz.call174 (fun w' a7=>KM _ _ w' (Nat.le_refl _)) ?_
   refine kq (And.intro @j_ (And.intro @r2 (And.intro @i2 (And.intro @m0 (And.intro @m1 (@m2)))))) ?_
   refine Ow.callFV rfl Tryz.call138 (fun w' a7=>uw _ w' hs) ?_
   refine kq (And.intro @j_ (And.intro @r2 (And.intro @i2 (And.intro @m0 (And.intro @m1 (@m2)))))) ?_
   refine Ow.callFV rfl Tryz.call175 (fun w' a7=>yY _ w') ?_
   refine kq (And.intro @j_ (And.intro @r2 (And.intro @i2 (And.intro @m0 (And.intro @m1 (@m2)))))) ?_
   exact Again.mk (k+1) (by omega) (by omega) rfl (by rw[Kf hk];rfl)
  ·obtain rfl:k=l.length:=by omega
   first|with_reducible refine ks [] (And.intro @j_ @ln) ?_|refine kp (And.intro @j_ @ln) ?_
   refine⟨_,(ke @j_),trivial, ?_⟩
   rw[List.take_length];rfl
def idsB (l:List IdL):List UInt8:=(l.map IdL.l).flatten
theorem DO {l:List IdL} {k:Nat} (hk:k<l.length):idsB (l.take (k+1))=idsB (l.take k)++ (l.getD k id0).l:=by
 unfold idsB
 rw[List.take_succ_eq_append_getElem hk,List.map_append,List.flatten_append,List.getD_eq_getElem?_getD,List.getElem?_eq_getElem hk]
 simp
theorem rp: ∀ (l:List IdL),(idsB l).length=l.length*32
 | []=>rfl
 |x::r=>by
  have h:=rp r
  have:=x.h
  unfold idsB at h ⊢
  rw[List.map_cons,List.flatten_cons,List.length_append,h,List.length_cons]
  omega
def i4 (c:ComL):List UInt8:=c.tree.l++cR (dI c.par.length)
def comB (c:ComL):List UInt8:=i4 c++idsB c.par++dH c.text
set_option linter.defProp false
def iY:=And.intro (And.intro (And.intro (@mA) (@m8)) (And.intro (@jO) (And.intro (@cP) (@cO)))) (And.intro (And.intro (@vE) (@vF)) (And.intro (@vK) (And.intro (@ve) (@qD))))
theorem Nn (v:Value) (c:ComL) (w:World) (hv:ComS w v c) (hl:c.par.length<1000000) (ht:c.text.length<1099511627776):
  Rets Tryz.prog 135 #[v] w (fun v' D=>v'=vs (comB c)∧D= []):=by
 obtain⟨p,rfl,hp⟩:=hv
 obtain⟨b,off,arr,E,fz,hr⟩:=hp.row
 have ln:=hp.len
 have t2:=qE ht
 have t3:=j2 (c.par.length:Int)
 have t4:=c.tree.h
 have t5: (i4 c).length≤38:=by unfold i4;rw[List.length_append];omega
 refine Rets.enterV Tryz.func135 rfl (rs:= [.tmp 2]) Tryz.results135 Tryz.ntmps135 ?_
 refine kf ?_
 first|with_reducible refine ks [] @iY ?_|refine kp @iY ?_
 refine Ow.box rfl rfl fun bx qc iw=> ?_
 simp only[bp,bj,cJ,aU,List.nil_append,List.cons_append]
 refine Ow.go rfl ?_
 simp(disch:=(first|assumption|omega| (simp only[ac,ab,UInt64.reduceToNat];try omega))) only[↓Sx.S0,Sx.S1,Tryz.fx,iY,Nat.reduceAdd,Nat.reducePow,Int.reducePow,Nat.reduceBEq, ↓reduceIte,UInt8.reduceToNat,UInt16.reduceToNat,UInt32.reduceToNat,UInt64.reduceToNat,Int.reduceToNat]
 first|with_reducible refine ks [] (And.intro @iY @ln) ?_|refine kp (And.intro @iY @ln) ?_
 refine Cw.regionS [bx] [0,3,1,4,5,2,6,7,8] [] (by kernel_rfl) (by kernel_rfl) (by kernel_rfl) ?_
 simp only[aN, ↓aM, ↓aH, ↓aL, ↓aK,aI]
 refine kq (And.intro @iY @ln) ?_
 refine Ow.callFV rfl Tryz.call175 (fun w' a7=>yY _ w') ?_
 refine kq (And.intro @iY @ln) ?_
 refine Ow.callFV rfl Tryz.call174 (fun w' a7=>KM _ _ w' (Nat.le_refl _)) ?_
 refine kq (And.intro @iY @ln) ?_
 rw[show c.tree.l++cR (dI c.par.length)=i4 c++idsB (c.par.take 0) by simp[i4,idsB]]
 refine Cw.loopG (G:=Nat) [13,14,15,16,17,20,21,22,23,24,25,26,27,3,18,19,4] (fun g=> [(3,vs (i4 c++idsB (c.par.take g))),(4,vi g)]) (fun g=> [(bx, .cells (aY c.tree p c.text).toArray 126 (0,0))]) (fun g=>g≤c.par.length) (fun g=>c.par.length - g) 0 rfl rfl ?_ ?_
 ·exact Nat.zero_le _
 ·intro k jk hk
  refine kv ?_
  have h1:k≤c.par.length:=hk
  clear hk
  have t6:=rp (c.par.take k)
  rw[List.length_take,Nat.min_eq_left h1] at t6
  by_cases hk:k<c.par.length
  ·have h0:0<c.par.length:=by omega
   have dg:=hr.lt h0
   have uY:bx≠b:=by omega
   have r2:=hr.has h0
   have i2:=hr.idx true k hk
   have l2:=nu hr hk
   have gI:=(c.par.getD k id0).h
   first|with_reducible refine ks [] (And.intro @iY (And.intro @ln (And.intro @r2 (And.intro @i2 (@l2))))) ?_|refine kp (And.intro @iY (And.intro @ln (And.intro @r2 (And.intro @i2 (@l2))))) ?_
   refine Ow.callFV rfl Tryz.call175 (fun w' a7=>yY _ w') ?_
   refine ko (And.intro @iY (And.intro @ln (And.intro @r2 (And.intro @i2 (@l2))))) ?_
   exact Again.mk (k+1) (by omega) (by omega) rfl (by rw[DO hk,←List.append_assoc];rfl)
  ·obtain rfl:k=c.par.length:=by omega
   rw[List.take_length]
   rw[List.take_length] at t6
   first|with_reducible refine ks [] (And.intro @iY @ln) ?_|refine kp (And.intro @iY @ln) ?_
   refine Ow.callFV rfl Tryz.call138 (fun w' a7=>uw _ w' ht) ?_
   refine ko @iY ?_
   refine⟨_,(ke @iY),⟨iw,trivial⟩, ?_⟩
   rfl
end Go.Proofs
end
section
open Go Go.Proofs Go.Sx Go.StP
namespace Go.Proofs
set_option maxRecDepth 10000
set_option maxHeartbeats 400000
set_option linter.unusedSimpArgs false
instance:DecidableEq EntL:=fun a b=>if h:a.name=b.name∧a.kind=b.kind∧a.id.l=b.id.l then .isTrue (by cases a;cases b;simp only at h;obtain⟨rfl,rfl,h3⟩:=h;rw[IdL.ext' h3]) else .isFalse (fun e=>h (by rw[e];exact⟨rfl,rfl,rfl⟩))
theorem EntL.ext' {a b:EntL} (h: (a.name==b.name&&a.kind==b.kind&&a.id.l==b.id.l)=true):a=b:=by
 simp only[Bool.and_eq_true,beq_iff_eq] at h
 cases a;cases b;simp only at h;obtain⟨⟨rfl,rfl⟩,h3⟩:=h;rw[IdL.ext' h3]
set_option linter.defProp false
end Go.Proofs
end
section
open Go Go.Proofs Go.Sx Go.StP
namespace Go.Proofs
set_option maxRecDepth 10000
set_option maxHeartbeats 400000
set_option linter.unusedSimpArgs false
set_option linter.defProp false
end Go.Proofs
end
section
open Go Go.Proofs Go.Sx Go.StP
namespace Go.Proofs
set_option maxRecDepth 10000
set_option maxHeartbeats 400000
set_option linter.unusedSimpArgs false
def gJ (l:List UInt8):IdL:=if h:l.length=32 then⟨l,h⟩ else id0
theorem px {l:List UInt8} (h:l.length=32): (gJ l).l=l:=by unfold gJ;rw[dif_pos h]
theorem q7 (s:List UInt8) (a:Nat) (e:Int): (idR s a e).1.length=32:=by
 unfold idR
 simp only
 split
 ·assumption
 ·simp[z32]
theorem qH {s:List UInt8} {a:Nat} {e:Int} (ha:a≤s.length):a≤ (idR s a e).2.1∧(idR s a e).2.1≤s.length:=n_ ha
theorem pr {s:List UInt8} {a:Nat} {e most:Int} (ha:a≤s.length):a≤ (bC s a e most).2.1∧(bC s a e most).2.1≤s.length:=by
 have hp:=jz (e:=e) (most:=most) ha
 have hq:=n_ (e:=(aW s a e most).2.2) (n:=(aW s a e most).1) hp.2
 unfold bC
 simp only
 split
 ·exact⟨Nat.le_refl _,ha⟩
 ·exact⟨by omega,hq.2⟩
theorem yM (s:List UInt8) (a:Nat) (e most:Int): (bC s a e most).1.length≤s.length:=by
 have: ∀ (b:Nat) (e n:Int),(ci s b e n).1.length≤s.length:=by
  intro b e n
  unfold ci
  split
  ·simp
  ·split
   ·simp
   ·split
    ·simp
    ·simp only[List.length_take,List.length_drop];omega
 unfold bC
 simp only
 split
 ·simp
 ·exact this _ _ _
theorem oH {s:List UInt8} {a:Nat} {e n:Int} (he:e≠0): (ci s a e n).2=(a,e):=by unfold ci;rw[if_pos he]
theorem sr {s:List UInt8} {a:Nat} {e most:Int} (he:e≠0): (aW s a e most).2=(a,e):=by unfold aW;rw[if_pos he]
theorem wT {s:List UInt8} {a:Nat} {e most:Int} (he:e≠0): (bC s a e most).2=(a,e):=by
 unfold bC
 simp only[sr he,oH he]
 rw[if_pos he]
theorem kA {s:List UInt8} {a:Nat} {e:Int} (he:e≠0): (idR s a e).2=(a,e):=by unfold idR;simp only[oH he]
theorem oJ {s:List UInt8} {a:Nat} {e n:Int} (h:e≠5): (ci s a e n).2.2≠5:=by
 unfold ci
 split
 ·exact h
 ·split
  ·show(2:Int)≠5;decide
  ·split
   ·show(3:Int)≠5;decide
   ·show(0:Int)≠5;decide
theorem H8 (most:Int): ∀ (l:List UInt8) (k n x:Nat),b9 most l k n= .error x→x≠5:=by
 intro l
 induction l with
 |nil=>intro k n x h;unfold b9 at h;cases h;decide
 |cons c r ih=>
  intro k n x h
  unfold b9 at h
  split at h
  ·split at h
   ·cases h;decide
   ·exact ih _ _ _ h
  ·split at h
   ·cases h;decide
   ·split at h
    ·cases h
    ·cases h;decide
theorem si (most:Int): ∀ (l:List UInt8) (k n:Nat),b9 most l k n≠ .error 0:=by
 intro l
 induction l with
 |nil=>intro k n h;unfold b9 at h;cases h
 |cons c r ih=>
  intro k n h
  unfold b9 at h
  split at h
  ·split at h
   ·cases h
   ·exact ih _ _ h
  ·split at h
   ·cases h
   ·split at h
    ·cases h
    ·cases h
theorem oF {s:List UInt8} {a:Nat} {e most:Int} (h:e≠5): (aW s a e most).2.2≠5:=by
 unfold aW
 split
 ·exact h
 ·split
  ·show(0:Int)≠5;decide
  ·rename_i x hx
   have:=H8 _ _ _ _ _ hx
   show((x:Nat):Int)≠5
   omega
theorem HC {s:List UInt8} {a:Nat} {e most:Int} (h:e≠5): (bC s a e most).2.2≠5:=by
 unfold bC
 simp only
 split
 ·exact oJ (oF h)
 ·exact oJ (oF h)
theorem If {s:List UInt8} {a:Nat} {e:Int} (h:e≠5): (idR s a e).2.2≠5:=by unfold idR;exact oJ h
theorem Gq {s:List UInt8} {a:Nat} {e most:Int} (h: (aW s a e most).2.2=0):a< (aW s a e most).2.1:=by
 unfold aW at h ⊢
 split
 ·rename_i he
  rw[if_pos he] at h
  exact absurd h he
 ·rename_i he
  rw[if_neg he] at h
  split
  ·rename_i n k hk
   have:=yB _ _ _ _ _ _ hk
   show a<a+k
   omega
  ·rename_i x hx
   rw[hx] at h
   exfalso
   have:x=0:=by have: ((x:Nat):Int)=0:=h;omega
   subst this
   exact si _ _ _ _ hx
def eK (s:List UInt8) (a:Nat) (e:Int):EntL×Nat×Int:=
 let p:=aW s a e 2
 let q:=bC s p.2.1 p.2.2 32
 let i:=idR s q.2.1 q.2.2
 (⟨q.1,p.1,gJ i.1⟩,i.2)
theorem o9 {s:List UInt8} {a:Nat} {e:Int} (ha:a≤s.length):a≤ (eK s a e).2.1∧(eK s a e).2.1≤s.length:=by
 have h1:=jz (e:=e) (most:=2) ha
 have h2:=pr (e:=(aW s a e 2).2.2) (most:=32) h1.2
 have h3:=qH (e:=(bC s (aW s a e 2).2.1 (aW s a e 2).2.2 32).2.2) h2.2
 unfold eK
 exact⟨by simp only;omega,h3.2⟩
theorem HX {s:List UInt8} {a:Nat} {e:Int} (h:e≠5): (eK s a e).2.2≠5:=If (HC (oF h))
theorem sJ {s:List UInt8} {a:Nat} {e:Int} (ha:a≤s.length) (h: (eK s a e).2.2=0):a< (eK s a e).2.1:=by
 have h1:=jz (e:=e) (most:=2) ha
 have h2:=pr (e:=(aW s a e 2).2.2) (most:=32) h1.2
 have h3:=qH (e:=(bC s (aW s a e 2).2.1 (aW s a e 2).2.2 32).2.2) h2.2
 unfold eK at h ⊢
 simp only at h ⊢
 have e2: (bC s (aW s a e 2).2.1 (aW s a e 2).2.2 32).2.2=0:=Decidable.byContradiction fun hn=>by rw[kA hn] at h;exact hn h
 have e1: (aW s a e 2).2.2=0:=Decidable.byContradiction fun hn=>by rw[wT hn] at e2;exact hn e2
 have:=Gq e1
 omega
def ig (s:List UInt8):Nat→Nat→Int→List EntL→List EntL×Nat×Int
 |0,a,e,l=>(l,a,e)
 |n+1,a,e,l=>if e=0∧a<s.length then ig s n (eK s a e).2.1 (eK s a e).2.2 (l++ [(eK s a e).1]) else(l,a,e)
theorem xg {s:List UInt8} {n a:Nat} {e:Int} {l:List EntL} (h:e=0∧a<s.length):ig s (n+1) a e l=ig s n (eK s a e).2.1 (eK s a e).2.2 (l++ [(eK s a e).1]):=by rw[ig,if_pos h]
theorem xU {s:List UInt8} {n a:Nat} {e:Int} {l:List EntL} (h: ¬ (e=0∧a<s.length)):ig s n a e l=(l,a,e):=by
 cases n with
 |zero=>rfl
 |succ n=>rw[ig,if_neg h]
def cL (s:List UInt8):List EntL×Nat×Int:=ig s (s.length+1) 0 0 []
structure EntsJ (s:List UInt8) (n a:Nat) (e:Int) (l:List EntL):Prop where
 go:cL s=ig s n a e l
 le:a≤s.length
 five:e≠5
 fuel:e=0→s.length<a+n
 cnt:l.length+n=s.length+1
 short: ∀i,i<l.length→(l.getD i ent0).name.length≤s.length
theorem EntsJ.init (s:List UInt8):EntsJ s (s.length+1) 0 0 []:=⟨rfl,Nat.zero_le _,by decide,fun _=>by omega,by simp,fun i hi=>by simp at hi⟩
theorem EntsJ.next {s:List UInt8} {n a:Nat} {e:Int} {l:List EntL} (h:EntsJ s n a e l) (hc:e=0∧a<s.length): ∃m,n=m+1∧EntsJ s m (eK s a e).2.1 (eK s a e).2.2 (l++ [(eK s a e).1]):=by
 have:=h.fuel hc.1
 obtain⟨m,rfl⟩: ∃m,n=m+1:=⟨n - 1,by omega⟩
 refine⟨m,rfl,h.go.trans (xg hc),(o9 h.le).2,HX h.five,fun h0=> ?_, ?_,fun i hi=> ?_⟩
 ·have:=sJ h.le h0;omega
 ·have:=h.cnt;simp only[List.length_append,List.length_cons,List.length_nil];omega
 ·by_cases aC:i<l.length
  ·rw[uu aC];exact h.short i aC
  ·have:i=l.length:=by simp only[List.length_append,List.length_cons,List.length_nil] at hi;omega
   subst this
   rw[mg (Nat.le_refl _),Nat.sub_self]
   exact yM _ _ _ _
theorem EntsJ.done {s:List UInt8} {n a:Nat} {e:Int} {l:List EntL} (h:EntsJ s n a e l) (hc: ¬ (e=0∧a<s.length)):cL s=(l,a,e):=h.go.trans (xU hc)
theorem EntsJ.sh {s:List UInt8} {n a:Nat} {e:Int} {l:List EntL} (h:EntsJ s n a e l) (hs:s.length<1000000):qI l:=fun i hi=>by have:=h.short i hi;omega
end Go.Proofs
end
section
open Go Go.Proofs Go.Sx Go.StP
namespace Go.Proofs
set_option maxRecDepth 10000
set_option maxHeartbeats 400000
set_option linter.unusedSimpArgs false
theorem yz:eP (dK Tryz.prog 117) (aw Tryz.prog 117) []=some (.agg (aD ent0).toArray):=by
 rw[show dK Tryz.prog 117=some [(0,1),(1,1),(2,32)] from id (by kernel_rfl),gg];rfl
def lW (s:List UInt8):Option (List EntL):=if(cL s).2.2=0∧dr (cL s).1=true∧bE (cL s).1=s then some (cL s).1 else none
def lr (s:List UInt8) (v:Value) (D:a6):Prop:=
 match lW s with
 |some l=> ∃v1,v= .tuple #[v1, .bool true]∧Gr D 117 34 v1 l.length (l.map aD).flatten
 |none=>v= .tuple #[.slice none 0 0, .bool false]
structure EnG where
 n:Nat
 a:Nat
 e:Int
 l:List EntL
 v:Value
 D:a6
set_option linter.defProp false
def cT:=And.intro (And.intro (And.intro (@mu) (And.intro (@mw) (@mt))) (And.intro (@mc) (And.intro (@me) (@j0)))) (And.intro (And.intro (@MC) (And.intro (@M6) (@Kv))) (And.intro (And.intro (@iR) (@gM)) (And.intro (@cP) (@cO))))
theorem MU (s:List UInt8) (w:World) (hs:s.length<100000):
  Rets Tryz.prog 68 #[vs s] w (XS w [] (lr s)):=by
 refine Rets.enterX Tryz.func68 rfl (rs:= [.tmp 2, .tmp 3]) Tryz.results68 Tryz.ntmps68 (fun p hp=>by cases hp) (by simp[keys]) ?_
 refine kf ?_
 first|with_reducible refine ks [] @cT ?_|refine kp @cT ?_
 refine Ow.build ((.agg #[vs s,vi 0,vi 0])) rfl (by kernel_rfl) ?_
 refine ko @cT ?_
 refine Ow.box rfl rfl fun br qb xB=> ?_
 simp only[bp,bj,cJ,aU,List.nil_append]
 refine ko @cT ?_
 refine Cw.loopG (G:=EnG) [10,11,12,13,14,15,16,17,18,19,20,21,22,23,24,6,25,26,27,28,29,30,31,32,33,34,35,36,37,5] (fun q=> [(5,q.v)]) (fun q=>(br, .cells #[vs s,vi q.a,vi q.e] 243 (0,0))::q.D) (fun q=>EntsJ s q.n q.a q.e q.l∧New (br+1) q.D∧Gr q.D 117 34 q.v q.l.length (q.l.map aD).flatten) (fun q=>q.n) ⟨s.length+1,0,0,[], .slice none 0 0,[]⟩ rfl rfl ?_ ?_
 ·exact⟨EntsJ.init s,trivial,Gr.nl⟩
 ·intro q jq hq
  refine kv ?_
  obtain⟨n,a,e,l,v,D⟩:=q
  simp only at hq ⊢
  obtain⟨hJ,hN,hG⟩:=hq
  have eN:=hJ.le
  by_cases hc:e=0∧a<s.length
  ·obtain⟨m,rfl,mI⟩:=hJ.next hc
   obtain⟨he,aC⟩:=hc
   have d1: (e==0)=true:=by simp[he]
   have d2:decide ((a:Int)< (s.length:Int))=true:=decide_eq_true (by omega)
   have hp:=jz (e:=e) (most:=2) eN
   have hq:=pr (e:=(aW s a e 2).2.2) (most:=32) hp.2
   have heq:eK s a e=(⟨(bC s (aW s a e 2).2.1 (aW s a e 2).2.2 32).1,(aW s a e 2).1,gJ (idR s (bC s (aW s a e 2).2.1 (aW s a e 2).2.2 32).2.1 (bC s (aW s a e 2).2.1 (aW s a e 2).2.2 32).2.2).1⟩,(idR s (bC s (aW s a e 2).2.1 (aW s a e 2).2.2 32).2.1 (bC s (aW s a e 2).2.1 (aW s a e 2).2.2 32).2.2).2):=rfl
   have f_:=q7 s (bC s (aW s a e 2).2.1 (aW s a e 2).2.2 32).2.1 (bC s (aW s a e 2).2.1 (aW s a e 2).2.2 32).2.2
   first|with_reducible refine ks [] (And.intro @cT (And.intro @d1 (@d2))) ?_|refine kp (And.intro @cT (And.intro @d1 (@d2))) ?_
   refine Ow.build (.agg (aD ent0).toArray) rfl yz ?_
   refine ko @cT ?_
   refine Ow.alloc rfl rfl gg fun b6 jB ei=> ?_
   simp only[aU,List.nil_append,List.cons_append]
   have T1:br<b6:=aP jB (by simp[keys])
   refine Ow.permL (M:=(b6,Obj.cells (aD ent0).toArray 117 (0,0)):: (br, .cells #[vs s,vi a,vi e] 243 (0,0))::D) (by classical exact List.perm_iff_count.2 fun a=>by simp only[List.count_append,List.count_cons,List.count_nil]<;>omega) ?_
   refine ko @cT ?_
   refine Ow.callM rfl rfl Tryz.call128 (by simp[keys]) (fun w' a7=>KK br s a e 2 w' eN (by omega) (a7.has _ _ (List.mem_cons_of_mem _ List.mem_cons_self))) ?_
   generalize aW s a e 2=p at*
   obtain⟨kd,a1,e1⟩:=p
   simp only at hp hq heq f_ ⊢
   refine kn ?_
   refine ko @cT ?_
   first|with_reducible refine ks [] @cT ?_|refine kp @cT ?_
   refine Ow.callM rfl rfl Tryz.call129 (by simp[keys]) (fun w' a7=>LF br s a1 e1 32 w' hp.2 (by omega) (a7.has _ _ (List.mem_cons_of_mem _ List.mem_cons_self))) ?_
   generalize bC s a1 e1 32=q at*
   obtain⟨tt,a2,e2⟩:=q
   simp only at hq heq f_ ⊢
   refine kn ?_
   refine ko @cT ?_
   first|with_reducible refine ks [] @cT ?_|refine kp @cT ?_
   refine Ow.callM rfl rfl Tryz.call130 (by simp[keys]) (fun w' a7=>yi br s a2 e2 w' hq.2 (by omega) (a7.has _ _ (List.mem_cons_of_mem _ List.mem_cons_self))) ?_
   generalize idR s a2 e2=i at*
   obtain⟨il,a3,e3⟩:=i
   simp only at heq f_ ⊢
   obtain⟨I,hI⟩: ∃I,gJ il=I:=⟨_,rfl⟩
   have pN:il=I.l:=by rw[←hI,px f_]
   rw[hI] at heq
   rw[pN]
   refine kn ?_
   refine ko @cT ?_
   generalize hx: ({name:=tt,kind:=kd,id:=I}:EntL)=x
   rw[hx] at heq
   rw[heq] at mI
   refine Ow.buildSlice (e:=117) (aD x).toArray rfl rfl (gw Tryz.underlying122 ny gg (by decide) (eB x)) fun b13 bz dp=> ?_
   have K8:br<b13:=aP bz (by simp[keys])
   refine Ow.permL (M:=D++ ((b6,Obj.cells (aD x).toArray 117 (0,0)):: (br, .cells #[vs s,vi a3,vi e3] 243 (0,0)):: [(b13,Obj.cells (aD x).toArray 117 (0,0))])) (by classical exact List.perm_iff_count.2 fun a=>by simp only[List.count_append,List.count_cons,List.count_nil]<;>omega) ?_
   refine ko @cT ?_
   refine Ow.appendX (e:=117) (k:=1) (new:=aD x) (X:=D) v rfl rfl rfl rfl Tryz.underlying122 ny (by kernel_rfl) gg (by rw[gM,List.size_toArray,eB]) Tryz.underlying122 (by intro k h;cases h) hG (fun w' a7=>AppX.one1 (a7.has b13 (.cells (aD x).toArray 117 (0,0)) (by simp)) (eB _) (vW _)) (by omega) (by have:=hJ.cnt;omega) (fun B v4 D4 dv eL bh bk ap b_=> ?_)
   have ox:b13<B:=aP dv (by simp[aT,keys])
   have cq:New (br+1) D4:=New.of_le fun q hq=>by
    rcases ap q hq with h|h
    ·exact hN.le q h
    ·omega
   refine Ow.permL (M:=(br, .cells #[vs s,vi a3,vi e3] 243 (0,0)):: (D4++ [(b6,Obj.cells (aD x).toArray 117 (0,0)),(b13,Obj.cells (aD x).toArray 117 (0,0))])) (by classical exact List.perm_iff_count.2 fun a=>by simp only[List.count_append,List.count_cons,List.count_nil]<;>omega) ?_
   refine ko @cT ?_
   refine Again.mk (EnG.mk m a3 e3 (l++ [x]) v4 (D4++ [(b6,Obj.cells (aD x).toArray 117 (0,0)),(b13,Obj.cells (aD x).toArray 117 (0,0))])) (by show m<m+1;omega) ⟨mI,cq.app ⟨by omega,by omega,trivial⟩, ?_⟩ rfl rfl
   show Gr _ _ _ _ (l++ [x]).length ((l++ [x]).map aD).flatten
   rw[List.length_append,List.map_append,List.flatten_append,show([x].map aD).flatten=aD x by simp]
   exact Gr.app (.inl bh)
  ·have hd:=hJ.done hc
   have dL:=hJ.sh (by omega)
   have RB:=hJ.cnt
   have hR:lW s=if e=0∧dr l=true∧bE l=s then some l else none:=by unfold lW;rw[hd]
   unfold lr
   rw[hR]
   have kF:New w.heap.size ((br,Obj.cells #[vs s,vi a,vi e] 243 (0,0))::D):=⟨xB,New.mono (by omega) hN⟩
   by_cases he:e=0
   ·have d1: (e==0)=true:=by simp[he]
    have d2:decide ((a:Int)< (s.length:Int))=false:=decide_eq_false (by omega)
    have iF: (if e≠0 then e else if(a:Int)< (s.length:Int) then 5 else 0)=(0:Int):=by rw[if_neg (by simp[he]),if_neg (by omega)]
    first|with_reducible refine ks [] (And.intro @cT (And.intro @d1 (@d2))) ?_|refine kp (And.intro @cT (And.intro @d1 (@d2))) ?_
    refine Ow.callFV rfl Tryz.call131 (fun w' a7=>Ka br s a e w' (a7.has _ _ (by simp))) ?_
    rw[iF]
    have d4: ((0:Int) !=0)=false:=rfl
    refine ko (And.intro @cT @d4) ?_
    refine Ow.callFV rfl Tryz.call132 (fun w' a7=>PY v l w' (hG.slM (fun b o hm=>a7.has b o (by simp[hm])) rfl rfl eB) (by omega) dL) ?_
    cases hr:dr l
    ·rw[if_neg (by simp)]
     refine ko @cT ?_
     first|with_reducible refine ks [] @cT ?_|refine kp @cT ?_
     refine⟨_,(ke @cT), ?_⟩
     exact⟨Ext.of_new kF,rfl⟩
    ·refine ko @cT ?_
     refine Ow.callFV rfl Tryz.call133 (fun w' a7=>OB v l w' (hG.slM (fun b o hm=>a7.has b o (by simp[hm])) rfl rfl eB) (by omega) dL) ?_
     by_cases hb:bE l=s
     ·have d3: (bE l !=s)=false:=by simp[hb]
      rw[if_pos ⟨he,rfl,hb⟩]
      refine ko (And.intro @cT @d3) ?_
      first|with_reducible refine ks [] @cT ?_|refine kp @cT ?_
      refine⟨_,(ke @cT), ?_⟩
      exact⟨Ext.of_new kF,v,rfl,hG.keep fun b o hb ho=>by rw[Sx.look,if_neg (by have:=hN.le b (cE ho);omega)];exact ho⟩
     ·have d3: (bE l !=s)=true:=by simp[hb]
      rw[if_neg (fun h=>hb h.2.2)]
      refine ko (And.intro @cT @d3) ?_
      first|with_reducible refine ks [] @cT ?_|refine kp @cT ?_
      refine⟨_,(ke @cT), ?_⟩
      exact⟨Ext.of_new kF,rfl⟩
   ·have d1: (e==0)=false:=by simp[he]
    have d3: (e !=0)=true:=by simp[he]
    have iF: (if e≠0 then e else if(a:Int)< (s.length:Int) then 5 else 0)=e:=by rw[if_pos he]
    rw[if_neg (fun h=>he h.1)]
    first|with_reducible refine ks [] (And.intro @cT @d1) ?_|refine kp (And.intro @cT @d1) ?_
    refine Ow.callFV rfl Tryz.call131 (fun w' a7=>Ka br s a e w' (a7.has _ _ (by simp))) ?_
    rw[iF]
    refine ko (And.intro @cT @d3) ?_
    first|with_reducible refine ks [] @cT ?_|refine kp @cT ?_
    refine⟨_,(ke @cT), ?_⟩
    exact⟨Ext.of_new kF,rfl⟩
end Go.Proofs
end
section
open Go Go.Proofs Go.Sx Go.StP
namespace Go.Proofs
set_option maxRecDepth 10000
set_option maxHeartbeats 400000
set_option linter.unusedSimpArgs false
theorem KW (most:Int): ∀ (l:List UInt8) (k n m k':Nat),b9 most l k n= .ok (m,k')→(m:Int)≤most
 | [],_,_,_,_,h=>by simp[b9] at h
 |c::r,k,n,m,k',h=>by
  unfold b9 at h
  split at h
  ·split at h
   ·cases h
   ·exact KW most r _ _ _ _ h
  ·split at h
   ·cases h
   ·split at h
    ·rename_i hh
     cases h
     exact hh.2
    ·cases h
theorem yl {s:List UInt8} {a:Nat} {e most:Int} (h0:0≤most):0≤ (aW s a e most).1∧(aW s a e most).1≤most:=by
 unfold aW
 split
 ·exact⟨Int.le_refl 0,h0⟩
 ·split
  ·rename_i n k h
   exact⟨Int.natCast_nonneg _,KW most _ _ _ _ _ h⟩
  ·exact⟨Int.le_refl 0,h0⟩
def ag (s:List UInt8) (a:Nat) (e:Int):Nat→List IdL×Nat×Int
 |0=>([],a,e)
 |n+1=>let p:=ag s a e n;let i:=idR s p.2.1 p.2.2;(p.1++ [gJ i.1],i.2)
theorem vP (s:List UInt8) (a:Nat) (e:Int): ∀n,(ag s a e n).1.length=n
 |0=>rfl
 |n+1=>by simp only[ag,List.length_append,List.length_cons,List.length_nil,vP s a e n]
theorem rY {s:List UInt8} {a:Nat} {e:Int} (ha:a≤s.length): ∀n,(ag s a e n).2.1≤s.length
 |0=>ha
 |n+1=>(qH (rY ha n)).2
def comN (s:List UInt8):Int×Nat×Int:=aW s (idR s 0 0).2.1 (idR s 0 0).2.2 4
def cZ (s:List UInt8):List IdL×Nat×Int:=ag s (comN s).2.1 (comN s).2.2 (comN s).1.toNat
def comT (s:List UInt8):List UInt8×Nat×Int:=bC s (cZ s).2.1 (cZ s).2.2 64
def bY (s:List UInt8):ComL×Nat×Int:=(⟨gJ (idR s 0 0).1,(cZ s).1,(comT s).1⟩,(comT s).2)
def cy (s:List UInt8) (a:Nat) (e:Int):Int:=if e≠0 then e else if(a:Int)< (s.length:Int) then 5 else 0
def lT (s:List UInt8):Option ComL:=if cy s (bY s).2.1 (bY s).2.2=0∧ga (bY s).1=true∧comB (bY s).1=s then some (bY s).1 else none
theorem yW (s:List UInt8): (bY s).1.par.length≤4:=by
 show(cZ s).1.length≤4
 unfold cZ
 rw[vP]
 have:=yl (s:=s) (a:=(idR s 0 0).2.1) (e:=(idR s 0 0).2.2) (most:=4) (by decide)
 unfold comN
 omega
theorem Bf (t x:IdL) (p:Value) (y:List UInt8) (a:Bool) (E:TypeId):aZ (some (a,32)) (some (.cells (aY t p y).toArray E (0,0))) 0 (.agg (a8 x.l))=some (.cells (aY x p y).toArray E (0,0)):=
 km [] _ _ _ a _ E rfl (by simp[t.h]) (aU _) (by simp[x.h]) (n7 _)
theorem BA (t:IdL) (p q:Value) (y:List UInt8) (a:Bool) (E:TypeId) (hq:Value.oneCell' q=true∧q.cells= #[q]):aZ (some (a,1)) (some (.cells (aY t p y).toArray E (0,0))) 32 q=some (.cells (aY t q y).toArray E (0,0)):=
 km (t.l.map v8) [p] [q] [vs y] a _ E (by simp[t.h]) rfl hq.2 rfl (by simp[hq.1])
theorem Bm (t:IdL) (p:Value) (y z:List UInt8) (a:Bool) (E:TypeId):aZ (some (a,1)) (some (.cells (aY t p y).toArray E (0,0))) 33 (vs z)=some (.cells (aY t p z).toArray E (0,0)):=by
 have e: ∀y,aY t p y=(t.l.map v8++ [p])++ ([vs y]++ []):=fun y=>by unfold aY;simp only[List.append_assoc,List.append_nil]
 rw[e,e];exact km _ _ _ _ a _ E (by simp[t.h]) rfl rfl rfl rfl
theorem kC:aw Tryz.prog 126=some (.agg (aY id0 (.slice none 0 0) []).toArray):=id (by kernel_rfl)
theorem xN:eP (dK Tryz.prog 126) (aw Tryz.prog 126) []=some (.agg (aY id0 (.slice none 0 0) []).toArray):=by
 rw[show dK Tryz.prog 126=some [(0,32),(32,1),(33,1)] from id (by kernel_rfl),kC];rfl
theorem qG:aF Tryz.prog 24=some (true,32):=id (by kernel_rfl)
theorem jV:aw Tryz.prog 24=some (.agg (a8 id0.l)):=id (by kernel_rfl)
end Go.Proofs
end
section
open Go Go.Proofs Go.Sx Go.StP
namespace Go.Proofs
set_option maxRecDepth 10000
set_option maxHeartbeats 400000
set_option linter.unusedSimpArgs false
theorem wX {b:Nat} {x:Obj}: ∀ {D L:a6},b∉keys D→setB (D++L) b x=D++setB L b x
 | [],_,_=>rfl
 | (c,y)::r,L,h=>by
  simp only[keys,List.map_cons,List.mem_cons,not_or] at h
  rw[List.cons_append,jU _ _ _ _ _ (Ne.symm h.1),wX (by simpa [keys] using h.2)];rfl
def lZ (s:List UInt8) (v:Value) (D:a6):Prop:=
 match lT s with
 |some c=> ∃p,v= .tuple #[.agg (aY c.tree p c.text).toArray, .bool true]∧Gr D 24 32 p c.par.length (c.par.map aJ).flatten
 |none=>v= .tuple #[.agg (aY id0 (.slice none 0 0) []).toArray, .bool false]
theorem zQ (b:Nat) (s:List UInt8) (a:Nat) (e:Int) (w:World) (ho:w.heap[b]? =some (.cells #[vs s,vi a,vi e] 243 (0,0))):
  Rets Tryz.prog 131 #[vp b 0] w (fun v D=>v=vi (cy s a e)∧D= []):=Ka b s a e w ho
structure CmG where
 g:Nat
 v:Value
 D:a6
set_option linter.defProp false
def cM:=And.intro (And.intro (And.intro (@mu) (And.intro (@mw) (@mt))) (And.intro (And.intro (@mc) (@me)) (And.intro (@vE) (@vF)))) (And.intro (And.intro (@vK) (And.intro (@ve) (@qD))) (And.intro (And.intro (@Bf) (@Bm)) (And.intro (@cP) (@cO))))
theorem MQ (s:List UInt8) (w:World) (hs:s.length<100000):
  Rets Tryz.prog 69 #[vs s] w (XS w [] (lZ s)):=by
 refine Rets.enterX Tryz.func69 rfl (rs:= [.cell 2 126, .tmp 3]) Tryz.results69 Tryz.ntmps69 (fun p hp=>by cases hp) (by simp[keys]) ?_
 refine kf ?_
 first|with_reducible refine ks [] @cM ?_|refine kp @cM ?_
 refine Ow.alloc rfl rfl kC fun b2 ck ar=> ?_
 simp only[aU,List.nil_append,List.cons_append]
 refine ko @cM ?_
 refine Ow.build ((.agg #[vs s,vi 0,vi 0])) rfl (by kernel_rfl) ?_
 refine ko @cM ?_
 refine Ow.box rfl rfl fun br qb xB=> ?_
 have SY:b2<br:=aP qb (by simp[keys])
 simp only[bp,bj,cJ,aU,List.nil_append,List.cons_append]
 refine ko @cM ?_
 refine Ow.build (.agg (aY id0 (.slice none 0 0) []).toArray) rfl xN ?_
 refine ko @cM ?_
 refine Ow.alloc rfl rfl kC fun b5 cx eF=> ?_
 simp only[aU,List.nil_append,List.cons_append]
 have mF:b2<b5:=aP cx (by simp[keys])
 have T0:br<b5:=aP cx (by simp[keys])
 have st5: ∀a E,aZ (some (a,34)) (some (.cells (aY id0 (.slice none 0 0) []).toArray E (0,0))) 0 (.agg (aY id0 (.slice none 0 0) []).toArray)=some (.cells (aY id0 (.slice none 0 0) []).toArray E (0,0)):=fun a E=>wb _ _ _ _ a E (by rw[List.size_toArray,pu]) rfl
 refine ko (And.intro @cM @st5) ?_
 refine Ow.callM rfl rfl Tryz.call130 (by simp[keys]) (fun w' a7=>yi br s 0 0 w' (Nat.zero_le _) (by omega) (a7.has _ _ (List.mem_cons_of_mem _ List.mem_cons_self))) ?_
 have ip:=qH (s:=s) (a:=0) (e:=0) (Nat.zero_le _)
 have np:=jz (e:=(idR s 0 0).2.2) (most:=4) ip.2
 have nm:=yl (s:=s) (a:=(idR s 0 0).2.1) (e:=(idR s 0 0).2.2) (most:=4) (by decide)
 obtain⟨T,hT⟩: ∃T,gJ (idR s 0 0).1=T:=⟨_,rfl⟩
 have Jf: (idR s 0 0).1=T.l:=by rw[←hT,px (q7 s 0 0)]
 have pD:bY s=(⟨T,(cZ s).1,(comT s).1⟩,(comT s).2):=by unfold bY;rw[hT]
 rw[Jf]
 refine kn ?_
 refine ko @cM ?_
 refine Ow.callM rfl rfl Tryz.call128 (by simp[keys]) (fun w' a7=>KK br s _ _ 4 w' ip.2 (by omega) (a7.has _ _ (List.mem_cons_of_mem _ List.mem_cons_self))) ?_
 have hP:cZ s=ag s (aW s (idR s 0 0).2.1 (idR s 0 0).2.2 4).2.1 (aW s (idR s 0 0).2.1 (idR s 0 0).2.2 4).2.2 (aW s (idR s 0 0).2.1 (idR s 0 0).2.2 4).1.toNat:=rfl
 generalize aW s (idR s 0 0).2.1 (idR s 0 0).2.2 4=nr at*
 obtain⟨cn,na,ne⟩:=nr
 simp only at np nm hP ⊢
 obtain⟨k,rfl⟩:=Int.eq_ofNat_of_zero_le nm.1
 rw[Int.toNat_natCast] at hP
 refine kn ?_
 refine ko @cM ?_
 refine Cw.permL (M:=(b5, .cells (aY T (.slice none 0 0) []).toArray 126 (0,0)):: (br, .cells #[vs s,vi na,vi ne] 243 (0,0)):: (b2, .cells (aY id0 (.slice none 0 0) []).toArray 126 (0,0)):: []) (by classical exact List.perm_iff_count.2 fun a=>by simp only[List.count_append,List.count_cons,List.count_nil]<;>omega) ?_
 refine Cw.loopG (G:=CmG) [17,18,19,22,23,24,25,26,27,28,20,21,7] (fun q=> [(7,vi q.g)]) (fun q=>(b5, .cells (aY T q.v []).toArray 126 (0,0)):: (br, .cells #[vs s,vi (ag s na ne q.g).2.1,vi (ag s na ne q.g).2.2] 243 (0,0)):: (b2, .cells (aY id0 (.slice none 0 0) []).toArray 126 (0,0))::q.D) (fun q=>q.g≤k∧New (b5+1) q.D∧Gr q.D 24 32 q.v q.g ((ag s na ne q.g).1.map aJ).flatten) (fun q=>k - q.g) ⟨0, .slice none 0 0,[]⟩ rfl rfl ?_ ?_
 ·exact⟨Nat.zero_le _,trivial,Gr.nl⟩
 ·intro q jq hq
  refine kv ?_
  obtain⟨g,v,D⟩:=q
  simp only at hq ⊢
  obtain⟨RO,hN,hG⟩:=hq
  have gle:=rY (e:=ne) np.2 g
  by_cases aC:g<k
  ·have pM:ag s na ne (g+1)=((ag s na ne g).1++ [gJ (idR s (ag s na ne g).2.1 (ag s na ne g).2.2).1],(idR s (ag s na ne g).2.1 (ag s na ne g).2.2).2):=rfl
   first|with_reducible refine ks [7] @cM ?_|refine kp @cM ?_
   refine Cw.regionS [b5] [0,2,1,3,4,5,6,7] [7] (by kernel_rfl) (by kernel_rfl) (by kernel_rfl) ?_
   simp only[aN, ↓aM, ↓aH, ↓aL, ↓aK,aI]
   refine kq @cM ?_
   refine Ow.soft rfl rfl rfl ?_
   refine Ow.callM rfl rfl Tryz.call130 (by simp[keys]) (fun w' a7=>yi br s (ag s na ne g).2.1 (ag s na ne g).2.2 w' gle (by omega) (a7.has _ _ (List.mem_cons_of_mem _ List.mem_cons_self))) ?_
   with_reducible refine Ow.nil ?_
   refine⟨fun b hb=>vw (by simp only[List.mem_cons,List.not_mem_nil,or_false] at hb;omega), ?_⟩
   have f_:=q7 s (ag s na ne g).2.1 (ag s na ne g).2.2
   obtain⟨I,hI⟩: ∃I,gJ (idR s (ag s na ne g).2.1 (ag s na ne g).2.2).1=I:=⟨_,rfl⟩
   have pN: (idR s (ag s na ne g).2.1 (ag s na ne g).2.2).1=I.l:=by rw[←hI,px f_]
   rw[hI] at pM
   have gp: (ag s na ne (g+1)).1=(ag s na ne g).1++ [I]:=by rw[pM]
   have iG: (ag s na ne (g+1)).2=(idR s (ag s na ne g).2.1 (ag s na ne g).2.2).2:=by rw[pM]
   rw[pN,←iG]
   refine kn ?_
   refine Ow.soft rfl rfl rfl ?_
   refine Ow.buildSlice (e:=24) (a8 I.l) rfl rfl (gw (cs:=I.l.map v8) Tryz.underlying30 qG jV (by decide) (by simp[I.h])) fun b13 bz dp=> ?_
   have K8:b5<b13:=aP bz (by simp[keys])
   with_reducible refine Ow.nil ?_
   refine⟨cv (by simp[keys]), ?_⟩
   try simp only[List.cons_append,List.nil_append]
   refine Ow.soft rfl rfl rfl ?_
   refine Ow.permL (M:=D++ ((b5,Obj.cells (aY T v []).toArray 126 (0,0)):: (br,Obj.cells #[vs s,vi (ag s na ne (g+1)).2.1,vi (ag s na ne (g+1)).2.2] 243 (0,0)):: (b2,Obj.cells (aY id0 (.slice none 0 0) []).toArray 126 (0,0)):: [(b13,Obj.cells (a8 I.l) 24 (0,0))])) (by classical exact List.perm_iff_count.2 fun a=>by simp only[List.count_append,List.count_cons,List.count_nil]<;>omega) ?_
   refine Ow.appendX (e:=24) (k:=1) (new:=aJ I) (X:=D) v rfl rfl rfl rfl Tryz.underlying30 qG (by kernel_rfl) jV (by rw[aU,q6,id0.h]) Tryz.underlying30 (by intro k h;cases h) hG (fun w' a7=>AppX.one1 (a7.has b13 (.cells (a8 I.l) 24 (0,0)) (by simp)) (qF I) (LL I)) (by omega) (by omega) (fun B v4 D4 dv eL bh bk ap b_=> ?_)
   have ox:b13<B:=aP dv (by simp[aT,keys])
   have cq:New (b5+1) D4:=New.of_le fun q hq=>by
    rcases ap q hq with h|h
    ·exact hN.le q h
    ·omega
   have Iw:b5∉keys D4:=cq.not (by omega)
   with_reducible refine Ow.nil ?_
   refine⟨fun q hq=> ?_, ?_⟩
   ·rw[List.mem_singleton] at hq
    subst hq
    rw[uy Iw]
    simp only[fT]
   have iK: ∀M,Sx.look (D4++M) b5=Sx.look M b5:=fun M=>gN Iw
   have uk: ∀M x,setB (D4++M) b5 x=D4++setB M b5 x:=fun M x=>wX Iw
   have st5:=fun a E=>BA T v v4 [] a E bh.cell
   refine kq (And.intro @cM (And.intro @iK (And.intro @uk (And.intro @st5 (@nt))))) ?_
   have ki:lL (aF Tryz.prog 30) (D4++ [(b5,Obj.cells (aY T v []).toArray 126 (0,0)),(br,Obj.cells #[vs s,vi (ag s na ne (g+1)).2.1,vi (ag s na ne (g+1)).2.2] 243 (0,0)),(b2,Obj.cells (aY id0 (.slice none 0 0) []).toArray 126 (0,0)),(b13,Obj.cells (a8 I.l) 24 (0,0))]) (vp b5 32) v4=
     some (D4++ [(b5,Obj.cells (aY T v4 []).toArray 126 (0,0)),(br,Obj.cells #[vs s,vi (ag s na ne (g+1)).2.1,vi (ag s na ne (g+1)).2.2] 243 (0,0)),(b2,Obj.cells (aY id0 (.slice none 0 0) []).toArray 126 (0,0)),(b13,Obj.cells (a8 I.l) 24 (0,0))]):=by
    rw[Tryz.ag30,nk,iK]
    simp only[eA,st5,ni,uk,j1]
   refine Ow.store rfl rfl rfl ki ?_
   refine ko @cM ?_
   refine Cw.permL (M:=(b5,Obj.cells (aY T v4 []).toArray 126 (0,0)):: (br,Obj.cells #[vs s,vi (ag s na ne (g+1)).2.1,vi (ag s na ne (g+1)).2.2] 243 (0,0)):: (b2,Obj.cells (aY id0 (.slice none 0 0) []).toArray 126 (0,0)):: (D4++ [(b13,Obj.cells (a8 I.l) 24 (0,0))])) (by classical exact List.perm_iff_count.2 fun a=>by simp only[List.count_append,List.count_cons,List.count_nil]<;>omega) ?_
   first|with_reducible refine ks [] @cM ?_|refine kp @cM ?_
   refine Again.mk (CmG.mk (g+1) v4 (D4++ [(b13,Obj.cells (a8 I.l) 24 (0,0))])) (by show k - (g+1)<k - g;omega) ⟨by show g+1≤k;omega,cq.app ⟨by omega,trivial⟩, ?_⟩ rfl rfl
   show Gr _ _ _ _ (g+1) ((ag s na ne (g+1)).1.map aJ).flatten
   rw[gp,List.map_append,List.flatten_append,show([I].map aJ).flatten=aJ I by simp]
   exact Gr.app (.inl bh)
  ·obtain rfl:g=k:=by omega
   rw[←hP] at hG
   rw[←hP] at gle
   rw[←hP]
   have tp:=pr (e:=(cZ s).2.2) (most:=64) gle
   first|with_reducible refine ks [] @cM ?_|refine kp @cM ?_
   refine Ow.callM rfl rfl Tryz.call129 (by simp[keys]) (fun w' a7=>LF br s (cZ s).2.1 (cZ s).2.2 64 w' gle (by omega) (a7.has _ _ (List.mem_cons_of_mem _ List.mem_cons_self))) ?_
   refine kn ?_
   refine ko @cM ?_
   have JM:comT s=bC s (cZ s).2.1 (cZ s).2.2 64:=rfl
   have jM:=yM s (cZ s).2.1 (cZ s).2.2 64
   rw[JM] at pD
   generalize bC s (cZ s).2.1 (cZ s).2.2 64=tx at*
   obtain⟨tt,a3,e3⟩:=tx
   simp only at tp pD jM ⊢
   have tv: (cZ s).1.length=g:=by rw[hP,vP]
   generalize (cZ s).1=pl at*
   have So:g≤4:=by omega
   have hC: ∀w',Hp w ((b5,Obj.cells (aY T v tt).toArray 126 (0,0)):: (br, .cells #[vs s,vi a3,vi e3] 243 (0,0)):: (b2,Obj.cells (aY id0 (.slice none 0 0) []).toArray 126 (0,0))::D) w'→ComS w' (.agg (aY T v tt).toArray) ⟨T,pl,tt⟩:=fun w' a7=>
    ⟨v,rfl,hG.slM (fun b o hm=>a7.has b o (by simp[hm])) tv rfl qF⟩
   have kF:New w.heap.size ((b5,Obj.cells (aY T v tt).toArray 126 (0,0)):: (br, .cells #[vs s,vi a3,vi e3] 243 (0,0)):: (b2,Obj.cells (aY id0 (.slice none 0 0) []).toArray 126 (0,0))::D):=⟨eF,xB,ar,New.mono (by omega) hN⟩
   have hR:lT s=if cy s a3 e3=0∧ga ⟨T,pl,tt⟩=true∧comB ⟨T,pl,tt⟩=s then some ⟨T,pl,tt⟩ else none:=by unfold lT;rw[pD]
   have stz: ∀a E,aZ (some (a,34)) (some (.cells (aY id0 (.slice none 0 0) []).toArray E (0,0))) 0 (.agg (aY id0 (.slice none 0 0) []).toArray)=some (.cells (aY id0 (.slice none 0 0) []).toArray E (0,0)):=st5
   unfold lZ
   rw[hR]
   refine Ow.callFV rfl Tryz.call131 (fun w' a7=>zQ br s a3 e3 w' (a7.has _ _ (List.mem_cons_of_mem _ List.mem_cons_self))) ?_
   by_cases he:cy s a3 e3=0
   ·have d1: (cy s a3 e3 !=0)=false:=by simp[he]
    refine ko (And.intro @cM @d1) ?_
    refine Ow.callFV rfl Tryz.call134 (fun w' a7=>OU _ _ w' (hC w' a7) (by show pl.length<1000000;omega) (by show tt.length<1099511627776;omega)) ?_
    cases hr:ga ⟨T,pl,tt⟩
    ·rw[if_neg (by simp)]
     refine ko @cM ?_
     refine Ow.build (.agg (aY id0 (.slice none 0 0) []).toArray) rfl xN ?_
     refine ko (And.intro @cM @stz) ?_
     first|with_reducible refine ks [] @cM ?_|refine kp @cM ?_
     refine⟨_,(ke @cM), ?_⟩
     exact⟨Ext.of_new kF,rfl⟩
    ·refine ko @cM ?_
     refine Ow.callFV rfl Tryz.call135 (fun w' a7=>Nn _ _ w' (hC w' a7) (by show pl.length<1000000;omega) (by show tt.length<1099511627776;omega)) ?_
     by_cases hb:comB ⟨T,pl,tt⟩=s
     ·have d3: (comB ⟨T,pl,tt⟩ !=s)=false:=by simp[hb]
      have stq: ∀a E,aZ (some (a,34)) (some (.cells (aY id0 (.slice none 0 0) []).toArray E (0,0))) 0 (.agg (aY T v tt).toArray)=some (.cells (aY T v tt).toArray E (0,0)):=fun a E=>wb _ _ _ _ a E (by rw[List.size_toArray,pu]) hG.cell.1
      rw[if_pos ⟨he,rfl,hb⟩]
      refine ko (And.intro @cM (And.intro @d3 (@stq))) ?_
      first|with_reducible refine ks [] @cM ?_|refine kp @cM ?_
      refine⟨_,(ke @cM), ?_⟩
      refine⟨Ext.of_new ⟨eF,xB,ar,New.mono (by omega) hN⟩,v,rfl, ?_⟩
      show Gr _ _ _ _ pl.length (pl.map aJ).flatten
      rw[tv]
      exact hG.keep fun b o hb ho=>by
       have:=hN.le b (cE ho)
       simp(disch:=omega) only[ii]
       exact ho
     ·have d3: (comB ⟨T,pl,tt⟩ !=s)=true:=by simp[hb]
      rw[if_neg (fun h=>hb h.2.2)]
      refine ko (And.intro @cM @d3) ?_
      refine Ow.build (.agg (aY id0 (.slice none 0 0) []).toArray) rfl xN ?_
      refine ko (And.intro @cM @stz) ?_
      first|with_reducible refine ks [] @cM ?_|refine kp @cM ?_
      refine⟨_,(ke @cM), ?_⟩
      exact⟨Ext.of_new kF,rfl⟩
   ·have d1: (cy s a3 e3 !=0)=true:=by simp[he]
    rw[if_neg (fun h=>he h.1)]
    refine ko (And.intro @cM @d1) ?_
    refine Ow.build (.agg (aY id0 (.slice none 0 0) []).toArray) rfl xN ?_
    refine ko (And.intro @cM @stz) ?_
    first|with_reducible refine ks [] @cM ?_|refine kp @cM ?_
    refine⟨_,(ke @cM), ?_⟩
    exact⟨Ext.of_new kF,rfl⟩
end Go.Proofs
end
section
open Go Go.Proofs Go.Sx Go.StP
namespace Go.Proofs
set_option maxRecDepth 10000
set_option maxHeartbeats 400000
set_option linter.unusedSimpArgs false
def roC (r v:Value) (t:IdL) (p:Value) (y:List UInt8):List Value:= [r]++ ([v]++aY t p y)
theorem yE (r v:Value) (t:IdL) (p:Value) (y:List UInt8) (n:Nat) (E:TypeId) (fz:Nat×Nat):aS (some (false,n)) (some (.cells (roC r v t p y).toArray E fz)) 0=some r:=my [] _ r n E fz rfl
theorem y7 (r v:Value) (t:IdL) (p:Value) (y:List UInt8) (n:Nat) (E:TypeId) (fz:Nat×Nat):aS (some (false,n)) (some (.cells (roC r v t p y).toArray E fz)) 1=some v:=by
 unfold roC;exact my [r] _ v n E fz rfl
theorem y9 (r v:Value) (t:IdL) (p:Value) (y:List UInt8) (E:TypeId) (fz:Nat×Nat):aS (some (true,34)) (some (.cells (roC r v t p y).toArray E fz)) 2=some (.agg (aY t p y).toArray):=by
 have e:roC r v t p y= [r,v]++ (aY t p y++ []):=by unfold roC;simp
 rw[e];exact mr [r,v] _ _ E fz rfl (pu _ _ _)
theorem yJ (r v:Value) (t:IdL) (p:Value) (y:List UInt8) (n:Nat) (E:TypeId) (fz:Nat×Nat):aS (some (false,n)) (some (.cells (roC r v t p y).toArray E fz)) 34=some p:=by
 have e:roC r v t p y=([r,v]++t.l.map v8)++ ([p]++ [vs y]):=by unfold roC aY;simp
 rw[e];exact my _ _ p n E fz (by simp[t.h])
theorem DF (r v q:Value) (t:IdL) (p:Value) (y:List UInt8) (a:Bool) (E:TypeId) (hq:Value.oneCell' q=true∧q.cells= #[q]):aZ (some (a,1)) (some (.cells (roC r v t p y).toArray E (0,0))) 1 q=some (.cells (roC r q t p y).toArray E (0,0)):=by
 unfold roC
 exact km [r] [v] [q] _ a _ E rfl rfl hq.2 rfl (by simp[hq.1])
theorem ED (r v:Value) (t x:IdL) (p:Value) (y:List UInt8) (a:Bool) (E:TypeId):aZ (some (a,32)) (some (.cells (roC r v t p y).toArray E (0,0))) 2 (.agg (a8 x.l))=some (.cells (roC r v x p y).toArray E (0,0)):=by
 have e: ∀t,roC r v t p y= [r,v]++ (t.l.map v8++ ([p]++ [vs y])):=fun t=>by unfold roC aY;simp
 rw[e,e];exact km [r,v] _ _ _ a _ E rfl (by simp[t.h]) (aU _) (by simp[x.h]) (n7 _)
theorem BO (r v:Value) (t:IdL) (p q:Value) (y:List UInt8) (a:Bool) (E:TypeId) (hq:Value.oneCell' q=true∧q.cells= #[q]):aZ (some (a,1)) (some (.cells (roC r v t p y).toArray E (0,0))) 34 q=some (.cells (roC r v t q y).toArray E (0,0)):=by
 have e: ∀p,roC r v t p y=([r,v]++t.l.map v8)++ ([p]++ [vs y]):=fun p=>by unfold roC aY;simp
 rw[e,e];exact km _ [p] [q] [vs y] a _ E (by simp[t.h]) rfl hq.2 rfl (by simp[hq.1])
theorem Ba (r v:Value) (t:IdL) (p:Value) (y z:List UInt8) (a:Bool) (E:TypeId):aZ (some (a,1)) (some (.cells (roC r v t p y).toArray E (0,0))) 35 (vs z)=some (.cells (roC r v t p z).toArray E (0,0)):=by
 have e: ∀y,roC r v t p y=(([r,v]++t.l.map v8)++ [p])++ ([vs y]++ []):=fun y=>by unfold roC aY;simp
 rw[e,e];exact km _ _ _ _ a _ E (by simp[t.h]) rfl rfl rfl rfl
theorem BK (k:Int) (t:List UInt8):eP (dK Tryz.prog 117) (aw Tryz.prog 117) [(1,vi k),(0,vs t)]=some (.agg (aD ⟨t,k,id0⟩).toArray):=by
 rw[show dK Tryz.prog 117=some [(0,1),(1,1),(2,32)] from id (by kernel_rfl),gg];rfl
theorem yk (b:Nat) (s:List UInt8) (a:Nat) (e:Int) (w:World) (ho:w.heap[b]? =some (.cells #[vs s,vi a,vi e] 314 (0,0))):
  Rets Tryz.prog 167 #[vp b 0] w (fun v D=>v=vi (cy s a e)∧D= []):=CH b s a e w ho
set_option linter.defProp false
def eu:=And.intro (And.intro (And.intro (And.intro (@mu) (@mw)) (And.intro (@mt) (@mc))) (And.intro (And.intro (@me) (@yE)) (And.intro (@y7) (@y9)))) (And.intro (And.intro (And.intro (@yJ) (@j0)) (And.intro (@MC) (@M6))) (And.intro (And.intro (@Kv) (@iR)) (And.intro (@gM) (And.intro (@cP) (@cO)))))
theorem sS {w:World} {a b:Nat} {x y:Obj} (h:w.heap[a]? =some x) (h':w.heap[b]? =some y): ∀p:Nat×Obj,p∈ [(a,x),(b,y)]→w.heap[p.1]? =some p.2:=by
 intro p hp
 simp only[List.mem_cons,List.not_mem_nil,or_false] at hp
 rcases hp with rfl|rfl<;>assumption
structure EnH where
 n:Nat
 a:Nat
 e:Int
 l:List EntL
 v:Value
 D:a6
 H:a6
def tD (bo bw:Nat) (s:List UInt8) (v:Value) (D:a6):Prop:=
 v= .bool (cy s (cL s).2.1 (cL s).2.2==0&&dr (cL s).1)∧ ∃v1,Sx.look D bo=some (.cells (roC (vp bw 0) v1 id0 (.slice none 0 0) []).toArray 142 (0,0))∧Gr D 117 34 v1 (cL s).1.length ((cL s).1.map aD).flatten
theorem A3 (bo bw:Nat) (s:List UInt8) (w:World) (hs:s.length<100000) (ai:bo≠bw)
  (ho:w.heap[bo]? =some (.cells (roC (vp bw 0) (.slice none 0 0) id0 (.slice none 0 0) []).toArray 142 (0,0))) (hr:w.heap[bw]? =some (.cells #[vs s,vi 0,vi 0] 314 (0,0))):
  Rets Tryz.prog 145 #[vp bo 0] w (XS w [(bo, .cells (roC (vp bw 0) (.slice none 0 0) id0 (.slice none 0 0) []).toArray 142 (0,0)),(bw, .cells #[vs s,vi 0,vi 0] 314 (0,0))] (tD bo bw s)):=by
 have lD:bo<w.heap.size:=(Array.getElem?_eq_some_iff.1 ho).1
 have qp:bw<w.heap.size:=(Array.getElem?_eq_some_iff.1 hr).1
 refine Rets.enterX Tryz.func145 rfl (rs:= [.tmp 2]) Tryz.results145 Tryz.ntmps145 (sS ho hr) (by simp[keys,ai]) ?_
 refine kf ?_
 first|with_reducible refine ks [] @eu ?_|refine kp @eu ?_
 refine Cw.loopG (G:=EnH) [4,5,6,7,8,9,10,11,12,13,14,15,16,17,18,19,20,3,21,22,23,24,25,26,27,28,29,30,31,32,33,34,35,36] (fun q=> []) (fun q=>q.H) (fun q=>EntsJ s q.n q.a q.e q.l∧New w.heap.size q.D∧Gr q.D 117 34 q.v q.l.length (q.l.map aD).flatten∧((bo,Obj.cells (roC (vp bw 0) q.v id0 (.slice none 0 0) []).toArray 142 (0,0)):: (bw, .cells #[vs s,vi q.a,vi q.e] 314 (0,0))::q.D).Perm q.H) (fun q=>q.n) ⟨s.length+1,0,0,[], .slice none 0 0,[],[(bo,Obj.cells (roC (vp bw 0) (.slice none 0 0) id0 (.slice none 0 0) []).toArray 142 (0,0)),(bw, .cells #[vs s,vi 0,vi 0] 314 (0,0))]⟩ rfl rfl ?_ ?_
 ·exact⟨EntsJ.init s,trivial,Gr.nl,List.Perm.refl _⟩
 ·intro q jq hq
  refine kv ?_
  obtain⟨n,a,e,l,v,D,H0⟩:=q
  simp only at hq ⊢
  obtain⟨hJ,hN,hG,tw⟩:=hq
  refine Cw.permL tw ?_
  clear tw
  have eN:=hJ.le
  first|with_reducible refine ks [3] @eu ?_|refine kp @eu ?_
  refine Ow.callFV rfl Tryz.call167 (fun w' a7=>yk bw s a e w' (a7.has _ _ (List.mem_cons_of_mem _ List.mem_cons_self))) ?_
  by_cases hc:e=0∧a<s.length
  ·obtain⟨m,rfl,mI⟩:=hJ.next hc
   obtain⟨he,aC⟩:=hc
   have h5:cy s a e=5:=by unfold cy;rw[if_neg (by simp[he]),if_pos (by omega)]
   have d1: (cy s a e==5)=true:=by simp[h5]
   refine ko (And.intro @eu @d1) ?_
   have hp:=jz (e:=e) (most:=2) eN
   have hq:=pr (e:=(aW s a e 2).2.2) (most:=32) hp.2
   have heq:eK s a e=(⟨(bC s (aW s a e 2).2.1 (aW s a e 2).2.2 32).1,(aW s a e 2).1,gJ (idR s (bC s (aW s a e 2).2.1 (aW s a e 2).2.2 32).2.1 (bC s (aW s a e 2).2.1 (aW s a e 2).2.2 32).2.2).1⟩,(idR s (bC s (aW s a e 2).2.1 (aW s a e 2).2.2 32).2.1 (bC s (aW s a e 2).2.1 (aW s a e 2).2.2 32).2.2).2):=rfl
   have f_:=q7 s (bC s (aW s a e 2).2.1 (aW s a e 2).2.2 32).2.1 (bC s (aW s a e 2).2.1 (aW s a e 2).2.2 32).2.2
   refine Cw.regionD [bo] [12] 11 3 117 12 _ rfl (by kernel_rfl) (by kernel_rfl) rfl (by kernel_rfl) gg (fun hD=> ?_)
   simp only[List.replicate_succ,List.replicate_zero]
   refine OwD.run [0,1,2,3,5,6,7,8] [true,true,true,true,false,true,true,true,true,false,false,false,false] 4 rfl hD (by kernel_rfl) fun k hk=> ?_
   simp only[aN, ↓aM, ↓aH, ↓aL, ↓aK,aI]
   simp(disch:=(first|assumption|omega| (simp only[ac,ab,UInt64.reduceToNat];try omega))) only[↓Sx.S0,Sx.S1,Tryz.fx,eu,Nat.reduceAdd,Nat.reducePow,Int.reducePow,Nat.reduceBEq, ↓reduceIte,UInt8.reduceToNat,UInt16.reduceToNat,UInt32.reduceToNat,UInt64.reduceToNat,Int.reduceToNat,Md.next_sofnil,Md.next_sofnil]
   (with_reducible refine hk _ _ _ ?_);clear hk k
   refine OwD.soft 4 _ hD rfl (by kernel_rfl) (fun E hE=> ?_)
   refine Ow.callM rfl rfl Tryz.call165 (by simp[keys]) (fun w' a7=>KR bw s a e 2 w' eN (by omega) (a7.has _ _ (by simp))) ?_
   generalize aW s a e 2=p at*
   obtain⟨kd,a1,e1⟩:=p
   simp only at hp hq heq f_ ⊢
   refine kn ?_
   with_reducible refine Ow.nil ?_
   refine⟨(bo,Obj.cells (roC (vp bw 0) v id0 (.slice none 0 0) []).toArray 142 (0,0)):: (bw, .cells #[vs s,vi a1,vi e1] 314 (0,0))::D,(by classical exact List.perm_iff_count.2 fun a=>by simp only[List.count_append,List.count_cons,List.count_nil]<;>omega),fun r hr=> ?_, ?_⟩
   ·rw[List.mem_singleton.1 hr]
    simp only[fT]
   simp only[List.set_cons_zero,List.set_cons_succ,ax,an,ao]
   refine OwD.soft 9 _ hD rfl (by kernel_rfl) (fun E hE=> ?_)
   refine Ow.callM rfl rfl Tryz.call202 (by simp[keys]) (fun w' a7=>M9 bw s a1 e1 32 w' hp.2 (by omega) (a7.has _ _ (by simp))) ?_
   generalize bC s a1 e1 32=q at*
   obtain⟨tt,a2,e2⟩:=q
   simp only at hq heq f_ ⊢
   refine kn ?_
   with_reducible refine Ow.nil ?_
   refine⟨(bo,Obj.cells (roC (vp bw 0) v id0 (.slice none 0 0) []).toArray 142 (0,0)):: (bw, .cells #[vs s,vi a2,vi e2] 314 (0,0))::D,(by classical exact List.perm_iff_count.2 fun a=>by simp only[List.count_append,List.count_cons,List.count_nil]<;>omega),fun r hr=> ?_, ?_⟩
   ·rw[List.mem_singleton.1 hr]
    simp only[fT]
   simp only[List.set_cons_zero,List.set_cons_succ,ax,an,ao]
   refine OwD.soft 10 _ hD rfl (by kernel_rfl) (fun E hE=> ?_)
   refine Ow.build (.agg (aD ⟨tt,kd,id0⟩).toArray) rfl (BK kd tt) ?_
   with_reducible refine Ow.nil ?_
   refine⟨_,List.Perm.refl _,fun _ _=>rfl, ?_⟩
   simp only[List.set_cons_zero,List.set_cons_succ,ax,an,ao]
   refine OwD.real [12] rfl hD (by kernel_rfl) (by kernel_rfl) (by kernel_rfl) (by kernel_rfl) (fun r hr=>by rw[List.mem_singleton.1 hr];exact .inl (by simp[keys])) ?_
   simp only[aN, ↓aM, ↓aH, ↓aL, ↓aK,aI]
   intro b3 bA dU
   simp only[an,ao]
   have KB:=iR ⟨tt,kd,id0⟩ ent0
   refine Ow.store rfl rfl rfl (L':=((bo,Obj.cells (roC (vp bw 0) v id0 (.slice none 0 0) []).toArray 142 (0,0)):: (bw, .cells #[vs s,vi a2,vi e2] 314 (0,0))::D)++ [(b3, .cells (aD ⟨tt,kd,id0⟩).toArray 117 (0,0))]) ?_ ?_
   ·simp only[bp,bj,cJ]
    rw[Tryz.ag117,nk,xD dU,aU,KB,ni,rK dU]
    exact []
   refine ko @eu ?_
   refine Cw.permL (M:=(b3, .cells (aD ⟨tt,kd,id0⟩).toArray 117 (0,0)):: (bo,Obj.cells (roC (vp bw 0) v id0 (.slice none 0 0) []).toArray 142 (0,0)):: (bw, .cells #[vs s,vi a2,vi e2] 314 (0,0))::D) (by classical exact List.perm_iff_count.2 fun a=>by simp only[List.count_append,List.count_cons,List.count_nil]<;>omega) ?_
   have R2:bo≠b3:=by simp[keys] at dU;omega
   have R3:bw≠b3:=by simp[keys] at dU;omega
   first|with_reducible refine ks [] @eu ?_|refine kp @eu ?_
   refine Ow.callM rfl rfl Tryz.call203 (by simp[keys]) (fun w' a7=>y4 bw s a2 e2 w' hq.2 (by omega) (a7.has _ _ (by simp))) ?_
   generalize idR s a2 e2=i at*
   obtain⟨il,a3,e3⟩:=i
   simp only at heq f_ ⊢
   obtain⟨I,hI⟩: ∃I,gJ il=I:=⟨_,rfl⟩
   have pN:il=I.l:=by rw[←hI,px f_]
   rw[hI] at heq
   rw[pN]
   refine kn ?_
   refine ko @eu ?_
   generalize hx: ({name:=tt,kind:=kd,id:=I}:EntL)=x
   rw[hx] at heq
   rw[heq] at mI
   refine Cw.regionS [bo,b3] [0,1,2,3,4,5,6,7,8,9,10] [10] (by kernel_rfl) (by kernel_rfl) (by kernel_rfl) ?_
   simp only[aN, ↓aM, ↓aH, ↓aL, ↓aK,aI]
   refine kq @eu ?_
   refine Ow.soft rfl rfl rfl ?_
   refine Ow.buildSlice (e:=117) (aD x).toArray rfl rfl (gw Tryz.underlying122 ny gg (by decide) (eB x)) fun b13 bz dp=> ?_
   have Qb:b3<b13:=aP bz (by simp[keys])
   with_reducible refine Ow.nil ?_
   refine⟨cv (by simp[keys]), ?_⟩
   try simp only[List.cons_append,List.nil_append]
   refine Ow.soft rfl rfl rfl ?_
   refine Ow.permL (M:=D++ [(b3,Obj.cells (aD x).toArray 117 (0,0)),(bo,Obj.cells (roC (vp bw 0) v id0 (.slice none 0 0) []).toArray 142 (0,0)),(bw, .cells #[vs s,vi a3,vi e3] 314 (0,0)),(b13,Obj.cells (aD x).toArray 117 (0,0))]) (by classical exact List.perm_iff_count.2 fun a=>by simp only[List.count_append,List.count_cons,List.count_nil]<;>omega) ?_
   refine Ow.appendX (e:=117) (k:=1) (new:=aD x) (X:=D) v rfl rfl rfl rfl Tryz.underlying122 ny (by kernel_rfl) gg (by rw[gM,List.size_toArray,eB]) Tryz.underlying122 (by intro k h;cases h) hG (fun w' a7=>AppX.one1 (a7.has b13 (.cells (aD x).toArray 117 (0,0)) (by simp)) (eB _) (vW _)) (by omega) (by have:=hJ.cnt;omega) (fun B v4 D4 dv eL bh bk ap b_=> ?_)
   have l7:b3<B:=aP dv (by simp[aT,keys])
   have cq:New w.heap.size D4:=New.of_le fun q hq=>by
    rcases ap q hq with h|h
    ·exact hN.le q h
    ·omega
   have pY:bo∉keys D4:=cq.not lD
   have qN:b3∉keys D4:=fun hm=>by
    rcases ap b3 hm with h|h
    ·exact dU (by simp only[keys,List.map_cons,List.mem_cons];exact .inr (.inr h))
    ·omega
   with_reducible refine Ow.nil ?_
   refine⟨fun q hq=> ?_, ?_⟩
   ·simp only[List.mem_cons,List.not_mem_nil,or_false] at hq
    rcases hq with rfl|rfl
    ·rw[uy pY]
     simp(disch:=omega) only[fT,dD]
    ·rw[uy qN]
     simp(disch:=omega) only[fT,dD]
   have pT: ∀M,Sx.look (D4++M) bo=Sx.look M bo:=fun M=>gN pY
   have pf: ∀M x,setB (D4++M) bo x=D4++setB M bo x:=fun M x=>wX pY
   have st1:=fun a E=>DF (vp bw 0) v v4 id0 (.slice none 0 0) [] a E bh.cell
   have ki:lL (aF Tryz.prog 122) (D4++ [(b3,Obj.cells (aD x).toArray 117 (0,0)),(bo,Obj.cells (roC (vp bw 0) v id0 (.slice none 0 0) []).toArray 142 (0,0)),(bw, .cells #[vs s,vi a3,vi e3] 314 (0,0)),(b13,Obj.cells (aD x).toArray 117 (0,0))]) (vp bo 1) v4=some (D4++ [(b3,Obj.cells (aD x).toArray 117 (0,0)),(bo,Obj.cells (roC (vp bw 0) v4 id0 (.slice none 0 0) []).toArray 142 (0,0)),(bw, .cells #[vs s,vi a3,vi e3] 314 (0,0)),(b13,Obj.cells (aD x).toArray 117 (0,0))]):=by
    rw[Tryz.ag122,nk,pT]
    simp(disch:=omega) only[eA,ii,st1,ni,pf,j1,jU]
   refine kq @eu ?_
   refine Ow.store rfl rfl rfl ki ?_
   refine ko @eu ?_
   refine Again.mk (EnH.mk m a3 e3 (l++ [x]) v4 (D4++ [(b3,Obj.cells (aD x).toArray 117 (0,0)),(b13,Obj.cells (aD x).toArray 117 (0,0))]) _) (by show m<m+1;omega) ⟨mI,cq.app ⟨by omega,by omega,trivial⟩, ?_, ?_⟩ rfl rfl
   ·show Gr _ _ _ _ (l++ [x]).length ((l++ [x]).map aD).flatten
    rw[List.length_append,List.map_append,List.flatten_append,show([x].map aD).flatten=aD x by simp]
    exact Gr.app (.inl bh)
   ·exact(by classical exact List.perm_iff_count.2 fun a=>by simp only[List.count_append,List.count_cons,List.count_nil]<;>omega)
  ·have hd:=hJ.done hc
   have dL:=hJ.sh (by omega)
   have RB:=hJ.cnt
   have h5:cy s a e≠5:=by
    unfold cy
    by_cases he:e=0
    ·rw[if_neg (by simp[he]),if_neg (by omega)];decide
    ·rw[if_pos he];exact hJ.five
   have d1: (cy s a e==5)=false:=by simpa using h5
   have hE:Ext w [(bo,Obj.cells (roC (vp bw 0) (.slice none 0 0) id0 (.slice none 0 0) []).toArray 142 (0,0)),(bw,Obj.cells #[vs s,vi 0,vi 0] 314 (0,0))] ((bo,Obj.cells (roC (vp bw 0) v id0 (.slice none 0 0) []).toArray 142 (0,0)):: (bw,Obj.cells #[vs s,vi a,vi e] 314 (0,0))::D):=by
    refine⟨fun c hc=> ?_,fun c hc=> ?_⟩
    ·simp only[keys,List.map_cons,List.map_nil,List.mem_cons,List.not_mem_nil,or_false] at hc ⊢
     rcases hc with h|h|h
     ·exact .inl (.inl h)
     ·exact .inl (.inr h)
     ·exact .inr (hN.le c h)
    ·simp only[keys,List.map_cons,List.map_nil,List.mem_cons,List.not_mem_nil,or_false] at hc ⊢
     rcases hc with h|h
     ·exact .inl h
     ·exact .inr (.inl h)
   have hF:Gr ((bo,Obj.cells (roC (vp bw 0) v id0 (.slice none 0 0) []).toArray 142 (0,0)):: (bw,Obj.cells #[vs s,vi a,vi e] 314 (0,0))::D) 117 34 v l.length (l.map aD).flatten:=hG.keep fun b o hb ho=>by
    have:=hN.le b (cE ho)
    simp(disch:=omega) only[ii]
    exact ho
   unfold tD
   rw[hd]
   refine ko (And.intro @eu @d1) ?_
   refine Ow.callFV rfl Tryz.call167 (fun w' a7=>yk bw s a e w' (a7.has _ _ (List.mem_cons_of_mem _ List.mem_cons_self))) ?_
   by_cases he:cy s a e=0
   ·have d2: (cy s a e==0)=true:=by simp[he]
    rw[d2]
    refine ko (And.intro @eu @d2) ?_
    refine Ow.callFV rfl Tryz.call127 (fun w' a7=>MM v l w' (hG.slM (fun b o hm=>a7.has b o (by simp[hm])) rfl rfl eB) (by omega) dL) ?_
    refine ko @eu ?_
    first|with_reducible refine ks [] @eu ?_|refine kp @eu ?_
    refine⟨_,(ke @eu), ?_⟩
    exact⟨hE,rfl,v,by simp only[eA],hF⟩
   ·have d2: (cy s a e==0)=false:=by simpa using he
    rw[d2]
    refine ko (And.intro @eu @d2) ?_
    first|with_reducible refine ks [] @eu ?_|refine kp @eu ?_
    refine⟨_,(ke @eu), ?_⟩
    exact⟨hE,rfl,v,by simp only[eA],hF⟩
end Go.Proofs
end
section
open Go Go.Proofs Go.Sx Go.StP
namespace Go.Proofs
set_option maxRecDepth 10000
set_option maxHeartbeats 400000
set_option linter.unusedSimpArgs false
set_option linter.defProp false
def fP:=And.intro (And.intro (And.intro (@mu) (And.intro (@mw) (@mt))) (And.intro (And.intro (@mc) (@me)) (And.intro (@yE) (@y7)))) (And.intro (And.intro (@y9) (And.intro (@yJ) (@ED))) (And.intro (And.intro (@Ba) (@qD)) (And.intro (@cP) (@cO))))
structure CmH where
 g:Nat
 v:Value
 D:a6
 H:a6
def tQ (bo bw:Nat) (s:List UInt8) (v:Value) (D:a6):Prop:=
 v= .bool (cy s (bY s).2.1 (bY s).2.2==0&&ga (bY s).1)∧ ∃p,Sx.look D bo=some (.cells (roC (vp bw 0) (.slice none 0 0) (bY s).1.tree p (bY s).1.text).toArray 142 (0,0))∧Gr D 24 32 p (bY s).1.par.length ((bY s).1.par.map aJ).flatten
theorem Ch (bo bw:Nat) (s:List UInt8) (w:World) (hs:s.length<100000) (ai:bo≠bw)
  (ho:w.heap[bo]? =some (.cells (roC (vp bw 0) (.slice none 0 0) id0 (.slice none 0 0) []).toArray 142 (0,0))) (hr:w.heap[bw]? =some (.cells #[vs s,vi 0,vi 0] 314 (0,0))):
  Rets Tryz.prog 146 #[vp bo 0] w (XS w [(bo,Obj.cells (roC (vp bw 0) (.slice none 0 0) id0 (.slice none 0 0) []).toArray 142 (0,0)),(bw,Obj.cells #[vs s,vi 0,vi 0] 314 (0,0))] (tQ bo bw s)):=by
 have lD:bo<w.heap.size:=(Array.getElem?_eq_some_iff.1 ho).1
 have qp:bw<w.heap.size:=(Array.getElem?_eq_some_iff.1 hr).1
 refine Rets.enterX Tryz.func146 rfl (rs:= [.tmp 2]) Tryz.results146 Tryz.ntmps146 (sS ho hr) (by simp[keys,ai]) ?_
 refine kf ?_
 first|with_reducible refine ks [] @fP ?_|refine kp @fP ?_
 refine Ow.callM rfl rfl Tryz.call203 (by simp[keys]) (fun w' a7=>y4 bw s 0 0 w' (Nat.zero_le _) (by omega) (a7.has _ _ (List.mem_cons_of_mem _ List.mem_cons_self))) ?_
 have ip:=qH (s:=s) (a:=0) (e:=0) (Nat.zero_le _)
 have np:=jz (e:=(idR s 0 0).2.2) (most:=4) ip.2
 have nm:=yl (s:=s) (a:=(idR s 0 0).2.1) (e:=(idR s 0 0).2.2) (most:=4) (by decide)
 obtain⟨T,hT⟩: ∃T,gJ (idR s 0 0).1=T:=⟨_,rfl⟩
 have Jf: (idR s 0 0).1=T.l:=by rw[←hT,px (q7 s 0 0)]
 have pD:bY s=(⟨T,(cZ s).1,(comT s).1⟩,(comT s).2):=by unfold bY;rw[hT]
 rw[Jf]
 refine kn ?_
 refine ko @fP ?_
 refine Ow.callM rfl rfl Tryz.call165 (by simp[keys]) (fun w' a7=>KR bw s _ _ 4 w' ip.2 (by omega) (a7.has _ _ (List.mem_cons_of_mem _ List.mem_cons_self))) ?_
 have hP:cZ s=ag s (aW s (idR s 0 0).2.1 (idR s 0 0).2.2 4).2.1 (aW s (idR s 0 0).2.1 (idR s 0 0).2.2 4).2.2 (aW s (idR s 0 0).2.1 (idR s 0 0).2.2 4).1.toNat:=rfl
 generalize aW s (idR s 0 0).2.1 (idR s 0 0).2.2 4=nr at*
 obtain⟨cn,na,ne⟩:=nr
 simp only at np nm hP ⊢
 obtain⟨k,rfl⟩:=Int.eq_ofNat_of_zero_le nm.1
 rw[Int.toNat_natCast] at hP
 refine kn ?_
 refine ko @fP ?_
 refine Cw.loopG (G:=CmH) [18,19,20,21,22,23,24,25,26,27,28,29,30,31,32,33,34,35,17] (fun q=> [(17,vi q.g)]) (fun q=>q.H) (fun q=>q.g≤k∧New w.heap.size q.D∧Gr q.D 24 32 q.v q.g ((ag s na ne q.g).1.map aJ).flatten∧((bo,Obj.cells (roC (vp bw 0) (.slice none 0 0) T q.v []).toArray 142 (0,0)):: (bw,Obj.cells #[vs s,vi (ag s na ne q.g).2.1,vi (ag s na ne q.g).2.2] 314 (0,0))::q.D).Perm q.H) (fun q=>k - q.g) ⟨0, .slice none 0 0,[],[(bo,Obj.cells (roC (vp bw 0) (.slice none 0 0) T (.slice none 0 0) []).toArray 142 (0,0)),(bw,Obj.cells #[vs s,vi na,vi ne] 314 (0,0))]⟩ rfl rfl ?_ ?_
 ·exact⟨Nat.zero_le _,trivial,Gr.nl,List.Perm.refl _⟩
 ·intro q jq hq
  refine kv ?_
  obtain⟨g,v,D,H0⟩:=q
  simp only at hq ⊢
  obtain⟨RO,hN,hG,tw⟩:=hq
  refine Cw.permL tw ?_
  clear tw
  have gle:=rY (e:=ne) np.2 g
  by_cases aC:g<k
  ·have pM:ag s na ne (g+1)=((ag s na ne g).1++ [gJ (idR s (ag s na ne g).2.1 (ag s na ne g).2.2).1],(idR s (ag s na ne g).2.1 (ag s na ne g).2.2).2):=rfl
   first|with_reducible refine ks [] @fP ?_|refine kp @fP ?_
   refine Cw.regionS [bo] [0,1,2,3,4,6,7,8,5,9,10,11,12,13,14,15,16] [16] (by kernel_rfl) (by kernel_rfl) (by kernel_rfl) ?_
   simp only[aN, ↓aM, ↓aH, ↓aL, ↓aK,aI]
   refine kq @fP ?_
   refine Ow.soft rfl rfl rfl ?_
   refine Ow.callM rfl rfl Tryz.call203 (by simp[keys]) (fun w' a7=>y4 bw s (ag s na ne g).2.1 (ag s na ne g).2.2 w' gle (by omega) (a7.has _ _ (List.mem_cons_of_mem _ List.mem_cons_self))) ?_
   with_reducible refine Ow.nil ?_
   refine⟨fun b hb=>vw (by simp only[List.mem_cons,List.not_mem_nil,or_false] at hb;omega), ?_⟩
   have f_:=q7 s (ag s na ne g).2.1 (ag s na ne g).2.2
   obtain⟨I,hI⟩: ∃I,gJ (idR s (ag s na ne g).2.1 (ag s na ne g).2.2).1=I:=⟨_,rfl⟩
   have pN: (idR s (ag s na ne g).2.1 (ag s na ne g).2.2).1=I.l:=by rw[←hI,px f_]
   rw[hI] at pM
   have gp: (ag s na ne (g+1)).1=(ag s na ne g).1++ [I]:=by rw[pM]
   have iG: (ag s na ne (g+1)).2=(idR s (ag s na ne g).2.1 (ag s na ne g).2.2).2:=by rw[pM]
   rw[pN,←iG]
   refine kn ?_
   refine Ow.soft rfl rfl rfl ?_
   refine Ow.buildSlice (e:=24) (a8 I.l) rfl rfl (gw (cs:=I.l.map v8) Tryz.underlying30 qG jV (by decide) (by simp[I.h])) fun b13 bz dp=> ?_
   with_reducible refine Ow.nil ?_
   refine⟨cv (by simp[keys]), ?_⟩
   try simp only[List.cons_append,List.nil_append]
   refine Ow.soft rfl rfl rfl ?_
   refine Ow.permL (M:=D++ [(bo,Obj.cells (roC (vp bw 0) (.slice none 0 0) T v []).toArray 142 (0,0)),(bw,Obj.cells #[vs s,vi (ag s na ne (g+1)).2.1,vi (ag s na ne (g+1)).2.2] 314 (0,0)),(b13,Obj.cells (a8 I.l) 24 (0,0))]) (by classical exact List.perm_iff_count.2 fun a=>by simp only[List.count_append,List.count_cons,List.count_nil]<;>omega) ?_
   refine Ow.appendX (e:=24) (k:=1) (new:=aJ I) (X:=D) v rfl rfl rfl rfl Tryz.underlying30 qG (by kernel_rfl) jV (by rw[aU,q6,id0.h]) Tryz.underlying30 (by intro k h;cases h) hG (fun w' a7=>AppX.one1 (a7.has b13 (.cells (a8 I.l) 24 (0,0)) (by simp)) (qF I) (LL I)) (by omega) (by omega) (fun B v4 D4 dv eL bh bk ap b_=> ?_)
   have cq:New w.heap.size D4:=New.of_le fun q hq=>by
    rcases ap q hq with h|h
    ·exact hN.le q h
    ·omega
   have pY:bo∉keys D4:=cq.not lD
   with_reducible refine Ow.nil ?_
   refine⟨fun q hq=> ?_, ?_⟩
   ·rw[List.mem_singleton] at hq
    subst hq
    rw[uy pY]
    simp only[fT]
   have pT: ∀M,Sx.look (D4++M) bo=Sx.look M bo:=fun M=>gN pY
   have pf: ∀M x,setB (D4++M) bo x=D4++setB M bo x:=fun M x=>wX pY
   have st1:=fun a E=>BO (vp bw 0) (.slice none 0 0) T v v4 [] a E bh.cell
   have ki:lL (aF Tryz.prog 30) (D4++ [(bo,Obj.cells (roC (vp bw 0) (.slice none 0 0) T v []).toArray 142 (0,0)),(bw,Obj.cells #[vs s,vi (ag s na ne (g+1)).2.1,vi (ag s na ne (g+1)).2.2] 314 (0,0)),(b13,Obj.cells (a8 I.l) 24 (0,0))]) (vp bo 34) v4=some (D4++ [(bo,Obj.cells (roC (vp bw 0) (.slice none 0 0) T v4 []).toArray 142 (0,0)),(bw,Obj.cells #[vs s,vi (ag s na ne (g+1)).2.1,vi (ag s na ne (g+1)).2.2] 314 (0,0)),(b13,Obj.cells (a8 I.l) 24 (0,0))]):=by
    rw[Tryz.ag30,nk,pT]
    simp(disch:=omega) only[eA,ii,st1,ni,pf,j1,jU]
   refine kq @fP ?_
   refine Ow.store rfl rfl rfl ki ?_
   refine ko @fP ?_
   refine Again.mk (CmH.mk (g+1) v4 (D4++ [(b13,Obj.cells (a8 I.l) 24 (0,0))]) _) (by show k - (g+1)<k - g;omega) ⟨by show g+1≤k;omega,cq.app ⟨by omega,trivial⟩, ?_, ?_⟩ rfl rfl
   ·show Gr _ _ _ _ (g+1) ((ag s na ne (g+1)).1.map aJ).flatten
    rw[gp,List.map_append,List.flatten_append,show([I].map aJ).flatten=aJ I by simp]
    exact Gr.app (.inl bh)
   ·exact(by classical exact List.perm_iff_count.2 fun a=>by simp only[List.count_append,List.count_cons,List.count_nil]<;>omega)
  ·obtain rfl:g=k:=by omega
   rw[←hP] at hG
   rw[←hP] at gle
   rw[←hP]
   have tp:=pr (e:=(cZ s).2.2) (most:=64) gle
   first|with_reducible refine ks [] @fP ?_|refine kp @fP ?_
   refine Ow.callM rfl rfl Tryz.call202 (by simp[keys]) (fun w' a7=>M9 bw s (cZ s).2.1 (cZ s).2.2 64 w' gle (by omega) (a7.has _ _ (List.mem_cons_of_mem _ List.mem_cons_self))) ?_
   refine kn ?_
   refine ko @fP ?_
   have JM:comT s=bC s (cZ s).2.1 (cZ s).2.2 64:=rfl
   have jM:=yM s (cZ s).2.1 (cZ s).2.2 64
   rw[JM] at pD
   generalize bC s (cZ s).2.1 (cZ s).2.2 64=tx at*
   obtain⟨tt,a3,e3⟩:=tx
   simp only at tp pD jM ⊢
   have tv: (cZ s).1.length=g:=by rw[hP,vP]
   generalize (cZ s).1=pl at*
   have hC: ∀w',Hp w ((bo,Obj.cells (roC (vp bw 0) (.slice none 0 0) T v tt).toArray 142 (0,0)):: (bw,Obj.cells #[vs s,vi a3,vi e3] 314 (0,0))::D) w'→ComS w' (.agg (aY T v tt).toArray) ⟨T,pl,tt⟩:=fun w' a7=>
    ⟨v,rfl,hG.slM (fun b o hm=>a7.has b o (by simp[hm])) tv rfl qF⟩
   have hE:Ext w [(bo,Obj.cells (roC (vp bw 0) (.slice none 0 0) id0 (.slice none 0 0) []).toArray 142 (0,0)),(bw,Obj.cells #[vs s,vi 0,vi 0] 314 (0,0))] ((bo,Obj.cells (roC (vp bw 0) (.slice none 0 0) T v tt).toArray 142 (0,0)):: (bw,Obj.cells #[vs s,vi a3,vi e3] 314 (0,0))::D):=by
    refine⟨fun c hc=> ?_,fun c hc=> ?_⟩
    ·simp only[keys,List.map_cons,List.map_nil,List.mem_cons,List.not_mem_nil,or_false] at hc ⊢
     rcases hc with h|h|h
     ·exact .inl (.inl h)
     ·exact .inl (.inr h)
     ·exact .inr (hN.le c h)
    ·simp only[keys,List.map_cons,List.map_nil,List.mem_cons,List.not_mem_nil,or_false] at hc ⊢
     rcases hc with h|h
     ·exact .inl h
     ·exact .inr (.inl h)
   have hF:Gr ((bo,Obj.cells (roC (vp bw 0) (.slice none 0 0) T v tt).toArray 142 (0,0)):: (bw,Obj.cells #[vs s,vi a3,vi e3] 314 (0,0))::D) 24 32 v pl.length (pl.map aJ).flatten:=by
    rw[tv]
    exact hG.keep fun b o hb ho=>by
     have:=hN.le b (cE ho)
     simp(disch:=omega) only[ii]
     exact ho
   unfold tQ
   rw[pD]
   refine Ow.callFV rfl Tryz.call167 (fun w' a7=>yk bw s a3 e3 w' (a7.has _ _ (List.mem_cons_of_mem _ List.mem_cons_self))) ?_
   by_cases he:cy s a3 e3=0
   ·have d2: (cy s a3 e3==0)=true:=by simp[he]
    rw[d2]
    refine ko (And.intro @fP @d2) ?_
    refine Ow.callFV rfl Tryz.call204 (fun w' a7=>AQ _ _ w' (hC w' a7) (by show pl.length<1000000;omega) (by show tt.length<1099511627776;omega)) ?_
    refine ko @fP ?_
    first|with_reducible refine ks [] @fP ?_|refine kp @fP ?_
    refine⟨_,(ke @fP), ?_⟩
    exact⟨hE,rfl,v,by simp only[eA],hF⟩
   ·have d2: (cy s a3 e3==0)=false:=by simpa using he
    rw[d2]
    refine ko (And.intro @fP @d2) ?_
    first|with_reducible refine ks [] @fP ?_|refine kp @fP ?_
    refine⟨_,(ke @fP), ?_⟩
    exact⟨hE,rfl,v,by simp only[eA],hF⟩
end Go.Proofs
end
section
open Go Go.Proofs Go.Sx Go.StP
namespace Go.Proofs
set_option maxRecDepth 10000
set_option maxHeartbeats 400000
set_option linter.unusedSimpArgs false
theorem A2 (v:Value) (w:World):Rets Tryz.prog 144 #[v] w (fun v' D=>v'= .bool true∧D= []):=by
 refine Rets.enterV Tryz.func144 rfl (rs:= [.tmp 2]) Tryz.results144 Tryz.ntmps144 ?_
 refine kf ?_
 first|with_reducible refine ks [] @Nat.add_zero ?_|refine kp @Nat.add_zero ?_
 refine⟨_,(ke @Nat.add_zero),trivial, ?_⟩
 rfl
abbrev obV (k:Int) (t:List UInt8):Value:= .agg #[vi k,vs t]
theorem gB (k:Int) (t:List UInt8) (E:TypeId) (fz:Nat×Nat):aS (some (true,2)) (some (.cells #[vi k,vs t] E fz)) 0=some (obV k t):=(rfl)
theorem gZ (k:Int) (t:List UInt8) (n:Nat) (E:TypeId) (fz:Nat×Nat):aS (some (false,n)) (some (.cells #[vi k,vs t] E fz)) 0=some (vi k):=(rfl)
theorem gY (k:Int) (t:List UInt8) (n:Nat) (E:TypeId) (fz:Nat×Nat):aS (some (false,n)) (some (.cells #[vi k,vs t] E fz)) 1=some (vs t):=(rfl)
theorem gX (k k':Int) (t t':List UInt8) (a:Bool) (E:TypeId):aZ (some (a,2)) (some (.cells #[vi k',vs t'] E (0,0))) 0 (obV k t)=some (.cells #[vi k,vs t] E (0,0)):=(rfl)
set_option linter.defProp false
def d6:=And.intro (And.intro (@gB) (And.intro (@gZ) (@gY))) (And.intro (@gX) (And.intro (@cP) (@cO)))
def fnV (k:Nat):Value:= .func (.func k) #[] #[]
def fnsV:Array Value:= #[.nilFunc,fnV 144,fnV 145,fnV 146]
abbrev T4:TypeId:=262
theorem E4:eP (dK Tryz.prog T4) (aw Tryz.prog T4) [(1,fnV 144),(2,fnV 145),(3,fnV 146)]=some (.agg fnsV):=by
 have hp:dK Tryz.prog T4=some [(0,1),(1,1),(2,1),(3,1)]:=id (by kernel_rfl)
 have hz:aw Tryz.prog T4=some (.agg #[.nilFunc, .nilFunc, .nilFunc, .nilFunc]):=id (by kernel_rfl)
 rw[hp,hz];rfl
theorem IA:aw Tryz.prog T4=some (.agg #[.nilFunc, .nilFunc, .nilFunc, .nilFunc]):=id (by kernel_rfl)
theorem D_ (a:Bool) (E:TypeId):aZ (some (a,4)) (some (.cells #[.nilFunc, .nilFunc, .nilFunc, .nilFunc] E (0,0))) 0 (.agg fnsV)=some (.cells fnsV E (0,0)):=(rfl)
theorem Fc (x:Value) (hx:x.cells= #[x]):eP (dK Tryz.prog 142) (aw Tryz.prog 142) [(0,x)]=some (.agg (roC x (.slice none 0 0) id0 (.slice none 0 0) []).toArray):=by
 have hp:dK Tryz.prog 142=some [(0,1),(1,1),(2,34)]:=id (by kernel_rfl)
 have hz:aw Tryz.prog 142=some (.agg (roC (.pointer none) (.slice none 0 0) id0 (.slice none 0 0) []).toArray):=id (by kernel_rfl)
 rw[hp,hz]
 simp only[eP,fillV,List.getElem?_cons_zero,hx]
 rfl
def bN (k:Int) (t:List UInt8):Bool:=
 if 1≤k∧k≤3∧t.length≤4096 then
  (if k=1 then true else if k=2 then(cy t (cL t).2.1 (cL t).2.2==0&&dr (cL t).1) else(cy t (bY t).2.1 (bY t).2.2==0&&ga (bY t).1))
 else false
def RdS (k:Int) (t:List UInt8) (v:Value) (D:a6):Prop:=
 ∃p,v= .tuple #[p, .bool (bN k t)]∧(1≤k∧k≤3∧t.length≤4096→ ∃bo bw v1 c1 x1 y1,p=vp bo 0∧Sx.look D bo=some (.cells (roC (vp bw 0) v1 c1 x1 y1).toArray 142 (0,0))∧
  (k=2→Gr D 117 34 v1 (cL t).1.length ((cL t).1.map aD).flatten)∧
  (k=3→c1=(bY t).1.tree∧y1=(bY t).1.text∧Gr D 24 32 x1 (bY t).1.par.length ((bY t).1.par.map aJ).flatten)∧(k≠2→v1= .slice none 0 0))
theorem Ku (k:Int) (t:List UInt8) (w:World):Rets Tryz.prog 76 #[obV k t] w (XS w [] (RdS k t)):=by
 refine Rets.enterX Tryz.func76 rfl (rs:= [.tmp 2, .tmp 3]) Tryz.results76 Tryz.ntmps76 (fun p hp=>by cases hp) (by simp[keys]) ?_
 refine kf ?_
 first|with_reducible refine ks [] @d6 ?_|refine kp @d6 ?_
 refine Ow.box rfl rfl fun b1 bJ aG=> ?_
 simp only[bp,bj,cJ,aU,List.nil_append]
 refine ko @d6 ?_
 refine Ow.build (.agg fnsV) rfl E4 ?_
 refine ko @d6 ?_
 refine Ow.alloc rfl rfl IA fun b4 dN cB=> ?_
 simp only[aU,List.nil_append,List.cons_append]
 have we:b1<b4:=aP dN (by simp[keys])
 refine ko (And.intro @d6 @D_) ?_
 by_cases h1:k<1
 ·have d1:decide (k<1)=true:=decide_eq_true h1
  have e:bN k t=false:=by unfold bN;rw[if_neg (by omega)]
  first|with_reducible refine ks [] (And.intro @d6 @d1) ?_|refine kp (And.intro @d6 @d1) ?_
  refine⟨_,(ke @d6), ?_⟩
  exact⟨Ext.of_new ⟨aG,cB,trivial⟩, .pointer none,by rw[e];rfl,fun h=>absurd h.1 (by omega)⟩
 ·have d1:decide (k<1)=false:=decide_eq_false h1
  by_cases h2:3<k
  ·have d2:decide (3<k)=true:=decide_eq_true h2
   have e:bN k t=false:=by unfold bN;rw[if_neg (by omega)]
   first|with_reducible refine ks [] (And.intro @d6 (And.intro @d1 (@d2))) ?_|refine kp (And.intro @d6 (And.intro @d1 (@d2))) ?_
   refine⟨_,(ke @d6), ?_⟩
   exact⟨Ext.of_new ⟨aG,cB,trivial⟩, .pointer none,by rw[e];rfl,fun h=>absurd h.2.1 (by omega)⟩
  ·have d2:decide (3<k)=false:=decide_eq_false h2
   by_cases h3:4096<t.length
   ·have d3:decide (4096< (t.length:Int))=true:=decide_eq_true (by omega)
    have e:bN k t=false:=by unfold bN;rw[if_neg (by omega)]
    first|with_reducible refine ks [] (And.intro @d6 (And.intro @d1 (And.intro @d2 (@d3)))) ?_|refine kp (And.intro @d6 (And.intro @d1 (And.intro @d2 (@d3)))) ?_
    refine⟨_,(ke @d6), ?_⟩
    exact⟨Ext.of_new ⟨aG,cB,trivial⟩, .pointer none,by rw[e];rfl,fun h=>absurd h.2.2 (by omega)⟩
   ·have d3:decide (4096< (t.length:Int))=false:=decide_eq_false (by omega)
    first|with_reducible refine ks [] (And.intro @d6 (And.intro @d1 (And.intro @d2 (@d3)))) ?_|refine kp (And.intro @d6 (And.intro @d1 (And.intro @d2 (@d3)))) ?_
    refine Ow.callF rfl rfl Tryz.call147 (S:=fun B v D=> ∃b',B≤b'∧v=vp b' 0∧D= [(b', .cells #[vs t,vi 0,vi 0] 314 (0,0))]) (fun w' a7=>DW t w') ?_
    rintro B v D dc hB ⟨bw,wr,rfl,rfl⟩
    obtain⟨MY,Sh,-⟩:=dc
    refine⟨_,Mrg.fresh (by intro q hq;simp only[keys,List.map_cons,List.map_nil,List.mem_singleton] at hq;omega), ?_⟩
    simp only[List.cons_append,List.nil_append]
    refine ko @d6 ?_
    refine Ow.build (.agg (roC (vp bw 0) (.slice none 0 0) id0 (.slice none 0 0) []).toArray) rfl (Fc _ rfl) ?_
    refine ko @d6 ?_
    refine Ow.box rfl rfl fun bo gH mb=> ?_
    simp only[bp,bj,cJ,aU,List.nil_append,List.cons_append]
    have ud:bo≠bw:=by have:=aP gH (show bw∈keys _ by simp[keys]);omega
    rcases(show k=1∨k=2∨k=3 by omega) with rfl|rfl|rfl
    ·have lf: ∀n E fz,aS (some (false,n)) (some (.cells fnsV E fz)) 1=some (fnV 144):=fun _ _ _=>rfl
     have e:bN 1 t=true:=by unfold bN;rw[if_pos (by omega)];rfl
     refine ko (And.intro @d6 @lf) ?_
     refine Ow.callV rfl rfl Tryz.call144 (fun w' a7=>by have:=A2 (vp bo 0) w';simpa [bp,cJ,bj] using this) ?_
     refine ko @d6 ?_
     first|with_reducible refine ks [] @d6 ?_|refine kp @d6 ?_
     refine⟨_,(ke @d6), ?_⟩
     refine⟨Ext.of_new ⟨aG,cB,by omega,mb,trivial⟩,vp bo 0,by rw[e];rfl,fun h=>⟨bo,bw, .slice none 0 0,id0, .slice none 0 0,[],rfl, ?_,fun h=>absurd h (by decide),fun h=>absurd h (by decide),fun _=>rfl⟩⟩
     have R1:b1≠bo:=by have:=aP gH (show b1∈keys _ by simp[keys]);omega
     have R4:b4≠bo:=by have:=aP gH (show b4∈keys _ by simp[keys]);omega
     simp(disch:=omega) only[eA,ii]
    ·have lf: ∀n E fz,aS (some (false,n)) (some (.cells fnsV E fz)) 2=some (fnV 145):=fun _ _ _=>rfl
     have e:bN 2 t=(cy t (cL t).2.1 (cL t).2.2==0&&dr (cL t).1):=by unfold bN;rw[if_pos (by omega)];rfl
     refine ko (And.intro @d6 @lf) ?_
     refine Ow.permL (M:= [(bo,Obj.cells (roC (vp bw 0) (.slice none 0 0) id0 (.slice none 0 0) []).toArray 142 (0,0)),(bw,Obj.cells #[vs t,vi 0,vi 0] 314 (0,0))]++ [(b1,Obj.cells #[vi 2,vs t] 35 (0,0)),(b4,Obj.cells fnsV 262 (0,0))]) (by classical exact List.perm_iff_count.2 fun a=>by simp only[List.count_append,List.count_cons,List.count_nil]<;>omega) ?_
     refine Ow.callFnX (b:=vp bo 0) (X:= [(bo,Obj.cells (roC (vp bw 0) (.slice none 0 0) id0 (.slice none 0 0) []).toArray 142 (0,0)),(bw,Obj.cells #[vs t,vi 0,vi 0] 314 (0,0))]) (Y:= [(b1,Obj.cells #[vi 2,vs t] 35 (0,0)),(b4,Obj.cells fnsV 262 (0,0))]) rfl rfl rfl rfl rfl Tryz.call145 (fun w' a7 hX hn=>A3 bo bw t w' (by omega) ud (hX _ List.mem_cons_self) (hX _ (List.mem_cons_of_mem _ List.mem_cons_self))) (fun v D hC hS=> ?_)
     obtain⟨rfl,v1,jl,gp⟩:=hS
     have JH:New w.heap.size (D++ [(b1,Obj.cells #[vi 2,vs t] 35 (0,0)),(b4,Obj.cells fnsV 262 (0,0))]):=by
      refine New.of_le fun c hc=> ?_
      rw[aT,List.mem_append] at hc
      rcases hc with hc|hc
      ·rcases hC.new c hc with h| ⟨-,h⟩
       ·simp only[keys,List.map_cons,List.map_nil,List.mem_cons,List.not_mem_nil,or_false] at h;omega
       ·exact h
      ·simp only[keys,List.map_cons,List.map_nil,List.mem_cons,List.not_mem_nil,or_false] at hc;omega
     refine ko @d6 ?_
     first|with_reducible refine ks [] @d6 ?_|refine kp @d6 ?_
     refine⟨_,(ke @d6), ?_⟩
     exact⟨Ext.of_new JH,vp bo 0,by rw[e];rfl,fun _=>⟨bo,bw,v1,_,_,_,rfl,bB jl,fun _=>gp.app,fun h=>absurd h (by decide),fun h=>absurd rfl h⟩⟩
    ·have lf: ∀n E fz,aS (some (false,n)) (some (.cells fnsV E fz)) 3=some (fnV 146):=fun _ _ _=>rfl
     have e:bN 3 t=(cy t (bY t).2.1 (bY t).2.2==0&&ga (bY t).1):=by unfold bN;rw[if_pos (by omega)];rfl
     refine ko (And.intro @d6 @lf) ?_
     refine Ow.permL (M:= [(bo,Obj.cells (roC (vp bw 0) (.slice none 0 0) id0 (.slice none 0 0) []).toArray 142 (0,0)),(bw,Obj.cells #[vs t,vi 0,vi 0] 314 (0,0))]++ [(b1,Obj.cells #[vi 3,vs t] 35 (0,0)),(b4,Obj.cells fnsV 262 (0,0))]) (by classical exact List.perm_iff_count.2 fun a=>by simp only[List.count_append,List.count_cons,List.count_nil]<;>omega) ?_
     refine Ow.callFnX (b:=vp bo 0) (X:= [(bo,Obj.cells (roC (vp bw 0) (.slice none 0 0) id0 (.slice none 0 0) []).toArray 142 (0,0)),(bw,Obj.cells #[vs t,vi 0,vi 0] 314 (0,0))]) (Y:= [(b1,Obj.cells #[vi 3,vs t] 35 (0,0)),(b4,Obj.cells fnsV 262 (0,0))]) rfl rfl rfl rfl rfl Tryz.call146 (fun w' a7 hX hn=>Ch bo bw t w' (by omega) ud (hX _ List.mem_cons_self) (hX _ (List.mem_cons_of_mem _ List.mem_cons_self))) (fun v D hC hS=> ?_)
     obtain⟨rfl,p1,jl,gp⟩:=hS
     have JH:New w.heap.size (D++ [(b1,Obj.cells #[vi 3,vs t] 35 (0,0)),(b4,Obj.cells fnsV 262 (0,0))]):=by
      refine New.of_le fun c hc=> ?_
      rw[aT,List.mem_append] at hc
      rcases hc with hc|hc
      ·rcases hC.new c hc with h| ⟨-,h⟩
       ·simp only[keys,List.map_cons,List.map_nil,List.mem_cons,List.not_mem_nil,or_false] at h;omega
       ·exact h
      ·simp only[keys,List.map_cons,List.map_nil,List.mem_cons,List.not_mem_nil,or_false] at hc;omega
     refine ko @d6 ?_
     first|with_reducible refine ks [] @d6 ?_|refine kp @d6 ?_
     refine⟨_,(ke @d6), ?_⟩
     exact⟨Ext.of_new JH,vp bo 0,by rw[e];rfl,fun _=>⟨bo,bw,_,_,p1,_,rfl,bB jl,fun h=>absurd h (by decide),fun _=>⟨rfl,rfl,gp.app⟩,fun _=>rfl⟩⟩
end Go.Proofs
end
section
open Go Go.Proofs Go.Sx Go.StP
namespace Go.Proofs
set_option maxRecDepth 10000
set_option maxHeartbeats 400000
set_option linter.unusedSimpArgs false
set_option linter.defProp false
def d7:=And.intro (And.intro (And.intro (@gB) (@gZ)) (And.intro (@gY) (@gX))) (And.intro (And.intro (@Sx.tup2_0) (@Sx.tup2_1)) (And.intro (@cP) (@cO)))
theorem Km (k:Int) (t:List UInt8) (w:World):Rets Tryz.prog 184 #[obV k t] w (fun v D=>v= .bool (bN k t)∧D= []):=by
 refine Rets.enterV Tryz.func184 rfl (rs:= [.tmp 2]) Tryz.results184 Tryz.ntmps184 ?_
 refine kf ?_
 first|with_reducible refine ks [] @d7 ?_|refine kp @d7 ?_
 refine Ow.box rfl rfl fun b1 bJ aG=> ?_
 simp only[bp,bj,cJ,aU,List.nil_append]
 refine ko @d7 ?_
 refine Ow.callC rfl rfl Tryz.call76 (fun w' a7=>Ku k t w') (fun B v D hA hB hN hS=> ?_)
 obtain⟨p,rfl,-⟩:=hS
 refine ko @d7 ?_
 first|with_reducible refine ks [] @d7 ?_|refine kp @d7 ?_
 refine⟨_,(ke @d7),⟨aG,New.mono hB hN⟩, ?_⟩
 rfl
def i6 (k:Int) (t:List UInt8) (ok:Bool):Int:=if ok&&bN k t then k else 0
def i7 (k:Int) (t:List UInt8) (ok:Bool):List UInt8:=if ok&&bN k t then t else []
def i5 (k:Int) (t:List UInt8) (ok:Bool):Int:=if ok&&bN k t then 0 else 1
theorem gC:aw Tryz.prog 35=some (obV 0 []):=id (by kernel_rfl)
theorem xp:eP (dK Tryz.prog 35) (aw Tryz.prog 35) []=some (obV 0 []):=by
 have hp:dK Tryz.prog 35=some [(0,1),(1,1)]:=id (by kernel_rfl)
 rw[hp,gC];rfl
theorem Lv (k:Int) (t:List UInt8):eP (dK Tryz.prog 35) (aw Tryz.prog 35) [(0,vi k),(1,vs t)]=some (obV k t):=by
 have hp:dK Tryz.prog 35=some [(0,1),(1,1)]:=id (by kernel_rfl)
 rw[hp,gC];rfl
theorem LP (k:Int) (t:List UInt8) (ok:Bool) (w:World):Rets Tryz.prog 116 #[obV k t, .bool ok] w (fun v D=>v= .tuple #[obV (i6 k t ok) (i7 k t ok),vi (i5 k t ok)]∧D= []):=by
 refine Rets.enterV Tryz.func116 rfl (rs:= [.cell 4 35, .tmp 5]) Tryz.results116 Tryz.ntmps116 ?_
 refine kf ?_
 first|with_reducible refine ks [] @d7 ?_|refine kp @d7 ?_
 refine Ow.box rfl rfl fun b2 ck ar=> ?_
 simp only[bp,bj,cJ,aU,List.nil_append]
 refine ko @d7 ?_
 refine Ow.alloc rfl rfl gC fun b4 dN cB=> ?_
 simp only[aU,List.nil_append,List.cons_append]
 have Is:b2<b4:=aP dN (by simp[keys])
 unfold i6 i7 i5
 cases ok
 ·refine ko @d7 ?_
  refine Ow.build (obV 0 []) rfl xp ?_
  refine ko @d7 ?_
  first|with_reducible refine ks [] @d7 ?_|refine kp @d7 ?_
  refine⟨_,(ke @d7),⟨ar,cB,trivial⟩, ?_⟩
  rfl
 ·refine ko @d7 ?_
  refine Ow.callFV rfl Tryz.call184 (fun w' a7=>Km k t w') ?_
  cases hr:bN k t
  ·refine ko @d7 ?_
   refine Ow.build (obV 0 []) rfl xp ?_
   refine ko @d7 ?_
   first|with_reducible refine ks [] @d7 ?_|refine kp @d7 ?_
   refine⟨_,(ke @d7),⟨ar,cB,trivial⟩, ?_⟩
   rfl
  ·refine ko @d7 ?_
   first|with_reducible refine ks [] @d7 ?_|refine kp @d7 ?_
   refine⟨_,(ke @d7),⟨ar,cB,trivial⟩, ?_⟩
   rfl
theorem Dt (t:List UInt8) (w:World):Rets Tryz.prog 65 #[vs t] w (fun v D=>v= .tuple #[obV (i6 1 t true) (i7 1 t true),vi (i5 1 t true)]∧D= []):=by
 refine Rets.enterV Tryz.func65 rfl (rs:= [.cell 2 35, .tmp 3]) Tryz.results65 Tryz.ntmps65 ?_
 refine kf ?_
 first|with_reducible refine ks [] @d7 ?_|refine kp @d7 ?_
 refine Ow.alloc rfl rfl gC fun b2 ck ar=> ?_
 simp only[aU,List.nil_append,List.cons_append]
 refine ko @d7 ?_
 refine Ow.build (obV 1 t) rfl (Lv 1 t) ?_
 refine ko @d7 ?_
 refine Ow.callFV rfl Tryz.call116 (fun w' a7=>LP 1 t true w') ?_
 refine ko @d7 ?_
 first|with_reducible refine ks [] @d7 ?_|refine kp @d7 ?_
 refine⟨_,(ke @d7),⟨ar,trivial⟩, ?_⟩
 rfl
end Go.Proofs
end
section
open Go Go.Proofs Go.Sx Go.StP
namespace Go.Proofs
set_option maxRecDepth 10000
set_option maxHeartbeats 400000
set_option linter.unusedSimpArgs false
set_option linter.defProp false
theorem BldAt.zeroE (b:Nat) {L:a6} (h:Sx.look L b=some (.cells #[.pointer none, .slice none 0 0] 236 (0,0))):BldAt b [] L:=
 ⟨_,_,h, .inl rfl, .nl,fun h=>by cases h⟩
theorem zrWr:aw Tryz.prog 236=some (.agg #[.pointer none, .slice none 0 0]):=id (by kernel_rfl)
theorem DY (x:IdL):jR Tryz.prog 30 1 [(0, .agg (a8 x.l))]=some (24,a8 x.l):=gw (cs:=x.l.map v8) Tryz.underlying30 qG jV (by decide) (by simp[x.h])
theorem EI (x:IdL) {w':World} {b:Nat} (h:w'.heap[b]? =some (.cells (a8 x.l) 24 (0,0))):RowS 32 aJ id0 w' (vsl b 0 1 1) [x] b 0 (a8 x.l) 24 (0,0):=RowS.sl rfl h (by
 intro k hk j hj
 obtain rfl:k=0:=by simpa using hk
 simp only[Nat.zero_mul,Nat.zero_add,List.getD_cons_zero]
 rw[←qL,List.getElem?_toArray])
theorem Came.newE {w0:World} {L X D:a6} {b:Nat} (hC:Came w0 L X D) (hN:New (b+1) X) (hb:b∈keys L):New (b+1) D:=New.of_le fun c hc=>by
 rcases hC.new c hc with h| ⟨h,-⟩
 ·exact hN.le c h
 ·have:=aP h hb;omega
end Go.Proofs
end
section
open Go Go.Proofs Go.Sx Go.StP
namespace Go.Proofs
set_option maxRecDepth 10000
set_option maxHeartbeats 400000
set_option linter.unusedSimpArgs false
set_option linter.defProp false
def eS:=And.intro (And.intro (And.intro (@gB) (And.intro (@gZ) (@gY))) (And.intro (And.intro (@gX) (@Sx.tup2_0)) (And.intro (@Sx.tup2_1) (@qA)))) (And.intro (And.intro (@qy) (And.intro (@r6) (@j0))) (And.intro (And.intro (@iR) (@gM)) (And.intro (@cP) (@cO))))
structure WrG where
 g:Nat
 D:a6
theorem Came.newF {w0:World} {L X D:a6} {m b:Nat} (hC:Came w0 L X D) (hN:New m X) (hb:b∈keys L) (hm:m≤b+1):New m D:=New.of_le fun c hc=>by
 rcases hC.new c hc with h| ⟨h,-⟩
 ·exact hN.le c h
 ·have:=aP h hb;omega
theorem tC {l Z:List EntL} (h:StE l Z) {y:EntL} (hy:y∈Z):y∈l:=by
 have h1:=h y.name
 have h2:y∈StP.of EntL.name y.name Z:=List.mem_filter.2 ⟨hy,by simp⟩
 rw[h1] at h2
 exact(List.mem_filter.1 h2).1
theorem yn {l:List EntL} (dL: ∀e,e∈l→e.name.length<10000): ∀k,k≤l.length→(bE (l.take k)).length≤k*10060
 |0,_=>by simp[bE]
 |k+1,hk=>by
  have ih:=yn dL k (by omega)
  have hn:=dL _ (wJ (z:=ent0) (show k<l.length by omega))
  have h1: (dH (l.getD k ent0).name).length=(cR (dI (l.getD k ent0).name.length)).length+ (l.getD k ent0).name.length:=by unfold dH;rw[List.length_append]
  have h4:=j2 ((l.getD k ent0).name.length:Int)
  have h2:=j2 (l.getD k ent0).kind
  have h3:=(l.getD k ent0).id.h
  rw[yd (by omega)]
  unfold entB
  simp only[List.length_append]
  omega
theorem CY (v:Value) (l:List EntL) (w:World) (hv:EntS w v l) (hl:l.length<1000) (dL: ∀e,e∈l→e.name.length<10000):
  Rets Tryz.prog 67 #[v] w (XS w [] (fun v' _=> ∃Z,SortOf l Z∧v'= .tuple #[obV (i6 2 (bE Z) (dr Z)) (i7 2 (bE Z) (dr Z)),vi (i5 2 (bE Z) (dr Z))])):=by
 have ln:=hv.len
 refine Rets.enterX Tryz.func67 rfl (rs:= [.cell 2 35, .tmp 3]) Tryz.results67 Tryz.ntmps67 (fun p hp=>by cases hp) (by simp[keys]) ?_
 refine kf ?_
 first|with_reducible refine ks [] @eS ?_|refine kp @eS ?_
 refine Ow.alloc rfl rfl gC fun b2 ck ar=> ?_
 simp only[aU,List.nil_append,List.cons_append]
 refine ko @eS ?_
 refine Ow.callF rfl rfl Tryz.call120 (S:=fun B v' D=> ∃b1,B≤b1∧v'= .func (.func 189) #[] #[vp b1 0]∧D= [(b1, .cells #[v] 122 (0,0))]) (fun w' a7=>zV v w' (SlV.one hv)) ?_
 rintro B v D dc hB ⟨b1,bJ,rfl,rfl⟩
 obtain⟨ST,-⟩:=dc
 refine⟨_,Mrg.fresh (by intro q hq;simp only[keys,List.map_cons,List.map_nil,List.mem_singleton] at hq;omega), ?_⟩
 simp only[List.cons_append,List.nil_append]
 refine ko @eS ?_
 refine Ow.callC rfl rfl Tryz.call119 (fun w' a7=>AA _ _ l w' Tryz.call189 (by omega) (fun w2 h2=>zo b1 v l w2 (hv.oldN (a7.trans_nil h2) ⟨by omega,by omega,trivial⟩) ((a7.trans_nil h2).has _ _ (List.mem_cons_of_mem _ List.mem_cons_self)) (by omega))) (fun B2 v2 D2 te ca cw bu=> ?_)
 obtain⟨Z,hZ,hG⟩:=bu
 refine ko @eS ?_
 refine Ow.alloc rfl rfl zrWr fun bw wr T6=> ?_
 simp only[aU,List.nil_append,List.cons_append]
 have SZ:b2<bw:=aP wr (by simp[keys])
 have SS:b1<bw:=aP wr (by simp[keys])
 have Qk: ∀c,c∈keys D2→c<bw:=fun c hc=>aP wr (by simp only[keys,List.map_cons,List.mem_cons];exact .inr (.inr hc))
 refine Ow.permL (M:= [(bw,Obj.cells #[.pointer none, .slice none 0 0] 236 (0,0))]++ (D2++ [(b2,Obj.cells #[vi 0,vs []] 35 (0,0)),(b1,Obj.cells #[v] 122 (0,0))])) (by classical exact List.perm_iff_count.2 fun a=>by simp only[List.count_append,List.count_cons,List.count_nil]<;>omega) ?_
 have tg:BldAt bw [] [(bw,Obj.cells #[.pointer none, .slice none 0 0] 236 (0,0))]:=BldAt.zeroE bw (eA _ _ _)
 have qU:New bw [(bw,Obj.cells #[.pointer none, .slice none 0 0] 236 (0,0))]:=⟨Nat.le_refl _,trivial⟩
 have Mm:bw∈keys [(bw,Obj.cells #[.pointer none, .slice none 0 0] 236 (0,0))]:=by simp[keys]
 generalize [(bw,Obj.cells #[.pointer none, .slice none 0 0] 236 (0,0))]=D0 at tg qU Mm ⊢
 have ln2:=hG.len
 refine ko (And.intro @eS @ln2) ?_
 have u4:=hZ.1
 have pg: ∀e,e∈Z→e.name.length<10000:=fun e he=>dL e (tC hZ.2.2 he)
 refine Cw.loopG (G:=WrG) [13,14,15,6,16,17,18,19,20,21,22,23,24,25,26,27,28,12] (fun q=> [(12,vi q.g)]) (fun q=>q.D++ (D2++ [(b2,Obj.cells #[vi 0,vs []] 35 (0,0)),(b1,Obj.cells #[v] 122 (0,0))])) (fun q=>q.g≤l.length∧BldAt bw (bE (Z.take q.g)) q.D∧New bw q.D∧bw∈keys q.D) (fun q=>l.length - q.g) ⟨0,D0⟩ rfl rfl ?_ ?_
 ·exact⟨Nat.zero_le _,tg,qU,Mm⟩
 ·intro q jq hq
  refine kv ?_
  obtain⟨k,D⟩:=q
  simp only at hq ⊢
  obtain⟨h1,im,jd,jb⟩:=hq
  by_cases hk:k<l.length
  ·have Jq:k<Z.length:=by omega
   obtain⟨c,cc,rest,x9,b_⟩: ∃c cc rest,v2=vsl c 0 l.length cc∧Sx.look D2 c=some (cI rest Z):=by
    rcases hG with h| ⟨h,-⟩
    ·rcases h.inv with⟨-,h,-⟩ | ⟨c,cc,rest,h,b_,-⟩
     ·omega
     ·exact⟨c,cc,rest,h,b_⟩
    ·omega
   subst x9
   have RC:=Qk c (cE b_)
   have rdz: ∀M,aO w (D++ (D2++M)) c=some (cI rest Z):=fun M=>ah (by rw[gN (jd.not RC)];exact bB b_)
   have ldz:=ns (rest:=rest) k Jq
   generalize hx:Z.getD k ent0=x at ldz
   first|with_reducible refine ks [] (And.intro @eS (And.intro @rdz (@ldz))) ?_|refine kp (And.intro @eS (And.intro @rdz (@ldz))) ?_
   refine Ow.alloc rfl rfl gg fun b6 jB ei=> ?_
   simp only[aU,List.nil_append,List.cons_append]
   have SA:bw<b6:=aP jB (by simp only[keys,List.map_append,List.mem_append] at jb ⊢;simp[jb])
   refine Ow.permL (M:=(b6,Obj.cells (aD ent0).toArray 117 (0,0)):: (D++ (D2++ [(b2,Obj.cells #[vi 0,vs []] 35 (0,0)),(b1,Obj.cells #[v] 122 (0,0))]))) (by classical exact List.perm_iff_count.2 fun a=>by simp only[List.count_append,List.count_cons,List.count_nil]<;>omega) ?_
   refine ko @eS ?_
   have T9:x.name.length<10000:=by rw[←hx];exact dL _ (tC hZ.2.2 (wJ Jq))
   have jM:ie [x.name]=dH x.name:=by simp[ie]
   have tll:=qE (s:=x.name) (by omega)
   have tnl: (dH x.name).length=(cR (dI x.name.length)).length+x.name.length:=by unfold dH;rw[List.length_append]
   have nl1:=j2 (x.name.length:Int)
   have nl2:=j2 x.kind
   have tbl:=yn pg k (by omega)
   refine Ow.buildSlice (e:=3) #[vi x.kind] rfl rfl (by kernel_rfl) fun b18 kJ KG=> ?_
   have oy:b18∉keys D:=fun hm=>Nat.lt_irrefl _ (aP kJ (by simp only[keys,List.map_cons,List.map_append,List.mem_cons,List.mem_append] at hm ⊢;simp[hm]))
   have NK:bw<b18:=aP kJ (by simp only[keys,List.map_cons,List.map_append,List.mem_cons,List.mem_append] at jb ⊢;simp[jb])
   refine Ow.permL (M:=D++ ((b6,Obj.cells (aD x).toArray 117 (0,0)):: (b18,Obj.cells #[vi x.kind] 3 (0,0)):: (D2++ [(b2,Obj.cells #[vi 0,vs []] 35 (0,0)),(b1,Obj.cells #[v] 122 (0,0))]))) (by classical exact List.perm_iff_count.2 fun a=>by simp only[List.count_append,List.count_cons,List.count_nil]<;>omega) ?_
   refine ko @eS ?_
   refine Ow.callX (Y:=((b6,Obj.cells (aD x).toArray 117 (0,0)):: (b18,Obj.cells #[vi x.kind] 3 (0,0)):: (D2++ [(b2,Obj.cells #[vi 0,vs []] 35 (0,0)),(b1,Obj.cells #[v] 122 (0,0))]))) (by simp) rfl rfl Tryz.call123 (fun w' a7 hX hn=>MP bw D _ _ b18 0 [x.kind] _ _ _ w' im hX hn (OneS.lit [x.kind] rfl rfl (a7.has _ _ (List.mem_append_right _ (List.mem_cons_of_mem _ List.mem_cons_self)))) (fun _=>oy) (by simp only[List.length_cons,List.length_nil];omega)) (fun u1 E1 qR cz=> ?_)
   obtain⟨rfl,ow⟩:=cz
   have gQ:=Came.newF qR jd (b:=b18) (by simp[keys]) (by omega)
   have JB:=qR.all _ jb
   have ca:=ow.app (Y:= [(b18,Obj.cells #[vi x.kind] 3 (0,0))])
   have cw:=gQ.app (show New bw [(b18,Obj.cells #[vi x.kind] 3 (0,0))] from⟨by omega,trivial⟩)
   have qT:bw∈keys (E1++ [(b18,Obj.cells #[vi x.kind] 3 (0,0))]):=by rw[aT];exact List.mem_append_left _ JB
   refine Ow.permL (M:=(b6,Obj.cells (aD x).toArray 117 (0,0)):: ((E1++ [(b18,Obj.cells #[vi x.kind] 3 (0,0))])++ (D2++ [(b2,Obj.cells #[vi 0,vs []] 35 (0,0)),(b1,Obj.cells #[v] 122 (0,0))]))) (by classical exact List.perm_iff_count.2 fun a=>by simp only[List.count_append,List.count_cons,List.count_nil]<;>omega) ?_
   generalize E1++ [(b18,Obj.cells #[vi x.kind] 3 (0,0))]=F2 at ca cw qT ⊢
   refine ko @eS ?_
   rw[LS] at ca
   refine Ow.buildSlice (e:=9) #[vs x.name] rfl rfl (by kernel_rfl) fun b22 u7 S8=> ?_
   have J6:b22∉keys F2:=fun hm=>Nat.lt_irrefl _ (aP u7 (by simp only[keys,List.map_cons,List.map_append,List.mem_cons,List.mem_append] at hm ⊢;simp[hm]))
   have NL:bw<b22:=aP u7 (by simp only[keys,List.map_cons,List.map_append,List.mem_cons,List.mem_append] at qT ⊢;simp[qT])
   refine Ow.permL (M:=F2++ ((b6,Obj.cells (aD x).toArray 117 (0,0)):: (b22,Obj.cells #[vs x.name] 9 (0,0)):: (D2++ [(b2,Obj.cells #[vi 0,vs []] 35 (0,0)),(b1,Obj.cells #[v] 122 (0,0))]))) (by classical exact List.perm_iff_count.2 fun a=>by simp only[List.count_append,List.count_cons,List.count_nil]<;>omega) ?_
   refine ko @eS ?_
   refine Ow.callX (Y:=((b6,Obj.cells (aD x).toArray 117 (0,0)):: (b22,Obj.cells #[vs x.name] 9 (0,0)):: (D2++ [(b2,Obj.cells #[vi 0,vs []] 35 (0,0)),(b1,Obj.cells #[v] 122 (0,0))]))) (by simp) rfl rfl Tryz.call124 (fun w' a7 hX hn=>L_ bw F2 _ _ b22 0 [x.name] _ _ _ w' ca hX hn (StrS.lit [x.name] rfl rfl (a7.has _ _ (List.mem_append_right _ (List.mem_cons_of_mem _ List.mem_cons_self)))) (fun _=>J6) (by rw[jM];simp only[List.length_append,List.length_cons,List.length_nil];omega) (by simp)) (fun u2 E2 qS bu=> ?_)
   obtain⟨rfl,J2⟩:=bu
   have eV:=Came.newF qS cw (b:=b22) (by simp[keys]) (by omega)
   have JC:=qS.all _ qT
   have l7:=J2.app (Y:= [(b22,Obj.cells #[vs x.name] 9 (0,0))])
   have l9:=eV.app (show New bw [(b22,Obj.cells #[vs x.name] 9 (0,0))] from⟨by omega,trivial⟩)
   have wk:bw∈keys (E2++ [(b22,Obj.cells #[vs x.name] 9 (0,0))]):=by rw[aT];exact List.mem_append_left _ JC
   refine Ow.permL (M:=(b6,Obj.cells (aD x).toArray 117 (0,0)):: ((E2++ [(b22,Obj.cells #[vs x.name] 9 (0,0))])++ (D2++ [(b2,Obj.cells #[vi 0,vs []] 35 (0,0)),(b1,Obj.cells #[v] 122 (0,0))]))) (by classical exact List.perm_iff_count.2 fun a=>by simp only[List.count_append,List.count_cons,List.count_nil]<;>omega) ?_
   generalize E2++ [(b22,Obj.cells #[vs x.name] 9 (0,0))]=F3 at l7 l9 wk ⊢
   refine ko @eS ?_
   rw[jM] at l7
   refine Ow.buildSlice (e:=24) (a8 x.id.l) rfl rfl (DY x.id) fun b26 u9 S9=> ?_
   have J7:b26∉keys F3:=fun hm=>Nat.lt_irrefl _ (aP u9 (by simp only[keys,List.map_cons,List.map_append,List.mem_cons,List.mem_append] at hm ⊢;simp[hm]))
   have NM:bw<b26:=aP u9 (by simp only[keys,List.map_cons,List.map_append,List.mem_cons,List.mem_append] at wk ⊢;simp[wk])
   refine Ow.permL (M:=F3++ ((b6,Obj.cells (aD x).toArray 117 (0,0)):: (b26,Obj.cells (a8 x.id.l) 24 (0,0)):: (D2++ [(b2,Obj.cells #[vi 0,vs []] 35 (0,0)),(b1,Obj.cells #[v] 122 (0,0))]))) (by classical exact List.perm_iff_count.2 fun a=>by simp only[List.count_append,List.count_cons,List.count_nil]<;>omega) ?_
   refine ko @eS ?_
   refine Ow.callX (Y:=((b6,Obj.cells (aD x).toArray 117 (0,0)):: (b26,Obj.cells (a8 x.id.l) 24 (0,0)):: (D2++ [(b2,Obj.cells #[vi 0,vs []] 35 (0,0)),(b1,Obj.cells #[v] 122 (0,0))]))) (by simp) rfl rfl Tryz.call125 (fun w' a7 hX hn=>EN bw F3 _ _ b26 0 [x.id] _ _ _ w' l7 hX hn (EI x.id (a7.has _ _ (List.mem_append_right _ (List.mem_cons_of_mem _ List.mem_cons_self)))) (fun _=>J7) (by simp only[List.length_append,List.length_cons,List.length_nil];omega)) (fun u3 E3 Mi gG=> ?_)
   obtain⟨rfl,J3⟩:=gG
   have mK:=Came.newF Mi l9 (b:=b26) (by simp[keys]) (by omega)
   have JD:=Mi.all _ wk
   have eL:=J3.app (Y:= [(b26,Obj.cells (a8 x.id.l) 24 (0,0))])
   have cq:=mK.app (show New bw [(b26,Obj.cells (a8 x.id.l) 24 (0,0))] from⟨by omega,trivial⟩)
   have Mn:bw∈keys (E3++ [(b26,Obj.cells (a8 x.id.l) 24 (0,0))]):=by rw[aT];exact List.mem_append_left _ JD
   refine Ow.permL (M:=(b6,Obj.cells (aD x).toArray 117 (0,0)):: ((E3++ [(b26,Obj.cells (a8 x.id.l) 24 (0,0))])++ (D2++ [(b2,Obj.cells #[vi 0,vs []] 35 (0,0)),(b1,Obj.cells #[v] 122 (0,0))]))) (by classical exact List.perm_iff_count.2 fun a=>by simp only[List.count_append,List.count_cons,List.count_nil]<;>omega) ?_
   generalize E3++ [(b26,Obj.cells (a8 x.id.l) 24 (0,0))]=F4 at eL cq Mn ⊢
   refine Ow.permL (M:=(F4++ [(b6,Obj.cells (aD x).toArray 117 (0,0))])++ (D2++ [(b2,Obj.cells #[vi 0,vs []] 35 (0,0)),(b1,Obj.cells #[v] 122 (0,0))])) (by classical exact List.perm_iff_count.2 fun a=>by simp only[List.count_append,List.count_cons,List.count_nil]<;>omega) ?_
   refine ko @eS ?_
   refine Again.mk (WrG.mk (k+1) (F4++ [(b6,Obj.cells (aD x).toArray 117 (0,0))])) (by show l.length - (k+1)<l.length - k;omega) ⟨by show k+1≤l.length;omega, ?_,cq.app ⟨by omega,trivial⟩,by show bw∈keys (F4++_);rw[aT];exact List.mem_append_left _ Mn⟩ rfl rfl
   show BldAt bw (bE (Z.take (k+1))) (F4++_)
   rw[Kf Jq,hx]
   have e1:idsL [x.id]=x.id.l:=by simp[idsL]
   rw[e1] at eL
   exact eL.app
  ·obtain rfl:k=l.length:=by omega
   have mN:Z.take l.length=Z:=List.take_of_length_le (by omega)
   rw[mN] at im
   first|with_reducible refine ks [] @eS ?_|refine kp @eS ?_
   have tbl:=yn pg Z.length (Nat.le_refl _)
   rw[List.take_length] at tbl
   have R':qI Z:=fun i hi=>by have:=pg _ (wJ (z:=ent0) hi);omega
   refine Ow.callX (Y:=(D2++ [(b2,Obj.cells #[vi 0,vs []] 35 (0,0)),(b1,Obj.cells #[v] 122 (0,0))])) (by simp) rfl rfl Tryz.call126 (fun w' a7 hX hn=>LH bw D (bE Z) w' im hX hn (by omega)) (fun v5 D5 J4 JK=> ?_)
   obtain rfl:=JK
   have eW:=Came.newF J4 jd (b:=bw) (by rw[aT];exact List.mem_append_left _ jb) (by omega)
   have eV:New w.heap.size D2:=cw.mono (by omega)
   have kF:New w.heap.size (D5++ (D2++ [(b2,Obj.cells #[vi 0,vs []] 35 (0,0)),(b1,Obj.cells #[v] 122 (0,0))])):=(New.mono (by omega) eW).app (eV.app ⟨ar,by omega,trivial⟩)
   refine ko @eS ?_
   refine Ow.build (obV 2 (bE Z)) rfl (Lv 2 _) ?_
   refine ko @eS ?_
   refine Ow.callFV rfl Tryz.call127 (fun w' a7=>MM v2 Z w' (hG.slM (fun b o hm=>a7.has b o (by simp[hm])) u4 rfl eB) (by omega) R') ?_
   refine ko @eS ?_
   refine Ow.callFV rfl Tryz.call116 (fun w' a7=>LP 2 (bE Z) (dr Z) w') ?_
   refine Ow.permL (M:=(b2,Obj.cells #[vi 0,vs []] 35 (0,0)):: (D5++ (D2++ [(b1,Obj.cells #[v] 122 (0,0))]))) (by classical exact List.perm_iff_count.2 fun a=>by simp only[List.count_append,List.count_cons,List.count_nil]<;>omega) ?_
   refine ko @eS ?_
   first|with_reducible refine ks [] @eS ?_|refine kp @eS ?_
   refine⟨_,(ke @eS), ?_⟩
   exact⟨Ext.of_new ⟨ar,(New.mono (by omega) eW).app (eV.app ⟨by omega,trivial⟩)⟩,Z,hZ,rfl⟩
end Go.Proofs
end
section
open Go Go.Proofs Go.Sx Go.StP
namespace Go.Proofs
set_option maxRecDepth 10000
set_option maxHeartbeats 400000
set_option linter.unusedSimpArgs false
theorem q9 {k:Int} {t:List UInt8} (h:bN k t=true):1≤k∧k≤3∧t.length≤4096:=by
 unfold bN at h
 split at h
 ·assumption
 ·cases h
set_option linter.defProp false
end Go.Proofs
end
section
open Go Go.Proofs Go.Sx Go.StP
namespace Go.Proofs
set_option maxRecDepth 10000
set_option maxHeartbeats 400000
set_option linter.unusedSimpArgs false
set_option linter.defProp false
def gb:=And.intro (And.intro (And.intro (@gB) (@gZ)) (And.intro (@gY) (@gX))) (And.intro (And.intro (@Sx.tup2_0) (@Sx.tup2_1)) (And.intro (@cP) (@cO)))
def ik (k:Int):List UInt8:=(([32,98,116,99]:List UInt8).take (k+1).toNat).drop k.toNat
def gh (k:Int) (t:List UInt8):List UInt8:=ik k++dH t
theorem zI (k:Int) (t:List UInt8) (w:World):Rets Tryz.prog 117 #[obV k t] w (XS w [] (fun v _=>v=if bN k t then .tuple #[vs (gh k t),vi 0] else .tuple #[vs [],vi 1])):=by
 refine Rets.enterX Tryz.func117 rfl (rs:= [.tmp 2, .tmp 3]) Tryz.results117 Tryz.ntmps117 (fun p hp=>by cases hp) (by simp[keys]) ?_
 refine kf ?_
 first|with_reducible refine ks [] @gb ?_|refine kp @gb ?_
 refine Ow.box rfl rfl fun b1 bJ aG=> ?_
 simp only[bp,bj,cJ,aU,List.nil_append]
 refine ko @gb ?_
 refine Ow.callFV rfl Tryz.call184 (fun w' a7=>Km k t w') ?_
 cases hr:bN k t
 ·refine ko @gb ?_
  first|with_reducible refine ks [] @gb ?_|refine kp @gb ?_
  refine⟨_,(ke @gb), ?_⟩
  exact⟨Ext.of_new ⟨aG,trivial⟩,rfl⟩
 ·obtain⟨bk,nK,jM⟩:=q9 hr
  have Sp: (ik k).length≤4:=by unfold ik;simp only[List.length_drop,List.length_take,List.length_cons,List.length_nil];omega
  refine ko @gb ?_
  refine Ow.alloc rfl rfl zrWr fun b4 dN cB=> ?_
  simp only[aU,List.nil_append,List.cons_append]
  have we:b1<b4:=aP dN (by simp[keys])
  refine Ow.permL (M:= [(b4,Obj.cells #[.pointer none, .slice none 0 0] 236 (0,0))]++ [(b1,Obj.cells #[vi k,vs t] 35 (0,0))]) (by classical exact List.perm_iff_count.2 fun a=>by simp only[List.count_append,List.count_cons,List.count_nil]<;>omega) ?_
  have tg:BldAt b4 [] [(b4,Obj.cells #[.pointer none, .slice none 0 0] 236 (0,0))]:=BldAt.zeroE b4 (eA _ _ _)
  have qU:New (b1+1) [(b4,Obj.cells #[.pointer none, .slice none 0 0] 236 (0,0))]:=⟨by omega,trivial⟩
  generalize [(b4,Obj.cells #[.pointer none, .slice none 0 0] 236 (0,0))]=D0 at tg qU ⊢
  have rdc: ∀ {D},New (b1+1) D→ ∀M,aO w (D++ (b1,Obj.cells #[vi k,vs t] 35 (0,0))::M) b1=some (.cells #[vi k,vs t] 35 (0,0)):=fun hn M=>ah (by rw[gN (hn.not (by omega))];exact eA _ _ _)
  have r0:=rdc qU
  have di:eo .str (vs ([32,98,116,99]:List UInt8)) (some (some k)) (some (some (k+1)))=some (vs (ik k)):=Na _ _ _ ⟨by omega,by omega,by simp only[List.length_cons,List.length_nil];omega⟩
  refine ko (And.intro @gb (And.intro @r0 (@di))) ?_
  refine Ow.buildSlice (e:=9) #[vs (ik k)] rfl rfl (by kernel_rfl) fun b14 kI up=> ?_
  have QN:b1<b14:=aP kI (by simp[keys])
  have J5:b14∉keys D0:=fun hm=>Nat.lt_irrefl _ (aP kI (by rw[aT];exact List.mem_append_left _ hm))
  refine ko @gb ?_
  refine Ow.callX (Y:= [(b1,Obj.cells #[vi k,vs t] 35 (0,0)),(b14,Obj.cells #[vs (ik k)] 9 (0,0))]) (by simp) rfl rfl Tryz.call154 (fun w' a7 hX hn=>xu b4 D0 _ _ b14 0 [ik k] _ _ _ w' tg hX hn (StrS.lit [ik k] rfl rfl (a7.has _ _ (List.mem_append_right _ List.mem_cons_self))) (fun _=>J5) (by simp;omega) (by simp)) (fun u0 E0 Qj Qr=> ?_)
  obtain⟨rfl,J1⟩:=Qr
  have JE:=Came.newE Qj qU (by simp[keys])
  have im:=J1.app (Y:= [(b14,Obj.cells #[vs (ik k)] 9 (0,0))])
  have jd:=JE.app (show New (b1+1) [(b14,Obj.cells #[vs (ik k)] 9 (0,0))] from⟨by omega,trivial⟩)
  refine Ow.permL (M:=(E0++ [(b14,Obj.cells #[vs (ik k)] 9 (0,0))])++ [(b1,Obj.cells #[vi k,vs t] 35 (0,0))]) (by classical exact List.perm_iff_count.2 fun a=>by simp only[List.count_append,List.count_cons,List.count_nil]<;>omega) ?_
  generalize E0++ [(b14,Obj.cells #[vs (ik k)] 9 (0,0))]=F1 at im jd ⊢
  simp only[List.flatten_cons,List.flatten_nil,List.append_nil,List.nil_append] at im
  have r1:=rdc jd
  refine ko (And.intro @gb @r1) ?_
  have NF:ie [t]=dH t:=by simp[ie]
  have tll:=qE (s:=t) (by omega)
  have tnl: (dH t).length=(cR (dI t.length)).length+t.length:=by unfold dH;rw[List.length_append]
  have nl1:=j2 (t.length:Int)
  refine Ow.buildSlice (e:=9) #[vs t] rfl rfl (by kernel_rfl) fun b18 kJ KG=> ?_
  have QO:b1<b18:=aP kJ (by simp[keys])
  have oy:b18∉keys F1:=fun hm=>Nat.lt_irrefl _ (aP kJ (by rw[aT];exact List.mem_append_left _ hm))
  refine ko @gb ?_
  refine Ow.callX (Y:= [(b1,Obj.cells #[vi k,vs t] 35 (0,0)),(b18,Obj.cells #[vs t] 9 (0,0))]) (by simp) rfl rfl Tryz.call124 (fun w' a7 hX hn=>L_ b4 F1 _ _ b18 0 [t] _ _ _ w' im hX hn (StrS.lit [t] rfl rfl (a7.has _ _ (List.mem_append_right _ List.mem_cons_self))) (fun _=>oy) (by rw[NF];omega) (by simp)) (fun u1 E1 qR cz=> ?_)
  obtain⟨rfl,ow⟩:=cz
  have gQ:=Came.newE qR jd (by simp[keys])
  have ca:=ow.app (Y:= [(b18,Obj.cells #[vs t] 9 (0,0))])
  have cw:=gQ.app (show New (b1+1) [(b18,Obj.cells #[vs t] 9 (0,0))] from⟨by omega,trivial⟩)
  refine Ow.permL (M:=(E1++ [(b18,Obj.cells #[vs t] 9 (0,0))])++ [(b1,Obj.cells #[vi k,vs t] 35 (0,0))]) (by classical exact List.perm_iff_count.2 fun a=>by simp only[List.count_append,List.count_cons,List.count_nil]<;>omega) ?_
  generalize E1++ [(b18,Obj.cells #[vs t] 9 (0,0))]=F2 at ca cw ⊢
  rw[NF] at ca
  refine ko @gb ?_
  refine Ow.callX (Y:= [(b1,Obj.cells #[vi k,vs t] 35 (0,0))]) (by simp) rfl rfl Tryz.call126 (fun w' a7 hX hn=>LH b4 F2 _ w' ca hX hn (by rw[List.length_append];omega)) (fun v5 D5 J4 JK=> ?_)
  obtain rfl:=JK
  have eW:=Came.newE J4 cw (by simp[keys])
  refine ko @gb ?_
  first|with_reducible refine ks [] @gb ?_|refine kp @gb ?_
  refine⟨_,(ke @gb), ?_⟩
  exact⟨Ext.of_new ((New.mono (by omega) eW).app ⟨aG,trivial⟩),rfl⟩
end Go.Proofs
end
section
open Go Go.Proofs Go.Sx Go.StP
namespace Go.Proofs
set_option maxRecDepth 10000
set_option maxHeartbeats 400000
set_option linter.unusedSimpArgs false
set_option linter.defProp false
def fB:=And.intro (And.intro (And.intro (@gB) (@gZ)) (And.intro (@gY) (@gX))) (And.intro (And.intro (@Sx.tup2_0) (@Sx.tup2_1)) (And.intro (@qD) (And.intro (@cP) (@cO))))
def nx (k:Int) (t:List UInt8):Bool:=if 4096<t.length then false else if k=2 then(lW t).isSome else if k=3 then(lT t).isSome else k==1
theorem KX (k:Int) (t:List UInt8) (w:World):Rets Tryz.prog 19 #[obV k t] w (fun v D=>v= .bool (nx k t)∧D= []):=by
 refine Rets.enterV Tryz.func19 rfl (rs:= [.tmp 2]) Tryz.results19 Tryz.ntmps19 ?_
 refine kf ?_
 first|with_reducible refine ks [] @fB ?_|refine kp @fB ?_
 refine Ow.box rfl rfl fun b1 bJ aG=> ?_
 simp only[bp,bj,cJ,aU,List.nil_append]
 refine ko @fB ?_
 unfold nx
 by_cases h3:4096<t.length
 ·have d1:decide (4096< (t.length:Int))=true:=decide_eq_true (by omega)
  rw[if_pos h3]
  first|with_reducible refine ks [] (And.intro @fB @d1) ?_|refine kp (And.intro @fB @d1) ?_
  refine⟨_,(ke @fB),⟨aG,trivial⟩, ?_⟩
  rfl
 ·have d1:decide (4096< (t.length:Int))=false:=decide_eq_false (by omega)
  rw[if_neg h3]
  by_cases h2:k=2
  ·subst h2
   rw[if_pos rfl]
   first|with_reducible refine ks [] (And.intro @fB @d1) ?_|refine kp (And.intro @fB @d1) ?_
   refine Ow.callC rfl rfl Tryz.call68 (fun w' a7=>MU t w' (by omega)) (fun B v D hA hB hN hS=> ?_)
   obtain⟨p,b,rfl,hb⟩: ∃p b,v= .tuple #[p, .bool b]∧(lW t).isSome=b:=by
    unfold lr at hS
    cases h:lW t with
    |none=>rw[h] at hS;exact⟨_,_,hS,rfl⟩
    |some l=>rw[h] at hS;obtain⟨v1,rfl,-⟩:=hS;exact⟨_,_,rfl,rfl⟩
   rw[hb]
   refine ko @fB ?_
   first|with_reducible refine ks [] @fB ?_|refine kp @fB ?_
   refine⟨_,(ke @fB),⟨aG,New.mono hB hN⟩, ?_⟩
   rfl
  ·have d2: (k==2)=false:=by simpa using h2
   rw[if_neg h2]
   by_cases h4:k=3
   ·subst h4
    rw[if_pos rfl]
    first|with_reducible refine ks [] (And.intro @fB (And.intro @d1 (@d2))) ?_|refine kp (And.intro @fB (And.intro @d1 (@d2))) ?_
    refine Ow.callC rfl rfl Tryz.call69 (fun w' a7=>MQ t w' (by omega)) (fun B v D hA hB hN hS=> ?_)
    obtain⟨c,p,x,b,rfl,hp,hb⟩: ∃c p x b,v= .tuple #[.agg (aY c p x).toArray, .bool b]∧Value.oneCell' p=true∧(lT t).isSome=b:=by
     unfold lZ at hS
     cases h:lT t with
     |none=>rw[h] at hS;exact⟨_,_,_,_,hS,rfl,rfl⟩
     |some l=>rw[h] at hS;obtain⟨v1,rfl,hg⟩:=hS;exact⟨_,_,_,_,rfl,hg.cell.1,rfl⟩
    rw[hb]
    have stq: ∀a E,aZ (some (a,34)) (some (.cells (aY id0 (.slice none 0 0) []).toArray E (0,0))) 0 (.agg (aY c p x).toArray)=some (.cells (aY c p x).toArray E (0,0)):=fun a E=>wb _ _ _ _ a E (by rw[List.size_toArray,pu]) hp
    refine ko @fB ?_
    refine Ow.alloc rfl rfl kC fun b5 cx eF=> ?_
    simp only[aU,List.nil_append,List.cons_append]
    refine Ow.permL (M:=(b5,Obj.cells (aY id0 (.slice none 0 0) []).toArray 126 (0,0)):: (b1,Obj.cells #[vi 3,vs t] 35 (0,0))::D) (by classical exact List.perm_iff_count.2 fun a=>by simp only[List.count_append,List.count_cons,List.count_nil]<;>omega) ?_
    refine ko (And.intro @fB @stq) ?_
    first|with_reducible refine ks [] @fB ?_|refine kp @fB ?_
    refine⟨_,(ke @fB),⟨eF,aG,New.mono hB hN⟩, ?_⟩
    rfl
   ·have d3: (k==3)=false:=by simpa using h4
    rw[if_neg h4]
    first|with_reducible refine ks [] (And.intro @fB (And.intro @d1 (And.intro @d2 (@d3)))) ?_|refine kp (And.intro @fB (And.intro @d1 (And.intro @d2 (@d3)))) ?_
    refine⟨_,(ke @fB),⟨aG,trivial⟩, ?_⟩
    rfl
end Go.Proofs
end
section
open Go Go.Proofs Go.Sx Go.StP
namespace Go.Proofs
set_option maxRecDepth 10000
set_option maxHeartbeats 400000
set_option linter.unusedSimpArgs false
theorem EF (n:Nat):0< (cR n).length:=by
 by_cases h:n<128
 ·rw[mf h];simp
 ·rw[pz h];simp
theorem Av (most:Int): ∀ (l:List UInt8) (k acc m k':Nat),b9 most l k acc= .ok (m,k')→ ∃n,l=cR n++l.drop (k' - k)∧m=acc+n*128^k∧(0<k→0<n)∧k<k':=by
 intro l
 induction l with
 |nil=>intro k acc m k' h;simp[b9] at h
 |cons c r ih=>
  intro k acc m k' h
  unfold b9 at h
  have gl:=c.toNat_lt
  split at h
  ·rename_i hc
   split at h
   ·cases h
   ·obtain⟨n,h1,h2,h3,h4⟩:=ih _ _ _ _ h
    have hn:=h3 (by omega)
    refine⟨c.toNat%128+128*n, ?_, ?_,fun _=>by omega,by omega⟩
    ·rw[pz (by omega),show(c.toNat%128+128*n) / 128=n by omega,show(c.toNat%128+128*n)%128+128=c.toNat by omega]
     rw[show k' - k=(k' - (k+1))+1 by omega,List.drop_succ_cons,List.cons_append,←h1]
     simp
    ·rw[h2,Nat.pow_succ,Nat.add_mul,Nat.add_assoc]
     congr 2
     rw[Nat.mul_comm 128 n,Nat.mul_assoc,Nat.mul_comm (128^k) 128]
  ·rename_i hc
   split at h
   ·cases h
   ·rename_i hz
    split at h
    ·cases h
     refine⟨c.toNat, ?_, ?_,fun hk=>by omega,by omega⟩
     ·rw[mf (by omega),Nat.add_sub_cancel_left]
      simp
     ·rw[Nat.mod_eq_of_lt (by omega)]
    ·cases h
theorem rL {n:Nat} (h:n≤1099511627775):dI (n:Int)=n:=uv (by omega)
theorem ME (most:Int): ∀ (l:List UInt8) (k n m k':Nat),b9 most l k n= .ok (m,k')→m≤1099511627775
 | [],_,_,_,_,h=>by simp[b9] at h
 |c::r,k,n,m,k',h=>by
  unfold b9 at h
  split at h
  ·split at h
   ·cases h
   ·exact ME most r _ _ _ _ h
  ·split at h
   ·cases h
   ·split at h
    ·rename_i hh
     cases h
     exact hh.1
    ·cases h
theorem yo {s:List UInt8} {a:Nat} {most:Int} (h: (aW s a 0 most).2.2=0): ∃n:Nat,(aW s a 0 most).1=(n:Int)∧n≤1099511627775∧(n:Int)≤most∧s.drop a=cR n++s.drop (aW s a 0 most).2.1:=by
 unfold aW at h ⊢
 rw[if_neg (by simp)] at h ⊢
 cases hg:b9 most (s.drop a) 0 0 with
 |ok p=>
  obtain⟨m,k⟩:=p
  obtain⟨n,h1,h2,-,-⟩:=Av _ _ _ _ _ _ hg
  obtain rfl:m=n:=by rw[h2];simp
  refine⟨m,rfl,ME _ _ _ _ _ _ hg,KW _ _ _ _ _ _ hg, ?_⟩
  rw[Nat.sub_zero,List.drop_drop] at h1
  exact h1
 |error x=>
  rw[hg] at h
  exfalso
  have:x=0:=by have: ((x:Nat):Int)=0:=h;omega
  subst this
  exact si _ _ _ _ hg
theorem M8 {s:List UInt8} {a:Nat} {n:Int} (ha:a≤s.length) (h: (ci s a 0 n).2.2=0):0≤n∧(ci s a 0 n).1.length=n.toNat∧s.drop a=(ci s a 0 n).1++s.drop (ci s a 0 n).2.1:=by
 unfold ci at h ⊢
 rw[if_neg (by simp)] at h ⊢
 split at h
 ·exact absurd (show(2:Int)=0 from h) (by decide)
 ·rename_i h1
  rw[if_neg h1]
  split at h
  ·exact absurd (show(3:Int)=0 from h) (by decide)
  ·rename_i h2
   rw[if_neg h2]
   refine⟨by omega, ?_, ?_⟩
   ·simp only[List.length_take,List.length_drop];omega
   ·simp only
    rw[←List.drop_drop,List.take_append_drop]
theorem Ko {s:List UInt8} {a:Nat} {most:Int} (ha:a≤s.length) (h: (bC s a 0 most).2.2=0): ((bC s a 0 most).1.length:Int)≤most∧s.drop a=dH (bC s a 0 most).1++s.drop (bC s a 0 most).2.1:=by
 have eN:=jz (e:=0) (most:=most) ha
 have e1: (aW s a 0 most).2.2=0:=Decidable.byContradiction fun hn=>by
  unfold bC at h
  simp only[oH hn] at h
  rw[if_pos hn] at h
  exact hn h
 obtain⟨n,hn,hb,hm,hd⟩:=yo e1
 unfold bC at h ⊢
 simp only at h ⊢
 generalize aW s a 0 most=p at*
 obtain⟨p1,p2,p3⟩:=p
 simp only at e1 hn hd eN h ⊢
 subst e1 hn
 have e2: (ci s p2 0 (n:Int)).2.2=0:=Decidable.byContradiction fun hh=>by rw[if_pos hh] at h;exact hh h
 rw[if_neg (by simp[e2])]
 obtain⟨-,hl,hr⟩:=M8 eN.2 e2
 rw[Int.toNat_natCast] at hl
 refine⟨by rw[hl];exact hm, ?_⟩
 unfold dH
 rw[hl,rL hb,List.append_assoc,←hr]
 exact hd
theorem yF {s:List UInt8} {a:Nat} (ha:a≤s.length) (h: (idR s a 0).2.2=0):s.drop a=(gJ (idR s a 0).1).l++s.drop (idR s a 0).2.1:=by
 have e2: (ci s a 0 32).2.2=0:=h
 obtain⟨-,hl,hr⟩:=M8 ha e2
 rw[px (q7 s a 0)]
 unfold idR
 simp only
 have mP: (ci s a 0 32).1.length=32:=hl
 rw[if_pos mP]
 exact hr
theorem BG {s:List UInt8} {a:Nat} (ha:a≤s.length) (h: (eK s a 0).2.2=0):s.drop a=entB (eK s a 0).1++s.drop (eK s a 0).2.1:=by
 have hq:=jz (e:=0) (most:=2) ha
 unfold eK at h ⊢
 simp only at h ⊢
 have e1: (aW s a 0 2).2.2=0:=Decidable.byContradiction fun hn=>by
  rw[kA (by rw[wT hn];exact hn),wT hn] at h;exact hn h
 obtain⟨n,hn,hb,-,hd⟩:=yo e1
 generalize aW s a 0 2=p at*
 obtain⟨p1,p2,p3⟩:=p
 simp only at e1 hn hd hq h ⊢
 subst e1 hn
 have ht:=pr (e:=0) (most:=32) hq.2
 have e2: (bC s p2 0 32).2.2=0:=Decidable.byContradiction fun hn=>by rw[kA hn] at h;exact hn h
 obtain⟨-,JW⟩:=Ko hq.2 e2
 generalize bC s p2 0 32=q at*
 obtain⟨q1,q2,q3⟩:=q
 simp only at e2 JW ht h ⊢
 subst e2
 have RE:=yF ht.2 h
 unfold entB
 simp only
 rw[rL hb,List.append_assoc,List.append_assoc,←RE,←JW]
 exact hd
theorem M4 (l:List EntL) (x:EntL):bE (l++ [x])=bE l++entB x:=by unfold bE;simp
theorem MK {s:List UInt8}: ∀ (n a:Nat) (e:Int) (l:List EntL),a≤s.length→(e=0→s=bE l++s.drop a)→((ig s n a e l).2.2=0→s=bE (ig s n a e l).1++s.drop (ig s n a e l).2.1)
 |0,_,_,_,_,h=>h
 |n+1,a,e,l,ha,h=>by
  by_cases hc:e=0∧a<s.length
  ·rw[xg hc]
   refine MK n _ _ _ (o9 ha).2 fun h0=> ?_
   obtain⟨rfl,-⟩:=hc
   rw[M4,List.append_assoc,←BG ha h0]
   exact h rfl
  ·rw[xU hc]
   exact h
theorem yG {s:List UInt8} {a:Nat} {e:Int} (h:cy s a e=0):e=0∧s.length≤a:=by
 unfold cy at h
 split at h
 ·rename_i he;exact absurd h he
 ·rename_i he
  split at h
  ·exact absurd h (by decide)
  ·exact⟨Decidable.byContradiction he,by omega⟩
theorem AX {s:List UInt8} (h:cy s (cL s).2.1 (cL s).2.2=0):bE (cL s).1=s:=by
 obtain⟨h1,h2⟩:=yG h
 have:=MK (s:=s) (s.length+1) 0 0 [] (Nat.zero_le _) (fun _=>by simp[bE]) h1
 rw[show ig s (s.length+1) 0 0 []=cL s from rfl,List.drop_eq_nil_of_le h2,List.append_nil] at this
 exact this.symm
theorem Kk {s:List UInt8}: ∀ (n a:Nat) (e:Int) (l:List EntL),a≤s.length→(e=0→s.length<a+n)→(ig s n a e l).2.2=0→s.length≤ (ig s n a e l).2.1
 |0,a,e,l,ha,hf,h=>by have:=hf h;show s.length≤a;omega
 |n+1,a,e,l,ha,hf,h=>by
  by_cases hc:e=0∧a<s.length
  ·rw[xg hc] at h ⊢
   refine Kk n _ _ _ (o9 ha).2 (fun h0=> ?_) h
   obtain⟨rfl,-⟩:=hc
   have:=sJ ha h0
   have:=hf rfl
   omega
  ·rw[xU hc] at h ⊢
   have h':e=0:=h
   exact Decidable.byContradiction fun hn=>hc ⟨h',by have g6: ¬s.length≤a:=hn;omega⟩
theorem Lo (s:List UInt8): (cy s (cL s).2.1 (cL s).2.2=0)↔(cL s).2.2=0:=by
 refine⟨fun h=>(yG h).1,fun h=> ?_⟩
 have:=Kk (s:=s) (s.length+1) 0 0 [] (Nat.zero_le _) (fun _=>by omega) h
 have h2:s.length≤ (cL s).2.1:=this
 unfold cy
 rw[if_neg (by simp[h]),if_neg (by omega)]
theorem DZ (l:List IdL) (x:IdL):idsB (l++ [x])=idsB l++x.l:=by unfold idsB;simp
theorem Ki {s:List UInt8} {a:Nat} (ha:a≤s.length): ∀n,(ag s a 0 n).2.2=0→s.drop a=idsB (ag s a 0 n).1++s.drop (ag s a 0 n).2.1
 |0,_=>by simp[ag,idsB]
 |n+1,h=>by
  unfold ag at h ⊢
  simp only at h ⊢
  have e1: (ag s a 0 n).2.2=0:=Decidable.byContradiction fun hn=>by rw[kA hn] at h;exact hn h
  have ih:=Ki ha n e1
  have hl:=rY (e:=0) ha n
  generalize ag s a 0 n=p at*
  obtain⟨p1,p2,p3⟩:=p
  simp only at e1 ih hl h ⊢
  subst e1
  rw[DZ,List.append_assoc,←yF hl h]
  exact ih
theorem sc {s:List UInt8} {a:Nat} {e:Int} (he:e≠0): ∀n,(ag s a e n).2=(a,e)
 |0=>rfl
 |n+1=>by
  have ih:=sc (s:=s) (a:=a) he n
  unfold ag
  simp only
  rw[ih,kA he]
theorem BT {s:List UInt8} (h:cy s (bY s).2.1 (bY s).2.2=0):comB (bY s).1=s:=by
 obtain⟨h1,h2⟩:=yG h
 have ip:=qH (s:=s) (a:=0) (e:=0) (Nat.zero_le _)
 have np:=jz (e:=(idR s 0 0).2.2) (most:=4) ip.2
 unfold bY at h1 h2 ⊢
 simp only at h1 h2 ⊢
 have e3: (cZ s).2.2=0:=Decidable.byContradiction fun hn=>by unfold comT at h1;rw[wT hn] at h1;exact hn h1
 have e2: (comN s).2.2=0:=Decidable.byContradiction fun hn=>by unfold cZ at e3;rw[sc hn] at e3;exact hn e3
 have e1: (idR s 0 0).2.2=0:=Decidable.byContradiction fun hn=>by unfold comN at e2;rw[sr hn] at e2;exact hn e2
 have d1:=yF (Nat.zero_le _) e1
 rw[e1] at np
 have ws:comN s=aW s (idR s 0 0).2.1 0 4:=by unfold comN;rw[e1]
 rw[ws] at e2
 obtain⟨n,hn,hb,-,d2⟩:=yo e2
 have uC:cZ s=ag s (comN s).2.1 0 n:=by unfold cZ;rw[ws,e2,hn,Int.toNat_natCast]
 have hp: (comN s).2.1≤s.length:=by rw[ws];exact np.2
 rw[uC] at e3
 have d3:=Ki hp n e3
 have g7: (cZ s).1.length=n:=by rw[uC,vP]
 have wt:comT s=bC s (cZ s).2.1 0 64:=by unfold comT;rw[uC,e3]
 have eN: (cZ s).2.1≤s.length:=by rw[uC];exact rY hp n
 rw[wt] at h1
 obtain⟨-,d4⟩:=Ko eN h1
 rw[←wt] at d4
 rw[←uC] at d3
 rw[←ws] at d2
 unfold comB i4
 simp only
 rw[g7,rL hb]
 rw[List.drop_eq_nil_of_le h2,List.append_nil] at d4
 rw[List.append_assoc,List.append_assoc,←d4,←d3,←d2,←d1]
 rfl
theorem ux (k:Int) (t:List UInt8):bN k t=nx k t:=by
 unfold bN nx
 by_cases h4:4096<t.length
 ·rw[if_neg (by omega),if_pos h4]
 ·rw[if_neg h4]
  by_cases h2:k=2
  ·subst h2
   rw[if_pos (by omega),if_neg (by decide),if_pos rfl,if_pos rfl]
   unfold lW
   by_cases hz:cy t (cL t).2.1 (cL t).2.2=0
   ·have:=AX hz
    have h1:=(Lo t).1 hz
    rw[hz]
    cases ho:dr (cL t).1
    ·rw[if_neg (fun h=>by cases h.2.1)];rfl
    ·rw[if_pos ⟨h1,rfl,this⟩];rfl
   ·have h': ¬ (cL t).2.2=0:=fun h=>hz ((Lo t).2 h)
    simp[hz,h']
  ·by_cases h3:k=3
   ·subst h3
    rw[if_pos (by omega),if_neg (by decide),if_neg (by decide),if_neg (by decide),if_pos rfl]
    unfold lT
    by_cases hz:cy t (bY t).2.1 (bY t).2.2=0
    ·have:=BT hz
     cases ho:ga (bY t).1<;>simp[hz,this]
    ·simp[hz]
   ·rw[if_neg h2,if_neg h3]
    by_cases h1:k=1
    ·subst h1
     rw[if_pos (by omega)];rfl
    ·rw[if_neg (by omega)]
     simp[h1,h2]
theorem zl (most:Int) (r:List UInt8): ∀ (n k acc:Nat),(0<k→0<n)→k+ (cR n).length≤6→acc+n*128^k≤1099511627775→((acc+n*128^k:Nat):Int)≤most→
  b9 most (cR n++r) k acc= .ok (acc+n*128^k,k+ (cR n).length):=by
 intro n
 induction n using Nat.strongRecOn with
 |ind n ih=>
  intro k acc hk hl hs hm
  by_cases h:n<128
  ·rw[mf h,List.cons_append,List.nil_append,b9]
   have hc: (UInt8.ofNat n).toNat=n:=by rw[UInt8.toNat_ofNat'];omega
   rw[hc,Nat.mod_eq_of_lt h,if_neg (by omega),if_neg (by omega),if_pos ⟨hs,hm⟩]
   rfl
  ·have hb:=pz h
   rw[hb] at hl ⊢
   rw[List.cons_append,b9]
   have hc: (UInt8.ofNat (n%128+128)).toNat=n%128+128:=by rw[UInt8.toNat_ofNat'];omega
   have hp:=EF (n / 128)
   rw[List.length_cons] at hl
   have e:acc+ (n%128+128)%128*128^k+n / 128*128^ (k+1)=acc+n*128^k:=by
    have h1: (n%128+128)%128=n%128:=by omega
    rw[h1,Nat.pow_succ,Nat.add_assoc]
    congr 1
    have h2:n / 128* (128^k*128)=(n / 128*128)*128^k:=by rw[Nat.mul_comm (128^k),Nat.mul_assoc]
    rw[h2,←Nat.add_mul]
    congr 1
    omega
   rw[hc,if_pos (by omega),if_neg (by omega),ih (n / 128) (by omega) (k+1) _ (fun _=>by omega) (by omega) (by rw[e];exact hs) (by rw[e];exact hm),e,List.length_cons]
   congr 2
   omega
theorem LW (A r:List UInt8) (n:Nat) (most:Int) (hn:n≤1099511627775) (hm: (n:Int)≤most):aW (A++ (cR n++r)) A.length 0 most=((n:Int),A.length+ (cR n).length,0):=by
 have hl:=vo 6 n (by omega) (by omega)
 have h:=zl most r n 0 0 (fun h=>absurd h (Nat.lt_irrefl 0)) (by omega) (by simpa using hn) (by simpa using hm)
 simp only[Nat.pow_zero,Nat.mul_one,Nat.zero_add] at h
 exact rN rfl (by rw[List.drop_left];exact h)
theorem Ls (A x r:List UInt8):ci (A++ (x++r)) A.length 0 (x.length:Int)=(x,A.length+x.length,0):=by
 unfold ci
 rw[if_neg (by simp),if_neg (by omega),if_neg (by simp only[List.length_append];omega),List.drop_left,Int.toNat_natCast,List.take_left]
theorem CR (A t r:List UInt8) (most:Int) (hn:t.length≤1099511627775) (hm: (t.length:Int)≤most):bC (A++ (dH t++r)) A.length 0 most=(t,A.length+ (dH t).length,0):=by
 have h1:=LW A (t++r) t.length most hn hm
 have h2:=Ls (A++cR t.length) t r
 unfold bC dH
 rw[rL (by omega)]
 rw[List.append_assoc,h1]
 simp only
 rw[List.append_assoc,List.length_append] at h2
 rw[h2]
 simp only[ne_eq,not_true_eq_false, ↓reduceIte,List.length_append,Nat.add_assoc]
theorem GP (A r:List UInt8) (i:IdL):idR (A++ (i.l++r)) A.length 0=(i.l,A.length+32,0):=by
 have h:=Ls A i.l r
 have hi:=i.h
 rw[hi] at h
 unfold idR
 rw[show(32:Int)=((32:Nat):Int) from rfl,h]
 simp only[hi, ↓reduceIte]
theorem I0 (i:IdL):gJ i.l=i:=by unfold gJ;rw[dif_pos i.h]
theorem Ey (A r:List UInt8) (x:EntL) (hk:0≤x.kind∧x.kind≤2) (hn:x.name.length≤32):eK (A++ (entB x++r)) A.length 0=(x,A.length+ (entB x).length,0):=by
 obtain⟨nm,kd,id⟩:=x
 simp only at hk hn
 obtain⟨k,rfl⟩:=Int.eq_ofNat_of_zero_le hk.1
 have h1:=LW A (dH nm++ (id.l++r)) k 2 (by omega) hk.2
 have h2:=CR (A++cR k) nm (id.l++r) 32 (by omega) (by omega)
 have h3:=GP (A++cR k++dH nm) r id
 unfold eK entB
 simp only
 rw[rL (by omega)]
 simp only[List.append_assoc,List.length_append] at h1 h2 h3 ⊢
 rw[h1]
 simp only
 rw[h2]
 simp only[Nat.add_assoc] at h3 ⊢
 rw[h3]
 simp only[I0,id.h,Nat.add_assoc]
def Lb (l:List EntL):Prop:= ∀x,x∈l→0≤x.kind∧x.kind≤2∧x.name.length≤32
theorem Fg (x:EntL):0< (entB x).length:=by
 unfold entB
 simp only[List.length_append]
 have:=x.id.h
 omega
theorem Kt (x:EntL) (l:List EntL):bE (x::l)=entB x++bE l:=by unfold bE;simp
theorem L0: ∀ (l A:List EntL) (n:Nat),Lb l→(bE l).length<n→ig (bE A++bE l) n (bE A).length 0 A=(A++l,(bE A++bE l).length,0)
 | [],A,n,_,hn=>by
  rw[xU (fun h=>by have:=h.2;simp[bE] at this)]
  simp[bE]
 |x::l,A,n,hs,hn=>by
  obtain⟨m,rfl⟩: ∃m,n=m+1:=⟨n - 1,by omega⟩
  have hx:=hs x List.mem_cons_self
  have hp:=Fg x
  rw[Kt] at hn ⊢
  rw[List.length_append] at hn
  rw[xg ⟨rfl,by simp only[List.length_append];omega⟩,Ey _ _ _ ⟨hx.1,hx.2.1⟩ hx.2.2]
  simp only
  have ih:=L0 l (A++ [x]) m (fun y hy=>hs y (List.mem_cons_of_mem _ hy)) (by omega)
  rw[M4,List.append_assoc,List.length_append,List.append_assoc] at ih
  exact ih
theorem Kn {l:List EntL} (h:Lb l):cL (bE l)=(l,(bE l).length,0):=by
 have h1:=L0 l [] ((bE l).length+1) h (by omega)
 rw[show bE []= [] from rfl,List.nil_append,List.nil_append,List.length_nil] at h1
 exact h1
theorem xl {l:List EntL} (h:dr l=true):l.length≤32∧ ∀x,x∈l→(x.kind=1∨x.kind=2)∧x.name.length≤32:=by
 unfold dr at h
 simp only[Bool.and_eq_true,decide_eq_true_eq,List.all_eq_true,List.mem_range] at h
 refine⟨h.1,fun x hx=> ?_⟩
 obtain⟨i,hi,rfl⟩:=List.getElem_of_mem hx
 have h2:=h.2 i hi
 unfold cm lU at h2
 rw[List.getD_eq_getElem?_getD,List.getElem?_eq_getElem hi,Option.getD_some] at h2
 simp only[Bool.and_eq_true,Bool.or_eq_true,decide_eq_true_eq,beq_iff_eq] at h2
 exact⟨h2.1.2,h2.1.1.1.2⟩
theorem Lh {n:Nat} (h:n<128): (cR n).length=1:=by rw[mf h];rfl
theorem LC: ∀ {l:List EntL},(∀x,x∈l→(x.kind=1∨x.kind=2)∧x.name.length≤32)→(bE l).length≤l.length*66
 | [],_=>by simp[bE]
 |x::l,h=>by
  have ih:=LC (l:=l) fun y hy=>h y (List.mem_cons_of_mem _ hy)
  have hx:=h x List.mem_cons_self
  have h1: (cR (dI x.kind)).length=1:=by
   rcases hx.1 with e|e<;>rw[e]<;>exact Lh (by decide)
  have h2: (dH x.name).length≤33:=by
   unfold dH
   rw[rL (by omega),List.length_append,Lh (by omega)]
   omega
  have h3:=x.id.h
  rw[Kt,List.length_append,List.length_cons]
  unfold entB
  simp only[List.length_append]
  omega
theorem LN {l:List EntL} (h:dr l=true):bN 2 (bE l)=true:=by
 have hs:=xl h
 have hl:=LC hs.2
 have he:cL (bE l)=(l,(bE l).length,0):=Kn fun x hx=>by
  have:=hs.2 x hx
  omega
 unfold bN
 rw[if_pos (by omega),if_neg (by decide),if_pos rfl,he]
 simp only[cy,h]
 simp
end Go.Proofs
end
section
open Go Go.Proofs Go.Sx Go.StP
namespace Go.Proofs
set_option maxRecDepth 10000
set_option maxHeartbeats 400000
set_option linter.unusedSimpArgs false
set_option linter.defProp false
end Go.Proofs
end
section
open Go Go.Proofs Go.Sx Go.StP
namespace Go.Proofs
set_option maxRecDepth 10000
set_option maxHeartbeats 400000
set_option linter.unusedSimpArgs false
set_option linter.defProp false
end Go.Proofs
end
section
open Go Go.Proofs Go.Sx Go.StP
namespace Go.Proofs
set_option maxRecDepth 10000
set_option maxHeartbeats 400000
set_option linter.unusedSimpArgs false
structure ChildL where
 id:IdL
 kind:Int
def aB (r:ChildL):List Value:=r.id.l.map v8++ ([vi r.kind])
def chd0:ChildL:=⟨id0,0⟩
theorem bU (r:ChildL): (aB r).length=33:=by simp[aB,r.id.h]
theorem fj (r:ChildL):Value.cells (.agg (aB r).toArray)=(aB r).toArray:=aU _
theorem iQ (r:ChildL): (aB r).all Value.oneCell'=true:=by
 unfold aB
 simp only[List.all_append,List.all_cons,List.all_nil,n7,Bool.and_true,Bool.true_and]
 rfl
theorem d_:aw Tryz.prog 59=some (.agg (aB chd0).toArray):=id (by kernel_rfl)
theorem fK:aF Tryz.prog 59=some (true,33):=id (by kernel_rfl)
theorem sU (r:ChildL):aB r=([]:List Value)++ ((r.id.l.map v8)++ ([vi r.kind])):=by
 unfold aB;simp only[List.append_assoc,List.nil_append,List.append_nil]
theorem tI (r:ChildL):Sx.partV (true,32) (aB r).toArray 0=some (Value.agg (a8 r.id.l)):=by
 rw[sU,Fm _ _ _ (by simp) (by simp[r.id.h])];rfl
theorem qs (r:ChildL) (E:TypeId) (fz:Nat×Nat):aS (some (true,32)) (some (.cells (aB r).toArray E fz)) 0=some (Value.agg (a8 r.id.l)):=by
 rw[sU,mr _ _ _ E fz (by simp) (by simp[r.id.h])];rfl
theorem sj (r:ChildL):aB r=((r.id.l.map v8))++ (([vi r.kind])++ (([]:List Value))):=by
 unfold aB;simp only[List.append_assoc,List.nil_append,List.append_nil]
theorem tA (r:ChildL):Sx.partV (false,1) (aB r).toArray 32=some (vi r.kind):=by
 rw[sj];exact GX _ _ _ (by simp[r.id.h])
theorem q_ (r:ChildL) (n:Nat) (E:TypeId) (fz:Nat×Nat):aS (some (false,n)) (some (.cells (aB r).toArray E fz)) 32=some (vi r.kind):=by
 rw[sj];exact my _ _ _ n E fz (by simp[r.id.h])
theorem rE (r:ChildL) (E:TypeId) (fz:Nat×Nat):aS (some (true,33)) (some (.cells (aB r).toArray E fz)) 0=some (.agg (aB r).toArray):=rF _ E fz 33 (by rw[List.size_toArray,bU])
theorem CF (old:Array Value) (r:ChildL) (a:Bool) (E:TypeId) (h:old.size=33):aZ (some (a,33)) (some (.cells old E (0,0))) 0 (.agg (aB r).toArray)=some (.cells (aB r).toArray E (0,0)):=KY _ a old E (bU r) (iQ r) h
theorem rM (r r':ChildL) (a:Bool) (E:TypeId):aZ (some (a,33)) (some (.cells (aB r').toArray E (0,0))) 0 (.agg (aB r).toArray)=some (.cells (aB r).toArray E (0,0)):=CF _ r a E (by rw[List.size_toArray,bU])
theorem HY {w:World} {v:Value} {l:List ChildL} {b off:Nat} {arr:Array Value} {E:TypeId} {fz:Nat×Nat} (h:RowS 33 aB chd0 w v l b off arr E fz) {k:Nat} (hk:k<l.length):aS (some (true,33)) (some (.cells arr E fz)) (off+k*33)=some (.agg (aB (l.getD k chd0)).toArray):=RowS.load h bU (by omega) hk
theorem GM:Tryz.prog.stoodInHeld 59=false:=by kernel_rfl
theorem Fj:Tryz.prog.eqGuardType Tryz.prog.depth 59=false:=by kernel_rfl
theorem sz (r r':ChildL):eqD Tryz.prog 8 59 (.agg (aB r).toArray) (.agg (aB r').toArray)=some ((r.id.l==r'.id.l)&& (r.kind==r'.kind)):=by
 have hd: ∀ (a b:IdL),eqD Tryz.prog 7 24 (.agg (a8 a.l)) (.agg (a8 b.l))=some (a.l==b.l):=fun a b=>lp (d:=5) Tryz.underlying24 Tryz.underlying5 Tryz.ag5 _ _ a.h b.h
 have hi: ∀ (a b:Int),eqD Tryz.prog 7 3 (vi a) (vi b)=some (a==b):=by
  intro a b;unfold eqD;rw[Tryz.underlying3];rfl
 have agd:aF Tryz.prog 24=some (true,32):=id (by kernel_rfl)
 have agi:aF Tryz.prog 3=some (false,1):=id (by kernel_rfl)
 unfold eqD
 rw[Tryz.underlying59]
 simp only
 rw[GM]
 simp only[Bool.false_eq_true, ↓reduceIte,r8,mn,agd,agi,tI,tA,hd,hi]
 cases(r.id.l==r'.id.l)<;>cases(r.kind==r'.kind)<;>simp
theorem Im (r r':ChildL):aj Tryz.prog .eql 59 (.agg (aB r).toArray) (.agg (aB r').toArray)=some (.bool ((r.id.l==r'.id.l)&& (r.kind==r'.kind))):=by
 unfold aj eqX;rw[Fj];simp[er,sz]
theorem qx (r:ChildL):eP (dK Tryz.prog 59) (aw Tryz.prog 59) [(0,Value.agg (a8 r.id.l)),(1,vi r.kind)]=some (.agg (aB r).toArray):=by
 have hp:dK Tryz.prog 59=some [(0,32),(32,1)]:=id (by kernel_rfl)
 rw[hp,d_]
 have e0: (aB chd0).toArray=(([]:List Value)++ ((chd0.id.l.map v8)++ ([vi chd0.kind]))).toArray:=by congr 1<;>simp only[aB,List.append_assoc,List.nil_append,List.append_nil]
 have q0:bQ (([]:List Value)++ ((chd0.id.l.map v8)++ ([vi chd0.kind]))).toArray 0 (r.id.l.map v8)=(([]:List Value)++ ((r.id.l.map v8)++ ([vi chd0.kind]))).toArray:=qJ _ _ _ _ (by simp) (by simp[chd0.id.h,r.id.h])
 have s0: (([]:List Value)++ ((chd0.id.l.map v8)++ ([vi chd0.kind]))).toArray.size=33:=by simp[r.id.h,chd0.id.h]
 have z0: (Value.cells (Value.agg (a8 r.id.l))).toList=r.id.l.map v8:=by rw[aU];rfl
 have y0: (Value.cells (Value.agg (a8 r.id.l))).size=32:=by rw[←Array.length_toList,z0];simp[r.id.h]
 have e1: (([]:List Value)++ ((r.id.l.map v8)++ ([vi chd0.kind]))).toArray=(((r.id.l.map v8))++ (([vi chd0.kind])++ (([]:List Value)))).toArray:=by congr 1<;>simp only[aB,List.append_assoc,List.nil_append,List.append_nil]
 have q1:bQ (((r.id.l.map v8))++ (([vi chd0.kind])++ (([]:List Value)))).toArray 32 ([vi r.kind])=(((r.id.l.map v8))++ (([vi r.kind])++ (([]:List Value)))).toArray:=qJ _ _ _ _ (by simp[r.id.h]) (rfl)
 have s1: (((r.id.l.map v8))++ (([vi chd0.kind])++ (([]:List Value)))).toArray.size=33:=by simp[r.id.h,chd0.id.h]
 have z1: (Value.cells (vi r.kind)).toList= [vi r.kind]:=by rfl
 have y1: (Value.cells (vi r.kind)).size=1:=by rw[←Array.length_toList,z1];simp
 have e2: (((r.id.l.map v8))++ (([vi r.kind])++ (([]:List Value)))).toArray=(aB r).toArray:=by congr 1<;>simp only[aB,List.append_assoc,List.nil_append,List.append_nil]
 simp only[eP]
 rw[e0]
 unfold Sx.fillV
 simp only[List.getElem?_cons_zero,List.getElem?_cons_succ,z0,y0]
 rw[if_pos ⟨trivial,by rw[s0];decide⟩,q0]
 rw[e1]
 unfold Sx.fillV
 simp only[List.getElem?_cons_zero,List.getElem?_cons_succ,z1,y1]
 rw[if_pos ⟨trivial,by rw[s1];decide⟩,q1]
 rw[e2];rfl
def dA (e:EntL):ChildL:=⟨e.id,e.kind⟩
def cS (i:IdL):ChildL:=⟨i,3⟩
def eO (k:Int) (t:List UInt8):List ChildL:=
 if bN k t then(if k=2 then(cL t).1.map dA else if k=3 then⟨(bY t).1.tree,2⟩:: (bY t).1.par.map cS else []) else []
theorem Gr.rows {α:Type} {L:a6} {E:TypeId} {m:Nat} {v:Value} {enc:α→List Value} {l:List α} (h:Gr L E m v l.length (l.map enc).flatten) (h0:0<l.length): ∃b c rest,v=vsl b 0 l.length c∧Sx.look L b=some (rowO enc E rest l):=by
 rcases h with h| ⟨h,-⟩
 ·rcases h.inv with⟨-,h,-⟩ | ⟨b,c,rest,hv,hl,-⟩
  ·omega
  ·exact⟨b,c,rest,hv,hl⟩
 ·omega
abbrev idRO (rest:List Value) (l:List IdL):Obj:=rowO aJ 24 rest l
theorem Li {rest:List Value} {l:List IdL} (k:Nat) (hk:k<l.length):aS (some (true,32)) (some (idRO rest l)) (k*32)=some (.agg (a8 (l.getD k id0).l)):=by
 have:=yP (z:=id0) (E:=24) (rest:=rest) (qF) k hk
 rw[this,←qL]
def SepK (b:Nat) (D E:a6):Prop:= ∀c,c∈keys E→b<c∧ ∀d,d∈keys D→d<c
theorem SepK.nil {b:Nat} {D:a6}:SepK b D []:=fun c hc=>by cases hc
theorem SepK.cons {b c:Nat} {o:Obj} {D E:a6} (h:SepK b D E) (h1:b<c) (h2: ∀d,d∈keys D→d<c):SepK b D ((c,o)::E):=fun x hx=>by
 simp only[keys,List.map_cons,List.mem_cons] at hx
 rcases hx with rfl|hx
 ·exact⟨h1,h2⟩
 ·exact h x hx
theorem SepK.app {b:Nat} {D E F:a6} (h:SepK b D E) (h2:SepK b D F):SepK b D (E++F):=fun x hx=>by
 rw[aT,List.mem_append] at hx
 rcases hx with hx|hx
 ·exact h x hx
 ·exact h2 x hx
theorem SepK.grow {b B:Nat} {D E F:a6} (h:SepK b D E) (hk: ∀c,c∈keys F→c∈keys E∨B≤c) (h1:b<B) (h2: ∀d,d∈keys D→d<B):SepK b D F:=fun x hx=>by
 rcases hk x hx with h'|h'
 ·exact h x h'
 ·exact⟨by omega,fun d hd=>by have:=h2 d hd;omega⟩
theorem SepK.look {b:Nat} {D E:a6} {c:Nat} {o x:Obj} (h:SepK b D E) (hl:Sx.look E c=some o):Sx.look ((b,x):: (D++E)) c=some o:=by
 have:=h c (cE hl)
 rw[ii _ _ _ _ (by omega),gN (fun hm=>by have:=this.2 c hm;omega)]
 exact hl
theorem ET (r v:Value) (t:IdL) (p:Value) (y:List UInt8) (E:TypeId) (fz:Nat×Nat):aS (some (true,32)) (some (.cells (roC r v t p y).toArray E fz)) 2=some (.agg (a8 t.l)):=by
 have e:roC r v t p y= [r,v]++ (t.l.map v8++ ([p]++ [vs y])):=by unfold roC aY;simp
 rw[e];exact mr [r,v] _ _ E fz rfl (by simp[t.h])
structure ChG where
 g:Nat
 v:Value
 D:a6
theorem xm {α β:Type} (f:α→β) (z:α) {l:List α} {k:Nat} (hk:k<l.length): (l.take (k+1)).map f=(l.take k).map f++ [f (l.getD k z)]:=by
 rw[List.take_succ_eq_append_getElem hk,List.map_append,List.getD_eq_getElem?_getD,List.getElem?_eq_getElem hk];rfl
theorem Gr.snoc {α:Type} {L:a6} {E:TypeId} {m n:Nat} {v:Value} {enc:α→List Value} {l:List α} {x:α} (hn:n=l.length) (h:Buf L E m v (n+1) ((l.map enc).flatten++enc x)):Gr L E m v (l++ [x]).length ((l++ [x]).map enc).flatten:=by
 subst hn
 rw[List.length_append,List.map_append,List.flatten_append,show([x].map enc).flatten=enc x by simp]
 exact .inl h
set_option linter.defProp false
def cA:=And.intro (And.intro (And.intro (And.intro (@gB) (@gZ)) (And.intro (@gY) (And.intro (@gX) (@Sx.tup2_0)))) (And.intro (And.intro (@Sx.tup2_1) (@yE)) (And.intro (@y7) (And.intro (@y9) (@ET))))) (And.intro (And.intro (And.intro (@yJ) (@qA)) (And.intro (@qy) (And.intro (@r6) (@j0)))) (And.intro (And.intro (@iR) (@gM)) (And.intro (@jO) (And.intro (@cP) (@cO)))))
theorem Nj (k:Int) (t:List UInt8) (w:World):Rets Tryz.prog 32 #[obV k t] w (XS w [] (fun v D=>Gr D 59 33 v (eO k t).length ((eO k t).map aB).flatten)):=by
 refine Rets.enterX Tryz.func32 rfl (rs:= [.tmp 2]) Tryz.results32 Tryz.ntmps32 (fun p hp=>by cases hp) (by simp[keys]) ?_
 refine kf ?_
 first|with_reducible refine ks [] @cA ?_|refine kp @cA ?_
 refine Ow.box rfl rfl fun b1 bJ aG=> ?_
 simp only[bp,bj,cJ,aU,List.nil_append]
 refine ko @cA ?_
 refine Ow.callC rfl rfl Tryz.call76 (fun w' a7=>Ku k t w') (fun B v D hA hB hN hS=> ?_)
 obtain⟨p,rfl,hS⟩:=hS
 obtain⟨MY,-⟩:=hA
 have kF:New w.heap.size ((b1,Obj.cells #[vi k,vs t] 35 (0,0))::D):=⟨aG,New.mono hB hN⟩
 cases hr:bN k t
 ·refine ko @cA ?_
  first|with_reducible refine ks [] @cA ?_|refine kp @cA ?_
  refine⟨_,(ke @cA), ?_⟩
  refine⟨Ext.of_new kF, ?_⟩
  unfold eO
  rw[hr]
  exact Gr.nl
 ·obtain⟨bo,bw,v1,c1,x1,y1,rfl,b_,iG,RK,ww⟩:=hS (q9 hr)
  have lD:=hN.le bo (cE b_)
  have Rq:b1≠bo:=by omega
  obtain⟨l,nB,kP,N8,Js⟩: ∃l:List EntL,Gr D 117 34 v1 l.length (l.map aD).flatten∧(k=2→l=(cL t).1)∧(k≠2→l= [])∧l.length≤32:=by
   by_cases h2:k=2
   ·refine⟨(cL t).1,iG h2,fun _=>rfl,fun h=>absurd h2 h, ?_⟩
    subst h2
    have:=hr
    unfold bN at this
    rw[if_pos (q9 hr),if_neg (by decide),if_pos rfl] at this
    simp only[Bool.and_eq_true] at this
    exact(xl this.2).1
   ·exact⟨[],by rw[ww h2];exact Gr.nl,fun h=>absurd h h2,fun _=>rfl,Nat.zero_le _⟩
  have ln1:=nB.len
  have rdo: ∀M,aO w (D++M) bo=some (.cells (roC (vp bw 0) v1 c1 x1 y1).toArray 142 (0,0)):=fun M=>ah (bB b_)
  have rdo0:aO w D bo=some (.cells (roC (vp bw 0) v1 c1 x1 y1).toArray 142 (0,0)):=ah b_
  refine ko @cA ?_
  first|with_reducible refine ks [] (And.intro @cA (And.intro @rdo0 (@ln1))) ?_|refine kp (And.intro @cA (And.intro @rdo0 (@ln1))) ?_
  refine Cw.permL (M:=(b1,Obj.cells #[vi k,vs t] 35 (0,0)):: (D++ [])) (by rw[List.append_nil]) ?_
  refine Cw.loopG (G:=ChG) [23,24,25,7,26,27,28,29,30,31,32,33,5,34,22] (fun q=> [(5,q.v),(22,vi q.g)]) (fun q=>(b1,Obj.cells #[vi k,vs t] 35 (0,0)):: (D++q.D)) (fun q=>q.g≤l.length∧New w.heap.size q.D∧SepK b1 D q.D∧Gr q.D 59 33 q.v ((l.take q.g).map dA).length (((l.take q.g).map dA).map aB).flatten) (fun q=>l.length - q.g) ⟨0, .slice none 0 0,[]⟩ rfl rfl ?_ ?_
  ·exact⟨Nat.zero_le _,trivial,SepK.nil,Gr.nl⟩
  ·intro q jq hq
   refine kv ?_
   obtain⟨g,v,D2⟩:=q
   simp only at hq ⊢
   obtain⟨uL,cw,jA,hG⟩:=hq
   by_cases aC:g<l.length
   ·obtain⟨c,cc,rest,rfl,kQ⟩:=Gr.rows nB (by omega)
    have wu:=hN.le c (cE kQ)
    have cF:b1≠c:=by omega
    have rdc: ∀M,aO w (D++M) c=some (cI rest l):=fun M=>ah (bB kQ)
    have ldc:=ns (rest:=rest) g aC
    have iu:=xm dA ent0 aC
    have iL: ((l.take g).map dA).length=g:=by rw[List.length_map,List.length_take];omega
    generalize hx:l.getD g ent0=x at ldc iu
    first|with_reducible refine ks [] (And.intro @cA (And.intro @rdc (@ldc))) ?_|refine kp (And.intro @cA (And.intro @rdc (@ldc))) ?_
    refine Ow.alloc rfl rfl gg fun b7 jg ma=> ?_
    simp only[aU,List.nil_append,List.cons_append]
    have ou:b1<b7:=aP jg (by simp[keys])
    refine Ow.permL (M:=(b7,Obj.cells (aD ent0).toArray 117 (0,0)):: (b1,Obj.cells #[vi k,vs t] 35 (0,0)):: (D++D2)) (by classical exact List.perm_iff_count.2 fun a=>by simp only[List.count_append,List.count_cons,List.count_nil]<;>omega) ?_
    refine ko @cA ?_
    first|with_reducible refine ks [] @cA ?_|refine kp @cA ?_
    refine Ow.build (.agg (aB (dA x)).toArray) rfl (qx (dA x)) ?_
    refine ko @cA ?_
    refine Ow.buildSlice (e:=59) (aB (dA x)).toArray rfl rfl (gw Tryz.underlying44 fK d_ (by decide) (bU _)) fun b13 bz dp=> ?_
    refine Ow.permL (M:=D2++ ((b7,Obj.cells (aD x).toArray 117 (0,0)):: (b13,Obj.cells (aB (dA x)).toArray 59 (0,0)):: (b1,Obj.cells #[vi k,vs t] 35 (0,0))::D)) (by classical exact List.perm_iff_count.2 fun a=>by simp only[List.count_append,List.count_cons,List.count_nil]<;>omega) ?_
    refine ko @cA ?_
    refine Ow.appendX (e:=59) (k:=1) (new:=aB (dA x)) (X:=D2) v rfl rfl rfl rfl Tryz.underlying44 fK (by kernel_rfl) d_ (by rw[fj,List.size_toArray,bU]) Tryz.underlying44 (by intro k h;cases h) hG (fun w' a7=>AppX.one1 (a7.has b13 (.cells (aB (dA x)).toArray 59 (0,0)) (by simp)) (bU _) (iQ _)) (by omega) (by rw[iL];omega) (fun B2 v4 D4 dv eL bh bk ap jG=> ?_)
    have cq:New w.heap.size D4:=New.of_le fun q hq=>by
     rcases ap q hq with h|h
     ·exact cw.le q h
     ·omega
    have eX:SepK b1 D (D4++ [(b7,Obj.cells (aD x).toArray 117 (0,0)),(b13,Obj.cells (aB (dA x)).toArray 59 (0,0))]):=by
     refine(jA.grow ap (aP dv (by simp[aT,keys])) fun d hd=>aP dv (by simp only[keys,List.map_cons,List.map_nil,List.map_append,List.mem_cons,List.mem_append] at hd ⊢;simp[hd])).app ?_
     exact(SepK.nil.cons (aP bz (by simp[keys])) fun d hd=>aP bz (by simp only[keys,List.map_cons,List.map_nil,List.map_append,List.mem_cons,List.mem_append] at hd ⊢;simp[hd])).cons ou fun d hd=>aP jg (by simp only[keys,List.map_cons,List.map_nil,List.map_append,List.mem_cons,List.mem_append] at hd ⊢;simp[hd])
    refine Ow.permL (M:=(b1,Obj.cells #[vi k,vs t] 35 (0,0)):: (D++ (D4++ [(b7,Obj.cells (aD x).toArray 117 (0,0)),(b13,Obj.cells (aB (dA x)).toArray 59 (0,0))]))) (by classical exact List.perm_iff_count.2 fun a=>by simp only[List.count_append,List.count_cons,List.count_nil]<;>omega) ?_
    refine ko @cA ?_
    first|with_reducible refine ks [] @cA ?_|refine kp @cA ?_
    refine Again.mk (ChG.mk (g+1) v4 (D4++ [(b7,Obj.cells (aD x).toArray 117 (0,0)),(b13,Obj.cells (aB (dA x)).toArray 59 (0,0))])) (by show l.length - (g+1)<l.length - g;omega) ⟨by show g+1≤l.length;omega,cq.app ⟨ma,dp,trivial⟩,eX, ?_⟩ rfl rfl
    show Gr _ _ _ _ ((l.take (g+1)).map dA).length (((l.take (g+1)).map dA).map aB).flatten
    rw[iu]
    exact Gr.app (Gr.snoc rfl bh)
   ·obtain rfl:g=l.length:=by omega
    rw[List.take_length] at hG
    by_cases h3:k=3
    ·obtain rfl:l= []:=N8 (by omega)
     subst h3
     obtain⟨rfl,rfl,qd⟩:=RK rfl
     have d3: ((3:Int)==3)=true:=rfl
     have g7:=yW t
     have lnp:=qd.len
     have gl:eO 3 t=⟨(bY t).1.tree,2⟩:: (bY t).1.par.map cS:=by
      unfold eO
      rw[hr,if_pos rfl,if_neg (by decide),if_pos rfl]
     have rdo2:=rdo D2
     generalize (bY t).1.par=pl at*
     generalize (bY t).1.tree=T at*
     first|with_reducible refine ks [] (And.intro @cA (And.intro @d3 (@rdo2))) ?_|refine kp (And.intro @cA (And.intro @d3 (@rdo2))) ?_
     have bT:=qx ⟨T,2⟩
     refine Ow.build (.agg (aB ⟨T,2⟩).toArray) rfl bT ?_
     refine ko @cA ?_
     refine Ow.buildSlice (e:=59) (aB ⟨T,2⟩).toArray rfl rfl (gw Tryz.underlying44 fK d_ (by decide) (bU _)) fun b13 bz dp=> ?_
     refine Ow.permL (M:=D2++ ((b13,Obj.cells (aB ⟨T,2⟩).toArray 59 (0,0)):: (b1,Obj.cells #[vi 3,vs t] 35 (0,0))::D)) (by classical exact List.perm_iff_count.2 fun a=>by simp only[List.count_append,List.count_cons,List.count_nil]<;>omega) ?_
     refine ko @cA ?_
     refine Ow.appendX (e:=59) (k:=1) (new:=aB ⟨T,2⟩) (X:=D2) v rfl rfl rfl rfl Tryz.underlying44 fK (by kernel_rfl) d_ (by rw[fj,List.size_toArray,bU]) Tryz.underlying44 (by intro k h;cases h) hG (fun w' a7=>AppX.one1 (a7.has b13 (.cells (aB ⟨T,2⟩).toArray 59 (0,0)) (by simp)) (bU _) (iQ _)) (by omega) (by simp) (fun B2 v4 D4 dv eL bh bk ap jG=> ?_)
     have cq:New w.heap.size D4:=New.of_le fun q hq=>by
      rcases ap q hq with h|h
      ·exact cw.le q h
      ·omega
     have eX:SepK b1 D (D4++ [(b13,Obj.cells (aB ⟨T,2⟩).toArray 59 (0,0))]):=by
      refine(jA.grow ap (aP dv (by simp[aT,keys])) fun d hd=>aP dv (by simp only[keys,List.map_cons,List.map_nil,List.map_append,List.mem_cons,List.mem_append] at hd ⊢;simp[hd])).app ?_
      exact SepK.nil.cons (aP bz (by simp[keys])) fun d hd=>aP bz (by simp only[keys,List.map_cons,List.map_nil,List.map_append,List.mem_cons,List.mem_append] at hd ⊢;simp[hd])
     refine Ow.permL (M:=(b1,Obj.cells #[vi 3,vs t] 35 (0,0)):: (D++ (D4++ [(b13,Obj.cells (aB ⟨T,2⟩).toArray 59 (0,0))]))) (by classical exact List.perm_iff_count.2 fun a=>by simp only[List.count_append,List.count_cons,List.count_nil]<;>omega) ?_
     have kD:Gr (D4++ [(b13,Obj.cells (aB ⟨T,2⟩).toArray 59 (0,0))]) 59 33 v4 (⟨T,2⟩:: (pl.take 0).map cS:List ChildL).length ((⟨T,2⟩:: (pl.take 0).map cS:List ChildL).map aB).flatten:=by
      have:=Gr.snoc (l:=([]:List ChildL)) (x:=⟨T,2⟩) rfl (by simpa using bh)
      exact this.app
     have eW:=cq.app (show New w.heap.size [(b13,Obj.cells (aB ⟨T,2⟩).toArray 59 (0,0))] from⟨dp,trivial⟩)
     generalize D4++ [(b13,Obj.cells (aB ⟨T,2⟩).toArray 59 (0,0))]=D5 at eX kD eW ⊢
     have rdo5:=rdo D5
     refine ko @cA ?_
     first|with_reducible refine ks [] (And.intro @cA (And.intro @rdo5 (@lnp))) ?_|refine kp (And.intro @cA (And.intro @rdo5 (@lnp))) ?_
     refine Cw.loopG (G:=ChG) [54,55,56,9,57,58,59,60,61,5,62,53] (fun q=> [(5,q.v),(53,vi q.g)]) (fun q=>(b1,Obj.cells #[vi 3,vs t] 35 (0,0)):: (D++q.D)) (fun q=>q.g≤pl.length∧New w.heap.size q.D∧SepK b1 D q.D∧Gr q.D 59 33 q.v (⟨T,2⟩:: (pl.take q.g).map cS:List ChildL).length ((⟨T,2⟩:: (pl.take q.g).map cS:List ChildL).map aB).flatten) (fun q=>pl.length - q.g) ⟨0,v4,D5⟩ rfl rfl ?_ ?_
     ·exact⟨Nat.zero_le _,eW,eX,kD⟩
     ·intro q jq hq
      refine kv ?_
      obtain⟨g,v,D2⟩:=q
      simp only at hq ⊢
      obtain⟨uL,cw,jA,hG⟩:=hq
      by_cases aC:g<pl.length
      ·obtain⟨c,cc,rest,rfl,kQ⟩:=Gr.rows qd (by omega)
       have wu:=hN.le c (cE kQ)
       have cF:b1≠c:=by omega
       have rdc: ∀M,aO w (D++M) c=some (idRO rest pl):=fun M=>ah (bB kQ)
       have ldc:=Li (rest:=rest) g aC
       have iu:=xm cS id0 aC
       have iL: ((pl.take g).map cS).length=g:=by rw[List.length_map,List.length_take];omega
       generalize hx:pl.getD g id0=x at ldc iu
       have gI:=x.h
       first|with_reducible refine ks [] (And.intro @cA (And.intro @rdc (@ldc))) ?_|refine kp (And.intro @cA (And.intro @rdc (@ldc))) ?_
       refine Ow.alloc rfl rfl jV fun b7 jg ma=> ?_
       simp only[aU,List.nil_append,List.cons_append]
       have ou:b1<b7:=aP jg (by simp[keys])
       refine Ow.permL (M:=(b7,Obj.cells (a8 id0.l) 24 (0,0)):: (b1,Obj.cells #[vi 3,vs t] 35 (0,0)):: (D++D2)) (by classical exact List.perm_iff_count.2 fun a=>by simp only[List.count_append,List.count_cons,List.count_nil]<;>omega) ?_
       have TC:=id0.h
       refine ko @cA ?_
       first|with_reducible refine ks [] @cA ?_|refine kp @cA ?_
       have bX:=qx (cS x)
       refine Ow.build (.agg (aB (cS x)).toArray) rfl bX ?_
       refine ko @cA ?_
       refine Ow.buildSlice (e:=59) (aB (cS x)).toArray rfl rfl (gw Tryz.underlying44 fK d_ (by decide) (bU _)) fun b13 bz dp=> ?_
       refine Ow.permL (M:=D2++ ((b7,Obj.cells (a8 x.l) 24 (0,0)):: (b13,Obj.cells (aB (cS x)).toArray 59 (0,0)):: (b1,Obj.cells #[vi 3,vs t] 35 (0,0))::D)) (by classical exact List.perm_iff_count.2 fun a=>by simp only[List.count_append,List.count_cons,List.count_nil]<;>omega) ?_
       refine ko @cA ?_
       refine Ow.appendX (e:=59) (k:=1) (new:=aB (cS x)) (X:=D2) v rfl rfl rfl rfl Tryz.underlying44 fK (by kernel_rfl) d_ (by rw[fj,List.size_toArray,bU]) Tryz.underlying44 (by intro k h;cases h) hG (fun w' a7=>AppX.one1 (a7.has b13 (.cells (aB (cS x)).toArray 59 (0,0)) (by simp)) (bU _) (iQ _)) (by omega) (by rw[List.length_cons,iL];omega) (fun B2 v4 D4 dv eL bh bk ap jG=> ?_)
       have cq:New w.heap.size D4:=New.of_le fun q hq=>by
        rcases ap q hq with h|h
        ·exact cw.le q h
        ·omega
       have eX:SepK b1 D (D4++ [(b7,Obj.cells (a8 x.l) 24 (0,0)),(b13,Obj.cells (aB (cS x)).toArray 59 (0,0))]):=by
        refine(jA.grow ap (aP dv (by simp[aT,keys])) fun d hd=>aP dv (by simp only[keys,List.map_cons,List.map_nil,List.map_append,List.mem_cons,List.mem_append] at hd ⊢;simp[hd])).app ?_
        exact(SepK.nil.cons (aP bz (by simp[keys])) fun d hd=>aP bz (by simp only[keys,List.map_cons,List.map_nil,List.map_append,List.mem_cons,List.mem_append] at hd ⊢;simp[hd])).cons ou fun d hd=>aP jg (by simp only[keys,List.map_cons,List.map_nil,List.map_append,List.mem_cons,List.mem_append] at hd ⊢;simp[hd])
       refine Ow.permL (M:=(b1,Obj.cells #[vi 3,vs t] 35 (0,0)):: (D++ (D4++ [(b7,Obj.cells (a8 x.l) 24 (0,0)),(b13,Obj.cells (aB (cS x)).toArray 59 (0,0))]))) (by classical exact List.perm_iff_count.2 fun a=>by simp only[List.count_append,List.count_cons,List.count_nil]<;>omega) ?_
       refine ko @cA ?_
       first|with_reducible refine ks [] @cA ?_|refine kp @cA ?_
       refine Again.mk (ChG.mk (g+1) v4 (D4++ [(b7,Obj.cells (a8 x.l) 24 (0,0)),(b13,Obj.cells (aB (cS x)).toArray 59 (0,0))])) (by show pl.length - (g+1)<pl.length - g;omega) ⟨by show g+1≤pl.length;omega,cq.app ⟨ma,dp,trivial⟩,eX, ?_⟩ rfl rfl
       show Gr _ _ _ _ (⟨T,2⟩:: (pl.take (g+1)).map cS:List ChildL).length ((⟨T,2⟩:: (pl.take (g+1)).map cS:List ChildL).map aB).flatten
       rw[iu]
       exact Gr.app (Gr.snoc (l:=(⟨T,2⟩:: (pl.take g).map cS:List ChildL)) rfl bh)
      ·obtain rfl:g=pl.length:=by omega
       rw[List.take_length] at hG
       first|with_reducible refine ks [] @cA ?_|refine kp @cA ?_
       refine⟨_,(ke @cA), ?_⟩
       refine⟨Ext.of_new ⟨aG,(New.mono hB hN).app cw⟩, ?_⟩
       rw[gl]
       exact hG.keep fun b o hb ho=>jA.look ho
    ·have d3: (k==3)=false:=by simpa using h3
     first|with_reducible refine ks [] (And.intro @cA @d3) ?_|refine kp (And.intro @cA @d3) ?_
     refine⟨_,(ke @cA), ?_⟩
     refine⟨Ext.of_new ⟨aG,(New.mono hB hN).app cw⟩, ?_⟩
     have e:eO k t=l.map dA:=by
      unfold eO
      rw[hr,if_pos rfl,if_neg h3]
      by_cases h2:k=2
      ·rw[if_pos h2,←kP h2]
      ·rw[if_neg h2,N8 h2];rfl
     rw[e]
     exact hG.keep fun b o hb ho=>jA.look ho
end Go.Proofs
end
section
open Go Go.Proofs Go.Sx Go.StP
namespace Go.Proofs
set_option maxRecDepth 10000
set_option maxHeartbeats 400000
set_option linter.unusedSimpArgs false
set_option linter.defProp false
set_option linter.defProp false
end Go.Proofs
end
