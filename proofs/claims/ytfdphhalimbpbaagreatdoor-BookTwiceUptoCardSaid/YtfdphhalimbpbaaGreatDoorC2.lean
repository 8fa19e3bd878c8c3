/-
  Part 2 of the walk: contracts of the functions that the law reaches, and the calculus they stand on.
  No conditions.
-/
import Derived.Test.YtfdphhalimbpbaaGreatDoorC1
import Derived.Lib.Small
import Derived.Lib.Walk
import Derived.Lib.Bytealg
import Derived.Deep.Draws
import Derived.Deep.QuietTactic
import Derived.Lib.Strings
import GoSem.Core.Float
import Derived.Laws.MakeOwn
set_option maxRecDepth 100000
set_option maxHeartbeats 4000000
set_option linter.unusedSimpArgs false
set_option linter.defProp false
open Go.Proofs.Tryz
section
open Go Go.Proofs Go.Sx Go.StP
namespace Go.Proofs
def lM:=aN (aN (aN @Ce @Cs) (aN @Ch @wA)) (aN (aN @LY @IQ) (aN @bB @bA))
def Ev (a b:List UInt8): (Op.bytesLess a b||a==b)= !ltB b a:=by rw[←Y7,Bool.not_not]
def M5 (v:Value) (l:List EntL) (w:World) (hv:EntS w v l) (hl:l.length<1000000) (iC:sZ l):
  Rets prog 132 #[v] w (fun v' D=>v'= .bool (oq l)∧D= []):=by
 obtain⟨b,off,arr,E,fz,hr⟩:=hv.row
 have ln:=hv.len
 refine Rets.enterV func132 rfl (rs:= [.tmp 2]) results132 ntmps132 ?_
 refine kf ?_
 by_cases h32:32<l.length
 ·refine ky (aN @lM @ln) ?_
  have:oq l=false:=by unfold oq;rw[ah oM,Bool.false_and]
  rw[this]
  refine⟨_,(ke @lM),trivial, ?_⟩
  rfl
 refine ky (aN @lM @ln) ?_
 refine Cw.loopG (G:=Nat) [7,8,9,10,13,14,15,16,17,18,19,20,21,22,23,24,25,26,27,28,29,30,31,32,33,34,35,2,36,37,38,39,40,41,42,43,44,45,46,47,48,49,50,51,11,12,3] (fun g=> [(3,vi g)]) (fun g=> []) (fun g=>g≤l.length∧ ∀i,i<g→kG l i=true) (fun g=>l.length - g) 0 rfl rfl ?_ ?_
 ·exact⟨aq _,fun i hi=>absurd hi (Nat.not_lt_zero i)⟩
 intro k jk hk
 refine kv ?_
 obtain⟨h1,h2⟩:=hk
 by_cases hk:k<l.length
 ·have h0:0<l.length:=by omega
  have fE:=hr.lt h0
  have r2:=hr.has h0
  have i2:=hr.idx true k hk
  have m0: ∀n,aQ (some (false,n)) (some (.cells arr E fz)) (off+k*34)=some (vs (l.getD k cX).name):=fun n=>w6 hr hk n
  have m1: ∀n,aQ (some (false,n)) (some (.cells arr E fz)) (off+k*34+1)=some (vi (l.getD k cX).kind):=fun n=>Eg hr hk n
  have hs:=iC k hk
  refine ky (aN @lM (aN @ln (aN @r2 (aN @i2 (aN @m0 @m1))))) ?_
  refine Ow.callFV rfl call195 (fun w' aA=>Nv (l.getD k cX).name w' hs) ?_
  cases hn:nW (l.getD k cX).name
  ·have e0:kG l k=false:=by unfold kG;rw[hn];rfl
   rw[Ig hk e0]
   refine ko @lM ?_
   refine⟨_,(ke @lM),trivial, ?_⟩
   rfl
  cases iy:decide ((l.getD k cX).kind<1)
  ·cases fw:decide (2< (l.getD k cX).kind)
   ·have uw: ((l.getD k cX).kind==1|| (l.getD k cX).kind==2)=true:=by
     have q1:=of_decide_eq_false iy
     have q2:=of_decide_eq_false fw
     rcases(show(l.getD k cX).kind=1∨(l.getD k cX).kind=2 by omega) with h|h<;>rw[h]<;>rfl
    refine ko (aN @lM (aN @r2 (aN @i2 (aN @m0 (aN @m1 (aN @iy @fw)))))) ?_
    by_cases h0k:k=0
    ·have d1:decide ((0:Int)< (k:Int))=false:=ah oM
     have e1:kG l k=true:=by unfold kG;rw[hn,uw,h0k];rfl
     refine Cw.regionS [b] [0,1,2,3,4,5,6,8,9,10,11,12,7,13,14,15] [] kR kR kR ?_
     simp only[bF, ↓bE, ↓ay, ↓bD, ↓bC,az]
     refine kq (aN @lM @d1) ?_
     exact Again.mk (k+1) oM ⟨by omega,fun i hi=>by
      rcases Nat.lt_succ_iff_lt_or_eq.1 hi with h|rfl
      ·exact h2 i h
      exact e1⟩ rfl rfl
    have d1:decide ((0:Int)< (k:Int))=true:=aW oM
    have i3:nC (.sl (true,34)) v (some ((k:Int) - 1))=some (vp b (off+ (k - 1)*34)):=by
     rw[show(k:Int) - 1=((k - 1:Nat):Int) by omega];exact hr.idx true (k - 1) oM
    have l3: ∀n,aQ (some (false,n)) (some (.cells arr E fz)) (off+ (k - 1)*34)=some (vs (l.getD (k - 1) cX).name):=fun n=>w6 hr (show k - 1<l.length by omega) n
    have ek: (k==0)=false:=beq_eq_false_iff_ne.2 h0k
    cases rR:ltB (l.getD (k - 1) cX).name (l.getD k cX).name
    ·have e1:kG l k=false:=by unfold kG;rw[hn,uw,ek];exact rR
     rw[Ig hk e1]
     refine Cw.regionS [b] [0,1,2,3,4,5,6,8,9,10,11,12,7,13,14,15] [] kR kR kR ?_
     simp only[bF, ↓bE, ↓ay, ↓bD, ↓bC,az]
     refine kq (aN @lM (aN @d1 (aN @i2 (aN @i3 (aN @r2 (aN @m0 (aN @l3 (aN @Ev @rR)))))))) ?_
     refine⟨_,(ke @lM),trivial, ?_⟩
     rfl
    have e1:kG l k=true:=by unfold kG;rw[hn,uw,ek];exact rR
    refine Cw.regionS [b] [0,1,2,3,4,5,6,8,9,10,11,12,7,13,14,15] [] kR kR kR ?_
    simp only[bF, ↓bE, ↓ay, ↓bD, ↓bC,az]
    refine kq (aN @lM (aN @d1 (aN @i2 (aN @i3 (aN @r2 (aN @m0 (aN @l3 (aN @Ev @rR)))))))) ?_
    exact Again.mk (k+1) oM ⟨by omega,fun i hi=>by
     rcases Nat.lt_succ_iff_lt_or_eq.1 hi with h|rfl
     ·exact h2 i h
     exact e1⟩ rfl rfl
   have e0:kG l k=false:=by
    have q2:=of_decide_eq_true fw
    unfold kG
    rw[hn,show((l.getD k cX).kind==1)=false from beq_eq_false_iff_ne.2 oM,show((l.getD k cX).kind==2)=false from beq_eq_false_iff_ne.2 oM];rfl
   rw[Ig hk e0]
   refine ko (aN @lM (aN @r2 (aN @i2 (aN @m0 (aN @m1 (aN @iy @fw)))))) ?_
   refine⟨_,(ke @lM),trivial, ?_⟩
   rfl
  have e0:kG l k=false:=by
   have q2:=of_decide_eq_true iy
   unfold kG
   rw[hn,show((l.getD k cX).kind==1)=false from beq_eq_false_iff_ne.2 oM,show((l.getD k cX).kind==2)=false from beq_eq_false_iff_ne.2 oM];rfl
  rw[Ig hk e0]
  refine ko (aN @lM (aN @r2 (aN @i2 (aN @m0 (aN @m1 @iy))))) ?_
  refine⟨_,(ke @lM),trivial, ?_⟩
  rfl
 obtain rfl:k=l.length:=by omega
 rw[RD h2,show decide (l.length≤32)=true from aW oM]
 refine ky (aN @lM @ln) ?_
 refine⟨_,(ke @lM),trivial, ?_⟩
 rfl
def Az (x:IdL): (gw x).length=32:=by simp[gw,x.h]
def CD (x:IdL): (gw x).all Value.oneCell'=true:=vr _
abbrev IdS (w:World) (v:Value) (l:List IdL):Prop:=SlV 32 gw id0 w v l
def xC {w:World} {v:Value} {l:List IdL} {b off:Nat} {arr:Array Value} {E:TypeId} {fz:Nat×Nat} (h:RowS 32 gw id0 w v l b off arr E fz) {k:Nat} (hk:k<l.length):
  aQ (some (true,32)) (some (.cells arr E fz)) (off+k*32)=some (.agg (a8 (l.getD k id0).l)):=RowS.load h Az oM hk
def xU (a b:IdL):ab prog .eql 24 (.agg (a8 a.l)) (.agg (a8 b.l))=some (.bool (a.l==b.l)):=
 Ew underlying24 underlying5 ag5 kR a.l b.l ⟨a.h,b.h⟩
def GE (a b:IdL):ab prog .neq 24 (.agg (a8 a.l)) (.agg (a8 b.l))=some (.bool (!(a.l==b.l))):=
 Dl underlying24 underlying5 ag5 kR a.l b.l ⟨a.h,b.h⟩
instance:DecidableEq IdL:=fun a b=>if h:a.l=b.l then .isTrue (by cases a;cases b;simp only at h;subst h;rfl) else .isFalse (fun e=>h (by rw[e]))
def IdL.ext' {a b:IdL} (h:a.l=b.l):a=b:=by cases a;cases b;simp only at h;subst h;rfl
def J3 (x:IdL) (E:TypeId) (fz:Nat×Nat):aQ (some (true,32)) (some (.cells (a8 x.l) E fz)) 0=some (.agg (a8 x.l)):=JK _ E fz 32 x.h
structure RwL where
 id:IdL
 place:Int
 spot:Int
abbrev Q3 (l:List RwL):Prop:=StP.Sorted (fun r:RwL=>r.id.l) l
abbrev Ye (l l':List RwL):Prop:=StP.St (fun r:RwL=>r.id.l) l l'
def rws_SortOf (l Z:List RwL):Prop:=Z.length=l.length∧Q3 Z∧Ye l Z
theorem rws_SortOf.eq {l Z Z':List RwL} (h:rws_SortOf l Z) (h':rws_SortOf l Z'):Z=Z':=StP.St.eq h.2.1 h'.2.1 (h.2.2.symm.trans h'.2.2)
structure ComL where
 tree:IdL
 par:List IdL
 text:List UInt8
def bK (t:IdL) (p:Value) (x:List UInt8):List Value:=t.l.map v8++ ([p]++ [vs x])
def AY (t:IdL) (p:Value) (x:List UInt8): (bK t p x).length=34:=by simp[bK,t.h]
def Wj (t:IdL) (p:Value) (x:List UInt8) (hp:Value.oneCell' p=true): (bK t p x).all Value.oneCell'=true:=by
 unfold bK
 simp only[List.all_append,List.all_cons,List.all_nil,vr,hp,Bool.and_true,Bool.true_and]
 rfl
def Ib (t:IdL) (p:Value) (x:List UInt8):Value.cells (.agg (bK t p x).toArray)=(bK t p x).toArray:=ag _
def LQ (t:IdL) (p:Value) (x:List UInt8) (E:TypeId) (fz:Nat×Nat):aQ (some (true,32)) (some (.cells (bK t p x).toArray E fz)) 0=some (.agg (a8 t.l)):=by
 unfold bK;exact Al [] _ _ E fz rfl (by simp[t.h])
def Kx (t:IdL) (p:Value) (x:List UInt8) (n:Nat) (E:TypeId) (fz:Nat×Nat):aQ (some (false,n)) (some (.cells (bK t p x).toArray E fz)) 32=some p:=by
 unfold bK;exact pR _ _ p n E fz (by simp[t.h])
def LD (t:IdL) (p:Value) (x:List UInt8) (n:Nat) (E:TypeId) (fz:Nat×Nat):aQ (some (false,n)) (some (.cells (bK t p x).toArray E fz)) 33=some (vs x):=by
 have e:bK t p x=(t.l.map v8++ [p])++ ([vs x]++ []):=by unfold bK;simp only[List.append_assoc,List.append_nil]
 rw[e];exact pR _ _ (vs x) n E fz (by simp[t.h])
def w4 (t:IdL) (p:Value) (x:List UInt8) (E:TypeId) (fz:Nat×Nat):aQ (some (true,34)) (some (.cells (bK t p x).toArray E fz)) 0=some (.agg (bK t p x).toArray):=rZ _ E fz 34 (by rw[List.size_toArray,AY])
def LC (old:Array Value) (t:IdL) (p:Value) (x:List UInt8) (a:Bool) (E:TypeId) (h:old.size=34) (hp:Value.oneCell' p=true):aw (some (a,34)) (some (.cells old E (0,0))) 0 (.agg (bK t p x).toArray)=some (.cells (bK t p x).toArray E (0,0)):=A2 _ a old E (AY t p x) (Wj t p x hp) h
def im (l:List IdL) (i:Nat):Bool:= !((l.take i).any fun y=>(l.getD i id0).l==y.l)
def ml (c:ComL):Bool:=(decide (c.par.length≤4)&&decide (c.text.length≤64))&& (List.range c.par.length).all (im c.par)
def Vv {c:ComL} {k:Nat} (hk:k<c.par.length) (h:im c.par k=false):ml c=false:=by
 unfold ml
 have: (List.range c.par.length).all (im c.par)=false:=by
  rw[List.all_eq_false]
  exact⟨k,List.mem_range.2 hk,by simp[h]⟩
 rw[this,Bool.and_false]
def UY {c:ComL} (h: ∀i,i<c.par.length→im c.par i=true):ml c=(decide (c.par.length≤4)&&decide (c.text.length≤64)):=by
 unfold ml
 have: (List.range c.par.length).all (im c.par)=true:=List.all_eq_true.2 fun i hi=>h i (List.mem_range.1 hi)
 rw[this,Bool.and_true]
abbrev ComS (w:World) (v:Value) (c:ComL):Prop:= ∃p,v= .agg (bK c.tree p c.text).toArray∧IdS w p c.par
def SlV.one {α:Type} {m:Nat} {enc:α→List Value} {z:α} {w:World} {v:Value} {l:List α} (h:SlV m enc z w v l):Value.oneCell' v=true∧v.cells= #[v]:=by
 obtain⟨b,off,c,arr,E,fz,-,-,⟨rfl,-,-⟩ | ⟨rfl,-,-⟩⟩:=h<;>exact⟨rfl,rfl⟩
def lh:=aN (aN (aN @xU @GE) (aN @J3 (aN @bB @bA))) (aN (aN @LQ @Kx) (aN @LD (aN @w4 @Ib)))
def Vy {l:List IdL} {k:Nat} {x:IdL} (hk:k<l.length) (h: ((l.take k).any fun y=>x.l==y.l)=false) (h2: (x.l==(l.getD k id0).l)=false): ((l.take (k+1)).any fun y=>x.l==y.l)=false:=by
 rw[take_snoc (z:=id0) hk,List.any_append,h,Bool.false_or,List.any_cons,h2];rfl
def YD {l:List IdL} {k i:Nat} {x:IdL} (hk:k<l.length) (hi:k<i) (h2: (x.l==(l.getD k id0).l)=true): ((l.take i).any fun y=>x.l==y.l)=true:=by
 rw[List.any_eq_true]
 refine⟨l.getD k id0, ?_,h2⟩
 rw[←getD_take (l:=l) (z:=id0) hi]
 exact getD_mem (by rw[List.length_take];omega)
def KE_ (v:Value) (c:ComL) (w:World) (hv:ComS w v c) (hl:c.par.length<1000000) (ht:c.text.length<1099511627776):
  Rets prog 134 #[v] w (fun v' D=>v'= .bool (ml c)∧D= []):=by
 obtain⟨p,rfl,hp⟩:=hv
 obtain⟨b,off,arr,E,fz,hr⟩:=hp.row
 have ln:=hp.len
 refine Rets.enterV func134 rfl (rs:= [.tmp 2]) results134 ntmps134 ?_
 refine kf ?_
 refine ky @lh ?_
 refine Ow.box rfl rfl fun bx g_ bT=> ?_
 simp only[ck,cV,ce,ag,List.nil_append,List.cons_append]
 refine Ow.go rfl ?_
 simp(disch:=first|exact dD|fail) only[↓Sx.S0,Sx.S1,fx,lh,Nat.reduceAdd,Nat.reducePow,Int.reducePow,Nat.reduceBEq, ↓reduceIte,UInt8.reduceToNat,UInt16.reduceToNat,UInt32.reduceToNat,UInt64.reduceToNat,Int.reduceToNat]
 by_cases h4:4<c.par.length
 ·have d1:decide (4< ((c.par.length:Nat):Int))=true:=aW oM
  refine ky (aN @lh (aN @ln @d1)) ?_
  have:ml c=false:=by unfold ml;rw[show decide (c.par.length≤4)=false from ah oM];rfl
  rw[this]
  refine⟨_,(ke @lh),⟨bT,trivial⟩, ?_⟩
  rfl
 have d1:decide (4< ((c.par.length:Nat):Int))=false:=ah oM
 by_cases rI:64<c.text.length
 ·have d2:decide (64< ((c.text.length:Nat):Int))=true:=aW oM
  refine ky (aN @lh (aN @ln (aN @d1 @d2))) ?_
  have:ml c=false:=by unfold ml;rw[show decide (c.text.length≤64)=false from ah oM,Bool.and_false];rfl
  rw[this]
  refine⟨_,(ke @lh),⟨bT,trivial⟩, ?_⟩
  rfl
 have d2:decide (64< ((c.text.length:Nat):Int))=false:=ah oM
 refine ky (aN @lh (aN @ln (aN @d1 @d2))) ?_
 refine Cw.loopG (G:=Nat) [15,16,17,18,19,4,22,23,24,27,28,29,30,31,32,33,34,35,36,37,2,25,26,20,21,3] (fun g=> [(3,vi g)]) (fun g=> [(bx, .cells (bK c.tree p c.text).toArray 126 (0,0))]) (fun g=>g≤c.par.length∧ ∀i,i<g→im c.par i=true) (fun g=>c.par.length - g) 0 rfl rfl ?_ ?_
 ·exact⟨aq _,fun i hi=>absurd hi (Nat.not_lt_zero i)⟩
 intro i ji hi
 refine kv ?_
 obtain⟨h1,h2⟩:=hi
 by_cases hi:i<c.par.length
 ·have h0:0<c.par.length:=by omega
  have fE:=hr.lt h0
  have zn:bx≠b:=by omega
  have r2:=hr.has h0
  have i2:=hr.idx true i hi
  have l2:=xC hr hi
  refine ky (aN @lh @ln) ?_
  refine Cw.loopG (G:=Nat) [22,23,24,27,28,29,30,31,32,33,34,35,36,37,2,25,26,4] (fun g=> [(4,vi g)]) (fun g=> [(bx, .cells (bK c.tree p c.text).toArray 126 (0,0))]) (fun g=>g≤i∧((c.par.take g).any fun y=>(c.par.getD i id0).l==y.l)=false) (fun g=>i - g) 0 rfl rfl ?_ ?_
  ·exact⟨aq _,rfl⟩
  intro k jk hk
  refine kv ?_
  obtain⟨g1,g2⟩:=hk
  by_cases hk:k<i
  ·have i3:=hr.idx true k (show k<c.par.length by omega)
   have l3:=xC hr (show k<c.par.length by omega)
   refine ky @lh ?_
   refine Cw.regionS [bx,b] [0,2,5,7,1,3,4,6,8,9,10] [] kR kR kR ?_
   simp only[bF, ↓bE, ↓ay, ↓bD, ↓bC,az]
   refine kq (aN @lh (aN @i2 (aN @r2 (aN @l2 (aN @i3 @l3))))) ?_
   cases hq: ((c.par.getD i id0).l==(c.par.getD k id0).l)
   ·refine ky (aN @lh @hq) ?_
    exact Again.mk (k+1) oM ⟨by omega,Vy oM g2 hq⟩ rfl rfl
   have e1:im c.par i=false:=by unfold im;rw[YD oM hk hq];rfl
   rw[Vv hi e1]
   refine ky (aN @lh @hq) ?_
   refine⟨_,(ke @lh),⟨bT,trivial⟩, ?_⟩
   rfl
  obtain rfl:k=i:=by omega
  have e1:im c.par k=true:=by unfold im;rw[g2];rfl
  refine ky @lh ?_
  exact Again.mk (k+1) oM ⟨by omega,fun i hi=>by
   rcases Nat.lt_succ_iff_lt_or_eq.1 hi with h|rfl
   ·exact h2 i h
   exact e1⟩ rfl rfl
 obtain rfl:i=c.par.length:=by omega
 rw[UY h2,show decide (c.par.length≤4)=true from aW oM,show decide (c.text.length≤64)=true from aW oM]
 refine ky (aN @lh @ln) ?_
 refine⟨_,(ke @lh),⟨bT,trivial⟩, ?_⟩
 rfl
end Go.Proofs
end
section
open Go Go.Proofs Go.Sx
namespace Go.Proofs
def IH {n:Nat} (h:n<1099511627776):d_ (n:Int)=n:=by unfold d_ maxN;omega
def Lu: ∀ (k:Nat) (n:Int) (w:World),d_ n≤k→
  Rets prog 174 #[vi n] w (fun v D=>v=vs (eY (d_ n))∧D= []):=by
 intro k
 induction k using Nat.strongRecOn with
 |ind k ih=>
  intro n w hk
  refine Rets.enterV func174 rfl (rs:= [.tmp 2]) results174 ntmps174 ?_
  refine kf ?_
  by_cases h0:n<0
  ·have d1:decide (n<0)=true:=aW h0
   have e:d_ n=0:=by unfold d_ maxN;omega
   rw[e]
   refine ky @d1 ?_
   refine Ow.buildSlice (e:=5) #[v8 0] rfl rfl kR fun b1 aO aP=> ?_
   rw[show(#[v8 0]:Array Value)=a8 [0] from rfl]
   refine ko @Nat.add_zero ?_
   refine ky @Nat.add_zero ?_
   refine⟨_,(ke @Nat.add_zero),⟨aP,trivial⟩, ?_⟩
   rw[A6 oM];rfl
  have d1:decide (n<0)=false:=ah h0
  generalize hm:d_ n=m at hk ⊢
  have gj:m≤1099511627775:=by unfold d_ maxN at hm;omega
  by_cases h1:n>1099511627775
  ·have d2:decide (1099511627775<n)=true:=aW h1
   have e: (1099511627775:Int)=(m:Int):=by unfold d_ maxN at hm;omega
   refine kz [5] (aN @d1 @d2) ?_
   rw[e]
   by_cases h2:m<128
   ·have d3:decide ((m:Int)<128)=true:=aW oM
    rw[A6 h2]
    refine ky (aN @d1 @d3) ?_
    generalize hc:UInt8.ofInt (m:Int)=c
    have fF:c=UInt8.ofNat m:=by rw[←hc,zC]
    refine Ow.buildSlice (e:=5) #[v8 c] rfl rfl kR fun b1 aO aP=> ?_
    rw[show(#[v8 c]:Array Value)=a8 [c] from rfl]
    have e4:List.take 1 (List.drop 0 [c])= [c]:=rfl
    refine ko @e4 ?_
    refine ky @Nat.add_zero ?_
    refine⟨_,(ke @Nat.add_zero),⟨aP,trivial⟩, ?_⟩
    rw[fF];rfl
   have d3:decide ((m:Int)<128)=false:=ah oM
   have ih2:=fun w=>ih (m / 128) oM ((m / 128:Nat):Int) w (by rw[IH oM];omega)
   rw[IH oM] at ih2
   have fX:=KA 6 (m / 128) oM oM
   rw[AU h2]
   refine ky (aN @d1 @d3) ?_
   refine Cw.regionK 11 kR kR ?_
   refine OwK.run [0,1,2,3,6,7] [true,true,true,true,false,false,true,true,false,false,false] 5 rfl kR kR fun k hk=> ?_
   simp only[bF, ↓bE, ↓ay, ↓bD, ↓bC,az]
   simp(disch:=first|exact dD|fail) only[↓Sx.S0,Sx.S1,fx,Nat.reduceAdd,Nat.reducePow,Int.reducePow,Nat.reduceBEq, ↓reduceIte,UInt8.reduceToNat,UInt16.reduceToNat,UInt32.reduceToNat,UInt64.reduceToNat,Int.reduceToNat]
   (with_reducible refine hk _ _ _ ?_);clear hk k
   generalize hc:UInt8.ofInt ((m:Int)%128+128)=c
   have fF:c=UInt8.ofNat (m%128+128):=by rw[←hc,show((m:Int)%128+128)=((m%128+128:Nat):Int) from rfl,zC]
   rw[show(m:Int) / 128=((m / 128:Nat):Int) from rfl]
   refine OwK.two 4 8 _ _ kR rfl rfl ?_ ?_
   ·refine Ow.buildSlice (e:=5) #[v8 c] rfl rfl kR fun b1 aO aP=> ?_
    rw[show(#[v8 c]:Array Value)=a8 [c] from rfl]
    have e4:List.take 1 (List.drop 0 [c])= [c]:=rfl
    refine ko @e4 ?_
    try with_reducible refine Ow.nil ?_
    refine OwK.two 5 8 _ _ kR rfl rfl ?_ ?_
    ·refine ko @e4 ?_
     refine OwK.rest [8,9,10] [4,8] rfl kR kR ?_
     simp only[bF, ↓bE, ↓ay, ↓bD, ↓bC,az]
     refine Ow.callFV rfl call174 (fun w' aA=>ih2 w') ?_
     refine ko @Nat.add_zero ?_
     refine ky @Nat.add_zero ?_
     refine⟨_,(ke @Nat.add_zero),⟨aP,trivial⟩, ?_⟩
     rw[fF];rfl
    refine Ow.callFV rfl call174 (fun w' aA=>ih2 w') ?_
    refine ko @Nat.add_zero ?_
    refine OwK.rest [5,9,10] [4,8] rfl kR kR ?_
    simp only[bF, ↓bE, ↓ay, ↓bD, ↓bC,az]
    refine ko @e4 ?_
    refine ky @Nat.add_zero ?_
    refine⟨_,(ke @Nat.add_zero),⟨aP,trivial⟩, ?_⟩
    rw[fF];rfl
   refine Ow.callFV rfl call174 (fun w' aA=>ih2 w') ?_
   refine ko @Nat.add_zero ?_
   refine OwK.rest [4,5,9,10] [4,8] rfl kR kR ?_
   simp only[bF, ↓bE, ↓ay, ↓bD, ↓bC,az]
   refine Ow.buildSlice (e:=5) #[v8 c] rfl rfl kR fun b1 aO aP=> ?_
   rw[show(#[v8 c]:Array Value)=a8 [c] from rfl]
   have e4:List.take 1 (List.drop 0 [c])= [c]:=rfl
   refine ko @e4 ?_
   refine ky @Nat.add_zero ?_
   refine⟨_,(ke @Nat.add_zero),⟨aP,trivial⟩, ?_⟩
   rw[fF];rfl
  have d2:decide (1099511627775<n)=false:=ah h1
  have e:n=(m:Int):=by unfold d_ maxN at hm;omega
  subst e
  refine kz [5] (aN @d1 @d2) ?_
  by_cases h2:m<128
  ·have d3:decide ((m:Int)<128)=true:=aW oM
   rw[A6 h2]
   refine ky (aN @d1 @d3) ?_
   generalize hc:UInt8.ofInt (m:Int)=c
   have fF:c=UInt8.ofNat m:=by rw[←hc,zC]
   refine Ow.buildSlice (e:=5) #[v8 c] rfl rfl kR fun b1 aO aP=> ?_
   rw[show(#[v8 c]:Array Value)=a8 [c] from rfl]
   have e4:List.take 1 (List.drop 0 [c])= [c]:=rfl
   refine ko @e4 ?_
   refine ky @Nat.add_zero ?_
   refine⟨_,(ke @Nat.add_zero),⟨aP,trivial⟩, ?_⟩
   rw[fF];rfl
  have d3:decide ((m:Int)<128)=false:=ah oM
  have ih2:=fun w=>ih (m / 128) oM ((m / 128:Nat):Int) w (by rw[IH oM];omega)
  rw[IH oM] at ih2
  have fX:=KA 6 (m / 128) oM oM
  rw[AU h2]
  refine ky (aN @d1 @d3) ?_
  refine Cw.regionK 11 kR kR ?_
  refine OwK.run [0,1,2,3,6,7] [true,true,true,true,false,false,true,true,false,false,false] 5 rfl kR kR fun k hk=> ?_
  simp only[bF, ↓bE, ↓ay, ↓bD, ↓bC,az]
  simp(disch:=first|exact dD|fail) only[↓Sx.S0,Sx.S1,fx,Nat.reduceAdd,Nat.reducePow,Int.reducePow,Nat.reduceBEq, ↓reduceIte,UInt8.reduceToNat,UInt16.reduceToNat,UInt32.reduceToNat,UInt64.reduceToNat,Int.reduceToNat]
  (with_reducible refine hk _ _ _ ?_);clear hk k
  generalize hc:UInt8.ofInt ((m:Int)%128+128)=c
  have fF:c=UInt8.ofNat (m%128+128):=by rw[←hc,show((m:Int)%128+128)=((m%128+128:Nat):Int) from rfl,zC]
  rw[show(m:Int) / 128=((m / 128:Nat):Int) from rfl]
  refine OwK.two 4 8 _ _ kR rfl rfl ?_ ?_
  ·refine Ow.buildSlice (e:=5) #[v8 c] rfl rfl kR fun b1 aO aP=> ?_
   rw[show(#[v8 c]:Array Value)=a8 [c] from rfl]
   have e4:List.take 1 (List.drop 0 [c])= [c]:=rfl
   refine ko @e4 ?_
   try with_reducible refine Ow.nil ?_
   refine OwK.two 5 8 _ _ kR rfl rfl ?_ ?_
   ·refine ko @e4 ?_
    refine OwK.rest [8,9,10] [4,8] rfl kR kR ?_
    simp only[bF, ↓bE, ↓ay, ↓bD, ↓bC,az]
    refine Ow.callFV rfl call174 (fun w' aA=>ih2 w') ?_
    refine ko @Nat.add_zero ?_
    refine ky @Nat.add_zero ?_
    refine⟨_,(ke @Nat.add_zero),⟨aP,trivial⟩, ?_⟩
    rw[fF];rfl
   refine Ow.callFV rfl call174 (fun w' aA=>ih2 w') ?_
   refine ko @Nat.add_zero ?_
   refine OwK.rest [5,9,10] [4,8] rfl kR kR ?_
   simp only[bF, ↓bE, ↓ay, ↓bD, ↓bC,az]
   refine ko @e4 ?_
   refine ky @Nat.add_zero ?_
   refine⟨_,(ke @Nat.add_zero),⟨aP,trivial⟩, ?_⟩
   rw[fF];rfl
  refine Ow.callFV rfl call174 (fun w' aA=>ih2 w') ?_
  refine ko @Nat.add_zero ?_
  refine OwK.rest [4,5,9,10] [4,8] rfl kR kR ?_
  simp only[bF, ↓bE, ↓ay, ↓bD, ↓bC,az]
  refine Ow.buildSlice (e:=5) #[v8 c] rfl rfl kR fun b1 aO aP=> ?_
  rw[show(#[v8 c]:Array Value)=a8 [c] from rfl]
  have e4:List.take 1 (List.drop 0 [c])= [c]:=rfl
  refine ko @e4 ?_
  refine ky @Nat.add_zero ?_
  refine⟨_,(ke @Nat.add_zero),⟨aP,trivial⟩, ?_⟩
  rw[fF];rfl
def II (s:List UInt8) (w:World) (hs:s.length<1099511627776):
  Rets prog 138 #[vs s] w (fun v D=>v=vs (dz s)∧D= []):=by
 have bI:=ij (s.length:Int)
 refine Rets.enterV func138 rfl (rs:= [.tmp 2]) results138 ntmps138 ?_
 refine kf ?_
 refine ky @Nat.add_zero ?_
 refine Ow.callFV rfl call174 (fun w' aA=>Lu _ _ w' (ap _)) ?_
 refine ko @Nat.add_zero ?_
 refine ky @Nat.add_zero ?_
 refine⟨_,(ke @Nat.add_zero),trivial, ?_⟩
 rfl
def wY (x:IdL) (w:World):
  Rets prog 175 #[.agg (a8 x.l)] w (fun v D=>v=vs x.l∧D= []):=by
 have jO:=x.h
 refine Rets.enterV func175 rfl (rs:= [.tmp 2]) results175 ntmps175 ?_
 refine kf ?_
 refine ky @Nat.add_zero ?_
 refine Ow.box rfl rfl fun bx g_ bT=> ?_
 simp only[ck,cV,ce,ag,List.nil_append,List.cons_append]
 refine Ow.go rfl ?_
 simp(disch:=first|exact dD|fail) only[↓Sx.S0,Sx.S1,fx,Nat.reduceAdd,Nat.reducePow,Int.reducePow,Nat.reduceBEq, ↓reduceIte,UInt8.reduceToNat,UInt16.reduceToNat,UInt32.reduceToNat,UInt64.reduceToNat,Int.reduceToNat]
 have e4:List.take 32 (List.drop 0 x.l)=x.l:=by rw[List.drop_zero,List.take_of_length_le oM]
 refine ky @e4 ?_
 refine⟨_,(ke @Nat.add_zero),⟨bT,trivial⟩, ?_⟩
 rfl
end Go.Proofs
end
section
open Go Go.Proofs Go.Sx Go.StP
namespace Go.Proofs
def uO:=aN (aN (aN @Ce @Cs) (aN @Ch @wA)) (aN (aN @LY @IQ) (aN @bB @bA))
def entB (e:EntL):List UInt8:=(eY (d_ e.kind)++dz e.name)++e.id.l
def j4 (l:List EntL):List UInt8:=(l.map entB).flatten
def Bx {l:List EntL} {k:Nat} (hk:k<l.length):j4 (l.take (k+1))=j4 (l.take k)++entB (l.getD k cX):=by
 unfold j4
 rw[List.take_succ_eq_append_getElem hk,List.map_append,List.flatten_append,List.getD_eq_getElem?_getD,List.getElem?_eq_getElem hk]
 simp
def QA {l:List EntL} {k:Nat} (hk:k<l.length):j4 (l.take (k+1))=j4 (l.take k)++eY (d_ (l.getD k cX).kind)++dz (l.getD k cX).name++ (l.getD k cX).id.l:=by
 rw[Bx hk];simp only[entB,List.append_assoc]
def Ar {s:List UInt8} (h:s.length<1099511627776): (dz s).length<1099511627783:=by
 have:=ij (s.length:Int)
 unfold dz;rw[List.length_append];omega
theorem DM {l:List EntL} (iC:sZ l): ∀k,k≤l.length→(j4 (l.take k)).length≤k*1099511627830
 |0,_=>by simp[j4]
 |k+1,hk=>by
  have ih:=DM iC k oM
  have h1:=Ar (iC k hk)
  have h2:=ij (l.getD k cX).kind
  have h3:=(l.getD k cX).id.h
  rw[Bx hk]
  unfold entB
  simp only[List.length_append]
  omega
def Mz (v:Value) (l:List EntL) (w:World) (hv:EntS w v l) (hl:l.length<1000000) (iC:sZ l):
  Rets prog 133 #[v] w (fun v' D=>v'=vs (j4 l)∧D= []):=by
 obtain⟨b,off,arr,E,fz,hr⟩:=hv.row
 have ln:=hv.len
 refine Rets.enterV func133 rfl (rs:= [.tmp 2]) results133 ntmps133 ?_
 refine kf ?_
 refine ky (aN @uO @ln) ?_
 refine Cw.loopG (G:=Nat) [5,6,7,8,11,12,13,14,15,16,17,18,19,20,21,22,23,24,25,26,27,28,29,30,31,32,3,9,10,4] (fun g=> [(3,vs (j4 (l.take g))),(4,vi g)]) (fun g=> []) (fun g=>g≤l.length) (fun g=>l.length - g) 0 rfl rfl ?_ ?_
 ·exact aq _
 intro k jk hk
 refine kv ?_
 have h1:k≤l.length:=hk
 clear hk
 by_cases hk:k<l.length
 ·have h0:0<l.length:=by omega
  have fE:=hr.lt h0
  have r2:=hr.has h0
  have i2:=hr.idx true k hk
  have m0: ∀n,aQ (some (false,n)) (some (.cells arr E fz)) (off+k*34)=some (vs (l.getD k cX).name):=fun n=>w6 hr hk n
  have m1: ∀n,aQ (some (false,n)) (some (.cells arr E fz)) (off+k*34+1)=some (vi (l.getD k cX).kind):=fun n=>Eg hr hk n
  have m2:aQ (some (true,32)) (some (.cells arr E fz)) (off+k*34+2)=some (.agg (a8 (l.getD k cX).id.l)):=VY hr hk
  have hs:=iC k hk
  have t1:=DM iC k h1
  have t2:=Ar hs
  have t3:=ij (l.getD k cX).kind
  have t4:=(l.getD k cX).id.h
  refine ky (aN @uO @ln) ?_
  refine Cw.regionS [b] [0,1,2,3,4,8,9,10,11,15,16,17,18,5,12,19,6,7,13,14,20,21,22] [] kR kR kR ?_
  simp only[bF, ↓bE, ↓ay, ↓bD, ↓bC,az]
  refine kq (aN @uO (aN @r2 (aN @i2 (aN @m0 (aN @m1 @m2))))) ?_
  refine Ow.callFV rfl call174 (fun w' aA=>Lu _ _ w' (ap _)) ?_
  refine kq (aN @uO (aN @r2 (aN @i2 (aN @m0 (aN @m1 @m2))))) ?_
  refine Ow.callFV rfl call138 (fun w' aA=>II _ w' hs) ?_
  refine kq (aN @uO (aN @r2 (aN @i2 (aN @m0 (aN @m1 @m2))))) ?_
  refine Ow.callFV rfl call175 (fun w' aA=>wY _ w') ?_
  refine kq (aN @uO (aN @r2 (aN @i2 (aN @m0 (aN @m1 @m2))))) ?_
  exact Again.mk (k+1) oM oM rfl (by rw[QA hk];rfl)
 obtain rfl:k=l.length:=by omega
 refine ky (aN @uO @ln) ?_
 refine⟨_,(ke @uO),trivial, ?_⟩
 rw[List.take_length];rfl
def idsB (l:List IdL):List UInt8:=(l.map IdL.l).flatten
def SN {l:List IdL} {k:Nat} (hk:k<l.length):idsB (l.take (k+1))=idsB (l.take k)++ (l.getD k id0).l:=by
 unfold idsB
 rw[List.take_succ_eq_append_getElem hk,List.map_append,List.flatten_append,List.getD_eq_getElem?_getD,List.getElem?_eq_getElem hk]
 simp
theorem EH: ∀ (l:List IdL),(idsB l).length=l.length*32
 | []=>rfl
 |x::r=>by
  have h:=EH r
  have:=x.h
  unfold idsB at h ⊢
  rw[List.map_cons,List.flatten_cons,List.length_append,h,List.length_cons]
  omega
def m6 (c:ComL):List UInt8:=c.tree.l++eY (d_ c.par.length)
def comB (c:ComL):List UInt8:=m6 c++idsB c.par++dz c.text
def pU:=aN (aN (aN @xU @GE) (aN @J3 (aN @bB @bA))) (aN (aN @LQ @Kx) (aN @LD (aN @w4 @Ib)))
def WP_ (v:Value) (c:ComL) (w:World) (hv:ComS w v c) (hl:c.par.length<1000000) (ht:c.text.length<1099511627776):
  Rets prog 135 #[v] w (fun v' D=>v'=vs (comB c)∧D= []):=by
 obtain⟨p,rfl,hp⟩:=hv
 obtain⟨b,off,arr,E,fz,hr⟩:=hp.row
 have ln:=hp.len
 have t2:=Ar ht
 have t3:=ij (c.par.length:Int)
 have t4:=c.tree.h
 have t5: (m6 c).length≤38:=by unfold m6;rw[List.length_append];omega
 refine Rets.enterV func135 rfl (rs:= [.tmp 2]) results135 ntmps135 ?_
 refine kf ?_
 refine ky @pU ?_
 refine Ow.box rfl rfl fun bx g_ bT=> ?_
 simp only[ck,cV,ce,ag,List.nil_append,List.cons_append]
 refine Ow.go rfl ?_
 simp(disch:=first|exact dD|fail) only[↓Sx.S0,Sx.S1,fx,pU,Nat.reduceAdd,Nat.reducePow,Int.reducePow,Nat.reduceBEq, ↓reduceIte,UInt8.reduceToNat,UInt16.reduceToNat,UInt32.reduceToNat,UInt64.reduceToNat,Int.reduceToNat]
 refine ky (aN @pU @ln) ?_
 refine Cw.regionS [bx] [0,3,1,4,5,2,6,7,8] [] kR kR kR ?_
 simp only[bF, ↓bE, ↓ay, ↓bD, ↓bC,az]
 refine kq (aN @pU @ln) ?_
 refine Ow.callFV rfl call175 (fun w' aA=>wY _ w') ?_
 refine kq (aN @pU @ln) ?_
 refine Ow.callFV rfl call174 (fun w' aA=>Lu _ _ w' (ap _)) ?_
 refine kq (aN @pU @ln) ?_
 rw[show c.tree.l++eY (d_ c.par.length)=m6 c++idsB (c.par.take 0) by simp[m6,idsB]]
 refine Cw.loopG (G:=Nat) [13,14,15,16,17,20,21,22,23,24,25,26,27,3,18,19,4] (fun g=> [(3,vs (m6 c++idsB (c.par.take g))),(4,vi g)]) (fun g=> [(bx, .cells (bK c.tree p c.text).toArray 126 (0,0))]) (fun g=>g≤c.par.length) (fun g=>c.par.length - g) 0 rfl rfl ?_ ?_
 ·exact aq _
 intro k jk hk
 refine kv ?_
 have h1:k≤c.par.length:=hk
 clear hk
 have t6:=EH (c.par.take k)
 rw[List.length_take,Nat.min_eq_left h1] at t6
 by_cases hk:k<c.par.length
 ·have h0:0<c.par.length:=by omega
  have fE:=hr.lt h0
  have zn:bx≠b:=by omega
  have r2:=hr.has h0
  have i2:=hr.idx true k hk
  have l2:=xC hr hk
  have jO:=(c.par.getD k id0).h
  refine ky (aN @pU (aN @ln (aN @r2 (aN @i2 @l2)))) ?_
  refine Ow.callFV rfl call175 (fun w' aA=>wY _ w') ?_
  refine ko (aN @pU (aN @ln (aN @r2 (aN @i2 @l2)))) ?_
  exact Again.mk (k+1) oM oM rfl (by rw[SN hk,←List.append_assoc];rfl)
 obtain rfl:k=c.par.length:=by omega
 rw[List.take_length]
 rw[List.take_length] at t6
 refine ky (aN @pU @ln) ?_
 refine Ow.callFV rfl call138 (fun w' aA=>II _ w' ht) ?_
 refine ko @pU ?_
 refine⟨_,(ke @pU),⟨bT,trivial⟩, ?_⟩
 rfl
instance:DecidableEq EntL:=fun a b=>if h:a.name=b.name∧a.kind=b.kind∧a.id.l=b.id.l then .isTrue (by cases a;cases b;simp only at h;obtain⟨rfl,rfl,h3⟩:=h;rw[IdL.ext' h3]) else .isFalse (fun e=>h (by rw[e];exact⟨rfl,rfl,rfl⟩))
theorem EntL.ext' {a b:EntL} (h: (a.name==b.name&&a.kind==b.kind&&a.id.l==b.id.l)=true):a=b:=by
 simp only[Bool.and_eq_true,beq_iff_eq] at h
 cases a;cases b;simp only at h;obtain⟨⟨rfl,rfl⟩,h3⟩:=h;rw[IdL.ext' h3]
def pW (l:List UInt8):IdL:=if h:l.length=32 then⟨l,h⟩ else id0
def J2 {l:List UInt8} (h:l.length=32): (pW l).l=l:=by unfold pW;rw[dif_pos h]
def sJ (s:List UInt8) (a:Nat) (e:Int): (idR s a e).1.length=32:=by
 unfold idR
 simp only
 split
 ·assumption
 simp[z32]
def pn {s:List UInt8} {a:Nat} {e:Int} (ha:a≤s.length):a≤ (idR s a e).2.1∧(idR s a e).2.1≤s.length:=vk ha
def y_ {s:List UInt8} {a:Nat} {e most:Int} (ha:a≤s.length):a≤ (aY s a e most).2.1∧(aY s a e most).2.1≤s.length:=by
 have hp:=i_ (e:=e) (most:=most) ha
 have hq:=vk (e:=(aG s a e most).2.2) (n:=(aG s a e most).1) hp.2
 unfold aY
 simp only
 split
 ·exact⟨ap _,ha⟩
 exact⟨by omega,hq.2⟩
def Ks (s:List UInt8) (a:Nat) (e most:Int): (aY s a e most).1.length≤s.length:=by
 have: ∀ (b:Nat) (e n:Int),(ax s b e n).1.length≤s.length:=by
  intro b e n
  unfold ax
  split
  ·simp
  split
  ·simp
  split
  ·simp
  simp only[List.length_take,List.length_drop];omega
 unfold aY
 simp only
 split
 ·simp
 exact this _ _ _
def sX {s:List UInt8} {a:Nat} {e n:Int} (he:e≠0): (ax s a e n).2=(a,e):=by unfold ax;rw[if_pos he]
def xM {s:List UInt8} {a:Nat} {e most:Int} (he:e≠0): (aG s a e most).2=(a,e):=by unfold aG;rw[if_pos he]
def s5 {s:List UInt8} {a:Nat} {e most:Int} (he:e≠0): (aY s a e most).2=(a,e):=by
 unfold aY
 simp only[xM he,sX he]
 rw[if_pos he]
def py {s:List UInt8} {a:Nat} {e:Int} (he:e≠0): (idR s a e).2=(a,e):=by unfold idR;simp only[sX he]
def xE {s:List UInt8} {a:Nat} {e n:Int} (h:e≠5): (ax s a e n).2.2≠5:=by
 unfold ax
 split
 ·exact h
 split
 ·show(2:Int)≠5;decide
 split
 ·show(3:Int)≠5;decide
 show(0:Int)≠5;decide
def XT (most:Int): ∀ (l:List UInt8) (k n x:Nat),bO most l k n= .error x→x≠5:=by
 intro l
 induction l with
 |nil=>intro k n x h;unfold bO at h;cases h;decide
 |cons c r ih=>
  intro k n x h
  unfold bO at h
  split at h
  ·split at h
   ·cases h;decide
   exact ih _ _ _ h
  split at h
  ·cases h;decide
  split at h
  ·cases h
  cases h;decide
def FE (most:Int): ∀ (l:List UInt8) (k n:Nat),bO most l k n≠ .error 0:=by
 intro l
 induction l with
 |nil=>intro k n h;unfold bO at h;cases h
 |cons c r ih=>
  intro k n h
  unfold bO at h
  split at h
  ·split at h
   ·cases h
   exact ih _ _ h
  split at h
  ·cases h
  split at h
  ·cases h
  cases h
def x7 {s:List UInt8} {a:Nat} {e most:Int} (h:e≠5): (aG s a e most).2.2≠5:=by
 unfold aG
 split
 ·exact h
 split
 ·show(0:Int)≠5;decide
 rename_i x hx
 have:=XT _ _ _ _ _ hx
 show((x:Nat):Int)≠5
 omega
def XY {s:List UInt8} {a:Nat} {e most:Int} (h:e≠5): (aY s a e most).2.2≠5:=by
 unfold aY
 simp only
 split
 ·exact xE (x7 h)
 exact xE (x7 h)
def axC_ {s:List UInt8} {a:Nat} {e:Int} (h:e≠5): (idR s a e).2.2≠5:=by unfold idR;exact xE h
def FD {s:List UInt8} {a:Nat} {e most:Int} (h: (aG s a e most).2.2=0):a< (aG s a e most).2.1:=by
 unfold aG at h ⊢
 split
 ·rename_i he
  rw[if_pos he] at h
  exact absurd h he
 rename_i he
 rw[if_neg he] at h
 split
 ·rename_i n k hk
  have:=AV _ _ _ _ _ _ hk
  show a<a+k
  omega
 rename_i x hx
 rw[hx] at h
 exfalso
 have:x=0:=by have: ((x:Nat):Int)=0:=h;omega
 subst this
 exact FE _ _ _ _ hx
def entR (s:List UInt8) (a:Nat) (e:Int):EntL×Nat×Int:=
 let p:=aG s a e 2
 let q:=aY s p.2.1 p.2.2 32
 let i:=idR s q.2.1 q.2.2
 (⟨q.1,p.1,pW i.1⟩,i.2)
def wl {s:List UInt8} {a:Nat} {e:Int} (ha:a≤s.length):a≤ (entR s a e).2.1∧(entR s a e).2.1≤s.length:=by
 have h1:=i_ (e:=e) (most:=2) ha
 have h2:=y_ (e:=(aG s a e 2).2.2) (most:=32) h1.2
 have h3:=pn (e:=(aY s (aG s a e 2).2.1 (aG s a e 2).2.2 32).2.2) h2.2
 unfold entR
 exact⟨by simp only;omega,h3.2⟩
def Yx {s:List UInt8} {a:Nat} {e:Int} (h:e≠5): (entR s a e).2.2≠5:=axC_ (XY (x7 h))
def En {s:List UInt8} {a:Nat} {e:Int} (ha:a≤s.length) (h: (entR s a e).2.2=0):a< (entR s a e).2.1:=by
 have h1:=i_ (e:=e) (most:=2) ha
 have h2:=y_ (e:=(aG s a e 2).2.2) (most:=32) h1.2
 have h3:=pn (e:=(aY s (aG s a e 2).2.1 (aG s a e 2).2.2 32).2.2) h2.2
 unfold entR at h ⊢
 simp only at h ⊢
 have e2: (aY s (aG s a e 2).2.1 (aG s a e 2).2.2 32).2.2=0:=Decidable.byContradiction fun hn=>by rw[py hn] at h;exact hn h
 have e1: (aG s a e 2).2.2=0:=Decidable.byContradiction fun hn=>by rw[s5 hn] at e2;exact hn e2
 have:=FD e1
 omega
def nE (s:List UInt8):Nat→Nat→Int→List EntL→List EntL×Nat×Int
 |0,a,e,l=>(l,a,e)
 |n+1,a,e,l=>if e=0∧a<s.length then nE s n (entR s a e).2.1 (entR s a e).2.2 (l++ [(entR s a e).1]) else(l,a,e)
def Kj {s:List UInt8} {n a:Nat} {e:Int} {l:List EntL} (h:e=0∧a<s.length):nE s (n+1) a e l=nE s n (entR s a e).2.1 (entR s a e).2.2 (l++ [(entR s a e).1]):=by rw[nE,if_pos h]
def Lk {s:List UInt8} {n a:Nat} {e:Int} {l:List EntL} (h: ¬ (e=0∧a<s.length)):nE s n a e l=(l,a,e):=by
 cases n with
 |zero=>rfl
 |succ n=>rw[nE,if_neg h]
def j2 (s:List UInt8):List EntL×Nat×Int:=nE s (s.length+1) 0 0 []
structure EntsJ (s:List UInt8) (n a:Nat) (e:Int) (l:List EntL):Prop where
 go:j2 s=nE s n a e l
 le:a≤s.length
 five:e≠5
 fuel:e=0→s.length<a+n
 cnt:l.length+n=s.length+1
 short: ∀i,i<l.length→(l.getD i cX).name.length≤s.length
def EntsJ.init (s:List UInt8):EntsJ s (s.length+1) 0 0 []:=⟨rfl,aq _,by decide,fun _=>by omega,by simp,fun i hi=>by simp at hi⟩
def EntsJ.next {s:List UInt8} {n a:Nat} {e:Int} {l:List EntL} (h:EntsJ s n a e l) (hc:e=0∧a<s.length): ∃m,n=m+1∧EntsJ s m (entR s a e).2.1 (entR s a e).2.2 (l++ [(entR s a e).1]):=by
 have:=h.fuel hc.1
 obtain⟨m,rfl⟩: ∃m,n=m+1:=⟨n - 1,by omega⟩
 refine⟨m,rfl,h.go.trans (Kj hc),(wl h.le).2,Yx h.five,fun h0=> ?_, ?_,fun i hi=> ?_⟩
 ·have:=En h.le h0;omega
 ·have:=h.cnt;simp only[List.length_append,List.length_cons,List.length_nil];omega
 by_cases aC:i<l.length
 ·rw[BZ aC];exact h.short i aC
 have:i=l.length:=by simp only[List.length_append,List.length_cons,List.length_nil] at hi;omega
 subst this
 rw[By (ap _),Nat.sub_self]
 exact Ks _ _ _ _
def EntsJ.done {s:List UInt8} {n a:Nat} {e:Int} {l:List EntL} (h:EntsJ s n a e l) (hc: ¬ (e=0∧a<s.length)):j2 s=(l,a,e):=h.go.trans (Lk hc)
def EntsJ.sh {s:List UInt8} {n a:Nat} {e:Int} {l:List EntL} (h:EntsJ s n a e l) (hs:s.length<1000000):sZ l:=fun i hi=>by have:=h.short i hi;omega
def P1:fI (d8 prog 117) (au prog 117) []=some (.agg (cI cX).toArray):=by
 rw[show d8 prog 117=some [(0,1),(1,1),(2,32)] from id kR,sf];rfl
def SWz (s:List UInt8):fI (d8 prog 243) (au prog 243) [(0,vs s)]=some (.agg #[vs s,vi 0,vi 0]):=by
 have hp:d8 prog 243=some [(0,1),(1,1),(2,1)]:=id kR
 have hz:au prog 243=some (.agg #[vs [],vi 0,vi 0]):=id kR
 rw[hp,hz];rfl
def m8 (s:List UInt8):Option (List EntL):=if(j2 s).2.2=0∧oq (j2 s).1=true∧j4 (j2 s).1=s then some (j2 s).1 else none
def xA (s:List UInt8) (v:Value) (D:aB):Prop:=
 match m8 s with
 |some l=> ∃v1,v= .tuple #[v1, .bool true]∧Gr D 117 34 v1 l.length (l.map cI).flatten
 |none=>v= .tuple #[.slice none 0 0, .bool false]
structure EnG where
 n:Nat
 a:Nat
 e:Int
 l:List EntL
 v:Value
 D:aB
def fR:=aN (aN (aN @tz (aN @u2 @u5)) (aN @tq (aN @tv @wA))) (aN (aN @Qj (aN @Qv @Ra)) (aN (aN @LY @IQ) (aN @bB @bA)))
def NO (s:List UInt8) (w:World) (hs:s.length<100000):
  Rets prog 68 #[vs s] w (XS w [] (xA s)):=by
 refine Rets.enterX func68 rfl (rs:= [.tmp 2, .tmp 3]) results68 ntmps68 (fun p hp=>by cases hp) (by simp[keys]) ?_
 refine kf ?_
 refine ky @fR ?_
 refine Ow.build ((.agg #[vs s,vi 0,vi 0])) rfl kR ?_
 refine ko @fR ?_
 refine Ow.box rfl rfl fun br gz di=> ?_
 simp only[ck,cV,ce,ag,List.nil_append]
 refine ko @fR ?_
 refine Cw.loopG (G:=EnG) [10,11,12,13,14,15,16,17,18,19,20,21,22,23,24,6,25,26,27,28,29,30,31,32,33,34,35,36,37,5] (fun q=> [(5,q.v)]) (fun q=>(br, .cells #[vs s,vi q.a,vi q.e] 243 (0,0))::q.D) (fun q=>EntsJ s q.n q.a q.e q.l∧New (br+1) q.D∧Gr q.D 117 34 q.v q.l.length (q.l.map cI).flatten) (fun q=>q.n) ⟨s.length+1,0,0,[], .slice none 0 0,[]⟩ rfl rfl ?_ ?_
 ·exact⟨EntsJ.init s,trivial,Gr.nl⟩
 intro q jq hq
 refine kv ?_
 obtain⟨n,a,e,l,v,D⟩:=q
 simp only at hq ⊢
 obtain⟨hJ,hN,hG⟩:=hq
 have dC:=hJ.le
 by_cases hc:e=0∧a<s.length
 ·obtain⟨m,rfl,oz⟩:=hJ.next hc
  obtain⟨he,aC⟩:=hc
  have d1: (e==0)=true:=by simp[he]
  have d2:decide ((a:Int)< (s.length:Int))=true:=aW oM
  have hp:=i_ (e:=e) (most:=2) dC
  have hq:=y_ (e:=(aG s a e 2).2.2) (most:=32) hp.2
  have heq:entR s a e=(⟨(aY s (aG s a e 2).2.1 (aG s a e 2).2.2 32).1,(aG s a e 2).1,pW (idR s (aY s (aG s a e 2).2.1 (aG s a e 2).2.2 32).2.1 (aY s (aG s a e 2).2.1 (aG s a e 2).2.2 32).2.2).1⟩,(idR s (aY s (aG s a e 2).2.1 (aG s a e 2).2.2 32).2.1 (aY s (aG s a e 2).2.1 (aG s a e 2).2.2 32).2.2).2):=rfl
  have iw:=sJ s (aY s (aG s a e 2).2.1 (aG s a e 2).2.2 32).2.1 (aY s (aG s a e 2).2.1 (aG s a e 2).2.2 32).2.2
  refine ky (aN @fR (aN @d1 @d2)) ?_
  refine Ow.build (.agg (cI cX).toArray) rfl P1 ?_
  refine ko @fR ?_
  refine Ow.alloc rfl rfl sf fun b6 gx gF=> ?_
  simp only[ag,List.nil_append,List.cons_append]
  have rV:br<b6:=ak gx (by simp[keys])
  refine Ow.permL (M:=(b6,Obj.cells (cI cX).toArray 117 (0,0)):: (br, .cells #[vs s,vi a,vi e] 243 (0,0))::D) pM ?_
  refine ko @fR ?_
  refine Ow.callM rfl rfl call128 (by simp[keys]) (fun w' aA=>K6 br s a e 2 w' dC oM (aA.has _ _ (av _ aa))) ?_
  generalize aG s a e 2=p at*
  obtain⟨kd,a1,e1⟩:=p
  simp only at hp hq heq iw ⊢
  refine kn ?_
  refine ko @fR ?_
  refine ky @fR ?_
  refine Ow.callM rfl rfl call129 (by simp[keys]) (fun w' aA=>K8 br s a1 e1 32 w' hp.2 oM (aA.has _ _ (av _ aa))) ?_
  generalize aY s a1 e1 32=q at*
  obtain⟨tt,a2,e2⟩:=q
  simp only at hq heq iw ⊢
  refine kn ?_
  refine ko @fR ?_
  refine ky @fR ?_
  refine Ow.callM rfl rfl call130 (by simp[keys]) (fun w' aA=>LZ br s a2 e2 w' hq.2 oM (aA.has _ _ (av _ aa))) ?_
  generalize idR s a2 e2=i at*
  obtain⟨il,a3,e3⟩:=i
  simp only at heq iw ⊢
  obtain⟨I,hI⟩: ∃I,pW il=I:=⟨_,rfl⟩
  have hiI:il=I.l:=by rw[←hI,J2 iw]
  rw[hI] at heq
  rw[hiI]
  refine kn ?_
  refine ko @fR ?_
  generalize hx: ({name:=tt,kind:=kd,id:=I}:EntL)=x
  rw[hx] at heq
  rw[heq] at oz
  refine Ow.buildSlice (e:=117) (cI x).toArray rfl rfl (rk underlying122 Fc sf (by decide) (tn x)) fun b13 xk hw13=> ?_
  have hr13:br<b13:=ak xk (by simp[keys])
  refine Ow.permL (M:=D++ ((b6,Obj.cells (cI x).toArray 117 (0,0)):: (br, .cells #[vs s,vi a3,vi e3] 243 (0,0)):: [(b13,Obj.cells (cI x).toArray 117 (0,0))])) pM ?_
  refine ko @fR ?_
  refine Ow.appendX (e:=117) (k:=1) (new:=cI x) (X:=D) v rfl rfl rfl rfl underlying122 Fc kR sf (by rw[IQ,List.size_toArray,tn]) underlying122 (by intro k h;cases h) hG (fun w' aA=>AppX.one1 (aA.has b13 (.cells (cI x).toArray 117 (0,0)) (by simp)) (tn _) (EQ _)) oM (by have:=hJ.cnt;omega) (fun B v4 D4 fo mn cO iy fw bz=> ?_)
  have hB13:b13<B:=ak fo (by simp[ae,keys])
  have gM:New (br+1) D4:=New.of_le fun q hq=>by
   rcases fw q hq with h|h
   ·exact hN.le q h
   omega
  refine Ow.permL (M:=(br, .cells #[vs s,vi a3,vi e3] 243 (0,0)):: (D4++ [(b6,Obj.cells (cI x).toArray 117 (0,0)),(b13,Obj.cells (cI x).toArray 117 (0,0))])) pM ?_
  refine ko @fR ?_
  refine Again.mk (EnG.mk m a3 e3 (l++ [x]) v4 (D4++ [(b6,Obj.cells (cI x).toArray 117 (0,0)),(b13,Obj.cells (cI x).toArray 117 (0,0))])) (by show m<m+1;omega) ⟨oz,gM.app ⟨by omega,by omega,trivial⟩, ?_⟩ rfl rfl
  show Gr _ _ _ _ (l++ [x]).length ((l++ [x]).map cI).flatten
  rw[List.length_append,List.map_append,List.flatten_append,show([x].map cI).flatten=cI x by simp]
  exact Gr.app (.inl cO)
 have hd:=hJ.done hc
 have iC:=hJ.sh oM
 have uj:=hJ.cnt
 have hR:m8 s=if e=0∧oq l=true∧j4 l=s then some l else none:=by unfold m8;rw[hd]
 unfold xA
 rw[hR]
 have ud:New w.heap.size ((br,Obj.cells #[vs s,vi a,vi e] 243 (0,0))::D):=⟨di,New.mono oM hN⟩
 by_cases he:e=0
 ·have d1: (e==0)=true:=by simp[he]
  have d2:decide ((a:Int)< (s.length:Int))=false:=ah oM
  have mH: (if e≠0 then e else if(a:Int)< (s.length:Int) then 5 else 0)=(0:Int):=by rw[if_neg (by simp[he]),if_neg oM]
  refine ky (aN @fR (aN @d1 @d2)) ?_
  refine Ow.callFV rfl call131 (fun w' aA=>KB br s a e w' (aA.has _ _ (by simp))) ?_
  rw[mH]
  have d4: ((0:Int) !=0)=false:=rfl
  refine ko (aN @fR @d4) ?_
  refine Ow.callFV rfl call132 (fun w' aA=>M5 v l w' (hG.slM (fun b o hm=>aA.has b o (by simp[hm])) rfl rfl tn) oM iC) ?_
  cases hr:oq l
  ·rw[if_neg (by simp)]
   refine ko @fR ?_
   refine ky @fR ?_
   refine⟨_,(ke @fR), ?_⟩
   exact⟨Ext.of_new ud,rfl⟩
  refine ko @fR ?_
  refine Ow.callFV rfl call133 (fun w' aA=>Mz v l w' (hG.slM (fun b o hm=>aA.has b o (by simp[hm])) rfl rfl tn) oM iC) ?_
  by_cases hb:j4 l=s
  ·have d3: (j4 l !=s)=false:=by simp[hb]
   rw[if_pos ⟨he,rfl,hb⟩]
   refine ko (aN @fR @d3) ?_
   refine ky @fR ?_
   refine⟨_,(ke @fR), ?_⟩
   exact⟨Ext.of_new ud,v,rfl,hG.keep fun b o hb ho=>by rw[Sx.look,if_neg (by have:=hN.le b (cC ho);omega)];exact ho⟩
  have d3: (j4 l !=s)=true:=by simp[hb]
  rw[if_neg (fun h=>hb h.2.2)]
  refine ko (aN @fR @d3) ?_
  refine ky @fR ?_
  refine⟨_,(ke @fR), ?_⟩
  exact⟨Ext.of_new ud,rfl⟩
 have d1: (e==0)=false:=by simp[he]
 have d3: (e !=0)=true:=by simp[he]
 have mH: (if e≠0 then e else if(a:Int)< (s.length:Int) then 5 else 0)=e:=by rw[if_pos he]
 rw[if_neg (fun h=>he h.1)]
 refine ky (aN @fR @d1) ?_
 refine Ow.callFV rfl call131 (fun w' aA=>KB br s a e w' (aA.has _ _ (by simp))) ?_
 rw[mH]
 refine ko (aN @fR @d3) ?_
 refine ky @fR ?_
 refine⟨_,(ke @fR), ?_⟩
 exact⟨Ext.of_new ud,rfl⟩
theorem KS (most:Int): ∀ (l:List UInt8) (k n m k':Nat),bO most l k n= .ok (m,k')→(m:Int)≤most
 | [],_,_,_,_,h=>by simp[bO] at h
 |c::r,k,n,m,k',h=>by
  unfold bO at h
  split at h
  ·split at h
   ·cases h
   exact KS most r _ _ _ _ h
  split at h
  ·cases h
  split at h
  ·rename_i hh
   cases h
   exact hh.2
  cases h
def uG {s:List UInt8} {a:Nat} {e most:Int} (h0:0≤most):0≤ (aG s a e most).1∧(aG s a e most).1≤most:=by
 unfold aG
 split
 ·exact⟨Int.le_refl 0,h0⟩
 split
 ·rename_i n k h
  exact⟨Int.natCast_nonneg _,KS most _ _ _ _ _ h⟩
 exact⟨Int.le_refl 0,h0⟩
def cd (s:List UInt8) (a:Nat) (e:Int):Nat→List IdL×Nat×Int
 |0=>([],a,e)
 |n+1=>let p:=cd s a e n;let i:=idR s p.2.1 p.2.2;(p.1++ [pW i.1],i.2)
theorem Kg (s:List UInt8) (a:Nat) (e:Int): ∀n,(cd s a e n).1.length=n
 |0=>rfl
 |n+1=>by simp only[cd,List.length_append,List.length_cons,List.length_nil,Kg s a e n]
theorem Ir {s:List UInt8} {a:Nat} {e:Int} (ha:a≤s.length): ∀n,(cd s a e n).2.1≤s.length
 |0=>ha
 |n+1=>(pn (Ir ha n)).2
def comN (s:List UInt8):Int×Nat×Int:=aG s (idR s 0 0).2.1 (idR s 0 0).2.2 4
def gu (s:List UInt8):List IdL×Nat×Int:=cd s (comN s).2.1 (comN s).2.2 (comN s).1.toNat
def comT (s:List UInt8):List UInt8×Nat×Int:=aY s (gu s).2.1 (gu s).2.2 64
def comE (s:List UInt8):ComL×Nat×Int:=(⟨pW (idR s 0 0).1,(gu s).1,(comT s).1⟩,(comT s).2)
def eS (s:List UInt8) (a:Nat) (e:Int):Int:=if e≠0 then e else if(a:Int)< (s.length:Int) then 5 else 0
def mA (s:List UInt8):Option ComL:=if eS s (comE s).2.1 (comE s).2.2=0∧ml (comE s).1=true∧comB (comE s).1=s then some (comE s).1 else none
def Qz (t x:IdL) (p:Value) (y:List UInt8) (a:Bool) (E:TypeId):aw (some (a,32)) (some (.cells (bK t p y).toArray E (0,0))) 0 (.agg (a8 x.l))=some (.cells (bK x p y).toArray E (0,0)):=
 k9 [] _ _ _ a _ E rfl (by simp[t.h]) (ag _) (by simp[x.h]) (vr _)
def SC (t:IdL) (p q:Value) (y:List UInt8) (a:Bool) (E:TypeId) (hq:Value.oneCell' q=true∧q.cells= #[q]):aw (some (a,1)) (some (.cells (bK t p y).toArray E (0,0))) 32 q=some (.cells (bK t q y).toArray E (0,0)):=
 k9 (t.l.map v8) [p] [q] [vs y] a _ E (by simp[t.h]) rfl hq.2 rfl (by simp[hq.1])
def R8 (t:IdL) (p:Value) (y z:List UInt8) (a:Bool) (E:TypeId):aw (some (a,1)) (some (.cells (bK t p y).toArray E (0,0))) 33 (vs z)=some (.cells (bK t p z).toArray E (0,0)):=by
 have e: ∀y,bK t p y=(t.l.map v8++ [p])++ ([vs y]++ []):=fun y=>by unfold bK;simp only[List.append_assoc,List.append_nil]
 rw[e,e];exact k9 _ _ _ _ a _ E (by simp[t.h]) rfl rfl rfl rfl
def t7:au prog 126=some (.agg (bK id0 (.slice none 0 0) []).toArray):=id kR
def JD:fI (d8 prog 126) (au prog 126) []=some (.agg (bK id0 (.slice none 0 0) []).toArray):=by
 rw[show d8 prog 126=some [(0,32),(32,1),(33,1)] from id kR,t7];rfl
def sa:aK prog 24=some (true,32):=id kR
def nb:au prog 24=some (.agg (a8 id0.l)):=id kR
theorem CK {b:Nat} {x:Obj}: ∀ {D L:aB},b∉keys D→setB (D++L) b x=D++setB L b x
 | [],_,_=>rfl
 | (c,y)::r,L,h=>by
  simp only[keys,List.map_cons,List.mem_cons,not_or] at h
  rw[List.cons_append,vV _ _ _ _ _ (Ne.symm h.1),CK (by simpa [keys] using h.2)];rfl
def xF (s:List UInt8) (v:Value) (D:aB):Prop:=
 match mA s with
 |some c=> ∃p,v= .tuple #[.agg (bK c.tree p c.text).toArray, .bool true]∧Gr D 24 32 p c.par.length (c.par.map gw).flatten
 |none=>v= .tuple #[.agg (bK id0 (.slice none 0 0) []).toArray, .bool false]
def Kn_ (b:Nat) (s:List UInt8) (a:Nat) (e:Int) (w:World) (ho:w.heap[b]? =some (.cells #[vs s,vi a,vi e] 243 (0,0))):
  Rets prog 131 #[vp b 0] w (fun v D=>v=vi (eS s a e)∧D= []):=KB b s a e w ho
structure CmG where
 g:Nat
 v:Value
 D:aB
def eo:=aN (aN (aN @tz (aN @u2 @u5)) (aN (aN @tq @tv) (aN @LQ @Kx))) (aN (aN @LD (aN @w4 @Ib)) (aN (aN @Qz @R8) (aN @bB @bA)))
def Mr (s:List UInt8) (w:World) (hs:s.length<100000):
  Rets prog 69 #[vs s] w (XS w [] (xF s)):=by
 refine Rets.enterX func69 rfl (rs:= [.cell 2 126, .tmp 3]) results69 ntmps69 (fun p hp=>by cases hp) (by simp[keys]) ?_
 refine kf ?_
 refine ky @eo ?_
 refine Ow.alloc rfl rfl t7 fun b2 al bR=> ?_
 simp only[ag,List.nil_append,List.cons_append]
 refine ko @eo ?_
 refine Ow.build ((.agg #[vs s,vi 0,vi 0])) rfl kR ?_
 refine ko @eo ?_
 refine Ow.box rfl rfl fun br gz di=> ?_
 have h2r:b2<br:=ak gz (by simp[keys])
 simp only[ck,cV,ce,ag,List.nil_append,List.cons_append]
 refine ko @eo ?_
 refine Ow.build (.agg (bK id0 (.slice none 0 0) []).toArray) rfl JD ?_
 refine ko @eo ?_
 refine Ow.alloc rfl rfl t7 fun b5 jF gU=> ?_
 simp only[ag,List.nil_append,List.cons_append]
 have h25:b2<b5:=ak jF (by simp[keys])
 have yR:br<b5:=ak jF (by simp[keys])
 have st5: ∀a E,aw (some (a,34)) (some (.cells (bK id0 (.slice none 0 0) []).toArray E (0,0))) 0 (.agg (bK id0 (.slice none 0 0) []).toArray)=some (.cells (bK id0 (.slice none 0 0) []).toArray E (0,0)):=fun a E=>LC _ _ _ _ a E (by rw[List.size_toArray,AY]) rfl
 refine ko (aN @eo @st5) ?_
 refine Ow.callM rfl rfl call130 (by simp[keys]) (fun w' aA=>LZ br s 0 0 w' (aq _) oM (aA.has _ _ (av _ aa))) ?_
 have ip:=pn (s:=s) (a:=0) (e:=0) (aq _)
 have np:=i_ (e:=(idR s 0 0).2.2) (most:=4) ip.2
 have nm:=uG (s:=s) (a:=(idR s 0 0).2.1) (e:=(idR s 0 0).2.2) (most:=4) (by decide)
 obtain⟨T,hT⟩: ∃T,pW (idR s 0 0).1=T:=⟨_,rfl⟩
 have hiT: (idR s 0 0).1=T.l:=by rw[←hT,J2 (sJ s 0 0)]
 have hcE:comE s=(⟨T,(gu s).1,(comT s).1⟩,(comT s).2):=by unfold comE;rw[hT]
 rw[hiT]
 refine kn ?_
 refine ko @eo ?_
 refine Ow.callM rfl rfl call128 (by simp[keys]) (fun w' aA=>K6 br s _ _ 4 w' ip.2 oM (aA.has _ _ (av _ aa))) ?_
 have hP:gu s=cd s (aG s (idR s 0 0).2.1 (idR s 0 0).2.2 4).2.1 (aG s (idR s 0 0).2.1 (idR s 0 0).2.2 4).2.2 (aG s (idR s 0 0).2.1 (idR s 0 0).2.2 4).1.toNat:=rfl
 generalize aG s (idR s 0 0).2.1 (idR s 0 0).2.2 4=nr at*
 obtain⟨cn,na,ne⟩:=nr
 simp only at np nm hP ⊢
 obtain⟨k,rfl⟩:=Int.eq_ofNat_of_zero_le nm.1
 rw[Int.toNat_natCast] at hP
 refine kn ?_
 refine ko @eo ?_
 refine Cw.permL (M:=(b5, .cells (bK T (.slice none 0 0) []).toArray 126 (0,0)):: (br, .cells #[vs s,vi na,vi ne] 243 (0,0)):: (b2, .cells (bK id0 (.slice none 0 0) []).toArray 126 (0,0)):: []) pM ?_
 refine Cw.loopG (G:=CmG) [17,18,19,22,23,24,25,26,27,28,20,21,7] (fun q=> [(7,vi q.g)]) (fun q=>(b5, .cells (bK T q.v []).toArray 126 (0,0)):: (br, .cells #[vs s,vi (cd s na ne q.g).2.1,vi (cd s na ne q.g).2.2] 243 (0,0)):: (b2, .cells (bK id0 (.slice none 0 0) []).toArray 126 (0,0))::q.D) (fun q=>q.g≤k∧New (b5+1) q.D∧Gr q.D 24 32 q.v q.g ((cd s na ne q.g).1.map gw).flatten) (fun q=>k - q.g) ⟨0, .slice none 0 0,[]⟩ rfl rfl ?_ ?_
 ·exact⟨aq _,trivial,Gr.nl⟩
 intro q jq hq
 refine kv ?_
 obtain⟨g,v,D⟩:=q
 simp only at hq ⊢
 obtain⟨hgk,hN,hG⟩:=hq
 have gle:=Ir (e:=ne) np.2 g
 by_cases aC:g<k
 ·have hgs:cd s na ne (g+1)=((cd s na ne g).1++ [pW (idR s (cd s na ne g).2.1 (cd s na ne g).2.2).1],(idR s (cd s na ne g).2.1 (cd s na ne g).2.2).2):=rfl
  refine kz [7] @eo ?_
  refine Cw.regionS [b5] [0,2,1,3,4,5,6,7] [7] kR kR kR ?_
  simp only[bF, ↓bE, ↓ay, ↓bD, ↓bC,az]
  refine kq @eo ?_
  refine Ow.soft rfl rfl rfl ?_
  refine Ow.callM rfl rfl call130 (by simp[keys]) (fun w' aA=>LZ br s (cd s na ne g).2.1 (cd s na ne g).2.2 w' gle oM (aA.has _ _ (av _ aa))) ?_
  with_reducible refine Ow.nil ?_
  refine⟨fun b hb=>AN (by simp only[List.mem_cons,List.not_mem_nil,or_false] at hb;omega), ?_⟩
  have iw:=sJ s (cd s na ne g).2.1 (cd s na ne g).2.2
  obtain⟨I,hI⟩: ∃I,pW (idR s (cd s na ne g).2.1 (cd s na ne g).2.2).1=I:=⟨_,rfl⟩
  have hiI: (idR s (cd s na ne g).2.1 (cd s na ne g).2.2).1=I.l:=by rw[←hI,J2 iw]
  rw[hI] at hgs
  have lR: (cd s na ne (g+1)).1=(cd s na ne g).1++ [I]:=by rw[hgs]
  have mu: (cd s na ne (g+1)).2=(idR s (cd s na ne g).2.1 (cd s na ne g).2.2).2:=by rw[hgs]
  rw[hiI,←mu]
  refine kn ?_
  refine Ow.soft rfl rfl rfl ?_
  refine Ow.buildSlice (e:=24) (a8 I.l) rfl rfl (rk (cs:=I.l.map v8) underlying30 sa nb (by decide) (by simp[I.h])) fun b13 xk hw13=> ?_
  have hr13:b5<b13:=ak xk (by simp[keys])
  with_reducible refine Ow.nil ?_
  refine⟨ma (by simp[keys]), ?_⟩
  try simp only[List.cons_append,List.nil_append]
  refine Ow.soft rfl rfl rfl ?_
  refine Ow.permL (M:=D++ ((b5,Obj.cells (bK T v []).toArray 126 (0,0)):: (br,Obj.cells #[vs s,vi (cd s na ne (g+1)).2.1,vi (cd s na ne (g+1)).2.2] 243 (0,0)):: (b2,Obj.cells (bK id0 (.slice none 0 0) []).toArray 126 (0,0)):: [(b13,Obj.cells (a8 I.l) 24 (0,0))])) pM ?_
  refine Ow.appendX (e:=24) (k:=1) (new:=gw I) (X:=D) v rfl rfl rfl rfl underlying30 sa kR nb (by rw[ag,vZ,id0.h]) underlying30 (by intro k h;cases h) hG (fun w' aA=>AppX.one1 (aA.has b13 (.cells (a8 I.l) 24 (0,0)) (by simp)) (Az I) (CD I)) oM oM (fun B v4 D4 fo mn cO iy fw bz=> ?_)
  have hB13:b13<B:=ak fo (by simp[ae,keys])
  have gM:New (b5+1) D4:=New.of_le fun q hq=>by
   rcases fw q hq with h|h
   ·exact hN.le q h
   omega
  have h54:b5∉keys D4:=gM.not oM
  with_reducible refine Ow.nil ?_
  refine⟨fun q hq=> ?_, ?_⟩
  ·rw[List.mem_singleton] at hq
   subst hq
   rw[JB h54]
   simp only[oH]
  have jz: ∀M,Sx.look (D4++M) b5=Sx.look M b5:=fun M=>g8 h54
  have Hx: ∀M x,setB (D4++M) b5 x=D4++setB M b5 x:=fun M x=>CK h54
  have st5:=fun a E=>SC T v v4 [] a E cO.cell
  refine kq (aN @eo (aN @jz (aN @Hx (aN @st5 @n8)))) ?_
  have f_:rY (aK prog 30) (D4++ [(b5,Obj.cells (bK T v []).toArray 126 (0,0)),(br,Obj.cells #[vs s,vi (cd s na ne (g+1)).2.1,vi (cd s na ne (g+1)).2.2] 243 (0,0)),(b2,Obj.cells (bK id0 (.slice none 0 0) []).toArray 126 (0,0)),(b13,Obj.cells (a8 I.l) 24 (0,0))]) (vp b5 32) v4=
    some (D4++ [(b5,Obj.cells (bK T v4 []).toArray 126 (0,0)),(br,Obj.cells #[vs s,vi (cd s na ne (g+1)).2.1,vi (cd s na ne (g+1)).2.2] 243 (0,0)),(b2,Obj.cells (bK id0 (.slice none 0 0) []).toArray 126 (0,0)),(b13,Obj.cells (a8 I.l) 24 (0,0))]):=by
   rw[ag30,AD,jz]
   simp only[fN,st5,zH,Hx,n5]
  refine Ow.store rfl rfl rfl f_ ?_
  refine ko @eo ?_
  refine Cw.permL (M:=(b5,Obj.cells (bK T v4 []).toArray 126 (0,0)):: (br,Obj.cells #[vs s,vi (cd s na ne (g+1)).2.1,vi (cd s na ne (g+1)).2.2] 243 (0,0)):: (b2,Obj.cells (bK id0 (.slice none 0 0) []).toArray 126 (0,0)):: (D4++ [(b13,Obj.cells (a8 I.l) 24 (0,0))])) pM ?_
  refine ky @eo ?_
  refine Again.mk (CmG.mk (g+1) v4 (D4++ [(b13,Obj.cells (a8 I.l) 24 (0,0))])) (by show k - (g+1)<k - g;omega) ⟨by show g+1≤k;omega,gM.app ⟨by omega,trivial⟩, ?_⟩ rfl rfl
  show Gr _ _ _ _ (g+1) ((cd s na ne (g+1)).1.map gw).flatten
  rw[lR,List.map_append,List.flatten_append,show([I].map gw).flatten=gw I by simp]
  exact Gr.app (.inl cO)
 obtain rfl:g=k:=by omega
 rw[←hP] at hG
 rw[←hP] at gle
 rw[←hP]
 have tp:=y_ (e:=(gu s).2.2) (most:=64) gle
 refine ky @eo ?_
 refine Ow.callM rfl rfl call129 (by simp[keys]) (fun w' aA=>K8 br s (gu s).2.1 (gu s).2.2 64 w' gle oM (aA.has _ _ (av _ aa))) ?_
 refine kn ?_
 refine ko @eo ?_
 have hT2:comT s=aY s (gu s).2.1 (gu s).2.2 64:=rfl
 have dE:=Ks s (gu s).2.1 (gu s).2.2 64
 rw[hT2] at hcE
 generalize aY s (gu s).2.1 (gu s).2.2 64=tx at*
 obtain⟨tt,a3,e3⟩:=tx
 simp only at tp hcE dE ⊢
 have hPl: (gu s).1.length=g:=by rw[hP,Kg]
 generalize (gu s).1=pl at*
 have hg4:g≤4:=by omega
 have hC: ∀w',Hp w ((b5,Obj.cells (bK T v tt).toArray 126 (0,0)):: (br, .cells #[vs s,vi a3,vi e3] 243 (0,0)):: (b2,Obj.cells (bK id0 (.slice none 0 0) []).toArray 126 (0,0))::D) w'→ComS w' (.agg (bK T v tt).toArray) ⟨T,pl,tt⟩:=fun w' aA=>
  ⟨v,rfl,hG.slM (fun b o hm=>aA.has b o (by simp[hm])) hPl rfl Az⟩
 have ud:New w.heap.size ((b5,Obj.cells (bK T v tt).toArray 126 (0,0)):: (br, .cells #[vs s,vi a3,vi e3] 243 (0,0)):: (b2,Obj.cells (bK id0 (.slice none 0 0) []).toArray 126 (0,0))::D):=⟨gU,di,bR,New.mono oM hN⟩
 have hR:mA s=if eS s a3 e3=0∧ml ⟨T,pl,tt⟩=true∧comB ⟨T,pl,tt⟩=s then some ⟨T,pl,tt⟩ else none:=by unfold mA;rw[hcE]
 have stz: ∀a E,aw (some (a,34)) (some (.cells (bK id0 (.slice none 0 0) []).toArray E (0,0))) 0 (.agg (bK id0 (.slice none 0 0) []).toArray)=some (.cells (bK id0 (.slice none 0 0) []).toArray E (0,0)):=st5
 unfold xF
 rw[hR]
 refine Ow.callFV rfl call131 (fun w' aA=>Kn_ br s a3 e3 w' (aA.has _ _ (av _ aa))) ?_
 by_cases he:eS s a3 e3=0
 ·have d1: (eS s a3 e3 !=0)=false:=by simp[he]
  refine ko (aN @eo @d1) ?_
  refine Ow.callFV rfl call134 (fun w' aA=>KE_ _ _ w' (hC w' aA) (by show pl.length<1000000;omega) (by show tt.length<1099511627776;omega)) ?_
  cases hr:ml ⟨T,pl,tt⟩
  ·rw[if_neg (by simp)]
   refine ko @eo ?_
   refine Ow.build (.agg (bK id0 (.slice none 0 0) []).toArray) rfl JD ?_
   refine ko (aN @eo @stz) ?_
   refine ky @eo ?_
   refine⟨_,(ke @eo), ?_⟩
   exact⟨Ext.of_new ud,rfl⟩
  refine ko @eo ?_
  refine Ow.callFV rfl call135 (fun w' aA=>WP_ _ _ w' (hC w' aA) (by show pl.length<1000000;omega) (by show tt.length<1099511627776;omega)) ?_
  by_cases hb:comB ⟨T,pl,tt⟩=s
  ·have d3: (comB ⟨T,pl,tt⟩ !=s)=false:=by simp[hb]
   have stq: ∀a E,aw (some (a,34)) (some (.cells (bK id0 (.slice none 0 0) []).toArray E (0,0))) 0 (.agg (bK T v tt).toArray)=some (.cells (bK T v tt).toArray E (0,0)):=fun a E=>LC _ _ _ _ a E (by rw[List.size_toArray,AY]) hG.cell.1
   rw[if_pos ⟨he,rfl,hb⟩]
   refine ko (aN @eo (aN @d3 @stq)) ?_
   refine ky @eo ?_
   refine⟨_,(ke @eo), ?_⟩
   refine⟨Ext.of_new ⟨gU,di,bR,New.mono oM hN⟩,v,rfl, ?_⟩
   show Gr _ _ _ _ pl.length (pl.map gw).flatten
   rw[hPl]
   exact hG.keep fun b o hb ho=>by
    have:=hN.le b (cC ho)
    simp(disch:=omega) only[pI]
    exact ho
  have d3: (comB ⟨T,pl,tt⟩ !=s)=true:=by simp[hb]
  rw[if_neg (fun h=>hb h.2.2)]
  refine ko (aN @eo @d3) ?_
  refine Ow.build (.agg (bK id0 (.slice none 0 0) []).toArray) rfl JD ?_
  refine ko (aN @eo @stz) ?_
  refine ky @eo ?_
  refine⟨_,(ke @eo), ?_⟩
  exact⟨Ext.of_new ud,rfl⟩
 have d1: (eS s a3 e3 !=0)=true:=by simp[he]
 rw[if_neg (fun h=>he h.1)]
 refine ko (aN @eo @d1) ?_
 refine Ow.build (.agg (bK id0 (.slice none 0 0) []).toArray) rfl JD ?_
 refine ko (aN @eo @stz) ?_
 refine ky @eo ?_
 refine⟨_,(ke @eo), ?_⟩
 exact⟨Ext.of_new ud,rfl⟩
abbrev obV (k:Int) (t:List UInt8):Value:= .agg #[vi k,vs t]
def zM (k:Int) (t:List UInt8) (E:TypeId) (fz:Nat×Nat):aQ (some (true,2)) (some (.cells #[vi k,vs t] E fz)) 0=some (obV k t):=(rfl)
def zJ (k:Int) (t:List UInt8) (n:Nat) (E:TypeId) (fz:Nat×Nat):aQ (some (false,n)) (some (.cells #[vi k,vs t] E fz)) 0=some (vi k):=(rfl)
def z8 (k:Int) (t:List UInt8) (n:Nat) (E:TypeId) (fz:Nat×Nat):aQ (some (false,n)) (some (.cells #[vi k,vs t] E fz)) 1=some (vs t):=(rfl)
def zS (k k':Int) (t t':List UInt8) (a:Bool) (E:TypeId):aw (some (a,2)) (some (.cells #[vi k',vs t'] E (0,0))) 0 (obV k t)=some (.cells #[vi k,vs t] E (0,0)):=(rfl)
def RdOk (k:Int) (t:List UInt8):Bool:=
 if 1≤k∧k≤3∧t.length≤4096 then
  (if k=1 then true else if k=2 then(eS t (j2 t).2.1 (j2 t).2.2==0&&oq (j2 t).1) else(eS t (comE t).2.1 (comE t).2.2==0&&ml (comE t).1))
 else false
def zrOb:au prog 35=some (obV 0 []):=id kR
def At:fI (d8 prog 35) (au prog 35) []=some (obV 0 []):=by
 have hp:d8 prog 35=some [(0,1),(1,1)]:=id kR
 rw[hp,zrOb];rfl
def Came.newE {w0:World} {L X D:aB} {b:Nat} (hC:Came w0 L X D) (hN:New (b+1) X) (hb:b∈keys L):New (b+1) D:=New.of_le fun c hc=>by
 rcases hC.new c hc with h| ⟨h,-⟩
 ·exact hN.le c h
 have:=ak h hb;omega
def GI (k:Int):List UInt8:=(([32,98,116,99]:List UInt8).take (k+1).toNat).drop k.toNat
def Zm (k:Int) (t:List UInt8):List UInt8:=GI k++dz t
def mf:=aN (aN (aN @zM @zJ) (aN @z8 @zS)) (aN (aN @Sx.tup2_0 @Sx.tup2_1) (aN @Ib (aN @bB @bA)))
def k5 (k:Int) (t:List UInt8):Bool:=if 4096<t.length then false else if k=2 then(m8 t).isSome else if k=3 then(mA t).isSome else k==1
def Vz_ (k:Int) (t:List UInt8) (w:World):Rets prog 19 #[obV k t] w (fun v D=>v= .bool (k5 k t)∧D= []):=by
 refine Rets.enterV func19 rfl (rs:= [.tmp 2]) results19 ntmps19 ?_
 refine kf ?_
 refine ky @mf ?_
 refine Ow.box rfl rfl fun b1 aO aP=> ?_
 simp only[ck,cV,ce,ag,List.nil_append]
 refine ko @mf ?_
 unfold k5
 by_cases h3:4096<t.length
 ·have d1:decide (4096< (t.length:Int))=true:=aW oM
  rw[if_pos h3]
  refine ky (aN @mf @d1) ?_
  refine⟨_,(ke @mf),⟨aP,trivial⟩, ?_⟩
  rfl
 have d1:decide (4096< (t.length:Int))=false:=ah oM
 rw[if_neg h3]
 by_cases h2:k=2
 ·subst h2
  rw[if_pos rfl]
  refine ky (aN @mf @d1) ?_
  refine Ow.callC rfl rfl call68 (fun w' aA=>NO t w' oM) (fun B v D hA hB hN hS=> ?_)
  obtain⟨p,b,rfl,hb⟩: ∃p b,v= .tuple #[p, .bool b]∧(m8 t).isSome=b:=by
   unfold xA at hS
   cases h:m8 t with
   |none=>rw[h] at hS;exact⟨_,_,hS,rfl⟩
   |some l=>rw[h] at hS;obtain⟨v1,rfl,-⟩:=hS;exact⟨_,_,rfl,rfl⟩
  rw[hb]
  refine ko @mf ?_
  refine ky @mf ?_
  refine⟨_,(ke @mf),⟨aP,New.mono hB hN⟩, ?_⟩
  rfl
 have d2: (k==2)=false:=by simpa using h2
 rw[if_neg h2]
 by_cases h4:k=3
 ·subst h4
  rw[if_pos rfl]
  refine ky (aN @mf (aN @d1 @d2)) ?_
  refine Ow.callC rfl rfl call69 (fun w' aA=>Mr t w' oM) (fun B v D hA hB hN hS=> ?_)
  obtain⟨c,p,x,b,rfl,hp,hb⟩: ∃c p x b,v= .tuple #[.agg (bK c p x).toArray, .bool b]∧Value.oneCell' p=true∧(mA t).isSome=b:=by
   unfold xF at hS
   cases h:mA t with
   |none=>rw[h] at hS;exact⟨_,_,_,_,hS,rfl,rfl⟩
   |some l=>rw[h] at hS;obtain⟨v1,rfl,hg⟩:=hS;exact⟨_,_,_,_,rfl,hg.cell.1,rfl⟩
  rw[hb]
  have stq: ∀a E,aw (some (a,34)) (some (.cells (bK id0 (.slice none 0 0) []).toArray E (0,0))) 0 (.agg (bK c p x).toArray)=some (.cells (bK c p x).toArray E (0,0)):=fun a E=>LC _ _ _ _ a E (by rw[List.size_toArray,AY]) hp
  refine ko @mf ?_
  refine Ow.alloc rfl rfl t7 fun b5 jF gU=> ?_
  simp only[ag,List.nil_append,List.cons_append]
  refine Ow.permL (M:=(b5,Obj.cells (bK id0 (.slice none 0 0) []).toArray 126 (0,0)):: (b1,Obj.cells #[vi 3,vs t] 35 (0,0))::D) pM ?_
  refine ko (aN @mf @stq) ?_
  refine ky @mf ?_
  refine⟨_,(ke @mf),⟨gU,aP,New.mono hB hN⟩, ?_⟩
  rfl
 have d3: (k==3)=false:=by simpa using h4
 rw[if_neg h4]
 refine ky (aN @mf (aN @d1 (aN @d2 @d3))) ?_
 refine⟨_,(ke @mf),⟨aP,trivial⟩, ?_⟩
 rfl
def Q4 (most:Int): ∀ (l:List UInt8) (k acc m k':Nat),bO most l k acc= .ok (m,k')→ ∃n,l=eY n++l.drop (k' - k)∧m=acc+n*128^k∧(0<k→0<n)∧k<k':=by
 intro l
 induction l with
 |nil=>intro k acc m k' h;simp[bO] at h
 |cons c r ih=>
  intro k acc m k' h
  unfold bO at h
  have k_:=c.toNat_lt
  split at h
  ·rename_i hc
   split at h
   ·cases h
   obtain⟨n,h1,h2,h3,h4⟩:=ih _ _ _ _ h
   have hn:=h3 oM
   refine⟨c.toNat%128+128*n, ?_, ?_,fun _=>by omega,by omega⟩
   ·rw[AU oM,show(c.toNat%128+128*n) / 128=n by omega,show(c.toNat%128+128*n)%128+128=c.toNat by omega]
    rw[show k' - k=(k' - (k+1))+1 by omega,List.drop_succ_cons,List.cons_append,←h1]
    simp
   rw[h2,Nat.pow_succ,Nat.add_mul,Nat.add_assoc]
   congr 2
   rw[Nat.mul_comm 128 n,Nat.mul_assoc,Nat.mul_comm (128^k) 128]
  rename_i hc
  split at h
  ·cases h
  rename_i hz
  split at h
  ·cases h
   refine⟨c.toNat, ?_, ?_,fun hk=>by omega,by omega⟩
   ·rw[A6 oM,Nat.add_sub_cancel_left]
    simp
   rw[Nat.mod_eq_of_lt oM]
  cases h
def Lb {n:Nat} (h:n≤1099511627775):d_ (n:Int)=n:=IH oM
theorem X6_ (most:Int): ∀ (l:List UInt8) (k n m k':Nat),bO most l k n= .ok (m,k')→m≤1099511627775
 | [],_,_,_,_,h=>by simp[bO] at h
 |c::r,k,n,m,k',h=>by
  unfold bO at h
  split at h
  ·split at h
   ·cases h
   exact X6_ most r _ _ _ _ h
  split at h
  ·cases h
  split at h
  ·rename_i hh
   cases h
   exact hh.1
  cases h
def Ln {s:List UInt8} {a:Nat} {most:Int} (h: (aG s a 0 most).2.2=0): ∃n:Nat,(aG s a 0 most).1=(n:Int)∧n≤1099511627775∧(n:Int)≤most∧s.drop a=eY n++s.drop (aG s a 0 most).2.1:=by
 unfold aG at h ⊢
 rw[if_neg (by simp)] at h ⊢
 cases hg:bO most (s.drop a) 0 0 with
 |ok p=>
  obtain⟨m,k⟩:=p
  obtain⟨n,h1,h2,-,-⟩:=Q4 _ _ _ _ _ _ hg
  obtain rfl:m=n:=by rw[h2];simp
  refine⟨m,rfl,X6_ _ _ _ _ _ _ hg,KS _ _ _ _ _ _ hg, ?_⟩
  rw[Nat.sub_zero,List.drop_drop] at h1
  exact h1
 |error x=>
  rw[hg] at h
  exfalso
  have:x=0:=by have: ((x:Nat):Int)=0:=h;omega
  subst this
  exact FE _ _ _ _ hg
def BC {s:List UInt8} {a:Nat} {n:Int} (ha:a≤s.length) (h: (ax s a 0 n).2.2=0):0≤n∧(ax s a 0 n).1.length=n.toNat∧s.drop a=(ax s a 0 n).1++s.drop (ax s a 0 n).2.1:=by
 unfold ax at h ⊢
 rw[if_neg (by simp)] at h ⊢
 split at h
 ·exact absurd (show(2:Int)=0 from h) (by decide)
 rename_i h1
 rw[if_neg h1]
 split at h
 ·exact absurd (show(3:Int)=0 from h) (by decide)
 rename_i h2
 rw[if_neg h2]
 refine⟨by omega, ?_, ?_⟩
 ·simp only[List.length_take,List.length_drop];omega
 simp only
 rw[←List.drop_drop,List.take_append_drop]
def Wx_ {s:List UInt8} {a:Nat} {most:Int} (ha:a≤s.length) (h: (aY s a 0 most).2.2=0): ((aY s a 0 most).1.length:Int)≤most∧s.drop a=dz (aY s a 0 most).1++s.drop (aY s a 0 most).2.1:=by
 have dC:=i_ (e:=0) (most:=most) ha
 have e1: (aG s a 0 most).2.2=0:=Decidable.byContradiction fun hn=>by
  unfold aY at h
  simp only[sX hn] at h
  rw[if_pos hn] at h
  exact hn h
 obtain⟨n,hn,hb,hm,hd⟩:=Ln e1
 unfold aY at h ⊢
 simp only at h ⊢
 generalize aG s a 0 most=p at*
 obtain⟨p1,p2,p3⟩:=p
 simp only at e1 hn hd dC h ⊢
 subst e1 hn
 have e2: (ax s p2 0 (n:Int)).2.2=0:=Decidable.byContradiction fun hh=>by rw[if_pos hh] at h;exact hh h
 rw[if_neg (by simp[e2])]
 obtain⟨-,hl,hr⟩:=BC dC.2 e2
 rw[Int.toNat_natCast] at hl
 refine⟨by rw[hl];exact hm, ?_⟩
 unfold dz
 rw[hl,Lb hb,List.append_assoc,←hr]
 exact hd
def Ke {s:List UInt8} {a:Nat} (ha:a≤s.length) (h: (idR s a 0).2.2=0):s.drop a=(pW (idR s a 0).1).l++s.drop (idR s a 0).2.1:=by
 have e2: (ax s a 0 32).2.2=0:=h
 obtain⟨-,hl,hr⟩:=BC ha e2
 rw[J2 (sJ s a 0)]
 unfold idR
 simp only
 have lS: (ax s a 0 32).1.length=32:=hl
 rw[if_pos lS]
 exact hr
def Qg {s:List UInt8} {a:Nat} (ha:a≤s.length) (h: (entR s a 0).2.2=0):s.drop a=entB (entR s a 0).1++s.drop (entR s a 0).2.1:=by
 have hq:=i_ (e:=0) (most:=2) ha
 unfold entR at h ⊢
 simp only at h ⊢
 have e1: (aG s a 0 2).2.2=0:=Decidable.byContradiction fun hn=>by
  rw[py (by rw[s5 hn];exact hn),s5 hn] at h;exact hn h
 obtain⟨n,hn,hb,-,hd⟩:=Ln e1
 generalize aG s a 0 2=p at*
 obtain⟨p1,p2,p3⟩:=p
 simp only at e1 hn hd hq h ⊢
 subst e1 hn
 have ht:=y_ (e:=0) (most:=32) hq.2
 have e2: (aY s p2 0 32).2.2=0:=Decidable.byContradiction fun hn=>by rw[py hn] at h;exact hn h
 obtain⟨-,gO⟩:=Wx_ hq.2 e2
 generalize aY s p2 0 32=q at*
 obtain⟨q1,q2,q3⟩:=q
 simp only at e2 gO ht h ⊢
 subst e2
 have hd3:=Ke ht.2 h
 unfold entB
 simp only
 rw[Lb hb,List.append_assoc,List.append_assoc,←hd3,←gO]
 exact hd
def QU (l:List EntL) (x:EntL):j4 (l++ [x])=j4 l++entB x:=by unfold j4;simp
theorem XW_ {s:List UInt8}: ∀ (n a:Nat) (e:Int) (l:List EntL),a≤s.length→(e=0→s=j4 l++s.drop a)→((nE s n a e l).2.2=0→s=j4 (nE s n a e l).1++s.drop (nE s n a e l).2.1)
 |0,_,_,_,_,h=>h
 |n+1,a,e,l,ha,h=>by
  by_cases hc:e=0∧a<s.length
  ·rw[Kj hc]
   refine XW_ n _ _ _ (wl ha).2 fun h0=> ?_
   obtain⟨rfl,-⟩:=hc
   rw[QU,List.append_assoc,←Qg ha h0]
   exact h rfl
  rw[Lk hc]
  exact h
def Kh {s:List UInt8} {a:Nat} {e:Int} (h:eS s a e=0):e=0∧s.length≤a:=by
 unfold eS at h
 split at h
 ·rename_i he;exact absurd h he
 rename_i he
 split at h
 ·exact absurd h (by decide)
 exact⟨Decidable.byContradiction he,by omega⟩
def PF {s:List UInt8} (h:eS s (j2 s).2.1 (j2 s).2.2=0):j4 (j2 s).1=s:=by
 obtain⟨h1,h2⟩:=Kh h
 have:=XW_ (s:=s) (s.length+1) 0 0 [] (aq _) (fun _=>by simp[j4]) h1
 rw[show nE s (s.length+1) 0 0 []=j2 s from rfl,List.drop_eq_nil_of_le h2,List.append_nil] at this
 exact this.symm
theorem Wb_ {s:List UInt8}: ∀ (n a:Nat) (e:Int) (l:List EntL),a≤s.length→(e=0→s.length<a+n)→(nE s n a e l).2.2=0→s.length≤ (nE s n a e l).2.1
 |0,a,e,l,ha,hf,h=>by have:=hf h;show s.length≤a;omega
 |n+1,a,e,l,ha,hf,h=>by
  by_cases hc:e=0∧a<s.length
  ·rw[Kj hc] at h ⊢
   refine Wb_ n _ _ _ (wl ha).2 (fun h0=> ?_) h
   obtain⟨rfl,-⟩:=hc
   have:=En ha h0
   have:=hf rfl
   omega
  rw[Lk hc] at h ⊢
  have h':e=0:=h
  exact Decidable.byContradiction fun hn=>hc ⟨h',by have ad: ¬s.length≤a:=hn;omega⟩
def Cl (s:List UInt8): (eS s (j2 s).2.1 (j2 s).2.2=0)↔(j2 s).2.2=0:=by
 refine⟨fun h=>(Kh h).1,fun h=> ?_⟩
 have:=Wb_ (s:=s) (s.length+1) 0 0 [] (aq _) (fun _=>by omega) h
 have h2:s.length≤ (j2 s).2.1:=this
 unfold eS
 rw[if_neg (by simp[h]),if_neg oM]
def Tc (l:List IdL) (x:IdL):idsB (l++ [x])=idsB l++x.l:=by unfold idsB;simp
theorem VW_ {s:List UInt8} {a:Nat} (ha:a≤s.length): ∀n,(cd s a 0 n).2.2=0→s.drop a=idsB (cd s a 0 n).1++s.drop (cd s a 0 n).2.1
 |0,_=>by simp[cd,idsB]
 |n+1,h=>by
  unfold cd at h ⊢
  simp only at h ⊢
  have e1: (cd s a 0 n).2.2=0:=Decidable.byContradiction fun hn=>by rw[py hn] at h;exact hn h
  have ih:=VW_ ha n e1
  have hl:=Ir (e:=0) ha n
  generalize cd s a 0 n=p at*
  obtain⟨p1,p2,p3⟩:=p
  simp only at e1 ih hl h ⊢
  subst e1
  rw[Tc,List.append_assoc,←Ke hl h]
  exact ih
theorem FL {s:List UInt8} {a:Nat} {e:Int} (he:e≠0): ∀n,(cd s a e n).2=(a,e)
 |0=>rfl
 |n+1=>by
  have ih:=FL (s:=s) (a:=a) he n
  unfold cd
  simp only
  rw[ih,py he]
def Rr {s:List UInt8} (h:eS s (comE s).2.1 (comE s).2.2=0):comB (comE s).1=s:=by
 obtain⟨h1,h2⟩:=Kh h
 have ip:=pn (s:=s) (a:=0) (e:=0) (aq _)
 have np:=i_ (e:=(idR s 0 0).2.2) (most:=4) ip.2
 unfold comE at h1 h2 ⊢
 simp only at h1 h2 ⊢
 have e3: (gu s).2.2=0:=Decidable.byContradiction fun hn=>by unfold comT at h1;rw[s5 hn] at h1;exact hn h1
 have e2: (comN s).2.2=0:=Decidable.byContradiction fun hn=>by unfold gu at e3;rw[FL hn] at e3;exact hn e3
 have e1: (idR s 0 0).2.2=0:=Decidable.byContradiction fun hn=>by unfold comN at e2;rw[xM hn] at e2;exact hn e2
 have d1:=Ke (aq _) e1
 rw[e1] at np
 have JZ:comN s=aG s (idR s 0 0).2.1 0 4:=by unfold comN;rw[e1]
 rw[JZ] at e2
 obtain⟨n,hn,hb,-,d2⟩:=Ln e2
 have H8:gu s=cd s (comN s).2.1 0 n:=by unfold gu;rw[JZ,e2,hn,Int.toNat_natCast]
 have hp: (comN s).2.1≤s.length:=by rw[JZ];exact np.2
 rw[H8] at e3
 have d3:=VW_ hp n e3
 have fy: (gu s).1.length=n:=by rw[H8,Kg]
 have hcT:comT s=aY s (gu s).2.1 0 64:=by unfold comT;rw[H8,e3]
 have dC: (gu s).2.1≤s.length:=by rw[H8];exact Ir hp n
 rw[hcT] at h1
 obtain⟨-,d4⟩:=Wx_ dC h1
 rw[←hcT] at d4
 rw[←H8] at d3
 rw[←JZ] at d2
 unfold comB m6
 simp only
 rw[fy,Lb hb]
 rw[List.drop_eq_nil_of_le h2,List.append_nil] at d4
 rw[List.append_assoc,List.append_assoc,←d4,←d3,←d2,←d1]
 rfl
def Bt (k:Int) (t:List UInt8):RdOk k t=k5 k t:=by
 unfold RdOk k5
 by_cases h4:4096<t.length
 ·rw[if_neg oM,if_pos h4]
 rw[if_neg h4]
 by_cases h2:k=2
 ·subst h2
  rw[if_pos oM,if_neg (by decide),if_pos rfl,if_pos rfl]
  unfold m8
  by_cases hz:eS t (j2 t).2.1 (j2 t).2.2=0
  ·have:=PF hz
   have h1:=(Cl t).1 hz
   rw[hz]
   cases ho:oq (j2 t).1
   ·rw[if_neg (fun h=>by cases h.2.1)];rfl
   rw[if_pos ⟨h1,rfl,this⟩];rfl
  have h': ¬ (j2 t).2.2=0:=fun h=>hz ((Cl t).2 h)
  simp[hz,h']
 by_cases h3:k=3
 ·subst h3
  rw[if_pos oM,if_neg (by decide),if_neg (by decide),if_neg (by decide),if_pos rfl]
  unfold mA
  by_cases hz:eS t (comE t).2.1 (comE t).2.2=0
  ·have:=Rr hz
   cases ho:ml (comE t).1<;>simp[hz,this]
  simp[hz]
 rw[if_neg h2,if_neg h3]
 by_cases h1:k=1
 ·subst h1
  rw[if_pos oM];rfl
 rw[if_neg oM]
 simp[h1,h2]
def idxT (s:List UInt8):List UInt8→Int
 | []=>0
 |c::_=>Lib.indexByte s c
abbrev letL:List UInt8:= [32,98,116,99]
def frR (s:List UInt8):List UInt8×Nat×Int:=ax s 0 0 1
def frT (s:List UInt8):List UInt8×Nat×Int:=aY s (frR s).2.1 (frR s).2.2 4096
def frK (s:List UInt8):Int:=idxT letL (frR s).1
def frOk (s:List UInt8):Bool:=eS s (frT s).2.1 (frT s).2.2==0&&RdOk (frK s) (frT s).1
def fkC (c:UInt8):Int:=if c=98 then 1 else if c=116 then 2 else if c=99 then 3 else 0
def lfT (r:List UInt8):List UInt8×Nat×Int:=aY r 0 0 4096
def lfK (s:List UInt8):Int:=match s with| []=>0|c::_=>fkC c
def lfOk (s:List UInt8):Bool:=lfK s !=0&&eS (s.drop 1) (lfT (s.drop 1)).2.1 (lfT (s.drop 1)).2.2==0&&k5 (lfK s) (lfT (s.drop 1)).1
def FX (s:List UInt8) (v:Value):Prop:=v= .tuple #[obV (if lfOk s then lfK s else 0) (if lfOk s then(lfT (s.drop 1)).1 else []), .bool (lfOk s)]
def V2 (k k':Int) (t:List UInt8) (a:Bool) (E:TypeId):aw (some (a,1)) (some (.cells #[vi k',vs t] E (0,0))) 0 (vi k)=some (.cells #[vi k,vs t] E (0,0)):=(rfl)
def U' (k:Int) (t t':List UInt8) (a:Bool) (E:TypeId):aw (some (a,1)) (some (.cells #[vi k,vs t'] E (0,0))) 1 (vs t)=some (.cells #[vi k,vs t] E (0,0)):=(rfl)
def ee:=aN (aN (aN @zM @zJ) (aN @z8 (aN @zS @V2))) (aN (aN @U' @Sx.tup2_0) (aN @Sx.tup2_1 (aN @bB @bA)))
def BU (s:List UInt8) (w:World) (hs:s.length<1099511627776):Rets prog 221 #[vs s] w (fun v D=>FX s v∧D= []):=by
 refine Rets.enterV func221 rfl (rs:= [.cell 2 35, .tmp 3]) results221 ntmps221 ?_
 refine kf ?_
 refine kz [1000004] @ee ?_
 refine Ow.alloc rfl rfl zrOb fun b2 al bR=> ?_
 simp only[ag,List.nil_append,List.cons_append]
 refine ko @ee ?_
 by_cases hl:s.length=0
 ·obtain rfl:s= []:=List.eq_nil_of_length_eq_zero hl
  have d1: (((([]:List UInt8).length:Nat):Int)==0)=true:=rfl
  refine ky (aN @ee @d1) ?_
  refine Ow.build (obV 0 []) rfl At ?_
  refine ko @ee ?_
  refine ky @ee ?_
  refine⟨_,(ke @ee),⟨bR,trivial⟩, ?_⟩
  rfl
 have d1: ((s.length:Int)==0)=false:=beq_eq_false_iff_ne.2 oM
 obtain⟨c,r,rfl⟩: ∃c r,s=c::r:=by cases s with|nil=>exact absurd rfl hl|cons c r=>exact⟨c,r,rfl⟩
 have Jd: (c::r).drop 1=r:=rfl
 have g0: (c::r).getD 0 0=c:=rfl
 have aS: (c::r).length=r.length+1:=rfl
 have oA:r.length<1099511627775:=by omega
 refine ky (aN @ee @d1) ?_
 refine Ow.build (obV 0 []) rfl At ?_
 refine ko @ee ?_
 refine Ow.alloc rfl rfl zrOb fun b4 ir lC=> ?_
 simp only[ag,List.nil_append,List.cons_append]
 have JR:b2<b4:=ak ir (by simp[keys])
 have ht:=y_ (s:=r) (a:=0) (e:=0) (most:=4096) (aq _)
 have hLT:lfT r=aY r 0 0 4096:=rfl
 have hO:lfOk (c::r)=(fkC c !=0&&eS r (lfT r).2.1 (lfT r).2.2==0&&k5 (fkC c) (lfT r).1):=rfl
 have hK:lfK (c::r)=fkC c:=rfl
 unfold FX
 rw[hK,Jd]
 have I2: (aY r 0 0 4096).1.length≤r.length:=Ks _ _ _ _
 have hf0:fkC c=0∨fkC c=1∨fkC c=2∨fkC c=3:=by
  unfold fkC;split<;>(try split)<;>(try split)<;>simp
 refine ko @ee ?_
 refine kz [1000004] (aN @ee @g0) ?_
 refine Cw.cut (G:=Int) 40 (fun g=> [(0,vs (c::r)),(2,vp b2 0),(3, .bool false),(4,vp b4 0)]) (fun g=> [(b2,Obj.cells #[vi 0,vs []] 35 (0,0)),(b4,Obj.cells #[vi g,vs []] 35 (0,0))]) (fun g=>g=fkC c∧g≠0) ?_ ?_
 ·by_cases c1:c=98
  ·subst c1
   refine ky (aN @ee @g0) ?_
   exact CutM.mk 1 ⟨rfl,by decide⟩ rfl rfl
  have e1: (c==98)=false:=by simpa using c1
  by_cases c2:c=116
  ·subst c2
   refine ky (aN @ee (aN @e1 @g0)) ?_
   exact CutM.mk 2 ⟨rfl,by decide⟩ rfl rfl
  have e2: (c==116)=false:=by simpa using c2
  by_cases c3:c=99
  ·subst c3
   refine ky (aN @ee (aN @e1 (aN @e2 @g0))) ?_
   exact CutM.mk 3 ⟨rfl,by decide⟩ rfl rfl
  have e3: (c==99)=false:=by simpa using c3
  have hk:fkC c=0:=by unfold fkC;rw[if_neg c1,if_neg c2,if_neg c3]
  rw[hk] at hO ⊢
  rw[hO]
  refine ky (aN @ee (aN @e1 (aN @e2 (aN @e3 @g0)))) ?_
  refine Ow.build (obV 0 []) rfl At ?_
  refine ko @ee ?_
  refine ky @ee ?_
  refine⟨_,(ke @ee),⟨bR,lC,trivial⟩, ?_⟩
  rfl
 intro g j hg
 simp only[Z_,Zr,pin,iP,iQ,Nat.reduceAdd]
 obtain⟨rfl,rQ⟩:=hg
 have d0: (fkC c !=0)=true:=by simpa using rQ
 rw[d0,Bool.true_and] at hO
 generalize fkC c=k at hO ⊢
 refine ky (aN @ee @Jd) ?_
 refine Ow.build (.agg #[vs r,vi 0,vi 0]) rfl (SWz r) ?_
 refine ko @ee ?_
 refine Ow.box rfl rfl fun br gz di=> ?_
 have h2r:b2<br:=ak gz (by simp[keys])
 have h4r:b4<br:=ak gz (by simp[keys])
 simp only[ck,cV,ce,ag,List.nil_append,List.cons_append]
 refine ko @ee ?_
 refine Ow.callM rfl rfl call129 (by simp[keys]) (fun w' aA=>K8 br r 0 0 4096 w' (aq _) oM (aA.has _ _ (by simp))) ?_
 rw[←hLT] at ht I2 ⊢
 generalize lfT r=q at*
 obtain⟨tt,a2,e2⟩:=q
 simp only at hO ht I2 ⊢
 refine kn ?_
 refine ko @ee ?_
 refine Ow.callFV rfl call131 (fun w' aA=>Kn_ br r a2 e2 w' (aA.has _ _ (by simp))) ?_
 by_cases he:eS r a2 e2=0
 ·have d5: (eS r a2 e2 !=0)=false:=by simp[he]
  have d6: (eS r a2 e2==0)=true:=by simp[he]
  rw[d6,Bool.true_and] at hO
  rw[hO]
  refine ko (aN @ee @d5) ?_
  refine Ow.callFV rfl call19 (fun w' aA=>Vz_ k tt w') ?_
  cases hr:k5 k tt
  ·refine ko @ee ?_
   refine Ow.build (obV 0 []) rfl At ?_
   refine ko @ee ?_
   refine ky @ee ?_
   refine⟨_,(ke @ee),⟨bR,lC,di,trivial⟩, ?_⟩
   rfl
  refine ko @ee ?_
  refine ky @ee ?_
  refine⟨_,(ke @ee),⟨bR,lC,di,trivial⟩, ?_⟩
  rfl
 have d5: (eS r a2 e2 !=0)=true:=by simpa using he
 have d6: (eS r a2 e2==0)=false:=by simpa using he
 rw[d6,Bool.false_and] at hO
 rw[hO]
 refine ko (aN @ee @d5) ?_
 refine Ow.build (obV 0 []) rfl At ?_
 refine ko @ee ?_
 refine ky @ee ?_
 refine⟨_,(ke @ee),⟨bR,lC,di,trivial⟩, ?_⟩
 rfl
end Go.Proofs
end
namespace Go.Flo
open Go Ieee
abbrev F (n:Int):Nat:=FloatKind.f64.nearest n
def dat (n:Int):Datum:= .number (decide (n<0)) (n.natAbs*2^ (52 - n.natAbs.log2)) ((n.natAbs.log2:Int) - 52)
def FR {a:Nat} (h:a<8192):a.log2<13∨a=0:=by
 by_cases h0:a=0
 ·exact .inr h0
 exact .inl ((Nat.log2_lt h0).2 h)
def dec0:FloatKind.f64.decode (F 0)= .number false 0 (-1074):=by kernel_rfl
def Wc (neg:Bool) (n:Nat):Toward.even.cut neg n 0=n:=by
 simp[Toward.cut,Nat.mod_one]
def dec {n:Int} (h0:n≠0) (h:n.natAbs<8192):FloatKind.f64.decode (F n)=dat n:=by
 have ha:n.natAbs≠0:=by omega
 generalize hm:n.natAbs=a at*
 have hl:a.log2<13:=(Nat.log2_lt ha).2 h
 have o7:2^a.log2≤a:=Nat.log2_self_le ha
 have hhi:a<2^ (a.log2+1):=Nat.lt_log2_self
 generalize hk:a.log2=k at*
 have hp:2^ (52 - k)*2^k=2^52:=by rw[←Nat.pow_add];congr 1;omega
 have qk:2^ (k+1)=2*2^k:=by rw[Nat.pow_succ];omega
 have e1:2^52≤a*2^ (52 - k):=by
  rw[←hp,Nat.mul_comm];exact Nat.mul_le_mul_right _ o7
 have e2:a*2^ (52 - k)<2*2^52:=by
  have h1:=Nat.mul_lt_mul_of_pos_right hhi (show 0<2^ (52 - k) from Nat.pow_pos oM)
  rw[qk,Nat.mul_assoc,Nat.mul_comm (2^k),hp] at h1
  exact h1
 have hw:F n=Ieee.double.word (decide (n<0)) ((k+1022)*2^52+a*2^ (52 - k)):=by
  show Ieee.double.nearest (decide (n<0)) n.natAbs 0=_
  rw[hm]
  unfold Format.nearest
  rw[if_neg ha,hk]
  have HS:max ((0:Int)+ (k:Int) - (Ieee.double.fractionBits:Int)) Ieee.double.leastPlace=(k:Int) - 52:=by
   have e3:Ieee.double.leastPlace= -1074:=by decide
   have e4: (Ieee.double.fractionBits:Int)=52:=rfl
   rw[e3,e4];omega
  rw[HS]
  have e5: ((k:Int) - 52 - 0).toNat=0:=by omega
  have e6: ((0:Int) - ((k:Int) - 52)).toNat=52 - k:=by omega
  simp only[e5,e6,Wc,Nat.shiftLeft_eq]
  have e7: ((k:Int) - 52 - Ieee.double.leastPlace).toNat=k+1022:=by
   have e3:Ieee.double.leastPlace= -1074:=by decide
   rw[e3];omega
  have e8:Ieee.double.binade=2^52:=rfl
  have e9:Ieee.double.infRung=2047*2^52:=rfl
  rw[e7,e8,e9,Nat.min_eq_left oM]
 show Ieee.double.read (F n)=_
 rw[hw]
 generalize hX:a*2^ (52 - k)=X at*
 have e8:Ieee.double.binade=2^52:=rfl
 have e9:Ieee.double.infRung=2047*2^52:=rfl
 have e10:Ieee.double.signWeight=2^63:=rfl
 have e3:Ieee.double.leastPlace= -1074:=by decide
 have He: (Ieee.double.word (decide (n<0)) ((k+1022)*2^52+X) / 2^63%2==1)=decide (n<0)∧Ieee.double.word (decide (n<0)) ((k+1022)*2^52+X)%2^63=(k+1022)*2^52+X:=by
  unfold Format.word
  rw[e10]
  by_cases hn:n<0
  ·rw[aW hn,if_pos rfl]
   refine⟨?_,by omega⟩
   rw[beq_iff_eq];omega
  rw[ah hn,if_neg (by simp)]
  refine⟨?_,by omega⟩
  rw[beq_eq_false_iff_ne];omega
 unfold Format.read
 simp only[e10,He.1,He.2,e8,e9,e3]
 rw[if_neg oM,if_pos oM]
 unfold dat
 rw[hm,hk,hX]
 congr 1
 ·omega
 omega
def sgn (n:Int) (u:Nat):signed (decide (n<0)) (n.natAbs*2^u) 0=n*2^u:=by
 unfold signed
 rw[Nat.shiftLeft_eq,Nat.pow_zero,Nat.mul_one]
 by_cases h:n<0
 ·rw[aW h,if_pos rfl]
  rw[Int.natCast_mul,←Int.neg_mul]
  congr 1
  omega
 rw[ah h,if_neg (by simp),Int.natCast_mul]
 congr 1
 omega
def plc (n:Int):Int:=if n=0 then -1074 else(n.natAbs.log2:Int) - 52
def mag (n:Int):Nat:=if n=0 then 0 else n.natAbs*2^ (52 - n.natAbs.log2)
def decA {n:Int} (h:n.natAbs<8192):FloatKind.f64.decode (F n)= .number (decide (n<0)) (mag n) (plc n):=by
 by_cases h0:n=0
 ·subst h0;rw[dec0];rfl
 rw[dec h0 h];unfold dat mag plc;rw[if_neg h0,if_neg h0]
def sgnU {n base:Int} (h:n.natAbs<8192) (hb:base≤plc n):signed (decide (n<0)) (mag n) (plc n - base).toNat=n*2^ (-base).toNat:=by
 by_cases h0:n=0
 ·subst h0;simp[signed,mag]
 have hl:n.natAbs.log2<13:=by rcases FR h with h1|h1;exact h1;omega
 have hu:52 - n.natAbs.log2+ (plc n - base).toNat=(-base).toNat:=by
  unfold plc at hb ⊢
  rw[if_neg h0] at hb ⊢
  omega
 have e:signed (decide (n<0)) (mag n) (plc n - base).toNat=signed (decide (n<0)) (n.natAbs*2^ (-base).toNat) 0:=by
  unfold signed mag
  rw[if_neg h0,←hu,Nat.pow_add]
  simp only[Nat.shiftLeft_eq,Nat.pow_zero,Nat.mul_one,Nat.mul_assoc]
 rw[e,sgn]
def Xo {a b k:Int} (hk:0<k):compare (a*k) (b*k)=compare a b:=by
 simp only[compare,compareOfLessAndEq]
 have h1:a*k<b*k↔a<b:=Int.mul_lt_mul_right hk
 have h2:a*k=b*k↔a=b:=Int.mul_eq_mul_right_iff oM
 simp only[h1,h2]
def ord {a b:Int} (ha:a.natAbs<8192) (hb:b.natAbs<8192):FloatKind.f64.format.order (F a) (F b)=some (compare a b):=by
 have h1:FloatKind.f64.format.read (F a)=_:=decA ha
 have h2:FloatKind.f64.format.read (F b)=_:=decA hb
 unfold Format.order
 rw[h1,h2]
 unfold Datum.order
 simp only
 have p1:min (plc a) (plc b)≤plc a:=Int.min_le_left ..
 have p2:min (plc a) (plc b)≤plc b:=Int.min_le_right ..
 rw[sgnU ha p1,sgnU hb p2,Xo]
 exact Int.pow_pos oM
def intF {a:Int} (h:a.natAbs<8192): (FloatKind.f64.decode (F a)).toInt .zero=some a:=by
 rw[decA h]
 by_cases h0:a=0
 ·subst h0;rfl
 have hl:a.natAbs.log2<13:=by rcases FR h with h1|h1;exact h1;omega
 unfold Datum.toInt Datum.integral
 simp only
 have hp:plc a=(a.natAbs.log2:Int) - 52:=by unfold plc;rw[if_neg h0]
 have hm:mag a=a.natAbs*2^ (52 - a.natAbs.log2):=by unfold mag;rw[if_neg h0]
 rw[hp,hm]
 have e1: ((a.natAbs.log2:Int) - 52).toNat=0:=by omega
 have e2: (-((a.natAbs.log2:Int) - 52)).toNat=52 - a.natAbs.log2:=by omega
 rw[e1,e2,Nat.shiftLeft_zero]
 have hlog: (a.natAbs*2^ (52 - a.natAbs.log2)).log2+2≥52 - a.natAbs.log2:=by
  have:2^ (52 - a.natAbs.log2)≤a.natAbs*2^ (52 - a.natAbs.log2):=Nat.le_mul_of_pos_left _ oM
  have h3:=(Nat.le_log2 (n:=a.natAbs*2^ (52 - a.natAbs.log2)) (k:=52 - a.natAbs.log2) (by have:=Nat.pow_pos (a:=2) (n:=52 - a.natAbs.log2) oM;omega)).2 this
  omega
 unfold Toward.cut
 simp only
 rw[Nat.min_eq_left hlog,Nat.shiftLeft_eq,Nat.one_mul,Nat.mul_div_cancel _ (Nat.pow_pos oM)]
 have:=sgn a 0
 rw[Nat.pow_zero,Nat.mul_one] at this
 simp only[Bool.toNat_false,Nat.add_zero]
 rw[this];simp
end Go.Flo
namespace Go.Sx
open Go Go.Flo
def fl (n:Int):Value:= .float .f64 (F n)
def cx (a b:Int):Value:= .complex .f64 (F a) (F b)
section
variable {P:Program} {w0:World} {f:Fr} {L:aB} {N:Fr→aB→Prop} {ops:Array Oper} {rest:List Oper} {md:Md}
 {d:Option Tmp} {ty:TypeId} {ps:String} {af:Array Edge} {g:Option (Nat×Bool)}
def Ow.convIF {s dt:TypeId} {x:Operand} {n:Int} {md':Md} (he:md.turn=some md') (pF:a_ ops f ⟨d, .convert s dt x,ty,ps,af,g⟩=false)
  (xq:cvT P s dt= .no) (hs:P.underlying s=some (.int .i64)) (hd:P.underlying dt=some (.float .f64)) (hx:ev f x=vi n)
  (hn:Ow P w0 ops md' rest (aX f d (fl n)) L N):Ow P w0 ops md (⟨d, .convert s dt x,ty,ps,af,g⟩::rest) f L N:=by
 refine Ow.step he (by simp[g7,xq]) pF fun w hw=> .inl ⟨fl n,w,L, ?_,hw,hn⟩
 have hc: (convert s dt (vi n)).run P w= .ok (fl n) w:=by
  unfold convert
  simp only[vi,Sem.run_bind,run_underlying hs w,run_underlying hd w,Result.andThen_ok]
  rfl
 simp only[execOp,Sem.run_bind,hx,hc]
 rfl
def Ow.convFI {s dt:TypeId} {x:Operand} {n:Int} {md':Md} (he:md.turn=some md') (pF:a_ ops f ⟨d, .convert s dt x,ty,ps,af,g⟩=false)
  (xq:cvT P s dt= .no) (hs:P.underlying s=some (.float .f64)) (hd:P.underlying dt=some (.int .i64)) (hx:ev f x=fl n) (hn8:n.natAbs<8192)
  (hn:Ow P w0 ops md' rest (aX f d (vi n)) L N):Ow P w0 ops md (⟨d, .convert s dt x,ty,ps,af,g⟩::rest) f L N:=by
 refine Ow.step he (by simp[g7,xq]) pF fun w hw=> .inl ⟨vi n,w,L, ?_,hw,hn⟩
 have hc: (convert s dt (fl n)).run P w= .ok (vi n) w:=by
  unfold convert
  simp only[fl,Sem.run_bind,run_underlying hs w,run_underlying hd w,Result.andThen_ok]
  show(Conv.floatToInt .f64 (F n) .i64).run P w=_
  unfold Conv.floatToInt
  simp only[intF hn8]
  have e1:IntKind.i64.min= -9223372036854775808:=rfl
  have e2:IntKind.i64.max=9223372036854775807:=rfl
  rw[if_pos (by rw[e1,e2];omega)]
  rfl
 simp only[execOp,Sem.run_bind,hx,hc]
 rfl
def Y8 (a b:Int): (some (compare a b)==some Ordering.lt||some (compare a b)==some Ordering.eq)=decide (a≤b):=by
 simp only[compare,compareOfLessAndEq]
 by_cases h1:a<b
 ·rw[if_pos h1,aW oM];rfl
 by_cases h2:a=b
 ·rw[if_neg h1,if_pos h2,aW oM];rfl
 rw[if_neg h1,if_neg h2,ah oM];rfl
def Ys (a b:Int): (some (compare a b)==some Ordering.gt||some (compare a b)==some Ordering.eq)=decide (b≤a):=by
 simp only[compare,compareOfLessAndEq]
 by_cases h1:a<b
 ·rw[if_pos h1,ah oM];rfl
 by_cases h2:a=b
 ·rw[if_neg h1,if_pos h2,aW oM];rfl
 rw[if_neg h1,if_neg h2,aW oM];rfl
def Xt (a b:Int): (some (compare a b)==some Ordering.eq)=(a==b):=by
 simp only[compare,compareOfLessAndEq]
 by_cases h1:a<b
 ·have: (a==b)=false:=by rw[beq_eq_false_iff_ne];omega
  rw[if_pos h1,this];rfl
 by_cases h2:a=b
 ·rw[if_neg h1,if_pos h2,h2];simp
 have: (a==b)=false:=by rw[beq_eq_false_iff_ne];exact h2
 rw[if_neg h1,if_neg h2,this];rfl
def Ow.fleq {t t':TypeId} {x y:Operand} {a b:Int} (hs:a_ ops f ⟨d, .binOp .leq t x y t',ty,ps,af,g⟩=false) (hx:ev f x=fl a) (hy:ev f y=fl b) (ha:a.natAbs<8192) (hb:b.natAbs<8192)
  (hn:Ow P w0 ops md.next rest (aX f d (.bool (decide (a≤b)))) L N):Ow P w0 ops md (⟨d, .binOp .leq t x y t',ty,ps,af,g⟩::rest) f L N:=by
 refine Ow.pureV rfl hs (fun w=> ?_) hn
 simp only[execOp,Sem.run_bind,hx,hy]
 have hg: (eqGuard .leq t x y (fl a) (fl b)).run P w= .ok () w:=rfl
 have hc: (binOp .leq t (fl a) (fl b)).run P w= .ok (.bool (decide (a≤b))) w:=by
  show Result.ok (Value.bool (FloatKind.f64.format.order (F a) (F b)==some .lt||FloatKind.f64.format.order (F a) (F b)==some .eq)) w=_
  rw[ord ha hb,Y8]
 rw[hg,Result.andThen_ok,hc]
 rfl
def Ow.fgeq {t t':TypeId} {x y:Operand} {a b:Int} (hs:a_ ops f ⟨d, .binOp .geq t x y t',ty,ps,af,g⟩=false) (hx:ev f x=fl a) (hy:ev f y=fl b) (ha:a.natAbs<8192) (hb:b.natAbs<8192)
  (hn:Ow P w0 ops md.next rest (aX f d (.bool (decide (b≤a)))) L N):Ow P w0 ops md (⟨d, .binOp .geq t x y t',ty,ps,af,g⟩::rest) f L N:=by
 refine Ow.pureV rfl hs (fun w=> ?_) hn
 simp only[execOp,Sem.run_bind,hx,hy]
 have hg: (eqGuard .geq t x y (fl a) (fl b)).run P w= .ok () w:=rfl
 have hc: (binOp .geq t (fl a) (fl b)).run P w= .ok (.bool (decide (b≤a))) w:=by
  show Result.ok (Value.bool (FloatKind.f64.format.order (F a) (F b)==some .gt||FloatKind.f64.format.order (F a) (F b)==some .eq)) w=_
  rw[ord ha hb,Ys]
 rw[hg,Result.andThen_ok,hc]
 rfl
def Ow.feql {t t':TypeId} {x y:Operand} {a b:Int} (hs:a_ ops f ⟨d, .binOp .eql t x y t',ty,ps,af,g⟩=false) (hx:ev f x=fl a) (hy:ev f y=fl b) (ha:a.natAbs<8192) (hb:b.natAbs<8192)
  (hn:Ow P w0 ops md.next rest (aX f d (.bool (a==b))) L N):Ow P w0 ops md (⟨d, .binOp .eql t x y t',ty,ps,af,g⟩::rest) f L N:=by
 refine Ow.pureV rfl hs (fun w=> ?_) hn
 simp only[execOp,Sem.run_bind,hx,hy]
 have hg: (eqGuard .eql t x y (fl a) (fl b)).run P w= .ok () w:=rfl
 have hc: (binOp .eql t (fl a) (fl b)).run P w= .ok (.bool (a==b)) w:=by
  show Result.ok (Value.bool (FloatKind.f64.format.order (F a) (F b)==some .eq)) w=_
  rw[ord ha hb,Xt]
 rw[hg,Result.andThen_ok,hc]
 rfl
theorem Ow.real {x:Operand} {ts:Array TypeId} {a b:Int} (hs:a_ ops f ⟨d, .call ⟨.builtin .real, #[x],ts⟩,ty,ps,af,g⟩=false) (hx:ev f x=cx a b)
  (hn:Ow P w0 ops md.next rest (aX f d (fl a)) L N):Ow P w0 ops md (⟨d, .call ⟨.builtin .real, #[x],ts⟩,ty,ps,af,g⟩::rest) f L N:=by
 refine Ow.calm rfl rfl hs (fun w hw=> .inl ⟨fl a,w,L, ?_,hw,rfl,rfl⟩) hn
 simp only[execOp,resolve,Sem.run_bind,Sem.run_pure,Result.andThen_ok,invoke,builtin,List.map_toArray,List.map_cons,List.map_nil,hx]
 rfl
theorem Ow.imag {x:Operand} {ts:Array TypeId} {a b:Int} (hs:a_ ops f ⟨d, .call ⟨.builtin .imag, #[x],ts⟩,ty,ps,af,g⟩=false) (hx:ev f x=cx a b)
  (hn:Ow P w0 ops md.next rest (aX f d (fl b)) L N):Ow P w0 ops md (⟨d, .call ⟨.builtin .imag, #[x],ts⟩,ty,ps,af,g⟩::rest) f L N:=by
 refine Ow.calm rfl rfl hs (fun w hw=> .inl ⟨fl b,w,L, ?_,hw,rfl,rfl⟩) hn
 simp only[execOp,resolve,Sem.run_bind,Sem.run_pure,Result.andThen_ok,invoke,builtin,List.map_toArray,List.map_cons,List.map_nil,hx]
 rfl
def Ow.complexB {x y:Operand} {ts:Array TypeId} {a b:Int} (hs:a_ ops f ⟨d, .call ⟨.builtin .complex, #[x,y],ts⟩,ty,ps,af,g⟩=false) (hx:ev f x=fl a) (hy:ev f y=fl b)
  (hn:Ow P w0 ops md.next rest (aX f d (cx a b)) L N):Ow P w0 ops md (⟨d, .call ⟨.builtin .complex, #[x,y],ts⟩,ty,ps,af,g⟩::rest) f L N:=by
 refine Ow.calm rfl rfl hs (fun w hw=> .inl ⟨cx a b,w,L, ?_,hw,rfl,rfl⟩) hn
 simp only[execOp,resolve,Sem.run_bind,Sem.run_pure,Result.andThen_ok,invoke,builtin,List.map_toArray,List.map_cons,List.map_nil,hx,hy]
 rfl
end
end Go.Sx
namespace Go.Sx
open Go Go.Flo
def UO (P:Program) (t:TypeId) (a b:Int):ab P .eql t (fl a) (fl b)=none:=by
 show(eA (P.underlying t) (fl a) (fl b)).map _=none
 unfold eA fl
 split<;>simp_all
def Cz (P:Program) (t:TypeId) (a b a' b':Int):ab P .eql t (cx a b) (cx a' b')=none:=by
 show(eA (P.underlying t) (cx a b) (cx a' b')).map _=none
 unfold eA cx
 split<;>simp_all
section
variable {P:Program} {w0:World} {st:Bool} {f:Fr} {L:aB} {md:Md} {d:Option Tmp} {ty:TypeId} {ps:String} {af:Array Edge} {g:Option (Nat×Bool)} {go:Fr→aB→Prop} {stop:Prop}
def EB (a:Array Operand) (t:Array TypeId):vcB P w0 st md ⟨d, .call ⟨.builtin .real,a,t⟩,ty,ps,af,g⟩ f L go stop=stop:=(rfl)
def EK (a:Array Operand) (t:Array TypeId):vcB P w0 st md ⟨d, .call ⟨.builtin .imag,a,t⟩,ty,ps,af,g⟩ f L go stop=stop:=(rfl)
def KP (a:Array Operand) (t:Array TypeId):vcB P w0 st md ⟨d, .call ⟨.builtin .complex,a,t⟩,ty,ps,af,g⟩ f L go stop=stop:=(rfl)
end
end Go.Sx
section
open Go Go.Proofs Go.Sx Go.StP Go.Flo
namespace Go.Proofs
structure PcL where
 a:Nat
 n:Nat
 x:List UInt8
def pc0:PcL:=⟨0,0,[]⟩
def pcC (p:PcL):List Value:= [cx p.a p.n,vs p.x]
def PcB (p:PcL):Prop:=p.a≤4099∧p.n≤4099
def ve (p:PcL): (pcC p).length=2:=rfl
def FA (p:PcL): (pcC p).all Value.oneCell'=true:=rfl
def cpV (p:PcL) (b:Int):Option (Nat×Nat):=if 1≤p.n∧p.n≤4099∧p.x= []∧(p.a:Int)≤b - p.n then some (p.a,p.n) else none
def fL (p:PcL) (b:Int):Nat:=if p.a=0∧p.n=0∧p.x.length≤4099 then p.x.length else match cpV p b with|some q=>q.2|none=>0
def Db (p:PcL) (b:Int):fL p b≤4099:=by
 unfold fL
 split
 ·rename_i h;exact h.2.2
 unfold cpV
 split
 ·rename_i q h
  split at h
  ·rename_i hc;cases h;exact hc.2.1
  cases h
 omega
def eE (b:Int) (l:List PcL):Nat:=(l.map fun p=>fL p b).sum
def Uf (b:Int) (l:List PcL) (p:PcL):eE b (l++ [p])=eE b l+fL p b:=by
 unfold eE;rw[List.map_append,List.sum_append];simp
def WN (b:Int) (l m:List PcL):eE b (l++m)=eE b l+eE b m:=by
 unfold eE;rw[List.map_append,List.sum_append]
def anyZ (b:Int) (l:List PcL):Bool:=l.any fun p=>fL p b==0
def chkV (b:Int) (l:List PcL):Int×Int:=if b<0∨4099<b then(0,1) else if anyZ b l=true then(0,1) else if 4099<eE b l then(0,19) else((eE b l:Nat),0)
theorem Ey (b:Int): ∀ (l:List PcL),anyZ b l=false→l.length≤eE b l
 | [],_=>aq _
 |p::l,h=>by
  unfold anyZ at h
  rw[List.any_cons,Bool.or_eq_false_iff] at h
  have h1:=Ey b l h.2
  have h2:fL p b≠0:=by simpa using h.1
  unfold eE at h1 ⊢
  rw[List.map_cons,List.sum_cons,List.length_cons]
  omega
def wn {b m:Int} {l:List PcL} (h:chkV b l=(m,0)):0≤b∧b≤4099∧anyZ b l=false∧eE b l≤4099∧m=(eE b l:Nat)∧l.length≤4099:=by
 unfold chkV at h
 split at h
 ·cases h
 rename_i hb
 split at h
 ·cases h
 rename_i hz
 split at h
 ·cases h
 rename_i hs
 have hz':anyZ b l=false:=by simpa using hz
 have:=Ey b l hz'
 cases h
 exact⟨by omega,by omega,hz',by omega,rfl,by omega⟩
def pcT (base:List UInt8) (p:PcL):List UInt8:=match cpV p base.length with|some q=>(base.drop q.1).take q.2++p.x|none=>p.x
def txtP (base:List UInt8) (l:List PcL):List UInt8:=(l.map (pcT base)).flatten
def pcR (d:List UInt8) (a:Nat):PcL×Nat×Int:=
 if(aG d a 0 8199).1%2=1 then
  (⟨(aG d (aG d a 0 8199).2.1 (aG d a 0 8199).2.2 4099).1.toNat,((aG d a 0 8199).1 / 2).toNat,[]⟩,(aG d (aG d a 0 8199).2.1 (aG d a 0 8199).2.2 4099).2)
 else(⟨0,0,(ax d (aG d a 0 8199).2.1 (aG d a 0 8199).2.2 ((aG d a 0 8199).1 / 2)).1⟩,(ax d (aG d a 0 8199).2.1 (aG d a 0 8199).2.2 ((aG d a 0 8199).1 / 2)).2)
def xI {d:List UInt8} {a:Nat} (ha:a≤d.length):a≤ (pcR d a).2.1∧(pcR d a).2.1≤d.length:=by
 have h1:=i_ (s:=d) (a:=a) (e:=0) (most:=8199) ha
 unfold pcR
 split
 ·have h2:=i_ (s:=d) (a:=(aG d a 0 8199).2.1) (e:=(aG d a 0 8199).2.2) (most:=4099) h1.2
  exact⟨Nat.le_trans h1.1 h2.1,h2.2⟩
 have h2:=vk (s:=d) (a:=(aG d a 0 8199).2.1) (e:=(aG d a 0 8199).2.2) (n:=(aG d a 0 8199).1 / 2) h1.2
 exact⟨Nat.le_trans h1.1 h2.1,h2.2⟩
def xB {d:List UInt8} {a:Nat} (ha:a≤d.length) (h: (pcR d a).2.2=0):a< (pcR d a).2.1:=by
 have h1:=i_ (s:=d) (a:=a) (e:=0) (most:=8199) ha
 have hz: (aG d a 0 8199).2.2=0:=by
  by_cases he: (aG d a 0 8199).2.2=0
  ·exact he
  unfold pcR at h
  split at h
  ·have:=xM (s:=d) (a:=(aG d a 0 8199).2.1) (most:=4099) he
   simp only[this] at h
   exact absurd h he
  have:=sX (s:=d) (a:=(aG d a 0 8199).2.1) (n:=(aG d a 0 8199).1 / 2) he
  simp only[this] at h
  exact absurd h he
 have yZ:=FD hz
 unfold pcR
 split
 ·have h2:=i_ (s:=d) (a:=(aG d a 0 8199).2.1) (e:=(aG d a 0 8199).2.2) (most:=4099) h1.2
  exact Nat.lt_of_lt_of_le yZ h2.1
 have h2:=vk (s:=d) (a:=(aG d a 0 8199).2.1) (e:=(aG d a 0 8199).2.2) (n:=(aG d a 0 8199).1 / 2) h1.2
 exact Nat.lt_of_lt_of_le yZ h2.1
def pcsF (d:List UInt8):Nat→Nat→List PcL×Nat×Int
 |0,a=>([],a,0)
 |k+1,a=>if a<d.length then(if(pcR d a).2.2=0 then((pcR d a).1:: (pcsF d k (pcR d a).2.1).1,(pcsF d k (pcR d a).2.1).2) else([(pcR d a).1],(pcR d a).2)) else([],a,0)
theorem DA {d:List UInt8}: ∀ (k j a:Nat),a≤d.length→d.length - a≤k→d.length - a≤j→pcsF d k a=pcsF d j a
 |0,j,a,ha,hk,_=>by
  have: ¬a<d.length:=by omega
  cases j with
  |zero=>rfl
  |succ j=>unfold pcsF;rw[if_neg this]
 |k+1,0,a,ha,_,hj=>by
  have: ¬a<d.length:=by omega
  unfold pcsF;rw[if_neg this]
 |k+1,j+1,a,ha,hk,hj=>by
  unfold pcsF
  by_cases h:a<d.length
  ·rw[if_pos h,if_pos h]
   by_cases he: (pcR d a).2.2=0
   ·have hu:=xB ha he
    have hl:=xI ha
    rw[if_pos he,if_pos he,DA k j (pcR d a).2.1 hl.2 oM oM]
   rw[if_neg he,if_neg he]
  rw[if_neg h,if_neg h]
def pcs (d:List UInt8) (a:Nat):List PcL×Nat×Int:=pcsF d (d.length - a) a
def ZS {d:List UInt8} {a:Nat} (h: ¬a<d.length):pcs d a=([],a,0):=by
 unfold pcs
 rw[show d.length - a=0 by omega];rfl
def Zt {d:List UInt8} {a:Nat} (h:a<d.length) (he: (pcR d a).2.2=0):pcs d a=((pcR d a).1:: (pcs d (pcR d a).2.1).1,(pcs d (pcR d a).2.1).2):=by
 have hu:=xB (Nat.le_of_lt h) he
 have hl:=xI (Nat.le_of_lt h)
 unfold pcs
 obtain⟨k,hk⟩: ∃k,d.length - a=k+1:=⟨d.length - a - 1,by omega⟩
 rw[hk]
 conv=>lhs;unfold pcsF
 rw[if_pos h,if_pos he,DA k (d.length - (pcR d a).2.1) (pcR d a).2.1 hl.2 oM (ap _)]
def Xc {d:List UInt8} {a:Nat} (h:a<d.length) (he: (pcR d a).2.2≠0):pcs d a=([(pcR d a).1],(pcR d a).2):=by
 unfold pcs
 obtain⟨k,hk⟩: ∃k,d.length - a=k+1:=⟨d.length - a - 1,by omega⟩
 rw[hk]
 unfold pcsF
 rw[if_pos h,if_neg he]
def nR (d:List UInt8):Option (Nat×List PcL):=
 if(aG d (aG d 0 0 4099).2.1 (aG d 0 0 4099).2.2 4099).2.2≠0 then none
 else if(pcs d (aG d (aG d 0 0 4099).2.1 (aG d 0 0 4099).2.2 4099).2.1).2.2≠0 then none
 else if chkV (aG d 0 0 4099).1 (pcs d (aG d (aG d 0 0 4099).2.1 (aG d 0 0 4099).2.2 4099).2.1).1=((aG d (aG d 0 0 4099).2.1 (aG d 0 0 4099).2.2 4099).1,0) then some ((aG d 0 0 4099).1.toNat,(pcs d (aG d (aG d 0 0 4099).2.1 (aG d 0 0 4099).2.2 4099).2.1).1)
 else none
def lF (base d:List UInt8):List UInt8×Int:=
 match nR d with
 |none=>([],2)
 |some p=>if p.1≠base.length then([],19) else(txtP base p.2,0)
def cvIF:cvT prog 3 419= .no:=id kR
def cvFI:cvT prog 419 3= .no:=id kR
def zB (p:PcL) (E:TypeId) (n:Nat):aQ (some (false,n)) (some (.cells (pcC p).toArray E (0,0))) 0=some (cx p.a p.n):=(rfl)
def zT (p:PcL) (E:TypeId) (n:Nat):aQ (some (false,n)) (some (.cells (pcC p).toArray E (0,0))) 1=some (vs p.x):=(rfl)
def zL (p:PcL) (E:TypeId):aQ (some (true,2)) (some (.cells (pcC p).toArray E (0,0))) 0=some (.agg (pcC p).toArray):=rZ _ E (0,0) 2 rfl
def yy (p:PcL):Value.cells (.agg (pcC p).toArray)=(pcC p).toArray:=ag _
def zrPc:au prog 418=some (.agg (pcC pc0).toArray):=id kR
def VW (p q:PcL) (E:TypeId):aw (some (true,2)) (some (.cells (pcC q).toArray E (0,0))) 0 (.agg (pcC p).toArray)=some (.cells (pcC p).toArray E (0,0)):=by
 have:=A2 (pcC p) (n:=2) true (pcC q).toArray E rfl (FA p) rfl
 exact this
def cxz: (Value.complex FloatKind.f64 0 0)=cx 0 0:=id kR
abbrev PcSl (w:World) (v:Value) (l:List PcL):Prop:=SlV 2 pcC pc0 w v l
def BndP (l:List PcL):Prop:= ∀g,g<l.length→PcB (l.getD g pc0)∧(l.getD g pc0).x.length<9223372036854775808
def Ta {b:Int} {l:List PcL} {g:Nat} (h:g<l.length):eE b (l.take (g+1))=eE b (l.take g)+fL (l.getD g pc0) b:=by
 rw[take_snoc (z:=pc0) h,Uf]
def TE {b:Int} {l:List PcL} {g:Nat} (h:g<l.length):anyZ b (l.take (g+1))=(anyZ b (l.take g) ||fL (l.getD g pc0) b==0):=by
 rw[take_snoc (z:=pc0) h];unfold anyZ;rw[List.any_append];simp
def w5 {b:Int} {l:List PcL} {g:Nat} (h:g<l.length) (hz:fL (l.getD g pc0) b=0):anyZ b l=true:=by
 unfold anyZ
 rw[List.any_eq_true]
 exact⟨_,getD_mem (z:=pc0) h,by rw[beq_iff_eq];exact hz⟩
def pcAt (p:PcL) (b:Int):Nat×Nat:=match cpV p b with|some q=>q|none=>(0,0)
def Xr (p:PcL) (base:List UInt8): (pcAt p base.length).1+ (pcAt p base.length).2≤base.length:=by
 unfold pcAt cpV
 split
 ·rename_i q h
  split at h
  ·rename_i hc;cases h;simp only;omega
  cases h
 simp
def YT (base:List UInt8) (p:PcL) (h:fL p base.length≠0): (pcT base p).length=fL p base.length:=by
 have dC:=Xr p base
 unfold fL at h ⊢
 unfold pcT
 unfold pcAt at dC
 split at h
 ·rename_i hc
  rw[if_pos hc]
  have hn:cpV p base.length=none:=by unfold cpV;rw[if_neg oM]
  rw[hn]
 rename_i hc
 rw[if_neg hc]
 cases hq:cpV p base.length with
 |none=>rw[hq] at h;exact absurd rfl h
 |some q=>
  rw[hq] at dC
  simp only at dC ⊢
  have hx:p.x= []:=by
   unfold cpV at hq
   split at hq
   ·rename_i h2;exact h2.2.2.1
   cases hq
  rw[hx,List.append_nil,List.length_take,List.length_drop]
  omega
def Se {base:List UInt8} {l:List PcL} {g:Nat} (h:g<l.length):txtP base (l.take (g+1))=txtP base (l.take g)++pcT base (l.getD g pc0):=by
 rw[take_snoc (z:=pc0) h];unfold txtP;simp
theorem wW {base:List UInt8}: ∀ {l:List PcL},anyZ base.length l=false→(txtP base l).length=eE base.length l
 | [],_=>rfl
 |p::l,h=>by
  unfold anyZ at h
  rw[List.any_cons,Bool.or_eq_false_iff] at h
  have h1:=wW (base:=base) (l:=l) h.2
  have h2:=YT base p (by simpa using h.1)
  unfold txtP eE at h1 ⊢
  rw[List.map_cons,List.flatten_cons,List.length_append,List.map_cons,List.sum_cons,h1,h2]
def Kr_ {b:Int} {l:List PcL} {g:Nat}:eE b (l.take g)≤eE b l:=by
 have:=WN b (l.take g) (l.drop g)
 rw[List.take_append_drop] at this
 omega
def YK {b:Int} {l:List PcL} {g:Nat} (h:anyZ b l=false):anyZ b (l.take g)=false:=by
 unfold anyZ at h ⊢
 rw[List.any_eq_false] at h ⊢
 exact fun x hx=>h x (List.mem_of_mem_take hx)
end Go.Proofs
end
namespace Go.Sx
open Go
section
variable {α:Type} {m:Nat} {enc:α→List Value} {z:α}
end
section
variable {P:Program} {w0:World} {f:Fr} {L:aB} {N:Fr→aB→Prop} {ops:Array Oper} {rest:List Oper} {md:Md} {d:Option Tmp} {ty:TypeId} {ps:String} {af:Array Edge} {g:Option (Nat×Bool)}
theorem Ow.makeSlice {t e:TypeId} {m:Bool×Nat} {z:Value} {x y:Operand} {n c:Nat} {md':Md} (he:md.turn=some md') (hs:a_ ops f ⟨d, .makeSlice t x y,ty,ps,af,g⟩=false)
  (hu:P.underlying t=some (.slice e)) (hm:aK P e=some m) (hi:rf P e=true) (hz:au P e=some z) (hx:ev f x=vi n) (hy:ev f y=vi c) (hnc:n≤c) (co:c≤2^38)
  (hn: ∀b,eP L b→w0.heap.size≤b→Ow P w0 ops md' rest (aX f d (vsl b 0 n c)) (L++ [(b, .cells (madeCells z.cells (c*m.2)) e (0,0))]) N):
  Ow P w0 ops md (⟨d, .makeSlice t x y,ty,ps,af,g⟩::rest) f L N:=by
 refine Ow.step he rfl hs fun w hw=> .inl ⟨vsl w.heap.size 0 n c,w.alloc (.cells (madeCells z.cells (c*m.2)) e (0,0)),_, ?_,hw.alloc _,hn _ (iF fun b hb=>hw.lt hb) hw.size⟩
 obtain⟨i,x_,-,hb⟩:=Lw hi co
 have hiz:i.zero=some z:=by
  unfold au at hz
  rw[x_] at hz
  exact hz
 have him:i.size=m.2:=by
  unfold aK at hm
  rw[x_] at hm
  split at hm
  ·rename_i h1 h2
   cases h2
   cases hm
   rfl
  cases hm
 have tL: (i.bytes:Int)* (c:Int)≤281474976710656:=by
  have: ((i.bytes*c:Nat):Int)≤281474976710656:=by rw[Nat.mul_comm];exact Int.ofNat_le.2 hb
  rwa [Int.natCast_mul] at this
 have hr:=run_make (P:=P) w t e i z hu x_ hiz .i64 .i64 (n:Int) (c:Int) oM oM tL oM
 simp only[Int.toNat_natCast,him] at hr
 show(execOp (ev f) _).run P w=_
 simp only[execOp,Sem.run_bind]
 rw[hx,hy]
 show((Instr.makeSlice t (.int .i64 (n:Int)) (.int .i64 (c:Int))).run P w).andThen _=_
 rw[hr]
 rfl
def Ow.appendXG {ts tx e:TypeId} {m:Bool×Nat} {z:Value} {s x:Operand} {n k:Nat} {cs new:List Value} {dx:TypeDesc} {md':Md} {X Y:aB} (sv:Value) (hL:L=X++Y) (gk:ev f s=sv) (he:md.turn=some md')
  (hs:a_ ops f ⟨d, .call ⟨.builtin .append, #[s,x], #[ts,tx]⟩,ty,ps,af,g⟩=false)
  (hu:P.underlying ts=some (.slice e)) (hm:aK P e=some m) (hi:rf P e=true) (hz:au P e=some z) (lX:z.cells.size=m.2) (jM:P.underlying tx=some dx) (dO: ∀k,dx≠ .int k)
  (hB:Gr X e m.2 sv n cs) (hX: ∀w,Hp w0 L w→AppX P w m.2 (ev f x) k new) (co:2* (n+k)+768≤2^38)
  (hn: ∀B v' D,eP L B→w0.heap.size≤B→Gr D e m.2 v' (n+k) (cs++new)→(∀c,c∈keys X→c∈keys D)→(∀c,c∈keys D→c∈keys X∨B≤c)→(∀c o,slB sv≠some c→look X c=some o→look D c=some o)→Ow P w0 ops md' rest (aX f d v') (D++Y) N):
  Ow P w0 ops md (⟨d, .call ⟨.builtin .append, #[s,x], #[ts,tx]⟩,ty,ps,af,g⟩::rest) f L N:=by
 subst hL
 refine Ow.step he rfl hs fun w hw=> ?_
 have hp:=hw.part
 have hA:eP (X++Y) w.heap.size:=iF fun b hb=>hw.lt hb
 have fin: ∀v' w' D,(Builtin.append_ #[ts,tx] ty #[sv,ev f x]).run P w= .ok v' w'→Hp w D w'→Gr D e m.2 v' (n+k) (cs++new)→(∀c,c∈keys X→c∈keys D)→(∀c,c∈keys D→c∈keys X∨w.heap.size≤c)→(∀c o,slB sv≠some c→look X c=some o→look D c=some o)→
   (∃v w' L',(execOp (ev f) ⟨d, .call ⟨.builtin .append, #[s,x], #[ts,tx]⟩,ty,ps,af,g⟩).run P w= .ok (.value v) w'∧Hp w0 L' w'∧Ow P w0 ops md' rest (aX f d v) L' N):=by
  intro v' w' D hr hD hb h1 h2 h3
  refine⟨v',w',D++Y, ?_,hw.join hD h1 h2,hn w.heap.size v' D hA hw.size hb h1 h2 h3⟩
  simp only[execOp,resolve,Sem.run_bind,Sem.run_pure,Result.andThen_ok,invoke,builtin,List.map_toArray,List.map_cons,List.map_nil,gk]
  rw[hr]
  rfl
 rcases hB with hB| ⟨rfl,rfl,b,rfl,bz⟩
 ·obtain⟨v',w',D,hr,hD,hb,hg,-⟩:=LS (w0:=w) (L:=X) (ty:=ty) (x:=ev f x) hp hu hm hi hz lX jM dO hB (fun w2 bR=>hX w2 (by
   refine hw.join bR (fun c hc=>hc) (fun c hc=> .inl hc))) co
  exact .inl (fin v' w' D hr hD (.inl hb) hg.keys (fun c hc=>(hg.new c hc).imp id And.right) hg.look)
 rcases Lv (w0:=w) (L:=X) (ty:=ty) (b:=b) (x:=ev f x) hp hu hm hi hz lX jM dO (fun w2 bR=>hX w2 (by
  refine hw.join bR (fun c hc=>hc) (fun c hc=> .inl hc))) co with⟨h0,hr⟩ | ⟨-,v',w',D,hr,hD,hb,hg,-⟩
 ·subst h0
  have hnw:=(hX w hw).size
  obtain rfl:new= []:=List.eq_nil_of_length_eq_zero (by rw[hnw,Nat.zero_mul])
  exact .inl (fin _ w X hr hp (.inr ⟨rfl,rfl,b,rfl,bz⟩) (fun c hc=>hc) (fun c hc=> .inl hc) (fun c o _ hl=>hl))
 exact .inl (fin v' w' D hr hD (.inl hb) hg.keys (fun c hc=>(hg.new c hc).imp id And.right) (fun c o _ hl=>hg.look c o (by simp[slB]) hl))
end
def New.perm {n:Nat} {D D':aB} (h:New n D) (hp:D.Perm D'):New n D':=New.of_le fun c hc=>h.le c ((hp.map Prod.fst).mem_iff.2 hc)
end Go.Sx
section
open Go Go.Proofs Go.Sx Go.StP Go.Flo
namespace Go.Proofs
def dB (d:List UInt8):Int×Nat×Int:=aG d 0 0 4099
def dM (d:List UInt8):Int×Nat×Int:=aG d (dB d).2.1 (dB d).2.2 4099
def Cy (d:List UInt8):nR d=if(dM d).2.2≠0 then none else if(pcs d (dM d).2.1).2.2≠0 then none else if chkV (dB d).1 (pcs d (dM d).2.1).1=((dM d).1,0) then some ((dB d).1.toNat,(pcs d (dM d).2.1).1) else none:=rfl
def Xe (p:PcL):rF prog 408 1 [(0, .agg (pcC p).toArray)]=some (418,(pcC p).toArray):=
 rk underlying408 (id kR) zrPc (by decide) (ve p)
def Bb {d:List UInt8} {p:Nat×List PcL} (h:nR d=some p): ∃m,chkV (p.1:Nat) p.2=(m,0):=by
 rw[Cy] at h
 split at h
 ·cases h
 split at h
 ·cases h
 split at h
 ·rename_i hc
  cases h
  have kw:=uG (s:=d) (a:=0) (e:=0) (most:=4099) oM
  change 0≤ (dB d).1∧(dB d).1≤4099 at kw
  refine⟨(dM d).1, ?_⟩
  rw[show(((dB d).1.toNat:Nat):Int)=(dB d).1 by omega]
  exact hc
 cases h
structure PartL where
 d:Bool
 b:Int
 x:List UInt8
def fg:PartL:=⟨false,0,[]⟩
def cj (p:PartL):List Value:= [.bool p.d,vi p.b,vs p.x]
def LJ (p:PartL): (cj p).length=3:=rfl
def CO (p:PartL): (cj p).all Value.oneCell'=true:=rfl
def lc (l:List PartL):Nat→Nat→Except Int (List Nat)
 |0,_=> .error 11
 |k+1,at_=>
  if(l.getD at_ fg).d=true then
   (if(l.getD at_ fg).b<0∨(at_:Int)≤ (l.getD at_ fg).b then .error 2
   else if k=0 then .error 11
   else(lc l k (l.getD at_ fg).b.toNat).map (at_:: ·))
  else if(l.getD at_ fg).b≠0 then .error 2 else .ok [at_]
def kC (l:List PartL) (at_:Int):Except Int (List Nat):=
 if 200<l.length∨at_<0∨(l.length:Int)≤at_ then .error 1 else lc l 5 at_.toNat
def iI (p:PartL) (base:List UInt8):List UInt8×Int:=if p.d=true then lF base p.x else if 4099<p.x.length then([],19) else(p.x,0)
def kA (l:List PartL):List Nat→Except Int (List UInt8)
 | []=> .ok []
 |a::p=>(kA l p).bind fun s=>if(iI (l.getD a fg) s).2=0 then .ok (iI (l.getD a fg) s).1 else .error (iI (l.getD a fg) s).2
def partV (l:List PartL) (at_:Int):Except Int (List UInt8):=(kC l at_).bind (kA l)
def GG (l:List PartL):Nat→Except Int (List (List UInt8))
 |0=> .ok []
 |k+1=>(GG l k).bind fun ts=>(partV l (k:Nat)).map fun s=>ts++ [s]
def allV (l:List PartL):Except Int (List (List UInt8)):=if 200<l.length then .error 1 else GG l l.length
def natC (n:Nat):List Value:= [vi n]
def Ed (n:Nat): (natC n).length=1:=rfl
abbrev Fs (w:World) (v:Value) (l:List PartL):Prop:=SlV 3 cj fg w v l
def Bv (p:PartL) (E:TypeId) (n:Nat):aQ (some (false,n)) (some (.cells (cj p).toArray E (0,0))) 0=some (.bool p.d):=(rfl)
def BF (p:PartL) (E:TypeId) (n:Nat):aQ (some (false,n)) (some (.cells (cj p).toArray E (0,0))) 1=some (vi p.b):=(rfl)
def BG (p:PartL) (E:TypeId) (n:Nat):aQ (some (false,n)) (some (.cells (cj p).toArray E (0,0))) 2=some (vs p.x):=(rfl)
def JN (p:PartL):Value.cells (.agg (cj p).toArray)=(cj p).toArray:=ag _
def pp:au prog 395=some (.agg (cj fg).toArray):=id kR
def Bp (p q:PartL) (E:TypeId):aw (some (true,3)) (some (.cells (cj q).toArray E (0,0))) 0 (.agg (cj p).toArray)=some (.cells (cj p).toArray E (0,0)):=
 A2 (cj p) (n:=3) true (cj q).toArray E rfl (CO p) rfl
def kj (l:List PartL) (a0:Int) (v:Value) (D:aB):Prop:=match kC l a0 with
 | .ok p=> ∃x,v= .tuple #[x,vi 0]∧p.length≤5∧GrI D 3 1 x p.length (p.map natC).flatten
 | .error e=>v= .tuple #[.slice none 0 0,vi e]
theorem BR {l:List PartL}: ∀ (k a:Nat) (e:Int),lc l k a= .error e→e≠0
 |0,_,e,h=>by cases h;decide
 |k+1,a,e,h=>by
  unfold lc at h
  split at h
  ·split at h
   ·cases h;decide
   split at h
   ·cases h;decide
   cases hp:lc l k (l.getD a fg).b.toNat with
   |error x=>rw[hp] at h;cases h;exact BR k _ _ hp
   |ok q=>rw[hp] at h;cases h
  split at h
  ·cases h;decide
  cases h
def CG {l:List PartL} {a:Int} {e:Int} (h:kC l a= .error e):e≠0:=by
 unfold kC at h
 split at h
 ·cases h;decide
 exact BR _ _ _ h
theorem Ca {l:List PartL}: ∀ (k a:Nat) (p:List Nat),a<l.length→lc l k a= .ok p→ ∀x,x∈p→x<l.length
 |0,_,_,_,h=>by cases h
 |k+1,a,p,ha,h=>by
  unfold lc at h
  split at h
  ·split at h
   ·cases h
   rename_i hb
   split at h
   ·cases h
   cases hp:lc l k (l.getD a fg).b.toNat with
   |error x=>rw[hp] at h;cases h
   |ok q=>
    rw[hp] at h
    cases h
    intro x hx
    rcases List.mem_cons.1 hx with rfl|hx
    ·exact ha
    exact Ca k _ q oM hp x hx
  split at h
  ·cases h
  cases h
  intro x hx
  rw[List.mem_singleton] at hx
  omega
def Wg {l:List PartL} {a:Int} {p:List Nat} (h:kC l a= .ok p): ∀x,x∈p→x<l.length:=by
 unfold kC at h
 split at h
 ·cases h
 exact Ca _ _ _ oM h
theorem Lq {l:List PartL} {e:Int}: ∀ (p:List Nat) (i:Nat),kA l (p.drop i)= .error e→kA l p= .error e
 | [],i,h=>by rw[List.drop_nil] at h;exact h
 |a::p,0,h=>h
 |a::p,i+1,h=>by
  have:=Lq p i h
  unfold kA
  rw[this];rfl
def WJ {E:TypeId} {rest:List Value} {l:List Nat} (n i:Nat) (hi:i<l.length):aQ (some (false,n)) (some (rowO natC E rest l)) i=some (vi (l.getD i 0)):=by
 unfold rowO aQ
 have e: (l.map natC).flatten=l.map fun n=>vi (n:Nat):=by
  clear hi
  induction l with
  |nil=>rfl
  |cons a l ih=>rw[List.map_cons,List.flatten_cons,List.map_cons,ih];rfl
 simp only[e]
 rw[List.getElem?_toArray,List.getElem?_append_left (by simpa using hi),List.getElem?_map,List.getElem?_eq_getElem hi,List.getD_eq_getElem?_getD,List.getElem?_eq_getElem hi]
 rfl
def nk (r:Except Int (List UInt8)):Value:=match r with
 | .ok s=> .tuple #[vs s,vi 0]
 | .error e=> .tuple #[vs [],vi e]
theorem DR {l:List PartL} {e:Int}: ∀ (p:List Nat),kA l p= .error e→e≠0
 | [],h=>by cases h
 |a::p,h=>by
  unfold kA at h
  cases hp:kA l p with
  |error x=>rw[hp] at h;cases h;exact DR p hp
  |ok s=>
   rw[hp] at h
   change(if(iI (l.getD a fg) s).2=0 then _ else _)=_ at h
   split at h
   ·cases h
   rename_i aU;cases h;exact aU
def Un {l:List PartL} {a e:Int} (h:partV l a= .error e):e≠0:=by
 unfold partV at h
 cases hp:kC l a with
 |error x=>rw[hp] at h;cases h;exact CG hp
 |ok p=>rw[hp] at h;exact DR p h
def strC (s:List UInt8):List Value:= [vs s]
def E0 (s:List UInt8): (strC s).length=1:=rfl
end Go.Proofs
end
section
open Go Go.Proofs Go.Sx Go.StP
namespace Go.Proofs
structure ChildL where
 id:IdL
 kind:Int
def Gr.rows {α:Type} {L:aB} {E:TypeId} {m:Nat} {v:Value} {enc:α→List Value} {l:List α} (h:Gr L E m v l.length (l.map enc).flatten) (h0:0<l.length): ∃b c rest,v=vsl b 0 l.length c∧Sx.look L b=some (rowO enc E rest l):=by
 rcases h with h| ⟨h,-⟩
 ·rcases h.inv with⟨-,h,-⟩ | ⟨b,c,rest,hv,hl,-⟩
  ·omega
  exact⟨b,c,rest,hv,hl⟩
 omega
def SepK (b:Nat) (D E:aB):Prop:= ∀c,c∈keys E→b<c∧ ∀d,d∈keys D→d<c
def SepK.nil {b:Nat} {D:aB}:SepK b D []:=fun c hc=>by cases hc
def SepK.cons {b c:Nat} {o:Obj} {D E:aB} (h:SepK b D E) (h1:b<c) (h2: ∀d,d∈keys D→d<c):SepK b D ((c,o)::E):=fun x hx=>by
 simp only[keys,List.map_cons,List.mem_cons] at hx
 rcases hx with rfl|hx
 ·exact⟨h1,h2⟩
 exact h x hx
def SepK.app {b:Nat} {D E F:aB} (h:SepK b D E) (h2:SepK b D F):SepK b D (E++F):=fun x hx=>by
 rw[ae,List.mem_append] at hx
 rcases hx with hx|hx
 ·exact h x hx
 exact h2 x hx
def SepK.grow {b B:Nat} {D E F:aB} (h:SepK b D E) (hk: ∀c,c∈keys F→c∈keys E∨B≤c) (h1:b<B) (h2: ∀d,d∈keys D→d<B):SepK b D F:=fun x hx=>by
 rcases hk x hx with h'|h'
 ·exact h x h'
 exact⟨by omega,fun d hd=>by have:=h2 d hd;omega⟩
theorem SepK.look {b:Nat} {D E:aB} {c:Nat} {o x:Obj} (h:SepK b D E) (hl:Sx.look E c=some o):Sx.look ((b,x):: (D++E)) c=some o:=by
 have:=h c (cC hl)
 rw[pI _ _ _ _ oM,g8 (fun hm=>by have:=this.2 c hm;omega)]
 exact hl
end Go.Proofs
end
namespace Go.Dig
open Go.Sx
def xG (b:UInt8):Int:=if 48≤b.toNat∧b.toNat≤57 then(b.toNat:Int) - 48 else if 97≤b.toNat∧b.toNat≤102 then(b.toNat:Int) - 97+10 else -1
def refB (l:List UInt8) (i k:Nat):UInt8:=
 if 2*k+1<i then UInt8.ofInt (xG (l.getD (2*k) 0)*16+xG (l.getD (2*k+1) 0)) else if 2*k<i then UInt8.ofInt (xG (l.getD (2*k) 0)) else 0
def rgt (x:UInt32) (n:UInt64):UInt32:=gb x n.toNat|||r8 x (32 - n).toNat
def S1 (e:UInt32):UInt32:=rgt e 6^^^rgt e 11^^^rgt e 25
def S0 (a:UInt32):UInt32:=rgt a 2^^^rgt a 13^^^rgt a 22
def s1 (y:UInt32):UInt32:=rgt y 17^^^rgt y 19^^^gb y 10
def s0 (x:UInt32):UInt32:=rgt x 7^^^rgt x 18^^^gb x 3
def kL:List UInt32:= [1116352408,1899447441,3049323471,3921009573,961987163,1508970993,2453635748,2870763221,3624381080,310598401,607225278,1426881987,1925078388,2162078206,2614888103,3248222580,3835390401,4022224774,264347078,604807628,770255983,1249150122,1555081692,1996064986,2554220882,2821834349,2952996808,3210313671,3336571891,3584528711,113926993,338241895,666307205,773529912,1294757372,1396182291,1695183700,1986661051,2177026350,2456956037,2730485921,2820302411,3259730800,3345764771,3516065817,3600352804,4094571909,275423344,430227734,506948616,659060556,883997877,958139571,1322822218,1537002063,1747873779,1955562222,2024104815,2227730452,2361852424,2428436474,2756734187,3204031479,3329325298]
def initL:List UInt32:= [1779033703,3144134277,1013904242,2773480762,1359893119,2600822924,528734635,1541459225]
def Fy (b:List UInt8) (i:Nat):UInt32:=
 UInt32.ofNat (b.getD (4*i) 0).toNat*16777216+UInt32.ofNat (b.getD (4*i+1) 0).toNat*65536+UInt32.ofNat (b.getD (4*i+2) 0).toNat*256+UInt32.ofNat (b.getD (4*i+3) 0).toNat
def wPre (b:List UInt8) (i:Nat):List UInt32:=(List.range 64).map fun j=>if j<i then Fy b j else 0
def KL (b:List UInt8) (i:Nat): (wPre b i).length=64:=by simp[wPre]
def Tj (b:List UInt8) (i:Nat): (wPre b i).set i (Fy b i)=wPre b (i+1):=by
 apply List.ext_getElem
 ·simp[wPre]
 intro k iy fw
 have hk:k<64:=by simpa [wPre] using fw
 rw[List.getElem_set]
 by_cases h:i=k
 ·subst h;simp[wPre]
 rw[if_neg h]
 simp only[wPre,List.getElem_map,List.getElem_range]
 by_cases h1:k<i
 ·rw[if_pos h1,if_pos oM]
 rw[if_neg h1,if_neg oM]
def TL (b:List UInt8):wPre b 0=List.replicate 64 0:=by
 apply List.ext_getElem
 ·simp[wPre]
 intro k iy fw
 simp only[wPre,List.getElem_map,List.getElem_range,List.getElem_replicate]
 rw[if_neg oM]
def sr (w:List UInt32) (g:Nat):List UInt32:=w.set g (s1 (w.getD (g - 2) 0)+w.getD (g - 7) 0+s0 (w.getD (g - 15) 0)+w.getD (g - 16) 0)
def wGo (w:List UInt32):Nat→List UInt32
 |0=>w
 |n+1=>sr (wGo w n) (16+n)
def C2 (w:List UInt32) (n:Nat): (wGo w n).length=w.length:=by
 induction n with
 |zero=>rfl
 |succ n ih=>simp[wGo,sr,ih]
def wAll (b:List UInt8):List UInt32:=wGo (wPre b 16) 48
def OZ (b:List UInt8): (wAll b).length=64:=by rw[wAll,C2,KL]
def axK_ (s:List UInt32) (k w:UInt32):List UInt32:=
 let t:=s.getD 7 0+S1 (s.getD 4 0)+ (s.getD 4 0&&&s.getD 5 0||| ~~~ s.getD 4 0&&&s.getD 6 0)+k+w
 let u:=S0 (s.getD 0 0)+ (s.getD 0 0&&&s.getD 1 0|||s.getD 0 0&&&s.getD 2 0|||s.getD 1 0&&&s.getD 2 0)
 [t+u,s.getD 0 0,s.getD 1 0,s.getD 2 0,s.getD 3 0+t,s.getD 4 0,s.getD 5 0,s.getD 6 0]
def rGo (st w:List UInt32):Nat→List UInt32
 |0=>st
 |n+1=>axK_ (rGo st w n) (kL.getD n 0) (w.getD n 0)
def pu (st s:List UInt32) (i:Nat):List UInt32:=(List.range 8).map fun j=>if j<i then st.getD j 0+s.getD j 0 else st.getD j 0
def NT (st s:List UInt32) (i:Nat): (pu st s i).length=8:=by simp[pu]
def comp (st:List UInt32) (b:List UInt8):List UInt32:=pu st (rGo st (wAll b) 64) 8
def KJ (st:List UInt32) (b:List UInt8): (comp st b).length=8:=NT _ _ _
def mi (st:List UInt32) (m:List UInt8):Nat→List UInt32
 |0=>st
 |n+1=>comp (mi st m n) ((m.drop (64*n)).take 64)
def Nc (st:List UInt32) (m:List UInt8) (n:Nat) (h:st.length=8): (mi st m n).length=8:=by
 cases n with
 |zero=>exact h
 |succ n=>exact KJ _ _
def NW (st:List UInt32) (m x:List UInt8) (n:Nat) (h:64*n≤m.length):mi st (m++x) n=mi st m n:=by
 induction n with
 |zero=>rfl
 |succ n ih=>
  simp only[mi]
  rw[ih oM,List.drop_append_of_le_length oM,List.take_append_of_le_length (by simp;omega)]
section
variable {bg:Bool} {st:List UInt32} {rest:List UInt8} {many:Int} {taken:UInt64} {E:TypeId}
end
def acc (b:List UInt8) (i:Nat):Nat→UInt32
 |0=>0
 |k+1=>r8 (acc b i k) 8|||UInt32.ofNat (b.getD (4*i+k) 0).toNat
def Jx_ {α:Type} (l:List α) (i:Nat) (x d:α) (h:i<l.length): (l.set i x).getD i d=x:=by
 simp[List.getD_eq_getElem?_getD,h]
def wG (b:List UInt8) (g:Nat):List UInt32:=wGo (wPre b 16) (g - 16)
def U6 (b:List UInt8) (g:Nat): (wG b g).length=64:=by rw[wG,C2,KL]
def Xz (b:List UInt8) (g:Nat) (h:16≤g):wG b (g+1)=sr (wG b g) g:=by
 unfold wG
 have:g+1 - 16=(g - 16)+1:=by omega
 rw[this]
 show sr _ (16+ (g - 16))=_
 rw[show 16+ (g - 16)=g from by omega]
def ZX (b:List UInt8):wG b 64=wAll b:=rfl
def V9 (b:List UInt8):wPre b 16=wG b 16:=rfl
def Glob (w:World):Prop:= ∃e0 e1 f0 f1,w.heap[0]? =some (.cells (a32 initL) e0 f0)∧w.heap[1]? =some (.cells (a32 kL) e1 f1)
def Glob.of {w0 w:World} {L:aB} (hg:Glob w0) (h:Hp w0 L w) (hk: ∀b,b∈keys L→1<b):Glob w:=by
 obtain⟨e0,e1,f0,f1,h0,h1⟩:=hg
 refine⟨e0,e1,f0,f1, ?_, ?_⟩
 ·rw[h.old 0 (Array.getElem?_eq_some_iff.1 h0).1 (fun hm=>by have:=hk 0 hm;omega)];exact h0
 rw[h.old 1 (Array.getElem?_eq_some_iff.1 h1).1 (fun hm=>by have:=hk 1 hm;omega)];exact h1
structure Hs where
 st:List UInt32
 rest:List UInt8
 many:Nat
structure Hs.Ok (s:Hs):Prop where
 st:s.st.length=8
 rest:s.rest.length=64
 many:s.many<64
def hput (s:Hs) (x:UInt8):Hs:=
 if s.many+1=64 then⟨comp s.st (s.rest.set s.many x),s.rest.set s.many x,0⟩ else⟨s.st,s.rest.set s.many x,s.many+1⟩
def Xy {s:Hs} (x:UInt8) (h:s.Ok): (hput s x).Ok:=by
 unfold hput
 split
 ·exact⟨KJ _ _,by simp[h.rest],by show(0:Nat)<64;omega⟩
 exact⟨h.st,by simp[h.rest],by show s.many+1<64;have:=h.many;omega⟩
def loadV_one (cs:Array Value) (E:TypeId) (fz:Nat×Nat) (n i:Nat):aQ (some (false,n)) (some (.cells cs E fz)) i=cs[i]? :=(rfl)
end Go.Dig
section
open Go Go.Proofs Go.Sx Go.Dig
namespace Go.Proofs
def GlobE (w:World):Prop:= ∃e0 e1 f0 f1,w.heap[2]? =some (.cells (a32 initL) e0 f0)∧w.heap[3]? =some (.cells (a32 kL) e1 f1)
def GlobE.of {w0 w:World} {L:aB} (hg:GlobE w0) (h:Hp w0 L w) (hk: ∀b,b∈keys L→3<b):GlobE w:=by
 obtain⟨e0,e1,f0,f1,h0,h1⟩:=hg
 refine⟨e0,e1,f0,f1, ?_, ?_⟩
 ·rw[h.old _ (Array.getElem?_eq_some_iff.1 h0).1 (fun hm=>by have:=hk _ hm;omega)];exact h0
 rw[h.old _ (Array.getElem?_eq_some_iff.1 h1).1 (fun hm=>by have:=hk _ hm;omega)];exact h1
def rX (x:UInt32) (n:UInt64) (w:World):Rets prog 196 #[v32 x,v64 n] w (fun v D=>v=v32 (rgt x n)∧D= []):=by
 refine Rets.enterV func196 rfl (rs:= [.tmp 4]) results196 ntmps196 ?_
 refine kf ?_
 refine ky @Nat.add_zero ?_
 refine⟨_,(ke @Nat.add_zero),trivial, ?_⟩
 rfl
def Ob (w:World):Rets prog 197 #[] w (fun v D=>v= .agg (a32 kL)∧D= []):=by
 refine Rets.enterV func197 rfl (rs:= [.cell 0 307]) results197 ntmps197 ?_
 refine kf ?_
 refine ky @Nat.add_zero ?_
 have qX:kL.length=64:=rfl
 refine Ow.alloc rfl rfl zr307 fun b1 _ aP=> ?_
 refine ko @Nat.add_zero ?_
 refine ky @Nat.add_zero ?_
 refine Ow.build (.agg (a32 kL)) rfl kR ?_
 refine ko @Nat.add_zero ?_
 refine ky @Nat.add_zero ?_
 refine⟨_,(ke @Nat.add_zero),⟨aP,trivial⟩, ?_⟩
 rfl
def Cm (n:Nat):UInt64.ofInt (n:Int)=UInt64.ofNat n:=by
 apply UInt64.toNat.inj
 rw[show UInt64.ofInt (n:Int)=UInt64.ofNat ((n:Int)%2^64).toNat from rfl,UInt64.toNat_ofNat',UInt64.toNat_ofNat']
 omega
end Go.Proofs
end
namespace Go.Dig
open Go.Sx
def ja (m:Nat):Nat:=(120 - m)%64
def lenB (t:UInt64) (g:Nat):UInt8:=UInt8.ofNat (pL (8*t) (56 - 8*g)).toNat
def len8 (t:UInt64):List UInt8:=(List.range 8).map (lenB t)
def outB (st:List UInt32) (j:Nat):UInt8:=UInt8.ofNat (gb (st.getD (j / 4) 0) (24 - 8* (j%4))).toNat
def oQ (st:List UInt32) (k:Nat):List UInt8:=(List.range 32).map fun j=>if j<k then outB st j else 0
def H0:Hs:=⟨initL,List.replicate 64 0,0⟩
def axX_:H0.Ok:=⟨rfl,by simp[H0],by show(0:Nat)<64;omega⟩
def outPre_length (st:List UInt32) (k:Nat): (oQ st k).length=32:=by simp[oQ]
def PB (st:List UInt32):oQ st 0=List.replicate 32 0:=by
 apply List.ext_getElem
 ·simp[oQ]
 intro k iy fw
 simp only[oQ,List.getElem_map,List.getElem_range,List.getElem_replicate]
 rw[if_neg oM]
def Py (st:List UInt32) (k:Nat): (oQ st k).set k (outB st k)=oQ st (k+1):=by
 apply List.ext_getElem
 ·simp[oQ]
 intro j iy fw
 rw[List.getElem_set]
 by_cases h:k=j
 ·subst h;simp[oQ]
 rw[if_neg h]
 simp only[oQ,List.getElem_map,List.getElem_range]
 by_cases h1:j<k
 ·rw[if_pos h1,if_pos oM]
 rw[if_neg h1,if_neg oM]
def Oc (t:UInt64): (len8 t).length=8:=by simp[len8]
end Go.Dig
section
open Go Go.Proofs Go.Sx Go.Dig
namespace Go.Proofs
end Go.Proofs
end
namespace Go.Dig
open Go.Sx
def quoN (t:UInt64):Nat→UInt64
 |0=>t
 |n+1=>quoN t n / 256
def Sp (t:UInt64) (n:Nat): (quoN t n).toNat=t.toNat / 256^n:=by
 induction n with
 |zero=>simp[quoN]
 |succ n ih=>
  show(quoN t n / 256).toNat=_
  rw[UInt64.toNat_div,ih,Nat.pow_succ,Nat.div_div_eq_div_mul];rfl
def xT (t:UInt64) (j:Nat):UInt8:=UInt8.ofNat (pL t (56 - 8*j)).toNat
def WA (t:UInt64) (i:Nat) (h:i<8):UInt8.ofNat (quoN t i%256).toNat=xT t (7 - i):=by
 apply UInt8.toNat.inj
 unfold xT
 rw[UInt8.toNat_ofNat',UInt8.toNat_ofNat',UInt64.toNat_mod,Sp,pL,UInt64.toNat_ofNat']
 have e:56 - 8* (7 - i)=8*i:=by omega
 have ht:=t.toNat_lt
 have hd:t.toNat / 2^ (8*i)≤t.toNat:=Nat.div_le_self _ _
 rw[e,Nat.mod_eq_of_lt (a:=t.toNat / 2^ (8*i)) oM]
 have e2:256^i=2^ (8*i):=by rw[Nat.pow_mul]
 rw[e2,show(256:UInt64).toNat=256 from rfl]
 omega
def lk (t:UInt64) (i:Nat):List UInt8:=(List.range 8).map fun j=>if 8≤j+i then xT t j else 0
def M1 (t:UInt64) (i:Nat): (lk t i).length=8:=by simp[lk]
def O3 (t:UInt64):lk t 0=List.replicate 8 0:=by
 apply List.ext_getElem
 ·simp[lk]
 intro k iy fw
 have:k<8:=by simpa [lk] using iy
 simp only[lk,List.getElem_map,List.getElem_range,List.getElem_replicate]
 rw[if_neg oM]
def OE (t:UInt64) (i:Nat) (h:i<8): (lk t i).set (7 - i) (UInt8.ofNat (quoN t i%256).toNat)=lk t (i+1):=by
 rw[WA t i h]
 apply List.ext_getElem
 ·simp[lk]
 intro j hj1 Jj
 have hj:j<8:=by simpa [lk] using Jj
 rw[List.getElem_set]
 by_cases h1:7 - i=j
 ·rw[if_pos h1]
  simp only[lk,List.getElem_map,List.getElem_range]
  rw[if_pos oM,h1]
 rw[if_neg h1]
 simp only[lk,List.getElem_map,List.getElem_range]
 by_cases h2:8≤j+i
 ·rw[if_pos h2,if_pos oM]
 rw[if_neg h2,if_neg oM]
def OU (t:UInt64):lk (8*t) 8=len8 t:=by
 unfold lk len8
 apply List.map_congr_left
 intro j hj
 rw[if_pos oM];rfl
def padR (m:List UInt8):List UInt8:=m++ [128]++List.replicate (ja ((m.length+1)%64)) 0++len8 (UInt64.ofNat m.length)
def BK (n:Nat): (n+ja (n%64))%64=56∧ja (n%64)<64:=by unfold ja;omega
def PC (m:List UInt8): (padR m).length%64=0∧(padR m).length≤m.length+72:=by
 have:=BK (m.length+1)
 simp only[padR,List.length_append,List.length_replicate,Oc,List.length_cons,List.length_nil]
 omega
def shaR (m:List UInt8):List UInt8:=oQ (mi initL (padR m) ((padR m).length / 64)) 32
def Rl (st s:List UInt32):pu st s 8= [st.getD 0 0+s.getD 0 0,st.getD 1 0+s.getD 1 0,st.getD 2 0+s.getD 2 0,st.getD 3 0+s.getD 3 0,st.getD 4 0+s.getD 4 0,st.getD 5 0+s.getD 5 0,st.getD 6 0+s.getD 6 0,st.getD 7 0+s.getD 7 0]:=rfl
end Go.Dig
section
open Go Go.Proofs Go.Sx Go.Dig
namespace Go.Proofs
def cE:= @Jx_
def WW_ (m:List UInt8) (hm:m.length<1099511627776) (w:World):
  Rets prog 136 #[vs m] w (fun v D=>v=vs (padR m)∧D= []):=by
 refine Rets.enterV func136 rfl (rs:= [.tmp 2]) results136 ntmps136 ?_
 refine kf ?_
 refine ky @cE ?_
 have hz:=BK (m.length+1)
 rw[show m++ [128]=m++ [128]++List.replicate 0 0 from(List.append_nil _).symm]
 refine Cw.loopG (G:=Nat) [9,10,11,12,13,14,3] (fun g=> [(3,vs (m++ [128]++List.replicate g 0))]) (fun g=> []) (fun g=>g≤ja ((m.length+1)%64)) (fun g=>ja ((m.length+1)%64) - g) 0 rfl rfl ?_ ?_
 ·omega
 intro g j hg
 refine kv ?_
 have hl: (m++ [128]++List.replicate g 0).length=m.length+1+g:=by simp;omega
 by_cases aC:g<ja ((m.length+1)%64)
 ·have h56: (m.length+1+g)%64≠56:=by unfold ja at*;omega
  refine ky (aN @cE @hl) ?_
  refine Again.mk (g+1) oM oM rfl ?_
  rw[show m++ [128]++List.replicate (g+1) 0=m++ [128]++List.replicate g 0++ [0] from by rw[List.replicate_succ'];simp]
  rfl
 have hge:g=ja ((m.length+1)%64):=by omega
 subst hge
 refine ky (aN @cE @hl) ?_
 refine Ow.alloc rfl rfl zr306 fun b1 aO aP=> ?_
 rw[show UInt64.ofInt (m.length:Int)=UInt64.ofNat m.length from Cm _]
 refine ko @cE ?_
 refine ky @cE ?_
 generalize ht:UInt64.ofNat m.length*8=t
 rw[←O3 t]
 refine Cw.loopG (G:=Nat) [19,20,23,24,25,26,27,28,29,30,4,21,22,6] (fun i=> [(4,v64 (quoN t i)),(6,vi i)]) (fun i=> [(b1, .cells (a8 (lk t i)) 306 (0,0))]) (fun i=>i≤8) (fun i=>8 - i) 0 rfl rfl ?_ ?_
 ·omega
 intro i ji hi
 refine kv ?_
 have dE:=M1 t i
 by_cases hi8:i<8
 ·refine ky @cE ?_
  refine Again.mk (i+1) oM oM ?_ rfl
  rw[OE t i hi8]
 have x_:i=8:=by omega
 subst x_
 refine ky @cE ?_
 rw[List.drop_zero,List.take_of_length_le (show(lk t 8).length≤8 by omega),←ht,UInt64.mul_comm,OU]
 refine⟨_,(ke @cE),⟨aP,trivial⟩, ?_⟩
 rfl
def Qc (st:List UInt32) (blk:List UInt8) (bL:st.length=8) (dH:blk.length=64) (w:World):
  Rets prog 137 #[.agg (a32 st),vs blk] w (fun v D=>v= .agg (a32 (comp st blk))∧D= []):=by
 have qX:kL.length=64:=rfl
 refine Rets.enterV func137 rfl (rs:= [.cell 4 251]) results137 ntmps137 ?_
 refine kf ?_
 refine ky @cE ?_
 refine Ow.box rfl rfl fun b1 aO aP=> ?_
 refine ko @cE ?_
 refine Ow.alloc rfl rfl zr251 fun b2 al bR=> ?_
 obtain⟨uW,-⟩:=al
 refine ko @cE ?_
 refine ky @cE ?_
 refine Ow.alloc rfl rfl zr307 fun b3 gA lB=> ?_
 obtain⟨GK,zV,-⟩:=gA
 refine ko @cE ?_
 refine ky @cE ?_
 rw[←TL blk]
 refine Cw.loopG (G:=Nat) [22,23,26,27,28,29,30,31,32,33,34,35,36,37,38,39,40,41,42,43,44,45,46,47,48,49,50,51,52,53,54,55,56,24,25,6] (fun g=> [(6,vi g)]) (fun g=> [(b1, .cells (a32 st) 251 (0,0)),(b2, .cells (a32 (List.replicate 8 0)) 251 (0,0)),(b3, .cells (a32 (wPre blk g)) 307 (0,0))]) (fun g=>g≤16) (fun g=>16 - g) 0 rfl rfl ?_ ?_
 ·omega
 intro g j hg
 refine kv ?_
 have aS:=KL blk g
 by_cases aC:g<16
 ·refine ky @cE ?_
  refine Cw.regionO [0,1,2,3,4,5,6,7,8,9,10,11,12,13,14,15,16,17,18,19,20,21,22,23,24,25,26,27,28,29,30,31] [31] rfl kR kR ?_
  simp only[bF, ↓bE, ↓ay, ↓bD, ↓bC,az]
  refine kq @cE ?_
  refine Ow.store rfl rfl rfl (ke @cE) ?_
  refine ko @cE ?_
  refine ky @cE ?_
  exact Again.mk (g+1) oM oM (by rw[←Tj];rfl) rfl
 have hg16:g=16:=by omega
 subst hg16
 refine ky @cE ?_
 rw[V9]
 refine Cw.loopG (G:=Nat) [57,58,61,62,63,64,65,66,67,68,8,9,69,70,71,72,73,74,75,76,77,78,79,80,81,82,83,84,85,86,87,88,89,90,91,92,93,94,95,96,97,59,60,7] (fun g=> [(7,vi g)]) (fun g=> [(b1, .cells (a32 st) 251 (0,0)),(b2, .cells (a32 (List.replicate 8 0)) 251 (0,0)),(b3, .cells (a32 (wG blk g)) 307 (0,0))]) (fun g=>16≤g∧g≤64) (fun g=>64 - g) 16 rfl rfl ?_ ?_
 ·omega
 intro g j hg
 refine kv ?_
 obtain⟨lR,mu⟩:=hg
 have aS:=U6 blk g
 by_cases aC:g<64
 ·refine ky @cE ?_
  refine Cw.regionO [0,1,2,4,5,6,3,8,7,9] [] rfl kR kR ?_
  simp only[bF, ↓bE, ↓ay, ↓bD, ↓bC,az]
  refine kq @cE ?_
  refine ky @cE ?_
  refine Cw.regionO [0,1,3,6,7,9,10,11,14,16,19,20,23,24,25,12,26,2,4,5,8,13,15,17,18,21,22,27,28,29] [29] rfl kR kR ?_
  simp only[bF, ↓bE, ↓ay, ↓bD, ↓bC,az]
  refine kq @cE ?_
  refine Ow.callFV rfl call196 (fun w' aA=>rX _ 17 w') ?_
  refine kq @cE ?_
  refine Ow.callFV rfl call196 (fun w' aA=>rX _ 19 w') ?_
  refine kq @cE ?_
  refine Ow.callFV rfl call196 (fun w' aA=>rX _ 7 w') ?_
  refine kq @cE ?_
  refine Ow.callFV rfl call196 (fun w' aA=>rX _ 18 w') ?_
  refine kq @cE ?_
  refine Ow.store rfl rfl rfl (ke @cE) ?_
  refine ko @cE ?_
  refine ky @cE ?_
  exact Again.mk (g+1) oM oM (by rw[Xz blk g lR];rfl) rfl
 have xy:g=64:=by omega
 subst xy
 rw[ZX]
 have hwl:=OZ blk
 refine ky @cE ?_
 refine Ow.callFV rfl call197 (fun w' aA=>Ob w') ?_
 refine ko @cE ?_
 refine Ow.alloc rfl rfl zr307 fun b4 ir lC=> ?_
 obtain⟨h14,JR,h34,-⟩:=ir
 refine ko @cE ?_
 refine ky @cE ?_
 refine Cw.regionO [0,2,4,6,1,8,3,9,5,10,7,11] [] rfl kR kR ?_
 simp only[bF, ↓bE, ↓ay, ↓bD, ↓bC,az]
 refine kq @cE ?_
 refine ky @cE ?_
 refine Cw.regionO [0,2,4,6,1,8,3,9,5,10,7,11] [] rfl kR kR ?_
 simp only[bF, ↓bE, ↓ay, ↓bD, ↓bC,az]
 refine kq @cE ?_
 refine ky @cE ?_
 generalize hw:wAll blk=W at*
 refine Cw.loopG (G:=Nat) [115,116,119,120,121,122,123,124,125,126,127,128,129,130,131,132,133,134,135,136,137,138,139,140,141,142,143,144,145,20,146,147,148,149,150,151,152,153,154,155,156,157,158,159,160,161,162,163,164,165,21,166,18,167,17,168,16,169,170,171,15,172,14,173,13,174,12,175,176,177,11,117,118,19] (fun g=> [(19,vi g),(11,v32 ((rGo st W g).getD 0 0)),(12,v32 ((rGo st W g).getD 1 0)),(13,v32 ((rGo st W g).getD 2 0)),(14,v32 ((rGo st W g).getD 3 0)),(15,v32 ((rGo st W g).getD 4 0)),(16,v32 ((rGo st W g).getD 5 0)),(17,v32 ((rGo st W g).getD 6 0)),(18,v32 ((rGo st W g).getD 7 0))]) (fun g=> [(b1, .cells (a32 st) 251 (0,0)),(b2, .cells (a32 (List.replicate 8 0)) 251 (0,0)),(b3, .cells (a32 W) 307 (0,0)),(b4, .cells (a32 kL) 307 (0,0))]) (fun g=>g≤64) (fun g=>64 - g) 0 rfl rfl ?_ ?_
 ·omega
 intro g j hg
 refine kv ?_
 by_cases aC:g<64
 ·refine ky @cE ?_
  refine Cw.regionO [0,1,3,6,10,11,12,13,14,15,16,17,19,20,23,24,21,25,2,4,5,7,8,9,18,22,26,27] [] rfl kR kR ?_
  simp only[bF, ↓bE, ↓ay, ↓bD, ↓bC,az]
  refine kq @cE ?_
  refine Ow.callFV rfl call196 (fun w' aA=>rX _ 6 w') ?_
  refine kq @cE ?_
  refine Ow.callFV rfl call196 (fun w' aA=>rX _ 11 w') ?_
  refine kq @cE ?_
  refine Ow.callFV rfl call196 (fun w' aA=>rX _ 25 w') ?_
  refine kq @cE ?_
  refine ky @cE ?_
  refine Ow.callFV rfl call196 (fun w' aA=>rX _ 2 w') ?_
  refine ko @cE ?_
  refine Ow.callFV rfl call196 (fun w' aA=>rX _ 13 w') ?_
  refine ko @cE ?_
  refine Ow.callFV rfl call196 (fun w' aA=>rX _ 22 w') ?_
  refine ko @cE ?_
  refine ky @cE ?_
  exact Again.mk (g+1) oM oM rfl rfl
 have xy:g=64:=by omega
 subst xy
 refine ky @cE ?_
 have HC:comp st blk=pu st (rGo st W 64) 8:=by rw[←hw];rfl
 rw[HC]
 generalize rGo st W 64=R at*
 rw[Rl]
 refine Ow.build (.agg (a32 [st.getD 0 0+R.getD 0 0,st.getD 1 0+R.getD 1 0,st.getD 2 0+R.getD 2 0,st.getD 3 0+R.getD 3 0,st.getD 4 0+R.getD 4 0,st.getD 5 0+R.getD 5 0,st.getD 6 0+R.getD 6 0,st.getD 7 0+R.getD 7 0])) rfl kR ?_
 refine ko @cE ?_
 refine ky @cE ?_
 refine⟨_,(ke @cE),⟨aP,bR,lB,lC,trivial⟩, ?_⟩
 rfl
def jY:= @Jx_
def Pv (m:List UInt8) (hm:m.length<1099511627776) (w:World):
  Rets prog 70 #[vs m] w (fun v D=>v= .agg (a8 (shaR m))∧D= []):=by
 refine Rets.enterV func70 rfl (rs:= [.cell 2 24]) results70 ntmps70 ?_
 refine kf ?_
 refine ky @jY ?_
 refine Ow.alloc rfl rfl zr24 fun b1 aO aP=> ?_
 refine ko @jY ?_
 refine ky @jY ?_
 refine Ow.callFV rfl call136 (fun w' aA=>WW_ m hm w') ?_
 have hp:=PC m
 unfold shaR
 generalize padR m=p at*
 refine ko @jY ?_
 refine ky @jY ?_
 refine Ow.build (.agg (a32 initL)) rfl kR ?_
 refine ko @jY ?_
 refine Ow.alloc rfl rfl zr251 fun b2 al bR=> ?_
 obtain⟨uW,-⟩:=al
 have iw:initL.length=8:=rfl
 refine ko @jY ?_
 refine ky @jY ?_
 rw[show a32 initL=a32 (mi initL p 0) from rfl]
 refine Cw.loopG (G:=Nat) [11,12,13,14,17,18,19,20,21,22,23,15,16,5] (fun g=> [(5,vi (64*g))]) (fun g=> [(b1, .cells (a8 (List.replicate 32 0)) 24 (0,0)),(b2, .cells (a32 (mi initL p g)) 251 (0,0))]) (fun g=>64*g≤p.length) (fun g=>p.length - 64*g) 0 rfl rfl ?_ ?_
 ·omega
 intro g j hg
 refine kv ?_
 have k_:=Nc initL p g rfl
 by_cases aC:64*g<p.length
 ·refine ky @jY ?_
  refine Cw.regionO [1,2,3,4,5,0,6,7] [7] rfl kR kR ?_
  simp only[bF, ↓bE, ↓ay, ↓bD, ↓bC,az]
  refine kq @jY ?_
  rw[show List.drop (64*g) (List.take (64*g+64) p)=(p.drop (64*g)).take 64 from by rw[List.drop_take];congr 1;omega]
  refine Ow.callFV rfl call137 (fun w' aA=>Qc _ _ k_ (by simp;omega) w') ?_
  have hcl2:=KJ (mi initL p g) ((p.drop (64*g)).take 64)
  refine kq @jY ?_
  refine Ow.store rfl rfl rfl (ke @jY) ?_
  refine ko @jY ?_
  refine ky @jY ?_
  exact Again.mk (g+1) oM oM rfl (by rw[show 64* ((g+1:Nat):Int)=64* (g:Int)+64 from by omega];rfl)
 have hge:g=p.length / 64:=by omega
 refine ky @jY ?_
 rw[←hge]
 refine Ow.alloc rfl rfl zr24 fun b3 gA lB=> ?_
 obtain⟨GK,zV,-⟩:=gA
 refine ko @jY ?_
 refine ky @jY ?_
 generalize mi initL p g=S at*
 rw[show [(b1,Obj.cells (a8 (List.replicate 32 0)) 24 (0,0)),(b2, .cells (a32 S) 251 (0,0)),(b3, .cells (a8 (List.replicate 32 0)) 24 (0,0))]= [(b1,Obj.cells (a8 (List.replicate 32 0)) 24 (0,0)),(b2, .cells (a32 S) 251 (0,0)),(b3, .cells (a8 (oQ S 0)) 24 (0,0))] from by rw[PB]]
 refine Cw.loopG (G:=Nat) [24,25,28,29,30,31,32,33,34,35,36,37,38,39,40,26,27,7] (fun k=> [(7,vi k)]) (fun k=> [(b1, .cells (a8 (List.replicate 32 0)) 24 (0,0)),(b2, .cells (a32 S) 251 (0,0)),(b3, .cells (a8 (oQ S k)) 24 (0,0))]) (fun k=>k≤32) (fun k=>32 - k) 0 rfl rfl ?_ ?_
 ·omega
 intro k jk hk
 refine kv ?_
 have qg:=outPre_length S k
 by_cases hk:k<32
 ·refine ky @jY ?_
  refine Again.mk (k+1) oM oM ?_ rfl
  have e: (UInt64.ofInt (24 - 8* ((k:Int)%4))).toNat=24 - 8* (k%4):=by
   rw[show(24 - 8* ((k:Int)%4))=((24 - 8* (k%4):Nat):Int) from by omega,Cm,UInt64.toNat_ofNat',Nat.mod_eq_of_lt oM]
  rw[e,←Py];rfl
 have hke:k=32:=by omega
 subst hke
 refine ky @jY ?_
 refine⟨_,(ke @jY),⟨aP,bR,lB,trivial⟩, ?_⟩
 rfl
end Go.Proofs
end
namespace Go.Dig
open Go.Sx
structure Inv (s:Hs) (p:List UInt8):Prop where
 ok:s.Ok
 st:s.st=mi initL p (p.length / 64)
 many:s.many=p.length%64
 rest:s.rest.take s.many=p.drop (64* (p.length / 64))
def Inv.put {s:Hs} {p:List UInt8} (h:Inv s p) (x:UInt8):Inv (hput s x) (p++ [x]):=by
 obtain⟨cG,bL,hmany,qo⟩:=h
 have hk:=Xy x cG
 have hm64:=cG.many
 have oA:=cG.rest
 have dC:64* (p.length / 64)≤p.length:=by omega
 have vF: (s.rest.set s.many x).take (s.many+1)=p.drop (64* (p.length / 64))++ [x]:=by
  rw[List.take_add_one,List.take_set,←qo]
  congr 1
  ·rw[List.set_eq_of_length_le (by simp only[List.length_take];exact Nat.min_le_left _ _)]
  simp[oA,hm64]
 have aS: (p++ [x]).length=p.length+1:=by simp
 have hc:mi initL (p++ [x]) (p.length / 64)=mi initL p (p.length / 64):=NW _ _ _ _ dC
 by_cases rI:s.many+1=64
 ·have e:hput s x=⟨comp s.st (s.rest.set s.many x),s.rest.set s.many x,0⟩:=by unfold hput;rw[if_pos rI]
  have hd: (p.length+1) / 64=p.length / 64+1:=by omega
  have hr: (s.rest.set s.many x)=p.drop (64* (p.length / 64))++ [x]:=by
   rw[←vF,rI,List.take_of_length_le (by simp[oA])]
  refine⟨hk, ?_, ?_, ?_⟩
  ·rw[e,aS,hd]
   show comp s.st _=comp (mi initL (p++ [x]) (p.length / 64)) _
   rw[hc,←bL,hr,List.drop_append_of_le_length dC,List.take_of_length_le (by simp;omega)]
  ·rw[e,aS];show 0=_;omega
  rw[e,aS]
  show List.take 0 _=_
  rw[List.take_zero,List.drop_of_length_le (by rw[aS];omega)]
 have e:hput s x=⟨s.st,s.rest.set s.many x,s.many+1⟩:=by unfold hput;rw[if_neg rI]
 have hd: (p.length+1) / 64=p.length / 64:=by omega
 refine⟨hk, ?_, ?_, ?_⟩
 ·rw[e,aS,hd,hc];exact bL
 ·rw[e,aS];show s.many+1=_;omega
 rw[e,aS,hd]
 show List.take (s.many+1) (s.rest.set s.many x)=_
 rw[vF,List.drop_append_of_le_length dC]
def Inv.zero:Inv H0 []:=⟨axX_,rfl,rfl,rfl⟩
end Go.Dig
section
open Go Go.Proofs Go.Sx Go.StP
namespace Go.Proofs
def GlobE.new {w0 w:World} {L:aB} (hg:GlobE w0) (h:Hp w0 L w) (hn:New w0.heap.size L):GlobE w:=by
 obtain⟨e0,e1,f0,f1,h0,h1⟩:=id hg
 have:3<w0.heap.size:=(Array.getElem?_eq_some_iff.1 h1).1
 exact hg.of h fun b hb=>by have:=hn.le b hb;omega
def wP (m:List UInt8): (Dig.shaR m).length=32:=Dig.outPre_length _ _
def iK:=aN (aN (aN @zM @zJ) (aN @z8 @zS)) (aN (aN @Sx.tup2_0 @Sx.tup2_1) (aN @bB @bA))
def idV (k:Int) (t:List UInt8):IdL:=if RdOk k t then⟨Dig.shaR (Zm k t),wP _⟩ else id0
def uJ (k:Int) (t:List UInt8):List UInt8:=(if k=3 then [99] else if k=2 then [116] else [98])++dz t
def Pn (k:Int) (t:List UInt8) (w:World) (ht:t.length<100000):Rets prog 71 #[obV k t] w (fun v D=>v=vs (uJ k t)∧D= []):=by
 have tl:=Ar (s:=t) oM
 refine Rets.enterV func71 rfl (rs:= [.tmp 2]) results71 ntmps71 ?_
 refine kf ?_
 refine ky @iK ?_
 refine Ow.box rfl rfl fun b1 aO aP=> ?_
 simp only[ck,cV,ce,ag,List.nil_append]
 unfold uJ
 by_cases h3:k=3
 ·have e2: (k==2)=false:=beq_eq_false_iff_ne.2 oM
  have e3: (k==3)=true:=by simp[h3]
  rw[if_pos h3]
  refine ko (aN @iK (aN @e2 @e3)) ?_
  refine ky (aN @iK (aN @e2 @e3)) ?_
  refine Ow.callFV rfl call138 (fun w' aA=>II t w' oM) ?_
  refine ko @iK ?_
  refine ky @iK ?_
  refine⟨_,(ke @iK),⟨aP,trivial⟩, ?_⟩
  rfl
 have e3: (k==3)=false:=by simpa using h3
 rw[if_neg h3]
 by_cases h2:k=2
 ·have e2: (k==2)=true:=by simp[h2]
  rw[if_pos h2]
  refine ko (aN @iK (aN @e2 @e3)) ?_
  refine ky (aN @iK (aN @e2 @e3)) ?_
  refine Ow.callFV rfl call138 (fun w' aA=>II t w' oM) ?_
  refine ko @iK ?_
  refine ky @iK ?_
  refine⟨_,(ke @iK),⟨aP,trivial⟩, ?_⟩
  rfl
 have e2: (k==2)=false:=by simpa using h2
 rw[if_neg h2]
 refine ko (aN @iK (aN @e2 @e3)) ?_
 refine ky (aN @iK (aN @e2 @e3)) ?_
 refine Ow.callFV rfl call138 (fun w' aA=>II t w' oM) ?_
 refine ko @iK ?_
 refine ky @iK ?_
 refine⟨_,(ke @iK),⟨aP,trivial⟩, ?_⟩
 rfl
def Ws (k:Int) (t:List UInt8) (w:World) (ht:t.length<100000):Rets prog 20 #[obV k t] w (fun v D=>v= .agg (a8 (Dig.shaR (uJ k t)))∧D= []):=by
 have tl:=Ar (s:=t) oM
 have fl: (uJ k t).length<1099511627776:=by
  have nl:=ij (t.length:Int)
  unfold uJ dz;rw[List.length_append,List.length_append]
  have: ((if k=3 then [99] else if k=2 then [116] else [98]:List UInt8)).length=1:=by split<;>(try split)<;>rfl
  omega
 have cb:=wP (uJ k t)
 refine Rets.enterV func20 rfl (rs:= [.cell 2 24]) results20 ntmps20 ?_
 refine kf ?_
 refine ky @iK ?_
 refine Ow.box rfl rfl fun b1 aO aP=> ?_
 simp only[ck,cV,ce,ag,List.nil_append]
 refine ko @iK ?_
 refine Ow.alloc rfl rfl nb fun b2 al bR=> ?_
 simp only[ag,List.nil_append,List.cons_append]
 have uW:b1<b2:=ak al (by simp[keys])
 have hi0:=id0.h
 refine ko @iK ?_
 refine Ow.callFV rfl call71 (fun w' aA=>Pn k t w' ht) ?_
 refine ko @iK ?_
 refine Ow.callFV rfl call70 (fun w' aA=>Pv _ fl w') ?_
 refine ko @iK ?_
 refine ky @iK ?_
 refine⟨_,(ke @iK),⟨aP,bR,trivial⟩, ?_⟩
 rfl
instance:DecidableEq ChildL:=fun a b=>if h:a.id.l=b.id.l∧a.kind=b.kind then .isTrue (by cases a;cases b;simp only at h;obtain⟨h3,rfl⟩:=h;rw[IdL.ext' h3]) else .isFalse (fun e=>h (by rw[e];exact⟨rfl,rfl⟩))
theorem ChildL.ext' {a b:ChildL} (h: (a.id.l==b.id.l&&a.kind==b.kind)=true):a=b:=by
 simp only[Bool.and_eq_true,beq_iff_eq] at h
 cases a;cases b;simp only at h;obtain⟨h3,rfl⟩:=h;rw[IdL.ext' h3]
end Go.Proofs
end
section
open Go Go.Proofs Go.Sx Go.StP Go.Flo
namespace Go.Proofs
structure ObL where
 k:Int
 t:List UInt8
def ob0:ObL:=⟨0,[]⟩
def obC (o:ObL):List Value:= [vi o.k,vs o.t]
def uA (o:ObL): (obC o).length=2:=rfl
def Ai (o:ObL): (obC o).all Value.oneCell'=true:=rfl
def kg (s:List UInt8):ObL:=⟨if frOk s then frK s else 0,if frOk s then(frT s).1 else []⟩
def idOf (s:List UInt8):IdL:=idV (kg s).k (kg s).t
def Fo:List (List UInt8)→List IdL→List ObL→Option (List IdL×List ObL)
 | [],ids,os=>some (ids,os)
 |s::r,ids,os=>if frOk s=true∧(ids.any fun y=>(idOf s).l==y.l)=false then Fo r (ids++ [idOf s]) (os++ [kg s]) else none
def fillV (l:List PartL):Option (List IdL×List ObL):=match allV l with
 | .ok ts=>Fo ts [] []
 | .error _=>none
end Go.Proofs
end
section
open Go Go.Proofs Go.Sx
namespace Go.Proofs
def hvL:List UInt32:= [0x00000000,0x1db71064,0x3b6e20c8,0x26d930ac,0x76dc4190,0x6b6b51f4,0x4db26158,0x5005713c,0xedb88320,0xf00f9344,0xd6d6a3e8,0xcb61b38c,0x9b64c2b0,0x86d3d2d4,0xa00ae278,0xbdbdf21c]
def pj (n:UInt32):UInt32:=gb n 4^^^hvL.getD (n&&&15).toNat 0
def nc (n:UInt32):Nat→UInt32
 |0=>n
 |k+1=>pj (nc n k)
def ng (n:UInt32) (b:UInt8):UInt32:=nc (n^^^UInt32.ofNat b.toNat) 2
def TG (n:UInt32): (n&&&15).toNat<16:=by
 rw[UInt32.toNat_and]
 exact Nat.lt_of_le_of_lt Nat.and_le_right (by decide)
def GlobC (w:World):Prop:= ∃e f,w.heap[(4:Nat)]? =some (.cells (a32 hvL) e f)
def GlobC.of {w w':World} {L:aB} (h:GlobC w) (hw:Hp w L w') (hn: (4:Nat)∉keys L):GlobC w':=by
 obtain⟨e,f,h⟩:=h
 exact⟨e,f,by rw[hw.old _ (Array.getElem?_eq_some_iff.1 h).1 hn];exact h⟩
def XP:hvL.length=16:=rfl
def eW:=aN (aN @bB @iH) (aN @iG (aN @iE @bA))
def Sg (n:UInt32) (b:UInt8) (w:World) (hG:GlobC w):
  Rets prog 305 #[v32 n,v8 b] w (fun v D=>v=v32 (ng n b)∧D= []):=by
 obtain⟨e,f,yY⟩:=hG
 refine Rets.enterV func305 rfl (rs:= [.tmp 4]) results305 ntmps305 ?_
 refine kf ?_
 refine ky @eW ?_
 unfold ng
 generalize n^^^UInt32.ofNat b.toNat=m
 rw[show v32 m=v32 (nc m 0) from rfl]
 refine Cw.loopG (G:=Nat) [10,11,12,13,14,15,16,17,0,18,9] (fun g=> [(0,v32 (nc m g)),(9,vi g)]) (fun g=> []) (fun g=>g≤2) (fun g=>2 - g) 0 rfl rfl ?_ ?_
 ·omega
 intro g j hg
 refine kv ?_
 by_cases aC:g<2
 ·have h15:=TG (nc m g)
  have hl:=XP
  refine ky (aN @eW @yY) ?_
  refine Again.mk (g+1) oM oM rfl rfl
 obtain rfl:g=2:=by omega
 refine ky @eW ?_
 refine⟨_,(ke @eW),trivial, ?_⟩
 rfl
def je (n:UInt32) (s:List UInt8):UInt32:=s.foldl ng n
def BY (n:UInt32) (s:List UInt8) (g:Nat) (h:g<s.length):je n (s.take (g+1))=ng (je n (s.take g)) (s.getD g 0):=by
 unfold je
 rw[List.take_succ_eq_append_getElem h,List.foldl_append,List.getD_eq_getElem?_getD,List.getElem?_eq_getElem h]
 rfl
def TD (n:UInt32) (s:List UInt8) (w:World) (hG:GlobC w) (hs:s.length<1099511627776):
  Rets prog 272 #[v32 n,vs s] w (fun v D=>v=v32 (~~~ (je (~~~ n) s))∧D= []):=by
 refine Rets.enterV func272 rfl (rs:= [.tmp 4]) results272 ntmps272 ?_
 refine kf ?_
 refine ky @eW ?_
 rw[show v32 (~~~ n)=v32 (je (~~~ n) (s.take 0)) from rfl]
 refine Cw.loopG (G:=Nat) [12,13,6,14,15,16,17,18,5,19,11] (fun g=> [(5,v32 (je (~~~ n) (s.take g))),(11,vi g)]) (fun g=> []) (fun g=>g≤s.length) (fun g=>s.length - g) 0 rfl rfl ?_ ?_
 ·omega
 intro g j hg
 refine kv ?_
 by_cases aC:g<s.length
 ·refine ky @eW ?_
  refine Ow.callFV rfl call305 (fun w' aA=>Sg _ _ w' (GlobC.of hG aA (by simp[keys]))) ?_
  refine ko @eW ?_
  refine ky @eW ?_
  refine Again.mk (g+1) oM oM rfl ?_
  rw[BY _ _ _ aC]
  rfl
 obtain rfl:g=s.length:=by omega
 refine ky @eW ?_
 rw[List.take_length]
 refine⟨_,(ke @eW),trivial, ?_⟩
 rfl
def crcV (s:List UInt8):UInt32:= ~~~ (je (~~~ (0:UInt32)) s)
def U7 (b:Nat) (s:List UInt8) (E:TypeId) (w:World) (hG:GlobC w) (hs:s.length<1099511627776) (ho:w.heap[b]? =some (.cells #[vs s] E (0,0))):
  Rets prog 237 #[vsl b 0 1 1] w (fun v D=>v=v32 (crcV s)∧D= []):=by
 have hS:StrS w (vsl b 0 1 1) [s] b 0 #[vs s] E (0,0):=StrS.lit [s] rfl rfl ho
 refine Rets.enterV func237 rfl (rs:= [.tmp 2]) results237 ntmps237 ?_
 refine kf ?_
 refine ky @eW ?_
 refine Cw.loopG (G:=Nat) [9,10,11,5,12,13,14,3,15,8] (fun g=> [(3,v32 (if g=0 then 0 else crcV s)),(8,vi g)]) (fun g=> []) (fun g=>g≤1) (fun g=>1 - g) 0 rfl rfl ?_ ?_
 ·omega
 intro g j hg
 refine kv ?_
 by_cases aC:g<1
 ·obtain rfl:g=0:=by omega
  have pB:=hS.get 0 (by simp)
  have cW:=hS.has (by simp)
  have zi:=fun m=>hS.idx m 0 (by simp)
  ((try with_reducible refine Cw.go [] ?_);(try simp(disch:=first|exact dD|fail) only[↓Sx.S0,Sx.S1,fx,eW,Nat.reduceAdd,Nat.reducePow,Int.reducePow,Nat.reduceBEq, ↓reduceIte,UInt8.reduceToNat,UInt16.reduceToNat,UInt32.reduceToNat,UInt64.reduceToNat,Int.reduceToNat,Sx.loadV_one,cW,pB,zi]))
  refine Ow.callFV rfl call272 (fun w' aA=>TD 0 s w' (GlobC.of hG aA (by simp[keys])) hs) ?_
  refine ko @eW ?_
  refine ky @eW ?_
  refine Again.mk 1 oM oM rfl rfl
 obtain rfl:g=1:=by omega
 refine ky @eW ?_
 refine⟨_,(ke @eW),trivial, ?_⟩
 rfl
def vy (n:UInt32) (g:Nat):List UInt8:=(List.range 4).map fun j=>if j<g then UInt8.ofNat (gb n (8*j)).toNat else 0
def sum4 (n:UInt32):List UInt8:=vy n 4
def BH (n:UInt32) (g:Nat): (vy n g).length=4:=by simp[vy]
def Od (n:UInt32) (g:Nat) (h:g<4): (vy n g).set g (UInt8.ofNat (gb n (8*g)).toNat)=vy n (g+1):=by
 have:g=0∨g=1∨g=2∨g=3:=by omega
 rcases this with rfl|rfl|rfl|rfl<;>rfl
def gZ (s:List UInt8):List UInt8:=s++sum4 (crcV s)
def B_ (s:List UInt8) (w:World) (hG:GlobC w) (hs:s.length<1099511627776):
  Rets prog 209 #[vs s] w (fun v D=>v=vs (gZ s)∧D= []):=by
 have iW: (4:Nat)<w.heap.size:=by obtain⟨e,f,h⟩:=hG;exact(Array.getElem?_eq_some_iff.1 h).1
 refine Rets.enterV func209 rfl (rs:= [.tmp 2]) results209 ntmps209 ?_
 refine kf ?_
 refine ky @eW ?_
 refine Ow.buildSlice (e:=9) #[vs s] rfl rfl kR fun b1 aO aP=> ?_
 refine ko @eW ?_
 refine Ow.callFV rfl call237 (fun w' aA=>U7 b1 s _ w' (GlobC.of hG aA (by simp[keys];omega)) hs (aA.has _ _ aa)) ?_
 refine ko @eW ?_
 refine ky @eW ?_
 unfold gZ
 generalize crcV s=n
 refine Ow.alloc rfl rfl zr346 fun b2 al bR=> ?_
 obtain⟨uW,-⟩:=al
 refine ko @eW ?_
 refine ky @eW ?_
 rw[show a8 (List.replicate 4 0)=a8 (vy n 0) from rfl]
 refine Cw.loopG (G:=Nat) [10,11,5,12,13,14,15,16,17,18,19,9] (fun g=> [(9,vi g)]) (fun g=> [(b1, .cells #[vs s] 9 (0,0)),(b2, .cells (a8 (vy n g)) 346 (0,0))]) (fun g=>g≤4) (fun g=>4 - g) 0 rfl rfl ?_ ?_
 ·omega
 intro g j hg
 refine kv ?_
 have fy:=BH n g
 by_cases aC:g<4
 ·refine ky @eW ?_
  refine Again.mk (g+1) oM oM ?_ rfl
  rw[Od n g aC]
 obtain rfl:g=4:=by omega
 refine ky @eW ?_
 refine⟨_,(ke @eW),⟨aP,bR,trivial⟩, ?_⟩
 rw[List.drop_zero,List.take_of_length_le oM];rfl
def gI (s:List UInt8):List UInt8×Bool:=
 if s.length<4 then([],false) else if gZ (s.take (s.length - 4))=s then(s.take (s.length - 4),true) else([],false)
def As (s:List UInt8): (gZ s).length=s.length+4:=by unfold gZ sum4;rw[List.length_append,BH]
def Nr (s:List UInt8) (w:World) (hG:GlobC w) (hs:s.length<1099511627776):
  Rets prog 216 #[vs s] w (fun v D=>v= .tuple #[vs (gI s).1, .bool (gI s).2]∧D= []):=by
 refine Rets.enterV func216 rfl (rs:= [.tmp 2, .tmp 3]) results216 ntmps216 ?_
 refine kf ?_
 refine ky @eW ?_
 unfold gI
 by_cases h4:s.length<4
 ·have e1:decide ((s.length:Int)<4)=true:=aW oM
  rw[if_pos h4]
  refine ky (aN @eW @e1) ?_
  refine⟨_,(ke @eW),trivial, ?_⟩
  rfl
 have e1:decide ((s.length:Int)<4)=false:=ah oM
 have e2: ((s.length:Int) - 4).toNat=s.length - 4:=by omega
 rw[if_neg h4]
 refine ky (aN @eW (aN @e1 @e2)) ?_
 refine Ow.callFV rfl call209 (fun w' aA=>B_ (s.take (s.length - 4)) w' (GlobC.of hG aA (by simp[keys])) (by rw[List.length_take];omega)) ?_
 refine ko @eW ?_
 cases hq: (gZ (s.take (s.length - 4)) !=s)
 ·rw[if_pos (by simpa using hq)]
  refine ky (aN @eW (aN @hq @e2)) ?_
  refine⟨_,(ke @eW),trivial, ?_⟩
  rfl
 rw[if_neg (by simpa using hq)]
 refine ky (aN @eW @hq) ?_
 refine⟨_,(ke @eW),trivial, ?_⟩
 rfl
end Go.Proofs
end
section
open Go Go.Proofs Go.Sx Go.StP Go.Flo
namespace Go.Proofs
def magB:List UInt8:= [83,80,75,49]
def uM (s:List UInt8) (i a:Nat) (e:Int):PartL×Nat×Int:=
 (⟨decide (0< (aG s a e 200).1),if 0< (aG s a e 200).1 then(i:Int) - (aG s a e 200).1 else 0,(aY s (aG s a e 200).2.1 (aG s a e 200).2.2 65536).1⟩,(aY s (aG s a e 200).2.1 (aG s a e 200).2.2 65536).2)
def lm (s:List UInt8):Nat→Nat→Nat→Int→List PartL×List Nat×Nat×Int
 |0,_,a,e=>([],[],a,e)
 |k+1,i,a,e=>if(uM s i a e).2.2=0 then((uM s i a e).1:: (lm s k (i+1) (uM s i a e).2.1 0).1,a:: (lm s k (i+1) (uM s i a e).2.1 0).2.1,(lm s k (i+1) (uM s i a e).2.1 0).2.2) else([],[],(uM s i a e).2)
def ia (s:List UInt8):Int×Bool×Nat×Int:=
 if(ax s 0 0 4).1=magB then((aG s (ax s 0 0 4).2.1 (ax s 0 0 4).2.2 200).1,(aG s (ax s 0 0 4).2.1 (ax s 0 0 4).2.2 200).2.2==0,(aG s (ax s 0 0 4).2.1 (ax s 0 0 4).2.2 200).2) else(0,false,(ax s 0 0 4).2)
def jT (s:List UInt8):List PartL×List Nat×Nat×Int:=lm s (ia s).1.toNat 0 (ia s).2.2.1 (ia s).2.2.2
instance:DecidableEq ObL:=fun a b=>if h:a.k=b.k∧a.t=b.t then .isTrue (by cases a;cases b;simp only at h;obtain⟨rfl,rfl⟩:=h;rfl) else .isFalse (fun e=>h (by rw[e];exact⟨rfl,rfl⟩))
def oS (l:List PartL):Nat→List ObL
 |0=> []
 |k+1=>match partV l (k:Nat) with
  | .ok s=>if frOk s=true∧kg s∉oS l k then oS l k++ [kg s] else oS l k
  | .error _=>oS l k
def jc (b:List UInt8):List ObL:=if(ia b).2.1=true then oS (jT b).1 (jT b).1.length else []
theorem WF_ {s:List UInt8}: ∀ (k i a:Nat) (e:Int),(lm s k i a e).1.length≤k∧(lm s k i a e).2.1.length=(lm s k i a e).1.length
 |0,i,a,e=>⟨ap _,rfl⟩
 |k+1,i,a,e=>by
  have:=WF_ (s:=s) k (i+1) (uM s i a e).2.1 0
  unfold lm
  split
  ·simp only[List.length_cons];omega
  simp
def Rh {b d:List UInt8} (_h: (lF b d).2=0): (lF b d).1.length≤4099:=by
 unfold lF
 split
 ·simp
 rename_i p hp
 split
 ·simp
 rename_i hb
 obtain⟨m,hm⟩:=Bb hp
 rw[show p.1=b.length by omega] at hm
 have hk:chkV (b.length:Nat) p.2=(((eE (b.length:Nat) p.2:Nat):Int),(0:Int)):=by
  unfold chkV at hm ⊢
  split at hm
  ·cases hm
  rename_i h1
  rw[if_neg h1]
  split at hm
  ·cases hm
  rename_i h2
  rw[if_neg h2]
  split at hm
  ·cases hm
  rename_i h3;rw[if_neg h3]
 obtain⟨-,-,h1,h2,-⟩:=wn hk
 show(txtP b p.2).length≤4099
 rw[wW h1]
 exact h2
def T4 {l:List PartL} {a:Int} {s:List UInt8} (h:partV l a= .ok s):s.length≤4099:=by
 unfold partV at h
 cases hp:kC l a with
 |error e=>rw[hp] at h;cases h
 |ok p=>
  rw[hp] at h
  change kA l p= .ok s at h
  cases p with
  |nil=>cases h;simp
  |cons x p=>
   unfold kA at h
   cases hf:kA l p with
   |error e=>rw[hf] at h;cases h
   |ok t=>
    rw[hf] at h
    change(if(iI (l.getD x fg) t).2=0 then _ else _)=_ at h
    split at h
    ·rename_i h0
     cases h
     unfold iI at h0 ⊢
     split
     ·rename_i hd;rw[if_pos hd] at h0;exact Rh h0
     rename_i hd
     split
     ·simp
     show(l.getD x fg).x.length≤4099;omega
    cases h
def uR {D:aB} {E:TypeId} {m n:Nat} {v:Value} {cs:List Value} (h:GrI D E m v n cs) (x:Bool×Nat):eb (.sl x) v=some (vi n):=by
 obtain⟨X,-,h⟩:=h;exact h.len x
def QJ (p:PartL) (E:TypeId) (a:Bool) (x:Bool):aw (some (a,1)) (some (.cells (cj p).toArray E (0,0))) 0 (.bool x)=some (.cells (cj ⟨x,p.b,p.x⟩).toArray E (0,0)):=(rfl)
def P0 (p:PartL) (E:TypeId) (a:Bool) (x:Int):aw (some (a,1)) (some (.cells (cj p).toArray E (0,0))) 1 (vi x)=some (.cells (cj ⟨p.d,x,p.x⟩).toArray E (0,0)):=(rfl)
def Rs (p:PartL) (E:TypeId):aQ (some (true,3)) (some (.cells (cj p).toArray E (0,0))) 0=some (.agg (cj p).toArray):=Al (n:=3) [] (cj p) [] E (0,0) rfl rfl
def PJ (t:List UInt8):fI (d8 prog 395) (au prog 395) [(2,vs t)]=some (.agg (cj ⟨false,0,t⟩).toArray):=by
 rw[show d8 prog 395=some [(0,1),(1,1),(2,1)] from id kR,pp];rfl
abbrev ObSl (w:World) (v:Value) (l:List ObL):Prop:=SlV 2 obC ob0 w v l
def vR {w0:World} {L X D:aB} (hC:Came w0 L X D) (hX:New w0.heap.size X):New w0.heap.size D:=New.of_le fun c hc=>by
 rcases hC.new c hc with h| ⟨-,h⟩
 ·exact hX.le c h
 exact h
def Fe (l:List PartL):Prop:= ∀g,g<l.length→(l.getD g fg).x.length≤17000000
def eqDi (a b:Int):eqD prog 7 3 (vi a) (vi b)=some (a==b):=by unfold eqD;rw[underlying3];rfl
def eqDs (a b:List UInt8):eqD prog 7 9 (vs a) (vs b)=some (a==b):=by unfold eqD;rw[underlying9];simp only[vs,vx]
def agI:aK prog 3=some (false,1):=id kR
def agS:aK prog 9=some (false,1):=id kR
def axU_ (a b:ObL):eqD prog 8 35 (obV a.k a.t) (obV b.k b.t)=some (decide (a=b)):=by
 have p0: ∀o:ObL,Sx.partV (false,1) #[vi o.k,vs o.t] 0=some (vi o.k):=fun _=>rfl
 have p1: ∀o:ObL,Sx.partV (false,1) #[vi o.k,vs o.t] 1=some (vs o.t):=fun _=>rfl
 unfold eqD obV
 rw[underlying35]
 simp only
 rw[show Tryz.prog.stoodInHeld 35=false by kernel_rfl]
 simp only[Bool.false_eq_true, ↓reduceIte,yk,rg,agI,agS,p0,p1,eqDi,eqDs]
 obtain⟨k,t⟩:=a
 obtain⟨k',t'⟩:=b
 have e:decide ((⟨k,t⟩:ObL)=⟨k',t'⟩)=((k==k')&& (t==t')):=by rw[Bool.eq_iff_iff];simp
 rw[e]
 cases(k==k')<;>cases(t==t')<;>rfl
def axD_ (a b:ObL):ab prog .eql 35 (obV a.k a.t) (obV b.k b.t)=some (.bool (decide (a=b))):=by
 have h:=axU_ a b
 unfold ab eqX obV at*;rw[show Tryz.prog.eqGuardType Tryz.prog.depth 35=false by kernel_rfl];simp[eN,h]
instance:DecidableEq PartL:=fun a b=>if h:a.d=b.d∧a.b=b.b∧a.x=b.x then .isTrue (by cases a;cases b;simp only at h;obtain⟨rfl,rfl,rfl⟩:=h;rfl) else .isFalse (fun e=>h (by rw[e];exact⟨rfl,rfl,rfl⟩))
def XU (s:List UInt8): ∃n:Nat,(ia s).1=n∧n≤200:=by
 unfold ia
 split
 ·have:=uG (s:=s) (a:=(ax s 0 0 4).2.1) (e:=(ax s 0 0 4).2.2) (most:=200) oM
  exact⟨(aG s (ax s 0 0 4).2.1 (ax s 0 0 4).2.2 200).1.toNat,by simp only;omega,by omega⟩
 exact⟨0,rfl,by omega⟩
def QW (s:List UInt8) (a:Nat) (e most:Int) (hm:0≤most): ((aY s a e most).1.length:Int)≤most:=by
 have h1:=uG (s:=s) (a:=a) (e:=e) (most:=most) hm
 have h2: ∀ (b:Nat) (e n:Int),0≤n→((ax s b e n).1.length:Int)≤n:=by
  intro b e n hn
  unfold ax
  split
  ·simpa using hn
  split
  ·simpa using hn
  split
  ·simpa using hn
  simp only[List.length_take,List.length_drop];omega
 unfold aY
 simp only
 split
 ·simpa using hm
 have:=h2 (aG s a e most).2.1 (aG s a e most).2.2 (aG s a e most).1 h1.1
 omega
theorem CC {s:List UInt8}: ∀ (k i a:Nat) (e:Int) (p:PartL),p∈ (lm s k i a e).1→p.x.length≤65536
 |0,i,a,e,p,h=>by cases h
 |k+1,i,a,e,p,h=>by
  unfold lm at h
  split at h
  ·rcases List.mem_cons.1 h with rfl|h
   ·have:=QW s (aG s a e 200).2.1 (aG s a e 200).2.2 65536 oM
    show(aY s (aG s a e 200).2.1 (aG s a e 200).2.2 65536).1.length≤65536
    omega
   exact CC k _ _ _ p h
  cases h
def Pi (s:List UInt8):Fe (jT s).1:=fun g hg=>Nat.le_trans (CC _ _ _ _ _ (getD_mem hg)) oM
def DJ (s:List UInt8): (jT s).1.length≤200∧(jT s).2.1.length=(jT s).1.length:=by
 obtain⟨n,hn,dC⟩:=XU s
 have:=WF_ (s:=s) (ia s).1.toNat 0 (ia s).2.2.1 (ia s).2.2.2
 unfold jT
 rw[hn,Int.toNat_natCast] at this ⊢
 omega
end Go.Proofs
end
section
open Go Go.Proofs Go.Sx Go.Dig
namespace Go.Proofs
end Go.Proofs
end
section
open Go Go.Proofs Go.Sx Go.StP Go.Flo Go.Dig
namespace Go.Proofs
section
variable {P:Program} {w0:World} {f:Fr} {L:aB} {N:Fr→aB→Prop} {ops:Array Oper} {rest:List Oper} {md:Md} {d:Option Tmp} {ty:TypeId} {ps:String} {af:Array Edge} {g:Option (Nat×Bool)}
end
end Go.Proofs
end
section
open Go Go.Proofs Go.Sx Go.StP Go.Flo
namespace Go.Proofs
abbrev qB (w:World) (v:Value) (l:List (List UInt8)):Prop:=SlV 1 strC [] w v l
def we {w:World} {v:Value} {l:List (List UInt8)} {b off:Nat} {arr:Array Value} {E:TypeId} {fz:Nat×Nat} (h:RowS 1 strC [] w v l b off arr E fz) {k:Nat} (hk:k<l.length) (n:Nat):
  aQ (some (false,n)) (some (.cells arr E fz)) (off+k)=some (vs (l.getD k [])):=by
 have:=h.cell (j:=0) (n:=n) hk oM
 rwa [Nat.mul_one,Nat.add_zero] at this
end Go.Proofs
end
section
open Go Go.Proofs Go.Sx Go.StP
namespace Go.Proofs
def cS (s:List UInt8):Bool:= !(s== [])&&decide (s.length≤80)&& !(s.any gg)
def fJ:=aN (aN (aN @bB (aN @iH @iG)) (aN (aN @iE @bA) (aN @wC @KX))) (aN (aN (aN @KQ @KT) (aN @ws @uH)) (aN (aN @Sx.tup3_0 @Sx.tup3_1) (aN @Sx.tup3_2 @eqb)))
def O9 (c:Int) (w:World):Rets prog 171 #[gh c] w (fun v D=>v= .bool (badR c)∧D= []):=by
 refine Rets.enterV func171 rfl (rs:= [.tmp 2]) results171 ntmps171 ?_
 refine kf ?_
 unfold badR
 cases h1:decide (c<33)
 ·cases h2:decide (126<c)
  ·refine ky (aN @fJ (aN @h1 @h2)) ?_
   refine⟨_,(ke @fJ),trivial, ?_⟩
   simp[bv]
  refine ky (aN @fJ (aN @h1 @h2)) ?_
  refine⟨_,(ke @fJ),trivial, ?_⟩
  simp[bv]
 refine ky (aN @fJ @h1) ?_
 refine⟨_,(ke @fJ),trivial, ?_⟩
 simp[bv]
def Ko_ (s:List UInt8) (w:World) (hs:s.length<1099511627776):
  Rets prog 97 #[vs s] w (fun v D=>v= .bool (cS s)∧D= []):=by
 refine Rets.enterV func97 rfl (rs:= [.tmp 2]) results97 ntmps97 ?_
 refine kf ?_
 cases h0: (s != [])
 ·have e0: (s== [])=true:=by simpa using h0
  refine ky (aN @fJ @h0) ?_
  refine⟨_,(ke @fJ),trivial, ?_⟩
  simp[bv,cS,e0]
 have e0: (s== [])=false:=by simpa using h0
 cases h1:decide ((s.length:Int)≤80)
 ·have e1:decide (s.length≤80)=false:=ah (by have:=of_decide_eq_false h1;omega)
  refine ky (aN @fJ (aN @h0 @h1)) ?_
  refine⟨_,(ke @fJ),trivial, ?_⟩
  simp only[bv,cS,e0,e1,Bool.not_false,Bool.true_and,Bool.false_and,Bool.and_false]
 have e1:decide (s.length≤80)=true:=aW (by have:=of_decide_eq_true h1;omega)
 refine ky (aN @fJ (aN @h0 @h1)) ?_
 refine Ow.callFV rfl call170 (fun w' aA=>XV_ s 171 call171 O9 w' hs) ?_
 refine ko @fJ ?_
 refine ky @fJ ?_
 refine⟨_,(ke @fJ),trivial, ?_⟩
 simp only[bv,cS,e0,e1,Bool.not_false,Bool.true_and]
def T0 (s:List UInt8) (w:World) (hs:s.length<1099511627776):Rets prog 207 #[vs s] w (fun v D=>v= .bool (!cS s)∧D= []):=by
 refine Rets.enterV func207 rfl (rs:= [.tmp 2]) results207 ntmps207 ?_
 refine kf ?_
 refine ky @fJ ?_
 refine Ow.callFV rfl call97 (fun w' aA=>Ko_ s w' hs) ?_
 refine ko @fJ ?_
 refine ky @fJ ?_
 refine⟨_,(ke @fJ),trivial, ?_⟩
 rfl
def Wo_ (v:Value) (l:List (List UInt8)) (w:World) (hv:qB w v l) (hl:l.length<1000000) (hs: ∀s,s∈l→s.length<1099511627776):Rets prog 236 #[v, .func (.func 207) #[] #[]] w (fun v D=>(∃i:Int,v=vi i∧decide (0≤i)= !(l.all cS))∧D= []):=by
 obtain⟨rb,off,arr,E,fz,hr⟩:=hv.row
 have ln:=hv.len
 refine Rets.enterV func236 rfl (rs:= [.tmp 4]) results236 ntmps236 ?_
 refine kf ?_
 refine ky (aN @fJ @ln) ?_
 refine Cw.loopG (G:=Nat) [9,10,5,11,12,13,14,15,16,17,4,18,8] (fun k=> [(4,vi 0),(8,vi k)]) (fun k=> []) (fun k=>k≤l.length∧(l.take k).all cS=true) (fun k=>l.length - k) 0 rfl rfl ?_ ?_
 ·exact⟨aq _,rfl⟩
 intro k jk hk
 refine kv ?_
 obtain⟨hk,jE⟩:=hk
 by_cases aC:k<l.length
 ·have d1:decide ((k:Int)< (l.length:Int))=true:=aW oM
  have hb:=hr.has oM
  have ix:=hr.idx false k aC
  have ld:=fun n=>we hr aC n
  have lW:=StP.take_snoc (z:=([]:List UInt8)) aC
  have hm:l.getD k []∈l:=by rw[List.getD_eq_getElem?_getD,List.getElem?_eq_getElem aC];exact List.getElem_mem aC
  have cb:=hs _ hm
  generalize l.getD k []=s at*
  refine ky (aN @fJ (aN @d1 (aN @hb (aN @ix @ld)))) ?_
  refine Ow.callFn1 (v:= .bool (!cS s)) rfl rfl rfl call207 (fun w' aA=>T0 s w' cb) ?_
  cases hn:cS s with
  |true=>
   refine ko @fJ ?_
   refine Again.mk (G:=Nat) (k+1) (by show l.length - (k+1)<l.length - k;omega) ⟨aC, ?_⟩ rfl rfl
   rw[lW,List.all_append,jE,List.all_cons,hn];rfl
  |false=>
   refine ko @fJ ?_
   refine ky @fJ ?_
   refine⟨_,(ke @fJ),trivial, ?_⟩
   refine⟨(k:Int),rfl, ?_⟩
   rw[aW (show(0:Int)≤ (k:Int) by omega),show l.all cS=false from List.all_eq_false.2 ⟨s,hm,by rw[hn];simp⟩];rfl
 obtain rfl:k=l.length:=by omega
 have d1:decide ((l.length:Int)< (l.length:Int))=false:=ah oM
 rw[List.take_length] at jE
 refine ky (aN @fJ @d1) ?_
 refine⟨_,(ke @fJ),trivial, ?_⟩
 exact⟨-1,rfl,by rw[jE];rfl⟩
def M0 (v:Value) (l:List (List UInt8)) (w:World) (hv:qB w v l) (hl:l.length<1000000) (hs: ∀s,s∈l→s.length<1099511627776):Rets prog 206 #[v, .func (.func 207) #[] #[]] w (fun v D=>v= .bool (!(l.all cS))∧D= []):=by
 refine Rets.enterV func206 rfl (rs:= [.tmp 4]) results206 ntmps206 ?_
 refine kf ?_
 refine ky @fJ ?_
 refine Ow.callC rfl rfl call236 (fun w' aA=>Rets.toX (Wo_ v l w' (hv.oldN aA trivial) hl hs)) (fun B1 v1 D1 eF dV bX bu=> ?_)
 obtain⟨rfl,i,rfl,hi⟩:=bu
 refine ko (aN @fJ @hi) ?_
 refine ky @fJ ?_
 refine⟨_,(ke @fJ),trivial, ?_⟩
 rfl
structure FileL where
 data:List UInt8
 stl:Nat
def cL:FileL:=⟨[],0⟩
structure CallL where
 kind:Nat
 a:List UInt8
 b:List UInt8
 n:Nat
def jV:CallL:=⟨2,[],[],0⟩
abbrev NmL:=List (List UInt8×Nat)
structure DirL where
 seen:NmL
 stl:NmL
 pend:List CallL
structure DiskL where
 dir:Nat→DirL
 files:List FileL
 max:Int
 fuse:Int
 fused:Bool
 off:Bool
def aR (l:NmL) (s:List UInt8):Option Nat:=(l.find? fun p=>s==p.1).map Prod.snd
def fC (l:NmL) (s:List UInt8):NmL:=l.filter fun p=> !(s==p.1)
def insN:NmL→List UInt8×Nat→NmL
 | [],x=> [x]
 |p::r,x=>if ltB x.1 p.1=true then x::p::r else p::insN r x
def gK (l:NmL) (x:List UInt8×Nat):NmL:=insN (fC l x.1) x
def SrtN (l:NmL):Prop:=l.Pairwise fun p q=>ltB p.1 q.1=true
def SrtN.nodup {l:NmL} (h:SrtN l): (l.map Prod.fst).Nodup:=by
 refine List.pairwise_map.2 (List.Pairwise.imp ?_ h)
 intro a b jn e
 rw[e,AB] at jn;cases jn
theorem uC (x:List UInt8×Nat): ∀l:NmL,(insN l x).Perm (x::l)
 | []=>List.Perm.refl _
 |p::r=>by
  unfold insN
  split
  ·exact List.Perm.refl _
  exact((uC x r).cons p).trans (List.Perm.swap x p r)
theorem Ds {x:List UInt8×Nat}: ∀ {l:NmL},SrtN l→(∀p,p∈l→p.1≠x.1)→SrtN (insN l x)
 | [],_,_=>List.pairwise_singleton _ _
 |p::r,h,hx=>by
  unfold SrtN at h
  rw[List.pairwise_cons] at h
  unfold insN
  split
  ·rename_i h1
   refine List.pairwise_cons.2 ⟨fun q hq=> ?_,List.pairwise_cons.2 h⟩
   rcases List.mem_cons.1 hq with rfl|hq
   ·exact h1
   exact tu h1 (h.1 q hq)
  rename_i h1
  refine List.pairwise_cons.2 ⟨fun q hq=> ?_,Ds h.2 fun q hq=>hx q (av _ hq)⟩
  rcases List.mem_cons.1 ((uC x r).mem_iff.1 hq) with rfl|hq
  ·have uV:ltB q.1 p.1=false:=by simpa using h1
   exact vP uV (fun e=>hx p aa e.symm)
  exact h.1 q hq
def Ax {l:NmL} (s:List UInt8) (h:SrtN l):SrtN (fC l s):=List.Pairwise.filter _ h
def Vz {l:NmL} {s:List UInt8} {p:List UInt8×Nat} (h:p∈fC l s):p.1≠s:=by
 have:=(List.mem_filter.1 h).2
 intro e
 rw[e] at this;simp at this
def Aa {l:NmL} (x:List UInt8×Nat) (h:SrtN l):SrtN (gK l x):=Ds (Ax _ h) fun _ hp=>Vz hp
def j1 {l:NmL} {s:List UInt8} {n:Nat} (h:aR l s=some n): (s,n)∈l:=by
 unfold aR at h
 cases hf:l.find? fun p=>s==p.1 with
 |none=>rw[hf] at h;cases h
 |some p=>
  rw[hf] at h
  have h1:=List.find?_some hf
  have h2:=List.mem_of_find?_eq_some hf
  obtain⟨a,b⟩:=p
  cases h
  rw[show s=a from by simpa using h1];exact h2
def C1 {l:NmL} {s:List UInt8} (h:aR l s=none): ∀p,p∈l→p.1≠s:=by
 intro p hp e
 unfold aR at h
 cases hf:l.find? fun p=>s==p.1 with
 |none=>
  have:=List.find?_eq_none.1 hf p hp
  rw[e] at this;simp at this
 |some q=>rw[hf] at h;cases h
def DL {α β:Type} {m:List (α×β)} (hn: (m.map Prod.fst).Nodup) {k:α} {a b:β} (h1: (k,a)∈m) (h2: (k,b)∈m):a=b:=by
 induction m with
 |nil=>cases h1
 |cons p r ih=>
  rw[List.map_cons,List.nodup_cons] at hn
  rcases List.mem_cons.1 h1 with e1|h1
  ·rcases List.mem_cons.1 h2 with e2|h2
   ·rw[←e1] at e2;exact(congrArg Prod.snd e2).symm
   exact absurd (by rw[←e1];exact List.mem_map.2 ⟨_,h2,rfl⟩) hn.1
  rcases List.mem_cons.1 h2 with e2|h2
  ·exact absurd (by rw[←e2];exact List.mem_map.2 ⟨_,h1,rfl⟩) hn.1
  exact ih hn.2 h1 h2
def zK {l:NmL} (hn: (l.map Prod.fst).Nodup) {s:List UInt8} {n:Nat} (h: (s,n)∈l):aR l s=some n:=by
 cases hf:aR l s with
 |none=>exact absurd rfl (C1 hf _ h)
 |some m=>rw[DL hn (j1 hf) h]
section
variable {α β:Type} [BEq α] [LawfulBEq α]
def ZM {m:List (α×β)} (hn: (m.map Prod.fst).Nodup) {k:α} {v z:β} (h: (k,v)∈m):getG k z m=v:=by
 unfold getG
 cases hf:m.find? fun p=>k==p.1 with
 |none=>
  have:=List.find?_eq_none.1 hf _ h
  exact absurd (beq_self_eq_true k) this
 |some q=>
  have h1:=List.find?_some hf
  have h2:=List.mem_of_find?_eq_some hf
  obtain⟨a,b⟩:=q
  have e:k=a:=eq_of_beq h1
  subst e
  exact DL hn h2 h
def Yc {m:List (α×β)} {k:α} {z:β} (h: ∀p,p∈m→p.1≠k):getG k z m=z:=by
 unfold getG
 cases hf:m.find? fun p=>k==p.1 with
 |none=>rfl
 |some q=>
  have h1:=List.find?_some hf
  exact absurd (eq_of_beq h1).symm (h q (List.mem_of_find?_eq_some hf))
def C9 {m:List (α×β)} {k:α} (h: ∀p,p∈m→p.1≠k):m.filter (fun p=> !(k==p.1))=m:=
 List.filter_eq_self.2 fun p hp=>by
  have:=h p hp
  cases e:k==p.1 with
  |false=>rfl
  |true=>exact absurd (eq_of_beq e).symm this
theorem CP (k:α) (v:β): ∀ {m:List (α×β)},(m.map Prod.fst).Nodup→(updG k v m).Perm ((k,v)::m.filter fun p=> !(k==p.1))
 | [],_=>List.Perm.refl _
 |p::r,hn=>by
  rw[List.map_cons,List.nodup_cons] at hn
  unfold updG
  cases hk: (k==p.1) with
  |true=>
   rw[if_pos rfl,List.filter_cons,hk]
   have e:k=p.1:=eq_of_beq hk
   have hr:r.filter (fun p=> !(k==p.1))=r:=C9 fun q hq e2=>hn.1 (List.mem_map.2 ⟨q,hq,by rw[e2,e]⟩)
   simp only[Bool.not_true,Bool.false_eq_true, ↓reduceIte,hr]
   rw[e]
  |false=>
   rw[if_neg (by simp),List.filter_cons,hk]
   simp only[Bool.not_false, ↓reduceIte]
   exact((CP k v hn.2).cons p).trans (List.Perm.swap _ _ _)
theorem Eu (k:α): ∀ {m:List (α×β)},(m.map Prod.fst).Nodup→delG k m=m.filter fun p=> !(k==p.1)
 | [],_=>rfl
 |p::r,hn=>by
  rw[List.map_cons,List.nodup_cons] at hn
  unfold delG
  cases hk: (k==p.1) with
  |true=>
   rw[if_pos rfl,List.filter_cons,hk]
   have e:k=p.1:=eq_of_beq hk
   have hr:r.filter (fun p=> !(k==p.1))=r:=C9 fun q hq e2=>hn.1 (List.mem_map.2 ⟨q,hq,by rw[e2,e]⟩)
   simp only[Bool.not_true,Bool.false_eq_true, ↓reduceIte,hr]
  |false=>
   rw[if_neg (by simp),List.filter_cons,hk,Eu k hn.2]
   simp only[Bool.not_false, ↓reduceIte]
end
def ar:Option Nat→Value
 |none=> .pointer none
 |some b=>vp b 0
def ptrN (fb:List Nat) (p:List UInt8×Nat):List UInt8×Option Nat:=(p.1,some (fb.getD p.2 0))
def NmP (fb:List Nat) (l:NmL) (m:List (List UInt8×Option Nat)):Prop:=m.Perm (l.map (ptrN fb))
def NmP.keys {fb:List Nat} {l:NmL} {m:List (List UInt8×Option Nat)} (h:NmP fb l m) (hn: (l.map Prod.fst).Nodup): (m.map Prod.fst).Nodup:=by
 refine((h.map Prod.fst).nodup_iff).2 ?_
 rw[List.map_map]
 exact hn
def NmP.get {fb:List Nat} {l:NmL} {m:List (List UInt8×Option Nat)} (h:NmP fb l m) (hn: (l.map Prod.fst).Nodup) (s:List UInt8):getG s none m=(aR l s).map fun n=>fb.getD n 0:=by
 cases hf:aR l s with
 |none=>
  refine Yc fun p hp e=> ?_
  obtain⟨q,hq,rfl⟩:=List.mem_map.1 (h.mem_iff.1 hp)
  exact C1 hf q hq e
 |some n=>exact ZM (h.keys hn) (h.mem_iff.2 (List.mem_map.2 ⟨_,j1 hf,rfl⟩))
def Ec (fb:List Nat) (l:NmL) (s:List UInt8): (l.map (ptrN fb)).filter (fun p=> !(s==p.1))=(fC l s).map (ptrN fb):=by
 unfold fC
 rw[List.filter_map];rfl
def NmP.wipe {fb:List Nat} {l:NmL} {m:List (List UInt8×Option Nat)} (h:NmP fb l m) (hn: (l.map Prod.fst).Nodup) (s:List UInt8):NmP fb (fC l s) (delG s m):=by
 unfold NmP
 rw[Eu s (h.keys hn),←Ec]
 exact h.filter _
def NmP.put {fb:List Nat} {l:NmL} {m:List (List UInt8×Option Nat)} (h:NmP fb l m) (hn: (l.map Prod.fst).Nodup) (s:List UInt8) (n:Nat):NmP fb (gK l (s,n)) (updG s (some (fb.getD n 0)) m):=by
 refine(CP s _ (h.keys hn)).trans ?_
 unfold gK
 refine List.Perm.trans ?_ ((uC (s,n) (fC l s)).map (ptrN fb)).symm
 rw[List.map_cons,←Ec]
 exact(h.filter _).cons _
def NmP.mono {fb fb':List Nat} {l:NmL} {m:List (List UInt8×Option Nat)} (h:NmP fb l m) (hb: ∀p,p∈l→fb'.getD p.2 0=fb.getD p.2 0):NmP fb' l m:=by
 unfold NmP at h ⊢
 rw[show l.map (ptrN fb')=l.map (ptrN fb) from List.map_congr_left fun p hp=>by unfold ptrN;rw[hb p hp]]
 exact h
def mc:List UInt8:= [108,111,111,115,101]
def lu:List UInt8:= [112,97,99,107]
def aJ:List UInt8:= [114,101,102]
def d7 (k:Nat):List UInt8:=match k with|0=>mc|1=>lu|_=>aJ
def bG (s:List UInt8):Option Nat:=if s==mc then some 0 else if s==lu then some 1 else if s==aJ then some 2 else none
def dY {s:List UInt8} {k:Nat} (h:bG s=some k):k<3∧s=d7 k:=by
 unfold bG at h
 split at h
 ·rename_i e;cases h;exact⟨by omega,eq_of_beq e⟩
 split at h
 ·rename_i e;cases h;exact⟨by omega,eq_of_beq e⟩
 split at h
 ·rename_i e;cases h;exact⟨by omega,eq_of_beq e⟩
 cases h
def oF {k:Nat} (h:k<3):bG (d7 k)=some k:=by
 have:k=0∨k=1∨k=2:=by omega
 rcases this with rfl|rfl|rfl<;>rfl
def cw (l:NmL) (c:CallL):NmL:=match c.kind with
 |0=>gK l (c.a,c.n)
 |1=>gK (fC l c.a) (c.b,(aR l c.a).getD 0)
 |_=>fC l c.a
def eB (S:DiskL) (k:Nat) (d:DirL):DiskL:={S with dir:=fun j=>if j=k then d else S.dir j}
def cr (S:DiskL) (dir:List UInt8) (names:List (List UInt8)):Nat:=if bG dir=none∨names.all cS=false then 1 else if S.off=true then 9 else 0
def aM (S:DiskL):DiskL×Nat:=if S.fused=true∧S.fuse=0 then({S with off:=true},9) else if S.fused=true then({S with fuse:=S.fuse - 1},0) else(S,0)
def iZ (S:DiskL) (l:NmL):Nat:=(l.map fun p=>(S.files.getD p.2 cL).data.length).sum
def j5 (S:DiskL):Nat:=iZ S (S.dir 0).seen+iZ S (S.dir 1).seen+iZ S (S.dir 2).seen
structure DkOk (S:DiskL):Prop where
 seen: ∀k,k<3→SrtN (S.dir k).seen
 stl: ∀k,k<3→SrtN (S.dir k).stl
 seenN: ∀k,k<3→ ∀p,p∈ (S.dir k).seen→p.2<S.files.length
 stlN: ∀k,k<3→ ∀p,p∈ (S.dir k).stl→p.2<S.files.length
 pendN: ∀k,k<3→ ∀c,c∈ (S.dir k).pend→c.kind=0→c.n<S.files.length
 file: ∀f,f∈S.files→f.data.length≤1048576∧f.stl≤f.data.length
 fuse: -9223372036854775808≤S.fuse∧S.fuse<9223372036854775808∧(S.fused=true→0≤S.fuse)
 max: -9223372036854775808≤S.max∧S.max<9223372036854775808
def cg (f:FileL):Obj:= .cells #[vs f.data,vi (f.stl:Int)] 182 (0,0)
def cU (a b:Nat) (v:Value):Obj:= .cells #[vm a,vm b,v] 175 (0,0)
def bM (bm:Nat) (S:DiskL):Obj:= .cells #[vm bm,vi S.max,vi S.fuse, .bool S.fused, .bool S.off] 168 (0,0)
def dX (s:List UInt8):Obj:= .cells #[vs s] 9 (0,0)
def ptrO (b:Nat):Obj:= .cells #[vp b 0] 178 (0,0)
structure DkG where
 bd:Nat
 bm:Nat
 d:Nat→Nat
 s:Nat→Nat
 t:Nat→Nat
 p:Nat→Value
 fb:List Nat
def ob (G:DkG):List (List UInt8×Option Nat):= [(mc,some (G.d 0)),(lu,some (G.d 1)),(aJ,some (G.d 2))]
def FnP (X:aB) (fb:List Nat) (v:Value) (c:CallL):Prop:=match c.kind with
 |0=> ∃b1 b2,v= .func (.func 324) #[] #[vp b1 0,vp b2 0]∧Sx.look X b1=some (ptrO (fb.getD c.n 0))∧Sx.look X b2=some (dX c.a)
 |1=> ∃b1 b2,v= .func (.func 320) #[] #[vp b1 0,vp b2 0]∧Sx.look X b1=some (dX c.a)∧Sx.look X b2=some (dX c.b)
 |_=> ∃b1,v= .func (.func 309) #[] #[vp b1 0]∧Sx.look X b1=some (dX c.a)
def NmM (X:aB) (fb:List Nat) (b:Nat) (l:NmL):Prop:= ∃o m,Sx.look X b=some o∧eZ vs ar o m∧NmP fb l m
structure DkP (X:aB) (G:DkG) (S:DiskL):Prop where
 disk:Sx.look X G.bd=some (bM G.bm S)
 dirs: ∃o,Sx.look X G.bm=some o∧eZ vs ar o (ob G)
 dir: ∀k,k<3→Sx.look X (G.d k)=some (cU (G.s k) (G.t k) (G.p k))
 seen: ∀k,k<3→NmM X G.fb (G.s k) (S.dir k).seen
 stl: ∀k,k<3→NmM X G.fb (G.t k) (S.dir k).stl
 pend: ∀k,k<3→ ∃vals:List Value,vals.length=(S.dir k).pend.length∧Gr X 176 1 (G.p k) vals.length vals∧ ∀i,i<vals.length→FnP X G.fb (vals.getD i undef) ((S.dir k).pend.getD i jV)
 file: ∀n,n<S.files.length→Sx.look X (G.fb.getD n 0)=some (cg (S.files.getD n cL))
 len:G.fb.length=S.files.length
 nodf:G.fb.Nodup
 nodm: [G.s 0,G.s 1,G.s 2,G.t 0,G.t 1,G.t 2].Nodup
 nodd: [G.d 0,G.d 1,G.d 2].Nodup
 nodb: ∀k,k<3→G.bm≠G.s k∧G.bm≠G.t k
 nodp: ∀i j,i<3→j<3→i≠j→ ∀b,slB (G.p i)=some b→slB (G.p j)≠some b
 ok:DkOk S
def DkW (w:World) (G:DkG) (S:DiskL):Prop:= ∃X,(∀b o,Sx.look X b=some o→w.heap[b]? =some o)∧DkP X G S
def FnP.keep {X X':aB} {fb:List Nat} {v:Value} {c:CallL} (h:FnP X fb v c) (hk: ∀b o,Sx.look X b=some o→((∃s,o=dX s)∨ ∃a,o=ptrO a)→Sx.look X' b=some o):FnP X' fb v c:=by
 unfold FnP at h ⊢
 split at h
 ·obtain⟨b1,b2,h1,h2,h3⟩:=h;exact⟨b1,b2,h1,hk _ _ h2 (.inr ⟨_,rfl⟩),hk _ _ h3 (.inl ⟨_,rfl⟩)⟩
 ·obtain⟨b1,b2,h1,h2,h3⟩:=h;exact⟨b1,b2,h1,hk _ _ h2 (.inl ⟨_,rfl⟩),hk _ _ h3 (.inl ⟨_,rfl⟩)⟩
 obtain⟨b1,h1,h2⟩:=h;exact⟨b1,h1,hk _ _ h2 (.inl ⟨_,rfl⟩)⟩
def NmM.keep {X X':aB} {fb:List Nat} {b:Nat} {l:NmL} (h:NmM X fb b l) (hk: ∀o,Sx.look X b=some o→Sx.look X' b=some o):NmM X' fb b l:=by
 obtain⟨o,m,h1,h2,h3⟩:=h;exact⟨o,m,hk _ h1,h2,h3⟩
def nM {L:aB} {E:TypeId} {m n:Nat} {v:Value} {cs:List Value} (h:Gr L E m v n cs) {b:Nat} (hb:slB v=some b): ∃arr,Sx.look L b=some (.cells arr E (0,0)):=by
 rcases h with h| ⟨-,-,c,rfl,h⟩
 ·cases h with
  |nl=>cases hb
  |at_ hl=>cases hb;exact⟨_,hl⟩
 cases hb;exact⟨_,h⟩
def tyO:Obj→Option TypeId
 | .cells _ t _=>some t
 |_=>none
def jP {α β:Type} {encK:α→Value} {encV:β→Value} {o:Obj} {m:List (α×β)} (h:eZ encK encV o m):tyO o=none:=by
 obtain⟨es,c,rfl,-⟩:=h;rfl
def gc {X:aB} {c b:Nat} {oc x o:Obj} (hc:Sx.look X c=some oc) (hb:Sx.look X b=some o) (ht:tyO o≠tyO oc):Sx.look (setB X c x) b=some o:=by
 rw[eh (by rintro rfl;rw[hc] at hb;cases hb;exact ht rfl)];exact hb
def DkP.mono {X X':aB} {G:DkG} {S:DiskL} (h:DkP X G S) (hk: ∀b o,Sx.look X b=some o→Sx.look X' b=some o):DkP X' G S where
 disk:=hk _ _ h.disk
 dirs:=by obtain⟨o,h1,h2⟩:=h.dirs;exact⟨o,hk _ _ h1,h2⟩
 dir k cQ:=hk _ _ (h.dir k cQ)
 seen k cQ:=(h.seen k cQ).keep fun o=>hk _ o
 stl k cQ:=(h.stl k cQ).keep fun o=>hk _ o
 pend k cQ:=by
  obtain⟨vals,h1,h2,h3⟩:=h.pend k cQ
  exact⟨vals,h1,h2.keep fun b o _=>hk b o,fun i hi=>(h3 i hi).keep fun b o ho _=>hk b o ho⟩
 file n hn:=hk _ _ (h.file n hn)
 len:=h.len
 nodf:=h.nodf
 nodm:=h.nodm
 nodd:=h.nodd
 nodb:=h.nodb
 nodp:=h.nodp
 ok:=h.ok
def DkP.setDisk {X:aB} {G:DkG} {S:DiskL} (h:DkP X G S) (S':DiskL) (hd:S'.dir=S.dir) (hf:S'.files=S.files) (ok:DkOk S'):DkP (setB X G.bd (bM G.bm S')) G S' where
 disk:=jR h.disk
 dirs:=by obtain⟨o,h1,h2⟩:=h.dirs;exact⟨o,gc h.disk h1 (by rw[jP h2];intro e;cases e),h2⟩
 dir k cQ:=gc h.disk (h.dir k cQ) (by simp[tyO,cU,bM])
 seen k cQ:=by
  rw[hd]
  obtain⟨o,m,h1,h2,h3⟩:=h.seen k cQ
  exact⟨o,m,gc h.disk h1 (by rw[jP h2];intro e;cases e),h2,h3⟩
 stl k cQ:=by
  rw[hd]
  obtain⟨o,m,h1,h2,h3⟩:=h.stl k cQ
  exact⟨o,m,gc h.disk h1 (by rw[jP h2];intro e;cases e),h2,h3⟩
 pend k cQ:=by
  rw[hd]
  obtain⟨vals,h1,h2,h3⟩:=h.pend k cQ
  refine⟨vals,h1,h2.keep fun b o hb ho=> ?_,fun i hi=>(h3 i hi).keep fun b o ho hx=>gc h.disk ho ?_⟩
  ·obtain⟨arr,ha⟩:=nM h2 hb
   rw[ho] at ha;cases ha
   exact gc h.disk ho (by simp[tyO,bM])
  rcases hx with⟨s,rfl⟩ | ⟨a,rfl⟩<;>simp[tyO,bM,dX,ptrO]
 file n hn:=by rw[hf] at hn ⊢;exact gc h.disk (h.file n hn) (by simp[tyO,bM,cg])
 len:=by rw[hf];exact h.len
 nodf:=h.nodf
 nodm:=h.nodm
 nodd:=h.nodd
 nodb:=h.nodb
 nodp:=h.nodp
 ok:=ok
def DkP.setFile {X:aB} {G:DkG} {S:DiskL} (h:DkP X G S) {n:Nat} (hn:n<S.files.length) (f:FileL) (ok:DkOk {S with files:=S.files.set n f}):DkP (setB X (G.fb.getD n 0) (cg f)) G {S with files:=S.files.set n f} where
 disk:=gc (h.file n hn) h.disk (by simp[tyO,bM,cg])
 dirs:=by obtain⟨o,h1,h2⟩:=h.dirs;exact⟨o,gc (h.file n hn) h1 (by rw[jP h2];intro e;cases e),h2⟩
 dir k cQ:=gc (h.file n hn) (h.dir k cQ) (by simp[tyO,cU,cg])
 seen k cQ:=by
  obtain⟨o,m,h1,h2,h3⟩:=h.seen k cQ
  exact⟨o,m,gc (h.file n hn) h1 (by rw[jP h2];intro e;cases e),h2,h3⟩
 stl k cQ:=by
  obtain⟨o,m,h1,h2,h3⟩:=h.stl k cQ
  exact⟨o,m,gc (h.file n hn) h1 (by rw[jP h2];intro e;cases e),h2,h3⟩
 pend k cQ:=by
  obtain⟨vals,h1,h2,h3⟩:=h.pend k cQ
  refine⟨vals,h1,h2.keep fun b o hb ho=> ?_,fun i hi=>(h3 i hi).keep fun b o ho hx=>gc (h.file n hn) ho ?_⟩
  ·obtain⟨arr,ha⟩:=nM h2 hb
   rw[ho] at ha;cases ha
   exact gc (h.file n hn) ho (by simp[tyO,cg])
  rcases hx with⟨s,rfl⟩ | ⟨a,rfl⟩<;>simp[tyO,cg,dX,ptrO]
 file i hi:=by
  simp only[List.length_set] at hi
  by_cases e:i=n
  ·subst e
   rw[jR (h.file i hn),List.getD_eq_getElem?_getD,List.getElem?_set_self hn];rfl
  have hl:=h.len
  have aU:G.fb.getD i 0≠G.fb.getD n 0:=by
   intro e2
   rw[List.getD_eq_getElem?_getD,List.getD_eq_getElem?_getD,List.getElem?_eq_getElem oM,List.getElem?_eq_getElem oM] at e2
   simp only[Option.getD_some] at e2
   rcases Nat.lt_or_gt_of_ne e with aC|aC
   ·exact(List.pairwise_iff_getElem.1 h.nodf) i n oM oM aC e2
   exact(List.pairwise_iff_getElem.1 h.nodf) n i oM oM aC e2.symm
  rw[eh (Ne.symm aU),h.file i hi,List.getD_eq_getElem?_getD,List.getD_eq_getElem?_getD,List.getElem?_set_ne (Ne.symm e)]
 len:=by rw[List.length_set];exact h.len
 nodf:=h.nodf
 nodm:=h.nodm
 nodd:=h.nodd
 nodb:=h.nodb
 nodp:=h.nodp
 ok:=ok
def DkP.world {X:aB} {G:DkG} {S:DiskL} {w0 w:World} (h:DkP X G S) (hw:Hp w0 X w):DkW w G S:=⟨X,fun _ _ hb=>hw.has _ _ (cu hb),h⟩
theorem DkW.old {w w':World} {L:aB} {G:DkG} {S:DiskL} (h:DkW w G S) (hw:Hp w L w') (hn:New w.heap.size L):DkW w' G S:=by
 obtain⟨X,h1,h2⟩:=h
 refine⟨X,fun b o hb=> ?_,h2⟩
 have aC:=(Array.getElem?_eq_some_iff.1 (h1 b o hb)).1
 rw[hw.old b aC (hn.not aC)];exact h1 b o hb
def mY (bm:Nat) (S:DiskL) (n:Nat):aQ (some (false,n)) (some (bM bm S)) 0=some (vm bm):=(rfl)
def AH (bm:Nat) (S:DiskL) (n:Nat):aQ (some (false,n)) (some (bM bm S)) 1=some (vi S.max):=(rfl)
def C4 (bm:Nat) (S:DiskL) (n:Nat):aQ (some (false,n)) (some (bM bm S)) 2=some (vi S.fuse):=(rfl)
def DN (bm:Nat) (S:DiskL) (n:Nat):aQ (some (false,n)) (some (bM bm S)) 3=some (.bool S.fused):=(rfl)
def DH (bm:Nat) (S:DiskL) (n:Nat):aQ (some (false,n)) (some (bM bm S)) 4=some (.bool S.off):=(rfl)
def Qn (bm:Nat) (S:DiskL) (x:Int) (a:Bool):aw (some (a,1)) (some (bM bm S)) 1 (vi x)=some (bM bm {S with max:=x}):=k9 [vm bm] [vi S.max] [vi x] [vi S.fuse, .bool S.fused, .bool S.off] a _ 168 rfl rfl rfl rfl rfl
def QV (bm:Nat) (S:DiskL) (x:Int) (a:Bool):aw (some (a,1)) (some (bM bm S)) 2 (vi x)=some (bM bm {S with fuse:=x}):=k9 [vm bm,vi S.max] [vi S.fuse] [vi x] [.bool S.fused, .bool S.off] a _ 168 rfl rfl rfl rfl rfl
def Bz (bm:Nat) (S:DiskL) (x:Bool) (a:Bool):aw (some (a,1)) (some (bM bm S)) 3 (.bool x)=some (bM bm {S with fused:=x}):=k9 [vm bm,vi S.max,vi S.fuse] [.bool S.fused] [.bool x] [.bool S.off] a _ 168 rfl rfl rfl rfl rfl
def BT (bm:Nat) (S:DiskL) (x:Bool) (a:Bool):aw (some (a,1)) (some (bM bm S)) 4 (.bool x)=some (bM bm {S with off:=x}):=k9 [vm bm,vi S.max,vi S.fuse, .bool S.fused] [.bool S.off] [.bool x] [] a _ 168 rfl rfl rfl rfl rfl
def oJ (a b:Nat) (v:Value) (n:Nat):aQ (some (false,n)) (some (cU a b v)) 0=some (vm a):=(rfl)
def oE (a b:Nat) (v:Value) (n:Nat):aQ (some (false,n)) (some (cU a b v)) 1=some (vm b):=(rfl)
def oG (a b:Nat) (v:Value) (n:Nat):aQ (some (false,n)) (some (cU a b v)) 2=some v:=(rfl)
def yl (f:FileL) (n:Nat):aQ (some (false,n)) (some (cg f)) 0=some (vs f.data):=(rfl)
def yp (f:FileL) (n:Nat):aQ (some (false,n)) (some (cg f)) 1=some (vi (f.stl:Int)):=(rfl)
def Lc (f:FileL) (x:List UInt8) (a:Bool):aw (some (a,1)) (some (cg f)) 0 (vs x)=some (cg {f with data:=x}):=k9 [] [vs f.data] [vs x] [vi (f.stl:Int)] a _ 182 rfl rfl rfl rfl rfl
def LX (f:FileL) (x:Nat) (a:Bool):aw (some (a,1)) (some (cg f)) 1 (vi (x:Int))=some (cg {f with stl:=x}):=k9 [vs f.data] [vi (f.stl:Int)] [vi (x:Int)] [] a _ 182 rfl rfl rfl rfl rfl
def tA (b o:Nat):ab prog .eql 82 (vp b o) (.pointer none)=some (.bool false):=by
 simp[ab,eqX,eN,eA,underlying82,vp]
def Fa (b o:Nat):ab prog .neq 82 (vp b o) (.pointer none)=some (.bool true):=by
 simp[ab,eqX,eN,eA,underlying82,vp]
def nY (b o:Nat):ab prog .eql 171 (vp b o) (.pointer none)=some (.bool false):=by
 simp[ab,eqX,eN,eA,underlying171,vp]
def nU:ab prog .eql 171 (.pointer none) (.pointer none)=some (.bool true):=by
 simp[ab,eqX,eN,eA,underlying171]
def qD (b o:Nat):ab prog .eql 178 (vp b o) (.pointer none)=some (.bool false):=by
 simp[ab,eqX,eN,eA,underlying178,vp]
def pq:ab prog .eql 178 (.pointer none) (.pointer none)=some (.bool true):=by
 simp[ab,eqX,eN,eA,underlying178]
def zrPd:au prog 171=some (ar none):=id kR
def zrPf:au prog 178=some (ar none):=id kR
def j7:KeyOk prog 9 vs:=KeyOk.str underlying9
def AS (G:DkG) (s:List UInt8):getG s none (ob G)=(bG s).map G.d:=by
 unfold getG ob bG
 rw[List.find?_cons,List.find?_cons,List.find?_cons,List.find?_nil]
 cases h1:s==mc
 ·cases h2:s==lu
  ·cases h3:s==aJ<;>rfl
  rfl
 rfl
def uN:=aN (aN (aN @bB (aN @bA @mY)) (aN @AH (aN @C4 @DN))) (aN (aN @DH (aN @Qn @QV)) (aN (aN @Bz @BT) (aN @tA @Fa)))
def IL (b bm:Nat) (S:DiskL) (w:World) (hf: -9223372036854775808≤S.fuse∧S.fuse<9223372036854775808∧(S.fused=true→0≤S.fuse)) (ho:w.heap[b]? =some (bM bm S)):
  Rets prog 153 #[vp b 0] w (fun v D=> ∃o,D= [(b,o)]∧v=vi (aM S).2∧o=bM bm (aM S).1):=by
 refine Rets.enterM func153 rfl (rs:= [.tmp 2]) results153 ntmps153 ho ?_
 refine kf ?_
 unfold aM
 cases zg:S.fused with
 |false=>
  rw[if_neg (by simp),if_neg (by simp)]
  refine ky (aN @uN @zg) ?_
  refine⟨_,_,_,(ke @uN),rfl,trivial, ?_⟩
  exact⟨rfl,rfl⟩
 |true=>
  by_cases h0:S.fuse=0
  ·have e0: (S.fuse==0)=true:=beq_iff_eq.2 h0
   rw[if_pos ⟨rfl,h0⟩]
   refine ky (aN @uN (aN @zg @e0)) ?_
   refine⟨_,_,_,(ke @uN),rfl,trivial, ?_⟩
   exact⟨rfl,rfl⟩
  have e0: (S.fuse==0)=false:=beq_eq_false_iff_ne.2 h0
  have h1:=hf.2.2 zg
  rw[if_neg (fun h=>h0 h.2),if_pos rfl]
  refine ky (aN @uN (aN @zg @e0)) ?_
  refine⟨_,_,_,(ke @uN),rfl,trivial, ?_⟩
  exact⟨rfl,rfl⟩
def Qd (b bm:Nat) (S:DiskL) (n:Int) (w:World) (ho:w.heap[b]? =some (bM bm S)):
  Rets prog 47 #[vp b 0,vi n] w (fun v D=> ∃o,D= [(b,o)]∧v=bv []∧o=bM bm {S with fuse:=n,fused:=decide (0≤n)}):=by
 refine Rets.enterM func47 rfl (rs:= []) results47 ntmps47 ho ?_
 refine kf ?_
 refine ky @uN ?_
 refine⟨_,_,_,(ke @uN),rfl,trivial, ?_⟩
 exact⟨rfl,rfl⟩
def F_ (G:DkG) (S:DiskL) (dir:List UInt8) (names:List (List UInt8)) (v:Value):Prop:=
 (cr S dir names≠0∧v= .tuple #[.pointer none,vi (cr S dir names:Nat)])∨(cr S dir names=0∧ ∃k,bG dir=some k∧v= .tuple #[vp (G.d k) 0,vi 0])
def nG:=aN (aN (aN @bB @bA) (aN @mY (aN @AH @C4))) (aN (aN @DN (aN @DH @tA)) (aN @Fa (aN @nY @nU)))
def vW (w:World) (G:DkG) (S:DiskL) (dir:List UInt8) (v:Value) (names:List (List UInt8)) (hD:DkW w G S) (hv:qB w v names) (hl:names.length<1000000) (hs: ∀s,s∈names→s.length<1099511627776):
  Rets prog 151 #[vp G.bd 0,vs dir,v] w (fun v D=>F_ G S dir names v∧D= []):=by
 obtain⟨X,hX,hP⟩:=hD
 have hd:=hX _ _ hP.disk
 obtain⟨om,jJ,hM⟩:=hP.dirs
 have hb:=hX _ _ jJ
 refine Rets.enterV func151 rfl (rs:= [.tmp 6, .tmp 7]) results151 ntmps151 ?_
 refine kf ?_
 refine ky (aN @nG @hd) ?_
 refine Ow.mapGetG (encK:=vs) (encV:=ar) (k:=dir) (z:=none) rfl rfl underlying166 j7 zrPd rfl rfl hb hM ?_
 rw[AS]
 unfold F_ cr
 cases hw:bG dir with
 |none=>
  rw[if_pos (.inl rfl)]
  have fP:ar none= .pointer none:=rfl
  refine ko (aN @nG @fP) ?_
  refine ky @nG ?_
  refine⟨_,(ke @nG),trivial, ?_⟩
  exact .inl ⟨by decide,rfl⟩
 |some k=>
  have hp: ∀q:Nat,ar (some q)=vp q 0:=fun _=>rfl
  refine ko (aN @nG @hp) ?_
  refine Ow.callFV rfl call206 (fun w' aA=>M0 v names w' (hv.oldN aA trivial) hl hs) ?_
  cases jE:names.all cS with
  |false=>
   rw[if_pos (.inr rfl)]
   refine ko @nG ?_
   refine ky @nG ?_
   refine⟨_,(ke @nG),trivial, ?_⟩
   exact .inl ⟨by decide,rfl⟩
  |true=>
   rw[if_neg (by simp)]
   cases hof:S.off with
   |true=>
    rw[if_pos rfl]
    refine ko @nG ?_
    refine ky (aN @nG (aN @hd @hof)) ?_
    refine⟨_,(ke @nG),trivial, ?_⟩
    exact .inl ⟨by decide,rfl⟩
   |false=>
    rw[if_neg (by simp)]
    refine ko @nG ?_
    refine ky (aN @nG (aN @hd @hof)) ?_
    refine⟨_,(ke @nG),trivial, ?_⟩
    exact .inr ⟨rfl,k,rfl,rfl⟩
def pr {w:World} {b:Nat} {s:List UInt8} {E:TypeId} (h:w.heap[b]? =some (.cells #[vs s] E (0,0))):qB w (vsl b 0 1 1) [s]:=
 SlV.sl (l:= [s]) h (fun k hk j hj=>by
  obtain rfl:k=0:=by simpa using hk
  obtain rfl:j=0:=by omega
  rfl) (ap _) (by simp)
def h_ {w:World} {b:Nat} {s u:List UInt8} {E:TypeId} (h:w.heap[b]? =some (.cells #[vs s,vs u] E (0,0))):qB w (vsl b 0 2 2) [s,u]:=
 SlV.sl (l:= [s,u]) h (fun k hk j hj=>by
  obtain rfl:j=0:=by omega
  have:k=0∨k=1:=by simp at hk;omega
  rcases this with rfl|rfl<;>rfl) (ap _) (by simp)
def Qt {S:DiskL} {dir:List UInt8} {names:List (List UInt8)} (h:cr S dir names=0):bG dir≠none∧names.all cS=true∧S.off=false:=by
 unfold cr at h
 split at h
 ·cases h
 split at h
 ·cases h
 rename_i h1 h2
 refine⟨fun e=>h1 (.inl e), ?_,by simpa using h2⟩
 cases e:names.all cS with
 |true=>rfl
 |false=>exact absurd (.inr e) h1
def ci (S:DiskL) (dir name:List UInt8):List UInt8×Nat:=
 if cr S dir [name]≠0 then([],cr S dir [name]) else match(bG dir).bind fun k=>aR (S.dir k).seen name with
  |none=>([],6)
  |some n=>((S.files.getD n cL).data,0)
def oO {n:Nat} (h:n≠0): ((n:Int) !=0)=true:=bne_iff_ne.2 oM
def nO:=aN (aN (aN (aN @bB @bA) (aN @mY @oJ)) (aN (aN @oE @oG) (aN @yl (aN @yp @nY)))) (aN (aN (aN @nU @qD) (aN @pq @Sx.tup2_0)) (aN (aN @Sx.tup2_1 @uH) (aN @Sx.tup3_0 (aN @Sx.tup3_1 @Sx.tup3_2))))
def BB (w:World) (G:DkG) (S:DiskL) (dir name:List UInt8) (hD:DkW w G S) (hn:name.length<1099511627776):
  Rets prog 94 #[vp G.bd 0,vs dir,vs name] w (fun v D=>v= .tuple #[vs (ci S dir name).1,vi ((ci S dir name).2:Nat)]∧D= []):=by
 have GT:=hD
 obtain⟨X,hX,hP⟩:=hD
 refine Rets.enterV func94 rfl (rs:= [.tmp 6, .tmp 7]) results94 ntmps94 ?_
 refine kf ?_
 refine ky @nO ?_
 refine Ow.buildSlice (e:=9) #[vs name] rfl rfl kR fun b1 aO aP=> ?_
 refine ko @nO ?_
 have bX:New w.heap.size [(b1,Obj.cells #[vs name] 9 (0,0))]:=⟨aP,trivial⟩
 refine Ow.callC rfl rfl call151 (fun w' aA=>Rets.toX (vW w' G S dir (vsl b1 0 1 1) [name] (GT.old aA bX) (pr (aA.has _ _ aa)) (by simp) (by simpa using hn))) (fun B2 v2 D2 dG cZ cJ bH=> ?_)
 obtain⟨rfl,bH⟩:=bH
 rw[List.append_nil]
 unfold ci
 rcases bH with⟨he,rfl⟩ | ⟨he,k,hk,rfl⟩
 ·rw[if_pos he]
  have e1:=oO he
  refine ko @nO ?_
  refine ky (aN @nO @e1) ?_
  refine⟨_,(ke @nO),bX, ?_⟩
  rfl
 rw[if_neg (by rw[he];simp),hk]
 have an:=(dY hk).1
 have iT:=hX _ _ (hP.dir k an)
 obtain⟨os,ms,gR,fY,i9⟩:=hP.seen k an
 have lV:=hX _ _ gR
 have mJ:=(Array.getElem?_eq_some_iff.1 iT).1
 have fX:=(Array.getElem?_eq_some_iff.1 lV).1
 have lU:aT w [(b1,Obj.cells #[vs name] 9 (0,0))] (G.d k)=some (cU (G.s k) (G.t k) (G.p k)):=by rw[kY (bX.not mJ)];exact iT
 have jL:aT w [(b1,Obj.cells #[vs name] 9 (0,0))] (G.s k)=some os:=by rw[kY (bX.not fX)];exact lV
 have e1: ((0:Int) !=0)=false:=rfl
 refine ko @nO ?_
 refine ky (aN @nO (aN @e1 (aN @iT @lU))) ?_
 refine Ow.mapGetG (encK:=vs) (encV:=ar) (k:=name) (z:=none) rfl rfl underlying173 j7 zrPf rfl rfl jL fY ?_
 rw[i9.get (hP.ok.seen k an).nodup]
 show Ow _ _ _ _ _ _ _ _
 cases hf:aR (S.dir k).seen name with
 |none=>
  have mI: (some k).bind (fun k=>aR (S.dir k).seen name)=none:=hf
  rw[mI]
  have fP:ar none= .pointer none:=rfl
  refine ko (aN @nO @fP) ?_
  refine ky @nO ?_
  refine⟨_,(ke @nO),bX, ?_⟩
  rfl
 |some n=>
  have mI: (some k).bind (fun k=>aR (S.dir k).seen name)=some n:=hf
  rw[mI]
  have bI:=hP.ok.seenN k an _ (j1 hf)
  have dg:=hX _ _ (hP.file n bI)
  have rR:=(Array.getElem?_eq_some_iff.1 dg).1
  have o8:aT w [(b1,Obj.cells #[vs name] 9 (0,0))] (G.fb.getD n 0)=some (cg (S.files.getD n cL)):=by rw[kY (bX.not rR)];exact dg
  have hp: ∀q:Nat,ar (some q)=vp q 0:=fun _=>rfl
  refine ko (aN @nO @hp) ?_
  refine ky (aN @nO (aN @dg @o8)) ?_
  refine⟨_,(ke @nO),bX, ?_⟩
  rfl
def uDir (S:DiskL) (p:List UInt8×Option Nat):Nat:=match bG p.1 with|some k=>iZ S (S.dir k).seen|none=>0
def nN (S:DiskL) (l:NmL) (p:List UInt8×Option Nat):Nat:=match aR l p.1 with|some n=>(S.files.getD n cL).data.length|none=>0
def WF (S:DiskL) (G:DkG): ((ob G).map (uDir S)).sum=j5 S:=by
 unfold ob j5
 simp only[List.map_cons,List.map_nil,List.sum_cons,List.sum_nil]
 show iZ S (S.dir 0).seen+ (iZ S (S.dir 1).seen+ (iZ S (S.dir 2).seen+0))=_
 omega
def Uv (S:DiskL) {fb:List Nat} {l:NmL} {m:List (List UInt8×Option Nat)} (h:NmP fb l m) (hn: (l.map Prod.fst).Nodup): (m.map (nN S l)).sum=iZ S l:=by
 rw[(h.map (nN S l)).sum_nat,List.map_map]
 unfold iZ
 congr 1
 refine List.map_congr_left fun p hp=> ?_
 show nN S l (ptrN fb p)=_
 unfold nN ptrN
 rw[zK hn hp]
def DZ {α:Type} (f:α→Nat) {a b m:List α} (h: (a++b).Perm m): (a.map f).sum≤ (m.map f).sum:=by
 rw[← (h.map f).sum_nat,List.map_append,List.sum_append]
 omega
def vT {α β:Type} {encK:α→Value} {encV:β→Value} {o:Obj} {bm:Nat} {om:Obj} {m dn lf:List (α×β)} (h:ItG encK encV o bm om m dn lf): (dn++lf).Perm m:=by
 obtain⟨es,clock,ds,-,-,-,-,-,-,hp⟩:=h;exact hp
def C6 {G:DkG} {p:List UInt8×Option Nat} (h:p∈ob G): ∃k,k<3∧p=(d7 k,some (G.d k)):=by
 unfold ob at h
 simp only[List.mem_cons,List.not_mem_nil,or_false] at h
 rcases h with rfl|rfl|rfl
 ·exact⟨0,by omega,rfl⟩
 ·exact⟨1,by omega,rfl⟩
 exact⟨2,by omega,rfl⟩
structure UsG where
 dn:List (List UInt8×Option Nat)
 lf:List (List UInt8×Option Nat)
 it:Obj
 DG:aB
def kE:=aN (aN (aN (aN @bB @bA) (aN @mY @oJ)) (aN (aN @oE @oG) (aN @yl (aN @yp @tA)))) (aN (aN (aN @nY @nU) (aN @qD (aN @pq @Sx.tup2_0))) (aN (aN @Sx.tup2_1 @uH) (aN @Sx.tup3_0 (aN @Sx.tup3_1 @Sx.tup3_2))))
def Bd (w:World) (G:DkG) (S:DiskL) (hD:DkW w G S) (hb:j5 S<4611686018427387904):Rets prog 152 #[vp G.bd 0] w (fun v D=>v=vi (j5 S:Nat)∧D= []):=by
 obtain⟨X,hX,hP⟩:=hD
 have hd:=hX _ _ hP.disk
 obtain⟨om,jJ,hM⟩:=hP.dirs
 have tM:=hX _ _ jJ
 have mO:=(Array.getElem?_eq_some_iff.1 tM).1
 have hU:=WF S G
 have old: ∀b o,w.heap[b]? =some o→ ∀Y,New w.heap.size Y→aT w Y b=some o:=fun b o hb Y hY=>by
  rw[kY (hY.not (Array.getElem?_eq_some_iff.1 hb).1)];exact hb
 refine Rets.enterV func152 rfl (rs:= [.tmp 2]) results152 ntmps152 ?_
 refine kf ?_
 refine ky (aN @kE @hd) ?_
 refine Ow.rangeMapG (encK:=vs) (encV:=ar) rfl rfl underlying166 rfl tM hM fun bi oi uh kT hI=> ?_
 rw[List.nil_append]
 refine ko @kE ?_
 refine ky @kE ?_
 refine Cw.loopG (G:=UsG) [15,16,17,18,5,19,20,21,22,23,24,25,26,27,7,28,29,30,31,32,33,34,3] (fun g=> [(3,vi ((g.dn.map (uDir S)).sum:Nat))]) (fun g=>(bi,g.it)::g.DG) (fun g=>ItG vs ar g.it G.bm om (ob G) g.dn g.lf∧New w.heap.size g.DG) (fun g=>g.lf.length) ⟨[],ob G,oi,[]⟩ rfl rfl ?_ ?_
 ·exact⟨hI,trivial⟩
 intro g j hg
 refine kv ?_
 clear hI
 obtain⟨dn,lf,it,DG⟩:=g
 simp only at hg ⊢
 obtain⟨hI,hN⟩:=hg
 have tJ: ∀x,New w.heap.size ((bi,x)::DG):=fun x=>⟨kT,hN⟩
 refine ky @kE ?_
 refine Ow.nextMapG rfl rfl rfl (fN _ _ _) (old _ _ tM _ (tJ it)) hI (fun i8=> ?_) (fun p it' lf' lS iS=> ?_)
 ·subst i8
  have hp:=vT hI
  rw[List.append_nil] at hp
  rw[(hp.map (uDir S)).sum_nat,hU]
  refine ko @kE ?_
  refine ky @kE ?_
  refine⟨_,(ke @kE),tJ it, ?_⟩
  rfl
 refine kn ?_
 refine ko @kE ?_
 refine ky @kE ?_
 refine Ow.entryMapG (encK:=vs) (encV:=ar) rfl rfl rfl (oH _ _ _ _) (old _ _ tM _ (tJ it')) iS ?_
 have hp:=vT iS
 obtain⟨k,an,rfl⟩:=C6 (hp.mem_iff.1 (bl _ (db _ aa)))
 have dC:=DZ (uDir S) hp
 rw[hU,List.map_append,List.sum_append] at dC
 have mz: ([(d7 k,some (G.d k))].map (uDir S)).sum=iZ S (S.dir k).seen:=by
  show uDir S (d7 k,some (G.d k))+0=_
  unfold uDir
  simp only[oF an,Nat.add_zero]
 rw[mz] at dC
 have hac: ((dn++ [(d7 k,some (G.d k))]).map (uDir S)).sum=(dn.map (uDir S)).sum+iZ S (S.dir k).seen:=by rw[List.map_append,List.sum_append,mz]
 generalize (dn.map (uDir S)).sum=A at*
 have iT:=hX _ _ (hP.dir k an)
 obtain⟨os,ms,gR,fY,i9⟩:=hP.seen k an
 have lV:=hX _ _ gR
 have hs:=Uv S i9 (hP.ok.seen k an).nodup
 have hdr1:=old _ _ iT _ (tJ it')
 have xv:=old _ _ iT _ hN
 have qj: ∀q:Nat,ar (some q)=vp q 0:=fun _=>rfl
 refine ko (aN @kE (aN @qj (aN @hdr1 @xv))) ?_
 refine Ow.rangeMapG (encK:=vs) (encV:=ar) rfl rfl underlying173 rfl (old _ _ lV _ (tJ it')) fY fun bj oj hbj J' hJ=> ?_
 refine Ow.permL (M:=(bj,oj):: (bi,it')::DG) pM ?_
 refine ko @kE ?_
 refine ky @kE ?_
 refine Cw.loopG (G:=UsG) [24,25,26,27,7,28,29,30,31,32,33,34,3] (fun p=> [(3,vi ((A+ (p.dn.map (nN S (S.dir k).seen)).sum:Nat):Int))]) (fun p=>(bj,p.it):: (bi,it')::DG) (fun p=>ItG vs ar p.it (G.s k) os ms p.dn p.lf) (fun p=>p.lf.length) ⟨[],ms,oj,[]⟩ rfl rfl ?_ ?_
 ·exact hJ
 intro p jp hp
 refine kv ?_
 clear hJ
 obtain⟨dn2,lf2,jt,DX⟩:=p
 simp only at hp ⊢
 refine ky @kE ?_
 refine Ow.nextMapG rfl rfl rfl (fN _ _ _) (old _ _ lV _ ⟨J',tJ it'⟩) hp (fun i8=> ?_) (fun p jt' lf2' hl2' oz=> ?_)
 ·subst i8
  have hq:=vT hp
  rw[List.append_nil] at hq
  rw[(hq.map (nN S (S.dir k).seen)).sum_nat,hs]
  refine Ow.permL (M:=(bi,it'):: (bj,jt)::DG) pM ?_
  refine ko @kE ?_
  refine ky @kE ?_
  exact Again.mk ⟨dn++ [(d7 k,some (G.d k))],lf',it',(bj,jt)::DG⟩ (by show lf'.length<lf.length;omega) ⟨iS,J',hN⟩ rfl (by simp only[hac];rfl)
 refine kn ?_
 refine ko @kE ?_
 refine ky @kE ?_
 have hq:=vT oz
 have qZ:=DZ (nN S (S.dir k).seen) hq
 rw[hs] at qZ
 have vA:p∈ (S.dir k).seen.map (ptrN G.fb):=i9.mem_iff.1 (hq.mem_iff.1 (bl _ (db _ aa)))
 obtain⟨⟨s,n⟩,mT,rfl⟩:=List.mem_map.1 vA
 have huf: ([ptrN G.fb (s,n)].map (nN S (S.dir k).seen)).sum=(S.files.getD n cL).data.length:=by
  show nN S (S.dir k).seen (s,some (G.fb.getD n 0))+0=_
  unfold nN
  simp only[zK (hP.ok.seen k an).nodup mT,Nat.add_zero]
 rw[List.map_append,List.sum_append,huf] at qZ
 have xi: ((dn2++ [ptrN G.fb (s,n)]).map (nN S (S.dir k).seen)).sum=(dn2.map (nN S (S.dir k).seen)).sum+ (S.files.getD n cL).data.length:=by rw[List.map_append,List.sum_append,huf]
 have dg:=hX _ _ (hP.file n (hP.ok.seenN k an _ mT))
 have hf1:=old _ _ dg _ (show New w.heap.size ((bj,jt'):: (bi,it')::DG) from⟨J',tJ it'⟩)
 have HH:=old _ _ dg _ (tJ it')
 have hf3:=old _ _ dg _ hN
 generalize (dn2.map (nN S (S.dir k).seen)).sum=B at*
 refine Ow.entryMapG (encK:=vs) (encV:=ar) rfl rfl rfl (oH _ _ _ _) (old _ _ lV _ ⟨J',tJ it'⟩) oz ?_
 unfold ptrN at oz xi ⊢
 simp only at oz xi ⊢
 generalize G.fb.getD n 0=fbn at*
 generalize S.files.getD n cL=fl at*
 refine ko (aN @kE (aN @qj (aN @hf1 (aN @HH @hf3)))) ?_
 refine ky @kE ?_
 exact Again.mk ⟨dn2++ [(s,some fbn)],lf2',jt',DX⟩ (by show lf2'.length<lf2.length;omega) oz rfl (by simp only[xi,←Nat.add_assoc,Int.natCast_add];rfl)
def atD (S:DiskL) (dir name:List UInt8):Option Nat:=(bG dir).bind fun k=>aR (S.dir k).seen name
def aI (S:DiskL) (n:Nat):FileL:=S.files.getD n cL
def gm (S:DiskL) (n:Nat) (f:FileL):DiskL:={S with files:=S.files.set n f}
def bU (S:DiskL) (dir name:List UInt8):DiskL×Nat:=
 if cr S dir [name]≠0 then(S,cr S dir [name]) else match atD S dir name with
  |none=>(S,6)
  |some n=>if(aM S).2≠0 then aM S else(gm (aM S).1 n ⟨(aI S n).data,(aI S n).data.length⟩,0)
def fM (S:DiskL): (aM S).1.dir=S.dir∧(aM S).1.files=S.files∧(aM S).1.max=S.max:=by
 unfold aM
 split
 ·exact⟨rfl,rfl,rfl⟩
 split
 ·exact⟨rfl,rfl,rfl⟩
 exact⟨rfl,rfl,rfl⟩
def qz {S:DiskL} (h:DkOk S):DkOk (aM S).1:=by
 obtain⟨h1,h2,h3⟩:=fM S
 refine⟨by rw[h1];exact h.seen,by rw[h1];exact h.stl,by rw[h1,h2];exact h.seenN,by rw[h1,h2];exact h.stlN,by rw[h1,h2];exact h.pendN,by rw[h2];exact h.file, ?_,by rw[h3];exact h.max⟩
 have hf:=h.fuse
 unfold aM
 split
 ·exact hf
 split
 ·rename_i h4 h5
  have:=hf.2.2 h5
  have h6:S.fuse≠0:=fun e=>h4 ⟨h5,e⟩
  exact⟨by show _≤S.fuse - 1;omega,by show S.fuse - 1<_;omega,fun _=>by show 0≤S.fuse - 1;omega⟩
 exact hf
def zD {S:DiskL} (h:DkOk S) {n:Nat} {f:FileL} (hf:f.data.length≤1048576∧f.stl≤f.data.length):DkOk (gm S n f):=by
 refine⟨h.seen,h.stl,fun k hk p hp=>by show p.2< (S.files.set n f).length;rw[List.length_set];exact h.seenN k hk p hp,fun k hk p hp=>by show p.2< (S.files.set n f).length;rw[List.length_set];exact h.stlN k hk p hp,fun k hk c hc h0=>by show c.n< (S.files.set n f).length;rw[List.length_set];exact h.pendN k hk c hc h0,fun g hg=> ?_,h.fuse,h.max⟩
 rcases List.mem_or_eq_of_mem_set hg with hg|rfl
 ·exact h.file g hg
 exact hf
def zN {S:DiskL} (h:DkOk S) {n:Nat} (hn:n<S.files.length): (aI S n).data.length≤1048576∧(aI S n).stl≤ (aI S n).data.length:=by
 unfold aI
 rw[List.getD_eq_getElem?_getD,List.getElem?_eq_getElem hn]
 exact h.file _ (List.getElem_mem hn)
def kV:=aN (aN (aN (aN @bB @bA) (aN @mY @AH)) (aN (aN @oJ @oE) (aN @oG @yl))) (aN (aN (aN @yp @Lc) (aN @LX @nY)) (aN (aN @nU @qD) (aN @pq (aN @Sx.tup2_0 @Sx.tup2_1))))
def BJ (X:aB) (G:DkG) (S:DiskL) (dir name:List UInt8) (w:World) (hX: ∀p,p∈X→w.heap[p.1]? =some p.2) (hn: (keys X).Nodup) (hP:DkP X G S) (ec:name.length<1099511627776):
  Rets prog 85 #[vp G.bd 0,vs dir,vs name] w (XS w X (fun v D=>v=vi ((bU S dir name).2:Nat)∧DkP D G (bU S dir name).1)):=by
 refine Rets.enterX func85 rfl (rs:= [.tmp 6]) results85 ntmps85 hX hn ?_
 refine kf ?_
 refine ky @kV ?_
 refine Ow.buildSlice (e:=9) #[vs name] rfl rfl kR fun b1 aO aP=> ?_
 have ai:=hP.mono (X':=X++ [(b1,Obj.cells #[vs name] 9 (0,0))]) fun b o h=>bZ h
 have bq:=(Ext.refl w X).app (o:=Obj.cells #[vs name] 9 (0,0)) aP
 have ey: (b1,Obj.cells #[vs name] 9 (0,0))∈X++ [(b1,Obj.cells #[vs name] 9 (0,0))]:=by simp
 generalize X++ [(b1,Obj.cells #[vs name] 9 (0,0))]=L1 at*
 refine ko @kV ?_
 refine Ow.callC rfl rfl call151 (fun w' aA=>Rets.toX (vW w' G S dir (vsl b1 0 1 1) [name] (ai.world aA) (pr (aA.has _ _ ey)) (by simp) (by simpa using ec))) (fun B2 v2 D2 dG cZ cJ bH=> ?_)
 obtain⟨rfl,bH⟩:=bH
 rw[List.append_nil]
 clear ey dG cJ
 unfold bU atD
 rcases bH with⟨he,rfl⟩ | ⟨he,k,hk,rfl⟩
 ·rw[if_pos he]
  have e1:=oO he
  refine ko @kV ?_
  refine ky (aN @kV @e1) ?_
  refine⟨_,(ke @kV), ?_⟩
  exact⟨bq,rfl,ai⟩
 rw[if_neg (by rw[he];simp),hk]
 have an:=(dY hk).1
 have iT:=ac (w0:=w) (ai.dir k an)
 obtain⟨os,ms,gR,fY,i9⟩:=ai.seen k an
 have lV:=ac (w0:=w) gR
 have e1: ((0:Int) !=0)=false:=rfl
 refine ko @kV ?_
 refine ky (aN @kV (aN @e1 @iT)) ?_
 refine Ow.mapGetG (encK:=vs) (encV:=ar) (k:=name) (z:=none) rfl rfl underlying173 j7 zrPf rfl rfl lV fY ?_
 rw[i9.get (hP.ok.seen k an).nodup]
 show Ow _ _ _ _ _ _ _ _
 cases hf:aR (S.dir k).seen name with
 |none=>
  have mI: (some k).bind (fun k=>aR (S.dir k).seen name)=none:=hf
  rw[mI]
  have fP:ar none= .pointer none:=rfl
  refine ko (aN @kV @fP) ?_
  refine ky @kV ?_
  refine⟨_,(ke @kV), ?_⟩
  exact⟨bq,rfl,ai⟩
 |some n=>
  have mI: (some k).bind (fun k=>aR (S.dir k).seen name)=some n:=hf
  rw[mI]
  have bI:=hP.ok.seenN k an _ (j1 hf)
  have hp: ∀q:Nat,ar (some q)=vp q 0:=fun _=>rfl
  have dH:G.bd∈keys L1:=cC ai.disk
  refine ko (aN @kV @hp) ?_
  refine ky @kV ?_
  refine Ow.callM rfl rfl call153 dH (fun w' aA=>IL G.bd G.bm S w' hP.ok.fuse (aA.has _ _ (cu ai.disk))) ?_
  obtain⟨aO,al,gA⟩:=fM S
  have dA:=ai.setDisk (aM S).1 aO al (qz hP.ok)
  have bw:=bq.setB (b:=G.bd) (o:=bM G.bm (aM S).1)
  generalize setB L1 G.bd (bM G.bm (aM S).1)=L2 at*
  by_cases gB: (aM S).2=0
  ·have bz:=dA.file n (by rw[al];exact bI)
   have cW:=ac (w0:=w) bz
   have e2: (((aM S).2:Int) !=0)=false:=by rw[gB];rfl
   rw[if_neg (by rw[gB];simp)]
   have kO:=zN hP.ok bI
   have o_:=dA.setFile (n:=n) (by rw[al];exact bI) ⟨(aI S n).data,(aI S n).data.length⟩ (zD (qz hP.ok) ⟨kO.1,ap _⟩)
   have iV: (aM S).1.files.getD n cL=aI S n:=by rw[al];rfl
   rw[iV] at bz cW
   refine ko (aN @kV @e2) ?_
   refine ky (aN @kV (aN @cW @bz)) ?_
   refine⟨_,(ke @kV), ?_⟩
   exact⟨bw.setB,rfl,o_⟩
  have e2:=oO gB
  rw[if_pos gB]
  refine ko (aN @kV @e2) ?_
  refine ky @kV ?_
  refine⟨_,(ke @kV), ?_⟩
  exact⟨bw,rfl,dA⟩
def kF (S:DiskL) (n:Nat) (s:List UInt8):Bool:=decide ((1048576:Int) - ((aI S n).data.length:Int)< (s.length:Int)) ||decide (S.max< (j5 S:Int)) ||decide (S.max - (j5 S:Int)< (s.length:Int))
def bW (S:DiskL) (dir name s:List UInt8):DiskL×Nat:=
 if cr S dir [name]≠0 then(S,cr S dir [name]) else match atD S dir name with
  |none=>(S,6)
  |some n=>if kF S n s=true then(S,8) else if(aM S).2≠0 then aM S else(gm (aM S).1 n ⟨(aI S n).data++s,(aI S n).stl⟩,0)
def f5:=aN (aN (aN (aN @bB @bA) (aN @mY @AH)) (aN (aN @oJ @oE) (aN @oG @yl))) (aN (aN (aN @yp @Lc) (aN @LX @nY)) (aN (aN @nU @qD) (aN @pq (aN @Sx.tup2_0 @Sx.tup2_1))))
def X9_ (X:aB) (G:DkG) (S:DiskL) (dir name s:List UInt8) (w:World) (hX: ∀p,p∈X→w.heap[p.1]? =some p.2) (hn: (keys X).Nodup) (hP:DkP X G S) (ec:name.length<1099511627776) (cb:s.length<1099511627776) (hu:j5 S<4611686018427387904):
  Rets prog 84 #[vp G.bd 0,vs dir,vs name,vs s] w (XS w X (fun v D=>v=vi ((bW S dir name s).2:Nat)∧DkP D G (bW S dir name s).1)):=by
 refine Rets.enterX func84 rfl (rs:= [.tmp 8]) results84 ntmps84 hX hn ?_
 refine kf ?_
 refine ky @f5 ?_
 refine Ow.buildSlice (e:=9) #[vs name] rfl rfl kR fun b1 aO aP=> ?_
 have ai:=hP.mono (X':=X++ [(b1,Obj.cells #[vs name] 9 (0,0))]) fun b o h=>bZ h
 have bq:=(Ext.refl w X).app (o:=Obj.cells #[vs name] 9 (0,0)) aP
 have ey: (b1,Obj.cells #[vs name] 9 (0,0))∈X++ [(b1,Obj.cells #[vs name] 9 (0,0))]:=by simp
 generalize X++ [(b1,Obj.cells #[vs name] 9 (0,0))]=L1 at*
 refine ko @f5 ?_
 refine Ow.callC rfl rfl call151 (fun w' aA=>Rets.toX (vW w' G S dir (vsl b1 0 1 1) [name] (ai.world aA) (pr (aA.has _ _ ey)) (by simp) (by simpa using ec))) (fun B2 v2 D2 dG cZ cJ bH=> ?_)
 obtain⟨rfl,bH⟩:=bH
 rw[List.append_nil]
 clear ey dG cJ
 unfold bW atD
 rcases bH with⟨he,rfl⟩ | ⟨he,k,hk,rfl⟩
 ·rw[if_pos he]
  have e1:=oO he
  refine ko @f5 ?_
  refine ky (aN @f5 @e1) ?_
  refine⟨_,(ke @f5), ?_⟩
  exact⟨bq,rfl,ai⟩
 rw[if_neg (by rw[he];simp),hk]
 have an:=(dY hk).1
 have iT:=ac (w0:=w) (ai.dir k an)
 obtain⟨os,ms,gR,fY,i9⟩:=ai.seen k an
 have lV:=ac (w0:=w) gR
 have e1: ((0:Int) !=0)=false:=rfl
 refine ko @f5 ?_
 refine ky (aN @f5 (aN @e1 @iT)) ?_
 refine Ow.mapGetG (encK:=vs) (encV:=ar) (k:=name) (z:=none) rfl rfl underlying173 j7 zrPf rfl rfl lV fY ?_
 rw[i9.get (hP.ok.seen k an).nodup]
 show Ow _ _ _ _ _ _ _ _
 cases hf:aR (S.dir k).seen name with
 |none=>
  have mI: (some k).bind (fun k=>aR (S.dir k).seen name)=none:=hf
  rw[mI]
  have fP:ar none= .pointer none:=rfl
  refine ko (aN @f5 @fP) ?_
  refine ky @f5 ?_
  refine⟨_,(ke @f5), ?_⟩
  exact⟨bq,rfl,ai⟩
 |some n=>
  have mI: (some k).bind (fun k=>aR (S.dir k).seen name)=some n:=hf
  rw[mI]
  have bI:n<S.files.length:=hP.ok.seenN k an _ (j1 hf)
  have kO:=zN hP.ok bI
  have hp: ∀q:Nat,ar (some q)=vp q 0:=fun _=>rfl
  have dH:G.bd∈keys L1:=cC ai.disk
  have Js:=ac (w0:=w) (ai.file n bI)
  have lA:=ac (w0:=w) ai.disk
  have Ht:aT w L1 (G.fb.getD n 0)=some (cg (aI S n)):=Js
  have hmx:=hP.ok.max
  refine ko (aN @f5 @hp) ?_
  refine ky @f5 ?_
  refine Cw.regionS [G.fb.getD n 0,G.bd] [0,1,2,3,4,5,6,7,8,9,10,12,13,14,15,11,16,17,18,19,20,21,22,23,25,24,26,27,28,29,30] [] kR kR kR ?_
  simp only[bF, ↓bE, ↓ay, ↓bD, ↓bC,az]
  cases h1:decide ((1048576:Int) - ((aI S n).data.length:Int)< (s.length:Int)) with
  |true=>
   refine kq (aN @f5 (aN @Ht (aN @lA @h1))) ?_
   have hF:kF S n s=true:=by unfold kF;rw[h1];simp
   rw[if_pos hF]
   try with_reducible refine Ow.nil ?_
   refine ky @f5 ?_
   refine⟨_,(ke @f5), ?_⟩
   exact⟨bq,rfl,ai⟩
  |false=>
   refine kq (aN @f5 (aN @Ht (aN @lA @h1))) ?_
   refine Ow.soft rfl rfl rfl ?_
   refine Ow.callFV rfl call152 (fun w' aA=>Bd w' G S (ai.world aA) hu) ?_
   with_reducible refine Ow.nil ?_
   refine⟨by intro b hb;simp only[List.mem_cons,List.not_mem_nil,or_false] at hb;(try subst hb);rfl, ?_⟩
   cases h2:decide (S.max< (j5 S:Int)) with
   |true=>
    refine kq (aN @f5 (aN @lA @h2)) ?_
    have hF:kF S n s=true:=by unfold kF;rw[h2];simp
    rw[if_pos hF]
    try with_reducible refine Ow.nil ?_
    refine ky @f5 ?_
    refine⟨_,(ke @f5), ?_⟩
    exact⟨bq,rfl,ai⟩
   |false=>
    have uX:=of_decide_eq_false h2
    refine kq (aN @f5 (aN @lA @h2)) ?_
    refine Ow.soft rfl rfl rfl ?_
    refine Ow.callFV rfl call152 (fun w' aA=>Bd w' G S (ai.world aA) hu) ?_
    with_reducible refine Ow.nil ?_
    refine⟨by intro b hb;simp only[List.mem_cons,List.not_mem_nil,or_false] at hb;(try subst hb);rfl, ?_⟩
    cases h3:decide (S.max - (j5 S:Int)< (s.length:Int)) with
    |true=>
     refine kq (aN @f5 (aN @lA @h3)) ?_
     have hF:kF S n s=true:=by unfold kF;rw[h3];simp
     rw[if_pos hF]
     try with_reducible refine Ow.nil ?_
     refine ky @f5 ?_
     refine⟨_,(ke @f5), ?_⟩
     exact⟨bq,rfl,ai⟩
    |false=>
     have hF:kF S n s=false:=by unfold kF;rw[h1,h2,h3];rfl
     rw[if_neg (by rw[hF];simp)]
     have uV:=of_decide_eq_false h1
     refine kq (aN @f5 (aN @lA @h3)) ?_
     try with_reducible refine Ow.nil ?_
     refine ky @f5 ?_
     refine Ow.callM rfl rfl call153 dH (fun w' aA=>IL G.bd G.bm S w' hP.ok.fuse (aA.has _ _ (cu ai.disk))) ?_
     obtain⟨aO,al,gA⟩:=fM S
     have dA:=ai.setDisk (aM S).1 aO al (qz hP.ok)
     have bw:=bq.setB (b:=G.bd) (o:=bM G.bm (aM S).1)
     generalize setB L1 G.bd (bM G.bm (aM S).1)=L2 at*
     by_cases gB: (aM S).2=0
     ·have bz:=dA.file n (by rw[al];exact bI)
      have cW:=ac (w0:=w) bz
      have e2: (((aM S).2:Int) !=0)=false:=by rw[gB];rfl
      rw[if_neg (by rw[gB];simp)]
      have o_:=dA.setFile (n:=n) (by rw[al];exact bI) ⟨(aI S n).data++s,(aI S n).stl⟩ (zD (qz hP.ok) ⟨by simp only[List.length_append];omega,by simp only[List.length_append];omega⟩)
      have iV: (aM S).1.files.getD n cL=aI S n:=by rw[al];rfl
      rw[iV] at bz cW
      refine ko (aN @f5 @e2) ?_
      refine ky (aN @f5 (aN @cW @bz)) ?_
      refine⟨_,(ke @f5), ?_⟩
      exact⟨bw.setB,rfl,o_⟩
     have e2:=oO gB
     rw[if_pos gB]
     refine ko (aN @f5 @e2) ?_
     refine ky @f5 ?_
     refine⟨_,(ke @f5), ?_⟩
     exact⟨bw,rfl,dA⟩
structure Only (X D:aB) (bs:Nat) (o:Obj):Prop where
 keys:Sx.keys D=Sx.keys X
 at_:Sx.look D bs=some o
 rest: ∀b,b≠bs→Sx.look D b=Sx.look X b
def Only.set {X:aB} {bs:Nat} {o o':Obj} (h:Sx.look X bs=some o):Only X (setB X bs o') bs o':=⟨rB _ _ _,jR h,fun _ hb=>eh (Ne.symm hb)⟩
theorem Only.trans {X D D':aB} {bs:Nat} {o o':Obj} (h:Only X D bs o) (h':Only D D' bs o'):Only X D' bs o':=⟨h'.keys.trans h.keys,h'.at_,fun b hb=>(h'.rest b hb).trans (h.rest b hb)⟩
def Ci (s:List UInt8) (n:Nat):aQ (some (false,n)) (some (dX s)) 0=some (vs s):=(rfl)
def Ul (b:Nat) (n:Nat):aQ (some (false,n)) (some (ptrO b)) 0=some (vp b 0):=(rfl)
def od:=aN (aN @bB @bA) (aN @Ci @Ul)
def N5 (X:aB) (b1 b2 bs fbn:Nat) (a:List UInt8) (o:Obj) (m:List (List UInt8×Option Nat)) (w:World) (hX: ∀p,p∈X→w.heap[p.1]? =some p.2) (hn: (keys X).Nodup)
  (h1:Sx.look X b1=some (ptrO fbn)) (h2:Sx.look X b2=some (dX a)) (hs:Sx.look X bs=some o) (hm:eZ vs ar o m):
  Rets prog 324 #[vm bs,vp b1 0,vp b2 0] w (XS w X (fun v D=>v=bv []∧ ∃o',Only X D bs o'∧eZ vs ar o' (updG a (some fbn) m))):=by
 have r1:=ac (w0:=w) h1
 have r2:=ac (w0:=w) h2
 refine Rets.enterX func324 rfl (rs:= []) results324 ntmps324 hX hn ?_
 refine kf ?_
 refine ky (aN @od (aN @r1 @r2)) ?_
 refine Ow.mapUpdateG (encK:=vs) (encV:=ar) (k:=a) (v:=some fbn) rfl rfl underlying173 j7 rfl rfl rfl hs hm (fun o' fG=> ?_)
 refine ko @od ?_
 refine⟨_,(ke @od), ?_⟩
 exact⟨(Ext.refl w X).setB,rfl,o',Only.set hs,fG⟩
def Mh (X:aB) (b1 bs:Nat) (a:List UInt8) (o:Obj) (m:List (List UInt8×Option Nat)) (w:World) (hX: ∀p,p∈X→w.heap[p.1]? =some p.2) (hn: (keys X).Nodup)
  (h1:Sx.look X b1=some (dX a)) (hs:Sx.look X bs=some o) (hm:eZ vs ar o m):
  Rets prog 309 #[vm bs,vp b1 0] w (XS w X (fun v D=>v=bv []∧ ∃o',Only X D bs o'∧eZ vs ar o' (delG a m))):=by
 have r1:=ac (w0:=w) h1
 refine Rets.enterX func309 rfl (rs:= []) results309 ntmps309 hX hn ?_
 refine kf ?_
 refine ky (aN @od @r1) ?_
 refine Ow.mapDeleteG (encK:=vs) (encV:=ar) (k:=a) rfl rfl underlying173 j7 rfl rfl hs hm (fun o' fG=> ?_)
 refine ko @od ?_
 refine⟨_,(ke @od), ?_⟩
 exact⟨(Ext.refl w X).setB,rfl,o',Only.set hs,fG⟩
def O6 (X:aB) (b1 b2 bs:Nat) (a b:List UInt8) (o:Obj) (m:List (List UInt8×Option Nat)) (w:World) (hX: ∀p,p∈X→w.heap[p.1]? =some p.2) (hn: (keys X).Nodup)
  (h1:Sx.look X b1=some (dX a)) (h2:Sx.look X b2=some (dX b)) (hs:Sx.look X bs=some o) (hm:eZ vs ar o m):
  Rets prog 320 #[vm bs,vp b1 0,vp b2 0] w (XS w X (fun v D=>v=bv []∧ ∃o',Only X D bs o'∧eZ vs ar o' (delG a (updG b (getG a none m) m)))):=by
 have r1:=ac (w0:=w) h1
 have r2:=ac (w0:=w) h2
 refine Rets.enterX func320 rfl (rs:= []) results320 ntmps320 hX hn ?_
 refine kf ?_
 refine ky (aN @od (aN @r1 @r2)) ?_
 refine Ow.mapGetG (encK:=vs) (encV:=ar) (k:=a) (z:=none) rfl rfl underlying173 j7 zrPf rfl rfl (ac hs) hm ?_
 refine ko @od ?_
 refine Ow.mapUpdateG (encK:=vs) (encV:=ar) (k:=b) (v:=getG a none m) rfl rfl underlying173 j7 rfl rfl rfl hs hm (fun o1 ey=> ?_)
 have yH:Only X (setB X bs o1) bs o1:=Only.set hs
 have aU:b1≠bs:=by
  rintro rfl
  rw[hs] at h1;cases h1
  obtain⟨es,c,h,-⟩:=hm;cases h
 have r3:=ac (w0:=w) ((yH.rest b1 aU).trans h1)
 have hE:=(Ext.refl w X).setB (b:=bs) (o:=o1)
 generalize setB X bs o1=L1 at*
 refine ko @od ?_
 refine ky (aN @od @r3) ?_
 refine Ow.mapDeleteG (encK:=vs) (encV:=ar) (k:=a) rfl rfl underlying173 j7 rfl rfl yH.at_ ey (fun o' fG=> ?_)
 refine ko @od ?_
 refine⟨_,(ke @od), ?_⟩
 exact⟨hE.setB,rfl,o',yH.trans (Only.set yH.at_),fG⟩
def okC (l:NmL) (c:CallL):Prop:=c.kind=1→aR l c.a≠none∧c.a≠c.b
def NmP.ren {fb:List Nat} {l:NmL} {m:List (List UInt8×Option Nat)} (h:NmP fb l m) (hs:SrtN l) {a b:List UInt8} {n:Nat} (jn:a≠b):NmP fb (gK (fC l a) (b,n)) (delG a (updG b (some (fb.getD n 0)) m)):=by
 have h1:=h.put hs.nodup b n
 have h2:=h1.wipe (Aa (b,n) hs).nodup a
 refine h2.trans (List.Perm.map _ ?_)
 unfold gK
 refine(List.Perm.filter _ (uC (b,n) (fC l b))).trans ?_
 refine List.Perm.trans ?_ (uC (b,n) (fC (fC l a) b)).symm
 have e: (a==b)=false:=beq_eq_false_iff_ne.2 jn
 rw[List.filter_cons]
 simp only[e,Bool.not_false, ↓reduceIte]
 unfold fC
 rw[List.filter_filter,List.filter_filter]
 refine List.Perm.cons _ (List.Perm.of_eq (List.filter_congr fun p _=>Bool.and_comm _ _))
def J9 {l:NmL} (c:CallL) (h:SrtN l):SrtN (cw l c):=by
 unfold cw
 split
 ·exact Aa _ h
 ·exact Aa _ (Ax _ h)
 exact Ax _ h
def Kq {X:aB} {fb:List Nat} {v:Value} {c:CallL} {bs:Nat} {l:NmL} (hv:FnP X fb v c) (hN:NmM X fb bs l) (hs:SrtN l) (cG:okC l c):
  ∃k cap,v= .func (.func k) #[] cap∧(∀a w,(callFunc k a).run prog w= .ok (.enter k a) w)∧ ∀w,(∀p,p∈X→w.heap[p.1]? =some p.2)→(keys X).Nodup→Rets prog k (#[vm bs]++cap) w (XS w X (fun r D=>r=bv []∧ ∃o',Only X D bs o'∧NmM D fb bs (cw l c))):=by
 obtain⟨o,m,ho,hm,hp⟩:=hN
 unfold FnP at hv
 split at hv
 ·rename_i hk
  obtain⟨b1,b2,rfl,h1,h2⟩:=hv
  refine⟨_,_,rfl,call324,fun w hX hn=>Rets.mono (N5 X b1 b2 bs _ c.a o m w hX hn h1 h2 ho hm) ?_⟩
  rintro r D ⟨hE,hr,o',hO,fG⟩
  refine⟨hE,hr,o',hO,o',_,hO.at_,fG, ?_⟩
  unfold cw
  rw[hk]
  exact hp.put hs.nodup c.a c.n
 ·rename_i hk
  obtain⟨b1,b2,rfl,h1,h2⟩:=hv
  obtain⟨hf,jn⟩:=cG hk
  refine⟨_,_,rfl,call320,fun w hX hn=>Rets.mono (O6 X b1 b2 bs c.a c.b o m w hX hn h1 h2 ho hm) ?_⟩
  rintro r D ⟨hE,hr,o',hO,fG⟩
  refine⟨hE,hr,o',hO,o',_,hO.at_,fG, ?_⟩
  unfold cw
  rw[hk,hp.get hs.nodup]
  cases e:aR l c.a with
  |none=>exact absurd e hf
  |some n=>exact hp.ren hs jn
 rename_i h0 uV
 obtain⟨b1,rfl,h1⟩:=hv
 refine⟨_,_,rfl,call309,fun w hX hn=>Rets.mono (Mh X b1 bs c.a o m w hX hn h1 ho hm) ?_⟩
 rintro r D ⟨hE,hr,o',hO,fG⟩
 refine⟨hE,hr,o',hO,o',_,hO.at_,fG, ?_⟩
 have e:cw l c=fC l c.a:=by
  unfold cw
  split
  ·rename_i e;exact absurd e h0
  ·rename_i e;exact absurd e uV
  rfl
 rw[e]
 exact hp.wipe hs.nodup c.a
def zP {α:Type} {a b:List α} (z:α) (k:Nat) (h:k<a.length): (a++b).getD k z=a.getD k z:=by
 rw[List.getD_eq_getElem?_getD,List.getElem?_append_left h,←List.getD_eq_getElem?_getD]
def vh {α:Type} {a:List α} (z x:α) {k:Nat} (h:a.length=k): (a++ [x]).getD k z=x:=by
 subst h
 rw[List.getD_eq_getElem?_getD,List.getElem?_append_right (ap _),Nat.sub_self];rfl
def setP (G:DkG) (k:Nat) (v:Value):DkG:={G with p:=fun j=>if j=k then v else G.p j}
def J5 {l:NmL} {c:CallL} {n:Nat} (hl: ∀p,p∈l→p.2<n) (cG:okC l c) (hc:c.kind=0→c.n<n): ∀p,p∈cw l c→p.2<n:=by
 intro p hp
 have hput: ∀ {l:NmL} {x:List UInt8×Nat},(∀p,p∈l→p.2<n)→x.2<n→p∈gK l x→p.2<n:=by
  intro l x h1 h2 h3
  rcases List.mem_cons.1 ((uC x (fC l x.1)).mem_iff.1 h3) with rfl|h3
  ·exact h2
  exact h1 _ ((List.mem_filter.1 h3).1)
 unfold cw at hp
 split at hp
 ·rename_i hk;exact hput hl (hc hk) hp
 ·rename_i hk
  refine hput (fun q hq=>hl q ((List.mem_filter.1 hq).1)) ?_ hp
  cases e:aR l c.a with
  |none=>exact absurd e (cG hk).1
  |some m=>
   have:=hl _ (j1 e)
   exact this
 exact hl _ ((List.mem_filter.1 hp).1)
def AC {S:DiskL} (h:DkOk S) {k:Nat} (d:DirL) (h1:SrtN d.seen) (h2:SrtN d.stl) (h3: ∀p,p∈d.seen→p.2<S.files.length) (h4: ∀p,p∈d.stl→p.2<S.files.length) (h5: ∀c,c∈d.pend→c.kind=0→c.n<S.files.length):DkOk (eB S k d):=by
 refine⟨fun j hj=> ?_,fun j hj=> ?_,fun j hj=> ?_,fun j hj=> ?_,fun j hj=> ?_,h.file,h.fuse,h.max⟩<;>unfold eB<;>simp only<;>by_cases e:j=k
 ·rw[if_pos e];exact h1
 ·rw[if_neg e];exact h.seen j hj
 ·rw[if_pos e];exact h2
 ·rw[if_neg e];exact h.stl j hj
 ·rw[if_pos e];exact h3
 ·rw[if_neg e];exact h.seenN j hj
 ·rw[if_pos e];exact h4
 ·rw[if_neg e];exact h.stlN j hj
 ·rw[if_pos e];exact h5
 rw[if_neg e];exact h.pendN j hj
def pX {G:DkG} (h: [G.s 0,G.s 1,G.s 2,G.t 0,G.t 1,G.t 2].Nodup) {i j:Nat} (hi:i<3) (hj:j<3): (i≠j→G.s i≠G.s j)∧(i≠j→G.t i≠G.t j)∧G.s i≠G.t j:=by
 simp only[List.nodup_cons,List.mem_cons,List.not_mem_nil,not_or,or_false,List.nodup_nil,and_true,not_false_eq_true] at h
 have a:i=0∨i=1∨i=2:=by omega
 have b:j=0∨j=1∨j=2:=by omega
 rcases a with rfl|rfl|rfl<;>rcases b with rfl|rfl|rfl<;>refine⟨fun aU=> ?_,fun aU=> ?_, ?_⟩<;>first|omega| (exact absurd rfl aU)
def Ft {G:DkG} (h: [G.d 0,G.d 1,G.d 2].Nodup) {i j:Nat} (hi:i<3) (hj:j<3):i≠j→G.d i≠G.d j:=by
 simp only[List.nodup_cons,List.mem_cons,List.not_mem_nil,not_or,or_false,List.nodup_nil,and_true,not_false_eq_true] at h
 have a:i=0∨i=1∨i=2:=by omega
 have b:j=0∨j=1∨j=2:=by omega
 rcases a with rfl|rfl|rfl<;>rcases b with rfl|rfl|rfl<;>intro aU<;>first|omega| (exact absurd rfl aU)
structure DkP.Turn (X L:aB) (G:DkG) (k:Nat):Prop where
 keep: ∀b o,Sx.look X b=some o→b≠G.s k→b≠G.d k→slB (G.p k)≠some b→Sx.look L b=some o
def DkP.turn {X L:aB} {G:DkG} {S:DiskL} (h:DkP X G S) {k:Nat} (hk:k<3) {c:CallL} {v v2:Value} {vals:List Value} (hT:DkP.Turn X L G k)
  (hs:NmM L G.fb (G.s k) (cw (S.dir k).seen c)) (hd:Sx.look L (G.d k)=some (cU (G.s k) (G.t k) v2)) (hv:vals.length=(S.dir k).pend.length)
  (hF: ∀i,i<vals.length→FnP X G.fb (vals.getD i undef) ((S.dir k).pend.getD i jV)) (hGo:Gr X 176 1 (G.p k) vals.length vals)
  (fq:Gr L 176 1 v2 (vals.length+1) (vals++ [v])) (hFv:FnP X G.fb v c) (cb:slB v2=slB (G.p k)∨ ∃b,slB v2=some b∧b∉keys X) (cG:okC (S.dir k).seen c) (uj:c.kind=0→c.n<S.files.length):
  DkP L (setP G k v2) (eB S k ⟨cw (S.dir k).seen c,(S.dir k).stl,(S.dir k).pend++ [c]⟩):=by
 have yM: ∀b o,Sx.look X b=some o→tyO o≠some 176→slB (G.p k)≠some b:=by
  intro b o hb ht e
  obtain⟨arr,ha⟩:=nM hGo e
  rw[hb] at ha;cases ha;exact ht rfl
 obtain⟨osk,msk,qi,qf,-⟩:=h.seen k hk
 have dJ: ∀b o,Sx.look X b=some o→tyO o≠none→b≠G.s k:=by
  rintro b o hb ht rfl
  rw[qi] at hb;cases hb;exact ht (jP qf)
 have ao: ∀b o,Sx.look X b=some o→tyO o≠some 175→b≠G.d k:=by
  rintro b o hb ht rfl
  rw[h.dir k hk] at hb;cases hb;exact ht rfl
 have K: ∀b o,Sx.look X b=some o→tyO o≠none→tyO o≠some 175→tyO o≠some 176→Sx.look L b=some o:=fun b o hb h1 h2 h3=>hT.keep b o hb (dJ b o hb h1) (ao b o hb h2) (yM b o hb h3)
 have KM: ∀b o,Sx.look X b=some o→tyO o=none→b≠G.s k→Sx.look L b=some o:=fun b o hb h1 h2=>hT.keep b o hb h2 (ao b o hb (by rw[h1];intro e;cases e)) (yM b o hb (by rw[h1];intro e;cases e))
 have KF: ∀ {w c},FnP X G.fb w c→FnP L G.fb w c:=fun hw=>hw.keep fun b o hb hx=>K b o hb (by rcases hx with⟨s,rfl⟩ | ⟨a,rfl⟩<;>simp[tyO,dX,ptrO]) (by rcases hx with⟨s,rfl⟩ | ⟨a,rfl⟩<;>simp[tyO,dX,ptrO]) (by rcases hx with⟨s,rfl⟩ | ⟨a,rfl⟩<;>simp[tyO,dX,ptrO])
 refine⟨?_, ?_, ?_, ?_, ?_, ?_, ?_,h.len,h.nodf,h.nodm,h.nodd,h.nodb, ?_, ?_⟩
 ·exact K _ _ h.disk (by simp[tyO,bM]) (by simp[tyO,bM]) (by simp[tyO,bM])
 ·obtain⟨o,h1,h2⟩:=h.dirs
  exact⟨o,KM _ _ h1 (jP h2) (h.nodb k hk).1,h2⟩
 ·intro j hj
  by_cases e:j=k
  ·subst e
   show Sx.look L (G.d j)=some (cU (G.s j) (G.t j) (if j=j then v2 else G.p j))
   rw[if_pos rfl];exact hd
  show Sx.look L (G.d j)=some (cU (G.s j) (G.t j) (if j=k then v2 else G.p j))
  rw[if_neg e]
  exact hT.keep _ _ (h.dir j hj) (dJ _ _ (h.dir j hj) (by simp[tyO,cU])) (Ft h.nodd hj hk e) (yM _ _ (h.dir j hj) (by simp[tyO,cU]))
 ·intro j hj
  show NmM L G.fb (G.s j) (if j=k then _ else S.dir j).seen
  by_cases e:j=k
  ·subst e;rw[if_pos rfl];exact hs
  rw[if_neg e]
  obtain⟨o,m,h1,h2,h3⟩:=h.seen j hj
  exact⟨o,m,KM _ _ h1 (jP h2) ((pX h.nodm hj hk).1 e),h2,h3⟩
 ·intro j hj
  show NmM L G.fb (G.t j) (if j=k then _ else S.dir j).stl
  have e2: (if j=k then⟨cw (S.dir k).seen c,(S.dir k).stl,(S.dir k).pend++ [c]⟩ else S.dir j:DirL).stl=(S.dir j).stl:=by
   by_cases e:j=k
   ·subst e;rw[if_pos rfl]
   rw[if_neg e]
  rw[e2]
  obtain⟨o,m,h1,h2,h3⟩:=h.stl j hj
  exact⟨o,m,KM _ _ h1 (jP h2) (Ne.symm (pX h.nodm hk hj).2.2),h2,h3⟩
 ·intro j hj
  by_cases e:j=k
  ·subst e
   refine⟨vals++ [v], ?_, ?_, ?_⟩
   ·show(vals++ [v]).length=(if j=j then _ else S.dir j:DirL).pend.length
    rw[if_pos rfl,List.length_append,List.length_append,hv];rfl
   ·show Gr L _ 1 (if j=j then v2 else G.p j) (vals++ [v]).length (vals++ [v])
    rw[if_pos rfl,List.length_append];exact fq
   intro i hi
   show FnP L G.fb ((vals++ [v]).getD i undef) ((if j=j then _ else S.dir j:DirL).pend.getD i jV)
   rw[if_pos rfl]
   rw[List.length_append,List.length_singleton] at hi
   by_cases ei:i=vals.length
   ·subst ei
    rw[vh _ _ rfl,vh _ _ hv.symm]
    exact KF hFv
   rw[zP _ _ oM,zP _ _ oM]
   exact KF (hF i oM)
  obtain⟨vj,h1,h2,h3⟩:=h.pend j hj
  refine⟨vj, ?_, ?_, ?_⟩
  ·show vj.length=(if j=k then _ else S.dir j:DirL).pend.length
   rw[if_neg e];exact h1
  ·show Gr L _ 1 (if j=k then v2 else G.p j) vj.length vj
   rw[if_neg e]
   refine h2.keep fun b o hb ho=> ?_
   obtain⟨arr,ha⟩:=nM h2 hb
   rw[ho] at ha;cases ha
   exact hT.keep _ _ ho (dJ _ _ ho (by simp[tyO])) (ao _ _ ho (by simp[tyO])) (h.nodp j k hj hk e b hb)
  intro i hi
  show FnP L G.fb (vj.getD i undef) ((if j=k then _ else S.dir j:DirL).pend.getD i jV)
  rw[if_neg e]
  exact KF (h3 i hi)
 ·intro n hn
  exact K _ _ (h.file n hn) (by simp[tyO,cg]) (by simp[tyO,cg]) (by simp[tyO,cg])
 ·intro i j hi hj o5 b hb
  have key: ∀j,j<3→ ∀b,slB (G.p j)=some b→b∈keys X:=fun j hj b hb=>by
   obtain⟨vj,-,h2,-⟩:=h.pend j hj
   obtain⟨arr,ha⟩:=nM h2 hb
   exact cC ha
  show slB (if j=k then v2 else G.p j)≠some b
  have eG:slB (if i=k then v2 else G.p i)=some b:=hb
  by_cases ei:i=k
  ·subst ei
   rw[if_pos rfl] at eG
   rw[if_neg (Ne.symm o5)]
   rcases cb with e| ⟨b',e,al⟩
   ·exact h.nodp i j hi hj o5 b (by rw[←e];exact eG)
   rw[e] at eG;cases eG
   exact fun h'=>al (key j hj _ h')
  rw[if_neg ei] at eG
  by_cases ej:j=k
  ·subst ej
   rw[if_pos rfl]
   rcases cb with e| ⟨b',e,al⟩
   ·rw[e];exact h.nodp i j hi hj o5 b eG
   rw[e]
   intro h';cases h'
   exact al (key i hi _ eG)
  rw[if_neg ej];exact h.nodp i j hi hj o5 b eG
 exact AC h.ok _ (J9 c (h.ok.seen k hk)) (h.ok.stl k hk) (J5 (h.ok.seenN k hk) cG uj) (h.ok.stlN k hk) (fun d hd h0=>by
  rcases List.mem_append.1 hd with hd|hd
  ·exact h.ok.pendN k hk d hd h0
  rw[List.mem_singleton.1 hd] at h0 ⊢;exact uj h0)
def cz (S:DiskL) (k:Nat) (c:CallL):DiskL:=eB S k ⟨cw (S.dir k).seen c,(S.dir k).stl,(S.dir k).pend++ [c]⟩
def LV (a b:Nat) (v q:Value) (x:Bool) (hq:Value.oneCell' q=true∧q.cells= #[q]):aw (some (x,1)) (some (cU a b v)) 2 q=some (cU a b q):=k9 [vm a,vm b] [v] [q] [] x _ 175 rfl rfl hq.2 rfl (by simp[hq.1])
def oe:=aN (aN @bB (aN @bA @mY)) (aN (aN @AH @oJ) (aN @oE @oG))
def KW (X:aB) (G:DkG) (S:DiskL) (k:Nat) (c:CallL) (v:Value) (w:World) (hX: ∀p,p∈X→w.heap[p.1]? =some p.2) (hn: (keys X).Nodup) (hP:DkP X G S) (hk:k<3) (hv:FnP X G.fb v c) (cG:okC (S.dir k).seen c) (uj:c.kind=0→c.n<S.files.length) (fy: (S.dir k).pend.length<1000000):
  Rets prog 279 #[vp G.bd 0,vp (G.d k) 0,v] w (XS w X (fun r D=>r=vi ((aM S).2:Nat)∧if(aM S).2≠0 then D=setB X G.bd (bM G.bm (aM S).1) else∃v2,DkP D (setP G k v2) (cz (aM S).1 k c))):=by
 obtain⟨fk,cap,rfl,-,-⟩:=Kq hv (hP.seen k hk) (hP.ok.seen k hk) cG
 refine Rets.enterX func279 rfl (rs:= [.tmp 6]) results279 ntmps279 hX hn ?_
 refine kf ?_
 refine ky @oe ?_
 refine Ow.callM rfl rfl call153 (cC hP.disk) (fun w' aA=>IL G.bd G.bm S w' hP.ok.fuse (aA.has _ _ (cu hP.disk))) ?_
 obtain⟨aO,al,gA⟩:=fM S
 have ai:=hP.setDisk (aM S).1 aO al (qz hP.ok)
 have bq:=(Ext.refl w X).setB (b:=G.bd) (o:=bM G.bm (aM S).1)
 have zx:FnP (setB X G.bd (bM G.bm (aM S).1)) G.fb (.func (.func fk) #[] cap) c:=hv.keep fun b o ho hx=>gc hP.disk ho (by rcases hx with⟨s,rfl⟩ | ⟨a,rfl⟩<;>simp[tyO,bM,dX,ptrO])
 generalize hL1:setB X G.bd (bM G.bm (aM S).1)=L1 at*
 by_cases gB: (aM S).2=0
 ·have e2: (((aM S).2:Int) !=0)=false:=by rw[gB];rfl
  have pF:SrtN ((aM S).1.dir k).seen:=ai.ok.seen k hk
  have tW:okC ((aM S).1.dir k).seen c:=by rw[aO];exact cG
  obtain⟨fk',cap',he,eI,jG⟩:=Kq zx (ai.seen k hk) pF tW
  cases he
  have iT:=ac (w0:=w) (ai.dir k hk)
  obtain⟨os,ms,gR,fY,-⟩:=ai.seen k hk
  have Jf:G.d k≠G.s k:=by
   intro e
   have h1:=ai.dir k hk
   rw[e,gR] at h1;cases h1
   obtain⟨es,cl,h,-⟩:=fY;cases h
  obtain⟨vals,vH,fq,hF⟩:=ai.pend k hk
  refine ko (aN @oe @e2) ?_
  refine ky (aN @oe @iT) ?_
  refine Ow.callFnXC (b:=vm (G.s k)) (cap:=cap) (ars:= #[vm (G.s k)]++cap) rfl (X:=L1) (Y:= []) (List.append_nil _).symm rfl rfl rfl rfl eI (fun w' aA aj ad=>jG w' aj ad) (fun r D hC hS=> ?_)
  rw[List.append_nil]
  obtain⟨rfl,o',hO,cJ⟩:=hS
  have bw:=bq.came0 hC
  have i4:Sx.look D (G.d k)=some (cU (G.s k) (G.t k) (G.p k)):=(hO.rest _ Jf).trans (ai.dir k hk)
  have xv:=ac (w0:=w) i4
  have hGD:Gr D 176 1 (G.p k) vals.length vals:=fq.keep fun b o hb ho=>by
   obtain⟨arr,ha⟩:=nM fq hb
   rw[ho] at ha;cases ha
   refine(hO.rest b ?_).trans ho
   rintro rfl
   rw[gR] at ho;cases ho
   obtain⟨es,cl,h,-⟩:=fY;cases h
  refine ko @oe ?_
  refine ky (aN @oe @xv) ?_
  refine Ow.buildSlice (e:=176) #[.func (.func fk) #[] cap] rfl rfl kR fun ba hba yc=> ?_
  refine ko @oe ?_
  refine Ow.appendG (e:=176) (k:=1) (new:= [.func (.func fk) #[] cap]) (G.p k) rfl rfl rfl underlying172 (id kR:aK prog 176=some (false,1)) kR (id kR:au prog 176=some .nilFunc) rfl underlying172 (by intro k h;cases h) hGD.app (fun w' aA=>AppX.one1 (aA.has _ _ (db _ aa)) rfl rfl) rfl (by rw[vH,aO];omega) (fun v2 L2 cZ _ mu eL=> ?_)
  have nu:=(bw.app (o:= .cells #[.func (.func fk) #[] cap] 176 (0,0)) yc).grew mu
  have l8:slB (G.p k)≠some (G.d k):=fun e=>by
   obtain⟨arr,ha⟩:=nM hGD e
   rw[i4] at ha
   simp[cU] at ha
  have gO:Sx.look L2 (G.d k)=some (cU (G.s k) (G.t k) (G.p k)):=mu.look _ _ l8 (bZ i4)
  have jL:=ac (w0:=w) gO
  have st:=fun x=>LV (G.s k) (G.t k) (G.p k) v2 x cZ.cell
  refine ko @oe ?_
  refine ky (aN @oe (aN @gO @st)) ?_
  refine⟨_,(ke @oe), ?_⟩
  refine⟨nu.setB,by rw[gB];rfl, ?_⟩
  rw[if_neg (by rw[gB];simp)]
  have hAb: ∀b,eP (D++ [(ba, .cells #[.func (.func fk) #[] cap] 176 (0,0))]) b→b∉keys L1:=fun b hb hm=>by
   have:=ak hb (b:=b) (by rw[ae,hO.keys];exact bl _ hm)
   omega
  have hkd: ∀b o,Sx.look L1 b=some o→b≠G.s k→b≠G.d k→slB (G.p k)≠some b→Sx.look (setB L2 (G.d k) (cU (G.s k) (G.t k) v2)) b=some o:=fun b o hb h1 h2 h3=>by
   rw[eh (Ne.symm h2)]
   exact mu.look _ _ h3 (bZ ((hO.rest b h1).trans hb))
  obtain⟨oN,mN,gL,gM,mq⟩:=cJ
  have hps:slB (G.p k)≠some (G.s k):=fun e=>by
   obtain⟨arr,ha⟩:=nM fq e
   rw[gR] at ha;cases ha
   obtain⟨es,cl,h,-⟩:=fY;cases h
  have hv2d:slB v2≠some (G.d k):=fun e=>by
   rcases eL with h| ⟨b',h,ha⟩
   ·exact l8 (by rw[←h];exact e)
   rw[h] at e;cases e
   exact hAb _ ha (cC (ai.dir k hk))
  refine⟨v2,ai.turn hk (c:=c) (v:= .func (.func fk) #[] cap) (v2:=v2) (vals:=vals) ⟨hkd⟩ ⟨oN,mN, ?_,gM,mq⟩ (jR gO) vH hF fq (cZ.keep fun b o hb ho=> ?_) zx (eL.imp id fun⟨b',h,ha⟩=>⟨b',h,hAb _ ha⟩) tW (by rw[al];exact uj)⟩
  ·rw[eh Jf]
   exact mu.look _ _ hps (bZ gL)
  rw[eh (by rintro rfl;exact hv2d hb)];exact ho
 have e2:=oO gB
 refine ko (aN @oe @e2) ?_
 refine ky @oe ?_
 refine⟨_,(ke @oe), ?_⟩
 refine⟨bq,rfl, ?_⟩
 rw[if_pos gB]
def addF (G:DkG) (bf:Nat):DkG:={G with fb:=G.fb++ [bf]}
def fK (S:DiskL) (f:FileL):DiskL:={S with files:=S.files++ [f]}
def EW {S:DiskL} (h:DkOk S) {f:FileL} (hf:f.data.length≤1048576∧f.stl≤f.data.length):DkOk (fK S f):=by
 have e: (fK S f).files.length=S.files.length+1:=by unfold fK;simp
 refine⟨h.seen,h.stl,fun k hk p hp=>by rw[e];exact Nat.lt_succ_of_lt (h.seenN k hk p hp),fun k hk p hp=>by rw[e];exact Nat.lt_succ_of_lt (h.stlN k hk p hp),fun k hk c hc h0=>by rw[e];exact Nat.lt_succ_of_lt (h.pendN k hk c hc h0),fun g hg=> ?_,h.fuse,h.max⟩
 rcases List.mem_append.1 hg with hg|hg
 ·exact h.file g hg
 rw[List.mem_singleton.1 hg];exact hf
def Fl {fb:List Nat} {bf n:Nat} (h:n<fb.length): (fb++ [bf]).getD n 0=fb.getD n 0:=zP 0 n h
def DkP.addFile {X:aB} {G:DkG} {S:DiskL} (h:DkP X G S) {bf:Nat} {f:FileL} (hb:Sx.look X bf=some (cg f)) (hn:bf∉G.fb) (hf:f.data.length≤1048576∧f.stl≤f.data.length):DkP X (addF G bf) (fK S f):=by
 have hl:=h.len
 have hNm: ∀ {b:Nat} {l:NmL},(∀p,p∈l→p.2<S.files.length)→NmM X G.fb b l→NmM X (G.fb++ [bf]) b l:=by
  rintro b l aC ⟨o,m,h1,h2,h3⟩
  exact⟨o,m,h1,h2,h3.mono fun p hp=>Fl (by have:=aC p hp;omega)⟩
 refine⟨h.disk,h.dirs,h.dir,fun k hk=>hNm (h.ok.seenN k hk) (h.seen k hk),fun k hk=>hNm (h.ok.stlN k hk) (h.stl k hk),fun k hk=> ?_,fun n ad=> ?_, ?_, ?_,h.nodm,h.nodd,h.nodb,h.nodp,EW h.ok hf⟩
 ·obtain⟨vals,h1,h2,h3⟩:=h.pend k hk
  refine⟨vals,h1,h2,fun i hi=> ?_⟩
  have hF:=h3 i hi
  have hm: ((S.dir k).pend.getD i jV)∈ (S.dir k).pend:=by
   rw[List.getD_eq_getElem?_getD,List.getElem?_eq_getElem oM];exact List.getElem_mem _
  have hc:=h.ok.pendN k hk _ hm
  show FnP X (G.fb++ [bf]) (vals.getD i undef) ((S.dir k).pend.getD i jV)
  generalize (S.dir k).pend.getD i jV=c at*
  unfold FnP at hF ⊢
  split at hF
  ·rename_i rQ
   rw[Fl (by have:=hc rQ;omega)]
   exact hF
  ·exact hF
  exact hF
 ·have mw:n<S.files.length+1:=by
   have: (fK S f).files.length=S.files.length+1:=by unfold fK;simp
   omega
  show Sx.look X ((G.fb++ [bf]).getD n 0)=some (cg ((S.files++ [f]).getD n cL))
  by_cases e:n=S.files.length
  ·subst e
   rw[vh _ _ hl,vh _ _ rfl];exact hb
  rw[zP _ _ oM,zP _ _ oM]
  exact h.file n oM
 ·show(G.fb++ [bf]).length=(S.files++ [f]).length
  rw[List.length_append,List.length_append,hl];rfl
 show(G.fb++ [bf]).Nodup
 refine List.nodup_append.2 ⟨h.nodf,by simp,fun a ha b eG=> ?_⟩
 rw[List.mem_singleton.1 eG]
 rintro rfl;exact hn ha
def TB:fI (d8 prog 182) (au prog 182) []=some (.agg #[vs [],vi 0]):=by
 rw[show d8 prog 182=some [(0,1),(1,1)] from id kR,show au prog 182=some (.agg #[vs [],vi 0]) from id kR];rfl
def axY_:au prog 178=some (.pointer none):=zrPf
def Ts (b:Nat) (a:Bool):aw (some (a,1)) (some (.cells (Value.pointer none).cells 178 (0,0))) 0 (vp b 0)=some (ptrO b):=
 k9 [] [.pointer none] [vp b 0] [] a _ 178 rfl rfl rfl rfl rfl
def ou:=aN @bB (aN @bA @Ts)
def Me (name:List UInt8) (w:World):Rets prog 319 #[vs name] w (XS w [] (fun v D=> ∃bp bn bf,v= .func (.func 324) #[] #[vp bp 0,vp bn 0]∧Sx.look D bp=some (ptrO bf)∧Sx.look D bn=some (dX name)∧Sx.look D bf=some (cg cL))):=by
 refine Rets.enterX func319 rfl (rs:= [.tmp 2]) results319 ntmps319 (fun p hp=>by cases hp) (by simp[keys]) ?_
 refine kf ?_
 refine ky @ou ?_
 refine Ow.box rfl rfl fun bn gB qt=> ?_
 simp only[ck,cV,ce,List.nil_append]
 refine ko @ou ?_
 refine ky @ou ?_
 refine Ow.build (.agg #[vs [],vi 0]) rfl TB ?_
 refine ko @ou ?_
 refine Ow.box rfl rfl fun bf JX hwf=> ?_
 simp only[ck,cV,ce,ag]
 refine ko @ou ?_
 refine Ow.alloc rfl rfl axY_ fun bp JY hwp=> ?_
 have h1:bn<bf:=ak JX (by simp[keys])
 have h2:bn<bp:=ak JY (by simp[keys])
 have h3:bf<bp:=ak JY (by simp[keys])
 refine Ow.permL (M:= [(bp, .cells (Value.pointer none).cells 178 (0,0)),(bf, .cells #[vs [],vi 0] 182 (0,0)),(bn, .cells (vs name).cells 9 (0,0))]) pM ?_
 refine ko @ou ?_
 refine ky @ou ?_
 refine⟨_,(ke @ou), ?_⟩
 refine⟨Ext.of_new ⟨hwp,hwf,qt,trivial⟩,bp,bn,bf, ?_, ?_, ?_, ?_⟩
 ·simp only[bv,List.map_toArray,List.map_cons,List.map_nil,ck,cV,ce]
 ·simp[Sx.look]
 ·simp[Sx.look,show bp≠bn by omega,show bf≠bn by omega];rfl
 simp[Sx.look,show bp≠bf by omega];rfl
def MK (name:List UInt8) (w:World):Rets prog 280 #[vs name] w (XS w [] (fun v D=> ∃bn,v= .func (.func 309) #[] #[vp bn 0]∧Sx.look D bn=some (dX name))):=by
 refine Rets.enterX func280 rfl (rs:= [.tmp 2]) results280 ntmps280 (fun p hp=>by cases hp) (by simp[keys]) ?_
 refine kf ?_
 refine ky @ou ?_
 refine Ow.box rfl rfl fun bn gB qt=> ?_
 simp only[ck,cV,ce,List.nil_append]
 refine ko @ou ?_
 refine ky @ou ?_
 refine⟨_,(ke @ou), ?_⟩
 exact⟨Ext.of_new ⟨qt,trivial⟩,bn,by simp only[bv,List.map_toArray,List.map_cons,List.map_nil,ck,cV,ce],by simp[Sx.look];rfl⟩
end Go.Proofs
end
