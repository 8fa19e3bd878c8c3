/-
  Part 2 of the walk: contracts of the functions that the law reaches, and the calculus they stand on.
  No conditions.
-/
import Derived.Test.YtjjiclcgdngfdaaGreatDoorM1
import Derived.Lib.Small
import Derived.Lib.Walk
import Derived.Lib.Bytealg
import Derived.Deep.Draws
import Derived.Deep.QuietTactic
import Derived.Lib.Strings
import GoSem.Core.Float
import Derived.Laws.MakeOwn
section
open Go Go.Proofs Go.Sx Go.StP
namespace Go.Proofs
set_option maxRecDepth 10000
set_option maxHeartbeats 4000000
set_option linter.unusedSimpArgs false
theorem x1_ (x:IdL): (Z7_ x).length=32:=by simp[Z7_,x.h]
theorem Qn_ (x:IdL): (Z7_ x).all Value.oneCell'=true:=XL_ _
abbrev IdS (w:World) (v:Value) (l:List IdL):Prop:=SlV 32 Z7_ id0 w v l
theorem W5_ {w:World} {v:Value} {l:List IdL} {b off:Nat} {arr:Array Value} {E:TypeId} {fz:Nat×Nat} (h:RowS 32 Z7_ id0 w v l b off arr E fz) {k:Nat} (hk:k<l.length):
  zt_ (some (true,32)) (some (.cells arr E fz)) (off+k*32)=some (.agg (a8 (l.getD k id0).l)):=RowS.load h x1_ (by omega) hk
theorem ang_ (a b:IdL):qI_ Tryz.prog .eql 84 (.agg (a8 a.l)) (.agg (a8 b.l))=some (.bool (a.l==b.l)):=
 aqU_ Tryz.underlying84 Tryz.underlying5 Tryz.ag5 (by kernel_rfl) a.l b.l ⟨a.h,b.h⟩
theorem aox_ (a b:IdL):qI_ Tryz.prog .neq 84 (.agg (a8 a.l)) (.agg (a8 b.l))=some (.bool (!(a.l==b.l))):=
 anN_ Tryz.underlying84 Tryz.underlying5 Tryz.ag5 (by kernel_rfl) a.l b.l ⟨a.h,b.h⟩
instance:DecidableEq IdL:=fun a b=>if h:a.l=b.l then .isTrue (by cases a;cases b;simp only at h;subst h;rfl) else .isFalse (fun e=>h (by rw[e]))
theorem IdL.ext' {a b:IdL} (h:a.l=b.l):a=b:=by cases a;cases b;simp only at h;subst h;rfl
def idxG (x:IdL):List IdL→Nat→Int
 | [],_=> -1
 |y::r,i=>if x.l==y.l then(i:Int) else idxG x r (i+1)
theorem alT_ (x y:IdL) (r:List IdL) (i:Nat):idxG x (y::r) i=if x.l==y.l then(i:Int) else idxG x r (i+1):=rfl
theorem ahq_ (x:IdL): ∀ (l:List IdL) (i:Nat),decide (0≤idxG x l i)=l.any fun y=>x.l==y.l
 | [],_=>rfl
 |y::r,i=>by
  unfold idxG
  rw[List.any_cons]
  cases h: (x.l==y.l)
  ·rw[if_neg (by simp),Bool.false_or];exact ahq_ x r (i+1)
  ·rw[if_pos rfl,Bool.true_or,decide_eq_true (by omega)]
theorem xt_ (x:IdL) (E:TypeId) (fz:Nat×Nat):zt_ (some (true,32)) (some (.cells (a8 x.l) E fz)) 0=some (.agg (a8 x.l)):=Vl_ _ E fz 32 x.h
set_option linter.defProp false
def kH_:=And.intro (And.intro (@ang_) (@aox_)) (And.intro (@xt_) (And.intro (@zp_) (@zo_)))
theorem ab0_ (v:Value) (l:List IdL) (x:IdL) (w:World) (hv:IdS w v l) (hl:l.length<1000000):
  Rets Tryz.prog 250 #[v, .agg (a8 x.l)] w (fun v' D=>v'=vi (idxG x l 0)∧D= []):=by
 obtain⟨b,off,arr,E,fz,hr⟩:=hv.row
 have ln:=hv.len
 refine Rets.enterV Tryz.func250 rfl (rs:= [.tmp 4]) Tryz.results250 Tryz.ntmps250 ?_
 refine kf ?_
 first|with_reducible refine ks [] @kH_ ?_|refine kp @kH_ ?_
 refine Ow.box rfl rfl fun b1 hb1 hw1=> ?_
 simp only[zY_,zV_,zX_,za_,List.nil_append,List.cons_append]
 refine Ow.go rfl ?_
 simp(disch:=(first|assumption|omega| (simp only[kK_,kw_,UInt64.reduceToNat];try omega))) only[↓Sx.S0,Sx.S1,Tryz.fx,kH_,Nat.reduceAdd,Nat.reducePow,Int.reducePow,Nat.reduceBEq, ↓reduceIte,UInt8.reduceToNat,UInt16.reduceToNat,UInt32.reduceToNat,UInt64.reduceToNat,Int.reduceToNat]
 first|with_reducible refine ks [] (And.intro @kH_ @ln) ?_|refine kp (And.intro @kH_ @ln) ?_
 refine Cw.loopG (G:=Nat) [9,10,5,11,12,13,14,15,16,17,4,18,8] (fun g=> [(8,vi g)]) (fun g=> [(b1, .cells (a8 x.l) 84 (0,0))]) (fun g=>g≤l.length∧idxG x l 0=idxG x (l.drop g) g) (fun g=>l.length - g) 0 rfl rfl ?_ ?_
 ·exact⟨Nat.zero_le _,rfl⟩
 ·intro k jk hk
  refine kv ?_
  obtain⟨h1,h2⟩:=hk
  by_cases hk:k<l.length
  ·have h0:0<l.length:=by omega
   have hbl:=hr.lt h0
   have hn1:b1≠b:=by omega
   have r2:=hr.has h0
   have i2:=hr.idx true k hk
   have l2:=W5_ hr hk
   rw[Kq_ (z:=id0) hk,alT_] at h2
   first|with_reducible refine ks [] @kH_ ?_|refine kp @kH_ ?_
   refine Cw.regionS [b1,b] [1,2,3,0,4,5] [] (by kernel_rfl) (by kernel_rfl) (by kernel_rfl) ?_
   simp only[zl_, ↓zg_, ↓zc_, ↓zx_, ↓zw_,zd_]
   refine kq (And.intro @kH_ (And.intro @i2 (And.intro @r2 (@l2)))) ?_
   cases hq: (x.l==(l.getD k id0).l)
   ·rw[hq,if_neg (by simp)] at h2
    first|with_reducible refine ks [] (And.intro @kH_ @hq) ?_|refine kp (And.intro @kH_ @hq) ?_
    exact Again.mk (k+1) (by omega) ⟨hk,h2⟩ rfl rfl
   ·rw[hq,if_pos rfl] at h2
    rw[h2]
    first|with_reducible refine ks [] (And.intro @kH_ @hq) ?_|refine kp (And.intro @kH_ @hq) ?_
    refine⟨_,(ke @kH_),⟨hw1,trivial⟩, ?_⟩
    rfl
  ·obtain rfl:k=l.length:=by omega
   rw[List.drop_length] at h2
   rw[h2]
   first|with_reducible refine ks [] @kH_ ?_|refine kp @kH_ ?_
   refine⟨_,(ke @kH_),⟨hw1,trivial⟩, ?_⟩
   rfl
theorem Ka_ (v:Value) (l:List IdL) (x:IdL) (w:World) (hv:IdS w v l) (hl:l.length<1000000):
  Rets Tryz.prog 243 #[v, .agg (a8 x.l)] w (fun v' D=>v'= .bool (l.any fun y=>x.l==y.l)∧D= []):=by
 refine Rets.enterV Tryz.func243 rfl (rs:= [.tmp 4]) Tryz.results243 Tryz.ntmps243 ?_
 refine kf ?_
 first|with_reducible refine ks [] @kH_ ?_|refine kp @kH_ ?_
 refine Ow.box rfl rfl fun b1 hb1 hw1=> ?_
 simp only[zY_,zV_,zX_,za_,List.nil_append,List.cons_append]
 refine Ow.go rfl ?_
 simp(disch:=(first|assumption|omega| (simp only[kK_,kw_,UInt64.reduceToNat];try omega))) only[↓Sx.S0,Sx.S1,Tryz.fx,kH_,Nat.reduceAdd,Nat.reducePow,Int.reducePow,Nat.reduceBEq, ↓reduceIte,UInt8.reduceToNat,UInt16.reduceToNat,UInt32.reduceToNat,UInt64.reduceToNat,Int.reduceToNat]
 first|with_reducible refine ks [] @kH_ ?_|refine kp @kH_ ?_
 refine Ow.callFV rfl Tryz.call250 (fun w' hw'=>ab0_ v l x w' (hv.oldN hw' ⟨hw1,trivial⟩) hl) ?_
 refine ko @kH_ ?_
 refine⟨_,(ke @kH_),⟨hw1,trivial⟩, ?_⟩
 exact congrArg Value.bool (ahq_ x l 0)
end Go.Proofs
end
section
open Go Go.Proofs Go.Sx Go.StP
namespace Go.Proofs
set_option maxRecDepth 100000
set_option maxHeartbeats 400000
set_option linter.unusedSimpArgs false
structure RwL where
 id:IdL
 place:Int
 spot:Int
set_option linter.defProp false
end Go.Proofs
end
section
open Go Go.Proofs Go.Sx Go.StP
namespace Go.Proofs
set_option maxRecDepth 10000
set_option maxHeartbeats 4000000
set_option linter.unusedSimpArgs false
set_option linter.defProp false
end Go.Proofs
end
section
open Go Go.Proofs Go.Sx Go.StP
namespace Go.Proofs
set_option maxRecDepth 10000
set_option maxHeartbeats 4000000
set_option linter.unusedSimpArgs false
abbrev ag1_ (l:List RwL):Prop:=StP.Sorted (fun r:RwL=>r.id.l) l
abbrev ard_ (l l':List RwL):Prop:=StP.St (fun r:RwL=>r.id.l) l l'
set_option linter.defProp false
end Go.Proofs
end
section
open Go Go.Proofs Go.Sx Go.StP
namespace Go.Proofs
set_option maxRecDepth 10000
set_option maxHeartbeats 4000000
set_option linter.unusedSimpArgs false
set_option linter.defProp false
end Go.Proofs
end
section
open Go Go.Proofs Go.Sx Go.StP
namespace Go.Proofs
set_option maxRecDepth 10000
set_option maxHeartbeats 4000000
set_option linter.unusedSimpArgs false
set_option linter.defProp false
end Go.Proofs
end
section
open Go Go.Proofs Go.Sx Go.StP
namespace Go.Proofs
set_option maxRecDepth 10000
set_option maxHeartbeats 4000000
set_option linter.unusedSimpArgs false
end Go.Proofs
end
section
open Go Go.Proofs Go.Sx Go.StP
namespace Go.Proofs
set_option maxRecDepth 10000
set_option maxHeartbeats 4000000
set_option linter.unusedSimpArgs false
def rws_SortOf (l Z:List RwL):Prop:=Z.length=l.length∧ag1_ Z∧ard_ l Z
theorem rws_SortOf.eq {l Z Z':List RwL} (h:rws_SortOf l Z) (h':rws_SortOf l Z'):Z=Z':=StP.St.eq h.2.1 h'.2.1 (h.2.2.symm.trans h'.2.2)
end Go.Proofs
end
section
open Go Go.Proofs Go.Sx Go.StP
namespace Go.Proofs
set_option maxRecDepth 10000
set_option maxHeartbeats 1000000
set_option linter.unusedSimpArgs false
set_option linter.defProp false
end Go.Proofs
end
section
open Go Go.Proofs Go.Sx Go.StP
namespace Go.Proofs
set_option maxRecDepth 10000
set_option maxHeartbeats 1000000
set_option linter.unusedSimpArgs false
set_option linter.defProp false
end Go.Proofs
end
section
open Go Go.Proofs Go.Sx Go.StP
namespace Go.Proofs
set_option maxRecDepth 10000
set_option maxHeartbeats 4000000
set_option linter.unusedSimpArgs false
structure ComL where
 tree:IdL
 par:List IdL
 text:List UInt8
def jd_ (t:IdL) (p:Value) (x:List UInt8):List Value:=t.l.map v8++ ([p]++ [vs x])
theorem Zp_ (t:IdL) (p:Value) (x:List UInt8): (jd_ t p x).length=34:=by simp[jd_,t.h]
theorem apB_ (t:IdL) (p:Value) (x:List UInt8) (hp:Value.oneCell' p=true): (jd_ t p x).all Value.oneCell'=true:=by
 unfold jd_
 simp only[List.all_append,List.all_cons,List.all_nil,XL_,hp,Bool.and_true,Bool.true_and]
 rfl
theorem vs_ (t:IdL) (p:Value) (x:List UInt8):Value.cells (.agg (jd_ t p x).toArray)=(jd_ t p x).toArray:=za_ _
theorem QS_ (t:IdL) (p:Value) (x:List UInt8) (E:TypeId) (fz:Nat×Nat):zt_ (some (true,32)) (some (.cells (jd_ t p x).toArray E fz)) 0=some (.agg (a8 t.l)):=by
 unfold jd_;exact Q8_ [] _ _ E fz rfl (by simp[t.h])
theorem QV_ (t:IdL) (p:Value) (x:List UInt8) (n:Nat) (E:TypeId) (fz:Nat×Nat):zt_ (some (false,n)) (some (.cells (jd_ t p x).toArray E fz)) 32=some p:=by
 unfold jd_;exact j4_ _ _ p n E fz (by simp[t.h])
theorem Q9_ (t:IdL) (p:Value) (x:List UInt8) (n:Nat) (E:TypeId) (fz:Nat×Nat):zt_ (some (false,n)) (some (.cells (jd_ t p x).toArray E fz)) 33=some (vs x):=by
 have e:jd_ t p x=(t.l.map v8++ [p])++ ([vs x]++ []):=by unfold jd_;simp only[List.append_assoc,List.append_nil]
 rw[e];exact j4_ _ _ (vs x) n E fz (by simp[t.h])
theorem Xs_ (t:IdL) (p:Value) (x:List UInt8) (E:TypeId) (fz:Nat×Nat):zt_ (some (true,34)) (some (.cells (jd_ t p x).toArray E fz)) 0=some (.agg (jd_ t p x).toArray):=kR_ _ E fz 34 (by rw[List.size_toArray,Zp_])
theorem Vi_ (old:Array Value) (t:IdL) (p:Value) (x:List UInt8) (a:Bool) (E:TypeId) (h:old.size=34) (hp:Value.oneCell' p=true):zv_ (some (a,34)) (some (.cells old E (0,0))) 0 (.agg (jd_ t p x).toArray)=some (.cells (jd_ t p x).toArray E (0,0)):=ky_ _ a old E (Zp_ t p x) (apB_ t p x hp) h
def ZX_ (l:List IdL) (i:Nat):Bool:= !((l.take i).any fun y=>(l.getD i id0).l==y.l)
def w4_ (c:ComL):Bool:=(decide (c.par.length≤4)&&decide (c.text.length≤64))&& (List.range c.par.length).all (ZX_ c.par)
theorem ahS_ {c:ComL} {k:Nat} (hk:k<c.par.length) (h:ZX_ c.par k=false):w4_ c=false:=by
 unfold w4_
 have: (List.range c.par.length).all (ZX_ c.par)=false:=by
  rw[List.all_eq_false]
  exact⟨k,List.mem_range.2 hk,by simp[h]⟩
 rw[this,Bool.and_false]
theorem adZ_ {c:ComL} (h: ∀i,i<c.par.length→ZX_ c.par i=true):w4_ c=(decide (c.par.length≤4)&&decide (c.text.length≤64)):=by
 unfold w4_
 have: (List.range c.par.length).all (ZX_ c.par)=true:=List.all_eq_true.2 fun i hi=>h i (List.mem_range.1 hi)
 rw[this,Bool.and_true]
abbrev ComS (w:World) (v:Value) (c:ComL):Prop:= ∃p,v= .agg (jd_ c.tree p c.text).toArray∧IdS w p c.par
theorem SlV.one {α:Type} {m:Nat} {enc:α→List Value} {z:α} {w:World} {v:Value} {l:List α} (h:SlV m enc z w v l):Value.oneCell' v=true∧v.cells= #[v]:=by
 obtain⟨b,off,c,arr,E,fz,-,-,⟨rfl,-,-⟩ | ⟨rfl,-,-⟩⟩:=h<;>exact⟨rfl,rfl⟩
set_option linter.defProp false
def vp_:=And.intro (And.intro (And.intro (@ang_) (@aox_)) (And.intro (@xt_) (And.intro (@zp_) (@zo_)))) (And.intro (And.intro (@QS_) (@QV_)) (And.intro (@Q9_) (And.intro (@Xs_) (@vs_))))
theorem afC_ (v:Value) (c:ComL) (w:World) (hv:ComS w v c) (hl:c.par.length<1000000) (ht:c.text.length<1099511627776):
  Rets Tryz.prog 229 #[v] w (fun v' D=>v'= .bool (w4_ c)∧D= []):=by
 obtain⟨p,rfl,hp⟩:=hv
 obtain⟨b,off,arr,E,fz,hr⟩:=hp.row
 have ln:=hp.len
 refine Rets.enterV Tryz.func229 rfl (rs:= [.tmp 2]) Tryz.results229 Tryz.ntmps229 ?_
 refine kf ?_
 first|with_reducible refine ks [] @vp_ ?_|refine kp @vp_ ?_
 refine Ow.box rfl rfl fun bx hbx hwx=> ?_
 simp only[zY_,zV_,zX_,za_,List.nil_append,List.cons_append]
 refine Ow.go rfl ?_
 simp(disch:=(first|assumption|omega| (simp only[kK_,kw_,UInt64.reduceToNat];try omega))) only[↓Sx.S0,Sx.S1,Tryz.fx,vp_,Nat.reduceAdd,Nat.reducePow,Int.reducePow,Nat.reduceBEq, ↓reduceIte,UInt8.reduceToNat,UInt16.reduceToNat,UInt32.reduceToNat,UInt64.reduceToNat,Int.reduceToNat]
 first|with_reducible refine ks [] (And.intro @vp_ @ln) ?_|refine kp (And.intro @vp_ @ln) ?_
 refine Cw.loopG (G:=Nat) [9,10,11,12,4,3,13,14,15,16,17,18,2,19,8] (fun g=> [(8,vi g)]) (fun g=> [(bx, .cells (jd_ c.tree p c.text).toArray 172 (0,0))]) (fun g=>g≤c.par.length∧ ∀i,i<g→ZX_ c.par i=true) (fun g=>c.par.length - g) 0 rfl rfl ?_ ?_
 ·exact⟨Nat.zero_le _,fun i hi=>absurd hi (Nat.not_lt_zero i)⟩
 ·intro k jk hk
  refine kv ?_
  obtain⟨h1,h2⟩:=hk
  by_cases hk:k<c.par.length
  ·have h0:0<c.par.length:=by omega
   have hbl:=hr.lt h0
   have hnb:bx≠b:=by omega
   have r2:=hr.has h0
   have i2:=hr.idx true k hk
   have l2:=W5_ hr hk
   obtain⟨v3,s3,hv3,-⟩:=hp.take (show k≤c.par.length by omega) true
   first|with_reducible refine ks [6] (And.intro @vp_ (And.intro @i2 (And.intro @r2 (@l2)))) ?_|refine kp (And.intro @vp_ (And.intro @i2 (And.intro @r2 (@l2)))) ?_
   refine Ow.alloc rfl rfl Tryz.zr84 fun b4 hb4 hw4=> ?_
   simp only[za_,List.nil_append,List.cons_append]
   obtain⟨h4,-⟩:=hb4
   have hxl:=(c.par.getD k id0).h
   refine ko @vp_ ?_
   refine Cw.regionS [bx,b4] [0,2,1,3,4,5] [] (by kernel_rfl) (by kernel_rfl) (by kernel_rfl) ?_
   simp only[zl_, ↓zg_, ↓zc_, ↓zx_, ↓zw_,zd_]
   refine kq (And.intro @vp_ @s3) ?_
   refine Ow.callFV rfl Tryz.call243 (fun w' hw'=>Ka_ v3 (c.par.take k) (c.par.getD k id0) w' (hv3.oldN hw' ⟨hwx,hw4,trivial⟩) (by rw[List.length_take];omega)) ?_
   cases hq: (c.par.take k).any fun y=>(c.par.getD k id0).l==y.l
   ·have e1:ZX_ c.par k=true:=by unfold ZX_;rw[hq];rfl
    refine kq @vp_ ?_
    refine Cw.forgetN [(bx, .cells (jd_ c.tree p c.text).toArray 172 (0,0))] (by exact⟨hwx,hw4,trivial⟩) (by intro p hp;simp only[List.mem_cons,List.not_mem_nil,or_false] at hp ⊢;all_goals (first| (rcases hp with rfl|hp<;>simp_all) | (subst hp;simp) |simp_all)) (by simp[keys]<;>omega) ?_
    first|with_reducible refine ks [] @vp_ ?_|refine kp @vp_ ?_
    exact Again.mk (k+1) (by omega) ⟨by omega,fun i hi=>by
     rcases Nat.lt_succ_iff_lt_or_eq.1 hi with h|rfl
     ·exact h2 i h
     ·exact e1⟩ rfl rfl
   ·have e1:ZX_ c.par k=false:=by unfold ZX_;rw[hq];rfl
    rw[ahS_ hk e1]
    refine kq @vp_ ?_
    refine⟨_,(ke @vp_),⟨hwx,hw4,trivial⟩, ?_⟩
    rfl
  ·obtain rfl:k=c.par.length:=by omega
   rw[adZ_ h2]
   by_cases h4:c.par.length≤4
   ·have d1:decide (((c.par.length:Nat):Int)≤4)=true:=decide_eq_true (by omega)
    first|with_reducible refine ks [] (And.intro @vp_ (And.intro @ln (@d1))) ?_|refine kp (And.intro @vp_ (And.intro @ln (@d1))) ?_
    refine⟨_,(ke @vp_),⟨hwx,trivial⟩, ?_⟩
    rw[show decide (c.par.length≤4)=true from decide_eq_true h4,Bool.true_and];exact congrArg Value.bool (decide_eq_decide.2 (by omega))
   ·have d1:decide (((c.par.length:Nat):Int)≤4)=false:=decide_eq_false (by omega)
    first|with_reducible refine ks [] (And.intro @vp_ (And.intro @ln (@d1))) ?_|refine kp (And.intro @vp_ (And.intro @ln (@d1))) ?_
    refine⟨_,(ke @vp_),⟨hwx,trivial⟩, ?_⟩
    rw[show decide (c.par.length≤4)=false from decide_eq_false h4];rfl
end Go.Proofs
end
section
open Go Go.Proofs Go.Sx Go.StP
namespace Go.Proofs
set_option maxRecDepth 10000
set_option maxHeartbeats 4000000
set_option linter.unusedSimpArgs false
set_option linter.defProp false
def xY_:=And.intro (And.intro (And.intro (@ang_) (@aox_)) (And.intro (@xt_) (And.intro (@zp_) (@zo_)))) (And.intro (And.intro (@QS_) (@QV_)) (And.intro (@Q9_) (And.intro (@Xs_) (@vs_))))
theorem apd_ {l:List IdL} {k:Nat} {x:IdL} (hk:k<l.length) (h: ((l.take k).any fun y=>x.l==y.l)=false) (h2: (x.l==(l.getD k id0).l)=false): ((l.take (k+1)).any fun y=>x.l==y.l)=false:=by
 rw[take_snoc (z:=id0) hk,List.any_append,h,Bool.false_or,List.any_cons,h2];rfl
theorem ary_ {l:List IdL} {k i:Nat} {x:IdL} (hk:k<l.length) (hi:k<i) (h2: (x.l==(l.getD k id0).l)=true): ((l.take i).any fun y=>x.l==y.l)=true:=by
 rw[List.any_eq_true]
 refine⟨l.getD k id0, ?_,h2⟩
 rw[←al1_ (l:=l) (z:=id0) hi]
 exact xQ_ (by rw[List.length_take];omega)
theorem Xp_ (v:Value) (c:ComL) (w:World) (hv:ComS w v c) (hl:c.par.length<1000000) (ht:c.text.length<1099511627776):
  Rets Tryz.prog 150 #[v] w (fun v' D=>v'= .bool (w4_ c)∧D= []):=by
 obtain⟨p,rfl,hp⟩:=hv
 obtain⟨b,off,arr,E,fz,hr⟩:=hp.row
 have ln:=hp.len
 refine Rets.enterV Tryz.func150 rfl (rs:= [.tmp 2]) Tryz.results150 Tryz.ntmps150 ?_
 refine kf ?_
 first|with_reducible refine ks [] @xY_ ?_|refine kp @xY_ ?_
 refine Ow.box rfl rfl fun bx hbx hwx=> ?_
 simp only[zY_,zV_,zX_,za_,List.nil_append,List.cons_append]
 refine Ow.go rfl ?_
 simp(disch:=(first|assumption|omega| (simp only[kK_,kw_,UInt64.reduceToNat];try omega))) only[↓Sx.S0,Sx.S1,Tryz.fx,xY_,Nat.reduceAdd,Nat.reducePow,Int.reducePow,Nat.reduceBEq, ↓reduceIte,UInt8.reduceToNat,UInt16.reduceToNat,UInt32.reduceToNat,UInt64.reduceToNat,Int.reduceToNat]
 by_cases h4:4<c.par.length
 ·have d1:decide (4< ((c.par.length:Nat):Int))=true:=decide_eq_true (by omega)
  first|with_reducible refine ks [] (And.intro @xY_ (And.intro @ln (@d1))) ?_|refine kp (And.intro @xY_ (And.intro @ln (@d1))) ?_
  have:w4_ c=false:=by unfold w4_;rw[show decide (c.par.length≤4)=false from decide_eq_false (by omega)];rfl
  rw[this]
  refine⟨_,(ke @xY_),⟨hwx,trivial⟩, ?_⟩
  rfl
 have d1:decide (4< ((c.par.length:Nat):Int))=false:=decide_eq_false (by omega)
 by_cases h64:64<c.text.length
 ·have d2:decide (64< ((c.text.length:Nat):Int))=true:=decide_eq_true (by omega)
  first|with_reducible refine ks [] (And.intro @xY_ (And.intro @ln (And.intro @d1 (@d2)))) ?_|refine kp (And.intro @xY_ (And.intro @ln (And.intro @d1 (@d2)))) ?_
  have:w4_ c=false:=by unfold w4_;rw[show decide (c.text.length≤64)=false from decide_eq_false (by omega),Bool.and_false];rfl
  rw[this]
  refine⟨_,(ke @xY_),⟨hwx,trivial⟩, ?_⟩
  rfl
 have d2:decide (64< ((c.text.length:Nat):Int))=false:=decide_eq_false (by omega)
 first|with_reducible refine ks [] (And.intro @xY_ (And.intro @ln (And.intro @d1 (@d2)))) ?_|refine kp (And.intro @xY_ (And.intro @ln (And.intro @d1 (@d2)))) ?_
 refine Cw.loopG (G:=Nat) [15,16,17,18,19,4,22,23,24,27,28,29,30,31,32,33,34,35,36,37,2,25,26,20,21,3] (fun g=> [(3,vi g)]) (fun g=> [(bx, .cells (jd_ c.tree p c.text).toArray 172 (0,0))]) (fun g=>g≤c.par.length∧ ∀i,i<g→ZX_ c.par i=true) (fun g=>c.par.length - g) 0 rfl rfl ?_ ?_
 ·exact⟨Nat.zero_le _,fun i hi=>absurd hi (Nat.not_lt_zero i)⟩
 ·intro i ji hi
  refine kv ?_
  obtain⟨h1,h2⟩:=hi
  by_cases hi:i<c.par.length
  ·have h0:0<c.par.length:=by omega
   have hbl:=hr.lt h0
   have hnb:bx≠b:=by omega
   have r2:=hr.has h0
   have i2:=hr.idx true i hi
   have l2:=W5_ hr hi
   first|with_reducible refine ks [] (And.intro @xY_ @ln) ?_|refine kp (And.intro @xY_ @ln) ?_
   refine Cw.loopG (G:=Nat) [22,23,24,27,28,29,30,31,32,33,34,35,36,37,2,25,26,4] (fun g=> [(4,vi g)]) (fun g=> [(bx, .cells (jd_ c.tree p c.text).toArray 172 (0,0))]) (fun g=>g≤i∧((c.par.take g).any fun y=>(c.par.getD i id0).l==y.l)=false) (fun g=>i - g) 0 rfl rfl ?_ ?_
   ·exact⟨Nat.zero_le _,rfl⟩
   ·intro k jk hk
    refine kv ?_
    obtain⟨g1,g2⟩:=hk
    by_cases hk:k<i
    ·have i3:=hr.idx true k (show k<c.par.length by omega)
     have l3:=W5_ hr (show k<c.par.length by omega)
     first|with_reducible refine ks [] @xY_ ?_|refine kp @xY_ ?_
     refine Cw.regionS [bx,b] [0,2,5,7,1,3,4,6,8,9,10] [] (by kernel_rfl) (by kernel_rfl) (by kernel_rfl) ?_
     simp only[zl_, ↓zg_, ↓zc_, ↓zx_, ↓zw_,zd_]
     refine kq (And.intro @xY_ (And.intro @i2 (And.intro @r2 (And.intro @l2 (And.intro @i3 (@l3)))))) ?_
     cases hq: ((c.par.getD i id0).l==(c.par.getD k id0).l)
     ·first|with_reducible refine ks [] (And.intro @xY_ @hq) ?_|refine kp (And.intro @xY_ @hq) ?_
      exact Again.mk (k+1) (by omega) ⟨by omega,apd_ (by omega) g2 hq⟩ rfl rfl
     ·have e1:ZX_ c.par i=false:=by unfold ZX_;rw[ary_ (by omega) hk hq];rfl
      rw[ahS_ hi e1]
      first|with_reducible refine ks [] (And.intro @xY_ @hq) ?_|refine kp (And.intro @xY_ @hq) ?_
      refine⟨_,(ke @xY_),⟨hwx,trivial⟩, ?_⟩
      rfl
    ·obtain rfl:k=i:=by omega
     have e1:ZX_ c.par k=true:=by unfold ZX_;rw[g2];rfl
     first|with_reducible refine ks [] @xY_ ?_|refine kp @xY_ ?_
     exact Again.mk (k+1) (by omega) ⟨by omega,fun i hi=>by
      rcases Nat.lt_succ_iff_lt_or_eq.1 hi with h|rfl
      ·exact h2 i h
      ·exact e1⟩ rfl rfl
  ·obtain rfl:i=c.par.length:=by omega
   rw[adZ_ h2,show decide (c.par.length≤4)=true from decide_eq_true (by omega),show decide (c.text.length≤64)=true from decide_eq_true (by omega)]
   first|with_reducible refine ks [] (And.intro @xY_ @ln) ?_|refine kp (And.intro @xY_ @ln) ?_
   refine⟨_,(ke @xY_),⟨hwx,trivial⟩, ?_⟩
   rfl
end Go.Proofs
end
section
open Go Go.Proofs Go.Sx
namespace Go.Proofs
set_option maxRecDepth 10000
set_option maxHeartbeats 4000000
set_option linter.unusedSimpArgs false
theorem vG_ {n:Nat} (h:n<1099511627776):qK_ (n:Int)=n:=by unfold qK_ maxN;omega
theorem wQ_: ∀ (k:Nat) (n:Int) (w:World),qK_ n≤k→
  Rets Tryz.prog 184 #[vi n] w (fun v D=>v=vs (ZE_ (qK_ n))∧D= []):=by
 intro k
 induction k using Nat.strongRecOn with
 |ind k ih=>
  intro n w hk
  refine Rets.enterV Tryz.func184 rfl (rs:= [.tmp 2]) Tryz.results184 Tryz.ntmps184 ?_
  refine kf ?_
  by_cases h0:n<0
  ·have d1:decide (n<0)=true:=decide_eq_true h0
   have e:qK_ n=0:=by unfold qK_ maxN;omega
   rw[e]
   first|with_reducible refine ks [] @d1 ?_|refine kp @d1 ?_
   refine Ow.buildSlice (e:=5) #[v8 0] rfl rfl (by kernel_rfl) fun b1 hb1 hw1=> ?_
   rw[show(#[v8 0]:Array Value)=a8 [0] from rfl]
   refine ko @Nat.add_zero ?_
   first|with_reducible refine ks [] @Nat.add_zero ?_|refine kp @Nat.add_zero ?_
   refine⟨_,(ke @Nat.add_zero),⟨hw1,trivial⟩, ?_⟩
   rw[xb_ (by omega)];rfl
  ·have d1:decide (n<0)=false:=decide_eq_false h0
   generalize hm:qK_ n=m at hk ⊢
   have hm2:m≤1099511627775:=by unfold qK_ maxN at hm;omega
   by_cases h1:n>1099511627775
   ·have d2:decide (1099511627775<n)=true:=decide_eq_true h1
    have e: (1099511627775:Int)=(m:Int):=by unfold qK_ maxN at hm;omega
    first|with_reducible refine ks [5] (And.intro @d1 @d2) ?_|refine kp (And.intro @d1 @d2) ?_
    rw[e]
    by_cases h2:m<128
    ·have d3:decide ((m:Int)<128)=true:=decide_eq_true (by omega)
     rw[xb_ h2]
     first|with_reducible refine ks [] (And.intro @d1 @d3) ?_|refine kp (And.intro @d1 @d3) ?_
     generalize hc:UInt8.ofInt (m:Int)=c
     have hc':c=UInt8.ofNat m:=by rw[←hc,Zk_]
     refine Ow.buildSlice (e:=5) #[v8 c] rfl rfl (by kernel_rfl) fun b1 hb1 hw1=> ?_
     rw[show(#[v8 c]:Array Value)=a8 [c] from rfl]
     have e4:List.take 1 (List.drop 0 [c])= [c]:=rfl
     refine ko @e4 ?_
     first|with_reducible refine ks [] @Nat.add_zero ?_|refine kp @Nat.add_zero ?_
     refine⟨_,(ke @Nat.add_zero),⟨hw1,trivial⟩, ?_⟩
     rw[hc'];rfl
    ·have d3:decide ((m:Int)<128)=false:=decide_eq_false (by omega)
     have ih2:=fun w=>ih (m / 128) (by omega) ((m / 128:Nat):Int) w (by rw[vG_ (by omega)];omega)
     rw[vG_ (by omega)] at ih2
     have hl2:=kB_ 6 (m / 128) (by omega) (by omega)
     rw[v0_ h2]
     first|with_reducible refine ks [] (And.intro @d1 @d3) ?_|refine kp (And.intro @d1 @d3) ?_
     refine Cw.regionK 11 (by kernel_rfl) (by kernel_rfl) ?_
     refine OwK.run [0,1,2,3,6,7] [true,true,true,true,false,false,true,true,false,false,false] 5 rfl (by kernel_rfl) (by kernel_rfl) fun k hk=> ?_
     simp only[zl_, ↓zg_, ↓zc_, ↓zx_, ↓zw_,zd_]
     simp(disch:=(first|assumption|omega| (simp only[kK_,kw_,UInt64.reduceToNat];try omega))) only[↓Sx.S0,Sx.S1,Tryz.fx,Nat.reduceAdd,Nat.reducePow,Int.reducePow,Nat.reduceBEq, ↓reduceIte,UInt8.reduceToNat,UInt16.reduceToNat,UInt32.reduceToNat,UInt64.reduceToNat,Int.reduceToNat]
     (with_reducible refine hk _ _ _ ?_);clear hk k
     generalize hc:UInt8.ofInt ((m:Int)%128+128)=c
     have hc':c=UInt8.ofNat (m%128+128):=by rw[←hc,show((m:Int)%128+128)=((m%128+128:Nat):Int) from rfl,Zk_]
     rw[show(m:Int) / 128=((m / 128:Nat):Int) from rfl]
     refine OwK.two 4 8 _ _ (by kernel_rfl) rfl rfl ?_ ?_
     ·refine Ow.buildSlice (e:=5) #[v8 c] rfl rfl (by kernel_rfl) fun b1 hb1 hw1=> ?_
      rw[show(#[v8 c]:Array Value)=a8 [c] from rfl]
      have e4:List.take 1 (List.drop 0 [c])= [c]:=rfl
      refine ko @e4 ?_
      try with_reducible refine Ow.nil ?_
      refine OwK.two 5 8 _ _ (by kernel_rfl) rfl rfl ?_ ?_
      ·refine ko @e4 ?_
       refine OwK.rest [8,9,10] [4,8] rfl (by kernel_rfl) (by kernel_rfl) ?_
       simp only[zl_, ↓zg_, ↓zc_, ↓zx_, ↓zw_,zd_]
       refine Ow.callFV rfl Tryz.call184 (fun w' hw'=>ih2 w') ?_
       refine ko @Nat.add_zero ?_
       first|with_reducible refine ks [] @Nat.add_zero ?_|refine kp @Nat.add_zero ?_
       refine⟨_,(ke @Nat.add_zero),⟨hw1,trivial⟩, ?_⟩
       rw[hc'];rfl
      ·refine Ow.callFV rfl Tryz.call184 (fun w' hw'=>ih2 w') ?_
       refine ko @Nat.add_zero ?_
       refine OwK.rest [5,9,10] [4,8] rfl (by kernel_rfl) (by kernel_rfl) ?_
       simp only[zl_, ↓zg_, ↓zc_, ↓zx_, ↓zw_,zd_]
       refine ko @e4 ?_
       first|with_reducible refine ks [] @Nat.add_zero ?_|refine kp @Nat.add_zero ?_
       refine⟨_,(ke @Nat.add_zero),⟨hw1,trivial⟩, ?_⟩
       rw[hc'];rfl
     ·refine Ow.callFV rfl Tryz.call184 (fun w' hw'=>ih2 w') ?_
      refine ko @Nat.add_zero ?_
      refine OwK.rest [4,5,9,10] [4,8] rfl (by kernel_rfl) (by kernel_rfl) ?_
      simp only[zl_, ↓zg_, ↓zc_, ↓zx_, ↓zw_,zd_]
      refine Ow.buildSlice (e:=5) #[v8 c] rfl rfl (by kernel_rfl) fun b1 hb1 hw1=> ?_
      rw[show(#[v8 c]:Array Value)=a8 [c] from rfl]
      have e4:List.take 1 (List.drop 0 [c])= [c]:=rfl
      refine ko @e4 ?_
      first|with_reducible refine ks [] @Nat.add_zero ?_|refine kp @Nat.add_zero ?_
      refine⟨_,(ke @Nat.add_zero),⟨hw1,trivial⟩, ?_⟩
      rw[hc'];rfl
   ·have d2:decide (1099511627775<n)=false:=decide_eq_false h1
    have e:n=(m:Int):=by unfold qK_ maxN at hm;omega
    subst e
    first|with_reducible refine ks [5] (And.intro @d1 @d2) ?_|refine kp (And.intro @d1 @d2) ?_
    by_cases h2:m<128
    ·have d3:decide ((m:Int)<128)=true:=decide_eq_true (by omega)
     rw[xb_ h2]
     first|with_reducible refine ks [] (And.intro @d1 @d3) ?_|refine kp (And.intro @d1 @d3) ?_
     generalize hc:UInt8.ofInt (m:Int)=c
     have hc':c=UInt8.ofNat m:=by rw[←hc,Zk_]
     refine Ow.buildSlice (e:=5) #[v8 c] rfl rfl (by kernel_rfl) fun b1 hb1 hw1=> ?_
     rw[show(#[v8 c]:Array Value)=a8 [c] from rfl]
     have e4:List.take 1 (List.drop 0 [c])= [c]:=rfl
     refine ko @e4 ?_
     first|with_reducible refine ks [] @Nat.add_zero ?_|refine kp @Nat.add_zero ?_
     refine⟨_,(ke @Nat.add_zero),⟨hw1,trivial⟩, ?_⟩
     rw[hc'];rfl
    ·have d3:decide ((m:Int)<128)=false:=decide_eq_false (by omega)
     have ih2:=fun w=>ih (m / 128) (by omega) ((m / 128:Nat):Int) w (by rw[vG_ (by omega)];omega)
     rw[vG_ (by omega)] at ih2
     have hl2:=kB_ 6 (m / 128) (by omega) (by omega)
     rw[v0_ h2]
     first|with_reducible refine ks [] (And.intro @d1 @d3) ?_|refine kp (And.intro @d1 @d3) ?_
     refine Cw.regionK 11 (by kernel_rfl) (by kernel_rfl) ?_
     refine OwK.run [0,1,2,3,6,7] [true,true,true,true,false,false,true,true,false,false,false] 5 rfl (by kernel_rfl) (by kernel_rfl) fun k hk=> ?_
     simp only[zl_, ↓zg_, ↓zc_, ↓zx_, ↓zw_,zd_]
     simp(disch:=(first|assumption|omega| (simp only[kK_,kw_,UInt64.reduceToNat];try omega))) only[↓Sx.S0,Sx.S1,Tryz.fx,Nat.reduceAdd,Nat.reducePow,Int.reducePow,Nat.reduceBEq, ↓reduceIte,UInt8.reduceToNat,UInt16.reduceToNat,UInt32.reduceToNat,UInt64.reduceToNat,Int.reduceToNat]
     (with_reducible refine hk _ _ _ ?_);clear hk k
     generalize hc:UInt8.ofInt ((m:Int)%128+128)=c
     have hc':c=UInt8.ofNat (m%128+128):=by rw[←hc,show((m:Int)%128+128)=((m%128+128:Nat):Int) from rfl,Zk_]
     rw[show(m:Int) / 128=((m / 128:Nat):Int) from rfl]
     refine OwK.two 4 8 _ _ (by kernel_rfl) rfl rfl ?_ ?_
     ·refine Ow.buildSlice (e:=5) #[v8 c] rfl rfl (by kernel_rfl) fun b1 hb1 hw1=> ?_
      rw[show(#[v8 c]:Array Value)=a8 [c] from rfl]
      have e4:List.take 1 (List.drop 0 [c])= [c]:=rfl
      refine ko @e4 ?_
      try with_reducible refine Ow.nil ?_
      refine OwK.two 5 8 _ _ (by kernel_rfl) rfl rfl ?_ ?_
      ·refine ko @e4 ?_
       refine OwK.rest [8,9,10] [4,8] rfl (by kernel_rfl) (by kernel_rfl) ?_
       simp only[zl_, ↓zg_, ↓zc_, ↓zx_, ↓zw_,zd_]
       refine Ow.callFV rfl Tryz.call184 (fun w' hw'=>ih2 w') ?_
       refine ko @Nat.add_zero ?_
       first|with_reducible refine ks [] @Nat.add_zero ?_|refine kp @Nat.add_zero ?_
       refine⟨_,(ke @Nat.add_zero),⟨hw1,trivial⟩, ?_⟩
       rw[hc'];rfl
      ·refine Ow.callFV rfl Tryz.call184 (fun w' hw'=>ih2 w') ?_
       refine ko @Nat.add_zero ?_
       refine OwK.rest [5,9,10] [4,8] rfl (by kernel_rfl) (by kernel_rfl) ?_
       simp only[zl_, ↓zg_, ↓zc_, ↓zx_, ↓zw_,zd_]
       refine ko @e4 ?_
       first|with_reducible refine ks [] @Nat.add_zero ?_|refine kp @Nat.add_zero ?_
       refine⟨_,(ke @Nat.add_zero),⟨hw1,trivial⟩, ?_⟩
       rw[hc'];rfl
     ·refine Ow.callFV rfl Tryz.call184 (fun w' hw'=>ih2 w') ?_
      refine ko @Nat.add_zero ?_
      refine OwK.rest [4,5,9,10] [4,8] rfl (by kernel_rfl) (by kernel_rfl) ?_
      simp only[zl_, ↓zg_, ↓zc_, ↓zx_, ↓zw_,zd_]
      refine Ow.buildSlice (e:=5) #[v8 c] rfl rfl (by kernel_rfl) fun b1 hb1 hw1=> ?_
      rw[show(#[v8 c]:Array Value)=a8 [c] from rfl]
      have e4:List.take 1 (List.drop 0 [c])= [c]:=rfl
      refine ko @e4 ?_
      first|with_reducible refine ks [] @Nat.add_zero ?_|refine kp @Nat.add_zero ?_
      refine⟨_,(ke @Nat.add_zero),⟨hw1,trivial⟩, ?_⟩
      rw[hc'];rfl
theorem vf_ (s:List UInt8) (w:World) (hs:s.length<1099511627776):
  Rets Tryz.prog 154 #[vs s] w (fun v D=>v=vs (xg_ s)∧D= []):=by
 have hnl:=zP_ (s.length:Int)
 refine Rets.enterV Tryz.func154 rfl (rs:= [.tmp 2]) Tryz.results154 Tryz.ntmps154 ?_
 refine kf ?_
 first|with_reducible refine ks [] @Nat.add_zero ?_|refine kp @Nat.add_zero ?_
 refine Ow.callFV rfl Tryz.call184 (fun w' hw'=>wQ_ _ _ w' (Nat.le_refl _)) ?_
 refine ko @Nat.add_zero ?_
 first|with_reducible refine ks [] @Nat.add_zero ?_|refine kp @Nat.add_zero ?_
 refine⟨_,(ke @Nat.add_zero),trivial, ?_⟩
 rfl
theorem abD_ (x:IdL) (w:World):
  Rets Tryz.prog 185 #[.agg (a8 x.l)] w (fun v D=>v=vs x.l∧D= []):=by
 have hxl:=x.h
 refine Rets.enterV Tryz.func185 rfl (rs:= [.tmp 2]) Tryz.results185 Tryz.ntmps185 ?_
 refine kf ?_
 first|with_reducible refine ks [] @Nat.add_zero ?_|refine kp @Nat.add_zero ?_
 refine Ow.box rfl rfl fun bx hbx hwx=> ?_
 simp only[zY_,zV_,zX_,za_,List.nil_append,List.cons_append]
 refine Ow.go rfl ?_
 simp(disch:=(first|assumption|omega| (simp only[kK_,kw_,UInt64.reduceToNat];try omega))) only[↓Sx.S0,Sx.S1,Tryz.fx,Nat.reduceAdd,Nat.reducePow,Int.reducePow,Nat.reduceBEq, ↓reduceIte,UInt8.reduceToNat,UInt16.reduceToNat,UInt32.reduceToNat,UInt64.reduceToNat,Int.reduceToNat]
 have e4:List.take 32 (List.drop 0 x.l)=x.l:=by rw[List.drop_zero,List.take_of_length_le (by omega)]
 first|with_reducible refine ks [] @e4 ?_|refine kp @e4 ?_
 refine⟨_,(ke @Nat.add_zero),⟨hwx,trivial⟩, ?_⟩
 rfl
end Go.Proofs
end
section
open Go Go.Proofs Go.Sx Go.StP
namespace Go.Proofs
set_option maxRecDepth 10000
set_option maxHeartbeats 400000
set_option linter.unusedSimpArgs false
set_option linter.defProp false
def Ko_:=And.intro (And.intro (And.intro (@X7_) (@Vb_)) (And.intro (@Km_) (@QJ_))) (And.intro (And.intro (@kr_) (@kJ_)) (And.intro (@zp_) (@zo_)))
def entB (e:EntL):List UInt8:=(ZE_ (qK_ e.kind)++xg_ e.name)++e.id.l
def k5_ (l:List EntL):List UInt8:=(l.map entB).flatten
theorem WF_ {l:List EntL} {k:Nat} (hk:k<l.length):k5_ (l.take (k+1))=k5_ (l.take k)++entB (l.getD k jT_):=by
 unfold k5_
 rw[List.take_succ_eq_append_getElem hk,List.map_append,List.flatten_append,List.getD_eq_getElem?_getD,List.getElem?_eq_getElem hk]
 simp
theorem agt_ {l:List EntL} {k:Nat} (hk:k<l.length):k5_ (l.take (k+1))=k5_ (l.take k)++ZE_ (qK_ (l.getD k jT_).kind)++xg_ (l.getD k jT_).name++ (l.getD k jT_).id.l:=by
 rw[WF_ hk];simp only[entB,List.append_assoc]
theorem vw_ {s:List UInt8} (h:s.length<1099511627776): (xg_ s).length<1099511627783:=by
 have:=zP_ (s.length:Int)
 unfold xg_;rw[List.length_append];omega
theorem adv_ {l:List EntL} (hsh:acM_ l): ∀k,k≤l.length→(k5_ (l.take k)).length≤k*1099511627830
 |0,_=>by simp[k5_]
 |k+1,hk=>by
  have ih:=adv_ hsh k (by omega)
  have h1:=vw_ (hsh k hk)
  have h2:=zP_ (l.getD k jT_).kind
  have h3:=(l.getD k jT_).id.h
  rw[WF_ hk]
  unfold entB
  simp only[List.length_append]
  omega
theorem aav_ (v:Value) (l:List EntL) (w:World) (hv:EntS w v l) (hl:l.length<1000000) (hsh:acM_ l):
  Rets Tryz.prog 149 #[v] w (fun v' D=>v'=vs (k5_ l)∧D= []):=by
 obtain⟨b,off,arr,E,fz,hr⟩:=hv.row
 have ln:=hv.len
 refine Rets.enterV Tryz.func149 rfl (rs:= [.tmp 2]) Tryz.results149 Tryz.ntmps149 ?_
 refine kf ?_
 first|with_reducible refine ks [] (And.intro @Ko_ @ln) ?_|refine kp (And.intro @Ko_ @ln) ?_
 refine Cw.loopG (G:=Nat) [5,6,7,8,11,12,13,14,15,16,17,18,19,20,21,22,23,24,25,26,27,28,29,30,31,32,3,9,10,4] (fun g=> [(3,vs (k5_ (l.take g))),(4,vi g)]) (fun g=> []) (fun g=>g≤l.length) (fun g=>l.length - g) 0 rfl rfl ?_ ?_
 ·exact Nat.zero_le _
 ·intro k jk hk
  refine kv ?_
  have h1:k≤l.length:=hk
  clear hk
  by_cases hk:k<l.length
  ·have h0:0<l.length:=by omega
   have hbl:=hr.lt h0
   have r2:=hr.has h0
   have i2:=hr.idx true k hk
   have m0: ∀n,zt_ (some (false,n)) (some (.cells arr E fz)) (off+k*34)=some (vs (l.getD k jT_).name):=fun n=>QF_ hr hk n
   have m1: ∀n,zt_ (some (false,n)) (some (.cells arr E fz)) (off+k*34+1)=some (vi (l.getD k jT_).kind):=fun n=>aif_ hr hk n
   have m2:zt_ (some (true,32)) (some (.cells arr E fz)) (off+k*34+2)=some (.agg (a8 (l.getD k jT_).id.l)):=aod_ hr hk
   have hs:=hsh k hk
   have t1:=adv_ hsh k h1
   have t2:=vw_ hs
   have t3:=zP_ (l.getD k jT_).kind
   have t4:=(l.getD k jT_).id.h
   first|with_reducible refine ks [] (And.intro @Ko_ @ln) ?_|refine kp (And.intro @Ko_ @ln) ?_
   refine Cw.regionS [b] [0,1,2,3,4,8,9,10,11,15,16,17,18,5,12,19,6,7,13,14,20,21,22] [] (by kernel_rfl) (by kernel_rfl) (by kernel_rfl) ?_
   simp only[zl_, ↓zg_, ↓zc_, ↓zx_, ↓zw_,zd_]
   refine kq (And.intro @Ko_ (And.intro @r2 (And.intro @i2 (And.intro @m0 (And.intro @m1 (@m2)))))) ?_
   refine Ow.callFV rfl Tryz.call184 (fun w' hw'=>wQ_ _ _ w' (Nat.le_refl _)) ?_
   refine kq (And.intro @Ko_ (And.intro @r2 (And.intro @i2 (And.intro @m0 (And.intro @m1 (@m2)))))) ?_
   refine Ow.callFV rfl Tryz.call154 (fun w' hw'=>vf_ _ w' hs) ?_
   refine kq (And.intro @Ko_ (And.intro @r2 (And.intro @i2 (And.intro @m0 (And.intro @m1 (@m2)))))) ?_
   refine Ow.callFV rfl Tryz.call185 (fun w' hw'=>abD_ _ w') ?_
   refine kq (And.intro @Ko_ (And.intro @r2 (And.intro @i2 (And.intro @m0 (And.intro @m1 (@m2)))))) ?_
   exact Again.mk (k+1) (by omega) (by omega) rfl (by rw[agt_ hk];rfl)
  ·obtain rfl:k=l.length:=by omega
   first|with_reducible refine ks [] (And.intro @Ko_ @ln) ?_|refine kp (And.intro @Ko_ @ln) ?_
   refine⟨_,(ke @Ko_),trivial, ?_⟩
   rw[List.take_length];rfl
def idsB (l:List IdL):List UInt8:=(l.map IdL.l).flatten
theorem akF_ {l:List IdL} {k:Nat} (hk:k<l.length):idsB (l.take (k+1))=idsB (l.take k)++ (l.getD k id0).l:=by
 unfold idsB
 rw[List.take_succ_eq_append_getElem hk,List.map_append,List.flatten_append,List.getD_eq_getElem?_getD,List.getElem?_eq_getElem hk]
 simp
theorem ahn_: ∀ (l:List IdL),(idsB l).length=l.length*32
 | []=>rfl
 |x::r=>by
  have h:=ahn_ r
  have:=x.h
  unfold idsB at h ⊢
  rw[List.map_cons,List.flatten_cons,List.length_append,h,List.length_cons]
  omega
def ae9_ (c:ComL):List UInt8:=c.tree.l++ZE_ (qK_ c.par.length)
def comB (c:ComL):List UInt8:=ae9_ c++idsB c.par++xg_ c.text
set_option linter.defProp false
def Z4_:=And.intro (And.intro (And.intro (@ang_) (@aox_)) (And.intro (@xt_) (And.intro (@zp_) (@zo_)))) (And.intro (And.intro (@QS_) (@QV_)) (And.intro (@Q9_) (And.intro (@Xs_) (@vs_))))
theorem K9_ (v:Value) (c:ComL) (w:World) (hv:ComS w v c) (hl:c.par.length<1000000) (ht:c.text.length<1099511627776):
  Rets Tryz.prog 151 #[v] w (fun v' D=>v'=vs (comB c)∧D= []):=by
 obtain⟨p,rfl,hp⟩:=hv
 obtain⟨b,off,arr,E,fz,hr⟩:=hp.row
 have ln:=hp.len
 have t2:=vw_ ht
 have t3:=zP_ (c.par.length:Int)
 have t4:=c.tree.h
 have t5: (ae9_ c).length≤38:=by unfold ae9_;rw[List.length_append];omega
 refine Rets.enterV Tryz.func151 rfl (rs:= [.tmp 2]) Tryz.results151 Tryz.ntmps151 ?_
 refine kf ?_
 first|with_reducible refine ks [] @Z4_ ?_|refine kp @Z4_ ?_
 refine Ow.box rfl rfl fun bx hbx hwx=> ?_
 simp only[zY_,zV_,zX_,za_,List.nil_append,List.cons_append]
 refine Ow.go rfl ?_
 simp(disch:=(first|assumption|omega| (simp only[kK_,kw_,UInt64.reduceToNat];try omega))) only[↓Sx.S0,Sx.S1,Tryz.fx,Z4_,Nat.reduceAdd,Nat.reducePow,Int.reducePow,Nat.reduceBEq, ↓reduceIte,UInt8.reduceToNat,UInt16.reduceToNat,UInt32.reduceToNat,UInt64.reduceToNat,Int.reduceToNat]
 first|with_reducible refine ks [] (And.intro @Z4_ @ln) ?_|refine kp (And.intro @Z4_ @ln) ?_
 refine Cw.regionS [bx] [0,3,1,4,5,2,6,7,8] [] (by kernel_rfl) (by kernel_rfl) (by kernel_rfl) ?_
 simp only[zl_, ↓zg_, ↓zc_, ↓zx_, ↓zw_,zd_]
 refine kq (And.intro @Z4_ @ln) ?_
 refine Ow.callFV rfl Tryz.call185 (fun w' hw'=>abD_ _ w') ?_
 refine kq (And.intro @Z4_ @ln) ?_
 refine Ow.callFV rfl Tryz.call184 (fun w' hw'=>wQ_ _ _ w' (Nat.le_refl _)) ?_
 refine kq (And.intro @Z4_ @ln) ?_
 rw[show c.tree.l++ZE_ (qK_ c.par.length)=ae9_ c++idsB (c.par.take 0) by simp[ae9_,idsB]]
 refine Cw.loopG (G:=Nat) [13,14,15,16,17,20,21,22,23,24,25,26,27,3,18,19,4] (fun g=> [(3,vs (ae9_ c++idsB (c.par.take g))),(4,vi g)]) (fun g=> [(bx, .cells (jd_ c.tree p c.text).toArray 172 (0,0))]) (fun g=>g≤c.par.length) (fun g=>c.par.length - g) 0 rfl rfl ?_ ?_
 ·exact Nat.zero_le _
 ·intro k jk hk
  refine kv ?_
  have h1:k≤c.par.length:=hk
  clear hk
  have t6:=ahn_ (c.par.take k)
  rw[List.length_take,Nat.min_eq_left h1] at t6
  by_cases hk:k<c.par.length
  ·have h0:0<c.par.length:=by omega
   have hbl:=hr.lt h0
   have hnb:bx≠b:=by omega
   have r2:=hr.has h0
   have i2:=hr.idx true k hk
   have l2:=W5_ hr hk
   have hxl:=(c.par.getD k id0).h
   first|with_reducible refine ks [] (And.intro @Z4_ (And.intro @ln (And.intro @r2 (And.intro @i2 (@l2))))) ?_|refine kp (And.intro @Z4_ (And.intro @ln (And.intro @r2 (And.intro @i2 (@l2))))) ?_
   refine Ow.callFV rfl Tryz.call185 (fun w' hw'=>abD_ _ w') ?_
   refine ko (And.intro @Z4_ (And.intro @ln (And.intro @r2 (And.intro @i2 (@l2))))) ?_
   exact Again.mk (k+1) (by omega) (by omega) rfl (by rw[akF_ hk,←List.append_assoc];rfl)
  ·obtain rfl:k=c.par.length:=by omega
   rw[List.take_length]
   rw[List.take_length] at t6
   first|with_reducible refine ks [] (And.intro @Z4_ @ln) ?_|refine kp (And.intro @Z4_ @ln) ?_
   refine Ow.callFV rfl Tryz.call154 (fun w' hw'=>vf_ _ w' ht) ?_
   refine ko @Z4_ ?_
   refine⟨_,(ke @Z4_),⟨hwx,trivial⟩, ?_⟩
   rfl
end Go.Proofs
end
section
open Go Go.Proofs Go.Sx Go.StP
namespace Go.Proofs
set_option maxRecDepth 10000
set_option maxHeartbeats 400000
set_option linter.unusedSimpArgs false
instance:DecidableEq EntL:=fun a b=>if h:a.name=b.name∧a.kind=b.kind∧a.id.l=b.id.l then .isTrue (by cases a;cases b;simp only at h;obtain⟨rfl,rfl,h3⟩:=h;rw[IdL.ext' h3]) else .isFalse (fun e=>h (by rw[e];exact⟨rfl,rfl,rfl⟩))
theorem EntL.ext' {a b:EntL} (h: (a.name==b.name&&a.kind==b.kind&&a.id.l==b.id.l)=true):a=b:=by
 simp only[Bool.and_eq_true,beq_iff_eq] at h
 cases a;cases b;simp only at h;obtain⟨⟨rfl,rfl⟩,h3⟩:=h;rw[IdL.ext' h3]
set_option linter.defProp false
end Go.Proofs
end
section
open Go Go.Proofs Go.Sx Go.StP
namespace Go.Proofs
set_option maxRecDepth 10000
set_option maxHeartbeats 400000
set_option linter.unusedSimpArgs false
set_option linter.defProp false
end Go.Proofs
end
section
open Go Go.Proofs Go.Sx Go.StP
namespace Go.Proofs
set_option maxRecDepth 10000
set_option maxHeartbeats 400000
set_option linter.unusedSimpArgs false
def ZC_ (l:List UInt8):IdL:=if h:l.length=32 then⟨l,h⟩ else id0
theorem vY_ {l:List UInt8} (h:l.length=32): (ZC_ l).l=l:=by unfold ZC_;rw[dif_pos h]
theorem Qe_ (s:List UInt8) (a:Nat) (e:Int): (idR s a e).1.length=32:=by
 unfold idR
 simp only
 split
 ·assumption
 ·simp[z32]
theorem WR_ {s:List UInt8} {a:Nat} {e:Int} (ha:a≤s.length):a≤ (idR s a e).2.1∧(idR s a e).2.1≤s.length:=Ju_ ha
theorem kh_ {s:List UInt8} {a:Nat} {e most:Int} (ha:a≤s.length):a≤ (zL_ s a e most).2.1∧(zL_ s a e most).2.1≤s.length:=by
 have hp:=qO_ (e:=e) (most:=most) ha
 have hq:=Ju_ (e:=(zD_ s a e most).2.2) (n:=(zD_ s a e most).1) hp.2
 unfold zL_
 simp only
 split
 ·exact⟨Nat.le_refl _,ha⟩
 ·exact⟨by omega,hq.2⟩
theorem Qp_ (s:List UInt8) (a:Nat) (e most:Int): (zL_ s a e most).1.length≤s.length:=by
 have: ∀ (b:Nat) (e n:Int),(jw_ s b e n).1.length≤s.length:=by
  intro b e n
  unfold jw_
  split
  ·simp
  ·split
   ·simp
   ·split
    ·simp
    ·simp only[List.length_take,List.length_drop];omega
 unfold zL_
 simp only
 split
 ·simp
 ·exact this _ _ _
theorem ahZ_ {s:List UInt8} {a:Nat} {e n:Int} (he:e≠0): (jw_ s a e n).2=(a,e):=by unfold jw_;rw[if_pos he]
theorem amW_ {s:List UInt8} {a:Nat} {e most:Int} (he:e≠0): (zD_ s a e most).2=(a,e):=by unfold zD_;rw[if_pos he]
theorem abf_ {s:List UInt8} {a:Nat} {e most:Int} (he:e≠0): (zL_ s a e most).2=(a,e):=by
 unfold zL_
 simp only[amW_ he,ahZ_ he]
 rw[if_pos he]
theorem all_ {s:List UInt8} {a:Nat} {e:Int} (he:e≠0): (idR s a e).2=(a,e):=by unfold idR;simp only[ahZ_ he]
theorem amw_ {s:List UInt8} {a:Nat} {e n:Int} (h:e≠5): (jw_ s a e n).2.2≠5:=by
 unfold jw_
 split
 ·exact h
 ·split
  ·show(2:Int)≠5;decide
  ·split
   ·show(3:Int)≠5;decide
   ·show(0:Int)≠5;decide
theorem aqy_ (most:Int): ∀ (l:List UInt8) (k n x:Nat),z5_ most l k n= .error x→x≠5:=by
 intro l
 induction l with
 |nil=>intro k n x h;unfold z5_ at h;cases h;decide
 |cons c r ih=>
  intro k n x h
  unfold z5_ at h
  split at h
  ·split at h
   ·cases h;decide
   ·exact ih _ _ _ h
  ·split at h
   ·cases h;decide
   ·split at h
    ·cases h
    ·cases h;decide
theorem alZ_ (most:Int): ∀ (l:List UInt8) (k n:Nat),z5_ most l k n≠ .error 0:=by
 intro l
 induction l with
 |nil=>intro k n h;unfold z5_ at h;cases h
 |cons c r ih=>
  intro k n h
  unfold z5_ at h
  split at h
  ·split at h
   ·cases h
   ·exact ih _ _ h
  ·split at h
   ·cases h
   ·split at h
    ·cases h
    ·cases h
theorem akr_ {s:List UInt8} {a:Nat} {e most:Int} (h:e≠5): (zD_ s a e most).2.2≠5:=by
 unfold zD_
 split
 ·exact h
 ·split
  ·show(0:Int)≠5;decide
  ·rename_i x hx
   have:=aqy_ _ _ _ _ _ hx
   show((x:Nat):Int)≠5
   omega
theorem aqC_ {s:List UInt8} {a:Nat} {e most:Int} (h:e≠5): (zL_ s a e most).2.2≠5:=by
 unfold zL_
 simp only
 split
 ·exact amw_ (akr_ h)
 ·exact amw_ (akr_ h)
theorem auk_ {s:List UInt8} {a:Nat} {e:Int} (h:e≠5): (idR s a e).2.2≠5:=by unfold idR;exact amw_ h
theorem alW_ {s:List UInt8} {a:Nat} {e most:Int} (h: (zD_ s a e most).2.2=0):a< (zD_ s a e most).2.1:=by
 unfold zD_ at h ⊢
 split
 ·rename_i he
  rw[if_pos he] at h
  exact absurd h he
 ·rename_i he
  rw[if_neg he] at h
  split
  ·rename_i n k hk
   have:=aaW_ _ _ _ _ _ _ hk
   show a<a+k
   omega
  ·rename_i x hx
   rw[hx] at h
   exfalso
   have:x=0:=by have: ((x:Nat):Int)=0:=h;omega
   subst this
   exact alZ_ _ _ _ _ hx
def Vq_ (s:List UInt8) (a:Nat) (e:Int):EntL×Nat×Int:=
 let p:=zD_ s a e 2
 let q:=zL_ s p.2.1 p.2.2 32
 let i:=idR s q.2.1 q.2.2
 (⟨q.1,p.1,ZC_ i.1⟩,i.2)
theorem agg_ {s:List UInt8} {a:Nat} {e:Int} (ha:a≤s.length):a≤ (Vq_ s a e).2.1∧(Vq_ s a e).2.1≤s.length:=by
 have h1:=qO_ (e:=e) (most:=2) ha
 have h2:=kh_ (e:=(zD_ s a e 2).2.2) (most:=32) h1.2
 have h3:=WR_ (e:=(zL_ s (zD_ s a e 2).2.1 (zD_ s a e 2).2.2 32).2.2) h2.2
 unfold Vq_
 exact⟨by simp only;omega,h3.2⟩
theorem asT_ {s:List UInt8} {a:Nat} {e:Int} (h:e≠5): (Vq_ s a e).2.2≠5:=auk_ (aqC_ (akr_ h))
theorem akt_ {s:List UInt8} {a:Nat} {e:Int} (ha:a≤s.length) (h: (Vq_ s a e).2.2=0):a< (Vq_ s a e).2.1:=by
 have h1:=qO_ (e:=e) (most:=2) ha
 have h2:=kh_ (e:=(zD_ s a e 2).2.2) (most:=32) h1.2
 have h3:=WR_ (e:=(zL_ s (zD_ s a e 2).2.1 (zD_ s a e 2).2.2 32).2.2) h2.2
 unfold Vq_ at h ⊢
 simp only at h ⊢
 have e2: (zL_ s (zD_ s a e 2).2.1 (zD_ s a e 2).2.2 32).2.2=0:=Decidable.byContradiction fun hn=>by rw[all_ hn] at h;exact hn h
 have e1: (zD_ s a e 2).2.2=0:=Decidable.byContradiction fun hn=>by rw[abf_ hn] at e2;exact hn e2
 have:=alW_ e1
 omega
def kU_ (s:List UInt8):Nat→Nat→Int→List EntL→List EntL×Nat×Int
 |0,a,e,l=>(l,a,e)
 |n+1,a,e,l=>if e=0∧a<s.length then kU_ s n (Vq_ s a e).2.1 (Vq_ s a e).2.2 (l++ [(Vq_ s a e).1]) else(l,a,e)
theorem X9_ {s:List UInt8} {n a:Nat} {e:Int} {l:List EntL} (h:e=0∧a<s.length):kU_ s (n+1) a e l=kU_ s n (Vq_ s a e).2.1 (Vq_ s a e).2.2 (l++ [(Vq_ s a e).1]):=by rw[kU_,if_pos h]
theorem Jn_ {s:List UInt8} {n a:Nat} {e:Int} {l:List EntL} (h: ¬ (e=0∧a<s.length)):kU_ s n a e l=(l,a,e):=by
 cases n with
 |zero=>rfl
 |succ n=>rw[kU_,if_neg h]
def j6_ (s:List UInt8):List EntL×Nat×Int:=kU_ s (s.length+1) 0 0 []
structure EntsJ (s:List UInt8) (n a:Nat) (e:Int) (l:List EntL):Prop where
 go:j6_ s=kU_ s n a e l
 le:a≤s.length
 five:e≠5
 fuel:e=0→s.length<a+n
 cnt:l.length+n=s.length+1
 short: ∀i,i<l.length→(l.getD i jT_).name.length≤s.length
theorem EntsJ.init (s:List UInt8):EntsJ s (s.length+1) 0 0 []:=⟨rfl,Nat.zero_le _,by decide,fun _=>by omega,by simp,fun i hi=>by simp at hi⟩
theorem EntsJ.next {s:List UInt8} {n a:Nat} {e:Int} {l:List EntL} (h:EntsJ s n a e l) (hc:e=0∧a<s.length): ∃m,n=m+1∧EntsJ s m (Vq_ s a e).2.1 (Vq_ s a e).2.2 (l++ [(Vq_ s a e).1]):=by
 have:=h.fuel hc.1
 obtain⟨m,rfl⟩: ∃m,n=m+1:=⟨n - 1,by omega⟩
 refine⟨m,rfl,h.go.trans (X9_ hc),(agg_ h.le).2,asT_ h.five,fun h0=> ?_, ?_,fun i hi=> ?_⟩
 ·have:=akt_ h.le h0;omega
 ·have:=h.cnt;simp only[List.length_append,List.length_cons,List.length_nil];omega
 ·by_cases hlt:i<l.length
  ·rw[W3_ hlt];exact h.short i hlt
  ·have:i=l.length:=by simp only[List.length_append,List.length_cons,List.length_nil] at hi;omega
   subst this
   rw[WG_ (Nat.le_refl _),Nat.sub_self]
   exact Qp_ _ _ _ _
theorem EntsJ.done {s:List UInt8} {n a:Nat} {e:Int} {l:List EntL} (h:EntsJ s n a e l) (hc: ¬ (e=0∧a<s.length)):j6_ s=(l,a,e):=h.go.trans (Jn_ hc)
theorem EntsJ.sh {s:List UInt8} {n a:Nat} {e:Int} {l:List EntL} (h:EntsJ s n a e l) (hs:s.length<1000000):acM_ l:=fun i hi=>by have:=h.short i hi;omega
end Go.Proofs
end
section
open Go Go.Proofs Go.Sx Go.StP
namespace Go.Proofs
set_option maxRecDepth 10000
set_option maxHeartbeats 400000
set_option linter.unusedSimpArgs false
theorem aeG_:q5_ (vc_ Tryz.prog 221) (zM_ Tryz.prog 221) []=some (.agg (jq_ jT_).toArray):=by
 rw[show vc_ Tryz.prog 221=some [(0,1),(1,1),(2,32)] from id (by kernel_rfl),aaK_];rfl
theorem akR_ (s:List UInt8):q5_ (vc_ Tryz.prog 217) (zM_ Tryz.prog 217) [(0,vs s)]=some (.agg #[vs s,vi 0,vi 0]):=by
 have hp:vc_ Tryz.prog 217=some [(0,1),(1,1),(2,1)]:=id (by kernel_rfl)
 have hz:zM_ Tryz.prog 217=some (.agg #[vs [],vi 0,vi 0]):=id (by kernel_rfl)
 rw[hp,hz];rfl
def aeK_ (s:List UInt8):Option (List EntL):=if(j6_ s).2.2=0∧kv_ (j6_ s).1=true∧k5_ (j6_ s).1=s then some (j6_ s).1 else none
def alE_ (s:List UInt8) (v:Value) (D:zb_):Prop:=
 match aeK_ s with
 |some l=> ∃v1,v= .tuple #[v1, .bool true]∧Gr D 221 34 v1 l.length (l.map jq_).flatten
 |none=>v= .tuple #[.slice none 0 0, .bool false]
structure EnG where
 n:Nat
 a:Nat
 e:Int
 l:List EntL
 v:Value
 D:zb_
set_option linter.defProp false
def ja_:=And.intro (And.intro (And.intro (@kb_) (And.intro (@ke_) (@kk_))) (And.intro (@xo_) (And.intro (@xy_) (@QJ_)))) (And.intro (And.intro (@Wu_) (And.intro (@Wg_) (@WZ_))) (And.intro (And.intro (@kr_) (@kJ_)) (And.intro (@zp_) (@zo_))))
theorem abt_ (s:List UInt8) (w:World) (hs:s.length<100000):
  Rets Tryz.prog 108 #[vs s] w (XS w [] (alE_ s)):=by
 refine Rets.enterX Tryz.func108 rfl (rs:= [.tmp 2, .tmp 3]) Tryz.results108 Tryz.ntmps108 (fun p hp=>by cases hp) (by simp[keys]) ?_
 refine kf ?_
 first|with_reducible refine ks [] @ja_ ?_|refine kp @ja_ ?_
 refine Ow.build ((.agg #[vs s,vi 0,vi 0])) rfl (by kernel_rfl) ?_
 refine ko @ja_ ?_
 refine Ow.box rfl rfl fun br hbr hwr=> ?_
 simp only[zY_,zV_,zX_,za_,List.nil_append]
 refine ko @ja_ ?_
 refine Cw.loopG (G:=EnG) [10,11,12,13,14,15,16,17,18,19,20,21,22,23,24,6,25,26,27,28,29,30,31,32,33,34,35,36,37,5] (fun q=> [(5,q.v)]) (fun q=>(br, .cells #[vs s,vi q.a,vi q.e] 217 (0,0))::q.D) (fun q=>EntsJ s q.n q.a q.e q.l∧New (br+1) q.D∧Gr q.D 221 34 q.v q.l.length (q.l.map jq_).flatten) (fun q=>q.n) ⟨s.length+1,0,0,[], .slice none 0 0,[]⟩ rfl rfl ?_ ?_
 ·exact⟨EntsJ.init s,trivial,Gr.nl⟩
 ·intro q jq hq
  refine kv ?_
  obtain⟨n,a,e,l,v,D⟩:=q
  simp only at hq ⊢
  obtain⟨hJ,hN,hG⟩:=hq
  have hle:=hJ.le
  by_cases hc:e=0∧a<s.length
  ·obtain⟨m,rfl,hJ'⟩:=hJ.next hc
   obtain⟨he,hlt⟩:=hc
   have d1: (e==0)=true:=by simp[he]
   have d2:decide ((a:Int)< (s.length:Int))=true:=decide_eq_true (by omega)
   have hp:=qO_ (e:=e) (most:=2) hle
   have hq:=kh_ (e:=(zD_ s a e 2).2.2) (most:=32) hp.2
   have heq:Vq_ s a e=(⟨(zL_ s (zD_ s a e 2).2.1 (zD_ s a e 2).2.2 32).1,(zD_ s a e 2).1,ZC_ (idR s (zL_ s (zD_ s a e 2).2.1 (zD_ s a e 2).2.2 32).2.1 (zL_ s (zD_ s a e 2).2.1 (zD_ s a e 2).2.2 32).2.2).1⟩,(idR s (zL_ s (zD_ s a e 2).2.1 (zD_ s a e 2).2.2 32).2.1 (zL_ s (zD_ s a e 2).2.1 (zD_ s a e 2).2.2 32).2.2).2):=rfl
   have hil:=Qe_ s (zL_ s (zD_ s a e 2).2.1 (zD_ s a e 2).2.2 32).2.1 (zL_ s (zD_ s a e 2).2.1 (zD_ s a e 2).2.2 32).2.2
   first|with_reducible refine ks [] (And.intro @ja_ (And.intro @d1 (@d2))) ?_|refine kp (And.intro @ja_ (And.intro @d1 (@d2))) ?_
   refine Ow.build (.agg (jq_ jT_).toArray) rfl aeG_ ?_
   refine ko @ja_ ?_
   refine Ow.alloc rfl rfl aaK_ fun b6 hb6 hw6=> ?_
   simp only[za_,List.nil_append,List.cons_append]
   have hr6:br<b6:=zi_ hb6 (by simp[keys])
   refine Ow.permL (M:=(b6,Obj.cells (jq_ jT_).toArray 221 (0,0)):: (br, .cells #[vs s,vi a,vi e] 217 (0,0))::D) (by classical exact List.perm_iff_count.2 fun a=>by simp only[List.count_append,List.count_cons,List.count_nil]<;>omega) ?_
   refine ko @ja_ ?_
   refine Ow.callM rfl rfl Tryz.call146 (by simp[keys]) (fun w' hw'=>xP_ br s a e 2 w' hle (by omega) (hw'.has _ _ (List.mem_cons_of_mem _ List.mem_cons_self))) ?_
   generalize zD_ s a e 2=p at*
   obtain⟨kd,a1,e1⟩:=p
   simp only at hp hq heq hil ⊢
   refine kn ?_
   refine ko @ja_ ?_
   first|with_reducible refine ks [] @ja_ ?_|refine kp @ja_ ?_
   refine Ow.callM rfl rfl Tryz.call144 (by simp[keys]) (fun w' hw'=>kZ_ br s a1 e1 32 w' hp.2 (by omega) (hw'.has _ _ (List.mem_cons_of_mem _ List.mem_cons_self))) ?_
   generalize zL_ s a1 e1 32=q at*
   obtain⟨tt,a2,e2⟩:=q
   simp only at hq heq hil ⊢
   refine kn ?_
   refine ko @ja_ ?_
   first|with_reducible refine ks [] @ja_ ?_|refine kp @ja_ ?_
   refine Ow.callM rfl rfl Tryz.call147 (by simp[keys]) (fun w' hw'=>JN_ br s a2 e2 w' hq.2 (by omega) (hw'.has _ _ (List.mem_cons_of_mem _ List.mem_cons_self))) ?_
   generalize idR s a2 e2=i at*
   obtain⟨il,a3,e3⟩:=i
   simp only at heq hil ⊢
   obtain⟨I,hI⟩: ∃I,ZC_ il=I:=⟨_,rfl⟩
   have hiI:il=I.l:=by rw[←hI,vY_ hil]
   rw[hI] at heq
   rw[hiI]
   refine kn ?_
   refine ko @ja_ ?_
   generalize hx: ({name:=tt,kind:=kd,id:=I}:EntL)=x
   rw[hx] at heq
   rw[heq] at hJ'
   refine Ow.buildSlice (e:=221) (jq_ x).toArray rfl rfl (qA_ Tryz.underlying168 ahl_ aaK_ (by decide) (jr_ x)) fun b13 hb13 hw13=> ?_
   have hr13:br<b13:=zi_ hb13 (by simp[keys])
   refine Ow.permL (M:=D++ ((b6,Obj.cells (jq_ x).toArray 221 (0,0)):: (br, .cells #[vs s,vi a3,vi e3] 217 (0,0)):: [(b13,Obj.cells (jq_ x).toArray 221 (0,0))])) (by classical exact List.perm_iff_count.2 fun a=>by simp only[List.count_append,List.count_cons,List.count_nil]<;>omega) ?_
   refine ko @ja_ ?_
   refine Ow.appendX (e:=221) (k:=1) (new:=jq_ x) (X:=D) v rfl rfl rfl rfl Tryz.underlying168 ahl_ (by kernel_rfl) aaK_ (by rw[kJ_,List.size_toArray,jr_]) Tryz.underlying168 (by intro k h;cases h) hG (fun w' hw'=>AppX.one1 (hw'.has b13 (.cells (jq_ x).toArray 221 (0,0)) (by simp)) (jr_ _) (aaO_ _)) (by omega) (by have:=hJ.cnt;omega) (fun B v4 D4 hA4 hB4 hbuf hk1 hk2 hlk=> ?_)
   have hB13:b13<B:=zi_ hA4 (by simp[zj_,keys])
   have hN4:New (br+1) D4:=New.of_le fun q hq=>by
    rcases hk2 q hq with h|h
    ·exact hN.le q h
    ·omega
   refine Ow.permL (M:=(br, .cells #[vs s,vi a3,vi e3] 217 (0,0)):: (D4++ [(b6,Obj.cells (jq_ x).toArray 221 (0,0)),(b13,Obj.cells (jq_ x).toArray 221 (0,0))])) (by classical exact List.perm_iff_count.2 fun a=>by simp only[List.count_append,List.count_cons,List.count_nil]<;>omega) ?_
   refine ko @ja_ ?_
   refine Again.mk (EnG.mk m a3 e3 (l++ [x]) v4 (D4++ [(b6,Obj.cells (jq_ x).toArray 221 (0,0)),(b13,Obj.cells (jq_ x).toArray 221 (0,0))])) (by show m<m+1;omega) ⟨hJ',hN4.app ⟨by omega,by omega,trivial⟩, ?_⟩ rfl rfl
   show Gr _ _ _ _ (l++ [x]).length ((l++ [x]).map jq_).flatten
   rw[List.length_append,List.map_append,List.flatten_append,show([x].map jq_).flatten=jq_ x by simp]
   exact Gr.app (.inl hbuf)
  ·have hd:=hJ.done hc
   have hsh:=hJ.sh (by omega)
   have hcn:=hJ.cnt
   have hR:aeK_ s=if e=0∧kv_ l=true∧k5_ l=s then some l else none:=by unfold aeK_;rw[hd]
   unfold alE_
   rw[hR]
   have hNe:New w.heap.size ((br,Obj.cells #[vs s,vi a,vi e] 217 (0,0))::D):=⟨hwr,New.mono (by omega) hN⟩
   by_cases he:e=0
   ·have d1: (e==0)=true:=by simp[he]
    have d2:decide ((a:Int)< (s.length:Int))=false:=decide_eq_false (by omega)
    have hend: (if e≠0 then e else if(a:Int)< (s.length:Int) then 5 else 0)=(0:Int):=by rw[if_neg (by simp[he]),if_neg (by omega)]
    first|with_reducible refine ks [] (And.intro @ja_ (And.intro @d1 (@d2))) ?_|refine kp (And.intro @ja_ (And.intro @d1 (@d2))) ?_
    refine Ow.callFV rfl Tryz.call145 (fun w' hw'=>v5_ br s a e w' (hw'.has _ _ (by simp))) ?_
    rw[hend]
    have d4: ((0:Int) !=0)=false:=rfl
    refine ko (And.intro @ja_ @d4) ?_
    refine Ow.callFV rfl Tryz.call148 (fun w' hw'=>V1_ v l w' (hG.slM (fun b o hm=>hw'.has b o (by simp[hm])) rfl rfl jr_) (by omega) hsh) ?_
    cases hr:kv_ l
    ·rw[if_neg (by simp)]
     refine ko @ja_ ?_
     first|with_reducible refine ks [] @ja_ ?_|refine kp @ja_ ?_
     refine⟨_,(ke @ja_), ?_⟩
     exact⟨Ext.of_new hNe,rfl⟩
    ·refine ko @ja_ ?_
     refine Ow.callFV rfl Tryz.call149 (fun w' hw'=>aav_ v l w' (hG.slM (fun b o hm=>hw'.has b o (by simp[hm])) rfl rfl jr_) (by omega) hsh) ?_
     by_cases hb:k5_ l=s
     ·have d3: (k5_ l !=s)=false:=by simp[hb]
      rw[if_pos ⟨he,rfl,hb⟩]
      refine ko (And.intro @ja_ @d3) ?_
      first|with_reducible refine ks [] @ja_ ?_|refine kp @ja_ ?_
      refine⟨_,(ke @ja_), ?_⟩
      exact⟨Ext.of_new hNe,v,rfl,hG.keep fun b o hb ho=>by rw[Sx.look,if_neg (by have:=hN.le b (zh_ ho);omega)];exact ho⟩
     ·have d3: (k5_ l !=s)=true:=by simp[hb]
      rw[if_neg (fun h=>hb h.2.2)]
      refine ko (And.intro @ja_ @d3) ?_
      first|with_reducible refine ks [] @ja_ ?_|refine kp @ja_ ?_
      refine⟨_,(ke @ja_), ?_⟩
      exact⟨Ext.of_new hNe,rfl⟩
   ·have d1: (e==0)=false:=by simp[he]
    have d3: (e !=0)=true:=by simp[he]
    have hend: (if e≠0 then e else if(a:Int)< (s.length:Int) then 5 else 0)=e:=by rw[if_pos he]
    rw[if_neg (fun h=>he h.1)]
    first|with_reducible refine ks [] (And.intro @ja_ @d1) ?_|refine kp (And.intro @ja_ @d1) ?_
    refine Ow.callFV rfl Tryz.call145 (fun w' hw'=>v5_ br s a e w' (hw'.has _ _ (by simp))) ?_
    rw[hend]
    refine ko (And.intro @ja_ @d3) ?_
    first|with_reducible refine ks [] @ja_ ?_|refine kp @ja_ ?_
    refine⟨_,(ke @ja_), ?_⟩
    exact⟨Ext.of_new hNe,rfl⟩
end Go.Proofs
end
section
open Go Go.Proofs Go.Sx Go.StP
namespace Go.Proofs
set_option maxRecDepth 10000
set_option maxHeartbeats 400000
set_option linter.unusedSimpArgs false
theorem ZS_ (most:Int): ∀ (l:List UInt8) (k n m k':Nat),z5_ most l k n= .ok (m,k')→(m:Int)≤most
 | [],_,_,_,_,h=>by simp[z5_] at h
 |c::r,k,n,m,k',h=>by
  unfold z5_ at h
  split at h
  ·split at h
   ·cases h
   ·exact ZS_ most r _ _ _ _ h
  ·split at h
   ·cases h
   ·split at h
    ·rename_i hh
     cases h
     exact hh.2
    ·cases h
theorem jj_ {s:List UInt8} {a:Nat} {e most:Int} (h0:0≤most):0≤ (zD_ s a e most).1∧(zD_ s a e most).1≤most:=by
 unfold zD_
 split
 ·exact⟨Int.le_refl 0,h0⟩
 ·split
  ·rename_i n k h
   exact⟨Int.natCast_nonneg _,ZS_ most _ _ _ _ _ h⟩
  ·exact⟨Int.le_refl 0,h0⟩
def zJ_ (s:List UInt8) (a:Nat) (e:Int):Nat→List IdL×Nat×Int
 |0=>([],a,e)
 |n+1=>let p:=zJ_ s a e n;let i:=idR s p.2.1 p.2.2;(p.1++ [ZC_ i.1],i.2)
theorem Qu_ (s:List UInt8) (a:Nat) (e:Int): ∀n,(zJ_ s a e n).1.length=n
 |0=>rfl
 |n+1=>by simp only[zJ_,List.length_append,List.length_cons,List.length_nil,Qu_ s a e n]
theorem QU_ {s:List UInt8} {a:Nat} {e:Int} (ha:a≤s.length): ∀n,(zJ_ s a e n).2.1≤s.length
 |0=>ha
 |n+1=>(WR_ (QU_ ha n)).2
def comN (s:List UInt8):Int×Nat×Int:=zD_ s (idR s 0 0).2.1 (idR s 0 0).2.2 4
def wq_ (s:List UInt8):List IdL×Nat×Int:=zJ_ s (comN s).2.1 (comN s).2.2 (comN s).1.toNat
def comT (s:List UInt8):List UInt8×Nat×Int:=zL_ s (wq_ s).2.1 (wq_ s).2.2 64
def ZA_ (s:List UInt8):ComL×Nat×Int:=(⟨ZC_ (idR s 0 0).1,(wq_ s).1,(comT s).1⟩,(comT s).2)
def xA_ (s:List UInt8) (a:Nat) (e:Int):Int:=if e≠0 then e else if(a:Int)< (s.length:Int) then 5 else 0
def afL_ (s:List UInt8):Option ComL:=if xA_ s (ZA_ s).2.1 (ZA_ s).2.2=0∧w4_ (ZA_ s).1=true∧comB (ZA_ s).1=s then some (ZA_ s).1 else none
theorem ain_ (t x:IdL) (p:Value) (y:List UInt8) (a:Bool) (E:TypeId):zv_ (some (a,32)) (some (.cells (jd_ t p y).toArray E (0,0))) 0 (.agg (a8 x.l))=some (.cells (jd_ x p y).toArray E (0,0)):=
 zO_ [] _ _ _ a _ E rfl (by simp[t.h]) (za_ _) (by simp[x.h]) (XL_ _)
theorem ajd_ (t:IdL) (p q:Value) (y:List UInt8) (a:Bool) (E:TypeId) (hq:Value.oneCell' q=true∧q.cells= #[q]):zv_ (some (a,1)) (some (.cells (jd_ t p y).toArray E (0,0))) 32 q=some (.cells (jd_ t q y).toArray E (0,0)):=
 zO_ (t.l.map v8) [p] [q] [vs y] a _ E (by simp[t.h]) rfl hq.2 rfl (by simp[hq.1])
theorem aiu_ (t:IdL) (p:Value) (y z:List UInt8) (a:Bool) (E:TypeId):zv_ (some (a,1)) (some (.cells (jd_ t p y).toArray E (0,0))) 33 (vs z)=some (.cells (jd_ t p z).toArray E (0,0)):=by
 have e: ∀y,jd_ t p y=(t.l.map v8++ [p])++ ([vs y]++ []):=fun y=>by unfold jd_;simp only[List.append_assoc,List.append_nil]
 rw[e,e];exact zO_ _ _ _ _ a _ E (by simp[t.h]) rfl rfl rfl rfl
theorem apn_:zM_ Tryz.prog 172=some (.agg (jd_ id0 (.slice none 0 0) []).toArray):=id (by kernel_rfl)
theorem Zm_:q5_ (vc_ Tryz.prog 172) (zM_ Tryz.prog 172) []=some (.agg (jd_ id0 (.slice none 0 0) []).toArray):=by
 rw[show vc_ Tryz.prog 172=some [(0,32),(32,1),(33,1)] from id (by kernel_rfl),apn_];rfl
theorem QC_:z0_ Tryz.prog 84=some (true,32):=id (by kernel_rfl)
theorem vO_:zM_ Tryz.prog 84=some (.agg (a8 id0.l)):=id (by kernel_rfl)
end Go.Proofs
end
section
open Go Go.Proofs Go.Sx Go.StP
namespace Go.Proofs
set_option maxRecDepth 10000
set_option maxHeartbeats 400000
set_option linter.unusedSimpArgs false
theorem QM_ {b:Nat} {x:Obj}: ∀ {D L:zb_},b∉keys D→setB (D++L) b x=D++setB L b x
 | [],_,_=>rfl
 | (c,y)::r,L,h=>by
  simp only[keys,List.map_cons,List.mem_cons,not_or] at h
  rw[List.cons_append,xF_ _ _ _ _ _ (Ne.symm h.1),QM_ (by simpa [keys] using h.2)];rfl
def amD_ (s:List UInt8) (v:Value) (D:zb_):Prop:=
 match afL_ s with
 |some c=> ∃p,v= .tuple #[.agg (jd_ c.tree p c.text).toArray, .bool true]∧Gr D 84 32 p c.par.length (c.par.map Z7_).flatten
 |none=>v= .tuple #[.agg (jd_ id0 (.slice none 0 0) []).toArray, .bool false]
theorem Xf_ (b:Nat) (s:List UInt8) (a:Nat) (e:Int) (w:World) (ho:w.heap[b]? =some (.cells #[vs s,vi a,vi e] 217 (0,0))):
  Rets Tryz.prog 145 #[vp b 0] w (fun v D=>v=vi (xA_ s a e)∧D= []):=v5_ b s a e w ho
structure CmG where
 g:Nat
 v:Value
 D:zb_
set_option linter.defProp false
def q2_:=And.intro (And.intro (And.intro (@kb_) (And.intro (@ke_) (@kk_))) (And.intro (And.intro (@xo_) (@xy_)) (And.intro (@QS_) (@QV_)))) (And.intro (And.intro (@Q9_) (And.intro (@Xs_) (@vs_))) (And.intro (And.intro (@ain_) (@aiu_)) (And.intro (@zp_) (@zo_))))
theorem aa1_ (s:List UInt8) (w:World) (hs:s.length<100000):
  Rets Tryz.prog 109 #[vs s] w (XS w [] (amD_ s)):=by
 refine Rets.enterX Tryz.func109 rfl (rs:= [.cell 2 172, .tmp 3]) Tryz.results109 Tryz.ntmps109 (fun p hp=>by cases hp) (by simp[keys]) ?_
 refine kf ?_
 first|with_reducible refine ks [] @q2_ ?_|refine kp @q2_ ?_
 refine Ow.alloc rfl rfl apn_ fun b2 hb2 hw2=> ?_
 simp only[za_,List.nil_append,List.cons_append]
 refine ko @q2_ ?_
 refine Ow.build ((.agg #[vs s,vi 0,vi 0])) rfl (by kernel_rfl) ?_
 refine ko @q2_ ?_
 refine Ow.box rfl rfl fun br hbr hwr=> ?_
 have h2r:b2<br:=zi_ hbr (by simp[keys])
 simp only[zY_,zV_,zX_,za_,List.nil_append,List.cons_append]
 refine ko @q2_ ?_
 refine Ow.build (.agg (jd_ id0 (.slice none 0 0) []).toArray) rfl Zm_ ?_
 refine ko @q2_ ?_
 refine Ow.alloc rfl rfl apn_ fun b5 hb5 hw5=> ?_
 simp only[za_,List.nil_append,List.cons_append]
 have h25:b2<b5:=zi_ hb5 (by simp[keys])
 have hr5:br<b5:=zi_ hb5 (by simp[keys])
 have st5: ∀a E,zv_ (some (a,34)) (some (.cells (jd_ id0 (.slice none 0 0) []).toArray E (0,0))) 0 (.agg (jd_ id0 (.slice none 0 0) []).toArray)=some (.cells (jd_ id0 (.slice none 0 0) []).toArray E (0,0)):=fun a E=>Vi_ _ _ _ _ a E (by rw[List.size_toArray,Zp_]) rfl
 refine ko (And.intro @q2_ @st5) ?_
 refine Ow.callM rfl rfl Tryz.call147 (by simp[keys]) (fun w' hw'=>JN_ br s 0 0 w' (Nat.zero_le _) (by omega) (hw'.has _ _ (List.mem_cons_of_mem _ List.mem_cons_self))) ?_
 have ip:=WR_ (s:=s) (a:=0) (e:=0) (Nat.zero_le _)
 have np:=qO_ (e:=(idR s 0 0).2.2) (most:=4) ip.2
 have nm:=jj_ (s:=s) (a:=(idR s 0 0).2.1) (e:=(idR s 0 0).2.2) (most:=4) (by decide)
 obtain⟨T,hT⟩: ∃T,ZC_ (idR s 0 0).1=T:=⟨_,rfl⟩
 have hiT: (idR s 0 0).1=T.l:=by rw[←hT,vY_ (Qe_ s 0 0)]
 have hcE:ZA_ s=(⟨T,(wq_ s).1,(comT s).1⟩,(comT s).2):=by unfold ZA_;rw[hT]
 rw[hiT]
 refine kn ?_
 refine ko @q2_ ?_
 refine Ow.callM rfl rfl Tryz.call146 (by simp[keys]) (fun w' hw'=>xP_ br s _ _ 4 w' ip.2 (by omega) (hw'.has _ _ (List.mem_cons_of_mem _ List.mem_cons_self))) ?_
 have hP:wq_ s=zJ_ s (zD_ s (idR s 0 0).2.1 (idR s 0 0).2.2 4).2.1 (zD_ s (idR s 0 0).2.1 (idR s 0 0).2.2 4).2.2 (zD_ s (idR s 0 0).2.1 (idR s 0 0).2.2 4).1.toNat:=rfl
 generalize zD_ s (idR s 0 0).2.1 (idR s 0 0).2.2 4=nr at*
 obtain⟨cn,na,ne⟩:=nr
 simp only at np nm hP ⊢
 obtain⟨k,rfl⟩:=Int.eq_ofNat_of_zero_le nm.1
 rw[Int.toNat_natCast] at hP
 refine kn ?_
 refine ko @q2_ ?_
 refine Cw.permL (M:=(b5, .cells (jd_ T (.slice none 0 0) []).toArray 172 (0,0)):: (br, .cells #[vs s,vi na,vi ne] 217 (0,0)):: (b2, .cells (jd_ id0 (.slice none 0 0) []).toArray 172 (0,0)):: []) (by classical exact List.perm_iff_count.2 fun a=>by simp only[List.count_append,List.count_cons,List.count_nil]<;>omega) ?_
 refine Cw.loopG (G:=CmG) [17,18,19,22,23,24,25,26,27,28,20,21,7] (fun q=> [(7,vi q.g)]) (fun q=>(b5, .cells (jd_ T q.v []).toArray 172 (0,0)):: (br, .cells #[vs s,vi (zJ_ s na ne q.g).2.1,vi (zJ_ s na ne q.g).2.2] 217 (0,0)):: (b2, .cells (jd_ id0 (.slice none 0 0) []).toArray 172 (0,0))::q.D) (fun q=>q.g≤k∧New (b5+1) q.D∧Gr q.D 84 32 q.v q.g ((zJ_ s na ne q.g).1.map Z7_).flatten) (fun q=>k - q.g) ⟨0, .slice none 0 0,[]⟩ rfl rfl ?_ ?_
 ·exact⟨Nat.zero_le _,trivial,Gr.nl⟩
 ·intro q jq hq
  refine kv ?_
  obtain⟨g,v,D⟩:=q
  simp only at hq ⊢
  obtain⟨hgk,hN,hG⟩:=hq
  have gle:=QU_ (e:=ne) np.2 g
  by_cases hlt:g<k
  ·have hgs:zJ_ s na ne (g+1)=((zJ_ s na ne g).1++ [ZC_ (idR s (zJ_ s na ne g).2.1 (zJ_ s na ne g).2.2).1],(idR s (zJ_ s na ne g).2.1 (zJ_ s na ne g).2.2).2):=rfl
   first|with_reducible refine ks [7] @q2_ ?_|refine kp @q2_ ?_
   refine Cw.regionS [b5] [0,2,1,3,4,5,6,7] [7] (by kernel_rfl) (by kernel_rfl) (by kernel_rfl) ?_
   simp only[zl_, ↓zg_, ↓zc_, ↓zx_, ↓zw_,zd_]
   refine kq @q2_ ?_
   refine Ow.soft rfl rfl rfl ?_
   refine Ow.callM rfl rfl Tryz.call147 (by simp[keys]) (fun w' hw'=>JN_ br s (zJ_ s na ne g).2.1 (zJ_ s na ne g).2.2 w' gle (by omega) (hw'.has _ _ (List.mem_cons_of_mem _ List.mem_cons_self))) ?_
   with_reducible refine Ow.nil ?_
   refine⟨fun b hb=>wx_ (by simp only[List.mem_cons,List.not_mem_nil,or_false] at hb;omega), ?_⟩
   have hil:=Qe_ s (zJ_ s na ne g).2.1 (zJ_ s na ne g).2.2
   obtain⟨I,hI⟩: ∃I,ZC_ (idR s (zJ_ s na ne g).2.1 (zJ_ s na ne g).2.2).1=I:=⟨_,rfl⟩
   have hiI: (idR s (zJ_ s na ne g).2.1 (zJ_ s na ne g).2.2).1=I.l:=by rw[←hI,vY_ hil]
   rw[hI] at hgs
   have hg1: (zJ_ s na ne (g+1)).1=(zJ_ s na ne g).1++ [I]:=by rw[hgs]
   have hg2: (zJ_ s na ne (g+1)).2=(idR s (zJ_ s na ne g).2.1 (zJ_ s na ne g).2.2).2:=by rw[hgs]
   rw[hiI,←hg2]
   refine kn ?_
   refine Ow.soft rfl rfl rfl ?_
   refine Ow.buildSlice (e:=84) (a8 I.l) rfl rfl (qA_ (cs:=I.l.map v8) Tryz.underlying106 QC_ vO_ (by decide) (by simp[I.h])) fun b13 hb13 hw13=> ?_
   have hr13:b5<b13:=zi_ hb13 (by simp[keys])
   with_reducible refine Ow.nil ?_
   refine⟨Zl_ (by simp[keys]), ?_⟩
   try simp only[List.cons_append,List.nil_append]
   refine Ow.soft rfl rfl rfl ?_
   refine Ow.permL (M:=D++ ((b5,Obj.cells (jd_ T v []).toArray 172 (0,0)):: (br,Obj.cells #[vs s,vi (zJ_ s na ne (g+1)).2.1,vi (zJ_ s na ne (g+1)).2.2] 217 (0,0)):: (b2,Obj.cells (jd_ id0 (.slice none 0 0) []).toArray 172 (0,0)):: [(b13,Obj.cells (a8 I.l) 84 (0,0))])) (by classical exact List.perm_iff_count.2 fun a=>by simp only[List.count_append,List.count_cons,List.count_nil]<;>omega) ?_
   refine Ow.appendX (e:=84) (k:=1) (new:=Z7_ I) (X:=D) v rfl rfl rfl rfl Tryz.underlying106 QC_ (by kernel_rfl) vO_ (by rw[za_,v9_,id0.h]) Tryz.underlying106 (by intro k h;cases h) hG (fun w' hw'=>AppX.one1 (hw'.has b13 (.cells (a8 I.l) 84 (0,0)) (by simp)) (x1_ I) (Qn_ I)) (by omega) (by omega) (fun B v4 D4 hA4 hB4 hbuf hk1 hk2 hlk=> ?_)
   have hB13:b13<B:=zi_ hA4 (by simp[zj_,keys])
   have hN4:New (b5+1) D4:=New.of_le fun q hq=>by
    rcases hk2 q hq with h|h
    ·exact hN.le q h
    ·omega
   have h54:b5∉keys D4:=hN4.not (by omega)
   with_reducible refine Ow.nil ?_
   refine⟨fun q hq=> ?_, ?_⟩
   ·rw[List.mem_singleton] at hq
    subst hq
    rw[Zg_ h54]
    simp only[xr_]
   have hlk5: ∀M,Sx.look (D4++M) b5=Sx.look M b5:=fun M=>zG_ h54
   have hsb5: ∀M x,setB (D4++M) b5 x=D4++setB M b5 x:=fun M x=>QM_ h54
   have st5:=fun a E=>ajd_ T v v4 [] a E hbuf.cell
   refine kq (And.intro @q2_ (And.intro @hlk5 (And.intro @hsb5 (And.intro @st5 (@Jb_))))) ?_
   have hst7:xN_ (z0_ Tryz.prog 106) (D4++ [(b5,Obj.cells (jd_ T v []).toArray 172 (0,0)),(br,Obj.cells #[vs s,vi (zJ_ s na ne (g+1)).2.1,vi (zJ_ s na ne (g+1)).2.2] 217 (0,0)),(b2,Obj.cells (jd_ id0 (.slice none 0 0) []).toArray 172 (0,0)),(b13,Obj.cells (a8 I.l) 84 (0,0))]) (vp b5 32) v4=
     some (D4++ [(b5,Obj.cells (jd_ T v4 []).toArray 172 (0,0)),(br,Obj.cells #[vs s,vi (zJ_ s na ne (g+1)).2.1,vi (zJ_ s na ne (g+1)).2.2] 217 (0,0)),(b2,Obj.cells (jd_ id0 (.slice none 0 0) []).toArray 172 (0,0)),(b13,Obj.cells (a8 I.l) 84 (0,0))]):=by
    rw[Tryz.ag106,wV_,hlk5]
    simp only[z3_,st5,Q1_,hsb5,xi_]
   refine Ow.store rfl rfl rfl hst7 ?_
   refine ko @q2_ ?_
   refine Cw.permL (M:=(b5,Obj.cells (jd_ T v4 []).toArray 172 (0,0)):: (br,Obj.cells #[vs s,vi (zJ_ s na ne (g+1)).2.1,vi (zJ_ s na ne (g+1)).2.2] 217 (0,0)):: (b2,Obj.cells (jd_ id0 (.slice none 0 0) []).toArray 172 (0,0)):: (D4++ [(b13,Obj.cells (a8 I.l) 84 (0,0))])) (by classical exact List.perm_iff_count.2 fun a=>by simp only[List.count_append,List.count_cons,List.count_nil]<;>omega) ?_
   first|with_reducible refine ks [] @q2_ ?_|refine kp @q2_ ?_
   refine Again.mk (CmG.mk (g+1) v4 (D4++ [(b13,Obj.cells (a8 I.l) 84 (0,0))])) (by show k - (g+1)<k - g;omega) ⟨by show g+1≤k;omega,hN4.app ⟨by omega,trivial⟩, ?_⟩ rfl rfl
   show Gr _ _ _ _ (g+1) ((zJ_ s na ne (g+1)).1.map Z7_).flatten
   rw[hg1,List.map_append,List.flatten_append,show([I].map Z7_).flatten=Z7_ I by simp]
   exact Gr.app (.inl hbuf)
  ·obtain rfl:g=k:=by omega
   rw[←hP] at hG
   rw[←hP] at gle
   rw[←hP]
   have tp:=kh_ (e:=(wq_ s).2.2) (most:=64) gle
   first|with_reducible refine ks [] @q2_ ?_|refine kp @q2_ ?_
   refine Ow.callM rfl rfl Tryz.call144 (by simp[keys]) (fun w' hw'=>kZ_ br s (wq_ s).2.1 (wq_ s).2.2 64 w' gle (by omega) (hw'.has _ _ (List.mem_cons_of_mem _ List.mem_cons_self))) ?_
   refine kn ?_
   refine ko @q2_ ?_
   have hT2:comT s=zL_ s (wq_ s).2.1 (wq_ s).2.2 64:=rfl
   have htl:=Qp_ s (wq_ s).2.1 (wq_ s).2.2 64
   rw[hT2] at hcE
   generalize zL_ s (wq_ s).2.1 (wq_ s).2.2 64=tx at*
   obtain⟨tt,a3,e3⟩:=tx
   simp only at tp hcE htl ⊢
   have hPl: (wq_ s).1.length=g:=by rw[hP,Qu_]
   generalize (wq_ s).1=pl at*
   have hg4:g≤4:=by omega
   have hC: ∀w',Hp w ((b5,Obj.cells (jd_ T v tt).toArray 172 (0,0)):: (br, .cells #[vs s,vi a3,vi e3] 217 (0,0)):: (b2,Obj.cells (jd_ id0 (.slice none 0 0) []).toArray 172 (0,0))::D) w'→ComS w' (.agg (jd_ T v tt).toArray) ⟨T,pl,tt⟩:=fun w' hw'=>
    ⟨v,rfl,hG.slM (fun b o hm=>hw'.has b o (by simp[hm])) hPl rfl x1_⟩
   have hNe:New w.heap.size ((b5,Obj.cells (jd_ T v tt).toArray 172 (0,0)):: (br, .cells #[vs s,vi a3,vi e3] 217 (0,0)):: (b2,Obj.cells (jd_ id0 (.slice none 0 0) []).toArray 172 (0,0))::D):=⟨hw5,hwr,hw2,New.mono (by omega) hN⟩
   have hR:afL_ s=if xA_ s a3 e3=0∧w4_ ⟨T,pl,tt⟩=true∧comB ⟨T,pl,tt⟩=s then some ⟨T,pl,tt⟩ else none:=by unfold afL_;rw[hcE]
   have stz: ∀a E,zv_ (some (a,34)) (some (.cells (jd_ id0 (.slice none 0 0) []).toArray E (0,0))) 0 (.agg (jd_ id0 (.slice none 0 0) []).toArray)=some (.cells (jd_ id0 (.slice none 0 0) []).toArray E (0,0)):=st5
   unfold amD_
   rw[hR]
   refine Ow.callFV rfl Tryz.call145 (fun w' hw'=>Xf_ br s a3 e3 w' (hw'.has _ _ (List.mem_cons_of_mem _ List.mem_cons_self))) ?_
   by_cases he:xA_ s a3 e3=0
   ·have d1: (xA_ s a3 e3 !=0)=false:=by simp[he]
    refine ko (And.intro @q2_ @d1) ?_
    refine Ow.callFV rfl Tryz.call150 (fun w' hw'=>Xp_ _ _ w' (hC w' hw') (by show pl.length<1000000;omega) (by show tt.length<1099511627776;omega)) ?_
    cases hr:w4_ ⟨T,pl,tt⟩
    ·rw[if_neg (by simp)]
     refine ko @q2_ ?_
     refine Ow.build (.agg (jd_ id0 (.slice none 0 0) []).toArray) rfl Zm_ ?_
     refine ko (And.intro @q2_ @stz) ?_
     first|with_reducible refine ks [] @q2_ ?_|refine kp @q2_ ?_
     refine⟨_,(ke @q2_), ?_⟩
     exact⟨Ext.of_new hNe,rfl⟩
    ·refine ko @q2_ ?_
     refine Ow.callFV rfl Tryz.call151 (fun w' hw'=>K9_ _ _ w' (hC w' hw') (by show pl.length<1000000;omega) (by show tt.length<1099511627776;omega)) ?_
     by_cases hb:comB ⟨T,pl,tt⟩=s
     ·have d3: (comB ⟨T,pl,tt⟩ !=s)=false:=by simp[hb]
      have stq: ∀a E,zv_ (some (a,34)) (some (.cells (jd_ id0 (.slice none 0 0) []).toArray E (0,0))) 0 (.agg (jd_ T v tt).toArray)=some (.cells (jd_ T v tt).toArray E (0,0)):=fun a E=>Vi_ _ _ _ _ a E (by rw[List.size_toArray,Zp_]) hG.cell.1
      rw[if_pos ⟨he,rfl,hb⟩]
      refine ko (And.intro @q2_ (And.intro @d3 (@stq))) ?_
      first|with_reducible refine ks [] @q2_ ?_|refine kp @q2_ ?_
      refine⟨_,(ke @q2_), ?_⟩
      refine⟨Ext.of_new ⟨hw5,hwr,hw2,New.mono (by omega) hN⟩,v,rfl, ?_⟩
      show Gr _ _ _ _ pl.length (pl.map Z7_).flatten
      rw[hPl]
      exact hG.keep fun b o hb ho=>by
       have:=hN.le b (zh_ ho)
       simp(disch:=omega) only[qW_]
       exact ho
     ·have d3: (comB ⟨T,pl,tt⟩ !=s)=true:=by simp[hb]
      rw[if_neg (fun h=>hb h.2.2)]
      refine ko (And.intro @q2_ @d3) ?_
      refine Ow.build (.agg (jd_ id0 (.slice none 0 0) []).toArray) rfl Zm_ ?_
      refine ko (And.intro @q2_ @stz) ?_
      first|with_reducible refine ks [] @q2_ ?_|refine kp @q2_ ?_
      refine⟨_,(ke @q2_), ?_⟩
      exact⟨Ext.of_new hNe,rfl⟩
   ·have d1: (xA_ s a3 e3 !=0)=true:=by simp[he]
    rw[if_neg (fun h=>he h.1)]
    refine ko (And.intro @q2_ @d1) ?_
    refine Ow.build (.agg (jd_ id0 (.slice none 0 0) []).toArray) rfl Zm_ ?_
    refine ko (And.intro @q2_ @stz) ?_
    first|with_reducible refine ks [] @q2_ ?_|refine kp @q2_ ?_
    refine⟨_,(ke @q2_), ?_⟩
    exact⟨Ext.of_new hNe,rfl⟩
end Go.Proofs
end
section
open Go Go.Proofs Go.Sx Go.StP
namespace Go.Proofs
set_option maxRecDepth 10000
set_option maxHeartbeats 400000
set_option linter.unusedSimpArgs false
def roC (r v:Value) (t:IdL) (p:Value) (y:List UInt8):List Value:= [r]++ ([v]++jd_ t p y)
theorem aha_ (r v:Value) (t:IdL) (p:Value) (y:List UInt8) (n:Nat) (E:TypeId) (fz:Nat×Nat):zt_ (some (false,n)) (some (.cells (roC r v t p y).toArray E fz)) 0=some r:=j4_ [] _ r n E fz rfl
theorem ahs_ (r v:Value) (t:IdL) (p:Value) (y:List UInt8) (n:Nat) (E:TypeId) (fz:Nat×Nat):zt_ (some (false,n)) (some (.cells (roC r v t p y).toArray E fz)) 1=some v:=by
 unfold roC;exact j4_ [r] _ v n E fz rfl
theorem ahx_ (r v:Value) (t:IdL) (p:Value) (y:List UInt8) (E:TypeId) (fz:Nat×Nat):zt_ (some (true,34)) (some (.cells (roC r v t p y).toArray E fz)) 2=some (.agg (jd_ t p y).toArray):=by
 have e:roC r v t p y= [r,v]++ (jd_ t p y++ []):=by unfold roC;simp
 rw[e];exact Q8_ [r,v] _ _ E fz rfl (Zp_ _ _ _)
theorem abM_ (r v:Value) (t:IdL) (p:Value) (y:List UInt8) (n:Nat) (E:TypeId) (fz:Nat×Nat):zt_ (some (false,n)) (some (.cells (roC r v t p y).toArray E fz)) 34=some p:=by
 have e:roC r v t p y=([r,v]++t.l.map v8)++ ([p]++ [vs y]):=by unfold roC jd_;simp
 rw[e];exact j4_ _ _ p n E fz (by simp[t.h])
theorem alF_ (r v q:Value) (t:IdL) (p:Value) (y:List UInt8) (a:Bool) (E:TypeId) (hq:Value.oneCell' q=true∧q.cells= #[q]):zv_ (some (a,1)) (some (.cells (roC r v t p y).toArray E (0,0))) 1 q=some (.cells (roC r q t p y).toArray E (0,0)):=by
 unfold roC
 exact zO_ [r] [v] [q] _ a _ E rfl rfl hq.2 rfl (by simp[hq.1])
theorem amh_ (r v:Value) (t x:IdL) (p:Value) (y:List UInt8) (a:Bool) (E:TypeId):zv_ (some (a,32)) (some (.cells (roC r v t p y).toArray E (0,0))) 2 (.agg (a8 x.l))=some (.cells (roC r v x p y).toArray E (0,0)):=by
 have e: ∀t,roC r v t p y= [r,v]++ (t.l.map v8++ ([p]++ [vs y])):=fun t=>by unfold roC jd_;simp
 rw[e,e];exact zO_ [r,v] _ _ _ a _ E rfl (by simp[t.h]) (za_ _) (by simp[x.h]) (XL_ _)
theorem aiW_ (r v:Value) (t:IdL) (p q:Value) (y:List UInt8) (a:Bool) (E:TypeId) (hq:Value.oneCell' q=true∧q.cells= #[q]):zv_ (some (a,1)) (some (.cells (roC r v t p y).toArray E (0,0))) 34 q=some (.cells (roC r v t q y).toArray E (0,0)):=by
 have e: ∀p,roC r v t p y=([r,v]++t.l.map v8)++ ([p]++ [vs y]):=fun p=>by unfold roC jd_;simp
 rw[e,e];exact zO_ _ [p] [q] [vs y] a _ E (by simp[t.h]) rfl hq.2 rfl (by simp[hq.1])
theorem ai6_ (r v:Value) (t:IdL) (p:Value) (y z:List UInt8) (a:Bool) (E:TypeId):zv_ (some (a,1)) (some (.cells (roC r v t p y).toArray E (0,0))) 35 (vs z)=some (.cells (roC r v t p z).toArray E (0,0)):=by
 have e: ∀y,roC r v t p y=(([r,v]++t.l.map v8)++ [p])++ ([vs y]++ []):=fun y=>by unfold roC jd_;simp
 rw[e,e];exact zO_ _ _ _ _ a _ E (by simp[t.h]) rfl rfl rfl rfl
theorem aiM_ (k:Int) (t:List UInt8):q5_ (vc_ Tryz.prog 221) (zM_ Tryz.prog 221) [(1,vi k),(0,vs t)]=some (.agg (jq_ ⟨t,k,id0⟩).toArray):=by
 rw[show vc_ Tryz.prog 221=some [(0,1),(1,1),(2,32)] from id (by kernel_rfl),aaK_];rfl
theorem Zx_ (b:Nat) (s:List UInt8) (a:Nat) (e:Int) (w:World) (ho:w.heap[b]? =some (.cells #[vs s,vi a,vi e] 250 (0,0))):
  Rets Tryz.prog 142 #[vp b 0] w (fun v D=>v=vi (xA_ s a e)∧D= []):=akk_ b s a e w ho
set_option linter.defProp false
def kF_:=And.intro (And.intro (And.intro (And.intro (@kb_) (@ke_)) (And.intro (@kk_) (@xo_))) (And.intro (And.intro (@xy_) (@aha_)) (And.intro (@ahs_) (@ahx_)))) (And.intro (And.intro (And.intro (@abM_) (@QJ_)) (And.intro (@Wu_) (@Wg_))) (And.intro (And.intro (@WZ_) (@kr_)) (And.intro (@kJ_) (And.intro (@zp_) (@zo_)))))
theorem alA_ {w:World} {a b:Nat} {x y:Obj} (h:w.heap[a]? =some x) (h':w.heap[b]? =some y): ∀p:Nat×Obj,p∈ [(a,x),(b,y)]→w.heap[p.1]? =some p.2:=by
 intro p hp
 simp only[List.mem_cons,List.not_mem_nil,or_false] at hp
 rcases hp with rfl|rfl<;>assumption
structure EnH where
 n:Nat
 a:Nat
 e:Int
 l:List EntL
 v:Value
 D:zb_
 H:zb_
def apV_ (bo bw:Nat) (s:List UInt8) (v:Value) (D:zb_):Prop:=
 v= .bool (xA_ s (j6_ s).2.1 (j6_ s).2.2==0&&kv_ (j6_ s).1)∧ ∃v1,Sx.look D bo=some (.cells (roC (vp bw 0) v1 id0 (.slice none 0 0) []).toArray 271 (0,0))∧Gr D 221 34 v1 (j6_ s).1.length ((j6_ s).1.map jq_).flatten
theorem af8_ (bo bw:Nat) (s:List UInt8) (w:World) (hs:s.length<100000) (hne:bo≠bw)
  (ho:w.heap[bo]? =some (.cells (roC (vp bw 0) (.slice none 0 0) id0 (.slice none 0 0) []).toArray 271 (0,0))) (hr:w.heap[bw]? =some (.cells #[vs s,vi 0,vi 0] 250 (0,0))):
  Rets Tryz.prog 202 #[vp bo 0] w (XS w [(bo, .cells (roC (vp bw 0) (.slice none 0 0) id0 (.slice none 0 0) []).toArray 271 (0,0)),(bw, .cells #[vs s,vi 0,vi 0] 250 (0,0))] (apV_ bo bw s)):=by
 have hob:bo<w.heap.size:=(Array.getElem?_eq_some_iff.1 ho).1
 have hwb:bw<w.heap.size:=(Array.getElem?_eq_some_iff.1 hr).1
 refine Rets.enterX Tryz.func202 rfl (rs:= [.tmp 2]) Tryz.results202 Tryz.ntmps202 (alA_ ho hr) (by simp[keys,hne]) ?_
 refine kf ?_
 first|with_reducible refine ks [] @kF_ ?_|refine kp @kF_ ?_
 refine Cw.loopG (G:=EnH) [4,5,6,7,8,9,10,11,12,13,14,15,16,17,18,19,20,3,21,22,23,24,25,26,27,28,29,30,31,32,33,34,35,36] (fun q=> []) (fun q=>q.H) (fun q=>EntsJ s q.n q.a q.e q.l∧New w.heap.size q.D∧Gr q.D 221 34 q.v q.l.length (q.l.map jq_).flatten∧((bo,Obj.cells (roC (vp bw 0) q.v id0 (.slice none 0 0) []).toArray 271 (0,0)):: (bw, .cells #[vs s,vi q.a,vi q.e] 250 (0,0))::q.D).Perm q.H) (fun q=>q.n) ⟨s.length+1,0,0,[], .slice none 0 0,[],[(bo,Obj.cells (roC (vp bw 0) (.slice none 0 0) id0 (.slice none 0 0) []).toArray 271 (0,0)),(bw, .cells #[vs s,vi 0,vi 0] 250 (0,0))]⟩ rfl rfl ?_ ?_
 ·exact⟨EntsJ.init s,trivial,Gr.nl,List.Perm.refl _⟩
 ·intro q jq hq
  refine kv ?_
  obtain⟨n,a,e,l,v,D,H0⟩:=q
  simp only at hq ⊢
  obtain⟨hJ,hN,hG,hPm⟩:=hq
  refine Cw.permL hPm ?_
  clear hPm
  have hle:=hJ.le
  first|with_reducible refine ks [3] @kF_ ?_|refine kp @kF_ ?_
  refine Ow.callFV rfl Tryz.call142 (fun w' hw'=>Zx_ bw s a e w' (hw'.has _ _ (List.mem_cons_of_mem _ List.mem_cons_self))) ?_
  by_cases hc:e=0∧a<s.length
  ·obtain⟨m,rfl,hJ'⟩:=hJ.next hc
   obtain⟨he,hlt⟩:=hc
   have h5:xA_ s a e=5:=by unfold xA_;rw[if_neg (by simp[he]),if_pos (by omega)]
   have d1: (xA_ s a e==5)=true:=by simp[h5]
   refine ko (And.intro @kF_ @d1) ?_
   have hp:=qO_ (e:=e) (most:=2) hle
   have hq:=kh_ (e:=(zD_ s a e 2).2.2) (most:=32) hp.2
   have heq:Vq_ s a e=(⟨(zL_ s (zD_ s a e 2).2.1 (zD_ s a e 2).2.2 32).1,(zD_ s a e 2).1,ZC_ (idR s (zL_ s (zD_ s a e 2).2.1 (zD_ s a e 2).2.2 32).2.1 (zL_ s (zD_ s a e 2).2.1 (zD_ s a e 2).2.2 32).2.2).1⟩,(idR s (zL_ s (zD_ s a e 2).2.1 (zD_ s a e 2).2.2 32).2.1 (zL_ s (zD_ s a e 2).2.1 (zD_ s a e 2).2.2 32).2.2).2):=rfl
   have hil:=Qe_ s (zL_ s (zD_ s a e 2).2.1 (zD_ s a e 2).2.2 32).2.1 (zL_ s (zD_ s a e 2).2.1 (zD_ s a e 2).2.2 32).2.2
   refine Cw.regionD [bo] [12] 11 3 221 12 _ rfl (by kernel_rfl) (by kernel_rfl) rfl (by kernel_rfl) aaK_ (fun hD=> ?_)
   simp only[List.replicate_succ,List.replicate_zero]
   refine OwD.run [0,1,2,3,5,6,7,8] [true,true,true,true,false,true,true,true,true,false,false,false,false] 4 rfl hD (by kernel_rfl) fun k hk=> ?_
   simp only[zl_, ↓zg_, ↓zc_, ↓zx_, ↓zw_,zd_]
   simp(disch:=(first|assumption|omega| (simp only[kK_,kw_,UInt64.reduceToNat];try omega))) only[↓Sx.S0,Sx.S1,Tryz.fx,kF_,Nat.reduceAdd,Nat.reducePow,Int.reducePow,Nat.reduceBEq, ↓reduceIte,UInt8.reduceToNat,UInt16.reduceToNat,UInt32.reduceToNat,UInt64.reduceToNat,Int.reduceToNat,Md.next_sofnil,Md.next_sofnil]
   (with_reducible refine hk _ _ _ ?_);clear hk k
   refine OwD.soft 4 _ hD rfl (by kernel_rfl) (fun E hE=> ?_)
   refine Ow.callM rfl rfl Tryz.call179 (by simp[keys]) (fun w' hw'=>wJ_ bw s a e 2 w' hle (by omega) (hw'.has _ _ (by simp))) ?_
   generalize zD_ s a e 2=p at*
   obtain⟨kd,a1,e1⟩:=p
   simp only at hp hq heq hil ⊢
   refine kn ?_
   with_reducible refine Ow.nil ?_
   refine⟨(bo,Obj.cells (roC (vp bw 0) v id0 (.slice none 0 0) []).toArray 271 (0,0)):: (bw, .cells #[vs s,vi a1,vi e1] 250 (0,0))::D,(by classical exact List.perm_iff_count.2 fun a=>by simp only[List.count_append,List.count_cons,List.count_nil]<;>omega),fun r hr=> ?_, ?_⟩
   ·rw[List.mem_singleton.1 hr]
    simp only[xr_]
   simp only[List.set_cons_zero,List.set_cons_succ,wE_,Xb_,Xe_]
   refine OwD.soft 9 _ hD rfl (by kernel_rfl) (fun E hE=> ?_)
   refine Ow.callM rfl rfl Tryz.call141 (by simp[keys]) (fun w' hw'=>Ji_ bw s a1 e1 32 w' hp.2 (by omega) (hw'.has _ _ (by simp))) ?_
   generalize zL_ s a1 e1 32=q at*
   obtain⟨tt,a2,e2⟩:=q
   simp only at hq heq hil ⊢
   refine kn ?_
   with_reducible refine Ow.nil ?_
   refine⟨(bo,Obj.cells (roC (vp bw 0) v id0 (.slice none 0 0) []).toArray 271 (0,0)):: (bw, .cells #[vs s,vi a2,vi e2] 250 (0,0))::D,(by classical exact List.perm_iff_count.2 fun a=>by simp only[List.count_append,List.count_cons,List.count_nil]<;>omega),fun r hr=> ?_, ?_⟩
   ·rw[List.mem_singleton.1 hr]
    simp only[xr_]
   simp only[List.set_cons_zero,List.set_cons_succ,wE_,Xb_,Xe_]
   refine OwD.soft 10 _ hD rfl (by kernel_rfl) (fun E hE=> ?_)
   refine Ow.build (.agg (jq_ ⟨tt,kd,id0⟩).toArray) rfl (aiM_ kd tt) ?_
   with_reducible refine Ow.nil ?_
   refine⟨_,List.Perm.refl _,fun _ _=>rfl, ?_⟩
   simp only[List.set_cons_zero,List.set_cons_succ,wE_,Xb_,Xe_]
   refine OwD.real [12] rfl hD (by kernel_rfl) (by kernel_rfl) (by kernel_rfl) (by kernel_rfl) (fun r hr=>by rw[List.mem_singleton.1 hr];exact .inl (by simp[keys])) ?_
   simp only[zl_, ↓zg_, ↓zc_, ↓zx_, ↓zw_,zd_]
   intro b3 hw3 hbL
   simp only[Xb_,Xe_]
   have hst3:=kr_ ⟨tt,kd,id0⟩ jT_
   refine Ow.store rfl rfl rfl (L':=((bo,Obj.cells (roC (vp bw 0) v id0 (.slice none 0 0) []).toArray 271 (0,0)):: (bw, .cells #[vs s,vi a2,vi e2] 250 (0,0))::D)++ [(b3, .cells (jq_ ⟨tt,kd,id0⟩).toArray 221 (0,0))]) ?_ ?_
   ·simp only[zY_,zV_,zX_]
    rw[Tryz.ag221,wV_,Kx_ hbL,za_,hst3,Q1_,WV_ hbL]
    exact []
   refine ko @kF_ ?_
   refine Cw.permL (M:=(b3, .cells (jq_ ⟨tt,kd,id0⟩).toArray 221 (0,0)):: (bo,Obj.cells (roC (vp bw 0) v id0 (.slice none 0 0) []).toArray 271 (0,0)):: (bw, .cells #[vs s,vi a2,vi e2] 250 (0,0))::D) (by classical exact List.perm_iff_count.2 fun a=>by simp only[List.count_append,List.count_cons,List.count_nil]<;>omega) ?_
   have hb3o:bo≠b3:=by simp[keys] at hbL;omega
   have hb3w:bw≠b3:=by simp[keys] at hbL;omega
   first|with_reducible refine ks [] @kF_ ?_|refine kp @kF_ ?_
   refine Ow.callM rfl rfl Tryz.call227 (by simp[keys]) (fun w' hw'=>aaA_ bw s a2 e2 w' hq.2 (by omega) (hw'.has _ _ (by simp))) ?_
   generalize idR s a2 e2=i at*
   obtain⟨il,a3,e3⟩:=i
   simp only at heq hil ⊢
   obtain⟨I,hI⟩: ∃I,ZC_ il=I:=⟨_,rfl⟩
   have hiI:il=I.l:=by rw[←hI,vY_ hil]
   rw[hI] at heq
   rw[hiI]
   refine kn ?_
   refine ko @kF_ ?_
   generalize hx: ({name:=tt,kind:=kd,id:=I}:EntL)=x
   rw[hx] at heq
   rw[heq] at hJ'
   refine Cw.regionS [bo,b3] [0,1,2,3,4,5,6,7,8,9,10] [10] (by kernel_rfl) (by kernel_rfl) (by kernel_rfl) ?_
   simp only[zl_, ↓zg_, ↓zc_, ↓zx_, ↓zw_,zd_]
   refine kq @kF_ ?_
   refine Ow.soft rfl rfl rfl ?_
   refine Ow.buildSlice (e:=221) (jq_ x).toArray rfl rfl (qA_ Tryz.underlying168 ahl_ aaK_ (by decide) (jr_ x)) fun b13 hb13 hw13=> ?_
   have h3d:b3<b13:=zi_ hb13 (by simp[keys])
   with_reducible refine Ow.nil ?_
   refine⟨Zl_ (by simp[keys]), ?_⟩
   try simp only[List.cons_append,List.nil_append]
   refine Ow.soft rfl rfl rfl ?_
   refine Ow.permL (M:=D++ [(b3,Obj.cells (jq_ x).toArray 221 (0,0)),(bo,Obj.cells (roC (vp bw 0) v id0 (.slice none 0 0) []).toArray 271 (0,0)),(bw, .cells #[vs s,vi a3,vi e3] 250 (0,0)),(b13,Obj.cells (jq_ x).toArray 221 (0,0))]) (by classical exact List.perm_iff_count.2 fun a=>by simp only[List.count_append,List.count_cons,List.count_nil]<;>omega) ?_
   refine Ow.appendX (e:=221) (k:=1) (new:=jq_ x) (X:=D) v rfl rfl rfl rfl Tryz.underlying168 ahl_ (by kernel_rfl) aaK_ (by rw[kJ_,List.size_toArray,jr_]) Tryz.underlying168 (by intro k h;cases h) hG (fun w' hw'=>AppX.one1 (hw'.has b13 (.cells (jq_ x).toArray 221 (0,0)) (by simp)) (jr_ _) (aaO_ _)) (by omega) (by have:=hJ.cnt;omega) (fun B v4 D4 hA4 hB4 hbuf hk1 hk2 hlk=> ?_)
   have hB3:b3<B:=zi_ hA4 (by simp[zj_,keys])
   have hN4:New w.heap.size D4:=New.of_le fun q hq=>by
    rcases hk2 q hq with h|h
    ·exact hN.le q h
    ·omega
   have ho4:bo∉keys D4:=hN4.not hob
   have h34:b3∉keys D4:=fun hm=>by
    rcases hk2 b3 hm with h|h
    ·exact hbL (by simp only[keys,List.map_cons,List.mem_cons];exact .inr (.inr h))
    ·omega
   with_reducible refine Ow.nil ?_
   refine⟨fun q hq=> ?_, ?_⟩
   ·simp only[List.mem_cons,List.not_mem_nil,or_false] at hq
    rcases hq with rfl|rfl
    ·rw[Zg_ ho4]
     simp(disch:=omega) only[xr_,Jz_]
    ·rw[Zg_ h34]
     simp(disch:=omega) only[xr_,Jz_]
   have hlko: ∀M,Sx.look (D4++M) bo=Sx.look M bo:=fun M=>zG_ ho4
   have hsbo: ∀M x,setB (D4++M) bo x=D4++setB M bo x:=fun M x=>QM_ ho4
   have st1:=fun a E=>alF_ (vp bw 0) v v4 id0 (.slice none 0 0) [] a E hbuf.cell
   have hst7:xN_ (z0_ Tryz.prog 168) (D4++ [(b3,Obj.cells (jq_ x).toArray 221 (0,0)),(bo,Obj.cells (roC (vp bw 0) v id0 (.slice none 0 0) []).toArray 271 (0,0)),(bw, .cells #[vs s,vi a3,vi e3] 250 (0,0)),(b13,Obj.cells (jq_ x).toArray 221 (0,0))]) (vp bo 1) v4=some (D4++ [(b3,Obj.cells (jq_ x).toArray 221 (0,0)),(bo,Obj.cells (roC (vp bw 0) v4 id0 (.slice none 0 0) []).toArray 271 (0,0)),(bw, .cells #[vs s,vi a3,vi e3] 250 (0,0)),(b13,Obj.cells (jq_ x).toArray 221 (0,0))]):=by
    rw[Tryz.ag168,wV_,hlko]
    simp(disch:=omega) only[z3_,qW_,st1,Q1_,hsbo,xi_,xF_]
   refine kq @kF_ ?_
   refine Ow.store rfl rfl rfl hst7 ?_
   refine ko @kF_ ?_
   refine Again.mk (EnH.mk m a3 e3 (l++ [x]) v4 (D4++ [(b3,Obj.cells (jq_ x).toArray 221 (0,0)),(b13,Obj.cells (jq_ x).toArray 221 (0,0))]) _) (by show m<m+1;omega) ⟨hJ',hN4.app ⟨by omega,by omega,trivial⟩, ?_, ?_⟩ rfl rfl
   ·show Gr _ _ _ _ (l++ [x]).length ((l++ [x]).map jq_).flatten
    rw[List.length_append,List.map_append,List.flatten_append,show([x].map jq_).flatten=jq_ x by simp]
    exact Gr.app (.inl hbuf)
   ·exact(by classical exact List.perm_iff_count.2 fun a=>by simp only[List.count_append,List.count_cons,List.count_nil]<;>omega)
  ·have hd:=hJ.done hc
   have hsh:=hJ.sh (by omega)
   have hcn:=hJ.cnt
   have h5:xA_ s a e≠5:=by
    unfold xA_
    by_cases he:e=0
    ·rw[if_neg (by simp[he]),if_neg (by omega)];decide
    ·rw[if_pos he];exact hJ.five
   have d1: (xA_ s a e==5)=false:=by simpa using h5
   have hE:Ext w [(bo,Obj.cells (roC (vp bw 0) (.slice none 0 0) id0 (.slice none 0 0) []).toArray 271 (0,0)),(bw,Obj.cells #[vs s,vi 0,vi 0] 250 (0,0))] ((bo,Obj.cells (roC (vp bw 0) v id0 (.slice none 0 0) []).toArray 271 (0,0)):: (bw,Obj.cells #[vs s,vi a,vi e] 250 (0,0))::D):=by
    refine⟨fun c hc=> ?_,fun c hc=> ?_⟩
    ·simp only[keys,List.map_cons,List.map_nil,List.mem_cons,List.not_mem_nil,or_false] at hc ⊢
     rcases hc with h|h|h
     ·exact .inl (.inl h)
     ·exact .inl (.inr h)
     ·exact .inr (hN.le c h)
    ·simp only[keys,List.map_cons,List.map_nil,List.mem_cons,List.not_mem_nil,or_false] at hc ⊢
     rcases hc with h|h
     ·exact .inl h
     ·exact .inr (.inl h)
   have hF:Gr ((bo,Obj.cells (roC (vp bw 0) v id0 (.slice none 0 0) []).toArray 271 (0,0)):: (bw,Obj.cells #[vs s,vi a,vi e] 250 (0,0))::D) 221 34 v l.length (l.map jq_).flatten:=hG.keep fun b o hb ho=>by
    have:=hN.le b (zh_ ho)
    simp(disch:=omega) only[qW_]
    exact ho
   unfold apV_
   rw[hd]
   refine ko (And.intro @kF_ @d1) ?_
   refine Ow.callFV rfl Tryz.call142 (fun w' hw'=>Zx_ bw s a e w' (hw'.has _ _ (List.mem_cons_of_mem _ List.mem_cons_self))) ?_
   by_cases he:xA_ s a e=0
   ·have d2: (xA_ s a e==0)=true:=by simp[he]
    rw[d2]
    refine ko (And.intro @kF_ @d2) ?_
    refine Ow.callFV rfl Tryz.call228 (fun w' hw'=>ab3_ v l w' (hG.slM (fun b o hm=>hw'.has b o (by simp[hm])) rfl rfl jr_) (by omega) hsh) ?_
    refine ko @kF_ ?_
    first|with_reducible refine ks [] @kF_ ?_|refine kp @kF_ ?_
    refine⟨_,(ke @kF_), ?_⟩
    exact⟨hE,rfl,v,by simp only[z3_],hF⟩
   ·have d2: (xA_ s a e==0)=false:=by simpa using he
    rw[d2]
    refine ko (And.intro @kF_ @d2) ?_
    first|with_reducible refine ks [] @kF_ ?_|refine kp @kF_ ?_
    refine⟨_,(ke @kF_), ?_⟩
    exact⟨hE,rfl,v,by simp only[z3_],hF⟩
end Go.Proofs
end
section
open Go Go.Proofs Go.Sx Go.StP
namespace Go.Proofs
set_option maxRecDepth 10000
set_option maxHeartbeats 400000
set_option linter.unusedSimpArgs false
set_option linter.defProp false
def k9_:=And.intro (And.intro (And.intro (@kb_) (And.intro (@ke_) (@kk_))) (And.intro (And.intro (@xo_) (@xy_)) (And.intro (@aha_) (@ahs_)))) (And.intro (And.intro (@ahx_) (And.intro (@abM_) (@amh_))) (And.intro (And.intro (@ai6_) (@vs_)) (And.intro (@zp_) (@zo_))))
structure CmH where
 g:Nat
 v:Value
 D:zb_
 H:zb_
def ast_ (bo bw:Nat) (s:List UInt8) (v:Value) (D:zb_):Prop:=
 v= .bool (xA_ s (ZA_ s).2.1 (ZA_ s).2.2==0&&w4_ (ZA_ s).1)∧ ∃p,Sx.look D bo=some (.cells (roC (vp bw 0) (.slice none 0 0) (ZA_ s).1.tree p (ZA_ s).1.text).toArray 271 (0,0))∧Gr D 84 32 p (ZA_ s).1.par.length ((ZA_ s).1.par.map Z7_).flatten
theorem ajO_ (bo bw:Nat) (s:List UInt8) (w:World) (hs:s.length<100000) (hne:bo≠bw)
  (ho:w.heap[bo]? =some (.cells (roC (vp bw 0) (.slice none 0 0) id0 (.slice none 0 0) []).toArray 271 (0,0))) (hr:w.heap[bw]? =some (.cells #[vs s,vi 0,vi 0] 250 (0,0))):
  Rets Tryz.prog 203 #[vp bo 0] w (XS w [(bo,Obj.cells (roC (vp bw 0) (.slice none 0 0) id0 (.slice none 0 0) []).toArray 271 (0,0)),(bw,Obj.cells #[vs s,vi 0,vi 0] 250 (0,0))] (ast_ bo bw s)):=by
 have hob:bo<w.heap.size:=(Array.getElem?_eq_some_iff.1 ho).1
 have hwb:bw<w.heap.size:=(Array.getElem?_eq_some_iff.1 hr).1
 refine Rets.enterX Tryz.func203 rfl (rs:= [.tmp 2]) Tryz.results203 Tryz.ntmps203 (alA_ ho hr) (by simp[keys,hne]) ?_
 refine kf ?_
 first|with_reducible refine ks [] @k9_ ?_|refine kp @k9_ ?_
 refine Ow.callM rfl rfl Tryz.call227 (by simp[keys]) (fun w' hw'=>aaA_ bw s 0 0 w' (Nat.zero_le _) (by omega) (hw'.has _ _ (List.mem_cons_of_mem _ List.mem_cons_self))) ?_
 have ip:=WR_ (s:=s) (a:=0) (e:=0) (Nat.zero_le _)
 have np:=qO_ (e:=(idR s 0 0).2.2) (most:=4) ip.2
 have nm:=jj_ (s:=s) (a:=(idR s 0 0).2.1) (e:=(idR s 0 0).2.2) (most:=4) (by decide)
 obtain⟨T,hT⟩: ∃T,ZC_ (idR s 0 0).1=T:=⟨_,rfl⟩
 have hiT: (idR s 0 0).1=T.l:=by rw[←hT,vY_ (Qe_ s 0 0)]
 have hcE:ZA_ s=(⟨T,(wq_ s).1,(comT s).1⟩,(comT s).2):=by unfold ZA_;rw[hT]
 rw[hiT]
 refine kn ?_
 refine ko @k9_ ?_
 refine Ow.callM rfl rfl Tryz.call179 (by simp[keys]) (fun w' hw'=>wJ_ bw s _ _ 4 w' ip.2 (by omega) (hw'.has _ _ (List.mem_cons_of_mem _ List.mem_cons_self))) ?_
 have hP:wq_ s=zJ_ s (zD_ s (idR s 0 0).2.1 (idR s 0 0).2.2 4).2.1 (zD_ s (idR s 0 0).2.1 (idR s 0 0).2.2 4).2.2 (zD_ s (idR s 0 0).2.1 (idR s 0 0).2.2 4).1.toNat:=rfl
 generalize zD_ s (idR s 0 0).2.1 (idR s 0 0).2.2 4=nr at*
 obtain⟨cn,na,ne⟩:=nr
 simp only at np nm hP ⊢
 obtain⟨k,rfl⟩:=Int.eq_ofNat_of_zero_le nm.1
 rw[Int.toNat_natCast] at hP
 refine kn ?_
 refine ko @k9_ ?_
 refine Cw.loopG (G:=CmH) [18,19,20,21,22,23,24,25,26,27,28,29,30,31,32,33,34,35,17] (fun q=> [(17,vi q.g)]) (fun q=>q.H) (fun q=>q.g≤k∧New w.heap.size q.D∧Gr q.D 84 32 q.v q.g ((zJ_ s na ne q.g).1.map Z7_).flatten∧((bo,Obj.cells (roC (vp bw 0) (.slice none 0 0) T q.v []).toArray 271 (0,0)):: (bw,Obj.cells #[vs s,vi (zJ_ s na ne q.g).2.1,vi (zJ_ s na ne q.g).2.2] 250 (0,0))::q.D).Perm q.H) (fun q=>k - q.g) ⟨0, .slice none 0 0,[],[(bo,Obj.cells (roC (vp bw 0) (.slice none 0 0) T (.slice none 0 0) []).toArray 271 (0,0)),(bw,Obj.cells #[vs s,vi na,vi ne] 250 (0,0))]⟩ rfl rfl ?_ ?_
 ·exact⟨Nat.zero_le _,trivial,Gr.nl,List.Perm.refl _⟩
 ·intro q jq hq
  refine kv ?_
  obtain⟨g,v,D,H0⟩:=q
  simp only at hq ⊢
  obtain⟨hgk,hN,hG,hPm⟩:=hq
  refine Cw.permL hPm ?_
  clear hPm
  have gle:=QU_ (e:=ne) np.2 g
  by_cases hlt:g<k
  ·have hgs:zJ_ s na ne (g+1)=((zJ_ s na ne g).1++ [ZC_ (idR s (zJ_ s na ne g).2.1 (zJ_ s na ne g).2.2).1],(idR s (zJ_ s na ne g).2.1 (zJ_ s na ne g).2.2).2):=rfl
   first|with_reducible refine ks [] @k9_ ?_|refine kp @k9_ ?_
   refine Cw.regionS [bo] [0,1,2,3,4,6,7,8,5,9,10,11,12,13,14,15,16] [16] (by kernel_rfl) (by kernel_rfl) (by kernel_rfl) ?_
   simp only[zl_, ↓zg_, ↓zc_, ↓zx_, ↓zw_,zd_]
   refine kq @k9_ ?_
   refine Ow.soft rfl rfl rfl ?_
   refine Ow.callM rfl rfl Tryz.call227 (by simp[keys]) (fun w' hw'=>aaA_ bw s (zJ_ s na ne g).2.1 (zJ_ s na ne g).2.2 w' gle (by omega) (hw'.has _ _ (List.mem_cons_of_mem _ List.mem_cons_self))) ?_
   with_reducible refine Ow.nil ?_
   refine⟨fun b hb=>wx_ (by simp only[List.mem_cons,List.not_mem_nil,or_false] at hb;omega), ?_⟩
   have hil:=Qe_ s (zJ_ s na ne g).2.1 (zJ_ s na ne g).2.2
   obtain⟨I,hI⟩: ∃I,ZC_ (idR s (zJ_ s na ne g).2.1 (zJ_ s na ne g).2.2).1=I:=⟨_,rfl⟩
   have hiI: (idR s (zJ_ s na ne g).2.1 (zJ_ s na ne g).2.2).1=I.l:=by rw[←hI,vY_ hil]
   rw[hI] at hgs
   have hg1: (zJ_ s na ne (g+1)).1=(zJ_ s na ne g).1++ [I]:=by rw[hgs]
   have hg2: (zJ_ s na ne (g+1)).2=(idR s (zJ_ s na ne g).2.1 (zJ_ s na ne g).2.2).2:=by rw[hgs]
   rw[hiI,←hg2]
   refine kn ?_
   refine Ow.soft rfl rfl rfl ?_
   refine Ow.buildSlice (e:=84) (a8 I.l) rfl rfl (qA_ (cs:=I.l.map v8) Tryz.underlying106 QC_ vO_ (by decide) (by simp[I.h])) fun b13 hb13 hw13=> ?_
   with_reducible refine Ow.nil ?_
   refine⟨Zl_ (by simp[keys]), ?_⟩
   try simp only[List.cons_append,List.nil_append]
   refine Ow.soft rfl rfl rfl ?_
   refine Ow.permL (M:=D++ [(bo,Obj.cells (roC (vp bw 0) (.slice none 0 0) T v []).toArray 271 (0,0)),(bw,Obj.cells #[vs s,vi (zJ_ s na ne (g+1)).2.1,vi (zJ_ s na ne (g+1)).2.2] 250 (0,0)),(b13,Obj.cells (a8 I.l) 84 (0,0))]) (by classical exact List.perm_iff_count.2 fun a=>by simp only[List.count_append,List.count_cons,List.count_nil]<;>omega) ?_
   refine Ow.appendX (e:=84) (k:=1) (new:=Z7_ I) (X:=D) v rfl rfl rfl rfl Tryz.underlying106 QC_ (by kernel_rfl) vO_ (by rw[za_,v9_,id0.h]) Tryz.underlying106 (by intro k h;cases h) hG (fun w' hw'=>AppX.one1 (hw'.has b13 (.cells (a8 I.l) 84 (0,0)) (by simp)) (x1_ I) (Qn_ I)) (by omega) (by omega) (fun B v4 D4 hA4 hB4 hbuf hk1 hk2 hlk=> ?_)
   have hN4:New w.heap.size D4:=New.of_le fun q hq=>by
    rcases hk2 q hq with h|h
    ·exact hN.le q h
    ·omega
   have ho4:bo∉keys D4:=hN4.not hob
   with_reducible refine Ow.nil ?_
   refine⟨fun q hq=> ?_, ?_⟩
   ·rw[List.mem_singleton] at hq
    subst hq
    rw[Zg_ ho4]
    simp only[xr_]
   have hlko: ∀M,Sx.look (D4++M) bo=Sx.look M bo:=fun M=>zG_ ho4
   have hsbo: ∀M x,setB (D4++M) bo x=D4++setB M bo x:=fun M x=>QM_ ho4
   have st1:=fun a E=>aiW_ (vp bw 0) (.slice none 0 0) T v v4 [] a E hbuf.cell
   have hst7:xN_ (z0_ Tryz.prog 106) (D4++ [(bo,Obj.cells (roC (vp bw 0) (.slice none 0 0) T v []).toArray 271 (0,0)),(bw,Obj.cells #[vs s,vi (zJ_ s na ne (g+1)).2.1,vi (zJ_ s na ne (g+1)).2.2] 250 (0,0)),(b13,Obj.cells (a8 I.l) 84 (0,0))]) (vp bo 34) v4=some (D4++ [(bo,Obj.cells (roC (vp bw 0) (.slice none 0 0) T v4 []).toArray 271 (0,0)),(bw,Obj.cells #[vs s,vi (zJ_ s na ne (g+1)).2.1,vi (zJ_ s na ne (g+1)).2.2] 250 (0,0)),(b13,Obj.cells (a8 I.l) 84 (0,0))]):=by
    rw[Tryz.ag106,wV_,hlko]
    simp(disch:=omega) only[z3_,qW_,st1,Q1_,hsbo,xi_,xF_]
   refine kq @k9_ ?_
   refine Ow.store rfl rfl rfl hst7 ?_
   refine ko @k9_ ?_
   refine Again.mk (CmH.mk (g+1) v4 (D4++ [(b13,Obj.cells (a8 I.l) 84 (0,0))]) _) (by show k - (g+1)<k - g;omega) ⟨by show g+1≤k;omega,hN4.app ⟨by omega,trivial⟩, ?_, ?_⟩ rfl rfl
   ·show Gr _ _ _ _ (g+1) ((zJ_ s na ne (g+1)).1.map Z7_).flatten
    rw[hg1,List.map_append,List.flatten_append,show([I].map Z7_).flatten=Z7_ I by simp]
    exact Gr.app (.inl hbuf)
   ·exact(by classical exact List.perm_iff_count.2 fun a=>by simp only[List.count_append,List.count_cons,List.count_nil]<;>omega)
  ·obtain rfl:g=k:=by omega
   rw[←hP] at hG
   rw[←hP] at gle
   rw[←hP]
   have tp:=kh_ (e:=(wq_ s).2.2) (most:=64) gle
   first|with_reducible refine ks [] @k9_ ?_|refine kp @k9_ ?_
   refine Ow.callM rfl rfl Tryz.call141 (by simp[keys]) (fun w' hw'=>Ji_ bw s (wq_ s).2.1 (wq_ s).2.2 64 w' gle (by omega) (hw'.has _ _ (List.mem_cons_of_mem _ List.mem_cons_self))) ?_
   refine kn ?_
   refine ko @k9_ ?_
   have hT2:comT s=zL_ s (wq_ s).2.1 (wq_ s).2.2 64:=rfl
   have htl:=Qp_ s (wq_ s).2.1 (wq_ s).2.2 64
   rw[hT2] at hcE
   generalize zL_ s (wq_ s).2.1 (wq_ s).2.2 64=tx at*
   obtain⟨tt,a3,e3⟩:=tx
   simp only at tp hcE htl ⊢
   have hPl: (wq_ s).1.length=g:=by rw[hP,Qu_]
   generalize (wq_ s).1=pl at*
   have hC: ∀w',Hp w ((bo,Obj.cells (roC (vp bw 0) (.slice none 0 0) T v tt).toArray 271 (0,0)):: (bw,Obj.cells #[vs s,vi a3,vi e3] 250 (0,0))::D) w'→ComS w' (.agg (jd_ T v tt).toArray) ⟨T,pl,tt⟩:=fun w' hw'=>
    ⟨v,rfl,hG.slM (fun b o hm=>hw'.has b o (by simp[hm])) hPl rfl x1_⟩
   have hE:Ext w [(bo,Obj.cells (roC (vp bw 0) (.slice none 0 0) id0 (.slice none 0 0) []).toArray 271 (0,0)),(bw,Obj.cells #[vs s,vi 0,vi 0] 250 (0,0))] ((bo,Obj.cells (roC (vp bw 0) (.slice none 0 0) T v tt).toArray 271 (0,0)):: (bw,Obj.cells #[vs s,vi a3,vi e3] 250 (0,0))::D):=by
    refine⟨fun c hc=> ?_,fun c hc=> ?_⟩
    ·simp only[keys,List.map_cons,List.map_nil,List.mem_cons,List.not_mem_nil,or_false] at hc ⊢
     rcases hc with h|h|h
     ·exact .inl (.inl h)
     ·exact .inl (.inr h)
     ·exact .inr (hN.le c h)
    ·simp only[keys,List.map_cons,List.map_nil,List.mem_cons,List.not_mem_nil,or_false] at hc ⊢
     rcases hc with h|h
     ·exact .inl h
     ·exact .inr (.inl h)
   have hF:Gr ((bo,Obj.cells (roC (vp bw 0) (.slice none 0 0) T v tt).toArray 271 (0,0)):: (bw,Obj.cells #[vs s,vi a3,vi e3] 250 (0,0))::D) 84 32 v pl.length (pl.map Z7_).flatten:=by
    rw[hPl]
    exact hG.keep fun b o hb ho=>by
     have:=hN.le b (zh_ ho)
     simp(disch:=omega) only[qW_]
     exact ho
   unfold ast_
   rw[hcE]
   refine Ow.callFV rfl Tryz.call142 (fun w' hw'=>Zx_ bw s a3 e3 w' (hw'.has _ _ (List.mem_cons_of_mem _ List.mem_cons_self))) ?_
   by_cases he:xA_ s a3 e3=0
   ·have d2: (xA_ s a3 e3==0)=true:=by simp[he]
    rw[d2]
    refine ko (And.intro @k9_ @d2) ?_
    refine Ow.callFV rfl Tryz.call229 (fun w' hw'=>afC_ _ _ w' (hC w' hw') (by show pl.length<1000000;omega) (by show tt.length<1099511627776;omega)) ?_
    refine ko @k9_ ?_
    first|with_reducible refine ks [] @k9_ ?_|refine kp @k9_ ?_
    refine⟨_,(ke @k9_), ?_⟩
    exact⟨hE,rfl,v,by simp only[z3_],hF⟩
   ·have d2: (xA_ s a3 e3==0)=false:=by simpa using he
    rw[d2]
    refine ko (And.intro @k9_ @d2) ?_
    first|with_reducible refine ks [] @k9_ ?_|refine kp @k9_ ?_
    refine⟨_,(ke @k9_), ?_⟩
    exact⟨hE,rfl,v,by simp only[z3_],hF⟩
end Go.Proofs
end
section
open Go Go.Proofs Go.Sx Go.StP
namespace Go.Proofs
set_option maxRecDepth 10000
set_option maxHeartbeats 400000
set_option linter.unusedSimpArgs false
theorem af7_ (v:Value) (w:World):Rets Tryz.prog 201 #[v] w (fun v' D=>v'= .bool true∧D= []):=by
 refine Rets.enterV Tryz.func201 rfl (rs:= [.tmp 2]) Tryz.results201 Tryz.ntmps201 ?_
 refine kf ?_
 first|with_reducible refine ks [] @Nat.add_zero ?_|refine kp @Nat.add_zero ?_
 refine⟨_,(ke @Nat.add_zero),trivial, ?_⟩
 rfl
abbrev obV (k:Int) (t:List UInt8):Value:= .agg #[vi k,vs t]
theorem jo_ (k:Int) (t:List UInt8) (E:TypeId) (fz:Nat×Nat):zt_ (some (true,2)) (some (.cells #[vi k,vs t] E fz)) 0=some (obV k t):=(rfl)
theorem qF_ (k:Int) (t:List UInt8) (n:Nat) (E:TypeId) (fz:Nat×Nat):zt_ (some (false,n)) (some (.cells #[vi k,vs t] E fz)) 0=some (vi k):=(rfl)
theorem qE_ (k:Int) (t:List UInt8) (n:Nat) (E:TypeId) (fz:Nat×Nat):zt_ (some (false,n)) (some (.cells #[vi k,vs t] E fz)) 1=some (vs t):=(rfl)
theorem qD_ (k k':Int) (t t':List UInt8) (a:Bool) (E:TypeId):zv_ (some (a,2)) (some (.cells #[vi k',vs t'] E (0,0))) 0 (obV k t)=some (.cells #[vi k,vs t] E (0,0)):=(rfl)
set_option linter.defProp false
def jN_:=And.intro (And.intro (@jo_) (And.intro (@qF_) (@qE_))) (And.intro (@qD_) (And.intro (@zp_) (@zo_)))
def fnV (k:Nat):Value:= .func (.func k) #[] #[]
def fnsV:Array Value:= #[.nilFunc,fnV 201,fnV 202,fnV 203]
abbrev T4:TypeId:=269
theorem al2_:q5_ (vc_ Tryz.prog T4) (zM_ Tryz.prog T4) [(1,fnV 201),(2,fnV 202),(3,fnV 203)]=some (.agg fnsV):=by
 have hp:vc_ Tryz.prog T4=some [(0,1),(1,1),(2,1),(3,1)]:=id (by kernel_rfl)
 have hz:zM_ Tryz.prog T4=some (.agg #[.nilFunc, .nilFunc, .nilFunc, .nilFunc]):=id (by kernel_rfl)
 rw[hp,hz];rfl
theorem at5_:zM_ Tryz.prog T4=some (.agg #[.nilFunc, .nilFunc, .nilFunc, .nilFunc]):=id (by kernel_rfl)
theorem alV_ (a:Bool) (E:TypeId):zv_ (some (a,4)) (some (.cells #[.nilFunc, .nilFunc, .nilFunc, .nilFunc] E (0,0))) 0 (.agg fnsV)=some (.cells fnsV E (0,0)):=(rfl)
theorem aoX_ (x:Value) (hx:x.cells= #[x]):q5_ (vc_ Tryz.prog 271) (zM_ Tryz.prog 271) [(0,x)]=some (.agg (roC x (.slice none 0 0) id0 (.slice none 0 0) []).toArray):=by
 have hp:vc_ Tryz.prog 271=some [(0,1),(1,1),(2,34)]:=id (by kernel_rfl)
 have hz:zM_ Tryz.prog 271=some (.agg (roC (.pointer none) (.slice none 0 0) id0 (.slice none 0 0) []).toArray):=id (by kernel_rfl)
 rw[hp,hz]
 simp only[q5_,aeY_,List.getElem?_cons_zero,hx]
 rfl
def xH_ (k:Int) (t:List UInt8):Bool:=
 if 1≤k∧k≤3∧t.length≤4096 then
  (if k=1 then true else if k=2 then(xA_ t (j6_ t).2.1 (j6_ t).2.2==0&&kv_ (j6_ t).1) else(xA_ t (ZA_ t).2.1 (ZA_ t).2.2==0&&w4_ (ZA_ t).1))
 else false
def RdS (k:Int) (t:List UInt8) (v:Value) (D:zb_):Prop:=
 ∃p,v= .tuple #[p, .bool (xH_ k t)]∧(1≤k∧k≤3∧t.length≤4096→ ∃bo bw v1 c1 x1 y1,p=vp bo 0∧Sx.look D bo=some (.cells (roC (vp bw 0) v1 c1 x1 y1).toArray 271 (0,0))∧
  (k=2→Gr D 221 34 v1 (j6_ t).1.length ((j6_ t).1.map jq_).flatten)∧
  (k=3→c1=(ZA_ t).1.tree∧y1=(ZA_ t).1.text∧Gr D 84 32 x1 (ZA_ t).1.par.length ((ZA_ t).1.par.map Z7_).flatten)∧(k≠2→v1= .slice none 0 0))
theorem ajp_ (k:Int) (t:List UInt8) (w:World):Rets Tryz.prog 169 #[obV k t] w (XS w [] (RdS k t)):=by
 refine Rets.enterX Tryz.func169 rfl (rs:= [.tmp 2, .tmp 3]) Tryz.results169 Tryz.ntmps169 (fun p hp=>by cases hp) (by simp[keys]) ?_
 refine kf ?_
 first|with_reducible refine ks [] @jN_ ?_|refine kp @jN_ ?_
 refine Ow.box rfl rfl fun b1 hb1 hw1=> ?_
 simp only[zY_,zV_,zX_,za_,List.nil_append]
 refine ko @jN_ ?_
 refine Ow.build (.agg fnsV) rfl al2_ ?_
 refine ko @jN_ ?_
 refine Ow.alloc rfl rfl at5_ fun b4 hb4 hw4=> ?_
 simp only[za_,List.nil_append,List.cons_append]
 have h14:b1<b4:=zi_ hb4 (by simp[keys])
 refine ko (And.intro @jN_ @alV_) ?_
 by_cases h1:k<1
 ·have d1:decide (k<1)=true:=decide_eq_true h1
  have e:xH_ k t=false:=by unfold xH_;rw[if_neg (by omega)]
  first|with_reducible refine ks [] (And.intro @jN_ @d1) ?_|refine kp (And.intro @jN_ @d1) ?_
  refine⟨_,(ke @jN_), ?_⟩
  exact⟨Ext.of_new ⟨hw1,hw4,trivial⟩, .pointer none,by rw[e];rfl,fun h=>absurd h.1 (by omega)⟩
 ·have d1:decide (k<1)=false:=decide_eq_false h1
  by_cases h2:3<k
  ·have d2:decide (3<k)=true:=decide_eq_true h2
   have e:xH_ k t=false:=by unfold xH_;rw[if_neg (by omega)]
   first|with_reducible refine ks [] (And.intro @jN_ (And.intro @d1 (@d2))) ?_|refine kp (And.intro @jN_ (And.intro @d1 (@d2))) ?_
   refine⟨_,(ke @jN_), ?_⟩
   exact⟨Ext.of_new ⟨hw1,hw4,trivial⟩, .pointer none,by rw[e];rfl,fun h=>absurd h.2.1 (by omega)⟩
  ·have d2:decide (3<k)=false:=decide_eq_false h2
   by_cases h3:4096<t.length
   ·have d3:decide (4096< (t.length:Int))=true:=decide_eq_true (by omega)
    have e:xH_ k t=false:=by unfold xH_;rw[if_neg (by omega)]
    first|with_reducible refine ks [] (And.intro @jN_ (And.intro @d1 (And.intro @d2 (@d3)))) ?_|refine kp (And.intro @jN_ (And.intro @d1 (And.intro @d2 (@d3)))) ?_
    refine⟨_,(ke @jN_), ?_⟩
    exact⟨Ext.of_new ⟨hw1,hw4,trivial⟩, .pointer none,by rw[e];rfl,fun h=>absurd h.2.2 (by omega)⟩
   ·have d3:decide (4096< (t.length:Int))=false:=decide_eq_false (by omega)
    first|with_reducible refine ks [] (And.intro @jN_ (And.intro @d1 (And.intro @d2 (@d3)))) ?_|refine kp (And.intro @jN_ (And.intro @d1 (And.intro @d2 (@d3)))) ?_
    refine Ow.callF rfl rfl Tryz.call138 (S:=fun B v D=> ∃b',B≤b'∧v=vp b' 0∧D= [(b', .cells #[vs t,vi 0,vi 0] 250 (0,0))]) (fun w' hw'=>acf_ t w') ?_
    rintro B v D hab hB ⟨bw,hbw,rfl,rfl⟩
    obtain⟨h1B,h4B,-⟩:=hab
    refine⟨_,Mrg.fresh (by intro q hq;simp only[keys,List.map_cons,List.map_nil,List.mem_singleton] at hq;omega), ?_⟩
    simp only[List.cons_append,List.nil_append]
    refine ko @jN_ ?_
    refine Ow.build (.agg (roC (vp bw 0) (.slice none 0 0) id0 (.slice none 0 0) []).toArray) rfl (aoX_ _ rfl) ?_
    refine ko @jN_ ?_
    refine Ow.box rfl rfl fun bo hbo hwo=> ?_
    simp only[zY_,zV_,zX_,za_,List.nil_append,List.cons_append]
    have hobw:bo≠bw:=by have:=zi_ hbo (show bw∈keys _ by simp[keys]);omega
    rcases(show k=1∨k=2∨k=3 by omega) with rfl|rfl|rfl
    ·have lf: ∀n E fz,zt_ (some (false,n)) (some (.cells fnsV E fz)) 1=some (fnV 201):=fun _ _ _=>rfl
     have e:xH_ 1 t=true:=by unfold xH_;rw[if_pos (by omega)];rfl
     refine ko (And.intro @jN_ @lf) ?_
     refine Ow.callV rfl rfl Tryz.call201 (fun w' hw'=>by have:=af7_ (vp bo 0) w';simpa [zY_,zX_,zV_] using this) ?_
     refine ko @jN_ ?_
     first|with_reducible refine ks [] @jN_ ?_|refine kp @jN_ ?_
     refine⟨_,(ke @jN_), ?_⟩
     refine⟨Ext.of_new ⟨hw1,hw4,by omega,hwo,trivial⟩,vp bo 0,by rw[e];rfl,fun h=>⟨bo,bw, .slice none 0 0,id0, .slice none 0 0,[],rfl, ?_,fun h=>absurd h (by decide),fun h=>absurd h (by decide),fun _=>rfl⟩⟩
     have hb1o:b1≠bo:=by have:=zi_ hbo (show b1∈keys _ by simp[keys]);omega
     have hb4o:b4≠bo:=by have:=zi_ hbo (show b4∈keys _ by simp[keys]);omega
     simp(disch:=omega) only[z3_,qW_]
    ·have lf: ∀n E fz,zt_ (some (false,n)) (some (.cells fnsV E fz)) 2=some (fnV 202):=fun _ _ _=>rfl
     have e:xH_ 2 t=(xA_ t (j6_ t).2.1 (j6_ t).2.2==0&&kv_ (j6_ t).1):=by unfold xH_;rw[if_pos (by omega)];rfl
     refine ko (And.intro @jN_ @lf) ?_
     refine Ow.permL (M:= [(bo,Obj.cells (roC (vp bw 0) (.slice none 0 0) id0 (.slice none 0 0) []).toArray 271 (0,0)),(bw,Obj.cells #[vs t,vi 0,vi 0] 250 (0,0))]++ [(b1,Obj.cells #[vi 2,vs t] 82 (0,0)),(b4,Obj.cells fnsV 269 (0,0))]) (by classical exact List.perm_iff_count.2 fun a=>by simp only[List.count_append,List.count_cons,List.count_nil]<;>omega) ?_
     refine Ow.callFnX (b:=vp bo 0) (X:= [(bo,Obj.cells (roC (vp bw 0) (.slice none 0 0) id0 (.slice none 0 0) []).toArray 271 (0,0)),(bw,Obj.cells #[vs t,vi 0,vi 0] 250 (0,0))]) (Y:= [(b1,Obj.cells #[vi 2,vs t] 82 (0,0)),(b4,Obj.cells fnsV 269 (0,0))]) rfl rfl rfl rfl rfl Tryz.call202 (fun w' hw' hX hn=>af8_ bo bw t w' (by omega) hobw (hX _ List.mem_cons_self) (hX _ (List.mem_cons_of_mem _ List.mem_cons_self))) (fun v D hC hS=> ?_)
     obtain⟨rfl,v1,hl1,hg1⟩:=hS
     have hNX:New w.heap.size (D++ [(b1,Obj.cells #[vi 2,vs t] 82 (0,0)),(b4,Obj.cells fnsV 269 (0,0))]):=by
      refine New.of_le fun c hc=> ?_
      rw[zj_,List.mem_append] at hc
      rcases hc with hc|hc
      ·rcases hC.new c hc with h| ⟨-,h⟩
       ·simp only[keys,List.map_cons,List.map_nil,List.mem_cons,List.not_mem_nil,or_false] at h;omega
       ·exact h
      ·simp only[keys,List.map_cons,List.map_nil,List.mem_cons,List.not_mem_nil,or_false] at hc;omega
     refine ko @jN_ ?_
     first|with_reducible refine ks [] @jN_ ?_|refine kp @jN_ ?_
     refine⟨_,(ke @jN_), ?_⟩
     exact⟨Ext.of_new hNX,vp bo 0,by rw[e];rfl,fun _=>⟨bo,bw,v1,_,_,_,rfl,zk_ hl1,fun _=>hg1.app,fun h=>absurd h (by decide),fun h=>absurd rfl h⟩⟩
    ·have lf: ∀n E fz,zt_ (some (false,n)) (some (.cells fnsV E fz)) 3=some (fnV 203):=fun _ _ _=>rfl
     have e:xH_ 3 t=(xA_ t (ZA_ t).2.1 (ZA_ t).2.2==0&&w4_ (ZA_ t).1):=by unfold xH_;rw[if_pos (by omega)];rfl
     refine ko (And.intro @jN_ @lf) ?_
     refine Ow.permL (M:= [(bo,Obj.cells (roC (vp bw 0) (.slice none 0 0) id0 (.slice none 0 0) []).toArray 271 (0,0)),(bw,Obj.cells #[vs t,vi 0,vi 0] 250 (0,0))]++ [(b1,Obj.cells #[vi 3,vs t] 82 (0,0)),(b4,Obj.cells fnsV 269 (0,0))]) (by classical exact List.perm_iff_count.2 fun a=>by simp only[List.count_append,List.count_cons,List.count_nil]<;>omega) ?_
     refine Ow.callFnX (b:=vp bo 0) (X:= [(bo,Obj.cells (roC (vp bw 0) (.slice none 0 0) id0 (.slice none 0 0) []).toArray 271 (0,0)),(bw,Obj.cells #[vs t,vi 0,vi 0] 250 (0,0))]) (Y:= [(b1,Obj.cells #[vi 3,vs t] 82 (0,0)),(b4,Obj.cells fnsV 269 (0,0))]) rfl rfl rfl rfl rfl Tryz.call203 (fun w' hw' hX hn=>ajO_ bo bw t w' (by omega) hobw (hX _ List.mem_cons_self) (hX _ (List.mem_cons_of_mem _ List.mem_cons_self))) (fun v D hC hS=> ?_)
     obtain⟨rfl,p1,hl1,hg1⟩:=hS
     have hNX:New w.heap.size (D++ [(b1,Obj.cells #[vi 3,vs t] 82 (0,0)),(b4,Obj.cells fnsV 269 (0,0))]):=by
      refine New.of_le fun c hc=> ?_
      rw[zj_,List.mem_append] at hc
      rcases hc with hc|hc
      ·rcases hC.new c hc with h| ⟨-,h⟩
       ·simp only[keys,List.map_cons,List.map_nil,List.mem_cons,List.not_mem_nil,or_false] at h;omega
       ·exact h
      ·simp only[keys,List.map_cons,List.map_nil,List.mem_cons,List.not_mem_nil,or_false] at hc;omega
     refine ko @jN_ ?_
     first|with_reducible refine ks [] @jN_ ?_|refine kp @jN_ ?_
     refine⟨_,(ke @jN_), ?_⟩
     exact⟨Ext.of_new hNX,vp bo 0,by rw[e];rfl,fun _=>⟨bo,bw,_,_,p1,_,rfl,zk_ hl1,fun h=>absurd h (by decide),fun _=>⟨rfl,rfl,hg1.app⟩,fun _=>rfl⟩⟩
end Go.Proofs
end
section
open Go Go.Proofs Go.Sx Go.StP
namespace Go.Proofs
set_option maxRecDepth 10000
set_option maxHeartbeats 400000
set_option linter.unusedSimpArgs false
set_option linter.defProp false
def afh_:=And.intro (And.intro (And.intro (@jo_) (@qF_)) (And.intro (@qE_) (@qD_))) (And.intro (And.intro (@Sx.tup2_0) (@Sx.tup2_1)) (And.intro (@zp_) (@zo_)))
theorem KL_ (k:Int) (t:List UInt8) (w:World):Rets Tryz.prog 132 #[obV k t] w (fun v D=>v= .bool (xH_ k t)∧D= []):=by
 refine Rets.enterV Tryz.func132 rfl (rs:= [.tmp 2]) Tryz.results132 Tryz.ntmps132 ?_
 refine kf ?_
 first|with_reducible refine ks [] @afh_ ?_|refine kp @afh_ ?_
 refine Ow.box rfl rfl fun b1 hb1 hw1=> ?_
 simp only[zY_,zV_,zX_,za_,List.nil_append]
 refine ko @afh_ ?_
 refine Ow.callC rfl rfl Tryz.call169 (fun w' hw'=>ajp_ k t w') (fun B v D hA hB hN hS=> ?_)
 obtain⟨p,rfl,-⟩:=hS
 refine ko @afh_ ?_
 first|with_reducible refine ks [] @afh_ ?_|refine kp @afh_ ?_
 refine⟨_,(ke @afh_),⟨hw1,New.mono hB hN⟩, ?_⟩
 rfl
theorem ZN_:zM_ Tryz.prog 82=some (obV 0 []):=id (by kernel_rfl)
theorem kI_:q5_ (vc_ Tryz.prog 82) (zM_ Tryz.prog 82) []=some (obV 0 []):=by
 have hp:vc_ Tryz.prog 82=some [(0,1),(1,1)]:=id (by kernel_rfl)
 rw[hp,ZN_];rfl
theorem adm_ (k:Int) (t:List UInt8):q5_ (vc_ Tryz.prog 82) (zM_ Tryz.prog 82) [(0,vi k),(1,vs t)]=some (obV k t):=by
 have hp:vc_ Tryz.prog 82=some [(0,1),(1,1)]:=id (by kernel_rfl)
 rw[hp,ZN_];rfl
end Go.Proofs
end
section
open Go Go.Proofs Go.Sx Go.StP
namespace Go.Proofs
set_option maxRecDepth 10000
set_option maxHeartbeats 400000
set_option linter.unusedSimpArgs false
set_option linter.defProp false
theorem BldAt.zeroE (b:Nat) {L:zb_} (h:Sx.look L b=some (.cells #[.pointer none, .slice none 0 0] 204 (0,0))):BldAt b [] L:=
 ⟨_,_,h, .inl rfl, .nl,fun h=>by cases h⟩
theorem zrWr:zM_ Tryz.prog 204=some (.agg #[.pointer none, .slice none 0 0]):=id (by kernel_rfl)
theorem Came.newE {w0:World} {L X D:zb_} {b:Nat} (hC:Came w0 L X D) (hN:New (b+1) X) (hb:b∈keys L):New (b+1) D:=New.of_le fun c hc=>by
 rcases hC.new c hc with h| ⟨h,-⟩
 ·exact hN.le c h
 ·have:=zi_ h hb;omega
end Go.Proofs
end
section
open Go Go.Proofs Go.Sx Go.StP
namespace Go.Proofs
set_option maxRecDepth 10000
set_option maxHeartbeats 400000
set_option linter.unusedSimpArgs false
set_option linter.defProp false
end Go.Proofs
end
section
open Go Go.Proofs Go.Sx Go.StP
namespace Go.Proofs
set_option maxRecDepth 10000
set_option maxHeartbeats 400000
set_option linter.unusedSimpArgs false
theorem JU_ {k:Int} {t:List UInt8} (h:xH_ k t=true):1≤k∧k≤3∧t.length≤4096:=by
 unfold xH_ at h
 split at h
 ·assumption
 ·cases h
set_option linter.defProp false
end Go.Proofs
end
section
open Go Go.Proofs Go.Sx Go.StP
namespace Go.Proofs
set_option maxRecDepth 10000
set_option maxHeartbeats 400000
set_option linter.unusedSimpArgs false
set_option linter.defProp false
def ww_:=And.intro (And.intro (And.intro (@jo_) (@qF_)) (And.intro (@qE_) (@qD_))) (And.intro (And.intro (@Sx.tup2_0) (@Sx.tup2_1)) (And.intro (@zp_) (@zo_)))
def wW_ (k:Int):List UInt8:=(([32,98,116,99]:List UInt8).take (k+1).toNat).drop k.toNat
def qw_ (k:Int) (t:List UInt8):List UInt8:=wW_ k++xg_ t
theorem X3_ (k:Int) (t:List UInt8) (w:World):Rets Tryz.prog 99 #[obV k t] w (XS w [] (fun v _=>v=if xH_ k t then .tuple #[vs (qw_ k t),vi 0] else .tuple #[vs [],vi 1])):=by
 refine Rets.enterX Tryz.func99 rfl (rs:= [.tmp 2, .tmp 3]) Tryz.results99 Tryz.ntmps99 (fun p hp=>by cases hp) (by simp[keys]) ?_
 refine kf ?_
 first|with_reducible refine ks [] @ww_ ?_|refine kp @ww_ ?_
 refine Ow.box rfl rfl fun b1 hb1 hw1=> ?_
 simp only[zY_,zV_,zX_,za_,List.nil_append]
 refine ko @ww_ ?_
 refine Ow.callFV rfl Tryz.call132 (fun w' hw'=>KL_ k t w') ?_
 cases hr:xH_ k t
 ·refine ko @ww_ ?_
  first|with_reducible refine ks [] @ww_ ?_|refine kp @ww_ ?_
  refine⟨_,(ke @ww_), ?_⟩
  exact⟨Ext.of_new ⟨hw1,trivial⟩,rfl⟩
 ·obtain⟨hk1,hk3,htl⟩:=JU_ hr
  have hhl: (wW_ k).length≤4:=by unfold wW_;simp only[List.length_drop,List.length_take,List.length_cons,List.length_nil];omega
  refine ko @ww_ ?_
  refine Ow.alloc rfl rfl zrWr fun b4 hb4 hw4=> ?_
  simp only[za_,List.nil_append,List.cons_append]
  have h14:b1<b4:=zi_ hb4 (by simp[keys])
  refine Ow.permL (M:= [(b4,Obj.cells #[.pointer none, .slice none 0 0] 204 (0,0))]++ [(b1,Obj.cells #[vi k,vs t] 82 (0,0))]) (by classical exact List.perm_iff_count.2 fun a=>by simp only[List.count_append,List.count_cons,List.count_nil]<;>omega) ?_
  have hB0:BldAt b4 [] [(b4,Obj.cells #[.pointer none, .slice none 0 0] 204 (0,0))]:=BldAt.zeroE b4 (z3_ _ _ _)
  have hN0:New (b1+1) [(b4,Obj.cells #[.pointer none, .slice none 0 0] 204 (0,0))]:=⟨by omega,trivial⟩
  generalize [(b4,Obj.cells #[.pointer none, .slice none 0 0] 204 (0,0))]=D0 at hB0 hN0 ⊢
  have rdc: ∀ {D},New (b1+1) D→ ∀M,zz_ w (D++ (b1,Obj.cells #[vi k,vs t] 82 (0,0))::M) b1=some (.cells #[vi k,vs t] 82 (0,0)):=fun hn M=>ze_ (by rw[zG_ (hn.not (by omega))];exact z3_ _ _ _)
  have r0:=rdc hN0
  have hsl:jB_ .str (vs ([32,98,116,99]:List UInt8)) (some (some k)) (some (some (k+1)))=some (vs (wW_ k)):=ZI_ _ _ _ ⟨by omega,by omega,by simp only[List.length_cons,List.length_nil];omega⟩
  refine ko (And.intro @ww_ (And.intro @r0 (@hsl))) ?_
  refine Ow.buildSlice (e:=9) #[vs (wW_ k)] rfl rfl (by kernel_rfl) fun b14 hb14 hw14=> ?_
  have h114:b1<b14:=zi_ hb14 (by simp[keys])
  have hD14:b14∉keys D0:=fun hm=>Nat.lt_irrefl _ (zi_ hb14 (by rw[zj_];exact List.mem_append_left _ hm))
  refine ko @ww_ ?_
  refine Ow.callX (Y:= [(b1,Obj.cells #[vi k,vs t] 82 (0,0)),(b14,Obj.cells #[vs (wW_ k)] 9 (0,0))]) (by simp) rfl rfl Tryz.call133 (fun w' hw' hX hn=>aee_ b4 D0 _ _ b14 0 [wW_ k] _ _ _ w' hB0 hX hn (StrS.lit [wW_ k] rfl rfl (hw'.has _ _ (List.mem_append_right _ List.mem_cons_self))) (fun _=>hD14) (by simp;omega) (by simp)) (fun u0 E0 hC0 hS0=> ?_)
  obtain⟨rfl,hB0'⟩:=hS0
  have hN0':=Came.newE hC0 hN0 (by simp[keys])
  have hB1:=hB0'.app (Y:= [(b14,Obj.cells #[vs (wW_ k)] 9 (0,0))])
  have hN1:=hN0'.app (show New (b1+1) [(b14,Obj.cells #[vs (wW_ k)] 9 (0,0))] from⟨by omega,trivial⟩)
  refine Ow.permL (M:=(E0++ [(b14,Obj.cells #[vs (wW_ k)] 9 (0,0))])++ [(b1,Obj.cells #[vi k,vs t] 82 (0,0))]) (by classical exact List.perm_iff_count.2 fun a=>by simp only[List.count_append,List.count_cons,List.count_nil]<;>omega) ?_
  generalize E0++ [(b14,Obj.cells #[vs (wW_ k)] 9 (0,0))]=F1 at hB1 hN1 ⊢
  simp only[List.flatten_cons,List.flatten_nil,List.append_nil,List.nil_append] at hB1
  have r1:=rdc hN1
  refine ko (And.intro @ww_ @r1) ?_
  have htx:vg_ [t]=xg_ t:=by simp[vg_]
  have tll:=vw_ (s:=t) (by omega)
  have tnl: (xg_ t).length=(ZE_ (qK_ t.length)).length+t.length:=by unfold xg_;rw[List.length_append]
  have nl1:=zP_ (t.length:Int)
  refine Ow.buildSlice (e:=9) #[vs t] rfl rfl (by kernel_rfl) fun b18 hb18 hw18=> ?_
  have h118:b1<b18:=zi_ hb18 (by simp[keys])
  have hD18:b18∉keys F1:=fun hm=>Nat.lt_irrefl _ (zi_ hb18 (by rw[zj_];exact List.mem_append_left _ hm))
  refine ko @ww_ ?_
  refine Ow.callX (Y:= [(b1,Obj.cells #[vi k,vs t] 82 (0,0)),(b18,Obj.cells #[vs t] 9 (0,0))]) (by simp) rfl rfl Tryz.call134 (fun w' hw' hX hn=>aiQ_ b4 F1 _ _ b18 0 [t] _ _ _ w' hB1 hX hn (StrS.lit [t] rfl rfl (hw'.has _ _ (List.mem_append_right _ List.mem_cons_self))) (fun _=>hD18) (by rw[htx];omega) (by simp)) (fun u1 E1 hC1 hS1=> ?_)
  obtain⟨rfl,hB1'⟩:=hS1
  have hN1':=Came.newE hC1 hN1 (by simp[keys])
  have hB2:=hB1'.app (Y:= [(b18,Obj.cells #[vs t] 9 (0,0))])
  have hN2:=hN1'.app (show New (b1+1) [(b18,Obj.cells #[vs t] 9 (0,0))] from⟨by omega,trivial⟩)
  refine Ow.permL (M:=(E1++ [(b18,Obj.cells #[vs t] 9 (0,0))])++ [(b1,Obj.cells #[vi k,vs t] 82 (0,0))]) (by classical exact List.perm_iff_count.2 fun a=>by simp only[List.count_append,List.count_cons,List.count_nil]<;>omega) ?_
  generalize E1++ [(b18,Obj.cells #[vs t] 9 (0,0))]=F2 at hB2 hN2 ⊢
  rw[htx] at hB2
  refine ko @ww_ ?_
  refine Ow.callX (Y:= [(b1,Obj.cells #[vi k,vs t] 82 (0,0))]) (by simp) rfl rfl Tryz.call135 (fun w' hw' hX hn=>aef_ b4 F2 _ w' hB2 hX hn (by rw[List.length_append];omega)) (fun v5 D5 hC5 hS5=> ?_)
  obtain rfl:=hS5
  have hN5:=Came.newE hC5 hN2 (by simp[keys])
  refine ko @ww_ ?_
  first|with_reducible refine ks [] @ww_ ?_|refine kp @ww_ ?_
  refine⟨_,(ke @ww_), ?_⟩
  exact⟨Ext.of_new ((New.mono (by omega) hN5).app ⟨hw1,trivial⟩),rfl⟩
end Go.Proofs
end
section
open Go Go.Proofs Go.Sx Go.StP
namespace Go.Proofs
set_option maxRecDepth 10000
set_option maxHeartbeats 400000
set_option linter.unusedSimpArgs false
set_option linter.defProp false
def kM_:=And.intro (And.intro (And.intro (@jo_) (@qF_)) (And.intro (@qE_) (@qD_))) (And.intro (And.intro (@Sx.tup2_0) (@Sx.tup2_1)) (And.intro (@vs_) (And.intro (@zp_) (@zo_))))
def x8_ (k:Int) (t:List UInt8):Bool:=if 4096<t.length then false else if k=2 then(aeK_ t).isSome else if k=3 then(afL_ t).isSome else k==1
theorem ZV_ (k:Int) (t:List UInt8) (w:World):Rets Tryz.prog 54 #[obV k t] w (fun v D=>v= .bool (x8_ k t)∧D= []):=by
 refine Rets.enterV Tryz.func54 rfl (rs:= [.tmp 2]) Tryz.results54 Tryz.ntmps54 ?_
 refine kf ?_
 first|with_reducible refine ks [] @kM_ ?_|refine kp @kM_ ?_
 refine Ow.box rfl rfl fun b1 hb1 hw1=> ?_
 simp only[zY_,zV_,zX_,za_,List.nil_append]
 refine ko @kM_ ?_
 unfold x8_
 by_cases h3:4096<t.length
 ·have d1:decide (4096< (t.length:Int))=true:=decide_eq_true (by omega)
  rw[if_pos h3]
  first|with_reducible refine ks [] (And.intro @kM_ @d1) ?_|refine kp (And.intro @kM_ @d1) ?_
  refine⟨_,(ke @kM_),⟨hw1,trivial⟩, ?_⟩
  rfl
 ·have d1:decide (4096< (t.length:Int))=false:=decide_eq_false (by omega)
  rw[if_neg h3]
  by_cases h2:k=2
  ·subst h2
   rw[if_pos rfl]
   first|with_reducible refine ks [] (And.intro @kM_ @d1) ?_|refine kp (And.intro @kM_ @d1) ?_
   refine Ow.callC rfl rfl Tryz.call108 (fun w' hw'=>abt_ t w' (by omega)) (fun B v D hA hB hN hS=> ?_)
   obtain⟨p,b,rfl,hb⟩: ∃p b,v= .tuple #[p, .bool b]∧(aeK_ t).isSome=b:=by
    unfold alE_ at hS
    cases h:aeK_ t with
    |none=>rw[h] at hS;exact⟨_,_,hS,rfl⟩
    |some l=>rw[h] at hS;obtain⟨v1,rfl,-⟩:=hS;exact⟨_,_,rfl,rfl⟩
   rw[hb]
   refine ko @kM_ ?_
   first|with_reducible refine ks [] @kM_ ?_|refine kp @kM_ ?_
   refine⟨_,(ke @kM_),⟨hw1,New.mono hB hN⟩, ?_⟩
   rfl
  ·have d2: (k==2)=false:=by simpa using h2
   rw[if_neg h2]
   by_cases h4:k=3
   ·subst h4
    rw[if_pos rfl]
    first|with_reducible refine ks [] (And.intro @kM_ (And.intro @d1 (@d2))) ?_|refine kp (And.intro @kM_ (And.intro @d1 (@d2))) ?_
    refine Ow.callC rfl rfl Tryz.call109 (fun w' hw'=>aa1_ t w' (by omega)) (fun B v D hA hB hN hS=> ?_)
    obtain⟨c,p,x,b,rfl,hp,hb⟩: ∃c p x b,v= .tuple #[.agg (jd_ c p x).toArray, .bool b]∧Value.oneCell' p=true∧(afL_ t).isSome=b:=by
     unfold amD_ at hS
     cases h:afL_ t with
     |none=>rw[h] at hS;exact⟨_,_,_,_,hS,rfl,rfl⟩
     |some l=>rw[h] at hS;obtain⟨v1,rfl,hg⟩:=hS;exact⟨_,_,_,_,rfl,hg.cell.1,rfl⟩
    rw[hb]
    have stq: ∀a E,zv_ (some (a,34)) (some (.cells (jd_ id0 (.slice none 0 0) []).toArray E (0,0))) 0 (.agg (jd_ c p x).toArray)=some (.cells (jd_ c p x).toArray E (0,0)):=fun a E=>Vi_ _ _ _ _ a E (by rw[List.size_toArray,Zp_]) hp
    refine ko @kM_ ?_
    refine Ow.alloc rfl rfl apn_ fun b5 hb5 hw5=> ?_
    simp only[za_,List.nil_append,List.cons_append]
    refine Ow.permL (M:=(b5,Obj.cells (jd_ id0 (.slice none 0 0) []).toArray 172 (0,0)):: (b1,Obj.cells #[vi 3,vs t] 82 (0,0))::D) (by classical exact List.perm_iff_count.2 fun a=>by simp only[List.count_append,List.count_cons,List.count_nil]<;>omega) ?_
    refine ko (And.intro @kM_ @stq) ?_
    first|with_reducible refine ks [] @kM_ ?_|refine kp @kM_ ?_
    refine⟨_,(ke @kM_),⟨hw5,hw1,New.mono hB hN⟩, ?_⟩
    rfl
   ·have d3: (k==3)=false:=by simpa using h4
    rw[if_neg h4]
    first|with_reducible refine ks [] (And.intro @kM_ (And.intro @d1 (And.intro @d2 (@d3)))) ?_|refine kp (And.intro @kM_ (And.intro @d1 (And.intro @d2 (@d3)))) ?_
    refine⟨_,(ke @kM_),⟨hw1,trivial⟩, ?_⟩
    rfl
end Go.Proofs
end
section
open Go Go.Proofs Go.Sx Go.StP
namespace Go.Proofs
set_option maxRecDepth 10000
set_option maxHeartbeats 400000
set_option linter.unusedSimpArgs false
theorem amj_ (n:Nat):0< (ZE_ n).length:=by
 by_cases h:n<128
 ·rw[xb_ h];simp
 ·rw[v0_ h];simp
theorem ag2_ (most:Int): ∀ (l:List UInt8) (k acc m k':Nat),z5_ most l k acc= .ok (m,k')→ ∃n,l=ZE_ n++l.drop (k' - k)∧m=acc+n*128^k∧(0<k→0<n)∧k<k':=by
 intro l
 induction l with
 |nil=>intro k acc m k' h;simp[z5_] at h
 |cons c r ih=>
  intro k acc m k' h
  unfold z5_ at h
  have hcl:=c.toNat_lt
  split at h
  ·rename_i hc
   split at h
   ·cases h
   ·obtain⟨n,h1,h2,h3,h4⟩:=ih _ _ _ _ h
    have hn:=h3 (by omega)
    refine⟨c.toNat%128+128*n, ?_, ?_,fun _=>by omega,by omega⟩
    ·rw[v0_ (by omega),show(c.toNat%128+128*n) / 128=n by omega,show(c.toNat%128+128*n)%128+128=c.toNat by omega]
     rw[show k' - k=(k' - (k+1))+1 by omega,List.drop_succ_cons,List.cons_append,←h1]
     simp
    ·rw[h2,Nat.pow_succ,Nat.add_mul,Nat.add_assoc]
     congr 2
     rw[Nat.mul_comm 128 n,Nat.mul_assoc,Nat.mul_comm (128^k) 128]
  ·rename_i hc
   split at h
   ·cases h
   ·rename_i hz
    split at h
    ·cases h
     refine⟨c.toNat, ?_, ?_,fun hk=>by omega,by omega⟩
     ·rw[xb_ (by omega),Nat.add_sub_cancel_left]
      simp
     ·rw[Nat.mod_eq_of_lt (by omega)]
    ·cases h
theorem Zu_ {n:Nat} (h:n≤1099511627775):qK_ (n:Int)=n:=vG_ (by omega)
theorem J2_ (most:Int): ∀ (l:List UInt8) (k n m k':Nat),z5_ most l k n= .ok (m,k')→m≤1099511627775
 | [],_,_,_,_,h=>by simp[z5_] at h
 |c::r,k,n,m,k',h=>by
  unfold z5_ at h
  split at h
  ·split at h
   ·cases h
   ·exact J2_ most r _ _ _ _ h
  ·split at h
   ·cases h
   ·split at h
    ·rename_i hh
     cases h
     exact hh.1
    ·cases h
theorem Js_ {s:List UInt8} {a:Nat} {most:Int} (h: (zD_ s a 0 most).2.2=0): ∃n:Nat,(zD_ s a 0 most).1=(n:Int)∧n≤1099511627775∧(n:Int)≤most∧s.drop a=ZE_ n++s.drop (zD_ s a 0 most).2.1:=by
 unfold zD_ at h ⊢
 rw[if_neg (by simp)] at h ⊢
 cases hg:z5_ most (s.drop a) 0 0 with
 |ok p=>
  obtain⟨m,k⟩:=p
  obtain⟨n,h1,h2,-,-⟩:=ag2_ _ _ _ _ _ _ hg
  obtain rfl:m=n:=by rw[h2];simp
  refine⟨m,rfl,J2_ _ _ _ _ _ _ hg,ZS_ _ _ _ _ _ _ hg, ?_⟩
  rw[Nat.sub_zero,List.drop_drop] at h1
  exact h1
 |error x=>
  rw[hg] at h
  exfalso
  have:x=0:=by have: ((x:Nat):Int)=0:=h;omega
  subst this
  exact alZ_ _ _ _ _ hg
theorem Wj_ {s:List UInt8} {a:Nat} {n:Int} (ha:a≤s.length) (h: (jw_ s a 0 n).2.2=0):0≤n∧(jw_ s a 0 n).1.length=n.toNat∧s.drop a=(jw_ s a 0 n).1++s.drop (jw_ s a 0 n).2.1:=by
 unfold jw_ at h ⊢
 rw[if_neg (by simp)] at h ⊢
 split at h
 ·exact absurd (show(2:Int)=0 from h) (by decide)
 ·rename_i h1
  rw[if_neg h1]
  split at h
  ·exact absurd (show(3:Int)=0 from h) (by decide)
  ·rename_i h2
   rw[if_neg h2]
   refine⟨by omega, ?_, ?_⟩
   ·simp only[List.length_take,List.length_drop];omega
   ·simp only
    rw[←List.drop_drop,List.take_append_drop]
theorem KT_ {s:List UInt8} {a:Nat} {most:Int} (ha:a≤s.length) (h: (zL_ s a 0 most).2.2=0): ((zL_ s a 0 most).1.length:Int)≤most∧s.drop a=xg_ (zL_ s a 0 most).1++s.drop (zL_ s a 0 most).2.1:=by
 have hle:=qO_ (e:=0) (most:=most) ha
 have e1: (zD_ s a 0 most).2.2=0:=Decidable.byContradiction fun hn=>by
  unfold zL_ at h
  simp only[ahZ_ hn] at h
  rw[if_pos hn] at h
  exact hn h
 obtain⟨n,hn,hb,hm,hd⟩:=Js_ e1
 unfold zL_ at h ⊢
 simp only at h ⊢
 generalize zD_ s a 0 most=p at*
 obtain⟨p1,p2,p3⟩:=p
 simp only at e1 hn hd hle h ⊢
 subst e1 hn
 have e2: (jw_ s p2 0 (n:Int)).2.2=0:=Decidable.byContradiction fun hh=>by rw[if_pos hh] at h;exact hh h
 rw[if_neg (by simp[e2])]
 obtain⟨-,hl,hr⟩:=Wj_ hle.2 e2
 rw[Int.toNat_natCast] at hl
 refine⟨by rw[hl];exact hm, ?_⟩
 unfold xg_
 rw[hl,Zu_ hb,List.append_assoc,←hr]
 exact hd
theorem X2_ {s:List UInt8} {a:Nat} (ha:a≤s.length) (h: (idR s a 0).2.2=0):s.drop a=(ZC_ (idR s a 0).1).l++s.drop (idR s a 0).2.1:=by
 have e2: (jw_ s a 0 32).2.2=0:=h
 obtain⟨-,hl,hr⟩:=Wj_ ha e2
 rw[vY_ (Qe_ s a 0)]
 unfold idR
 simp only
 have hl': (jw_ s a 0 32).1.length=32:=hl
 rw[if_pos hl']
 exact hr
theorem aiH_ {s:List UInt8} {a:Nat} (ha:a≤s.length) (h: (Vq_ s a 0).2.2=0):s.drop a=entB (Vq_ s a 0).1++s.drop (Vq_ s a 0).2.1:=by
 have hq:=qO_ (e:=0) (most:=2) ha
 unfold Vq_ at h ⊢
 simp only at h ⊢
 have e1: (zD_ s a 0 2).2.2=0:=Decidable.byContradiction fun hn=>by
  rw[all_ (by rw[abf_ hn];exact hn),abf_ hn] at h;exact hn h
 obtain⟨n,hn,hb,-,hd⟩:=Js_ e1
 generalize zD_ s a 0 2=p at*
 obtain⟨p1,p2,p3⟩:=p
 simp only at e1 hn hd hq h ⊢
 subst e1 hn
 have ht:=kh_ (e:=0) (most:=32) hq.2
 have e2: (zL_ s p2 0 32).2.2=0:=Decidable.byContradiction fun hn=>by rw[all_ hn] at h;exact hn h
 obtain⟨-,hd2⟩:=KT_ hq.2 e2
 generalize zL_ s p2 0 32=q at*
 obtain⟨q1,q2,q3⟩:=q
 simp only at e2 hd2 ht h ⊢
 subst e2
 have hd3:=X2_ ht.2 h
 unfold entB
 simp only
 rw[Zu_ hb,List.append_assoc,List.append_assoc,←hd3,←hd2]
 exact hd
theorem aiU_ (l:List EntL) (x:EntL):k5_ (l++ [x])=k5_ l++entB x:=by unfold k5_;simp
theorem JV_ {s:List UInt8}: ∀ (n a:Nat) (e:Int) (l:List EntL),a≤s.length→(e=0→s=k5_ l++s.drop a)→((kU_ s n a e l).2.2=0→s=k5_ (kU_ s n a e l).1++s.drop (kU_ s n a e l).2.1)
 |0,_,_,_,_,h=>h
 |n+1,a,e,l,ha,h=>by
  by_cases hc:e=0∧a<s.length
  ·rw[X9_ hc]
   refine JV_ n _ _ _ (agg_ ha).2 fun h0=> ?_
   obtain⟨rfl,-⟩:=hc
   rw[aiU_,List.append_assoc,←aiH_ ha h0]
   exact h rfl
  ·rw[Jn_ hc]
   exact h
theorem X5_ {s:List UInt8} {a:Nat} {e:Int} (h:xA_ s a e=0):e=0∧s.length≤a:=by
 unfold xA_ at h
 split at h
 ·rename_i he;exact absurd h he
 ·rename_i he
  split at h
  ·exact absurd h (by decide)
  ·exact⟨Decidable.byContradiction he,by omega⟩
theorem afM_ {s:List UInt8} (h:xA_ s (j6_ s).2.1 (j6_ s).2.2=0):k5_ (j6_ s).1=s:=by
 obtain⟨h1,h2⟩:=X5_ h
 have:=JV_ (s:=s) (s.length+1) 0 0 [] (Nat.zero_le _) (fun _=>by simp[k5_]) h1
 rw[show kU_ s (s.length+1) 0 0 []=j6_ s from rfl,List.drop_eq_nil_of_le h2,List.append_nil] at this
 exact this.symm
theorem KB_ {s:List UInt8}: ∀ (n a:Nat) (e:Int) (l:List EntL),a≤s.length→(e=0→s.length<a+n)→(kU_ s n a e l).2.2=0→s.length≤ (kU_ s n a e l).2.1
 |0,a,e,l,ha,hf,h=>by have:=hf h;show s.length≤a;omega
 |n+1,a,e,l,ha,hf,h=>by
  by_cases hc:e=0∧a<s.length
  ·rw[X9_ hc] at h ⊢
   refine KB_ n _ _ _ (agg_ ha).2 (fun h0=> ?_) h
   obtain⟨rfl,-⟩:=hc
   have:=akt_ ha h0
   have:=hf rfl
   omega
  ·rw[Jn_ hc] at h ⊢
   have h':e=0:=h
   exact Decidable.byContradiction fun hn=>hc ⟨h',by have hn': ¬s.length≤a:=hn;omega⟩
theorem acP_ (s:List UInt8): (xA_ s (j6_ s).2.1 (j6_ s).2.2=0)↔(j6_ s).2.2=0:=by
 refine⟨fun h=>(X5_ h).1,fun h=> ?_⟩
 have:=KB_ (s:=s) (s.length+1) 0 0 [] (Nat.zero_le _) (fun _=>by omega) h
 have h2:s.length≤ (j6_ s).2.1:=this
 unfold xA_
 rw[if_neg (by simp[h]),if_neg (by omega)]
theorem ak3_ (l:List IdL) (x:IdL):idsB (l++ [x])=idsB l++x.l:=by unfold idsB;simp
theorem Kj_ {s:List UInt8} {a:Nat} (ha:a≤s.length): ∀n,(zJ_ s a 0 n).2.2=0→s.drop a=idsB (zJ_ s a 0 n).1++s.drop (zJ_ s a 0 n).2.1
 |0,_=>by simp[zJ_,idsB]
 |n+1,h=>by
  unfold zJ_ at h ⊢
  simp only at h ⊢
  have e1: (zJ_ s a 0 n).2.2=0:=Decidable.byContradiction fun hn=>by rw[all_ hn] at h;exact hn h
  have ih:=Kj_ ha n e1
  have hl:=QU_ (e:=0) ha n
  generalize zJ_ s a 0 n=p at*
  obtain⟨p1,p2,p3⟩:=p
  simp only at e1 ih hl h ⊢
  subst e1
  rw[ak3_,List.append_assoc,←X2_ hl h]
  exact ih
theorem amS_ {s:List UInt8} {a:Nat} {e:Int} (he:e≠0): ∀n,(zJ_ s a e n).2=(a,e)
 |0=>rfl
 |n+1=>by
  have ih:=amS_ (s:=s) (a:=a) he n
  unfold zJ_
  simp only
  rw[ih,all_ he]
theorem ai1_ {s:List UInt8} (h:xA_ s (ZA_ s).2.1 (ZA_ s).2.2=0):comB (ZA_ s).1=s:=by
 obtain⟨h1,h2⟩:=X5_ h
 have ip:=WR_ (s:=s) (a:=0) (e:=0) (Nat.zero_le _)
 have np:=qO_ (e:=(idR s 0 0).2.2) (most:=4) ip.2
 unfold ZA_ at h1 h2 ⊢
 simp only at h1 h2 ⊢
 have e3: (wq_ s).2.2=0:=Decidable.byContradiction fun hn=>by unfold comT at h1;rw[abf_ hn] at h1;exact hn h1
 have e2: (comN s).2.2=0:=Decidable.byContradiction fun hn=>by unfold wq_ at e3;rw[amS_ hn] at e3;exact hn e3
 have e1: (idR s 0 0).2.2=0:=Decidable.byContradiction fun hn=>by unfold comN at e2;rw[amW_ hn] at e2;exact hn e2
 have d1:=X2_ (Nat.zero_le _) e1
 rw[e1] at np
 have hcN:comN s=zD_ s (idR s 0 0).2.1 0 4:=by unfold comN;rw[e1]
 rw[hcN] at e2
 obtain⟨n,hn,hb,-,d2⟩:=Js_ e2
 have hcP:wq_ s=zJ_ s (comN s).2.1 0 n:=by unfold wq_;rw[hcN,e2,hn,Int.toNat_natCast]
 have hp: (comN s).2.1≤s.length:=by rw[hcN];exact np.2
 rw[hcP] at e3
 have d3:=Kj_ hp n e3
 have hpl: (wq_ s).1.length=n:=by rw[hcP,Qu_]
 have hcT:comT s=zL_ s (wq_ s).2.1 0 64:=by unfold comT;rw[hcP,e3]
 have hle: (wq_ s).2.1≤s.length:=by rw[hcP];exact QU_ hp n
 rw[hcT] at h1
 obtain⟨-,d4⟩:=KT_ hle h1
 rw[←hcT] at d4
 rw[←hcP] at d3
 rw[←hcN] at d2
 unfold comB ae9_
 simp only
 rw[hpl,Zu_ hb]
 rw[List.drop_eq_nil_of_le h2,List.append_nil] at d4
 rw[List.append_assoc,List.append_assoc,←d4,←d3,←d2,←d1]
 rfl
theorem Ze_ (k:Int) (t:List UInt8):xH_ k t=x8_ k t:=by
 unfold xH_ x8_
 by_cases h4:4096<t.length
 ·rw[if_neg (by omega),if_pos h4]
 ·rw[if_neg h4]
  by_cases h2:k=2
  ·subst h2
   rw[if_pos (by omega),if_neg (by decide),if_pos rfl,if_pos rfl]
   unfold aeK_
   by_cases hz:xA_ t (j6_ t).2.1 (j6_ t).2.2=0
   ·have:=afM_ hz
    have h1:=(acP_ t).1 hz
    rw[hz]
    cases ho:kv_ (j6_ t).1
    ·rw[if_neg (fun h=>by cases h.2.1)];rfl
    ·rw[if_pos ⟨h1,rfl,this⟩];rfl
   ·have h': ¬ (j6_ t).2.2=0:=fun h=>hz ((acP_ t).2 h)
    simp[hz,h']
  ·by_cases h3:k=3
   ·subst h3
    rw[if_pos (by omega),if_neg (by decide),if_neg (by decide),if_neg (by decide),if_pos rfl]
    unfold afL_
    by_cases hz:xA_ t (ZA_ t).2.1 (ZA_ t).2.2=0
    ·have:=ai1_ hz
     cases ho:w4_ (ZA_ t).1<;>simp[hz,this]
    ·simp[hz]
   ·rw[if_neg h2,if_neg h3]
    by_cases h1:k=1
    ·subst h1
     rw[if_pos (by omega)];rfl
    ·rw[if_neg (by omega)]
     simp[h1,h2]
theorem aeD_ (most:Int) (r:List UInt8): ∀ (n k acc:Nat),(0<k→0<n)→k+ (ZE_ n).length≤6→acc+n*128^k≤1099511627775→((acc+n*128^k:Nat):Int)≤most→
  z5_ most (ZE_ n++r) k acc= .ok (acc+n*128^k,k+ (ZE_ n).length):=by
 intro n
 induction n using Nat.strongRecOn with
 |ind n ih=>
  intro k acc hk hl hs hm
  by_cases h:n<128
  ·rw[xb_ h,List.cons_append,List.nil_append,z5_]
   have hc: (UInt8.ofNat n).toNat=n:=by rw[UInt8.toNat_ofNat'];omega
   rw[hc,Nat.mod_eq_of_lt h,if_neg (by omega),if_neg (by omega),if_pos ⟨hs,hm⟩]
   rfl
  ·have hb:=v0_ h
   rw[hb] at hl ⊢
   rw[List.cons_append,z5_]
   have hc: (UInt8.ofNat (n%128+128)).toNat=n%128+128:=by rw[UInt8.toNat_ofNat'];omega
   have hp:=amj_ (n / 128)
   rw[List.length_cons] at hl
   have e:acc+ (n%128+128)%128*128^k+n / 128*128^ (k+1)=acc+n*128^k:=by
    have h1: (n%128+128)%128=n%128:=by omega
    rw[h1,Nat.pow_succ,Nat.add_assoc]
    congr 1
    have h2:n / 128* (128^k*128)=(n / 128*128)*128^k:=by rw[Nat.mul_comm (128^k),Nat.mul_assoc]
    rw[h2,←Nat.add_mul]
    congr 1
    omega
   rw[hc,if_pos (by omega),if_neg (by omega),ih (n / 128) (by omega) (k+1) _ (fun _=>by omega) (by omega) (by rw[e];exact hs) (by rw[e];exact hm),e,List.length_cons]
   congr 2
   omega
theorem amA_ (A r:List UInt8) (n:Nat) (most:Int) (hn:n≤1099511627775) (hm: (n:Int)≤most):zD_ (A++ (ZE_ n++r)) A.length 0 most=((n:Int),A.length+ (ZE_ n).length,0):=by
 have hl:=kB_ 6 n (by omega) (by omega)
 have h:=aeD_ most r n 0 0 (fun h=>absurd h (Nat.lt_irrefl 0)) (by omega) (by simpa using hn) (by simpa using hm)
 simp only[Nat.pow_zero,Nat.mul_one,Nat.zero_add] at h
 exact K0_ rfl (by rw[List.drop_left];exact h)
theorem al4_ (A x r:List UInt8):jw_ (A++ (x++r)) A.length 0 (x.length:Int)=(x,A.length+x.length,0):=by
 unfold jw_
 rw[if_neg (by simp),if_neg (by omega),if_neg (by simp only[List.length_append];omega),List.drop_left,Int.toNat_natCast,List.take_left]
theorem ajt_ (A t r:List UInt8) (most:Int) (hn:t.length≤1099511627775) (hm: (t.length:Int)≤most):zL_ (A++ (xg_ t++r)) A.length 0 most=(t,A.length+ (xg_ t).length,0):=by
 have h1:=amA_ A (t++r) t.length most hn hm
 have h2:=al4_ (A++ZE_ t.length) t r
 unfold zL_ xg_
 rw[Zu_ (by omega)]
 rw[List.append_assoc,h1]
 simp only
 rw[List.append_assoc,List.length_append] at h2
 rw[h2]
 simp only[ne_eq,not_true_eq_false, ↓reduceIte,List.length_append,Nat.add_assoc]
end Go.Proofs
end
section
open Go Go.Proofs Go.Sx Go.StP
namespace Go.Proofs
set_option maxRecDepth 10000
set_option maxHeartbeats 400000
set_option linter.unusedSimpArgs false
theorem agf_ (s:List UInt8) (c:UInt8) (w:World): (callFunc 231 #[vs s,v8 c]).run Tryz.prog w= .ok (.value (vi (Lib.indexByte s c))) w:=by
 rw[run_callFunc_extern Tryz.func231 (by kernel_rfl) (by kernel_rfl) (by kernel_rfl) (e:=Extern.BytealgIndexByte.indexByte) (by kernel_rfl)]
 have h:=Lib.run_indexByteString (P:=Tryz.prog) ⟨s.toArray⟩ (c.toNat:Int) w
 have e: ((c.toNat:Int)).toNat.toUInt8=c:=by simp
 rw[e] at h
 show((Extern.BytealgIndexByte.indexByte #[.string ⟨s.toArray⟩, .int .u8 (c.toNat:Int)]).run Tryz.prog w).andThen _=_
 rw[h];rfl
theorem VR_ (s:List UInt8) (c:UInt8) (w:World):Rets Tryz.prog 207 #[vs s,v8 c] w (fun v D=>v=vi (Lib.indexByte s c)∧D= []):=by
 refine Rets.enterV Tryz.func207 rfl (rs:= [.tmp 4]) Tryz.results207 Tryz.ntmps207 ?_
 refine kf ?_
 first|with_reducible refine ks [] @Nat.add_zero ?_|refine kp @Nat.add_zero ?_
 refine Ow.callExt rfl rfl (fun w=>agf_ s c w) ?_
 refine ko @Nat.add_zero ?_
 first|with_reducible refine ks [] @Nat.add_zero ?_|refine kp @Nat.add_zero ?_
 refine⟨_,(ke @Nat.add_zero),trivial, ?_⟩
 rfl
def idxT (s:List UInt8):List UInt8→Int
 | []=>0
 |c::_=>Lib.indexByte s c
theorem Kv_ (s x:List UInt8) (w:World) (hx:x.length≤1) (hs:2≤s.length) (_hsl:s.length<1099511627776):Rets Tryz.prog 175 #[vs s,vs x] w (fun v D=>v=vi (idxT s x)∧D= []):=by
 refine Rets.enterV Tryz.func175 rfl (rs:= [.tmp 4]) Tryz.results175 Tryz.ntmps175 ?_
 refine kf ?_
 match x,hx with
 | [],_=>
  have d1: (((([]:List UInt8).length:Nat):Int)==0)=true:=rfl
  first|with_reducible refine ks [] @d1 ?_|refine kp @d1 ?_
  refine⟨_,(ke @Nat.add_zero),trivial, ?_⟩
  rfl
 | [c],_=>
  have d1: ((([c]:List UInt8).length:Int)==0)=false:=rfl
  have d2: ([c]==s)=false:=beq_eq_false_iff_ne.2 fun e=>by rw[←e] at hs;simp at hs
  have d3: ((([c]:List UInt8).length:Int)==1)=true:=rfl
  have i0: ([c]:List UInt8).getD 0 0=c:=rfl
  first|with_reducible refine ks [] (And.intro @d1 (And.intro @d2 (And.intro @d3 (@i0)))) ?_|refine kp (And.intro @d1 (And.intro @d2 (And.intro @d3 (@i0)))) ?_
  refine Ow.callFV rfl Tryz.call207 (fun w' hw'=>VR_ s c w') ?_
  refine ko @Nat.add_zero ?_
  first|with_reducible refine ks [] @Nat.add_zero ?_|refine kp @Nat.add_zero ?_
  refine⟨_,(ke @Nat.add_zero),trivial, ?_⟩
  rfl
theorem ajB_ (s x:List UInt8) (w:World) (hx:x.length≤1) (hs:2≤s.length) (hsl:s.length<1099511627776):Rets Tryz.prog 139 #[vs s,vs x] w (fun v D=>v=vi (idxT s x)∧D= []):=by
 refine Rets.enterV Tryz.func139 rfl (rs:= [.tmp 4]) Tryz.results139 Tryz.ntmps139 ?_
 refine kf ?_
 first|with_reducible refine ks [] @Nat.add_zero ?_|refine kp @Nat.add_zero ?_
 refine Ow.callFV rfl Tryz.call175 (fun w' hw'=>Kv_ s x w' hx hs hsl) ?_
 refine ko @Nat.add_zero ?_
 first|with_reducible refine ks [] @Nat.add_zero ?_|refine kp @Nat.add_zero ?_
 refine⟨_,(ke @Nat.add_zero),trivial, ?_⟩
 rfl
abbrev letL:List UInt8:= [32,98,116,99]
def frR (s:List UInt8):List UInt8×Nat×Int:=jw_ s 0 0 1
def frT (s:List UInt8):List UInt8×Nat×Int:=zL_ s (frR s).2.1 (frR s).2.2 4096
def frK (s:List UInt8):Int:=idxT letL (frR s).1
def Jd_ (s:List UInt8):Bool:=xA_ s (frT s).2.1 (frT s).2.2==0&&xH_ (frK s) (frT s).1
theorem ash_ (s:List UInt8): (frR s).1.length≤1:=by
 unfold frR jw_
 rw[if_neg (by simp),if_neg (by decide)]
 split
 ·simp
 ·simp only[List.length_take,Int.toNat_one];omega
def aqc_ (s:List UInt8) (v:Value):Prop:=v= .tuple #[obV (if Jd_ s then frK s else 0) (if Jd_ s then(frT s).1 else []),vi (if Jd_ s then 0 else 2)]
set_option linter.defProp false
def xS_:=And.intro (And.intro (And.intro (@jo_) (@qF_)) (And.intro (@qE_) (@qD_))) (And.intro (And.intro (@Sx.tup2_0) (@Sx.tup2_1)) (And.intro (@zp_) (@zo_)))
theorem aiD_ (s:List UInt8) (w:World) (hs:s.length<1099511627776):Rets Tryz.prog 103 #[vs s] w (fun v D=>aqc_ s v∧D= []):=by
 refine Rets.enterV Tryz.func103 rfl (rs:= [.cell 2 82, .tmp 3]) Tryz.results103 Tryz.ntmps103 ?_
 refine kf ?_
 first|with_reducible refine ks [] @xS_ ?_|refine kp @xS_ ?_
 refine Ow.alloc rfl rfl ZN_ fun b2 hb2 hw2=> ?_
 simp only[za_,List.nil_append,List.cons_append]
 refine ko @xS_ ?_
 refine Ow.callF rfl rfl Tryz.call138 (S:=fun B v D=> ∃b',B≤b'∧v=vp b' 0∧D= [(b', .cells #[vs s,vi 0,vi 0] 250 (0,0))]) (fun w' hw'=>acf_ s w') ?_
 rintro B v D hab hB ⟨bw,hbw,rfl,rfl⟩
 obtain⟨h2B,-⟩:=hab
 refine⟨_,Mrg.fresh (by intro q hq;simp only[keys,List.map_cons,List.map_nil,List.mem_singleton] at hq;omega), ?_⟩
 simp only[List.cons_append,List.nil_append]
 refine Ow.permL (M:= [(bw, .cells #[vs s,vi 0,vi 0] 250 (0,0)),(b2,Obj.cells #[vi 0,vs []] 82 (0,0))]) (by classical exact List.perm_iff_count.2 fun a=>by simp only[List.count_append,List.count_cons,List.count_nil]<;>omega) ?_
 have hne:bw≠b2:=by omega
 refine ko @xS_ ?_
 first|with_reducible refine ks [] @xS_ ?_|refine kp @xS_ ?_
 refine Ow.callM rfl rfl Tryz.call140 (by simp[keys]) (fun w' hw'=>KW_ bw s 0 0 1 w' (Nat.zero_le _) (by omega) (hw'.has _ _ List.mem_cons_self)) ?_
 have r1:=Ju_ (s:=s) (a:=0) (e:=0) (n:=1) (Nat.zero_le _)
 have r2:=ash_ s
 have hT:frT s=zL_ s (frR s).2.1 (frR s).2.2 4096:=rfl
 have hK:frK s=idxT letL (frR s).1:=rfl
 have hO:Jd_ s=(xA_ s (frT s).2.1 (frT s).2.2==0&&xH_ (frK s) (frT s).1):=rfl
 unfold aqc_
 rw[show jw_ s 0 0 1=frR s from rfl] at r1 ⊢
 generalize frR s=p at*
 obtain⟨x,a1,e1⟩:=p
 simp only at r1 r2 hT hK ⊢
 refine kn ?_
 refine ko @xS_ ?_
 refine Ow.callFV rfl Tryz.call139 (fun w' hw'=>ajB_ letL x w' r2 (by decide) (by decide)) ?_
 rw[←hK]
 refine ko @xS_ ?_
 refine Ow.callM rfl rfl Tryz.call141 (by simp[keys]) (fun w' hw'=>Ji_ bw s a1 e1 4096 w' r1.2 (by omega) (hw'.has _ _ List.mem_cons_self)) ?_
 rw[←hT]
 generalize frT s=q at*
 obtain⟨tt,a2,e2⟩:=q
 simp only at hO ⊢
 refine kn ?_
 refine ko @xS_ ?_
 refine Ow.build (obV (frK s) tt) rfl (adm_ _ tt) ?_
 refine ko @xS_ ?_
 refine Ow.alloc rfl rfl ZN_ fun b5 hb5 hw5=> ?_
 simp only[za_,List.nil_append,List.cons_append]
 have h5w:bw<b5:=zi_ hb5 (by simp[keys])
 have h52:b2<b5:=zi_ hb5 (by simp[keys])
 refine ko @xS_ ?_
 refine Ow.callFV rfl Tryz.call142 (fun w' hw'=>Zx_ bw s a2 e2 w' (hw'.has _ _ List.mem_cons_self)) ?_
 by_cases he:xA_ s a2 e2=0
 ·have d1: (xA_ s a2 e2 !=0)=false:=by simp[he]
  have d1': (xA_ s a2 e2==0)=true:=by simp[he]
  rw[d1',Bool.true_and] at hO
  refine ko (And.intro @xS_ @d1) ?_
  refine Ow.callFV rfl Tryz.call132 (fun w' hw'=>KL_ (frK s) tt w') ?_
  rw[hO]
  cases hr:xH_ (frK s) tt
  ·refine ko @xS_ ?_
   refine Ow.build (obV 0 []) rfl kI_ ?_
   refine ko @xS_ ?_
   first|with_reducible refine ks [] @xS_ ?_|refine kp @xS_ ?_
   refine⟨_,(ke @xS_),⟨by omega,hw2,hw5,trivial⟩, ?_⟩
   rfl
  ·refine ko @xS_ ?_
   first|with_reducible refine ks [] @xS_ ?_|refine kp @xS_ ?_
   refine⟨_,(ke @xS_),⟨by omega,hw2,hw5,trivial⟩, ?_⟩
   rfl
 ·have d1: (xA_ s a2 e2 !=0)=true:=by simpa using he
  have d1': (xA_ s a2 e2==0)=false:=by simpa using he
  rw[d1',Bool.false_and] at hO
  rw[hO]
  refine ko (And.intro @xS_ @d1) ?_
  refine Ow.build (obV 0 []) rfl kI_ ?_
  refine ko @xS_ ?_
  first|with_reducible refine ks [] @xS_ ?_|refine kp @xS_ ?_
  refine⟨_,(ke @xS_),⟨by omega,hw2,hw5,trivial⟩, ?_⟩
  rfl
end Go.Proofs
end
section
open Go Go.Proofs Go.Sx Go.StP
namespace Go.Proofs
set_option maxRecDepth 10000
set_option maxHeartbeats 400000
set_option linter.unusedSimpArgs false
def fkC (c:UInt8):Int:=if c=98 then 1 else if c=116 then 2 else if c=99 then 3 else 0
def lfT (r:List UInt8):List UInt8×Nat×Int:=zL_ r 0 0 4096
def lfK (s:List UInt8):Int:=match s with| []=>0|c::_=>fkC c
def lfOk (s:List UInt8):Bool:=lfK s !=0&&xA_ (s.drop 1) (lfT (s.drop 1)).2.1 (lfT (s.drop 1)).2.2==0&&x8_ (lfK s) (lfT (s.drop 1)).1
def ap5_ (s:List UInt8) (v:Value):Prop:=v= .tuple #[obV (if lfOk s then lfK s else 0) (if lfOk s then(lfT (s.drop 1)).1 else []), .bool (lfOk s)]
theorem adX_ (k k':Int) (t:List UInt8) (a:Bool) (E:TypeId):zv_ (some (a,1)) (some (.cells #[vi k',vs t] E (0,0))) 0 (vi k)=some (.cells #[vi k,vs t] E (0,0)):=(rfl)
theorem adS_ (k:Int) (t t':List UInt8) (a:Bool) (E:TypeId):zv_ (some (a,1)) (some (.cells #[vi k,vs t'] E (0,0))) 1 (vs t)=some (.cells #[vi k,vs t] E (0,0)):=(rfl)
set_option linter.defProp false
def qx_:=And.intro (And.intro (And.intro (@jo_) (@qF_)) (And.intro (@qE_) (And.intro (@qD_) (@adX_)))) (And.intro (And.intro (@adS_) (@Sx.tup2_0)) (And.intro (@Sx.tup2_1) (And.intro (@zp_) (@zo_))))
theorem WY_ (s:List UInt8) (w:World) (hs:s.length<1099511627776):Rets Tryz.prog 106 #[vs s] w (fun v D=>ap5_ s v∧D= []):=by
 refine Rets.enterV Tryz.func106 rfl (rs:= [.cell 2 82, .tmp 3]) Tryz.results106 Tryz.ntmps106 ?_
 refine kf ?_
 first|with_reducible refine ks [1000004] @qx_ ?_|refine kp @qx_ ?_
 refine Ow.alloc rfl rfl ZN_ fun b2 hb2 hw2=> ?_
 simp only[za_,List.nil_append,List.cons_append]
 refine ko @qx_ ?_
 by_cases hl:s.length=0
 ·obtain rfl:s= []:=List.eq_nil_of_length_eq_zero hl
  have d1: (((([]:List UInt8).length:Nat):Int)==0)=true:=rfl
  first|with_reducible refine ks [] (And.intro @qx_ @d1) ?_|refine kp (And.intro @qx_ @d1) ?_
  refine Ow.build (obV 0 []) rfl kI_ ?_
  refine ko @qx_ ?_
  first|with_reducible refine ks [] @qx_ ?_|refine kp @qx_ ?_
  refine⟨_,(ke @qx_),⟨hw2,trivial⟩, ?_⟩
  rfl
 ·have d1: ((s.length:Int)==0)=false:=beq_eq_false_iff_ne.2 (by omega)
  obtain⟨c,r,rfl⟩: ∃c r,s=c::r:=by cases s with|nil=>exact absurd rfl hl|cons c r=>exact⟨c,r,rfl⟩
  have hd1: (c::r).drop 1=r:=rfl
  have g0: (c::r).getD 0 0=c:=rfl
  have hlen: (c::r).length=r.length+1:=rfl
  have hrl:r.length<1099511627775:=by omega
  first|with_reducible refine ks [] (And.intro @qx_ @d1) ?_|refine kp (And.intro @qx_ @d1) ?_
  refine Ow.build (obV 0 []) rfl kI_ ?_
  refine ko @qx_ ?_
  refine Ow.alloc rfl rfl ZN_ fun b4 hb4 hw4=> ?_
  simp only[za_,List.nil_append,List.cons_append]
  have h24:b2<b4:=zi_ hb4 (by simp[keys])
  have ht:=kh_ (s:=r) (a:=0) (e:=0) (most:=4096) (Nat.zero_le _)
  have hLT:lfT r=zL_ r 0 0 4096:=rfl
  have hO:lfOk (c::r)=(fkC c !=0&&xA_ r (lfT r).2.1 (lfT r).2.2==0&&x8_ (fkC c) (lfT r).1):=rfl
  have hK:lfK (c::r)=fkC c:=rfl
  unfold ap5_
  rw[hK,hd1]
  have htx: (zL_ r 0 0 4096).1.length≤r.length:=Qp_ _ _ _ _
  have hf0:fkC c=0∨fkC c=1∨fkC c=2∨fkC c=3:=by
   unfold fkC;split<;>(try split)<;>(try split)<;>simp
  refine ko @qx_ ?_
  first|with_reducible refine ks [1000004] (And.intro @qx_ @g0) ?_|refine kp (And.intro @qx_ @g0) ?_
  refine Cw.cut (G:=Int) 40 (fun g=> [(0,vs (c::r)),(2,vp b2 0),(3, .bool false),(4,vp b4 0)]) (fun g=> [(b2,Obj.cells #[vi 0,vs []] 82 (0,0)),(b4,Obj.cells #[vi g,vs []] 82 (0,0))]) (fun g=>g=fkC c∧g≠0) ?_ ?_
  ·by_cases c1:c=98
   ·subst c1
    first|with_reducible refine ks [] (And.intro @qx_ @g0) ?_|refine kp (And.intro @qx_ @g0) ?_
    exact CutM.mk 1 ⟨rfl,by decide⟩ rfl rfl
   ·have e1: (c==98)=false:=by simpa using c1
    by_cases c2:c=116
    ·subst c2
     first|with_reducible refine ks [] (And.intro @qx_ (And.intro @e1 (@g0))) ?_|refine kp (And.intro @qx_ (And.intro @e1 (@g0))) ?_
     exact CutM.mk 2 ⟨rfl,by decide⟩ rfl rfl
    ·have e2: (c==116)=false:=by simpa using c2
     by_cases c3:c=99
     ·subst c3
      first|with_reducible refine ks [] (And.intro @qx_ (And.intro @e1 (And.intro @e2 (@g0)))) ?_|refine kp (And.intro @qx_ (And.intro @e1 (And.intro @e2 (@g0)))) ?_
      exact CutM.mk 3 ⟨rfl,by decide⟩ rfl rfl
     ·have e3: (c==99)=false:=by simpa using c3
      have hk:fkC c=0:=by unfold fkC;rw[if_neg c1,if_neg c2,if_neg c3]
      rw[hk] at hO ⊢
      rw[hO]
      first|with_reducible refine ks [] (And.intro @qx_ (And.intro @e1 (And.intro @e2 (And.intro @e3 (@g0))))) ?_|refine kp (And.intro @qx_ (And.intro @e1 (And.intro @e2 (And.intro @e3 (@g0))))) ?_
      refine Ow.build (obV 0 []) rfl kI_ ?_
      refine ko @qx_ ?_
      first|with_reducible refine ks [] @qx_ ?_|refine kp @qx_ ?_
      refine⟨_,(ke @qx_),⟨hw2,hw4,trivial⟩, ?_⟩
      rfl
  ·intro g j hg
   simp only[atf_,as2_,pin,Xb_,Xe_,Nat.reduceAdd]
   obtain⟨rfl,hk0⟩:=hg
   have d0: (fkC c !=0)=true:=by simpa using hk0
   rw[d0,Bool.true_and] at hO
   generalize fkC c=k at hO ⊢
   first|with_reducible refine ks [] (And.intro @qx_ @hd1) ?_|refine kp (And.intro @qx_ @hd1) ?_
   refine Ow.build (.agg #[vs r,vi 0,vi 0]) rfl (akR_ r) ?_
   refine ko @qx_ ?_
   refine Ow.box rfl rfl fun br hbr hwr=> ?_
   have h2r:b2<br:=zi_ hbr (by simp[keys])
   have h4r:b4<br:=zi_ hbr (by simp[keys])
   simp only[zY_,zV_,zX_,za_,List.nil_append,List.cons_append]
   refine ko @qx_ ?_
   refine Ow.callM rfl rfl Tryz.call144 (by simp[keys]) (fun w' hw'=>kZ_ br r 0 0 4096 w' (Nat.zero_le _) (by omega) (hw'.has _ _ (by simp))) ?_
   rw[←hLT] at ht htx ⊢
   generalize lfT r=q at*
   obtain⟨tt,a2,e2⟩:=q
   simp only at hO ht htx ⊢
   refine kn ?_
   refine ko @qx_ ?_
   refine Ow.callFV rfl Tryz.call145 (fun w' hw'=>Xf_ br r a2 e2 w' (hw'.has _ _ (by simp))) ?_
   by_cases he:xA_ r a2 e2=0
   ·have d5: (xA_ r a2 e2 !=0)=false:=by simp[he]
    have d6: (xA_ r a2 e2==0)=true:=by simp[he]
    rw[d6,Bool.true_and] at hO
    rw[hO]
    refine ko (And.intro @qx_ @d5) ?_
    refine Ow.callFV rfl Tryz.call54 (fun w' hw'=>ZV_ k tt w') ?_
    cases hr:x8_ k tt
    ·refine ko @qx_ ?_
     refine Ow.build (obV 0 []) rfl kI_ ?_
     refine ko @qx_ ?_
     first|with_reducible refine ks [] @qx_ ?_|refine kp @qx_ ?_
     refine⟨_,(ke @qx_),⟨hw2,hw4,hwr,trivial⟩, ?_⟩
     rfl
    ·refine ko @qx_ ?_
     first|with_reducible refine ks [] @qx_ ?_|refine kp @qx_ ?_
     refine⟨_,(ke @qx_),⟨hw2,hw4,hwr,trivial⟩, ?_⟩
     rfl
   ·have d5: (xA_ r a2 e2 !=0)=true:=by simpa using he
    have d6: (xA_ r a2 e2==0)=false:=by simpa using he
    rw[d6,Bool.false_and] at hO
    rw[hO]
    refine ko (And.intro @qx_ @d5) ?_
    refine Ow.build (obV 0 []) rfl kI_ ?_
    refine ko @qx_ ?_
    first|with_reducible refine ks [] @qx_ ?_|refine kp @qx_ ?_
    refine⟨_,(ke @qx_),⟨hw2,hw4,hwr,trivial⟩, ?_⟩
    rfl
end Go.Proofs
end
namespace Go.Flo
open Go Ieee
abbrev F (n:Int):Nat:=FloatKind.f64.nearest n
def dat (n:Int):Datum:= .number (decide (n<0)) (n.natAbs*2^ (52 - n.natAbs.log2)) ((n.natAbs.log2:Int) - 52)
theorem apX_ {a:Nat} (h:a<8192):a.log2<13∨a=0:=by
 by_cases h0:a=0
 ·exact .inr h0
 ·exact .inl ((Nat.log2_lt h0).2 h)
theorem dec0:FloatKind.f64.decode (F 0)= .number false 0 (-1074):=by kernel_rfl
theorem aoE_ (neg:Bool) (n:Nat):Toward.even.cut neg n 0=n:=by
 simp[Toward.cut,Nat.mod_one]
theorem dec {n:Int} (h0:n≠0) (h:n.natAbs<8192):FloatKind.f64.decode (F n)=dat n:=by
 have ha:n.natAbs≠0:=by omega
 generalize hm:n.natAbs=a at*
 have hl:a.log2<13:=(Nat.log2_lt ha).2 h
 have hlo:2^a.log2≤a:=Nat.log2_self_le ha
 have hhi:a<2^ (a.log2+1):=Nat.lt_log2_self
 generalize hk:a.log2=k at*
 have hp:2^ (52 - k)*2^k=2^52:=by rw[←Nat.pow_add];congr 1;omega
 have hp1:2^ (k+1)=2*2^k:=by rw[Nat.pow_succ];omega
 have e1:2^52≤a*2^ (52 - k):=by
  rw[←hp,Nat.mul_comm];exact Nat.mul_le_mul_right _ hlo
 have e2:a*2^ (52 - k)<2*2^52:=by
  have h1:=Nat.mul_lt_mul_of_pos_right hhi (show 0<2^ (52 - k) from Nat.pow_pos (by omega))
  rw[hp1,Nat.mul_assoc,Nat.mul_comm (2^k),hp] at h1
  exact h1
 have hw:F n=Ieee.double.word (decide (n<0)) ((k+1022)*2^52+a*2^ (52 - k)):=by
  show Ieee.double.nearest (decide (n<0)) n.natAbs 0=_
  rw[hm]
  unfold Format.nearest
  rw[if_neg ha,hk]
  have hlast:max ((0:Int)+ (k:Int) - (Ieee.double.fractionBits:Int)) Ieee.double.leastPlace=(k:Int) - 52:=by
   have e3:Ieee.double.leastPlace= -1074:=by decide
   have e4: (Ieee.double.fractionBits:Int)=52:=rfl
   rw[e3,e4];omega
  rw[hlast]
  have e5: ((k:Int) - 52 - 0).toNat=0:=by omega
  have e6: ((0:Int) - ((k:Int) - 52)).toNat=52 - k:=by omega
  simp only[e5,e6,aoE_,Nat.shiftLeft_eq]
  have e7: ((k:Int) - 52 - Ieee.double.leastPlace).toNat=k+1022:=by
   have e3:Ieee.double.leastPlace= -1074:=by decide
   rw[e3];omega
  have e8:Ieee.double.binade=2^52:=rfl
  have e9:Ieee.double.infRung=2047*2^52:=rfl
  rw[e7,e8,e9,Nat.min_eq_left (by omega)]
 show Ieee.double.read (F n)=_
 rw[hw]
 generalize hX:a*2^ (52 - k)=X at*
 have e8:Ieee.double.binade=2^52:=rfl
 have e9:Ieee.double.infRung=2047*2^52:=rfl
 have e10:Ieee.double.signWeight=2^63:=rfl
 have e3:Ieee.double.leastPlace= -1074:=by decide
 have hneg: (Ieee.double.word (decide (n<0)) ((k+1022)*2^52+X) / 2^63%2==1)=decide (n<0)∧Ieee.double.word (decide (n<0)) ((k+1022)*2^52+X)%2^63=(k+1022)*2^52+X:=by
  unfold Format.word
  rw[e10]
  by_cases hn:n<0
  ·rw[decide_eq_true hn,if_pos rfl]
   refine⟨?_,by omega⟩
   rw[beq_iff_eq];omega
  ·rw[decide_eq_false hn,if_neg (by simp)]
   refine⟨?_,by omega⟩
   rw[beq_eq_false_iff_ne];omega
 unfold Format.read
 simp only[e10,hneg.1,hneg.2,e8,e9,e3]
 rw[if_neg (by omega),if_pos (by omega)]
 unfold dat
 rw[hm,hk,hX]
 congr 1
 ·omega
 ·omega
theorem sgn (n:Int) (u:Nat):signed (decide (n<0)) (n.natAbs*2^u) 0=n*2^u:=by
 unfold signed
 rw[Nat.shiftLeft_eq,Nat.pow_zero,Nat.mul_one]
 by_cases h:n<0
 ·rw[decide_eq_true h,if_pos rfl]
  rw[Int.natCast_mul,←Int.neg_mul]
  congr 1
  ·omega
 ·rw[decide_eq_false h,if_neg (by simp),Int.natCast_mul]
  congr 1
  omega
def plc (n:Int):Int:=if n=0 then -1074 else(n.natAbs.log2:Int) - 52
def mag (n:Int):Nat:=if n=0 then 0 else n.natAbs*2^ (52 - n.natAbs.log2)
theorem decA {n:Int} (h:n.natAbs<8192):FloatKind.f64.decode (F n)= .number (decide (n<0)) (mag n) (plc n):=by
 by_cases h0:n=0
 ·subst h0;rw[dec0];rfl
 ·rw[dec h0 h];unfold dat mag plc;rw[if_neg h0,if_neg h0]
theorem sgnU {n base:Int} (h:n.natAbs<8192) (hb:base≤plc n):signed (decide (n<0)) (mag n) (plc n - base).toNat=n*2^ (-base).toNat:=by
 by_cases h0:n=0
 ·subst h0;simp[signed,mag]
 ·have hl:n.natAbs.log2<13:=by rcases apX_ h with h1|h1;exact h1;omega
  have hu:52 - n.natAbs.log2+ (plc n - base).toNat=(-base).toNat:=by
   unfold plc at hb ⊢
   rw[if_neg h0] at hb ⊢
   omega
  have e:signed (decide (n<0)) (mag n) (plc n - base).toNat=signed (decide (n<0)) (n.natAbs*2^ (-base).toNat) 0:=by
   unfold signed mag
   rw[if_neg h0,←hu,Nat.pow_add]
   simp only[Nat.shiftLeft_eq,Nat.pow_zero,Nat.mul_one,Nat.mul_assoc]
  rw[e,sgn]
theorem aqd_ {a b k:Int} (hk:0<k):compare (a*k) (b*k)=compare a b:=by
 simp only[compare,compareOfLessAndEq]
 have h1:a*k<b*k↔a<b:=Int.mul_lt_mul_right hk
 have h2:a*k=b*k↔a=b:=Int.mul_eq_mul_right_iff (by omega)
 simp only[h1,h2]
theorem ord {a b:Int} (ha:a.natAbs<8192) (hb:b.natAbs<8192):FloatKind.f64.format.order (F a) (F b)=some (compare a b):=by
 have h1:FloatKind.f64.format.read (F a)=_:=decA ha
 have h2:FloatKind.f64.format.read (F b)=_:=decA hb
 unfold Format.order
 rw[h1,h2]
 unfold Datum.order
 simp only
 have p1:min (plc a) (plc b)≤plc a:=Int.min_le_left ..
 have p2:min (plc a) (plc b)≤plc b:=Int.min_le_right ..
 rw[sgnU ha p1,sgnU hb p2,aqd_]
 exact Int.pow_pos (by omega)
theorem intF {a:Int} (h:a.natAbs<8192): (FloatKind.f64.decode (F a)).toInt .zero=some a:=by
 rw[decA h]
 by_cases h0:a=0
 ·subst h0;rfl
 ·have hl:a.natAbs.log2<13:=by rcases apX_ h with h1|h1;exact h1;omega
  unfold Datum.toInt Datum.integral
  simp only
  have hp:plc a=(a.natAbs.log2:Int) - 52:=by unfold plc;rw[if_neg h0]
  have hm:mag a=a.natAbs*2^ (52 - a.natAbs.log2):=by unfold mag;rw[if_neg h0]
  rw[hp,hm]
  have e1: ((a.natAbs.log2:Int) - 52).toNat=0:=by omega
  have e2: (-((a.natAbs.log2:Int) - 52)).toNat=52 - a.natAbs.log2:=by omega
  rw[e1,e2,Nat.shiftLeft_zero]
  have hlog: (a.natAbs*2^ (52 - a.natAbs.log2)).log2+2≥52 - a.natAbs.log2:=by
   have:2^ (52 - a.natAbs.log2)≤a.natAbs*2^ (52 - a.natAbs.log2):=Nat.le_mul_of_pos_left _ (by omega)
   have h3:=(Nat.le_log2 (n:=a.natAbs*2^ (52 - a.natAbs.log2)) (k:=52 - a.natAbs.log2) (by have:=Nat.pow_pos (a:=2) (n:=52 - a.natAbs.log2) (by omega);omega)).2 this
   omega
  unfold Toward.cut
  simp only
  rw[Nat.min_eq_left hlog,Nat.shiftLeft_eq,Nat.one_mul,Nat.mul_div_cancel _ (Nat.pow_pos (by omega))]
  have:=sgn a 0
  rw[Nat.pow_zero,Nat.mul_one] at this
  simp only[Bool.toNat_false,Nat.add_zero]
  rw[this];simp
end Go.Flo
namespace Go.Sx
open Go Go.Flo
def fl (n:Int):Value:= .float .f64 (F n)
def cx (a b:Int):Value:= .complex .f64 (F a) (F b)
section
variable {P:Program} {w0:World} {f:Fr} {L:zb_} {N:Fr→zb_→Prop} {ops:Array Oper} {rest:List Oper} {md:Md}
 {d:Option Tmp} {ty:TypeId} {ps:String} {af:Array Edge} {g:Option (Nat×Bool)}
theorem Ow.convIF {s dt:TypeId} {x:Operand} {n:Int} {md':Md} (he:md.turn=some md') (hsk:zn_ ops f ⟨d, .convert s dt x,ty,ps,af,g⟩=false)
  (hcv:cvT P s dt= .no) (hs:P.underlying s=some (.int .i64)) (hd:P.underlying dt=some (.float .f64)) (hx:ev f x=vi n)
  (hn:Ow P w0 ops md' rest (qu_ f d (fl n)) L N):Ow P w0 ops md (⟨d, .convert s dt x,ty,ps,af,g⟩::rest) f L N:=by
 refine Ow.step he (by simp[xK_,hcv]) hsk fun w hw=> .inl ⟨fl n,w,L, ?_,hw,hn⟩
 have hc: (convert s dt (vi n)).run P w= .ok (fl n) w:=by
  unfold convert
  simp only[vi,Sem.run_bind,run_underlying hs w,run_underlying hd w,Result.andThen_ok]
  rfl
 simp only[execOp,Sem.run_bind,hx,hc]
 rfl
theorem Ow.convFI {s dt:TypeId} {x:Operand} {n:Int} {md':Md} (he:md.turn=some md') (hsk:zn_ ops f ⟨d, .convert s dt x,ty,ps,af,g⟩=false)
  (hcv:cvT P s dt= .no) (hs:P.underlying s=some (.float .f64)) (hd:P.underlying dt=some (.int .i64)) (hx:ev f x=fl n) (hn8:n.natAbs<8192)
  (hn:Ow P w0 ops md' rest (qu_ f d (vi n)) L N):Ow P w0 ops md (⟨d, .convert s dt x,ty,ps,af,g⟩::rest) f L N:=by
 refine Ow.step he (by simp[xK_,hcv]) hsk fun w hw=> .inl ⟨vi n,w,L, ?_,hw,hn⟩
 have hc: (convert s dt (fl n)).run P w= .ok (vi n) w:=by
  unfold convert
  simp only[fl,Sem.run_bind,run_underlying hs w,run_underlying hd w,Result.andThen_ok]
  show(Conv.floatToInt .f64 (F n) .i64).run P w=_
  unfold Conv.floatToInt
  simp only[intF hn8]
  have e1:IntKind.i64.min= -9223372036854775808:=rfl
  have e2:IntKind.i64.max=9223372036854775807:=rfl
  rw[if_pos (by rw[e1,e2];omega)]
  rfl
 simp only[execOp,Sem.run_bind,hx,hc]
 rfl
theorem ar4_ (a b:Int): (some (compare a b)==some Ordering.lt||some (compare a b)==some Ordering.eq)=decide (a≤b):=by
 simp only[compare,compareOfLessAndEq]
 by_cases h1:a<b
 ·rw[if_pos h1,decide_eq_true (by omega)];rfl
 ·by_cases h2:a=b
  ·rw[if_neg h1,if_pos h2,decide_eq_true (by omega)];rfl
  ·rw[if_neg h1,if_neg h2,decide_eq_false (by omega)];rfl
theorem ars_ (a b:Int): (some (compare a b)==some Ordering.gt||some (compare a b)==some Ordering.eq)=decide (b≤a):=by
 simp only[compare,compareOfLessAndEq]
 by_cases h1:a<b
 ·rw[if_pos h1,decide_eq_false (by omega)];rfl
 ·by_cases h2:a=b
  ·rw[if_neg h1,if_pos h2,decide_eq_true (by omega)];rfl
  ·rw[if_neg h1,if_neg h2,decide_eq_true (by omega)];rfl
theorem aqk_ (a b:Int): (some (compare a b)==some Ordering.eq)=(a==b):=by
 simp only[compare,compareOfLessAndEq]
 by_cases h1:a<b
 ·have: (a==b)=false:=by rw[beq_eq_false_iff_ne];omega
  rw[if_pos h1,this];rfl
 ·by_cases h2:a=b
  ·rw[if_neg h1,if_pos h2,h2];simp
  ·have: (a==b)=false:=by rw[beq_eq_false_iff_ne];exact h2
   rw[if_neg h1,if_neg h2,this];rfl
theorem Ow.fleq {t t':TypeId} {x y:Operand} {a b:Int} (hs:zn_ ops f ⟨d, .binOp .leq t x y t',ty,ps,af,g⟩=false) (hx:ev f x=fl a) (hy:ev f y=fl b) (ha:a.natAbs<8192) (hb:b.natAbs<8192)
  (hn:Ow P w0 ops md.next rest (qu_ f d (.bool (decide (a≤b)))) L N):Ow P w0 ops md (⟨d, .binOp .leq t x y t',ty,ps,af,g⟩::rest) f L N:=by
 refine Ow.pureV rfl hs (fun w=> ?_) hn
 simp only[execOp,Sem.run_bind,hx,hy]
 have hg: (eqGuard .leq t x y (fl a) (fl b)).run P w= .ok () w:=rfl
 have hc: (binOp .leq t (fl a) (fl b)).run P w= .ok (.bool (decide (a≤b))) w:=by
  show Result.ok (Value.bool (FloatKind.f64.format.order (F a) (F b)==some .lt||FloatKind.f64.format.order (F a) (F b)==some .eq)) w=_
  rw[ord ha hb,ar4_]
 rw[hg,Result.andThen_ok,hc]
 rfl
theorem Ow.fgeq {t t':TypeId} {x y:Operand} {a b:Int} (hs:zn_ ops f ⟨d, .binOp .geq t x y t',ty,ps,af,g⟩=false) (hx:ev f x=fl a) (hy:ev f y=fl b) (ha:a.natAbs<8192) (hb:b.natAbs<8192)
  (hn:Ow P w0 ops md.next rest (qu_ f d (.bool (decide (b≤a)))) L N):Ow P w0 ops md (⟨d, .binOp .geq t x y t',ty,ps,af,g⟩::rest) f L N:=by
 refine Ow.pureV rfl hs (fun w=> ?_) hn
 simp only[execOp,Sem.run_bind,hx,hy]
 have hg: (eqGuard .geq t x y (fl a) (fl b)).run P w= .ok () w:=rfl
 have hc: (binOp .geq t (fl a) (fl b)).run P w= .ok (.bool (decide (b≤a))) w:=by
  show Result.ok (Value.bool (FloatKind.f64.format.order (F a) (F b)==some .gt||FloatKind.f64.format.order (F a) (F b)==some .eq)) w=_
  rw[ord ha hb,ars_]
 rw[hg,Result.andThen_ok,hc]
 rfl
theorem Ow.feql {t t':TypeId} {x y:Operand} {a b:Int} (hs:zn_ ops f ⟨d, .binOp .eql t x y t',ty,ps,af,g⟩=false) (hx:ev f x=fl a) (hy:ev f y=fl b) (ha:a.natAbs<8192) (hb:b.natAbs<8192)
  (hn:Ow P w0 ops md.next rest (qu_ f d (.bool (a==b))) L N):Ow P w0 ops md (⟨d, .binOp .eql t x y t',ty,ps,af,g⟩::rest) f L N:=by
 refine Ow.pureV rfl hs (fun w=> ?_) hn
 simp only[execOp,Sem.run_bind,hx,hy]
 have hg: (eqGuard .eql t x y (fl a) (fl b)).run P w= .ok () w:=rfl
 have hc: (binOp .eql t (fl a) (fl b)).run P w= .ok (.bool (a==b)) w:=by
  show Result.ok (Value.bool (FloatKind.f64.format.order (F a) (F b)==some .eq)) w=_
  rw[ord ha hb,aqk_]
 rw[hg,Result.andThen_ok,hc]
 rfl
theorem Ow.real {x:Operand} {ts:Array TypeId} {a b:Int} (hs:zn_ ops f ⟨d, .call ⟨.builtin .real, #[x],ts⟩,ty,ps,af,g⟩=false) (hx:ev f x=cx a b)
  (hn:Ow P w0 ops md.next rest (qu_ f d (fl a)) L N):Ow P w0 ops md (⟨d, .call ⟨.builtin .real, #[x],ts⟩,ty,ps,af,g⟩::rest) f L N:=by
 refine Ow.calm rfl rfl hs (fun w hw=> .inl ⟨fl a,w,L, ?_,hw,rfl,rfl⟩) hn
 simp only[execOp,resolve,Sem.run_bind,Sem.run_pure,Result.andThen_ok,invoke,builtin,List.map_toArray,List.map_cons,List.map_nil,hx]
 rfl
theorem Ow.imag {x:Operand} {ts:Array TypeId} {a b:Int} (hs:zn_ ops f ⟨d, .call ⟨.builtin .imag, #[x],ts⟩,ty,ps,af,g⟩=false) (hx:ev f x=cx a b)
  (hn:Ow P w0 ops md.next rest (qu_ f d (fl b)) L N):Ow P w0 ops md (⟨d, .call ⟨.builtin .imag, #[x],ts⟩,ty,ps,af,g⟩::rest) f L N:=by
 refine Ow.calm rfl rfl hs (fun w hw=> .inl ⟨fl b,w,L, ?_,hw,rfl,rfl⟩) hn
 simp only[execOp,resolve,Sem.run_bind,Sem.run_pure,Result.andThen_ok,invoke,builtin,List.map_toArray,List.map_cons,List.map_nil,hx]
 rfl
theorem Ow.complexB {x y:Operand} {ts:Array TypeId} {a b:Int} (hs:zn_ ops f ⟨d, .call ⟨.builtin .complex, #[x,y],ts⟩,ty,ps,af,g⟩=false) (hx:ev f x=fl a) (hy:ev f y=fl b)
  (hn:Ow P w0 ops md.next rest (qu_ f d (cx a b)) L N):Ow P w0 ops md (⟨d, .call ⟨.builtin .complex, #[x,y],ts⟩,ty,ps,af,g⟩::rest) f L N:=by
 refine Ow.calm rfl rfl hs (fun w hw=> .inl ⟨cx a b,w,L, ?_,hw,rfl,rfl⟩) hn
 simp only[execOp,resolve,Sem.run_bind,Sem.run_pure,Result.andThen_ok,invoke,builtin,List.map_toArray,List.map_cons,List.map_nil,hx,hy]
 rfl
end
end Go.Sx
namespace Go.Sx
open Go Go.Flo
theorem anv_ (P:Program) (t:TypeId) (a b:Int):qI_ P .eql t (fl a) (fl b)=none:=by
 show(qq_ (P.underlying t) (fl a) (fl b)).map _=none
 unfold qq_ fl
 split<;>simp_all
theorem ad5_ (P:Program) (t:TypeId) (a b a' b':Int):qI_ P .eql t (cx a b) (cx a' b')=none:=by
 show(qq_ (P.underlying t) (cx a b) (cx a' b')).map _=none
 unfold qq_ cx
 split<;>simp_all
section
variable {P:Program} {w0:World} {st:Bool} {f:Fr} {L:zb_} {md:Md} {d:Option Tmp} {ty:TypeId} {ps:String} {af:Array Edge} {g:Option (Nat×Bool)} {go:Fr→zb_→Prop} {stop:Prop}
theorem ahY_ (a:Array Operand) (t:Array TypeId):vcB P w0 st md ⟨d, .call ⟨.builtin .real,a,t⟩,ty,ps,af,g⟩ f L go stop=stop:=(rfl)
theorem ahr_ (a:Array Operand) (t:Array TypeId):vcB P w0 st md ⟨d, .call ⟨.builtin .imag,a,t⟩,ty,ps,af,g⟩ f L go stop=stop:=(rfl)
theorem Qb_ (a:Array Operand) (t:Array TypeId):vcB P w0 st md ⟨d, .call ⟨.builtin .complex,a,t⟩,ty,ps,af,g⟩ f L go stop=stop:=(rfl)
end
end Go.Sx
section
open Go Go.Proofs Go.Sx Go.StP Go.Flo
namespace Go.Proofs
set_option maxRecDepth 10000
set_option maxHeartbeats 400000
set_option linter.unusedSimpArgs false
structure PcL where
 a:Nat
 n:Nat
 x:List UInt8
def pc0:PcL:=⟨0,0,[]⟩
def pcC (p:PcL):List Value:= [cx p.a p.n,vs p.x]
def PcB (p:PcL):Prop:=p.a≤4099∧p.n≤4099
theorem Qa_ (p:PcL): (pcC p).length=2:=rfl
theorem amE_ (p:PcL): (pcC p).all Value.oneCell'=true:=rfl
def cpV (p:PcL) (b:Int):Option (Nat×Nat):=if 1≤p.n∧p.n≤4099∧p.x= []∧(p.a:Int)≤b - p.n then some (p.a,p.n) else none
def xf_ (p:PcL) (b:Int):Nat:=if p.a=0∧p.n=0∧p.x.length≤4099 then p.x.length else match cpV p b with|some q=>q.2|none=>0
theorem ahj_ (p:PcL) (b:Int):xf_ p b≤4099:=by
 unfold xf_
 split
 ·rename_i h;exact h.2.2
 ·unfold cpV
  split
  ·rename_i q h
   split at h
   ·rename_i hc;cases h;exact hc.2.1
   ·cases h
  ·omega
def wT_ (b:Int) (l:List PcL):Nat:=(l.map fun p=>xf_ p b).sum
theorem ank_ (b:Int) (l:List PcL) (p:PcL):wT_ b (l++ [p])=wT_ b l+xf_ p b:=by
 unfold wT_;rw[List.map_append,List.sum_append];simp
theorem aom_ (b:Int) (l m:List PcL):wT_ b (l++m)=wT_ b l+wT_ b m:=by
 unfold wT_;rw[List.map_append,List.sum_append]
def anyZ (b:Int) (l:List PcL):Bool:=l.any fun p=>xf_ p b==0
def chkV (b:Int) (l:List PcL):Int×Int:=if b<0∨4099<b then(0,1) else if anyZ b l=true then(0,1) else if 4099<wT_ b l then(0,19) else((wT_ b l:Nat),0)
theorem alq_ (b:Int): ∀ (l:List PcL),anyZ b l=false→l.length≤wT_ b l
 | [],_=>Nat.zero_le _
 |p::l,h=>by
  unfold anyZ at h
  rw[List.any_cons,Bool.or_eq_false_iff] at h
  have h1:=alq_ b l h.2
  have h2:xf_ p b≠0:=by simpa using h.1
  unfold wT_ at h1 ⊢
  rw[List.map_cons,List.sum_cons,List.length_cons]
  omega
theorem afN_ {b m:Int} {l:List PcL} (h:chkV b l=(m,0)):0≤b∧b≤4099∧anyZ b l=false∧wT_ b l≤4099∧m=(wT_ b l:Nat)∧l.length≤4099:=by
 unfold chkV at h
 split at h
 ·cases h
 ·rename_i hb
  split at h
  ·cases h
  ·rename_i hz
   split at h
   ·cases h
   ·rename_i hs
    have hz':anyZ b l=false:=by simpa using hz
    have:=alq_ b l hz'
    cases h
    exact⟨by omega,by omega,hz',by omega,rfl,by omega⟩
def pcT (base:List UInt8) (p:PcL):List UInt8:=match cpV p base.length with|some q=>(base.drop q.1).take q.2++p.x|none=>p.x
def txtP (base:List UInt8) (l:List PcL):List UInt8:=(l.map (pcT base)).flatten
def pcR (d:List UInt8) (a:Nat):PcL×Nat×Int:=
 if(zD_ d a 0 8199).1%2=1 then
  (⟨(zD_ d (zD_ d a 0 8199).2.1 (zD_ d a 0 8199).2.2 4099).1.toNat,((zD_ d a 0 8199).1 / 2).toNat,[]⟩,(zD_ d (zD_ d a 0 8199).2.1 (zD_ d a 0 8199).2.2 4099).2)
 else(⟨0,0,(jw_ d (zD_ d a 0 8199).2.1 (zD_ d a 0 8199).2.2 ((zD_ d a 0 8199).1 / 2)).1⟩,(jw_ d (zD_ d a 0 8199).2.1 (zD_ d a 0 8199).2.2 ((zD_ d a 0 8199).1 / 2)).2)
theorem al7_ {d:List UInt8} {a:Nat} (ha:a≤d.length):a≤ (pcR d a).2.1∧(pcR d a).2.1≤d.length:=by
 have h1:=qO_ (s:=d) (a:=a) (e:=0) (most:=8199) ha
 unfold pcR
 split
 ·have h2:=qO_ (s:=d) (a:=(zD_ d a 0 8199).2.1) (e:=(zD_ d a 0 8199).2.2) (most:=4099) h1.2
  exact⟨Nat.le_trans h1.1 h2.1,h2.2⟩
 ·have h2:=Ju_ (s:=d) (a:=(zD_ d a 0 8199).2.1) (e:=(zD_ d a 0 8199).2.2) (n:=(zD_ d a 0 8199).1 / 2) h1.2
  exact⟨Nat.le_trans h1.1 h2.1,h2.2⟩
theorem alb_ {d:List UInt8} {a:Nat} (ha:a≤d.length) (h: (pcR d a).2.2=0):a< (pcR d a).2.1:=by
 have h1:=qO_ (s:=d) (a:=a) (e:=0) (most:=8199) ha
 have hz: (zD_ d a 0 8199).2.2=0:=by
  by_cases he: (zD_ d a 0 8199).2.2=0
  ·exact he
  ·unfold pcR at h
   split at h
   ·have:=amW_ (s:=d) (a:=(zD_ d a 0 8199).2.1) (most:=4099) he
    simp only[this] at h
    exact absurd h he
   ·have:=ahZ_ (s:=d) (a:=(zD_ d a 0 8199).2.1) (n:=(zD_ d a 0 8199).1 / 2) he
    simp only[this] at h
    exact absurd h he
 have hup:=alW_ hz
 unfold pcR
 split
 ·have h2:=qO_ (s:=d) (a:=(zD_ d a 0 8199).2.1) (e:=(zD_ d a 0 8199).2.2) (most:=4099) h1.2
  exact Nat.lt_of_lt_of_le hup h2.1
 ·have h2:=Ju_ (s:=d) (a:=(zD_ d a 0 8199).2.1) (e:=(zD_ d a 0 8199).2.2) (n:=(zD_ d a 0 8199).1 / 2) h1.2
  exact Nat.lt_of_lt_of_le hup h2.1
def pcsF (d:List UInt8):Nat→Nat→List PcL×Nat×Int
 |0,a=>([],a,0)
 |k+1,a=>if a<d.length then(if(pcR d a).2.2=0 then((pcR d a).1:: (pcsF d k (pcR d a).2.1).1,(pcsF d k (pcR d a).2.1).2) else([(pcR d a).1],(pcR d a).2)) else([],a,0)
theorem ad9_ {d:List UInt8}: ∀ (k j a:Nat),a≤d.length→d.length - a≤k→d.length - a≤j→pcsF d k a=pcsF d j a
 |0,j,a,ha,hk,_=>by
  have: ¬a<d.length:=by omega
  cases j with
  |zero=>rfl
  |succ j=>unfold pcsF;rw[if_neg this]
 |k+1,0,a,ha,_,hj=>by
  have: ¬a<d.length:=by omega
  unfold pcsF;rw[if_neg this]
 |k+1,j+1,a,ha,hk,hj=>by
  unfold pcsF
  by_cases h:a<d.length
  ·rw[if_pos h,if_pos h]
   by_cases he: (pcR d a).2.2=0
   ·have hu:=alb_ ha he
    have hl:=al7_ ha
    rw[if_pos he,if_pos he,ad9_ k j (pcR d a).2.1 hl.2 (by omega) (by omega)]
   ·rw[if_neg he,if_neg he]
  ·rw[if_neg h,if_neg h]
def pcs (d:List UInt8) (a:Nat):List PcL×Nat×Int:=pcsF d (d.length - a) a
theorem asi_ {d:List UInt8} {a:Nat} (h: ¬a<d.length):pcs d a=([],a,0):=by
 unfold pcs
 rw[show d.length - a=0 by omega];rfl
theorem as6_ {d:List UInt8} {a:Nat} (h:a<d.length) (he: (pcR d a).2.2=0):pcs d a=((pcR d a).1:: (pcs d (pcR d a).2.1).1,(pcs d (pcR d a).2.1).2):=by
 have hu:=alb_ (Nat.le_of_lt h) he
 have hl:=al7_ (Nat.le_of_lt h)
 unfold pcs
 obtain⟨k,hk⟩: ∃k,d.length - a=k+1:=⟨d.length - a - 1,by omega⟩
 rw[hk]
 conv=>lhs;unfold pcsF
 rw[if_pos h,if_pos he,ad9_ k (d.length - (pcR d a).2.1) (pcR d a).2.1 hl.2 (by omega) (Nat.le_refl _)]
theorem aqG_ {d:List UInt8} {a:Nat} (h:a<d.length) (he: (pcR d a).2.2≠0):pcs d a=([(pcR d a).1],(pcR d a).2):=by
 unfold pcs
 obtain⟨k,hk⟩: ∃k,d.length - a=k+1:=⟨d.length - a - 1,by omega⟩
 rw[hk]
 unfold pcsF
 rw[if_pos h,if_neg he]
def Wx_ (d:List UInt8):Option (Nat×List PcL):=
 if(zD_ d (zD_ d 0 0 4099).2.1 (zD_ d 0 0 4099).2.2 4099).2.2≠0 then none
 else if(pcs d (zD_ d (zD_ d 0 0 4099).2.1 (zD_ d 0 0 4099).2.2 4099).2.1).2.2≠0 then none
 else if chkV (zD_ d 0 0 4099).1 (pcs d (zD_ d (zD_ d 0 0 4099).2.1 (zD_ d 0 0 4099).2.2 4099).2.1).1=((zD_ d (zD_ d 0 0 4099).2.1 (zD_ d 0 0 4099).2.2 4099).1,0) then some ((zD_ d 0 0 4099).1.toNat,(pcs d (zD_ d (zD_ d 0 0 4099).2.1 (zD_ d 0 0 4099).2.2 4099).2.1).1)
 else none
def xZ_ (base d:List UInt8):List UInt8×Int:=
 match Wx_ d with
 |none=>([],2)
 |some p=>if p.1≠base.length then([],19) else(txtP base p.2,0)
end Go.Proofs
end
section
open Go Go.Proofs Go.Sx Go.StP Go.Flo
namespace Go.Proofs
set_option maxRecDepth 10000
set_option maxHeartbeats 400000
set_option linter.unusedSimpArgs false
theorem cvIF:cvT Tryz.prog 3 312= .no:=id (by kernel_rfl)
theorem cvFI:cvT Tryz.prog 312 3= .no:=id (by kernel_rfl)
set_option linter.defProp false
theorem Zj_ (p:PcL) (E:TypeId) (n:Nat):zt_ (some (false,n)) (some (.cells (pcC p).toArray E (0,0))) 0=some (cx p.a p.n):=(rfl)
theorem Za_ (p:PcL) (E:TypeId) (n:Nat):zt_ (some (false,n)) (some (.cells (pcC p).toArray E (0,0))) 1=some (vs p.x):=(rfl)
theorem JC_ (p:PcL) (E:TypeId):zt_ (some (true,2)) (some (.cells (pcC p).toArray E (0,0))) 0=some (.agg (pcC p).toArray):=kR_ _ E (0,0) 2 rfl
theorem vV_ (p:PcL):Value.cells (.agg (pcC p).toArray)=(pcC p).toArray:=za_ _
theorem zrPc:zM_ Tryz.prog 311=some (.agg (pcC pc0).toArray):=id (by kernel_rfl)
theorem aob_ (p q:PcL) (E:TypeId):zv_ (some (true,2)) (some (.cells (pcC q).toArray E (0,0))) 0 (.agg (pcC p).toArray)=some (.cells (pcC p).toArray E (0,0)):=by
 have:=ky_ (pcC p) (n:=2) true (pcC q).toArray E rfl (amE_ p) rfl
 exact this
theorem cxz: (Value.complex FloatKind.f64 0 0)=cx 0 0:=id (by kernel_rfl)
set_option linter.defProp false
abbrev PcSl (w:World) (v:Value) (l:List PcL):Prop:=SlV 2 pcC pc0 w v l
def BndP (l:List PcL):Prop:= ∀g,g<l.length→PcB (l.getD g pc0)∧(l.getD g pc0).x.length<9223372036854775808
theorem ak0_ {b:Int} {l:List PcL} {g:Nat} (h:g<l.length):wT_ b (l.take (g+1))=wT_ b (l.take g)+xf_ (l.getD g pc0) b:=by
 rw[take_snoc (z:=pc0) h,ank_]
theorem alg_ {b:Int} {l:List PcL} {g:Nat} (h:g<l.length):anyZ b (l.take (g+1))=(anyZ b (l.take g) ||xf_ (l.getD g pc0) b==0):=by
 rw[take_snoc (z:=pc0) h];unfold anyZ;rw[List.any_append];simp
theorem aal_ {b:Int} {l:List PcL} {g:Nat} (h:g<l.length) (hz:xf_ (l.getD g pc0) b=0):anyZ b l=true:=by
 unfold anyZ
 rw[List.any_eq_true]
 exact⟨_,xQ_ (z:=pc0) h,by rw[beq_iff_eq];exact hz⟩
end Go.Proofs
end
section
open Go Go.Proofs Go.Sx Go.StP Go.Flo
namespace Go.Proofs
set_option maxRecDepth 10000
set_option maxHeartbeats 400000
set_option linter.unusedSimpArgs false
def pcAt (p:PcL) (b:Int):Nat×Nat:=match cpV p b with|some q=>q|none=>(0,0)
theorem aqi_ (p:PcL) (base:List UInt8): (pcAt p base.length).1+ (pcAt p base.length).2≤base.length:=by
 unfold pcAt cpV
 split
 ·rename_i q h
  split at h
  ·rename_i hc;cases h;simp only;omega
  ·cases h
 ·simp
theorem arS_ (base:List UInt8) (p:PcL) (h:xf_ p base.length≠0): (pcT base p).length=xf_ p base.length:=by
 have hle:=aqi_ p base
 unfold xf_ at h ⊢
 unfold pcT
 unfold pcAt at hle
 split at h
 ·rename_i hc
  rw[if_pos hc]
  have hn:cpV p base.length=none:=by unfold cpV;rw[if_neg (by omega)]
  rw[hn]
 ·rename_i hc
  rw[if_neg hc]
  cases hq:cpV p base.length with
  |none=>rw[hq] at h;exact absurd rfl h
  |some q=>
   rw[hq] at hle
   simp only at hle ⊢
   have hx:p.x= []:=by
    unfold cpV at hq
    split at hq
    ·rename_i h2;exact h2.2.2.1
    ·cases hq
   rw[hx,List.append_nil,List.length_take,List.length_drop]
   omega
theorem akp_ {base:List UInt8} {l:List PcL} {g:Nat} (h:g<l.length):txtP base (l.take (g+1))=txtP base (l.take g)++pcT base (l.getD g pc0):=by
 rw[take_snoc (z:=pc0) h];unfold txtP;simp
theorem abs_ {base:List UInt8}: ∀ {l:List PcL},anyZ base.length l=false→(txtP base l).length=wT_ base.length l
 | [],_=>rfl
 |p::l,h=>by
  unfold anyZ at h
  rw[List.any_cons,Bool.or_eq_false_iff] at h
  have h1:=abs_ (base:=base) (l:=l) h.2
  have h2:=arS_ base p (by simpa using h.1)
  unfold txtP wT_ at h1 ⊢
  rw[List.map_cons,List.flatten_cons,List.length_append,List.map_cons,List.sum_cons,h1,h2]
theorem Xg_ {b:Int} {l:List PcL} {g:Nat}:wT_ b (l.take g)≤wT_ b l:=by
 have:=aom_ b (l.take g) (l.drop g)
 rw[List.take_append_drop] at this
 omega
theorem arF_ {b:Int} {l:List PcL} {g:Nat} (h:anyZ b l=false):anyZ b (l.take g)=false:=by
 unfold anyZ at h ⊢
 rw[List.any_eq_false] at h ⊢
 exact fun x hx=>h x (List.mem_of_mem_take hx)
set_option linter.defProp false
end Go.Proofs
end
namespace Go.Sx
open Go
section
variable {α:Type} {m:Nat} {enc:α→List Value} {z:α}
end
section
variable {P:Program} {w0:World} {f:Fr} {L:zb_} {N:Fr→zb_→Prop} {ops:Array Oper} {rest:List Oper} {md:Md} {d:Option Tmp} {ty:TypeId} {ps:String} {af:Array Edge} {g:Option (Nat×Bool)}
theorem Ow.makeSlice {t e:TypeId} {m:Bool×Nat} {z:Value} {x y:Operand} {n c:Nat} {md':Md} (he:md.turn=some md') (hs:zn_ ops f ⟨d, .makeSlice t x y,ty,ps,af,g⟩=false)
  (hu:P.underlying t=some (.slice e)) (hm:z0_ P e=some m) (hi:k3_ P e=true) (hz:zM_ P e=some z) (hx:ev f x=vi n) (hy:ev f y=vi c) (hnc:n≤c) (hbig:c≤2^38)
  (hn: ∀b,jV_ L b→w0.heap.size≤b→Ow P w0 ops md' rest (qu_ f d (vsl b 0 n c)) (L++ [(b, .cells (madeCells z.cells (c*m.2)) e (0,0))]) N):
  Ow P w0 ops md (⟨d, .makeSlice t x y,ty,ps,af,g⟩::rest) f L N:=by
 refine Ow.step he rfl hs fun w hw=> .inl ⟨vsl w.heap.size 0 n c,w.alloc (.cells (madeCells z.cells (c*m.2)) e (0,0)),_, ?_,hw.alloc _,hn _ (z2_ fun b hb=>hw.lt hb) hw.size⟩
 obtain⟨i,hie,-,hb⟩:=wX_ hi hbig
 have hiz:i.zero=some z:=by
  unfold zM_ at hz
  rw[hie] at hz
  exact hz
 have him:i.size=m.2:=by
  unfold z0_ at hm
  rw[hie] at hm
  split at hm
  ·rename_i h1 h2
   cases h2
   cases hm
   rfl
  ·cases hm
 have hbb: (i.bytes:Int)* (c:Int)≤281474976710656:=by
  have: ((i.bytes*c:Nat):Int)≤281474976710656:=by rw[Nat.mul_comm];exact Int.ofNat_le.2 hb
  rwa [Int.natCast_mul] at this
 have hr:=run_make (P:=P) w t e i z hu hie hiz .i64 .i64 (n:Int) (c:Int) (by omega) (by omega) hbb (by omega)
 simp only[Int.toNat_natCast,him] at hr
 show(execOp (ev f) _).run P w=_
 simp only[execOp,Sem.run_bind]
 rw[hx,hy]
 show((Instr.makeSlice t (.int .i64 (n:Int)) (.int .i64 (c:Int))).run P w).andThen _=_
 rw[hr]
 rfl
theorem Ow.appendXG {ts tx e:TypeId} {m:Bool×Nat} {z:Value} {s x:Operand} {n k:Nat} {cs new:List Value} {dx:TypeDesc} {md':Md} {X Y:zb_} (sv:Value) (hL:L=X++Y) (hsv:ev f s=sv) (he:md.turn=some md')
  (hs:zn_ ops f ⟨d, .call ⟨.builtin .append, #[s,x], #[ts,tx]⟩,ty,ps,af,g⟩=false)
  (hu:P.underlying ts=some (.slice e)) (hm:z0_ P e=some m) (hi:k3_ P e=true) (hz:zM_ P e=some z) (hzs:z.cells.size=m.2) (hux:P.underlying tx=some dx) (hnx: ∀k,dx≠ .int k)
  (hB:Gr X e m.2 sv n cs) (hX: ∀w,Hp w0 L w→AppX P w m.2 (ev f x) k new) (hbig:2* (n+k)+768≤2^38)
  (hn: ∀B v' D,jV_ L B→w0.heap.size≤B→Gr D e m.2 v' (n+k) (cs++new)→(∀c,c∈keys X→c∈keys D)→(∀c,c∈keys D→c∈keys X∨B≤c)→(∀c o,slB sv≠some c→look X c=some o→look D c=some o)→Ow P w0 ops md' rest (qu_ f d v') (D++Y) N):
  Ow P w0 ops md (⟨d, .call ⟨.builtin .append, #[s,x], #[ts,tx]⟩,ty,ps,af,g⟩::rest) f L N:=by
 subst hL
 refine Ow.step he rfl hs fun w hw=> ?_
 have hp:=hw.part
 have hA:jV_ (X++Y) w.heap.size:=z2_ fun b hb=>hw.lt hb
 have fin: ∀v' w' D,(Builtin.append_ #[ts,tx] ty #[sv,ev f x]).run P w= .ok v' w'→Hp w D w'→Gr D e m.2 v' (n+k) (cs++new)→(∀c,c∈keys X→c∈keys D)→(∀c,c∈keys D→c∈keys X∨w.heap.size≤c)→(∀c o,slB sv≠some c→look X c=some o→look D c=some o)→
   (∃v w' L',(execOp (ev f) ⟨d, .call ⟨.builtin .append, #[s,x], #[ts,tx]⟩,ty,ps,af,g⟩).run P w= .ok (.value v) w'∧Hp w0 L' w'∧Ow P w0 ops md' rest (qu_ f d v) L' N):=by
  intro v' w' D hr hD hb h1 h2 h3
  refine⟨v',w',D++Y, ?_,hw.join hD h1 h2,hn w.heap.size v' D hA hw.size hb h1 h2 h3⟩
  simp only[execOp,resolve,Sem.run_bind,Sem.run_pure,Result.andThen_ok,invoke,builtin,List.map_toArray,List.map_cons,List.map_nil,hsv]
  rw[hr]
  rfl
 rcases hB with hB| ⟨rfl,rfl,b,rfl,hlk⟩
 ·obtain⟨v',w',D,hr,hD,hb,hg,-⟩:=JD_ (w0:=w) (L:=X) (ty:=ty) (x:=ev f x) hp hu hm hi hz hzs hux hnx hB (fun w2 hw2=>hX w2 (by
   refine hw.join hw2 (fun c hc=>hc) (fun c hc=> .inl hc))) hbig
  exact .inl (fin v' w' D hr hD (.inl hb) hg.keys (fun c hc=>(hg.new c hc).imp id And.right) hg.look)
 ·rcases wS_ (w0:=w) (L:=X) (ty:=ty) (b:=b) (x:=ev f x) hp hu hm hi hz hzs hux hnx (fun w2 hw2=>hX w2 (by
   refine hw.join hw2 (fun c hc=>hc) (fun c hc=> .inl hc))) hbig with⟨h0,hr⟩ | ⟨-,v',w',D,hr,hD,hb,hg,-⟩
  ·subst h0
   have hnw:=(hX w hw).size
   obtain rfl:new= []:=List.eq_nil_of_length_eq_zero (by rw[hnw,Nat.zero_mul])
   exact .inl (fin _ w X hr hp (.inr ⟨rfl,rfl,b,rfl,hlk⟩) (fun c hc=>hc) (fun c hc=> .inl hc) (fun c o _ hl=>hl))
  ·exact .inl (fin v' w' D hr hD (.inl hb) hg.keys (fun c hc=>(hg.new c hc).imp id And.right) (fun c o _ hl=>hg.look c o (by simp[slB]) hl))
end
theorem New.perm {n:Nat} {D D':zb_} (h:New n D) (hp:D.Perm D'):New n D':=New.of_le fun c hc=>h.le c ((hp.map Prod.fst).mem_iff.2 hc)
end Go.Sx
section
open Go Go.Proofs Go.Sx Go.StP Go.Flo
namespace Go.Proofs
set_option maxRecDepth 10000
set_option maxHeartbeats 400000
set_option linter.unusedSimpArgs false
def dB (d:List UInt8):Int×Nat×Int:=zD_ d 0 0 4099
def dM (d:List UInt8):Int×Nat×Int:=zD_ d (dB d).2.1 (dB d).2.2 4099
theorem ad4_ (d:List UInt8):Wx_ d=if(dM d).2.2≠0 then none else if(pcs d (dM d).2.1).2.2≠0 then none else if chkV (dB d).1 (pcs d (dM d).2.1).1=((dM d).1,0) then some ((dB d).1.toNat,(pcs d (dM d).2.1).1) else none:=rfl
theorem aqI_ (p:PcL):Kz_ Tryz.prog 297 1 [(0, .agg (pcC p).toArray)]=some (311,(pcC p).toArray):=
 qA_ Tryz.underlying297 (id (by kernel_rfl)) zrPc (by decide) (Qa_ p)
set_option linter.defProp false
end Go.Proofs
end
section
open Go Go.Proofs Go.Sx Go.StP Go.Flo
namespace Go.Proofs
set_option maxRecDepth 10000
set_option maxHeartbeats 400000
set_option linter.unusedSimpArgs false
theorem W4_ {d:List UInt8} {p:Nat×List PcL} (h:Wx_ d=some p): ∃m,chkV (p.1:Nat) p.2=(m,0):=by
 rw[ad4_] at h
 split at h
 ·cases h
 ·split at h
  ·cases h
  ·split at h
   ·rename_i hc
    cases h
    have hb0:=jj_ (s:=d) (a:=0) (e:=0) (most:=4099) (by omega)
    change 0≤ (dB d).1∧(dB d).1≤4099 at hb0
    refine⟨(dM d).1, ?_⟩
    rw[show(((dB d).1.toNat:Nat):Int)=(dB d).1 by omega]
    exact hc
   ·cases h
set_option linter.defProp false
end Go.Proofs
end
section
open Go Go.Proofs Go.Sx Go.StP Go.Flo
namespace Go.Proofs
set_option maxRecDepth 10000
set_option maxHeartbeats 400000
set_option linter.unusedSimpArgs false
structure PartL where
 d:Bool
 b:Int
 x:List UInt8
def xD_:PartL:=⟨false,0,[]⟩
def qH_ (p:PartL):List Value:= [.bool p.d,vi p.b,vs p.x]
theorem KM_ (p:PartL): (qH_ p).length=3:=rfl
theorem acT_ (p:PartL): (qH_ p).all Value.oneCell'=true:=rfl
def x7_ (l:List PartL):Nat→Nat→Except Int (List Nat)
 |0,_=> .error 11
 |k+1,at_=>
  if(l.getD at_ xD_).d=true then
   (if(l.getD at_ xD_).b<0∨(at_:Int)≤ (l.getD at_ xD_).b then .error 2
   else if k=0 then .error 11
   else(x7_ l k (l.getD at_ xD_).b.toNat).map (at_:: ·))
  else if(l.getD at_ xD_).b≠0 then .error 2 else .ok [at_]
def wi_ (l:List PartL) (at_:Int):Except Int (List Nat):=
 if 200<l.length∨at_<0∨(l.length:Int)≤at_ then .error 1 else x7_ l 5 at_.toNat
def kA_ (p:PartL) (base:List UInt8):List UInt8×Int:=if p.d=true then xZ_ base p.x else if 4099<p.x.length then([],19) else(p.x,0)
def wc_ (l:List PartL):List Nat→Except Int (List UInt8)
 | []=> .ok []
 |a::p=>(wc_ l p).bind fun s=>if(kA_ (l.getD a xD_) s).2=0 then .ok (kA_ (l.getD a xD_) s).1 else .error (kA_ (l.getD a xD_) s).2
def partV (l:List PartL) (at_:Int):Except Int (List UInt8):=(wi_ l at_).bind (wc_ l)
def as5_ (l:List PartL):Nat→Except Int (List (List UInt8))
 |0=> .ok []
 |k+1=>(as5_ l k).bind fun ts=>(partV l (k:Nat)).map fun s=>ts++ [s]
def allV (l:List PartL):Except Int (List (List UInt8)):=if 200<l.length then .error 1 else as5_ l l.length
end Go.Proofs
end
section
open Go Go.Proofs Go.Sx Go.StP Go.Flo
namespace Go.Proofs
set_option maxRecDepth 10000
set_option maxHeartbeats 400000
set_option linter.unusedSimpArgs false
def natC (n:Nat):List Value:= [vi n]
theorem aib_ (n:Nat): (natC n).length=1:=rfl
abbrev ap6_ (w:World) (v:Value) (l:List PartL):Prop:=SlV 3 qH_ xD_ w v l
theorem WC_ (p:PartL) (E:TypeId) (n:Nat):zt_ (some (false,n)) (some (.cells (qH_ p).toArray E (0,0))) 0=some (.bool p.d):=(rfl)
theorem Wl_ (p:PartL) (E:TypeId) (n:Nat):zt_ (some (false,n)) (some (.cells (qH_ p).toArray E (0,0))) 1=some (vi p.b):=(rfl)
theorem Wm_ (p:PartL) (E:TypeId) (n:Nat):zt_ (some (false,n)) (some (.cells (qH_ p).toArray E (0,0))) 2=some (vs p.x):=(rfl)
theorem w9_ (p:PartL):Value.cells (.agg (qH_ p).toArray)=(qH_ p).toArray:=za_ _
theorem acF_:zM_ Tryz.prog 279=some (.agg (qH_ xD_).toArray):=id (by kernel_rfl)
theorem Ws_ (p q:PartL) (E:TypeId):zv_ (some (true,3)) (some (.cells (qH_ q).toArray E (0,0))) 0 (.agg (qH_ p).toArray)=some (.cells (qH_ p).toArray E (0,0)):=
 ky_ (qH_ p) (n:=3) true (qH_ q).toArray E rfl (acT_ p) rfl
def ac3_ (l:List PartL) (a0:Int) (v:Value) (D:zb_):Prop:=match wi_ l a0 with
 | .ok p=> ∃x,v= .tuple #[x,vi 0]∧p.length≤5∧GrI D 3 1 x p.length (p.map natC).flatten
 | .error e=>v= .tuple #[.slice none 0 0,vi e]
set_option linter.defProp false
end Go.Proofs
end
section
open Go Go.Proofs Go.Sx Go.StP Go.Flo
namespace Go.Proofs
set_option maxRecDepth 10000
set_option maxHeartbeats 400000
set_option linter.unusedSimpArgs false
theorem WT_ {l:List PartL}: ∀ (k a:Nat) (e:Int),x7_ l k a= .error e→e≠0
 |0,_,e,h=>by cases h;decide
 |k+1,a,e,h=>by
  unfold x7_ at h
  split at h
  ·split at h
   ·cases h;decide
   ·split at h
    ·cases h;decide
    ·cases hp:x7_ l k (l.getD a xD_).b.toNat with
     |error x=>rw[hp] at h;cases h;exact WT_ k _ _ hp
     |ok q=>rw[hp] at h;cases h
  ·split at h
   ·cases h;decide
   ·cases h
theorem ab8_ {l:List PartL} {a:Int} {e:Int} (h:wi_ l a= .error e):e≠0:=by
 unfold wi_ at h
 split at h
 ·cases h;decide
 ·exact WT_ _ _ _ h
theorem ac9_ {l:List PartL}: ∀ (k a:Nat) (p:List Nat),a<l.length→x7_ l k a= .ok p→ ∀x,x∈p→x<l.length
 |0,_,_,_,h=>by cases h
 |k+1,a,p,ha,h=>by
  unfold x7_ at h
  split at h
  ·split at h
   ·cases h
   ·rename_i hb
    split at h
    ·cases h
    ·cases hp:x7_ l k (l.getD a xD_).b.toNat with
     |error x=>rw[hp] at h;cases h
     |ok q=>
      rw[hp] at h
      cases h
      intro x hx
      rcases List.mem_cons.1 hx with rfl|hx
      ·exact ha
      ·exact ac9_ k _ q (by omega) hp x hx
  ·split at h
   ·cases h
   ·cases h
    intro x hx
    rw[List.mem_singleton] at hx
    omega
theorem aoG_ {l:List PartL} {a:Int} {p:List Nat} (h:wi_ l a= .ok p): ∀x,x∈p→x<l.length:=by
 unfold wi_ at h
 split at h
 ·cases h
 ·exact ac9_ _ _ _ (by omega) h
theorem Jy_ {l:List PartL} {e:Int}: ∀ (p:List Nat) (i:Nat),wc_ l (p.drop i)= .error e→wc_ l p= .error e
 | [],i,h=>by rw[List.drop_nil] at h;exact h
 |a::p,0,h=>h
 |a::p,i+1,h=>by
  have:=Jy_ p i h
  unfold wc_
  rw[this];rfl
theorem ao6_ {E:TypeId} {rest:List Value} {l:List Nat} (n i:Nat) (hi:i<l.length):zt_ (some (false,n)) (some (rowO natC E rest l)) i=some (vi (l.getD i 0)):=by
 unfold rowO zt_
 have e: (l.map natC).flatten=l.map fun n=>vi (n:Nat):=by
  clear hi
  induction l with
  |nil=>rfl
  |cons a l ih=>rw[List.map_cons,List.flatten_cons,List.map_cons,ih];rfl
 simp only[e]
 rw[List.getElem?_toArray,List.getElem?_append_left (by simpa using hi),List.getElem?_map,List.getElem?_eq_getElem hi,List.getD_eq_getElem?_getD,List.getElem?_eq_getElem hi]
 rfl
set_option linter.defProp false
def aj1_ (r:Except Int (List UInt8)):Value:=match r with
 | .ok s=> .tuple #[vs s,vi 0]
 | .error e=> .tuple #[vs [],vi e]
end Go.Proofs
end
section
open Go Go.Proofs Go.Sx Go.StP Go.Flo
namespace Go.Proofs
set_option maxRecDepth 10000
set_option maxHeartbeats 400000
set_option linter.unusedSimpArgs false
set_option linter.defProp false
end Go.Proofs
end
section
open Go Go.Proofs Go.Sx Go.StP Go.Flo
namespace Go.Proofs
set_option maxRecDepth 10000
set_option maxHeartbeats 400000
set_option linter.unusedSimpArgs false
theorem adF_ {l:List PartL} {e:Int}: ∀ (p:List Nat),wc_ l p= .error e→e≠0
 | [],h=>by cases h
 |a::p,h=>by
  unfold wc_ at h
  cases hp:wc_ l p with
  |error x=>rw[hp] at h;cases h;exact adF_ p hp
  |ok s=>
   rw[hp] at h
   change(if(kA_ (l.getD a xD_) s).2=0 then _ else _)=_ at h
   split at h
   ·cases h
   ·rename_i hne;cases h;exact hne
theorem anu_ {l:List PartL} {a e:Int} (h:partV l a= .error e):e≠0:=by
 unfold partV at h
 cases hp:wi_ l a with
 |error x=>rw[hp] at h;cases h;exact ab8_ hp
 |ok p=>rw[hp] at h;exact adF_ p h
def strC (s:List UInt8):List Value:= [vs s]
theorem ahJ_ (s:List UInt8): (strC s).length=1:=rfl
set_option linter.defProp false
end Go.Proofs
end
namespace Go.Dig
open Go.Sx
def hexL:List UInt8:= [48,49,50,51,52,53,54,55,56,57,97,98,99,100,101,102]
def jM_ (b:UInt8):Int:=if 48≤b.toNat∧b.toNat≤57 then(b.toNat:Int) - 48 else if 97≤b.toNat∧b.toNat≤102 then(b.toNat:Int) - 97+10 else -1
theorem aru_ (b:UInt8) (g:Nat) (hg:g<16) (h: (hexL.getD g 0==b)=true):jM_ b=g:=by
 have: ∀i:Fin 16,jM_ (hexL.getD i.val 0)=(i.val:Int):=by decide+kernel
 have h1:=this ⟨g,hg⟩
 rw[beq_iff_eq] at h
 rw[←h];exact h1
theorem arg_ (b:UInt8) (hne: ∀i,i<16→hexL.getD i 0≠b):jM_ b= -1:=by
 have key: ∀n:Fin 256,jM_ (UInt8.ofNat n.val)= -1∨ ∃i:Fin 16,hexL.getD i.val 0=UInt8.ofNat n.val:=by decide+kernel
 have hb:UInt8.ofNat b.toNat=b:=by simp
 have:=key ⟨b.toNat,b.toNat_lt⟩
 simp only[hb] at this
 rcases this with h| ⟨i,hi⟩
 ·exact h
 ·exact absurd hi (hne i.val i.isLt)
def hexD (n:Nat):UInt8:=hexL.getD n 0
def hexB (b:UInt8):List UInt8:= [hexD (b.toNat / 16),hexD (b.toNat%16)]
def zU_ (id:List UInt8):List UInt8:=id.flatMap hexB
def J5_ (id:List UInt8) (g:Nat):List UInt8:=zU_ (id.take g)++List.replicate (64 - 2*g) 0
theorem qo_ (id:List UInt8): (zU_ id).length=2*id.length:=by
 induction id with
 |nil=>rfl
 |cons b r ih=>simp only[zU_,List.flatMap_cons,List.length_append] at ih ⊢;rw[ih];simp[hexB];omega
theorem Q7_ (id:List UInt8) (g:Nat) (h:id.length=32) (hg:g≤32): (J5_ id g).length=64:=by
 simp[J5_,qo_,h];omega
theorem af2_ (id:List UInt8) (g:Nat) (h:id.length=32) (hg:g<32) (x y:UInt8) (hx:x=hexD ((id.getD g 0).toNat / 16)) (hy:y=hexD ((id.getD g 0).toNat%16)):
  ((J5_ id g).set (2*g) x).set (2*g+1) y=J5_ id (g+1):=by
 have hl: (zU_ (id.take g)).length=2*g:=by rw[qo_];simp;omega
 have hr:List.replicate (64 - 2*g) (0:UInt8)=0::0::List.replicate (64 - 2* (g+1)) 0:=by
  have:64 - 2*g=(64 - 2* (g+1))+1+1:=by omega
  rw[this];rfl
 have ht:id.take (g+1)=id.take g++ [id.getD g 0]:=by
  rw[List.take_add_one]
  simp[List.getD_eq_getElem?_getD,h,hg]
 have key: ∀ (p q:List UInt8) (a b:UInt8),((p++a::b::q).set p.length x).set (p.length+1) y=p++x::y::q:=by
  intro p q a b
  induction p with
  |nil=>rfl
  |cons c r ih=>simp only[List.cons_append,List.length_cons,List.set_cons_succ,ih]
 unfold J5_
 rw[ht,hr,←hl,key]
 simp[zU_,hexB,hx,hy]
theorem ajj_ (id:List UInt8) (h:id.length=32):J5_ id 32=zU_ id:=by
 simp[J5_,List.take_of_length_le (show id.length≤32 by omega)]
theorem aqS_ (b:UInt8): (vy_ b 4).toNat<16:=by
 have:=b.toNat_lt
 rw[vy_,UInt8.toNat_ofNat'];omega
theorem apa_ (b:UInt8): (b&&&15).toNat<16:=by
 rw[UInt8.toNat_and]
 exact Nat.lt_of_le_of_lt Nat.and_le_right (by decide)
theorem arW_ (b:UInt8):hexL.getD (vy_ b 4).toNat 0=hexD (b.toNat / 16):=by
 have:=b.toNat_lt
 rw[vy_,UInt8.toNat_ofNat',Nat.mod_eq_of_lt (by omega)];rfl
theorem aof_ (b:UInt8):hexL.getD (b&&&15).toNat 0=hexD (b.toNat%16):=by
 rw[UInt8.toNat_and]
 have:b.toNat&&& (15:UInt8).toNat=b.toNat%16:=Nat.and_two_pow_sub_one_eq_mod b.toNat 4
 rw[this];rfl
theorem alR_ (id:List UInt8) (g:Nat) (h:id.length=32) (hg:g<32):zU_ (id.take (g+1))=zU_ (id.take g)++ [hexD ((id.getD g 0).toNat / 16)]++ [hexD ((id.getD g 0).toNat%16)]:=by
 have ht:id.take (g+1)=id.take g++ [id.getD g 0]:=by
  rw[List.take_add_one]
  simp[List.getD_eq_getElem?_getD,h,hg]
 rw[ht];simp[zU_,hexB]
theorem amH_ (n:Nat) (h:n<16): (hexL.take (n+1)).drop n= [hexD n]:=by
 have: ∀i:Fin 16,(hexL.take (i.val+1)).drop i.val= [hexD i.val]:=by decide+kernel
 exact this ⟨n,h⟩
def ZK_ (l:List UInt8) (n:Nat):List UInt8:=(List.range n).map fun i=>UInt8.ofInt (jM_ (l.getD (2*i) 0)*16+jM_ (l.getD (2*i+1) 0))
def Xk_ (l:List UInt8):Bool:=l.length==64&&l.all fun c=>decide (0≤jM_ c)
def w0_ (l:List UInt8):List UInt8:=if Xk_ l then ZK_ l 32 else List.replicate 32 0
def k2_ (l:List UInt8) (g:Nat):List UInt8:=ZK_ l g++List.replicate (32 - g) 0
theorem XY_ (l:List UInt8) (g:Nat) (hg:g≤32): (k2_ l g).length=32:=by simp[k2_,ZK_];omega
theorem aaN_ (l:List UInt8) (g:Nat) (hg:g<32) (x:UInt8) (hx:x=UInt8.ofInt (jM_ (l.getD (2*g) 0)*16+jM_ (l.getD (2*g+1) 0))): (k2_ l g).set g x=k2_ l (g+1):=by
 have hr:List.replicate (32 - g) (0:UInt8)=0::List.replicate (32 - (g+1)) 0:=by
  have:32 - g=(32 - (g+1))+1:=by omega
  rw[this];rfl
 have hl: (ZK_ l g).length=g:=by simp[ZK_]
 have key: ∀ (p q:List UInt8) (a:UInt8),(p++a::q).set p.length x=p++x::q:=by
  intro p q a
  induction p with
  |nil=>rfl
  |cons c r ih=>simp only[List.cons_append,List.length_cons,List.set_cons_succ,ih]
 unfold k2_
 rw[hr]
 have:=key (ZK_ l g) (List.replicate (32 - (g+1)) 0) 0
 rw[hl] at this
 rw[this]
 simp[ZK_,List.range_succ,hx]
theorem acS_ (b:UInt8): -1≤jM_ b∧jM_ b≤15:=by unfold jM_;repeat' split<;>omega
theorem ag8_ (l:List UInt8) (i:Nat) (hl:l.length=64) (hi:i<64) (h:jM_ (l.getD i 0)<0):Xk_ l=false:=by
 unfold Xk_
 rw[Bool.and_eq_false_iff]
 right
 rw[Bool.eq_false_iff]
 intro ha
 rw[List.all_eq_true] at ha
 have hm:l.getD i 0∈l:=by
  rw[List.getD_eq_getElem?_getD,List.getElem?_eq_getElem (by omega)]
  exact List.getElem_mem _
 have:=ha _ hm
 simp only[decide_eq_true_eq] at this
 omega
theorem abK_ (l:List UInt8) (hl:l.length=64) (h: ∀i,i<64→0≤jM_ (l.getD i 0)):Xk_ l=true:=by
 unfold Xk_
 rw[Bool.and_eq_true]
 refine⟨by simp[hl], ?_⟩
 rw[List.all_eq_true]
 intro c hc
 obtain⟨i,hi,rfl⟩:=List.mem_iff_getElem.1 hc
 have:=h i (by omega)
 rw[List.getD_eq_getElem?_getD,List.getElem?_eq_getElem hi] at this
 simpa using this
theorem adK_ (l:List UInt8) (hl: ¬l.length=64):Xk_ l=false:=by
 unfold Xk_
 rw[Bool.and_eq_false_iff]
 left;simpa using hl
theorem nib (a b:Int) (ha:0≤a) (hb:0≤b) (hb':b≤15): (((a*16).toNat|||b.toNat:Nat):Int)=a*16+b:=by
 obtain⟨n,rfl⟩:=Int.eq_ofNat_of_zero_le ha
 obtain⟨m,rfl⟩:=Int.eq_ofNat_of_zero_le hb
 have e: ((n:Int)*16).toNat=n<<<4:=by rw[Nat.shiftLeft_eq];omega
 rw[e,Int.toNat_natCast,←Nat.shiftLeft_add_eq_or_of_lt (by omega:m<2^4),Nat.shiftLeft_eq]
 omega
def rgt (x:UInt32) (n:UInt64):UInt32:=zS_ x n.toNat|||xk_ x (32 - n).toNat
def rol (x:UInt32) (k:Int):UInt32:=xk_ x (UInt64.ofInt k&&&31).toNat|||zS_ x (32 - (UInt64.ofInt k&&&31)).toNat
def alQ_ (x:UInt32) (a b c:Int):UInt32:=rol x (-a)^^^rol x (-b)^^^zS_ x c.toNat
def akx_ (x:UInt32) (a b c:Int):UInt32:=rol x (-a)^^^rol x (-b)^^^rol x (-c)
def S1 (e:UInt32):UInt32:=rgt e 6^^^rgt e 11^^^rgt e 25
def S0 (a:UInt32):UInt32:=rgt a 2^^^rgt a 13^^^rgt a 22
def s1 (y:UInt32):UInt32:=rgt y 17^^^rgt y 19^^^zS_ y 10
def s0 (x:UInt32):UInt32:=rgt x 7^^^rgt x 18^^^zS_ x 3
theorem rol6 (x:UInt32):rol x (-6)=rgt x 6:=by unfold rol rgt;rw[UInt32.or_comm];rfl
theorem at8_ (x:UInt32):rol x (-11)=rgt x 11:=by unfold rol rgt;rw[UInt32.or_comm];rfl
theorem at9_ (x:UInt32):rol x (-25)=rgt x 25:=by unfold rol rgt;rw[UInt32.or_comm];rfl
theorem rol2 (x:UInt32):rol x (-2)=rgt x 2:=by unfold rol rgt;rw[UInt32.or_comm];rfl
theorem auw_ (x:UInt32):rol x (-13)=rgt x 13:=by unfold rol rgt;rw[UInt32.or_comm];rfl
theorem at0_ (x:UInt32):rol x (-22)=rgt x 22:=by unfold rol rgt;rw[UInt32.or_comm];rfl
theorem at1_ (x:UInt32):rol x (-17)=rgt x 17:=by unfold rol rgt;rw[UInt32.or_comm];rfl
theorem auz_ (x:UInt32):rol x (-19)=rgt x 19:=by unfold rol rgt;rw[UInt32.or_comm];rfl
theorem rol7 (x:UInt32):rol x (-7)=rgt x 7:=by unfold rol rgt;rw[UInt32.or_comm];rfl
theorem aul_ (x:UInt32):rol x (-18)=rgt x 18:=by unfold rol rgt;rw[UInt32.or_comm];rfl
theorem aun_ (x:UInt32):akx_ x 6 11 25=S1 x:=by unfold akx_ S1;rw[rol6,at8_,at9_]
theorem atZ_ (x:UInt32):akx_ x 2 13 22=S0 x:=by unfold akx_ S0;rw[rol2,auw_,at0_]
theorem auj_ (x:UInt32):alQ_ x 17 19 10=s1 x:=by unfold alQ_ s1;rw[at1_,auz_];rfl
theorem auh_ (x:UInt32):alQ_ x 7 18 3=s0 x:=by unfold alQ_ s0;rw[rol7,aul_];rfl
def kL:List UInt32:= [1116352408,1899447441,3049323471,3921009573,961987163,1508970993,2453635748,2870763221,3624381080,310598401,607225278,1426881987,1925078388,2162078206,2614888103,3248222580,3835390401,4022224774,264347078,604807628,770255983,1249150122,1555081692,1996064986,2554220882,2821834349,2952996808,3210313671,3336571891,3584528711,113926993,338241895,666307205,773529912,1294757372,1396182291,1695183700,1986661051,2177026350,2456956037,2730485921,2820302411,3259730800,3345764771,3516065817,3600352804,4094571909,275423344,430227734,506948616,659060556,883997877,958139571,1322822218,1537002063,1747873779,1955562222,2024104815,2227730452,2361852424,2428436474,2756734187,3204031479,3329325298]
def initL:List UInt32:= [1779033703,3144134277,1013904242,2773480762,1359893119,2600822924,528734635,1541459225]
def aog_ (b:List UInt8) (i:Nat):UInt32:=
 UInt32.ofNat (b.getD (4*i) 0).toNat*16777216+UInt32.ofNat (b.getD (4*i+1) 0).toNat*65536+UInt32.ofNat (b.getD (4*i+2) 0).toNat*256+UInt32.ofNat (b.getD (4*i+3) 0).toNat
def W6_ (b:List UInt8) (i:Nat):List UInt32:=(List.range 64).map fun j=>if j<i then aog_ b j else 0
theorem v1_ (b:List UInt8) (i:Nat): (W6_ b i).length=64:=by simp[W6_]
theorem acy_ (b:List UInt8) (i:Nat): (W6_ b i).set i (aog_ b i)=W6_ b (i+1):=by
 apply List.ext_getElem
 ·simp[W6_]
 intro k hk1 hk2
 have hk:k<64:=by simpa [W6_] using hk2
 rw[List.getElem_set]
 by_cases h:i=k
 ·subst h;simp[W6_]
 ·rw[if_neg h]
  simp only[W6_,List.getElem_map,List.getElem_range]
  by_cases h1:k<i
  ·rw[if_pos h1,if_pos (by omega)]
  ·rw[if_neg h1,if_neg (by omega)]
theorem acN_ (b:List UInt8):W6_ b 0=List.replicate 64 0:=by
 apply List.ext_getElem
 ·simp[W6_]
 intro k hk1 hk2
 simp only[W6_,List.getElem_map,List.getElem_range,List.getElem_replicate]
 rw[if_neg (by omega)]
def ao1_ (w:List UInt32) (g:Nat):List UInt32:=w.set g (s1 (w.getD (g - 2) 0)+w.getD (g - 7) 0+s0 (w.getD (g - 15) 0)+w.getD (g - 16) 0)
def wGo (w:List UInt32):Nat→List UInt32
 |0=>w
 |n+1=>ao1_ (wGo w n) (16+n)
theorem WO_ (w:List UInt32) (n:Nat): (wGo w n).length=w.length:=by
 induction n with
 |zero=>rfl
 |succ n ih=>simp[wGo,ao1_,ih]
def wAll (b:List UInt8):List UInt32:=wGo (W6_ b 16) 48
theorem X8_ (b:List UInt8): (wAll b).length=64:=by rw[wAll,WO_,v1_]
def arC_ (s:List UInt32) (k w:UInt32):List UInt32:=
 let t:=s.getD 7 0+S1 (s.getD 4 0)+ (s.getD 4 0&&&s.getD 5 0||| ~~~ s.getD 4 0&&&s.getD 6 0)+k+w
 let u:=S0 (s.getD 0 0)+ (s.getD 0 0&&&s.getD 1 0|||s.getD 0 0&&&s.getD 2 0|||s.getD 1 0&&&s.getD 2 0)
 [t+u,s.getD 0 0,s.getD 1 0,s.getD 2 0,s.getD 3 0+t,s.getD 4 0,s.getD 5 0,s.getD 6 0]
def rGo (st w:List UInt32):Nat→List UInt32
 |0=>st
 |n+1=>arC_ (rGo st w n) (kL.getD n 0) (w.getD n 0)
theorem aiw_ (st w:List UInt32) (n:Nat) (h:st.length=8): (rGo st w n).length=8:=by
 cases n with
 |zero=>exact h
 |succ n=>rfl
def x9_ (st s:List UInt32) (i:Nat):List UInt32:=(List.range 8).map fun j=>if j<i then st.getD j 0+s.getD j 0 else st.getD j 0
theorem Q6_ (st s:List UInt32) (i:Nat): (x9_ st s i).length=8:=by simp[x9_]
theorem ajn_ (st s:List UInt32) (i j:Nat) (hj:j<8): (x9_ st s i).getD j 0=if j<i then st.getD j 0+s.getD j 0 else st.getD j 0:=by
 simp[x9_,List.getD_eq_getElem?_getD,hj]
theorem af0_ (st s:List UInt32) (i:Nat): (x9_ st s i).set i (st.getD i 0+s.getD i 0)=x9_ st s (i+1):=by
 apply List.ext_getElem
 ·simp[x9_]
 intro k hk1 hk2
 rw[List.getElem_set]
 by_cases h:i=k
 ·subst h;simp[x9_]
 ·rw[if_neg h]
  simp only[x9_,List.getElem_map,List.getElem_range]
  by_cases h1:k<i
  ·rw[if_pos h1,if_pos (by omega)]
  ·rw[if_neg h1,if_neg (by omega)]
theorem ae4_ (st s:List UInt32) (h:st.length=8):x9_ st s 0=st:=by
 apply List.ext_getElem
 ·simp[x9_,h]
 intro k hk1 hk2
 simp[x9_,List.getD_eq_getElem?_getD,hk2]
def comp (st:List UInt32) (b:List UInt8):List UInt32:=x9_ st (rGo st (wAll b) 64) 8
theorem Qi_ (st:List UInt32) (b:List UInt8): (comp st b).length=8:=Q6_ _ _ _
def ZO_ (st:List UInt32) (m:List UInt8):Nat→List UInt32
 |0=>st
 |n+1=>comp (ZO_ st m n) ((m.drop (64*n)).take 64)
theorem acY_ (st:List UInt32) (m:List UInt8) (n:Nat) (h:st.length=8): (ZO_ st m n).length=8:=by
 cases n with
 |zero=>exact h
 |succ n=>exact Qi_ _ _
theorem adg_ (st:List UInt32) (m x:List UInt8) (n:Nat) (h:64*n≤m.length):ZO_ st (m++x) n=ZO_ st m n:=by
 induction n with
 |zero=>rfl
 |succ n ih=>
  simp only[ZO_]
  rw[ih (by omega),List.drop_append_of_le_length (by omega),List.take_append_of_le_length (by simp;omega)]
def wp_ (bg:Bool) (st:List UInt32) (rest:List UInt8) (many:Int) (taken:UInt64):List Value:=
 .bool bg:: (st.map (fun x=>Value.int .u32 (x.toNat:Int))++ (rest.map (fun x=>Value.int .u8 (x.toNat:Int))++ [vi many,v64 taken]))
def zQ_ (bg:Bool) (st:List UInt32) (rest:List UInt8) (many:Int) (taken:UInt64):Array Value:=(wp_ bg st rest many taken).toArray
section
variable {bg:Bool} {st:List UInt32} {rest:List UInt8} {many:Int} {taken:UInt64} {E:TypeId}
theorem jW_ (h:st.length=8∧rest.length=64): (zQ_ bg st rest many taken).size=75:=by simp[zQ_,wp_,h]
theorem akC_: (zQ_ bg st rest many taken)[0]? =some (.bool bg):=rfl
theorem alI_ (k:Nat) (hk:k<8) (h:st.length=8): (zQ_ bg st rest many taken)[1+k]? =some (v32 (st.getD k 0)):=by
 have:1+k=k+1:=by omega
 rw[this,zQ_,List.getElem?_toArray,wp_,List.getElem?_cons_succ,List.getElem?_append_left (by simp;omega)]
 simp[v32,List.getD_eq_getElem?_getD,h,hk]
theorem adN_ (k:Nat) (hk:k<64) (h:st.length=8∧rest.length=64): (zQ_ bg st rest many taken)[9+k]? =some (v8 (rest.getD k 0)):=by
 have:9+k=(8+k)+1:=by omega
 rw[this,zQ_,List.getElem?_toArray,wp_,List.getElem?_cons_succ,List.getElem?_append_right (by simp;omega),List.getElem?_append_left (by simp;omega)]
 have e:8+k - (List.map (fun x:UInt32=>Value.int .u32 (x.toNat:Int)) st).length=k:=by simp;omega
 rw[e]
 simp[v8,List.getD_eq_getElem?_getD,h,hk]
theorem akS_ (h:st.length=8∧rest.length=64): (zQ_ bg st rest many taken)[73]? =some (vi many):=by
 rw[zQ_,List.getElem?_toArray,wp_,List.getElem?_cons_succ,List.getElem?_append_right (by simp;omega),List.getElem?_append_right (by simp;omega)]
 simp[h]
theorem ali_ (h:st.length=8∧rest.length=64): (zQ_ bg st rest many taken)[74]? =some (v64 taken):=by
 rw[zQ_,List.getElem?_toArray,wp_,List.getElem?_cons_succ,List.getElem?_append_right (by simp;omega),List.getElem?_append_right (by simp;omega)]
 simp[h]
theorem Zf_ (n:Nat):zt_ (some (false,n)) (some (.cells (zQ_ bg st rest many taken) E (0,0))) 0=some (.bool bg):=akC_
theorem Zt_ (n k:Nat) (h:k<8∧st.length=8):zt_ (some (false,n)) (some (.cells (zQ_ bg st rest many taken) E (0,0))) (1+k)=some (v32 (st.getD k 0)):=alI_ k h.1 h.2
theorem Zb_ (n k:Nat) (h:k<64∧st.length=8∧rest.length=64):zt_ (some (false,n)) (some (.cells (zQ_ bg st rest many taken) E (0,0))) (9+k)=some (v8 (rest.getD k 0)):=adN_ k h.1 h.2
theorem vU_ (n j k:Nat) (h:j+k<64∧st.length=8∧rest.length=64):zt_ (some (false,n)) (some (.cells (zQ_ bg st rest many taken) E (0,0))) (9+j+k)=some (v8 (rest.getD (j+k) 0)):=by
 rw[Nat.add_assoc];exact adN_ (j+k) h.1 h.2
theorem Zo_ (n:Nat) (h:st.length=8∧rest.length=64):zt_ (some (false,n)) (some (.cells (zQ_ bg st rest many taken) E (0,0))) 73=some (vi many):=akS_ h
theorem Zw_ (n:Nat) (h:st.length=8∧rest.length=64):zt_ (some (false,n)) (some (.cells (zQ_ bg st rest many taken) E (0,0))) 74=some (v64 taken):=ali_ h
theorem wf_ (h:st.length=8∧rest.length=64):zt_ (some (true,8)) (some (.cells (zQ_ bg st rest many taken) E (0,0))) 1=some (.agg (a32 st)):=by
 have hs:1+8≤ (zQ_ bg st rest many taken).size:=by rw[jW_ h];omega
 simp only[zt_,hs, ↓reduceIte]
 congr 2
 rw[zQ_,a32,wp_]
 simp only[List.extract_toArray,List.extract_eq_take_drop]
 congr 1
 simp[h]
theorem kS_ (h:st.length=8∧rest.length=64):zt_ (some (true,75)) (some (.cells (zQ_ bg st rest many taken) E (0,0))) 0=some (.agg (zQ_ bg st rest many taken)):=kR_ _ _ _ _ (jW_ h)
theorem apg_: (zQ_ bg st rest many taken).toList.all Value.oneCell'=true:=by
 simp[zQ_,wp_,Value.oneCell',vi,v64]
theorem xn_ (old:Array Value) (h:st.length=8∧rest.length=64∧old.size=75):zv_ (some (true,75)) (some (.cells old E (0,0))) 0 (.agg (zQ_ bg st rest many taken))=some (.cells (zQ_ bg st rest many taken) E (0,0)):=
 Qw_ _ _ _ _ _ ⟨jW_ ⟨h.1,h.2.1⟩,h.2.2⟩ apg_
theorem wF_ (i:Nat) (v:Value): (zQ_ bg st rest many taken).setIfInBounds i v=((wp_ bg st rest many taken).set i v).toArray:=by simp[zQ_]
theorem v2_ (b:Bool) (h:st.length=8∧rest.length=64):zv_ (some (false,1)) (some (.cells (zQ_ bg st rest many taken) E (0,0))) 0 (.bool b)=some (.cells (zQ_ b st rest many taken) E (0,0)):=by
 rw[kz_ _ _ _ _ _ (by rw[jW_ h];omega) rfl rfl,wF_];rfl
theorem vK_ (k:Nat) (x:UInt32) (h:k<8∧st.length=8∧rest.length=64):zv_ (some (false,1)) (some (.cells (zQ_ bg st rest many taken) E (0,0))) (1+k) (v32 x)=some (.cells (zQ_ bg (st.set k x) rest many taken) E (0,0)):=by
 have e:1+k=k+1:=by omega
 rw[kz_ _ _ _ _ _ (by rw[jW_ h.2];omega) rfl rfl,wF_,e,wp_,List.set_cons_succ,List.set_append_left _ _ (by simp;omega)]
 simp only[zQ_,wp_,List.map_set];rfl
theorem v8_ (k:Nat) (x:UInt8) (h:k<64∧st.length=8∧rest.length=64):zv_ (some (false,1)) (some (.cells (zQ_ bg st rest many taken) E (0,0))) (9+k) (v8 x)=some (.cells (zQ_ bg st (rest.set k x) many taken) E (0,0)):=by
 have e:9+k=(8+k)+1:=by omega
 rw[kz_ _ _ _ _ _ (by rw[jW_ h.2];omega) rfl rfl,wF_,e,wp_,List.set_cons_succ,List.set_append_right _ _ (by simp;omega),List.set_append_left _ _ (by simp;omega)]
 have e2:8+k - (List.map (fun x:UInt32=>Value.int .u32 (x.toNat:Int)) st).length=k:=by simp;omega
 rw[e2]
 simp only[zQ_,wp_,List.map_set];rfl
theorem vT_ (m:Int) (h:st.length=8∧rest.length=64):zv_ (some (false,1)) (some (.cells (zQ_ bg st rest many taken) E (0,0))) 73 (vi m)=some (.cells (zQ_ bg st rest m taken) E (0,0)):=by
 rw[kz_ _ _ _ _ _ (by rw[jW_ h];omega) rfl rfl,wF_,wp_,List.set_cons_succ,List.set_append_right _ _ (by simp;omega),List.set_append_right _ _ (by simp;omega)]
 simp[zQ_,wp_,h]
theorem vQ_ (t:UInt64) (h:st.length=8∧rest.length=64):zv_ (some (false,1)) (some (.cells (zQ_ bg st rest many taken) E (0,0))) 74 (v64 t)=some (.cells (zQ_ bg st rest many t) E (0,0)):=by
 rw[kz_ _ _ _ _ _ (by rw[jW_ h];omega) rfl rfl,wF_,wp_,List.set_cons_succ,List.set_append_right _ _ (by simp;omega),List.set_append_right _ _ (by simp;omega)]
 simp[zQ_,wp_,h]
theorem k1_ (st':List UInt32) (h:st.length=8∧rest.length=64∧st'.length=8):zv_ (some (true,8)) (some (.cells (zQ_ bg st rest many taken) E (0,0))) 1 (.agg (a32 st'))=some (.cells (zQ_ bg st' rest many taken) E (0,0)):=by
 have hs:1+8≤ (zQ_ bg st rest many taken).size:=by rw[jW_ ⟨h.1,h.2.1⟩];omega
 have hp:Jf_ (zQ_ bg st rest many taken) 1 (a32 st').toList=zQ_ bg st' rest many taken:=by
  have:=aeV_ (a32 st').toList [.bool bg] (st.map fun x=>Value.int .u32 (x.toNat:Int)) (rest.map (fun x=>Value.int .u8 (x.toNat:Int))++ [vi many,v64 taken]) (by simp[a32,h])
  simpa [zQ_,wp_,a32] using this
 have h1: (a32 st').size=8:=by rw[QK_];exact h.2.2
 simp only[zv_,za_,h1,hs,Nat.le_refl,true_or,alc_,and_self, ↓reduceIte,hp]
end
def acc (b:List UInt8) (i:Nat):Nat→UInt32
 |0=>0
 |k+1=>xk_ (acc b i k) 8|||UInt32.ofNat (b.getD (4*i+k) 0).toNat
theorem XA_ (x:UInt32) (c:UInt8) (h:x.toNat<16777216): (xk_ x 8|||UInt32.ofNat c.toNat).toNat=x.toNat*256+c.toNat:=by
 have hc:=c.toNat_lt
 rw[UInt32.toNat_or,xk_,UInt32.toNat_ofNat',UInt32.toNat_ofNat',Nat.mod_eq_of_lt (by omega),Nat.mod_eq_of_lt (by omega),←Nat.shiftLeft_eq,←Nat.shiftLeft_add_eq_or_of_lt (by omega:c.toNat<2^8),Nat.shiftLeft_eq]
theorem anI_ (b:List UInt8) (i:Nat):acc b i 4=aog_ b i:=by
 have h0:=(b.getD (4*i) 0).toNat_lt
 have h1:=(b.getD (4*i+1) 0).toNat_lt
 have h2:=(b.getD (4*i+2) 0).toNat_lt
 have h3:=(b.getD (4*i+3) 0).toNat_lt
 have e1: (acc b i 1).toNat=(b.getD (4*i) 0).toNat:=by
  have:=XA_ 0 (b.getD (4*i+0) 0) (by decide)
  simpa [acc] using this
 have l1: (acc b i 1).toNat<16777216:=by omega
 have e2: (acc b i 2).toNat=(acc b i 1).toNat*256+ (b.getD (4*i+1) 0).toNat:=XA_ _ _ l1
 have l2: (acc b i 2).toNat<16777216:=by omega
 have e3: (acc b i 3).toNat=(acc b i 2).toNat*256+ (b.getD (4*i+2) 0).toNat:=XA_ _ _ l2
 have l3: (acc b i 3).toNat<16777216:=by omega
 have e4: (acc b i 4).toNat=(acc b i 3).toNat*256+ (b.getD (4*i+3) 0).toNat:=XA_ _ _ l3
 apply UInt32.toNat.inj
 rw[e4,e3,e2,e1]
 unfold aog_
 simp only[UInt32.toNat_add,UInt32.toNat_mul,UInt32.toNat_ofNat']
 have k1: (16777216:UInt32).toNat=16777216:=rfl
 have k2: (65536:UInt32).toNat=65536:=rfl
 have k3: (256:UInt32).toNat=256:=rfl
 rw[k1,k2,k3]
 omega
theorem akd_ (b:List UInt8) (g:Nat):W6_ b g=(W6_ b g).set g (acc b g 0):=by
 apply List.ext_getElem
 ·simp
 intro k hk1 hk2
 rw[List.getElem_set]
 by_cases h:g=k
 ·subst h;simp[W6_,acc]
 ·rw[if_neg h]
theorem jI_ {α:Type} (l:List α) (i:Nat) (x d:α) (h:i<l.length): (l.set i x).getD i d=x:=by
 simp[List.getD_eq_getElem?_getD,h]
def wG (b:List UInt8) (g:Nat):List UInt32:=wGo (W6_ b 16) (g - 16)
theorem adr_ (b:List UInt8) (g:Nat): (wG b g).length=64:=by rw[wG,WO_,v1_]
theorem akD_ (b:List UInt8) (g:Nat) (h:16≤g):wG b (g+1)=ao1_ (wG b g) g:=by
 unfold wG
 have:g+1 - 16=(g - 16)+1:=by omega
 rw[this]
 show ao1_ _ (16+ (g - 16))=_
 rw[show 16+ (g - 16)=g from by omega]
theorem apZ_ (b:List UInt8):wG b 64=wAll b:=rfl
theorem aht_ (b:List UInt8):W6_ b 16=wG b 16:=rfl
theorem atp_ (a b c:UInt32): (a&&&b^^^ ~~~a&&&c)=(a&&&b||| ~~~a&&&c):=by
 apply UInt32.toBitVec_inj.1
 simp only[UInt32.toBitVec_xor,UInt32.toBitVec_or,UInt32.toBitVec_and,UInt32.toBitVec_not]
 ext i hi
 simp only[BitVec.getElem_xor,BitVec.getElem_or,BitVec.getElem_and,BitVec.getElem_not]
 cases a.toBitVec[i]<;>simp
theorem ark_ (a b c:UInt32): (a&&&b^^^a&&&c^^^b&&&c)=(a&&&b|||a&&&c|||b&&&c):=by
 apply UInt32.toBitVec_inj.1
 simp only[UInt32.toBitVec_xor,UInt32.toBitVec_or,UInt32.toBitVec_and]
 ext i hi
 simp only[BitVec.getElem_xor,BitVec.getElem_or,BitVec.getElem_and]
 cases a.toBitVec[i]<;>cases b.toBitVec[i]<;>simp
def Glob (w:World):Prop:= ∃e0 e1 f0 f1,w.heap[0]? =some (.cells (a32 initL) e0 f0)∧w.heap[1]? =some (.cells (a32 kL) e1 f1)
theorem Glob.of {w0 w:World} {L:zb_} (hg:Glob w0) (h:Hp w0 L w) (hk: ∀b,b∈keys L→1<b):Glob w:=by
 obtain⟨e0,e1,f0,f1,h0,h1⟩:=hg
 refine⟨e0,e1,f0,f1, ?_, ?_⟩
 ·rw[h.old 0 (Array.getElem?_eq_some_iff.1 h0).1 (fun hm=>by have:=hk 0 hm;omega)];exact h0
 ·rw[h.old 1 (Array.getElem?_eq_some_iff.1 h1).1 (fun hm=>by have:=hk 1 hm;omega)];exact h1
structure Hs where
 st:List UInt32
 rest:List UInt8
 many:Nat
structure Hs.Ok (s:Hs):Prop where
 st:s.st.length=8
 rest:s.rest.length=64
 many:s.many<64
def ZY_ (s:Hs) (x:UInt8):Hs:=
 if s.many+1=64 then⟨comp s.st (s.rest.set s.many x),s.rest.set s.many x,0⟩ else⟨s.st,s.rest.set s.many x,s.many+1⟩
theorem aaj_ {s:Hs} (x:UInt8) (h:s.Ok): (ZY_ s x).Ok:=by
 unfold ZY_
 split
 ·exact⟨Qi_ _ _,by simp[h.rest],by show(0:Nat)<64;omega⟩
 ·exact⟨h.st,by simp[h.rest],by show s.many+1<64;have:=h.many;omega⟩
def jb_ (s:Hs) (l:List UInt8):Hs:=l.foldl ZY_ s
theorem wa_ {s:Hs} (l:List UInt8) (h:s.Ok): (jb_ s l).Ok:=by
 induction l generalizing s with
 |nil=>exact h
 |cons x r ih=>exact ih (aaj_ x h)
theorem xc_ (s:Hs) (a b:List UInt8):jb_ s (a++b)=jb_ (jb_ s a) b:=List.foldl_append
theorem va_ {α:Type} (l:List α) (g:Nat) (d:α) (h:g<l.length):l.take (g+1)=l.take g++ [l.getD g d]:=by
 rw[List.take_add_one]
 simp[List.getD_eq_getElem?_getD,h]
theorem WB_ (s:Hs) (l:List UInt8) (g:Nat) (h:g<l.length):jb_ s (l.take (g+1))=ZY_ (jb_ s (l.take g)) (l.getD g 0):=by
 rw[va_ l g 0 h,xc_];rfl
def ZJ_ (bg:Bool) (s:Hs):Hs:=if bg then s else{s with st:=initL}
theorem acj_ {s:Hs} (bg:Bool) (h:s.Ok): (ZJ_ bg s).Ok:=by
 unfold ZJ_;split
 ·exact h
 ·exact⟨rfl,h.rest,h.many⟩
def k6_ (s:Hs) (taken:UInt64):Array Value:=zQ_ true s.st s.rest s.many taken
def vE_ (t:UInt64) (l:List (List UInt8)):UInt64:=l.foldl (fun t a=>t+UInt64.ofNat a.length) t
theorem afY_ (t:UInt64) (l:List (List UInt8)) (g:Nat) (h:g<l.length):vE_ t (l.take (g+1))=vE_ t (l.take g)+UInt64.ofNat (l.getD g []).length:=by
 rw[va_ l g [] h,vE_,List.foldl_append];rfl
theorem adj_ (l:List (List UInt8)) (g:Nat) (h:g<l.length): (l.take (g+1)).flatten=(l.take g).flatten++l.getD g []:=by
 rw[va_ l g [] h,List.flatten_append];simp
theorem loadV_one (cs:Array Value) (E:TypeId) (fz:Nat×Nat) (n i:Nat):zt_ (some (false,n)) (some (.cells cs E fz)) i=cs[i]? :=(rfl)
end Go.Dig
section
open Go Go.Proofs Go.Sx Go.Dig
namespace Go.Proofs
set_option maxRecDepth 10000
set_option maxHeartbeats 4000000
set_option linter.unusedSimpArgs false
def GlobE (w:World):Prop:= ∃e0 e1 f0 f1,w.heap[3]? =some (.cells (a32 initL) e0 f0)∧w.heap[4]? =some (.cells (a32 kL) e1 f1)
theorem GlobE.of {w0 w:World} {L:zb_} (hg:GlobE w0) (h:Hp w0 L w) (hk: ∀b,b∈keys L→4<b):GlobE w:=by
 obtain⟨e0,e1,f0,f1,h0,h1⟩:=hg
 refine⟨e0,e1,f0,f1, ?_, ?_⟩
 ·rw[h.old _ (Array.getElem?_eq_some_iff.1 h0).1 (fun hm=>by have:=hk _ hm;omega)];exact h0
 ·rw[h.old _ (Array.getElem?_eq_some_iff.1 h1).1 (fun hm=>by have:=hk _ hm;omega)];exact h1
theorem wR_ (x:UInt32) (k:Int) (w:World):Rets Tryz.prog 251 #[v32 x,vi k] w (fun v D=>v=v32 (rol x k)∧D= []):=by
 refine Rets.enterV Tryz.func251 rfl (rs:= [.tmp 4]) Tryz.results251 Tryz.ntmps251 ?_
 refine kf ?_
 first|with_reducible refine ks [] @Nat.add_zero ?_|refine kp @Nat.add_zero ?_
 refine⟨_,(ke @Nat.add_zero),trivial, ?_⟩
 rfl
theorem jh_ (x:UInt32) (n:UInt64) (w:World):Rets Tryz.prog 186 #[v32 x,v64 n] w (fun v D=>v=v32 (rgt x n)∧D= []):=by
 refine Rets.enterV Tryz.func186 rfl (rs:= [.tmp 4]) Tryz.results186 Tryz.ntmps186 ?_
 refine kf ?_
 first|with_reducible refine ks [] @Nat.add_zero ?_|refine kp @Nat.add_zero ?_
 refine⟨_,(ke @Nat.add_zero),trivial, ?_⟩
 rfl
theorem ade_ (x:UInt32) (a b c:Int) (ha:0≤a∧a≤64) (hb:0≤b∧b≤64) (hc:0≤c∧c≤64) (w:World):Rets Tryz.prog 244 #[v32 x,vi a,vi b,vi c] w (fun v D=>v=v32 (alQ_ x a b c)∧D= []):=by
 refine Rets.enterV Tryz.func244 rfl (rs:= [.tmp 8]) Tryz.results244 Tryz.ntmps244 ?_
 refine kf ?_
 first|with_reducible refine ks [] @Nat.add_zero ?_|refine kp @Nat.add_zero ?_
 refine Cw.regionO [0,1,2,4,5,6,9,10,11,3,7,8,12,13] [] rfl (by kernel_rfl) (by kernel_rfl) ?_
 simp only[zl_, ↓zg_, ↓zc_, ↓zx_, ↓zw_,zd_]
 refine kq @Nat.add_zero ?_
 refine Ow.callFV rfl Tryz.call251 (fun w' hw'=>wR_ _ _ w') ?_
 refine kq @Nat.add_zero ?_
 refine Ow.callFV rfl Tryz.call251 (fun w' hw'=>wR_ _ _ w') ?_
 refine kq @Nat.add_zero ?_
 first|with_reducible refine ks [] @Nat.add_zero ?_|refine kp @Nat.add_zero ?_
 refine⟨_,(ke @Nat.add_zero),trivial, ?_⟩
 rfl
theorem adU_ (x:UInt32) (a b c:Int) (ha:0≤a∧a≤64) (hb:0≤b∧b≤64) (hc:0≤c∧c≤64) (w:World):Rets Tryz.prog 245 #[v32 x,vi a,vi b,vi c] w (fun v D=>v=v32 (akx_ x a b c)∧D= []):=by
 refine Rets.enterV Tryz.func245 rfl (rs:= [.tmp 8]) Tryz.results245 Tryz.ntmps245 ?_
 refine kf ?_
 first|with_reducible refine ks [] @Nat.add_zero ?_|refine kp @Nat.add_zero ?_
 refine Ow.callFV rfl Tryz.call251 (fun w' hw'=>wR_ _ _ w') ?_
 refine ko @Nat.add_zero ?_
 refine Ow.callFV rfl Tryz.call251 (fun w' hw'=>wR_ _ _ w') ?_
 refine ko @Nat.add_zero ?_
 refine Ow.callFV rfl Tryz.call251 (fun w' hw'=>wR_ _ _ w') ?_
 refine ko @Nat.add_zero ?_
 first|with_reducible refine ks [] @Nat.add_zero ?_|refine kp @Nat.add_zero ?_
 refine⟨_,(ke @Nat.add_zero),trivial, ?_⟩
 rfl
theorem afa_ (w:World):Rets Tryz.prog 187 #[] w (fun v D=>v= .agg (a32 kL)∧D= []):=by
 refine Rets.enterV Tryz.func187 rfl (rs:= [.cell 0 256]) Tryz.results187 Tryz.ntmps187 ?_
 refine kf ?_
 first|with_reducible refine ks [] @Nat.add_zero ?_|refine kp @Nat.add_zero ?_
 have hkl:kL.length=64:=rfl
 refine Ow.alloc rfl rfl Tryz.zr256 fun b1 _ hw1=> ?_
 refine ko @Nat.add_zero ?_
 first|with_reducible refine ks [] @Nat.add_zero ?_|refine kp @Nat.add_zero ?_
 refine Ow.build (.agg (a32 kL)) rfl (by kernel_rfl) ?_
 refine ko @Nat.add_zero ?_
 first|with_reducible refine ks [] @Nat.add_zero ?_|refine kp @Nat.add_zero ?_
 refine⟨_,(ke @Nat.add_zero),⟨hw1,trivial⟩, ?_⟩
 rfl
end Go.Proofs
end
section
open Go Go.Proofs Go.Sx Go.Dig
namespace Go.Proofs
set_option maxRecDepth 10000
set_option maxHeartbeats 4000000
set_option linter.unusedSimpArgs false
set_option linter.defProp false
def qh_:=And.intro (And.intro (And.intro (And.intro (@Zf_) (@Zt_)) (And.intro (@Zb_) (@vU_))) (And.intro (And.intro (@Zo_) (@Zw_)) (And.intro (@wf_) (@kS_)))) (And.intro (And.intro (And.intro (@xn_) (@v2_)) (And.intro (@vK_) (@v8_))) (And.intro (And.intro (@vT_) (@vQ_)) (And.intro (@k1_) (@jI_))))
theorem akI_ (b:Nat) (bg:Bool) (st:List UInt32) (rest:List UInt8) (many:Int) (taken:UInt64) (w:World) (hG:GlobE w) (hb:4<b) (hs:st.length=8) (hr:rest.length=64)
  (ho:w.heap[b]? =some (.cells (zQ_ bg st rest many taken) 254 (0,0))):
  Rets Tryz.prog 233 #[vp b 0] w (fun v D=> ∃o,D= [(b,o)]∧v= .tuple #[]∧o= .cells (zQ_ bg (comp st rest) rest 0 taken) 254 (0,0)):=by
 obtain⟨e0,e1,f0,f1,h0,h1⟩:=hG
 have hbl:=(Array.getElem?_eq_some_iff.1 ho).1
 have hkl:kL.length=64:=rfl
 refine Rets.enterM Tryz.func233 rfl (rs:= []) Tryz.results233 Tryz.ntmps233 ho ?_
 refine kf ?_
 first|with_reducible refine ks [] @qh_ ?_|refine kp @qh_ ?_
 refine Ow.alloc rfl rfl Tryz.zr256 fun b1 hb1 hw1=> ?_
 obtain⟨h01,-⟩:=hb1
 refine ko @qh_ ?_
 first|with_reducible refine ks [] @qh_ ?_|refine kp @qh_ ?_
 rw[←acN_ rest]
 refine Cw.loopG (G:=Nat) [14,15,3,16,17,18,19,20,21,22,23,24,25,26,27,28,29,5,30,31,32,33,34,35,36,37,38,39,40,13] (fun g=> [(13,vi g)]) (fun g=> [(b, .cells (zQ_ bg st rest many taken) 254),(b1, .cells (a32 (W6_ rest g)) 256)]) (fun g=>g≤16) (fun g=>16 - g) 0 rfl rfl ?_ ?_
 ·omega
 intro g j hg
 refine kv ?_
 have hlen:=v1_ rest g
 by_cases hlt:g<16
 ·first|with_reducible refine ks [] @qh_ ?_|refine kp @qh_ ?_
  rw[akd_ rest g]
  refine Cw.loopG (G:=Nat) [27,28,29,5,30,31,32,33,34,35,36,37,38,39,26] (fun k=> [(26,vi k)]) (fun k=> [(b, .cells (zQ_ bg st rest many taken) 254 (0,0)),(b1, .cells (a32 ((W6_ rest g).set g (acc rest g k))) 256 (0,0))]) (fun k=>k≤4) (fun k=>4 - k) 0 rfl rfl ?_ ?_
  ·omega
  intro k jk hk
  refine kv ?_
  by_cases hk4:k<4
  ·first|with_reducible refine ks [] @qh_ ?_|refine kp @qh_ ?_
   exact Again.mk (k+1) (by omega) (by omega) rfl rfl
  ·have hk:k=4:=by omega
   subst hk
   first|with_reducible refine ks [] @qh_ ?_|refine kp @qh_ ?_
   refine Again.mk (g+1) (by omega) (by omega) ?_ rfl
   rw[anI_,acy_]
 ·have hg16:g=16:=by omega
  subst hg16
  first|with_reducible refine ks [] @qh_ ?_|refine kp @qh_ ?_
  rw[aht_]
  refine Cw.loopG (G:=Nat) [41,42,45,46,47,48,49,50,51,52,53,54,55,56,57,58,59,60,61,62,63,64,65,66,67,43,44,6] (fun g=> [(6,vi g)]) (fun g=> [(b, .cells (zQ_ bg st rest many taken) 254 (0,0)),(b1, .cells (a32 (wG rest g)) 256)]) (fun g=>16≤g∧g≤64) (fun g=>64 - g) 16 rfl rfl ?_ ?_
  ·omega
  intro g j hg
  refine kv ?_
  obtain⟨hg1,hg2⟩:=hg
  have hlen:=adr_ rest g
  by_cases hlt:g<64
  ·first|with_reducible refine ks [] @qh_ ?_|refine kp @qh_ ?_
   refine Cw.regionO [0,1,2,3,6,7,8,11,12,13,17,18,19,4,9,14,20,5,10,15,16,21,22,23] [23] rfl (by kernel_rfl) (by kernel_rfl) ?_
   simp only[zl_, ↓zg_, ↓zc_, ↓zx_, ↓zw_,zd_]
   refine kq @qh_ ?_
   refine Ow.callFV rfl Tryz.call244 (fun w' hw'=>ade_ _ _ _ _ (by omega) (by omega) (by omega) w') ?_
   refine kq @qh_ ?_
   refine Ow.callFV rfl Tryz.call244 (fun w' hw'=>ade_ _ _ _ _ (by omega) (by omega) (by omega) w') ?_
   refine kq @qh_ ?_
   refine Ow.store rfl rfl rfl (ke @qh_) ?_
   refine ko @qh_ ?_
   first|with_reducible refine ks [] @qh_ ?_|refine kp @qh_ ?_
   refine Again.mk (g+1) (by omega) (by omega) ?_ rfl
   rw[akD_ rest g hg1,auj_,auh_];rfl
  ·have hg64:g=64:=by omega
   subst hg64
   rw[apZ_]
   have hwl:=X8_ rest
   first|with_reducible refine ks [] (And.intro @qh_ @h1) ?_|refine kp (And.intro @qh_ @h1) ?_
   refine Ow.alloc rfl rfl Tryz.zr227 fun b2 hb2 hw2=> ?_
   obtain⟨h02,h12,-⟩:=hb2
   refine ko (And.intro @qh_ @h1) ?_
   first|with_reducible refine ks [] (And.intro @qh_ @h1) ?_|refine kp (And.intro @qh_ @h1) ?_
   refine Cw.loopG (G:=Nat) [74,75,76,8,9,77,78,79,80,81,82,83,84,85,86,87,88,89,90,91,92,93,94,95,96,97,98,99,100,101,10,102,103,104,105,106,107,108,109,110,111,112,113,114,115,116,117,118,119,120,121,122,11,123,124,125,126,127,128,129,130,131,132,133,134,135,136,137,138,139,140,141,142,143,73] (fun g=> [(73,vi g)]) (fun g=> [(b, .cells (zQ_ bg st rest many taken) 254 (0,0)),(b1, .cells (a32 (wAll rest)) 256),(b2, .cells (a32 (rGo st (wAll rest) g)) 227)]) (fun g=>g≤64) (fun g=>64 - g) 0 rfl rfl ?_ ?_
   ·omega
   ·intro g j hg
    refine kv ?_
    have hrl:=aiw_ st (wAll rest) g hs
    by_cases hlt:g<64
    ·first|with_reducible refine ks [] @qh_ ?_|refine kp @qh_ ?_
     refine Cw.regionO [0,2,6,8,11,14,19,21,22,1,3,7,9,10,12,13,15,16,17,23,4,5,18,20,24,25] [] rfl (by kernel_rfl) (by kernel_rfl) ?_
     simp only[zl_, ↓zg_, ↓zc_, ↓zx_, ↓zw_,zd_]
     refine kq @qh_ ?_
     refine Ow.callFV rfl Tryz.call245 (fun w' hw'=>adU_ _ _ _ _ (by omega) (by omega) (by omega) w') ?_
     refine kq @qh_ ?_
     first|with_reducible refine ks [] @qh_ ?_|refine kp @qh_ ?_
     refine Cw.regionO [0,3,5,8,10,14,16,1,4,6,7,9,11,12,13,15,17,18,19,2,20,21] [] rfl (by kernel_rfl) (by kernel_rfl) ?_
     simp only[zl_, ↓zg_, ↓zc_, ↓zx_, ↓zw_,zd_]
     refine kq @qh_ ?_
     refine Ow.callFV rfl Tryz.call245 (fun w' hw'=>adU_ _ _ _ _ (by omega) (by omega) (by omega) w') ?_
     refine kq @qh_ ?_
     first|with_reducible refine ks [] @qh_ ?_|refine kp @qh_ ?_
     rw[aun_,atZ_,atp_,ark_]
     refine Ow.build (.agg (a32 (arC_ (rGo st (wAll rest) g) (kL.getD g 0) ((wAll rest).getD g 0)))) rfl (by kernel_rfl) ?_
     have hrl2: (arC_ (rGo st (wAll rest) g) (kL.getD g 0) ((wAll rest).getD g 0)).length=8:=rfl
     refine ko @qh_ ?_
     first|with_reducible refine ks [] @qh_ ?_|refine kp @qh_ ?_
     exact Again.mk (g+1) (by omega) (by omega) rfl rfl
    ·have hg64:g=64:=by omega
     subst hg64
     first|with_reducible refine ks [] @qh_ ?_|refine kp @qh_ ?_
     rw[←ae4_ st (rGo st (wAll rest) 64) hs]
     refine Cw.loopG (G:=Nat) [145,146,12,147,148,149,150,151,152,153,154,155,156,157,158,159,160,144] (fun k=> [(144,vi k)]) (fun k=> [(b, .cells (zQ_ bg (x9_ st (rGo st (wAll rest) 64) k) rest many taken) 254 (0,0)),(b1, .cells (a32 (wAll rest)) 256),(b2, .cells (a32 (rGo st (wAll rest) 64)) 227)]) (fun k=>k≤8) (fun k=>8 - k) 0 rfl rfl ?_ ?_
     ·omega
     intro k jk hk
     refine kv ?_
     have hal:=Q6_ st (rGo st (wAll rest) 64) k
     by_cases hk8:k<8
     ·first|with_reducible refine ks [] @qh_ ?_|refine kp @qh_ ?_
      refine Cw.regionO [0,1,2,3,4,6,7,10,11,5,8,9,12,13] [13] rfl (by kernel_rfl) (by kernel_rfl) ?_
      simp only[zl_, ↓zg_, ↓zc_, ↓zx_, ↓zw_,zd_]
      refine kq @qh_ ?_
      refine Ow.store rfl rfl rfl (ke @qh_) ?_
      refine ko @qh_ ?_
      first|with_reducible refine ks [] @qh_ ?_|refine kp @qh_ ?_
      refine Again.mk (k+1) (by omega) (by omega) ?_ rfl
      rw[←af0_,ajn_ _ _ _ _ (by omega),if_neg (by omega)]
     ·have hk8':k=8:=by omega
      subst hk8'
      first|with_reducible refine ks [] @qh_ ?_|refine kp @qh_ ?_
      refine⟨_,_,_,(ke @qh_),rfl,⟨hw1,hw2,trivial⟩, ?_⟩
      exact⟨rfl,rfl⟩
end Go.Proofs
end
section
open Go Go.Proofs Go.Sx Go.Dig
namespace Go.Proofs
set_option maxRecDepth 10000
set_option maxHeartbeats 1000000
set_option linter.unusedSimpArgs false
theorem Vn_ (n:Nat):UInt64.ofInt (n:Int)=UInt64.ofNat n:=by
 apply UInt64.toNat.inj
 rw[show UInt64.ofInt (n:Int)=UInt64.ofNat ((n:Int)%2^64).toNat from rfl,UInt64.toNat_ofNat',UInt64.toNat_ofNat']
 omega
theorem arO_ (b o:Nat):qI_ Tryz.prog .eql 275 (vp b o) (.pointer none)=some (.bool false):=by
 simp[qI_,eqX,qz_,qq_,Tryz.underlying275,vp]
theorem ann_:qI_ Tryz.prog .eql 275 (.pointer none) (.pointer none)=some (.bool true):=by
 simp[qI_,eqX,qz_,qq_,Tryz.underlying275]
theorem ant_ (b o:Nat):qI_ Tryz.prog .neq 275 (vp b o) (.pointer none)=some (.bool true):=by
 simp[qI_,eqX,qz_,qq_,Tryz.underlying275,vp]
theorem agK_:qI_ Tryz.prog .neq 275 (.pointer none) (.pointer none)=some (.bool false):=by
 simp[qI_,eqX,qz_,qq_,Tryz.underlying275]
set_option linter.defProp false
def jl_:=And.intro (And.intro (And.intro (And.intro (@Zf_) (@Zt_)) (And.intro (@Zb_) (And.intro (@vU_) (@Zo_)))) (And.intro (And.intro (@Zw_) (@wf_)) (And.intro (@kS_) (And.intro (@xn_) (@v2_))))) (And.intro (And.intro (And.intro (@vK_) (@v8_)) (And.intro (@vT_) (And.intro (@vQ_) (@k1_)))) (And.intro (And.intro (@jI_) (@arO_)) (And.intro (@ann_) (And.intro (@ant_) (@agK_)))))
theorem W2_ (b:Nat) (bg:Bool) (st:List UInt32) (rest:List UInt8) (many:Int) (taken:UInt64) (w:World) (hG:GlobE w) (hb:4<b) (hs:st.length=8) (hr:rest.length=64)
  (ho:w.heap[b]? =some (.cells (zQ_ bg st rest many taken) 254 (0,0))):
  Rets Tryz.prog 211 #[vp b 0] w (fun v D=> ∃o,D= [(b,o)]∧v= .tuple #[]∧o= .cells (zQ_ true (if bg then st else initL) rest many taken) 254 (0,0)):=by
 obtain⟨e0,e1,f0,f1,h0,h1⟩:=hG
 have hil:initL.length=8:=rfl
 refine Rets.enterM Tryz.func211 rfl (rs:= []) Tryz.results211 Tryz.ntmps211 ho ?_
 refine kf ?_
 cases bg
 ·first|with_reducible refine ks [] (And.intro @jl_ @h0) ?_|refine kp (And.intro @jl_ @h0) ?_
  refine⟨_,_,_,(ke @jl_),rfl,trivial, ?_⟩
  exact⟨rfl,rfl⟩
 ·first|with_reducible refine ks [] (And.intro @jl_ @h0) ?_|refine kp (And.intro @jl_ @h0) ?_
  refine⟨_,_,_,(ke @jl_),rfl,trivial, ?_⟩
  exact⟨rfl,rfl⟩
theorem Xr_ (b:Nat) (s:Hs) (taken:UInt64) (x:UInt8) (w:World) (hG:GlobE w) (hb:4<b) (hs:s.Ok)
  (ho:w.heap[b]? =some (.cells (k6_ s taken) 254 (0,0))):
  Rets Tryz.prog 212 #[vp b 0,v8 x] w (fun v D=> ∃o,D= [(b,o)]∧v= .tuple #[]∧o= .cells (k6_ (ZY_ s x) taken) 254 (0,0)):=by
 obtain⟨st,rest,many⟩:=s
 obtain⟨hst,hrt,hmn⟩:=hs
 simp only[k6_] at ho hst hrt hmn ⊢
 refine Rets.enterM Tryz.func212 rfl (rs:= []) Tryz.results212 Tryz.ntmps212 ho ?_
 refine kf ?_
 first|with_reducible refine ks [] @jl_ ?_|refine kp @jl_ ?_
 refine Cw.regionO [0,1,2,3,5,6,7,4,8,9] [9] rfl (by kernel_rfl) (by kernel_rfl) ?_
 simp only[zl_, ↓zg_, ↓zc_, ↓zx_, ↓zw_,zd_]
 refine kq @jl_ ?_
 refine Ow.store rfl rfl rfl (ke @jl_) ?_
 refine ko @jl_ ?_
 first|with_reducible refine ks [] @jl_ ?_|refine kp @jl_ ?_
 unfold ZY_
 by_cases h64:many+1=64
 ·simp only[h64, ↓reduceIte]
  have h64': (many:Int)+1=64:=by omega
  have h63:many=63:=by omega
  subst h63
  rw[atm_ _ _ _ _ _ _ (by omega)]
  first|with_reducible refine ks [] @jl_ ?_|refine kp @jl_ ?_
  refine Ow.callM rfl rfl Tryz.call233 (by simp[keys]) (fun w' hw'=>akI_ _ _ _ _ _ _ w' (GlobE.of hG hw' (by simp[keys];omega)) hb hst (by simp[hrt]) (hw'.has _ _ List.mem_cons_self)) ?_
  refine ko @jl_ ?_
  first|with_reducible refine ks [] @jl_ ?_|refine kp @jl_ ?_
  refine⟨_,_,_,(ke @jl_),rfl,trivial, ?_⟩
  exact⟨rfl,rfl⟩
 ·rw[asS_ _ _ _ _ _ _ (by omega)]
  simp only[h64, ↓reduceIte]
  first|with_reducible refine ks [] @jl_ ?_|refine kp @jl_ ?_
  refine⟨_,_,_,(ke @jl_),rfl,trivial, ?_⟩
  exact⟨rfl,by rw[if_neg h64];simp⟩
theorem aeo_ (b:Nat) (bg:Bool) (s:Hs) (taken:UInt64) (x:Value) (b2 off:Nat) (l:List (List UInt8)) (arr:Array Value) (E:TypeId) (fz:Nat×Nat) (w:World) (hG:GlobE w) (hb:4<b) (hs:s.Ok) (hne:0<l.length→b≠b2)
  (hS:StrS w x l b2 off arr E fz) (hn:l.length<1099511627776) (hz: ∀i,i<l.length→(l.getD i []).length<1099511627776)
  (ho:w.heap[b]? =some (.cells (zQ_ bg s.st s.rest s.many taken) 254 (0,0))):
  Rets Tryz.prog 180 #[vp b 0,x] w (fun v D=> ∃o,D= [(b,o)]∧v= .tuple #[]∧o= .cells (k6_ (jb_ (ZJ_ bg s) l.flatten) (vE_ taken l)) 254 (0,0)):=by
 obtain⟨e0,e1,f0,f1,h0,h1⟩:=id hG
 obtain⟨st,rest,many⟩:=s
 obtain⟨hst,hrt,hmn⟩:=id hs
 simp only[k6_] at ho hst hrt hmn ⊢
 refine Rets.enterM Tryz.func180 rfl (rs:= []) Tryz.results180 Tryz.ntmps180 ho ?_
 refine kf ?_
 first|with_reducible refine ks [] @jl_ ?_|refine kp @jl_ ?_
 refine Ow.callM rfl rfl Tryz.call211 (by simp[keys]) (fun w' hw'=>W2_ _ _ _ _ _ _ w' (GlobE.of hG hw' (by simp[keys];omega)) hb hst hrt (hw'.has _ _ List.mem_cons_self)) ?_
 refine ko @jl_ ?_
 ((try with_reducible refine Cw.go [] ?_);(try simp(disch:=(first|assumption|omega| (simp only[kK_,kw_,UInt64.reduceToNat];try omega))) only[↓Sx.S0,Sx.S1,Tryz.fx,jl_,Nat.reduceAdd,Nat.reducePow,Int.reducePow,Nat.reduceBEq, ↓reduceIte,UInt8.reduceToNat,UInt16.reduceToNat,UInt32.reduceToNat,UInt64.reduceToNat,Int.reduceToNat,hS.len]))
 have e:zQ_ true (if bg=true then st else initL) rest many taken=k6_ (jb_ (ZJ_ bg ⟨st,rest,many⟩) (l.take 0).flatten) (vE_ taken (l.take 0)):=by cases bg<;>rfl
 rw[e]
 have hok0:=acj_ bg hs
 generalize ZJ_ bg ⟨st,rest,many⟩=S0 at*
 refine Cw.loopG (G:=Nat) [14,15,16,5,17,18,19,20,21,6,22,23,24,25,26,27,28,29,30,31,32,33,34,35,36,37,38,13] (fun g=> [(13,vi g)]) (fun g=> [(b, .cells (k6_ (jb_ S0 (l.take g).flatten) (vE_ taken (l.take g))) 254 (0,0))]) (fun g=>g≤l.length) (fun g=>l.length - g) 0 rfl rfl ?_ ?_
 ·omega
 intro g j hg
 refine kv ?_
 by_cases hlt:g<l.length
 ·have hlg:=hS.get g hlt
  have hb2:=hS.has (by omega)
  have hne2:=hne (by omega)
  have hzg:=hz g hlt
  ((try with_reducible refine Cw.go [] ?_);(try simp(disch:=(first|assumption|omega| (simp only[kK_,kw_,UInt64.reduceToNat];try omega))) only[↓Sx.S0,Sx.S1,Tryz.fx,jl_,Nat.reduceAdd,Nat.reducePow,Int.reducePow,Nat.reduceBEq, ↓reduceIte,UInt8.reduceToNat,UInt16.reduceToNat,UInt32.reduceToNat,UInt64.reduceToNat,Int.reduceToNat,Sx.loadV_one,hb2,hlg,hS.idx]))
  have hok:=wa_ (l.take g).flatten hok0
  rw[show k6_ (jb_ S0 (l.take g).flatten) (vE_ taken (l.take g))=k6_ (jb_ (jb_ S0 (l.take g).flatten) ((l.getD g []).take 0)) (vE_ taken (l.take g)) from rfl]
  refine Cw.loopG (G:=Nat) [20,21,6,22,23,24,25,26,27,19] (fun k=> [(19,vi k)]) (fun k=> [(b, .cells (k6_ (jb_ (jb_ S0 (l.take g).flatten) ((l.getD g []).take k)) (vE_ taken (l.take g))) 254 (0,0))]) (fun k=>k≤ (l.getD g []).length) (fun k=>(l.getD g []).length - k) 0 rfl rfl ?_ ?_
  ·omega
  intro k jk hk
  refine kv ?_
  by_cases hlk:k< (l.getD g []).length
  ·first|with_reducible refine ks [] @jl_ ?_|refine kp @jl_ ?_
   refine Ow.callM rfl rfl Tryz.call212 (by simp[keys]) (fun w' hw'=>Xr_ _ _ _ _ w' (GlobE.of hG hw' (by simp[keys];omega)) hb (wa_ _ hok) (hw'.has _ _ List.mem_cons_self)) ?_
   refine ko @jl_ ?_
   first|with_reducible refine ks [] @jl_ ?_|refine kp @jl_ ?_
   refine Again.mk (k+1) (by omega) (by omega) ?_ rfl
   rw[WB_ _ _ _ hlk]
  ·have hke:k=(l.getD g []).length:=by omega
   subst hke
   have hok2:=wa_ (l.getD g []) hok
   have hok3:=hok2.st
   have hok4:=hok2.rest
   rw[List.take_length]
   unfold k6_
   first|with_reducible refine ks [] @jl_ ?_|refine kp @jl_ ?_
   refine Again.mk (g+1) (by omega) (by omega) ?_ rfl
   rw[adj_ _ _ hlt,xc_,afY_ _ _ _ hlt,show UInt64.ofInt ((l.getD g []).length:Int)=UInt64.ofNat (l.getD g []).length from Vn_ _]
 ·have hge:g=l.length:=by omega
  subst hge
  first|with_reducible refine ks [] @jl_ ?_|refine kp @jl_ ?_
  rw[List.take_length]
  refine⟨_,_,_,(ke @jl_),rfl,trivial, ?_⟩
  exact⟨rfl,rfl⟩
end Go.Proofs
end
namespace Go.Dig
open Go.Sx
def vh_ (m:Nat):Nat:=(120 - m)%64
def lenB (t:UInt64) (g:Nat):UInt8:=UInt8.ofNat (x4_ (8*t) (56 - 8*g)).toNat
def len8 (t:UInt64):List UInt8:=(List.range 8).map (lenB t)
def outB (st:List UInt32) (j:Nat):UInt8:=UInt8.ofNat (zS_ (st.getD (j / 4) 0) (24 - 8* (j%4))).toNat
def xx_ (st:List UInt32) (k:Nat):List UInt8:=(List.range 32).map fun j=>if j<k then outB st j else 0
def ah8_ (s:Hs) (taken:UInt64):Hs:=jb_ (jb_ (ZY_ s 128) (List.replicate (vh_ (ZY_ s 128).many) 0)) (len8 taken)
def hsum (s:Hs) (taken:UInt64):List UInt8:=xx_ (ah8_ s taken).st 32
def H0:Hs:=⟨initL,List.replicate 64 0,0⟩
theorem atw_:H0.Ok:=⟨rfl,by simp[H0],by show(0:Nat)<64;omega⟩
def sumV (l:List (List UInt8)):List UInt8:=hsum (jb_ H0 l.flatten) (vE_ 0 l)
theorem amI_ {s:Hs} (x:UInt8) (h:s.Ok): (ZY_ s x).many=(s.many+1)%64:=by
 have:=h.many
 unfold ZY_
 split
 ·show 0=_;omega
 ·show s.many+1=_;omega
theorem ajk_ {s:Hs} (l:List UInt8) (h:s.Ok): (jb_ s l).many=(s.many+l.length)%64:=by
 induction l generalizing s with
 |nil=>have:=h.many;show s.many=_;simp;omega
 |cons x r ih=>
  show(jb_ (ZY_ s x) r).many=_
  rw[ih (aaj_ x h),amI_ x h,List.length_cons];omega
theorem alo_ (s:Hs) (x:UInt8) (j:Nat):jb_ s (List.replicate (j+1) x)=ZY_ (jb_ s (List.replicate j x)) x:=by
 rw[List.replicate_succ',xc_];rfl
theorem outPre_length (st:List UInt32) (k:Nat): (xx_ st k).length=32:=by simp[xx_]
theorem K3_ (st:List UInt32):xx_ st 0=List.replicate 32 0:=by
 apply List.ext_getElem
 ·simp[xx_]
 intro k hk1 hk2
 simp only[xx_,List.getElem_map,List.getElem_range,List.getElem_replicate]
 rw[if_neg (by omega)]
theorem kL_ (st:List UInt32) (k:Nat): (xx_ st k).set k (outB st k)=xx_ st (k+1):=by
 apply List.ext_getElem
 ·simp[xx_]
 intro j hk1 hk2
 rw[List.getElem_set]
 by_cases h:k=j
 ·subst h;simp[xx_]
 ·rw[if_neg h]
  simp only[xx_,List.getElem_map,List.getElem_range]
  by_cases h1:j<k
  ·rw[if_pos h1,if_pos (by omega)]
  ·rw[if_neg h1,if_neg (by omega)]
theorem abx_ (st:List UInt32) (i r:Nat) (h:r<4):outB st (4*i+r)=UInt8.ofNat (zS_ (st.getD i 0) (24 - 8*r)).toNat:=by
 unfold outB
 rw[show(4*i+r) / 4=i by omega,show(4*i+r)%4=r by omega]
theorem acu_ (x:UInt32):zS_ x 0=x:=by
 apply UInt32.toNat.inj
 have:=x.toNat_lt
 rw[zS_,UInt32.toNat_ofNat']
 simp
theorem agO_ (st:List UInt32) (i:Nat):
  ((((xx_ st (4*i)).set (4*i) (UInt8.ofNat (zS_ (st.getD i 0) 24).toNat)).set (4*i+1) (UInt8.ofNat (zS_ (st.getD i 0) 16).toNat)).set (4*i+2) (UInt8.ofNat (zS_ (st.getD i 0) 8).toNat)).set (4*i+3) (UInt8.ofNat (st.getD i 0).toNat)=xx_ st (4* (i+1)):=by
 have h0:=abx_ st i 0 (by omega)
 have h1:=abx_ st i 1 (by omega)
 have h2:=abx_ st i 2 (by omega)
 have h3:=abx_ st i 3 (by omega)
 rw[Nat.add_zero] at h0
 rw[show 24 - 8*3=0 from rfl,acu_] at h3
 rw[←h3,←h2,←h1,←h0,kL_,kL_,kL_,kL_]
 rw[show 4* (i+1)=4*i+1+1+1+1 by omega]
theorem Kb_ (t:UInt64): (len8 t).length=8:=by simp[len8]
theorem amX_ (t:UInt64) (g:Nat) (h:g<8): (len8 t).getD g 0=lenB t g:=by simp[len8,List.getD_eq_getElem?_getD,h]
end Go.Dig
section
open Go Go.Proofs Go.Sx Go.Dig
namespace Go.Proofs
set_option maxRecDepth 10000
set_option maxHeartbeats 1000000
set_option linter.unusedSimpArgs false
set_option linter.defProp false
def jv_:=And.intro (And.intro (And.intro (And.intro (@Zf_) (@Zt_)) (And.intro (@Zb_) (And.intro (@vU_) (@Zo_)))) (And.intro (And.intro (@Zw_) (@wf_)) (And.intro (@kS_) (And.intro (@xn_) (@v2_))))) (And.intro (And.intro (And.intro (@vK_) (@v8_)) (And.intro (@vT_) (And.intro (@vQ_) (@k1_)))) (And.intro (And.intro (@jI_) (@arO_)) (And.intro (@ann_) (And.intro (@ant_) (@agK_)))))
theorem ap1_:zM_ Tryz.prog 254=some (.agg (zQ_ false (List.replicate 8 0) (List.replicate 64 0) 0 0)):=id (by kernel_rfl)
theorem WK_ (bg:Bool) (st:List UInt32) (rest:List UInt8) (many:Int) (taken:UInt64):Value.cells (.agg (zQ_ bg st rest many taken))=zQ_ bg st rest many taken:=za_ _
theorem ZM_ {bg bg':Bool} {st st':List UInt32} {rest rest':List UInt8} {many many':Int} {taken taken':UInt64} {E:TypeId} (h:st.length=8∧rest.length=64∧st'.length=8∧rest'.length=64):
  zv_ (some (true,75)) (some (.cells (zQ_ bg' st' rest' many' taken') E (0,0))) 0 (.agg (zQ_ bg st rest many taken))=some (.cells (zQ_ bg st rest many taken) E (0,0)):=
 xn_ _ ⟨h.1,h.2.1,jW_ h.2.2⟩
theorem akA_ (b:Nat) (bg:Bool) (s:Hs) (taken:UInt64) (w:World) (hG:GlobE w) (hb:4<b) (hs:s.Ok)
  (ho:w.heap[b]? =some (.cells (zQ_ bg s.st s.rest s.many taken) 254 (0,0))):
  Rets Tryz.prog 181 #[vp b 0] w (fun v D=>v= .agg (a8 (hsum (ZJ_ bg s) taken))∧D= []):=by
 obtain⟨e0,e1,f0,f1,h0,h1⟩:=id hG
 obtain⟨st,rest,many⟩:=s
 obtain⟨hst,hrt,hmn⟩:=id hs
 simp only at ho hst hrt hmn ⊢
 refine Rets.enterV Tryz.func181 rfl (rs:= [.cell 2 84]) Tryz.results181 Tryz.ntmps181 ?_
 refine kf ?_
 first|with_reducible refine ks [] @jv_ ?_|refine kp @jv_ ?_
 refine Ow.alloc rfl rfl Tryz.zr84 fun b1 hb1 hw1=> ?_
 refine ko @jv_ ?_
 first|with_reducible refine ks [] @jv_ ?_|refine kp @jv_ ?_
 refine Ow.alloc rfl rfl ap1_ fun b2 hb2 hw2=> ?_
 obtain⟨h12,-⟩:=hb2
 have hbl:=(Array.getElem?_eq_some_iff.1 ho).1
 rw[WK_]
 refine ko @jv_ ?_
 first|with_reducible refine ks [] (And.intro @jv_ (And.intro @ho (@ZM_))) ?_|refine kp (And.intro @jv_ (And.intro @ho (@ZM_))) ?_
 refine Ow.callM rfl rfl Tryz.call211 (by simp[keys]) (fun w' hw'=>W2_ _ _ _ _ _ _ w' (GlobE.of hG hw' (by simp[keys];omega)) (by omega) hst hrt (hw'.has _ _ (List.mem_cons_of_mem _ List.mem_cons_self))) ?_
 refine ko @jv_ ?_
 first|with_reducible refine ks [] @jv_ ?_|refine kp @jv_ ?_
 have e:zQ_ true (if bg=true then st else initL) rest many taken=k6_ (ZJ_ bg ⟨st,rest,many⟩) taken:=by cases bg<;>rfl
 rw[e]
 have hok0:=acj_ bg hs
 generalize ZJ_ bg ⟨st,rest,many⟩=S0 at*
 refine Ow.callM rfl rfl Tryz.call212 (by simp[keys]) (fun w' hw'=>Xr_ _ _ _ 128 w' (GlobE.of hG hw' (by simp[keys];omega)) (by omega) hok0 (hw'.has _ _ (List.mem_cons_of_mem _ List.mem_cons_self))) ?_
 refine ko @jv_ ?_
 have hok1:=aaj_ 128 hok0
 have ep:ah8_ S0 taken=jb_ (jb_ (ZY_ S0 128) (List.replicate (vh_ (ZY_ S0 128).many) 0)) (len8 taken):=rfl
 unfold hsum
 rw[ep]
 generalize ZY_ S0 128=S1 at*
 first|with_reducible refine ks [] @jv_ ?_|refine kp @jv_ ?_
 rw[show k6_ S1 taken=k6_ (jb_ S1 (List.replicate 0 0)) taken from rfl]
 have hz: (S1.many+vh_ S1.many)%64=56∧vh_ S1.many<64:=by have:=hok1.many;unfold vh_;omega
 refine Cw.loopG (G:=Nat) [15,16,17,18] (fun g=> []) (fun g=> [(b1, .cells (a8 (List.replicate 32 0)) 84 (0,0)),(b2, .cells (k6_ (jb_ S1 (List.replicate g 0)) taken) 254 (0,0))]) (fun g=>g≤vh_ S1.many) (fun g=>vh_ S1.many - g) 0 rfl rfl ?_ ?_
 ·omega
 intro g j hg
 refine kv ?_
 have hokg:=wa_ (List.replicate g 0) hok1
 have hm:=ajk_ (List.replicate g 0) hok1
 rw[List.length_replicate] at hm
 have hg1:=hokg.st
 have hg2:=hokg.rest
 by_cases hlt:g<vh_ S1.many
 ·have hzz: (S1.many+g)%64≠56:=by have:=hok1.many;unfold vh_ at hlt;omega
  unfold k6_
  first|with_reducible refine ks [] @jv_ ?_|refine kp @jv_ ?_
  refine Ow.callM rfl rfl Tryz.call212 (by simp[keys]) (fun w' hw'=>Xr_ _ _ _ 0 w' (GlobE.of hG hw' (by simp[keys];omega)) (by omega) hokg (hw'.has _ _ (List.mem_cons_of_mem _ List.mem_cons_self))) ?_
  refine ko @jv_ ?_
  first|with_reducible refine ks [] @jv_ ?_|refine kp @jv_ ?_
  refine Again.mk (g+1) (by omega) (by omega) ?_ rfl
  rw[alo_];rfl
 ·have hge:g=vh_ S1.many:=by omega
  subst hge
  unfold k6_
  first|with_reducible refine ks [] @jv_ ?_|refine kp @jv_ ?_
  generalize jb_ S1 (List.replicate (vh_ S1.many) 0)=S2 at*
  rw[show zQ_ true S2.st S2.rest S2.many taken=k6_ (jb_ S2 ((len8 taken).take 0)) taken from rfl]
  have h8:=Kb_ taken
  refine Cw.loopG (G:=Nat) [19,20,23,24,25,26,27,28,29,21,22,4] (fun k=> [(4,vi (56 - 8*k))]) (fun k=> [(b1, .cells (a8 (List.replicate 32 0)) 84 (0,0)),(b2, .cells (k6_ (jb_ S2 ((len8 taken).take k)) taken) 254 (0,0))]) (fun k=>k≤8) (fun k=>8 - k) 0 rfl rfl ?_ ?_
  ·omega
  intro k jk hk
  refine kv ?_
  have hokk:=wa_ ((len8 taken).take k) hokg
  have hk1:=hokk.st
  have hk2:=hokk.rest
  by_cases hk8:k<8
  ·unfold k6_
   first|with_reducible refine ks [] @jv_ ?_|refine kp @jv_ ?_
   rw[show(56 - 8* (k:Int)).toNat=56 - 8*k from by omega]
   refine Ow.callM rfl rfl Tryz.call212 (by simp[keys]) (fun w' hw'=>Xr_ _ _ _ (lenB taken k) w' (GlobE.of hG hw' (by simp[keys];omega)) (by omega) hokk (hw'.has _ _ (List.mem_cons_of_mem _ List.mem_cons_self))) ?_
   refine ko @jv_ ?_
   first|with_reducible refine ks [] @jv_ ?_|refine kp @jv_ ?_
   refine Again.mk (k+1) (by omega) (by omega) ?_ ?_
   ·rw[WB_ _ _ _ (by omega),amX_ _ _ hk8];rfl
   ·rw[show(56 - 8* ((k+1:Nat):Int))=56 - 8* (k:Int) - 8 from by omega];rfl
  ·have hke:k=8:=by omega
   subst hke
   first|with_reducible refine ks [] @jv_ ?_|refine kp @jv_ ?_
   rw[List.take_of_length_le (show(len8 taken).length≤8 by omega)] at*
   generalize jb_ S2 (len8 taken)=S3 at*
   refine Ow.alloc rfl rfl Tryz.zr84 fun b3 hb3 hw3=> ?_
   obtain⟨h13,h23,-⟩:=hb3
   unfold k6_
   refine ko @jv_ ?_
   first|with_reducible refine ks [] @jv_ ?_|refine kp @jv_ ?_
   rw[show a8 (List.replicate 32 0)=a8 (xx_ S3.st (4*0)) from by rw[K3_]]
   have h3s:=(wa_ (len8 taken) hokg).st
   have hS3:S3.st.length=8:=hk1
   refine Cw.loopG (G:=Nat) [33,34,35,6,7,36,37,38,39,40,41,42,43,44,45,46,47,48,49,50,51,52,53,54,55,56,57,58,59,60,61,62,32] (fun i=> [(32,vi i)]) (fun i=> [(b1, .cells (a8 (xx_ S3.st (4*0))) 84 (0,0)),(b2, .cells (zQ_ true S3.st S3.rest S3.many taken) 254 (0,0)),(b3, .cells (a8 (xx_ S3.st (4*i))) 84 (0,0))]) (fun i=>i≤8) (fun i=>8 - i) 0 rfl rfl ?_ ?_
   ·omega
   intro i ji hi
   refine kv ?_
   have hol:=outPre_length S3.st (4*i)
   have hol0:=outPre_length S3.st (4*0)
   by_cases hi8:i<8
   ·first|with_reducible refine ks [] @jv_ ?_|refine kp @jv_ ?_
    refine Again.mk (i+1) (by omega) (by omega) ?_ rfl
    rw[agO_]
   ·have hie:i=8:=by omega
    subst hie
    first|with_reducible refine ks [] @jv_ ?_|refine kp @jv_ ?_
    rw[show 4*8=32 from rfl]
    refine⟨_,(ke @jv_),⟨hw1,hw2,hw3,trivial⟩, ?_⟩
    rfl
end Go.Proofs
end
section
open Go Go.Proofs Go.Sx Go.Dig
namespace Go.Proofs
set_option maxRecDepth 10000
set_option maxHeartbeats 1000000
set_option linter.unusedSimpArgs false
set_option linter.defProp false
def Qh_:=And.intro (And.intro (And.intro (And.intro (@Zf_) (@Zt_)) (And.intro (@Zb_) (And.intro (@vU_) (@Zo_)))) (And.intro (And.intro (@Zw_) (@wf_)) (And.intro (@kS_) (And.intro (@xn_) (@v2_))))) (And.intro (And.intro (And.intro (@vK_) (@v8_)) (And.intro (@vT_) (And.intro (@vQ_) (@k1_)))) (And.intro (And.intro (@jI_) (@arO_)) (And.intro (@ann_) (And.intro (@ant_) (@agK_)))))
theorem amC_ (x:Value) (b2 off:Nat) (l:List (List UInt8)) (arr:Array Value) (E:TypeId) (fz:Nat×Nat) (w:World) (hG:GlobE w)
  (hS:StrS w x l b2 off arr E fz) (hn:l.length<1099511627776) (hz: ∀i,i<l.length→(l.getD i []).length<1099511627776):
  Rets Tryz.prog 143 #[x] w (fun v D=>v= .agg (a8 (sumV l))∧D= []):=by
 obtain⟨e0,e1,f0,f1,h0,h1⟩:=id hG
 have hg1:4<w.heap.size:=(Array.getElem?_eq_some_iff.1 h1).1
 have hbl:0<l.length→b2<w.heap.size:=fun h=>(Array.getElem?_eq_some_iff.1 (hS.has h)).1
 refine Rets.enterV Tryz.func143 rfl (rs:= [.cell 2 84]) Tryz.results143 Tryz.ntmps143 ?_
 refine kf ?_
 first|with_reducible refine ks [] @Qh_ ?_|refine kp @Qh_ ?_
 refine Ow.alloc rfl rfl Tryz.zr84 fun b1 hb1 hw1=> ?_
 refine ko @Qh_ ?_
 first|with_reducible refine ks [] @Qh_ ?_|refine kp @Qh_ ?_
 refine Ow.alloc rfl rfl ap1_ fun b3 hb3 hw3=> ?_
 obtain⟨h13,-⟩:=hb3
 rw[WK_]
 refine ko @Qh_ ?_
 first|with_reducible refine ks [] @Qh_ ?_|refine kp @Qh_ ?_
 refine Ow.callM rfl rfl Tryz.call180 (by simp[keys]) (fun w' hw'=>aeo_ _ _ ⟨List.replicate 8 0,List.replicate 64 0,0⟩ _ _ _ _ _ _ _ _ w' (GlobE.of hG hw' (by simp[keys];omega)) (by omega) ⟨by simp,by simp,by simp⟩ (fun h=>by have:=hbl h;omega) (hS.old hw' (fun h=>by have:=hbl h;simp[keys];omega)) hn hz (hw'.has _ _ (List.mem_cons_of_mem _ List.mem_cons_self))) ?_
 refine ko @Qh_ ?_
 first|with_reducible refine ks [] @Qh_ ?_|refine kp @Qh_ ?_
 have hok:=wa_ l.flatten atw_
 have e:ZJ_ false ⟨List.replicate 8 0,List.replicate 64 0,0⟩=H0:=rfl
 rw[e]
 refine Ow.callFV rfl Tryz.call181 (fun w' hw'=>akA_ _ true _ _ w' (GlobE.of hG hw' (by simp[keys];omega)) (by omega) hok (hw'.has _ _ (List.mem_cons_of_mem _ List.mem_cons_self))) ?_
 have hsl: (hsum (ZJ_ true (jb_ H0 l.flatten)) (vE_ 0 l)).length=32:=outPre_length _ _
 refine ko @Qh_ ?_
 first|with_reducible refine ks [] @Qh_ ?_|refine kp @Qh_ ?_
 refine⟨_,(ke @Qh_),⟨hw1,hw3,trivial⟩, ?_⟩
 rfl
end Go.Proofs
end
namespace Go.Dig
open Go.Sx
def quoN (t:UInt64):Nat→UInt64
 |0=>t
 |n+1=>quoN t n / 256
theorem ajV_ (t:UInt64) (n:Nat): (quoN t n).toNat=t.toNat / 256^n:=by
 induction n with
 |zero=>simp[quoN]
 |succ n ih=>
  show(quoN t n / 256).toNat=_
  rw[UInt64.toNat_div,ih,Nat.pow_succ,Nat.div_div_eq_div_mul];rfl
def asa_ (t:UInt64) (j:Nat):UInt8:=UInt8.ofNat (x4_ t (56 - 8*j)).toNat
theorem aoV_ (t:UInt64) (i:Nat) (h:i<8):UInt8.ofNat (quoN t i%256).toNat=asa_ t (7 - i):=by
 apply UInt8.toNat.inj
 unfold asa_
 rw[UInt8.toNat_ofNat',UInt8.toNat_ofNat',UInt64.toNat_mod,ajV_,x4_,UInt64.toNat_ofNat']
 have e:56 - 8* (7 - i)=8*i:=by omega
 have ht:=t.toNat_lt
 have hd:t.toNat / 2^ (8*i)≤t.toNat:=Nat.div_le_self _ _
 rw[e,Nat.mod_eq_of_lt (a:=t.toNat / 2^ (8*i)) (by omega)]
 have e2:256^i=2^ (8*i):=by rw[Nat.pow_mul]
 rw[e2,show(256:UInt64).toNat=256 from rfl]
 omega
def jO_ (t:UInt64) (i:Nat):List UInt8:=(List.range 8).map fun j=>if 8≤j+i then asa_ t j else 0
theorem VW_ (t:UInt64) (i:Nat): (jO_ t i).length=8:=by simp[jO_]
theorem adV_ (t:UInt64):jO_ t 0=List.replicate 8 0:=by
 apply List.ext_getElem
 ·simp[jO_]
 intro k hk1 hk2
 have:k<8:=by simpa [jO_] using hk1
 simp only[jO_,List.getElem_map,List.getElem_range,List.getElem_replicate]
 rw[if_neg (by omega)]
theorem adI_ (t:UInt64) (i:Nat) (h:i<8): (jO_ t i).set (7 - i) (UInt8.ofNat (quoN t i%256).toNat)=jO_ t (i+1):=by
 rw[aoV_ t i h]
 apply List.ext_getElem
 ·simp[jO_]
 intro j hj1 hj2
 have hj:j<8:=by simpa [jO_] using hj2
 rw[List.getElem_set]
 by_cases h1:7 - i=j
 ·rw[if_pos h1]
  simp only[jO_,List.getElem_map,List.getElem_range]
  rw[if_pos (by omega),h1]
 ·rw[if_neg h1]
  simp only[jO_,List.getElem_map,List.getElem_range]
  by_cases h2:8≤j+i
  ·rw[if_pos h2,if_pos (by omega)]
  ·rw[if_neg h2,if_neg (by omega)]
theorem aeX_ (t:UInt64):jO_ (8*t) 8=len8 t:=by
 unfold jO_ len8
 apply List.map_congr_left
 intro j hj
 rw[if_pos (by omega)];rfl
def padR (m:List UInt8):List UInt8:=m++ [128]++List.replicate (vh_ ((m.length+1)%64)) 0++len8 (UInt64.ofNat m.length)
theorem Wh_ (n:Nat): (n+vh_ (n%64))%64=56∧vh_ (n%64)<64:=by unfold vh_;omega
theorem agj_ (m:List UInt8): (padR m).length%64=0∧(padR m).length≤m.length+72:=by
 have:=Wh_ (m.length+1)
 simp only[padR,List.length_append,List.length_replicate,Kb_,List.length_cons,List.length_nil]
 omega
def shaR (m:List UInt8):List UInt8:=xx_ (ZO_ initL (padR m) ((padR m).length / 64)) 32
theorem ajH_ (st s:List UInt32):x9_ st s 8= [st.getD 0 0+s.getD 0 0,st.getD 1 0+s.getD 1 0,st.getD 2 0+s.getD 2 0,st.getD 3 0+s.getD 3 0,st.getD 4 0+s.getD 4 0,st.getD 5 0+s.getD 5 0,st.getD 6 0+s.getD 6 0,st.getD 7 0+s.getD 7 0]:=rfl
end Go.Dig
section
open Go Go.Proofs Go.Sx Go.Dig
namespace Go.Proofs
set_option maxRecDepth 10000
set_option maxHeartbeats 1000000
set_option linter.unusedSimpArgs false
set_option linter.defProp false
def zI_:= @jI_
theorem Vh_ (m:List UInt8) (hm:m.length<1099511627776) (w:World):
  Rets Tryz.prog 152 #[vs m] w (fun v D=>v=vs (padR m)∧D= []):=by
 refine Rets.enterV Tryz.func152 rfl (rs:= [.tmp 2]) Tryz.results152 Tryz.ntmps152 ?_
 refine kf ?_
 first|with_reducible refine ks [] @zI_ ?_|refine kp @zI_ ?_
 have hz:=Wh_ (m.length+1)
 rw[show m++ [128]=m++ [128]++List.replicate 0 0 from(List.append_nil _).symm]
 refine Cw.loopG (G:=Nat) [9,10,11,12,13,14,3] (fun g=> [(3,vs (m++ [128]++List.replicate g 0))]) (fun g=> []) (fun g=>g≤vh_ ((m.length+1)%64)) (fun g=>vh_ ((m.length+1)%64) - g) 0 rfl rfl ?_ ?_
 ·omega
 intro g j hg
 refine kv ?_
 have hl: (m++ [128]++List.replicate g 0).length=m.length+1+g:=by simp;omega
 by_cases hlt:g<vh_ ((m.length+1)%64)
 ·have h56: (m.length+1+g)%64≠56:=by unfold vh_ at*;omega
  first|with_reducible refine ks [] (And.intro @zI_ @hl) ?_|refine kp (And.intro @zI_ @hl) ?_
  refine Again.mk (g+1) (by omega) (by omega) rfl ?_
  rw[show m++ [128]++List.replicate (g+1) 0=m++ [128]++List.replicate g 0++ [0] from by rw[List.replicate_succ'];simp]
  rfl
 ·have hge:g=vh_ ((m.length+1)%64):=by omega
  subst hge
  first|with_reducible refine ks [] (And.intro @zI_ @hl) ?_|refine kp (And.intro @zI_ @hl) ?_
  refine Ow.alloc rfl rfl Tryz.zr255 fun b1 hb1 hw1=> ?_
  rw[show UInt64.ofInt (m.length:Int)=UInt64.ofNat m.length from Vn_ _]
  refine ko @zI_ ?_
  first|with_reducible refine ks [] @zI_ ?_|refine kp @zI_ ?_
  generalize ht:UInt64.ofNat m.length*8=t
  rw[←adV_ t]
  refine Cw.loopG (G:=Nat) [19,20,23,24,25,26,27,28,29,30,4,21,22,6] (fun i=> [(4,v64 (quoN t i)),(6,vi i)]) (fun i=> [(b1, .cells (a8 (jO_ t i)) 255 (0,0))]) (fun i=>i≤8) (fun i=>8 - i) 0 rfl rfl ?_ ?_
  ·omega
  intro i ji hi
  refine kv ?_
  have htl:=VW_ t i
  by_cases hi8:i<8
  ·first|with_reducible refine ks [] @zI_ ?_|refine kp @zI_ ?_
   refine Again.mk (i+1) (by omega) (by omega) ?_ rfl
   rw[adI_ t i hi8]
  ·have hie:i=8:=by omega
   subst hie
   first|with_reducible refine ks [] @zI_ ?_|refine kp @zI_ ?_
   rw[List.drop_zero,List.take_of_length_le (show(jO_ t 8).length≤8 by omega),←ht,UInt64.mul_comm,aeX_]
   refine⟨_,(ke @zI_),⟨hw1,trivial⟩, ?_⟩
   rfl
theorem aiC_ (st:List UInt32) (blk:List UInt8) (hst:st.length=8) (hbk:blk.length=64) (w:World):
  Rets Tryz.prog 153 #[.agg (a32 st),vs blk] w (fun v D=>v= .agg (a32 (comp st blk))∧D= []):=by
 have hkl:kL.length=64:=rfl
 refine Rets.enterV Tryz.func153 rfl (rs:= [.cell 4 227]) Tryz.results153 Tryz.ntmps153 ?_
 refine kf ?_
 first|with_reducible refine ks [] @zI_ ?_|refine kp @zI_ ?_
 refine Ow.box rfl rfl fun b1 hb1 hw1=> ?_
 refine ko @zI_ ?_
 refine Ow.alloc rfl rfl Tryz.zr227 fun b2 hb2 hw2=> ?_
 obtain⟨h12,-⟩:=hb2
 refine ko @zI_ ?_
 first|with_reducible refine ks [] @zI_ ?_|refine kp @zI_ ?_
 refine Ow.alloc rfl rfl Tryz.zr256 fun b3 hb3 hw3=> ?_
 obtain⟨h13,h23,-⟩:=hb3
 refine ko @zI_ ?_
 first|with_reducible refine ks [] @zI_ ?_|refine kp @zI_ ?_
 rw[←acN_ blk]
 refine Cw.loopG (G:=Nat) [22,23,26,27,28,29,30,31,32,33,34,35,36,37,38,39,40,41,42,43,44,45,46,47,48,49,50,51,52,53,54,55,56,24,25,6] (fun g=> [(6,vi g)]) (fun g=> [(b1, .cells (a32 st) 227 (0,0)),(b2, .cells (a32 (List.replicate 8 0)) 227 (0,0)),(b3, .cells (a32 (W6_ blk g)) 256 (0,0))]) (fun g=>g≤16) (fun g=>16 - g) 0 rfl rfl ?_ ?_
 ·omega
 intro g j hg
 refine kv ?_
 have hlen:=v1_ blk g
 by_cases hlt:g<16
 ·first|with_reducible refine ks [] @zI_ ?_|refine kp @zI_ ?_
  refine Cw.regionO [0,1,2,3,4,5,6,7,8,9,10,11,12,13,14,15,16,17,18,19,20,21,22,23,24,25,26,27,28,29,30,31] [31] rfl (by kernel_rfl) (by kernel_rfl) ?_
  simp only[zl_, ↓zg_, ↓zc_, ↓zx_, ↓zw_,zd_]
  refine kq @zI_ ?_
  refine Ow.store rfl rfl rfl (ke @zI_) ?_
  refine ko @zI_ ?_
  first|with_reducible refine ks [] @zI_ ?_|refine kp @zI_ ?_
  exact Again.mk (g+1) (by omega) (by omega) (by rw[←acy_];rfl) rfl
 ·have hg16:g=16:=by omega
  subst hg16
  first|with_reducible refine ks [] @zI_ ?_|refine kp @zI_ ?_
  rw[aht_]
  refine Cw.loopG (G:=Nat) [57,58,61,62,63,64,65,66,67,68,8,9,69,70,71,72,73,74,75,76,77,78,79,80,81,82,83,84,85,86,87,88,89,90,91,92,93,94,95,96,97,59,60,7] (fun g=> [(7,vi g)]) (fun g=> [(b1, .cells (a32 st) 227 (0,0)),(b2, .cells (a32 (List.replicate 8 0)) 227 (0,0)),(b3, .cells (a32 (wG blk g)) 256 (0,0))]) (fun g=>16≤g∧g≤64) (fun g=>64 - g) 16 rfl rfl ?_ ?_
  ·omega
  intro g j hg
  refine kv ?_
  obtain⟨hg1,hg2⟩:=hg
  have hlen:=adr_ blk g
  by_cases hlt:g<64
  ·first|with_reducible refine ks [] @zI_ ?_|refine kp @zI_ ?_
   refine Cw.regionO [0,1,2,4,5,6,3,8,7,9] [] rfl (by kernel_rfl) (by kernel_rfl) ?_
   simp only[zl_, ↓zg_, ↓zc_, ↓zx_, ↓zw_,zd_]
   refine kq @zI_ ?_
   first|with_reducible refine ks [] @zI_ ?_|refine kp @zI_ ?_
   refine Cw.regionO [0,1,3,6,7,9,10,11,14,16,19,20,23,24,25,12,26,2,4,5,8,13,15,17,18,21,22,27,28,29] [29] rfl (by kernel_rfl) (by kernel_rfl) ?_
   simp only[zl_, ↓zg_, ↓zc_, ↓zx_, ↓zw_,zd_]
   refine kq @zI_ ?_
   refine Ow.callFV rfl Tryz.call186 (fun w' hw'=>jh_ _ 17 w') ?_
   refine kq @zI_ ?_
   refine Ow.callFV rfl Tryz.call186 (fun w' hw'=>jh_ _ 19 w') ?_
   refine kq @zI_ ?_
   refine Ow.callFV rfl Tryz.call186 (fun w' hw'=>jh_ _ 7 w') ?_
   refine kq @zI_ ?_
   refine Ow.callFV rfl Tryz.call186 (fun w' hw'=>jh_ _ 18 w') ?_
   refine kq @zI_ ?_
   refine Ow.store rfl rfl rfl (ke @zI_) ?_
   refine ko @zI_ ?_
   first|with_reducible refine ks [] @zI_ ?_|refine kp @zI_ ?_
   exact Again.mk (g+1) (by omega) (by omega) (by rw[akD_ blk g hg1];rfl) rfl
  ·have hg64:g=64:=by omega
   subst hg64
   rw[apZ_]
   have hwl:=X8_ blk
   first|with_reducible refine ks [] @zI_ ?_|refine kp @zI_ ?_
   refine Ow.callFV rfl Tryz.call187 (fun w' hw'=>afa_ w') ?_
   refine ko @zI_ ?_
   refine Ow.alloc rfl rfl Tryz.zr256 fun b4 hb4 hw4=> ?_
   obtain⟨h14,h24,h34,-⟩:=hb4
   refine ko @zI_ ?_
   first|with_reducible refine ks [] @zI_ ?_|refine kp @zI_ ?_
   refine Cw.regionO [0,2,4,6,1,8,3,9,5,10,7,11] [] rfl (by kernel_rfl) (by kernel_rfl) ?_
   simp only[zl_, ↓zg_, ↓zc_, ↓zx_, ↓zw_,zd_]
   refine kq @zI_ ?_
   first|with_reducible refine ks [] @zI_ ?_|refine kp @zI_ ?_
   refine Cw.regionO [0,2,4,6,1,8,3,9,5,10,7,11] [] rfl (by kernel_rfl) (by kernel_rfl) ?_
   simp only[zl_, ↓zg_, ↓zc_, ↓zx_, ↓zw_,zd_]
   refine kq @zI_ ?_
   first|with_reducible refine ks [] @zI_ ?_|refine kp @zI_ ?_
   generalize hw:wAll blk=W at*
   refine Cw.loopG (G:=Nat) [115,116,119,120,121,122,123,124,125,126,127,128,129,130,131,132,133,134,135,136,137,138,139,140,141,142,143,144,145,20,146,147,148,149,150,151,152,153,154,155,156,157,158,159,160,161,162,163,164,165,21,166,18,167,17,168,16,169,170,171,15,172,14,173,13,174,12,175,176,177,11,117,118,19] (fun g=> [(19,vi g),(11,v32 ((rGo st W g).getD 0 0)),(12,v32 ((rGo st W g).getD 1 0)),(13,v32 ((rGo st W g).getD 2 0)),(14,v32 ((rGo st W g).getD 3 0)),(15,v32 ((rGo st W g).getD 4 0)),(16,v32 ((rGo st W g).getD 5 0)),(17,v32 ((rGo st W g).getD 6 0)),(18,v32 ((rGo st W g).getD 7 0))]) (fun g=> [(b1, .cells (a32 st) 227 (0,0)),(b2, .cells (a32 (List.replicate 8 0)) 227 (0,0)),(b3, .cells (a32 W) 256 (0,0)),(b4, .cells (a32 kL) 256 (0,0))]) (fun g=>g≤64) (fun g=>64 - g) 0 rfl rfl ?_ ?_
   ·omega
   ·intro g j hg
    refine kv ?_
    by_cases hlt:g<64
    ·first|with_reducible refine ks [] @zI_ ?_|refine kp @zI_ ?_
     refine Cw.regionO [0,1,3,6,10,11,12,13,14,15,16,17,19,20,23,24,21,25,2,4,5,7,8,9,18,22,26,27] [] rfl (by kernel_rfl) (by kernel_rfl) ?_
     simp only[zl_, ↓zg_, ↓zc_, ↓zx_, ↓zw_,zd_]
     refine kq @zI_ ?_
     refine Ow.callFV rfl Tryz.call186 (fun w' hw'=>jh_ _ 6 w') ?_
     refine kq @zI_ ?_
     refine Ow.callFV rfl Tryz.call186 (fun w' hw'=>jh_ _ 11 w') ?_
     refine kq @zI_ ?_
     refine Ow.callFV rfl Tryz.call186 (fun w' hw'=>jh_ _ 25 w') ?_
     refine kq @zI_ ?_
     first|with_reducible refine ks [] @zI_ ?_|refine kp @zI_ ?_
     refine Ow.callFV rfl Tryz.call186 (fun w' hw'=>jh_ _ 2 w') ?_
     refine ko @zI_ ?_
     refine Ow.callFV rfl Tryz.call186 (fun w' hw'=>jh_ _ 13 w') ?_
     refine ko @zI_ ?_
     refine Ow.callFV rfl Tryz.call186 (fun w' hw'=>jh_ _ 22 w') ?_
     refine ko @zI_ ?_
     first|with_reducible refine ks [] @zI_ ?_|refine kp @zI_ ?_
     exact Again.mk (g+1) (by omega) (by omega) rfl rfl
    ·have hg64:g=64:=by omega
     subst hg64
     first|with_reducible refine ks [] @zI_ ?_|refine kp @zI_ ?_
     have hcomp:comp st blk=x9_ st (rGo st W 64) 8:=by rw[←hw];rfl
     rw[hcomp]
     generalize rGo st W 64=R at*
     rw[ajH_]
     refine Ow.build (.agg (a32 [st.getD 0 0+R.getD 0 0,st.getD 1 0+R.getD 1 0,st.getD 2 0+R.getD 2 0,st.getD 3 0+R.getD 3 0,st.getD 4 0+R.getD 4 0,st.getD 5 0+R.getD 5 0,st.getD 6 0+R.getD 6 0,st.getD 7 0+R.getD 7 0])) rfl (by kernel_rfl) ?_
     refine ko @zI_ ?_
     first|with_reducible refine ks [] @zI_ ?_|refine kp @zI_ ?_
     refine⟨_,(ke @zI_),⟨hw1,hw2,hw3,hw4,trivial⟩, ?_⟩
     rfl
end Go.Proofs
end
section
open Go Go.Proofs Go.Sx Go.Dig
namespace Go.Proofs
set_option maxRecDepth 10000
set_option maxHeartbeats 1000000
set_option linter.unusedSimpArgs false
set_option linter.defProp false
def xh_:= @jI_
theorem agS_ (m:List UInt8) (hm:m.length<1099511627776) (w:World):
  Rets Tryz.prog 110 #[vs m] w (fun v D=>v= .agg (a8 (shaR m))∧D= []):=by
 refine Rets.enterV Tryz.func110 rfl (rs:= [.cell 2 84]) Tryz.results110 Tryz.ntmps110 ?_
 refine kf ?_
 first|with_reducible refine ks [] @xh_ ?_|refine kp @xh_ ?_
 refine Ow.alloc rfl rfl Tryz.zr84 fun b1 hb1 hw1=> ?_
 refine ko @xh_ ?_
 first|with_reducible refine ks [] @xh_ ?_|refine kp @xh_ ?_
 refine Ow.callFV rfl Tryz.call152 (fun w' hw'=>Vh_ m hm w') ?_
 have hp:=agj_ m
 unfold shaR
 generalize padR m=p at*
 refine ko @xh_ ?_
 first|with_reducible refine ks [] @xh_ ?_|refine kp @xh_ ?_
 refine Ow.build (.agg (a32 initL)) rfl (by kernel_rfl) ?_
 refine ko @xh_ ?_
 refine Ow.alloc rfl rfl Tryz.zr227 fun b2 hb2 hw2=> ?_
 obtain⟨h12,-⟩:=hb2
 have hil:initL.length=8:=rfl
 refine ko @xh_ ?_
 first|with_reducible refine ks [] @xh_ ?_|refine kp @xh_ ?_
 rw[show a32 initL=a32 (ZO_ initL p 0) from rfl]
 refine Cw.loopG (G:=Nat) [11,12,13,14,17,18,19,20,21,22,23,15,16,5] (fun g=> [(5,vi (64*g))]) (fun g=> [(b1, .cells (a8 (List.replicate 32 0)) 84 (0,0)),(b2, .cells (a32 (ZO_ initL p g)) 227 (0,0))]) (fun g=>64*g≤p.length) (fun g=>p.length - 64*g) 0 rfl rfl ?_ ?_
 ·omega
 intro g j hg
 refine kv ?_
 have hcl:=acY_ initL p g rfl
 by_cases hlt:64*g<p.length
 ·first|with_reducible refine ks [] @xh_ ?_|refine kp @xh_ ?_
  refine Cw.regionO [1,2,3,4,5,0,6,7] [7] rfl (by kernel_rfl) (by kernel_rfl) ?_
  simp only[zl_, ↓zg_, ↓zc_, ↓zx_, ↓zw_,zd_]
  refine kq @xh_ ?_
  rw[show List.drop (64*g) (List.take (64*g+64) p)=(p.drop (64*g)).take 64 from by rw[List.drop_take];congr 1;omega]
  refine Ow.callFV rfl Tryz.call153 (fun w' hw'=>aiC_ _ _ hcl (by simp;omega) w') ?_
  have hcl2:=Qi_ (ZO_ initL p g) ((p.drop (64*g)).take 64)
  refine kq @xh_ ?_
  refine Ow.store rfl rfl rfl (ke @xh_) ?_
  refine ko @xh_ ?_
  first|with_reducible refine ks [] @xh_ ?_|refine kp @xh_ ?_
  exact Again.mk (g+1) (by omega) (by omega) rfl (by rw[show 64* ((g+1:Nat):Int)=64* (g:Int)+64 from by omega];rfl)
 ·have hge:g=p.length / 64:=by omega
  first|with_reducible refine ks [] @xh_ ?_|refine kp @xh_ ?_
  rw[←hge]
  refine Ow.alloc rfl rfl Tryz.zr84 fun b3 hb3 hw3=> ?_
  obtain⟨h13,h23,-⟩:=hb3
  refine ko @xh_ ?_
  first|with_reducible refine ks [] @xh_ ?_|refine kp @xh_ ?_
  generalize ZO_ initL p g=S at*
  rw[show [(b1,Obj.cells (a8 (List.replicate 32 0)) 84 (0,0)),(b2, .cells (a32 S) 227 (0,0)),(b3, .cells (a8 (List.replicate 32 0)) 84 (0,0))]= [(b1,Obj.cells (a8 (List.replicate 32 0)) 84 (0,0)),(b2, .cells (a32 S) 227 (0,0)),(b3, .cells (a8 (xx_ S 0)) 84 (0,0))] from by rw[K3_]]
  refine Cw.loopG (G:=Nat) [24,25,28,29,30,31,32,33,34,35,36,37,38,39,40,26,27,7] (fun k=> [(7,vi k)]) (fun k=> [(b1, .cells (a8 (List.replicate 32 0)) 84 (0,0)),(b2, .cells (a32 S) 227 (0,0)),(b3, .cells (a8 (xx_ S k)) 84 (0,0))]) (fun k=>k≤32) (fun k=>32 - k) 0 rfl rfl ?_ ?_
  ·omega
  intro k jk hk
  refine kv ?_
  have hol:=outPre_length S k
  by_cases hk:k<32
  ·first|with_reducible refine ks [] @xh_ ?_|refine kp @xh_ ?_
   refine Again.mk (k+1) (by omega) (by omega) ?_ rfl
   have e: (UInt64.ofInt (24 - 8* ((k:Int)%4))).toNat=24 - 8* (k%4):=by
    rw[show(24 - 8* ((k:Int)%4))=((24 - 8* (k%4):Nat):Int) from by omega,Vn_,UInt64.toNat_ofNat',Nat.mod_eq_of_lt (by omega)]
   rw[e,←kL_];rfl
  ·have hke:k=32:=by omega
   subst hke
   first|with_reducible refine ks [] @xh_ ?_|refine kp @xh_ ?_
   refine⟨_,(ke @xh_),⟨hw1,hw2,hw3,trivial⟩, ?_⟩
   rfl
end Go.Proofs
end
namespace Go.Dig
open Go.Sx
structure Inv (s:Hs) (p:List UInt8):Prop where
 ok:s.Ok
 st:s.st=ZO_ initL p (p.length / 64)
 many:s.many=p.length%64
 rest:s.rest.take s.many=p.drop (64* (p.length / 64))
theorem Inv.put {s:Hs} {p:List UInt8} (h:Inv s p) (x:UInt8):Inv (ZY_ s x) (p++ [x]):=by
 obtain⟨hok,hst,hmany,hrest⟩:=h
 have hk:=aaj_ x hok
 have hm64:=hok.many
 have hrl:=hok.rest
 have hle:64* (p.length / 64)≤p.length:=by omega
 have htake: (s.rest.set s.many x).take (s.many+1)=p.drop (64* (p.length / 64))++ [x]:=by
  rw[List.take_add_one,List.take_set,←hrest]
  congr 1
  ·rw[List.set_eq_of_length_le (by simp only[List.length_take];exact Nat.min_le_left _ _)]
  ·simp[hrl,hm64]
 have hlen: (p++ [x]).length=p.length+1:=by simp
 have hc:ZO_ initL (p++ [x]) (p.length / 64)=ZO_ initL p (p.length / 64):=adg_ _ _ _ _ hle
 by_cases h64:s.many+1=64
 ·have e:ZY_ s x=⟨comp s.st (s.rest.set s.many x),s.rest.set s.many x,0⟩:=by unfold ZY_;rw[if_pos h64]
  have hd: (p.length+1) / 64=p.length / 64+1:=by omega
  have hr: (s.rest.set s.many x)=p.drop (64* (p.length / 64))++ [x]:=by
   rw[←htake,h64,List.take_of_length_le (by simp[hrl])]
  refine⟨hk, ?_, ?_, ?_⟩
  ·rw[e,hlen,hd]
   show comp s.st _=comp (ZO_ initL (p++ [x]) (p.length / 64)) _
   rw[hc,←hst,hr,List.drop_append_of_le_length hle,List.take_of_length_le (by simp;omega)]
  ·rw[e,hlen];show 0=_;omega
  ·rw[e,hlen]
   show List.take 0 _=_
   rw[List.take_zero,List.drop_of_length_le (by rw[hlen];omega)]
 ·have e:ZY_ s x=⟨s.st,s.rest.set s.many x,s.many+1⟩:=by unfold ZY_;rw[if_neg h64]
  have hd: (p.length+1) / 64=p.length / 64:=by omega
  refine⟨hk, ?_, ?_, ?_⟩
  ·rw[e,hlen,hd,hc];exact hst
  ·rw[e,hlen];show s.many+1=_;omega
  ·rw[e,hlen,hd]
   show List.take (s.many+1) (s.rest.set s.many x)=_
   rw[htake,List.drop_append_of_le_length hle]
theorem Inv.puts {s:Hs} {p:List UInt8} (h:Inv s p) (l:List UInt8):Inv (jb_ s l) (p++l):=by
 induction l generalizing s p with
 |nil=>rw[List.append_nil];exact h
 |cons x r ih=>
  have:=ih (h.put x)
  rw[List.append_assoc] at this
  exact this
theorem Inv.zero:Inv H0 []:=⟨atw_,rfl,rfl,rfl⟩
theorem apo_ (p:List UInt8): (jb_ H0 p).st=ZO_ initL p (p.length / 64):=(Inv.zero.puts p).st
theorem ama_ (l:List (List UInt8)) (n:Nat):vE_ (UInt64.ofNat n) l=UInt64.ofNat (n+l.flatten.length):=by
 induction l generalizing n with
 |nil=>rfl
 |cons a r ih=>
  show vE_ (UInt64.ofNat n+UInt64.ofNat a.length) r=_
  rw[←UInt64.ofNat_add,ih,List.flatten_cons,List.length_append,Nat.add_assoc]
theorem aqR_ (m:List UInt8):hsum (jb_ H0 m) (UInt64.ofNat m.length)=shaR m:=by
 unfold hsum shaR
 rw[←apo_]
 suffices h:ah8_ (jb_ H0 m) (UInt64.ofNat m.length)=jb_ H0 (padR m) by rw[h]
 have hmany: (ZY_ (jb_ H0 m) 128).many=(m.length+1)%64:=by
  have:=((Inv.zero.puts m).put 128).many
  rw[this];simp
 unfold ah8_ padR
 rw[hmany,xc_,xc_,xc_,show jb_ (jb_ H0 m) [128]=ZY_ (jb_ H0 m) 128 from rfl]
theorem sumV_eq (l:List (List UInt8)):sumV l=shaR l.flatten:=by
 unfold sumV
 have:=ama_ l 0
 rw[Nat.zero_add] at this
 rw[show(0:UInt64)=UInt64.ofNat 0 from rfl,this,aqR_]
end Go.Dig
section
open Go Go.Proofs Go.Sx Go.StP
namespace Go.Proofs
set_option maxRecDepth 10000
set_option maxHeartbeats 400000
set_option linter.unusedSimpArgs false
theorem GlobE.new {w0 w:World} {L:zb_} (hg:GlobE w0) (h:Hp w0 L w) (hn:New w0.heap.size L):GlobE w:=by
 obtain⟨e0,e1,f0,f1,h0,h1⟩:=id hg
 have:4<w0.heap.size:=(Array.getElem?_eq_some_iff.1 h1).1
 exact hg.of h fun b hb=>by have:=hn.le b hb;omega
theorem K5_ {k:Int} {t:List UInt8} (h:xH_ k t=true): (qw_ k t).length<100000:=by
 obtain⟨h1,h2,h3⟩:=JU_ h
 have hh: (wW_ k).length≤4:=by unfold wW_;simp only[List.length_drop,List.length_take,List.length_cons,List.length_nil];omega
 have:=zP_ (t.length:Int)
 unfold qw_ xg_
 rw[List.length_append,List.length_append]
 omega
theorem vX_ (m:List UInt8): (Dig.shaR m).length=32:=Dig.outPre_length _ _
set_option linter.defProp false
def zs_:=And.intro (And.intro (And.intro (@jo_) (@qF_)) (And.intro (@qE_) (@qD_))) (And.intro (And.intro (@Sx.tup2_0) (@Sx.tup2_1)) (And.intro (@zp_) (@zo_)))
def idV (k:Int) (t:List UInt8):IdL:=if xH_ k t then⟨Dig.shaR (qw_ k t),vX_ _⟩ else id0
theorem akE_:q5_ (vc_ Tryz.prog 84) (zM_ Tryz.prog 84) []=some (.agg (a8 id0.l)):=id (by kernel_rfl)
theorem ahO_ (k:Int) (t:List UInt8) (w:World) (hG:GlobE w):Rets Tryz.prog 104 #[obV k t] w (fun v D=>v= .tuple #[.agg (a8 (idV k t).l), .bool (xH_ k t)]∧D= []):=by
 refine Rets.enterV Tryz.func104 rfl (rs:= [.cell 2 84, .tmp 3]) Tryz.results104 Tryz.ntmps104 ?_
 refine kf ?_
 first|with_reducible refine ks [] @zs_ ?_|refine kp @zs_ ?_
 refine Ow.box rfl rfl fun b1 hb1 hw1=> ?_
 simp only[zY_,zV_,zX_,za_,List.nil_append]
 refine ko @zs_ ?_
 refine Ow.alloc rfl rfl vO_ fun b2 hb2 hw2=> ?_
 simp only[za_,List.nil_append,List.cons_append]
 have h12:b1<b2:=zi_ hb2 (by simp[keys])
 have hi0:=id0.h
 refine ko @zs_ ?_
 refine Ow.callC rfl rfl Tryz.call99 (fun w' hw'=>X3_ k t w') (fun B v D hA hB hN hS=> ?_)
 have hD:New w.heap.size D:=New.mono hB hN
 unfold idV
 cases hr:xH_ k t
 ·rw[hr,if_neg (by decide)] at hS
  subst hS
  have e: ((1:Int) !=0)=true:=rfl
  refine ko @zs_ ?_
  first|with_reducible refine ks [] (And.intro @zs_ @e) ?_|refine kp (And.intro @zs_ @e) ?_
  refine Ow.build (.agg (a8 id0.l)) rfl akE_ ?_
  refine ko @zs_ ?_
  first|with_reducible refine ks [] @zs_ ?_|refine kp @zs_ ?_
  refine⟨_,(ke @zs_),⟨hw1,hw2,hD⟩, ?_⟩
  rfl
 ·rw[hr,if_pos rfl] at hS
  subst hS
  have e: ((0:Int) !=0)=false:=rfl
  have hfl:=K5_ hr
  have hzl: ∀i,i< [qw_ k t].length→([qw_ k t].getD i []).length<1099511627776:=fun i hi=>by
   obtain rfl:i=0:=by simpa using hi
   show(qw_ k t).length<_;omega
  refine ko @zs_ ?_
  first|with_reducible refine ks [] (And.intro @zs_ @e) ?_|refine kp (And.intro @zs_ @e) ?_
  refine Ow.buildSlice (e:=9) #[vs (qw_ k t)] rfl rfl (by kernel_rfl) fun b15 hb15 hw15=> ?_
  refine ko @zs_ ?_
  refine Ow.callFV rfl Tryz.call143 (fun w' hw'=>amC_ _ b15 0 [qw_ k t] _ _ _ w' (hG.new hw' (by exact⟨hw1,hw2,New.app hD ⟨hw15,trivial⟩⟩)) (StrS.lit [qw_ k t] rfl rfl (hw'.has _ (.cells #[vs (qw_ k t)] 9 (0,0)) (by simp))) (by show(1:Nat)<1099511627776;omega) hzl) ?_
  rw[Dig.sumV_eq,show([qw_ k t]:List (List UInt8)).flatten=qw_ k t by simp]
  have hsl:=vX_ (qw_ k t)
  refine ko @zs_ ?_
  first|with_reducible refine ks [] @zs_ ?_|refine kp @zs_ ?_
  refine⟨_,(ke @zs_),⟨hw1,hw2,hD.app ⟨hw15,trivial⟩⟩, ?_⟩
  rfl
def wl_ (k:Int) (t:List UInt8):List UInt8:=(if k=3 then [99] else if k=2 then [116] else [98])++xg_ t
theorem KC_ {k:Int} {t:List UInt8} (h:xH_ k t=true):wl_ k t=qw_ k t:=by
 obtain⟨h1,h2,-⟩:=JU_ h
 unfold wl_ qw_
 rcases(show k=1∨k=2∨k=3 by omega) with rfl|rfl|rfl<;>rfl
theorem afF_ (k:Int) (t:List UInt8) (w:World) (ht:t.length<100000):Rets Tryz.prog 111 #[obV k t] w (fun v D=>v=vs (wl_ k t)∧D= []):=by
 have tl:=vw_ (s:=t) (by omega)
 refine Rets.enterV Tryz.func111 rfl (rs:= [.tmp 2]) Tryz.results111 Tryz.ntmps111 ?_
 refine kf ?_
 first|with_reducible refine ks [] @zs_ ?_|refine kp @zs_ ?_
 refine Ow.box rfl rfl fun b1 hb1 hw1=> ?_
 simp only[zY_,zV_,zX_,za_,List.nil_append]
 unfold wl_
 by_cases h3:k=3
 ·have e2: (k==2)=false:=beq_eq_false_iff_ne.2 (by omega)
  have e3: (k==3)=true:=by simp[h3]
  rw[if_pos h3]
  refine ko (And.intro @zs_ (And.intro @e2 (@e3))) ?_
  first|with_reducible refine ks [] (And.intro @zs_ (And.intro @e2 (@e3))) ?_|refine kp (And.intro @zs_ (And.intro @e2 (@e3))) ?_
  refine Ow.callFV rfl Tryz.call154 (fun w' hw'=>vf_ t w' (by omega)) ?_
  refine ko @zs_ ?_
  first|with_reducible refine ks [] @zs_ ?_|refine kp @zs_ ?_
  refine⟨_,(ke @zs_),⟨hw1,trivial⟩, ?_⟩
  rfl
 ·have e3: (k==3)=false:=by simpa using h3
  rw[if_neg h3]
  by_cases h2:k=2
  ·have e2: (k==2)=true:=by simp[h2]
   rw[if_pos h2]
   refine ko (And.intro @zs_ (And.intro @e2 (@e3))) ?_
   first|with_reducible refine ks [] (And.intro @zs_ (And.intro @e2 (@e3))) ?_|refine kp (And.intro @zs_ (And.intro @e2 (@e3))) ?_
   refine Ow.callFV rfl Tryz.call154 (fun w' hw'=>vf_ t w' (by omega)) ?_
   refine ko @zs_ ?_
   first|with_reducible refine ks [] @zs_ ?_|refine kp @zs_ ?_
   refine⟨_,(ke @zs_),⟨hw1,trivial⟩, ?_⟩
   rfl
  ·have e2: (k==2)=false:=by simpa using h2
   rw[if_neg h2]
   refine ko (And.intro @zs_ (And.intro @e2 (@e3))) ?_
   first|with_reducible refine ks [] (And.intro @zs_ (And.intro @e2 (@e3))) ?_|refine kp (And.intro @zs_ (And.intro @e2 (@e3))) ?_
   refine Ow.callFV rfl Tryz.call154 (fun w' hw'=>vf_ t w' (by omega)) ?_
   refine ko @zs_ ?_
   first|with_reducible refine ks [] @zs_ ?_|refine kp @zs_ ?_
   refine⟨_,(ke @zs_),⟨hw1,trivial⟩, ?_⟩
   rfl
theorem abi_ (k:Int) (t:List UInt8) (w:World) (ht:t.length<100000):Rets Tryz.prog 55 #[obV k t] w (fun v D=>v= .agg (a8 (Dig.shaR (wl_ k t)))∧D= []):=by
 have tl:=vw_ (s:=t) (by omega)
 have fl: (wl_ k t).length<1099511627776:=by
  have nl:=zP_ (t.length:Int)
  unfold wl_ xg_;rw[List.length_append,List.length_append]
  have: ((if k=3 then [99] else if k=2 then [116] else [98]:List UInt8)).length=1:=by split<;>(try split)<;>rfl
  omega
 have hsl:=vX_ (wl_ k t)
 refine Rets.enterV Tryz.func55 rfl (rs:= [.cell 2 84]) Tryz.results55 Tryz.ntmps55 ?_
 refine kf ?_
 first|with_reducible refine ks [] @zs_ ?_|refine kp @zs_ ?_
 refine Ow.box rfl rfl fun b1 hb1 hw1=> ?_
 simp only[zY_,zV_,zX_,za_,List.nil_append]
 refine ko @zs_ ?_
 refine Ow.alloc rfl rfl vO_ fun b2 hb2 hw2=> ?_
 simp only[za_,List.nil_append,List.cons_append]
 have h12:b1<b2:=zi_ hb2 (by simp[keys])
 have hi0:=id0.h
 refine ko @zs_ ?_
 refine Ow.callFV rfl Tryz.call111 (fun w' hw'=>afF_ k t w' ht) ?_
 refine ko @zs_ ?_
 refine Ow.callFV rfl Tryz.call110 (fun w' hw'=>agS_ _ fl w') ?_
 refine ko @zs_ ?_
 first|with_reducible refine ks [] @zs_ ?_|refine kp @zs_ ?_
 refine⟨_,(ke @zs_),⟨hw1,hw2,trivial⟩, ?_⟩
 rfl
end Go.Proofs
end
section
open Go Go.Proofs Go.Sx Go.StP Go.Flo
namespace Go.Proofs
set_option maxRecDepth 10000
set_option maxHeartbeats 400000
set_option linter.unusedSimpArgs false
structure ObL where
 k:Int
 t:List UInt8
def ob0:ObL:=⟨0,[]⟩
def obC (o:ObL):List Value:= [vi o.k,vs o.t]
theorem jC_ (o:ObL): (obC o).length=2:=rfl
theorem wZ_ (o:ObL): (obC o).all Value.oneCell'=true:=rfl
def wu_ (s:List UInt8):ObL:=⟨if Jd_ s then frK s else 0,if Jd_ s then(frT s).1 else []⟩
def idOf (s:List UInt8):IdL:=idV (wu_ s).k (wu_ s).t
def apW_:List (List UInt8)→List IdL→List ObL→Option (List IdL×List ObL)
 | [],ids,os=>some (ids,os)
 |s::r,ids,os=>if Jd_ s=true∧(ids.any fun y=>(idOf s).l==y.l)=false then apW_ r (ids++ [idOf s]) (os++ [wu_ s]) else none
def aeY_ (l:List PartL):Option (List IdL×List ObL):=match allV l with
 | .ok ts=>apW_ ts [] []
 | .error _=>none
end Go.Proofs
end
section
open Go Go.Proofs Go.Sx
namespace Go.Proofs
set_option maxRecDepth 10000
set_option maxHeartbeats 4000000
set_option linter.unusedSimpArgs false
def hvL:List UInt32:= [0x00000000,0x1db71064,0x3b6e20c8,0x26d930ac,0x76dc4190,0x6b6b51f4,0x4db26158,0x5005713c,0xedb88320,0xf00f9344,0xd6d6a3e8,0xcb61b38c,0x9b64c2b0,0x86d3d2d4,0xa00ae278,0xbdbdf21c]
def abZ_ (n:UInt32):UInt32:=zS_ n 4^^^hvL.getD (n&&&15).toNat 0
def aiP_ (n:UInt32):Nat→UInt32
 |0=>n
 |k+1=>abZ_ (aiP_ n k)
def ail_ (n:UInt32) (b:UInt8):UInt32:=aiP_ (n^^^UInt32.ofNat b.toNat) 2
theorem alj_ (n:UInt32): (n&&&15).toNat<16:=by
 rw[UInt32.toNat_and]
 exact Nat.lt_of_le_of_lt Nat.and_le_right (by decide)
def GlobC (w:World):Prop:= ∃e f,w.heap[(2:Nat)]? =some (.cells (a32 hvL) e f)
theorem GlobC.of {w w':World} {L:zb_} (h:GlobC w) (hw:Hp w L w') (hn: (2:Nat)∉keys L):GlobC w':=by
 obtain⟨e,f,h⟩:=h
 exact⟨e,f,by rw[hw.old _ (Array.getElem?_eq_some_iff.1 h).1 hn];exact h⟩
theorem aqw_:hvL.length=16:=rfl
set_option linter.defProp false
def qf_:=And.intro (And.intro (@zp_) (@wd_)) (And.intro (@v4_) (And.intro (@vP_) (@zo_)))
theorem akq_ (n:UInt32) (b:UInt8) (w:World) (hG:GlobC w):
  Rets Tryz.prog 206 #[v32 n,v8 b] w (fun v D=>v=v32 (ail_ n b)∧D= []):=by
 obtain⟨e,f,htab⟩:=hG
 refine Rets.enterV Tryz.func206 rfl (rs:= [.tmp 4]) Tryz.results206 Tryz.ntmps206 ?_
 refine kf ?_
 first|with_reducible refine ks [] @qf_ ?_|refine kp @qf_ ?_
 unfold ail_
 generalize n^^^UInt32.ofNat b.toNat=m
 rw[show v32 m=v32 (aiP_ m 0) from rfl]
 refine Cw.loopG (G:=Nat) [10,11,12,13,14,15,16,17,0,18,9] (fun g=> [(0,v32 (aiP_ m g)),(9,vi g)]) (fun g=> []) (fun g=>g≤2) (fun g=>2 - g) 0 rfl rfl ?_ ?_
 ·omega
 intro g j hg
 refine kv ?_
 by_cases hlt:g<2
 ·have h15:=alj_ (aiP_ m g)
  have hl:=aqw_
  first|with_reducible refine ks [] (And.intro @qf_ @htab) ?_|refine kp (And.intro @qf_ @htab) ?_
  refine Again.mk (g+1) (by omega) (by omega) rfl rfl
 ·obtain rfl:g=2:=by omega
  first|with_reducible refine ks [] @qf_ ?_|refine kp @qf_ ?_
  refine⟨_,(ke @qf_),trivial, ?_⟩
  rfl
def abA_ (n:UInt32) (s:List UInt8):UInt32:=s.foldl ail_ n
theorem W1_ (n:UInt32) (s:List UInt8) (g:Nat) (h:g<s.length):abA_ n (s.take (g+1))=ail_ (abA_ n (s.take g)) (s.getD g 0):=by
 unfold abA_
 rw[List.take_succ_eq_append_getElem h,List.foldl_append,List.getD_eq_getElem?_getD,List.getElem?_eq_getElem h]
 rfl
theorem ale_ (n:UInt32) (s:List UInt8) (w:World) (hG:GlobC w) (hs:s.length<1099511627776):
  Rets Tryz.prog 173 #[v32 n,vs s] w (fun v D=>v=v32 (~~~ (abA_ (~~~ n) s))∧D= []):=by
 refine Rets.enterV Tryz.func173 rfl (rs:= [.tmp 4]) Tryz.results173 Tryz.ntmps173 ?_
 refine kf ?_
 first|with_reducible refine ks [] @qf_ ?_|refine kp @qf_ ?_
 rw[show v32 (~~~ n)=v32 (abA_ (~~~ n) (s.take 0)) from rfl]
 refine Cw.loopG (G:=Nat) [12,13,6,14,15,16,17,18,5,19,11] (fun g=> [(5,v32 (abA_ (~~~ n) (s.take g))),(11,vi g)]) (fun g=> []) (fun g=>g≤s.length) (fun g=>s.length - g) 0 rfl rfl ?_ ?_
 ·omega
 intro g j hg
 refine kv ?_
 by_cases hlt:g<s.length
 ·first|with_reducible refine ks [] @qf_ ?_|refine kp @qf_ ?_
  refine Ow.callFV rfl Tryz.call206 (fun w' hw'=>akq_ _ _ w' (GlobC.of hG hw' (by simp[keys]))) ?_
  refine ko @qf_ ?_
  first|with_reducible refine ks [] @qf_ ?_|refine kp @qf_ ?_
  refine Again.mk (g+1) (by omega) (by omega) rfl ?_
  rw[W1_ _ _ _ hlt]
  rfl
 ·obtain rfl:g=s.length:=by omega
  first|with_reducible refine ks [] @qf_ ?_|refine kp @qf_ ?_
  rw[List.take_length]
  refine⟨_,(ke @qf_),trivial, ?_⟩
  rfl
def crcV (s:List UInt8):UInt32:= ~~~ (abA_ (~~~ (0:UInt32)) s)
theorem amF_ (b:Nat) (s:List UInt8) (E:TypeId) (w:World) (hG:GlobC w) (hs:s.length<1099511627776) (ho:w.heap[b]? =some (.cells #[vs s] E (0,0))):
  Rets Tryz.prog 136 #[vsl b 0 1 1] w (fun v D=>v=v32 (crcV s)∧D= []):=by
 have hS:StrS w (vsl b 0 1 1) [s] b 0 #[vs s] E (0,0):=StrS.lit [s] rfl rfl ho
 refine Rets.enterV Tryz.func136 rfl (rs:= [.tmp 2]) Tryz.results136 Tryz.ntmps136 ?_
 refine kf ?_
 first|with_reducible refine ks [] @qf_ ?_|refine kp @qf_ ?_
 refine Cw.loopG (G:=Nat) [9,10,11,5,12,13,14,3,15,8] (fun g=> [(3,v32 (if g=0 then 0 else crcV s)),(8,vi g)]) (fun g=> []) (fun g=>g≤1) (fun g=>1 - g) 0 rfl rfl ?_ ?_
 ·omega
 intro g j hg
 refine kv ?_
 by_cases hlt:g<1
 ·obtain rfl:g=0:=by omega
  have hlg:=hS.get 0 (by simp)
  have hrd:=hS.has (by simp)
  have hix:=fun m=>hS.idx m 0 (by simp)
  ((try with_reducible refine Cw.go [] ?_);(try simp(disch:=(first|assumption|omega| (simp only[kK_,kw_,UInt64.reduceToNat];try omega))) only[↓Sx.S0,Sx.S1,Tryz.fx,qf_,Nat.reduceAdd,Nat.reducePow,Int.reducePow,Nat.reduceBEq, ↓reduceIte,UInt8.reduceToNat,UInt16.reduceToNat,UInt32.reduceToNat,UInt64.reduceToNat,Int.reduceToNat,Sx.loadV_one,hrd,hlg,hix]))
  refine Ow.callFV rfl Tryz.call173 (fun w' hw'=>ale_ 0 s w' (GlobC.of hG hw' (by simp[keys])) hs) ?_
  refine ko @qf_ ?_
  first|with_reducible refine ks [] @qf_ ?_|refine kp @qf_ ?_
  refine Again.mk 1 (by omega) (by omega) rfl rfl
 ·obtain rfl:g=1:=by omega
  first|with_reducible refine ks [] @qf_ ?_|refine kp @qf_ ?_
  refine⟨_,(ke @qf_),trivial, ?_⟩
  rfl
def Vf_ (n:UInt32) (g:Nat):List UInt8:=(List.range 4).map fun j=>if j<g then UInt8.ofNat (zS_ n (8*j)).toNat else 0
def sum4 (n:UInt32):List UInt8:=Vf_ n 4
theorem Wn_ (n:UInt32) (g:Nat): (Vf_ n g).length=4:=by simp[Vf_]
theorem afb_ (n:UInt32) (g:Nat) (h:g<4): (Vf_ n g).set g (UInt8.ofNat (zS_ n (8*g)).toNat)=Vf_ n (g+1):=by
 have:g=0∨g=1∨g=2∨g=3:=by omega
 rcases this with rfl|rfl|rfl|rfl<;>rfl
def Qr_ (s:List UInt8):List UInt8:=s++sum4 (crcV s)
theorem WL_ (s:List UInt8) (w:World) (hG:GlobC w) (hs:s.length<1099511627776):
  Rets Tryz.prog 100 #[vs s] w (fun v D=>v=vs (Qr_ s)∧D= []):=by
 have hgl: (2:Nat)<w.heap.size:=by obtain⟨e,f,h⟩:=hG;exact(Array.getElem?_eq_some_iff.1 h).1
 refine Rets.enterV Tryz.func100 rfl (rs:= [.tmp 2]) Tryz.results100 Tryz.ntmps100 ?_
 refine kf ?_
 first|with_reducible refine ks [] @qf_ ?_|refine kp @qf_ ?_
 refine Ow.buildSlice (e:=9) #[vs s] rfl rfl (by kernel_rfl) fun b1 hb1 hw1=> ?_
 refine ko @qf_ ?_
 refine Ow.callFV rfl Tryz.call136 (fun w' hw'=>amF_ b1 s _ w' (GlobC.of hG hw' (by simp[keys];omega)) hs (hw'.has _ _ List.mem_cons_self)) ?_
 refine ko @qf_ ?_
 first|with_reducible refine ks [] @qf_ ?_|refine kp @qf_ ?_
 unfold Qr_
 generalize crcV s=n
 refine Ow.alloc rfl rfl Tryz.zr209 fun b2 hb2 hw2=> ?_
 obtain⟨h12,-⟩:=hb2
 refine ko @qf_ ?_
 first|with_reducible refine ks [] @qf_ ?_|refine kp @qf_ ?_
 rw[show a8 (List.replicate 4 0)=a8 (Vf_ n 0) from rfl]
 refine Cw.loopG (G:=Nat) [10,11,5,12,13,14,15,16,17,18,19,9] (fun g=> [(9,vi g)]) (fun g=> [(b1, .cells #[vs s] 9 (0,0)),(b2, .cells (a8 (Vf_ n g)) 209 (0,0))]) (fun g=>g≤4) (fun g=>4 - g) 0 rfl rfl ?_ ?_
 ·omega
 intro g j hg
 refine kv ?_
 have hpl:=Wn_ n g
 by_cases hlt:g<4
 ·first|with_reducible refine ks [] @qf_ ?_|refine kp @qf_ ?_
  refine Again.mk (g+1) (by omega) (by omega) ?_ rfl
  rw[afb_ n g hlt]
 ·obtain rfl:g=4:=by omega
  first|with_reducible refine ks [] @qf_ ?_|refine kp @qf_ ?_
  refine⟨_,(ke @qf_),⟨hw1,hw2,trivial⟩, ?_⟩
  rw[List.drop_zero,List.take_of_length_le (by omega)];rfl
def z1_ (s:List UInt8):List UInt8×Bool:=
 if s.length<4 then([],false) else if Qr_ (s.take (s.length - 4))=s then(s.take (s.length - 4),true) else([],false)
theorem K2_ (s:List UInt8): (Qr_ s).length=s.length+4:=by unfold Qr_ sum4;rw[List.length_append,Wn_]
theorem acz_ (s:List UInt8) (w:World) (hG:GlobC w) (hs:s.length<1099511627776):
  Rets Tryz.prog 101 #[vs s] w (fun v D=>v= .tuple #[vs (z1_ s).1, .bool (z1_ s).2]∧D= []):=by
 refine Rets.enterV Tryz.func101 rfl (rs:= [.tmp 2, .tmp 3]) Tryz.results101 Tryz.ntmps101 ?_
 refine kf ?_
 first|with_reducible refine ks [] @qf_ ?_|refine kp @qf_ ?_
 unfold z1_
 by_cases h4:s.length<4
 ·have e1:decide ((s.length:Int)<4)=true:=decide_eq_true (by omega)
  rw[if_pos h4]
  first|with_reducible refine ks [] (And.intro @qf_ @e1) ?_|refine kp (And.intro @qf_ @e1) ?_
  refine⟨_,(ke @qf_),trivial, ?_⟩
  rfl
 ·have e1:decide ((s.length:Int)<4)=false:=decide_eq_false (by omega)
  have e2: ((s.length:Int) - 4).toNat=s.length - 4:=by omega
  rw[if_neg h4]
  first|with_reducible refine ks [] (And.intro @qf_ (And.intro @e1 (@e2))) ?_|refine kp (And.intro @qf_ (And.intro @e1 (@e2))) ?_
  refine Ow.callFV rfl Tryz.call100 (fun w' hw'=>WL_ (s.take (s.length - 4)) w' (GlobC.of hG hw' (by simp[keys])) (by rw[List.length_take];omega)) ?_
  refine ko @qf_ ?_
  cases hq: (Qr_ (s.take (s.length - 4)) !=s)
  ·rw[if_pos (by simpa using hq)]
   first|with_reducible refine ks [] (And.intro @qf_ (And.intro @hq (@e2))) ?_|refine kp (And.intro @qf_ (And.intro @hq (@e2))) ?_
   refine⟨_,(ke @qf_),trivial, ?_⟩
   rfl
  ·rw[if_neg (by simpa using hq)]
   first|with_reducible refine ks [] (And.intro @qf_ @hq) ?_|refine kp (And.intro @qf_ @hq) ?_
   refine⟨_,(ke @qf_),trivial, ?_⟩
   rfl
end Go.Proofs
end
section
open Go Go.Proofs Go.Sx Go.StP Go.Flo
namespace Go.Proofs
set_option maxRecDepth 10000
set_option maxHeartbeats 400000
set_option linter.unusedSimpArgs false
def magB:List UInt8:= [83,80,75,49]
def Xc_ (s:List UInt8) (i a:Nat) (e:Int):PartL×Nat×Int:=
 (⟨decide (0< (zD_ s a e 200).1),if 0< (zD_ s a e 200).1 then(i:Int) - (zD_ s a e 200).1 else 0,(zL_ s (zD_ s a e 200).2.1 (zD_ s a e 200).2.2 65536).1⟩,(zL_ s (zD_ s a e 200).2.1 (zD_ s a e 200).2.2 65536).2)
def jR_ (s:List UInt8):Nat→Nat→Nat→Int→List PartL×List Nat×Nat×Int
 |0,_,a,e=>([],[],a,e)
 |k+1,i,a,e=>if(Xc_ s i a e).2.2=0 then((Xc_ s i a e).1:: (jR_ s k (i+1) (Xc_ s i a e).2.1 0).1,a:: (jR_ s k (i+1) (Xc_ s i a e).2.1 0).2.1,(jR_ s k (i+1) (Xc_ s i a e).2.1 0).2.2) else([],[],(Xc_ s i a e).2)
def kN_ (s:List UInt8):Int×Bool×Nat×Int:=
 if(jw_ s 0 0 4).1=magB then((zD_ s (jw_ s 0 0 4).2.1 (jw_ s 0 0 4).2.2 200).1,(zD_ s (jw_ s 0 0 4).2.1 (jw_ s 0 0 4).2.2 200).2.2==0,(zD_ s (jw_ s 0 0 4).2.1 (jw_ s 0 0 4).2.2 200).2) else(0,false,(jw_ s 0 0 4).2)
def vD_ (s:List UInt8):List PartL×List Nat×Nat×Int:=jR_ s (kN_ s).1.toNat 0 (kN_ s).2.2.1 (kN_ s).2.2.2
instance:DecidableEq ObL:=fun a b=>if h:a.k=b.k∧a.t=b.t then .isTrue (by cases a;cases b;simp only at h;obtain⟨rfl,rfl⟩:=h;rfl) else .isFalse (fun e=>h (by rw[e];exact⟨rfl,rfl⟩))
def vi_ (l:List PartL):Nat→List ObL
 |0=> []
 |k+1=>match partV l (k:Nat) with
  | .ok s=>if Jd_ s=true∧wu_ s∉vi_ l k then vi_ l k++ [wu_ s] else vi_ l k
  | .error _=>vi_ l k
def aaQ_ (b:List UInt8):List ObL:=if(kN_ b).2.1=true then vi_ (vD_ b).1 (vD_ b).1.length else []
end Go.Proofs
end
